/- Gens, the reference: Room. -/
import Derived.Test.YtnimaifmcejkcaaGB
section
set_option linter.unusedSimpArgs false
set_option linter.unusedVariables false
set_option maxRecDepth 100000
namespace Go.Proofs.Ytnimaifmcejkcaa
open Go Go.W

/-- The reference's arena. -/
def RAt (w : World) (a : Nat) (size young : Int) (old : Nat) (times : Int) (ns : List Nd) (F : Nat → Prop) : Prop :=
  ∃ cv, w.heap[a]? = some (.cells #[I size, I young, cv, I old, I times] 74 (0, 0)) ∧ F a ∧ FromAt 38 w cv ns F
theorem fromAt_val {Tc : Nat} {w : World} {cf : Value} {ns : List Nd} {F : Nat → Prop} (h : FromAt Tc w cf ns F) : ∃ a c, cf = .slice a ns.length c ∧ ns.length ≤ c := by
  obtain ⟨fpc, ps, h1, _⟩ := h
  obtain ⟨a, c, e, h, _⟩ := h1.val
  exact ⟨a, c, e, h⟩
theorem rat_mod {w w' : World} {a : Nat} {size young : Int} {old : Nat} {times : Int} {ns : List Nd} {F S : Nat → Prop} (h : RAt w a size young old times ns F) (hm : Mod S w w') (hd : ∀ b, F b → ¬ S b) : RAt w' a size young old times ns F := by
  obtain ⟨cv, h1, h2, h3⟩ := h
  exact ⟨cv, hm.at h1 (hd a h2), h2, h3.mod hm hd⟩
theorem rat_lt {w : World} {a : Nat} {size young : Int} {old : Nat} {times : Int} {ns : List Nd} {F : Nat → Prop} (h : RAt w a size young old times ns F) : ∀ b, F b → b < w.heap.size := by
  obtain ⟨cv, h1, h2, ⟨_, _, _, _, _, _, h3⟩⟩ := h
  exact h3
def RHas (w : World) (a n old : Nat) : Prop := ∃ c0 c1 ba c c4, w.heap[a]? = some (.cells #[c0, c1, .slice ba n c, I old, c4] 74 (0, 0))
theorem rat_has {w : World} {a : Nat} {size young : Int} {old : Nat} {times : Int} {ns : List Nd} {F : Nat → Prop} (h : RAt w a size young old times ns F) : RHas w a ns.length old := by
  obtain ⟨cv, h1, h2, h3⟩ := h
  obtain ⟨x, c, rfl, _⟩ := fromAt_val h3
  exact ⟨_, _, x, c, _, h1⟩
theorem rhas_mod {w w' : World} {a n old : Nat} {S : Nat → Prop} (h : RHas w a n old) (hm : Mod S w w') (ha : ¬ S a) : RHas w' a n old := by
  obtain ⟨c0, c1, ba, c, c4, h1⟩ := h
  exact ⟨c0, c1, ba, c, c4, hm.at h1 ha⟩

theorem rmay_ok (k n : Int) (v : Value) (xs : List Int) (w : World) (hx : Ints w v xs) :
    CallsR Try.prog 56 [.agg #[I k, I n, v]] w fun r w' => r = .bool (mayB k n xs.length) ∧ Mod (fun _ => False) w w' := by
  obtain ⟨a, c, rfl, hl, _⟩ := hx
  refine fit56.calls rfl ?_
  unfold ir56
  (try simp only [go_sem, Nat.reduceAdd, Nat.reduceEqDiff, Nat.reduceLT, Nat.reduceLeDiff, Nat.reduceMul, reduceCtorEq, ↓reduceIte])
  refine e_bx rfl ?_
  intro w1 hb hm _
  have hlt := lt_of_heap hb
  (try simp only [go_sem, Nat.reduceAdd, Nat.reduceEqDiff, Nat.reduceLT, Nat.reduceLeDiff, Nat.reduceMul, reduceCtorEq, ↓reduceIte, cell_of hb])
  repeat' (first | (refine ir_cond rfl (fun h => ?_) (fun h => ?_) <;> (try simp only [go_sem, Nat.reduceAdd, Nat.reduceEqDiff, Nat.reduceLT, Nat.reduceLeDiff, Nat.reduceMul, reduceCtorEq, ↓reduceIte, cell_of hb, h])) | (refine wpS_gr rfl (fun h => ?_) (fun h => ?_) <;> (try simp only [go_sem, Nat.reduceAdd, Nat.reduceEqDiff, Nat.reduceLT, Nat.reduceLeDiff, Nat.reduceMul, reduceCtorEq, ↓reduceIte, cell_of hb, h])))
  all_goals (refine ⟨?_, hm⟩; congr 1; rw [Bool.eq_iff_iff]; unfold mayB; simp only [decide_eq_true_eq, decide_eq_false_iff_not, beq_iff_eq, beq_eq_false_iff_ne, bne_iff_ne, bne_eq_false_iff_eq, ne_eq, Bool.false_eq_true, Bool.true_eq_false, iff_true, iff_false, true_iff, false_iff, Decidable.not_not] at *; omega)

theorem rplaces_ok (w : World) (a n old : Nat) (l : Value) (xs : List Int) (ha : RHas w a n old) (hx : Ints w l xs) :
    CallsR Try.prog 57 [.pointer (some ⟨a, 0, none⟩), l] w fun v w' => v = .bool (okPl n xs) ∧ Mod (fun _ => False) w w' := by
  obtain ⟨c0, c1, ba, c, c4, ha⟩ := ha
  obtain ⟨la, lc, rfl, hl, hx⟩ := hx
  refine fit57.calls rfl ?_
  unfold ir57
  (try simp only [go_sem, Nat.reduceAdd, Nat.reduceEqDiff, Nat.reduceLT, Nat.reduceLeDiff, Nat.reduceMul, reduceCtorEq, ↓reduceIte])
  refine ir_loop (fun m ρ w' => ∃ k : Nat, m = xs.length - k ∧ k ≤ xs.length ∧ Mod (fun _ => False) w w' ∧ okPl n (xs.take k) = true ∧
    ρ = [(0, .pointer (some ⟨a, 0, none⟩)), (1, .slice la xs.length lc), (5, .int .i64 k)]) xs.length ⟨0, rfl, by omega, Mod.refl _ _, by simp [okPl], rfl⟩ ?_
  rintro m ρ w1 ⟨k, rfl, hk, hm1, hall, rfl⟩
  unfold ir57L1
  have ha1 := hm1.at ha (fun h => h)
  (try simp only [go_sem, Nat.reduceAdd, Nat.reduceEqDiff, Nat.reduceLT, Nat.reduceLeDiff, Nat.reduceMul, reduceCtorEq, ↓reduceIte])
  refine ir_cond rfl (fun h => ?_) (fun h => ?_)
  · have hlt : k < xs.length := by simpa using h
    obtain ⟨ad, rfl, hc⟩ := hx k hlt
    have hc := hm1.cell hc (fun h => h)
    have c1 : (0 : Int) ≤ k ∧ (k : Int) < xs.length := by omega
    (try simp only [go_sem, Nat.reduceAdd, Nat.reduceEqDiff, Nat.reduceLT, Nat.reduceLeDiff, Nat.reduceMul, reduceCtorEq, ↓reduceIte, Nat.mul_one, Int.toNat_natCast, Int.toNat_zero, Nat.sub_zero, Nat.sub_self, c1, hc])
    refine wpS_cut (fun ρ w2 => w2 = w1.drew ∧ ρ.get 0 = some (.pointer (some ⟨a, 0, none⟩)) ∧ ρ.get 1 = some (.slice (some ad) xs.length lc) ∧ ρ.get 5 = some (I k) ∧ ρ.get 28 = some (.bool (!(decide (0 ≤ xs[k]) && decide (xs[k] < n))))) ?_ ?_
    · refine wpS_gr rfl (fun hg => ?_) (fun hg => ?_)
      · (try simp only [go_sem, Nat.reduceAdd, Nat.reduceEqDiff, Nat.reduceLT, Nat.reduceLeDiff, Nat.reduceMul, reduceCtorEq, ↓reduceIte, Nat.mul_one, Int.toNat_natCast, Int.toNat_zero, Nat.sub_zero, Nat.sub_self, hg])
        congr 1; rw [Bool.eq_iff_iff]; simp at hg ⊢; omega
      · (try simp only [go_sem, Nat.reduceAdd, Nat.reduceEqDiff, Nat.reduceLT, Nat.reduceLeDiff, Nat.reduceMul, reduceCtorEq, ↓reduceIte, Nat.mul_one, Int.toNat_natCast, Int.toNat_zero, Nat.sub_zero, Nat.sub_self, hg, c1, hc, cell_of ha1])
        congr 1; rw [Bool.eq_iff_iff]; simp at hg ⊢; omega
    rintro ρ _ ⟨rfl, r0, r1, r5, r28⟩
    (try simp only [go_sem, Nat.reduceAdd, Nat.reduceEqDiff, Nat.reduceLT, Nat.reduceLeDiff, Nat.reduceMul, reduceCtorEq, ↓reduceIte, r0, r1, r5, r28])
    refine ir_cond rfl (fun h2 => ?_) (fun h2 => ?_)
    · (try simp only [go_sem, Nat.reduceAdd, Nat.reduceEqDiff, Nat.reduceLT, Nat.reduceLeDiff, Nat.reduceMul, reduceCtorEq, ↓reduceIte])
      refine ⟨?_, hm1.drew⟩
      rw [okPl, List.all_eq_false.2 ⟨xs[k], List.getElem_mem _, by simp at h2; simp; omega⟩]
    · have hw : IntKind.i64.wrap ((k : Int) + 1) = ((k + 1 : Nat) : Int) := by rw [wrap_in] <;> omega
      (try simp only [go_sem, Nat.reduceAdd, Nat.reduceEqDiff, Nat.reduceLT, Nat.reduceLeDiff, Nat.reduceMul, reduceCtorEq, ↓reduceIte, hw])
      refine ⟨_, ?_, k + 1, rfl, hlt, hm1.drew, ?_, rfl⟩
      · omega
      · unfold okPl at hall ⊢
        rw [List.take_succ_eq_append_getElem hlt, List.all_append, hall]
        simp at h2; simp; omega
  · have hk' : k = xs.length := by simp at h; omega
    subst hk'
    (try simp only [go_sem, Nat.reduceAdd, Nat.reduceEqDiff, Nat.reduceLT, Nat.reduceLeDiff, Nat.reduceMul, reduceCtorEq, ↓reduceIte])
    rw [List.take_length] at hall
    exact ⟨by rw [hall], hm1⟩

theorem rcopied_ok (v : Value) (xs : List Int) (w : World) (hx : Ints w v xs) :
    CallsR Try.prog 58 [v] w fun r w' => Mod (fun _ => False) w w' ∧ ∃ fp, Own w' 3 1 r (xs.map I) xs.length fp ∧ ∀ x, fp = some x → w.heap.size ≤ x := by
  have hx0 := hx
  obtain ⟨a, c, rfl, hl, _⟩ := hx0
  refine fit58.calls rfl ?_
  unfold ir58
  (try simp only [go_sem, Nat.reduceAdd, Nat.reduceEqDiff, Nat.reduceLT, Nat.reduceLeDiff, Nat.reduceMul, reduceCtorEq, ↓reduceIte])
  obtain ⟨_, hr, hna⟩ := hx.rd
  refine e_ap (m := xs.length) (news := xs.map I) rfl (Own.nil w 3 1) rfl hna hr (oneI xs) rfl (by omega) (by omega) ?_
  intro v5 w5 fp5 ho5 hm5 hf5
  (try simp only [go_sem, Nat.reduceAdd, Nat.reduceEqDiff, Nat.reduceLT, Nat.reduceLeDiff, Nat.reduceMul, reduceCtorEq, ↓reduceIte])
  refine ⟨hm5.weak (fun x hx => by cases hx), fp5, by simpa using ho5, fun x hx => ?_⟩
  rcases hf5 x hx with h | h
  · cases h
  · omega

theorem rused_ok (w : World) (a : Nat) (size young : Int) (old : Nat) (times : Int) (ns : List Nd) (F : Nat → Prop) (h : RAt w a size young old times ns F) : CallsR Try.prog 11 [.pointer (some ⟨a, 0, none⟩)] w fun r w' => r = I ns.length ∧ w = w' := by
  obtain ⟨c0, c1, ba, c, c4, h1⟩ := rat_has h
  refine fit11.calls rfl ?_
  unfold ir11
  (try simp only [go_sem, Nat.reduceAdd, Nat.reduceEqDiff, Nat.reduceLT, Nat.reduceLeDiff, Nat.reduceMul, reduceCtorEq, ↓reduceIte, cell_of h1])
theorem rtimes_ok (w : World) (a : Nat) (size young : Int) (old : Nat) (times : Int) (ns : List Nd) (F : Nat → Prop) (h : RAt w a size young old times ns F) : CallsR Try.prog 13 [.pointer (some ⟨a, 0, none⟩)] w fun r w' => r = I times ∧ w = w' := by
  obtain ⟨cv, h1, _⟩ := h
  refine fit13.calls rfl ?_
  unfold ir13
  (try simp only [go_sem, Nat.reduceAdd, Nat.reduceEqDiff, Nat.reduceLT, Nat.reduceLeDiff, Nat.reduceMul, reduceCtorEq, ↓reduceIte, cell_of h1])
theorem rnew_ok (size young : Int) (w : World) :
    CallsR Try.prog 8 [I size, I young] w fun r w' => (1 ≤ size ∧ size ≤ 1048576 ∧ 1 ≤ young ∧ young ≤ size → ∃ a F, r = .tuple #[.pointer (some ⟨a, 0, none⟩), I 0] ∧ RAt w' a size young 0 0 [] F ∧ Mod (fun _ => False) w w' ∧ (∀ x, F x → w.heap.size ≤ x)) ∧
      (¬ (1 ≤ size ∧ size ≤ 1048576 ∧ 1 ≤ young ∧ young ≤ size) → r = .tuple #[.pointer none, I 210] ∧ w = w') := by
  refine fit8.calls rfl ?_
  unfold ir8
  by_cases g : 1 ≤ size ∧ size ≤ 1048576 ∧ 1 ≤ young ∧ young ≤ size
  · have e1 : decide (size < 1) = false := by simp; omega
    have e2 : decide (size > 1048576) = false := by simp; omega
    have e3 : decide (young < 1) = false := by simp; omega
    have e4 : decide (young > size) = false := by simp; omega
    (try simp only [go_sem, Nat.reduceAdd, Nat.reduceEqDiff, Nat.reduceLT, Nat.reduceLeDiff, Nat.reduceMul, reduceCtorEq, ↓reduceIte, e1, e2, e3, e4])
    refine e_bx rfl ?_
    intro w2 hb2 hm2 hs2
    have hb2 : w2.heap[w.heap.size]? = some (.cells #[I size, I young, .slice none 0 0, I 0, I 0] 74 (0, 0)) := hb2
    (try simp only [go_sem, Nat.reduceAdd, Nat.reduceEqDiff, Nat.reduceLT, Nat.reduceLeDiff, Nat.reduceMul, reduceCtorEq, ↓reduceIte])
    refine ⟨fun _ => ⟨w.heap.size, fun x => x = w.heap.size, rfl, ⟨_, hb2, rfl, ⟨none, [], Own.nil _ _ _, (fun b hb => by cases hb), (fun p hp => by cases hp), rfl, fun b hb => by omega⟩⟩, hm2, fun x hx => by omega⟩, fun hh => absurd g hh⟩
  · by_cases a1 : size < 1
    · have e1 : decide (size < 1) = true := by simp; omega
      (try simp only [go_sem, Nat.reduceAdd, Nat.reduceEqDiff, Nat.reduceLT, Nat.reduceLeDiff, Nat.reduceMul, reduceCtorEq, ↓reduceIte, e1])
      exact ⟨fun hh => absurd hh g, fun _ => trivial⟩
    have e1 : decide (size < 1) = false := by simp; omega
    by_cases a2 : size > 1048576
    · have e2 : decide (size > 1048576) = true := by simp; omega
      (try simp only [go_sem, Nat.reduceAdd, Nat.reduceEqDiff, Nat.reduceLT, Nat.reduceLeDiff, Nat.reduceMul, reduceCtorEq, ↓reduceIte, e1, e2])
      exact ⟨fun hh => absurd hh g, fun _ => trivial⟩
    have e2 : decide (size > 1048576) = false := by simp; omega
    by_cases a3 : young < 1
    · have e3 : decide (young < 1) = true := by simp; omega
      (try simp only [go_sem, Nat.reduceAdd, Nat.reduceEqDiff, Nat.reduceLT, Nat.reduceLeDiff, Nat.reduceMul, reduceCtorEq, ↓reduceIte, e1, e2, e3])
      exact ⟨fun hh => absurd hh g, fun _ => trivial⟩
    have e3 : decide (young < 1) = false := by simp; omega
    have e4 : decide (young > size) = true := by simp; omega
    (try simp only [go_sem, Nat.reduceAdd, Nat.reduceEqDiff, Nat.reduceLT, Nat.reduceLeDiff, Nat.reduceMul, reduceCtorEq, ↓reduceIte, e1, e2, e3, e4])
    exact ⟨fun hh => absurd hh g, fun _ => trivial⟩
end Go.Proofs.Ytnimaifmcejkcaa
end

section
set_option linter.unusedSimpArgs false
set_option linter.unusedVariables false
set_option maxRecDepth 100000
namespace Go.Proofs.Ytnimaifmcejkcaa
open Go Go.W

theorem radd_ok (w : World) (a : Nat) (size young : Int) (old : Nat) (times : Int) (ns : List Nd) (nd : Nd) (v : Value) (F : Nat → Prop) (h : RAt w a size young old times ns F) (hn : ns.length ≤ 1048576) (hx0 : Ints w v nd.args) :
    CallsR Try.prog 31 [.pointer (some ⟨a, 0, none⟩), .agg #[I nd.kind, I nd.num, v]] w fun r w' => r = .tuple #[I (gaddS size ns nd).1, I (gaddS size ns nd).2.1] ∧ ∃ F', RAt w' a size young old times (gaddS size ns nd).2.2 F' ∧ Grow F F' w w' := by
  have hx := hx0
  obtain ⟨va, vc, rfl, hl, _⟩ := hx0
  refine fit31.calls rfl ?_
  unfold ir31
  (try simp only [go_sem, Nat.reduceAdd, Nat.reduceEqDiff, Nat.reduceLT, Nat.reduceLeDiff, Nat.reduceMul, reduceCtorEq, ↓reduceIte])
  refine e_bx rfl ?_
  intro w1 hb1 hm1 hs1
  have hb1 : w1.heap[w.heap.size]? = some (.cells #[I nd.kind, I nd.num, .slice va nd.args.length vc] 38 (0, 0)) := hb1
  have h1 := rat_mod h hm1 (fun _ _ h => h)
  have hx1 := hx.mod hm1 (fun _ _ h => h)
  have hd : vLN w1 3 (.pointer (some ⟨w.heap.size, 0, none⟩)) = some (.agg #[I nd.kind, I nd.num, .slice va nd.args.length vc]) := ln_of hb1 (off := 0) (n := 3) (by simp)
  have same : ∀ w2, Mod (fun _ => False) w1 w2 → ∃ F', RAt w2 a size young old times ns F' ∧ Grow F F' w w2 := fun w2 hm2 =>
    ⟨F, rat_mod h1 hm2 (fun _ _ h => h), (hm1.trans hm2).weak (fun _ h => h.elim), fun b hb => .inl hb⟩
  (try simp only [go_sem, Nat.reduceAdd, Nat.reduceEqDiff, Nat.reduceLT, Nat.reduceLeDiff, Nat.reduceMul, reduceCtorEq, ↓reduceIte, hd])
  refine e_call (by rfl) ?_
  refine (rmay_ok nd.kind nd.num _ nd.args w1 hx1).mono ?_
  rintro r w2 ⟨rfl, hm2⟩
  have hb2 := hm2.at hb1 (fun h => h)
  have hx2 := hx1.mod hm2 (fun _ _ h => h)
  have h2 := rat_mod h1 hm2 (fun _ _ h => h)
  (try simp only [go_sem, Nat.reduceAdd, Nat.reduceEqDiff, Nat.reduceLT, Nat.reduceLeDiff, Nat.reduceMul, reduceCtorEq, ↓reduceIte, cell_of hb2])
  refine e_call (by rfl) ?_
  refine (rplaces_ok w2 a ns.length old _ nd.args (rat_has h2) hx2).mono ?_
  rintro r w3 ⟨rfl, hm3⟩
  have hm23 := hm2.trans hm3
  have hb3' := hm3.at hb2 (fun h => h)
  (try simp only [go_sem, Nat.reduceAdd, Nat.reduceEqDiff, Nat.reduceLT, Nat.reduceLeDiff, Nat.reduceMul, reduceCtorEq, ↓reduceIte])
  refine ir_cond rfl (fun hc => ?_) (fun hc => ?_)
  · (try simp only [go_sem, Nat.reduceAdd, Nat.reduceEqDiff, Nat.reduceLT, Nat.reduceLeDiff, Nat.reduceMul, reduceCtorEq, ↓reduceIte])
    have hc' : nd.may = false := by simpa [Nd.may] using hc
    exact ⟨by simp [gaddS, hc'], by simpa [gaddS, hc'] using same w3 hm23⟩
  have hc1 : nd.may = true := by simpa [Nd.may] using hc
  (try simp only [go_sem, Nat.reduceAdd, Nat.reduceEqDiff, Nat.reduceLT, Nat.reduceLeDiff, Nat.reduceMul, reduceCtorEq, ↓reduceIte])
  refine ir_cond rfl (fun hc => ?_) (fun hc => ?_)
  · (try simp only [go_sem, Nat.reduceAdd, Nat.reduceEqDiff, Nat.reduceLT, Nat.reduceLeDiff, Nat.reduceMul, reduceCtorEq, ↓reduceIte])
    have hc' : okPl ns.length nd.args = false := by simpa using hc
    exact ⟨by simp [gaddS, hc', hc1], by simpa [gaddS, hc', hc1] using same w3 hm23⟩
  have hc2 : okPl ns.length nd.args = true := by simpa using hc
  have h3 := rat_mod h2 hm3 (fun _ _ h => h)
  obtain ⟨cv, g1, g2, g3⟩ := h3
  obtain ⟨ca, cc, rfl, _⟩ := fromAt_val g3
  (try simp only [go_sem, Nat.reduceAdd, Nat.reduceEqDiff, Nat.reduceLT, Nat.reduceLeDiff, Nat.reduceMul, reduceCtorEq, ↓reduceIte, cell_of g1])
  have hw3 : Mod (fun _ => False) w3 w3.drew := ⟨Nat.le_refl _, fun _ _ _ => rfl, rfl, rfl, rfl⟩
  refine ir_cond rfl (fun hc => ?_) (fun hc => ?_)
  · (try simp only [go_sem, Nat.reduceAdd, Nat.reduceEqDiff, Nat.reduceLT, Nat.reduceLeDiff, Nat.reduceMul, reduceCtorEq, ↓reduceIte])
    have hc' : (ns.length : Int) ≥ size := by simpa using hc
    exact ⟨by simp [gaddS, hc', hc1, hc2], by simpa [gaddS, hc', hc1, hc2] using same w3.drew (hm23.trans hw3)⟩
  have hc3 : ¬ (ns.length : Int) ≥ size := by simpa using hc
  have hb3 := hw3.at hb3' (fun h => h)
  have hx3 := hx2.mod (hm3.trans hw3) (fun _ _ h => h)
  (try simp only [go_sem, Nat.reduceAdd, Nat.reduceEqDiff, Nat.reduceLT, Nat.reduceLeDiff, Nat.reduceMul, reduceCtorEq, ↓reduceIte, cell_of hb3, cell_of hb3'])
  refine e_call (by rfl) ?_
  refine (rcopied_ok _ nd.args w3.drew hx3).mono ?_
  rintro q w4 ⟨hm4, f4, o4, n4⟩
  have hm4' := hw3.trans hm4
  obtain ⟨va4, vc4, rfl, _, _⟩ := o4.val
  have hb4 := hm4.at hb3 (fun h => h)
  (try simp only [go_sem, Nat.reduceAdd, Nat.reduceEqDiff, Nat.reduceLT, Nat.reduceLeDiff, Nat.reduceMul, reduceCtorEq, ↓reduceIte])
  refine e_st1 (off := 2) rfl rfl hb4 rfl (by simp) ?_
  intro w5 hb5 hm5 hs5
  have hb5 : w5.heap[w.heap.size]? = some (.cells #[I nd.kind, I nd.num, .slice va4 nd.args.length vc4] 38 (0, 0)) := hb5
  have lw := lt_of_heap hb1
  have s2 := hm2.size; have s3 := hm3.size; have s4 := hm4.size
  have hFl := rat_lt h
  have hF0 : ∀ b, F b → ¬ b = w.heap.size := fun b hb hh => by have := hFl b hb; omega
  have hm35 : Mod (fun x => x = w.heap.size) w3 w5 := (hm4'.weak (fun _ h => h.elim)).step hm5 (fun x hx _ => hx)
  have ga := hm35.at g1 (hF0 a g2)
  have gc := g3.mod hm35 hF0
  have o5 := o4.mod hm5 (fun b hb hh => by have := n4 b hb; have : w3.drew.heap.size = w3.heap.size := rfl; omega)
  have hd5 : vLN w5.drew 3 (.pointer (some ⟨w.heap.size, 0, none⟩)) = some (.agg #[I nd.kind, I nd.num, .slice va4 nd.args.length vc4]) := ln_of (w := w5.drew) hb5 (off := 0) (n := 3) (by simp)
  (try simp only [go_sem, Nat.reduceAdd, Nat.reduceEqDiff, Nat.reduceLT, Nat.reduceLeDiff, Nat.reduceMul, reduceCtorEq, ↓reduceIte, cell_of ga, hd5])
  have hwd : Mod (fun _ => False) w5 w5.drew := ⟨Nat.le_refl _, fun _ _ _ => rfl, rfl, rfl, rfl⟩
  refine e_bs (by rfl) (by (try simp only [go_sem, Nat.reduceAdd, Nat.reduceEqDiff, Nat.reduceLT, Nat.reduceLeDiff, Nat.reduceMul, reduceCtorEq, ↓reduceIte]); rfl) ?_
  intro w6 hb6 hm6 hs6
  have hm56 := hwd.trans hm6
  have hm36 : Mod (fun x => x = w.heap.size) w3 w6 := hm35.step hm56 (fun _ h _ => h.elim)
  have ga6 := hm56.at ga (fun h => h)
  (try simp only [go_sem, Nat.reduceAdd, Nat.reduceEqDiff, Nat.reduceLT, Nat.reduceLeDiff, Nat.reduceMul, reduceCtorEq, ↓reduceIte])
  refine ⟨hm6.old _ (lt_of_heap ga) (fun h => h), ?_⟩
  have o6 := o5.mod hm56 (fun _ _ h => h)
  obtain ⟨fpc, ps, c1, c2, c3, c4, c5⟩ := gc
  have c16 := c1.mod hm56 (fun _ _ h => h)
  have c36 := c3.mod hm56 (fun _ _ h => h)
  have hps : ps.length = ns.length := by rw [← c4]; simp
  refine e_ap (m := 1) (news := nc (nd, .slice va4 nd.args.length vc4)) rfl c16 rfl (fun h => by cases h) (rd_block hb6) (by simp [nc, Value.oneCell']) rfl (by omega) (by omega) ?_
  intro v7 w7 fp7 ho7 hm7 hf7
  have hne : fpc ≠ some a := own_ne c16 ga6 (by decide)
  have ga7 := hm7.at ga6 hne
  obtain ⟨va7, vc7, rfl, _⟩ := ho7.val
  have c37 := c36.mod' hm7 (fun b cs fz hb hc => own_kind c16 hb hc (by decide))
  have o7 := o6.mod hm7 (fun b hb hh => own_apart o6 c16 (by decide) hb hh)
  (try simp only [go_sem, Nat.reduceAdd, Nat.reduceEqDiff, Nat.reduceLT, Nat.reduceLeDiff, Nat.reduceMul, reduceCtorEq, ↓reduceIte])
  refine e_st1 (off := 2) rfl rfl ga7 rfl (by simp) ?_
  intro w8 hb8 hm8 hs8
  have hb8 : w8.heap[a]? = some (.cells #[I size, I young, .slice va7 (ns.length + 1) vc7, I old, I times] 74 (0, 0)) := hb8
  have hw : IntKind.i64.wrap (((ns.length + 1 : Nat) : Int) - 1) = ns.length := by rw [wrap_in] <;> omega
  (try simp only [go_sem, Nat.reduceAdd, Nat.reduceEqDiff, Nat.reduceLT, Nat.reduceLeDiff, Nat.reduceMul, reduceCtorEq, ↓reduceIte, cell_of hb8, hw])
  have hn7 : fp7 ≠ some a := own_ne ho7 ga7 (by decide)
  have c38 := c37.mod' hm8 (fun b cs fz hb hc => kind_ne ga7 (hb ▸ hc) (by decide))
  have o8 := o7.mod hm8 (fun b hb hh => own_ne o7 ga7 (by decide) (by rw [hb, hh]))
  have s5 : w5.heap.size = w4.heap.size := hs5
  have s6 := hm56.size; have s7 := hm7.size; have s8 := hm8.size
  have hall : Mod F w w8 := ((((((hm1.weak (fun _ h => h.elim)).step hm2 (fun _ h _ => h.elim)).step hm3 (fun _ h _ => h.elim)).step hm35 (fun x hx hlt => by omega)).step hm56 (fun _ h _ => h.elim)).step hm7 (fun i h _ => c2 i h)).step hm8 (fun i h _ => h ▸ g2)
  have hadd : gaddS size ns nd = ((ns.length : Int), 0, ns ++ [nd]) := by
    unfold gaddS
    rw [if_neg (by simp [hc1]), if_neg (by simp [hc2]), if_neg hc3]
  have w30 : w3.drew.heap.size = w3.heap.size := rfl
  refine ⟨by rw [hadd], fun b => F b ∨ f4 = some b ∨ fp7 = some b, ?_, hall, ?_⟩
  · rw [hadd]
    refine ⟨_, hb8, .inl g2, fp7, ps ++ [(nd, .slice va4 nd.args.length vc4)], ?_, fun b hb => .inr (.inr hb), (c38.weak (fun b hb => .inl hb)).app (fun p hp => ?_), by simp [c4], ?_⟩
    · rw [flat_app, flat_one]
      simpa using ho7.mod hm8 (fun b hb hh => hn7 (by rw [hb, hh]))
    · simp only [List.mem_cons, List.not_mem_nil, or_false] at hp; subst hp
      exact ⟨f4, o8, fun b hb => .inr (.inl hb)⟩
    · intro b hb
      rcases hb with hb | hb | hb
      · have := hFl b hb; omega
      · have := o8.lt hb; omega
      · have := ho7.lt hb; omega
  · intro b hb
    rcases hb with hb | hb | hb
    · exact .inl hb
    · have := n4 b hb; exact .inr (by omega)
    · rcases hf7 b hb with h | h
      · exact .inl (c2 b h)
      · exact .inr (by omega)

theorem rget_ok (w : World) (a : Nat) (size young : Int) (old : Nat) (times : Int) (ns : List Nd) (at' : Int) (F : Nat → Prop) (h : RAt w a size young old times ns F) (hargs : ∀ nd ∈ ns, nd.args.length ≤ 8) :
    CallsR Try.prog 32 [.pointer (some ⟨a, 0, none⟩), I at'] w (GGetPost w (ggetS ns at')) := by
  refine fit32.calls rfl ?_
  unfold ir32
  (try simp only [go_sem, Nat.reduceAdd, Nat.reduceEqDiff, Nat.reduceLT, Nat.reduceLeDiff, Nat.reduceMul, reduceCtorEq, ↓reduceIte])
  refine e_al ?_
  intro w1 hb1 hm1 hs1
  have hb1 : w1.heap[w.heap.size]? = some (.cells #[I 0, I 0, .slice none 0 0] 38 (0, 0)) := hb1
  have h1 := rat_mod h hm1 (fun _ _ h => h)
  obtain ⟨cv, g1, g2, g3⟩ := id h1
  obtain ⟨ca, cc, rfl, _⟩ := fromAt_val g3
  (try simp only [go_sem, Nat.reduceAdd, Nat.reduceEqDiff, Nat.reduceLT, Nat.reduceLeDiff, Nat.reduceMul, reduceCtorEq, ↓reduceIte])
  refine wpS_cut (fun ρ w' => w1 = w' ∧ ρ.get 0 = some (.pointer (some ⟨a, 0, none⟩)) ∧ ρ.get 1 = some (I at') ∧ ρ.get 4 = some (.pointer (some ⟨w.heap.size, 0, none⟩)) ∧ ρ.get 17 = some (.bool (decide (at' < 0) || decide (at' ≥ ns.length)))) ?_ ?_
  · refine wpS_gr rfl (fun hg => ?_) (fun hg => ?_)
    · (try simp only [go_sem, Nat.reduceAdd, Nat.reduceEqDiff, Nat.reduceLT, Nat.reduceLeDiff, Nat.reduceMul, reduceCtorEq, ↓reduceIte, hg, Bool.true_or])
    · (try simp only [go_sem, Nat.reduceAdd, Nat.reduceEqDiff, Nat.reduceLT, Nat.reduceLeDiff, Nat.reduceMul, reduceCtorEq, ↓reduceIte, hg, cell_of g1, Bool.false_or])
  rintro ρ _ ⟨rfl, r0, r1, r4, r17⟩
  (try simp only [go_sem, Nat.reduceAdd, Nat.reduceEqDiff, Nat.reduceLT, Nat.reduceLeDiff, Nat.reduceMul, reduceCtorEq, ↓reduceIte, r0, r1, r4, r17])
  refine ir_cond rfl (fun hc => ?_) (fun hc => ?_)
  · have hc' : ¬ (0 ≤ at' ∧ at' < ns.length) := by simp at hc; omega
    (try simp only [go_sem, Nat.reduceAdd, Nat.reduceEqDiff, Nat.reduceLT, Nat.reduceLeDiff, Nat.reduceMul, reduceCtorEq, ↓reduceIte])
    refine e_sta rfl rfl hb1 rfl rfl (by simp [Value.oneCell']) ?_
    intro w4 hb4 hm4 hs4
    (try simp only [go_sem, Nat.reduceAdd, Nat.reduceEqDiff, Nat.reduceLT, Nat.reduceLeDiff, Nat.reduceMul, reduceCtorEq, ↓reduceIte, ln_of hb4 (off := 0) (n := 3) (by simp)])
    have e : ggetS ns at' = ({ kind := 0, num := 0, args := [] }, 212) := if_neg hc'
    rw [e]
    exact ⟨hm1.step hm4 (fun i hi hlt => by omega), _, none, rfl, Own.nil _ _ _, fun b hb => by cases hb⟩
  · have hc' : 0 ≤ at' ∧ at' < ns.length := by simp at hc; omega
    obtain ⟨i, rfl⟩ : ∃ i : Nat, at' = i := ⟨at'.toNat, by omega⟩
    have hi : i < ns.length := by omega
    have e : ggetS ns i = (ndAt ns i, 0) := if_pos hc'
    rw [e]
    obtain ⟨bc, cc', v, ecv, k0, k1, k2, kx, kb, _⟩ := from_at g3 hargs hi
    cases ecv
    have kl := ln3 k0 k1 k2
    obtain ⟨xa, xc, rfl, hxl, _⟩ := id kx
    (try simp only [go_sem, Nat.reduceAdd, Nat.reduceEqDiff, Nat.reduceLT, Nat.reduceLeDiff, Nat.reduceMul, reduceCtorEq, ↓reduceIte, Nat.mul_one, Int.toNat_natCast, Int.toNat_zero, Nat.sub_zero, Nat.sub_self, cell_of g1, hc', kl])
    refine e_al ?_
    intro w4 hb4 hm4 hs4
    have hb4 : w4.heap[w1.heap.size]? = some (.cells #[I 0, I 0, .slice none 0 0] 38 (0, 0)) := hb4
    (try simp only [go_sem, Nat.reduceAdd, Nat.reduceEqDiff, Nat.reduceLT, Nat.reduceLeDiff, Nat.reduceMul, reduceCtorEq, ↓reduceIte])
    refine e_sta rfl rfl hb4 rfl rfl (by simp [Value.oneCell']) ?_
    intro w5 hb5 hm5 hs5
    have hm35 : Mod (fun _ => False) w1 w5 := hm4.step hm5 (fun i hi hlt => by omega)
    have hx5 := kx.mod hm35 (fun _ _ h => h)
    (try simp only [go_sem, Nat.reduceAdd, Nat.reduceEqDiff, Nat.reduceLT, Nat.reduceLeDiff, Nat.reduceMul, reduceCtorEq, ↓reduceIte, cell_of hb5])
    refine e_call (by rfl) ?_
    refine (rcopied_ok _ _ w5 hx5).mono ?_
    rintro q w6 ⟨hm6, f6, o6, n6⟩
    obtain ⟨va6, vc6, rfl, _, _⟩ := o6.val
    have hb6 := hm6.at hb5 (fun h => h)
    (try simp only [go_sem, Nat.reduceAdd, Nat.reduceEqDiff, Nat.reduceLT, Nat.reduceLeDiff, Nat.reduceMul, reduceCtorEq, ↓reduceIte])
    refine e_st1 (off := 2) rfl rfl hb6 rfl (by simp) ?_
    intro w7 hb7 hm7 hs7
    have hb7 : w7.heap[w1.heap.size]? = some (.cells #[I (ndAt ns i).kind, I (ndAt ns i).num, .slice va6 (ndAt ns i).args.length vc6] 38 (0, 0)) := hb7
    have s3 := hm1.size; have s5 := hm35.size; have s6 := hm6.size
    have hm57 : Mod (fun _ => False) w1 w7 := (hm35.trans hm6).step hm7 (fun x hx hlt => by omega)
    have hb8 := hm57.at hb1 (fun h => h)
    have l1 := lt_of_heap hb1
    (try simp only [go_sem, Nat.reduceAdd, Nat.reduceEqDiff, Nat.reduceLT, Nat.reduceLeDiff, Nat.reduceMul, reduceCtorEq, ↓reduceIte, ln_of hb7 (off := 0) (n := 3) (by simp)])
    refine e_sta rfl rfl hb8 rfl rfl (by simp [Value.oneCell']) ?_
    intro w8 hb9 hm8 hs8
    (try simp only [go_sem, Nat.reduceAdd, Nat.reduceEqDiff, Nat.reduceLT, Nat.reduceLeDiff, Nat.reduceMul, reduceCtorEq, ↓reduceIte, ln_of hb9 (off := 0) (n := 3) (by simp)])
    have l4 := lt_of_heap hb4
    exact ⟨(hm1.trans hm57).step hm8 (fun x hx hlt => by omega), _, f6, rfl, (o6.mod hm7 (fun b hb hh => by have := n6 b hb; omega)).mod hm8 (fun b hb hh => by have := n6 b hb; omega), fun b hb => by have := n6 b hb; omega⟩

theorem rset_ok (w : World) (a : Nat) (size young : Int) (old : Nat) (times : Int) (ns : List Nd) (at' : Int) (nd : Nd) (v : Value) (F : Nat → Prop) (h : RAt w a size young old times ns F) (hn : ns.length ≤ 1048576) (hargs : ∀ nd ∈ ns, nd.args.length ≤ 8) (hx0 : Ints w v nd.args) :
    CallsR Try.prog 33 [.pointer (some ⟨a, 0, none⟩), I at', .agg #[I nd.kind, I nd.num, v]] w fun r w' => r = I (gsetS ns at' nd).1 ∧ ∃ F', RAt w' a size young old times (gsetS ns at' nd).2 F' ∧ Grow F F' w w' := by
  have hx := hx0
  obtain ⟨va, vc, rfl, hl, _⟩ := hx0
  refine fit33.calls rfl ?_
  unfold ir33
  (try simp only [go_sem, Nat.reduceAdd, Nat.reduceEqDiff, Nat.reduceLT, Nat.reduceLeDiff, Nat.reduceMul, reduceCtorEq, ↓reduceIte])
  refine e_bx rfl ?_
  intro w1 hb1 hm1 hs1
  have hb1 : w1.heap[w.heap.size]? = some (.cells #[I nd.kind, I nd.num, .slice va nd.args.length vc] 38 (0, 0)) := hb1
  have h1 := rat_mod h hm1 (fun _ _ h => h)
  have hx1 := hx.mod hm1 (fun _ _ h => h)
  have same : ∀ w2, Mod (fun _ => False) w1 w2 → ∃ F', RAt w2 a size young old times ns F' ∧ Grow F F' w w2 := fun w2 hm2 =>
    ⟨F, rat_mod h1 hm2 (fun _ _ h => h), (hm1.trans hm2).weak (fun _ h => h.elim), fun b hb => .inl hb⟩
  obtain ⟨cv, g1, g2, g3⟩ := id h1
  obtain ⟨ca, cc, rfl, _⟩ := fromAt_val g3
  (try simp only [go_sem, Nat.reduceAdd, Nat.reduceEqDiff, Nat.reduceLT, Nat.reduceLeDiff, Nat.reduceMul, reduceCtorEq, ↓reduceIte])
  refine wpS_cut (fun ρ w' => w1 = w' ∧ ρ.get 0 = some (.pointer (some ⟨a, 0, none⟩)) ∧ ρ.get 1 = some (I at') ∧ ρ.get 5 = some (.pointer (some ⟨w.heap.size, 0, none⟩)) ∧ ρ.get 19 = some (.bool (decide (at' < 0) || decide (at' ≥ ns.length)))) ?_ ?_
  · refine wpS_gr rfl (fun hg => ?_) (fun hg => ?_)
    · (try simp only [go_sem, Nat.reduceAdd, Nat.reduceEqDiff, Nat.reduceLT, Nat.reduceLeDiff, Nat.reduceMul, reduceCtorEq, ↓reduceIte, hg, Bool.true_or])
    · (try simp only [go_sem, Nat.reduceAdd, Nat.reduceEqDiff, Nat.reduceLT, Nat.reduceLeDiff, Nat.reduceMul, reduceCtorEq, ↓reduceIte, hg, cell_of g1, Bool.false_or])
  rintro ρ _ ⟨rfl, r0, r1, r5, r19⟩
  (try simp only [go_sem, Nat.reduceAdd, Nat.reduceEqDiff, Nat.reduceLT, Nat.reduceLeDiff, Nat.reduceMul, reduceCtorEq, ↓reduceIte, r0, r1, r5, r19])
  refine ir_cond rfl (fun hc => ?_) (fun hc => ?_)
  · have hc' : ¬ (0 ≤ at' ∧ at' < ns.length) := by simp at hc; omega
    (try simp only [go_sem, Nat.reduceAdd, Nat.reduceEqDiff, Nat.reduceLT, Nat.reduceLeDiff, Nat.reduceMul, reduceCtorEq, ↓reduceIte])
    have e : gsetS ns at' nd = (212, ns) := if_pos hc'
    rw [e]
    exact ⟨rfl, same w1 (Mod.refl _ _)⟩
  have hc' : 0 ≤ at' ∧ at' < ns.length := by simp at hc; omega
  obtain ⟨i, rfl⟩ : ∃ i : Nat, at' = i := ⟨at'.toNat, by omega⟩
  have hi : i < ns.length := by omega
  have hd : vLN w1 3 (.pointer (some ⟨w.heap.size, 0, none⟩)) = some (.agg #[I nd.kind, I nd.num, .slice va nd.args.length vc]) := ln_of hb1 (off := 0) (n := 3) (by simp)
  (try simp only [go_sem, Nat.reduceAdd, Nat.reduceEqDiff, Nat.reduceLT, Nat.reduceLeDiff, Nat.reduceMul, reduceCtorEq, ↓reduceIte, hd])
  refine e_call (by rfl) ?_
  refine (rmay_ok nd.kind nd.num _ nd.args w1 hx1).mono ?_
  rintro r w2 ⟨rfl, hm2⟩
  have hb2 := hm2.at hb1 (fun h => h)
  have hx2 := hx1.mod hm2 (fun _ _ h => h)
  have h2 := rat_mod h1 hm2 (fun _ _ h => h)
  (try simp only [go_sem, Nat.reduceAdd, Nat.reduceEqDiff, Nat.reduceLT, Nat.reduceLeDiff, Nat.reduceMul, reduceCtorEq, ↓reduceIte, cell_of hb2])
  refine e_call (by rfl) ?_
  refine (rplaces_ok w2 a ns.length old _ nd.args (rat_has h2) hx2).mono ?_
  rintro r w3 ⟨rfl, hm3⟩
  have hm13 := hm2.trans hm3
  have hb3 := hm3.at hb2 (fun h => h)
  (try simp only [go_sem, Nat.reduceAdd, Nat.reduceEqDiff, Nat.reduceLT, Nat.reduceLeDiff, Nat.reduceMul, reduceCtorEq, ↓reduceIte])
  refine ir_cond rfl (fun hc => ?_) (fun hc => ?_)
  · (try simp only [go_sem, Nat.reduceAdd, Nat.reduceEqDiff, Nat.reduceLT, Nat.reduceLeDiff, Nat.reduceMul, reduceCtorEq, ↓reduceIte])
    have hm' : nd.may = false := by simpa [Nd.may] using hc
    have e : gsetS ns i nd = (1, ns) := by unfold gsetS; rw [if_neg (by simpa using hc'), if_pos hm']
    rw [e]
    exact ⟨rfl, same w3 hm13⟩
  have hc1 : nd.may = true := by simpa [Nd.may] using hc
  (try simp only [go_sem, Nat.reduceAdd, Nat.reduceEqDiff, Nat.reduceLT, Nat.reduceLeDiff, Nat.reduceMul, reduceCtorEq, ↓reduceIte])
  refine ir_cond rfl (fun hc => ?_) (fun hc => ?_)
  · (try simp only [go_sem, Nat.reduceAdd, Nat.reduceEqDiff, Nat.reduceLT, Nat.reduceLeDiff, Nat.reduceMul, reduceCtorEq, ↓reduceIte])
    have hp' : okPl ns.length nd.args = false := by simpa using hc
    have e : gsetS ns i nd = (212, ns) := by unfold gsetS; rw [if_neg (by simpa using hc'), if_neg (by simp [hc1]), if_pos hp']
    rw [e]
    exact ⟨rfl, same w3 hm13⟩
  have hc2 : okPl ns.length nd.args = true := by simpa using hc
  have e : gsetS ns i nd = (0, ns.set i nd) := by unfold gsetS; rw [if_neg (by simpa using hc'), if_neg (by simp [hc1]), if_neg (by simp [hc2])]; simp
  rw [e]
  have hx3 := hx2.mod hm3 (fun _ _ h => h)
  have g13 := hm13.at g1 (fun h => h)
  have g33 := g3.mod hm13 (fun _ _ h => h)
  (try simp only [go_sem, Nat.reduceAdd, Nat.reduceEqDiff, Nat.reduceLT, Nat.reduceLeDiff, Nat.reduceMul, reduceCtorEq, ↓reduceIte, cell_of hb3])
  refine e_call (by rfl) ?_
  refine (rcopied_ok _ nd.args w3 hx3).mono ?_
  rintro q w4 ⟨hm4, f4, o4, n4⟩
  obtain ⟨va4, vc4, rfl, _, _⟩ := o4.val
  have hb4 := hm4.at hb3 (fun h => h)
  (try simp only [go_sem, Nat.reduceAdd, Nat.reduceEqDiff, Nat.reduceLT, Nat.reduceLeDiff, Nat.reduceMul, reduceCtorEq, ↓reduceIte])
  refine e_st1 (off := 2) rfl rfl hb4 rfl (by simp) ?_
  intro w5 hb5 hm5 hs5
  have hb5 : w5.heap[w.heap.size]? = some (.cells #[I nd.kind, I nd.num, .slice va4 nd.args.length vc4] 38 (0, 0)) := hb5
  have hFl := rat_lt h
  have s1 := hm1.size; have s3 := hm13.size; have s4 := hm4.size
  have hF0 : ∀ b, F b → ¬ b = w.heap.size := fun b hb hh => by have := hFl b hb; omega
  have lw := lt_of_heap hb1
  have g15 := hm5.at (hm4.at g13 (fun h => h)) (hF0 a g2)
  have g35 := (g33.mod hm4 (fun _ _ h => h)).mod hm5 hF0
  have o5 := o4.mod hm5 (fun b hb hh => by have := n4 b hb; omega)
  obtain ⟨fpc, ps, c1, c2, c3, c4, c5⟩ := g35
  have hps : ps.length = ns.length := by rw [← c4]; simp
  obtain ⟨bc, cc', spc, ecv, rfl, gc, hcc, hcap⟩ := c1.pos (by omega)
  cases ecv
  have hi' : i < ps.length := by omega
  have hflat := flat_len ps
  have hd5 : vLN w5.drew 3 (.pointer (some ⟨w.heap.size, 0, none⟩)) = some (.agg #[I nd.kind, I nd.num, .slice va4 nd.args.length vc4]) := ln_of (w := w5.drew) hb5 (off := 0) (n := 3) (by simp)
  have hd5' : vLN w5 3 (.pointer (some ⟨w.heap.size, 0, none⟩)) = some (.agg #[I nd.kind, I nd.num, .slice va4 nd.args.length vc4]) := ln_of hb5 (off := 0) (n := 3) (by simp)
  (try simp only [go_sem, Nat.reduceAdd, Nat.reduceEqDiff, Nat.reduceLT, Nat.reduceLeDiff, Nat.reduceMul, reduceCtorEq, ↓reduceIte, Nat.mul_one, Int.toNat_natCast, Int.toNat_zero, Nat.sub_zero, Nat.sub_self, cell_of g15, hd5, hd5', hc'])
  refine e_stg (cs := flat ps ++ spc) rfl rfl (b := bc) (off := i * 3) gc rfl (by simp; omega) (by simp [Value.oneCell']) ?_
  intro w6 hb6 hm6 hs6
  have hm6 : Mod (fun x => x = bc) w5 w6 := hm6.of_drew
  have hs6 : w6.heap.size = w5.heap.size := hs6
  (try simp only [go_sem, Nat.reduceAdd, Nat.reduceEqDiff, Nat.reduceLT, Nat.reduceLeDiff, Nat.reduceMul, reduceCtorEq, ↓reduceIte])
  have hne : a ≠ bc := fun hh => kind_ne g15 (hh ▸ gc) (by decide)
  have hsp := flat_set ps i (nd, .slice va4 nd.args.length vc4) hi' spc
  refine ⟨fun b => F b ∨ f4 = some b, ⟨_, hm6.at g15 hne, .inl g2, some bc, ps.set i (nd, .slice va4 nd.args.length vc4), ?_, fun b hb => .inl (c2 b hb), ?_, ?_, ?_⟩, ?_, ?_⟩
  · refine ⟨by rw [flat_len]; simp; omega, .inr ⟨bc, cc, spc, by simp, rfl, ?_, ?_, by simpa using hcc⟩⟩
    · rw [← hsp]; exact hb6
    · rw [List.length_append, flat_len, List.length_set, ← flat_len, ← List.length_append]; exact hcap
  · have e1 := c3.mod' hm6 (fun b cs fz hb hc => kind_ne gc (hb ▸ hc) (by decide))
    intro p hp
    rcases List.mem_or_eq_of_mem_set hp with hp | rfl
    · obtain ⟨fp, k1, k2⟩ := e1 p hp
      exact ⟨fp, k1, fun b hb => .inl (k2 b hb)⟩
    · exact ⟨f4, o5.mod hm6 (fun b hb hh => own_kind o5 hb (hh ▸ gc) (by decide)), fun b hb => .inr hb⟩
  · rw [List.map_set, c4]
  · intro b hb
    rcases hb with hb | hb
    · have := hFl b hb; omega
    · have := o5.lt hb; omega
  · exact (((((hm1.weak (S' := F) (fun _ h => h.elim)).step hm13 (fun _ h _ => h.elim)).step hm4 (fun _ h _ => h.elim)).step hm5 (fun j hj hlt => by omega))).step hm6 (fun j hj _ => hj ▸ c2 bc rfl)
  · intro b hb
    rcases hb with hb | hb
    · exact .inl hb
    · have := n4 b hb; exact .inr (by omega)
end Go.Proofs.Ytnimaifmcejkcaa
end

section
set_option linter.unusedSimpArgs false
set_option linter.unusedVariables false
set_option maxRecDepth 100000
namespace Go.Proofs.Ytnimaifmcejkcaa
open Go Go.W

theorem ring_mod' {f : Nat → Nat} {c d : Nat} (hd1 : 1 ≤ d) (hc : fit f d c = c) : ∀ m, ∃ k, k < d ∧ fit f m c = fit f k c := by
  intro m
  induction m using Nat.strongRecOn with
  | _ m ih =>
    by_cases hm : m < d
    · exact ⟨m, hm, rfl⟩
    · obtain ⟨k, hk, he⟩ := ih (m - d) (by omega)
      refine ⟨k, hk, ?_⟩
      rw [← he, show m = (m - d) + d by omega, fit_add, hc]
      congr 1; omega
/-- All that is ever come to is come to in so many steps. -/
theorem fit_bound {f : Nat → Nat} {n x : Nat} (hf : ∀ x, x < n → f x < n) (hx : x < n) (m : Nat) : ∃ k, k ≤ n ∧ fit f m x = fit f k x := by
  obtain ⟨i, j, hij, hj, he⟩ := pigeon hf hx
  by_cases hm : m < i
  · exact ⟨m, by omega, rfl⟩
  · have hc : fit f (j - i) (fit f i x) = fit f i x := by rw [← fit_add, show j - i + i = j by omega]; exact he.symm
    obtain ⟨k, hk, h⟩ := ring_mod' (by omega) hc (m - i)
    refine ⟨k + i, by omega, ?_⟩
    rw [fit_add, ← h, ← fit_add]
    congr 1; omega

theorem thing_ok (w : World) (a : Nat) (c0 c1 cv c3 c4 : Value) (ns : List Nd) (F : Nat → Prop) (ha : w.heap[a]? = some (.cells #[c0, c1, cv, c3, c4] 74 (0, 0))) (hfr : FromAt 38 w cv ns F) (hw : WF ns) (hn : ns.length ≤ 1048576) (p : Nat) (hp : p < ns.length) :
    CallsR Try.prog 60 [.pointer (some ⟨a, 0, none⟩), I p] w fun r w' => r = I (over ns p : Nat) ∧ w = w' := by
  have hargs := wf_args_le hw
  have hf := wf_nxt_lt hw
  have hlt : ∀ j, fit (nxt ns) j p < ns.length := fun j => fit_lt hf j hp
  obtain ⟨ca, cc, rfl, _⟩ := fromAt_val hfr
  refine fit60.calls rfl ?_
  unfold ir60
  (try simp only [go_sem, Nat.reduceAdd, Nat.reduceEqDiff, Nat.reduceLT, Nat.reduceLeDiff, Nat.reduceMul, reduceCtorEq, ↓reduceIte])
  refine ir_bthen (fun ρ w' => w = w' ∧ (∀ j, j ≤ ns.length → ind ns (fit (nxt ns) j p) = true) ∧ ρ.get 0 = some (.pointer (some ⟨a, 0, none⟩)) ∧ ρ.get 1 = some (I (fit (nxt ns) (ns.length + 1) p : Nat))) ?_ ?_
  · refine ir_loop (fun m ρ w' => ∃ k : Nat, m = ns.length + 1 - k ∧ k ≤ ns.length + 1 ∧ w = w' ∧ (∀ j, j < k → ind ns (fit (nxt ns) j p) = true) ∧
        ρ = [(0, .pointer (some ⟨a, 0, none⟩)), (1, I (fit (nxt ns) k p : Nat)), (5, I k)]) (ns.length + 1)
      ⟨0, rfl, Nat.zero_le _, rfl, (fun j hj => by omega), rfl⟩ ?_
    rintro m ρ _ ⟨k, rfl, hk, rfl, hall, rfl⟩
    unfold ir60L1
    (try simp only [go_sem, Nat.reduceAdd, Nat.reduceEqDiff, Nat.reduceLT, Nat.reduceLeDiff, Nat.reduceMul, reduceCtorEq, ↓reduceIte, cell_of ha])
    refine ir_cond rfl (fun hc => ?_) (fun hc => ?_)
    · have hk' : k ≤ ns.length := by simp at hc; omega
      obtain ⟨bc, cc', nv, ecv, d0, d1, d2, dx, db, _⟩ := from_at hfr hargs (hlt k)
      cases ecv
      have b1 : (0 : Int) ≤ (fit (nxt ns) k p : Nat) ∧ ((fit (nxt ns) k p : Nat) : Int) < ns.length := by have := hlt k; omega
      have hwk : IntKind.i64.wrap ((k : Int) + 1) = ((k + 1 : Nat) : Int) := by rw [wrap_in] <;> omega
      (try simp only [go_sem, Nat.reduceAdd, Nat.reduceEqDiff, Nat.reduceLT, Nat.reduceLeDiff, Nat.reduceMul, reduceCtorEq, ↓reduceIte, Nat.mul_one, Int.toNat_natCast, Int.toNat_zero, Nat.sub_zero, Nat.sub_self, cell_of ha, b1, d0])
      refine ir_cond rfl (fun hc2 => ?_) (fun hc2 => ?_)
      · have hk5 : ¬ (ndAt ns (fit (nxt ns) k p)).kind = 5 := by simpa using hc2
        have hi : ind ns (fit (nxt ns) k p) = false := by simpa [ind] using hk5
        (try simp only [go_sem, Nat.reduceAdd, Nat.reduceEqDiff, Nat.reduceLT, Nat.reduceLeDiff, Nat.reduceMul, reduceCtorEq, ↓reduceIte])
        have := ov_fit hf hp k
        rw [ov_fix (nxt_fix hi)] at this
        have e : over ns p = fit (nxt ns) k p := this.symm
        rw [e]
      · have hk5 : (ndAt ns (fit (nxt ns) k p)).kind = 5 := by simpa using hc2
        have hi : ind ns (fit (nxt ns) k p) = true := by simpa [ind] using hk5
        obtain ⟨q, e1, e2, e3⟩ := wf_ind hw (hlt k) hi
        obtain ⟨xa, xc, rfl, hxl, _⟩ := id dx
        obtain ⟨ad, rfl, hcell⟩ := leads' dx e2
        have b2 : (0 : Int) ≤ 0 ∧ (0 : Int) < ((ndAt ns (fit (nxt ns) k p)).args.length : Nat) := by rw [e2]; simp
        (try simp only [go_sem, Nat.reduceAdd, Nat.reduceEqDiff, Nat.reduceLT, Nat.reduceLeDiff, Nat.reduceMul, reduceCtorEq, ↓reduceIte, Nat.mul_one, Int.toNat_natCast, Int.toNat_zero, Nat.sub_zero, Nat.sub_self, cell_of ha, b1, d2, b2, hcell, hwk])
        refine ⟨_, ?_, k + 1, rfl, by omega, fun j hj => ?_, ?_⟩
        · omega
        · rcases Nat.lt_or_ge j k with h | h
          · exact hall j h
          · obtain rfl : j = k := by omega
            exact hi
        · rw [fit_succ, e3]
    · have hk' : k = ns.length + 1 := by simp at hc; omega
      subst hk'
      (try simp only [go_sem, Nat.reduceAdd, Nat.reduceEqDiff, Nat.reduceLT, Nat.reduceLeDiff, Nat.reduceMul, reduceCtorEq, ↓reduceIte])
      exact fun j hj => hall j (by omega)
  rintro ρ _ ⟨rfl, hall, r0, r1⟩
  have hall' : ∀ m, ind ns (fit (nxt ns) m p) = true := fun m => by
    obtain ⟨k, hk, he⟩ := fit_bound hf hp m
    rw [he]; exact hall k hk
  obtain ⟨c, hc⟩ : ∃ c, fit (nxt ns) (ns.length + 1) p = c := ⟨_, rfl⟩
  have hcl : c < ns.length := hc ▸ hlt _
  have hci : ∀ m, ind ns (fit (nxt ns) m c) = true := fun m => by rw [← hc, ← fit_add]; exact hall' _
  have hclt : ∀ m, fit (nxt ns) m c < ns.length := fun m => fit_lt hf m hcl
  obtain ⟨d, hd1, hd2, hdc⟩ := onRing hf hp (ns.length + 1) (by omega)
  rw [hc] at hdc r1
  have hov : over ns c = over ns p := by rw [← hc]; exact ov_fit hf hp _
  have step : ∀ m, ∃ bc cc' va q ad, ca = some ⟨bc, 0, none⟩ ∧ w.cell? ⟨bc, fit (nxt ns) m c * 3 + 2, none⟩ = some (.slice (some ad) 1 va) ∧ w.cell? ad = some (I q) ∧ cc' = cc ∧ q = (fit (nxt ns) (m + 1) c : Nat) := fun m => by
    obtain ⟨bc, cc', nv, ecv, d0, d1, d2, dx, db, _⟩ := from_at hfr hargs (hclt m)
    simp only [Value.slice.injEq] at ecv
    obtain ⟨q, e1, e2, e3⟩ := wf_ind hw (hclt m) (hci m)
    obtain ⟨xa, xc, rfl, hxl, _⟩ := id dx
    obtain ⟨ad, rfl, hcell⟩ := leads' dx e2
    rw [e2] at d2
    exact ⟨bc, cc', xc, q, ad, ecv.1, d2, hcell, ecv.2.2.symm, by rw [fit_succ, e3]⟩
  have bnd : ∀ m, (0 : Int) ≤ (fit (nxt ns) m c : Nat) ∧ ((fit (nxt ns) m c : Nat) : Int) < ns.length := fun m => by have := hclt m; omega
  obtain ⟨bc, _, va, q, ad, rfl, d2, dq, rfl, rfl⟩ := step 0
  have b1 := bnd 0
  simp only [fit] at b1 d2
  have b2 : (0 : Int) ≤ 0 ∧ (0 : Int) < ((1 : Nat) : Int) := by omega
  (try simp only [go_sem, Nat.reduceAdd, Nat.reduceEqDiff, Nat.reduceLT, Nat.reduceLeDiff, Nat.reduceMul, reduceCtorEq, ↓reduceIte, Nat.mul_one, Int.toNat_natCast, Int.toNat_zero, Nat.sub_zero, Nat.sub_self, r0, r1, cell_of ha, b1, d2, b2, dq])
  refine ir_loop (fun m ρ w' => ∃ (k : Nat) (l : Int), m = d - k ∧ 1 ≤ k ∧ k ≤ d ∧ w = w' ∧ (∀ j, 1 ≤ j → j < k → fit (nxt ns) j c ≠ c) ∧ IsMin l ((List.range k).map (fun i => (fit (nxt ns) i c : Int))) ∧
      ρ = [(0, .pointer (some ⟨a, 0, none⟩)), (1, I c), (6, I l), (7, I (fit (nxt ns) k c : Nat))]) (d - 1)
    ⟨1, c, rfl, Nat.le_refl _, hd1, rfl, (fun j h1 h2 => by omega), ⟨by simp [fit], fun y hy => by simp [fit] at hy; omega⟩, rfl⟩ ?_
  rintro m ρ _ ⟨k, l, rfl, hk1, hkd, rfl, hne, hmin, rfl⟩
  unfold ir60L2
  (try simp only [go_sem, Nat.reduceAdd, Nat.reduceEqDiff, Nat.reduceLT, Nat.reduceLeDiff, Nat.reduceMul, reduceCtorEq, ↓reduceIte])
  refine ir_cond rfl (fun hc2 => ?_) (fun hc2 => ?_)
  · have hkc : fit (nxt ns) k c ≠ c := fun hh => by simp [hh] at hc2
    have hkd' : k < d := by
      rcases Nat.lt_or_ge k d with h | h
      · exact h
      · obtain rfl : k = d := by omega
        exact absurd hdc hkc
    obtain ⟨bc', _, va, q, ad, e0, d2, dq, rfl, rfl⟩ := step k
    cases e0
    have b1 := bnd k
    (try simp only [go_sem, Nat.reduceAdd, Nat.reduceEqDiff, Nat.reduceLT, Nat.reduceLeDiff, Nat.reduceMul, reduceCtorEq, ↓reduceIte, Nat.mul_one, Int.toNat_natCast, Int.toNat_zero, Nat.sub_zero, Nat.sub_self, cell_of ha, b1, d2, b2, dq])
    refine ⟨_, ?_, k + 1, (if ((fit (nxt ns) k c : Nat) : Int) < l then ((fit (nxt ns) k c : Nat) : Int) else l), rfl, by omega, hkd', fun j h1 h2 => ?_, ?_, rfl⟩
    · omega
    · rcases Nat.lt_or_ge j k with h | h
      · exact hne j h1 h
      · obtain rfl : j = k := by omega
        exact hkc
    · obtain ⟨h1, h2⟩ := hmin
      rw [List.range_succ, List.map_append]
      refine ⟨?_, fun y hy => ?_⟩
      · split
        · simp
        · exact List.mem_append.2 (.inl h1)
      · rcases List.mem_append.1 hy with hy | hy
        · have := h2 y hy
          split <;> omega
        · simp only [List.map_cons, List.map_nil, List.mem_cons, List.not_mem_nil, or_false] at hy
          rw [hy]
          split <;> omega
  · have hkc : fit (nxt ns) k c = c := by have : ((fit (nxt ns) k c : Nat) : Int) = c := by simpa using hc2
                                          omega
    (try simp only [go_sem, Nat.reduceAdd, Nat.reduceEqDiff, Nat.reduceLT, Nat.reduceLeDiff, Nat.reduceMul, reduceCtorEq, ↓reduceIte])
    have := ring_min (j := 0) (k := k) hf hcl (by omega) (by rw [hkc]; rfl) (by rw [List.drop_zero]; exact hmin)
    rw [this]
    show I (over ns c : Nat) = _
    rw [hov]
end Go.Proofs.Ytnimaifmcejkcaa
end

section
set_option linter.unusedSimpArgs false
set_option linter.unusedVariables false
set_option maxRecDepth 100000
namespace Go.Proofs.Ytnimaifmcejkcaa
open Go Go.W

/-- Of each place what 'met' knows of it. -/
def toL (n fr : Nat) (out : List Nat) : List Int := (List.range n).map fun i => if i ∈ out then ((fr + out.idxOf i : Nat) : Int) else -1
theorem toL_nil (n fr : Nat) : toL n fr [] = List.replicate n (-1) := by
  apply List.ext_getElem?
  intro i
  by_cases hi : i < n
  · simp [toL, hi]
  · simp [toL, List.getElem?_eq_none, hi, List.getElem?_replicate]
theorem toL_len (n fr : Nat) (out : List Nat) : (toL n fr out).length = n := by simp [toL]
theorem toL_at {n fr : Nat} {out : List Nat} {x : Nat} (hx : x < n) : (toL n fr out)[x]? = some (if x ∈ out then ((fr + out.idxOf x : Nat) : Int) else -1) := by simp [toL, hx]
theorem toL_new {n fr : Nat} {out : List Nat} {x : Nat} (hx : x < n) (hno : x ∉ out) : (toL n fr out).set x ((fr + out.length : Nat) : Int) = toL n fr (out ++ [x]) := by
  apply List.ext_getElem?
  intro i
  rw [List.getElem?_set]
  by_cases hi : i < n
  · rw [toL_at hi, toL_at hi, toL_len]
    by_cases hix : x = i
    · subst hix
      rw [if_pos rfl, if_pos hx, if_pos (by simp), List.idxOf_append, if_neg hno]
      simp
    · rw [if_neg hix]
      have hix' : ¬ i = x := fun hh => hix hh.symm
      by_cases him : i ∈ out
      · rw [if_pos him, if_pos (by simp [him]), List.idxOf_append, if_pos him]
      · rw [if_neg him, if_neg (by simp [him, hix'])]
  · have h1 : ∀ o, (toL n fr o)[i]? = none := fun o => by rw [List.getElem?_eq_none]; rw [toL_len]; omega
    rw [h1, h1, if_neg (by omega)]

/-- 'met' in memory. -/
structure MtAt (w : World) (bm n fr : Nat) (out : List Nat) (vt vm : Value) (fpt fpm : Option Nat) : Prop where
  cells : w.heap[bm]? = some (.cells #[I fr, vt, vm, I fr] 114 (0, 0))
  to : Own w 3 1 vt ((toL n fr out).map I) n fpt
  met : Own w 3 1 vm (out.map fun x => I (x : Nat)) out.length fpm
  ne : ∀ x, fpt = some x → fpm ≠ some x
theorem mt_mod {w w' : World} {bm n fr : Nat} {out : List Nat} {vt vm : Value} {fpt fpm : Option Nat} {S : Nat → Prop} (h : MtAt w bm n fr out vt vm fpt fpm) (hm : Mod S w w') (h1 : ¬ S bm) (h2 : ∀ x, fpt = some x → ¬ S x) (h3 : ∀ x, fpm = some x → ¬ S x) : MtAt w' bm n fr out vt vm fpt fpm :=
  ⟨hm.at h.cells h1, h.to.mod hm h2, h.met.mod hm h3, h.ne⟩

theorem begun_ok (w : World) (a n old : Nat) (h : RHas w a n old) (hn : n ≤ 1048576) (fr : Nat) :
    CallsR Try.prog 59 [.pointer (some ⟨a, 0, none⟩), I fr] w fun r w' => ∃ bm vt fpt, r = .pointer (some ⟨bm, 0, none⟩) ∧ MtAt w' bm n fr [] vt (.slice none 0 0) fpt none ∧ w.heap.size ≤ bm ∧ (∀ x, fpt = some x → w.heap.size ≤ x) ∧ Mod (fun _ => False) w w' := by
  have la : a < w.heap.size := by obtain ⟨_, _, _, _, _, h1⟩ := h; exact lt_of_heap h1
  refine fit59.calls rfl ?_
  unfold ir59
  (try simp only [go_sem, Nat.reduceAdd, Nat.reduceEqDiff, Nat.reduceLT, Nat.reduceLeDiff, Nat.reduceMul, reduceCtorEq, ↓reduceIte])
  refine e_bx rfl ?_
  intro w1 hb1 hm1 hs1
  have hb1 : w1.heap[w.heap.size]? = some (.cells #[I fr, .slice none 0 0, .slice none 0 0, I fr] 114 (0, 0)) := hb1
  (try simp only [go_sem, Nat.reduceAdd, Nat.reduceEqDiff, Nat.reduceLT, Nat.reduceLeDiff, Nat.reduceMul, reduceCtorEq, ↓reduceIte])
  refine ir_loop (fun m ρ w' => ∃ (k : Nat) (vt : Value) (fpt : Option Nat), m = n - k ∧ k ≤ n ∧ w'.heap[w.heap.size]? = some (.cells #[I fr, vt, .slice none 0 0, I fr] 114 (0, 0)) ∧ Own w' 3 1 vt ((List.replicate k (-1 : Int)).map I) k fpt ∧ (∀ x, fpt = some x → w.heap.size < x) ∧ Mod (fun _ => False) w w' ∧
      ρ = [(0, .pointer (some ⟨a, 0, none⟩)), (5, .pointer (some ⟨w.heap.size, 0, none⟩)), (6, I k)]) n
    ⟨0, _, none, rfl, Nat.zero_le _, hb1, Own.nil _ _ _, (fun x hx => by cases hx), hm1, rfl⟩ ?_
  rintro m ρ w2 ⟨k, vt, fpt, rfl, hk, hb2, ho2, hf2, hm2, rfl⟩
  obtain ⟨c0, c1, ba, c, c4, h2⟩ := rhas_mod h hm2 (fun h => h)
  unfold ir59L1
  (try simp only [go_sem, Nat.reduceAdd, Nat.reduceEqDiff, Nat.reduceLT, Nat.reduceLeDiff, Nat.reduceMul, reduceCtorEq, ↓reduceIte, cell_of h2])
  refine ir_cond rfl (fun hc => ?_) (fun hc => ?_)
  · have hk' : k < n := by simpa using hc
    have hwk : IntKind.i64.wrap ((k : Int) + 1) = ((k + 1 : Nat) : Int) := by rw [wrap_in] <;> omega
    obtain ⟨ta, tc, rfl, _, _⟩ := ho2.val
    (try simp only [go_sem, Nat.reduceAdd, Nat.reduceEqDiff, Nat.reduceLT, Nat.reduceLeDiff, Nat.reduceMul, reduceCtorEq, ↓reduceIte, cell_of hb2])
    refine e_bs (by rfl) (by (try simp only [go_sem, Nat.reduceAdd, Nat.reduceEqDiff, Nat.reduceLT, Nat.reduceLeDiff, Nat.reduceMul, reduceCtorEq, ↓reduceIte]); rfl) ?_
    intro w3 hb3 hm3 hs3
    have ho3 := ho2.mod hm3 (fun _ _ h => h)
    have hb23 := hm3.at hb2 (fun h => h)
    have l2 := lt_of_heap hb2
    (try simp only [go_sem, Nat.reduceAdd, Nat.reduceEqDiff, Nat.reduceLT, Nat.reduceLeDiff, Nat.reduceMul, reduceCtorEq, ↓reduceIte])
    refine e_ap (m := 1) (news := [I (-1)]) rfl ho3 rfl (fun h => by cases h) (rd_block hb3) (by simp [Value.oneCell']) rfl (by omega) (by omega) ?_
    intro v4 w4 fp4 ho4 hm4 hf4
    obtain ⟨va4, vc4, rfl, _, _⟩ := ho4.val
    have hb24 := hm4.at hb23 (fun hh => by have := hf2 _ hh; omega)
    (try simp only [go_sem, Nat.reduceAdd, Nat.reduceEqDiff, Nat.reduceLT, Nat.reduceLeDiff, Nat.reduceMul, reduceCtorEq, ↓reduceIte])
    refine e_st1 (off := 1) rfl rfl hb24 rfl (by simp) ?_
    intro w5 hb5 hm5 hs5
    have hb5 : w5.heap[w.heap.size]? = some (.cells #[I fr, .slice va4 (k + 1) vc4, .slice none 0 0, I fr] 114 (0, 0)) := hb5
    have s3 := hm3.size
    (try simp only [go_sem, Nat.reduceAdd, Nat.reduceEqDiff, Nat.reduceLT, Nat.reduceLeDiff, Nat.reduceMul, reduceCtorEq, ↓reduceIte, hwk])
    have hf4' : ∀ x, fp4 = some x → w.heap.size < x := fun x hx => by
      rcases hf4 x hx with h | h
      · exact hf2 x h
      · omega
    refine ⟨_, ?_, k + 1, _, fp4, rfl, hk', hb5, ?_, hf4', ((hm2.trans hm3).step hm4 (fun x hx hlt => by have := hf2 x hx; omega)).step hm5 (fun x hx hlt => by omega), rfl⟩
    · omega
    · have := ho4.mod hm5 (fun x hx hh => by have := hf4' x hx; omega)
      rw [List.replicate_succ', List.map_append]
      exact this
  · have hk' : k = n := by simp at hc; omega
    subst hk'
    (try simp only [go_sem, Nat.reduceAdd, Nat.reduceEqDiff, Nat.reduceLT, Nat.reduceLeDiff, Nat.reduceMul, reduceCtorEq, ↓reduceIte])
    exact ⟨_, vt, fpt, rfl, ⟨hb2, by rw [toL_nil]; exact ho2, Own.nil _ _ _, fun x hx hh => by cases hh⟩, Nat.le_refl _, fun x hx => by have := hf2 x hx; omega, hm2⟩

theorem meet_ok (w : World) (bm : Nat) (ns : List Nd) (hw : WF ns) (hn : ns.length ≤ 1048576) (fr : Nat) (hfr : fr ≤ ns.length) (out : List Nat) (vt vm : Value) (fpt fpm : Option Nat) (h : MtAt w bm ns.length fr out vt vm fpt fpm) (hm : MetF ns fr out) (p : Nat) (hp : p < ns.length) :
    CallsR Try.prog 61 [.pointer (some ⟨bm, 0, none⟩), I (over ns p : Nat)] w fun r w' => r = I (numF ns fr (meetF ns fr out p) p) ∧ ∃ vm' fpm', MtAt w' bm ns.length fr (meetF ns fr out p) vt vm' fpt fpm' ∧ Mod (fun x => x = bm ∨ fpt = some x ∨ fpm = some x) w w' ∧ ∀ x, fpm' = some x → fpm = some x ∨ w.heap.size ≤ x := by
  have hol : over ns p < ns.length := ov_lt (wf_nxt_lt hw) hp
  have lbm := lt_of_heap h.cells
  obtain ⟨ta, tc, rfl, htc, _⟩ := h.to.val
  refine fit61.calls rfl ?_
  unfold ir61
  (try simp only [go_sem, Nat.reduceAdd, Nat.reduceEqDiff, Nat.reduceLT, Nat.reduceLeDiff, Nat.reduceMul, reduceCtorEq, ↓reduceIte, cell_of h.cells])
  refine ir_cond rfl (fun hc => ?_) (fun hc => ?_)
  · have hc' : over ns p < fr := by simpa using hc
    have e : meetF ns fr out p = out := by simp [meetF, hc']
    (try simp only [go_sem, Nat.reduceAdd, Nat.reduceEqDiff, Nat.reduceLT, Nat.reduceLeDiff, Nat.reduceMul, reduceCtorEq, ↓reduceIte])
    rw [e]
    refine ⟨by simp [numF, hc'], _, fpm, h, Mod.refl _ _, fun x hx => .inl hx⟩
  have hc' : ¬ over ns p < fr := by simpa using hc
  have b1 : (0 : Int) ≤ (over ns p : Nat) ∧ ((over ns p : Nat) : Int) < ns.length := by omega
  obtain ⟨bt, tc', cs, ev, efp, hbt, hilt, hcs, hset⟩ := own_set h.to hol
  simp only [Value.slice.injEq] at ev
  obtain ⟨rfl, _, rfl⟩ := ev
  have hci := hcs (over ns p) _ (toL_at (fr := fr) (out := out) hol)
  have hcell : w.cell? ⟨bt, over ns p, none⟩ = some (I (if over ns p ∈ out then ((fr + out.idxOf (over ns p) : Nat) : Int) else -1)) := by rw [cell_of hbt, List.getElem?_toArray]; exact hci
  have hbtm : bt ≠ bm := fun hh => own_ne h.to h.cells (by decide) (by rw [efp, hh])
  by_cases hin : over ns p ∈ out
  · rw [if_pos hin] at hcell
    have e : meetF ns fr out p = out := by simp [meetF, hin]
    have hneg : decide (((fr + out.idxOf (over ns p) : Nat) : Int) < 0) = false := by simp; omega
    (try simp only [go_sem, Nat.reduceAdd, Nat.reduceEqDiff, Nat.reduceLT, Nat.reduceLeDiff, Nat.reduceMul, reduceCtorEq, ↓reduceIte, Nat.mul_one, Int.toNat_natCast, Int.toNat_zero, Nat.sub_zero, Nat.sub_self, cell_of h.cells, b1, hcell, hneg])
    rw [e]
    refine ⟨by simp [numF, hc'], _, fpm, h, Mod.refl _ _, fun x hx => .inl hx⟩
  · rw [if_neg hin] at hcell
    have hneg : decide ((-1 : Int) < 0) = true := rfl
    obtain ⟨ma, mc, rfl, _, _⟩ := h.met.val
    have hol2 := metF_len hm
    have hwl : IntKind.i64.wrap ((fr : Int) + out.length) = ((fr + out.length : Nat) : Int) := by rw [wrap_in] <;> omega
    (try simp only [go_sem, Nat.reduceAdd, Nat.reduceEqDiff, Nat.reduceLT, Nat.reduceLeDiff, Nat.reduceMul, reduceCtorEq, ↓reduceIte, Nat.mul_one, Int.toNat_natCast, Int.toNat_zero, Nat.sub_zero, Nat.sub_self, cell_of h.cells, b1, hcell, hneg, hwl])
    have hbtd : w.drew.heap[bt]? = some (.cells cs.toArray 3 (0, 0)) := hbt
    refine e_st1 (off := over ns p) rfl rfl hbtd rfl hilt ?_
    intro w1 hb1 hm1 hs1
    have hm1 : Mod (fun x => x = bt) w w1 := hm1.of_drew
    have hs1 : w1.heap.size = w.heap.size := hs1
    have ht1 := hset w1 _ hb1
    rw [toL_new hol hin] at ht1
    have hc1 := hm1.at h.cells (fun hh => hbtm hh.symm)
    have hmt1 := h.met.mod hm1 (fun x hx hh => h.ne bt efp (by rw [hx, hh]))
    (try simp only [go_sem, Nat.reduceAdd, Nat.reduceEqDiff, Nat.reduceLT, Nat.reduceLeDiff, Nat.reduceMul, reduceCtorEq, ↓reduceIte, cell_of hc1])
    refine e_bs (by rfl) (by (try simp only [go_sem, Nat.reduceAdd, Nat.reduceEqDiff, Nat.reduceLT, Nat.reduceLeDiff, Nat.reduceMul, reduceCtorEq, ↓reduceIte]); rfl) ?_
    intro w2 hb2 hm2 hs2
    have hmt2 := hmt1.mod hm2 (fun _ _ h => h)
    have ht2 := ht1.mod hm2 (fun _ _ h => h)
    have hc2 := hm2.at hc1 (fun h => h)
    (try simp only [go_sem, Nat.reduceAdd, Nat.reduceEqDiff, Nat.reduceLT, Nat.reduceLeDiff, Nat.reduceMul, reduceCtorEq, ↓reduceIte])
    refine e_ap (m := 1) (news := [I (over ns p : Nat)]) rfl hmt2 rfl (fun h => by cases h) (rd_block hb2) (by simp [Value.oneCell']) rfl (by omega) (by omega) ?_
    intro v3 w3 fp3 ho3 hm3 hf3
    obtain ⟨va3, vc3, rfl, _, _⟩ := ho3.val
    have hfm : fpm ≠ some bm := own_ne hmt2 hc2 (by decide)
    have hc3 := hm3.at hc2 hfm
    have ht3 := ht2.mod hm3 (fun x hx hh => h.ne x hx hh)
    (try simp only [go_sem, Nat.reduceAdd, Nat.reduceEqDiff, Nat.reduceLT, Nat.reduceLeDiff, Nat.reduceMul, reduceCtorEq, ↓reduceIte])
    refine e_st1 (off := 2) rfl rfl hc3 rfl (by simp) ?_
    intro w4 hb4 hm4 hs4
    have hb4 : w4.heap[bm]? = some (.cells #[I fr, .slice (some ⟨bt, 0, none⟩) ns.length tc, .slice va3 (out.length + 1) vc3, I fr] 114 (0, 0)) := hb4
    have ht4 := ht3.mod hm4 (fun x hx hh => by rw [efp] at hx; cases hx; exact hbtm hh)
    have ho4 := ho3.mod hm4 (fun x hx hh => own_ne ho3 hc3 (by decide) (by rw [hx, hh]))
    obtain ⟨bt', tc', cs4, ev4, efp4, hbt4, hilt4, hcs4, _⟩ := own_set ht4 hol
    simp only [Value.slice.injEq, Option.some.injEq, Addr.mk.injEq] at ev4
    obtain ⟨⟨rfl, _⟩, _, rfl⟩ := ev4
    have hci4 := hcs4 (over ns p) _ (toL_at (fr := fr) (out := out ++ [over ns p]) hol)
    have hin' : over ns p ∈ out ++ [over ns p] := by simp
    have hix : (out ++ [over ns p]).idxOf (over ns p) = out.length := by rw [List.idxOf_append, if_neg hin]; simp
    rw [if_pos hin', hix] at hci4
    have hcell4 : w4.cell? ⟨bt, over ns p, none⟩ = some (I ((fr + out.length : Nat) : Int)) := by rw [cell_of hbt4, List.getElem?_toArray]; exact hci4
    (try simp only [go_sem, Nat.reduceAdd, Nat.reduceEqDiff, Nat.reduceLT, Nat.reduceLeDiff, Nat.reduceMul, reduceCtorEq, ↓reduceIte, Nat.mul_one, Int.toNat_natCast, Int.toNat_zero, Nat.sub_zero, Nat.sub_self, cell_of hb4, b1, hcell4])
    have e : meetF ns fr out p = out ++ [over ns p] := by simp [meetF, hc', hin]
    have s1 := hm1.size; have s2 := hm2.size; have s3 := hm3.size
    refine ⟨by rw [numF_meet hc' hin], .slice va3 (out.length + 1) vc3, fp3, ?_, (((hm1.weak (S' := fun x => x = bm ∨ fpt = some x ∨ fpm = some x) (fun x hx => .inr (.inl (by rw [efp, hx])))).step hm2 (fun _ h _ => h.elim)).step hm3 (fun x hx _ => .inr (.inr hx))).step hm4 (fun x hx _ => .inl hx), fun x hx => ?_⟩
    · rw [e]
      refine ⟨by simpa using hb4, ht4, by simpa using ho4, fun x hx hh => ?_⟩
      rcases hf3 x hh with hh2 | hh2
      · exact h.ne x hx hh2
      · have := h.to.lt hx; omega
    · rcases hf3 x hx with h | h
      · exact .inl h
      · exact .inr (by omega)
end Go.Proofs.Ytnimaifmcejkcaa
end

section
set_option linter.unusedSimpArgs false
set_option linter.unusedVariables false
set_option maxRecDepth 100000
namespace Go.Proofs.Ytnimaifmcejkcaa
open Go Go.W

theorem gather_ok (w : World) (a bm : Nat) (ns : List Nd) (hw : WF ns) (hn : ns.length ≤ 1048576) (fr : Nat) (hfr : fr ≤ ns.length) (out : List Nat) (vt vm : Value) (fpt fpm : Option Nat) (h : MtAt w bm ns.length fr out vt vm fpt fpm) (hm : MetF ns fr out)
    (c0 c1 cv c3 c4 : Value) (F : Nat → Prop) (ha : w.heap[a]? = some (.cells #[c0, c1, cv, c3, c4] 74 (0, 0))) (hfm : FromAt 38 w cv ns F) (hFd : ∀ x, F x → ¬ (x = bm ∨ fpt = some x ∨ fpm = some x)) :
    CallsR Try.prog 62 [.pointer (some ⟨a, 0, none⟩), .pointer (some ⟨bm, 0, none⟩)] w fun r w' => ∃ vm' fpm' fq ps fps, MtAt w' bm ns.length fr (reachF ns fr (ns.length + 1) 0 out) vt vm' fpt fpm' ∧ Mod (fun x => x = bm ∨ fpt = some x ∨ fpm = some x) w w' ∧
      Own w' 38 3 r (flat ps) (reachF ns fr (ns.length + 1) 0 out).length fq ∧ (∀ x, fq = some x → w.heap.size ≤ x) ∧ ArgsD w' ps fps (fun x => w.heap.size ≤ x) ∧ ps.map Prod.fst = (reachF ns fr (ns.length + 1) 0 out).map (movedF ns fr (reachF ns fr (ns.length + 1) 0 out)) := by
  generalize hO : reachF ns fr (ns.length + 1) 0 out = O
  have hargs := wf_args_le hw
  have lbm := lt_of_heap h.cells
  have la := lt_of_heap ha
  have lft : ∀ x, fpt = some x → x < w.heap.size := fun x hx => h.to.lt hx
  have lfm : ∀ x, fpm = some x → x < w.heap.size := fun x hx => h.met.lt hx
  have hFl : ∀ x, F x → x < w.heap.size := by obtain ⟨_, _, _, _, _, _, q⟩ := hfm; exact q
  have haS : ¬ (a = bm ∨ fpt = some a ∨ fpm = some a) := fun hh => by
    rcases hh with hh | hh | hh
    · have := h.cells; rw [← hh] at this; exact kind_ne ha this (by decide)
    · exact own_ne h.to ha (by decide) hh
    · exact own_ne h.met ha (by decide) hh
  obtain ⟨ca, cc, rfl, _⟩ := fromAt_val hfm
  refine fit62.calls rfl ?_
  unfold ir62
  (try simp only [go_sem, Nat.reduceAdd, Nat.reduceEqDiff, Nat.reduceLT, Nat.reduceLeDiff, Nat.reduceMul, reduceCtorEq, ↓reduceIte])
  refine ir_loop (fun m ρ w' => ∃ (i : Nat) (cur : List Nat) (vk vr : Value) (fk fq : Option Nat) (ps : List (Nd × Value)) (fps : Nat → Option Nat), m = O.length - i ∧ i ≤ cur.length ∧ MetF ns fr cur ∧ reachF ns fr (ns.length + 1 - i) i cur = O ∧
      MtAt w' bm ns.length fr cur vt vk fpt fk ∧ Mod (fun x => x = bm ∨ fpt = some x ∨ fpm = some x) w w' ∧ (∀ x, fk = some x → fpm = some x ∨ w.heap.size ≤ x) ∧
      Own w' 38 3 vr (flat ps) i fq ∧ (∀ x, fq = some x → w.heap.size ≤ x) ∧ ArgsD w' ps fps (fun x => w.heap.size ≤ x) ∧ ps.map Prod.fst = (cur.take i).map (movedF ns fr O) ∧ (∀ j x, j < ps.length → fps j = some x → fk ≠ some x) ∧
      ρ = [(0, .pointer (some ⟨a, 0, none⟩)), (1, .pointer (some ⟨bm, 0, none⟩)), (5, vr), (6, I i)]) O.length
    ⟨0, out, vm, _, fpm, none, [], fun _ => none, rfl, Nat.zero_le _, hm, hO, h, Mod.refl _ _, (fun x hx => .inl hx), Own.nil _ _ _, (fun x hx => by cases hx), argsD_nil _ _, rfl, (fun j x hj => absurd hj (by simp)), rfl⟩ ?_
  rintro m ρ w1 ⟨i, cur, vk, vr, fk, fq, ps, fps, rfl, hi, hmc, hre, hmv, hm1, hfk, hor, hfq, had, hps, hdis, rfl⟩
  have hpre : cur <+: O := by rw [← hre]; exact reachF_pre ns fr _ _ _
  have hcl := metF_len hmc
  obtain ⟨vka, vkc, rfl, _, _⟩ := hmv.met.val
  unfold ir62L2
  (try simp only [go_sem, Nat.reduceAdd, Nat.reduceEqDiff, Nat.reduceLT, Nat.reduceLeDiff, Nat.reduceMul, reduceCtorEq, ↓reduceIte, cell_of hmv.cells])
  refine ir_cond rfl (fun hc => ?_) (fun hc => ?_)
  · have hi' : i < cur.length := by simpa using hc
    obtain ⟨x, hx⟩ : ∃ x, cur[i] = x := ⟨_, rfl⟩
    have hxm := hmc.2 x (by rw [← hx]; exact List.getElem_mem hi')
    have ha1 := hm1.at ha haS
    have hfm1 := hfm.mod hm1 hFd
    obtain ⟨bc, cc', nv, ecv, d0, d1, d2, dx, db, _⟩ := from_at hfm1 hargs (i := x) hxm.1
    cases ecv
    have dl := ln3 d0 d1 d2
    obtain ⟨bw, cw, ew, tw⟩ := own_at' hmv.met hi' (u := I (x : Nat)) (by simp [hi', hx])
    simp only [Value.slice.injEq] at ew
    obtain ⟨rfl, _, rfl⟩ := ew
    have b1 : (0 : Int) ≤ i ∧ (i : Int) < cur.length := by omega
    have b2 : (0 : Int) ≤ (x : Nat) ∧ ((x : Nat) : Int) < ns.length := by omega
    have hwd : Mod (fun _ => False) w1 w1.drew := ⟨Nat.le_refl _, fun _ _ _ => rfl, rfl, rfl, rfl⟩
    have dld : vLN w1.drew 3 (.pointer (some ⟨bc, x * 3, none⟩)) = some (.agg #[I (ndAt ns x).kind, I (ndAt ns x).num, nv]) := dl
    (try simp only [go_sem, Nat.reduceAdd, Nat.reduceEqDiff, Nat.reduceLT, Nat.reduceLeDiff, Nat.reduceMul, reduceCtorEq, ↓reduceIte, Nat.mul_one, Int.toNat_natCast, Int.toNat_zero, Nat.sub_zero, Nat.sub_self, cell_of hmv.cells, cell_of ha1, b1, b2, tw, dl, dld])
    obtain ⟨na, nc', rfl, hnl, _⟩ := id dx
    refine e_al ?_
    intro w2 hb2 hm2 hs2
    have hb2 : w2.heap[w1.heap.size]? = some (.cells #[I 0, I 0, .slice none 0 0] 38 (0, 0)) := hb2
    have hs2 : w2.heap.size = w1.heap.size + 1 := hs2
    have hm12 := hwd.trans hm2
    have lc := World.block_lt_of_cell? w1 _ d0
    have lw := World.block_lt_of_cell? w1 _ tw
    have lbm1 := lt_of_heap hmv.cells
    have la1 := lt_of_heap ha1
    refine ⟨⟨hm12.old _ lc (fun h => h), hm12.old _ lw (fun h => h), hm12.old _ lbm1 (fun h => h), hm12.old _ la1 (fun h => h)⟩, ?_⟩
    (try simp only [go_sem, Nat.reduceAdd, Nat.reduceEqDiff, Nat.reduceLT, Nat.reduceLeDiff, Nat.reduceMul, reduceCtorEq, ↓reduceIte])
    refine e_sta rfl rfl hb2 rfl rfl (by simp [Value.oneCell']) ?_
    intro w3 hb3 hm3 hs3
    have hm13 : Mod (fun _ => False) w1 w3 := hm12.step hm3 (fun x hx hlt => by omega)
    have s1 := hm1.size
    have s3 := hm13.size
    (try simp only [go_sem, Nat.reduceAdd, Nat.reduceEqDiff, Nat.reduceLT, Nat.reduceLeDiff, Nat.reduceMul, reduceCtorEq, ↓reduceIte, cell_of hb3])
    refine e_al ?_
    intro w4 hb4 hm4 hs4
    have hb4 : w4.heap[w3.heap.size]? = some (.cells #[I 0, I 0, .slice none 0 0] 38 (0, 0)) := hb4
    (try simp only [go_sem, Nat.reduceAdd, Nat.reduceEqDiff, Nat.reduceLT, Nat.reduceLeDiff, Nat.reduceMul, reduceCtorEq, ↓reduceIte])
    refine e_sta rfl rfl hb4 rfl rfl (by simp [Value.oneCell']) ?_
    intro w5 hb5 hm5 hs5
    have hb5 : w5.heap[w3.heap.size]? = some (.cells #[I (ndAt ns x).kind, I (ndAt ns x).num, .slice none 0 0] 38 (0, 0)) := hb5
    have hm35 : Mod (fun _ => False) w3 w5 := hm4.step hm5 (fun x hx hlt => by omega)
    have hm15 := hm13.trans hm35
    have s5 := hm35.size
    have hb35 := hm35.at hb3 (fun h => h)
    have hmv5 := mt_mod hmv hm15 (fun h => h) (fun _ _ h => h) (fun _ _ h => h)
    have hpl := (wf_at hw hxm.1).2
    have hal : (ndAt ns x).args.length ≤ 8 := hargs _ (by simp [ndAt, hxm.1])
    have hfu : ns.length + 1 - i = (ns.length - i) + 1 := by omega
    rw [hfu, reachF_step ns fr _ i cur hi', hx] at hre
    have hpre2 : meetsF ns fr cur (ndAt ns x).args <+: O := by rw [← hre]; exact reachF_pre ns fr _ _ _
    have lfk : ∀ y, fk = some y → y < w1.heap.size := fun y hy => hmv.met.lt hy
    have dx5 := dx.mod hm15 (fun _ _ h => h)
    have l3 := lt_of_heap hb3
    have l4 := lt_of_heap hb4
    (try simp only [go_sem, Nat.reduceAdd, Nat.reduceEqDiff, Nat.reduceLT, Nat.reduceLeDiff, Nat.reduceMul, reduceCtorEq, ↓reduceIte])
    refine ir_bthen (fun ρ w' => ∃ (vk2 vx : Value) (fk2 fx : Option Nat), MtAt w' bm ns.length fr (meetsF ns fr cur (ndAt ns x).args) vt vk2 fpt fk2 ∧ (∀ y, fk2 = some y → fk = some y ∨ w5.heap.size ≤ y) ∧
        w'.heap[w3.heap.size]? = some (.cells #[I (ndAt ns x).kind, I (ndAt ns x).num, vx] 38 (0, 0)) ∧ Own w' 3 1 vx (((ndAt ns x).args.map (numF ns fr O)).map I) (ndAt ns x).args.length fx ∧ (∀ y, fx = some y → w5.heap.size ≤ y ∧ fk2 ≠ some y) ∧
        Mod (fun y => y = bm ∨ fpt = some y ∨ fk = some y ∨ y = w3.heap.size) w5 w' ∧ ρ.get 0 = some (.pointer (some ⟨a, 0, none⟩)) ∧ ρ.get 1 = some (.pointer (some ⟨bm, 0, none⟩)) ∧ ρ.get 5 = some vr ∧ ρ.get 6 = some (I i) ∧ ρ.get 8 = some (.pointer (some ⟨w3.heap.size, 0, none⟩))) ?_ ?_
    · refine ir_loop (fun m ρ w' => ∃ (k : Nat) (vk2 vx : Value) (fk2 fx : Option Nat), m = (ndAt ns x).args.length - k ∧ k ≤ (ndAt ns x).args.length ∧ MtAt w' bm ns.length fr (meetsF ns fr cur ((ndAt ns x).args.take k)) vt vk2 fpt fk2 ∧ (∀ y, fk2 = some y → fk = some y ∨ w5.heap.size ≤ y) ∧
          w'.heap[w3.heap.size]? = some (.cells #[I (ndAt ns x).kind, I (ndAt ns x).num, vx] 38 (0, 0)) ∧ Own w' 3 1 vx ((((ndAt ns x).args.take k).map (numF ns fr O)).map I) k fx ∧ (∀ y, fx = some y → w5.heap.size ≤ y ∧ fk2 ≠ some y) ∧
          Mod (fun y => y = bm ∨ fpt = some y ∨ fk = some y ∨ y = w3.heap.size) w5 w' ∧
          ρ = [(0, .pointer (some ⟨a, 0, none⟩)), (1, .pointer (some ⟨bm, 0, none⟩)), (5, vr), (6, I i), (7, .pointer (some ⟨w1.heap.size, 0, none⟩)), (8, .pointer (some ⟨w3.heap.size, 0, none⟩)), (9, I k)]) (ndAt ns x).args.length
        ⟨0, _, _, fk, none, rfl, Nat.zero_le _, by simpa [meetsF] using hmv5, (fun y hy => .inl hy), hb5, Own.nil _ _ _, (fun y hy => by cases hy), Mod.refl _ _, rfl⟩ ?_
      rintro m ρ w6 ⟨k, vk2, vx, fk2, fx, rfl, hk, hmv6, hfk2, hb6, hox, hfx, hm6, rfl⟩
      have hne6 : ∀ y, y < w.heap.size → y ≠ bm → fpt ≠ some y → fpm ≠ some y → ¬ (y = bm ∨ fpt = some y ∨ fk = some y ∨ y = w3.heap.size) := fun y h1 h2 h3 h4 hh => by
        rcases hh with hh | hh | hh | hh
        · exact h2 hh
        · exact h3 hh
        · rcases hfk y hh with h | h
          · exact h4 h
          · omega
        · omega
      have hb36 := hm6.at hb35 (fun hh => by
        rcases hh with hh | hh | hh | hh
        · omega
        · have := lft _ hh; omega
        · have := lfk _ hh; omega
        · omega)
      unfold ir62L1
      (try simp only [go_sem, Nat.reduceAdd, Nat.reduceEqDiff, Nat.reduceLT, Nat.reduceLeDiff, Nat.reduceMul, reduceCtorEq, ↓reduceIte, cell_of hb36])
      refine ir_cond rfl (fun hc2 => ?_) (fun hc2 => ?_)
      · have hk' : k < (ndAt ns x).args.length := by simpa using hc2
        have hne : (ndAt ns x).args ≠ [] := fun hh => by rw [hh] at hk'; simp at hk'
        have hwk : IntKind.i64.wrap ((k : Int) + 1) = ((k + 1 : Nat) : Int) := by rw [wrap_in] <;> omega
        have hFx : ∀ y, F y → ¬ (y = bm ∨ fpt = some y ∨ fk = some y ∨ y = w3.heap.size) := fun y hy => by
          have h1 := hFd y hy
          exact hne6 y (hFl y hy) (fun h => h1 (.inl h)) (fun h => h1 (.inr (.inl h))) (fun h => h1 (.inr (.inr h)))
        have dx6 := dx5.mod hm6 (fun b hb => hFx b (db b hb))
        obtain ⟨da, dc, ev, _, hxx⟩ := id dx6
        simp only [Value.slice.injEq] at ev
        obtain ⟨rfl, _, rfl⟩ := ev
        obtain ⟨ad, rfl, hcell⟩ := hxx k hk'
        have hpk := List.all_eq_true.1 hpl (ndAt ns x).args[k] (List.getElem_mem hk')
        simp only [Bool.and_eq_true, decide_eq_true_eq] at hpk
        obtain ⟨p, hp⟩ : ∃ p : Nat, (ndAt ns x).args[k] = (p : Int) := ⟨(ndAt ns x).args[k].toNat, by omega⟩
        rw [hp] at hcell
        have hpn : p < ns.length := by omega
        have b3 : (0 : Int) ≤ k ∧ (k : Int) < (ndAt ns x).args.length := by omega
        have hm06 : Mod (fun y => y = bm ∨ fpt = some y ∨ fpm = some y) w w6 := (hm1.step hm15 (fun _ h _ => h.elim)).step hm6 (fun y hy hlt => by
          rcases hy with hy | hy | hy | hy
          · exact .inl hy
          · exact .inr (.inl hy)
          · exact .inr (.inr ((hfk y hy).elim (fun h => h) (fun h => by omega)))
          · omega)
        have hstep : meetsF ns fr cur ((ndAt ns x).args.take (k + 1)) = meetF ns fr (meetsF ns fr cur ((ndAt ns x).args.take k)) p := by
          rw [meetsF_take ns fr (ndAt ns x).args cur (List.getElem?_eq_getElem hk'), hp, Int.toNat_natCast]
        have hmk : MetF ns fr (meetsF ns fr cur ((ndAt ns x).args.take k)) := metF_meets hw _ hmc (by
          rw [okPl, List.all_eq_true]
          intro y hy
          exact List.all_eq_true.1 hpl y (List.mem_of_mem_take hy))
        (try simp only [go_sem, Nat.reduceAdd, Nat.reduceEqDiff, Nat.reduceLT, Nat.reduceLeDiff, Nat.reduceMul, reduceCtorEq, ↓reduceIte, Nat.mul_one, Int.toNat_natCast, Int.toNat_zero, Nat.sub_zero, Nat.sub_self, b3, hcell, cell_of hb36])
        refine e_call (by rfl) ?_
        refine (thing_ok w6 a c0 c1 _ c3 c4 ns F (hm06.at ha haS) (hfm.mod hm06 hFd) hw hn p hpn).mono ?_
        rintro q _ ⟨rfl, rfl⟩
        (try simp only [go_sem, Nat.reduceAdd, Nat.reduceEqDiff, Nat.reduceLT, Nat.reduceLeDiff, Nat.reduceMul, reduceCtorEq, ↓reduceIte])
        refine e_call (by rfl) ?_
        refine (meet_ok w6 bm ns hw hn fr hfr _ vt vk2 fpt fk2 hmv6 hmk p hpn).mono ?_
        rintro q w7 ⟨rfl, vk7, fk7, hmv7, hm7, hfk7⟩
        rw [← hstep] at hmv7 ⊢
        have hnum : numF ns fr (meetsF ns fr cur ((ndAt ns x).args.take (k + 1))) p = numF ns fr O p := by
          refine (numF_pre ((meetsF_take_pre ns fr _ _ _).trans hpre2) ?_).symm
          rw [hstep]
          exact metF_in ns fr _ p
        rw [hnum]
        have s6 := hm6.size
        have s7 := hm7.size
        have lfx : ∀ y, fx = some y → y < w6.heap.size := fun y hy => hox.lt hy
        have hfk2s : ∀ y, fk2 = some y → y ≠ w3.heap.size := fun y hy hh => own_ne hmv6.met hb6 (by decide) (by rw [hy, hh])
        have hox7 := hox.mod hm7 (fun y hy hh => by
          have h1 := hfx y hy
          rcases hh with hh | hh | hh
          · omega
          · have := lft y hh; omega
          · exact h1.2 hh)
        have hb67 := hm7.at hb6 (fun hh => by
          rcases hh with hh | hh | hh
          · omega
          · have := lft _ hh; omega
          · exact hfk2s _ hh rfl)
        obtain ⟨xa, xc, rfl, _, _⟩ := hox.val
        (try simp only [go_sem, Nat.reduceAdd, Nat.reduceEqDiff, Nat.reduceLT, Nat.reduceLeDiff, Nat.reduceMul, reduceCtorEq, ↓reduceIte, cell_of hb67])
        refine e_bs (by rfl) (by (try simp only [go_sem, Nat.reduceAdd, Nat.reduceEqDiff, Nat.reduceLT, Nat.reduceLeDiff, Nat.reduceMul, reduceCtorEq, ↓reduceIte]); rfl) ?_
        intro w8 hb8 hm8 hs8
        have hox8 := hox7.mod hm8 (fun _ _ h => h)
        have hb68 := hm8.at hb67 (fun h => h)
        have hmv8 := mt_mod hmv7 hm8 (fun h => h) (fun _ _ h => h) (fun _ _ h => h)
        (try simp only [go_sem, Nat.reduceAdd, Nat.reduceEqDiff, Nat.reduceLT, Nat.reduceLeDiff, Nat.reduceMul, reduceCtorEq, ↓reduceIte])
        refine e_ap (m := 1) (news := [I (numF ns fr O p)]) rfl hox8 rfl (fun h => by cases h) (rd_block hb8) (by simp [Value.oneCell']) rfl (by omega) (by omega) ?_
        intro v9 w9 fx9 ho9 hm9 hf9
        obtain ⟨v9a, v9c, rfl, _, _⟩ := ho9.val
        have hb69 := hm9.at hb68 (own_ne hox8 hb68 (by decide))
        have s8 := hm8.size
        (try simp only [go_sem, Nat.reduceAdd, Nat.reduceEqDiff, Nat.reduceLT, Nat.reduceLeDiff, Nat.reduceMul, reduceCtorEq, ↓reduceIte])
        refine e_st1 (off := 2) rfl rfl hb69 rfl (by simp) ?_
        intro w10 hb10 hm10 hs10
        have hb10 : w10.heap[w3.heap.size]? = some (.cells #[I (ndAt ns x).kind, I (ndAt ns x).num, .slice v9a (k + 1) v9c] 38 (0, 0)) := hb10
        (try simp only [go_sem, Nat.reduceAdd, Nat.reduceEqDiff, Nat.reduceLT, Nat.reduceLeDiff, Nat.reduceMul, reduceCtorEq, ↓reduceIte, hwk])
        have hmv9 := mt_mod hmv8 hm9 (fun hh => by have := hfx _ hh; omega) (fun y hy hh => by have := lft y hy; have := hfx y hh; omega) (fun y hy hh => by
          rcases hfk7 y hy with h | h
          · exact (hfx y hh).2 h
          · have := lfx y hh; omega)
        have hmv10 := mt_mod hmv9 hm10 (by omega) (fun y hy hh => by have := lft y hy; omega) (fun y hy hh => own_ne hmv9.met hb69 (by decide) (by rw [hy, hh]))
        have hfk7' : ∀ y, fk7 = some y → fk = some y ∨ w5.heap.size ≤ y := fun y hy => by
          rcases hfk7 y hy with h | h
          · exact hfk2 y h
          · exact .inr (by omega)
        refine ⟨_, ?_, k + 1, vk7, .slice v9a (k + 1) v9c, fk7, fx9, rfl, hk', hmv10, hfk7', hb10, ?_, fun y hy => ?_, ?_, rfl⟩
        · omega
        · have := ho9.mod hm10 (fun y hy hh => own_ne ho9 hb69 (by decide) (by rw [hy, hh]))
          rw [List.take_succ_eq_append_getElem hk', List.map_append, List.map_append, hp]
          exact this
        · rcases hf9 y hy with h | h
          · refine ⟨(hfx y h).1, fun hh => ?_⟩
            rcases hfk7 y hh with h2 | h2
            · exact (hfx y h).2 h2
            · have := lfx y h; omega
          · refine ⟨by omega, fun hh => ?_⟩
            have := hmv8.met.lt hh
            omega
        · refine (((hm6.step hm7 (fun y hy hlt => ?_)).step hm8 (fun _ h _ => h.elim)).step hm9 (fun y hy hlt => ?_)).step hm10 (fun y hy _ => .inr (.inr (.inr hy)))
          · rcases hy with hy | hy | hy
            · exact .inl hy
            · exact .inr (.inl hy)
            · rcases hfk2 y hy with h | h
              · exact .inr (.inr (.inl h))
              · omega
          · have := hfx y hy; omega
      · have hk' : k = (ndAt ns x).args.length := by simp at hc2; omega
        subst hk'
        rw [List.take_length] at hmv6 hox
        (try simp only [go_sem, Nat.reduceAdd, Nat.reduceEqDiff, Nat.reduceLT, Nat.reduceLeDiff, Nat.reduceMul, reduceCtorEq, ↓reduceIte])
        exact ⟨vk2, vx, fk2, fx, hmv6, hfk2, hb6, hox, hfx, hm6⟩
    rintro ρ w6 ⟨vk2, vx, fk2, fx, hmv6, hfk2, hb6, hox, hfx, hm6, r0, r1, r5, r6, r8⟩
    obtain ⟨xa, xc, rfl, _, _⟩ := hox.val
    obtain ⟨ra, rc, rfl, _, _⟩ := hor.val
    have hwk : IntKind.i64.wrap ((i : Int) + 1) = ((i + 1 : Nat) : Int) := by rw [wrap_in] <;> omega
    have hpsl : ps.length = i := by
      have := congrArg List.length hps
      rw [List.length_map, List.length_map, List.length_take] at this
      omega
    have s6 := hm6.size
    have hfq' : ∀ y, fq = some y → y < w1.heap.size := fun y hy => hor.lt hy
    have hfps' : ∀ j y, j < ps.length → fps j = some y → y < w1.heap.size := fun j y hj hy => (had.1 j hj).1.lt hy
    have keepq : ∀ y, fq = some y → ¬ (y = bm ∨ fpt = some y ∨ fk = some y ∨ y = w3.heap.size) := fun y hy hh => by
      have := hfq y hy
      have := hfq' y hy
      rcases hh with hh | hh | hh | hh
      · omega
      · have := lft y hh; omega
      · exact own_apart hor hmv.met (by decide) hy hh
      · omega
    have keepp : ∀ j y, j < ps.length → fps j = some y → ¬ (y = bm ∨ fpt = some y ∨ fk = some y ∨ y = w3.heap.size) := fun j y hj hy hh => by
      have := (had.1 j hj).2 y hy
      have := hfps' j y hj hy
      rcases hh with hh | hh | hh | hh
      · omega
      · have := lft y hh; omega
      · exact hdis j y hj hy hh
      · omega
    have hor6 := (hor.mod hm15 (fun _ _ h => h)).mod hm6 keepq
    have had6 := argsD_mod (argsD_mod had hm15 (fun _ _ _ _ h => h)) hm6 keepp
    (try simp only [go_sem, Nat.reduceAdd, Nat.reduceEqDiff, Nat.reduceLT, Nat.reduceLeDiff, Nat.reduceMul, reduceCtorEq, ↓reduceIte, r0, r1, r5, r6, r8, ln_of hb6 (off := 0) (n := 3) (by simp)])
    refine e_bs (by rfl) (by (try simp only [go_sem, Nat.reduceAdd, Nat.reduceEqDiff, Nat.reduceLT, Nat.reduceLeDiff, Nat.reduceMul, reduceCtorEq, ↓reduceIte]); rfl) ?_
    intro w7 hb7 hm7 hs7
    have hor7 := hor6.mod hm7 (fun _ _ h => h)
    have had7 := argsD_mod had6 hm7 (fun _ _ _ _ h => h)
    have hox7 := hox.mod hm7 (fun _ _ h => h)
    have hmv7 := mt_mod hmv6 hm7 (fun h => h) (fun _ _ h => h) (fun _ _ h => h)
    (try simp only [go_sem, Nat.reduceAdd, Nat.reduceEqDiff, Nat.reduceLT, Nat.reduceLeDiff, Nat.reduceMul, reduceCtorEq, ↓reduceIte])
    refine e_ap (m := 1) (news := nc (movedF ns fr O x, .slice xa (ndAt ns x).args.length xc)) rfl hor7 rfl (fun h => by cases h) (rd_block hb7) (by simp [nc, Value.oneCell']) rfl (by omega) (by omega) ?_
    intro v8 w8 fq8 ho8 hm8 hf8
    obtain ⟨v8a, v8c, rfl, _, _⟩ := ho8.val
    have s7 := hm7.size; have s8 := hm8.size
    (try simp only [go_sem, Nat.reduceAdd, Nat.reduceEqDiff, Nat.reduceLT, Nat.reduceLeDiff, Nat.reduceMul, reduceCtorEq, ↓reduceIte, hwk])
    have had8 := argsD_mod had7 hm8 (fun j y hj hy hh => own_apart (had7.1 j hj).1 hor7 (by decide) hy hh)
    have hox8 := hox7.mod hm8 (fun y hy hh => own_apart hox7 hor7 (by decide) hy hh)
    have hmv8 := mt_mod hmv7 hm8 (fun hh => by have := hfq _ hh; omega) (fun y hy hh => by have := lft y hy; have := hfq y hh; omega) (fun y hy hh => own_apart hmv7.met hor7 (by decide) hy hh)
    have hall : Mod (fun y => y = bm ∨ fpt = some y ∨ fpm = some y) w w8 := (((hm1.step hm15 (fun _ h _ => h.elim)).step hm6 (fun y hy hlt => by
      rcases hy with hy | hy | hy | hy
      · exact .inl hy
      · exact .inr (.inl hy)
      · exact .inr (.inr ((hfk y hy).elim (fun h => h) (fun h => by omega)))
      · omega)).step hm7 (fun _ h _ => h.elim)).step hm8 (fun y hy hlt => by have := hfq y hy; omega)
    have hpre3 := (meetsF_pre ns fr (ndAt ns x).args cur).length_le
    have hmlen : (movedF ns fr O x).args.length = (ndAt ns x).args.length := by simp [movedF]
    refine ⟨_, ?_, i + 1, meetsF ns fr cur (ndAt ns x).args, vk2, .slice v8a (i + 1) v8c, fk2, fq8, ps ++ [(movedF ns fr O x, .slice xa (ndAt ns x).args.length xc)], _, rfl, by omega, metF_meets hw _ hmc hpl, ?_, hmv8, hall, fun y hy => ?_, ?_, fun y hy => ?_, argsD_app had8 (by rw [hmlen]; exact hox8) (fun y hy => by have := (hfx y hy).1; omega) (fun j y hj hy hh => ?_), ?_, fun j y hj hy hh => ?_, rfl⟩
    · have := hpre.length_le; omega
    · rw [← hre]; congr 1; omega
    · rcases hfk2 y hy with h | h
      · exact hfk y h
      · exact .inr (by omega)
    · rw [flat_app, flat_one]; exact ho8
    · rcases hf8 y hy with h | h
      · exact hfq y h
      · omega
    · have := hfps' j y hj hy
      have := (hfx y hh).1
      omega
    · rw [List.map_append, hps]
      have e1 : (meetsF ns fr cur (ndAt ns x).args).take (i + 1) = cur.take i ++ [x] := by
        obtain ⟨t, ht⟩ := meetsF_pre ns fr (ndAt ns x).args cur
        rw [← ht, List.take_append_of_le_length (by omega), List.take_succ_eq_append_getElem hi', hx]
      rw [e1, List.map_append]
      rfl
    · simp only [List.length_append, List.length_cons, List.length_nil] at hj
      by_cases hjp : j < ps.length
      · rw [if_pos hjp] at hy
        rcases hfk2 y hh with h | h
        · exact hdis j y hjp hy h
        · have := hfps' j y hjp hy; omega
      · rw [if_neg hjp] at hy
        exact (hfx y hy).2 hh
  · have hi' : i = cur.length := by simp at hc; omega
    have hce : cur = O := by rw [← hre, reachF_end _ _ _ _ _ (by omega)]
    subst hce
    subst hi'
    rw [List.take_length] at hps
    (try simp only [go_sem, Nat.reduceAdd, Nat.reduceEqDiff, Nat.reduceLT, Nat.reduceLeDiff, Nat.reduceMul, reduceCtorEq, ↓reduceIte])
    exact ⟨_, fk, fq, ps, fps, hmv, hm1, hor, hfq, had, hps⟩
end Go.Proofs.Ytnimaifmcejkcaa
end

section
set_option linter.unusedSimpArgs false
set_option linter.unusedVariables false
set_option maxRecDepth 100000
namespace Go.Proofs.Ytnimaifmcejkcaa
open Go Go.W

theorem meetsF_next {ns : List Nd} {fr : Nat} {cur : List Nat} {l : List Int} {k p : Nat} (hk : k < l.length) (hp : l[k] = (p : Int)) : meetsF ns fr cur (l.take (k + 1)) = meetF ns fr (meetsF ns fr cur (l.take k)) p := by
  rw [meetsF_take ns fr l cur (List.getElem?_eq_getElem hk), hp, Int.toNat_natCast]
theorem meetsF_met {ns : List Nd} (hw : WF ns) {fr : Nat} {cur : List Nat} (h : MetF ns fr cur) {l : List Int} (hl : okPl ns.length l = true) (k : Nat) : MetF ns fr (meetsF ns fr cur (l.take k)) :=
  metF_meets hw _ h (by
    rw [okPl, List.all_eq_true]
    intro y hy
    exact List.all_eq_true.1 hl y (List.mem_of_mem_take hy))
theorem okPl_at {n : Nat} {l : List Int} (h : okPl n l = true) {k : Nat} (hk : k < l.length) : ∃ p : Nat, l[k] = (p : Int) ∧ p < n := by
  have hpk := List.all_eq_true.1 h l[k] (List.getElem_mem hk)
  simp only [Bool.and_eq_true, decide_eq_true_eq] at hpk
  exact ⟨l[k].toNat, by omega, by omega⟩
theorem ints_cell {w : World} {a : Option Addr} {n c : Nat} {l : List Int} (h : Ints w (.slice a n c) l) {k p : Nat} (hk : k < l.length) (hp : l[k] = (p : Int)) : ∃ ad, a = some ad ∧ w.cell? (ad.add k) = some (I (p : Nat)) := by
  obtain ⟨a', c', e, _, hx⟩ := h
  cases e
  obtain ⟨ad, h1, h2⟩ := hx k hk
  rw [hp] at h2
  exact ⟨ad, h1, h2⟩

theorem rcol_ok (w : World) (a : Nat) (size young : Int) (old : Nat) (times : Int) (ns : List Nd) (F : Nat → Prop) (h : RAt w a size young old times ns F) (hw : WF ns) (hn : ns.length ≤ 1048576) (v : Value) (roots : List Int) (hx : Ints w v roots)
    (hv : roots ≠ [] → ∀ x, vblk v = some x → ¬ F x) (hsm : roots.length ≤ 17592186044416) :
    CallsR Try.prog 35 [.pointer (some ⟨a, 0, none⟩), v] w (GColPost RAt w a size young old times ns roots F) := by
  have hFl := rat_lt h
  have hargs := wf_args_le hw
  obtain ⟨va, vc, rfl, _, _⟩ := id hx
  refine fit35.calls rfl ?_
  unfold ir35
  (try simp only [go_sem, Nat.reduceAdd, Nat.reduceEqDiff, Nat.reduceLT, Nat.reduceLeDiff, Nat.reduceMul, reduceCtorEq, ↓reduceIte])
  refine e_call (by rfl) ?_
  refine (rplaces_ok w a ns.length old _ roots (rat_has h) hx).mono ?_
  rintro r w0 ⟨rfl, hm0⟩
  (try simp only [go_sem, Nat.reduceAdd, Nat.reduceEqDiff, Nat.reduceLT, Nat.reduceLeDiff, Nat.reduceMul, reduceCtorEq, ↓reduceIte])
  refine ir_cond rfl (fun hc => ?_) (fun hc => ?_)
  · have hc' : okPl ns.length roots = false := by simpa using hc
    (try simp only [go_sem, Nat.reduceAdd, Nat.reduceEqDiff, Nat.reduceLT, Nat.reduceLeDiff, Nat.reduceMul, reduceCtorEq, ↓reduceIte])
    exact ⟨fun _ => ⟨rfl, hm0⟩, fun h => by rw [hc'] at h; cases h⟩
  have hok : okPl ns.length roots = true := by simpa using hc
  have s0 := hm0.size
  obtain ⟨cv, g1, g2, g3⟩ := rat_mod h hm0 (fun _ _ h => h)
  have la := hFl a g2
  (try simp only [go_sem, Nat.reduceAdd, Nat.reduceEqDiff, Nat.reduceLT, Nat.reduceLeDiff, Nat.reduceMul, reduceCtorEq, ↓reduceIte, cell_of g1])
  refine e_st1 (off := 4) rfl rfl g1 rfl (by simp) ?_
  intro w1 hb1 hm1 hs1
  have hb1 : w1.heap[a]? = some (.cells #[I size, I young, cv, I old, I (IntKind.i64.wrap (times + 1))] 74 (0, 0)) := hb1
  have hx1 := ints_mod' (hx.mod hm0 (fun _ _ h => h)) hm1 (fun hne x hx hh => hv hne x hx (hh ▸ g2))
  have s1 := hm1.size
  have g31 : FromAt 38 w1 cv ns (fun x => F x ∧ x ≠ a) := by
    obtain ⟨fpc, ps, h1, h2, h3, h4, h5⟩ := g3
    refine FromAt.mod ⟨fpc, ps, h1, fun b hb => ⟨h2 b hb, fun hh => own_ne h1 g1 (by decide) (by rw [hb, hh])⟩, fun p hp => ?_, h4, fun b hb => by have := h5 b hb.1; omega⟩ hm1 (fun b hb => hb.2)
    obtain ⟨fp, k1, k2⟩ := h3 p hp
    exact ⟨fp, k1, fun b hb => ⟨k2 b hb, fun hh => own_ne k1 g1 (by decide) (by rw [hb, hh])⟩⟩
  obtain ⟨ca, cc, rfl, _⟩ := fromAt_val g3
  have has1 : RHas w1 a ns.length old := ⟨_, _, _, _, _, hb1⟩
  (try simp only [go_sem, Nat.reduceAdd, Nat.reduceEqDiff, Nat.reduceLT, Nat.reduceLeDiff, Nat.reduceMul, reduceCtorEq, ↓reduceIte])
  refine e_call (by rfl) ?_
  refine (begun_ok w1 a ns.length old has1 hn 0).mono ?_
  rintro r w2 ⟨bm, vt, fpt, rfl, hmt2, lbm, lft, hm2⟩
  have s2 := hm2.size
  have lbm2 := lt_of_heap hmt2.cells
  have lft2 : ∀ x, fpt = some x → x < w2.heap.size := fun x hx => hmt2.to.lt hx
  obtain ⟨O, hO⟩ : ∃ O, smallO ns 0 roots = O := ⟨_, rfl⟩
  have hreach : reachF ns 0 (ns.length + 1) 0 (meetsF ns 0 [] roots) = O := hO
  have hpreO : meetsF ns 0 [] roots <+: O := by rw [← hreach]; exact reachF_pre ns 0 _ _ _
  (try simp only [go_sem, Nat.reduceAdd, Nat.reduceEqDiff, Nat.reduceLT, Nat.reduceLeDiff, Nat.reduceMul, reduceCtorEq, ↓reduceIte])
  refine ir_bthen (fun ρ w' => ∃ (vk vr : Value) (fk fq : Option Nat), MtAt w' bm ns.length 0 (meetsF ns 0 [] roots) vt vk fpt fk ∧ (∀ y, fk = some y → w1.heap.size ≤ y) ∧ Own w' 3 1 vr ((roots.map (numF ns 0 O)).map I) roots.length fq ∧ (∀ y, fq = some y → w2.heap.size ≤ y ∧ fk ≠ some y) ∧
      Mod (fun _ => False) w1 w' ∧ ρ.get 0 = some (.pointer (some ⟨a, 0, none⟩)) ∧ ρ.get 7 = some (.pointer (some ⟨bm, 0, none⟩)) ∧ ρ.get 8 = some vr) ?_ ?_
  · refine ir_loop (fun m ρ w' => ∃ (k : Nat) (vk vr : Value) (fk fq : Option Nat), m = roots.length - k ∧ k ≤ roots.length ∧ MtAt w' bm ns.length 0 (meetsF ns 0 [] (roots.take k)) vt vk fpt fk ∧ (∀ y, fk = some y → w2.heap.size ≤ y) ∧ Own w' 3 1 vr (((roots.take k).map (numF ns 0 O)).map I) k fq ∧ (∀ y, fq = some y → w2.heap.size ≤ y ∧ fk ≠ some y) ∧
        Mod (fun _ => False) w1 w' ∧ w2.heap.size ≤ w'.heap.size ∧
        ρ = [(0, .pointer (some ⟨a, 0, none⟩)), (1, .slice va roots.length vc), (7, .pointer (some ⟨bm, 0, none⟩)), (8, vr), (9, I k)]) roots.length
      ⟨0, _, _, none, none, rfl, Nat.zero_le _, by simpa [meetsF] using hmt2, (fun y hy => by cases hy), Own.nil _ _ _, (fun y hy => by cases hy), hm2, Nat.le_refl _, rfl⟩ ?_
    rintro m ρ w3 ⟨k, vk, vr, fk, fq, rfl, hk, hmt3, hfk, hor, hfq, hm3, s3, rfl⟩
    unfold ir35L1
    (try simp only [go_sem, Nat.reduceAdd, Nat.reduceEqDiff, Nat.reduceLT, Nat.reduceLeDiff, Nat.reduceMul, reduceCtorEq, ↓reduceIte])
    refine ir_cond rfl (fun hc => ?_) (fun hc => ?_)
    · have hk' : k < roots.length := by simpa using hc
      have hwk : IntKind.i64.wrap ((k : Int) + 1) = ((k + 1 : Nat) : Int) := by rw [wrap_in] <;> omega
      obtain ⟨p, hp, hpn⟩ := okPl_at hok hk'
      obtain ⟨ad, rfl, hcell⟩ := ints_cell (hx1.mod hm3 (fun _ _ h => h)) hk' hp
      have b3 : (0 : Int) ≤ k ∧ (k : Int) < roots.length := by omega
      have hmk := meetsF_met hw (metF_nil ns 0) hok k
      have hstep := meetsF_next (ns := ns) (fr := 0) (cur := []) hk' hp
      (try simp only [go_sem, Nat.reduceAdd, Nat.reduceEqDiff, Nat.reduceLT, Nat.reduceLeDiff, Nat.reduceMul, reduceCtorEq, ↓reduceIte, Nat.mul_one, Int.toNat_natCast, Int.toNat_zero, Nat.sub_zero, Nat.sub_self, b3, hcell])
      refine e_call (by rfl) ?_
      refine (thing_ok w3 a _ _ _ _ _ ns _ (hm3.at hb1 (fun h => h)) (g31.mod hm3 (fun _ _ h => h)) hw hn p hpn).mono ?_
      rintro q _ ⟨rfl, rfl⟩
      (try simp only [go_sem, Nat.reduceAdd, Nat.reduceEqDiff, Nat.reduceLT, Nat.reduceLeDiff, Nat.reduceMul, reduceCtorEq, ↓reduceIte])
      refine e_call (by rfl) ?_
      refine (meet_ok w3 bm ns hw hn 0 (Nat.zero_le _) _ vt vk fpt fk hmt3 hmk p hpn).mono ?_
      rintro q w4 ⟨rfl, vk4, fk4, hmt4, hm4, hfk4⟩
      rw [← hstep] at hmt4 ⊢
      have hnum : numF ns 0 (meetsF ns 0 [] (roots.take (k + 1))) p = numF ns 0 O p := by
        refine (numF_pre ((meetsF_take_pre ns 0 _ _ _).trans hpreO) ?_).symm
        rw [hstep]
        exact metF_in ns 0 _ p
      rw [hnum]
      have s4 := hm4.size
      have hor4 := hor.mod hm4 (fun y hy hh => by
        have h1 := hfq y hy
        rcases hh with hh | hh | hh
        · omega
        · have := lft2 y hh; omega
        · exact h1.2 hh)
      obtain ⟨ra, rc, rfl, _, _⟩ := hor.val
      (try simp only [go_sem, Nat.reduceAdd, Nat.reduceEqDiff, Nat.reduceLT, Nat.reduceLeDiff, Nat.reduceMul, reduceCtorEq, ↓reduceIte])
      refine e_bs (by rfl) (by (try simp only [go_sem, Nat.reduceAdd, Nat.reduceEqDiff, Nat.reduceLT, Nat.reduceLeDiff, Nat.reduceMul, reduceCtorEq, ↓reduceIte]); rfl) ?_
      intro w5 hb5 hm5 hs5
      have hor5 := hor4.mod hm5 (fun _ _ h => h)
      have hmt5 := mt_mod hmt4 hm5 (fun h => h) (fun _ _ h => h) (fun _ _ h => h)
      (try simp only [go_sem, Nat.reduceAdd, Nat.reduceEqDiff, Nat.reduceLT, Nat.reduceLeDiff, Nat.reduceMul, reduceCtorEq, ↓reduceIte])
      refine e_ap (m := 1) (news := [I (numF ns 0 O p)]) rfl hor5 rfl (fun h => by cases h) (rd_block hb5) (by simp [Value.oneCell']) rfl (by omega) (by omega) ?_
      intro v6 w6 fq6 ho6 hm6 hf6
      obtain ⟨v6a, v6c, rfl, _, _⟩ := ho6.val
      have s5 := hm5.size; have s6 := hm6.size
      have lfq : ∀ y, fq = some y → y < w3.heap.size := fun y hy => hor.lt hy
      have hmt6 := mt_mod hmt5 hm6 (fun hh => by have := hfq _ hh; omega) (fun y hy hh => by have := lft2 y hy; have := hfq y hh; omega) (fun y hy hh => by
        rcases hfk4 y hy with h | h
        · exact (hfq y hh).2 h
        · have := lfq y hh; omega)
      (try simp only [go_sem, Nat.reduceAdd, Nat.reduceEqDiff, Nat.reduceLT, Nat.reduceLeDiff, Nat.reduceMul, reduceCtorEq, ↓reduceIte, hwk])
      refine ⟨_, ?_, k + 1, vk4, .slice v6a (k + 1) v6c, fk4, fq6, rfl, hk', hmt6, fun y hy => ?_, ?_, fun y hy => ?_, ((hm3.step hm4 (fun y hy hlt => ?_)).step hm5 (fun _ h _ => h.elim)).step hm6 (fun y hy hlt => ?_), by omega, rfl⟩
      · omega
      · rcases hfk4 y hy with h | h
        · exact hfk y h
        · omega
      · rw [List.take_succ_eq_append_getElem hk', List.map_append, List.map_append, hp]
        exact ho6
      · rcases hf6 y hy with h | h
        · refine ⟨(hfq y h).1, fun hh => ?_⟩
          rcases hfk4 y hh with h2 | h2
          · exact (hfq y h).2 h2
          · have := lfq y h; omega
        · refine ⟨by omega, fun hh => ?_⟩
          have := hmt5.met.lt hh
          omega
      · rcases hy with hy | hy | hy
        · omega
        · have := lft y hy; omega
        · have := hfk y hy; omega
      · have := hfq y hy; omega
    · have hk' : k = roots.length := by simp at hc; omega
      subst hk'
      rw [List.take_length] at hmt3 hor
      (try simp only [go_sem, Nat.reduceAdd, Nat.reduceEqDiff, Nat.reduceLT, Nat.reduceLeDiff, Nat.reduceMul, reduceCtorEq, ↓reduceIte])
      exact ⟨vk, vr, fk, fq, hmt3, fun y hy => by have := hfk y hy; omega, hor, hfq, hm3, rfl⟩
  rintro ρ w3 ⟨vk, vr, fk, fq, hmt3, hfk, hor, hfq, hm3, r0, r7, r8⟩
  have hmet := metF_meets hw roots (metF_nil ns 0) hok
  (try simp only [go_sem, Nat.reduceAdd, Nat.reduceEqDiff, Nat.reduceLT, Nat.reduceLeDiff, Nat.reduceMul, reduceCtorEq, ↓reduceIte, r0, r7, r8])
  refine e_call (by rfl) ?_
  refine (gather_ok w3 a bm ns hw hn 0 (Nat.zero_le _) _ vt vk fpt fk hmt3 hmet _ _ _ _ _ _ (hm3.at hb1 (fun h => h)) (g31.mod hm3 (fun _ _ h => h)) (fun x hx hh => ?_)).mono ?_
  · have := hFl x hx.1
    rcases hh with hh | hh | hh
    · omega
    · have := lft x hh; omega
    · have := hfk x hh; omega
  rintro q w4 ⟨vm4, fpm4, fq4, ps, fps, hmt4, hm4, ho4, hfq4, had4, hps4⟩
  rw [hreach] at hmt4 ho4 hps4
  obtain ⟨va4, vc4, rfl, _, _⟩ := ho4.val
  have s3 := hm3.size
  have s4 := hm4.size
  have hm14 : Mod (fun _ => False) w1 w4 := hm3.step hm4 (fun x hx hlt => by
    rcases hx with hx | hx | hx
    · omega
    · have := lft x hx; omega
    · have := hfk x hx; omega)
  have hb4 := hm14.at hb1 (fun h => h)
  have hor4 := hor.mod hm4 (fun y hy hh => by
    have h1 := hfq y hy
    rcases hh with hh | hh | hh
    · omega
    · have := lft2 y hh; omega
    · exact h1.2 hh)
  (try simp only [go_sem, Nat.reduceAdd, Nat.reduceEqDiff, Nat.reduceLT, Nat.reduceLeDiff, Nat.reduceMul, reduceCtorEq, ↓reduceIte])
  refine e_st1 (off := 2) rfl rfl hb4 rfl (by simp) ?_
  intro w5 hb5 hm5 hs5
  have hb5 : w5.heap[a]? = some (.cells #[I size, I young, .slice va4 O.length vc4, I old, I (IntKind.i64.wrap (times + 1))] 74 (0, 0)) := hb5
  (try simp only [go_sem, Nat.reduceAdd, Nat.reduceEqDiff, Nat.reduceLT, Nat.reduceLeDiff, Nat.reduceMul, reduceCtorEq, ↓reduceIte, cell_of hb5])
  refine e_st1 (off := 3) rfl rfl hb5 rfl (by simp) ?_
  intro w6 hb6 hm6 hs6
  have hb6 : w6.heap[a]? = some (.cells #[I size, I young, .slice va4 O.length vc4, I O.length, I (IntKind.i64.wrap (times + 1))] 74 (0, 0)) := hb6
  have hm46 : Mod (fun x => x = a) w4 w6 := hm5.trans hm6
  have hlen : (smallNs ns 0 roots).length = O.length := by rw [small_length, hO]; omega
  have hns : smallNs ns 0 roots = ps.map Prod.fst := by rw [hps4]; simp [smallNs, hO]
  have hrs : smallRoots ns 0 roots = roots.map (numF ns 0 O) := by unfold smallRoots; rw [hO]
  have s6 := hm46.size
  obtain ⟨qa, qc, rfl, _, _⟩ := hor.val
  (try simp only [go_sem, Nat.reduceAdd, Nat.reduceEqDiff, Nat.reduceLT, Nat.reduceLeDiff, Nat.reduceMul, reduceCtorEq, ↓reduceIte])
  refine ⟨fun h => (by rw [hok] at h; cases h), fun _ => ⟨_, rfl, fq, fun x => x = a ∨ fq4 = some x ∨ ∃ j, j < ps.length ∧ fps j = some x, ?_, ?_, ⟨((hm0.weak (S' := F) (fun _ h => h.elim)).step hm1 (fun x hx _ => hx ▸ g2)).step hm14 (fun _ h _ => h.elim) |>.step hm46 (fun x hx _ => hx ▸ g2), fun x hx => ?_⟩, fun x hx => ?_⟩⟩
  · rw [hrs]; exact hor4.mod hm46 (fun x hx hh => by have := hfq x hx; omega)
  · rw [hlen]
    refine ⟨_, hb6, .inl rfl, fq4, ps, ?_, fun x hx => .inr (.inl hx), fun p hp => ?_, hns.symm, fun x hx => ?_⟩
    · rw [hlen]; exact ho4.mod hm46 (fun x hx hh => by have := hfq4 x hx; omega)
    · obtain ⟨j, hj, rfl⟩ := List.getElem_of_mem hp
      have := had4.1 j hj
      exact ⟨fps j, this.1.mod hm46 (fun x hx hh => by have := this.2 x hx; omega), fun x hx => .inr (.inr ⟨j, hj, hx⟩)⟩
    · rcases hx with hx | hx | ⟨j, hj, hx⟩
      · omega
      · have := ho4.lt hx; omega
      · have := (had4.1 j hj).1.lt hx; omega
  · rcases hx with hx | hx | ⟨j, hj, hx⟩
    · exact .inl (hx ▸ g2)
    · have := hfq4 x hx; exact .inr (by omega)
    · have := (had4.1 j hj).2 x hx; exact .inr (by omega)
  · have h1 := hfq x hx
    have h2 := hor.lt hx
    refine ⟨by omega, fun hh => ?_⟩
    rcases hh with hh | hh | ⟨j, hj, hh⟩
    · omega
    · have := hfq4 x hh; omega
    · have := (had4.1 j hj).2 x hh; omega
end Go.Proofs.Ytnimaifmcejkcaa
end

section
set_option linter.unusedSimpArgs false
set_option linter.unusedVariables false
set_option maxRecDepth 100000
namespace Go.Proofs.Ytnimaifmcejkcaa
open Go Go.W

theorem rsmall_ok (w : World) (a : Nat) (size young : Int) (old : Nat) (times : Int) (ns : List Nd) (F : Nat → Prop) (h : RAt w a size young old times ns F) (ho : old ≤ ns.length) (hw : WF ns) (hn : ns.length ≤ 1048576) (v : Value) (roots : List Int) (hx : Ints w v roots) (hok : okPl ns.length roots = true)
    (hv : roots ≠ [] → ∀ x, vblk v = some x → ¬ F x) (hsm : roots.length ≤ 17592186044416) :
    CallsR Try.prog 63 [.pointer (some ⟨a, 0, none⟩), v] w (SmallPost RAt w a size young times ns old roots F) := by
  have hFl := rat_lt h
  have hargs := wf_args_le hw
  obtain ⟨va, vc, rfl, _, _⟩ := id hx
  refine fit63.calls rfl ?_
  unfold ir63
  obtain ⟨cv, g1, g2, g3⟩ := h
  have la := hFl a g2
  (try simp only [go_sem, Nat.reduceAdd, Nat.reduceEqDiff, Nat.reduceLT, Nat.reduceLeDiff, Nat.reduceMul, reduceCtorEq, ↓reduceIte, cell_of g1])
  refine e_st1 (off := 4) rfl rfl g1 rfl (by simp) ?_
  intro w1 hb1 hm1 hs1
  have hb1 : w1.heap[a]? = some (.cells #[I size, I young, cv, I old, I (IntKind.i64.wrap (times + 1))] 74 (0, 0)) := hb1
  have hx1 := ints_mod' hx hm1 (fun hne x hx hh => hv hne x hx (hh ▸ g2))
  have s1 := hm1.size
  have g31 : FromAt 38 w1 cv ns (fun x => F x ∧ x ≠ a) := by
    obtain ⟨fpc, ps, h1, h2, h3, h4, h5⟩ := g3
    refine FromAt.mod ⟨fpc, ps, h1, fun b hb => ⟨h2 b hb, fun hh => own_ne h1 g1 (by decide) (by rw [hb, hh])⟩, fun p hp => ?_, h4, fun b hb => by have := h5 b hb.1; omega⟩ hm1 (fun b hb => hb.2)
    obtain ⟨fp, k1, k2⟩ := h3 p hp
    exact ⟨fp, k1, fun b hb => ⟨k2 b hb, fun hh => own_ne k1 g1 (by decide) (by rw [hb, hh])⟩⟩
  obtain ⟨ca, cc, rfl, _⟩ := fromAt_val g3
  have has1 : RHas w1 a ns.length old := ⟨_, _, _, _, _, hb1⟩
  (try simp only [go_sem, Nat.reduceAdd, Nat.reduceEqDiff, Nat.reduceLT, Nat.reduceLeDiff, Nat.reduceMul, reduceCtorEq, ↓reduceIte, cell_of hb1])
  refine e_call (by rfl) ?_
  refine (begun_ok w1 a ns.length old has1 hn old).mono ?_
  rintro r w2 ⟨bm, vt, fpt, rfl, hmt2, lbm, lft, hm2⟩
  have s2 := hm2.size
  have lbm2 := lt_of_heap hmt2.cells
  have lft2 : ∀ x, fpt = some x → x < w2.heap.size := fun x hx => hmt2.to.lt hx
  obtain ⟨O, hO⟩ : ∃ O, smallO ns old roots = O := ⟨_, rfl⟩
  obtain ⟨O1, hO1⟩ : ∃ O1, meetsF ns old [] roots = O1 := ⟨_, rfl⟩
  have hreach : reachF ns old (ns.length + 1) 0 (oldMeets ns old old O1) = O := by rw [← hO1]; exact hO
  have hpre2 : oldMeets ns old old O1 <+: O := by rw [← hreach]; exact reachF_pre ns old _ _ _
  have hpreO : O1 <+: O := (oldMeets_pre ns old old O1).trans hpre2
  have hmO1 : MetF ns old O1 := hO1 ▸ metF_meets hw roots (metF_nil ns old) hok
  (try simp only [go_sem, Nat.reduceAdd, Nat.reduceEqDiff, Nat.reduceLT, Nat.reduceLeDiff, Nat.reduceMul, reduceCtorEq, ↓reduceIte])
  refine ir_bthen (fun ρ w' => ∃ (vk vr : Value) (fk fq : Option Nat), MtAt w' bm ns.length old O1 vt vk fpt fk ∧ (∀ y, fk = some y → w2.heap.size ≤ y) ∧ Own w' 3 1 vr ((roots.map (numF ns old O)).map I) roots.length fq ∧ (∀ y, fq = some y → w2.heap.size ≤ y ∧ fk ≠ some y) ∧
      Mod (fun _ => False) w1 w' ∧ w2.heap.size ≤ w'.heap.size ∧ ρ.get 0 = some (.pointer (some ⟨a, 0, none⟩)) ∧ ρ.get 5 = some (.pointer (some ⟨bm, 0, none⟩)) ∧ ρ.get 6 = some vr) ?_ ?_
  · refine ir_loop (fun m ρ w' => ∃ (k : Nat) (vk vr : Value) (fk fq : Option Nat), m = roots.length - k ∧ k ≤ roots.length ∧ MtAt w' bm ns.length old (meetsF ns old [] (roots.take k)) vt vk fpt fk ∧ (∀ y, fk = some y → w2.heap.size ≤ y) ∧ Own w' 3 1 vr (((roots.take k).map (numF ns old O)).map I) k fq ∧ (∀ y, fq = some y → w2.heap.size ≤ y ∧ fk ≠ some y) ∧
        Mod (fun _ => False) w1 w' ∧ w2.heap.size ≤ w'.heap.size ∧
        ρ = [(0, .pointer (some ⟨a, 0, none⟩)), (1, .slice va roots.length vc), (5, .pointer (some ⟨bm, 0, none⟩)), (6, vr), (7, I k)]) roots.length
      ⟨0, _, _, none, none, rfl, Nat.zero_le _, by simpa [meetsF] using hmt2, (fun y hy => by cases hy), Own.nil _ _ _, (fun y hy => by cases hy), hm2, Nat.le_refl _, rfl⟩ ?_
    rintro m ρ w3 ⟨k, vk, vr, fk, fq, rfl, hk, hmt3, hfk, hor, hfq, hm3, s3, rfl⟩
    unfold ir63L1
    (try simp only [go_sem, Nat.reduceAdd, Nat.reduceEqDiff, Nat.reduceLT, Nat.reduceLeDiff, Nat.reduceMul, reduceCtorEq, ↓reduceIte])
    refine ir_cond rfl (fun hc => ?_) (fun hc => ?_)
    · have hk' : k < roots.length := by simpa using hc
      have hwk : IntKind.i64.wrap ((k : Int) + 1) = ((k + 1 : Nat) : Int) := by rw [wrap_in] <;> omega
      obtain ⟨p, hp, hpn⟩ := okPl_at hok hk'
      obtain ⟨ad, rfl, hcell⟩ := ints_cell (hx1.mod hm3 (fun _ _ h => h)) hk' hp
      have b3 : (0 : Int) ≤ k ∧ (k : Int) < roots.length := by omega
      have hmk := meetsF_met hw (metF_nil ns old) hok k
      have hstep := meetsF_next (ns := ns) (fr := old) (cur := []) hk' hp
      (try simp only [go_sem, Nat.reduceAdd, Nat.reduceEqDiff, Nat.reduceLT, Nat.reduceLeDiff, Nat.reduceMul, reduceCtorEq, ↓reduceIte, Nat.mul_one, Int.toNat_natCast, Int.toNat_zero, Nat.sub_zero, Nat.sub_self, b3, hcell])
      refine e_call (by rfl) ?_
      refine (thing_ok w3 a _ _ _ _ _ ns _ (hm3.at hb1 (fun h => h)) (g31.mod hm3 (fun _ _ h => h)) hw hn p hpn).mono ?_
      rintro q _ ⟨rfl, rfl⟩
      (try simp only [go_sem, Nat.reduceAdd, Nat.reduceEqDiff, Nat.reduceLT, Nat.reduceLeDiff, Nat.reduceMul, reduceCtorEq, ↓reduceIte])
      refine e_call (by rfl) ?_
      refine (meet_ok w3 bm ns hw hn old ho _ vt vk fpt fk hmt3 hmk p hpn).mono ?_
      rintro q w4 ⟨rfl, vk4, fk4, hmt4, hm4, hfk4⟩
      rw [← hstep] at hmt4 ⊢
      have hnum : numF ns old (meetsF ns old [] (roots.take (k + 1))) p = numF ns old O p := by
        refine (numF_pre ((meetsF_take_pre ns old _ _ _).trans (hO1 ▸ hpreO)) ?_).symm
        rw [hstep]
        exact metF_in ns old _ p
      rw [hnum]
      have s4 := hm4.size
      have hor4 := hor.mod hm4 (fun y hy hh => by
        have h1 := hfq y hy
        rcases hh with hh | hh | hh
        · omega
        · have := lft2 y hh; omega
        · exact h1.2 hh)
      obtain ⟨ra, rc, rfl, _, _⟩ := hor.val
      (try simp only [go_sem, Nat.reduceAdd, Nat.reduceEqDiff, Nat.reduceLT, Nat.reduceLeDiff, Nat.reduceMul, reduceCtorEq, ↓reduceIte])
      refine e_bs (by rfl) (by (try simp only [go_sem, Nat.reduceAdd, Nat.reduceEqDiff, Nat.reduceLT, Nat.reduceLeDiff, Nat.reduceMul, reduceCtorEq, ↓reduceIte]); rfl) ?_
      intro w5 hb5 hm5 hs5
      have hor5 := hor4.mod hm5 (fun _ _ h => h)
      have hmt5 := mt_mod hmt4 hm5 (fun h => h) (fun _ _ h => h) (fun _ _ h => h)
      (try simp only [go_sem, Nat.reduceAdd, Nat.reduceEqDiff, Nat.reduceLT, Nat.reduceLeDiff, Nat.reduceMul, reduceCtorEq, ↓reduceIte])
      refine e_ap (m := 1) (news := [I (numF ns old O p)]) rfl hor5 rfl (fun h => by cases h) (rd_block hb5) (by simp [Value.oneCell']) rfl (by omega) (by omega) ?_
      intro v6 w6 fq6 ho6 hm6 hf6
      obtain ⟨v6a, v6c, rfl, _, _⟩ := ho6.val
      have s5 := hm5.size; have s6 := hm6.size
      have lfq : ∀ y, fq = some y → y < w3.heap.size := fun y hy => hor.lt hy
      have hmt6 := mt_mod hmt5 hm6 (fun hh => by have := hfq _ hh; omega) (fun y hy hh => by have := lft2 y hy; have := hfq y hh; omega) (fun y hy hh => by
        rcases hfk4 y hy with h | h
        · exact (hfq y hh).2 h
        · have := lfq y hh; omega)
      (try simp only [go_sem, Nat.reduceAdd, Nat.reduceEqDiff, Nat.reduceLT, Nat.reduceLeDiff, Nat.reduceMul, reduceCtorEq, ↓reduceIte, hwk])
      refine ⟨_, ?_, k + 1, vk4, .slice v6a (k + 1) v6c, fk4, fq6, rfl, hk', hmt6, fun y hy => ?_, ?_, fun y hy => ?_, ((hm3.step hm4 (fun y hy hlt => ?_)).step hm5 (fun _ h _ => h.elim)).step hm6 (fun y hy hlt => ?_), by omega, rfl⟩
      · omega
      · rcases hfk4 y hy with h | h
        · exact hfk y h
        · omega
      · rw [List.take_succ_eq_append_getElem hk', List.map_append, List.map_append, hp]
        exact ho6
      · rcases hf6 y hy with h | h
        · refine ⟨(hfq y h).1, fun hh => ?_⟩
          rcases hfk4 y hh with h2 | h2
          · exact (hfq y h).2 h2
          · have := lfq y h; omega
        · refine ⟨by omega, fun hh => ?_⟩
          have := hmt5.met.lt hh
          omega
      · rcases hy with hy | hy | hy
        · omega
        · have := lft y hy; omega
        · have := hfk y hy; omega
      · have := hfq y hy; omega
    · have hk' : k = roots.length := by simp at hc; omega
      subst hk'
      rw [List.take_length, hO1] at hmt3
      rw [List.take_length] at hor
      (try simp only [go_sem, Nat.reduceAdd, Nat.reduceEqDiff, Nat.reduceLT, Nat.reduceLeDiff, Nat.reduceMul, reduceCtorEq, ↓reduceIte])
      exact ⟨vk, vr, fk, fq, hmt3, hfk, hor, hfq, hm3, s3, rfl⟩
  rintro ρ w3 ⟨vk3, vr, fk3, fqr, hmt3, hfk3, hor, hfqr, hm3, s3, r0, r5, r6⟩
  obtain ⟨ra, rc, rfl, _, _⟩ := hor.val
  have lfqr : ∀ y, fqr = some y → y < w3.heap.size := fun y hy => hor.lt hy
  (try simp only [go_sem, Nat.reduceAdd, Nat.reduceEqDiff, Nat.reduceLT, Nat.reduceLeDiff, Nat.reduceMul, reduceCtorEq, ↓reduceIte, r0, r5, r6])
  refine ir_bthen (fun ρ w' => ∃ (vk vq : Value) (fk fq : Option Nat) (ps : List (Nd × Value)) (fps : Nat → Option Nat), MtAt w' bm ns.length old (oldMeets ns old old O1) vt vk fpt fk ∧ (∀ y, fk = some y → fk3 = some y ∨ w3.heap.size ≤ y) ∧
      Own w' 38 3 vq (flat ps) old fq ∧ (∀ y, fq = some y → w3.heap.size ≤ y) ∧ ArgsD w' ps fps (fun x => w3.heap.size ≤ x) ∧ ps.map Prod.fst = (List.range old).map (oldNd ns old O) ∧ (∀ j x, j < ps.length → fps j = some x → fk ≠ some x) ∧
      Mod (fun y => y = bm ∨ fpt = some y ∨ fk3 = some y) w3 w' ∧ ρ.get 0 = some (.pointer (some ⟨a, 0, none⟩)) ∧ ρ.get 5 = some (.pointer (some ⟨bm, 0, none⟩)) ∧ ρ.get 6 = some (.slice ra roots.length rc) ∧ ρ.get 10 = some vq) ?_ ?_
  · refine ir_loop (fun m ρ w' => ∃ (i : Nat) (vk vq : Value) (fk fq : Option Nat) (ps : List (Nd × Value)) (fps : Nat → Option Nat), m = old - i ∧ i ≤ old ∧ MtAt w' bm ns.length old (oldMeets ns old i O1) vt vk fpt fk ∧ (∀ y, fk = some y → fk3 = some y ∨ w3.heap.size ≤ y) ∧
        Own w' 38 3 vq (flat ps) i fq ∧ (∀ y, fq = some y → w3.heap.size ≤ y) ∧ ArgsD w' ps fps (fun x => w3.heap.size ≤ x) ∧ ps.map Prod.fst = (List.range i).map (oldNd ns old O) ∧ (∀ j x, j < ps.length → fps j = some x → fk ≠ some x) ∧
        Mod (fun y => y = bm ∨ fpt = some y ∨ fk3 = some y) w3 w' ∧
        ρ = [(0, .pointer (some ⟨a, 0, none⟩)), (5, .pointer (some ⟨bm, 0, none⟩)), (6, .slice ra roots.length rc), (10, vq), (11, I i)]) old
      ⟨0, _, _, fk3, none, [], fun _ => none, rfl, Nat.zero_le _, hmt3, (fun y hy => .inl hy), Own.nil _ _ _, (fun y hy => by cases hy), argsD_nil _ _, rfl, (fun j x hj => absurd hj (by simp)), Mod.refl _ _, rfl⟩ ?_
    rintro m ρ w4 ⟨i, vk, vq, fk, fq, ps, fps, rfl, hi, hmt4, hfk, hoq, hfq, had, hps, hdis, hm4, rfl⟩
    have hm14 : Mod (fun _ => False) w1 w4 := hm3.step hm4 (fun y hy hlt => by
      rcases hy with hy | hy | hy
      · omega
      · have := lft y hy; omega
      · have := hfk3 y hy; omega)
    have hb4 := hm14.at hb1 (fun h => h)
    have g34 := g31.mod hm14 (fun _ _ h => h)
    unfold ir63L3
    (try simp only [go_sem, Nat.reduceAdd, Nat.reduceEqDiff, Nat.reduceLT, Nat.reduceLeDiff, Nat.reduceMul, reduceCtorEq, ↓reduceIte, cell_of hb4])
    refine ir_cond rfl (fun hc => ?_) (fun hc => ?_)
    · have hi' : i < old := by simpa using hc
      have hin : i < ns.length := by omega
      obtain ⟨bc, cc', nv, ecv, d0, d1, d2, dx, db, _⟩ := from_at g34 hargs (i := i) hin
      cases ecv
      have dl := ln3 d0 d1 d2
      have b1 : (0 : Int) ≤ i ∧ (i : Int) < ns.length := by omega
      (try simp only [go_sem, Nat.reduceAdd, Nat.reduceEqDiff, Nat.reduceLT, Nat.reduceLeDiff, Nat.reduceMul, reduceCtorEq, ↓reduceIte, Nat.mul_one, Int.toNat_natCast, Int.toNat_zero, Nat.sub_zero, Nat.sub_self, cell_of hb4, b1, dl])
      obtain ⟨na, nc', rfl, hnl, _⟩ := id dx
      refine e_al ?_
      intro w5 hb5 hm5 hs5
      have hb5 : w5.heap[w4.heap.size]? = some (.cells #[I 0, I 0, .slice none 0 0] 38 (0, 0)) := hb5
      (try simp only [go_sem, Nat.reduceAdd, Nat.reduceEqDiff, Nat.reduceLT, Nat.reduceLeDiff, Nat.reduceMul, reduceCtorEq, ↓reduceIte])
      refine e_sta rfl rfl hb5 rfl rfl (by simp [Value.oneCell']) ?_
      intro w6 hb6 hm6 hs6
      have hm46 : Mod (fun _ => False) w4 w6 := hm5.step hm6 (fun x hx hlt => by omega)
      have dx6 := dx.mod hm46 (fun _ _ h => h)
      have s4 := hm4.size
      have s6 := hm46.size
      have l6 := lt_of_heap hb6
      (try simp only [go_sem, Nat.reduceAdd, Nat.reduceEqDiff, Nat.reduceLT, Nat.reduceLeDiff, Nat.reduceMul, reduceCtorEq, ↓reduceIte, cell_of hb6])
      refine e_call (by rfl) ?_
      refine (rcopied_ok _ _ w6 dx6).mono ?_
      rintro q w7 ⟨hm7, fx, ox7, nx7⟩
      obtain ⟨xa, xc, rfl, _, _⟩ := ox7.val
      have hb7 := hm7.at hb6 (fun h => h)
      (try simp only [go_sem, Nat.reduceAdd, Nat.reduceEqDiff, Nat.reduceLT, Nat.reduceLeDiff, Nat.reduceMul, reduceCtorEq, ↓reduceIte])
      refine e_st1 (off := 2) rfl rfl hb7 rfl (by simp) ?_
      intro w8 hb8 hm8 hs8
      have hb8 : w8.heap[w4.heap.size]? = some (.cells #[I (ndAt ns i).kind, I (ndAt ns i).num, .slice xa (ndAt ns i).args.length xc] 38 (0, 0)) := hb8
      have ox8 := ox7.mod hm8 (fun x hx hh => by have := nx7 x hx; omega)
      have hm48 : Mod (fun _ => False) w4 w8 := (hm46.trans hm7).step hm8 (fun x hx hlt => by omega)
      have s7 := hm7.size
      have s8 := hm48.size
      have lfx : ∀ y, fx = some y → w6.heap.size ≤ y ∧ y < w8.heap.size := fun y hy => ⟨nx7 y hy, ox8.lt hy⟩
      have lfk : ∀ y, fk = some y → y < w4.heap.size := fun y hy => hmt4.met.lt hy
      have lfk3 : ∀ y, fk3 = some y → y < w3.heap.size := fun y hy => hmt3.met.lt hy
      have hfkb : ∀ y, fk = some y → w2.heap.size ≤ y := fun y hy => by
        rcases hfk y hy with h | h
        · exact hfk3 y h
        · omega
      have hmt8 := mt_mod hmt4 hm48 (fun h => h) (fun _ _ h => h) (fun _ _ h => h)
      have hpl := (wf_at hw hin).2
      have hal := hargs _ (show ndAt ns i ∈ ns by simp [ndAt, hin])
      have hmO2 := metF_old hw ho hmO1 i (by omega)
      have hnextO : meetsF ns old (oldMeets ns old i O1) ((ndAt ns i).args.filter (isY old)) = oldMeets ns old (i + 1) O1 := (oldMeets_succ ns old i O1).symm
      have hpreI : meetsF ns old (oldMeets ns old i O1) ((ndAt ns i).args.filter (isY old)) <+: O := by
        rw [hnextO]; exact (oldMeets_pre' ns old O1 (by omega)).trans hpre2
      (try simp only [go_sem, Nat.reduceAdd, Nat.reduceEqDiff, Nat.reduceLT, Nat.reduceLeDiff, Nat.reduceMul, reduceCtorEq, ↓reduceIte])
      refine ir_bthen (fun ρ w' => ∃ (vk2 : Value) (fk2 : Option Nat), MtAt w' bm ns.length old (oldMeets ns old (i + 1) O1) vt vk2 fpt fk2 ∧ (∀ y, fk2 = some y → fk = some y ∨ w8.heap.size ≤ y) ∧
          w'.heap[w4.heap.size]? = some (.cells #[I (ndAt ns i).kind, I (ndAt ns i).num, .slice xa (ndAt ns i).args.length xc] 38 (0, 0)) ∧ Own w' 3 1 (.slice xa (ndAt ns i).args.length xc) ((oldArgs ns old O i).map I) (ndAt ns i).args.length fx ∧
          Mod (fun y => y = bm ∨ fpt = some y ∨ fk = some y ∨ fx = some y) w8 w' ∧
          ρ.get 0 = some (.pointer (some ⟨a, 0, none⟩)) ∧ ρ.get 5 = some (.pointer (some ⟨bm, 0, none⟩)) ∧ ρ.get 6 = some (.slice ra roots.length rc) ∧ ρ.get 10 = some vq ∧ ρ.get 11 = some (I i) ∧ ρ.get 12 = some (.pointer (some ⟨w4.heap.size, 0, none⟩))) ?_ ?_
      · refine ir_loop (fun m ρ w' => ∃ (k : Nat) (vk2 : Value) (fk2 : Option Nat), m = (ndAt ns i).args.length - k ∧ k ≤ (ndAt ns i).args.length ∧ MtAt w' bm ns.length old (meetsF ns old (oldMeets ns old i O1) (((ndAt ns i).args.take k).filter (isY old))) vt vk2 fpt fk2 ∧ (∀ y, fk2 = some y → fk = some y ∨ w8.heap.size ≤ y) ∧
            w'.heap[w4.heap.size]? = some (.cells #[I (ndAt ns i).kind, I (ndAt ns i).num, .slice xa (ndAt ns i).args.length xc] 38 (0, 0)) ∧ Own w' 3 1 (.slice xa (ndAt ns i).args.length xc) ((halfA ns old O (ndAt ns i).args k).map I) (ndAt ns i).args.length fx ∧
            Mod (fun y => y = bm ∨ fpt = some y ∨ fk = some y ∨ fx = some y) w8 w' ∧
            ρ.get 0 = some (.pointer (some ⟨a, 0, none⟩)) ∧ ρ.get 5 = some (.pointer (some ⟨bm, 0, none⟩)) ∧ ρ.get 6 = some (.slice ra roots.length rc) ∧ ρ.get 10 = some vq ∧ ρ.get 11 = some (I i) ∧ ρ.get 12 = some (.pointer (some ⟨w4.heap.size, 0, none⟩)) ∧ ρ.get 13 = some (I k)) (ndAt ns i).args.length
          ⟨0, _, fk, rfl, Nat.zero_le _, by simpa [meetsF] using hmt8, (fun y hy => .inl hy), hb8, by rw [halfA_zero]; exact ox8, Mod.refl _ _, rfl, rfl, rfl, rfl, rfl, rfl, rfl⟩ ?_
        rintro m ρ w9 ⟨k, vk2, fk2, rfl, hk, hmt9, hfk2, hb9, ox9, hm9, r0, r5, r6, r10, r11, r12, r13⟩
        unfold ir63L2
        (try simp only [go_sem, Nat.reduceAdd, Nat.reduceEqDiff, Nat.reduceLT, Nat.reduceLeDiff, Nat.reduceMul, reduceCtorEq, ↓reduceIte, r0, r5, r6, r10, r11, r12, r13, cell_of hb9])
        refine ir_cond rfl (fun hc2 => ?_) (fun hc2 => ?_)
        · have hk' : k < (ndAt ns i).args.length := by simpa using hc2
          have hwk : IntKind.i64.wrap ((k : Int) + 1) = ((k + 1 : Nat) : Int) := by rw [wrap_in] <;> omega
          obtain ⟨p, hp, hpn⟩ := okPl_at hpl hk'
          obtain ⟨bv, cvv, cs, ev, efp, hbv, hilt, hcs, hset⟩ := own_set ox9 hk'
          simp only [Value.slice.injEq] at ev
          obtain ⟨rfl, _, rfl⟩ := ev
          have hci : cs[k]? = some (I (p : Nat)) := by rw [← hp]; exact hcs k _ (halfA_at ns old O _ hk')
          have hcell : w9.cell? ⟨bv, k, none⟩ = some (I (p : Nat)) := by rw [cell_of hbv, List.getElem?_toArray]; exact hci
          have b3 : (0 : Int) ≤ k ∧ (k : Int) < (ndAt ns i).args.length := by omega
          have hm19 : Mod (fun _ => False) w1 w9 := (hm14.trans hm48).step hm9 (fun y hy hlt => by
            rcases hy with hy | hy | hy | hy
            · omega
            · have := lft y hy; omega
            · have := hfkb y hy; omega
            · have := lfx y hy; omega)
          have hb19 := hm19.at hb1 (fun h => h)
          (try simp only [go_sem, Nat.reduceAdd, Nat.reduceEqDiff, Nat.reduceLT, Nat.reduceLeDiff, Nat.reduceMul, reduceCtorEq, ↓reduceIte, Nat.mul_one, Int.toNat_natCast, Int.toNat_zero, Nat.sub_zero, Nat.sub_self, b3, hcell, cell_of hb9, cell_of hb19])
          have hwd : Mod (fun _ => False) w9 w9.drew := ⟨Nat.le_refl _, fun _ _ _ => rfl, rfl, rfl, rfl⟩
          refine ir_cond rfl (fun hc3 => ?_) (fun hc3 => ?_)
          · have hy : isY old (p : Int) = true := by simpa [isY] using hc3
            have hmk := metF_meets hw (((ndAt ns i).args.take k).filter (isY old)) hmO2 (okPl_filter (by
              rw [okPl, List.all_eq_true] at hpl ⊢
              exact fun x hx => hpl x (List.mem_of_mem_take hx)) _)
            have hnext : meetsF ns old (oldMeets ns old i O1) (((ndAt ns i).args.take (k + 1)).filter (isY old)) = meetF ns old (meetsF ns old (oldMeets ns old i O1) (((ndAt ns i).args.take k).filter (isY old))) p := by
              rw [filter_take hk', hp, hy, if_pos rfl, meetsF_app]
              rfl
            have hcelld : w9.drew.cell? ⟨bv, k, none⟩ = some (I (p : Nat)) := hcell
            (try simp only [go_sem, Nat.reduceAdd, Nat.reduceEqDiff, Nat.reduceLT, Nat.reduceLeDiff, Nat.reduceMul, reduceCtorEq, ↓reduceIte, Nat.mul_one, Int.toNat_natCast, Int.toNat_zero, Nat.sub_zero, Nat.sub_self, b3, hcell, hcelld, cell_of hb9])
            refine e_call (by rfl) ?_
            refine (thing_ok w9.drew a _ _ _ _ _ ns _ (hwd.at hb19 (fun h => h)) ((g31.mod hm19 (fun _ _ h => h)).mod hwd (fun _ _ h => h)) hw hn p hpn).mono ?_
            rintro q w10 ⟨rfl, hw10⟩
            subst hw10
            (try simp only [go_sem, Nat.reduceAdd, Nat.reduceEqDiff, Nat.reduceLT, Nat.reduceLeDiff, Nat.reduceMul, reduceCtorEq, ↓reduceIte])
            refine e_call (by rfl) ?_
            refine (meet_ok w9.drew bm ns hw hn old ho _ vt vk2 fpt fk2 (mt_mod hmt9 hwd (fun h => h) (fun _ _ h => h) (fun _ _ h => h)) hmk p hpn).mono ?_
            rintro q w10 ⟨rfl, vk10, fk10, hmt10, hm10, hfk10⟩
            have hm10 : Mod (fun x => x = bm ∨ fpt = some x ∨ fk2 = some x) w9 w10 := hm10.of_drew
            have hfk10 : ∀ x, fk10 = some x → fk2 = some x ∨ w9.heap.size ≤ x := hfk10
            rw [← hnext] at hmt10 ⊢
            have hnum : numF ns old (meetsF ns old (oldMeets ns old i O1) (((ndAt ns i).args.take (k + 1)).filter (isY old))) p = numF ns old O p := by
              refine (numF_pre ((half_pre ns old _ _ _).trans hpreI) ?_).symm
              rw [hnext]
              exact metF_in ns old _ p
            rw [hnum]
            have s9 := hm9.size
            have s10 := hm10.size
            have lfk2 : ∀ y, fk2 = some y → (fk = some y ∨ w8.heap.size ≤ y) ∧ y ≠ w4.heap.size ∧ y ≠ bv := fun y hy => by
              have h1 := hfk2 y hy
              have h2 := lfx bv efp
              refine ⟨h1, ?_, ?_⟩
              · rcases h1 with h | h
                · have := lfk y h; omega
                · omega
              · rcases h1 with h | h
                · have := lfk y h; omega
                · omega
            have hlbv := lfx bv efp
            have hbv10 := hm10.at hbv (fun hh => by
              rcases hh with hh | hh | hh
              · omega
              · have := lft2 _ hh; omega
              · exact (lfk2 _ hh).2.2 rfl)
            have hb910 := hm10.at hb9 (fun hh => by
              rcases hh with hh | hh | hh
              · omega
              · have := lft2 _ hh; omega
              · exact (lfk2 _ hh).2.1 rfl)
            (try simp only [go_sem, Nat.reduceAdd, Nat.reduceEqDiff, Nat.reduceLT, Nat.reduceLeDiff, Nat.reduceMul, reduceCtorEq, ↓reduceIte, Nat.mul_one, Int.toNat_natCast, Int.toNat_zero, Nat.sub_zero, Nat.sub_self, cell_of hb910, b3])
            refine e_st1 (off := k) rfl rfl hbv10 rfl hilt ?_
            intro w11 hb11 hm11 hs11
            have ho11 := hset w11 _ hb11
            have e := halfA_set ns old O (ndAt ns i).args hk'
            rw [hp, hy, if_pos rfl] at e
            rw [e] at ho11
            (try simp only [go_sem, Nat.reduceAdd, Nat.reduceEqDiff, Nat.reduceLT, Nat.reduceLeDiff, Nat.reduceMul, reduceCtorEq, ↓reduceIte, hwk])
            have hfk10' : ∀ y, fk10 = some y → fk = some y ∨ w8.heap.size ≤ y := fun y hy => by
              rcases hfk10 y hy with h | h
              · exact hfk2 y h
              · exact .inr (by omega)
            refine ⟨_, ?_, k + 1, vk10, fk10, rfl, hk', mt_mod hmt10 hm11 (by omega) (fun y hy hh => by have := lft2 y hy; omega) (fun y hy hh => ?_), hfk10', hm11.at hb910 (by omega), ho11, (hm9.step hm10 (fun y hy hlt => ?_)).step hm11 (fun y hy _ => ?_), rfl⟩
            · omega
            · rcases hfk10 y hy with h | h
              · exact (lfk2 y h).2.2 hh
              · omega
            · rcases hy with hy | hy | hy
              · exact .inl hy
              · exact .inr (.inl hy)
              · rcases (lfk2 y hy).1 with h | h
                · exact .inr (.inr (.inl h))
                · omega
            · exact .inr (.inr (.inr (by rw [efp, hy])))
          · have hy : isY old (p : Int) = false := by simpa [isY] using hc3
            (try simp only [go_sem, Nat.reduceAdd, Nat.reduceEqDiff, Nat.reduceLT, Nat.reduceLeDiff, Nat.reduceMul, reduceCtorEq, ↓reduceIte, hwk])
            refine ⟨_, ?_, k + 1, vk2, fk2, rfl, hk', ?_, hfk2, hb9, ?_, hm9.trans (hwd.weak (fun _ h => h.elim)), rfl⟩
            · omega
            · rw [filter_take hk', hp, hy]
              have := mt_mod hmt9 hwd (fun h => h) (fun _ _ h => h) (fun _ _ h => h)
              simpa using this
            · rw [halfA_same _ _ _ _ hk' (by rw [hp]; exact hy)]
              exact ox9.mod hwd (fun _ _ h => h)
        · have hk' : k = (ndAt ns i).args.length := by simp at hc2; omega
          subst hk'
          rw [List.take_length, hnextO] at hmt9
          rw [halfA_full] at ox9
          (try simp only [go_sem, Nat.reduceAdd, Nat.reduceEqDiff, Nat.reduceLT, Nat.reduceLeDiff, Nat.reduceMul, reduceCtorEq, ↓reduceIte])
          exact ⟨vk2, fk2, hmt9, hfk2, hb9, ox9, hm9⟩
      rintro ρ w9 ⟨vk2, fk2, hmt9, hfk2, hb9, ox9, hm9, r0, r5, r6, r10, r11, r12⟩
      have s9 := hm9.size
      have hm19 : Mod (fun _ => False) w1 w9 := (hm14.trans hm48).step hm9 (fun y hy hlt => by
        rcases hy with hy | hy | hy | hy
        · omega
        · have := lft y hy; omega
        · have := hfkb y hy; omega
        · have := lfx y hy; omega)
      have hol : (oldArgs ns old O i).length = (ndAt ns i).args.length := by simp [oldArgs]
      have lfk2 : ∀ y, fk2 = some y → fx ≠ some y ∧ y ≠ w4.heap.size := fun y hy => by
        rcases hfk2 y hy with h | h
        · have := lfk y h
          exact ⟨fun hh => by have := lfx y hh; omega, by omega⟩
        · exact ⟨fun hh => by have := lfx y hh; omega, by omega⟩
      have lold : ∀ x, fx = some x → x ≠ bm ∧ fpt ≠ some x := fun x hx => ⟨by have := lfx x hx; omega, fun hh => by have := lfx x hx; have := lft2 x hh; omega⟩
      (try simp only [go_sem, Nat.reduceAdd, Nat.reduceEqDiff, Nat.reduceLT, Nat.reduceLeDiff, Nat.reduceMul, reduceCtorEq, ↓reduceIte, r0, r5, r6, r10, r11, r12, cell_of hb9])
      refine ir_then (fun ρ w' => w'.heap[w4.heap.size]? = some (.cells #[I (ndAt ns i).kind, I (ndAt ns i).num, .slice xa (ndAt ns i).args.length xc] 38 (0, 0)) ∧ Own w' 3 1 (.slice xa (ndAt ns i).args.length xc) ((oldNd ns old O i).args.map I) (ndAt ns i).args.length fx ∧
          MtAt w' bm ns.length old (oldMeets ns old (i + 1) O1) vt vk2 fpt fk2 ∧ Mod (fun y => fx = some y) w9 w' ∧
          ρ.get 0 = some (.pointer (some ⟨a, 0, none⟩)) ∧ ρ.get 5 = some (.pointer (some ⟨bm, 0, none⟩)) ∧ ρ.get 6 = some (.slice ra roots.length rc) ∧ ρ.get 10 = some vq ∧ ρ.get 11 = some (I i) ∧ ρ.get 12 = some (.pointer (some ⟨w4.heap.size, 0, none⟩))) ?_ ?_
      · refine ir_cond rfl (fun hc2 => ?_) (fun hc2 => ?_)
        · have hk5 : (ndAt ns i).kind = 5 := by simpa using hc2
          have hind : ind ns i = true := by simpa [ind] using hk5
          (try simp only [go_sem, Nat.reduceAdd, Nat.reduceEqDiff, Nat.reduceLT, Nat.reduceLeDiff, Nat.reduceMul, reduceCtorEq, ↓reduceIte])
          refine e_call (by rfl) ?_
          refine (thing_ok w9 a _ _ _ _ _ ns _ (hm19.at hb1 (fun h => h)) (g31.mod hm19 (fun _ _ h => h)) hw hn i hin).mono ?_
          rintro q w10 ⟨rfl, hw10⟩
          subst hw10
          (try simp only [go_sem, Nat.reduceAdd, Nat.reduceEqDiff, Nat.reduceLT, Nat.reduceLeDiff, Nat.reduceMul, reduceCtorEq, ↓reduceIte])
          refine ir_cond rfl (fun hc3 => ?_) (fun hc3 => ?_)
          · have hov : over ns i = i := by
              have : ((over ns i : Nat) : Int) = i := by simpa using hc3
              omega
            obtain ⟨q, e1, e2, e3⟩ := wf_ind hw hin hind
            have hn1 : (ndAt ns i).args.length = 1 := by rw [e2]; rfl
            rw [hn1] at ox9 hb9
            obtain ⟨bv, cvv, cs, ev, efp, hbv, hilt, hcs, hset⟩ := own_set ox9 (i := 0) (by omega)
            simp only [Value.slice.injEq] at ev
            obtain ⟨rfl, _, rfl⟩ := ev
            have b3 : (0 : Int) ≤ 0 ∧ (0 : Int) < ((1 : Nat) : Int) := by omega
            (try simp only [go_sem, Nat.reduceAdd, Nat.reduceEqDiff, Nat.reduceLT, Nat.reduceLeDiff, Nat.reduceMul, reduceCtorEq, ↓reduceIte, Nat.mul_one, Int.toNat_natCast, Int.toNat_zero, Nat.sub_zero, Nat.sub_self, cell_of hb9, b3])
            refine e_st1 (off := 0) rfl rfl hbv rfl hilt ?_
            intro w11 hb11 hm11 hs11
            have ho11 := hset w11 _ hb11
            have hl1 : (oldArgs ns old O i).length = 1 := by omega
            have e4 : (oldArgs ns old O i).set 0 (i : Int) = [(i : Int)] := by
              match h : oldArgs ns old O i with
              | [x] => rfl
              | [] => rw [h] at hl1; simp at hl1
              | x :: y :: l => rw [h] at hl1; simp at hl1
            rw [e4] at ho11
            have e5 : (oldNd ns old O i).args = [(i : Int)] := by simp only [oldNd, if_pos (And.intro hind hov)]
            have lb := lfx bv efp
            (try simp only [go_sem, Nat.reduceAdd, Nat.reduceEqDiff, Nat.reduceLT, Nat.reduceLeDiff, Nat.reduceMul, reduceCtorEq, ↓reduceIte])
            refine ⟨?_, ?_, mt_mod hmt9 hm11 (by omega) (fun y hy hh => by have := lft2 y hy; omega) (fun y hy hh => (lfk2 y hy).1 (by rw [efp, hh])), hm11.weak (fun y hy => by rw [efp, hy])⟩
            · rw [hn1]; exact hm11.at hb9 (by omega)
            · rw [e5, hn1]; exact ho11
          · have hov : ¬ over ns i = i := by
              have : ¬ ((over ns i : Nat) : Int) = i := by simpa using hc3
              omega
            have e5 : (oldNd ns old O i).args = oldArgs ns old O i := by simp only [oldNd, if_neg (fun h : ind ns i = true ∧ over ns i = i => hov h.2)]
            (try simp only [go_sem, Nat.reduceAdd, Nat.reduceEqDiff, Nat.reduceLT, Nat.reduceLeDiff, Nat.reduceMul, reduceCtorEq, ↓reduceIte])
            exact ⟨hb9, by rw [e5]; exact ox9, hmt9, Mod.refl _ _⟩
        · have hk5 : ¬ (ndAt ns i).kind = 5 := by simpa using hc2
          have hind : ¬ ind ns i = true := by simpa [ind] using hk5
          have e5 : (oldNd ns old O i).args = oldArgs ns old O i := by simp only [oldNd, if_neg (fun h : ind ns i = true ∧ over ns i = i => hind h.1)]
          (try simp only [go_sem, Nat.reduceAdd, Nat.reduceEqDiff, Nat.reduceLT, Nat.reduceLeDiff, Nat.reduceMul, reduceCtorEq, ↓reduceIte])
          exact ⟨hb9, by rw [e5]; exact ox9, hmt9, Mod.refl _ _⟩
      rintro ρ w10 ⟨hb10, ox10, hmt10, hm10, r0, r5, r6, r10, r11, r12⟩
      have s10 := hm10.size
      have hon : (oldNd ns old O i).args.length = (ndAt ns i).args.length := by have := ox10.1; simp at this; omega
      obtain ⟨qa, qc, rfl, _, _⟩ := hoq.val
      have hwk : IntKind.i64.wrap ((i : Int) + 1) = ((i + 1 : Nat) : Int) := by rw [wrap_in] <;> omega
      have hpsl : ps.length = i := by
        have := congrArg List.length hps
        rw [List.length_map, List.length_map, List.length_range] at this
        exact this
      have hm4_10 : Mod (fun y => y = bm ∨ fpt = some y ∨ fk = some y ∨ fx = some y) w4 w10 := ((hm48.weak (fun _ h => h.elim)).trans hm9).trans (hm10.weak (fun y hy => .inr (.inr (.inr hy))))
      have keepq : ∀ y, fq = some y → ¬ (y = bm ∨ fpt = some y ∨ fk = some y ∨ fx = some y) := fun y hy hh => by
        have h1 := hfq y hy
        have h2 := hoq.lt hy
        rcases hh with hh | hh | hh | hh
        · omega
        · have := lft2 y hh; omega
        · exact own_apart hoq hmt4.met (by decide) hy hh
        · have := lfx y hh; omega
      have hfps' : ∀ j y, j < ps.length → fps j = some y → y < w4.heap.size := fun j y hj hy => (had.1 j hj).1.lt hy
      have keepp : ∀ j y, j < ps.length → fps j = some y → ¬ (y = bm ∨ fpt = some y ∨ fk = some y ∨ fx = some y) := fun j y hj hy hh => by
        have h1 := (had.1 j hj).2 y hy
        have h2 := hfps' j y hj hy
        rcases hh with hh | hh | hh | hh
        · omega
        · have := lft2 y hh; omega
        · exact hdis j y hj hy hh
        · have := lfx y hh; omega
      have hoq10 := hoq.mod hm4_10 keepq
      have had10 := argsD_mod had hm4_10 keepp
      (try simp only [go_sem, Nat.reduceAdd, Nat.reduceEqDiff, Nat.reduceLT, Nat.reduceLeDiff, Nat.reduceMul, reduceCtorEq, ↓reduceIte, r0, r5, r6, r10, r11, r12, ln_of hb10 (off := 0) (n := 3) (by simp)])
      refine e_bs (by rfl) (by (try simp only [go_sem, Nat.reduceAdd, Nat.reduceEqDiff, Nat.reduceLT, Nat.reduceLeDiff, Nat.reduceMul, reduceCtorEq, ↓reduceIte]); rfl) ?_
      intro w11 hb11 hm11 hs11
      have hoq11 := hoq10.mod hm11 (fun _ _ h => h)
      have had11 := argsD_mod had10 hm11 (fun _ _ _ _ h => h)
      have ox11 := ox10.mod hm11 (fun _ _ h => h)
      have hmt11 := mt_mod hmt10 hm11 (fun h => h) (fun _ _ h => h) (fun _ _ h => h)
      (try simp only [go_sem, Nat.reduceAdd, Nat.reduceEqDiff, Nat.reduceLT, Nat.reduceLeDiff, Nat.reduceMul, reduceCtorEq, ↓reduceIte])
      refine e_ap (m := 1) (news := nc (oldNd ns old O i, .slice xa (ndAt ns i).args.length xc)) rfl hoq11 rfl (fun h => by cases h) (rd_block hb11) (by simp [nc, Value.oneCell']) rfl (by omega) (by omega) ?_
      intro v12 w12 fq12 ho12 hm12 hf12
      obtain ⟨v12a, v12c, rfl, _, _⟩ := ho12.val
      have s11 := hm11.size
      have s12 := hm12.size
      (try simp only [go_sem, Nat.reduceAdd, Nat.reduceEqDiff, Nat.reduceLT, Nat.reduceLeDiff, Nat.reduceMul, reduceCtorEq, ↓reduceIte, hwk])
      have had12 := argsD_mod had11 hm12 (fun j y hj hy hh => own_apart (had11.1 j hj).1 hoq11 (by decide) hy hh)
      have ox12 := ox11.mod hm12 (fun y hy hh => own_apart ox11 hoq11 (by decide) hy hh)
      have hmt12 := mt_mod hmt11 hm12 (fun hh => by have := hfq _ hh; omega) (fun y hy hh => by have := lft2 y hy; have := hfq y hh; omega) (fun y hy hh => own_apart hmt11.met hoq11 (by decide) hy hh)
      refine ⟨_, ?_, i + 1, vk2, .slice v12a (i + 1) v12c, fk2, fq12, ps ++ [(oldNd ns old O i, .slice xa (ndAt ns i).args.length xc)], _, rfl, hi', hmt12, fun y hy => ?_, ?_, fun y hy => ?_, argsD_app had12 (by rw [hon]; exact ox12) (fun y hy => by have := lfx y hy; omega) (fun j y hj hy hh => ?_), ?_, fun j y hj hy hh => ?_, ((hm4.step hm4_10 (fun y hy hlt => ?_)).step hm11 (fun _ h _ => h.elim)).step hm12 (fun y hy hlt => by have := hfq y hy; omega), rfl⟩
      · omega
      · rcases hfk2 y hy with h | h
        · exact hfk y h
        · exact .inr (by omega)
      · rw [flat_app, flat_one]; exact ho12
      · rcases hf12 y hy with h | h
        · exact hfq y h
        · omega
      · have := hfps' j y hj hy
        have := lfx y hh
        omega
      · rw [List.map_append, hps, List.range_succ, List.map_append]
        rfl
      · simp only [List.length_append, List.length_cons, List.length_nil] at hj
        by_cases hjp : j < ps.length
        · rw [if_pos hjp] at hy
          rcases hfk2 y hh with h | h
          · exact hdis j y hjp hy h
          · have := hfps' j y hjp hy; omega
        · rw [if_neg hjp] at hy
          exact (lfk2 y hh).1 hy
      · rcases hy with hy | hy | hy | hy
        · exact .inl hy
        · exact .inr (.inl hy)
        · exact .inr (.inr ((hfk y hy).elim (fun h => h) (fun h => by omega)))
        · have := lfx y hy; omega
    · have hi' : i = old := by simp at hc; omega
      subst hi'
      (try simp only [go_sem, Nat.reduceAdd, Nat.reduceEqDiff, Nat.reduceLT, Nat.reduceLeDiff, Nat.reduceMul, reduceCtorEq, ↓reduceIte])
      exact ⟨vk, vq, fk, fq, ps, fps, hmt4, hfk, hoq, hfq, had, hps, hdis, hm4, rfl⟩
  rintro ρ w4 ⟨vk4, vq, fk4, fq, ps, fps, hmt4, hfk4, hoq, hfq, had, hps, hdis, hm4, r0, r5, r6, r10⟩
  have s4 := hm4.size
  have hm14 : Mod (fun _ => False) w1 w4 := hm3.step hm4 (fun y hy hlt => by
    rcases hy with hy | hy | hy
    · omega
    · have := lft y hy; omega
    · have := hfk3 y hy; omega)
  have lfk3 : ∀ y, fk3 = some y → y < w3.heap.size := fun y hy => hmt3.met.lt hy
  have lfk4 : ∀ y, fk4 = some y → w2.heap.size ≤ y ∧ y < w4.heap.size := fun y hy => ⟨by
    rcases hfk4 y hy with h | h
    · exact hfk3 y h
    · omega, hmt4.met.lt hy⟩
  obtain ⟨oa, oc, rfl, _, _⟩ := hoq.val
  have lfq : ∀ y, fq = some y → y < w4.heap.size := fun y hy => hoq.lt hy
  have lfps : ∀ j y, j < ps.length → fps j = some y → w3.heap.size ≤ y ∧ y < w4.heap.size := fun j y hj hy => ⟨(had.1 j hj).2 y hy, (had.1 j hj).1.lt hy⟩
  have hmO2 := metF_old hw ho hmO1 old (Nat.le_refl _)
  (try simp only [go_sem, Nat.reduceAdd, Nat.reduceEqDiff, Nat.reduceLT, Nat.reduceLeDiff, Nat.reduceMul, reduceCtorEq, ↓reduceIte, r0, r5, r6, r10])
  refine e_call (by rfl) ?_
  refine (gather_ok w4 a bm ns hw hn old ho _ vt vk4 fpt fk4 hmt4 hmO2 _ _ _ _ _ _ (hm14.at hb1 (fun h => h)) (g31.mod hm14 (fun _ _ h => h)) (fun x hx hh => ?_)).mono ?_
  · have := hFl x hx.1
    rcases hh with hh | hh | hh
    · omega
    · have := lft x hh; omega
    · have := lfk4 x hh; omega
  rintro q w5 ⟨vm5, fpm5, fq5, qs, fqs, hmt5, hm5, ho5, hfq5, had5, hps5⟩
  rw [hreach] at hmt5 ho5 hps5
  obtain ⟨va5, vc5, rfl, _, hva5⟩ := ho5.val
  have s5 := hm5.size
  have hm15 : Mod (fun _ => False) w1 w5 := hm14.step hm5 (fun y hy hlt => by
    rcases hy with hy | hy | hy
    · omega
    · have := lft y hy; omega
    · have := lfk4 y hy; omega)
  have hb5 := hm15.at hb1 (fun h => h)
  have hoq5 := hoq.mod hm5 (fun y hy hh => by
    have h1 := hfq y hy
    rcases hh with hh | hh | hh
    · omega
    · have := lft2 y hh; omega
    · exact own_apart hoq hmt4.met (by decide) hy hh)
  have had45 := argsD_mod had hm5 (fun j y hj hy hh => by
    have h1 := lfps j y hj hy
    rcases hh with hh | hh | hh
    · omega
    · have := lft2 y hh; omega
    · exact hdis j y hj hy hh)
  have hor5 := (hor.mod hm4 (fun y hy hh => by
    have h1 := hfqr y hy
    rcases hh with hh | hh | hh
    · omega
    · have := lft2 y hh; omega
    · exact h1.2 hh)).mod hm5 (fun y hy hh => by
    have h1 := hfqr y hy
    have h2 := lfqr y hy
    rcases hh with hh | hh | hh
    · omega
    · have := lft2 y hh; omega
    · rcases hfk4 y hh with h | h
      · exact h1.2 h
      · omega)
  have hsmall := small_met hw ho hok
  rw [hO] at hsmall
  have hlen := metF_len' hsmall.1 ho
  (try simp only [go_sem, Nat.reduceAdd, Nat.reduceEqDiff, Nat.reduceLT, Nat.reduceLeDiff, Nat.reduceMul, reduceCtorEq, ↓reduceIte])
  refine e_ap (m := O.length) (news := flat qs) rfl hoq5 rfl (fun h => (hva5 h).1) ho5.rd (flat_cells had5) rfl (by omega) (by omega) ?_
  intro v6 w6 fq6 ho6 hm6 hf6
  obtain ⟨va6, vc6, rfl, _, _⟩ := ho6.val
  have hb6 := hm6.at hb5 (own_ne hoq5 hb5 (by decide))
  have s6 := hm6.size
  (try simp only [go_sem, Nat.reduceAdd, Nat.reduceEqDiff, Nat.reduceLT, Nat.reduceLeDiff, Nat.reduceMul, reduceCtorEq, ↓reduceIte])
  refine e_st1 (off := 2) rfl rfl hb6 rfl (by simp) ?_
  intro w7 hb7 hm7 hs7
  have hb7 : w7.heap[a]? = some (.cells #[I size, I young, .slice va6 (old + O.length) vc6, I old, I (IntKind.i64.wrap (times + 1))] 74 (0, 0)) := hb7
  (try simp only [go_sem, Nat.reduceAdd, Nat.reduceEqDiff, Nat.reduceLT, Nat.reduceLeDiff, Nat.reduceMul, reduceCtorEq, ↓reduceIte, cell_of hb7])
  refine e_st1 (off := 3) rfl rfl hb7 rfl (by simp) ?_
  intro w8 hb8 hm8 hs8
  have hb8 : w8.heap[a]? = some (.cells #[I size, I young, .slice va6 (old + O.length) vc6, I (old + O.length : Nat), I (IntKind.i64.wrap (times + 1))] 74 (0, 0)) := hb8
  have hm68 : Mod (fun x => x = a) w6 w8 := hm7.trans hm8
  have s8 := hm68.size
  have hlen2 : (smallNs ns old roots).length = old + O.length := by rw [small_length, hO]
  have hns : smallNs ns old roots = (ps ++ qs).map Prod.fst := by
    unfold smallNs
    rw [hO, List.map_append, hps, hps5]
  have hrs : smallRoots ns old roots = roots.map (numF ns old O) := by unfold smallRoots; rw [hO]
  have lfqs : ∀ j y, j < qs.length → fqs j = some y → w4.heap.size ≤ y ∧ y < w5.heap.size := fun j y hj hy => ⟨(had5.1 j hj).2 y hy, (had5.1 j hj).1.lt hy⟩
  have l6 : ∀ x, fq6 = some x → w3.heap.size ≤ x := fun x hx => by
    rcases hf6 x hx with h | h
    · exact hfq x h
    · omega
  (try simp only [go_sem, Nat.reduceAdd, Nat.reduceEqDiff, Nat.reduceLT, Nat.reduceLeDiff, Nat.reduceMul, reduceCtorEq, ↓reduceIte])
  refine ⟨fqr, fun x => x = a ∨ fq6 = some x ∨ (∃ j, j < ps.length ∧ fps j = some x) ∨ ∃ j, j < qs.length ∧ fqs j = some x, ?_, ?_, ⟨(((hm1.weak (S' := F) (fun x hx => hx ▸ g2)).step hm15 (fun _ h _ => h.elim)).step hm6 (fun x hx hlt => by have := hfq x hx; omega)).step hm68 (fun x hx _ => hx ▸ g2), fun x hx => ?_⟩, fun x hx => ?_⟩
  · rw [hrs]
    exact (hor5.mod hm6 (fun x hx hh => own_apart hor5 hoq5 (by decide) hx hh)).mod hm68 (fun x hx hh => by have := hfqr x hx; omega)
  · rw [hlen2]
    refine ⟨_, hb8, .inl rfl, fq6, ps ++ qs, ?_, fun x hx => .inr (.inl hx), fun p hp => ?_, hns.symm, fun x hx => ?_⟩
    · rw [hlen2, flat_app]
      exact ho6.mod hm68 (fun x hx hh => by have := l6 x hx; omega)
    · rcases List.mem_append.1 hp with hp | hp
      · obtain ⟨j, hj, rfl⟩ := List.getElem_of_mem hp
        have h1 := (had45.1 j hj).1.mod hm6 (fun x hx hh => own_apart (had45.1 j hj).1 hoq5 (by decide) hx hh)
        exact ⟨fps j, h1.mod hm68 (fun x hx hh => by have := lfps j x hj hx; omega), fun x hx => .inr (.inr (.inl ⟨j, hj, hx⟩))⟩
      · obtain ⟨j, hj, rfl⟩ := List.getElem_of_mem hp
        have h1 := (had5.1 j hj).1.mod hm6 (fun x hx hh => own_apart (had5.1 j hj).1 hoq5 (by decide) hx hh)
        exact ⟨fqs j, h1.mod hm68 (fun x hx hh => by have := lfqs j x hj hx; omega), fun x hx => .inr (.inr (.inr ⟨j, hj, hx⟩))⟩
    · rcases hx with hx | hx | ⟨j, hj, hx⟩ | ⟨j, hj, hx⟩
      · omega
      · have := ho6.lt hx; omega
      · have := lfps j x hj hx; omega
      · have := lfqs j x hj hx; omega
  · rcases hx with hx | hx | ⟨j, hj, hx⟩ | ⟨j, hj, hx⟩
    · exact .inl (hx ▸ g2)
    · have := l6 x hx; exact .inr (by omega)
    · have := lfps j x hj hx; exact .inr (by omega)
    · have := lfqs j x hj hx; exact .inr (by omega)
  · have h1 := hfqr x hx
    have h2 := lfqr x hx
    refine ⟨by omega, fun hh => ?_⟩
    rcases hh with hh | hh | ⟨j, hj, hh⟩ | ⟨j, hj, hh⟩
    · omega
    · have := l6 x hh; omega
    · have := lfps j x hj hh; omega
    · have := lfqs j x hj hh; omega
end Go.Proofs.Ytnimaifmcejkcaa
end

section
set_option linter.unusedSimpArgs false
set_option linter.unusedVariables false
set_option maxRecDepth 100000
namespace Go.Proofs.Ytnimaifmcejkcaa
open Go Go.W

theorem rroom_ok (w : World) (a : Nat) (size young : Int) (old : Nat) (times : Int) (ns : List Nd) (F : Nat → Prop) (h : RAt w a size young old times ns F) (ho : old ≤ ns.length) (hw : WF ns) (hn : ns.length ≤ 1048576) (hs : 0 ≤ size ∧ size ≤ 1048576) (hy : 0 ≤ young ∧ young ≤ 1048576) (n : Int) (v : Value) (roots : List Int) (hx : Ints w v roots)
    (hv : roots ≠ [] → ∀ x, vblk v = some x → ¬ F x) (hsm : roots.length ≤ 17592186044416) :
    CallsR Try.prog 36 [.pointer (some ⟨a, 0, none⟩), I n, v] w (GRoomPost RAt w a size young F (groomS size young old times ns n roots)) := by
  obtain ⟨va, vc, rfl, _, _⟩ := id hx
  have same : ∀ w', Mod (fun _ => False) w w' → RAt w' a size young old times ns F ∧ Grow F F w w' := fun w' hm =>
    ⟨rat_mod h hm (fun _ _ h => h), hm.weak (fun _ h => h.elim), fun b hb => .inl hb⟩
  refine fit36.calls rfl ?_
  unfold ir36
  (try simp only [go_sem, Nat.reduceAdd, Nat.reduceEqDiff, Nat.reduceLT, Nat.reduceLeDiff, Nat.reduceMul, reduceCtorEq, ↓reduceIte])
  refine e_call (by rfl) ?_
  refine (rplaces_ok w a ns.length old _ roots (rat_has h) hx).mono ?_
  rintro r w1 ⟨rfl, hm1⟩
  (try simp only [go_sem, Nat.reduceAdd, Nat.reduceEqDiff, Nat.reduceLT, Nat.reduceLeDiff, Nat.reduceMul, reduceCtorEq, ↓reduceIte])
  refine ir_cond rfl (fun hc => ?_) (fun hc => ?_)
  · have hc' : n < 0 := by simpa using hc
    have e : groomS size young old times ns n roots = ⟨none, 1, ns, old, times⟩ := by unfold groomS; rw [if_pos hc']
    rw [e]
    (try simp only [go_sem, Nat.reduceAdd, Nat.reduceEqDiff, Nat.reduceLT, Nat.reduceLeDiff, Nat.reduceMul, reduceCtorEq, ↓reduceIte])
    exact ⟨_, F, rfl, (same w1 hm1).1, (same w1 hm1).2, fun _ => rfl, fun l hl => by cases hl⟩
  have hc1 : ¬ n < 0 := by simpa using hc
  (try simp only [go_sem, Nat.reduceAdd, Nat.reduceEqDiff, Nat.reduceLT, Nat.reduceLeDiff, Nat.reduceMul, reduceCtorEq, ↓reduceIte])
  refine ir_cond rfl (fun hc => ?_) (fun hc => ?_)
  · have hc' : okPl ns.length roots = false := by simpa using hc
    have e : groomS size young old times ns n roots = ⟨none, 212, ns, old, times⟩ := by unfold groomS; rw [if_neg hc1, if_pos hc']
    rw [e]
    (try simp only [go_sem, Nat.reduceAdd, Nat.reduceEqDiff, Nat.reduceLT, Nat.reduceLeDiff, Nat.reduceMul, reduceCtorEq, ↓reduceIte])
    exact ⟨_, F, rfl, (same w1 hm1).1, (same w1 hm1).2, fun _ => rfl, fun l hl => by cases hl⟩
  have hc2 : okPl ns.length roots = true := by simpa using hc
  have h1 := rat_mod h hm1 (fun _ _ h => h)
  have hx1 := hx.mod hm1 (fun _ _ h => h)
  obtain ⟨cv, g1, g2, g3⟩ := id h1
  obtain ⟨ca, cc, rfl, _⟩ := fromAt_val g3
  have k1 : IntKind.i64.wrap ((ns.length : Int) - old) = ns.length - old := by rw [wrap_in] <;> omega
  have k2 : IntKind.i64.wrap (young - ((ns.length : Int) - old)) = young - (ns.length - old) := by rw [wrap_in] <;> omega
  have k3 : IntKind.i64.wrap (size - (ns.length : Int)) = size - ns.length := by rw [wrap_in] <;> omega
  have hwd : Mod (fun _ => False) w1 w1.drew := ⟨Nat.le_refl _, fun _ _ _ => rfl, rfl, rfl, rfl⟩
  (try simp only [go_sem, Nat.reduceAdd, Nat.reduceEqDiff, Nat.reduceLT, Nat.reduceLeDiff, Nat.reduceMul, reduceCtorEq, ↓reduceIte, cell_of g1, k1, k2, k3])
  refine wpS_cut (fun ρ w' => w1.drew = w' ∧ ρ.get 0 = some (.pointer (some ⟨a, 0, none⟩)) ∧ ρ.get 1 = some (I n) ∧ ρ.get 2 = some (.slice va roots.length vc) ∧ ρ.get 49 = some (.bool (decide (n ≤ young - ((ns.length : Int) - old)) && decide (n ≤ size - (ns.length : Int))))) ?_ ?_
  · refine wpS_gr rfl (fun hg => ?_) (fun hg => ?_)
    · (try simp only [go_sem, Nat.reduceAdd, Nat.reduceEqDiff, Nat.reduceLT, Nat.reduceLeDiff, Nat.reduceMul, reduceCtorEq, ↓reduceIte, hg, cell_of g1, k3])
    · (try simp only [go_sem, Nat.reduceAdd, Nat.reduceEqDiff, Nat.reduceLT, Nat.reduceLeDiff, Nat.reduceMul, reduceCtorEq, ↓reduceIte, hg, Bool.false_and])
  rintro ρ _ ⟨rfl, r0, r1, r2, r44⟩
  (try simp only [go_sem, Nat.reduceAdd, Nat.reduceEqDiff, Nat.reduceLT, Nat.reduceLeDiff, Nat.reduceMul, reduceCtorEq, ↓reduceIte, r0, r1, r2, r44])
  refine ir_cond rfl (fun hc => ?_) (fun hc => ?_)
  · have hc3 : n ≤ young - ((ns.length : Int) - old) ∧ n ≤ size - (ns.length : Int) := by simpa using hc
    have e : groomS size young old times ns n roots = ⟨some roots, 0, ns, old, times⟩ := by unfold groomS; rw [if_neg hc1, if_neg (by simp [hc2]), if_pos hc3]
    rw [e]
    (try simp only [go_sem, Nat.reduceAdd, Nat.reduceEqDiff, Nat.reduceLT, Nat.reduceLeDiff, Nat.reduceMul, reduceCtorEq, ↓reduceIte])
    refine e_call (by rfl) ?_
    refine (rcopied_ok _ roots w1.drew (hx1.mod hwd (fun _ _ h => h))).mono ?_
    rintro q w2 ⟨hm2, f2, o2, n2⟩
    obtain ⟨va2, vc2, rfl, _, _⟩ := o2.val
    have hm2' := hwd.trans hm2
    have s1 := hm1.size
    have s2 := hm2.size
    have hw0 : w1.drew.heap.size = w1.heap.size := rfl
    (try simp only [go_sem, Nat.reduceAdd, Nat.reduceEqDiff, Nat.reduceLT, Nat.reduceLeDiff, Nat.reduceMul, reduceCtorEq, ↓reduceIte])
    refine ⟨_, F, rfl, (same w2 (hm1.trans hm2')).1, (same w2 (hm1.trans hm2')).2, fun h => (by cases h), fun l hl => ?_⟩
    cases hl
    refine ⟨f2, o2, fun x hx => ?_⟩
    have := n2 x hx
    exact ⟨by omega, fun hh => by have := rat_lt h x hh; omega⟩
  have hc3 : ¬ (n ≤ young - ((ns.length : Int) - old) ∧ n ≤ size - (ns.length : Int)) := by simpa using hc
  have hx1d := hx1.mod hwd (fun _ _ h => h)
  have h1d := rat_mod h1 hwd (fun _ _ h => h)
  have sw1 : w1.drew.heap.size = w1.heap.size := rfl
  have s1 := hm1.size
  have hm1d := hm1.trans hwd
  (try simp only [go_sem, Nat.reduceAdd, Nat.reduceEqDiff, Nat.reduceLT, Nat.reduceLeDiff, Nat.reduceMul, reduceCtorEq, ↓reduceIte])
  refine e_call (by rfl) ?_
  refine (rsmall_ok w1.drew a size young old times ns F h1d ho hw hn _ roots hx1d hc2 hv hsm).mono ?_
  rintro q w2 ⟨fq2, F2, o2, a2, gr2, hf2⟩
  obtain ⟨va2, vc2, rfl, _, _⟩ := o2.val
  have hw2 := small_wf hw ho hc2
  have hl2 := small_len hw ho hc2
  obtain ⟨N1, hN1⟩ : ∃ N1, smallNs ns old roots = N1 := ⟨_, rfl⟩
  obtain ⟨R1, hR1⟩ : ∃ R1, smallRoots ns old roots = R1 := ⟨_, rfl⟩
  have hR1l : R1.length = roots.length := by rw [← hR1]; exact small_roots_len _ _ _
  have hok1 := small_roots_ok hw ho hc2
  rw [hN1] at a2 hw2 hl2 hok1
  rw [hR1] at o2 hok1
  obtain ⟨cv2, j1, j2, j3⟩ := id a2
  obtain ⟨ca2, cc2, rfl, _⟩ := fromAt_val j3
  have k4 : IntKind.i64.wrap (size - (N1.length : Int)) = size - N1.length := by rw [wrap_in] <;> omega
  have hwd2 : Mod (fun _ => False) w2 w2.drew := ⟨Nat.le_refl _, fun _ _ _ => rfl, rfl, rfl, rfl⟩
  have gr02 : Grow F F2 w w2 := ⟨(hm1d.weak (fun _ h => h.elim)).trans gr2.1, fun x hx => (gr2.2 x hx).imp (fun h => h) (fun h => by omega)⟩
  (try simp only [go_sem, Nat.reduceAdd, Nat.reduceEqDiff, Nat.reduceLT, Nat.reduceLeDiff, Nat.reduceMul, reduceCtorEq, ↓reduceIte, cell_of j1, k4])
  refine ir_cond rfl (fun hc => ?_) (fun hc => ?_)
  · have hc4 : n > size - (N1.length : Int) := by simpa using hc
    have e : groomS size young old times ns n roots = endS size n (smallNs N1 0 R1) (smallRoots N1 0 R1) (IntKind.i64.wrap (IntKind.i64.wrap (times + 1) + 1)) := by
      unfold groomS; rw [if_neg hc1, if_neg (by simp [hc2]), if_neg hc3, hN1, hR1, if_pos hc4]
    rw [e]
    have o2d := o2.mod hwd2 (fun _ _ h => h)
    have hx2 := (o2d.ints (by omega)).1
    (try simp only [go_sem, Nat.reduceAdd, Nat.reduceEqDiff, Nat.reduceLT, Nat.reduceLeDiff, Nat.reduceMul, reduceCtorEq, ↓reduceIte])
    refine e_call (by rfl) ?_
    refine (rcol_ok w2.drew a size young _ _ N1 F2 (rat_mod a2 hwd2 (fun _ _ h => h)) hw2 (by omega) _ R1 hx2 (fun hne x hx hh => ?_) (by omega)).mono ?_
    · cases hfq : fq2 with
      | none =>
        rcases o2.2 with ⟨_, h0, _⟩ | ⟨b', c', sp, e1, e2, _⟩
        · rw [← hR1l] at h0
          exact hne (List.eq_nil_of_length_eq_zero h0)
        · rw [hfq] at e2; cases e2
      | some y =>
        rcases o2.2 with ⟨_, _, e2⟩ | ⟨b', c', sp, e1, e2, _⟩
        · rw [hfq] at e2; cases e2
        · rw [e1] at hx
          simp only [vblk, Option.some.injEq] at hx
          exact (hf2 x (by rw [e2, hx])).2 hh
    rintro q w3 ⟨_, hq3⟩
    obtain ⟨v3, rfl, fq3, F3, o3, a3, gr3, hf3⟩ := hq3 hok1
    obtain ⟨va3, vc3, rfl, _, _⟩ := o3.val
    have hl3 := small_len hw2 (Nat.zero_le _) hok1
    obtain ⟨N2, hN2⟩ : ∃ N2, smallNs N1 0 R1 = N2 := ⟨_, rfl⟩
    obtain ⟨R2, hR2⟩ : ∃ R2, smallRoots N1 0 R1 = R2 := ⟨_, rfl⟩
    have hR2l : R2.length = R1.length := by rw [← hR2]; exact small_roots_len _ _ _
    rw [hN2] at a3 hl3
    rw [hR2] at o3
    rw [hN2, hR2]
    obtain ⟨cv3, i1, i2, i3⟩ := id a3
    obtain ⟨ca3, cc3, rfl, _⟩ := fromAt_val i3
    have k5 : IntKind.i64.wrap (size - (N2.length : Int)) = size - N2.length := by rw [wrap_in] <;> omega
    have hwd3 : Mod (fun _ => False) w3 w3.drew := ⟨Nat.le_refl _, fun _ _ _ => rfl, rfl, rfl, rfl⟩
    have sw2 : w2.drew.heap.size = w2.heap.size := rfl
    have s2 := gr02.1.size
    have gr03 : Grow F F3 w w3 := ⟨gr02.1.step (hwd2.weak (S' := F2) (fun _ h => h.elim) |>.trans gr3.1) (fun x hx hlt => (gr02.2 x hx).elim (fun h => h) (fun h => by omega)), fun x hx => by
      rcases gr3.2 x hx with h | h
      · exact gr02.2 x h
      · exact .inr (by omega)⟩
    (try simp only [go_sem, Nat.reduceAdd, Nat.reduceEqDiff, Nat.reduceLT, Nat.reduceLeDiff, Nat.reduceMul, reduceCtorEq, ↓reduceIte, cell_of i1, k5])
    refine ir_cond rfl (fun hc => ?_) (fun hc => ?_)
    · have hc5 : n > size - (N2.length : Int) := by simpa using hc
      (try simp only [go_sem, Nat.reduceAdd, Nat.reduceEqDiff, Nat.reduceLT, Nat.reduceLeDiff, Nat.reduceMul, reduceCtorEq, ↓reduceIte])
      have e : endS size n N2 R2 (IntKind.i64.wrap (IntKind.i64.wrap (times + 1) + 1)) = ⟨none, 211, N2, N2.length, IntKind.i64.wrap (IntKind.i64.wrap (times + 1) + 1)⟩ := by unfold endS; rw [if_pos hc5]
      rw [e]
      exact ⟨_, F3, rfl, rat_mod a3 hwd3 (fun _ _ h => h), ⟨gr03.1.trans (hwd3.weak (fun _ h => h.elim)), gr03.2⟩, fun _ => rfl, fun l hl => by cases hl⟩
    · have hc5 : ¬ n > size - (N2.length : Int) := by simpa using hc
      (try simp only [go_sem, Nat.reduceAdd, Nat.reduceEqDiff, Nat.reduceLT, Nat.reduceLeDiff, Nat.reduceMul, reduceCtorEq, ↓reduceIte])
      have e : endS size n N2 R2 (IntKind.i64.wrap (IntKind.i64.wrap (times + 1) + 1)) = ⟨some R2, 0, N2, N2.length, IntKind.i64.wrap (IntKind.i64.wrap (times + 1) + 1)⟩ := by unfold endS; rw [if_neg hc5]
      rw [e]
      refine ⟨_, F3, rfl, rat_mod a3 hwd3 (fun _ _ h => h), ⟨gr03.1.trans (hwd3.weak (fun _ h => h.elim)), gr03.2⟩, fun h => (by cases h), fun l hl => ?_⟩
      cases hl
      refine ⟨fq3, ?_, fun x hx => ⟨by have := (hf3 x hx).1; omega, (hf3 x hx).2⟩⟩
      rw [hR2l]
      exact o3.mod hwd3 (fun _ _ h => h)
  · have hc4 : ¬ n > size - (N1.length : Int) := by simpa using hc
    have e : groomS size young old times ns n roots = ⟨some R1, 0, N1, N1.length, IntKind.i64.wrap (times + 1)⟩ := by
      unfold groomS; rw [if_neg hc1, if_neg (by simp [hc2]), if_neg hc3, hN1, hR1, if_neg hc4]
    rw [e]
    have hdd : Mod (fun _ => False) w2 w2.drew.drew := ⟨Nat.le_refl _, fun _ _ _ => rfl, rfl, rfl, rfl⟩
    (try simp only [go_sem, Nat.reduceAdd, Nat.reduceEqDiff, Nat.reduceLT, Nat.reduceLeDiff, Nat.reduceMul, reduceCtorEq, ↓reduceIte, cell_of j1, k4])
    refine ir_cond rfl (fun hc => ?_) (fun hc => ?_)
    · exact absurd (by simpa using hc) hc4
    (try simp only [go_sem, Nat.reduceAdd, Nat.reduceEqDiff, Nat.reduceLT, Nat.reduceLeDiff, Nat.reduceMul, reduceCtorEq, ↓reduceIte])
    refine ⟨_, F2, rfl, rat_mod a2 hdd (fun _ _ h => h), ⟨gr02.1.trans (hdd.weak (fun _ h => h.elim)), gr02.2⟩, fun h => (by cases h), fun l hl => ?_⟩
    cases hl
    refine ⟨fq2, ?_, fun x hx => ⟨by have := (hf2 x hx).1; omega, (hf2 x hx).2⟩⟩
    rw [hR1l]
    exact o2.mod hdd (fun _ _ h => h)
end Go.Proofs.Ytnimaifmcejkcaa
end
