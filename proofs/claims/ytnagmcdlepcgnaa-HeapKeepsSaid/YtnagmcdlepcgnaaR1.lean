/- Heap, the reference: small functions, New, Add. -/
import Derived.Test.YtnagmcdlepcgnaaH7
set_option linter.unusedSimpArgs false
set_option linter.unusedVariables false
namespace Go.Proofs.Ytnagmcdlepcgnaa
open Go Go.W

theorem rmay_ok (k n : Int) (v : Value) (xs : List Int) (w : World) (hx : Ints w v xs) :
    CallsR Try.prog 42 [.agg #[I k, I n, v]] w fun r w' => r = .bool (mayB k n xs.length) ∧ Mod (fun _ => False) w w' := by
  obtain ⟨a, c, rfl, hl, _⟩ := hx
  refine fit42.calls rfl ?_
  unfold ir42
  (try simp only [go_sem, Nat.reduceAdd, Nat.reduceEqDiff, Nat.reduceLT, Nat.reduceLeDiff, Nat.reduceMul, Nat.zero_add, reduceCtorEq, ↓reduceIte, List.length_cons, List.length_nil, List.set_cons_zero, List.set_cons_succ, List.take_zero, List.take_succ_cons, List.drop_zero, List.drop_succ_cons, List.take_nil, List.drop_nil, List.nil_append, List.cons_append, List.append_nil, or_false, false_or, or_true, true_or, false_implies, true_implies, and_true, true_and, and_self, Bool.and_true, Bool.true_and])
  refine e_bx rfl ?_
  intro w1 hb hm _
  have hlt := lt_of_heap hb
  (try simp only [go_sem, Nat.reduceAdd, Nat.reduceEqDiff, Nat.reduceLT, Nat.reduceLeDiff, Nat.reduceMul, Nat.zero_add, reduceCtorEq, ↓reduceIte, List.length_cons, List.length_nil, List.set_cons_zero, List.set_cons_succ, List.take_zero, List.take_succ_cons, List.drop_zero, List.drop_succ_cons, List.take_nil, List.drop_nil, List.nil_append, List.cons_append, List.append_nil, or_false, false_or, or_true, true_or, false_implies, true_implies, and_true, true_and, and_self, Bool.and_true, Bool.true_and, cell_of hb])
  repeat' (first | (refine ir_cond rfl (fun h => ?_) (fun h => ?_) <;> (try simp only [go_sem, Nat.reduceAdd, Nat.reduceEqDiff, Nat.reduceLT, Nat.reduceLeDiff, Nat.reduceMul, Nat.zero_add, reduceCtorEq, ↓reduceIte, List.length_cons, List.length_nil, List.set_cons_zero, List.set_cons_succ, List.take_zero, List.take_succ_cons, List.drop_zero, List.drop_succ_cons, List.take_nil, List.drop_nil, List.nil_append, List.cons_append, List.append_nil, or_false, false_or, or_true, true_or, false_implies, true_implies, and_true, true_and, and_self, Bool.and_true, Bool.true_and, cell_of hb, h])) | (refine wpS_gr rfl (fun h => ?_) (fun h => ?_) <;> (try simp only [go_sem, Nat.reduceAdd, Nat.reduceEqDiff, Nat.reduceLT, Nat.reduceLeDiff, Nat.reduceMul, Nat.zero_add, reduceCtorEq, ↓reduceIte, List.length_cons, List.length_nil, List.set_cons_zero, List.set_cons_succ, List.take_zero, List.take_succ_cons, List.drop_zero, List.drop_succ_cons, List.take_nil, List.drop_nil, List.nil_append, List.cons_append, List.append_nil, or_false, false_or, or_true, true_or, false_implies, true_implies, and_true, true_and, and_self, Bool.and_true, Bool.true_and, cell_of hb, h])))
  all_goals (refine ⟨?_, hm⟩; congr 1; rw [Bool.eq_iff_iff]; unfold mayB; simp only [decide_eq_true_eq, decide_eq_false_iff_not, beq_iff_eq, beq_eq_false_iff_ne, bne_iff_ne, bne_eq_false_iff_eq, ne_eq, Bool.false_eq_true, Bool.true_eq_false, iff_true, iff_false, true_iff, false_iff, Decidable.not_not] at *; omega)

theorem rplaces_ok (a n : Nat) (l : Value) (xs : List Int) (w : World) (ha : HasNodes w a n) (hx : Ints w l xs) :
    CallsR Try.prog 39 [.pointer (some ⟨a, 0, none⟩), l] w fun v w' => v = .bool (okPl n xs) ∧ Mod (fun _ => False) w w' := by
  obtain ⟨T, sz, ba, c, col, ha⟩ := ha
  obtain ⟨la, lc, rfl, hl, hx⟩ := hx
  refine fit39.calls rfl ?_
  unfold ir39
  (try simp only [go_sem, Nat.reduceAdd, Nat.reduceEqDiff, Nat.reduceLT, Nat.reduceLeDiff, Nat.reduceMul, Nat.zero_add, reduceCtorEq, ↓reduceIte, List.length_cons, List.length_nil, List.set_cons_zero, List.set_cons_succ, List.take_zero, List.take_succ_cons, List.drop_zero, List.drop_succ_cons, List.take_nil, List.drop_nil, List.nil_append, List.cons_append, List.append_nil, or_false, false_or, or_true, true_or, false_implies, true_implies, and_true, true_and, and_self, Bool.and_true, Bool.true_and])
  refine ir_loop (fun m ρ w' => ∃ k : Nat, m = xs.length - k ∧ k ≤ xs.length ∧ Mod (fun _ => False) w w' ∧ okPl n (xs.take k) = true ∧
    ρ = [(0, .pointer (some ⟨a, 0, none⟩)), (1, .slice la xs.length lc), (5, .int .i64 k)]) xs.length ⟨0, rfl, by omega, Mod.refl _ _, by simp [okPl], rfl⟩ ?_
  rintro m ρ w1 ⟨k, rfl, hk, hm1, hall, rfl⟩
  unfold ir39L1
  have ha1 := hm1.at ha (fun h => h)
  (try simp only [go_sem, Nat.reduceAdd, Nat.reduceEqDiff, Nat.reduceLT, Nat.reduceLeDiff, Nat.reduceMul, Nat.zero_add, reduceCtorEq, ↓reduceIte, List.length_cons, List.length_nil, List.set_cons_zero, List.set_cons_succ, List.take_zero, List.take_succ_cons, List.drop_zero, List.drop_succ_cons, List.take_nil, List.drop_nil, List.nil_append, List.cons_append, List.append_nil, or_false, false_or, or_true, true_or, false_implies, true_implies, and_true, true_and, and_self, Bool.and_true, Bool.true_and])
  refine ir_cond rfl (fun h => ?_) (fun h => ?_)
  · have hlt : k < xs.length := by simpa using h
    obtain ⟨ad, rfl, hc⟩ := hx k hlt
    have hc := hm1.cell hc (fun h => h)
    have c1 : (0 : Int) ≤ k ∧ (k : Int) < xs.length := by omega
    (try simp only [go_sem, Nat.reduceAdd, Nat.reduceEqDiff, Nat.reduceLT, Nat.reduceLeDiff, Nat.reduceMul, Nat.zero_add, reduceCtorEq, ↓reduceIte, List.length_cons, List.length_nil, List.set_cons_zero, List.set_cons_succ, List.take_zero, List.take_succ_cons, List.drop_zero, List.drop_succ_cons, List.take_nil, List.drop_nil, List.nil_append, List.cons_append, List.append_nil, or_false, false_or, or_true, true_or, false_implies, true_implies, and_true, true_and, and_self, Bool.and_true, Bool.true_and, Nat.mul_one, Int.toNat_natCast, Int.toNat_zero, Nat.sub_zero, Nat.sub_self, c1, hc])
    refine wpS_cut (fun ρ w2 => w2 = w1.drew ∧ ρ.get 0 = some (.pointer (some ⟨a, 0, none⟩)) ∧ ρ.get 1 = some (.slice (some ad) xs.length lc) ∧ ρ.get 5 = some (I k) ∧ ρ.get 28 = some (.bool (!(decide (0 ≤ xs[k]) && decide (xs[k] < n))))) ?_ ?_
    · refine wpS_gr rfl (fun hg => ?_) (fun hg => ?_)
      · (try simp only [go_sem, Nat.reduceAdd, Nat.reduceEqDiff, Nat.reduceLT, Nat.reduceLeDiff, Nat.reduceMul, Nat.zero_add, reduceCtorEq, ↓reduceIte, List.length_cons, List.length_nil, List.set_cons_zero, List.set_cons_succ, List.take_zero, List.take_succ_cons, List.drop_zero, List.drop_succ_cons, List.take_nil, List.drop_nil, List.nil_append, List.cons_append, List.append_nil, or_false, false_or, or_true, true_or, false_implies, true_implies, and_true, true_and, and_self, Bool.and_true, Bool.true_and, Nat.mul_one, Int.toNat_natCast, Int.toNat_zero, Nat.sub_zero, Nat.sub_self, hg])
        congr 1; rw [Bool.eq_iff_iff]; simp at hg ⊢; omega
      · (try simp only [go_sem, Nat.reduceAdd, Nat.reduceEqDiff, Nat.reduceLT, Nat.reduceLeDiff, Nat.reduceMul, Nat.zero_add, reduceCtorEq, ↓reduceIte, List.length_cons, List.length_nil, List.set_cons_zero, List.set_cons_succ, List.take_zero, List.take_succ_cons, List.drop_zero, List.drop_succ_cons, List.take_nil, List.drop_nil, List.nil_append, List.cons_append, List.append_nil, or_false, false_or, or_true, true_or, false_implies, true_implies, and_true, true_and, and_self, Bool.and_true, Bool.true_and, Nat.mul_one, Int.toNat_natCast, Int.toNat_zero, Nat.sub_zero, Nat.sub_self, hg, c1, hc, cell_of ha1])
        congr 1; rw [Bool.eq_iff_iff]; simp at hg ⊢; omega
    rintro ρ _ ⟨rfl, r0, r1, r5, r28⟩
    (try simp only [go_sem, Nat.reduceAdd, Nat.reduceEqDiff, Nat.reduceLT, Nat.reduceLeDiff, Nat.reduceMul, Nat.zero_add, reduceCtorEq, ↓reduceIte, List.length_cons, List.length_nil, List.set_cons_zero, List.set_cons_succ, List.take_zero, List.take_succ_cons, List.drop_zero, List.drop_succ_cons, List.take_nil, List.drop_nil, List.nil_append, List.cons_append, List.append_nil, or_false, false_or, or_true, true_or, false_implies, true_implies, and_true, true_and, and_self, Bool.and_true, Bool.true_and, r0, r1, r5, r28])
    refine ir_cond rfl (fun h2 => ?_) (fun h2 => ?_)
    · (try simp only [go_sem, Nat.reduceAdd, Nat.reduceEqDiff, Nat.reduceLT, Nat.reduceLeDiff, Nat.reduceMul, Nat.zero_add, reduceCtorEq, ↓reduceIte, List.length_cons, List.length_nil, List.set_cons_zero, List.set_cons_succ, List.take_zero, List.take_succ_cons, List.drop_zero, List.drop_succ_cons, List.take_nil, List.drop_nil, List.nil_append, List.cons_append, List.append_nil, or_false, false_or, or_true, true_or, false_implies, true_implies, and_true, true_and, and_self, Bool.and_true, Bool.true_and])
      refine ⟨?_, hm1.drew⟩
      rw [okPl, List.all_eq_false.2 ⟨xs[k], List.getElem_mem _, by simp at h2; simp; omega⟩]
    · have hw : IntKind.i64.wrap ((k : Int) + 1) = ((k + 1 : Nat) : Int) := by rw [wrap_in] <;> omega
      (try simp only [go_sem, Nat.reduceAdd, Nat.reduceEqDiff, Nat.reduceLT, Nat.reduceLeDiff, Nat.reduceMul, Nat.zero_add, reduceCtorEq, ↓reduceIte, List.length_cons, List.length_nil, List.set_cons_zero, List.set_cons_succ, List.take_zero, List.take_succ_cons, List.drop_zero, List.drop_succ_cons, List.take_nil, List.drop_nil, List.nil_append, List.cons_append, List.append_nil, or_false, false_or, or_true, true_or, false_implies, true_implies, and_true, true_and, and_self, Bool.and_true, Bool.true_and, hw])
      refine ⟨_, ?_, k + 1, rfl, hlt, hm1.drew, ?_, rfl⟩
      · omega
      · unfold okPl at hall ⊢
        rw [List.take_succ_eq_append_getElem hlt, List.all_append, hall]
        simp at h2; simp; omega
  · have hk' : k = xs.length := by simp at h; omega
    subst hk'
    (try simp only [go_sem, Nat.reduceAdd, Nat.reduceEqDiff, Nat.reduceLT, Nat.reduceLeDiff, Nat.reduceMul, Nat.zero_add, reduceCtorEq, ↓reduceIte, List.length_cons, List.length_nil, List.set_cons_zero, List.set_cons_succ, List.take_zero, List.take_succ_cons, List.drop_zero, List.drop_succ_cons, List.take_nil, List.drop_nil, List.nil_append, List.cons_append, List.append_nil, or_false, false_or, or_true, true_or, false_implies, true_implies, and_true, true_and, and_self, Bool.and_true, Bool.true_and])
    rw [List.take_length] at hall
    exact ⟨by rw [hall], hm1⟩

theorem rcopied_ok (k n : Int) (v : Value) (xs : List Int) (w : World) (hx : Ints w v xs) :
    CallsR Try.prog 38 [.agg #[I k, I n, v]] w fun r w' => ∃ v', r = .agg #[I k, I n, v'] ∧ NewOwn w w' v' xs ∧ Mod (fun _ => False) w w' := by
  have hx0 := hx
  obtain ⟨a, c, rfl, hl, _⟩ := hx0
  refine fit38.calls rfl ?_
  unfold ir38
  (try simp only [go_sem, Nat.reduceAdd, Nat.reduceEqDiff, Nat.reduceLT, Nat.reduceLeDiff, Nat.reduceMul, Nat.zero_add, reduceCtorEq, ↓reduceIte, List.length_cons, List.length_nil, List.set_cons_zero, List.set_cons_succ, List.take_zero, List.take_succ_cons, List.drop_zero, List.drop_succ_cons, List.take_nil, List.drop_nil, List.nil_append, List.cons_append, List.append_nil, or_false, false_or, or_true, true_or, false_implies, true_implies, and_true, true_and, and_self, Bool.and_true, Bool.true_and])
  refine e_bx rfl ?_
  intro w1 hb1 hm1 hs1
  have l1 := lt_of_heap hb1
  (try simp only [go_sem, Nat.reduceAdd, Nat.reduceEqDiff, Nat.reduceLT, Nat.reduceLeDiff, Nat.reduceMul, Nat.zero_add, reduceCtorEq, ↓reduceIte, List.length_cons, List.length_nil, List.set_cons_zero, List.set_cons_succ, List.take_zero, List.take_succ_cons, List.drop_zero, List.drop_succ_cons, List.take_nil, List.drop_nil, List.nil_append, List.cons_append, List.append_nil, or_false, false_or, or_true, true_or, false_implies, true_implies, and_true, true_and, and_self, Bool.and_true, Bool.true_and])
  refine e_al ?_
  intro w2 hb2 hm2 hs2
  have l2 := lt_of_heap hb2
  have hb12 := hm2.at hb1 (fun h => h)
  (try simp only [go_sem, Nat.reduceAdd, Nat.reduceEqDiff, Nat.reduceLT, Nat.reduceLeDiff, Nat.reduceMul, Nat.zero_add, reduceCtorEq, ↓reduceIte, List.length_cons, List.length_nil, List.set_cons_zero, List.set_cons_succ, List.take_zero, List.take_succ_cons, List.drop_zero, List.drop_succ_cons, List.take_nil, List.drop_nil, List.nil_append, List.cons_append, List.append_nil, or_false, false_or, or_true, true_or, false_implies, true_implies, and_true, true_and, and_self, Bool.and_true, Bool.true_and, cell_of hb12])
  refine e_al ?_
  intro w3 hb3 hm3 hs3
  have l3 := lt_of_heap hb3
  (try simp only [go_sem, Nat.reduceAdd, Nat.reduceEqDiff, Nat.reduceLT, Nat.reduceLeDiff, Nat.reduceMul, Nat.zero_add, reduceCtorEq, ↓reduceIte, List.length_cons, List.length_nil, List.set_cons_zero, List.set_cons_succ, List.take_zero, List.take_succ_cons, List.drop_zero, List.drop_succ_cons, List.take_nil, List.drop_nil, List.nil_append, List.cons_append, List.append_nil, or_false, false_or, or_true, true_or, false_implies, true_implies, and_true, true_and, and_self, Bool.and_true, Bool.true_and])
  refine e_sta rfl rfl hb3 rfl rfl (by simp [Value.oneCell']) ?_
  intro w4 hb4 hm4 hs4
  have hb14 := hm4.at (hm3.at hb12 (fun h => h)) (by omega)
  have hm14 : Mod (fun _ => False) w w4 := ((hm1.trans hm2).trans hm3).step hm4 (fun i h hlt => by omega)
  have hx4 := hx.mod hm14 (fun _ _ h => h)
  obtain ⟨_, hr, hna⟩ := hx4.rd
  (try simp only [go_sem, Nat.reduceAdd, Nat.reduceEqDiff, Nat.reduceLT, Nat.reduceLeDiff, Nat.reduceMul, Nat.zero_add, reduceCtorEq, ↓reduceIte, List.length_cons, List.length_nil, List.set_cons_zero, List.set_cons_succ, List.take_zero, List.take_succ_cons, List.drop_zero, List.drop_succ_cons, List.take_nil, List.drop_nil, List.nil_append, List.cons_append, List.append_nil, or_false, false_or, or_true, true_or, false_implies, true_implies, and_true, true_and, and_self, Bool.and_true, Bool.true_and, cell_of hb4, cell_of hb14])
  refine e_ap (m := xs.length) (news := xs.map I) rfl (Own.nil w4 3 1) rfl hna hr (oneI xs) rfl (by omega) (by omega) ?_
  intro v5 w5 fp5 ho5 hm5 hf5
  obtain ⟨va5, vc5, rfl, _⟩ := ho5.val
  have hb45 := hm5.at hb4 (fun h => by cases h)
  have hb25 := hm5.at (hm4.at (hm3.at hb2 (fun h => h)) (by omega)) (fun h => by cases h)
  have hs5 := hm5.size
  (try simp only [go_sem, Nat.reduceAdd, Nat.reduceEqDiff, Nat.reduceLT, Nat.reduceLeDiff, Nat.reduceMul, Nat.zero_add, reduceCtorEq, ↓reduceIte, List.length_cons, List.length_nil, List.set_cons_zero, List.set_cons_succ, List.take_zero, List.take_succ_cons, List.drop_zero, List.drop_succ_cons, List.take_nil, List.drop_nil, List.nil_append, List.cons_append, List.append_nil, or_false, false_or, or_true, true_or, false_implies, true_implies, and_true, true_and, and_self, Bool.and_true, Bool.true_and])
  refine e_st1 (off := 2) rfl rfl hb45 rfl (by simp) ?_
  intro w6 hb6 hm6 hs6
  have hb26 := hm6.at hb25 (by omega)
  (try simp only [go_sem, Nat.reduceAdd, Nat.reduceEqDiff, Nat.reduceLT, Nat.reduceLeDiff, Nat.reduceMul, Nat.zero_add, reduceCtorEq, ↓reduceIte, List.length_cons, List.length_nil, List.set_cons_zero, List.set_cons_succ, List.take_zero, List.take_succ_cons, List.drop_zero, List.drop_succ_cons, List.take_nil, List.drop_nil, List.nil_append, List.cons_append, List.append_nil, or_false, false_or, or_true, true_or, false_implies, true_implies, and_true, true_and, and_self, Bool.and_true, Bool.true_and, ln_of hb6 (off := 0) (n := 3) (by simp)])
  refine e_sta rfl rfl hb26 rfl rfl (by simp [Value.oneCell']) ?_
  intro w7 hb7 hm7 hs7
  have l7 := lt_of_heap hb7
  (try simp only [go_sem, Nat.reduceAdd, Nat.reduceEqDiff, Nat.reduceLT, Nat.reduceLeDiff, Nat.reduceMul, Nat.zero_add, reduceCtorEq, ↓reduceIte, List.length_cons, List.length_nil, List.set_cons_zero, List.set_cons_succ, List.take_zero, List.take_succ_cons, List.drop_zero, List.drop_succ_cons, List.take_nil, List.drop_nil, List.nil_append, List.cons_append, List.append_nil, or_false, false_or, or_true, true_or, false_implies, true_implies, and_true, true_and, and_self, Bool.and_true, Bool.true_and, ln_of hb7 (off := 0) (n := 3) (by simp)])
  have hfp : ∀ b, fp5 = some b → w4.heap.size ≤ b := fun b hb => by
    rcases hf5 b hb with h | h
    · cases h
    · omega
  have ho7 := (ho5.mod hm6 (fun b hb hh => by have := hfp b hb; omega)).mod hm7 (fun b hb hh => by have := hfp b hb; omega)
  refine ⟨_, rfl, ⟨fp5, by simpa using ho7, fun b hb => by have := hfp b hb; omega⟩, ((hm14.step hm5 (fun i h hlt => by cases h)).step hm6 (fun i h hlt => by omega)).step hm7 (fun i h hlt => by omega)⟩

theorem rused_ok (a : Nat) (size times : Int) (ns : List Nd) (F : Nat → Prop) (w : World) (h : ArenaAt 77 35 w a size times ns F) :
    CallsR Try.prog 31 [.pointer (some ⟨a, 0, none⟩)] w fun r w' => r = I ns.length ∧ w = w' := by
  obtain ⟨T, sz, x, c, col, h1⟩ := h.has
  refine fit31.calls rfl ?_
  unfold ir31
  (try simp only [go_sem, Nat.reduceAdd, Nat.reduceEqDiff, Nat.reduceLT, Nat.reduceLeDiff, Nat.reduceMul, Nat.zero_add, reduceCtorEq, ↓reduceIte, List.length_cons, List.length_nil, List.set_cons_zero, List.set_cons_succ, List.take_zero, List.take_succ_cons, List.drop_zero, List.drop_succ_cons, List.take_nil, List.drop_nil, List.nil_append, List.cons_append, List.append_nil, or_false, false_or, or_true, true_or, false_implies, true_implies, and_true, true_and, and_self, Bool.and_true, Bool.true_and, cell_of h1])
theorem rtimes_ok (a : Nat) (size times : Int) (ns : List Nd) (F : Nat → Prop) (w : World) (h : ArenaAt 77 35 w a size times ns F) :
    CallsR Try.prog 33 [.pointer (some ⟨a, 0, none⟩)] w fun r w' => r = I times ∧ w = w' := by
  obtain ⟨cv, fpc, ps, h1, _⟩ := h
  refine fit33.calls rfl ?_
  unfold ir33
  (try simp only [go_sem, Nat.reduceAdd, Nat.reduceEqDiff, Nat.reduceLT, Nat.reduceLeDiff, Nat.reduceMul, Nat.zero_add, reduceCtorEq, ↓reduceIte, List.length_cons, List.length_nil, List.set_cons_zero, List.set_cons_succ, List.take_zero, List.take_succ_cons, List.drop_zero, List.drop_succ_cons, List.take_nil, List.drop_nil, List.nil_append, List.cons_append, List.append_nil, or_false, false_or, or_true, true_or, false_implies, true_implies, and_true, true_and, and_self, Bool.and_true, Bool.true_and, cell_of h1])
theorem rnew_ok (size : Int) (w : World) :
    CallsR Try.prog 14 [I size] w fun r w' => (1 ≤ size ∧ size ≤ 1048576 → r = .tuple #[.pointer (some ⟨w.heap.size, 0, none⟩), I 0] ∧ ArenaAt 77 35 w' w.heap.size size 0 [] (· = w.heap.size) ∧ Mod (fun _ => False) w w' ∧ w'.heap.size = w.heap.size + 1) ∧
      (¬ (1 ≤ size ∧ size ≤ 1048576) → r = .tuple #[.pointer none, I 200] ∧ w = w') := by
  refine fit14.calls rfl ?_
  unfold ir14
  (try simp only [go_sem, Nat.reduceAdd, Nat.reduceEqDiff, Nat.reduceLT, Nat.reduceLeDiff, Nat.reduceMul, Nat.zero_add, reduceCtorEq, ↓reduceIte, List.length_cons, List.length_nil, List.set_cons_zero, List.set_cons_succ, List.take_zero, List.take_succ_cons, List.drop_zero, List.drop_succ_cons, List.take_nil, List.drop_nil, List.nil_append, List.cons_append, List.append_nil, or_false, false_or, or_true, true_or, false_implies, true_implies, and_true, true_and, and_self, Bool.and_true, Bool.true_and])
  refine wpS_gr rfl (fun h => ?_) (fun h => ?_)
  · (try simp only [go_sem, Nat.reduceAdd, Nat.reduceEqDiff, Nat.reduceLT, Nat.reduceLeDiff, Nat.reduceMul, Nat.zero_add, reduceCtorEq, ↓reduceIte, List.length_cons, List.length_nil, List.set_cons_zero, List.set_cons_succ, List.take_zero, List.take_succ_cons, List.drop_zero, List.drop_succ_cons, List.take_nil, List.drop_nil, List.nil_append, List.cons_append, List.append_nil, or_false, false_or, or_true, true_or, false_implies, true_implies, and_true, true_and, and_self, Bool.and_true, Bool.true_and, h])
    have h' : size < 1 := by simpa using h
    exact ⟨fun hh => by omega, fun _ => trivial⟩
  · (try simp only [go_sem, Nat.reduceAdd, Nat.reduceEqDiff, Nat.reduceLT, Nat.reduceLeDiff, Nat.reduceMul, Nat.zero_add, reduceCtorEq, ↓reduceIte, List.length_cons, List.length_nil, List.set_cons_zero, List.set_cons_succ, List.take_zero, List.take_succ_cons, List.drop_zero, List.drop_succ_cons, List.take_nil, List.drop_nil, List.nil_append, List.cons_append, List.append_nil, or_false, false_or, or_true, true_or, false_implies, true_implies, and_true, true_and, and_self, Bool.and_true, Bool.true_and, h])
    have h' : ¬ size < 1 := by simpa using h
    refine ir_cond rfl (fun h2 => ?_) (fun h2 => ?_)
    · (try simp only [go_sem, Nat.reduceAdd, Nat.reduceEqDiff, Nat.reduceLT, Nat.reduceLeDiff, Nat.reduceMul, Nat.zero_add, reduceCtorEq, ↓reduceIte, List.length_cons, List.length_nil, List.set_cons_zero, List.set_cons_succ, List.take_zero, List.take_succ_cons, List.drop_zero, List.drop_succ_cons, List.take_nil, List.drop_nil, List.nil_append, List.cons_append, List.append_nil, or_false, false_or, or_true, true_or, false_implies, true_implies, and_true, true_and, and_self, Bool.and_true, Bool.true_and])
      have h2' : size > 1048576 := by simpa using h2
      exact ⟨fun hh => by omega, fun _ => trivial⟩
    · (try simp only [go_sem, Nat.reduceAdd, Nat.reduceEqDiff, Nat.reduceLT, Nat.reduceLeDiff, Nat.reduceMul, Nat.zero_add, reduceCtorEq, ↓reduceIte, List.length_cons, List.length_nil, List.set_cons_zero, List.set_cons_succ, List.take_zero, List.take_succ_cons, List.drop_zero, List.drop_succ_cons, List.take_nil, List.drop_nil, List.nil_append, List.cons_append, List.append_nil, or_false, false_or, or_true, true_or, false_implies, true_implies, and_true, true_and, and_self, Bool.and_true, Bool.true_and])
      have h2' : ¬ size > 1048576 := by simpa using h2
      refine e_bx rfl ?_
      intro w1 hb1 hm1 hs1
      (try simp only [go_sem, Nat.reduceAdd, Nat.reduceEqDiff, Nat.reduceLT, Nat.reduceLeDiff, Nat.reduceMul, Nat.zero_add, reduceCtorEq, ↓reduceIte, List.length_cons, List.length_nil, List.set_cons_zero, List.set_cons_succ, List.take_zero, List.take_succ_cons, List.drop_zero, List.drop_succ_cons, List.take_nil, List.drop_nil, List.nil_append, List.cons_append, List.append_nil, or_false, false_or, or_true, true_or, false_implies, true_implies, and_true, true_and, and_self, Bool.and_true, Bool.true_and])
      refine ⟨fun _ => ⟨⟨_, none, [], hb1, rfl, Own.nil w1 35 3, (fun b h => by cases h), (fun p hp => by cases hp), rfl, (fun b hb => by omega)⟩, hm1, hs1⟩, fun hh => by omega⟩

def wrongS (ns : List Nd) (nd : Nd) : Int := if nd.may = false then 1 else if okPl ns.length nd.args = false then 202 else 0
theorem rwrong_ok (a n : Nat) (nd : Nd) (v : Value) (w : World) (ns : List Nd) (h : HasNodes w a ns.length) (hx : Ints w v nd.args) :
    CallsR Try.prog 37 [.pointer (some ⟨a, 0, none⟩), .agg #[I nd.kind, I nd.num, v]] w fun r w' => r = I (wrongS ns nd) ∧ Mod (fun _ => False) w w' := by
  have hx0 := hx
  obtain ⟨va, vc, rfl, hl, _⟩ := hx0
  refine fit37.calls rfl ?_
  unfold ir37
  (try simp only [go_sem, Nat.reduceAdd, Nat.reduceEqDiff, Nat.reduceLT, Nat.reduceLeDiff, Nat.reduceMul, Nat.zero_add, reduceCtorEq, ↓reduceIte, List.length_cons, List.length_nil, List.set_cons_zero, List.set_cons_succ, List.take_zero, List.take_succ_cons, List.drop_zero, List.drop_succ_cons, List.take_nil, List.drop_nil, List.nil_append, List.cons_append, List.append_nil, or_false, false_or, or_true, true_or, false_implies, true_implies, and_true, true_and, and_self, Bool.and_true, Bool.true_and])
  refine e_bx rfl ?_
  intro w1 hb1 hm1 hs1
  have hx1 := hx.mod hm1 (fun _ _ h => h)
  have hd : vLN w1 3 (.pointer (some ⟨w.heap.size, 0, none⟩)) = some (.agg #[I nd.kind, I nd.num, .slice va nd.args.length vc]) := ln_of hb1 (off := 0) (n := 3) (by simp)
  have hh : ∀ w2, Mod (fun _ => False) w w2 → HasNodes w2 a ns.length := fun w2 hm => by
    obtain ⟨T, sz, x, c, col, h1⟩ := h
    exact ⟨T, sz, x, c, col, hm.at h1 (fun h => h)⟩
  (try simp only [go_sem, Nat.reduceAdd, Nat.reduceEqDiff, Nat.reduceLT, Nat.reduceLeDiff, Nat.reduceMul, Nat.zero_add, reduceCtorEq, ↓reduceIte, List.length_cons, List.length_nil, List.set_cons_zero, List.set_cons_succ, List.take_zero, List.take_succ_cons, List.drop_zero, List.drop_succ_cons, List.take_nil, List.drop_nil, List.nil_append, List.cons_append, List.append_nil, or_false, false_or, or_true, true_or, false_implies, true_implies, and_true, true_and, and_self, Bool.and_true, Bool.true_and, hd])
  refine e_call (by rfl) ?_
  refine (rmay_ok nd.kind nd.num _ nd.args w1 hx1).mono ?_
  rintro r w2 ⟨rfl, hm2⟩
  have hm02 := hm1.trans hm2
  (try simp only [go_sem, Nat.reduceAdd, Nat.reduceEqDiff, Nat.reduceLT, Nat.reduceLeDiff, Nat.reduceMul, Nat.zero_add, reduceCtorEq, ↓reduceIte, List.length_cons, List.length_nil, List.set_cons_zero, List.set_cons_succ, List.take_zero, List.take_succ_cons, List.drop_zero, List.drop_succ_cons, List.take_nil, List.drop_nil, List.nil_append, List.cons_append, List.append_nil, or_false, false_or, or_true, true_or, false_implies, true_implies, and_true, true_and, and_self, Bool.and_true, Bool.true_and])
  refine ir_cond rfl (fun hc => ?_) (fun hc => ?_)
  · have hc' : nd.may = false := by simpa [Nd.may] using hc
    (try simp only [go_sem, Nat.reduceAdd, Nat.reduceEqDiff, Nat.reduceLT, Nat.reduceLeDiff, Nat.reduceMul, Nat.zero_add, reduceCtorEq, ↓reduceIte, List.length_cons, List.length_nil, List.set_cons_zero, List.set_cons_succ, List.take_zero, List.take_succ_cons, List.drop_zero, List.drop_succ_cons, List.take_nil, List.drop_nil, List.nil_append, List.cons_append, List.append_nil, or_false, false_or, or_true, true_or, false_implies, true_implies, and_true, true_and, and_self, Bool.and_true, Bool.true_and])
    exact ⟨by simp [wrongS, hc'], hm02⟩
  have hc1 : nd.may = true := by simpa [Nd.may] using hc
  have hb2 := hm2.at hb1 (fun h => h)
  have hx2 := hx.mod hm02 (fun _ _ h => h)
  (try simp only [go_sem, Nat.reduceAdd, Nat.reduceEqDiff, Nat.reduceLT, Nat.reduceLeDiff, Nat.reduceMul, Nat.zero_add, reduceCtorEq, ↓reduceIte, List.length_cons, List.length_nil, List.set_cons_zero, List.set_cons_succ, List.take_zero, List.take_succ_cons, List.drop_zero, List.drop_succ_cons, List.take_nil, List.drop_nil, List.nil_append, List.cons_append, List.append_nil, or_false, false_or, or_true, true_or, false_implies, true_implies, and_true, true_and, and_self, Bool.and_true, Bool.true_and, cell_of hb2])
  refine e_call (by rfl) ?_
  refine (rplaces_ok a ns.length _ nd.args w2 (hh w2 hm02) hx2).mono ?_
  rintro r w3 ⟨rfl, hm3⟩
  (try simp only [go_sem, Nat.reduceAdd, Nat.reduceEqDiff, Nat.reduceLT, Nat.reduceLeDiff, Nat.reduceMul, Nat.zero_add, reduceCtorEq, ↓reduceIte, List.length_cons, List.length_nil, List.set_cons_zero, List.set_cons_succ, List.take_zero, List.take_succ_cons, List.drop_zero, List.drop_succ_cons, List.take_nil, List.drop_nil, List.nil_append, List.cons_append, List.append_nil, or_false, false_or, or_true, true_or, false_implies, true_implies, and_true, true_and, and_self, Bool.and_true, Bool.true_and])
  refine ir_cond rfl (fun hc => ?_) (fun hc => ?_)
  · have hc' : okPl ns.length nd.args = false := by simpa using hc
    (try simp only [go_sem, Nat.reduceAdd, Nat.reduceEqDiff, Nat.reduceLT, Nat.reduceLeDiff, Nat.reduceMul, Nat.zero_add, reduceCtorEq, ↓reduceIte, List.length_cons, List.length_nil, List.set_cons_zero, List.set_cons_succ, List.take_zero, List.take_succ_cons, List.drop_zero, List.drop_succ_cons, List.take_nil, List.drop_nil, List.nil_append, List.cons_append, List.append_nil, or_false, false_or, or_true, true_or, false_implies, true_implies, and_true, true_and, and_self, Bool.and_true, Bool.true_and])
    exact ⟨by simp [wrongS, hc', hc1], hm02.trans hm3⟩
  · have hc' : okPl ns.length nd.args = true := by simpa using hc
    (try simp only [go_sem, Nat.reduceAdd, Nat.reduceEqDiff, Nat.reduceLT, Nat.reduceLeDiff, Nat.reduceMul, Nat.zero_add, reduceCtorEq, ↓reduceIte, List.length_cons, List.length_nil, List.set_cons_zero, List.set_cons_succ, List.take_zero, List.take_succ_cons, List.drop_zero, List.drop_succ_cons, List.take_nil, List.drop_nil, List.nil_append, List.cons_append, List.append_nil, or_false, false_or, or_true, true_or, false_implies, true_implies, and_true, true_and, and_self, Bool.and_true, Bool.true_and])
    exact ⟨by simp [wrongS, hc', hc1], hm02.trans hm3⟩
end Go.Proofs.Ytnagmcdlepcgnaa
