/- Heap, HeapKeeps: the law's graph: pair. -/
import Derived.Test.YtnagmcdlepcgnaaK2
set_option linter.unusedSimpArgs false
set_option linter.unusedVariables false
namespace Go.Proofs.Ytnagmcdlepcgnaa
open Go Go.W

def GraphAt (w : World) (g : Nat) (one two : List Int) (GF : Nat → Prop) : Prop :=
  ∃ v1 v2 f1 f2, w.heap[g]? = some (.cells #[v1, v2] 32 (0, 0)) ∧ Own w 3 1 v1 (one.map I) one.length f1 ∧ Own w 3 1 v2 (two.map I) one.length f2 ∧ two.length = one.length ∧
    GF g ∧ (∀ x, f1 = some x → GF x ∧ f2 ≠ some x) ∧ (∀ x, f2 = some x → GF x) ∧ ∀ x, GF x → x < w.heap.size
theorem graph_mod {w w' : World} {g : Nat} {one two : List Int} {GF S : Nat → Prop} (h : GraphAt w g one two GF) (hm : Mod S w w') (hd : ∀ x, GF x → ¬ S x) : GraphAt w' g one two GF := by
  obtain ⟨v1, v2, f1, f2, h1, h2, h3, h4, h5, h6, h7, h8⟩ := h
  exact ⟨v1, v2, f1, f2, hm.at h1 (hd g h5), h2.mod hm (fun x hx => hd x (h6 x hx).1), h3.mod hm (fun x hx => hd x (h7 x hx)), h4, h5, h6, h7, fun x hx => Nat.lt_of_lt_of_le (h8 x hx) hm.size⟩

theorem pair_ok (w : World) (g : Nat) (one two : List Int) (GF : Nat → Prop) (h : GraphAt w g one two GF) (a b : Int) (j : Nat) (hj : j ≤ one.length) (hno : ∀ i, i < j → one.getD i 0 ≠ a ∧ two.getD i 0 ≠ b) (hyes : j < one.length → one.getD j 0 = a ∧ two.getD j 0 = b) (hl : one.length ≤ 1048576) :
    CallsR Try.prog 23 [.pointer (some ⟨g, 0, none⟩), I a, I b] w fun r w' => ∃ q2 : Bool, r = .tuple #[.bool true, .bool q2] ∧ ∃ GF', GraphAt w' g (if j < one.length then one else one ++ [a]) (if j < one.length then two else two ++ [b]) GF' ∧ Grow GF GF' w w' := by
  have h0 := h
  obtain ⟨v1, v2, f1, f2, h1, h2, h3, h4, h5, h6, h7, h8⟩ := h0
  obtain ⟨x1, c1, rfl, _, _⟩ := h2.val
  obtain ⟨x2, c2, rfl, _, _⟩ := h3.val
  refine fit23.calls rfl ?_
  unfold ir23
  (try simp only [go_sem, Nat.reduceAdd, Nat.reduceEqDiff, Nat.reduceLT, Nat.reduceLeDiff, Nat.reduceMul, Nat.zero_add, reduceCtorEq, ↓reduceIte, List.length_cons, List.length_nil, List.set_cons_zero, List.set_cons_succ, List.take_zero, List.take_succ_cons, List.drop_zero, List.drop_succ_cons, List.take_nil, List.drop_nil, List.nil_append, List.cons_append, List.append_nil, or_false, false_or, or_true, true_or, false_implies, true_implies, and_true, true_and, and_self, Bool.and_true, Bool.true_and])
  refine ir_loop (fun m ρ w' => ∃ k : Nat, m = j - k ∧ k ≤ j ∧ w = w' ∧ ρ = [(0, .pointer (some ⟨g, 0, none⟩)), (1, I a), (2, I b), (8, I k)]) j ⟨0, rfl, Nat.zero_le _, rfl, rfl⟩ ?_
  rintro m ρ _ ⟨k, rfl, hk, rfl, rfl⟩
  unfold ir23L1
  have hwk : IntKind.i64.wrap ((k : Int) + 1) = ((k + 1 : Nat) : Int) := by rw [wrap_in] <;> omega
  (try simp only [go_sem, Nat.reduceAdd, Nat.reduceEqDiff, Nat.reduceLT, Nat.reduceLeDiff, Nat.reduceMul, Nat.zero_add, reduceCtorEq, ↓reduceIte, List.length_cons, List.length_nil, List.set_cons_zero, List.set_cons_succ, List.take_zero, List.take_succ_cons, List.drop_zero, List.drop_succ_cons, List.take_nil, List.drop_nil, List.nil_append, List.cons_append, List.append_nil, or_false, false_or, or_true, true_or, false_implies, true_implies, and_true, true_and, and_self, Bool.and_true, Bool.true_and, cell_of h1])
  refine ir_cond rfl (fun hc => ?_) (fun hc => ?_)
  · have hc' : k < one.length := by simpa using hc
    have b1 : (0 : Int) ≤ k ∧ (k : Int) < one.length := by omega
    have g1 : (one.map I)[k]? = some (I (one.getD k 0)) := by simp [List.getD, List.getElem?_eq_getElem hc']
    have g2 : (two.map I)[k]? = some (I (two.getD k 0)) := by simp [List.getD, List.getElem?_eq_getElem (show k < two.length by omega)]
    obtain ⟨b1', c1', e1, t1⟩ := own_at h2 hc' g1
    obtain ⟨b2', c2', e2, t2⟩ := own_at h3 hc' g2
    cases e1; cases e2
    by_cases hkj : k < j
    · have q1 : (one.getD k 0 == a) = false := by simpa using (hno k hkj).1
      have q2 : (two.getD k 0 == b) = false := by simpa using (hno k hkj).2
      (try simp only [go_sem, Nat.reduceAdd, Nat.reduceEqDiff, Nat.reduceLT, Nat.reduceLeDiff, Nat.reduceMul, Nat.zero_add, reduceCtorEq, ↓reduceIte, List.length_cons, List.length_nil, List.set_cons_zero, List.set_cons_succ, List.take_zero, List.take_succ_cons, List.drop_zero, List.drop_succ_cons, List.take_nil, List.drop_nil, List.nil_append, List.cons_append, List.append_nil, or_false, false_or, or_true, true_or, false_implies, true_implies, and_true, true_and, and_self, Bool.and_true, Bool.true_and, Nat.mul_one, Int.toNat_natCast, Int.toNat_zero, Nat.sub_zero, Nat.sub_self, cell_of h1, b1, t1, t2, q1, q2, hwk])
      exact ⟨_, by omega, k + 1, rfl, by omega, rfl⟩
    · have q0 : k = j := by omega
      subst q0
      have q1 : (one.getD k 0 == a) = true := by simpa using (hyes hc').1
      have q2 : (two.getD k 0 == b) = true := by simpa using (hyes hc').2
      (try simp only [go_sem, Nat.reduceAdd, Nat.reduceEqDiff, Nat.reduceLT, Nat.reduceLeDiff, Nat.reduceMul, Nat.zero_add, reduceCtorEq, ↓reduceIte, List.length_cons, List.length_nil, List.set_cons_zero, List.set_cons_succ, List.take_zero, List.take_succ_cons, List.drop_zero, List.drop_succ_cons, List.take_nil, List.drop_nil, List.nil_append, List.cons_append, List.append_nil, or_false, false_or, or_true, true_or, false_implies, true_implies, and_true, true_and, and_self, Bool.and_true, Bool.true_and, Nat.mul_one, Int.toNat_natCast, Int.toNat_zero, Nat.sub_zero, Nat.sub_self, cell_of h1, b1, t1, t2, q1, q2, hwk])
      rw [if_pos hc', if_pos hc']
      exact ⟨_, rfl, GF, h, Mod.refl _ _, fun x hx => .inl hx⟩
  · have hk2 : k = one.length := by simp at hc; omega
    have q0 : j = one.length := by omega
    (try simp only [go_sem, Nat.reduceAdd, Nat.reduceEqDiff, Nat.reduceLT, Nat.reduceLeDiff, Nat.reduceMul, Nat.zero_add, reduceCtorEq, ↓reduceIte, List.length_cons, List.length_nil, List.set_cons_zero, List.set_cons_succ, List.take_zero, List.take_succ_cons, List.drop_zero, List.drop_succ_cons, List.take_nil, List.drop_nil, List.nil_append, List.cons_append, List.append_nil, or_false, false_or, or_true, true_or, false_implies, true_implies, and_true, true_and, and_self, Bool.and_true, Bool.true_and, cell_of h1])
    refine e_bs (by rfl) (by (try simp only [go_sem, Nat.reduceAdd, Nat.reduceEqDiff, Nat.reduceLT, Nat.reduceLeDiff, Nat.reduceMul, Nat.zero_add, reduceCtorEq, ↓reduceIte, List.length_cons, List.length_nil, List.set_cons_zero, List.set_cons_succ, List.take_zero, List.take_succ_cons, List.drop_zero, List.drop_succ_cons, List.take_nil, List.drop_nil, List.nil_append, List.cons_append, List.append_nil, or_false, false_or, or_true, true_or, false_implies, true_implies, and_true, true_and, and_self, Bool.and_true, Bool.true_and]); rfl) ?_
    intro w2 hb2 hm2 hs2
    have p1 := hm2.at h1 (fun h => h)
    have p2 := h2.mod hm2 (fun _ _ h => h)
    have p3 := h3.mod hm2 (fun _ _ h => h)
    (try simp only [go_sem, Nat.reduceAdd, Nat.reduceEqDiff, Nat.reduceLT, Nat.reduceLeDiff, Nat.reduceMul, Nat.zero_add, reduceCtorEq, ↓reduceIte, List.length_cons, List.length_nil, List.set_cons_zero, List.set_cons_succ, List.take_zero, List.take_succ_cons, List.drop_zero, List.drop_succ_cons, List.take_nil, List.drop_nil, List.nil_append, List.cons_append, List.append_nil, or_false, false_or, or_true, true_or, false_implies, true_implies, and_true, true_and, and_self, Bool.and_true, Bool.true_and])
    refine e_ap (m := 1) (news := [I a]) rfl p2 rfl (fun h => by cases h) (rd_block hb2) (by simp [Value.oneCell']) rfl (by omega) (by omega) ?_
    intro v3 w3 fp3 ho3 hm3 hf3
    have k1 : f1 ≠ some g := own_ne p2 p1 (by decide)
    have k2 : f2 ≠ some g := own_ne p3 p1 (by decide)
    have r1 := hm3.at p1 k1
    have r3 := p3.mod hm3 (fun x hx hh => (h6 x hh).2 hx)
    obtain ⟨v3a, v3c, rfl, _, _⟩ := ho3.val
    have s2 := hm2.size; have s3 := hm3.size
    have lg := h8 g h5
    have hg3 : ∀ x, fp3 = some x → x ≠ g ∧ f2 ≠ some x ∧ (GF x ∨ w.heap.size ≤ x) := fun x hx => by
      rcases hf3 x hx with h | h
      · exact ⟨fun e => k1 (by rw [h, e]), (h6 x h).2, .inl (h6 x h).1⟩
      · refine ⟨by omega, fun e => ?_, .inr (by omega)⟩
        have := h8 x (h7 x e); omega
    (try simp only [go_sem, Nat.reduceAdd, Nat.reduceEqDiff, Nat.reduceLT, Nat.reduceLeDiff, Nat.reduceMul, Nat.zero_add, reduceCtorEq, ↓reduceIte, List.length_cons, List.length_nil, List.set_cons_zero, List.set_cons_succ, List.take_zero, List.take_succ_cons, List.drop_zero, List.drop_succ_cons, List.take_nil, List.drop_nil, List.nil_append, List.cons_append, List.append_nil, or_false, false_or, or_true, true_or, false_implies, true_implies, and_true, true_and, and_self, Bool.and_true, Bool.true_and])
    refine e_st1 (off := 0) rfl rfl (cs := [.slice x1 one.length c1, .slice x2 one.length c2]) r1 rfl (by simp) ?_
    intro w4 hb4 hm4 hs4
    simp only [List.set_cons_zero] at hb4
    have u1 := ho3.mod hm4 (fun x hx hh => (hg3 x hx).1 hh)
    have u2 := r3.mod hm4 (fun x hx hh => k2 (by rw [hx, hh]))
    (try simp only [go_sem, Nat.reduceAdd, Nat.reduceEqDiff, Nat.reduceLT, Nat.reduceLeDiff, Nat.reduceMul, Nat.zero_add, reduceCtorEq, ↓reduceIte, List.length_cons, List.length_nil, List.set_cons_zero, List.set_cons_succ, List.take_zero, List.take_succ_cons, List.drop_zero, List.drop_succ_cons, List.take_nil, List.drop_nil, List.nil_append, List.cons_append, List.append_nil, or_false, false_or, or_true, true_or, false_implies, true_implies, and_true, true_and, and_self, Bool.and_true, Bool.true_and, cell_of hb4])
    refine e_bs (by rfl) (by (try simp only [go_sem, Nat.reduceAdd, Nat.reduceEqDiff, Nat.reduceLT, Nat.reduceLeDiff, Nat.reduceMul, Nat.zero_add, reduceCtorEq, ↓reduceIte, List.length_cons, List.length_nil, List.set_cons_zero, List.set_cons_succ, List.take_zero, List.take_succ_cons, List.drop_zero, List.drop_succ_cons, List.take_nil, List.drop_nil, List.nil_append, List.cons_append, List.append_nil, or_false, false_or, or_true, true_or, false_implies, true_implies, and_true, true_and, and_self, Bool.and_true, Bool.true_and]); rfl) ?_
    intro w5 hb5 hm5 hs5
    have y1 := u1.mod hm5 (fun _ _ h => h)
    have y2 := u2.mod hm5 (fun _ _ h => h)
    have y0 := hm5.at hb4 (fun h => h)
    (try simp only [go_sem, Nat.reduceAdd, Nat.reduceEqDiff, Nat.reduceLT, Nat.reduceLeDiff, Nat.reduceMul, Nat.zero_add, reduceCtorEq, ↓reduceIte, List.length_cons, List.length_nil, List.set_cons_zero, List.set_cons_succ, List.take_zero, List.take_succ_cons, List.drop_zero, List.drop_succ_cons, List.take_nil, List.drop_nil, List.nil_append, List.cons_append, List.append_nil, or_false, false_or, or_true, true_or, false_implies, true_implies, and_true, true_and, and_self, Bool.and_true, Bool.true_and])
    refine e_ap (m := 1) (news := [I b]) rfl y2 rfl (fun h => by cases h) (rd_block hb5) (by simp [Value.oneCell']) rfl (by omega) (by omega) ?_
    intro v6 w6 fp6 ho6 hm6 hf6
    obtain ⟨v6a, v6c, rfl, _, _⟩ := ho6.val
    have z0 := hm6.at y0 k2
    have z1 := y1.mod hm6 (fun x hx hh => (hg3 x hx).2.1 hh)
    have s5 := hm5.size; have s6 := hm6.size
    have hg6 : ∀ x, fp6 = some x → x ≠ g ∧ fp3 ≠ some x ∧ (GF x ∨ w.heap.size ≤ x) := fun x hx => by
      rcases hf6 x hx with h | h
      · exact ⟨fun e => k2 (by rw [h, e]), fun e => (hg3 x e).2.1 h, .inl (h7 x h)⟩
      · exact ⟨by omega, fun e => (by have := z1.lt e; have := y1.lt e; omega), .inr (by omega)⟩
    (try simp only [go_sem, Nat.reduceAdd, Nat.reduceEqDiff, Nat.reduceLT, Nat.reduceLeDiff, Nat.reduceMul, Nat.zero_add, reduceCtorEq, ↓reduceIte, List.length_cons, List.length_nil, List.set_cons_zero, List.set_cons_succ, List.take_zero, List.take_succ_cons, List.drop_zero, List.drop_succ_cons, List.take_nil, List.drop_nil, List.nil_append, List.cons_append, List.append_nil, or_false, false_or, or_true, true_or, false_implies, true_implies, and_true, true_and, and_self, Bool.and_true, Bool.true_and])
    refine e_st1 (off := 1) rfl rfl (cs := [.slice v3a (one.length + 1) v3c, .slice x2 one.length c2]) z0 rfl (by simp) ?_
    intro w7 hb7 hm7 hs7
    simp only [List.set_cons_succ, List.set_cons_zero] at hb7
    have a1 := z1.mod hm7 (fun x hx hh => (hg3 x hx).1 hh)
    have a2 := ho6.mod hm7 (fun x hx hh => (hg6 x hx).1 hh)
    (try simp only [go_sem, Nat.reduceAdd, Nat.reduceEqDiff, Nat.reduceLT, Nat.reduceLeDiff, Nat.reduceMul, Nat.zero_add, reduceCtorEq, ↓reduceIte, List.length_cons, List.length_nil, List.set_cons_zero, List.set_cons_succ, List.take_zero, List.take_succ_cons, List.drop_zero, List.drop_succ_cons, List.take_nil, List.drop_nil, List.nil_append, List.cons_append, List.append_nil, or_false, false_or, or_true, true_or, false_implies, true_implies, and_true, true_and, and_self, Bool.and_true, Bool.true_and])
    have hmm : Mod GF w w7 := (((((hm2.weak (S' := GF) (fun _ h => h.elim)).step hm3 (fun x hx _ => (h6 x hx).1)).step hm4 (fun x hx _ => by rw [hx]; exact h5)).step hm5 (fun _ h _ => h.elim)).step hm6 (fun x hx _ => h7 x hx)).step hm7 (fun x hx _ => by rw [hx]; exact h5)
    rw [if_neg (by omega), if_neg (by omega)]
    refine ⟨_, rfl, fun x => GF x ∨ fp3 = some x ∨ fp6 = some x, ⟨_, _, fp3, fp6, hb7, ?_, ?_, by simp [h4], .inl h5, fun x hx => ⟨.inr (.inl hx), fun e => (hg6 x e).2.1 hx⟩, fun x hx => .inr (.inr hx), fun x hx => ?_⟩, hmm, fun x hx => ?_⟩
    · simpa using a1
    · simpa using a2
    · have := hmm.size
      rcases hx with hx | hx | hx
      · have := h8 x hx; omega
      · exact a1.lt hx
      · exact a2.lt hx
    · rcases hx with hx | hx | hx
      · exact .inl hx
      · exact (hg3 x hx).2.2
      · exact (hg6 x hx).2.2
end Go.Proofs.Ytnagmcdlepcgnaa
