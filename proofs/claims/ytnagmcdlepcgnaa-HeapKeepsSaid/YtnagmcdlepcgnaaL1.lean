/- Heap, the laws: sameInts, same. -/
import Derived.Test.YtnagmcdlepcgnaaR6
set_option linter.unusedSimpArgs false
set_option linter.unusedVariables false
namespace Go.Proofs.Ytnagmcdlepcgnaa
open Go Go.W

/-- Of an empty list nothing is asked. -/
theorem ints_modn {w w' : World} {S : Nat → Prop} {v : Value} {xs : List Int} (h : Ints w v xs) (hm : Mod S w w') (hs : xs ≠ [] → ∀ b, vblk v = some b → ¬ S b) : Ints w' v xs := by
  by_cases he : xs = []
  · subst he
    obtain ⟨a, c, rfl, hl, hx⟩ := h
    exact ⟨a, c, rfl, hl, fun i hi => absurd hi (by simp)⟩
  · exact h.mod hm (hs he)

theorem sameInts_ok (u v : Value) (xs ys : List Int) (w : World) (hx : Ints w u xs) (hy : Ints w v ys) :
    CallsR Try.prog 11 [u, v] w fun r w' => r = .bool (decide (xs = ys)) ∧ Mod (fun _ => False) w w' := by
  have hx0 := hx
  have hy0 := hy
  obtain ⟨ua, uc, rfl, hxl, _⟩ := hx0
  obtain ⟨va, vc, rfl, hyl, _⟩ := hy0
  refine fit11.calls rfl ?_
  unfold ir11
  (try simp only [go_sem, Nat.reduceAdd, Nat.reduceEqDiff, Nat.reduceLT, Nat.reduceLeDiff, Nat.reduceMul, Nat.zero_add, reduceCtorEq, ↓reduceIte, List.length_cons, List.length_nil, List.set_cons_zero, List.set_cons_succ, List.take_zero, List.take_succ_cons, List.drop_zero, List.drop_succ_cons, List.take_nil, List.drop_nil, List.nil_append, List.cons_append, List.append_nil, or_false, false_or, or_true, true_or, false_implies, true_implies, and_true, true_and, and_self, Bool.and_true, Bool.true_and])
  refine ir_cond rfl (fun hc => ?_) (fun hc => ?_)
  · have hc' : xs.length ≠ ys.length := fun h => by rw [h] at hc; simp at hc
    (try simp only [go_sem, Nat.reduceAdd, Nat.reduceEqDiff, Nat.reduceLT, Nat.reduceLeDiff, Nat.reduceMul, Nat.zero_add, reduceCtorEq, ↓reduceIte, List.length_cons, List.length_nil, List.set_cons_zero, List.set_cons_succ, List.take_zero, List.take_succ_cons, List.drop_zero, List.drop_succ_cons, List.take_nil, List.drop_nil, List.nil_append, List.cons_append, List.append_nil, or_false, false_or, or_true, true_or, false_implies, true_implies, and_true, true_and, and_self, Bool.and_true, Bool.true_and])
    refine ⟨?_, Mod.refl _ _⟩
    have : xs ≠ ys := fun h => hc' (by rw [h])
    simp [this]
  have hle : xs.length = ys.length := by simp at hc; omega
  (try simp only [go_sem, Nat.reduceAdd, Nat.reduceEqDiff, Nat.reduceLT, Nat.reduceLeDiff, Nat.reduceMul, Nat.zero_add, reduceCtorEq, ↓reduceIte, List.length_cons, List.length_nil, List.set_cons_zero, List.set_cons_succ, List.take_zero, List.take_succ_cons, List.drop_zero, List.drop_succ_cons, List.take_nil, List.drop_nil, List.nil_append, List.cons_append, List.append_nil, or_false, false_or, or_true, true_or, false_implies, true_implies, and_true, true_and, and_self, Bool.and_true, Bool.true_and])
  refine ir_loop (fun m ρ w' => ∃ k : Nat, m = xs.length - k ∧ k ≤ xs.length ∧ Mod (fun _ => False) w w' ∧ xs.take k = ys.take k ∧
    ρ = [(0, .slice ua xs.length uc), (1, .slice va ys.length vc), (5, I k)]) xs.length ⟨0, rfl, Nat.zero_le _, Mod.refl _ _, rfl, rfl⟩ ?_
  rintro m ρ w1 ⟨k, rfl, hk, hm, htk, rfl⟩
  unfold ir11L1
  (try simp only [go_sem, Nat.reduceAdd, Nat.reduceEqDiff, Nat.reduceLT, Nat.reduceLeDiff, Nat.reduceMul, Nat.zero_add, reduceCtorEq, ↓reduceIte, List.length_cons, List.length_nil, List.set_cons_zero, List.set_cons_succ, List.take_zero, List.take_succ_cons, List.drop_zero, List.drop_succ_cons, List.take_nil, List.drop_nil, List.nil_append, List.cons_append, List.append_nil, or_false, false_or, or_true, true_or, false_implies, true_implies, and_true, true_and, and_self, Bool.and_true, Bool.true_and])
  refine ir_cond rfl (fun hkl => ?_) (fun hkl => ?_)
  · have hkl' : k < xs.length := by simpa using hkl
    obtain ⟨_, _, he1, _, hxx⟩ := hx.mod hm (fun _ _ h => h)
    obtain ⟨_, _, he2, _, hyy⟩ := hy.mod hm (fun _ _ h => h)
    cases he1
    cases he2
    obtain ⟨ad, rfl, had⟩ := hxx k hkl'
    obtain ⟨bd, rfl, hbd⟩ := hyy k (by omega)
    have b1 : (0 : Int) ≤ k ∧ (k : Int) < xs.length := by omega
    have b2 : (0 : Int) ≤ k ∧ (k : Int) < ys.length := by omega
    have hwk : IntKind.i64.wrap ((k : Int) + 1) = ((k + 1 : Nat) : Int) := by rw [wrap_in] <;> omega
    (try simp only [go_sem, Nat.reduceAdd, Nat.reduceEqDiff, Nat.reduceLT, Nat.reduceLeDiff, Nat.reduceMul, Nat.zero_add, reduceCtorEq, ↓reduceIte, List.length_cons, List.length_nil, List.set_cons_zero, List.set_cons_succ, List.take_zero, List.take_succ_cons, List.drop_zero, List.drop_succ_cons, List.take_nil, List.drop_nil, List.nil_append, List.cons_append, List.append_nil, or_false, false_or, or_true, true_or, false_implies, true_implies, and_true, true_and, and_self, Bool.and_true, Bool.true_and, Nat.mul_one, Int.toNat_natCast, Int.toNat_zero, Nat.sub_zero, Nat.sub_self, b1, b2, had, hbd])
    refine ir_cond rfl (fun hne => ?_) (fun hne => ?_)
    · (try simp only [go_sem, Nat.reduceAdd, Nat.reduceEqDiff, Nat.reduceLT, Nat.reduceLeDiff, Nat.reduceMul, Nat.zero_add, reduceCtorEq, ↓reduceIte, List.length_cons, List.length_nil, List.set_cons_zero, List.set_cons_succ, List.take_zero, List.take_succ_cons, List.drop_zero, List.drop_succ_cons, List.take_nil, List.drop_nil, List.nil_append, List.cons_append, List.append_nil, or_false, false_or, or_true, true_or, false_implies, true_implies, and_true, true_and, and_self, Bool.and_true, Bool.true_and])
      refine ⟨?_, hm.drew⟩
      have h1 : xs[k] ≠ ys[k]'(by omega) := by simpa using hne
      have : xs ≠ ys := fun h => h1 (by subst h; rfl)
      simp [this]
    · have h1 : xs[k] = ys[k]'(by omega) := by simpa using hne
      (try simp only [go_sem, Nat.reduceAdd, Nat.reduceEqDiff, Nat.reduceLT, Nat.reduceLeDiff, Nat.reduceMul, Nat.zero_add, reduceCtorEq, ↓reduceIte, List.length_cons, List.length_nil, List.set_cons_zero, List.set_cons_succ, List.take_zero, List.take_succ_cons, List.drop_zero, List.drop_succ_cons, List.take_nil, List.drop_nil, List.nil_append, List.cons_append, List.append_nil, or_false, false_or, or_true, true_or, false_implies, true_implies, and_true, true_and, and_self, Bool.and_true, Bool.true_and, hwk])
      refine ⟨_, ?_, k + 1, rfl, hkl', hm.drew, ?_, rfl⟩
      · omega
      · rw [List.take_succ_eq_append_getElem hkl', List.take_succ_eq_append_getElem (by omega), htk, h1]
  · have hkl' : k = xs.length := by simp at hkl; omega
    subst hkl'
    (try simp only [go_sem, Nat.reduceAdd, Nat.reduceEqDiff, Nat.reduceLT, Nat.reduceLeDiff, Nat.reduceMul, Nat.zero_add, reduceCtorEq, ↓reduceIte, List.length_cons, List.length_nil, List.set_cons_zero, List.set_cons_succ, List.take_zero, List.take_succ_cons, List.drop_zero, List.drop_succ_cons, List.take_nil, List.drop_nil, List.nil_append, List.cons_append, List.append_nil, or_false, false_or, or_true, true_or, false_implies, true_implies, and_true, true_and, and_self, Bool.and_true, Bool.true_and])
    have : xs = ys := by
      rw [List.take_length] at htk
      rw [htk, hle, List.take_length]
    exact ⟨by simp [this], hm⟩

def Nd.eqB (a b : Nd) : Bool := decide (a.args = b.args) && decide (a.kind = b.kind) && decide (a.num = b.num)
theorem same_ok (a b : Nd) (u v : Value) (w : World) (hx : Ints w u a.args) (hy : Ints w v b.args) :
    CallsR Try.prog 18 [.agg #[I a.kind, I a.num, u], .agg #[I b.kind, I b.num, v]] w fun r w' => r = .bool (a.eqB b) ∧ Mod (fun _ => False) w w' := by
  have hx0 := hx
  have hy0 := hy
  obtain ⟨ua, uc, rfl, hxl, _⟩ := hx0
  obtain ⟨va, vc, rfl, hyl, _⟩ := hy0
  refine fit18.calls rfl ?_
  unfold ir18
  (try simp only [go_sem, Nat.reduceAdd, Nat.reduceEqDiff, Nat.reduceLT, Nat.reduceLeDiff, Nat.reduceMul, Nat.zero_add, reduceCtorEq, ↓reduceIte, List.length_cons, List.length_nil, List.set_cons_zero, List.set_cons_succ, List.take_zero, List.take_succ_cons, List.drop_zero, List.drop_succ_cons, List.take_nil, List.drop_nil, List.nil_append, List.cons_append, List.append_nil, or_false, false_or, or_true, true_or, false_implies, true_implies, and_true, true_and, and_self, Bool.and_true, Bool.true_and])
  refine e_bx rfl ?_
  intro w1 hb1 hm1 hs1
  (try simp only [go_sem, Nat.reduceAdd, Nat.reduceEqDiff, Nat.reduceLT, Nat.reduceLeDiff, Nat.reduceMul, Nat.zero_add, reduceCtorEq, ↓reduceIte, List.length_cons, List.length_nil, List.set_cons_zero, List.set_cons_succ, List.take_zero, List.take_succ_cons, List.drop_zero, List.drop_succ_cons, List.take_nil, List.drop_nil, List.nil_append, List.cons_append, List.append_nil, or_false, false_or, or_true, true_or, false_implies, true_implies, and_true, true_and, and_self, Bool.and_true, Bool.true_and])
  refine e_bx rfl ?_
  intro w2 hb2 hm2 hs2
  have hm12 := hm1.trans hm2
  have hb12 := hm2.at hb1 (fun h => h)
  (try simp only [go_sem, Nat.reduceAdd, Nat.reduceEqDiff, Nat.reduceLT, Nat.reduceLeDiff, Nat.reduceMul, Nat.zero_add, reduceCtorEq, ↓reduceIte, List.length_cons, List.length_nil, List.set_cons_zero, List.set_cons_succ, List.take_zero, List.take_succ_cons, List.drop_zero, List.drop_succ_cons, List.take_nil, List.drop_nil, List.nil_append, List.cons_append, List.append_nil, or_false, false_or, or_true, true_or, false_implies, true_implies, and_true, true_and, and_self, Bool.and_true, Bool.true_and, cell_of hb12, cell_of hb2])
  refine e_call (by rfl) ?_
  refine (sameInts_ok _ _ a.args b.args w2 (hx.mod hm12 (fun _ _ h => h)) (hy.mod hm12 (fun _ _ h => h))).mono ?_
  rintro r w3 ⟨rfl, hm3⟩
  have hb13 := hm3.at hb12 (fun h => h)
  have hb23 := hm3.at hb2 (fun h => h)
  have hm13 := hm12.trans hm3
  (try simp only [go_sem, Nat.reduceAdd, Nat.reduceEqDiff, Nat.reduceLT, Nat.reduceLeDiff, Nat.reduceMul, Nat.zero_add, reduceCtorEq, ↓reduceIte, List.length_cons, List.length_nil, List.set_cons_zero, List.set_cons_succ, List.take_zero, List.take_succ_cons, List.drop_zero, List.drop_succ_cons, List.take_nil, List.drop_nil, List.nil_append, List.cons_append, List.append_nil, or_false, false_or, or_true, true_or, false_implies, true_implies, and_true, true_and, and_self, Bool.and_true, Bool.true_and, cell_of hb13, cell_of hb23])
  repeat' (first | (refine wpS_gr rfl (fun h => ?_) (fun h => ?_) <;> (try simp only [go_sem, Nat.reduceAdd, Nat.reduceEqDiff, Nat.reduceLT, Nat.reduceLeDiff, Nat.reduceMul, Nat.zero_add, reduceCtorEq, ↓reduceIte, List.length_cons, List.length_nil, List.set_cons_zero, List.set_cons_succ, List.take_zero, List.take_succ_cons, List.drop_zero, List.drop_succ_cons, List.take_nil, List.drop_nil, List.nil_append, List.cons_append, List.append_nil, or_false, false_or, or_true, true_or, false_implies, true_implies, and_true, true_and, and_self, Bool.and_true, Bool.true_and, cell_of hb13, cell_of hb23, h])))
  all_goals (refine ⟨?_, hm13⟩; congr 1; rw [Bool.eq_iff_iff]; unfold Nd.eqB; simp at *; try simp [*])
end Go.Proofs.Ytnagmcdlepcgnaa
