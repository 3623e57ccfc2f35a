/- Heap, the laws: lent. -/
import Derived.Test.YtnagmcdlepcgnaaL1
set_option linter.unusedSimpArgs false
set_option linter.unusedVariables false
namespace Go.Proofs.Ytnagmcdlepcgnaa
open Go Go.W

def lentL (xs : List Int) : List Int := xs ++ [-77, -77]
theorem lentL_len (xs : List Int) : (lentL xs).length = xs.length + 2 := by simp [lentL]
theorem lent_ok (v : Value) (xs : List Int) (w : World) (hx : Ints w v xs) :
    CallsR Try.prog 25 [v] w fun r w' => NewInts w w' r (lentL xs) := by
  have hx0 := hx
  obtain ⟨va, vc, rfl, hxl, _⟩ := hx0
  have hll := lentL_len xs
  refine fit25.calls rfl ?_
  unfold ir25
  have hwl : IntKind.i64.wrap ((xs.length : Int) + 2) = (((lentL xs).length : Nat) : Int) := by rw [wrap_in] <;> omega
  (try simp only [go_sem, Nat.reduceAdd, Nat.reduceEqDiff, Nat.reduceLT, Nat.reduceLeDiff, Nat.reduceMul, Nat.zero_add, reduceCtorEq, ↓reduceIte, List.length_cons, List.length_nil, List.set_cons_zero, List.set_cons_succ, List.take_zero, List.take_succ_cons, List.drop_zero, List.drop_succ_cons, List.take_nil, List.drop_nil, List.nil_append, List.cons_append, List.append_nil, or_false, false_or, or_true, true_or, false_implies, true_implies, and_true, true_and, and_self, Bool.and_true, Bool.true_and, hwl])
  refine e_ms1 (n := (lentL xs).length) rfl (by omega) (by omega) ?_
  intro w1 hb1 hm1 hs1
  (try simp only [go_sem, Nat.reduceAdd, Nat.reduceEqDiff, Nat.reduceLT, Nat.reduceLeDiff, Nat.reduceMul, Nat.zero_add, reduceCtorEq, ↓reduceIte, List.length_cons, List.length_nil, List.set_cons_zero, List.set_cons_succ, List.take_zero, List.take_succ_cons, List.drop_zero, List.drop_succ_cons, List.take_nil, List.drop_nil, List.nil_append, List.cons_append, List.append_nil, or_false, false_or, or_true, true_or, false_implies, true_implies, and_true, true_and, and_self, Bool.and_true, Bool.true_and])
  refine ir_loop (fun m ρ w' => ∃ k : Nat, m = (lentL xs).length - k ∧ k ≤ (lentL xs).length ∧ Mod (fun _ => False) w w' ∧ w.heap.size < w'.heap.size ∧
    w'.heap[w.heap.size]? = some (.cells ((((lentL xs).take k).map id).map I ++ List.replicate ((lentL xs).length - k) (I 0)).toArray 3 (0, 0)) ∧
    ρ = [(0, .slice va xs.length vc), (3, .slice (some ⟨w.heap.size, 0, none⟩) (lentL xs).length (lentL xs).length), (4, I k)]) (lentL xs).length ⟨0, rfl, Nat.zero_le _, hm1, by omega, by simpa using hb1, rfl⟩ ?_
  rintro m ρ w2 ⟨k, rfl, hk, hm2, hs2, hb2, rfl⟩
  unfold ir25L1
  (try simp only [go_sem, Nat.reduceAdd, Nat.reduceEqDiff, Nat.reduceLT, Nat.reduceLeDiff, Nat.reduceMul, Nat.zero_add, reduceCtorEq, ↓reduceIte, List.length_cons, List.length_nil, List.set_cons_zero, List.set_cons_succ, List.take_zero, List.take_succ_cons, List.drop_zero, List.drop_succ_cons, List.take_nil, List.drop_nil, List.nil_append, List.cons_append, List.append_nil, or_false, false_or, or_true, true_or, false_implies, true_implies, and_true, true_and, and_self, Bool.and_true, Bool.true_and])
  refine ir_cond rfl (fun hkl => ?_) (fun hkl => ?_)
  · have hkl' : k < (lentL xs).length := by simpa using hkl
    have b1 : (0 : Int) ≤ k ∧ (k : Int) < (lentL xs).length := by omega
    have hwk : IntKind.i64.wrap ((k : Int) + 1) = ((k + 1 : Nat) : Int) := by rw [wrap_in] <;> omega
    have hfit : k < ((((lentL xs).take k).map id).map I ++ List.replicate ((lentL xs).length - k) (I 0)).length := by simp; omega
    (try simp only [go_sem, Nat.reduceAdd, Nat.reduceEqDiff, Nat.reduceLT, Nat.reduceLeDiff, Nat.reduceMul, Nat.zero_add, reduceCtorEq, ↓reduceIte, List.length_cons, List.length_nil, List.set_cons_zero, List.set_cons_succ, List.take_zero, List.take_succ_cons, List.drop_zero, List.drop_succ_cons, List.take_nil, List.drop_nil, List.nil_append, List.cons_append, List.append_nil, or_false, false_or, or_true, true_or, false_implies, true_implies, and_true, true_and, and_self, Bool.and_true, Bool.true_and, Nat.mul_one, Int.toNat_natCast, Int.toNat_zero, Nat.sub_zero, Nat.sub_self, b1])
    refine e_st1 (off := k) rfl rfl hb2 rfl hfit ?_
    intro w3 hb3 hm3 hs3
    (try simp only [go_sem, Nat.reduceAdd, Nat.reduceEqDiff, Nat.reduceLT, Nat.reduceLeDiff, Nat.reduceMul, Nat.zero_add, reduceCtorEq, ↓reduceIte, List.length_cons, List.length_nil, List.set_cons_zero, List.set_cons_succ, List.take_zero, List.take_succ_cons, List.drop_zero, List.drop_succ_cons, List.take_nil, List.drop_nil, List.nil_append, List.cons_append, List.append_nil, or_false, false_or, or_true, true_or, false_implies, true_implies, and_true, true_and, and_self, Bool.and_true, Bool.true_and])
    refine ir_cond rfl (fun hkx => ?_) (fun hkx => ?_)
    · have hkx' : k < xs.length := by simpa using hkx
      have hx3 := (hx.mod hm2 (fun _ _ h => h)).mod hm3 (fun b hb hh => by
        obtain ⟨_, _, he, _, hxx⟩ := hx
        cases he
        obtain ⟨ad, rfl, had⟩ := hxx k hkx'
        have := World.block_lt_of_cell? _ _ had
        rw [add_block] at this
        cases hb
        omega)
      obtain ⟨_, _, he, _, hxx⟩ := hx3
      cases he
      obtain ⟨ad, rfl, had⟩ := hxx k hkx'
      have b2 : (0 : Int) ≤ k ∧ (k : Int) < xs.length := by omega
      (try simp only [go_sem, Nat.reduceAdd, Nat.reduceEqDiff, Nat.reduceLT, Nat.reduceLeDiff, Nat.reduceMul, Nat.zero_add, reduceCtorEq, ↓reduceIte, List.length_cons, List.length_nil, List.set_cons_zero, List.set_cons_succ, List.take_zero, List.take_succ_cons, List.drop_zero, List.drop_succ_cons, List.take_nil, List.drop_nil, List.nil_append, List.cons_append, List.append_nil, or_false, false_or, or_true, true_or, false_implies, true_implies, and_true, true_and, and_self, Bool.and_true, Bool.true_and, Nat.mul_one, Int.toNat_natCast, Int.toNat_zero, Nat.sub_zero, Nat.sub_self, b1, b2, had])
      refine e_st1 (off := k) rfl rfl hb3 rfl (by rw [List.length_set]; exact hfit) ?_
      intro w4 hb4 hm4 hs4
      have hv : xs[k] = (lentL xs)[k] := by simp [lentL, List.getElem_append_left hkx']
      rw [List.set_set, hv, show I (lentL xs)[k] = I (id (lentL xs)[k]) from rfl, fill_next id _ _ k hkl'] at hb4
      (try simp only [go_sem, Nat.reduceAdd, Nat.reduceEqDiff, Nat.reduceLT, Nat.reduceLeDiff, Nat.reduceMul, Nat.zero_add, reduceCtorEq, ↓reduceIte, List.length_cons, List.length_nil, List.set_cons_zero, List.set_cons_succ, List.take_zero, List.take_succ_cons, List.drop_zero, List.drop_succ_cons, List.take_nil, List.drop_nil, List.nil_append, List.cons_append, List.append_nil, or_false, false_or, or_true, true_or, false_implies, true_implies, and_true, true_and, and_self, Bool.and_true, Bool.true_and, hwk])
      refine ⟨_, ?_, k + 1, rfl, hkl', (hm2.step hm3 (fun b hb hlt => by omega)).step hm4 (fun b hb hlt => by omega), by omega, hb4, rfl⟩
      omega
    · have hkx' : ¬ k < xs.length := by simpa using hkx
      have hv : (-77 : Int) = (lentL xs)[k] := by
        simp only [lentL]
        rw [List.getElem_append_right (by omega)]
        have : k - xs.length = 0 ∨ k - xs.length = 1 := by omega
        rcases this with h | h <;> simp [h]
      rw [show Value.int IntKind.i64 (-77) = I (id (lentL xs)[k]) by rw [← hv]; rfl, fill_next id _ _ k hkl'] at hb3
      (try simp only [go_sem, Nat.reduceAdd, Nat.reduceEqDiff, Nat.reduceLT, Nat.reduceLeDiff, Nat.reduceMul, Nat.zero_add, reduceCtorEq, ↓reduceIte, List.length_cons, List.length_nil, List.set_cons_zero, List.set_cons_succ, List.take_zero, List.take_succ_cons, List.drop_zero, List.drop_succ_cons, List.take_nil, List.drop_nil, List.nil_append, List.cons_append, List.append_nil, or_false, false_or, or_true, true_or, false_implies, true_implies, and_true, true_and, and_self, Bool.and_true, Bool.true_and, hwk])
      refine ⟨_, ?_, k + 1, rfl, hkl', hm2.step hm3 (fun b hb hlt => by omega), by omega, hb3, rfl⟩
      omega
  · have hkl' : k = (lentL xs).length := by simp at hkl; omega
    subst hkl'
    (try simp only [go_sem, Nat.reduceAdd, Nat.reduceEqDiff, Nat.reduceLT, Nat.reduceLeDiff, Nat.reduceMul, Nat.zero_add, reduceCtorEq, ↓reduceIte, List.length_cons, List.length_nil, List.set_cons_zero, List.set_cons_succ, List.take_zero, List.take_succ_cons, List.drop_zero, List.drop_succ_cons, List.take_nil, List.drop_nil, List.nil_append, List.cons_append, List.append_nil, or_false, false_or, or_true, true_or, false_implies, true_implies, and_true, true_and, and_self, Bool.and_true, Bool.true_and])
    refine ⟨w.heap.size, rfl, ?_, Nat.le_refl _, hm2⟩
    simpa using hb2
end Go.Proofs.Ytnagmcdlepcgnaa
