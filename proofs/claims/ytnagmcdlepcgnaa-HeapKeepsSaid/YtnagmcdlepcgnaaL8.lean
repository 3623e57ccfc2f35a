/- Heap, the laws: awake. -/
import Derived.Test.YtnagmcdlepcgnaaL7
set_option linter.unusedSimpArgs false
set_option linter.unusedVariables false
namespace Go.Proofs.Ytnagmcdlepcgnaa
open Go Go.W

theorem ints_nil0 (w : World) : Ints w (.slice none 0 0) [] := ⟨none, 0, rfl, by simp, fun i hi => by cases hi⟩

def aw1 : List Nd := [⟨1, 7, []⟩]
def aw2 : List Nd := [⟨1, 7, []⟩, ⟨5, 0, [0]⟩]
def aw3 : List Nd := [⟨1, 7, []⟩, ⟨5, 0, [0]⟩, ⟨2, 4, [1, 1]⟩]
def aw4 : List Nd := [⟨1, 7, []⟩, ⟨5, 0, [0]⟩, ⟨2, 4, [1, 1]⟩, ⟨5, 0, [1]⟩]
theorem aw_1 : addS 4 [] ⟨1, 7, []⟩ = (0, 0, aw1) := rfl
theorem aw_2 : addS 4 aw1 ⟨5, 0, [0]⟩ = (1, 0, aw2) := rfl
theorem aw_3 : addS 4 aw2 ⟨2, 4, [1, 1]⟩ = (2, 0, aw3) := rfl
theorem aw_4 : addS 4 aw3 ⟨5, 0, [1]⟩ = (3, 0, aw4) := rfl
theorem aw_5 : roomS 4 0 aw4 2 [3, 2] = ⟨some [0, 1], 0, [⟨1, 7, []⟩, ⟨2, 4, [0, 0]⟩], 1⟩ := rfl
theorem aw_6 : getS [⟨1, 7, []⟩, ⟨2, 4, [0, 0]⟩] 1 = (⟨2, 4, [0, 0]⟩, 0) := rfl

theorem aw_step {w w1 w2 : World} {F F' : Nat → Prop} (m : Mod (fun _ => False) w w1) (f : ∀ x, F x → w.heap.size ≤ x) (g : Grow F F' w1 w2) : Mod (fun _ => False) w w2 ∧ ∀ x, F' x → w.heap.size ≤ x :=
  ⟨m.step g.1 (fun x hx hlt => by have := f x hx; omega), fun x hx => (g.2 x hx).elim (f x) (fun h => by have := m.size; omega)⟩

theorem awake_ok (w : World) : CallsR Try.prog 5 [] w fun q w' => q = .bool true ∧ Mod (fun _ => False) w w' := by
  refine fit5.calls rfl ?_
  unfold ir5
  (try simp only [go_sem, Nat.reduceAdd, Nat.reduceEqDiff, Nat.reduceLT, Nat.reduceLeDiff, Nat.reduceMul, Nat.zero_add, reduceCtorEq, ↓reduceIte, List.length_cons, List.length_nil, List.set_cons_zero, List.set_cons_succ, List.take_zero, List.take_succ_cons, List.drop_zero, List.drop_succ_cons, List.take_nil, List.drop_nil, List.nil_append, List.cons_append, List.append_nil, or_false, false_or, or_true, true_or, false_implies, true_implies, and_true, true_and, and_self, Bool.and_true, Bool.true_and])
  refine e_call (by rfl) ?_
  refine (new_ok 4 w).mono ?_
  rintro q w1 ⟨k1, _⟩
  obtain ⟨rfl, a1, m1, s1⟩ := k1 (by decide)
  (try simp only [go_sem, Nat.reduceAdd, Nat.reduceEqDiff, Nat.reduceLT, Nat.reduceLeDiff, Nat.reduceMul, Nat.zero_add, reduceCtorEq, ↓reduceIte, List.length_cons, List.length_nil, List.set_cons_zero, List.set_cons_succ, List.take_zero, List.take_succ_cons, List.drop_zero, List.drop_succ_cons, List.take_nil, List.drop_nil, List.nil_append, List.cons_append, List.append_nil, or_false, false_or, or_true, true_or, false_implies, true_implies, and_true, true_and, and_self, Bool.and_true, Bool.true_and])
  refine ir_cond rfl (fun hc => (by simp at hc)) (fun hc => ?_)
  (try simp only [go_sem, Nat.reduceAdd, Nat.reduceEqDiff, Nat.reduceLT, Nat.reduceLeDiff, Nat.reduceMul, Nat.zero_add, reduceCtorEq, ↓reduceIte, List.length_cons, List.length_nil, List.set_cons_zero, List.set_cons_succ, List.take_zero, List.take_succ_cons, List.drop_zero, List.drop_succ_cons, List.take_nil, List.drop_nil, List.nil_append, List.cons_append, List.append_nil, or_false, false_or, or_true, true_or, false_implies, true_implies, and_true, true_and, and_self, Bool.and_true, Bool.true_and])
  refine e_call (by rfl) ?_
  have f0 : Fine 4 [] := fine_new (by decide)
  refine (add_ok _ 4 0 [] ⟨1, 7, []⟩ _ _ w1 a1 (by decide) (by decide) (ints_nil0 _)).mono ?_
  rw [aw_1]
  rintro q w2 ⟨rfl, F2, a2, g2⟩
  have f1 : Fine 4 aw1 := fine_add f0 ⟨1, 7, []⟩
  (try simp only [go_sem, Nat.reduceAdd, Nat.reduceEqDiff, Nat.reduceLT, Nat.reduceLeDiff, Nat.reduceMul, Nat.zero_add, reduceCtorEq, ↓reduceIte, List.length_cons, List.length_nil, List.set_cons_zero, List.set_cons_succ, List.take_zero, List.take_succ_cons, List.drop_zero, List.drop_succ_cons, List.take_nil, List.drop_nil, List.nil_append, List.cons_append, List.append_nil, or_false, false_or, or_true, true_or, false_implies, true_implies, and_true, true_and, and_self, Bool.and_true, Bool.true_and])
  refine e_bs (by rfl) (by (try simp only [go_sem, Nat.reduceAdd, Nat.reduceEqDiff, Nat.reduceLT, Nat.reduceLeDiff, Nat.reduceMul, Nat.zero_add, reduceCtorEq, ↓reduceIte, List.length_cons, List.length_nil, List.set_cons_zero, List.set_cons_succ, List.take_zero, List.take_succ_cons, List.drop_zero, List.drop_succ_cons, List.take_nil, List.drop_nil, List.nil_append, List.cons_append, List.append_nil, or_false, false_or, or_true, true_or, false_implies, true_implies, and_true, true_and, and_self, Bool.and_true, Bool.true_and]); rfl) ?_
  intro w3 hb3 hm3 hs3
  have a3 := a2.mod hm3 (fun _ _ h => h)
  (try simp only [go_sem, Nat.reduceAdd, Nat.reduceEqDiff, Nat.reduceLT, Nat.reduceLeDiff, Nat.reduceMul, Nat.zero_add, reduceCtorEq, ↓reduceIte, List.length_cons, List.length_nil, List.set_cons_zero, List.set_cons_succ, List.take_zero, List.take_succ_cons, List.drop_zero, List.drop_succ_cons, List.take_nil, List.drop_nil, List.nil_append, List.cons_append, List.append_nil, or_false, false_or, or_true, true_or, false_implies, true_implies, and_true, true_and, and_self, Bool.and_true, Bool.true_and])
  refine e_call (by rfl) ?_
  refine (add_ok _ 4 0 aw1 ⟨5, 0, [0]⟩ _ _ w3 a3 (by decide) (by decide) (ints_block (xs := [0]) hb3 (by simp))).mono ?_
  rw [aw_2]
  rintro q w4 ⟨rfl, F4, a4, g4⟩
  have f2 : Fine 4 aw2 := fine_add f1 ⟨5, 0, [0]⟩
  (try simp only [go_sem, Nat.reduceAdd, Nat.reduceEqDiff, Nat.reduceLT, Nat.reduceLeDiff, Nat.reduceMul, Nat.zero_add, reduceCtorEq, ↓reduceIte, List.length_cons, List.length_nil, List.set_cons_zero, List.set_cons_succ, List.take_zero, List.take_succ_cons, List.drop_zero, List.drop_succ_cons, List.take_nil, List.drop_nil, List.nil_append, List.cons_append, List.append_nil, or_false, false_or, or_true, true_or, false_implies, true_implies, and_true, true_and, and_self, Bool.and_true, Bool.true_and])
  refine e_bs (by rfl) (by (try simp only [go_sem, Nat.reduceAdd, Nat.reduceEqDiff, Nat.reduceLT, Nat.reduceLeDiff, Nat.reduceMul, Nat.zero_add, reduceCtorEq, ↓reduceIte, List.length_cons, List.length_nil, List.set_cons_zero, List.set_cons_succ, List.take_zero, List.take_succ_cons, List.drop_zero, List.drop_succ_cons, List.take_nil, List.drop_nil, List.nil_append, List.cons_append, List.append_nil, or_false, false_or, or_true, true_or, false_implies, true_implies, and_true, true_and, and_self, Bool.and_true, Bool.true_and]); rfl) ?_
  intro w5 hb5 hm5 hs5
  have a5 := a4.mod hm5 (fun _ _ h => h)
  (try simp only [go_sem, Nat.reduceAdd, Nat.reduceEqDiff, Nat.reduceLT, Nat.reduceLeDiff, Nat.reduceMul, Nat.zero_add, reduceCtorEq, ↓reduceIte, List.length_cons, List.length_nil, List.set_cons_zero, List.set_cons_succ, List.take_zero, List.take_succ_cons, List.drop_zero, List.drop_succ_cons, List.take_nil, List.drop_nil, List.nil_append, List.cons_append, List.append_nil, or_false, false_or, or_true, true_or, false_implies, true_implies, and_true, true_and, and_self, Bool.and_true, Bool.true_and])
  refine e_call (by rfl) ?_
  refine (add_ok _ 4 0 aw2 ⟨2, 4, [1, 1]⟩ _ _ w5 a5 (by decide) (by decide) (ints_block (xs := [1, 1]) hb5 (by simp))).mono ?_
  rw [aw_3]
  rintro q w6 ⟨rfl, F6, a6, g6⟩
  have f3 : Fine 4 aw3 := fine_add f2 ⟨2, 4, [1, 1]⟩
  (try simp only [go_sem, Nat.reduceAdd, Nat.reduceEqDiff, Nat.reduceLT, Nat.reduceLeDiff, Nat.reduceMul, Nat.zero_add, reduceCtorEq, ↓reduceIte, List.length_cons, List.length_nil, List.set_cons_zero, List.set_cons_succ, List.take_zero, List.take_succ_cons, List.drop_zero, List.drop_succ_cons, List.take_nil, List.drop_nil, List.nil_append, List.cons_append, List.append_nil, or_false, false_or, or_true, true_or, false_implies, true_implies, and_true, true_and, and_self, Bool.and_true, Bool.true_and])
  refine e_bs (by rfl) (by (try simp only [go_sem, Nat.reduceAdd, Nat.reduceEqDiff, Nat.reduceLT, Nat.reduceLeDiff, Nat.reduceMul, Nat.zero_add, reduceCtorEq, ↓reduceIte, List.length_cons, List.length_nil, List.set_cons_zero, List.set_cons_succ, List.take_zero, List.take_succ_cons, List.drop_zero, List.drop_succ_cons, List.take_nil, List.drop_nil, List.nil_append, List.cons_append, List.append_nil, or_false, false_or, or_true, true_or, false_implies, true_implies, and_true, true_and, and_self, Bool.and_true, Bool.true_and]); rfl) ?_
  intro w7 hb7 hm7 hs7
  have a7 := a6.mod hm7 (fun _ _ h => h)
  (try simp only [go_sem, Nat.reduceAdd, Nat.reduceEqDiff, Nat.reduceLT, Nat.reduceLeDiff, Nat.reduceMul, Nat.zero_add, reduceCtorEq, ↓reduceIte, List.length_cons, List.length_nil, List.set_cons_zero, List.set_cons_succ, List.take_zero, List.take_succ_cons, List.drop_zero, List.drop_succ_cons, List.take_nil, List.drop_nil, List.nil_append, List.cons_append, List.append_nil, or_false, false_or, or_true, true_or, false_implies, true_implies, and_true, true_and, and_self, Bool.and_true, Bool.true_and])
  refine e_call (by rfl) ?_
  refine (add_ok _ 4 0 aw3 ⟨5, 0, [1]⟩ _ _ w7 a7 (by decide) (by decide) (ints_block (xs := [1]) hb7 (by simp))).mono ?_
  rw [aw_4]
  rintro q w8 ⟨rfl, F8, a8, g8⟩
  have f4 : Fine 4 aw4 := fine_add f3 ⟨5, 0, [1]⟩
  (try simp only [go_sem, Nat.reduceAdd, Nat.reduceEqDiff, Nat.reduceLT, Nat.reduceLeDiff, Nat.reduceMul, Nat.zero_add, reduceCtorEq, ↓reduceIte, List.length_cons, List.length_nil, List.set_cons_zero, List.set_cons_succ, List.take_zero, List.take_succ_cons, List.drop_zero, List.drop_succ_cons, List.take_nil, List.drop_nil, List.nil_append, List.cons_append, List.append_nil, or_false, false_or, or_true, true_or, false_implies, true_implies, and_true, true_and, and_self, Bool.and_true, Bool.true_and])
  refine e_bs (by rfl) (by (try simp only [go_sem, Nat.reduceAdd, Nat.reduceEqDiff, Nat.reduceLT, Nat.reduceLeDiff, Nat.reduceMul, Nat.zero_add, reduceCtorEq, ↓reduceIte, List.length_cons, List.length_nil, List.set_cons_zero, List.set_cons_succ, List.take_zero, List.take_succ_cons, List.drop_zero, List.drop_succ_cons, List.take_nil, List.drop_nil, List.nil_append, List.cons_append, List.append_nil, or_false, false_or, or_true, true_or, false_implies, true_implies, and_true, true_and, and_self, Bool.and_true, Bool.true_and]); rfl) ?_
  intro w9 hb9 hm9 hs9
  have a9 := a8.mod hm9 (fun _ _ h => h)
  (try simp only [go_sem, Nat.reduceAdd, Nat.reduceEqDiff, Nat.reduceLT, Nat.reduceLeDiff, Nat.reduceMul, Nat.zero_add, reduceCtorEq, ↓reduceIte, List.length_cons, List.length_nil, List.set_cons_zero, List.set_cons_succ, List.take_zero, List.take_succ_cons, List.drop_zero, List.drop_succ_cons, List.take_nil, List.drop_nil, List.nil_append, List.cons_append, List.append_nil, or_false, false_or, or_true, true_or, false_implies, true_implies, and_true, true_and, and_self, Bool.and_true, Bool.true_and])
  refine e_call (by rfl) ?_
  refine (room_ok _ 4 0 aw4 _ w9 2 _ [3, 2] a9 (by decide) (by decide) (by decide) f4.1 (ints_block (xs := [3, 2]) hb9 (by simp))).mono ?_
  rw [aw_5]
  rintro q w10 k10
  obtain ⟨F10, v, fp, rfl, ow, _, a10, g10⟩ := room_list k10
  obtain ⟨va, vc, rfl, _, _⟩ := ow.val
  (try simp only [go_sem, Nat.reduceAdd, Nat.reduceEqDiff, Nat.reduceLT, Nat.reduceLeDiff, Nat.reduceMul, Nat.zero_add, reduceCtorEq, ↓reduceIte, List.length_cons, List.length_nil, List.set_cons_zero, List.set_cons_succ, List.take_zero, List.take_succ_cons, List.drop_zero, List.drop_succ_cons, List.take_nil, List.drop_nil, List.nil_append, List.cons_append, List.append_nil, or_false, false_or, or_true, true_or, false_implies, true_implies, and_true, true_and, and_self, Bool.and_true, Bool.true_and])
  refine e_call (by rfl) ?_
  refine (get_ok _ 4 _ [⟨1, 7, []⟩, ⟨2, 4, [0, 0]⟩] 1 _ w10 a10 (by decide) (by simp)).mono ?_
  rintro q w11 k11
  obtain ⟨hm11, v1, f1, rfl, o1, n1⟩ := get_list k11
  rw [aw_6] at o1
  obtain ⟨va1, vc1, rfl, _, _⟩ := o1.val
  (try simp only [go_sem, Nat.reduceAdd, Nat.reduceEqDiff, Nat.reduceLT, Nat.reduceLeDiff, Nat.reduceMul, Nat.zero_add, reduceCtorEq, ↓reduceIte, List.length_cons, List.length_nil, List.set_cons_zero, List.set_cons_succ, List.take_zero, List.take_succ_cons, List.drop_zero, List.drop_succ_cons, List.take_nil, List.drop_nil, List.nil_append, List.cons_append, List.append_nil, or_false, false_or, or_true, true_or, false_implies, true_implies, and_true, true_and, and_self, Bool.and_true, Bool.true_and, aw_6])
  refine e_al ?_
  intro w12 hb12 hm12 hs12
  have hb12 : w12.heap[w11.heap.size]? = some (.cells #[I 0, I 0, .slice none 0 0] 35 (0, 0)) := hb12
  (try simp only [go_sem, Nat.reduceAdd, Nat.reduceEqDiff, Nat.reduceLT, Nat.reduceLeDiff, Nat.reduceMul, Nat.zero_add, reduceCtorEq, ↓reduceIte, List.length_cons, List.length_nil, List.set_cons_zero, List.set_cons_succ, List.take_zero, List.take_succ_cons, List.drop_zero, List.drop_succ_cons, List.take_nil, List.drop_nil, List.nil_append, List.cons_append, List.append_nil, or_false, false_or, or_true, true_or, false_implies, true_implies, and_true, true_and, and_self, Bool.and_true, Bool.true_and])
  refine e_sta rfl rfl hb12 rfl rfl (by simp [Value.oneCell']) ?_
  intro w13 hb13 hm13 hs13
  have hm1113 : Mod (fun _ => False) w11 w13 := hm12.step hm13 (fun x hx hlt => by omega)
  have o13 := o1.mod hm1113 (fun _ _ h => h)
  have ow13 := (ow.mod hm11 (fun _ _ h => h)).mod hm1113 (fun _ _ h => h)
  (try simp only [go_sem, Nat.reduceAdd, Nat.reduceEqDiff, Nat.reduceLT, Nat.reduceLeDiff, Nat.reduceMul, Nat.zero_add, reduceCtorEq, ↓reduceIte, List.length_cons, List.length_nil, List.set_cons_zero, List.set_cons_succ, List.take_zero, List.take_succ_cons, List.drop_zero, List.drop_succ_cons, List.take_nil, List.drop_nil, List.nil_append, List.cons_append, List.append_nil, or_false, false_or, or_true, true_or, false_implies, true_implies, and_true, true_and, and_self, Bool.and_true, Bool.true_and])
  refine e_bs (by rfl) (by (try simp only [go_sem, Nat.reduceAdd, Nat.reduceEqDiff, Nat.reduceLT, Nat.reduceLeDiff, Nat.reduceMul, Nat.zero_add, reduceCtorEq, ↓reduceIte, List.length_cons, List.length_nil, List.set_cons_zero, List.set_cons_succ, List.take_zero, List.take_succ_cons, List.drop_zero, List.drop_succ_cons, List.take_nil, List.drop_nil, List.nil_append, List.cons_append, List.append_nil, or_false, false_or, or_true, true_or, false_implies, true_implies, and_true, true_and, and_self, Bool.and_true, Bool.true_and]); rfl) ?_
  intro w14 hb14 hm14 hs14
  (try simp only [go_sem, Nat.reduceAdd, Nat.reduceEqDiff, Nat.reduceLT, Nat.reduceLeDiff, Nat.reduceMul, Nat.zero_add, reduceCtorEq, ↓reduceIte, List.length_cons, List.length_nil, List.set_cons_zero, List.set_cons_succ, List.take_zero, List.take_succ_cons, List.drop_zero, List.drop_succ_cons, List.take_nil, List.drop_nil, List.nil_append, List.cons_append, List.append_nil, or_false, false_or, or_true, true_or, false_implies, true_implies, and_true, true_and, and_self, Bool.and_true, Bool.true_and])
  refine e_call (by rfl) ?_
  refine (sameInts_ok _ _ [0, 1] [0, 1] w14 ((ow13.mod hm14 (fun _ _ h => h)).ints (by decide)).1 (ints_block (xs := [0, 1]) hb14 (by simp))).mono ?_
  rintro q w15 ⟨rfl, hm15⟩
  have hm1315 := hm14.trans hm15
  have y1 : vLN w15 3 (.pointer (some ⟨w11.heap.size, 0, none⟩)) = some (.agg #[I 2, I 4, .slice va1 2 vc1]) := ln_of (hm1315.at hb13 (fun h => h)) (off := 0) (n := 3) (by simp)
  (try simp only [go_sem, Nat.reduceAdd, Nat.reduceEqDiff, Nat.reduceLT, Nat.reduceLeDiff, Nat.reduceMul, Nat.zero_add, reduceCtorEq, ↓reduceIte, List.length_cons, List.length_nil, List.set_cons_zero, List.set_cons_succ, List.take_zero, List.take_succ_cons, List.drop_zero, List.drop_succ_cons, List.take_nil, List.drop_nil, List.nil_append, List.cons_append, List.append_nil, or_false, false_or, or_true, true_or, false_implies, true_implies, and_true, true_and, and_self, Bool.and_true, Bool.true_and, y1])
  refine e_bs (by rfl) (by (try simp only [go_sem, Nat.reduceAdd, Nat.reduceEqDiff, Nat.reduceLT, Nat.reduceLeDiff, Nat.reduceMul, Nat.zero_add, reduceCtorEq, ↓reduceIte, List.length_cons, List.length_nil, List.set_cons_zero, List.set_cons_succ, List.take_zero, List.take_succ_cons, List.drop_zero, List.drop_succ_cons, List.take_nil, List.drop_nil, List.nil_append, List.cons_append, List.append_nil, or_false, false_or, or_true, true_or, false_implies, true_implies, and_true, true_and, and_self, Bool.and_true, Bool.true_and]); rfl) ?_
  intro w16 hb16 hm16 hs16
  (try simp only [go_sem, Nat.reduceAdd, Nat.reduceEqDiff, Nat.reduceLT, Nat.reduceLeDiff, Nat.reduceMul, Nat.zero_add, reduceCtorEq, ↓reduceIte, List.length_cons, List.length_nil, List.set_cons_zero, List.set_cons_succ, List.take_zero, List.take_succ_cons, List.drop_zero, List.drop_succ_cons, List.take_nil, List.drop_nil, List.nil_append, List.cons_append, List.append_nil, or_false, false_or, or_true, true_or, false_implies, true_implies, and_true, true_and, and_self, Bool.and_true, Bool.true_and])
  refine e_call (by rfl) ?_
  refine (same_ok ⟨2, 4, [0, 0]⟩ ⟨2, 4, [0, 0]⟩ _ _ w16 (((o13.mod hm1315 (fun _ _ h => h)).mod hm16 (fun _ _ h => h)).ints (by decide)).1 (ints_block (xs := [0, 0]) hb16 (by simp))).mono ?_
  rintro q w17 ⟨rfl, hm17⟩
  have e1 : (Nd.eqB ⟨2, 4, [0, 0]⟩ ⟨2, 4, [0, 0]⟩) = true := rfl
  have e2 : ((3 : Int) == 3) = true := rfl
  have e3 : ((0 : Int) == 0) = true := rfl
  (try simp only [go_sem, Nat.reduceAdd, Nat.reduceEqDiff, Nat.reduceLT, Nat.reduceLeDiff, Nat.reduceMul, Nat.zero_add, reduceCtorEq, ↓reduceIte, List.length_cons, List.length_nil, List.set_cons_zero, List.set_cons_succ, List.take_zero, List.take_succ_cons, List.drop_zero, List.drop_succ_cons, List.take_nil, List.drop_nil, List.nil_append, List.cons_append, List.append_nil, or_false, false_or, or_true, true_or, false_implies, true_implies, and_true, true_and, and_self, Bool.and_true, Bool.true_and, e1, e2, e3, decide_true])
  obtain ⟨p2, q2⟩ := aw_step m1 (fun x hx => Nat.le_of_eq hx.symm) g2
  obtain ⟨p4, q4⟩ := aw_step (p2.trans hm3) q2 g4
  obtain ⟨p6, q6⟩ := aw_step (p4.trans hm5) q4 g6
  obtain ⟨p8, q8⟩ := aw_step (p6.trans hm7) q6 g8
  obtain ⟨p10, q10⟩ := aw_step (p8.trans hm9) q8 g10
  exact ((((p10.trans hm11).trans hm1113).trans hm1315).trans hm16).trans hm17
end Go.Proofs.Ytnagmcdlepcgnaa
