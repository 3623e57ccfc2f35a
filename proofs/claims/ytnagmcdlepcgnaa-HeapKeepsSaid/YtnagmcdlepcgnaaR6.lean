/- Heap, the reference: Room. -/
import Derived.Test.YtnagmcdlepcgnaaR5
set_option linter.unusedSimpArgs false
set_option linter.unusedVariables false
namespace Go.Proofs.Ytnagmcdlepcgnaa
open Go Go.W

theorem rroom_ok (a : Nat) (size times : Int) (ns : List Nd) (F : Nat → Prop) (w : World) (n : Int) (v : Value) (roots : List Int) (h : ArenaAt 77 35 w a size times ns F) (hn : ns.length ≤ 1048576) (hs0 : 0 ≤ size) (hs : size ≤ 1048576) (hw : WF ns) (hx : Ints w v roots) :
    CallsR Try.prog 40 [.pointer (some ⟨a, 0, none⟩), I n, v] w (RoomPost 77 35 a size F w (roomS size times ns n roots)) := by
  have hx0 := hx
  obtain ⟨va, vc, rfl, hxl, _⟩ := hx0
  refine fit40.calls rfl ?_
  unfold ir40
  (try simp only [go_sem, Nat.reduceAdd, Nat.reduceEqDiff, Nat.reduceLT, Nat.reduceLeDiff, Nat.reduceMul, Nat.zero_add, reduceCtorEq, ↓reduceIte, List.length_cons, List.length_nil, List.set_cons_zero, List.set_cons_succ, List.take_zero, List.take_succ_cons, List.drop_zero, List.drop_succ_cons, List.take_nil, List.drop_nil, List.nil_append, List.cons_append, List.append_nil, or_false, false_or, or_true, true_or, false_implies, true_implies, and_true, true_and, and_self, Bool.and_true, Bool.true_and])
  refine ir_cond rfl (fun hc => ?_) (fun hc => ?_)
  · have hc' : n < 0 := by simpa using hc
    (try simp only [go_sem, Nat.reduceAdd, Nat.reduceEqDiff, Nat.reduceLT, Nat.reduceLeDiff, Nat.reduceMul, Nat.zero_add, reduceCtorEq, ↓reduceIte, List.length_cons, List.length_nil, List.set_cons_zero, List.set_cons_succ, List.take_zero, List.take_succ_cons, List.drop_zero, List.drop_succ_cons, List.take_nil, List.drop_nil, List.nil_append, List.cons_append, List.append_nil, or_false, false_or, or_true, true_or, false_implies, true_implies, and_true, true_and, and_self, Bool.and_true, Bool.true_and])
    have e : roomS size times ns n roots = ⟨none, 1, ns, times⟩ := by unfold roomS; rw [if_pos hc']
    rw [e]
    exact ⟨F, h, ⟨Mod.refl _ _, fun b hb => .inl hb⟩, fun _ => rfl, fun l hl => (by cases hl)⟩
  have hc1 : ¬ n < 0 := by simpa using hc
  (try simp only [go_sem, Nat.reduceAdd, Nat.reduceEqDiff, Nat.reduceLT, Nat.reduceLeDiff, Nat.reduceMul, Nat.zero_add, reduceCtorEq, ↓reduceIte, List.length_cons, List.length_nil, List.set_cons_zero, List.set_cons_succ, List.take_zero, List.take_succ_cons, List.drop_zero, List.drop_succ_cons, List.take_nil, List.drop_nil, List.nil_append, List.cons_append, List.append_nil, or_false, false_or, or_true, true_or, false_implies, true_implies, and_true, true_and, and_self, Bool.and_true, Bool.true_and])
  refine e_call (by rfl) ?_
  refine (rplaces_ok a ns.length _ roots w h.has hx).mono ?_
  rintro r w1 ⟨rfl, hm1⟩
  have h1 := h.mod hm1 (fun _ _ h => h)
  have hx1 := hx.mod hm1 (fun _ _ h => h)
  have s1 := hm1.size
  (try simp only [go_sem, Nat.reduceAdd, Nat.reduceEqDiff, Nat.reduceLT, Nat.reduceLeDiff, Nat.reduceMul, Nat.zero_add, reduceCtorEq, ↓reduceIte, List.length_cons, List.length_nil, List.set_cons_zero, List.set_cons_succ, List.take_zero, List.take_succ_cons, List.drop_zero, List.drop_succ_cons, List.take_nil, List.drop_nil, List.nil_append, List.cons_append, List.append_nil, or_false, false_or, or_true, true_or, false_implies, true_implies, and_true, true_and, and_self, Bool.and_true, Bool.true_and])
  refine ir_cond rfl (fun hc => ?_) (fun hc => ?_)
  · have hc' : okPl ns.length roots = false := by simpa using hc
    (try simp only [go_sem, Nat.reduceAdd, Nat.reduceEqDiff, Nat.reduceLT, Nat.reduceLeDiff, Nat.reduceMul, Nat.zero_add, reduceCtorEq, ↓reduceIte, List.length_cons, List.length_nil, List.set_cons_zero, List.set_cons_succ, List.take_zero, List.take_succ_cons, List.drop_zero, List.drop_succ_cons, List.take_nil, List.drop_nil, List.nil_append, List.cons_append, List.append_nil, or_false, false_or, or_true, true_or, false_implies, true_implies, and_true, true_and, and_self, Bool.and_true, Bool.true_and])
    have e : roomS size times ns n roots = ⟨none, 202, ns, times⟩ := by unfold roomS; rw [if_neg hc1, if_pos hc']
    rw [e]
    exact ⟨F, h1, ⟨hm1.weak (fun _ h => h.elim), fun b hb => .inl hb⟩, fun _ => rfl, fun l hl => (by cases hl)⟩
  have hc2 : okPl ns.length roots = true := by simpa using hc
  obtain ⟨cv, fpc, ps, g1, g2, g3, g4, g5, g6, g7⟩ := id h1
  obtain ⟨ca, cc, rfl, _, _⟩ := g3.val
  have hw1 : IntKind.i64.wrap (size - (ns.length : Int)) = size - ns.length := by rw [wrap_in] <;> omega
  (try simp only [go_sem, Nat.reduceAdd, Nat.reduceEqDiff, Nat.reduceLT, Nat.reduceLeDiff, Nat.reduceMul, Nat.zero_add, reduceCtorEq, ↓reduceIte, List.length_cons, List.length_nil, List.set_cons_zero, List.set_cons_succ, List.take_zero, List.take_succ_cons, List.drop_zero, List.drop_succ_cons, List.take_nil, List.drop_nil, List.nil_append, List.cons_append, List.append_nil, or_false, false_or, or_true, true_or, false_implies, true_implies, and_true, true_and, and_self, Bool.and_true, Bool.true_and, cell_of g1, hw1])
  refine ir_cond rfl (fun hc => ?_) (fun hc => ?_)
  · have hc' : n ≤ size - ns.length := by simpa using hc
    have e : roomS size times ns n roots = ⟨some roots, 0, ns, times⟩ := by unfold roomS; rw [if_neg hc1, if_neg (by simp [hc2]), if_pos hc']
    rw [e]
    (try simp only [go_sem, Nat.reduceAdd, Nat.reduceEqDiff, Nat.reduceLT, Nat.reduceLeDiff, Nat.reduceMul, Nat.zero_add, reduceCtorEq, ↓reduceIte, List.length_cons, List.length_nil, List.set_cons_zero, List.set_cons_succ, List.take_zero, List.take_succ_cons, List.drop_zero, List.drop_succ_cons, List.take_nil, List.drop_nil, List.nil_append, List.cons_append, List.append_nil, or_false, false_or, or_true, true_or, false_implies, true_implies, and_true, true_and, and_self, Bool.and_true, Bool.true_and])
    obtain ⟨_, hr, hna⟩ := hx1.rd
    refine e_ap (w := w1.drew) (m := roots.length) (news := roots.map I) rfl (Own.nil w1.drew 3 1) rfl hna hr (oneI roots) rfl (by omega) (by omega) ?_
    intro v2 w2 fp2 ho2 hm2 hf2
    have hm2 := hm2.of_drew
    have hf2 : ∀ b, fp2 = some b → w1.heap.size ≤ b := fun b hb => by
      rcases hf2 b hb with h | h
      · cases h
      · have : w1.drew.heap.size = w1.heap.size := rfl
        omega
    (try simp only [go_sem, Nat.reduceAdd, Nat.reduceEqDiff, Nat.reduceLT, Nat.reduceLeDiff, Nat.reduceMul, Nat.zero_add, reduceCtorEq, ↓reduceIte, List.length_cons, List.length_nil, List.set_cons_zero, List.set_cons_succ, List.take_zero, List.take_succ_cons, List.drop_zero, List.drop_succ_cons, List.take_nil, List.drop_nil, List.nil_append, List.cons_append, List.append_nil, or_false, false_or, or_true, true_or, false_implies, true_implies, and_true, true_and, and_self, Bool.and_true, Bool.true_and])
    refine ⟨F, h1.mod hm2 (fun b _ h => by cases h), ⟨(hm1.step hm2 (fun b hb _ => by cases hb)).weak (fun _ h => h.elim), fun b hb => .inl hb⟩, fun hh => (by cases hh), fun l hl => ?_⟩
    cases hl
    exact ⟨_, fp2, rfl, by simpa using ho2, fun b hb => by have := hf2 b hb; exact ⟨by omega, fun hF => by have := g7 _ hF; omega⟩⟩
  have hc3 : ¬ n ≤ size - ns.length := by simpa using hc
  (try simp only [go_sem, Nat.reduceAdd, Nat.reduceEqDiff, Nat.reduceLT, Nat.reduceLeDiff, Nat.reduceMul, Nat.zero_add, reduceCtorEq, ↓reduceIte, List.length_cons, List.length_nil, List.set_cons_zero, List.set_cons_succ, List.take_zero, List.take_succ_cons, List.drop_zero, List.drop_succ_cons, List.take_nil, List.drop_nil, List.nil_append, List.cons_append, List.append_nil, or_false, false_or, or_true, true_or, false_implies, true_implies, and_true, true_and, and_self, Bool.and_true, Bool.true_and])
  refine e_call (by rfl) ?_
  refine (rcol_ok a size times ns F w1.drew _ roots h1 hn hw hx1).mono ?_
  rintro r w2 ⟨_, k2⟩
  obtain ⟨v2, fp2, F2, rfl, k3, k4, ⟨k5, k6⟩, k7⟩ := k2 hc2
  have k5 : Mod F w w2 := (hm1.weak (fun _ h => h.elim)).trans k5.of_drew
  have k6 : ∀ b, F2 b → F b ∨ w1.heap.size ≤ b := k6
  have k6 : ∀ b, F2 b → F b ∨ w.heap.size ≤ b := fun b hb => (k6 b hb).imp (fun h => h) (fun h => by omega)
  have k7 : ∀ b, fp2 = some b → w1.heap.size ≤ b ∧ ¬ F2 b := k7
  have k7 : ∀ b, fp2 = some b → w.heap.size ≤ b ∧ ¬ F2 b := fun b hb => ⟨by have := (k7 b hb).1; omega, (k7 b hb).2⟩
  have hcl := col_len hw roots hc2
  obtain ⟨cv2, fpc2, ps2, j1, j2, j3, j4, j5, j6, j7⟩ := id k4
  obtain ⟨ca2, cc2, rfl, _, _⟩ := j3.val
  have hw2 : IntKind.i64.wrap (size - ((colNs ns roots).length : Int)) = size - (colNs ns roots).length := by rw [wrap_in] <;> omega
  (try simp only [go_sem, Nat.reduceAdd, Nat.reduceEqDiff, Nat.reduceLT, Nat.reduceLeDiff, Nat.reduceMul, Nat.zero_add, reduceCtorEq, ↓reduceIte, List.length_cons, List.length_nil, List.set_cons_zero, List.set_cons_succ, List.take_zero, List.take_succ_cons, List.drop_zero, List.drop_succ_cons, List.take_nil, List.drop_nil, List.nil_append, List.cons_append, List.append_nil, or_false, false_or, or_true, true_or, false_implies, true_implies, and_true, true_and, and_self, Bool.and_true, Bool.true_and, cell_of j1, hw2])
  refine ir_cond rfl (fun hc => ?_) (fun hc => ?_)
  · have hc' : n > size - (colNs ns roots).length := by simpa using hc
    have e : roomS size times ns n roots = ⟨none, 201, colNs ns roots, IntKind.i64.wrap (times + 1)⟩ := by unfold roomS; rw [if_neg hc1, if_neg (by simp [hc2]), if_neg hc3, if_pos hc']
    rw [e]
    (try simp only [go_sem, Nat.reduceAdd, Nat.reduceEqDiff, Nat.reduceLT, Nat.reduceLeDiff, Nat.reduceMul, Nat.zero_add, reduceCtorEq, ↓reduceIte, List.length_cons, List.length_nil, List.set_cons_zero, List.set_cons_succ, List.take_zero, List.take_succ_cons, List.drop_zero, List.drop_succ_cons, List.take_nil, List.drop_nil, List.nil_append, List.cons_append, List.append_nil, or_false, false_or, or_true, true_or, false_implies, true_implies, and_true, true_and, and_self, Bool.and_true, Bool.true_and])
    exact ⟨F2, k4, ⟨k5.drew, k6⟩, fun _ => rfl, fun l hl => (by cases hl)⟩
  · have hc' : ¬ n > size - (colNs ns roots).length := by simpa using hc
    have e : roomS size times ns n roots = ⟨some (colRoots ns roots), 0, colNs ns roots, IntKind.i64.wrap (times + 1)⟩ := by unfold roomS; rw [if_neg hc1, if_neg (by simp [hc2]), if_neg hc3, if_neg hc']
    rw [e]
    (try simp only [go_sem, Nat.reduceAdd, Nat.reduceEqDiff, Nat.reduceLT, Nat.reduceLeDiff, Nat.reduceMul, Nat.zero_add, reduceCtorEq, ↓reduceIte, List.length_cons, List.length_nil, List.set_cons_zero, List.set_cons_succ, List.take_zero, List.take_succ_cons, List.drop_zero, List.drop_succ_cons, List.take_nil, List.drop_nil, List.nil_append, List.cons_append, List.append_nil, or_false, false_or, or_true, true_or, false_implies, true_implies, and_true, true_and, and_self, Bool.and_true, Bool.true_and])
    refine ⟨F2, k4, ⟨k5.drew, k6⟩, fun hh => (by cases hh), fun l hl => ?_⟩
    cases hl
    exact ⟨v2, fp2, rfl, k3, k7⟩
end Go.Proofs.Ytnagmcdlepcgnaa
