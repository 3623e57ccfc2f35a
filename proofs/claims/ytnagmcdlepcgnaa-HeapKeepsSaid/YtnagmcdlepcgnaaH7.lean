/- Heap: Room. -/
import Derived.Test.YtnagmcdlepcgnaaH6
set_option linter.unusedSimpArgs false
set_option linter.unusedVariables false
namespace Go.Proofs.Ytnagmcdlepcgnaa
open Go Go.W

structure RoomR where
  out : Option (List Int)
  err : Int
  ns : List Nd
  times : Int
def roomS (size times : Int) (ns : List Nd) (n : Int) (roots : List Int) : RoomR :=
  if n < 0 then ⟨none, 1, ns, times⟩ else if okPl ns.length roots = false then ⟨none, 202, ns, times⟩ else if n ≤ size - ns.length then ⟨some roots, 0, ns, times⟩
  else if n > size - (colNs ns roots).length then ⟨none, 201, colNs ns roots, IntKind.i64.wrap (times + 1)⟩ else ⟨some (colRoots ns roots), 0, colNs ns roots, IntKind.i64.wrap (times + 1)⟩
def RoomPost (Ta Tc : Nat) (a : Nat) (size : Int) (F : Nat → Prop) (w : World) (s : RoomR) (r : Value) (w' : World) : Prop :=
  ∃ F', ArenaAt Ta Tc w' a size s.times s.ns F' ∧ Grow F F' w w' ∧ (s.out = none → r = .tuple #[.slice none 0 0, I s.err]) ∧
    (∀ l, s.out = some l → ∃ v fp, r = .tuple #[v, I s.err] ∧ Own w' 3 1 v (l.map I) l.length fp ∧ ∀ b, fp = some b → w.heap.size ≤ b ∧ ¬ F' b)

theorem col_len {ns : List Nd} (hw : WF ns) (roots : List Int) (ho : okPl ns.length roots = true) : (colNs ns roots).length ≤ ns.length := by
  have key : ∀ f i out, Met ns out → Met ns (reach ns f i out) := by
    intro f
    induction f with
    | zero => intro i out h; exact h
    | succ f ih =>
      intro i out h
      unfold reach
      split
      · rename_i x hx
        exact ih _ _ (met_meets hw _ h (wf_at hw (h.2 x (List.mem_of_getElem? hx)).1).2)
      · exact h
  have := met_len (key (ns.length + 1) 0 _ (met_meets hw roots (met_nil ns) ho))
  simpa [colNs, reached] using this

theorem room_ok (a : Nat) (size times : Int) (ns : List Nd) (F : Nat → Prop) (w : World) (n : Int) (v : Value) (roots : List Int) (h : ArenaAt 63 70 w a size times ns F) (hn : ns.length ≤ 1048576) (hs0 : 0 ≤ size) (hs : size ≤ 1048576) (hw : WF ns) (hx : Ints w v roots) :
    CallsR Try.prog 12 [.pointer (some ⟨a, 0, none⟩), I n, v] w (RoomPost 63 70 a size F w (roomS size times ns n roots)) := by
  have hx0 := hx
  obtain ⟨va, vc, rfl, hxl, _⟩ := hx0
  have same : ∀ w', Mod (fun _ => False) w w' → ∃ F', ArenaAt 63 70 w' a size times ns F' ∧ Grow F F' w w' := fun w' hm =>
    ⟨F, h.mod hm (fun _ _ h => h), hm.weak (fun _ h => h.elim), fun b hb => .inl hb⟩
  refine fit12.calls rfl ?_
  unfold ir12
  (try simp only [go_sem, Nat.reduceAdd, Nat.reduceEqDiff, Nat.reduceLT, Nat.reduceLeDiff, Nat.reduceMul, Nat.zero_add, reduceCtorEq, ↓reduceIte, List.length_cons, List.length_nil, List.set_cons_zero, List.set_cons_succ, List.take_zero, List.take_succ_cons, List.drop_zero, List.drop_succ_cons, List.take_nil, List.drop_nil, List.nil_append, List.cons_append, List.append_nil, or_false, false_or, or_true, true_or, false_implies, true_implies, and_true, true_and, and_self, Bool.and_true, Bool.true_and])
  refine ir_cond rfl (fun hc => ?_) (fun hc => ?_)
  · have hc' : n < 0 := by simpa using hc
    (try simp only [go_sem, Nat.reduceAdd, Nat.reduceEqDiff, Nat.reduceLT, Nat.reduceLeDiff, Nat.reduceMul, Nat.zero_add, reduceCtorEq, ↓reduceIte, List.length_cons, List.length_nil, List.set_cons_zero, List.set_cons_succ, List.take_zero, List.take_succ_cons, List.drop_zero, List.drop_succ_cons, List.take_nil, List.drop_nil, List.nil_append, List.cons_append, List.append_nil, or_false, false_or, or_true, true_or, false_implies, true_implies, and_true, true_and, and_self, Bool.and_true, Bool.true_and])
    have e : roomS size times ns n roots = ⟨none, 1, ns, times⟩ := by unfold roomS; rw [if_pos hc']
    rw [e]
    exact ⟨F, h, ⟨Mod.refl _ _, fun b hb => .inl hb⟩, fun _ => rfl, fun l hl => (by cases hl)⟩
  have hc1 : ¬ n < 0 := by simpa using hc
  (try simp only [go_sem, Nat.reduceAdd, Nat.reduceEqDiff, Nat.reduceLT, Nat.reduceLeDiff, Nat.reduceMul, Nat.zero_add, reduceCtorEq, ↓reduceIte, List.length_cons, List.length_nil, List.set_cons_zero, List.set_cons_succ, List.take_zero, List.take_succ_cons, List.drop_zero, List.drop_succ_cons, List.take_nil, List.drop_nil, List.nil_append, List.cons_append, List.append_nil, or_false, false_or, or_true, true_or, false_implies, true_implies, and_true, true_and, and_self, Bool.and_true, Bool.true_and])
  refine e_call (by rfl) ?_
  refine (places_ok a ns.length _ roots w h.has hx).mono ?_
  rintro r _ ⟨rfl, rfl⟩
  (try simp only [go_sem, Nat.reduceAdd, Nat.reduceEqDiff, Nat.reduceLT, Nat.reduceLeDiff, Nat.reduceMul, Nat.zero_add, reduceCtorEq, ↓reduceIte, List.length_cons, List.length_nil, List.set_cons_zero, List.set_cons_succ, List.take_zero, List.take_succ_cons, List.drop_zero, List.drop_succ_cons, List.take_nil, List.drop_nil, List.nil_append, List.cons_append, List.append_nil, or_false, false_or, or_true, true_or, false_implies, true_implies, and_true, true_and, and_self, Bool.and_true, Bool.true_and])
  refine ir_cond rfl (fun hc => ?_) (fun hc => ?_)
  · have hc' : okPl ns.length roots = false := by simpa using hc
    (try simp only [go_sem, Nat.reduceAdd, Nat.reduceEqDiff, Nat.reduceLT, Nat.reduceLeDiff, Nat.reduceMul, Nat.zero_add, reduceCtorEq, ↓reduceIte, List.length_cons, List.length_nil, List.set_cons_zero, List.set_cons_succ, List.take_zero, List.take_succ_cons, List.drop_zero, List.drop_succ_cons, List.take_nil, List.drop_nil, List.nil_append, List.cons_append, List.append_nil, or_false, false_or, or_true, true_or, false_implies, true_implies, and_true, true_and, and_self, Bool.and_true, Bool.true_and])
    have e : roomS size times ns n roots = ⟨none, 202, ns, times⟩ := by unfold roomS; rw [if_neg hc1, if_pos hc']
    rw [e]
    exact ⟨F, h, ⟨Mod.refl _ _, fun b hb => .inl hb⟩, fun _ => rfl, fun l hl => (by cases hl)⟩
  have hc2 : okPl ns.length roots = true := by simpa using hc
  obtain ⟨cv, fpc, ps, g1, g2, g3, g4, g5, g6, g7⟩ := id h
  obtain ⟨ca, cc, rfl, _, _⟩ := g3.val
  have hw1 : IntKind.i64.wrap (size - (ns.length : Int)) = size - ns.length := by rw [wrap_in] <;> omega
  (try simp only [go_sem, Nat.reduceAdd, Nat.reduceEqDiff, Nat.reduceLT, Nat.reduceLeDiff, Nat.reduceMul, Nat.zero_add, reduceCtorEq, ↓reduceIte, List.length_cons, List.length_nil, List.set_cons_zero, List.set_cons_succ, List.take_zero, List.take_succ_cons, List.drop_zero, List.drop_succ_cons, List.take_nil, List.drop_nil, List.nil_append, List.cons_append, List.append_nil, or_false, false_or, or_true, true_or, false_implies, true_implies, and_true, true_and, and_self, Bool.and_true, Bool.true_and, cell_of g1, hw1])
  refine ir_cond rfl (fun hc => ?_) (fun hc => ?_)
  · have hc' : n ≤ size - ns.length := by simpa using hc
    have e : roomS size times ns n roots = ⟨some roots, 0, ns, times⟩ := by unfold roomS; rw [if_neg hc1, if_neg (by simp [hc2]), if_pos hc']
    rw [e]
    (try simp only [go_sem, Nat.reduceAdd, Nat.reduceEqDiff, Nat.reduceLT, Nat.reduceLeDiff, Nat.reduceMul, Nat.zero_add, reduceCtorEq, ↓reduceIte, List.length_cons, List.length_nil, List.set_cons_zero, List.set_cons_succ, List.take_zero, List.take_succ_cons, List.drop_zero, List.drop_succ_cons, List.take_nil, List.drop_nil, List.nil_append, List.cons_append, List.append_nil, or_false, false_or, or_true, true_or, false_implies, true_implies, and_true, true_and, and_self, Bool.and_true, Bool.true_and])
    refine e_call (by rfl) ?_
    refine (copied_ok _ roots w.drew hx).mono ?_
    rintro r w2 ⟨b2, rfl, hb2, hge, hm2⟩
    have hm2 := hm2.of_drew
    have hge : w.heap.size ≤ b2 := hge
    (try simp only [go_sem, Nat.reduceAdd, Nat.reduceEqDiff, Nat.reduceLT, Nat.reduceLeDiff, Nat.reduceMul, Nat.zero_add, reduceCtorEq, ↓reduceIte, List.length_cons, List.length_nil, List.set_cons_zero, List.set_cons_succ, List.take_zero, List.take_succ_cons, List.drop_zero, List.drop_succ_cons, List.take_nil, List.drop_nil, List.nil_append, List.cons_append, List.append_nil, or_false, false_or, or_true, true_or, false_implies, true_implies, and_true, true_and, and_self, Bool.and_true, Bool.true_and])
    refine ⟨F, h.mod hm2 (fun _ _ h => h), ⟨hm2.weak (fun _ h => h.elim), fun b hb => .inl hb⟩, fun hh => (by cases hh), fun l hl => ?_⟩
    cases hl
    exact ⟨_, some b2, rfl, Own.of_block hb2 (by simp), fun b hb => by cases hb; exact ⟨hge, fun hF => by have := g7 _ hF; omega⟩⟩
  have hc3 : ¬ n ≤ size - ns.length := by simpa using hc
  (try simp only [go_sem, Nat.reduceAdd, Nat.reduceEqDiff, Nat.reduceLT, Nat.reduceLeDiff, Nat.reduceMul, Nat.zero_add, reduceCtorEq, ↓reduceIte, List.length_cons, List.length_nil, List.set_cons_zero, List.set_cons_succ, List.take_zero, List.take_succ_cons, List.drop_zero, List.drop_succ_cons, List.take_nil, List.drop_nil, List.nil_append, List.cons_append, List.append_nil, or_false, false_or, or_true, true_or, false_implies, true_implies, and_true, true_and, and_self, Bool.and_true, Bool.true_and])
  refine e_call (by rfl) ?_
  refine (col_ok a size times ns F w.drew _ roots h hn hw hx).mono ?_
  rintro r w2 ⟨_, k2⟩
  obtain ⟨v2, fp2, F2, rfl, k3, k4, ⟨k5, k6⟩, k7⟩ := k2 hc2
  have k5 : Mod F w w2 := k5.of_drew
  have k6 : ∀ b, F2 b → F b ∨ w.heap.size ≤ b := k6
  have k7 : ∀ b, fp2 = some b → w.heap.size ≤ b ∧ ¬ F2 b := k7
  have hcl := col_len hw roots hc2
  obtain ⟨cv2, fpc2, ps2, j1, j2, j3, j4, j5, j6, j7⟩ := id k4
  obtain ⟨ca2, cc2, rfl, _, _⟩ := j3.val
  have hw2 : IntKind.i64.wrap (size - ((colNs ns roots).length : Int)) = size - (colNs ns roots).length := by rw [wrap_in] <;> omega
  (try simp only [go_sem, Nat.reduceAdd, Nat.reduceEqDiff, Nat.reduceLT, Nat.reduceLeDiff, Nat.reduceMul, Nat.zero_add, reduceCtorEq, ↓reduceIte, List.length_cons, List.length_nil, List.set_cons_zero, List.set_cons_succ, List.take_zero, List.take_succ_cons, List.drop_zero, List.drop_succ_cons, List.take_nil, List.drop_nil, List.nil_append, List.cons_append, List.append_nil, or_false, false_or, or_true, true_or, false_implies, true_implies, and_true, true_and, and_self, Bool.and_true, Bool.true_and, cell_of j1, hw2])
  refine ir_cond rfl (fun hc => ?_) (fun hc => ?_)
  · have hc' : n > size - (colNs ns roots).length := by simpa using hc
    have e : roomS size times ns n roots = ⟨none, 201, colNs ns roots, IntKind.i64.wrap (times + 1)⟩ := by unfold roomS; rw [if_neg hc1, if_neg (by simp [hc2]), if_neg hc3, if_pos hc']
    rw [e]
    (try simp only [go_sem, Nat.reduceAdd, Nat.reduceEqDiff, Nat.reduceLT, Nat.reduceLeDiff, Nat.reduceMul, Nat.zero_add, reduceCtorEq, ↓reduceIte, List.length_cons, List.length_nil, List.set_cons_zero, List.set_cons_succ, List.take_zero, List.take_succ_cons, List.drop_zero, List.drop_succ_cons, List.take_nil, List.drop_nil, List.nil_append, List.cons_append, List.append_nil, or_false, false_or, or_true, true_or, false_implies, true_implies, and_true, true_and, and_self, Bool.and_true, Bool.true_and])
    exact ⟨F2, k4, ⟨k5.drew, k6⟩, fun _ => rfl, fun l hl => (by cases hl)⟩
  · have hc' : ¬ n > size - (colNs ns roots).length := by simpa using hc
    have e : roomS size times ns n roots = ⟨some (colRoots ns roots), 0, colNs ns roots, IntKind.i64.wrap (times + 1)⟩ := by unfold roomS; rw [if_neg hc1, if_neg (by simp [hc2]), if_neg hc3, if_neg hc']
    rw [e]
    (try simp only [go_sem, Nat.reduceAdd, Nat.reduceEqDiff, Nat.reduceLT, Nat.reduceLeDiff, Nat.reduceMul, Nat.zero_add, reduceCtorEq, ↓reduceIte, List.length_cons, List.length_nil, List.set_cons_zero, List.set_cons_succ, List.take_zero, List.take_succ_cons, List.drop_zero, List.drop_succ_cons, List.take_nil, List.drop_nil, List.nil_append, List.cons_append, List.append_nil, or_false, false_or, or_true, true_or, false_implies, true_implies, and_true, true_and, and_self, Bool.and_true, Bool.true_and])
    refine ⟨F2, k4, ⟨k5.drew, k6⟩, fun hh => (by cases hh), fun l hl => ?_⟩
    cases hl
    exact ⟨v2, fp2, rfl, k3, k7⟩
end Go.Proofs.Ytnagmcdlepcgnaa
