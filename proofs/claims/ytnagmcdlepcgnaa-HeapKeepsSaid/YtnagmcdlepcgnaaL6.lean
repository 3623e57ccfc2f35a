/- Heap, the laws: Book.room walked. -/
import Derived.Test.YtnagmcdlepcgnaaL5
set_option linter.unusedSimpArgs false
set_option linter.unusedVariables false
namespace Go.Proofs.Ytnagmcdlepcgnaa
open Go Go.W

theorem broom_ok (w : World) (b a r : Nat) (es : List BE) (size times : Int) (ns : List Nd) (B F G : Nat → Prop) (h : Both w b a r es size times ns B F G) (wh dd n kd nu : Int) (av orv rv : Value) (roots : List Int)
    (hx : Ints w rv roots) (hy : Ints w orv roots) (hyF : roots ≠ [] → ∀ x, vblk orv = some x → ¬ F x) (h1 : One av) (h2 : One orv) (hrl : roots.length + 2 ≤ 17592186044416) (he : es.length + 1 ≤ 4398046511104) :
    CallsR Try.prog 30 [.pointer (some ⟨b, 0, none⟩), .pointer (some ⟨a, 0, none⟩), .pointer (some ⟨r, 0, none⟩), .agg #[I wh, I dd, I n, I kd, I nu, av, orv], rv] w fun q w' => q = .bool true ∧ ∃ e times' ns', BothPost w b a r es size times' ns' B F G (es ++ [e]) w' := by
  have hfl := h.fine.len
  have hs0 : 0 ≤ size := by have := h.fine.2.2.1; omega
  have hs := h.fine.2.2.2
  refine fit30.calls rfl ?_
  unfold ir30
  (try simp only [go_sem, Nat.reduceAdd, Nat.reduceEqDiff, Nat.reduceLT, Nat.reduceLeDiff, Nat.reduceMul, Nat.zero_add, reduceCtorEq, ↓reduceIte, List.length_cons, List.length_nil, List.set_cons_zero, List.set_cons_succ, List.take_zero, List.take_succ_cons, List.drop_zero, List.drop_succ_cons, List.take_nil, List.drop_nil, List.nil_append, List.cons_append, List.append_nil, or_false, false_or, or_true, true_or, false_implies, true_implies, and_true, true_and, and_self, Bool.and_true, Bool.true_and])
  refine e_bx rfl ?_
  intro w1 hb1 hm1 hs1
  have g1 := h.mod hm1 (fun _ _ h => h) (fun _ _ h => h) (fun _ _ h => h)
  have hx1 := hx.mod hm1 (fun _ _ h => h)
  have hy1 := hy.mod hm1 (fun _ _ h => h)
  have hb1 : w1.heap[w.heap.size]? = some (.cells #[I wh, I dd, I n, I kd, I nu, av, orv] 52 (0, 0)) := hb1
  have l1 := lt_of_heap hb1
  obtain ⟨sB, sF, sG⟩ := h.size
  have hbF : ∀ x, F x → ¬ x = w.heap.size := fun x hx hh => by have := sF x hx; omega
  (try simp only [go_sem, Nat.reduceAdd, Nat.reduceEqDiff, Nat.reduceLT, Nat.reduceLeDiff, Nat.reduceMul, Nat.zero_add, reduceCtorEq, ↓reduceIte, List.length_cons, List.length_nil, List.set_cons_zero, List.set_cons_succ, List.take_zero, List.take_succ_cons, List.drop_zero, List.drop_succ_cons, List.take_nil, List.drop_nil, List.nil_append, List.cons_append, List.append_nil, or_false, false_or, or_true, true_or, false_implies, true_implies, and_true, true_and, and_self, Bool.and_true, Bool.true_and, cell_of hb1])
  refine ir_then (fun ρ w2 => ∃ (s : RoomR) (v1 v2 : Value) (f1 f2 : Option Nat) (F' G' : Nat → Prop), Both w2 b a r es size s.times s.ns B F' G' ∧ Mod (fun x => F x ∨ G x) w w2 ∧ (∀ x, F' x → F x ∨ w.heap.size ≤ x) ∧ (∀ x, G' x → G x ∨ w.heap.size ≤ x) ∧
      s.list.length ≤ roots.length ∧ Own w2 3 1 v1 (s.list.map I) s.list.length f1 ∧ Own w2 3 1 v2 (s.list.map I) s.list.length f2 ∧ (∀ x, f1 = some x → w.heap.size ≤ x ∧ ¬ F' x ∧ ¬ G' x) ∧
      ρ.get 0 = some (.pointer (some ⟨b, 0, none⟩)) ∧ ρ.get 11 = some v1 ∧ ρ.get 12 = some v2 ∧ ρ.get 13 = some (I s.err) ∧ ρ.get 14 = some (I s.err)) ?_ ?_
  · have both : ∀ (s : RoomR) (hf : Fine size s.ns) (hl : s.list.length ≤ roots.length) (w2 w3 : World) (v1 : Value) (f1 : Option Nat) (F' : Nat → Prop) (q : Value) (k2 : Own w2 3 1 v1 (s.list.map I) s.list.length f1) (k3 : ∀ b, f1 = some b → w1.heap.size ≤ b ∧ ¬ F' b)
        (k4 : ArenaAt 63 70 w2 a size s.times s.ns F') (k5 : Grow F F' w1 w2) (k6 : RoomPost 77 35 r size G w2 s q w3), ∃ v2, q = .tuple #[v2, I s.err] ∧ ∃ (f2 : Option Nat) (G' : Nat → Prop), Both w3 b a r es size s.times s.ns B F' G' ∧ Mod (fun x => F x ∨ G x) w w3 ∧ (∀ x, F' x → F x ∨ w.heap.size ≤ x) ∧ (∀ x, G' x → G x ∨ w.heap.size ≤ x) ∧
          s.list.length ≤ roots.length ∧ Own w3 3 1 v1 (s.list.map I) s.list.length f1 ∧ Own w3 3 1 v2 (s.list.map I) s.list.length f2 ∧ (∀ x, f1 = some x → w.heap.size ≤ x ∧ ¬ F' x ∧ ¬ G' x) := by
      intro s hf hl w2 w3 v1 f1 F' q k2 k3 k4 k5 k6
      obtain ⟨G', v2, f2, rfl, j2, j3, j4, j5⟩ := room_list k6
      obtain ⟨m1, m2⟩ := both_arenas g1 k4 k5 j4 j5 hf
      have s12 := k5.1.size; have s23 := j5.1.size
      have hG : ∀ x, f1 = some x → ¬ G x := fun x hx hg => by have := (k3 x hx).1; have := sG x hg; omega
      refine ⟨v2, rfl, f2, G', m1, (hm1.weak (fun _ h => h.elim)).trans m2, fun x hx => (k5.2 x hx).imp (fun h => h) (fun h => by omega), fun x hx => (j5.2 x hx).imp (fun h => h) (fun h => by omega), hl, k2.mod j5.1 (fun x hx hg => hG x hx hg), j2, fun x hx => ⟨by have := (k3 x hx).1; omega, (k3 x hx).2, fun hg => ?_⟩⟩
      rcases j5.2 x hg with h | h
      · exact hG x hx h
      · have := k2.lt hx; omega
    refine ir_cond rfl (fun hc => ?_) (fun hc => ?_)
    · (try simp only [go_sem, Nat.reduceAdd, Nat.reduceEqDiff, Nat.reduceLT, Nat.reduceLeDiff, Nat.reduceMul, Nat.zero_add, reduceCtorEq, ↓reduceIte, List.length_cons, List.length_nil, List.set_cons_zero, List.set_cons_succ, List.take_zero, List.take_succ_cons, List.drop_zero, List.drop_succ_cons, List.take_nil, List.drop_nil, List.nil_append, List.cons_append, List.append_nil, or_false, false_or, or_true, true_or, false_implies, true_implies, and_true, true_and, and_self, Bool.and_true, Bool.true_and, cell_of hb1])
      refine e_call (by rfl) ?_
      refine (room_ok a size times ns F w1 n rv roots g1.one hfl hs0 hs h.fine.1 hx1).mono ?_
      rintro q w2 k1
      obtain ⟨F', v1, f1, rfl, k2, k3, k4, k5⟩ := room_list k1
      have hb2 := k5.1.at hb1 (fun hh => hbF _ hh rfl)
      (try simp only [go_sem, Nat.reduceAdd, Nat.reduceEqDiff, Nat.reduceLT, Nat.reduceLeDiff, Nat.reduceMul, Nat.zero_add, reduceCtorEq, ↓reduceIte, List.length_cons, List.length_nil, List.set_cons_zero, List.set_cons_succ, List.take_zero, List.take_succ_cons, List.drop_zero, List.drop_succ_cons, List.take_nil, List.drop_nil, List.nil_append, List.cons_append, List.append_nil, or_false, false_or, or_true, true_or, false_implies, true_implies, and_true, true_and, and_self, Bool.and_true, Bool.true_and, cell_of hb2])
      refine e_call (by rfl) ?_
      refine (rroom_ok r size times ns G w2 n orv roots (g1.two.mod k5.1 (fun x hx hf => h.fg x hf hx)) hfl hs0 hs h.fine.1 (ints_modn hy1 k5.1 hyF)).mono ?_
      rintro q w3 k6
      obtain ⟨v2, rfl, f2, G', rest⟩ := both _ (fine_room h.fine n roots) (roomS_len size times ns n roots) w2 w3 v1 f1 F' q k2 k3 k4 k5 k6
      (try simp only [go_sem, Nat.reduceAdd, Nat.reduceEqDiff, Nat.reduceLT, Nat.reduceLeDiff, Nat.reduceMul, Nat.zero_add, reduceCtorEq, ↓reduceIte, List.length_cons, List.length_nil, List.set_cons_zero, List.set_cons_succ, List.take_zero, List.take_succ_cons, List.drop_zero, List.drop_succ_cons, List.take_nil, List.drop_nil, List.nil_append, List.cons_append, List.append_nil, or_false, false_or, or_true, true_or, false_implies, true_implies, and_true, true_and, and_self, Bool.and_true, Bool.true_and])
      obtain ⟨e1, e2, e3, e4, e5, e6, e7, e8⟩ := rest
      exact ⟨roomS size times ns n roots, v1, v2, f1, f2, F', G', e1, e2, e3, e4, e5, e6, e7, e8, rfl, rfl, rfl⟩
    · (try simp only [go_sem, Nat.reduceAdd, Nat.reduceEqDiff, Nat.reduceLT, Nat.reduceLeDiff, Nat.reduceMul, Nat.zero_add, reduceCtorEq, ↓reduceIte, List.length_cons, List.length_nil, List.set_cons_zero, List.set_cons_succ, List.take_zero, List.take_succ_cons, List.drop_zero, List.drop_succ_cons, List.take_nil, List.drop_nil, List.nil_append, List.cons_append, List.append_nil, or_false, false_or, or_true, true_or, false_implies, true_implies, and_true, true_and, and_self, Bool.and_true, Bool.true_and, cell_of hb1])
      refine e_call (by rfl) ?_
      refine (col_ok a size times ns F w1 rv roots g1.one hfl h.fine.1 hx1).mono ?_
      rintro q w2 k1
      obtain ⟨F', v1, f1, rfl, k2, k3, k4, k5⟩ := room_list (col_room g1.one k1)
      have hb2 := k5.1.at hb1 (fun hh => hbF _ hh rfl)
      (try simp only [go_sem, Nat.reduceAdd, Nat.reduceEqDiff, Nat.reduceLT, Nat.reduceLeDiff, Nat.reduceMul, Nat.zero_add, reduceCtorEq, ↓reduceIte, List.length_cons, List.length_nil, List.set_cons_zero, List.set_cons_succ, List.take_zero, List.take_succ_cons, List.drop_zero, List.drop_succ_cons, List.take_nil, List.drop_nil, List.nil_append, List.cons_append, List.append_nil, or_false, false_or, or_true, true_or, false_implies, true_implies, and_true, true_and, and_self, Bool.and_true, Bool.true_and, cell_of hb2])
      refine e_call (by rfl) ?_
      have g2 := g1.two.mod k5.1 (fun x hx hf => h.fg x hf hx)
      refine (rcol_ok r size times ns G w2 orv roots g2 hfl h.fine.1 (ints_modn hy1 k5.1 hyF)).mono ?_
      rintro q w3 k6
      obtain ⟨v2, rfl, f2, G', rest⟩ := both _ (fine_colS h.fine roots) (colS_len times ns roots) w2 w3 v1 f1 F' q k2 k3 k4 k5 (col_room g2 k6)
      (try simp only [go_sem, Nat.reduceAdd, Nat.reduceEqDiff, Nat.reduceLT, Nat.reduceLeDiff, Nat.reduceMul, Nat.zero_add, reduceCtorEq, ↓reduceIte, List.length_cons, List.length_nil, List.set_cons_zero, List.set_cons_succ, List.take_zero, List.take_succ_cons, List.drop_zero, List.drop_succ_cons, List.take_nil, List.drop_nil, List.nil_append, List.cons_append, List.append_nil, or_false, false_or, or_true, true_or, false_implies, true_implies, and_true, true_and, and_self, Bool.and_true, Bool.true_and])
      obtain ⟨e1, e2, e3, e4, e5, e6, e7, e8⟩ := rest
      exact ⟨colS times ns roots, v1, v2, f1, f2, F', G', e1, e2, e3, e4, e5, e6, e7, e8, rfl, rfl, rfl⟩
  · rintro ρ w2 ⟨s, v1, v2, f1, f2, F', G', e1, e2, e3, e4, e5, e6, e7, e8, q0, q11, q12, q13, q14⟩
    (try simp only [go_sem, Nat.reduceAdd, Nat.reduceEqDiff, Nat.reduceLT, Nat.reduceLeDiff, Nat.reduceMul, Nat.zero_add, reduceCtorEq, ↓reduceIte, List.length_cons, List.length_nil, List.set_cons_zero, List.set_cons_succ, List.take_zero, List.take_succ_cons, List.drop_zero, List.drop_succ_cons, List.take_nil, List.drop_nil, List.nil_append, List.cons_append, List.append_nil, or_false, false_or, or_true, true_or, false_implies, true_implies, and_true, true_and, and_self, Bool.and_true, Bool.true_and, q0, q11, q12, q13, q14])
    have hl := e5
    obtain ⟨hi1, _⟩ := e6.ints (by omega)
    obtain ⟨hi2, _⟩ := e7.ints (by omega)
    refine e_call (by rfl) ?_
    refine (sameInts_ok v1 v2 s.list s.list w2 hi1 hi2).mono ?_
    rintro q w3 ⟨rfl, hm3⟩
    have t1 := e1.mod hm3 (fun _ _ h => h) (fun _ _ h => h) (fun _ _ h => h)
    have o3 := e6.mod hm3 (fun _ _ h => h)
    refine e_call (by rfl) ?_
    refine (both_keep t1 o3 (fun x hx hb => by have := (e8 x hx).1; have := sB x hb; omega) (fun x hx => (e8 x hx).2.1) (fun x hx => (e8 x hx).2.2) (by omega) he).mono ?_
    rintro q w4 ⟨e, B', t2, t3, t4⟩
    have hd : (decide (s.list = s.list)) = true := by simp
    have hd2 : (s.err == s.err) = true := by simp
    (try simp only [go_sem, Nat.reduceAdd, Nat.reduceEqDiff, Nat.reduceLT, Nat.reduceLeDiff, Nat.reduceMul, Nat.zero_add, reduceCtorEq, ↓reduceIte, List.length_cons, List.length_nil, List.set_cons_zero, List.set_cons_succ, List.take_zero, List.take_succ_cons, List.drop_zero, List.drop_succ_cons, List.take_nil, List.drop_nil, List.nil_append, List.cons_append, List.append_nil, or_false, false_or, or_true, true_or, false_implies, true_implies, and_true, true_and, and_self, Bool.and_true, Bool.true_and, hd, hd2, decide_true])
    have s02 := e2.size; have s23 := hm3.size
    refine ⟨e, s.times, s.ns, B', F', G', t2, ?_, fun x hx => ?_, e3, e4⟩
    · refine (((e2.weak (fun x hx => .inr hx)).step hm3 (fun _ h _ => h.elim)).step t3 (fun x hx hlt => ?_))
      rcases hx with h | h
      · exact .inl h
      · have := (e8 x h).1; omega
    · rcases t4 x hx with h | h | h
      · exact .inl h
      · exact .inr (e8 x h).1
      · exact .inr (by omega)
end Go.Proofs.Ytnagmcdlepcgnaa
