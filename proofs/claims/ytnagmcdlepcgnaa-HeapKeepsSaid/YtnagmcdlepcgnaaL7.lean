/- Heap, the laws: writing over what was lent. -/
import Derived.Test.YtnagmcdlepcgnaaL6
set_option linter.unusedSimpArgs false
set_option linter.unusedVariables false
namespace Go.Proofs.Ytnagmcdlepcgnaa
open Go Go.W

/-- One place more is written over. -/
theorem over_next (c : List Value) (k : Nat) (u : Value) (hk : k < c.length) : (List.replicate k u ++ c.drop k).set k u = List.replicate (k + 1) u ++ c.drop (k + 1) := by
  rw [List.set_append, if_neg (by simp), List.length_replicate, Nat.sub_self, List.drop_eq_getElem_cons hk, List.set_cons_zero, List.replicate_succ']
  simp

theorem ir_bthen {P : Program} {N id : Nat} {a : IR} {next : Env → World → Prop} {Q : Post} {ρ : Env} {w : World} (Mid : Env → World → Prop) (h : irwp P N a (blkQ id (thenQ Mid Q)) ρ w) (hk : ∀ ρ w, Mid ρ w → next ρ w) : irwp P N a (blkQ id (thenQ next Q)) ρ w :=
  irwp_mono a _ _ (blkQ_le (thenQ_le hk (fun _ _ _ h => h))) ρ w h

/-- What a call of a script leaves behind. -/
def OnePost (w : World) (b a r : Nat) (es : List BE) (size : Int) (B F G : Nat → Prop) (q : Value) (w' : World) : Prop :=
  q = .bool true ∧ ∃ es' times' ns', BothPost w b a r es size times' ns' B F G es' w' ∧ es'.length ≤ es.length + 1

def getS (ns : List Nd) (at' : Int) : Nd × Int := if 0 ≤ at' ∧ at' < ns.length then (ns.getD at'.toNat { kind := 0, num := 0, args := [] }, 0) else ({ kind := 0, num := 0, args := [] }, 202)
theorem get_list {w w' : World} {ns : List Nd} {at' : Int} {r : Value} (h : GetPost w ns at' r w') : Mod (fun _ => False) w w' ∧ ∃ v fp, r = .tuple #[.agg #[I (getS ns at').1.kind, I (getS ns at').1.num, v], I (getS ns at').2] ∧
    Own w' 3 1 v ((getS ns at').1.args.map I) (getS ns at').1.args.length fp ∧ ∀ b, fp = some b → w.heap.size ≤ b := by
  obtain ⟨h1, h2, h3⟩ := h
  refine ⟨h1, ?_⟩
  by_cases hc : 0 ≤ at' ∧ at' < ns.length
  · have e : getS ns at' = (ns.getD at'.toNat { kind := 0, num := 0, args := [] }, 0) := if_pos hc
    obtain ⟨v, rfl, fp, k1, k2⟩ := h2 at'.toNat (ns[at'.toNat]'(by omega)) (by omega) (List.getElem?_eq_getElem _)
    have e2 : (getS ns at').1 = ns[at'.toNat]'(by omega) := by
      rw [e, List.getD_eq_getElem?_getD, List.getElem?_eq_getElem (by omega)]; rfl
    have e3 : (getS ns at').2 = 0 := by rw [e]
    rw [e2, e3]
    exact ⟨v, fp, rfl, k1, k2⟩
  · have e : getS ns at' = ({ kind := 0, num := 0, args := [] }, 202) := if_neg hc
    rw [e, h3 hc]
    exact ⟨_, none, rfl, Own.nil _ _ _, fun b hb => by cases hb⟩
theorem getS_len {ns : List Nd} (hargs : ∀ nd ∈ ns, nd.args.length ≤ 8) (at' : Int) : (getS ns at').1.args.length ≤ 8 := by
  unfold getS
  split
  · rename_i h
    rw [List.getD_eq_getElem?_getD, List.getElem?_eq_getElem (by omega)]
    exact hargs _ (List.getElem_mem _)
  · simp

theorem bone_ok (w : World) (b a r : Nat) (es : List BE) (size times : Int) (ns : List Nd) (B F G : Nat → Prop) (h : Both w b a r es size times ns B F G) (wh dd n : Int) (nd : Nd) (av orv : Value) (roots : List Int)
    (hx : Ints w av nd.args) (hy : Ints w orv roots) (hxB : nd.args ≠ [] → ∀ x, vblk av = some x → ¬ (B x ∨ F x ∨ G x)) (hyB : roots ≠ [] → ∀ x, vblk orv = some x → ¬ (B x ∨ F x ∨ G x)) (hal : nd.args.length + 2 ≤ 17592186044416) (hrl : roots.length + 2 ≤ 17592186044416) (he : es.length + 1 ≤ 4398046511104) :
    CallsR Try.prog 15 [.pointer (some ⟨b, 0, none⟩), .pointer (some ⟨a, 0, none⟩), .pointer (some ⟨r, 0, none⟩), .agg #[I wh, I dd, I n, I nd.kind, I nd.num, av, orv]] w (OnePost w b a r es size B F G) := by
  have hx0 := hx
  have hy0 := hy
  obtain ⟨xa, xc, rfl, _, _⟩ := hx0
  obtain ⟨ya, yc, rfl, _, _⟩ := hy0
  refine fit15.calls rfl ?_
  unfold ir15
  (try simp only [go_sem, Nat.reduceAdd, Nat.reduceEqDiff, Nat.reduceLT, Nat.reduceLeDiff, Nat.reduceMul, Nat.zero_add, reduceCtorEq, ↓reduceIte, List.length_cons, List.length_nil, List.set_cons_zero, List.set_cons_succ, List.take_zero, List.take_succ_cons, List.drop_zero, List.drop_succ_cons, List.take_nil, List.drop_nil, List.nil_append, List.cons_append, List.append_nil, or_false, false_or, or_true, true_or, false_implies, true_implies, and_true, true_and, and_self, Bool.and_true, Bool.true_and])
  refine e_bx rfl ?_
  intro w1 hb1 hm1 hs1
  have hb1 : w1.heap[w.heap.size]? = some (.cells #[I wh, I dd, I n, I nd.kind, I nd.num, .slice xa nd.args.length xc, .slice ya roots.length yc] 52 (0, 0)) := hb1
  have l1 := lt_of_heap hb1
  (try simp only [go_sem, Nat.reduceAdd, Nat.reduceEqDiff, Nat.reduceLT, Nat.reduceLeDiff, Nat.reduceMul, Nat.zero_add, reduceCtorEq, ↓reduceIte, List.length_cons, List.length_nil, List.set_cons_zero, List.set_cons_succ, List.take_zero, List.take_succ_cons, List.drop_zero, List.drop_succ_cons, List.take_nil, List.drop_nil, List.nil_append, List.cons_append, List.append_nil, or_false, false_or, or_true, true_or, false_implies, true_implies, and_true, true_and, and_self, Bool.and_true, Bool.true_and, cell_of hb1])
  refine e_call (by rfl) ?_
  refine (lent_ok _ nd.args w1 (hx.mod hm1 (fun _ _ h => h))).mono ?_
  rintro q w2 ⟨ba, rfl, ha2, hga, hm2⟩
  have hm12 := hm1.trans hm2
  have hb2 := hm2.at hb1 (fun h => h)
  have lla := lentL_len nd.args
  have z1 : (0 : Int) ≤ 0 ∧ (0 : Int) ≤ (nd.args.length : Nat) := by omega
  have z2 : (0 : Int) ≤ (nd.args.length : Nat) ∧ ((nd.args.length : Nat) : Int) ≤ ((lentL nd.args).length : Nat) := by omega
  (try simp only [go_sem, Nat.reduceAdd, Nat.reduceEqDiff, Nat.reduceLT, Nat.reduceLeDiff, Nat.reduceMul, Nat.zero_add, reduceCtorEq, ↓reduceIte, List.length_cons, List.length_nil, List.set_cons_zero, List.set_cons_succ, List.take_zero, List.take_succ_cons, List.drop_zero, List.drop_succ_cons, List.take_nil, List.drop_nil, List.nil_append, List.cons_append, List.append_nil, or_false, false_or, or_true, true_or, false_implies, true_implies, and_true, true_and, and_self, Bool.and_true, Bool.true_and, Nat.mul_one, Int.toNat_natCast, Int.toNat_zero, Nat.sub_zero, Nat.sub_self, cell_of hb2, z1, z2, ite_self])
  refine e_al ?_
  intro w3 hb3 hm3 hs3
  have hm3 : Mod (fun _ => False) w2 w3 := hm3.of_drew
  have l2 := lt_of_heap hb2
  have hb3 : w3.heap[w2.heap.size]? = some (.cells #[I 0, I 0, .slice none 0 0] 35 (0, 0)) := hb3
  (try simp only [go_sem, Nat.reduceAdd, Nat.reduceEqDiff, Nat.reduceLT, Nat.reduceLeDiff, Nat.reduceMul, Nat.zero_add, reduceCtorEq, ↓reduceIte, List.length_cons, List.length_nil, List.set_cons_zero, List.set_cons_succ, List.take_zero, List.take_succ_cons, List.drop_zero, List.drop_succ_cons, List.take_nil, List.drop_nil, List.nil_append, List.cons_append, List.append_nil, or_false, false_or, or_true, true_or, false_implies, true_implies, and_true, true_and, and_self, Bool.and_true, Bool.true_and])
  refine ⟨hm3.old _ l2 (fun h => h), ?_⟩
  refine e_sta rfl rfl hb3 rfl rfl (by simp [Value.oneCell']) ?_
  intro w4 hb4 hm4 hs4
  have hm24 : Mod (fun _ => False) w2 w4 := hm3.step hm4 (fun x hx hlt => by omega)
  have hm14 := hm12.trans hm24
  have hb14 := hm24.at hb2 (fun h => h)
  have ha4 := hm24.at ha2 (fun h => h)
  (try simp only [go_sem, Nat.reduceAdd, Nat.reduceEqDiff, Nat.reduceLT, Nat.reduceLeDiff, Nat.reduceMul, Nat.zero_add, reduceCtorEq, ↓reduceIte, List.length_cons, List.length_nil, List.set_cons_zero, List.set_cons_succ, List.take_zero, List.take_succ_cons, List.drop_zero, List.drop_succ_cons, List.take_nil, List.drop_nil, List.nil_append, List.cons_append, List.append_nil, or_false, false_or, or_true, true_or, false_implies, true_implies, and_true, true_and, and_self, Bool.and_true, Bool.true_and, cell_of hb14])
  refine e_call (by rfl) ?_
  refine (lent_ok _ roots w4 (hy.mod hm14 (fun _ _ h => h))).mono ?_
  rintro q w5 ⟨br, rfl, hr5, hgr, hm5⟩
  have hb15 := hm5.at hb14 (fun h => h)
  have hb45 := hm5.at hb4 (fun h => h)
  have ha5 := hm5.at ha4 (fun h => h)
  have llr := lentL_len roots
  have z3 : (0 : Int) ≤ 0 ∧ (0 : Int) ≤ (roots.length : Nat) := by omega
  have z4 : (0 : Int) ≤ (roots.length : Nat) ∧ ((roots.length : Nat) : Int) ≤ ((lentL roots).length : Nat) := by omega
  (try simp only [go_sem, Nat.reduceAdd, Nat.reduceEqDiff, Nat.reduceLT, Nat.reduceLeDiff, Nat.reduceMul, Nat.zero_add, reduceCtorEq, ↓reduceIte, List.length_cons, List.length_nil, List.set_cons_zero, List.set_cons_succ, List.take_zero, List.take_succ_cons, List.drop_zero, List.drop_succ_cons, List.take_nil, List.drop_nil, List.nil_append, List.cons_append, List.append_nil, or_false, false_or, or_true, true_or, false_implies, true_implies, and_true, true_and, and_self, Bool.and_true, Bool.true_and, Nat.mul_one, Int.toNat_natCast, Int.toNat_zero, Nat.sub_zero, Nat.sub_self, cell_of hb15, z3, z4, ite_self])
  have hm05 : Mod (fun _ => False) w w5 := hm14.trans hm5
  have g5 := h.mod hm05 (fun _ _ h => h) (fun _ _ h => h) (fun _ _ h => h)
  refine ir_bthen (fun ρ w6 => ∃ es' times' ns', BothPost w5 b a r es size times' ns' B F G es' w6 ∧ es'.length ≤ es.length + 1 ∧
    ρ.get 7 = some (.pointer (some ⟨w.heap.size, 0, none⟩)) ∧ ρ.get 9 = some (.slice (some ⟨ba, 0, none⟩) (lentL nd.args).length (lentL nd.args).length) ∧ ρ.get 11 = some (.slice (some ⟨br, 0, none⟩) (lentL roots).length (lentL roots).length) ∧ ρ.get 13 = some (.bool true)) ?_ ?_
  · have hfl := h.fine.len
    have hxF : nd.args ≠ [] → ∀ x, vblk (Value.slice xa nd.args.length xc) = some x → ¬ F x := fun hne x hv hf => hxB hne x hv (.inr (.inl hf))
    have hd4 : w5.heap[w2.heap.size]? = some (.cells #[I nd.kind, I nd.num, .slice (some ⟨ba, 0, none⟩) nd.args.length (lentL nd.args).length] 35 (0, 0)) := hb45
    have hx5 : Ints w5 (.slice (some ⟨ba, 0, none⟩) nd.args.length (lentL nd.args).length) nd.args := by
      refine ⟨_, _, rfl, by omega, fun i hi => ⟨_, rfl, ?_⟩⟩
      rw [add_at, cell_of ha5, Nat.zero_add, List.getElem?_toArray, lentL, List.map_append, List.getElem?_append_left (by simpa using hi)]
      simp [hi]
    have hy5 : Ints w5 (.slice (some ⟨br, 0, none⟩) roots.length (lentL roots).length) roots := by
      refine ⟨_, _, rfl, by omega, fun i hi => ⟨_, rfl, ?_⟩⟩
      rw [add_at, cell_of hr5, Nat.zero_add, List.getElem?_toArray, lentL, List.map_append, List.getElem?_append_left (by simpa using hi)]
      simp [hi]
    have hle := h.fine.2.1
    have hsz := h.fine.2.2.2
    have hs0 : 0 ≤ size := by have := h.fine.2.2.1; omega
    have hargs := fine_args h.fine
    obtain ⟨sB, sF, sG⟩ := h.size
    have l5 := lt_of_heap hb15
    have hxF' : ∀ x, F x → ¬ x = w.heap.size := fun x hx hh => by have := sF x hx; omega
    have hop : ∀ {w' : World}, Mod F w5 w' → w'.heap[w.heap.size]? = some (.cells #[I wh, I dd, I n, I nd.kind, I nd.num, .slice xa nd.args.length xc, .slice ya roots.length yc] 52 (0, 0)) := fun hm => hm.at hb15 (fun hh => hxF' _ hh rfl)
    have hln : ∀ {w' : World}, Mod F w5 w' → vLN w' 3 (.pointer (some ⟨w.heap.size, 3, none⟩)) = some (.agg #[I nd.kind, I nd.num, .slice xa nd.args.length xc]) := fun hm => ln_of (hop hm) (off := 3) (n := 3) (by simp)
    have hln4 : vLN w5 3 (.pointer (some ⟨w2.heap.size, 0, none⟩)) = some (.agg #[I nd.kind, I nd.num, .slice (some ⟨ba, 0, none⟩) nd.args.length (lentL nd.args).length]) := ln_of hd4 (off := 0) (n := 3) (by simp)
    have fin : ∀ {w6 w7 : World} {times' : Int} {ns' : List Nd} {F' G' : Nat → Prop}, ArenaAt 63 70 w6 a size times' ns' F' → Grow F F' w5 w6 → ArenaAt 77 35 w7 r size times' ns' G' → Grow G G' w6 w7 → Fine size ns' → BothPost w5 b a r es size times' ns' B F G es w7 := by
      intro w6 w7 times' ns' F' G' k1 k2 k3 k4 k5
      obtain ⟨m1, m2⟩ := both_arenas g5 k1 k2 k3 k4 k5
      have := k2.1.size
      exact ⟨B, F', G', m1, m2.weak (fun x hx => .inr hx), fun x hx => .inl hx, k2.2, fun x hx => (k4.2 x hx).imp (fun h => h) (fun h => by omega)⟩
    refine ir_cond rfl (fun hc => ?_) (fun hc => ?_)
    · (try simp only [go_sem, Nat.reduceAdd, Nat.reduceEqDiff, Nat.reduceLT, Nat.reduceLeDiff, Nat.reduceMul, Nat.zero_add, reduceCtorEq, ↓reduceIte, List.length_cons, List.length_nil, List.set_cons_zero, List.set_cons_succ, List.take_zero, List.take_succ_cons, List.drop_zero, List.drop_succ_cons, List.take_nil, List.drop_nil, List.nil_append, List.cons_append, List.append_nil, or_false, false_or, or_true, true_or, false_implies, true_implies, and_true, true_and, and_self, Bool.and_true, Bool.true_and, hln4])
      refine e_call (by rfl) ?_
      refine (add_ok a size times ns nd _ F w5 g5.one hle hsz hx5).mono ?_
      rintro q w6 ⟨rfl, F', k1, k2⟩
      (try simp only [go_sem, Nat.reduceAdd, Nat.reduceEqDiff, Nat.reduceLT, Nat.reduceLeDiff, Nat.reduceMul, Nat.zero_add, reduceCtorEq, ↓reduceIte, List.length_cons, List.length_nil, List.set_cons_zero, List.set_cons_succ, List.take_zero, List.take_succ_cons, List.drop_zero, List.drop_succ_cons, List.take_nil, List.drop_nil, List.nil_append, List.cons_append, List.append_nil, or_false, false_or, or_true, true_or, false_implies, true_implies, and_true, true_and, and_self, Bool.and_true, Bool.true_and, hln k2.1])
      refine e_call (by rfl) ?_
      refine (radd_ok r size times ns nd _ G w6 (g5.two.mod k2.1 (fun x hx hf => h.fg x hf hx)) hle hsz (ints_modn (hx.mod hm05 (fun _ _ h => h)) k2.1 hxF)).mono ?_
      rintro q w7 ⟨rfl, G', k3, k4⟩
      have e1 : ((addS size ns nd).1 == (addS size ns nd).1) = true := by simp
      have e2 : ((addS size ns nd).2.1 == (addS size ns nd).2.1) = true := by simp
      (try simp only [go_sem, Nat.reduceAdd, Nat.reduceEqDiff, Nat.reduceLT, Nat.reduceLeDiff, Nat.reduceMul, Nat.zero_add, reduceCtorEq, ↓reduceIte, List.length_cons, List.length_nil, List.set_cons_zero, List.set_cons_succ, List.take_zero, List.take_succ_cons, List.drop_zero, List.drop_succ_cons, List.take_nil, List.drop_nil, List.nil_append, List.cons_append, List.append_nil, or_false, false_or, or_true, true_or, false_implies, true_implies, and_true, true_and, and_self, Bool.and_true, Bool.true_and, e1, e2])
      exact ⟨es, _, _, fin k1 k2 k3 k4 (fine_add h.fine nd), Nat.le_succ _⟩
    (try simp only [go_sem, Nat.reduceAdd, Nat.reduceEqDiff, Nat.reduceLT, Nat.reduceLeDiff, Nat.reduceMul, Nat.zero_add, reduceCtorEq, ↓reduceIte, List.length_cons, List.length_nil, List.set_cons_zero, List.set_cons_succ, List.take_zero, List.take_succ_cons, List.drop_zero, List.drop_succ_cons, List.take_nil, List.drop_nil, List.nil_append, List.cons_append, List.append_nil, or_false, false_or, or_true, true_or, false_implies, true_implies, and_true, true_and, and_self, Bool.and_true, Bool.true_and])
    refine ir_cond rfl (fun hc2 => ?_) (fun hc2 => ?_)
    · (try simp only [go_sem, Nat.reduceAdd, Nat.reduceEqDiff, Nat.reduceLT, Nat.reduceLeDiff, Nat.reduceMul, Nat.zero_add, reduceCtorEq, ↓reduceIte, List.length_cons, List.length_nil, List.set_cons_zero, List.set_cons_succ, List.take_zero, List.take_succ_cons, List.drop_zero, List.drop_succ_cons, List.take_nil, List.drop_nil, List.nil_append, List.cons_append, List.append_nil, or_false, false_or, or_true, true_or, false_implies, true_implies, and_true, true_and, and_self, Bool.and_true, Bool.true_and, cell_of hb15])
      refine e_call (by rfl) ?_
      refine (get_ok a size times ns n F w5 g5.one hfl hargs).mono ?_
      rintro q w6 k1
      obtain ⟨hm6, v1, f1, rfl, o1, n1⟩ := get_list k1
      obtain ⟨va1, vc1, rfl, _, _⟩ := o1.val
      (try simp only [go_sem, Nat.reduceAdd, Nat.reduceEqDiff, Nat.reduceLT, Nat.reduceLeDiff, Nat.reduceMul, Nat.zero_add, reduceCtorEq, ↓reduceIte, List.length_cons, List.length_nil, List.set_cons_zero, List.set_cons_succ, List.take_zero, List.take_succ_cons, List.drop_zero, List.drop_succ_cons, List.take_nil, List.drop_nil, List.nil_append, List.cons_append, List.append_nil, or_false, false_or, or_true, true_or, false_implies, true_implies, and_true, true_and, and_self, Bool.and_true, Bool.true_and])
      refine e_al ?_
      intro w7 hb7 hm7 hs7
      have hb7 : w7.heap[w6.heap.size]? = some (.cells #[I 0, I 0, .slice none 0 0] 35 (0, 0)) := hb7
      (try simp only [go_sem, Nat.reduceAdd, Nat.reduceEqDiff, Nat.reduceLT, Nat.reduceLeDiff, Nat.reduceMul, Nat.zero_add, reduceCtorEq, ↓reduceIte, List.length_cons, List.length_nil, List.set_cons_zero, List.set_cons_succ, List.take_zero, List.take_succ_cons, List.drop_zero, List.drop_succ_cons, List.take_nil, List.drop_nil, List.nil_append, List.cons_append, List.append_nil, or_false, false_or, or_true, true_or, false_implies, true_implies, and_true, true_and, and_self, Bool.and_true, Bool.true_and])
      refine e_sta rfl rfl hb7 rfl rfl (by simp [Value.oneCell']) ?_
      intro w8 hb8 hm8 hs8
      have hm68 : Mod (fun _ => False) w6 w8 := hm7.step hm8 (fun x hx hlt => by omega)
      have hm58 := hm6.trans hm68
      have o8 := o1.mod hm68 (fun _ _ h => h)
      (try simp only [go_sem, Nat.reduceAdd, Nat.reduceEqDiff, Nat.reduceLT, Nat.reduceLeDiff, Nat.reduceMul, Nat.zero_add, reduceCtorEq, ↓reduceIte, List.length_cons, List.length_nil, List.set_cons_zero, List.set_cons_succ, List.take_zero, List.take_succ_cons, List.drop_zero, List.drop_succ_cons, List.take_nil, List.drop_nil, List.nil_append, List.cons_append, List.append_nil, or_false, false_or, or_true, true_or, false_implies, true_implies, and_true, true_and, and_self, Bool.and_true, Bool.true_and, cell_of (hop (hm58.weak (fun _ h => h.elim)))])
      refine e_call (by rfl) ?_
      refine (rget_ok r size times ns n G w8 (g5.two.mod hm58 (fun _ _ h => h)) hfl hargs).mono ?_
      rintro q w9 k2
      obtain ⟨hm9, v2, f2, rfl, o2, n2⟩ := get_list k2
      obtain ⟨va2, vc2, rfl, _, _⟩ := o2.val
      (try simp only [go_sem, Nat.reduceAdd, Nat.reduceEqDiff, Nat.reduceLT, Nat.reduceLeDiff, Nat.reduceMul, Nat.zero_add, reduceCtorEq, ↓reduceIte, List.length_cons, List.length_nil, List.set_cons_zero, List.set_cons_succ, List.take_zero, List.take_succ_cons, List.drop_zero, List.drop_succ_cons, List.take_nil, List.drop_nil, List.nil_append, List.cons_append, List.append_nil, or_false, false_or, or_true, true_or, false_implies, true_implies, and_true, true_and, and_self, Bool.and_true, Bool.true_and])
      refine e_al ?_
      intro w10 hb10 hm10 hs10
      have hb10 : w10.heap[w9.heap.size]? = some (.cells #[I 0, I 0, .slice none 0 0] 35 (0, 0)) := hb10
      (try simp only [go_sem, Nat.reduceAdd, Nat.reduceEqDiff, Nat.reduceLT, Nat.reduceLeDiff, Nat.reduceMul, Nat.zero_add, reduceCtorEq, ↓reduceIte, List.length_cons, List.length_nil, List.set_cons_zero, List.set_cons_succ, List.take_zero, List.take_succ_cons, List.drop_zero, List.drop_succ_cons, List.take_nil, List.drop_nil, List.nil_append, List.cons_append, List.append_nil, or_false, false_or, or_true, true_or, false_implies, true_implies, and_true, true_and, and_self, Bool.and_true, Bool.true_and])
      refine e_sta rfl rfl hb10 rfl rfl (by simp [Value.oneCell']) ?_
      intro w11 hb11 hm11 hs11
      have hm911 : Mod (fun _ => False) w9 w11 := hm10.step hm11 (fun x hx hlt => by omega)
      have hm811 := hm9.trans hm911
      have hm511 := hm58.trans hm811
      have hb811 := hm811.at hb8 (fun h => h)
      have gl := getS_len hargs n
      have o11 := o8.mod hm811 (fun _ _ h => h)
      have o211 := o2.mod hm911 (fun _ _ h => h)
      have y1 : vLN w11 3 (.pointer (some ⟨w6.heap.size, 0, none⟩)) = some (.agg #[I (getS ns n).1.kind, I (getS ns n).1.num, .slice va1 (getS ns n).1.args.length vc1]) := ln_of hb811 (off := 0) (n := 3) (by simp)
      have y2 : vLN w11 3 (.pointer (some ⟨w9.heap.size, 0, none⟩)) = some (.agg #[I (getS ns n).1.kind, I (getS ns n).1.num, .slice va2 (getS ns n).1.args.length vc2]) := ln_of hb11 (off := 0) (n := 3) (by simp)
      (try simp only [go_sem, Nat.reduceAdd, Nat.reduceEqDiff, Nat.reduceLT, Nat.reduceLeDiff, Nat.reduceMul, Nat.zero_add, reduceCtorEq, ↓reduceIte, List.length_cons, List.length_nil, List.set_cons_zero, List.set_cons_succ, List.take_zero, List.take_succ_cons, List.drop_zero, List.drop_succ_cons, List.take_nil, List.drop_nil, List.nil_append, List.cons_append, List.append_nil, or_false, false_or, or_true, true_or, false_implies, true_implies, and_true, true_and, and_self, Bool.and_true, Bool.true_and, y1, y2])
      refine e_call (by rfl) ?_
      refine (same_ok (getS ns n).1 (getS ns n).1 _ _ w11 (o11.ints (by omega)).1 (o211.ints (by omega)).1).mono ?_
      rintro q w12 ⟨rfl, hm12'⟩
      have e1 : (getS ns n).1.eqB (getS ns n).1 = true := by simp [Nd.eqB]
      have hb812 := hm12'.at hb811 (fun h => h)
      have e2 : ((getS ns n).2 == (getS ns n).2) = true := by simp
      (try simp only [go_sem, Nat.reduceAdd, Nat.reduceEqDiff, Nat.reduceLT, Nat.reduceLeDiff, Nat.reduceMul, Nat.zero_add, reduceCtorEq, ↓reduceIte, List.length_cons, List.length_nil, List.set_cons_zero, List.set_cons_succ, List.take_zero, List.take_succ_cons, List.drop_zero, List.drop_succ_cons, List.take_nil, List.drop_nil, List.nil_append, List.cons_append, List.append_nil, or_false, false_or, or_true, true_or, false_implies, true_implies, and_true, true_and, and_self, Bool.and_true, Bool.true_and, e1, e2, cell_of hb812])
      refine e_call (by rfl) ?_
      have hm512 := hm511.trans hm12'
      have g12 := g5.mod hm512 (fun _ _ h => h) (fun _ _ h => h) (fun _ _ h => h)
      have o12 := o11.mod hm12' (fun _ _ h => h)
      have q5 := hm05.size
      refine (both_keep g12 o12 (fun x hx hh => by have := n1 x hx; have := sB x hh; omega) (fun x hx hh => by have := n1 x hx; have := sF x hh; omega) (fun x hx hh => by have := n1 x hx; have := sG x hh; omega) (by omega) he).mono ?_
      rintro q w13 ⟨e, B', t2, t3, t4⟩
      have q512 := hm512.size
      (try simp only [go_sem, Nat.reduceAdd, Nat.reduceEqDiff, Nat.reduceLT, Nat.reduceLeDiff, Nat.reduceMul, Nat.zero_add, reduceCtorEq, ↓reduceIte, List.length_cons, List.length_nil, List.set_cons_zero, List.set_cons_succ, List.take_zero, List.take_succ_cons, List.drop_zero, List.drop_succ_cons, List.take_nil, List.drop_nil, List.nil_append, List.cons_append, List.append_nil, or_false, false_or, or_true, true_or, false_implies, true_implies, and_true, true_and, and_self, Bool.and_true, Bool.true_and])
      refine ⟨es ++ [e], times, ns, ⟨B', F, G, t2, (hm512.weak (fun _ h => h.elim)).step t3 (fun x hx hlt => hx.elim (fun h => .inl h) (fun h => by have := n1 x h; omega)), fun x hx => ?_, fun x hx => .inl hx, fun x hx => .inl hx⟩, by simp⟩
      rcases t4 x hx with h | h | h
      · exact .inl h
      · exact .inr (n1 x h)
      · exact .inr (by omega)
    (try simp only [go_sem, Nat.reduceAdd, Nat.reduceEqDiff, Nat.reduceLT, Nat.reduceLeDiff, Nat.reduceMul, Nat.zero_add, reduceCtorEq, ↓reduceIte, List.length_cons, List.length_nil, List.set_cons_zero, List.set_cons_succ, List.take_zero, List.take_succ_cons, List.drop_zero, List.drop_succ_cons, List.take_nil, List.drop_nil, List.nil_append, List.cons_append, List.append_nil, or_false, false_or, or_true, true_or, false_implies, true_implies, and_true, true_and, and_self, Bool.and_true, Bool.true_and])
    refine ir_cond rfl (fun hc3 => ?_) (fun hc3 => ?_)
    · (try simp only [go_sem, Nat.reduceAdd, Nat.reduceEqDiff, Nat.reduceLT, Nat.reduceLeDiff, Nat.reduceMul, Nat.zero_add, reduceCtorEq, ↓reduceIte, List.length_cons, List.length_nil, List.set_cons_zero, List.set_cons_succ, List.take_zero, List.take_succ_cons, List.drop_zero, List.drop_succ_cons, List.take_nil, List.drop_nil, List.nil_append, List.cons_append, List.append_nil, or_false, false_or, or_true, true_or, false_implies, true_implies, and_true, true_and, and_self, Bool.and_true, Bool.true_and, hln4, cell_of hb15])
      refine e_call (by rfl) ?_
      refine (set_ok a size times ns n nd _ F w5 g5.one hfl hargs hx5).mono ?_
      rintro q w6 ⟨rfl, F', k1, k2⟩
      (try simp only [go_sem, Nat.reduceAdd, Nat.reduceEqDiff, Nat.reduceLT, Nat.reduceLeDiff, Nat.reduceMul, Nat.zero_add, reduceCtorEq, ↓reduceIte, List.length_cons, List.length_nil, List.set_cons_zero, List.set_cons_succ, List.take_zero, List.take_succ_cons, List.drop_zero, List.drop_succ_cons, List.take_nil, List.drop_nil, List.nil_append, List.cons_append, List.append_nil, or_false, false_or, or_true, true_or, false_implies, true_implies, and_true, true_and, and_self, Bool.and_true, Bool.true_and, hln k2.1, cell_of (hop k2.1)])
      refine e_call (by rfl) ?_
      refine (rset_ok r size times ns n nd _ G w6 (g5.two.mod k2.1 (fun x hx hf => h.fg x hf hx)) hfl hargs (ints_modn (hx.mod hm05 (fun _ _ h => h)) k2.1 hxF)).mono ?_
      rintro q w7 ⟨rfl, G', k3, k4⟩
      have e1 : ((setS ns n nd).1 == (setS ns n nd).1) = true := by simp
      (try simp only [go_sem, Nat.reduceAdd, Nat.reduceEqDiff, Nat.reduceLT, Nat.reduceLeDiff, Nat.reduceMul, Nat.zero_add, reduceCtorEq, ↓reduceIte, List.length_cons, List.length_nil, List.set_cons_zero, List.set_cons_succ, List.take_zero, List.take_succ_cons, List.drop_zero, List.drop_succ_cons, List.take_nil, List.drop_nil, List.nil_append, List.cons_append, List.append_nil, or_false, false_or, or_true, true_or, false_implies, true_implies, and_true, true_and, and_self, Bool.and_true, Bool.true_and, e1])
      exact ⟨es, _, _, fin k1 k2 k3 k4 (fine_set h.fine n nd), Nat.le_succ _⟩
    refine ir_then (fun ρ w6 => w5 = w6 ∧ ∃ q, ρ = [(0, .pointer (some ⟨b, 0, none⟩)), (1, .pointer (some ⟨a, 0, none⟩)), (2, .pointer (some ⟨r, 0, none⟩)), (7, .pointer (some ⟨w.heap.size, 0, none⟩)), (9, .slice (some ⟨ba, 0, none⟩) (lentL nd.args).length (lentL nd.args).length), (11, .slice (some ⟨br, 0, none⟩) (lentL roots).length (lentL roots).length), (12, .slice (some ⟨br, 0, none⟩) roots.length (lentL roots).length), (58, I dd), (134, .bool q)]) ?_ ?_
    · (try simp only [go_sem, Nat.reduceAdd, Nat.reduceEqDiff, Nat.reduceLT, Nat.reduceLeDiff, Nat.reduceMul, Nat.zero_add, reduceCtorEq, ↓reduceIte, List.length_cons, List.length_nil, List.set_cons_zero, List.set_cons_succ, List.take_zero, List.take_succ_cons, List.drop_zero, List.drop_succ_cons, List.take_nil, List.drop_nil, List.nil_append, List.cons_append, List.append_nil, or_false, false_or, or_true, true_or, false_implies, true_implies, and_true, true_and, and_self, Bool.and_true, Bool.true_and])
      refine ir_cond rfl (fun hc4 => ?_) (fun hc4 => ?_)
      · (try simp only [go_sem, Nat.reduceAdd, Nat.reduceEqDiff, Nat.reduceLT, Nat.reduceLeDiff, Nat.reduceMul, Nat.zero_add, reduceCtorEq, ↓reduceIte, List.length_cons, List.length_nil, List.set_cons_zero, List.set_cons_succ, List.take_zero, List.take_succ_cons, List.drop_zero, List.drop_succ_cons, List.take_nil, List.drop_nil, List.nil_append, List.cons_append, List.append_nil, or_false, false_or, or_true, true_or, false_implies, true_implies, and_true, true_and, and_self, Bool.and_true, Bool.true_and])
        exact ⟨_, rfl⟩
      · (try simp only [go_sem, Nat.reduceAdd, Nat.reduceEqDiff, Nat.reduceLT, Nat.reduceLeDiff, Nat.reduceMul, Nat.zero_add, reduceCtorEq, ↓reduceIte, List.length_cons, List.length_nil, List.set_cons_zero, List.set_cons_succ, List.take_zero, List.take_succ_cons, List.drop_zero, List.drop_succ_cons, List.take_nil, List.drop_nil, List.nil_append, List.cons_append, List.append_nil, or_false, false_or, or_true, true_or, false_implies, true_implies, and_true, true_and, and_self, Bool.and_true, Bool.true_and])
        exact ⟨_, rfl⟩
    rintro ρ w6 ⟨rfl, q, rfl⟩
    refine ir_cond rfl (fun hc4 => ?_) (fun hc4 => ?_)
    · have hln7 : vLN w5 7 (.pointer (some ⟨w.heap.size, 0, none⟩)) = some (.agg #[I wh, I dd, I n, I nd.kind, I nd.num, .slice xa nd.args.length xc, .slice ya roots.length yc]) := ln_of hb15 (off := 0) (n := 7) (by simp)
      (try simp only [go_sem, Nat.reduceAdd, Nat.reduceEqDiff, Nat.reduceLT, Nat.reduceLeDiff, Nat.reduceMul, Nat.zero_add, reduceCtorEq, ↓reduceIte, List.length_cons, List.length_nil, List.set_cons_zero, List.set_cons_succ, List.take_zero, List.take_succ_cons, List.drop_zero, List.drop_succ_cons, List.take_nil, List.drop_nil, List.nil_append, List.cons_append, List.append_nil, or_false, false_or, or_true, true_or, false_implies, true_implies, and_true, true_and, and_self, Bool.and_true, Bool.true_and, hln7])
      refine e_call (by rfl) ?_
      refine (broom_ok w5 b a r es size times ns B F G g5 wh dd n nd.kind nd.num (.slice xa nd.args.length xc) _ _ roots hy5 (hy.mod hm05 (fun _ _ h => h)) (fun hne x hv hf => hyB hne x hv (.inr (.inl hf))) rfl rfl hrl he).mono ?_
      rintro q w6 ⟨rfl, e, times', ns', k1⟩
      (try simp only [go_sem, Nat.reduceAdd, Nat.reduceEqDiff, Nat.reduceLT, Nat.reduceLeDiff, Nat.reduceMul, Nat.zero_add, reduceCtorEq, ↓reduceIte, List.length_cons, List.length_nil, List.set_cons_zero, List.set_cons_succ, List.take_zero, List.take_succ_cons, List.drop_zero, List.drop_succ_cons, List.take_nil, List.drop_nil, List.nil_append, List.cons_append, List.append_nil, or_false, false_or, or_true, true_or, false_implies, true_implies, and_true, true_and, and_self, Bool.and_true, Bool.true_and])
      exact ⟨es ++ [e], _, _, k1, by simp⟩
    (try simp only [go_sem, Nat.reduceAdd, Nat.reduceEqDiff, Nat.reduceLT, Nat.reduceLeDiff, Nat.reduceMul, Nat.zero_add, reduceCtorEq, ↓reduceIte, List.length_cons, List.length_nil, List.set_cons_zero, List.set_cons_succ, List.take_zero, List.take_succ_cons, List.drop_zero, List.drop_succ_cons, List.take_nil, List.drop_nil, List.nil_append, List.cons_append, List.append_nil, or_false, false_or, or_true, true_or, false_implies, true_implies, and_true, true_and, and_self, Bool.and_true, Bool.true_and])
    have same0 : BothPost w5 b a r es size times ns B F G es w5 := ⟨B, F, G, g5, Mod.refl _ _, fun x hx => .inl hx, fun x hx => .inl hx, fun x hx => .inl hx⟩
    refine ir_cond rfl (fun hc5 => ?_) (fun hc5 => ?_)
    · (try simp only [go_sem, Nat.reduceAdd, Nat.reduceEqDiff, Nat.reduceLT, Nat.reduceLeDiff, Nat.reduceMul, Nat.zero_add, reduceCtorEq, ↓reduceIte, List.length_cons, List.length_nil, List.set_cons_zero, List.set_cons_succ, List.take_zero, List.take_succ_cons, List.drop_zero, List.drop_succ_cons, List.take_nil, List.drop_nil, List.nil_append, List.cons_append, List.append_nil, or_false, false_or, or_true, true_or, false_implies, true_implies, and_true, true_and, and_self, Bool.and_true, Bool.true_and])
      refine e_call (by rfl) ?_
      refine (used_ok a size times ns F w5 g5.one).mono ?_
      rintro q w6 ⟨rfl, rfl⟩
      (try simp only [go_sem, Nat.reduceAdd, Nat.reduceEqDiff, Nat.reduceLT, Nat.reduceLeDiff, Nat.reduceMul, Nat.zero_add, reduceCtorEq, ↓reduceIte, List.length_cons, List.length_nil, List.set_cons_zero, List.set_cons_succ, List.take_zero, List.take_succ_cons, List.drop_zero, List.drop_succ_cons, List.take_nil, List.drop_nil, List.nil_append, List.cons_append, List.append_nil, or_false, false_or, or_true, true_or, false_implies, true_implies, and_true, true_and, and_self, Bool.and_true, Bool.true_and])
      refine e_call (by rfl) ?_
      refine (rused_ok r size times ns G w5 g5.two).mono ?_
      rintro q w6 ⟨rfl, rfl⟩
      have e1 : ((ns.length : Int) == (ns.length : Int)) = true := by simp
      (try simp only [go_sem, Nat.reduceAdd, Nat.reduceEqDiff, Nat.reduceLT, Nat.reduceLeDiff, Nat.reduceMul, Nat.zero_add, reduceCtorEq, ↓reduceIte, List.length_cons, List.length_nil, List.set_cons_zero, List.set_cons_succ, List.take_zero, List.take_succ_cons, List.drop_zero, List.drop_succ_cons, List.take_nil, List.drop_nil, List.nil_append, List.cons_append, List.append_nil, or_false, false_or, or_true, true_or, false_implies, true_implies, and_true, true_and, and_self, Bool.and_true, Bool.true_and, e1])
      exact ⟨es, _, _, same0, Nat.le_succ _⟩
    · (try simp only [go_sem, Nat.reduceAdd, Nat.reduceEqDiff, Nat.reduceLT, Nat.reduceLeDiff, Nat.reduceMul, Nat.zero_add, reduceCtorEq, ↓reduceIte, List.length_cons, List.length_nil, List.set_cons_zero, List.set_cons_succ, List.take_zero, List.take_succ_cons, List.drop_zero, List.drop_succ_cons, List.take_nil, List.drop_nil, List.nil_append, List.cons_append, List.append_nil, or_false, false_or, or_true, true_or, false_implies, true_implies, and_true, true_and, and_self, Bool.and_true, Bool.true_and])
      refine e_call (by rfl) ?_
      refine (times_ok a size times ns F w5 g5.one).mono ?_
      rintro q w6 ⟨rfl, rfl⟩
      (try simp only [go_sem, Nat.reduceAdd, Nat.reduceEqDiff, Nat.reduceLT, Nat.reduceLeDiff, Nat.reduceMul, Nat.zero_add, reduceCtorEq, ↓reduceIte, List.length_cons, List.length_nil, List.set_cons_zero, List.set_cons_succ, List.take_zero, List.take_succ_cons, List.drop_zero, List.drop_succ_cons, List.take_nil, List.drop_nil, List.nil_append, List.cons_append, List.append_nil, or_false, false_or, or_true, true_or, false_implies, true_implies, and_true, true_and, and_self, Bool.and_true, Bool.true_and])
      refine e_call (by rfl) ?_
      refine (rtimes_ok r size times ns G w5 g5.two).mono ?_
      rintro q w6 ⟨rfl, rfl⟩
      have e1 : (times == times) = true := by simp
      (try simp only [go_sem, Nat.reduceAdd, Nat.reduceEqDiff, Nat.reduceLT, Nat.reduceLeDiff, Nat.reduceMul, Nat.zero_add, reduceCtorEq, ↓reduceIte, List.length_cons, List.length_nil, List.set_cons_zero, List.set_cons_succ, List.take_zero, List.take_succ_cons, List.drop_zero, List.drop_succ_cons, List.take_nil, List.drop_nil, List.nil_append, List.cons_append, List.append_nil, or_false, false_or, or_true, true_or, false_implies, true_implies, and_true, true_and, and_self, Bool.and_true, Bool.true_and, e1])
      exact ⟨es, _, _, same0, Nat.le_succ _⟩
  · rintro ρ w6 ⟨es', times', ns', k1, k3, r7, r9, r11, r13⟩
    obtain ⟨B', F', G', j1, k2, j3, j4, j5⟩ := k1
    have j2 : Mod (fun x => B x ∨ F x ∨ G x) w w6 := (hm05.weak (fun _ h => h.elim)).trans k2
    obtain ⟨sB, sF, sG⟩ := h.size
    have l5 := lt_of_heap hb15
    have hnew : ∀ x, w.heap.size ≤ x → ¬ (B x ∨ F x ∨ G x) := fun x hx hh => by
      rcases hh with hh | hh | hh
      · have := sB x hh; omega
      · have := sF x hh; omega
      · have := sG x hh; omega
    have s1 := hm1.size; have s2 := hm2.size; have s24 := hm24.size; have s5 := hm5.size
    have hb6 := k2.at hb15 (hnew _ (Nat.le_refl _))
    have ha6 := k2.at ha5 (hnew _ (by omega))
    have hr6 := k2.at hr5 (hnew _ (by omega))
    have hx6 := ints_modn hx j2 hxB
    have hy6 := ints_modn hy j2 hyB
    (try simp only [go_sem, Nat.reduceAdd, Nat.reduceEqDiff, Nat.reduceLT, Nat.reduceLeDiff, Nat.reduceMul, Nat.zero_add, reduceCtorEq, ↓reduceIte, List.length_cons, List.length_nil, List.set_cons_zero, List.set_cons_succ, List.take_zero, List.take_succ_cons, List.drop_zero, List.drop_succ_cons, List.take_nil, List.drop_nil, List.nil_append, List.cons_append, List.append_nil, or_false, false_or, or_true, true_or, false_implies, true_implies, and_true, true_and, and_self, Bool.and_true, Bool.true_and, r7, r9, r11, r13, cell_of hb6])
    refine e_call (by rfl) ?_
    refine (lent_ok _ nd.args w6 hx6).mono ?_
    rintro q w7 ⟨b7, rfl, hb7, hg7, hm7⟩
    refine e_call (by rfl) ?_
    refine (sameInts_ok _ _ (lentL nd.args) (lentL nd.args) w7 (ints_block (hm7.at ha6 (fun h => h)) (by omega)) (ints_block hb7 (by omega))).mono ?_
    rintro q w8 ⟨rfl, hm8⟩
    have hm68 := hm7.trans hm8
    have hb8 := hm68.at hb6 (fun h => h)
    (try simp only [go_sem, Nat.reduceAdd, Nat.reduceEqDiff, Nat.reduceLT, Nat.reduceLeDiff, Nat.reduceMul, Nat.zero_add, reduceCtorEq, ↓reduceIte, List.length_cons, List.length_nil, List.set_cons_zero, List.set_cons_succ, List.take_zero, List.take_succ_cons, List.drop_zero, List.drop_succ_cons, List.take_nil, List.drop_nil, List.nil_append, List.cons_append, List.append_nil, or_false, false_or, or_true, true_or, false_implies, true_implies, and_true, true_and, and_self, Bool.and_true, Bool.true_and, cell_of hb8])
    refine e_call (by rfl) ?_
    refine (lent_ok _ roots w8 (hy6.mod hm68 (fun _ _ h => h))).mono ?_
    rintro q w9 ⟨b9, rfl, hb9, hg9, hm9⟩
    refine e_call (by rfl) ?_
    refine (sameInts_ok _ _ (lentL roots) (lentL roots) w9 (ints_block ((hm68.trans hm9).at hr6 (fun h => h)) (by omega)) (ints_block hb9 (by omega))).mono ?_
    rintro q w10 ⟨rfl, hm10⟩
    have hm610 := (hm68.trans hm9).trans hm10
    (try simp only [go_sem, Nat.reduceAdd, Nat.reduceEqDiff, Nat.reduceLT, Nat.reduceLeDiff, Nat.reduceMul, Nat.zero_add, reduceCtorEq, ↓reduceIte, List.length_cons, List.length_nil, List.set_cons_zero, List.set_cons_succ, List.take_zero, List.take_succ_cons, List.drop_zero, List.drop_succ_cons, List.take_nil, List.drop_nil, List.nil_append, List.cons_append, List.append_nil, or_false, false_or, or_true, true_or, false_implies, true_implies, and_true, true_and, and_self, Bool.and_true, Bool.true_and, decide_true])
    refine ir_loop (fun m ρ w' => ∃ k : Nat, m = (lentL nd.args).length - k ∧ k ≤ (lentL nd.args).length ∧ Mod (fun x => x = ba) w10 w' ∧ w'.heap.size = w10.heap.size ∧ (∃ cs : List Value, cs.length = (lentL nd.args).length ∧ w'.heap[ba]? = some (.cells cs.toArray 3 (0, 0))) ∧ 
      ρ = [(9, .slice (some ⟨ba, 0, none⟩) (lentL nd.args).length (lentL nd.args).length), (11, .slice (some ⟨br, 0, none⟩) (lentL roots).length (lentL roots).length), (13, .bool true), (28, .bool true), (29, .bool true), (30, I k)]) (lentL nd.args).length
      ⟨0, rfl, Nat.zero_le _, Mod.refl _ _, rfl, ⟨(lentL nd.args).map I, by simp, hm610.at ha6 (fun h => h)⟩, rfl⟩ ?_
    rintro m ρ w11 ⟨k, rfl, hk, hm11, hs11, ⟨cs, hcl, hcs⟩, rfl⟩
    unfold ir15L1
    (try simp only [go_sem, Nat.reduceAdd, Nat.reduceEqDiff, Nat.reduceLT, Nat.reduceLeDiff, Nat.reduceMul, Nat.zero_add, reduceCtorEq, ↓reduceIte, List.length_cons, List.length_nil, List.set_cons_zero, List.set_cons_succ, List.take_zero, List.take_succ_cons, List.drop_zero, List.drop_succ_cons, List.take_nil, List.drop_nil, List.nil_append, List.cons_append, List.append_nil, or_false, false_or, or_true, true_or, false_implies, true_implies, and_true, true_and, and_self, Bool.and_true, Bool.true_and])
    refine ir_cond rfl (fun hc => ?_) (fun hc => ?_)
    · have hc' : k < (lentL nd.args).length := by simpa using hc
      have b1 : (0 : Int) ≤ k ∧ (k : Int) < (lentL nd.args).length := by omega
      have hwk : IntKind.i64.wrap ((k : Int) + 1) = ((k + 1 : Nat) : Int) := by rw [wrap_in] <;> omega
      (try simp only [go_sem, Nat.reduceAdd, Nat.reduceEqDiff, Nat.reduceLT, Nat.reduceLeDiff, Nat.reduceMul, Nat.zero_add, reduceCtorEq, ↓reduceIte, List.length_cons, List.length_nil, List.set_cons_zero, List.set_cons_succ, List.take_zero, List.take_succ_cons, List.drop_zero, List.drop_succ_cons, List.take_nil, List.drop_nil, List.nil_append, List.cons_append, List.append_nil, or_false, false_or, or_true, true_or, false_implies, true_implies, and_true, true_and, and_self, Bool.and_true, Bool.true_and, Nat.mul_one, Int.toNat_natCast, Int.toNat_zero, Nat.sub_zero, Nat.sub_self, b1])
      refine e_st1 (off := k) rfl rfl hcs rfl (by omega) ?_
      intro w12 hb12 hm12' hs12
      (try simp only [go_sem, Nat.reduceAdd, Nat.reduceEqDiff, Nat.reduceLT, Nat.reduceLeDiff, Nat.reduceMul, Nat.zero_add, reduceCtorEq, ↓reduceIte, List.length_cons, List.length_nil, List.set_cons_zero, List.set_cons_succ, List.take_zero, List.take_succ_cons, List.drop_zero, List.drop_succ_cons, List.take_nil, List.drop_nil, List.nil_append, List.cons_append, List.append_nil, or_false, false_or, or_true, true_or, false_implies, true_implies, and_true, true_and, and_self, Bool.and_true, Bool.true_and, hwk])
      refine ⟨_, ?_, k + 1, rfl, hc', hm11.step hm12' (fun x hx _ => hx), by omega, ⟨_, by simp [hcl], hb12⟩, rfl⟩
      omega
    have hbne : br ≠ ba := by have := lt_of_heap ha2; omega
    (try simp only [go_sem, Nat.reduceAdd, Nat.reduceEqDiff, Nat.reduceLT, Nat.reduceLeDiff, Nat.reduceMul, Nat.zero_add, reduceCtorEq, ↓reduceIte, List.length_cons, List.length_nil, List.set_cons_zero, List.set_cons_succ, List.take_zero, List.take_succ_cons, List.drop_zero, List.drop_succ_cons, List.take_nil, List.drop_nil, List.nil_append, List.cons_append, List.append_nil, or_false, false_or, or_true, true_or, false_implies, true_implies, and_true, true_and, and_self, Bool.and_true, Bool.true_and])
    refine ir_loop (fun m ρ w' => ∃ k : Nat, m = (lentL roots).length - k ∧ k ≤ (lentL roots).length ∧ Mod (fun x => x = ba ∨ x = br) w10 w' ∧ w'.heap.size = w10.heap.size ∧ (∃ cs : List Value, cs.length = (lentL roots).length ∧ w'.heap[br]? = some (.cells cs.toArray 3 (0, 0))) ∧
      ρ = [(11, .slice (some ⟨br, 0, none⟩) (lentL roots).length (lentL roots).length), (13, .bool true), (28, .bool true), (29, .bool true), (31, I k)]) (lentL roots).length
      ⟨0, rfl, Nat.zero_le _, hm11.weak (fun x hx => .inl hx), hs11, ⟨(lentL roots).map I, by simp, hm11.at (hm610.at hr6 (fun h => h)) hbne⟩, rfl⟩ ?_
    rintro m ρ w13 ⟨kk, rfl, hkk, hm13, hs13, ⟨cs2, hcl2, hcs2⟩, rfl⟩
    unfold ir15L2
    (try simp only [go_sem, Nat.reduceAdd, Nat.reduceEqDiff, Nat.reduceLT, Nat.reduceLeDiff, Nat.reduceMul, Nat.zero_add, reduceCtorEq, ↓reduceIte, List.length_cons, List.length_nil, List.set_cons_zero, List.set_cons_succ, List.take_zero, List.take_succ_cons, List.drop_zero, List.drop_succ_cons, List.take_nil, List.drop_nil, List.nil_append, List.cons_append, List.append_nil, or_false, false_or, or_true, true_or, false_implies, true_implies, and_true, true_and, and_self, Bool.and_true, Bool.true_and])
    refine ir_cond rfl (fun hc => ?_) (fun hc => ?_)
    · have hc' : kk < (lentL roots).length := by simpa using hc
      have b1 : (0 : Int) ≤ kk ∧ (kk : Int) < (lentL roots).length := by omega
      have hwk : IntKind.i64.wrap ((kk : Int) + 1) = ((kk + 1 : Nat) : Int) := by rw [wrap_in] <;> omega
      (try simp only [go_sem, Nat.reduceAdd, Nat.reduceEqDiff, Nat.reduceLT, Nat.reduceLeDiff, Nat.reduceMul, Nat.zero_add, reduceCtorEq, ↓reduceIte, List.length_cons, List.length_nil, List.set_cons_zero, List.set_cons_succ, List.take_zero, List.take_succ_cons, List.drop_zero, List.drop_succ_cons, List.take_nil, List.drop_nil, List.nil_append, List.cons_append, List.append_nil, or_false, false_or, or_true, true_or, false_implies, true_implies, and_true, true_and, and_self, Bool.and_true, Bool.true_and, Nat.mul_one, Int.toNat_natCast, Int.toNat_zero, Nat.sub_zero, Nat.sub_self, b1])
      refine e_st1 (off := kk) rfl rfl hcs2 rfl (by omega) ?_
      intro w14 hb14' hm14' hs14
      (try simp only [go_sem, Nat.reduceAdd, Nat.reduceEqDiff, Nat.reduceLT, Nat.reduceLeDiff, Nat.reduceMul, Nat.zero_add, reduceCtorEq, ↓reduceIte, List.length_cons, List.length_nil, List.set_cons_zero, List.set_cons_succ, List.take_zero, List.take_succ_cons, List.drop_zero, List.drop_succ_cons, List.take_nil, List.drop_nil, List.nil_append, List.cons_append, List.append_nil, or_false, false_or, or_true, true_or, false_implies, true_implies, and_true, true_and, and_self, Bool.and_true, Bool.true_and, hwk])
      refine ⟨_, ?_, kk + 1, rfl, hc', hm13.step hm14' (fun x hx _ => .inr hx), by omega, ⟨_, by simp [hcl2], hb14'⟩, rfl⟩
      omega
    · (try simp only [go_sem, Nat.reduceAdd, Nat.reduceEqDiff, Nat.reduceLT, Nat.reduceLeDiff, Nat.reduceMul, Nat.zero_add, reduceCtorEq, ↓reduceIte, List.length_cons, List.length_nil, List.set_cons_zero, List.set_cons_succ, List.take_zero, List.take_succ_cons, List.drop_zero, List.drop_succ_cons, List.take_nil, List.drop_nil, List.nil_append, List.cons_append, List.append_nil, or_false, false_or, or_true, true_or, false_implies, true_implies, and_true, true_and, and_self, Bool.and_true, Bool.true_and])
      have hS : ∀ x, (x = ba ∨ x = br) → w.heap.size ≤ x := fun x hx => by rcases hx with rfl | rfl <;> omega
      have s610 := hm610.size; have s6 := k2.size
      refine ⟨rfl, es', times', ns', ⟨B', F', G', (j1.mod hm610 (fun _ _ h => h) (fun _ _ h => h) (fun _ _ h => h)).mod hm13 ?_ ?_ ?_, (j2.step hm610 (fun _ h _ => h.elim)).step hm13 (fun x hx hlt => by have := hS x hx; omega), fun x hx => (j3 x hx).imp (fun h => h) (fun h => by omega), fun x hx => (j4 x hx).imp (fun h => h) (fun h => by omega), fun x hx => (j5 x hx).imp (fun h => h) (fun h => by omega)⟩, k3⟩
      · intro x hx hh
        have h5 : x < w5.heap.size := by have := lt_of_heap ha5; have := lt_of_heap hr5; rcases hh with rfl | rfl <;> omega
        have h0 := hS x hh
        rcases j3 x hx with h | h
        · have := sB x h; omega
        · omega
      · intro x hx hh
        have h5 : x < w5.heap.size := by have := lt_of_heap ha5; have := lt_of_heap hr5; rcases hh with rfl | rfl <;> omega
        have h0 := hS x hh
        rcases j4 x hx with h | h
        · have := sF x h; omega
        · omega
      · intro x hx hh
        have h5 : x < w5.heap.size := by have := lt_of_heap ha5; have := lt_of_heap hr5; rcases hh with rfl | rfl <;> omega
        have h0 := hS x hh
        rcases j5 x hx with h | h
        · have := sG x h; omega
        · omega
end Go.Proofs.Ytnagmcdlepcgnaa
