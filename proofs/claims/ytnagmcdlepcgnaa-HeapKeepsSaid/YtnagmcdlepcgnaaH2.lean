/- Heap: Get, Set. -/
import Derived.Test.YtnagmcdlepcgnaaH1
set_option linter.unusedSimpArgs false
set_option linter.unusedVariables false
namespace Go.Proofs.Ytnagmcdlepcgnaa
open Go Go.W

theorem ints_block {w : World} {b T : Nat} {xs : List Int} (h : w.heap[b]? = some (.cells (xs.map I).toArray T (0, 0))) (hl : xs.length ≤ 17592186044416) :
    Ints w (.slice (some ⟨b, 0, none⟩) xs.length xs.length) xs := by
  refine ⟨some ⟨b, 0, none⟩, xs.length, rfl, hl, fun i hi => ⟨_, rfl, ?_⟩⟩
  rw [add_at, cell_of h]
  simp [hi]

theorem okPl_one (n : Nat) (x : Int) : okPl n [x] = decide (0 ≤ x ∧ x < n) := by
  simp [okPl]

/-- A slice in memory of its own, new since w. -/
def NewOwn (w w' : World) (v : Value) (xs : List Int) : Prop := ∃ fp, Own w' 3 1 v (xs.map I) xs.length fp ∧ ∀ b, fp = some b → w.heap.size ≤ b

def GetPost (w : World) (ns : List Nd) (at' : Int) (r : Value) (w' : World) : Prop :=
  Mod (fun _ => False) w w' ∧ (∀ i nd, at' = (i : Nat) → ns[i]? = some nd → ∃ v, r = .tuple #[.agg #[I nd.kind, I nd.num, v], I 0] ∧ NewOwn w w' v nd.args) ∧
    (¬ (0 ≤ at' ∧ at' < ns.length) → r = .tuple #[.agg #[I 0, I 0, .slice none 0 0], I 202])

theorem node_ln {w : World} {b T : Nat} {ps : List (Nd × Value)} {sp' : List Value} (h : w.heap[b]? = some (.cells (flat ps ++ sp').toArray T (0, 0))) {i : Nat} (hi : i < ps.length) :
    vLN w 3 (.pointer (some ⟨b, i * 3, none⟩)) = some (.agg #[I ps[i].1.kind, I ps[i].1.num, ps[i].2]) := by
  have hlen := flat_len ps
  rw [ln_of h (off := i * 3) (n := 3) (by simp; omega)]
  rw [List.drop_append_of_le_length (by omega), List.take_append_of_le_length (by simp; omega), flat_take_drop ps i hi]
  rfl
theorem node_cell {w : World} {b T : Nat} {ps : List (Nd × Value)} {sp' : List Value} (h : w.heap[b]? = some (.cells (flat ps ++ sp').toArray T (0, 0))) {i k : Nat} (hi : i < ps.length) (hk : k < 3) :
    w.cell? ⟨b, i * 3 + k, none⟩ = (nc ps[i])[k]? := by
  have hlen := flat_len ps
  rw [cell_of h, ← flat_at ps i k hi hk]
  simp only [List.getElem?_toArray]
  rw [List.getElem?_append_left (by omega)]

/-- An argument list reads as ints. -/
theorem Args.at {w : World} {ps : List (Nd × Value)} {F : Nat → Prop} (h : Args w ps F) {i : Nat} (hi : i < ps.length) (hl : ps[i].1.args.length ≤ 17592186044416) : Ints w ps[i].2 ps[i].1.args := by
  obtain ⟨fp, h1, _⟩ := h _ (List.getElem_mem hi)
  exact (h1.ints hl).1

theorem get_ok (a : Nat) (size times : Int) (ns : List Nd) (at' : Int) (F : Nat → Prop) (w : World) (h : ArenaAt 63 70 w a size times ns F) (hlen : ns.length ≤ 1048576) (hargs : ∀ nd ∈ ns, nd.args.length ≤ 8) :
    CallsR Try.prog 9 [.pointer (some ⟨a, 0, none⟩), I at'] w (GetPost w ns at') := by
  refine fit9.calls rfl ?_
  unfold ir9
  (try simp only [go_sem, Nat.reduceAdd, Nat.reduceEqDiff, Nat.reduceLT, Nat.reduceLeDiff, Nat.reduceMul, Nat.zero_add, reduceCtorEq, ↓reduceIte, List.length_cons, List.length_nil, List.set_cons_zero, List.set_cons_succ, List.take_zero, List.take_succ_cons, List.drop_zero, List.drop_succ_cons, List.take_nil, List.drop_nil, List.nil_append, List.cons_append, List.append_nil, or_false, false_or, or_true, true_or, false_implies, true_implies, and_true, true_and, and_self, Bool.and_true, Bool.true_and])
  refine e_al ?_
  intro w1 hb1 hm1 hs1
  (try simp only [go_sem, Nat.reduceAdd, Nat.reduceEqDiff, Nat.reduceLT, Nat.reduceLeDiff, Nat.reduceMul, Nat.zero_add, reduceCtorEq, ↓reduceIte, List.length_cons, List.length_nil, List.set_cons_zero, List.set_cons_succ, List.take_zero, List.take_succ_cons, List.drop_zero, List.drop_succ_cons, List.take_nil, List.drop_nil, List.nil_append, List.cons_append, List.append_nil, or_false, false_or, or_true, true_or, false_implies, true_implies, and_true, true_and, and_self, Bool.and_true, Bool.true_and])
  refine e_bs (by rfl) (by (try simp only [go_sem, Nat.reduceAdd, Nat.reduceEqDiff, Nat.reduceLT, Nat.reduceLeDiff, Nat.reduceMul, Nat.zero_add, reduceCtorEq, ↓reduceIte, List.length_cons, List.length_nil, List.set_cons_zero, List.set_cons_succ, List.take_zero, List.take_succ_cons, List.drop_zero, List.drop_succ_cons, List.take_nil, List.drop_nil, List.nil_append, List.cons_append, List.append_nil, or_false, false_or, or_true, true_or, false_implies, true_implies, and_true, true_and, and_self, Bool.and_true, Bool.true_and]); rfl) ?_
  intro w2 hb2 hm2 hs2
  have hm12 := hm1.trans hm2
  have h2 := h.mod hm12 (fun _ _ h => h)
  have hx : Ints w2 (.slice (some ⟨w1.heap.size, 0, none⟩) 1 1) [at'] := ints_block (xs := [at']) hb2 (by simp)
  (try simp only [go_sem, Nat.reduceAdd, Nat.reduceEqDiff, Nat.reduceLT, Nat.reduceLeDiff, Nat.reduceMul, Nat.zero_add, reduceCtorEq, ↓reduceIte, List.length_cons, List.length_nil, List.set_cons_zero, List.set_cons_succ, List.take_zero, List.take_succ_cons, List.drop_zero, List.drop_succ_cons, List.take_nil, List.drop_nil, List.nil_append, List.cons_append, List.append_nil, or_false, false_or, or_true, true_or, false_implies, true_implies, and_true, true_and, and_self, Bool.and_true, Bool.true_and])
  refine e_call (by rfl) ?_
  refine (places_ok a ns.length _ [at'] w2 h2.has hx).mono ?_
  rintro r _ ⟨rfl, rfl⟩
  rw [okPl_one]
  have hb1' := hm2.at hb1 (fun h => h)
  (try simp only [go_sem, Nat.reduceAdd, Nat.reduceEqDiff, Nat.reduceLT, Nat.reduceLeDiff, Nat.reduceMul, Nat.zero_add, reduceCtorEq, ↓reduceIte, List.length_cons, List.length_nil, List.set_cons_zero, List.set_cons_succ, List.take_zero, List.take_succ_cons, List.drop_zero, List.drop_succ_cons, List.take_nil, List.drop_nil, List.nil_append, List.cons_append, List.append_nil, or_false, false_or, or_true, true_or, false_implies, true_implies, and_true, true_and, and_self, Bool.and_true, Bool.true_and])
  refine ir_cond rfl (fun hc => ?_) (fun hc => ?_)
  · have hc' : ¬ (0 ≤ at' ∧ at' < ns.length) := by simp at hc; omega
    (try simp only [go_sem, Nat.reduceAdd, Nat.reduceEqDiff, Nat.reduceLT, Nat.reduceLeDiff, Nat.reduceMul, Nat.zero_add, reduceCtorEq, ↓reduceIte, List.length_cons, List.length_nil, List.set_cons_zero, List.set_cons_succ, List.take_zero, List.take_succ_cons, List.drop_zero, List.drop_succ_cons, List.take_nil, List.drop_nil, List.nil_append, List.cons_append, List.append_nil, or_false, false_or, or_true, true_or, false_implies, true_implies, and_true, true_and, and_self, Bool.and_true, Bool.true_and])
    refine e_sta rfl rfl hb1' rfl rfl (by simp [Value.oneCell']) ?_
    intro w3 hb3 hm3 hs3
    (try simp only [go_sem, Nat.reduceAdd, Nat.reduceEqDiff, Nat.reduceLT, Nat.reduceLeDiff, Nat.reduceMul, Nat.zero_add, reduceCtorEq, ↓reduceIte, List.length_cons, List.length_nil, List.set_cons_zero, List.set_cons_succ, List.take_zero, List.take_succ_cons, List.drop_zero, List.drop_succ_cons, List.take_nil, List.drop_nil, List.nil_append, List.cons_append, List.append_nil, or_false, false_or, or_true, true_or, false_implies, true_implies, and_true, true_and, and_self, Bool.and_true, Bool.true_and, ln_of hb3 (off := 0) (n := 3) (by simp)])
    refine ⟨hm12.step hm3 (fun i hi hlt => by omega), fun i nd he hn => ?_, fun _ => rfl⟩
    exact absurd ⟨by omega, by have := (List.getElem?_eq_some_iff.1 hn).1; omega⟩ hc'
  · have hc' : 0 ≤ at' ∧ at' < ns.length := by simpa using hc
    obtain ⟨i, rfl⟩ : ∃ i : Nat, at' = i := ⟨at'.toNat, by omega⟩
    have hi : i < ns.length := by omega
    obtain ⟨cv, fpc, ps, g1, g2, g3, g4, g5, g6, g7⟩ := h2
    have hps : ps.length = ns.length := by rw [← g6]; simp
    obtain ⟨bc, cc, spc, rfl, rfl, gc, hcc, hcap⟩ := g3.pos (by omega)
    have hi' : i < ps.length := by omega
    have hnd : ps[i].1 = ns[i] := by simp [← g6]
    (try simp only [go_sem, Nat.reduceAdd, Nat.reduceEqDiff, Nat.reduceLT, Nat.reduceLeDiff, Nat.reduceMul, Nat.zero_add, reduceCtorEq, ↓reduceIte, List.length_cons, List.length_nil, List.set_cons_zero, List.set_cons_succ, List.take_zero, List.take_succ_cons, List.drop_zero, List.drop_succ_cons, List.take_nil, List.drop_nil, List.nil_append, List.cons_append, List.append_nil, or_false, false_or, or_true, true_or, false_implies, true_implies, and_true, true_and, and_self, Bool.and_true, Bool.true_and, cell_of g1, hc', Int.toNat_natCast, node_ln gc hi'])
    refine e_al ?_
    intro w3 hb3 hm3 hs3
    (try simp only [go_sem, Nat.reduceAdd, Nat.reduceEqDiff, Nat.reduceLT, Nat.reduceLeDiff, Nat.reduceMul, Nat.zero_add, reduceCtorEq, ↓reduceIte, List.length_cons, List.length_nil, List.set_cons_zero, List.set_cons_succ, List.take_zero, List.take_succ_cons, List.drop_zero, List.drop_succ_cons, List.take_nil, List.drop_nil, List.nil_append, List.cons_append, List.append_nil, or_false, false_or, or_true, true_or, false_implies, true_implies, and_true, true_and, and_self, Bool.and_true, Bool.true_and])
    have hav := g5.at hi' (by rw [hnd]; have := hargs ns[i] (List.getElem_mem hi); omega)
    obtain ⟨xa, xc, hav1, _, _⟩ := id hav
    rw [hav1]
    refine e_sta rfl rfl hb3 rfl rfl (by simp [Value.oneCell']) ?_
    intro w4 hb4 hm4 hs4
    have hx4 : Ints w4 (.slice xa ps[i].1.args.length xc) ps[i].1.args := by
      rw [hav1] at hav
      refine (hav.mod hm3 (fun _ _ h => h)).mod hm4 (fun b hb hh => ?_)
      obtain ⟨fp, k1, k2⟩ := g5 _ (List.getElem_mem hi')
      rw [hav1] at k1
      rcases k1.2 with ⟨k3, _, _⟩ | ⟨b', c', sp', k3, k4, k5, _⟩
      · simp only [Value.slice.injEq] at k3; obtain ⟨rfl, _⟩ := k3; simp [vblk] at hb
      · simp only [Value.slice.injEq] at k3; obtain ⟨rfl, _⟩ := k3
        simp only [vblk, Option.some.injEq] at hb; subst hb
        have := lt_of_heap k5
        omega
    (try simp only [go_sem, Nat.reduceAdd, Nat.reduceEqDiff, Nat.reduceLT, Nat.reduceLeDiff, Nat.reduceMul, Nat.zero_add, reduceCtorEq, ↓reduceIte, List.length_cons, List.length_nil, List.set_cons_zero, List.set_cons_succ, List.take_zero, List.take_succ_cons, List.drop_zero, List.drop_succ_cons, List.take_nil, List.drop_nil, List.nil_append, List.cons_append, List.append_nil, or_false, false_or, or_true, true_or, false_implies, true_implies, and_true, true_and, and_self, Bool.and_true, Bool.true_and, cell_of hb4])
    refine e_call (by rfl) ?_
    refine (copied_ok _ _ w4.drew hx4).mono ?_
    rintro r w5 ⟨b5, rfl, hb5, hge5, hm5⟩
    have hm5 := hm5.of_drew
    have hge5 : w4.heap.size ≤ b5 := hge5
    (try simp only [go_sem, Nat.reduceAdd, Nat.reduceEqDiff, Nat.reduceLT, Nat.reduceLeDiff, Nat.reduceMul, Nat.zero_add, reduceCtorEq, ↓reduceIte, List.length_cons, List.length_nil, List.set_cons_zero, List.set_cons_succ, List.take_zero, List.take_succ_cons, List.drop_zero, List.drop_succ_cons, List.take_nil, List.drop_nil, List.nil_append, List.cons_append, List.append_nil, or_false, false_or, or_true, true_or, false_implies, true_implies, and_true, true_and, and_self, Bool.and_true, Bool.true_and])
    refine ⟨hm5.old _ (lt_of_heap hb4) (fun h => h), ?_⟩
    have hb6 := hm5.at (hm4.at (hm3.at hb1' (fun h => h)) (by have := lt_of_heap hb1'; omega)) (fun h => h)
    refine e_sta rfl rfl hb6 rfl rfl (by simp [Value.oneCell']) ?_
    intro w6 hb7 hm6 hs6
    (try simp only [go_sem, Nat.reduceAdd, Nat.reduceEqDiff, Nat.reduceLT, Nat.reduceLeDiff, Nat.reduceMul, Nat.zero_add, reduceCtorEq, ↓reduceIte, List.length_cons, List.length_nil, List.set_cons_zero, List.set_cons_succ, List.take_zero, List.take_succ_cons, List.drop_zero, List.drop_succ_cons, List.take_nil, List.drop_nil, List.nil_append, List.cons_append, List.append_nil, or_false, false_or, or_true, true_or, false_implies, true_implies, and_true, true_and, and_self, Bool.and_true, Bool.true_and, ln_of hb7 (off := 0) (n := 3) (by simp)])
    have l1 := lt_of_heap hb1'
    refine ⟨(((hm12.step hm3 (fun _ h _ => h)).step hm4 (fun j hj hlt => by omega)).step hm5 (fun _ h _ => h)).step hm6 (fun j hj hlt => by omega), fun j nd he hn => ?_, fun hh => absurd hc' hh⟩
    obtain rfl : i = j := by omega
    have e1 : nd = ps[i].1 := by
      rw [hnd]; rw [List.getElem?_eq_getElem hi] at hn; exact (Option.some.inj hn).symm
    subst e1
    refine ⟨_, rfl, some b5, Own.of_block (hm6.at hb5 (by omega)) (by simp), fun b hb => by cases hb; have := hm12.size; omega⟩

def setS (ns : List Nd) (at' : Int) (nd : Nd) : Int × List Nd :=
  if ¬ (0 ≤ at' ∧ at' < ns.length) then (202, ns) else if nd.may = false then (1, ns) else if okPl ns.length nd.args = false then (202, ns) else (0, ns.set at'.toNat nd)
def SetPost (Ta Tc : Nat) (a : Nat) (size times : Int) (F : Nat → Prop) (w : World) (s : Int × List Nd) (r : Value) (w' : World) : Prop :=
  r = I s.1 ∧ ∃ F', ArenaAt Ta Tc w' a size times s.2 F' ∧ Grow F F' w w'

theorem set_self (ns : List Nd) (i : Nat) (nd : Nd) (hi : i < ns.length) (h : ns[i] = nd) : ns.set i nd = ns := by
  subst h; exact List.set_getElem_self hi

theorem set_ok (a : Nat) (size times : Int) (ns : List Nd) (at' : Int) (nd : Nd) (v : Value) (F : Nat → Prop) (w : World) (h : ArenaAt 63 70 w a size times ns F) (hlen : ns.length ≤ 1048576)
    (hargs : ∀ nd ∈ ns, nd.args.length ≤ 8) (hx0 : Ints w v nd.args) :
    CallsR Try.prog 19 [.pointer (some ⟨a, 0, none⟩), I at', .agg #[I nd.kind, I nd.num, v]] w (SetPost 63 70 a size times F w (setS ns at' nd)) := by
  have hx := hx0
  obtain ⟨va, vc, rfl, hl, _⟩ := hx0
  refine fit19.calls rfl ?_
  unfold ir19
  (try simp only [go_sem, Nat.reduceAdd, Nat.reduceEqDiff, Nat.reduceLT, Nat.reduceLeDiff, Nat.reduceMul, Nat.zero_add, reduceCtorEq, ↓reduceIte, List.length_cons, List.length_nil, List.set_cons_zero, List.set_cons_succ, List.take_zero, List.take_succ_cons, List.drop_zero, List.drop_succ_cons, List.take_nil, List.drop_nil, List.nil_append, List.cons_append, List.append_nil, or_false, false_or, or_true, true_or, false_implies, true_implies, and_true, true_and, and_self, Bool.and_true, Bool.true_and])
  refine e_bx rfl ?_
  intro w1 hb1 hm1 hs1
  (try simp only [go_sem, Nat.reduceAdd, Nat.reduceEqDiff, Nat.reduceLT, Nat.reduceLeDiff, Nat.reduceMul, Nat.zero_add, reduceCtorEq, ↓reduceIte, List.length_cons, List.length_nil, List.set_cons_zero, List.set_cons_succ, List.take_zero, List.take_succ_cons, List.drop_zero, List.drop_succ_cons, List.take_nil, List.drop_nil, List.nil_append, List.cons_append, List.append_nil, or_false, false_or, or_true, true_or, false_implies, true_implies, and_true, true_and, and_self, Bool.and_true, Bool.true_and])
  refine e_bs (by rfl) (by (try simp only [go_sem, Nat.reduceAdd, Nat.reduceEqDiff, Nat.reduceLT, Nat.reduceLeDiff, Nat.reduceMul, Nat.zero_add, reduceCtorEq, ↓reduceIte, List.length_cons, List.length_nil, List.set_cons_zero, List.set_cons_succ, List.take_zero, List.take_succ_cons, List.drop_zero, List.drop_succ_cons, List.take_nil, List.drop_nil, List.nil_append, List.cons_append, List.append_nil, or_false, false_or, or_true, true_or, false_implies, true_implies, and_true, true_and, and_self, Bool.and_true, Bool.true_and]); rfl) ?_
  intro w2 hb2 hm2 hs2
  have hm12 := hm1.trans hm2
  have h2 := h.mod hm12 (fun _ _ h => h)
  have hx1 : Ints w2 (.slice (some ⟨w1.heap.size, 0, none⟩) 1 1) [at'] := ints_block (xs := [at']) hb2 (by simp)
  have hx2 := hx.mod hm12 (fun _ _ h => h)
  have hb1' := hm2.at hb1 (fun h => h)
  have same : ∀ w3, Mod (fun _ => False) w2 w3 → ∃ F', ArenaAt 63 70 w3 a size times ns F' ∧ Grow F F' w w3 := fun w3 hm3 =>
    ⟨F, h2.mod hm3 (fun _ _ h => h), (hm12.trans hm3).weak (fun _ h => h.elim), fun b hb => .inl hb⟩
  (try simp only [go_sem, Nat.reduceAdd, Nat.reduceEqDiff, Nat.reduceLT, Nat.reduceLeDiff, Nat.reduceMul, Nat.zero_add, reduceCtorEq, ↓reduceIte, List.length_cons, List.length_nil, List.set_cons_zero, List.set_cons_succ, List.take_zero, List.take_succ_cons, List.drop_zero, List.drop_succ_cons, List.take_nil, List.drop_nil, List.nil_append, List.cons_append, List.append_nil, or_false, false_or, or_true, true_or, false_implies, true_implies, and_true, true_and, and_self, Bool.and_true, Bool.true_and])
  refine e_call (by rfl) ?_
  refine (places_ok a ns.length _ [at'] w2 h2.has hx1).mono ?_
  rintro r _ ⟨rfl, rfl⟩
  rw [okPl_one]
  (try simp only [go_sem, Nat.reduceAdd, Nat.reduceEqDiff, Nat.reduceLT, Nat.reduceLeDiff, Nat.reduceMul, Nat.zero_add, reduceCtorEq, ↓reduceIte, List.length_cons, List.length_nil, List.set_cons_zero, List.set_cons_succ, List.take_zero, List.take_succ_cons, List.drop_zero, List.drop_succ_cons, List.take_nil, List.drop_nil, List.nil_append, List.cons_append, List.append_nil, or_false, false_or, or_true, true_or, false_implies, true_implies, and_true, true_and, and_self, Bool.and_true, Bool.true_and])
  refine ir_cond rfl (fun hc => ?_) (fun hc => ?_)
  · have hc' : ¬ (0 ≤ at' ∧ at' < ns.length) := by simp at hc; omega
    (try simp only [go_sem, Nat.reduceAdd, Nat.reduceEqDiff, Nat.reduceLT, Nat.reduceLeDiff, Nat.reduceMul, Nat.zero_add, reduceCtorEq, ↓reduceIte, List.length_cons, List.length_nil, List.set_cons_zero, List.set_cons_succ, List.take_zero, List.take_succ_cons, List.drop_zero, List.drop_succ_cons, List.take_nil, List.drop_nil, List.nil_append, List.cons_append, List.append_nil, or_false, false_or, or_true, true_or, false_implies, true_implies, and_true, true_and, and_self, Bool.and_true, Bool.true_and])
    have e : setS ns at' nd = (202, ns) := by unfold setS; rw [if_pos hc']
    rw [e]
    exact ⟨rfl, same w2 (Mod.refl _ _)⟩
  have hc' : 0 ≤ at' ∧ at' < ns.length := by simpa using hc
  obtain ⟨i, rfl⟩ : ∃ i : Nat, at' = i := ⟨at'.toNat, by omega⟩
  have hi : i < ns.length := by omega
  have hd : vLN w2 3 (.pointer (some ⟨w.heap.size, 0, none⟩)) = some (.agg #[I nd.kind, I nd.num, .slice va nd.args.length vc]) := ln_of hb1' (off := 0) (n := 3) (by simp)
  (try simp only [go_sem, Nat.reduceAdd, Nat.reduceEqDiff, Nat.reduceLT, Nat.reduceLeDiff, Nat.reduceMul, Nat.zero_add, reduceCtorEq, ↓reduceIte, List.length_cons, List.length_nil, List.set_cons_zero, List.set_cons_succ, List.take_zero, List.take_succ_cons, List.drop_zero, List.drop_succ_cons, List.take_nil, List.drop_nil, List.nil_append, List.cons_append, List.append_nil, or_false, false_or, or_true, true_or, false_implies, true_implies, and_true, true_and, and_self, Bool.and_true, Bool.true_and, hd])
  refine e_call (by rfl) ?_
  refine (may_ok nd.kind nd.num _ nd.args w2 hx2).mono ?_
  rintro r w3 ⟨rfl, hm3⟩
  have hb3 := hm3.at hb1' (fun h => h)
  have h3 := h2.mod hm3 (fun _ _ h => h)
  have hx3 := hx2.mod hm3 (fun _ _ h => h)
  (try simp only [go_sem, Nat.reduceAdd, Nat.reduceEqDiff, Nat.reduceLT, Nat.reduceLeDiff, Nat.reduceMul, Nat.zero_add, reduceCtorEq, ↓reduceIte, List.length_cons, List.length_nil, List.set_cons_zero, List.set_cons_succ, List.take_zero, List.take_succ_cons, List.drop_zero, List.drop_succ_cons, List.take_nil, List.drop_nil, List.nil_append, List.cons_append, List.append_nil, or_false, false_or, or_true, true_or, false_implies, true_implies, and_true, true_and, and_self, Bool.and_true, Bool.true_and])
  refine ir_cond rfl (fun hm => ?_) (fun hm => ?_)
  · (try simp only [go_sem, Nat.reduceAdd, Nat.reduceEqDiff, Nat.reduceLT, Nat.reduceLeDiff, Nat.reduceMul, Nat.zero_add, reduceCtorEq, ↓reduceIte, List.length_cons, List.length_nil, List.set_cons_zero, List.set_cons_succ, List.take_zero, List.take_succ_cons, List.drop_zero, List.drop_succ_cons, List.take_nil, List.drop_nil, List.nil_append, List.cons_append, List.append_nil, or_false, false_or, or_true, true_or, false_implies, true_implies, and_true, true_and, and_self, Bool.and_true, Bool.true_and])
    have hm' : nd.may = false := by simpa [Nd.may] using hm
    have e : setS ns i nd = (1, ns) := by unfold setS; rw [if_neg (by simpa using hc'), if_pos hm']
    rw [e]
    exact ⟨rfl, same w3 hm3⟩
  have hm1' : nd.may = true := by simpa [Nd.may] using hm
  (try simp only [go_sem, Nat.reduceAdd, Nat.reduceEqDiff, Nat.reduceLT, Nat.reduceLeDiff, Nat.reduceMul, Nat.zero_add, reduceCtorEq, ↓reduceIte, List.length_cons, List.length_nil, List.set_cons_zero, List.set_cons_succ, List.take_zero, List.take_succ_cons, List.drop_zero, List.drop_succ_cons, List.take_nil, List.drop_nil, List.nil_append, List.cons_append, List.append_nil, or_false, false_or, or_true, true_or, false_implies, true_implies, and_true, true_and, and_self, Bool.and_true, Bool.true_and, cell_of hb3])
  refine e_call (by rfl) ?_
  refine (places_ok a ns.length _ nd.args w3 h3.has hx3).mono ?_
  rintro r _ ⟨rfl, rfl⟩
  (try simp only [go_sem, Nat.reduceAdd, Nat.reduceEqDiff, Nat.reduceLT, Nat.reduceLeDiff, Nat.reduceMul, Nat.zero_add, reduceCtorEq, ↓reduceIte, List.length_cons, List.length_nil, List.set_cons_zero, List.set_cons_succ, List.take_zero, List.take_succ_cons, List.drop_zero, List.drop_succ_cons, List.take_nil, List.drop_nil, List.nil_append, List.cons_append, List.append_nil, or_false, false_or, or_true, true_or, false_implies, true_implies, and_true, true_and, and_self, Bool.and_true, Bool.true_and])
  refine ir_cond rfl (fun ho => ?_) (fun ho => ?_)
  · (try simp only [go_sem, Nat.reduceAdd, Nat.reduceEqDiff, Nat.reduceLT, Nat.reduceLeDiff, Nat.reduceMul, Nat.zero_add, reduceCtorEq, ↓reduceIte, List.length_cons, List.length_nil, List.set_cons_zero, List.set_cons_succ, List.take_zero, List.take_succ_cons, List.drop_zero, List.drop_succ_cons, List.take_nil, List.drop_nil, List.nil_append, List.cons_append, List.append_nil, or_false, false_or, or_true, true_or, false_implies, true_implies, and_true, true_and, and_self, Bool.and_true, Bool.true_and])
    have ho' : okPl ns.length nd.args = false := by simpa using ho
    have e : setS ns i nd = (202, ns) := by unfold setS; rw [if_neg (by simpa using hc'), if_neg (by simp [hm1']), if_pos ho']
    rw [e]
    exact ⟨rfl, same w3 hm3⟩
  have ho1 : okPl ns.length nd.args = true := by simpa using ho
  have e : setS ns i nd = (0, ns.set i nd) := by unfold setS; rw [if_neg (by simpa using hc'), if_neg (by simp [hm1']), if_neg (by simp [ho1])]; simp
  rw [e]
  obtain ⟨cv, fpc, ps, g1, g2, g3, g4, g5, g6, g7⟩ := h3
  have hps : ps.length = ns.length := by rw [← g6]; simp
  obtain ⟨bc, cc, spc, rfl, rfl, gc, hcc, hcap⟩ := g3.pos (by omega)
  have hi' : i < ps.length := by omega
  have hnd : ps[i].1 = ns[i] := by simp [← g6]
  have hflat := flat_len ps
  have hav := g5.at hi' (by rw [hnd]; have := hargs ns[i] (List.getElem_mem hi); omega)
  obtain ⟨xa, xc, hav1, _, _⟩ := id hav
  have c0 : w3.cell? ⟨bc, i * 3, none⟩ = some (I ps[i].1.kind) := by have := node_cell gc hi' (k := 0) (by omega); simpa [nc] using this
  have c1 : w3.cell? ⟨bc, i * 3 + 1, none⟩ = some (I ps[i].1.num) := by have := node_cell gc hi' (k := 1) (by omega); simpa [nc] using this
  have c2 : w3.cell? ⟨bc, i * 3 + 2, none⟩ = some (.slice xa ps[i].1.args.length xc) := by have := node_cell gc hi' (k := 2) (by omega); simpa [nc, hav1] using this
  have l2 : vLN w3.drew 2 (.pointer (some ⟨bc, i * 3, none⟩)) = some (.agg #[I ps[i].1.kind, I ps[i].1.num]) := by
    have := ln_of (w := w3.drew) gc (off := i * 3) (n := 2) (by simp; omega)
    rw [this, List.drop_append_of_le_length (by omega), List.take_append_of_le_length (by simp; omega)]
    have h3 := flat_take_drop ps i hi'
    have : ((flat ps).drop (i * 3)).take 2 = (nc ps[i]).take 2 := by rw [← h3, List.take_take]; rfl
    rw [this]
    rfl
  (try simp only [go_sem, Nat.reduceAdd, Nat.reduceEqDiff, Nat.reduceLT, Nat.reduceLeDiff, Nat.reduceMul, Nat.zero_add, reduceCtorEq, ↓reduceIte, List.length_cons, List.length_nil, List.set_cons_zero, List.set_cons_succ, List.take_zero, List.take_succ_cons, List.drop_zero, List.drop_succ_cons, List.take_nil, List.drop_nil, List.nil_append, List.cons_append, List.append_nil, or_false, false_or, or_true, true_or, false_implies, true_implies, and_true, true_and, and_self, Bool.and_true, Bool.true_and, cell_of hb3])
  refine wpS_cut (fun ρ w' => w' = w3.drew ∧ ∃ q : Bool, (q = true → ns.set i nd = ns) ∧ ρ.get 0 = some (.pointer (some ⟨a, 0, none⟩)) ∧ ρ.get 1 = some (I i) ∧ ρ.get 5 = some (.pointer (some ⟨w.heap.size, 0, none⟩)) ∧ ρ.get 54 = some (.bool q)) ?_ ?_
  · refine wpS_gr rfl (fun hz => ?_) (fun hz => ?_)
    · have hz' : nd.args.length = 0 := Int.ofNat.inj (eq_of_beq hz)
      (try simp only [go_sem, Nat.reduceAdd, Nat.reduceEqDiff, Nat.reduceLT, Nat.reduceLeDiff, Nat.reduceMul, Nat.zero_add, reduceCtorEq, ↓reduceIte, List.length_cons, List.length_nil, List.set_cons_zero, List.set_cons_succ, List.take_zero, List.take_succ_cons, List.drop_zero, List.drop_succ_cons, List.take_nil, List.drop_nil, List.nil_append, List.cons_append, List.append_nil, or_false, false_or, or_true, true_or, false_implies, true_implies, and_true, true_and, and_self, Bool.and_true, Bool.true_and, cell_of hb3, cell_of g1, hc', Int.toNat_natCast, l2, hz, c2])
      refine wpS_gr rfl (fun ht => ?_) (fun ht => ?_)
      · (try simp only [go_sem, Nat.reduceAdd, Nat.reduceEqDiff, Nat.reduceLT, Nat.reduceLeDiff, Nat.reduceMul, Nat.zero_add, reduceCtorEq, ↓reduceIte, List.length_cons, List.length_nil, List.set_cons_zero, List.set_cons_succ, List.take_zero, List.take_succ_cons, List.drop_zero, List.drop_succ_cons, List.take_nil, List.drop_nil, List.nil_append, List.cons_append, List.append_nil, or_false, false_or, or_true, true_or, false_implies, true_implies, and_true, true_and, and_self, Bool.and_true, Bool.true_and, cell_of hb3, cell_of g1, hc', Int.toNat_natCast, l2, hz, c2, ht])
        refine ⟨_, fun hq => ?_, rfl⟩
        have q1 : ps[i].1.kind = nd.kind ∧ ps[i].1.num = nd.num := by simpa using ht
        have q2 : ps[i].1.args = [] := by
          have : (ps[i].1.args.length : Int) = 0 := by simpa using hq
          exact List.eq_nil_of_length_eq_zero (by omega)
        refine set_self ns i nd hi ?_
        rw [← hnd]
        have e3 : nd.args = [] := List.eq_nil_of_length_eq_zero hz'
        have : ∀ x y : Nd, x.kind = y.kind → x.num = y.num → x.args = y.args → x = y := by intro x y h1 h2 h3; cases x; cases y; simp_all
        exact this _ _ q1.1 q1.2 (by rw [q2, e3])
      · (try simp only [go_sem, Nat.reduceAdd, Nat.reduceEqDiff, Nat.reduceLT, Nat.reduceLeDiff, Nat.reduceMul, Nat.zero_add, reduceCtorEq, ↓reduceIte, List.length_cons, List.length_nil, List.set_cons_zero, List.set_cons_succ, List.take_zero, List.take_succ_cons, List.drop_zero, List.drop_succ_cons, List.take_nil, List.drop_nil, List.nil_append, List.cons_append, List.append_nil, or_false, false_or, or_true, true_or, false_implies, true_implies, and_true, true_and, and_self, Bool.and_true, Bool.true_and, cell_of hb3, hz, ht])
        exact ⟨_, fun hq => (by cases hq), rfl⟩
    · (try simp only [go_sem, Nat.reduceAdd, Nat.reduceEqDiff, Nat.reduceLT, Nat.reduceLeDiff, Nat.reduceMul, Nat.zero_add, reduceCtorEq, ↓reduceIte, List.length_cons, List.length_nil, List.set_cons_zero, List.set_cons_succ, List.take_zero, List.take_succ_cons, List.drop_zero, List.drop_succ_cons, List.take_nil, List.drop_nil, List.nil_append, List.cons_append, List.append_nil, or_false, false_or, or_true, true_or, false_implies, true_implies, and_true, true_and, and_self, Bool.and_true, Bool.true_and, cell_of hb3, hz])
      exact ⟨_, fun hq => (by cases hq), rfl⟩
  · rintro ρ _ ⟨rfl, q, hq, r0, r1, r5, r54⟩
    (try simp only [go_sem, Nat.reduceAdd, Nat.reduceEqDiff, Nat.reduceLT, Nat.reduceLeDiff, Nat.reduceMul, Nat.zero_add, reduceCtorEq, ↓reduceIte, List.length_cons, List.length_nil, List.set_cons_zero, List.set_cons_succ, List.take_zero, List.take_succ_cons, List.drop_zero, List.drop_succ_cons, List.take_nil, List.drop_nil, List.nil_append, List.cons_append, List.append_nil, or_false, false_or, or_true, true_or, false_implies, true_implies, and_true, true_and, and_self, Bool.and_true, Bool.true_and, r0, r1, r5, r54])
    refine ir_cond rfl (fun ht => ?_) (fun ht => ?_)
    · (try simp only [go_sem, Nat.reduceAdd, Nat.reduceEqDiff, Nat.reduceLT, Nat.reduceLeDiff, Nat.reduceMul, Nat.zero_add, reduceCtorEq, ↓reduceIte, List.length_cons, List.length_nil, List.set_cons_zero, List.set_cons_succ, List.take_zero, List.take_succ_cons, List.drop_zero, List.drop_succ_cons, List.take_nil, List.drop_nil, List.nil_append, List.cons_append, List.append_nil, or_false, false_or, or_true, true_or, false_implies, true_implies, and_true, true_and, and_self, Bool.and_true, Bool.true_and])
      rw [hq ht]
      exact ⟨rfl, same w3.drew hm3.drew⟩
    · have hd3 : vLN w3.drew.drew 3 (.pointer (some ⟨w.heap.size, 0, none⟩)) = some (.agg #[I nd.kind, I nd.num, .slice va nd.args.length vc]) := ln_of (w := w3.drew.drew) hb3 (off := 0) (n := 3) (by simp)
      (try simp only [go_sem, Nat.reduceAdd, Nat.reduceEqDiff, Nat.reduceLT, Nat.reduceLeDiff, Nat.reduceMul, Nat.zero_add, reduceCtorEq, ↓reduceIte, List.length_cons, List.length_nil, List.set_cons_zero, List.set_cons_succ, List.take_zero, List.take_succ_cons, List.drop_zero, List.drop_succ_cons, List.take_nil, List.drop_nil, List.nil_append, List.cons_append, List.append_nil, or_false, false_or, or_true, true_or, false_implies, true_implies, and_true, true_and, and_self, Bool.and_true, Bool.true_and, cell_of g1, hd3])
      refine e_call (by rfl) ?_
      refine (cellOf_ok nd.kind nd.num _ nd.args w3.drew.drew hx3).mono ?_
      rintro r w4 ⟨b4, rfl, hb4, hge4, hm4⟩
      have hm4 : Mod (fun _ => False) w3 w4 := hm4.of_drew.of_drew
      have hge4 : w3.heap.size ≤ b4 := hge4
      (try simp only [go_sem, Nat.reduceAdd, Nat.reduceEqDiff, Nat.reduceLT, Nat.reduceLeDiff, Nat.reduceMul, Nat.zero_add, reduceCtorEq, ↓reduceIte, List.length_cons, List.length_nil, List.set_cons_zero, List.set_cons_succ, List.take_zero, List.take_succ_cons, List.drop_zero, List.drop_succ_cons, List.take_nil, List.drop_nil, List.nil_append, List.cons_append, List.append_nil, or_false, false_or, or_true, true_or, false_implies, true_implies, and_true, true_and, and_self, Bool.and_true, Bool.true_and, hc', Int.toNat_natCast])
      refine ⟨hm4.old _ (lt_of_heap g1) (fun h => h), ?_⟩
      have gc4 := hm4.at gc (fun h => h)
      have ga4 := hm4.at g1 (fun h => h)
      refine e_stg rfl rfl gc4 rfl (by simp; omega) (by simp [Value.oneCell']) ?_
      intro w5 hb5 hm5 hs5
      (try simp only [go_sem, Nat.reduceAdd, Nat.reduceEqDiff, Nat.reduceLT, Nat.reduceLeDiff, Nat.reduceMul, Nat.zero_add, reduceCtorEq, ↓reduceIte, List.length_cons, List.length_nil, List.set_cons_zero, List.set_cons_succ, List.take_zero, List.take_succ_cons, List.drop_zero, List.drop_succ_cons, List.take_nil, List.drop_nil, List.nil_append, List.cons_append, List.append_nil, or_false, false_or, or_true, true_or, false_implies, true_implies, and_true, true_and, and_self, Bool.and_true, Bool.true_and])
      have hne : a ≠ bc := fun hh => kind_ne ga4 (hh ▸ gc4) (by omega)
      have hsp := flat_set ps i (nd, .slice (some ⟨b4, 0, none⟩) nd.args.length nd.args.length) hi' spc
      have lc := lt_of_heap gc
      have la := lt_of_heap g1
      have l4 := lt_of_heap hb4
      have h45 := hm4.size; have h55 := hm5.size
      refine ⟨rfl, fun b => F b ∨ b = b4, ⟨_, some bc, ps.set i (nd, .slice (some ⟨b4, 0, none⟩) nd.args.length nd.args.length), hm5.at ga4 hne, .inl g2, ?_, fun b hb => .inl (g4 b hb), ?_, ?_, ?_⟩, ?_, ?_⟩
      · refine ⟨by rw [flat_len]; simp; omega, .inr ⟨bc, cc, spc, by simp, rfl, ?_, ?_, by simpa using hcc⟩⟩
        · rw [← hsp]; exact hb5
        · rw [List.length_append, flat_len, List.length_set, ← flat_len, ← List.length_append]; exact hcap
      · have e1 := (g5.mod' hm4 (fun _ _ _ h _ => h)).mod' hm5 (fun b cs fz hb hc => kind_ne gc4 (hb ▸ hc) (by omega))
        intro p hp
        rcases List.mem_or_eq_of_mem_set hp with hp | rfl
        · obtain ⟨fp, k1, k2⟩ := e1 p hp
          exact ⟨fp, k1, fun b hb => .inl (k2 b hb)⟩
        · exact ⟨some b4, Own.of_block (hm5.at hb4 (fun hh => kind_ne hb4 (hh ▸ gc4) (by omega))) (by simp), fun b hb => .inr (by cases hb; rfl)⟩
      · rw [List.map_set, g6]
      · intro b hb
        rcases hb with hb | hb
        · have := g7 b hb; omega
        · omega
      · exact (((hm12.trans hm3).weak (fun _ h => h.elim)).step hm4 (fun _ h _ => h.elim)).step hm5 (fun j hj _ => hj ▸ g4 bc rfl)
      · intro b hb
        have := (hm12.trans hm3).size
        rcases hb with hb | hb
        · exact .inl hb
        · exact .inr (by omega)
end Go.Proofs.Ytnagmcdlepcgnaa
