/- Heap, the reference: Add, Get, Set. -/
import Derived.Test.YtnagmcdlepcgnaaR1
set_option linter.unusedSimpArgs false
set_option linter.unusedVariables false
namespace Go.Proofs.Ytnagmcdlepcgnaa
open Go Go.W

theorem radd_ok (a : Nat) (size times : Int) (ns : List Nd) (nd : Nd) (v : Value) (F : Nat → Prop) (w : World) (h : ArenaAt 77 35 w a size times ns F) (hle : (ns.length : Int) ≤ size) (hsz : size ≤ 1048576) (hx0 : Ints w v nd.args) :
    CallsR Try.prog 26 [.pointer (some ⟨a, 0, none⟩), .agg #[I nd.kind, I nd.num, v]] w (AddPost 77 35 a size times F w (addS size ns nd)) := by
  have hx := hx0
  obtain ⟨va, vc, rfl, hl, _⟩ := hx0
  refine fit26.calls rfl ?_
  unfold ir26
  (try simp only [go_sem, Nat.reduceAdd, Nat.reduceEqDiff, Nat.reduceLT, Nat.reduceLeDiff, Nat.reduceMul, Nat.zero_add, reduceCtorEq, ↓reduceIte, List.length_cons, List.length_nil, List.set_cons_zero, List.set_cons_succ, List.take_zero, List.take_succ_cons, List.drop_zero, List.drop_succ_cons, List.take_nil, List.drop_nil, List.nil_append, List.cons_append, List.append_nil, or_false, false_or, or_true, true_or, false_implies, true_implies, and_true, true_and, and_self, Bool.and_true, Bool.true_and])
  refine e_bx rfl ?_
  intro w1 hb1 hm1 hs1
  have h1 := h.mod hm1 (fun _ _ h => h)
  have hx1 := hx.mod hm1 (fun _ _ h => h)
  have hd : vLN w1 3 (.pointer (some ⟨w.heap.size, 0, none⟩)) = some (.agg #[I nd.kind, I nd.num, .slice va nd.args.length vc]) := ln_of hb1 (off := 0) (n := 3) (by simp)
  have same : ∀ w2, Mod (fun _ => False) w1 w2 → ∃ F', ArenaAt 77 35 w2 a size times ns F' ∧ Grow F F' w w2 := fun w2 hm2 =>
    ⟨F, h1.mod hm2 (fun _ _ h => h), (hm1.trans hm2).weak (fun _ h => h.elim), fun b hb => .inl hb⟩
  (try simp only [go_sem, Nat.reduceAdd, Nat.reduceEqDiff, Nat.reduceLT, Nat.reduceLeDiff, Nat.reduceMul, Nat.zero_add, reduceCtorEq, ↓reduceIte, List.length_cons, List.length_nil, List.set_cons_zero, List.set_cons_succ, List.take_zero, List.take_succ_cons, List.drop_zero, List.drop_succ_cons, List.take_nil, List.drop_nil, List.nil_append, List.cons_append, List.append_nil, or_false, false_or, or_true, true_or, false_implies, true_implies, and_true, true_and, and_self, Bool.and_true, Bool.true_and, hd])
  refine e_call (by rfl) ?_
  refine (rwrong_ok a 0 nd _ w1 ns h1.has hx1).mono ?_
  rintro r w2 ⟨rfl, hm2⟩
  have hb2 := hm2.at hb1 (fun h => h)
  (try simp only [go_sem, Nat.reduceAdd, Nat.reduceEqDiff, Nat.reduceLT, Nat.reduceLeDiff, Nat.reduceMul, Nat.zero_add, reduceCtorEq, ↓reduceIte, List.length_cons, List.length_nil, List.set_cons_zero, List.set_cons_succ, List.take_zero, List.take_succ_cons, List.drop_zero, List.drop_succ_cons, List.take_nil, List.drop_nil, List.nil_append, List.cons_append, List.append_nil, or_false, false_or, or_true, true_or, false_implies, true_implies, and_true, true_and, and_self, Bool.and_true, Bool.true_and])
  refine ir_cond rfl (fun hc => ?_) (fun hc => ?_)
  · (try simp only [go_sem, Nat.reduceAdd, Nat.reduceEqDiff, Nat.reduceLT, Nat.reduceLeDiff, Nat.reduceMul, Nat.zero_add, reduceCtorEq, ↓reduceIte, List.length_cons, List.length_nil, List.set_cons_zero, List.set_cons_succ, List.take_zero, List.take_succ_cons, List.drop_zero, List.drop_succ_cons, List.take_nil, List.drop_nil, List.nil_append, List.cons_append, List.append_nil, or_false, false_or, or_true, true_or, false_implies, true_implies, and_true, true_and, and_self, Bool.and_true, Bool.true_and])
    have hc' : ¬ wrongS ns nd = 0 := by simpa using hc
    have e : addS size ns nd = (0, wrongS ns nd, ns) := by
      unfold wrongS at hc' ⊢
      unfold addS
      split
      · rfl
      · split
        · rfl
        · rename_i h1 h2; rw [if_neg h1, if_neg h2] at hc'; exact absurd rfl hc'
    rw [e]
    exact ⟨rfl, same w2 hm2⟩
  have hc0 : wrongS ns nd = 0 := by simpa using hc
  have hc1 : nd.may = true := by
    cases hh : nd.may with
    | true => rfl
    | false => simp [wrongS, hh] at hc0
  have hc2 : okPl ns.length nd.args = true := by
    cases hh : okPl ns.length nd.args with
    | true => rfl
    | false => simp [wrongS, hh, hc1] at hc0
  have h2 := h1.mod hm2 (fun _ _ h => h)
  have hx2 := hx1.mod hm2 (fun _ _ h => h)
  obtain ⟨cv, fpc, ps, g1, g2, g3, g4, g5, g6, g7⟩ := h2
  obtain ⟨ca, cc, rfl, hcc, hca⟩ := g3.val
  (try simp only [go_sem, Nat.reduceAdd, Nat.reduceEqDiff, Nat.reduceLT, Nat.reduceLeDiff, Nat.reduceMul, Nat.zero_add, reduceCtorEq, ↓reduceIte, List.length_cons, List.length_nil, List.set_cons_zero, List.set_cons_succ, List.take_zero, List.take_succ_cons, List.drop_zero, List.drop_succ_cons, List.take_nil, List.drop_nil, List.nil_append, List.cons_append, List.append_nil, or_false, false_or, or_true, true_or, false_implies, true_implies, and_true, true_and, and_self, Bool.and_true, Bool.true_and, cell_of g1])
  refine ir_cond rfl (fun hc => ?_) (fun hc => ?_)
  · (try simp only [go_sem, Nat.reduceAdd, Nat.reduceEqDiff, Nat.reduceLT, Nat.reduceLeDiff, Nat.reduceMul, Nat.zero_add, reduceCtorEq, ↓reduceIte, List.length_cons, List.length_nil, List.set_cons_zero, List.set_cons_succ, List.take_zero, List.take_succ_cons, List.drop_zero, List.drop_succ_cons, List.take_nil, List.drop_nil, List.nil_append, List.cons_append, List.append_nil, or_false, false_or, or_true, true_or, false_implies, true_implies, and_true, true_and, and_self, Bool.and_true, Bool.true_and])
    have hc' : (ns.length : Int) ≥ size := by simpa using hc
    have e : addS size ns nd = (0, 201, ns) := by simp [addS, hc1, hc2]; omega
    rw [e]
    exact ⟨rfl, same w2.drew hm2.drew⟩
  have hc3 : ¬ (ns.length : Int) = size := by have : ¬ (ns.length : Int) ≥ size := by simpa using hc
                                              omega
  have hd2 : vLN w2.drew 3 (.pointer (some ⟨w.heap.size, 0, none⟩)) = some (.agg #[I nd.kind, I nd.num, .slice va nd.args.length vc]) := ln_of (w := w2.drew) hb2 (off := 0) (n := 3) (by simp)
  (try simp only [go_sem, Nat.reduceAdd, Nat.reduceEqDiff, Nat.reduceLT, Nat.reduceLeDiff, Nat.reduceMul, Nat.zero_add, reduceCtorEq, ↓reduceIte, List.length_cons, List.length_nil, List.set_cons_zero, List.set_cons_succ, List.take_zero, List.take_succ_cons, List.drop_zero, List.drop_succ_cons, List.take_nil, List.drop_nil, List.nil_append, List.cons_append, List.append_nil, or_false, false_or, or_true, true_or, false_implies, true_implies, and_true, true_and, and_self, Bool.and_true, Bool.true_and, hd2])
  refine e_call (by rfl) ?_
  refine (rcopied_ok nd.kind nd.num _ nd.args w2.drew hx2).mono ?_
  rintro r w3 ⟨v3, rfl, ⟨fp3, ho3, hfp3⟩, hm3⟩
  have hm3 : Mod (fun _ => False) w2 w3 := hm3.of_drew
  have hfp3 : ∀ b, fp3 = some b → w2.heap.size ≤ b := hfp3
  obtain ⟨va3, vc3, rfl, _⟩ := ho3.val
  (try simp only [go_sem, Nat.reduceAdd, Nat.reduceEqDiff, Nat.reduceLT, Nat.reduceLeDiff, Nat.reduceMul, Nat.zero_add, reduceCtorEq, ↓reduceIte, List.length_cons, List.length_nil, List.set_cons_zero, List.set_cons_succ, List.take_zero, List.take_succ_cons, List.drop_zero, List.drop_succ_cons, List.take_nil, List.drop_nil, List.nil_append, List.cons_append, List.append_nil, or_false, false_or, or_true, true_or, false_implies, true_implies, and_true, true_and, and_self, Bool.and_true, Bool.true_and])
  refine e_al ?_
  intro w4 hb4 hm4 hs4
  (try simp only [go_sem, Nat.reduceAdd, Nat.reduceEqDiff, Nat.reduceLT, Nat.reduceLeDiff, Nat.reduceMul, Nat.zero_add, reduceCtorEq, ↓reduceIte, List.length_cons, List.length_nil, List.set_cons_zero, List.set_cons_succ, List.take_zero, List.take_succ_cons, List.drop_zero, List.drop_succ_cons, List.take_nil, List.drop_nil, List.nil_append, List.cons_append, List.append_nil, or_false, false_or, or_true, true_or, false_implies, true_implies, and_true, true_and, and_self, Bool.and_true, Bool.true_and])
  refine e_sta rfl rfl hb4 rfl rfl (by simp [Value.oneCell']) ?_
  intro w5 hb5 hm5 hs5
  have l4 := lt_of_heap hb4
  have hm35 : Mod (fun _ => False) w3 w5 := hm4.step hm5 (fun i h hlt => by omega)
  have ga := hm35.at (hm3.at g1 (fun h => h)) (fun h => h)
  have gc := (g3.mod hm3 (fun _ _ h => h)).mod hm35 (fun _ _ h => h)
  have gs := (g5.mod hm3 (fun _ _ h => h)).mod hm35 (fun _ _ h => h)
  have ho5' := ho3.mod hm35 (fun _ _ h => h)
  have hd5 : vLN w5.drew 3 (.pointer (some ⟨w3.heap.size, 0, none⟩)) = some (.agg #[I nd.kind, I nd.num, .slice va3 nd.args.length vc3]) := ln_of (w := w5.drew) hb5 (off := 0) (n := 3) (by simp)
  (try simp only [go_sem, Nat.reduceAdd, Nat.reduceEqDiff, Nat.reduceLT, Nat.reduceLeDiff, Nat.reduceMul, Nat.zero_add, reduceCtorEq, ↓reduceIte, List.length_cons, List.length_nil, List.set_cons_zero, List.set_cons_succ, List.take_zero, List.take_succ_cons, List.drop_zero, List.drop_succ_cons, List.take_nil, List.drop_nil, List.nil_append, List.cons_append, List.append_nil, or_false, false_or, or_true, true_or, false_implies, true_implies, and_true, true_and, and_self, Bool.and_true, Bool.true_and, cell_of ga, hd5])
  refine e_bs (by rfl) (by (try simp only [go_sem, Nat.reduceAdd, Nat.reduceEqDiff, Nat.reduceLT, Nat.reduceLeDiff, Nat.reduceMul, Nat.zero_add, reduceCtorEq, ↓reduceIte, List.length_cons, List.length_nil, List.set_cons_zero, List.set_cons_succ, List.take_zero, List.take_succ_cons, List.drop_zero, List.drop_succ_cons, List.take_nil, List.drop_nil, List.nil_append, List.cons_append, List.append_nil, or_false, false_or, or_true, true_or, false_implies, true_implies, and_true, true_and, and_self, Bool.and_true, Bool.true_and]); rfl) ?_
  intro w6 hb6 hm6 hs6
  have hm6 : Mod (fun _ => False) w5 w6 := hm6.of_drew
  (try simp only [go_sem, Nat.reduceAdd, Nat.reduceEqDiff, Nat.reduceLT, Nat.reduceLeDiff, Nat.reduceMul, Nat.zero_add, reduceCtorEq, ↓reduceIte, List.length_cons, List.length_nil, List.set_cons_zero, List.set_cons_succ, List.take_zero, List.take_succ_cons, List.drop_zero, List.drop_succ_cons, List.take_nil, List.drop_nil, List.nil_append, List.cons_append, List.append_nil, or_false, false_or, or_true, true_or, false_implies, true_implies, and_true, true_and, and_self, Bool.and_true, Bool.true_and])
  refine ⟨hm6.old _ (lt_of_heap ga) (fun h => h), ?_⟩
  have ga6 := hm6.at ga (fun h => h)
  have gc6 := gc.mod hm6 (fun _ _ h => h)
  have ho6' := ho5'.mod hm6 (fun _ _ h => h)
  refine e_ap (m := 1) (news := nc (nd, .slice va3 nd.args.length vc3)) rfl gc6 rfl (fun h => by cases h) (rd_block hb6) (by simp [nc, Value.oneCell']) rfl (by omega) (by omega) ?_
  intro v7 w7 fp7 ho7 hm7 hf7
  have hne : fpc ≠ some a := own_ne gc6 ga6 (by omega)
  have ga7 := hm7.at ga6 hne
  obtain ⟨va7, vc7, rfl, _⟩ := ho7.val
  (try simp only [go_sem, Nat.reduceAdd, Nat.reduceEqDiff, Nat.reduceLT, Nat.reduceLeDiff, Nat.reduceMul, Nat.zero_add, reduceCtorEq, ↓reduceIte, List.length_cons, List.length_nil, List.set_cons_zero, List.set_cons_succ, List.take_zero, List.take_succ_cons, List.drop_zero, List.drop_succ_cons, List.take_nil, List.drop_nil, List.nil_append, List.cons_append, List.append_nil, or_false, false_or, or_true, true_or, false_implies, true_implies, and_true, true_and, and_self, Bool.and_true, Bool.true_and])
  refine e_st1 (off := 1) rfl rfl ga7 rfl (by simp) ?_
  intro w8 hb8 hm8 hs8
  have hw : IntKind.i64.wrap (((ns.length + 1 : Nat) : Int) - 1) = ns.length := by rw [wrap_in] <;> omega
  (try simp only [go_sem, Nat.reduceAdd, Nat.reduceEqDiff, Nat.reduceLT, Nat.reduceLeDiff, Nat.reduceMul, Nat.zero_add, reduceCtorEq, ↓reduceIte, List.length_cons, List.length_nil, List.set_cons_zero, List.set_cons_succ, List.take_zero, List.take_succ_cons, List.drop_zero, List.drop_succ_cons, List.take_nil, List.drop_nil, List.nil_append, List.cons_append, List.append_nil, or_false, false_or, or_true, true_or, false_implies, true_implies, and_true, true_and, and_self, Bool.and_true, Bool.true_and, cell_of hb8, hw])
  have la := lt_of_heap g1
  have hall : Mod F w w8 := ((((((hm1.weak (fun _ h => h.elim)).step hm2 (fun _ h _ => h.elim)).step hm3 (fun _ h _ => h.elim)).step hm35 (fun _ h _ => h.elim)).step hm6 (fun _ h _ => h.elim)).step hm7 (fun i h _ => g4 i h)).step hm8 (fun i h _ => h ▸ g2)
  have hadd : addS size ns nd = ((ns.length : Int), 0, ns ++ [nd]) := by simp [addS, hc1, hc2, hc3]
  refine ⟨by rw [hadd], fun b => F b ∨ fp3 = some b ∨ fp7 = some b, ?_, hall, ?_⟩
  · rw [hadd]
    have hn7 : fp7 ≠ some a := own_ne ho7 ga7 (by omega)
    have hn3 : ∀ b, fp3 = some b → ¬ fpc = some b := fun b hb hh => by
      rcases ho6'.2 with ⟨_, _, h⟩ | ⟨b', c', sp', _, h, h', _⟩
      · rw [h] at hb; cases hb
      · rw [h] at hb; cases hb; exact own_kind gc6 hh h' (by omega)
    have hn3a : ∀ b, fp3 = some b → ¬ b = a := fun b hb hh => by have := hfp3 b hb; omega
    refine ⟨_, fp7, ps ++ [(nd, .slice va3 nd.args.length vc3)], hb8, .inl g2, ?_, fun b hb => .inr (.inr hb), ?_, ?_, ?_⟩
    · rw [flat_app, flat_one]
      simpa using ho7.mod hm8 (fun b hb hh => hn7 (by rw [hb, hh]))
    · have e1 := ((gs.mod hm6 (fun _ _ h => h)).mod' hm7 (fun b cs fz hb hc => own_kind gc6 hb hc (by omega))).mod' hm8 (fun b cs fz hb hc => kind_ne ga7 (hb ▸ hc) (by omega))
      refine (e1.weak (fun b hb => .inl hb)).app ?_
      intro p hp
      simp only [List.mem_cons, List.not_mem_nil, or_false] at hp; subst hp
      exact ⟨fp3, (ho6'.mod hm7 hn3).mod hm8 hn3a, fun b hb => .inr (.inl hb)⟩
    · simp [g6]
    · intro b hb
      have := hm3.size; have := hm35.size; have := hm6.size; have := hm7.size; have := hm8.size
      rcases hb with hb | hb | hb
      · have := g7 b hb; omega
      · have := ho6'.lt hb; omega
      · have := ho7.lt hb; omega
  · intro b hb
    have := hm1.size; have := hm2.size; have := hm3.size; have := hm35.size; have := hm6.size
    rcases hb with hb | hb | hb
    · exact .inl hb
    · have := hfp3 b hb; exact .inr (by omega)
    · rcases hf7 b hb with hh | hh
      · exact .inl (g4 b hh)
      · exact .inr (by omega)

theorem rget_ok (a : Nat) (size times : Int) (ns : List Nd) (at' : Int) (F : Nat → Prop) (w : World) (h : ArenaAt 77 35 w a size times ns F) (hlen : ns.length ≤ 1048576) (hargs : ∀ nd ∈ ns, nd.args.length ≤ 8) :
    CallsR Try.prog 27 [.pointer (some ⟨a, 0, none⟩), I at'] w (GetPost w ns at') := by
  refine fit27.calls rfl ?_
  unfold ir27
  (try simp only [go_sem, Nat.reduceAdd, Nat.reduceEqDiff, Nat.reduceLT, Nat.reduceLeDiff, Nat.reduceMul, Nat.zero_add, reduceCtorEq, ↓reduceIte, List.length_cons, List.length_nil, List.set_cons_zero, List.set_cons_succ, List.take_zero, List.take_succ_cons, List.drop_zero, List.drop_succ_cons, List.take_nil, List.drop_nil, List.nil_append, List.cons_append, List.append_nil, or_false, false_or, or_true, true_or, false_implies, true_implies, and_true, true_and, and_self, Bool.and_true, Bool.true_and])
  refine e_al ?_
  intro w1 hb1 hm1 hs1
  (try simp only [go_sem, Nat.reduceAdd, Nat.reduceEqDiff, Nat.reduceLT, Nat.reduceLeDiff, Nat.reduceMul, Nat.zero_add, reduceCtorEq, ↓reduceIte, List.length_cons, List.length_nil, List.set_cons_zero, List.set_cons_succ, List.take_zero, List.take_succ_cons, List.drop_zero, List.drop_succ_cons, List.take_nil, List.drop_nil, List.nil_append, List.cons_append, List.append_nil, or_false, false_or, or_true, true_or, false_implies, true_implies, and_true, true_and, and_self, Bool.and_true, Bool.true_and])
  refine e_bs (by rfl) (by (try simp only [go_sem, Nat.reduceAdd, Nat.reduceEqDiff, Nat.reduceLT, Nat.reduceLeDiff, Nat.reduceMul, Nat.zero_add, reduceCtorEq, ↓reduceIte, List.length_cons, List.length_nil, List.set_cons_zero, List.set_cons_succ, List.take_zero, List.take_succ_cons, List.drop_zero, List.drop_succ_cons, List.take_nil, List.drop_nil, List.nil_append, List.cons_append, List.append_nil, or_false, false_or, or_true, true_or, false_implies, true_implies, and_true, true_and, and_self, Bool.and_true, Bool.true_and]); rfl) ?_
  intro w2 hb2 hm2 hs2
  have hm12 := hm1.trans hm2
  have h2 := h.mod hm12 (fun _ _ h => h)
  have hx : Ints w2 (.slice (some ⟨w1.heap.size, 0, none⟩) 1 1) [at'] := ints_block (xs := [at']) hb2 (by simp)
  (try simp only [go_sem, Nat.reduceAdd, Nat.reduceEqDiff, Nat.reduceLT, Nat.reduceLeDiff, Nat.reduceMul, Nat.zero_add, reduceCtorEq, ↓reduceIte, List.length_cons, List.length_nil, List.set_cons_zero, List.set_cons_succ, List.take_zero, List.take_succ_cons, List.drop_zero, List.drop_succ_cons, List.take_nil, List.drop_nil, List.nil_append, List.cons_append, List.append_nil, or_false, false_or, or_true, true_or, false_implies, true_implies, and_true, true_and, and_self, Bool.and_true, Bool.true_and])
  refine e_call (by rfl) ?_
  refine (rplaces_ok a ns.length _ [at'] w2 h2.has hx).mono ?_
  rintro r w3 ⟨rfl, hm3⟩
  rw [okPl_one]
  have hm13 := hm12.trans hm3
  have l1 := lt_of_heap hb1
  have hb1' := hm3.at (hm2.at hb1 (fun h => h)) (fun h => h)
  have h3 := h2.mod hm3 (fun _ _ h => h)
  (try simp only [go_sem, Nat.reduceAdd, Nat.reduceEqDiff, Nat.reduceLT, Nat.reduceLeDiff, Nat.reduceMul, Nat.zero_add, reduceCtorEq, ↓reduceIte, List.length_cons, List.length_nil, List.set_cons_zero, List.set_cons_succ, List.take_zero, List.take_succ_cons, List.drop_zero, List.drop_succ_cons, List.take_nil, List.drop_nil, List.nil_append, List.cons_append, List.append_nil, or_false, false_or, or_true, true_or, false_implies, true_implies, and_true, true_and, and_self, Bool.and_true, Bool.true_and])
  refine ir_cond rfl (fun hc => ?_) (fun hc => ?_)
  · have hc' : ¬ (0 ≤ at' ∧ at' < ns.length) := by simp at hc; omega
    (try simp only [go_sem, Nat.reduceAdd, Nat.reduceEqDiff, Nat.reduceLT, Nat.reduceLeDiff, Nat.reduceMul, Nat.zero_add, reduceCtorEq, ↓reduceIte, List.length_cons, List.length_nil, List.set_cons_zero, List.set_cons_succ, List.take_zero, List.take_succ_cons, List.drop_zero, List.drop_succ_cons, List.take_nil, List.drop_nil, List.nil_append, List.cons_append, List.append_nil, or_false, false_or, or_true, true_or, false_implies, true_implies, and_true, true_and, and_self, Bool.and_true, Bool.true_and])
    refine e_sta rfl rfl hb1' rfl rfl (by simp [Value.oneCell']) ?_
    intro w4 hb4 hm4 hs4
    (try simp only [go_sem, Nat.reduceAdd, Nat.reduceEqDiff, Nat.reduceLT, Nat.reduceLeDiff, Nat.reduceMul, Nat.zero_add, reduceCtorEq, ↓reduceIte, List.length_cons, List.length_nil, List.set_cons_zero, List.set_cons_succ, List.take_zero, List.take_succ_cons, List.drop_zero, List.drop_succ_cons, List.take_nil, List.drop_nil, List.nil_append, List.cons_append, List.append_nil, or_false, false_or, or_true, true_or, false_implies, true_implies, and_true, true_and, and_self, Bool.and_true, Bool.true_and, ln_of hb4 (off := 0) (n := 3) (by simp)])
    refine ⟨hm13.step hm4 (fun i hi hlt => by omega), fun i nd he hn => ?_, fun _ => rfl⟩
    exact absurd ⟨by omega, by have := (List.getElem?_eq_some_iff.1 hn).1; omega⟩ hc'
  · have hc' : 0 ≤ at' ∧ at' < ns.length := by simpa using hc
    obtain ⟨i, rfl⟩ : ∃ i : Nat, at' = i := ⟨at'.toNat, by omega⟩
    have hi : i < ns.length := by omega
    obtain ⟨cv, fpc, ps, g1, g2, g3, g4, g5, g6, g7⟩ := h3
    have hps : ps.length = ns.length := by rw [← g6]; simp
    obtain ⟨bc, cc, spc, rfl, rfl, gc, hcc, hcap⟩ := g3.pos (by omega)
    have hi' : i < ps.length := by omega
    have hnd : ps[i].1 = ns[i] := by simp [← g6]
    (try simp only [go_sem, Nat.reduceAdd, Nat.reduceEqDiff, Nat.reduceLT, Nat.reduceLeDiff, Nat.reduceMul, Nat.zero_add, reduceCtorEq, ↓reduceIte, List.length_cons, List.length_nil, List.set_cons_zero, List.set_cons_succ, List.take_zero, List.take_succ_cons, List.drop_zero, List.drop_succ_cons, List.take_nil, List.drop_nil, List.nil_append, List.cons_append, List.append_nil, or_false, false_or, or_true, true_or, false_implies, true_implies, and_true, true_and, and_self, Bool.and_true, Bool.true_and, cell_of g1, hc', Int.toNat_natCast, node_ln gc hi'])
    have hav := g5.at hi' (by rw [hnd]; have := hargs ns[i] (List.getElem_mem hi); omega)
    refine e_call (by rfl) ?_
    refine (rcopied_ok ps[i].1.kind ps[i].1.num _ ps[i].1.args w3 hav).mono ?_
    rintro r w4 ⟨v4, rfl, ⟨fp4, ho4, hf4⟩, hm4⟩
    have hb4 := hm4.at hb1' (fun h => h)
    obtain ⟨va4, vc4, rfl, _⟩ := ho4.val
    (try simp only [go_sem, Nat.reduceAdd, Nat.reduceEqDiff, Nat.reduceLT, Nat.reduceLeDiff, Nat.reduceMul, Nat.zero_add, reduceCtorEq, ↓reduceIte, List.length_cons, List.length_nil, List.set_cons_zero, List.set_cons_succ, List.take_zero, List.take_succ_cons, List.drop_zero, List.drop_succ_cons, List.take_nil, List.drop_nil, List.nil_append, List.cons_append, List.append_nil, or_false, false_or, or_true, true_or, false_implies, true_implies, and_true, true_and, and_self, Bool.and_true, Bool.true_and])
    refine e_sta rfl rfl hb4 rfl rfl (by simp [Value.oneCell']) ?_
    intro w5 hb5 hm5 hs5
    (try simp only [go_sem, Nat.reduceAdd, Nat.reduceEqDiff, Nat.reduceLT, Nat.reduceLeDiff, Nat.reduceMul, Nat.zero_add, reduceCtorEq, ↓reduceIte, List.length_cons, List.length_nil, List.set_cons_zero, List.set_cons_succ, List.take_zero, List.take_succ_cons, List.drop_zero, List.drop_succ_cons, List.take_nil, List.drop_nil, List.nil_append, List.cons_append, List.append_nil, or_false, false_or, or_true, true_or, false_implies, true_implies, and_true, true_and, and_self, Bool.and_true, Bool.true_and, ln_of hb5 (off := 0) (n := 3) (by simp)])
    have s13 := hm2.size; have s3 := hm3.size
    refine ⟨(hm13.trans hm4).step hm5 (fun j hj hlt => by omega), fun j nd he hn => ?_, fun hh => absurd hc' hh⟩
    obtain rfl : i = j := by omega
    have e1 : nd = ps[i].1 := by
      rw [hnd]; rw [List.getElem?_eq_getElem hi] at hn; exact (Option.some.inj hn).symm
    subst e1
    refine ⟨_, rfl, fp4, ho4.mod hm5 (fun b hb hh => by have := hf4 b hb; omega), fun b hb => by have := hf4 b hb; omega⟩

theorem rset_ok (a : Nat) (size times : Int) (ns : List Nd) (at' : Int) (nd : Nd) (v : Value) (F : Nat → Prop) (w : World) (h : ArenaAt 77 35 w a size times ns F) (hlen : ns.length ≤ 1048576)
    (hargs : ∀ nd ∈ ns, nd.args.length ≤ 8) (hx0 : Ints w v nd.args) :
    CallsR Try.prog 29 [.pointer (some ⟨a, 0, none⟩), I at', .agg #[I nd.kind, I nd.num, v]] w (SetPost 77 35 a size times F w (setS ns at' nd)) := by
  have hx := hx0
  obtain ⟨va, vc, rfl, hl, _⟩ := hx0
  refine fit29.calls rfl ?_
  unfold ir29
  (try simp only [go_sem, Nat.reduceAdd, Nat.reduceEqDiff, Nat.reduceLT, Nat.reduceLeDiff, Nat.reduceMul, Nat.zero_add, reduceCtorEq, ↓reduceIte, List.length_cons, List.length_nil, List.set_cons_zero, List.set_cons_succ, List.take_zero, List.take_succ_cons, List.drop_zero, List.drop_succ_cons, List.take_nil, List.drop_nil, List.nil_append, List.cons_append, List.append_nil, or_false, false_or, or_true, true_or, false_implies, true_implies, and_true, true_and, and_self, Bool.and_true, Bool.true_and])
  refine e_bx rfl ?_
  intro w1 hb1 hm1 hs1
  (try simp only [go_sem, Nat.reduceAdd, Nat.reduceEqDiff, Nat.reduceLT, Nat.reduceLeDiff, Nat.reduceMul, Nat.zero_add, reduceCtorEq, ↓reduceIte, List.length_cons, List.length_nil, List.set_cons_zero, List.set_cons_succ, List.take_zero, List.take_succ_cons, List.drop_zero, List.drop_succ_cons, List.take_nil, List.drop_nil, List.nil_append, List.cons_append, List.append_nil, or_false, false_or, or_true, true_or, false_implies, true_implies, and_true, true_and, and_self, Bool.and_true, Bool.true_and])
  refine e_bs (by rfl) (by (try simp only [go_sem, Nat.reduceAdd, Nat.reduceEqDiff, Nat.reduceLT, Nat.reduceLeDiff, Nat.reduceMul, Nat.zero_add, reduceCtorEq, ↓reduceIte, List.length_cons, List.length_nil, List.set_cons_zero, List.set_cons_succ, List.take_zero, List.take_succ_cons, List.drop_zero, List.drop_succ_cons, List.take_nil, List.drop_nil, List.nil_append, List.cons_append, List.append_nil, or_false, false_or, or_true, true_or, false_implies, true_implies, and_true, true_and, and_self, Bool.and_true, Bool.true_and]); rfl) ?_
  intro w2 hb2 hm2 hs2
  have hm12 := hm1.trans hm2
  have h2 := h.mod hm12 (fun _ _ h => h)
  have hx1 : Ints w2 (.slice (some ⟨w1.heap.size, 0, none⟩) 1 1) [at'] := ints_block (xs := [at']) hb2 (by simp)
  (try simp only [go_sem, Nat.reduceAdd, Nat.reduceEqDiff, Nat.reduceLT, Nat.reduceLeDiff, Nat.reduceMul, Nat.zero_add, reduceCtorEq, ↓reduceIte, List.length_cons, List.length_nil, List.set_cons_zero, List.set_cons_succ, List.take_zero, List.take_succ_cons, List.drop_zero, List.drop_succ_cons, List.take_nil, List.drop_nil, List.nil_append, List.cons_append, List.append_nil, or_false, false_or, or_true, true_or, false_implies, true_implies, and_true, true_and, and_self, Bool.and_true, Bool.true_and])
  refine e_call (by rfl) ?_
  refine (rplaces_ok a ns.length _ [at'] w2 h2.has hx1).mono ?_
  rintro r w3 ⟨rfl, hm3⟩
  rw [okPl_one]
  have hm13 := hm12.trans hm3
  have hb1' := hm3.at (hm2.at hb1 (fun h => h)) (fun h => h)
  have h3 := h2.mod hm3 (fun _ _ h => h)
  have hx3 := hx.mod hm13 (fun _ _ h => h)
  have same : ∀ w4, Mod (fun _ => False) w3 w4 → ∃ F', ArenaAt 77 35 w4 a size times ns F' ∧ Grow F F' w w4 := fun w4 hm4 =>
    ⟨F, h3.mod hm4 (fun _ _ h => h), (hm13.trans hm4).weak (fun _ h => h.elim), fun b hb => .inl hb⟩
  (try simp only [go_sem, Nat.reduceAdd, Nat.reduceEqDiff, Nat.reduceLT, Nat.reduceLeDiff, Nat.reduceMul, Nat.zero_add, reduceCtorEq, ↓reduceIte, List.length_cons, List.length_nil, List.set_cons_zero, List.set_cons_succ, List.take_zero, List.take_succ_cons, List.drop_zero, List.drop_succ_cons, List.take_nil, List.drop_nil, List.nil_append, List.cons_append, List.append_nil, or_false, false_or, or_true, true_or, false_implies, true_implies, and_true, true_and, and_self, Bool.and_true, Bool.true_and])
  refine ir_cond rfl (fun hc => ?_) (fun hc => ?_)
  · have hc' : ¬ (0 ≤ at' ∧ at' < ns.length) := by simp at hc; omega
    (try simp only [go_sem, Nat.reduceAdd, Nat.reduceEqDiff, Nat.reduceLT, Nat.reduceLeDiff, Nat.reduceMul, Nat.zero_add, reduceCtorEq, ↓reduceIte, List.length_cons, List.length_nil, List.set_cons_zero, List.set_cons_succ, List.take_zero, List.take_succ_cons, List.drop_zero, List.drop_succ_cons, List.take_nil, List.drop_nil, List.nil_append, List.cons_append, List.append_nil, or_false, false_or, or_true, true_or, false_implies, true_implies, and_true, true_and, and_self, Bool.and_true, Bool.true_and])
    have e : setS ns at' nd = (202, ns) := by unfold setS; rw [if_pos hc']
    rw [e]
    exact ⟨rfl, same w3 (Mod.refl _ _)⟩
  have hc' : 0 ≤ at' ∧ at' < ns.length := by simpa using hc
  obtain ⟨i, rfl⟩ : ∃ i : Nat, at' = i := ⟨at'.toNat, by omega⟩
  have hi : i < ns.length := by omega
  have hd : vLN w3 3 (.pointer (some ⟨w.heap.size, 0, none⟩)) = some (.agg #[I nd.kind, I nd.num, .slice va nd.args.length vc]) := ln_of hb1' (off := 0) (n := 3) (by simp)
  (try simp only [go_sem, Nat.reduceAdd, Nat.reduceEqDiff, Nat.reduceLT, Nat.reduceLeDiff, Nat.reduceMul, Nat.zero_add, reduceCtorEq, ↓reduceIte, List.length_cons, List.length_nil, List.set_cons_zero, List.set_cons_succ, List.take_zero, List.take_succ_cons, List.drop_zero, List.drop_succ_cons, List.take_nil, List.drop_nil, List.nil_append, List.cons_append, List.append_nil, or_false, false_or, or_true, true_or, false_implies, true_implies, and_true, true_and, and_self, Bool.and_true, Bool.true_and, hd])
  refine e_call (by rfl) ?_
  refine (rwrong_ok a 0 nd _ w3 ns h3.has hx3).mono ?_
  rintro r w4 ⟨rfl, hm4⟩
  have hb4 := hm4.at hb1' (fun h => h)
  (try simp only [go_sem, Nat.reduceAdd, Nat.reduceEqDiff, Nat.reduceLT, Nat.reduceLeDiff, Nat.reduceMul, Nat.zero_add, reduceCtorEq, ↓reduceIte, List.length_cons, List.length_nil, List.set_cons_zero, List.set_cons_succ, List.take_zero, List.take_succ_cons, List.drop_zero, List.drop_succ_cons, List.take_nil, List.drop_nil, List.nil_append, List.cons_append, List.append_nil, or_false, false_or, or_true, true_or, false_implies, true_implies, and_true, true_and, and_self, Bool.and_true, Bool.true_and])
  refine ir_cond rfl (fun hm => ?_) (fun hm => ?_)
  · (try simp only [go_sem, Nat.reduceAdd, Nat.reduceEqDiff, Nat.reduceLT, Nat.reduceLeDiff, Nat.reduceMul, Nat.zero_add, reduceCtorEq, ↓reduceIte, List.length_cons, List.length_nil, List.set_cons_zero, List.set_cons_succ, List.take_zero, List.take_succ_cons, List.drop_zero, List.drop_succ_cons, List.take_nil, List.drop_nil, List.nil_append, List.cons_append, List.append_nil, or_false, false_or, or_true, true_or, false_implies, true_implies, and_true, true_and, and_self, Bool.and_true, Bool.true_and])
    have hm' : ¬ wrongS ns nd = 0 := by simpa using hm
    have e : setS ns i nd = (wrongS ns nd, ns) := by
      unfold wrongS at hm' ⊢
      unfold setS
      rw [if_neg (by simpa using hc')]
      split
      · rfl
      · split
        · rfl
        · rename_i h1 h2; rw [if_neg h1, if_neg h2] at hm'; exact absurd rfl hm'
    rw [e]
    exact ⟨rfl, same w4 hm4⟩
  have hc0 : wrongS ns nd = 0 := by simpa using hm
  have hm1' : nd.may = true := by
    cases hh : nd.may with
    | true => rfl
    | false => simp [wrongS, hh] at hc0
  have ho1 : okPl ns.length nd.args = true := by
    cases hh : okPl ns.length nd.args with
    | true => rfl
    | false => simp [wrongS, hh, hm1'] at hc0
  have e : setS ns i nd = (0, ns.set i nd) := by unfold setS; rw [if_neg (by simpa using hc'), if_neg (by simp [hm1']), if_neg (by simp [ho1])]; simp
  rw [e]
  have h4 := h3.mod hm4 (fun _ _ h => h)
  have hx4 := hx3.mod hm4 (fun _ _ h => h)
  have hm14 := hm13.trans hm4
  obtain ⟨cv, fpc, ps, g1, g2, g3, g4, g5, g6, g7⟩ := h4
  have hps : ps.length = ns.length := by rw [← g6]; simp
  obtain ⟨bc, cc, spc, rfl, rfl, gc, hcc, hcap⟩ := g3.pos (by omega)
  have hi' : i < ps.length := by omega
  have hflat := flat_len ps
  have hd4 : vLN w4.drew 3 (.pointer (some ⟨w.heap.size, 0, none⟩)) = some (.agg #[I nd.kind, I nd.num, .slice va nd.args.length vc]) := ln_of (w := w4.drew) hb4 (off := 0) (n := 3) (by simp)
  (try simp only [go_sem, Nat.reduceAdd, Nat.reduceEqDiff, Nat.reduceLT, Nat.reduceLeDiff, Nat.reduceMul, Nat.zero_add, reduceCtorEq, ↓reduceIte, List.length_cons, List.length_nil, List.set_cons_zero, List.set_cons_succ, List.take_zero, List.take_succ_cons, List.drop_zero, List.drop_succ_cons, List.take_nil, List.drop_nil, List.nil_append, List.cons_append, List.append_nil, or_false, false_or, or_true, true_or, false_implies, true_implies, and_true, true_and, and_self, Bool.and_true, Bool.true_and, cell_of g1, hd4])
  refine e_call (by rfl) ?_
  refine (rcopied_ok nd.kind nd.num _ nd.args w4.drew hx4).mono ?_
  rintro r w5 ⟨v5, rfl, ⟨fp5, ho5, hf5⟩, hm5⟩
  have hm5 : Mod (fun _ => False) w4 w5 := hm5.of_drew
  have hf5 : ∀ b, fp5 = some b → w4.heap.size ≤ b := hf5
  obtain ⟨va5, vc5, rfl, _⟩ := ho5.val
  have gc5 := hm5.at gc (fun h => h)
  have g15 := hm5.at g1 (fun h => h)
  (try simp only [go_sem, Nat.reduceAdd, Nat.reduceEqDiff, Nat.reduceLT, Nat.reduceLeDiff, Nat.reduceMul, Nat.zero_add, reduceCtorEq, ↓reduceIte, List.length_cons, List.length_nil, List.set_cons_zero, List.set_cons_succ, List.take_zero, List.take_succ_cons, List.drop_zero, List.drop_succ_cons, List.take_nil, List.drop_nil, List.nil_append, List.cons_append, List.append_nil, or_false, false_or, or_true, true_or, false_implies, true_implies, and_true, true_and, and_self, Bool.and_true, Bool.true_and, hc', Int.toNat_natCast])
  refine ⟨hm5.old _ (lt_of_heap g1) (fun h => h), ?_⟩
  refine e_stg rfl rfl gc5 rfl (by simp; omega) (by simp [Value.oneCell']) ?_
  intro w6 hb6 hm6 hs6
  (try simp only [go_sem, Nat.reduceAdd, Nat.reduceEqDiff, Nat.reduceLT, Nat.reduceLeDiff, Nat.reduceMul, Nat.zero_add, reduceCtorEq, ↓reduceIte, List.length_cons, List.length_nil, List.set_cons_zero, List.set_cons_succ, List.take_zero, List.take_succ_cons, List.drop_zero, List.drop_succ_cons, List.take_nil, List.drop_nil, List.nil_append, List.cons_append, List.append_nil, or_false, false_or, or_true, true_or, false_implies, true_implies, and_true, true_and, and_self, Bool.and_true, Bool.true_and])
  have hne : a ≠ bc := fun hh => kind_ne g15 (hh ▸ gc5) (by omega)
  have hsp := flat_set ps i (nd, .slice va5 nd.args.length vc5) hi' spc
  have lc := lt_of_heap gc
  have la := lt_of_heap g1
  have h45 := hm5.size; have h55 := hm6.size; have h14 := hm14.size
  have hn5 : ∀ b, fp5 = some b → ¬ b = bc := fun b hb hh => by have := hf5 b hb; omega
  refine ⟨rfl, fun b => F b ∨ fp5 = some b, ⟨_, some bc, ps.set i (nd, .slice va5 nd.args.length vc5), hm6.at g15 hne, .inl g2, ?_, fun b hb => .inl (g4 b hb), ?_, ?_, ?_⟩, ?_, ?_⟩
  · refine ⟨by rw [flat_len]; simp; omega, .inr ⟨bc, cc, spc, by simp, rfl, ?_, ?_, by simpa using hcc⟩⟩
    · rw [← hsp]; exact hb6
    · rw [List.length_append, flat_len, List.length_set, ← flat_len, ← List.length_append]; exact hcap
  · have e1 := (g5.mod' hm5 (fun _ _ _ h _ => h)).mod' hm6 (fun b cs fz hb hc => kind_ne gc5 (hb ▸ hc) (by omega))
    intro p hp
    rcases List.mem_or_eq_of_mem_set hp with hp | rfl
    · obtain ⟨fp, k1, k2⟩ := e1 p hp
      exact ⟨fp, k1, fun b hb => .inl (k2 b hb)⟩
    · exact ⟨fp5, ho5.mod hm6 hn5, fun b hb => .inr hb⟩
  · rw [List.map_set, g6]
  · intro b hb
    rcases hb with hb | hb
    · have := g7 b hb; omega
    · have := ho5.lt hb; omega
  · exact ((hm14.weak (fun _ h => h.elim)).step hm5 (fun _ h _ => h.elim)).step hm6 (fun j hj _ => hj ▸ g4 bc rfl)
  · intro b hb
    rcases hb with hb | hb
    · exact .inl hb
    · have := hf5 b hb; exact .inr (by omega)
end Go.Proofs.Ytnagmcdlepcgnaa
