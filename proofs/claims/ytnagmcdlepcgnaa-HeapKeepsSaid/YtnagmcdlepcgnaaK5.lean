/- Heap, HeapKeeps walked. -/
import Derived.Test.YtnagmcdlepcgnaaK4
set_option linter.unusedSimpArgs false
set_option linter.unusedVariables false
namespace Go.Proofs.Ytnagmcdlepcgnaa
open Go Go.W

theorem room_law {size times : Int} {ns : List Nd} {roots : List Int} (hf : Fine size ns) (ho : okPl ns.length roots = true) (n : Int) :
    (n ≤ 0 ∨ n ≤ size - (colNs ns roots).length → (roomS size times ns (if n > 0 then n else 0) roots).err = 0 ∧ (roomS size times ns (if n > 0 then n else 0) roots).list.length = roots.length) ∧
    (¬ (n ≤ 0 ∨ n ≤ size - (colNs ns roots).length) → (roomS size times ns (if n > 0 then n else 0) roots).err = 201 ∧ (roomS size times ns (if n > 0 then n else 0) roots).list.length = 0) := by
  have hl := col_len hf.1 roots ho
  have h2 := hf.2.1
  generalize hM : (if n > 0 then n else 0) = m
  have hm : (n > 0 ∧ m = n) ∨ (n ≤ 0 ∧ m = 0) := by split at hM <;> omega
  unfold roomS RoomR.list
  rw [if_neg (by omega), if_neg (by simp [ho])]
  refine ⟨fun h => ?_, fun h => ?_⟩
  · split
    · simp
    · rename_i h3
      rw [if_neg (by omega)]
      simp [colRoots]
  · rw [if_neg (by omega), if_pos (by omega)]
    simp

theorem own_vblk {w : World} {T sz n x : Nat} {v : Value} {xs : List Value} {fp : Option Nat} (h : Own w T sz v xs n fp) (hv : vblk v = some x) : fp = some x := by
  rcases h.2 with ⟨rfl, _⟩ | ⟨b', c', _, rfl, hfp, _⟩
  · cases hv
  · cases hv; exact hfp

theorem keeps_ok (w : World) (size n : Int) (v rv : Value) (os : List OpV) (roots : List Int) (h : Ops w v os) (hr : Ints w rv roots) :
    CallsR Try.prog 3 [I size, v, rv, I n] w fun q w' => q = .bool true ∧ Mod (fun _ => False) w w' := by
  have hr0 := hr
  obtain ⟨ra, rc, rfl, _, _⟩ := hr0
  refine fit3.calls rfl ?_
  unfold ir3
  (try simp only [go_sem, Nat.reduceAdd, Nat.reduceEqDiff, Nat.reduceLT, Nat.reduceLeDiff, Nat.reduceMul, Nat.zero_add, reduceCtorEq, ↓reduceIte, List.length_cons, List.length_nil, List.set_cons_zero, List.set_cons_succ, List.take_zero, List.take_succ_cons, List.drop_zero, List.drop_succ_cons, List.take_nil, List.drop_nil, List.nil_append, List.cons_append, List.append_nil, or_false, false_or, or_true, true_or, false_implies, true_implies, and_true, true_and, and_self, Bool.and_true, Bool.true_and])
  refine e_call (by rfl) ?_
  refine (awake_ok w).mono ?_
  rintro q w1 ⟨rfl, hm1⟩
  (try simp only [go_sem, Nat.reduceAdd, Nat.reduceEqDiff, Nat.reduceLT, Nat.reduceLeDiff, Nat.reduceMul, Nat.zero_add, reduceCtorEq, ↓reduceIte, List.length_cons, List.length_nil, List.set_cons_zero, List.set_cons_succ, List.take_zero, List.take_succ_cons, List.drop_zero, List.drop_succ_cons, List.take_nil, List.drop_nil, List.nil_append, List.cons_append, List.append_nil, or_false, false_or, or_true, true_or, false_implies, true_implies, and_true, true_and, and_self, Bool.and_true, Bool.true_and])
  refine e_call (by rfl) ?_
  refine (made_ok w1 size v os (ops_mod h hm1)).mono ?_
  rintro q w2 ⟨hm2, n2, g2⟩
  by_cases g : 1 ≤ size ∧ size ≤ 1048576
  · obtain ⟨a, F, rfl, ha, hf, hF⟩ := g2 g
    (try simp only [go_sem, Nat.reduceAdd, Nat.reduceEqDiff, Nat.reduceLT, Nat.reduceLeDiff, Nat.reduceMul, Nat.zero_add, reduceCtorEq, ↓reduceIte, List.length_cons, List.length_nil, List.set_cons_zero, List.set_cons_succ, List.take_zero, List.take_succ_cons, List.drop_zero, List.drop_succ_cons, List.take_nil, List.drop_nil, List.nil_append, List.cons_append, List.append_nil, or_false, false_or, or_true, true_or, false_implies, true_implies, and_true, true_and, and_self, Bool.and_true, Bool.true_and])
    refine e_call (by rfl) ?_
    refine (made_ok w2 size v os ((ops_mod h hm1) |> fun h => ops_mod h hm2)).mono ?_
    rintro q w3 ⟨hm3, _, g3⟩
    obtain ⟨b, G, rfl, hb, _, hG⟩ := g3 g
    have hm03 := (hm1.trans hm2).trans hm3
    have ha3 := ha.mod hm3 (fun _ _ h => h)
    generalize hN : madeS size os = ns at *
    have hFl : ∀ x, F x → x < w2.heap.size := by obtain ⟨_, _, _, _, _, _, _, _, _, h⟩ := ha; exact h
    have hFG : ∀ x, F x → ¬ G x := fun x hx hh => by have := hFl x hx; have := hG x hh; omega
    (try simp only [go_sem, Nat.reduceAdd, Nat.reduceEqDiff, Nat.reduceLT, Nat.reduceLeDiff, Nat.reduceMul, Nat.zero_add, reduceCtorEq, ↓reduceIte, List.length_cons, List.length_nil, List.set_cons_zero, List.set_cons_succ, List.take_zero, List.take_succ_cons, List.drop_zero, List.drop_succ_cons, List.take_nil, List.drop_nil, List.nil_append, List.cons_append, List.append_nil, or_false, false_or, or_true, true_or, false_implies, true_implies, and_true, true_and, and_self, Bool.and_true, Bool.true_and, Bool.not_true, Bool.not_false, Option.isNone_some])
    refine e_call (by rfl) ?_
    refine (col_ok b size 0 ns G w3 _ roots hb hf.len hf.1 (hr.mod hm03 (fun _ _ h => h))).mono ?_
    rintro q w4 ⟨c1, c2⟩
    cases ho : okPl ns.length roots with
    | false =>
      obtain ⟨rfl, hm4⟩ := c1 ho
      have e1 : ((202 : Int) != 0) = true := rfl
      have e2 : ((202 : Int) == 202) = true := rfl
      (try simp only [go_sem, Nat.reduceAdd, Nat.reduceEqDiff, Nat.reduceLT, Nat.reduceLeDiff, Nat.reduceMul, Nat.zero_add, reduceCtorEq, ↓reduceIte, List.length_cons, List.length_nil, List.set_cons_zero, List.set_cons_succ, List.take_zero, List.take_succ_cons, List.drop_zero, List.drop_succ_cons, List.take_nil, List.drop_nil, List.nil_append, List.cons_append, List.append_nil, or_false, false_or, or_true, true_or, false_implies, true_implies, and_true, true_and, and_self, Bool.and_true, Bool.true_and, e1, e2])
      exact hm03.trans hm4
    | true =>
      obtain ⟨mv, mf, G', rfl, hmo, hb4, hg4, hmf⟩ := c2 ho
      obtain ⟨ma, mc, rfl, _, _⟩ := hmo.val
      have hfc : Fine size (colNs ns roots) := fine_col hf ho
      obtain ⟨hmet, hclo, hroot⟩ := reached_met hf.1 ho
      have hml := met_len hmet
      have hfl := hf.len
      have e0 : ((0 : Int) != 0) = false := rfl
      have s12 := hm1.size; have s23 := hm2.size; have s34 := hm3.size; have s45 := hg4.1.size
      have hm04 : Mod (fun _ => False) w w4 := hm03.step hg4.1 (fun x hx hlt => by have := hG x hx; omega)
      have ha4 := ha3.mod hg4.1 hFG
      have hG' : ∀ x, G' x → w2.heap.size ≤ x := fun x hx => (hg4.2 x hx).elim (hG x) (fun h => by omega)
      have hF' : ∀ x, F x → ¬ G' x := fun x hx hh => by have := hFl x hx; have := hG' x hh; omega
      have hGl : ∀ x, G' x → x < w4.heap.size := by obtain ⟨_, _, _, _, _, _, _, _, _, h⟩ := hb4; exact h
      (try simp only [go_sem, Nat.reduceAdd, Nat.reduceEqDiff, Nat.reduceLT, Nat.reduceLeDiff, Nat.reduceMul, Nat.zero_add, reduceCtorEq, ↓reduceIte, List.length_cons, List.length_nil, List.set_cons_zero, List.set_cons_succ, List.take_zero, List.take_succ_cons, List.drop_zero, List.drop_succ_cons, List.take_nil, List.drop_nil, List.nil_append, List.cons_append, List.append_nil, or_false, false_or, or_true, true_or, false_implies, true_implies, and_true, true_and, and_self, Bool.and_true, Bool.true_and, e0])
      refine e_bx rfl ?_
      intro w5 hb5 hm5 hs5
      have hb5 : w5.heap[w4.heap.size]? = some (.cells #[.slice none 0 0, .slice none 0 0] 32 (0, 0)) := hb5
      have hg5 : GMet w5 w4.heap.size [] (· = w4.heap.size) :=
        ⟨_, _, none, none, hb5, Own.nil _ _ _, Own.nil _ _ _, rfl, rfl, (fun x hx => by cases hx), (fun x hx => by cases hx), (fun x hx => by omega)⟩
      have hm05 := hm04.trans hm5
      have hmo5 := hmo.mod hm5 (fun _ _ h => h)
      have hcl : (colRoots ns roots).length = roots.length := by simp [colRoots]
      have hrl : roots.length ≤ 17592186044416 := by obtain ⟨_, _, _, h, _⟩ := hr; exact h
      have hpre0 : meets ns [] roots <+: reached ns roots := reach_pre ns _ _ _
      have hra : roots ≠ [] → ∀ x, vblk (Value.slice ra roots.length rc) = some x → ¬ x = w4.heap.size := fun hne x hx hh => by have := ints_lt hr hne x hx; omega
      have hma : ∀ x, vblk (Value.slice ma (colRoots ns roots).length mc) = some x → mf = some x := by
        rcases hmo.2 with ⟨e, _⟩ | ⟨b', c', _, e, hfp, _⟩
        · simp only [Value.slice.injEq] at e
          obtain ⟨rfl, _⟩ := e
          intro x hx; cases hx
        · simp only [Value.slice.injEq] at e
          obtain ⟨rfl, _⟩ := e
          intro x hx; cases hx; exact hfp
      (try simp only [go_sem, Nat.reduceAdd, Nat.reduceEqDiff, Nat.reduceLT, Nat.reduceLeDiff, Nat.reduceMul, Nat.zero_add, reduceCtorEq, ↓reduceIte, List.length_cons, List.length_nil, List.set_cons_zero, List.set_cons_succ, List.take_zero, List.take_succ_cons, List.drop_zero, List.drop_succ_cons, List.take_nil, List.drop_nil, List.nil_append, List.cons_append, List.append_nil, or_false, false_or, or_true, true_or, false_implies, true_implies, and_true, true_and, and_self, Bool.and_true, Bool.true_and])
      refine e_call (by rfl) ?_
      refine (pairs_ok w5 w4.heap.size a b size 0 _ ns roots F G' (· = w4.heap.size) (ha4.mod hm5 (fun _ _ h => h)) (hb4.mod hm5 (fun _ _ h => h)) hf hfc ho (fun x hx hh => by have := hFl x hx; omega) (fun x hx hh => by have := hGl x hx; omega) [] hg5 _ _ roots (hr.mod hm05 (fun _ _ h => h)) ((hmo5.ints (by omega)).1)
        hra (fun _ x hx hh => by have := hmo.lt (hma x hx); omega) ho hpre0).mono ?_
      rintro q w6 ⟨rfl, GF, hg6, hm6, hn6⟩
      have hm46 : Mod (fun _ => False) w4 w6 := hm5.step hm6 (fun x hx hlt => by omega)
      have hn6' : ∀ x, GF x → w4.heap.size ≤ x := fun x hx => (hn6 x hx).elim (fun h => by omega) (fun h => by omega)
      have small : ∀ x, x < ns.length → (ndAt ns x).args.length ≤ 17592186044416 := fun x hx => by
        have := fine_args hf _ (List.getElem_mem hx)
        have e : ndAt ns x = ns[x] := by simp [ndAt, hx]
        rw [e]; omega
      (try simp only [go_sem, Nat.reduceAdd, Nat.reduceEqDiff, Nat.reduceLT, Nat.reduceLeDiff, Nat.reduceMul, Nat.zero_add, reduceCtorEq, ↓reduceIte, List.length_cons, List.length_nil, List.set_cons_zero, List.set_cons_succ, List.take_zero, List.take_succ_cons, List.drop_zero, List.drop_succ_cons, List.take_nil, List.drop_nil, List.nil_append, List.cons_append, List.append_nil, or_false, false_or, or_true, true_or, false_implies, true_implies, and_true, true_and, and_self, Bool.and_true, Bool.true_and, Bool.not_true, Bool.not_false])
      refine ir_loop (fun m ρ w' => ∃ (i : Nat) (cur : List Nat) (GF' : Nat → Prop), m = (reached ns roots).length - i ∧ i ≤ cur.length ∧ Met ns cur ∧ reach ns (ns.length + 1 - i) i cur = reached ns roots ∧ GMet w' w4.heap.size cur GF' ∧ Mod (fun _ => False) w4 w' ∧ (∀ x, GF' x → w4.heap.size ≤ x) ∧
        ρ = [(0, I size), (2, .slice ra roots.length rc), (3, I n), (10, .pointer (some ⟨a, 0, none⟩)), (11, .pointer (some ⟨b, 0, none⟩)), (12, .slice ma (colRoots ns roots).length mc), (14, .pointer (some ⟨w4.heap.size, 0, none⟩)), (16, I i)]) (reached ns roots).length
        ⟨0, _, GF, rfl, Nat.zero_le _, met_meets hf.1 roots (met_nil ns) ho, rfl, hg6, hm46, hn6', rfl⟩ ?_
      rintro m ρ w' ⟨i, cur, GF', rfl, hi, hmc, hre, hg', hm', hn', rfl⟩
      have hpre : cur <+: reached ns roots := by rw [← hre]; exact reach_pre ns _ _ _
      have hcl2 := met_len hmc
      have hg0 := hg'
      obtain ⟨v1, v2, f1, f2, k1, k2, k3, k4, k5, k6, k7, k8⟩ := hg0
      obtain ⟨x1, y1, rfl, _, _⟩ := k2.val
      obtain ⟨x2, y2, rfl, _, _⟩ := k3.val
      unfold ir3L1
      have hzl := zs_len cur
      (try simp only [go_sem, Nat.reduceAdd, Nat.reduceEqDiff, Nat.reduceLT, Nat.reduceLeDiff, Nat.reduceMul, Nat.zero_add, reduceCtorEq, ↓reduceIte, List.length_cons, List.length_nil, List.set_cons_zero, List.set_cons_succ, List.take_zero, List.take_succ_cons, List.drop_zero, List.drop_succ_cons, List.take_nil, List.drop_nil, List.nil_append, List.cons_append, List.append_nil, or_false, false_or, or_true, true_or, false_implies, true_implies, and_true, true_and, and_self, Bool.and_true, Bool.true_and, cell_of k1])
      refine ir_cond rfl (fun hc => ?_) (fun hc => ?_)
      · have hc' : i < cur.length := by simp [zs_len] at hc; exact hc
        have b1 : (0 : Int) ≤ i ∧ (i : Int) < (zs cur).length := by omega
        have hlen : i < (reached ns roots).length := Nat.lt_of_lt_of_le hc' hpre.length_le
        obtain ⟨c, hcE⟩ : ∃ c, cur[i] = c := ⟨_, rfl⟩
        have hcl3 : c < ns.length ∧ over ns c = c := by rw [← hcE]; exact hmc.2 _ (List.getElem_mem hc')
        have hout : (reached ns roots)[i] = c := by
          have := pre_at hpre hc'
          rw [List.getElem?_eq_getElem hc', List.getElem?_eq_getElem hlen] at this
          rw [← hcE]; exact Option.some.inj this
        obtain ⟨q1, r1, e1, t1⟩ := own_at k2 (i := i) (by omega) (u := I (c : Nat)) (by simp [zs, hc', hcE])
        obtain ⟨q2, r2, e2, t2⟩ := own_at k3 (i := i) (by omega) (u := I (i : Nat)) (by simp [zs, hc'])
        simp only [Value.slice.injEq] at e1 e2
        obtain ⟨rfl, _, rfl⟩ := e1
        obtain ⟨rfl, _, rfl⟩ := e2
        (try simp only [go_sem, Nat.reduceAdd, Nat.reduceEqDiff, Nat.reduceLT, Nat.reduceLeDiff, Nat.reduceMul, Nat.zero_add, reduceCtorEq, ↓reduceIte, List.length_cons, List.length_nil, List.set_cons_zero, List.set_cons_succ, List.take_zero, List.take_succ_cons, List.drop_zero, List.drop_succ_cons, List.take_nil, List.drop_nil, List.nil_append, List.cons_append, List.append_nil, or_false, false_or, or_true, true_or, false_implies, true_implies, and_true, true_and, and_self, Bool.and_true, Bool.true_and, Nat.mul_one, Int.toNat_natCast, Int.toNat_zero, Nat.sub_zero, Nat.sub_self, cell_of k1, b1, t1])
        refine e_call (by rfl) ?_
        refine (get_ok a size 0 ns c F w' (ha4.mod hm' (fun _ _ h => h)) hfl (fine_args hf)).mono ?_
        rintro q w7 g7
        obtain ⟨hm7, v3, f3, rfl, o3, n3⟩ := get_list g7
        rw [getS_at hcl3.1] at o3
        obtain ⟨va3, vc3, rfl, _, _⟩ := o3.val
        (try simp only [go_sem, Nat.reduceAdd, Nat.reduceEqDiff, Nat.reduceLT, Nat.reduceLeDiff, Nat.reduceMul, Nat.zero_add, reduceCtorEq, ↓reduceIte, List.length_cons, List.length_nil, List.set_cons_zero, List.set_cons_succ, List.take_zero, List.take_succ_cons, List.drop_zero, List.drop_succ_cons, List.take_nil, List.drop_nil, List.nil_append, List.cons_append, List.append_nil, or_false, false_or, or_true, true_or, false_implies, true_implies, and_true, true_and, and_self, Bool.and_true, Bool.true_and, Nat.mul_one, Int.toNat_natCast, Int.toNat_zero, Nat.sub_zero, Nat.sub_self, getS_at hcl3.1])
        refine e_al ?_
        intro w8 hb8 hm8 hs8
        have hb8 : w8.heap[w7.heap.size]? = some (.cells #[I 0, I 0, .slice none 0 0] 35 (0, 0)) := hb8
        (try simp only [go_sem, Nat.reduceAdd, Nat.reduceEqDiff, Nat.reduceLT, Nat.reduceLeDiff, Nat.reduceMul, Nat.zero_add, reduceCtorEq, ↓reduceIte, List.length_cons, List.length_nil, List.set_cons_zero, List.set_cons_succ, List.take_zero, List.take_succ_cons, List.drop_zero, List.drop_succ_cons, List.take_nil, List.drop_nil, List.nil_append, List.cons_append, List.append_nil, or_false, false_or, or_true, true_or, false_implies, true_implies, and_true, true_and, and_self, Bool.and_true, Bool.true_and])
        refine e_sta rfl rfl hb8 rfl rfl (by simp [Value.oneCell']) ?_
        intro w9 hb9 hm9 hs9
        have hm79 : Mod (fun _ => False) w7 w9 := hm8.step hm9 (fun x hx hlt => by omega)
        have hm'9 := hm7.trans hm79
        have k1' := hm'9.at k1 (fun h => h)
        have t2' := hm'9.cell t2 (fun h => h)
        (try simp only [go_sem, Nat.reduceAdd, Nat.reduceEqDiff, Nat.reduceLT, Nat.reduceLeDiff, Nat.reduceMul, Nat.zero_add, reduceCtorEq, ↓reduceIte, List.length_cons, List.length_nil, List.set_cons_zero, List.set_cons_succ, List.take_zero, List.take_succ_cons, List.drop_zero, List.drop_succ_cons, List.take_nil, List.drop_nil, List.nil_append, List.cons_append, List.append_nil, or_false, false_or, or_true, true_or, false_implies, true_implies, and_true, true_and, and_self, Bool.and_true, Bool.true_and, Nat.mul_one, Int.toNat_natCast, Int.toNat_zero, Nat.sub_zero, Nat.sub_self, cell_of k1', b1, t2'])
        refine e_call (by rfl) ?_
        refine (get_ok b size _ (colNs ns roots) i G' w9 ((hb4.mod hm' (fun _ _ h => h)).mod hm'9 (fun _ _ h => h)) hfc.len (fine_args hfc)).mono ?_
        rintro q w10 g10
        obtain ⟨hm10, v4, f4, rfl, o4, n4⟩ := get_list g10
        have hil : i < (colNs ns roots).length := by rw [col_length]; exact hlen
        rw [getS_at hil, col_at hlen, hout] at o4
        obtain ⟨va4, vc4, rfl, _, _⟩ := o4.val
        (try simp only [go_sem, Nat.reduceAdd, Nat.reduceEqDiff, Nat.reduceLT, Nat.reduceLeDiff, Nat.reduceMul, Nat.zero_add, reduceCtorEq, ↓reduceIte, List.length_cons, List.length_nil, List.set_cons_zero, List.set_cons_succ, List.take_zero, List.take_succ_cons, List.drop_zero, List.drop_succ_cons, List.take_nil, List.drop_nil, List.nil_append, List.cons_append, List.append_nil, or_false, false_or, or_true, true_or, false_implies, true_implies, and_true, true_and, and_self, Bool.and_true, Bool.true_and, Nat.mul_one, Int.toNat_natCast, Int.toNat_zero, Nat.sub_zero, Nat.sub_self, getS_at hil, col_at hlen, hout])
        refine e_al ?_
        intro w11 hb11 hm11 hs11
        have hb11 : w11.heap[w10.heap.size]? = some (.cells #[I 0, I 0, .slice none 0 0] 35 (0, 0)) := hb11
        (try simp only [go_sem, Nat.reduceAdd, Nat.reduceEqDiff, Nat.reduceLT, Nat.reduceLeDiff, Nat.reduceMul, Nat.zero_add, reduceCtorEq, ↓reduceIte, List.length_cons, List.length_nil, List.set_cons_zero, List.set_cons_succ, List.take_zero, List.take_succ_cons, List.drop_zero, List.drop_succ_cons, List.take_nil, List.drop_nil, List.nil_append, List.cons_append, List.append_nil, or_false, false_or, or_true, true_or, false_implies, true_implies, and_true, true_and, and_self, Bool.and_true, Bool.true_and])
        refine e_sta rfl rfl hb11 rfl rfl (by simp [Value.oneCell']) ?_
        intro w12 hb12 hm12 hs12
        have hm1012 : Mod (fun _ => False) w10 w12 := hm11.step hm12 (fun x hx hlt => by omega)
        have hm912 := hm10.trans hm1012
        have hm'12 := hm'9.trans hm912
        have hb912 := hm912.at hb9 (fun h => h)
        have o3' := (o3.mod hm79 (fun _ _ h => h)).mod hm912 (fun _ _ h => h)
        have o4' := o4.mod hm1012 (fun _ _ h => h)
        (try simp only [go_sem, Nat.reduceAdd, Nat.reduceEqDiff, Nat.reduceLT, Nat.reduceLeDiff, Nat.reduceMul, Nat.zero_add, reduceCtorEq, ↓reduceIte, List.length_cons, List.length_nil, List.set_cons_zero, List.set_cons_succ, List.take_zero, List.take_succ_cons, List.drop_zero, List.drop_succ_cons, List.take_nil, List.drop_nil, List.nil_append, List.cons_append, List.append_nil, or_false, false_or, or_true, true_or, false_implies, true_implies, and_true, true_and, and_self, Bool.and_true, Bool.true_and, cell_of hb912, cell_of hb12])
        refine e_call (by rfl) ?_
        have hpl := (wf_at hf.1 hcl3.1).2
        have hfu : ns.length + 1 - i = (ns.length - i) + 1 := by omega
        rw [hfu, reach_step ns _ i cur hc', hcE] at hre
        have hpre2 : meets ns cur (ndAt ns c).args <+: reached ns roots := by rw [← hre]; exact reach_pre ns _ _ _
        have sA := hm'.size; have sB := hm'9.size; have sC := hm912.size; have s7 := hm7.size; have s10 := hm10.size
        have sc := small c hcl3.1
        refine (pairs_ok w12 w4.heap.size a b size 0 _ ns roots F G' GF' ((ha4.mod hm' (fun _ _ h => h)).mod hm'12 (fun _ _ h => h)) ((hb4.mod hm' (fun _ _ h => h)).mod hm'12 (fun _ _ h => h)) hf hfc ho
          (fun x hx hh => by have := hFl x hx; have := hn' x hh; omega) (fun x hx hh => by have := hGl x hx; have := hn' x hh; omega) cur (graph_mod hg' hm'12 (fun _ _ h => h)) _ _ (ndAt ns c).args ((o3'.ints sc).1)
          ((o4'.ints (by simp only [moveNd, List.length_map]; exact sc)).1) (fun _ x hx hh => by have := n3 x (own_vblk o3' hx); have := k8 x hh; omega) (fun _ x hx hh => by have := n4 x (own_vblk o4' hx); have := k8 x hh; omega) hpl hpre2).mono ?_
        rintro q w13 ⟨rfl, GF3, hg13, hm13, hn13⟩
        have p1 := hm13.at hb912 (fun hh => by have := k8 _ hh; omega)
        have p2 := hm13.at hb12 (fun hh => by have := k8 _ hh; omega)
        have u1 : ((ndAt ns c).kind != (moveNd ns (reached ns roots) c).kind) = false := by simp [moveNd]
        have u2 : ((ndAt ns c).num != (moveNd ns (reached ns roots) c).num) = false := by simp [moveNd]
        have hwk : IntKind.i64.wrap ((i : Int) + 1) = ((i + 1 : Nat) : Int) := by rw [wrap_in] <;> omega
        (try simp only [go_sem, Nat.reduceAdd, Nat.reduceEqDiff, Nat.reduceLT, Nat.reduceLeDiff, Nat.reduceMul, Nat.zero_add, reduceCtorEq, ↓reduceIte, List.length_cons, List.length_nil, List.set_cons_zero, List.set_cons_succ, List.take_zero, List.take_succ_cons, List.drop_zero, List.drop_succ_cons, List.take_nil, List.drop_nil, List.nil_append, List.cons_append, List.append_nil, or_false, false_or, or_true, true_or, false_implies, true_implies, and_true, true_and, and_self, Bool.and_true, Bool.true_and, Bool.not_true, Bool.not_false, cell_of p1, cell_of p2, u1, u2, hwk])
        have hlt2 := (meets_pre ns (ndAt ns c).args cur).length_le
        refine ⟨_, ?_, i + 1, _, GF3, rfl, by omega, met_meets hf.1 _ hmc hpl, ?_, hg13, (hm'.trans hm'12).step hm13 (fun x hx hlt => by have := hn' x hx; omega), fun x hx => (hn13 x hx).elim (hn' x) (fun h => by omega), rfl⟩
        · omega
        · rw [← hre]; congr 1; omega
      · have hc' : i = cur.length := by simp [zs_len] at hc; omega
        have hce : cur = reached ns roots := by rw [← hre, reach_end _ _ _ _ (by omega)]
        subst hce
        have hbw := hb4.mod hm' (fun _ _ h => h)
        have hmo' := hmo.mod hm' (fun _ _ h => h)
        have hok2 := colRoots_ok hf.1 ho
        (try simp only [go_sem, Nat.reduceAdd, Nat.reduceEqDiff, Nat.reduceLT, Nat.reduceLeDiff, Nat.reduceMul, Nat.zero_add, reduceCtorEq, ↓reduceIte, List.length_cons, List.length_nil, List.set_cons_zero, List.set_cons_succ, List.take_zero, List.take_succ_cons, List.drop_zero, List.drop_succ_cons, List.take_nil, List.drop_nil, List.nil_append, List.cons_append, List.append_nil, or_false, false_or, or_true, true_or, false_implies, true_implies, and_true, true_and, and_self, Bool.and_true, Bool.true_and])
        refine e_call (by rfl) ?_
        refine (used_ok b size _ _ G' w' hbw).mono ?_
        rintro q _ ⟨rfl, rfl⟩
        (try simp only [go_sem, Nat.reduceAdd, Nat.reduceEqDiff, Nat.reduceLT, Nat.reduceLeDiff, Nat.reduceMul, Nat.zero_add, reduceCtorEq, ↓reduceIte, List.length_cons, List.length_nil, List.set_cons_zero, List.set_cons_succ, List.take_zero, List.take_succ_cons, List.drop_zero, List.drop_succ_cons, List.take_nil, List.drop_nil, List.nil_append, List.cons_append, List.append_nil, or_false, false_or, or_true, true_or, false_implies, true_implies, and_true, true_and, and_self, Bool.and_true, Bool.true_and])
        refine e_call (by rfl) ?_
        refine (col_ok b size _ (colNs ns roots) G' w' _ (colRoots ns roots) hbw hfc.len hfc.1 ((hmo'.ints (by omega)).1)).mono ?_
        rintro q w14 ⟨_, d2⟩
        obtain ⟨nv, nf, G2, rfl, hno, hb14, hg14, hnf⟩ := d2 hok2
        rw [colRoots_again hf.1 ho] at hno
        obtain ⟨na, nc, rfl, _, _⟩ := hno.val
        have hmo14 := hmo'.mod hg14.1 (fun x hx => (hmf x hx).2)
        (try simp only [go_sem, Nat.reduceAdd, Nat.reduceEqDiff, Nat.reduceLT, Nat.reduceLeDiff, Nat.reduceMul, Nat.zero_add, reduceCtorEq, ↓reduceIte, List.length_cons, List.length_nil, List.set_cons_zero, List.set_cons_succ, List.take_zero, List.take_succ_cons, List.drop_zero, List.drop_succ_cons, List.take_nil, List.drop_nil, List.nil_append, List.cons_append, List.append_nil, or_false, false_or, or_true, true_or, false_implies, true_implies, and_true, true_and, and_self, Bool.and_true, Bool.true_and])
        refine e_call (by rfl) ?_
        refine (sameInts_ok _ _ (colRoots ns roots) (colRoots ns roots) w14 ((hno.ints (by omega)).1) ((hmo14.ints (by omega)).1)).mono ?_
        rintro q w15 ⟨rfl, hm15⟩
        have hm'15 := hg14.1.trans (hm15.weak (fun _ h => h.elim))
        have k1' := hm'15.at k1 (fun hh => by have := hGl _ hh; omega)
        have e2 : (((colNs ns roots).length : Int) != ((zs (reached ns roots)).length : Nat)) = false := by simp [zs_len, col_length]
        (try simp only [go_sem, Nat.reduceAdd, Nat.reduceEqDiff, Nat.reduceLT, Nat.reduceLeDiff, Nat.reduceMul, Nat.zero_add, reduceCtorEq, ↓reduceIte, List.length_cons, List.length_nil, List.set_cons_zero, List.set_cons_succ, List.take_zero, List.take_succ_cons, List.drop_zero, List.drop_succ_cons, List.take_nil, List.drop_nil, List.nil_append, List.cons_append, List.append_nil, or_false, false_or, or_true, true_or, false_implies, true_implies, and_true, true_and, and_self, Bool.and_true, Bool.true_and, cell_of k1', e2, e0, Bool.not_true, Bool.not_false, decide_true])
        refine e_call (by rfl) ?_
        have hm015 : Mod (fun _ => False) w w15 := (hm04.trans hm').step hm'15 (fun x hx hlt => by have := hG' x hx; omega)
        refine (room_ok a size 0 ns F w15 _ _ roots ((ha4.mod hm' (fun _ _ h => h)).mod hm'15 hF') hfl (by omega) (by omega) hf.1 (hr.mod hm015 (fun _ _ h => h))).mono ?_
        rintro q w16 k16
        obtain ⟨F2, sv, sf, rfl, hso, _, _, hg16⟩ := room_list k16
        obtain ⟨l1, l2⟩ := room_law (times := 0) hf ho n
        generalize roomS size 0 ns (if n > 0 then n else 0) roots = s at hso l1 l2
        obtain ⟨sa, sc, rfl, _, _⟩ := hso.val
        have hmf : Mod (fun _ => False) w w16 := hm015.step hg16.1 (fun x hx hlt => by have := hF x hx; omega)
        have hll := col_len hf.1 roots ho
        have hws : IntKind.i64.wrap (size - ((colNs ns roots).length : Nat)) = size - ((colNs ns roots).length : Nat) := by rw [wrap_in] <;> omega
        by_cases hn0 : n ≤ 0
        · have q1 : decide (n ≤ 0) = true := by simpa using hn0
          obtain ⟨l3, l4⟩ := l1 (.inl hn0)
          have e3 : (s.err == 0) = true := by simp [l3]
          have e4 : ((s.list.length : Int) == (roots.length : Nat)) = true := by simp [l4]
          (try simp only [go_sem, Nat.reduceAdd, Nat.reduceEqDiff, Nat.reduceLT, Nat.reduceLeDiff, Nat.reduceMul, Nat.zero_add, reduceCtorEq, ↓reduceIte, List.length_cons, List.length_nil, List.set_cons_zero, List.set_cons_succ, List.take_zero, List.take_succ_cons, List.drop_zero, List.drop_succ_cons, List.take_nil, List.drop_nil, List.nil_append, List.cons_append, List.append_nil, or_false, false_or, or_true, true_or, false_implies, true_implies, and_true, true_and, and_self, Bool.and_true, Bool.true_and, q1, e3, e4])
          exact hmf
        · have q1 : decide (n ≤ 0) = false := by simpa using hn0
          by_cases hn1 : n ≤ size - ((colNs ns roots).length : Nat)
          · have q2 : decide (n ≤ size - ((colNs ns roots).length : Nat)) = true := by simpa using hn1
            obtain ⟨l3, l4⟩ := l1 (.inr hn1)
            have e3 : (s.err == 0) = true := by simp [l3]
            have e4 : ((s.list.length : Int) == (roots.length : Nat)) = true := by simp [l4]
            (try simp only [go_sem, Nat.reduceAdd, Nat.reduceEqDiff, Nat.reduceLT, Nat.reduceLeDiff, Nat.reduceMul, Nat.zero_add, reduceCtorEq, ↓reduceIte, List.length_cons, List.length_nil, List.set_cons_zero, List.set_cons_succ, List.take_zero, List.take_succ_cons, List.drop_zero, List.drop_succ_cons, List.take_nil, List.drop_nil, List.nil_append, List.cons_append, List.append_nil, or_false, false_or, or_true, true_or, false_implies, true_implies, and_true, true_and, and_self, Bool.and_true, Bool.true_and, q1, hws, q2, e3, e4])
            exact hmf
          · have q2 : decide (n ≤ size - ((colNs ns roots).length : Nat)) = false := by simpa using hn1
            obtain ⟨l3, l4⟩ := l2 (by omega)
            have e3 : (s.err == 201) = true := by simp [l3]
            have e4 : ((s.list.length : Int) == 0) = true := by simp [l4]
            (try simp only [go_sem, Nat.reduceAdd, Nat.reduceEqDiff, Nat.reduceLT, Nat.reduceLeDiff, Nat.reduceMul, Nat.zero_add, reduceCtorEq, ↓reduceIte, List.length_cons, List.length_nil, List.set_cons_zero, List.set_cons_succ, List.take_zero, List.take_succ_cons, List.drop_zero, List.drop_succ_cons, List.take_nil, List.drop_nil, List.nil_append, List.cons_append, List.append_nil, or_false, false_or, or_true, true_or, false_implies, true_implies, and_true, true_and, and_self, Bool.and_true, Bool.true_and, q1, hws, q2, e3, e4])
            exact hmf
  · obtain rfl := n2 g
    (try simp only [go_sem, Nat.reduceAdd, Nat.reduceEqDiff, Nat.reduceLT, Nat.reduceLeDiff, Nat.reduceMul, Nat.zero_add, reduceCtorEq, ↓reduceIte, List.length_cons, List.length_nil, List.set_cons_zero, List.set_cons_succ, List.take_zero, List.take_succ_cons, List.drop_zero, List.drop_succ_cons, List.take_nil, List.drop_nil, List.nil_append, List.cons_append, List.append_nil, or_false, false_or, or_true, true_or, false_implies, true_implies, and_true, true_and, and_self, Bool.and_true, Bool.true_and])
    refine e_call (by rfl) ?_
    refine (made_ok w2 size v os ((ops_mod h hm1) |> fun h => ops_mod h hm2)).mono ?_
    rintro q w3 ⟨hm3, n3, _⟩
    obtain rfl := n3 g
    have hm03 := (hm1.trans hm2).trans hm3
    by_cases hs : size < 1
    · have e1 : decide (size < 1) = true := by simpa using hs
      (try simp only [go_sem, Nat.reduceAdd, Nat.reduceEqDiff, Nat.reduceLT, Nat.reduceLeDiff, Nat.reduceMul, Nat.zero_add, reduceCtorEq, ↓reduceIte, List.length_cons, List.length_nil, List.set_cons_zero, List.set_cons_succ, List.take_zero, List.take_succ_cons, List.drop_zero, List.drop_succ_cons, List.take_nil, List.drop_nil, List.nil_append, List.cons_append, List.append_nil, or_false, false_or, or_true, true_or, false_implies, true_implies, and_true, true_and, and_self, Bool.and_true, Bool.true_and, Bool.not_true, Bool.not_false, Option.isNone_none, e1])
      exact hm03
    · have e1 : decide (size < 1) = false := by simpa using hs
      have e2 : decide (size > 1048576) = true := by simp; omega
      (try simp only [go_sem, Nat.reduceAdd, Nat.reduceEqDiff, Nat.reduceLT, Nat.reduceLeDiff, Nat.reduceMul, Nat.zero_add, reduceCtorEq, ↓reduceIte, List.length_cons, List.length_nil, List.set_cons_zero, List.set_cons_succ, List.take_zero, List.take_succ_cons, List.drop_zero, List.drop_succ_cons, List.take_nil, List.drop_nil, List.nil_append, List.cons_append, List.append_nil, or_false, false_or, or_true, true_or, false_implies, true_implies, and_true, true_and, and_self, Bool.and_true, Bool.true_and, Bool.not_true, Bool.not_false, Option.isNone_none, e1, e2])
      exact hm03
end Go.Proofs.Ytnagmcdlepcgnaa
