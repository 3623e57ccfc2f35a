/- Heap, HeapKeeps: the law's own over. -/
import Derived.Test.YtnagmcdlepcgnaaK1
set_option linter.unusedSimpArgs false
set_option linter.unusedVariables false
namespace Go.Proofs.Ytnagmcdlepcgnaa
open Go Go.W

theorem getS_at {ns : List Nd} {p : Nat} (hp : p < ns.length) : getS ns p = (ndAt ns p, 0) := by
  unfold getS
  rw [if_pos (by omega)]
  rfl
theorem minTo_ov2 {f : Nat → Nat} {n x : Nat} (hf : ∀ x, x < n → f x < n) (hx : x < n) {t : Nat} (ht : n + 1 ≤ t) : minTo f (fit f (n + 1) x) t = ov f n x := by
  apply Nat.le_antisymm
  · obtain ⟨k, _, hk⟩ := ov_mem f n (fit f (n + 1) x)
    rw [← ov_fit hf hx (n + 1), hk]
    obtain ⟨d, h1, h2, h3⟩ := onRing hf hx (n + 1) (by omega)
    obtain ⟨j, hj, he⟩ := ring_mod h1 h2 h3 (k + n)
    rw [he]
    exact minTo_le f _ t j (by omega)
  · obtain ⟨j, h⟩ := minTo_mem f (fit f (n + 1) x) t
    rw [h, ← fit_add]
    exact ov_le' hf hx _ (by omega)

theorem leads {w : World} {va : Option Addr} {n vc : Nat} {xs : List Int} {q : Int} (h : Ints w (.slice va n vc) xs) (hx : xs = [q]) : ∃ ad, va = some ad ∧ w.cell? ad = some (I q) := by
  subst hx
  obtain ⟨xb, xd, ev, _, hxx⟩ := h
  obtain ⟨ad, h1, had⟩ := hxx 0 (by simp)
  cases ev
  rw [add_zero'] at had
  exact ⟨ad, h1, had⟩

theorem lover_ok (w : World) (a : Nat) (size times : Int) (ns : List Nd) (F : Nat → Prop) (h : ArenaAt 63 70 w a size times ns F) (hf0 : Fine size ns) (p : Nat) (hp : p < ns.length) :
    CallsR Try.prog 22 [.pointer (some ⟨a, 0, none⟩), I p] w fun r w' => r = I (over ns p) ∧ Mod (fun _ => False) w w' := by
  have hw := hf0.1
  have hargs := fine_args hf0
  have hn := hf0.len
  have hf := wf_nxt_lt hw
  have hlt : ∀ j, fit (nxt ns) j p < ns.length := fun j => fit_lt hf j hp
  refine fit22.calls rfl ?_
  unfold ir22
  (try simp only [go_sem, Nat.reduceAdd, Nat.reduceEqDiff, Nat.reduceLT, Nat.reduceLeDiff, Nat.reduceMul, Nat.zero_add, reduceCtorEq, ↓reduceIte, List.length_cons, List.length_nil, List.set_cons_zero, List.set_cons_succ, List.take_zero, List.take_succ_cons, List.drop_zero, List.drop_succ_cons, List.take_nil, List.drop_nil, List.nil_append, List.cons_append, List.append_nil, or_false, false_or, or_true, true_or, false_implies, true_implies, and_true, true_and, and_self, Bool.and_true, Bool.true_and])
  refine e_call (by rfl) ?_
  refine (used_ok a size times ns F w h).mono ?_
  rintro q _ ⟨rfl, rfl⟩
  (try simp only [go_sem, Nat.reduceAdd, Nat.reduceEqDiff, Nat.reduceLT, Nat.reduceLeDiff, Nat.reduceMul, Nat.zero_add, reduceCtorEq, ↓reduceIte, List.length_cons, List.length_nil, List.set_cons_zero, List.set_cons_succ, List.take_zero, List.take_succ_cons, List.drop_zero, List.drop_succ_cons, List.take_nil, List.drop_nil, List.nil_append, List.cons_append, List.append_nil, or_false, false_or, or_true, true_or, false_implies, true_implies, and_true, true_and, and_self, Bool.and_true, Bool.true_and])
  refine e_call (by rfl) ?_
  refine (get_ok a size times ns p F w h hn hargs).mono ?_
  rintro q w1 k1
  obtain ⟨hm1, v1, f1, rfl, o1, n1⟩ := get_list k1
  rw [getS_at hp] at o1
  obtain ⟨va1, vc1, rfl, _, _⟩ := o1.val
  (try simp only [go_sem, Nat.reduceAdd, Nat.reduceEqDiff, Nat.reduceLT, Nat.reduceLeDiff, Nat.reduceMul, Nat.zero_add, reduceCtorEq, ↓reduceIte, List.length_cons, List.length_nil, List.set_cons_zero, List.set_cons_succ, List.take_zero, List.take_succ_cons, List.drop_zero, List.drop_succ_cons, List.take_nil, List.drop_nil, List.nil_append, List.cons_append, List.append_nil, or_false, false_or, or_true, true_or, false_implies, true_implies, and_true, true_and, and_self, Bool.and_true, Bool.true_and, getS_at hp])
  refine e_al ?_
  intro w2 hb2 hm2 hs2
  have hb2 : w2.heap[w1.heap.size]? = some (.cells #[I 0, I 0, .slice none 0 0] 35 (0, 0)) := hb2
  (try simp only [go_sem, Nat.reduceAdd, Nat.reduceEqDiff, Nat.reduceLT, Nat.reduceLeDiff, Nat.reduceMul, Nat.zero_add, reduceCtorEq, ↓reduceIte, List.length_cons, List.length_nil, List.set_cons_zero, List.set_cons_succ, List.take_zero, List.take_succ_cons, List.drop_zero, List.drop_succ_cons, List.take_nil, List.drop_nil, List.nil_append, List.cons_append, List.append_nil, or_false, false_or, or_true, true_or, false_implies, true_implies, and_true, true_and, and_self, Bool.and_true, Bool.true_and])
  refine e_sta rfl rfl hb2 rfl rfl (by simp [Value.oneCell']) ?_
  intro w3 hb3 hm3 hs3
  have hm13 : Mod (fun _ => False) w1 w3 := hm2.step hm3 (fun x hx hlt => by omega)
  have hm03 := hm1.trans hm13
  have z3 : (0 : Int) ≤ 0 ∧ (0 : Int) < ((1 : Nat) : Int) := by omega
  have e1 : (((1 : Nat) : Int) == 1) = true := rfl
  have small : ∀ x, x < ns.length → (ndAt ns x).args.length ≤ 17592186044416 := fun x hx => by
    have := hargs _ (List.getElem_mem hx)
    have e : ndAt ns x = ns[x] := by simp [ndAt, hx]
    rw [e]; omega
  have iv3 := ((o1.mod hm13 (fun _ _ h => h)).ints (small p hp)).1
  -- a step: what the box holds leads on
  (try simp only [go_sem, Nat.reduceAdd, Nat.reduceEqDiff, Nat.reduceLT, Nat.reduceLeDiff, Nat.reduceMul, Nat.zero_add, reduceCtorEq, ↓reduceIte, List.length_cons, List.length_nil, List.set_cons_zero, List.set_cons_succ, List.take_zero, List.take_succ_cons, List.drop_zero, List.drop_succ_cons, List.take_nil, List.drop_nil, List.nil_append, List.cons_append, List.append_nil, or_false, false_or, or_true, true_or, false_implies, true_implies, and_true, true_and, and_self, Bool.and_true, Bool.true_and])
  refine ir_loop (fun m ρ w' => ∃ (k : Nat) (v : Value), m = ns.length + 1 - k ∧ k ≤ ns.length + 1 ∧ Mod (fun _ => False) w w' ∧ w1.heap.size < w'.heap.size ∧ w'.heap[w1.heap.size]? = some (.cells #[I (ndAt ns (fit (nxt ns) k p)).kind, I (ndAt ns (fit (nxt ns) k p)).num, v] 35 (0, 0)) ∧
      Ints w' v (ndAt ns (fit (nxt ns) k p)).args ∧ (∀ j, j < k → ind ns (fit (nxt ns) j p) = true) ∧
      ρ = [(0, .pointer (some ⟨a, 0, none⟩)), (1, I (fit (nxt ns) k p : Nat)), (5, I ns.length), (6, .pointer (some ⟨w1.heap.size, 0, none⟩)), (8, I k)]) (ns.length + 1)
    ⟨0, _, rfl, by omega, hm03, by omega, hb3, iv3, (fun j hj => by omega), rfl⟩ ?_
  rintro m ρ w' ⟨k, v, rfl, hk, hm, hlt', hb, hv, hall, rfl⟩
  unfold ir22L1
  have hv0 := hv
  obtain ⟨va, vc, rfl, _, _⟩ := hv0
  (try simp only [go_sem, Nat.reduceAdd, Nat.reduceEqDiff, Nat.reduceLT, Nat.reduceLeDiff, Nat.reduceMul, Nat.zero_add, reduceCtorEq, ↓reduceIte, List.length_cons, List.length_nil, List.set_cons_zero, List.set_cons_succ, List.take_zero, List.take_succ_cons, List.drop_zero, List.drop_succ_cons, List.take_nil, List.drop_nil, List.nil_append, List.cons_append, List.append_nil, or_false, false_or, or_true, true_or, false_implies, true_implies, and_true, true_and, and_self, Bool.and_true, Bool.true_and])
  by_cases hc : k ≤ ns.length ∧ ind ns (fit (nxt ns) k p) = true
  · have g1 : decide ((k : Int) ≤ (ns.length : Nat)) = true := by simp; exact hc.1
    have g2 : ((ndAt ns (fit (nxt ns) k p)).kind == 5) = true := by simpa [ind] using hc.2
    obtain ⟨q', hq', haq, hnx⟩ := wf_ind hw (hlt k) hc.2
    have hl1 : (ndAt ns (fit (nxt ns) k p)).args.length = 1 := by rw [haq]; rfl
    obtain ⟨ad, rfl, had'⟩ := leads hv haq
    have hwk : IntKind.i64.wrap ((k : Int) + 1) = ((k + 1 : Nat) : Int) := by rw [wrap_in] <;> omega
    (try simp only [go_sem, Nat.reduceAdd, Nat.reduceEqDiff, Nat.reduceLT, Nat.reduceLeDiff, Nat.reduceMul, Nat.zero_add, reduceCtorEq, ↓reduceIte, List.length_cons, List.length_nil, List.set_cons_zero, List.set_cons_succ, List.take_zero, List.take_succ_cons, List.drop_zero, List.drop_succ_cons, List.take_nil, List.drop_nil, List.nil_append, List.cons_append, List.append_nil, or_false, false_or, or_true, true_or, false_implies, true_implies, and_true, true_and, and_self, Bool.and_true, Bool.true_and, Nat.mul_one, Int.toNat_natCast, Int.toNat_zero, Nat.sub_zero, Nat.sub_self, g1, cell_of hb, g2, hl1, e1, z3, had'])
    refine e_call (by rfl) ?_
    refine (get_ok a size times ns q' F w' (h.mod hm (fun _ _ h => h)) hn hargs).mono ?_
    rintro q w4 k4
    obtain ⟨hm4, v4, f4, rfl, o4, n4⟩ := get_list k4
    rw [getS_at hq'] at o4
    obtain ⟨va4, vc4, rfl, _, _⟩ := o4.val
    (try simp only [go_sem, Nat.reduceAdd, Nat.reduceEqDiff, Nat.reduceLT, Nat.reduceLeDiff, Nat.reduceMul, Nat.zero_add, reduceCtorEq, ↓reduceIte, List.length_cons, List.length_nil, List.set_cons_zero, List.set_cons_succ, List.take_zero, List.take_succ_cons, List.drop_zero, List.drop_succ_cons, List.take_nil, List.drop_nil, List.nil_append, List.cons_append, List.append_nil, or_false, false_or, or_true, true_or, false_implies, true_implies, and_true, true_and, and_self, Bool.and_true, Bool.true_and, Nat.mul_one, Int.toNat_natCast, Int.toNat_zero, Nat.sub_zero, Nat.sub_self, getS_at hq'])
    refine e_sta rfl rfl (hm4.at hb (fun h => h)) rfl rfl (by simp [Value.oneCell']) ?_
    intro w5 hb5 hm5 hs5
    (try simp only [go_sem, Nat.reduceAdd, Nat.reduceEqDiff, Nat.reduceLT, Nat.reduceLeDiff, Nat.reduceMul, Nat.zero_add, reduceCtorEq, ↓reduceIte, List.length_cons, List.length_nil, List.set_cons_zero, List.set_cons_succ, List.take_zero, List.take_succ_cons, List.drop_zero, List.drop_succ_cons, List.take_nil, List.drop_nil, List.nil_append, List.cons_append, List.append_nil, or_false, false_or, or_true, true_or, false_implies, true_implies, and_true, true_and, and_self, Bool.and_true, Bool.true_and, Nat.mul_one, Int.toNat_natCast, Int.toNat_zero, Nat.sub_zero, Nat.sub_self, hwk])
    have s4 := hm4.size
    have o5 := o4.mod hm5 (fun x hx hh => by have := n4 x hx; omega)
    have hm45 : Mod (fun _ => False) w w5 := (hm.trans hm4).step hm5 (fun x hx hlt => by have := hm1.size; omega)
    refine ⟨_, ?_, k + 1, .slice va4 (ndAt ns q').args.length vc4, rfl, by omega, hm45, by omega, ?_, ?_, ?_, ?_⟩
    rotate_left
    · rw [fit_succ, hnx]; exact hb5
    · rw [fit_succ, hnx]; exact (o5.ints (small _ hq')).1
    · intro j hj
      rcases Nat.lt_or_ge j k with h | h
      · exact hall j h
      · obtain rfl : j = k := by omega
        exact hc.2
    · rw [fit_succ, hnx]
    · omega
  · have hend : ind ns (fit (nxt ns) k p) = false ∨ (k = ns.length + 1 ∧ ∀ j, ind ns (fit (nxt ns) j p) = true) := by
      by_cases hk1 : k ≤ ns.length
      · left
        cases hi : ind ns (fit (nxt ns) k p) with
        | false => rfl
        | true => exact absurd ⟨hk1, hi⟩ hc
      · right
        refine ⟨by omega, fun j => ?_⟩
        obtain ⟨j', h1, h2⟩ := orbit hf hp j
        rw [h2]; exact hall j' (by omega)
    refine wpS_cut (fun ρ w'' => w' = w'' ∧ ρ.get 32 = some (.bool false) ∧ ρ.get 0 = some (.pointer (some ⟨a, 0, none⟩)) ∧ ρ.get 1 = some (I (fit (nxt ns) k p : Nat)) ∧ ρ.get 5 = some (I ns.length) ∧ ρ.get 6 = some (.pointer (some ⟨w1.heap.size, 0, none⟩)) ∧ ρ.get 8 = some (I k)) ?_ ?_
    · by_cases hk1 : k ≤ ns.length
      · have g1 : decide ((k : Int) ≤ (ns.length : Nat)) = true := by simp; exact hk1
        have g2 : ((ndAt ns (fit (nxt ns) k p)).kind == 5) = false := by
          rcases hend with h | h
          · simpa [ind] using h
          · omega
        (try simp only [go_sem, Nat.reduceAdd, Nat.reduceEqDiff, Nat.reduceLT, Nat.reduceLeDiff, Nat.reduceMul, Nat.zero_add, reduceCtorEq, ↓reduceIte, List.length_cons, List.length_nil, List.set_cons_zero, List.set_cons_succ, List.take_zero, List.take_succ_cons, List.drop_zero, List.drop_succ_cons, List.take_nil, List.drop_nil, List.nil_append, List.cons_append, List.append_nil, or_false, false_or, or_true, true_or, false_implies, true_implies, and_true, true_and, and_self, Bool.and_true, Bool.true_and, Nat.mul_one, Int.toNat_natCast, Int.toNat_zero, Nat.sub_zero, Nat.sub_self, g1, cell_of hb, g2])
      · have g1 : decide ((k : Int) ≤ (ns.length : Nat)) = false := by simp; omega
        (try simp only [go_sem, Nat.reduceAdd, Nat.reduceEqDiff, Nat.reduceLT, Nat.reduceLeDiff, Nat.reduceMul, Nat.zero_add, reduceCtorEq, ↓reduceIte, List.length_cons, List.length_nil, List.set_cons_zero, List.set_cons_succ, List.take_zero, List.take_succ_cons, List.drop_zero, List.drop_succ_cons, List.take_nil, List.drop_nil, List.nil_append, List.cons_append, List.append_nil, or_false, false_or, or_true, true_or, false_implies, true_implies, and_true, true_and, and_self, Bool.and_true, Bool.true_and, Nat.mul_one, Int.toNat_natCast, Int.toNat_zero, Nat.sub_zero, Nat.sub_self, g1])
    rintro ρ _ ⟨rfl, r32, r0, r1, r5, r6, r8⟩
    (try simp only [go_sem, Nat.reduceAdd, Nat.reduceEqDiff, Nat.reduceLT, Nat.reduceLeDiff, Nat.reduceMul, Nat.zero_add, reduceCtorEq, ↓reduceIte, List.length_cons, List.length_nil, List.set_cons_zero, List.set_cons_succ, List.take_zero, List.take_succ_cons, List.drop_zero, List.drop_succ_cons, List.take_nil, List.drop_nil, List.nil_append, List.cons_append, List.append_nil, or_false, false_or, or_true, true_or, false_implies, true_implies, and_true, true_and, and_self, Bool.and_true, Bool.true_and, r32, r0, r1, r5, r6, r8])
    generalize hC : fit (nxt ns) k p = c at *
    have hc' : c < ns.length := by rw [← hC]; exact hlt k
    have hov : ∀ t, (ns.length + 1 ≤ t ∨ ind ns (fit (nxt ns) t c) = false) → minTo (nxt ns) c (t + 1) = over ns p := by
      intro t ht
      rcases hend with h1 | ⟨h1, h2⟩
      · have hfix : ∀ j, fit (nxt ns) j c = c := fit_fix (nxt_fix h1)
        obtain ⟨j, hj⟩ := minTo_mem (nxt ns) c (t + 1)
        rw [hj, hfix]
        unfold over
        rw [← ov_fit hf hp k, hC, ov_fix (nxt_fix h1)]
      · subst h1
        rcases ht with h3 | h3
        · rw [← hC, minTo_ov2 hf hp (by omega)]; rfl
        · rw [← hC, ← fit_add, h2] at h3; cases h3
    have hinit : minTo (nxt ns) c (0 + 1) = c := by simp [minTo, fit]
    refine ir_loop (fun m ρ w'' => ∃ (t : Nat) (v : Value), m = ns.length + 1 - t ∧ t ≤ ns.length + 1 ∧ Mod (fun _ => False) w w'' ∧ w1.heap.size < w''.heap.size ∧ w''.heap[w1.heap.size]? = some (.cells #[I (ndAt ns (fit (nxt ns) t c)).kind, I (ndAt ns (fit (nxt ns) t c)).num, v] 35 (0, 0)) ∧
        Ints w'' v (ndAt ns (fit (nxt ns) t c)).args ∧
        ρ = [(0, .pointer (some ⟨a, 0, none⟩)), (5, I ns.length), (6, .pointer (some ⟨w1.heap.size, 0, none⟩)), (9, I (minTo (nxt ns) c (t + 1) : Nat)), (10, I t)]) (ns.length + 1)
      ⟨0, _, rfl, by omega, hm, hlt', hb, hv, by rw [hinit]; rfl⟩ ?_
    clear hb hv
    rintro m ρ w'' ⟨t, v, rfl, ht, hm, hlt'', hb, hv, rfl⟩
    unfold ir22L2
    have hv0 := hv
    obtain ⟨va, vc, rfl, _, _⟩ := hv0
    have hltc : fit (nxt ns) t c < ns.length := fit_lt hf t hc'
    (try simp only [go_sem, Nat.reduceAdd, Nat.reduceEqDiff, Nat.reduceLT, Nat.reduceLeDiff, Nat.reduceMul, Nat.zero_add, reduceCtorEq, ↓reduceIte, List.length_cons, List.length_nil, List.set_cons_zero, List.set_cons_succ, List.take_zero, List.take_succ_cons, List.drop_zero, List.drop_succ_cons, List.take_nil, List.drop_nil, List.nil_append, List.cons_append, List.append_nil, or_false, false_or, or_true, true_or, false_implies, true_implies, and_true, true_and, and_self, Bool.and_true, Bool.true_and])
    by_cases hc2 : t ≤ ns.length ∧ ind ns (fit (nxt ns) t c) = true
    · have g1 : decide ((t : Int) ≤ (ns.length : Nat)) = true := by simp; exact hc2.1
      have g2 : ((ndAt ns (fit (nxt ns) t c)).kind == 5) = true := by simpa [ind] using hc2.2
      obtain ⟨q', hq', haq, hnx⟩ := wf_ind hw hltc hc2.2
      have hl1 : (ndAt ns (fit (nxt ns) t c)).args.length = 1 := by rw [haq]; rfl
      obtain ⟨ad, rfl, had'⟩ := leads hv haq
      have hwk : IntKind.i64.wrap ((t : Int) + 1) = ((t + 1 : Nat) : Int) := by rw [wrap_in] <;> omega
      (try simp only [go_sem, Nat.reduceAdd, Nat.reduceEqDiff, Nat.reduceLT, Nat.reduceLeDiff, Nat.reduceMul, Nat.zero_add, reduceCtorEq, ↓reduceIte, List.length_cons, List.length_nil, List.set_cons_zero, List.set_cons_succ, List.take_zero, List.take_succ_cons, List.drop_zero, List.drop_succ_cons, List.take_nil, List.drop_nil, List.nil_append, List.cons_append, List.append_nil, or_false, false_or, or_true, true_or, false_implies, true_implies, and_true, true_and, and_self, Bool.and_true, Bool.true_and, Nat.mul_one, Int.toNat_natCast, Int.toNat_zero, Nat.sub_zero, Nat.sub_self, g1, cell_of hb, g2, hl1, e1, z3, had'])
      refine e_call (by rfl) ?_
      refine (get_ok a size times ns q' F w'' (h.mod hm (fun _ _ h => h)) hn hargs).mono ?_
      rintro q w4 k4
      obtain ⟨hm4, v4, f4, rfl, o4, n4⟩ := get_list k4
      rw [getS_at hq'] at o4
      obtain ⟨va4, vc4, rfl, _, _⟩ := o4.val
      (try simp only [go_sem, Nat.reduceAdd, Nat.reduceEqDiff, Nat.reduceLT, Nat.reduceLeDiff, Nat.reduceMul, Nat.zero_add, reduceCtorEq, ↓reduceIte, List.length_cons, List.length_nil, List.set_cons_zero, List.set_cons_succ, List.take_zero, List.take_succ_cons, List.drop_zero, List.drop_succ_cons, List.take_nil, List.drop_nil, List.nil_append, List.cons_append, List.append_nil, or_false, false_or, or_true, true_or, false_implies, true_implies, and_true, true_and, and_self, Bool.and_true, Bool.true_and, Nat.mul_one, Int.toNat_natCast, Int.toNat_zero, Nat.sub_zero, Nat.sub_self, getS_at hq'])
      refine e_sta rfl rfl (hm4.at hb (fun h => h)) rfl rfl (by simp [Value.oneCell']) ?_
      intro w5 hb5 hm5 hs5
      (try simp only [go_sem, Nat.reduceAdd, Nat.reduceEqDiff, Nat.reduceLT, Nat.reduceLeDiff, Nat.reduceMul, Nat.zero_add, reduceCtorEq, ↓reduceIte, List.length_cons, List.length_nil, List.set_cons_zero, List.set_cons_succ, List.take_zero, List.take_succ_cons, List.drop_zero, List.drop_succ_cons, List.take_nil, List.drop_nil, List.nil_append, List.cons_append, List.append_nil, or_false, false_or, or_true, true_or, false_implies, true_implies, and_true, true_and, and_self, Bool.and_true, Bool.true_and, Nat.mul_one, Int.toNat_natCast, Int.toNat_zero, Nat.sub_zero, Nat.sub_self, hwk])
      have s4 := hm4.size
      have o5 := o4.mod hm5 (fun x hx hh => by have := n4 x hx; omega)
      have hm45 : Mod (fun _ => False) w w5 := (hm.trans hm4).step hm5 (fun x hx hlt => by have := hm1.size; omega)
      have e3 : ∀ x y : Nat, (if (x : Int) < (y : Int) then (x : Int) else (y : Int)) = ((min y x : Nat) : Int) := by intro x y; split <;> omega
      have e4 : ∀ x y : Nat, (if (x : Int) ≤ (y : Int) then (x : Int) else (y : Int)) = ((min x y : Nat) : Int) := by intro x y; split <;> omega
      have hq2 : fit (nxt ns) (t + 1) c = q' := by rw [fit_succ, hnx]
      refine ⟨_, ?_, t + 1, .slice va4 (ndAt ns q').args.length vc4, rfl, by omega, hm45, by omega, ?_, ?_, ?_⟩
      rotate_left
      · rw [hq2]; exact hb5
      · rw [hq2]; exact (o5.ints (small _ hq')).1
      · have e5 : minTo (nxt ns) c (t + 1 + 1) = min (minTo (nxt ns) c (t + 1)) q' := by rw [← hq2]; rfl
        rw [e3, e5]
      · omega
    · have hex := hov t (by
        by_cases h1 : ns.length + 1 ≤ t
        · exact .inl h1
        · right
          cases hi : ind ns (fit (nxt ns) t c) with
          | false => rfl
          | true => exact absurd ⟨by omega, hi⟩ hc2)
      by_cases hk1 : t ≤ ns.length
      · have g1 : decide ((t : Int) ≤ (ns.length : Nat)) = true := by simp; exact hk1
        have g2 : ((ndAt ns (fit (nxt ns) t c)).kind == 5) = false := by
          cases hi : ((ndAt ns (fit (nxt ns) t c)).kind == 5) with
          | false => rfl
          | true => exact absurd ⟨hk1, by simpa [ind] using hi⟩ hc2
        (try simp only [go_sem, Nat.reduceAdd, Nat.reduceEqDiff, Nat.reduceLT, Nat.reduceLeDiff, Nat.reduceMul, Nat.zero_add, reduceCtorEq, ↓reduceIte, List.length_cons, List.length_nil, List.set_cons_zero, List.set_cons_succ, List.take_zero, List.take_succ_cons, List.drop_zero, List.drop_succ_cons, List.take_nil, List.drop_nil, List.nil_append, List.cons_append, List.append_nil, or_false, false_or, or_true, true_or, false_implies, true_implies, and_true, true_and, and_self, Bool.and_true, Bool.true_and, Nat.mul_one, Int.toNat_natCast, Int.toNat_zero, Nat.sub_zero, Nat.sub_self, g1, cell_of hb, g2])
        exact ⟨by rw [hex], hm⟩
      · have g1 : decide ((t : Int) ≤ (ns.length : Nat)) = false := by simp; omega
        (try simp only [go_sem, Nat.reduceAdd, Nat.reduceEqDiff, Nat.reduceLT, Nat.reduceLeDiff, Nat.reduceMul, Nat.zero_add, reduceCtorEq, ↓reduceIte, List.length_cons, List.length_nil, List.set_cons_zero, List.set_cons_succ, List.take_zero, List.take_succ_cons, List.drop_zero, List.drop_succ_cons, List.take_nil, List.drop_nil, List.nil_append, List.cons_append, List.append_nil, or_false, false_or, or_true, true_or, false_implies, true_implies, and_true, true_and, and_self, Bool.and_true, Bool.true_and, Nat.mul_one, Int.toNat_natCast, Int.toNat_zero, Nat.sub_zero, Nat.sub_self, g1])
        exact ⟨by rw [hex], hm⟩
end Go.Proofs.Ytnagmcdlepcgnaa
