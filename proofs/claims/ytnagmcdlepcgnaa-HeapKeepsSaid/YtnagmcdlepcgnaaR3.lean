/- Heap, the reference: Over. -/
import Derived.Test.YtnagmcdlepcgnaaR2
set_option linter.unusedSimpArgs false
set_option linter.unusedVariables false
namespace Go.Proofs.Ytnagmcdlepcgnaa
open Go Go.W

theorem orbit {f : Nat → Nat} {n x : Nat} (hf : ∀ x, x < n → f x < n) (hx : x < n) (m : Nat) : ∃ m', m' ≤ n ∧ fit f m x = fit f m' x := by
  obtain ⟨i, j, hij, hj, he⟩ := pigeon hf hx
  induction m using Nat.strongRecOn with
  | _ m ih =>
    by_cases hm : m ≤ n
    · exact ⟨m, hm, rfl⟩
    · obtain ⟨m', h1, h2⟩ := ih (m - j + i) (by omega)
      refine ⟨m', h1, ?_⟩
      rw [← h2, fit_add f (m - j) i, he, ← fit_add]
      congr 1; omega

def minTo (f : Nat → Nat) (c : Nat) : Nat → Nat
  | 0 => c
  | t + 1 => min (minTo f c t) (fit f t c)
theorem minTo_le (f : Nat → Nat) (c : Nat) : ∀ t j, j < t → minTo f c t ≤ fit f j c := by
  intro t
  induction t with
  | zero => intro j h; omega
  | succ t ih =>
    intro j h
    simp only [minTo]
    rcases Nat.lt_or_ge j t with h1 | h1
    · have := ih j h1; omega
    · obtain rfl : j = t := by omega
      omega
theorem minTo_mem (f : Nat → Nat) (c : Nat) : ∀ t, ∃ j, minTo f c t = fit f j c := by
  intro t
  induction t with
  | zero => exact ⟨0, rfl⟩
  | succ t ih =>
    simp only [minTo]
    obtain ⟨j, h⟩ := ih
    rcases Nat.le_total (minTo f c t) (fit f t c) with h1 | h1
    · exact ⟨j, by rw [Nat.min_eq_left h1]; exact h⟩
    · exact ⟨t, by rw [Nat.min_eq_right h1]⟩
theorem minTo_ov {f : Nat → Nat} {n x : Nat} (hf : ∀ x, x < n → f x < n) (hx : x < n) {t : Nat} (ht : 1 ≤ t) (hc : fit f t (fit f (n + 1) x) = fit f (n + 1) x) : minTo f (fit f (n + 1) x) t = ov f n x := by
  have hall : ∀ m, ∃ j, j < t ∧ fit f m (fit f (n + 1) x) = fit f j (fit f (n + 1) x) := by
    intro m
    induction m using Nat.strongRecOn with
    | _ m ih =>
      by_cases hm : m < t
      · exact ⟨m, hm, rfl⟩
      · obtain ⟨j, h1, h2⟩ := ih (m - t) (by omega)
        refine ⟨j, h1, ?_⟩
        rw [← h2, show m = (m - t) + t by omega, fit_add, hc]
        congr 1; omega
  apply Nat.le_antisymm
  · obtain ⟨k, _, hk⟩ := ov_mem f n (fit f (n + 1) x)
    rw [← ov_fit hf hx (n + 1), hk]
    obtain ⟨j, h1, h2⟩ := hall (k + n)
    rw [h2]
    exact minTo_le f _ t j h1
  · obtain ⟨j, h⟩ := minTo_mem f (fit f (n + 1) x) t
    rw [h, ← fit_add]
    exact ov_le' hf hx _ (by omega)

theorem rover_ok (a n : Nat) (ns : List Nd) (hw : WF ns) (hn : ns.length ≤ 1048576) (w : World) (F : Nat → Prop) (T : Nat) (x1 x3 cv : Value) (ha : w.heap[a]? = some (.cells #[x1, cv, x3] T (0, 0))) (hfr : FromAt 35 w cv ns F) (p : Nat) (hp : p < ns.length) :
    CallsR Try.prog 44 [.pointer (some ⟨a, 0, none⟩), I p] w fun r w' => r = I (over ns p) ∧ w = w' := by
  have hargs := wf_args_le hw
  have hf := wf_nxt_lt hw
  have hlt : ∀ j, fit (nxt ns) j p < ns.length := fun j => fit_lt hf j hp
  obtain ⟨bc, cc, _, rfl, _⟩ := from_at hfr hargs hp
  refine fit44.calls rfl ?_
  unfold ir44
  (try simp only [go_sem, Nat.reduceAdd, Nat.reduceEqDiff, Nat.reduceLT, Nat.reduceLeDiff, Nat.reduceMul, Nat.zero_add, reduceCtorEq, ↓reduceIte, List.length_cons, List.length_nil, List.set_cons_zero, List.set_cons_succ, List.take_zero, List.take_succ_cons, List.drop_zero, List.drop_succ_cons, List.take_nil, List.drop_nil, List.nil_append, List.cons_append, List.append_nil, or_false, false_or, or_true, true_or, false_implies, true_implies, and_true, true_and, and_self, Bool.and_true, Bool.true_and])
  refine ir_loop (fun m ρ w' => ∃ k : Nat, m = ns.length + 1 - k ∧ k ≤ ns.length + 1 ∧ w = w' ∧ (∀ j, j < k → ind ns (fit (nxt ns) j p) = true) ∧
    ρ = [(0, .pointer (some ⟨a, 0, none⟩)), (1, I (fit (nxt ns) k p : Nat)), (5, I k)]) (ns.length + 1) ⟨0, rfl, by omega, rfl, fun j h => by omega, rfl⟩ ?_
  rintro m ρ _ ⟨k, rfl, hk, rfl, hind, rfl⟩
  unfold ir44L1
  (try simp only [go_sem, Nat.reduceAdd, Nat.reduceEqDiff, Nat.reduceLT, Nat.reduceLeDiff, Nat.reduceMul, Nat.zero_add, reduceCtorEq, ↓reduceIte, List.length_cons, List.length_nil, List.set_cons_zero, List.set_cons_succ, List.take_zero, List.take_succ_cons, List.drop_zero, List.drop_succ_cons, List.take_nil, List.drop_nil, List.nil_append, List.cons_append, List.append_nil, or_false, false_or, or_true, true_or, false_implies, true_implies, and_true, true_and, and_self, Bool.and_true, Bool.true_and, cell_of ha])
  obtain ⟨bc', cc', v, hce, c0, c1, c2, cx, cb, cl⟩ := from_at hfr hargs (hlt k)
  cases hce
  have b1 : (0 : Int) ≤ (fit (nxt ns) k p : Nat) ∧ ((fit (nxt ns) k p : Nat) : Int) < ns.length := by have := hlt k; omega
  refine ir_cond rfl (fun hc => ?_) (fun hc => ?_)
  · have hc' : k ≤ ns.length := by simp at hc; omega
    (try simp only [go_sem, Nat.reduceAdd, Nat.reduceEqDiff, Nat.reduceLT, Nat.reduceLeDiff, Nat.reduceMul, Nat.zero_add, reduceCtorEq, ↓reduceIte, List.length_cons, List.length_nil, List.set_cons_zero, List.set_cons_succ, List.take_zero, List.take_succ_cons, List.drop_zero, List.drop_succ_cons, List.take_nil, List.drop_nil, List.nil_append, List.cons_append, List.append_nil, or_false, false_or, or_true, true_or, false_implies, true_implies, and_true, true_and, and_self, Bool.and_true, Bool.true_and, Nat.mul_one, Int.toNat_natCast, Int.toNat_zero, Nat.sub_zero, Nat.sub_self, cell_of ha, b1, c0])
    refine ir_cond rfl (fun hi => ?_) (fun hi => ?_)
    · have hi' : ind ns (fit (nxt ns) k p) = false := by simpa [ind] using hi
      (try simp only [go_sem, Nat.reduceAdd, Nat.reduceEqDiff, Nat.reduceLT, Nat.reduceLeDiff, Nat.reduceMul, Nat.zero_add, reduceCtorEq, ↓reduceIte, List.length_cons, List.length_nil, List.set_cons_zero, List.set_cons_succ, List.take_zero, List.take_succ_cons, List.drop_zero, List.drop_succ_cons, List.take_nil, List.drop_nil, List.nil_append, List.cons_append, List.append_nil, or_false, false_or, or_true, true_or, false_implies, true_implies, and_true, true_and, and_self, Bool.and_true, Bool.true_and])
      have : over ns p = fit (nxt ns) k p := by
        unfold over
        rw [← ov_fit hf hp k, ov_fix (nxt_fix hi')]
      rw [this]
    · have hi' : ind ns (fit (nxt ns) k p) = true := by simpa [ind] using hi
      obtain ⟨q', hq', haq, hnx⟩ := wf_ind hw (hlt k) hi'
      rw [haq] at cx
      obtain ⟨xb, xd, rfl, _, hxx⟩ := cx
      obtain ⟨ad, rfl, had⟩ := hxx 0 (by simp)
      have had' : w.cell? ad = some (I (q' : Nat)) := by rw [add_zero'] at had; exact had
      have z3 : (0 : Int) ≤ 0 ∧ (0 : Int) < ((1 : Nat) : Int) := by omega
      have hwk : IntKind.i64.wrap ((k : Int) + 1) = ((k + 1 : Nat) : Int) := by rw [wrap_in] <;> omega
      (try simp only [go_sem, Nat.reduceAdd, Nat.reduceEqDiff, Nat.reduceLT, Nat.reduceLeDiff, Nat.reduceMul, Nat.zero_add, reduceCtorEq, ↓reduceIte, List.length_cons, List.length_nil, List.set_cons_zero, List.set_cons_succ, List.take_zero, List.take_succ_cons, List.drop_zero, List.drop_succ_cons, List.take_nil, List.drop_nil, List.nil_append, List.cons_append, List.append_nil, or_false, false_or, or_true, true_or, false_implies, true_implies, and_true, true_and, and_self, Bool.and_true, Bool.true_and, Nat.mul_one, Int.toNat_natCast, Int.toNat_zero, Nat.sub_zero, Nat.sub_self, cell_of ha, b1, c2, z3, had', hwk])
      refine ⟨_, ?_, k + 1, rfl, by omega, ?_, ?_⟩
      · omega
      · intro j hj
        rcases Nat.lt_or_ge j k with h | h
        · exact hind j h
        · obtain rfl : j = k := by omega
          exact hi'
      · rw [fit_succ, hnx]
  · have hc' : k = ns.length + 1 := by simp at hc; omega
    subst hc'
    have hall : ∀ m, ind ns (fit (nxt ns) m p) = true := by
      intro m
      obtain ⟨m', h1, h2⟩ := orbit hf hp m
      rw [h2]; exact hind m' (by omega)
    have stepq : ∀ m, ∃ ad v, w.cell? ⟨bc, fit (nxt ns) m p * 3 + 2, none⟩ = some (.slice (some ad) 1 v) ∧ w.cell? ad = some (I (fit (nxt ns) (m + 1) p : Nat)) := by
      intro m
      obtain ⟨bc', cc', v, hce, c0, c1, c2, cx, cb, cl⟩ := from_at hfr hargs (hlt m)
      cases hce
      obtain ⟨q', hq', haq, hnx⟩ := wf_ind hw (hlt m) (hall m)
      rw [haq] at cx
      obtain ⟨xb, xd, rfl, _, hxx⟩ := cx
      obtain ⟨ad, rfl, had⟩ := hxx 0 (by simp)
      exact ⟨ad, xd, c2, by rw [add_zero'] at had; rw [fit_succ, hnx]; exact had⟩
    obtain ⟨ad, xv, s1, s2⟩ := stepq (ns.length + 1)
    have z3 : (0 : Int) ≤ 0 ∧ (0 : Int) < ((1 : Nat) : Int) := by omega
    (try simp only [go_sem, Nat.reduceAdd, Nat.reduceEqDiff, Nat.reduceLT, Nat.reduceLeDiff, Nat.reduceMul, Nat.zero_add, reduceCtorEq, ↓reduceIte, List.length_cons, List.length_nil, List.set_cons_zero, List.set_cons_succ, List.take_zero, List.take_succ_cons, List.drop_zero, List.drop_succ_cons, List.take_nil, List.drop_nil, List.nil_append, List.cons_append, List.append_nil, or_false, false_or, or_true, true_or, false_implies, true_implies, and_true, true_and, and_self, Bool.and_true, Bool.true_and, Nat.mul_one, Int.toNat_natCast, Int.toNat_zero, Nat.sub_zero, Nat.sub_self, cell_of ha, b1, s1, z3, s2])
    obtain ⟨d, hd1, hdn, hd⟩ := onRing hf hp (ns.length + 1) (by omega)
    refine ir_loop (fun m ρ w' => ∃ t : Nat, m = d - t ∧ 1 ≤ t ∧ t ≤ d ∧ w = w' ∧
      ρ = [(0, .pointer (some ⟨a, 0, none⟩)), (1, I (fit (nxt ns) (ns.length + 1) p : Nat)), (6, I (minTo (nxt ns) (fit (nxt ns) (ns.length + 1) p) t : Nat)), (7, I (fit (nxt ns) t (fit (nxt ns) (ns.length + 1) p) : Nat))]) (d - 1)
      ⟨1, rfl, by omega, hd1, rfl, by simp [minTo, fit, ← fit_succ]⟩ ?_
    rintro m ρ _ ⟨t, rfl, ht1, htd, rfl, rfl⟩
    unfold ir44L2
    (try simp only [go_sem, Nat.reduceAdd, Nat.reduceEqDiff, Nat.reduceLT, Nat.reduceLeDiff, Nat.reduceMul, Nat.zero_add, reduceCtorEq, ↓reduceIte, List.length_cons, List.length_nil, List.set_cons_zero, List.set_cons_succ, List.take_zero, List.take_succ_cons, List.drop_zero, List.drop_succ_cons, List.take_nil, List.drop_nil, List.nil_append, List.cons_append, List.append_nil, or_false, false_or, or_true, true_or, false_implies, true_implies, and_true, true_and, and_self, Bool.and_true, Bool.true_and])
    refine ir_cond rfl (fun hc => ?_) (fun hc => ?_)
    · have hc' : fit (nxt ns) t (fit (nxt ns) (ns.length + 1) p) ≠ fit (nxt ns) (ns.length + 1) p := fun h => by rw [h] at hc; simp at hc
      have htd' : t < d := by
        rcases Nat.lt_or_ge t d with h | h
        · exact h
        · exfalso; apply hc'; rw [show t = d by omega]; exact hd
      have e1 : fit (nxt ns) t (fit (nxt ns) (ns.length + 1) p) = fit (nxt ns) (t + (ns.length + 1)) p := (fit_add _ _ _ _).symm
      obtain ⟨ad, xv, s1, s2⟩ := stepq (t + (ns.length + 1))
      have b2 : (0 : Int) ≤ (fit (nxt ns) (t + (ns.length + 1)) p : Nat) ∧ ((fit (nxt ns) (t + (ns.length + 1)) p : Nat) : Int) < ns.length := by have := hlt (t + (ns.length + 1)); omega
      rw [e1]
      (try simp only [go_sem, Nat.reduceAdd, Nat.reduceEqDiff, Nat.reduceLT, Nat.reduceLeDiff, Nat.reduceMul, Nat.zero_add, reduceCtorEq, ↓reduceIte, List.length_cons, List.length_nil, List.set_cons_zero, List.set_cons_succ, List.take_zero, List.take_succ_cons, List.drop_zero, List.drop_succ_cons, List.take_nil, List.drop_nil, List.nil_append, List.cons_append, List.append_nil, or_false, false_or, or_true, true_or, false_implies, true_implies, and_true, true_and, and_self, Bool.and_true, Bool.true_and, Nat.mul_one, Int.toNat_natCast, Int.toNat_zero, Nat.sub_zero, Nat.sub_self, cell_of ha, b2, s1, z3, s2])
      have e2 : fit (nxt ns) (t + 1) (fit (nxt ns) (ns.length + 1) p) = fit (nxt ns) (t + (ns.length + 1) + 1) p := by rw [← fit_add]; congr 1; omega
      have e3 : ∀ x y : Nat, (if (x : Int) < (y : Int) then (x : Int) else (y : Int)) = ((min y x : Nat) : Int) := by intro x y; split <;> omega
      refine ⟨_, ?_, t + 1, rfl, by omega, by omega, ?_⟩
      · omega
      · rw [e2, e3]
        simp only [minTo, e1]
    · have hc' : fit (nxt ns) t (fit (nxt ns) (ns.length + 1) p) = fit (nxt ns) (ns.length + 1) p := by simp at hc; omega
      (try simp only [go_sem, Nat.reduceAdd, Nat.reduceEqDiff, Nat.reduceLT, Nat.reduceLeDiff, Nat.reduceMul, Nat.zero_add, reduceCtorEq, ↓reduceIte, List.length_cons, List.length_nil, List.set_cons_zero, List.set_cons_succ, List.take_zero, List.take_succ_cons, List.drop_zero, List.drop_succ_cons, List.take_nil, List.drop_nil, List.nil_append, List.cons_append, List.append_nil, or_false, false_or, or_true, true_or, false_implies, true_implies, and_true, true_and, and_self, Bool.and_true, Bool.true_and])
      rw [minTo_ov hf hp ht1 hc']; rfl
end Go.Proofs.Ytnagmcdlepcgnaa
