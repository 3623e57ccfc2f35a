/- Heap, the laws: the book: still. -/
import Derived.Test.YtnagmcdlepcgnaaL3
set_option linter.unusedSimpArgs false
set_option linter.unusedVariables false
namespace Go.Proofs.Ytnagmcdlepcgnaa
open Go Go.W

theorem own_at {w : World} {T n : Nat} {v : Value} {xs : List Value} {fp : Option Nat} (h : Own w T 1 v xs n fp) {i : Nat} (hi : i < n) {u : Value} (hu : xs[i]? = some u) : ∃ b c, v = .slice (some ⟨b, 0, none⟩) n c ∧ w.cell? ⟨b, i, none⟩ = some u := by
  have hl := h.1
  obtain ⟨b, c, sp', hv, _, hb, _, _⟩ := h.pos (by omega)
  refine ⟨b, c, hv, ?_⟩
  rw [cell_of hb, List.getElem?_toArray, List.getElem?_append_left (by omega)]
  exact hu

theorem still_ok (w : World) (b : Nat) (es : List BE) (B : Nat → Prop) (h : BookAt w b es B) (he : es.length + 1 ≤ 4398046511104) (hn : ∀ e ∈ es, e.n ≤ 17592186044416) :
    CallsR Try.prog 16 [.pointer (some ⟨b, 0, none⟩)] w fun r w' => r = .bool true ∧ Mod (fun _ => False) w w' := by
  refine fit16.calls rfl ?_
  unfold ir16
  (try simp only [go_sem, Nat.reduceAdd, Nat.reduceEqDiff, Nat.reduceLT, Nat.reduceLeDiff, Nat.reduceMul, Nat.zero_add, reduceCtorEq, ↓reduceIte, List.length_cons, List.length_nil, List.set_cons_zero, List.set_cons_succ, List.take_zero, List.take_succ_cons, List.drop_zero, List.drop_succ_cons, List.take_nil, List.drop_nil, List.nil_append, List.cons_append, List.append_nil, or_false, false_or, or_true, true_or, false_implies, true_implies, and_true, true_and, and_self, Bool.and_true, Bool.true_and])
  refine ir_loop (fun m ρ w' => ∃ i : Nat, m = es.length - i ∧ i ≤ es.length ∧ Mod (fun _ => False) w w' ∧ ρ = [(0, .pointer (some ⟨b, 0, none⟩)), (3, I i)]) es.length ⟨0, rfl, Nat.zero_le _, Mod.refl _ _, rfl⟩ ?_
  rintro m ρ w1 ⟨i, rfl, hi, hm1, rfl⟩
  unfold ir16L2
  obtain ⟨lv, mv, fpl, fpm, h1, h2, h3, h4, _⟩ := h.mod hm1 (fun _ _ h => h)
  obtain ⟨la, lc, rfl, _, _⟩ := h2.val
  (try simp only [go_sem, Nat.reduceAdd, Nat.reduceEqDiff, Nat.reduceLT, Nat.reduceLeDiff, Nat.reduceMul, Nat.zero_add, reduceCtorEq, ↓reduceIte, List.length_cons, List.length_nil, List.set_cons_zero, List.set_cons_succ, List.take_zero, List.take_succ_cons, List.drop_zero, List.drop_succ_cons, List.take_nil, List.drop_nil, List.nil_append, List.cons_append, List.append_nil, or_false, false_or, or_true, true_or, false_implies, true_implies, and_true, true_and, and_self, Bool.and_true, Bool.true_and, cell_of h1])
  refine ir_cond rfl (fun hc => ?_) (fun hc => ?_)
  · have hc' : i < es.length := by simpa using hc
    (try simp only [go_sem, Nat.reduceAdd, Nat.reduceEqDiff, Nat.reduceLT, Nat.reduceLeDiff, Nat.reduceMul, Nat.zero_add, reduceCtorEq, ↓reduceIte, List.length_cons, List.length_nil, List.set_cons_zero, List.set_cons_succ, List.take_zero, List.take_succ_cons, List.drop_zero, List.drop_succ_cons, List.take_nil, List.drop_nil, List.nil_append, List.cons_append, List.append_nil, or_false, false_or, or_true, true_or, false_implies, true_implies, and_true, true_and, and_self, Bool.and_true, Bool.true_and])
    refine ir_loop (fun m ρ w' => ∃ k : Nat, m = es[i].n - k ∧ k ≤ es[i].n ∧ Mod (fun _ => False) w w' ∧ ρ = [(0, .pointer (some ⟨b, 0, none⟩)), (3, I i), (4, I k)]) es[i].n ⟨0, rfl, Nat.zero_le _, hm1, rfl⟩ ?_
    clear h1 h2 h3 h4
    rintro m ρ w2 ⟨k, rfl, hk, hm2, rfl⟩
    unfold ir16L1
    obtain ⟨lv2, mv2, fpl2, fpm2, h1, h2, h3, h4, _⟩ := h.mod hm2 (fun _ _ h => h)
    obtain ⟨lb, lc2, rfl, hlc⟩ := own_at h2 hc' (u := es[i].v) (by simp [hc'])
    obtain ⟨mb, mc2, rfl, hmc⟩ := own_at h3 hc' (u := I es[i].m) (by simp [hc'])
    have hei := (h4 es[i] (List.getElem_mem hc')).1
    obtain ⟨ea, ec, hev, _, _⟩ := hei.val
    rw [hev] at hlc hei
    have hnn := hn es[i] (List.getElem_mem hc')
    have b1 : (0 : Int) ≤ i ∧ (i : Int) < es.length := by omega
    (try simp only [go_sem, Nat.reduceAdd, Nat.reduceEqDiff, Nat.reduceLT, Nat.reduceLeDiff, Nat.reduceMul, Nat.zero_add, reduceCtorEq, ↓reduceIte, List.length_cons, List.length_nil, List.set_cons_zero, List.set_cons_succ, List.take_zero, List.take_succ_cons, List.drop_zero, List.drop_succ_cons, List.take_nil, List.drop_nil, List.nil_append, List.cons_append, List.append_nil, or_false, false_or, or_true, true_or, false_implies, true_implies, and_true, true_and, and_self, Bool.and_true, Bool.true_and, Nat.mul_one, Int.toNat_natCast, Int.toNat_zero, Nat.sub_zero, Nat.sub_self, cell_of h1, b1, hlc])
    refine ir_cond rfl (fun hk2 => ?_) (fun hk2 => ?_)
    · have hk' : k < es[i].n := by simpa using hk2
      obtain ⟨eb, ec2, hee, hec⟩ := own_at hei hk' (u := I es[i].m) (by simp [hk'])
      cases hee
      have b2 : (0 : Int) ≤ k ∧ (k : Int) < es[i].n := by omega
      have hwk : IntKind.i64.wrap ((k : Int) + 1) = ((k + 1 : Nat) : Int) := by rw [wrap_in] <;> omega
      have hbne : (es[i].m != es[i].m) = false := by simp
      (try simp only [go_sem, Nat.reduceAdd, Nat.reduceEqDiff, Nat.reduceLT, Nat.reduceLeDiff, Nat.reduceMul, Nat.zero_add, reduceCtorEq, ↓reduceIte, List.length_cons, List.length_nil, List.set_cons_zero, List.set_cons_succ, List.take_zero, List.take_succ_cons, List.drop_zero, List.drop_succ_cons, List.take_nil, List.drop_nil, List.nil_append, List.cons_append, List.append_nil, or_false, false_or, or_true, true_or, false_implies, true_implies, and_true, true_and, and_self, Bool.and_true, Bool.true_and, Nat.mul_one, Int.toNat_natCast, Int.toNat_zero, Nat.sub_zero, Nat.sub_self, cell_of h1, b1, hlc, b2, hec, hmc, hbne, hwk])
      refine ⟨_, ?_, k + 1, rfl, hk', hm2.drew, rfl⟩
      omega
    · have hk' : k = es[i].n := by simp at hk2; omega
      have hwi : IntKind.i64.wrap ((i : Int) + 1) = ((i + 1 : Nat) : Int) := by rw [wrap_in] <;> omega
      (try simp only [go_sem, Nat.reduceAdd, Nat.reduceEqDiff, Nat.reduceLT, Nat.reduceLeDiff, Nat.reduceMul, Nat.zero_add, reduceCtorEq, ↓reduceIte, List.length_cons, List.length_nil, List.set_cons_zero, List.set_cons_succ, List.take_zero, List.take_succ_cons, List.drop_zero, List.drop_succ_cons, List.take_nil, List.drop_nil, List.nil_append, List.cons_append, List.append_nil, or_false, false_or, or_true, true_or, false_implies, true_implies, and_true, true_and, and_self, Bool.and_true, Bool.true_and, hwi])
      refine ⟨_, ?_, i + 1, rfl, hc', hm2, rfl⟩
      omega
  · (try simp only [go_sem, Nat.reduceAdd, Nat.reduceEqDiff, Nat.reduceLT, Nat.reduceLeDiff, Nat.reduceMul, Nat.zero_add, reduceCtorEq, ↓reduceIte, List.length_cons, List.length_nil, List.set_cons_zero, List.set_cons_succ, List.take_zero, List.take_succ_cons, List.drop_zero, List.drop_succ_cons, List.take_nil, List.drop_nil, List.nil_append, List.cons_append, List.append_nil, or_false, false_or, or_true, true_or, false_implies, true_implies, and_true, true_and, and_self, Bool.and_true, Bool.true_and])
    exact hm1
end Go.Proofs.Ytnagmcdlepcgnaa
