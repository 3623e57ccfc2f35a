/- Heap, HeapKeeps: the law's graph: pairs. -/
import Derived.Test.YtnagmcdlepcgnaaK3
import Derived.Test.YtnagmcdlepcgnaaP6
set_option linter.unusedSimpArgs false
set_option linter.unusedVariables false
namespace Go.Proofs.Ytnagmcdlepcgnaa
open Go Go.W

def zs (l : List Nat) : List Int := l.map fun n : Nat => (n : Int)
theorem zs_len (l : List Nat) : (zs l).length = l.length := by simp [zs]
theorem zs_at (l : List Nat) (i : Nat) : (zs l).getD i 0 = ((l.getD i 0 : Nat) : Int) := by
  simp only [zs, List.getD_eq_getElem?_getD, List.getElem?_map]
  cases l[i]? <;> rfl
theorem zs_range {n i : Nat} (h : i < n) : (zs (List.range n)).getD i 0 = (i : Int) := by
  rw [zs_at, List.getD_eq_getElem?_getD, List.getElem?_range h]; rfl

/-- Where a place stands, or would stand. -/
theorem stand (cur : List Nat) (hn : cur.Nodup) (x : Nat) : ∃ j, j ≤ cur.length ∧ (∀ i, i < j → cur.getD i 0 ≠ x) ∧ (j < cur.length → cur.getD j 0 = x) ∧ (j < cur.length ↔ x ∈ cur) := by
  by_cases h : x ∈ cur
  · have hl := List.idxOf_lt_length_iff.2 h
    have he : cur[cur.idxOf x] = x := List.getElem_idxOf hl
    refine ⟨cur.idxOf x, by omega, fun i hi he2 => ?_, fun _ => ?_, ⟨fun _ => h, fun _ => hl⟩⟩
    · have hic : i < cur.length := by omega
      have e3 : cur[i] = x := by simpa [List.getD_eq_getElem?_getD, hic] using he2
      have := hn.idxOf_getElem i hic
      rw [e3] at this; omega
    · simp [List.getD_eq_getElem?_getD, hl]
  · refine ⟨cur.length, Nat.le_refl _, fun i hi he => h ?_, fun hh => absurd hh (Nat.lt_irrefl _), ⟨fun hh => absurd hh (Nat.lt_irrefl _), fun hh => absurd hh h⟩⟩
    have e3 : cur[i] = x := by simpa [List.getD_eq_getElem?_getD, hi] using he
    rw [← e3]; exact List.getElem_mem hi

theorem addr_block (a : Addr) (k : Nat) : (a.add k).block = a.block := by unfold Addr.add; split <;> rfl
/-- A graph that holds what is met. -/
def GMet (w : World) (g : Nat) (cur : List Nat) (GF : Nat → Prop) : Prop := GraphAt w g (zs cur) (zs (List.range cur.length)) GF

theorem pairs_ok (w : World) (g a b : Nat) (size ta tb : Int) (ns : List Nd) (roots : List Int) (F G GF : Nat → Prop) (ha : ArenaAt 63 70 w a size ta ns F) (hb : ArenaAt 63 70 w b size tb (colNs ns roots) G) (hf : Fine size ns) (hfc : Fine size (colNs ns roots)) (ho : okPl ns.length roots = true)
    (hF : ∀ x, F x → ¬ GF x) (hG : ∀ x, G x → ¬ GF x) (cur : List Nat) (hg : GMet w g cur GF) (vl vm : Value) (l : List Int) (hl : Ints w vl l) (hm : Ints w vm (l.map (num ns (reached ns roots)))) (hlG : l ≠ [] → ∀ x, vblk vl = some x → ¬ GF x) (hmG : l ≠ [] → ∀ x, vblk vm = some x → ¬ GF x)
    (hok : okPl ns.length l = true) (hpre : meets ns cur l <+: reached ns roots) :
    CallsR Try.prog 8 [.pointer (some ⟨g, 0, none⟩), .pointer (some ⟨a, 0, none⟩), .pointer (some ⟨b, 0, none⟩), vl, vm] w fun r w' => r = .bool true ∧ ∃ GF', GMet w' g (meets ns cur l) GF' ∧ Grow GF GF' w w' := by
  have hl0 := hl
  have hm0 := hm
  obtain ⟨la, lc, rfl, _, hlx⟩ := hl0
  obtain ⟨ma, mc, rfl, _, hmx⟩ := hm0
  have hlm : (l.map (num ns (reached ns roots))).length = l.length := by simp
  obtain ⟨hmet, _, _⟩ := reached_met hf.1 ho
  have hml := met_len hmet
  have hfl := hf.len
  refine fit8.calls rfl ?_
  unfold ir8
  have e1 : (((l.length : Nat) : Int) != ((l.map (num ns (reached ns roots))).length : Nat)) = false := by simp
  (try simp only [go_sem, Nat.reduceAdd, Nat.reduceEqDiff, Nat.reduceLT, Nat.reduceLeDiff, Nat.reduceMul, Nat.zero_add, reduceCtorEq, ↓reduceIte, List.length_cons, List.length_nil, List.set_cons_zero, List.set_cons_succ, List.take_zero, List.take_succ_cons, List.drop_zero, List.drop_succ_cons, List.take_nil, List.drop_nil, List.nil_append, List.cons_append, List.append_nil, or_false, false_or, or_true, true_or, false_implies, true_implies, and_true, true_and, and_self, Bool.and_true, Bool.true_and, e1])
  refine ir_loop (fun m ρ w' => ∃ (k : Nat) (GF' : Nat → Prop), m = l.length - k ∧ k ≤ l.length ∧ GMet w' g (meets ns cur (l.take k)) GF' ∧ Grow GF GF' w w' ∧
    ρ = [(0, .pointer (some ⟨g, 0, none⟩)), (1, .pointer (some ⟨a, 0, none⟩)), (2, .pointer (some ⟨b, 0, none⟩)), (3, .slice la l.length lc), (4, .slice ma (l.map (num ns (reached ns roots))).length mc), (11, I k)]) l.length
    ⟨0, GF, rfl, Nat.zero_le _, by simp [meets]; exact hg, ⟨Mod.refl _ _, fun x hx => .inl hx⟩, rfl⟩ ?_
  rintro m ρ w' ⟨k, GF', rfl, hk, hg', ⟨hm', hn'⟩, rfl⟩
  unfold ir8L1
  (try simp only [go_sem, Nat.reduceAdd, Nat.reduceEqDiff, Nat.reduceLT, Nat.reduceLeDiff, Nat.reduceMul, Nat.zero_add, reduceCtorEq, ↓reduceIte, List.length_cons, List.length_nil, List.set_cons_zero, List.set_cons_succ, List.take_zero, List.take_succ_cons, List.drop_zero, List.drop_succ_cons, List.take_nil, List.drop_nil, List.nil_append, List.cons_append, List.append_nil, or_false, false_or, or_true, true_or, false_implies, true_implies, and_true, true_and, and_self, Bool.and_true, Bool.true_and])
  refine ir_cond rfl (fun hc => ?_) (fun hc => ?_)
  · have hc' : k < l.length := by simpa using hc
    have hne : l ≠ [] := by intro h; rw [h] at hc'; simp at hc'
    obtain ⟨ad, rfl, hcl⟩ := hlx k hc'
    obtain ⟨am, rfl, hcm⟩ := hmx k (by omega)
    have hcl' := hm'.cell hcl (fun hh => hlG hne ad.block rfl (by rwa [addr_block] at hh))
    have hcm' := hm'.cell hcm (fun hh => hmG hne am.block rfl (by rwa [addr_block] at hh))
    have hpk := List.all_eq_true.1 hok l[k] (List.getElem_mem hc')
    simp only [Bool.and_eq_true, decide_eq_true_eq] at hpk
    have hnk : (l.map (num ns (reached ns roots)))[k] = num ns (reached ns roots) l[k] := by simp
    rw [hnk] at hcm'
    have hpre1 := (meets_take_pre ns l cur (k + 1)).trans hpre
    have hstep := meets_take ns l cur (List.getElem?_eq_getElem hc')
    rw [hstep] at hpre1
    generalize hK : meets ns cur (l.take k) = ck at *
    generalize hP : l[k] = pz at *
    obtain ⟨p, rfl⟩ : ∃ p : Nat, pz = p := ⟨pz.toNat, by omega⟩
    rw [Int.toNat_natCast] at hpre1 hstep
    have hpl : p < ns.length := by omega
    obtain ⟨s1, s2, _, s4⟩ := sim_meet hf.1 ho hpre1
    have hckn : ck.Nodup := hmet.1.sublist ((meet_pre ns ck p).trans hpre1).sublist
    have hckl : ck.length ≤ (reached ns roots).length := ((meet_pre ns ck p).trans hpre1).length_le
    obtain ⟨nb, hnb⟩ : ∃ nb : Nat, num ns (reached ns roots) p = nb := ⟨_, rfl⟩
    rw [hnb] at s1 s2 s4 hcm'
    have b1 : (0 : Int) ≤ k ∧ (k : Int) < l.length := by omega
    have b2 : (0 : Int) ≤ k ∧ (k : Int) < (l.map (num ns (reached ns roots))).length := by omega
    have hwk : IntKind.i64.wrap ((k : Int) + 1) = ((k + 1 : Nat) : Int) := by rw [wrap_in] <;> omega
    (try simp only [go_sem, Nat.reduceAdd, Nat.reduceEqDiff, Nat.reduceLT, Nat.reduceLeDiff, Nat.reduceMul, Nat.zero_add, reduceCtorEq, ↓reduceIte, List.length_cons, List.length_nil, List.set_cons_zero, List.set_cons_succ, List.take_zero, List.take_succ_cons, List.drop_zero, List.drop_succ_cons, List.take_nil, List.drop_nil, List.nil_append, List.cons_append, List.append_nil, or_false, false_or, or_true, true_or, false_implies, true_implies, and_true, true_and, and_self, Bool.and_true, Bool.true_and, Nat.mul_one, Int.toNat_natCast, Int.toNat_zero, Nat.sub_zero, Nat.sub_self, b1, hcl'])
    refine e_call (by rfl) ?_
    refine (lover_ok w' a size ta ns F (ha.mod hm' hF) hf p hpl).mono ?_
    rintro q w1 ⟨rfl, hm1⟩
    have hcm1 := hm1.cell hcm' (fun h => h)
    (try simp only [go_sem, Nat.reduceAdd, Nat.reduceEqDiff, Nat.reduceLT, Nat.reduceLeDiff, Nat.reduceMul, Nat.zero_add, reduceCtorEq, ↓reduceIte, List.length_cons, List.length_nil, List.set_cons_zero, List.set_cons_succ, List.take_zero, List.take_succ_cons, List.drop_zero, List.drop_succ_cons, List.take_nil, List.drop_nil, List.nil_append, List.cons_append, List.append_nil, or_false, false_or, or_true, true_or, false_implies, true_implies, and_true, true_and, and_self, Bool.and_true, Bool.true_and, Nat.mul_one, Int.toNat_natCast, Int.toNat_zero, Nat.sub_zero, Nat.sub_self, b2, hcm1])
    refine e_call (by rfl) ?_
    refine (lover_ok w1 b size tb (colNs ns roots) G ((hb.mod hm' hG).mod hm1 (fun _ _ h => h)) hfc nb (by rw [col_length]; omega)).mono ?_
    rintro q w2 ⟨rfl, hm2⟩
    rw [col_over hf.1 ho (by omega)]
    have hm12 := hm1.trans hm2
    have hg2 : GMet w2 g ck GF' := graph_mod hg' hm12 (fun _ _ h => h)
    obtain ⟨j, j1, j2, j3, j4⟩ := stand ck hckn (over ns p)
    have hjn : (nb : Int) = j := by
      by_cases hj : j < ck.length
      · exact s1 j hj (j3 hj).symm
      · have e : j = ck.length := by omega
        rw [e]; exact s2 (fun hh => hj (j4.2 hh))
    (try simp only [go_sem, Nat.reduceAdd, Nat.reduceEqDiff, Nat.reduceLT, Nat.reduceLeDiff, Nat.reduceMul, Nat.zero_add, reduceCtorEq, ↓reduceIte, List.length_cons, List.length_nil, List.set_cons_zero, List.set_cons_succ, List.take_zero, List.take_succ_cons, List.drop_zero, List.drop_succ_cons, List.take_nil, List.drop_nil, List.nil_append, List.cons_append, List.append_nil, or_false, false_or, or_true, true_or, false_implies, true_implies, and_true, true_and, and_self, Bool.and_true, Bool.true_and])
    refine e_call (by rfl) ?_
    refine (pair_ok w2 g (zs ck) (zs (List.range ck.length)) GF' hg2 (over ns p : Nat) nb j (by rw [zs_len]; omega) (fun i hi => ⟨?_, ?_⟩) (fun hj => ⟨?_, ?_⟩) (by rw [zs_len]; omega)).mono ?_
    · rw [zs_at]; have := j2 i hi; omega
    · rw [zs_range (by omega)]; omega
    · rw [zs_len] at hj; rw [zs_at, j3 hj]
    · rw [zs_len] at hj; rw [zs_range hj]; exact hjn.symm
    rintro q w3 ⟨q2, rfl, GF3, hg3, hm3, hn3⟩
    (try simp only [go_sem, Nat.reduceAdd, Nat.reduceEqDiff, Nat.reduceLT, Nat.reduceLeDiff, Nat.reduceMul, Nat.zero_add, reduceCtorEq, ↓reduceIte, List.length_cons, List.length_nil, List.set_cons_zero, List.set_cons_succ, List.take_zero, List.take_succ_cons, List.drop_zero, List.drop_succ_cons, List.take_nil, List.drop_nil, List.nil_append, List.cons_append, List.append_nil, or_false, false_or, or_true, true_or, false_implies, true_implies, and_true, true_and, and_self, Bool.and_true, Bool.true_and, hwk, Bool.not_true, Bool.not_false])
    have s1' := hm'.size; have s12' := hm12.size
    refine ⟨_, ?_, k + 1, GF3, rfl, by omega, ?_, ⟨(hm'.trans (hm12.weak (fun _ h => h.elim))).step hm3 (fun x hx hlt => (hn' x hx).elim (fun h => h) (fun h => by omega)), fun x hx => ?_⟩, rfl⟩
    · omega
    · rw [hstep]
      unfold GMet meet
      rw [zs_len] at hg3
      by_cases hj : j < ck.length
      · rw [if_pos hj, if_pos hj] at hg3
        rw [if_pos (j4.1 hj)]; exact hg3
      · rw [if_neg hj, if_neg hj] at hg3
        rw [if_neg (fun hh => hj (j4.2 hh))]
        have e : j = ck.length := by omega
        rw [List.length_append, List.length_singleton, List.range_succ]
        rw [hjn, e] at hg3
        simpa [zs] using hg3
    · rcases hn3 x hx with h | h
      · exact hn' x h
      · exact .inr (by omega)
  · (try simp only [go_sem, Nat.reduceAdd, Nat.reduceEqDiff, Nat.reduceLT, Nat.reduceLeDiff, Nat.reduceMul, Nat.zero_add, reduceCtorEq, ↓reduceIte, List.length_cons, List.length_nil, List.set_cons_zero, List.set_cons_succ, List.take_zero, List.take_succ_cons, List.drop_zero, List.drop_succ_cons, List.take_nil, List.drop_nil, List.nil_append, List.cons_append, List.append_nil, or_false, false_or, or_true, true_or, false_implies, true_implies, and_true, true_and, and_self, Bool.and_true, Bool.true_and])
    have e : k = l.length := by simp at hc; omega
    subst e
    rw [List.take_length] at hg'
    exact ⟨GF', hg', hm', hn'⟩
end Go.Proofs.Ytnagmcdlepcgnaa
