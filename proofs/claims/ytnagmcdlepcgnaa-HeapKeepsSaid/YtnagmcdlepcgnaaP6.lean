/- Heap, plain: what is left behind Collect is the same graph, in the same order, and stays so when it is collected again. -/
import Derived.Test.YtnagmcdlepcgnaaP5
set_option linter.unusedSimpArgs false
set_option linter.unusedVariables false
namespace Go.Proofs.Ytnagmcdlepcgnaa
open Go Go.W

theorem pre_at {a b : List Nat} (h : a <+: b) {i : Nat} (hi : i < a.length) : b[i]? = a[i]? := by
  obtain ⟨t, rfl⟩ := h
  rw [List.getElem?_append_left hi]
theorem idx_next {cur out : List Nat} {a : Nat} (hn : out.Nodup) (h : cur ++ [a] <+: out) : out.idxOf a = cur.length := by
  refine idx_of hn ?_
  rw [pre_at h (by simp)]
  simp

section
variable {ns : List Nd} {roots : List Int}
theorem col_length (ns : List Nd) (roots : List Int) : (colNs ns roots).length = (reached ns roots).length := by simp [colNs]
theorem col_at {q : Nat} (hq : q < (reached ns roots).length) : ndAt (colNs ns roots) q = moveNd ns (reached ns roots) (reached ns roots)[q] := by
  simp [ndAt, colNs, hq]
theorem col_over (hw : WF ns) (ho : okPl ns.length roots = true) {q : Nat} (hq : q < (reached ns roots).length) : over (colNs ns roots) q = q := by
  obtain ⟨hm, hc, hr⟩ := reached_met hw ho
  unfold over
  refine ov_fix ?_
  have hx := hm.2 _ (List.getElem_mem hq)
  generalize hX : (reached ns roots)[q] = x at hx
  have hk : ind (colNs ns roots) q = ind ns x := by simp [ind, col_at hq, hX, moveNd]
  cases hi : ind ns x with
  | false => exact nxt_fix (by rw [hk, hi])
  | true =>
    obtain ⟨y, hy, ha, hnx⟩ := wf_ind hw hx.1 hi
    have e1 : nxt (colNs ns roots) q = (num ns (reached ns roots) y).toNat := by
      simp [nxt, hk, hi, col_at hq, hX, moveNd, ha]
    rw [e1]
    have e2 : over ns y = x := by
      have := ov_f (wf_nxt_lt hw) hx.1
      unfold over
      rw [← hnx, this]
      exact hx.2
    simp only [num, Int.toNat_natCast, e2]
    rw [← hX]
    exact hm.1.idxOf_getElem q hq

/-- One place met, in both. -/
theorem sim_meet (hw : WF ns) (ho : okPl ns.length roots = true) {cur : List Nat} {p : Nat} (h : meet ns cur p <+: reached ns roots) :
    (∀ i, i < cur.length → over ns p = cur.getD i 0 → num ns (reached ns roots) p = i) ∧ (over ns p ∉ cur → num ns (reached ns roots) p = cur.length) ∧
      meet (colNs ns roots) (List.range cur.length) (num ns (reached ns roots) p).toNat = List.range (meet ns cur p).length ∧ num ns (reached ns roots) p < (reached ns roots).length := by
  obtain ⟨hm, hc, hr⟩ := reached_met hw ho
  have hcur : cur <+: reached ns roots := (meet_pre ns cur p).trans h
  have hin : over ns p ∈ reached ns roots := h.subset (mem_meet ns cur p)
  have hlt := List.idxOf_lt_length_iff.2 hin
  have hnum : num ns (reached ns roots) p = ((reached ns roots).idxOf (over ns p) : Nat) := by simp [num]
  have h1 : ∀ i, i < cur.length → over ns p = cur.getD i 0 → num ns (reached ns roots) p = i := by
    intro i hi he
    rw [hnum, idx_of hm.1 (j := i) (by rw [pre_at hcur hi, he, List.getD_eq_getElem?_getD, List.getElem?_eq_getElem hi]; rfl)]
  have h2 : over ns p ∉ cur → num ns (reached ns roots) p = cur.length := by
    intro hno
    have e : meet ns cur p = cur ++ [over ns p] := by simp [meet, hno]
    rw [e] at h
    rw [hnum, idx_next hm.1 h]
  refine ⟨h1, h2, ?_, by rw [hnum]; omega⟩
  have hov : over (colNs ns roots) (num ns (reached ns roots) p).toNat = (num ns (reached ns roots) p).toNat := by
    refine col_over hw ho ?_
    rw [hnum, Int.toNat_natCast]; exact hlt
  unfold meet
  rw [hov]
  by_cases hmem : over ns p ∈ cur
  · obtain ⟨i, hi, he⟩ := List.getElem_of_mem hmem
    have := h1 i hi (by rw [List.getD_eq_getElem?_getD, List.getElem?_eq_getElem hi, ← he]; rfl)
    rw [this, Int.toNat_natCast, if_pos (List.mem_range.2 hi), if_pos hmem]
  · have := h2 hmem
    rw [this, Int.toNat_natCast, if_neg (by simp), if_neg hmem]
    simp [List.range_succ]
theorem sim_meets (hw : WF ns) (ho : okPl ns.length roots = true) : ∀ (l : List Int) {cur : List Nat}, okPl ns.length l = true → meets ns cur l <+: reached ns roots →
    meets (colNs ns roots) (List.range cur.length) (l.map (num ns (reached ns roots))) = List.range (meets ns cur l).length := by
  intro l
  induction l with
  | nil => intro cur _ _; rfl
  | cons a l ih =>
    intro cur hl h
    simp only [okPl, List.all_cons, Bool.and_eq_true, decide_eq_true_eq] at hl
    have h1 : meet ns cur a.toNat <+: reached ns roots := (meets_pre ns l (meet ns cur a.toNat)).trans h
    have h2 := (sim_meet hw ho h1).2.2.1
    have e : ((a.toNat : Nat) : Int) = a := by omega
    rw [e] at h2
    have := ih (cur := meet ns cur a.toNat) (by simpa [okPl] using hl.2) h
    simp only [List.map_cons, meets, List.foldl_cons]
    simp only [meets] at this
    rw [h2]
    exact this
theorem sim_reach (hw : WF ns) (ho : okPl ns.length roots = true) : ∀ (f i : Nat) (cur : List Nat), ns.length + 1 ≤ f + i → Met ns cur → reach ns f i cur = reached ns roots → ∀ f', (reached ns roots).length + 1 ≤ f' + i →
    reach (colNs ns roots) f' i (List.range cur.length) = List.range (reached ns roots).length := by
  intro f
  induction f with
  | zero =>
    intro i cur hf hm h f' hf'
    have hl := met_len hm
    have e : cur = reached ns roots := h
    rw [reach_end _ _ _ _ (by simp; omega), e]
  | succ f ih =>
    intro i cur hf hm h f' hf'
    by_cases hi : i < cur.length
    · have hpre : cur <+: reached ns roots := by rw [← h]; exact reach_pre ns _ _ _
      rw [reach_step ns f i cur hi] at h
      have hx := hm.2 _ (List.getElem_mem hi)
      obtain ⟨hmay, hpl⟩ := wf_at hw hx.1
      have hpre2 : meets ns cur (ndAt ns cur[i]).args <+: reached ns roots := by rw [← h]; exact reach_pre ns _ _ _
      have hsim := sim_meets hw ho _ hpl hpre2
      have hlen : i < (reached ns roots).length := Nat.lt_of_lt_of_le hi hpre.length_le
      obtain ⟨f'', rfl⟩ : ∃ f'', f' = f'' + 1 := ⟨f' - 1, by omega⟩
      rw [reach_step _ f'' i _ (by simpa using hi)]
      have e1 : (List.range cur.length)[i]'(by simpa using hi) = i := by simp
      have e2 : (reached ns roots)[i] = cur[i] := by
        have := pre_at hpre hi
        rw [List.getElem?_eq_getElem hi, List.getElem?_eq_getElem hlen] at this
        exact Option.some.inj this
      rw [e1, col_at hlen, e2]
      simp only [moveNd]
      rw [hsim]
      exact ih (i + 1) _ (by omega) (met_meets hw _ hm hpl) h f'' (by omega)
    · have e : cur = reached ns roots := by rw [← h, reach_end _ _ _ _ (by omega)]
      rw [reach_end _ _ _ _ (by simp; omega), e]
theorem col_again (hw : WF ns) (ho : okPl ns.length roots = true) : reached (colNs ns roots) (colRoots ns roots) = List.range (reached ns roots).length := by
  have h0 : meets ns [] roots <+: reached ns roots := reach_pre ns _ _ _
  have h1 := sim_meets hw ho roots (cur := []) ho h0
  unfold reached at *
  simp only [colRoots]
  have h2 : meets (colNs ns roots) [] (roots.map (num ns (reached ns roots))) = List.range (meets ns [] roots).length := h1
  unfold reached at h2
  rw [show reached ns roots = reach ns (ns.length + 1) 0 (meets ns [] roots) from rfl, h2]
  exact sim_reach hw ho (ns.length + 1) 0 _ (by omega) (met_meets hw roots (met_nil ns) ho) rfl _ (by rw [col_length]; omega)
theorem colRoots_ok (hw : WF ns) (ho : okPl ns.length roots = true) : okPl (colNs ns roots).length (colRoots ns roots) = true := by
  obtain ⟨hm, hc, hr⟩ := reached_met hw ho
  rw [okPl, List.all_eq_true]
  intro y hy
  obtain ⟨a, ha, rfl⟩ := List.mem_map.1 hy
  have := List.idxOf_lt_length_iff.2 (hr a ha)
  rw [col_length]
  simp [num, this]
theorem colRoots_again (hw : WF ns) (ho : okPl ns.length roots = true) : colRoots (colNs ns roots) (colRoots ns roots) = colRoots ns roots := by
  have hk := colRoots_ok hw ho
  rw [okPl, List.all_eq_true] at hk
  unfold colRoots at hk ⊢
  rw [List.map_map]
  refine List.map_congr_left ?_
  intro a ha
  have h1 := hk _ (List.mem_map.2 ⟨a, ha, rfl⟩)
  simp only [Bool.and_eq_true, decide_eq_true_eq] at h1
  show num (colNs ns roots) (reached (colNs ns roots) (roots.map (num ns (reached ns roots)))) (num ns (reached ns roots) a) = num ns (reached ns roots) a
  rw [col_length] at h1
  have h2 : reached (colNs ns roots) (roots.map (num ns (reached ns roots))) = List.range (reached ns roots).length := col_again hw ho
  rw [h2]
  generalize num ns (reached ns roots) a = z at h1
  unfold num
  rw [col_over hw ho (by omega)]
  have : (List.range (reached ns roots).length).idxOf z.toNat = z.toNat := idx_of List.nodup_range (by rw [List.getElem?_range (by omega)])
  rw [this]; omega
end
end Go.Proofs.Ytnagmcdlepcgnaa
