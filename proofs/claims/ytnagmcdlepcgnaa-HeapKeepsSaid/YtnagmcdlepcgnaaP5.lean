/- Heap, plain: every step keeps the nodes as they may be. -/
import Derived.Test.YtnagmcdlepcgnaaL4
set_option linter.unusedSimpArgs false
set_option linter.unusedVariables false
namespace Go.Proofs.Ytnagmcdlepcgnaa
open Go Go.W

theorem okPl_le {n m : Nat} {l : List Int} (h : okPl n l = true) (hm : n ≤ m) : okPl m l = true := by
  rw [okPl, List.all_eq_true] at h ⊢
  intro x hx
  have := h x hx
  simp at this ⊢; omega

/-- An arena that may be. -/
def Fine (size : Int) (ns : List Nd) : Prop := WF ns ∧ (ns.length : Int) ≤ size ∧ 1 ≤ size ∧ size ≤ 1048576
theorem Fine.len {size : Int} {ns : List Nd} (h : Fine size ns) : ns.length ≤ 1048576 := by have := h.2.1; have := h.2.2.2; omega
theorem fine_new {size : Int} (h : 1 ≤ size ∧ size ≤ 1048576) : Fine size [] := ⟨fun nd h => (by cases h), by simp; omega, h.1, h.2⟩
theorem fine_add {size : Int} {ns : List Nd} (h : Fine size ns) (nd : Nd) : Fine size (addS size ns nd).2.2 := by
  unfold addS
  split
  · exact h
  · split
    · exact h
    · split
      · exact h
      · rename_i h1 h2 h3
        refine ⟨?_, by have := h.2.1; simp; omega, h.2.2⟩
        intro x hx
        rcases List.mem_append.1 hx with hx | hx
        · exact ⟨(h.1 x hx).1, okPl_le (h.1 x hx).2 (by simp)⟩
        · simp only [List.mem_cons, List.not_mem_nil, or_false] at hx; subst hx
          exact ⟨by simpa using h1, okPl_le (by simpa using h2) (by simp)⟩
theorem fine_set {size : Int} {ns : List Nd} (h : Fine size ns) (at' : Int) (nd : Nd) : Fine size (setS ns at' nd).2 := by
  unfold setS
  split
  · exact h
  · split
    · exact h
    · split
      · exact h
      · rename_i h1 h2 h3
        refine ⟨?_, by simpa using h.2.1, h.2.2⟩
        intro x hx
        rw [List.length_set]
        rcases List.mem_or_eq_of_mem_set hx with hx | rfl
        · exact h.1 x hx
        · exact ⟨by simpa using h2, by simpa using h3⟩
theorem fine_col {size : Int} {ns : List Nd} (h : Fine size ns) {roots : List Int} (ho : okPl ns.length roots = true) : Fine size (colNs ns roots) := by
  obtain ⟨hm, hc, hr⟩ := reached_met h.1 ho
  have hl := col_len h.1 roots ho
  refine ⟨?_, by have := h.2.1; omega, h.2.2⟩
  intro nd hnd
  have hlen : (colNs ns roots).length = (reached ns roots).length := by simp [colNs]
  rw [hlen]
  obtain ⟨x, hx, rfl⟩ := List.mem_map.1 hnd
  have hat := wf_at h.1 (hm.2 x hx).1
  refine ⟨by simpa [moveNd, Nd.may] using hat.1, ?_⟩
  rw [okPl, List.all_eq_true]
  intro y hy
  obtain ⟨a, ha, rfl⟩ := List.mem_map.1 hy
  have := List.idxOf_lt_length_iff.2 (hc x hx a ha)
  have h0 : (0 : Int) ≤ num ns (reached ns roots) a := by unfold num; omega
  have h1 : num ns (reached ns roots) a < ((reached ns roots).length : Nat) := by unfold num; omega
  simp [h0, h1]
theorem fine_room {size times : Int} {ns : List Nd} (h : Fine size ns) (n : Int) (roots : List Int) : Fine size (roomS size times ns n roots).ns := by
  unfold roomS
  split
  · exact h
  · split
    · exact h
    · rename_i h2
      have ho : okPl ns.length roots = true := by simpa using h2
      split
      · exact h
      · split
        · exact fine_col h ho
        · exact fine_col h ho
theorem fine_args {size : Int} {ns : List Nd} (h : Fine size ns) : ∀ nd ∈ ns, nd.args.length ≤ 8 := wf_args_le h.1
end Go.Proofs.Ytnagmcdlepcgnaa
