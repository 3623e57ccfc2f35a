/- Heap, plain: what Collect keeps true while it goes. -/
import Derived.Test.YtnagmcdlepcgnaaP2
set_option linter.unusedSimpArgs false
set_option linter.unusedVariables false
namespace Go.Proofs.Ytnagmcdlepcgnaa
open Go Go.W

/-- The copies so far, where those below i, and of i the first k, are renumbered. -/
structure Rel (ns : List Nd) (outF out : List Nat) (ts : List (Nd × Nat)) (i k : Nat) : Prop where
  len : ts.length = out.length
  nd : ∀ (j x : Nat), out[j]? = some x → ∃ nd b, ts[j]? = some (nd, b) ∧ nd.kind = (ndAt ns x).kind ∧ nd.num = (ndAt ns x).num ∧ nd.args.length = (ndAt ns x).args.length ∧
    ∀ (t : Nat) (a a0 : Int), nd.args[t]? = some a → (ndAt ns x).args[t]? = some a0 → if j < i ∨ (j = i ∧ t < k) then a = num ns outF a0 else (0 ≤ a ∧ a < ns.length ∧ over ns a.toNat = over ns a0.toNat)

theorem rel_nil (ns : List Nd) (outF : List Nat) : Rel ns outF [] [] 0 0 := ⟨rfl, fun j x h => by simp at h⟩

theorem rel_app {ns : List Nd} (hw : WF ns) {outF out : List Nat} {ts : List (Nd × Nat)} {i k : Nat} (h : Rel ns outF out ts i k) (hi : i ≤ out.length) (hik : i = out.length → k = 0) {e x b : Nat}
    (he : e < ns.length) (ho : over ns e = x) (hind : ind ns e = true → ind ns x = true) : Rel ns outF (out ++ [x]) (ts ++ [(ndAt ns e, b)]) i k := by
  refine ⟨by simp [h.len], ?_⟩
  intro j y hy
  rcases Nat.lt_or_ge j out.length with hj | hj
  · rw [List.getElem?_append_left hj] at hy
    obtain ⟨nd, b', h1, h2⟩ := h.nd j y hy
    exact ⟨nd, b', by rw [List.getElem?_append_left (by rw [h.len]; exact hj)]; exact h1, h2⟩
  · have hjl : j = out.length := by
      have := (List.getElem?_eq_some_iff.1 hy).1
      simp at this; omega
    subst hjl
    have hyx : y = x := by simpa using hy.symm
    subst hyx
    obtain ⟨s1, s2, s3⟩ := same_nd hw he ho hind
    have hl : (ndAt ns e).args.length = (ndAt ns y).args.length := by have := congrArg List.length s3; simpa using this
    refine ⟨ndAt ns e, b, by rw [← h.len]; simp, s1, s2, hl, ?_⟩
    intro t a a0 ha ha0
    rw [if_neg (by
      rintro (hh | ⟨hh, hk⟩)
      · omega
      · have := hik hh.symm; omega)]
    have hok := (wf_at hw he).2
    have hmem : a ∈ (ndAt ns e).args := List.mem_of_getElem? ha
    have := (List.all_eq_true.1 hok) a hmem
    simp at this
    refine ⟨this.1, this.2, ?_⟩
    have h3 := congrArg (fun l => l[t]?) s3
    simp [ha, ha0] at h3
    exact h3

theorem rel_next {ns : List Nd} {outF out : List Nat} {ts : List (Nd × Nat)} {i k x : Nat} (h : Rel ns outF out ts i k) (hx : out[i]? = some x) (hk : (ndAt ns x).args.length ≤ k) : Rel ns outF out ts (i + 1) 0 := by
  refine ⟨h.len, ?_⟩
  intro j y hy
  obtain ⟨nd, b, h1, h2, h3, h4, h5⟩ := h.nd j y hy
  refine ⟨nd, b, h1, h2, h3, h4, ?_⟩
  intro t a a0 ha ha0
  have := h5 t a a0 ha ha0
  by_cases hji : j = i
  · subst hji
    rw [hx] at hy; cases hy
    have ht : t < (ndAt ns x).args.length := (List.getElem?_eq_some_iff.1 ha0).1
    rw [if_pos (.inr ⟨rfl, by omega⟩)] at this
    rw [if_pos (.inl (by omega))]
    exact this
  · by_cases hlt : j < i
    · rw [if_pos (.inl hlt)] at this
      rw [if_pos (.inl (by omega))]; exact this
    · rw [if_neg (by omega)] at this
      rw [if_neg (by omega)]; exact this

theorem rel_set {ns : List Nd} {outF out : List Nat} {ts : List (Nd × Nat)} {i k x b : Nat} {nd : Nd} {a0 : Int} (h : Rel ns outF out ts i k) (hx : out[i]? = some x) (ht : ts[i]? = some (nd, b)) (ha0 : (ndAt ns x).args[k]? = some a0) :
    Rel ns outF out (ts.set i (⟨nd.kind, nd.num, nd.args.set k (num ns outF a0)⟩, b)) i (k + 1) := by
  refine ⟨by simp [h.len], ?_⟩
  intro j y hy
  obtain ⟨nd', b', h1, h2, h3, h4, h5⟩ := h.nd j y hy
  by_cases hji : i = j
  · subst hji
    rw [hx] at hy; cases hy
    rw [ht] at h1; cases h1
    have hi : i < ts.length := (List.getElem?_eq_some_iff.1 ht).1
    refine ⟨⟨nd.kind, nd.num, nd.args.set k (num ns outF a0)⟩, b, by rw [List.getElem?_set, if_pos rfl, if_pos hi], h2, h3, by simpa using h4, ?_⟩
    intro t a a1 ha ha1
    simp only [List.getElem?_set] at ha
    split at ha
    · rename_i hkt
      subst hkt
      rw [if_pos (.inr ⟨rfl, by omega⟩)]
      split at ha
      · rw [ha0] at ha1; cases ha1; exact (Option.some.inj ha).symm
      · cases ha
    · rename_i hkt
      have := h5 t a a1 ha ha1
      by_cases htk : t < k
      · rw [if_pos (.inr ⟨rfl, htk⟩)] at this
        rw [if_pos (.inr ⟨rfl, by omega⟩)]; exact this
      · rw [if_neg (by omega)] at this
        rw [if_neg (by omega)]; exact this
  · refine ⟨nd', b', by rw [List.getElem?_set, if_neg hji]; exact h1, h2, h3, h4, ?_⟩
    intro t a a1 ha ha1
    have := h5 t a a1 ha ha1
    by_cases hlt : j < i
    · rw [if_pos (.inl hlt)] at this
      rw [if_pos (.inl hlt)]; exact this
    · rw [if_neg (by omega)] at this
      rw [if_neg (by omega)]; exact this

theorem rel_done {ns : List Nd} {outF : List Nat} {ts : List (Nd × Nat)} {i : Nat} (h : Rel ns outF outF ts i 0) (hi : outF.length ≤ i) : ts.map Prod.fst = outF.map (moveNd ns outF) := by
  apply List.ext_getElem?
  intro j
  rcases Nat.lt_or_ge j outF.length with hj | hj
  · obtain ⟨nd, b, h1, h2, h3, h4, h5⟩ := h.nd j outF[j] (by simp [hj])
    simp only [List.getElem?_map, h1, Option.map_some, List.getElem?_eq_getElem hj]
    congr 1
    have : nd.args = (ndAt ns outF[j]).args.map (num ns outF) := by
      apply List.ext_getElem?
      intro t
      rcases Nat.lt_or_ge t nd.args.length with ht | ht
      · have e1 : nd.args[t]? = some nd.args[t] := List.getElem?_eq_getElem ht
        have e2 : (ndAt ns outF[j]).args[t]? = some ((ndAt ns outF[j]).args[t]'(by omega)) := List.getElem?_eq_getElem (by omega)
        have := h5 t _ _ e1 e2
        rw [if_pos (.inl (by omega))] at this
        rw [e1, List.getElem?_map, e2, Option.map_some, this]
      · rw [List.getElem?_eq_none ht, List.getElem?_eq_none (by simp; omega)]
    obtain ⟨k1, n1, a1⟩ := nd
    simp only [moveNd]
    simp only at h2 h3 this
    rw [h2, h3, this]
  · rw [List.getElem?_eq_none (by simp [h.len]; exact hj), List.getElem?_eq_none (by simpa using hj)]

theorem meets_app (ns : List Nd) (a b : List Int) (out : List Nat) : meets ns out (a ++ b) = meets ns (meets ns out a) b := by simp [meets]
theorem meets_take (ns : List Nd) (l : List Int) (out : List Nat) {k : Nat} {a : Int} (h : l[k]? = some a) : meets ns out (l.take (k + 1)) = meet ns (meets ns out (l.take k)) a.toNat := by
  obtain ⟨hk, rfl⟩ := List.getElem?_eq_some_iff.1 h
  rw [List.take_succ_eq_append_getElem hk, meets_app]; rfl
theorem meets_take_pre (ns : List Nd) (l : List Int) (out : List Nat) (k : Nat) : meets ns out (l.take k) <+: meets ns out l := by
  conv => rhs; rw [← List.take_append_drop k l, meets_app]
  exact meets_pre ns _ _
theorem meet_over (ns : List Nd) (out : List Nat) {p q : Nat} (h : over ns p = over ns q) : meet ns out p = meet ns out q := by simp [meet, h]
end Go.Proofs.Ytnagmcdlepcgnaa
