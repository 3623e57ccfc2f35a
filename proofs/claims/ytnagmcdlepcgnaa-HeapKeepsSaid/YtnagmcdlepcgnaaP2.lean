/- Heap, plain: what is met, in which order; what 'moved' knows. -/
import Derived.Test.YtnagmcdlepcgnaaH3
set_option linter.unusedSimpArgs false
set_option linter.unusedVariables false
namespace Go.Proofs.Ytnagmcdlepcgnaa
open Go Go.W

def meet (ns : List Nd) (out : List Nat) (p : Nat) : List Nat := if over ns p ∈ out then out else out ++ [over ns p]
def meets (ns : List Nd) (out : List Nat) (l : List Int) : List Nat := l.foldl (fun o (p : Int) => meet ns o p.toNat) out
/-- Nodes are met: what leads on from out[i], for i from i on. -/
def reach (ns : List Nd) : Nat → Nat → List Nat → List Nat
  | 0, _, out => out
  | f + 1, i, out => match out[i]? with
    | some x => reach ns f (i + 1) (meets ns out (ndAt ns x).args)
    | none => out
def reached (ns : List Nd) (roots : List Int) : List Nat := reach ns (ns.length + 1) 0 (meets ns [] roots)
/-- The number that a place has behind it. -/
def num (ns : List Nd) (out : List Nat) (p : Int) : Int := out.idxOf (over ns p.toNat)
def moveNd (ns : List Nd) (out : List Nat) (x : Nat) : Nd := ⟨(ndAt ns x).kind, (ndAt ns x).num, (ndAt ns x).args.map (num ns out)⟩
/-- Behind Collect: the nodes, where the roots are. -/
def colNs (ns : List Nd) (roots : List Int) : List Nd := (reached ns roots).map (moveNd ns (reached ns roots))
def colRoots (ns : List Nd) (roots : List Int) : List Int := roots.map (num ns (reached ns roots))

/-- Met: all different, all places, all what they are passed over. -/
def Met (ns : List Nd) (out : List Nat) : Prop := out.Nodup ∧ ∀ x ∈ out, x < ns.length ∧ over ns x = x
theorem met_nil (ns : List Nd) : Met ns [] := ⟨List.nodup_nil, fun x h => by cases h⟩
theorem met_len {ns : List Nd} {out : List Nat} (h : Met ns out) : out.length ≤ ns.length := nodup_le _ _ h.1 (fun x hx => (h.2 x hx).1)
theorem met_meet {ns : List Nd} (hw : WF ns) {out : List Nat} (h : Met ns out) {p : Nat} (hp : p < ns.length) : Met ns (meet ns out p) := by
  unfold meet
  split
  · exact h
  · rename_i hn
    refine ⟨?_, ?_⟩
    · rw [List.nodup_append]
      refine ⟨h.1, by simp, ?_⟩
      intro a ha b hb hab
      simp at hb
      exact hn (hb ▸ hab ▸ ha)
    · intro x hx
      rcases List.mem_append.1 hx with hx | hx
      · exact h.2 x hx
      · simp at hx; subst hx
        exact ⟨ov_lt (wf_nxt_lt hw) hp, ov_ov (wf_nxt_lt hw) hp⟩
theorem mem_meet (ns : List Nd) (out : List Nat) (p : Nat) : over ns p ∈ meet ns out p := by
  unfold meet; split
  · assumption
  · simp
theorem meet_pre (ns : List Nd) (out : List Nat) (p : Nat) : out <+: meet ns out p := by
  unfold meet; split
  · exact List.prefix_rfl
  · exact List.prefix_append _ _
theorem meets_pre (ns : List Nd) (l : List Int) : ∀ out, out <+: meets ns out l := by
  induction l with
  | nil => intro out; exact List.prefix_rfl
  | cons a l ih => intro out; exact (meet_pre ns out a.toNat).trans (ih _)
theorem reach_pre (ns : List Nd) : ∀ f i out, out <+: reach ns f i out := by
  intro f
  induction f with
  | zero => intro i out; exact List.prefix_rfl
  | succ f ih =>
    intro i out
    unfold reach
    split
    · exact (meets_pre ns _ _).trans (ih _ _)
    · exact List.prefix_rfl
theorem idx_pre {a b : List Nat} (h : a <+: b) {x : Nat} (hx : x ∈ a) : b.idxOf x = a.idxOf x := by
  obtain ⟨t, rfl⟩ := h
  rw [List.idxOf_append, if_pos hx]
theorem reach_end (ns : List Nd) (f i : Nat) (out : List Nat) (h : out.length ≤ i) : reach ns f i out = out := by
  cases f with
  | zero => rfl
  | succ f => simp [reach, List.getElem?_eq_none h]
theorem reach_step (ns : List Nd) (f i : Nat) (out : List Nat) (h : i < out.length) : reach ns (f + 1) i out = reach ns f (i + 1) (meets ns out (ndAt ns out[i]).args) := by
  simp [reach, h]
theorem met_meets {ns : List Nd} (hw : WF ns) : ∀ (l : List Int) {out : List Nat}, Met ns out → okPl ns.length l = true → Met ns (meets ns out l) := by
  intro l
  induction l with
  | nil => intro out h _; exact h
  | cons a l ih =>
    intro out h ho
    simp only [okPl, List.all_cons, Bool.and_eq_true, decide_eq_true_eq] at ho
    exact ih (met_meet hw h (by omega)) (by simpa [okPl] using ho.2)

/-- What 'moved' knows. -/
structure MI (ns : List Nd) (l md : List Int) (out : List Nat) : Prop where
  len : md.length = ns.length
  met : Met ns out
  old : ∀ i, i < ns.length → md.getD i 0 ≠ 0 → ∃ j : Nat, md.getD i 0 = j + 1 ∧ out[j]? = some (over ns i) ∧ l.getD i 0 = i + 1
  all : ∀ (j x : Nat), out[j]? = some x → ∃ e : Nat, e < ns.length ∧ md.getD e 0 = j + 1 ∧ l.getD e 0 = e + 1
theorem mi_start (ns : List Nd) (l : List Int) : MI ns l (List.replicate ns.length 0) [] := by
  have h0 : ∀ i, (List.replicate ns.length (0 : Int)).getD i 0 = 0 := by intro i; simp [List.getElem?_replicate]; split <;> rfl
  exact ⟨by simp, met_nil ns, fun i _ h => absurd (h0 i) h, fun j x h => by simp at h⟩
theorem mi_over {ns : List Nd} {l l' md : List Int} {out : List Nat} (h : MI ns l md out) (hm : ∀ i, i < ns.length → l.getD i 0 ≠ 0 → l'.getD i 0 = l.getD i 0) : MI ns l' md out := by
  refine ⟨h.len, h.met, ?_, ?_⟩
  · intro i hi hk
    obtain ⟨j, h1, h2, h3⟩ := h.old i hi hk
    exact ⟨j, h1, h2, by rw [hm i hi (by omega)]; exact h3⟩
  · intro j x hx
    obtain ⟨e, h1, h2, h3⟩ := h.all j x hx
    exact ⟨e, h1, h2, by rw [hm e h1 (by omega)]; exact h3⟩

theorem idx_of {out : List Nat} (hn : out.Nodup) {j x : Nat} (h : out[j]? = some x) : out.idxOf x = j := by
  obtain ⟨hj, hx⟩ := List.getElem?_eq_some_iff.1 h
  subst hx
  exact hn.idxOf_getElem j hj

/-- It is moved: nothing is new. -/
theorem mi_had {ns : List Nd} (hw : WF ns) {l md : List Int} {out : List Nat} (hk : KI ns l) (h : MI ns l md out) {p e : Nat} (hp : p < ns.length) (he : l.getD p 0 = e + 1) (hm : md.getD e 0 ≠ 0) :
    over ns p ∈ out ∧ meet ns out p = out ∧ md.getD e 0 = (out.idxOf (over ns p) : Nat) + 1 := by
  obtain ⟨e', h1, h2, h3, h4, _⟩ := hk.rep p hp (by omega)
  obtain rfl : e' = e := by omega
  obtain ⟨j, k1, k2, k3⟩ := h.old _ h2 hm
  rw [h3] at k2
  have hin : over ns p ∈ out := List.mem_of_getElem? k2
  refine ⟨hin, by simp [meet, hin], ?_⟩
  rw [idx_of h.met.1 k2]; exact k1
/-- It is not: it is moved now. -/
theorem mi_new {ns : List Nd} (hw : WF ns) {l md : List Int} {out : List Nat} (hk : KI ns l) (h : MI ns l md out) {p e : Nat} (hp : p < ns.length) (he : l.getD p 0 = e + 1) (hm : md.getD e 0 = 0) :
    over ns p ∉ out ∧ meet ns out p = out ++ [over ns p] ∧ MI ns l (md.set e ((out.length : Int) + 1)) (meet ns out p) ∧ e < ns.length ∧ over ns e = over ns p ∧ (ind ns e = true → ind ns (over ns p) = true) := by
  obtain ⟨e', h1, h2, h3, h4, h5⟩ := hk.rep p hp (by omega)
  obtain rfl : e' = e := by omega
  have hno : over ns p ∉ out := by
    intro hin
    obtain ⟨j, hj⟩ := List.getElem?_of_mem hin
    obtain ⟨i, k1, k2, k3⟩ := h.all j _ hj
    obtain ⟨j', q1, q2, q3⟩ := h.old i k1 (by omega)
    have : j' = j := by omega
    subst this
    rw [hj] at q2
    have hov : over ns i = over ns e' := by rw [h3]; exact (Option.some.inj q2).symm
    have := hk.one i e' k1 h2 (by omega) (by omega) hov
    have : i = e' := by omega
    subst this
    omega
  have hmeet : meet ns out p = out ++ [over ns p] := by simp [meet, hno]
  refine ⟨hno, hmeet, ⟨by simp [h.len], met_meet hw h.met hp, ?_, ?_⟩, h2, h3, h5⟩
  · intro i hi hi0
    have hel : e' < md.length := by rw [h.len]; exact h2
    by_cases hie : e' = i
    · subst hie
      refine ⟨out.length, by simp [hel], ?_, h4⟩
      rw [hmeet, h3]; simp
    · have hg : (md.set e' ((out.length : Int) + 1)).getD i 0 = md.getD i 0 := by simp [List.getElem?_set, hie]
      rw [hg] at hi0 ⊢
      obtain ⟨j, q1, q2, q3⟩ := h.old i hi hi0
      refine ⟨j, q1, ?_, q3⟩
      rw [hmeet, List.getElem?_append_left (List.getElem?_eq_some_iff.1 q2).1]
      exact q2
  · intro j x hx
    have hel : e' < md.length := by rw [h.len]; exact h2
    rw [hmeet] at hx
    rcases Nat.lt_or_ge j out.length with hj | hj
    · rw [List.getElem?_append_left hj] at hx
      obtain ⟨i, k1, k2, k3⟩ := h.all j x hx
      have hie : e' ≠ i := by rintro rfl; omega
      exact ⟨i, k1, by simp only [List.getD_eq_getElem?_getD, List.getElem?_set, if_neg hie] at k2 ⊢; exact k2, k3⟩
    · have : j = out.length := by
        have := (List.getElem?_eq_some_iff.1 hx).1
        simp at this; omega
      subst this
      exact ⟨e', h2, by simp [hel], h4⟩

/-- A copy of a place's node is as good as a copy of what it is passed over. -/
theorem same_nd {ns : List Nd} (hw : WF ns) {e x : Nat} (he : e < ns.length) (ho : over ns e = x) (hi : ind ns e = true → ind ns x = true) :
    (ndAt ns e).kind = (ndAt ns x).kind ∧ (ndAt ns e).num = (ndAt ns x).num ∧ (ndAt ns e).args.map (fun a : Int => over ns a.toNat) = (ndAt ns x).args.map (fun a : Int => over ns a.toNat) := by
  cases hie : ind ns e with
  | false =>
    have : over ns e = e := ov_fix (nxt_fix hie)
    rw [this] at ho; subst ho
    exact ⟨rfl, rfl, rfl⟩
  | true =>
    have hix := hi hie
    have hx : x < ns.length := ho ▸ ov_lt (wf_nxt_lt hw) he
    have hxx : over ns x = x := by rw [← ho]; exact ov_ov (wf_nxt_lt hw) he
    obtain ⟨q, a1, a2, a3⟩ := wf_ind hw he hie
    obtain ⟨q', b1, b2, b3⟩ := wf_ind hw hx hix
    have k1 : (ndAt ns e).kind = 5 := by simpa [ind] using hie
    have k2 : (ndAt ns x).kind = 5 := by simpa [ind] using hix
    have m1 := (wf_at hw he).1
    have m2 := (wf_at hw hx).1
    simp only [Nd.may, mayB, k1, k2, decide_eq_true_eq] at m1 m2
    refine ⟨by rw [k1, k2], by omega, ?_⟩
    rw [a2, b2]
    have e1 : over ns q = x := by rw [← a3]; exact (ov_f (wf_nxt_lt hw) he).trans ho
    have e2 : over ns q' = x := by rw [← b3]; exact (ov_f (wf_nxt_lt hw) hx).trans hxx
    simp [e1, e2]
end Go.Proofs.Ytnagmcdlepcgnaa
