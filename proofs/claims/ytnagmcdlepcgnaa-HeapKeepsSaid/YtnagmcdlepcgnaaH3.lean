/- Heap: what the mover knows of places that lead on; pass. -/
import Derived.Test.YtnagmcdlepcgnaaH2
import Derived.Test.YtnagmcdlepcgnaaP1
set_option linter.unusedSimpArgs false
set_option linter.unusedVariables false
namespace Go.Proofs.Ytnagmcdlepcgnaa
open Go Go.W

def ndAt (ns : List Nd) (p : Nat) : Nd := ns.getD p ⟨0, 0, []⟩
def ind (ns : List Nd) (p : Nat) : Bool := decide ((ndAt ns p).kind = 5)
def nxt (ns : List Nd) (p : Nat) : Nat := if ind ns p then ((ndAt ns p).args.getD 0 0).toNat else p
/-- Every node may be, and leads to places. -/
def WF (ns : List Nd) : Prop := ∀ nd ∈ ns, nd.may = true ∧ okPl ns.length nd.args = true

theorem wf_at {ns : List Nd} (h : WF ns) {p : Nat} (hp : p < ns.length) : (ndAt ns p).may = true ∧ okPl ns.length (ndAt ns p).args = true := by
  have : ndAt ns p = ns[p] := by simp [ndAt, hp]
  rw [this]; exact h _ (List.getElem_mem hp)
theorem wf_ind {ns : List Nd} (h : WF ns) {p : Nat} (hp : p < ns.length) (hi : ind ns p = true) : ∃ q : Nat, q < ns.length ∧ (ndAt ns p).args = [(q : Int)] ∧ nxt ns p = q := by
  obtain ⟨h1, h2⟩ := wf_at h hp
  have hk : (ndAt ns p).kind = 5 := by simpa [ind] using hi
  simp only [Nd.may, mayB, hk, decide_eq_true_eq] at h1
  have hl : (ndAt ns p).args.length = 1 := by omega
  obtain ⟨x, hx⟩ := List.length_eq_one_iff.1 hl
  rw [hx] at h2
  rw [okPl_one] at h2
  simp only [decide_eq_true_eq] at h2
  refine ⟨x.toNat, by omega, by rw [hx]; congr 1; omega, by simp [nxt, hi, hx]⟩
theorem wf_nxt_lt {ns : List Nd} (h : WF ns) : ∀ p, p < ns.length → nxt ns p < ns.length := by
  intro p hp
  cases hi : ind ns p with
  | true => obtain ⟨q, h1, _, h2⟩ := wf_ind h hp hi; rw [h2]; exact h1
  | false => simp [nxt, hi, hp]
theorem nxt_fix {ns : List Nd} {p : Nat} (hi : ind ns p = false) : nxt ns p = p := by simp [nxt, hi]
theorem wf_args_le {ns : List Nd} (h : WF ns) : ∀ nd ∈ ns, nd.args.length ≤ 8 := by
  intro nd hn
  have := (h nd hn).1
  simp only [Nd.may, mayB, decide_eq_true_eq] at this
  omega

/-- What a place is, passed over. -/
def over (ns : List Nd) (p : Nat) : Nat := ov (nxt ns) ns.length p

/-- What 'over' may know: 0: nothing; else 1 and some place of the same thing, the same for all of them. -/
structure KI (ns : List Nd) (l : List Int) : Prop where
  len : l.length = ns.length
  rep : ∀ i, i < ns.length → l.getD i 0 ≠ 0 → ∃ e : Nat, l.getD i 0 = e + 1 ∧ e < ns.length ∧ over ns e = over ns i ∧ l.getD e 0 = e + 1 ∧ (ind ns e = true → ind ns (over ns i) = true)
  shut : ∀ i, i < ns.length → l.getD i 0 ≠ 0 → l.getD (nxt ns i) 0 ≠ 0
  one : ∀ i j, i < ns.length → j < ns.length → l.getD i 0 ≠ 0 → l.getD j 0 ≠ 0 → over ns i = over ns j → l.getD i 0 = l.getD j 0

theorem ki_fit {ns : List Nd} (hw : WF ns) {l : List Int} (h : KI ns l) {i : Nat} (hi : i < ns.length) (hk : l.getD i 0 ≠ 0) : ∀ k, l.getD (fit (nxt ns) k i) 0 ≠ 0 := by
  intro k
  induction k with
  | zero => exact hk
  | succ k ih => rw [fit_succ]; exact h.shut _ (fit_lt (wf_nxt_lt hw) k hi) ih

theorem ki_start (ns : List Nd) : KI ns (List.replicate ns.length 0) := by
  have h0 : ∀ i, (List.replicate ns.length (0 : Int)).getD i 0 = 0 := by intro i; simp [List.getElem?_replicate]; split <;> rfl
  refine ⟨by simp, fun i _ h => absurd (h0 i) h, fun i _ h => absurd (h0 i) h, fun i j _ _ h => absurd (h0 i) h⟩

/-- The way from p0 on: k places, none of them known, all different; x is where it ends; e is what they are. -/
theorem ki_pass {ns : List Nd} (hw : WF ns) {l l' : List Int} (h : KI ns l) {p0 k e : Nat} (hp : p0 < ns.length)
    (hun : ∀ j, j < k → ind ns (fit (nxt ns) j p0) = true ∧ l.getD (fit (nxt ns) j p0) 0 = 0)
    (hend : (e = fit (nxt ns) k p0 ∧ l.getD e 0 = 0 ∧ ((ind ns e = false) ∨ ∃ j, j < k ∧ e = fit (nxt ns) j p0)) ∨ (l.getD (fit (nxt ns) k p0) 0 = e + 1))
    (hl : l'.length = ns.length) (hl' : ∀ i, i < ns.length → l'.getD i 0 = if (∃ j, j ≤ k ∧ i = fit (nxt ns) j p0) then (e : Int) + 1 else l.getD i 0) :
    KI ns l' ∧ l'.getD p0 0 = e + 1 ∧ (∀ i, i < ns.length → l.getD i 0 ≠ 0 → l'.getD i 0 = l.getD i 0) := by
  have hf := (wf_nxt_lt hw)
  have onway : ∀ j, over ns (fit (nxt ns) j p0) = over ns p0 := fun j => ov_fit hf hp j
  have hxlt : ∀ j, fit (nxt ns) j p0 < ns.length := fun j => fit_lt hf j hp
  -- what is known of the same thing agrees with e
  have agree : ∀ i, i < ns.length → l.getD i 0 ≠ 0 → over ns i = over ns p0 → l.getD i 0 = e + 1 := by
    intro i hi hk ho
    rcases hend with ⟨he, h0, hor⟩ | hkn
    · exfalso
      obtain ⟨a, b, hab⟩ := (ov_eq hf hi (hxlt k)).1 (ho.trans (onway k).symm)
      have hka := ki_fit hw h hi hk a
      rw [hab] at hka
      rcases hor with hni | ⟨j, hj, hej⟩
      · rw [← he, fit_fix (nxt_fix hni) b] at hka
        exact hka h0
      · -- a ring: all its places are on the way
        have hring : ∀ b, ∃ j', j' < k ∧ fit (nxt ns) b (fit (nxt ns) k p0) = fit (nxt ns) j' p0 := by
          intro b
          have hper : fit (nxt ns) (k - j) (fit (nxt ns) j p0) = fit (nxt ns) j p0 := by
            rw [← fit_add, show k - j + j = k by omega, ← he, hej]
          induction b with
          | zero => exact ⟨j, hj, by show fit (nxt ns) k p0 = _; rw [← he, hej]⟩
          | succ b ihb =>
            obtain ⟨j', hj', hb⟩ := ihb
            rw [fit_succ, hb, ← fit_succ (nxt ns)]
            by_cases hlast : j' + 1 < k
            · exact ⟨j' + 1, hlast, rfl⟩
            · have : j' + 1 = k := by omega
              rw [this]
              exact ⟨j, hj, by rw [← he, hej]⟩
        obtain ⟨j', hj', hb⟩ := hring b
        rw [hb] at hka
        exact hka (hun j' hj').2
    · rw [← hkn]
      exact h.one _ _ hi (hxlt k) hk (by rw [hkn]; omega) (ho.trans (onway k).symm)
  have keep : ∀ i, i < ns.length → l.getD i 0 ≠ 0 → l'.getD i 0 = l.getD i 0 := by
    intro i hi hk
    rw [hl' i hi]
    split
    · rename_i hex
      obtain ⟨j, _, rfl⟩ := hex
      exact (agree _ hi hk (onway j)).symm
    · rfl
  have elt : e < ns.length ∧ over ns e = over ns p0 ∧ l'.getD e 0 = e + 1 ∧ (ind ns e = true → ind ns (over ns p0) = true) := by
    rcases hend with ⟨he, h0, hor⟩ | hkn
    · refine ⟨by rw [he]; exact hxlt k, by rw [he]; exact onway k, ?_, ?_⟩
      · rw [hl' e (by rw [he]; exact hxlt k), if_pos ⟨k, Nat.le_refl _, he⟩]
      · intro hi
        rcases hor with hni | ⟨j, hj, hej⟩
        · rw [hni] at hi; cases hi
        · -- over p0 is on the ring, whose places are all on the way
          obtain ⟨q, _, hq⟩ := ov_mem (nxt ns) ns.length p0
          have hallind : ∀ m, ind ns (fit (nxt ns) m p0) = true := by
            intro m
            have : ∃ j', j' < k ∧ fit (nxt ns) m p0 = fit (nxt ns) j' p0 := by
              induction m with
              | zero => exact ⟨0, by omega, rfl⟩
              | succ m ihm =>
                obtain ⟨j', hj', hm⟩ := ihm
                rw [fit_succ, hm, ← fit_succ (nxt ns)]
                by_cases hlast : j' + 1 < k
                · exact ⟨j' + 1, hlast, rfl⟩
                · have : j' + 1 = k := by omega
                  rw [this]
                  exact ⟨j, hj, by rw [← he, hej]⟩
            obtain ⟨j', hj', hm⟩ := this
            rw [hm]; exact (hun j' hj').1
          show ind ns (ov (nxt ns) ns.length p0) = true
          rw [hq]; exact hallind _
    · obtain ⟨e', h1, h2, h3, h4, h5⟩ := h.rep _ (hxlt k) (by rw [hkn]; omega)
      have : e' = e := by omega
      subst this
      refine ⟨h2, h3.trans (onway k), by rw [keep _ h2 (by rw [h4]; omega)]; exact h4, ?_⟩
      intro hi
      have := h5 hi
      rwa [onway k] at this
  refine ⟨⟨hl, ?_, ?_, ?_⟩, ?_, keep⟩
  · intro i hi hk
    rw [hl' i hi] at hk
    by_cases hex : ∃ j, j ≤ k ∧ i = fit (nxt ns) j p0
    · obtain ⟨j, hj, rfl⟩ := hex
      refine ⟨e, by rw [hl' _ hi, if_pos ⟨j, hj, rfl⟩], elt.1, elt.2.1.trans (onway j).symm, elt.2.2.1, fun hh => by rw [onway j]; exact elt.2.2.2 hh⟩
    · rw [if_neg hex] at hk
      obtain ⟨e', h1, h2, h3, h4, h5⟩ := h.rep i hi hk
      exact ⟨e', by rw [hl' i hi, if_neg hex, h1], h2, h3, by rw [keep e' h2 (by rw [h4]; omega), h4], h5⟩
  · intro i hi hk
    rw [hl' i hi] at hk
    rw [hl' _ (hf i hi)]
    by_cases hex2 : ∃ j, j ≤ k ∧ nxt ns i = fit (nxt ns) j p0
    · rw [if_pos hex2]; omega
    · rw [if_neg hex2]
      by_cases hex : ∃ j, j ≤ k ∧ i = fit (nxt ns) j p0
      · obtain ⟨j, hj, rfl⟩ := hex
        by_cases hjk : j < k
        · exact absurd ⟨j + 1, by omega, by rw [fit_succ]⟩ hex2
        · have : j = k := by omega
          subst this
          rcases hend with ⟨he, h0, hor⟩ | hkn
          · rcases hor with hni | ⟨j', hj', hej⟩
            · exact absurd ⟨j, Nat.le_refl _, by rw [← he]; exact nxt_fix hni⟩ hex2
            · exact absurd ⟨j' + 1, by omega, by rw [← he, hej, fit_succ]⟩ hex2
          · exact h.shut _ hi (by rw [hkn]; omega)
      · rw [if_neg hex] at hk
        exact h.shut i hi hk
  · intro i j hi hj hki hkj ho
    have val : ∀ i, i < ns.length → l'.getD i 0 ≠ 0 → over ns i = over ns p0 → l'.getD i 0 = e + 1 := by
      intro i hi hk ho
      rw [hl' i hi] at hk ⊢
      split
      · rfl
      · rename_i hex; rw [if_neg hex] at hk; exact agree i hi hk ho
    by_cases hpo : over ns i = over ns p0
    · rw [val i hi hki hpo, val j hj hkj (ho ▸ hpo)]
    · have hni : ∀ i, over ns i ≠ over ns p0 → ¬ ∃ j, j ≤ k ∧ i = fit (nxt ns) j p0 := by
        rintro i hne ⟨j, _, rfl⟩; exact hne (onway j)
      rw [hl' i hi, if_neg (hni i hpo)] at hki ⊢
      rw [hl' j hj, if_neg (hni j (ho ▸ hpo))] at hkj ⊢
      exact h.one i j hi hj hki hkj ho
  · rw [hl' p0 hp, if_pos ⟨0, by omega, rfl⟩]
end Go.Proofs.Ytnagmcdlepcgnaa
