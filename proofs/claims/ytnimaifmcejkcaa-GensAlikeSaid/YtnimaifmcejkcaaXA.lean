/- Gens, GensAlike: alike walked. -/
import Derived.Test.YtnimaifmcejkcaaGB
import Derived.Test.YtnimaifmcejkcaaLB
section
set_option linter.unusedSimpArgs false
set_option linter.unusedVariables false
namespace Go.Proofs.Ytnimaifmcejkcaa
open Go Go.W

/-- A relation of places, passed over, that makes two graphs one. -/
structure IsoR (ns ms : List Nd) (R : Nat → Nat → Prop) : Prop where
  dom : ∀ x y, R x y → x < ns.length ∧ y < ms.length ∧ over ns x = x ∧ over ms y = y
  fn : ∀ x y y', R x y → R x y' → y = y'
  inj : ∀ x x' y, R x y → R x' y → x = x'
  nd : ∀ x y, R x y → (ndAt ns x).kind = (ndAt ms y).kind ∧ (ndAt ns x).num = (ndAt ms y).num ∧ (ndAt ns x).args.length = (ndAt ms y).args.length
  kids : ∀ x y, R x y → ind ns x = false → ∀ (i : Nat) (a b : Int), (ndAt ns x).args[i]? = some a → (ndAt ms y).args[i]? = some b → R (over ns a.toNat) (over ms b.toNat)
def Rooted (ns ms : List Nd) (R : Nat → Nat → Prop) (rs qs : List Int) : Prop := rs.length = qs.length ∧ ∀ (i : Nat) (a b : Int), rs[i]? = some a → qs[i]? = some b → R (over ns a.toNat) (over ms b.toNat)
def Alike (ns : List Nd) (rs : List Int) (ms : List Nd) (qs : List Int) : Prop := ∃ R, IsoR ns ms R ∧ Rooted ns ms R rs qs

theorem ind_eq {ns ms : List Nd} {x y : Nat} (h : (ndAt ns x).kind = (ndAt ms y).kind) : ind ns x = ind ms y := by simp [ind, h]
theorem isoR_symm {ns ms : List Nd} {R : Nat → Nat → Prop} (h : IsoR ns ms R) : IsoR ms ns (fun y x => R x y) :=
  ⟨fun x y hr => by obtain ⟨h1, h2, h3, h4⟩ := h.dom _ _ hr; exact ⟨h2, h1, h4, h3⟩, fun x y y' h1 h2 => h.inj _ _ _ h1 h2, fun x x' y h1 h2 => h.fn _ _ _ h1 h2,
    fun x y hr => by obtain ⟨h1, h2, h3⟩ := h.nd _ _ hr; exact ⟨h1.symm, h2.symm, h3.symm⟩, fun x y hr hi i a b ha hb => h.kids _ _ hr (by rw [ind_eq (h.nd _ _ hr).1]; exact hi) i b a hb ha⟩
theorem isoR_trans {ns ms ls : List Nd} {R S : Nat → Nat → Prop} (h : IsoR ns ms R) (k : IsoR ms ls S) : IsoR ns ls (fun x z => ∃ y, R x y ∧ S y z) := by
  refine ⟨?_, ?_, ?_, ?_, ?_⟩
  · rintro x z ⟨y, h1, h2⟩; exact ⟨(h.dom _ _ h1).1, (k.dom _ _ h2).2.1, (h.dom _ _ h1).2.2.1, (k.dom _ _ h2).2.2.2⟩
  · rintro x z z' ⟨y, h1, h2⟩ ⟨y', h3, h4⟩
    cases h.fn _ _ _ h1 h3
    exact k.fn _ _ _ h2 h4
  · rintro x x' z ⟨y, h1, h2⟩ ⟨y', h3, h4⟩
    cases k.inj _ _ _ h2 h4
    exact h.inj _ _ _ h1 h3
  · rintro x z ⟨y, h1, h2⟩
    obtain ⟨a1, a2, a3⟩ := h.nd _ _ h1
    obtain ⟨b1, b2, b3⟩ := k.nd _ _ h2
    exact ⟨a1.trans b1, a2.trans b2, a3.trans b3⟩
  · rintro x z ⟨y, h1, h2⟩ hi i a c ha hc
    have hl := (h.nd _ _ h1).2.2
    have hil : i < (ndAt ms y).args.length := by rw [← hl]; exact (List.getElem?_eq_some_iff.1 ha).1
    refine ⟨_, h.kids _ _ h1 hi i a _ ha (List.getElem?_eq_getElem hil), k.kids _ _ h2 (by rw [← ind_eq (h.nd _ _ h1).1]; exact hi) i _ c (List.getElem?_eq_getElem hil) hc⟩
theorem alike_symm {ns ms : List Nd} {rs qs : List Int} (h : Alike ns rs ms qs) : Alike ms qs ns rs := by
  obtain ⟨R, h1, h2, h3⟩ := h
  exact ⟨_, isoR_symm h1, h2.symm, fun i a b ha hb => h3 i b a hb ha⟩
theorem alike_trans {ns ms ls : List Nd} {rs qs ps : List Int} (h : Alike ns rs ms qs) (k : Alike ms qs ls ps) : Alike ns rs ls ps := by
  obtain ⟨R, h1, h2, h3⟩ := h
  obtain ⟨S, k1, k2, k3⟩ := k
  refine ⟨_, isoR_trans h1 k1, h2.trans k2, fun i a c ha hc => ?_⟩
  have hil : i < qs.length := by rw [← h2]; exact (List.getElem?_eq_some_iff.1 ha).1
  exact ⟨_, h3 i a _ ha (List.getElem?_eq_getElem hil), k3 i _ c (List.getElem?_eq_getElem hil) hc⟩
theorem okPl_mem {n : Nat} {l : List Int} (h : okPl n l = true) {a : Int} (ha : a ∈ l) : 0 ≤ a ∧ a < n := by
  have := List.all_eq_true.1 h a ha
  simpa using this
theorem okPl_nat {n : Nat} {l : List Int} (h : okPl n l = true) {a : Int} (ha : a ∈ l) : a.toNat < n := by
  have := okPl_mem h ha; omega
theorem alike_refl {ns : List Nd} (hw : WF ns) {rs : List Int} (ho : okPl ns.length rs = true) : Alike ns rs ns rs := by
  refine ⟨fun x y => x = y ∧ x < ns.length ∧ over ns x = x, ⟨?_, ?_, ?_, ?_, ?_⟩, rfl, ?_⟩
  · rintro x _ ⟨rfl, h1, h2⟩; exact ⟨h1, h1, h2, h2⟩
  · rintro x _ _ ⟨rfl, _⟩ ⟨rfl, _⟩; rfl
  · rintro _ _ _ ⟨rfl, _⟩ ⟨rfl, _⟩; rfl
  · rintro x _ ⟨rfl, _⟩; exact ⟨rfl, rfl, rfl⟩
  · rintro x _ ⟨rfl, h1, h2⟩ _ i a b ha hb
    rw [ha] at hb; cases hb
    have := okPl_nat (wf_at hw h1).2 (List.mem_of_getElem? ha)
    exact ⟨rfl, ov_lt (wf_nxt_lt hw) this, ov_ov (wf_nxt_lt hw) this⟩
  · intro i a b ha hb
    rw [ha] at hb; cases hb
    have := okPl_nat ho (List.mem_of_getElem? ha)
    exact ⟨rfl, ov_lt (wf_nxt_lt hw) this, ov_ov (wf_nxt_lt hw) this⟩

/-- Fewer roots, or others: of two that are alike, any that stand for things of both. -/
theorem alike_sub {ns ms : List Nd} {rs qs rs' qs' : List Int} (h : Alike ns rs ms qs) (hl : rs'.length = qs'.length) (hs : ∀ (i : Nat) (a b : Int), rs'[i]? = some a → qs'[i]? = some b → ∃ j : Nat, rs[j]? = some a ∧ qs[j]? = some b) : Alike ns rs' ms qs' := by
  obtain ⟨R, h1, h2, h3⟩ := h
  refine ⟨R, h1, hl, fun i a b ha hb => ?_⟩
  obtain ⟨j, k1, k2⟩ := hs i a b ha hb
  exact h3 j a b k1 k2

/- What a collection leaves. -/
section
variable {ns : List Nd} {fr : Nat} {roots : List Int}
theorem numF_of (ns : List Nd) (fr : Nat) (O : List Nat) {p q : Int} (h : over ns p.toNat = over ns q.toNat) : numF ns fr O p = numF ns fr O q := by simp [numF, h]
/-- The places of what is met. -/
def nuF (ns : List Nd) (fr : Nat) (O : List Nat) (x : Nat) : Nat := if x < fr then x else fr + O.idxOf x
theorem numF_nu (ns : List Nd) (fr : Nat) (O : List Nat) (p : Int) : numF ns fr O p = (nuF ns fr O (over ns p.toNat) : Nat) := by
  unfold numF nuF; split <;> rfl
theorem small_old {p : Nat} (hp : p < fr) : ndAt (smallNs ns fr roots) p = oldNd ns fr (smallO ns fr roots) p := by
  unfold ndAt smallNs
  rw [List.getD_eq_getElem?_getD, List.getElem?_append_left (by simpa using hp)]
  simp [hp]
theorem small_new {j : Nat} (hj : j < (smallO ns fr roots).length) : ndAt (smallNs ns fr roots) (fr + j) = movedF ns fr (smallO ns fr roots) (smallO ns fr roots)[j] := by
  unfold ndAt smallNs
  rw [List.getD_eq_getElem?_getD, List.getElem?_append_right (by simp)]
  simp [hj]
/-- Met: it is there behind the collection. -/
def InF (ns : List Nd) (fr : Nat) (O : List Nat) (x : Nat) : Prop := x < ns.length ∧ over ns x = x ∧ (x < fr ∨ x ∈ O)
theorem nuF_inj {O : List Nat} (hO : ∀ x ∈ O, fr ≤ x) {x y : Nat} (hx : x < fr ∨ x ∈ O) (hy : y < fr ∨ y ∈ O) (h : nuF ns fr O x = nuF ns fr O y) : x = y := by
  unfold nuF at h
  split at h <;> split at h
  · exact h
  · omega
  · omega
  · rename_i h1 h2
    have h3 := hx.resolve_left h1
    have h4 := hy.resolve_left h2
    have h5 : O.idxOf x = O.idxOf y := by omega
    have e1 := List.getElem_idxOf (List.idxOf_lt_length_iff.2 h3)
    have e2 := List.getElem_idxOf (List.idxOf_lt_length_iff.2 h4)
    simp only [h5] at e1
    rw [← e1, e2]
theorem small_nd (hw : WF ns) (hfr : fr ≤ ns.length) (ho : okPl ns.length roots = true) {x : Nat} (hx : InF ns fr (smallO ns fr roots) x) :
    nuF ns fr (smallO ns fr roots) x < (smallNs ns fr roots).length ∧ (ndAt (smallNs ns fr roots) (nuF ns fr (smallO ns fr roots) x)).kind = (ndAt ns x).kind ∧ (ndAt (smallNs ns fr roots) (nuF ns fr (smallO ns fr roots) x)).num = (ndAt ns x).num ∧
      (ind ns x = true → (ndAt (smallNs ns fr roots) (nuF ns fr (smallO ns fr roots) x)).args = [(nuF ns fr (smallO ns fr roots) x : Int)]) ∧
      (ind ns x = false → (ndAt (smallNs ns fr roots) (nuF ns fr (smallO ns fr roots) x)).args = if x < fr then oldArgs ns fr (smallO ns fr roots) x else (ndAt ns x).args.map (numF ns fr (smallO ns fr roots))) := by
  obtain ⟨h1, h2, h3⟩ := hx
  rw [small_length]
  by_cases hlt : x < fr
  · have e : nuF ns fr (smallO ns fr roots) x = x := by simp [nuF, hlt]
    rw [e, small_old hlt]
    refine ⟨by omega, rfl, rfl, fun hi => by simp [oldNd, hi, h2], fun hi => by simp [oldNd, hi, hlt]⟩
  · have hm := h3.resolve_left hlt
    have hj := List.idxOf_lt_length_iff.2 hm
    have e : nuF ns fr (smallO ns fr roots) x = fr + (smallO ns fr roots).idxOf x := by simp [nuF, hlt]
    have ex := List.getElem_idxOf hj
    rw [e, small_new hj, ex]
    refine ⟨by omega, rfl, rfl, fun hi => ?_, fun hi => by simp [movedF, hlt]⟩
    obtain ⟨q, hq, ha, hn⟩ := wf_ind hw h1 hi
    have eo : over ns q = x := by rw [← hn]; exact (ov_f (wf_nxt_lt hw) h1).trans h2
    simp only [movedF, ha, List.map_cons, List.map_nil, numF_nu, Int.toNat_natCast, eo, e]
theorem small_over (hw : WF ns) (hfr : fr ≤ ns.length) (ho : okPl ns.length roots = true) {x : Nat} (hx : InF ns fr (smallO ns fr roots) x) :
    over (smallNs ns fr roots) (nuF ns fr (smallO ns fr roots) x) = nuF ns fr (smallO ns fr roots) x := by
  obtain ⟨h1, h2, h3, h4, h5⟩ := small_nd hw hfr ho hx
  refine ov_fix ?_
  cases hi : ind ns x with
  | false => exact nxt_fix (by rw [ind, h2]; exact hi)
  | true =>
    have : ind (smallNs ns fr roots) (nuF ns fr (smallO ns fr roots) x) = true := by rw [ind, h2]; exact hi
    simp [nxt, this, h4 hi]
/-- An old place is passed over to what it was passed over to. -/
theorem small_chain (hw : WF ns) (hfr : fr ≤ ns.length) (ho : okPl ns.length roots = true) : ∀ k q, q < fr → fit (nxt ns) k q = over ns q →
    InF ns fr (smallO ns fr roots) (over ns q) ∧ over (smallNs ns fr roots) q = nuF ns fr (smallO ns fr roots) (over ns q) := by
  obtain ⟨m1, m2, m3, m4⟩ := small_met hw hfr ho
  have hf := wf_nxt_lt hw
  have fixd : ∀ q, q < fr → over ns q = q → InF ns fr (smallO ns fr roots) (over ns q) ∧ over (smallNs ns fr roots) q = nuF ns fr (smallO ns fr roots) (over ns q) := by
    intro q hq he
    have hin : InF ns fr (smallO ns fr roots) q := ⟨by omega, he, .inl hq⟩
    have h1 := small_over hw hfr ho hin
    have e : nuF ns fr (smallO ns fr roots) q = q := by simp [nuF, hq]
    rw [e] at h1
    rw [he, e]
    exact ⟨hin, h1⟩
  intro k
  induction k with
  | zero => intro q hq he; exact fixd q hq he.symm
  | succ k ih =>
    intro q hq he
    have hql : q < ns.length := by omega
    by_cases hfix : over ns q = q
    · exact fixd q hq hfix
    · cases hi : ind ns q with
      | false => exact absurd (ov_fix (nxt_fix hi)) hfix
      | true =>
        obtain ⟨a, ha, hargs, hn⟩ := wf_ind hw hql hi
        have eo : over ns a = over ns q := by rw [← hn]; exact ov_f hf hql
        have hso := small_old (ns := ns) (roots := roots) hq
        have hnot : ¬ (ind ns q = true ∧ over ns q = q) := fun h => hfix h.2
        have hkq : ind (smallNs ns fr roots) q = true := by rw [ind, hso]; exact hi
        have hqs : q < (smallNs ns fr roots).length := by rw [small_length]; omega
        have hov := ov_f (wf_nxt_lt (small_wf hw hfr ho)) hqs
        have hargs' : (ndAt (smallNs ns fr roots) q).args = oldArgs ns fr (smallO ns fr roots) q := by rw [hso, oldNd, if_neg hnot]
        have hN : nxt (smallNs ns fr roots) q = ((oldArgs ns fr (smallO ns fr roots) q).getD 0 0).toNat := by simp [nxt, hkq, hargs']
        by_cases hy : isY fr a = true
        · have hmem := m4 q hq a (by rw [hargs]; simp) hy
          rw [Int.toNat_natCast] at hmem
          have hin : InF ns fr (smallO ns fr roots) (over ns a) := ⟨ov_lt hf ha, ov_ov hf ha, hmem⟩
          have e2 : nxt (smallNs ns fr roots) q = nuF ns fr (smallO ns fr roots) (over ns a) := by
            rw [hN]; simp [oldArgs, hargs, hy, numF_nu]
          rw [e2] at hov
          rw [← eo]
          refine ⟨hin, ?_⟩
          have := small_over hw hfr ho hin
          unfold over at this ⊢
          rw [← hov]; exact this
        · have halt : a < fr := by simp [isY] at hy; omega
          have e2 : nxt (smallNs ns fr roots) q = a := by
            rw [hN]; simp [oldArgs, hargs, hy]
          rw [e2] at hov
          have hfit : fit (nxt ns) k a = over ns a := by
            rw [eo, ← he, ← hn]; rfl
          have := ih a halt hfit
          rw [eo] at this
          refine ⟨this.1, ?_⟩
          rw [← this.2]
          exact hov.symm
theorem small_chain' (hw : WF ns) (hfr : fr ≤ ns.length) (ho : okPl ns.length roots = true) {q : Nat} (hq : q < fr) :
    InF ns fr (smallO ns fr roots) (over ns q) ∧ over (smallNs ns fr roots) q = nuF ns fr (smallO ns fr roots) (over ns q) := by
  obtain ⟨k, _, hk⟩ := ov_mem (nxt ns) ns.length q
  exact small_chain hw hfr ho (k + ns.length) q hq hk.symm
theorem alike_small (hw : WF ns) (hfr : fr ≤ ns.length) (ho : okPl ns.length roots = true) : Alike ns roots (smallNs ns fr roots) (smallRoots ns fr roots) := by
  obtain ⟨m1, m2, m3, m4⟩ := small_met hw hfr ho
  have hf := wf_nxt_lt hw
  have met : ∀ a : Int, a.toNat < ns.length → (over ns a.toNat < fr ∨ over ns a.toNat ∈ smallO ns fr roots) → InF ns fr (smallO ns fr roots) (over ns a.toNat) ∧ over (smallNs ns fr roots) (numF ns fr (smallO ns fr roots) a).toNat = nuF ns fr (smallO ns fr roots) (over ns a.toNat) := by
    intro a ha hm
    have hin : InF ns fr (smallO ns fr roots) (over ns a.toNat) := ⟨ov_lt hf ha, ov_ov hf ha, hm⟩
    refine ⟨hin, ?_⟩
    rw [numF_nu, Int.toNat_natCast]
    exact small_over hw hfr ho hin
  refine ⟨fun x y => InF ns fr (smallO ns fr roots) x ∧ y = nuF ns fr (smallO ns fr roots) x, ⟨?_, ?_, ?_, ?_, ?_⟩, by simp [smallRoots], ?_⟩
  · rintro x _ ⟨h1, rfl⟩
    exact ⟨h1.1, (small_nd hw hfr ho h1).1, h1.2.1, small_over hw hfr ho h1⟩
  · rintro x _ _ ⟨_, rfl⟩ ⟨_, rfl⟩; rfl
  · rintro x x' _ ⟨h1, rfl⟩ ⟨h2, h3⟩
    exact nuF_inj (ns := ns) (fun z hz => (m1.2 z hz).2.2) h1.2.2 h2.2.2 h3
  · rintro x _ ⟨h1, rfl⟩
    obtain ⟨h2, h3, h4, h5, h6⟩ := small_nd hw hfr ho h1
    refine ⟨h3.symm, h4.symm, ?_⟩
    cases hi : ind ns x with
    | true =>
      obtain ⟨q, _, hq, _⟩ := wf_ind hw h1.1 hi
      rw [h5 hi, hq]; rfl
    | false =>
      rw [h6 hi]
      split <;> simp [oldArgs]
  · rintro x _ ⟨h1, rfl⟩ hi i a b ha hb
    obtain ⟨h2, h3, h4, h5, h6⟩ := small_nd hw hfr ho h1
    rw [h6 hi] at hb
    have hmem := List.mem_of_getElem? ha
    have hal := okPl_nat (wf_at hw h1.1).2 hmem
    have hap := okPl_mem (wf_at hw h1.1).2 hmem
    split at hb
    · rename_i hlt
      simp only [oldArgs, List.getElem?_map, ha, Option.map_some, Option.some.injEq] at hb
      subst hb
      split
      · rename_i hy
        exact met a hal (m4 x hlt a hmem hy)
      · rename_i hy
        have halt : a.toNat < fr := by simp [isY] at hy; omega
        exact small_chain' hw hfr ho halt
    · rename_i hlt
      simp only [List.getElem?_map, ha, Option.map_some, Option.some.injEq] at hb
      subst hb
      exact met a hal (m2 x (h1.2.2.resolve_left hlt) a hmem)
  · intro i a b ha hb
    simp only [smallRoots, List.getElem?_map, ha, Option.map_some, Option.some.injEq] at hb
    subst hb
    have hmem := List.mem_of_getElem? ha
    exact met a (okPl_nat ho hmem) (m3 a hmem)
end

/- What is met, in which order. -/
section
variable {ns ms : List Nd} {R : Nat → Nat → Prop}
def Sim (R : Nat → Nat → Prop) (out out' : List Nat) : Prop := out.length = out'.length ∧ ∀ (i x y : Nat), out[i]? = some x → out'[i]? = some y → R x y
theorem sim_mem (h : IsoR ns ms R) {out out' : List Nat} (hs : Sim R out out') {x y : Nat} (hxy : R x y) : x ∈ out ↔ y ∈ out' := by
  constructor
  · intro hx
    obtain ⟨i, hi, rfl⟩ := List.getElem_of_mem hx
    have hi' : i < out'.length := by rw [← hs.1]; exact hi
    have := hs.2 i _ _ (List.getElem?_eq_getElem hi) (List.getElem?_eq_getElem hi')
    rw [h.fn _ _ _ hxy this]
    exact List.getElem_mem hi'
  · intro hy
    obtain ⟨i, hi', rfl⟩ := List.getElem_of_mem hy
    have hi : i < out.length := by rw [hs.1]; exact hi'
    have := hs.2 i _ _ (List.getElem?_eq_getElem hi) (List.getElem?_eq_getElem hi')
    rw [h.inj _ _ _ hxy this]
    exact List.getElem_mem hi
theorem sim_meet0 (h : IsoR ns ms R) {out out' : List Nat} (hs : Sim R out out') {p q : Nat} (hpq : R (over ns p) (over ms q)) : Sim R (meetF ns 0 out p) (meetF ms 0 out' q) := by
  unfold meetF
  have := sim_mem h hs hpq
  by_cases hm : over ns p ∈ out
  · rw [if_pos (.inr hm), if_pos (.inr (this.1 hm))]; exact hs
  · rw [if_neg (by simp [hm]), if_neg (by have hm' : over ms q ∉ out' := fun hh => hm (this.2 hh)
                                          simp [hm'])]
    refine ⟨by simp [hs.1], fun i x y hx hy => ?_⟩
    rcases Nat.lt_or_ge i out.length with hi | hi
    · rw [List.getElem?_append_left hi] at hx
      rw [List.getElem?_append_left (by rw [← hs.1]; exact hi)] at hy
      exact hs.2 i x y hx hy
    · have hl := (List.getElem?_eq_some_iff.1 hx).1
      simp at hl
      obtain rfl : i = out.length := by omega
      simp at hx
      rw [hs.1] at hy
      simp at hy
      rw [← hx, ← hy]; exact hpq
theorem sim_meets0 (h : IsoR ns ms R) : ∀ (l k : List Int) {out out' : List Nat}, Sim R out out' → l.length = k.length → (∀ (i : Nat) (a b : Int), l[i]? = some a → k[i]? = some b → R (over ns a.toNat) (over ms b.toNat)) → Sim R (meetsF ns 0 out l) (meetsF ms 0 out' k) := by
  intro l
  induction l with
  | nil =>
    intro k out out' hs hl _
    cases k with
    | nil => exact hs
    | cons => simp at hl
  | cons a l ih =>
    intro k out out' hs hl hr
    cases k with
    | nil => simp at hl
    | cons b k =>
      rw [meetsF_cons, meetsF_cons]
      exact ih k (sim_meet0 h hs (hr 0 a b rfl rfl)) (by simpa using hl) (fun i a' b' ha hb => hr (i + 1) a' b' (by simpa using ha) (by simpa using hb))
theorem ring_meet (hw : WF ns) {out : List Nat} {x : Nat} (hx : x < ns.length) (ho : over ns x = x) (hi : ind ns x = true) (hm : x ∈ out) : meetsF ns 0 out (ndAt ns x).args = out := by
  obtain ⟨q, hq, ha, hn⟩ := wf_ind hw hx hi
  have eo : over ns q = x := by rw [← hn]; exact (ov_f (wf_nxt_lt hw) hx).trans ho
  rw [ha, meetsF_cons]
  unfold meetF
  rw [Int.toNat_natCast, eo, if_pos (.inr hm)]
  rfl
theorem sim_reach0 (hw : WF ns) (hw' : WF ms) (h : IsoR ns ms R) : ∀ (f i : Nat) (out out' : List Nat), Sim R out out' → Sim R (reachF ns 0 f i out) (reachF ms 0 f i out') := by
  intro f
  induction f with
  | zero => intro i out out' hs; exact hs
  | succ f ih =>
    intro i out out' hs
    rcases Nat.lt_or_ge i out.length with hi | hi
    · have hi' : i < out'.length := by rw [← hs.1]; exact hi
      rw [reachF_step ns 0 f i out hi, reachF_step ms 0 f i out' hi']
      refine ih _ _ _ ?_
      have hr := hs.2 i _ _ (List.getElem?_eq_getElem hi) (List.getElem?_eq_getElem hi')
      obtain ⟨d1, d2, d3, d4⟩ := h.dom _ _ hr
      cases hind : ind ns out[i] with
      | true =>
        rw [ring_meet hw d1 d3 hind (List.getElem_mem hi), ring_meet hw' d2 d4 (by rw [← ind_eq (h.nd _ _ hr).1]; exact hind) (List.getElem_mem hi')]
        exact hs
      | false => exact sim_meets0 h _ _ hs (h.nd _ _ hr).2.2 (fun j a b ha hb => h.kids _ _ hr hind j a b ha hb)
    · rw [reachF_end ns 0 _ _ _ hi, reachF_end ms 0 _ _ _ (by rw [← hs.1]; exact hi)]
      exact hs
/-- More rounds change nothing. -/
theorem reach_more (hw : WF ns) : ∀ (f g i : Nat) (out : List Nat), MetF ns 0 out → ns.length + 1 ≤ f + i → ns.length + 1 ≤ g + i → reachF ns 0 f i out = reachF ns 0 g i out := by
  intro f
  induction f with
  | zero =>
    intro g i out hm hf hg
    have := metF_len hm
    rw [reachF_end ns 0 0 i out (by omega), reachF_end ns 0 g i out (by omega)]
  | succ f ih =>
    intro g i out hm hf hg
    rcases Nat.lt_or_ge i out.length with hi | hi
    · cases g with
      | zero => have := metF_len hm; omega
      | succ g =>
        rw [reachF_step ns 0 f i out hi, reachF_step ns 0 g i out hi]
        exact ih g _ _ (metF_meets hw _ hm (wf_at hw (hm.2 _ (List.getElem_mem hi)).1).2) (by omega) (by omega)
    · rw [reachF_end ns 0 _ _ _ hi, reachF_end ns 0 _ _ _ hi]
theorem smallO_zero (ns : List Nd) (roots : List Int) : smallO ns 0 roots = reachF ns 0 (ns.length + 1) 0 (meetsF ns 0 [] roots) := rfl
theorem alike_count (hw : WF ns) (hw' : WF ms) {rs qs : List Int} (ho : okPl ns.length rs = true) (ho' : okPl ms.length qs = true) (h : Alike ns rs ms qs) : (smallO ns 0 rs).length = (smallO ms 0 qs).length := by
  obtain ⟨R, h1, h2⟩ := h
  have s0 : Sim R (meetsF ns 0 [] rs) (meetsF ms 0 [] qs) := sim_meets0 h1 rs qs ⟨rfl, fun i x y hx => by simp at hx⟩ h2.1 h2.2
  have e1 := reach_more hw (ns.length + 1) (ns.length + ms.length + 1) 0 _ (metF_meets hw rs (metF_nil ns 0) ho) (by omega) (by omega)
  have e2 := reach_more hw' (ms.length + 1) (ns.length + ms.length + 1) 0 _ (metF_meets hw' qs (metF_nil ms 0) ho') (by omega) (by omega)
  rw [smallO_zero, smallO_zero, e1, e2]
  exact (sim_reach0 hw hw' h1 _ _ _ _ s0).1
end

/- The collection of heap is the whole one of gens. -/
theorem meetF_zero (ns : List Nd) (out : List Nat) (p : Nat) : meetF ns 0 out p = meet ns out p := by simp [meetF, meet]
theorem meetsF_zero (ns : List Nd) : ∀ (l : List Int) (out : List Nat), meetsF ns 0 out l = meets ns out l := by
  intro l
  induction l with
  | nil => intro out; rfl
  | cons a l ih => intro out; rw [meetsF_cons, meetF_zero, ih]; rfl
theorem reachF_zero (ns : List Nd) : ∀ f i out, reachF ns 0 f i out = reach ns f i out := by
  intro f
  induction f with
  | zero => intro i out; rfl
  | succ f ih =>
    intro i out
    unfold reachF reach
    cases out[i]? with
    | some x => simp only [ih, meetsF_zero]
    | none => rfl
theorem small_reached (ns : List Nd) (roots : List Int) : smallO ns 0 roots = reached ns roots := by rw [smallO_zero, reachF_zero, meetsF_zero]; rfl
theorem numF_zero (ns : List Nd) (O : List Nat) : numF ns 0 O = num ns O := by funext p; simp [numF, num]
theorem col_small (ns : List Nd) (roots : List Int) : colNs ns roots = smallNs ns 0 roots ∧ colRoots ns roots = smallRoots ns 0 roots := by
  unfold colNs smallNs colRoots smallRoots
  rw [small_reached, numF_zero]
  refine ⟨?_, rfl⟩
  simp only [List.range_zero, List.map_nil, List.nil_append]
  refine List.map_congr_left (fun x _ => ?_)
  simp [moveNd, movedF, numF_zero]
end Go.Proofs.Ytnimaifmcejkcaa
end

section
set_option linter.unusedSimpArgs false
set_option linter.unusedVariables false
namespace Go.Proofs.Ytnimaifmcejkcaa
open Go Go.W

theorem fit_same {f g : Nat → Nat} {n : Nat} (hf : ∀ x, x < n → f x < n) (h : ∀ x, x < n → g x = f x) : ∀ k x, x < n → fit g k x = fit f k x := by
  intro k
  induction k with
  | zero => intro x _; rfl
  | succ k ih => intro x hx; show fit g k (g x) = fit f k (f x); rw [h x hx, ih _ (hf x hx)]
/-- The bound does not matter. -/
theorem ov_bound {f g : Nat → Nat} {n m : Nat} (hf : ∀ x, x < n → f x < n) (hg : ∀ x, x < m → g x < m) (hnm : n ≤ m) (h : ∀ x, x < n → g x = f x) {x : Nat} (hx : x < n) : ov g m x = ov f n x := by
  have e := fun k => fit_same hf h k x hx
  apply Nat.le_antisymm
  · obtain ⟨d, h1, h2, h3⟩ := onRing hf hx n (Nat.le_refl _)
    obtain ⟨k, _, hk⟩ := ov_mem f n x
    -- the same place, far enough on
    obtain ⟨d', q1, q2, q3⟩ := onRing hf hx (k + n) (by omega)
    have : ∀ j, fit f (k + n + j * d') x = fit f (k + n) x := by
      intro j
      induction j with
      | zero => simp
      | succ j ih =>
        rw [show k + n + (j + 1) * d' = d' + (k + n + j * d') by rw [Nat.succ_mul]; omega, fit_add, ih]; exact q3
    rw [hk, ← this m, ← e]
    refine ov_le' hg (by omega) _ ?_
    have : m * 1 ≤ m * d' := Nat.mul_le_mul_left _ q1
    omega
  · obtain ⟨k, _, hk⟩ := ov_mem g m x
    rw [hk, e]
    exact ov_le' hf hx _ (by omega)
theorem ndAt_app {ns : List Nd} {nd : Nd} {p : Nat} (hp : p < ns.length) : ndAt (ns ++ [nd]) p = ndAt ns p := by
  unfold ndAt
  rw [List.getD_eq_getElem?_getD, List.getD_eq_getElem?_getD, List.getElem?_append_left hp]
theorem ndAt_last (ns : List Nd) (nd : Nd) : ndAt (ns ++ [nd]) ns.length = nd := by
  unfold ndAt
  rw [List.getD_eq_getElem?_getD]
  simp
theorem nxt_app {ns : List Nd} {nd : Nd} {p : Nat} (hp : p < ns.length) : nxt (ns ++ [nd]) p = nxt ns p ∧ ind (ns ++ [nd]) p = ind ns p := by
  unfold nxt ind
  rw [ndAt_app hp]
  exact ⟨rfl, rfl⟩
theorem wf_app {ns : List Nd} (hw : WF ns) {nd : Nd} (hm : nd.may = true) (ho : okPl ns.length nd.args = true) : WF (ns ++ [nd]) := by
  have le : ∀ {l : List Int}, okPl ns.length l = true → okPl (ns ++ [nd]).length l = true := by
    intro l h
    rw [okPl, List.all_eq_true] at h ⊢
    intro x hx
    have := h x hx
    simp only [Bool.and_eq_true, decide_eq_true_eq, List.length_append, List.length_cons, List.length_nil] at this ⊢
    omega
  intro x hx
  rcases List.mem_append.1 hx with hx | hx
  · exact ⟨(hw x hx).1, le (hw x hx).2⟩
  · simp only [List.mem_cons, List.not_mem_nil, or_false] at hx; subst hx
    exact ⟨hm, le ho⟩
theorem over_app {ns : List Nd} (hw : WF ns) {nd : Nd} (hm : nd.may = true) (ho : okPl ns.length nd.args = true) {p : Nat} (hp : p < ns.length) : over (ns ++ [nd]) p = over ns p :=
  ov_bound (wf_nxt_lt hw) (wf_nxt_lt (wf_app hw hm ho)) (by simp) (fun x hx => (nxt_app hx).1) hp
/-- Arguments out of the roots, the same ones in both. -/
def Same (rs qs ys zs : List Int) : Prop := ys.length = zs.length ∧ ∀ (i : Nat) (a b : Int), ys[i]? = some a → zs[i]? = some b → ∃ j : Nat, rs[j]? = some a ∧ qs[j]? = some b
theorem same_ok1 {n : Nat} {rs qs ys zs : List Int} (h : Same rs qs ys zs) (ho : okPl n rs = true) : okPl n ys = true := by
  rw [okPl, List.all_eq_true]
  intro a ha
  obtain ⟨i, hi, rfl⟩ := List.getElem_of_mem ha
  obtain ⟨j, hj, _⟩ := h.2 i _ _ (List.getElem?_eq_getElem hi) (List.getElem?_eq_getElem (by rw [← h.1]; exact hi))
  exact List.all_eq_true.1 ho _ (List.mem_of_getElem? hj)
theorem same_ok2 {n : Nat} {rs qs ys zs : List Int} (h : Same rs qs ys zs) (ho : okPl n qs = true) : okPl n zs = true := by
  rw [okPl, List.all_eq_true]
  intro b hb
  obtain ⟨i, hi, rfl⟩ := List.getElem_of_mem hb
  obtain ⟨j, _, hj⟩ := h.2 i _ _ (List.getElem?_eq_getElem (by rw [h.1]; exact hi)) (List.getElem?_eq_getElem hi)
  exact List.all_eq_true.1 ho _ (List.mem_of_getElem? hj)
theorem same_root {ns ms : List Nd} {R : Nat → Nat → Prop} {rs qs ys zs : List Int} (h : Same rs qs ys zs) (hr : Rooted ns ms R rs qs) {i : Nat} {a b : Int} (ha : ys[i]? = some a) (hb : zs[i]? = some b) : R (over ns a.toNat) (over ms b.toNat) := by
  obtain ⟨j, h1, h2⟩ := h.2 i a b ha hb
  exact hr.2 j a b h1 h2
theorem over_last {ns : List Nd} (hw : WF ns) {nd : Nd} (hm : nd.may = true) (ho : okPl ns.length nd.args = true) : (nd.kind = 5 → ∃ a, nd.args = [a] ∧ a.toNat < ns.length ∧ over (ns ++ [nd]) ns.length = over ns a.toNat) ∧ (nd.kind ≠ 5 → over (ns ++ [nd]) ns.length = ns.length) := by
  have hw' := wf_app hw hm ho
  have hl : ns.length < (ns ++ [nd]).length := by simp
  refine ⟨fun hk => ?_, fun hk => ?_⟩
  · have hi : ind (ns ++ [nd]) ns.length = true := by simp [ind, ndAt_last, hk]
    obtain ⟨q, h1, h2, h3⟩ := wf_ind hw' hl hi
    rw [ndAt_last] at h2
    have hq : (q : Int).toNat < ns.length := okPl_nat ho (by rw [h2]; simp)
    refine ⟨q, h2, hq, ?_⟩
    have := ov_f (wf_nxt_lt hw') hl
    rw [h3] at this
    rw [Int.toNat_natCast] at hq ⊢
    rw [← over_app hw hm ho hq]
    exact this.symm
  · have hi : ind (ns ++ [nd]) ns.length = false := by simp [ind, ndAt_last, hk]
    exact ov_fix (nxt_fix hi)
theorem alike_add {ns ms : List Nd} (hw : WF ns) (hw' : WF ms) {rs qs ys zs : List Int} (h : Alike ns rs ms qs) (hors : okPl ns.length rs = true) (hoqs : okPl ms.length qs = true) (hs : Same rs qs ys zs) {k n : Int} (hm : (⟨k, n, ys⟩ : Nd).may = true) (hm' : (⟨k, n, zs⟩ : Nd).may = true) :
    Alike (ns ++ [⟨k, n, ys⟩]) (rs ++ [(ns.length : Int)]) (ms ++ [⟨k, n, zs⟩]) (qs ++ [(ms.length : Int)]) := by
  have ho := same_ok1 hs hors
  have ho' := same_ok2 hs hoqs
  obtain ⟨R, h1, h2⟩ := h
  have o1 := fun {p : Nat} (hp : p < ns.length) => over_app (nd := ⟨k, n, ys⟩) hw hm ho hp
  have o2 := fun {p : Nat} (hp : p < ms.length) => over_app (nd := ⟨k, n, zs⟩) hw' hm' ho' hp
  obtain ⟨l1, l2⟩ := over_last (nd := ⟨k, n, ys⟩) hw hm ho
  obtain ⟨l1', l2'⟩ := over_last (nd := ⟨k, n, zs⟩) hw' hm' ho'
  have root : ∀ (i : Nat) (a b : Int), ys[i]? = some a → zs[i]? = some b → R (over (ns ++ [⟨k, n, ys⟩]) a.toNat) (over (ms ++ [⟨k, n, zs⟩]) b.toNat) := by
    intro i a b ha hb
    rw [o1 (okPl_nat ho (List.mem_of_getElem? ha)), o2 (okPl_nat ho' (List.mem_of_getElem? hb))]
    exact same_root hs h2 ha hb
  refine ⟨fun x y => R x y ∨ (k ≠ 5 ∧ x = ns.length ∧ y = ms.length), ⟨?_, ?_, ?_, ?_, ?_⟩, by simp [h2.1], ?_⟩
  · rintro x y (hr | ⟨hk, rfl, rfl⟩)
    · obtain ⟨d1, d2, d3, d4⟩ := h1.dom _ _ hr
      exact ⟨by simp; omega, by simp; omega, by rw [o1 d1, d3], by rw [o2 d2, d4]⟩
    · exact ⟨by simp, by simp, l2 hk, l2' hk⟩
  · rintro x y y' (hr | ⟨hk, rfl, rfl⟩) (hr' | ⟨hk', hx, rfl⟩)
    · exact h1.fn _ _ _ hr hr'
    · have := (h1.dom _ _ hr).1; omega
    · have := (h1.dom _ _ hr').1; omega
    · rfl
  · rintro x x' y (hr | ⟨hk, rfl, rfl⟩) (hr' | ⟨hk', rfl, hy⟩)
    · exact h1.inj _ _ _ hr hr'
    · have := (h1.dom _ _ hr).2.1; omega
    · have := (h1.dom _ _ hr').2.1; omega
    · rfl
  · rintro x y (hr | ⟨hk, rfl, rfl⟩)
    · obtain ⟨d1, d2, d3, d4⟩ := h1.dom _ _ hr
      rw [ndAt_app d1, ndAt_app d2]
      exact h1.nd _ _ hr
    · rw [ndAt_last, ndAt_last]
      exact ⟨rfl, rfl, hs.1⟩
  · rintro x y (hr | ⟨hk, rfl, rfl⟩) hi i a b ha hb
    · obtain ⟨d1, d2, d3, d4⟩ := h1.dom _ _ hr
      rw [ndAt_app d1] at ha
      rw [ndAt_app d2] at hb
      rw [(nxt_app d1).2] at hi
      rw [o1 (okPl_nat (wf_at hw d1).2 (List.mem_of_getElem? ha)), o2 (okPl_nat (wf_at hw' d2).2 (List.mem_of_getElem? hb))]
      exact .inl (h1.kids _ _ hr hi i a b ha hb)
    · rw [ndAt_last] at ha hb
      exact .inl (root i a b ha hb)
  · intro i a b ha hb
    rcases Nat.lt_or_ge i rs.length with hi | hi
    · rw [List.getElem?_append_left hi] at ha
      rw [List.getElem?_append_left (by rw [← h2.1]; exact hi)] at hb
      rw [o1 (okPl_nat hors (List.mem_of_getElem? ha)), o2 (okPl_nat hoqs (List.mem_of_getElem? hb))]
      exact .inl (h2.2 i a b ha hb)
    · have hl := (List.getElem?_eq_some_iff.1 ha).1
      simp at hl
      obtain rfl : i = rs.length := by omega
      simp at ha
      rw [h2.1] at hb
      simp at hb
      subst ha; subst hb
      rw [Int.toNat_natCast, Int.toNat_natCast]
      by_cases hk : k = 5
      · obtain ⟨a, ea, ha, e1⟩ := l1 hk
        obtain ⟨b, eb, hb, e2⟩ := l1' hk
        rw [e1, e2]
        exact .inl (same_root hs h2 (i := 0) (by rw [show ys = [a] from ea]; rfl) (by rw [show zs = [b] from eb]; rfl))
      · rw [l2 hk, l2' hk]
        exact .inr ⟨hk, rfl, rfl⟩

/- A node is set. -/
theorem nxt_set {ns : List Nd} {p : Nat} {nd : Nd} (hp : p < ns.length) {x : Nat} (hx : x ≠ p) : nxt (ns.set p nd) x = nxt ns x ∧ ind (ns.set p nd) x = ind ns x := by
  unfold nxt ind
  rw [ndAt_set' _ _ _ _ hp, if_neg hx]
  exact ⟨rfl, rfl⟩
theorem over_set_plain {ns : List Nd} {p : Nat} {nd : Nd} (hp : p < ns.length) (hi : ind ns p = false) (hk : nd.kind ≠ 5) (x : Nat) : over (ns.set p nd) x = over ns x := by
  have : nxt (ns.set p nd) = nxt ns := by
    funext y
    by_cases hy : y = p
    · subst hy
      rw [nxt_fix hi]
      exact nxt_fix (by rw [ind, ndAt_set' _ _ _ _ hp, if_pos rfl]; simp [hk])
    · exact (nxt_set hp hy).1
  unfold over
  rw [this, List.length_set]
theorem over_set_ind {ns : List Nd} (hw : WF ns) {p : Nat} {nd : Nd} (hp : p < ns.length) (hi : ind ns p = false) (hw' : WF (ns.set p nd)) (hk : nd.kind = 5) :
    ∃ c t : Nat, nd.args = [(t : Int)] ∧ t < ns.length ∧ c < ns.length ∧ over (ns.set p nd) c = c ∧ (∀ x, x < ns.length → over (ns.set p nd) x = if over ns x = p then c else over ns x) ∧ (over ns t ≠ p → c = over ns t) ∧ (over ns t = p → over ns c = p ∧ ind (ns.set p nd) c = true) := by
  have hf := wf_nxt_lt hw
  have hf' := wf_nxt_lt hw'
  rw [List.length_set] at hf'
  have hpl : p < (ns.set p nd).length := by rw [List.length_set]; exact hp
  have hpi : ind (ns.set p nd) p = true := by rw [ind, ndAt_set' _ _ _ _ hp, if_pos rfl]; simp [hk]
  obtain ⟨t, h1, h2, h3⟩ := wf_ind hw' hpl hpi
  rw [ndAt_set' _ _ _ _ hp, if_pos rfl] at h2
  rw [List.length_set] at h1
  have opp : over ns p = p := ov_fix (nxt_fix hi)
  -- a place whose way does not come to p
  have far : ∀ x, x < ns.length → over ns x ≠ p → over (ns.set p nd) x = over ns x := by
    intro x hx hne
    have ne : ∀ k, fit (nxt ns) k x ≠ p := by
      intro k hh
      have e : over ns (fit (nxt ns) k x) = over ns x := ov_fit hf hx k
      rw [hh, opp] at e
      exact hne e.symm
    have same : ∀ k, fit (nxt (ns.set p nd)) k x = fit (nxt ns) k x := by
      intro k
      induction k with
      | zero => rfl
      | succ k ih => rw [fit_succ, fit_succ, ih, (nxt_set hp (ne k)).1]
    unfold over ov
    rw [List.length_set, same ns.length]
    congr 1
    refine List.map_congr_left (fun k _ => ?_)
    rw [← same ns.length, ← fit_add, same, same, ← fit_add]
  have near : ∀ k x, x < ns.length → fit (nxt ns) k x = p → over (ns.set p nd) x = over (ns.set p nd) p := by
    intro k
    induction k with
    | zero => intro x _ hh; have : x = p := hh; rw [this]
    | succ k ih =>
      intro x hx hh
      by_cases hxp : x = p
      · rw [hxp]
      · have e := ov_f (f := nxt (ns.set p nd)) (n := ns.length) hf' hx
        have e' : over (ns.set p nd) (nxt (ns.set p nd) x) = over (ns.set p nd) x := by unfold over; rw [List.length_set]; exact e
        rw [(nxt_set hp hxp).1] at e'
        rw [← e']
        exact ih _ (hf x hx) hh
  have hov' : over (ns.set p nd) (over (ns.set p nd) p) = over (ns.set p nd) p := by
    unfold over; rw [List.length_set]; exact ov_ov hf' hp
  have hlt' : over (ns.set p nd) p < ns.length := by
    unfold over; rw [List.length_set]; exact ov_lt hf' hp
  have hnext : over (ns.set p nd) t = over (ns.set p nd) p := by
    have e := ov_f (f := nxt (ns.set p nd)) (n := ns.length) hf' hp
    rw [h3] at e
    unfold over; rw [List.length_set]; exact e
  refine ⟨over (ns.set p nd) p, t, h2, h1, hlt', hov', fun x hx => ?_, fun ht => ?_, fun ht => ?_⟩
  · split
    · rename_i hh
      obtain ⟨k, _, hk⟩ := ov_mem (nxt ns) ns.length x
      exact near _ x hx (by rw [← hk]; exact hh)
    · rename_i hh
      exact far x hx hh
  · rw [← hnext]; exact far t h1 ht
  · have closed : ∀ k, over ns (fit (nxt (ns.set p nd)) k p) = p := by
      intro k
      induction k with
      | zero => exact opp
      | succ k ih =>
        rw [fit_succ]
        generalize hz : fit (nxt (ns.set p nd)) k p = z at ih
        by_cases hzp : z = p
        · rw [hzp, h3]; exact ht
        · rw [(nxt_set hp hzp).1]
          have hzl : z < ns.length := by rw [← hz]; exact fit_lt hf' k hp
          have e : over ns (nxt ns z) = over ns z := ov_f hf hzl
          rw [e]; exact ih
    have hc : over ns (over (ns.set p nd) p) = p := by
      obtain ⟨k, _, hk⟩ := ov_mem (nxt (ns.set p nd)) (ns.set p nd).length p
      have e : over (ns.set p nd) p = fit (nxt (ns.set p nd)) (k + (ns.set p nd).length) p := hk
      rw [e]; exact closed _
    refine ⟨hc, ?_⟩
    cases hci : ind (ns.set p nd) (over (ns.set p nd) p) with
    | true => rfl
    | false =>
      exfalso
      by_cases hcp : over (ns.set p nd) p = p
      · rw [hcp, hpi] at hci; cases hci
      · have : ind ns (over (ns.set p nd) p) = false := by rw [← (nxt_set hp hcp).2]; exact hci
        have e : over ns (over (ns.set p nd) p) = over (ns.set p nd) p := ov_fix (nxt_fix this)
        rw [hc] at e
        exact hcp e.symm
theorem wf_ring {ns : List Nd} (hw : WF ns) {c : Nat} (hc : c < ns.length) (hi : ind ns c = true) : (ndAt ns c).kind = 5 ∧ (ndAt ns c).num = 0 ∧ (ndAt ns c).args.length = 1 := by
  have hk : (ndAt ns c).kind = 5 := by simpa [ind] using hi
  have hm := (wf_at hw hc).1
  simp only [Nd.may, mayB, hk, decide_eq_true_eq] at hm
  omega
theorem alike_set {ns ms : List Nd} (hw : WF ns) (hw' : WF ms) {rs qs ys zs : List Int} (hors : okPl ns.length rs = true) (hoqs : okPl ms.length qs = true) {R : Nat → Nat → Prop} (h1 : IsoR ns ms R) (h2 : Rooted ns ms R rs qs) (hs : Same rs qs ys zs) {k n : Int} {p q : Nat} (hpq : R p q) (hi : ind ns p = false)
    (hw1 : WF (ns.set p ⟨k, n, ys⟩)) (hw2 : WF (ms.set q ⟨k, n, zs⟩)) : Alike (ns.set p ⟨k, n, ys⟩) rs (ms.set q ⟨k, n, zs⟩) qs := by
  obtain ⟨dp, dq, dpp, dqq⟩ := h1.dom _ _ hpq
  have hi' : ind ms q = false := by rw [← ind_eq (h1.nd _ _ hpq).1]; exact hi
  have ho := same_ok1 hs hors
  have ho' := same_ok2 hs hoqs
  have n1 := fun x => ndAt_set' ns p x ⟨k, n, ys⟩ dp
  have n2 := fun x => ndAt_set' ms q x ⟨k, n, zs⟩ dq
  have iff : ∀ x y, R x y → (x = p ↔ y = q) := fun x y hr => ⟨fun hh => by subst hh; exact h1.fn _ _ _ hr hpq, fun hh => by subst hh; exact h1.inj _ _ _ hr hpq⟩
  by_cases hk : k = 5
  · obtain ⟨c, t, ha, ht, hcl, hcc, hov, hc1, hc2⟩ := over_set_ind (nd := ⟨k, n, ys⟩) hw dp hi hw1 hk
    obtain ⟨c', s, hb, hs', hcl', hcc', hov', hc1', hc2'⟩ := over_set_ind (nd := ⟨k, n, zs⟩) hw' dq hi' hw2 hk
    have rts : R (over ns t) (over ms s) := by
      have := same_root hs h2 (i := 0) (a := t) (b := s) (by rw [show ys = [(t : Int)] from ha]; rfl) (by rw [show zs = [(s : Int)] from hb]; rfl)
      simpa using this
    have cc : (∃ x y, R x y ∧ x ≠ p ∧ c = x ∧ c' = y) ∨ (over ns t = p ∧ over ms s = q) := by
      by_cases hh : over ns t = p
      · exact .inr ⟨hh, (iff _ _ rts).1 hh⟩
      · exact .inl ⟨_, _, rts, hh, hc1 hh, hc1' (fun h => hh ((iff _ _ rts).2 h))⟩
    have key : ∀ a b : Nat, a < ns.length → b < ms.length → R (over ns a) (over ms b) → (R (over (ns.set p ⟨k, n, ys⟩) a) (over (ms.set q ⟨k, n, zs⟩) b) ∧ over (ns.set p ⟨k, n, ys⟩) a ≠ p) ∨ ((over ns t = p ∧ over ms s = q) ∧ over (ns.set p ⟨k, n, ys⟩) a = c ∧ over (ms.set q ⟨k, n, zs⟩) b = c') := by
      intro a b hal hbl hr
      rw [hov a hal, hov' b hbl]
      by_cases hh : over ns a = p
      · rw [if_pos hh, if_pos ((iff _ _ hr).1 hh)]
        rcases cc with ⟨x, y, k1, k2, rfl, rfl⟩ | k1
        · exact .inl ⟨k1, k2⟩
        · exact .inr ⟨k1, rfl, rfl⟩
      · rw [if_neg hh, if_neg (fun h => hh ((iff _ _ hr).2 h))]
        exact .inl ⟨hr, hh⟩
    refine ⟨fun x y => (R x y ∧ x ≠ p) ∨ ((over ns t = p ∧ over ms s = q) ∧ x = c ∧ y = c'), ⟨?_, ?_, ?_, ?_, ?_⟩, h2.1, ?_⟩
    · rintro x y (⟨hr, hx⟩ | ⟨hh, rfl, rfl⟩)
      · obtain ⟨d1, d2, d3, d4⟩ := h1.dom _ _ hr
        refine ⟨by rw [List.length_set]; exact d1, by rw [List.length_set]; exact d2, ?_, ?_⟩
        · rw [hov x d1, d3, if_neg hx]
        · rw [hov' y d2, d4, if_neg (fun h => hx ((iff _ _ hr).2 h))]
      · exact ⟨by rw [List.length_set]; exact hcl, by rw [List.length_set]; exact hcl', hcc, hcc'⟩
    · rintro x y y' (⟨hr, hx⟩ | ⟨hh, rfl, rfl⟩) (⟨hr', hx'⟩ | ⟨hh', hxc, rfl⟩)
      · exact h1.fn _ _ _ hr hr'
      · exfalso
        have := (hc2 hh'.1).1
        rw [← hxc, (h1.dom _ _ hr).2.2.1] at this
        exact hx this
      · exfalso
        have := (hc2 hh.1).1
        rw [(h1.dom _ _ hr').2.2.1] at this
        exact hx' this
      · rfl
    · rintro x x' y (⟨hr, hx⟩ | ⟨hh, rfl, rfl⟩) (⟨hr', hx'⟩ | ⟨hh', rfl, hyc⟩)
      · exact h1.inj _ _ _ hr hr'
      · exfalso
        have := (hc2' hh'.2).1
        rw [← hyc, (h1.dom _ _ hr).2.2.2] at this
        exact hx ((iff _ _ hr).2 this)
      · exfalso
        have := (hc2' hh.2).1
        rw [(h1.dom _ _ hr').2.2.2] at this
        exact hx' ((iff _ _ hr').2 this)
      · rfl
    · rintro x y (⟨hr, hx⟩ | ⟨hh, rfl, rfl⟩)
      · rw [n1, n2, if_neg hx, if_neg (fun h => hx ((iff _ _ hr).2 h))]
        exact h1.nd _ _ hr
      · obtain ⟨a1, a2, a3⟩ := wf_ring hw1 (by rw [List.length_set]; exact hcl) (hc2 hh.1).2
        obtain ⟨b1, b2, b3⟩ := wf_ring hw2 (by rw [List.length_set]; exact hcl') (hc2' hh.2).2
        exact ⟨by rw [a1, b1], by rw [a2, b2], by rw [a3, b3]⟩
    · rintro x y (⟨hr, hx⟩ | ⟨hh, rfl, rfl⟩) hix i a b ha' hb'
      · obtain ⟨d1, d2, d3, d4⟩ := h1.dom _ _ hr
        rw [n1, if_neg hx] at ha'
        rw [n2, if_neg (fun h => hx ((iff _ _ hr).2 h))] at hb'
        rw [(nxt_set dp hx).2] at hix
        exact key _ _ (okPl_nat (wf_at hw d1).2 (List.mem_of_getElem? ha')) (okPl_nat (wf_at hw' d2).2 (List.mem_of_getElem? hb')) (h1.kids _ _ hr hix i a b ha' hb')
      · rw [(hc2 hh.1).2] at hix; cases hix
    · intro i a b ha' hb'
      exact key _ _ (okPl_nat hors (List.mem_of_getElem? ha')) (okPl_nat hoqs (List.mem_of_getElem? hb')) (h2.2 i a b ha' hb')
  · have o1 := fun x => over_set_plain (nd := ⟨k, n, ys⟩) dp hi hk x
    have o2 := fun x => over_set_plain (nd := ⟨k, n, zs⟩) dq hi' hk x
    refine ⟨R, ⟨?_, h1.fn, h1.inj, ?_, ?_⟩, h2.1, ?_⟩
    · intro x y hr
      rw [o1, o2, List.length_set, List.length_set]
      exact h1.dom _ _ hr
    · intro x y hr
      rw [n1, n2]
      by_cases hx : x = p
      · rw [if_pos hx, if_pos ((iff _ _ hr).1 hx)]
        exact ⟨rfl, rfl, hs.1⟩
      · rw [if_neg hx, if_neg (fun h => hx ((iff _ _ hr).2 h))]
        exact h1.nd _ _ hr
    · intro x y hr hix i a b ha hb
      rw [o1, o2]
      rw [n1] at ha
      rw [n2] at hb
      by_cases hx : x = p
      · rw [if_pos hx] at ha
        rw [if_pos ((iff _ _ hr).1 hx)] at hb
        exact same_root hs h2 ha hb
      · rw [if_neg hx] at ha
        rw [if_neg (fun h => hx ((iff _ _ hr).2 h))] at hb
        rw [(nxt_set dp hx).2] at hix
        exact h1.kids _ _ hr hix i a b ha hb
    · intro i a b ha hb
      rw [o1, o2]
      exact h2.2 i a b ha hb
end Go.Proofs.Ytnimaifmcejkcaa
end

section
set_option linter.unusedSimpArgs false
set_option linter.unusedVariables false
set_option maxRecDepth 100000
namespace Go.Proofs.Ytnimaifmcejkcaa
open Go Go.W

/-- What reads as these nodes. -/
def GRd (w : World) (a : Nat) (ns : List Nd) : Prop := (∃ size young old times F, GAt w a size young old times ns F) ∧ WF ns ∧ ns.length ≤ 1048576
def HRd (w : World) (a : Nat) (ns : List Nd) : Prop := (∃ size times F, ArenaAt 81 87 w a size times ns F) ∧ WF ns ∧ ns.length ≤ 1048576
theorem gst_mod {w w' : World} {a : Nat} {ns : List Nd} (h : GRd w a ns) (hm : Mod (fun _ => False) w w') : GRd w' a ns := by
  obtain ⟨⟨s, y, o, t, F, h1⟩, h2⟩ := h
  exact ⟨⟨s, y, o, t, F, gat_mod h1 hm (fun _ _ h => h)⟩, h2⟩
theorem hst_mod {w w' : World} {a : Nat} {ns : List Nd} (h : HRd w a ns) (hm : Mod (fun _ => False) w w') : HRd w' a ns := by
  obtain ⟨⟨s, t, F, h1⟩, h2⟩ := h
  exact ⟨⟨s, t, F, h1.mod hm (fun _ _ h => h)⟩, h2⟩
/-- A node that came out. -/
def NodePost (w : World) (nd : Nd) (r : Value) (w' : World) : Prop :=
  Mod (fun _ => False) w w' ∧ ∃ v fp, r = .tuple #[.agg #[I nd.kind, I nd.num, v], I 0] ∧ Own w' 3 1 v (nd.args.map I) nd.args.length fp ∧ ∀ b, fp = some b → w.heap.size ≤ b
theorem gget_nd {w : World} {a : Nat} {ns : List Nd} (h : GRd w a ns) {p : Nat} (hp : p < ns.length) : CallsR Try.prog 29 [.pointer (some ⟨a, 0, none⟩), I p] w (NodePost w (ndAt ns p)) := by
  obtain ⟨⟨s, y, o, t, F, h1⟩, h2, h3⟩ := h
  refine (gget_ok w a s y o t ns p F h1 (wf_args_le h2)).mono ?_
  intro r w' hq
  have e : ggetS ns p = (ndAt ns p, 0) := by simp [ggetS, hp]
  rw [e] at hq
  exact hq
theorem hget_nd {w : World} {a : Nat} {ns : List Nd} (h : HRd w a ns) {p : Nat} (hp : p < ns.length) : CallsR Try.prog 46 [.pointer (some ⟨a, 0, none⟩), I p] w (NodePost w (ndAt ns p)) := by
  obtain ⟨⟨s, t, F, h1⟩, h2, h3⟩ := h
  refine (get_ok a s t ns p F w h1 h3 (wf_args_le h2)).mono ?_
  rintro r w' ⟨k1, k2, _⟩
  obtain ⟨v, e, fp, k3, k4⟩ := k2 p ns[p] rfl (List.getElem?_eq_getElem hp)
  have e' : ns[p] = ndAt ns p := by simp [ndAt, hp]
  rw [e'] at e k3
  exact ⟨k1, v, fp, e, k3, k4⟩
theorem gused_n {w : World} {a : Nat} {ns : List Nd} (h : GRd w a ns) : CallsR Try.prog 10 [.pointer (some ⟨a, 0, none⟩)] w fun r w' => r = I ns.length ∧ w = w' := by
  obtain ⟨⟨s, y, o, t, F, h1⟩, h2, h3⟩ := h
  exact gused_ok w a s y o t ns F h1
theorem hused_n {w : World} {a : Nat} {ns : List Nd} (h : HRd w a ns) : CallsR Try.prog 47 [.pointer (some ⟨a, 0, none⟩)] w fun r w' => r = I ns.length ∧ w = w' := by
  obtain ⟨⟨s, t, F, h1⟩, h2, h3⟩ := h
  exact used_ok a s t ns F w h1

theorem twin_ok (w : World) (e f : Int) : CallsR Try.prog 19 [I e, I f] w fun r w' => r = .bool (if e = 211 then decide (f = 201) else if e = 212 then decide (f = 202) else decide (e = f)) ∧ w = w' := by
  refine fit19.calls rfl ?_
  unfold ir19
  by_cases h1 : e = 211
  · subst h1
    have q : ((211 : Int) == 211) = true := rfl
    (try simp only [go_sem, Nat.reduceAdd, Nat.reduceEqDiff, Nat.reduceLT, Nat.reduceLeDiff, Nat.reduceMul, reduceCtorEq, ↓reduceIte, q])
    by_cases hf : f = 201 <;> simp [hf]
  · have q : (e == 211) = false := by simpa using h1
    by_cases h2 : e = 212
    · subst h2
      have q2 : ((212 : Int) == 211) = false := rfl
      have q3 : ((212 : Int) == 212) = true := rfl
      (try simp only [go_sem, Nat.reduceAdd, Nat.reduceEqDiff, Nat.reduceLT, Nat.reduceLeDiff, Nat.reduceMul, reduceCtorEq, ↓reduceIte, q2, q3])
      by_cases hf : f = 202 <;> simp [hf]
    · have q2 : (e == 212) = false := by simpa using h2
      (try simp only [go_sem, Nat.reduceAdd, Nat.reduceEqDiff, Nat.reduceLT, Nat.reduceLeDiff, Nat.reduceMul, reduceCtorEq, ↓reduceIte, q, q2, h1, h2])
      by_cases hf : e = f <;> simp [hf]

/-- Which of them a number means. -/
def wpl (n : Nat) (k : Int) : Nat := (if k < 0 then -(k + 1) else k).toNat % n
def whD (xs : List Int) (k : Int) : Int := if xs = [] then -1 else xs.getD (wpl xs.length k) 0
def I64 (k : Int) : Prop := -9223372036854775808 ≤ k ∧ k ≤ 9223372036854775807
theorem wpl_lt {n : Nat} (h : 0 < n) (k : Int) : wpl n k < n := Nat.mod_lt _ h
theorem whD_mem {xs : List Int} (h : xs ≠ []) (k : Int) : whD xs k ∈ xs := by
  have hl : wpl xs.length k < xs.length := wpl_lt (by cases xs with | nil => exact absurd rfl h | cons => simp) k
  rw [whD, if_neg h, List.getD_eq_getElem?_getD, List.getElem?_eq_getElem hl]
  exact List.getElem_mem hl
theorem whD_pair {xs ys : List Int} (hl : xs.length = ys.length) (h : xs ≠ []) (k : Int) : ∃ j : Nat, xs[j]? = some (whD xs k) ∧ ys[j]? = some (whD ys k) := by
  have hx : 0 < xs.length := by cases xs with | nil => exact absurd rfl h | cons => simp
  have hy : ys ≠ [] := fun hh => by rw [hh] at hl; simp only [List.length_nil] at hl; omega
  refine ⟨wpl xs.length k, ?_, ?_⟩
  · have := wpl_lt hx k
    rw [whD, if_neg h, List.getD_eq_getElem?_getD, List.getElem?_eq_getElem this]; rfl
  · rw [hl]
    have := wpl_lt (show 0 < ys.length by omega) k
    rw [whD, if_neg hy, List.getD_eq_getElem?_getD, List.getElem?_eq_getElem this]; rfl
theorem which_ok (w : World) (v : Value) (xs : List Int) (k : Int) (hx : Ints w v xs) (hk : I64 k) : CallsR Try.prog 20 [v, I k] w fun r w' => r = I (whD xs k) ∧ w = w' := by
  obtain ⟨va, vc, rfl, hl, hxx⟩ := hx
  refine fit20.calls rfl ?_
  unfold ir20
  (try simp only [go_sem, Nat.reduceAdd, Nat.reduceEqDiff, Nat.reduceLT, Nat.reduceLeDiff, Nat.reduceMul, reduceCtorEq, ↓reduceIte])
  refine ir_cond rfl (fun hc => ?_) (fun hc => ?_)
  · have : xs = [] := by simpa using hc
    (try simp only [go_sem, Nat.reduceAdd, Nat.reduceEqDiff, Nat.reduceLT, Nat.reduceLeDiff, Nat.reduceMul, reduceCtorEq, ↓reduceIte])
    simp [whD, this]
  have hne : xs ≠ [] := by intro hh; simp [hh] at hc
  have hpos : 0 < xs.length := by cases xs with | nil => exact absurd rfl hne | cons => simp
  obtain ⟨k1, k2⟩ := hk
  have hlt := wpl_lt hpos k
  obtain ⟨ad, rfl, had⟩ := hxx _ hlt
  have e0 : ((xs.length : Int) == 0) = false := by simp; exact hne
  have ew : whD xs k = xs[wpl xs.length k] := by rw [whD, if_neg hne, List.getD_eq_getElem?_getD, List.getElem?_eq_getElem hlt]; rfl
  have b1 : (0 : Int) ≤ (wpl xs.length k : Nat) ∧ ((wpl xs.length k : Nat) : Int) < xs.length := by omega
  (try simp only [go_sem, Nat.reduceAdd, Nat.reduceEqDiff, Nat.reduceLT, Nat.reduceLeDiff, Nat.reduceMul, reduceCtorEq, ↓reduceIte])
  refine ir_then (fun ρ w' => w = w' ∧ ρ.get 0 = some (.slice (some ad) xs.length vc) ∧ ρ.get 1 = some (I (if k < 0 then -(k + 1) else k))) ?_ ?_
  · refine ir_cond rfl (fun hc => ?_) (fun hc => ?_)
    · have hc' : k < 0 := by simpa using hc
      have h1 : IntKind.i64.wrap (k + 1) = k + 1 := wrap_in (by omega) (by omega)
      have h2 : IntKind.i64.wrap (0 - (k + 1)) = -(k + 1) := (wrap_in (by omega) (by omega)).trans (by omega)
      (try simp only [go_sem, Nat.reduceAdd, Nat.reduceEqDiff, Nat.reduceLT, Nat.reduceLeDiff, Nat.reduceMul, reduceCtorEq, ↓reduceIte, h1, h2])
      simp only [if_pos hc']
    · have hc' : ¬ k < 0 := by simpa using hc
      simp only [if_neg hc']
      (try simp only [go_sem, Nat.reduceAdd, Nat.reduceEqDiff, Nat.reduceLT, Nat.reduceLeDiff, Nat.reduceMul, reduceCtorEq, ↓reduceIte])
  · rintro ρ w' ⟨rfl, r0, r1⟩
    have er : (if k < 0 then -(k + 1) else k).tmod xs.length = ((wpl xs.length k : Nat) : Int) := by
      have h0 : 0 ≤ (if k < 0 then -(k + 1) else k) := by split <;> omega
      unfold wpl
      generalize (if k < 0 then -(k + 1) else k) = z at h0
      obtain ⟨m, rfl⟩ := Int.eq_ofNat_of_zero_le h0
      rw [Int.toNat_natCast, Int.tmod_eq_emod_of_nonneg (by omega)]
      simp
    have e1 : ((xs.length : Int) = 0) = False := by simp; exact hne
    (try simp only [go_sem, Nat.reduceAdd, Nat.reduceEqDiff, Nat.reduceLT, Nat.reduceLeDiff, Nat.reduceMul, reduceCtorEq, ↓reduceIte, Nat.mul_one, Int.toNat_natCast, Int.toNat_zero, Nat.sub_zero, Nat.sub_self, r0, r1, e0, e1, er, b1, had, ew])
end Go.Proofs.Ytnimaifmcejkcaa
end

section
set_option linter.unusedSimpArgs false
set_option linter.unusedVariables false
set_option maxRecDepth 100000
namespace Go.Proofs.Ytnimaifmcejkcaa
open Go Go.W

theorem fit_ring {f : Nat → Nat} {z : Nat} {d : Nat} (hd : 1 ≤ d) (hz : fit f d z = z) : ∀ j, ∃ i, fit f i (fit f j z) = z := by
  intro j
  have : ∀ q, fit f (q * d) z = z := by
    intro q
    induction q with
    | zero => simp [fit]
    | succ q ih => rw [Nat.succ_mul, Nat.add_comm, fit_add, ih, hz]
  refine ⟨j * d - j, ?_⟩
  have h1 : j * 1 ≤ j * d := Nat.mul_le_mul_left _ hd
  rw [← fit_add, show j * d - j + j = j * d by omega]
  exact this j
/-- Far on, an indirection: it is a ring. -/
theorem ring_ind {ns : List Nd} (hw : WF ns) {p : Nat} (hp : p < ns.length) {m : Nat} (hm : ns.length ≤ m) (hi : ind ns (fit (nxt ns) m p) = true) : ind ns (over ns p) = true := by
  have hf := wf_nxt_lt hw
  obtain ⟨d, h1, h2, h3⟩ := onRing hf hp m hm
  obtain ⟨k, _, hk⟩ := ov_mem (nxt ns) ns.length (fit (nxt ns) m p)
  have e : ov (nxt ns) ns.length (fit (nxt ns) m p) = over ns p := ov_fit hf hp m
  rw [e] at hk
  cases hh : ind ns (over ns p) with
  | true => rfl
  | false =>
    obtain ⟨i, hi'⟩ := fit_ring h1 h3 (k + ns.length)
    rw [← hk, fit_fix (nxt_fix hh)] at hi'
    rw [← hi', hh] at hi; cases hi
theorem over_of {ns : List Nd} (hw : WF ns) {p : Nat} (hp : p < ns.length) {m : Nat} (hi : ind ns (fit (nxt ns) m p) = false) : fit (nxt ns) m p = over ns p := by
  have := ov_fit (wf_nxt_lt hw) hp m
  rw [ov_fix (nxt_fix hi)] at this
  exact this

/-- A node in a block of its own. -/
def NdAt (w0 w : World) (b : Nat) (nd : Nd) : Prop := w0.heap.size ≤ b ∧ ∃ v fp, w.heap[b]? = some (.cells #[I nd.kind, I nd.num, v] 38 (0, 0)) ∧ Own w 3 1 v (nd.args.map I) nd.args.length fp ∧ ∀ x, fp = some x → w0.heap.size ≤ x
theorem ndat_mod {w0 w w' : World} {S : Nat → Prop} {b : Nat} {nd : Nd} (h : NdAt w0 w b nd) (hm : Mod S w w') (hs : ∀ x, S x → w.heap.size ≤ x) : NdAt w0 w' b nd := by
  obtain ⟨h0, v, fp, h1, h2, h3⟩ := h
  exact ⟨h0, v, fp, hm.at h1 (fun hh => by have := hs _ hh; have := lt_of_heap h1; omega), h2.mod hm (fun x hx hh => by have := hs _ hh; have := h2.lt hx; omega), h3⟩

theorem gover_ok (w : World) (a : Nat) (ns : List Nd) (h : GRd w a ns) (p : Nat) (hp : p < ns.length) :
    CallsR Try.prog 21 [.pointer (some ⟨a, 0, none⟩), I p] w fun r w' => Mod (fun _ => False) w w' ∧ ∃ q : Nat, r = .tuple #[I q, .bool (ind ns (over ns p))] ∧ q < ns.length ∧ (ind ns (over ns p) = false → q = over ns p) ∧ (ind ns (over ns p) = true → ∃ m, ns.length ≤ m ∧ q = fit (nxt ns) m p) := by
  have hw := h.2.1
  have hn := h.2.2
  have hf := wf_nxt_lt hw
  refine fit21.calls rfl ?_
  unfold ir21
  (try simp only [go_sem, Nat.reduceAdd, Nat.reduceEqDiff, Nat.reduceLT, Nat.reduceLeDiff, Nat.reduceMul, reduceCtorEq, ↓reduceIte])
  refine e_call (by rfl) ?_
  refine (gget_nd h hp).mono ?_
  rintro r w1 ⟨hm1, v1, fp1, rfl, o1, n1⟩
  (try simp only [go_sem, Nat.reduceAdd, Nat.reduceEqDiff, Nat.reduceLT, Nat.reduceLeDiff, Nat.reduceMul, reduceCtorEq, ↓reduceIte])
  refine e_al ?_
  intro w2 hb2 hm2 hs2
  (try simp only [go_sem, Nat.reduceAdd, Nat.reduceEqDiff, Nat.reduceLT, Nat.reduceLeDiff, Nat.reduceMul, reduceCtorEq, ↓reduceIte])
  refine e_sta rfl rfl hb2 rfl rfl (by obtain ⟨x, c, rfl, _⟩ := o1.val; simp [Value.oneCell']) ?_
  intro w3 hb3 hm3 hs3
  have s1 := hm1.size
  have hm13 : Mod (fun _ => False) w1 w3 := hm2.step hm3 (fun x hx hlt => by omega)
  have hm03 := hm1.trans hm13
  have hnd : NdAt w w3 w1.heap.size (ndAt ns p) := ⟨by omega, v1, fp1, hb3, o1.mod hm13 (fun _ _ h => h), n1⟩
  generalize w1.heap.size = b at hnd ⊢
  (try simp only [go_sem, Nat.reduceAdd, Nat.reduceEqDiff, Nat.reduceLT, Nat.reduceLeDiff, Nat.reduceMul, reduceCtorEq, ↓reduceIte])
  refine ir_loop (fun m ρ w' => ∃ k : Nat, m = ns.length + 2 - k ∧ k ≤ ns.length + 1 ∧ Mod (fun _ => False) w w' ∧ NdAt w w' b (ndAt ns (fit (nxt ns) k p)) ∧ ρ = [(0, .pointer (some ⟨a, 0, none⟩)), (1, I (fit (nxt ns) k p)), (6, .pointer (some ⟨b, 0, none⟩)), (8, I k)]) (ns.length + 2)
    ⟨0, rfl, Nat.zero_le _, hm03, hnd, rfl⟩ ?_
  clear hnd hb2 hb3 hm1 hm2 hm3 hm13 hm03 o1 n1 s1 hs2 hs3
  rintro m ρ w3 ⟨k, rfl, hk, hm, ⟨hb0, v, fp, hb, ho, hfp⟩, rfl⟩
  unfold ir21L1
  have hlt := fit_lt hf k hp
  obtain ⟨x, c, rfl, _, _⟩ := ho.val
  cases hi : ind ns (fit (nxt ns) k p) with
  | false =>
    have q1 : ((ndAt ns (fit (nxt ns) k p)).kind == 5) = false := by simpa [ind] using hi
    have e := over_of hw hp hi
    have hio : ind ns (over ns p) = false := by rw [← e]; exact hi
    (try simp only [go_sem, Nat.reduceAdd, Nat.reduceEqDiff, Nat.reduceLT, Nat.reduceLeDiff, Nat.reduceMul, reduceCtorEq, ↓reduceIte, cell_of hb, q1])
    rw [hio]
    exact ⟨hm, _, rfl, hlt, fun _ => e, fun hh => by cases hh⟩
  | true =>
    have q1 : ((ndAt ns (fit (nxt ns) k p)).kind == 5) = true := by simpa [ind] using hi
    obtain ⟨t, t1, t2, t3⟩ := wf_ind hw hlt hi
    have hl : (ndAt ns (fit (nxt ns) k p)).args.length = 1 := by rw [t2]; rfl
    have q2 : (((ndAt ns (fit (nxt ns) k p)).args.length : Int) == 1) = true := by rw [hl]; rfl
    (try simp only [go_sem, Nat.reduceAdd, Nat.reduceEqDiff, Nat.reduceLT, Nat.reduceLeDiff, Nat.reduceMul, reduceCtorEq, ↓reduceIte, cell_of hb, q1, q2])
    refine e_call (by rfl) ?_
    refine (gused_n (gst_mod h hm)).mono ?_
    rintro r _ ⟨rfl, rfl⟩
    (try simp only [go_sem, Nat.reduceAdd, Nat.reduceEqDiff, Nat.reduceLT, Nat.reduceLeDiff, Nat.reduceMul, reduceCtorEq, ↓reduceIte])
    refine ir_cond rfl (fun hc => ?_) (fun hc => ?_)
    · have hc' : ns.length < k := by simpa using hc
      (try simp only [go_sem, Nat.reduceAdd, Nat.reduceEqDiff, Nat.reduceLT, Nat.reduceLeDiff, Nat.reduceMul, reduceCtorEq, ↓reduceIte])
      have hio := ring_ind hw hp (show ns.length ≤ k by omega) hi
      rw [hio]
      exact ⟨hm, _, rfl, hlt, fun hh => (by cases hh), fun _ => ⟨k, by omega, rfl⟩⟩
    · have hc' : ¬ ns.length < k := by simpa using hc
      obtain ⟨b2, c2, e2, hcell⟩ := own_at ho (i := 0) (u := I t) (by omega) (by rw [t2]; rfl)
      cases e2
      have b1 : (0 : Int) ≤ 0 ∧ (0 : Int) < ((ndAt ns (fit (nxt ns) k p)).args.length : Nat) := by omega
      have hwk : IntKind.i64.wrap ((k : Int) + 1) = ((k + 1 : Nat) : Int) := by rw [wrap_in] <;> omega
      have hnx : fit (nxt ns) (k + 1) p = t := by rw [fit_succ, t3]
      (try simp only [go_sem, Nat.reduceAdd, Nat.reduceEqDiff, Nat.reduceLT, Nat.reduceLeDiff, Nat.reduceMul, reduceCtorEq, ↓reduceIte, Nat.mul_one, Int.toNat_natCast, Int.toNat_zero, Nat.sub_zero, Nat.sub_self, cell_of hb, b1, hcell])
      refine e_call (by rfl) ?_
      refine (gget_nd (gst_mod h hm) t1).mono ?_
      rintro r w4 ⟨hm4, v4, fp4, rfl, o4, n4⟩
      (try simp only [go_sem, Nat.reduceAdd, Nat.reduceEqDiff, Nat.reduceLT, Nat.reduceLeDiff, Nat.reduceMul, reduceCtorEq, ↓reduceIte])
      refine e_al ?_
      intro w5 hb5 hm5 hs5
      have hb5 : w5.heap[w4.heap.size]? = some (.cells #[I 0, I 0, .slice none 0 0] 38 (0, 0)) := hb5
      (try simp only [go_sem, Nat.reduceAdd, Nat.reduceEqDiff, Nat.reduceLT, Nat.reduceLeDiff, Nat.reduceMul, reduceCtorEq, ↓reduceIte])
      refine e_sta rfl rfl hb5 rfl rfl (by obtain ⟨x, c, rfl, _⟩ := o4.val; simp [Value.oneCell']) ?_
      intro w6 hb6 hm6 hs6
      have l3 := lt_of_heap hb
      have s4 := hm4.size
      have s := hm.size
      have hm36 : Mod (fun x => x = w4.heap.size) w3 w6 := ((hm4.trans hm5).weak (fun _ h => h.elim)).trans hm6
      have hbb := hm36.at hb (by omega)
      (try simp only [go_sem, Nat.reduceAdd, Nat.reduceEqDiff, Nat.reduceLT, Nat.reduceLeDiff, Nat.reduceMul, reduceCtorEq, ↓reduceIte, ln_of hb6 (off := 0) (n := 3) (by simp)])
      refine e_sta rfl rfl hbb rfl rfl (by obtain ⟨x, c, rfl, _⟩ := o4.val; simp [Value.oneCell']) ?_
      intro w7 hb7 hm7 hs7
      (try simp only [go_sem, Nat.reduceAdd, Nat.reduceEqDiff, Nat.reduceLT, Nat.reduceLeDiff, Nat.reduceMul, reduceCtorEq, ↓reduceIte, hwk])
      refine ⟨_, ?_, k + 1, rfl, by omega, (hm.step hm36 (fun x hx hlt => by omega)).step hm7 (fun x hx hlt => by omega), ⟨hb0, v4, fp4, ?_, ?_, fun x hx => ?_⟩, ?_⟩
      · omega
      · rw [hnx]; exact hb7
      · rw [hnx]
        exact ((o4.mod hm5 (fun _ _ h => h)).mod hm6 (fun x hx hh => by have := o4.lt hx; omega)).mod hm7 (fun x hx hh => by have := n4 x hx; omega)
      · have := n4 x hx; omega
      · rw [hnx]
theorem hover_ok (w : World) (a : Nat) (ns : List Nd) (h : HRd w a ns) (p : Nat) (hp : p < ns.length) :
    CallsR Try.prog 22 [.pointer (some ⟨a, 0, none⟩), I p] w fun r w' => Mod (fun _ => False) w w' ∧ ∃ q : Nat, r = .tuple #[I q, .bool (ind ns (over ns p))] ∧ q < ns.length ∧ (ind ns (over ns p) = false → q = over ns p) ∧ (ind ns (over ns p) = true → ∃ m, ns.length ≤ m ∧ q = fit (nxt ns) m p) := by
  have hw := h.2.1
  have hn := h.2.2
  have hf := wf_nxt_lt hw
  refine fit22.calls rfl ?_
  unfold ir22
  (try simp only [go_sem, Nat.reduceAdd, Nat.reduceEqDiff, Nat.reduceLT, Nat.reduceLeDiff, Nat.reduceMul, reduceCtorEq, ↓reduceIte])
  refine e_call (by rfl) ?_
  refine (hget_nd h hp).mono ?_
  rintro r w1 ⟨hm1, v1, fp1, rfl, o1, n1⟩
  (try simp only [go_sem, Nat.reduceAdd, Nat.reduceEqDiff, Nat.reduceLT, Nat.reduceLeDiff, Nat.reduceMul, reduceCtorEq, ↓reduceIte])
  refine e_al ?_
  intro w2 hb2 hm2 hs2
  (try simp only [go_sem, Nat.reduceAdd, Nat.reduceEqDiff, Nat.reduceLT, Nat.reduceLeDiff, Nat.reduceMul, reduceCtorEq, ↓reduceIte])
  refine e_sta rfl rfl hb2 rfl rfl (by obtain ⟨x, c, rfl, _⟩ := o1.val; simp [Value.oneCell']) ?_
  intro w3 hb3 hm3 hs3
  have s1 := hm1.size
  have hm13 : Mod (fun _ => False) w1 w3 := hm2.step hm3 (fun x hx hlt => by omega)
  have hm03 := hm1.trans hm13
  have hnd : NdAt w w3 w1.heap.size (ndAt ns p) := ⟨by omega, v1, fp1, hb3, o1.mod hm13 (fun _ _ h => h), n1⟩
  generalize w1.heap.size = b at hnd ⊢
  (try simp only [go_sem, Nat.reduceAdd, Nat.reduceEqDiff, Nat.reduceLT, Nat.reduceLeDiff, Nat.reduceMul, reduceCtorEq, ↓reduceIte])
  refine ir_loop (fun m ρ w' => ∃ k : Nat, m = ns.length + 2 - k ∧ k ≤ ns.length + 1 ∧ Mod (fun _ => False) w w' ∧ NdAt w w' b (ndAt ns (fit (nxt ns) k p)) ∧ ρ = [(0, .pointer (some ⟨a, 0, none⟩)), (1, I (fit (nxt ns) k p)), (6, .pointer (some ⟨b, 0, none⟩)), (8, I k)]) (ns.length + 2)
    ⟨0, rfl, Nat.zero_le _, hm03, hnd, rfl⟩ ?_
  clear hnd hb2 hb3 hm1 hm2 hm3 hm13 hm03 o1 n1 s1 hs2 hs3
  rintro m ρ w3 ⟨k, rfl, hk, hm, ⟨hb0, v, fp, hb, ho, hfp⟩, rfl⟩
  unfold ir22L1
  have hlt := fit_lt hf k hp
  obtain ⟨x, c, rfl, _, _⟩ := ho.val
  cases hi : ind ns (fit (nxt ns) k p) with
  | false =>
    have q1 : ((ndAt ns (fit (nxt ns) k p)).kind == 5) = false := by simpa [ind] using hi
    have e := over_of hw hp hi
    have hio : ind ns (over ns p) = false := by rw [← e]; exact hi
    (try simp only [go_sem, Nat.reduceAdd, Nat.reduceEqDiff, Nat.reduceLT, Nat.reduceLeDiff, Nat.reduceMul, reduceCtorEq, ↓reduceIte, cell_of hb, q1])
    rw [hio]
    exact ⟨hm, _, rfl, hlt, fun _ => e, fun hh => by cases hh⟩
  | true =>
    have q1 : ((ndAt ns (fit (nxt ns) k p)).kind == 5) = true := by simpa [ind] using hi
    obtain ⟨t, t1, t2, t3⟩ := wf_ind hw hlt hi
    have hl : (ndAt ns (fit (nxt ns) k p)).args.length = 1 := by rw [t2]; rfl
    have q2 : (((ndAt ns (fit (nxt ns) k p)).args.length : Int) == 1) = true := by rw [hl]; rfl
    (try simp only [go_sem, Nat.reduceAdd, Nat.reduceEqDiff, Nat.reduceLT, Nat.reduceLeDiff, Nat.reduceMul, reduceCtorEq, ↓reduceIte, cell_of hb, q1, q2])
    refine e_call (by rfl) ?_
    refine (hused_n (hst_mod h hm)).mono ?_
    rintro r _ ⟨rfl, rfl⟩
    (try simp only [go_sem, Nat.reduceAdd, Nat.reduceEqDiff, Nat.reduceLT, Nat.reduceLeDiff, Nat.reduceMul, reduceCtorEq, ↓reduceIte])
    refine ir_cond rfl (fun hc => ?_) (fun hc => ?_)
    · have hc' : ns.length < k := by simpa using hc
      (try simp only [go_sem, Nat.reduceAdd, Nat.reduceEqDiff, Nat.reduceLT, Nat.reduceLeDiff, Nat.reduceMul, reduceCtorEq, ↓reduceIte])
      have hio := ring_ind hw hp (show ns.length ≤ k by omega) hi
      rw [hio]
      exact ⟨hm, _, rfl, hlt, fun hh => (by cases hh), fun _ => ⟨k, by omega, rfl⟩⟩
    · have hc' : ¬ ns.length < k := by simpa using hc
      obtain ⟨b2, c2, e2, hcell⟩ := own_at ho (i := 0) (u := I t) (by omega) (by rw [t2]; rfl)
      cases e2
      have b1 : (0 : Int) ≤ 0 ∧ (0 : Int) < ((ndAt ns (fit (nxt ns) k p)).args.length : Nat) := by omega
      have hwk : IntKind.i64.wrap ((k : Int) + 1) = ((k + 1 : Nat) : Int) := by rw [wrap_in] <;> omega
      have hnx : fit (nxt ns) (k + 1) p = t := by rw [fit_succ, t3]
      (try simp only [go_sem, Nat.reduceAdd, Nat.reduceEqDiff, Nat.reduceLT, Nat.reduceLeDiff, Nat.reduceMul, reduceCtorEq, ↓reduceIte, Nat.mul_one, Int.toNat_natCast, Int.toNat_zero, Nat.sub_zero, Nat.sub_self, cell_of hb, b1, hcell])
      refine e_call (by rfl) ?_
      refine (hget_nd (hst_mod h hm) t1).mono ?_
      rintro r w4 ⟨hm4, v4, fp4, rfl, o4, n4⟩
      (try simp only [go_sem, Nat.reduceAdd, Nat.reduceEqDiff, Nat.reduceLT, Nat.reduceLeDiff, Nat.reduceMul, reduceCtorEq, ↓reduceIte])
      refine e_al ?_
      intro w5 hb5 hm5 hs5
      have hb5 : w5.heap[w4.heap.size]? = some (.cells #[I 0, I 0, .slice none 0 0] 38 (0, 0)) := hb5
      (try simp only [go_sem, Nat.reduceAdd, Nat.reduceEqDiff, Nat.reduceLT, Nat.reduceLeDiff, Nat.reduceMul, reduceCtorEq, ↓reduceIte])
      refine e_sta rfl rfl hb5 rfl rfl (by obtain ⟨x, c, rfl, _⟩ := o4.val; simp [Value.oneCell']) ?_
      intro w6 hb6 hm6 hs6
      have l3 := lt_of_heap hb
      have s4 := hm4.size
      have s := hm.size
      have hm36 : Mod (fun x => x = w4.heap.size) w3 w6 := ((hm4.trans hm5).weak (fun _ h => h.elim)).trans hm6
      have hbb := hm36.at hb (by omega)
      (try simp only [go_sem, Nat.reduceAdd, Nat.reduceEqDiff, Nat.reduceLT, Nat.reduceLeDiff, Nat.reduceMul, reduceCtorEq, ↓reduceIte, ln_of hb6 (off := 0) (n := 3) (by simp)])
      refine e_sta rfl rfl hbb rfl rfl (by obtain ⟨x, c, rfl, _⟩ := o4.val; simp [Value.oneCell']) ?_
      intro w7 hb7 hm7 hs7
      (try simp only [go_sem, Nat.reduceAdd, Nat.reduceEqDiff, Nat.reduceLT, Nat.reduceLeDiff, Nat.reduceMul, reduceCtorEq, ↓reduceIte, hwk])
      refine ⟨_, ?_, k + 1, rfl, by omega, (hm.step hm36 (fun x hx hlt => by omega)).step hm7 (fun x hx hlt => by omega), ⟨hb0, v4, fp4, ?_, ?_, fun x hx => ?_⟩, ?_⟩
      · omega
      · rw [hnx]; exact hb7
      · rw [hnx]
        exact ((o4.mod hm5 (fun _ _ h => h)).mod hm6 (fun x hx hh => by have := o4.lt hx; omega)).mod hm7 (fun x hx hh => by have := n4 x hx; omega)
      · have := n4 x hx; omega
      · rw [hnx]

/-- The least of a ring. -/
theorem least_ring {ns : List Nd} (hw : WF ns) {p : Nat} (hp : p < ns.length) {m : Nat} (hm : ns.length ≤ m) {out : Nat} (h1 : ∃ i, i ≤ ns.length ∧ out = fit (nxt ns) i (fit (nxt ns) m p)) (h2 : ∀ i, i ≤ ns.length → out ≤ fit (nxt ns) i (fit (nxt ns) m p)) : out = over ns p := by
  have hf := wf_nxt_lt hw
  apply Nat.le_antisymm
  · obtain ⟨d, d1, d2, d3⟩ := onRing hf hp m hm
    obtain ⟨k, _, hk⟩ := ov_mem (nxt ns) ns.length (fit (nxt ns) m p)
    obtain ⟨k', k1, k2⟩ := ring_mod d1 d2 d3 (k + ns.length)
    have e : ov (nxt ns) ns.length (fit (nxt ns) m p) = over ns p := ov_fit hf hp m
    rw [← e, hk, k2]
    exact h2 k' k1
  · obtain ⟨i, _, hi⟩ := h1
    rw [hi, ← fit_add]
    exact ov_le' hf hp _ (by omega)
theorem ring_all {ns : List Nd} (hw : WF ns) {p : Nat} (hp : p < ns.length) (hi : ind ns (over ns p) = true) (m : Nat) : ind ns (fit (nxt ns) m p) = true := by
  cases hh : ind ns (fit (nxt ns) m p) with
  | true => rfl
  | false => rw [← over_of hw hp hh, hh] at hi; cases hi

theorem gleast_ok (w : World) (a : Nat) (ns : List Nd) (h : GRd w a ns) (p : Nat) (hp : p < ns.length) (hring : ind ns (over ns p) = true) (m0 : Nat) (hm0 : ns.length ≤ m0) :
    CallsR Try.prog 52 [.pointer (some ⟨a, 0, none⟩), I (fit (nxt ns) m0 p)] w fun r w' => Mod (fun _ => False) w w' ∧ r = I (over ns p) := by
  have hw := h.2.1
  have hn := h.2.2
  have hf := wf_nxt_lt hw
  have hall := ring_all hw hp hring
  have hp0 := fit_lt hf m0 hp
  refine fit52.calls rfl ?_
  unfold ir52
  (try simp only [go_sem, Nat.reduceAdd, Nat.reduceEqDiff, Nat.reduceLT, Nat.reduceLeDiff, Nat.reduceMul, reduceCtorEq, ↓reduceIte])
  refine e_call (by rfl) ?_
  refine (gget_nd h hp0).mono ?_
  rintro r w1 ⟨hm1, v1, fp1, rfl, o1, n1⟩
  (try simp only [go_sem, Nat.reduceAdd, Nat.reduceEqDiff, Nat.reduceLT, Nat.reduceLeDiff, Nat.reduceMul, reduceCtorEq, ↓reduceIte])
  refine e_al ?_
  intro w2 hb2 hm2 hs2
  (try simp only [go_sem, Nat.reduceAdd, Nat.reduceEqDiff, Nat.reduceLT, Nat.reduceLeDiff, Nat.reduceMul, reduceCtorEq, ↓reduceIte])
  refine e_sta rfl rfl hb2 rfl rfl (by obtain ⟨x, c, rfl, _⟩ := o1.val; simp [Value.oneCell']) ?_
  intro w3 hb3 hm3 hs3
  have s1 := hm1.size
  have hm13 : Mod (fun _ => False) w1 w3 := hm2.step hm3 (fun x hx hlt => by omega)
  have hm03 := hm1.trans hm13
  have hnd : NdAt w w3 w1.heap.size (ndAt ns (fit (nxt ns) (0 + m0) p)) := ⟨by omega, v1, fp1, by rw [Nat.zero_add]; exact hb3, by rw [Nat.zero_add]; exact o1.mod hm13 (fun _ _ h => h), n1⟩
  generalize w1.heap.size = b at hnd ⊢
  (try simp only [go_sem, Nat.reduceAdd, Nat.reduceEqDiff, Nat.reduceLT, Nat.reduceLeDiff, Nat.reduceMul, reduceCtorEq, ↓reduceIte])
  refine ir_loop (fun m ρ w' => ∃ (k : Nat) (out : Nat), m = ns.length - k ∧ k ≤ ns.length ∧ Mod (fun _ => False) w w' ∧ NdAt w w' b (ndAt ns (fit (nxt ns) (k + m0) p)) ∧ (∃ i, i ≤ k ∧ out = fit (nxt ns) i (fit (nxt ns) m0 p)) ∧ (∀ i, i ≤ k → out ≤ fit (nxt ns) i (fit (nxt ns) m0 p)) ∧
    ρ = [(0, .pointer (some ⟨a, 0, none⟩)), (5, I out), (6, .pointer (some ⟨b, 0, none⟩)), (8, I k)]) ns.length
    ⟨0, _, rfl, Nat.zero_le _, hm03, hnd, ⟨0, Nat.le_refl _, rfl⟩, fun i hi => Nat.le_of_eq (by rw [Nat.le_zero.1 hi]), rfl⟩ ?_
  clear hnd hb2 hb3 hm1 hm2 hm3 hm13 hm03 o1 n1 s1 hs2 hs3
  rintro m ρ w3 ⟨k, out, rfl, hk, hm, ⟨hb0, v, fp, hb, ho, hfp⟩, hmem, hle, rfl⟩
  unfold ir52L1
  have hlt := fit_lt hf (k + m0) hp
  obtain ⟨x, c, rfl, _, _⟩ := ho.val
  have hi := hall (k + m0)
  have q1 : ((ndAt ns (fit (nxt ns) (k + m0) p)).kind == 5) = true := by simpa [ind] using hi
  obtain ⟨t, t1, t2, t3⟩ := wf_ind hw hlt hi
  have hl : (ndAt ns (fit (nxt ns) (k + m0) p)).args.length = 1 := by rw [t2]; rfl
  have q2 : (((ndAt ns (fit (nxt ns) (k + m0) p)).args.length : Int) == 1) = true := by rw [hl]; rfl
  have hnx : fit (nxt ns) (k + 1 + m0) p = t := by rw [show k + 1 + m0 = k + m0 + 1 by omega, fit_succ, t3]
  have hnx' : fit (nxt ns) (k + 1) (fit (nxt ns) m0 p) = t := by rw [← fit_add]; exact hnx
  (try simp only [go_sem, Nat.reduceAdd, Nat.reduceEqDiff, Nat.reduceLT, Nat.reduceLeDiff, Nat.reduceMul, reduceCtorEq, ↓reduceIte])
  refine e_call (by rfl) ?_
  refine (gused_n (gst_mod h hm)).mono ?_
  rintro r _ ⟨rfl, rfl⟩
  by_cases hkn : k < ns.length
  · have d1 : decide ((k : Int) < ns.length) = true := by simpa using hkn
    obtain ⟨b2, c2, e2, hcell⟩ := own_at ho (i := 0) (u := I t) (by omega) (by rw [t2]; rfl)
    cases e2
    have b1 : (0 : Int) ≤ 0 ∧ (0 : Int) < ((ndAt ns (fit (nxt ns) (k + m0) p)).args.length : Nat) := by omega
    have hwk : IntKind.i64.wrap ((k : Int) + 1) = ((k + 1 : Nat) : Int) := by rw [wrap_in] <;> omega
    have emin : (if (t : Int) < out then (t : Int) else out) = ((min out t : Nat) : Int) := by
      by_cases hh : (t : Int) < out
      · rw [if_pos hh, Nat.min_eq_right (by omega)]
      · rw [if_neg hh, Nat.min_eq_left (by omega)]
    (try simp only [go_sem, Nat.reduceAdd, Nat.reduceEqDiff, Nat.reduceLT, Nat.reduceLeDiff, Nat.reduceMul, reduceCtorEq, ↓reduceIte, Nat.mul_one, Int.toNat_natCast, Int.toNat_zero, Nat.sub_zero, Nat.sub_self, cell_of hb, d1, q1, q2, b1, hcell])
    refine e_call (by rfl) ?_
    refine (gget_nd (gst_mod h hm) t1).mono ?_
    rintro r w4 ⟨hm4, v4, fp4, rfl, o4, n4⟩
    (try simp only [go_sem, Nat.reduceAdd, Nat.reduceEqDiff, Nat.reduceLT, Nat.reduceLeDiff, Nat.reduceMul, reduceCtorEq, ↓reduceIte])
    refine e_al ?_
    intro w5 hb5 hm5 hs5
    have hb5 : w5.heap[w4.heap.size]? = some (.cells #[I 0, I 0, .slice none 0 0] 38 (0, 0)) := hb5
    (try simp only [go_sem, Nat.reduceAdd, Nat.reduceEqDiff, Nat.reduceLT, Nat.reduceLeDiff, Nat.reduceMul, reduceCtorEq, ↓reduceIte])
    refine e_sta rfl rfl hb5 rfl rfl (by obtain ⟨x, c, rfl, _⟩ := o4.val; simp [Value.oneCell']) ?_
    intro w6 hb6 hm6 hs6
    have l3 := lt_of_heap hb
    have s4 := hm4.size
    have s := hm.size
    have hm36 : Mod (fun x => x = w4.heap.size) w3 w6 := ((hm4.trans hm5).weak (fun _ h => h.elim)).trans hm6
    have hbb := hm36.at hb (by omega)
    (try simp only [go_sem, Nat.reduceAdd, Nat.reduceEqDiff, Nat.reduceLT, Nat.reduceLeDiff, Nat.reduceMul, reduceCtorEq, ↓reduceIte, ln_of hb6 (off := 0) (n := 3) (by simp)])
    refine e_sta rfl rfl hbb rfl rfl (by obtain ⟨x, c, rfl, _⟩ := o4.val; simp [Value.oneCell']) ?_
    intro w7 hb7 hm7 hs7
    (try simp only [go_sem, Nat.reduceAdd, Nat.reduceEqDiff, Nat.reduceLT, Nat.reduceLeDiff, Nat.reduceMul, reduceCtorEq, ↓reduceIte, hwk])
    refine ⟨_, ?_, k + 1, min out t, rfl, by omega, (hm.step hm36 (fun x hx hlt => by omega)).step hm7 (fun x hx hlt => by omega), ⟨hb0, v4, fp4, ?_, ?_, fun x hx => ?_⟩, ?_, fun i hi => ?_, ?_⟩
    · omega
    · rw [hnx]; exact hb7
    · rw [hnx]
      exact ((o4.mod hm5 (fun _ _ h => h)).mod hm6 (fun x hx hh => by have := o4.lt hx; omega)).mod hm7 (fun x hx hh => by have := n4 x hx; omega)
    · have := n4 x hx; omega
    · obtain ⟨i, i1, i2⟩ := hmem
      rcases Nat.le_total out t with h | h
      · exact ⟨i, by omega, by rw [← i2]; exact Nat.min_eq_left h⟩
      · exact ⟨k + 1, Nat.le_refl _, by rw [hnx']; exact Nat.min_eq_right h⟩
    · rcases Nat.lt_or_ge i (k + 1) with h | h
      · exact Nat.le_trans (Nat.min_le_left _ _) (hle i (by omega))
      · obtain rfl : i = k + 1 := by omega
        rw [hnx']; exact Nat.min_le_right _ _
    · rw [emin]
  · have d1 : decide ((k : Int) < ns.length) = false := by simpa using hkn
    obtain rfl : k = ns.length := by omega
    (try simp only [go_sem, Nat.reduceAdd, Nat.reduceEqDiff, Nat.reduceLT, Nat.reduceLeDiff, Nat.reduceMul, reduceCtorEq, ↓reduceIte, d1])
    refine ⟨hm, ?_⟩
    rw [least_ring hw hp hm0 hmem hle]
theorem hleast_ok (w : World) (a : Nat) (ns : List Nd) (h : HRd w a ns) (p : Nat) (hp : p < ns.length) (hring : ind ns (over ns p) = true) (m0 : Nat) (hm0 : ns.length ≤ m0) :
    CallsR Try.prog 53 [.pointer (some ⟨a, 0, none⟩), I (fit (nxt ns) m0 p)] w fun r w' => Mod (fun _ => False) w w' ∧ r = I (over ns p) := by
  have hw := h.2.1
  have hn := h.2.2
  have hf := wf_nxt_lt hw
  have hall := ring_all hw hp hring
  have hp0 := fit_lt hf m0 hp
  refine fit53.calls rfl ?_
  unfold ir53
  (try simp only [go_sem, Nat.reduceAdd, Nat.reduceEqDiff, Nat.reduceLT, Nat.reduceLeDiff, Nat.reduceMul, reduceCtorEq, ↓reduceIte])
  refine e_call (by rfl) ?_
  refine (hget_nd h hp0).mono ?_
  rintro r w1 ⟨hm1, v1, fp1, rfl, o1, n1⟩
  (try simp only [go_sem, Nat.reduceAdd, Nat.reduceEqDiff, Nat.reduceLT, Nat.reduceLeDiff, Nat.reduceMul, reduceCtorEq, ↓reduceIte])
  refine e_al ?_
  intro w2 hb2 hm2 hs2
  (try simp only [go_sem, Nat.reduceAdd, Nat.reduceEqDiff, Nat.reduceLT, Nat.reduceLeDiff, Nat.reduceMul, reduceCtorEq, ↓reduceIte])
  refine e_sta rfl rfl hb2 rfl rfl (by obtain ⟨x, c, rfl, _⟩ := o1.val; simp [Value.oneCell']) ?_
  intro w3 hb3 hm3 hs3
  have s1 := hm1.size
  have hm13 : Mod (fun _ => False) w1 w3 := hm2.step hm3 (fun x hx hlt => by omega)
  have hm03 := hm1.trans hm13
  have hnd : NdAt w w3 w1.heap.size (ndAt ns (fit (nxt ns) (0 + m0) p)) := ⟨by omega, v1, fp1, by rw [Nat.zero_add]; exact hb3, by rw [Nat.zero_add]; exact o1.mod hm13 (fun _ _ h => h), n1⟩
  generalize w1.heap.size = b at hnd ⊢
  (try simp only [go_sem, Nat.reduceAdd, Nat.reduceEqDiff, Nat.reduceLT, Nat.reduceLeDiff, Nat.reduceMul, reduceCtorEq, ↓reduceIte])
  refine ir_loop (fun m ρ w' => ∃ (k : Nat) (out : Nat), m = ns.length - k ∧ k ≤ ns.length ∧ Mod (fun _ => False) w w' ∧ NdAt w w' b (ndAt ns (fit (nxt ns) (k + m0) p)) ∧ (∃ i, i ≤ k ∧ out = fit (nxt ns) i (fit (nxt ns) m0 p)) ∧ (∀ i, i ≤ k → out ≤ fit (nxt ns) i (fit (nxt ns) m0 p)) ∧
    ρ = [(0, .pointer (some ⟨a, 0, none⟩)), (5, I out), (6, .pointer (some ⟨b, 0, none⟩)), (8, I k)]) ns.length
    ⟨0, _, rfl, Nat.zero_le _, hm03, hnd, ⟨0, Nat.le_refl _, rfl⟩, fun i hi => Nat.le_of_eq (by rw [Nat.le_zero.1 hi]), rfl⟩ ?_
  clear hnd hb2 hb3 hm1 hm2 hm3 hm13 hm03 o1 n1 s1 hs2 hs3
  rintro m ρ w3 ⟨k, out, rfl, hk, hm, ⟨hb0, v, fp, hb, ho, hfp⟩, hmem, hle, rfl⟩
  unfold ir53L1
  have hlt := fit_lt hf (k + m0) hp
  obtain ⟨x, c, rfl, _, _⟩ := ho.val
  have hi := hall (k + m0)
  have q1 : ((ndAt ns (fit (nxt ns) (k + m0) p)).kind == 5) = true := by simpa [ind] using hi
  obtain ⟨t, t1, t2, t3⟩ := wf_ind hw hlt hi
  have hl : (ndAt ns (fit (nxt ns) (k + m0) p)).args.length = 1 := by rw [t2]; rfl
  have q2 : (((ndAt ns (fit (nxt ns) (k + m0) p)).args.length : Int) == 1) = true := by rw [hl]; rfl
  have hnx : fit (nxt ns) (k + 1 + m0) p = t := by rw [show k + 1 + m0 = k + m0 + 1 by omega, fit_succ, t3]
  have hnx' : fit (nxt ns) (k + 1) (fit (nxt ns) m0 p) = t := by rw [← fit_add]; exact hnx
  (try simp only [go_sem, Nat.reduceAdd, Nat.reduceEqDiff, Nat.reduceLT, Nat.reduceLeDiff, Nat.reduceMul, reduceCtorEq, ↓reduceIte])
  refine e_call (by rfl) ?_
  refine (hused_n (hst_mod h hm)).mono ?_
  rintro r _ ⟨rfl, rfl⟩
  by_cases hkn : k < ns.length
  · have d1 : decide ((k : Int) < ns.length) = true := by simpa using hkn
    obtain ⟨b2, c2, e2, hcell⟩ := own_at ho (i := 0) (u := I t) (by omega) (by rw [t2]; rfl)
    cases e2
    have b1 : (0 : Int) ≤ 0 ∧ (0 : Int) < ((ndAt ns (fit (nxt ns) (k + m0) p)).args.length : Nat) := by omega
    have hwk : IntKind.i64.wrap ((k : Int) + 1) = ((k + 1 : Nat) : Int) := by rw [wrap_in] <;> omega
    have emin : (if (t : Int) < out then (t : Int) else out) = ((min out t : Nat) : Int) := by
      by_cases hh : (t : Int) < out
      · rw [if_pos hh, Nat.min_eq_right (by omega)]
      · rw [if_neg hh, Nat.min_eq_left (by omega)]
    (try simp only [go_sem, Nat.reduceAdd, Nat.reduceEqDiff, Nat.reduceLT, Nat.reduceLeDiff, Nat.reduceMul, reduceCtorEq, ↓reduceIte, Nat.mul_one, Int.toNat_natCast, Int.toNat_zero, Nat.sub_zero, Nat.sub_self, cell_of hb, d1, q1, q2, b1, hcell])
    refine e_call (by rfl) ?_
    refine (hget_nd (hst_mod h hm) t1).mono ?_
    rintro r w4 ⟨hm4, v4, fp4, rfl, o4, n4⟩
    (try simp only [go_sem, Nat.reduceAdd, Nat.reduceEqDiff, Nat.reduceLT, Nat.reduceLeDiff, Nat.reduceMul, reduceCtorEq, ↓reduceIte])
    refine e_al ?_
    intro w5 hb5 hm5 hs5
    have hb5 : w5.heap[w4.heap.size]? = some (.cells #[I 0, I 0, .slice none 0 0] 38 (0, 0)) := hb5
    (try simp only [go_sem, Nat.reduceAdd, Nat.reduceEqDiff, Nat.reduceLT, Nat.reduceLeDiff, Nat.reduceMul, reduceCtorEq, ↓reduceIte])
    refine e_sta rfl rfl hb5 rfl rfl (by obtain ⟨x, c, rfl, _⟩ := o4.val; simp [Value.oneCell']) ?_
    intro w6 hb6 hm6 hs6
    have l3 := lt_of_heap hb
    have s4 := hm4.size
    have s := hm.size
    have hm36 : Mod (fun x => x = w4.heap.size) w3 w6 := ((hm4.trans hm5).weak (fun _ h => h.elim)).trans hm6
    have hbb := hm36.at hb (by omega)
    (try simp only [go_sem, Nat.reduceAdd, Nat.reduceEqDiff, Nat.reduceLT, Nat.reduceLeDiff, Nat.reduceMul, reduceCtorEq, ↓reduceIte, ln_of hb6 (off := 0) (n := 3) (by simp)])
    refine e_sta rfl rfl hbb rfl rfl (by obtain ⟨x, c, rfl, _⟩ := o4.val; simp [Value.oneCell']) ?_
    intro w7 hb7 hm7 hs7
    (try simp only [go_sem, Nat.reduceAdd, Nat.reduceEqDiff, Nat.reduceLT, Nat.reduceLeDiff, Nat.reduceMul, reduceCtorEq, ↓reduceIte, hwk])
    refine ⟨_, ?_, k + 1, min out t, rfl, by omega, (hm.step hm36 (fun x hx hlt => by omega)).step hm7 (fun x hx hlt => by omega), ⟨hb0, v4, fp4, ?_, ?_, fun x hx => ?_⟩, ?_, fun i hi => ?_, ?_⟩
    · omega
    · rw [hnx]; exact hb7
    · rw [hnx]
      exact ((o4.mod hm5 (fun _ _ h => h)).mod hm6 (fun x hx hh => by have := o4.lt hx; omega)).mod hm7 (fun x hx hh => by have := n4 x hx; omega)
    · have := n4 x hx; omega
    · obtain ⟨i, i1, i2⟩ := hmem
      rcases Nat.le_total out t with h | h
      · exact ⟨i, by omega, by rw [← i2]; exact Nat.min_eq_left h⟩
      · exact ⟨k + 1, Nat.le_refl _, by rw [hnx']; exact Nat.min_eq_right h⟩
    · rcases Nat.lt_or_ge i (k + 1) with h | h
      · exact Nat.le_trans (Nat.min_le_left _ _) (hle i (by omega))
      · obtain rfl : i = k + 1 := by omega
        rw [hnx']; exact Nat.min_le_right _ _
    · rw [emin]
  · have d1 : decide ((k : Int) < ns.length) = false := by simpa using hkn
    obtain rfl : k = ns.length := by omega
    (try simp only [go_sem, Nat.reduceAdd, Nat.reduceEqDiff, Nat.reduceLT, Nat.reduceLeDiff, Nat.reduceMul, reduceCtorEq, ↓reduceIte, d1])
    refine ⟨hm, ?_⟩
    rw [least_ring hw hp hm0 hmem hle]
end Go.Proofs.Ytnimaifmcejkcaa
end

section
set_option linter.unusedSimpArgs false
set_option linter.unusedVariables false
set_option maxRecDepth 100000
namespace Go.Proofs.Ytnimaifmcejkcaa
open Go Go.W

theorem lcopied_ok (w : World) (v : Value) (xs : List Int) (hx : Ints w v xs) :
    CallsR Try.prog 26 [v] w fun r w' => Mod (fun _ => False) w w' ∧ ∃ fp, Own w' 3 1 r (xs.map I) xs.length fp ∧ ∀ b, fp = some b → w.heap.size ≤ b := by
  have hx0 := hx
  obtain ⟨va, vc, rfl, hl, _⟩ := hx0
  obtain ⟨_, h2, h3⟩ := hx.rd
  refine fit26.calls rfl ?_
  unfold ir26
  (try simp only [go_sem, Nat.reduceAdd, Nat.reduceEqDiff, Nat.reduceLT, Nat.reduceLeDiff, Nat.reduceMul, reduceCtorEq, ↓reduceIte])
  refine e_ap (n := 0) (xs := []) (news := xs.map I) rfl (Own.nil _ _ _) rfl h3 h2 (oneI xs) rfl (by omega) (by omega) ?_
  intro v' w' fp' ho hm hf
  (try simp only [go_sem, Nat.reduceAdd, Nat.reduceEqDiff, Nat.reduceLT, Nat.reduceLeDiff, Nat.reduceMul, reduceCtorEq, ↓reduceIte])
  rw [Nat.zero_add, List.nil_append] at ho
  refine ⟨hm.weak (fun b hb => by cases hb), fp', ho, fun b hb => ?_⟩
  rcases hf b hb with h | h
  · cases h
  · omega

theorem node_ok (w : World) (cl n kind num : Int) (av v : Value) (args xs : List Int) (ha : Ints w av args) (hx : Ints w v xs) (hi : ∀ a ∈ args, I64 a) (hl : args.length + 5 ≤ 17592186044416) (hpos : ∀ x ∈ xs, 0 ≤ x) :
    CallsR Try.prog 16 [.agg #[I cl, I n, I kind, I num, av], v] w fun r w' => Mod (fun _ => False) w w' ∧ ∃ (u : Value) (nd : Nd) (fp : Option Nat), r = .tuple #[.agg #[I nd.kind, I nd.num, u], .bool (decide (args = [] ∨ xs ≠ []))] ∧ Own w' 3 1 u (nd.args.map I) nd.args.length fp ∧ (∀ b, fp = some b → w.heap.size ≤ b) ∧
      (args = [] ∨ xs ≠ [] → nd = ⟨kind, num, args.map (whD xs)⟩) ∧ nd.args.length ≤ args.length := by
  have ha0 := ha
  obtain ⟨aa, ac, rfl, hal, _⟩ := ha0
  refine fit16.calls rfl ?_
  unfold ir16
  (try simp only [go_sem, Nat.reduceAdd, Nat.reduceEqDiff, Nat.reduceLT, Nat.reduceLeDiff, Nat.reduceMul, reduceCtorEq, ↓reduceIte])
  refine e_bx rfl ?_
  intro w1 hb1 hm1 hs1
  have hb1 : w1.heap[w.heap.size]? = some (.cells #[I cl, I n, I kind, I num, .slice aa args.length ac] 49 (0, 0)) := hb1
  (try simp only [go_sem, Nat.reduceAdd, Nat.reduceEqDiff, Nat.reduceLT, Nat.reduceLeDiff, Nat.reduceMul, reduceCtorEq, ↓reduceIte])
  refine e_al ?_
  intro w2 hb2 hm2 hs2
  have hb2 : w2.heap[w1.heap.size]? = some (.cells #[I 0, I 0, .slice none 0 0] 38 (0, 0)) := hb2
  have hb12 := hm2.at hb1 (fun h => h)
  (try simp only [go_sem, Nat.reduceAdd, Nat.reduceEqDiff, Nat.reduceLT, Nat.reduceLeDiff, Nat.reduceMul, reduceCtorEq, ↓reduceIte, cell_of hb12])
  refine e_al ?_
  intro w3 hb3 hm3 hs3
  have hb3 : w3.heap[w2.heap.size]? = some (.cells #[I 0, I 0, .slice none 0 0] 38 (0, 0)) := hb3
  (try simp only [go_sem, Nat.reduceAdd, Nat.reduceEqDiff, Nat.reduceLT, Nat.reduceLeDiff, Nat.reduceMul, reduceCtorEq, ↓reduceIte])
  refine e_sta rfl rfl hb3 rfl rfl (by simp [Value.oneCell']) ?_
  intro w4 hb4 hm4 hs4
  have hm03 := (hm1.trans hm2).trans hm3
  have hm04 : Mod (fun _ => False) w w4 := hm03.step hm4 (fun x hx hlt => by omega)
  have hb14 := hm4.at (hm3.at hb12 (fun h => h)) (by omega)
  have hb24 := hm4.at (hm3.at hb2 (fun h => h)) (by omega)
  have e1 : w1.heap.size = w.heap.size + 1 := hs1
  have e2 : w2.heap.size = w.heap.size + 2 := by omega
  generalize hg2 : w.heap.size = b2 at *
  generalize hg4 : w1.heap.size = b4 at *
  generalize hg6 : w2.heap.size = b6 at *
  (try simp only [go_sem, Nat.reduceAdd, Nat.reduceEqDiff, Nat.reduceLT, Nat.reduceLeDiff, Nat.reduceMul, reduceCtorEq, ↓reduceIte])
  refine ir_loop (fun m ρ w' => ∃ k : Nat, m = args.length - k ∧ k ≤ args.length ∧ Mod (fun _ => False) w w' ∧ w'.heap[b2]? = some (.cells #[I cl, I n, I kind, I num, .slice aa args.length ac] 49 (0, 0)) ∧ w'.heap[b4]? = some (.cells #[I 0, I 0, .slice none 0 0] 38 (0, 0)) ∧
    (∃ u fp, w'.heap[b6]? = some (.cells #[I kind, I num, u] 38 (0, 0)) ∧ Own w' 3 1 u (((args.take k).map (whD xs)).map I) k fp ∧ (∀ b, fp = some b → b2 ≤ b)) ∧ (k = 0 ∨ xs ≠ []) ∧
    ρ = [(1, v), (2, .pointer (some ⟨b2, 0, none⟩)), (4, .pointer (some ⟨b4, 0, none⟩)), (6, .pointer (some ⟨b6, 0, none⟩)), (7, I k)]) args.length
    ⟨0, rfl, Nat.zero_le _, hm04, hb14, hb24, ⟨_, none, hb4, Own.nil _ _ _, fun b hb => by cases hb⟩, .inl rfl, rfl⟩ ?_
  clear hb1 hb2 hb12 hb3 hb4 hb14 hb24 hm1 hm2 hm3 hm4 hm03 hm04 hg4 hg6 hs1 hs2 hs3 hs4
  rintro m ρ w5 ⟨k, rfl, hk, hm, h2, h4, ⟨u, fp, h6, ho, hfp⟩, hkx, rfl⟩
  unfold ir16L1
  have f26 : fp ≠ some b6 := own_ne ho h6 (by decide)
  (try simp only [go_sem, Nat.reduceAdd, Nat.reduceEqDiff, Nat.reduceLT, Nat.reduceLeDiff, Nat.reduceMul, reduceCtorEq, ↓reduceIte, cell_of h2])
  refine ir_cond rfl (fun hc => ?_) (fun hc => ?_)
  · have hc' : k < args.length := by simpa using hc
    obtain ⟨_, _, he, _, hax⟩ := ha.mod hm (fun _ _ h => h)
    cases he
    obtain ⟨ad, rfl, had⟩ := hax k hc'
    have b1 : (0 : Int) ≤ k ∧ (k : Int) < args.length := by omega
    have hwk : IntKind.i64.wrap ((k : Int) + 1) = ((k + 1 : Nat) : Int) := by rw [wrap_in] <;> omega
    (try simp only [go_sem, Nat.reduceAdd, Nat.reduceEqDiff, Nat.reduceLT, Nat.reduceLeDiff, Nat.reduceMul, reduceCtorEq, ↓reduceIte, Nat.mul_one, Int.toNat_natCast, Int.toNat_zero, Nat.sub_zero, Nat.sub_self, cell_of h2, b1, had])
    refine e_call (by rfl) ?_
    refine (which_ok w5 v xs args[k] (hx.mod hm (fun _ _ h => h)) (hi _ (List.getElem_mem hc'))).mono ?_
    rintro r _ ⟨rfl, rfl⟩
    by_cases hxs : xs = []
    · have q1 : decide (whD xs args[k] < 0) = true := by simp [whD, hxs]
      have hk0 : k = 0 := hkx.resolve_right (fun h => h hxs)
      subst hk0
      obtain ⟨ua, uc, rfl, _, _⟩ := ho.val
      (try simp only [go_sem, Nat.reduceAdd, Nat.reduceEqDiff, Nat.reduceLT, Nat.reduceLeDiff, Nat.reduceMul, reduceCtorEq, ↓reduceIte, q1, ln_of h6 (off := 0) (n := 3) (by simp)])
      refine e_sta rfl rfl h4 rfl rfl (by simp [Value.oneCell']) ?_
      intro w6 hb6 hm6 hs6
      have hne : args ≠ [] := by intro hh; simp [hh] at hc'
      have hd : decide (args = [] ∨ xs ≠ []) = false := by simp [hne, hxs]
      (try simp only [go_sem, Nat.reduceAdd, Nat.reduceEqDiff, Nat.reduceLT, Nat.reduceLeDiff, Nat.reduceMul, reduceCtorEq, ↓reduceIte, ln_of hb6 (off := 0) (n := 3) (by simp), hd])
      have f24 : fp ≠ some b4 := own_ne ho h4 (by decide)
      refine ⟨hm.step hm6 (fun x hx hlt => by omega), _, ⟨kind, num, []⟩, fp, rfl, ?_, hfp, fun hh => ?_, Nat.zero_le _⟩
      · exact ho.mod hm6 (fun x hx hh => f24 (by rw [hx, hh]))
      · rcases hh with hh | hh
        · exact absurd hh hne
        · exact absurd hxs hh
    · have q1 : decide (whD xs args[k] < 0) = false := by
        have := hpos _ (whD_mem hxs args[k])
        simp; omega
      (try simp only [go_sem, Nat.reduceAdd, Nat.reduceEqDiff, Nat.reduceLT, Nat.reduceLeDiff, Nat.reduceMul, reduceCtorEq, ↓reduceIte, q1, cell_of h6])
      refine e_bs (by rfl) (by (try simp only [go_sem, Nat.reduceAdd, Nat.reduceEqDiff, Nat.reduceLT, Nat.reduceLeDiff, Nat.reduceMul, reduceCtorEq, ↓reduceIte]); rfl) ?_
      intro w6 hb6 hm6 hs6
      (try simp only [go_sem, Nat.reduceAdd, Nat.reduceEqDiff, Nat.reduceLT, Nat.reduceLeDiff, Nat.reduceMul, reduceCtorEq, ↓reduceIte])
      refine e_ap (m := 1) (news := [I (whD xs args[k])]) rfl (ho.mod hm6 (fun _ _ h => h)) rfl (fun h => by cases h) (rd_block hb6) (by simp [Value.oneCell']) rfl (by omega) (by omega) ?_
      intro v' w7 fp7 ho7 hm7 hf7
      have h66 := hm6.at h6 (fun h => h)
      have h67 := hm7.at h66 (fun hh => f26 hh)
      (try simp only [go_sem, Nat.reduceAdd, Nat.reduceEqDiff, Nat.reduceLT, Nat.reduceLeDiff, Nat.reduceMul, reduceCtorEq, ↓reduceIte])
      refine e_st1 (off := 2) rfl rfl h67 (by obtain ⟨x, c, rfl, _⟩ := ho7.val; rfl) (by simp) ?_
      intro w8 hb8 hm8 hs8
      have l6 := lt_of_heap h66
      have l2 := lt_of_heap (hm6.at h2 (fun h => h))
      have l4 := lt_of_heap (hm6.at h4 (fun h => h))
      have s := hm.size
      have s6 := hm6.size
      have f2 : fp ≠ some b2 := own_ne ho h2 (by decide)
      have f4 : fp ≠ some b4 := own_ne ho h4 (by decide)
      have hf7' : ∀ x, fp7 = some x → b2 ≤ x ∧ x ≠ b6 := fun x hx => by
        rcases hf7 x hx with h | h
        · exact ⟨hfp x h, fun hh => f26 (by rw [h, hh])⟩
        · exact ⟨by omega, by omega⟩
      (try simp only [go_sem, Nat.reduceAdd, Nat.reduceEqDiff, Nat.reduceLT, Nat.reduceLeDiff, Nat.reduceMul, reduceCtorEq, ↓reduceIte, hwk])
      refine ⟨_, ?_, k + 1, rfl, by omega, ((hm.trans hm6).step hm7 (fun x hx hlt => by have := hfp x hx; omega)).step hm8 (fun x hx hlt => by omega), ?_, ?_, ⟨v', fp7, hb8, ?_, fun x hx => (hf7' x hx).1⟩, .inr hxs, rfl⟩
      · omega
      · exact hm8.at (hm7.at (hm6.at h2 (fun h => h)) f2) (by omega)
      · exact hm8.at (hm7.at (hm6.at h4 (fun h => h)) f4) (by omega)
      · have e : ((args.take (k + 1)).map (whD xs)).map I = ((args.take k).map (whD xs)).map I ++ [I (whD xs args[k])] := by
          rw [List.take_succ_eq_append_getElem hc', List.map_append, List.map_append]; rfl
        rw [e]
        exact ho7.mod hm8 (fun x hx hh => (hf7' x hx).2 hh)
  · have hk' : k = args.length := by simp at hc; omega
    subst hk'
    obtain ⟨ua, uc, rfl, _, _⟩ := ho.val
    (try simp only [go_sem, Nat.reduceAdd, Nat.reduceEqDiff, Nat.reduceLT, Nat.reduceLeDiff, Nat.reduceMul, reduceCtorEq, ↓reduceIte, ln_of h6 (off := 0) (n := 3) (by simp)])
    refine e_sta rfl rfl h4 rfl rfl (by simp [Value.oneCell']) ?_
    intro w6 hb6 hm6 hs6
    have hok : args = [] ∨ xs ≠ [] := hkx.imp (fun h => List.eq_nil_of_length_eq_zero h) (fun h => h)
    have hd : decide (args = [] ∨ xs ≠ []) = true := by simpa using hok
    have f4 : fp ≠ some b4 := own_ne ho h4 (by decide)
    rw [List.take_length] at ho
    (try simp only [go_sem, Nat.reduceAdd, Nat.reduceEqDiff, Nat.reduceLT, Nat.reduceLeDiff, Nat.reduceMul, reduceCtorEq, ↓reduceIte, ln_of hb6 (off := 0) (n := 3) (by simp), hd])
    refine ⟨hm.step hm6 (fun x hx hlt => by omega), _, ⟨kind, num, args.map (whD xs)⟩, fp, rfl, ?_, hfp, fun _ => rfl, by simp⟩
    have := ho.mod hm6 (fun x hx hh => f4 (by rw [hx, hh]))
    simpa using this
end Go.Proofs.Ytnimaifmcejkcaa
end

section
set_option linter.unusedSimpArgs false
set_option linter.unusedVariables false
set_option maxRecDepth 100000
namespace Go.Proofs.Ytnimaifmcejkcaa
open Go Go.W

/-- What an environment holds. -/
def Has (ρ : Env) : List (Nat × Value) → Prop
  | [] => True
  | (k, v) :: l => ρ.get k = some v ∧ Has ρ l

/-- The marks: of what was met in both. -/
structure MK (R : Nat → Nat → Prop) (ns ms : List Nd) (tl fl : List Int) : Prop where
  l1 : tl.length = ns.length
  l2 : fl.length = ms.length
  a : ∀ p : Nat, tl.getD p 0 ≠ 0 → ∃ q : Nat, tl.getD p 0 = (q : Int) + 1 ∧ R p q
  b : ∀ q : Nat, fl.getD q 0 ≠ 0 → ∃ p : Nat, fl.getD q 0 = (p : Int) + 1 ∧ R p q
  c : ∀ p q : Nat, R p q → (tl.getD p 0 = 0 ↔ fl.getD q 0 = 0)
theorem getD_setI (l : List Int) (p i : Nat) (v : Int) (hp : p < l.length) : (l.set p v).getD i 0 = if i = p then v else l.getD i 0 := by
  rw [List.getD_eq_getElem?_getD, List.getD_eq_getElem?_getD, List.getElem?_set]
  by_cases h : p = i
  · subst h; simp [hp]
  · rw [if_neg h, if_neg (fun hh => h hh.symm)]
theorem getD_rep (n i : Nat) : (List.replicate n (0 : Int)).getD i 0 = 0 := by
  simp [List.getElem?_replicate]; split <;> rfl
theorem mk_start (R : Nat → Nat → Prop) (ns ms : List Nd) : MK R ns ms (List.replicate ns.length 0) (List.replicate ms.length 0) :=
  ⟨by simp, by simp, fun p h => absurd (getD_rep _ _) h, fun q h => absurd (getD_rep _ _) h, fun p q _ => by rw [getD_rep, getD_rep]⟩
theorem mk_set {R : Nat → Nat → Prop} {ns ms : List Nd} {tl fl : List Int} (h : MK R ns ms tl fl) (hi : IsoR ns ms R) {p q : Nat} (hr : R p q) : MK R ns ms (tl.set p ((q : Int) + 1)) (fl.set q ((p : Int) + 1)) := by
  obtain ⟨d1, d2, _, _⟩ := hi.dom _ _ hr
  have g1 := fun i => getD_setI tl p i ((q : Int) + 1) (by rw [h.l1]; exact d1)
  have g2 := fun i => getD_setI fl q i ((p : Int) + 1) (by rw [h.l2]; exact d2)
  refine ⟨by rw [List.length_set]; exact h.l1, by rw [List.length_set]; exact h.l2, fun i hh => ?_, fun i hh => ?_, fun i j hij => ?_⟩
  · rw [g1] at hh ⊢
    by_cases e : i = p
    · subst e; rw [if_pos rfl]; exact ⟨q, rfl, hr⟩
    · rw [if_neg e] at hh ⊢; exact h.a i hh
  · rw [g2] at hh ⊢
    by_cases e : i = q
    · subst e; rw [if_pos rfl]; exact ⟨p, rfl, hr⟩
    · rw [if_neg e] at hh ⊢; exact h.b i hh
  · rw [g1, g2]
    by_cases e : i = p
    · subst e
      have := hi.fn _ _ _ hij hr
      subst this
      rw [if_pos rfl, if_pos rfl]; omega
    · have e' : j ≠ q := fun hh => e (by subst hh; exact hi.inj _ _ _ hij hr)
      rw [if_neg e, if_neg e']; exact h.c i j hij
def unmet (l : List Int) : Nat := l.countP (fun x => x == 0)
theorem unmet_set : ∀ (l : List Int) (p : Nat) (v : Int), p < l.length → l.getD p 0 = 0 → v ≠ 0 → unmet (l.set p v) + 1 = unmet l := by
  intro l
  induction l with
  | nil => intro p v hp; simp at hp
  | cons x l ih =>
    intro p v hp h0 hv
    cases p with
    | zero =>
      have : x = 0 := by simpa using h0
      subst this
      simp [unmet, List.countP_cons, hv]
    | succ p =>
      have := ih p v (by simpa using hp) (by simpa using h0) hv
      simp only [unmet, List.set_cons_succ, List.countP_cons] at this ⊢
      omega

/-- What is still to be looked at, and the marks, in memory. -/
structure TD (w0 w : World) (vt vu : Value) (ts us : List Int) (ft fu : Option Nat) (b13 b14 : Nat) (tl fl : List Int) : Prop where
  ot : Own w 3 1 vt (ts.map I) ts.length ft
  ou : Own w 3 1 vu (us.map I) us.length fu
  to : w.heap[b13]? = some (.cells (tl.map I).toArray 3 (0, 0))
  fr : w.heap[b14]? = some (.cells (fl.map I).toArray 3 (0, 0))
  t3 : ft ≠ some b13 ∧ ft ≠ some b14
  u3 : fu ≠ some b13 ∧ fu ≠ some b14
  tu : ∀ x, ft = some x → fu ≠ some x
  bb : b13 ≠ b14
  new : (∀ x, ft = some x → w0.heap.size ≤ x) ∧ (∀ x, fu = some x → w0.heap.size ≤ x) ∧ w0.heap.size ≤ b13 ∧ w0.heap.size ≤ b14
theorem td_mod {w0 w w' : World} {vt vu : Value} {ts us : List Int} {ft fu : Option Nat} {b13 b14 : Nat} {tl fl : List Int} {S : Nat → Prop} (h : TD w0 w vt vu ts us ft fu b13 b14 tl fl) (hm : Mod S w w') (hs : ∀ x, S x → w.heap.size ≤ x) : TD w0 w' vt vu ts us ft fu b13 b14 tl fl :=
  ⟨h.ot.mod hm (fun x hx hh => by have := hs x hh; have := h.ot.lt hx; omega), h.ou.mod hm (fun x hx hh => by have := hs x hh; have := h.ou.lt hx; omega), hm.at h.to (fun hh => by have := hs _ hh; have := lt_of_heap h.to; omega), hm.at h.fr (fun hh => by have := hs _ hh; have := lt_of_heap h.fr; omega), h.t3, h.u3, h.tu, h.bb, h.new⟩
theorem own_cutI {w : World} {b n c k : Nat} {xs : List Value} {fp : Option Nat} (h : Own w 3 1 (.slice (some ⟨b, 0, none⟩) n c) xs n fp) (hk : k ≤ n) : Own w 3 1 (.slice (some ⟨b, 0, none⟩) k c) (xs.take k) k fp := by
  have hl := h.1
  refine ⟨by rw [List.length_take]; omega, ?_⟩
  rcases h.2 with ⟨h1, _⟩ | ⟨b', c', sp, h1, h2, h3, h4, h5⟩
  · cases h1
  · cases h1
    refine .inr ⟨b, c, xs.drop k ++ sp, rfl, h2, ?_, ?_, by omega⟩
    · rw [← List.append_assoc, List.take_append_drop]; exact h3
    · rw [← List.append_assoc, List.take_append_drop]; exact h4

theorem td_pusht {w0 w w' : World} {vt vu v' : Value} {ts us : List Int} {ft fu fp' : Option Nat} {b13 b14 : Nat} {tl fl : List Int} {a : Int} (h : TD w0 w vt vu ts us ft fu b13 b14 tl fl) (ho : Own w' 3 1 v' (ts.map I ++ [I a]) (ts.length + 1) fp')
    (hm : Mod (fun b => ft = some b) w w') (hf : ∀ b, fp' = some b → ft = some b ∨ b = w.heap.size ∧ b < w'.heap.size) (hs : w0.heap.size ≤ w.heap.size) : TD w0 w' v' vu (ts ++ [a]) us fp' fu b13 b14 tl fl := by
  have l1 := lt_of_heap h.to
  have l2 := lt_of_heap h.fr
  refine ⟨by rw [List.map_append, List.length_append]; exact ho, h.ou.mod hm (fun x hx hh => h.tu x hh hx), hm.at h.to h.t3.1, hm.at h.fr h.t3.2, ⟨fun hh => ?_, fun hh => ?_⟩, h.u3, fun x hx hh => ?_, h.bb, fun x hx => ?_, h.new.2.1, h.new.2.2.1, h.new.2.2.2⟩
  · rcases hf _ hh with e | e
    · exact h.t3.1 e
    · omega
  · rcases hf _ hh with e | e
    · exact h.t3.2 e
    · omega
  · rcases hf _ hx with e | e
    · exact h.tu x e hh
    · have := h.ou.lt hh; omega
  · rcases hf _ hx with e | e
    · exact h.new.1 x e
    · omega
theorem td_swap {w0 w : World} {vt vu : Value} {ts us : List Int} {ft fu : Option Nat} {b13 b14 : Nat} {tl fl : List Int} (h : TD w0 w vt vu ts us ft fu b13 b14 tl fl) : TD w0 w vu vt us ts fu ft b13 b14 tl fl :=
  ⟨h.ou, h.ot, h.to, h.fr, h.u3, h.t3, fun x hx hh => h.tu x hh hx, h.bb, h.new.2.1, h.new.1, h.new.2.2.1, h.new.2.2.2⟩

/-- Pairs of places that stand for one thing. -/
def Pairs (R : Nat → Nat → Prop) (ns ms : List Nd) (ts us : List Int) : Prop := okPl ns.length ts = true ∧ okPl ms.length us = true ∧ Rooted ns ms R ts us
theorem pairs_app {R : Nat → Nat → Prop} {ns ms : List Nd} {ts us : List Int} (h : Pairs R ns ms ts us) {a b : Int} (ha : 0 ≤ a ∧ a < ns.length) (hb : 0 ≤ b ∧ b < ms.length) (hr : R (over ns a.toNat) (over ms b.toNat)) : Pairs R ns ms (ts ++ [a]) (us ++ [b]) := by
  obtain ⟨h1, h2, h3, h4⟩ := h
  refine ⟨?_, ?_, by simp [h3], fun i x y hx hy => ?_⟩
  · simp only [okPl, List.all_append, List.all_cons, List.all_nil, Bool.and_true, Bool.and_eq_true, decide_eq_true_eq] at h1 ⊢; exact ⟨h1, ha⟩
  · simp only [okPl, List.all_append, List.all_cons, List.all_nil, Bool.and_true, Bool.and_eq_true, decide_eq_true_eq] at h2 ⊢; exact ⟨h2, hb⟩
  · rcases Nat.lt_or_ge i ts.length with hi | hi
    · rw [List.getElem?_append_left hi] at hx
      rw [List.getElem?_append_left (by rw [← h3]; exact hi)] at hy
      exact h4 i x y hx hy
    · have hl := (List.getElem?_eq_some_iff.1 hx).1
      simp at hl
      obtain rfl : i = ts.length := by omega
      simp at hx
      rw [h3] at hy
      simp at hy
      subst hx; subst hy; exact hr
theorem pairs_take {R : Nat → Nat → Prop} {ns ms : List Nd} {ts us : List Int} (h : Pairs R ns ms ts us) (k : Nat) : Pairs R ns ms (ts.take k) (us.take k) := by
  obtain ⟨h1, h2, h3, h4⟩ := h
  have tk : ∀ {n : Nat} {l : List Int}, okPl n l = true → okPl n (l.take k) = true := by
    intro n l hh
    rw [okPl, List.all_eq_true] at hh ⊢
    exact fun x hx => hh x (List.mem_of_mem_take hx)
  refine ⟨tk h1, tk h2, by simp [h3], fun i x y hx hy => ?_⟩
  rw [List.getElem?_take] at hx hy
  split at hx
  · rename_i hik
    rw [if_pos hik] at hy
    exact h4 i x y hx hy
  · cases hx
end Go.Proofs.Ytnimaifmcejkcaa
end

section
set_option linter.unusedSimpArgs false
set_option linter.unusedVariables false
set_option maxRecDepth 100000
namespace Go.Proofs.Ytnimaifmcejkcaa
open Go Go.W

/-- A node got, in a block of its own. -/
theorem td_pos {w0 w : World} {vt vu : Value} {ts us : List Int} {ft fu : Option Nat} {b13 b14 : Nat} {tl fl : List Int} (h : TD w0 w vt vu ts us ft fu b13 b14 tl fl) (hl : ts.length = us.length) (hp : 0 < ts.length) :
    ∃ bt ct bu cu, vt = .slice (some ⟨bt, 0, none⟩) ts.length ct ∧ vu = .slice (some ⟨bu, 0, none⟩) us.length cu ∧ ft = some bt ∧ fu = some bu := by
  obtain ⟨bt, ct, _, h1, h2, _⟩ := h.ot.pos hp
  obtain ⟨bu, cu, _, h3, h4, _⟩ := h.ou.pos (by omega)
  exact ⟨bt, ct, bu, cu, h1, h3, h2, h4⟩
theorem td_cut {w0 w : World} {bt ct bu cu : Nat} {ts us : List Int} {ft fu : Option Nat} {b13 b14 : Nat} {tl fl : List Int} (h : TD w0 w (.slice (some ⟨bt, 0, none⟩) ts.length ct) (.slice (some ⟨bu, 0, none⟩) us.length cu) ts us ft fu b13 b14 tl fl) (hl : ts.length = us.length) (k : Nat) (hk : k ≤ ts.length) :
    TD w0 w (.slice (some ⟨bt, 0, none⟩) k ct) (.slice (some ⟨bu, 0, none⟩) k cu) (ts.take k) (us.take k) ft fu b13 b14 tl fl := by
  refine ⟨?_, ?_, h.to, h.fr, h.t3, h.u3, h.tu, h.bb, h.new⟩
  · have := own_cutI h.ot hk
    rw [← List.map_take] at this
    have e : (ts.take k).length = k := by simp; omega
    rw [e]; exact this
  · have := own_cutI h.ou (show k ≤ us.length by omega)
    rw [← List.map_take] at this
    have e : (us.take k).length = k := by simp; omega
    rw [e]; exact this

set_option maxHeartbeats 3200000 in
theorem alike_ok (w : World) (a h : Nat) (size : Int) (ns ms : List Nd) (hA : GRd w a ns) (hH : HRd w h ms) (hna : (ns.length : Int) ≤ size) (hnh : (ms.length : Int) ≤ size) (vx vy : Value) (xs ys : List Int) (hx : Ints w vx xs) (hy : Ints w vy ys) (hox : okPl ns.length xs = true) (hoy : okPl ms.length ys = true) (hal : Alike ns xs ms ys) (hxl : xs.length + 16777216 ≤ 17592186044416) :
    CallsR Try.prog 27 [I size, .pointer (some ⟨a, 0, none⟩), .pointer (some ⟨h, 0, none⟩), vx, vy] w fun r w' => Mod (fun _ => False) w w' ∧ r = .bool true := by
  have hwA := hA.2.1
  have hwH := hH.2.1
  have hlA := hA.2.2
  have hlH := hH.2.2
  obtain ⟨R, iso, hroot⟩ := hal
  have hyl : ys.length = xs.length := hroot.1.symm
  refine fit27.calls rfl ?_
  unfold ir27
  (try simp only [go_sem, Nat.reduceAdd, Nat.reduceEqDiff, Nat.reduceLT, Nat.reduceLeDiff, Nat.reduceMul, reduceCtorEq, ↓reduceIte])
  refine e_call (by rfl) ?_
  refine (gused_n hA).mono ?_
  rintro r _ ⟨rfl, rfl⟩
  (try simp only [go_sem, Nat.reduceAdd, Nat.reduceEqDiff, Nat.reduceLT, Nat.reduceLeDiff, Nat.reduceMul, reduceCtorEq, ↓reduceIte])
  refine e_call (by rfl) ?_
  refine (hused_n hH).mono ?_
  rintro r _ ⟨rfl, rfl⟩
  have q1 : decide ((ns.length : Int) < 0) = false := by simp
  have q2 : decide ((ns.length : Int) > size) = false := by simp; omega
  have q3 : decide ((ms.length : Int) < 0) = false := by simp
  have q4 : decide ((ms.length : Int) > size) = false := by simp; omega
  (try simp only [go_sem, Nat.reduceAdd, Nat.reduceEqDiff, Nat.reduceLT, Nat.reduceLeDiff, Nat.reduceMul, reduceCtorEq, ↓reduceIte, q1, q2, q3, q4])
  refine e_ms1 (n := ns.length) rfl (by omega) (by omega) ?_
  intro w1 hb1 hm1 hs1
  (try simp only [go_sem, Nat.reduceAdd, Nat.reduceEqDiff, Nat.reduceLT, Nat.reduceLeDiff, Nat.reduceMul, reduceCtorEq, ↓reduceIte])
  refine e_ms1 (n := ms.length) rfl (by omega) (by omega) ?_
  intro w2 hb2 hm2 hs2
  have hm02 := hm1.trans hm2
  (try simp only [go_sem, Nat.reduceAdd, Nat.reduceEqDiff, Nat.reduceLT, Nat.reduceLeDiff, Nat.reduceMul, reduceCtorEq, ↓reduceIte])
  refine e_call (by rfl) ?_
  refine (lcopied_ok w2 vx xs (hx.mod hm02 (fun _ _ h => h))).mono ?_
  rintro vt w3 ⟨hm3, ft, ot, nt⟩
  have hm03 := hm02.trans hm3
  (try simp only [go_sem, Nat.reduceAdd, Nat.reduceEqDiff, Nat.reduceLT, Nat.reduceLeDiff, Nat.reduceMul, reduceCtorEq, ↓reduceIte])
  refine e_call (by rfl) ?_
  refine (lcopied_ok w3 vy ys (hy.mod hm03 (fun _ _ h => h))).mono ?_
  rintro vu w4 ⟨hm4, fu, ou, nu⟩
  have s3 := hm3.size
  have hT0 : TD w w4 vt vu xs ys ft fu w.heap.size w1.heap.size (List.replicate ns.length 0) (List.replicate ms.length 0) := by
    refine ⟨ot.mod hm4 (fun _ _ h => h), ou, ?_, ?_, ?_, ?_, ?_, by omega, ?_⟩
    · have := hm4.at (hm3.at (hm2.at hb1 (fun h => h)) (fun h => h)) (fun h => h)
      rw [List.map_replicate]; exact this
    · have := hm4.at (hm3.at hb2 (fun h => h)) (fun h => h)
      rw [List.map_replicate]; exact this
    · constructor <;> (intro hh; have := nt _ hh; omega)
    · constructor <;> (intro hh; have := nu _ hh; omega)
    · intro x hx hh
      have := nu _ hh
      have := ot.lt hx
      omega
    · exact ⟨fun x hx => by have := nt x hx; omega, fun x hx => by have := nu x hx; omega, Nat.le_refl _, by omega⟩
  have hm04 := hm03.trans hm4
  generalize w.heap.size = b13 at hT0 ⊢
  generalize w1.heap.size = b14 at hT0 ⊢
  clear hb1 hb2 hm1 hm2 hm3 hm4 hm02 hm03 ot ou nt nu s3 hs1 hs2
  (try simp only [go_sem, Nat.reduceAdd, Nat.reduceEqDiff, Nat.reduceLT, Nat.reduceLeDiff, Nat.reduceMul, reduceCtorEq, ↓reduceIte])
  refine ir_loop (fun m ρ w' => ∃ (vt vu : Value) (ts us : List Int) (ft fu : Option Nat) (tl fl : List Int), m = ts.length + 9 * unmet tl ∧ ts.length + 9 * unmet tl ≤ xs.length + 9 * ns.length ∧ Mod (fun _ => False) w w' ∧ TD w w' vt vu ts us ft fu b13 b14 tl fl ∧ MK R ns ms tl fl ∧ Pairs R ns ms ts us ∧
    Has ρ [(1, .pointer (some ⟨a, 0, none⟩)), (2, .pointer (some ⟨h, 0, none⟩)), (13, .slice (some ⟨b13, 0, none⟩) ns.length ns.length), (14, .slice (some ⟨b14, 0, none⟩) ms.length ms.length), (15, vt), (16, vu)]) (xs.length + 9 * ns.length)
    ⟨vt, vu, xs, ys, ft, fu, _, _, ?_, ?_, hm04, hT0, mk_start R ns ms, ⟨hox, hoy, hroot⟩, rfl, rfl, rfl, rfl, rfl, rfl, trivial⟩ ?_
  · simp [unmet, List.countP_replicate]
  · simp [unmet, List.countP_replicate]
  clear hT0 hm04
  rintro m ρ w5 ⟨vt, vu, ts, us, ft, fu, tl, fl, rfl, hle, hm, hT, hM, hP, r1, r2, r13, r14, r15, r16, _⟩
  unfold ir27L2
  have hlen := hP.2.2.1
  obtain ⟨xt, ct, rfl, hct, _⟩ := hT.ot.val
  obtain ⟨xu, cu, rfl, hcu, _⟩ := hT.ou.val
  (try simp only [go_sem, Nat.reduceAdd, Nat.reduceEqDiff, Nat.reduceLT, Nat.reduceLeDiff, Nat.reduceMul, reduceCtorEq, ↓reduceIte, r1, r2, r13, r14, r15, r16])
  refine ir_cond rfl (fun hc => ?_) (fun hc => ?_)
  rotate_left
  · (try simp only [go_sem, Nat.reduceAdd, Nat.reduceEqDiff, Nat.reduceLT, Nat.reduceLeDiff, Nat.reduceMul, reduceCtorEq, ↓reduceIte])
    exact hm
  have hpos : 0 < ts.length := by simpa using hc
  obtain ⟨bt, ct', bu, cu', et, eu, ef, eg⟩ := td_pos hT hlen hpos
  simp only [Value.slice.injEq] at et eu
  obtain ⟨rfl, _, rfl⟩ := et
  obtain ⟨rfl, _, rfl⟩ := eu
  obtain ⟨k, hk⟩ : ∃ k, ts.length = k + 1 := ⟨ts.length - 1, by omega⟩
  have hk2 : us.length = k + 1 := by omega
  have hwk : IntKind.i64.wrap ((ts.length : Int) - 1) = (k : Int) := by rw [hk, wrap_in] <;> omega
  have b1 : (0 : Int) ≤ k ∧ (k : Int) < ts.length := by omega
  have b2 : (0 : Int) ≤ k ∧ (k : Int) < us.length := by omega
  obtain ⟨p, ep⟩ : ∃ p, ts[k]? = some p := ⟨ts[k], List.getElem?_eq_getElem (by omega)⟩
  obtain ⟨q, eq⟩ : ∃ q, us[k]? = some q := ⟨us[k], List.getElem?_eq_getElem (by omega)⟩
  have hp0 := okPl_mem hP.1 (List.mem_of_getElem? ep)
  have hq0 := okPl_mem hP.2.1 (List.mem_of_getElem? eq)
  have hR := hP.2.2.2 k p q ep eq
  obtain ⟨pn, rfl⟩ := Int.eq_ofNat_of_zero_le hp0.1
  obtain ⟨qn, rfl⟩ := Int.eq_ofNat_of_zero_le hq0.1
  rw [Int.toNat_natCast, Int.toNat_natCast] at hR
  have hpn : pn < ns.length := by omega
  have hqn : qn < ms.length := by omega
  obtain ⟨_, _, e1, cp⟩ := own_at hT.ot (i := k) (u := I pn) (by omega) (by rw [List.getElem?_map, ep]; rfl)
  obtain ⟨_, _, e2, cq⟩ := own_at hT.ou (i := k) (u := I qn) (by omega) (by rw [List.getElem?_map, eq]; rfl)
  cases e1
  cases e2
  have hkind := (iso.nd _ _ hR).1
  have hindR : ind ns (over ns pn) = ind ms (over ms qn) := ind_eq hkind
  (try simp only [go_sem, Nat.reduceAdd, Nat.reduceEqDiff, Nat.reduceLT, Nat.reduceLeDiff, Nat.reduceMul, reduceCtorEq, ↓reduceIte, Nat.mul_one, Int.toNat_natCast, Int.toNat_zero, Nat.sub_zero, Nat.sub_self, hwk, b1, cp])
  refine e_call (by rfl) ?_
  refine (gover_ok w5 a ns (gst_mod hA hm) pn hpn).mono ?_
  rintro r w6 ⟨hm6, pp, rfl, hpp, p1, p2⟩
  have hm06 := hm.trans hm6
  have cq6 := hm6.cell cq (fun h => h)
  (try simp only [go_sem, Nat.reduceAdd, Nat.reduceEqDiff, Nat.reduceLT, Nat.reduceLeDiff, Nat.reduceMul, reduceCtorEq, ↓reduceIte, Nat.mul_one, Int.toNat_natCast, Int.toNat_zero, Nat.sub_zero, Nat.sub_self, hwk, b2, cq6])
  refine e_call (by rfl) ?_
  refine (hover_ok w6 h ms (hst_mod hH hm06) qn hqn).mono ?_
  rintro r w7 ⟨hm7, qq, rfl, hqq, q1', q2'⟩
  have hm07 := hm06.trans hm7
  have hT7 := td_mod (td_mod hT hm6 (fun _ h => h.elim)) hm7 (fun _ h => h.elim)
  have hT8 := td_cut hT7 hlen k (by omega)
  have hkt : (k : Int) ≤ (ct : Int) := by omega
  have hku : (k : Int) ≤ (cu : Int) := by omega
  have qb : ∀ b : Bool, (b != b) = false := by intro b; cases b <;> rfl
  have qc : ∀ b : Bool, (b == b) = true := by intro b; cases b <;> rfl
  (try simp only [go_sem, Nat.reduceAdd, Nat.reduceEqDiff, Nat.reduceLT, Nat.reduceLeDiff, Nat.reduceMul, reduceCtorEq, ↓reduceIte, Nat.mul_one, Int.toNat_natCast, Int.toNat_zero, Nat.sub_zero, Nat.sub_self, hindR, hkt, hku, ite_self, qb, qc, Bool.not_true])
  refine ir_then (fun ρ w' => Mod (fun _ => False) w w' ∧ TD w w' (.slice (some ⟨bt, 0, none⟩) k ct) (.slice (some ⟨bu, 0, none⟩) k cu) (ts.take k) (us.take k) ft fu b13 b14 tl fl ∧ ρ.get 1 = some (.pointer (some ⟨a, 0, none⟩)) ∧ ρ.get 2 = some (.pointer (some ⟨h, 0, none⟩)) ∧
    ρ.get 13 = some (.slice (some ⟨b13, 0, none⟩) ns.length ns.length) ∧ ρ.get 14 = some (.slice (some ⟨b14, 0, none⟩) ms.length ms.length) ∧ ρ.get 15 = some (.slice (some ⟨bt, 0, none⟩) k ct) ∧ ρ.get 16 = some (.slice (some ⟨bu, 0, none⟩) k cu) ∧
    ρ.get 18 = some (I (over ns pn)) ∧ ρ.get 19 = some (.bool (ind ns (over ns pn))) ∧ ρ.get 20 = some (I (over ms qn))) ?_ ?_
  · refine ir_cond rfl (fun hi => ?_) (fun hi => ?_)
    · have hi' : ind ns (over ns pn) = true := by rw [hindR]; exact hi
      obtain ⟨m1, hm1, rfl⟩ := p2 hi'
      obtain ⟨m2, hm2, rfl⟩ := q2' hi
      (try simp only [go_sem, Nat.reduceAdd, Nat.reduceEqDiff, Nat.reduceLT, Nat.reduceLeDiff, Nat.reduceMul, reduceCtorEq, ↓reduceIte])
      refine e_call (by rfl) ?_
      refine (gleast_ok w7 a ns (gst_mod hA hm07) pn hpn hi' m1 hm1).mono ?_
      rintro r w8 ⟨hm8, rfl⟩
      (try simp only [go_sem, Nat.reduceAdd, Nat.reduceEqDiff, Nat.reduceLT, Nat.reduceLeDiff, Nat.reduceMul, reduceCtorEq, ↓reduceIte])
      refine e_call (by rfl) ?_
      refine (hleast_ok w8 h ms (hst_mod hH (hm07.trans hm8)) qn hqn hi m2 hm2).mono ?_
      rintro r w9 ⟨hm9, rfl⟩
      (try simp only [go_sem, Nat.reduceAdd, Nat.reduceEqDiff, Nat.reduceLT, Nat.reduceLeDiff, Nat.reduceMul, reduceCtorEq, ↓reduceIte, hindR])
      exact ⟨(hm07.trans hm8).trans hm9, td_mod (td_mod hT8 hm8 (fun _ h => h.elim)) hm9 (fun _ h => h.elim)⟩
    · have hi' : ind ns (over ns pn) = false := by rw [hindR]; exact hi
      obtain rfl := p1 hi'
      obtain rfl := q1' hi
      (try simp only [go_sem, Nat.reduceAdd, Nat.reduceEqDiff, Nat.reduceLT, Nat.reduceLeDiff, Nat.reduceMul, reduceCtorEq, ↓reduceIte, hindR])
      exact ⟨hm07, hT8⟩
  rintro ρ w8 ⟨hm8, hT9, r1, r2, r13, r14, r15, r16, r18, r19, r20⟩
  obtain ⟨d1, d2, d3, d4⟩ := iso.dom _ _ hR
  clear p1 p2 q1' q2' cp cq cq6 hm6 hm06 hm7 hm07 hT7 hT8 hT hpp hqq
  generalize hX : over ns pn = x at *
  generalize hY : over ms qn = y at *
  have z1 : decide ((x : Int) < 0) = false := by simp
  have z2 : decide ((x : Int) ≥ ns.length) = false := by simp; omega
  have z3 : decide ((y : Int) < 0) = false := by simp
  have z4 : decide ((y : Int) ≥ ms.length) = false := by simp; omega
  have bx : (0 : Int) ≤ x ∧ (x : Int) < ns.length := by omega
  have by' : (0 : Int) ≤ y ∧ (y : Int) < ms.length := by omega
  have ct1 : w8.cell? ⟨b13, x, none⟩ = some (I (tl.getD x 0)) := by
    rw [cell_of hT9.to]
    have : x < tl.length := by rw [hM.l1]; exact d1
    simp [List.getD_eq_getElem?_getD, List.getElem?_eq_getElem this]
  have cf1 : w8.cell? ⟨b14, y, none⟩ = some (I (fl.getD y 0)) := by
    rw [cell_of hT9.fr]
    have : y < fl.length := by rw [hM.l2]; exact d2
    simp [List.getD_eq_getElem?_getD, List.getElem?_eq_getElem this]
  have wx : IntKind.i64.wrap ((x : Int) + 1) = (x : Int) + 1 := by rw [wrap_in] <;> omega
  have wy : IntKind.i64.wrap ((y : Int) + 1) = (y : Int) + 1 := by rw [wrap_in] <;> omega
  have step : ∀ {w' : World} {ρ : Env} {ts' us' tl' fl' : List Int} {vt' vu' : Value} {ft' fu' : Option Nat}, ts'.length + 9 * unmet tl' < ts.length + 9 * unmet tl → Mod (fun _ => False) w w' → TD w w' vt' vu' ts' us' ft' fu' b13 b14 tl' fl' → MK R ns ms tl' fl' → Pairs R ns ms ts' us' →
      Has ρ [(1, .pointer (some ⟨a, 0, none⟩)), (2, .pointer (some ⟨h, 0, none⟩)), (13, .slice (some ⟨b13, 0, none⟩) ns.length ns.length), (14, .slice (some ⟨b14, 0, none⟩) ms.length ms.length), (15, vt'), (16, vu')] →
      ∃ m, m < ts.length + 9 * unmet tl ∧ ∃ vt vu ts us ft fu tl fl, m = ts.length + 9 * unmet tl ∧ ts.length + 9 * unmet tl ≤ xs.length + 9 * ns.length ∧ Mod (fun _ => False) w w' ∧ TD w w' vt vu ts us ft fu b13 b14 tl fl ∧ MK R ns ms tl fl ∧ Pairs R ns ms ts us ∧
        Has ρ [(1, .pointer (some ⟨a, 0, none⟩)), (2, .pointer (some ⟨h, 0, none⟩)), (13, .slice (some ⟨b13, 0, none⟩) ns.length ns.length), (14, .slice (some ⟨b14, 0, none⟩) ms.length ms.length), (15, vt), (16, vu)] :=
    fun h1 h2 h3 h4 h5 h6 => ⟨_, h1, _, _, _, _, _, _, _, _, rfl, by omega, h2, h3, h4, h5, h6⟩
  have hPk := pairs_take hP k
  have hkl : (ts.take k).length = k := by simp; omega
  have hkl2 : (us.take k).length = k := by simp; omega
  by_cases hmet : tl.getD x 0 = 0
  rotate_left
  · obtain ⟨y', e1, e2⟩ := hM.a x hmet
    obtain rfl := iso.fn _ _ _ e2 hR
    obtain ⟨x', f1, f2⟩ := hM.b y' (fun hh => hmet ((hM.c _ _ hR).2 hh))
    obtain rfl := iso.inj _ _ _ f2 hR
    rw [e1] at ct1
    rw [f1] at cf1
    have n1 : (((y' : Int) + 1) != 0) = true := by simp; omega
    have n2 : (((y' : Int) + 1) != ((y' : Int) + 1)) = false := by simp
    have n3 : (((x' : Int) + 1) != ((x' : Int) + 1)) = false := by simp
    (try simp only [go_sem, Nat.reduceAdd, Nat.reduceEqDiff, Nat.reduceLT, Nat.reduceLeDiff, Nat.reduceMul, reduceCtorEq, ↓reduceIte, Nat.mul_one, Int.toNat_natCast, Int.toNat_zero, Nat.sub_zero, Nat.sub_self, r1, r2, r13, r14, r15, r16, r18, r19, r20, z1, z2, z3, z4, bx, by', add_at, ct1, cf1, wx, wy, n1, n2, n3, Nat.zero_add])
    exact step (by rw [hkl]; omega) hm8 hT9 hM hPk ⟨rfl, rfl, rfl, rfl, rfl, rfl, trivial⟩
  have hmet' := (hM.c _ _ hR).1 hmet
  rw [hmet] at ct1
  rw [hmet'] at cf1
  have n0 : ((0 : Int) != 0) = false := rfl
  (try simp only [go_sem, Nat.reduceAdd, Nat.reduceEqDiff, Nat.reduceLT, Nat.reduceLeDiff, Nat.reduceMul, reduceCtorEq, ↓reduceIte, Nat.mul_one, Int.toNat_natCast, Int.toNat_zero, Nat.sub_zero, Nat.sub_self, r1, r2, r13, r14, r15, r16, r18, r19, r20, z1, z2, z3, z4, bx, by', add_at, ct1, cf1, wx, wy, n0, Nat.zero_add])
  have hxt : x < tl.length := by rw [hM.l1]; exact d1
  have hyf : y < fl.length := by rw [hM.l2]; exact d2
  refine e_st1 (off := x) rfl rfl hT9.to rfl (by simpa using hxt) ?_
  intro w9 hb9 hm9 hs9
  rw [← List.map_set (f := I)] at hb9
  have hfr9 := hm9.at hT9.fr (fun hh => hT9.bb hh.symm)
  (try simp only [go_sem, Nat.reduceAdd, Nat.reduceEqDiff, Nat.reduceLT, Nat.reduceLeDiff, Nat.reduceMul, reduceCtorEq, ↓reduceIte, Nat.mul_one, Int.toNat_natCast, Int.toNat_zero, Nat.sub_zero, Nat.sub_self, by', wx, Nat.zero_add])
  refine e_st1 (off := y) rfl rfl hfr9 rfl (by simpa using hyf) ?_
  intro w10 hb10 hm10 hs10
  rw [← List.map_set (f := I)] at hb10
  have s8 := hm8.size
  have hnw := hT9.new
  have hm010 : Mod (fun _ => False) w w10 := (hm8.step hm9 (fun z hz hlt => by omega)).step hm10 (fun z hz hlt => by omega)
  have hM' := mk_set hM iso hR
  have hT10 : TD w w10 (.slice (some ⟨bt, 0, none⟩) k ct) (.slice (some ⟨bu, 0, none⟩) k cu) (ts.take k) (us.take k) ft fu b13 b14 (tl.set x ((y : Int) + 1)) (fl.set y ((x : Int) + 1)) :=
    ⟨(hT9.ot.mod hm9 (fun z hz hh => hT9.t3.1 (by rw [hz, hh]))).mod hm10 (fun z hz hh => hT9.t3.2 (by rw [hz, hh])), (hT9.ou.mod hm9 (fun z hz hh => hT9.u3.1 (by rw [hz, hh]))).mod hm10 (fun z hz hh => hT9.u3.2 (by rw [hz, hh])), hm10.at hb9 hT9.bb, hb10, hT9.t3, hT9.u3, hT9.tu, hT9.bb, hT9.new⟩
  have hcnt := unmet_set tl x ((y : Int) + 1) hxt hmet (by omega)
  obtain ⟨nk1, nk2, nk3⟩ := iso.nd _ _ hR
  (try simp only [go_sem, Nat.reduceAdd, Nat.reduceEqDiff, Nat.reduceLT, Nat.reduceLeDiff, Nat.reduceMul, reduceCtorEq, ↓reduceIte])
  refine e_call (by rfl) ?_
  refine (gget_nd (gst_mod hA hm010) d1).mono ?_
  rintro r w11 ⟨hm11, v22, f22, rfl, o22, n22⟩
  (try simp only [go_sem, Nat.reduceAdd, Nat.reduceEqDiff, Nat.reduceLT, Nat.reduceLeDiff, Nat.reduceMul, reduceCtorEq, ↓reduceIte])
  refine e_al ?_
  intro w12 hb12 hm12 hs12
  have hb12 : w12.heap[w11.heap.size]? = some (.cells #[I 0, I 0, .slice none 0 0] 38 (0, 0)) := hb12
  (try simp only [go_sem, Nat.reduceAdd, Nat.reduceEqDiff, Nat.reduceLT, Nat.reduceLeDiff, Nat.reduceMul, reduceCtorEq, ↓reduceIte])
  refine e_sta rfl rfl hb12 rfl rfl (by obtain ⟨x, c, rfl, _⟩ := o22.val; simp [Value.oneCell']) ?_
  intro w13 hb13 hm13 hs13
  have hm1013 : Mod (fun z => z = w11.heap.size) w10 w13 := ((hm11.trans hm12).weak (fun _ h => h.elim)).trans hm13
  have s11 := hm11.size
  have hT13 := td_mod hT10 hm1013 (fun z hz => by omega)
  have hm013 := hm010.step hm1013 (fun z hz hlt => by have := hm010.size; omega)
  have o22' := (o22.mod hm12 (fun _ _ h => h)).mod hm13 (fun z hz hh => by have := o22.lt hz; omega)
  (try simp only [go_sem, Nat.reduceAdd, Nat.reduceEqDiff, Nat.reduceLT, Nat.reduceLeDiff, Nat.reduceMul, reduceCtorEq, ↓reduceIte])
  refine e_call (by rfl) ?_
  refine (hget_nd (hst_mod hH hm013) d2).mono ?_
  rintro r w14 ⟨hm14, v24, f24, rfl, o24, n24⟩
  (try simp only [go_sem, Nat.reduceAdd, Nat.reduceEqDiff, Nat.reduceLT, Nat.reduceLeDiff, Nat.reduceMul, reduceCtorEq, ↓reduceIte])
  refine e_al ?_
  intro w15 hb15 hm15 hs15
  have hb15 : w15.heap[w14.heap.size]? = some (.cells #[I 0, I 0, .slice none 0 0] 38 (0, 0)) := hb15
  (try simp only [go_sem, Nat.reduceAdd, Nat.reduceEqDiff, Nat.reduceLT, Nat.reduceLeDiff, Nat.reduceMul, reduceCtorEq, ↓reduceIte])
  refine e_sta rfl rfl hb15 rfl rfl (by obtain ⟨x, c, rfl, _⟩ := o24.val; simp [Value.oneCell']) ?_
  intro w16 hb16 hm16 hs16
  have hm1316 : Mod (fun z => z = w14.heap.size) w13 w16 := ((hm14.trans hm15).weak (fun _ h => h.elim)).trans hm16
  have s14 := hm14.size
  have hT16 := td_mod hT13 hm1316 (fun z hz => by omega)
  have hm016 := hm013.step hm1316 (fun z hz hlt => by have := hm013.size; omega)
  have hb22 := hm1316.at hb13 (by omega)
  have o22'' := o22'.mod hm1316 (fun z hz hh => by have := o22'.lt hz; omega)
  have o24'' := (o24.mod hm15 (fun _ _ h => h)).mod hm16 (fun z hz hh => by have := o24.lt hz; omega)
  have n22' : ∀ z, f22 = some z → ft ≠ some z ∧ fu ≠ some z ∧ z ≠ b13 ∧ z ≠ b14 := fun z hz => by
    have h1 := n22 z hz
    have e1 : ∀ {b}, ft = some b → _ := fun {b} hb => hT10.ot.lt (b := b) hb
    have e2 : ∀ {b}, fu = some b → _ := fun {b} hb => hT10.ou.lt (b := b) hb
    have e3 := lt_of_heap hT10.to
    have e4 := lt_of_heap hT10.fr
    exact ⟨fun hh => by have := e1 hh; omega, fun hh => by have := e2 hh; omega, by omega, by omega⟩
  have n24' : ∀ z, f24 = some z → ft ≠ some z ∧ fu ≠ some z ∧ z ≠ b13 ∧ z ≠ b14 := fun z hz => by
    have h1 := n24 z hz
    have e1 : ∀ {b}, ft = some b → _ := fun {b} hb => hT13.ot.lt (b := b) hb
    have e2 : ∀ {b}, fu = some b → _ := fun {b} hb => hT13.ou.lt (b := b) hb
    have e3 := lt_of_heap hT13.to
    have e4 := lt_of_heap hT13.fr
    exact ⟨fun hh => by have := e1 hh; omega, fun hh => by have := e2 hh; omega, by omega, by omega⟩
  have l24 := lt_of_heap hb22
  generalize w11.heap.size = b22 at *
  generalize w14.heap.size = b24 at *
  have n22t : ∀ z, f22 = some z → ft ≠ some z ∧ fu ≠ some z := fun z hz => ⟨(n22' z hz).1, (n22' z hz).2.1⟩
  have n24t : ∀ z, f24 = some z → ft ≠ some z ∧ fu ≠ some z := fun z hz => ⟨(n24' z hz).1, (n24' z hz).2.1⟩
  clear hT9 hT10 hT13 hb9 hfr9 hb10 hb12 hb13 hb15 hm8 hm9 hm10 hm010 hm11 hm12 hm13 hm14 hm15 hm16 hm1013 hm013 hm1316 o22 o22' o24 n22 n24 n22' n24' hs9 hs10 hs12 hs13 hs15 hs16 s8 s11 s14 l24 ct1 cf1 r1 r2 r13 r14 r15 r16
  obtain ⟨x22, c22, rfl, _, _⟩ := o22''.val
  obtain ⟨x24, c24, rfl, _, _⟩ := o24''.val
  have g0 : ((0 : Int) != 0) = false := rfl
  have g1 : ((ndAt ns x).kind != (ndAt ms y).kind) = false := by simp [nk1]
  have g2 : ((ndAt ns x).num != (ndAt ms y).num) = false := by simp [nk2]
  have g3 : (((ndAt ns x).args.length : Int) != (ndAt ms y).args.length) = false := by simp [nk3]
  have hok := (wf_at hwA d1)
  have hok' := (wf_at hwH d2)
  have h8 : (ndAt ns x).args.length ≤ 8 := by
    have := hok.1
    simp only [Nd.may, mayB, decide_eq_true_eq] at this
    omega
  (try simp only [go_sem, Nat.reduceAdd, Nat.reduceEqDiff, Nat.reduceLT, Nat.reduceLeDiff, Nat.reduceMul, reduceCtorEq, ↓reduceIte, cell_of hb22, cell_of hb16, g0, g1, g2, g3])
  refine ir_loop (fun m ρ w' => ∃ (j : Nat) (vt vu : Value) (ts' us' : List Int) (ft fu : Option Nat), m = (ndAt ns x).args.length - j ∧ j ≤ (ndAt ns x).args.length ∧ ts'.length = k + j ∧ Mod (fun _ => False) w w' ∧ TD w w' vt vu ts' us' ft fu b13 b14 (tl.set x ((y : Int) + 1)) (fl.set y ((x : Int) + 1)) ∧ Pairs R ns ms ts' us' ∧
    w'.heap[b22]? = some (.cells #[I (ndAt ns x).kind, I (ndAt ns x).num, .slice x22 (ndAt ns x).args.length c22] 38 (0, 0)) ∧ w'.heap[b24]? = some (.cells #[I (ndAt ms y).kind, I (ndAt ms y).num, .slice x24 (ndAt ms y).args.length c24] 38 (0, 0)) ∧
    Own w' 3 1 (.slice x22 (ndAt ns x).args.length c22) ((ndAt ns x).args.map I) (ndAt ns x).args.length f22 ∧ Own w' 3 1 (.slice x24 (ndAt ms y).args.length c24) ((ndAt ms y).args.map I) (ndAt ms y).args.length f24 ∧
    (∀ z, f22 = some z → ft ≠ some z ∧ fu ≠ some z) ∧ (∀ z, f24 = some z → ft ≠ some z ∧ fu ≠ some z) ∧
    Has ρ [(1, .pointer (some ⟨a, 0, none⟩)), (2, .pointer (some ⟨h, 0, none⟩)), (13, .slice (some ⟨b13, 0, none⟩) ns.length ns.length), (14, .slice (some ⟨b14, 0, none⟩) ms.length ms.length), (15, vt), (16, vu), (19, .bool (ind ns x)), (22, .pointer (some ⟨b22, 0, none⟩)), (24, .pointer (some ⟨b24, 0, none⟩)), (26, I j)]) (ndAt ns x).args.length
    ⟨0, _, _, ts.take k, us.take k, ft, fu, rfl, Nat.zero_le _, hkl, hm016, hT16, hPk, hb22, hb16, o22'', o24'', n22t, n24t, rfl, rfl, rfl, rfl, rfl, rfl, rfl, rfl, rfl, rfl, trivial⟩ ?_
  clear hT16 hm016 hb22 hb16 o22'' o24'' n22t n24t
  rintro m ρ w8 ⟨j, vt, vu, ts', us', ft, fu, rfl, hj, htl, hm8, hT, hP', h22, h24, o22, o24, n22, n24, r1, r2, r13, r14, r15, r16, r19, r22, r24, r26, _⟩
  unfold ir27L1
  by_cases hjl : j < (ndAt ns x).args.length ∧ ind ns x = false
  · have q1 : decide ((j : Int) < (ndAt ns x).args.length) = true := by simpa using hjl.1
    have hjm : j < (ndAt ms y).args.length := by rw [← nk3]; exact hjl.1
    have b1 : (0 : Int) ≤ j ∧ (j : Int) < (ndAt ns x).args.length := by have := hjl.1; omega
    have b2 : (0 : Int) ≤ j ∧ (j : Int) < (ndAt ms y).args.length := by omega
    have hwj : IntKind.i64.wrap ((j : Int) + 1) = ((j + 1 : Nat) : Int) := by rw [wrap_in] <;> omega
    have ea : (ndAt ns x).args[j]? = some ((ndAt ns x).args[j]'hjl.1) := List.getElem?_eq_getElem hjl.1
    have eb : (ndAt ms y).args[j]? = some ((ndAt ms y).args[j]'hjm) := List.getElem?_eq_getElem hjm
    generalize (ndAt ns x).args[j]'hjl.1 = av at ea
    generalize (ndAt ms y).args[j]'hjm = bv at eb
    obtain ⟨b3, c3, e3, ca⟩ := own_at o22 hjl.1 (u := I av) (by rw [List.getElem?_map, ea]; rfl)
    obtain ⟨b4, c4, e4, cb⟩ := own_at o24 hjm (u := I bv) (by rw [List.getElem?_map, eb]; rfl)
    cases e3
    cases e4
    have hu : us'.length = ts'.length := hP'.2.2.1.symm
    have s8 := hm8.size
    have l22 := lt_of_heap h22
    have l24 := lt_of_heap h24
    (try simp only [go_sem, Nat.reduceAdd, Nat.reduceEqDiff, Nat.reduceLT, Nat.reduceLeDiff, Nat.reduceMul, reduceCtorEq, ↓reduceIte, Nat.mul_one, Int.toNat_natCast, Int.toNat_zero, Nat.sub_zero, Nat.sub_self, decide_true, r1, r2, r13, r14, r15, r16, r19, r22, r24, r26, cell_of h22, q1, hjl.2, Bool.not_false, b1, ca])
    refine e_bs (by rfl) (by (try simp only [go_sem, Nat.reduceAdd, Nat.reduceEqDiff, Nat.reduceLT, Nat.reduceLeDiff, Nat.reduceMul, reduceCtorEq, ↓reduceIte]); rfl) ?_
    intro w9 hb9 hm9 hs9
    have hT9 := td_mod hT hm9 (fun _ h => h.elim)
    (try simp only [go_sem, Nat.reduceAdd, Nat.reduceEqDiff, Nat.reduceLT, Nat.reduceLeDiff, Nat.reduceMul, reduceCtorEq, ↓reduceIte])
    refine e_ap (m := 1) (news := [I av]) rfl hT9.ot rfl (fun h => by cases h) (rd_block hb9) (by simp [Value.oneCell']) rfl (by omega) (by omega) ?_
    intro v' w10 fp10 o10 hm10 hf10
    have hT10 := td_pusht hT9 o10 hm10 hf10 (by omega)
    have k24 : ft ≠ some b24 := own_ne hT.ot h24 (by decide)
    have k22 : ft ≠ some b22 := own_ne hT.ot h22 (by decide)
    have h2210 := hm10.at (hm9.at h22 (fun h => h)) k22
    have h2410 := hm10.at (hm9.at h24 (fun h => h)) k24
    have o2210 := (o22.mod hm9 (fun _ _ h => h)).mod hm10 (fun z hz hh => (n22 z hz).1 hh)
    have o2410 := (o24.mod hm9 (fun _ _ h => h)).mod hm10 (fun z hz hh => (n24 z hz).1 hh)
    have cb10 : w10.cell? ⟨b4, j, none⟩ = some (I bv) := by
      obtain ⟨_, _, e, c⟩ := own_at o2410 hjm (u := I bv) (by rw [List.getElem?_map, eb]; rfl)
      cases e; exact c
    (try simp only [go_sem, Nat.reduceAdd, Nat.reduceEqDiff, Nat.reduceLT, Nat.reduceLeDiff, Nat.reduceMul, reduceCtorEq, ↓reduceIte, Nat.mul_one, Int.toNat_natCast, Int.toNat_zero, Nat.sub_zero, Nat.sub_self, cell_of h2410, b2, cb10])
    refine e_bs (by rfl) (by (try simp only [go_sem, Nat.reduceAdd, Nat.reduceEqDiff, Nat.reduceLT, Nat.reduceLeDiff, Nat.reduceMul, reduceCtorEq, ↓reduceIte]); rfl) ?_
    intro w11 hb11 hm11 hs11
    have hT11 := td_mod hT10 hm11 (fun _ h => h.elim)
    (try simp only [go_sem, Nat.reduceAdd, Nat.reduceEqDiff, Nat.reduceLT, Nat.reduceLeDiff, Nat.reduceMul, reduceCtorEq, ↓reduceIte])
    refine e_ap (m := 1) (news := [I bv]) rfl hT11.ou rfl (fun h => by cases h) (rd_block hb11) (by simp [Value.oneCell']) rfl (by omega) (by omega) ?_
    intro v'' w12 fp12 o12 hm12 hf12
    have s9 := hm9.size
    have s10 := hm10.size
    have s11 := hm11.size
    have hT12 := td_swap (td_pusht (td_swap hT11) o12 hm12 hf12 (by omega))
    have hnw := hT.new
    have hPn := pairs_app hP' (okPl_mem hok.2 (List.mem_of_getElem? ea)) (okPl_mem hok'.2 (List.mem_of_getElem? eb)) (iso.kids _ _ hR hjl.2 j av bv ea eb)
    have m22 : ∀ z, f22 = some z → fp10 ≠ some z ∧ fp12 ≠ some z := fun z hz => by
      have lz := o22.lt hz
      refine ⟨fun hh => ?_, fun hh => ?_⟩
      · rcases hf10 z hh with e | e
        · exact (n22 z hz).1 e
        · omega
      · rcases hf12 z hh with e | e
        · exact (n22 z hz).2 e
        · omega
    have m24 : ∀ z, f24 = some z → fp10 ≠ some z ∧ fp12 ≠ some z := fun z hz => by
      have lz := o24.lt hz
      refine ⟨fun hh => ?_, fun hh => ?_⟩
      · rcases hf10 z hh with e | e
        · exact (n24 z hz).1 e
        · omega
      · rcases hf12 z hh with e | e
        · exact (n24 z hz).2 e
        · omega
    have j22 : fu ≠ some b22 := own_ne hT.ou h22 (by decide)
    have j24 : fu ≠ some b24 := own_ne hT.ou h24 (by decide)
    (try simp only [go_sem, Nat.reduceAdd, Nat.reduceEqDiff, Nat.reduceLT, Nat.reduceLeDiff, Nat.reduceMul, reduceCtorEq, ↓reduceIte, hwj])
    refine ⟨_, ?_, j + 1, v', v'', ts' ++ [av], us' ++ [bv], fp10, fp12, rfl, hjl.1, by simp [htl]; omega, ?_, hT12, hPn, hm12.at (hm11.at h2210 (fun h => h)) j22, hm12.at (hm11.at h2410 (fun h => h)) j24,
      (o2210.mod hm11 (fun _ _ h => h)).mod hm12 (fun z hz hh => (n22 z hz).2 hh), (o2410.mod hm11 (fun _ _ h => h)).mod hm12 (fun z hz hh => (n24 z hz).2 hh), m22, m24, rfl, rfl, rfl, rfl, rfl, rfl, rfl, rfl, rfl, rfl, trivial⟩
    · have := hjl.1; omega
    · exact (((hm8.trans hm9).step hm10 (fun z hz hlt => by have := hnw.1 z hz; omega)).trans hm11).step hm12 (fun z hz hlt => by have := hnw.2.1 z hz; omega)
  · have hfin : ts'.length + 9 * unmet (tl.set x ((y : Int) + 1)) < ts.length + 9 * unmet tl := by omega
    have fin := fun (ρ : Env) => @step w8 ρ ts' us' (tl.set x ((y : Int) + 1)) (fl.set y ((x : Int) + 1)) vt vu ft fu hfin hm8 hT hM' hP'
    by_cases hj2 : j < (ndAt ns x).args.length
    · have q1 : decide ((j : Int) < (ndAt ns x).args.length) = true := by simpa using hj2
      have hi : ind ns x = true := by
        cases hh : ind ns x with
        | true => rfl
        | false => exact absurd ⟨hj2, hh⟩ hjl
      (try simp only [go_sem, Nat.reduceAdd, Nat.reduceEqDiff, Nat.reduceLT, Nat.reduceLeDiff, Nat.reduceMul, reduceCtorEq, ↓reduceIte, r1, r2, r13, r14, r15, r16, r19, r22, r24, r26, cell_of h22, q1, hi, Bool.not_true])
      exact fin _ ⟨rfl, rfl, rfl, rfl, rfl, rfl, trivial⟩
    · have q1 : decide ((j : Int) < (ndAt ns x).args.length) = false := by simpa using hj2
      (try simp only [go_sem, Nat.reduceAdd, Nat.reduceEqDiff, Nat.reduceLT, Nat.reduceLeDiff, Nat.reduceMul, reduceCtorEq, ↓reduceIte, r1, r2, r13, r14, r15, r16, r19, r22, r24, r26, cell_of h22, q1])
      exact fin _ ⟨rfl, rfl, rfl, rfl, rfl, rfl, trivial⟩
end Go.Proofs.Ytnimaifmcejkcaa
end
