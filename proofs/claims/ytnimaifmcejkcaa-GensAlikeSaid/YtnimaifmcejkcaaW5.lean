/- The engine, part 5: drawn regions, code, functions. -/
import Derived.Test.YtnimaifmcejkcaaW4
set_option linter.unusedSimpArgs false
set_option linter.unusedVariables false
namespace Go.W
open Go

inductive D where
  | nil
  | r (i : Nat) (g : Option (Nat × Bool)) (d : Option Nat) (r : R) (t : D)
  | e (i : Nat) (g : Option (Nat × Bool)) (d : Option Nat) (e : E) (fl : List Nat) (t : D)
  | e2 (i : Nat) (d : Option Nat) (e : E) (fl : List Nat) (t : D) (i' : Nat) (d' : Option Nat) (e' : E) (fl' : List Nat) (t' : D)
  deriving Inhabited

def inL (i : Nat) : List Nat → Prop
  | [] => False
  | j :: r => j = i ∨ inL i r
def keptL (fl : List Nat) (w w' : World) : List (Nat × Nat) → Prop
  | [] => True
  | (i, b) :: r => (inL i fl → w'.heap[b]? = w.heap[b]?) ∧ keptL fl w w' r
def addRd (i : Nat) (b : Option Nat) (rd : List (Nat × Nat)) : List (Nat × Nat) :=
  match b with
  | some b => (i, b) :: rd
  | none => rd

def wpD (P : Program) : D → Env → World → List (Nat × Nat) → (Env → World → Prop) → Prop
  | .nil, ρ, w, rd, K => K ρ w
  | .r i none d r t, ρ, w, rd, K => ∃ v, r.ev w ρ = some v ∧ wpD P t (ρ.put d v) w (addRd i (r.blk ρ) rd) K
  | .r i (some (s, b)) d r t, ρ, w, rd, K => ∃ c, ρ.get s = some c ∧ (isB c b = true → ∃ v, r.ev w ρ = some v ∧ wpD P t (ρ.put d v) w (addRd i (r.blk ρ) rd) K) ∧
      (isB c b = false → wpD P t (ρ.put d undef) w rd K)
  | .e i none d e fl t, ρ, w, rd, K => e.wp P w ρ fun v w' => keptL fl w w' rd ∧ wpD P t (ρ.put d v) w' rd K
  | .e i (some (s, b)) d e fl t, ρ, w, rd, K => ∃ c, ρ.get s = some c ∧ (isB c b = true → e.wp P w ρ fun v w' => keptL fl w w' rd ∧ wpD P t (ρ.put d v) w' rd K) ∧
      (isB c b = false → wpD P t (ρ.put d undef) w rd K)
  | .e2 i d e fl t i' d' e' fl' t', ρ, w, rd, K => (e.wp P w ρ fun v w' => keptL fl w w' rd ∧ wpD P t (ρ.put d v) w' rd K) ∧
      (e'.wp P w ρ fun v w' => keptL fl' w w' rd ∧ wpD P t' (ρ.put d' v) w' rd K)

def memI (P : Program) (ops : Array Oper) (i : Nat) : Bool :=
  match ops[i]? with
  | some o => match res P o.op with
    | some r => r.isMem
    | none => false
  | none => false
def flOf (P : Program) (ops : Array Oper) (pm : List Nat) (j : Nat) : List Nat := (List.range ops.size).filter fun i => memI P ops i && !(pm.getD j 0).testBit i
def isRI (P : Program) (ops : Array Oper) (i : Nat) : Bool :=
  match ops[i]? with
  | some o => (res P o.op).isSome
  | none => false
def mkE (i : Nat) (fl : List Nat) (t : D) : S → Option D
  | .e d e => some (.e i none d e fl t)
  | .ge s b d e => some (.e i (some (s, b)) d e fl t)
  | _ => none
def mkR (i : Nat) (t : D) : S → Option D
  | .r d r => some (.r i none d r t)
  | .gr s b d r => some (.r i (some (s, b)) d r t)
  | _ => none
def mkE2 (i : Nat) (fl : List Nat) (t : D) (j : Nat) (fl' : List Nat) (t' : D) : S → S → Option D
  | .e d e, .e d' e' => some (.e2 i d e fl t j d' e' fl' t')
  | _, _ => none
def resAt (P : Program) (N : Nat) (ops : Array Oper) (i : Nat) : Option S := (ops[i]?).bind (resS P N ops)

def resD (P : Program) (N : Nat) (ops : Array Oper) (pm : List Nat) : Nat → Array Bool → Option D
  | 0, listed => if (Region.ready .any ops listed).isEmpty then some .nil else none
  | f + 1, listed =>
    match (Region.ready .any ops listed).find? (fun i => isRI P ops i && Region.free .any ops listed i) with
    | some i => (resD P N ops pm f (listed.setIfInBounds i true)).bind fun t => (resAt P N ops i).bind (mkR i t)
    | none => match Region.ready .any ops listed with
      | [] => some .nil
      | [i] => (resD P N ops pm f (listed.setIfInBounds i true)).bind fun t => (resAt P N ops i).bind (mkE i (flOf P ops pm i) t)
      | [i, j] => (resD P N ops pm f (listed.setIfInBounds i true)).bind fun t => (resD P N ops pm f (listed.setIfInBounds j true)).bind fun t' =>
          (resAt P N ops i).bind fun s => (resAt P N ops j).bind fun s' => mkE2 i (flOf P ops pm i) t j (flOf P ops pm j) t' s s'
      | _ => none

section
variable {P : Program} {N : Nat} {ops : Array Oper}

def Brd (pm : List Nat) (rd : List (Nat × Nat)) (j b : Nat) : Prop := ∃ i, (i, b) ∈ rd ∧ (pm.getD j 0).testBit i = false

theorem inL_of {i : Nat} : ∀ {fl : List Nat}, i ∈ fl → inL i fl := by
  intro fl
  induction fl with
  | nil => intro h; cases h
  | cons j r ih =>
    intro h
    cases h with
    | head => exact .inl rfl
    | tail _ h => exact .inr (ih h)
theorem keptL_spec {fl : List Nat} {w w' : World} : ∀ {rd : List (Nat × Nat)}, keptL fl w w' rd → ∀ i b, (i, b) ∈ rd → i ∈ fl → w'.heap[b]? = w.heap[b]? := by
  intro rd
  induction rd with
  | nil => intro _ i b h; cases h
  | cons p rd ih =>
    intro h i b hm hf
    obtain ⟨j, c⟩ := p
    simp only [keptL] at h
    cases hm with
    | head => exact h.1 (inL_of hf)
    | tail _ hm => exact ih h.2 i b hm hf

theorem resS_r {o : Oper} {d : Option Nat} {r : R} (h : resS P N ops o = some (.r d r)) : res P o.op = some r ∧ d = o.dst ∧ o.guard = none ∧ (∀ t, d = some t → t < N) := by
  unfold resS at h
  split at h
  · rename_i hd
    split at h
    · rename_i hg
      split at h
      · rename_i r' hr; cases h; exact ⟨hr, rfl, hg, dstOk_spec hd⟩
      · cases h
    · split at h
      · split at h <;> cases h
      · cases h
  · cases h
theorem resS_e {o : Oper} {d : Option Nat} {e : E} (h : resS P N ops o = some (.e d e)) : e = resE P o ∧ d = o.dst ∧ o.guard = none ∧ (∀ t, d = some t → t < N) := by
  unfold resS at h
  split at h
  · rename_i hd
    split at h
    · rename_i hg
      split at h
      · cases h
      · cases h; exact ⟨rfl, rfl, hg, dstOk_spec hd⟩
    · split at h
      · split at h <;> cases h
      · cases h
  · cases h
theorem resS_gr {o : Oper} {s : Nat} {b : Bool} {d : Option Nat} {r : R} (h : resS P N ops o = some (.gr s b d r)) :
    res P o.op = some r ∧ d = o.dst ∧ (∃ j, o.guard = some (j, b) ∧ (ops[j]?).bind (·.dst) = some s) ∧ (∀ t, d = some t → t < N) := by
  unfold resS at h
  split at h
  · rename_i hd
    split at h
    · split at h <;> cases h
    · rename_i j want hg
      split at h
      · rename_i s' hs'
        split at h
        · rename_i r' hr; cases h; exact ⟨hr, rfl, ⟨j, hg, hs'⟩, dstOk_spec hd⟩
        · cases h
      · cases h
  · cases h
theorem resS_ge {o : Oper} {s : Nat} {b : Bool} {d : Option Nat} {e : E} (h : resS P N ops o = some (.ge s b d e)) :
    e = resE P o ∧ d = o.dst ∧ (∃ j, o.guard = some (j, b) ∧ (ops[j]?).bind (·.dst) = some s) ∧ (∀ t, d = some t → t < N) := by
  unfold resS at h
  split at h
  · rename_i hd
    split at h
    · split at h <;> cases h
    · rename_i j want hg
      split at h
      · rename_i s' hs'
        split at h
        · cases h
        · cases h; exact ⟨rfl, rfl, ⟨j, hg, hs'⟩, dstOk_spec hd⟩
      · cases h
  · cases h

def GoodK (N : Nat) (K : Env → World → Prop) (a : Act) (w : World) : Prop := ∃ ρ, Good N ρ a ∧ K ρ w

theorem addRd_mem {i : Nat} {b : Option Nat} {rd : List (Nat × Nat)} {p : Nat × Nat} (h : p ∈ rd) : p ∈ addRd i b rd := by
  cases b with
  | none => exact h
  | some b => exact List.mem_cons_of_mem _ h

theorem blk_mem {r : R} {ρ : Env} {b : Nat} (h : r.blk ρ = some b) : r.isMem = true := by
  cases r <;> first | rfl | (simp [R.blk] at h)

theorem resD_sound {pm : List Nat} (hpm : pmOk ops pm = true) (hsel : Region.noSelect ops = true) {K : Env → World → Prop} :
    ∀ (f : Nat) (listed : Array Bool) (t : D) (ρ : Env) (a : Act) (w : World) (rd : List (Nat × Nat)), resD P N ops pm f listed = some t → wpD P t ρ w rd K → Good N ρ a → Closed ops listed →
      (∀ i b, (i, b) ∈ rd → memI P ops i = true) → wpAnyB P ops (Brd pm rd) (GoodK N K) f listed a w := by
  intro f
  induction f with
  | zero =>
    intro listed t ρ a w rd h hwp hg hc hrd
    simp only [resD] at h
    split at h
    · rename_i he
      cases h
      exact ⟨by simpa using he, ρ, hg, hwp⟩
    · cases h
  | succ f ih =>
    intro listed t ρ a w rd h hwp hg hc hrd
    have effect : ∀ (i : Nat) (o : Oper) (t' : D) (d : Option Nat) (e : E), ops[i]? = some o → e = resE P o → d = o.dst → (∀ t, d = some t → t < N) → i ∈ Region.ready .any ops listed →
        resD P N ops pm f (listed.setIfInBounds i true) = some t' → Region.wanted o (yielded ops a.tmps) = true →
        (e.wp P w ρ fun v w' => keptL (flOf P ops pm i) w w' rd ∧ wpD P t' (ρ.put d v) w' rd K) →
        gOp P ops i (fun a' w' => Kept (Brd pm rd i) w w' ∧ wpAnyB P ops (Brd pm rd) (GoodK N K) f (listed.setIfInBounds i true) a' w') a w := by
      intro i o t' d e hi he hd hdN hr ht' hw hE
      subst he hd
      refine ⟨o, hi, ?_⟩
      rw [if_pos hw]
      refine Oper.wp_mono ?_ (resE_sound hE a hg.agree)
      rintro a' w' ⟨v, rfl, hk, hrest⟩
      refine ⟨?_, ih _ t' _ _ _ rd ht' hrest (hg.put _ _ hdN) (closed_set hc hr) hrd⟩
      rintro b ⟨i0, hm, hbit⟩
      refine keptL_spec hk i0 b hm ?_
      have hmem := hrd i0 b hm
      unfold flOf
      rw [List.mem_filter, List.mem_range]
      refine ⟨?_, by rw [hmem, hbit]; rfl⟩
      unfold memI at hmem
      cases ho : ops[i0]? with
      | none => simp [ho] at hmem
      | some o' => exact (Array.getElem?_eq_some_iff.1 ho).1
    simp only [resD] at h
    split at h
    · rename_i i hfind
      have hmem := List.mem_of_find?_eq_some hfind
      have hprop := List.find?_some hfind
      simp only [Bool.and_eq_true] at hprop
      obtain ⟨t', ht', h⟩ := Option.bind_eq_some_iff.1 h
      obtain ⟨s, hs0, h⟩ := Option.bind_eq_some_iff.1 h
      unfold resAt at hs0
      obtain ⟨o, ho, hs⟩ := Option.bind_eq_some_iff.1 hs0
      clear hs0
      have hfree := Region.free_spec ho hprop.2
      have isz : i < ops.size := (Array.getElem?_eq_some_iff.1 ho).1
      -- a value that is read, taken first
      have taken : ∀ (v : Value) (d : Option Nat) (r : R), d = o.dst → res P o.op = some r → r.ev w ρ = some v → Region.wanted o (yielded ops a.tmps) = true → (∀ t, d = some t → t < N) →
          wpD P t' (ρ.put d v) w (addRd i (r.blk ρ) rd) K → wpAnyB P ops (Brd pm rd) (GoodK N K) (f + 1) listed a w := by
        intro v d r hd hr hv hw hdN hrest
        subst hd
        have H := ih _ t' _ _ _ _ ht' hrest (hg.put _ v hdN) (closed_set hc hmem) (by
          intro j b hj
          cases hb : r.blk ρ with
          | none => rw [hb] at hj; exact hrd j b hj
          | some b' =>
            rw [hb] at hj
            cases hj with
            | head => unfold memI; rw [ho]; simp only; rw [hr]; exact blk_mem hb
            | tail _ hj => exact hrd j b hj)
        refine wpAnyB_first hpm ho (Region.noSelect_spec hsel) (bs := fun b => r.blk ρ = some b) (c := fun b => w.heap[b]?) (B' := Brd pm (addRd i (r.blk ρ) rd)) ?_ ?_ f listed a w hc hfree hmem ?_ (fun _ _ => rfl) H
        · rintro j b ⟨i0, hm, hbit⟩; exact ⟨i0, addRd_mem hm, hbit⟩
        · intro j hj hji b hb
          refine ⟨i, ?_, hj⟩
          rw [show r.blk ρ = some b from hb]; exact List.mem_cons_self
        · left
          refine ⟨hw, fun w' hw' => ro_run (res_sound hr hg.agree (ev_kept hv hw'))⟩
      have skipped : ∀ (d : Option Nat), d = o.dst → Region.wanted o (yielded ops a.tmps) = false → (∀ t, d = some t → t < N) → wpD P t' (ρ.put d undef) w rd K →
          wpAnyB P ops (Brd pm rd) (GoodK N K) (f + 1) listed a w := by
        intro d hd hw hdN hrest
        subst hd
        have H := ih _ t' _ _ _ _ ht' hrest (hg.put _ undef hdN) (closed_set hc hmem) hrd
        refine wpAnyB_first hpm ho (Region.noSelect_spec hsel) (bs := fun _ => False) (c := fun b => w.heap[b]?) (B' := Brd pm rd) (fun _ _ h => h) (fun _ _ _ _ h => h.elim) f listed a w hc hfree hmem ?_ (fun _ h => h.elim) H
        right
        exact ⟨hw, rfl⟩
      cases s with
      | r d r =>
        simp only [mkR, Option.some.injEq] at h; subst h
        obtain ⟨hr, hd, hgd, hdN⟩ := resS_r hs
        obtain ⟨v, hv, hrest⟩ := hwp
        exact taken v d r hd hr hv (by simp [Region.wanted, hgd]) hdN hrest
      | gr s' b' d r =>
        simp only [mkR, Option.some.injEq] at h; subst h
        obtain ⟨hr, hd, ⟨j, hgd, hsl⟩, hdN⟩ := resS_gr hs
        obtain ⟨c, hcv, hy, hn⟩ := hwp
        have hw := wanted_of hgd hsl hg hcv
        by_cases hcb : isB c b' = true
        · obtain ⟨v, hv, hrest⟩ := hy hcb
          exact taken v d r hd hr hv (by rw [hw, hcb]) hdN hrest
        · exact skipped d hd (by rw [hw]; simpa using hcb) hdN (hn (by simpa using hcb))
      | e d e => simp [mkR] at h
      | ge s b d e => simp [mkR] at h
    · split at h
      · rename_i hready
        cases h
        exact ⟨fun _ => ⟨ρ, hg, hwp⟩, fun i hi => (by rw [hready] at hi; cases hi)⟩
      · rename_i i hready
        obtain ⟨t', ht', h⟩ := Option.bind_eq_some_iff.1 h
        obtain ⟨s, hs0, h⟩ := Option.bind_eq_some_iff.1 h
        unfold resAt at hs0
        obtain ⟨o, ho, hs⟩ := Option.bind_eq_some_iff.1 hs0
        clear hs0
        have hmem : i ∈ Region.ready .any ops listed := by rw [hready]; exact List.mem_cons_self
        refine ⟨fun h0 => (by rw [hready] at h0; cases h0), fun i' hi' => ?_⟩
        have : i' = i := by rw [hready] at hi'; simpa using hi'
        subst this
        cases s with
        | e d e =>
          simp only [mkE, Option.some.injEq] at h; subst h
          obtain ⟨he, hd, hgd, hdN⟩ := resS_e hs
          exact effect i' o t' d e ho he hd hdN hmem ht' (by simp [Region.wanted, hgd]) hwp
        | ge s' b' d e =>
          simp only [mkE, Option.some.injEq] at h; subst h
          obtain ⟨he, hd, ⟨j, hgd, hsl⟩, hdN⟩ := resS_ge hs
          obtain ⟨c, hcv, hy, hn⟩ := hwp
          have hw := wanted_of hgd hsl hg hcv
          by_cases hcb : isB c b' = true
          · exact effect i' o t' d e ho he hd hdN hmem ht' (by rw [hw, hcb]) (hy hcb)
          · refine ⟨o, ho, ?_⟩
            rw [if_neg (by rw [hw]; exact hcb)]
            subst hd
            exact ⟨fun _ _ => rfl, ih _ t' _ _ _ rd ht' (hn (by simpa using hcb)) (hg.put _ undef hdN) (closed_set hc hmem) hrd⟩
        | r d r => simp [mkE] at h
        | gr s b d r => simp [mkE] at h
      · rename_i i j hready
        obtain ⟨t1, ht1, h⟩ := Option.bind_eq_some_iff.1 h
        obtain ⟨t2, ht2, h⟩ := Option.bind_eq_some_iff.1 h
        obtain ⟨s1, hs1, h⟩ := Option.bind_eq_some_iff.1 h
        obtain ⟨s2, hs2, h⟩ := Option.bind_eq_some_iff.1 h
        unfold resAt at hs1 hs2
        obtain ⟨o1, ho1, hs1'⟩ := Option.bind_eq_some_iff.1 hs1
        obtain ⟨o2, ho2, hs2'⟩ := Option.bind_eq_some_iff.1 hs2
        clear hs1 hs2
        have hmem1 : i ∈ Region.ready .any ops listed := by rw [hready]; exact List.mem_cons_self
        have hmem2 : j ∈ Region.ready .any ops listed := by rw [hready]; exact List.mem_cons_of_mem _ List.mem_cons_self
        cases s1 with
        | e d e => cases s2 with
          | e d' e' =>
            simp only [mkE2, Option.some.injEq] at h; subst h
            obtain ⟨he1, hd1, hgd1, hdN1⟩ := resS_e hs1'
            obtain ⟨he2, hd2, hgd2, hdN2⟩ := resS_e hs2'
            refine ⟨fun h0 => (by rw [hready] at h0; cases h0), fun i' hi' => ?_⟩
            rw [hready] at hi'
            have : i' = i ∨ i' = j := by simpa using hi'
            rcases this with rfl | rfl
            · exact effect i' o1 t1 d e ho1 he1 hd1 hdN1 hmem1 ht1 (by simp [Region.wanted, hgd1]) hwp.1
            · exact effect i' o2 t2 d' e' ho2 he2 hd2 hdN2 hmem2 ht2 (by simp [Region.wanted, hgd2]) hwp.2
          | r d r => simp [mkE2] at h
          | gr s b d r => simp [mkE2] at h
          | ge s b d e => simp [mkE2] at h
        | r d r => cases s2 <;> simp [mkE2] at h
        | gr s b d r => cases s2 <;> simp [mkE2] at h
        | ge s b d e => cases s2 <;> simp [mkE2] at h
      · cases h

/-! ### a drawn region whose reads do not float past its effects: a list of steps -/
def D.toS : D → Option (List S)
  | .nil => some []
  | .r _ none dd q t => t.toS.map (S.r dd q :: ·)
  | .r _ (some (s, b)) dd q t => t.toS.map (S.gr s b dd q :: ·)
  | .e _ none dd q [] t => t.toS.map (S.e dd q :: ·)
  | .e _ (some (s, b)) dd q [] t => t.toS.map (S.ge s b dd q :: ·)
  | _ => none

theorem keptL_nil {w w' : World} : ∀ rd, keptL [] w w' rd := by
  intro rd
  induction rd with
  | nil => trivial
  | cons p rd ih => exact ⟨fun h => by simp [inL] at h, ih⟩

theorem toS_sound {K : Env → World → Prop} : ∀ (t : D) (st : List S) (ρ : Env) (w : World) (rd : List (Nat × Nat)), t.toS = some st → wpS P st ρ w K → wpD P t ρ w rd K := by
  intro t
  induction t with
  | nil => intro st ρ w rd h hw; simp only [D.toS, Option.some.injEq] at h; subst h; exact hw
  | r i g d r t ih =>
    intro st ρ w rd h hw
    cases g with
    | none =>
      simp only [D.toS] at h
      obtain ⟨st', h1, rfl⟩ := Option.map_eq_some_iff.1 h
      obtain ⟨v, hv, hk⟩ := hw
      exact ⟨v, hv, ih _ _ _ _ h1 hk⟩
    | some g =>
      obtain ⟨s, b⟩ := g
      simp only [D.toS] at h
      obtain ⟨st', h1, rfl⟩ := Option.map_eq_some_iff.1 h
      obtain ⟨c, hc, hy, hn⟩ := hw
      exact ⟨c, hc, fun e => let ⟨v, hv, hk⟩ := hy e; ⟨v, hv, ih _ _ _ _ h1 hk⟩, fun e => ih _ _ _ _ h1 (hn e)⟩
  | e i g d e fl t ih =>
    intro st ρ w rd h hw
    cases fl with
    | cons x xs => cases g with
      | none => simp [D.toS] at h
      | some g => obtain ⟨s, b⟩ := g; simp [D.toS] at h
    | nil =>
      cases g with
      | none =>
        simp only [D.toS] at h
        obtain ⟨st', h1, rfl⟩ := Option.map_eq_some_iff.1 h
        exact E.mono (fun v w' hk => ⟨keptL_nil rd, ih _ _ _ _ h1 hk⟩) e hw
      | some g =>
        obtain ⟨s, b⟩ := g
        simp only [D.toS] at h
        obtain ⟨st', h1, rfl⟩ := Option.map_eq_some_iff.1 h
        obtain ⟨c, hc, hy, hn⟩ := hw
        exact ⟨c, hc, fun e' => E.mono (fun v w' hk => ⟨keptL_nil rd, ih _ _ _ _ h1 hk⟩) e (hy e'), fun e' => ih _ _ _ _ h1 (hn e')⟩
  | e2 => intro st ρ w rd h hw; simp [D.toS] at h

theorem region_draw {id : Nat} {pm : List Nat} {Q : Exit → Act → World → Prop} {K : Env → World → Prop} {t : D} {ρ : Env} {a : Act} {w : World} (hm : P.follows .mixedOrders = true) (hpm : pmOk ops pm = true)
    (hsel : Region.noSelect ops = true) (ht : resD P N ops pm ops.size (Array.replicate ops.size false) = some t) (h : wpD P t ρ w.drew [] K) (hg : Good N ρ a)
    (hQ : ∀ ρ' a' w', Good N ρ' a' → K ρ' w' → Q .normal a' w') : (Code.region id ops true).wp P Q a w := by
  refine wp_region_any hm (wpAny_of_B (B := Brd pm []) (Q := GoodK N K) (fun a' w' ⟨ρ', h1, h2⟩ => hQ ρ' a' w' h1 h2) _ _ _ _ ?_)
  refine resD_sound hpm hsel _ _ t ρ a w.drew [] ht h hg ?_ (fun _ _ h => by cases h)
  intro j oj _ hl
  have : (Array.replicate ops.size false).getD j false = false := by
    rcases Nat.lt_or_ge j ops.size with h | h
    · simp [h]
    · simp [h]
  rw [this] at hl
  cases hl
end
end Go.W
