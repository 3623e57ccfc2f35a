/- The engine, part 6: code and functions. -/
import Derived.Test.YtnimaifmcejkcaaW5
set_option linter.unusedSimpArgs false
set_option linter.unusedVariables false
namespace Go.W
open Go

inductive IR where
  | skip
  | ret
  | exit (id : Nat)
  | seq (a b : IR)
  | cond (c : O) (a b : IR)
  | block (id : Nat) (a : IR)
  | loop (a : IR)
  | reg (dw : Bool) (st : List S) (kp : List Nat)
  | dr (t : D) (kp : List Nat)
  | raw (c : Code)
  deriving Inhabited

abbrev Post := Exit → Env → World → Prop
def thenQ (next : Env → World → Prop) (Q : Post) : Post
  | .normal, ρ, w => next ρ w
  | e, ρ, w => Q e ρ w
def blkQ (id : Nat) (Q : Post) : Post
  | .exit id', ρ, w => if id' = id then Q .normal ρ w else Q (.exit id') ρ w
  | e, ρ, w => Q e ρ w
def liftQ (N : Nat) (Q : Post) : Exit → Act → World → Prop := fun e a w => ∃ ρ, Good N ρ a ∧ Q e ρ w

def irwp (P : Program) (N : Nat) : IR → Post → Env → World → Prop
  | .skip, Q, ρ, w => Q .normal ρ w
  | .ret, Q, ρ, w => Q .ret ρ w
  | .exit id, Q, ρ, w => Q (.exit id) ρ w
  | .seq a b, Q, ρ, w => irwp P N a (thenQ (irwp P N b Q) Q) ρ w
  | .cond c a b, Q, ρ, w => ∃ t, c.ev ρ = some (.bool t) ∧ (t = true → irwp P N a Q ρ w) ∧ (t = false → irwp P N b Q ρ w)
  | .block id a, Q, ρ, w => irwp P N a (blkQ id Q) ρ w
  | .loop a, Q, ρ, w => ∃ (I : Nat → Env → World → Prop) (n : Nat), I n ρ w ∧ ∀ n ρ w, I n ρ w → irwp P N a (thenQ (fun ρ' w' => ∃ m, m < n ∧ I m ρ' w') Q) ρ w
  | .reg dw st kp, Q, ρ, w => wpS P st ρ (if dw then w.drew else w) fun ρ w => Q .normal (ρ.keep kp) w
  | .dr t kp, Q, ρ, w => wpD P t ρ w.drew [] fun ρ w => Q .normal (ρ.keep kp) w
  | .raw c, Q, ρ, w => ∀ a, Good N ρ a → c.wp P (liftQ N Q) a w

def find3 (id : Nat) : List (Nat × List Nat × List Nat) → Option (List Nat × List Nat)
  | [] => none
  | (i, x) :: r => if i == id then some x else find3 id r

def decompR (P : Program) (N : Nat) (id : Nat) (ops : Array Oper) (draw : Bool) (kp pm : List Nat) : Option IR :=
  if draw then
    if Region.noSelect ops && pmOk ops pm && P.follows .mixedOrders then
      match resD P N ops pm ops.size (Array.replicate ops.size false) with
      | some t => match t.toS with
        | some st => some (.reg true st kp)
        | none => some (.dr t kp)
      | none => some (.raw (.region id ops draw))
    else some (.raw (.region id ops draw))
  else (resAll P N ops ops.toList).map (.reg false · kp)

def decomp (P : Program) (N : Nat) (H : List (Nat × List Nat × List Nat)) : Code → Option IR
  | .skip => some .skip
  | .ret => some .ret
  | .exit id => some (.exit id)
  | .seq a b => (decomp P N H a).bind fun x => (decomp P N H b).map (.seq x)
  | .cond c a b => (decomp P N H a).bind fun x => (decomp P N H b).map (.cond (toO c) x)
  | .block id a => (decomp P N H a).map (.block id)
  | .loop a => (decomp P N H a).map .loop
  | .region id ops draw => (find3 id H).bind fun x => decompR P N id ops draw x.1 x.2
  | c => some (.raw c)

section
variable {P : Program} {N : Nat}

theorem least {p : Nat → Prop} (h : ∃ n, p n) : ∃ n, p n ∧ ∀ m, m < n → ¬ p m := by
  obtain ⟨n, hn⟩ := h
  induction n using Nat.strongRecOn with
  | _ n ih =>
    by_cases hm : ∃ m, m < n ∧ p m
    · obtain ⟨m, h1, h2⟩ := hm; exact ih m h1 h2
    · exact ⟨n, hn, fun m h1 h2 => hm ⟨m, h1, h2⟩⟩

open Classical in
theorem wp_loop_idx {c : Code} {Q : Exit → Act → World → Prop} {a : Act} {w : World} (I : Nat → Act → World → Prop) (n : Nat) (h0 : I n a w)
    (round : ∀ n a w, I n a w → c.wp P (Exit.then (fun a' w' => ∃ m, m < n ∧ I m a' w') Q) a w) : (Code.loop c).wp P Q a w := by
  refine wp_loop (fun a w => ∃ n, I n a w) (fun a w => if h : ∃ n, I n a w then Classical.choose (least h) else 0) ⟨n, h0⟩ ?_
  intro a w h
  have hl := Classical.choose_spec (least h)
  have hmu : (if h : ∃ n, I n a w then Classical.choose (least h) else 0) = Classical.choose (least h) := dif_pos h
  refine wp_mono (round _ a w hl.1) ?_
  intro e a' w' hq
  cases e with
  | normal =>
    obtain ⟨m, hm, hI⟩ := hq
    have hex : ∃ n, I n a' w' := ⟨m, hI⟩
    refine ⟨hex, ?_⟩
    show (if h : ∃ n, I n a' w' then Classical.choose (least h) else 0) < (if h : ∃ n, I n a w then Classical.choose (least h) else 0)
    rw [hmu, dif_pos hex]
    have h2 := Classical.choose_spec (least hex)
    have : Classical.choose (least hex) ≤ m := by
      rcases Nat.lt_or_ge m (Classical.choose (least hex)) with hlt | hge
      · exact absurd hI (h2.2 m hlt)
      · exact hge
    omega
  | _ => exact hq

theorem decomp_sound {H : List (Nat × List Nat × List Nat)} : ∀ (c : Code) (ir : IR) (Q : Post) (ρ : Env) (a : Act) (w : World), decomp P N H c = some ir → irwp P N ir Q ρ w → Good N ρ a → c.wp P (liftQ N Q) a w := by
  intro c
  induction c with
  | skip => intro ir Q ρ a w h hw hg; simp only [decomp, Option.some.injEq] at h; subst h; exact wp_skip ⟨ρ, hg, hw⟩
  | ret => intro ir Q ρ a w h hw hg; simp only [decomp, Option.some.injEq] at h; subst h; exact wp_ret ⟨ρ, hg, hw⟩
  | exit id => intro ir Q ρ a w h hw hg; simp only [decomp, Option.some.injEq] at h; subst h; exact wp_exit ⟨ρ, hg, hw⟩
  | seq x y ihx ihy =>
    intro ir Q ρ a w h hw hg
    simp only [decomp] at h
    obtain ⟨a1, h1, h⟩ := Option.bind_eq_some_iff.1 h
    obtain ⟨b1, h2, h⟩ := Option.map_eq_some_iff.1 h
    subst h
    refine wp_seq (wp_mono (ihx a1 _ ρ a w h1 hw hg) ?_)
    intro e a' w' hq
    obtain ⟨ρ', hg', hq⟩ := hq
    cases e with
    | normal => exact ihy b1 Q ρ' a' w' h2 hq hg'
    | _ => exact ⟨ρ', hg', hq⟩
  | cond c x y ihx ihy =>
    intro ir Q ρ a w h hw hg
    simp only [decomp] at h
    obtain ⟨a1, h1, h⟩ := Option.bind_eq_some_iff.1 h
    obtain ⟨b1, h2, h⟩ := Option.map_eq_some_iff.1 h
    subst h
    obtain ⟨t, hc, ht, hf⟩ := hw
    have he := hg.agree c _ hc
    exact wp_cond_split he (fun e => ihx a1 Q ρ a w h1 (ht e) hg) (fun e => ihy b1 Q ρ a w h2 (hf e) hg)
  | block id x ih =>
    intro ir Q ρ a w h hw hg
    simp only [decomp] at h
    obtain ⟨a1, h1, h⟩ := Option.map_eq_some_iff.1 h
    subst h
    refine wp_block (wp_mono (ih a1 _ ρ a w h1 hw hg) ?_)
    intro e a' w' hq
    obtain ⟨ρ', hg', hq⟩ := hq
    cases e with
    | exit id' =>
      simp only [Exit.inBlock, blkQ] at hq ⊢
      split
      · rename_i hh; rw [if_pos hh] at hq; exact ⟨ρ', hg', hq⟩
      · rename_i hh; rw [if_neg hh] at hq; exact ⟨ρ', hg', hq⟩
    | _ => exact ⟨ρ', hg', hq⟩
  | loop x ih =>
    intro ir Q ρ a w h hw hg
    simp only [decomp] at h
    obtain ⟨a1, h1, h⟩ := Option.map_eq_some_iff.1 h
    subst h
    obtain ⟨I, n, h0, hr⟩ := hw
    refine wp_loop_idx (fun n a w => ∃ ρ, Good N ρ a ∧ I n ρ w) n ⟨ρ, hg, h0⟩ ?_
    rintro n a w ⟨ρ, hg, hI⟩
    refine wp_mono (ih a1 _ ρ a w h1 (hr n ρ w hI) hg) ?_
    intro e a' w' hq
    obtain ⟨ρ', hg', hq⟩ := hq
    cases e with
    | normal => obtain ⟨m, hm, hI⟩ := hq; exact ⟨m, hm, ρ', hg', hI⟩
    | _ => exact ⟨ρ', hg', hq⟩
  | region id ops draw =>
    intro ir Q ρ a w h hw hg
    simp only [decomp] at h
    obtain ⟨x, hx, h0⟩ := Option.bind_eq_some_iff.1 h
    clear h
    have h := h0
    clear h0
    obtain ⟨kp, pm⟩ := x
    unfold decompR at h
    have fin : ∀ ρ' a' w', Good N ρ' a' → Q .normal (ρ'.keep kp) w' → liftQ N Q .normal a' w' := fun ρ' a' w' hg' hq => ⟨_, hg'.keep kp, hq⟩
    split at h
    · rename_i hd
      subst hd
      split at h
      · rename_i hc
        simp only [Bool.and_eq_true] at hc
        obtain ⟨⟨hs, hpm⟩, hm⟩ := hc
        split at h
        · rename_i t ht
          split at h
          · rename_i st hst
            simp only [Option.some.injEq] at h; subst h
            refine region_draw (K := fun ρ w => Q .normal (ρ.keep kp) w) hm hpm hs ht (toS_sound t st ρ _ [] hst ?_) hg fin
            exact hw
          · simp only [Option.some.injEq] at h; subst h
            exact region_draw (K := fun ρ w => Q .normal (ρ.keep kp) w) hm hpm hs ht hw hg fin
        · simp only [Option.some.injEq] at h; subst h; exact hw a hg
      · simp only [Option.some.injEq] at h; subst h; exact hw a hg
    · rename_i hd
      have : draw = false := by simpa using hd
      subst this
      obtain ⟨st, hst, h⟩ := Option.map_eq_some_iff.1 h
      subst h
      exact wp_region_list (resAll_sound ops.toList st ρ a w (fun ρ w => Q .normal (ρ.keep kp) w) hst hw hg fin)
  | _ =>
    intro ir Q ρ a w h hw hg
    simp only [decomp, Option.some.injEq] at h
    subst h
    exact hw a hg

/-! ### results and entry -/
inductive RV where
  | t (s : Nat)
  | l (s : Nat)
  | n (s k : Nat)
  deriving Inhabited
def RV.ev (w : World) (ρ : Env) : RV → Option Value
  | .t s => ρ.get s
  | .l s => (ρ.get s).bind (vL1 w)
  | .n s k => (ρ.get s).bind (vLN w k)
def rvs (w : World) (ρ : Env) : List RV → Option (List Value)
  | [] => some []
  | x :: l => match x.ev w ρ, rvs w ρ l with
    | some v, some vs => some (v :: vs)
    | _, _ => none
def one? : List Value → Value
  | [v] => v
  | vs => .tuple vs.toArray
def resRV (P : Program) : List ResultVar → Option (List RV)
  | [] => some []
  | .tmp t :: l => (resRV P l).map (RV.t t :: ·)
  | .cell a t :: l => match P.underlying t, szOf P t with
    | some d, some n => (resRV P l).map ((if aggB d then RV.n a n else RV.l a) :: ·)
    | _, _ => none

theorem resRV_sound {ρ : Env} {a : Act} {w : World} (hg : Good N ρ a) : ∀ (l : List ResultVar) (rs : List RV) (vs : List Value), resRV P l = some rs → rvs w ρ rs = some vs →
    ro P w (l.mapM (fun | .tmp t => pure (a.tmps.getD t undef) | .cell c t => do loadVar t (← asAddr (a.tmps.getD c undef)) : ResultVar → Sem Value)) = some vs := by
  intro l
  induction l with
  | nil =>
    intro rs vs h1 h2
    simp only [resRV, Option.some.injEq] at h1; subst h1
    simp only [rvs, Option.some.injEq] at h2; subst h2
    simp
  | cons x l ih =>
    intro rs vs h1 h2
    have getD_of : ∀ s u, ρ.get s = some u → a.tmps.getD s undef = u := by
      intro s u hu
      have := hg.get s u hu
      simp [this]
    cases x with
    | tmp t =>
      simp only [resRV] at h1
      obtain ⟨rs', h3, h1⟩ := Option.map_eq_some_iff.1 h1
      subst h1
      simp only [rvs] at h2
      split at h2
      · rename_i v vs' e1 e2
        cases h2
        simp only [RV.ev] at e1
        simp only [List.mapM_cons, ro_bind, ro_pure, Option.bind_some, ih rs' vs' h3 e2, getD_of t v e1]
      · cases h2
    | cell c t =>
      simp only [resRV] at h1
      split at h1
      · rename_i d n hd hn
        obtain ⟨rs', h3, h1⟩ := Option.map_eq_some_iff.1 h1
        subst h1
        simp only [rvs] at h2
        split at h2
        · rename_i v vs' e1 e2
          cases h2
          have key : ro P w (do loadVar t (← asAddr (a.tmps.getD c undef))) = some v := by
            cases hb : aggB d with
            | true =>
              simp only [hb, if_true, RV.ev] at e1
              obtain ⟨u, hu, e1⟩ := Option.bind_eq_some_iff.1 e1
              rw [getD_of c u hu]
              unfold vLN at e1
              split at e1
              · rename_i ad
                obtain ⟨cs, hcs, e1⟩ := Option.map_eq_some_iff.1 e1
                subst e1
                unfold szOf at hn
                simp only [asAddr, ro_bind, ro_pure, Option.bind_some, loadVar, ro_isAgg, hd, Option.map_some, hb, if_true, ro_sizeOf, hn, ro_loadCells, hcs]
              · cases e1
            | false =>
              simp only [hb, Bool.false_eq_true, if_false, RV.ev] at e1
              obtain ⟨u, hu, e1⟩ := Option.bind_eq_some_iff.1 e1
              rw [getD_of c u hu]
              unfold vL1 at e1
              split at e1
              · rename_i ad
                simp only [asAddr, ro_bind, ro_pure, Option.bind_some, loadVar, ro_isAgg, hd, Option.map_some, hb, Bool.false_eq_true, if_false, ro_load, e1]
              · cases e1
          simp only [List.mapM_cons, ro_bind, key, ro_pure, Option.bind_some, ih rs' vs' h3 e2]
        · cases h2
      · cases h1

/-- A call that hands a value back, no other way. -/
def CallsR (P : Program) (f : FuncId) (args : List Value) (w : World) (R : Value → World → Prop) : Prop :=
  Calls P f args.toArray w fun e w' => ∃ v, e = .returned v ∧ R v w'
theorem CallsR.mono {f : FuncId} {args : List Value} {w : World} {R R' : Value → World → Prop} (h : CallsR P f args w R) (hr : ∀ v w', R v w' → R' v w') : CallsR P f args w R' :=
  Calls.mono h fun e w' ⟨v, he, hv⟩ => ⟨v, he, hr _ _ hv⟩

def argEnv : Nat → List Value → Env
  | _, [] => []
  | i, v :: l => (i, v) :: argEnv (i + 1) l
def finQ (rs : List RV) (R : Value → World → Prop) : Post
  | .normal, ρ, w => ∃ vs, rvs w ρ rs = some vs ∧ R (one? vs) w
  | .ret, ρ, w => ∃ vs, rvs w ρ rs = some vs ∧ R (one? vs) w
  | _, _, _ => False

theorem argEnv_get : ∀ (l : List Value) (i t : Nat) (v : Value), (argEnv i l).get t = some v → i ≤ t ∧ l[t - i]? = some v := by
  intro l
  induction l with
  | nil => intro i t v h; simp [argEnv, Env.get] at h
  | cons x l ih =>
    intro i t v h
    simp only [argEnv, Env.get] at h
    split at h
    · rename_i hit; subst hit; exact ⟨Nat.le_refl _, by simpa using h⟩
    · obtain ⟨h1, h2⟩ := ih (i + 1) t v h
      refine ⟨by omega, ?_⟩
      rw [show t - i = (t - (i + 1)) + 1 by omega]
      simpa using h2

structure Fits (P : Program) (f : Nat) (nargs : Nat) (H : List (Nat × List Nat × List Nat)) (ir : IR) (rs : List RV) (N : Nat) : Prop where
  go : ∃ fn c, P.funcs[f]? = some fn ∧ fn.body = some c ∧ fn.ntmps = N ∧ nargs ≤ N ∧ decomp P N H c = some ir ∧ resRV P fn.results.toList = some rs

theorem Fits.calls {f : Nat} {nargs : Nat} {H : List (Nat × List Nat × List Nat)} {ir : IR} {rs : List RV} (h : Fits P f nargs H ir rs N) {args : List Value} (hn : args.length = nargs) {w : World} {R : Value → World → Prop}
    (hw : irwp P N ir (finQ rs R) (argEnv 0 args) w) : CallsR P f args w R := by
  obtain ⟨fn, c, hf, hb, hN, hle, hd, hrs⟩ := h.go
  refine calls_of_wp hf hb ?_
  have hg : Good N (argEnv 0 args) { tmps := args.toArray ++ Array.replicate (fn.ntmps - args.toArray.size) undef, defers := [] } := by
    refine ⟨?_, rfl, ?_⟩
    · simp only [Array.size_append, List.size_toArray, Array.size_replicate]; omega
    · intro t v ht
      obtain ⟨_, h2⟩ := argEnv_get args 0 t v ht
      have hlt : t < args.length := by
        rcases Nat.lt_or_ge t args.length with h | h
        · exact h
        · simp [List.getElem?_eq_none h] at h2
      simp only [Nat.sub_zero] at h2
      rw [Array.getElem?_append_left (by simpa using hlt)]
      simpa using h2
  refine wp_mono (decomp_sound c ir _ _ _ _ hd hw hg) ?_
  intro e a' w' hq
  obtain ⟨ρ', hg', hq⟩ := hq
  have fin : (∃ vs, rvs w' ρ' rs = some vs ∧ R (one? vs) w') → a'.defers = [] ∧ ∃ v, (results fn a'.tmps).run P w' = .ok v w' ∧ ∃ u, Ending.returned v = .returned u ∧ R u w' := by
    rintro ⟨vs, h1, h2⟩
    refine ⟨hg'.defers, one? vs, ro_run ?_, _, rfl, h2⟩
    unfold results
    rw [ro_bind, Array.mapM_eq_mapM_toList, ro_map]
    have := resRV_sound (P := P) hg' fn.results.toList rs vs hrs h1
    refine Eq.trans (congrArg (fun o : Option (List Value) => (o.map List.toArray).bind fun vs => ro P w' (pure (if h : vs.size = 1 then vs[0] else .tuple vs) : Sem Value)) this) ?_
    simp only [Option.map_some, Option.bind_some, ro_pure, List.size_toArray, Option.some.injEq]
    match vs with
    | [] => rfl
    | [v] => rfl
    | v :: u :: l => simp [one?]
  cases e with
  | normal => exact fin hq
  | ret => exact fin hq
  | _ => exact hq.elim
end
end Go.W
