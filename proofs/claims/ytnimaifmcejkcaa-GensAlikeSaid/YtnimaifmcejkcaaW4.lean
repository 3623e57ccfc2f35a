/- The engine, part 4: lists of resolved steps, in order and in drawn orders. -/
import Derived.Test.YtnimaifmcejkcaaW3
set_option linter.unusedSimpArgs false
set_option linter.unusedVariables false
namespace Go.W
open Go

/-! ### frames -/
structure Good (N : Nat) (ρ : Env) (a : Act) : Prop where
  size : a.tmps.size = N
  defers : a.defers = []
  get : ∀ t v, ρ.get t = some v → a.tmps[t]? = some v

theorem Good.agree {N : Nat} {ρ : Env} {a : Act} (h : Good N ρ a) : Agree ρ a := by
  intro x u hu
  cases x with
  | tmp t =>
    have := h.get t u hu
    simp [Act.eval, this]
  | const v => simpa [toO, O.ev, Act.eval] using hu
  | global g => simpa [toO, O.ev, Act.eval] using hu
  | func f => simpa [toO, O.ev, Act.eval] using hu

theorem Good.put {N : Nat} {ρ : Env} {a : Act} (h : Good N ρ a) (d : Option Nat) (v : Value) (hd : ∀ t, d = some t → t < N) : Good N (ρ.put d v) (a.put d v) := by
  cases d with
  | none => exact h
  | some d =>
    refine ⟨by simp [Act.put, h.size], h.defers, fun t u hu => ?_⟩
    simp only [Env.put, Env.get] at hu
    by_cases hdt : d = t
    · subst hdt
      simp only [if_true, Option.some.injEq] at hu; subst hu
      have := hd d rfl
      simp [Act.put, h.size, this]
    · rw [if_neg hdt] at hu
      simp only [Act.put, Array.getElem?_setIfInBounds_ne hdt]
      exact h.get t u hu

theorem get_keep (ρ : Env) : ∀ (ts : List Nat) (t : Nat) (v : Value), (ρ.keep ts).get t = some v → ρ.get t = some v := by
  intro ts
  induction ts with
  | nil => intro t v h; simp [Env.keep, Env.get] at h
  | cons s ts ih =>
    intro t v h
    simp only [Env.keep] at h
    split at h
    · rename_i u hu
      simp only [Env.get] at h
      split at h
      · rename_i hst; subst hst; rw [← h]; exact hu
      · exact ih t v h
    · exact ih t v h

theorem Good.keep {N : Nat} {ρ : Env} {a : Act} (h : Good N ρ a) (ts : List Nat) : Good N (ρ.keep ts) a :=
  ⟨h.size, h.defers, fun t v hv => h.get t v (get_keep ρ ts t v hv)⟩

/-! ### effects are monotone; endings that are not wanted -/
theorem upon_noQ {P : Program} {o : Oper} {a : Act} {K : Act → World → Prop} {Q : Exit → Act → World → Prop} {r : Result Next} (h : o.upon P a K NoQ r) : o.upon P a K Q r := by
  cases r with
  | ok n w' =>
    cases n <;> simp only [Oper.upon] at h ⊢ <;> first
      | exact h
      | exact Calls.mono h (fun e w'' he => by
          cases e with
          | returned v => exact he
          | panicked c => exact False.elim he
          | outgrown => obtain ⟨_, _, hf⟩ := he; exact False.elim hf)
  | halt x w' => cases x <;> simp only [Oper.upon] at h ⊢ <;> exact False.elim h

theorem wp_noQ {P : Program} {o : Oper} {a : Act} {w : World} {K : Act → World → Prop} {Q : Exit → Act → World → Prop} (h : o.wp P a w K NoQ) : o.wp P a w K Q := upon_noQ h

theorem E.mono {P : Program} {w : World} {ρ : Env} {K K' : Value → World → Prop} (hk : ∀ v w', K v w' → K' v w') (e : E) (h : e.wp P w ρ K) : e.wp P w ρ K' := by
  cases e with
  | st n x y => obtain ⟨a, v, cs, T, h1, h2, h3, h4, h5, h6, h7⟩ := h; exact ⟨a, v, cs, T, h1, h2, h3, h4, h5, h6, hk _ _ h7⟩
  | bx t x => obtain ⟨v, h1, h2⟩ := h; exact ⟨v, h1, hk _ _ h2⟩
  | al t z => exact hk _ _ h
  | bs el len cells parts => obtain ⟨ps, cs, h1, h2, h3⟩ := h; exact ⟨ps, cs, h1, h2, hk _ _ h3⟩
  | ms el sz bytes zero l c => obtain ⟨kl, kc, ln, cn, h1, h2, h3, h4, h5, h6, h7⟩ := h; exact ⟨kl, kc, ln, cn, h1, h2, h3, h4, h5, h6, hk _ _ h7⟩
  | ap el sz bytes zero s x =>
    obtain ⟨sa, n, cap, xa, m, c, olds, news, h1, h2, h3, h4, h5, h6, h7, h8, h9, k0, k1, k2⟩ := h
    exact ⟨sa, n, cap, xa, m, c, olds, news, h1, h2, h3, h4, h5, h6, h7, h8, h9, fun a b => hk _ _ (k0 a b),
      fun a b hb => let ⟨cs, T, r1, r2, r3⟩ := k1 a b hb; ⟨cs, T, r1, r2, hk _ _ r3⟩, fun a nc w1 b c => hk _ _ (k2 a nc w1 b c)⟩
  | cp sz d s =>
    obtain ⟨da, dn, dc, sa, sn, sc, news, h1, h2, h3, h4, h5, k0, k1⟩ := h
    exact ⟨da, dn, dc, sa, sn, sc, news, h1, h2, h3, h4, h5, fun a => hk _ _ (k0 a), fun a b => let ⟨cs, T, r1, r2, r3⟩ := k1 a b; ⟨cs, T, r1, r2, hk _ _ r3⟩⟩
  | call f args => obtain ⟨vs, h1, h2⟩ := h; exact ⟨vs, h1, h2.mono fun e w' ⟨v, e1, e2⟩ => ⟨v, e1, hk _ _ e2⟩⟩
  | raw o => exact opWp_mono hk h

/-! ### steps in order -/
inductive S where
  | r (d : Option Nat) (r : R)
  | e (d : Option Nat) (e : E)
  | gr (s : Nat) (b : Bool) (d : Option Nat) (r : R)
  | ge (s : Nat) (b : Bool) (d : Option Nat) (e : E)
  deriving Inhabited

def isB : Value → Bool → Bool
  | .bool c, b => c == b
  | _, _ => false

def wpS (P : Program) : List S → Env → World → (Env → World → Prop) → Prop
  | [], ρ, w, K => K ρ w
  | .r d r :: l, ρ, w, K => ∃ v, r.ev w ρ = some v ∧ wpS P l (ρ.put d v) w K
  | .e d e :: l, ρ, w, K => e.wp P w ρ fun v w' => wpS P l (ρ.put d v) w' K
  | .gr s b d r :: l, ρ, w, K => ∃ c, ρ.get s = some c ∧ (isB c b = true → ∃ v, r.ev w ρ = some v ∧ wpS P l (ρ.put d v) w K) ∧ (isB c b = false → wpS P l (ρ.put d undef) w K)
  | .ge s b d e :: l, ρ, w, K => ∃ c, ρ.get s = some c ∧ (isB c b = true → e.wp P w ρ fun v w' => wpS P l (ρ.put d v) w' K) ∧ (isB c b = false → wpS P l (ρ.put d undef) w K)

/-- One operation: its guard's slot, its place, what it is. -/
def dstOk (N : Nat) : Option Nat → Bool
  | none => true
  | some d => decide (d < N)
def resS (P : Program) (N : Nat) (ops : Array Oper) (o : Oper) : Option S :=
  if dstOk N o.dst then
    match o.guard with
    | none => match res P o.op with
      | some r => some (.r o.dst r)
      | none => some (.e o.dst (resE P o))
    | some (j, want) => match (ops[j]?).bind (·.dst) with
      | some s => match res P o.op with
        | some r => some (.gr s want o.dst r)
        | none => some (.ge s want o.dst (resE P o))
      | none => none
  else none
def resAll (P : Program) (N : Nat) (ops : Array Oper) : List Oper → Option (List S)
  | [] => some []
  | o :: l => match resS P N ops o, resAll P N ops l with
    | some s, some t => some (s :: t)
    | _, _ => none

section
variable {P : Program} {N : Nat} {ops : Array Oper} {ρ : Env} {a : Act} {w : World}

theorem dstOk_spec {d : Option Nat} (h : dstOk N d = true) : ∀ t, d = some t → t < N := by
  intro t ht; subst ht; simpa [dstOk] using h

theorem wanted_of {o : Oper} {j s : Nat} {want : Bool} {c : Value} (hg : o.guard = some (j, want)) (hs : (ops[j]?).bind (·.dst) = some s) (hG : Good N ρ a) (hc : ρ.get s = some c) :
    Region.wanted o (yielded ops a.tmps) = isB c want := by
  have h1 := hG.get s _ hc
  simp only [Region.wanted, hg, yielded, hs, Option.bind_some, h1]
  cases c <;> first | rfl | (rename_i b; cases b <;> cases want <;> rfl)

theorem resAll_sound {Q : Exit → Act → World → Prop} : ∀ (l : List Oper) (st : List S) (ρ : Env) (a : Act) (w : World) (K : Env → World → Prop), resAll P N ops l = some st → wpS P st ρ w K → Good N ρ a →
    (∀ ρ' a' w', Good N ρ' a' → K ρ' w' → Q .normal a' w') → wpList P ops Q l a w := by
  intro l
  induction l with
  | nil =>
    intro st ρ a w K h1 h2 h3 h4
    simp only [resAll, Option.some.injEq] at h1; subst h1
    exact h4 _ _ _ h3 h2
  | cons o l ih =>
    intro st ρ a w K h1 h2 h3 h4
    simp only [resAll] at h1
    split at h1
    · rename_i s t hs ht
      simp only [Option.some.injEq] at h1; subst h1
      unfold resS at hs
      split at hs
      · rename_i hd
        have hd' := dstOk_spec hd
        split at hs
        · rename_i hg
          have hw : Region.wanted o (yielded ops a.tmps) = true := by simp [Region.wanted, hg]
          unfold wpList
          rw [if_pos hw]
          left
          split at hs
          · rename_i r hr
            simp only [Option.some.injEq] at hs; subst hs
            obtain ⟨v, hv, hk⟩ := h2
            refine wp_noQ (Oper.wp_mono ?_ (opWp_of_ro (K := fun v' w' => v' = v ∧ w' = w) hr hv ⟨rfl, rfl⟩ a h3.agree))
            rintro a' w' ⟨v', rfl, rfl, rfl⟩
            exact ih t _ _ _ K ht hk (h3.put _ _ hd') h4
          · simp only [Option.some.injEq] at hs; subst hs
            refine wp_noQ (Oper.wp_mono ?_ (resE_sound h2 a h3.agree))
            rintro a' w' ⟨v', rfl, hk⟩
            exact ih t _ _ _ K ht hk (h3.put _ _ hd') h4
        · rename_i j want hg
          split at hs
          · rename_i s' hs'
            split at hs
            · rename_i r hr
              simp only [Option.some.injEq] at hs; subst hs
              obtain ⟨c, hc, hy, hn⟩ := h2
              have hw := wanted_of hg hs' h3 hc
              unfold wpList
              by_cases hcw : isB c want = true
              · rw [if_pos (by rw [hw, hcw])]
                left
                obtain ⟨v, hv, hk⟩ := hy hcw
                refine wp_noQ (Oper.wp_mono ?_ (opWp_of_ro (K := fun v' w' => v' = v ∧ w' = w) hr hv ⟨rfl, rfl⟩ a h3.agree))
                rintro a' w' ⟨v', rfl, rfl, rfl⟩
                exact ih t _ _ _ K ht hk (h3.put _ _ hd') h4
              · rw [if_neg (by rw [hw]; exact hcw)]
                exact ih t _ _ _ K ht (hn (by simpa using hcw)) (h3.put _ _ hd') h4
            · simp only [Option.some.injEq] at hs; subst hs
              obtain ⟨c, hc, hy, hn⟩ := h2
              have hw := wanted_of hg hs' h3 hc
              unfold wpList
              by_cases hcw : isB c want = true
              · rw [if_pos (by rw [hw, hcw])]
                left
                refine wp_noQ (Oper.wp_mono ?_ (resE_sound (hy hcw) a h3.agree))
                rintro a' w' ⟨v', rfl, hk⟩
                exact ih t _ _ _ K ht hk (h3.put _ _ hd') h4
              · rw [if_neg (by rw [hw]; exact hcw)]
                exact ih t _ _ _ K ht (hn (by simpa using hcw)) (h3.put _ _ hd') h4
          · cases hs
      · cases hs
    · cases h1

/-! ### drawn orders -/
def R.isMem : R → Bool
  | .l1 _ => true
  | .ln _ _ => true
  | .lnm _ => true
  | _ => false
def R.blk (ρ : Env) : R → Option Nat
  | .l1 x => match x.ev ρ with | some (.pointer (some a)) => some a.block | _ => none
  | .ln _ x => match x.ev ρ with | some (.pointer (some a)) => some a.block | _ => none
  | .lnm x => match x.ev ρ with | some (.map (some r)) => some r | _ => none
  | _ => none

theorem cell?_congr {w w' : World} {a : Addr} (h : w'.heap[a.block]? = w.heap[a.block]?) : w'.cell? a = w.cell? a := by simp [World.cell?, h]
theorem add_block (a : Addr) (n : Nat) : (a.add n).block = a.block := by unfold Addr.add; split <;> rfl
theorem cellsFrom_congr {w w' : World} {a : Addr} (h : w'.heap[a.block]? = w.heap[a.block]?) : ∀ (n i : Nat) (acc : Array Value), cellsFrom w' a i n acc = cellsFrom w a i n acc := by
  intro n
  induction n with
  | zero => intro i acc; rfl
  | succ n ih =>
    intro i acc
    simp only [cellsFrom]
    have e1 : w'.cell? (a.add i) = w.cell? (a.add i) := cell?_congr (by rw [add_block]; exact h)
    rw [e1]
    cases w.cell? (a.add i) with
    | none => rfl
    | some v => exact ih _ _

theorem ev_kept {w w' : World} {r : R} {v : Value} (h : r.ev w ρ = some v) (hk : ∀ b, r.blk ρ = some b → w'.heap[b]? = w.heap[b]?) : r.ev w' ρ = some v := by
  cases r with
  | l1 x =>
    simp only [R.ev] at h ⊢
    obtain ⟨u, hu, hv⟩ := Option.bind_eq_some_iff.1 h
    rw [hu, Option.bind_some]
    unfold vL1 at *
    cases u with
    | pointer ad =>
      cases ad with
      | none => cases hv
      | some ad =>
        simp only at *
        rw [cell?_congr (hk ad.block (by simp [R.blk, hu]))]; exact hv
    | _ => cases hv
  | ln n x =>
    simp only [R.ev] at h ⊢
    obtain ⟨u, hu, hv⟩ := Option.bind_eq_some_iff.1 h
    rw [hu, Option.bind_some]
    unfold vLN at *
    cases u with
    | pointer ad =>
      cases ad with
      | none => cases hv
      | some ad =>
        simp only at *
        rw [cellsFrom_congr (hk ad.block (by simp [R.blk, hu]))]; exact hv
    | _ => cases hv
  | lnm x =>
    simp only [R.ev] at h ⊢
    obtain ⟨u, hu, hv⟩ := Option.bind_eq_some_iff.1 h
    rw [hu, Option.bind_some]
    unfold vLnm at *
    cases u with
    | map m =>
      cases m with
      | none => exact hv
      | some rr =>
        simp only at *
        rw [hk rr (by simp [R.blk, hu])]; exact hv
    | _ => cases hv
  | _ => exact h

/-- One operation of a game: it comes up, whatever its guard says. -/
def gOp (P : Program) (ops : Array Oper) (i : Nat) (K : Act → World → Prop) (a : Act) (w : World) : Prop :=
  ∃ o, ops[i]? = some o ∧ if Region.wanted o (yielded ops a.tmps) then o.wp P a w K NoQ else K (a.put o.dst undef) w

def Kept (B : Nat → Prop) (w w' : World) : Prop := ∀ b, B b → w'.heap[b]? = w.heap[b]?

def wpAnyB (P : Program) (ops : Array Oper) (B : Nat → Nat → Prop) (Q : Act → World → Prop) : Nat → Array Bool → Act → World → Prop
  | 0, listed, a, w => Region.ready .any ops listed = [] ∧ Q a w
  | f + 1, listed, a, w => (Region.ready .any ops listed = [] → Q a w) ∧
    ∀ i ∈ Region.ready .any ops listed, gOp P ops i (fun a' w' => Kept (B i) w w' ∧ wpAnyB P ops B Q f (listed.setIfInBounds i true) a' w') a w

theorem gOp_mono {i : Nat} {K K' : Act → World → Prop} (h : ∀ a w, K a w → K' a w) (hg : gOp P ops i K a w) : gOp P ops i K' a w := by
  obtain ⟨o, ho, h1⟩ := hg
  refine ⟨o, ho, ?_⟩
  split
  · rename_i hw; rw [if_pos hw] at h1; exact Oper.wp_mono h h1
  · rename_i hw; rw [if_neg hw] at h1; exact h _ _ h1

theorem wpAny_of_B {B : Nat → Nat → Prop} {Q : Act → World → Prop} {Q' : Exit → Act → World → Prop} (hQ : ∀ a w, Q a w → Q' .normal a w) :
    ∀ (f : Nat) (listed : Array Bool) (a : Act) (w : World), wpAnyB P ops B Q f listed a w → wpAny P .any ops Q' f listed a w := by
  intro f
  induction f with
  | zero => intro listed a w h; exact ⟨h.1, hQ _ _ h.2⟩
  | succ f ih =>
    intro listed a w h
    refine ⟨fun h0 => hQ _ _ (h.1 h0), fun i hi => ?_⟩
    obtain ⟨o, ho, hg⟩ := h.2 i hi
    unfold wpOp
    simp only [ho]
    split
    · rename_i hw; rw [if_pos hw] at hg
      exact .inl (wp_noQ (Oper.wp_mono (fun a' w' hh => ih _ _ _ hh.2) hg))
    · rename_i hw; rw [if_neg hw] at hg; exact ih _ _ _ hg.2

/-- In whatever world that has these blocks as they are, the operation yields v. -/
def YieldsC (P : Program) (ops : Array Oper) (bs : Nat → Prop) (c : Nat → Option Obj) (o : Oper) (v : Value) (a : Act) : Prop :=
  (Region.wanted o (yielded ops a.tmps) = true ∧ ∀ w : World, (∀ b, bs b → w.heap[b]? = c b) → (execOp a.eval o).run P w = .ok (.value v) w) ∨
  (Region.wanted o (yielded ops a.tmps) = false ∧ v = undef)

theorem YieldsC.same {bs : Nat → Prop} {c : Nat → Option Obj} {o : Oper} {v : Value} {a a' : Act} (h : YieldsC P ops bs c o v a) (he : execOp a'.eval o = execOp a.eval o)
    (hw : Region.wanted o (yielded ops a'.tmps) = Region.wanted o (yielded ops a.tmps)) : YieldsC P ops bs c o v a' := by
  unfold YieldsC at *
  rw [he, hw]
  exact h

theorem gOp_put {bs : Nat → Prop} {c : Nat → Option Obj} {j : Nat} {oi oj : Oper} {v : Value} (hj : ops[j]? = some oj) (hap : oi.apart ops oj = true)
    (hsi : ∀ cs b, oi.op ≠ .select cs b) (hsj : ∀ cs b, oj.op ≠ .select cs b) {K : Act → World → Prop} (hy : YieldsC P ops bs c oi v a) (h : gOp P ops j K (a.put oi.dst v) w) :
    gOp P ops j (fun a' w' => YieldsC P ops bs c oi v a' ∧ K (a'.put oi.dst v) w') a w := by
  obtain ⟨h1, h2, h3⟩ := Oper.apart_spec hap
  obtain ⟨o, ho, hg⟩ := h
  obtain rfl : o = oj := Option.some.inj (ho.symm.trans hj)
  refine ⟨o, hj, ?_⟩
  rw [wanted_put o a oi.dst v h1] at hg
  have keep : ∀ u, YieldsC P ops bs c oi v (a.put o.dst u) := fun u => hy.same (execOp_put oi hsi a o.dst u h3) (wanted_put oi a o.dst u h3)
  split
  · rename_i hw
    rw [if_pos hw] at hg
    unfold Oper.wp at *
    rw [execOp_put o hsj a oi.dst v h1] at hg
    generalize (execOp a.eval o).run P w = r at *
    cases r with
    | ok n w' =>
      cases n <;> simp only [Oper.upon] at hg ⊢
      case value u => exact ⟨keep u, by rw [← Act.put_comm a v u h2]; exact hg⟩
      case skip => exact ⟨keep _, by rw [← Act.put_comm a v undef h2]; exact hg⟩
      case defer d =>
        have hd : YieldsC P ops bs c oi v { a with defers := d :: a.defers } := hy.same rfl rfl
        refine ⟨hd.same (execOp_put oi hsi _ o.dst _ h3) (wanted_put oi _ o.dst _ h3), ?_⟩
        rw [← Act.put_comm _ v undef h2, ← Act.put_defers]
        exact hg
      case enter f args =>
        refine Calls.mono hg fun e w'' he => ?_
        cases e with
        | returned u => exact ⟨keep u, by rw [← Act.put_comm a v u h2]; exact he⟩
        | panicked c => exact he
        | outgrown => obtain ⟨_, _, hf⟩ := he; exact False.elim hf
      case row row args => exact Rows.mono hg fun u w'' he => ⟨keep u, by rw [← Act.put_comm a v u h2]; exact he⟩
    | halt x w' => cases x <;> simp only [Oper.upon] at hg ⊢ <;> exact hg
  · rename_i hw
    rw [if_neg hw] at hg
    exact ⟨keep _, by rw [← Act.put_comm a v undef h2]; exact hg⟩

def Closed (ops : Array Oper) (listed : Array Bool) : Prop :=
  ∀ j oj, ops[j]? = some oj → listed.getD j false = true → ∀ e ∈ oj.after, Region.binds .any e = true → listed.getD e.on false = true

/-- 'pm': of each operation, which ones it waits for (as bits); too few is allowed. -/
def pmOk (ops : Array Oper) (pm : List Nat) : Bool :=
  (List.range ops.size).all fun j => (List.range ops.size).all fun i => !(pm.getD j 0).testBit i ||
    match ops[j]? with
    | some o => o.after.any fun e => Region.binds .any e && (decide (e.on < j) && (e.on == i || (pm.getD e.on 0).testBit i))
    | none => false

theorem pm_listed {pm : List Nat} (hpm : pmOk ops pm = true) {listed : Array Bool} (hc : Closed ops listed) {i : Nat} (hi : i < ops.size) :
    ∀ (j : Nat), j < ops.size → (listed.getD j false = true ∨ j ∈ Region.ready .any ops listed) → (pm.getD j 0).testBit i = true → listed.getD i false = true := by
  intro j
  induction j using Nat.strongRecOn with
  | _ j ih =>
    intro hj hl ht
    have h1 := List.all_eq_true.1 (List.all_eq_true.1 hpm j (List.mem_range.2 hj)) i (List.mem_range.2 hi)
    rw [ht] at h1
    simp only [Bool.not_true, Bool.false_or] at h1
    split at h1
    · rename_i o ho
      obtain ⟨e, he, hb⟩ := Array.any_eq_true'.1 h1
      simp only [Bool.and_eq_true, decide_eq_true_eq, Bool.or_eq_true, beq_iff_eq] at hb
      obtain ⟨hb1, hlt, hb2⟩ := hb
      have hon : listed.getD e.on false = true := by
        rcases hl with hl | hl
        · exact hc j o ho hl e he hb1
        · obtain ⟨_, o', ho', hall⟩ := mem_ready.1 hl
          obtain rfl : o' = o := Option.some.inj (ho'.symm.trans ho)
          exact hall e he hb1
      rcases hb2 with hb2 | hb2
      · rw [← hb2]; exact hon
      · exact ih e.on hlt (by omega) (.inl hon) hb2
    · cases h1

theorem closed_set {listed : Array Bool} {i : Nat} (hc : Closed ops listed) (hi : i ∈ Region.ready .any ops listed) : Closed ops (listed.setIfInBounds i true) := by
  obtain ⟨_, oi, hoi, hall⟩ := mem_ready.1 hi
  intro j oj hj hl e he hb
  by_cases hij : i = j
  · subst hij
    obtain rfl : oj = oi := Option.some.inj (hj.symm.trans hoi)
    exact getD_set_true (hall e he hb)
  · rw [getD_set_ne false hij] at hl
    exact getD_set_true (hc j oj hj hl e he hb)

theorem unlisted_false {listed : Array Bool} {i : Nat} (h : listed.getD i true = false) : listed.getD i false = false := by
  rcases Nat.lt_or_ge i listed.size with h' | h'
  · simp [h'] at h ⊢; exact h
  · simp [Array.getElem?_eq_none h'] at h

theorem wpAnyB_first {pm : List Nat} (hpm : pmOk ops pm = true) {i : Nat} {oi : Oper} {v : Value} (hi : ops[i]? = some oi) (hsel : ∀ (j : Nat) (o : Oper) cs b, ops[j]? = some o → o.op ≠ .select cs b)
    {bs : Nat → Prop} {c : Nat → Option Obj} {B B' : Nat → Nat → Prop} {Q : Act → World → Prop} (hB : ∀ j b, B j b → B' j b)
    (hbs : ∀ j, (pm.getD j 0).testBit i = false → j ≠ i → ∀ b, bs b → B' j b) :
    ∀ (f : Nat) (listed : Array Bool) (a : Act) (w : World), Closed ops listed →
      (∀ j oj, ops[j]? = some oj → j ≠ i → listed.getD j true = false → (∀ e ∈ oj.after, Region.binds .any e = true → e.on ≠ i) → oi.apart ops oj = true) →
      i ∈ Region.ready .any ops listed → YieldsC P ops bs c oi v a → (∀ b, bs b → w.heap[b]? = c b) →
      wpAnyB P ops B' Q f (listed.setIfInBounds i true) (a.put oi.dst v) w → wpAnyB P ops B Q (f + 1) listed a w := by
  intro f
  have here : ∀ (f : Nat) (listed : Array Bool) (a : Act) (w : World), YieldsC P ops bs c oi v a → (∀ b, bs b → w.heap[b]? = c b) →
      wpAnyB P ops B Q f (listed.setIfInBounds i true) (a.put oi.dst v) w →
      gOp P ops i (fun a' w' => Kept (B i) w w' ∧ wpAnyB P ops B Q f (listed.setIfInBounds i true) a' w') a w := by
    intro f listed a w hy hw H
    refine ⟨oi, hi, ?_⟩
    rcases hy with ⟨h1, h2⟩ | ⟨h1, rfl⟩
    · rw [if_pos h1]
      unfold Oper.wp
      rw [h2 w hw]
      exact ⟨fun _ _ => rfl, H⟩
    · rw [if_neg (by simp [h1])]
      exact ⟨fun _ _ => rfl, H⟩
  have weak : ∀ (f : Nat) (listed : Array Bool) (a : Act) (w : World), wpAnyB P ops B' Q f listed a w → wpAnyB P ops B Q f listed a w := by
    intro f
    induction f with
    | zero => intro listed a w h; exact h
    | succ f ih =>
      intro listed a w h
      exact ⟨h.1, fun j hj => gOp_mono (fun a' w' hh => ⟨fun b hb => hh.1 b (hB j b hb), ih _ _ _ hh.2⟩) (h.2 j hj)⟩
  induction f with
  | zero =>
    intro listed a w hcl hfree hr hy hw H
    refine ⟨fun h => (by rw [h] at hr; cases hr), fun j hj => ?_⟩
    by_cases hji : j = i
    · subst hji; exact here 0 listed a w hy hw (weak _ _ _ _ H)
    · have := ready_mono hj hji
      rw [H.1] at this
      cases this
  | succ f ih =>
    intro listed a w hcl hfree hr hy hw H
    refine ⟨fun h => (by rw [h] at hr; cases hr), fun j hj => ?_⟩
    by_cases hji : j = i
    · subst hji; exact here _ listed a w hy hw (weak _ _ _ _ H)
    · have h1 := H.2 j (ready_mono hj hji)
      obtain ⟨hjun, oj, hoj, hall⟩ := mem_ready.1 hj
      have hiun := (mem_ready.1 hr).1
      have hisz : i < ops.size := (Array.getElem?_eq_some_iff.1 hi).1
      have hjsz : j < ops.size := (Array.getElem?_eq_some_iff.1 hoj).1
      have hnot : ∀ e ∈ oj.after, Region.binds .any e = true → e.on ≠ i := fun e he hb heq => by
        have h1 := hall e he hb
        rw [heq, unlisted_false hiun] at h1
        cases h1
      have hpmj : (pm.getD j 0).testBit i = false := by
        cases ht : (pm.getD j 0).testBit i with
        | false => rfl
        | true =>
          have := pm_listed hpm hcl hisz j hjsz (.inr hj) ht
          rw [unlisted_false hiun] at this
          cases this
      have h2 := gOp_put hoj (hfree j oj hoj hji hjun hnot) (fun cs b => hsel i oi cs b hi) (fun cs b => hsel j oj cs b hoj) hy h1
      have hfree' : ∀ k ok, ops[k]? = some ok → k ≠ i → (listed.setIfInBounds j true).getD k true = false →
          (∀ e ∈ ok.after, Region.binds .any e = true → e.on ≠ i) → oi.apart ops ok = true := fun k ok hk hki hun hno => by
        refine hfree k ok hk hki ?_ hno
        by_cases hjk : j = k
        · subst hjk; exact hjun
        · rw [getD_set_ne true hjk] at hun; exact hun
      refine gOp_mono (fun a' w' h3 => ⟨fun b hb => h3.2.1 b (hB j b hb), ?_⟩) h2
      refine ih (listed.setIfInBounds j true) a' w' (closed_set hcl hj) hfree' (ready_mono hr (Ne.symm hji)) h3.1 (fun b hb => ?_) ?_
      · rw [h3.2.1 b (hbs j hpmj hji b hb)]; exact hw b hb
      · rw [Array.setIfInBounds_comm _ _ hji]
        exact h3.2.2
end
end Go.W
