/- The engine, part 2: which operations are resolved, and that the resolved ones are the model's. -/
import Derived.Test.YtnimaifmcejkcaaW1
set_option linter.unusedSimpArgs false
set_option linter.unusedVariables false
namespace Go.W
open Go

def szOf (P : Program) (t : TypeId) : Option Nat := (P.info? t).map (·.size)
def isC : Operand → Bool
  | .const _ => true
  | _ => false
def eqK : TypeDesc → Option EqK
  | .bool => some .bool
  | .pointer _ => some .ptr
  | .slice _ => some .slice
  | .interface _ => some .iface
  | .map _ _ => some .map
  | .func _ _ _ => some .func
  | _ => none
def resFields (P : Program) (fs : Array Field) : List (Nat × Operand) → Option (List (Nat × Nat × O))
  | [] => some []
  | (i, x) :: r => match fs[i]? with
    | some f => match szOf P f.type, resFields P fs r with
      | some n, some l => some ((f.offset, n, toO x) :: l)
      | _, _ => none
    | none => none
def scK (P : Program) (f : Field) : Option (Nat × ScK) :=
  if f.name = "_" then none else
  match P.underlying f.type with
  | some (.int _) => some (f.offset, .int)
  | some .string => some (f.offset, .str)
  | some .bool => some (f.offset, .bool)
  | _ => none
def scKs (P : Program) : List Field → Option (List (Nat × ScK))
  | [] => some []
  | f :: fs => match scK P f, scKs P fs with
    | some a, some l => some (a :: l)
    | _, _ => none
def eqaOk (P : Program) (t : TypeId) : Option (List (Nat × ScK)) :=
  match P.underlying t with
  | some (.struct fs) => if P.stoodInHeld t || P.eqGuardType P.depth t then none else scKs P fs.toList
  | _ => none
def allSized (P : Program) (fs : List Field) : Bool := fs.all fun f => (szOf P f.type).isSome

def res (P : Program) : Op → Option R
  | .move x => some (.mv (toO x))
  | .assign x => some (.mv (toO x))
  | .nilCheck x => some (.nn (toO x))
  | .fieldAddr s x f => match P.underlying s with
    | some (.struct fs) => match fs[f]? with
      | some fd => match szOf P fd.type with
        | some (_ + 1) => some (.fa fd.offset (toO x))
        | _ => none
      | none => none
    | _ => none
  | .load t x => match P.underlying t, szOf P t with
    | some d, some n => some (if aggB d then .ln n (toO x) else .l1 (toO x))
    | _, _ => none
  | .binOp op t x y _ => match P.underlying t with
    | some (.int _) => some (.bi op (toO x) (toO y))
    | some .string => some (.bi op (toO x) (toO y))
    | some d => match eqK d, op with
      | some k, .eql => if k = .iface && !(isC x || isC y) then none else some (.eq k false (toO x) (toO y))
      | some k, .neq => if k = .iface && !(isC x || isC y) then none else some (.eq k true (toO x) (toO y))
      | none, .eql => (eqaOk P t).map fun fs => .eqa false fs (toO x) (toO y)
      | none, .neq => (eqaOk P t).map fun fs => .eqa true fs (toO x) (toO y)
      | _, _ => none
    | none => none
  | .unOp .not _ x => some (.no (toO x))
  | .unOp .neg _ x => some (.ng (toO x))
  | .convert s d x => match P.underlying s, P.underlying d with
    | some (.int _), some (.int k) => some (.cv k (toO x))
    | _, _ => none
  | .call { callee := .builtin .len, args, argTypes } => match argTypes[0]?, args.toList with
    | some t, [x] => match P.underlying t with
      | some (.slice _) => some (.len (toO x))
      | some .string => some (.lns (toO x))
      | some (.map _ _) => some (.lnm (toO x))
      | _ => none
    | _, _ => none
  | .call { callee := .builtin .cap, args, argTypes } => match argTypes[0]?, args.toList with
    | some t, [x] => match P.underlying t with
      | some (.slice _) => some (.cap (toO x))
      | _ => none
    | _, _ => none
  | .call { callee := .builtin .min, args, .. } => match args.toList with
    | [x, y] => some (.mm false (toO x) (toO y))
    | _ => none
  | .call { callee := .builtin .max, args, .. } => match args.toList with
    | [x, y] => some (.mm true (toO x) (toO y))
    | _ => none
  | .indexAddr t x i => match P.underlying t with
    | some (.slice e) => (szOf P e).map fun n => .ia n (toO x) (toO i)
    | _ => none
  | .index t x i => match P.underlying t with
    | some .string => some (.ixs (toO x) (toO i))
    | _ => none
  | .field t x f => match P.underlying t with
    | some (.struct fs) => match fs[f]? with
      | some fd => match P.underlying fd.type, szOf P fd.type with
        | some d, some n => some (if aggB d then .fln fd.offset n (toO x) else .fl fd.offset (toO x))
        | _, _ => none
      | none => none
    | _ => none
  | .slice t x lo hi mx => match P.underlying t with
    | some (.slice e) => match szOf P e with
      | some n => if mx.isSome && !hi.isSome then none else some (.sl n (toO x) (lo.map toO) (hi.map toO) (mx.map toO))
      | none => none
    | some .string => if mx.isSome then none else some (.sls (toO x) (lo.map toO) (hi.map toO))
    | _ => none
  | .build t parts => match P.underlying t, (P.info? t).bind (·.zero) with
    | some (.struct fs), some z => if allSized P fs.toList then (resFields P fs parts.toList).map (.bd z.cells) else none
    | _, _ => none
  | .pick c a b => some (.pk (toO c) (toO a) (toO b))
  | .extract x i => some (.ex i (toO x))
  | .makeInterface t x => match P.underlying t with
    | some (.interface _) => none
    | some _ => some (.mi t (toO x))
    | none => none
  | .makeFunc fn f c => some (.mf fn (f.toList.map toO) (c.toList.map toO))
  | _ => none

section
variable {P : Program} {w : World}

theorem ro_v (s : Sem Value) : ro P w (do pure (.value (← s)) : Sem Next) = (ro P w s).map Next.value := by
  rw [ro_bind]; cases ro P w s <;> rfl

theorem ro_intOp {op : BinOp} {k : IntKind} {a b : Int} {v : Value} (h : vInt op k a b = some v) (x : TypeId) :
    ro P w (binOp op x (.int k a) (.int k b)) = some v := by
  cases op
  all_goals first
    | (simp only [vInt, Option.some.injEq] at h; subst h; simp only [binOp, Op.intArith, Op.intBits, Op.intCmp, ne_eq, not_true_eq_false, if_false]; rfl)
    | (simp only [vInt] at h; split at h
       · cases h
       · rename_i hb
         simp only [Option.some.injEq] at h; subst h
         simp [binOp, Op.intDiv, hb])
    | (simp [vInt] at h)

theorem ro_binOp {op : BinOp} {x y : Value} {v : Value} (h : vBi op x y = some v) (t : TypeId) : ro P w (binOp op t x y) = some v := by
  unfold vBi at h
  split at h
  · rename_i k a k' b
    split at h
    · unfold vShift at h
      split at h
      · cases h
      · rename_i hb
        simp only [Option.some.injEq] at h; subst h
        simp [binOp, Op.shift, hb]
    · unfold vShift at h
      split at h
      · cases h
      · rename_i hb
        simp only [Option.some.injEq] at h; subst h
        simp [binOp, Op.shift, hb]
    · rename_i h1 h2
      split at h
      · rename_i hk; subst hk
        exact ro_intOp h t
      · cases h
  · rename_i a b
    unfold vStr at h
    cases op <;> simp only at h <;> try (cases h)
    all_goals first
      | rfl
      | (split at h
         · cases h
         · rename_i hb; cases h; simp only [binOp, Op.stringOp]; rw [if_neg hb]; rfl)
  · cases h

theorem ro_eqGuard_int {op : BinOp} {x y : Operand} {a b : Value} {t : TypeId} {v : Value} (h : vBi op a b = some v) : ro P w (eqGuard op t x y a b) = some () := by
  unfold vBi at h
  split at h
  · cases op <;> rfl
  · cases op <;> rfl
  · cases h

theorem ro_equal {k : EqK} {d : TypeDesc} {t : TypeId} {a b : Value} {r : Bool} (hd : P.underlying t = some d) (hk : eqK d = some k) (h : vEq k a b = some r) :
    ro P w (Op.equal t a b) = some r := by
  unfold Op.equal Op.maxDepth
  unfold Op.equalIn
  rw [ro_bind, ro_underlying, hd, Option.bind_some]
  unfold vEq at h
  split at h <;> (try split at h) <;> (try cases h) <;> rename_i hkk <;> subst hkk <;> (cases d <;> simp only [eqK, Option.some.injEq, reduceCtorEq] at hk) <;> rfl

theorem vEq_not_agg {k : EqK} {a b : Value} {r : Bool} (h : vEq k a b = some r) (op : BinOp) (t : TypeId) (x y : Operand) : ro P w (eqGuard op t x y a b) = some () := by
  unfold vEq at h
  split at h <;> (try split at h) <;> (try cases h) <;> (cases op <;> rfl)

theorem binOp_eq {k : EqK} {a b : Value} {r : Bool} (h : vEq k a b = some r) (t : TypeId) :
    binOp .eql t a b = (do pure (.bool (← Op.equal t a b))) ∧ binOp .neq t a b = (do pure (.bool (!(← Op.equal t a b)))) := by
  unfold vEq at h
  split at h <;> (try split at h) <;> (try cases h) <;> exact ⟨rfl, rfl⟩

theorem evs_of {ρ : Env} {e : Operand → Value} (he : ∀ x u, (toO x).ev ρ = some u → e x = u) : ∀ (l : List Operand) (vs : List Value), evs ρ (l.map toO) = some vs → l.map e = vs := by
  intro l
  induction l with
  | nil => intro vs h; simp only [List.map_nil, evs, Option.some.injEq] at h; subst h; rfl
  | cons x l ih =>
    intro vs h
    simp only [List.map_cons, evs] at h
    split at h
    · rename_i v vs' h1 h2
      simp only [Option.some.injEq] at h; subst h
      simp [he x v h1, ih vs' h2]
    · cases h

theorem oev_of {ρ : Env} {e : Operand → Value} (he : ∀ x u, (toO x).ev ρ = some u → e x = u) (x : Option Operand) (v : Option Value) (h : oev ρ (x.map toO) = some v) : x.map e = v := by
  cases x with
  | none => simp only [Option.map_none, oev, Option.some.injEq] at h; subst h; rfl
  | some x =>
    simp only [Option.map_some, oev] at h
    split at h
    · rename_i u hu
      simp only [Option.some.injEq] at h; subst h
      simp [he x u hu]
    · cases h

theorem ro_sliceBound {x : Value} {y : Nat} {c : BoundsCode} {d n : Nat} (h : bnd (some x) d y = some n) : ro P w (Instr.sliceBound x y c) = some n := by
  unfold bnd at h
  split at h
  · rename_i he; cases he
  · rename_i k i he
    simp only [Option.some.injEq] at he; subst he
    split at h
    · rename_i hi
      simp only [Option.some.injEq] at h; subst h
      simp [Instr.sliceBound, asIntOf, ro_bind, hi]
    · cases h
  · cases h

theorem ro_sliceBounds {isS : Bool} {len cap m h l : Nat} {lo hi mx : Option Value} (h1 : bnd mx cap cap = some m) (h2 : bnd hi len m = some h) (h3 : bnd lo 0 h = some l)
    (hm : mx.isSome = true → hi.isSome = true) : ro P w (Instr.sliceBounds isS len cap lo hi mx) = some (l, h, m) := by
  unfold Instr.sliceBounds
  cases mx with
  | none =>
    simp only [bnd, Option.some.injEq] at h1; subst h1
    cases hi with
    | none =>
      simp only [bnd, Option.some.injEq] at h2; subst h2
      cases lo with
      | none => simp only [bnd, Option.some.injEq] at h3; subst h3; simp [ro_bind]
      | some v => simp [ro_bind, ro_sliceBound h3]
    | some u =>
      cases lo with
      | none => simp only [bnd, Option.some.injEq] at h3; subst h3; simp [ro_bind, ro_sliceBound h2]
      | some v => simp [ro_bind, ro_sliceBound h3, ro_sliceBound h2]
  | some x =>
    cases hi with
    | none => simp at hm
    | some u =>
      cases lo with
      | none => simp only [bnd, Option.some.injEq] at h3; subst h3; simp [ro_bind, ro_sliceBound h2, ro_sliceBound h1]
      | some v => simp [ro_bind, ro_sliceBound h3, ro_sliceBound h2, ro_sliceBound h1]

theorem ro_part {t : TypeId} {cs : Array Value} {off n : Nat} {d : TypeDesc} {v : Value} (hd : P.underlying t = some d) (hn : szOf P t = some n)
    (h : (if aggB d then some (.agg (cs.extract off (off + n))) else cs[off]?) = some v) : ro P w (part t cs off) = some v := by
  unfold part
  rw [ro_bind, ro_isAgg, hd]
  simp only [Option.map_some, Option.bind_some]
  cases hb : aggB d with
  | true =>
    simp only [hb, if_true, Option.some.injEq] at h; subst h
    unfold szOf at hn
    simp only [if_true, ro_bind, ro_sizeOf, hn, Option.bind_some, ro_pure]
  | false =>
    simp only [hb, Bool.false_eq_true, if_false] at h
    simp only [Bool.false_eq_true, if_false, h, ro_pure]

theorem fill_of {P : Program} {fs : Array Field} {pl : Nat → Option (Nat × Nat)} (hpl : ∀ i f n, fs[i]? = some f → szOf P f.type = some n → pl i = some (f.offset, n))
    {ρ : Env} {e : Operand → Value} (he : ∀ x u, (toO x).ev ρ = some u → e x = u) : ∀ (parts : List (Nat × Operand)) (ps : List (Nat × Nat × O)) (vs : List (Nat × Nat × Value)) (cells out : Array Value),
    resFields P fs parts = some ps → pev ρ ps = some vs → fillAt cells vs = some out → Instr.fill pl cells (parts.map fun p => (p.1, e p.2)) = some out := by
  intro parts
  induction parts with
  | nil =>
    intro ps vs cells out h1 h2 h3
    simp only [resFields, Option.some.injEq] at h1; subst h1
    simp only [pev, Option.some.injEq] at h2; subst h2
    simpa [fillAt, Instr.fill] using h3
  | cons p parts ih =>
    intro ps vs cells out h1 h2 h3
    obtain ⟨i, x⟩ := p
    simp only [resFields] at h1
    split at h1
    · rename_i f hf
      split at h1
      · rename_i n l hn hl
        simp only [Option.some.injEq] at h1; subst h1
        simp only [pev] at h2
        split at h2
        · rename_i v l' hv hl'
          simp only [Option.some.injEq] at h2; subst h2
          simp only [fillAt] at h3
          split at h3
          · cases h3
          · rename_i hc
            simp only [List.map_cons, Instr.fill, hpl i f n hf hn, he x v hv]
            rw [if_neg hc]
            exact ih l l' _ out hl hl' h3
        · cases h2
      · cases h1
    · cases h1

theorem mapM_sizes : ∀ (fs : List Field), allSized P fs = true → ∃ l : List (Nat × Nat), ro P w (fs.mapM fun f => do pure (f.offset, ← sizeOf f.type) : Sem (List (Nat × Nat))) = some l ∧
    ∀ (i : Nat) (f : Field) (n : Nat), fs[i]? = some f → szOf P f.type = some n → l[i]? = some (f.offset, n) := by
  intro fs
  induction fs with
  | nil => intro _; exact ⟨[], by simp [List.mapM_nil], by simp⟩
  | cons f fs ih =>
    intro h
    simp only [allSized, List.all_cons, Bool.and_eq_true] at h
    obtain ⟨h1, h2⟩ := h
    obtain ⟨l, hl, hl2⟩ := ih h2
    obtain ⟨n, hn⟩ := Option.isSome_iff_exists.1 h1
    refine ⟨(f.offset, n) :: l, ?_, ?_⟩
    · unfold szOf at hn
      simp only [List.mapM_cons, ro_bind, ro_sizeOf, hn, Option.bind_some, ro_pure, hl]
    · intro i g m hg hm
      cases i with
      | zero =>
        simp only [List.getElem?_cons_zero, Option.some.injEq] at hg; subst hg
        rw [hn] at hm; cases hm; rfl
      | succ i => exact hl2 i g m (by simpa using hg) hm

theorem ro_equalIn_struct (d : Nat) (t : TypeId) (xs ys : Array Value) (fs : Array Field) (ht : P.underlying t = some (.struct fs)) (hp : P.stoodInHeld t = false) :
    ro P w (Op.equalIn (d + 1) t (.agg xs) (.agg ys)) = ro P w (Op.eqFields d xs ys fs.toList) := by
  simp only [Op.equalIn, ro_bind, ro_underlying, ht, Option.bind_some, ro_program, hp, Bool.false_eq_true, if_false]
  rw [← Array.forIn_toList]
  generalize fs.toList = fs
  clear ht
  induction fs with
  | nil => simp [Op.eqFields]
  | cons f fs ih =>
    simp only [List.forIn_cons, Op.eqFields]
    by_cases hn : f.name ≠ "_"
    · rw [if_pos hn, if_pos hn]
      simp only [ro_bind]
      cases ro P w (part f.type xs f.offset) with
      | none => rfl
      | some a =>
        simp only [Option.bind_some]
        cases ro P w (part f.type ys f.offset) with
        | none => rfl
        | some b =>
          simp only [Option.bind_some]
          cases ro P w (Op.equalIn d f.type a b) with
          | none => rfl
          | some r =>
            cases r
            · simp only [Option.bind_some, Bool.not_false, if_true, ro_pure]
            · simp only [Option.bind_some, Bool.not_true, Bool.false_eq_true, if_false, ro_pure]
              exact ih
    · rw [if_neg hn, if_neg hn]
      exact ih

theorem ro_eqFields (d : Nat) (xs ys : Array Value) : ∀ (fs : List Field) (l : List (Nat × ScK)) (r : Bool), scKs P fs = some l → eqCells xs ys l = some r → ro P w (Op.eqFields (d + 1) xs ys fs) = some r := by
  intro fs
  induction fs with
  | nil =>
    intro l r h1 h2
    simp only [scKs, Option.some.injEq] at h1; subst h1
    simp only [eqCells, Option.some.injEq] at h2; subst h2
    rfl
  | cons f fs ih =>
    intro l r h1 h2
    simp only [scKs] at h1
    split at h1
    · rename_i a l' ha hl
      simp only [Option.some.injEq] at h1; subst h1
      unfold scK at ha
      split at ha
      · cases ha
      · rename_i hn
        obtain ⟨o, k⟩ := a
        simp only [eqCells] at h2
        split at h2
        · rename_i a b hxa hyb
          split at h2
          · rename_i c d' hc hd'
            simp only [Option.some.injEq] at h2; subst h2
            have key : ∀ (dd : TypeDesc), P.underlying f.type = some dd → aggB dd = false → f.offset = o → ro P w (Op.equalIn (d + 1) f.type a b) = some c →
                ro P w (Op.eqFields (d + 1) xs ys (f :: fs)) = some (c && d') := by
              intro dd hdd hagg hof he
              simp only [Op.eqFields]
              rw [if_pos (by simpa using hn)]
              have hp : ∀ (zs : Array Value) (v : Value), zs[o]? = some v → ro P w (part f.type zs f.offset) = some v := by
                intro zs v hv
                unfold part
                rw [ro_bind, ro_isAgg, hdd]
                simp only [Option.map_some, Option.bind_some, hagg, Bool.false_eq_true, if_false, hof, hv, ro_pure]
              simp only [ro_bind, hp xs a hxa, hp ys b hyb, he, Option.bind_some]
              cases c with
              | true => simp only [Bool.not_true, Bool.false_eq_true, if_false, Bool.true_and]; exact ih l' d' hl hd'
              | false => rfl
            split at ha
            · rename_i kk hk
              simp only [Option.some.injEq, Prod.mk.injEq] at ha
              obtain ⟨h3, rfl⟩ := ha
              cases a with
              | int k1 a1 => cases b with
                | int k2 b1 =>
                  simp only [scEq] at hc
                  split at hc
                  · rename_i hkk; subst hkk
                    simp only [Option.some.injEq] at hc; subst hc
                    refine key _ hk rfl h3 ?_
                    unfold Op.equalIn
                    simp only [ro_bind, ro_underlying, hk, Option.bind_some, if_true, ro_pure]
                  · cases hc
                | _ => simp [scEq] at hc
              | _ => cases b <;> simp [scEq] at hc
            · rename_i hk
              simp only [Option.some.injEq, Prod.mk.injEq] at ha
              obtain ⟨h3, rfl⟩ := ha
              cases a with
              | string s1 => cases b with
                | string s2 =>
                  simp only [scEq, Option.some.injEq] at hc; subst hc
                  refine key _ hk rfl h3 ?_
                  unfold Op.equalIn
                  simp only [ro_bind, ro_underlying, hk, Option.bind_some, ro_pure]
                  rw [beq_toListBytes]
                | _ => simp [scEq] at hc
              | _ => cases b <;> simp [scEq] at hc
            · rename_i hk
              simp only [Option.some.injEq, Prod.mk.injEq] at ha
              obtain ⟨h3, rfl⟩ := ha
              cases a with
              | bool s1 => cases b with
                | bool s2 =>
                  simp only [scEq, Option.some.injEq] at hc; subst hc
                  refine key _ hk rfl h3 ?_
                  unfold Op.equalIn
                  simp only [ro_bind, ro_underlying, hk, Option.bind_some, ro_pure]
                | _ => simp [scEq] at hc
              | _ => cases b <;> simp [scEq] at hc
            · cases ha
          · cases h2
        · cases h2
    · cases h1

theorem ro_eqa {t : TypeId} {l : List (Nat × ScK)} (h : eqaOk P t = some l) {neg : Bool} {a b v : Value} (hv : vEqa neg l a b = some v) (op : BinOp) (hop : op = if neg then .neq else .eql) (x y : Operand) :
    ((ro P w (eqGuard op t x y a b)).bind fun _ => ro P w (binOp op t a b)) = some v := by
  unfold eqaOk at h
  split at h
  · rename_i fs hfs
    split at h
    · cases h
    · rename_i hc
      simp only [Bool.or_eq_true, not_or, Bool.not_eq_true] at hc
      cases a with
      | agg xs => cases b with
        | agg ys =>
          simp only [vEqa] at hv
          obtain ⟨r, hr, hv⟩ := Option.map_eq_some_iff.1 hv
          have he : ro P w (Op.equal t (.agg xs) (.agg ys)) = some r := by
            unfold Op.equal Op.maxDepth
            rw [ro_equalIn_struct _ t xs ys fs hfs hc.1]
            exact ro_eqFields _ xs ys _ l r h hr
          have hg : ro P w (eqGuard op t x y (.agg xs) (.agg ys)) = some () := by
            have e1 : P.eqGuardType P.depth t = false := hc.2
            cases op <;> simp [eqGuard, ro_bind, ro_program, e1]
          rw [hg, Option.bind_some]
          subst hv
          cases neg with
          | false => subst hop; simp only [Bool.false_eq_true, if_false, binOp, ro_bind, he, Option.bind_some, ro_pure]
          | true => subst hop; simp only [if_true, binOp, ro_bind, he, Option.bind_some, ro_pure]
        | _ => simp [vEqa] at hv
      | _ => cases b <;> simp [vEqa] at hv
  · cases h

theorem res_sound {o : Oper} {r : R} (h : res P o.op = some r) {ρ : Env} {e : Operand → Value} (he : ∀ x u, (toO x).ev ρ = some u → e x = u) {v : Value} (hv : r.ev w ρ = some v) :
    ro P w (execOp e o) = some (.value v) := by
  obtain ⟨dst, op, ty, pos, after, guard⟩ := o
  simp only at h
  unfold execOp
  simp only
  unfold res at h
  split at h
  · simp only [Option.some.injEq] at h; subst h; simp only [R.ev] at hv; simp [he _ _ hv]
  · simp only [Option.some.injEq] at h; subst h; simp only [R.ev] at hv; simp [he _ _ hv]
  · -- nilCheck
    simp only [Option.some.injEq] at h; subst h
    simp only [R.ev] at hv
    rename_i x
    obtain ⟨u, hu, hv⟩ := Option.bind_eq_some_iff.1 hv
    simp only
    rw [he _ _ hu]
    unfold vNN at hv
    split at hv <;> first | (simp only [Option.some.injEq] at hv; subst hv; rfl) | cases hv
  · -- fieldAddr
    rename_i s x f
    split at h
    · rename_i fs hfs
      split at h
      · rename_i fd hfd
        split at h
        · rename_i n hn
          simp only [Option.some.injEq] at h; subst h
          simp only [R.ev] at hv
          obtain ⟨u, hu, hv⟩ := Option.bind_eq_some_iff.1 hv
          rw [ro_v, he _ _ hu]
          unfold vFA at hv
          split at hv
          · rename_i a
            simp only [Option.some.injEq] at hv; subst hv
            unfold szOf at hn
            simp only [Instr.fieldAt, ro_bind, ro_underlying, hfs, Option.bind_some, hfd, Instr.sureAddr, ro_pure, fieldPlace, ro_sizeOf, hn]
            simp
          · cases hv
        · cases h
      · cases h
    · cases h
  · -- load
    rename_i t x
    split at h
    · rename_i d n hd hn
      simp only [Option.some.injEq] at h; subst h
      rw [ro_v]
      cases hb : aggB d with
      | true =>
        simp only [hb, if_true, R.ev] at hv
        obtain ⟨u, hu, hv⟩ := Option.bind_eq_some_iff.1 hv
        rw [he _ _ hu]
        unfold vLN at hv
        split at hv
        · rename_i a
          unfold szOf at hn
          simp only [Instr.loadAt, Instr.sureAddr, ro_bind, ro_pure, Option.bind_some, loadVar, ro_isAgg, hd, Option.map_some, hb, if_true, ro_sizeOf, hn, ro_loadCells]
          obtain ⟨cs, hcs, hv⟩ := Option.map_eq_some_iff.1 hv
          subst hv
          simp [hcs]
        · cases hv
      | false =>
        simp only [hb, Bool.false_eq_true, if_false, R.ev] at hv
        obtain ⟨u, hu, hv⟩ := Option.bind_eq_some_iff.1 hv
        rw [he _ _ hu]
        unfold vL1 at hv
        split at hv
        · rename_i a
          simp only [Instr.loadAt, Instr.sureAddr, ro_bind, ro_pure, Option.bind_some, loadVar, ro_isAgg, hd, Option.map_some, hb, Bool.false_eq_true, if_false, ro_load, hv]
        · cases hv
    · cases h
  · -- binOp
    rename_i op t x y yt
    rw [ro_v, ro_bind]
    have intCase : ∀ {v}, (R.bi op (toO x) (toO y)).ev w ρ = some v → ((ro P w (eqGuard op t x y (e x) (e y))).bind fun _ => ro P w (binOp op t (e x) (e y))) = some v := by
      intro v hv
      simp only [R.ev] at hv
      obtain ⟨a, ha, hv⟩ := Option.bind_eq_some_iff.1 hv
      obtain ⟨b, hb, hv⟩ := Option.bind_eq_some_iff.1 hv
      rw [he _ _ ha, he _ _ hb, ro_eqGuard_int hv, Option.bind_some, ro_binOp hv]
    split at h
    · simp only [Option.some.injEq] at h; subst h; rw [intCase hv]; rfl
    · simp only [Option.some.injEq] at h; subst h; rw [intCase hv]; rfl
    · rename_i d hd1 hd2 hd
      split at h
      · rename_i k hk
        split at h
        · cases h
        · rename_i hg
          simp only [Option.some.injEq] at h; subst h
          simp only [R.ev] at hv
          obtain ⟨a, ha, hv⟩ := Option.bind_eq_some_iff.1 hv
          obtain ⟨b, hb, hv⟩ := Option.bind_eq_some_iff.1 hv
          obtain ⟨r, hr, hv⟩ := Option.map_eq_some_iff.1 hv
          subst hv
          rw [he _ _ ha, he _ _ hb, vEq_not_agg hr, Option.bind_some, (binOp_eq hr t).1, ro_bind, ro_equal hd hk hr]
          simp
      · rename_i k hk
        split at h
        · cases h
        · rename_i hg
          simp only [Option.some.injEq] at h; subst h
          simp only [R.ev] at hv
          obtain ⟨a, ha, hv⟩ := Option.bind_eq_some_iff.1 hv
          obtain ⟨b, hb, hv⟩ := Option.bind_eq_some_iff.1 hv
          obtain ⟨r, hr, hv⟩ := Option.map_eq_some_iff.1 hv
          subst hv
          rw [he _ _ ha, he _ _ hb, vEq_not_agg hr, Option.bind_some, (binOp_eq hr t).2, ro_bind, ro_equal hd hk hr]
          simp
      · obtain ⟨l, hl, h1⟩ := Option.map_eq_some_iff.1 h
        subst h1
        simp only [R.ev] at hv
        obtain ⟨a, ha, hv⟩ := Option.bind_eq_some_iff.1 hv
        obtain ⟨b, hb, hv⟩ := Option.bind_eq_some_iff.1 hv
        rw [he _ _ ha, he _ _ hb, ro_eqa hl hv .eql rfl x y]
        rfl
      · obtain ⟨l, hl, h1⟩ := Option.map_eq_some_iff.1 h
        subst h1
        simp only [R.ev] at hv
        obtain ⟨a, ha, hv⟩ := Option.bind_eq_some_iff.1 hv
        obtain ⟨b, hb, hv⟩ := Option.bind_eq_some_iff.1 hv
        rw [he _ _ ha, he _ _ hb, ro_eqa hl hv .neq rfl x y]
        rfl
      · cases h
    · cases h
  · -- not
    simp only [Option.some.injEq] at h; subst h
    simp only [R.ev] at hv
    obtain ⟨u, hu, hv⟩ := Option.bind_eq_some_iff.1 hv
    rw [ro_v, he _ _ hu]
    unfold vNo at hv
    split at hv <;> first | (simp only [Option.some.injEq] at hv; subst hv; rfl) | cases hv
  · -- neg
    simp only [Option.some.injEq] at h; subst h
    simp only [R.ev] at hv
    obtain ⟨u, hu, hv⟩ := Option.bind_eq_some_iff.1 hv
    rw [ro_v, he _ _ hu]
    unfold vNg at hv
    split at hv <;> first | (simp only [Option.some.injEq] at hv; subst hv; rfl) | cases hv
  · -- convert
    rename_i s d x
    split at h
    · rename_i ks kd hs hd
      simp only [Option.some.injEq] at h; subst h
      simp only [R.ev] at hv
      obtain ⟨u, hu, hv⟩ := Option.bind_eq_some_iff.1 hv
      rw [ro_v, he _ _ hu]
      unfold vCv at hv
      split at hv
      · simp only [Option.some.injEq] at hv; subst hv
        simp only [convert, ro_bind, ro_underlying, hs, hd, Option.bind_some]
        rfl
      · cases hv
    · cases h
  · -- len
    rename_i args argTypes
    have key : ∀ t x, argTypes[0]? = some t → args.toList = [x] → ∀ (q : Value) (n : Value), e x = q → ro P w (Builtin.len_ argTypes ty #[q]) = some n →
        ro P w (do let d ← resolve e { callee := Callee.builtin Builtin.len, args := args, argTypes := argTypes } ty; invoke d.target d.args) = some (.value n) := by
      intro t x ht hx q n hq hn
      have hargs : args = #[x] := by cases args; simp_all
      subst hargs
      simp only [resolve, ro_bind, ro_pure, Option.bind_some, invoke, builtin, List.map_toArray, List.map_cons, List.map_nil, hq, hn]
    split at h
    · rename_i t x ht hx
      split at h
      · rename_i e' hu
        simp only [Option.some.injEq] at h; subst h
        simp only [R.ev] at hv
        obtain ⟨u, hxu, hv⟩ := Option.bind_eq_some_iff.1 hv
        refine key t x ht hx u v (he _ _ hxu) ?_
        unfold vLen at hv
        split at hv
        · simp only [Option.some.injEq] at hv; subst hv
          simp [Builtin.len_, ht, ro_bind, ro_underlying, hu, goInt]
        · cases hv
      · rename_i hu
        simp only [Option.some.injEq] at h; subst h
        simp only [R.ev] at hv
        obtain ⟨u, hxu, hv⟩ := Option.bind_eq_some_iff.1 hv
        refine key t x ht hx u v (he _ _ hxu) ?_
        unfold vLns at hv
        split at hv
        · simp only [Option.some.injEq] at hv; subst hv
          simp [Builtin.len_, ht, ro_bind, ro_underlying, hu, goInt]
        · cases hv
      · rename_i k' e' hu
        simp only [Option.some.injEq] at h; subst h
        simp only [R.ev] at hv
        obtain ⟨u, hxu, hv⟩ := Option.bind_eq_some_iff.1 hv
        refine key t x ht hx u v (he _ _ hxu) ?_
        unfold vLnm at hv
        split at hv
        · simp only [Option.some.injEq] at hv; subst hv
          simp [Builtin.len_, ht, ro_bind, ro_underlying, hu, goInt]
        · rename_i r
          split at hv
          · rename_i es ck hr
            simp only [Option.some.injEq] at hv; subst hv
            simp [Builtin.len_, ht, ro_bind, ro_underlying, hu, goInt, getObj, ro, hr]
          · cases hv
        · cases hv
      · cases h
    · cases h
  · -- cap
    rename_i args argTypes
    split at h
    · rename_i t x ht hx
      have hargs : args = #[x] := by cases args; simp_all
      subst hargs
      split at h
      · rename_i e' hu
        simp only [Option.some.injEq] at h; subst h
        simp only [R.ev] at hv
        obtain ⟨u, hxu, hv⟩ := Option.bind_eq_some_iff.1 hv
        have hq := he _ _ hxu
        unfold vCap at hv
        split at hv
        · simp only [Option.some.injEq] at hv; subst hv
          simp [resolve, ro_bind, invoke, builtin, hq, Builtin.cap_, ht, ro_underlying, hu, goInt]
        · cases hv
      · cases h
    · cases h
  · -- min
    rename_i args argTypes
    split at h
    · rename_i x y hx
      have hargs : args = #[x, y] := by cases args; simp_all
      subst hargs
      simp only [Option.some.injEq] at h; subst h
      simp only [R.ev] at hv
      obtain ⟨a, ha, hv⟩ := Option.bind_eq_some_iff.1 hv
      obtain ⟨b, hb, hv⟩ := Option.bind_eq_some_iff.1 hv
      have ea := he _ _ ha
      have eb := he _ _ hb
      unfold vMM at hv
      split at hv
      · simp only [Option.some.injEq] at hv; subst hv
        simp [resolve, ro_bind, invoke, builtin, ea, eb, Builtin.min_, List.foldlM, Builtin.min2]
      · cases hv
    · cases h
  · -- max
    rename_i args argTypes
    split at h
    · rename_i x y hx
      have hargs : args = #[x, y] := by cases args; simp_all
      subst hargs
      simp only [Option.some.injEq] at h; subst h
      simp only [R.ev] at hv
      obtain ⟨a, ha, hv⟩ := Option.bind_eq_some_iff.1 hv
      obtain ⟨b, hb, hv⟩ := Option.bind_eq_some_iff.1 hv
      have ea := he _ _ ha
      have eb := he _ _ hb
      unfold vMM at hv
      split at hv
      · simp only [Option.some.injEq] at hv; subst hv
        simp [resolve, ro_bind, invoke, builtin, ea, eb, Builtin.max_, List.foldlM, Builtin.max2]
      · cases hv
    · cases h
  · -- indexAddr
    rename_i t x i
    split at h
    · rename_i el hu
      obtain ⟨n, hn, h⟩ := Option.map_eq_some_iff.1 h
      subst h
      simp only [R.ev] at hv
      obtain ⟨a, ha, hv⟩ := Option.bind_eq_some_iff.1 hv
      obtain ⟨b, hb, hv⟩ := Option.bind_eq_some_iff.1 hv
      rw [ro_v, he _ _ ha, he _ _ hb]
      unfold vIA at hv
      split at hv
      · rename_i ad len c k j
        split at hv
        · rename_i hj
          simp only [Option.some.injEq] at hv; subst hv
          unfold szOf at hn
          simp only [Instr.indexAt, asIntOf, ro_bind, ro_pure, Option.bind_some, ro_underlying, hu, hj, if_true, ro_sizeOf, hn, and_self, Option.map_some]
        · cases hv
      · cases hv
    · cases h
  · -- index of a string
    rename_i t x i
    split at h
    · rename_i hu
      simp only [Option.some.injEq] at h; subst h
      simp only [R.ev] at hv
      obtain ⟨a, ha, hv⟩ := Option.bind_eq_some_iff.1 hv
      obtain ⟨b, hb, hv⟩ := Option.bind_eq_some_iff.1 hv
      rw [ro_v, he _ _ ha, he _ _ hb]
      unfold vIXS at hv
      split at hv
      · rename_i s k j
        split at hv
        · rename_i hj
          obtain ⟨c, hc, hv⟩ := Option.map_eq_some_iff.1 hv
          subst hv
          simp only [Instr.index, asIntOf, ro_bind, ro_pure, Option.bind_some, ro_underlying, hu, hj, if_true, hc, Option.map_some]
        · cases hv
      · cases hv
    · cases h
  · -- field
    rename_i t x f
    split at h
    · rename_i fs hfs
      split at h
      · rename_i fd hfd
        split at h
        · rename_i d n hd hn
          simp only [Option.some.injEq] at h; subst h
          rw [ro_v]
          have key : ∀ cs, e x = .agg cs → (if aggB d then some (.agg (cs.extract fd.offset (fd.offset + n))) else cs[fd.offset]?) = some v →
              (ro P w (Instr.field t (e x) f)).map Next.value = some (.value v) := by
            intro cs hx hc
            simp only [Instr.field, ro_bind, ro_underlying, hfs, Option.bind_some, hfd, hx, asAgg, ro_pure, ro_part hd hn hc, Option.map_some]
          cases hb : aggB d with
          | true =>
            simp only [hb, if_true, R.ev] at hv
            obtain ⟨u, hu, hv⟩ := Option.bind_eq_some_iff.1 hv
            unfold vFLN at hv
            split at hv
            · rename_i cs
              exact key cs (he _ _ hu) (by simpa [hb] using hv)
            · cases hv
          | false =>
            simp only [hb, Bool.false_eq_true, if_false, R.ev] at hv
            obtain ⟨u, hu, hv⟩ := Option.bind_eq_some_iff.1 hv
            unfold vFL at hv
            split at hv
            · rename_i cs
              exact key cs (he _ _ hu) (by simpa [hb] using hv)
            · cases hv
        · cases h
      · cases h
    · cases h
  · -- slice
    rename_i t x lo hi mx
    split at h
    · rename_i el hu
      split at h
      · rename_i n hn
        split at h
        · cases h
        · rename_i hmx
          simp only [Option.some.injEq] at h; subst h
          simp only [R.ev] at hv
          obtain ⟨a, ha, hv⟩ := Option.bind_eq_some_iff.1 hv
          obtain ⟨l, hl, hv⟩ := Option.bind_eq_some_iff.1 hv
          obtain ⟨hh, hhh, hv⟩ := Option.bind_eq_some_iff.1 hv
          obtain ⟨m, hm, hv⟩ := Option.bind_eq_some_iff.1 hv
          have hl' := oev_of he lo l hl
          have hh' := oev_of he hi hh hhh
          have hm' := oev_of he mx m hm
          rw [ro_v, he _ _ ha, hl', hh', hm']
          unfold vSL at hv
          split at hv
          · rename_i ad len c
            split at hv
            · cases hv
            · rename_i m1 e1
              split at hv
              · cases hv
              · rename_i h1 e2
                split at hv
                · cases hv
                · rename_i l1 e3
                  simp only [Option.some.injEq] at hv; subst hv
                  have hss : m.isSome = true → hh.isSome = true := by
                    subst hm'; subst hh'
                    intro hms
                    cases hi <;> cases mx <;> simp_all
                  unfold szOf at hn
                  simp only [Instr.sliceAt, Instr.slice, ro_bind, ro_underlying, hu, Option.bind_some, ro_sliceBounds e1 e2 e3 hss, ro_sizeOf, hn, ro_pure, Option.map_some]
          · cases hv
      · cases h
    · rename_i hu
      split at h
      · cases h
      · rename_i hmx
        simp only [Option.some.injEq] at h; subst h
        simp only [R.ev] at hv
        obtain ⟨a, ha, hv⟩ := Option.bind_eq_some_iff.1 hv
        obtain ⟨l, hl, hv⟩ := Option.bind_eq_some_iff.1 hv
        obtain ⟨hh, hhh, hv⟩ := Option.bind_eq_some_iff.1 hv
        have hl' := oev_of he lo l hl
        have hh' := oev_of he hi hh hhh
        have hmn : mx = none := by cases mx <;> simp_all
        subst hmn
        rw [ro_v, he _ _ ha, hl', hh']
        unfold vSLS at hv
        split at hv
        · split at hv
          · cases hv
          · rename_i h1 e2
            split at hv
            · cases hv
            · rename_i l1 e3
              simp only [Option.some.injEq] at hv; subst hv
              simp only [Instr.sliceAt, Instr.slice, ro_bind, ro_underlying, hu, Option.bind_some, Option.map_none, Option.isSome_none, Bool.false_eq_true, if_false]
              rw [ro_sliceBounds rfl e2 e3 (by simp)]
              simp
        · cases hv
    · cases h
  · -- build
    rename_i t parts
    split at h
    · rename_i fs z hfs hz
      split at h
      · rename_i hall
        obtain ⟨ps, hps, h⟩ := Option.map_eq_some_iff.1 h
        subst h
        simp only [R.ev] at hv
        obtain ⟨vs, hvs, hv⟩ := Option.bind_eq_some_iff.1 hv
        obtain ⟨out, hout, hv⟩ := Option.map_eq_some_iff.1 hv
        subst hv
        obtain ⟨l, hl, hl2⟩ := mapM_sizes (P := P) (w := w) fs.toList hall
        rw [ro_v]
        have hmm : ro P w (fs.mapM fun f => do pure (f.offset, ← sizeOf f.type) : Sem (Array (Nat × Nat))) = some l.toArray := by
          rw [Array.mapM_eq_mapM_toList]
          simp only [ro_map, hl, Option.map_some]
        have hf := fill_of (P := P) (fs := fs) (pl := fun i => l.toArray[i]?) (fun i f n h1 h2 => by simpa using hl2 i f n (by simpa using h1) h2) he parts.toList ps vs z.cells out hps hvs hout
        simp only [Instr.build, ro_bind, ro_zeroValue, hz, Option.bind_some, ro_underlying, hfs, hmm]
        have e2 : (parts.map fun x => (x.1, e x.2)).toList = parts.toList.map fun p => (p.1, e p.2) := by simp
        simp only [e2, hf, ro_pure, Option.map_some]
      · cases h
    · cases h
  · -- pick
    simp only [Option.some.injEq] at h; subst h
    simp only [R.ev] at hv
    obtain ⟨c, hc, hv⟩ := Option.bind_eq_some_iff.1 hv
    obtain ⟨a, ha, hv⟩ := Option.bind_eq_some_iff.1 hv
    obtain ⟨b, hb, hv⟩ := Option.bind_eq_some_iff.1 hv
    unfold vPk at hv
    split at hv
    · simp only [Option.some.injEq] at hv; subst hv
      simp only [he _ _ hc, he _ _ ha, he _ _ hb, asBool, ro_bind, ro_pure, Option.bind_some]
    · cases hv
  · -- extract
    simp only [Option.some.injEq] at h; subst h
    simp only [R.ev] at hv
    obtain ⟨u, hu, hv⟩ := Option.bind_eq_some_iff.1 hv
    rw [ro_v, he _ _ hu]
    unfold vEx at hv
    split at hv
    · simp only [Instr.extract, hv, ro_pure, Option.map_some]
    · cases hv
  · -- makeInterface
    rename_i t x
    split at h
    · cases h
    · rename_i d hd hdu
      simp only [Option.some.injEq] at h; subst h
      simp only [R.ev] at hv
      obtain ⟨u, hu, hv⟩ := Option.map_eq_some_iff.1 hv
      subst hv
      rw [ro_v, he _ _ hu]
      simp only [Instr.makeInterface, ro_bind, ro_underlying, hdu, Option.bind_some]
      cases d <;> first | rfl | (exact absurd rfl (hd _))
    · cases h
  · -- makeFunc
    rename_i fn f c
    simp only [Option.some.injEq] at h; subst h
    simp only [R.ev] at hv
    obtain ⟨fv, hf, hv⟩ := Option.bind_eq_some_iff.1 hv
    obtain ⟨cv, hc, hv⟩ := Option.map_eq_some_iff.1 hv
    subst hv
    rw [ro_v]
    have h1 := evs_of he _ _ hf
    have h2 := evs_of he _ _ hc
    simp only [Instr.makeFunc, ro_pure, Option.map_some, ← h1, ← h2]
    cases f; cases c; simp
  · cases h

end
end Go.W
