/- The engine, part 1: a read-only run of the model's operations; resolved operations and their values. Program-independent; nothing here is a claim. -/
import Derived.Deep.Quiet
import Derived.WalkKit
import Derived.Test.YtnimaifmcejkcaaProg
namespace Go.W
open Go

/-- A run that only reads: the value, if the run comes to one without touching the world. -/
def ro (P : Program) (w : World) {α : Type} : Sem α → Option α
  | .pure a => some a
  | .load _ a k => match w.cell? a with | some v => ro P w (k v) | none => none
  | .shape r k => ro P w (k (w.shape? r))
  | .frozen a k => ro P w (k (w.frozen? a))
  | .getObj r k => match w.heap[r]? with | some (.cells ..) => none | some o => ro P w (k o) | none => none
  | .program k => ro P w (k P)
  | .mark _ k => ro P w k
  | .store .. => none
  | .new .. => none
  | .freeze .. => none
  | .setObj .. => none
  | .choose .. => none
  | .sys .. => none
  | .halt _ => none

theorem ro_run {P : Program} {w : World} {α : Type} {s : Sem α} {a : α} (h : ro P w s = some a) : s.run P w = .ok a w := by
  induction s with
  | pure x => simp only [ro, Option.some.injEq] at h; subst h; rfl
  | load m ad k ih =>
    simp only [ro] at h
    cases hc : w.cell? ad with
    | none => simp [hc] at h
    | some v => simp only [hc] at h; simp only [Sem.run, hc]; exact ih v h
  | shape r k ih => simp only [ro] at h; simp only [Sem.run]; exact ih _ h
  | frozen ad k ih => simp only [ro] at h; simp only [Sem.run]; exact ih _ h
  | getObj r k ih =>
    simp only [ro] at h
    cases hc : w.heap[r]? with
    | none => simp [hc] at h
    | some o => cases o <;> simp only [hc] at h <;> first | cases h | (simp only [Sem.run, hc]; exact ih _ h)
  | program k ih => simp only [ro] at h; simp only [Sem.run]; exact ih _ h
  | mark m k ih => simp only [ro] at h; simp only [Sem.run]; exact ih h
  | store => simp [ro] at h
  | new => simp [ro] at h
  | freeze => simp [ro] at h
  | setObj => simp [ro] at h
  | choose => simp [ro] at h
  | sys => simp [ro] at h
  | halt => simp [ro] at h

theorem ro_bind {P : Program} {w : World} {α β : Type} (s : Sem α) (f : α → Sem β) : ro P w (s >>= f) = (ro P w s).bind (fun a => ro P w (f a)) := by
  show ro P w (s.bind f) = _
  induction s with
  | pure x => simp [Sem.bind, ro]
  | load m ad k ih => simp only [Sem.bind, ro]; cases w.cell? ad <;> simp [ih]
  | shape r k ih => simp only [Sem.bind, ro, ih]
  | frozen r k ih => simp only [Sem.bind, ro, ih]
  | getObj r k ih =>
    simp only [Sem.bind, ro]
    cases w.heap[r]? with
    | none => rfl
    | some o => cases o <;> simp [ih]
  | program k ih => simp only [Sem.bind, ro, ih]
  | mark m k ih => simp only [Sem.bind, ro, ih]
  | store => rfl
  | new => rfl
  | freeze => rfl
  | setObj => rfl
  | choose => rfl
  | sys => rfl
  | halt => rfl

@[simp] theorem ro_pure {P : Program} {w : World} {α : Type} (a : α) : ro P w (pure a : Sem α) = some a := rfl
@[simp] theorem ro_map {P : Program} {w : World} {α β : Type} (f : α → β) (s : Sem α) : ro P w (f <$> s) = (ro P w s).map f := by
  show ro P w (s.bind (fun a => .pure (f a))) = _
  have := ro_bind (P := P) (w := w) s (fun a => (pure (f a) : Sem β))
  rw [show s.bind (fun a => .pure (f a)) = s >>= (fun a => (pure (f a) : Sem β)) from rfl, this]
  cases ro P w s <;> rfl
theorem ro_program {P : Program} {w : World} : ro P w program = some P := rfl
theorem ro_load {P : Program} {w : World} (a : Addr) (m : Mode) : ro P w (load a m) = w.cell? a := by
  simp only [load, ro]; cases w.cell? a <;> rfl
theorem ro_typeInfo {P : Program} {w : World} (t : TypeId) : ro P w (typeInfo t) = P.info? t := by
  simp only [typeInfo, ro_bind, ro_program, Option.bind_some]
  cases P.info? t <;> rfl
theorem ro_underlying {P : Program} {w : World} (t : TypeId) : ro P w (underlying t) = P.underlying t := by
  simp only [underlying, ro_bind, ro_program, Option.bind_some]
  cases P.underlying t <;> rfl
theorem ro_sizeOf {P : Program} {w : World} (t : TypeId) : ro P w (sizeOf t) = (P.info? t).map (·.size) := by
  simp only [sizeOf, ro_bind, ro_typeInfo]
  cases P.info? t <;> rfl
def aggB : TypeDesc → Bool
  | .struct _ => true
  | .array _ _ => true
  | _ => false
theorem ro_isAgg {P : Program} {w : World} (t : TypeId) : ro P w (isAgg t) = (P.underlying t).map aggB := by
  simp only [isAgg, ro_bind, ro_underlying]
  cases P.underlying t with
  | none => rfl
  | some d => cases d <;> rfl
theorem ro_zeroValue {P : Program} {w : World} (t : TypeId) : ro P w (zeroValue t) = (P.info? t).bind (·.zero) := by
  simp only [zeroValue, ro_bind, ro_typeInfo]
  cases P.info? t with
  | none => rfl
  | some i => cases h : i.zero <;> simp [h] <;> rfl

/-- So many cells from an address on. -/
def cellsFrom (w : World) (a : Addr) (i : Nat) : Nat → Array Value → Option (Array Value)
  | 0, acc => some acc
  | n + 1, acc => match w.cell? (a.add i) with
    | some v => cellsFrom w a (i + 1) n (acc.push v)
    | none => none
theorem ro_loadCellsFrom {P : Program} {w : World} (a : Addr) : ∀ (n i : Nat) (acc : Array Value), ro P w (loadCellsFrom a i n acc) = cellsFrom w a i n acc := by
  intro n
  induction n with
  | zero => intro i acc; rfl
  | succ n ih =>
    intro i acc
    simp only [loadCellsFrom, ro_bind, ro_load, cellsFrom]
    cases w.cell? (a.add i) with
    | none => rfl
    | some v => simp [ih]
theorem ro_loadCells {P : Program} {w : World} (a : Addr) (n : Nat) : ro P w (loadCells a n) = cellsFrom w a 0 n #[] := ro_loadCellsFrom a n 0 #[]

/-! ### operands, environments -/
inductive O where
  | t (n : Nat)
  | c (v : Value)
  deriving Inhabited

abbrev Env := List (Nat × Value)
def Env.get (ρ : Env) (t : Nat) : Option Value :=
  match ρ with
  | [] => none
  | (s, v) :: r => if s = t then some v else Env.get r t
def Env.put (ρ : Env) (d : Option Nat) (v : Value) : Env :=
  match d with
  | none => ρ
  | some d => (d, v) :: ρ
def Env.keep (ρ : Env) : List Nat → Env
  | [] => []
  | t :: ts => match ρ.get t with
    | some v => (t, v) :: Env.keep ρ ts
    | none => Env.keep ρ ts
def O.ev (ρ : Env) : O → Option Value
  | .t n => ρ.get n
  | .c v => some v
def toO : Operand → O
  | .tmp t => .t t
  | .const v => .c v
  | .global g => .c (.pointer (some ⟨g, 0, none⟩))
  | .func f => .c (.func (.func f) #[] #[])
def evs (ρ : Env) : List O → Option (List Value)
  | [] => some []
  | x :: xs => match x.ev ρ, evs ρ xs with
    | some v, some vs => some (v :: vs)
    | _, _ => none

/-! ### resolved operations -/
inductive EqK where
  | bool | ptr | slice | iface | map | func
  deriving DecidableEq, Inhabited

inductive ScK where
  | int | str | bool
  deriving DecidableEq, Inhabited

inductive R where
  | mv (x : O)
  | nn (x : O)
  | fa (off : Nat) (x : O)
  | l1 (x : O)
  | ln (n : Nat) (x : O)
  | bi (op : BinOp) (x y : O)
  | eq (k : EqK) (neg : Bool) (x y : O)
  | no (x : O)
  | ng (x : O)
  | cv (k : IntKind) (x : O)
  | len (x : O)
  | lns (x : O)
  | lnm (x : O)
  | cap (x : O)
  | ia (sz : Nat) (s i : O)
  | ixs (s i : O)
  | fl (off : Nat) (x : O)
  | fln (off n : Nat) (x : O)
  | sl (sz : Nat) (x : O) (lo hi mx : Option O)
  | sls (x : O) (lo hi : Option O)
  | bd (zero : Array Value) (parts : List (Nat × Nat × O))
  | pk (c a b : O)
  | ex (i : Nat) (x : O)
  | mi (t : Nat) (x : O)
  | mm (mx : Bool) (x y : O)
  | eqa (neg : Bool) (fs : List (Nat × ScK)) (x y : O)
  | mf (fn : Fn) (fst cs : List O)
  deriving Inhabited

def vNN : Value → Option Value
  | .pointer (some a) => some (.pointer (some a))
  | .iface t v => some (.iface t v)
  | .func (.func f) a b => some (.func (.func f) a b)
  | _ => none
def vFA (off : Nat) : Value → Option Value
  | .pointer (some a) => some (.pointer (some (a.add off)))
  | _ => none
def vL1 (w : World) : Value → Option Value
  | .pointer (some a) => w.cell? a
  | _ => none
def vLN (w : World) (n : Nat) : Value → Option Value
  | .pointer (some a) => (cellsFrom w a 0 n #[]).map .agg
  | _ => none
def vInt (op : BinOp) (k : IntKind) (a b : Int) : Option Value :=
  match op with
  | .add => some (.int k (k.wrap (a + b)))
  | .sub => some (.int k (k.wrap (a - b)))
  | .mul => some (.int k (k.wrap (a * b)))
  | .quo => if b = 0 then none else some (.int k (k.wrap (a.tdiv b)))
  | .rem => if b = 0 then none else some (.int k (a.tmod b))
  | .and => some (.int k (k.wrap ((BitVec.ofInt k.bits a &&& BitVec.ofInt k.bits b).toNat)))
  | .or => some (.int k (k.wrap ((BitVec.ofInt k.bits a ||| BitVec.ofInt k.bits b).toNat)))
  | .xor => some (.int k (k.wrap ((BitVec.ofInt k.bits a ^^^ BitVec.ofInt k.bits b).toNat)))
  | .andNot => none
  | .eql => some (.bool (a == b))
  | .neq => some (.bool (a != b))
  | .lss => some (.bool (decide (a < b)))
  | .leq => some (.bool (decide (a ≤ b)))
  | .gtr => some (.bool (decide (a > b)))
  | .geq => some (.bool (decide (a ≥ b)))
  | .shl => none
  | .shr => none
def vShift (op : BinOp) (k : IntKind) (x y : Int) : Option Value :=
  if y < 0 then none else
  match op with
  | .shl => some (.int k (k.wrap (x * 2 ^ (min y.toNat k.bits))))
  | .shr => some (.int k (x.fdiv (2 ^ (min y.toNat k.bits))))
  | _ => none
def vStr (op : BinOp) (x y : ByteArray) : Option Value :=
  match op with
  | .add => if ((x.size + y.size : Nat) : Int) > IntKind.i64.max then none else some (.string (x ++ y))
  | .eql => some (.bool (x.toList == y.toList))
  | .neq => some (.bool !(x.toList == y.toList))
  | .lss => some (.bool (Op.bytesLess x.toList y.toList))
  | .leq => some (.bool (Op.bytesLess x.toList y.toList || x.toList == y.toList))
  | .gtr => some (.bool !(Op.bytesLess x.toList y.toList || x.toList == y.toList))
  | .geq => some (.bool !(Op.bytesLess x.toList y.toList))
  | _ => none
def vBi (op : BinOp) : Value → Value → Option Value
  | .int k a, .int k' b => match op with
    | .shl => vShift op k a b
    | .shr => vShift op k a b
    | _ => if k = k' then vInt op k a b else none
  | .string a, .string b => vStr op a b
  | _, _ => none
def vEq (k : EqK) : Value → Value → Option Bool
  | .bool a, .bool b => if k = .bool then some (a == b) else none
  | .pointer none, .pointer b => if k = .ptr then some b.isNone else none
  | .pointer (some _), .pointer none => if k = .ptr then some false else none
  | .slice none _ _, .slice b _ _ => if k = .slice then some b.isNone else none
  | .slice (some _) _ _, .slice none _ _ => if k = .slice then some false else none
  | .map none, .map b => if k = .map then some b.isNone else none
  | .map (some _), .map none => if k = .map then some false else none
  | .nilIface, .iface _ _ => if k = .iface then some false else none
  | .iface _ _, .nilIface => if k = .iface then some false else none
  | .nilFunc, .nilFunc => if k = .func then some true else none
  | .nilFunc, .func _ _ _ => if k = .func then some false else none
  | .func _ _ _, .nilFunc => if k = .func then some false else none
  | _, _ => none
def vNo : Value → Option Value
  | .bool b => some (.bool !b)
  | _ => none
def vNg : Value → Option Value
  | .int k n => some (.int k (k.wrap (0 - n)))
  | _ => none
def vCv (k : IntKind) : Value → Option Value
  | .int _ n => some (.int k (k.wrap n))
  | _ => none
def vLen : Value → Option Value
  | .slice _ n _ => some (.int .i64 n)
  | _ => none
def vLns : Value → Option Value
  | .string s => some (.int .i64 s.size)
  | _ => none
def vLnm (w : World) : Value → Option Value
  | .map none => some (.int .i64 0)
  | .map (some r) => match w.heap[r]? with
    | some (.map es _) => some (.int .i64 es.size)
    | _ => none
  | _ => none
def vCap : Value → Option Value
  | .slice _ _ c => some (.int .i64 c)
  | _ => none
def vIA (sz : Nat) : Value → Value → Option Value
  | .slice (some a) len _, .int _ i => if 0 ≤ i ∧ i < len then some (.pointer (some (a.add (i.toNat * sz)))) else none
  | _, _ => none
def vIXS : Value → Value → Option Value
  | .string s, .int _ i => if 0 ≤ i then (s[i.toNat]?).map (fun b => .int .u8 b.toNat) else none
  | _, _ => none
def vFL (off : Nat) : Value → Option Value
  | .agg cs => cs[off]?
  | _ => none
def vFLN (off n : Nat) : Value → Option Value
  | .agg cs => some (.agg (cs.extract off (off + n)))
  | _ => none
def bnd (v : Option Value) (dflt y : Nat) : Option Nat :=
  match v with
  | none => some dflt
  | some (.int _ i) => if 0 ≤ i ∧ i ≤ y then some i.toNat else none
  | some _ => none
/-- 'x[lo:hi:mx]' of a slice (sz: cells an element). -/
def vSL (sz : Nat) (x : Value) (lo hi mx : Option Value) : Option Value :=
  match x with
  | .slice a len cap => match bnd mx cap cap with
    | none => none
    | some m => match bnd hi len m with
      | none => none
      | some h => match bnd lo 0 h with
        | none => none
        | some l => some (.slice (if m = l then a else a.map (·.add (l * sz))) (h - l) (m - l))
  | _ => none
/-- 'x[lo:hi]' of a string. -/
def vSLS (x : Value) (lo hi : Option Value) : Option Value :=
  match x with
  | .string s => match bnd hi s.size s.size with
    | none => none
    | some h => match bnd lo 0 h with
      | none => none
      | some l => some (.string (s.extract l h))
  | _ => none
def fillAt (cells : Array Value) : List (Nat × Nat × Value) → Option (Array Value)
  | [] => some cells
  | (off, size, v) :: rest =>
    if v.cells.size ≠ size || off + v.cells.size > cells.size then none
    else fillAt (v.cells.zipIdx.foldl (fun cs (c, j) => cs.setIfInBounds (off + j) c) cells) rest
def vPk : Value → Value → Value → Option Value
  | .bool c, a, b => some (if c then a else b)
  | _, _, _ => none
def vEx (i : Nat) : Value → Option Value
  | .tuple vs => vs[i]?
  | _ => none

def vMM (mx : Bool) : Value → Value → Option Value
  | .int k x, .int _ y => some (.int k (if mx then (if y > x then y else x) else (if y < x then y else x)))
  | _, _ => none
def scEq : ScK → Value → Value → Option Bool
  | .int, .int k a, .int k' b => if k = k' then some (a == b) else none
  | .str, .string a, .string b => some (a.toList == b.toList)
  | .bool, .bool a, .bool b => some (a == b)
  | _, _, _ => none
def eqCells (xs ys : Array Value) : List (Nat × ScK) → Option Bool
  | [] => some true
  | (o, k) :: r => match xs[o]?, ys[o]? with
    | some a, some b => match scEq k a b, eqCells xs ys r with
      | some c, some d => some (c && d)
      | _, _ => none
    | _, _ => none
def vEqa (neg : Bool) (fs : List (Nat × ScK)) : Value → Value → Option Value
  | .agg xs, .agg ys => (eqCells xs ys fs).map fun r => .bool (if neg then !r else r)
  | _, _ => none

def oev (ρ : Env) : Option O → Option (Option Value)
  | none => some none
  | some x => match x.ev ρ with
    | some v => some (some v)
    | none => none
def pev (ρ : Env) : List (Nat × Nat × O) → Option (List (Nat × Nat × Value))
  | [] => some []
  | (o, n, x) :: r => match x.ev ρ, pev ρ r with
    | some v, some l => some ((o, n, v) :: l)
    | _, _ => none

def R.ev (w : World) (ρ : Env) : R → Option Value
  | .mv x => x.ev ρ
  | .nn x => (x.ev ρ).bind vNN
  | .fa off x => (x.ev ρ).bind (vFA off)
  | .l1 x => (x.ev ρ).bind (vL1 w)
  | .ln n x => (x.ev ρ).bind (vLN w n)
  | .bi op x y => (x.ev ρ).bind fun a => (y.ev ρ).bind fun b => vBi op a b
  | .eq k neg x y => (x.ev ρ).bind fun a => (y.ev ρ).bind fun b => (vEq k a b).map fun r => .bool (if neg then !r else r)
  | .no x => (x.ev ρ).bind vNo
  | .ng x => (x.ev ρ).bind vNg
  | .cv k x => (x.ev ρ).bind (vCv k)
  | .len x => (x.ev ρ).bind vLen
  | .lns x => (x.ev ρ).bind vLns
  | .lnm x => (x.ev ρ).bind (vLnm w)
  | .cap x => (x.ev ρ).bind vCap
  | .ia sz s i => (s.ev ρ).bind fun a => (i.ev ρ).bind fun b => vIA sz a b
  | .ixs s i => (s.ev ρ).bind fun a => (i.ev ρ).bind fun b => vIXS a b
  | .fl off x => (x.ev ρ).bind (vFL off)
  | .fln off n x => (x.ev ρ).bind (vFLN off n)
  | .sl sz x lo hi mx => (x.ev ρ).bind fun a => (oev ρ lo).bind fun l => (oev ρ hi).bind fun h => (oev ρ mx).bind fun m => vSL sz a l h m
  | .sls x lo hi => (x.ev ρ).bind fun a => (oev ρ lo).bind fun l => (oev ρ hi).bind fun h => vSLS a l h
  | .bd zero parts => (pev ρ parts).bind fun ps => (fillAt zero ps).map .agg
  | .pk c a b => (c.ev ρ).bind fun c => (a.ev ρ).bind fun a => (b.ev ρ).bind fun b => vPk c a b
  | .ex i x => (x.ev ρ).bind (vEx i)
  | .mi t x => (x.ev ρ).map (.iface t)
  | .mm mx x y => (x.ev ρ).bind fun a => (y.ev ρ).bind fun b => vMM mx a b
  | .eqa neg fs x y => (x.ev ρ).bind fun a => (y.ev ρ).bind fun b => vEqa neg fs a b
  | .mf fn fst cs => (evs ρ fst).bind fun f => (evs ρ cs).map fun c => .func fn f.toArray c.toArray

end Go.W
