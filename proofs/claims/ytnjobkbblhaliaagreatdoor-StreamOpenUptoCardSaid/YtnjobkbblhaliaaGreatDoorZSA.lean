/- Texts that the last file stands on: W1, W2, W3, W4, W5, WO, W6, W7, W8, W9, W10, S1, W11, WI, WK. -/
import Derived.Deep.Quiet
import Derived.WalkKit
import Derived.Test.YtnjobkbblhaliaaGreatDoorProg
import Derived.IntWalk
import Derived.ProofKit
import Derived.SizedLaws
import Derived.Shelf.SlIterI.Nil
import Derived.Shelf.SortM.Plain
import Derived.Shelf.SortM.SortNone
import Derived.Ground.GgzProg
import Derived.Ground.SlgmProg
import Derived.Shelf.LaysM
import Derived.Shelf.Strconv.Itoa3
import Derived.Maps.RangeRun
import Derived.TacticsIn
import Derived.OrdersIn
import Derived.RangeFuncFrom
import Derived.RangeFuncWrites
import Derived.RangeFuncLeaves
import Derived.RangeFuncCalls
import Derived.KernelRfl
set_option linter.unusedSimpArgs false
set_option linter.unusedVariables false
set_option maxRecDepth 100000
namespace Go.W
section
open Go
def ro (P:Program) (w:World) {α:Type}:Sem α→Option α
 | .pure a=>some a
 | .load _ a k=>match w.cell? a with | some v=>ro P w (k v) | none=>none
 | .shape r k=>ro P w (k (w.shape? r))
 | .frozen a k=>ro P w (k (w.frozen? a))
 | .getObj r k=>match w.heap[r]? with | some (.cells ..)=>none | some o=>ro P w (k o) | none=>none
 | .program k=>ro P w (k P)
 | .mark _ k=>ro P w k
 | .store ..=>none
 | .new ..=>none
 | .freeze ..=>none
 | .setObj ..=>none
 | .choose ..=>none
 | .sys ..=>none
 | .halt _=>none
theorem ro_run {P:Program} {w:World} {α:Type} {s:Sem α} {a:α} (h:ro P w s=some a):s.run P w = .ok a w:=by
 induction s with
 | pure x=>simp only [ro,Option.some.injEq] at h;subst h;rfl
 | load m ad k ih=>
   simp only [ro] at h;cases hc:w.cell? ad with
   | none=>simp [hc] at h
   | some v=>simp only [hc] at h;simp only [Sem.run,hc];exact ih v h
 | shape r k ih=>simp only [ro] at h;simp only [Sem.run];exact ih _ h
 | frozen ad k ih=>simp only [ro] at h;simp only [Sem.run];exact ih _ h
 | getObj r k ih=>
   simp only [ro] at h;cases hc:w.heap[r]? with
   | none=>simp [hc] at h
   | some o=>cases o<;>simp only [hc] at h<;>first | cases h | (simp only [Sem.run,hc];exact ih _ h)
 | program k ih=>simp only [ro] at h;simp only [Sem.run];exact ih _ h
 | mark m k ih=>simp only [ro] at h;simp only [Sem.run];exact ih h
 | store=>simp [ro] at h
 | new=>simp [ro] at h
 | freeze=>simp [ro] at h
 | setObj=>simp [ro] at h
 | choose=>simp [ro] at h
 | sys=>simp [ro] at h
 | halt=>simp [ro] at h
theorem ro_bind {P:Program} {w:World} {α β:Type} (s:Sem α) (f:α→Sem β):ro P w (s >>= f)=(ro P w s).bind (fun a=>ro P w (f a)):=by
 show ro P w (s.bind f)=_
 induction s with
 | pure x=>simp [Sem.bind,ro]
 | load m ad k ih=>simp only [Sem.bind,ro];cases w.cell? ad<;>simp [ih]
 | shape r k ih=>simp only [Sem.bind,ro,ih]
 | frozen r k ih=>simp only [Sem.bind,ro,ih]
 | getObj r k ih=>
   simp only [Sem.bind,ro];cases w.heap[r]? with
   | none=>rfl
   | some o=>cases o<;>simp [ih]
 | program k ih=>simp only [Sem.bind,ro,ih]
 | mark m k ih=>simp only [Sem.bind,ro,ih]
 | store=>rfl
 | new=>rfl
 | freeze=>rfl
 | setObj=>rfl
 | choose=>rfl
 | sys=>rfl
 | halt=>rfl
@[simp] theorem ro_pure {P:Program} {w:World} {α:Type} (a:α):ro P w (pure a:Sem α)=some a:=rfl
@[simp] theorem ro_map {P:Program} {w:World} {α β:Type} (f:α→β) (s:Sem α):ro P w (f <$> s)=(ro P w s).map f:=by
 show ro P w (s.bind (fun a=>.pure (f a)))=_;have:=ro_bind (P:=P) (w:=w) s (fun a=>(pure (f a):Sem β));rw [show s.bind (fun a=>.pure (f a))=s >>= (fun a=>(pure (f a):Sem β)) from rfl,this];cases ro P w s<;>rfl
theorem ro_program {P:Program} {w:World}:ro P w program=some P:=rfl
theorem ro_load {P:Program} {w:World} (a:Addr) (m:Mode):ro P w (load a m)=w.cell? a:=by
 simp only [load,ro];cases w.cell? a<;>rfl
theorem ro_typeInfo {P:Program} {w:World} (t:TypeId):ro P w (typeInfo t)=P.info? t:=by
 simp only [typeInfo,ro_bind,ro_program,Option.bind_some];cases P.info? t<;>rfl
theorem ro_underlying {P:Program} {w:World} (t:TypeId):ro P w (underlying t)=P.underlying t:=by
 simp only [underlying,ro_bind,ro_program,Option.bind_some];cases P.underlying t<;>rfl
theorem ro_sizeOf {P:Program} {w:World} (t:TypeId):ro P w (sizeOf t)=(P.info? t).map (·.size):=by
 simp only [sizeOf,ro_bind,ro_typeInfo];cases P.info? t<;>rfl
def aggB:TypeDesc→Bool
 | .struct _=>true
 | .array _ _=>true
 | _=>false
theorem ro_isAgg {P:Program} {w:World} (t:TypeId):ro P w (isAgg t)=(P.underlying t).map aggB:=by
 simp only [isAgg,ro_bind,ro_underlying];cases P.underlying t with
 | none=>rfl
 | some d=>cases d<;>rfl
theorem ro_zeroValue {P:Program} {w:World} (t:TypeId):ro P w (zeroValue t)=(P.info? t).bind (·.zero):=by
 simp only [zeroValue,ro_bind,ro_typeInfo];cases P.info? t with
 | none=>rfl
 | some i=>cases h:i.zero<;>simp [h]<;>rfl
def cellsFrom (w:World) (a:Addr) (i:Nat):Nat→Array Value→Option (Array Value)
 | 0,acc=>some acc
 | n+1,acc=>match w.cell? (a.add i) with
   | some v=>cellsFrom w a (i+1) n (acc.push v)
   | none=>none
theorem ro_loadCellsFrom {P:Program} {w:World} (a:Addr):∀ (n i:Nat) (acc:Array Value),ro P w (loadCellsFrom a i n acc)=cellsFrom w a i n acc:=by
 intro n
 induction n with
 | zero=>intro i acc;rfl
 | succ n ih=>
   intro i acc;simp only [loadCellsFrom,ro_bind,ro_load,cellsFrom];cases w.cell? (a.add i) with
   | none=>rfl
   | some v=>simp [ih]
theorem ro_loadCells {P:Program} {w:World} (a:Addr) (n:Nat):ro P w (loadCells a n)=cellsFrom w a 0 n #[]:=ro_loadCellsFrom a n 0 #[]
inductive O where
 | t (n:Nat)
 | c (v:Value)
 deriving Inhabited
abbrev Env:=List (Nat×Value)
def Env.get (ρ:Env) (t:Nat):Option Value:=
 match ρ with
 | []=>none
 | (s,v)::r=>if s=t then some v else Env.get r t
def Env.put (ρ:Env) (d:Option Nat) (v:Value):Env:=
 match d with
 | none=>ρ
 | some d=>(d,v)::ρ
def Env.keep (ρ:Env):List Nat→Env
 | []=>[]
 | t::ts=>match ρ.get t with
   | some v=>(t,v)::Env.keep ρ ts
   | none=>Env.keep ρ ts
def O.ev (ρ:Env):O→Option Value
 | .t n=>ρ.get n
 | .c v=>some v
def toO:Operand→O
 | .tmp t=>.t t
 | .const v=>.c v
 | .global g=>.c (.pointer (some ⟨g,0,none⟩))
 | .func f=>.c (.func (.func f) #[] #[])
def evs (ρ:Env):List O→Option (List Value)
 | []=>some []
 | x::xs=>match x.ev ρ,evs ρ xs with
   | some v,some vs=>some (v::vs)
   | _,_=>none
inductive EqK where
 | bool | ptr | slice | iface | map | func
 deriving DecidableEq,Inhabited
inductive ScK where
 | int | str | bool
 deriving DecidableEq,Inhabited
inductive R where
 | mv (x:O)
 | nn (x:O)
 | fa (off:Nat) (x:O)
 | l1 (x:O)
 | ln (n:Nat) (x:O)
 | bi (op:BinOp) (x y:O)
 | eq (k:EqK) (neg:Bool) (x y:O)
 | no (x:O)
 | ng (x:O)
 | cv (k:IntKind) (x:O)
 | len (x:O)
 | lns (x:O)
 | lnm (x:O)
 | cap (x:O)
 | ia (sz:Nat) (s i:O)
 | ixs (s i:O)
 | fl (off:Nat) (x:O)
 | fln (off n:Nat) (x:O)
 | sl (sz:Nat) (x:O) (lo hi mx:Option O)
 | sls (x:O) (lo hi:Option O)
 | bd (zero:Array Value) (parts:List (Nat×Nat×O))
 | pk (c a b:O)
 | ex (i:Nat) (x:O)
 | mi (t:Nat) (x:O)
 | mm (mx:Bool) (x y:O)
 | eqa (neg:Bool) (fs:List (Nat×ScK)) (x y:O)
 | mf (fn:Fn) (fst cs:List O)
 deriving Inhabited
def vNN:Value→Option Value
 | .pointer (some a)=>some (.pointer (some a))
 | .iface t v=>some (.iface t v)
 | .func (.func f) a b=>some (.func (.func f) a b)
 | _=>none
def vFA (off:Nat):Value→Option Value
 | .pointer (some a)=>some (.pointer (some (a.add off)))
 | _=>none
def vL1 (w:World):Value→Option Value
 | .pointer (some a)=>w.cell? a
 | _=>none
def vLN (w:World) (n:Nat):Value→Option Value
 | .pointer (some a)=>(cellsFrom w a 0 n #[]).map .agg
 | _=>none
def vInt (op:BinOp) (k:IntKind) (a b:Int):Option Value:=
 match op with
 | .add=>some (.int k (k.wrap (a+b)))
 | .sub=>some (.int k (k.wrap (a - b)))
 | .mul=>some (.int k (k.wrap (a*b)))
 | .quo=>if b=0 then none else some (.int k (k.wrap (a.tdiv b)))
 | .rem=>if b=0 then none else some (.int k (a.tmod b))
 | .and=>some (.int k (k.wrap ((BitVec.ofInt k.bits a &&& BitVec.ofInt k.bits b).toNat)))
 | .or=>some (.int k (k.wrap ((BitVec.ofInt k.bits a ||| BitVec.ofInt k.bits b).toNat)))
 | .xor=>some (.int k (k.wrap ((BitVec.ofInt k.bits a ^^^ BitVec.ofInt k.bits b).toNat)))
 | .andNot=>none
 | .eql=>some (.bool (a == b))
 | .neq=>some (.bool (a != b))
 | .lss=>some (.bool (decide (a < b)))
 | .leq=>some (.bool (decide (a≤b)))
 | .gtr=>some (.bool (decide (a > b)))
 | .geq=>some (.bool (decide (a≥b)))
 | .shl=>none
 | .shr=>none
def vShift (op:BinOp) (k:IntKind) (x y:Int):Option Value:=
 if y < 0 then none else
 match op with
 | .shl=>some (.int k (k.wrap (x*2 ^ (min y.toNat k.bits))))
 | .shr=>some (.int k (x.fdiv (2 ^ (min y.toNat k.bits))))
 | _=>none
def vStr (op:BinOp) (x y:ByteArray):Option Value:=
 match op with
 | .add=>if ((x.size+y.size:Nat):Int) > IntKind.i64.max then none else some (.string (x++y))
 | .eql=>some (.bool (x.toList == y.toList))
 | .neq=>some (.bool !(x.toList == y.toList))
 | .lss=>some (.bool (Op.bytesLess x.toList y.toList))
 | .leq=>some (.bool (Op.bytesLess x.toList y.toList||x.toList == y.toList))
 | .gtr=>some (.bool !(Op.bytesLess x.toList y.toList||x.toList == y.toList))
 | .geq=>some (.bool !(Op.bytesLess x.toList y.toList))
 | _=>none
def vBi (op:BinOp):Value→Value→Option Value
 | .int k a,.int k' b=>match op with
   | .shl=>vShift op k a b
   | .shr=>vShift op k a b
   | _=>if k=k' then vInt op k a b else none
 | .string a,.string b=>vStr op a b
 | _,_=>none
def vEq (k:EqK):Value→Value→Option Bool
 | .bool a,.bool b=>if k = .bool then some (a == b) else none
 | .pointer none,.pointer b=>if k = .ptr then some b.isNone else none
 | .pointer (some _),.pointer none=>if k = .ptr then some false else none
 | .slice none _ _,.slice b _ _=>if k = .slice then some b.isNone else none
 | .slice (some _) _ _,.slice none _ _=>if k = .slice then some false else none
 | .map none,.map b=>if k = .map then some b.isNone else none
 | .map (some _),.map none=>if k = .map then some false else none
 | .nilIface,.iface _ _=>if k = .iface then some false else none
 | .iface _ _,.nilIface=>if k = .iface then some false else none
 | .nilFunc,.nilFunc=>if k = .func then some true else none
 | .nilFunc,.func _ _ _=>if k = .func then some false else none
 | .func _ _ _,.nilFunc=>if k = .func then some false else none
 | _,_=>none
def vNo:Value→Option Value
 | .bool b=>some (.bool !b)
 | _=>none
def vNg:Value→Option Value
 | .int k n=>some (.int k (k.wrap (0 - n)))
 | _=>none
def vCv (k:IntKind):Value→Option Value
 | .int _ n=>some (.int k (k.wrap n))
 | _=>none
def vLen:Value→Option Value
 | .slice _ n _=>some (.int .i64 n)
 | _=>none
def vLns:Value→Option Value
 | .string s=>some (.int .i64 s.size)
 | _=>none
def vLnm (w:World):Value→Option Value
 | .map none=>some (.int .i64 0)
 | .map (some r)=>match w.heap[r]? with
   | some (.map es _)=>some (.int .i64 es.size)
   | _=>none
 | _=>none
def vCap:Value→Option Value
 | .slice _ _ c=>some (.int .i64 c)
 | _=>none
def vIA (sz:Nat):Value→Value→Option Value
 | .slice (some a) len _,.int _ i=>if 0≤i∧i < len then some (.pointer (some (a.add (i.toNat*sz)))) else none
 | _,_=>none
def vIXS:Value→Value→Option Value
 | .string s,.int _ i=>if 0≤i then (s[i.toNat]?).map (fun b=>.int .u8 b.toNat) else none
 | _,_=>none
def vFL (off:Nat):Value→Option Value
 | .agg cs=>cs[off]?
 | _=>none
def vFLN (off n:Nat):Value→Option Value
 | .agg cs=>some (.agg (cs.extract off (off+n)))
 | _=>none
def bnd (v:Option Value) (dflt y:Nat):Option Nat:=
 match v with
 | none=>some dflt
 | some (.int _ i)=>if 0≤i∧i≤y then some i.toNat else none
 | some _=>none
def vSL (sz:Nat) (x:Value) (lo hi mx:Option Value):Option Value:=
 match x with
 | .slice a len cap=>match bnd mx cap cap with
   | none=>none
   | some m=>match bnd hi len m with
     | none=>none
     | some h=>match bnd lo 0 h with
       | none=>none
       | some l=>some (.slice (if m=l then a else a.map (·.add (l*sz))) (h - l) (m - l))
 | _=>none
def vSLS (x:Value) (lo hi:Option Value):Option Value:=
 match x with
 | .string s=>match bnd hi s.size s.size with
   | none=>none
   | some h=>match bnd lo 0 h with
     | none=>none
     | some l=>some (.string (s.extract l h))
 | _=>none
def fillAt (cells:Array Value):List (Nat×Nat×Value)→Option (Array Value)
 | []=>some cells
 | (off,size,v)::rest=>
   if v.cells.size≠size||off+v.cells.size > cells.size then none
   else fillAt (v.cells.zipIdx.foldl (fun cs (c,j)=>cs.setIfInBounds (off+j) c) cells) rest
def vPk:Value→Value→Value→Option Value
 | .bool c,a,b=>some (if c then a else b)
 | _,_,_=>none
def vEx (i:Nat):Value→Option Value
 | .tuple vs=>vs[i]?
 | _=>none
def vMM (mx:Bool):Value→Value→Option Value
 | .int k x,.int _ y=>some (.int k (if mx then (if y > x then y else x) else (if y < x then y else x)))
 | _,_=>none
def scEq:ScK→Value→Value→Option Bool
 | .int,.int k a,.int k' b=>if k=k' then some (a == b) else none
 | .str,.string a,.string b=>some (a.toList == b.toList)
 | .bool,.bool a,.bool b=>some (a == b)
 | _,_,_=>none
def eqCells (xs ys:Array Value):List (Nat×ScK)→Option Bool
 | []=>some true
 | (o,k)::r=>match xs[o]?,ys[o]? with
   | some a,some b=>match scEq k a b,eqCells xs ys r with
     | some c,some d=>some (c&&d)
     | _,_=>none
   | _,_=>none
def vEqa (neg:Bool) (fs:List (Nat×ScK)):Value→Value→Option Value
 | .agg xs,.agg ys=>(eqCells xs ys fs).map fun r=>.bool (if neg then !r else r)
 | _,_=>none
def oev (ρ:Env):Option O→Option (Option Value)
 | none=>some none
 | some x=>match x.ev ρ with
   | some v=>some (some v)
   | none=>none
def pev (ρ:Env):List (Nat×Nat×O)→Option (List (Nat×Nat×Value))
 | []=>some []
 | (o,n,x)::r=>match x.ev ρ,pev ρ r with
   | some v,some l=>some ((o,n,v)::l)
   | _,_=>none
def R.ev (w:World) (ρ:Env):R→Option Value
 | .mv x=>x.ev ρ
 | .nn x=>(x.ev ρ).bind vNN
 | .fa off x=>(x.ev ρ).bind (vFA off)
 | .l1 x=>(x.ev ρ).bind (vL1 w)
 | .ln n x=>(x.ev ρ).bind (vLN w n)
 | .bi op x y=>(x.ev ρ).bind fun a=>(y.ev ρ).bind fun b=>vBi op a b
 | .eq k neg x y=>(x.ev ρ).bind fun a=>(y.ev ρ).bind fun b=>(vEq k a b).map fun r=>.bool (if neg then !r else r)
 | .no x=>(x.ev ρ).bind vNo
 | .ng x=>(x.ev ρ).bind vNg
 | .cv k x=>(x.ev ρ).bind (vCv k)
 | .len x=>(x.ev ρ).bind vLen
 | .lns x=>(x.ev ρ).bind vLns
 | .lnm x=>(x.ev ρ).bind (vLnm w)
 | .cap x=>(x.ev ρ).bind vCap
 | .ia sz s i=>(s.ev ρ).bind fun a=>(i.ev ρ).bind fun b=>vIA sz a b
 | .ixs s i=>(s.ev ρ).bind fun a=>(i.ev ρ).bind fun b=>vIXS a b
 | .fl off x=>(x.ev ρ).bind (vFL off)
 | .fln off n x=>(x.ev ρ).bind (vFLN off n)
 | .sl sz x lo hi mx=>(x.ev ρ).bind fun a=>(oev ρ lo).bind fun l=>(oev ρ hi).bind fun h=>(oev ρ mx).bind fun m=>vSL sz a l h m
 | .sls x lo hi=>(x.ev ρ).bind fun a=>(oev ρ lo).bind fun l=>(oev ρ hi).bind fun h=>vSLS a l h
 | .bd zero parts=>(pev ρ parts).bind fun ps=>(fillAt zero ps).map .agg
 | .pk c a b=>(c.ev ρ).bind fun c=>(a.ev ρ).bind fun a=>(b.ev ρ).bind fun b=>vPk c a b
 | .ex i x=>(x.ev ρ).bind (vEx i)
 | .mi t x=>(x.ev ρ).map (.iface t)
 | .mm mx x y=>(x.ev ρ).bind fun a=>(y.ev ρ).bind fun b=>vMM mx a b
 | .eqa neg fs x y=>(x.ev ρ).bind fun a=>(y.ev ρ).bind fun b=>vEqa neg fs a b
 | .mf fn fst cs=>(evs ρ fst).bind fun f=>(evs ρ cs).map fun c=>.func fn f.toArray c.toArray
end
section
open Go
def szOf (P:Program) (t:TypeId):Option Nat:=(P.info? t).map (·.size)
def isC:Operand→Bool
 | .const _=>true
 | _=>false
def eqK:TypeDesc→Option EqK
 | .bool=>some .bool
 | .pointer _=>some .ptr
 | .slice _=>some .slice
 | .interface _=>some .iface
 | .map _ _=>some .map
 | .func _ _ _=>some .func
 | _=>none
def resFields (P:Program) (fs:Array Field):List (Nat×Operand)→Option (List (Nat×Nat×O))
 | []=>some []
 | (i,x)::r=>match fs[i]? with
   | some f=>match szOf P f.type,resFields P fs r with
     | some n,some l=>some ((f.offset,n,toO x)::l)
     | _,_=>none
   | none=>none
def scK (P:Program) (f:Field):Option (Nat×ScK):=
 if f.name = "_" then none else
 match P.underlying f.type with
 | some (.int _)=>some (f.offset,.int)
 | some .string=>some (f.offset,.str)
 | some .bool=>some (f.offset,.bool)
 | _=>none
def scKs (P:Program):List Field→Option (List (Nat×ScK))
 | []=>some []
 | f::fs=>match scK P f,scKs P fs with
   | some a,some l=>some (a::l)
   | _,_=>none
def eqaOk (P:Program) (t:TypeId):Option (List (Nat×ScK)):=
 match P.underlying t with
 | some (.struct fs)=>if P.stoodInHeld t||P.eqGuardType P.depth t then none else scKs P fs.toList
 | _=>none
def allSized (P:Program) (fs:List Field):Bool:=fs.all fun f=>(szOf P f.type).isSome
def res (P:Program):Op→Option R
 | .move x=>some (.mv (toO x))
 | .assign x=>some (.mv (toO x))
 | .nilCheck x=>some (.nn (toO x))
 | .fieldAddr s x f=>match P.underlying s with
   | some (.struct fs)=>match fs[f]? with
     | some fd=>match szOf P fd.type with
       | some (_+1)=>some (.fa fd.offset (toO x))
       | _=>none
     | none=>none
   | _=>none
 | .load t x=>match P.underlying t,szOf P t with
   | some d,some n=>some (if aggB d then .ln n (toO x) else .l1 (toO x))
   | _,_=>none
 | .binOp op t x y _=>match P.underlying t with
   | some (.int _)=>some (.bi op (toO x) (toO y))
   | some .string=>some (.bi op (toO x) (toO y))
   | some d=>match eqK d,op with
     | some k,.eql=>if (k = .iface||k = .ptr) && !(isC x||isC y) then none else some (.eq k false (toO x) (toO y))
     | some k,.neq=>if (k = .iface||k = .ptr) && !(isC x||isC y) then none else some (.eq k true (toO x) (toO y))
     | none,.eql=>(eqaOk P t).map fun fs=>.eqa false fs (toO x) (toO y)
     | none,.neq=>(eqaOk P t).map fun fs=>.eqa true fs (toO x) (toO y)
     | _,_=>none
   | none=>none
 | .unOp .not _ x=>some (.no (toO x))
 | .unOp .neg _ x=>some (.ng (toO x))
 | .convert s d x=>match P.underlying s,P.underlying d with
   | some (.int _),some (.int k)=>some (.cv k (toO x))
   | _,_=>none
 | .call { callee:=.builtin .len,args,argTypes}=>match argTypes[0]?,args.toList with
   | some t,[x]=>match P.underlying t with
     | some (.slice _)=>some (.len (toO x))
     | some .string=>some (.lns (toO x))
     | some (.map _ _)=>some (.lnm (toO x))
     | _=>none
   | _,_=>none
 | .call { callee:=.builtin .cap,args,argTypes}=>match argTypes[0]?,args.toList with
   | some t,[x]=>match P.underlying t with
     | some (.slice _)=>some (.cap (toO x))
     | _=>none
   | _,_=>none
 | .call { callee:=.builtin .min,args,..}=>match args.toList with
   | [x,y]=>some (.mm false (toO x) (toO y))
   | _=>none
 | .call { callee:=.builtin .max,args,..}=>match args.toList with
   | [x,y]=>some (.mm true (toO x) (toO y))
   | _=>none
 | .indexAddr t x i=>match P.underlying t with
   | some (.slice e)=>(szOf P e).map fun n=>.ia n (toO x) (toO i)
   | _=>none
 | .index t x i=>match P.underlying t with
   | some .string=>some (.ixs (toO x) (toO i))
   | _=>none
 | .field t x f=>match P.underlying t with
   | some (.struct fs)=>match fs[f]? with
     | some fd=>match P.underlying fd.type,szOf P fd.type with
       | some d,some n=>some (if aggB d then .fln fd.offset n (toO x) else .fl fd.offset (toO x))
       | _,_=>none
     | none=>none
   | _=>none
 | .slice t x lo hi mx=>match P.underlying t with
   | some (.slice e)=>match szOf P e with
     | some n=>if mx.isSome && !hi.isSome then none else some (.sl n (toO x) (lo.map toO) (hi.map toO) (mx.map toO))
     | none=>none
   | some .string=>if mx.isSome then none else some (.sls (toO x) (lo.map toO) (hi.map toO))
   | _=>none
 | .build t parts=>match P.underlying t,(P.info? t).bind (·.zero) with
   | some (.struct fs),some z=>if allSized P fs.toList then (resFields P fs parts.toList).map (.bd z.cells) else none
   | _,_=>none
 | .pick c a b=>some (.pk (toO c) (toO a) (toO b))
 | .extract x i=>some (.ex i (toO x))
 | .makeInterface t x=>match P.underlying t with
   | some (.interface _)=>none
   | some _=>some (.mi t (toO x))
   | none=>none
 | .makeFunc fn f c=>some (.mf fn (f.toList.map toO) (c.toList.map toO))
 | _=>none
section
variable {P:Program} {w:World}
theorem ro_v (s:Sem Value):ro P w (do pure (.value (← s)):Sem Next)=(ro P w s).map Next.value:=by
 rw [ro_bind];cases ro P w s<;>rfl
theorem ro_intOp {op:BinOp} {k:IntKind} {a b:Int} {v:Value} (h:vInt op k a b=some v) (x:TypeId) :
   ro P w (binOp op x (.int k a) (.int k b))=some v:=by
 cases op
 all_goals first
   | (simp only [vInt,Option.some.injEq] at h;subst h;simp only [binOp,Op.intArith,Op.intBits,Op.intCmp,ne_eq,not_true_eq_false,if_false];rfl)
   | (simp only [vInt] at h;split at h
      · cases h
      · rename_i hb;simp only [Option.some.injEq] at h;subst h
        simp [binOp,Op.intDiv,hb])
   | (simp [vInt] at h)
theorem ro_binOp {op:BinOp} {x y:Value} {v:Value} (h:vBi op x y=some v) (t:TypeId):ro P w (binOp op t x y)=some v:=by
 unfold vBi at h
 split at h
 · rename_i k a k' b
   split at h
   · unfold vShift at h
     split at h
     · cases h
     · rename_i hb;simp only [Option.some.injEq] at h;subst h;simp [binOp,Op.shift,hb]
   · unfold vShift at h
     split at h
     · cases h
     · rename_i hb;simp only [Option.some.injEq] at h;subst h;simp [binOp,Op.shift,hb]
   · rename_i h1 h2
     split at h
     · rename_i hk;subst hk;exact ro_intOp h t
     · cases h
 · rename_i a b;unfold vStr at h;cases op<;>simp only at h<;>try (cases h)
   all_goals first
     | rfl
     | (split at h
        · cases h
        · rename_i hb;cases h;simp only [binOp,Op.stringOp];rw [if_neg hb];rfl)
 · cases h
theorem ro_eqGuard_int {op:BinOp} {x y:Operand} {a b:Value} {t:TypeId} {v:Value} (h:vBi op a b=some v):ro P w (eqGuard op t x y a b)=some ():=by
 unfold vBi at h
 split at h
 · cases op<;>rfl
 · cases op<;>rfl
 · cases h
theorem ro_equal {k:EqK} {d:TypeDesc} {t:TypeId} {a b:Value} {r:Bool} (hd:P.underlying t=some d) (hk:eqK d=some k) (h:vEq k a b=some r) :
   ro P w (Op.equal t a b)=some r:=by
 unfold Op.equal Op.maxDepth;unfold Op.equalIn;rw [ro_bind,ro_underlying,hd,Option.bind_some];unfold vEq at h
 split at h<;>(try split at h)<;>(try cases h)<;>rename_i hkk<;>subst hkk<;>(cases d<;>simp only [eqK,Option.some.injEq,reduceCtorEq] at hk)<;>rfl
theorem vEq_not_agg {k:EqK} {a b:Value} {r:Bool} (h:vEq k a b=some r) (op:BinOp) (t:TypeId) (x y:Operand):ro P w (eqGuard op t x y a b)=some ():=by
 unfold vEq at h
 split at h<;>(try split at h)<;>(try cases h)<;>(cases op<;>rfl)
theorem binOp_eq {k:EqK} {a b:Value} {r:Bool} (h:vEq k a b=some r) (t:TypeId) :
   binOp .eql t a b=(do pure (.bool (← Op.equal t a b)))∧binOp .neq t a b=(do pure (.bool (!(← Op.equal t a b)))):=by
 unfold vEq at h
 split at h<;>(try split at h)<;>(try cases h)<;>exact ⟨rfl,rfl⟩
theorem evs_of {ρ:Env} {e:Operand→Value} (he:∀ x u,(toO x).ev ρ=some u→e x=u):∀ (l:List Operand) (vs:List Value),evs ρ (l.map toO)=some vs→l.map e=vs:=by
 intro l
 induction l with
 | nil=>intro vs h;simp only [List.map_nil,evs,Option.some.injEq] at h;subst h;rfl
 | cons x l ih=>
   intro vs h;simp only [List.map_cons,evs] at h
   split at h
   · rename_i v vs' h1 h2;simp only [Option.some.injEq] at h;subst h;simp [he x v h1,ih vs' h2]
   · cases h
theorem oev_of {ρ:Env} {e:Operand→Value} (he:∀ x u,(toO x).ev ρ=some u→e x=u) (x:Option Operand) (v:Option Value) (h:oev ρ (x.map toO)=some v):x.map e=v:=by
 cases x with
 | none=>simp only [Option.map_none,oev,Option.some.injEq] at h;subst h;rfl
 | some x=>
   simp only [Option.map_some,oev] at h
   split at h
   · rename_i u hu;simp only [Option.some.injEq] at h;subst h;simp [he x u hu]
   · cases h
theorem ro_sliceBound {x:Value} {y:Nat} {c:BoundsCode} {d n:Nat} (h:bnd (some x) d y=some n):ro P w (Instr.sliceBound x y c)=some n:=by
 unfold bnd at h
 split at h
 · rename_i he;cases he
 · rename_i k i he;simp only [Option.some.injEq] at he;subst he
   split at h
   · rename_i hi;simp only [Option.some.injEq] at h;subst h;simp [Instr.sliceBound,asIntOf,ro_bind,hi]
   · cases h
 · cases h
theorem ro_sliceBounds {isS:Bool} {len cap m h l:Nat} {lo hi mx:Option Value} (h1:bnd mx cap cap=some m) (h2:bnd hi len m=some h) (h3:bnd lo 0 h=some l)
   (hm:mx.isSome=true→hi.isSome=true):ro P w (Instr.sliceBounds isS len cap lo hi mx)=some (l,h,m):=by
 unfold Instr.sliceBounds;cases mx with
 | none=>
   simp only [bnd,Option.some.injEq] at h1;subst h1;cases hi with
   | none=>
     simp only [bnd,Option.some.injEq] at h2;subst h2;cases lo with
     | none=>simp only [bnd,Option.some.injEq] at h3;subst h3;simp [ro_bind]
     | some v=>simp [ro_bind,ro_sliceBound h3]
   | some u=>
     cases lo with
     | none=>simp only [bnd,Option.some.injEq] at h3;subst h3;simp [ro_bind,ro_sliceBound h2]
     | some v=>simp [ro_bind,ro_sliceBound h3,ro_sliceBound h2]
 | some x=>
   cases hi with
   | none=>simp at hm
   | some u=>
     cases lo with
     | none=>simp only [bnd,Option.some.injEq] at h3;subst h3;simp [ro_bind,ro_sliceBound h2,ro_sliceBound h1]
     | some v=>simp [ro_bind,ro_sliceBound h3,ro_sliceBound h2,ro_sliceBound h1]
theorem ro_part {t:TypeId} {cs:Array Value} {off n:Nat} {d:TypeDesc} {v:Value} (hd:P.underlying t=some d) (hn:szOf P t=some n)
   (h:(if aggB d then some (.agg (cs.extract off (off+n))) else cs[off]?)=some v):ro P w (part t cs off)=some v:=by
 unfold part;rw [ro_bind,ro_isAgg,hd];simp only [Option.map_some,Option.bind_some];cases hb:aggB d with
 | true=>
   simp only [hb,if_true,Option.some.injEq] at h;subst h;unfold szOf at hn;simp only [if_true,ro_bind,ro_sizeOf,hn,Option.bind_some,ro_pure]
 | false=>
   simp only [hb,Bool.false_eq_true,if_false] at h;simp only [Bool.false_eq_true,if_false,h,ro_pure]
theorem fill_of {P:Program} {fs:Array Field} {pl:Nat→Option (Nat×Nat)} (hpl:∀ i f n,fs[i]? = some f→szOf P f.type=some n→pl i=some (f.offset,n))
   {ρ:Env} {e:Operand→Value} (he:∀ x u,(toO x).ev ρ=some u→e x=u):∀ (parts:List (Nat×Operand)) (ps:List (Nat×Nat×O)) (vs:List (Nat×Nat×Value)) (cells out:Array Value),
   resFields P fs parts=some ps→pev ρ ps=some vs→fillAt cells vs=some out→Instr.fill pl cells (parts.map fun p=>(p.1,e p.2))=some out:=by
 intro parts
 induction parts with
 | nil=>
   intro ps vs cells out h1 h2 h3;simp only [resFields,Option.some.injEq] at h1;subst h1;simp only [pev,Option.some.injEq] at h2;subst h2
   simpa [fillAt,Instr.fill] using h3
 | cons p parts ih=>
   intro ps vs cells out h1 h2 h3;obtain ⟨i,x⟩:=p;simp only [resFields] at h1
   split at h1
   · rename_i f hf
     split at h1
     · rename_i n l hn hl;simp only [Option.some.injEq] at h1;subst h1;simp only [pev] at h2
       split at h2
       · rename_i v l' hv hl';simp only [Option.some.injEq] at h2;subst h2;simp only [fillAt] at h3
         split at h3
         · cases h3
         · rename_i hc;simp only [List.map_cons,Instr.fill,hpl i f n hf hn,he x v hv];rw [if_neg hc];exact ih l l' _ out hl hl' h3
       · cases h2
     · cases h1
   · cases h1
theorem mapM_sizes:∀ (fs:List Field),allSized P fs=true→∃ l:List (Nat×Nat),ro P w (fs.mapM fun f=>do pure (f.offset,← sizeOf f.type):Sem (List (Nat×Nat)))=some l ∧
   ∀ (i:Nat) (f:Field) (n:Nat),fs[i]? = some f→szOf P f.type=some n→l[i]? = some (f.offset,n):=by
 intro fs
 induction fs with
 | nil=>intro _;exact ⟨[],by simp [List.mapM_nil],by simp⟩
 | cons f fs ih=>
   intro h;simp only [allSized,List.all_cons,Bool.and_eq_true] at h;obtain ⟨h1,h2⟩:=h;obtain ⟨l,hl,hl2⟩:=ih h2;obtain ⟨n,hn⟩:=Option.isSome_iff_exists.1 h1;refine ⟨(f.offset,n)::l,?_,?_⟩
   · unfold szOf at hn;simp only [List.mapM_cons,ro_bind,ro_sizeOf,hn,Option.bind_some,ro_pure,hl]
   · intro i g m hg hm;cases i with
     | zero=>
       simp only [List.getElem?_cons_zero,Option.some.injEq] at hg;subst hg;rw [hn] at hm;cases hm;rfl
     | succ i=>exact hl2 i g m (by simpa using hg) hm
theorem ro_equalIn_struct (d:Nat) (t:TypeId) (xs ys:Array Value) (fs:Array Field) (ht:P.underlying t=some (.struct fs)) (hp:P.stoodInHeld t=false) :
   ro P w (Op.equalIn (d+1) t (.agg xs) (.agg ys))=ro P w (Op.eqFields d xs ys fs.toList):=by
 simp only [Op.equalIn,ro_bind,ro_underlying,ht,Option.bind_some,ro_program,hp,Bool.false_eq_true,if_false];rw [← Array.forIn_toList];generalize fs.toList=fs;clear ht
 induction fs with
 | nil=>simp [Op.eqFields]
 | cons f fs ih=>
   simp only [List.forIn_cons,Op.eqFields];by_cases hn:f.name ≠ "_"
   · rw [if_pos hn,if_pos hn];simp only [ro_bind];cases ro P w (part f.type xs f.offset) with
     | none=>rfl
     | some a=>
       simp only [Option.bind_some];cases ro P w (part f.type ys f.offset) with
       | none=>rfl
       | some b=>
         simp only [Option.bind_some];cases ro P w (Op.equalIn d f.type a b) with
         | none=>rfl
         | some r=>
           cases r
           · simp only [Option.bind_some,Bool.not_false,if_true,ro_pure]
           · simp only [Option.bind_some,Bool.not_true,Bool.false_eq_true,if_false,ro_pure];exact ih
   · rw [if_neg hn,if_neg hn];exact ih
theorem ro_eqFields (d:Nat) (xs ys:Array Value):∀ (fs:List Field) (l:List (Nat×ScK)) (r:Bool),scKs P fs=some l→eqCells xs ys l=some r→ro P w (Op.eqFields (d+1) xs ys fs)=some r:=by
 intro fs
 induction fs with
 | nil=>
   intro l r h1 h2;simp only [scKs,Option.some.injEq] at h1;subst h1;simp only [eqCells,Option.some.injEq] at h2;subst h2;rfl
 | cons f fs ih=>
   intro l r h1 h2;simp only [scKs] at h1
   split at h1
   · rename_i a l' ha hl;simp only [Option.some.injEq] at h1;subst h1;unfold scK at ha
     split at ha
     · cases ha
     · rename_i hn;obtain ⟨o,k⟩:=a;simp only [eqCells] at h2
       split at h2
       · rename_i a b hxa hyb
         split at h2
         · rename_i c d' hc hd';simp only [Option.some.injEq] at h2;subst h2;have key:∀ (dd:TypeDesc),P.underlying f.type=some dd→aggB dd=false→f.offset=o→ro P w (Op.equalIn (d+1) f.type a b)=some c →
               ro P w (Op.eqFields (d+1) xs ys (f::fs))=some (c&&d'):=by
             intro dd hdd hagg hof he;simp only [Op.eqFields];rw [if_pos (by simpa using hn)];have hp:∀ (zs:Array Value) (v:Value),zs[o]? = some v→ro P w (part f.type zs f.offset)=some v:=by
               intro zs v hv;unfold part;rw [ro_bind,ro_isAgg,hdd];simp only [Option.map_some,Option.bind_some,hagg,Bool.false_eq_true,if_false,hof,hv,ro_pure]
             simp only [ro_bind,hp xs a hxa,hp ys b hyb,he,Option.bind_some];cases c with
             | true=>simp only [Bool.not_true,Bool.false_eq_true,if_false,Bool.true_and];exact ih l' d' hl hd'
             | false=>rfl
           split at ha
           · rename_i kk hk;simp only [Option.some.injEq,Prod.mk.injEq] at ha;obtain ⟨h3,rfl⟩:=ha;cases a with
             | int k1 a1=>cases b with
               | int k2 b1=>
                 simp only [scEq] at hc
                 split at hc
                 · rename_i hkk;subst hkk;simp only [Option.some.injEq] at hc;subst hc;refine key _ hk rfl h3 ?_;unfold Op.equalIn;simp only [ro_bind,ro_underlying,hk,Option.bind_some,if_true,ro_pure]
                 · cases hc
               | _=>simp [scEq] at hc
             | _=>cases b<;>simp [scEq] at hc
           · rename_i hk;simp only [Option.some.injEq,Prod.mk.injEq] at ha;obtain ⟨h3,rfl⟩:=ha;cases a with
             | string s1=>cases b with
               | string s2=>
                 simp only [scEq,Option.some.injEq] at hc;subst hc;refine key _ hk rfl h3 ?_;unfold Op.equalIn;simp only [ro_bind,ro_underlying,hk,Option.bind_some,ro_pure];rw [beq_toListBytes]
               | _=>simp [scEq] at hc
             | _=>cases b<;>simp [scEq] at hc
           · rename_i hk;simp only [Option.some.injEq,Prod.mk.injEq] at ha;obtain ⟨h3,rfl⟩:=ha;cases a with
             | bool s1=>cases b with
               | bool s2=>
                 simp only [scEq,Option.some.injEq] at hc;subst hc;refine key _ hk rfl h3 ?_;unfold Op.equalIn;simp only [ro_bind,ro_underlying,hk,Option.bind_some,ro_pure]
               | _=>simp [scEq] at hc
             | _=>cases b<;>simp [scEq] at hc
           · cases ha
         · cases h2
       · cases h2
   · cases h1
theorem ro_eqa {t:TypeId} {l:List (Nat×ScK)} (h:eqaOk P t=some l) {neg:Bool} {a b v:Value} (hv:vEqa neg l a b=some v) (op:BinOp) (hop:op=if neg then .neq else .eql) (x y:Operand) :
   ((ro P w (eqGuard op t x y a b)).bind fun _=>ro P w (binOp op t a b))=some v:=by
 unfold eqaOk at h
 split at h
 · rename_i fs hfs
   split at h
   · cases h
   · rename_i hc;simp only [Bool.or_eq_true,not_or,Bool.not_eq_true] at hc;cases a with
     | agg xs=>cases b with
       | agg ys=>
         simp only [vEqa] at hv;obtain ⟨r,hr,hv⟩:=Option.map_eq_some_iff.1 hv;have he:ro P w (Op.equal t (.agg xs) (.agg ys))=some r:=by
           unfold Op.equal Op.maxDepth;rw [ro_equalIn_struct _ t xs ys fs hfs hc.1];exact ro_eqFields _ xs ys _ l r h hr
         have hg:ro P w (eqGuard op t x y (.agg xs) (.agg ys))=some ():=by
           have e1:P.eqGuardType P.depth t=false:=hc.2;cases op<;>simp [eqGuard,ro_bind,ro_program,e1]
         rw [hg,Option.bind_some];subst hv;cases neg with
         | false=>subst hop;simp only [Bool.false_eq_true,if_false,binOp,ro_bind,he,Option.bind_some,ro_pure]
         | true=>subst hop;simp only [if_true,binOp,ro_bind,he,Option.bind_some,ro_pure]
       | _=>simp [vEqa] at hv
     | _=>cases b<;>simp [vEqa] at hv
 · cases h
theorem res_sound {o:Oper} {r:R} (h:res P o.op=some r) {ρ:Env} {e:Operand→Value} (he:∀ x u,(toO x).ev ρ=some u→e x=u) {v:Value} (hv:r.ev w ρ=some v) :
   ro P w (execOp e o)=some (.value v):=by
 obtain ⟨dst,op,ty,pos,after,guard⟩:=o;simp only at h;unfold execOp;simp only;unfold res at h
 split at h
 · simp only [Option.some.injEq] at h;subst h;simp only [R.ev] at hv;simp [he _ _ hv]
 · simp only [Option.some.injEq] at h;subst h;simp only [R.ev] at hv;simp [he _ _ hv]
 ·
   simp only [Option.some.injEq] at h;subst h;simp only [R.ev] at hv;rename_i x;obtain ⟨u,hu,hv⟩:=Option.bind_eq_some_iff.1 hv;simp only;rw [he _ _ hu];unfold vNN at hv
   split at hv<;>first | (simp only [Option.some.injEq] at hv;subst hv;rfl) | cases hv
 ·
   rename_i s x f
   split at h
   · rename_i fs hfs
     split at h
     · rename_i fd hfd
       split at h
       · rename_i n hn;simp only [Option.some.injEq] at h;subst h;simp only [R.ev] at hv;obtain ⟨u,hu,hv⟩:=Option.bind_eq_some_iff.1 hv;rw [ro_v,he _ _ hu];unfold vFA at hv
         split at hv
         · rename_i a;simp only [Option.some.injEq] at hv;subst hv;unfold szOf at hn;simp only [Instr.fieldAt,ro_bind,ro_underlying,hfs,Option.bind_some,hfd,Instr.sureAddr,ro_pure,fieldPlace,ro_sizeOf,hn];simp
         · cases hv
       · cases h
     · cases h
   · cases h
 ·
   rename_i t x
   split at h
   · rename_i d n hd hn;simp only [Option.some.injEq] at h;subst h;rw [ro_v];cases hb:aggB d with
     | true=>
       simp only [hb,if_true,R.ev] at hv;obtain ⟨u,hu,hv⟩:=Option.bind_eq_some_iff.1 hv;rw [he _ _ hu];unfold vLN at hv
       split at hv
       · rename_i a;unfold szOf at hn;simp only [Instr.loadAt,Instr.sureAddr,ro_bind,ro_pure,Option.bind_some,loadVar,ro_isAgg,hd,Option.map_some,hb,if_true,ro_sizeOf,hn,ro_loadCells];obtain ⟨cs,hcs,hv⟩:=Option.map_eq_some_iff.1 hv;subst hv;simp [hcs]
       · cases hv
     | false=>
       simp only [hb,Bool.false_eq_true,if_false,R.ev] at hv;obtain ⟨u,hu,hv⟩:=Option.bind_eq_some_iff.1 hv;rw [he _ _ hu];unfold vL1 at hv
       split at hv
       · rename_i a;simp only [Instr.loadAt,Instr.sureAddr,ro_bind,ro_pure,Option.bind_some,loadVar,ro_isAgg,hd,Option.map_some,hb,Bool.false_eq_true,if_false,ro_load,hv]
       · cases hv
   · cases h
 ·
   rename_i op t x y yt;rw [ro_v,ro_bind];have intCase:∀ {v},(R.bi op (toO x) (toO y)).ev w ρ=some v→((ro P w (eqGuard op t x y (e x) (e y))).bind fun _=>ro P w (binOp op t (e x) (e y)))=some v:=by
     intro v hv;simp only [R.ev] at hv;obtain ⟨a,ha,hv⟩:=Option.bind_eq_some_iff.1 hv;obtain ⟨b,hb,hv⟩:=Option.bind_eq_some_iff.1 hv;rw [he _ _ ha,he _ _ hb,ro_eqGuard_int hv,Option.bind_some,ro_binOp hv]
   split at h
   · simp only [Option.some.injEq] at h;subst h;rw [intCase hv];rfl
   · simp only [Option.some.injEq] at h;subst h;rw [intCase hv];rfl
   · rename_i d hd1 hd2 hd
     split at h
     · rename_i k hk
       split at h
       · cases h
       · rename_i hg;simp only [Option.some.injEq] at h;subst h;simp only [R.ev] at hv;obtain ⟨a,ha,hv⟩:=Option.bind_eq_some_iff.1 hv;obtain ⟨b,hb,hv⟩:=Option.bind_eq_some_iff.1 hv;obtain ⟨r,hr,hv⟩:=Option.map_eq_some_iff.1 hv;subst hv;rw [he _ _ ha,he _ _ hb,vEq_not_agg hr,Option.bind_some,(binOp_eq hr t).1,ro_bind,ro_equal hd hk hr];simp
     · rename_i k hk
       split at h
       · cases h
       · rename_i hg;simp only [Option.some.injEq] at h;subst h;simp only [R.ev] at hv;obtain ⟨a,ha,hv⟩:=Option.bind_eq_some_iff.1 hv;obtain ⟨b,hb,hv⟩:=Option.bind_eq_some_iff.1 hv;obtain ⟨r,hr,hv⟩:=Option.map_eq_some_iff.1 hv;subst hv;rw [he _ _ ha,he _ _ hb,vEq_not_agg hr,Option.bind_some,(binOp_eq hr t).2,ro_bind,ro_equal hd hk hr];simp
     · obtain ⟨l,hl,h1⟩:=Option.map_eq_some_iff.1 h;subst h1;simp only [R.ev] at hv;obtain ⟨a,ha,hv⟩:=Option.bind_eq_some_iff.1 hv;obtain ⟨b,hb,hv⟩:=Option.bind_eq_some_iff.1 hv;rw [he _ _ ha,he _ _ hb,ro_eqa hl hv .eql rfl x y];rfl
     · obtain ⟨l,hl,h1⟩:=Option.map_eq_some_iff.1 h;subst h1;simp only [R.ev] at hv;obtain ⟨a,ha,hv⟩:=Option.bind_eq_some_iff.1 hv;obtain ⟨b,hb,hv⟩:=Option.bind_eq_some_iff.1 hv;rw [he _ _ ha,he _ _ hb,ro_eqa hl hv .neq rfl x y];rfl
     · cases h
   · cases h
 ·
   simp only [Option.some.injEq] at h;subst h;simp only [R.ev] at hv;obtain ⟨u,hu,hv⟩:=Option.bind_eq_some_iff.1 hv;rw [ro_v,he _ _ hu];unfold vNo at hv
   split at hv<;>first | (simp only [Option.some.injEq] at hv;subst hv;rfl) | cases hv
 ·
   simp only [Option.some.injEq] at h;subst h;simp only [R.ev] at hv;obtain ⟨u,hu,hv⟩:=Option.bind_eq_some_iff.1 hv;rw [ro_v,he _ _ hu];unfold vNg at hv
   split at hv<;>first | (simp only [Option.some.injEq] at hv;subst hv;rfl) | cases hv
 ·
   rename_i s d x
   split at h
   · rename_i ks kd hs hd;simp only [Option.some.injEq] at h;subst h;simp only [R.ev] at hv;obtain ⟨u,hu,hv⟩:=Option.bind_eq_some_iff.1 hv;rw [ro_v,he _ _ hu];unfold vCv at hv
     split at hv
     · simp only [Option.some.injEq] at hv;subst hv;simp only [convert,ro_bind,ro_underlying,hs,hd,Option.bind_some];rfl
     · cases hv
   · cases h
 ·
   rename_i args argTypes;have key:∀ t x,argTypes[0]? = some t→args.toList=[x]→∀ (q:Value) (n:Value),e x=q→ro P w (Builtin.len_ argTypes ty #[q])=some n →
       ro P w (do let d ← resolve e { callee:=Callee.builtin Builtin.len,args:=args,argTypes:=argTypes} ty;invoke d.target d.args)=some (.value n):=by
     intro t x ht hx q n hq hn;have hargs:args = #[x]:=by cases args;simp_all
     subst hargs;simp only [resolve,ro_bind,ro_pure,Option.bind_some,invoke,builtin,List.map_toArray,List.map_cons,List.map_nil,hq,hn]
   split at h
   · rename_i t x ht hx
     split at h
     · rename_i e' hu;simp only [Option.some.injEq] at h;subst h;simp only [R.ev] at hv;obtain ⟨u,hxu,hv⟩:=Option.bind_eq_some_iff.1 hv;refine key t x ht hx u v (he _ _ hxu) ?_;unfold vLen at hv
       split at hv
       · simp only [Option.some.injEq] at hv;subst hv;simp [Builtin.len_,ht,ro_bind,ro_underlying,hu,goInt]
       · cases hv
     · rename_i hu;simp only [Option.some.injEq] at h;subst h;simp only [R.ev] at hv;obtain ⟨u,hxu,hv⟩:=Option.bind_eq_some_iff.1 hv;refine key t x ht hx u v (he _ _ hxu) ?_;unfold vLns at hv
       split at hv
       · simp only [Option.some.injEq] at hv;subst hv;simp [Builtin.len_,ht,ro_bind,ro_underlying,hu,goInt]
       · cases hv
     · rename_i k' e' hu;simp only [Option.some.injEq] at h;subst h;simp only [R.ev] at hv;obtain ⟨u,hxu,hv⟩:=Option.bind_eq_some_iff.1 hv;refine key t x ht hx u v (he _ _ hxu) ?_;unfold vLnm at hv
       split at hv
       · simp only [Option.some.injEq] at hv;subst hv;simp [Builtin.len_,ht,ro_bind,ro_underlying,hu,goInt]
       · rename_i r
         split at hv
         · rename_i es ck hr;simp only [Option.some.injEq] at hv;subst hv;simp [Builtin.len_,ht,ro_bind,ro_underlying,hu,goInt,getObj,ro,hr]
         · cases hv
       · cases hv
     · cases h
   · cases h
 ·
   rename_i args argTypes
   split at h
   · rename_i t x ht hx;have hargs:args = #[x]:=by cases args;simp_all
     subst hargs
     split at h
     · rename_i e' hu;simp only [Option.some.injEq] at h;subst h;simp only [R.ev] at hv;obtain ⟨u,hxu,hv⟩:=Option.bind_eq_some_iff.1 hv;have hq:=he _ _ hxu;unfold vCap at hv
       split at hv
       · simp only [Option.some.injEq] at hv;subst hv;simp [resolve,ro_bind,invoke,builtin,hq,Builtin.cap_,ht,ro_underlying,hu,goInt]
       · cases hv
     · cases h
   · cases h
 ·
   rename_i args argTypes
   split at h
   · rename_i x y hx;have hargs:args = #[x,y]:=by cases args;simp_all
     subst hargs;simp only [Option.some.injEq] at h;subst h;simp only [R.ev] at hv;obtain ⟨a,ha,hv⟩:=Option.bind_eq_some_iff.1 hv;obtain ⟨b,hb,hv⟩:=Option.bind_eq_some_iff.1 hv;have ea:=he _ _ ha;have eb:=he _ _ hb;unfold vMM at hv
     split at hv
     · simp only [Option.some.injEq] at hv;subst hv;simp [resolve,ro_bind,invoke,builtin,ea,eb,Builtin.min_,List.foldlM,Builtin.min2]
     · cases hv
   · cases h
 ·
   rename_i args argTypes
   split at h
   · rename_i x y hx;have hargs:args = #[x,y]:=by cases args;simp_all
     subst hargs;simp only [Option.some.injEq] at h;subst h;simp only [R.ev] at hv;obtain ⟨a,ha,hv⟩:=Option.bind_eq_some_iff.1 hv;obtain ⟨b,hb,hv⟩:=Option.bind_eq_some_iff.1 hv;have ea:=he _ _ ha;have eb:=he _ _ hb;unfold vMM at hv
     split at hv
     · simp only [Option.some.injEq] at hv;subst hv;simp [resolve,ro_bind,invoke,builtin,ea,eb,Builtin.max_,List.foldlM,Builtin.max2]
     · cases hv
   · cases h
 ·
   rename_i t x i
   split at h
   · rename_i el hu;obtain ⟨n,hn,h⟩:=Option.map_eq_some_iff.1 h;subst h;simp only [R.ev] at hv;obtain ⟨a,ha,hv⟩:=Option.bind_eq_some_iff.1 hv;obtain ⟨b,hb,hv⟩:=Option.bind_eq_some_iff.1 hv;rw [ro_v,he _ _ ha,he _ _ hb];unfold vIA at hv
     split at hv
     · rename_i ad len c k j
       split at hv
       · rename_i hj;simp only [Option.some.injEq] at hv;subst hv;unfold szOf at hn;simp only [Instr.indexAt,asIntOf,ro_bind,ro_pure,Option.bind_some,ro_underlying,hu,hj,if_true,ro_sizeOf,hn,and_self,Option.map_some]
       · cases hv
     · cases hv
   · cases h
 ·
   rename_i t x i
   split at h
   · rename_i hu;simp only [Option.some.injEq] at h;subst h;simp only [R.ev] at hv;obtain ⟨a,ha,hv⟩:=Option.bind_eq_some_iff.1 hv;obtain ⟨b,hb,hv⟩:=Option.bind_eq_some_iff.1 hv;rw [ro_v,he _ _ ha,he _ _ hb];unfold vIXS at hv
     split at hv
     · rename_i s k j
       split at hv
       · rename_i hj;obtain ⟨c,hc,hv⟩:=Option.map_eq_some_iff.1 hv;subst hv;simp only [Instr.index,asIntOf,ro_bind,ro_pure,Option.bind_some,ro_underlying,hu,hj,if_true,hc,Option.map_some]
       · cases hv
     · cases hv
   · cases h
 ·
   rename_i t x f
   split at h
   · rename_i fs hfs
     split at h
     · rename_i fd hfd
       split at h
       · rename_i d n hd hn;simp only [Option.some.injEq] at h;subst h;rw [ro_v];have key:∀ cs,e x = .agg cs→(if aggB d then some (.agg (cs.extract fd.offset (fd.offset+n))) else cs[fd.offset]?)=some v →
             (ro P w (Instr.field t (e x) f)).map Next.value=some (.value v):=by
           intro cs hx hc;simp only [Instr.field,ro_bind,ro_underlying,hfs,Option.bind_some,hfd,hx,asAgg,ro_pure,ro_part hd hn hc,Option.map_some]
         cases hb:aggB d with
         | true=>
           simp only [hb,if_true,R.ev] at hv;obtain ⟨u,hu,hv⟩:=Option.bind_eq_some_iff.1 hv;unfold vFLN at hv
           split at hv
           · rename_i cs;exact key cs (he _ _ hu) (by simpa [hb] using hv)
           · cases hv
         | false=>
           simp only [hb,Bool.false_eq_true,if_false,R.ev] at hv;obtain ⟨u,hu,hv⟩:=Option.bind_eq_some_iff.1 hv;unfold vFL at hv
           split at hv
           · rename_i cs;exact key cs (he _ _ hu) (by simpa [hb] using hv)
           · cases hv
       · cases h
     · cases h
   · cases h
 ·
   rename_i t x lo hi mx
   split at h
   · rename_i el hu
     split at h
     · rename_i n hn
       split at h
       · cases h
       · rename_i hmx;simp only [Option.some.injEq] at h;subst h;simp only [R.ev] at hv;obtain ⟨a,ha,hv⟩:=Option.bind_eq_some_iff.1 hv;obtain ⟨l,hl,hv⟩:=Option.bind_eq_some_iff.1 hv;obtain ⟨hh,hhh,hv⟩:=Option.bind_eq_some_iff.1 hv;obtain ⟨m,hm,hv⟩:=Option.bind_eq_some_iff.1 hv;have hl':=oev_of he lo l hl;have hh':=oev_of he hi hh hhh;have hm':=oev_of he mx m hm;rw [ro_v,he _ _ ha,hl',hh',hm'];unfold vSL at hv
         split at hv
         · rename_i ad len c
           split at hv
           · cases hv
           · rename_i m1 e1
             split at hv
             · cases hv
             · rename_i h1 e2
               split at hv
               · cases hv
               · rename_i l1 e3;simp only [Option.some.injEq] at hv;subst hv;have hss:m.isSome=true→hh.isSome=true:=by
                   subst hm';subst hh';intro hms;cases hi<;>cases mx<;>simp_all
                 unfold szOf at hn;simp only [Instr.sliceAt,Instr.slice,ro_bind,ro_underlying,hu,Option.bind_some,ro_sliceBounds e1 e2 e3 hss,ro_sizeOf,hn,ro_pure,Option.map_some]
         · cases hv
     · cases h
   · rename_i hu
     split at h
     · cases h
     · rename_i hmx;simp only [Option.some.injEq] at h;subst h;simp only [R.ev] at hv;obtain ⟨a,ha,hv⟩:=Option.bind_eq_some_iff.1 hv;obtain ⟨l,hl,hv⟩:=Option.bind_eq_some_iff.1 hv;obtain ⟨hh,hhh,hv⟩:=Option.bind_eq_some_iff.1 hv;have hl':=oev_of he lo l hl;have hh':=oev_of he hi hh hhh;have hmn:mx=none:=by cases mx<;>simp_all
       subst hmn;rw [ro_v,he _ _ ha,hl',hh'];unfold vSLS at hv
       split at hv
       · split at hv
         · cases hv
         · rename_i h1 e2
           split at hv
           · cases hv
           · rename_i l1 e3;simp only [Option.some.injEq] at hv;subst hv;simp only [Instr.sliceAt,Instr.slice,ro_bind,ro_underlying,hu,Option.bind_some,Option.map_none,Option.isSome_none,Bool.false_eq_true,if_false];rw [ro_sliceBounds rfl e2 e3 (by simp)];simp
       · cases hv
   · cases h
 ·
   rename_i t parts
   split at h
   · rename_i fs z hfs hz
     split at h
     · rename_i hall;obtain ⟨ps,hps,h⟩:=Option.map_eq_some_iff.1 h;subst h;simp only [R.ev] at hv;obtain ⟨vs,hvs,hv⟩:=Option.bind_eq_some_iff.1 hv;obtain ⟨out,hout,hv⟩:=Option.map_eq_some_iff.1 hv;subst hv;obtain ⟨l,hl,hl2⟩:=mapM_sizes (P:=P) (w:=w) fs.toList hall;rw [ro_v];have hmm:ro P w (fs.mapM fun f=>do pure (f.offset,← sizeOf f.type):Sem (Array (Nat×Nat)))=some l.toArray:=by
         rw [Array.mapM_eq_mapM_toList];simp only [ro_map,hl,Option.map_some]
       have hf:=fill_of (P:=P) (fs:=fs) (pl:=fun i=>l.toArray[i]?) (fun i f n h1 h2=>by simpa using hl2 i f n (by simpa using h1) h2) he parts.toList ps vs z.cells out hps hvs hout;simp only [Instr.build,ro_bind,ro_zeroValue,hz,Option.bind_some,ro_underlying,hfs,hmm];have e2:(parts.map fun x=>(x.1,e x.2)).toList=parts.toList.map fun p=>(p.1,e p.2):=by simp
       simp only [e2,hf,ro_pure,Option.map_some]
     · cases h
   · cases h
 ·
   simp only [Option.some.injEq] at h;subst h;simp only [R.ev] at hv;obtain ⟨c,hc,hv⟩:=Option.bind_eq_some_iff.1 hv;obtain ⟨a,ha,hv⟩:=Option.bind_eq_some_iff.1 hv;obtain ⟨b,hb,hv⟩:=Option.bind_eq_some_iff.1 hv;unfold vPk at hv
   split at hv
   · simp only [Option.some.injEq] at hv;subst hv;simp only [he _ _ hc,he _ _ ha,he _ _ hb,asBool,ro_bind,ro_pure,Option.bind_some]
   · cases hv
 ·
   simp only [Option.some.injEq] at h;subst h;simp only [R.ev] at hv;obtain ⟨u,hu,hv⟩:=Option.bind_eq_some_iff.1 hv;rw [ro_v,he _ _ hu];unfold vEx at hv
   split at hv
   · simp only [Instr.extract,hv,ro_pure,Option.map_some]
   · cases hv
 ·
   rename_i t x
   split at h
   · cases h
   · rename_i d hd hdu;simp only [Option.some.injEq] at h;subst h;simp only [R.ev] at hv;obtain ⟨u,hu,hv⟩:=Option.map_eq_some_iff.1 hv;subst hv;rw [ro_v,he _ _ hu];simp only [Instr.makeInterface,ro_bind,ro_underlying,hdu,Option.bind_some];cases d<;>first | rfl | (exact absurd rfl (hd _))
   · cases h
 ·
   rename_i fn f c;simp only [Option.some.injEq] at h;subst h;simp only [R.ev] at hv;obtain ⟨fv,hf,hv⟩:=Option.bind_eq_some_iff.1 hv;obtain ⟨cv,hc,hv⟩:=Option.map_eq_some_iff.1 hv;subst hv;rw [ro_v];have h1:=evs_of he _ _ hf;have h2:=evs_of he _ _ hc;simp only [Instr.makeFunc,ro_pure,Option.map_some,← h1,← h2];cases f;cases c;simp
 · cases h
end
end
section
open Go
inductive E where
 | st (n:Nat) (x v:O)
 | bx (t:Nat) (x:O)
 | al (t:Nat) (zero:Value)
 | bs (el len:Nat) (cells:Array Value) (parts:List (Nat×Nat×O))
 | ms (el sz bytes:Nat) (zero:Array Value) (len cap:O)
 | ap (el sz bytes:Nat) (zero:Array Value) (s x:O)
 | cp (sz:Nat) (d s:O)
 | call (f:Nat) (args:List O)
 | raw (o:Oper)
 deriving Inhabited
def sp (cs:Array Value) (o:Nat) (vs:List Value):Array Value:=(cs.toList.take o++vs++cs.toList.drop (o+vs.length)).toArray
def NoQ:Exit→Act→World→Prop:=fun _ _ _=>False
def Agree (ρ:Env) (a:Act):Prop:=∀ x u,(toO x).ev ρ=some u→a.eval x=u
def opWp (P:Program) (o:Oper) (ρ:Env) (w:World) (K:Value→World→Prop):Prop:=
 ∀ a,Agree ρ a→o.wp P a w (fun a' w'=>∃ v,a'=a.put o.dst v∧K v w') NoQ
def Row (w:World) (a:Addr) (cs:Array Value) (T:TypeId):Prop:=a.spot=none∧w.heap[a.block]? = some (.cells cs T (0,0))
def RdCells (w:World) (a:Option Addr) (n:Nat) (vs:List Value):Prop:=vs.length=n∧∀ ad,a=some ad→∀ j v,vs[j]? = some v→w.cell? (ad.add j)=some v
def E.wp (P:Program) (w:World) (ρ:Env) (K:Value→World→Prop):E→Prop
 | .st n x y=>∃ a v cs T,x.ev ρ=some (.pointer (some a))∧y.ev ρ=some v∧v.cells.size=n∧Row w a cs T∧a.off+v.cells.toList.length≤cs.size∧(∀ u∈v.cells.toList,u.oneCell'=true) ∧
     K undef (w.setRow a.block (sp cs a.off v.cells.toList))
 | .bx t x=>∃ v,x.ev ρ=some v∧K (.pointer (some ⟨w.heap.size,0,none⟩)) (w.alloc (.cells v.cells t))
 | .al t z=>K (.pointer (some ⟨w.heap.size,0,none⟩)) (w.alloc (.cells z.cells t))
 | .bs el len cells parts=>∃ ps cs,pev ρ parts=some ps∧fillAt cells ps=some cs∧K (.slice (some ⟨w.heap.size,0,none⟩) len len) (w.alloc (.cells cs el))
 | .ms el sz bytes zero l c=>∃ kl kc ln cn,l.ev ρ=some (.int kl ln)∧c.ev ρ=some (.int kc cn)∧0≤ln∧ln≤cn∧(bytes:Int)*cn≤281474976710656∧cn≤9223372036854775807 ∧
     K (.slice (some ⟨w.heap.size,0,none⟩) ln.toNat cn.toNat) (w.alloc (.cells (madeCells zero (cn.toNat*sz)) el))
 | .ap el sz bytes zero s x=>∃ sa n cap xa m c olds news,s.ev ρ=some (.slice sa n cap)∧x.ev ρ=some (.slice xa m c)∧(sa=none→n=0∧cap=0)∧(xa=none→m=0) ∧
     RdCells w sa (n*sz) olds∧RdCells w xa (m*sz) news∧(∀ u∈news,u.oneCell'=true)∧(n+m:Nat)*bytes≤140737488355328∧n+m≤9223372036854775807 ∧
     (n+m≤cap→sa=none→K (.slice none 0 0) w) ∧
     (n+m≤cap→∀ a,sa=some a→∃ cs T,Row w a cs T∧a.off+n*sz+news.length≤cs.size∧K (.slice sa (n+m) cap) (w.setRow a.block (sp cs (a.off+n*sz) news))) ∧
     (cap < n+m→∀ nc w1,n+m≤nc→w1=w.drew.alloc (.cells (olds.toArray++news.toArray++Builtin.zeroCells zero (nc - (n+m))) el)→K (.slice (some ⟨w.heap.size,0,none⟩) (n+m) nc) w1)
 | .cp sz d s=>∃ da dn dc sa sn sc news,d.ev ρ=some (.slice da dn dc)∧s.ev ρ=some (.slice sa sn sc)∧(sa=none→sn=0)∧RdCells w sa (Nat.min sn dn*sz) news∧(∀ u∈news,u.oneCell'=true) ∧
     (da=none→K (.int .i64 (Nat.min sn dn:Nat)) w) ∧
     (∀ a,da=some a→∃ cs T,Row w a cs T∧a.off+news.length≤cs.size∧K (.int .i64 (Nat.min sn dn:Nat)) (w.setRow a.block (sp cs a.off news)))
 | .call f args=>∃ vs,evs ρ args=some vs∧Calls P f vs.toArray w fun e w'=>∃ v,e = .returned v∧K v w'
 | .raw o=>opWp P o ρ w K
theorem opWp_of_run {P:Program} {o:Oper} {ρ:Env} {w:World} {K:Value→World→Prop} (h:∀ a,Agree ρ a→∃ v w',(execOp a.eval o).run P w = .ok (.value v) w'∧K v w'):opWp P o ρ w K:=by
 intro a ha;obtain ⟨v,w',hr,hk⟩:=h a ha;unfold Oper.wp;rw [hr];exact ⟨v,rfl,hk⟩
theorem opWp_of_skip {P:Program} {o:Oper} {ρ:Env} {w:World} {K:Value→World→Prop} (h:∀ a,Agree ρ a→∃ w',(execOp a.eval o).run P w = .ok .skip w'∧K undef w'):opWp P o ρ w K:=by
 intro a ha;obtain ⟨w',hr,hk⟩:=h a ha;unfold Oper.wp;rw [hr];exact ⟨undef,rfl,hk⟩
theorem opWp_of_ro {P:Program} {o:Oper} {ρ:Env} {w:World} {K:Value→World→Prop} {r:R} {v:Value} (hr:res P o.op=some r) (hv:r.ev w ρ=some v) (hk:K v w):opWp P o ρ w K:=
 opWp_of_run fun a ha=>⟨v,w,ro_run (res_sound hr ha hv),hk⟩
theorem opWp_mono {P:Program} {o:Oper} {ρ:Env} {w:World} {K K':Value→World→Prop} (hk:∀ v w',K v w'→K' v w') (h:opWp P o ρ w K):opWp P o ρ w K':=
 fun a ha=>Oper.wp_mono (fun a' w' ⟨v,e,k⟩=>⟨v,e,hk _ _ k⟩) (h a ha)
def resE (P:Program) (o:Oper):E:=
 match o.op with
 | .store t x v=>match P.underlying t,szOf P t with
   | some _,some n=>.st n (toO x) (toO v)
   | _,_=>.raw o
 | .box t x=>.bx t (toO x)
 | .alloc t=>match (P.info? t).bind (·.zero) with
   | some z=>.al t z
   | none=>.raw o
 | .buildSlice t len parts=>match P.underlying t with
   | some (.slice el)=>match szOf P el,(P.info? el).bind (·.zero) with
     | some n,some z=>if len*n≤2 ^ 24&&0 < len*n then
         .bs el len ((Array.range (len*n)).map (z.cells[· % z.cells.size]!)) (parts.toList.map fun p=>(p.1*n,n,toO p.2)) else .raw o
     | _,_=>.raw o
   | _=>.raw o
 | .makeSlice t l c=>match P.underlying t with
   | some (.slice el)=>match P.info? el with
     | some i=>match i.zero with
       | some z=>.ms el i.size i.bytes z.cells (toO l) (toO c)
       | none=>.raw o
     | none=>.raw o
   | _=>.raw o
 | .call { callee:=.builtin .append,args,argTypes}=>match args.toList,argTypes.toList with
   | [s,x],[t,u]=>match P.underlying t with
     | some (.slice el)=>match P.info? el with
       | some i=>match i.zero with
         | some z=>if t=u&&z.cells.size=i.size&&0 < i.size then .ap el i.size i.bytes z.cells (toO s) (toO x) else .raw o
         | none=>.raw o
       | none=>.raw o
     | _=>.raw o
   | _,_=>.raw o
 | .call { callee:=.builtin .copy,args,argTypes}=>match args.toList,argTypes.toList with
   | [d,s],[t,u]=>match P.underlying t with
     | some (.slice el)=>match szOf P el with
       | some n=>if t=u then .cp n (toO d) (toO s) else .raw o
       | none=>.raw o
     | _=>.raw o
   | _,_=>.raw o
 | .call { callee:=.value (.func f),args,..}=>match P.funcs[f]? with
   | some fn=>if fn.body.isSome && !(fn.name == "runtime.NumGoroutine") then .call f (args.toList.map toO) else .raw o
   | none=>.raw o
 | _=>.raw o
section
variable {P:Program} {w:World}
theorem pev_fill {ρ:Env} {e:Operand→Value} (he:∀ x u,(toO x).ev ρ=some u→e x=u) (n:Nat) (pl:Nat→Option (Nat×Nat)) (hpl:∀ i,pl i=some (i*n,n)) :
   ∀ (parts:List (Nat×Operand)) (vs:List (Nat×Nat×Value)) (cells out:Array Value),pev ρ (parts.map fun p=>(p.1*n,n,toO p.2))=some vs→fillAt cells vs=some out →
     Instr.fill pl cells (parts.map fun p=>(p.1,e p.2))=some out:=by
 intro parts
 induction parts with
 | nil=>
   intro vs cells out h1 h2;simp only [List.map_nil,pev,Option.some.injEq] at h1;subst h1
   simpa [fillAt,Instr.fill] using h2
 | cons p parts ih=>
   intro vs cells out h1 h2;simp only [List.map_cons,pev] at h1
   split at h1
   · rename_i v l hv hl;simp only [Option.some.injEq] at h1;subst h1;simp only [fillAt] at h2
     split at h2
     · cases h2
     · rename_i hc;simp only [List.map_cons,Instr.fill,hpl,he _ v hv];rw [if_neg hc];exact ih l _ out hl h2
   · cases h1
theorem run_rd {size n len cap:Nat} {xa:Option Addr} {cs:List Value} (h:RdCells w xa (n*size) cs) (hx:xa=none→n=0):(Builtin.firstCells size n (.slice xa len cap)).run P w = .ok cs.toArray w:=by
 cases xa with
 | none=>
   have:=hx rfl;subst this;have hl:cs=[]:=List.eq_nil_of_length_eq_zero (by simpa using h.1);subst hl;simp [run_firstCells_none]
 | some ad=>exact run_firstCells_some w size n ad len cap cs h.1 (h.2 ad rfl)
theorem run_append_gen (t ty e:TypeId) (i:TypeInfo) (z:Value) (ht:P.underlying t=some (.slice e)) (hi:P.info? e=some i) (hz:i.zero=some z) (hzs:z.cells.size=i.size)
   {sa:Option Addr} {n cap:Nat} {xa:Option Addr} {m c:Nat} {olds news:List Value}
   (hsa:sa=none→n=0∧cap=0) (hxa:xa=none→m=0) (ho:RdCells w sa (n*i.size) olds) (hn:RdCells w xa (m*i.size) news) (h1:∀ u∈news,u.oneCell'=true)
   (hb:(n+m)*i.bytes≤140737488355328) (h63:n+m≤9223372036854775807) {K:Value→World→Prop}
   (k0:n+m≤cap→sa=none→K (.slice none 0 0) w)
   (k1:n+m≤cap→∀ a,sa=some a→∃ cs T,Row w a cs T∧a.off+n*i.size+news.length≤cs.size∧K (.slice sa (n+m) cap) (w.setRow a.block (sp cs (a.off+n*i.size) news)))
   (k2:cap < n+m→∀ nc w1,n+m≤nc→w1=w.drew.alloc (.cells (olds.toArray++news.toArray++Builtin.zeroCells z.cells (nc - (n+m))) e)→K (.slice (some ⟨w.heap.size,0,none⟩) (n+m) nc) w1) :
   ∃ v' w',(Builtin.append_ #[t,t] ty #[.slice sa n cap,.slice xa m c]).run P w = .ok v' w'∧K v' w':=by
 by_cases hroom:n+m≤cap
 · cases hs:sa with
   | none=>
     obtain ⟨rfl,rfl⟩:=hsa hs;have hm:m=0:=by omega
     subst hm;have hnl:news=[]:=List.eq_nil_of_length_eq_zero (by simpa using hn.1);subst hnl;refine ⟨_,_,?_,k0 hroom hs⟩;have hf:=run_rd (P:=P) (len:=0) (cap:=c) hn (fun _=>rfl);have hf':(Builtin.firstCells i.size 0 (.slice xa 0 c)).run P w = .ok #[] w:=by simpa using hf
     simp [Builtin.append_,run_underlying ht,sizeOf,typeInfo,hi,Builtin.lenOf,hf']
   | some a=>
     obtain ⟨cs,T,⟨hsp,hrow⟩,hfit,hk⟩:=k1 hroom a hs;subst hs;obtain ⟨b,off,spot⟩:=a;simp only at hsp;subst hsp;refine ⟨_,_,?_,hk⟩;have hf:=run_rd (P:=P) (len:=m) (cap:=c) hn hxa;have hst:=run_storeCells_at P b (off+n*i.size) T news 0 cs w hrow (by simpa using hfit) h1;simp only [Nat.add_zero] at hst;simp [Builtin.append_,run_underlying ht,sizeOf,typeInfo,hi,Builtin.lenOf,hroom,hf,Addr.add_lit,hst,sp]
 · have hlt:cap < n+m:=by omega
   refine ⟨_,_,?_,k2 hlt _ _ (grownCap_ge w (n+m) cap e) rfl⟩;have hn':RdCells w.drew xa (m*i.size) news:=⟨hn.1,fun ad h j v hv=>by simpa using hn.2 ad h j v hv⟩;have ho':RdCells w.drew sa (n*i.size) olds:=⟨ho.1,fun ad h j v hv=>by simpa using ho.2 ad h j v hv⟩;have hf:=run_rd (P:=P) (len:=m) (cap:=c) hn' hxa;have hfo:=run_rd (P:=P) (len:=n) (cap:=cap) ho' (fun h=>(hsa h).1);have h48':¬ (281474976710656 < Builtin.nextslicecap (n+m) cap*i.bytes):=by have:=growslice_fits hlt hb;omega
   have h63':¬ (9223372036854775807 < ((n:Int)+(m:Int))):=by omega
   simp [Builtin.append_,run_underlying ht,sizeOf,typeInfo,zeroValue,hi,hz,Builtin.lenOf,hroom,h63',h48',Question.forced,hf,hfo,newRow,grownCap]
   congr 2
   apply Array.ext';simp [List.append_assoc]
theorem resE_sound {o:Oper} {ρ:Env} {K:Value→World→Prop} (h:(resE P o).wp P w ρ K):opWp P o ρ w K:=by
 obtain ⟨dst,op,ty,pos,after,guard⟩:=o;unfold resE at h;simp only at h
 split at h
 ·
   rename_i t x v
   split at h
   · rename_i d n hd hn;obtain ⟨a,u,cs,T,hx,hv,hsz,⟨hsp,hrow⟩,hfit,h1,hk⟩:=h;refine opWp_of_skip fun act ha=>⟨_,?_,hk⟩
     have e1:=ha _ _ hx;have e2:=ha _ _ hv;obtain ⟨b,off,spot⟩:=a;simp only at hsp;subst hsp;obtain ⟨i,hi,hin⟩:=Option.map_eq_some_iff.1 hn;have hst:=run_storeCells_at P b off T u.cells.toList 0 cs w hrow (by simpa using hfit) h1;simp only [Nat.add_zero] at hst;have hsz':¬ (u.cells.size≠i.size):=by rw [hsz,hin];simp
     simp [execOp,e1,e2,Instr.storeAt,Instr.sureAddr,storeVar,sizeOf,typeInfo,hi,hsz',hst,sp]
   · exact h
 ·
   obtain ⟨v,hv,hk⟩:=h;refine opWp_of_run fun act ha=>⟨_,_,?_,hk⟩
   have e2:=ha _ _ hv;simp [execOp,e2,Instr.box,newVar,newRow]
 ·
   rename_i t
   split at h
   · rename_i z hz;refine opWp_of_run fun act ha=>⟨_,_,?_,h⟩
     obtain ⟨i,hi,hz⟩:=Option.bind_eq_some_iff.1 hz;simp [execOp,Instr.alloc,newVar,newRow,zeroValue,typeInfo,hi,hz]
   · exact h
 ·
   rename_i t len parts
   split at h
   · rename_i el hu
     split at h
     · rename_i n z hn hz
       split at h
       · rename_i hc;simp only [Bool.and_eq_true,decide_eq_true_eq] at hc;obtain ⟨ps,cs,hps,hcs,hk⟩:=h;refine opWp_of_run fun act ha=>⟨_,_,?_,hk⟩
         obtain ⟨i,hi,hin⟩:=Option.map_eq_some_iff.1 hn;rw [hi] at hz;have hz':i.zero=some z:=by simpa using hz
         have hf:=pev_fill ha n (fun i=>some (i*n,n)) (fun _=>rfl) parts.toList ps _ cs hps hcs;have h1:¬ (len*n > 2 ^ 24):=by have:=hc.1;omega
         have h2:¬ (len*n=0):=by have:=hc.2;omega
         have hp:(parts.map fun x=>(x.1,act.eval x.2)).toList=parts.toList.map fun p=>(p.1,act.eval p.2):=by simp
         subst hin;have g1:ro P w (underlying t)=some (.slice el):=by rw [ro_underlying,hu]
         have g2:ro P w (sizeOf el)=some i.size:=by rw [ro_sizeOf,hi];rfl
         have g3:ro P w (zeroValue el)=some z:=by rw [ro_zeroValue,hi];exact hz'
         simp only [execOp,Instr.buildSlice,Sem.run_bind,ro_run g1,ro_run g2,ro_run g3,Result.andThen_ok,Sem.run_pure,h1,h2,if_false,hp,hf];simp [newRow]
       · exact h
     · exact h
   · exact h
 ·
   rename_i t l c
   split at h
   · rename_i el hu
     split at h
     · rename_i i hi
       split at h
       · rename_i z hz;obtain ⟨kl,kc,ln,cn,hl,hc,h0,hle,hb,h63,hk⟩:=h;refine opWp_of_run fun act ha=>⟨_,_,?_,hk⟩
         have hm:=run_make (P:=P) w t el i z hu hi hz kl kc ln cn h0 hle hb h63;simp only [execOp,ha _ _ hl,ha _ _ hc,Sem.run_bind,hm,Result.andThen_ok,Sem.run_pure]
       · exact h
     · exact h
   · exact h
 ·
   rename_i args argTypes
   split at h
   · rename_i s x t u hargs htys;have e1:args = #[s,x]:=by cases args;simp_all
     have e2:argTypes = #[t,u]:=by cases argTypes;simp_all
     subst e1 e2
     split at h
     · rename_i el hu
       split at h
       · rename_i i hi
         split at h
         · rename_i z hz
           split at h
           · rename_i hc;simp only [Bool.and_eq_true,decide_eq_true_eq] at hc;obtain ⟨⟨rfl,hzs⟩,hpos⟩:=hc;obtain ⟨sa,n,cap,xa,m,c,olds,news,hs,hx,hsa,hxa,ho,hn,h1,hb,h63,k0,k1,k2⟩:=h;refine opWp_of_run fun act ha=>?_
             obtain ⟨v',w',hr,hk⟩:=run_append_gen (P:=P) (w:=w) t ty el i z hu hi hz hzs (c:=c) hsa hxa ho hn h1 hb h63 (K:=K) k0 k1 k2;refine ⟨v',w',?_,hk⟩;simp only [execOp,resolve,List.map_toArray,List.map_cons,List.map_nil,ha _ _ hs,ha _ _ hx,Sem.run_bind,Sem.run_pure,Result.andThen_ok,invoke,builtin,hr]
           · exact h
         · exact h
       · exact h
     · exact h
   · exact h
 ·
   rename_i args argTypes
   split at h
   · rename_i d s t u hargs htys;have e1:args = #[d,s]:=by cases args;simp_all
     have e2:argTypes = #[t,u]:=by cases argTypes;simp_all
     subst e1 e2
     split at h
     · rename_i el hu
       split at h
       · rename_i n hn
         split at h
         · rename_i htu;subst htu;obtain ⟨da,dn,dc,sa,sn,sc,news,hd,hs,hsa,hr,h1,k0,k1⟩:=h;refine opWp_of_run fun act ha=>?_
           obtain ⟨i,hi,hin⟩:=Option.map_eq_some_iff.1 hn;subst hin;have hf:=run_rd (P:=P) (len:=sn) (cap:=sc) hr (fun h0=>by rw [hsa h0];simp [Nat.min]);cases da with
           | none=>
             refine ⟨_,_,?_,k0 rfl⟩;simp [execOp,resolve,ha _ _ hd,ha _ _ hs,invoke,builtin,Builtin.copy_,run_underlying hu,sizeOf,typeInfo,hi,Builtin.lenOf,hf,goInt]
           | some a=>
             obtain ⟨cs,T,⟨hsp,hrow⟩,hfit,hk⟩:=k1 a rfl;obtain ⟨b,off,spot⟩:=a;simp only at hsp;subst hsp;refine ⟨_,_,?_,hk⟩;have hst:=run_storeCells_at P b off T news 0 cs w hrow (by simpa using hfit) h1;simp only [Nat.add_zero] at hst;simp [execOp,resolve,ha _ _ hd,ha _ _ hs,invoke,builtin,Builtin.copy_,run_underlying hu,sizeOf,typeInfo,hi,Builtin.lenOf,hf,goInt,hst,sp]
         · exact h
       · exact h
     · exact h
   · exact h
 ·
   rename_i f args argTypes
   split at h
   · rename_i fn hfn
     split at h
     · rename_i hc;simp only [Bool.and_eq_true,Bool.not_eq_true'] at hc;obtain ⟨vs,hvs,hcall⟩:=h;intro act ha;have hargs:=evs_of ha args.toList vs hvs;have hbody:fn.body.isNone=false:=by cases hb:fn.body<;>simp_all
       have hmap:args.map act.eval=vs.toArray:=by rw [← hargs];cases args;simp
       have hr:(execOp act.eval ⟨dst,.call { callee:=.value (.func f),args:=args,argTypes:=argTypes},ty,pos,after,guard⟩).run P w = .ok (.enter f vs.toArray) w:=by
         have g1:ro P w program=some P:=rfl;simp only [execOp,resolve,Act.eval,Deferred.ofValue,Sem.run_bind,Sem.run_pure,Result.andThen_ok,invoke,callFunc,ro_run g1,hfn,hmap,Array.empty_append,Array.append_empty];rw [if_neg (by rw [hc.2];simp),if_neg (by rw [hbody];simp)];rfl
       unfold Oper.wp;rw [hr];simp only [Oper.upon];refine hcall.mono ?_;rintro e w' ⟨v,rfl,hk⟩;exact ⟨v,rfl,hk⟩
     · exact h
   · exact h
 · exact h
end
end
section
open Go
variable {dl:List Deferred}
structure Good (dl:List Deferred) (N:Nat) (ρ:Env) (a:Act):Prop where
 size:a.tmps.size=N
 defers:a.defers=dl
 get:∀ t v,ρ.get t=some v→a.tmps[t]? = some v
theorem Good.agree {N:Nat} {ρ:Env} {a:Act} (h:Good dl N ρ a):Agree ρ a:=by
 intro x u hu;cases x with
 | tmp t=>
   have:=h.get t u hu;simp [Act.eval,this]
 | const v=>simpa [toO,O.ev,Act.eval] using hu
 | global g=>simpa [toO,O.ev,Act.eval] using hu
 | func f=>simpa [toO,O.ev,Act.eval] using hu
theorem Good.put {N:Nat} {ρ:Env} {a:Act} (h:Good dl N ρ a) (d:Option Nat) (v:Value) (hd:∀ t,d=some t→t < N):Good dl N (ρ.put d v) (a.put d v):=by
 cases d with
 | none=>exact h
 | some d=>
   refine ⟨by simp [Act.put,h.size],h.defers,fun t u hu=>?_⟩;simp only [Env.put,Env.get] at hu;by_cases hdt:d=t
   · subst hdt;simp only [if_true,Option.some.injEq] at hu;subst hu;have:=hd d rfl;simp [Act.put,h.size,this]
   · rw [if_neg hdt] at hu;simp only [Act.put,Array.getElem?_setIfInBounds_ne hdt];exact h.get t u hu
theorem get_keep (ρ:Env):∀ (ts:List Nat) (t:Nat) (v:Value),(ρ.keep ts).get t=some v→ρ.get t=some v:=by
 intro ts
 induction ts with
 | nil=>intro t v h;simp [Env.keep,Env.get] at h
 | cons s ts ih=>
   intro t v h;simp only [Env.keep] at h
   split at h
   · rename_i u hu;simp only [Env.get] at h
     split at h
     · rename_i hst;subst hst;rw [← h];exact hu
     · exact ih t v h
   · exact ih t v h
theorem Good.keep {N:Nat} {ρ:Env} {a:Act} (h:Good dl N ρ a) (ts:List Nat):Good dl N (ρ.keep ts) a:=
 ⟨h.size,h.defers,fun t v hv=>h.get t v (get_keep ρ ts t v hv)⟩
theorem upon_noQ {P:Program} {o:Oper} {a:Act} {K:Act→World→Prop} {Q:Exit→Act→World→Prop} {r:Result Next} (h:o.upon P a K NoQ r):o.upon P a K Q r:=by
 cases r with
 | ok n w'=>
   cases n<;>simp only [Oper.upon] at h ⊢<;>first
     | exact h
     | exact Calls.mono h (fun e w'' he=>by
         cases e with
         | returned v=>exact he
         | panicked c=>exact False.elim he
         | outgrown=>obtain ⟨_,_,hf⟩:=he;exact False.elim hf)
 | halt x w'=>cases x<;>simp only [Oper.upon] at h ⊢<;>exact False.elim h
theorem wp_noQ {P:Program} {o:Oper} {a:Act} {w:World} {K:Act→World→Prop} {Q:Exit→Act→World→Prop} (h:o.wp P a w K NoQ):o.wp P a w K Q:=upon_noQ h
theorem E.mono {P:Program} {w:World} {ρ:Env} {K K':Value→World→Prop} (hk:∀ v w',K v w'→K' v w') (e:E) (h:e.wp P w ρ K):e.wp P w ρ K':=by
 cases e with
 | st n x y=>obtain ⟨a,v,cs,T,h1,h2,h3,h4,h5,h6,h7⟩:=h;exact ⟨a,v,cs,T,h1,h2,h3,h4,h5,h6,hk _ _ h7⟩
 | bx t x=>obtain ⟨v,h1,h2⟩:=h;exact ⟨v,h1,hk _ _ h2⟩
 | al t z=>exact hk _ _ h
 | bs el len cells parts=>obtain ⟨ps,cs,h1,h2,h3⟩:=h;exact ⟨ps,cs,h1,h2,hk _ _ h3⟩
 | ms el sz bytes zero l c=>obtain ⟨kl,kc,ln,cn,h1,h2,h3,h4,h5,h6,h7⟩:=h;exact ⟨kl,kc,ln,cn,h1,h2,h3,h4,h5,h6,hk _ _ h7⟩
 | ap el sz bytes zero s x=>
   obtain ⟨sa,n,cap,xa,m,c,olds,news,h1,h2,h3,h4,h5,h6,h7,h8,h9,k0,k1,k2⟩:=h
   exact ⟨sa,n,cap,xa,m,c,olds,news,h1,h2,h3,h4,h5,h6,h7,h8,h9,fun a b=>hk _ _ (k0 a b),
     fun a b hb=>let ⟨cs,T,r1,r2,r3⟩:=k1 a b hb;⟨cs,T,r1,r2,hk _ _ r3⟩,fun a nc w1 b c=>hk _ _ (k2 a nc w1 b c)⟩
 | cp sz d s=>
   obtain ⟨da,dn,dc,sa,sn,sc,news,h1,h2,h3,h4,h5,k0,k1⟩:=h;exact ⟨da,dn,dc,sa,sn,sc,news,h1,h2,h3,h4,h5,fun a=>hk _ _ (k0 a),fun a b=>let ⟨cs,T,r1,r2,r3⟩:=k1 a b;⟨cs,T,r1,r2,hk _ _ r3⟩⟩
 | call f args=>obtain ⟨vs,h1,h2⟩:=h;exact ⟨vs,h1,h2.mono fun e w' ⟨v,e1,e2⟩=>⟨v,e1,hk _ _ e2⟩⟩
 | raw o=>exact opWp_mono hk h
inductive S where
 | r (d:Option Nat) (r:R)
 | e (d:Option Nat) (e:E)
 | gr (s:Nat) (b:Bool) (d:Option Nat) (r:R)
 | ge (s:Nat) (b:Bool) (d:Option Nat) (e:E)
 deriving Inhabited
def isB:Value→Bool→Bool
 | .bool c,b=>c == b
 | _,_=>false
def wpS (P:Program):List S→Env→World→(Env→World→Prop)→Prop
 | [],ρ,w,K=>K ρ w
 | .r d r::l,ρ,w,K=>∃ v,r.ev w ρ=some v∧wpS P l (ρ.put d v) w K
 | .e d e::l,ρ,w,K=>e.wp P w ρ fun v w'=>wpS P l (ρ.put d v) w' K
 | .gr s b d r::l,ρ,w,K=>∃ c,ρ.get s=some c∧(isB c b=true→∃ v,r.ev w ρ=some v∧wpS P l (ρ.put d v) w K)∧(isB c b=false→wpS P l (ρ.put d undef) w K)
 | .ge s b d e::l,ρ,w,K=>∃ c,ρ.get s=some c∧(isB c b=true→e.wp P w ρ fun v w'=>wpS P l (ρ.put d v) w' K)∧(isB c b=false→wpS P l (ρ.put d undef) w K)
def dstOk (N:Nat):Option Nat→Bool
 | none=>true
 | some d=>decide (d < N)
def resS (P:Program) (N:Nat) (ops:Array Oper) (o:Oper):Option S:=
 if dstOk N o.dst then
   match o.guard with
   | none=>match res P o.op with
     | some r=>some (.r o.dst r)
     | none=>some (.e o.dst (resE P o))
   | some (j,want)=>match (ops[j]?).bind (·.dst) with
     | some s=>match res P o.op with
       | some r=>some (.gr s want o.dst r)
       | none=>some (.ge s want o.dst (resE P o))
     | none=>none
 else none
def resAll (P:Program) (N:Nat) (ops:Array Oper):List Oper→Option (List S)
 | []=>some []
 | o::l=>match resS P N ops o,resAll P N ops l with
   | some s,some t=>some (s::t)
   | _,_=>none
section
variable {P:Program} {N:Nat} {ops:Array Oper} {ρ:Env} {a:Act} {w:World}
theorem dstOk_spec {d:Option Nat} (h:dstOk N d=true):∀ t,d=some t→t < N:=by
 intro t ht;subst ht;simpa [dstOk] using h
theorem wanted_of {o:Oper} {j s:Nat} {want:Bool} {c:Value} (hg:o.guard=some (j,want)) (hs:(ops[j]?).bind (·.dst)=some s) (hG:Good dl N ρ a) (hc:ρ.get s=some c) :
   Region.wanted o (yielded ops a.tmps)=isB c want:=by
 have h1:=hG.get s _ hc;simp only [Region.wanted,hg,yielded,hs,Option.bind_some,h1];cases c<;>first | rfl | (rename_i b;cases b<;>cases want<;>rfl)
def gList (P:Program) (ops:Array Oper) (G:Act→World→Prop):List Oper→Act→World→Prop
 | [],a,w=>G a w
 | o::l,a,w=>if Region.wanted o (yielded ops a.tmps) then o.wp P a w (gList P ops G l) NoQ else gList P ops G l (a.put o.dst undef) w
theorem gList_wp {G:Act→World→Prop} {Q:Exit→Act→World→Prop} (hQ:∀ a w,G a w→Q .normal a w):∀ (l:List Oper) (a:Act) (w:World),gList P ops G l a w→wpList P ops Q l a w
 | [],a,w,h=>hQ a w h
 | o::l,a,w,h=>by
   unfold gList at h;unfold wpList
   split
   · rename_i hw;rw [if_pos hw] at h;exact .inl (wp_noQ (Oper.wp_mono (fun a w hh=>gList_wp hQ l a w hh) h))
   · rename_i hw;rw [if_neg hw] at h;exact gList_wp hQ l _ _ h
theorem resAll_sound {G:Act→World→Prop}:∀ (l:List Oper) (st:List S) (ρ:Env) (a:Act) (w:World) (K:Env→World→Prop),resAll P N ops l=some st→wpS P st ρ w K→Good dl N ρ a →
   (∀ ρ' a' w',Good dl N ρ' a'→K ρ' w'→G a' w')→gList P ops G l a w:=by
 intro l
 induction l with
 | nil=>
   intro st ρ a w K h1 h2 h3 h4;simp only [resAll,Option.some.injEq] at h1;subst h1;exact h4 _ _ _ h3 h2
 | cons o l ih=>
   intro st ρ a w K h1 h2 h3 h4;simp only [resAll] at h1
   split at h1
   · rename_i s t hs ht;simp only [Option.some.injEq] at h1;subst h1;unfold resS at hs
     split at hs
     · rename_i hd;have hd':=dstOk_spec hd
       split at hs
       · rename_i hg;have hw:Region.wanted o (yielded ops a.tmps)=true:=by simp [Region.wanted,hg]
         unfold gList;rw [if_pos hw]
         split at hs
         · rename_i r hr;simp only [Option.some.injEq] at hs;subst hs;obtain ⟨v,hv,hk⟩:=h2;refine Oper.wp_mono ?_ (opWp_of_ro (K:=fun v' w'=>v'=v∧w'=w) hr hv ⟨rfl,rfl⟩ a h3.agree);rintro a' w' ⟨v',rfl,rfl,rfl⟩;exact ih t _ _ _ K ht hk (h3.put _ _ hd') h4
         · simp only [Option.some.injEq] at hs;subst hs;refine Oper.wp_mono ?_ (resE_sound h2 a h3.agree);rintro a' w' ⟨v',rfl,hk⟩;exact ih t _ _ _ K ht hk (h3.put _ _ hd') h4
       · rename_i j want hg
         split at hs
         · rename_i s' hs'
           split at hs
           · rename_i r hr;simp only [Option.some.injEq] at hs;subst hs;obtain ⟨c,hc,hy,hn⟩:=h2;have hw:=wanted_of hg hs' h3 hc;unfold gList;by_cases hcw:isB c want=true
             · rw [if_pos (by rw [hw,hcw])];obtain ⟨v,hv,hk⟩:=hy hcw;refine Oper.wp_mono ?_ (opWp_of_ro (K:=fun v' w'=>v'=v∧w'=w) hr hv ⟨rfl,rfl⟩ a h3.agree);rintro a' w' ⟨v',rfl,rfl,rfl⟩;exact ih t _ _ _ K ht hk (h3.put _ _ hd') h4
             · rw [if_neg (by rw [hw];exact hcw)];exact ih t _ _ _ K ht (hn (by simpa using hcw)) (h3.put _ _ hd') h4
           · simp only [Option.some.injEq] at hs;subst hs;obtain ⟨c,hc,hy,hn⟩:=h2;have hw:=wanted_of hg hs' h3 hc;unfold gList;by_cases hcw:isB c want=true
             · rw [if_pos (by rw [hw,hcw])];refine Oper.wp_mono ?_ (resE_sound (hy hcw) a h3.agree);rintro a' w' ⟨v',rfl,hk⟩;exact ih t _ _ _ K ht hk (h3.put _ _ hd') h4
             · rw [if_neg (by rw [hw];exact hcw)];exact ih t _ _ _ K ht (hn (by simpa using hcw)) (h3.put _ _ hd') h4
         · cases hs
     · cases hs
   · cases h1
def R.isMem:R→Bool
 | .l1 _=>true
 | .ln _ _=>true
 | .lnm _=>true
 | _=>false
def R.blk (ρ:Env):R→Option Nat
 | .l1 x=>match x.ev ρ with | some (.pointer (some a))=>some a.block | _=>none
 | .ln _ x=>match x.ev ρ with | some (.pointer (some a))=>some a.block | _=>none
 | .lnm x=>match x.ev ρ with | some (.map (some r))=>some r | _=>none
 | _=>none
theorem cell?_congr {w w':World} {a:Addr} (h:w'.heap[a.block]? = w.heap[a.block]?):w'.cell? a=w.cell? a:=by simp [World.cell?,h]
theorem add_block (a:Addr) (n:Nat):(a.add n).block=a.block:=by unfold Addr.add;split<;>rfl
theorem cellsFrom_congr {w w':World} {a:Addr} (h:w'.heap[a.block]? = w.heap[a.block]?):∀ (n i:Nat) (acc:Array Value),cellsFrom w' a i n acc=cellsFrom w a i n acc:=by
 intro n
 induction n with
 | zero=>intro i acc;rfl
 | succ n ih=>
   intro i acc;simp only [cellsFrom];have e1:w'.cell? (a.add i)=w.cell? (a.add i):=cell?_congr (by rw [add_block];exact h);rw [e1];cases w.cell? (a.add i) with
   | none=>rfl
   | some v=>exact ih _ _
theorem ev_kept {w w':World} {r:R} {v:Value} (h:r.ev w ρ=some v) (hk:∀ b,r.blk ρ=some b→w'.heap[b]? = w.heap[b]?):r.ev w' ρ=some v:=by
 cases r with
 | l1 x=>
   simp only [R.ev] at h ⊢;obtain ⟨u,hu,hv⟩:=Option.bind_eq_some_iff.1 h;rw [hu,Option.bind_some];unfold vL1 at *;cases u with
   | pointer ad=>
     cases ad with
     | none=>cases hv
     | some ad=>
       simp only at *;rw [cell?_congr (hk ad.block (by simp [R.blk,hu]))];exact hv
   | _=>cases hv
 | ln n x=>
   simp only [R.ev] at h ⊢;obtain ⟨u,hu,hv⟩:=Option.bind_eq_some_iff.1 h;rw [hu,Option.bind_some];unfold vLN at *;cases u with
   | pointer ad=>
     cases ad with
     | none=>cases hv
     | some ad=>
       simp only at *;rw [cellsFrom_congr (hk ad.block (by simp [R.blk,hu]))];exact hv
   | _=>cases hv
 | lnm x=>
   simp only [R.ev] at h ⊢;obtain ⟨u,hu,hv⟩:=Option.bind_eq_some_iff.1 h;rw [hu,Option.bind_some];unfold vLnm at *;cases u with
   | map m=>
     cases m with
     | none=>exact hv
     | some rr=>
       simp only at *;rw [hk rr (by simp [R.blk,hu])];exact hv
   | _=>cases hv
 | _=>exact h
def gOp (P:Program) (ops:Array Oper) (i:Nat) (K:Act→World→Prop) (a:Act) (w:World):Prop:=
 ∃ o,ops[i]? = some o∧if Region.wanted o (yielded ops a.tmps) then o.wp P a w K NoQ else K (a.put o.dst undef) w
def Kept (B:Nat→Prop) (w w':World):Prop:=∀ b,B b→w'.heap[b]? = w.heap[b]?
def wpAnyB (P:Program) (ops:Array Oper) (B:Nat→Nat→Prop) (Q:Act→World→Prop):Nat→Array Bool→Act→World→Prop
 | 0,listed,a,w=>Region.ready .any ops listed=[]∧Q a w
 | f+1,listed,a,w=>(Region.ready .any ops listed=[]→Q a w) ∧
   ∀ i∈Region.ready .any ops listed,gOp P ops i (fun a' w'=>Kept (B i) w w'∧wpAnyB P ops B Q f (listed.setIfInBounds i true) a' w') a w
theorem gOp_mono {i:Nat} {K K':Act→World→Prop} (h:∀ a w,K a w→K' a w) (hg:gOp P ops i K a w):gOp P ops i K' a w:=by
 obtain ⟨o,ho,h1⟩:=hg;refine ⟨o,ho,?_⟩
 split
 · rename_i hw;rw [if_pos hw] at h1;exact Oper.wp_mono h h1
 · rename_i hw;rw [if_neg hw] at h1;exact h _ _ h1
theorem wpAny_of_B {B:Nat→Nat→Prop} {Q:Act→World→Prop} {Q':Exit→Act→World→Prop} (hQ:∀ a w,Q a w→Q' .normal a w) :
   ∀ (f:Nat) (listed:Array Bool) (a:Act) (w:World),wpAnyB P ops B Q f listed a w→wpAny P .any ops Q' f listed a w:=by
 intro f
 induction f with
 | zero=>intro listed a w h;exact ⟨h.1,hQ _ _ h.2⟩
 | succ f ih=>
   intro listed a w h;refine ⟨fun h0=>hQ _ _ (h.1 h0),fun i hi=>?_⟩;obtain ⟨o,ho,hg⟩:=h.2 i hi;unfold wpOp;simp only [ho]
   split
   · rename_i hw;rw [if_pos hw] at hg;exact .inl (wp_noQ (Oper.wp_mono (fun a' w' hh=>ih _ _ _ hh.2) hg))
   · rename_i hw;rw [if_neg hw] at hg;exact ih _ _ _ hg.2
def YieldsC (P:Program) (ops:Array Oper) (bs:Nat→Prop) (c:Nat→Option Obj) (o:Oper) (v:Value) (a:Act):Prop:=
 (Region.wanted o (yielded ops a.tmps)=true∧∀ w:World,(∀ b,bs b→w.heap[b]? = c b)→(execOp a.eval o).run P w = .ok (.value v) w) ∨
 (Region.wanted o (yielded ops a.tmps)=false∧v=undef)
theorem YieldsC.same {bs:Nat→Prop} {c:Nat→Option Obj} {o:Oper} {v:Value} {a a':Act} (h:YieldsC P ops bs c o v a) (he:execOp a'.eval o=execOp a.eval o)
   (hw:Region.wanted o (yielded ops a'.tmps)=Region.wanted o (yielded ops a.tmps)):YieldsC P ops bs c o v a':=by
 unfold YieldsC at *;rw [he,hw];exact h
theorem gOp_put {bs:Nat→Prop} {c:Nat→Option Obj} {j:Nat} {oi oj:Oper} {v:Value} (hj:ops[j]? = some oj) (hap:oi.apart ops oj=true)
   (hsi:∀ cs b,oi.op≠.select cs b) (hsj:∀ cs b,oj.op≠.select cs b) {K:Act→World→Prop} (hy:YieldsC P ops bs c oi v a) (h:gOp P ops j K (a.put oi.dst v) w) :
   gOp P ops j (fun a' w'=>YieldsC P ops bs c oi v a'∧K (a'.put oi.dst v) w') a w:=by
 obtain ⟨h1,h2,h3⟩:=Oper.apart_spec hap;obtain ⟨o,ho,hg⟩:=h;obtain rfl:o=oj:=Option.some.inj (ho.symm.trans hj);refine ⟨o,hj,?_⟩;rw [wanted_put o a oi.dst v h1] at hg;have keep:∀ u,YieldsC P ops bs c oi v (a.put o.dst u):=fun u=>hy.same (execOp_put oi hsi a o.dst u h3) (wanted_put oi a o.dst u h3)
 split
 · rename_i hw;rw [if_pos hw] at hg;unfold Oper.wp at *;rw [execOp_put o hsj a oi.dst v h1] at hg;generalize (execOp a.eval o).run P w=r at *;cases r with
   | ok n w'=>
     cases n<;>simp only [Oper.upon] at hg ⊢
     case value u=>exact ⟨keep u,by rw [← Act.put_comm a v u h2];exact hg⟩
     case skip=>exact ⟨keep _,by rw [← Act.put_comm a v undef h2];exact hg⟩
     case defer d=>
       have hd:YieldsC P ops bs c oi v { a with defers:=d::a.defers}:=hy.same rfl rfl;refine ⟨hd.same (execOp_put oi hsi _ o.dst _ h3) (wanted_put oi _ o.dst _ h3),?_⟩;rw [← Act.put_comm _ v undef h2,← Act.put_defers];exact hg
     case enter f args=>
       refine Calls.mono hg fun e w'' he=>?_
       cases e with
       | returned u=>exact ⟨keep u,by rw [← Act.put_comm a v u h2];exact he⟩
       | panicked c=>exact he
       | outgrown=>obtain ⟨_,_,hf⟩:=he;exact False.elim hf
     case row row args=>exact Rows.mono hg fun u w'' he=>⟨keep u,by rw [← Act.put_comm a v u h2];exact he⟩
   | halt x w'=>cases x<;>simp only [Oper.upon] at hg ⊢<;>exact hg
 · rename_i hw;rw [if_neg hw] at hg;exact ⟨keep _,by rw [← Act.put_comm a v undef h2];exact hg⟩
def Closed (ops:Array Oper) (listed:Array Bool):Prop:=
 ∀ j oj,ops[j]? = some oj→listed.getD j false=true→∀ e∈oj.after,Region.binds .any e=true→listed.getD e.on false=true
def pmOk (ops:Array Oper) (pm:List Nat):Bool:=
 (List.range ops.size).all fun j=>(List.range ops.size).all fun i=>!(pm.getD j 0).testBit i ||
   match ops[j]? with
   | some o=>o.after.any fun e=>Region.binds .any e&&(decide (e.on < j)&&(e.on == i||(pm.getD e.on 0).testBit i))
   | none=>false
theorem pm_listed {pm:List Nat} (hpm:pmOk ops pm=true) {listed:Array Bool} (hc:Closed ops listed) {i:Nat} (hi:i < ops.size) :
   ∀ (j:Nat),j < ops.size→(listed.getD j false=true∨j∈Region.ready .any ops listed)→(pm.getD j 0).testBit i=true→listed.getD i false=true:=by
 intro j
 induction j using Nat.strongRecOn with
 | _ j ih=>
   intro hj hl ht;have h1:=List.all_eq_true.1 (List.all_eq_true.1 hpm j (List.mem_range.2 hj)) i (List.mem_range.2 hi);rw [ht] at h1;simp only [Bool.not_true,Bool.false_or] at h1
   split at h1
   · rename_i o ho;obtain ⟨e,he,hb⟩:=Array.any_eq_true'.1 h1;simp only [Bool.and_eq_true,decide_eq_true_eq,Bool.or_eq_true,beq_iff_eq] at hb;obtain ⟨hb1,hlt,hb2⟩:=hb;have hon:listed.getD e.on false=true:=by
       rcases hl with hl | hl
       · exact hc j o ho hl e he hb1
       · obtain ⟨_,o',ho',hall⟩:=mem_ready.1 hl;obtain rfl:o'=o:=Option.some.inj (ho'.symm.trans ho);exact hall e he hb1
     rcases hb2 with hb2 | hb2
     · rw [← hb2];exact hon
     · exact ih e.on hlt (by omega) (.inl hon) hb2
   · cases h1
theorem closed_set {listed:Array Bool} {i:Nat} (hc:Closed ops listed) (hi:i∈Region.ready .any ops listed):Closed ops (listed.setIfInBounds i true):=by
 obtain ⟨_,oi,hoi,hall⟩:=mem_ready.1 hi;intro j oj hj hl e he hb;by_cases hij:i=j
 · subst hij;obtain rfl:oj=oi:=Option.some.inj (hj.symm.trans hoi);exact getD_set_true (hall e he hb)
 · rw [getD_set_ne false hij] at hl;exact getD_set_true (hc j oj hj hl e he hb)
theorem unlisted_false {listed:Array Bool} {i:Nat} (h:listed.getD i true=false):listed.getD i false=false:=by
 rcases Nat.lt_or_ge i listed.size with h' | h'
 · simp [h'] at h ⊢;exact h
 · simp [Array.getElem?_eq_none h'] at h
theorem wpAnyB_first {pm:List Nat} (hpm:pmOk ops pm=true) {i:Nat} {oi:Oper} {v:Value} (hi:ops[i]? = some oi) (hsel:∀ (j:Nat) (o:Oper) cs b,ops[j]? = some o→o.op≠.select cs b)
   {bs:Nat→Prop} {c:Nat→Option Obj} {B B':Nat→Nat→Prop} {Q:Act→World→Prop} (hB:∀ j b,B j b→B' j b)
   (hbs:∀ j,(pm.getD j 0).testBit i=false→j≠i→∀ b,bs b→B' j b) :
   ∀ (f:Nat) (listed:Array Bool) (a:Act) (w:World),Closed ops listed →
     (∀ j oj,ops[j]? = some oj→j≠i→listed.getD j true=false→(∀ e∈oj.after,Region.binds .any e=true→e.on≠i)→oi.apart ops oj=true) →
     i∈Region.ready .any ops listed→YieldsC P ops bs c oi v a→(∀ b,bs b→w.heap[b]? = c b) →
     wpAnyB P ops B' Q f (listed.setIfInBounds i true) (a.put oi.dst v) w→wpAnyB P ops B Q (f+1) listed a w:=by
 intro f;have here:∀ (f:Nat) (listed:Array Bool) (a:Act) (w:World),YieldsC P ops bs c oi v a→(∀ b,bs b→w.heap[b]? = c b) →
     wpAnyB P ops B Q f (listed.setIfInBounds i true) (a.put oi.dst v) w →
     gOp P ops i (fun a' w'=>Kept (B i) w w'∧wpAnyB P ops B Q f (listed.setIfInBounds i true) a' w') a w:=by
   intro f listed a w hy hw H;refine ⟨oi,hi,?_⟩;rcases hy with ⟨h1,h2⟩ | ⟨h1,rfl⟩
   · rw [if_pos h1];unfold Oper.wp;rw [h2 w hw];exact ⟨fun _ _=>rfl,H⟩
   · rw [if_neg (by simp [h1])];exact ⟨fun _ _=>rfl,H⟩
 have weak:∀ (f:Nat) (listed:Array Bool) (a:Act) (w:World),wpAnyB P ops B' Q f listed a w→wpAnyB P ops B Q f listed a w:=by
   intro f
   induction f with
   | zero=>intro listed a w h;exact h
   | succ f ih=>
     intro listed a w h;exact ⟨h.1,fun j hj=>gOp_mono (fun a' w' hh=>⟨fun b hb=>hh.1 b (hB j b hb),ih _ _ _ hh.2⟩) (h.2 j hj)⟩
 induction f with
 | zero=>
   intro listed a w hcl hfree hr hy hw H;refine ⟨fun h=>(by rw [h] at hr;cases hr),fun j hj=>?_⟩;by_cases hji:j=i
   · subst hji;exact here 0 listed a w hy hw (weak _ _ _ _ H)
   · have:=ready_mono hj hji;rw [H.1] at this;cases this
 | succ f ih=>
   intro listed a w hcl hfree hr hy hw H;refine ⟨fun h=>(by rw [h] at hr;cases hr),fun j hj=>?_⟩;by_cases hji:j=i
   · subst hji;exact here _ listed a w hy hw (weak _ _ _ _ H)
   · have h1:=H.2 j (ready_mono hj hji);obtain ⟨hjun,oj,hoj,hall⟩:=mem_ready.1 hj;have hiun:=(mem_ready.1 hr).1;have hisz:i < ops.size:=(Array.getElem?_eq_some_iff.1 hi).1;have hjsz:j < ops.size:=(Array.getElem?_eq_some_iff.1 hoj).1;have hnot:∀ e∈oj.after,Region.binds .any e=true→e.on≠i:=fun e he hb heq=>by
       have h1:=hall e he hb;rw [heq,unlisted_false hiun] at h1;cases h1
     have hpmj:(pm.getD j 0).testBit i=false:=by
       cases ht:(pm.getD j 0).testBit i with
       | false=>rfl
       | true=>
         have:=pm_listed hpm hcl hisz j hjsz (.inr hj) ht;rw [unlisted_false hiun] at this;cases this
     have h2:=gOp_put hoj (hfree j oj hoj hji hjun hnot) (fun cs b=>hsel i oi cs b hi) (fun cs b=>hsel j oj cs b hoj) hy h1;have hfree':∀ k ok,ops[k]? = some ok→k≠i→(listed.setIfInBounds j true).getD k true=false →
         (∀ e∈ok.after,Region.binds .any e=true→e.on≠i)→oi.apart ops ok=true:=fun k ok hk hki hun hno=>by
       refine hfree k ok hk hki ?_ hno;by_cases hjk:j=k
       · subst hjk;exact hjun
       · rw [getD_set_ne true hjk] at hun;exact hun
     refine gOp_mono (fun a' w' h3=>⟨fun b hb=>h3.2.1 b (hB j b hb),?_⟩) h2;refine ih (listed.setIfInBounds j true) a' w' (closed_set hcl hj) hfree' (ready_mono hr (Ne.symm hji)) h3.1 (fun b hb=>?_) ?_
     · rw [h3.2.1 b (hbs j hpmj hji b hb)];exact hw b hb
     · rw [Array.setIfInBounds_comm _ _ hji];exact h3.2.2
end
end
section
open Go
variable {dl:List Deferred}
inductive D where
 | nil
 | r (i:Nat) (g:Option (Nat×Bool)) (d:Option Nat) (r:R) (t:D)
 | e (i:Nat) (g:Option (Nat×Bool)) (d:Option Nat) (e:E) (fl:List Nat) (t:D)
 | e2 (i:Nat) (d:Option Nat) (e:E) (fl:List Nat) (t:D) (i':Nat) (d':Option Nat) (e':E) (fl':List Nat) (t':D)
 deriving Inhabited
def inL (i:Nat):List Nat→Prop
 | []=>False
 | j::r=>j=i∨inL i r
def keptL (fl:List Nat) (w w':World):List (Nat×Nat)→Prop
 | []=>True
 | (i,b)::r=>(inL i fl→w'.heap[b]? = w.heap[b]?)∧keptL fl w w' r
def addRd (i:Nat) (b:Option Nat) (rd:List (Nat×Nat)):List (Nat×Nat):=
 match b with
 | some b=>(i,b)::rd
 | none=>rd
def wpD (P:Program):D→Env→World→List (Nat×Nat)→(Env→World→Prop)→Prop
 | .nil,ρ,w,rd,K=>K ρ w
 | .r i none d r t,ρ,w,rd,K=>∃ v,r.ev w ρ=some v∧wpD P t (ρ.put d v) w (addRd i (r.blk ρ) rd) K
 | .r i (some (s,b)) d r t,ρ,w,rd,K=>∃ c,ρ.get s=some c∧(isB c b=true→∃ v,r.ev w ρ=some v∧wpD P t (ρ.put d v) w (addRd i (r.blk ρ) rd) K) ∧
     (isB c b=false→wpD P t (ρ.put d undef) w rd K)
 | .e i none d e fl t,ρ,w,rd,K=>e.wp P w ρ fun v w'=>keptL fl w w' rd∧wpD P t (ρ.put d v) w' rd K
 | .e i (some (s,b)) d e fl t,ρ,w,rd,K=>∃ c,ρ.get s=some c∧(isB c b=true→e.wp P w ρ fun v w'=>keptL fl w w' rd∧wpD P t (ρ.put d v) w' rd K) ∧
     (isB c b=false→wpD P t (ρ.put d undef) w rd K)
 | .e2 i d e fl t i' d' e' fl' t',ρ,w,rd,K=>(e.wp P w ρ fun v w'=>keptL fl w w' rd∧wpD P t (ρ.put d v) w' rd K) ∧
     (e'.wp P w ρ fun v w'=>keptL fl' w w' rd∧wpD P t' (ρ.put d' v) w' rd K)
def memI (P:Program) (ops:Array Oper) (i:Nat):Bool:=
 match ops[i]? with
 | some o=>match res P o.op with
   | some r=>r.isMem
   | none=>false
 | none=>false
def flOf (P:Program) (ops:Array Oper) (pm:List Nat) (j:Nat):List Nat:=(List.range ops.size).filter fun i=>memI P ops i && !(pm.getD j 0).testBit i
def isRI (P:Program) (ops:Array Oper) (i:Nat):Bool:=
 match ops[i]? with
 | some o=>(res P o.op).isSome
 | none=>false
def mkE (i:Nat) (fl:List Nat) (t:D):S→Option D
 | .e d e=>some (.e i none d e fl t)
 | .ge s b d e=>some (.e i (some (s,b)) d e fl t)
 | _=>none
def mkR (i:Nat) (t:D):S→Option D
 | .r d r=>some (.r i none d r t)
 | .gr s b d r=>some (.r i (some (s,b)) d r t)
 | _=>none
def mkE2 (i:Nat) (fl:List Nat) (t:D) (j:Nat) (fl':List Nat) (t':D):S→S→Option D
 | .e d e,.e d' e'=>some (.e2 i d e fl t j d' e' fl' t')
 | _,_=>none
def resAt (P:Program) (N:Nat) (ops:Array Oper) (i:Nat):Option S:=(ops[i]?).bind (resS P N ops)
def resD (P:Program) (N:Nat) (ops:Array Oper) (pm:List Nat):Nat→Array Bool→Option D
 | 0,listed=>if (Region.ready .any ops listed).isEmpty then some .nil else none
 | f+1,listed=>
   match (Region.ready .any ops listed).find? (fun i=>isRI P ops i&&Region.free .any ops listed i) with
   | some i=>(resD P N ops pm f (listed.setIfInBounds i true)).bind fun t=>(resAt P N ops i).bind (mkR i t)
   | none=>match Region.ready .any ops listed with
     | []=>some .nil
     | [i]=>(resD P N ops pm f (listed.setIfInBounds i true)).bind fun t=>(resAt P N ops i).bind (mkE i (flOf P ops pm i) t)
     | [i,j]=>(resD P N ops pm f (listed.setIfInBounds i true)).bind fun t=>(resD P N ops pm f (listed.setIfInBounds j true)).bind fun t'=>
         (resAt P N ops i).bind fun s=>(resAt P N ops j).bind fun s'=>mkE2 i (flOf P ops pm i) t j (flOf P ops pm j) t' s s'
     | _=>none
section
variable {P:Program} {N:Nat} {ops:Array Oper}
def Brd (pm:List Nat) (rd:List (Nat×Nat)) (j b:Nat):Prop:=∃ i,(i,b)∈rd∧(pm.getD j 0).testBit i=false
theorem inL_of {i:Nat}:∀ {fl:List Nat},i∈fl→inL i fl:=by
 intro fl
 induction fl with
 | nil=>intro h;cases h
 | cons j r ih=>
   intro h;cases h with
   | head=>exact .inl rfl
   | tail _ h=>exact .inr (ih h)
theorem keptL_spec {fl:List Nat} {w w':World}:∀ {rd:List (Nat×Nat)},keptL fl w w' rd→∀ i b,(i,b)∈rd→i∈fl→w'.heap[b]? = w.heap[b]?:=by
 intro rd
 induction rd with
 | nil=>intro _ i b h;cases h
 | cons p rd ih=>
   intro h i b hm hf;obtain ⟨j,c⟩:=p;simp only [keptL] at h;cases hm with
   | head=>exact h.1 (inL_of hf)
   | tail _ hm=>exact ih h.2 i b hm hf
theorem resS_r {o:Oper} {d:Option Nat} {r:R} (h:resS P N ops o=some (.r d r)):res P o.op=some r∧d=o.dst∧o.guard=none∧(∀ t,d=some t→t < N):=by
 unfold resS at h
 split at h
 · rename_i hd
   split at h
   · rename_i hg
     split at h
     · rename_i r' hr;cases h;exact ⟨hr,rfl,hg,dstOk_spec hd⟩
     · cases h
   · split at h
     · split at h<;>cases h
     · cases h
 · cases h
theorem resS_e {o:Oper} {d:Option Nat} {e:E} (h:resS P N ops o=some (.e d e)):e=resE P o∧d=o.dst∧o.guard=none∧(∀ t,d=some t→t < N):=by
 unfold resS at h
 split at h
 · rename_i hd
   split at h
   · rename_i hg
     split at h
     · cases h
     · cases h;exact ⟨rfl,rfl,hg,dstOk_spec hd⟩
   · split at h
     · split at h<;>cases h
     · cases h
 · cases h
theorem resS_gr {o:Oper} {s:Nat} {b:Bool} {d:Option Nat} {r:R} (h:resS P N ops o=some (.gr s b d r)) :
   res P o.op=some r∧d=o.dst∧(∃ j,o.guard=some (j,b)∧(ops[j]?).bind (·.dst)=some s)∧(∀ t,d=some t→t < N):=by
 unfold resS at h
 split at h
 · rename_i hd
   split at h
   · split at h<;>cases h
   · rename_i j want hg
     split at h
     · rename_i s' hs'
       split at h
       · rename_i r' hr;cases h;exact ⟨hr,rfl,⟨j,hg,hs'⟩,dstOk_spec hd⟩
       · cases h
     · cases h
 · cases h
theorem resS_ge {o:Oper} {s:Nat} {b:Bool} {d:Option Nat} {e:E} (h:resS P N ops o=some (.ge s b d e)) :
   e=resE P o∧d=o.dst∧(∃ j,o.guard=some (j,b)∧(ops[j]?).bind (·.dst)=some s)∧(∀ t,d=some t→t < N):=by
 unfold resS at h
 split at h
 · rename_i hd
   split at h
   · split at h<;>cases h
   · rename_i j want hg
     split at h
     · rename_i s' hs'
       split at h
       · cases h
       · cases h;exact ⟨rfl,rfl,⟨j,hg,hs'⟩,dstOk_spec hd⟩
     · cases h
 · cases h
def GoodK (dl:List Deferred) (N:Nat) (K:Env→World→Prop) (a:Act) (w:World):Prop:=∃ ρ,Good dl N ρ a∧K ρ w
theorem addRd_mem {i:Nat} {b:Option Nat} {rd:List (Nat×Nat)} {p:Nat×Nat} (h:p∈rd):p∈addRd i b rd:=by
 cases b with
 | none=>exact h
 | some b=>exact List.mem_cons_of_mem _ h
theorem blk_mem {r:R} {ρ:Env} {b:Nat} (h:r.blk ρ=some b):r.isMem=true:=by
 cases r<;>first | rfl | (simp [R.blk] at h)
theorem resD_sound {pm:List Nat} (hpm:pmOk ops pm=true) (hsel:Region.noSelect ops=true) {K:Env→World→Prop} :
   ∀ (f:Nat) (listed:Array Bool) (t:D) (ρ:Env) (a:Act) (w:World) (rd:List (Nat×Nat)),resD P N ops pm f listed=some t→wpD P t ρ w rd K→Good dl N ρ a→Closed ops listed →
     (∀ i b,(i,b)∈rd→memI P ops i=true)→wpAnyB P ops (Brd pm rd) (GoodK dl N K) f listed a w:=by
 intro f
 induction f with
 | zero=>
   intro listed t ρ a w rd h hwp hg hc hrd;simp only [resD] at h
   split at h
   · rename_i he;cases h;exact ⟨by simpa using he,ρ,hg,hwp⟩
   · cases h
 | succ f ih=>
   intro listed t ρ a w rd h hwp hg hc hrd;have effect:∀ (i:Nat) (o:Oper) (t':D) (d:Option Nat) (e:E),ops[i]? = some o→e=resE P o→d=o.dst→(∀ t,d=some t→t < N)→i∈Region.ready .any ops listed →
       resD P N ops pm f (listed.setIfInBounds i true)=some t'→Region.wanted o (yielded ops a.tmps)=true →
       (e.wp P w ρ fun v w'=>keptL (flOf P ops pm i) w w' rd∧wpD P t' (ρ.put d v) w' rd K) →
       gOp P ops i (fun a' w'=>Kept (Brd pm rd i) w w'∧wpAnyB P ops (Brd pm rd) (GoodK dl N K) f (listed.setIfInBounds i true) a' w') a w:=by
     intro i o t' d e hi he hd hdN hr ht' hw hE;subst he hd;refine ⟨o,hi,?_⟩;rw [if_pos hw];refine Oper.wp_mono ?_ (resE_sound hE a hg.agree);rintro a' w' ⟨v,rfl,hk,hrest⟩;refine ⟨?_,ih _ t' _ _ _ rd ht' hrest (hg.put _ _ hdN) (closed_set hc hr) hrd⟩;rintro b ⟨i0,hm,hbit⟩;refine keptL_spec hk i0 b hm ?_;have hmem:=hrd i0 b hm;unfold flOf;rw [List.mem_filter,List.mem_range];refine ⟨?_,by rw [hmem,hbit];rfl⟩;unfold memI at hmem;cases ho:ops[i0]? with
     | none=>simp [ho] at hmem
     | some o'=>exact (Array.getElem?_eq_some_iff.1 ho).1
   simp only [resD] at h
   split at h
   · rename_i i hfind;have hmem:=List.mem_of_find?_eq_some hfind;have hprop:=List.find?_some hfind;simp only [Bool.and_eq_true] at hprop;obtain ⟨t',ht',h⟩:=Option.bind_eq_some_iff.1 h;obtain ⟨s,hs0,h⟩:=Option.bind_eq_some_iff.1 h;unfold resAt at hs0;obtain ⟨o,ho,hs⟩:=Option.bind_eq_some_iff.1 hs0;clear hs0;have hfree:=Region.free_spec ho hprop.2;have isz:i < ops.size:=(Array.getElem?_eq_some_iff.1 ho).1;have taken:∀ (v:Value) (d:Option Nat) (r:R),d=o.dst→res P o.op=some r→r.ev w ρ=some v→Region.wanted o (yielded ops a.tmps)=true→(∀ t,d=some t→t < N) →
         wpD P t' (ρ.put d v) w (addRd i (r.blk ρ) rd) K→wpAnyB P ops (Brd pm rd) (GoodK dl N K) (f+1) listed a w:=by
       intro v d r hd hr hv hw hdN hrest;subst hd
       have H:=ih _ t' _ _ _ _ ht' hrest (hg.put _ v hdN) (closed_set hc hmem) (by
         intro j b hj;cases hb:r.blk ρ with
         | none=>rw [hb] at hj;exact hrd j b hj
         | some b'=>
           rw [hb] at hj;cases hj with
           | head=>unfold memI;rw [ho];simp only;rw [hr];exact blk_mem hb
           | tail _ hj=>exact hrd j b hj)
       refine wpAnyB_first hpm ho (Region.noSelect_spec hsel) (bs:=fun b=>r.blk ρ=some b) (c:=fun b=>w.heap[b]?) (B':=Brd pm (addRd i (r.blk ρ) rd)) ?_ ?_ f listed a w hc hfree hmem ?_ (fun _ _=>rfl) H
       · rintro j b ⟨i0,hm,hbit⟩;exact ⟨i0,addRd_mem hm,hbit⟩
       · intro j hj hji b hb;refine ⟨i,?_,hj⟩;rw [show r.blk ρ=some b from hb];exact List.mem_cons_self
       · left
         refine ⟨hw,fun w' hw'=>ro_run (res_sound hr hg.agree (ev_kept hv hw'))⟩
     have skipped:∀ (d:Option Nat),d=o.dst→Region.wanted o (yielded ops a.tmps)=false→(∀ t,d=some t→t < N)→wpD P t' (ρ.put d undef) w rd K →
         wpAnyB P ops (Brd pm rd) (GoodK dl N K) (f+1) listed a w:=by
       intro d hd hw hdN hrest;subst hd;have H:=ih _ t' _ _ _ _ ht' hrest (hg.put _ undef hdN) (closed_set hc hmem) hrd;refine wpAnyB_first hpm ho (Region.noSelect_spec hsel) (bs:=fun _=>False) (c:=fun b=>w.heap[b]?) (B':=Brd pm rd) (fun _ _ h=>h) (fun _ _ _ _ h=>h.elim) f listed a w hc hfree hmem ?_ (fun _ h=>h.elim) H
       right
       exact ⟨hw,rfl⟩
     cases s with
     | r d r=>
       simp only [mkR,Option.some.injEq] at h;subst h;obtain ⟨hr,hd,hgd,hdN⟩:=resS_r hs;obtain ⟨v,hv,hrest⟩:=hwp;exact taken v d r hd hr hv (by simp [Region.wanted,hgd]) hdN hrest
     | gr s' b' d r=>
       simp only [mkR,Option.some.injEq] at h;subst h;obtain ⟨hr,hd,⟨j,hgd,hsl⟩,hdN⟩:=resS_gr hs;obtain ⟨c,hcv,hy,hn⟩:=hwp;have hw:=wanted_of hgd hsl hg hcv;by_cases hcb:isB c b'=true
       · obtain ⟨v,hv,hrest⟩:=hy hcb;exact taken v d r hd hr hv (by rw [hw,hcb]) hdN hrest
       · exact skipped d hd (by rw [hw];simpa using hcb) hdN (hn (by simpa using hcb))
     | e d e=>simp [mkR] at h
     | ge s b d e=>simp [mkR] at h
   · split at h
     · rename_i hready;cases h;exact ⟨fun _=>⟨ρ,hg,hwp⟩,fun i hi=>(by rw [hready] at hi;cases hi)⟩
     · rename_i i hready;obtain ⟨t',ht',h⟩:=Option.bind_eq_some_iff.1 h;obtain ⟨s,hs0,h⟩:=Option.bind_eq_some_iff.1 h;unfold resAt at hs0;obtain ⟨o,ho,hs⟩:=Option.bind_eq_some_iff.1 hs0;clear hs0;have hmem:i∈Region.ready .any ops listed:=by rw [hready];exact List.mem_cons_self
       refine ⟨fun h0=>(by rw [hready] at h0;cases h0),fun i' hi'=>?_⟩;have:i'=i:=by rw [hready] at hi';simpa using hi'
       subst this;cases s with
       | e d e=>
         simp only [mkE,Option.some.injEq] at h;subst h;obtain ⟨he,hd,hgd,hdN⟩:=resS_e hs;exact effect i' o t' d e ho he hd hdN hmem ht' (by simp [Region.wanted,hgd]) hwp
       | ge s' b' d e=>
         simp only [mkE,Option.some.injEq] at h;subst h;obtain ⟨he,hd,⟨j,hgd,hsl⟩,hdN⟩:=resS_ge hs;obtain ⟨c,hcv,hy,hn⟩:=hwp;have hw:=wanted_of hgd hsl hg hcv;by_cases hcb:isB c b'=true
         · exact effect i' o t' d e ho he hd hdN hmem ht' (by rw [hw,hcb]) (hy hcb)
         · refine ⟨o,ho,?_⟩;rw [if_neg (by rw [hw];exact hcb)];subst hd;exact ⟨fun _ _=>rfl,ih _ t' _ _ _ rd ht' (hn (by simpa using hcb)) (hg.put _ undef hdN) (closed_set hc hmem) hrd⟩
       | r d r=>simp [mkE] at h
       | gr s b d r=>simp [mkE] at h
     · rename_i i j hready;obtain ⟨t1,ht1,h⟩:=Option.bind_eq_some_iff.1 h;obtain ⟨t2,ht2,h⟩:=Option.bind_eq_some_iff.1 h;obtain ⟨s1,hs1,h⟩:=Option.bind_eq_some_iff.1 h;obtain ⟨s2,hs2,h⟩:=Option.bind_eq_some_iff.1 h;unfold resAt at hs1 hs2;obtain ⟨o1,ho1,hs1'⟩:=Option.bind_eq_some_iff.1 hs1;obtain ⟨o2,ho2,hs2'⟩:=Option.bind_eq_some_iff.1 hs2;clear hs1 hs2;have hmem1:i∈Region.ready .any ops listed:=by rw [hready];exact List.mem_cons_self
       have hmem2:j∈Region.ready .any ops listed:=by rw [hready];exact List.mem_cons_of_mem _ List.mem_cons_self
       cases s1 with
       | e d e=>cases s2 with
         | e d' e'=>
           simp only [mkE2,Option.some.injEq] at h;subst h;obtain ⟨he1,hd1,hgd1,hdN1⟩:=resS_e hs1';obtain ⟨he2,hd2,hgd2,hdN2⟩:=resS_e hs2';refine ⟨fun h0=>(by rw [hready] at h0;cases h0),fun i' hi'=>?_⟩;rw [hready] at hi';have:i'=i∨i'=j:=by simpa using hi'
           rcases this with rfl | rfl
           · exact effect i' o1 t1 d e ho1 he1 hd1 hdN1 hmem1 ht1 (by simp [Region.wanted,hgd1]) hwp.1
           · exact effect i' o2 t2 d' e' ho2 he2 hd2 hdN2 hmem2 ht2 (by simp [Region.wanted,hgd2]) hwp.2
         | r d r=>simp [mkE2] at h
         | gr s b d r=>simp [mkE2] at h
         | ge s b d e=>simp [mkE2] at h
       | r d r=>cases s2<;>simp [mkE2] at h
       | gr s b d r=>cases s2<;>simp [mkE2] at h
       | ge s b d e=>cases s2<;>simp [mkE2] at h
     · cases h
def D.toS:D→Option (List S)
 | .nil=>some []
 | .r _ none dd q t=>t.toS.map (S.r dd q :: ·)
 | .r _ (some (s,b)) dd q t=>t.toS.map (S.gr s b dd q :: ·)
 | .e _ none dd q [] t=>t.toS.map (S.e dd q :: ·)
 | .e _ (some (s,b)) dd q [] t=>t.toS.map (S.ge s b dd q :: ·)
 | _=>none
theorem keptL_nil {w w':World}:∀ rd,keptL [] w w' rd:=by
 intro rd
 induction rd with
 | nil=>trivial
 | cons p rd ih=>exact ⟨fun h=>by simp [inL] at h,ih⟩
theorem toS_sound {K:Env→World→Prop}:∀ (t:D) (st:List S) (ρ:Env) (w:World) (rd:List (Nat×Nat)),t.toS=some st→wpS P st ρ w K→wpD P t ρ w rd K:=by
 intro t
 induction t with
 | nil=>intro st ρ w rd h hw;simp only [D.toS,Option.some.injEq] at h;subst h;exact hw
 | r i g d r t ih=>
   intro st ρ w rd h hw;cases g with
   | none=>
     simp only [D.toS] at h;obtain ⟨st',h1,rfl⟩:=Option.map_eq_some_iff.1 h;obtain ⟨v,hv,hk⟩:=hw;exact ⟨v,hv,ih _ _ _ _ h1 hk⟩
   | some g=>
     obtain ⟨s,b⟩:=g;simp only [D.toS] at h;obtain ⟨st',h1,rfl⟩:=Option.map_eq_some_iff.1 h;obtain ⟨c,hc,hy,hn⟩:=hw;exact ⟨c,hc,fun e=>let ⟨v,hv,hk⟩:=hy e;⟨v,hv,ih _ _ _ _ h1 hk⟩,fun e=>ih _ _ _ _ h1 (hn e)⟩
 | e i g d e fl t ih=>
   intro st ρ w rd h hw;cases fl with
   | cons x xs=>cases g with
     | none=>simp [D.toS] at h
     | some g=>obtain ⟨s,b⟩:=g;simp [D.toS] at h
   | nil=>
     cases g with
     | none=>
       simp only [D.toS] at h;obtain ⟨st',h1,rfl⟩:=Option.map_eq_some_iff.1 h;exact E.mono (fun v w' hk=>⟨keptL_nil rd,ih _ _ _ _ h1 hk⟩) e hw
     | some g=>
       obtain ⟨s,b⟩:=g;simp only [D.toS] at h;obtain ⟨st',h1,rfl⟩:=Option.map_eq_some_iff.1 h;obtain ⟨c,hc,hy,hn⟩:=hw;exact ⟨c,hc,fun e'=>E.mono (fun v w' hk=>⟨keptL_nil rd,ih _ _ _ _ h1 hk⟩) e (hy e'),fun e'=>ih _ _ _ _ h1 (hn e')⟩
 | e2=>intro st ρ w rd h hw;simp [D.toS] at h
theorem region_draw {id:Nat} {pm:List Nat} {Q:Exit→Act→World→Prop} {K:Env→World→Prop} {t:D} {ρ:Env} {a:Act} {w:World} (hm:P.follows .mixedOrders=true) (hpm:pmOk ops pm=true)
   (hsel:Region.noSelect ops=true) (ht:resD P N ops pm ops.size (Array.replicate ops.size false)=some t) (h:wpD P t ρ w.drew [] K) (hg:Good dl N ρ a)
   (hQ:∀ ρ' a' w',Good dl N ρ' a'→K ρ' w'→Q .normal a' w'):(Code.region id ops true).wp P Q a w:=by
 refine wp_region_any hm (wpAny_of_B (B:=Brd pm []) (Q:=GoodK dl N K) (fun a' w' ⟨ρ',h1,h2⟩=>hQ ρ' a' w' h1 h2) _ _ _ _ ?_);refine resD_sound hpm hsel _ _ t ρ a w.drew [] ht h hg ?_ (fun _ _ h=>by cases h);intro j oj _ hl;have:(Array.replicate ops.size false).getD j false=false:=by
   rcases Nat.lt_or_ge j ops.size with h | h
   · simp [h]
   · simp [h]
 rw [this] at hl;cases hl
end
end
section
open Go
variable {dl:List Deferred}
def oT:O→List Nat
 | .t n=>[n]
 | .c _=>[]
def ooT:Option O→List Nat
 | some x=>oT x
 | none=>[]
def lT (l:List O):List Nat:=l.flatMap oT
def pT (l:List (Nat×Nat×O)):List Nat:=l.flatMap fun p=>oT p.2.2
def R.tmps:R→List Nat
 | .mv x=>oT x
 | .nn x=>oT x
 | .fa _ x=>oT x
 | .l1 x=>oT x
 | .ln _ x=>oT x
 | .bi _ x y=>oT x++oT y
 | .eq _ _ x y=>oT x++oT y
 | .no x=>oT x
 | .ng x=>oT x
 | .cv _ x=>oT x
 | .len x=>oT x
 | .lns x=>oT x
 | .lnm x=>oT x
 | .cap x=>oT x
 | .ia _ s i=>oT s++oT i
 | .ixs s i=>oT s++oT i
 | .fl _ x=>oT x
 | .fln _ _ x=>oT x
 | .sl _ x lo hi mx=>oT x++ooT lo++ooT hi++ooT mx
 | .sls x lo hi=>oT x++ooT lo++ooT hi
 | .bd _ ps=>pT ps
 | .pk c a b=>oT c++oT a++oT b
 | .ex _ x=>oT x
 | .mi _ x=>oT x
 | .mm _ x y=>oT x++oT y
 | .eqa _ _ x y=>oT x++oT y
 | .mf _ f c=>lT f++lT c
def E.tmps:E→Option (List Nat)
 | .st _ x v=>some (oT x++oT v)
 | .bx _ x=>some (oT x)
 | .al _ _=>some []
 | .bs _ _ _ ps=>some (pT ps)
 | .ms _ _ _ _ l c=>some (oT l++oT c)
 | .ap _ _ _ _ s x=>some (oT s++oT x)
 | .cp _ d s=>some (oT d++oT s)
 | .call _ args=>some (lT args)
 | .raw _=>none
def look (s:List (Nat×O)) (t:Nat):O:=
 match s with
 | []=>.t t
 | (d,o)::r=>if d=t then o else look r t
def O.sub (s:List (Nat×O)):O→O
 | .t n=>look s n
 | .c v=>.c v
def oSub (s:List (Nat×O)) (x:Option O):Option O:=x.map (O.sub s)
def pSub (s:List (Nat×O)) (l:List (Nat×Nat×O)):List (Nat×Nat×O):=l.map fun p=>(p.1,p.2.1,p.2.2.sub s)
def R.sub (s:List (Nat×O)):R→R
 | .mv x=>.mv (x.sub s)
 | .nn x=>.nn (x.sub s)
 | .fa o x=>.fa o (x.sub s)
 | .l1 x=>.l1 (x.sub s)
 | .ln n x=>.ln n (x.sub s)
 | .bi op x y=>.bi op (x.sub s) (y.sub s)
 | .eq k n x y=>.eq k n (x.sub s) (y.sub s)
 | .no x=>.no (x.sub s)
 | .ng x=>.ng (x.sub s)
 | .cv k x=>.cv k (x.sub s)
 | .len x=>.len (x.sub s)
 | .lns x=>.lns (x.sub s)
 | .lnm x=>.lnm (x.sub s)
 | .cap x=>.cap (x.sub s)
 | .ia sz a i=>.ia sz (a.sub s) (i.sub s)
 | .ixs a i=>.ixs (a.sub s) (i.sub s)
 | .fl o x=>.fl o (x.sub s)
 | .fln o n x=>.fln o n (x.sub s)
 | .sl sz x lo hi mx=>.sl sz (x.sub s) (oSub s lo) (oSub s hi) (oSub s mx)
 | .sls x lo hi=>.sls (x.sub s) (oSub s lo) (oSub s hi)
 | .bd z ps=>.bd z (pSub s ps)
 | .pk c a b=>.pk (c.sub s) (a.sub s) (b.sub s)
 | .ex i x=>.ex i (x.sub s)
 | .mi t x=>.mi t (x.sub s)
 | .mm m x y=>.mm m (x.sub s) (y.sub s)
 | .eqa n f x y=>.eqa n f (x.sub s) (y.sub s)
 | .mf fn f c=>.mf fn (f.map (O.sub s)) (c.map (O.sub s))
def E.sub (s:List (Nat×O)):E→E
 | .st n x v=>.st n (x.sub s) (v.sub s)
 | .bx t x=>.bx t (x.sub s)
 | .al t z=>.al t z
 | .bs el n c ps=>.bs el n c (pSub s ps)
 | .ms el sz b z l c=>.ms el sz b z (l.sub s) (c.sub s)
 | .ap el sz b z a x=>.ap el sz b z (a.sub s) (x.sub s)
 | .cp sz d a=>.cp sz (d.sub s) (a.sub s)
 | .call f args=>.call f (args.map (O.sub s))
 | .raw o=>.raw o
section
variable {ρ ρ':Env} {s:List (Nat×O)}
theorem sub_ev {x:O} (h:∀ t∈oT x,ρ.get t=(look s t).ev ρ'):x.ev ρ=(x.sub s).ev ρ':=by
 cases x with
 | t n=>exact h n (by simp [oT])
 | c v=>rfl
theorem oSub_ev {x:Option O} (h:∀ t∈ooT x,ρ.get t=(look s t).ev ρ'):oev ρ x=oev ρ' (oSub s x):=by
 cases x with
 | none=>rfl
 | some x=>simp only [oSub,Option.map_some,oev,sub_ev (x:=x) h]
theorem lSub_ev:∀ {l:List O},(∀ t∈lT l,ρ.get t=(look s t).ev ρ')→evs ρ l=evs ρ' (l.map (O.sub s))
 | [],_=>rfl
 | x::l,h=>by
   have h1:∀ t∈oT x,ρ.get t=(look s t).ev ρ':=fun t ht=>h t (by simp [lT,ht])
   have h2:∀ t∈lT l,ρ.get t=(look s t).ev ρ':=fun t ht=>h t (by simp only [lT,List.flatMap_cons,List.mem_append];exact .inr ht)
   simp only [evs,List.map_cons,sub_ev h1,lSub_ev h2]
theorem pSub_ev:∀ {l:List (Nat×Nat×O)},(∀ t∈pT l,ρ.get t=(look s t).ev ρ')→pev ρ l=pev ρ' (pSub s l)
 | [],_=>rfl
 | (a,b,x)::l,h=>by
   have h1:∀ t∈oT x,ρ.get t=(look s t).ev ρ':=fun t ht=>h t (by simp [pT,ht])
   have h2:∀ t∈pT l,ρ.get t=(look s t).ev ρ':=fun t ht=>h t (by simp only [pT,List.flatMap_cons,List.mem_append];exact .inr ht)
   have h3:=pSub_ev h2;simp only [pSub] at h3;simp only [pev,pSub,List.map_cons,sub_ev h1,h3]
theorem inl {l m:List Nat} (h:∀ t∈l++m,ρ.get t=(look s t).ev ρ'):∀ t∈l,ρ.get t=(look s t).ev ρ':=fun t ht=>h t (List.mem_append_left _ ht)
theorem inr {l m:List Nat} (h:∀ t∈l++m,ρ.get t=(look s t).ev ρ'):∀ t∈m,ρ.get t=(look s t).ev ρ':=fun t ht=>h t (List.mem_append_right _ ht)
theorem rSub_ev {w:World} (r:R) (h:∀ t∈r.tmps,ρ.get t=(look s t).ev ρ'):r.ev w ρ=(r.sub s).ev w ρ':=by
 cases r with
 | mv x=>simp only [R.ev,R.sub,sub_ev (x:=x) h]
 | nn x=>simp only [R.ev,R.sub,sub_ev (x:=x) h]
 | fa o x=>simp only [R.ev,R.sub,sub_ev (x:=x) h]
 | l1 x=>simp only [R.ev,R.sub,sub_ev (x:=x) h]
 | ln n x=>simp only [R.ev,R.sub,sub_ev (x:=x) h]
 | bi op x y=>simp only [R.ev,R.sub,sub_ev (x:=x) (inl h),sub_ev (x:=y) (inr h)]
 | eq k n x y=>simp only [R.ev,R.sub,sub_ev (x:=x) (inl h),sub_ev (x:=y) (inr h)]
 | no x=>simp only [R.ev,R.sub,sub_ev (x:=x) h]
 | ng x=>simp only [R.ev,R.sub,sub_ev (x:=x) h]
 | cv k x=>simp only [R.ev,R.sub,sub_ev (x:=x) h]
 | len x=>simp only [R.ev,R.sub,sub_ev (x:=x) h]
 | lns x=>simp only [R.ev,R.sub,sub_ev (x:=x) h]
 | lnm x=>simp only [R.ev,R.sub,sub_ev (x:=x) h]
 | cap x=>simp only [R.ev,R.sub,sub_ev (x:=x) h]
 | ia sz a i=>simp only [R.ev,R.sub,sub_ev (x:=a) (inl h),sub_ev (x:=i) (inr h)]
 | ixs a i=>simp only [R.ev,R.sub,sub_ev (x:=a) (inl h),sub_ev (x:=i) (inr h)]
 | fl o x=>simp only [R.ev,R.sub,sub_ev (x:=x) h]
 | fln o n x=>simp only [R.ev,R.sub,sub_ev (x:=x) h]
 | sl sz x lo hi mx=>simp only [R.ev,R.sub,sub_ev (x:=x) (inl (inl (inl h))),oSub_ev (x:=lo) (inr (inl (inl h))),oSub_ev (x:=hi) (inr (inl h)),oSub_ev (x:=mx) (inr h)]
 | sls x lo hi=>simp only [R.ev,R.sub,sub_ev (x:=x) (inl (inl h)),oSub_ev (x:=lo) (inr (inl h)),oSub_ev (x:=hi) (inr h)]
 | bd z ps=>simp only [R.ev,R.sub,pSub_ev (l:=ps) h]
 | pk c a b=>simp only [R.ev,R.sub,sub_ev (x:=c) (inl (inl h)),sub_ev (x:=a) (inr (inl h)),sub_ev (x:=b) (inr h)]
 | ex i x=>simp only [R.ev,R.sub,sub_ev (x:=x) h]
 | mi t x=>simp only [R.ev,R.sub,sub_ev (x:=x) h]
 | mm m x y=>simp only [R.ev,R.sub,sub_ev (x:=x) (inl h),sub_ev (x:=y) (inr h)]
 | eqa n f x y=>simp only [R.ev,R.sub,sub_ev (x:=x) (inl h),sub_ev (x:=y) (inr h)]
 | mf fn f c=>simp only [R.ev,R.sub,lSub_ev (l:=f) (inl h),lSub_ev (l:=c) (inr h)]
theorem eSub_wp {P:Program} {w:World} {K:Value→World→Prop} (e:E) (ts:List Nat) (he:e.tmps=some ts) (h:∀ t∈ts,ρ.get t=(look s t).ev ρ'):e.wp P w ρ K↔(e.sub s).wp P w ρ' K:=by
 cases e with
 | st n x v=>cases he;simp only [E.wp,E.sub,sub_ev (x:=x) (inl h),sub_ev (x:=v) (inr h)]
 | bx t x=>cases he;simp only [E.wp,E.sub,sub_ev (x:=x) h]
 | al t z=>exact Iff.rfl
 | bs el n c ps=>cases he;simp only [E.wp,E.sub,pSub_ev (l:=ps) h]
 | ms el sz b z l c=>cases he;simp only [E.wp,E.sub,sub_ev (x:=l) (inl h),sub_ev (x:=c) (inr h)]
 | ap el sz b z a x=>cases he;simp only [E.wp,E.sub,sub_ev (x:=a) (inl h),sub_ev (x:=x) (inr h)]
 | cp sz d a=>cases he;simp only [E.wp,E.sub,sub_ev (x:=d) (inl h),sub_ev (x:=a) (inr h)]
 | call f args=>cases he;simp only [E.wp,E.sub,lSub_ev (l:=args) h]
 | raw o=>cases he
end
def S.tmps:S→Option (List Nat)
 | .r _ q=>some q.tmps
 | .e _ q=>q.tmps
 | .gr s _ _ q=>some (s::q.tmps)
 | .ge s _ _ q=>q.tmps.map (s :: ·)
def sT (s:S):List Nat:=s.tmps.getD []
def alive (l:List S) (kp:List Nat) (t:Nat):Bool:=kp.contains t||l.any fun s=>(sT s).contains t
def S.dst:S→Option Nat
 | .r d _=>d
 | .e d _=>d
 | .gr _ _ d _=>d
 | .ge _ _ d _=>d
def S.sub (m:List (Nat×O)):S→Option S
 | .r d q=>some (.r d (q.sub m))
 | .e d q=>some (.e d (q.sub m))
 | .gr s b d q=>match look m s with
   | .t s'=>some (.gr s' b d (q.sub m))
   | .c _=>none
 | .ge s b d q=>match look m s with
   | .t s'=>some (.ge s' b d (q.sub m))
   | .c _=>none
def killOk (l:List S) (kp:List Nat) (d:Nat) (m:List (Nat×O)):Bool:=m.all fun p=>match p.2 with
 | .t n=>n != d || !(alive l kp p.1)
 | .c _=>true
def kill (d:Nat) (m:List (Nat×O)):List (Nat×O):=m.filter fun p=>p.1 != d
def killD (l:List S) (kp:List Nat):Option Nat→List (Nat×O)→Option (List (Nat×O))
 | none,m=>some m
 | some d,m=>if killOk l kp d m then some (kill d m) else none
def mvOf:S→Option (Nat×O)
 | .r (some d) (.mv x)=>some (d,x)
 | _=>none
def oLt (N:Nat):O→Bool
 | .t n=>decide (n < N)
 | .c _=>true
def notSelf (d:Nat):O→Bool
 | .t n=>n != d
 | .c _=>true
def cpL (N:Nat) (kp:List Nat):List (Nat×O)→List S→Option (List S)
 | m,[]=>if m.all fun p=>!(kp.contains p.1) then some [] else none
 | m,s::l=>
   if s.tmps.isNone then none else
   match mvOf s with
   | some (d,x)=>
     if !(kp.contains d)&&oLt N x&&notSelf d (x.sub m) then (killD l kp (some d) m).bind fun m'=>cpL N kp ((d,x.sub m)::m') l
     else (s.sub m).bind fun s'=>(killD l kp s.dst m).bind fun m'=>(cpL N kp m' l).map (s' :: ·)
   | none=>(s.sub m).bind fun s'=>(killD l kp s.dst m).bind fun m'=>(cpL N kp m' l).map (s' :: ·)
section
variable {P:Program} {N:Nat} {ops:Array Oper}
theorem look_kill {d:Nat} {m:List (Nat×O)} {t:Nat} (ht:t≠d):look (kill d m) t=look m t:=by
 induction m with
 | nil=>rfl
 | cons p m ih=>
   obtain ⟨e,o⟩:=p;unfold kill at ih ⊢;rw [List.filter_cons];by_cases he:e=d
   · subst he;simp only [bne_self_eq_false,Bool.false_eq_true,if_false];rw [ih];simp only [look,if_neg (fun h:e=t=>ht h.symm)]
   · simp only [bne_iff_ne,ne_eq,he,not_false_eq_true,if_true,look]
     split
     · rfl
     · exact ih
theorem look_kill_self {d:Nat} {m:List (Nat×O)}:look (kill d m) d = .t d:=by
 induction m with
 | nil=>rfl
 | cons p m ih=>
   obtain ⟨e,o⟩:=p;unfold kill at ih ⊢;rw [List.filter_cons];by_cases he:e=d
   · subst he
     simpa using ih
   · simp only [bne_iff_ne,ne_eq,he,not_false_eq_true,if_true,look,if_neg he];exact ih
theorem killOk_look {l:List S} {kp:List Nat} {d:Nat} {m:List (Nat×O)} (h:killOk l kp d m=true) {t:Nat} (ht:alive l kp t=true) (hne:t≠d):look m t≠.t d:=by
 induction m with
 | nil=>simp only [look];intro hh;cases hh;exact hne rfl
 | cons p m ih=>
   obtain ⟨e,o⟩:=p;simp only [killOk,List.all_cons,Bool.and_eq_true] at h;simp only [look]
   split
   · rename_i he;subst he;cases o with
     | c v=>intro hh;cases hh
     | t n=>
       intro hh;cases hh;simp [ht] at h
   · exact ih (by simpa [killOk] using h.2)
def Cp (l:List S) (kp:List Nat) (m:List (Nat×O)) (ρ ρ':Env):Prop:=∀ t,alive l kp t=true→ρ.get t=(look m t).ev ρ'
theorem alive_tail {s:S} {l:List S} {kp:List Nat} {t:Nat} (h:alive l kp t=true):alive (s::l) kp t=true:=by
 simp only [alive,List.any_cons,Bool.or_eq_true] at h ⊢;rcases h with h | h
 · exact .inl h
 · exact .inr (.inr h)
theorem alive_head {s:S} {l:List S} {kp:List Nat} {t:Nat} (h:t∈sT s):alive (s::l) kp t=true:=by
 simp [alive,h]
theorem get_put_ne {ρ:Env} {d t:Nat} {v:Value} (h:t≠d):(ρ.put (some d) v).get t=ρ.get t:=by
 simp only [Env.put,Env.get,if_neg (fun hh:d=t=>h hh.symm)]
theorem get_put_eq {ρ:Env} {d:Nat} {v:Value}:(ρ.put (some d) v).get d=some v:=by simp [Env.put,Env.get]
theorem cp_put {s:S} {l:List S} {kp:List Nat} {m m':List (Nat×O)} {ρ ρ':Env} (h:Cp (s::l) kp m ρ ρ') {d:Option Nat} (hk:killD l kp d m=some m') (v:Value):Cp l kp m' (ρ.put d v) (ρ'.put d v):=by
 intro t ht;cases d with
 | none=>
   simp only [killD,Option.some.injEq] at hk;subst hk;exact h t (alive_tail ht)
 | some d=>
   simp only [killD] at hk
   split at hk
   · rename_i hko;simp only [Option.some.injEq] at hk;subst hk;by_cases htd:t=d
     · subst htd;rw [look_kill_self,get_put_eq];exact get_put_eq.symm
     · rw [get_put_ne htd,look_kill htd,h t (alive_tail ht)];have:=killOk_look hko ht htd;cases hl:look m t with
       | c v=>rfl
       | t n=>
         rw [hl] at this;have hn:n≠d:=fun hh=>this (by rw [hh])
         exact (get_put_ne hn).symm
   · cases hk
def Env.del (ρ:Env) (d:Nat):Env:=ρ.filter fun p=>p.1 != d
theorem get_del {ρ:Env} {d t:Nat}:(ρ.del d).get t=if t=d then none else ρ.get t:=by
 induction ρ with
 | nil=>simp [Env.del,Env.get]
 | cons p ρ ih=>
   obtain ⟨e,v⟩:=p;unfold Env.del at ih ⊢;rw [List.filter_cons];by_cases he:e=d
   · subst he;simp only [bne_self_eq_false,Bool.false_eq_true,if_false];rw [ih];by_cases ht:t=e
     · simp [ht]
     · simp only [if_neg ht,Env.get,if_neg (fun hh:e=t=>ht hh.symm)]
   · simp only [bne_iff_ne,ne_eq,he,not_false_eq_true,if_true,Env.get];by_cases het:e=t
     · subst het;simp [he]
     · simp only [het,if_false];exact ih
theorem good_del {ρ:Env} {a:Act} (h:Good dl N ρ a) {d:Nat} (hd:d < N) (v:Value):Good dl N (ρ.del d) (a.put (some d) v):=by
 have h1:=h.put (some d) v (fun t ht=>by cases ht;exact hd);refine ⟨h1.size,h1.defers,fun t u hu=>?_⟩;rw [get_del] at hu
 split at hu
 · cases hu
 · rename_i hne;exact h1.get t u (by rw [get_put_ne hne];exact hu)
theorem keep_eq {ρ ρ':Env}:∀ {kp:List Nat},(∀ t∈kp,ρ.get t=ρ'.get t)→ρ.keep kp=ρ'.keep kp
 | [],_=>rfl
 | t::kp,h=>by
   have h1:=h t (by simp);have h2:=keep_eq (kp:=kp) (fun t ht=>h t (by simp [ht]));simp only [Env.keep,h1,h2]
theorem look_none {m:List (Nat×O)} {t:Nat} (h:∀ p∈m,p.1≠t):look m t = .t t:=by
 induction m with
 | nil=>rfl
 | cons p m ih=>
   obtain ⟨e,o⟩:=p;simp only [look];rw [if_neg (h (e,o) (by simp)),ih (fun p hp=>h p (by simp [hp]))]
theorem mv_wp {o:Oper} {x:O} (hr:res P o.op=some (.mv x)) {ρ:Env} {a:Act} {w:World} (hg:Good dl N ρ a) (hx:oLt N x=true):∃ v,(∀ u,x.ev ρ=some u→u=v)∧o.wp P a w (fun a' w'=>a'=a.put o.dst v∧w'=w) NoQ:=by
 cases x with
 | c v=>
   refine ⟨v,fun u hu=>(by cases hu;rfl),?_⟩;refine Oper.wp_mono ?_ (opWp_of_ro (K:=fun v' w'=>v'=v∧w'=w) hr (v:=v) rfl ⟨rfl,rfl⟩ a hg.agree);rintro a' w' ⟨v',rfl,rfl,rfl⟩;exact ⟨rfl,rfl⟩
 | t n=>
   have hn:n < a.tmps.size:=by rw [hg.size];simpa [oLt] using hx
   obtain ⟨v,hv⟩:∃ v,a.tmps[n]? = some v:=⟨a.tmps[n],by simp [hn]⟩
   have hg2:Good dl N ((n,v)::ρ) a:=⟨hg.size,hg.defers,fun t u hu=>by
     simp only [Env.get] at hu
     split at hu
     · rename_i hh;subst hh;rw [hv];exact hu
     · exact hg.get t u hu⟩
   have hev:(R.mv (O.t n)).ev w ((n,v)::ρ)=some v:=by simp [R.ev,O.ev,Env.get]
   refine ⟨v,fun u hu=>?_,?_⟩
   · have:=hg.get n u hu;rw [hv] at this;exact (Option.some.inj this).symm
   · refine Oper.wp_mono ?_ (opWp_of_ro (K:=fun v' w'=>v'=v∧w'=w) hr (v:=v) hev ⟨rfl,rfl⟩ a hg2.agree);rintro a' w' ⟨v',rfl,rfl,rfl⟩;exact ⟨rfl,rfl⟩
theorem mvOf_eq {s:S} {d:Nat} {x:O} (h:mvOf s=some (d,x)):s = .r (some d) (.mv x):=by
 unfold mvOf at h
 split at h
 · cases h;rfl
 · cases h
theorem cpL_sound {kp:List Nat} {G:Act→World→Prop} {K:Env→World→Prop}:∀ (l:List Oper) (st st':List S) (m:List (Nat×O)) (ρ ρ':Env) (a:Act) (w:World),resAll P N ops l=some st→cpL N kp m st=some st' →
   wpS P st' ρ' w (fun ρ w=>K (ρ.keep kp) w)→Good dl N ρ a→Cp st kp m ρ ρ'→(∀ ρ' a' w',Good dl N ρ' a'→K (ρ'.keep kp) w'→G a' w')→gList P ops G l a w:=by
 intro l
 induction l with
 | nil=>
   intro st st' m ρ ρ' a w h1 hc h2 h3 hC h4;simp only [resAll,Option.some.injEq] at h1;subst h1;simp only [cpL] at hc
   split at hc
   · rename_i hk;simp only [Option.some.injEq] at hc;subst hc
     have hkeep:ρ.keep kp=ρ'.keep kp:=keep_eq (fun t ht=>by
       have:=hC t (by simp [alive,ht])
       rw [look_none (fun p hp hh=>by
         have:=List.all_eq_true.1 hk p hp
         simp [hh,ht] at this)] at this
       exact this)
     refine h4 _ _ _ h3 ?_;rw [hkeep];exact h2
   · cases hc
 | cons o l ih=>
   intro st st' m ρ ρ' a w h1 hc h2 h3 hC h4;simp only [resAll] at h1
   split at h1
   · rename_i s t hs ht;simp only [Option.some.injEq] at h1;subst h1;simp only [cpL] at hc
     split at hc
     · cases hc
     rename_i hsome;obtain ⟨ts,hts⟩:∃ ts,s.tmps=some ts:=by
       cases hh:s.tmps with
       | none=>simp [hh] at hsome
       | some ts=>exact ⟨ts,rfl⟩
     have hread:∀ x∈ts,ρ.get x=(look m x).ev ρ':=fun x hx=>hC x (alive_head (by simp [sT,hts,hx]))
     have plain:((s.sub m).bind fun s'=>(killD t kp s.dst m).bind fun m'=>(cpL N kp m' t).map (s' :: ·))=some st'→gList P ops G (o::l) a w:=by
       intro hc;obtain ⟨s',hs',hc⟩:=Option.bind_eq_some_iff.1 hc;obtain ⟨m',hm',hc⟩:=Option.bind_eq_some_iff.1 hc;obtain ⟨t',ht',hc⟩:=Option.map_eq_some_iff.1 hc;subst hc;unfold resS at hs
       split at hs
       · rename_i hd;have hd':=dstOk_spec hd
         split at hs
         · rename_i hg;have hw:Region.wanted o (yielded ops a.tmps)=true:=by simp [Region.wanted,hg]
           unfold gList;rw [if_pos hw]
           split at hs
           · rename_i r hr;simp only [Option.some.injEq] at hs;subst hs;simp only [S.sub,Option.some.injEq] at hs';subst hs';simp only [S.tmps,Option.some.injEq] at hts;subst hts;obtain ⟨v,hv,hk⟩:=h2;rw [← rSub_ev r hread] at hv;refine Oper.wp_mono ?_ (opWp_of_ro (K:=fun v' w'=>v'=v∧w'=w) hr hv ⟨rfl,rfl⟩ a h3.agree);rintro a' w' ⟨v',rfl,rfl,rfl⟩;exact ih t t' m' _ _ _ _ ht ht' hk (h3.put _ _ hd') (cp_put hC hm' _) h4
           · simp only [Option.some.injEq] at hs;subst hs;simp only [S.sub,Option.some.injEq] at hs';subst hs';simp only [S.tmps] at hts;have h2':=(eSub_wp _ ts hts hread).2 h2;refine Oper.wp_mono ?_ (resE_sound h2' a h3.agree);rintro a' w' ⟨v',rfl,hk⟩;exact ih t t' m' _ _ _ _ ht ht' hk (h3.put _ _ hd') (cp_put hC hm' _) h4
         · rename_i j want hg
           split at hs
           · rename_i sj hsj
             split at hs
             · rename_i r hr;simp only [Option.some.injEq] at hs;subst hs;simp only [S.tmps,Option.some.injEq] at hts;subst hts;simp only [S.sub] at hs'
               split at hs'
               · rename_i s2 hlook;simp only [Option.some.injEq] at hs';subst hs';obtain ⟨c,hc,hy,hn⟩:=h2;have hc':ρ.get sj=some c:=by rw [hread sj (by simp),hlook];exact hc
                 have hw:=wanted_of hg hsj h3 hc';unfold gList;by_cases hcw:isB c want=true
                 · rw [if_pos (by rw [hw,hcw])];obtain ⟨v,hv,hk⟩:=hy hcw;rw [← rSub_ev r (fun x hx=>hread x (by simp [hx]))] at hv;refine Oper.wp_mono ?_ (opWp_of_ro (K:=fun v' w'=>v'=v∧w'=w) hr hv ⟨rfl,rfl⟩ a h3.agree);rintro a' w' ⟨v',rfl,rfl,rfl⟩;exact ih t t' m' _ _ _ _ ht ht' hk (h3.put _ _ hd') (cp_put hC hm' _) h4
                 · rw [if_neg (by rw [hw];exact hcw)];exact ih t t' m' _ _ _ _ ht ht' (hn (by simpa using hcw)) (h3.put _ _ hd') (cp_put hC hm' _) h4
               · cases hs'
             · simp only [Option.some.injEq] at hs;subst hs;simp only [S.tmps,Option.map_eq_some_iff] at hts;obtain ⟨te,hte,hts⟩:=hts;subst hts;simp only [S.sub] at hs'
               split at hs'
               · rename_i s2 hlook;simp only [Option.some.injEq] at hs';subst hs';obtain ⟨c,hc,hy,hn⟩:=h2;have hc':ρ.get sj=some c:=by rw [hread sj (by simp),hlook];exact hc
                 have hw:=wanted_of hg hsj h3 hc';unfold gList;by_cases hcw:isB c want=true
                 · rw [if_pos (by rw [hw,hcw])];have h2':=(eSub_wp _ te hte (fun x hx=>hread x (by simp [hx]))).2 (hy hcw);refine Oper.wp_mono ?_ (resE_sound h2' a h3.agree);rintro a' w' ⟨v',rfl,hk⟩;exact ih t t' m' _ _ _ _ ht ht' hk (h3.put _ _ hd') (cp_put hC hm' _) h4
                 · rw [if_neg (by rw [hw];exact hcw)];exact ih t t' m' _ _ _ _ ht ht' (hn (by simpa using hcw)) (h3.put _ _ hd') (cp_put hC hm' _) h4
               · cases hs'
           · cases hs
       · cases hs
     split at hc
     · rename_i d x hmv;have hsd:=mvOf_eq hmv;subst hsd
       split at hc
       · rename_i hcond;simp only [Bool.and_eq_true,Bool.not_eq_true'] at hcond;obtain ⟨⟨hkp,hlt⟩,hns⟩:=hcond;obtain ⟨m',hm',hc⟩:=Option.bind_eq_some_iff.1 hc;obtain ⟨hr,hdst,hg,hN⟩:=resS_r hs;have hw:Region.wanted o (yielded ops a.tmps)=true:=by simp [Region.wanted,hg]
         unfold gList;rw [if_pos hw];obtain ⟨v,hv,hwp⟩:=mv_wp (w:=w) hr h3 hlt;refine Oper.wp_mono ?_ hwp;rintro a' w' ⟨rfl,rfl⟩;rw [← hdst];simp only [S.tmps,Option.some.injEq] at hts;subst hts;have hev:x.ev ρ=(x.sub m).ev ρ':=sub_ev hread;have hdN:=hN d rfl;have key:∃ ρ2,Good dl N ρ2 (a.put (some d) v)∧ρ2.get d=x.ev ρ∧∀ t,t≠d→ρ2.get t=ρ.get t:=by
           cases hx:x.ev ρ with
           | none=>exact ⟨ρ.del d,good_del h3 hdN v,by rw [get_del,if_pos rfl],fun t ht=>by rw [get_del,if_neg ht]⟩
           | some u=>
             obtain rfl:=hv u hx;exact ⟨ρ.put (some d) u,h3.put _ _ (fun t ht=>by cases ht;exact hdN),get_put_eq,fun t ht=>get_put_ne ht⟩
         obtain ⟨ρ2,g1,g2,g3⟩:=key;refine ih t st' _ ρ2 ρ' _ _ ht hc h2 g1 ?_ h4;intro y hy;simp only [killD] at hm'
         split at hm'
         · rename_i hko;simp only [Option.some.injEq] at hm';subst hm';by_cases hyd:y=d
           · subst hyd;simp only [look,if_pos];rw [g2,hev]
           · simp only [look,if_neg (fun h:d=y=>hyd h.symm)];rw [g3 y hyd,look_kill hyd];exact hC y (alive_tail hy)
         · cases hm'
       · exact plain hc
     · exact plain hc
   · cases h1
end
end
section
open Go
variable {dl:List Deferred}
inductive IR where
 | skip
 | ret
 | exit (id:Nat)
 | seq (a b:IR)
 | cond (c:O) (a b:IR)
 | block (id:Nat) (a:IR)
 | loop (a:IR)
 | reg (dw:Bool) (st:List S) (kp:List Nat)
 | dr (t:D) (kp:List Nat)
 | raw (c:Code)
 deriving Inhabited
abbrev Post:=Exit→Env→World→Prop
def thenQ (next:Env→World→Prop) (Q:Post):Post
 | .normal,ρ,w=>next ρ w
 | e,ρ,w=>Q e ρ w
def blkQ (id:Nat) (Q:Post):Post
 | .exit id',ρ,w=>if id'=id then Q .normal ρ w else Q (.exit id') ρ w
 | e,ρ,w=>Q e ρ w
def liftQ (dl:List Deferred) (N:Nat) (Q:Post):Exit→Act→World→Prop:=fun e a w=>∃ ρ,Good dl N ρ a∧Q e ρ w
def irwp (P:Program) (N:Nat):IR→Post→Env→World→Prop
 | .skip,Q,ρ,w=>Q .normal ρ w
 | .ret,Q,ρ,w=>Q .ret ρ w
 | .exit id,Q,ρ,w=>Q (.exit id) ρ w
 | .seq a b,Q,ρ,w=>irwp P N a (thenQ (irwp P N b Q) Q) ρ w
 | .cond c a b,Q,ρ,w=>∃ t,c.ev ρ=some (.bool t)∧(t=true→irwp P N a Q ρ w)∧(t=false→irwp P N b Q ρ w)
 | .block id a,Q,ρ,w=>irwp P N a (blkQ id Q) ρ w
 | .loop a,Q,ρ,w=>∃ (I:Nat→Env→World→Prop) (n:Nat),I n ρ w∧∀ n ρ w,I n ρ w→irwp P N a (thenQ (fun ρ' w'=>∃ m,m < n∧I m ρ' w') Q) ρ w
 | .reg dw st kp,Q,ρ,w=>wpS P st ρ (if dw then w.drew else w) fun ρ w=>Q .normal (ρ.keep kp) w
 | .dr t kp,Q,ρ,w=>wpD P t ρ w.drew [] fun ρ w=>Q .normal (ρ.keep kp) w
 | .raw c,Q,ρ,w=>∀ dl a,Good dl N ρ a→c.wp P (liftQ dl N Q) a w
def find3 (id:Nat):List (Nat×List Nat×List Nat)→Option (List Nat×List Nat)
 | []=>none
 | (i,x)::r=>if i == id then some x else find3 id r
def decompR (P:Program) (N:Nat) (id:Nat) (ops:Array Oper) (draw:Bool) (kp pm:List Nat):Option IR:=
 if draw then
   if Region.noSelect ops&&pmOk ops pm&&P.follows .mixedOrders then
     match resD P N ops pm ops.size (Array.replicate ops.size false) with
     | some t=>match t.toS with
       | some st=>some (.reg true st kp)
       | none=>some (.dr t kp)
     | none=>some (.raw (.region id ops draw))
   else some (.raw (.region id ops draw))
 else (resAll P N ops ops.toList).map fun st=>.reg false ((cpL N kp [] st).getD st) kp
def decomp (P:Program) (N:Nat) (H:List (Nat×List Nat×List Nat)):Code→Option IR
 | .skip=>some .skip
 | .ret=>some .ret
 | .exit id=>some (.exit id)
 | .seq a b=>(decomp P N H a).bind fun x=>(decomp P N H b).map (.seq x)
 | .cond c a b=>(decomp P N H a).bind fun x=>(decomp P N H b).map (.cond (toO c) x)
 | .block id a=>(decomp P N H a).map (.block id)
 | .loop a=>(decomp P N H a).map .loop
 | .region id ops draw=>(find3 id H).bind fun x=>decompR P N id ops draw x.1 x.2
 | c=>some (.raw c)
section
variable {P:Program} {N:Nat}
theorem least {p:Nat→Prop} (h:∃ n,p n):∃ n,p n∧∀ m,m < n→¬ p m:=by
 obtain ⟨n,hn⟩:=h
 induction n using Nat.strongRecOn with
 | _ n ih=>
   by_cases hm:∃ m,m < n∧p m
   · obtain ⟨m,h1,h2⟩:=hm;exact ih m h1 h2
   · exact ⟨n,hn,fun m h1 h2=>hm ⟨m,h1,h2⟩⟩
open Classical in
theorem wp_loop_idx {c:Code} {Q:Exit→Act→World→Prop} {a:Act} {w:World} (I:Nat→Act→World→Prop) (n:Nat) (h0:I n a w)
   (round:∀ n a w,I n a w→c.wp P (Exit.then (fun a' w'=>∃ m,m < n∧I m a' w') Q) a w):(Code.loop c).wp P Q a w:=by
 refine wp_loop (fun a w=>∃ n,I n a w) (fun a w=>if h:∃ n,I n a w then Classical.choose (least h) else 0) ⟨n,h0⟩ ?_;intro a w h;have hl:=Classical.choose_spec (least h);have hmu:(if h:∃ n,I n a w then Classical.choose (least h) else 0)=Classical.choose (least h):=dif_pos h;refine wp_mono (round _ a w hl.1) ?_;intro e a' w' hq;cases e with
 | normal=>
   obtain ⟨m,hm,hI⟩:=hq;have hex:∃ n,I n a' w':=⟨m,hI⟩;refine ⟨hex,?_⟩;show (if h:∃ n,I n a' w' then Classical.choose (least h) else 0) < (if h:∃ n,I n a w then Classical.choose (least h) else 0);rw [hmu,dif_pos hex];have h2:=Classical.choose_spec (least hex);have:Classical.choose (least hex)≤m:=by
     rcases Nat.lt_or_ge m (Classical.choose (least hex)) with hlt | hge
     · exact absurd hI (h2.2 m hlt)
     · exact hge
   omega
 | _=>exact hq
theorem decomp_sound {H:List (Nat×List Nat×List Nat)}:∀ (c:Code) (ir:IR) (Q:Post) (ρ:Env) (a:Act) (w:World),decomp P N H c=some ir→irwp P N ir Q ρ w→Good dl N ρ a→c.wp P (liftQ dl N Q) a w:=by
 intro c
 induction c with
 | skip=>intro ir Q ρ a w h hw hg;simp only [decomp,Option.some.injEq] at h;subst h;exact wp_skip ⟨ρ,hg,hw⟩
 | ret=>intro ir Q ρ a w h hw hg;simp only [decomp,Option.some.injEq] at h;subst h;exact wp_ret ⟨ρ,hg,hw⟩
 | exit id=>intro ir Q ρ a w h hw hg;simp only [decomp,Option.some.injEq] at h;subst h;exact wp_exit ⟨ρ,hg,hw⟩
 | seq x y ihx ihy=>
   intro ir Q ρ a w h hw hg;simp only [decomp] at h;obtain ⟨a1,h1,h⟩:=Option.bind_eq_some_iff.1 h;obtain ⟨b1,h2,h⟩:=Option.map_eq_some_iff.1 h;subst h;refine wp_seq (wp_mono (ihx a1 _ ρ a w h1 hw hg) ?_);intro e a' w' hq;obtain ⟨ρ',hg',hq⟩:=hq;cases e with
   | normal=>exact ihy b1 Q ρ' a' w' h2 hq hg'
   | _=>exact ⟨ρ',hg',hq⟩
 | cond c x y ihx ihy=>
   intro ir Q ρ a w h hw hg;simp only [decomp] at h;obtain ⟨a1,h1,h⟩:=Option.bind_eq_some_iff.1 h;obtain ⟨b1,h2,h⟩:=Option.map_eq_some_iff.1 h;subst h;obtain ⟨t,hc,ht,hf⟩:=hw;have he:=hg.agree c _ hc;exact wp_cond_split he (fun e=>ihx a1 Q ρ a w h1 (ht e) hg) (fun e=>ihy b1 Q ρ a w h2 (hf e) hg)
 | block id x ih=>
   intro ir Q ρ a w h hw hg;simp only [decomp] at h;obtain ⟨a1,h1,h⟩:=Option.map_eq_some_iff.1 h;subst h;refine wp_block (wp_mono (ih a1 _ ρ a w h1 hw hg) ?_);intro e a' w' hq;obtain ⟨ρ',hg',hq⟩:=hq;cases e with
   | exit id'=>
     simp only [Exit.inBlock,blkQ] at hq ⊢
     split
     · rename_i hh;rw [if_pos hh] at hq;exact ⟨ρ',hg',hq⟩
     · rename_i hh;rw [if_neg hh] at hq;exact ⟨ρ',hg',hq⟩
   | _=>exact ⟨ρ',hg',hq⟩
 | loop x ih=>
   intro ir Q ρ a w h hw hg;simp only [decomp] at h;obtain ⟨a1,h1,h⟩:=Option.map_eq_some_iff.1 h;subst h;obtain ⟨I,n,h0,hr⟩:=hw;refine wp_loop_idx (fun n a w=>∃ ρ,Good dl N ρ a∧I n ρ w) n ⟨ρ,hg,h0⟩ ?_;rintro n a w ⟨ρ,hg,hI⟩;refine wp_mono (ih a1 _ ρ a w h1 (hr n ρ w hI) hg) ?_;intro e a' w' hq;obtain ⟨ρ',hg',hq⟩:=hq;cases e with
   | normal=>obtain ⟨m,hm,hI⟩:=hq;exact ⟨m,hm,ρ',hg',hI⟩
   | _=>exact ⟨ρ',hg',hq⟩
 | region id ops draw=>
   intro ir Q ρ a w h hw hg;simp only [decomp] at h;obtain ⟨x,hx,h0⟩:=Option.bind_eq_some_iff.1 h;clear h;have h:=h0;clear h0;obtain ⟨kp,pm⟩:=x;unfold decompR at h;have fin:∀ ρ' a' w',Good dl N ρ' a'→Q .normal (ρ'.keep kp) w'→liftQ dl N Q .normal a' w':=fun ρ' a' w' hg' hq=>⟨_,hg'.keep kp,hq⟩
   split at h
   · rename_i hd;subst hd
     split at h
     · rename_i hc;simp only [Bool.and_eq_true] at hc;obtain ⟨⟨hs,hpm⟩,hm⟩:=hc
       split at h
       · rename_i t ht
         split at h
         · rename_i st hst;simp only [Option.some.injEq] at h;subst h;refine region_draw (K:=fun ρ w=>Q .normal (ρ.keep kp) w) hm hpm hs ht (toS_sound t st ρ _ [] hst ?_) hg fin;exact hw
         · simp only [Option.some.injEq] at h;subst h;exact region_draw (K:=fun ρ w=>Q .normal (ρ.keep kp) w) hm hpm hs ht hw hg fin
       · simp only [Option.some.injEq] at h;subst h;exact hw dl a hg
     · simp only [Option.some.injEq] at h;subst h;exact hw dl a hg
   · rename_i hd;have:draw=false:=by simpa using hd
     subst this;obtain ⟨st,hst,h⟩:=Option.map_eq_some_iff.1 h;subst h;cases hcp:cpL N kp [] st with
     | none=>
       rw [hcp] at hw;exact wp_region_list (gList_wp (fun _ _ h=>h) _ _ _ (resAll_sound (G:=fun a w=>liftQ dl N Q .normal a w) ops.toList st ρ a w (fun ρ w=>Q .normal (ρ.keep kp) w) hst hw hg fin))
     | some st'=>
       rw [hcp] at hw;exact wp_region_list (gList_wp (fun _ _ h=>h) _ _ _ (cpL_sound (G:=fun a w=>liftQ dl N Q .normal a w) (K:=fun ρ w=>Q .normal ρ w) ops.toList st st' [] ρ ρ a w hst hcp hw hg (fun t _=>rfl) fin))
 | _=>
   intro ir Q ρ a w h hw hg;simp only [decomp,Option.some.injEq] at h;subst h;exact hw dl a hg
inductive RV where
 | t (s:Nat)
 | l (s:Nat)
 | n (s k:Nat)
 deriving Inhabited
def RV.ev (w:World) (ρ:Env):RV→Option Value
 | .t s=>ρ.get s
 | .l s=>(ρ.get s).bind (vL1 w)
 | .n s k=>(ρ.get s).bind (vLN w k)
def rvs (w:World) (ρ:Env):List RV→Option (List Value)
 | []=>some []
 | x::l=>match x.ev w ρ,rvs w ρ l with
   | some v,some vs=>some (v::vs)
   | _,_=>none
def one? : List Value→Value
 | [v]=>v
 | vs=>.tuple vs.toArray
def resRV (P:Program):List ResultVar→Option (List RV)
 | []=>some []
 | .tmp t::l=>(resRV P l).map (RV.t t :: ·)
 | .cell a t::l=>match P.underlying t,szOf P t with
   | some d,some n=>(resRV P l).map ((if aggB d then RV.n a n else RV.l a) :: ·)
   | _,_=>none
theorem resRV_sound {ρ:Env} {a:Act} {w:World} (hg:Good dl N ρ a):∀ (l:List ResultVar) (rs:List RV) (vs:List Value),resRV P l=some rs→rvs w ρ rs=some vs →
   ro P w (l.mapM (fun | .tmp t=>pure (a.tmps.getD t undef) | .cell c t=>do loadVar t (← asAddr (a.tmps.getD c undef)):ResultVar→Sem Value))=some vs:=by
 intro l
 induction l with
 | nil=>
   intro rs vs h1 h2;simp only [resRV,Option.some.injEq] at h1;subst h1;simp only [rvs,Option.some.injEq] at h2;subst h2;simp
 | cons x l ih=>
   intro rs vs h1 h2;have getD_of:∀ s u,ρ.get s=some u→a.tmps.getD s undef=u:=by
     intro s u hu;have:=hg.get s u hu;simp [this]
   cases x with
   | tmp t=>
     simp only [resRV] at h1;obtain ⟨rs',h3,h1⟩:=Option.map_eq_some_iff.1 h1;subst h1;simp only [rvs] at h2
     split at h2
     · rename_i v vs' e1 e2;cases h2;simp only [RV.ev] at e1;simp only [List.mapM_cons,ro_bind,ro_pure,Option.bind_some,ih rs' vs' h3 e2,getD_of t v e1]
     · cases h2
   | cell c t=>
     simp only [resRV] at h1
     split at h1
     · rename_i d n hd hn;obtain ⟨rs',h3,h1⟩:=Option.map_eq_some_iff.1 h1;subst h1;simp only [rvs] at h2
       split at h2
       · rename_i v vs' e1 e2;cases h2;have key:ro P w (do loadVar t (← asAddr (a.tmps.getD c undef)))=some v:=by
           cases hb:aggB d with
           | true=>
             simp only [hb,if_true,RV.ev] at e1;obtain ⟨u,hu,e1⟩:=Option.bind_eq_some_iff.1 e1;rw [getD_of c u hu];unfold vLN at e1
             split at e1
             · rename_i ad;obtain ⟨cs,hcs,e1⟩:=Option.map_eq_some_iff.1 e1;subst e1;unfold szOf at hn;simp only [asAddr,ro_bind,ro_pure,Option.bind_some,loadVar,ro_isAgg,hd,Option.map_some,hb,if_true,ro_sizeOf,hn,ro_loadCells,hcs]
             · cases e1
           | false=>
             simp only [hb,Bool.false_eq_true,if_false,RV.ev] at e1;obtain ⟨u,hu,e1⟩:=Option.bind_eq_some_iff.1 e1;rw [getD_of c u hu];unfold vL1 at e1
             split at e1
             · rename_i ad;simp only [asAddr,ro_bind,ro_pure,Option.bind_some,loadVar,ro_isAgg,hd,Option.map_some,hb,Bool.false_eq_true,if_false,ro_load,e1]
             · cases e1
         simp only [List.mapM_cons,ro_bind,key,ro_pure,Option.bind_some,ih rs' vs' h3 e2]
       · cases h2
     · cases h1
def CallsR (P:Program) (f:FuncId) (args:List Value) (w:World) (R:Value→World→Prop):Prop:=
 Calls P f args.toArray w fun e w'=>∃ v,e = .returned v∧R v w'
theorem CallsR.mono {f:FuncId} {args:List Value} {w:World} {R R':Value→World→Prop} (h:CallsR P f args w R) (hr:∀ v w',R v w'→R' v w'):CallsR P f args w R':=
 Calls.mono h fun e w' ⟨v,he,hv⟩=>⟨v,he,hr _ _ hv⟩
def argEnv:Nat→List Value→Env
 | _,[]=>[]
 | i,v::l=>(i,v)::argEnv (i+1) l
def finQ (rs:List RV) (R:Value→World→Prop):Post
 | .normal,ρ,w=>∃ vs,rvs w ρ rs=some vs∧R (one? vs) w
 | .ret,ρ,w=>∃ vs,rvs w ρ rs=some vs∧R (one? vs) w
 | _,_,_=>False
theorem argEnv_get:∀ (l:List Value) (i t:Nat) (v:Value),(argEnv i l).get t=some v→i≤t∧l[t - i]? = some v:=by
 intro l
 induction l with
 | nil=>intro i t v h;simp [argEnv,Env.get] at h
 | cons x l ih=>
   intro i t v h;simp only [argEnv,Env.get] at h
   split at h
   · rename_i hit;subst hit;exact ⟨Nat.le_refl _,by simpa using h⟩
   · obtain ⟨h1,h2⟩:=ih (i+1) t v h;refine ⟨by omega,?_⟩;rw [show t - i=(t - (i+1))+1 by omega]
     simpa using h2
structure Fits (P:Program) (f:Nat) (nargs:Nat) (H:List (Nat×List Nat×List Nat)) (ir:IR) (rs:List RV) (N:Nat):Prop where
 go:∃ fn c,P.funcs[f]? = some fn∧fn.body=some c∧fn.ntmps=N∧nargs≤N∧decomp P N H c=some ir∧resRV P fn.results.toList=some rs
theorem Fits.calls {f:Nat} {nargs:Nat} {H:List (Nat×List Nat×List Nat)} {ir:IR} {rs:List RV} (h:Fits P f nargs H ir rs N) {args:List Value} (hn:args.length=nargs) {w:World} {R:Value→World→Prop}
   (hw:irwp P N ir (finQ rs R) (argEnv 0 args) w):CallsR P f args w R:=by
 obtain ⟨fn,c,hf,hb,hN,hle,hd,hrs⟩:=h.go;refine calls_of_wp hf hb ?_;have hg:Good [] N (argEnv 0 args) { tmps:=args.toArray++Array.replicate (fn.ntmps - args.toArray.size) undef,defers:=[]}:=by
   refine ⟨?_,rfl,?_⟩
   · simp only [Array.size_append,List.size_toArray,Array.size_replicate];omega
   · intro t v ht;obtain ⟨_,h2⟩:=argEnv_get args 0 t v ht;have hlt:t < args.length:=by
       rcases Nat.lt_or_ge t args.length with h | h
       · exact h
       · simp [List.getElem?_eq_none h] at h2
     simp only [Nat.sub_zero] at h2;rw [Array.getElem?_append_left (by simpa using hlt)]
     simpa using h2
 refine wp_mono (decomp_sound c ir _ _ _ _ hd hw hg) ?_;intro e a' w' hq;obtain ⟨ρ',hg',hq⟩:=hq;have fin:(∃ vs,rvs w' ρ' rs=some vs∧R (one? vs) w')→a'.defers=[]∧∃ v,(results fn a'.tmps).run P w' = .ok v w'∧∃ u,Ending.returned v = .returned u∧R u w':=by
   rintro ⟨vs,h1,h2⟩;refine ⟨hg'.defers,one? vs,ro_run ?_,_,rfl,h2⟩;unfold results;rw [ro_bind,Array.mapM_eq_mapM_toList,ro_map];have:=resRV_sound (P:=P) hg' fn.results.toList rs vs hrs h1;refine Eq.trans (congrArg (fun o:Option (List Value)=>(o.map List.toArray).bind fun vs=>ro P w' (pure (if h:vs.size=1 then vs[0] else .tuple vs):Sem Value)) this) ?_;simp only [Option.map_some,Option.bind_some,ro_pure,List.size_toArray,Option.some.injEq]
   match vs with
   | []=>rfl
   | [v]=>rfl
   | v::u::l=>simp [one?]
 cases e with
 | normal=>exact fin hq
 | ret=>exact fin hq
 | _=>exact hq.elim
end
end
section
open Go
section
variable {P:Program} {N:Nat} {Q:Post} {ρ:Env} {w:World} {K:Env→World→Prop}
@[go_sem] theorem ir_skip:irwp P N .skip Q ρ w=Q .normal ρ w:=_root_.id rfl
@[go_sem] theorem ir_ret:irwp P N .ret Q ρ w=Q .ret ρ w:=_root_.id rfl
@[go_sem] theorem ir_exit (id:Nat):irwp P N (.exit id) Q ρ w=Q (.exit id) ρ w:=_root_.id rfl
@[go_sem] theorem ir_seq (a b:IR):irwp P N (.seq a b) Q ρ w=irwp P N a (thenQ (irwp P N b Q) Q) ρ w:=_root_.id rfl
@[go_sem] theorem ir_block (id:Nat) (a:IR):irwp P N (.block id a) Q ρ w=irwp P N a (blkQ id Q) ρ w:=_root_.id rfl
@[go_sem] theorem ir_reg (st:List S) (kp:List Nat):irwp P N (.reg false st kp) Q ρ w=wpS P st ρ w fun ρ w=>Q .normal (ρ.keep kp) w:=_root_.id rfl
@[go_sem] theorem ir_regd (st:List S) (kp:List Nat):irwp P N (.reg true st kp) Q ρ w=wpS P st ρ w.drew fun ρ w=>Q .normal (ρ.keep kp) w:=_root_.id rfl
@[go_sem] theorem ir_cond_t {c:O} {a b:IR} (h:c.ev ρ=some (.bool true)):irwp P N (.cond c a b) Q ρ w=irwp P N a Q ρ w:=by
 simp [irwp,h]
@[go_sem] theorem ir_cond_f {c:O} {a b:IR} (h:c.ev ρ=some (.bool false)):irwp P N (.cond c a b) Q ρ w=irwp P N b Q ρ w:=by
 simp [irwp,h]
theorem ir_cond {c:O} {a b:IR} {t:Bool} (h:c.ev ρ=some (.bool t)) (ht:t=true→irwp P N a Q ρ w) (hf:t=false→irwp P N b Q ρ w):irwp P N (.cond c a b) Q ρ w:=⟨t,h,ht,hf⟩
theorem ir_loop {b:IR} (I:Nat→Env→World→Prop) (n:Nat) (h0:I n ρ w)
   (hs:∀ n ρ w,I n ρ w→irwp P N b (thenQ (fun ρ' w'=>∃ m,m < n∧I m ρ' w') Q) ρ w):irwp P N (.loop b) Q ρ w:=⟨I,n,h0,hs⟩
@[go_sem] theorem thenQ_n (next:Env→World→Prop):thenQ next Q .normal=next:=_root_.id rfl
@[go_sem] theorem thenQ_r (next:Env→World→Prop):thenQ next Q .ret=Q .ret:=_root_.id rfl
@[go_sem] theorem thenQ_e (next:Env→World→Prop) (id:Nat):thenQ next Q (.exit id)=Q (.exit id):=_root_.id rfl
@[go_sem] theorem blkQ_n (id:Nat):blkQ id Q .normal=Q .normal:=_root_.id rfl
@[go_sem] theorem blkQ_r (id:Nat):blkQ id Q .ret=Q .ret:=_root_.id rfl
@[go_sem] theorem blkQ_e (id:Nat):blkQ id Q (.exit id)=Q .normal:=by funext ρ w;simp [blkQ]
@[go_sem] theorem blkQ_o (id id':Nat) (h:(id'=id)=False):blkQ id Q (.exit id')=Q (.exit id'):=by funext ρ w;simp [blkQ,h]
@[go_sem] theorem finQ_n (rs:List RV) (R:Value→World→Prop):finQ rs R .normal ρ w=∃ vs,rvs w ρ rs=some vs∧R (one? vs) w:=_root_.id rfl
@[go_sem] theorem finQ_r (rs:List RV) (R:Value→World→Prop):finQ rs R .ret ρ w=∃ vs,rvs w ρ rs=some vs∧R (one? vs) w:=_root_.id rfl
@[go_sem] theorem wpS_nil:wpS P [] ρ w K=K ρ w:=_root_.id rfl
@[go_sem] theorem wpS_r (d:Option Nat) (r:R) (l:List S):wpS P (.r d r::l) ρ w K=∃ v,r.ev w ρ=some v∧wpS P l (ρ.put d v) w K:=_root_.id rfl
@[go_sem] theorem wpS_e (d:Option Nat) (e:E) (l:List S):wpS P (.e d e::l) ρ w K=e.wp P w ρ fun v w'=>wpS P l (ρ.put d v) w' K:=_root_.id rfl
@[go_sem] theorem wpS_gr_tt {s:Nat} {d:Option Nat} {r:R} {l:List S} (h:ρ.get s=some (.bool true)):wpS P (.gr s true d r::l) ρ w K=(∃ v,r.ev w ρ=some v∧wpS P l (ρ.put d v) w K):=by
 simp [wpS,h,isB,undef]
@[go_sem] theorem wpS_gr_ff {s:Nat} {d:Option Nat} {r:R} {l:List S} (h:ρ.get s=some (.bool false)):wpS P (.gr s false d r::l) ρ w K=(∃ v,r.ev w ρ=some v∧wpS P l (ρ.put d v) w K):=by
 simp [wpS,h,isB,undef]
@[go_sem] theorem wpS_gr_tf {s:Nat} {d:Option Nat} {r:R} {l:List S} (h:ρ.get s=some (.bool true)):wpS P (.gr s false d r::l) ρ w K=wpS P l (ρ.put d undef) w K:=by
 simp [wpS,h,isB,undef]
@[go_sem] theorem wpS_gr_ft {s:Nat} {d:Option Nat} {r:R} {l:List S} (h:ρ.get s=some (.bool false)):wpS P (.gr s true d r::l) ρ w K=wpS P l (ρ.put d undef) w K:=by
 simp [wpS,h,isB,undef]
@[go_sem] theorem wpS_gr_uf {s:Nat} {d:Option Nat} {r:R} {l:List S} (h:ρ.get s=some undef):wpS P (.gr s false d r::l) ρ w K=wpS P l (ρ.put d undef) w K:=by
 simp [wpS,h,isB,undef]
@[go_sem] theorem wpS_ge_tt {s:Nat} {d:Option Nat} {e:E} {l:List S} (h:ρ.get s=some (.bool true)):wpS P (.ge s true d e::l) ρ w K=(e.wp P w ρ fun v w'=>wpS P l (ρ.put d v) w' K):=by
 simp [wpS,h,isB,undef]
@[go_sem] theorem wpS_ge_ff {s:Nat} {d:Option Nat} {e:E} {l:List S} (h:ρ.get s=some (.bool false)):wpS P (.ge s false d e::l) ρ w K=(e.wp P w ρ fun v w'=>wpS P l (ρ.put d v) w' K):=by
 simp [wpS,h,isB,undef]
@[go_sem] theorem wpS_ge_tf {s:Nat} {d:Option Nat} {e:E} {l:List S} (h:ρ.get s=some (.bool true)):wpS P (.ge s false d e::l) ρ w K=wpS P l (ρ.put d undef) w K:=by
 simp [wpS,h,isB,undef]
@[go_sem] theorem wpS_ge_ft {s:Nat} {d:Option Nat} {e:E} {l:List S} (h:ρ.get s=some (.bool false)):wpS P (.ge s true d e::l) ρ w K=wpS P l (ρ.put d undef) w K:=by
 simp [wpS,h,isB,undef]
theorem wpS_gr {s:Nat} {b:Bool} {c:Bool} {d:Option Nat} {r:R} {l:List S} (h:ρ.get s=some (.bool c))
   (ht:c=true→wpS P (.gr s b d r::l) ρ w K) (hf:c=false→wpS P (.gr s b d r::l) ρ w K):wpS P (.gr s b d r::l) ρ w K:=by
 cases c
 · exact hf rfl
 · exact ht rfl
@[go_sem] theorem wpD_nil {rd:List (Nat×Nat)}:wpD P .nil ρ w rd K=K ρ w:=_root_.id rfl
@[go_sem] theorem wpD_r {rd:List (Nat×Nat)} (i:Nat) (d:Option Nat) (r:R) (t:D):wpD P (.r i none d r t) ρ w rd K=∃ v,r.ev w ρ=some v∧wpD P t (ρ.put d v) w (addRd i (r.blk ρ) rd) K:=_root_.id rfl
@[go_sem] theorem wpD_e {rd:List (Nat×Nat)} (i:Nat) (d:Option Nat) (e:E) (fl:List Nat) (t:D):wpD P (.e i none d e fl t) ρ w rd K=e.wp P w ρ fun v w'=>keptL fl w w' rd∧wpD P t (ρ.put d v) w' rd K:=_root_.id rfl
section
variable {rd:List (Nat×Nat)}
end
@[go_sem] theorem ir_dr (t:D) (kp:List Nat):irwp P N (.dr t kp) Q ρ w=wpD P t ρ w.drew [] fun ρ w=>Q .normal (ρ.keep kp) w:=_root_.id rfl
theorem wpS_cut (Mid:Env→World→Prop) {l:List S} (h:wpS P l ρ w Mid) (hk:∀ ρ w,Mid ρ w→K ρ w):wpS P l ρ w K:=by
 induction l generalizing ρ w with
 | nil=>exact hk _ _ h
 | cons s l ih=>
   cases s with
   | r d r=>obtain ⟨v,h1,h2⟩:=h;exact ⟨v,h1,ih h2⟩
   | e d e=>exact E.mono (fun v w' h=>ih h) e h
   | gr s b d r=>obtain ⟨c,h1,h2,h3⟩:=h;exact ⟨c,h1,fun hh=>let ⟨v,h4,h5⟩:=h2 hh;⟨v,h4,ih h5⟩,fun hh=>ih (h3 hh)⟩
   | ge s b d e=>obtain ⟨c,h1,h2,h3⟩:=h;exact ⟨c,h1,fun hh=>E.mono (fun v w' h=>ih h) e (h2 hh),fun hh=>ih (h3 hh)⟩
@[go_sem] theorem get_cons (s t:Nat) (v:Value):Env.get ((s,v)::ρ) t=if s=t then some v else ρ.get t:=_root_.id rfl
def keepC (t:Nat) (v:Option Value) (r:Env):Env:=
 match v with
 | some v=>(t,v)::r
 | none=>r
@[go_sem] theorem keepC_s (t:Nat) (v:Value) (r:Env):keepC t (some v) r=(t,v)::r:=_root_.id rfl
@[go_sem] theorem keep_nil:ρ.keep []=[]:=_root_.id rfl
@[go_sem] theorem keep_cons (t:Nat) (ts:List Nat):ρ.keep (t::ts)=keepC t (ρ.get t) (ρ.keep ts):=by
 simp only [Env.keep];cases ρ.get t<;>rfl
@[go_sem] theorem put_some (d:Nat) (v:Value):ρ.put (some d) v=(d,v)::ρ:=_root_.id rfl
@[go_sem] theorem put_none (v:Value):ρ.put none v=ρ:=_root_.id rfl
@[go_sem] theorem O_t (n:Nat):(O.t n).ev ρ=ρ.get n:=_root_.id rfl
@[go_sem] theorem O_c (v:Value):(O.c v).ev ρ=some v:=_root_.id rfl
@[go_sem] theorem evs_nil:evs ρ []=some []:=_root_.id rfl
@[go_sem] theorem evs_cons (x:O) (l:List O):evs ρ (x::l)=(x.ev ρ).bind fun v=>(evs ρ l).map fun vs=>v::vs:=by
 simp only [evs];cases x.ev ρ<;>cases evs ρ l<;>rfl
@[go_sem] theorem pev_nil:pev ρ []=some []:=_root_.id rfl
@[go_sem] theorem pev_cons (o n:Nat) (x:O) (l:List (Nat×Nat×O)):pev ρ ((o,n,x)::l)=(x.ev ρ).bind fun v=>(pev ρ l).map fun vs=>(o,n,v)::vs:=by
 simp only [pev];cases x.ev ρ<;>cases pev ρ l<;>rfl
@[go_sem] theorem oev_n:oev ρ none=some none:=_root_.id rfl
@[go_sem] theorem oev_s (x:O):oev ρ (some x)=(x.ev ρ).map some:=by
 simp only [oev];cases x.ev ρ<;>rfl
@[go_sem] theorem rvs_nil:rvs w ρ []=some []:=_root_.id rfl
@[go_sem] theorem rvs_cons (x:RV) (l:List RV):rvs w ρ (x::l)=(x.ev w ρ).bind fun v=>(rvs w ρ l).map fun vs=>v::vs:=by
 simp only [rvs];cases x.ev w ρ<;>cases rvs w ρ l<;>rfl
end
@[go_sem] theorem one_1 (v:Value):one? [v]=v:=_root_.id rfl
@[go_sem] theorem one_2 (v u:Value) (l:List Value):one? (v::u::l) = .tuple (v::u::l).toArray:=_root_.id rfl
@[go_sem] theorem RV_t (w:World) (ρ:Env) (s:Nat):(RV.t s).ev w ρ=ρ.get s:=_root_.id rfl
@[go_sem] theorem RV_n (w:World) (ρ:Env) (s k:Nat):(RV.n s k).ev w ρ=(ρ.get s).bind (vLN w k):=_root_.id rfl
attribute [go_sem] argEnv R.ev vNN vFA vL1 vInt vShift vStr vBi vEq vNo vNg vCv vLen vLns vLnm vCap vIA vIXS vFL vFLN bnd vSL vSLS vPk vEx vMM vEqa eqCells scEq
attribute [go_sem] R.blk addRd keptL inL
@[go_sem] theorem fillAt_nil (cs:Array Value):fillAt cs []=some cs:=_root_.id rfl
def One (v:Value):Prop:=v.cells = #[v]
@[go_sem] theorem fillAt_1 {l:List Value} {off:Nat} {v:Value} {rest:List (Nat×Nat×Value)} (hv0:One v) (h:off < l.length) :
   fillAt l.toArray ((off,1,v)::rest)=fillAt (l.set off v).toArray rest:=by
 have hv:v.cells = #[v]:=hv0;simp only [fillAt,hv];rw [if_neg (by simp;omega)];simp
@[go_sem] theorem fillAt_n {l vs:List Value} {off n:Nat} {rest:List (Nat×Nat×Value)} (hv:vs.length=n) (h:off+n≤l.length) :
   fillAt l.toArray ((off,n,.agg vs.toArray)::rest)=fillAt (l.take off++vs++l.drop (off+n)).toArray rest:=by
 subst hv;simp only [fillAt];rw [if_neg (by simp [Value.cells];omega)];show fillAt (vs.toArray.zipIdx.foldl (fun (cs:Array Value) (x:Value×Nat)=>cs.setIfInBounds (off+x.2) x.1) l.toArray) rest=_
 congr 1
 have key:∀ (vs l:List Value) (off k:Nat),off+k+vs.length≤l.length →
     ((vs.zipIdx k).foldl (fun (cs:Array Value) (x:Value×Nat)=>cs.setIfInBounds (off+x.2) x.1) l.toArray)=(l.take (off+k)++vs++l.drop (off+k+vs.length)).toArray:=by
   intro vs
   induction vs with
   | nil=>intro l off k hk;simp
   | cons v vs ih=>
     intro l off k hk;simp only [List.length_cons] at hk;simp only [List.zipIdx_cons,List.foldl_cons,List.setIfInBounds_toArray];rw [ih (l.set (off+k) v) off (k+1) (by simp;omega)]
     congr 1
     have e1:(l.set (off+k) v).take (off+(k+1))=l.take (off+k)++[v]:=by
       rw [List.set_eq_take_append_cons_drop,if_pos (by omega),show off+(k+1)=(l.take (off+k)).length+1 by simp;omega,List.take_append];simp;rw [List.take_of_length_le (by simp)]
     have e2:(l.set (off+k) v).drop (off+(k+1)+vs.length)=l.drop (off+k+(vs.length+1)):=by
       rw [List.drop_set_of_lt (by omega)]
       congr 1;omega
     rw [e1,e2];simp
 have:=key vs l off 0 (by omega);simp only [Nat.add_zero] at this;rw [← this];rw [← Array.foldl_toList];simp
@[go_sem] theorem one_int (k:IntKind) (n:Int):One (Value.int k n)=True:=eq_true rfl
@[go_sem] theorem one_str (b:ByteArray):One (Value.string b)=True:=eq_true rfl
@[go_sem] theorem one_ptr (b:Option Addr):One (Value.pointer b)=True:=eq_true rfl
@[go_sem] theorem one_slice (a:Option Addr) (n c:Nat):One (Value.slice a n c)=True:=eq_true rfl
@[go_sem] theorem one_map (b:Option Nat):One (Value.map b)=True:=eq_true rfl
@[go_sem] theorem one_iface (t:TypeId) (v:Value):One (Value.iface t v)=True:=eq_true rfl
@[go_sem] theorem one_func (f:Fn) (a b:Array Value):One (Value.func f a b)=True:=eq_true rfl
attribute [go_sem] exists_eq' Option.bind_some Option.bind_none Option.map_some Option.map_none exists_eq_left' Option.some.injEq
attribute [go_sem] List.getElem?_toArray List.getElem?_cons_zero List.getElem?_cons_succ
structure Mod (S:Nat→Prop) (w w':World):Prop where
 size:w.heap.size≤w'.heap.size
 old:∀ b,b < w.heap.size→¬ S b→w'.heap[b]? = w.heap[b]?
 os:w'.os=w.os
 tape:w'.tape=w.tape
 output:w'.output=w.output
theorem Mod.refl (S:Nat→Prop) (w:World):Mod S w w:=⟨Nat.le_refl _,fun _ _ _=>rfl,rfl,rfl,rfl⟩
theorem Mod.trans {S:Nat→Prop} {a b c:World} (h:Mod S a b) (k:Mod S b c):Mod S a c:=
 ⟨Nat.le_trans h.size k.size,fun i hi hs=>(k.old i (Nat.lt_of_lt_of_le hi h.size) hs).trans (h.old i hi hs),k.os.trans h.os,k.tape.trans h.tape,k.output.trans h.output⟩
theorem Mod.step {S S':Nat→Prop} {a b c:World} (h:Mod S a b) (k:Mod S' b c) (hs:∀ i,S' i→i < a.heap.size→S i):Mod S a c:=
 ⟨Nat.le_trans h.size k.size,fun i hi hn=>(k.old i (Nat.lt_of_lt_of_le hi h.size) (fun hh=>hn (hs i hh hi))).trans (h.old i hi hn),k.os.trans h.os,k.tape.trans h.tape,k.output.trans h.output⟩
theorem Mod.weak {S S':Nat→Prop} {a b:World} (h:Mod S a b) (hs:∀ i,S i→S' i):Mod S' a b:=
 ⟨h.size,fun i hi hn=>h.old i hi (fun hh=>hn (hs i hh)),h.os,h.tape,h.output⟩
theorem Mod.drew {S:Nat→Prop} {a b:World} (h:Mod S a b):Mod S a b.drew:=⟨h.size,h.old,h.os,h.tape,h.output⟩
theorem Mod.of_drew {S:Nat→Prop} {a b:World} (h:Mod S a.drew b):Mod S a b:=⟨h.size,h.old,h.os,h.tape,h.output⟩
theorem lt_of_heap {w:World} {b:Nat} {o:Obj} (h:w.heap[b]? = some o):b < w.heap.size:=(Array.getElem?_eq_some_iff.1 h).1
theorem Mod.at {S:Nat→Prop} {w w':World} (h:Mod S w w') {b:Nat} {o:Obj} (hb:w.heap[b]? = some o) (hs:¬ S b):w'.heap[b]? = some o:=(h.old b (lt_of_heap hb) hs).trans hb
theorem Mod.cell {S:Nat→Prop} {w w':World} (h:Mod S w w') {a:Addr} {v:Value} (ha:w.cell? a=some v) (hs:¬ S a.block):w'.cell? a=some v:=by
 have hlt:=World.block_lt_of_cell? w a ha;rw [cell?_congr (h.old a.block hlt hs)];exact ha
theorem cellsFrom_of {w:World} {b T:Nat} {fz:Nat×Nat} {cs:List Value} (h:w.heap[b]? = some (.cells cs.toArray T fz)):∀ (n off i:Nat) (acc:List Value),off+i+n≤cs.length →
   cellsFrom w ⟨b,off,none⟩ i n acc.toArray=some (acc++(cs.drop (off+i)).take n).toArray:=by
 intro n
 induction n with
 | zero=>intro off i acc _;simp [cellsFrom]
 | succ n ih=>
   intro off i acc hle;have hlt:off+i < cs.length:=by omega
   have hc:w.cell? (Addr.add ⟨b,off,none⟩ i)=some cs[off+i]:=by
     have:Addr.add ⟨b,off,none⟩ i=⟨b,off+i,none⟩:=by unfold Addr.add;split<;>simp_all
     rw [this];simp [World.cell?,h,hlt]
   simp only [cellsFrom,hc];have:=ih off (i+1) (acc++[cs[off+i]]) (by omega);rw [show acc.toArray.push cs[off+i]=(acc++[cs[off+i]]).toArray by simp,this]
   congr 2
   rw [List.append_assoc]
   congr 1
   rw [show cs.drop (off+i)=cs[off+i]::cs.drop (off+(i+1)) by rw [List.drop_eq_getElem_cons hlt];rfl];simp
theorem ln_of {w:World} {b T off n:Nat} {fz:Nat×Nat} {cs:List Value} (h:w.heap[b]? = some (.cells cs.toArray T fz)) (hle:off+n≤cs.length) :
   vLN w n (.pointer (some ⟨b,off,none⟩))=some (.agg ((cs.drop off).take n).toArray):=by
 have:=cellsFrom_of h n off 0 [] (by omega);simp only [vLN];simp only [List.nil_append,Nat.add_zero] at this;rw [this];rfl
theorem cell_of {w:World} {b:Nat} {cs:Array Value} {T:TypeId} {fz:Nat×Nat} (h:w.heap[b]? = some (.cells cs T fz)) (o:Nat):w.cell? ⟨b,o,none⟩=cs[o]?:=by simp [World.cell?,h]
@[go_sem] theorem drew_heap (w:World):w.drew.heap=w.heap:=_root_.id rfl
@[go_sem] theorem drew_cell (w:World) (a:Addr):w.drew.cell? a=w.cell? a:=_root_.id rfl
@[go_sem] theorem add_zero' (a:Addr):a.add 0=a:=_root_.id rfl
@[go_sem] theorem add_at (b o n:Nat):Addr.add ⟨b,o,none⟩ n=⟨b,o+n,none⟩:=by unfold Addr.add;split<;>simp_all
theorem mod_alloc (S:Nat→Prop) (w:World) (o:Obj):Mod S w (w.alloc o):=
 ⟨by simp,fun b hb _=>by show (w.heap.push o)[b]? = _;rw [Array.getElem?_push,if_neg (by omega)],rfl,rfl,rfl⟩
theorem mod_setRow (w:World) (b:Nat) (cs:Array Value):Mod (· = b) w (w.setRow b cs):=
 ⟨by simp,fun i _ hs=>setRow_other w b i cs hs,rfl,rfl,rfl⟩
section
variable {P:Program} {w:World} {ρ:Env} {K:Value→World→Prop}
theorem e_st {n:Nat} {x y:O} {b off:Nat} {v:Value} {cs:Array Value} {T:TypeId} (hx:x.ev ρ=some (.pointer (some ⟨b,off,none⟩))) (hy:y.ev ρ=some v)
   (hb:w.heap[b]? = some (.cells cs T (0,0))) (hn:v.cells.size=n) (hfit:off+n≤cs.size) (h1:∀ u∈v.cells.toList,u.oneCell'=true)
   (hk:∀ w',w'.heap[b]? = some (.cells (sp cs off v.cells.toList) T (0,0))→Mod (· = b) w w'→w'.heap.size=w.heap.size→K undef w'):E.wp P w ρ K (.st n x y):=by
 refine ⟨_,v,cs,T,hx,hy,hn,⟨rfl,hb⟩,?_,h1,?_⟩
 · show off+v.cells.toList.length≤cs.size;rw [Array.length_toList,hn];exact hfit
 · exact hk _ (setRow_heap w b cs _ T _ hb) (mod_setRow w b _) (by simp)
theorem sp_one (l:List Value) (o:Nat) (v:Value) (h:o < l.length):sp l.toArray o [v]=(l.set o v).toArray:=by
 unfold sp
 congr 1
 simp only [List.length_cons,List.length_nil,Nat.zero_add];rw [List.set_eq_take_append_cons_drop,if_pos h];simp
theorem sp_all {cs vs:List Value} (h:vs.length=cs.length):sp cs.toArray 0 vs=vs.toArray:=by
 unfold sp;simp only [Nat.zero_add,List.take_zero,List.nil_append];rw [List.drop_of_length_le (by omega),List.append_nil]
theorem e_sta {n:Nat} {x y:O} {b:Nat} {vs cs:List Value} {T:TypeId} (hx:x.ev ρ=some (.pointer (some ⟨b,0,none⟩))) (hy:y.ev ρ=some (.agg vs.toArray))
   (hb:w.heap[b]? = some (.cells cs.toArray T (0,0))) (hn:vs.length=n) (hc:cs.length=n) (h1:∀ u∈vs,u.oneCell'=true)
   (hk:∀ w',w'.heap[b]? = some (.cells vs.toArray T (0,0))→Mod (· = b) w w'→w'.heap.size=w.heap.size→K undef w'):E.wp P w ρ K (.st n x y):=by
 refine e_st (v:=.agg vs.toArray) hx hy hb (by simpa [Value.cells] using hn) (by simp;omega) (by simpa [Value.cells] using h1) ?_;intro w' h2 h3 h4;refine hk w' ?_ h3 h4;rw [h2];have:sp cs.toArray 0 (Value.agg vs.toArray).cells.toList=vs.toArray:=sp_all (by simp [Value.cells];omega);rw [this]
theorem e_stg {n:Nat} {x y:O} {b off:Nat} {vs cs:List Value} {T:TypeId} (hx:x.ev ρ=some (.pointer (some ⟨b,off,none⟩))) (hy:y.ev ρ=some (.agg vs.toArray))
   (hb:w.heap[b]? = some (.cells cs.toArray T (0,0))) (hn:vs.length=n) (hc:off+n≤cs.length) (h1:∀ u∈vs,u.oneCell'=true)
   (hk:∀ w',w'.heap[b]? = some (.cells (sp cs.toArray off vs) T (0,0))→Mod (· = b) w w'→w'.heap.size=w.heap.size→K undef w'):E.wp P w ρ K (.st n x y):=by
 refine e_st (v:=.agg vs.toArray) hx hy hb (by simpa [Value.cells] using hn) (by simp;omega) (by simpa [Value.cells] using h1) ?_;intro w' h2 h3 h4;exact hk w' (by simpa [Value.cells] using h2) h3 h4
theorem e_st1 {x y:O} {b off:Nat} {v:Value} {cs:List Value} {T:TypeId} (hx:x.ev ρ=some (.pointer (some ⟨b,off,none⟩))) (hy:y.ev ρ=some v)
   (hb:w.heap[b]? = some (.cells cs.toArray T (0,0))) (h1:v.oneCell'=true) (hfit:off < cs.length)
   (hk:∀ w',w'.heap[b]? = some (.cells (cs.set off v).toArray T (0,0))→Mod (· = b) w w'→w'.heap.size=w.heap.size→K undef w'):E.wp P w ρ K (.st 1 x y):=by
 have hc:v.cells = #[v]:=by cases v<;>first | rfl | simp [Value.oneCell'] at h1
 refine e_st (v:=v) hx hy hb (by rw [hc];rfl) (by simp;omega) (by rw [hc];simpa using h1) ?_;intro w' h2 h3 h4;rw [hc] at h2;rw [show sp cs.toArray off #[v].toList=(cs.set off v).toArray from sp_one cs off v hfit] at h2;exact hk w' h2 h3 h4
theorem e_bx {t:Nat} {x:O} {v:Value} (hx:x.ev ρ=some v)
   (hk:∀ w',w'.heap[w.heap.size]? = some (.cells v.cells t (0,0))→Mod (fun _=>False) w w'→w'.heap.size=w.heap.size+1→K (.pointer (some ⟨w.heap.size,0,none⟩)) w'):E.wp P w ρ K (.bx t x):=
 ⟨v,hx,hk _ (heap_alloc_new w _) (mod_alloc _ w _) (by simp)⟩
theorem e_al {t:Nat} {z:Value}
   (hk:∀ w',w'.heap[w.heap.size]? = some (.cells z.cells t (0,0))→Mod (fun _=>False) w w'→w'.heap.size=w.heap.size+1→K (.pointer (some ⟨w.heap.size,0,none⟩)) w'):E.wp P w ρ K (.al t z):=
 hk _ (heap_alloc_new w _) (mod_alloc _ w _) (by simp)
theorem e_bs {el len:Nat} {cells cs:Array Value} {parts:List (Nat×Nat×O)} {ps:List (Nat×Nat×Value)} (hp:pev ρ parts=some ps) (hf:fillAt cells ps=some cs)
   (hk:∀ w',w'.heap[w.heap.size]? = some (.cells cs el (0,0))→Mod (fun _=>False) w w'→w'.heap.size=w.heap.size+1→K (.slice (some ⟨w.heap.size,0,none⟩) len len) w'):E.wp P w ρ K (.bs el len cells parts):=
 ⟨ps,cs,hp,hf,hk _ (heap_alloc_new w _) (mod_alloc _ w _) (by simp)⟩
theorem madeOne (z:Value) (n:Nat):madeCells #[z] n=(List.replicate n z).toArray:=by
 apply Array.ext';rw [toList_madeCells_one]
theorem e_ms1 {el bytes:Nat} {z:Value} {l:O} {k:IntKind} {n:Nat} (hl:l.ev ρ=some (.int k n)) (hb:bytes*n≤281474976710656) (h63:n≤9223372036854775807)
   (hk:∀ w',w'.heap[w.heap.size]? = some (.cells (List.replicate n z).toArray el (0,0))→Mod (fun _=>False) w w'→w'.heap.size=w.heap.size+1→K (.slice (some ⟨w.heap.size,0,none⟩) n n) w'):E.wp P w ρ K (.ms el 1 bytes #[z] l l):=by
 refine ⟨k,k,n,n,hl,hl,by omega,by omega,(by have h:=Int.ofNat_le.2 hb;rw [Int.natCast_mul] at h;exact h),(by have h:=Int.ofNat_le.2 h63;exact h),?_⟩;simp only [Int.toNat_natCast,Nat.mul_one];rw [madeOne];exact hk _ (heap_alloc_new w _) (mod_alloc _ w _) (by simp)
theorem e_call {f:Nat} {args:List O} {vs:List Value} (ha:evs ρ args=some vs) (h:CallsR P f vs w K):E.wp P w ρ K (.call f args):=⟨vs,ha,h⟩
end
attribute [go_sem] Nat.zero_add List.length_cons List.length_nil List.set_cons_zero List.set_cons_succ List.take_zero List.take_succ_cons List.drop_zero List.drop_succ_cons List.take_nil List.drop_nil List.nil_append List.cons_append List.append_nil or_false false_or or_true true_or false_implies true_implies and_true true_and and_self Bool.and_true Bool.true_and
universe u
theorem zb1 (p:Prop) [Decidable p]:((decide p=true)=p)∧((decide p=false)=¬p)∧(¬¬p)=p:=by
 by_cases h:p<;>simp [h]
theorem zb2 {α:Type u} [BEq α] [LawfulBEq α] (a b:α):(((a == b)=true)=(a=b))∧(((a == b)=false)=¬(a=b))∧(((a != b)=true)=¬(a=b))∧((a != b)=false)=(a=b):=by
 refine ⟨?_,?_,?_,?_⟩<;>simp
theorem zb3 {α:Sort u} (a b:α):(a≠b)=¬(a=b):=rfl
theorem zb4:((false=true)=False)∧((true=false)=False)∧(0:Int).toNat=0:=by simp
theorem zb5 (p:Prop):((p↔True)=p)∧((p↔False)=¬p)∧((True↔p)=p)∧((False↔p)=¬p):=by simp
theorem zb6 (n:Nat):n*1=n∧((n:Int).toNat=n)∧n - 0=n∧n - n=0:=by simp
end
section
open Go
theorem wrap_in {n:Int} (h1 : -9223372036854775808≤n) (h2:n < 9223372036854775808):IntKind.i64.wrap n=n:=by
 rw [IntKind.wrap_i64];omega
abbrev I (n:Int):Value:=.int .i64 n
def OwnS (w:World) (T sz:Nat) (v:Value) (xs:List Value) (n:Nat) (fp:Option Nat):Prop:=
 xs.length=n*sz∧((v = .slice none 0 0∧n=0∧fp=none) ∨
   ∃ b c sp,v = .slice (some ⟨b,0,none⟩) n c∧fp=some b∧w.heap[b]? = some (.cells (xs++sp).toArray T (0,0))∧c*sz≤(xs++sp).length∧n≤c)
theorem OwnS.nil (w:World) (T sz:Nat):OwnS w T sz (.slice none 0 0) [] 0 none:=⟨by simp,.inl ⟨rfl,rfl,rfl⟩⟩
theorem OwnS.lt {w:World} {T sz:Nat} {v:Value} {xs:List Value} {n b:Nat} {fp:Option Nat} (h:OwnS w T sz v xs n fp) (hb:fp=some b):b < w.heap.size:=by
 rcases h.2 with ⟨_,_,h⟩ | ⟨b',c,sp,_,h,hh,_⟩
 · rw [h] at hb;cases hb
 · rw [h] at hb;cases hb;exact lt_of_heap hh
theorem OwnS.mod {w w':World} {S:Nat→Prop} {T sz:Nat} {v:Value} {xs:List Value} {n:Nat} {fp:Option Nat} (h:OwnS w T sz v xs n fp) (hm:Mod S w w') (hs:∀ b,fp=some b→¬ S b):OwnS w' T sz v xs n fp:=by
 refine ⟨h.1,?_⟩;rcases h.2 with h | ⟨b,c,sp,h1,h2,h3,h4⟩
 · exact .inl h
 · exact .inr ⟨b,c,sp,h1,h2,hm.at h3 (hs b h2),h4⟩
theorem OwnS.mod' {w w':World} {S:Nat→Prop} {T sz:Nat} {v:Value} {xs:List Value} {n:Nat} {fp:Option Nat} (h:OwnS w T sz v xs n fp) (hm:Mod S w w')
   (hs:∀ b cs fz,S b→w.heap[b]? = some (.cells cs T fz)→False):OwnS w' T sz v xs n fp:=by
 refine h.mod hm (fun b hb hS=>?_);rcases h.2 with ⟨_,_,h⟩ | ⟨b',c,sp',_,h,hh,_⟩
 · rw [h] at hb;cases hb
 · rw [h] at hb;cases hb;exact hs _ _ _ hS hh
theorem own_ne {w:World} {T T' sz n a:Nat} {v:Value} {xs:List Value} {fp:Option Nat} {cs:Array Value} {fz:Nat×Nat} (h:OwnS w T sz v xs n fp) (ha:w.heap[a]? = some (.cells cs T' fz)) (hne:T≠T'):fp≠some a:=by
 rcases h.2 with ⟨_,_,h⟩ | ⟨b,c,sp',_,h,hh,_⟩
 · rw [h];intro hh;cases hh
 · rw [h];intro he;cases he;rw [ha] at hh;cases hh;exact hne rfl
theorem kind_ne {w:World} {a:Nat} {T T':Nat} {cs cs':Array Value} {fz fz':Nat×Nat} (h:w.heap[a]? = some (.cells cs T fz)) (h':w.heap[a]? = some (.cells cs' T' fz')) (hne:T≠T'):False:=by
 rw [h] at h';cases h';exact hne rfl
theorem own_kind {w:World} {T T' sz n b:Nat} {v:Value} {xs:List Value} {fp:Option Nat} {cs:Array Value} {fz:Nat×Nat} (h:OwnS w T sz v xs n fp) (hb:fp=some b) (ha:w.heap[b]? = some (.cells cs T' fz)) (hne:T≠T'):False:=
 own_ne h ha hne hb
theorem OwnS.of_block {w:World} {T sz n b:Nat} {xs:List Value} (h:w.heap[b]? = some (.cells xs.toArray T (0,0))) (hn:xs.length=n*sz):OwnS w T sz (.slice (some ⟨b,0,none⟩) n n) xs n (some b):=
 ⟨hn,.inr ⟨b,n,[],rfl,rfl,by simpa using h,by simpa using Nat.le_of_eq hn.symm,Nat.le_refl _⟩⟩
theorem OwnS.val {w:World} {T sz:Nat} {v:Value} {xs:List Value} {n:Nat} {fp:Option Nat} (h:OwnS w T sz v xs n fp):∃ a c,v = .slice a n c∧n≤c∧(a=none→n=0∧c=0):=by
 rcases h.2 with ⟨h1,h2,_⟩ | ⟨b,c,sp,h1,_,_,_,h5⟩
 · subst h2;exact ⟨none,0,h1,Nat.le_refl _,fun _=>⟨rfl,rfl⟩⟩
 · exact ⟨_,c,h1,h5,fun h=>by cases h⟩
theorem OwnS.pos {w:World} {T sz:Nat} {v:Value} {xs:List Value} {n:Nat} {fp:Option Nat} (h:OwnS w T sz v xs n fp) (hn:0 < n) :
   ∃ b c sp,v = .slice (some ⟨b,0,none⟩) n c∧fp=some b∧w.heap[b]? = some (.cells (xs++sp).toArray T (0,0))∧n≤c∧c*sz≤(xs++sp).length:=by
 rcases h.2 with ⟨_,h,_⟩ | ⟨b,c,sp,h1,h2,h3,h4,h5⟩
 · omega
 · exact ⟨b,c,sp,h1,h2,h3,h5,h4⟩
theorem OwnS.rd {w:World} {T sz:Nat} {xs:List Value} {n:Nat} {fp:Option Nat} {a:Option Addr} {c:Nat} (h:OwnS w T sz (.slice a n c) xs n fp):RdCells w a (n*sz) xs:=by
 refine ⟨h.1,?_⟩;intro ad had j v hv;rcases h.2 with ⟨h1,_,_⟩ | ⟨b,c',sp,h1,h2,h3,_⟩
 · cases h1;cases had
 · cases h1;cases had;rw [add_at,cell_of h3];have hlt:j < xs.length:=by
     rcases Nat.lt_or_ge j xs.length with h | h
     · exact h
     · simp [List.getElem?_eq_none h] at hv
   simp [List.getElem?_append_left hlt,hv]
theorem rd_block {w:World} {b T:Nat} {fz:Nat×Nat} {xs:List Value} (h:w.heap[b]? = some (.cells xs.toArray T fz)):RdCells w (some ⟨b,0,none⟩) xs.length xs:=by
 refine ⟨rfl,?_⟩;intro ad had j v hv;cases had;rw [add_at,cell_of h]
 simpa using hv
section
variable {P:Program} {w:World} {ρ:Env} {K:Value→World→Prop}
theorem size_zeroCells' (z:Array Value) (n:Nat):(Builtin.zeroCells z n).size=n*z.size:=by simp [Builtin.zeroCells]
theorem e_ap {T sz bytes m c n:Nat} {zero:Array Value} {s x:O} {v:Value} {xs news:List Value} {fp:Option Nat} {xa:Option Addr}
   (hs:s.ev ρ=some v) (ho:OwnS w T sz v xs n fp) (hx:x.ev ρ=some (.slice xa m c)) (hxa:xa=none→m=0) (hr:RdCells w xa (m*sz) news) (h1:∀ u∈news,u.oneCell'=true)
   (hz:zero.size=sz) (hb:(n+m)*bytes≤140737488355328) (h63:n+m≤9223372036854775807)
   (hk:∀ v' w' fp',OwnS w' T sz v' (xs++news) (n+m) fp'→Mod (fun b=>fp=some b) w w'→(∀ b,fp'=some b→fp=some b∨b=w.heap.size∧b < w'.heap.size)→K v' w') :
   E.wp P w ρ K (.ap T sz bytes zero s x):=by
 obtain ⟨hlen,hv⟩:=ho;have hnl:news.length=m*sz:=hr.1;have hcat:(xs++news).length=(n+m)*sz:=by rw [List.length_append,hlen,hnl,Nat.add_mul]
 have grown:∀ (olds:List Value),olds=xs→∀ nc w1,n+m≤nc→w1=w.drew.alloc (.cells (olds.toArray++news.toArray++Builtin.zeroCells zero (nc - (n+m))) T)→K (.slice (some ⟨w.heap.size,0,none⟩) (n+m) nc) w1:=by
   intro olds ho nc w1 hle hw1;subst ho hw1;refine hk _ _ (some w.heap.size) ⟨hcat,.inr ⟨w.heap.size,nc,(Builtin.zeroCells zero (nc - (n+m))).toList,rfl,rfl,?_,?_,hle⟩⟩ (mod_alloc _ w.drew _).of_drew ?_
   · rw [show w.heap.size=w.drew.heap.size from rfl,heap_alloc_new w.drew]
     congr 2
     apply Array.ext';simp
   · rw [List.length_append,hcat,Array.length_toList,size_zeroCells',hz,← Nat.add_mul];exact Nat.mul_le_mul_right _ (by omega)
   · intro b hb;cases hb;exact .inr ⟨rfl,by simp⟩
 rcases hv with ⟨rfl,rfl,rfl⟩ | ⟨b,cap,sp',rfl,rfl,hrow,hcap,hle⟩
 · have hx0:xs=[]:=List.eq_nil_of_length_eq_zero (by simpa using hlen);subst hx0;refine ⟨none,0,0,xa,m,c,[],news,hs,hx,fun _=>⟨rfl,rfl⟩,hxa,⟨by simp,(fun ad h=>by cases h)⟩,hr,h1,hb,h63,?_,?_,fun hc nc w1 h2 h3=>grown [] rfl nc w1 h2 h3⟩
   · intro hm _;have hm0:m=0:=by omega
     subst hm0;have hn0:news=[]:=List.eq_nil_of_length_eq_zero (by simpa using hnl);subst hn0;exact hk _ _ none (OwnS.nil w T sz) (Mod.refl _ w) (fun b h=>by cases h)
   · intro _ a h;cases h
 · refine ⟨some ⟨b,0,none⟩,n,cap,xa,m,c,xs,news,hs,hx,(fun h=>by cases h),hxa,?_,hr,h1,hb,h63,(fun _ h=>by cases h),?_,fun hc nc w1 h2 h3=>grown xs rfl nc w1 h2 h3⟩
   · exact OwnS.rd ⟨hlen,.inr ⟨b,cap,sp',rfl,rfl,hrow,hcap,hle⟩⟩
   · intro hroom a ha;cases ha;have hfit:n*sz+news.length≤(xs++sp').length:=by rw [hnl,← Nat.add_mul];exact Nat.le_trans (Nat.mul_le_mul_right _ hroom) hcap
     have hsp:sp (xs++sp').toArray (0+n*sz) news=((xs++news)++sp'.drop news.length).toArray:=by
       unfold sp;simp only [Nat.zero_add,List.append_assoc];rw [← hlen,List.take_left]
       congr 2
       rw [List.drop_append];simp
     refine ⟨(xs++sp').toArray,T,⟨rfl,hrow⟩,by simpa using hfit,?_⟩;rw [hsp];refine hk _ _ (some b) ⟨hcat,.inr ⟨b,cap,sp'.drop news.length,rfl,rfl,setRow_heap w b _ _ T _ hrow,?_,hroom⟩⟩ ((mod_setRow w b _).weak (fun i hi=>by rw [hi])) (fun b' hb'=>.inl hb');rw [List.length_append,hcat,List.length_drop];have h2:(xs++sp').length=xs.length+sp'.length:=List.length_append;rw [h2,hlen] at hcap;rw [hnl];rw [h2,hlen,hnl] at hfit;have h3:(n+m)*sz=n*sz+m*sz:=Nat.add_mul _ _ _;omega
theorem e_cp {sz:Nat} {d s:O} {b dn dc:Nat} {sa:Option Addr} {sn sc T:Nat} {cs:List Value} {news:List Value} (hd:d.ev ρ=some (.slice (some ⟨b,0,none⟩) dn dc)) (hs:s.ev ρ=some (.slice sa sn sc))
   (hsa:sa=none→sn=0) (hle:sn≤dn) (hr:RdCells w sa (sn*sz) news) (h1:∀ u∈news,u.oneCell'=true) (hb:w.heap[b]? = some (.cells cs.toArray T (0,0))) (hfit:news.length≤cs.length)
   (hk:∀ w',w'.heap[b]? = some (.cells (news++cs.drop news.length).toArray T (0,0))→Mod (· = b) w w'→w'.heap.size=w.heap.size→K (I sn) w'):E.wp P w ρ K (.cp sz d s):=by
 have hmin:Nat.min sn dn=sn:=Nat.min_eq_left hle;refine ⟨_,dn,dc,sa,sn,sc,news,hd,hs,hsa,by rw [hmin];exact hr,h1,(fun h=>by cases h),?_⟩;intro a ha;cases ha;refine ⟨cs.toArray,T,⟨rfl,hb⟩,by simpa using hfit,?_⟩;rw [hmin];have hsp:sp cs.toArray 0 news=(news++cs.drop news.length).toArray:=by simp [sp]
 rw [hsp];exact hk _ (setRow_heap w b _ _ T _ hb) (mod_setRow w b _) (by simp)
end
def vblk:Value→Option Nat
 | .slice (some a) _ _=>some a.block
 | _=>none
def Ints (w:World) (v:Value) (xs:List Int):Prop:=
 ∃ a c,v = .slice a xs.length c∧xs.length≤17592186044416∧∀ i (h:i < xs.length),∃ ad,a=some ad∧w.cell? (ad.add i)=some (I xs[i])
theorem Ints.mod {w w':World} {S:Nat→Prop} {v:Value} {xs:List Int} (h:Ints w v xs) (hm:Mod S w w') (hs:∀ b,vblk v=some b→¬ S b):Ints w' v xs:=by
 obtain ⟨a,c,rfl,hl,hx⟩:=h;refine ⟨a,c,rfl,hl,fun i hi=>?_⟩;obtain ⟨ad,rfl,hc⟩:=hx i hi;refine ⟨ad,rfl,hm.cell hc ?_⟩;rw [add_block];exact hs _ rfl
theorem Ints.rd {w:World} {a:Option Addr} {n c:Nat} {xs:List Int} (h:Ints w (.slice a n c) xs):n=xs.length∧RdCells w a (n*1) (xs.map I)∧(a=none→n=0):=by
 obtain ⟨a',c',he,hl,hx⟩:=h;cases he;refine ⟨rfl,⟨by simp,?_⟩,?_⟩
 · intro ad had j v hv;have hlt:j < xs.length:=by
     rcases Nat.lt_or_ge j xs.length with h | h
     · exact h
     · simp [List.getElem?_eq_none h] at hv
   obtain ⟨ad',h1,h2⟩:=hx j hlt;rw [had] at h1;cases h1;rw [h2]
   simpa [List.getElem?_eq_getElem hlt] using hv
 · intro ha;rcases Nat.eq_zero_or_pos xs.length with h | h
   · exact h
   · obtain ⟨ad,h1,_⟩:=hx 0 h;rw [ha] at h1;cases h1
theorem OwnS.ints {w:World} {T:Nat} {v:Value} {xs:List Int} {n:Nat} {fp:Option Nat} (h:OwnS w T 1 v (xs.map I) n fp) (hl:n≤17592186044416):Ints w v xs∧n=xs.length:=by
 have hn:n=xs.length:=by have:=h.1;simp at this;omega
 subst hn;refine ⟨?_,rfl⟩;rcases h.2 with ⟨h1,h2,_⟩ | ⟨b,c,sp',h1,h2,h3,_⟩
 · exact ⟨none,0,by rw [h1,h2],hl,fun i hi=>by omega⟩
 · refine ⟨some ⟨b,0,none⟩,c,h1,hl,fun i hi=>⟨_,rfl,?_⟩⟩;rw [add_at,cell_of h3];simp [List.getElem?_append_left,hi]
theorem oneI (xs:List Int):∀ u∈xs.map I,u.oneCell'=true:=by
 intro u hu;obtain ⟨n,_,rfl⟩:=List.mem_map.1 hu;rfl
end
end Go.W
section
namespace Go.W
open Go
theorem wpD_mono {P:Program} {K K':Env→World→Prop} (hk:∀ ρ w,K ρ w→K' ρ w):∀ (t:D) (ρ:Env) (w:World) (rd:List (Nat×Nat)),wpD P t ρ w rd K→wpD P t ρ w rd K':=by
 intro t
 induction t with
 | nil=>intro ρ w rd h;exact hk _ _ h
 | r i g d r t ih=>
   intro ρ w rd h;rcases g with _ | ⟨s,b⟩
   · obtain ⟨v,h1,h2⟩:=h;exact ⟨v,h1,ih _ _ _ h2⟩
   · obtain ⟨c,h1,h2,h3⟩:=h;exact ⟨c,h1,fun hh=>let ⟨v,h4,h5⟩:=h2 hh;⟨v,h4,ih _ _ _ h5⟩,fun hh=>ih _ _ _ (h3 hh)⟩
 | e i g d e fl t ih=>
   intro ρ w rd h;rcases g with _ | ⟨s,b⟩
   · exact E.mono (fun v w' h=>⟨h.1,ih _ _ _ h.2⟩) e h
   · obtain ⟨c,h1,h2,h3⟩:=h;exact ⟨c,h1,fun hh=>E.mono (fun v w' h=>⟨h.1,ih _ _ _ h.2⟩) e (h2 hh),fun hh=>ih _ _ _ (h3 hh)⟩
 | e2 i d e fl t i' d' e' fl' t' ih ih'=>
   intro ρ w rd h;exact ⟨E.mono (fun v w' h=>⟨h.1,ih _ _ _ h.2⟩) e h.1,E.mono (fun v w' h=>⟨h.1,ih' _ _ _ h.2⟩) e' h.2⟩
section
variable {P:Program} {N:Nat}
theorem thenQ_le {next next':Env→World→Prop} {Q Q':Post} (hn:∀ ρ w,next ρ w→next' ρ w) (hq:∀ e ρ w,Q e ρ w→Q' e ρ w):∀ (e:Exit) (ρ:Env) (w:World),thenQ next Q e ρ w→thenQ next' Q' e ρ w:=by
 intro e ρ w h;cases e<;>first | exact hn _ _ h | exact hq _ _ _ h
theorem blkQ_le {id:Nat} {Q Q':Post} (hq:∀ e ρ w,Q e ρ w→Q' e ρ w):∀ (e:Exit) (ρ:Env) (w:World),blkQ id Q e ρ w→blkQ id Q' e ρ w:=by
 intro e ρ w h;cases e with
 | exit i=>
   show (if i=id then Q' .normal ρ w else Q' (.exit i) ρ w);have h:(if i=id then Q .normal ρ w else Q (.exit i) ρ w):=h
   split
   · rename_i hi;rw [if_pos hi] at h;exact hq _ _ _ h
   · rename_i hi;rw [if_neg hi] at h;exact hq _ _ _ h
 | _=>exact hq _ _ _ h
theorem irwp_mono:∀ (c:IR) (Q Q':Post),(∀ e ρ w,Q e ρ w→Q' e ρ w)→∀ ρ w,irwp P N c Q ρ w→irwp P N c Q' ρ w:=by
 intro c
 induction c with
 | skip=>intro Q Q' hq ρ w h;exact hq _ _ _ h
 | ret=>intro Q Q' hq ρ w h;exact hq _ _ _ h
 | exit id=>intro Q Q' hq ρ w h;exact hq _ _ _ h
 | seq a b iha ihb=>intro Q Q' hq ρ w h;exact iha _ _ (thenQ_le (fun ρ w h=>ihb _ _ hq ρ w h) hq) ρ w h
 | cond c a b iha ihb=>intro Q Q' hq ρ w h;obtain ⟨t,h1,h2,h3⟩:=h;exact ⟨t,h1,fun hh=>iha _ _ hq _ _ (h2 hh),fun hh=>ihb _ _ hq _ _ (h3 hh)⟩
 | block id a iha=>intro Q Q' hq ρ w h;exact iha _ _ (blkQ_le hq) ρ w h
 | loop a iha=>
   intro Q Q' hq ρ w h;obtain ⟨J,n,h0,hs⟩:=h;exact ⟨J,n,h0,fun n ρ w hJ=>iha _ _ (thenQ_le (fun _ _ h=>h) hq) ρ w (hs n ρ w hJ)⟩
 | reg dw st kp=>intro Q Q' hq ρ w h;exact wpS_cut _ h (fun ρ w h=>hq _ _ _ h)
 | dr t kp=>intro Q Q' hq ρ w h;exact wpD_mono (fun ρ w h=>hq _ _ _ h) t _ _ _ h
 | raw c=>intro Q Q' hq ρ w h dl a ha;exact wp_mono (h dl a ha) (fun e a w h=>by obtain ⟨ρ,h1,h2⟩:=h;exact ⟨ρ,h1,hq _ _ _ h2⟩)
theorem ir_then {a:IR} {next:Env→World→Prop} {Q:Post} {ρ:Env} {w:World} (Mid:Env→World→Prop) (h:irwp P N a (thenQ Mid Q) ρ w) (hk:∀ ρ w,Mid ρ w→next ρ w):irwp P N a (thenQ next Q) ρ w:=
 irwp_mono a _ _ (thenQ_le hk (fun _ _ _ h=>h)) ρ w h
end
end Go.W
namespace Go.W
open Go
theorem wpD_e2 {P:Program} {K:Env→World→Prop} {ρ:Env} {w:World} {rd:List (Nat×Nat)} (i:Nat) (d:Option Nat) (e:E) (fl:List Nat) (t:D) (i':Nat) (d':Option Nat) (e':E) (fl':List Nat) (t':D) :
   wpD P (.e2 i d e fl t i' d' e' fl' t') ρ w rd K=((e.wp P w ρ fun v w'=>keptL fl w w' rd∧wpD P t (ρ.put d v) w' rd K)∧(e'.wp P w ρ fun v w'=>keptL fl' w w' rd∧wpD P t' (ρ.put d' v) w' rd K)):=_root_.id rfl
theorem wpD_cut {P:Program} {K:Env→World→Prop} {ρ:Env} {w:World} {rd:List (Nat×Nat)} {t:D} (Mid:Env→World→Prop) (h:wpD P t ρ w rd Mid) (hk:∀ ρ w,Mid ρ w→K ρ w):wpD P t ρ w rd K:=
 wpD_mono hk t ρ w rd h
end Go.W
end
namespace Go.W
section
open Go Go.ChangeShapes Go.WideShapes Go.ChangeAt Go.RowKit
theorem mod_below {w w':World} (h:Mod (fun _=>False) w w'):Below w.heap.size w w':=⟨h.os,h.tape,h.output,h.size,fun k hk=>h.old k hk (fun h=>h)⟩
section
variable {H:Type} {enc:TypeId×Value→H} {P:Program}
theorem trodAll_len:∀ {ts:List TypeId} {vs:List Value} {ds:List (DataW H)} {ps:List MemPlace} {w:World} {base:Nat} {spare:Nat→Bool} {held:Bool},DataW.TrodAll enc P w base spare held ts vs ds ps→ds.length=ts.length
 | [],[],[],_,_,_,_,_,_=>rfl
 | _::_,_::_,_::_,_,_,_,_,_,⟨_,_,_,h,_⟩=>by simp [trodAll_len h]
 | [],_::_,_,_,_,_,_,_,h=>h.elim
 | [],[],_::_,_,_,_,_,_,h=>h.elim
 | _::_,[],_,_,_,_,_,_,h=>h.elim
 | _::_,_::_,[],_,_,_,_,_,h=>h.elim
theorem trodAll_below (hl:laidOutB P=true) {W W':World} (hb:Below W.heap.size W W'):∀ {ts:List TypeId} {vs:List Value} {ds:List (DataW H)} {ps:List MemPlace},ts.all (fun t=>P.readableRec t&&decide (t < P.types.size))=true →
   (∀ x∈ps,x.block < W.heap.size)→DataW.TrodAll enc P W 0 (fun _=>true) true ts vs ds ps→DataW.TrodAll enc P W' 0 (fun b=>decide (b < W.heap.size)) true ts vs ds ps
 | [],[],[],_,_,_,h=>h
 | t::ts,v::vs,d::ds,ps,ht,hp,⟨p,q,h1,h2,h3⟩=>by
   simp only [List.all_cons,Bool.and_eq_true,decide_eq_true_eq] at ht;subst h3;exact ⟨p,q,Below.trod hl ht.1.1 ht.1.2 h1 hb (fun x hx=>hp x (List.mem_append_left _ hx)),trodAll_below hl hb ht.2 (fun x hx=>hp x (List.mem_append_right _ hx)) h2,rfl⟩
 | [],_::_,_,_,_,_,h=>h.elim
 | [],[],_::_,_,_,_,h=>h.elim
 | _::_,[],_,_,_,_,h=>h.elim
 | _::_,_::_,[],_,_,_,h=>h.elim
def LawIn (enc:TypeId×Value→H) (P:Program) (ts:List TypeId) (w:World) (args:List Value) (ds:List (DataW H)):Prop:=
 (∃ base,∀ (j:Nat) t v,ts[j]? = some t→args[j]? = some v→Value.okWide P w .any base t v)∧(∃ ps,DataW.TrodAll enc P w 0 (fun _=>true) true ts args ds ps)∧(DataW.weightsEach P ts ds).all (·≤reachBytes)=true
end
end
end Go.W
namespace Go.Proofs
section
open Go.Shelf
def Tryz.keysA_ren:Go.Shelf.Ren:=⟨fun | 7=>203 | 10=>208 | n=>n,fun | 23=>200 | 26=>3 | 3=>3 | 28=>253 | 0=>0 | 27=>252 | 33=>143 | 4=>4 | n=>n,fun | n=>n⟩
theorem Tryz.keysA:Go.Proofs.SlLaysZI.n7 Tryz.prog Tryz.keysA_ren:={
 mixed:=by kernel_rfl
 f7:=⟨Tryz.f203.name,by decide,Tryz.func203.trans (congrArg some (by kernel_rfl))⟩
 f10:=⟨Tryz.f208.name,by decide,Tryz.func208.trans (congrArg some (by kernel_rfl))⟩
 t0:=Tryz.underlying0
 a0:=Tryz.isAgg0
 z0:=Tryz.sizeOf0
 v0:=Tryz.zeroValue0
 t4:=Tryz.underlying4
 a4:=Tryz.isAgg4
 z4:=Tryz.sizeOf4
 v4:=Tryz.zeroValue4
 t23:=Tryz.underlying200
 a23:=Tryz.isAgg200
 z23:=Tryz.sizeOf200
 v23:=Tryz.zeroValue200
 t26:=Tryz.underlying3
 a26:=Tryz.isAgg3
 z26:=Tryz.sizeOf3
 v26:=Tryz.zeroValue3
 t27:=Tryz.underlying252
 a27:=Tryz.isAgg252
 z27:=Tryz.sizeOf252
 v27:=Tryz.zeroValue252
 t28:=Tryz.underlying253
 a28:=Tryz.isAgg253
 z28:=Tryz.sizeOf253
 v28:=Tryz.zeroValue253
 t33:=Tryz.underlying143
 a33:=Tryz.isAgg143
 z33:=Tryz.sizeOf143
 v33:=Tryz.zeroValue143}
def Tryz.sortedA_ren:Go.Shelf.Ren:=⟨fun | 6=>202 | 8=>206 | 9=>207 | 11=>210 | 13=>212 | 12=>211 | 23=>223 | 24=>162 | 14=>214 | 15=>215 | 16=>216 | 17=>217 | 18=>218 | 19=>219 | 20=>220 | 21=>221 | 22=>222 | 25=>224 | 26=>225 | 27=>226 | 28=>227 | 29=>228 | 30=>229 | 31=>230 | n=>n,fun | 26=>3 | 28=>253 | 24=>26 | 0=>0 | 3=>3 | 37=>221 | 48=>224 | 50=>212 | 4=>4 | 40=>262 | 39=>261 | 45=>87 | 5=>5 | 9=>9 | 51=>266 | 55=>270 | 57=>272 | 58=>191 | 33=>143 | n=>n,fun | n=>n⟩
theorem Tryz.sortedA:Go.Proofs.SlLaysZI.n6 Tryz.prog Tryz.sortedA_ren:={
 mixed:=by kernel_rfl
 f6:=⟨Tryz.f202.name,by decide,Tryz.func202.trans (congrArg some (by kernel_rfl))⟩
 f8:=⟨Tryz.f206.name,by decide,Tryz.func206.trans (congrArg some (by kernel_rfl))⟩
 f11:=⟨Tryz.f210.name,by decide,Tryz.func210.trans (congrArg some (by kernel_rfl))⟩
 t0:=Tryz.underlying0
 a0:=Tryz.isAgg0
 z0:=Tryz.sizeOf0
 v0:=Tryz.zeroValue0
 t24:=Tryz.underlying26
 a24:=Tryz.isAgg26
 z24:=Tryz.sizeOf26
 v24:=Tryz.zeroValue26
 t26:=Tryz.underlying3
 a26:=Tryz.isAgg3
 z26:=Tryz.sizeOf3
 v26:=Tryz.zeroValue3
 t28:=Tryz.underlying253
 a28:=Tryz.isAgg253
 z28:=Tryz.sizeOf253
 v28:=Tryz.zeroValue253
 i26:=by kernel_rfl}
def Tryz.sortA_ren:Go.Shelf.Ren:=⟨fun | 5=>207 | 8=>212 | 7=>211 | 19=>223 | 20=>162 | 10=>214 | 11=>215 | 12=>216 | 13=>217 | 14=>218 | 15=>219 | 16=>220 | 17=>221 | 18=>222 | 30=>224 | 31=>225 | 32=>226 | 33=>227 | 34=>228 | 35=>229 | 40=>230 | n=>n,fun | 23=>26 | 25=>3 | 3=>3 | 32=>221 | 22=>26 | 0=>0 | 44=>224 | 46=>212 | 4=>4 | 36=>262 | 35=>261 | 41=>87 | 5=>5 | 9=>9 | 53=>266 | 57=>270 | 63=>272 | 64=>191 | n=>n,fun | n=>n⟩
theorem Tryz.sortA:Go.Proofs.SlLaysM.n5 Tryz.prog Tryz.sortA_ren:={
 mixed:=by kernel_rfl
 f5:=⟨Tryz.f207.name,by decide,Tryz.func207.trans (congrArg some (by kernel_rfl))⟩
 f7:=⟨Tryz.f211.name,by decide,Tryz.func211.trans (congrArg some (by kernel_rfl))⟩
 f8:=Tryz.func212.trans (congrArg some (by kernel_rfl))
 f10:=⟨Tryz.f214.name,by decide,Tryz.func214.trans (congrArg some (by kernel_rfl))⟩
 f11:=⟨Tryz.f215.name,by decide,Tryz.func215.trans (congrArg some (by kernel_rfl))⟩
 f12:=⟨Tryz.f216.name,by decide,Tryz.func216.trans (congrArg some (by kernel_rfl))⟩
 f13:=⟨Tryz.f217.name,by decide,Tryz.func217.trans (congrArg some (by kernel_rfl))⟩
 f14:=⟨Tryz.f218.name,by decide,Tryz.func218.trans (congrArg some (by kernel_rfl))⟩
 f15:=⟨Tryz.f219.name,by decide,Tryz.func219.trans (congrArg some (by kernel_rfl))⟩
 f16:=⟨Tryz.f220.name,by decide,Tryz.func220.trans (congrArg some (by kernel_rfl))⟩
 f17:=⟨Tryz.f221.name,by decide,Tryz.func221.trans (congrArg some (by kernel_rfl))⟩
 f18:=⟨Tryz.f222.name,by decide,Tryz.func222.trans (congrArg some (by kernel_rfl))⟩
 f19:=Tryz.func223.trans (congrArg some (by kernel_rfl))
 f20:=Tryz.func162.trans (congrArg some (by kernel_rfl))
 f30:=⟨Tryz.f224.name,by decide,Tryz.func224.trans (congrArg some (by kernel_rfl))⟩
 f31:=Tryz.func225.trans (congrArg some (by kernel_rfl))
 f32:=Tryz.func226.trans (congrArg some (by kernel_rfl))
 f33:=⟨Tryz.f227.name,by decide,Tryz.func227.trans (congrArg some (by kernel_rfl))⟩
 f34:=⟨Tryz.f228.name,by decide,Tryz.func228.trans (congrArg some (by kernel_rfl))⟩
 f35:=⟨Tryz.f229.name,by decide,Tryz.func229.trans (congrArg some (by kernel_rfl))⟩
 f40:=⟨Tryz.f230.name,by decide,Tryz.func230.trans (congrArg some (by kernel_rfl))⟩
 t0:=Tryz.underlying0
 a0:=Tryz.isAgg0
 z0:=Tryz.sizeOf0
 v0:=Tryz.zeroValue0
 t3:=Tryz.underlying3
 a3:=Tryz.isAgg3
 z3:=Tryz.sizeOf3
 v3:=Tryz.zeroValue3
 t4:=Tryz.underlying4
 a4:=Tryz.isAgg4
 z4:=Tryz.sizeOf4
 v4:=Tryz.zeroValue4
 t5:=Tryz.underlying5
 a5:=Tryz.isAgg5
 z5:=Tryz.sizeOf5
 v5:=Tryz.zeroValue5
 t9:=Tryz.underlying9
 a9:=Tryz.isAgg9
 z9:=Tryz.sizeOf9
 v9:=Tryz.zeroValue9
 t22:=Tryz.underlying26
 a22:=Tryz.isAgg26
 z22:=Tryz.sizeOf26
 v22:=Tryz.zeroValue26
 t23:=Tryz.underlying26
 a23:=Tryz.isAgg26
 z23:=Tryz.sizeOf26
 v23:=Tryz.zeroValue26
 t25:=Tryz.underlying3
 a25:=Tryz.isAgg3
 z25:=Tryz.sizeOf3
 v25:=Tryz.zeroValue3
 t32:=Tryz.underlying221
 a32:=Tryz.isAgg221
 z32:=Tryz.sizeOf221
 v32:=Tryz.zeroValue221
 t35:=Tryz.underlying261
 a35:=Tryz.isAgg261
 z35:=Tryz.sizeOf261
 v35:=Tryz.zeroValue261
 t36:=Tryz.underlying262
 a36:=Tryz.isAgg262
 z36:=Tryz.sizeOf262
 v36:=Tryz.zeroValue262
 t41:=Tryz.underlying87
 a41:=Tryz.isAgg87
 z41:=Tryz.sizeOf87
 v41:=Tryz.zeroValue87
 t44:=Tryz.underlying224
 a44:=Tryz.isAgg224
 z44:=Tryz.sizeOf224
 v44:=Tryz.zeroValue224
 t46:=Tryz.underlying212
 a46:=Tryz.isAgg212
 z46:=Tryz.sizeOf212
 v46:=Tryz.zeroValue212
 t53:=Tryz.underlying266
 a53:=Tryz.isAgg266
 z53:=Tryz.sizeOf266
 v53:=Tryz.zeroValue266
 t57:=Tryz.underlying270
 a57:=Tryz.isAgg270
 z57:=Tryz.sizeOf270
 v57:=Tryz.zeroValue270
 t63:=Tryz.underlying272
 a63:=Tryz.isAgg272
 z63:=Tryz.sizeOf272
 v63:=Tryz.zeroValue272
 t64:=Tryz.underlying191
 a64:=Tryz.isAgg191
 z64:=Tryz.sizeOf191
 v64:=Tryz.zeroValue191}
def Tryz.lays171_ren:Go.Shelf.Ren:=⟨fun | 171=>48 | 243=>84 | 246=>141 | 283=>154 | 284=>155 | 285=>156 | 286=>157 | 129=>162 | 317=>161 | 318=>163 | 319=>164 | 320=>165 | 337=>167 | 338=>168 | n=>n,fun | 3=>3 | 9=>9 | 2=>2 | 4=>4 | 171=>211 | 0=>0 | 53=>212 | 37=>74 | 5=>5 | 173=>215 | 212=>223 | 51=>224 | 20=>20 | 213=>225 | 46=>221 | 232=>228 | 233=>229 | n=>n,fun | 17=>0 | 18=>1 | 19=>2 | n=>n⟩
theorem Tryz.lays171:Go.Proofs.LaysM.n171 Tryz.prog Tryz.lays171_ren:={
 mixed:=by kernel_rfl
 f129:=Tryz.func162.trans (congrArg some (by kernel_rfl))
 f171:=Tryz.func48.trans (congrArg some (by kernel_rfl))
 f243:=Tryz.func84.trans (congrArg some (by kernel_rfl))
 f246:=Tryz.func141.trans (congrArg some (by kernel_rfl))
 f283:=Tryz.func154.trans (congrArg some (by kernel_rfl))
 f284:=Tryz.func155.trans (congrArg some (by kernel_rfl))
 f285:=Tryz.func156.trans (congrArg some (by kernel_rfl))
 f286:=Tryz.func157.trans (congrArg some (by kernel_rfl))
 f317:=Tryz.func161.trans (congrArg some (by kernel_rfl))
 f318:=Tryz.func163.trans (congrArg some (by kernel_rfl))
 f319:=Tryz.func164.trans (congrArg some (by kernel_rfl))
 f320:=Tryz.func165.trans (congrArg some (by kernel_rfl))
 f337:=Tryz.func167.trans (congrArg some (by kernel_rfl))
 f338:=Tryz.func168.trans (congrArg some (by kernel_rfl))
 t0:=Tryz.underlying0
 a0:=Tryz.isAgg0
 z0:=Tryz.sizeOf0
 v0:=Tryz.zeroValue0
 t2:=Tryz.underlying2
 a2:=Tryz.isAgg2
 z2:=Tryz.sizeOf2
 v2:=Tryz.zeroValue2
 t3:=Tryz.underlying3
 a3:=Tryz.isAgg3
 z3:=Tryz.sizeOf3
 v3:=Tryz.zeroValue3
 t4:=Tryz.underlying4
 a4:=Tryz.isAgg4
 z4:=Tryz.sizeOf4
 v4:=Tryz.zeroValue4
 t5:=Tryz.underlying5
 a5:=Tryz.isAgg5
 z5:=Tryz.sizeOf5
 v5:=Tryz.zeroValue5
 t9:=Tryz.underlying9
 a9:=Tryz.isAgg9
 z9:=Tryz.sizeOf9
 v9:=Tryz.zeroValue9
 t20:=Tryz.underlying20
 a20:=Tryz.isAgg20
 z20:=Tryz.sizeOf20
 v20:=Tryz.zeroValue20
 t37:=Tryz.underlying74
 a37:=Tryz.isAgg74
 z37:=Tryz.sizeOf74
 v37:=Tryz.zeroValue74
 t46:=Tryz.underlying221
 a46:=Tryz.isAgg221
 z46:=Tryz.sizeOf221
 v46:=Tryz.zeroValue221
 t51:=Tryz.underlying224
 a51:=Tryz.isAgg224
 z51:=Tryz.sizeOf224
 v51:=Tryz.zeroValue224
 t53:=Tryz.underlying212
 a53:=Tryz.isAgg212
 z53:=Tryz.sizeOf212
 v53:=Tryz.zeroValue212
 t171:=Tryz.underlying211
 a171:=Tryz.isAgg211
 z171:=Tryz.sizeOf211
 v171:=Tryz.zeroValue211
 t173:=Tryz.underlying215
 a173:=Tryz.isAgg215
 z173:=Tryz.sizeOf215
 v173:=Tryz.zeroValue215
 t212:=Tryz.underlying223
 a212:=Tryz.isAgg223
 z212:=Tryz.sizeOf223
 v212:=Tryz.zeroValue223
 t213:=Tryz.underlying225
 a213:=Tryz.isAgg225
 z213:=Tryz.sizeOf225
 t232:=Tryz.underlying228
 a232:=Tryz.isAgg228
 z232:=Tryz.sizeOf228
 v232:=Tryz.zeroValue228
 t233:=Tryz.underlying229
 a233:=Tryz.isAgg229
 z233:=Tryz.sizeOf229
 v233:=Tryz.zeroValue229
 g17:=by kernel_rfl
 g18:=by kernel_rfl
 g19:=by kernel_rfl
 i0:=by kernel_rfl
 i2:=by kernel_rfl
 i3:=by kernel_rfl
 i4:=by kernel_rfl
 i5:=by kernel_rfl
 i9:=by kernel_rfl
 i20:=by kernel_rfl
 i37:=by kernel_rfl
 i46:=by kernel_rfl
 i51:=by kernel_rfl
 i53:=by kernel_rfl
 i171:=by kernel_rfl
 i173:=by kernel_rfl
 i212:=by kernel_rfl
 i232:=by kernel_rfl
 i233:=by kernel_rfl
 m17:=by kernel_rfl
 m18:=by kernel_rfl
 m19:=by kernel_rfl}
end
end Go.Proofs
namespace Go.W
section
open Go Go.ChangeMaps Go.RowKit
def MapAt (w:World) (b:Nat) (l:List (Int×Int)):Prop:=
 ∃ es clock,w.heap[b]? = some (.map es clock)∧es.toList.map (fun e=>(e.key,e.val))=l.map (fun p=>(I p.1,I p.2))∧(∀ e∈es.toList,e.born < clock)∧(es.toList.map (·.born)).Nodup
theorem map_mod {w w':World} {b:Nat} {l:List (Int×Int)} {S:Nat→Prop} (h:MapAt w b l) (hm:Mod S w w') (hb:¬ S b):MapAt w' b l:=by
 obtain ⟨es,c,h1,h2⟩:=h;exact ⟨es,c,hm.at h1 hb,h2⟩
def lget (l:List (Int×Int)) (k:Int):Option Int:=(l.find? (fun p=>p.1 == k)).map (·.2)
def lput (l:List (Int×Int)) (k v:Int):List (Int×Int):=match l.findIdx? (fun p=>p.1 == k) with
 | some i=>l.set i (k,v)
 | none=>l++[(k,v)]
def ldel (l:List (Int×Int)) (k:Int):List (Int×Int):=match l.findIdx? (fun p=>p.1 == k) with
 | some i=>l.eraseIdx i
 | none=>l
theorem findNow_int (k:Int):∀ (es:List MapEntry) (l:List (Int×Int)) (i:Nat),es.map (fun e=>(e.key,e.val))=l.map (fun p=>(I p.1,I p.2)) →
   Instr.findNow (.int .i64) (I k) es i=some ((l.findIdx? (fun p=>p.1 == k)).map fun j=>(i+j,I (l.getD j (0,0)).2)):=by
 intro es
 induction es with
 | nil=>
   intro l i h;cases l with
   | nil=>rfl
   | cons p l=>simp at h
 | cons e es ih=>
   intro l i h;cases l with
   | nil=>simp at h
   | cons p l=>
     simp only [List.map_cons,List.cons.injEq,Prod.mk.injEq] at h;obtain ⟨⟨h1,h2⟩,h3⟩:=h;have e1:Instr.sameNow (.int .i64) (I k) e.key=some (k == p.1):=by rw [h1];simp [Instr.sameNow,I]
     by_cases hk:p.1=k
     · have e2:(k == p.1)=true:=by simp [hk]
       have e3:(p.1 == k)=true:=by simp [hk]
       rw [e2] at e1;simp [Instr.findNow,e1,List.findIdx?_cons,e3,h2]
     · have e2:(k == p.1)=false:=by simp;exact fun h=>hk h.symm
       have e3:(p.1 == k)=false:=by simp [hk]
       rw [e2] at e1;simp only [Instr.findNow,e1,ih l (i+1) h3,List.findIdx?_cons,e3];cases l.findIdx? (fun p=>p.1 == k) with
       | none=>rfl
       | some j=>simp [Nat.add_assoc,Nat.add_comm 1 j]
theorem findKey_int {P:Program} {w:World} {kt:TypeId} (hk:P.underlying kt=some (.int .i64)) (k:Int) (es:List MapEntry) (l:List (Int×Int)) (h:es.map (fun e=>(e.key,e.val))=l.map (fun p=>(I p.1,I p.2))) :
   (Instr.findKey kt (I k) es).run P w = .ok ((l.findIdx? (fun p=>p.1 == k)).map fun j=>(j,I (l.getD j (0,0)).2)) w:=by
 have:=findNow_int k es l 0 h;simp only [Nat.zero_add] at this;simp only [Instr.findKey,Sem.run_bind,run_underlying hk,Result.andThen,this];rfl
theorem checkKey_int' {P:Program} {w:World} {kt:TypeId} (hk:P.underlying kt=some (.int .i64)) (k:Int) (b:Bool) (n:Nat):(Instr.checkKey b (n+1) kt (I k)).run P w = .ok () w:=by
 unfold Instr.checkKey;rw [Sem.run_bind,run_underlying hk];rfl
theorem checkKey_int {P:Program} {w:World} {kt:TypeId} (hk:P.underlying kt=some (.int .i64)) (k:Int) (b:Bool):(Instr.checkKey b 10000 kt (I k)).run P w = .ok () w:=checkKey_int' hk k b 9999
theorem lget_idx (l:List (Int×Int)) (k:Int):lget l k=(l.findIdx? (fun p=>p.1 == k)).map fun j=>(l.getD j (0,0)).2:=by
 induction l with
 | nil=>rfl
 | cons p l ih=>
   unfold lget at ih ⊢;by_cases hk:p.1=k
   · have e3:(p.1 == k)=true:=by simp [hk]
     simp [List.find?_cons,List.findIdx?_cons,e3]
   · have e3:(p.1 == k)=false:=by simp [hk]
     simp only [List.find?_cons,List.findIdx?_cons,e3,ih];cases l.findIdx? (fun p=>p.1 == k)<;>rfl
section
variable {P:Program} {ρ:Env} {w:World} {K:Value→World→Prop} {d:Option Nat} {ty:TypeId} {pos:String} {af:Array Edge}
theorem e_mm {t:TypeId} (hk:∀ w',MapAt w' w.heap.size []→Mod (fun _=>False) w w'→w'.heap.size=w.heap.size+1→K (.map (some w.heap.size)) w') :
   E.wp P w ρ K (.raw ⟨d,.makeMap t none,ty,pos,af,none⟩):=by
 refine opWp_of_run fun a ha=>⟨_,_,?_,hk (w.alloc (.map #[] 0)) ⟨_,_,heap_alloc_new w _,rfl,by simp,by simp⟩ (mod_alloc _ w _) (by simp)⟩
 simp only [execOp,Sem.run_bind,Option.map_none,Go.RowKit.run_makeMap,Result.andThen];rfl
theorem e_lk {t kt et:TypeId} {m x:Operand} {b:Nat} {k:Int} {l:List (Int×Int)} (hm:(toO m).ev ρ=some (.map (some b))) (hx:(toO x).ev ρ=some (I k)) (ht:P.underlying t=some (.map kt et)) (hkt:P.underlying kt=some (.int .i64))
   (hz:(zeroValue et).run P w = .ok (I 0) w) (h:MapAt w b l) (hk:K (.tuple #[I ((lget l k).getD 0),.bool (lget l k).isSome]) w):E.wp P w ρ K (.raw ⟨d,.lookup t m x true,ty,pos,af,none⟩):=by
 obtain ⟨es,clock,h1,h2,_⟩:=h;refine opWp_of_run fun a ha=>⟨_,w,?_,hk⟩
 have hkey:=findKey_int (P:=P) (w:=w) hkt k es.toList l h2;have e1:(Instr.lookup t (.map (some b)) (I k) true).run P w = .ok (.tuple #[I ((lget l k).getD 0),.bool (lget l k).isSome]) w:=by
   rw [lget_idx];simp only [Instr.lookup,Sem.run_bind,run_underlying ht,Result.andThen,getObj,Sem.run,h1,checkKey_int hkt,Sem.run_pure];cases hI:l.findIdx? (fun p=>p.1 == k) with
   | none=>
     rw [hI] at hkey
     erw [hkey]
     simp [hz,Sem.run_bind,Sem.run_pure,Sem.run,Result.andThen]
   | some j=>
     rw [hI] at hkey
     erw [hkey]
     simp [Sem.run_bind,Sem.run_pure,Sem.run,Result.andThen]
 simp only [execOp,Sem.run_bind,ha m _ hm,ha x _ hx,e1,Result.andThen];rfl
theorem mod_setBlock {es:Array MapEntry} {c:Nat} (w:World) (b:Nat) (o:Obj) (hb:w.heap[b]? = some (.map es c)):Mod (· = b) w (setBlock w b o):=
 ⟨by simp [setBlock],fun i hi hn=>by rw [heap_setBlock_other hb o hn],rfl,rfl,rfl⟩
theorem size_setBlock (w:World) (b:Nat) (o:Obj):(setBlock w b o).heap.size=w.heap.size:=by simp [setBlock]
theorem run_setObj_map {b c:Nat} {es:Array MapEntry} {w:World} (hb:w.heap[b]? = some (.map es c)) (o:Obj):(setObj b o).run P w = .ok () (setBlock w b o):=by
 simp [setObj,Sem.run,hb,setBlock]
theorem e_mu {t kt et:TypeId} {m x y:Operand} {b:Nat} {k v:Int} {l:List (Int×Int)} (hm:(toO m).ev ρ=some (.map (some b))) (hx:(toO x).ev ρ=some (I k)) (hy:(toO y).ev ρ=some (I v)) (ht:P.underlying t=some (.map kt et)) (hkt:P.underlying kt=some (.int .i64))
   (h:MapAt w b l) (hk:∀ w',MapAt w' b (lput l k v)→Mod (· = b) w w'→w'.heap.size=w.heap.size→K undef w'):E.wp P w ρ K (.raw ⟨d,.mapUpdate t m x y,ty,pos,af,none⟩):=by
 obtain ⟨es,clock,h1,h2,h3,h4⟩:=h;have hkey:=findKey_int (P:=P) (w:=w) hkt k es.toList l h2;have hsz:es.size=l.length:=by have:=congrArg List.length h2;simpa using this
 cases hI:l.findIdx? (fun p=>p.1 == k) with
 | none=>
   rw [hI] at hkey;have e1:(Instr.mapUpdate t (.map (some b)) (I k) (I v)).run P w = .ok () (setBlock w b (.map (es.push { key:=I k,val:=I v,born:=clock}) (clock+1))):=by
     simp only [Instr.mapUpdate,Sem.run_bind,run_underlying ht,Result.andThen,getObj,Sem.run,h1,checkKey_int hkt,Sem.run_pure]
     erw [hkey]
     exact run_setObj_map h1 _
   refine opWp_of_skip fun a ha=>⟨_,?_,hk (setBlock w b (.map (es.push { key:=I k,val:=I v,born:=clock}) (clock+1))) ⟨_,_,heap_setBlock_same h1 _,?_,?_,?_⟩ (mod_setBlock w b _ h1) (size_setBlock w b _)⟩
   · simp only [execOp,Sem.run_bind,ha m _ hm,ha x _ hx,ha y _ hy,e1,Result.andThen];rfl
   · simp [lput,hI,h2]
   · intro e he;simp only [Array.toList_push,List.mem_append,List.mem_cons,List.not_mem_nil,or_false] at he;rcases he with he | rfl
     · exact Nat.lt_succ_of_lt (h3 e he)
     · exact Nat.lt_succ_self _
   · simp only [Array.toList_push,List.map_append,List.map_cons,List.map_nil];rw [List.nodup_append];refine ⟨h4,by simp,?_⟩;intro x hx y hy hxy;simp only [List.mem_cons,List.not_mem_nil,or_false] at hy;obtain ⟨e,he,rfl⟩:=List.mem_map.1 hx;have:=h3 e he;omega
 | some i=>
   rw [hI] at hkey;have hil:i < l.length:=by
     have:=List.findIdx?_eq_some_iff_getElem.1 hI;exact this.1
   have hie:i < es.size:=by omega
   have hki:(es[i]).key=I k:=by
     have h5:es.toList[i]'(by simpa using hie)=es[i]:=by simp
     have h6:=congrArg (fun z=>z[i]?) h2;simp only [List.getElem?_map,List.getElem?_eq_getElem (show i < es.toList.length by simpa using hie),List.getElem?_eq_getElem hil,Option.map_some,Option.some.injEq,Prod.mk.injEq] at h6;have h7:=(List.findIdx?_eq_some_iff_getElem.1 hI).2.1;rw [← h5,h6.1];simp at h7;rw [h7]
   have hst:(Instr.keyThatStays (((es[i]?).map (·.key)).getD (I k)) (I k)).run P w = .ok (I k) w:=by
     rw [Array.getElem?_eq_getElem hie,Option.map_some,Option.getD_some,hki];simp [Instr.keyThatStays,Instr.sameBits,I]
   have e1:(Instr.mapUpdate t (.map (some b)) (I k) (I v)).run P w = .ok () (setBlock w b (.map (es.modify i fun e=>{ e with key:=I k,val:=I v}) clock)):=by
     simp only [Instr.mapUpdate,Sem.run_bind,run_underlying ht,Result.andThen,getObj,Sem.run,h1,checkKey_int hkt,Sem.run_pure]
     erw [hkey]
     simp only [Option.map_some,Sem.run_bind,hst,Result.andThen];exact run_setObj_map h1 _
   refine opWp_of_skip fun a ha=>⟨_,?_,hk (setBlock w b (.map (es.modify i fun e=>{ e with key:=I k,val:=I v}) clock)) ⟨_,_,heap_setBlock_same h1 _,?_,?_,?_⟩ (mod_setBlock w b _ h1) (size_setBlock w b _)⟩
   · simp only [execOp,Sem.run_bind,ha m _ hm,ha x _ hx,ha y _ hy,e1,Result.andThen];rfl
   · simp only [lput,hI];apply List.ext_getElem?;intro j;have h6:=congrArg (fun z=>z[j]?) h2;simp only [List.getElem?_map] at h6 ⊢;rw [Array.toList_modify,List.getElem?_modify,List.getElem?_set];by_cases hij:i=j
     · subst hij;simp [hil,show i < es.toList.length by simpa using hie,hie]
     · rw [if_neg hij]
       simpa [hij] using h6
   · intro e he;rw [Array.toList_modify] at he;obtain ⟨j,hj,rfl⟩:=List.getElem_of_mem he;rw [List.getElem_modify];have hm:es.toList[j]'(by simpa using hj)∈es.toList:=List.getElem_mem _;have h5:=h3 _ hm
     split<;>exact h5
   · have:(es.modify i fun e=>{ e with key:=I k,val:=I v}).toList.map (·.born)=es.toList.map (·.born):=by
       apply List.ext_getElem?;intro j;rw [Array.toList_modify];simp only [List.getElem?_map,List.getElem?_modify];by_cases hij:i=j
       · subst hij;cases es.toList[i]?<;>simp
       · simp [hij]
     rw [this];exact h4
theorem e_dl {t kt et:TypeId} {at':Array TypeId} {m x:Operand} {b:Nat} {k:Int} {l:List (Int×Int)} (hat:at'[0]? = some t) (hm:(toO m).ev ρ=some (.map (some b))) (hx:(toO x).ev ρ=some (I k)) (ht:P.underlying t=some (.map kt et)) (hkt:P.underlying kt=some (.int .i64))
   (h:MapAt w b l) (hk:∀ w',MapAt w' b (ldel l k)→Mod (· = b) w w'→w'.heap.size=w.heap.size→K (.tuple #[]) w'):E.wp P w ρ K (.raw ⟨d,.call { callee:=.builtin .delete,args:=#[m,x],argTypes:=at'},ty,pos,af,none⟩):=by
 obtain ⟨es,clock,h1,h2,h3,h4⟩:=h;have hkey:=findKey_int (P:=P) (w:=w) hkt k es.toList l h2;have hsz:es.size=l.length:=by have:=congrArg List.length h2;simpa using this
 have run:∀ es',(Builtin.delete_ at' ty #[.map (some b),I k]).run P w = .ok (.tuple #[]) (setBlock w b (.map es' clock))→∀ a,Agree ρ a→(execOp a.eval ⟨d,.call { callee:=.builtin .delete,args:=#[m,x],argTypes:=at'},ty,pos,af,none⟩).run P w = .ok (.value (.tuple #[])) (setBlock w b (.map es' clock)):=by
   intro es' he a ha;simp only [execOp,resolve,invoke,builtin,Sem.run_bind,Sem.run_pure,Result.andThen,List.map_toArray,List.map_cons,List.map_nil,ha m _ hm,ha x _ hx]
   erw [he]
 have a0:(#[Value.map (some b),I k]:Array Value)[0]? = some (.map (some b)):=rfl;have a1:(#[Value.map (some b),I k]:Array Value)[1]? = some (I k):=rfl;cases hI:l.findIdx? (fun p=>p.1 == k) with
 | none=>
   rw [hI] at hkey;have e1:(Builtin.delete_ at' ty #[.map (some b),I k]).run P w = .ok (.tuple #[]) (setBlock w b (.map es clock)):=by
     simp only [Builtin.delete_,hat,a0,a1,Sem.run_bind,run_underlying ht,Result.andThen,getObj,Sem.run,h1,checkKey_int hkt,Sem.run_pure]
     erw [hkey]
     simp only [Option.map_none,Sem.run_bind,run_setObj_map h1,Result.andThen];rfl
   refine opWp_of_run fun a ha=>⟨_,_,run es e1 a ha,hk _ ⟨_,_,heap_setBlock_same h1 _,?_,h3,h4⟩ (mod_setBlock w b _ h1) (size_setBlock w b _)⟩
   simpa [ldel,hI] using h2
 | some i=>
   rw [hI] at hkey;have hil:i < l.length:=(List.findIdx?_eq_some_iff_getElem.1 hI).1;have hie:i < es.size:=by omega
   have e1:(Builtin.delete_ at' ty #[.map (some b),I k]).run P w = .ok (.tuple #[]) (setBlock w b (.map (es.eraseIdxIfInBounds i) clock)):=by
     simp only [Builtin.delete_,hat,a0,a1,Sem.run_bind,run_underlying ht,Result.andThen,getObj,Sem.run,h1,checkKey_int hkt,Sem.run_pure]
     erw [hkey]
     simp only [Option.map_some,Sem.run_bind,run_setObj_map h1,Result.andThen];rfl
   have hel:(es.eraseIdxIfInBounds i).toList=es.toList.eraseIdx i:=by simp [Array.eraseIdxIfInBounds,hie,Array.toList_eraseIdx]
   refine opWp_of_run fun a ha=>⟨_,_,run _ e1 a ha,hk _ ⟨_,_,heap_setBlock_same h1 _,?_,?_,?_⟩ (mod_setBlock w b _ h1) (size_setBlock w b _)⟩
   · rw [hel,map_eraseIdx];simp only [ldel,hI];rw [h2,map_eraseIdx]
   · intro e he;rw [hel] at he;exact h3 e (List.mem_of_mem_eraseIdx he)
   · rw [hel,map_eraseIdx];exact h4.sublist (List.eraseIdx_sublist _ _)
theorem e_cl {t kt et:TypeId} {at':Array TypeId} {m:Operand} {b:Nat} {l:List (Int×Int)} (hat:at'[0]? = some t) (hm:(toO m).ev ρ=some (.map (some b))) (ht:P.underlying t=some (.map kt et))
   (h:MapAt w b l) (hk:∀ w',MapAt w' b []→Mod (· = b) w w'→w'.heap.size=w.heap.size→K (.tuple #[]) w'):E.wp P w ρ K (.raw ⟨d,.call { callee:=.builtin .clear,args:=#[m],argTypes:=at'},ty,pos,af,none⟩):=by
 obtain ⟨es,clock,h1,h2,h3,h4⟩:=h;refine opWp_of_run fun a ha=>⟨_,_,?_,hk (setBlock w b (.map #[] clock)) ⟨_,_,heap_setBlock_same h1 _,rfl,by simp,by simp⟩ (mod_setBlock w b _ h1) (size_setBlock w b _)⟩
 have a0:(#[Value.map (some b)]:Array Value)[0]? = some (.map (some b)):=rfl;have e1:(Builtin.clear_ at' ty #[.map (some b)]).run P w = .ok (.tuple #[]) (setBlock w b (.map #[] clock)):=by
   simp only [Builtin.clear_,hat,a0,Sem.run_bind,run_underlying ht,Result.andThen,getObj,Sem.run,h1,Sem.run_pure];simp only [run_setObj_map h1]
 simp only [execOp,resolve,invoke,builtin,Sem.run_bind,Sem.run_pure,Result.andThen,List.map_toArray,List.map_cons,List.map_nil,ha m _ hm]
 erw [e1]
theorem e_cv {f:FuncId} {fn:Func} {cap:Array Value} {x:Operand} {args:Array Operand} {at':Array TypeId} {vs:List Value} (hx:(toO x).ev ρ=some (.func (.func f) #[] cap)) (ha':evs ρ (args.toList.map toO)=some vs)
   (hfn:P.funcs[f]? = some fn) (hbody:fn.body.isSome=true) (hname:(fn.name == "runtime.NumGoroutine")=false) (h:CallsR P f (vs++cap.toList) w K) :
   E.wp P w ρ K (.raw ⟨d,.call { callee:=.value x,args:=args,argTypes:=at'},ty,pos,af,none⟩):=by
 intro a ha;have hargs:args.map a.eval=vs.toArray:=by
   have key:∀ (l:List Operand) (vs:List Value),evs ρ (l.map toO)=some vs→l.map a.eval=vs:=by
     intro l
     induction l with
     | nil=>intro vs h;simp only [List.map_nil,evs,Option.some.injEq] at h;subst h;rfl
     | cons y l ih=>
       intro vs h;simp only [List.map_cons,evs] at h;cases h1:(toO y).ev ρ with
       | none=>simp [h1] at h
       | some u=>
         cases h2:evs ρ (l.map toO) with
         | none=>simp [h1,h2] at h
         | some us=>
           simp [h1,h2] at h;subst h;rw [List.map_cons,ha y u h1,ih us h2]
   have:=key args.toList vs ha';apply Array.ext'
   simpa using this
 have hn:fn.body.isNone=false:=by cases hb:fn.body<;>simp [hb] at hbody ⊢
 unfold Oper.wp;have e1:(execOp a.eval ⟨d,.call { callee:=.value x,args:=args,argTypes:=at'},ty,pos,af,none⟩).run P w = .ok (.enter f (vs++cap.toList).toArray) w:=by
   have g1:ro P w program=some P:=rfl;have g2:vs.toArray++cap=(vs++cap.toList).toArray:=by apply Array.ext';simp
   simp only [execOp,resolve,Deferred.ofValue,Sem.run_bind,Sem.run_pure,Result.andThen_ok,invoke,callFunc,ro_run g1,hfn,ha x _ hx,hargs,Array.empty_append,g2];rw [if_neg (by rw [hname];simp),if_neg (by rw [hn];simp)];rfl
 rw [e1];simp only [Oper.upon];unfold CallsR at h;refine h.mono ?_;rintro e w' ⟨v,rfl,hk⟩;exact ⟨v,rfl,hk⟩
theorem e_iv {f:FuncId} {fn:Func} {t:TypeId} {u rv:Value} {name:String} {x:Operand} {args:Array Operand} {at':Array TypeId} {vs:List Value} (hx:(toO x).ev ρ=some (.iface t u)) (ha':evs ρ (args.toList.map toO)=some vs)
   (hm:(method (P.types.size+Made.depth) t u name).run P w = .ok (f,rv) w)
   (hfn:P.funcs[f]? = some fn) (hbody:fn.body.isSome=true) (hname:(fn.name == "runtime.NumGoroutine")=false) (h:CallsR P f (rv::vs) w K) :
   E.wp P w ρ K (.raw ⟨d,.call { callee:=.invoke x name,args:=args,argTypes:=at'},ty,pos,af,none⟩):=by
 intro a ha;have hargs:args.map a.eval=vs.toArray:=by
   have key:∀ (l:List Operand) (vs:List Value),evs ρ (l.map toO)=some vs→l.map a.eval=vs:=by
     intro l
     induction l with
     | nil=>intro vs h;simp only [List.map_nil,evs,Option.some.injEq] at h;subst h;rfl
     | cons y l ih=>
       intro vs h;simp only [List.map_cons,evs] at h;cases h1:(toO y).ev ρ with
       | none=>simp [h1] at h
       | some u=>
         cases h2:evs ρ (l.map toO) with
         | none=>simp [h1,h2] at h
         | some us=>
           simp [h1,h2] at h;subst h;rw [List.map_cons,ha y u h1,ih us h2]
   have:=key args.toList vs ha';apply Array.ext'
   simpa using this
 have hn:fn.body.isNone=false:=by cases hb:fn.body<;>simp [hb] at hbody ⊢
 unfold Oper.wp;have e1:(execOp a.eval ⟨d,.call { callee:=.invoke x name,args:=args,argTypes:=at'},ty,pos,af,none⟩).run P w = .ok (.enter f (rv::vs).toArray) w:=by
   have g1:ro P w program=some P:=rfl;have g3:(#[Value.iface t u]++vs.toArray).extract 1 (#[Value.iface t u]++vs.toArray).size=vs.toArray:=by apply Array.ext';simp
   have g0:(#[Value.iface t u]++vs.toArray)[0]? = some (.iface t u):=by simp
   have g2 : #[rv]++vs.toArray=(rv::vs).toArray:=by apply Array.ext';simp
   simp only [execOp,resolve,Sem.run_bind,Sem.run_pure,Result.andThen_ok,invoke,g0,g3,callMethod,callFunc,ro_run g1,hm,hfn,ha x _ hx,hargs,g2];rw [if_neg (by rw [hname];simp),if_neg (by rw [hn];simp)];rfl
 rw [e1];simp only [Oper.upon];unfold CallsR at h;refine h.mono ?_;rintro e w' ⟨v,rfl,hk⟩;exact ⟨v,rfl,hk⟩
def kv (e:MapEntry):Value×Value:=(e.key,e.val)
def I2 (p:Int×Int):Value×Value:=(I p.1,I p.2)
def ItAt (w:World) (r b:Nat) (l left:List (Int×Int)):Prop:=
 ∃ es clock since seen c0,w.heap[r]? = some (.mapIter (some b) since seen c0)∧w.heap[b]? = some (.map es clock)∧es.toList.map kv=l.map I2∧(∀ e∈es.toList,e.born < since)∧since≤c0∧since≤clock∧(es.toList.map (·.born)).Nodup ∧
   (leftOf es seen).toList.map kv=left.map I2
def CurAt (w:World) (r b:Nat) (p:Int×Int):Prop:=
 ∃ (es:Array MapEntry) (clock since:Nat) (seen:Array Nat) (e:MapEntry),w.heap[r]? = some (.mapIter (some b) since (seen.push e.born) clock)∧w.heap[b]? = some (.map es clock)∧e∈es.toList∧(es.toList.map (·.born)).Nodup∧kv e=I2 p
theorem it_mod {w w':World} {r b:Nat} {l left:List (Int×Int)} {S:Nat→Prop} (h:ItAt w r b l left) (hm:Mod S w w') (hr:¬ S r) (hb:¬ S b):ItAt w' r b l left:=by
 obtain ⟨es,c,s,seen,c0,h1,h2,h3⟩:=h;exact ⟨es,c,s,seen,c0,hm.at h1 hr,hm.at h2 hb,h3⟩
theorem e_rg {t kt et:TypeId} {m:Operand} {b:Nat} {l:List (Int×Int)} (hm:(toO m).ev ρ=some (.map (some b))) (ht:P.underlying t=some (.map kt et)) (h:MapAt w b l)
   (hk:∀ w',ItAt w' w.heap.size b l l→Mod (fun _=>False) w w'→w'.heap.size=w.heap.size+1→K (.pointer (some ⟨w.heap.size,0,none⟩)) w'):E.wp P w ρ K (.raw ⟨d,.range t m,ty,pos,af,none⟩):=by
 obtain ⟨es,clock,h1,h2,h3,h4⟩:=h;refine opWp_of_run fun a ha=>⟨_,_,?_,hk (w.alloc (.mapIter (some b) clock #[] clock)) ⟨es,clock,clock,#[],clock,heap_alloc_new w _,?_,h2,h3,Nat.le_refl _,Nat.le_refl _,h4,?_⟩ (mod_alloc _ w _) (by simp)⟩
 · have e1:(Instr.range t (.map (some b))).run P w = .ok (.pointer (some ⟨w.heap.size,0,none⟩)) (w.alloc (.mapIter (some b) clock #[] clock)):=by
     simp only [Instr.range,Sem.run_bind,run_underlying ht,Result.andThen,getObj,Sem.run,h1,Sem.run_pure];rfl
   simp only [execOp,Sem.run_bind,ha m _ hm,e1,Result.andThen];rfl
 · exact (mod_alloc (fun _=>False) w _).at h1 (fun h=>h)
 · have:(leftOf es #[])=es:=by simp [leftOf]
   rw [this];exact h2
theorem left_push (es:Array MapEntry) (seen:Array Nat) (hn:(es.toList.map (·.born)).Nodup) {i:Nat} (hi:i < (leftOf es seen).toList.length) :
   (leftOf es (seen.push ((leftOf es seen).toList[i]).born)).toList=(leftOf es seen).toList.eraseIdx i:=by
 have hL:(leftOf es seen).toList=es.toList.filter (fun e=>!seen.contains e.born):=by simp [leftOf]
 have hsub:((leftOf es seen).toList.map (·.born)).Nodup:=by
   rw [hL];exact hn.sublist ((List.filter_sublist).map _)
 generalize hb:((leftOf es seen).toList[i]).born=bn;have h2:(leftOf es (seen.push bn)).toList=(leftOf es seen).toList.filter (fun e=>!(e.born == bn)):=by
   rw [hL];simp only [leftOf,Array.toList_filter,List.filter_filter];apply List.filter_congr;intro e _;simp only [Array.contains_push];cases seen.contains e.born<;>cases (e.born == bn)<;>rfl
 rw [h2];generalize (leftOf es seen).toList=L at hi hsub hb;clear h2 hL
 induction L generalizing i with
 | nil=>simp at hi
 | cons e L ih=>
   simp only [List.map_cons,List.nodup_cons] at hsub;cases i with
   | zero=>
     simp only [List.getElem_cons_zero] at hb;subst hb;rw [List.eraseIdx_cons_zero,List.filter_cons,if_neg (by simp),List.filter_eq_self];intro x hx;have:x.born≠e.born:=fun hh=>hsub.1 (hh ▸ List.mem_map.2 ⟨x,hx,rfl⟩)
     simp [this]
   | succ i=>
     simp only [List.getElem_cons_succ] at hb;have hi':i < L.length:=by simpa using hi
     have hne:e.born≠bn:=fun hh=>hsub.1 (by rw [hh,← hb];exact List.mem_map.2 ⟨_,List.getElem_mem hi',rfl⟩)
     rw [List.eraseIdx_cons_succ,List.filter_cons,if_pos (by simp [hne]),ih hi' hsub.2 hb]
theorem e_nx {m:Operand} {r b:Nat} {l left:List (Int×Int)} (hm:(toO m).ev ρ=some (.pointer (some ⟨r,0,none⟩))) (h:ItAt w r b l left) (hrb:r≠b)
   (h0:left=[]→K (.tuple #[.bool false]) w)
   (h1:∀ i (hi:i < left.length) w',ItAt w' r b l (left.eraseIdx i)→CurAt w' r b left[i]→Mod (· = r) w w'→w'.heap.size=w.heap.size→K (.tuple #[.bool true,I left[i].1,I left[i].2]) w') :
   E.wp P w ρ K (.raw ⟨d,.next m false,ty,pos,af,none⟩):=by
 obtain ⟨es,clock,since,seen,c0,k1,k2,k3,k4,k5,k6,k7,k8⟩:=h;have hll:left.length=(leftOf es seen).toList.length:=by have:=congrArg List.length k8;simpa using this.symm
 rcases run_next_at (P:=P) w ty r b since c0 seen es clock k1 k2 k4 k5 with ⟨z1,z2⟩ | ⟨e,he,w1,hw1,z2⟩
 · refine opWp_of_run fun a ha=>⟨_,_,?_,h0 (List.eq_nil_of_length_eq_zero (by rw [hll];simpa using z1))⟩
   simp only [execOp,Sem.run_bind,ha m _ hm,z2,Result.andThen];rfl
 · obtain ⟨i,hi,hie⟩:=List.getElem_of_mem he;have hil:i < left.length:=by rw [hll];exact hi
   have hkv:kv e=I2 left[i]:=by
     have:=congrArg (fun z=>z[i]?) k8;simp only [List.getElem?_map,List.getElem?_eq_getElem hi,List.getElem?_eq_getElem hil,Option.map_some,Option.some.injEq] at this;rw [← hie];exact this
   have hm1:Mod (· = r) w (setBlock w1 r (.mapIter (some b) since (seen.push e.born) clock)):=by
     rcases hw1 with rfl | rfl
     · exact ⟨by simp [setBlock],fun j hj hn=>by simp only [setBlock];rw [Array.getElem?_setIfInBounds,if_neg (fun hh=>hn hh.symm)],rfl,rfl,rfl⟩
     · exact ⟨by simp [setBlock],fun j hj hn=>by simp only [setBlock];rw [Array.getElem?_setIfInBounds,if_neg (fun hh=>hn hh.symm)];rfl,rfl,rfl,rfl⟩
   have hrl:=lt_of_heap k1;have hr':(setBlock w1 r (.mapIter (some b) since (seen.push e.born) clock)).heap[r]? = some (.mapIter (some b) since (seen.push e.born) clock):=by
     rcases hw1 with rfl | rfl<;>simp [setBlock,hrl]
   have hb':=hm1.at k2 (fun hh=>hrb hh.symm);have hsz:(setBlock w1 r (.mapIter (some b) since (seen.push e.born) clock)).heap.size=w.heap.size:=by
     rcases hw1 with rfl | rfl<;>simp [setBlock]
   have e2:(.tuple #[.bool true,I left[i].1,I left[i].2]:Value) = .tuple #[.bool true,e.key,e.val]:=by
     have q:=hkv;simp only [kv,I2,Prod.mk.injEq] at q;rw [q.1,q.2]
   refine opWp_of_run fun a ha=>⟨_,_,?_,h1 i hil (setBlock w1 r (.mapIter (some b) since (seen.push e.born) clock)) ⟨es,clock,since,seen.push e.born,clock,hr',hb',k3,k4,k6,k6,k7,?_⟩ ⟨es,clock,since,seen,e,hr',hb',?_,k7,hkv⟩ hm1 hsz⟩
   · rw [e2];simp only [execOp,Sem.run_bind,ha m _ hm,z2,Result.andThen];rfl
   · have:=left_push es seen k7 hi;rw [hie] at this;rw [this,map_eraseIdx,k8,map_eraseIdx]
   · have hL:(leftOf es seen).toList=es.toList.filter (fun e=>!seen.contains e.born):=by simp [leftOf]
     rw [hL] at he;exact (List.mem_filter.1 he).1
theorem e_en {m:Operand} {r b:Nat} {p:Int×Int} (hm:(toO m).ev ρ=some (.pointer (some ⟨r,0,none⟩))) (h:CurAt w r b p) (hk:K (.tuple #[I p.1,I p.2]) w):E.wp P w ρ K (.raw ⟨d,.entry m,ty,pos,af,none⟩):=by
 obtain ⟨es,clock,since,seen,e,h1,h2,h3,h4,h5⟩:=h;have:=run_entry_at (P:=P) w r b since seen es clock e h1 h2 h3 h4;simp only [kv,I2,Prod.mk.injEq] at h5;rw [h5.1,h5.2] at this;refine opWp_of_run fun a ha=>⟨_,_,?_,hk⟩
 simp only [execOp,Sem.run_bind,ha m _ hm,this,Result.andThen];rfl
theorem e_b0 {t el:TypeId} {n:Nat} (ht:P.underlying t=some (.slice el)) (hn:szOf P el=some n) (hk:∀ w',w'.heap[w.heap.size]? = some (.cells #[] el (0,0))→Mod (fun _=>False) w w'→w'.heap.size=w.heap.size+1→K (.slice (some ⟨w.heap.size,0,none⟩) 0 0) w') :
   E.wp P w ρ K (.raw ⟨d,.buildSlice t 0 #[],ty,pos,af,none⟩):=by
 refine opWp_of_run fun a ha=>⟨_,_,?_,hk (w.alloc (.cells #[] el)) (heap_alloc_new w _) (mod_alloc _ w _) (by simp)⟩
 have g1:ro P w (underlying t)=some (.slice el):=by rw [ro_underlying,ht]
 have g2:ro P w (sizeOf el)=some n:=by rw [ro_sizeOf];exact hn
 simp only [execOp,Instr.buildSlice,Sem.run_bind,ro_run g1,ro_run g2,Result.andThen_ok,Sem.run_pure,Nat.zero_mul];simp [newRow,Instr.fill,show Array.range 0 = #[] from rfl]
end
end
section
open Go
variable {dl:List Deferred} {P:Program} {N:Nat} {ops:Array Oper}
def noDef (o:Oper):Bool:=match o.op with
 | .defer _=>false
 | _=>true
theorem noDef_spec {o:Oper} (h:noDef o=true):∀ c,o.op≠.defer c:=by
 intro c hc;simp [noDef,hc] at h
theorem rows_in {l n:Nat} {row:String} {args:Array Value} {w:World} {R:Value→World→Prop} (h:Rows P row args w R):RowsIn (Fence.wide.inRound l) n P row args w R:=by
 intro c cs _;obtain ⟨v,w',h1,h2⟩:=h c cs;exact ⟨v,w',h1,stepsIn_wide.2 h2⟩
theorem upon_in {l n:Nat} {o:Oper} {a:Act} {K:Act→World→Prop} {Q:Exit→Act→World→Prop} {r:Result Next} (h:o.upon P a K NoQ r):o.uponIn (Fence.wide.inRound l) n P a K Q r:=by
 cases r with
 | ok x w'=>
   cases x<;>simp only [Oper.upon] at h<;>first
     | exact h
     | exact ⟨fun hh=>(by cases hh),(CallsIn.inRound l (callsIn_wide.2 h)).mono (fun e w'' he=>by
         cases e with
         | returned v=>exact he
         | panicked c=>exact False.elim he
         | outgrown=>obtain ⟨_,_,hf⟩:=he;exact False.elim hf)⟩
     | exact ⟨fun hh=>(by cases hh),rows_in h⟩
     | exact False.elim h
 | halt x w'=>cases x<;>simp only [Oper.upon] at h<;>exact False.elim h
theorem oper_in {l n:Nat} {o:Oper} {a:Act} {w:World} {K:Act→World→Prop} {Q:Exit→Act→World→Prop} (hd:noDef o=true) (h:o.wp P a w K NoQ):o.wpIn (Fence.wide.inRound l) n P a w K Q:=
 ⟨fun _ _=>trivial,by rw [Oper.semAt_eq _ _ _ (noDef_spec hd)];exact upon_in h⟩
theorem gList_in {l n:Nat} {G:Act→World→Prop} {Q:Exit→Act→World→Prop} (hQ:∀ a w,G a w→Q .normal a w):∀ (L:List Oper) (a:Act) (w:World),L.all noDef=true→gList P ops G L a w→wpListIn (Fence.wide.inRound l) n P ops Q L a w
 | [],a,w,_,h=>hQ a w h
 | o::L,a,w,hd,h=>by
   simp only [List.all_cons,Bool.and_eq_true] at hd;unfold gList at h;unfold wpListIn
   split
   · rename_i hw;rw [if_pos hw] at h;exact oper_in hd.1 (Oper.wp_mono (fun a w hh=>gList_in hQ L a w hd.2 hh) h)
   · rename_i hw;rw [if_neg hw] at h;exact ⟨fun _ _=>trivial,gList_in hQ L _ _ hd.2 h⟩
theorem wpAnyIn_of_B {l n:Nat} {B:Nat→Nat→Prop} {Q:Act→World→Prop} {Q':Exit→Act→World→Prop} (hQ:∀ a w,Q a w→Q' .normal a w) (hd:ops.all noDef=true) :
   ∀ (f:Nat) (listed:Array Bool) (a:Act) (w:World),wpAnyB P ops B Q f listed a w→wpAnyIn (Fence.wide.inRound l) n P .any ops Q' f listed a w:=by
 intro f
 induction f with
 | zero=>intro listed a w h;exact ⟨h.1,hQ _ _ h.2⟩
 | succ f ih=>
   intro listed a w h;refine ⟨fun h0=>hQ _ _ (h.1 h0),fun i hi=>?_⟩;obtain ⟨o,ho,hg⟩:=h.2 i hi;have hdo:noDef o=true:=by
     rw [Array.all_eq_true] at hd;obtain ⟨h1,h2⟩:=Array.getElem?_eq_some_iff.1 ho;have:=hd i h1;rw [h2] at this;exact this
   unfold wpOpIn;simp only [ho]
   split
   · rename_i hw;rw [if_pos hw] at hg;exact oper_in hdo (Oper.wp_mono (fun a' w' hh=>ih _ _ _ hh.2) hg)
   · rename_i hw;rw [if_neg hw] at hg;exact ⟨fun _ _=>trivial,ih _ _ _ hg.2⟩
theorem region_drawIn {l n:Nat} {id:Nat} {pm:List Nat} {Q:Exit→Act→World→Prop} {K:Env→World→Prop} {t:D} {ρ:Env} {a:Act} {w:World} (hm:P.follows .mixedOrders=true) (hpm:pmOk ops pm=true)
   (hsel:Region.noSelect ops=true) (hd:ops.all noDef=true) (ht:resD P N ops pm ops.size (Array.replicate ops.size false)=some t) (h:wpD P t ρ w.drew [] K) (hg:Good dl N ρ a)
   (hQ:∀ ρ' a' w',Good dl N ρ' a'→K ρ' w'→Q .normal a' w'):(Code.region id ops true).wpIn (Fence.wide.inRound l) n P Q a w:=by
 refine wpIn_region_any hm (wpAnyIn_of_B (B:=Brd pm []) (Q:=GoodK dl N K) (fun a' w' ⟨ρ',h1,h2⟩=>hQ ρ' a' w' h1 h2) hd _ _ _ _ ?_);refine resD_sound hpm hsel _ _ t ρ a w.drew [] ht h hg ?_ (fun _ _ h=>by cases h);intro j oj _ hl;have:(Array.replicate ops.size false).getD j false=false:=by
   rcases Nat.lt_or_ge j ops.size with h | h
   · simp [h]
   · simp [h]
 rw [this] at hl;cases hl
def calm:Code→Bool
 | .skip=>true
 | .ret=>true
 | .exit _=>true
 | .seq a b=>calm a&&calm b
 | .cond _ a b=>calm a&&calm b
 | .block _ a=>calm a
 | .region _ ops _=>ops.all noDef
 | _=>false
def cooked:IR→Bool
 | .raw _=>false
 | .loop _=>false
 | .seq a b=>cooked a&&cooked b
 | .cond _ a b=>cooked a&&cooked b
 | .block _ a=>cooked a
 | _=>true
theorem decompIn_sound {l n:Nat} {H:List (Nat×List Nat×List Nat)}:∀ (c:Code) (ir:IR) (Q:Post) (ρ:Env) (a:Act) (w:World),decomp P N H c=some ir→calm c=true→cooked ir=true→irwp P N ir Q ρ w→Good dl N ρ a →
   c.wpIn (Fence.wide.inRound l) n P (liftQ dl N Q) a w:=by
 intro c
 induction c with
 | skip=>intro ir Q ρ a w h _ _ hw hg;simp only [decomp,Option.some.injEq] at h;subst h;exact wpIn_skip ⟨ρ,hg,hw⟩
 | ret=>intro ir Q ρ a w h _ _ hw hg;simp only [decomp,Option.some.injEq] at h;subst h;exact wpIn_ret ⟨ρ,hg,hw⟩
 | exit id=>intro ir Q ρ a w h _ _ hw hg;simp only [decomp,Option.some.injEq] at h;subst h;exact wpIn_exit ⟨ρ,hg,hw⟩
 | seq x y ihx ihy=>
   intro ir Q ρ a w h hc hk hw hg;simp only [decomp] at h;obtain ⟨a1,h1,h⟩:=Option.bind_eq_some_iff.1 h;obtain ⟨b1,h2,h⟩:=Option.map_eq_some_iff.1 h;subst h;simp only [calm,cooked,Bool.and_eq_true] at hc hk;refine wpIn_seq (wpIn_mono (ihx a1 _ ρ a w h1 hc.1 hk.1 hw hg) ?_);intro e a' w' hq;obtain ⟨ρ',hg',hq⟩:=hq;cases e with
   | normal=>exact ihy b1 Q ρ' a' w' h2 hc.2 hk.2 hq hg'
   | _=>exact ⟨ρ',hg',hq⟩
 | cond c x y ihx ihy=>
   intro ir Q ρ a w h hc hk hw hg;simp only [decomp] at h;obtain ⟨a1,h1,h⟩:=Option.bind_eq_some_iff.1 h;obtain ⟨b1,h2,h⟩:=Option.map_eq_some_iff.1 h;subst h;simp only [calm,cooked,Bool.and_eq_true] at hc hk;obtain ⟨t,hcv,ht,hf⟩:=hw;have he:=hg.agree c _ hcv;exact wpIn_cond_split he (fun e=>ihx a1 Q ρ a w h1 hc.1 hk.1 (ht e) hg) (fun e=>ihy b1 Q ρ a w h2 hc.2 hk.2 (hf e) hg)
 | block id x ih=>
   intro ir Q ρ a w h hc hk hw hg;simp only [decomp] at h;obtain ⟨a1,h1,h⟩:=Option.map_eq_some_iff.1 h;subst h;simp only [calm,cooked] at hc hk;refine wpIn_block (wpIn_mono (ih a1 _ ρ a w h1 hc hk hw hg) ?_);intro e a' w' hq;obtain ⟨ρ',hg',hq⟩:=hq;cases e with
   | exit id'=>
     simp only [Exit.inBlock,blkQ] at hq ⊢
     split
     · rename_i hh;rw [if_pos hh] at hq;exact ⟨ρ',hg',hq⟩
     · rename_i hh;rw [if_neg hh] at hq;exact ⟨ρ',hg',hq⟩
   | _=>exact ⟨ρ',hg',hq⟩
 | region id ops draw=>
   intro ir Q ρ a w h hc hk hw hg;simp only [calm] at hc;simp only [decomp] at h;obtain ⟨x,hx,h0⟩:=Option.bind_eq_some_iff.1 h;clear h;have h:=h0;clear h0;obtain ⟨kp,pm⟩:=x;unfold decompR at h;have fin:∀ ρ' a' w',Good dl N ρ' a'→Q .normal (ρ'.keep kp) w'→liftQ dl N Q .normal a' w':=fun ρ' a' w' hg' hq=>⟨_,hg'.keep kp,hq⟩
   have hcl:ops.toList.all noDef=true:=by simpa using hc
   split at h
   · rename_i hd;subst hd
     split at h
     · rename_i hcc;simp only [Bool.and_eq_true] at hcc;obtain ⟨⟨hs,hpm⟩,hm⟩:=hcc
       split at h
       · rename_i t ht
         split at h
         · rename_i st hst;simp only [Option.some.injEq] at h;subst h;exact region_drawIn (K:=fun ρ w=>Q .normal (ρ.keep kp) w) hm hpm hs hc ht (toS_sound t st ρ _ [] hst hw) hg fin
         · simp only [Option.some.injEq] at h;subst h;exact region_drawIn (K:=fun ρ w=>Q .normal (ρ.keep kp) w) hm hpm hs hc ht hw hg fin
       · simp only [Option.some.injEq] at h;subst h;simp [cooked] at hk
     · simp only [Option.some.injEq] at h;subst h;simp [cooked] at hk
   · rename_i hd;have:draw=false:=by simpa using hd
     subst this;obtain ⟨st,hst,h⟩:=Option.map_eq_some_iff.1 h;subst h;cases hcp:cpL N kp [] st with
     | none=>
       rw [hcp] at hw;exact wpIn_region_list (gList_in (fun _ _ h=>h) _ _ _ hcl (resAll_sound (G:=fun a w=>liftQ dl N Q .normal a w) ops.toList st ρ a w (fun ρ w=>Q .normal (ρ.keep kp) w) hst hw hg fin))
     | some st'=>
       rw [hcp] at hw;exact wpIn_region_list (gList_in (fun _ _ h=>h) _ _ _ hcl (cpL_sound (G:=fun a w=>liftQ dl N Q .normal a w) (K:=fun ρ w=>Q .normal ρ w) ops.toList st st' [] ρ ρ a w hst hcp hw hg (fun t _=>rfl) fin))
 | _=>intro ir Q ρ a w h hc;simp [calm] at hc
def downto (n k:Nat):List Nat:=(List.range k).map fun i=>n - 1 - i
theorem downto_succ (n k:Nat):downto n (k+1)=downto n k++[n - 1 - k]:=by simp [downto,List.range_succ]
theorem downto_length (n k:Nat):(downto n k).length=k:=by simp [downto]
def Quiet (B:Nat) (I:World→Prop):Prop:=∀ W W' (S:Nat→Prop),I W→Mod S W W'→(∀ b,S b→B≤b∧∃ o:Obj,W.heap[b]? = some o∧o.isCells=false)→I W'
theorem quiet_own {α:Type} {B:Nat} {I:List α→World→Prop} (h:∀ s,Quiet B (I s)):OwnFrom B I:=by
 intro s W W' row hs hg hr;refine h s W W' (fun b=>row=some b) hs ⟨hg.size,fun b hb hn=>hg.block b hb (fun e=>hn e.symm),hg.os,hg.tape,hg.output⟩ (fun b hb=>hr b hb)
structure RangeB (P:Program) (N:Nat) (ir:IR) (Kp:World→World→Prop) (len:Nat) (elt:Nat→Value) (p1 p2 d:Nat) (ρ:Env) (B:Nat) (I:List Nat→World→Prop) (w:World):Prop where
 zero:I [] w
 quiet:∀ s,Quiet B (I s)
 body:∀ (pre:List Nat) (j:Nat) (W:World),I pre W→pre.length < len→j < len →
   irwp P N ir (fun e _ W'=>match e with | .normal=>KeepsOthers W W'∧Kp W W'∧I (pre++[j]) W' | _=>False) ((d,elt j)::ρ) W
theorem good_hide {ρ:Env} {a:Act} (h:Good dl N ρ a) {p:Nat} (v:Value) (hp:ρ.get p=none) (hN:p < N):Good dl N ρ (a.put (some p) v):=by
 have h1:=h.put (some p) v (fun t ht=>by cases ht;exact hN);refine ⟨h1.size,h1.defers,fun t u hu=>h1.get t u ?_⟩;rw [get_put_ne (fun hh=>by subst hh;rw [hp] at hu;cases hu)];exact hu
theorem range_wp {n:Nat} {x p1 p2 d id ty:Nat} {pos:String} {bd:Code} {ir:IR} {H:List (Nat×List Nat×List Nat)} (hbd:decomp P N H bd=some ir) (hcalm:calm bd=true) (hcook:cooked ir=true)
   {gf:Nat} {lb:Array Value} {len:Nat} {elt:Nat→Value} {Kp:World→World→Prop} {ρ:Env} {a:Act} {w:World} {Q:Exit→Act→World→Prop} (hg:Good dl N ρ a) (hx:ρ.get x=some (.func (.func gf) #[] lb))
   (eg:∀ args w,(callFunc gf args).run P w = .ok (.enter gf args) w)
   (hseq:SeqStopsK Fence.wide (n - 1) P gf lb (fun y : { j:Nat // j < len}=>#[.int .i64 (y.1:Int),elt y.1]) Kp (fun ys=>ys.map Subtype.val=downto len len) (fun _=>True) len w)
   (hp:p1≠p2∧p1 < N∧p2 < N∧d < N) (hfresh:ρ.get p1=none∧ρ.get p2=none) (hn:1≤n)
   (hKt:∀ {A B C:World},Kp A B→Kp B C→Kp A C) (hKb:∀ (W:World) (l:Nat) (o o':Obj),w.heap.size≤l→W.heap[l]? = some o→o.isCells=false→o.isWalk=false→Kp W (W.putObj l o'))
   (I:List Nat→World→Prop) (hI:RangeB P N ir Kp len elt p1 p2 d ρ w.heap.size I w)
   (done:∀ (D:Nat) (W:World),w.heap.size≤D→I (downto len len) W→W.heap[D]? = some (.deferred (some []))→∀ a',Good ({ target:=.collected D,args:=#[]}::dl) N ρ a'→Q .normal a' W) :
   (Code.rangeFunc (.tmp x) #[p1,p2] (.region id #[{ dst:=some d,op:=.assign (.tmp p2),type:=ty,pos:=pos,after:=#[],guard:=none}] false) bd).wp P Q a w:=by
 obtain ⟨hp12,hp1,hp2,hd⟩:=hp;obtain ⟨hf1,hf2⟩:=hfresh;have h0:Good [] N ρ { tmps:=a.tmps,defers:=[]}:=⟨hg.size,rfl,hg.get⟩;have hev:a.eval (.tmp x) = .func (.func gf) #[] lb:=hg.agree (.tmp x) _ hx;refine (wpIn_wide (n:=n)).1 ?_;refine wpIn_rangeFunc_ownF (α:={ j:Nat // j < len}) rfl hn hev trivial eg hseq hKt hKb (Go.RowKit.Below.refl _ _) (fun _=>rfl) (fun xs W=>I (xs.map Subtype.val) W) (fun _ _ _=>False)
   (quiet_own (fun s=>hI.quiet _)) (fun c=>fun s W W' row h=>h.elim) hI.zero
   (fun y=>(((({ tmps:=a.tmps,defers:=[]}:Act).put (some p1) (.int .i64 (y.1:Int))).put (some p2) (elt y.1)).put (some d) (elt y.1))) ?_ ?_ ?_ ?_
 · intro l y W K hK;have e:((#[p1,p2].zip #[Value.int .i64 (y.1:Int),elt y.1]).foldl (fun t (p,v)=>t.setIfInBounds p v) a.tmps)=((({ tmps:=a.tmps,defers:=[]}:Act).put (some p1) (.int .i64 (y.1:Int))).put (some p2) (elt y.1)).tmps:=by simp [Act.put]
   rw [e];have hG:Good [] N ((p2,elt y.1)::ρ) ((({ tmps:=a.tmps,defers:=[]}:Act).put (some p1) (.int .i64 (y.1:Int))).put (some p2) (elt y.1)):=
     (good_hide h0 _ hf1 hp1).put (some p2) _ (fun t ht=>by cases ht;exact hp2)
   refine wpIn_region_list ?_;show wpListIn _ _ _ _ _ [_] _ _;unfold wpListIn;rw [if_pos (by simp [Region.wanted])];have hr:res P (Op.assign (.tmp p2))=some (.mv (.t p2)):=rfl;obtain ⟨v,hv,hwp⟩:=mv_wp (P:=P) (o:={ dst:=some d,op:=.assign (.tmp p2),type:=ty,pos:=pos,after:=#[],guard:=none}) (w:=W) hr hG (by simpa [oLt] using hp2);have hv':elt y.1=v:=hv _ (by simp [O.ev,Env.get]);subst hv';refine oper_in rfl (Oper.wp_mono ?_ hwp);rintro a' w' ⟨rfl,rfl⟩;exact hK
 · intro l pre y W hi hlen;have hG:Good [] N ((d,elt y.1)::ρ) (((({ tmps:=a.tmps,defers:=[]}:Act).put (some p1) (.int .i64 (y.1:Int))).put (some p2) (elt y.1)).put (some d) (elt y.1)):=
     (good_hide (good_hide h0 _ hf1 hp1) _ hf2 hp2).put (some d) _ (fun t ht=>by cases ht;exact hd)
   refine wpIn_mono (decompIn_sound bd ir _ _ _ _ hbd hcalm hcook (hI.body _ y.1 W hi (by simpa using hlen) y.2) hG) ?_;rintro e a' w' ⟨ρ',_,hq⟩;cases e with
   | normal=>
     obtain ⟨q1,q2,q3⟩:=hq;exact ⟨q1,q2,by show I ((pre++[y]).map Subtype.val) w';rw [List.map_append];exact q3⟩
   | _=>exact hq.elim
 · intro D xs W hD hS hi hh;have hS:xs.map Subtype.val=downto len len:=hS;have hi:I (xs.map Subtype.val) W:=hi;rw [hS] at hi;exact done D W hD hi hh _ ⟨hg.size,by simp [hg.defers],hg.get⟩
 · intro D c pre W _ _ hh;exact hh.elim
structure RangeB1 (P:Program) (N:Nat) (ir:IR) (Kp:World→World→Prop) (len:Nat) (d:Nat) (ρ:Env) (B:Nat) (I:List ByteArray→World→Prop) (w:World):Prop where
 zero:I [] w
 quiet:∀ s,Quiet B (I s)
 body:∀ (pre:List ByteArray) (x:ByteArray) (W:World),I pre W→pre.length < len →
   irwp P N ir (fun e _ W'=>match e with | .normal=>KeepsFrom B W W'∧Kp W W'∧I (pre++[x]) W' | _=>False) ((d,.string x)::ρ) W
theorem range_wp1 {n:Nat} {x p d id ty:Nat} {pos:String} {bd:Code} {ir:IR} {H:List (Nat×List Nat×List Nat)} (hbd:decomp P N H bd=some ir) (hcalm:calm bd=true) (hcook:cooked ir=true)
   {gf:Nat} {lb:Array Value} {len:Nat} {Kp:World→World→Prop} {ρ:Env} {a:Act} {w:World} {Q:Exit→Act→World→Prop} (hg:Good dl N ρ a) (hx:ρ.get x=some (.func (.func gf) #[] lb))
   (eg:∀ args w,(callFunc gf args).run P w = .ok (.enter gf args) w)
   (hseq:SeqStopsK Fence.wide (n - 1) P gf lb (fun y:ByteArray=>#[.string y]) Kp (fun _=>True) (fun _=>True) len w)
   (hp:p < N∧d < N) (hfresh:ρ.get p=none) (hn:1≤n)
   (hKt:∀ {A B C:World},Kp A B→Kp B C→Kp A C) (hKb:∀ (W:World) (l:Nat) (o o':Obj),w.heap.size≤l→W.heap[l]? = some o→o.isCells=false→o.isWalk=false→Kp W (W.putObj l o'))
   (I:List ByteArray→World→Prop) (hI:RangeB1 P N ir Kp len d ρ w.heap.size I w)
   (done:∀ (D:Nat) (xs:List ByteArray) (W:World),w.heap.size≤D→I xs W→W.heap[D]? = some (.deferred (some []))→∀ a',Good ({ target:=.collected D,args:=#[]}::dl) N ρ a'→Q .normal a' W) :
   (Code.rangeFunc (.tmp x) #[p] (.region id #[{ dst:=some d,op:=.assign (.tmp p),type:=ty,pos:=pos,after:=#[],guard:=none}] false) bd).wp P Q a w:=by
 obtain ⟨hp1,hd⟩:=hp;have h0:Good [] N ρ { tmps:=a.tmps,defers:=[]}:=⟨hg.size,rfl,hg.get⟩;have hev:a.eval (.tmp x) = .func (.func gf) #[] lb:=hg.agree (.tmp x) _ hx;refine (wpIn_wide (n:=n)).1 ?_;refine wpIn_rangeFunc_ownG (α:=ByteArray) rfl hn hev trivial eg hseq hKt hKb (Go.RowKit.Below.refl _ _) (fun _=>rfl) I (fun _ _ _=>False)
   (quiet_own (fun s=>hI.quiet _)) (fun c=>fun s W W' row h=>h.elim) hI.zero
   (fun y=>((({ tmps:=a.tmps,defers:=[]}:Act).put (some p) (.string y)).put (some d) (.string y))) ?_ ?_ ?_ ?_
 · intro l y W K hK;have e:((#[p].zip #[Value.string y]).foldl (fun t (p,v)=>t.setIfInBounds p v) a.tmps)=(({ tmps:=a.tmps,defers:=[]}:Act).put (some p) (.string y)).tmps:=by simp [Act.put]
   rw [e];have hG:Good [] N ((p,.string y)::ρ) (({ tmps:=a.tmps,defers:=[]}:Act).put (some p) (.string y)):=
     h0.put (some p) _ (fun t ht=>by cases ht;exact hp1)
   refine wpIn_region_list ?_;show wpListIn _ _ _ _ _ [_] _ _;unfold wpListIn;rw [if_pos (by simp [Region.wanted])];have hr:res P (Op.assign (.tmp p))=some (.mv (.t p)):=rfl;obtain ⟨v,hv,hwp⟩:=mv_wp (P:=P) (o:={ dst:=some d,op:=.assign (.tmp p),type:=ty,pos:=pos,after:=#[],guard:=none}) (w:=W) hr hG (by simpa [oLt] using hp1);have hv':Value.string y=v:=hv _ (by simp [O.ev,Env.get]);subst hv';refine oper_in rfl (Oper.wp_mono ?_ hwp);rintro a' w' ⟨rfl,rfl⟩;exact hK
 · intro l pre y W hi hlen;have hG:Good [] N ((d,.string y)::ρ) ((({ tmps:=a.tmps,defers:=[]}:Act).put (some p) (.string y)).put (some d) (.string y)):=
     (good_hide h0 _ hfresh hp1).put (some d) _ (fun t ht=>by cases ht;exact hd)
   refine wpIn_mono (decompIn_sound bd ir _ _ _ _ hbd hcalm hcook (hI.body _ y W hi hlen) hG) ?_;rintro e a' w' ⟨ρ',_,hq⟩;cases e with
   | normal=>exact hq
   | _=>exact hq.elim
 · intro D xs W hD hS hi hh;exact done D xs W hD hi hh _ ⟨hg.size,by simp [hg.defers],hg.get⟩
 · intro D c pre W _ _ hh;exact hh.elim
end
end Go.W
section
namespace Go.W
open Go
inductive K where
 | ir (x:IR)
 | seq (a b:K)
 | cond (c:O) (a b:K)
 | blk (id:Nat) (a:K)
 | rng (x p1 p2 d:Nat) (bd:IR)
 | rng1 (x p d:Nat) (bd:IR)
 deriving Inhabited
abbrev PostD:=Exit→List Nat→Env→World→Prop
def thenQD (next:List Nat→Env→World→Prop) (Q:PostD):PostD
 | .normal,Ds,ρ,w=>next Ds ρ w
 | e,Ds,ρ,w=>Q e Ds ρ w
def blkQD (id:Nat) (Q:PostD):PostD
 | .exit id',Ds,ρ,w=>if id'=id then Q .normal Ds ρ w else Q (.exit id') Ds ρ w
 | e,Ds,ρ,w=>Q e Ds ρ w
def coll (D:Nat):Deferred:={ target:=.collected D,args:=#[]}
def liftQD (N:Nat) (Q:PostD):Exit→Act→World→Prop:=fun e a w=>∃ ρ Ds,Good (Ds.map coll) N ρ a∧Q e Ds ρ w
structure RangeF (P:Program) (N:Nat) (ir:IR) (x p1 p2 d:Nat) (ρ:Env) (w:World) (n len gf:Nat) (lb:Array Value) (elt:Nat→Value) (Kp:World→World→Prop) (I:List Nat→World→Prop):Prop where
 hx:ρ.get x=some (.func (.func gf) #[] lb)
 eg:∀ args w,(callFunc gf args).run P w = .ok (.enter gf args) w
 hseq:SeqStopsK Fence.wide (n - 1) P gf lb (fun y : { j:Nat // j < len}=>#[.int .i64 (y.1:Int),elt y.1]) Kp (fun ys=>ys.map Subtype.val=downto len len) (fun _=>True) len w
 fresh:ρ.get p1=none∧ρ.get p2=none
 hn:1≤n
 hKt:∀ {A B C:World},Kp A B→Kp B C→Kp A C
 hKb:∀ (W:World) (l:Nat) (o o':Obj),w.heap.size≤l→W.heap[l]? = some o→o.isCells=false→o.isWalk=false→Kp W (W.putObj l o')
 hI:RangeB P N ir Kp len elt p1 p2 d ρ w.heap.size I w
structure RangeF1 (P:Program) (N:Nat) (ir:IR) (x p d:Nat) (ρ:Env) (w:World) (n len gf:Nat) (lb:Array Value) (Kp:World→World→Prop) (I:List ByteArray→World→Prop):Prop where
 hx:ρ.get x=some (.func (.func gf) #[] lb)
 eg:∀ args w,(callFunc gf args).run P w = .ok (.enter gf args) w
 hseq:SeqStopsK Fence.wide (n - 1) P gf lb (fun y:ByteArray=>#[.string y]) Kp (fun _=>True) (fun _=>True) len w
 fresh:ρ.get p=none
 hn:1≤n
 hKt:∀ {A B C:World},Kp A B→Kp B C→Kp A C
 hKb:∀ (W:World) (l:Nat) (o o':Obj),w.heap.size≤l→W.heap[l]? = some o→o.isCells=false→o.isWalk=false→Kp W (W.putObj l o')
 hI:RangeB1 P N ir Kp len d ρ w.heap.size I w
def kwp (P:Program) (N:Nat):K→PostD→List Nat→Env→World→Prop
 | .ir x,Q,Ds,ρ,w=>irwp P N x (fun e ρ w=>Q e Ds ρ w) ρ w
 | .seq a b,Q,Ds,ρ,w=>kwp P N a (thenQD (fun Ds ρ w=>kwp P N b Q Ds ρ w) Q) Ds ρ w
 | .cond c a b,Q,Ds,ρ,w=>∃ t,c.ev ρ=some (.bool t)∧(t=true→kwp P N a Q Ds ρ w)∧(t=false→kwp P N b Q Ds ρ w)
 | .blk id a,Q,Ds,ρ,w=>kwp P N a (blkQD id Q) Ds ρ w
 | .rng x p1 p2 d bd,Q,Ds,ρ,w=>∃ n len gf lb elt Kp I,RangeF P N bd x p1 p2 d ρ w n len gf lb elt Kp I ∧
     ∀ (D:Nat) (W:World),w.heap.size≤D→I (downto len len) W→W.heap[D]? = some (.deferred (some []))→Q .normal (D::Ds) ρ W
 | .rng1 x p d bd,Q,Ds,ρ,w=>∃ n len gf lb Kp I,RangeF1 P N bd x p d ρ w n len gf lb Kp I ∧
     ∀ (D:Nat) (xs:List ByteArray) (W:World),w.heap.size≤D→I xs W→W.heap[D]? = some (.deferred (some []))→Q .normal (D::Ds) ρ W
def asg:Code→Option (Nat×Nat)
 | .region _ ops false=>match ops.toList with
   | [⟨some d,.assign (.tmp p),_,_,after,none⟩]=>if after.isEmpty then some (d,p) else none
   | _=>none
 | _=>none
theorem asg_spec {c:Code} {d p:Nat} (h:asg c=some (d,p)):∃ id ty pos,c = .region id #[{ dst:=some d,op:=.assign (.tmp p),type:=ty,pos:=pos,after:=#[],guard:=none}] false:=by
 unfold asg at h
 split at h
 · rename_i id ops
   split at h
   · rename_i d' p' ty pos after heq
     split at h
     · rename_i ha;simp only [Option.some.injEq,Prod.mk.injEq] at h;obtain ⟨rfl,rfl⟩:=h;have ha':after = #[]:=by simpa using ha
       subst ha';refine ⟨id,ty,pos,?_⟩;have:ops = #[{ dst:=some d',op:=.assign (.tmp p'),type:=ty,pos:=pos,after:=#[],guard:=none}]:=by
         apply Array.ext';rw [heq]
       rw [this]
     · cases h
   · cases h
 · cases h
def mkSeq:K→K→K
 | .ir x,.ir y=>.ir (.seq x y)
 | a,b=>.seq a b
def mkCond (c:O):K→K→K
 | .ir x,.ir y=>.ir (.cond c x y)
 | a,b=>.cond c a b
def mkBlk (id:Nat):K→K
 | .ir x=>.ir (.block id x)
 | a=>.blk id a
def decompK (P:Program) (N:Nat) (H:List (Nat×List Nat×List Nat)):Code→Option K
 | .seq a b=>(decompK P N H a).bind fun x=>(decompK P N H b).map fun y=>mkSeq x y
 | .cond c a b=>(decompK P N H a).bind fun x=>(decompK P N H b).map fun y=>mkCond (toO c) x y
 | .block id a=>(decompK P N H a).map (mkBlk id)
 | .rangeFunc f ps sa bd=>match f,ps.toList,asg sa,decomp P N H bd with
   | .tmp x,[p1,p2],some (d,p),some ir=>if p=p2&&p1 != p2&&decide (p1 < N)&&decide (p2 < N)&&decide (d < N)&&calm bd&&cooked ir then some (.rng x p1 p2 d ir) else none
   | .tmp x,[p1],some (d,p),some ir=>if p=p1&&decide (p < N)&&decide (d < N)&&calm bd&&cooked ir then some (.rng1 x p d ir) else none
   | _,_,_,_=>none
 | c=>(decomp P N H c).map .ir
section
variable {P:Program} {N:Nat}
theorem kwp_mkSeq {a b:K} {Q:PostD} {Ds:List Nat} {ρ:Env} {w:World} (h:kwp P N (mkSeq a b) Q Ds ρ w):kwp P N (.seq a b) Q Ds ρ w:=by
 unfold mkSeq at h
 split at h
 · refine irwp_mono _ _ _ (fun e ρ w h=>?_) ρ w (show irwp P N _ _ ρ w from h);cases e<;>exact h
 · exact h
theorem kwp_mkCond {c:O} {a b:K} {Q:PostD} {Ds:List Nat} {ρ:Env} {w:World} (h:kwp P N (mkCond c a b) Q Ds ρ w):kwp P N (.cond c a b) Q Ds ρ w:=by
 unfold mkCond at h
 split at h
 · exact h
 · exact h
theorem kwp_mkBlk {id:Nat} {a:K} {Q:PostD} {Ds:List Nat} {ρ:Env} {w:World} (h:kwp P N (mkBlk id a) Q Ds ρ w):kwp P N (.blk id a) Q Ds ρ w:=by
 unfold mkBlk at h
 split at h
 · refine irwp_mono _ _ _ (fun e ρ w h=>?_) ρ w (show irwp P N _ _ ρ w from h);cases e<;>exact h
 · exact h
theorem decompK_sound {H:List (Nat×List Nat×List Nat)}:∀ (c:Code) (k:K) (Q:PostD) (Ds:List Nat) (ρ:Env) (a:Act) (w:World),decompK P N H c=some k→kwp P N k Q Ds ρ w→Good (Ds.map coll) N ρ a→c.wp P (liftQD N Q) a w:=by
 have plain:∀ (c:Code) (k:K) (Q:PostD) (Ds:List Nat) (ρ:Env) (a:Act) (w:World),(decomp P N H c).map K.ir=some k→kwp P N k Q Ds ρ w→Good (Ds.map coll) N ρ a→c.wp P (liftQD N Q) a w:=by
   intro c k Q Ds ρ a w h hw hg;obtain ⟨ir,hir,rfl⟩:=Option.map_eq_some_iff.1 h;refine wp_mono (decomp_sound c ir _ ρ a w hir hw hg) ?_;rintro e a' w' ⟨ρ',hg',hq⟩;exact ⟨ρ',Ds,hg',hq⟩
 intro c
 induction c with
 | seq x y ihx ihy=>
   intro k Q Ds ρ a w h hw hg;simp only [decompK] at h;obtain ⟨a1,h1,h⟩:=Option.bind_eq_some_iff.1 h;obtain ⟨b1,h2,h⟩:=Option.map_eq_some_iff.1 h;subst h;have hw:=kwp_mkSeq hw;refine wp_seq (wp_mono (ihx a1 _ Ds ρ a w h1 hw hg) ?_);rintro e a' w' ⟨ρ',Ds',hg',hq⟩;cases e with
   | normal=>exact ihy b1 Q Ds' ρ' a' w' h2 hq hg'
   | _=>exact ⟨ρ',Ds',hg',hq⟩
 | cond c x y ihx ihy=>
   intro k Q Ds ρ a w h hw hg;simp only [decompK] at h;obtain ⟨a1,h1,h⟩:=Option.bind_eq_some_iff.1 h;obtain ⟨b1,h2,h⟩:=Option.map_eq_some_iff.1 h;subst h;obtain ⟨t,hc,ht,hf⟩:=kwp_mkCond hw;have he:=hg.agree c _ hc;exact wp_cond_split he (fun e=>ihx a1 Q Ds ρ a w h1 (ht e) hg) (fun e=>ihy b1 Q Ds ρ a w h2 (hf e) hg)
 | block id x ih=>
   intro k Q Ds ρ a w h hw hg;simp only [decompK] at h;obtain ⟨a1,h1,h⟩:=Option.map_eq_some_iff.1 h;subst h;have hw:=kwp_mkBlk hw;refine wp_block (wp_mono (ih a1 _ Ds ρ a w h1 hw hg) ?_);rintro e a' w' ⟨ρ',Ds',hg',hq⟩;cases e with
   | exit id'=>
     simp only [Exit.inBlock,blkQD] at hq ⊢
     split
     · rename_i hh;rw [if_pos hh] at hq;exact ⟨ρ',Ds',hg',hq⟩
     · rename_i hh;rw [if_neg hh] at hq;exact ⟨ρ',Ds',hg',hq⟩
   | _=>exact ⟨ρ',Ds',hg',hq⟩
 | rangeFunc f ps sa bd _ _=>
   intro k Q Ds ρ a w h hw hg;simp only [decompK] at h
   split at h
   · rename_i f0 ps0 as0 ir0 x p1 p2 d p ir hps has hbd
     split at h
     · rename_i hc;simp only [Bool.and_eq_true,decide_eq_true_eq,bne_iff_ne,ne_eq] at hc;obtain ⟨⟨⟨⟨⟨⟨rfl,h1⟩,h2⟩,h3⟩,h4⟩,h5⟩,h6⟩:=hc;simp only [Option.some.injEq] at h;subst h;obtain ⟨id,ty,pos,rfl⟩:=asg_spec has;have hps':ps = #[p1,p]:=by apply Array.ext';rw [hps]
       subst hps';obtain ⟨n,len,gf,lb,elt,Kp,I,hr,hd⟩:=hw;refine range_wp hbd h5 h6 hg hr.hx hr.eg hr.hseq ⟨h1,h2,h3,h4⟩ hr.fresh hr.hn hr.hKt hr.hKb I hr.hI ?_;intro D W hD hI hh a' ha';exact ⟨ρ,D::Ds,ha',hd D W hD hI hh⟩
     · cases h
   · rename_i f0 ps0 as0 ir0 x p1 d p ir hps has hbd
     split at h
     · rename_i hc;simp only [Bool.and_eq_true,decide_eq_true_eq,bne_iff_ne,ne_eq] at hc;obtain ⟨⟨⟨⟨rfl,h3⟩,h4⟩,h5⟩,h6⟩:=hc;simp only [Option.some.injEq] at h;subst h;obtain ⟨id,ty,pos,rfl⟩:=asg_spec has;have hps':ps = #[p]:=by apply Array.ext';rw [hps]
       subst hps';obtain ⟨n,len,gf,lb,Kp,I,hr,hd⟩:=hw;refine range_wp1 hbd h5 h6 hg hr.hx hr.eg hr.hseq ⟨h3,h4⟩ hr.fresh hr.hn hr.hKt hr.hKb I hr.hI ?_;intro D xs W hD hI hh a' ha';exact ⟨ρ,D::Ds,ha',hd D xs W hD hI hh⟩
     · cases h
   · cases h
 | _=>
   intro k Q Ds ρ a w h hw hg;exact plain _ k Q Ds ρ a w h hw hg
def finQD (rs:List RV) (R:Value→World→Prop):PostD:=fun e Ds ρ w=>
 (e = .normal∨e = .ret)∧(∀ D∈Ds,w.heap[D]? = some (.deferred (some [])))∧Ds.Nodup ∧
   ∀ w':World,Mod (fun b=>b∈Ds) w w'→w'.heap.size=w.heap.size→∃ vs,rvs w' ρ rs=some vs∧R (one? vs) w'
structure FitsK (P:Program) (f:Nat) (nargs:Nat) (H:List (Nat×List Nat×List Nat)) (k:K) (rs:List RV) (N:Nat):Prop where
 go:∃ fn c,P.funcs[f]? = some fn∧fn.body=some c∧fn.ntmps=N∧nargs≤N∧decompK P N H c=some k∧resRV P fn.results.toList=some rs
theorem mod_put {S:Nat→Prop} {w:World} {r:Nat} {o:Obj} (h:S r):Mod S w (w.putObj r o):=
 ⟨by simp,fun b _ hb=>World.putObj_heap_other (fun e=>hb (e ▸ h)),rfl,rfl,rfl⟩
theorem leavesM {fn:Func} {tmps:Array Value} {R:Ending→World→Prop}:∀ (Ds:List Nat) (w:World),(∀ D∈Ds,w.heap[D]? = some (.deferred (some [])))→Ds.Nodup →
   (∀ w':World,Mod (fun b=>b∈Ds) w w'→w'.heap.size=w.heap.size→∃ v,(results fn tmps).run P w' = .ok v w'∧R (.returned v) w') →
   LeavesInM Fence.wide 0 P fn tmps R (Ds.map coll) .returning w
 | [],w,_,_,h=>h w (.refl _ _) rfl
 | D::Ds,w,hD,hn,h=>by
   refine ⟨(fun h=>by cases h),.inl ⟨D,w.putObj D (.deferred none),rfl,run_takeDeferred (hD D (by simp)),?_⟩⟩;obtain ⟨h1,h2⟩:=List.nodup_cons.1 hn;refine leavesM Ds _ (fun D' hD'=>?_) h2 (fun w' hm hs=>h w' ?_ (by rw [hs,World.putObj_size]))
   · rw [World.putObj_heap_other (fun e:D'=D=>h1 (e ▸ hD'))];exact hD D' (by simp [hD'])
   · exact (mod_put (S:=fun b=>b∈D::Ds) (by simp)).step hm (fun i hi _=>by simp [hi])
theorem FitsK.calls {f:Nat} {nargs:Nat} {H:List (Nat×List Nat×List Nat)} {k:K} {rs:List RV} (h:FitsK P f nargs H k rs N) {args:List Value} (hn:args.length=nargs) {w:World} {R:Value→World→Prop}
   (hw:kwp P N k (finQD rs R) [] (argEnv 0 args) w):CallsR P f args w R:=by
 obtain ⟨fn,c,hf,hb,hN,hle,hd,hrs⟩:=h.go;unfold CallsR;refine callsIn_wide.1 (callsIn_of_wp_marks (n:=0) hf hb trivial ?_);have hg:Good ([].map coll) N (argEnv 0 args) { tmps:=args.toArray++Array.replicate (fn.ntmps - args.toArray.size) undef,defers:=[]}:=by
   refine ⟨?_,rfl,?_⟩
   · simp only [Array.size_append,List.size_toArray,Array.size_replicate];omega
   · intro t v ht;obtain ⟨_,h2⟩:=argEnv_get args 0 t v ht;have hlt:t < args.length:=by
       rcases Nat.lt_or_ge t args.length with h | h
       · exact h
       · simp [List.getElem?_eq_none h] at h2
     simp only [Nat.sub_zero] at h2;rw [Array.getElem?_append_left (by simpa using hlt)]
     simpa using h2
 refine wpIn_mono ((wpIn_wide (n:=0)).2 (decompK_sound c k _ [] _ _ _ hd hw hg)) ?_;rintro e a' w' ⟨ρ',Ds,hg',he,hD,hnd,hq⟩;have fin:LeavesInM Fence.wide 0 P fn a'.tmps (fun e w'=>∃ v,e = .returned v∧R v w') a'.defers .returning w':=by
   rw [hg'.defers];refine leavesM Ds w' hD hnd ?_;intro w2 hm hs;obtain ⟨vs,h1,h2⟩:=hq w2 hm hs;refine ⟨one? vs,ro_run ?_,_,rfl,h2⟩;unfold results;rw [ro_bind,Array.mapM_eq_mapM_toList,ro_map];have:=resRV_sound (P:=P) hg' fn.results.toList rs vs hrs h1;refine Eq.trans (congrArg (fun o:Option (List Value)=>(o.map List.toArray).bind fun vs=>ro P w2 (pure (if h:vs.size=1 then vs[0] else .tuple vs):Sem Value)) this) ?_;simp only [Option.map_some,Option.bind_some,ro_pure,List.size_toArray,Option.some.injEq]
   match vs with
   | []=>rfl
   | [v]=>rfl
   | v::u::l=>simp [one?]
 rcases he with rfl | rfl
 · exact fin
 · exact fin
end
def keepsOf:IR→List (List Nat)
 | .seq a b=>keepsOf a++keepsOf b
 | .cond _ a b=>keepsOf a++keepsOf b
 | .block _ a=>keepsOf a
 | .loop a=>keepsOf a
 | .reg _ _ kp=>[kp]
 | .dr _ kp=>[kp]
 | _=>[]
def regsOf:Code→List (Nat×List Nat)
 | .region id ops draw=>[(id,if draw then (Region.before ops).toList else [])]
 | .seq a b=>regsOf a++regsOf b
 | .cond _ a b=>regsOf a++regsOf b
 | .block _ a=>regsOf a
 | .loop a=>regsOf a
 | _=>[]
def hOf (fn:Func) (a:IR):List (Nat×List Nat×List Nat):=match fn.body with
 | some c=>List.zipWith (fun (x:Nat×List Nat) k=>(x.1,k,x.2)) (regsOf c) (keepsOf a)
 | none=>[]
namespace Z
def m (d:Nat) (x:Nat):S:=.r (some d) (.mv (.t x))
def m' (s:Nat) (c:Bool) (d:Nat) (x:Nat):S:=.gr s c (some d) (.mv (.t x))
def n (d:Nat) (x:Nat):S:=.r (some d) (.nn (.t x))
def n' (s:Nat) (c:Bool) (d:Nat) (x:Nat):S:=.gr s c (some d) (.nn (.t x))
def f (d:Nat) (o:Nat) (x:Nat):S:=.r (some d) (.fa o (.t x))
def f' (s:Nat) (c:Bool) (d:Nat) (o:Nat) (x:Nat):S:=.gr s c (some d) (.fa o (.t x))
def l (d:Nat) (x:Nat):S:=.r (some d) (.l1 (.t x))
def l' (s:Nat) (c:Bool) (d:Nat) (x:Nat):S:=.gr s c (some d) (.l1 (.t x))
def ln (d:Nat) (o:Nat) (x:Nat):S:=.r (some d) (.ln o (.t x))
def ln' (s:Nat) (c:Bool) (d:Nat) (o:Nat) (x:Nat):S:=.gr s c (some d) (.ln o (.t x))
def ex (d:Nat) (o:Nat) (x:Nat):S:=.r (some d) (.ex o (.t x))
def ex' (s:Nat) (c:Bool) (d:Nat) (o:Nat) (x:Nat):S:=.gr s c (some d) (.ex o (.t x))
def le (d:Nat) (x:Nat):S:=.r (some d) (.len (.t x))
def le' (s:Nat) (c:Bool) (d:Nat) (x:Nat):S:=.gr s c (some d) (.len (.t x))
def ia (d:Nat) (o:Nat) (x:Nat) (y:Nat):S:=.r (some d) (.ia o (.t x) (.t y))
def ia' (s:Nat) (c:Bool) (d:Nat) (o:Nat) (x:Nat) (y:Nat):S:=.gr s c (some d) (.ia o (.t x) (.t y))
def no (d:Nat) (x:Nat):S:=.r (some d) (.no (.t x))
def no' (s:Nat) (c:Bool) (d:Nat) (x:Nat):S:=.gr s c (some d) (.no (.t x))
def bi (d:Nat) (b:BinOp) (x:Nat) (y:Nat):S:=.r (some d) (.bi b (.t x) (.t y))
def bi' (s:Nat) (c:Bool) (d:Nat) (b:BinOp) (x:Nat) (y:Nat):S:=.gr s c (some d) (.bi b (.t x) (.t y))
def bk (d:Nat) (b:BinOp) (x:Nat) (k:Int):S:=.r (some d) (.bi b (.t x) (.c (.int .i64 k)))
def bk' (s:Nat) (c:Bool) (d:Nat) (b:BinOp) (x:Nat) (k:Int):S:=.gr s c (some d) (.bi b (.t x) (.c (.int .i64 k)))
def mk (d:Nat) (k:Int):S:=.r (some d) (.mv (.c (.int .i64 k)))
def mk' (s:Nat) (c:Bool) (d:Nat) (k:Int):S:=.gr s c (some d) (.mv (.c (.int .i64 k)))
def c (d f:Nat) (l:List Nat):S:=.e (some d) (.call f (l.map .t))
def u (d x y:Nat):S:=.r (some d) (.pk (.t x) (.c (.bool true)) (.t y))
def a (d x y:Nat):S:=.r (some d) (.pk (.t x) (.t y) (.c (.bool false)))
def s (n x y:Nat):S:=.e none (.st n (.t x) (.t y))
def k (n:Int):O:=.c (.int .i64 n)
def i (n:Int):Value:=.int .i64 n
def q (st:List S) (kp:List Nat):IR:=.reg false st kp
def q' (st:List S) (kp:List Nat):IR:=.reg true st kp
def z (st:List S) (kp:List Nat) (x:IR):IR:=.seq (.reg false st kp) x
def j (n:Nat) (x y:IR):IR:=.cond (.t n) x y
def r (i d:Nat) (x:R) (t:D):D:=.r i none (some d) x t
end Z
theorem Fits.m {P:Program} {f nargs:Nat} {H:List (Nat×List Nat×List Nat)} {ir:IR} {rs:List RV} {N:Nat} (fn:Func) (c:Code) (h1:P.funcs[f]? = some fn:=by rfl) (h2:fn.body=some c:=by rfl) (h3:fn.ntmps=N:=by rfl) (h4:nargs≤N:=by decide)
   (h5:decomp P N H c=some ir:=by kernel_rfl) (h6:resRV P fn.results.toList=some rs:=by kernel_rfl):Fits P f nargs H ir rs N:=⟨fn,c,h1,h2,h3,h4,h5,h6⟩
attribute [go_sem] Z.m Z.m' Z.n Z.n' Z.f Z.f' Z.l Z.l' Z.ln Z.ln' Z.ex Z.ex' Z.le Z.le' Z.ia Z.ia' Z.no Z.no' Z.bi Z.bi' Z.bk Z.bk' Z.mk Z.mk' Z.c Z.u Z.a Z.s Z.k Z.i Z.q Z.q' Z.z Z.j Z.r List.map_cons List.map_nil
end Go.W
end