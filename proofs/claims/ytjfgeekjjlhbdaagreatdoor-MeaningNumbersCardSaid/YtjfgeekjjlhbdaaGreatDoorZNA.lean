/- Texts that the last file stands on: W1, W2, W3, W4, W5, WO, W6, W7, W8, W9, W10, W11, W12, W13, W14, D1, D2, W15, D3, P1, WI. -/
import Derived.Deep.Quiet
import Derived.WalkKit
import Derived.Test.YtjfgeekjjlhbdaaGreatDoorProg
import Derived.IntWalk
import Derived.ProofKit
import Derived.SizedLaws
import Derived.Maps.RangeRun
import Derived.TacticsIn
import Derived.OrdersIn
import Derived.RangeFuncFrom
import Derived.RangeFuncWrites
import Derived.RangeFuncLeaves
import Derived.RangeFuncCalls
set_option linter.unusedSimpArgs false
set_option linter.unusedVariables false
set_option maxRecDepth 100000
namespace Go.W
section
open Go
def ro (P:Program) (w:World) {α:Type}:Sem α→Option α
 | .pure a=>some a
 | .load _ a k=>match w.cell? a with | some v=>ro P w (k v) | none=>none
 | .shape r k=>ro P w (k (w.shape? r))
 | .frozen a k=>ro P w (k (w.frozen? a))
 | .getObj r k=>match w.heap[r]? with | some (.cells ..)=>none | some o=>ro P w (k o) | none=>none
 | .program k=>ro P w (k P)
 | .mark _ k=>ro P w k
 | .store ..=>none
 | .new ..=>none
 | .freeze ..=>none
 | .setObj ..=>none
 | .choose ..=>none
 | .sys ..=>none
 | .halt _=>none
theorem ro_run {P:Program} {w:World} {α:Type} {s:Sem α} {a:α} (h:ro P w s=some a):s.run P w = .ok a w:=by
 induction s with
 | pure x=>simp only [ro,Option.some.injEq] at h;subst h;rfl
 | load m ad k ih=>
   simp only [ro] at h;cases hc:w.cell? ad with
   | none=>simp [hc] at h
   | some v=>simp only [hc] at h;simp only [Sem.run,hc];exact ih v h
 | shape r k ih=>simp only [ro] at h;simp only [Sem.run];exact ih _ h
 | frozen ad k ih=>simp only [ro] at h;simp only [Sem.run];exact ih _ h
 | getObj r k ih=>
   simp only [ro] at h;cases hc:w.heap[r]? with
   | none=>simp [hc] at h
   | some o=>cases o<;>simp only [hc] at h<;>first | cases h | (simp only [Sem.run,hc];exact ih _ h)
 | program k ih=>simp only [ro] at h;simp only [Sem.run];exact ih _ h
 | mark m k ih=>simp only [ro] at h;simp only [Sem.run];exact ih h
 | store=>simp [ro] at h
 | new=>simp [ro] at h
 | freeze=>simp [ro] at h
 | setObj=>simp [ro] at h
 | choose=>simp [ro] at h
 | sys=>simp [ro] at h
 | halt=>simp [ro] at h
theorem ro_bind {P:Program} {w:World} {α β:Type} (s:Sem α) (f:α→Sem β):ro P w (s >>= f)=(ro P w s).bind (fun a=>ro P w (f a)):=by
 show ro P w (s.bind f)=_
 induction s with
 | pure x=>simp [Sem.bind,ro]
 | load m ad k ih=>simp only [Sem.bind,ro];cases w.cell? ad<;>simp [ih]
 | shape r k ih=>simp only [Sem.bind,ro,ih]
 | frozen r k ih=>simp only [Sem.bind,ro,ih]
 | getObj r k ih=>
   simp only [Sem.bind,ro];cases w.heap[r]? with
   | none=>rfl
   | some o=>cases o<;>simp [ih]
 | program k ih=>simp only [Sem.bind,ro,ih]
 | mark m k ih=>simp only [Sem.bind,ro,ih]
 | store=>rfl
 | new=>rfl
 | freeze=>rfl
 | setObj=>rfl
 | choose=>rfl
 | sys=>rfl
 | halt=>rfl
@[simp] theorem ro_pure {P:Program} {w:World} {α:Type} (a:α):ro P w (pure a:Sem α)=some a:=rfl
@[simp] theorem ro_map {P:Program} {w:World} {α β:Type} (f:α→β) (s:Sem α):ro P w (f <$> s)=(ro P w s).map f:=by
 show ro P w (s.bind (fun a=>.pure (f a)))=_;have:=ro_bind (P:=P) (w:=w) s (fun a=>(pure (f a):Sem β));rw [show s.bind (fun a=>.pure (f a))=s >>= (fun a=>(pure (f a):Sem β)) from rfl,this];cases ro P w s<;>rfl
theorem ro_program {P:Program} {w:World}:ro P w program=some P:=rfl
theorem ro_load {P:Program} {w:World} (a:Addr) (m:Mode):ro P w (load a m)=w.cell? a:=by
 simp only [load,ro];cases w.cell? a<;>rfl
theorem ro_typeInfo {P:Program} {w:World} (t:TypeId):ro P w (typeInfo t)=P.info? t:=by
 simp only [typeInfo,ro_bind,ro_program,Option.bind_some];cases P.info? t<;>rfl
theorem ro_underlying {P:Program} {w:World} (t:TypeId):ro P w (underlying t)=P.underlying t:=by
 simp only [underlying,ro_bind,ro_program,Option.bind_some];cases P.underlying t<;>rfl
theorem ro_sizeOf {P:Program} {w:World} (t:TypeId):ro P w (sizeOf t)=(P.info? t).map (·.size):=by
 simp only [sizeOf,ro_bind,ro_typeInfo];cases P.info? t<;>rfl
def aggB:TypeDesc→Bool
 | .struct _=>true
 | .array _ _=>true
 | _=>false
theorem ro_isAgg {P:Program} {w:World} (t:TypeId):ro P w (isAgg t)=(P.underlying t).map aggB:=by
 simp only [isAgg,ro_bind,ro_underlying];cases P.underlying t with
 | none=>rfl
 | some d=>cases d<;>rfl
theorem ro_zeroValue {P:Program} {w:World} (t:TypeId):ro P w (zeroValue t)=(P.info? t).bind (·.zero):=by
 simp only [zeroValue,ro_bind,ro_typeInfo];cases P.info? t with
 | none=>rfl
 | some i=>cases h:i.zero<;>simp [h]<;>rfl
def cellsFrom (w:World) (a:Addr) (i:Nat):Nat→Array Value→Option (Array Value)
 | 0,acc=>some acc
 | n+1,acc=>match w.cell? (a.add i) with
   | some v=>cellsFrom w a (i+1) n (acc.push v)
   | none=>none
theorem ro_loadCellsFrom {P:Program} {w:World} (a:Addr):∀ (n i:Nat) (acc:Array Value),ro P w (loadCellsFrom a i n acc)=cellsFrom w a i n acc:=by
 intro n
 induction n with
 | zero=>intro i acc;rfl
 | succ n ih=>
   intro i acc;simp only [loadCellsFrom,ro_bind,ro_load,cellsFrom];cases w.cell? (a.add i) with
   | none=>rfl
   | some v=>simp [ih]
theorem ro_loadCells {P:Program} {w:World} (a:Addr) (n:Nat):ro P w (loadCells a n)=cellsFrom w a 0 n #[]:=ro_loadCellsFrom a n 0 #[]
inductive O where
 | t (n:Nat)
 | c (v:Value)
 deriving Inhabited
abbrev Env:=List (Nat×Value)
def Env.get (ρ:Env) (t:Nat):Option Value:=
 match ρ with
 | []=>none
 | (s,v)::r=>if s=t then some v else Env.get r t
def Env.put (ρ:Env) (d:Option Nat) (v:Value):Env:=
 match d with
 | none=>ρ
 | some d=>(d,v)::ρ
def Env.keep (ρ:Env):List Nat→Env
 | []=>[]
 | t::ts=>match ρ.get t with
   | some v=>(t,v)::Env.keep ρ ts
   | none=>Env.keep ρ ts
def O.ev (ρ:Env):O→Option Value
 | .t n=>ρ.get n
 | .c v=>some v
def toO:Operand→O
 | .tmp t=>.t t
 | .const v=>.c v
 | .global g=>.c (.pointer (some ⟨g,0,none⟩))
 | .func f=>.c (.func (.func f) #[] #[])
def evs (ρ:Env):List O→Option (List Value)
 | []=>some []
 | x::xs=>match x.ev ρ,evs ρ xs with
   | some v,some vs=>some (v::vs)
   | _,_=>none
inductive EqK where
 | bool | ptr | slice | iface | map | func
 deriving DecidableEq,Inhabited
inductive ScK where
 | int | str | bool
 deriving DecidableEq,Inhabited
inductive R where
 | mv (x:O)
 | nn (x:O)
 | fa (off:Nat) (x:O)
 | l1 (x:O)
 | ln (n:Nat) (x:O)
 | bi (op:BinOp) (x y:O)
 | eq (k:EqK) (neg:Bool) (x y:O)
 | no (x:O)
 | ng (x:O)
 | cv (k:IntKind) (x:O)
 | len (x:O)
 | lns (x:O)
 | lnm (x:O)
 | cap (x:O)
 | ia (sz:Nat) (s i:O)
 | ixs (s i:O)
 | fl (off:Nat) (x:O)
 | fln (off n:Nat) (x:O)
 | sl (sz:Nat) (x:O) (lo hi mx:Option O)
 | sls (x:O) (lo hi:Option O)
 | bd (zero:Array Value) (parts:List (Nat×Nat×O))
 | pk (c a b:O)
 | ex (i:Nat) (x:O)
 | mi (t:Nat) (x:O)
 | mm (mx:Bool) (x y:O)
 | eqa (neg:Bool) (fs:List (Nat×ScK)) (x y:O)
 | mf (fn:Fn) (fst cs:List O)
 deriving Inhabited
def vNN:Value→Option Value
 | .pointer (some a)=>some (.pointer (some a))
 | .iface t v=>some (.iface t v)
 | .func (.func f) a b=>some (.func (.func f) a b)
 | _=>none
def vFA (off:Nat):Value→Option Value
 | .pointer (some a)=>some (.pointer (some (a.add off)))
 | _=>none
def vL1 (w:World):Value→Option Value
 | .pointer (some a)=>w.cell? a
 | _=>none
def vLN (w:World) (n:Nat):Value→Option Value
 | .pointer (some a)=>(cellsFrom w a 0 n #[]).map .agg
 | _=>none
def vInt (op:BinOp) (k:IntKind) (a b:Int):Option Value:=
 match op with
 | .add=>some (.int k (k.wrap (a+b)))
 | .sub=>some (.int k (k.wrap (a - b)))
 | .mul=>some (.int k (k.wrap (a*b)))
 | .quo=>if b=0 then none else some (.int k (k.wrap (a.tdiv b)))
 | .rem=>if b=0 then none else some (.int k (a.tmod b))
 | .and=>some (.int k (k.wrap ((BitVec.ofInt k.bits a &&& BitVec.ofInt k.bits b).toNat)))
 | .or=>some (.int k (k.wrap ((BitVec.ofInt k.bits a ||| BitVec.ofInt k.bits b).toNat)))
 | .xor=>some (.int k (k.wrap ((BitVec.ofInt k.bits a ^^^ BitVec.ofInt k.bits b).toNat)))
 | .andNot=>none
 | .eql=>some (.bool (a == b))
 | .neq=>some (.bool (a != b))
 | .lss=>some (.bool (decide (a < b)))
 | .leq=>some (.bool (decide (a≤b)))
 | .gtr=>some (.bool (decide (a > b)))
 | .geq=>some (.bool (decide (a≥b)))
 | .shl=>none
 | .shr=>none
def vShift (op:BinOp) (k:IntKind) (x y:Int):Option Value:=
 if y < 0 then none else
 match op with
 | .shl=>some (.int k (k.wrap (x*2 ^ (min y.toNat k.bits))))
 | .shr=>some (.int k (x.fdiv (2 ^ (min y.toNat k.bits))))
 | _=>none
def vStr (op:BinOp) (x y:ByteArray):Option Value:=
 match op with
 | .add=>if ((x.size+y.size:Nat):Int) > IntKind.i64.max then none else some (.string (x++y))
 | .eql=>some (.bool (x.toList == y.toList))
 | .neq=>some (.bool !(x.toList == y.toList))
 | .lss=>some (.bool (Op.bytesLess x.toList y.toList))
 | .leq=>some (.bool (Op.bytesLess x.toList y.toList||x.toList == y.toList))
 | .gtr=>some (.bool !(Op.bytesLess x.toList y.toList||x.toList == y.toList))
 | .geq=>some (.bool !(Op.bytesLess x.toList y.toList))
 | _=>none
def vBi (op:BinOp):Value→Value→Option Value
 | .int k a,.int k' b=>match op with
   | .shl=>vShift op k a b
   | .shr=>vShift op k a b
   | _=>if k=k' then vInt op k a b else none
 | .string a,.string b=>vStr op a b
 | _,_=>none
def vEq (k:EqK):Value→Value→Option Bool
 | .bool a,.bool b=>if k = .bool then some (a == b) else none
 | .pointer none,.pointer b=>if k = .ptr then some b.isNone else none
 | .pointer (some _),.pointer none=>if k = .ptr then some false else none
 | .slice none _ _,.slice b _ _=>if k = .slice then some b.isNone else none
 | .slice (some _) _ _,.slice none _ _=>if k = .slice then some false else none
 | .map none,.map b=>if k = .map then some b.isNone else none
 | .map (some _),.map none=>if k = .map then some false else none
 | .nilIface,.iface _ _=>if k = .iface then some false else none
 | .iface _ _,.nilIface=>if k = .iface then some false else none
 | .nilFunc,.nilFunc=>if k = .func then some true else none
 | .nilFunc,.func _ _ _=>if k = .func then some false else none
 | .func _ _ _,.nilFunc=>if k = .func then some false else none
 | _,_=>none
def vNo:Value→Option Value
 | .bool b=>some (.bool !b)
 | _=>none
def vNg:Value→Option Value
 | .int k n=>some (.int k (k.wrap (0 - n)))
 | _=>none
def vCv (k:IntKind):Value→Option Value
 | .int _ n=>some (.int k (k.wrap n))
 | _=>none
def vLen:Value→Option Value
 | .slice _ n _=>some (.int .i64 n)
 | _=>none
def vLns:Value→Option Value
 | .string s=>some (.int .i64 s.size)
 | _=>none
def vLnm (w:World):Value→Option Value
 | .map none=>some (.int .i64 0)
 | .map (some r)=>match w.heap[r]? with
   | some (.map es _)=>some (.int .i64 es.size)
   | _=>none
 | _=>none
def vCap:Value→Option Value
 | .slice _ _ c=>some (.int .i64 c)
 | _=>none
def vIA (sz:Nat):Value→Value→Option Value
 | .slice (some a) len _,.int _ i=>if 0≤i∧i < len then some (.pointer (some (a.add (i.toNat*sz)))) else none
 | _,_=>none
def vIXS:Value→Value→Option Value
 | .string s,.int _ i=>if 0≤i then (s[i.toNat]?).map (fun b=>.int .u8 b.toNat) else none
 | _,_=>none
def vFL (off:Nat):Value→Option Value
 | .agg cs=>cs[off]?
 | _=>none
def vFLN (off n:Nat):Value→Option Value
 | .agg cs=>some (.agg (cs.extract off (off+n)))
 | _=>none
def bnd (v:Option Value) (dflt y:Nat):Option Nat:=
 match v with
 | none=>some dflt
 | some (.int _ i)=>if 0≤i∧i≤y then some i.toNat else none
 | some _=>none
def vSL (sz:Nat) (x:Value) (lo hi mx:Option Value):Option Value:=
 match x with
 | .slice a len cap=>match bnd mx cap cap with
   | none=>none
   | some m=>match bnd hi len m with
     | none=>none
     | some h=>match bnd lo 0 h with
       | none=>none
       | some l=>some (.slice (if m=l then a else a.map (·.add (l*sz))) (h - l) (m - l))
 | _=>none
def vSLS (x:Value) (lo hi:Option Value):Option Value:=
 match x with
 | .string s=>match bnd hi s.size s.size with
   | none=>none
   | some h=>match bnd lo 0 h with
     | none=>none
     | some l=>some (.string (s.extract l h))
 | _=>none
def fillAt (cells:Array Value):List (Nat×Nat×Value)→Option (Array Value)
 | []=>some cells
 | (off,size,v)::rest=>
   if v.cells.size≠size||off+v.cells.size > cells.size then none
   else fillAt (v.cells.zipIdx.foldl (fun cs (c,j)=>cs.setIfInBounds (off+j) c) cells) rest
def vPk:Value→Value→Value→Option Value
 | .bool c,a,b=>some (if c then a else b)
 | _,_,_=>none
def vEx (i:Nat):Value→Option Value
 | .tuple vs=>vs[i]?
 | _=>none
def vMM (mx:Bool):Value→Value→Option Value
 | .int k x,.int _ y=>some (.int k (if mx then (if y > x then y else x) else (if y < x then y else x)))
 | _,_=>none
def scEq:ScK→Value→Value→Option Bool
 | .int,.int k a,.int k' b=>if k=k' then some (a == b) else none
 | .str,.string a,.string b=>some (a.toList == b.toList)
 | .bool,.bool a,.bool b=>some (a == b)
 | _,_,_=>none
def eqCells (xs ys:Array Value):List (Nat×ScK)→Option Bool
 | []=>some true
 | (o,k)::r=>match xs[o]?,ys[o]? with
   | some a,some b=>match scEq k a b,eqCells xs ys r with
     | some c,some d=>some (c&&d)
     | _,_=>none
   | _,_=>none
def vEqa (neg:Bool) (fs:List (Nat×ScK)):Value→Value→Option Value
 | .agg xs,.agg ys=>(eqCells xs ys fs).map fun r=>.bool (if neg then !r else r)
 | _,_=>none
def oev (ρ:Env):Option O→Option (Option Value)
 | none=>some none
 | some x=>match x.ev ρ with
   | some v=>some (some v)
   | none=>none
def pev (ρ:Env):List (Nat×Nat×O)→Option (List (Nat×Nat×Value))
 | []=>some []
 | (o,n,x)::r=>match x.ev ρ,pev ρ r with
   | some v,some l=>some ((o,n,v)::l)
   | _,_=>none
def R.ev (w:World) (ρ:Env):R→Option Value
 | .mv x=>x.ev ρ
 | .nn x=>(x.ev ρ).bind vNN
 | .fa off x=>(x.ev ρ).bind (vFA off)
 | .l1 x=>(x.ev ρ).bind (vL1 w)
 | .ln n x=>(x.ev ρ).bind (vLN w n)
 | .bi op x y=>(x.ev ρ).bind fun a=>(y.ev ρ).bind fun b=>vBi op a b
 | .eq k neg x y=>(x.ev ρ).bind fun a=>(y.ev ρ).bind fun b=>(vEq k a b).map fun r=>.bool (if neg then !r else r)
 | .no x=>(x.ev ρ).bind vNo
 | .ng x=>(x.ev ρ).bind vNg
 | .cv k x=>(x.ev ρ).bind (vCv k)
 | .len x=>(x.ev ρ).bind vLen
 | .lns x=>(x.ev ρ).bind vLns
 | .lnm x=>(x.ev ρ).bind (vLnm w)
 | .cap x=>(x.ev ρ).bind vCap
 | .ia sz s i=>(s.ev ρ).bind fun a=>(i.ev ρ).bind fun b=>vIA sz a b
 | .ixs s i=>(s.ev ρ).bind fun a=>(i.ev ρ).bind fun b=>vIXS a b
 | .fl off x=>(x.ev ρ).bind (vFL off)
 | .fln off n x=>(x.ev ρ).bind (vFLN off n)
 | .sl sz x lo hi mx=>(x.ev ρ).bind fun a=>(oev ρ lo).bind fun l=>(oev ρ hi).bind fun h=>(oev ρ mx).bind fun m=>vSL sz a l h m
 | .sls x lo hi=>(x.ev ρ).bind fun a=>(oev ρ lo).bind fun l=>(oev ρ hi).bind fun h=>vSLS a l h
 | .bd zero parts=>(pev ρ parts).bind fun ps=>(fillAt zero ps).map .agg
 | .pk c a b=>(c.ev ρ).bind fun c=>(a.ev ρ).bind fun a=>(b.ev ρ).bind fun b=>vPk c a b
 | .ex i x=>(x.ev ρ).bind (vEx i)
 | .mi t x=>(x.ev ρ).map (.iface t)
 | .mm mx x y=>(x.ev ρ).bind fun a=>(y.ev ρ).bind fun b=>vMM mx a b
 | .eqa neg fs x y=>(x.ev ρ).bind fun a=>(y.ev ρ).bind fun b=>vEqa neg fs a b
 | .mf fn fst cs=>(evs ρ fst).bind fun f=>(evs ρ cs).map fun c=>.func fn f.toArray c.toArray
end
section
open Go
def szOf (P:Program) (t:TypeId):Option Nat:=(P.info? t).map (·.size)
def isC:Operand→Bool
 | .const _=>true
 | _=>false
def eqK:TypeDesc→Option EqK
 | .bool=>some .bool
 | .pointer _=>some .ptr
 | .slice _=>some .slice
 | .interface _=>some .iface
 | .map _ _=>some .map
 | .func _ _ _=>some .func
 | _=>none
def resFields (P:Program) (fs:Array Field):List (Nat×Operand)→Option (List (Nat×Nat×O))
 | []=>some []
 | (i,x)::r=>match fs[i]? with
   | some f=>match szOf P f.type,resFields P fs r with
     | some n,some l=>some ((f.offset,n,toO x)::l)
     | _,_=>none
   | none=>none
def scK (P:Program) (f:Field):Option (Nat×ScK):=
 if f.name = "_" then none else
 match P.underlying f.type with
 | some (.int _)=>some (f.offset,.int)
 | some .string=>some (f.offset,.str)
 | some .bool=>some (f.offset,.bool)
 | _=>none
def scKs (P:Program):List Field→Option (List (Nat×ScK))
 | []=>some []
 | f::fs=>match scK P f,scKs P fs with
   | some a,some l=>some (a::l)
   | _,_=>none
def eqaOk (P:Program) (t:TypeId):Option (List (Nat×ScK)):=
 match P.underlying t with
 | some (.struct fs)=>if P.stoodInHeld t||P.eqGuardType P.depth t then none else scKs P fs.toList
 | _=>none
def allSized (P:Program) (fs:List Field):Bool:=fs.all fun f=>(szOf P f.type).isSome
def res (P:Program):Op→Option R
 | .move x=>some (.mv (toO x))
 | .assign x=>some (.mv (toO x))
 | .nilCheck x=>some (.nn (toO x))
 | .fieldAddr s x f=>match P.underlying s with
   | some (.struct fs)=>match fs[f]? with
     | some fd=>match szOf P fd.type with
       | some (_+1)=>some (.fa fd.offset (toO x))
       | _=>none
     | none=>none
   | _=>none
 | .load t x=>match P.underlying t,szOf P t with
   | some d,some n=>some (if aggB d then .ln n (toO x) else .l1 (toO x))
   | _,_=>none
 | .binOp op t x y _=>match P.underlying t with
   | some (.int _)=>some (.bi op (toO x) (toO y))
   | some .string=>some (.bi op (toO x) (toO y))
   | some d=>match eqK d,op with
     | some k,.eql=>if (k = .iface||k = .ptr) && !(isC x||isC y) then none else some (.eq k false (toO x) (toO y))
     | some k,.neq=>if (k = .iface||k = .ptr) && !(isC x||isC y) then none else some (.eq k true (toO x) (toO y))
     | none,.eql=>(eqaOk P t).map fun fs=>.eqa false fs (toO x) (toO y)
     | none,.neq=>(eqaOk P t).map fun fs=>.eqa true fs (toO x) (toO y)
     | _,_=>none
   | none=>none
 | .unOp .not _ x=>some (.no (toO x))
 | .unOp .neg _ x=>some (.ng (toO x))
 | .convert s d x=>match P.underlying s,P.underlying d with
   | some (.int _),some (.int k)=>some (.cv k (toO x))
   | _,_=>none
 | .call { callee:=.builtin .len,args,argTypes}=>match argTypes[0]?,args.toList with
   | some t,[x]=>match P.underlying t with
     | some (.slice _)=>some (.len (toO x))
     | some .string=>some (.lns (toO x))
     | some (.map _ _)=>some (.lnm (toO x))
     | _=>none
   | _,_=>none
 | .call { callee:=.builtin .cap,args,argTypes}=>match argTypes[0]?,args.toList with
   | some t,[x]=>match P.underlying t with
     | some (.slice _)=>some (.cap (toO x))
     | _=>none
   | _,_=>none
 | .call { callee:=.builtin .min,args,..}=>match args.toList with
   | [x,y]=>some (.mm false (toO x) (toO y))
   | _=>none
 | .call { callee:=.builtin .max,args,..}=>match args.toList with
   | [x,y]=>some (.mm true (toO x) (toO y))
   | _=>none
 | .indexAddr t x i=>match P.underlying t with
   | some (.slice e)=>(szOf P e).map fun n=>.ia n (toO x) (toO i)
   | _=>none
 | .index t x i=>match P.underlying t with
   | some .string=>some (.ixs (toO x) (toO i))
   | _=>none
 | .field t x f=>match P.underlying t with
   | some (.struct fs)=>match fs[f]? with
     | some fd=>match P.underlying fd.type,szOf P fd.type with
       | some d,some n=>some (if aggB d then .fln fd.offset n (toO x) else .fl fd.offset (toO x))
       | _,_=>none
     | none=>none
   | _=>none
 | .slice t x lo hi mx=>match P.underlying t with
   | some (.slice e)=>match szOf P e with
     | some n=>if mx.isSome && !hi.isSome then none else some (.sl n (toO x) (lo.map toO) (hi.map toO) (mx.map toO))
     | none=>none
   | some .string=>if mx.isSome then none else some (.sls (toO x) (lo.map toO) (hi.map toO))
   | _=>none
 | .build t parts=>match P.underlying t,(P.info? t).bind (·.zero) with
   | some (.struct fs),some z=>if allSized P fs.toList then (resFields P fs parts.toList).map (.bd z.cells) else none
   | _,_=>none
 | .pick c a b=>some (.pk (toO c) (toO a) (toO b))
 | .extract x i=>some (.ex i (toO x))
 | .makeInterface t x=>match P.underlying t with
   | some (.interface _)=>none
   | some _=>some (.mi t (toO x))
   | none=>none
 | .makeFunc fn f c=>some (.mf fn (f.toList.map toO) (c.toList.map toO))
 | _=>none
section
variable {P:Program} {w:World}
theorem ro_v (s:Sem Value):ro P w (do pure (.value (← s)):Sem Next)=(ro P w s).map Next.value:=by
 rw [ro_bind];cases ro P w s<;>rfl
theorem ro_intOp {op:BinOp} {k:IntKind} {a b:Int} {v:Value} (h:vInt op k a b=some v) (x:TypeId) :
   ro P w (binOp op x (.int k a) (.int k b))=some v:=by
 cases op
 all_goals first
   | (simp only [vInt,Option.some.injEq] at h;subst h;simp only [binOp,Op.intArith,Op.intBits,Op.intCmp,ne_eq,not_true_eq_false,if_false];rfl)
   | (simp only [vInt] at h;split at h
      · cases h
      · rename_i hb;simp only [Option.some.injEq] at h;subst h;simp [binOp,Op.intDiv,hb])
   | (simp [vInt] at h)
theorem ro_binOp {op:BinOp} {x y:Value} {v:Value} (h:vBi op x y=some v) (t:TypeId):ro P w (binOp op t x y)=some v:=by
 unfold vBi at h
 split at h
 · rename_i k a k' b
   split at h
   · unfold vShift at h
     split at h
     · cases h
     · rename_i hb;simp only [Option.some.injEq] at h;subst h;simp [binOp,Op.shift,hb]
   · unfold vShift at h
     split at h
     · cases h
     · rename_i hb;simp only [Option.some.injEq] at h;subst h;simp [binOp,Op.shift,hb]
   · rename_i h1 h2
     split at h
     · rename_i hk;subst hk;exact ro_intOp h t
     · cases h
 · rename_i a b;unfold vStr at h;cases op<;>simp only at h<;>try (cases h)
   all_goals first
     | rfl
     | (split at h
        · cases h
        · rename_i hb;cases h;simp only [binOp,Op.stringOp];rw [if_neg hb];rfl)
 · cases h
theorem ro_eqGuard_int {op:BinOp} {x y:Operand} {a b:Value} {t:TypeId} {v:Value} (h:vBi op a b=some v):ro P w (eqGuard op t x y a b)=some ():=by
 unfold vBi at h
 split at h
 · cases op<;>rfl
 · cases op<;>rfl
 · cases h
theorem ro_equal {k:EqK} {d:TypeDesc} {t:TypeId} {a b:Value} {r:Bool} (hd:P.underlying t=some d) (hk:eqK d=some k) (h:vEq k a b=some r) :
   ro P w (Op.equal t a b)=some r:=by
 unfold Op.equal Op.maxDepth;unfold Op.equalIn;rw [ro_bind,ro_underlying,hd,Option.bind_some];unfold vEq at h
 split at h<;>(try split at h)<;>(try cases h)<;>rename_i hkk<;>subst hkk<;>(cases d<;>simp only [eqK,Option.some.injEq,reduceCtorEq] at hk)<;>rfl
theorem vEq_not_agg {k:EqK} {a b:Value} {r:Bool} (h:vEq k a b=some r) (op:BinOp) (t:TypeId) (x y:Operand):ro P w (eqGuard op t x y a b)=some ():=by
 unfold vEq at h
 split at h<;>(try split at h)<;>(try cases h)<;>(cases op<;>rfl)
theorem binOp_eq {k:EqK} {a b:Value} {r:Bool} (h:vEq k a b=some r) (t:TypeId) :
   binOp .eql t a b=(do pure (.bool (← Op.equal t a b)))∧binOp .neq t a b=(do pure (.bool (!(← Op.equal t a b)))):=by
 unfold vEq at h
 split at h<;>(try split at h)<;>(try cases h)<;>exact ⟨rfl,rfl⟩
theorem evs_of {ρ:Env} {e:Operand→Value} (he:∀ x u,(toO x).ev ρ=some u→e x=u):∀ (l:List Operand) (vs:List Value),evs ρ (l.map toO)=some vs→l.map e=vs:=by
 intro l
 induction l with
 | nil=>intro vs h;simp only [List.map_nil,evs,Option.some.injEq] at h;subst h;rfl
 | cons x l ih=>
   intro vs h;simp only [List.map_cons,evs] at h
   split at h
   · rename_i v vs' h1 h2;simp only [Option.some.injEq] at h;subst h;simp [he x v h1,ih vs' h2]
   · cases h
theorem oev_of {ρ:Env} {e:Operand→Value} (he:∀ x u,(toO x).ev ρ=some u→e x=u) (x:Option Operand) (v:Option Value) (h:oev ρ (x.map toO)=some v):x.map e=v:=by
 cases x with
 | none=>simp only [Option.map_none,oev,Option.some.injEq] at h;subst h;rfl
 | some x=>
   simp only [Option.map_some,oev] at h
   split at h
   · rename_i u hu;simp only [Option.some.injEq] at h;subst h;simp [he x u hu]
   · cases h
theorem ro_sliceBound {x:Value} {y:Nat} {c:BoundsCode} {d n:Nat} (h:bnd (some x) d y=some n):ro P w (Instr.sliceBound x y c)=some n:=by
 unfold bnd at h
 split at h
 · rename_i he;cases he
 · rename_i k i he;simp only [Option.some.injEq] at he;subst he
   split at h
   · rename_i hi;simp only [Option.some.injEq] at h;subst h;simp [Instr.sliceBound,asIntOf,ro_bind,hi]
   · cases h
 · cases h
theorem ro_sliceBounds {isS:Bool} {len cap m h l:Nat} {lo hi mx:Option Value} (h1:bnd mx cap cap=some m) (h2:bnd hi len m=some h) (h3:bnd lo 0 h=some l)
   (hm:mx.isSome=true→hi.isSome=true):ro P w (Instr.sliceBounds isS len cap lo hi mx)=some (l,h,m):=by
 unfold Instr.sliceBounds;cases mx with
 | none=>
   simp only [bnd,Option.some.injEq] at h1;subst h1;cases hi with
   | none=>
     simp only [bnd,Option.some.injEq] at h2;subst h2;cases lo with
     | none=>simp only [bnd,Option.some.injEq] at h3;subst h3;simp [ro_bind]
     | some v=>simp [ro_bind,ro_sliceBound h3]
   | some u=>
     cases lo with
     | none=>simp only [bnd,Option.some.injEq] at h3;subst h3;simp [ro_bind,ro_sliceBound h2]
     | some v=>simp [ro_bind,ro_sliceBound h3,ro_sliceBound h2]
 | some x=>
   cases hi with
   | none=>simp at hm
   | some u=>
     cases lo with
     | none=>simp only [bnd,Option.some.injEq] at h3;subst h3;simp [ro_bind,ro_sliceBound h2,ro_sliceBound h1]
     | some v=>simp [ro_bind,ro_sliceBound h3,ro_sliceBound h2,ro_sliceBound h1]
theorem ro_part {t:TypeId} {cs:Array Value} {off n:Nat} {d:TypeDesc} {v:Value} (hd:P.underlying t=some d) (hn:szOf P t=some n)
   (h:(if aggB d then some (.agg (cs.extract off (off+n))) else cs[off]?)=some v):ro P w (part t cs off)=some v:=by
 unfold part;rw [ro_bind,ro_isAgg,hd];simp only [Option.map_some,Option.bind_some];cases hb:aggB d with
 | true=>
   simp only [hb,if_true,Option.some.injEq] at h;subst h;unfold szOf at hn;simp only [if_true,ro_bind,ro_sizeOf,hn,Option.bind_some,ro_pure]
 | false=>
   simp only [hb,Bool.false_eq_true,if_false] at h;simp only [Bool.false_eq_true,if_false,h,ro_pure]
theorem fill_of {P:Program} {fs:Array Field} {pl:Nat→Option (Nat×Nat)} (hpl:∀ i f n,fs[i]? = some f→szOf P f.type=some n→pl i=some (f.offset,n))
   {ρ:Env} {e:Operand→Value} (he:∀ x u,(toO x).ev ρ=some u→e x=u):∀ (parts:List (Nat×Operand)) (ps:List (Nat×Nat×O)) (vs:List (Nat×Nat×Value)) (cells out:Array Value),
   resFields P fs parts=some ps→pev ρ ps=some vs→fillAt cells vs=some out→Instr.fill pl cells (parts.map fun p=>(p.1,e p.2))=some out:=by
 intro parts
 induction parts with
 | nil=>
   intro ps vs cells out h1 h2 h3;simp only [resFields,Option.some.injEq] at h1;subst h1;simp only [pev,Option.some.injEq] at h2;subst h2
   simpa [fillAt,Instr.fill] using h3
 | cons p parts ih=>
   intro ps vs cells out h1 h2 h3;obtain ⟨i,x⟩:=p;simp only [resFields] at h1
   split at h1
   · rename_i f hf
     split at h1
     · rename_i n l hn hl;simp only [Option.some.injEq] at h1;subst h1;simp only [pev] at h2
       split at h2
       · rename_i v l' hv hl';simp only [Option.some.injEq] at h2;subst h2;simp only [fillAt] at h3
         split at h3
         · cases h3
         · rename_i hc;simp only [List.map_cons,Instr.fill,hpl i f n hf hn,he x v hv];rw [if_neg hc];exact ih l l' _ out hl hl' h3
       · cases h2
     · cases h1
   · cases h1
theorem mapM_sizes:∀ (fs:List Field),allSized P fs=true→∃ l:List (Nat×Nat),ro P w (fs.mapM fun f=>do pure (f.offset,← sizeOf f.type):Sem (List (Nat×Nat)))=some l ∧
   ∀ (i:Nat) (f:Field) (n:Nat),fs[i]? = some f→szOf P f.type=some n→l[i]? = some (f.offset,n):=by
 intro fs
 induction fs with
 | nil=>intro _;exact ⟨[],by simp [List.mapM_nil],by simp⟩
 | cons f fs ih=>
   intro h;simp only [allSized,List.all_cons,Bool.and_eq_true] at h;obtain ⟨h1,h2⟩:=h;obtain ⟨l,hl,hl2⟩:=ih h2;obtain ⟨n,hn⟩:=Option.isSome_iff_exists.1 h1;refine ⟨(f.offset,n)::l,?_,?_⟩
   · unfold szOf at hn;simp only [List.mapM_cons,ro_bind,ro_sizeOf,hn,Option.bind_some,ro_pure,hl]
   · intro i g m hg hm;cases i with
     | zero=>
       simp only [List.getElem?_cons_zero,Option.some.injEq] at hg;subst hg;rw [hn] at hm;cases hm;rfl
     | succ i=>exact hl2 i g m (by simpa using hg) hm
theorem ro_equalIn_struct (d:Nat) (t:TypeId) (xs ys:Array Value) (fs:Array Field) (ht:P.underlying t=some (.struct fs)) (hp:P.stoodInHeld t=false) :
   ro P w (Op.equalIn (d+1) t (.agg xs) (.agg ys))=ro P w (Op.eqFields d xs ys fs.toList):=by
 simp only [Op.equalIn,ro_bind,ro_underlying,ht,Option.bind_some,ro_program,hp,Bool.false_eq_true,if_false];rw [← Array.forIn_toList];generalize fs.toList=fs;clear ht
 induction fs with
 | nil=>simp [Op.eqFields]
 | cons f fs ih=>
   simp only [List.forIn_cons,Op.eqFields];by_cases hn:f.name ≠ "_"
   · rw [if_pos hn,if_pos hn];simp only [ro_bind];cases ro P w (part f.type xs f.offset) with
     | none=>rfl
     | some a=>
       simp only [Option.bind_some];cases ro P w (part f.type ys f.offset) with
       | none=>rfl
       | some b=>
         simp only [Option.bind_some];cases ro P w (Op.equalIn d f.type a b) with
         | none=>rfl
         | some r=>
           cases r
           · simp only [Option.bind_some,Bool.not_false,if_true,ro_pure]
           · simp only [Option.bind_some,Bool.not_true,Bool.false_eq_true,if_false,ro_pure];exact ih
   · rw [if_neg hn,if_neg hn];exact ih
theorem ro_eqFields (d:Nat) (xs ys:Array Value):∀ (fs:List Field) (l:List (Nat×ScK)) (r:Bool),scKs P fs=some l→eqCells xs ys l=some r→ro P w (Op.eqFields (d+1) xs ys fs)=some r:=by
 intro fs
 induction fs with
 | nil=>
   intro l r h1 h2;simp only [scKs,Option.some.injEq] at h1;subst h1;simp only [eqCells,Option.some.injEq] at h2;subst h2;rfl
 | cons f fs ih=>
   intro l r h1 h2;simp only [scKs] at h1
   split at h1
   · rename_i a l' ha hl;simp only [Option.some.injEq] at h1;subst h1;unfold scK at ha
     split at ha
     · cases ha
     · rename_i hn;obtain ⟨o,k⟩:=a;simp only [eqCells] at h2
       split at h2
       · rename_i a b hxa hyb
         split at h2
         · rename_i c d' hc hd';simp only [Option.some.injEq] at h2;subst h2;have key:∀ (dd:TypeDesc),P.underlying f.type=some dd→aggB dd=false→f.offset=o→ro P w (Op.equalIn (d+1) f.type a b)=some c →
               ro P w (Op.eqFields (d+1) xs ys (f::fs))=some (c&&d'):=by
             intro dd hdd hagg hof he;simp only [Op.eqFields];rw [if_pos (by simpa using hn)];have hp:∀ (zs:Array Value) (v:Value),zs[o]? = some v→ro P w (part f.type zs f.offset)=some v:=by
               intro zs v hv;unfold part;rw [ro_bind,ro_isAgg,hdd];simp only [Option.map_some,Option.bind_some,hagg,Bool.false_eq_true,if_false,hof,hv,ro_pure]
             simp only [ro_bind,hp xs a hxa,hp ys b hyb,he,Option.bind_some];cases c with
             | true=>simp only [Bool.not_true,Bool.false_eq_true,if_false,Bool.true_and];exact ih l' d' hl hd'
             | false=>rfl
           split at ha
           · rename_i kk hk;simp only [Option.some.injEq,Prod.mk.injEq] at ha;obtain ⟨h3,rfl⟩:=ha;cases a with
             | int k1 a1=>cases b with
               | int k2 b1=>
                 simp only [scEq] at hc
                 split at hc
                 · rename_i hkk;subst hkk;simp only [Option.some.injEq] at hc;subst hc;refine key _ hk rfl h3 ?_;unfold Op.equalIn;simp only [ro_bind,ro_underlying,hk,Option.bind_some,if_true,ro_pure]
                 · cases hc
               | _=>simp [scEq] at hc
             | _=>cases b<;>simp [scEq] at hc
           · rename_i hk;simp only [Option.some.injEq,Prod.mk.injEq] at ha;obtain ⟨h3,rfl⟩:=ha;cases a with
             | string s1=>cases b with
               | string s2=>
                 simp only [scEq,Option.some.injEq] at hc;subst hc;refine key _ hk rfl h3 ?_;unfold Op.equalIn;simp only [ro_bind,ro_underlying,hk,Option.bind_some,ro_pure];rw [beq_toListBytes]
               | _=>simp [scEq] at hc
             | _=>cases b<;>simp [scEq] at hc
           · rename_i hk;simp only [Option.some.injEq,Prod.mk.injEq] at ha;obtain ⟨h3,rfl⟩:=ha;cases a with
             | bool s1=>cases b with
               | bool s2=>
                 simp only [scEq,Option.some.injEq] at hc;subst hc;refine key _ hk rfl h3 ?_;unfold Op.equalIn;simp only [ro_bind,ro_underlying,hk,Option.bind_some,ro_pure]
               | _=>simp [scEq] at hc
             | _=>cases b<;>simp [scEq] at hc
           · cases ha
         · cases h2
       · cases h2
   · cases h1
theorem ro_eqa {t:TypeId} {l:List (Nat×ScK)} (h:eqaOk P t=some l) {neg:Bool} {a b v:Value} (hv:vEqa neg l a b=some v) (op:BinOp) (hop:op=if neg then .neq else .eql) (x y:Operand) :
   ((ro P w (eqGuard op t x y a b)).bind fun _=>ro P w (binOp op t a b))=some v:=by
 unfold eqaOk at h
 split at h
 · rename_i fs hfs
   split at h
   · cases h
   · rename_i hc;simp only [Bool.or_eq_true,not_or,Bool.not_eq_true] at hc;cases a with
     | agg xs=>cases b with
       | agg ys=>
         simp only [vEqa] at hv;obtain ⟨r,hr,hv⟩:=Option.map_eq_some_iff.1 hv;have he:ro P w (Op.equal t (.agg xs) (.agg ys))=some r:=by
           unfold Op.equal Op.maxDepth;rw [ro_equalIn_struct _ t xs ys fs hfs hc.1];exact ro_eqFields _ xs ys _ l r h hr
         have hg:ro P w (eqGuard op t x y (.agg xs) (.agg ys))=some ():=by
           have e1:P.eqGuardType P.depth t=false:=hc.2;cases op<;>simp [eqGuard,ro_bind,ro_program,e1]
         rw [hg,Option.bind_some];subst hv;cases neg with
         | false=>subst hop;simp only [Bool.false_eq_true,if_false,binOp,ro_bind,he,Option.bind_some,ro_pure]
         | true=>subst hop;simp only [if_true,binOp,ro_bind,he,Option.bind_some,ro_pure]
       | _=>simp [vEqa] at hv
     | _=>cases b<;>simp [vEqa] at hv
 · cases h
theorem res_sound {o:Oper} {r:R} (h:res P o.op=some r) {ρ:Env} {e:Operand→Value} (he:∀ x u,(toO x).ev ρ=some u→e x=u) {v:Value} (hv:r.ev w ρ=some v) :
   ro P w (execOp e o)=some (.value v):=by
 obtain ⟨dst,op,ty,pos,after,guard⟩:=o;simp only at h;unfold execOp;simp only;unfold res at h
 split at h
 · simp only [Option.some.injEq] at h;subst h;simp only [R.ev] at hv;simp [he _ _ hv]
 · simp only [Option.some.injEq] at h;subst h;simp only [R.ev] at hv;simp [he _ _ hv]
 ·
   simp only [Option.some.injEq] at h;subst h;simp only [R.ev] at hv;rename_i x;obtain ⟨u,hu,hv⟩:=Option.bind_eq_some_iff.1 hv;simp only;rw [he _ _ hu];unfold vNN at hv
   split at hv<;>first | (simp only [Option.some.injEq] at hv;subst hv;rfl) | cases hv
 ·
   rename_i s x f
   split at h
   · rename_i fs hfs
     split at h
     · rename_i fd hfd
       split at h
       · rename_i n hn;simp only [Option.some.injEq] at h;subst h;simp only [R.ev] at hv;obtain ⟨u,hu,hv⟩:=Option.bind_eq_some_iff.1 hv;rw [ro_v,he _ _ hu];unfold vFA at hv
         split at hv
         · rename_i a;simp only [Option.some.injEq] at hv;subst hv;unfold szOf at hn;simp only [Instr.fieldAt,ro_bind,ro_underlying,hfs,Option.bind_some,hfd,Instr.sureAddr,ro_pure,fieldPlace,ro_sizeOf,hn];simp
         · cases hv
       · cases h
     · cases h
   · cases h
 ·
   rename_i t x
   split at h
   · rename_i d n hd hn;simp only [Option.some.injEq] at h;subst h;rw [ro_v];cases hb:aggB d with
     | true=>
       simp only [hb,if_true,R.ev] at hv;obtain ⟨u,hu,hv⟩:=Option.bind_eq_some_iff.1 hv;rw [he _ _ hu];unfold vLN at hv
       split at hv
       · rename_i a;unfold szOf at hn;simp only [Instr.loadAt,Instr.sureAddr,ro_bind,ro_pure,Option.bind_some,loadVar,ro_isAgg,hd,Option.map_some,hb,if_true,ro_sizeOf,hn,ro_loadCells];obtain ⟨cs,hcs,hv⟩:=Option.map_eq_some_iff.1 hv;subst hv;simp [hcs]
       · cases hv
     | false=>
       simp only [hb,Bool.false_eq_true,if_false,R.ev] at hv;obtain ⟨u,hu,hv⟩:=Option.bind_eq_some_iff.1 hv;rw [he _ _ hu];unfold vL1 at hv
       split at hv
       · rename_i a;simp only [Instr.loadAt,Instr.sureAddr,ro_bind,ro_pure,Option.bind_some,loadVar,ro_isAgg,hd,Option.map_some,hb,Bool.false_eq_true,if_false,ro_load,hv]
       · cases hv
   · cases h
 ·
   rename_i op t x y yt;rw [ro_v,ro_bind];have intCase:∀ {v},(R.bi op (toO x) (toO y)).ev w ρ=some v→((ro P w (eqGuard op t x y (e x) (e y))).bind fun _=>ro P w (binOp op t (e x) (e y)))=some v:=by
     intro v hv;simp only [R.ev] at hv;obtain ⟨a,ha,hv⟩:=Option.bind_eq_some_iff.1 hv;obtain ⟨b,hb,hv⟩:=Option.bind_eq_some_iff.1 hv;rw [he _ _ ha,he _ _ hb,ro_eqGuard_int hv,Option.bind_some,ro_binOp hv]
   split at h
   · simp only [Option.some.injEq] at h;subst h;rw [intCase hv];rfl
   · simp only [Option.some.injEq] at h;subst h;rw [intCase hv];rfl
   · rename_i d hd1 hd2 hd
     split at h
     · rename_i k hk
       split at h
       · cases h
       · rename_i hg;simp only [Option.some.injEq] at h;subst h;simp only [R.ev] at hv;obtain ⟨a,ha,hv⟩:=Option.bind_eq_some_iff.1 hv;obtain ⟨b,hb,hv⟩:=Option.bind_eq_some_iff.1 hv;obtain ⟨r,hr,hv⟩:=Option.map_eq_some_iff.1 hv;subst hv;rw [he _ _ ha,he _ _ hb,vEq_not_agg hr,Option.bind_some,(binOp_eq hr t).1,ro_bind,ro_equal hd hk hr];simp
     · rename_i k hk
       split at h
       · cases h
       · rename_i hg;simp only [Option.some.injEq] at h;subst h;simp only [R.ev] at hv;obtain ⟨a,ha,hv⟩:=Option.bind_eq_some_iff.1 hv;obtain ⟨b,hb,hv⟩:=Option.bind_eq_some_iff.1 hv;obtain ⟨r,hr,hv⟩:=Option.map_eq_some_iff.1 hv;subst hv;rw [he _ _ ha,he _ _ hb,vEq_not_agg hr,Option.bind_some,(binOp_eq hr t).2,ro_bind,ro_equal hd hk hr];simp
     · obtain ⟨l,hl,h1⟩:=Option.map_eq_some_iff.1 h;subst h1;simp only [R.ev] at hv;obtain ⟨a,ha,hv⟩:=Option.bind_eq_some_iff.1 hv;obtain ⟨b,hb,hv⟩:=Option.bind_eq_some_iff.1 hv;rw [he _ _ ha,he _ _ hb,ro_eqa hl hv .eql rfl x y];rfl
     · obtain ⟨l,hl,h1⟩:=Option.map_eq_some_iff.1 h;subst h1;simp only [R.ev] at hv;obtain ⟨a,ha,hv⟩:=Option.bind_eq_some_iff.1 hv;obtain ⟨b,hb,hv⟩:=Option.bind_eq_some_iff.1 hv;rw [he _ _ ha,he _ _ hb,ro_eqa hl hv .neq rfl x y];rfl
     · cases h
   · cases h
 ·
   simp only [Option.some.injEq] at h;subst h;simp only [R.ev] at hv;obtain ⟨u,hu,hv⟩:=Option.bind_eq_some_iff.1 hv;rw [ro_v,he _ _ hu];unfold vNo at hv
   split at hv<;>first | (simp only [Option.some.injEq] at hv;subst hv;rfl) | cases hv
 ·
   simp only [Option.some.injEq] at h;subst h;simp only [R.ev] at hv;obtain ⟨u,hu,hv⟩:=Option.bind_eq_some_iff.1 hv;rw [ro_v,he _ _ hu];unfold vNg at hv
   split at hv<;>first | (simp only [Option.some.injEq] at hv;subst hv;rfl) | cases hv
 ·
   rename_i s d x
   split at h
   · rename_i ks kd hs hd;simp only [Option.some.injEq] at h;subst h;simp only [R.ev] at hv;obtain ⟨u,hu,hv⟩:=Option.bind_eq_some_iff.1 hv;rw [ro_v,he _ _ hu];unfold vCv at hv
     split at hv
     · simp only [Option.some.injEq] at hv;subst hv;simp only [convert,ro_bind,ro_underlying,hs,hd,Option.bind_some];rfl
     · cases hv
   · cases h
 ·
   rename_i args argTypes;have key:∀ t x,argTypes[0]? = some t→args.toList=[x]→∀ (q:Value) (n:Value),e x=q→ro P w (Builtin.len_ argTypes ty #[q])=some n →
       ro P w (do let d ← resolve e { callee:=Callee.builtin Builtin.len,args:=args,argTypes:=argTypes} ty;invoke d.target d.args)=some (.value n):=by
     intro t x ht hx q n hq hn;have hargs:args = #[x]:=by cases args;simp_all
     subst hargs;simp only [resolve,ro_bind,ro_pure,Option.bind_some,invoke,builtin,List.map_toArray,List.map_cons,List.map_nil,hq,hn]
   split at h
   · rename_i t x ht hx
     split at h
     · rename_i e' hu;simp only [Option.some.injEq] at h;subst h;simp only [R.ev] at hv;obtain ⟨u,hxu,hv⟩:=Option.bind_eq_some_iff.1 hv;refine key t x ht hx u v (he _ _ hxu) ?_;unfold vLen at hv
       split at hv
       · simp only [Option.some.injEq] at hv;subst hv;simp [Builtin.len_,ht,ro_bind,ro_underlying,hu,goInt]
       · cases hv
     · rename_i hu;simp only [Option.some.injEq] at h;subst h;simp only [R.ev] at hv;obtain ⟨u,hxu,hv⟩:=Option.bind_eq_some_iff.1 hv;refine key t x ht hx u v (he _ _ hxu) ?_;unfold vLns at hv
       split at hv
       · simp only [Option.some.injEq] at hv;subst hv;simp [Builtin.len_,ht,ro_bind,ro_underlying,hu,goInt]
       · cases hv
     · rename_i k' e' hu;simp only [Option.some.injEq] at h;subst h;simp only [R.ev] at hv;obtain ⟨u,hxu,hv⟩:=Option.bind_eq_some_iff.1 hv;refine key t x ht hx u v (he _ _ hxu) ?_;unfold vLnm at hv
       split at hv
       · simp only [Option.some.injEq] at hv;subst hv;simp [Builtin.len_,ht,ro_bind,ro_underlying,hu,goInt]
       · rename_i r
         split at hv
         · rename_i es ck hr;simp only [Option.some.injEq] at hv;subst hv;simp [Builtin.len_,ht,ro_bind,ro_underlying,hu,goInt,getObj,ro,hr]
         · cases hv
       · cases hv
     · cases h
   · cases h
 ·
   rename_i args argTypes
   split at h
   · rename_i t x ht hx;have hargs:args = #[x]:=by cases args;simp_all
     subst hargs
     split at h
     · rename_i e' hu;simp only [Option.some.injEq] at h;subst h;simp only [R.ev] at hv;obtain ⟨u,hxu,hv⟩:=Option.bind_eq_some_iff.1 hv;have hq:=he _ _ hxu;unfold vCap at hv
       split at hv
       · simp only [Option.some.injEq] at hv;subst hv;simp [resolve,ro_bind,invoke,builtin,hq,Builtin.cap_,ht,ro_underlying,hu,goInt]
       · cases hv
     · cases h
   · cases h
 ·
   rename_i args argTypes
   split at h
   · rename_i x y hx;have hargs:args = #[x,y]:=by cases args;simp_all
     subst hargs;simp only [Option.some.injEq] at h;subst h;simp only [R.ev] at hv;obtain ⟨a,ha,hv⟩:=Option.bind_eq_some_iff.1 hv;obtain ⟨b,hb,hv⟩:=Option.bind_eq_some_iff.1 hv;have ea:=he _ _ ha;have eb:=he _ _ hb;unfold vMM at hv
     split at hv
     · simp only [Option.some.injEq] at hv;subst hv;simp [resolve,ro_bind,invoke,builtin,ea,eb,Builtin.min_,List.foldlM,Builtin.min2]
     · cases hv
   · cases h
 ·
   rename_i args argTypes
   split at h
   · rename_i x y hx;have hargs:args = #[x,y]:=by cases args;simp_all
     subst hargs;simp only [Option.some.injEq] at h;subst h;simp only [R.ev] at hv;obtain ⟨a,ha,hv⟩:=Option.bind_eq_some_iff.1 hv;obtain ⟨b,hb,hv⟩:=Option.bind_eq_some_iff.1 hv;have ea:=he _ _ ha;have eb:=he _ _ hb;unfold vMM at hv
     split at hv
     · simp only [Option.some.injEq] at hv;subst hv;simp [resolve,ro_bind,invoke,builtin,ea,eb,Builtin.max_,List.foldlM,Builtin.max2]
     · cases hv
   · cases h
 ·
   rename_i t x i
   split at h
   · rename_i el hu;obtain ⟨n,hn,h⟩:=Option.map_eq_some_iff.1 h;subst h;simp only [R.ev] at hv;obtain ⟨a,ha,hv⟩:=Option.bind_eq_some_iff.1 hv;obtain ⟨b,hb,hv⟩:=Option.bind_eq_some_iff.1 hv;rw [ro_v,he _ _ ha,he _ _ hb];unfold vIA at hv
     split at hv
     · rename_i ad len c k j
       split at hv
       · rename_i hj;simp only [Option.some.injEq] at hv;subst hv;unfold szOf at hn;simp only [Instr.indexAt,asIntOf,ro_bind,ro_pure,Option.bind_some,ro_underlying,hu,hj,if_true,ro_sizeOf,hn,and_self,Option.map_some]
       · cases hv
     · cases hv
   · cases h
 ·
   rename_i t x i
   split at h
   · rename_i hu;simp only [Option.some.injEq] at h;subst h;simp only [R.ev] at hv;obtain ⟨a,ha,hv⟩:=Option.bind_eq_some_iff.1 hv;obtain ⟨b,hb,hv⟩:=Option.bind_eq_some_iff.1 hv;rw [ro_v,he _ _ ha,he _ _ hb];unfold vIXS at hv
     split at hv
     · rename_i s k j
       split at hv
       · rename_i hj;obtain ⟨c,hc,hv⟩:=Option.map_eq_some_iff.1 hv;subst hv;simp only [Instr.index,asIntOf,ro_bind,ro_pure,Option.bind_some,ro_underlying,hu,hj,if_true,hc,Option.map_some]
       · cases hv
     · cases hv
   · cases h
 ·
   rename_i t x f
   split at h
   · rename_i fs hfs
     split at h
     · rename_i fd hfd
       split at h
       · rename_i d n hd hn;simp only [Option.some.injEq] at h;subst h;rw [ro_v];have key:∀ cs,e x = .agg cs→(if aggB d then some (.agg (cs.extract fd.offset (fd.offset+n))) else cs[fd.offset]?)=some v →
             (ro P w (Instr.field t (e x) f)).map Next.value=some (.value v):=by
           intro cs hx hc;simp only [Instr.field,ro_bind,ro_underlying,hfs,Option.bind_some,hfd,hx,asAgg,ro_pure,ro_part hd hn hc,Option.map_some]
         cases hb:aggB d with
         | true=>
           simp only [hb,if_true,R.ev] at hv;obtain ⟨u,hu,hv⟩:=Option.bind_eq_some_iff.1 hv;unfold vFLN at hv
           split at hv
           · rename_i cs;exact key cs (he _ _ hu) (by simpa [hb] using hv)
           · cases hv
         | false=>
           simp only [hb,Bool.false_eq_true,if_false,R.ev] at hv;obtain ⟨u,hu,hv⟩:=Option.bind_eq_some_iff.1 hv;unfold vFL at hv
           split at hv
           · rename_i cs;exact key cs (he _ _ hu) (by simpa [hb] using hv)
           · cases hv
       · cases h
     · cases h
   · cases h
 ·
   rename_i t x lo hi mx
   split at h
   · rename_i el hu
     split at h
     · rename_i n hn
       split at h
       · cases h
       · rename_i hmx;simp only [Option.some.injEq] at h;subst h;simp only [R.ev] at hv;obtain ⟨a,ha,hv⟩:=Option.bind_eq_some_iff.1 hv;obtain ⟨l,hl,hv⟩:=Option.bind_eq_some_iff.1 hv;obtain ⟨hh,hhh,hv⟩:=Option.bind_eq_some_iff.1 hv;obtain ⟨m,hm,hv⟩:=Option.bind_eq_some_iff.1 hv;have hl':=oev_of he lo l hl;have hh':=oev_of he hi hh hhh;have hm':=oev_of he mx m hm;rw [ro_v,he _ _ ha,hl',hh',hm'];unfold vSL at hv
         split at hv
         · rename_i ad len c
           split at hv
           · cases hv
           · rename_i m1 e1
             split at hv
             · cases hv
             · rename_i h1 e2
               split at hv
               · cases hv
               · rename_i l1 e3;simp only [Option.some.injEq] at hv;subst hv;have hss:m.isSome=true→hh.isSome=true:=by
                   subst hm';subst hh';intro hms;cases hi<;>cases mx<;>simp_all
                 unfold szOf at hn;simp only [Instr.sliceAt,Instr.slice,ro_bind,ro_underlying,hu,Option.bind_some,ro_sliceBounds e1 e2 e3 hss,ro_sizeOf,hn,ro_pure,Option.map_some]
         · cases hv
     · cases h
   · rename_i hu
     split at h
     · cases h
     · rename_i hmx;simp only [Option.some.injEq] at h;subst h;simp only [R.ev] at hv;obtain ⟨a,ha,hv⟩:=Option.bind_eq_some_iff.1 hv;obtain ⟨l,hl,hv⟩:=Option.bind_eq_some_iff.1 hv;obtain ⟨hh,hhh,hv⟩:=Option.bind_eq_some_iff.1 hv;have hl':=oev_of he lo l hl;have hh':=oev_of he hi hh hhh;have hmn:mx=none:=by cases mx<;>simp_all
       subst hmn;rw [ro_v,he _ _ ha,hl',hh'];unfold vSLS at hv
       split at hv
       · split at hv
         · cases hv
         · rename_i h1 e2
           split at hv
           · cases hv
           · rename_i l1 e3;simp only [Option.some.injEq] at hv;subst hv;simp only [Instr.sliceAt,Instr.slice,ro_bind,ro_underlying,hu,Option.bind_some,Option.map_none,Option.isSome_none,Bool.false_eq_true,if_false];rw [ro_sliceBounds rfl e2 e3 (by simp)];simp
       · cases hv
   · cases h
 ·
   rename_i t parts
   split at h
   · rename_i fs z hfs hz
     split at h
     · rename_i hall;obtain ⟨ps,hps,h⟩:=Option.map_eq_some_iff.1 h;subst h;simp only [R.ev] at hv;obtain ⟨vs,hvs,hv⟩:=Option.bind_eq_some_iff.1 hv;obtain ⟨out,hout,hv⟩:=Option.map_eq_some_iff.1 hv;subst hv;obtain ⟨l,hl,hl2⟩:=mapM_sizes (P:=P) (w:=w) fs.toList hall;rw [ro_v];have hmm:ro P w (fs.mapM fun f=>do pure (f.offset,← sizeOf f.type):Sem (Array (Nat×Nat)))=some l.toArray:=by
         rw [Array.mapM_eq_mapM_toList];simp only [ro_map,hl,Option.map_some]
       have hf:=fill_of (P:=P) (fs:=fs) (pl:=fun i=>l.toArray[i]?) (fun i f n h1 h2=>by simpa using hl2 i f n (by simpa using h1) h2) he parts.toList ps vs z.cells out hps hvs hout;simp only [Instr.build,ro_bind,ro_zeroValue,hz,Option.bind_some,ro_underlying,hfs,hmm];have e2:(parts.map fun x=>(x.1,e x.2)).toList=parts.toList.map fun p=>(p.1,e p.2):=by simp
       simp only [e2,hf,ro_pure,Option.map_some]
     · cases h
   · cases h
 ·
   simp only [Option.some.injEq] at h;subst h;simp only [R.ev] at hv;obtain ⟨c,hc,hv⟩:=Option.bind_eq_some_iff.1 hv;obtain ⟨a,ha,hv⟩:=Option.bind_eq_some_iff.1 hv;obtain ⟨b,hb,hv⟩:=Option.bind_eq_some_iff.1 hv;unfold vPk at hv
   split at hv
   · simp only [Option.some.injEq] at hv;subst hv;simp only [he _ _ hc,he _ _ ha,he _ _ hb,asBool,ro_bind,ro_pure,Option.bind_some]
   · cases hv
 ·
   simp only [Option.some.injEq] at h;subst h;simp only [R.ev] at hv;obtain ⟨u,hu,hv⟩:=Option.bind_eq_some_iff.1 hv;rw [ro_v,he _ _ hu];unfold vEx at hv
   split at hv
   · simp only [Instr.extract,hv,ro_pure,Option.map_some]
   · cases hv
 ·
   rename_i t x
   split at h
   · cases h
   · rename_i d hd hdu;simp only [Option.some.injEq] at h;subst h;simp only [R.ev] at hv;obtain ⟨u,hu,hv⟩:=Option.map_eq_some_iff.1 hv;subst hv;rw [ro_v,he _ _ hu];simp only [Instr.makeInterface,ro_bind,ro_underlying,hdu,Option.bind_some];cases d<;>first | rfl | (exact absurd rfl (hd _))
   · cases h
 ·
   rename_i fn f c;simp only [Option.some.injEq] at h;subst h;simp only [R.ev] at hv;obtain ⟨fv,hf,hv⟩:=Option.bind_eq_some_iff.1 hv;obtain ⟨cv,hc,hv⟩:=Option.map_eq_some_iff.1 hv;subst hv;rw [ro_v];have h1:=evs_of he _ _ hf;have h2:=evs_of he _ _ hc;simp only [Instr.makeFunc,ro_pure,Option.map_some,← h1,← h2];cases f;cases c;simp
 · cases h
end
end
section
open Go
inductive E where
 | st (n:Nat) (x v:O)
 | bx (t:Nat) (x:O)
 | al (t:Nat) (zero:Value)
 | bs (el len:Nat) (cells:Array Value) (parts:List (Nat×Nat×O))
 | ms (el sz bytes:Nat) (zero:Array Value) (len cap:O)
 | ap (el sz bytes:Nat) (zero:Array Value) (s x:O)
 | cp (sz:Nat) (d s:O)
 | call (f:Nat) (args:List O)
 | raw (o:Oper)
 deriving Inhabited
def sp (cs:Array Value) (o:Nat) (vs:List Value):Array Value:=(cs.toList.take o++vs++cs.toList.drop (o+vs.length)).toArray
def NoQ:Exit→Act→World→Prop:=fun _ _ _=>False
def Agree (ρ:Env) (a:Act):Prop:=∀ x u,(toO x).ev ρ=some u→a.eval x=u
def opWp (P:Program) (o:Oper) (ρ:Env) (w:World) (K:Value→World→Prop):Prop:=
 ∀ a,Agree ρ a→o.wp P a w (fun a' w'=>∃ v,a'=a.put o.dst v∧K v w') NoQ
def Row (w:World) (a:Addr) (cs:Array Value) (T:TypeId):Prop:=a.spot=none∧w.heap[a.block]? = some (.cells cs T (0,0))
def RdCells (w:World) (a:Option Addr) (n:Nat) (vs:List Value):Prop:=vs.length=n∧∀ ad,a=some ad→∀ j v,vs[j]? = some v→w.cell? (ad.add j)=some v
def E.wp (P:Program) (w:World) (ρ:Env) (K:Value→World→Prop):E→Prop
 | .st n x y=>∃ a v cs T,x.ev ρ=some (.pointer (some a))∧y.ev ρ=some v∧v.cells.size=n∧Row w a cs T∧a.off+v.cells.toList.length≤cs.size∧(∀ u∈v.cells.toList,u.oneCell'=true) ∧
     K undef (w.setRow a.block (sp cs a.off v.cells.toList))
 | .bx t x=>∃ v,x.ev ρ=some v∧K (.pointer (some ⟨w.heap.size,0,none⟩)) (w.alloc (.cells v.cells t))
 | .al t z=>K (.pointer (some ⟨w.heap.size,0,none⟩)) (w.alloc (.cells z.cells t))
 | .bs el len cells parts=>∃ ps cs,pev ρ parts=some ps∧fillAt cells ps=some cs∧K (.slice (some ⟨w.heap.size,0,none⟩) len len) (w.alloc (.cells cs el))
 | .ms el sz bytes zero l c=>∃ kl kc ln cn,l.ev ρ=some (.int kl ln)∧c.ev ρ=some (.int kc cn)∧0≤ln∧ln≤cn∧(bytes:Int)*cn≤281474976710656∧cn≤9223372036854775807 ∧
     K (.slice (some ⟨w.heap.size,0,none⟩) ln.toNat cn.toNat) (w.alloc (.cells (madeCells zero (cn.toNat*sz)) el))
 | .ap el sz bytes zero s x=>∃ sa n cap xa m c olds news,s.ev ρ=some (.slice sa n cap)∧x.ev ρ=some (.slice xa m c)∧(sa=none→n=0∧cap=0)∧(xa=none→m=0) ∧
     RdCells w sa (n*sz) olds∧RdCells w xa (m*sz) news∧(∀ u∈news,u.oneCell'=true)∧(n+m:Nat)*bytes≤140737488355328∧n+m≤9223372036854775807 ∧
     (n+m≤cap→sa=none→K (.slice none 0 0) w) ∧
     (n+m≤cap→∀ a,sa=some a→∃ cs T,Row w a cs T∧a.off+n*sz+news.length≤cs.size∧K (.slice sa (n+m) cap) (w.setRow a.block (sp cs (a.off+n*sz) news))) ∧
     (cap < n+m→∀ nc w1,n+m≤nc→w1=w.drew.alloc (.cells (olds.toArray++news.toArray++Builtin.zeroCells zero (nc - (n+m))) el)→K (.slice (some ⟨w.heap.size,0,none⟩) (n+m) nc) w1)
 | .cp sz d s=>∃ da dn dc sa sn sc news,d.ev ρ=some (.slice da dn dc)∧s.ev ρ=some (.slice sa sn sc)∧(sa=none→sn=0)∧RdCells w sa (Nat.min sn dn*sz) news∧(∀ u∈news,u.oneCell'=true) ∧
     (da=none→K (.int .i64 (Nat.min sn dn:Nat)) w) ∧
     (∀ a,da=some a→∃ cs T,Row w a cs T∧a.off+news.length≤cs.size∧K (.int .i64 (Nat.min sn dn:Nat)) (w.setRow a.block (sp cs a.off news)))
 | .call f args=>∃ vs,evs ρ args=some vs∧Calls P f vs.toArray w fun e w'=>∃ v,e = .returned v∧K v w'
 | .raw o=>opWp P o ρ w K
theorem opWp_of_run {P:Program} {o:Oper} {ρ:Env} {w:World} {K:Value→World→Prop} (h:∀ a,Agree ρ a→∃ v w',(execOp a.eval o).run P w = .ok (.value v) w'∧K v w'):opWp P o ρ w K:=by
 intro a ha;obtain ⟨v,w',hr,hk⟩:=h a ha;unfold Oper.wp;rw [hr];exact ⟨v,rfl,hk⟩
theorem opWp_of_skip {P:Program} {o:Oper} {ρ:Env} {w:World} {K:Value→World→Prop} (h:∀ a,Agree ρ a→∃ w',(execOp a.eval o).run P w = .ok .skip w'∧K undef w'):opWp P o ρ w K:=by
 intro a ha;obtain ⟨w',hr,hk⟩:=h a ha;unfold Oper.wp;rw [hr];exact ⟨undef,rfl,hk⟩
theorem opWp_of_ro {P:Program} {o:Oper} {ρ:Env} {w:World} {K:Value→World→Prop} {r:R} {v:Value} (hr:res P o.op=some r) (hv:r.ev w ρ=some v) (hk:K v w):opWp P o ρ w K:=
 opWp_of_run fun a ha=>⟨v,w,ro_run (res_sound hr ha hv),hk⟩
theorem opWp_mono {P:Program} {o:Oper} {ρ:Env} {w:World} {K K':Value→World→Prop} (hk:∀ v w',K v w'→K' v w') (h:opWp P o ρ w K):opWp P o ρ w K':=
 fun a ha=>Oper.wp_mono (fun a' w' ⟨v,e,k⟩=>⟨v,e,hk _ _ k⟩) (h a ha)
def resE (P:Program) (o:Oper):E:=
 match o.op with
 | .store t x v=>match P.underlying t,szOf P t with
   | some _,some n=>.st n (toO x) (toO v)
   | _,_=>.raw o
 | .box t x=>.bx t (toO x)
 | .alloc t=>match (P.info? t).bind (·.zero) with
   | some z=>.al t z
   | none=>.raw o
 | .buildSlice t len parts=>match P.underlying t with
   | some (.slice el)=>match szOf P el,(P.info? el).bind (·.zero) with
     | some n,some z=>if len*n≤2 ^ 24&&0 < len*n then
         .bs el len ((Array.range (len*n)).map (z.cells[· % z.cells.size]!)) (parts.toList.map fun p=>(p.1*n,n,toO p.2)) else .raw o
     | _,_=>.raw o
   | _=>.raw o
 | .makeSlice t l c=>match P.underlying t with
   | some (.slice el)=>match P.info? el with
     | some i=>match i.zero with
       | some z=>.ms el i.size i.bytes z.cells (toO l) (toO c)
       | none=>.raw o
     | none=>.raw o
   | _=>.raw o
 | .call { callee:=.builtin .append,args,argTypes}=>match args.toList,argTypes.toList with
   | [s,x],[t,u]=>match P.underlying t with
     | some (.slice el)=>match P.info? el with
       | some i=>match i.zero with
         | some z=>if t=u&&z.cells.size=i.size&&0 < i.size then .ap el i.size i.bytes z.cells (toO s) (toO x) else .raw o
         | none=>.raw o
       | none=>.raw o
     | _=>.raw o
   | _,_=>.raw o
 | .call { callee:=.builtin .copy,args,argTypes}=>match args.toList,argTypes.toList with
   | [d,s],[t,u]=>match P.underlying t with
     | some (.slice el)=>match szOf P el with
       | some n=>if t=u then .cp n (toO d) (toO s) else .raw o
       | none=>.raw o
     | _=>.raw o
   | _,_=>.raw o
 | .call { callee:=.value (.func f),args,..}=>match P.funcs[f]? with
   | some fn=>if fn.body.isSome && !(fn.name == "runtime.NumGoroutine") then .call f (args.toList.map toO) else .raw o
   | none=>.raw o
 | _=>.raw o
section
variable {P:Program} {w:World}
theorem pev_fill {ρ:Env} {e:Operand→Value} (he:∀ x u,(toO x).ev ρ=some u→e x=u) (n:Nat) (pl:Nat→Option (Nat×Nat)) (hpl:∀ i,pl i=some (i*n,n)) :
   ∀ (parts:List (Nat×Operand)) (vs:List (Nat×Nat×Value)) (cells out:Array Value),pev ρ (parts.map fun p=>(p.1*n,n,toO p.2))=some vs→fillAt cells vs=some out →
     Instr.fill pl cells (parts.map fun p=>(p.1,e p.2))=some out:=by
 intro parts
 induction parts with
 | nil=>
   intro vs cells out h1 h2;simp only [List.map_nil,pev,Option.some.injEq] at h1;subst h1
   simpa [fillAt,Instr.fill] using h2
 | cons p parts ih=>
   intro vs cells out h1 h2;simp only [List.map_cons,pev] at h1
   split at h1
   · rename_i v l hv hl;simp only [Option.some.injEq] at h1;subst h1;simp only [fillAt] at h2
     split at h2
     · cases h2
     · rename_i hc;simp only [List.map_cons,Instr.fill,hpl,he _ v hv];rw [if_neg hc];exact ih l _ out hl h2
   · cases h1
theorem run_rd {size n len cap:Nat} {xa:Option Addr} {cs:List Value} (h:RdCells w xa (n*size) cs) (hx:xa=none→n=0):(Builtin.firstCells size n (.slice xa len cap)).run P w = .ok cs.toArray w:=by
 cases xa with
 | none=>
   have:=hx rfl;subst this;have hl:cs=[]:=List.eq_nil_of_length_eq_zero (by simpa using h.1);subst hl;simp [run_firstCells_none]
 | some ad=>exact run_firstCells_some w size n ad len cap cs h.1 (h.2 ad rfl)
theorem run_append_gen (t ty e:TypeId) (i:TypeInfo) (z:Value) (ht:P.underlying t=some (.slice e)) (hi:P.info? e=some i) (hz:i.zero=some z) (hzs:z.cells.size=i.size)
   {sa:Option Addr} {n cap:Nat} {xa:Option Addr} {m c:Nat} {olds news:List Value}
   (hsa:sa=none→n=0∧cap=0) (hxa:xa=none→m=0) (ho:RdCells w sa (n*i.size) olds) (hn:RdCells w xa (m*i.size) news) (h1:∀ u∈news,u.oneCell'=true)
   (hb:(n+m)*i.bytes≤140737488355328) (h63:n+m≤9223372036854775807) {K:Value→World→Prop}
   (k0:n+m≤cap→sa=none→K (.slice none 0 0) w)
   (k1:n+m≤cap→∀ a,sa=some a→∃ cs T,Row w a cs T∧a.off+n*i.size+news.length≤cs.size∧K (.slice sa (n+m) cap) (w.setRow a.block (sp cs (a.off+n*i.size) news)))
   (k2:cap < n+m→∀ nc w1,n+m≤nc→w1=w.drew.alloc (.cells (olds.toArray++news.toArray++Builtin.zeroCells z.cells (nc - (n+m))) e)→K (.slice (some ⟨w.heap.size,0,none⟩) (n+m) nc) w1) :
   ∃ v' w',(Builtin.append_ #[t,t] ty #[.slice sa n cap,.slice xa m c]).run P w = .ok v' w'∧K v' w':=by
 by_cases hroom:n+m≤cap
 · cases hs:sa with
   | none=>
     obtain ⟨rfl,rfl⟩:=hsa hs;have hm:m=0:=by omega
     subst hm;have hnl:news=[]:=List.eq_nil_of_length_eq_zero (by simpa using hn.1);subst hnl;refine ⟨_,_,?_,k0 hroom hs⟩;have hf:=run_rd (P:=P) (len:=0) (cap:=c) hn (fun _=>rfl);have hf':(Builtin.firstCells i.size 0 (.slice xa 0 c)).run P w = .ok #[] w:=by simpa using hf
     simp [Builtin.append_,run_underlying ht,sizeOf,typeInfo,hi,Builtin.lenOf,hf']
   | some a=>
     obtain ⟨cs,T,⟨hsp,hrow⟩,hfit,hk⟩:=k1 hroom a hs;subst hs;obtain ⟨b,off,spot⟩:=a;simp only at hsp;subst hsp;refine ⟨_,_,?_,hk⟩;have hf:=run_rd (P:=P) (len:=m) (cap:=c) hn hxa;have hst:=run_storeCells_at P b (off+n*i.size) T news 0 cs w hrow (by simpa using hfit) h1;simp only [Nat.add_zero] at hst;simp [Builtin.append_,run_underlying ht,sizeOf,typeInfo,hi,Builtin.lenOf,hroom,hf,Addr.add_lit,hst,sp]
 · have hlt:cap < n+m:=by omega
   refine ⟨_,_,?_,k2 hlt _ _ (grownCap_ge w (n+m) cap e) rfl⟩;have hn':RdCells w.drew xa (m*i.size) news:=⟨hn.1,fun ad h j v hv=>by simpa using hn.2 ad h j v hv⟩;have ho':RdCells w.drew sa (n*i.size) olds:=⟨ho.1,fun ad h j v hv=>by simpa using ho.2 ad h j v hv⟩;have hf:=run_rd (P:=P) (len:=m) (cap:=c) hn' hxa;have hfo:=run_rd (P:=P) (len:=n) (cap:=cap) ho' (fun h=>(hsa h).1);have h48':¬ (281474976710656 < Builtin.nextslicecap (n+m) cap*i.bytes):=by have:=growslice_fits hlt hb;omega
   have h63':¬ (9223372036854775807 < ((n:Int)+(m:Int))):=by omega
   simp [Builtin.append_,run_underlying ht,sizeOf,typeInfo,zeroValue,hi,hz,Builtin.lenOf,hroom,h63',h48',Question.forced,hf,hfo,newRow,grownCap]
   congr 2
   apply Array.ext';simp [List.append_assoc]
theorem resE_sound {o:Oper} {ρ:Env} {K:Value→World→Prop} (h:(resE P o).wp P w ρ K):opWp P o ρ w K:=by
 obtain ⟨dst,op,ty,pos,after,guard⟩:=o;unfold resE at h;simp only at h
 split at h
 ·
   rename_i t x v
   split at h
   · rename_i d n hd hn;obtain ⟨a,u,cs,T,hx,hv,hsz,⟨hsp,hrow⟩,hfit,h1,hk⟩:=h;refine opWp_of_skip fun act ha=>⟨_,?_,hk⟩
     have e1:=ha _ _ hx;have e2:=ha _ _ hv;obtain ⟨b,off,spot⟩:=a;simp only at hsp;subst hsp;obtain ⟨i,hi,hin⟩:=Option.map_eq_some_iff.1 hn;have hst:=run_storeCells_at P b off T u.cells.toList 0 cs w hrow (by simpa using hfit) h1;simp only [Nat.add_zero] at hst;have hsz':¬ (u.cells.size≠i.size):=by rw [hsz,hin];simp
     simp [execOp,e1,e2,Instr.storeAt,Instr.sureAddr,storeVar,sizeOf,typeInfo,hi,hsz',hst,sp]
   · exact h
 ·
   obtain ⟨v,hv,hk⟩:=h;refine opWp_of_run fun act ha=>⟨_,_,?_,hk⟩
   have e2:=ha _ _ hv;simp [execOp,e2,Instr.box,newVar,newRow]
 ·
   rename_i t
   split at h
   · rename_i z hz;refine opWp_of_run fun act ha=>⟨_,_,?_,h⟩
     obtain ⟨i,hi,hz⟩:=Option.bind_eq_some_iff.1 hz;simp [execOp,Instr.alloc,newVar,newRow,zeroValue,typeInfo,hi,hz]
   · exact h
 ·
   rename_i t len parts
   split at h
   · rename_i el hu
     split at h
     · rename_i n z hn hz
       split at h
       · rename_i hc;simp only [Bool.and_eq_true,decide_eq_true_eq] at hc;obtain ⟨ps,cs,hps,hcs,hk⟩:=h;refine opWp_of_run fun act ha=>⟨_,_,?_,hk⟩
         obtain ⟨i,hi,hin⟩:=Option.map_eq_some_iff.1 hn;rw [hi] at hz;have hz':i.zero=some z:=by simpa using hz
         have hf:=pev_fill ha n (fun i=>some (i*n,n)) (fun _=>rfl) parts.toList ps _ cs hps hcs;have h1:¬ (len*n > 2 ^ 24):=by have:=hc.1;omega
         have h2:¬ (len*n=0):=by have:=hc.2;omega
         have hp:(parts.map fun x=>(x.1,act.eval x.2)).toList=parts.toList.map fun p=>(p.1,act.eval p.2):=by simp
         subst hin;have g1:ro P w (underlying t)=some (.slice el):=by rw [ro_underlying,hu]
         have g2:ro P w (sizeOf el)=some i.size:=by rw [ro_sizeOf,hi];rfl
         have g3:ro P w (zeroValue el)=some z:=by rw [ro_zeroValue,hi];exact hz'
         simp only [execOp,Instr.buildSlice,Sem.run_bind,ro_run g1,ro_run g2,ro_run g3,Result.andThen_ok,Sem.run_pure,h1,h2,if_false,hp,hf];simp [newRow]
       · exact h
     · exact h
   · exact h
 ·
   rename_i t l c
   split at h
   · rename_i el hu
     split at h
     · rename_i i hi
       split at h
       · rename_i z hz;obtain ⟨kl,kc,ln,cn,hl,hc,h0,hle,hb,h63,hk⟩:=h;refine opWp_of_run fun act ha=>⟨_,_,?_,hk⟩
         have hm:=run_make (P:=P) w t el i z hu hi hz kl kc ln cn h0 hle hb h63;simp only [execOp,ha _ _ hl,ha _ _ hc,Sem.run_bind,hm,Result.andThen_ok,Sem.run_pure]
       · exact h
     · exact h
   · exact h
 ·
   rename_i args argTypes
   split at h
   · rename_i s x t u hargs htys;have e1:args = #[s,x]:=by cases args;simp_all
     have e2:argTypes = #[t,u]:=by cases argTypes;simp_all
     subst e1 e2
     split at h
     · rename_i el hu
       split at h
       · rename_i i hi
         split at h
         · rename_i z hz
           split at h
           · rename_i hc;simp only [Bool.and_eq_true,decide_eq_true_eq] at hc;obtain ⟨⟨rfl,hzs⟩,hpos⟩:=hc;obtain ⟨sa,n,cap,xa,m,c,olds,news,hs,hx,hsa,hxa,ho,hn,h1,hb,h63,k0,k1,k2⟩:=h;refine opWp_of_run fun act ha=>?_
             obtain ⟨v',w',hr,hk⟩:=run_append_gen (P:=P) (w:=w) t ty el i z hu hi hz hzs (c:=c) hsa hxa ho hn h1 hb h63 (K:=K) k0 k1 k2;refine ⟨v',w',?_,hk⟩;simp only [execOp,resolve,List.map_toArray,List.map_cons,List.map_nil,ha _ _ hs,ha _ _ hx,Sem.run_bind,Sem.run_pure,Result.andThen_ok,invoke,builtin,hr]
           · exact h
         · exact h
       · exact h
     · exact h
   · exact h
 ·
   rename_i args argTypes
   split at h
   · rename_i d s t u hargs htys;have e1:args = #[d,s]:=by cases args;simp_all
     have e2:argTypes = #[t,u]:=by cases argTypes;simp_all
     subst e1 e2
     split at h
     · rename_i el hu
       split at h
       · rename_i n hn
         split at h
         · rename_i htu;subst htu;obtain ⟨da,dn,dc,sa,sn,sc,news,hd,hs,hsa,hr,h1,k0,k1⟩:=h;refine opWp_of_run fun act ha=>?_
           obtain ⟨i,hi,hin⟩:=Option.map_eq_some_iff.1 hn;subst hin;have hf:=run_rd (P:=P) (len:=sn) (cap:=sc) hr (fun h0=>by rw [hsa h0];simp [Nat.min]);cases da with
           | none=>
             refine ⟨_,_,?_,k0 rfl⟩;simp [execOp,resolve,ha _ _ hd,ha _ _ hs,invoke,builtin,Builtin.copy_,run_underlying hu,sizeOf,typeInfo,hi,Builtin.lenOf,hf,goInt]
           | some a=>
             obtain ⟨cs,T,⟨hsp,hrow⟩,hfit,hk⟩:=k1 a rfl;obtain ⟨b,off,spot⟩:=a;simp only at hsp;subst hsp;refine ⟨_,_,?_,hk⟩;have hst:=run_storeCells_at P b off T news 0 cs w hrow (by simpa using hfit) h1;simp only [Nat.add_zero] at hst;simp [execOp,resolve,ha _ _ hd,ha _ _ hs,invoke,builtin,Builtin.copy_,run_underlying hu,sizeOf,typeInfo,hi,Builtin.lenOf,hf,goInt,hst,sp]
         · exact h
       · exact h
     · exact h
   · exact h
 ·
   rename_i f args argTypes
   split at h
   · rename_i fn hfn
     split at h
     · rename_i hc;simp only [Bool.and_eq_true,Bool.not_eq_true'] at hc;obtain ⟨vs,hvs,hcall⟩:=h;intro act ha;have hargs:=evs_of ha args.toList vs hvs;have hbody:fn.body.isNone=false:=by cases hb:fn.body<;>simp_all
       have hmap:args.map act.eval=vs.toArray:=by rw [← hargs];cases args;simp
       have hr:(execOp act.eval ⟨dst,.call { callee:=.value (.func f),args:=args,argTypes:=argTypes},ty,pos,after,guard⟩).run P w = .ok (.enter f vs.toArray) w:=by
         have g1:ro P w program=some P:=rfl;simp only [execOp,resolve,Act.eval,Deferred.ofValue,Sem.run_bind,Sem.run_pure,Result.andThen_ok,invoke,callFunc,ro_run g1,hfn,hmap,Array.empty_append,Array.append_empty];rw [if_neg (by rw [hc.2];simp),if_neg (by rw [hbody];simp)];rfl
       unfold Oper.wp;rw [hr];simp only [Oper.upon];refine hcall.mono ?_;rintro e w' ⟨v,rfl,hk⟩;exact ⟨v,rfl,hk⟩
     · exact h
   · exact h
 · exact h
end
end
section
open Go
variable {dl:List Deferred}
structure Good (dl:List Deferred) (N:Nat) (ρ:Env) (a:Act):Prop where
 size:a.tmps.size=N
 defers:a.defers=dl
 get:∀ t v,ρ.get t=some v→a.tmps[t]? = some v
theorem Good.agree {N:Nat} {ρ:Env} {a:Act} (h:Good dl N ρ a):Agree ρ a:=by
 intro x u hu;cases x with
 | tmp t=>
   have:=h.get t u hu;simp [Act.eval,this]
 | const v=>simpa [toO,O.ev,Act.eval] using hu
 | global g=>simpa [toO,O.ev,Act.eval] using hu
 | func f=>simpa [toO,O.ev,Act.eval] using hu
theorem Good.put {N:Nat} {ρ:Env} {a:Act} (h:Good dl N ρ a) (d:Option Nat) (v:Value) (hd:∀ t,d=some t→t < N):Good dl N (ρ.put d v) (a.put d v):=by
 cases d with
 | none=>exact h
 | some d=>
   refine ⟨by simp [Act.put,h.size],h.defers,fun t u hu=>?_⟩;simp only [Env.put,Env.get] at hu;by_cases hdt:d=t
   · subst hdt;simp only [if_true,Option.some.injEq] at hu;subst hu;have:=hd d rfl;simp [Act.put,h.size,this]
   · rw [if_neg hdt] at hu;simp only [Act.put,Array.getElem?_setIfInBounds_ne hdt];exact h.get t u hu
theorem get_keep (ρ:Env):∀ (ts:List Nat) (t:Nat) (v:Value),(ρ.keep ts).get t=some v→ρ.get t=some v:=by
 intro ts
 induction ts with
 | nil=>intro t v h;simp [Env.keep,Env.get] at h
 | cons s ts ih=>
   intro t v h;simp only [Env.keep] at h
   split at h
   · rename_i u hu;simp only [Env.get] at h
     split at h
     · rename_i hst;subst hst;rw [← h];exact hu
     · exact ih t v h
   · exact ih t v h
theorem Good.keep {N:Nat} {ρ:Env} {a:Act} (h:Good dl N ρ a) (ts:List Nat):Good dl N (ρ.keep ts) a:=
 ⟨h.size,h.defers,fun t v hv=>h.get t v (get_keep ρ ts t v hv)⟩
theorem upon_noQ {P:Program} {o:Oper} {a:Act} {K:Act→World→Prop} {Q:Exit→Act→World→Prop} {r:Result Next} (h:o.upon P a K NoQ r):o.upon P a K Q r:=by
 cases r with
 | ok n w'=>
   cases n<;>simp only [Oper.upon] at h ⊢<;>first
     | exact h
     | exact Calls.mono h (fun e w'' he=>by
         cases e with
         | returned v=>exact he
         | panicked c=>exact False.elim he
         | outgrown=>obtain ⟨_,_,hf⟩:=he;exact False.elim hf)
 | halt x w'=>cases x<;>simp only [Oper.upon] at h ⊢<;>exact False.elim h
theorem wp_noQ {P:Program} {o:Oper} {a:Act} {w:World} {K:Act→World→Prop} {Q:Exit→Act→World→Prop} (h:o.wp P a w K NoQ):o.wp P a w K Q:=upon_noQ h
theorem E.mono {P:Program} {w:World} {ρ:Env} {K K':Value→World→Prop} (hk:∀ v w',K v w'→K' v w') (e:E) (h:e.wp P w ρ K):e.wp P w ρ K':=by
 cases e with
 | st n x y=>obtain ⟨a,v,cs,T,h1,h2,h3,h4,h5,h6,h7⟩:=h;exact ⟨a,v,cs,T,h1,h2,h3,h4,h5,h6,hk _ _ h7⟩
 | bx t x=>obtain ⟨v,h1,h2⟩:=h;exact ⟨v,h1,hk _ _ h2⟩
 | al t z=>exact hk _ _ h
 | bs el len cells parts=>obtain ⟨ps,cs,h1,h2,h3⟩:=h;exact ⟨ps,cs,h1,h2,hk _ _ h3⟩
 | ms el sz bytes zero l c=>obtain ⟨kl,kc,ln,cn,h1,h2,h3,h4,h5,h6,h7⟩:=h;exact ⟨kl,kc,ln,cn,h1,h2,h3,h4,h5,h6,hk _ _ h7⟩
 | ap el sz bytes zero s x=>
   obtain ⟨sa,n,cap,xa,m,c,olds,news,h1,h2,h3,h4,h5,h6,h7,h8,h9,k0,k1,k2⟩:=h;exact ⟨sa,n,cap,xa,m,c,olds,news,h1,h2,h3,h4,h5,h6,h7,h8,h9,fun a b=>hk _ _ (k0 a b),
     fun a b hb=>let ⟨cs,T,r1,r2,r3⟩:=k1 a b hb;⟨cs,T,r1,r2,hk _ _ r3⟩,fun a nc w1 b c=>hk _ _ (k2 a nc w1 b c)⟩
 | cp sz d s=>
   obtain ⟨da,dn,dc,sa,sn,sc,news,h1,h2,h3,h4,h5,k0,k1⟩:=h;exact ⟨da,dn,dc,sa,sn,sc,news,h1,h2,h3,h4,h5,fun a=>hk _ _ (k0 a),fun a b=>let ⟨cs,T,r1,r2,r3⟩:=k1 a b;⟨cs,T,r1,r2,hk _ _ r3⟩⟩
 | call f args=>obtain ⟨vs,h1,h2⟩:=h;exact ⟨vs,h1,h2.mono fun e w' ⟨v,e1,e2⟩=>⟨v,e1,hk _ _ e2⟩⟩
 | raw o=>exact opWp_mono hk h
inductive S where
 | r (d:Option Nat) (r:R)
 | e (d:Option Nat) (e:E)
 | gr (s:Nat) (b:Bool) (d:Option Nat) (r:R)
 | ge (s:Nat) (b:Bool) (d:Option Nat) (e:E)
 deriving Inhabited
def isB:Value→Bool→Bool
 | .bool c,b=>c == b
 | _,_=>false
def wpS (P:Program):List S→Env→World→(Env→World→Prop)→Prop
 | [],ρ,w,K=>K ρ w
 | .r d r::l,ρ,w,K=>∃ v,r.ev w ρ=some v∧wpS P l (ρ.put d v) w K
 | .e d e::l,ρ,w,K=>e.wp P w ρ fun v w'=>wpS P l (ρ.put d v) w' K
 | .gr s b d r::l,ρ,w,K=>∃ c,ρ.get s=some c∧(isB c b=true→∃ v,r.ev w ρ=some v∧wpS P l (ρ.put d v) w K)∧(isB c b=false→wpS P l (ρ.put d undef) w K)
 | .ge s b d e::l,ρ,w,K=>∃ c,ρ.get s=some c∧(isB c b=true→e.wp P w ρ fun v w'=>wpS P l (ρ.put d v) w' K)∧(isB c b=false→wpS P l (ρ.put d undef) w K)
def dstOk (N:Nat):Option Nat→Bool
 | none=>true
 | some d=>decide (d < N)
def resS (P:Program) (N:Nat) (ops:Array Oper) (o:Oper):Option S:=
 if dstOk N o.dst then
   match o.guard with
   | none=>match res P o.op with
     | some r=>some (.r o.dst r)
     | none=>some (.e o.dst (resE P o))
   | some (j,want)=>match (ops[j]?).bind (·.dst) with
     | some s=>match res P o.op with
       | some r=>some (.gr s want o.dst r)
       | none=>some (.ge s want o.dst (resE P o))
     | none=>none
 else none
def resAll (P:Program) (N:Nat) (ops:Array Oper):List Oper→Option (List S)
 | []=>some []
 | o::l=>match resS P N ops o,resAll P N ops l with
   | some s,some t=>some (s::t)
   | _,_=>none
section
variable {P:Program} {N:Nat} {ops:Array Oper} {ρ:Env} {a:Act} {w:World}
theorem dstOk_spec {d:Option Nat} (h:dstOk N d=true):∀ t,d=some t→t < N:=by
 intro t ht;subst ht;simpa [dstOk] using h
theorem wanted_of {o:Oper} {j s:Nat} {want:Bool} {c:Value} (hg:o.guard=some (j,want)) (hs:(ops[j]?).bind (·.dst)=some s) (hG:Good dl N ρ a) (hc:ρ.get s=some c) :
   Region.wanted o (yielded ops a.tmps)=isB c want:=by
 have h1:=hG.get s _ hc;simp only [Region.wanted,hg,yielded,hs,Option.bind_some,h1];cases c<;>first | rfl | (rename_i b;cases b<;>cases want<;>rfl)
def gList (P:Program) (ops:Array Oper) (G:Act→World→Prop):List Oper→Act→World→Prop
 | [],a,w=>G a w
 | o::l,a,w=>if Region.wanted o (yielded ops a.tmps) then o.wp P a w (gList P ops G l) NoQ else gList P ops G l (a.put o.dst undef) w
theorem gList_wp {G:Act→World→Prop} {Q:Exit→Act→World→Prop} (hQ:∀ a w,G a w→Q .normal a w):∀ (l:List Oper) (a:Act) (w:World),gList P ops G l a w→wpList P ops Q l a w
 | [],a,w,h=>hQ a w h
 | o::l,a,w,h=>by
   unfold gList at h;unfold wpList
   split
   · rename_i hw;rw [if_pos hw] at h;exact .inl (wp_noQ (Oper.wp_mono (fun a w hh=>gList_wp hQ l a w hh) h))
   · rename_i hw;rw [if_neg hw] at h;exact gList_wp hQ l _ _ h
theorem resAll_sound {G:Act→World→Prop}:∀ (l:List Oper) (st:List S) (ρ:Env) (a:Act) (w:World) (K:Env→World→Prop),resAll P N ops l=some st→wpS P st ρ w K→Good dl N ρ a →
   (∀ ρ' a' w',Good dl N ρ' a'→K ρ' w'→G a' w')→gList P ops G l a w:=by
 intro l
 induction l with
 | nil=>
   intro st ρ a w K h1 h2 h3 h4;simp only [resAll,Option.some.injEq] at h1;subst h1;exact h4 _ _ _ h3 h2
 | cons o l ih=>
   intro st ρ a w K h1 h2 h3 h4;simp only [resAll] at h1
   split at h1
   · rename_i s t hs ht;simp only [Option.some.injEq] at h1;subst h1;unfold resS at hs
     split at hs
     · rename_i hd;have hd':=dstOk_spec hd
       split at hs
       · rename_i hg;have hw:Region.wanted o (yielded ops a.tmps)=true:=by simp [Region.wanted,hg]
         unfold gList;rw [if_pos hw]
         split at hs
         · rename_i r hr;simp only [Option.some.injEq] at hs;subst hs;obtain ⟨v,hv,hk⟩:=h2;refine Oper.wp_mono ?_ (opWp_of_ro (K:=fun v' w'=>v'=v∧w'=w) hr hv ⟨rfl,rfl⟩ a h3.agree);rintro a' w' ⟨v',rfl,rfl,rfl⟩;exact ih t _ _ _ K ht hk (h3.put _ _ hd') h4
         · simp only [Option.some.injEq] at hs;subst hs;refine Oper.wp_mono ?_ (resE_sound h2 a h3.agree);rintro a' w' ⟨v',rfl,hk⟩;exact ih t _ _ _ K ht hk (h3.put _ _ hd') h4
       · rename_i j want hg
         split at hs
         · rename_i s' hs'
           split at hs
           · rename_i r hr;simp only [Option.some.injEq] at hs;subst hs;obtain ⟨c,hc,hy,hn⟩:=h2;have hw:=wanted_of hg hs' h3 hc;unfold gList;by_cases hcw:isB c want=true
             · rw [if_pos (by rw [hw,hcw])];obtain ⟨v,hv,hk⟩:=hy hcw;refine Oper.wp_mono ?_ (opWp_of_ro (K:=fun v' w'=>v'=v∧w'=w) hr hv ⟨rfl,rfl⟩ a h3.agree);rintro a' w' ⟨v',rfl,rfl,rfl⟩;exact ih t _ _ _ K ht hk (h3.put _ _ hd') h4
             · rw [if_neg (by rw [hw];exact hcw)];exact ih t _ _ _ K ht (hn (by simpa using hcw)) (h3.put _ _ hd') h4
           · simp only [Option.some.injEq] at hs;subst hs;obtain ⟨c,hc,hy,hn⟩:=h2;have hw:=wanted_of hg hs' h3 hc;unfold gList;by_cases hcw:isB c want=true
             · rw [if_pos (by rw [hw,hcw])];refine Oper.wp_mono ?_ (resE_sound (hy hcw) a h3.agree);rintro a' w' ⟨v',rfl,hk⟩;exact ih t _ _ _ K ht hk (h3.put _ _ hd') h4
             · rw [if_neg (by rw [hw];exact hcw)];exact ih t _ _ _ K ht (hn (by simpa using hcw)) (h3.put _ _ hd') h4
         · cases hs
     · cases hs
   · cases h1
def R.isMem:R→Bool
 | .l1 _=>true
 | .ln _ _=>true
 | .lnm _=>true
 | _=>false
def R.blk (ρ:Env):R→Option Nat
 | .l1 x=>match x.ev ρ with | some (.pointer (some a))=>some a.block | _=>none
 | .ln _ x=>match x.ev ρ with | some (.pointer (some a))=>some a.block | _=>none
 | .lnm x=>match x.ev ρ with | some (.map (some r))=>some r | _=>none
 | _=>none
theorem cell?_congr {w w':World} {a:Addr} (h:w'.heap[a.block]? = w.heap[a.block]?):w'.cell? a=w.cell? a:=by simp [World.cell?,h]
theorem add_block (a:Addr) (n:Nat):(a.add n).block=a.block:=by unfold Addr.add;split<;>rfl
theorem cellsFrom_congr {w w':World} {a:Addr} (h:w'.heap[a.block]? = w.heap[a.block]?):∀ (n i:Nat) (acc:Array Value),cellsFrom w' a i n acc=cellsFrom w a i n acc:=by
 intro n
 induction n with
 | zero=>intro i acc;rfl
 | succ n ih=>
   intro i acc;simp only [cellsFrom];have e1:w'.cell? (a.add i)=w.cell? (a.add i):=cell?_congr (by rw [add_block];exact h);rw [e1];cases w.cell? (a.add i) with
   | none=>rfl
   | some v=>exact ih _ _
theorem ev_kept {w w':World} {r:R} {v:Value} (h:r.ev w ρ=some v) (hk:∀ b,r.blk ρ=some b→w'.heap[b]? = w.heap[b]?):r.ev w' ρ=some v:=by
 cases r with
 | l1 x=>
   simp only [R.ev] at h ⊢;obtain ⟨u,hu,hv⟩:=Option.bind_eq_some_iff.1 h;rw [hu,Option.bind_some];unfold vL1 at *;cases u with
   | pointer ad=>
     cases ad with
     | none=>cases hv
     | some ad=>
       simp only at *;rw [cell?_congr (hk ad.block (by simp [R.blk,hu]))];exact hv
   | _=>cases hv
 | ln n x=>
   simp only [R.ev] at h ⊢;obtain ⟨u,hu,hv⟩:=Option.bind_eq_some_iff.1 h;rw [hu,Option.bind_some];unfold vLN at *;cases u with
   | pointer ad=>
     cases ad with
     | none=>cases hv
     | some ad=>
       simp only at *;rw [cellsFrom_congr (hk ad.block (by simp [R.blk,hu]))];exact hv
   | _=>cases hv
 | lnm x=>
   simp only [R.ev] at h ⊢;obtain ⟨u,hu,hv⟩:=Option.bind_eq_some_iff.1 h;rw [hu,Option.bind_some];unfold vLnm at *;cases u with
   | map m=>
     cases m with
     | none=>exact hv
     | some rr=>
       simp only at *;rw [hk rr (by simp [R.blk,hu])];exact hv
   | _=>cases hv
 | _=>exact h
def gOp (P:Program) (ops:Array Oper) (i:Nat) (K:Act→World→Prop) (a:Act) (w:World):Prop:=
 ∃ o,ops[i]? = some o∧if Region.wanted o (yielded ops a.tmps) then o.wp P a w K NoQ else K (a.put o.dst undef) w
def Kept (B:Nat→Prop) (w w':World):Prop:=∀ b,B b→w'.heap[b]? = w.heap[b]?
def wpAnyB (P:Program) (ops:Array Oper) (B:Nat→Nat→Prop) (Q:Act→World→Prop):Nat→Array Bool→Act→World→Prop
 | 0,listed,a,w=>Region.ready .any ops listed=[]∧Q a w
 | f+1,listed,a,w=>(Region.ready .any ops listed=[]→Q a w) ∧
   ∀ i∈Region.ready .any ops listed,gOp P ops i (fun a' w'=>Kept (B i) w w'∧wpAnyB P ops B Q f (listed.setIfInBounds i true) a' w') a w
theorem gOp_mono {i:Nat} {K K':Act→World→Prop} (h:∀ a w,K a w→K' a w) (hg:gOp P ops i K a w):gOp P ops i K' a w:=by
 obtain ⟨o,ho,h1⟩:=hg;refine ⟨o,ho,?_⟩
 split
 · rename_i hw;rw [if_pos hw] at h1;exact Oper.wp_mono h h1
 · rename_i hw;rw [if_neg hw] at h1;exact h _ _ h1
theorem wpAny_of_B {B:Nat→Nat→Prop} {Q:Act→World→Prop} {Q':Exit→Act→World→Prop} (hQ:∀ a w,Q a w→Q' .normal a w) :
   ∀ (f:Nat) (listed:Array Bool) (a:Act) (w:World),wpAnyB P ops B Q f listed a w→wpAny P .any ops Q' f listed a w:=by
 intro f
 induction f with
 | zero=>intro listed a w h;exact ⟨h.1,hQ _ _ h.2⟩
 | succ f ih=>
   intro listed a w h;refine ⟨fun h0=>hQ _ _ (h.1 h0),fun i hi=>?_⟩;obtain ⟨o,ho,hg⟩:=h.2 i hi;unfold wpOp;simp only [ho]
   split
   · rename_i hw;rw [if_pos hw] at hg;exact .inl (wp_noQ (Oper.wp_mono (fun a' w' hh=>ih _ _ _ hh.2) hg))
   · rename_i hw;rw [if_neg hw] at hg;exact ih _ _ _ hg.2
def YieldsC (P:Program) (ops:Array Oper) (bs:Nat→Prop) (c:Nat→Option Obj) (o:Oper) (v:Value) (a:Act):Prop:=
 (Region.wanted o (yielded ops a.tmps)=true∧∀ w:World,(∀ b,bs b→w.heap[b]? = c b)→(execOp a.eval o).run P w = .ok (.value v) w) ∨
 (Region.wanted o (yielded ops a.tmps)=false∧v=undef)
theorem YieldsC.same {bs:Nat→Prop} {c:Nat→Option Obj} {o:Oper} {v:Value} {a a':Act} (h:YieldsC P ops bs c o v a) (he:execOp a'.eval o=execOp a.eval o)
   (hw:Region.wanted o (yielded ops a'.tmps)=Region.wanted o (yielded ops a.tmps)):YieldsC P ops bs c o v a':=by
 unfold YieldsC at *;rw [he,hw];exact h
theorem gOp_put {bs:Nat→Prop} {c:Nat→Option Obj} {j:Nat} {oi oj:Oper} {v:Value} (hj:ops[j]? = some oj) (hap:oi.apart ops oj=true)
   (hsi:∀ cs b,oi.op≠.select cs b) (hsj:∀ cs b,oj.op≠.select cs b) {K:Act→World→Prop} (hy:YieldsC P ops bs c oi v a) (h:gOp P ops j K (a.put oi.dst v) w) :
   gOp P ops j (fun a' w'=>YieldsC P ops bs c oi v a'∧K (a'.put oi.dst v) w') a w:=by
 obtain ⟨h1,h2,h3⟩:=Oper.apart_spec hap;obtain ⟨o,ho,hg⟩:=h;obtain rfl:o=oj:=Option.some.inj (ho.symm.trans hj);refine ⟨o,hj,?_⟩;rw [wanted_put o a oi.dst v h1] at hg;have keep:∀ u,YieldsC P ops bs c oi v (a.put o.dst u):=fun u=>hy.same (execOp_put oi hsi a o.dst u h3) (wanted_put oi a o.dst u h3)
 split
 · rename_i hw;rw [if_pos hw] at hg;unfold Oper.wp at *;rw [execOp_put o hsj a oi.dst v h1] at hg;generalize (execOp a.eval o).run P w=r at *;cases r with
   | ok n w'=>
     cases n<;>simp only [Oper.upon] at hg ⊢
     case value u=>exact ⟨keep u,by rw [← Act.put_comm a v u h2];exact hg⟩
     case skip=>exact ⟨keep _,by rw [← Act.put_comm a v undef h2];exact hg⟩
     case defer d=>
       have hd:YieldsC P ops bs c oi v { a with defers:=d::a.defers}:=hy.same rfl rfl;refine ⟨hd.same (execOp_put oi hsi _ o.dst _ h3) (wanted_put oi _ o.dst _ h3),?_⟩;rw [← Act.put_comm _ v undef h2,← Act.put_defers];exact hg
     case enter f args=>
       refine Calls.mono hg fun e w'' he=>?_
       cases e with
       | returned u=>exact ⟨keep u,by rw [← Act.put_comm a v u h2];exact he⟩
       | panicked c=>exact he
       | outgrown=>obtain ⟨_,_,hf⟩:=he;exact False.elim hf
     case row row args=>exact Rows.mono hg fun u w'' he=>⟨keep u,by rw [← Act.put_comm a v u h2];exact he⟩
   | halt x w'=>cases x<;>simp only [Oper.upon] at hg ⊢<;>exact hg
 · rename_i hw;rw [if_neg hw] at hg;exact ⟨keep _,by rw [← Act.put_comm a v undef h2];exact hg⟩
def Closed (ops:Array Oper) (listed:Array Bool):Prop:=
 ∀ j oj,ops[j]? = some oj→listed.getD j false=true→∀ e∈oj.after,Region.binds .any e=true→listed.getD e.on false=true
def pmOk (ops:Array Oper) (pm:List Nat):Bool:=
 (List.range ops.size).all fun j=>(List.range ops.size).all fun i=>!(pm.getD j 0).testBit i ||
   match ops[j]? with
   | some o=>o.after.any fun e=>Region.binds .any e&&(decide (e.on < j)&&(e.on == i||(pm.getD e.on 0).testBit i))
   | none=>false
theorem pm_listed {pm:List Nat} (hpm:pmOk ops pm=true) {listed:Array Bool} (hc:Closed ops listed) {i:Nat} (hi:i < ops.size) :
   ∀ (j:Nat),j < ops.size→(listed.getD j false=true∨j∈Region.ready .any ops listed)→(pm.getD j 0).testBit i=true→listed.getD i false=true:=by
 intro j
 induction j using Nat.strongRecOn with
 | _ j ih=>
   intro hj hl ht;have h1:=List.all_eq_true.1 (List.all_eq_true.1 hpm j (List.mem_range.2 hj)) i (List.mem_range.2 hi);rw [ht] at h1;simp only [Bool.not_true,Bool.false_or] at h1
   split at h1
   · rename_i o ho;obtain ⟨e,he,hb⟩:=Array.any_eq_true'.1 h1;simp only [Bool.and_eq_true,decide_eq_true_eq,Bool.or_eq_true,beq_iff_eq] at hb;obtain ⟨hb1,hlt,hb2⟩:=hb;have hon:listed.getD e.on false=true:=by
       rcases hl with hl | hl
       · exact hc j o ho hl e he hb1
       · obtain ⟨_,o',ho',hall⟩:=mem_ready.1 hl;obtain rfl:o'=o:=Option.some.inj (ho'.symm.trans ho);exact hall e he hb1
     rcases hb2 with hb2 | hb2
     · rw [← hb2];exact hon
     · exact ih e.on hlt (by omega) (.inl hon) hb2
   · cases h1
theorem closed_set {listed:Array Bool} {i:Nat} (hc:Closed ops listed) (hi:i∈Region.ready .any ops listed):Closed ops (listed.setIfInBounds i true):=by
 obtain ⟨_,oi,hoi,hall⟩:=mem_ready.1 hi;intro j oj hj hl e he hb;by_cases hij:i=j
 · subst hij;obtain rfl:oj=oi:=Option.some.inj (hj.symm.trans hoi);exact getD_set_true (hall e he hb)
 · rw [getD_set_ne false hij] at hl;exact getD_set_true (hc j oj hj hl e he hb)
theorem unlisted_false {listed:Array Bool} {i:Nat} (h:listed.getD i true=false):listed.getD i false=false:=by
 rcases Nat.lt_or_ge i listed.size with h' | h'
 · simp [h'] at h ⊢;exact h
 · simp [Array.getElem?_eq_none h'] at h
theorem wpAnyB_first {pm:List Nat} (hpm:pmOk ops pm=true) {i:Nat} {oi:Oper} {v:Value} (hi:ops[i]? = some oi) (hsel:∀ (j:Nat) (o:Oper) cs b,ops[j]? = some o→o.op≠.select cs b)
   {bs:Nat→Prop} {c:Nat→Option Obj} {B B':Nat→Nat→Prop} {Q:Act→World→Prop} (hB:∀ j b,B j b→B' j b)
   (hbs:∀ j,(pm.getD j 0).testBit i=false→j≠i→∀ b,bs b→B' j b) :
   ∀ (f:Nat) (listed:Array Bool) (a:Act) (w:World),Closed ops listed →
     (∀ j oj,ops[j]? = some oj→j≠i→listed.getD j true=false→(∀ e∈oj.after,Region.binds .any e=true→e.on≠i)→oi.apart ops oj=true) →
     i∈Region.ready .any ops listed→YieldsC P ops bs c oi v a→(∀ b,bs b→w.heap[b]? = c b) →
     wpAnyB P ops B' Q f (listed.setIfInBounds i true) (a.put oi.dst v) w→wpAnyB P ops B Q (f+1) listed a w:=by
 intro f;have here:∀ (f:Nat) (listed:Array Bool) (a:Act) (w:World),YieldsC P ops bs c oi v a→(∀ b,bs b→w.heap[b]? = c b) →
     wpAnyB P ops B Q f (listed.setIfInBounds i true) (a.put oi.dst v) w →
     gOp P ops i (fun a' w'=>Kept (B i) w w'∧wpAnyB P ops B Q f (listed.setIfInBounds i true) a' w') a w:=by
   intro f listed a w hy hw H;refine ⟨oi,hi,?_⟩;rcases hy with ⟨h1,h2⟩ | ⟨h1,rfl⟩
   · rw [if_pos h1];unfold Oper.wp;rw [h2 w hw];exact ⟨fun _ _=>rfl,H⟩
   · rw [if_neg (by simp [h1])];exact ⟨fun _ _=>rfl,H⟩
 have weak:∀ (f:Nat) (listed:Array Bool) (a:Act) (w:World),wpAnyB P ops B' Q f listed a w→wpAnyB P ops B Q f listed a w:=by
   intro f
   induction f with
   | zero=>intro listed a w h;exact h
   | succ f ih=>
     intro listed a w h;exact ⟨h.1,fun j hj=>gOp_mono (fun a' w' hh=>⟨fun b hb=>hh.1 b (hB j b hb),ih _ _ _ hh.2⟩) (h.2 j hj)⟩
 induction f with
 | zero=>
   intro listed a w hcl hfree hr hy hw H;refine ⟨fun h=>(by rw [h] at hr;cases hr),fun j hj=>?_⟩;by_cases hji:j=i
   · subst hji;exact here 0 listed a w hy hw (weak _ _ _ _ H)
   · have:=ready_mono hj hji;rw [H.1] at this;cases this
 | succ f ih=>
   intro listed a w hcl hfree hr hy hw H;refine ⟨fun h=>(by rw [h] at hr;cases hr),fun j hj=>?_⟩;by_cases hji:j=i
   · subst hji;exact here _ listed a w hy hw (weak _ _ _ _ H)
   · have h1:=H.2 j (ready_mono hj hji);obtain ⟨hjun,oj,hoj,hall⟩:=mem_ready.1 hj;have hiun:=(mem_ready.1 hr).1;have hisz:i < ops.size:=(Array.getElem?_eq_some_iff.1 hi).1;have hjsz:j < ops.size:=(Array.getElem?_eq_some_iff.1 hoj).1;have hnot:∀ e∈oj.after,Region.binds .any e=true→e.on≠i:=fun e he hb heq=>by
       have h1:=hall e he hb;rw [heq,unlisted_false hiun] at h1;cases h1
     have hpmj:(pm.getD j 0).testBit i=false:=by
       cases ht:(pm.getD j 0).testBit i with
       | false=>rfl
       | true=>
         have:=pm_listed hpm hcl hisz j hjsz (.inr hj) ht;rw [unlisted_false hiun] at this;cases this
     have h2:=gOp_put hoj (hfree j oj hoj hji hjun hnot) (fun cs b=>hsel i oi cs b hi) (fun cs b=>hsel j oj cs b hoj) hy h1;have hfree':∀ k ok,ops[k]? = some ok→k≠i→(listed.setIfInBounds j true).getD k true=false →
         (∀ e∈ok.after,Region.binds .any e=true→e.on≠i)→oi.apart ops ok=true:=fun k ok hk hki hun hno=>by
       refine hfree k ok hk hki ?_ hno;by_cases hjk:j=k
       · subst hjk;exact hjun
       · rw [getD_set_ne true hjk] at hun;exact hun
     refine gOp_mono (fun a' w' h3=>⟨fun b hb=>h3.2.1 b (hB j b hb),?_⟩) h2;refine ih (listed.setIfInBounds j true) a' w' (closed_set hcl hj) hfree' (ready_mono hr (Ne.symm hji)) h3.1 (fun b hb=>?_) ?_
     · rw [h3.2.1 b (hbs j hpmj hji b hb)];exact hw b hb
     · rw [Array.setIfInBounds_comm _ _ hji];exact h3.2.2
end
end
section
open Go
variable {dl:List Deferred}
inductive D where
 | nil
 | r (i:Nat) (g:Option (Nat×Bool)) (d:Option Nat) (r:R) (t:D)
 | e (i:Nat) (g:Option (Nat×Bool)) (d:Option Nat) (e:E) (fl:List Nat) (t:D)
 | e2 (i:Nat) (d:Option Nat) (e:E) (fl:List Nat) (t:D) (i':Nat) (d':Option Nat) (e':E) (fl':List Nat) (t':D)
 deriving Inhabited
def inL (i:Nat):List Nat→Prop
 | []=>False
 | j::r=>j=i∨inL i r
def keptL (fl:List Nat) (w w':World):List (Nat×Nat)→Prop
 | []=>True
 | (i,b)::r=>(inL i fl→w'.heap[b]? = w.heap[b]?)∧keptL fl w w' r
def addRd (i:Nat) (b:Option Nat) (rd:List (Nat×Nat)):List (Nat×Nat):=
 match b with
 | some b=>(i,b)::rd
 | none=>rd
def wpD (P:Program):D→Env→World→List (Nat×Nat)→(Env→World→Prop)→Prop
 | .nil,ρ,w,rd,K=>K ρ w
 | .r i none d r t,ρ,w,rd,K=>∃ v,r.ev w ρ=some v∧wpD P t (ρ.put d v) w (addRd i (r.blk ρ) rd) K
 | .r i (some (s,b)) d r t,ρ,w,rd,K=>∃ c,ρ.get s=some c∧(isB c b=true→∃ v,r.ev w ρ=some v∧wpD P t (ρ.put d v) w (addRd i (r.blk ρ) rd) K) ∧
     (isB c b=false→wpD P t (ρ.put d undef) w rd K)
 | .e i none d e fl t,ρ,w,rd,K=>e.wp P w ρ fun v w'=>keptL fl w w' rd∧wpD P t (ρ.put d v) w' rd K
 | .e i (some (s,b)) d e fl t,ρ,w,rd,K=>∃ c,ρ.get s=some c∧(isB c b=true→e.wp P w ρ fun v w'=>keptL fl w w' rd∧wpD P t (ρ.put d v) w' rd K) ∧
     (isB c b=false→wpD P t (ρ.put d undef) w rd K)
 | .e2 i d e fl t i' d' e' fl' t',ρ,w,rd,K=>(e.wp P w ρ fun v w'=>keptL fl w w' rd∧wpD P t (ρ.put d v) w' rd K) ∧
     (e'.wp P w ρ fun v w'=>keptL fl' w w' rd∧wpD P t' (ρ.put d' v) w' rd K)
def memI (P:Program) (ops:Array Oper) (i:Nat):Bool:=
 match ops[i]? with
 | some o=>match res P o.op with
   | some r=>r.isMem
   | none=>false
 | none=>false
def flOf (P:Program) (ops:Array Oper) (pm:List Nat) (j:Nat):List Nat:=(List.range ops.size).filter fun i=>memI P ops i && !(pm.getD j 0).testBit i
def isRI (P:Program) (ops:Array Oper) (i:Nat):Bool:=
 match ops[i]? with
 | some o=>(res P o.op).isSome
 | none=>false
def mkE (i:Nat) (fl:List Nat) (t:D):S→Option D
 | .e d e=>some (.e i none d e fl t)
 | .ge s b d e=>some (.e i (some (s,b)) d e fl t)
 | _=>none
def mkR (i:Nat) (t:D):S→Option D
 | .r d r=>some (.r i none d r t)
 | .gr s b d r=>some (.r i (some (s,b)) d r t)
 | _=>none
def mkE2 (i:Nat) (fl:List Nat) (t:D) (j:Nat) (fl':List Nat) (t':D):S→S→Option D
 | .e d e,.e d' e'=>some (.e2 i d e fl t j d' e' fl' t')
 | _,_=>none
def resAt (P:Program) (N:Nat) (ops:Array Oper) (i:Nat):Option S:=(ops[i]?).bind (resS P N ops)
def resD (P:Program) (N:Nat) (ops:Array Oper) (pm:List Nat):Nat→Array Bool→Option D
 | 0,listed=>if (Region.ready .any ops listed).isEmpty then some .nil else none
 | f+1,listed=>
   match (Region.ready .any ops listed).find? (fun i=>isRI P ops i&&Region.free .any ops listed i) with
   | some i=>(resD P N ops pm f (listed.setIfInBounds i true)).bind fun t=>(resAt P N ops i).bind (mkR i t)
   | none=>match Region.ready .any ops listed with
     | []=>some .nil
     | [i]=>(resD P N ops pm f (listed.setIfInBounds i true)).bind fun t=>(resAt P N ops i).bind (mkE i (flOf P ops pm i) t)
     | [i,j]=>(resD P N ops pm f (listed.setIfInBounds i true)).bind fun t=>(resD P N ops pm f (listed.setIfInBounds j true)).bind fun t'=>
         (resAt P N ops i).bind fun s=>(resAt P N ops j).bind fun s'=>mkE2 i (flOf P ops pm i) t j (flOf P ops pm j) t' s s'
     | _=>none
section
variable {P:Program} {N:Nat} {ops:Array Oper}
def Brd (pm:List Nat) (rd:List (Nat×Nat)) (j b:Nat):Prop:=∃ i,(i,b)∈rd∧(pm.getD j 0).testBit i=false
theorem inL_of {i:Nat}:∀ {fl:List Nat},i∈fl→inL i fl:=by
 intro fl
 induction fl with
 | nil=>intro h;cases h
 | cons j r ih=>
   intro h;cases h with
   | head=>exact .inl rfl
   | tail _ h=>exact .inr (ih h)
theorem keptL_spec {fl:List Nat} {w w':World}:∀ {rd:List (Nat×Nat)},keptL fl w w' rd→∀ i b,(i,b)∈rd→i∈fl→w'.heap[b]? = w.heap[b]?:=by
 intro rd
 induction rd with
 | nil=>intro _ i b h;cases h
 | cons p rd ih=>
   intro h i b hm hf;obtain ⟨j,c⟩:=p;simp only [keptL] at h;cases hm with
   | head=>exact h.1 (inL_of hf)
   | tail _ hm=>exact ih h.2 i b hm hf
theorem resS_r {o:Oper} {d:Option Nat} {r:R} (h:resS P N ops o=some (.r d r)):res P o.op=some r∧d=o.dst∧o.guard=none∧(∀ t,d=some t→t < N):=by
 unfold resS at h
 split at h
 · rename_i hd
   split at h
   · rename_i hg
     split at h
     · rename_i r' hr;cases h;exact ⟨hr,rfl,hg,dstOk_spec hd⟩
     · cases h
   · split at h
     · split at h<;>cases h
     · cases h
 · cases h
theorem resS_e {o:Oper} {d:Option Nat} {e:E} (h:resS P N ops o=some (.e d e)):e=resE P o∧d=o.dst∧o.guard=none∧(∀ t,d=some t→t < N):=by
 unfold resS at h
 split at h
 · rename_i hd
   split at h
   · rename_i hg
     split at h
     · cases h
     · cases h;exact ⟨rfl,rfl,hg,dstOk_spec hd⟩
   · split at h
     · split at h<;>cases h
     · cases h
 · cases h
theorem resS_gr {o:Oper} {s:Nat} {b:Bool} {d:Option Nat} {r:R} (h:resS P N ops o=some (.gr s b d r)) :
   res P o.op=some r∧d=o.dst∧(∃ j,o.guard=some (j,b)∧(ops[j]?).bind (·.dst)=some s)∧(∀ t,d=some t→t < N):=by
 unfold resS at h
 split at h
 · rename_i hd
   split at h
   · split at h<;>cases h
   · rename_i j want hg
     split at h
     · rename_i s' hs'
       split at h
       · rename_i r' hr;cases h;exact ⟨hr,rfl,⟨j,hg,hs'⟩,dstOk_spec hd⟩
       · cases h
     · cases h
 · cases h
theorem resS_ge {o:Oper} {s:Nat} {b:Bool} {d:Option Nat} {e:E} (h:resS P N ops o=some (.ge s b d e)) :
   e=resE P o∧d=o.dst∧(∃ j,o.guard=some (j,b)∧(ops[j]?).bind (·.dst)=some s)∧(∀ t,d=some t→t < N):=by
 unfold resS at h
 split at h
 · rename_i hd
   split at h
   · split at h<;>cases h
   · rename_i j want hg
     split at h
     · rename_i s' hs'
       split at h
       · cases h
       · cases h;exact ⟨rfl,rfl,⟨j,hg,hs'⟩,dstOk_spec hd⟩
     · cases h
 · cases h
def GoodK (dl:List Deferred) (N:Nat) (K:Env→World→Prop) (a:Act) (w:World):Prop:=∃ ρ,Good dl N ρ a∧K ρ w
theorem addRd_mem {i:Nat} {b:Option Nat} {rd:List (Nat×Nat)} {p:Nat×Nat} (h:p∈rd):p∈addRd i b rd:=by
 cases b with
 | none=>exact h
 | some b=>exact List.mem_cons_of_mem _ h
theorem blk_mem {r:R} {ρ:Env} {b:Nat} (h:r.blk ρ=some b):r.isMem=true:=by
 cases r<;>first | rfl | (simp [R.blk] at h)
theorem resD_sound {pm:List Nat} (hpm:pmOk ops pm=true) (hsel:Region.noSelect ops=true) {K:Env→World→Prop} :
   ∀ (f:Nat) (listed:Array Bool) (t:D) (ρ:Env) (a:Act) (w:World) (rd:List (Nat×Nat)),resD P N ops pm f listed=some t→wpD P t ρ w rd K→Good dl N ρ a→Closed ops listed →
     (∀ i b,(i,b)∈rd→memI P ops i=true)→wpAnyB P ops (Brd pm rd) (GoodK dl N K) f listed a w:=by
 intro f
 induction f with
 | zero=>
   intro listed t ρ a w rd h hwp hg hc hrd;simp only [resD] at h
   split at h
   · rename_i he;cases h;exact ⟨by simpa using he,ρ,hg,hwp⟩
   · cases h
 | succ f ih=>
   intro listed t ρ a w rd h hwp hg hc hrd;have effect:∀ (i:Nat) (o:Oper) (t':D) (d:Option Nat) (e:E),ops[i]? = some o→e=resE P o→d=o.dst→(∀ t,d=some t→t < N)→i∈Region.ready .any ops listed →
       resD P N ops pm f (listed.setIfInBounds i true)=some t'→Region.wanted o (yielded ops a.tmps)=true →
       (e.wp P w ρ fun v w'=>keptL (flOf P ops pm i) w w' rd∧wpD P t' (ρ.put d v) w' rd K) →
       gOp P ops i (fun a' w'=>Kept (Brd pm rd i) w w'∧wpAnyB P ops (Brd pm rd) (GoodK dl N K) f (listed.setIfInBounds i true) a' w') a w:=by
     intro i o t' d e hi he hd hdN hr ht' hw hE;subst he hd;refine ⟨o,hi,?_⟩;rw [if_pos hw];refine Oper.wp_mono ?_ (resE_sound hE a hg.agree);rintro a' w' ⟨v,rfl,hk,hrest⟩;refine ⟨?_,ih _ t' _ _ _ rd ht' hrest (hg.put _ _ hdN) (closed_set hc hr) hrd⟩;rintro b ⟨i0,hm,hbit⟩;refine keptL_spec hk i0 b hm ?_;have hmem:=hrd i0 b hm;unfold flOf;rw [List.mem_filter,List.mem_range];refine ⟨?_,by rw [hmem,hbit];rfl⟩;unfold memI at hmem;cases ho:ops[i0]? with
     | none=>simp [ho] at hmem
     | some o'=>exact (Array.getElem?_eq_some_iff.1 ho).1
   simp only [resD] at h
   split at h
   · rename_i i hfind;have hmem:=List.mem_of_find?_eq_some hfind;have hprop:=List.find?_some hfind;simp only [Bool.and_eq_true] at hprop;obtain ⟨t',ht',h⟩:=Option.bind_eq_some_iff.1 h;obtain ⟨s,hs0,h⟩:=Option.bind_eq_some_iff.1 h;unfold resAt at hs0;obtain ⟨o,ho,hs⟩:=Option.bind_eq_some_iff.1 hs0;clear hs0;have hfree:=Region.free_spec ho hprop.2;have isz:i < ops.size:=(Array.getElem?_eq_some_iff.1 ho).1;have taken:∀ (v:Value) (d:Option Nat) (r:R),d=o.dst→res P o.op=some r→r.ev w ρ=some v→Region.wanted o (yielded ops a.tmps)=true→(∀ t,d=some t→t < N) →
         wpD P t' (ρ.put d v) w (addRd i (r.blk ρ) rd) K→wpAnyB P ops (Brd pm rd) (GoodK dl N K) (f+1) listed a w:=by
       intro v d r hd hr hv hw hdN hrest;subst hd;have H:=ih _ t' _ _ _ _ ht' hrest (hg.put _ v hdN) (closed_set hc hmem) (by
         intro j b hj;cases hb:r.blk ρ with
         | none=>rw [hb] at hj;exact hrd j b hj
         | some b'=>
           rw [hb] at hj;cases hj with
           | head=>unfold memI;rw [ho];simp only;rw [hr];exact blk_mem hb
           | tail _ hj=>exact hrd j b hj)
       refine wpAnyB_first hpm ho (Region.noSelect_spec hsel) (bs:=fun b=>r.blk ρ=some b) (c:=fun b=>w.heap[b]?) (B':=Brd pm (addRd i (r.blk ρ) rd)) ?_ ?_ f listed a w hc hfree hmem ?_ (fun _ _=>rfl) H
       · rintro j b ⟨i0,hm,hbit⟩;exact ⟨i0,addRd_mem hm,hbit⟩
       · intro j hj hji b hb;refine ⟨i,?_,hj⟩;rw [show r.blk ρ=some b from hb];exact List.mem_cons_self
       · left
         refine ⟨hw,fun w' hw'=>ro_run (res_sound hr hg.agree (ev_kept hv hw'))⟩
     have skipped:∀ (d:Option Nat),d=o.dst→Region.wanted o (yielded ops a.tmps)=false→(∀ t,d=some t→t < N)→wpD P t' (ρ.put d undef) w rd K →
         wpAnyB P ops (Brd pm rd) (GoodK dl N K) (f+1) listed a w:=by
       intro d hd hw hdN hrest;subst hd;have H:=ih _ t' _ _ _ _ ht' hrest (hg.put _ undef hdN) (closed_set hc hmem) hrd;refine wpAnyB_first hpm ho (Region.noSelect_spec hsel) (bs:=fun _=>False) (c:=fun b=>w.heap[b]?) (B':=Brd pm rd) (fun _ _ h=>h) (fun _ _ _ _ h=>h.elim) f listed a w hc hfree hmem ?_ (fun _ h=>h.elim) H
       right
       exact ⟨hw,rfl⟩
     cases s with
     | r d r=>
       simp only [mkR,Option.some.injEq] at h;subst h;obtain ⟨hr,hd,hgd,hdN⟩:=resS_r hs;obtain ⟨v,hv,hrest⟩:=hwp;exact taken v d r hd hr hv (by simp [Region.wanted,hgd]) hdN hrest
     | gr s' b' d r=>
       simp only [mkR,Option.some.injEq] at h;subst h;obtain ⟨hr,hd,⟨j,hgd,hsl⟩,hdN⟩:=resS_gr hs;obtain ⟨c,hcv,hy,hn⟩:=hwp;have hw:=wanted_of hgd hsl hg hcv;by_cases hcb:isB c b'=true
       · obtain ⟨v,hv,hrest⟩:=hy hcb;exact taken v d r hd hr hv (by rw [hw,hcb]) hdN hrest
       · exact skipped d hd (by rw [hw];simpa using hcb) hdN (hn (by simpa using hcb))
     | e d e=>simp [mkR] at h
     | ge s b d e=>simp [mkR] at h
   · split at h
     · rename_i hready;cases h;exact ⟨fun _=>⟨ρ,hg,hwp⟩,fun i hi=>(by rw [hready] at hi;cases hi)⟩
     · rename_i i hready;obtain ⟨t',ht',h⟩:=Option.bind_eq_some_iff.1 h;obtain ⟨s,hs0,h⟩:=Option.bind_eq_some_iff.1 h;unfold resAt at hs0;obtain ⟨o,ho,hs⟩:=Option.bind_eq_some_iff.1 hs0;clear hs0;have hmem:i∈Region.ready .any ops listed:=by rw [hready];exact List.mem_cons_self
       refine ⟨fun h0=>(by rw [hready] at h0;cases h0),fun i' hi'=>?_⟩;have:i'=i:=by rw [hready] at hi';simpa using hi'
       subst this;cases s with
       | e d e=>
         simp only [mkE,Option.some.injEq] at h;subst h;obtain ⟨he,hd,hgd,hdN⟩:=resS_e hs;exact effect i' o t' d e ho he hd hdN hmem ht' (by simp [Region.wanted,hgd]) hwp
       | ge s' b' d e=>
         simp only [mkE,Option.some.injEq] at h;subst h;obtain ⟨he,hd,⟨j,hgd,hsl⟩,hdN⟩:=resS_ge hs;obtain ⟨c,hcv,hy,hn⟩:=hwp;have hw:=wanted_of hgd hsl hg hcv;by_cases hcb:isB c b'=true
         · exact effect i' o t' d e ho he hd hdN hmem ht' (by rw [hw,hcb]) (hy hcb)
         · refine ⟨o,ho,?_⟩;rw [if_neg (by rw [hw];exact hcb)];subst hd;exact ⟨fun _ _=>rfl,ih _ t' _ _ _ rd ht' (hn (by simpa using hcb)) (hg.put _ undef hdN) (closed_set hc hmem) hrd⟩
       | r d r=>simp [mkE] at h
       | gr s b d r=>simp [mkE] at h
     · rename_i i j hready;obtain ⟨t1,ht1,h⟩:=Option.bind_eq_some_iff.1 h;obtain ⟨t2,ht2,h⟩:=Option.bind_eq_some_iff.1 h;obtain ⟨s1,hs1,h⟩:=Option.bind_eq_some_iff.1 h;obtain ⟨s2,hs2,h⟩:=Option.bind_eq_some_iff.1 h;unfold resAt at hs1 hs2;obtain ⟨o1,ho1,hs1'⟩:=Option.bind_eq_some_iff.1 hs1;obtain ⟨o2,ho2,hs2'⟩:=Option.bind_eq_some_iff.1 hs2;clear hs1 hs2;have hmem1:i∈Region.ready .any ops listed:=by rw [hready];exact List.mem_cons_self
       have hmem2:j∈Region.ready .any ops listed:=by rw [hready];exact List.mem_cons_of_mem _ List.mem_cons_self
       cases s1 with
       | e d e=>cases s2 with
         | e d' e'=>
           simp only [mkE2,Option.some.injEq] at h;subst h;obtain ⟨he1,hd1,hgd1,hdN1⟩:=resS_e hs1';obtain ⟨he2,hd2,hgd2,hdN2⟩:=resS_e hs2';refine ⟨fun h0=>(by rw [hready] at h0;cases h0),fun i' hi'=>?_⟩;rw [hready] at hi';have:i'=i∨i'=j:=by simpa using hi'
           rcases this with rfl | rfl
           · exact effect i' o1 t1 d e ho1 he1 hd1 hdN1 hmem1 ht1 (by simp [Region.wanted,hgd1]) hwp.1
           · exact effect i' o2 t2 d' e' ho2 he2 hd2 hdN2 hmem2 ht2 (by simp [Region.wanted,hgd2]) hwp.2
         | r d r=>simp [mkE2] at h
         | gr s b d r=>simp [mkE2] at h
         | ge s b d e=>simp [mkE2] at h
       | r d r=>cases s2<;>simp [mkE2] at h
       | gr s b d r=>cases s2<;>simp [mkE2] at h
       | ge s b d e=>cases s2<;>simp [mkE2] at h
     · cases h
def D.toS:D→Option (List S)
 | .nil=>some []
 | .r _ none dd q t=>t.toS.map (S.r dd q :: ·)
 | .r _ (some (s,b)) dd q t=>t.toS.map (S.gr s b dd q :: ·)
 | .e _ none dd q [] t=>t.toS.map (S.e dd q :: ·)
 | .e _ (some (s,b)) dd q [] t=>t.toS.map (S.ge s b dd q :: ·)
 | _=>none
theorem keptL_nil {w w':World}:∀ rd,keptL [] w w' rd:=by
 intro rd
 induction rd with
 | nil=>trivial
 | cons p rd ih=>exact ⟨fun h=>by simp [inL] at h,ih⟩
theorem toS_sound {K:Env→World→Prop}:∀ (t:D) (st:List S) (ρ:Env) (w:World) (rd:List (Nat×Nat)),t.toS=some st→wpS P st ρ w K→wpD P t ρ w rd K:=by
 intro t
 induction t with
 | nil=>intro st ρ w rd h hw;simp only [D.toS,Option.some.injEq] at h;subst h;exact hw
 | r i g d r t ih=>
   intro st ρ w rd h hw;cases g with
   | none=>
     simp only [D.toS] at h;obtain ⟨st',h1,rfl⟩:=Option.map_eq_some_iff.1 h;obtain ⟨v,hv,hk⟩:=hw;exact ⟨v,hv,ih _ _ _ _ h1 hk⟩
   | some g=>
     obtain ⟨s,b⟩:=g;simp only [D.toS] at h;obtain ⟨st',h1,rfl⟩:=Option.map_eq_some_iff.1 h;obtain ⟨c,hc,hy,hn⟩:=hw;exact ⟨c,hc,fun e=>let ⟨v,hv,hk⟩:=hy e;⟨v,hv,ih _ _ _ _ h1 hk⟩,fun e=>ih _ _ _ _ h1 (hn e)⟩
 | e i g d e fl t ih=>
   intro st ρ w rd h hw;cases fl with
   | cons x xs=>cases g with
     | none=>simp [D.toS] at h
     | some g=>obtain ⟨s,b⟩:=g;simp [D.toS] at h
   | nil=>
     cases g with
     | none=>
       simp only [D.toS] at h;obtain ⟨st',h1,rfl⟩:=Option.map_eq_some_iff.1 h;exact E.mono (fun v w' hk=>⟨keptL_nil rd,ih _ _ _ _ h1 hk⟩) e hw
     | some g=>
       obtain ⟨s,b⟩:=g;simp only [D.toS] at h;obtain ⟨st',h1,rfl⟩:=Option.map_eq_some_iff.1 h;obtain ⟨c,hc,hy,hn⟩:=hw;exact ⟨c,hc,fun e'=>E.mono (fun v w' hk=>⟨keptL_nil rd,ih _ _ _ _ h1 hk⟩) e (hy e'),fun e'=>ih _ _ _ _ h1 (hn e')⟩
 | e2=>intro st ρ w rd h hw;simp [D.toS] at h
theorem region_draw {id:Nat} {pm:List Nat} {Q:Exit→Act→World→Prop} {K:Env→World→Prop} {t:D} {ρ:Env} {a:Act} {w:World} (hm:P.follows .mixedOrders=true) (hpm:pmOk ops pm=true)
   (hsel:Region.noSelect ops=true) (ht:resD P N ops pm ops.size (Array.replicate ops.size false)=some t) (h:wpD P t ρ w.drew [] K) (hg:Good dl N ρ a)
   (hQ:∀ ρ' a' w',Good dl N ρ' a'→K ρ' w'→Q .normal a' w'):(Code.region id ops true).wp P Q a w:=by
 refine wp_region_any hm (wpAny_of_B (B:=Brd pm []) (Q:=GoodK dl N K) (fun a' w' ⟨ρ',h1,h2⟩=>hQ ρ' a' w' h1 h2) _ _ _ _ ?_);refine resD_sound hpm hsel _ _ t ρ a w.drew [] ht h hg ?_ (fun _ _ h=>by cases h);intro j oj _ hl;have:(Array.replicate ops.size false).getD j false=false:=by
   rcases Nat.lt_or_ge j ops.size with h | h
   · simp [h]
   · simp [h]
 rw [this] at hl;cases hl
end
end
section
open Go
variable {dl:List Deferred}
def oT:O→List Nat
 | .t n=>[n]
 | .c _=>[]
def ooT:Option O→List Nat
 | some x=>oT x
 | none=>[]
def lT (l:List O):List Nat:=l.flatMap oT
def pT (l:List (Nat×Nat×O)):List Nat:=l.flatMap fun p=>oT p.2.2
def R.tmps:R→List Nat
 | .mv x=>oT x
 | .nn x=>oT x
 | .fa _ x=>oT x
 | .l1 x=>oT x
 | .ln _ x=>oT x
 | .bi _ x y=>oT x++oT y
 | .eq _ _ x y=>oT x++oT y
 | .no x=>oT x
 | .ng x=>oT x
 | .cv _ x=>oT x
 | .len x=>oT x
 | .lns x=>oT x
 | .lnm x=>oT x
 | .cap x=>oT x
 | .ia _ s i=>oT s++oT i
 | .ixs s i=>oT s++oT i
 | .fl _ x=>oT x
 | .fln _ _ x=>oT x
 | .sl _ x lo hi mx=>oT x++ooT lo++ooT hi++ooT mx
 | .sls x lo hi=>oT x++ooT lo++ooT hi
 | .bd _ ps=>pT ps
 | .pk c a b=>oT c++oT a++oT b
 | .ex _ x=>oT x
 | .mi _ x=>oT x
 | .mm _ x y=>oT x++oT y
 | .eqa _ _ x y=>oT x++oT y
 | .mf _ f c=>lT f++lT c
def E.tmps:E→Option (List Nat)
 | .st _ x v=>some (oT x++oT v)
 | .bx _ x=>some (oT x)
 | .al _ _=>some []
 | .bs _ _ _ ps=>some (pT ps)
 | .ms _ _ _ _ l c=>some (oT l++oT c)
 | .ap _ _ _ _ s x=>some (oT s++oT x)
 | .cp _ d s=>some (oT d++oT s)
 | .call _ args=>some (lT args)
 | .raw _=>none
def look (s:List (Nat×O)) (t:Nat):O:=
 match s with
 | []=>.t t
 | (d,o)::r=>if d=t then o else look r t
def O.sub (s:List (Nat×O)):O→O
 | .t n=>look s n
 | .c v=>.c v
def oSub (s:List (Nat×O)) (x:Option O):Option O:=x.map (O.sub s)
def pSub (s:List (Nat×O)) (l:List (Nat×Nat×O)):List (Nat×Nat×O):=l.map fun p=>(p.1,p.2.1,p.2.2.sub s)
def R.sub (s:List (Nat×O)):R→R
 | .mv x=>.mv (x.sub s)
 | .nn x=>.nn (x.sub s)
 | .fa o x=>.fa o (x.sub s)
 | .l1 x=>.l1 (x.sub s)
 | .ln n x=>.ln n (x.sub s)
 | .bi op x y=>.bi op (x.sub s) (y.sub s)
 | .eq k n x y=>.eq k n (x.sub s) (y.sub s)
 | .no x=>.no (x.sub s)
 | .ng x=>.ng (x.sub s)
 | .cv k x=>.cv k (x.sub s)
 | .len x=>.len (x.sub s)
 | .lns x=>.lns (x.sub s)
 | .lnm x=>.lnm (x.sub s)
 | .cap x=>.cap (x.sub s)
 | .ia sz a i=>.ia sz (a.sub s) (i.sub s)
 | .ixs a i=>.ixs (a.sub s) (i.sub s)
 | .fl o x=>.fl o (x.sub s)
 | .fln o n x=>.fln o n (x.sub s)
 | .sl sz x lo hi mx=>.sl sz (x.sub s) (oSub s lo) (oSub s hi) (oSub s mx)
 | .sls x lo hi=>.sls (x.sub s) (oSub s lo) (oSub s hi)
 | .bd z ps=>.bd z (pSub s ps)
 | .pk c a b=>.pk (c.sub s) (a.sub s) (b.sub s)
 | .ex i x=>.ex i (x.sub s)
 | .mi t x=>.mi t (x.sub s)
 | .mm m x y=>.mm m (x.sub s) (y.sub s)
 | .eqa n f x y=>.eqa n f (x.sub s) (y.sub s)
 | .mf fn f c=>.mf fn (f.map (O.sub s)) (c.map (O.sub s))
def E.sub (s:List (Nat×O)):E→E
 | .st n x v=>.st n (x.sub s) (v.sub s)
 | .bx t x=>.bx t (x.sub s)
 | .al t z=>.al t z
 | .bs el n c ps=>.bs el n c (pSub s ps)
 | .ms el sz b z l c=>.ms el sz b z (l.sub s) (c.sub s)
 | .ap el sz b z a x=>.ap el sz b z (a.sub s) (x.sub s)
 | .cp sz d a=>.cp sz (d.sub s) (a.sub s)
 | .call f args=>.call f (args.map (O.sub s))
 | .raw o=>.raw o
section
variable {ρ ρ':Env} {s:List (Nat×O)}
theorem sub_ev {x:O} (h:∀ t∈oT x,ρ.get t=(look s t).ev ρ'):x.ev ρ=(x.sub s).ev ρ':=by
 cases x with
 | t n=>exact h n (by simp [oT])
 | c v=>rfl
theorem oSub_ev {x:Option O} (h:∀ t∈ooT x,ρ.get t=(look s t).ev ρ'):oev ρ x=oev ρ' (oSub s x):=by
 cases x with
 | none=>rfl
 | some x=>simp only [oSub,Option.map_some,oev,sub_ev (x:=x) h]
theorem lSub_ev:∀ {l:List O},(∀ t∈lT l,ρ.get t=(look s t).ev ρ')→evs ρ l=evs ρ' (l.map (O.sub s))
 | [],_=>rfl
 | x::l,h=>by
   have h1:∀ t∈oT x,ρ.get t=(look s t).ev ρ':=fun t ht=>h t (by simp [lT,ht])
   have h2:∀ t∈lT l,ρ.get t=(look s t).ev ρ':=fun t ht=>h t (by simp only [lT,List.flatMap_cons,List.mem_append];exact .inr ht)
   simp only [evs,List.map_cons,sub_ev h1,lSub_ev h2]
theorem pSub_ev:∀ {l:List (Nat×Nat×O)},(∀ t∈pT l,ρ.get t=(look s t).ev ρ')→pev ρ l=pev ρ' (pSub s l)
 | [],_=>rfl
 | (a,b,x)::l,h=>by
   have h1:∀ t∈oT x,ρ.get t=(look s t).ev ρ':=fun t ht=>h t (by simp [pT,ht])
   have h2:∀ t∈pT l,ρ.get t=(look s t).ev ρ':=fun t ht=>h t (by simp only [pT,List.flatMap_cons,List.mem_append];exact .inr ht)
   have h3:=pSub_ev h2;simp only [pSub] at h3;simp only [pev,pSub,List.map_cons,sub_ev h1,h3]
theorem inl {l m:List Nat} (h:∀ t∈l++m,ρ.get t=(look s t).ev ρ'):∀ t∈l,ρ.get t=(look s t).ev ρ':=fun t ht=>h t (List.mem_append_left _ ht)
theorem inr {l m:List Nat} (h:∀ t∈l++m,ρ.get t=(look s t).ev ρ'):∀ t∈m,ρ.get t=(look s t).ev ρ':=fun t ht=>h t (List.mem_append_right _ ht)
theorem rSub_ev {w:World} (r:R) (h:∀ t∈r.tmps,ρ.get t=(look s t).ev ρ'):r.ev w ρ=(r.sub s).ev w ρ':=by
 cases r with
 | mv x=>simp only [R.ev,R.sub,sub_ev (x:=x) h]
 | nn x=>simp only [R.ev,R.sub,sub_ev (x:=x) h]
 | fa o x=>simp only [R.ev,R.sub,sub_ev (x:=x) h]
 | l1 x=>simp only [R.ev,R.sub,sub_ev (x:=x) h]
 | ln n x=>simp only [R.ev,R.sub,sub_ev (x:=x) h]
 | bi op x y=>simp only [R.ev,R.sub,sub_ev (x:=x) (inl h),sub_ev (x:=y) (inr h)]
 | eq k n x y=>simp only [R.ev,R.sub,sub_ev (x:=x) (inl h),sub_ev (x:=y) (inr h)]
 | no x=>simp only [R.ev,R.sub,sub_ev (x:=x) h]
 | ng x=>simp only [R.ev,R.sub,sub_ev (x:=x) h]
 | cv k x=>simp only [R.ev,R.sub,sub_ev (x:=x) h]
 | len x=>simp only [R.ev,R.sub,sub_ev (x:=x) h]
 | lns x=>simp only [R.ev,R.sub,sub_ev (x:=x) h]
 | lnm x=>simp only [R.ev,R.sub,sub_ev (x:=x) h]
 | cap x=>simp only [R.ev,R.sub,sub_ev (x:=x) h]
 | ia sz a i=>simp only [R.ev,R.sub,sub_ev (x:=a) (inl h),sub_ev (x:=i) (inr h)]
 | ixs a i=>simp only [R.ev,R.sub,sub_ev (x:=a) (inl h),sub_ev (x:=i) (inr h)]
 | fl o x=>simp only [R.ev,R.sub,sub_ev (x:=x) h]
 | fln o n x=>simp only [R.ev,R.sub,sub_ev (x:=x) h]
 | sl sz x lo hi mx=>simp only [R.ev,R.sub,sub_ev (x:=x) (inl (inl (inl h))),oSub_ev (x:=lo) (inr (inl (inl h))),oSub_ev (x:=hi) (inr (inl h)),oSub_ev (x:=mx) (inr h)]
 | sls x lo hi=>simp only [R.ev,R.sub,sub_ev (x:=x) (inl (inl h)),oSub_ev (x:=lo) (inr (inl h)),oSub_ev (x:=hi) (inr h)]
 | bd z ps=>simp only [R.ev,R.sub,pSub_ev (l:=ps) h]
 | pk c a b=>simp only [R.ev,R.sub,sub_ev (x:=c) (inl (inl h)),sub_ev (x:=a) (inr (inl h)),sub_ev (x:=b) (inr h)]
 | ex i x=>simp only [R.ev,R.sub,sub_ev (x:=x) h]
 | mi t x=>simp only [R.ev,R.sub,sub_ev (x:=x) h]
 | mm m x y=>simp only [R.ev,R.sub,sub_ev (x:=x) (inl h),sub_ev (x:=y) (inr h)]
 | eqa n f x y=>simp only [R.ev,R.sub,sub_ev (x:=x) (inl h),sub_ev (x:=y) (inr h)]
 | mf fn f c=>simp only [R.ev,R.sub,lSub_ev (l:=f) (inl h),lSub_ev (l:=c) (inr h)]
theorem eSub_wp {P:Program} {w:World} {K:Value→World→Prop} (e:E) (ts:List Nat) (he:e.tmps=some ts) (h:∀ t∈ts,ρ.get t=(look s t).ev ρ'):e.wp P w ρ K↔(e.sub s).wp P w ρ' K:=by
 cases e with
 | st n x v=>cases he;simp only [E.wp,E.sub,sub_ev (x:=x) (inl h),sub_ev (x:=v) (inr h)]
 | bx t x=>cases he;simp only [E.wp,E.sub,sub_ev (x:=x) h]
 | al t z=>exact Iff.rfl
 | bs el n c ps=>cases he;simp only [E.wp,E.sub,pSub_ev (l:=ps) h]
 | ms el sz b z l c=>cases he;simp only [E.wp,E.sub,sub_ev (x:=l) (inl h),sub_ev (x:=c) (inr h)]
 | ap el sz b z a x=>cases he;simp only [E.wp,E.sub,sub_ev (x:=a) (inl h),sub_ev (x:=x) (inr h)]
 | cp sz d a=>cases he;simp only [E.wp,E.sub,sub_ev (x:=d) (inl h),sub_ev (x:=a) (inr h)]
 | call f args=>cases he;simp only [E.wp,E.sub,lSub_ev (l:=args) h]
 | raw o=>cases he
end
def S.tmps:S→Option (List Nat)
 | .r _ q=>some q.tmps
 | .e _ q=>q.tmps
 | .gr s _ _ q=>some (s::q.tmps)
 | .ge s _ _ q=>q.tmps.map (s :: ·)
def sT (s:S):List Nat:=s.tmps.getD []
def alive (l:List S) (kp:List Nat) (t:Nat):Bool:=kp.contains t||l.any fun s=>(sT s).contains t
def S.dst:S→Option Nat
 | .r d _=>d
 | .e d _=>d
 | .gr _ _ d _=>d
 | .ge _ _ d _=>d
def S.sub (m:List (Nat×O)):S→Option S
 | .r d q=>some (.r d (q.sub m))
 | .e d q=>some (.e d (q.sub m))
 | .gr s b d q=>match look m s with
   | .t s'=>some (.gr s' b d (q.sub m))
   | .c _=>none
 | .ge s b d q=>match look m s with
   | .t s'=>some (.ge s' b d (q.sub m))
   | .c _=>none
def killOk (l:List S) (kp:List Nat) (d:Nat) (m:List (Nat×O)):Bool:=m.all fun p=>match p.2 with
 | .t n=>n != d || !(alive l kp p.1)
 | .c _=>true
def kill (d:Nat) (m:List (Nat×O)):List (Nat×O):=m.filter fun p=>p.1 != d
def killD (l:List S) (kp:List Nat):Option Nat→List (Nat×O)→Option (List (Nat×O))
 | none,m=>some m
 | some d,m=>if killOk l kp d m then some (kill d m) else none
def mvOf:S→Option (Nat×O)
 | .r (some d) (.mv x)=>some (d,x)
 | _=>none
def oLt (N:Nat):O→Bool
 | .t n=>decide (n < N)
 | .c _=>true
def notSelf (d:Nat):O→Bool
 | .t n=>n != d
 | .c _=>true
def cpL (N:Nat) (kp:List Nat):List (Nat×O)→List S→Option (List S)
 | m,[]=>if m.all fun p=>!(kp.contains p.1) then some [] else none
 | m,s::l=>
   if s.tmps.isNone then none else
   match mvOf s with
   | some (d,x)=>
     if !(kp.contains d)&&oLt N x&&notSelf d (x.sub m) then (killD l kp (some d) m).bind fun m'=>cpL N kp ((d,x.sub m)::m') l
     else (s.sub m).bind fun s'=>(killD l kp s.dst m).bind fun m'=>(cpL N kp m' l).map (s' :: ·)
   | none=>(s.sub m).bind fun s'=>(killD l kp s.dst m).bind fun m'=>(cpL N kp m' l).map (s' :: ·)
section
variable {P:Program} {N:Nat} {ops:Array Oper}
theorem look_kill {d:Nat} {m:List (Nat×O)} {t:Nat} (ht:t≠d):look (kill d m) t=look m t:=by
 induction m with
 | nil=>rfl
 | cons p m ih=>
   obtain ⟨e,o⟩:=p;unfold kill at ih ⊢;rw [List.filter_cons];by_cases he:e=d
   · subst he;simp only [bne_self_eq_false,Bool.false_eq_true,if_false];rw [ih];simp only [look,if_neg (fun h:e=t=>ht h.symm)]
   · simp only [bne_iff_ne,ne_eq,he,not_false_eq_true,if_true,look]
     split
     · rfl
     · exact ih
theorem look_kill_self {d:Nat} {m:List (Nat×O)}:look (kill d m) d = .t d:=by
 induction m with
 | nil=>rfl
 | cons p m ih=>
   obtain ⟨e,o⟩:=p;unfold kill at ih ⊢;rw [List.filter_cons];by_cases he:e=d
   · subst he
     simpa using ih
   · simp only [bne_iff_ne,ne_eq,he,not_false_eq_true,if_true,look,if_neg he];exact ih
theorem killOk_look {l:List S} {kp:List Nat} {d:Nat} {m:List (Nat×O)} (h:killOk l kp d m=true) {t:Nat} (ht:alive l kp t=true) (hne:t≠d):look m t≠.t d:=by
 induction m with
 | nil=>simp only [look];intro hh;cases hh;exact hne rfl
 | cons p m ih=>
   obtain ⟨e,o⟩:=p;simp only [killOk,List.all_cons,Bool.and_eq_true] at h;simp only [look]
   split
   · rename_i he;subst he;cases o with
     | c v=>intro hh;cases hh
     | t n=>
       intro hh;cases hh;simp [ht] at h
   · exact ih (by simpa [killOk] using h.2)
def Cp (l:List S) (kp:List Nat) (m:List (Nat×O)) (ρ ρ':Env):Prop:=∀ t,alive l kp t=true→ρ.get t=(look m t).ev ρ'
theorem alive_tail {s:S} {l:List S} {kp:List Nat} {t:Nat} (h:alive l kp t=true):alive (s::l) kp t=true:=by
 simp only [alive,List.any_cons,Bool.or_eq_true] at h ⊢;rcases h with h | h
 · exact .inl h
 · exact .inr (.inr h)
theorem alive_head {s:S} {l:List S} {kp:List Nat} {t:Nat} (h:t∈sT s):alive (s::l) kp t=true:=by
 simp [alive,h]
theorem get_put_ne {ρ:Env} {d t:Nat} {v:Value} (h:t≠d):(ρ.put (some d) v).get t=ρ.get t:=by
 simp only [Env.put,Env.get,if_neg (fun hh:d=t=>h hh.symm)]
theorem get_put_eq {ρ:Env} {d:Nat} {v:Value}:(ρ.put (some d) v).get d=some v:=by simp [Env.put,Env.get]
theorem cp_put {s:S} {l:List S} {kp:List Nat} {m m':List (Nat×O)} {ρ ρ':Env} (h:Cp (s::l) kp m ρ ρ') {d:Option Nat} (hk:killD l kp d m=some m') (v:Value):Cp l kp m' (ρ.put d v) (ρ'.put d v):=by
 intro t ht;cases d with
 | none=>
   simp only [killD,Option.some.injEq] at hk;subst hk;exact h t (alive_tail ht)
 | some d=>
   simp only [killD] at hk
   split at hk
   · rename_i hko;simp only [Option.some.injEq] at hk;subst hk;by_cases htd:t=d
     · subst htd;rw [look_kill_self,get_put_eq];exact get_put_eq.symm
     · rw [get_put_ne htd,look_kill htd,h t (alive_tail ht)];have:=killOk_look hko ht htd;cases hl:look m t with
       | c v=>rfl
       | t n=>
         rw [hl] at this;have hn:n≠d:=fun hh=>this (by rw [hh])
         exact (get_put_ne hn).symm
   · cases hk
def Env.del (ρ:Env) (d:Nat):Env:=ρ.filter fun p=>p.1 != d
theorem get_del {ρ:Env} {d t:Nat}:(ρ.del d).get t=if t=d then none else ρ.get t:=by
 induction ρ with
 | nil=>simp [Env.del,Env.get]
 | cons p ρ ih=>
   obtain ⟨e,v⟩:=p;unfold Env.del at ih ⊢;rw [List.filter_cons];by_cases he:e=d
   · subst he;simp only [bne_self_eq_false,Bool.false_eq_true,if_false];rw [ih];by_cases ht:t=e
     · simp [ht]
     · simp only [if_neg ht,Env.get,if_neg (fun hh:e=t=>ht hh.symm)]
   · simp only [bne_iff_ne,ne_eq,he,not_false_eq_true,if_true,Env.get];by_cases het:e=t
     · subst het;simp [he]
     · simp only [het,if_false];exact ih
theorem good_del {ρ:Env} {a:Act} (h:Good dl N ρ a) {d:Nat} (hd:d < N) (v:Value):Good dl N (ρ.del d) (a.put (some d) v):=by
 have h1:=h.put (some d) v (fun t ht=>by cases ht;exact hd);refine ⟨h1.size,h1.defers,fun t u hu=>?_⟩;rw [get_del] at hu
 split at hu
 · cases hu
 · rename_i hne;exact h1.get t u (by rw [get_put_ne hne];exact hu)
theorem keep_eq {ρ ρ':Env}:∀ {kp:List Nat},(∀ t∈kp,ρ.get t=ρ'.get t)→ρ.keep kp=ρ'.keep kp
 | [],_=>rfl
 | t::kp,h=>by
   have h1:=h t (by simp);have h2:=keep_eq (kp:=kp) (fun t ht=>h t (by simp [ht]));simp only [Env.keep,h1,h2]
theorem look_none {m:List (Nat×O)} {t:Nat} (h:∀ p∈m,p.1≠t):look m t = .t t:=by
 induction m with
 | nil=>rfl
 | cons p m ih=>
   obtain ⟨e,o⟩:=p;simp only [look];rw [if_neg (h (e,o) (by simp)),ih (fun p hp=>h p (by simp [hp]))]
theorem mv_wp {o:Oper} {x:O} (hr:res P o.op=some (.mv x)) {ρ:Env} {a:Act} {w:World} (hg:Good dl N ρ a) (hx:oLt N x=true):∃ v,(∀ u,x.ev ρ=some u→u=v)∧o.wp P a w (fun a' w'=>a'=a.put o.dst v∧w'=w) NoQ:=by
 cases x with
 | c v=>
   refine ⟨v,fun u hu=>(by cases hu;rfl),?_⟩;refine Oper.wp_mono ?_ (opWp_of_ro (K:=fun v' w'=>v'=v∧w'=w) hr (v:=v) rfl ⟨rfl,rfl⟩ a hg.agree);rintro a' w' ⟨v',rfl,rfl,rfl⟩;exact ⟨rfl,rfl⟩
 | t n=>
   have hn:n < a.tmps.size:=by rw [hg.size];simpa [oLt] using hx
   obtain ⟨v,hv⟩:∃ v,a.tmps[n]? = some v:=⟨a.tmps[n],by simp [hn]⟩;have hg2:Good dl N ((n,v)::ρ) a:=⟨hg.size,hg.defers,fun t u hu=>by
     simp only [Env.get] at hu
     split at hu
     · rename_i hh;subst hh;rw [hv];exact hu
     · exact hg.get t u hu⟩
   have hev:(R.mv (O.t n)).ev w ((n,v)::ρ)=some v:=by simp [R.ev,O.ev,Env.get]
   refine ⟨v,fun u hu=>?_,?_⟩
   · have:=hg.get n u hu;rw [hv] at this;exact (Option.some.inj this).symm
   · refine Oper.wp_mono ?_ (opWp_of_ro (K:=fun v' w'=>v'=v∧w'=w) hr (v:=v) hev ⟨rfl,rfl⟩ a hg2.agree);rintro a' w' ⟨v',rfl,rfl,rfl⟩;exact ⟨rfl,rfl⟩
theorem mvOf_eq {s:S} {d:Nat} {x:O} (h:mvOf s=some (d,x)):s = .r (some d) (.mv x):=by
 unfold mvOf at h
 split at h
 · cases h;rfl
 · cases h
theorem cpL_sound {kp:List Nat} {G:Act→World→Prop} {K:Env→World→Prop}:∀ (l:List Oper) (st st':List S) (m:List (Nat×O)) (ρ ρ':Env) (a:Act) (w:World),resAll P N ops l=some st→cpL N kp m st=some st' →
   wpS P st' ρ' w (fun ρ w=>K (ρ.keep kp) w)→Good dl N ρ a→Cp st kp m ρ ρ'→(∀ ρ' a' w',Good dl N ρ' a'→K (ρ'.keep kp) w'→G a' w')→gList P ops G l a w:=by
 intro l
 induction l with
 | nil=>
   intro st st' m ρ ρ' a w h1 hc h2 h3 hC h4;simp only [resAll,Option.some.injEq] at h1;subst h1;simp only [cpL] at hc
   split at hc
   · rename_i hk;simp only [Option.some.injEq] at hc;subst hc;have hkeep:ρ.keep kp=ρ'.keep kp:=keep_eq (fun t ht=>by
       have:=hC t (by simp [alive,ht]);rw [look_none (fun p hp hh=>by
         have:=List.all_eq_true.1 hk p hp;simp [hh,ht] at this)] at this
       exact this)
     refine h4 _ _ _ h3 ?_;rw [hkeep];exact h2
   · cases hc
 | cons o l ih=>
   intro st st' m ρ ρ' a w h1 hc h2 h3 hC h4;simp only [resAll] at h1
   split at h1
   · rename_i s t hs ht;simp only [Option.some.injEq] at h1;subst h1;simp only [cpL] at hc
     split at hc
     · cases hc
     rename_i hsome;obtain ⟨ts,hts⟩:∃ ts,s.tmps=some ts:=by
       cases hh:s.tmps with
       | none=>simp [hh] at hsome
       | some ts=>exact ⟨ts,rfl⟩
     have hread:∀ x∈ts,ρ.get x=(look m x).ev ρ':=fun x hx=>hC x (alive_head (by simp [sT,hts,hx]))
     have plain:((s.sub m).bind fun s'=>(killD t kp s.dst m).bind fun m'=>(cpL N kp m' t).map (s' :: ·))=some st'→gList P ops G (o::l) a w:=by
       intro hc;obtain ⟨s',hs',hc⟩:=Option.bind_eq_some_iff.1 hc;obtain ⟨m',hm',hc⟩:=Option.bind_eq_some_iff.1 hc;obtain ⟨t',ht',hc⟩:=Option.map_eq_some_iff.1 hc;subst hc;unfold resS at hs
       split at hs
       · rename_i hd;have hd':=dstOk_spec hd
         split at hs
         · rename_i hg;have hw:Region.wanted o (yielded ops a.tmps)=true:=by simp [Region.wanted,hg]
           unfold gList;rw [if_pos hw]
           split at hs
           · rename_i r hr;simp only [Option.some.injEq] at hs;subst hs;simp only [S.sub,Option.some.injEq] at hs';subst hs';simp only [S.tmps,Option.some.injEq] at hts;subst hts;obtain ⟨v,hv,hk⟩:=h2;rw [← rSub_ev r hread] at hv;refine Oper.wp_mono ?_ (opWp_of_ro (K:=fun v' w'=>v'=v∧w'=w) hr hv ⟨rfl,rfl⟩ a h3.agree);rintro a' w' ⟨v',rfl,rfl,rfl⟩;exact ih t t' m' _ _ _ _ ht ht' hk (h3.put _ _ hd') (cp_put hC hm' _) h4
           · simp only [Option.some.injEq] at hs;subst hs;simp only [S.sub,Option.some.injEq] at hs';subst hs';simp only [S.tmps] at hts;have h2':=(eSub_wp _ ts hts hread).2 h2;refine Oper.wp_mono ?_ (resE_sound h2' a h3.agree);rintro a' w' ⟨v',rfl,hk⟩;exact ih t t' m' _ _ _ _ ht ht' hk (h3.put _ _ hd') (cp_put hC hm' _) h4
         · rename_i j want hg
           split at hs
           · rename_i sj hsj
             split at hs
             · rename_i r hr;simp only [Option.some.injEq] at hs;subst hs;simp only [S.tmps,Option.some.injEq] at hts;subst hts;simp only [S.sub] at hs'
               split at hs'
               · rename_i s2 hlook;simp only [Option.some.injEq] at hs';subst hs';obtain ⟨c,hc,hy,hn⟩:=h2;have hc':ρ.get sj=some c:=by rw [hread sj (by simp),hlook];exact hc
                 have hw:=wanted_of hg hsj h3 hc';unfold gList;by_cases hcw:isB c want=true
                 · rw [if_pos (by rw [hw,hcw])];obtain ⟨v,hv,hk⟩:=hy hcw;rw [← rSub_ev r (fun x hx=>hread x (by simp [hx]))] at hv;refine Oper.wp_mono ?_ (opWp_of_ro (K:=fun v' w'=>v'=v∧w'=w) hr hv ⟨rfl,rfl⟩ a h3.agree);rintro a' w' ⟨v',rfl,rfl,rfl⟩;exact ih t t' m' _ _ _ _ ht ht' hk (h3.put _ _ hd') (cp_put hC hm' _) h4
                 · rw [if_neg (by rw [hw];exact hcw)];exact ih t t' m' _ _ _ _ ht ht' (hn (by simpa using hcw)) (h3.put _ _ hd') (cp_put hC hm' _) h4
               · cases hs'
             · simp only [Option.some.injEq] at hs;subst hs;simp only [S.tmps,Option.map_eq_some_iff] at hts;obtain ⟨te,hte,hts⟩:=hts;subst hts;simp only [S.sub] at hs'
               split at hs'
               · rename_i s2 hlook;simp only [Option.some.injEq] at hs';subst hs';obtain ⟨c,hc,hy,hn⟩:=h2;have hc':ρ.get sj=some c:=by rw [hread sj (by simp),hlook];exact hc
                 have hw:=wanted_of hg hsj h3 hc';unfold gList;by_cases hcw:isB c want=true
                 · rw [if_pos (by rw [hw,hcw])];have h2':=(eSub_wp _ te hte (fun x hx=>hread x (by simp [hx]))).2 (hy hcw);refine Oper.wp_mono ?_ (resE_sound h2' a h3.agree);rintro a' w' ⟨v',rfl,hk⟩;exact ih t t' m' _ _ _ _ ht ht' hk (h3.put _ _ hd') (cp_put hC hm' _) h4
                 · rw [if_neg (by rw [hw];exact hcw)];exact ih t t' m' _ _ _ _ ht ht' (hn (by simpa using hcw)) (h3.put _ _ hd') (cp_put hC hm' _) h4
               · cases hs'
           · cases hs
       · cases hs
     split at hc
     · rename_i d x hmv;have hsd:=mvOf_eq hmv;subst hsd
       split at hc
       · rename_i hcond;simp only [Bool.and_eq_true,Bool.not_eq_true'] at hcond;obtain ⟨⟨hkp,hlt⟩,hns⟩:=hcond;obtain ⟨m',hm',hc⟩:=Option.bind_eq_some_iff.1 hc;obtain ⟨hr,hdst,hg,hN⟩:=resS_r hs;have hw:Region.wanted o (yielded ops a.tmps)=true:=by simp [Region.wanted,hg]
         unfold gList;rw [if_pos hw];obtain ⟨v,hv,hwp⟩:=mv_wp (w:=w) hr h3 hlt;refine Oper.wp_mono ?_ hwp;rintro a' w' ⟨rfl,rfl⟩;rw [← hdst];simp only [S.tmps,Option.some.injEq] at hts;subst hts;have hev:x.ev ρ=(x.sub m).ev ρ':=sub_ev hread;have hdN:=hN d rfl;have key:∃ ρ2,Good dl N ρ2 (a.put (some d) v)∧ρ2.get d=x.ev ρ∧∀ t,t≠d→ρ2.get t=ρ.get t:=by
           cases hx:x.ev ρ with
           | none=>exact ⟨ρ.del d,good_del h3 hdN v,by rw [get_del,if_pos rfl],fun t ht=>by rw [get_del,if_neg ht]⟩
           | some u=>
             obtain rfl:=hv u hx;exact ⟨ρ.put (some d) u,h3.put _ _ (fun t ht=>by cases ht;exact hdN),get_put_eq,fun t ht=>get_put_ne ht⟩
         obtain ⟨ρ2,g1,g2,g3⟩:=key;refine ih t st' _ ρ2 ρ' _ _ ht hc h2 g1 ?_ h4;intro y hy;simp only [killD] at hm'
         split at hm'
         · rename_i hko;simp only [Option.some.injEq] at hm';subst hm';by_cases hyd:y=d
           · subst hyd;simp only [look,if_pos];rw [g2,hev]
           · simp only [look,if_neg (fun h:d=y=>hyd h.symm)];rw [g3 y hyd,look_kill hyd];exact hC y (alive_tail hy)
         · cases hm'
       · exact plain hc
     · exact plain hc
   · cases h1
end
end
section
open Go
variable {dl:List Deferred}
inductive IR where
 | skip
 | ret
 | exit (id:Nat)
 | seq (a b:IR)
 | cond (c:O) (a b:IR)
 | block (id:Nat) (a:IR)
 | loop (a:IR)
 | reg (dw:Bool) (st:List S) (kp:List Nat)
 | dr (t:D) (kp:List Nat)
 | raw (c:Code)
 deriving Inhabited
abbrev Post:=Exit→Env→World→Prop
def thenQ (next:Env→World→Prop) (Q:Post):Post
 | .normal,ρ,w=>next ρ w
 | e,ρ,w=>Q e ρ w
def blkQ (id:Nat) (Q:Post):Post
 | .exit id',ρ,w=>if id'=id then Q .normal ρ w else Q (.exit id') ρ w
 | e,ρ,w=>Q e ρ w
def liftQ (dl:List Deferred) (N:Nat) (Q:Post):Exit→Act→World→Prop:=fun e a w=>∃ ρ,Good dl N ρ a∧Q e ρ w
def irwp (P:Program) (N:Nat):IR→Post→Env→World→Prop
 | .skip,Q,ρ,w=>Q .normal ρ w
 | .ret,Q,ρ,w=>Q .ret ρ w
 | .exit id,Q,ρ,w=>Q (.exit id) ρ w
 | .seq a b,Q,ρ,w=>irwp P N a (thenQ (irwp P N b Q) Q) ρ w
 | .cond c a b,Q,ρ,w=>∃ t,c.ev ρ=some (.bool t)∧(t=true→irwp P N a Q ρ w)∧(t=false→irwp P N b Q ρ w)
 | .block id a,Q,ρ,w=>irwp P N a (blkQ id Q) ρ w
 | .loop a,Q,ρ,w=>∃ (I:Nat→Env→World→Prop) (n:Nat),I n ρ w∧∀ n ρ w,I n ρ w→irwp P N a (thenQ (fun ρ' w'=>∃ m,m < n∧I m ρ' w') Q) ρ w
 | .reg dw st kp,Q,ρ,w=>wpS P st ρ (if dw then w.drew else w) fun ρ w=>Q .normal (ρ.keep kp) w
 | .dr t kp,Q,ρ,w=>wpD P t ρ w.drew [] fun ρ w=>Q .normal (ρ.keep kp) w
 | .raw c,Q,ρ,w=>∀ dl a,Good dl N ρ a→c.wp P (liftQ dl N Q) a w
def find3 (id:Nat):List (Nat×List Nat×List Nat)→Option (List Nat×List Nat)
 | []=>none
 | (i,x)::r=>if i == id then some x else find3 id r
def decompR (P:Program) (N:Nat) (id:Nat) (ops:Array Oper) (draw:Bool) (kp pm:List Nat):Option IR:=
 if draw then
   if Region.noSelect ops&&pmOk ops pm&&P.follows .mixedOrders then
     match resD P N ops pm ops.size (Array.replicate ops.size false) with
     | some t=>match t.toS with
       | some st=>some (.reg true st kp)
       | none=>some (.dr t kp)
     | none=>some (.raw (.region id ops draw))
   else some (.raw (.region id ops draw))
 else (resAll P N ops ops.toList).map fun st=>.reg false ((cpL N kp [] st).getD st) kp
def decomp (P:Program) (N:Nat) (H:List (Nat×List Nat×List Nat)):Code→Option IR
 | .skip=>some .skip
 | .ret=>some .ret
 | .exit id=>some (.exit id)
 | .seq a b=>(decomp P N H a).bind fun x=>(decomp P N H b).map (.seq x)
 | .cond c a b=>(decomp P N H a).bind fun x=>(decomp P N H b).map (.cond (toO c) x)
 | .block id a=>(decomp P N H a).map (.block id)
 | .loop a=>(decomp P N H a).map .loop
 | .region id ops draw=>(find3 id H).bind fun x=>decompR P N id ops draw x.1 x.2
 | c=>some (.raw c)
section
variable {P:Program} {N:Nat}
theorem least {p:Nat→Prop} (h:∃ n,p n):∃ n,p n∧∀ m,m < n→¬ p m:=by
 obtain ⟨n,hn⟩:=h
 induction n using Nat.strongRecOn with
 | _ n ih=>
   by_cases hm:∃ m,m < n∧p m
   · obtain ⟨m,h1,h2⟩:=hm;exact ih m h1 h2
   · exact ⟨n,hn,fun m h1 h2=>hm ⟨m,h1,h2⟩⟩
open Classical in
theorem wp_loop_idx {c:Code} {Q:Exit→Act→World→Prop} {a:Act} {w:World} (I:Nat→Act→World→Prop) (n:Nat) (h0:I n a w)
   (round:∀ n a w,I n a w→c.wp P (Exit.then (fun a' w'=>∃ m,m < n∧I m a' w') Q) a w):(Code.loop c).wp P Q a w:=by
 refine wp_loop (fun a w=>∃ n,I n a w) (fun a w=>if h:∃ n,I n a w then Classical.choose (least h) else 0) ⟨n,h0⟩ ?_;intro a w h;have hl:=Classical.choose_spec (least h);have hmu:(if h:∃ n,I n a w then Classical.choose (least h) else 0)=Classical.choose (least h):=dif_pos h;refine wp_mono (round _ a w hl.1) ?_;intro e a' w' hq;cases e with
 | normal=>
   obtain ⟨m,hm,hI⟩:=hq;have hex:∃ n,I n a' w':=⟨m,hI⟩;refine ⟨hex,?_⟩;show (if h:∃ n,I n a' w' then Classical.choose (least h) else 0) < (if h:∃ n,I n a w then Classical.choose (least h) else 0);rw [hmu,dif_pos hex];have h2:=Classical.choose_spec (least hex);have:Classical.choose (least hex)≤m:=by
     rcases Nat.lt_or_ge m (Classical.choose (least hex)) with hlt | hge
     · exact absurd hI (h2.2 m hlt)
     · exact hge
   omega
 | _=>exact hq
theorem decomp_sound {H:List (Nat×List Nat×List Nat)}:∀ (c:Code) (ir:IR) (Q:Post) (ρ:Env) (a:Act) (w:World),decomp P N H c=some ir→irwp P N ir Q ρ w→Good dl N ρ a→c.wp P (liftQ dl N Q) a w:=by
 intro c
 induction c with
 | skip=>intro ir Q ρ a w h hw hg;simp only [decomp,Option.some.injEq] at h;subst h;exact wp_skip ⟨ρ,hg,hw⟩
 | ret=>intro ir Q ρ a w h hw hg;simp only [decomp,Option.some.injEq] at h;subst h;exact wp_ret ⟨ρ,hg,hw⟩
 | exit id=>intro ir Q ρ a w h hw hg;simp only [decomp,Option.some.injEq] at h;subst h;exact wp_exit ⟨ρ,hg,hw⟩
 | seq x y ihx ihy=>
   intro ir Q ρ a w h hw hg;simp only [decomp] at h;obtain ⟨a1,h1,h⟩:=Option.bind_eq_some_iff.1 h;obtain ⟨b1,h2,h⟩:=Option.map_eq_some_iff.1 h;subst h;refine wp_seq (wp_mono (ihx a1 _ ρ a w h1 hw hg) ?_);intro e a' w' hq;obtain ⟨ρ',hg',hq⟩:=hq;cases e with
   | normal=>exact ihy b1 Q ρ' a' w' h2 hq hg'
   | _=>exact ⟨ρ',hg',hq⟩
 | cond c x y ihx ihy=>
   intro ir Q ρ a w h hw hg;simp only [decomp] at h;obtain ⟨a1,h1,h⟩:=Option.bind_eq_some_iff.1 h;obtain ⟨b1,h2,h⟩:=Option.map_eq_some_iff.1 h;subst h;obtain ⟨t,hc,ht,hf⟩:=hw;have he:=hg.agree c _ hc;exact wp_cond_split he (fun e=>ihx a1 Q ρ a w h1 (ht e) hg) (fun e=>ihy b1 Q ρ a w h2 (hf e) hg)
 | block id x ih=>
   intro ir Q ρ a w h hw hg;simp only [decomp] at h;obtain ⟨a1,h1,h⟩:=Option.map_eq_some_iff.1 h;subst h;refine wp_block (wp_mono (ih a1 _ ρ a w h1 hw hg) ?_);intro e a' w' hq;obtain ⟨ρ',hg',hq⟩:=hq;cases e with
   | exit id'=>
     simp only [Exit.inBlock,blkQ] at hq ⊢
     split
     · rename_i hh;rw [if_pos hh] at hq;exact ⟨ρ',hg',hq⟩
     · rename_i hh;rw [if_neg hh] at hq;exact ⟨ρ',hg',hq⟩
   | _=>exact ⟨ρ',hg',hq⟩
 | loop x ih=>
   intro ir Q ρ a w h hw hg;simp only [decomp] at h;obtain ⟨a1,h1,h⟩:=Option.map_eq_some_iff.1 h;subst h;obtain ⟨I,n,h0,hr⟩:=hw;refine wp_loop_idx (fun n a w=>∃ ρ,Good dl N ρ a∧I n ρ w) n ⟨ρ,hg,h0⟩ ?_;rintro n a w ⟨ρ,hg,hI⟩;refine wp_mono (ih a1 _ ρ a w h1 (hr n ρ w hI) hg) ?_;intro e a' w' hq;obtain ⟨ρ',hg',hq⟩:=hq;cases e with
   | normal=>obtain ⟨m,hm,hI⟩:=hq;exact ⟨m,hm,ρ',hg',hI⟩
   | _=>exact ⟨ρ',hg',hq⟩
 | region id ops draw=>
   intro ir Q ρ a w h hw hg;simp only [decomp] at h;obtain ⟨x,hx,h0⟩:=Option.bind_eq_some_iff.1 h;clear h;have h:=h0;clear h0;obtain ⟨kp,pm⟩:=x;unfold decompR at h;have fin:∀ ρ' a' w',Good dl N ρ' a'→Q .normal (ρ'.keep kp) w'→liftQ dl N Q .normal a' w':=fun ρ' a' w' hg' hq=>⟨_,hg'.keep kp,hq⟩
   split at h
   · rename_i hd;subst hd
     split at h
     · rename_i hc;simp only [Bool.and_eq_true] at hc;obtain ⟨⟨hs,hpm⟩,hm⟩:=hc
       split at h
       · rename_i t ht
         split at h
         · rename_i st hst;simp only [Option.some.injEq] at h;subst h;refine region_draw (K:=fun ρ w=>Q .normal (ρ.keep kp) w) hm hpm hs ht (toS_sound t st ρ _ [] hst ?_) hg fin;exact hw
         · simp only [Option.some.injEq] at h;subst h;exact region_draw (K:=fun ρ w=>Q .normal (ρ.keep kp) w) hm hpm hs ht hw hg fin
       · simp only [Option.some.injEq] at h;subst h;exact hw dl a hg
     · simp only [Option.some.injEq] at h;subst h;exact hw dl a hg
   · rename_i hd;have:draw=false:=by simpa using hd
     subst this;obtain ⟨st,hst,h⟩:=Option.map_eq_some_iff.1 h;subst h;cases hcp:cpL N kp [] st with
     | none=>
       rw [hcp] at hw;exact wp_region_list (gList_wp (fun _ _ h=>h) _ _ _ (resAll_sound (G:=fun a w=>liftQ dl N Q .normal a w) ops.toList st ρ a w (fun ρ w=>Q .normal (ρ.keep kp) w) hst hw hg fin))
     | some st'=>
       rw [hcp] at hw;exact wp_region_list (gList_wp (fun _ _ h=>h) _ _ _ (cpL_sound (G:=fun a w=>liftQ dl N Q .normal a w) (K:=fun ρ w=>Q .normal ρ w) ops.toList st st' [] ρ ρ a w hst hcp hw hg (fun t _=>rfl) fin))
 | _=>
   intro ir Q ρ a w h hw hg;simp only [decomp,Option.some.injEq] at h;subst h;exact hw dl a hg
inductive RV where
 | t (s:Nat)
 | l (s:Nat)
 | n (s k:Nat)
 deriving Inhabited
def RV.ev (w:World) (ρ:Env):RV→Option Value
 | .t s=>ρ.get s
 | .l s=>(ρ.get s).bind (vL1 w)
 | .n s k=>(ρ.get s).bind (vLN w k)
def rvs (w:World) (ρ:Env):List RV→Option (List Value)
 | []=>some []
 | x::l=>match x.ev w ρ,rvs w ρ l with
   | some v,some vs=>some (v::vs)
   | _,_=>none
def one? : List Value→Value
 | [v]=>v
 | vs=>.tuple vs.toArray
def resRV (P:Program):List ResultVar→Option (List RV)
 | []=>some []
 | .tmp t::l=>(resRV P l).map (RV.t t :: ·)
 | .cell a t::l=>match P.underlying t,szOf P t with
   | some d,some n=>(resRV P l).map ((if aggB d then RV.n a n else RV.l a) :: ·)
   | _,_=>none
theorem resRV_sound {ρ:Env} {a:Act} {w:World} (hg:Good dl N ρ a):∀ (l:List ResultVar) (rs:List RV) (vs:List Value),resRV P l=some rs→rvs w ρ rs=some vs →
   ro P w (l.mapM (fun | .tmp t=>pure (a.tmps.getD t undef) | .cell c t=>do loadVar t (← asAddr (a.tmps.getD c undef)):ResultVar→Sem Value))=some vs:=by
 intro l
 induction l with
 | nil=>
   intro rs vs h1 h2;simp only [resRV,Option.some.injEq] at h1;subst h1;simp only [rvs,Option.some.injEq] at h2;subst h2;simp
 | cons x l ih=>
   intro rs vs h1 h2;have getD_of:∀ s u,ρ.get s=some u→a.tmps.getD s undef=u:=by
     intro s u hu;have:=hg.get s u hu;simp [this]
   cases x with
   | tmp t=>
     simp only [resRV] at h1;obtain ⟨rs',h3,h1⟩:=Option.map_eq_some_iff.1 h1;subst h1;simp only [rvs] at h2
     split at h2
     · rename_i v vs' e1 e2;cases h2;simp only [RV.ev] at e1;simp only [List.mapM_cons,ro_bind,ro_pure,Option.bind_some,ih rs' vs' h3 e2,getD_of t v e1]
     · cases h2
   | cell c t=>
     simp only [resRV] at h1
     split at h1
     · rename_i d n hd hn;obtain ⟨rs',h3,h1⟩:=Option.map_eq_some_iff.1 h1;subst h1;simp only [rvs] at h2
       split at h2
       · rename_i v vs' e1 e2;cases h2;have key:ro P w (do loadVar t (← asAddr (a.tmps.getD c undef)))=some v:=by
           cases hb:aggB d with
           | true=>
             simp only [hb,if_true,RV.ev] at e1;obtain ⟨u,hu,e1⟩:=Option.bind_eq_some_iff.1 e1;rw [getD_of c u hu];unfold vLN at e1
             split at e1
             · rename_i ad;obtain ⟨cs,hcs,e1⟩:=Option.map_eq_some_iff.1 e1;subst e1;unfold szOf at hn;simp only [asAddr,ro_bind,ro_pure,Option.bind_some,loadVar,ro_isAgg,hd,Option.map_some,hb,if_true,ro_sizeOf,hn,ro_loadCells,hcs]
             · cases e1
           | false=>
             simp only [hb,Bool.false_eq_true,if_false,RV.ev] at e1;obtain ⟨u,hu,e1⟩:=Option.bind_eq_some_iff.1 e1;rw [getD_of c u hu];unfold vL1 at e1
             split at e1
             · rename_i ad;simp only [asAddr,ro_bind,ro_pure,Option.bind_some,loadVar,ro_isAgg,hd,Option.map_some,hb,Bool.false_eq_true,if_false,ro_load,e1]
             · cases e1
         simp only [List.mapM_cons,ro_bind,key,ro_pure,Option.bind_some,ih rs' vs' h3 e2]
       · cases h2
     · cases h1
def CallsR (P:Program) (f:FuncId) (args:List Value) (w:World) (R:Value→World→Prop):Prop:=
 Calls P f args.toArray w fun e w'=>∃ v,e = .returned v∧R v w'
theorem CallsR.mono {f:FuncId} {args:List Value} {w:World} {R R':Value→World→Prop} (h:CallsR P f args w R) (hr:∀ v w',R v w'→R' v w'):CallsR P f args w R':=
 Calls.mono h fun e w' ⟨v,he,hv⟩=>⟨v,he,hr _ _ hv⟩
def argEnv:Nat→List Value→Env
 | _,[]=>[]
 | i,v::l=>(i,v)::argEnv (i+1) l
def finQ (rs:List RV) (R:Value→World→Prop):Post
 | .normal,ρ,w=>∃ vs,rvs w ρ rs=some vs∧R (one? vs) w
 | .ret,ρ,w=>∃ vs,rvs w ρ rs=some vs∧R (one? vs) w
 | _,_,_=>False
theorem argEnv_get:∀ (l:List Value) (i t:Nat) (v:Value),(argEnv i l).get t=some v→i≤t∧l[t - i]? = some v:=by
 intro l
 induction l with
 | nil=>intro i t v h;simp [argEnv,Env.get] at h
 | cons x l ih=>
   intro i t v h;simp only [argEnv,Env.get] at h
   split at h
   · rename_i hit;subst hit;exact ⟨Nat.le_refl _,by simpa using h⟩
   · obtain ⟨h1,h2⟩:=ih (i+1) t v h;refine ⟨by omega,?_⟩;rw [show t - i=(t - (i+1))+1 by omega]
     simpa using h2
structure Fits (P:Program) (f:Nat) (nargs:Nat) (H:List (Nat×List Nat×List Nat)) (ir:IR) (rs:List RV) (N:Nat):Prop where
 go:∃ fn c,P.funcs[f]? = some fn∧fn.body=some c∧fn.ntmps=N∧nargs≤N∧decomp P N H c=some ir∧resRV P fn.results.toList=some rs
theorem Fits.calls {f:Nat} {nargs:Nat} {H:List (Nat×List Nat×List Nat)} {ir:IR} {rs:List RV} (h:Fits P f nargs H ir rs N) {args:List Value} (hn:args.length=nargs) {w:World} {R:Value→World→Prop}
   (hw:irwp P N ir (finQ rs R) (argEnv 0 args) w):CallsR P f args w R:=by
 obtain ⟨fn,c,hf,hb,hN,hle,hd,hrs⟩:=h.go;refine calls_of_wp hf hb ?_;have hg:Good [] N (argEnv 0 args) { tmps:=args.toArray++Array.replicate (fn.ntmps - args.toArray.size) undef,defers:=[]}:=by
   refine ⟨?_,rfl,?_⟩
   · simp only [Array.size_append,List.size_toArray,Array.size_replicate];omega
   · intro t v ht;obtain ⟨_,h2⟩:=argEnv_get args 0 t v ht;have hlt:t < args.length:=by
       rcases Nat.lt_or_ge t args.length with h | h
       · exact h
       · simp [List.getElem?_eq_none h] at h2
     simp only [Nat.sub_zero] at h2;rw [Array.getElem?_append_left (by simpa using hlt)]
     simpa using h2
 refine wp_mono (decomp_sound c ir _ _ _ _ hd hw hg) ?_;intro e a' w' hq;obtain ⟨ρ',hg',hq⟩:=hq;have fin:(∃ vs,rvs w' ρ' rs=some vs∧R (one? vs) w')→a'.defers=[]∧∃ v,(results fn a'.tmps).run P w' = .ok v w'∧∃ u,Ending.returned v = .returned u∧R u w':=by
   rintro ⟨vs,h1,h2⟩;refine ⟨hg'.defers,one? vs,ro_run ?_,_,rfl,h2⟩;unfold results;rw [ro_bind,Array.mapM_eq_mapM_toList,ro_map];have:=resRV_sound (P:=P) hg' fn.results.toList rs vs hrs h1;refine Eq.trans (congrArg (fun o:Option (List Value)=>(o.map List.toArray).bind fun vs=>ro P w' (pure (if h:vs.size=1 then vs[0] else .tuple vs):Sem Value)) this) ?_;simp only [Option.map_some,Option.bind_some,ro_pure,List.size_toArray,Option.some.injEq]
   match vs with
   | []=>rfl
   | [v]=>rfl
   | v::u::l=>simp [one?]
 cases e with
 | normal=>exact fin hq
 | ret=>exact fin hq
 | _=>exact hq.elim
end
end
section
open Go
section
variable {P:Program} {N:Nat} {Q:Post} {ρ:Env} {w:World} {K:Env→World→Prop}
@[go_sem] theorem ir_skip:irwp P N .skip Q ρ w=Q .normal ρ w:=_root_.id rfl
@[go_sem] theorem ir_ret:irwp P N .ret Q ρ w=Q .ret ρ w:=_root_.id rfl
@[go_sem] theorem ir_exit (id:Nat):irwp P N (.exit id) Q ρ w=Q (.exit id) ρ w:=_root_.id rfl
@[go_sem] theorem ir_seq (a b:IR):irwp P N (.seq a b) Q ρ w=irwp P N a (thenQ (irwp P N b Q) Q) ρ w:=_root_.id rfl
@[go_sem] theorem ir_block (id:Nat) (a:IR):irwp P N (.block id a) Q ρ w=irwp P N a (blkQ id Q) ρ w:=_root_.id rfl
@[go_sem] theorem ir_reg (st:List S) (kp:List Nat):irwp P N (.reg false st kp) Q ρ w=wpS P st ρ w fun ρ w=>Q .normal (ρ.keep kp) w:=_root_.id rfl
@[go_sem] theorem ir_regd (st:List S) (kp:List Nat):irwp P N (.reg true st kp) Q ρ w=wpS P st ρ w.drew fun ρ w=>Q .normal (ρ.keep kp) w:=_root_.id rfl
@[go_sem] theorem ir_cond_t {c:O} {a b:IR} (h:c.ev ρ=some (.bool true)):irwp P N (.cond c a b) Q ρ w=irwp P N a Q ρ w:=by
 simp [irwp,h]
@[go_sem] theorem ir_cond_f {c:O} {a b:IR} (h:c.ev ρ=some (.bool false)):irwp P N (.cond c a b) Q ρ w=irwp P N b Q ρ w:=by
 simp [irwp,h]
theorem ir_cond {c:O} {a b:IR} {t:Bool} (h:c.ev ρ=some (.bool t)) (ht:t=true→irwp P N a Q ρ w) (hf:t=false→irwp P N b Q ρ w):irwp P N (.cond c a b) Q ρ w:=⟨t,h,ht,hf⟩
theorem ir_loop {b:IR} (I:Nat→Env→World→Prop) (n:Nat) (h0:I n ρ w)
   (hs:∀ n ρ w,I n ρ w→irwp P N b (thenQ (fun ρ' w'=>∃ m,m < n∧I m ρ' w') Q) ρ w):irwp P N (.loop b) Q ρ w:=⟨I,n,h0,hs⟩
@[go_sem] theorem thenQ_n (next:Env→World→Prop):thenQ next Q .normal=next:=_root_.id rfl
@[go_sem] theorem thenQ_r (next:Env→World→Prop):thenQ next Q .ret=Q .ret:=_root_.id rfl
@[go_sem] theorem thenQ_e (next:Env→World→Prop) (id:Nat):thenQ next Q (.exit id)=Q (.exit id):=_root_.id rfl
@[go_sem] theorem blkQ_n (id:Nat):blkQ id Q .normal=Q .normal:=_root_.id rfl
@[go_sem] theorem blkQ_r (id:Nat):blkQ id Q .ret=Q .ret:=_root_.id rfl
@[go_sem] theorem blkQ_e (id:Nat):blkQ id Q (.exit id)=Q .normal:=by funext ρ w;simp [blkQ]
@[go_sem] theorem blkQ_o (id id':Nat) (h:(id'=id)=False):blkQ id Q (.exit id')=Q (.exit id'):=by funext ρ w;simp [blkQ,h]
@[go_sem] theorem finQ_n (rs:List RV) (R:Value→World→Prop):finQ rs R .normal ρ w=∃ vs,rvs w ρ rs=some vs∧R (one? vs) w:=_root_.id rfl
@[go_sem] theorem finQ_r (rs:List RV) (R:Value→World→Prop):finQ rs R .ret ρ w=∃ vs,rvs w ρ rs=some vs∧R (one? vs) w:=_root_.id rfl
@[go_sem] theorem wpS_nil:wpS P [] ρ w K=K ρ w:=_root_.id rfl
@[go_sem] theorem wpS_r (d:Option Nat) (r:R) (l:List S):wpS P (.r d r::l) ρ w K=∃ v,r.ev w ρ=some v∧wpS P l (ρ.put d v) w K:=_root_.id rfl
@[go_sem] theorem wpS_e (d:Option Nat) (e:E) (l:List S):wpS P (.e d e::l) ρ w K=e.wp P w ρ fun v w'=>wpS P l (ρ.put d v) w' K:=_root_.id rfl
@[go_sem] theorem wpS_gr_tt {s:Nat} {d:Option Nat} {r:R} {l:List S} (h:ρ.get s=some (.bool true)):wpS P (.gr s true d r::l) ρ w K=(∃ v,r.ev w ρ=some v∧wpS P l (ρ.put d v) w K):=by
 simp [wpS,h,isB,undef]
@[go_sem] theorem wpS_gr_ff {s:Nat} {d:Option Nat} {r:R} {l:List S} (h:ρ.get s=some (.bool false)):wpS P (.gr s false d r::l) ρ w K=(∃ v,r.ev w ρ=some v∧wpS P l (ρ.put d v) w K):=by
 simp [wpS,h,isB,undef]
@[go_sem] theorem wpS_gr_tf {s:Nat} {d:Option Nat} {r:R} {l:List S} (h:ρ.get s=some (.bool true)):wpS P (.gr s false d r::l) ρ w K=wpS P l (ρ.put d undef) w K:=by
 simp [wpS,h,isB,undef]
@[go_sem] theorem wpS_gr_ft {s:Nat} {d:Option Nat} {r:R} {l:List S} (h:ρ.get s=some (.bool false)):wpS P (.gr s true d r::l) ρ w K=wpS P l (ρ.put d undef) w K:=by
 simp [wpS,h,isB,undef]
@[go_sem] theorem wpS_gr_ut {s:Nat} {d:Option Nat} {r:R} {l:List S} (h:ρ.get s=some undef):wpS P (.gr s true d r::l) ρ w K=wpS P l (ρ.put d undef) w K:=by
 simp [wpS,h,isB,undef]
@[go_sem] theorem wpS_gr_uf {s:Nat} {d:Option Nat} {r:R} {l:List S} (h:ρ.get s=some undef):wpS P (.gr s false d r::l) ρ w K=wpS P l (ρ.put d undef) w K:=by
 simp [wpS,h,isB,undef]
@[go_sem] theorem wpS_ge_tt {s:Nat} {d:Option Nat} {e:E} {l:List S} (h:ρ.get s=some (.bool true)):wpS P (.ge s true d e::l) ρ w K=(e.wp P w ρ fun v w'=>wpS P l (ρ.put d v) w' K):=by
 simp [wpS,h,isB,undef]
@[go_sem] theorem wpS_ge_ff {s:Nat} {d:Option Nat} {e:E} {l:List S} (h:ρ.get s=some (.bool false)):wpS P (.ge s false d e::l) ρ w K=(e.wp P w ρ fun v w'=>wpS P l (ρ.put d v) w' K):=by
 simp [wpS,h,isB,undef]
@[go_sem] theorem wpS_ge_tf {s:Nat} {d:Option Nat} {e:E} {l:List S} (h:ρ.get s=some (.bool true)):wpS P (.ge s false d e::l) ρ w K=wpS P l (ρ.put d undef) w K:=by
 simp [wpS,h,isB,undef]
@[go_sem] theorem wpS_ge_ft {s:Nat} {d:Option Nat} {e:E} {l:List S} (h:ρ.get s=some (.bool false)):wpS P (.ge s true d e::l) ρ w K=wpS P l (ρ.put d undef) w K:=by
 simp [wpS,h,isB,undef]
@[go_sem] theorem wpD_nil {rd:List (Nat×Nat)}:wpD P .nil ρ w rd K=K ρ w:=_root_.id rfl
@[go_sem] theorem wpD_r {rd:List (Nat×Nat)} (i:Nat) (d:Option Nat) (r:R) (t:D):wpD P (.r i none d r t) ρ w rd K=∃ v,r.ev w ρ=some v∧wpD P t (ρ.put d v) w (addRd i (r.blk ρ) rd) K:=_root_.id rfl
@[go_sem] theorem wpD_e {rd:List (Nat×Nat)} (i:Nat) (d:Option Nat) (e:E) (fl:List Nat) (t:D):wpD P (.e i none d e fl t) ρ w rd K=e.wp P w ρ fun v w'=>keptL fl w w' rd∧wpD P t (ρ.put d v) w' rd K:=_root_.id rfl
section
variable {rd:List (Nat×Nat)}
@[go_sem] theorem wpD_g_ff {i s:Nat} {d:Option Nat} {r:R} {t:D} (h:ρ.get s=some (.bool false)):wpD P (.r i (some (s,false)) d r t) ρ w rd K=(∃ v,r.ev w ρ=some v∧wpD P t (ρ.put d v) w (addRd i (r.blk ρ) rd) K):=by
 simp [wpD,h,isB,undef]
@[go_sem] theorem wpD_g_tf {i s:Nat} {d:Option Nat} {r:R} {t:D} (h:ρ.get s=some (.bool true)):wpD P (.r i (some (s,false)) d r t) ρ w rd K=wpD P t (ρ.put d undef) w rd K:=by
 simp [wpD,h,isB,undef]
end
@[go_sem] theorem ir_dr (t:D) (kp:List Nat):irwp P N (.dr t kp) Q ρ w=wpD P t ρ w.drew [] fun ρ w=>Q .normal (ρ.keep kp) w:=_root_.id rfl
theorem wpS_cut (Mid:Env→World→Prop) {l:List S} (h:wpS P l ρ w Mid) (hk:∀ ρ w,Mid ρ w→K ρ w):wpS P l ρ w K:=by
 induction l generalizing ρ w with
 | nil=>exact hk _ _ h
 | cons s l ih=>
   cases s with
   | r d r=>obtain ⟨v,h1,h2⟩:=h;exact ⟨v,h1,ih h2⟩
   | e d e=>exact E.mono (fun v w' h=>ih h) e h
   | gr s b d r=>obtain ⟨c,h1,h2,h3⟩:=h;exact ⟨c,h1,fun hh=>let ⟨v,h4,h5⟩:=h2 hh;⟨v,h4,ih h5⟩,fun hh=>ih (h3 hh)⟩
   | ge s b d e=>obtain ⟨c,h1,h2,h3⟩:=h;exact ⟨c,h1,fun hh=>E.mono (fun v w' h=>ih h) e (h2 hh),fun hh=>ih (h3 hh)⟩
@[go_sem] theorem get_cons (s t:Nat) (v:Value):Env.get ((s,v)::ρ) t=if s=t then some v else ρ.get t:=_root_.id rfl
def keepC (t:Nat) (v:Option Value) (r:Env):Env:=
 match v with
 | some v=>(t,v)::r
 | none=>r
@[go_sem] theorem keepC_s (t:Nat) (v:Value) (r:Env):keepC t (some v) r=(t,v)::r:=_root_.id rfl
@[go_sem] theorem keepC_n (t:Nat) (r:Env):keepC t none r=r:=_root_.id rfl
@[go_sem] theorem keep_nil:ρ.keep []=[]:=_root_.id rfl
@[go_sem] theorem keep_cons (t:Nat) (ts:List Nat):ρ.keep (t::ts)=keepC t (ρ.get t) (ρ.keep ts):=by
 simp only [Env.keep];cases ρ.get t<;>rfl
@[go_sem] theorem put_some (d:Nat) (v:Value):ρ.put (some d) v=(d,v)::ρ:=_root_.id rfl
@[go_sem] theorem put_none (v:Value):ρ.put none v=ρ:=_root_.id rfl
@[go_sem] theorem O_t (n:Nat):(O.t n).ev ρ=ρ.get n:=_root_.id rfl
@[go_sem] theorem O_c (v:Value):(O.c v).ev ρ=some v:=_root_.id rfl
@[go_sem] theorem evs_nil:evs ρ []=some []:=_root_.id rfl
@[go_sem] theorem evs_cons (x:O) (l:List O):evs ρ (x::l)=(x.ev ρ).bind fun v=>(evs ρ l).map fun vs=>v::vs:=by
 simp only [evs];cases x.ev ρ<;>cases evs ρ l<;>rfl
@[go_sem] theorem pev_nil:pev ρ []=some []:=_root_.id rfl
@[go_sem] theorem pev_cons (o n:Nat) (x:O) (l:List (Nat×Nat×O)):pev ρ ((o,n,x)::l)=(x.ev ρ).bind fun v=>(pev ρ l).map fun vs=>(o,n,v)::vs:=by
 simp only [pev];cases x.ev ρ<;>cases pev ρ l<;>rfl
@[go_sem] theorem oev_n:oev ρ none=some none:=_root_.id rfl
@[go_sem] theorem oev_s (x:O):oev ρ (some x)=(x.ev ρ).map some:=by
 simp only [oev];cases x.ev ρ<;>rfl
@[go_sem] theorem rvs_nil:rvs w ρ []=some []:=_root_.id rfl
@[go_sem] theorem rvs_cons (x:RV) (l:List RV):rvs w ρ (x::l)=(x.ev w ρ).bind fun v=>(rvs w ρ l).map fun vs=>v::vs:=by
 simp only [rvs];cases x.ev w ρ<;>cases rvs w ρ l<;>rfl
end
@[go_sem] theorem one_1 (v:Value):one? [v]=v:=_root_.id rfl
@[go_sem] theorem one_2 (v u:Value) (l:List Value):one? (v::u::l) = .tuple (v::u::l).toArray:=_root_.id rfl
@[go_sem] theorem RV_t (w:World) (ρ:Env) (s:Nat):(RV.t s).ev w ρ=ρ.get s:=_root_.id rfl
@[go_sem] theorem RV_n (w:World) (ρ:Env) (s k:Nat):(RV.n s k).ev w ρ=(ρ.get s).bind (vLN w k):=_root_.id rfl
attribute [go_sem] argEnv R.ev vNN vFA vL1 vInt vShift vStr vBi vEq vNo vNg vCv vLen vLns vLnm vCap vIA vIXS vFL vFLN bnd vSL vSLS vPk vEx vMM vEqa eqCells scEq
attribute [go_sem] R.blk addRd keptL inL
@[go_sem] theorem fillAt_nil (cs:Array Value):fillAt cs []=some cs:=_root_.id rfl
def One (v:Value):Prop:=v.cells = #[v]
@[go_sem] theorem fillAt_1 {l:List Value} {off:Nat} {v:Value} {rest:List (Nat×Nat×Value)} (hv0:One v) (h:off < l.length) :
   fillAt l.toArray ((off,1,v)::rest)=fillAt (l.set off v).toArray rest:=by
 have hv:v.cells = #[v]:=hv0;simp only [fillAt,hv];rw [if_neg (by simp;omega)];simp
@[go_sem] theorem fillAt_n {l vs:List Value} {off n:Nat} {rest:List (Nat×Nat×Value)} (hv:vs.length=n) (h:off+n≤l.length) :
   fillAt l.toArray ((off,n,.agg vs.toArray)::rest)=fillAt (l.take off++vs++l.drop (off+n)).toArray rest:=by
 subst hv;simp only [fillAt];rw [if_neg (by simp [Value.cells];omega)];show fillAt (vs.toArray.zipIdx.foldl (fun (cs:Array Value) (x:Value×Nat)=>cs.setIfInBounds (off+x.2) x.1) l.toArray) rest=_
 congr 1
 have key:∀ (vs l:List Value) (off k:Nat),off+k+vs.length≤l.length →
     ((vs.zipIdx k).foldl (fun (cs:Array Value) (x:Value×Nat)=>cs.setIfInBounds (off+x.2) x.1) l.toArray)=(l.take (off+k)++vs++l.drop (off+k+vs.length)).toArray:=by
   intro vs
   induction vs with
   | nil=>intro l off k hk;simp
   | cons v vs ih=>
     intro l off k hk;simp only [List.length_cons] at hk;simp only [List.zipIdx_cons,List.foldl_cons,List.setIfInBounds_toArray];rw [ih (l.set (off+k) v) off (k+1) (by simp;omega)]
     congr 1
     have e1:(l.set (off+k) v).take (off+(k+1))=l.take (off+k)++[v]:=by
       rw [List.set_eq_take_append_cons_drop,if_pos (by omega),show off+(k+1)=(l.take (off+k)).length+1 by simp;omega,List.take_append];simp;rw [List.take_of_length_le (by simp)]
     have e2:(l.set (off+k) v).drop (off+(k+1)+vs.length)=l.drop (off+k+(vs.length+1)):=by
       rw [List.drop_set_of_lt (by omega)]
       congr 1;omega
     rw [e1,e2];simp
 have:=key vs l off 0 (by omega);simp only [Nat.add_zero] at this;rw [← this];rw [← Array.foldl_toList];simp
@[go_sem] theorem one_int (k:IntKind) (n:Int):One (Value.int k n)=True:=eq_true rfl
@[go_sem] theorem one_str (b:ByteArray):One (Value.string b)=True:=eq_true rfl
@[go_sem] theorem one_ptr (b:Option Addr):One (Value.pointer b)=True:=eq_true rfl
@[go_sem] theorem one_slice (a:Option Addr) (n c:Nat):One (Value.slice a n c)=True:=eq_true rfl
@[go_sem] theorem one_map (b:Option Nat):One (Value.map b)=True:=eq_true rfl
@[go_sem] theorem one_iface (t:TypeId) (v:Value):One (Value.iface t v)=True:=eq_true rfl
attribute [go_sem] exists_eq' Option.bind_some Option.bind_none Option.map_some Option.map_none exists_eq_left' Option.some.injEq
attribute [go_sem] List.getElem?_toArray List.getElem?_cons_zero List.getElem?_cons_succ
structure Mod (S:Nat→Prop) (w w':World):Prop where
 size:w.heap.size≤w'.heap.size
 old:∀ b,b < w.heap.size→¬ S b→w'.heap[b]? = w.heap[b]?
 os:w'.os=w.os
 tape:w'.tape=w.tape
 output:w'.output=w.output
theorem Mod.refl (S:Nat→Prop) (w:World):Mod S w w:=⟨Nat.le_refl _,fun _ _ _=>rfl,rfl,rfl,rfl⟩
theorem Mod.trans {S:Nat→Prop} {a b c:World} (h:Mod S a b) (k:Mod S b c):Mod S a c:=
 ⟨Nat.le_trans h.size k.size,fun i hi hs=>(k.old i (Nat.lt_of_lt_of_le hi h.size) hs).trans (h.old i hi hs),k.os.trans h.os,k.tape.trans h.tape,k.output.trans h.output⟩
theorem Mod.step {S S':Nat→Prop} {a b c:World} (h:Mod S a b) (k:Mod S' b c) (hs:∀ i,S' i→i < a.heap.size→S i):Mod S a c:=
 ⟨Nat.le_trans h.size k.size,fun i hi hn=>(k.old i (Nat.lt_of_lt_of_le hi h.size) (fun hh=>hn (hs i hh hi))).trans (h.old i hi hn),k.os.trans h.os,k.tape.trans h.tape,k.output.trans h.output⟩
theorem Mod.weak {S S':Nat→Prop} {a b:World} (h:Mod S a b) (hs:∀ i,S i→S' i):Mod S' a b:=
 ⟨h.size,fun i hi hn=>h.old i hi (fun hh=>hn (hs i hh)),h.os,h.tape,h.output⟩
theorem Mod.drew {S:Nat→Prop} {a b:World} (h:Mod S a b):Mod S a b.drew:=⟨h.size,h.old,h.os,h.tape,h.output⟩
theorem Mod.of_drew {S:Nat→Prop} {a b:World} (h:Mod S a.drew b):Mod S a b:=⟨h.size,h.old,h.os,h.tape,h.output⟩
theorem lt_of_heap {w:World} {b:Nat} {o:Obj} (h:w.heap[b]? = some o):b < w.heap.size:=(Array.getElem?_eq_some_iff.1 h).1
theorem Mod.at {S:Nat→Prop} {w w':World} (h:Mod S w w') {b:Nat} {o:Obj} (hb:w.heap[b]? = some o) (hs:¬ S b):w'.heap[b]? = some o:=(h.old b (lt_of_heap hb) hs).trans hb
theorem Mod.cell {S:Nat→Prop} {w w':World} (h:Mod S w w') {a:Addr} {v:Value} (ha:w.cell? a=some v) (hs:¬ S a.block):w'.cell? a=some v:=by
 have hlt:=World.block_lt_of_cell? w a ha;rw [cell?_congr (h.old a.block hlt hs)];exact ha
theorem cellsFrom_of {w:World} {b T:Nat} {fz:Nat×Nat} {cs:List Value} (h:w.heap[b]? = some (.cells cs.toArray T fz)):∀ (n off i:Nat) (acc:List Value),off+i+n≤cs.length →
   cellsFrom w ⟨b,off,none⟩ i n acc.toArray=some (acc++(cs.drop (off+i)).take n).toArray:=by
 intro n
 induction n with
 | zero=>intro off i acc _;simp [cellsFrom]
 | succ n ih=>
   intro off i acc hle;have hlt:off+i < cs.length:=by omega
   have hc:w.cell? (Addr.add ⟨b,off,none⟩ i)=some cs[off+i]:=by
     have:Addr.add ⟨b,off,none⟩ i=⟨b,off+i,none⟩:=by unfold Addr.add;split<;>simp_all
     rw [this];simp [World.cell?,h,hlt]
   simp only [cellsFrom,hc];have:=ih off (i+1) (acc++[cs[off+i]]) (by omega);rw [show acc.toArray.push cs[off+i]=(acc++[cs[off+i]]).toArray by simp,this]
   congr 2
   rw [List.append_assoc]
   congr 1
   rw [show cs.drop (off+i)=cs[off+i]::cs.drop (off+(i+1)) by rw [List.drop_eq_getElem_cons hlt];rfl];simp
theorem ln_of {w:World} {b T off n:Nat} {fz:Nat×Nat} {cs:List Value} (h:w.heap[b]? = some (.cells cs.toArray T fz)) (hle:off+n≤cs.length) :
   vLN w n (.pointer (some ⟨b,off,none⟩))=some (.agg ((cs.drop off).take n).toArray):=by
 have:=cellsFrom_of h n off 0 [] (by omega);simp only [vLN];simp only [List.nil_append,Nat.add_zero] at this;rw [this];rfl
theorem cell_of {w:World} {b:Nat} {cs:Array Value} {T:TypeId} {fz:Nat×Nat} (h:w.heap[b]? = some (.cells cs T fz)) (o:Nat):w.cell? ⟨b,o,none⟩=cs[o]?:=by simp [World.cell?,h]
@[go_sem] theorem drew_heap (w:World):w.drew.heap=w.heap:=_root_.id rfl
@[go_sem] theorem drew_cell (w:World) (a:Addr):w.drew.cell? a=w.cell? a:=_root_.id rfl
@[go_sem] theorem add_zero' (a:Addr):a.add 0=a:=_root_.id rfl
@[go_sem] theorem add_at (b o n:Nat):Addr.add ⟨b,o,none⟩ n=⟨b,o+n,none⟩:=by unfold Addr.add;split<;>simp_all
theorem mod_alloc (S:Nat→Prop) (w:World) (o:Obj):Mod S w (w.alloc o):=
 ⟨by simp,fun b hb _=>by show (w.heap.push o)[b]? = _;rw [Array.getElem?_push,if_neg (by omega)],rfl,rfl,rfl⟩
theorem mod_setRow (w:World) (b:Nat) (cs:Array Value):Mod (· = b) w (w.setRow b cs):=
 ⟨by simp,fun i _ hs=>setRow_other w b i cs hs,rfl,rfl,rfl⟩
section
variable {P:Program} {w:World} {ρ:Env} {K:Value→World→Prop}
theorem e_st {n:Nat} {x y:O} {b off:Nat} {v:Value} {cs:Array Value} {T:TypeId} (hx:x.ev ρ=some (.pointer (some ⟨b,off,none⟩))) (hy:y.ev ρ=some v)
   (hb:w.heap[b]? = some (.cells cs T (0,0))) (hn:v.cells.size=n) (hfit:off+n≤cs.size) (h1:∀ u∈v.cells.toList,u.oneCell'=true)
   (hk:∀ w',w'.heap[b]? = some (.cells (sp cs off v.cells.toList) T (0,0))→Mod (· = b) w w'→w'.heap.size=w.heap.size→K undef w'):E.wp P w ρ K (.st n x y):=by
 refine ⟨_,v,cs,T,hx,hy,hn,⟨rfl,hb⟩,?_,h1,?_⟩
 · show off+v.cells.toList.length≤cs.size;rw [Array.length_toList,hn];exact hfit
 · exact hk _ (setRow_heap w b cs _ T _ hb) (mod_setRow w b _) (by simp)
theorem sp_one (l:List Value) (o:Nat) (v:Value) (h:o < l.length):sp l.toArray o [v]=(l.set o v).toArray:=by
 unfold sp
 congr 1
 simp only [List.length_cons,List.length_nil,Nat.zero_add];rw [List.set_eq_take_append_cons_drop,if_pos h];simp
theorem sp_all {cs vs:List Value} (h:vs.length=cs.length):sp cs.toArray 0 vs=vs.toArray:=by
 unfold sp;simp only [Nat.zero_add,List.take_zero,List.nil_append];rw [List.drop_of_length_le (by omega),List.append_nil]
theorem e_sta {n:Nat} {x y:O} {b:Nat} {vs cs:List Value} {T:TypeId} (hx:x.ev ρ=some (.pointer (some ⟨b,0,none⟩))) (hy:y.ev ρ=some (.agg vs.toArray))
   (hb:w.heap[b]? = some (.cells cs.toArray T (0,0))) (hn:vs.length=n) (hc:cs.length=n) (h1:∀ u∈vs,u.oneCell'=true)
   (hk:∀ w',w'.heap[b]? = some (.cells vs.toArray T (0,0))→Mod (· = b) w w'→w'.heap.size=w.heap.size→K undef w'):E.wp P w ρ K (.st n x y):=by
 refine e_st (v:=.agg vs.toArray) hx hy hb (by simpa [Value.cells] using hn) (by simp;omega) (by simpa [Value.cells] using h1) ?_;intro w' h2 h3 h4;refine hk w' ?_ h3 h4;rw [h2];have:sp cs.toArray 0 (Value.agg vs.toArray).cells.toList=vs.toArray:=sp_all (by simp [Value.cells];omega);rw [this]
theorem e_stg {n:Nat} {x y:O} {b off:Nat} {vs cs:List Value} {T:TypeId} (hx:x.ev ρ=some (.pointer (some ⟨b,off,none⟩))) (hy:y.ev ρ=some (.agg vs.toArray))
   (hb:w.heap[b]? = some (.cells cs.toArray T (0,0))) (hn:vs.length=n) (hc:off+n≤cs.length) (h1:∀ u∈vs,u.oneCell'=true)
   (hk:∀ w',w'.heap[b]? = some (.cells (sp cs.toArray off vs) T (0,0))→Mod (· = b) w w'→w'.heap.size=w.heap.size→K undef w'):E.wp P w ρ K (.st n x y):=by
 refine e_st (v:=.agg vs.toArray) hx hy hb (by simpa [Value.cells] using hn) (by simp;omega) (by simpa [Value.cells] using h1) ?_;intro w' h2 h3 h4;exact hk w' (by simpa [Value.cells] using h2) h3 h4
theorem e_st1 {x y:O} {b off:Nat} {v:Value} {cs:List Value} {T:TypeId} (hx:x.ev ρ=some (.pointer (some ⟨b,off,none⟩))) (hy:y.ev ρ=some v)
   (hb:w.heap[b]? = some (.cells cs.toArray T (0,0))) (h1:v.oneCell'=true) (hfit:off < cs.length)
   (hk:∀ w',w'.heap[b]? = some (.cells (cs.set off v).toArray T (0,0))→Mod (· = b) w w'→w'.heap.size=w.heap.size→K undef w'):E.wp P w ρ K (.st 1 x y):=by
 have hc:v.cells = #[v]:=by cases v<;>first | rfl | simp [Value.oneCell'] at h1
 refine e_st (v:=v) hx hy hb (by rw [hc];rfl) (by simp;omega) (by rw [hc];simpa using h1) ?_;intro w' h2 h3 h4;rw [hc] at h2;rw [show sp cs.toArray off #[v].toList=(cs.set off v).toArray from sp_one cs off v hfit] at h2;exact hk w' h2 h3 h4
theorem e_bx {t:Nat} {x:O} {v:Value} (hx:x.ev ρ=some v)
   (hk:∀ w',w'.heap[w.heap.size]? = some (.cells v.cells t (0,0))→Mod (fun _=>False) w w'→w'.heap.size=w.heap.size+1→K (.pointer (some ⟨w.heap.size,0,none⟩)) w'):E.wp P w ρ K (.bx t x):=
 ⟨v,hx,hk _ (heap_alloc_new w _) (mod_alloc _ w _) (by simp)⟩
theorem e_al {t:Nat} {z:Value}
   (hk:∀ w',w'.heap[w.heap.size]? = some (.cells z.cells t (0,0))→Mod (fun _=>False) w w'→w'.heap.size=w.heap.size+1→K (.pointer (some ⟨w.heap.size,0,none⟩)) w'):E.wp P w ρ K (.al t z):=
 hk _ (heap_alloc_new w _) (mod_alloc _ w _) (by simp)
theorem e_bs {el len:Nat} {cells cs:Array Value} {parts:List (Nat×Nat×O)} {ps:List (Nat×Nat×Value)} (hp:pev ρ parts=some ps) (hf:fillAt cells ps=some cs)
   (hk:∀ w',w'.heap[w.heap.size]? = some (.cells cs el (0,0))→Mod (fun _=>False) w w'→w'.heap.size=w.heap.size+1→K (.slice (some ⟨w.heap.size,0,none⟩) len len) w'):E.wp P w ρ K (.bs el len cells parts):=
 ⟨ps,cs,hp,hf,hk _ (heap_alloc_new w _) (mod_alloc _ w _) (by simp)⟩
theorem e_call {f:Nat} {args:List O} {vs:List Value} (ha:evs ρ args=some vs) (h:CallsR P f vs w K):E.wp P w ρ K (.call f args):=⟨vs,ha,h⟩
end
attribute [go_sem] Nat.zero_add List.length_cons List.length_nil List.set_cons_zero List.set_cons_succ List.take_zero List.take_succ_cons List.drop_zero List.drop_succ_cons List.take_nil List.drop_nil List.nil_append List.cons_append List.append_nil or_false false_or or_true true_or false_implies true_implies and_true true_and and_self Bool.and_true Bool.true_and
universe u
theorem zb1 (p:Prop) [Decidable p]:((decide p=true)=p)∧((decide p=false)=¬p)∧(¬¬p)=p:=by
 by_cases h:p<;>simp [h]
theorem zb2 {α:Type u} [BEq α] [LawfulBEq α] (a b:α):(((a == b)=true)=(a=b))∧(((a == b)=false)=¬(a=b))∧(((a != b)=true)=¬(a=b))∧((a != b)=false)=(a=b):=by
 refine ⟨?_,?_,?_,?_⟩<;>simp
theorem zb3 {α:Sort u} (a b:α):(a≠b)=¬(a=b):=rfl
theorem zb4:((false=true)=False)∧((true=false)=False)∧(0:Int).toNat=0:=by simp
theorem zb5 (p:Prop):((p↔True)=p)∧((p↔False)=¬p)∧((True↔p)=p)∧((False↔p)=¬p):=by simp
theorem zb6 (n:Nat):n*1=n∧((n:Int).toNat=n)∧n - 0=n∧n - n=0:=by simp
end
section
open Go
theorem wrap_in {n:Int} (h1 : -9223372036854775808≤n) (h2:n < 9223372036854775808):IntKind.i64.wrap n=n:=by
 rw [IntKind.wrap_i64];omega
abbrev I (n:Int):Value:=.int .i64 n
def OwnS (w:World) (T sz:Nat) (v:Value) (xs:List Value) (n:Nat) (fp:Option Nat):Prop:=
 xs.length=n*sz∧((v = .slice none 0 0∧n=0∧fp=none) ∨
   ∃ b c sp,v = .slice (some ⟨b,0,none⟩) n c∧fp=some b∧w.heap[b]? = some (.cells (xs++sp).toArray T (0,0))∧c*sz≤(xs++sp).length∧n≤c)
theorem OwnS.nil (w:World) (T sz:Nat):OwnS w T sz (.slice none 0 0) [] 0 none:=⟨by simp,.inl ⟨rfl,rfl,rfl⟩⟩
theorem OwnS.lt {w:World} {T sz:Nat} {v:Value} {xs:List Value} {n b:Nat} {fp:Option Nat} (h:OwnS w T sz v xs n fp) (hb:fp=some b):b < w.heap.size:=by
 rcases h.2 with ⟨_,_,h⟩ | ⟨b',c,sp,_,h,hh,_⟩
 · rw [h] at hb;cases hb
 · rw [h] at hb;cases hb;exact lt_of_heap hh
theorem OwnS.mod {w w':World} {S:Nat→Prop} {T sz:Nat} {v:Value} {xs:List Value} {n:Nat} {fp:Option Nat} (h:OwnS w T sz v xs n fp) (hm:Mod S w w') (hs:∀ b,fp=some b→¬ S b):OwnS w' T sz v xs n fp:=by
 refine ⟨h.1,?_⟩;rcases h.2 with h | ⟨b,c,sp,h1,h2,h3,h4⟩
 · exact .inl h
 · exact .inr ⟨b,c,sp,h1,h2,hm.at h3 (hs b h2),h4⟩
theorem OwnS.of_block {w:World} {T sz n b:Nat} {xs:List Value} (h:w.heap[b]? = some (.cells xs.toArray T (0,0))) (hn:xs.length=n*sz):OwnS w T sz (.slice (some ⟨b,0,none⟩) n n) xs n (some b):=
 ⟨hn,.inr ⟨b,n,[],rfl,rfl,by simpa using h,by simpa using Nat.le_of_eq hn.symm,Nat.le_refl _⟩⟩
theorem OwnS.val {w:World} {T sz:Nat} {v:Value} {xs:List Value} {n:Nat} {fp:Option Nat} (h:OwnS w T sz v xs n fp):∃ a c,v = .slice a n c∧n≤c∧(a=none→n=0∧c=0):=by
 rcases h.2 with ⟨h1,h2,_⟩ | ⟨b,c,sp,h1,_,_,_,h5⟩
 · subst h2;exact ⟨none,0,h1,Nat.le_refl _,fun _=>⟨rfl,rfl⟩⟩
 · exact ⟨_,c,h1,h5,fun h=>by cases h⟩
theorem OwnS.pos {w:World} {T sz:Nat} {v:Value} {xs:List Value} {n:Nat} {fp:Option Nat} (h:OwnS w T sz v xs n fp) (hn:0 < n) :
   ∃ b c sp,v = .slice (some ⟨b,0,none⟩) n c∧fp=some b∧w.heap[b]? = some (.cells (xs++sp).toArray T (0,0))∧n≤c∧c*sz≤(xs++sp).length:=by
 rcases h.2 with ⟨_,h,_⟩ | ⟨b,c,sp,h1,h2,h3,h4,h5⟩
 · omega
 · exact ⟨b,c,sp,h1,h2,h3,h5,h4⟩
theorem OwnS.rd {w:World} {T sz:Nat} {xs:List Value} {n:Nat} {fp:Option Nat} {a:Option Addr} {c:Nat} (h:OwnS w T sz (.slice a n c) xs n fp):RdCells w a (n*sz) xs:=by
 refine ⟨h.1,?_⟩;intro ad had j v hv;rcases h.2 with ⟨h1,_,_⟩ | ⟨b,c',sp,h1,h2,h3,_⟩
 · cases h1;cases had
 · cases h1;cases had;rw [add_at,cell_of h3];have hlt:j < xs.length:=by
     rcases Nat.lt_or_ge j xs.length with h | h
     · exact h
     · simp [List.getElem?_eq_none h] at hv
   simp [List.getElem?_append_left hlt,hv]
theorem rd_block {w:World} {b T:Nat} {fz:Nat×Nat} {xs:List Value} (h:w.heap[b]? = some (.cells xs.toArray T fz)):RdCells w (some ⟨b,0,none⟩) xs.length xs:=by
 refine ⟨rfl,?_⟩;intro ad had j v hv;cases had;rw [add_at,cell_of h]
 simpa using hv
section
variable {P:Program} {w:World} {ρ:Env} {K:Value→World→Prop}
theorem size_zeroCells' (z:Array Value) (n:Nat):(Builtin.zeroCells z n).size=n*z.size:=by simp [Builtin.zeroCells]
theorem e_ap {T sz bytes m c n:Nat} {zero:Array Value} {s x:O} {v:Value} {xs news:List Value} {fp:Option Nat} {xa:Option Addr}
   (hs:s.ev ρ=some v) (ho:OwnS w T sz v xs n fp) (hx:x.ev ρ=some (.slice xa m c)) (hxa:xa=none→m=0) (hr:RdCells w xa (m*sz) news) (h1:∀ u∈news,u.oneCell'=true)
   (hz:zero.size=sz) (hb:(n+m)*bytes≤140737488355328) (h63:n+m≤9223372036854775807)
   (hk:∀ v' w' fp',OwnS w' T sz v' (xs++news) (n+m) fp'→Mod (fun b=>fp=some b) w w'→(∀ b,fp'=some b→fp=some b∨b=w.heap.size∧b < w'.heap.size)→K v' w') :
   E.wp P w ρ K (.ap T sz bytes zero s x):=by
 obtain ⟨hlen,hv⟩:=ho;have hnl:news.length=m*sz:=hr.1;have hcat:(xs++news).length=(n+m)*sz:=by rw [List.length_append,hlen,hnl,Nat.add_mul]
 have grown:∀ (olds:List Value),olds=xs→∀ nc w1,n+m≤nc→w1=w.drew.alloc (.cells (olds.toArray++news.toArray++Builtin.zeroCells zero (nc - (n+m))) T)→K (.slice (some ⟨w.heap.size,0,none⟩) (n+m) nc) w1:=by
   intro olds ho nc w1 hle hw1;subst ho hw1;refine hk _ _ (some w.heap.size) ⟨hcat,.inr ⟨w.heap.size,nc,(Builtin.zeroCells zero (nc - (n+m))).toList,rfl,rfl,?_,?_,hle⟩⟩ (mod_alloc _ w.drew _).of_drew ?_
   · rw [show w.heap.size=w.drew.heap.size from rfl,heap_alloc_new w.drew]
     congr 2
     apply Array.ext';simp
   · rw [List.length_append,hcat,Array.length_toList,size_zeroCells',hz,← Nat.add_mul];exact Nat.mul_le_mul_right _ (by omega)
   · intro b hb;cases hb;exact .inr ⟨rfl,by simp⟩
 rcases hv with ⟨rfl,rfl,rfl⟩ | ⟨b,cap,sp',rfl,rfl,hrow,hcap,hle⟩
 · have hx0:xs=[]:=List.eq_nil_of_length_eq_zero (by simpa using hlen);subst hx0;refine ⟨none,0,0,xa,m,c,[],news,hs,hx,fun _=>⟨rfl,rfl⟩,hxa,⟨by simp,(fun ad h=>by cases h)⟩,hr,h1,hb,h63,?_,?_,fun hc nc w1 h2 h3=>grown [] rfl nc w1 h2 h3⟩
   · intro hm _;have hm0:m=0:=by omega
     subst hm0;have hn0:news=[]:=List.eq_nil_of_length_eq_zero (by simpa using hnl);subst hn0;exact hk _ _ none (OwnS.nil w T sz) (Mod.refl _ w) (fun b h=>by cases h)
   · intro _ a h;cases h
 · refine ⟨some ⟨b,0,none⟩,n,cap,xa,m,c,xs,news,hs,hx,(fun h=>by cases h),hxa,?_,hr,h1,hb,h63,(fun _ h=>by cases h),?_,fun hc nc w1 h2 h3=>grown xs rfl nc w1 h2 h3⟩
   · exact OwnS.rd ⟨hlen,.inr ⟨b,cap,sp',rfl,rfl,hrow,hcap,hle⟩⟩
   · intro hroom a ha;cases ha;have hfit:n*sz+news.length≤(xs++sp').length:=by rw [hnl,← Nat.add_mul];exact Nat.le_trans (Nat.mul_le_mul_right _ hroom) hcap
     have hsp:sp (xs++sp').toArray (0+n*sz) news=((xs++news)++sp'.drop news.length).toArray:=by
       unfold sp;simp only [Nat.zero_add,List.append_assoc];rw [← hlen,List.take_left]
       congr 2
       rw [List.drop_append];simp
     refine ⟨(xs++sp').toArray,T,⟨rfl,hrow⟩,by simpa using hfit,?_⟩;rw [hsp];refine hk _ _ (some b) ⟨hcat,.inr ⟨b,cap,sp'.drop news.length,rfl,rfl,setRow_heap w b _ _ T _ hrow,?_,hroom⟩⟩ ((mod_setRow w b _).weak (fun i hi=>by rw [hi])) (fun b' hb'=>.inl hb');rw [List.length_append,hcat,List.length_drop];have h2:(xs++sp').length=xs.length+sp'.length:=List.length_append;rw [h2,hlen] at hcap;rw [hnl];rw [h2,hlen,hnl] at hfit;have h3:(n+m)*sz=n*sz+m*sz:=Nat.add_mul _ _ _;omega
end
def vblk:Value→Option Nat
 | .slice (some a) _ _=>some a.block
 | _=>none
def Ints (w:World) (v:Value) (xs:List Int):Prop:=
 ∃ a c,v = .slice a xs.length c∧xs.length≤17592186044416∧∀ i (h:i < xs.length),∃ ad,a=some ad∧w.cell? (ad.add i)=some (I xs[i])
theorem Ints.mod {w w':World} {S:Nat→Prop} {v:Value} {xs:List Int} (h:Ints w v xs) (hm:Mod S w w') (hs:∀ b,vblk v=some b→¬ S b):Ints w' v xs:=by
 obtain ⟨a,c,rfl,hl,hx⟩:=h;refine ⟨a,c,rfl,hl,fun i hi=>?_⟩;obtain ⟨ad,rfl,hc⟩:=hx i hi;refine ⟨ad,rfl,hm.cell hc ?_⟩;rw [add_block];exact hs _ rfl
end
end Go.W
section
namespace Go.W
open Go
theorem wpD_mono {P:Program} {K K':Env→World→Prop} (hk:∀ ρ w,K ρ w→K' ρ w):∀ (t:D) (ρ:Env) (w:World) (rd:List (Nat×Nat)),wpD P t ρ w rd K→wpD P t ρ w rd K':=by
 intro t
 induction t with
 | nil=>intro ρ w rd h;exact hk _ _ h
 | r i g d r t ih=>
   intro ρ w rd h;rcases g with _ | ⟨s,b⟩
   · obtain ⟨v,h1,h2⟩:=h;exact ⟨v,h1,ih _ _ _ h2⟩
   · obtain ⟨c,h1,h2,h3⟩:=h;exact ⟨c,h1,fun hh=>let ⟨v,h4,h5⟩:=h2 hh;⟨v,h4,ih _ _ _ h5⟩,fun hh=>ih _ _ _ (h3 hh)⟩
 | e i g d e fl t ih=>
   intro ρ w rd h;rcases g with _ | ⟨s,b⟩
   · exact E.mono (fun v w' h=>⟨h.1,ih _ _ _ h.2⟩) e h
   · obtain ⟨c,h1,h2,h3⟩:=h;exact ⟨c,h1,fun hh=>E.mono (fun v w' h=>⟨h.1,ih _ _ _ h.2⟩) e (h2 hh),fun hh=>ih _ _ _ (h3 hh)⟩
 | e2 i d e fl t i' d' e' fl' t' ih ih'=>
   intro ρ w rd h;exact ⟨E.mono (fun v w' h=>⟨h.1,ih _ _ _ h.2⟩) e h.1,E.mono (fun v w' h=>⟨h.1,ih' _ _ _ h.2⟩) e' h.2⟩
section
variable {P:Program} {N:Nat}
theorem thenQ_le {next next':Env→World→Prop} {Q Q':Post} (hn:∀ ρ w,next ρ w→next' ρ w) (hq:∀ e ρ w,Q e ρ w→Q' e ρ w):∀ (e:Exit) (ρ:Env) (w:World),thenQ next Q e ρ w→thenQ next' Q' e ρ w:=by
 intro e ρ w h;cases e<;>first | exact hn _ _ h | exact hq _ _ _ h
theorem blkQ_le {id:Nat} {Q Q':Post} (hq:∀ e ρ w,Q e ρ w→Q' e ρ w):∀ (e:Exit) (ρ:Env) (w:World),blkQ id Q e ρ w→blkQ id Q' e ρ w:=by
 intro e ρ w h;cases e with
 | exit i=>
   show (if i=id then Q' .normal ρ w else Q' (.exit i) ρ w);have h:(if i=id then Q .normal ρ w else Q (.exit i) ρ w):=h
   split
   · rename_i hi;rw [if_pos hi] at h;exact hq _ _ _ h
   · rename_i hi;rw [if_neg hi] at h;exact hq _ _ _ h
 | _=>exact hq _ _ _ h
theorem irwp_mono:∀ (c:IR) (Q Q':Post),(∀ e ρ w,Q e ρ w→Q' e ρ w)→∀ ρ w,irwp P N c Q ρ w→irwp P N c Q' ρ w:=by
 intro c
 induction c with
 | skip=>intro Q Q' hq ρ w h;exact hq _ _ _ h
 | ret=>intro Q Q' hq ρ w h;exact hq _ _ _ h
 | exit id=>intro Q Q' hq ρ w h;exact hq _ _ _ h
 | seq a b iha ihb=>intro Q Q' hq ρ w h;exact iha _ _ (thenQ_le (fun ρ w h=>ihb _ _ hq ρ w h) hq) ρ w h
 | cond c a b iha ihb=>intro Q Q' hq ρ w h;obtain ⟨t,h1,h2,h3⟩:=h;exact ⟨t,h1,fun hh=>iha _ _ hq _ _ (h2 hh),fun hh=>ihb _ _ hq _ _ (h3 hh)⟩
 | block id a iha=>intro Q Q' hq ρ w h;exact iha _ _ (blkQ_le hq) ρ w h
 | loop a iha=>
   intro Q Q' hq ρ w h;obtain ⟨J,n,h0,hs⟩:=h;exact ⟨J,n,h0,fun n ρ w hJ=>iha _ _ (thenQ_le (fun _ _ h=>h) hq) ρ w (hs n ρ w hJ)⟩
 | reg dw st kp=>intro Q Q' hq ρ w h;exact wpS_cut _ h (fun ρ w h=>hq _ _ _ h)
 | dr t kp=>intro Q Q' hq ρ w h;exact wpD_mono (fun ρ w h=>hq _ _ _ h) t _ _ _ h
 | raw c=>intro Q Q' hq ρ w h dl a ha;exact wp_mono (h dl a ha) (fun e a w h=>by obtain ⟨ρ,h1,h2⟩:=h;exact ⟨ρ,h1,hq _ _ _ h2⟩)
theorem ir_cut {a b:IR} {Q:Post} {ρ:Env} {w:World} (Mid:Env→World→Prop) (h:irwp P N a (thenQ Mid Q) ρ w) (hk:∀ ρ w,Mid ρ w→irwp P N b Q ρ w):irwp P N (.seq a b) Q ρ w:=
 irwp_mono a _ _ (thenQ_le hk (fun _ _ _ h=>h)) ρ w h
theorem ir_then {a:IR} {next:Env→World→Prop} {Q:Post} {ρ:Env} {w:World} (Mid:Env→World→Prop) (h:irwp P N a (thenQ Mid Q) ρ w) (hk:∀ ρ w,Mid ρ w→next ρ w):irwp P N a (thenQ next Q) ρ w:=
 irwp_mono a _ _ (thenQ_le hk (fun _ _ _ h=>h)) ρ w h
end
end Go.W
namespace Go.W
open Go
theorem wpD_e2 {P:Program} {K:Env→World→Prop} {ρ:Env} {w:World} {rd:List (Nat×Nat)} (i:Nat) (d:Option Nat) (e:E) (fl:List Nat) (t:D) (i':Nat) (d':Option Nat) (e':E) (fl':List Nat) (t':D) :
   wpD P (.e2 i d e fl t i' d' e' fl' t') ρ w rd K=((e.wp P w ρ fun v w'=>keptL fl w w' rd∧wpD P t (ρ.put d v) w' rd K)∧(e'.wp P w ρ fun v w'=>keptL fl' w w' rd∧wpD P t' (ρ.put d' v) w' rd K)):=_root_.id rfl
theorem wpD_cut {P:Program} {K:Env→World→Prop} {ρ:Env} {w:World} {rd:List (Nat×Nat)} {t:D} (Mid:Env→World→Prop) (h:wpD P t ρ w rd Mid) (hk:∀ ρ w,Mid ρ w→K ρ w):wpD P t ρ w rd K:=
 wpD_mono hk t ρ w rd h
end Go.W
end
namespace Go.W
section
open Go Go.ChangeShapes Go.WideShapes Go.ChangeAt Go.RowKit
theorem mod_below {w w':World} (h:Mod (fun _=>False) w w'):Below w.heap.size w w':=⟨h.os,h.tape,h.output,h.size,fun k hk=>h.old k hk (fun h=>h)⟩
section
variable {H:Type} {enc:TypeId×Value→H} {P:Program}
theorem trodAll_len:∀ {ts:List TypeId} {vs:List Value} {ds:List (DataW H)} {ps:List MemPlace} {w:World} {base:Nat} {spare:Nat→Bool} {held:Bool},DataW.TrodAll enc P w base spare held ts vs ds ps→ds.length=ts.length
 | [],[],[],_,_,_,_,_,_=>rfl
 | _::_,_::_,_::_,_,_,_,_,_,⟨_,_,_,h,_⟩=>by simp [trodAll_len h]
 | [],_::_,_,_,_,_,_,_,h=>h.elim
 | [],[],_::_,_,_,_,_,_,h=>h.elim
 | _::_,[],_,_,_,_,_,_,h=>h.elim
 | _::_,_::_,[],_,_,_,_,_,h=>h.elim
theorem trodAll_below (hl:laidOutB P=true) {W W':World} (hb:Below W.heap.size W W'):∀ {ts:List TypeId} {vs:List Value} {ds:List (DataW H)} {ps:List MemPlace},ts.all (fun t=>P.readableRec t&&decide (t < P.types.size))=true →
   (∀ x∈ps,x.block < W.heap.size)→DataW.TrodAll enc P W 0 (fun _=>true) true ts vs ds ps→DataW.TrodAll enc P W' 0 (fun b=>decide (b < W.heap.size)) true ts vs ds ps
 | [],[],[],_,_,_,h=>h
 | t::ts,v::vs,d::ds,ps,ht,hp,⟨p,q,h1,h2,h3⟩=>by
   simp only [List.all_cons,Bool.and_eq_true,decide_eq_true_eq] at ht;subst h3;exact ⟨p,q,Below.trod hl ht.1.1 ht.1.2 h1 hb (fun x hx=>hp x (List.mem_append_left _ hx)),trodAll_below hl hb ht.2 (fun x hx=>hp x (List.mem_append_right _ hx)) h2,rfl⟩
 | [],_::_,_,_,_,_,h=>h.elim
 | [],[],_::_,_,_,_,h=>h.elim
 | _::_,[],_,_,_,_,h=>h.elim
 | _::_,_::_,[],_,_,_,h=>h.elim
def LawIn (enc:TypeId×Value→H) (P:Program) (ts:List TypeId) (w:World) (args:List Value) (ds:List (DataW H)):Prop:=
 (∃ base,∀ (j:Nat) t v,ts[j]? = some t→args[j]? = some v→Value.okWide P w .any base t v)∧(∃ ps,DataW.TrodAll enc P w 0 (fun _=>true) true ts args ds ps)∧(DataW.weightsEach P ts ds).all (·≤reachBytes)=true
end
end
section
open Go Go.ChangeMaps Go.RowKit
section
variable {P:Program} {ρ:Env} {w:World} {K:Value→World→Prop} {d:Option Nat} {ty:TypeId} {pos:String} {af:Array Edge}
theorem mod_setBlock {es:Array MapEntry} {c:Nat} (w:World) (b:Nat) (o:Obj) (hb:w.heap[b]? = some (.map es c)):Mod (· = b) w (setBlock w b o):=
 ⟨by simp [setBlock],fun i hi hn=>by rw [heap_setBlock_other hb o hn],rfl,rfl,rfl⟩
theorem size_setBlock (w:World) (b:Nat) (o:Obj):(setBlock w b o).heap.size=w.heap.size:=by simp [setBlock]
theorem run_setObj_map {b c:Nat} {es:Array MapEntry} {w:World} (hb:w.heap[b]? = some (.map es c)) (o:Obj):(setObj b o).run P w = .ok () (setBlock w b o):=by
 simp [setObj,Sem.run,hb,setBlock]
theorem e_cv {f:FuncId} {fn:Func} {cap:Array Value} {x:Operand} {args:Array Operand} {at':Array TypeId} {vs:List Value} (hx:(toO x).ev ρ=some (.func (.func f) #[] cap)) (ha':evs ρ (args.toList.map toO)=some vs)
   (hfn:P.funcs[f]? = some fn) (hbody:fn.body.isSome=true) (hname:(fn.name == "runtime.NumGoroutine")=false) (h:CallsR P f (vs++cap.toList) w K) :
   E.wp P w ρ K (.raw ⟨d,.call { callee:=.value x,args:=args,argTypes:=at'},ty,pos,af,none⟩):=by
 intro a ha;have hargs:args.map a.eval=vs.toArray:=by
   have key:∀ (l:List Operand) (vs:List Value),evs ρ (l.map toO)=some vs→l.map a.eval=vs:=by
     intro l
     induction l with
     | nil=>intro vs h;simp only [List.map_nil,evs,Option.some.injEq] at h;subst h;rfl
     | cons y l ih=>
       intro vs h;simp only [List.map_cons,evs] at h;cases h1:(toO y).ev ρ with
       | none=>simp [h1] at h
       | some u=>
         cases h2:evs ρ (l.map toO) with
         | none=>simp [h1,h2] at h
         | some us=>
           simp [h1,h2] at h;subst h;rw [List.map_cons,ha y u h1,ih us h2]
   have:=key args.toList vs ha';apply Array.ext'
   simpa using this
 have hn:fn.body.isNone=false:=by cases hb:fn.body<;>simp [hb] at hbody ⊢
 unfold Oper.wp;have e1:(execOp a.eval ⟨d,.call { callee:=.value x,args:=args,argTypes:=at'},ty,pos,af,none⟩).run P w = .ok (.enter f (vs++cap.toList).toArray) w:=by
   have g1:ro P w program=some P:=rfl;have g2:vs.toArray++cap=(vs++cap.toList).toArray:=by apply Array.ext';simp
   simp only [execOp,resolve,Deferred.ofValue,Sem.run_bind,Sem.run_pure,Result.andThen_ok,invoke,callFunc,ro_run g1,hfn,ha x _ hx,hargs,Array.empty_append,g2];rw [if_neg (by rw [hname];simp),if_neg (by rw [hn];simp)];rfl
 rw [e1];simp only [Oper.upon];unfold CallsR at h;refine h.mono ?_;rintro e w' ⟨v,rfl,hk⟩;exact ⟨v,rfl,hk⟩
def kv (e:MapEntry):Value×Value:=(e.key,e.val)
theorem e_b0 {t el:TypeId} {n:Nat} (ht:P.underlying t=some (.slice el)) (hn:szOf P el=some n) (hk:∀ w',w'.heap[w.heap.size]? = some (.cells #[] el (0,0))→Mod (fun _=>False) w w'→w'.heap.size=w.heap.size+1→K (.slice (some ⟨w.heap.size,0,none⟩) 0 0) w') :
   E.wp P w ρ K (.raw ⟨d,.buildSlice t 0 #[],ty,pos,af,none⟩):=by
 refine opWp_of_run fun a ha=>⟨_,_,?_,hk (w.alloc (.cells #[] el)) (heap_alloc_new w _) (mod_alloc _ w _) (by simp)⟩
 have g1:ro P w (underlying t)=some (.slice el):=by rw [ro_underlying,ht]
 have g2:ro P w (sizeOf el)=some n:=by rw [ro_sizeOf];exact hn
 simp only [execOp,Instr.buildSlice,Sem.run_bind,ro_run g1,ro_run g2,Result.andThen_ok,Sem.run_pure,Nat.zero_mul];simp [newRow,Instr.fill,show Array.range 0 = #[] from rfl]
end
end
section
open Go Go.ChangeMaps Go.RowKit
theorem ba_beq (a b:ByteArray):(a == b)=decide (a=b):=by
 cases a;cases b;rename_i x y;show (x == y)=_;by_cases h:x=y
 · subst h;simp
 · simp [h]
theorem checkKey_str' {P:Program} {w:World} {kt:TypeId} (hk:P.underlying kt=some .string) (k:ByteArray) (b:Bool) (n:Nat):(Instr.checkKey b (n+1) kt (.string k)).run P w = .ok () w:=by
 unfold Instr.checkKey;rw [Sem.run_bind,run_underlying hk];rfl
theorem checkKey_str {P:Program} {w:World} {kt:TypeId} (hk:P.underlying kt=some .string) (k:ByteArray) (b:Bool):(Instr.checkKey b 10000 kt (.string k)).run P w = .ok () w:=checkKey_str' hk k b 9999
section
variable {P:Program} {ρ:Env} {w:World} {K:Value→World→Prop} {d:Option Nat} {ty:TypeId} {pos:String} {af:Array Edge}
end
end
section
open Go Go.ChangeMaps Go.RowKit
def MapV (w:World) (b:Nat) (l:List (ByteArray×Value)):Prop:=
 ∃ es clock,w.heap[b]? = some (.map es clock)∧es.toList.map (fun e=>(e.key,e.val))=l.map (fun p=>(.string p.1,p.2))∧(∀ e∈es.toList,e.born < clock)∧(es.toList.map (·.born)).Nodup
theorem mapv_mod {w w':World} {b:Nat} {l:List (ByteArray×Value)} {S:Nat→Prop} (h:MapV w b l) (hm:Mod S w w') (hb:¬ S b):MapV w' b l:=by
 obtain ⟨es,c,h1,h2⟩:=h;exact ⟨es,c,hm.at h1 hb,h2⟩
def vget (l:List (ByteArray×Value)) (k:ByteArray):Option Value:=(l.find? (fun p=>decide (p.1=k))).map (·.2)
def vput (l:List (ByteArray×Value)) (k:ByteArray) (v:Value):List (ByteArray×Value):=match l.findIdx? (fun p=>decide (p.1=k)) with
 | some i=>l.set i (k,v)
 | none=>l++[(k,v)]
def vdel (l:List (ByteArray×Value)) (k:ByteArray):List (ByteArray×Value):=match l.findIdx? (fun p=>decide (p.1=k)) with
 | some i=>l.eraseIdx i
 | none=>l
theorem findNow_v (k:ByteArray):∀ (es:List MapEntry) (l:List (ByteArray×Value)) (i:Nat),es.map (fun e=>(e.key,e.val))=l.map (fun p=>(.string p.1,p.2)) →
   Instr.findNow .string (.string k) es i=some ((l.findIdx? (fun p=>decide (p.1=k))).map fun j=>(i+j,(l.getD j (⟨#[]⟩,.nilFunc)).2)):=by
 intro es
 induction es with
 | nil=>
   intro l i h;cases l with
   | nil=>rfl
   | cons p l=>simp at h
 | cons e es ih=>
   intro l i h;cases l with
   | nil=>simp at h
   | cons p l=>
     simp only [List.map_cons,List.cons.injEq,Prod.mk.injEq] at h;obtain ⟨⟨h1,h2⟩,h3⟩:=h;have e1:Instr.sameNow .string (.string k) e.key=some (k == p.1):=by rw [h1];simp [Instr.sameNow,I]
     by_cases hk:p.1=k
     · have e2:(k == p.1)=true:=by simp [ba_beq,hk]
       have e3:decide (p.1=k)=true:=by simp [hk]
       rw [e2] at e1;simp [Instr.findNow,e1,List.findIdx?_cons,e3,h2]
     · have e2:(k == p.1)=false:=by simp [ba_beq];exact fun h=>hk h.symm
       have e3:decide (p.1=k)=false:=by simp [hk]
       rw [e2] at e1;simp only [Instr.findNow,e1,ih l (i+1) h3,List.findIdx?_cons,e3];cases l.findIdx? (fun p=>decide (p.1=k)) with
       | none=>rfl
       | some j=>simp [Nat.add_assoc,Nat.add_comm 1 j]
theorem findKey_v {P:Program} {w:World} {kt:TypeId} (hk:P.underlying kt=some .string) (k:ByteArray) (es:List MapEntry) (l:List (ByteArray×Value)) (h:es.map (fun e=>(e.key,e.val))=l.map (fun p=>(.string p.1,p.2))) :
   (Instr.findKey kt (.string k) es).run P w = .ok ((l.findIdx? (fun p=>decide (p.1=k))).map fun j=>(j,(l.getD j (⟨#[]⟩,.nilFunc)).2)) w:=by
 have:=findNow_v k es l 0 h;simp only [Nat.zero_add] at this;simp only [Instr.findKey,Sem.run_bind,run_underlying hk,Result.andThen,this];rfl
theorem vget_idx (l:List (ByteArray×Value)) (k:ByteArray):vget l k=(l.findIdx? (fun p=>decide (p.1=k))).map fun j=>(l.getD j (⟨#[]⟩,.nilFunc)).2:=by
 induction l with
 | nil=>rfl
 | cons p l ih=>
   unfold vget at ih ⊢;by_cases hk:p.1=k
   · have e3:decide (p.1=k)=true:=by simp [hk]
     simp [List.find?_cons,List.findIdx?_cons,e3]
   · have e3:decide (p.1=k)=false:=by simp [hk]
     simp only [List.find?_cons,List.findIdx?_cons,e3,ih];cases l.findIdx? (fun p=>decide (p.1=k))<;>rfl
section
variable {P:Program} {ρ:Env} {w:World} {K:Value→World→Prop} {d:Option Nat} {ty:TypeId} {pos:String} {af:Array Edge}
theorem e_mmV {t:TypeId} (hk:∀ w',MapV w' w.heap.size []→Mod (fun _=>False) w w'→w'.heap.size=w.heap.size+1→K (.map (some w.heap.size)) w') :
   E.wp P w ρ K (.raw ⟨d,.makeMap t none,ty,pos,af,none⟩):=by
 refine opWp_of_run fun a ha=>⟨_,_,?_,hk (w.alloc (.map #[] 0)) ⟨_,_,heap_alloc_new w _,rfl,by simp,by simp⟩ (mod_alloc _ w _) (by simp)⟩
 simp only [execOp,Sem.run_bind,Option.map_none,Go.RowKit.run_makeMap,Result.andThen];rfl
theorem e_lkV {t kt et:TypeId} {m x:Operand} {b:Nat} {k:ByteArray} {l:List (ByteArray×Value)} (hm:(toO m).ev ρ=some (.map (some b))) (hx:(toO x).ev ρ=some (.string k)) (ht:P.underlying t=some (.map kt et)) (hkt:P.underlying kt=some .string)
   {z:Value} (hz:(zeroValue et).run P w = .ok z w) (h:MapV w b l) (hk:K (.tuple #[(vget l k).getD z,.bool (vget l k).isSome]) w):E.wp P w ρ K (.raw ⟨d,.lookup t m x true,ty,pos,af,none⟩):=by
 obtain ⟨es,clock,h1,h2,_⟩:=h;refine opWp_of_run fun a ha=>⟨_,w,?_,hk⟩
 have hkey:=findKey_v (P:=P) (w:=w) hkt k es.toList l h2;have e1:(Instr.lookup t (.map (some b)) (.string k) true).run P w = .ok (.tuple #[(vget l k).getD z,.bool (vget l k).isSome]) w:=by
   rw [vget_idx];simp only [Instr.lookup,Sem.run_bind,run_underlying ht,Result.andThen,getObj,Sem.run,h1,checkKey_str hkt,Sem.run_pure];cases hI:l.findIdx? (fun p=>decide (p.1=k)) with
   | none=>
     rw [hI] at hkey
     erw [hkey]
     simp [hz,Sem.run_bind,Sem.run_pure,Sem.run,Result.andThen]
   | some j=>
     rw [hI] at hkey
     erw [hkey]
     simp [Sem.run_bind,Sem.run_pure,Sem.run,Result.andThen]
 simp only [execOp,Sem.run_bind,ha m _ hm,ha x _ hx,e1,Result.andThen];rfl
theorem e_l1V {t kt et:TypeId} {m x:Operand} {b:Nat} {k:ByteArray} {l:List (ByteArray×Value)} (hm:(toO m).ev ρ=some (.map (some b))) (hx:(toO x).ev ρ=some (.string k)) (ht:P.underlying t=some (.map kt et)) (hkt:P.underlying kt=some .string)
   {z:Value} (hz:(zeroValue et).run P w = .ok z w) (h:MapV w b l) (hk:K ((vget l k).getD z) w):E.wp P w ρ K (.raw ⟨d,.lookup t m x false,ty,pos,af,none⟩):=by
 obtain ⟨es,clock,h1,h2,_⟩:=h;refine opWp_of_run fun a ha=>⟨_,w,?_,hk⟩
 have hkey:=findKey_v (P:=P) (w:=w) hkt k es.toList l h2;have e1:(Instr.lookup t (.map (some b)) (.string k) false).run P w = .ok ((vget l k).getD z) w:=by
   rw [vget_idx];simp only [Instr.lookup,Sem.run_bind,run_underlying ht,Result.andThen,getObj,Sem.run,h1,checkKey_str hkt,Sem.run_pure];cases hI:l.findIdx? (fun p=>decide (p.1=k)) with
   | none=>
     rw [hI] at hkey
     erw [hkey]
     simp [hz,Sem.run_bind,Sem.run_pure,Sem.run,Result.andThen]
   | some j=>
     rw [hI] at hkey
     erw [hkey]
     simp [Sem.run_bind,Sem.run_pure,Sem.run,Result.andThen]
 simp only [execOp,Sem.run_bind,ha m _ hm,ha x _ hx,e1,Result.andThen];rfl
theorem e_muV {t kt et:TypeId} {m x y:Operand} {b:Nat} {k:ByteArray} {v:Value} {l:List (ByteArray×Value)} (hm:(toO m).ev ρ=some (.map (some b))) (hx:(toO x).ev ρ=some (.string k)) (hy:(toO y).ev ρ=some v) (ht:P.underlying t=some (.map kt et)) (hkt:P.underlying kt=some .string)
   (h:MapV w b l) (hk:∀ w',MapV w' b (vput l k v)→Mod (· = b) w w'→w'.heap.size=w.heap.size→K undef w'):E.wp P w ρ K (.raw ⟨d,.mapUpdate t m x y,ty,pos,af,none⟩):=by
 obtain ⟨es,clock,h1,h2,h3,h4⟩:=h;have hkey:=findKey_v (P:=P) (w:=w) hkt k es.toList l h2;have hsz:es.size=l.length:=by have:=congrArg List.length h2;simpa using this
 cases hI:l.findIdx? (fun p=>decide (p.1=k)) with
 | none=>
   rw [hI] at hkey;have e1:(Instr.mapUpdate t (.map (some b)) (.string k) v).run P w = .ok () (setBlock w b (.map (es.push { key:=.string k,val:=v,born:=clock}) (clock+1))):=by
     simp only [Instr.mapUpdate,Sem.run_bind,run_underlying ht,Result.andThen,getObj,Sem.run,h1,checkKey_str hkt,Sem.run_pure]
     erw [hkey]
     exact run_setObj_map h1 _
   refine opWp_of_skip fun a ha=>⟨_,?_,hk (setBlock w b (.map (es.push { key:=.string k,val:=v,born:=clock}) (clock+1))) ⟨_,_,heap_setBlock_same h1 _,?_,?_,?_⟩ (mod_setBlock w b _ h1) (size_setBlock w b _)⟩
   · simp only [execOp,Sem.run_bind,ha m _ hm,ha x _ hx,ha y _ hy,e1,Result.andThen];rfl
   · simp [vput,hI,h2]
   · intro e he;simp only [Array.toList_push,List.mem_append,List.mem_cons,List.not_mem_nil,or_false] at he;rcases he with he | rfl
     · exact Nat.lt_succ_of_lt (h3 e he)
     · exact Nat.lt_succ_self _
   · simp only [Array.toList_push,List.map_append,List.map_cons,List.map_nil];rw [List.nodup_append];refine ⟨h4,by simp,?_⟩;intro x hx y hy hxy;simp only [List.mem_cons,List.not_mem_nil,or_false] at hy;obtain ⟨e,he,rfl⟩:=List.mem_map.1 hx;have:=h3 e he;omega
 | some i=>
   rw [hI] at hkey;have hil:i < l.length:=by
     have:=List.findIdx?_eq_some_iff_getElem.1 hI;exact this.1
   have hie:i < es.size:=by omega
   have hki:(es[i]).key = .string k:=by
     have h5:es.toList[i]'(by simpa using hie)=es[i]:=by simp
     have h6:=congrArg (fun z=>z[i]?) h2;simp only [List.getElem?_map,List.getElem?_eq_getElem (show i < es.toList.length by simpa using hie),List.getElem?_eq_getElem hil,Option.map_some,Option.some.injEq,Prod.mk.injEq] at h6;have h7:=(List.findIdx?_eq_some_iff_getElem.1 hI).2.1;rw [← h5,h6.1];simp at h7;rw [h7]
   have hst:(Instr.keyThatStays (((es[i]?).map (·.key)).getD (.string k)) (.string k)).run P w = .ok (.string k) w:=by
     rw [Array.getElem?_eq_getElem hie,Option.map_some,Option.getD_some,hki];simp [Instr.keyThatStays,Instr.sameBits,ba_beq]
   have e1:(Instr.mapUpdate t (.map (some b)) (.string k) v).run P w = .ok () (setBlock w b (.map (es.modify i fun e=>{ e with key:=.string k,val:=v}) clock)):=by
     simp only [Instr.mapUpdate,Sem.run_bind,run_underlying ht,Result.andThen,getObj,Sem.run,h1,checkKey_str hkt,Sem.run_pure]
     erw [hkey]
     simp only [Option.map_some,Sem.run_bind,hst,Result.andThen];exact run_setObj_map h1 _
   refine opWp_of_skip fun a ha=>⟨_,?_,hk (setBlock w b (.map (es.modify i fun e=>{ e with key:=.string k,val:=v}) clock)) ⟨_,_,heap_setBlock_same h1 _,?_,?_,?_⟩ (mod_setBlock w b _ h1) (size_setBlock w b _)⟩
   · simp only [execOp,Sem.run_bind,ha m _ hm,ha x _ hx,ha y _ hy,e1,Result.andThen];rfl
   · simp only [vput,hI];apply List.ext_getElem?;intro j;have h6:=congrArg (fun z=>z[j]?) h2;simp only [List.getElem?_map] at h6 ⊢;rw [Array.toList_modify,List.getElem?_modify,List.getElem?_set];by_cases hij:i=j
     · subst hij;simp [hil,show i < es.toList.length by simpa using hie,hie]
     · rw [if_neg hij]
       simpa [hij] using h6
   · intro e he;rw [Array.toList_modify] at he;obtain ⟨j,hj,rfl⟩:=List.getElem_of_mem he;rw [List.getElem_modify];have hm:es.toList[j]'(by simpa using hj)∈es.toList:=List.getElem_mem _;have h5:=h3 _ hm
     split<;>exact h5
   · have:(es.modify i fun e=>{ e with key:=.string k,val:=v}).toList.map (·.born)=es.toList.map (·.born):=by
       apply List.ext_getElem?;intro j;rw [Array.toList_modify];simp only [List.getElem?_map,List.getElem?_modify];by_cases hij:i=j
       · subst hij;cases es.toList[i]?<;>simp
       · simp [hij]
     rw [this];exact h4
theorem e_clV {t kt et:TypeId} {at':Array TypeId} {m:Operand} {b:Nat} {l:List (ByteArray×Value)} (hat:at'[0]? = some t) (hm:(toO m).ev ρ=some (.map (some b))) (ht:P.underlying t=some (.map kt et))
   (h:MapV w b l) (hk:∀ w',MapV w' b []→Mod (· = b) w w'→w'.heap.size=w.heap.size→K (.tuple #[]) w'):E.wp P w ρ K (.raw ⟨d,.call { callee:=.builtin .clear,args:=#[m],argTypes:=at'},ty,pos,af,none⟩):=by
 obtain ⟨es,clock,h1,h2,h3,h4⟩:=h;refine opWp_of_run fun a ha=>⟨_,_,?_,hk (setBlock w b (.map #[] clock)) ⟨_,_,heap_setBlock_same h1 _,rfl,by simp,by simp⟩ (mod_setBlock w b _ h1) (size_setBlock w b _)⟩
 have a0:(#[Value.map (some b)]:Array Value)[0]? = some (.map (some b)):=rfl;have e1:(Builtin.clear_ at' ty #[.map (some b)]).run P w = .ok (.tuple #[]) (setBlock w b (.map #[] clock)):=by
   simp only [Builtin.clear_,hat,a0,Sem.run_bind,run_underlying ht,Result.andThen,getObj,Sem.run,h1,Sem.run_pure];simp only [run_setObj_map h1]
 simp only [execOp,resolve,invoke,builtin,Sem.run_bind,Sem.run_pure,Result.andThen,List.map_toArray,List.map_cons,List.map_nil,ha m _ hm]
 erw [e1]
theorem e_dlV {t kt et:TypeId} {at':Array TypeId} {m x:Operand} {b:Nat} {k:ByteArray} {l:List (ByteArray×Value)} (hat:at'[0]? = some t) (hm:(toO m).ev ρ=some (.map (some b))) (hx:(toO x).ev ρ=some (.string k)) (ht:P.underlying t=some (.map kt et)) (hkt:P.underlying kt=some (.string))
   (h:MapV w b l) (hk:∀ w',MapV w' b (vdel l k)→Mod (· = b) w w'→w'.heap.size=w.heap.size→K (.tuple #[]) w'):E.wp P w ρ K (.raw ⟨d,.call { callee:=.builtin .delete,args:=#[m,x],argTypes:=at'},ty,pos,af,none⟩):=by
 obtain ⟨es,clock,h1,h2,h3,h4⟩:=h;have hkey:=findKey_v (P:=P) (w:=w) hkt k es.toList l h2;have hsz:es.size=l.length:=by have:=congrArg List.length h2;simpa using this
 have run:∀ es',(Builtin.delete_ at' ty #[.map (some b),.string k]).run P w = .ok (.tuple #[]) (setBlock w b (.map es' clock))→∀ a,Agree ρ a→(execOp a.eval ⟨d,.call { callee:=.builtin .delete,args:=#[m,x],argTypes:=at'},ty,pos,af,none⟩).run P w = .ok (.value (.tuple #[])) (setBlock w b (.map es' clock)):=by
   intro es' he a ha;simp only [execOp,resolve,invoke,builtin,Sem.run_bind,Sem.run_pure,Result.andThen,List.map_toArray,List.map_cons,List.map_nil,ha m _ hm,ha x _ hx]
   erw [he]
 have a0:(#[Value.map (some b),.string k]:Array Value)[0]? = some (.map (some b)):=rfl;have a1:(#[Value.map (some b),.string k]:Array Value)[1]? = some (.string k):=rfl;cases hI:l.findIdx? (fun p=>decide (p.1=k)) with
 | none=>
   rw [hI] at hkey;have e1:(Builtin.delete_ at' ty #[.map (some b),.string k]).run P w = .ok (.tuple #[]) (setBlock w b (.map es clock)):=by
     simp only [Builtin.delete_,hat,a0,a1,Sem.run_bind,run_underlying ht,Result.andThen,getObj,Sem.run,h1,checkKey_str hkt,Sem.run_pure]
     erw [hkey]
     simp only [Option.map_none,Sem.run_bind,run_setObj_map h1,Result.andThen];rfl
   refine opWp_of_run fun a ha=>⟨_,_,run es e1 a ha,hk _ ⟨_,_,heap_setBlock_same h1 _,?_,h3,h4⟩ (mod_setBlock w b _ h1) (size_setBlock w b _)⟩
   simpa [vdel,hI] using h2
 | some i=>
   rw [hI] at hkey;have hil:i < l.length:=(List.findIdx?_eq_some_iff_getElem.1 hI).1;have hie:i < es.size:=by omega
   have e1:(Builtin.delete_ at' ty #[.map (some b),.string k]).run P w = .ok (.tuple #[]) (setBlock w b (.map (es.eraseIdxIfInBounds i) clock)):=by
     simp only [Builtin.delete_,hat,a0,a1,Sem.run_bind,run_underlying ht,Result.andThen,getObj,Sem.run,h1,checkKey_str hkt,Sem.run_pure]
     erw [hkey]
     simp only [Option.map_some,Sem.run_bind,run_setObj_map h1,Result.andThen];rfl
   have hel:(es.eraseIdxIfInBounds i).toList=es.toList.eraseIdx i:=by simp [Array.eraseIdxIfInBounds,hie,Array.toList_eraseIdx]
   refine opWp_of_run fun a ha=>⟨_,_,run _ e1 a ha,hk _ ⟨_,_,heap_setBlock_same h1 _,?_,?_,?_⟩ (mod_setBlock w b _ h1) (size_setBlock w b _)⟩
   · rw [hel,map_eraseIdx];simp only [vdel,hI];rw [h2,map_eraseIdx]
   · intro e he;rw [hel] at he;exact h3 e (List.mem_of_mem_eraseIdx he)
   · rw [hel,map_eraseIdx];exact h4.sublist (List.eraseIdx_sublist _ _)
end
end
section
open Go
def RowsAt (w:World) (v:Value) (sz:Nat) (rows:List (List Value)) (B:Nat→Prop):Prop:=
 ∃ a c,v = .slice a rows.length c∧(0 < rows.length→∀ ad,a=some ad→B ad.block)∧∀ i (h:i < rows.length),∃ ad,a=some ad∧rows[i].length=sz∧∀ k (hk:k < rows[i].length),w.cell? ((ad.add (i*sz)).add k)=some rows[i][k]
theorem RowsAt.mod {w w':World} {v:Value} {sz:Nat} {rows:List (List Value)} {B B' S:Nat→Prop} (h:RowsAt w v sz rows B) (hm:Mod S w w') (hd:∀ b,B b→¬ S b) (hB:∀ b,B b→B' b):RowsAt w' v sz rows B':=by
 obtain ⟨a,c,rfl,hb,h⟩:=h;refine ⟨a,c,rfl,fun h0 ad h=>hB _ (hb h0 ad h),fun i hi=>?_⟩;obtain ⟨ad,rfl,hl,hc⟩:=h i hi;refine ⟨ad,rfl,hl,fun k hk=>hm.cell (hc k hk) ?_⟩;rw [add_block,add_block];exact hd _ (hb (by omega) _ rfl)
theorem row_at {w:World} {v:Value} {sz:Nat} {rows:List (List Value)} {B:Nat→Prop} (h:RowsAt w v sz rows B) {i:Nat} (hi:i < rows.length) :
   ∃ ad c,v = .slice (some ad) rows.length c∧rows[i].length=sz∧∀ k (hk:k < rows[i].length),w.cell? ((ad.add (i*sz)).add k)=some rows[i][k]:=by
 obtain ⟨a,c,rfl,_,h⟩:=h;obtain ⟨ad,rfl,h1,h2⟩:=h i hi;exact ⟨ad,c,rfl,h1,h2⟩
theorem rows_sl {w:World} {v:Value} {sz:Nat} {rows:List (List Value)} {B:Nat→Prop} (h:RowsAt w v sz rows B):∃ a c,v = .slice a rows.length c:=by
 obtain ⟨a,c,e,_⟩:=h;exact ⟨a,c,e⟩
theorem ba_loop (a:ByteArray):∀ (n i:Nat) (r:List UInt8),a.size - i=n→ByteArray.toList.loop a i r=r.reverse++a.data.toList.drop i:=by
 have hs:a.data.toList.length=a.size:=by
   show a.data.toList.length=a.data.size;exact Array.length_toList
 intro n
 induction n with
 | zero=>
   intro i r h;rw [ByteArray.toList.loop,if_neg (by omega),List.drop_eq_nil_of_le (by omega),List.append_nil]
 | succ n ih=>
   intro i r h;have hi:i < a.data.toList.length:=by omega
   rw [ByteArray.toList.loop,if_pos (by omega),ih (i+1) _ (by omega),List.drop_eq_getElem_cons hi];have e:a.get! i=a.data.toList[i]:=by
     show a.data[i]! = _;rw [getElem!_pos a.data i (by simpa using hi)];simp
   rw [e];simp
theorem ba_toList (a:ByteArray):a.toList=a.data.toList:=by
 show ByteArray.toList.loop a 0 []=_;rw [ba_loop a _ 0 [] rfl];rfl
theorem ba_inj {a b:ByteArray} (h:a.toList=b.toList):a=b:=by
 rw [ba_toList,ba_toList] at h;cases a;cases b;rename_i x y;have:x=y:=Array.ext' h;rw [this]
theorem ba_leq (a b:ByteArray):(a.toList == b.toList)=decide (a=b):=by
 by_cases h:a=b
 · subst h;simp
 · have:a.toList≠b.toList:=fun e=>h (ba_inj e)
   simp [h,this]
theorem flat_rows {sz:Nat}:∀ (rows:List (List Value)),(∀ r∈rows,r.length=sz)→∀ (i:Nat) (h:i < rows.length) (k:Nat),k < sz→(rows.flatMap id)[i*sz+k]? = (rows[i]'h)[k]?:=by
 intro rows
 induction rows with
 | nil=>intro _ i h;simp at h
 | cons r rows ih=>
   intro hr i h k hk;have h0:=hr r (by simp);simp only [List.flatMap_cons,id];cases i with
   | zero=>rw [List.getElem?_append_left (by omega)];simp
   | succ i=>
     rw [List.getElem?_append_right (by rw [h0,Nat.add_mul];omega),h0];have e:(i+1)*sz+k - sz=i*sz+k:=by rw [Nat.add_mul];omega
     rw [e];exact ih (fun r hr'=>hr r (by simp [hr'])) i (by simpa using h) k hk
theorem own_rows {w:World} {T sz:Nat} {v:Value} {rows:List (List Value)} {fp:Option Nat} (h:OwnS w T sz v (rows.flatMap id) rows.length fp) (hr:∀ r∈rows,r.length=sz):RowsAt w v sz rows (fun b=>fp=some b):=by
 obtain ⟨h1,⟨rfl,h2,rfl⟩ | ⟨b,c,sp,rfl,rfl,h3,_⟩⟩:=h
 · refine ⟨none,0,by rw [h2],(fun _ ad e=>by cases e),fun i hi=>?_⟩;omega
 · refine ⟨some ⟨b,0,none⟩,c,rfl,(fun _ ad e=>by cases e;rfl),fun i hi=>⟨_,rfl,hr _ (List.getElem_mem hi),fun k hk=>?_⟩⟩;have hl:=hr _ (List.getElem_mem hi);have hf:=flat_rows rows hr i hi k (by omega);rw [List.getElem?_eq_getElem hk] at hf;have hlt:i*sz+k < (rows.flatMap id).length:=(List.getElem?_eq_some_iff.1 hf).1;rw [add_at,add_at,cell_of h3];simp only [Nat.zero_add,List.getElem?_toArray];rw [List.getElem?_append_left hlt];exact hf
theorem addr_add (a:Addr) (i k:Nat):(a.add i).add k=a.add (i+k):=by
 unfold Addr.add;by_cases hi:i=0
 · subst hi;simp
 · by_cases hk:k=0
   · subst hk;simp
   · have:i+k≠0:=by omega
     simp [hi,hk,this,Nat.add_assoc]
theorem flat_lenR {sz:Nat}:∀ (rows:List (List Value)),(∀ r∈rows,r.length=sz)→(rows.flatMap id).length=rows.length*sz:=by
 intro rows
 induction rows with
 | nil=>intro _;simp
 | cons r rows ih=>
   intro hr;have h0:=hr r (by simp);simp only [List.flatMap_cons,id,List.length_append,List.length_cons,ih (fun r hr'=>hr r (by simp [hr'])),h0,Nat.add_mul];omega
theorem rows_rd {w:World} {a:Option Addr} {n c sz:Nat} {rows:List (List Value)} {B:Nat→Prop} (h:RowsAt w (.slice a n c) sz rows B) (hsz:0 < sz):n=rows.length∧RdCells w a (n*sz) (rows.flatMap id)∧(a=none→n=0):=by
 obtain ⟨a',c',e,_,hx⟩:=h;simp only [Value.slice.injEq] at e;obtain ⟨rfl,rfl,rfl⟩:=e;have hr:∀ r∈rows,r.length=sz:=fun r hr=>by
   obtain ⟨i,hi,rfl⟩:=List.getElem_of_mem hr;obtain ⟨_,_,h1,_⟩:=hx i hi;exact h1
 refine ⟨rfl,⟨flat_lenR rows hr,fun ad had j v hv=>?_⟩,fun ha=>?_⟩
 · have hj:j < rows.length*sz:=by rw [← flat_lenR rows hr];exact (List.getElem?_eq_some_iff.1 hv).1
   have hi:j / sz < rows.length:=(Nat.div_lt_iff_lt_mul hsz).2 hj;have hk:j % sz < sz:=Nat.mod_lt _ hsz;have hf:=flat_rows rows hr (j / sz) hi (j % sz) hk;have e:j / sz*sz+j % sz=j:=by rw [Nat.mul_comm];exact Nat.div_add_mod j sz
   rw [e,hv] at hf;obtain ⟨ad',e1,h1,h2⟩:=hx (j / sz) hi;rw [had] at e1;cases e1;have h3:=h2 (j % sz) (by rw [h1];exact hk);rw [List.getElem?_eq_getElem (by rw [h1];exact hk)] at hf;simp only [Option.some.injEq] at hf;rw [← hf] at h3;rw [addr_add,e] at h3;exact h3
 · apply Classical.byContradiction;intro hne;obtain ⟨ad,e1,_⟩:=hx 0 (by omega);rw [ha] at e1;cases e1
theorem cell_lt {w:World} {a:Addr} {v:Value} (h:w.cell? a=some v):a.block < w.heap.size:=by
 unfold World.cell? at h;cases hb:w.heap[a.block]? with
 | none=>rw [hb] at h;cases h
 | some o=>exact lt_of_heap hb
end
end Go.W
namespace Go.Proofs.YtjfgeekjjlhbdaaGreatDoor
section
open Go Go.W
inductive Ty where
 | mk (kind:Int) (name:ByteArray) (args:List Ty)
mutual
inductive Ex where
 | mk (kind:Int) (name:ByteArray) (num:Int) (types:List Ty) (args:List Ex) (binds:List Bd) (alts:List Al)
inductive Bd where
 | mk (name:ByteArray) (type:Ty) (value:Ex)
inductive Al where
 | mk (kind:Int) (con:ByteArray) (num:Int) (vars:List ByteArray) (body:Ex)
end
structure Cn where
 name:ByteArray
 fields:List Ty
structure Dt where
 name:ByteArray
 params:List ByteArray
 cons:List Cn
structure Df where
 name:ByteArray
 params:List ByteArray
 type:Ty
 body:Ex
structure Pg where
 datas:List Dt
 defs:List Df
def Ty.kind:Ty→Int | .mk k _ _=>k
def Ty.name:Ty→ByteArray | .mk _ n _=>n
def Ty.args:Ty→List Ty | .mk _ _ l=>l
def Ex.kind:Ex→Int | .mk k _ _ _ _ _ _=>k
def Ex.name:Ex→ByteArray | .mk _ n _ _ _ _ _=>n
def Ex.num:Ex→Int | .mk _ _ m _ _ _ _=>m
def Ex.types:Ex→List Ty | .mk _ _ _ l _ _ _=>l
def Ex.args:Ex→List Ex | .mk _ _ _ _ l _ _=>l
def Ex.binds:Ex→List Bd | .mk _ _ _ _ _ l _=>l
def Ex.alts:Ex→List Al | .mk _ _ _ _ _ _ l=>l
def Bd.name:Bd→ByteArray | .mk n _ _=>n
def Bd.type:Bd→Ty | .mk _ t _=>t
def Bd.value:Bd→Ex | .mk _ _ v=>v
def Al.kind:Al→Int | .mk k _ _ _ _=>k
def Al.con:Al→ByteArray | .mk _ c _ _ _=>c
def Al.num:Al→Int | .mk _ _ n _ _=>n
def Al.vars:Al→List ByteArray | .mk _ _ _ l _=>l
def Al.body:Al→Ex | .mk _ _ _ _ e=>e
def RowsB (w:World) (v:Value) (sz:Nat) (rows:List (List Value)) (B:Nat→Prop):Prop:=RowsAt w v sz rows B∧rows.length≤1099511627776
theorem RowsB.mod {w w':World} {v:Value} {sz:Nat} {rows:List (List Value)} {B S:Nat→Prop} (h:RowsB w v sz rows B) (hm:Mod S w w') (hd:∀ b,B b→¬ S b):RowsB w' v sz rows B:=⟨h.1.mod hm hd (fun _ h=>h),h.2⟩
def EachAt {α:Type} (w:World) (v:Value) (sz:Nat) (B:Nat→Prop) (P:List Value→α→Prop) (l:List α):Prop:=
 ∃ rows,RowsB w v sz rows B∧rows.length=l.length∧∀ (i:Nat) (r:List Value) (a:α),rows[i]? = some r→l[i]? = some a→P r a
inductive TyAt (w:World) (B:Nat→Prop):List Value→Ty→Prop
 | mk {k:Int} {n:ByteArray} {args:List Ty} {v:Value} {rows:List (List Value)} (hr:RowsB w v 3 rows B) (hl:rows.length=args.length)
     (he:∀ (i:Nat) (r:List Value) (t:Ty),rows[i]? = some r→args[i]? = some t→TyAt w B r t):TyAt w B [I k,.string n,v] (.mk k n args)
abbrev Nm (s:ByteArray):Prop:=s.size < 4611686018427387904
def StrAt (cs:List Value) (s:ByteArray):Prop:=cs=[.string s]∧Nm s
def CapOk:Value→Prop
 | .slice _ n c=>n≤c
 | _=>False
inductive ExAt (w:World) (B:Nat→Prop):List Value→Ex→Prop
 | mk {k m:Int} {n:ByteArray} {types:List Ty} {args:List Ex} {binds:List Bd} {alts:List Al} {vt va vb vl:Value} {rt ra rb rl:List (List Value)}
     (ht:RowsB w vt 3 rt B) (htl:rt.length=types.length) (hte:∀ (i:Nat) (r:List Value) (t:Ty),rt[i]? = some r→types[i]? = some t→TyAt w B r t)
     (ha:RowsB w va 7 ra B) (hal:ra.length=args.length) (hae:∀ (i:Nat) (r:List Value) (e:Ex),ra[i]? = some r→args[i]? = some e→ExAt w B r e)
     (hb:RowsB w vb 11 rb B) (hbl:rb.length=binds.length) (hbn:∀ (i:Nat) (r:List Value) (b:Bd),rb[i]? = some r→binds[i]? = some b→(r.length=11∧Nm b.name)∧r[0]? = some (.string b.name)∧TyAt w B ((r.drop 1).take 3) b.type)
     (hbe:∀ (i:Nat) (r:List Value) (b:Bd),rb[i]? = some r→binds[i]? = some b→ExAt w B (r.drop 4) b.value)
     (hl:RowsB w vl 11 rl B) (hll:rl.length=alts.length)
     (hln:∀ (i:Nat) (r:List Value) (a:Al),rl[i]? = some r→alts[i]? = some a→∃ vv,r.take 4=[I a.kind,.string a.con,I a.num,vv]∧r.length=11∧EachAt w vv 1 B StrAt a.vars)
     (hle:∀ (i:Nat) (r:List Value) (a:Al),rl[i]? = some r→alts[i]? = some a→ExAt w B (r.drop 4) a.body) (hcap:CapOk vl) :
     ExAt w B [I k,.string n,I m,vt,va,vb,vl] (.mk k n m types args binds alts)
theorem EachAt.mod {α:Type} {w w':World} {v:Value} {sz:Nat} {B S:Nat→Prop} {P P':List Value→α→Prop} {l:List α} (h:EachAt w v sz B P l) (hm:Mod S w w') (hd:∀ b,B b→¬ S b) (hp:∀ r a,P r a→P' r a):EachAt w' v sz B P' l:=by
 obtain ⟨rows,h1,h2,h3⟩:=h;exact ⟨rows,h1.mod hm hd,h2,fun i r a hr ha=>hp _ _ (h3 i r a hr ha)⟩
section
variable {w w':World} {B S:Nat→Prop} {cs:List Value}
theorem TyAt.mod {t:Ty} (h:TyAt w B cs t) (hm:Mod S w w') (hd:∀ b,B b→¬ S b):TyAt w' B cs t:=by
 induction h with
 | mk hr hl he ih=>exact .mk (hr.mod hm hd) hl (fun i r t a b=>ih i r t a b)
theorem ExAt.mod {e:Ex} (h:ExAt w B cs e) (hm:Mod S w w') (hd:∀ b,B b→¬ S b):ExAt w' B cs e:=by
 induction h with
 | mk ht htl hte ha hal hae hb hbl hbn hbe hl hll hln hle hcap iha ihb ihl=>
   refine .mk (ht.mod hm hd) htl (fun i r t a b=>(hte i r t a b).mod hm hd) (ha.mod hm hd) hal iha (hb.mod hm hd) hbl (fun i r b x y=>?_) ihb (hl.mod hm hd) hll (fun i r a x y=>?_) ihl hcap
   · obtain ⟨h1,h2,h3⟩:=hbn i r b x y;exact ⟨h1,h2,h3.mod hm hd⟩
   · obtain ⟨vv,h1,h2,h3⟩:=hln i r a x y;exact ⟨vv,h1,h2,h3.mod hm hd (fun _ _ h=>h)⟩
theorem TyAt.cells {t:Ty} (h:TyAt w B cs t):∃ v,cs=[I t.kind,.string t.name,v]∧EachAt w v 3 B (TyAt w B) t.args:=by
 cases h with
 | mk hr hl he=>exact ⟨_,rfl,_,hr,hl,he⟩
theorem ExAt.cells {e:Ex} (h:ExAt w B cs e):∃ vt va vb vl,cs=[I e.kind,.string e.name,I e.num,vt,va,vb,vl]∧EachAt w vt 3 B (TyAt w B) e.types∧EachAt w va 7 B (ExAt w B) e.args ∧
   EachAt w vb 11 B (fun r b=>(r.length=11∧Nm b.name)∧r[0]? = some (.string b.name)∧TyAt w B ((r.drop 1).take 3) b.type∧ExAt w B (r.drop 4) b.value) e.binds ∧
   EachAt w vl 11 B (fun r a=>r.length=11∧(∃ vv,r.take 4=[I a.kind,.string a.con,I a.num,vv]∧EachAt w vv 1 B StrAt a.vars)∧ExAt w B (r.drop 4) a.body) e.alts:=by
 cases h with
 | mk ht htl hte ha hal hae hb hbl hbn hbe hl hll hln hle hcap=>
   refine ⟨_,_,_,_,rfl,⟨_,ht,htl,hte⟩,⟨_,ha,hal,hae⟩,⟨_,hb,hbl,fun i r b x y=>?_⟩,⟨_,hl,hll,fun i r a x y=>?_⟩⟩
   · obtain ⟨h1,h2,h3⟩:=hbn i r b x y;exact ⟨h1,h2,h3,hbe i r b x y⟩
   · obtain ⟨vv,h1,h2,h3⟩:=hln i r a x y;exact ⟨h2,⟨vv,h1,h3⟩,hle i r a x y⟩
theorem ExAt.cap {e:Ex} (h:ExAt w B cs e):∃ vl,cs[6]? = some vl∧CapOk vl:=by
 cases h with
 | mk ht htl hte ha hal hae hb hbl hbn hbe hl hll hln hle hcap=>exact ⟨_,rfl,hcap⟩
end
end
section
open Go Go.W
theorem cellsFrom_rows {w:World} {a:Addr}:∀ (n i:Nat) (acc r:List Value),r.length=n→(∀ k (hk:k < r.length),w.cell? (a.add (i+k))=some r[k])→cellsFrom w a i n acc.toArray=some (acc++r).toArray:=by
 intro n
 induction n with
 | zero=>intro i acc r hl _;rw [List.eq_nil_of_length_eq_zero hl];simp [cellsFrom]
 | succ n ih=>
   intro i acc r hl h
   match r,hl with
   | x::r,hl=>
     have h0:=h 0 (by simp);rw [Nat.add_zero] at h0;simp only [List.getElem_cons_zero] at h0;have:=ih (i+1) (acc++[x]) r (by simpa using hl) (fun k hk=>by
       have:=h (k+1) (by simp;omega);rw [show i+(k+1)=i+1+k by omega] at this
       simpa using this)
     simp only [cellsFrom,h0];rw [show acc.toArray.push x=(acc++[x]).toArray by simp,this];simp
theorem ln_cells {w:World} {a:Addr} {n:Nat} {r:List Value} (hl:r.length=n) (h:∀ k (hk:k < r.length),w.cell? (a.add k)=some r[k]):vLN w n (.pointer (some a))=some (.agg r.toArray):=by
 unfold vLN;have:=cellsFrom_rows n 0 [] r hl (fun k hk=>by rw [Nat.zero_add];exact h k hk);simp only [List.nil_append] at this;show (cellsFrom w a 0 n #[]).map Value.agg=_;rw [this];rfl
section
variable {w w':World} {B S:Nat→Prop} {v:Value} {α:Type} {sz:Nat} {P:List Value→α→Prop} {l:List α}
theorem each_sl (h:EachAt w v sz B P l):∃ a c,v = .slice a l.length c:=by
 obtain ⟨rows,⟨⟨a,c,e,_⟩,_⟩,h2,_⟩:=h;exact ⟨a,c,by rw [e,h2]⟩
theorem each_len (h:EachAt w v sz B P l):l.length < 9223372036854775807:=by
 obtain ⟨rows,h1,h2,_⟩:=h;have:=h1.2;omega
theorem each_at (h:EachAt w v sz B P l) {i:Nat} (hi:i < l.length) :
   ∃ ad c r,v = .slice (some ad) l.length c∧P r l[i]∧r.length=sz∧vLN w sz (.pointer (some (ad.add (i*sz))))=some (.agg r.toArray)∧∀ k (hk:k < r.length),w.cell? ((ad.add (i*sz)).add k)=some r[k]:=by
 obtain ⟨rows,h1,h2,h3⟩:=h;obtain ⟨ad,c,e,k1,k2⟩:=row_at h1.1 (i:=i) (by omega);exact ⟨ad,c,rows[i]'(by omega),by rw [e,h2],h3 i _ _ (List.getElem?_eq_getElem (by omega)) (List.getElem?_eq_getElem hi),k1,ln_cells k1 k2,k2⟩
theorem each_nil (w:World) (sz:Nat) (B:Nat→Prop) (P:List Value→α→Prop):EachAt w (.slice none 0 0) sz B P []:=
 ⟨[],⟨⟨none,0,rfl,(fun _ ad e=>by cases e),fun i hi=>absurd hi (by simp)⟩,by simp⟩,rfl,fun i r a hr=>by simp at hr⟩
def CnAt (w:World) (B:Nat→Prop) (cs:List Value) (k:Cn):Prop:=∃ vf,cs=[.string k.name,vf]∧EachAt w vf 3 B (TyAt w B) k.fields∧Nm k.name
def DtAt (w:World) (B:Nat→Prop) (cs:List Value) (d:Dt):Prop:=∃ vp vc,cs=[.string d.name,vp,vc]∧EachAt w vp 1 B StrAt d.params∧EachAt w vc 2 B (CnAt w B) d.cons
def DfAt (w:World) (B:Nat→Prop) (cs:List Value) (d:Df):Prop:=∃ vp tc bc,cs = .string d.name::vp::(tc++bc)∧tc.length=3∧bc.length=7∧EachAt w vp 1 B StrAt d.params∧TyAt w B tc d.type∧ExAt w B bc d.body∧Nm d.name
def PgAt (w:World) (B:Nat→Prop) (cs:List Value) (p:Pg):Prop:=∃ vd vf,cs=[vd,vf]∧EachAt w vd 3 B (DtAt w B) p.datas∧EachAt w vf 12 B (DfAt w B) p.defs
theorem CnAt.mod {cs:List Value} {k:Cn} (h:CnAt w B cs k) (hm:Mod S w w') (hd:∀ b,B b→¬ S b):CnAt w' B cs k:=by
 obtain ⟨vf,e,h,hn⟩:=h;exact ⟨vf,e,h.mod hm hd (fun _ _ h=>h.mod hm hd),hn⟩
theorem DtAt.mod {cs:List Value} {d:Dt} (h:DtAt w B cs d) (hm:Mod S w w') (hd:∀ b,B b→¬ S b):DtAt w' B cs d:=by
 obtain ⟨vp,vc,e,h1,h2⟩:=h;exact ⟨vp,vc,e,h1.mod hm hd (fun _ _ h=>h),h2.mod hm hd (fun _ _ h=>h.mod hm hd)⟩
theorem DfAt.mod {cs:List Value} {d:Df} (h:DfAt w B cs d) (hm:Mod S w w') (hd:∀ b,B b→¬ S b):DfAt w' B cs d:=by
 obtain ⟨vp,tc,bc,e,l1,l2,h1,h2,h3,hn⟩:=h;exact ⟨vp,tc,bc,e,l1,l2,h1.mod hm hd (fun _ _ h=>h),h2.mod hm hd,h3.mod hm hd,hn⟩
theorem PgAt.mod {cs:List Value} {p:Pg} (h:PgAt w B cs p) (hm:Mod S w w') (hd:∀ b,B b→¬ S b):PgAt w' B cs p:=by
 obtain ⟨vd,vf,e,h1,h2⟩:=h;exact ⟨vd,vf,e,h1.mod hm hd (fun _ _ h=>h.mod hm hd),h2.mod hm hd (fun _ _ h=>h.mod hm hd)⟩
theorem TyAt.len {cs:List Value} {t:Ty} (h:TyAt w B cs t):cs.length=3:=by
 obtain ⟨_,rfl,_⟩:=h.cells;rfl
theorem ExAt.len {cs:List Value} {e:Ex} (h:ExAt w B cs e):cs.length=7:=by
 obtain ⟨_,_,_,_,rfl,_⟩:=h.cells;rfl
end
end
end Go.Proofs.YtjfgeekjjlhbdaaGreatDoor
namespace Go.W
section
open Go
abbrev ptr (b:Nat):Value:=.pointer (some ⟨b,0,none⟩)
theorem nof {B:Nat→Prop}:∀ b,B b→¬ (fun _:Nat=>False) b:=fun _ _ h=>h
section
variable {P:Program} {N:Nat} {w:World} {ρ:Env}
theorem s_new {n T:Nat} {z:Value} {x y:O} {ρ':Value→Env} {K:Value→Value→World→Prop} {vs:List Value} (hx:x.ev (ρ' (ptr w.heap.size))=some (.agg vs.toArray)) (hn:vs.length=n) (h1:∀ u∈vs,u.oneCell'=true)
   (hk:∀ w',w'.heap[w.heap.size]? = some (.cells vs.toArray T (0,0))→Mod (fun _=>False) w w'→w'.heap.size=w.heap.size+1→K (ptr w.heap.size) undef w')
   (hy:y.ev (ρ' (ptr w.heap.size))=some (ptr w.heap.size):=by rfl) (hz:z.cells.size=n:=by rfl) :
   E.wp P w ρ (fun v w'=>E.wp P w' (ρ' v) (K v) (.st n y x)) (.al T z):=by
 refine e_al ?_;intro w1 hb hm hs;refine e_sta (cs:=z.cells.toList) hy hx (by simpa using hb) hn (by simpa using hz) h1 ?_;intro w2 hb2 hm2 hs2;exact hk w2 hb2 (hm.step hm2 (fun x hx hl=>by subst hx;omega)) (by omega)
theorem ln_blk {b T n:Nat} {cs:List Value} {fz:Nat×Nat} (h:w.heap[b]? = some (.cells cs.toArray T fz)) (hn:cs.length=n):vLN w n (.pointer (some ⟨b,0,none⟩))=some (.agg cs.toArray):=by
 have:=ln_of (off:=0) (n:=n) h (by omega);rw [List.drop_zero,List.take_of_length_le (by omega)] at this;exact this
theorem get_keep_mem {ρ:Env} {c:Nat} {v:Value} (hv:ρ.get c=some v):∀ {kp:List Nat},c∈kp→(ρ.keep kp).get c=some v:=by
 intro kp
 induction kp with
 | nil=>intro h;cases h
 | cons t ts ih=>
   intro h;rw [keep_cons];by_cases e:t=c
   · subst e;rw [hv,keepC_s,get_cons,if_pos rfl]
   · have h2:=ih ((List.mem_cons.1 h).resolve_left (Ne.symm e));cases hr:ρ.get t with
     | none=>rw [keepC_n];exact h2
     | some u=>rw [keepC_s,get_cons,if_neg e];exact h2
theorem ir_range {c i n x id id2:Nat} {kp1 kp2:List Nat} {body:IR} {Q:Post} (len:Nat) (Inv:Nat→Env→World→Prop) (h0:Inv 0 ρ w) (hlen:len < 9223372036854775807)
   (hg:∀ k ρ w,Inv k ρ w→ρ.get i=some (.int .i64 k)∧ρ.get n=some (.int .i64 len)∧k≤len)
   (hb:∀ k ρ w,Inv k ρ w→k < len→irwp P N body (blkQ id2 (fun e ρ' w'=>match e with
     | .normal=>ρ'.get i=some (.int .i64 k)∧Inv (k+1) (Env.keep ((i,.int .i64 ((k+1:Nat):Int))::(x,.int .i64 ((k+1:Nat):Int))::ρ') kp2) w'
     | e=>Q e ρ' w')) (Env.keep ((c,.bool true)::ρ) kp1) w)
   (hc:c∈kp1)
   (he:∀ ρ w,Inv len ρ w→Q (.exit id) (Env.keep ((c,.bool false)::ρ) kp1) w) :
   irwp P N (.loop (.seq (.reg false [.r (some c) (.bi .lss (.t i) (.t n))] kp1) (.seq (.cond (.t c) .skip (.exit id)) (.seq (.block id2 body) (.reg false [.r (some x) (.bi .add (.t i) (.c (.int .i64 1))),.r (some i) (.mv (.t x))] kp2))))) Q ρ w:=by
 refine ir_loop (fun z ρ w=>∃ k,z=len - k∧Inv k ρ w) len ⟨0,rfl,h0⟩ ?_;rintro z ρ w ⟨k,rfl,hi⟩;obtain ⟨g1,g2,g3⟩:=hg k ρ w hi;have ev:(R.bi .lss (.t i) (.t n)).ev w ρ=some (.bool (decide ((k:Int) < len))):=by
   simp [R.ev,O.ev,g1,g2,vBi,vInt]
 refine ⟨_,ev,?_⟩;refine ⟨decide ((k:Int) < len),get_keep_mem (by simp [Env.put,Env.get]) hc,fun ht=>?_,fun hf=>?_⟩
 · have hlt:k < len:=by simpa using ht
   rw [ht];refine irwp_mono body _ _ ?_ _ _ (hb k ρ w hi hlt);have hend:∀ (ρ':Env) (w':World),ρ'.get i=some (.int .i64 k)∧Inv (k+1) (Env.keep ((i,.int .i64 ((k+1:Nat):Int))::(x,.int .i64 ((k+1:Nat):Int))::ρ') kp2) w' →
       irwp P N (.reg false [.r (some x) (.bi .add (.t i) (.c (.int .i64 1))),.r (some i) (.mv (.t x))] kp2) (thenQ (fun ρ' w'=>∃ m,m < len - k∧∃ k,m=len - k∧Inv k ρ' w') Q) ρ' w':=by
     rintro ρ' w' ⟨h1,h2⟩;have ev:(R.bi .add (.t i) (.c (.int .i64 1))).ev w' ρ'=some (.int .i64 ((k+1:Nat):Int)):=by
       have:IntKind.i64.wrap ((k:Int)+1)=((k+1:Nat):Int):=by rw [wrap_in (by omega) (by omega)];omega
       simp [R.ev,O.ev,h1,vBi,vInt,this]
     refine ⟨_,ev,_,?_,len - (k+1),by omega,k+1,rfl,h2⟩;simp [R.ev,O.ev,Env.put,Env.get]
   intro e ρ' w' h;cases e with
   | normal=>exact hend ρ' w' h
   | exit id'=>
     simp only [blkQ] at h ⊢;by_cases hid:id'=id2
     · rw [if_pos hid] at h ⊢;exact hend ρ' w' h
     · rw [if_neg hid] at h ⊢;exact h
   | ret=>exact h
   | _=>exact h
 · have:k=len:=by have:=of_decide_eq_false hf;omega
   subst this;rw [hf];exact he ρ w hi
end
end
end Go.W
namespace Go.Proofs.YtjfgeekjjlhbdaaGreatDoor
section
open Go Go.W
theorem Ty.ind {P:Ty→Prop} (h:∀ t:Ty,(∀ u∈t.args,P u)→P t):∀ t,P t
 | .mk k n l=>h _ (fun u hu=>Ty.ind h u)
termination_by t=>SizeOf.sizeOf t
decreasing_by
 simp only [Ty.args] at hu;have:=List.sizeOf_lt_of_mem hu;simp only [Ty.mk.sizeOf_spec];omega
theorem Ex.ind {P:Ex→Prop} (h:∀ e:Ex,(∀ u∈e.args,P u)→(∀ b∈e.binds,P b.value)→(∀ a∈e.alts,P a.body)→P e):∀ e,P e
 | .mk k n m ts xs bs al=>h _ (fun u hu=>Ex.ind h u) (fun b hb=>Ex.ind h b.value) (fun a ha=>Ex.ind h a.body)
termination_by e=>SizeOf.sizeOf e
decreasing_by
 · simp only [Ex.args] at hu;have:=List.sizeOf_lt_of_mem hu;simp only [Ex.mk.sizeOf_spec];omega
 · simp only [Ex.binds] at hb;have:=List.sizeOf_lt_of_mem hb;cases b;simp only [Ex.mk.sizeOf_spec,Bd.mk.sizeOf_spec,Bd.value] at *;omega
 · simp only [Ex.alts] at ha;have:=List.sizeOf_lt_of_mem ha;cases a;simp only [Ex.mk.sizeOf_spec,Al.mk.sizeOf_spec,Al.body] at *;omega
def BdAt (w:World) (B:Nat→Prop) (r:List Value) (b:Bd):Prop:=∃ tc ec,r = .string b.name::(tc++ec)∧TyAt w B tc b.type∧ExAt w B ec b.value∧Nm b.name
def AlAt (w:World) (B:Nat→Prop) (r:List Value) (a:Al):Prop:=∃ vv ec,r=I a.kind :: .string a.con::I a.num::vv::ec∧EachAt w vv 1 B StrAt a.vars∧ExAt w B ec a.body
section
variable {w w':World} {B S:Nat→Prop} {cs:List Value}
theorem EachAt.imp {α:Type} {v:Value} {sz:Nat} {P P':List Value→α→Prop} {l:List α} (h:EachAt w v sz B P l) (hp:∀ r a,P r a→P' r a):EachAt w v sz B P' l:=by
 obtain ⟨rows,h1,h2,h3⟩:=h;exact ⟨rows,h1,h2,fun i r a hr ha=>hp _ _ (h3 i r a hr ha)⟩
theorem ExAt.parts {e:Ex} (h:ExAt w B cs e):∃ vt va vb vl,cs=[I e.kind,.string e.name,I e.num,vt,va,vb,vl]∧EachAt w vt 3 B (TyAt w B) e.types∧EachAt w va 7 B (ExAt w B) e.args ∧
   EachAt w vb 11 B (BdAt w B) e.binds∧EachAt w vl 11 B (AlAt w B) e.alts:=by
 obtain ⟨vt,va,vb,vl,h0,h1,h2,h3,h4⟩:=h.cells;refine ⟨vt,va,vb,vl,h0,h1,h2,h3.imp ?_,h4.imp ?_⟩
 · rintro r b ⟨⟨hl,hb⟩,hn,ht,he⟩;refine ⟨(r.drop 1).take 3,r.drop 4,?_,ht,he,hb⟩
   match r,hl with
   | x::r,hl=>simp only [List.getElem?_cons_zero,Option.some.injEq] at hn;subst hn;simp [← List.drop_drop]
 · rintro r a ⟨hl,⟨vv,hn,hv⟩,he⟩;refine ⟨vv,r.drop 4,?_,hv,he⟩
   conv=>lhs;rw [← List.take_append_drop 4 r,hn]
   rfl
theorem BdAt.mod {b:Bd} (h:BdAt w B cs b) (hm:Mod S w w') (hd:∀ b,B b→¬ S b):BdAt w' B cs b:=by
 obtain ⟨tc,ec,e,h1,h2,hn⟩:=h;exact ⟨tc,ec,e,h1.mod hm hd,h2.mod hm hd,hn⟩
theorem AlAt.mod {a:Al} (h:AlAt w B cs a) (hm:Mod S w w') (hd:∀ b,B b→¬ S b):AlAt w' B cs a:=by
 obtain ⟨vv,ec,e,h1,h2⟩:=h;exact ⟨vv,ec,e,h1.mod hm hd (fun _ _ h=>h),h2.mod hm hd⟩
theorem one_nil:∀ u∈([]:List Value),u.oneCell'=true:=fun _ h=>nomatch h
theorem one_cons {v:Value} {l:List Value} (h:v.oneCell'=true) (hl:∀ u∈l,u.oneCell'=true):∀ u∈v::l,u.oneCell'=true:=List.forall_mem_cons.2 ⟨h,hl⟩
theorem one_app {k l:List Value} (h:∀ u∈k,u.oneCell'=true) (hl:∀ u∈l,u.oneCell'=true):∀ u∈k++l,u.oneCell'=true:=List.forall_mem_append.2 ⟨h,hl⟩
theorem each_one {α:Type} {v:Value} {sz:Nat} {P:List Value→α→Prop} {l:List α} (h:EachAt w v sz B P l):v.oneCell'=true:=by
 obtain ⟨a,c,rfl⟩:=each_sl h;rfl
theorem TyAt.one {t:Ty} (h:TyAt w B cs t):∀ u∈cs,u.oneCell'=true:=by
 obtain ⟨v,rfl,h1⟩:=h.cells;exact one_cons rfl (one_cons rfl (one_cons (each_one h1) one_nil))
theorem ExAt.one {e:Ex} (h:ExAt w B cs e):∀ u∈cs,u.oneCell'=true:=by
 obtain ⟨vt,va,vb,vl,rfl,h1,h2,h3,h4⟩:=h.parts;exact one_cons rfl (one_cons rfl (one_cons rfl (one_cons (each_one h1) (one_cons (each_one h2) (one_cons (each_one h3) (one_cons (each_one h4) one_nil))))))
theorem BdAt.one {b:Bd} (h:BdAt w B cs b):∀ u∈cs,u.oneCell'=true:=by
 obtain ⟨tc,ec,rfl,h1,h2,_⟩:=h;exact one_cons rfl (one_app h1.one h2.one)
theorem AlAt.one {a:Al} (h:AlAt w B cs a):∀ u∈cs,u.oneCell'=true:=by
 obtain ⟨vv,ec,rfl,h1,h2⟩:=h;exact one_cons rfl (one_cons rfl (one_cons rfl (one_cons (each_one h1) h2.one)))
theorem CnAt.one {k:Cn} (h:CnAt w B cs k):∀ u∈cs,u.oneCell'=true:=by
 obtain ⟨vf,rfl,h1,_⟩:=h;exact one_cons rfl (one_cons (each_one h1) one_nil)
theorem DtAt.one {d:Dt} (h:DtAt w B cs d):∀ u∈cs,u.oneCell'=true:=by
 obtain ⟨vp,vc,rfl,h1,h2⟩:=h;exact one_cons rfl (one_cons (each_one h1) (one_cons (each_one h2) one_nil))
theorem DfAt.one {d:Df} (h:DfAt w B cs d):∀ u∈cs,u.oneCell'=true:=by
 obtain ⟨vp,tc,bc,rfl,_,_,h1,h2,h3,_⟩:=h;exact one_cons rfl (one_cons (each_one h1) (one_app h2.one h3.one))
end
end
section
open Go Go.W
abbrev Wr (n:Int):Int:=IntKind.i64.wrap n
abbrev mx (n d:Int):Int:=if d > n then d else n
mutual
def Ty.size:Ty→Int
 | .mk _ _ l=>tysSize l 1
def tysSize:List Ty→Int→Int
 | [],n=>n
 | t::l,n=>tysSize l (Wr (n+t.size))
end
mutual
def Ty.nodes:Ty→Int
 | .mk _ _ l=>min (tysNodes l 1) 501
def tysNodes:List Ty→Int→Int
 | [],n=>n
 | t::l,n=>if n > 500 then n else tysNodes l (Wr (n+t.nodes))
end
mutual
def Ex.size:Ex→Int
 | .mk _ _ _ ts xs bs al=>alsSize al (bdsSize bs (exsSize xs (Wr (1+tysSize ts 0))))
def exsSize:List Ex→Int→Int
 | [],n=>n
 | e::l,n=>exsSize l (Wr (n+e.size))
def bdsSize:List Bd→Int→Int
 | [],n=>n
 | .mk _ t v::l,n=>bdsSize l (Wr (n+Wr (Wr (1+t.size)+v.size)))
def alsSize:List Al→Int→Int
 | [],n=>n
 | .mk _ _ _ vs b::l,n=>alsSize l (Wr (n+Wr (Wr (1+vs.length)+b.size)))
end
mutual
def Ex.deep:Ex→Int
 | .mk _ _ _ _ xs bs al=>Wr (alsDeep al (bdsDeep bs (exsDeep xs 0))+1)
def exsDeep:List Ex→Int→Int
 | [],n=>n
 | e::l,n=>exsDeep l (mx n e.deep)
def bdsDeep:List Bd→Int→Int
 | [],n=>n
 | .mk _ _ v::l,n=>bdsDeep l (mx n v.deep)
def alsDeep:List Al→Int→Int
 | [],n=>n
 | .mk _ _ _ _ b::l,n=>alsDeep l (mx n b.deep)
end
def consSize:List Cn→Int→Int
 | [],n=>n
 | k::l,n=>consSize l (Wr (n+Wr (1+tysSize k.fields 0)))
def dtsSize:List Dt→Int→Int
 | [],n=>n
 | d::l,n=>dtsSize l (consSize d.cons (Wr (n+1)))
def dfsSize:List Df→Int→Int
 | [],n=>n
 | d::l,n=>dfsSize l (Wr (n+Wr (Wr (1+d.type.size)+d.body.size)))
def Pg.size (p:Pg):Int:=dfsSize p.defs (dtsSize p.datas 0)
theorem Ty.size_eq (t:Ty):t.size=tysSize t.args 1:=by cases t;rw [Ty.size];rfl
theorem Ty.nodes_eq (t:Ty):t.nodes=min (tysNodes t.args 1) 501:=by cases t;rw [Ty.nodes];rfl
theorem Ex.size_eq (e:Ex):e.size=alsSize e.alts (bdsSize e.binds (exsSize e.args (Wr (1+tysSize e.types 0)))):=by cases e;rw [Ex.size];rfl
theorem Ex.deep_eq (e:Ex):e.deep=Wr (alsDeep e.alts (bdsDeep e.binds (exsDeep e.args 0))+1):=by cases e;rw [Ex.deep];rfl
section
variable {i:Nat} (n:Int)
theorem tysSize_at {l:List Ty} (hi:i < l.length):tysSize (l.drop i) n=tysSize (l.drop (i+1)) (Wr (n+l[i].size)):=by rw [List.drop_eq_getElem_cons hi,tysSize]
theorem tysNodes_at {l:List Ty} (hi:i < l.length):tysNodes (l.drop i) n=if n > 500 then n else tysNodes (l.drop (i+1)) (Wr (n+l[i].nodes)):=by rw [List.drop_eq_getElem_cons hi,tysNodes]
theorem exsSize_at {l:List Ex} (hi:i < l.length):exsSize (l.drop i) n=exsSize (l.drop (i+1)) (Wr (n+l[i].size)):=by rw [List.drop_eq_getElem_cons hi,exsSize]
theorem bdsSize_at {l:List Bd} (hi:i < l.length):bdsSize (l.drop i) n=bdsSize (l.drop (i+1)) (Wr (n+Wr (Wr (1+l[i].type.size)+l[i].value.size))):=by
 rw [List.drop_eq_getElem_cons hi];cases l[i];rw [bdsSize];rfl
theorem alsSize_at {l:List Al} (hi:i < l.length):alsSize (l.drop i) n=alsSize (l.drop (i+1)) (Wr (n+Wr (Wr (1+l[i].vars.length)+l[i].body.size))):=by
 rw [List.drop_eq_getElem_cons hi];cases l[i];rw [alsSize];rfl
theorem exsDeep_at {l:List Ex} (hi:i < l.length):exsDeep (l.drop i) n=exsDeep (l.drop (i+1)) (mx n l[i].deep):=by rw [List.drop_eq_getElem_cons hi,exsDeep]
theorem bdsDeep_at {l:List Bd} (hi:i < l.length):bdsDeep (l.drop i) n=bdsDeep (l.drop (i+1)) (mx n l[i].value.deep):=by
 rw [List.drop_eq_getElem_cons hi];cases l[i];rw [bdsDeep];rfl
theorem alsDeep_at {l:List Al} (hi:i < l.length):alsDeep (l.drop i) n=alsDeep (l.drop (i+1)) (mx n l[i].body.deep):=by
 rw [List.drop_eq_getElem_cons hi];cases l[i];rw [alsDeep];rfl
theorem consSize_at {l:List Cn} (hi:i < l.length):consSize (l.drop i) n=consSize (l.drop (i+1)) (Wr (n+Wr (1+tysSize l[i].fields 0))):=by rw [List.drop_eq_getElem_cons hi,consSize]
theorem dtsSize_at {l:List Dt} (hi:i < l.length):dtsSize (l.drop i) n=dtsSize (l.drop (i+1)) (consSize l[i].cons (Wr (n+1))):=by rw [List.drop_eq_getElem_cons hi,dtsSize]
theorem dfsSize_at {l:List Df} (hi:i < l.length):dfsSize (l.drop i) n=dfsSize (l.drop (i+1)) (Wr (n+Wr (Wr (1+l[i].type.size)+l[i].body.size))):=by rw [List.drop_eq_getElem_cons hi,dfsSize]
end
end
end Go.Proofs.YtjfgeekjjlhbdaaGreatDoor
namespace Go.W
section
open Go
variable {dl:List Deferred} {P:Program} {N:Nat} {ops:Array Oper}
def noDef (o:Oper):Bool:=match o.op with
 | .defer _=>false
 | _=>true
theorem noDef_spec {o:Oper} (h:noDef o=true):∀ c,o.op≠.defer c:=by
 intro c hc;simp [noDef,hc] at h
theorem rows_in {l n:Nat} {row:String} {args:Array Value} {w:World} {R:Value→World→Prop} (h:Rows P row args w R):RowsIn (Fence.wide.inRound l) n P row args w R:=by
 intro c cs _;obtain ⟨v,w',h1,h2⟩:=h c cs;exact ⟨v,w',h1,stepsIn_wide.2 h2⟩
theorem upon_in {l n:Nat} {o:Oper} {a:Act} {K:Act→World→Prop} {Q:Exit→Act→World→Prop} {r:Result Next} (h:o.upon P a K NoQ r):o.uponIn (Fence.wide.inRound l) n P a K Q r:=by
 cases r with
 | ok x w'=>
   cases x<;>simp only [Oper.upon] at h<;>first
     | exact h
     | exact ⟨fun hh=>(by cases hh),(CallsIn.inRound l (callsIn_wide.2 h)).mono (fun e w'' he=>by
         cases e with
         | returned v=>exact he
         | panicked c=>exact False.elim he
         | outgrown=>obtain ⟨_,_,hf⟩:=he;exact False.elim hf)⟩
     | exact ⟨fun hh=>(by cases hh),rows_in h⟩
     | exact False.elim h
 | halt x w'=>cases x<;>simp only [Oper.upon] at h<;>exact False.elim h
theorem oper_in {l n:Nat} {o:Oper} {a:Act} {w:World} {K:Act→World→Prop} {Q:Exit→Act→World→Prop} (hd:noDef o=true) (h:o.wp P a w K NoQ):o.wpIn (Fence.wide.inRound l) n P a w K Q:=
 ⟨fun _ _=>trivial,by rw [Oper.semAt_eq _ _ _ (noDef_spec hd)];exact upon_in h⟩
theorem gList_in {l n:Nat} {G:Act→World→Prop} {Q:Exit→Act→World→Prop} (hQ:∀ a w,G a w→Q .normal a w):∀ (L:List Oper) (a:Act) (w:World),L.all noDef=true→gList P ops G L a w→wpListIn (Fence.wide.inRound l) n P ops Q L a w
 | [],a,w,_,h=>hQ a w h
 | o::L,a,w,hd,h=>by
   simp only [List.all_cons,Bool.and_eq_true] at hd;unfold gList at h;unfold wpListIn
   split
   · rename_i hw;rw [if_pos hw] at h;exact oper_in hd.1 (Oper.wp_mono (fun a w hh=>gList_in hQ L a w hd.2 hh) h)
   · rename_i hw;rw [if_neg hw] at h;exact ⟨fun _ _=>trivial,gList_in hQ L _ _ hd.2 h⟩
theorem wpAnyIn_of_B {l n:Nat} {B:Nat→Nat→Prop} {Q:Act→World→Prop} {Q':Exit→Act→World→Prop} (hQ:∀ a w,Q a w→Q' .normal a w) (hd:ops.all noDef=true) :
   ∀ (f:Nat) (listed:Array Bool) (a:Act) (w:World),wpAnyB P ops B Q f listed a w→wpAnyIn (Fence.wide.inRound l) n P .any ops Q' f listed a w:=by
 intro f
 induction f with
 | zero=>intro listed a w h;exact ⟨h.1,hQ _ _ h.2⟩
 | succ f ih=>
   intro listed a w h;refine ⟨fun h0=>hQ _ _ (h.1 h0),fun i hi=>?_⟩;obtain ⟨o,ho,hg⟩:=h.2 i hi;have hdo:noDef o=true:=by
     rw [Array.all_eq_true] at hd;obtain ⟨h1,h2⟩:=Array.getElem?_eq_some_iff.1 ho;have:=hd i h1;rw [h2] at this;exact this
   unfold wpOpIn;simp only [ho]
   split
   · rename_i hw;rw [if_pos hw] at hg;exact oper_in hdo (Oper.wp_mono (fun a' w' hh=>ih _ _ _ hh.2) hg)
   · rename_i hw;rw [if_neg hw] at hg;exact ⟨fun _ _=>trivial,ih _ _ _ hg.2⟩
theorem region_drawIn {l n:Nat} {id:Nat} {pm:List Nat} {Q:Exit→Act→World→Prop} {K:Env→World→Prop} {t:D} {ρ:Env} {a:Act} {w:World} (hm:P.follows .mixedOrders=true) (hpm:pmOk ops pm=true)
   (hsel:Region.noSelect ops=true) (hd:ops.all noDef=true) (ht:resD P N ops pm ops.size (Array.replicate ops.size false)=some t) (h:wpD P t ρ w.drew [] K) (hg:Good dl N ρ a)
   (hQ:∀ ρ' a' w',Good dl N ρ' a'→K ρ' w'→Q .normal a' w'):(Code.region id ops true).wpIn (Fence.wide.inRound l) n P Q a w:=by
 refine wpIn_region_any hm (wpAnyIn_of_B (B:=Brd pm []) (Q:=GoodK dl N K) (fun a' w' ⟨ρ',h1,h2⟩=>hQ ρ' a' w' h1 h2) hd _ _ _ _ ?_);refine resD_sound hpm hsel _ _ t ρ a w.drew [] ht h hg ?_ (fun _ _ h=>by cases h);intro j oj _ hl;have:(Array.replicate ops.size false).getD j false=false:=by
   rcases Nat.lt_or_ge j ops.size with h | h
   · simp [h]
   · simp [h]
 rw [this] at hl;cases hl
def calm:Code→Bool
 | .skip=>true
 | .ret=>true
 | .exit _=>true
 | .seq a b=>calm a&&calm b
 | .cond _ a b=>calm a&&calm b
 | .block _ a=>calm a
 | .region _ ops _=>ops.all noDef
 | _=>false
def cooked:IR→Bool
 | .raw _=>false
 | .loop _=>false
 | .seq a b=>cooked a&&cooked b
 | .cond _ a b=>cooked a&&cooked b
 | .block _ a=>cooked a
 | _=>true
theorem decompIn_sound {l n:Nat} {H:List (Nat×List Nat×List Nat)}:∀ (c:Code) (ir:IR) (Q:Post) (ρ:Env) (a:Act) (w:World),decomp P N H c=some ir→calm c=true→cooked ir=true→irwp P N ir Q ρ w→Good dl N ρ a →
   c.wpIn (Fence.wide.inRound l) n P (liftQ dl N Q) a w:=by
 intro c
 induction c with
 | skip=>intro ir Q ρ a w h _ _ hw hg;simp only [decomp,Option.some.injEq] at h;subst h;exact wpIn_skip ⟨ρ,hg,hw⟩
 | ret=>intro ir Q ρ a w h _ _ hw hg;simp only [decomp,Option.some.injEq] at h;subst h;exact wpIn_ret ⟨ρ,hg,hw⟩
 | exit id=>intro ir Q ρ a w h _ _ hw hg;simp only [decomp,Option.some.injEq] at h;subst h;exact wpIn_exit ⟨ρ,hg,hw⟩
 | seq x y ihx ihy=>
   intro ir Q ρ a w h hc hk hw hg;simp only [decomp] at h;obtain ⟨a1,h1,h⟩:=Option.bind_eq_some_iff.1 h;obtain ⟨b1,h2,h⟩:=Option.map_eq_some_iff.1 h;subst h;simp only [calm,cooked,Bool.and_eq_true] at hc hk;refine wpIn_seq (wpIn_mono (ihx a1 _ ρ a w h1 hc.1 hk.1 hw hg) ?_);intro e a' w' hq;obtain ⟨ρ',hg',hq⟩:=hq;cases e with
   | normal=>exact ihy b1 Q ρ' a' w' h2 hc.2 hk.2 hq hg'
   | _=>exact ⟨ρ',hg',hq⟩
 | cond c x y ihx ihy=>
   intro ir Q ρ a w h hc hk hw hg;simp only [decomp] at h;obtain ⟨a1,h1,h⟩:=Option.bind_eq_some_iff.1 h;obtain ⟨b1,h2,h⟩:=Option.map_eq_some_iff.1 h;subst h;simp only [calm,cooked,Bool.and_eq_true] at hc hk;obtain ⟨t,hcv,ht,hf⟩:=hw;have he:=hg.agree c _ hcv;exact wpIn_cond_split he (fun e=>ihx a1 Q ρ a w h1 hc.1 hk.1 (ht e) hg) (fun e=>ihy b1 Q ρ a w h2 hc.2 hk.2 (hf e) hg)
 | block id x ih=>
   intro ir Q ρ a w h hc hk hw hg;simp only [decomp] at h;obtain ⟨a1,h1,h⟩:=Option.map_eq_some_iff.1 h;subst h;simp only [calm,cooked] at hc hk;refine wpIn_block (wpIn_mono (ih a1 _ ρ a w h1 hc hk hw hg) ?_);intro e a' w' hq;obtain ⟨ρ',hg',hq⟩:=hq;cases e with
   | exit id'=>
     simp only [Exit.inBlock,blkQ] at hq ⊢
     split
     · rename_i hh;rw [if_pos hh] at hq;exact ⟨ρ',hg',hq⟩
     · rename_i hh;rw [if_neg hh] at hq;exact ⟨ρ',hg',hq⟩
   | _=>exact ⟨ρ',hg',hq⟩
 | region id ops draw=>
   intro ir Q ρ a w h hc hk hw hg;simp only [calm] at hc;simp only [decomp] at h;obtain ⟨x,hx,h0⟩:=Option.bind_eq_some_iff.1 h;clear h;have h:=h0;clear h0;obtain ⟨kp,pm⟩:=x;unfold decompR at h;have fin:∀ ρ' a' w',Good dl N ρ' a'→Q .normal (ρ'.keep kp) w'→liftQ dl N Q .normal a' w':=fun ρ' a' w' hg' hq=>⟨_,hg'.keep kp,hq⟩
   have hcl:ops.toList.all noDef=true:=by simpa using hc
   split at h
   · rename_i hd;subst hd
     split at h
     · rename_i hcc;simp only [Bool.and_eq_true] at hcc;obtain ⟨⟨hs,hpm⟩,hm⟩:=hcc
       split at h
       · rename_i t ht
         split at h
         · rename_i st hst;simp only [Option.some.injEq] at h;subst h;exact region_drawIn (K:=fun ρ w=>Q .normal (ρ.keep kp) w) hm hpm hs hc ht (toS_sound t st ρ _ [] hst hw) hg fin
         · simp only [Option.some.injEq] at h;subst h;exact region_drawIn (K:=fun ρ w=>Q .normal (ρ.keep kp) w) hm hpm hs hc ht hw hg fin
       · simp only [Option.some.injEq] at h;subst h;simp [cooked] at hk
     · simp only [Option.some.injEq] at h;subst h;simp [cooked] at hk
   · rename_i hd;have:draw=false:=by simpa using hd
     subst this;obtain ⟨st,hst,h⟩:=Option.map_eq_some_iff.1 h;subst h;cases hcp:cpL N kp [] st with
     | none=>
       rw [hcp] at hw;exact wpIn_region_list (gList_in (fun _ _ h=>h) _ _ _ hcl (resAll_sound (G:=fun a w=>liftQ dl N Q .normal a w) ops.toList st ρ a w (fun ρ w=>Q .normal (ρ.keep kp) w) hst hw hg fin))
     | some st'=>
       rw [hcp] at hw;exact wpIn_region_list (gList_in (fun _ _ h=>h) _ _ _ hcl (cpL_sound (G:=fun a w=>liftQ dl N Q .normal a w) (K:=fun ρ w=>Q .normal ρ w) ops.toList st st' [] ρ ρ a w hst hcp hw hg (fun t _=>rfl) fin))
 | _=>intro ir Q ρ a w h hc;simp [calm] at hc
def downto (n k:Nat):List Nat:=(List.range k).map fun i=>n - 1 - i
def Quiet (B:Nat) (I:World→Prop):Prop:=∀ W W' (S:Nat→Prop),I W→Mod S W W'→(∀ b,S b→B≤b∧∃ o:Obj,W.heap[b]? = some o∧o.isCells=false)→I W'
theorem quiet_own {α:Type} {B:Nat} {I:List α→World→Prop} (h:∀ s,Quiet B (I s)):OwnFrom B I:=by
 intro s W W' row hs hg hr;refine h s W W' (fun b=>row=some b) hs ⟨hg.size,fun b hb hn=>hg.block b hb (fun e=>hn e.symm),hg.os,hg.tape,hg.output⟩ (fun b hb=>hr b hb)
structure RangeB (P:Program) (N:Nat) (ir:IR) (Kp:World→World→Prop) (len:Nat) (elt:Nat→Value) (p1 p2 d:Nat) (ρ:Env) (B:Nat) (I:List Nat→World→Prop) (w:World):Prop where
 zero:I [] w
 quiet:∀ s,Quiet B (I s)
 body:∀ (pre:List Nat) (j:Nat) (W:World),I pre W→pre.length < len→j < len →
   irwp P N ir (fun e _ W'=>match e with | .normal=>KeepsOthers W W'∧Kp W W'∧I (pre++[j]) W' | _=>False) ((d,elt j)::ρ) W
theorem good_hide {ρ:Env} {a:Act} (h:Good dl N ρ a) {p:Nat} (v:Value) (hp:ρ.get p=none) (hN:p < N):Good dl N ρ (a.put (some p) v):=by
 have h1:=h.put (some p) v (fun t ht=>by cases ht;exact hN);refine ⟨h1.size,h1.defers,fun t u hu=>h1.get t u ?_⟩;rw [get_put_ne (fun hh=>by subst hh;rw [hp] at hu;cases hu)];exact hu
theorem range_wp {n:Nat} {x p1 p2 d id ty:Nat} {pos:String} {bd:Code} {ir:IR} {H:List (Nat×List Nat×List Nat)} (hbd:decomp P N H bd=some ir) (hcalm:calm bd=true) (hcook:cooked ir=true)
   {gf:Nat} {lb:Array Value} {len:Nat} {elt:Nat→Value} {Kp:World→World→Prop} {ρ:Env} {a:Act} {w:World} {Q:Exit→Act→World→Prop} (hg:Good dl N ρ a) (hx:ρ.get x=some (.func (.func gf) #[] lb))
   (eg:∀ args w,(callFunc gf args).run P w = .ok (.enter gf args) w)
   (hseq:SeqStopsK Fence.wide (n - 1) P gf lb (fun y : { j:Nat // j < len}=>#[.int .i64 (y.1:Int),elt y.1]) Kp (fun ys=>ys.map Subtype.val=downto len len) (fun _=>True) len w)
   (hp:p1≠p2∧p1 < N∧p2 < N∧d < N) (hfresh:ρ.get p1=none∧ρ.get p2=none) (hn:1≤n)
   (hKt:∀ {A B C:World},Kp A B→Kp B C→Kp A C) (hKb:∀ (W:World) (l:Nat) (o o':Obj),w.heap.size≤l→W.heap[l]? = some o→o.isCells=false→o.isWalk=false→Kp W (W.putObj l o'))
   (I:List Nat→World→Prop) (hI:RangeB P N ir Kp len elt p1 p2 d ρ w.heap.size I w)
   (done:∀ (D:Nat) (W:World),w.heap.size≤D→I (downto len len) W→W.heap[D]? = some (.deferred (some []))→∀ a',Good ({ target:=.collected D,args:=#[]}::dl) N ρ a'→Q .normal a' W) :
   (Code.rangeFunc (.tmp x) #[p1,p2] (.region id #[{ dst:=some d,op:=.assign (.tmp p2),type:=ty,pos:=pos,after:=#[],guard:=none}] false) bd).wp P Q a w:=by
 obtain ⟨hp12,hp1,hp2,hd⟩:=hp;obtain ⟨hf1,hf2⟩:=hfresh;have h0:Good [] N ρ { tmps:=a.tmps,defers:=[]}:=⟨hg.size,rfl,hg.get⟩;have hev:a.eval (.tmp x) = .func (.func gf) #[] lb:=hg.agree (.tmp x) _ hx;refine (wpIn_wide (n:=n)).1 ?_;refine wpIn_rangeFunc_ownF (α:={ j:Nat // j < len}) rfl hn hev trivial eg hseq hKt hKb (Go.RowKit.Below.refl _ _) (fun _=>rfl) (fun xs W=>I (xs.map Subtype.val) W) (fun _ _ _=>False)
   (quiet_own (fun s=>hI.quiet _)) (fun c=>fun s W W' row h=>h.elim) hI.zero
   (fun y=>(((({ tmps:=a.tmps,defers:=[]}:Act).put (some p1) (.int .i64 (y.1:Int))).put (some p2) (elt y.1)).put (some d) (elt y.1))) ?_ ?_ ?_ ?_
 · intro l y W K hK;have e:((#[p1,p2].zip #[Value.int .i64 (y.1:Int),elt y.1]).foldl (fun t (p,v)=>t.setIfInBounds p v) a.tmps)=((({ tmps:=a.tmps,defers:=[]}:Act).put (some p1) (.int .i64 (y.1:Int))).put (some p2) (elt y.1)).tmps:=by simp [Act.put]
   rw [e];have hG:Good [] N ((p2,elt y.1)::ρ) ((({ tmps:=a.tmps,defers:=[]}:Act).put (some p1) (.int .i64 (y.1:Int))).put (some p2) (elt y.1)):=
     (good_hide h0 _ hf1 hp1).put (some p2) _ (fun t ht=>by cases ht;exact hp2)
   refine wpIn_region_list ?_;show wpListIn _ _ _ _ _ [_] _ _;unfold wpListIn;rw [if_pos (by simp [Region.wanted])];have hr:res P (Op.assign (.tmp p2))=some (.mv (.t p2)):=rfl;obtain ⟨v,hv,hwp⟩:=mv_wp (P:=P) (o:={ dst:=some d,op:=.assign (.tmp p2),type:=ty,pos:=pos,after:=#[],guard:=none}) (w:=W) hr hG (by simpa [oLt] using hp2);have hv':elt y.1=v:=hv _ (by simp [O.ev,Env.get]);subst hv';refine oper_in rfl (Oper.wp_mono ?_ hwp);rintro a' w' ⟨rfl,rfl⟩;exact hK
 · intro l pre y W hi hlen;have hG:Good [] N ((d,elt y.1)::ρ) (((({ tmps:=a.tmps,defers:=[]}:Act).put (some p1) (.int .i64 (y.1:Int))).put (some p2) (elt y.1)).put (some d) (elt y.1)):=
     (good_hide (good_hide h0 _ hf1 hp1) _ hf2 hp2).put (some d) _ (fun t ht=>by cases ht;exact hd)
   refine wpIn_mono (decompIn_sound bd ir _ _ _ _ hbd hcalm hcook (hI.body _ y.1 W hi (by simpa using hlen) y.2) hG) ?_;rintro e a' w' ⟨ρ',_,hq⟩;cases e with
   | normal=>
     obtain ⟨q1,q2,q3⟩:=hq;exact ⟨q1,q2,by show I ((pre++[y]).map Subtype.val) w';rw [List.map_append];exact q3⟩
   | _=>exact hq.elim
 · intro D xs W hD hS hi hh;have hS:xs.map Subtype.val=downto len len:=hS;have hi:I (xs.map Subtype.val) W:=hi;rw [hS] at hi;exact done D W hD hi hh _ ⟨hg.size,by simp [hg.defers],hg.get⟩
 · intro D c pre W _ _ hh;exact hh.elim
structure RangeB1 (P:Program) (N:Nat) (ir:IR) (Kp:World→World→Prop) (len:Nat) (d:Nat) (ρ:Env) (B:Nat) (I:List ByteArray→World→Prop) (w:World):Prop where
 zero:I [] w
 quiet:∀ s,Quiet B (I s)
 body:∀ (pre:List ByteArray) (x:ByteArray) (W:World),I pre W→pre.length < len →
   irwp P N ir (fun e _ W'=>match e with | .normal=>KeepsFrom B W W'∧Kp W W'∧I (pre++[x]) W' | _=>False) ((d,.string x)::ρ) W
theorem range_wp1 {n:Nat} {x p d id ty:Nat} {pos:String} {bd:Code} {ir:IR} {H:List (Nat×List Nat×List Nat)} (hbd:decomp P N H bd=some ir) (hcalm:calm bd=true) (hcook:cooked ir=true)
   {gf:Nat} {lb:Array Value} {len:Nat} {Kp:World→World→Prop} {ρ:Env} {a:Act} {w:World} {Q:Exit→Act→World→Prop} (hg:Good dl N ρ a) (hx:ρ.get x=some (.func (.func gf) #[] lb))
   (eg:∀ args w,(callFunc gf args).run P w = .ok (.enter gf args) w)
   (hseq:SeqStopsK Fence.wide (n - 1) P gf lb (fun y:ByteArray=>#[.string y]) Kp (fun _=>True) (fun _=>True) len w)
   (hp:p < N∧d < N) (hfresh:ρ.get p=none) (hn:1≤n)
   (hKt:∀ {A B C:World},Kp A B→Kp B C→Kp A C) (hKb:∀ (W:World) (l:Nat) (o o':Obj),w.heap.size≤l→W.heap[l]? = some o→o.isCells=false→o.isWalk=false→Kp W (W.putObj l o'))
   (I:List ByteArray→World→Prop) (hI:RangeB1 P N ir Kp len d ρ w.heap.size I w)
   (done:∀ (D:Nat) (xs:List ByteArray) (W:World),w.heap.size≤D→I xs W→W.heap[D]? = some (.deferred (some []))→∀ a',Good ({ target:=.collected D,args:=#[]}::dl) N ρ a'→Q .normal a' W) :
   (Code.rangeFunc (.tmp x) #[p] (.region id #[{ dst:=some d,op:=.assign (.tmp p),type:=ty,pos:=pos,after:=#[],guard:=none}] false) bd).wp P Q a w:=by
 obtain ⟨hp1,hd⟩:=hp;have h0:Good [] N ρ { tmps:=a.tmps,defers:=[]}:=⟨hg.size,rfl,hg.get⟩;have hev:a.eval (.tmp x) = .func (.func gf) #[] lb:=hg.agree (.tmp x) _ hx;refine (wpIn_wide (n:=n)).1 ?_;refine wpIn_rangeFunc_ownG (α:=ByteArray) rfl hn hev trivial eg hseq hKt hKb (Go.RowKit.Below.refl _ _) (fun _=>rfl) I (fun _ _ _=>False)
   (quiet_own (fun s=>hI.quiet _)) (fun c=>fun s W W' row h=>h.elim) hI.zero
   (fun y=>((({ tmps:=a.tmps,defers:=[]}:Act).put (some p) (.string y)).put (some d) (.string y))) ?_ ?_ ?_ ?_
 · intro l y W K hK;have e:((#[p].zip #[Value.string y]).foldl (fun t (p,v)=>t.setIfInBounds p v) a.tmps)=(({ tmps:=a.tmps,defers:=[]}:Act).put (some p) (.string y)).tmps:=by simp [Act.put]
   rw [e];have hG:Good [] N ((p,.string y)::ρ) (({ tmps:=a.tmps,defers:=[]}:Act).put (some p) (.string y)):=
     h0.put (some p) _ (fun t ht=>by cases ht;exact hp1)
   refine wpIn_region_list ?_;show wpListIn _ _ _ _ _ [_] _ _;unfold wpListIn;rw [if_pos (by simp [Region.wanted])];have hr:res P (Op.assign (.tmp p))=some (.mv (.t p)):=rfl;obtain ⟨v,hv,hwp⟩:=mv_wp (P:=P) (o:={ dst:=some d,op:=.assign (.tmp p),type:=ty,pos:=pos,after:=#[],guard:=none}) (w:=W) hr hG (by simpa [oLt] using hp1);have hv':Value.string y=v:=hv _ (by simp [O.ev,Env.get]);subst hv';refine oper_in rfl (Oper.wp_mono ?_ hwp);rintro a' w' ⟨rfl,rfl⟩;exact hK
 · intro l pre y W hi hlen;have hG:Good [] N ((d,.string y)::ρ) ((({ tmps:=a.tmps,defers:=[]}:Act).put (some p) (.string y)).put (some d) (.string y)):=
     (good_hide h0 _ hfresh hp1).put (some d) _ (fun t ht=>by cases ht;exact hd)
   refine wpIn_mono (decompIn_sound bd ir _ _ _ _ hbd hcalm hcook (hI.body _ y W hi hlen) hG) ?_;rintro e a' w' ⟨ρ',_,hq⟩;cases e with
   | normal=>exact hq
   | _=>exact hq.elim
 · intro D xs W hD hS hi hh;exact done D xs W hD hi hh _ ⟨hg.size,by simp [hg.defers],hg.get⟩
 · intro D c pre W _ _ hh;exact hh.elim
end
end Go.W