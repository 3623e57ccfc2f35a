/- Texts that the last file stands on: W1, W2, W3, W4, W5, WO, W6, W7, W8, W9, W10, W11, W12, W13, W14, D1, D2, W15, D3, P1, WI. -/
import Derived.Deep.Quiet
import Derived.WalkKit
import Derived.Test.YtjfgeekjjlhbdaaGreatDoorProg
import Derived.IntWalk
import Derived.ProofKit
import Derived.SizedLaws
import Derived.Maps.RangeRun
import Derived.TacticsIn
import Derived.OrdersIn
import Derived.RangeFuncFrom
import Derived.RangeFuncWrites
import Derived.RangeFuncLeaves
import Derived.RangeFuncCalls
set_option linter.unusedSimpArgs false
set_option linter.unusedVariables false
set_option maxRecDepth 100000
namespace Go.W
section
open Go
def ro (P:Program) (w:World) {α:Type}:Sem α→Option α
 | .pure a=>some a
 | .load _ a k=>match w.cell? a with | some v=>ro P w (k v) | none=>none
 | .shape r k=>ro P w (k (w.shape? r))
 | .frozen a k=>ro P w (k (w.frozen? a))
 | .getObj r k=>match w.heap[r]? with | some (.cells ..)=>none | some o=>ro P w (k o) | none=>none
 | .program k=>ro P w (k P)
 | .mark _ k=>ro P w k
 | .store ..=>none
 | .new ..=>none
 | .freeze ..=>none
 | .setObj ..=>none
 | .choose ..=>none
 | .sys ..=>none
 | .halt _=>none
theorem lK {P:Program} {w:World} {α:Type} {s:Sem α} {a:α} (h:ro P w s=some a):s.run P w = .ok a w:=by
 induction s with
 | pure x=>simp only [ro,Option.some.injEq] at h;subst h;rfl
 | load m ad k ih=>
  simp only [ro] at h;cases hc:w.cell? ad with
  | none=>simp [hc] at h
  | some v=>simp only [hc] at h;simp only [Sem.run,hc];exact ih v h
 | shape r k ih=>simp only [ro] at h;simp only [Sem.run];exact ih _ h
 | frozen ad k ih=>simp only [ro] at h;simp only [Sem.run];exact ih _ h
 | getObj r k ih=>
  simp only [ro] at h;cases hc:w.heap[r]? with
  | none=>simp [hc] at h
  | some o=>cases o<;>simp only [hc] at h<;>first | cases h | (simp only [Sem.run,hc];exact ih _ h)
 | program k ih=>simp only [ro] at h;simp only [Sem.run];exact ih _ h
 | mark m k ih=>simp only [ro] at h;simp only [Sem.run];exact ih h
 | store=>simp [ro] at h
 | new=>simp [ro] at h
 | freeze=>simp [ro] at h
 | setObj=>simp [ro] at h
 | choose=>simp [ro] at h
 | sys=>simp [ro] at h
 | halt=>simp [ro] at h
theorem cL {P:Program} {w:World} {α β:Type} (s:Sem α) (f:α→Sem β):ro P w (s >>= f)=(ro P w s).bind (fun a=>ro P w (f a)):=by
 show ro P w (s.bind f)=_
 induction s with
 | pure x=>simp [Sem.bind,ro]
 | load m ad k ih=>simp only [Sem.bind,ro];cases w.cell? ad<;>simp [ih]
 | shape r k ih=>simp only [Sem.bind,ro,ih]
 | frozen r k ih=>simp only [Sem.bind,ro,ih]
 | getObj r k ih=>
  simp only [Sem.bind,ro];cases w.heap[r]? with
  | none=>rfl
  | some o=>cases o<;>simp [ih]
 | program k ih=>simp only [Sem.bind,ro,ih]
 | mark m k ih=>simp only [Sem.bind,ro,ih]
 | store=>rfl
 | new=>rfl
 | freeze=>rfl
 | setObj=>rfl
 | choose=>rfl
 | sys=>rfl
 | halt=>rfl
@[simp] theorem fH {P:Program} {w:World} {α:Type} (a:α):ro P w (pure a:Sem α)=some a:=rfl
@[simp] theorem A8 {P:Program} {w:World} {α β:Type} (f:α→β) (s:Sem α):ro P w (f <$> s)=(ro P w s).map f:=by
 show ro P w (s.bind (fun a=>.pure (f a)))=_;have:=cL (P:=P) (w:=w) s (fun a=>(pure (f a):Sem β));rw [show s.bind (fun a=>.pure (f a))=s >>= (fun a=>(pure (f a):Sem β)) from rfl,this];cases ro P w s<;>rfl
theorem DL {P:Program} {w:World}:ro P w program=some P:=rfl
theorem GD {P:Program} {w:World} (a:Addr) (m:Mode):ro P w (load a m)=w.cell? a:=by
 simp only [load,ro];cases w.cell? a<;>rfl
theorem GF {P:Program} {w:World} (t:TypeId):ro P w (typeInfo t)=P.info? t:=by
 simp only [typeInfo,cL,DL,Option.bind_some];cases P.info? t<;>rfl
theorem gK {P:Program} {w:World} (t:TypeId):ro P w (underlying t)=P.underlying t:=by
 simp only [underlying,cL,DL,Option.bind_some];cases P.underlying t<;>rfl
theorem sh {P:Program} {w:World} (t:TypeId):ro P w (sizeOf t)=(P.info? t).map (·.size):=by
 simp only [sizeOf,cL,GF];cases P.info? t<;>rfl
def qH:TypeDesc→Bool
 | .struct _=>true
 | .array _ _=>true
 | _=>false
theorem y0 {P:Program} {w:World} (t:TypeId):ro P w (isAgg t)=(P.underlying t).map qH:=by
 simp only [isAgg,cL,gK];cases P.underlying t with
 | none=>rfl
 | some d=>cases d<;>rfl
theorem Nz {P:Program} {w:World} (t:TypeId):ro P w (zeroValue t)=(P.info? t).bind (·.zero):=by
 simp only [zeroValue,cL,GF];cases P.info? t with
 | none=>rfl
 | some i=>cases h:i.zero<;>simp [h]<;>rfl
def jK (w:World) (a:Addr) (i:Nat):Nat→Array Value→Option (Array Value)
 | 0,acc=>some acc
 | n+1,acc=>match w.cell? (a.add i) with
  | some v=>jK w a (i+1) n (acc.push v)
  | none=>none
theorem Wm {P:Program} {w:World} (a:Addr):∀ (n i:Nat) (acc:Array Value),ro P w (loadCellsFrom a i n acc)=jK w a i n acc:=by
 intro n
 induction n with
 | zero=>intro i acc;rfl
 | succ n ih=>
  intro i acc;simp only [loadCellsFrom,cL,GD,jK];cases w.cell? (a.add i) with
  | none=>rfl
  | some v=>simp [ih]
theorem NA {P:Program} {w:World} (a:Addr) (n:Nat):ro P w (loadCells a n)=jK w a 0 n #[]:=Wm a n 0 #[]
inductive O where
 | t (n:Nat)
 | c (v:Value)
 deriving Inhabited
abbrev Env:=List (Nat×Value)
def Env.get (ρ:Env) (t:Nat):Option Value:=
 match ρ with
 | []=>none
 | (s,v)::r=>if s=t then some v else Env.get r t
def Env.put (ρ:Env) (d:Option Nat) (v:Value):Env:=
 match d with
 | none=>ρ
 | some d=>(d,v)::ρ
def Env.aB (ρ:Env):List Nat→Env
 | []=>[]
 | t::ts=>match ρ.get t with
  | some v=>(t,v)::Env.aB ρ ts
  | none=>Env.aB ρ ts
def O.ev (ρ:Env):O→Option Value
 | .t n=>ρ.get n
 | .c v=>some v
def bm:Operand→O
 | .tmp t=>.t t
 | .const v=>.c v
 | .global g=>.c (.pointer (some ⟨g,0,none⟩))
 | .func f=>.c (.func (.func f) #[] #[])
def fI (ρ:Env):List O→Option (List Value)
 | []=>some []
 | x::xs=>match x.ev ρ,fI ρ xs with
  | some v,some vs=>some (v::vs)
  | _,_=>none
inductive y3 where
 | bool | ptr | slice | iface | map | func
 deriving DecidableEq,Inhabited
inductive tL where
 | int | str | bool
 deriving DecidableEq,Inhabited
inductive R where
 | mv (x:O)
 | nn (x:O)
 | fa (off:Nat) (x:O)
 | l1 (x:O)
 | ln (n:Nat) (x:O)
 | bi (op:BinOp) (x y:O)
 | eq (k:y3) (neg:Bool) (x y:O)
 | no (x:O)
 | ng (x:O)
 | cv (k:IntKind) (x:O)
 | len (x:O)
 | pL (x:O)
 | si (x:O)
 | cap (x:O)
 | ia (sz:Nat) (s i:O)
 | qI (s i:O)
 | fl (off:Nat) (x:O)
 | y4 (off n:Nat) (x:O)
 | sl (sz:Nat) (x:O) (lo hi mx:Option O)
 | y5 (x:O) (lo hi:Option O)
 | bd (zero:Array Value) (parts:List (Nat×Nat×O))
 | pk (c a b:O)
 | ex (i:Nat) (x:O)
 | mi (t:Nat) (x:O)
 | mm (mx:Bool) (x y:O)
 | jL (neg:Bool) (fs:List (Nat×tL)) (x y:O)
 | mf (fn:Fn) (fst cs:List O)
 deriving Inhabited
def GG:Value→Option Value
 | .pointer (some a)=>some (.pointer (some a))
 | .iface t v=>some (.iface t v)
 | .func (.func f) a b=>some (.func (.func f) a b)
 | _=>none
def GH (off:Nat):Value→Option Value
 | .pointer (some a)=>some (.pointer (some (a.add off)))
 | _=>none
def y6 (w:World):Value→Option Value
 | .pointer (some a)=>w.cell? a
 | _=>none
def gp (w:World) (n:Nat):Value→Option Value
 | .pointer (some a)=>(jK w a 0 n #[]).map .agg
 | _=>none
def uZ (op:BinOp) (k:IntKind) (a b:Int):Option Value:=
 match op with
 | .add=>some (.int k (k.wrap (a+b)))
 | .sub=>some (.int k (k.wrap (a - b)))
 | .mul=>some (.int k (k.wrap (a*b)))
 | .quo=>if b=0 then none else some (.int k (k.wrap (a.tdiv b)))
 | .rem=>if b=0 then none else some (.int k (a.tmod b))
 | .and=>some (.int k (k.wrap ((BitVec.ofInt k.bits a &&& BitVec.ofInt k.bits b).toNat)))
 | .or=>some (.int k (k.wrap ((BitVec.ofInt k.bits a ||| BitVec.ofInt k.bits b).toNat)))
 | .xor=>some (.int k (k.wrap ((BitVec.ofInt k.bits a ^^^ BitVec.ofInt k.bits b).toNat)))
 | .andNot=>none
 | .eql=>some (.bool (a == b))
 | .neq=>some (.bool (a != b))
 | .lss=>some (.bool (decide (a < b)))
 | .leq=>some (.bool (decide (a≤b)))
 | .gtr=>some (.bool (decide (a > b)))
 | .geq=>some (.bool (decide (a≥b)))
 | .shl=>none
 | .shr=>none
def A9 (op:BinOp) (k:IntKind) (x y:Int):Option Value:=
 if y < 0 then none else
 match op with
 | .shl=>some (.int k (k.wrap (x*2 ^ (min y.toNat k.bits))))
 | .shr=>some (.int k (x.fdiv (2 ^ (min y.toNat k.bits))))
 | _=>none
def GJ (op:BinOp) (x y:ByteArray):Option Value:=
 match op with
 | .add=>if ((x.size+y.size:Nat):Int) > IntKind.i64.max then none else some (.string (x++y))
 | .eql=>some (.bool (x.toList == y.toList))
 | .neq=>some (.bool !(x.toList == y.toList))
 | .lss=>some (.bool (Op.bytesLess x.toList y.toList))
 | .leq=>some (.bool (Op.bytesLess x.toList y.toList||x.toList == y.toList))
 | .gtr=>some (.bool !(Op.bytesLess x.toList y.toList||x.toList == y.toList))
 | .geq=>some (.bool !(Op.bytesLess x.toList y.toList))
 | _=>none
def u6 (op:BinOp):Value→Value→Option Value
 | .int k a,.int k' b=>match op with
  | .shl=>A9 op k a b
  | .shr=>A9 op k a b
  | _=>if k=k' then uZ op k a b else none
 | .string a,.string b=>GJ op a b
 | _,_=>none
def u7 (k:y3):Value→Value→Option Bool
 | .bool a,.bool b=>if k = .bool then some (a == b) else none
 | .pointer none,.pointer b=>if k = .ptr then some b.isNone else none
 | .pointer (some _),.pointer none=>if k = .ptr then some false else none
 | .slice none _ _,.slice b _ _=>if k = .slice then some b.isNone else none
 | .slice (some _) _ _,.slice none _ _=>if k = .slice then some false else none
 | .map none,.map b=>if k = .map then some b.isNone else none
 | .map (some _),.map none=>if k = .map then some false else none
 | .nilIface,.iface _ _=>if k = .iface then some false else none
 | .iface _ _,.nilIface=>if k = .iface then some false else none
 | .nilFunc,.nilFunc=>if k = .func then some true else none
 | .nilFunc,.func _ _ _=>if k = .func then some false else none
 | .func _ _ _,.nilFunc=>if k = .func then some false else none
 | _,_=>none
def GK:Value→Option Value
 | .bool b=>some (.bool !b)
 | _=>none
def GL:Value→Option Value
 | .int k n=>some (.int k (k.wrap (0 - n)))
 | _=>none
def GM (k:IntKind):Value→Option Value
 | .int _ n=>some (.int k (k.wrap n))
 | _=>none
def GN:Value→Option Value
 | .slice _ n _=>some (.int .i64 n)
 | _=>none
def GO:Value→Option Value
 | .string s=>some (.int .i64 s.size)
 | _=>none
def DM (w:World):Value→Option Value
 | .map none=>some (.int .i64 0)
 | .map (some r)=>match w.heap[r]? with
  | some (.map es _)=>some (.int .i64 es.size)
  | _=>none
 | _=>none
def GP:Value→Option Value
 | .slice _ _ c=>some (.int .i64 c)
 | _=>none
def GQ (sz:Nat):Value→Value→Option Value
 | .slice (some a) len _,.int _ i=>if 0≤i∧i < len then some (.pointer (some (a.add (i.toNat*sz)))) else none
 | _,_=>none
def GR:Value→Value→Option Value
 | .string s,.int _ i=>if 0≤i then (s[i.toNat]?).map (fun b=>.int .u8 b.toNat) else none
 | _,_=>none
def GS (off:Nat):Value→Option Value
 | .agg cs=>cs[off]?
 | _=>none
def GU (off n:Nat):Value→Option Value
 | .agg cs=>some (.agg (cs.extract off (off+n)))
 | _=>none
def mI (v:Option Value) (Wn y:Nat):Option Nat:=
 match v with
 | none=>some Wn
 | some (.int _ i)=>if 0≤i∧i≤y then some i.toNat else none
 | some _=>none
def GW (sz:Nat) (x:Value) (lo hi mx:Option Value):Option Value:=
 match x with
 | .slice a len cap=>match mI mx cap cap with
  | none=>none
  | some m=>match mI hi len m with
   | none=>none
   | some h=>match mI lo 0 h with
    | none=>none
    | some l=>some (.slice (if m=l then a else a.map (·.add (l*sz))) (h - l) (m - l))
 | _=>none
def GX (x:Value) (lo hi:Option Value):Option Value:=
 match x with
 | .string s=>match mI hi s.size s.size with
  | none=>none
  | some h=>match mI lo 0 h with
   | none=>none
   | some l=>some (.string (s.extract l h))
 | _=>none
def jm (cells:Array Value):List (Nat×Nat×Value)→Option (Array Value)
 | []=>some cells
 | (off,size,v)::rest=>
  if v.cells.size≠size||off+v.cells.size > cells.size then none
  else jm (v.cells.zipIdx.foldl (fun cs (c,j)=>cs.setIfInBounds (off+j) c) cells) rest
def GY:Value→Value→Value→Option Value
 | .bool c,a,b=>some (if c then a else b)
 | _,_,_=>none
def qJ (i:Nat):Value→Option Value
 | .tuple vs=>vs[i]?
 | _=>none
def DN (mx:Bool):Value→Value→Option Value
 | .int k x,.int _ y=>some (.int k (if mx then (if y > x then y else x) else (if y < x then y else x)))
 | _,_=>none
def qK:tL→Value→Value→Option Bool
 | .int,.int k a,.int k' b=>if k=k' then some (a == b) else none
 | .str,.string a,.string b=>some (a.toList == b.toList)
 | .bool,.bool a,.bool b=>some (a == b)
 | _,_,_=>none
def y7 (xs ys:Array Value):List (Nat×tL)→Option Bool
 | []=>some true
 | (o,k)::r=>match xs[o]?,ys[o]? with
  | some a,some b=>match qK k a b,y7 xs ys r with
   | some c,some d=>some (c&&d)
   | _,_=>none
  | _,_=>none
def y8 (neg:Bool) (fs:List (Nat×tL)):Value→Value→Option Value
 | .agg xs,.agg ys=>(y7 xs ys fs).map fun r=>.bool (if neg then !r else r)
 | _,_=>none
def ob (ρ:Env):Option O→Option (Option Value)
 | none=>some none
 | some x=>match x.ev ρ with
  | some v=>some (some v)
  | none=>none
def kS (ρ:Env):List (Nat×Nat×O)→Option (List (Nat×Nat×Value))
 | []=>some []
 | (o,n,x)::r=>match x.ev ρ,kS ρ r with
  | some v,some l=>some ((o,n,v)::l)
  | _,_=>none
def R.ev (w:World) (ρ:Env):R→Option Value
 | .mv x=>x.ev ρ
 | .nn x=>(x.ev ρ).bind GG
 | .fa off x=>(x.ev ρ).bind (GH off)
 | .l1 x=>(x.ev ρ).bind (y6 w)
 | .ln n x=>(x.ev ρ).bind (gp w n)
 | .bi op x y=>(x.ev ρ).bind fun a=>(y.ev ρ).bind fun b=>u6 op a b
 | .eq k neg x y=>(x.ev ρ).bind fun a=>(y.ev ρ).bind fun b=>(u7 k a b).map fun r=>.bool (if neg then !r else r)
 | .no x=>(x.ev ρ).bind GK
 | .ng x=>(x.ev ρ).bind GL
 | .cv k x=>(x.ev ρ).bind (GM k)
 | .len x=>(x.ev ρ).bind GN
 | .pL x=>(x.ev ρ).bind GO
 | .si x=>(x.ev ρ).bind (DM w)
 | .cap x=>(x.ev ρ).bind GP
 | .ia sz s i=>(s.ev ρ).bind fun a=>(i.ev ρ).bind fun b=>GQ sz a b
 | .qI s i=>(s.ev ρ).bind fun a=>(i.ev ρ).bind fun b=>GR a b
 | .fl off x=>(x.ev ρ).bind (GS off)
 | .y4 off n x=>(x.ev ρ).bind (GU off n)
 | .sl sz x lo hi mx=>(x.ev ρ).bind fun a=>(ob ρ lo).bind fun l=>(ob ρ hi).bind fun h=>(ob ρ mx).bind fun m=>GW sz a l h m
 | .y5 x lo hi=>(x.ev ρ).bind fun a=>(ob ρ lo).bind fun l=>(ob ρ hi).bind fun h=>GX a l h
 | .bd zero parts=>(kS ρ parts).bind fun ps=>(jm zero ps).map .agg
 | .pk c a b=>(c.ev ρ).bind fun c=>(a.ev ρ).bind fun a=>(b.ev ρ).bind fun b=>GY c a b
 | .ex i x=>(x.ev ρ).bind (qJ i)
 | .mi t x=>(x.ev ρ).map (.iface t)
 | .mm mx x y=>(x.ev ρ).bind fun a=>(y.ev ρ).bind fun b=>DN mx a b
 | .jL neg fs x y=>(x.ev ρ).bind fun a=>(y.ev ρ).bind fun b=>y8 neg fs a b
 | .mf fn fst cs=>(fI ρ fst).bind fun f=>(fI ρ cs).map fun c=>.func fn f.toArray c.toArray
end
section
open Go
def iC (P:Program) (t:TypeId):Option Nat:=(P.info? t).map (·.size)
def DO:Operand→Bool
 | .const _=>true
 | _=>false
def GZ:TypeDesc→Option y3
 | .bool=>some .bool
 | .pointer _=>some .ptr
 | .slice _=>some .slice
 | .interface _=>some .iface
 | .map _ _=>some .map
 | .func _ _ _=>some .func
 | _=>none
def Ba (P:Program) (fs:Array Field):List (Nat×Operand)→Option (List (Nat×Nat×O))
 | []=>some []
 | (i,x)::r=>match fs[i]? with
  | some f=>match iC P f.type,Ba P fs r with
   | some n,some l=>some ((f.offset,n,bm x)::l)
   | _,_=>none
  | none=>none
def NC (P:Program) (f:Field):Option (Nat×tL):=
 if f.name = "_" then none else
 match P.underlying f.type with
 | some (.int _)=>some (f.offset,.int)
 | some .string=>some (f.offset,.str)
 | some .bool=>some (f.offset,.bool)
 | _=>none
def Bb (P:Program):List Field→Option (List (Nat×tL))
 | []=>some []
 | f::fs=>match NC P f,Bb P fs with
  | some a,some l=>some (a::l)
  | _,_=>none
def DP (P:Program) (t:TypeId):Option (List (Nat×tL)):=
 match P.underlying t with
 | some (.struct fs)=>if P.stoodInHeld t||P.eqGuardType P.depth t then none else Bb P fs.toList
 | _=>none
def G0 (P:Program) (fs:List Field):Bool:=fs.all fun f=>(iC P f.type).isSome
def bZ (P:Program):Op→Option R
 | .move x=>some (.mv (bm x))
 | .assign x=>some (.mv (bm x))
 | .nilCheck x=>some (.nn (bm x))
 | .fieldAddr s x f=>match P.underlying s with
  | some (.struct fs)=>match fs[f]? with
   | some fd=>match iC P fd.type with
    | some (_+1)=>some (.fa fd.offset (bm x))
    | _=>none
   | none=>none
  | _=>none
 | .load t x=>match P.underlying t,iC P t with
  | some d,some n=>some (if qH d then .ln n (bm x) else .l1 (bm x))
  | _,_=>none
 | .binOp op t x y _=>match P.underlying t with
  | some (.int _)=>some (.bi op (bm x) (bm y))
  | some .string=>some (.bi op (bm x) (bm y))
  | some d=>match GZ d,op with
   | some k,.eql=>if (k = .iface||k = .ptr) && !(DO x||DO y) then none else some (.eq k false (bm x) (bm y))
   | some k,.neq=>if (k = .iface||k = .ptr) && !(DO x||DO y) then none else some (.eq k true (bm x) (bm y))
   | none,.eql=>(DP P t).map fun fs=>.jL false fs (bm x) (bm y)
   | none,.neq=>(DP P t).map fun fs=>.jL true fs (bm x) (bm y)
   | _,_=>none
  | none=>none
 | .unOp .not _ x=>some (.no (bm x))
 | .unOp .neg _ x=>some (.ng (bm x))
 | .convert s d x=>match P.underlying s,P.underlying d with
  | some (.int _),some (.int k)=>some (.cv k (bm x))
  | _,_=>none
 | .call { callee:=.builtin .len,args,argTypes}=>match argTypes[0]?,args.toList with
  | some t,[x]=>match P.underlying t with
   | some (.slice _)=>some (.len (bm x))
   | some .string=>some (.pL (bm x))
   | some (.map _ _)=>some (.si (bm x))
   | _=>none
  | _,_=>none
 | .call { callee:=.builtin .cap,args,argTypes}=>match argTypes[0]?,args.toList with
  | some t,[x]=>match P.underlying t with
   | some (.slice _)=>some (.cap (bm x))
   | _=>none
  | _,_=>none
 | .call { callee:=.builtin .min,args,..}=>match args.toList with
  | [x,y]=>some (.mm false (bm x) (bm y))
  | _=>none
 | .call { callee:=.builtin .max,args,..}=>match args.toList with
  | [x,y]=>some (.mm true (bm x) (bm y))
  | _=>none
 | .indexAddr t x i=>match P.underlying t with
  | some (.slice e)=>(iC P e).map fun n=>.ia n (bm x) (bm i)
  | _=>none
 | .index t x i=>match P.underlying t with
  | some .string=>some (.qI (bm x) (bm i))
  | _=>none
 | .field t x f=>match P.underlying t with
  | some (.struct fs)=>match fs[f]? with
   | some fd=>match P.underlying fd.type,iC P fd.type with
    | some d,some n=>some (if qH d then .y4 fd.offset n (bm x) else .fl fd.offset (bm x))
    | _,_=>none
   | none=>none
  | _=>none
 | .slice t x lo hi mx=>match P.underlying t with
  | some (.slice e)=>match iC P e with
   | some n=>if mx.isSome && !hi.isSome then none else some (.sl n (bm x) (lo.map bm) (hi.map bm) (mx.map bm))
   | none=>none
  | some .string=>if mx.isSome then none else some (.y5 (bm x) (lo.map bm) (hi.map bm))
  | _=>none
 | .build t parts=>match P.underlying t,(P.info? t).bind (·.zero) with
  | some (.struct fs),some z=>if G0 P fs.toList then (Ba P fs parts.toList).map (.bd z.cells) else none
  | _,_=>none
 | .pick c a b=>some (.pk (bm c) (bm a) (bm b))
 | .extract x i=>some (.ex i (bm x))
 | .makeInterface t x=>match P.underlying t with
  | some (.interface _)=>none
  | some _=>some (.mi t (bm x))
  | none=>none
 | .makeFunc fn f c=>some (.mf fn (f.toList.map bm) (c.toList.map bm))
 | _=>none
section
variable {P:Program} {w:World}
theorem nw (s:Sem Value):ro P w (do pure (.value (← s)):Sem Next)=(ro P w s).map Next.value:=by
 rw [cL];cases ro P w s<;>rfl
theorem Wo {op:BinOp} {k:IntKind} {a b:Int} {v:Value} (h:uZ op k a b=some v) (x:TypeId) :
   ro P w (binOp op x (.int k a) (.int k b))=some v:=by
 cases op
 all_goals first
  | (simp only [uZ,Option.some.injEq] at h;subst h;simp only [binOp,Op.intArith,Op.intBits,Op.intCmp,ne_eq,not_true_eq_false,if_false];rfl)
  | (simp only [uZ] at h;split at h
     ·cases h
     ·rename_i hb;simp only [Option.some.injEq] at h;subst h
      simp [binOp,Op.intDiv,hb])
  | (simp [uZ] at h)
theorem Wp {op:BinOp} {x y:Value} {v:Value} (h:u6 op x y=some v) (t:TypeId):ro P w (binOp op t x y)=some v:=by
 unfold u6 at h
 split at h
 ·rename_i k a k' b
  split at h
  ·unfold A9 at h
   split at h
   ·cases h
   ·rename_i hb;simp only [Option.some.injEq] at h;subst h;simp [binOp,Op.shift,hb]
  ·unfold A9 at h
   split at h
   ·cases h
   ·rename_i hb;simp only [Option.some.injEq] at h;subst h;simp [binOp,Op.shift,hb]
  ·rename_i h1 h2
   split at h
   ·rename_i hk;subst hk;exact Wo h t
   ·cases h
 ·rename_i a b;unfold GJ at h;cases op<;>simp only at h<;>try (cases h)
  all_goals first
   | rfl
   | (split at h
      ·cases h
      ·rename_i hb;cases h;simp only [binOp,Op.stringOp];rw [if_neg hb];rfl)
 ·cases h
theorem Wq {op:BinOp} {x y:Operand} {a b:Value} {t:TypeId} {v:Value} (h:u6 op a b=some v):ro P w (eqGuard op t x y a b)=some ():=by
 unfold u6 at h
 split at h
 ·cases op<;>rfl
 ·cases op<;>rfl
 ·cases h
theorem ND {k:y3} {d:TypeDesc} {t:TypeId} {a b:Value} {r:Bool} (hd:P.underlying t=some d) (hk:GZ d=some k) (h:u7 k a b=some r) :
   ro P w (Op.equal t a b)=some r:=by
 unfold Op.equal Op.maxDepth;unfold Op.equalIn;rw [cL,gK,hd,Option.bind_some];unfold u7 at h
 split at h<;>(try split at h)<;>(try cases h)<;>rename_i sk<;>subst sk<;>(cases d<;>simp only [GZ,Option.some.injEq,reduceCtorEq] at hk)<;>rfl
theorem NF {k:y3} {a b:Value} {r:Bool} (h:u7 k a b=some r) (op:BinOp) (t:TypeId) (x y:Operand):ro P w (eqGuard op t x y a b)=some ():=by
 unfold u7 at h
 split at h<;>(try split at h)<;>(try cases h)<;>(cases op<;>rfl)
theorem NG {k:y3} {a b:Value} {r:Bool} (h:u7 k a b=some r) (t:TypeId) :
   binOp .eql t a b=(do pure (.bool (← Op.equal t a b)))∧binOp .neq t a b=(do pure (.bool (!(← Op.equal t a b)))):=by
 unfold u7 at h
 split at h<;>(try split at h)<;>(try cases h)<;>exact ⟨rfl,rfl⟩
theorem G1 {ρ:Env} {e:Operand→Value} (he:∀ x u,(bm x).ev ρ=some u→e x=u):∀ (l:List Operand) (vs:List Value),fI ρ (l.map bm)=some vs→l.map e=vs:=by
 intro l
 induction l with
 | nil=>intro vs h;simp only [List.map_nil,fI,Option.some.injEq] at h;subst h;rfl
 | cons x l ih=>
  intro vs h;simp only [List.map_cons,fI] at h
  split at h
  ·rename_i v Bc h1 h2;simp only [Option.some.injEq] at h;subst h;simp [he x v h1,ih Bc h2]
  ·cases h
theorem Be {ρ:Env} {e:Operand→Value} (he:∀ x u,(bm x).ev ρ=some u→e x=u) (x:Option Operand) (v:Option Value) (h:ob ρ (x.map bm)=some v):x.map e=v:=by
 cases x with
 | none=>simp only [Option.map_none,ob,Option.some.injEq] at h;subst h;rfl
 | some x=>
  simp only [Option.map_some,ob] at h
  split at h
  ·rename_i u hu;simp only [Option.some.injEq] at h;subst h;simp [he x u hu]
  ·cases h
theorem tM {x:Value} {y:Nat} {c:BoundsCode} {d n:Nat} (h:mI (some x) d y=some n):ro P w (Instr.sliceBound x y c)=some n:=by
 unfold mI at h
 split at h
 ·rename_i he;cases he
 ·rename_i k i he;simp only [Option.some.injEq] at he;subst he
  split at h
  ·rename_i hi;simp only [Option.some.injEq] at h;subst h;simp [Instr.sliceBound,asIntOf,cL,hi]
  ·cases h
 ·cases h
theorem NH {Ws:Bool} {len cap m h l:Nat} {lo hi mx:Option Value} (h1:mI mx cap cap=some m) (h2:mI hi len m=some h) (h3:mI lo 0 h=some l)
   (hm:mx.isSome=true→hi.isSome=true):ro P w (Instr.sliceBounds Ws len cap lo hi mx)=some (l,h,m):=by
 unfold Instr.sliceBounds;cases mx with
 | none=>
  simp only [mI,Option.some.injEq] at h1;subst h1;cases hi with
  | none=>
   simp only [mI,Option.some.injEq] at h2;subst h2;cases lo with
   | none=>simp only [mI,Option.some.injEq] at h3;subst h3;simp [cL]
   | some v=>simp [cL,tM h3]
  | some u=>
   cases lo with
   | none=>simp only [mI,Option.some.injEq] at h3;subst h3;simp [cL,tM h2]
   | some v=>simp [cL,tM h3,tM h2]
 | some x=>
  cases hi with
  | none=>simp at hm
  | some u=>
   cases lo with
   | none=>simp only [mI,Option.some.injEq] at h3;subst h3;simp [cL,tM h2,tM h1]
   | some v=>simp [cL,tM h3,tM h2,tM h1]
theorem Wt {t:TypeId} {cs:Array Value} {off n:Nat} {d:TypeDesc} {v:Value} (hd:P.underlying t=some d) (hn:iC P t=some n)
   (h:(if qH d then some (.agg (cs.extract off (off+n))) else cs[off]?)=some v):ro P w (part t cs off)=some v:=by
 unfold part;rw [cL,y0,hd];simp only [Option.map_some,Option.bind_some];cases hb:qH d with
 | true=>
  simp only [hb,if_true,Option.some.injEq] at h;subst h;unfold iC at hn;simp only [if_true,cL,sh,hn,Option.bind_some,fH]
 | false=>
  simp only [hb,Bool.false_eq_true,if_false] at h;simp only [Bool.false_eq_true,if_false,h,fH]
theorem Wu {P:Program} {fs:Array Field} {pl:Nat→Option (Nat×Nat)} (eZ:∀ i f n,fs[i]? = some f→iC P f.type=some n→pl i=some (f.offset,n))
   {ρ:Env} {e:Operand→Value} (he:∀ x u,(bm x).ev ρ=some u→e x=u):∀ (parts:List (Nat×Operand)) (ps:List (Nat×Nat×O)) (vs:List (Nat×Nat×Value)) (cells out:Array Value),
   Ba P fs parts=some ps→kS ρ ps=some vs→jm cells vs=some out→Instr.fill pl cells (parts.map fun p=>(p.1,e p.2))=some out:=by
 intro parts
 induction parts with
 | nil=>
  intro ps vs cells out h1 h2 h3;simp only [Ba,Option.some.injEq] at h1;subst h1;simp only [kS,Option.some.injEq] at h2;subst h2
  simpa [jm,Instr.fill] using h3
 | cons p parts ih=>
  intro ps vs cells out h1 h2 h3;obtain ⟨i,x⟩:=p;simp only [Ba] at h1
  split at h1
  ·rename_i f hf
   split at h1
   ·rename_i n l hn hl;simp only [Option.some.injEq] at h1;subst h1;simp only [kS] at h2
    split at h2
    ·rename_i v l' hv qL;simp only [Option.some.injEq] at h2;subst h2;simp only [jm] at h3
     split at h3
     ·cases h3
     ·rename_i hc;simp only [List.map_cons,Instr.fill,eZ i f n hf hn,he x v hv];rw [if_neg hc];exact ih l l' _ out hl qL h3
    ·cases h2
   ·cases h1
  ·cases h1
theorem Wv:∀ (fs:List Field),G0 P fs=true→∃ l:List (Nat×Nat),ro P w (fs.mapM fun f=>do pure (f.offset,← sizeOf f.type):Sem (List (Nat×Nat)))=some l ∧
   ∀ (i:Nat) (f:Field) (n:Nat),fs[i]? = some f→iC P f.type=some n→l[i]? = some (f.offset,n):=by
 intro fs
 induction fs with
 | nil=>intro _;exact ⟨[],by simp [List.mapM_nil],by simp⟩
 | cons f fs ih=>
  intro h;simp only [G0,List.all_cons,Bool.and_eq_true] at h;obtain ⟨h1,h2⟩:=h;obtain ⟨l,hl,fJ⟩:=ih h2;obtain ⟨n,hn⟩:=Option.isSome_iff_exists.1 h1;refine ⟨(f.offset,n)::l,?_,?_⟩
  ·unfold iC at hn;simp only [List.mapM_cons,cL,sh,hn,Option.bind_some,fH,hl]
  ·intro i g m hg hm;cases i with
   | zero=>
    simp only [List.getElem?_cons_zero,Option.some.injEq] at hg;subst hg;rw [hn] at hm;cases hm;rfl
   | succ i=>exact fJ i g m (by simpa using hg) hm
theorem Ww (d:Nat) (t:TypeId) (xs ys:Array Value) (fs:Array Field) (ht:P.underlying t=some (.struct fs)) (hp:P.stoodInHeld t=false) :
   ro P w (Op.equalIn (d+1) t (.agg xs) (.agg ys))=ro P w (Op.eqFields d xs ys fs.toList):=by
 simp only [Op.equalIn,cL,gK,ht,Option.bind_some,DL,hp,Bool.false_eq_true,if_false];rw [← Array.forIn_toList];generalize fs.toList=fs;clear ht
 induction fs with
 | nil=>simp [Op.eqFields]
 | cons f fs ih=>
  simp only [List.forIn_cons,Op.eqFields];by_cases hn:f.name ≠ "_"
  ·rw [if_pos hn,if_pos hn];simp only [cL];cases ro P w (part f.type xs f.offset) with
   | none=>rfl
   | some a=>
    simp only [Option.bind_some];cases ro P w (part f.type ys f.offset) with
    | none=>rfl
    | some b=>
     simp only [Option.bind_some];cases ro P w (Op.equalIn d f.type a b) with
     | none=>rfl
     | some r=>
      cases r
      ·simp only [Option.bind_some,Bool.not_false,if_true,fH]
      ·simp only [Option.bind_some,Bool.not_true,Bool.false_eq_true,if_false,fH];exact ih
  ·rw [if_neg hn,if_neg hn];exact ih
theorem Wx (d:Nat) (xs ys:Array Value):∀ (fs:List Field) (l:List (Nat×tL)) (r:Bool),Bb P fs=some l→y7 xs ys l=some r→ro P w (Op.eqFields (d+1) xs ys fs)=some r:=by
 intro fs
 induction fs with
 | nil=>
  intro l r h1 h2;simp only [Bb,Option.some.injEq] at h1;subst h1;simp only [y7,Option.some.injEq] at h2;subst h2;rfl
 | cons f fs ih=>
  intro l r h1 h2;simp only [Bb] at h1
  split at h1
  ·rename_i a l' ha hl;simp only [Option.some.injEq] at h1;subst h1;unfold NC at ha
   split at ha
   ·cases ha
   ·rename_i hn;obtain ⟨o,k⟩:=a;simp only [y7] at h2
    split at h2
    ·rename_i a b ny Wy
     split at h2
     ·rename_i c d' hc fc;simp only [Option.some.injEq] at h2;subst h2;have key:∀ (dd:TypeDesc),P.underlying f.type=some dd→qH dd=false→f.offset=o→ro P w (Op.equalIn (d+1) f.type a b)=some c →
          ro P w (Op.eqFields (d+1) xs ys (f::fs))=some (c&&d'):=by
       intro dd nz Wz eS he;simp only [Op.eqFields];rw [if_pos (by simpa using hn)];have hp:∀ (zs:Array Value) (v:Value),zs[o]? = some v→ro P w (part f.type zs f.offset)=some v:=by
        intro zs v hv;unfold part;rw [cL,y0,nz];simp only [Option.map_some,Option.bind_some,Wz,Bool.false_eq_true,if_false,eS,hv,fH]
       simp only [cL,hp xs a ny,hp ys b Wy,he,Option.bind_some];cases c with
       | true=>simp only [Bool.not_true,Bool.false_eq_true,if_false,Bool.true_and];exact ih l' d' hl fc
       | false=>rfl
      split at ha
      ·rename_i kk hk;simp only [Option.some.injEq,Prod.mk.injEq] at ha;obtain ⟨h3,rfl⟩:=ha;cases a with
       | int k1 a1=>cases b with
        | int k2 b1=>
         simp only [qK] at hc
         split at hc
         ·rename_i sk;subst sk;simp only [Option.some.injEq] at hc;subst hc;refine key _ hk rfl h3 ?_;unfold Op.equalIn;simp only [cL,gK,hk,Option.bind_some,if_true,fH]
         ·cases hc
        | _=>simp [qK] at hc
       | _=>cases b<;>simp [qK] at hc
      ·rename_i hk;simp only [Option.some.injEq,Prod.mk.injEq] at ha;obtain ⟨h3,rfl⟩:=ha;cases a with
       | string s1=>cases b with
        | string s2=>
         simp only [qK,Option.some.injEq] at hc;subst hc;refine key _ hk rfl h3 ?_;unfold Op.equalIn;simp only [cL,gK,hk,Option.bind_some,fH];rw [beq_toListBytes]
        | _=>simp [qK] at hc
       | _=>cases b<;>simp [qK] at hc
      ·rename_i hk;simp only [Option.some.injEq,Prod.mk.injEq] at ha;obtain ⟨h3,rfl⟩:=ha;cases a with
       | bool s1=>cases b with
        | bool s2=>
         simp only [qK,Option.some.injEq] at hc;subst hc;refine key _ hk rfl h3 ?_;unfold Op.equalIn;simp only [cL,gK,hk,Option.bind_some,fH]
        | _=>simp [qK] at hc
       | _=>cases b<;>simp [qK] at hc
      ·cases ha
     ·cases h2
    ·cases h2
  ·cases h1
theorem NI {t:TypeId} {l:List (Nat×tL)} (h:DP P t=some l) {neg:Bool} {a b v:Value} (hv:y8 neg l a b=some v) (op:BinOp) (iV:op=if neg then .neq else .eql) (x y:Operand) :
   ((ro P w (eqGuard op t x y a b)).bind fun _=>ro P w (binOp op t a b))=some v:=by
 unfold DP at h
 split at h
 ·rename_i fs gX
  split at h
  ·cases h
  ·rename_i hc;simp only [Bool.or_eq_true,not_or,Bool.not_eq_true] at hc;cases a with
   | agg xs=>cases b with
    | agg ys=>
     simp only [y8] at hv;obtain ⟨r,hr,hv⟩:=Option.map_eq_some_iff.1 hv;have he:ro P w (Op.equal t (.agg xs) (.agg ys))=some r:=by
      unfold Op.equal Op.maxDepth;rw [Ww _ t xs ys fs gX hc.1];exact Wx _ xs ys _ l r h hr
     have hg:ro P w (eqGuard op t x y (.agg xs) (.agg ys))=some ():=by
      have e1:P.eqGuardType P.depth t=false:=hc.2;cases op<;>simp [eqGuard,cL,DL,e1]
     rw [hg,Option.bind_some];subst hv;cases neg with
     | false=>subst iV;simp only [Bool.false_eq_true,if_false,binOp,cL,he,Option.bind_some,fH]
     | true=>subst iV;simp only [if_true,binOp,cL,he,Option.bind_some,fH]
    | _=>simp [y8] at hv
   | _=>cases b<;>simp [y8] at hv
 ·cases h
theorem NJ {o:Oper} {r:R} (h:bZ P o.op=some r) {ρ:Env} {e:Operand→Value} (he:∀ x u,(bm x).ev ρ=some u→e x=u) {v:Value} (hv:r.ev w ρ=some v) :
   ro P w (execOp e o)=some (.value v):=by
 obtain ⟨dst,op,ty,pos,after,guard⟩:=o;simp only at h;unfold execOp;simp only;unfold bZ at h
 split at h
 ·simp only [Option.some.injEq] at h;subst h;simp only [R.ev] at hv;simp [he _ _ hv]
 ·simp only [Option.some.injEq] at h;subst h;simp only [R.ev] at hv;simp [he _ _ hv]
 ·
  simp only [Option.some.injEq] at h;subst h;simp only [R.ev] at hv;rename_i x;obtain ⟨u,hu,hv⟩:=Option.bind_eq_some_iff.1 hv;simp only;rw [he _ _ hu];unfold GG at hv
  split at hv<;>first | (simp only [Option.some.injEq] at hv;subst hv;rfl) | cases hv
 ·
  rename_i s x f
  split at h
  ·rename_i fs gX
   split at h
   ·rename_i fd so
    split at h
    ·rename_i n hn;simp only [Option.some.injEq] at h;subst h;simp only [R.ev] at hv;obtain ⟨u,hu,hv⟩:=Option.bind_eq_some_iff.1 hv;rw [nw,he _ _ hu];unfold GH at hv
     split at hv
     ·rename_i a;simp only [Option.some.injEq] at hv;subst hv;unfold iC at hn;simp only [Instr.fieldAt,cL,gK,gX,Option.bind_some,so,Instr.sureAddr,fH,fieldPlace,sh,hn];simp
     ·cases hv
    ·cases h
   ·cases h
  ·cases h
 ·
  rename_i t x
  split at h
  ·rename_i d n hd hn;simp only [Option.some.injEq] at h;subst h;rw [nw];cases hb:qH d with
   | true=>
    simp only [hb,if_true,R.ev] at hv;obtain ⟨u,hu,hv⟩:=Option.bind_eq_some_iff.1 hv;rw [he _ _ hu];unfold gp at hv
    split at hv
    ·rename_i a;unfold iC at hn;simp only [Instr.loadAt,Instr.sureAddr,cL,fH,Option.bind_some,loadVar,y0,hd,Option.map_some,hb,if_true,sh,hn,NA];obtain ⟨cs,bH,hv⟩:=Option.map_eq_some_iff.1 hv;subst hv;simp [bH]
    ·cases hv
   | false=>
    simp only [hb,Bool.false_eq_true,if_false,R.ev] at hv;obtain ⟨u,hu,hv⟩:=Option.bind_eq_some_iff.1 hv;rw [he _ _ hu];unfold y6 at hv
    split at hv
    ·rename_i a;simp only [Instr.loadAt,Instr.sureAddr,cL,fH,Option.bind_some,loadVar,y0,hd,Option.map_some,hb,Bool.false_eq_true,if_false,GD,hv]
    ·cases hv
  ·cases h
 ·
  rename_i op t x y yt;rw [nw,cL];have NK:∀ {v},(R.bi op (bm x) (bm y)).ev w ρ=some v→((ro P w (eqGuard op t x y (e x) (e y))).bind fun _=>ro P w (binOp op t (e x) (e y)))=some v:=by
   intro v hv;simp only [R.ev] at hv;obtain ⟨a,ha,hv⟩:=Option.bind_eq_some_iff.1 hv;obtain ⟨b,hb,hv⟩:=Option.bind_eq_some_iff.1 hv;rw [he _ _ ha,he _ _ hb,Wq hv,Option.bind_some,Wp hv]
  split at h
  ·simp only [Option.some.injEq] at h;subst h;rw [NK hv];rfl
  ·simp only [Option.some.injEq] at h;subst h;rw [NK hv];rfl
  ·rename_i d y9 DQ hd
   split at h
   ·rename_i k hk
    split at h
    ·cases h
    ·rename_i hg;simp only [Option.some.injEq] at h;subst h;simp only [R.ev] at hv;obtain ⟨a,ha,hv⟩:=Option.bind_eq_some_iff.1 hv;obtain ⟨b,hb,hv⟩:=Option.bind_eq_some_iff.1 hv;obtain ⟨r,hr,hv⟩:=Option.map_eq_some_iff.1 hv;subst hv;rw [he _ _ ha,he _ _ hb,NF hr,Option.bind_some,(NG hr t).1,cL,ND hd hk hr];simp
   ·rename_i k hk
    split at h
    ·cases h
    ·rename_i hg;simp only [Option.some.injEq] at h;subst h;simp only [R.ev] at hv;obtain ⟨a,ha,hv⟩:=Option.bind_eq_some_iff.1 hv;obtain ⟨b,hb,hv⟩:=Option.bind_eq_some_iff.1 hv;obtain ⟨r,hr,hv⟩:=Option.map_eq_some_iff.1 hv;subst hv;rw [he _ _ ha,he _ _ hb,NF hr,Option.bind_some,(NG hr t).2,cL,ND hd hk hr];simp
   ·obtain ⟨l,hl,h1⟩:=Option.map_eq_some_iff.1 h;subst h1;simp only [R.ev] at hv;obtain ⟨a,ha,hv⟩:=Option.bind_eq_some_iff.1 hv;obtain ⟨b,hb,hv⟩:=Option.bind_eq_some_iff.1 hv;rw [he _ _ ha,he _ _ hb,NI hl hv .eql rfl x y];rfl
   ·obtain ⟨l,hl,h1⟩:=Option.map_eq_some_iff.1 h;subst h1;simp only [R.ev] at hv;obtain ⟨a,ha,hv⟩:=Option.bind_eq_some_iff.1 hv;obtain ⟨b,hb,hv⟩:=Option.bind_eq_some_iff.1 hv;rw [he _ _ ha,he _ _ hb,NI hl hv .neq rfl x y];rfl
   ·cases h
  ·cases h
 ·
  simp only [Option.some.injEq] at h;subst h;simp only [R.ev] at hv;obtain ⟨u,hu,hv⟩:=Option.bind_eq_some_iff.1 hv;rw [nw,he _ _ hu];unfold GK at hv
  split at hv<;>first | (simp only [Option.some.injEq] at hv;subst hv;rfl) | cases hv
 ·
  simp only [Option.some.injEq] at h;subst h;simp only [R.ev] at hv;obtain ⟨u,hu,hv⟩:=Option.bind_eq_some_iff.1 hv;rw [nw,he _ _ hu];unfold GL at hv
  split at hv<;>first | (simp only [Option.some.injEq] at hv;subst hv;rfl) | cases hv
 ·
  rename_i s d x
  split at h
  ·rename_i ks kd hs hd;simp only [Option.some.injEq] at h;subst h;simp only [R.ev] at hv;obtain ⟨u,hu,hv⟩:=Option.bind_eq_some_iff.1 hv;rw [nw,he _ _ hu];unfold GM at hv
   split at hv
   ·simp only [Option.some.injEq] at hv;subst hv;simp only [convert,cL,gK,hs,hd,Option.bind_some];rfl
   ·cases hv
  ·cases h
 ·
  rename_i args argTypes;have key:∀ t x,argTypes[0]? = some t→args.toList=[x]→∀ (q:Value) (n:Value),e x=q→ro P w (Builtin.len_ argTypes ty #[q])=some n →
      ro P w (do let d ← resolve e { callee:=Callee.builtin Builtin.len,args:=args,argTypes:=argTypes} ty;invoke d.target d.args)=some (.value n):=by
   intro t x ht hx q n hq hn;have bQ:args = #[x]:=by cases args;simp_all
   subst bQ;simp only [resolve,cL,fH,Option.bind_some,invoke,builtin,List.map_toArray,List.map_cons,List.map_nil,hq,hn]
  split at h
  ·rename_i t x ht hx
   split at h
   ·rename_i e' hu;simp only [Option.some.injEq] at h;subst h;simp only [R.ev] at hv;obtain ⟨u,xj,hv⟩:=Option.bind_eq_some_iff.1 hv;refine key t x ht hx u v (he _ _ xj) ?_;unfold GN at hv
    split at hv
    ·simp only [Option.some.injEq] at hv;subst hv;simp [Builtin.len_,ht,cL,gK,hu,goInt]
    ·cases hv
   ·rename_i hu;simp only [Option.some.injEq] at h;subst h;simp only [R.ev] at hv;obtain ⟨u,xj,hv⟩:=Option.bind_eq_some_iff.1 hv;refine key t x ht hx u v (he _ _ xj) ?_;unfold GO at hv
    split at hv
    ·simp only [Option.some.injEq] at hv;subst hv;simp [Builtin.len_,ht,cL,gK,hu,goInt]
    ·cases hv
   ·rename_i k' e' hu;simp only [Option.some.injEq] at h;subst h;simp only [R.ev] at hv;obtain ⟨u,xj,hv⟩:=Option.bind_eq_some_iff.1 hv;refine key t x ht hx u v (he _ _ xj) ?_;unfold DM at hv
    split at hv
    ·simp only [Option.some.injEq] at hv;subst hv;simp [Builtin.len_,ht,cL,gK,hu,goInt]
    ·rename_i r
     split at hv
     ·rename_i es ck hr;simp only [Option.some.injEq] at hv;subst hv;simp [Builtin.len_,ht,cL,gK,hu,goInt,getObj,ro,hr]
     ·cases hv
    ·cases hv
   ·cases h
  ·cases h
 ·
  rename_i args argTypes
  split at h
  ·rename_i t x ht hx;have bQ:args = #[x]:=by cases args;simp_all
   subst bQ
   split at h
   ·rename_i e' hu;simp only [Option.some.injEq] at h;subst h;simp only [R.ev] at hv;obtain ⟨u,xj,hv⟩:=Option.bind_eq_some_iff.1 hv;have hq:=he _ _ xj;unfold GP at hv
    split at hv
    ·simp only [Option.some.injEq] at hv;subst hv;simp [resolve,cL,invoke,builtin,hq,Builtin.cap_,ht,gK,hu,goInt]
    ·cases hv
   ·cases h
  ·cases h
 ·
  rename_i args argTypes
  split at h
  ·rename_i x y hx;have bQ:args = #[x,y]:=by cases args;simp_all
   subst bQ;simp only [Option.some.injEq] at h;subst h;simp only [R.ev] at hv;obtain ⟨a,ha,hv⟩:=Option.bind_eq_some_iff.1 hv;obtain ⟨b,hb,hv⟩:=Option.bind_eq_some_iff.1 hv;have ea:=he _ _ ha;have eb:=he _ _ hb;unfold DN at hv
   split at hv
   ·simp only [Option.some.injEq] at hv;subst hv;simp [resolve,cL,invoke,builtin,ea,eb,Builtin.min_,List.foldlM,Builtin.min2]
   ·cases hv
  ·cases h
 ·
  rename_i args argTypes
  split at h
  ·rename_i x y hx;have bQ:args = #[x,y]:=by cases args;simp_all
   subst bQ;simp only [Option.some.injEq] at h;subst h;simp only [R.ev] at hv;obtain ⟨a,ha,hv⟩:=Option.bind_eq_some_iff.1 hv;obtain ⟨b,hb,hv⟩:=Option.bind_eq_some_iff.1 hv;have ea:=he _ _ ha;have eb:=he _ _ hb;unfold DN at hv
   split at hv
   ·simp only [Option.some.injEq] at hv;subst hv;simp [resolve,cL,invoke,builtin,ea,eb,Builtin.max_,List.foldlM,Builtin.max2]
   ·cases hv
  ·cases h
 ·
  rename_i t x i
  split at h
  ·rename_i el hu;obtain ⟨n,hn,h⟩:=Option.map_eq_some_iff.1 h;subst h;simp only [R.ev] at hv;obtain ⟨a,ha,hv⟩:=Option.bind_eq_some_iff.1 hv;obtain ⟨b,hb,hv⟩:=Option.bind_eq_some_iff.1 hv;rw [nw,he _ _ ha,he _ _ hb];unfold GQ at hv
   split at hv
   ·rename_i ad len c k j
    split at hv
    ·rename_i hj;simp only [Option.some.injEq] at hv;subst hv;unfold iC at hn;simp only [Instr.indexAt,asIntOf,cL,fH,Option.bind_some,gK,hu,hj,if_true,sh,hn,and_self,Option.map_some]
    ·cases hv
   ·cases hv
  ·cases h
 ·
  rename_i t x i
  split at h
  ·rename_i hu;simp only [Option.some.injEq] at h;subst h;simp only [R.ev] at hv;obtain ⟨a,ha,hv⟩:=Option.bind_eq_some_iff.1 hv;obtain ⟨b,hb,hv⟩:=Option.bind_eq_some_iff.1 hv;rw [nw,he _ _ ha,he _ _ hb];unfold GR at hv
   split at hv
   ·rename_i s k j
    split at hv
    ·rename_i hj;obtain ⟨c,hc,hv⟩:=Option.map_eq_some_iff.1 hv;subst hv;simp only [Instr.index,asIntOf,cL,fH,Option.bind_some,gK,hu,hj,if_true,hc,Option.map_some]
    ·cases hv
   ·cases hv
  ·cases h
 ·
  rename_i t x f
  split at h
  ·rename_i fs gX
   split at h
   ·rename_i fd so
    split at h
    ·rename_i d n hd hn;simp only [Option.some.injEq] at h;subst h;rw [nw];have key:∀ cs,e x = .agg cs→(if qH d then some (.agg (cs.extract fd.offset (fd.offset+n))) else cs[fd.offset]?)=some v →
         (ro P w (Instr.field t (e x) f)).map Next.value=some (.value v):=by
      intro cs hx hc;simp only [Instr.field,cL,gK,gX,Option.bind_some,so,hx,asAgg,fH,Wt hd hn hc,Option.map_some]
     cases hb:qH d with
     | true=>
      simp only [hb,if_true,R.ev] at hv;obtain ⟨u,hu,hv⟩:=Option.bind_eq_some_iff.1 hv;unfold GU at hv
      split at hv
      ·rename_i cs;exact key cs (he _ _ hu) (by simpa [hb] using hv)
      ·cases hv
     | false=>
      simp only [hb,Bool.false_eq_true,if_false,R.ev] at hv;obtain ⟨u,hu,hv⟩:=Option.bind_eq_some_iff.1 hv;unfold GS at hv
      split at hv
      ·rename_i cs;exact key cs (he _ _ hu) (by simpa [hb] using hv)
      ·cases hv
    ·cases h
   ·cases h
  ·cases h
 ·
  rename_i t x lo hi mx
  split at h
  ·rename_i el hu
   split at h
   ·rename_i n hn
    split at h
    ·cases h
    ·rename_i WA;simp only [Option.some.injEq] at h;subst h;simp only [R.ev] at hv;obtain ⟨a,ha,hv⟩:=Option.bind_eq_some_iff.1 hv;obtain ⟨l,hl,hv⟩:=Option.bind_eq_some_iff.1 hv;obtain ⟨hh,G2,hv⟩:=Option.bind_eq_some_iff.1 hv;obtain ⟨m,hm,hv⟩:=Option.bind_eq_some_iff.1 hv;have qL:=Be he lo l hl;have ze:=Be he hi hh G2;have fP:=Be he mx m hm;rw [nw,he _ _ ha,qL,ze,fP];unfold GW at hv
     split at hv
     ·rename_i ad len c
      split at hv
      ·cases hv
      ·rename_i m1 e1
       split at hv
       ·cases hv
       ·rename_i h1 e2
        split at hv
        ·cases hv
        ·rename_i l1 e3;simp only [Option.some.injEq] at hv;subst hv;have WB:m.isSome=true→hh.isSome=true:=by
          subst fP;subst ze;intro hms;cases hi<;>cases mx<;>simp_all
         unfold iC at hn;simp only [Instr.sliceAt,Instr.slice,cL,gK,hu,Option.bind_some,NH e1 e2 e3 WB,sh,hn,fH,Option.map_some]
     ·cases hv
   ·cases h
  ·rename_i hu
   split at h
   ·cases h
   ·rename_i WA;simp only [Option.some.injEq] at h;subst h;simp only [R.ev] at hv;obtain ⟨a,ha,hv⟩:=Option.bind_eq_some_iff.1 hv;obtain ⟨l,hl,hv⟩:=Option.bind_eq_some_iff.1 hv;obtain ⟨hh,G2,hv⟩:=Option.bind_eq_some_iff.1 hv;have qL:=Be he lo l hl;have ze:=Be he hi hh G2;have WC:mx=none:=by cases mx<;>simp_all
    subst WC;rw [nw,he _ _ ha,qL,ze];unfold GX at hv
    split at hv
    ·split at hv
     ·cases hv
     ·rename_i h1 e2
      split at hv
      ·cases hv
      ·rename_i l1 e3;simp only [Option.some.injEq] at hv;subst hv;simp only [Instr.sliceAt,Instr.slice,cL,gK,hu,Option.bind_some,Option.map_none,Option.isSome_none,Bool.false_eq_true,if_false];rw [NH rfl e2 e3 (by simp)];simp
    ·cases hv
  ·cases h
 ·
  rename_i t parts
  split at h
  ·rename_i fs z gX hz
   split at h
   ·rename_i cN;obtain ⟨ps,gq,h⟩:=Option.map_eq_some_iff.1 h;subst h;simp only [R.ev] at hv;obtain ⟨vs,mJ,hv⟩:=Option.bind_eq_some_iff.1 hv;obtain ⟨out,eJ,hv⟩:=Option.map_eq_some_iff.1 hv;subst hv;obtain ⟨l,hl,fJ⟩:=Wv (P:=P) (w:=w) fs.toList cN;rw [nw];have gY:ro P w (fs.mapM fun f=>do pure (f.offset,← sizeOf f.type):Sem (Array (Nat×Nat)))=some l.toArray:=by
     rw [Array.mapM_eq_mapM_toList];simp only [A8,hl,Option.map_some]
    have hf:=Wu (P:=P) (fs:=fs) (pl:=fun i=>l.toArray[i]?) (fun i f n h1 h2=>by simpa using fJ i f n (by simpa using h1) h2) he parts.toList ps vs z.cells out gq mJ eJ;simp only [Instr.build,cL,Nz,hz,Option.bind_some,gK,gX,gY];have e2:(parts.map fun x=>(x.1,e x.2)).toList=parts.toList.map fun p=>(p.1,e p.2):=by simp
    simp only [e2,hf,fH,Option.map_some]
   ·cases h
  ·cases h
 ·
  simp only [Option.some.injEq] at h;subst h;simp only [R.ev] at hv;obtain ⟨c,hc,hv⟩:=Option.bind_eq_some_iff.1 hv;obtain ⟨a,ha,hv⟩:=Option.bind_eq_some_iff.1 hv;obtain ⟨b,hb,hv⟩:=Option.bind_eq_some_iff.1 hv;unfold GY at hv
  split at hv
  ·simp only [Option.some.injEq] at hv;subst hv;simp only [he _ _ hc,he _ _ ha,he _ _ hb,asBool,cL,fH,Option.bind_some]
  ·cases hv
 ·
  simp only [Option.some.injEq] at h;subst h;simp only [R.ev] at hv;obtain ⟨u,hu,hv⟩:=Option.bind_eq_some_iff.1 hv;rw [nw,he _ _ hu];unfold qJ at hv
  split at hv
  ·simp only [Instr.extract,hv,fH,Option.map_some]
  ·cases hv
 ·
  rename_i t x
  split at h
  ·cases h
  ·rename_i d hd WD;simp only [Option.some.injEq] at h;subst h;simp only [R.ev] at hv;obtain ⟨u,hu,hv⟩:=Option.map_eq_some_iff.1 hv;subst hv;rw [nw,he _ _ hu];simp only [Instr.makeInterface,cL,gK,WD,Option.bind_some];cases d<;>first | rfl | (exact absurd rfl (hd _))
  ·cases h
 ·
  rename_i fn f c;simp only [Option.some.injEq] at h;subst h;simp only [R.ev] at hv;obtain ⟨fv,hf,hv⟩:=Option.bind_eq_some_iff.1 hv;obtain ⟨cv,hc,hv⟩:=Option.map_eq_some_iff.1 hv;subst hv;rw [nw];have h1:=G1 he _ _ hf;have h2:=G1 he _ _ hc;simp only [Instr.makeFunc,fH,Option.map_some,← h1,← h2];cases f;cases c;simp
 ·cases h
end
end
section
open Go
inductive E where
 | st (n:Nat) (x v:O)
 | bx (t:Nat) (x:O)
 | al (t:Nat) (zero:Value)
 | bs (el len:Nat) (cells:Array Value) (parts:List (Nat×Nat×O))
 | ms (el sz bytes:Nat) (zero:Array Value) (len cap:O)
 | ap (el sz bytes:Nat) (zero:Array Value) (s x:O)
 | cp (sz:Nat) (d s:O)
 | call (f:Nat) (args:List O)
 | raw (o:Oper)
 deriving Inhabited
def sp (cs:Array Value) (o:Nat) (vs:List Value):Array Value:=(cs.toList.take o++vs++cs.toList.drop (o+vs.length)).toArray
def sq:Exit→Act→World→Prop:=fun _ _ _=>False
def Agree (ρ:Env) (a:Act):Prop:=∀ x u,(bm x).ev ρ=some u→a.eval x=u
def xk (P:Program) (o:Oper) (ρ:Env) (w:World) (K:Value→World→Prop):Prop:=
 ∀ a,Agree ρ a→o.wp P a w (fun a' w'=>∃ v,a'=a.put o.dst v∧K v w') sq
def Row (w:World) (a:Addr) (cs:Array Value) (T:TypeId):Prop:=a.spot=none∧w.heap[a.block]? = some (.cells cs T (0,0))
def pM (w:World) (a:Option Addr) (n:Nat) (vs:List Value):Prop:=vs.length=n∧∀ ad,a=some ad→∀ j v,vs[j]? = some v→w.cell? (ad.add j)=some v
def E.wp (P:Program) (w:World) (ρ:Env) (K:Value→World→Prop):E→Prop
 | .st n x y=>∃ a v cs T,x.ev ρ=some (.pointer (some a))∧y.ev ρ=some v∧v.cells.size=n∧Row w a cs T∧a.off+v.cells.toList.length≤cs.size∧(∀ u∈v.cells.toList,u.oneCell'=true) ∧
     K undef (w.setRow a.block (sp cs a.off v.cells.toList))
 | .bx t x=>∃ v,x.ev ρ=some v∧K (.pointer (some ⟨w.heap.size,0,none⟩)) (w.alloc (.cells v.cells t))
 | .al t z=>K (.pointer (some ⟨w.heap.size,0,none⟩)) (w.alloc (.cells z.cells t))
 | .bs el len cells parts=>∃ ps cs,kS ρ parts=some ps∧jm cells ps=some cs∧K (.slice (some ⟨w.heap.size,0,none⟩) len len) (w.alloc (.cells cs el))
 | .ms el sz bytes zero l c=>∃ kl kc ln cn,l.ev ρ=some (.int kl ln)∧c.ev ρ=some (.int kc cn)∧0≤ln∧ln≤cn∧(bytes:Int)*cn≤281474976710656∧cn≤9223372036854775807 ∧
     K (.slice (some ⟨w.heap.size,0,none⟩) ln.toNat cn.toNat) (w.alloc (.cells (madeCells zero (cn.toNat*sz)) el))
 | .ap el sz bytes zero s x=>∃ sa n cap xa m c oY news,s.ev ρ=some (.slice sa n cap)∧x.ev ρ=some (.slice xa m c)∧(sa=none→n=0∧cap=0)∧(xa=none→m=0) ∧
     pM w sa (n*sz) oY∧pM w xa (m*sz) news∧(∀ u∈news,u.oneCell'=true)∧(n+m:Nat)*bytes≤140737488355328∧n+m≤9223372036854775807 ∧
     (n+m≤cap→sa=none→K (.slice none 0 0) w) ∧
     (n+m≤cap→∀ a,sa=some a→∃ cs T,Row w a cs T∧a.off+n*sz+news.length≤cs.size∧K (.slice sa (n+m) cap) (w.setRow a.block (sp cs (a.off+n*sz) news))) ∧
     (cap < n+m→∀ nc w1,n+m≤nc→w1=w.drew.alloc (.cells (oY.toArray++news.toArray++Builtin.zeroCells zero (nc - (n+m))) el)→K (.slice (some ⟨w.heap.size,0,none⟩) (n+m) nc) w1)
 | .cp sz d s=>∃ da dn dc sa sn sc news,d.ev ρ=some (.slice da dn dc)∧s.ev ρ=some (.slice sa sn sc)∧(sa=none→sn=0)∧pM w sa (Nat.min sn dn*sz) news∧(∀ u∈news,u.oneCell'=true) ∧
     (da=none→K (.int .i64 (Nat.min sn dn:Nat)) w) ∧
     (∀ a,da=some a→∃ cs T,Row w a cs T∧a.off+news.length≤cs.size∧K (.int .i64 (Nat.min sn dn:Nat)) (w.setRow a.block (sp cs a.off news)))
 | .call f args=>∃ vs,fI ρ args=some vs∧Calls P f vs.toArray w fun e w'=>∃ v,e = .returned v∧K v w'
 | .raw o=>xk P o ρ w K
theorem kT {P:Program} {o:Oper} {ρ:Env} {w:World} {K:Value→World→Prop} (h:∀ a,Agree ρ a→∃ v w',(execOp a.eval o).run P w = .ok (.value v) w'∧K v w'):xk P o ρ w K:=by
 intro a ha;obtain ⟨v,w',hr,hk⟩:=h a ha;unfold Oper.wp;rw [hr];exact ⟨v,rfl,hk⟩
theorem G3 {P:Program} {o:Oper} {ρ:Env} {w:World} {K:Value→World→Prop} (h:∀ a,Agree ρ a→∃ w',(execOp a.eval o).run P w = .ok .skip w'∧K undef w'):xk P o ρ w K:=by
 intro a ha;obtain ⟨w',hr,hk⟩:=h a ha;unfold Oper.wp;rw [hr];exact ⟨undef,rfl,hk⟩
theorem zg {P:Program} {o:Oper} {ρ:Env} {w:World} {K:Value→World→Prop} {r:R} {v:Value} (hr:bZ P o.op=some r) (hv:r.ev w ρ=some v) (hk:K v w):xk P o ρ w K:=
 kT fun a ha=>⟨v,w,lK (NJ hr ha hv),hk⟩
theorem WE {P:Program} {o:Oper} {ρ:Env} {w:World} {K K':Value→World→Prop} (hk:∀ v w',K v w'→K' v w') (h:xk P o ρ w K):xk P o ρ w K':=
 fun a ha=>Oper.wp_mono (fun a' w' ⟨v,e,k⟩=>⟨v,e,hk _ _ k⟩) (h a ha)
def xl (P:Program) (o:Oper):E:=
 match o.op with
 | .store t x v=>match P.underlying t,iC P t with
  | some _,some n=>.st n (bm x) (bm v)
  | _,_=>.raw o
 | .box t x=>.bx t (bm x)
 | .alloc t=>match (P.info? t).bind (·.zero) with
  | some z=>.al t z
  | none=>.raw o
 | .buildSlice t len parts=>match P.underlying t with
  | some (.slice el)=>match iC P el,(P.info? el).bind (·.zero) with
   | some n,some z=>if len*n≤2 ^ 24&&0 < len*n then
       .bs el len ((Array.range (len*n)).map (z.cells[· % z.cells.size]!)) (parts.toList.map fun p=>(p.1*n,n,bm p.2)) else .raw o
   | _,_=>.raw o
  | _=>.raw o
 | .makeSlice t l c=>match P.underlying t with
  | some (.slice el)=>match P.info? el with
   | some i=>match i.zero with
    | some z=>.ms el i.size i.bytes z.cells (bm l) (bm c)
    | none=>.raw o
   | none=>.raw o
  | _=>.raw o
 | .call { callee:=.builtin .append,args,argTypes}=>match args.toList,argTypes.toList with
  | [s,x],[t,u]=>match P.underlying t with
   | some (.slice el)=>match P.info? el with
    | some i=>match i.zero with
     | some z=>if t=u&&z.cells.size=i.size&&0 < i.size then .ap el i.size i.bytes z.cells (bm s) (bm x) else .raw o
     | none=>.raw o
    | none=>.raw o
   | _=>.raw o
  | _,_=>.raw o
 | .call { callee:=.builtin .copy,args,argTypes}=>match args.toList,argTypes.toList with
  | [d,s],[t,u]=>match P.underlying t with
   | some (.slice el)=>match iC P el with
    | some n=>if t=u then .cp n (bm d) (bm s) else .raw o
    | none=>.raw o
   | _=>.raw o
  | _,_=>.raw o
 | .call { callee:=.value (.func f),args,..}=>match P.funcs[f]? with
  | some fn=>if fn.body.isSome && !(fn.name == "runtime.NumGoroutine") then .call f (args.toList.map bm) else .raw o
  | none=>.raw o
 | _=>.raw o
section
variable {P:Program} {w:World}
theorem WG {ρ:Env} {e:Operand→Value} (he:∀ x u,(bm x).ev ρ=some u→e x=u) (n:Nat) (pl:Nat→Option (Nat×Nat)) (eZ:∀ i,pl i=some (i*n,n)) :
   ∀ (parts:List (Nat×Operand)) (vs:List (Nat×Nat×Value)) (cells out:Array Value),kS ρ (parts.map fun p=>(p.1*n,n,bm p.2))=some vs→jm cells vs=some out →
    Instr.fill pl cells (parts.map fun p=>(p.1,e p.2))=some out:=by
 intro parts
 induction parts with
 | nil=>
  intro vs cells out h1 h2;simp only [List.map_nil,kS,Option.some.injEq] at h1;subst h1
  simpa [jm,Instr.fill] using h2
 | cons p parts ih=>
  intro vs cells out h1 h2;simp only [List.map_cons,kS] at h1
  split at h1
  ·rename_i v l hv hl;simp only [Option.some.injEq] at h1;subst h1;simp only [jm] at h2
   split at h2
   ·cases h2
   ·rename_i hc;simp only [List.map_cons,Instr.fill,eZ,he _ v hv];rw [if_neg hc];exact ih l _ out hl h2
  ·cases h1
theorem Bf {size n len cap:Nat} {xa:Option Addr} {cs:List Value} (h:pM w xa (n*size) cs) (hx:xa=none→n=0):(Builtin.firstCells size n (.slice xa len cap)).run P w = .ok cs.toArray w:=by
 cases xa with
 | none=>
  have:=hx rfl;subst this;have hl:cs=[]:=List.eq_nil_of_length_eq_zero (by simpa using h.1);subst hl;simp [run_firstCells_none]
 | some ad=>exact run_firstCells_some w size n ad len cap cs h.1 (h.2 ad rfl)
theorem WH (t ty e:TypeId) (i:TypeInfo) (z:Value) (ht:P.underlying t=some (.slice e)) (hi:P.info? e=some i) (hz:i.zero=some z) (NL:z.cells.size=i.size)
   {sa:Option Addr} {n cap:Nat} {xa:Option Addr} {m c:Nat} {oY news:List Value}
   (oZ:sa=none→n=0∧cap=0) (ny:xa=none→m=0) (ho:pM w sa (n*i.size) oY) (hn:pM w xa (m*i.size) news) (h1:∀ u∈news,u.oneCell'=true)
   (hb:(n+m)*i.bytes≤140737488355328) (xm:n+m≤9223372036854775807) {K:Value→World→Prop}
   (k0:n+m≤cap→sa=none→K (.slice none 0 0) w)
   (k1:n+m≤cap→∀ a,sa=some a→∃ cs T,Row w a cs T∧a.off+n*i.size+news.length≤cs.size∧K (.slice sa (n+m) cap) (w.setRow a.block (sp cs (a.off+n*i.size) news)))
   (k2:cap < n+m→∀ nc w1,n+m≤nc→w1=w.drew.alloc (.cells (oY.toArray++news.toArray++Builtin.zeroCells z.cells (nc - (n+m))) e)→K (.slice (some ⟨w.heap.size,0,none⟩) (n+m) nc) w1) :
   ∃ v' w',(Builtin.append_ #[t,t] ty #[.slice sa n cap,.slice xa m c]).run P w = .ok v' w'∧K v' w':=by
 by_cases xn:n+m≤cap
 ·cases hs:sa with
  | none=>
   obtain ⟨rfl,rfl⟩:=oZ hs;have hm:m=0:=by omega
   subst hm;have sr:news=[]:=List.eq_nil_of_length_eq_zero (by simpa using hn.1);subst sr;refine ⟨_,_,?_,k0 xn hs⟩;have hf:=Bf (P:=P) (len:=0) (cap:=c) hn (fun _=>rfl);have gu:(Builtin.firstCells i.size 0 (.slice xa 0 c)).run P w = .ok #[] w:=by simpa using hf
   simp [Builtin.append_,run_underlying ht,sizeOf,typeInfo,hi,Builtin.lenOf,gu]
  | some a=>
   obtain ⟨cs,T,⟨o0,hrow⟩,km,hk⟩:=k1 xn a hs;subst hs;obtain ⟨b,off,spot⟩:=a;simp only at o0;subst o0;refine ⟨_,_,?_,hk⟩;have hf:=Bf (P:=P) (len:=m) (cap:=c) hn ny;have bz:=run_storeCells_at P b (off+n*i.size) T news 0 cs w hrow (by simpa using km) h1;simp only [Nat.add_zero] at bz;simp [Builtin.append_,run_underlying ht,sizeOf,typeInfo,hi,Builtin.lenOf,xn,hf,Addr.add_lit,bz,sp]
 ·have aP:cap < n+m:=by omega
  refine ⟨_,_,?_,k2 aP _ _ (grownCap_ge w (n+m) cap e) rfl⟩;have G4:pM w.drew xa (m*i.size) news:=⟨hn.1,fun ad h j v hv=>by simpa using hn.2 ad h j v hv⟩;have Bg:pM w.drew sa (n*i.size) oY:=⟨ho.1,fun ad h j v hv=>by simpa using ho.2 ad h j v hv⟩;have hf:=Bf (P:=P) (len:=m) (cap:=c) G4 ny;have jM:=Bf (P:=P) (len:=n) (cap:=cap) Bg (fun h=>(oZ h).1);have WI:¬ (281474976710656 < Builtin.nextslicecap (n+m) cap*i.bytes):=by have:=growslice_fits aP hb;omega
  have WJ:¬ (9223372036854775807 < ((n:Int)+(m:Int))):=by omega
  simp [Builtin.append_,run_underlying ht,sizeOf,typeInfo,zeroValue,hi,hz,Builtin.lenOf,xn,WJ,WI,Question.forced,hf,jM,newRow,grownCap]
  congr 2
  apply Array.ext';simp [List.append_assoc]
theorem Bh {o:Oper} {ρ:Env} {K:Value→World→Prop} (h:(xl P o).wp P w ρ K):xk P o ρ w K:=by
 obtain ⟨dst,op,ty,pos,after,guard⟩:=o;unfold xl at h;simp only at h
 split at h
 ·
  rename_i t x v
  split at h
  ·rename_i d n hd hn;obtain ⟨a,u,cs,T,hx,hv,cZ,⟨o0,hrow⟩,km,h1,hk⟩:=h;refine G3 fun act ha=>⟨_,?_,hk⟩
   have e1:=ha _ _ hx;have e2:=ha _ _ hv;obtain ⟨b,off,spot⟩:=a;simp only at o0;subst o0;obtain ⟨i,hi,eT⟩:=Option.map_eq_some_iff.1 hn;have bz:=run_storeCells_at P b off T u.cells.toList 0 cs w hrow (by simpa using km) h1;simp only [Nat.add_zero] at bz;have Bi:¬ (u.cells.size≠i.size):=by rw [cZ,eT];simp
   simp [execOp,e1,e2,Instr.storeAt,Instr.sureAddr,storeVar,sizeOf,typeInfo,hi,Bi,bz,sp]
  ·exact h
 ·
  obtain ⟨v,hv,hk⟩:=h;refine kT fun act ha=>⟨_,_,?_,hk⟩
  have e2:=ha _ _ hv;simp [execOp,e2,Instr.box,newVar,newRow]
 ·
  rename_i t
  split at h
  ·rename_i z hz;refine kT fun act ha=>⟨_,_,?_,h⟩
   obtain ⟨i,hi,hz⟩:=Option.bind_eq_some_iff.1 hz;simp [execOp,Instr.alloc,newVar,newRow,zeroValue,typeInfo,hi,hz]
  ·exact h
 ·
  rename_i t len parts
  split at h
  ·rename_i el hu
   split at h
   ·rename_i n z hn hz
    split at h
    ·rename_i hc;simp only [Bool.and_eq_true,decide_eq_true_eq] at hc;obtain ⟨ps,cs,gq,bH,hk⟩:=h;refine kT fun act ha=>⟨_,_,?_,hk⟩
     obtain ⟨i,hi,eT⟩:=Option.map_eq_some_iff.1 hn;rw [hi] at hz;have WK:i.zero=some z:=by simpa using hz
     have hf:=WG ha n (fun i=>some (i*n,n)) (fun _=>rfl) parts.toList ps _ cs gq bH;have h1:¬ (len*n > 2 ^ 24):=by have:=hc.1;omega
     have h2:¬ (len*n=0):=by have:=hc.2;omega
     have hp:(parts.map fun x=>(x.1,act.eval x.2)).toList=parts.toList.map fun p=>(p.1,act.eval p.2):=by simp
     subst eT;have g1:ro P w (underlying t)=some (.slice el):=by rw [gK,hu]
     have g2:ro P w (sizeOf el)=some i.size:=by rw [sh,hi];rfl
     have g3:ro P w (zeroValue el)=some z:=by rw [Nz,hi];exact WK
     simp only [execOp,Instr.buildSlice,Sem.run_bind,lK g1,lK g2,lK g3,Result.andThen_ok,Sem.run_pure,h1,h2,if_false,hp,hf];simp [newRow]
    ·exact h
   ·exact h
  ·exact h
 ·
  rename_i t l c
  split at h
  ·rename_i el hu
   split at h
   ·rename_i i hi
    split at h
    ·rename_i z hz;obtain ⟨kl,kc,ln,cn,hl,hc,h0,hle,hb,xm,hk⟩:=h;refine kT fun act ha=>⟨_,_,?_,hk⟩
     have hm:=run_make (P:=P) w t el i z hu hi hz kl kc ln cn h0 hle hb xm;simp only [execOp,ha _ _ hl,ha _ _ hc,Sem.run_bind,hm,Result.andThen_ok,Sem.run_pure]
    ·exact h
   ·exact h
  ·exact h
 ·
  rename_i args argTypes
  split at h
  ·rename_i s x t u bQ WL;have e1:args = #[s,x]:=by cases args;simp_all
   have e2:argTypes = #[t,u]:=by cases argTypes;simp_all
   subst e1 e2
   split at h
   ·rename_i el hu
    split at h
    ·rename_i i hi
     split at h
     ·rename_i z hz
      split at h
      ·rename_i hc;simp only [Bool.and_eq_true,decide_eq_true_eq] at hc;obtain ⟨⟨rfl,NL⟩,Bj⟩:=hc;obtain ⟨sa,n,cap,xa,m,c,oY,news,hs,hx,oZ,ny,ho,hn,h1,hb,xm,k0,k1,k2⟩:=h;refine kT fun act ha=>?_
       obtain ⟨v',w',hr,hk⟩:=WH (P:=P) (w:=w) t ty el i z hu hi hz NL (c:=c) oZ ny ho hn h1 hb xm (K:=K) k0 k1 k2;refine ⟨v',w',?_,hk⟩;simp only [execOp,resolve,List.map_toArray,List.map_cons,List.map_nil,ha _ _ hs,ha _ _ hx,Sem.run_bind,Sem.run_pure,Result.andThen_ok,invoke,builtin,hr]
      ·exact h
     ·exact h
    ·exact h
   ·exact h
  ·exact h
 ·
  rename_i args argTypes
  split at h
  ·rename_i d s t u bQ WL;have e1:args = #[d,s]:=by cases args;simp_all
   have e2:argTypes = #[t,u]:=by cases argTypes;simp_all
   subst e1 e2
   split at h
   ·rename_i el hu
    split at h
    ·rename_i n hn
     split at h
     ·rename_i tN;subst tN;obtain ⟨da,dn,dc,sa,sn,sc,news,hd,hs,oZ,hr,h1,k0,k1⟩:=h;refine kT fun act ha=>?_
      obtain ⟨i,hi,eT⟩:=Option.map_eq_some_iff.1 hn;subst eT;have hf:=Bf (P:=P) (len:=sn) (cap:=sc) hr (fun h0=>by rw [oZ h0];simp [Nat.min]);cases da with
      | none=>
       refine ⟨_,_,?_,k0 rfl⟩;simp [execOp,resolve,ha _ _ hd,ha _ _ hs,invoke,builtin,Builtin.copy_,run_underlying hu,sizeOf,typeInfo,hi,Builtin.lenOf,hf,goInt]
      | some a=>
       obtain ⟨cs,T,⟨o0,hrow⟩,km,hk⟩:=k1 a rfl;obtain ⟨b,off,spot⟩:=a;simp only at o0;subst o0;refine ⟨_,_,?_,hk⟩;have bz:=run_storeCells_at P b off T news 0 cs w hrow (by simpa using km) h1;simp only [Nat.add_zero] at bz;simp [execOp,resolve,ha _ _ hd,ha _ _ hs,invoke,builtin,Builtin.copy_,run_underlying hu,sizeOf,typeInfo,hi,Builtin.lenOf,hf,goInt,bz,sp]
     ·exact h
    ·exact h
   ·exact h
  ·exact h
 ·
  rename_i f args argTypes
  split at h
  ·rename_i fn eK
   split at h
   ·rename_i hc;simp only [Bool.and_eq_true,Bool.not_eq_true'] at hc;obtain ⟨vs,mJ,Bk⟩:=h;intro act ha;have bQ:=G1 ha args.toList vs mJ;have gL:fn.body.isNone=false:=by cases hb:fn.body<;>simp_all
    have oe:args.map act.eval=vs.toArray:=by rw [← bQ];cases args;simp
    have hr:(execOp act.eval ⟨dst,.call { callee:=.value (.func f),args:=args,argTypes:=argTypes},ty,pos,after,guard⟩).run P w = .ok (.enter f vs.toArray) w:=by
     have g1:ro P w program=some P:=rfl;simp only [execOp,resolve,Act.eval,Deferred.ofValue,Sem.run_bind,Sem.run_pure,Result.andThen_ok,invoke,callFunc,lK g1,eK,oe,Array.empty_append,Array.append_empty];rw [if_neg (by rw [hc.2];simp),if_neg (by rw [gL];simp)];rfl
    unfold Oper.wp;rw [hr];simp only [Oper.upon];refine Bk.mono ?_;rintro e w' ⟨v,rfl,hk⟩;exact ⟨v,rfl,hk⟩
   ·exact h
  ·exact h
 ·exact h
end
end
section
open Go
variable {dl:List Deferred}
structure Good (dl:List Deferred) (N:Nat) (ρ:Env) (a:Act):Prop where
 size:a.tmps.size=N
 defers:a.defers=dl
 get:∀ t v,ρ.get t=some v→a.tmps[t]? = some v
theorem Good.agree {N:Nat} {ρ:Env} {a:Act} (h:Good dl N ρ a):Agree ρ a:=by
 intro x u hu;cases x with
 | tmp t=>
  have:=h.get t u hu;simp [Act.eval,this]
 | const v=>simpa [bm,O.ev,Act.eval] using hu
 | global g=>simpa [bm,O.ev,Act.eval] using hu
 | func f=>simpa [bm,O.ev,Act.eval] using hu
theorem Good.put {N:Nat} {ρ:Env} {a:Act} (h:Good dl N ρ a) (d:Option Nat) (v:Value) (hd:∀ t,d=some t→t < N):Good dl N (ρ.put d v) (a.put d v):=by
 cases d with
 | none=>exact h
 | some d=>
  refine ⟨by simp [Act.put,h.size],h.defers,fun t u hu=>?_⟩;simp only [Env.put,Env.get] at hu;by_cases qM:d=t
  ·subst qM;simp only [if_true,Option.some.injEq] at hu;subst hu;have:=hd d rfl;simp [Act.put,h.size,this]
  ·rw [if_neg qM] at hu;simp only [Act.put,Array.getElem?_setIfInBounds_ne qM];exact h.get t u hu
theorem WM (ρ:Env):∀ (ts:List Nat) (t:Nat) (v:Value),(ρ.aB ts).get t=some v→ρ.get t=some v:=by
 intro ts
 induction ts with
 | nil=>intro t v h;simp [Env.aB,Env.get] at h
 | cons s ts ih=>
  intro t v h;simp only [Env.aB] at h
  split at h
  ·rename_i u hu;simp only [Env.get] at h
   split at h
   ·rename_i bz;subst bz;rw [← h];exact hu
   ·exact ih t v h
  ·exact ih t v h
theorem Good.aB {N:Nat} {ρ:Env} {a:Act} (h:Good dl N ρ a) (ts:List Nat):Good dl N (ρ.aB ts) a:=
 ⟨h.size,h.defers,fun t v hv=>h.get t v (WM ρ ts t v hv)⟩
theorem WN {P:Program} {o:Oper} {a:Act} {K:Act→World→Prop} {Q:Exit→Act→World→Prop} {r:Result Next} (h:o.upon P a K sq r):o.upon P a K Q r:=by
 cases r with
 | ok n w'=>
  cases n<;>simp only [Oper.upon] at h ⊢<;>first
   | exact h
   | exact Calls.mono h (fun e dP he=>by
       cases e with
       | returned v=>exact he
       | panicked c=>exact False.elim he
       | outgrown=>obtain ⟨_,_,hf⟩:=he;exact False.elim hf)
 | halt x w'=>cases x<;>simp only [Oper.upon] at h ⊢<;>exact False.elim h
theorem NM {P:Program} {o:Oper} {a:Act} {w:World} {K:Act→World→Prop} {Q:Exit→Act→World→Prop} (h:o.wp P a w K sq):o.wp P a w K Q:=WN h
theorem E.mono {P:Program} {w:World} {ρ:Env} {K K':Value→World→Prop} (hk:∀ v w',K v w'→K' v w') (e:E) (h:e.wp P w ρ K):e.wp P w ρ K':=by
 cases e with
 | st n x y=>obtain ⟨a,v,cs,T,h1,h2,h3,h4,h5,h6,h7⟩:=h;exact ⟨a,v,cs,T,h1,h2,h3,h4,h5,h6,hk _ _ h7⟩
 | bx t x=>obtain ⟨v,h1,h2⟩:=h;exact ⟨v,h1,hk _ _ h2⟩
 | al t z=>exact hk _ _ h
 | bs el len cells parts=>obtain ⟨ps,cs,h1,h2,h3⟩:=h;exact ⟨ps,cs,h1,h2,hk _ _ h3⟩
 | ms el sz bytes zero l c=>obtain ⟨kl,kc,ln,cn,h1,h2,h3,h4,h5,h6,h7⟩:=h;exact ⟨kl,kc,ln,cn,h1,h2,h3,h4,h5,h6,hk _ _ h7⟩
 | ap el sz bytes zero s x=>
  obtain ⟨sa,n,cap,xa,m,c,oY,news,h1,h2,h3,h4,h5,h6,h7,h8,h9,k0,k1,k2⟩:=h
  exact ⟨sa,n,cap,xa,m,c,oY,news,h1,h2,h3,h4,h5,h6,h7,h8,h9,fun a b=>hk _ _ (k0 a b),
   fun a b hb=>let ⟨cs,T,r1,r2,r3⟩:=k1 a b hb;⟨cs,T,r1,r2,hk _ _ r3⟩,fun a nc w1 b c=>hk _ _ (k2 a nc w1 b c)⟩
 | cp sz d s=>
  obtain ⟨da,dn,dc,sa,sn,sc,news,h1,h2,h3,h4,h5,k0,k1⟩:=h;exact ⟨da,dn,dc,sa,sn,sc,news,h1,h2,h3,h4,h5,fun a=>hk _ _ (k0 a),fun a b=>let ⟨cs,T,r1,r2,r3⟩:=k1 a b;⟨cs,T,r1,r2,hk _ _ r3⟩⟩
 | call f args=>obtain ⟨vs,h1,h2⟩:=h;exact ⟨vs,h1,h2.mono fun e w' ⟨v,e1,e2⟩=>⟨v,e1,hk _ _ e2⟩⟩
 | raw o=>exact WE hk h
inductive S where
 | r (d:Option Nat) (r:R)
 | e (d:Option Nat) (e:E)
 | gr (s:Nat) (b:Bool) (d:Option Nat) (r:R)
 | ge (s:Nat) (b:Bool) (d:Option Nat) (e:E)
 deriving Inhabited
def fK:Value→Bool→Bool
 | .bool c,b=>c == b
 | _,_=>false
def wpS (P:Program):List S→Env→World→(Env→World→Prop)→Prop
 | [],ρ,w,K=>K ρ w
 | .r d r::l,ρ,w,K=>∃ v,r.ev w ρ=some v∧wpS P l (ρ.put d v) w K
 | .e d e::l,ρ,w,K=>e.wp P w ρ fun v w'=>wpS P l (ρ.put d v) w' K
 | .gr s b d r::l,ρ,w,K=>∃ c,ρ.get s=some c∧(fK c b=true→∃ v,r.ev w ρ=some v∧wpS P l (ρ.put d v) w K)∧(fK c b=false→wpS P l (ρ.put d undef) w K)
 | .ge s b d e::l,ρ,w,K=>∃ c,ρ.get s=some c∧(fK c b=true→e.wp P w ρ fun v w'=>wpS P l (ρ.put d v) w' K)∧(fK c b=false→wpS P l (ρ.put d undef) w K)
def Bl (N:Nat):Option Nat→Bool
 | none=>true
 | some d=>decide (d < N)
def pN (P:Program) (N:Nat) (ops:Array Oper) (o:Oper):Option S:=
 if Bl N o.dst then
  match o.guard with
  | none=>match bZ P o.op with
   | some r=>some (.r o.dst r)
   | none=>some (.e o.dst (xl P o))
  | some (j,want)=>match (ops[j]?).bind (·.dst) with
   | some s=>match bZ P o.op with
    | some r=>some (.gr s want o.dst r)
    | none=>some (.ge s want o.dst (xl P o))
   | none=>none
 else none
def iM (P:Program) (N:Nat) (ops:Array Oper):List Oper→Option (List S)
 | []=>some []
 | o::l=>match pN P N ops o,iM P N ops l with
  | some s,some t=>some (s::t)
  | _,_=>none
section
variable {P:Program} {N:Nat} {ops:Array Oper} {ρ:Env} {a:Act} {w:World}
theorem zi {d:Option Nat} (h:Bl N d=true):∀ t,d=some t→t < N:=by
 intro t ht;subst ht;simpa [Bl] using h
theorem zj {o:Oper} {j s:Nat} {want:Bool} {c:Value} (hg:o.guard=some (j,want)) (hs:(ops[j]?).bind (·.dst)=some s) (hG:Good dl N ρ a) (hc:ρ.get s=some c) :
   Region.wanted o (yielded ops a.tmps)=fK c want:=by
 have h1:=hG.get s _ hc;simp only [Region.wanted,hg,yielded,hs,Option.bind_some,h1];cases c<;>first | rfl | (rename_i b;cases b<;>cases want<;>rfl)
def jN (P:Program) (ops:Array Oper) (G:Act→World→Prop):List Oper→Act→World→Prop
 | [],a,w=>G a w
 | o::l,a,w=>if Region.wanted o (yielded ops a.tmps) then o.wp P a w (jN P ops G l) sq else jN P ops G l (a.put o.dst undef) w
theorem DR {G:Act→World→Prop} {Q:Exit→Act→World→Prop} (hQ:∀ a w,G a w→Q .normal a w):∀ (l:List Oper) (a:Act) (w:World),jN P ops G l a w→wpList P ops Q l a w
 | [],a,w,h=>hQ a w h
 | o::l,a,w,h=>by
  unfold jN at h;unfold wpList
  split
  ·rename_i hw;rw [if_pos hw] at h;exact .inl (NM (Oper.wp_mono (fun a w hh=>DR hQ l a w hh) h))
  ·rename_i hw;rw [if_neg hw] at h;exact DR hQ l _ _ h
theorem zk {G:Act→World→Prop}:∀ (l:List Oper) (st:List S) (ρ:Env) (a:Act) (w:World) (K:Env→World→Prop),iM P N ops l=some st→wpS P st ρ w K→Good dl N ρ a →
   (∀ aw a' w',Good dl N aw a'→K aw w'→G a' w')→jN P ops G l a w:=by
 intro l
 induction l with
 | nil=>
  intro st ρ a w K h1 h2 h3 h4;simp only [iM,Option.some.injEq] at h1;subst h1;exact h4 _ _ _ h3 h2
 | cons o l ih=>
  intro st ρ a w K h1 h2 h3 h4;simp only [iM] at h1
  split at h1
  ·rename_i s t hs ht;simp only [Option.some.injEq] at h1;subst h1;unfold pN at hs
   split at hs
   ·rename_i hd;have fc:=zi hd
    split at hs
    ·rename_i hg;have hw:Region.wanted o (yielded ops a.tmps)=true:=by simp [Region.wanted,hg]
     unfold jN;rw [if_pos hw]
     split at hs
     ·rename_i r hr;simp only [Option.some.injEq] at hs;subst hs;obtain ⟨v,hv,hk⟩:=h2;refine Oper.wp_mono ?_ (zg (K:=fun v' w'=>v'=v∧w'=w) hr hv ⟨rfl,rfl⟩ a h3.agree);rintro a' w' ⟨v',rfl,rfl,rfl⟩;exact ih t _ _ _ K ht hk (h3.put _ _ fc) h4
     ·simp only [Option.some.injEq] at hs;subst hs;refine Oper.wp_mono ?_ (Bh h2 a h3.agree);rintro a' w' ⟨v',rfl,hk⟩;exact ih t _ _ _ K ht hk (h3.put _ _ fc) h4
    ·rename_i j want hg
     split at hs
     ·rename_i s' eE
      split at hs
      ·rename_i r hr;simp only [Option.some.injEq] at hs;subst hs;obtain ⟨c,hc,hy,hn⟩:=h2;have hw:=zj hg eE h3 hc;unfold jN;by_cases ko:fK c want=true
       ·rw [if_pos (by rw [hw,ko])];obtain ⟨v,hv,hk⟩:=hy ko;refine Oper.wp_mono ?_ (zg (K:=fun v' w'=>v'=v∧w'=w) hr hv ⟨rfl,rfl⟩ a h3.agree);rintro a' w' ⟨v',rfl,rfl,rfl⟩;exact ih t _ _ _ K ht hk (h3.put _ _ fc) h4
       ·rw [if_neg (by rw [hw];exact ko)];exact ih t _ _ _ K ht (hn (by simpa using ko)) (h3.put _ _ fc) h4
      ·simp only [Option.some.injEq] at hs;subst hs;obtain ⟨c,hc,hy,hn⟩:=h2;have hw:=zj hg eE h3 hc;unfold jN;by_cases ko:fK c want=true
       ·rw [if_pos (by rw [hw,ko])];refine Oper.wp_mono ?_ (Bh (hy ko) a h3.agree);rintro a' w' ⟨v',rfl,hk⟩;exact ih t _ _ _ K ht hk (h3.put _ _ fc) h4
       ·rw [if_neg (by rw [hw];exact ko)];exact ih t _ _ _ K ht (hn (by simpa using ko)) (h3.put _ _ fc) h4
     ·cases hs
   ·cases hs
  ·cases h1
def R.NN:R→Bool
 | .l1 _=>true
 | .ln _ _=>true
 | .si _=>true
 | _=>false
def R.iW (ρ:Env):R→Option Nat
 | .l1 x=>match x.ev ρ with | some (.pointer (some a))=>some a.block | _=>none
 | .ln _ x=>match x.ev ρ with | some (.pointer (some a))=>some a.block | _=>none
 | .si x=>match x.ev ρ with | some (.map (some r))=>some r | _=>none
 | _=>none
theorem G5 {w w':World} {a:Addr} (h:w'.heap[a.block]? = w.heap[a.block]?):w'.cell? a=w.cell? a:=by simp [World.cell?,h]
theorem tO (a:Addr) (n:Nat):(a.add n).block=a.block:=by unfold Addr.add;split<;>rfl
theorem WO {w w':World} {a:Addr} (h:w'.heap[a.block]? = w.heap[a.block]?):∀ (n i:Nat) (acc:Array Value),jK w' a i n acc=jK w a i n acc:=by
 intro n
 induction n with
 | zero=>intro i acc;rfl
 | succ n ih=>
  intro i acc;simp only [jK];have e1:w'.cell? (a.add i)=w.cell? (a.add i):=G5 (by rw [tO];exact h);rw [e1];cases w.cell? (a.add i) with
  | none=>rfl
  | some v=>exact ih _ _
theorem WQ {w w':World} {r:R} {v:Value} (h:r.ev w ρ=some v) (hk:∀ b,r.iW ρ=some b→w'.heap[b]? = w.heap[b]?):r.ev w' ρ=some v:=by
 cases r with
 | l1 x=>
  simp only [R.ev] at h ⊢;obtain ⟨u,hu,hv⟩:=Option.bind_eq_some_iff.1 h;rw [hu,Option.bind_some];unfold y6 at *;cases u with
  | pointer ad=>
   cases ad with
   | none=>cases hv
   | some ad=>
    simp only at *;rw [G5 (hk ad.block (by simp [R.iW,hu]))];exact hv
  | _=>cases hv
 | ln n x=>
  simp only [R.ev] at h ⊢;obtain ⟨u,hu,hv⟩:=Option.bind_eq_some_iff.1 h;rw [hu,Option.bind_some];unfold gp at *;cases u with
  | pointer ad=>
   cases ad with
   | none=>cases hv
   | some ad=>
    simp only at *;rw [WO (hk ad.block (by simp [R.iW,hu]))];exact hv
  | _=>cases hv
 | si x=>
  simp only [R.ev] at h ⊢;obtain ⟨u,hu,hv⟩:=Option.bind_eq_some_iff.1 h;rw [hu,Option.bind_some];unfold DM at *;cases u with
  | map m=>
   cases m with
   | none=>exact hv
   | some rr=>
    simp only at *;rw [hk rr (by simp [R.iW,hu])];exact hv
  | _=>cases hv
 | _=>exact h
def xo (P:Program) (ops:Array Oper) (i:Nat) (K:Act→World→Prop) (a:Act) (w:World):Prop:=
 ∃ o,ops[i]? = some o∧if Region.wanted o (yielded ops a.tmps) then o.wp P a w K sq else K (a.put o.dst undef) w
def Kept (B:Nat→Prop) (w w':World):Prop:=∀ b,B b→w'.heap[b]? = w.heap[b]?
def lL (P:Program) (ops:Array Oper) (B:Nat→Nat→Prop) (Q:Act→World→Prop):Nat→Array Bool→Act→World→Prop
 | 0,listed,a,w=>Region.ready .any ops listed=[]∧Q a w
 | f+1,listed,a,w=>(Region.ready .any ops listed=[]→Q a w) ∧
  ∀ i∈Region.ready .any ops listed,xo P ops i (fun a' w'=>Kept (B i) w w'∧lL P ops B Q f (listed.setIfInBounds i true) a' w') a w
theorem NO {i:Nat} {K K':Act→World→Prop} (h:∀ a w,K a w→K' a w) (hg:xo P ops i K a w):xo P ops i K' a w:=by
 obtain ⟨o,ho,h1⟩:=hg;refine ⟨o,ho,?_⟩
 split
 ·rename_i hw;rw [if_pos hw] at h1;exact Oper.wp_mono h h1
 ·rename_i hw;rw [if_neg hw] at h1;exact h _ _ h1
theorem G6 {B:Nat→Nat→Prop} {Q:Act→World→Prop} {Q':Exit→Act→World→Prop} (hQ:∀ a w,Q a w→Q' .normal a w) :
   ∀ (f:Nat) (listed:Array Bool) (a:Act) (w:World),lL P ops B Q f listed a w→wpAny P .any ops Q' f listed a w:=by
 intro f
 induction f with
 | zero=>intro listed a w h;exact ⟨h.1,hQ _ _ h.2⟩
 | succ f ih=>
  intro listed a w h;refine ⟨fun h0=>hQ _ _ (h.1 h0),fun i hi=>?_⟩;obtain ⟨o,ho,hg⟩:=h.2 i hi;unfold wpOp;simp only [ho]
  split
  ·rename_i hw;rw [if_pos hw] at hg;exact .inl (NM (Oper.wp_mono (fun a' w' hh=>ih _ _ _ hh.2) hg))
  ·rename_i hw;rw [if_neg hw] at hg;exact ih _ _ _ hg.2
def su (P:Program) (ops:Array Oper) (bs:Nat→Prop) (c:Nat→Option Obj) (o:Oper) (v:Value) (a:Act):Prop:=
 (Region.wanted o (yielded ops a.tmps)=true∧∀ w:World,(∀ b,bs b→w.heap[b]? = c b)→(execOp a.eval o).run P w = .ok (.value v) w) ∨
 (Region.wanted o (yielded ops a.tmps)=false∧v=undef)
theorem su.same {bs:Nat→Prop} {c:Nat→Option Obj} {o:Oper} {v:Value} {a a':Act} (h:su P ops bs c o v a) (he:execOp a'.eval o=execOp a.eval o)
   (hw:Region.wanted o (yielded ops a'.tmps)=Region.wanted o (yielded ops a.tmps)):su P ops bs c o v a':=by
 unfold su at *;rw [he,hw];exact h
theorem WR {bs:Nat→Prop} {c:Nat→Option Obj} {j:Nat} {oi oj:Oper} {v:Value} (hj:ops[j]? = some oj) (zl:oi.apart ops oj=true)
   (NP:∀ cs b,oi.op≠.select cs b) (DS:∀ cs b,oj.op≠.select cs b) {K:Act→World→Prop} (hy:su P ops bs c oi v a) (h:xo P ops j K (a.put oi.dst v) w) :
   xo P ops j (fun a' w'=>su P ops bs c oi v a'∧K (a'.put oi.dst v) w') a w:=by
 obtain ⟨h1,h2,h3⟩:=Oper.apart_spec zl;obtain ⟨o,ho,hg⟩:=h;obtain rfl:o=oj:=Option.some.inj (ho.symm.trans hj);refine ⟨o,hj,?_⟩;rw [wanted_put o a oi.dst v h1] at hg;have aB:∀ u,su P ops bs c oi v (a.put o.dst u):=fun u=>hy.same (execOp_put oi NP a o.dst u h3) (wanted_put oi a o.dst u h3)
 split
 ·rename_i hw;rw [if_pos hw] at hg;unfold Oper.wp at *;rw [execOp_put o DS a oi.dst v h1] at hg;generalize (execOp a.eval o).run P w=r at *;cases r with
  | ok n w'=>
   cases n<;>simp only [Oper.upon] at hg ⊢
   case value u=>exact ⟨aB u,by rw [← Act.put_comm a v u h2];exact hg⟩
   case skip=>exact ⟨aB _,by rw [← Act.put_comm a v undef h2];exact hg⟩
   case defer d=>
    have hd:su P ops bs c oi v { a with defers:=d::a.defers}:=hy.same rfl rfl;refine ⟨hd.same (execOp_put oi NP _ o.dst _ h3) (wanted_put oi _ o.dst _ h3),?_⟩;rw [← Act.put_comm _ v undef h2,← Act.put_defers];exact hg
   case enter f args=>
    refine Calls.mono hg fun e dP he=>?_
    cases e with
    | returned u=>exact ⟨aB u,by rw [← Act.put_comm a v u h2];exact he⟩
    | panicked c=>exact he
    | outgrown=>obtain ⟨_,_,hf⟩:=he;exact False.elim hf
   case row row args=>exact Rows.mono hg fun u dP he=>⟨aB u,by rw [← Act.put_comm a v u h2];exact he⟩
  | halt x w'=>cases x<;>simp only [Oper.upon] at hg ⊢<;>exact hg
 ·rename_i hw;rw [if_neg hw] at hg;exact ⟨aB _,by rw [← Act.put_comm a v undef h2];exact hg⟩
def Bm (ops:Array Oper) (listed:Array Bool):Prop:=
 ∀ j oj,ops[j]? = some oj→listed.getD j false=true→∀ e∈oj.after,Region.binds .any e=true→listed.getD e.on false=true
def zm (ops:Array Oper) (pm:List Nat):Bool:=
 (List.range ops.size).all fun j=>(List.range ops.size).all fun i=>!(pm.getD j 0).testBit i ||
  match ops[j]? with
  | some o=>o.after.any fun e=>Region.binds .any e&&(decide (e.on < j)&&(e.on == i||(pm.getD e.on 0).testBit i))
  | none=>false
theorem WS {pm:List Nat} (gv:zm ops pm=true) {listed:Array Bool} (hc:Bm ops listed) {i:Nat} (hi:i < ops.size) :
   ∀ (j:Nat),j < ops.size→(listed.getD j false=true∨j∈Region.ready .any ops listed)→(pm.getD j 0).testBit i=true→listed.getD i false=true:=by
 intro j
 induction j using Nat.strongRecOn with
 | _ j ih=>
  intro hj hl ht;have h1:=List.all_eq_true.1 (List.all_eq_true.1 gv j (List.mem_range.2 hj)) i (List.mem_range.2 hi);rw [ht] at h1;simp only [Bool.not_true,Bool.false_or] at h1
  split at h1
  ·rename_i o ho;obtain ⟨e,he,hb⟩:=Array.any_eq_true'.1 h1;simp only [Bool.and_eq_true,decide_eq_true_eq,Bool.or_eq_true,beq_iff_eq] at hb;obtain ⟨ar,aP,au⟩:=hb;have NQ:listed.getD e.on false=true:=by
    rcases hl with hl | hl
    ·exact hc j o ho hl e he ar
    ·obtain ⟨_,o',Bg,cN⟩:=mem_ready.1 hl;obtain rfl:o'=o:=Option.some.inj (Bg.symm.trans ho);exact cN e he ar
   rcases au with au | au
   ·rw [← au];exact NQ
   ·exact ih e.on aP (by omega) (.inl NQ) au
  ·cases h1
theorem Bn {listed:Array Bool} {i:Nat} (hc:Bm ops listed) (hi:i∈Region.ready .any ops listed):Bm ops (listed.setIfInBounds i true):=by
 obtain ⟨_,oi,WT,cN⟩:=mem_ready.1 hi;intro j oj hj hl e he hb;by_cases lM:i=j
 ·subst lM;obtain rfl:oj=oi:=Option.some.inj (hj.symm.trans WT);exact getD_set_true (cN e he hb)
 ·rw [getD_set_ne false lM] at hl;exact getD_set_true (hc j oj hj hl e he hb)
theorem NR {listed:Array Bool} {i:Nat} (h:listed.getD i true=false):listed.getD i false=false:=by
 rcases Nat.lt_or_ge i listed.size with h' | h'
 ·simp [h'] at h ⊢;exact h
 ·simp [Array.getElem?_eq_none h'] at h
theorem NS {pm:List Nat} (gv:zm ops pm=true) {i:Nat} {oi:Oper} {v:Value} (hi:ops[i]? = some oi) (tP:∀ (j:Nat) (o:Oper) cs b,ops[j]? = some o→o.op≠.select cs b)
   {bs:Nat→Prop} {c:Nat→Option Obj} {B B':Nat→Nat→Prop} {Q:Act→World→Prop} (hB:∀ j b,B j b→B' j b)
   (dM:∀ j,(pm.getD j 0).testBit i=false→j≠i→∀ b,bs b→B' j b) :
   ∀ (f:Nat) (listed:Array Bool) (a:Act) (w:World),Bm ops listed →
    (∀ j oj,ops[j]? = some oj→j≠i→listed.getD j true=false→(∀ e∈oj.after,Region.binds .any e=true→e.on≠i)→oi.apart ops oj=true) →
    i∈Region.ready .any ops listed→su P ops bs c oi v a→(∀ b,bs b→w.heap[b]? = c b) →
    lL P ops B' Q f (listed.setIfInBounds i true) (a.put oi.dst v) w→lL P ops B Q (f+1) listed a w:=by
 intro f;have here:∀ (f:Nat) (listed:Array Bool) (a:Act) (w:World),su P ops bs c oi v a→(∀ b,bs b→w.heap[b]? = c b) →
     lL P ops B Q f (listed.setIfInBounds i true) (a.put oi.dst v) w →
     xo P ops i (fun a' w'=>Kept (B i) w w'∧lL P ops B Q f (listed.setIfInBounds i true) a' w') a w:=by
  intro f listed a w hy hw H;refine ⟨oi,hi,?_⟩;rcases hy with ⟨h1,h2⟩ | ⟨h1,rfl⟩
  ·rw [if_pos h1];unfold Oper.wp;rw [h2 w hw];exact ⟨fun _ _=>rfl,H⟩
  ·rw [if_neg (by simp [h1])];exact ⟨fun _ _=>rfl,H⟩
 have aU:∀ (f:Nat) (listed:Array Bool) (a:Act) (w:World),lL P ops B' Q f listed a w→lL P ops B Q f listed a w:=by
  intro f
  induction f with
  | zero=>intro listed a w h;exact h
  | succ f ih=>
   intro listed a w h;exact ⟨h.1,fun j hj=>NO (fun a' w' hh=>⟨fun b hb=>hh.1 b (hB j b hb),ih _ _ _ hh.2⟩) (h.2 j hj)⟩
 induction f with
 | zero=>
  intro listed a w fy zn hr hy hw H;refine ⟨fun h=>(by rw [h] at hr;cases hr),fun j hj=>?_⟩;by_cases sv:j=i
  ·subst sv;exact here 0 listed a w hy hw (aU _ _ _ _ H)
  ·have:=ready_mono hj sv;rw [H.1] at this;cases this
 | succ f ih=>
  intro listed a w fy zn hr hy hw H;refine ⟨fun h=>(by rw [h] at hr;cases hr),fun j hj=>?_⟩;by_cases sv:j=i
  ·subst sv;exact here _ listed a w hy hw (aU _ _ _ _ H)
  ·have h1:=H.2 j (ready_mono hj sv);obtain ⟨NT,oj,DT,cN⟩:=mem_ready.1 hj;have NU:=(mem_ready.1 hr).1;have WU:i < ops.size:=(Array.getElem?_eq_some_iff.1 hi).1;have WV:j < ops.size:=(Array.getElem?_eq_some_iff.1 DT).1;have zo:∀ e∈oj.after,Region.binds .any e=true→e.on≠i:=fun e he hb mK=>by
    have h1:=cN e he hb;rw [mK,NR NU] at h1;cases h1
   have WW:(pm.getD j 0).testBit i=false:=by
    cases ht:(pm.getD j 0).testBit i with
    | false=>rfl
    | true=>
     have:=WS gv fy WU j WV (.inr hj) ht;rw [NR NU] at this;cases this
   have h2:=WR DT (zn j oj DT sv NT zo) (fun cs b=>tP i oi cs b hi) (fun cs b=>tP j oj cs b DT) hy h1;have WX:∀ k ok,ops[k]? = some ok→k≠i→(listed.setIfInBounds j true).getD k true=false →
       (∀ e∈ok.after,Region.binds .any e=true→e.on≠i)→oi.apart ops ok=true:=fun k ok hk G7 NV ga=>by
    refine zn k ok hk G7 ?_ ga;by_cases NW:j=k
    ·subst NW;exact NT
    ·rw [getD_set_ne true NW] at NV;exact NV
   refine NO (fun a' w' h3=>⟨fun b hb=>h3.2.1 b (hB j b hb),?_⟩) h2;refine ih (listed.setIfInBounds j true) a' w' (Bn fy hj) WX (ready_mono hr (Ne.symm sv)) h3.1 (fun b hb=>?_) ?_
   ·rw [h3.2.1 b (dM j WW sv b hb)];exact hw b hb
   ·rw [Array.setIfInBounds_comm _ _ sv];exact h3.2.2
end
end
section
open Go
variable {dl:List Deferred}
inductive D where
 | nil
 | r (i:Nat) (g:Option (Nat×Bool)) (d:Option Nat) (r:R) (t:D)
 | e (i:Nat) (g:Option (Nat×Bool)) (d:Option Nat) (e:E) (fl:List Nat) (t:D)
 | e2 (i:Nat) (d:Option Nat) (e:E) (fl:List Nat) (t:D) (i':Nat) (d':Option Nat) (e':E) (u9:List Nat) (t':D)
 deriving Inhabited
def zp (i:Nat):List Nat→Prop
 | []=>False
 | j::r=>j=i∨zp i r
def lN (fl:List Nat) (w w':World):List (Nat×Nat)→Prop
 | []=>True
 | (i,b)::r=>(zp i fl→w'.heap[b]? = w.heap[b]?)∧lN fl w w' r
def vg (i:Nat) (b:Option Nat) (rd:List (Nat×Nat)):List (Nat×Nat):=
 match b with
 | some b=>(i,b)::rd
 | none=>rd
def dm (P:Program):D→Env→World→List (Nat×Nat)→(Env→World→Prop)→Prop
 | .nil,ρ,w,rd,K=>K ρ w
 | .r i none d r t,ρ,w,rd,K=>∃ v,r.ev w ρ=some v∧dm P t (ρ.put d v) w (vg i (r.iW ρ) rd) K
 | .r i (some (s,b)) d r t,ρ,w,rd,K=>∃ c,ρ.get s=some c∧(fK c b=true→∃ v,r.ev w ρ=some v∧dm P t (ρ.put d v) w (vg i (r.iW ρ) rd) K) ∧
     (fK c b=false→dm P t (ρ.put d undef) w rd K)
 | .e i none d e fl t,ρ,w,rd,K=>e.wp P w ρ fun v w'=>lN fl w w' rd∧dm P t (ρ.put d v) w' rd K
 | .e i (some (s,b)) d e fl t,ρ,w,rd,K=>∃ c,ρ.get s=some c∧(fK c b=true→e.wp P w ρ fun v w'=>lN fl w w' rd∧dm P t (ρ.put d v) w' rd K) ∧
     (fK c b=false→dm P t (ρ.put d undef) w rd K)
 | .e2 i d e fl t i' d' e' u9 t',ρ,w,rd,K=>(e.wp P w ρ fun v w'=>lN fl w w' rd∧dm P t (ρ.put d v) w' rd K) ∧
     (e'.wp P w ρ fun v w'=>lN u9 w w' rd∧dm P t' (ρ.put d' v) w' rd K)
def DU (P:Program) (ops:Array Oper) (i:Nat):Bool:=
 match ops[i]? with
 | some o=>match bZ P o.op with
  | some r=>r.NN
  | none=>false
 | none=>false
def Bo (P:Program) (ops:Array Oper) (pm:List Nat) (j:Nat):List Nat:=(List.range ops.size).filter fun i=>DU P ops i && !(pm.getD j 0).testBit i
def WY (P:Program) (ops:Array Oper) (i:Nat):Bool:=
 match ops[i]? with
 | some o=>(bZ P o.op).isSome
 | none=>false
def Bp (i:Nat) (fl:List Nat) (t:D):S→Option D
 | .e d e=>some (.e i none d e fl t)
 | .ge s b d e=>some (.e i (some (s,b)) d e fl t)
 | _=>none
def Bq (i:Nat) (t:D):S→Option D
 | .r d r=>some (.r i none d r t)
 | .gr s b d r=>some (.r i (some (s,b)) d r t)
 | _=>none
def vh (i:Nat) (fl:List Nat) (t:D) (j:Nat) (u9:List Nat) (t':D):S→S→Option D
 | .e d e,.e d' e'=>some (.e2 i d e fl t j d' e' u9 t')
 | _,_=>none
def xp (P:Program) (N:Nat) (ops:Array Oper) (i:Nat):Option S:=(ops[i]?).bind (pN P N ops)
def qN (P:Program) (N:Nat) (ops:Array Oper) (pm:List Nat):Nat→Array Bool→Option D
 | 0,listed=>if (Region.ready .any ops listed).isEmpty then some .nil else none
 | f+1,listed=>
  match (Region.ready .any ops listed).find? (fun i=>WY P ops i&&Region.free .any ops listed i) with
  | some i=>(qN P N ops pm f (listed.setIfInBounds i true)).bind fun t=>(xp P N ops i).bind (Bq i t)
  | none=>match Region.ready .any ops listed with
   | []=>some .nil
   | [i]=>(qN P N ops pm f (listed.setIfInBounds i true)).bind fun t=>(xp P N ops i).bind (Bp i (Bo P ops pm i) t)
   | [i,j]=>(qN P N ops pm f (listed.setIfInBounds i true)).bind fun t=>(qN P N ops pm f (listed.setIfInBounds j true)).bind fun t'=>
       (xp P N ops i).bind fun s=>(xp P N ops j).bind fun s'=>vh i (Bo P ops pm i) t j (Bo P ops pm j) t' s s'
   | _=>none
section
variable {P:Program} {N:Nat} {ops:Array Oper}
def tQ (pm:List Nat) (rd:List (Nat×Nat)) (j b:Nat):Prop:=∃ i,(i,b)∈rd∧(pm.getD j 0).testBit i=false
theorem WZ {i:Nat}:∀ {fl:List Nat},i∈fl→zp i fl:=by
 intro fl
 induction fl with
 | nil=>intro h;cases h
 | cons j r ih=>
  intro h;cases h with
  | head=>exact .inl rfl
  | tail _ h=>exact .inr (ih h)
theorem W0 {fl:List Nat} {w w':World}:∀ {rd:List (Nat×Nat)},lN fl w w' rd→∀ i b,(i,b)∈rd→i∈fl→w'.heap[b]? = w.heap[b]?:=by
 intro rd
 induction rd with
 | nil=>intro _ i b h;cases h
 | cons p rd ih=>
  intro h i b hm hf;obtain ⟨j,c⟩:=p;simp only [lN] at h;cases hm with
  | head=>exact h.1 (WZ hf)
  | tail _ hm=>exact ih h.2 i b hm hf
theorem NX {o:Oper} {d:Option Nat} {r:R} (h:pN P N ops o=some (.r d r)):bZ P o.op=some r∧d=o.dst∧o.guard=none∧(∀ t,d=some t→t < N):=by
 unfold pN at h
 split at h
 ·rename_i hd
  split at h
  ·rename_i hg
   split at h
   ·rename_i r' hr;cases h;exact ⟨hr,rfl,hg,zi hd⟩
   ·cases h
  ·split at h
   ·split at h<;>cases h
   ·cases h
 ·cases h
theorem G8 {o:Oper} {d:Option Nat} {e:E} (h:pN P N ops o=some (.e d e)):e=xl P o∧d=o.dst∧o.guard=none∧(∀ t,d=some t→t < N):=by
 unfold pN at h
 split at h
 ·rename_i hd
  split at h
  ·rename_i hg
   split at h
   ·cases h
   ·cases h;exact ⟨rfl,rfl,hg,zi hd⟩
  ·split at h
   ·split at h<;>cases h
   ·cases h
 ·cases h
theorem W4 {o:Oper} {s:Nat} {b:Bool} {d:Option Nat} {r:R} (h:pN P N ops o=some (.gr s b d r)) :
   bZ P o.op=some r∧d=o.dst∧(∃ j,o.guard=some (j,b)∧(ops[j]?).bind (·.dst)=some s)∧(∀ t,d=some t→t < N):=by
 unfold pN at h
 split at h
 ·rename_i hd
  split at h
  ·split at h<;>cases h
  ·rename_i j want hg
   split at h
   ·rename_i s' eE
    split at h
    ·rename_i r' hr;cases h;exact ⟨hr,rfl,⟨j,hg,eE⟩,zi hd⟩
    ·cases h
   ·cases h
 ·cases h
theorem W5 {o:Oper} {s:Nat} {b:Bool} {d:Option Nat} {e:E} (h:pN P N ops o=some (.ge s b d e)) :
   e=xl P o∧d=o.dst∧(∃ j,o.guard=some (j,b)∧(ops[j]?).bind (·.dst)=some s)∧(∀ t,d=some t→t < N):=by
 unfold pN at h
 split at h
 ·rename_i hd
  split at h
  ·split at h<;>cases h
  ·rename_i j want hg
   split at h
   ·rename_i s' eE
    split at h
    ·cases h
    ·cases h;exact ⟨rfl,rfl,⟨j,hg,eE⟩,zi hd⟩
   ·cases h
 ·cases h
def pO (dl:List Deferred) (N:Nat) (K:Env→World→Prop) (a:Act) (w:World):Prop:=∃ ρ,Good dl N ρ a∧K ρ w
theorem W6 {i:Nat} {b:Option Nat} {rd:List (Nat×Nat)} {p:Nat×Nat} (h:p∈rd):p∈vg i b rd:=by
 cases b with
 | none=>exact h
 | some b=>exact List.mem_cons_of_mem _ h
theorem W7 {r:R} {ρ:Env} {b:Nat} (h:r.iW ρ=some b):r.NN=true:=by
 cases r<;>first | rfl | (simp [R.iW] at h)
theorem NY {pm:List Nat} (gv:zm ops pm=true) (tP:Region.noSelect ops=true) {K:Env→World→Prop} :
   ∀ (f:Nat) (listed:Array Bool) (t:D) (ρ:Env) (a:Act) (w:World) (rd:List (Nat×Nat)),qN P N ops pm f listed=some t→dm P t ρ w rd K→Good dl N ρ a→Bm ops listed →
    (∀ i b,(i,b)∈rd→DU P ops i=true)→lL P ops (tQ pm rd) (pO dl N K) f listed a w:=by
 intro f
 induction f with
 | zero=>
  intro listed t ρ a w rd h jn hg hc dJ;simp only [qN] at h
  split at h
  ·rename_i he;cases h;exact ⟨by simpa using he,ρ,hg,jn⟩
  ·cases h
 | succ f ih=>
  intro listed t ρ a w rd h jn hg hc dJ;have effect:∀ (i:Nat) (o:Oper) (t':D) (d:Option Nat) (e:E),ops[i]? = some o→e=xl P o→d=o.dst→(∀ t,d=some t→t < N)→i∈Region.ready .any ops listed →
      qN P N ops pm f (listed.setIfInBounds i true)=some t'→Region.wanted o (yielded ops a.tmps)=true →
      (e.wp P w ρ fun v w'=>lN (Bo P ops pm i) w w' rd∧dm P t' (ρ.put d v) w' rd K) →
      xo P ops i (fun a' w'=>Kept (tQ pm rd i) w w'∧lL P ops (tQ pm rd) (pO dl N K) f (listed.setIfInBounds i true) a' w') a w:=by
   intro i o t' d e hi he hd kU hr jO hw hE;subst he hd;refine ⟨o,hi,?_⟩;rw [if_pos hw];refine Oper.wp_mono ?_ (Bh hE a hg.agree);rintro a' w' ⟨v,rfl,hk,qO⟩;refine ⟨?_,ih _ t' _ _ _ rd jO qO (hg.put _ _ kU) (Bn hc hr) dJ⟩;rintro b ⟨i0,hm,G9⟩;refine W0 hk i0 b hm ?_;have du:=dJ i0 b hm;unfold Bo;rw [List.mem_filter,List.mem_range];refine ⟨?_,by rw [du,G9];rfl⟩;unfold DU at du;cases ho:ops[i0]? with
   | none=>simp [ho] at du
   | some o'=>exact (Array.getElem?_eq_some_iff.1 ho).1
  simp only [qN] at h
  split at h
  ·rename_i i NZ;have du:=List.mem_of_find?_eq_some NZ;have N3:=List.find?_some NZ;simp only [Bool.and_eq_true] at N3;obtain ⟨t',jO,h⟩:=Option.bind_eq_some_iff.1 h;obtain ⟨s,jo,h⟩:=Option.bind_eq_some_iff.1 h;unfold xp at jo;obtain ⟨o,ho,hs⟩:=Option.bind_eq_some_iff.1 jo;clear jo;have zn:=Region.free_spec ho N3.2;have isz:i < ops.size:=(Array.getElem?_eq_some_iff.1 ho).1;have taken:∀ (v:Value) (d:Option Nat) (r:R),d=o.dst→bZ P o.op=some r→r.ev w ρ=some v→Region.wanted o (yielded ops a.tmps)=true→(∀ t,d=some t→t < N) →
       dm P t' (ρ.put d v) w (vg i (r.iW ρ) rd) K→lL P ops (tQ pm rd) (pO dl N K) (f+1) listed a w:=by
    intro v d r hd hr hv hw kU qO;subst hd
    have H:=ih _ t' _ _ _ _ jO qO (hg.put _ v kU) (Bn hc du) (by
     intro j b hj;cases hb:r.iW ρ with
     | none=>rw [hb] at hj;exact dJ j b hj
     | some b'=>
      rw [hb] at hj;cases hj with
      | head=>unfold DU;rw [ho];simp only;rw [hr];exact W7 hb
      | tail _ hj=>exact dJ j b hj)
    refine NS gv ho (Region.noSelect_spec tP) (bs:=fun b=>r.iW ρ=some b) (c:=fun b=>w.heap[b]?) (B':=tQ pm (vg i (r.iW ρ) rd)) ?_ ?_ f listed a w hc zn du ?_ (fun _ _=>rfl) H
    ·rintro j b ⟨i0,hm,G9⟩;exact ⟨i0,W6 hm,G9⟩
    ·intro j hj sv b hb;refine ⟨i,?_,hj⟩;rw [show r.iW ρ=some b from hb];exact List.mem_cons_self
    ·left
     refine ⟨hw,fun w' W8=>lK (NJ hr hg.agree (WQ hv W8))⟩
   have W9:∀ (d:Option Nat),d=o.dst→Region.wanted o (yielded ops a.tmps)=false→(∀ t,d=some t→t < N)→dm P t' (ρ.put d undef) w rd K →
       lL P ops (tQ pm rd) (pO dl N K) (f+1) listed a w:=by
    intro d hd hw kU qO;subst hd;have H:=ih _ t' _ _ _ _ jO qO (hg.put _ undef kU) (Bn hc du) dJ;refine NS gv ho (Region.noSelect_spec tP) (bs:=fun _=>False) (c:=fun b=>w.heap[b]?) (B':=tQ pm rd) (fun _ _ h=>h) (fun _ _ _ _ h=>h.elim) f listed a w hc zn du ?_ (fun _ h=>h.elim) H
    right
    exact ⟨hw,rfl⟩
   cases s with
   | r d r=>
    simp only [Bq,Option.some.injEq] at h;subst h;obtain ⟨hr,hd,xq,kU⟩:=NX hs;obtain ⟨v,hv,qO⟩:=jn;exact taken v d r hd hr hv (by simp [Region.wanted,xq]) kU qO
   | gr s' b' d r=>
    simp only [Bq,Option.some.injEq] at h;subst h;obtain ⟨hr,hd,⟨j,xq,Br⟩,kU⟩:=W4 hs;obtain ⟨c,kq,hy,hn⟩:=jn;have hw:=zj xq Br hg kq;by_cases kV:fK c b'=true
    ·obtain ⟨v,hv,qO⟩:=hy kV;exact taken v d r hd hr hv (by rw [hw,kV]) kU qO
    ·exact W9 d hd (by rw [hw];simpa using kV) kU (hn (by simpa using kV))
   | e d e=>simp [Bq] at h
   | ge s b d e=>simp [Bq] at h
  ·split at h
   ·rename_i sw;cases h;exact ⟨fun _=>⟨ρ,hg,jn⟩,fun i hi=>(by rw [sw] at hi;cases hi)⟩
   ·rename_i i sw;obtain ⟨t',jO,h⟩:=Option.bind_eq_some_iff.1 h;obtain ⟨s,jo,h⟩:=Option.bind_eq_some_iff.1 h;unfold xp at jo;obtain ⟨o,ho,hs⟩:=Option.bind_eq_some_iff.1 jo;clear jo;have du:i∈Region.ready .any ops listed:=by rw [sw];exact List.mem_cons_self
    refine ⟨fun h0=>(by rw [sw] at h0;cases h0),fun i' eU=>?_⟩;have:i'=i:=by rw [sw] at eU;simpa using eU
    subst this;cases s with
    | e d e=>
     simp only [Bp,Option.some.injEq] at h;subst h;obtain ⟨he,hd,xq,kU⟩:=G8 hs;exact effect i' o t' d e ho he hd kU du jO (by simp [Region.wanted,xq]) jn
    | ge s' b' d e=>
     simp only [Bp,Option.some.injEq] at h;subst h;obtain ⟨he,hd,⟨j,xq,Br⟩,kU⟩:=W5 hs;obtain ⟨c,kq,hy,hn⟩:=jn;have hw:=zj xq Br hg kq;by_cases kV:fK c b'=true
     ·exact effect i' o t' d e ho he hd kU du jO (by rw [hw,kV]) (hy kV)
     ·refine ⟨o,ho,?_⟩;rw [if_neg (by rw [hw];exact kV)];subst hd;exact ⟨fun _ _=>rfl,ih _ t' _ _ _ rd jO (hn (by simpa using kV)) (hg.put _ undef kU) (Bn hc du) dJ⟩
    | r d r=>simp [Bp] at h
    | gr s b d r=>simp [Bp] at h
   ·rename_i i j sw;obtain ⟨t1,og,h⟩:=Option.bind_eq_some_iff.1 h;obtain ⟨t2,Bs,h⟩:=Option.bind_eq_some_iff.1 h;obtain ⟨s1,bC,h⟩:=Option.bind_eq_some_iff.1 h;obtain ⟨s2,bK,h⟩:=Option.bind_eq_some_iff.1 h;unfold xp at bC bK;obtain ⟨o1,xr,Xa⟩:=Option.bind_eq_some_iff.1 bC;obtain ⟨o2,sx,Xb⟩:=Option.bind_eq_some_iff.1 bK;clear bC bK;have Xc:i∈Region.ready .any ops listed:=by rw [sw];exact List.mem_cons_self
    have Xd:j∈Region.ready .any ops listed:=by rw [sw];exact List.mem_cons_of_mem _ List.mem_cons_self
    cases s1 with
    | e d e=>cases s2 with
     | e d' e'=>
      simp only [vh,Option.some.injEq] at h;subst h;obtain ⟨vj,y9,Xe,Xf⟩:=G8 Xa;obtain ⟨sy,DQ,Xg,Xh⟩:=G8 Xb;refine ⟨fun h0=>(by rw [sw] at h0;cases h0),fun i' eU=>?_⟩;rw [sw] at eU;have:i'=i∨i'=j:=by simpa using eU
      rcases this with rfl | rfl
      ·exact effect i' o1 t1 d e xr vj y9 Xf Xc og (by simp [Region.wanted,Xe]) jn.1
      ·exact effect i' o2 t2 d' e' sx sy DQ Xh Xd Bs (by simp [Region.wanted,Xg]) jn.2
     | r d r=>simp [vh] at h
     | gr s b d r=>simp [vh] at h
     | ge s b d e=>simp [vh] at h
    | r d r=>cases s2<;>simp [vh] at h
    | gr s b d r=>cases s2<;>simp [vh] at h
    | ge s b d e=>cases s2<;>simp [vh] at h
   ·cases h
def D.oh:D→Option (List S)
 | .nil=>some []
 | .r _ none dd q t=>t.oh.map (S.r dd q :: ·)
 | .r _ (some (s,b)) dd q t=>t.oh.map (S.gr s b dd q :: ·)
 | .e _ none dd q [] t=>t.oh.map (S.e dd q :: ·)
 | .e _ (some (s,b)) dd q [] t=>t.oh.map (S.ge s b dd q :: ·)
 | _=>none
theorem zq {w w':World}:∀ rd,lN [] w w' rd:=by
 intro rd
 induction rd with
 | nil=>trivial
 | cons p rd ih=>exact ⟨fun h=>by simp [zp] at h,ih⟩
theorem N4 {K:Env→World→Prop}:∀ (t:D) (st:List S) (ρ:Env) (w:World) (rd:List (Nat×Nat)),t.oh=some st→wpS P st ρ w K→dm P t ρ w rd K:=by
 intro t
 induction t with
 | nil=>intro st ρ w rd h hw;simp only [D.oh,Option.some.injEq] at h;subst h;exact hw
 | r i g d r t ih=>
  intro st ρ w rd h hw;cases g with
  | none=>
   simp only [D.oh] at h;obtain ⟨dQ,h1,rfl⟩:=Option.map_eq_some_iff.1 h;obtain ⟨v,hv,hk⟩:=hw;exact ⟨v,hv,ih _ _ _ _ h1 hk⟩
  | some g=>
   obtain ⟨s,b⟩:=g;simp only [D.oh] at h;obtain ⟨dQ,h1,rfl⟩:=Option.map_eq_some_iff.1 h;obtain ⟨c,hc,hy,hn⟩:=hw;exact ⟨c,hc,fun e=>let ⟨v,hv,hk⟩:=hy e;⟨v,hv,ih _ _ _ _ h1 hk⟩,fun e=>ih _ _ _ _ h1 (hn e)⟩
 | e i g d e fl t ih=>
  intro st ρ w rd h hw;cases fl with
  | cons x xs=>cases g with
   | none=>simp [D.oh] at h
   | some g=>obtain ⟨s,b⟩:=g;simp [D.oh] at h
  | nil=>
   cases g with
   | none=>
    simp only [D.oh] at h;obtain ⟨dQ,h1,rfl⟩:=Option.map_eq_some_iff.1 h;exact E.mono (fun v w' hk=>⟨zq rd,ih _ _ _ _ h1 hk⟩) e hw
   | some g=>
    obtain ⟨s,b⟩:=g;simp only [D.oh] at h;obtain ⟨dQ,h1,rfl⟩:=Option.map_eq_some_iff.1 h;obtain ⟨c,hc,hy,hn⟩:=hw;exact ⟨c,hc,fun e'=>E.mono (fun v w' hk=>⟨zq rd,ih _ _ _ _ h1 hk⟩) e (hy e'),fun e'=>ih _ _ _ _ h1 (hn e')⟩
 | e2=>intro st ρ w rd h hw;simp [D.oh] at h
theorem N5 {id:Nat} {pm:List Nat} {Q:Exit→Act→World→Prop} {K:Env→World→Prop} {t:D} {ρ:Env} {a:Act} {w:World} (hm:P.follows .mixedOrders=true) (gv:zm ops pm=true)
   (tP:Region.noSelect ops=true) (ht:qN P N ops pm ops.size (Array.replicate ops.size false)=some t) (h:dm P t ρ w.drew [] K) (hg:Good dl N ρ a)
   (hQ:∀ aw a' w',Good dl N aw a'→K aw w'→Q .normal a' w'):(Code.region id ops true).wp P Q a w:=by
 refine wp_region_any hm (G6 (B:=tQ pm []) (Q:=pO dl N K) (fun a' w' ⟨aw,h1,h2⟩=>hQ aw a' w' h1 h2) _ _ _ _ ?_);refine NY gv tP _ _ t ρ a w.drew [] ht h hg ?_ (fun _ _ h=>by cases h);intro j oj _ hl;have:(Array.replicate ops.size false).getD j false=false:=by
  rcases Nat.lt_or_ge j ops.size with h | h
  ·simp [h]
  ·simp [h]
 rw [this] at hl;cases hl
end
end
section
open Go
variable {dl:List Deferred}
def oT:O→List Nat
 | .t n=>[n]
 | .c _=>[]
def zt:Option O→List Nat
 | some x=>oT x
 | none=>[]
def lT (l:List O):List Nat:=l.flatMap oT
def pT (l:List (Nat×Nat×O)):List Nat:=l.flatMap fun p=>oT p.2.2
def R.tmps:R→List Nat
 | .mv x=>oT x
 | .nn x=>oT x
 | .fa _ x=>oT x
 | .l1 x=>oT x
 | .ln _ x=>oT x
 | .bi _ x y=>oT x++oT y
 | .eq _ _ x y=>oT x++oT y
 | .no x=>oT x
 | .ng x=>oT x
 | .cv _ x=>oT x
 | .len x=>oT x
 | .pL x=>oT x
 | .si x=>oT x
 | .cap x=>oT x
 | .ia _ s i=>oT s++oT i
 | .qI s i=>oT s++oT i
 | .fl _ x=>oT x
 | .y4 _ _ x=>oT x
 | .sl _ x lo hi mx=>oT x++zt lo++zt hi++zt mx
 | .y5 x lo hi=>oT x++zt lo++zt hi
 | .bd _ ps=>pT ps
 | .pk c a b=>oT c++oT a++oT b
 | .ex _ x=>oT x
 | .mi _ x=>oT x
 | .mm _ x y=>oT x++oT y
 | .jL _ _ x y=>oT x++oT y
 | .mf _ f c=>lT f++lT c
def E.tmps:E→Option (List Nat)
 | .st _ x v=>some (oT x++oT v)
 | .bx _ x=>some (oT x)
 | .al _ _=>some []
 | .bs _ _ _ ps=>some (pT ps)
 | .ms _ _ _ _ l c=>some (oT l++oT c)
 | .ap _ _ _ _ s x=>some (oT s++oT x)
 | .cp _ d s=>some (oT d++oT s)
 | .call _ args=>some (lT args)
 | .raw _=>none
def look (s:List (Nat×O)) (t:Nat):O:=
 match s with
 | []=>.t t
 | (d,o)::r=>if d=t then o else look r t
def O.sub (s:List (Nat×O)):O→O
 | .t n=>look s n
 | .c v=>.c v
def xu (s:List (Nat×O)) (x:Option O):Option O:=x.map (O.sub s)
def Bt (s:List (Nat×O)) (l:List (Nat×Nat×O)):List (Nat×Nat×O):=l.map fun p=>(p.1,p.2.1,p.2.2.sub s)
def R.sub (s:List (Nat×O)):R→R
 | .mv x=>.mv (x.sub s)
 | .nn x=>.nn (x.sub s)
 | .fa o x=>.fa o (x.sub s)
 | .l1 x=>.l1 (x.sub s)
 | .ln n x=>.ln n (x.sub s)
 | .bi op x y=>.bi op (x.sub s) (y.sub s)
 | .eq k n x y=>.eq k n (x.sub s) (y.sub s)
 | .no x=>.no (x.sub s)
 | .ng x=>.ng (x.sub s)
 | .cv k x=>.cv k (x.sub s)
 | .len x=>.len (x.sub s)
 | .pL x=>.pL (x.sub s)
 | .si x=>.si (x.sub s)
 | .cap x=>.cap (x.sub s)
 | .ia sz a i=>.ia sz (a.sub s) (i.sub s)
 | .qI a i=>.qI (a.sub s) (i.sub s)
 | .fl o x=>.fl o (x.sub s)
 | .y4 o n x=>.y4 o n (x.sub s)
 | .sl sz x lo hi mx=>.sl sz (x.sub s) (xu s lo) (xu s hi) (xu s mx)
 | .y5 x lo hi=>.y5 (x.sub s) (xu s lo) (xu s hi)
 | .bd z ps=>.bd z (Bt s ps)
 | .pk c a b=>.pk (c.sub s) (a.sub s) (b.sub s)
 | .ex i x=>.ex i (x.sub s)
 | .mi t x=>.mi t (x.sub s)
 | .mm m x y=>.mm m (x.sub s) (y.sub s)
 | .jL n f x y=>.jL n f (x.sub s) (y.sub s)
 | .mf fn f c=>.mf fn (f.map (O.sub s)) (c.map (O.sub s))
def E.sub (s:List (Nat×O)):E→E
 | .st n x v=>.st n (x.sub s) (v.sub s)
 | .bx t x=>.bx t (x.sub s)
 | .al t z=>.al t z
 | .bs el n c ps=>.bs el n c (Bt s ps)
 | .ms el sz b z l c=>.ms el sz b z (l.sub s) (c.sub s)
 | .ap el sz b z a x=>.ap el sz b z (a.sub s) (x.sub s)
 | .cp sz d a=>.cp sz (d.sub s) (a.sub s)
 | .call f args=>.call f (args.map (O.sub s))
 | .raw o=>.raw o
section
variable {ρ aw:Env} {s:List (Nat×O)}
theorem dA {x:O} (h:∀ t∈oT x,ρ.get t=(look s t).ev aw):x.ev ρ=(x.sub s).ev aw:=by
 cases x with
 | t n=>exact h n (by simp [oT])
 | c v=>rfl
theorem Bu {x:Option O} (h:∀ t∈zt x,ρ.get t=(look s t).ev aw):ob ρ x=ob aw (xu s x):=by
 cases x with
 | none=>rfl
 | some x=>simp only [xu,Option.map_some,ob,dA (x:=x) h]
theorem DV:∀ {l:List O},(∀ t∈lT l,ρ.get t=(look s t).ev aw)→fI ρ l=fI aw (l.map (O.sub s))
 | [],_=>rfl
 | x::l,h=>by
  have h1:∀ t∈oT x,ρ.get t=(look s t).ev aw:=fun t ht=>h t (by simp [lT,ht])
  have h2:∀ t∈lT l,ρ.get t=(look s t).ev aw:=fun t ht=>h t (by simp only [lT,List.flatMap_cons,List.mem_append];exact .inr ht)
  simp only [fI,List.map_cons,dA h1,DV h2]
theorem G':∀ {l:List (Nat×Nat×O)},(∀ t∈pT l,ρ.get t=(look s t).ev aw)→kS ρ l=kS aw (Bt s l)
 | [],_=>rfl
 | (a,b,x)::l,h=>by
  have h1:∀ t∈oT x,ρ.get t=(look s t).ev aw:=fun t ht=>h t (by simp [pT,ht])
  have h2:∀ t∈pT l,ρ.get t=(look s t).ev aw:=fun t ht=>h t (by simp only [pT,List.flatMap_cons,List.mem_append];exact .inr ht)
  have h3:=G' h2;simp only [Bt] at h3;simp only [kS,Bt,List.map_cons,dA h1,h3]
theorem inl {l m:List Nat} (h:∀ t∈l++m,ρ.get t=(look s t).ev aw):∀ t∈l,ρ.get t=(look s t).ev aw:=fun t ht=>h t (List.mem_append_left _ ht)
theorem inr {l m:List Nat} (h:∀ t∈l++m,ρ.get t=(look s t).ev aw):∀ t∈m,ρ.get t=(look s t).ev aw:=fun t ht=>h t (List.mem_append_right _ ht)
theorem N6 {w:World} (r:R) (h:∀ t∈r.tmps,ρ.get t=(look s t).ev aw):r.ev w ρ=(r.sub s).ev w aw:=by
 cases r with
 | mv x=>simp only [R.ev,R.sub,dA (x:=x) h]
 | nn x=>simp only [R.ev,R.sub,dA (x:=x) h]
 | fa o x=>simp only [R.ev,R.sub,dA (x:=x) h]
 | l1 x=>simp only [R.ev,R.sub,dA (x:=x) h]
 | ln n x=>simp only [R.ev,R.sub,dA (x:=x) h]
 | bi op x y=>simp only [R.ev,R.sub,dA (x:=x) (inl h),dA (x:=y) (inr h)]
 | eq k n x y=>simp only [R.ev,R.sub,dA (x:=x) (inl h),dA (x:=y) (inr h)]
 | no x=>simp only [R.ev,R.sub,dA (x:=x) h]
 | ng x=>simp only [R.ev,R.sub,dA (x:=x) h]
 | cv k x=>simp only [R.ev,R.sub,dA (x:=x) h]
 | len x=>simp only [R.ev,R.sub,dA (x:=x) h]
 | pL x=>simp only [R.ev,R.sub,dA (x:=x) h]
 | si x=>simp only [R.ev,R.sub,dA (x:=x) h]
 | cap x=>simp only [R.ev,R.sub,dA (x:=x) h]
 | ia sz a i=>simp only [R.ev,R.sub,dA (x:=a) (inl h),dA (x:=i) (inr h)]
 | qI a i=>simp only [R.ev,R.sub,dA (x:=a) (inl h),dA (x:=i) (inr h)]
 | fl o x=>simp only [R.ev,R.sub,dA (x:=x) h]
 | y4 o n x=>simp only [R.ev,R.sub,dA (x:=x) h]
 | sl sz x lo hi mx=>simp only [R.ev,R.sub,dA (x:=x) (inl (inl (inl h))),Bu (x:=lo) (inr (inl (inl h))),Bu (x:=hi) (inr (inl h)),Bu (x:=mx) (inr h)]
 | y5 x lo hi=>simp only [R.ev,R.sub,dA (x:=x) (inl (inl h)),Bu (x:=lo) (inr (inl h)),Bu (x:=hi) (inr h)]
 | bd z ps=>simp only [R.ev,R.sub,G' (l:=ps) h]
 | pk c a b=>simp only [R.ev,R.sub,dA (x:=c) (inl (inl h)),dA (x:=a) (inr (inl h)),dA (x:=b) (inr h)]
 | ex i x=>simp only [R.ev,R.sub,dA (x:=x) h]
 | mi t x=>simp only [R.ev,R.sub,dA (x:=x) h]
 | mm m x y=>simp only [R.ev,R.sub,dA (x:=x) (inl h),dA (x:=y) (inr h)]
 | jL n f x y=>simp only [R.ev,R.sub,dA (x:=x) (inl h),dA (x:=y) (inr h)]
 | mf fn f c=>simp only [R.ev,R.sub,DV (l:=f) (inl h),DV (l:=c) (inr h)]
theorem N7 {P:Program} {w:World} {K:Value→World→Prop} (e:E) (ts:List Nat) (he:e.tmps=some ts) (h:∀ t∈ts,ρ.get t=(look s t).ev aw):e.wp P w ρ K↔(e.sub s).wp P w aw K:=by
 cases e with
 | st n x v=>cases he;simp only [E.wp,E.sub,dA (x:=x) (inl h),dA (x:=v) (inr h)]
 | bx t x=>cases he;simp only [E.wp,E.sub,dA (x:=x) h]
 | al t z=>exact Iff.rfl
 | bs el n c ps=>cases he;simp only [E.wp,E.sub,G' (l:=ps) h]
 | ms el sz b z l c=>cases he;simp only [E.wp,E.sub,dA (x:=l) (inl h),dA (x:=c) (inr h)]
 | ap el sz b z a x=>cases he;simp only [E.wp,E.sub,dA (x:=a) (inl h),dA (x:=x) (inr h)]
 | cp sz d a=>cases he;simp only [E.wp,E.sub,dA (x:=d) (inl h),dA (x:=a) (inr h)]
 | call f args=>cases he;simp only [E.wp,E.sub,DV (l:=args) h]
 | raw o=>cases he
end
def S.tmps:S→Option (List Nat)
 | .r _ q=>some q.tmps
 | .e _ q=>q.tmps
 | .gr s _ _ q=>some (s::q.tmps)
 | .ge s _ _ q=>q.tmps.map (s :: ·)
def sT (s:S):List Nat:=s.tmps.getD []
def alive (l:List S) (kp:List Nat) (t:Nat):Bool:=kp.contains t||l.any fun s=>(sT s).contains t
def S.dst:S→Option Nat
 | .r d _=>d
 | .e d _=>d
 | .gr _ _ d _=>d
 | .ge _ _ d _=>d
def S.sub (m:List (Nat×O)):S→Option S
 | .r d q=>some (.r d (q.sub m))
 | .e d q=>some (.e d (q.sub m))
 | .gr s b d q=>match look m s with
  | .t s'=>some (.gr s' b d (q.sub m))
  | .c _=>none
 | .ge s b d q=>match look m s with
  | .t s'=>some (.ge s' b d (q.sub m))
  | .c _=>none
def DW (l:List S) (kp:List Nat) (d:Nat) (m:List (Nat×O)):Bool:=m.all fun p=>match p.2 with
 | .t n=>n != d || !(alive l kp p.1)
 | .c _=>true
def kill (d:Nat) (m:List (Nat×O)):List (Nat×O):=m.filter fun p=>p.1 != d
def vm (l:List S) (kp:List Nat):Option Nat→List (Nat×O)→Option (List (Nat×O))
 | none,m=>some m
 | some d,m=>if DW l kp d m then some (kill d m) else none
def Ha:S→Option (Nat×O)
 | .r (some d) (.mv x)=>some (d,x)
 | _=>none
def Bv (N:Nat):O→Bool
 | .t n=>decide (n < N)
 | .c _=>true
def Xi (d:Nat):O→Bool
 | .t n=>n != d
 | .c _=>true
def sA (N:Nat) (kp:List Nat):List (Nat×O)→List S→Option (List S)
 | m,[]=>if m.all fun p=>!(kp.contains p.1) then some [] else none
 | m,s::l=>
  if s.tmps.isNone then none else
  match Ha s with
  | some (d,x)=>
   if !(kp.contains d)&&Bv N x&&Xi d (x.sub m) then (vm l kp (some d) m).bind fun m'=>sA N kp ((d,x.sub m)::m') l
   else (s.sub m).bind fun s'=>(vm l kp s.dst m).bind fun m'=>(sA N kp m' l).map (s' :: ·)
  | none=>(s.sub m).bind fun s'=>(vm l kp s.dst m).bind fun m'=>(sA N kp m' l).map (s' :: ·)
section
variable {P:Program} {N:Nat} {ops:Array Oper}
theorem N8 {d:Nat} {m:List (Nat×O)} {t:Nat} (ht:t≠d):look (kill d m) t=look m t:=by
 induction m with
 | nil=>rfl
 | cons p m ih=>
  obtain ⟨e,o⟩:=p;unfold kill at ih ⊢;rw [List.filter_cons];by_cases he:e=d
  ·subst he;simp only [bne_self_eq_false,Bool.false_eq_true,if_false];rw [ih];simp only [look,if_neg (fun h:e=t=>ht h.symm)]
  ·simp only [bne_iff_ne,ne_eq,he,not_false_eq_true,if_true,look]
   split
   ·rfl
   ·exact ih
theorem Xj {d:Nat} {m:List (Nat×O)}:look (kill d m) d = .t d:=by
 induction m with
 | nil=>rfl
 | cons p m ih=>
  obtain ⟨e,o⟩:=p;unfold kill at ih ⊢;rw [List.filter_cons];by_cases he:e=d
  ·subst he
   simpa using ih
  ·simp only [bne_iff_ne,ne_eq,he,not_false_eq_true,if_true,look,if_neg he];exact ih
theorem Xk {l:List S} {kp:List Nat} {d:Nat} {m:List (Nat×O)} (h:DW l kp d m=true) {t:Nat} (ht:alive l kp t=true) (bo:t≠d):look m t≠.t d:=by
 induction m with
 | nil=>simp only [look];intro hh;cases hh;exact bo rfl
 | cons p m ih=>
  obtain ⟨e,o⟩:=p;simp only [DW,List.all_cons,Bool.and_eq_true] at h;simp only [look]
  split
  ·rename_i he;subst he;cases o with
   | c v=>intro hh;cases hh
   | t n=>
    intro hh;cases hh;simp [ht] at h
  ·exact ih (by simpa [DW] using h.2)
def Cp (l:List S) (kp:List Nat) (m:List (Nat×O)) (ρ aw:Env):Prop:=∀ t,alive l kp t=true→ρ.get t=(look m t).ev aw
theorem Hb {s:S} {l:List S} {kp:List Nat} {t:Nat} (h:alive l kp t=true):alive (s::l) kp t=true:=by
 simp only [alive,List.any_cons,Bool.or_eq_true] at h ⊢;rcases h with h | h
 ·exact .inl h
 ·exact .inr (.inr h)
theorem Xl {s:S} {l:List S} {kp:List Nat} {t:Nat} (h:t∈sT s):alive (s::l) kp t=true:=by
 simp [alive,h]
theorem Bw {ρ:Env} {d t:Nat} {v:Value} (h:t≠d):(ρ.put (some d) v).get t=ρ.get t:=by
 simp only [Env.put,Env.get,if_neg (fun hh:d=t=>h hh.symm)]
theorem Hc {ρ:Env} {d:Nat} {v:Value}:(ρ.put (some d) v).get d=some v:=by simp [Env.put,Env.get]
theorem zu {s:S} {l:List S} {kp:List Nat} {m m':List (Nat×O)} {ρ aw:Env} (h:Cp (s::l) kp m ρ aw) {d:Option Nat} (hk:vm l kp d m=some m') (v:Value):Cp l kp m' (ρ.put d v) (aw.put d v):=by
 intro t ht;cases d with
 | none=>
  simp only [vm,Option.some.injEq] at hk;subst hk;exact h t (Hb ht)
 | some d=>
  simp only [vm] at hk
  split at hk
  ·rename_i N9;simp only [Option.some.injEq] at hk;subst hk;by_cases DX:t=d
   ·subst DX;rw [Xj,Hc];exact Hc.symm
   ·rw [Bw DX,N8 DX,h t (Hb ht)];have:=Xk N9 ht DX;cases hl:look m t with
    | c v=>rfl
    | t n=>
     rw [hl] at this;have hn:n≠d:=fun hh=>this (by rw [hh])
     exact (Bw hn).symm
  ·cases hk
def Env.del (ρ:Env) (d:Nat):Env:=ρ.filter fun p=>p.1 != d
theorem Hd {ρ:Env} {d t:Nat}:(ρ.del d).get t=if t=d then none else ρ.get t:=by
 induction ρ with
 | nil=>simp [Env.del,Env.get]
 | cons p ρ ih=>
  obtain ⟨e,v⟩:=p;unfold Env.del at ih ⊢;rw [List.filter_cons];by_cases he:e=d
  ·subst he;simp only [bne_self_eq_false,Bool.false_eq_true,if_false];rw [ih];by_cases ht:t=e
   ·simp [ht]
   ·simp only [if_neg ht,Env.get,if_neg (fun hh:e=t=>ht hh.symm)]
  ·simp only [bne_iff_ne,ne_eq,he,not_false_eq_true,if_true,Env.get];by_cases het:e=t
   ·subst het;simp [he]
   ·simp only [het,if_false];exact ih
theorem Xm {ρ:Env} {a:Act} (h:Good dl N ρ a) {d:Nat} (hd:d < N) (v:Value):Good dl N (ρ.del d) (a.put (some d) v):=by
 have h1:=h.put (some d) v (fun t ht=>by cases ht;exact hd);refine ⟨h1.size,h1.defers,fun t u hu=>?_⟩;rw [Hd] at hu
 split at hu
 ·cases hu
 ·rename_i bo;exact h1.get t u (by rw [Bw bo];exact hu)
theorem N' {ρ aw:Env}:∀ {kp:List Nat},(∀ t∈kp,ρ.get t=aw.get t)→ρ.aB kp=aw.aB kp
 | [],_=>rfl
 | t::kp,h=>by
  have h1:=h t (by simp);have h2:=N' (kp:=kp) (fun t ht=>h t (by simp [ht]));simp only [Env.aB,h1,h2]
theorem Xn {m:List (Nat×O)} {t:Nat} (h:∀ p∈m,p.1≠t):look m t = .t t:=by
 induction m with
 | nil=>rfl
 | cons p m ih=>
  obtain ⟨e,o⟩:=p;simp only [look];rw [if_neg (h (e,o) (by simp)),ih (fun p hp=>h p (by simp [hp]))]
theorem He {o:Oper} {x:O} (hr:bZ P o.op=some (.mv x)) {ρ:Env} {a:Act} {w:World} (hg:Good dl N ρ a) (hx:Bv N x=true):∃ v,(∀ u,x.ev ρ=some u→u=v)∧o.wp P a w (fun a' w'=>a'=a.put o.dst v∧w'=w) sq:=by
 cases x with
 | c v=>
  refine ⟨v,fun u hu=>(by cases hu;rfl),?_⟩;refine Oper.wp_mono ?_ (zg (K:=fun v' w'=>v'=v∧w'=w) hr (v:=v) rfl ⟨rfl,rfl⟩ a hg.agree);rintro a' w' ⟨v',rfl,rfl,rfl⟩;exact ⟨rfl,rfl⟩
 | t n=>
  have hn:n < a.tmps.size:=by rw [hg.size];simpa [Bv] using hx
  obtain ⟨v,hv⟩:∃ v,a.tmps[n]? = some v:=⟨a.tmps[n],by simp [hn]⟩
  have gZ:Good dl N ((n,v)::ρ) a:=⟨hg.size,hg.defers,fun t u hu=>by
   simp only [Env.get] at hu
   split at hu
   ·rename_i hh;subst hh;rw [hv];exact hu
   ·exact hg.get t u hu⟩
  have nA:(R.mv (O.t n)).ev w ((n,v)::ρ)=some v:=by simp [R.ev,O.ev,Env.get]
  refine ⟨v,fun u hu=>?_,?_⟩
  ·have:=hg.get n u hu;rw [hv] at this;exact (Option.some.inj this).symm
  ·refine Oper.wp_mono ?_ (zg (K:=fun v' w'=>v'=v∧w'=w) hr (v:=v) nA ⟨rfl,rfl⟩ a gZ.agree);rintro a' w' ⟨v',rfl,rfl,rfl⟩;exact ⟨rfl,rfl⟩
theorem Xo {s:S} {d:Nat} {x:O} (h:Ha s=some (d,x)):s = .r (some d) (.mv x):=by
 unfold Ha at h
 split at h
 ·cases h;rfl
 ·cases h
theorem Oa {kp:List Nat} {G:Act→World→Prop} {K:Env→World→Prop}:∀ (l:List Oper) (st dQ:List S) (m:List (Nat×O)) (ρ aw:Env) (a:Act) (w:World),iM P N ops l=some st→sA N kp m st=some dQ →
   wpS P dQ aw w (fun ρ w=>K (ρ.aB kp) w)→Good dl N ρ a→Cp st kp m ρ aw→(∀ aw a' w',Good dl N aw a'→K (aw.aB kp) w'→G a' w')→jN P ops G l a w:=by
 intro l
 induction l with
 | nil=>
  intro st dQ m ρ aw a w h1 hc h2 h3 hC h4;simp only [iM,Option.some.injEq] at h1;subst h1;simp only [sA] at hc
  split at hc
  ·rename_i hk;simp only [Option.some.injEq] at hc;subst hc
   have Xp:ρ.aB kp=aw.aB kp:=N' (fun t ht=>by
    have:=hC t (by simp [alive,ht])
    rw [Xn (fun p hp hh=>by
     have:=List.all_eq_true.1 hk p hp
     simp [hh,ht] at this)] at this
    exact this)
   refine h4 _ _ _ h3 ?_;rw [Xp];exact h2
  ·cases hc
 | cons o l ih=>
  intro st dQ m ρ aw a w h1 hc h2 h3 hC h4;simp only [iM] at h1
  split at h1
  ·rename_i s t hs ht;simp only [Option.some.injEq] at h1;subst h1;simp only [sA] at hc
   split at hc
   ·cases hc
   rename_i Xq;obtain ⟨ts,o4⟩:∃ ts,s.tmps=some ts:=by
    cases hh:s.tmps with
    | none=>simp [hh] at Xq
    | some ts=>exact ⟨ts,rfl⟩
   have xv:∀ x∈ts,ρ.get x=(look m x).ev aw:=fun x hx=>hC x (Xl (by simp [sT,o4,hx]))
   have plain:((s.sub m).bind fun s'=>(vm t kp s.dst m).bind fun m'=>(sA N kp m' t).map (s' :: ·))=some dQ→jN P ops G (o::l) a w:=by
    intro hc;obtain ⟨s',eE,hc⟩:=Option.bind_eq_some_iff.1 hc;obtain ⟨m',fP,hc⟩:=Option.bind_eq_some_iff.1 hc;obtain ⟨t',jO,hc⟩:=Option.map_eq_some_iff.1 hc;subst hc;unfold pN at hs
    split at hs
    ·rename_i hd;have fc:=zi hd
     split at hs
     ·rename_i hg;have hw:Region.wanted o (yielded ops a.tmps)=true:=by simp [Region.wanted,hg]
      unfold jN;rw [if_pos hw]
      split at hs
      ·rename_i r hr;simp only [Option.some.injEq] at hs;subst hs;simp only [S.sub,Option.some.injEq] at eE;subst eE;simp only [S.tmps,Option.some.injEq] at o4;subst o4;obtain ⟨v,hv,hk⟩:=h2;rw [← N6 r xv] at hv;refine Oper.wp_mono ?_ (zg (K:=fun v' w'=>v'=v∧w'=w) hr hv ⟨rfl,rfl⟩ a h3.agree);rintro a' w' ⟨v',rfl,rfl,rfl⟩;exact ih t t' m' _ _ _ _ ht jO hk (h3.put _ _ fc) (zu hC fP _) h4
      ·simp only [Option.some.injEq] at hs;subst hs;simp only [S.sub,Option.some.injEq] at eE;subst eE;simp only [S.tmps] at o4;have iX:=(N7 _ ts o4 xv).2 h2;refine Oper.wp_mono ?_ (Bh iX a h3.agree);rintro a' w' ⟨v',rfl,hk⟩;exact ih t t' m' _ _ _ _ ht jO hk (h3.put _ _ fc) (zu hC fP _) h4
     ·rename_i j want hg
      split at hs
      ·rename_i sj DS
       split at hs
       ·rename_i r hr;simp only [Option.some.injEq] at hs;subst hs;simp only [S.tmps,Option.some.injEq] at o4;subst o4;simp only [S.sub] at eE
        split at eE
        ·rename_i s2 Hf;simp only [Option.some.injEq] at eE;subst eE;obtain ⟨c,hc,hy,hn⟩:=h2;have xw:ρ.get sj=some c:=by rw [xv sj (by simp),Hf];exact hc
         have hw:=zj hg DS h3 xw;unfold jN;by_cases ko:fK c want=true
         ·rw [if_pos (by rw [hw,ko])];obtain ⟨v,hv,hk⟩:=hy ko;rw [← N6 r (fun x hx=>xv x (by simp [hx]))] at hv;refine Oper.wp_mono ?_ (zg (K:=fun v' w'=>v'=v∧w'=w) hr hv ⟨rfl,rfl⟩ a h3.agree);rintro a' w' ⟨v',rfl,rfl,rfl⟩;exact ih t t' m' _ _ _ _ ht jO hk (h3.put _ _ fc) (zu hC fP _) h4
         ·rw [if_neg (by rw [hw];exact ko)];exact ih t t' m' _ _ _ _ ht jO (hn (by simpa using ko)) (h3.put _ _ fc) (zu hC fP _) h4
        ·cases eE
       ·simp only [Option.some.injEq] at hs;subst hs;simp only [S.tmps,Option.map_eq_some_iff] at o4;obtain ⟨te,hH,o4⟩:=o4;subst o4;simp only [S.sub] at eE
        split at eE
        ·rename_i s2 Hf;simp only [Option.some.injEq] at eE;subst eE;obtain ⟨c,hc,hy,hn⟩:=h2;have xw:ρ.get sj=some c:=by rw [xv sj (by simp),Hf];exact hc
         have hw:=zj hg DS h3 xw;unfold jN;by_cases ko:fK c want=true
         ·rw [if_pos (by rw [hw,ko])];have iX:=(N7 _ te hH (fun x hx=>xv x (by simp [hx]))).2 (hy ko);refine Oper.wp_mono ?_ (Bh iX a h3.agree);rintro a' w' ⟨v',rfl,hk⟩;exact ih t t' m' _ _ _ _ ht jO hk (h3.put _ _ fc) (zu hC fP _) h4
         ·rw [if_neg (by rw [hw];exact ko)];exact ih t t' m' _ _ _ _ ht jO (hn (by simpa using ko)) (h3.put _ _ fc) (zu hC fP _) h4
        ·cases eE
      ·cases hs
    ·cases hs
   split at hc
   ·rename_i d x Xr;have Xs:=Xo Xr;subst Xs
    split at hc
    ·rename_i DY;simp only [Bool.and_eq_true,Bool.not_eq_true'] at DY;obtain ⟨⟨xx,aP⟩,Ob⟩:=DY;obtain ⟨m',fP,hc⟩:=Option.bind_eq_some_iff.1 hc;obtain ⟨hr,Oc,hg,hN⟩:=NX hs;have hw:Region.wanted o (yielded ops a.tmps)=true:=by simp [Region.wanted,hg]
     unfold jN;rw [if_pos hw];obtain ⟨v,hv,jn⟩:=He (w:=w) hr h3 aP;refine Oper.wp_mono ?_ jn;rintro a' w' ⟨rfl,rfl⟩;rw [← Oc];simp only [S.tmps,Option.some.injEq] at o4;subst o4;have nA:x.ev ρ=(x.sub m).ev aw:=dA xv;have kU:=hN d rfl;have key:∃ fj,Good dl N fj (a.put (some d) v)∧fj.get d=x.ev ρ∧∀ t,t≠d→fj.get t=ρ.get t:=by
      cases hx:x.ev ρ with
      | none=>exact ⟨ρ.del d,Xm h3 kU v,by rw [Hd,if_pos rfl],fun t ht=>by rw [Hd,if_neg ht]⟩
      | some u=>
       obtain rfl:=hv u hx;exact ⟨ρ.put (some d) u,h3.put _ _ (fun t ht=>by cases ht;exact kU),Hc,fun t ht=>Bw ht⟩
     obtain ⟨fj,g1,g2,g3⟩:=key;refine ih t dQ _ fj aw _ _ ht hc h2 g1 ?_ h4;intro y hy;simp only [vm] at fP
     split at fP
     ·rename_i N9;simp only [Option.some.injEq] at fP;subst fP;by_cases DZ:y=d
      ·subst DZ;simp only [look,if_pos];rw [g2,nA]
      ·simp only [look,if_neg (fun h:d=y=>DZ h.symm)];rw [g3 y DZ,N8 DZ];exact hC y (Hb hy)
     ·cases fP
    ·exact plain hc
   ·exact plain hc
  ·cases h1
end
end
section
open Go
variable {dl:List Deferred}
inductive IR where
 | skip
 | ret
 | exit (id:Nat)
 | seq (a b:IR)
 | cond (c:O) (a b:IR)
 | block (id:Nat) (a:IR)
 | loop (a:IR)
 | cS (dw:Bool) (st:List S) (kp:List Nat)
 | dr (t:D) (kp:List Nat)
 | raw (c:Code)
 deriving Inhabited
abbrev Post:=Exit→Env→World→Prop
def kW (next:Env→World→Prop) (Q:Post):Post
 | .normal,ρ,w=>next ρ w
 | e,ρ,w=>Q e ρ w
def jP (id:Nat) (Q:Post):Post
 | .exit lO,ρ,w=>if lO=id then Q .normal ρ w else Q (.exit lO) ρ w
 | e,ρ,w=>Q e ρ w
def o5 (dl:List Deferred) (N:Nat) (Q:Post):Exit→Act→World→Prop:=fun e a w=>∃ ρ,Good dl N ρ a∧Q e ρ w
def cH (P:Program) (N:Nat):IR→Post→Env→World→Prop
 | .skip,Q,ρ,w=>Q .normal ρ w
 | .ret,Q,ρ,w=>Q .ret ρ w
 | .exit id,Q,ρ,w=>Q (.exit id) ρ w
 | .seq a b,Q,ρ,w=>cH P N a (kW (cH P N b Q) Q) ρ w
 | .cond c a b,Q,ρ,w=>∃ t,c.ev ρ=some (.bool t)∧(t=true→cH P N a Q ρ w)∧(t=false→cH P N b Q ρ w)
 | .block id a,Q,ρ,w=>cH P N a (jP id Q) ρ w
 | .loop a,Q,ρ,w=>∃ (I:Nat→Env→World→Prop) (n:Nat),I n ρ w∧∀ n ρ w,I n ρ w→cH P N a (kW (fun aw w'=>∃ m,m < n∧I m aw w') Q) ρ w
 | .cS dw st kp,Q,ρ,w=>wpS P st ρ (if dw then w.drew else w) fun ρ w=>Q .normal (ρ.aB kp) w
 | .dr t kp,Q,ρ,w=>dm P t ρ w.drew [] fun ρ w=>Q .normal (ρ.aB kp) w
 | .raw c,Q,ρ,w=>∀ dl a,Good dl N ρ a→c.wp P (o5 dl N Q) a w
def Od (id:Nat):List (Nat×List Nat×List Nat)→Option (List Nat×List Nat)
 | []=>none
 | (i,x)::r=>if i == id then some x else Od id r
def Hg (P:Program) (N:Nat) (id:Nat) (ops:Array Oper) (draw:Bool) (kp pm:List Nat):Option IR:=
 if draw then
  if Region.noSelect ops&&zm ops pm&&P.follows .mixedOrders then
   match qN P N ops pm ops.size (Array.replicate ops.size false) with
   | some t=>match t.oh with
    | some st=>some (.cS true st kp)
    | none=>some (.dr t kp)
   | none=>some (.raw (.region id ops draw))
  else some (.raw (.region id ops draw))
 else (iM P N ops ops.toList).map fun st=>.cS false ((sA N kp [] st).getD st) kp
def fk (P:Program) (N:Nat) (H:List (Nat×List Nat×List Nat)):Code→Option IR
 | .skip=>some .skip
 | .ret=>some .ret
 | .exit id=>some (.exit id)
 | .seq a b=>(fk P N H a).bind fun x=>(fk P N H b).map (.seq x)
 | .cond c a b=>(fk P N H a).bind fun x=>(fk P N H b).map (.cond (bm c) x)
 | .block id a=>(fk P N H a).map (.block id)
 | .loop a=>(fk P N H a).map .loop
 | .region id ops draw=>(Od id H).bind fun x=>Hg P N id ops draw x.1 x.2
 | c=>some (.raw c)
section
variable {P:Program} {N:Nat}
theorem least {p:Nat→Prop} (h:∃ n,p n):∃ n,p n∧∀ m,m < n→¬ p m:=by
 obtain ⟨n,hn⟩:=h
 induction n using Nat.strongRecOn with
 | _ n ih=>
  by_cases hm:∃ m,m < n∧p m
  ·obtain ⟨m,h1,h2⟩:=hm;exact ih m h1 h2
  ·exact ⟨n,hn,fun m h1 h2=>hm ⟨m,h1,h2⟩⟩
open Classical in
theorem Xt {c:Code} {Q:Exit→Act→World→Prop} {a:Act} {w:World} (I:Nat→Act→World→Prop) (n:Nat) (h0:I n a w)
   (round:∀ n a w,I n a w→c.wp P (Exit.then (fun a' w'=>∃ m,m < n∧I m a' w') Q) a w):(Code.loop c).wp P Q a w:=by
 refine wp_loop (fun a w=>∃ n,I n a w) (fun a w=>if h:∃ n,I n a w then Classical.choose (least h) else 0) ⟨n,h0⟩ ?_;intro a w h;have hl:=Classical.choose_spec (least h);have Xu:(if h:∃ n,I n a w then Classical.choose (least h) else 0)=Classical.choose (least h):=dif_pos h;refine wp_mono (round _ a w hl.1) ?_;intro e a' w' hq;cases e with
 | normal=>
  obtain ⟨m,hm,hI⟩:=hq;have hex:∃ n,I n a' w':=⟨m,hI⟩;refine ⟨hex,?_⟩;show (if h:∃ n,I n a' w' then Classical.choose (least h) else 0) < (if h:∃ n,I n a w then Classical.choose (least h) else 0);rw [Xu,dif_pos hex];have h2:=Classical.choose_spec (least hex);have:Classical.choose (least hex)≤m:=by
   rcases Nat.lt_or_ge m (Classical.choose (least hex)) with aP | hge
   ·exact absurd hI (h2.2 m aP)
   ·exact hge
  omega
 | _=>exact hq
theorem D1 {H:List (Nat×List Nat×List Nat)}:∀ (c:Code) (ir:IR) (Q:Post) (ρ:Env) (a:Act) (w:World),fk P N H c=some ir→cH P N ir Q ρ w→Good dl N ρ a→c.wp P (o5 dl N Q) a w:=by
 intro c
 induction c with
 | skip=>intro ir Q ρ a w h hw hg;simp only [fk,Option.some.injEq] at h;subst h;exact wp_skip ⟨ρ,hg,hw⟩
 | ret=>intro ir Q ρ a w h hw hg;simp only [fk,Option.some.injEq] at h;subst h;exact wp_ret ⟨ρ,hg,hw⟩
 | exit id=>intro ir Q ρ a w h hw hg;simp only [fk,Option.some.injEq] at h;subst h;exact wp_exit ⟨ρ,hg,hw⟩
 | seq x y iD lP=>
  intro ir Q ρ a w h hw hg;simp only [fk] at h;obtain ⟨a1,h1,h⟩:=Option.bind_eq_some_iff.1 h;obtain ⟨b1,h2,h⟩:=Option.map_eq_some_iff.1 h;subst h;refine wp_seq (wp_mono (iD a1 _ ρ a w h1 hw hg) ?_);intro e a' w' hq;obtain ⟨aw,dj,hq⟩:=hq;cases e with
  | normal=>exact lP b1 Q aw a' w' h2 hq dj
  | _=>exact ⟨aw,dj,hq⟩
 | cond c x y iD lP=>
  intro ir Q ρ a w h hw hg;simp only [fk] at h;obtain ⟨a1,h1,h⟩:=Option.bind_eq_some_iff.1 h;obtain ⟨b1,h2,h⟩:=Option.map_eq_some_iff.1 h;subst h;obtain ⟨t,hc,ht,hf⟩:=hw;have he:=hg.agree c _ hc;exact wp_cond_split he (fun e=>iD a1 Q ρ a w h1 (ht e) hg) (fun e=>lP b1 Q ρ a w h2 (hf e) hg)
 | block id x ih=>
  intro ir Q ρ a w h hw hg;simp only [fk] at h;obtain ⟨a1,h1,h⟩:=Option.map_eq_some_iff.1 h;subst h;refine wp_block (wp_mono (ih a1 _ ρ a w h1 hw hg) ?_);intro e a' w' hq;obtain ⟨aw,dj,hq⟩:=hq;cases e with
  | exit lO=>
   simp only [Exit.inBlock,jP] at hq ⊢
   split
   ·rename_i hh;rw [if_pos hh] at hq;exact ⟨aw,dj,hq⟩
   ·rename_i hh;rw [if_neg hh] at hq;exact ⟨aw,dj,hq⟩
  | _=>exact ⟨aw,dj,hq⟩
 | loop x ih=>
  intro ir Q ρ a w h hw hg;simp only [fk] at h;obtain ⟨a1,h1,h⟩:=Option.map_eq_some_iff.1 h;subst h;obtain ⟨I,n,h0,hr⟩:=hw;refine Xt (fun n a w=>∃ ρ,Good dl N ρ a∧I n ρ w) n ⟨ρ,hg,h0⟩ ?_;rintro n a w ⟨ρ,hg,hI⟩;refine wp_mono (ih a1 _ ρ a w h1 (hr n ρ w hI) hg) ?_;intro e a' w' hq;obtain ⟨aw,dj,hq⟩:=hq;cases e with
  | normal=>obtain ⟨m,hm,hI⟩:=hq;exact ⟨m,hm,aw,dj,hI⟩
  | _=>exact ⟨aw,dj,hq⟩
 | region id ops draw=>
  intro ir Q ρ a w h hw hg;simp only [fk] at h;obtain ⟨x,hx,h0⟩:=Option.bind_eq_some_iff.1 h;clear h;have h:=h0;clear h0;obtain ⟨kp,pm⟩:=x;unfold Hg at h;have fin:∀ aw a' w',Good dl N aw a'→Q .normal (aw.aB kp) w'→o5 dl N Q .normal a' w':=fun aw a' w' dj hq=>⟨_,dj.aB kp,hq⟩
  split at h
  ·rename_i hd;subst hd
   split at h
   ·rename_i hc;simp only [Bool.and_eq_true] at hc;obtain ⟨⟨hs,gv⟩,hm⟩:=hc
    split at h
    ·rename_i t ht
     split at h
     ·rename_i st bz;simp only [Option.some.injEq] at h;subst h;refine N5 (K:=fun ρ w=>Q .normal (ρ.aB kp) w) hm gv hs ht (N4 t st ρ _ [] bz ?_) hg fin;exact hw
     ·simp only [Option.some.injEq] at h;subst h;exact N5 (K:=fun ρ w=>Q .normal (ρ.aB kp) w) hm gv hs ht hw hg fin
    ·simp only [Option.some.injEq] at h;subst h;exact hw dl a hg
   ·simp only [Option.some.injEq] at h;subst h;exact hw dl a hg
  ·rename_i hd;have:draw=false:=by simpa using hd
   subst this;obtain ⟨st,bz,h⟩:=Option.map_eq_some_iff.1 h;subst h;cases o6:sA N kp [] st with
   | none=>
    rw [o6] at hw;exact wp_region_list (DR (fun _ _ h=>h) _ _ _ (zk (G:=fun a w=>o5 dl N Q .normal a w) ops.toList st ρ a w (fun ρ w=>Q .normal (ρ.aB kp) w) bz hw hg fin))
   | some dQ=>
    rw [o6] at hw;exact wp_region_list (DR (fun _ _ h=>h) _ _ _ (Oa (G:=fun a w=>o5 dl N Q .normal a w) (K:=fun ρ w=>Q .normal ρ w) ops.toList st dQ [] ρ ρ a w bz o6 hw hg (fun t _=>rfl) fin))
 | _=>
  intro ir Q ρ a w h hw hg;simp only [fk,Option.some.injEq] at h;subst h;exact hw dl a hg
inductive RV where
 | t (s:Nat)
 | l (s:Nat)
 | n (s k:Nat)
 deriving Inhabited
def RV.ev (w:World) (ρ:Env):RV→Option Value
 | .t s=>ρ.get s
 | .l s=>(ρ.get s).bind (y6 w)
 | .n s k=>(ρ.get s).bind (gp w k)
def aE (w:World) (ρ:Env):List RV→Option (List Value)
 | []=>some []
 | x::l=>match x.ev w ρ,aE w ρ l with
  | some v,some vs=>some (v::vs)
  | _,_=>none
def aF : List Value→Value
 | [v]=>v
 | vs=>.tuple vs.toArray
def sB (P:Program):List ResultVar→Option (List RV)
 | []=>some []
 | .tmp t::l=>(sB P l).map (RV.t t :: ·)
 | .cell a t::l=>match P.underlying t,iC P t with
  | some d,some n=>(sB P l).map ((if qH d then RV.n a n else RV.l a) :: ·)
  | _,_=>none
theorem Hh {ρ:Env} {a:Act} {w:World} (hg:Good dl N ρ a):∀ (l:List ResultVar) (rs:List RV) (vs:List Value),sB P l=some rs→aE w ρ rs=some vs →
   ro P w (l.mapM (fun | .tmp t=>pure (a.tmps.getD t undef) | .cell c t=>do loadVar t (← asAddr (a.tmps.getD c undef)):ResultVar→Sem Value))=some vs:=by
 intro l
 induction l with
 | nil=>
  intro rs vs h1 h2;simp only [sB,Option.some.injEq] at h1;subst h1;simp only [aE,Option.some.injEq] at h2;subst h2;simp
 | cons x l ih=>
  intro rs vs h1 h2;have Hi:∀ s u,ρ.get s=some u→a.tmps.getD s undef=u:=by
   intro s u hu;have:=hg.get s u hu;simp [this]
  cases x with
  | tmp t=>
   simp only [sB] at h1;obtain ⟨Hj,h3,h1⟩:=Option.map_eq_some_iff.1 h1;subst h1;simp only [aE] at h2
   split at h2
   ·rename_i v Bc e1 e2;cases h2;simp only [RV.ev] at e1;simp only [List.mapM_cons,cL,fH,Option.bind_some,ih Hj Bc h3 e2,Hi t v e1]
   ·cases h2
  | cell c t=>
   simp only [sB] at h1
   split at h1
   ·rename_i d n hd hn;obtain ⟨Hj,h3,h1⟩:=Option.map_eq_some_iff.1 h1;subst h1;simp only [aE] at h2
    split at h2
    ·rename_i v Bc e1 e2;cases h2;have key:ro P w (do loadVar t (← asAddr (a.tmps.getD c undef)))=some v:=by
      cases hb:qH d with
      | true=>
       simp only [hb,if_true,RV.ev] at e1;obtain ⟨u,hu,e1⟩:=Option.bind_eq_some_iff.1 e1;rw [Hi c u hu];unfold gp at e1
       split at e1
       ·rename_i ad;obtain ⟨cs,bH,e1⟩:=Option.map_eq_some_iff.1 e1;subst e1;unfold iC at hn;simp only [asAddr,cL,fH,Option.bind_some,loadVar,y0,hd,Option.map_some,hb,if_true,sh,hn,NA,bH]
       ·cases e1
      | false=>
       simp only [hb,Bool.false_eq_true,if_false,RV.ev] at e1;obtain ⟨u,hu,e1⟩:=Option.bind_eq_some_iff.1 e1;rw [Hi c u hu];unfold y6 at e1
       split at e1
       ·rename_i ad;simp only [asAddr,cL,fH,Option.bind_some,loadVar,y0,hd,Option.map_some,hb,Bool.false_eq_true,if_false,GD,e1]
       ·cases e1
     simp only [List.mapM_cons,cL,key,fH,Option.bind_some,ih Hj Bc h3 e2]
    ·cases h2
   ·cases h1
def a8 (P:Program) (f:FuncId) (args:List Value) (w:World) (R:Value→World→Prop):Prop:=
 Calls P f args.toArray w fun e w'=>∃ v,e = .returned v∧R v w'
theorem a8.mono {f:FuncId} {args:List Value} {w:World} {R R':Value→World→Prop} (h:a8 P f args w R) (hr:∀ v w',R v w'→R' v w'):a8 P f args w R':=
 Calls.mono h fun e w' ⟨v,he,hv⟩=>⟨v,he,hr _ _ hv⟩
def qP:Nat→List Value→Env
 | _,[]=>[]
 | i,v::l=>(i,v)::qP (i+1) l
def D2 (rs:List RV) (R:Value→World→Prop):Post
 | .normal,ρ,w=>∃ vs,aE w ρ rs=some vs∧R (aF vs) w
 | .ret,ρ,w=>∃ vs,aE w ρ rs=some vs∧R (aF vs) w
 | _,_,_=>False
theorem Hk:∀ (l:List Value) (i t:Nat) (v:Value),(qP i l).get t=some v→i≤t∧l[t - i]? = some v:=by
 intro l
 induction l with
 | nil=>intro i t v h;simp [qP,Env.get] at h
 | cons x l ih=>
  intro i t v h;simp only [qP,Env.get] at h
  split at h
  ·rename_i hit;subst hit;exact ⟨Nat.le_refl _,by simpa using h⟩
  ·obtain ⟨h1,h2⟩:=ih (i+1) t v h;refine ⟨by omega,?_⟩;rw [show t - i=(t - (i+1))+1 by omega]
   simpa using h2
structure Fits (P:Program) (f:Nat) (lQ:Nat) (H:List (Nat×List Nat×List Nat)) (ir:IR) (rs:List RV) (N:Nat):Prop where
 go:∃ fn c,P.funcs[f]? = some fn∧fn.body=some c∧fn.ntmps=N∧lQ≤N∧fk P N H c=some ir∧sB P fn.results.toList=some rs
theorem Fits.calls {f:Nat} {lQ:Nat} {H:List (Nat×List Nat×List Nat)} {ir:IR} {rs:List RV} (h:Fits P f lQ H ir rs N) {args:List Value} (hn:args.length=lQ) {w:World} {R:Value→World→Prop}
   (hw:cH P N ir (D2 rs R) (qP 0 args) w):a8 P f args w R:=by
 obtain ⟨fn,c,hf,hb,hN,hle,hd,Bx⟩:=h.go;refine calls_of_wp hf hb ?_;have hg:Good [] N (qP 0 args) { tmps:=args.toArray++Array.replicate (fn.ntmps - args.toArray.size) undef,defers:=[]}:=by
  refine ⟨?_,rfl,?_⟩
  ·simp only [Array.size_append,List.size_toArray,Array.size_replicate];omega
  ·intro t v ht;obtain ⟨_,h2⟩:=Hk args 0 t v ht;have aP:t < args.length:=by
    rcases Nat.lt_or_ge t args.length with h | h
    ·exact h
    ·simp [List.getElem?_eq_none h] at h2
   simp only [Nat.sub_zero] at h2;rw [Array.getElem?_append_left (by simpa using aP)]
   simpa using h2
 refine wp_mono (D1 c ir _ _ _ _ hd hw hg) ?_;intro e a' w' hq;obtain ⟨aw,dj,hq⟩:=hq;have fin:(∃ vs,aE w' aw rs=some vs∧R (aF vs) w')→a'.defers=[]∧∃ v,(results fn a'.tmps).run P w' = .ok v w'∧∃ u,Ending.returned v = .returned u∧R u w':=by
  rintro ⟨vs,h1,h2⟩;refine ⟨dj.defers,aF vs,lK ?_,_,rfl,h2⟩;unfold results;rw [cL,Array.mapM_eq_mapM_toList,A8];have:=Hh (P:=P) dj fn.results.toList rs vs Bx h1;refine Eq.trans (congrArg (fun o:Option (List Value)=>(o.map List.toArray).bind fun vs=>ro P w' (pure (if h:vs.size=1 then vs[0] else .tuple vs):Sem Value)) this) ?_;simp only [Option.map_some,Option.bind_some,fH,List.size_toArray,Option.some.injEq]
  match vs with
  | []=>rfl
  | [v]=>rfl
  | v::u::l=>simp [aF]
 cases e with
 | normal=>exact fin hq
 | ret=>exact fin hq
 | _=>exact hq.elim
end
end
section
open Go
section
variable {P:Program} {N:Nat} {Q:Post} {ρ:Env} {w:World} {K:Env→World→Prop}
@[go_sem] theorem ait:cH P N .skip Q ρ w=Q .normal ρ w:=_root_.id rfl
@[go_sem] theorem aiu:cH P N .ret Q ρ w=Q .ret ρ w:=_root_.id rfl
@[go_sem] theorem aiv (id:Nat):cH P N (.exit id) Q ρ w=Q (.exit id) ρ w:=_root_.id rfl
@[go_sem] theorem Xv (a b:IR):cH P N (.seq a b) Q ρ w=cH P N a (kW (cH P N b Q) Q) ρ w:=_root_.id rfl
@[go_sem] theorem aiw (id:Nat) (a:IR):cH P N (.block id a) Q ρ w=cH P N a (jP id Q) ρ w:=_root_.id rfl
@[go_sem] theorem Xw (st:List S) (kp:List Nat):cH P N (.cS false st kp) Q ρ w=wpS P st ρ w fun ρ w=>Q .normal (ρ.aB kp) w:=_root_.id rfl
@[go_sem] theorem aix (st:List S) (kp:List Nat):cH P N (.cS true st kp) Q ρ w=wpS P st ρ w.drew fun ρ w=>Q .normal (ρ.aB kp) w:=_root_.id rfl
@[go_sem] theorem aiy {c:O} {a b:IR} (h:c.ev ρ=some (.bool true)):cH P N (.cond c a b) Q ρ w=cH P N a Q ρ w:=by
 simp [cH,h]
@[go_sem] theorem aiz {c:O} {a b:IR} (h:c.ev ρ=some (.bool false)):cH P N (.cond c a b) Q ρ w=cH P N b Q ρ w:=by
 simp [cH,h]
theorem Xx {c:O} {a b:IR} {t:Bool} (h:c.ev ρ=some (.bool t)) (ht:t=true→cH P N a Q ρ w) (hf:t=false→cH P N b Q ρ w):cH P N (.cond c a b) Q ρ w:=⟨t,h,ht,hf⟩
theorem fL {b:IR} (I:Nat→Env→World→Prop) (n:Nat) (h0:I n ρ w)
   (hs:∀ n ρ w,I n ρ w→cH P N b (kW (fun aw w'=>∃ m,m < n∧I m aw w') Q) ρ w):cH P N (.loop b) Q ρ w:=⟨I,n,h0,hs⟩
@[go_sem] theorem aiA (next:Env→World→Prop):kW next Q .normal=next:=_root_.id rfl
@[go_sem] theorem aiB (next:Env→World→Prop):kW next Q .ret=Q .ret:=_root_.id rfl
@[go_sem] theorem aiC (next:Env→World→Prop) (id:Nat):kW next Q (.exit id)=Q (.exit id):=_root_.id rfl
@[go_sem] theorem aiD (id:Nat):jP id Q .normal=Q .normal:=_root_.id rfl
@[go_sem] theorem aiE (id:Nat):jP id Q .ret=Q .ret:=_root_.id rfl
@[go_sem] theorem aiF (id:Nat):jP id Q (.exit id)=Q .normal:=by funext ρ w;simp [jP]
@[go_sem] theorem aiG (id lO:Nat) (h:(lO=id)=False):jP id Q (.exit lO)=Q (.exit lO):=by funext ρ w;simp [jP,h]
@[go_sem] theorem aiH (rs:List RV) (R:Value→World→Prop):D2 rs R .normal ρ w=∃ vs,aE w ρ rs=some vs∧R (aF vs) w:=_root_.id rfl
@[go_sem] theorem aiI (rs:List RV) (R:Value→World→Prop):D2 rs R .ret ρ w=∃ vs,aE w ρ rs=some vs∧R (aF vs) w:=_root_.id rfl
@[go_sem] theorem aiJ:wpS P [] ρ w K=K ρ w:=_root_.id rfl
@[go_sem] theorem aiK (d:Option Nat) (r:R) (l:List S):wpS P (.r d r::l) ρ w K=∃ v,r.ev w ρ=some v∧wpS P l (ρ.put d v) w K:=_root_.id rfl
@[go_sem] theorem aiL (d:Option Nat) (e:E) (l:List S):wpS P (.e d e::l) ρ w K=e.wp P w ρ fun v w'=>wpS P l (ρ.put d v) w' K:=_root_.id rfl
@[go_sem] theorem aiM {s:Nat} {d:Option Nat} {r:R} {l:List S} (h:ρ.get s=some (.bool true)):wpS P (.gr s true d r::l) ρ w K=(∃ v,r.ev w ρ=some v∧wpS P l (ρ.put d v) w K):=by
 simp [wpS,h,fK,undef]
@[go_sem] theorem aiN {s:Nat} {d:Option Nat} {r:R} {l:List S} (h:ρ.get s=some (.bool false)):wpS P (.gr s false d r::l) ρ w K=(∃ v,r.ev w ρ=some v∧wpS P l (ρ.put d v) w K):=by
 simp [wpS,h,fK,undef]
@[go_sem] theorem aiO {s:Nat} {d:Option Nat} {r:R} {l:List S} (h:ρ.get s=some (.bool true)):wpS P (.gr s false d r::l) ρ w K=wpS P l (ρ.put d undef) w K:=by
 simp [wpS,h,fK,undef]
@[go_sem] theorem aiP {s:Nat} {d:Option Nat} {r:R} {l:List S} (h:ρ.get s=some (.bool false)):wpS P (.gr s true d r::l) ρ w K=wpS P l (ρ.put d undef) w K:=by
 simp [wpS,h,fK,undef]
@[go_sem] theorem aiQ {s:Nat} {d:Option Nat} {r:R} {l:List S} (h:ρ.get s=some undef):wpS P (.gr s true d r::l) ρ w K=wpS P l (ρ.put d undef) w K:=by
 simp [wpS,h,fK,undef]
@[go_sem] theorem aiR {s:Nat} {d:Option Nat} {r:R} {l:List S} (h:ρ.get s=some undef):wpS P (.gr s false d r::l) ρ w K=wpS P l (ρ.put d undef) w K:=by
 simp [wpS,h,fK,undef]
@[go_sem] theorem aiS {s:Nat} {d:Option Nat} {e:E} {l:List S} (h:ρ.get s=some (.bool true)):wpS P (.ge s true d e::l) ρ w K=(e.wp P w ρ fun v w'=>wpS P l (ρ.put d v) w' K):=by
 simp [wpS,h,fK,undef]
@[go_sem] theorem aiT {s:Nat} {d:Option Nat} {e:E} {l:List S} (h:ρ.get s=some (.bool false)):wpS P (.ge s false d e::l) ρ w K=(e.wp P w ρ fun v w'=>wpS P l (ρ.put d v) w' K):=by
 simp [wpS,h,fK,undef]
@[go_sem] theorem aiU {s:Nat} {d:Option Nat} {e:E} {l:List S} (h:ρ.get s=some (.bool true)):wpS P (.ge s false d e::l) ρ w K=wpS P l (ρ.put d undef) w K:=by
 simp [wpS,h,fK,undef]
@[go_sem] theorem aiV {s:Nat} {d:Option Nat} {e:E} {l:List S} (h:ρ.get s=some (.bool false)):wpS P (.ge s true d e::l) ρ w K=wpS P l (ρ.put d undef) w K:=by
 simp [wpS,h,fK,undef]
@[go_sem] theorem aiW {rd:List (Nat×Nat)}:dm P .nil ρ w rd K=K ρ w:=_root_.id rfl
@[go_sem] theorem aiX {rd:List (Nat×Nat)} (i:Nat) (d:Option Nat) (r:R) (t:D):dm P (.r i none d r t) ρ w rd K=∃ v,r.ev w ρ=some v∧dm P t (ρ.put d v) w (vg i (r.iW ρ) rd) K:=_root_.id rfl
@[go_sem] theorem aiY {rd:List (Nat×Nat)} (i:Nat) (d:Option Nat) (e:E) (fl:List Nat) (t:D):dm P (.e i none d e fl t) ρ w rd K=e.wp P w ρ fun v w'=>lN fl w w' rd∧dm P t (ρ.put d v) w' rd K:=_root_.id rfl
section
variable {rd:List (Nat×Nat)}
@[go_sem] theorem aiZ {i s:Nat} {d:Option Nat} {r:R} {t:D} (h:ρ.get s=some (.bool false)):dm P (.r i (some (s,false)) d r t) ρ w rd K=(∃ v,r.ev w ρ=some v∧dm P t (ρ.put d v) w (vg i (r.iW ρ) rd) K):=by
 simp [dm,h,fK,undef]
@[go_sem] theorem ai0 {i s:Nat} {d:Option Nat} {r:R} {t:D} (h:ρ.get s=some (.bool true)):dm P (.r i (some (s,false)) d r t) ρ w rd K=dm P t (ρ.put d undef) w rd K:=by
 simp [dm,h,fK,undef]
end
@[go_sem] theorem ai1 (t:D) (kp:List Nat):cH P N (.dr t kp) Q ρ w=dm P t ρ w.drew [] fun ρ w=>Q .normal (ρ.aB kp) w:=_root_.id rfl
theorem Bz (om:Env→World→Prop) {l:List S} (h:wpS P l ρ w om) (hk:∀ ρ w,om ρ w→K ρ w):wpS P l ρ w K:=by
 induction l generalizing ρ w with
 | nil=>exact hk _ _ h
 | cons s l ih=>
  cases s with
  | r d r=>obtain ⟨v,h1,h2⟩:=h;exact ⟨v,h1,ih h2⟩
  | e d e=>exact E.mono (fun v w' h=>ih h) e h
  | gr s b d r=>obtain ⟨c,h1,h2,h3⟩:=h;exact ⟨c,h1,fun hh=>let ⟨v,h4,h5⟩:=h2 hh;⟨v,h4,ih h5⟩,fun hh=>ih (h3 hh)⟩
  | ge s b d e=>obtain ⟨c,h1,h2,h3⟩:=h;exact ⟨c,h1,fun hh=>E.mono (fun v w' h=>ih h) e (h2 hh),fun hh=>ih (h3 hh)⟩
theorem Xy {a:IR} {next next':Env→World→Prop} (hn:∀ ρ w,next ρ w→next' ρ w):∀ (e:Exit) (ρ:Env) (w:World),kW next Q e ρ w→kW next' Q e ρ w:=by
 intro e ρ w h;cases e<;>first | exact hn _ _ h | exact h
@[go_sem] theorem qQ (s t:Nat) (v:Value):Env.get ((s,v)::ρ) t=if s=t then some v else ρ.get t:=_root_.id rfl
def Hl (t:Nat) (v:Option Value) (r:Env):Env:=
 match v with
 | some v=>(t,v)::r
 | none=>r
@[go_sem] theorem Oe (t:Nat) (v:Value) (r:Env):Hl t (some v) r=(t,v)::r:=_root_.id rfl
@[go_sem] theorem Xz (t:Nat) (r:Env):Hl t none r=r:=_root_.id rfl
@[go_sem] theorem ai2:ρ.aB []=[]:=_root_.id rfl
@[go_sem] theorem XA (t:Nat) (ts:List Nat):ρ.aB (t::ts)=Hl t (ρ.get t) (ρ.aB ts):=by
 simp only [Env.aB];cases ρ.get t<;>rfl
@[go_sem] theorem XB (d:Nat) (v:Value):ρ.put (some d) v=(d,v)::ρ:=_root_.id rfl
@[go_sem] theorem ai3 (v:Value):ρ.put none v=ρ:=_root_.id rfl
@[go_sem] theorem zv (n:Nat):(O.t n).ev ρ=ρ.get n:=_root_.id rfl
@[go_sem] theorem O_c (v:Value):(O.c v).ev ρ=some v:=_root_.id rfl
@[go_sem] theorem ai4:fI ρ []=some []:=_root_.id rfl
@[go_sem] theorem ai5 (x:O) (l:List O):fI ρ (x::l)=(x.ev ρ).bind fun v=>(fI ρ l).map fun vs=>v::vs:=by
 simp only [fI];cases x.ev ρ<;>cases fI ρ l<;>rfl
@[go_sem] theorem ai6:kS ρ []=some []:=_root_.id rfl
@[go_sem] theorem ai7 (o n:Nat) (x:O) (l:List (Nat×Nat×O)):kS ρ ((o,n,x)::l)=(x.ev ρ).bind fun v=>(kS ρ l).map fun vs=>(o,n,v)::vs:=by
 simp only [kS];cases x.ev ρ<;>cases kS ρ l<;>rfl
@[go_sem] theorem ai8:ob ρ none=some none:=_root_.id rfl
@[go_sem] theorem ai9 (x:O):ob ρ (some x)=(x.ev ρ).map some:=by
 simp only [ob];cases x.ev ρ<;>rfl
@[go_sem] theorem ai':aE w ρ []=some []:=_root_.id rfl
@[go_sem] theorem aja (x:RV) (l:List RV):aE w ρ (x::l)=(x.ev w ρ).bind fun v=>(aE w ρ l).map fun vs=>v::vs:=by
 simp only [aE];cases x.ev w ρ<;>cases aE w ρ l<;>rfl
end
@[go_sem] theorem ajb (v:Value):aF [v]=v:=_root_.id rfl
@[go_sem] theorem ajc (v u:Value) (l:List Value):aF (v::u::l) = .tuple (v::u::l).toArray:=_root_.id rfl
@[go_sem] theorem ajd (w:World) (ρ:Env) (s:Nat):(RV.t s).ev w ρ=ρ.get s:=_root_.id rfl
@[go_sem] theorem aje (w:World) (ρ:Env) (s k:Nat):(RV.n s k).ev w ρ=(ρ.get s).bind (gp w k):=_root_.id rfl
attribute [go_sem] qP R.ev GG GH y6 uZ A9 GJ u6 u7 GK GL GM GN GO DM GP GQ GR GS GU mI GW GX GY qJ DN y8 y7 qK
attribute [go_sem] R.iW vg lN zp
@[go_sem] theorem ajf (cs:Array Value):jm cs []=some cs:=_root_.id rfl
def One (v:Value):Prop:=v.cells = #[v]
@[go_sem] theorem ajg {l:List Value} {off:Nat} {v:Value} {rest:List (Nat×Nat×Value)} (XC:One v) (h:off < l.length) :
   jm l.toArray ((off,1,v)::rest)=jm (l.set off v).toArray rest:=by
 have hv:v.cells = #[v]:=XC;simp only [jm,hv];rw [if_neg (by simp;omega)];simp
@[go_sem] theorem Of {l vs:List Value} {off n:Nat} {rest:List (Nat×Nat×Value)} (hv:vs.length=n) (h:off+n≤l.length) :
   jm l.toArray ((off,n,.agg vs.toArray)::rest)=jm (l.take off++vs++l.drop (off+n)).toArray rest:=by
 subst hv;simp only [jm];rw [if_neg (by simp [Value.cells];omega)];show jm (vs.toArray.zipIdx.foldl (fun (cs:Array Value) (x:Value×Nat)=>cs.setIfInBounds (off+x.2) x.1) l.toArray) rest=_
 congr 1
 have key:∀ (vs l:List Value) (off k:Nat),off+k+vs.length≤l.length →
     ((vs.zipIdx k).foldl (fun (cs:Array Value) (x:Value×Nat)=>cs.setIfInBounds (off+x.2) x.1) l.toArray)=(l.take (off+k)++vs++l.drop (off+k+vs.length)).toArray:=by
  intro vs
  induction vs with
  | nil=>intro l off k hk;simp
  | cons v vs ih=>
   intro l off k hk;simp only [List.length_cons] at hk;simp only [List.zipIdx_cons,List.foldl_cons,List.setIfInBounds_toArray];rw [ih (l.set (off+k) v) off (k+1) (by simp;omega)]
   congr 1
   have e1:(l.set (off+k) v).take (off+(k+1))=l.take (off+k)++[v]:=by
    rw [List.set_eq_take_append_cons_drop,if_pos (by omega),show off+(k+1)=(l.take (off+k)).length+1 by simp;omega,List.take_append];simp;rw [List.take_of_length_le (by simp)]
   have e2:(l.set (off+k) v).drop (off+(k+1)+vs.length)=l.drop (off+k+(vs.length+1)):=by
    rw [List.drop_set_of_lt (by omega)]
    congr 1;omega
   rw [e1,e2];simp
 have:=key vs l off 0 (by omega);simp only [Nat.add_zero] at this;rw [← this];rw [← Array.foldl_toList];simp
@[go_sem] theorem ajh (k:IntKind) (n:Int):One (Value.int k n)=True:=eq_true rfl
@[go_sem] theorem aji (b:ByteArray):One (Value.string b)=True:=eq_true rfl
@[go_sem] theorem ajj (b:Option Addr):One (Value.pointer b)=True:=eq_true rfl
@[go_sem] theorem ajk (a:Option Addr) (n c:Nat):One (Value.slice a n c)=True:=eq_true rfl
@[go_sem] theorem ajl (b:Option Nat):One (Value.map b)=True:=eq_true rfl
@[go_sem] theorem ajm (t:TypeId) (v:Value):One (Value.iface t v)=True:=eq_true rfl
attribute [go_sem] exists_eq' Option.bind_some Option.bind_none Option.map_some Option.map_none exists_eq_left' Option.some.injEq
attribute [go_sem] List.getElem?_toArray List.getElem?_cons_zero List.getElem?_cons_succ
structure Mod (S:Nat→Prop) (w w':World):Prop where
 size:w.heap.size≤w'.heap.size
 bN:∀ b,b < w.heap.size→¬ S b→w'.heap[b]? = w.heap[b]?
 os:w'.os=w.os
 tape:w'.tape=w.tape
 output:w'.output=w.output
theorem Mod.refl (S:Nat→Prop) (w:World):Mod S w w:=⟨Nat.le_refl _,fun _ _ _=>rfl,rfl,rfl,rfl⟩
theorem Mod.trans {S:Nat→Prop} {a b c:World} (h:Mod S a b) (k:Mod S b c):Mod S a c:=
 ⟨Nat.le_trans h.size k.size,fun i hi hs=>(k.bN i (Nat.lt_of_lt_of_le hi h.size) hs).trans (h.bN i hi hs),k.os.trans h.os,k.tape.trans h.tape,k.output.trans h.output⟩
theorem Mod.step {S S':Nat→Prop} {a b c:World} (h:Mod S a b) (k:Mod S' b c) (hs:∀ i,S' i→i < a.heap.size→S i):Mod S a c:=
 ⟨Nat.le_trans h.size k.size,fun i hi hn=>(k.bN i (Nat.lt_of_lt_of_le hi h.size) (fun hh=>hn (hs i hh hi))).trans (h.bN i hi hn),k.os.trans h.os,k.tape.trans h.tape,k.output.trans h.output⟩
theorem Mod.aU {S S':Nat→Prop} {a b:World} (h:Mod S a b) (hs:∀ i,S i→S' i):Mod S' a b:=
 ⟨h.size,fun i hi hn=>h.bN i hi (fun hh=>hn (hs i hh)),h.os,h.tape,h.output⟩
theorem Mod.drew {S:Nat→Prop} {a b:World} (h:Mod S a b):Mod S a b.drew:=⟨h.size,h.bN,h.os,h.tape,h.output⟩
theorem Mod.eF {S:Nat→Prop} {a b:World} (h:Mod S a.drew b):Mod S a b:=⟨h.size,h.bN,h.os,h.tape,h.output⟩
theorem cO {w:World} {b:Nat} {o:Obj} (h:w.heap[b]? = some o):b < w.heap.size:=(Array.getElem?_eq_some_iff.1 h).1
theorem Mod.at {S:Nat→Prop} {w w':World} (h:Mod S w w') {b:Nat} {o:Obj} (hb:w.heap[b]? = some o) (hs:¬ S b):w'.heap[b]? = some o:=(h.bN b (cO hb) hs).trans hb
theorem Mod.cell {S:Nat→Prop} {w w':World} (h:Mod S w w') {a:Addr} {v:Value} (ha:w.cell? a=some v) (hs:¬ S a.block):w'.cell? a=some v:=by
 have aP:=World.block_lt_of_cell? w a ha;rw [G5 (h.bN a.block aP hs)];exact ha
theorem XD {w:World} {b T:Nat} {fz:Nat×Nat} {cs:List Value} (h:w.heap[b]? = some (.cells cs.toArray T fz)):∀ (n off i:Nat) (acc:List Value),off+i+n≤cs.length →
   jK w ⟨b,off,none⟩ i n acc.toArray=some (acc++(cs.drop (off+i)).take n).toArray:=by
 intro n
 induction n with
 | zero=>intro off i acc _;simp [jK]
 | succ n ih=>
  intro off i acc hle;have aP:off+i < cs.length:=by omega
  have hc:w.cell? (Addr.add ⟨b,off,none⟩ i)=some cs[off+i]:=by
   have:Addr.add ⟨b,off,none⟩ i=⟨b,off+i,none⟩:=by unfold Addr.add;split<;>simp_all
   rw [this];simp [World.cell?,h,aP]
  simp only [jK,hc];have:=ih off (i+1) (acc++[cs[off+i]]) (by omega);rw [show acc.toArray.push cs[off+i]=(acc++[cs[off+i]]).toArray by simp,this]
  congr 2
  rw [List.append_assoc]
  congr 1
  rw [show cs.drop (off+i)=cs[off+i]::cs.drop (off+(i+1)) by rw [List.drop_eq_getElem_cons aP];rfl];simp
theorem iN {w:World} {b T off n:Nat} {fz:Nat×Nat} {cs:List Value} (h:w.heap[b]? = some (.cells cs.toArray T fz)) (hle:off+n≤cs.length) :
   gp w n (.pointer (some ⟨b,off,none⟩))=some (.agg ((cs.drop off).take n).toArray):=by
 have:=XD h n off 0 [] (by omega);simp only [gp];simp only [List.nil_append,Nat.add_zero] at this;rw [this];rfl
theorem cell_of {w:World} {b:Nat} {cs:Array Value} {T:TypeId} {fz:Nat×Nat} (h:w.heap[b]? = some (.cells cs T fz)) (o:Nat):w.cell? ⟨b,o,none⟩=cs[o]?:=by simp [World.cell?,h]
@[go_sem] theorem ajn (w:World):w.drew.heap=w.heap:=_root_.id rfl
@[go_sem] theorem Og (w:World) (a:Addr):w.drew.cell? a=w.cell? a:=_root_.id rfl
@[go_sem] theorem add_zero' (a:Addr):a.add 0=a:=_root_.id rfl
@[go_sem] theorem oo (b o n:Nat):Addr.add ⟨b,o,none⟩ n=⟨b,o+n,none⟩:=by unfold Addr.add;split<;>simp_all
theorem xy (S:Nat→Prop) (w:World) (o:Obj):Mod S w (w.alloc o):=
 ⟨by simp,fun b hb _=>by show (w.heap.push o)[b]? = _;rw [Array.getElem?_push,if_neg (by omega)],rfl,rfl,rfl⟩
theorem Oh (w:World) (b:Nat) (cs:Array Value):Mod (· = b) w (w.setRow b cs):=
 ⟨by simp,fun i _ hs=>setRow_other w b i cs hs,rfl,rfl,rfl⟩
section
variable {P:Program} {w:World} {ρ:Env} {K:Value→World→Prop}
theorem Hm {n:Nat} {x y:O} {b off:Nat} {v:Value} {cs:Array Value} {T:TypeId} (hx:x.ev ρ=some (.pointer (some ⟨b,off,none⟩))) (hy:y.ev ρ=some v)
   (hb:w.heap[b]? = some (.cells cs T (0,0))) (hn:v.cells.size=n) (km:off+n≤cs.size) (h1:∀ u∈v.cells.toList,u.oneCell'=true)
   (hk:∀ w',w'.heap[b]? = some (.cells (sp cs off v.cells.toList) T (0,0))→Mod (· = b) w w'→w'.heap.size=w.heap.size→K undef w'):E.wp P w ρ K (.st n x y):=by
 refine ⟨_,v,cs,T,hx,hy,hn,⟨rfl,hb⟩,?_,h1,?_⟩
 ·show off+v.cells.toList.length≤cs.size;rw [Array.length_toList,hn];exact km
 ·exact hk _ (setRow_heap w b cs _ T _ hb) (Oh w b _) (by simp)
theorem XE (l:List Value) (o:Nat) (v:Value) (h:o < l.length):sp l.toArray o [v]=(l.set o v).toArray:=by
 unfold sp
 congr 1
 simp only [List.length_cons,List.length_nil,Nat.zero_add];rw [List.set_eq_take_append_cons_drop,if_pos h];simp
theorem XF {cs vs:List Value} (h:vs.length=cs.length):sp cs.toArray 0 vs=vs.toArray:=by
 unfold sp;simp only [Nat.zero_add,List.take_zero,List.nil_append];rw [List.drop_of_length_le (by omega),List.append_nil]
theorem bL {n:Nat} {x y:O} {b:Nat} {vs cs:List Value} {T:TypeId} (hx:x.ev ρ=some (.pointer (some ⟨b,0,none⟩))) (hy:y.ev ρ=some (.agg vs.toArray))
   (hb:w.heap[b]? = some (.cells cs.toArray T (0,0))) (hn:vs.length=n) (hc:cs.length=n) (h1:∀ u∈vs,u.oneCell'=true)
   (hk:∀ w',w'.heap[b]? = some (.cells vs.toArray T (0,0))→Mod (· = b) w w'→w'.heap.size=w.heap.size→K undef w'):E.wp P w ρ K (.st n x y):=by
 refine Hm (v:=.agg vs.toArray) hx hy hb (by simpa [Value.cells] using hn) (by simp;omega) (by simpa [Value.cells] using h1) ?_;intro w' h2 h3 h4;refine hk w' ?_ h3 h4;rw [h2];have:sp cs.toArray 0 (Value.agg vs.toArray).cells.toList=vs.toArray:=XF (by simp [Value.cells];omega);rw [this]
theorem Oi {n:Nat} {x y:O} {b off:Nat} {vs cs:List Value} {T:TypeId} (hx:x.ev ρ=some (.pointer (some ⟨b,off,none⟩))) (hy:y.ev ρ=some (.agg vs.toArray))
   (hb:w.heap[b]? = some (.cells cs.toArray T (0,0))) (hn:vs.length=n) (hc:off+n≤cs.length) (h1:∀ u∈vs,u.oneCell'=true)
   (hk:∀ w',w'.heap[b]? = some (.cells (sp cs.toArray off vs) T (0,0))→Mod (· = b) w w'→w'.heap.size=w.heap.size→K undef w'):E.wp P w ρ K (.st n x y):=by
 refine Hm (v:=.agg vs.toArray) hx hy hb (by simpa [Value.cells] using hn) (by simp;omega) (by simpa [Value.cells] using h1) ?_;intro w' h2 h3 h4;exact hk w' (by simpa [Value.cells] using h2) h3 h4
theorem iY {x y:O} {b off:Nat} {v:Value} {cs:List Value} {T:TypeId} (hx:x.ev ρ=some (.pointer (some ⟨b,off,none⟩))) (hy:y.ev ρ=some v)
   (hb:w.heap[b]? = some (.cells cs.toArray T (0,0))) (h1:v.oneCell'=true) (km:off < cs.length)
   (hk:∀ w',w'.heap[b]? = some (.cells (cs.set off v).toArray T (0,0))→Mod (· = b) w w'→w'.heap.size=w.heap.size→K undef w'):E.wp P w ρ K (.st 1 x y):=by
 have hc:v.cells = #[v]:=by cases v<;>first | rfl | simp [Value.oneCell'] at h1
 refine Hm (v:=v) hx hy hb (by rw [hc];rfl) (by simp;omega) (by rw [hc];simpa using h1) ?_;intro w' h2 h3 h4;rw [hc] at h2;rw [show sp cs.toArray off #[v].toList=(cs.set off v).toArray from XE cs off v km] at h2;exact hk w' h2 h3 h4
theorem bD {t:Nat} {x:O} {v:Value} (hx:x.ev ρ=some v)
   (hk:∀ w',w'.heap[w.heap.size]? = some (.cells v.cells t (0,0))→Mod (fun _=>False) w w'→w'.heap.size=w.heap.size+1→K (.pointer (some ⟨w.heap.size,0,none⟩)) w'):E.wp P w ρ K (.bx t x):=
 ⟨v,hx,hk _ (heap_alloc_new w _) (xy _ w _) (by simp)⟩
theorem cM {t:Nat} {z:Value}
   (hk:∀ w',w'.heap[w.heap.size]? = some (.cells z.cells t (0,0))→Mod (fun _=>False) w w'→w'.heap.size=w.heap.size+1→K (.pointer (some ⟨w.heap.size,0,none⟩)) w'):E.wp P w ρ K (.al t z):=
 hk _ (heap_alloc_new w _) (xy _ w _) (by simp)
theorem fA {el len:Nat} {cells cs:Array Value} {parts:List (Nat×Nat×O)} {ps:List (Nat×Nat×Value)} (hp:kS ρ parts=some ps) (hf:jm cells ps=some cs)
   (hk:∀ w',w'.heap[w.heap.size]? = some (.cells cs el (0,0))→Mod (fun _=>False) w w'→w'.heap.size=w.heap.size+1→K (.slice (some ⟨w.heap.size,0,none⟩) len len) w'):E.wp P w ρ K (.bs el len cells parts):=
 ⟨ps,cs,hp,hf,hk _ (heap_alloc_new w _) (xy _ w _) (by simp)⟩
theorem aI {f:Nat} {args:List O} {vs:List Value} (ha:fI ρ args=some vs) (h:a8 P f vs w K):E.wp P w ρ K (.call f args):=⟨vs,ha,h⟩
end
attribute [go_sem] Nat.zero_add List.length_cons List.length_nil List.set_cons_zero List.set_cons_succ List.take_zero List.take_succ_cons List.drop_zero List.drop_succ_cons List.take_nil List.drop_nil List.nil_append List.cons_append List.append_nil or_false false_or or_true true_or false_implies true_implies and_true true_and and_self Bool.and_true Bool.true_and
universe u
theorem Oj (p:Prop) [Decidable p]:((decide p=true)=p)∧((decide p=false)=¬p)∧(¬¬p)=p:=by
 by_cases h:p<;>simp [h]
theorem Ok {α:Type u} [BEq α] [LawfulBEq α] (a b:α):(((a == b)=true)=(a=b))∧(((a == b)=false)=¬(a=b))∧(((a != b)=true)=¬(a=b))∧((a != b)=false)=(a=b):=by
 refine ⟨?_,?_,?_,?_⟩<;>simp
theorem Ol {α:Sort u} (a b:α):(a≠b)=¬(a=b):=rfl
theorem bq:((false=true)=False)∧((true=false)=False)∧(0:Int).toNat=0:=by simp
theorem Om (p:Prop):((p↔True)=p)∧((p↔False)=¬p)∧((True↔p)=p)∧((False↔p)=¬p):=by simp
theorem br (n:Nat):n*1=n∧((n:Int).toNat=n)∧n - 0=n∧n - n=0:=by simp
end
section
open Go
theorem dv {n:Int} (h1 : -9223372036854775808≤n) (h2:n < 9223372036854775808):IntKind.i64.wrap n=n:=by
 rw [IntKind.wrap_i64];omega
abbrev I (n:Int):Value:=.int .i64 n
def dx (w:World) (T sz:Nat) (v:Value) (xs:List Value) (n:Nat) (fp:Option Nat):Prop:=
 xs.length=n*sz∧((v = .slice none 0 0∧n=0∧fp=none) ∨
  ∃ b c sp,v = .slice (some ⟨b,0,none⟩) n c∧fp=some b∧w.heap[b]? = some (.cells (xs++sp).toArray T (0,0))∧c*sz≤(xs++sp).length∧n≤c)
theorem dx.nil (w:World) (T sz:Nat):dx w T sz (.slice none 0 0) [] 0 none:=⟨by simp,.inl ⟨rfl,rfl,rfl⟩⟩
theorem dx.lt {w:World} {T sz:Nat} {v:Value} {xs:List Value} {n b:Nat} {fp:Option Nat} (h:dx w T sz v xs n fp) (hb:fp=some b):b < w.heap.size:=by
 rcases h.2 with ⟨_,_,h⟩ | ⟨b',c,sp,_,h,hh,_⟩
 ·rw [h] at hb;cases hb
 ·rw [h] at hb;cases hb;exact cO hh
theorem dx.mod {w w':World} {S:Nat→Prop} {T sz:Nat} {v:Value} {xs:List Value} {n:Nat} {fp:Option Nat} (h:dx w T sz v xs n fp) (hm:Mod S w w') (hs:∀ b,fp=some b→¬ S b):dx w' T sz v xs n fp:=by
 refine ⟨h.1,?_⟩;rcases h.2 with h | ⟨b,c,sp,h1,h2,h3,h4⟩
 ·exact .inl h
 ·exact .inr ⟨b,c,sp,h1,h2,hm.at h3 (hs b h2),h4⟩
theorem On {w:World} {T T' sz n a:Nat} {v:Value} {xs:List Value} {fp:Option Nat} {cs:Array Value} {fz:Nat×Nat} (h:dx w T sz v xs n fp) (ha:w.heap[a]? = some (.cells cs T' fz)) (bo:T≠T'):fp≠some a:=by
 rcases h.2 with ⟨_,_,h⟩ | ⟨b,c,tR,_,h,hh,_⟩
 ·rw [h];intro hh;cases hh
 ·rw [h];intro he;cases he;rw [ha] at hh;cases hh;exact bo rfl
theorem XG {w:World} {a:Nat} {T T':Nat} {cs hM:Array Value} {fz XH:Nat×Nat} (h:w.heap[a]? = some (.cells cs T fz)) (h':w.heap[a]? = some (.cells hM T' XH)) (bo:T≠T'):False:=by
 rw [h] at h';cases h';exact bo rfl
theorem dx.of_block {w:World} {T sz n b:Nat} {xs:List Value} (h:w.heap[b]? = some (.cells xs.toArray T (0,0))) (hn:xs.length=n*sz):dx w T sz (.slice (some ⟨b,0,none⟩) n n) xs n (some b):=
 ⟨hn,.inr ⟨b,n,[],rfl,rfl,by simpa using h,by simpa using Nat.le_of_eq hn.symm,Nat.le_refl _⟩⟩
theorem dx.val {w:World} {T sz:Nat} {v:Value} {xs:List Value} {n:Nat} {fp:Option Nat} (h:dx w T sz v xs n fp):∃ a c,v = .slice a n c∧n≤c∧(a=none→n=0∧c=0):=by
 rcases h.2 with ⟨h1,h2,_⟩ | ⟨b,c,sp,h1,_,_,_,h5⟩
 ·subst h2;exact ⟨none,0,h1,Nat.le_refl _,fun _=>⟨rfl,rfl⟩⟩
 ·exact ⟨_,c,h1,h5,fun h=>by cases h⟩
theorem dx.pos {w:World} {T sz:Nat} {v:Value} {xs:List Value} {n:Nat} {fp:Option Nat} (h:dx w T sz v xs n fp) (hn:0 < n) :
   ∃ b c sp,v = .slice (some ⟨b,0,none⟩) n c∧fp=some b∧w.heap[b]? = some (.cells (xs++sp).toArray T (0,0))∧n≤c∧c*sz≤(xs++sp).length:=by
 rcases h.2 with ⟨_,h,_⟩ | ⟨b,c,sp,h1,h2,h3,h4,h5⟩
 ·omega
 ·exact ⟨b,c,sp,h1,h2,h3,h5,h4⟩
theorem dx.rd {w:World} {T sz:Nat} {xs:List Value} {n:Nat} {fp:Option Nat} {a:Option Addr} {c:Nat} (h:dx w T sz (.slice a n c) xs n fp):pM w a (n*sz) xs:=by
 refine ⟨h.1,?_⟩;intro ad zx j v hv;rcases h.2 with ⟨h1,_,_⟩ | ⟨b,c',sp,h1,h2,h3,_⟩
 ·cases h1;cases zx
 ·cases h1;cases zx;rw [oo,cell_of h3];have aP:j < xs.length:=by
   rcases Nat.lt_or_ge j xs.length with h | h
   ·exact h
   ·simp [List.getElem?_eq_none h] at hv
  simp [List.getElem?_append_left aP,hv]
theorem vx {w:World} {b T:Nat} {fz:Nat×Nat} {xs:List Value} (h:w.heap[b]? = some (.cells xs.toArray T fz)):pM w (some ⟨b,0,none⟩) xs.length xs:=by
 refine ⟨rfl,?_⟩;intro ad zx j v hv;cases zx;rw [oo,cell_of h]
 simpa using hv
section
variable {P:Program} {w:World} {ρ:Env} {K:Value→World→Prop}
theorem XI (z:Array Value) (n:Nat):(Builtin.zeroCells z n).size=n*z.size:=by simp [Builtin.zeroCells]
theorem qR {T sz bytes m c n:Nat} {zero:Array Value} {s x:O} {v:Value} {xs news:List Value} {fp:Option Nat} {xa:Option Addr}
   (hs:s.ev ρ=some v) (ho:dx w T sz v xs n fp) (hx:x.ev ρ=some (.slice xa m c)) (ny:xa=none→m=0) (hr:pM w xa (m*sz) news) (h1:∀ u∈news,u.oneCell'=true)
   (hz:zero.size=sz) (hb:(n+m)*bytes≤140737488355328) (xm:n+m≤9223372036854775807)
   (hk:∀ v' w' hZ,dx w' T sz v' (xs++news) (n+m) hZ→Mod (fun b=>fp=some b) w w'→(∀ b,hZ=some b→fp=some b∨b=w.heap.size∧b < w'.heap.size)→K v' w') :
   E.wp P w ρ K (.ap T sz bytes zero s x):=by
 obtain ⟨hlen,hv⟩:=ho;have sr:news.length=m*sz:=hr.1;have D3:(xs++news).length=(n+m)*sz:=by rw [List.length_append,hlen,sr,Nat.add_mul]
 have grown:∀ (oY:List Value),oY=xs→∀ nc w1,n+m≤nc→w1=w.drew.alloc (.cells (oY.toArray++news.toArray++Builtin.zeroCells zero (nc - (n+m))) T)→K (.slice (some ⟨w.heap.size,0,none⟩) (n+m) nc) w1:=by
  intro oY ho nc w1 hle BA;subst ho BA;refine hk _ _ (some w.heap.size) ⟨D3,.inr ⟨w.heap.size,nc,(Builtin.zeroCells zero (nc - (n+m))).toList,rfl,rfl,?_,?_,hle⟩⟩ (xy _ w.drew _).eF ?_
  ·rw [show w.heap.size=w.drew.heap.size from rfl,heap_alloc_new w.drew]
   congr 2
   apply Array.ext';simp
  ·rw [List.length_append,D3,Array.length_toList,XI,hz,← Nat.add_mul];exact Nat.mul_le_mul_right _ (by omega)
  ·intro b hb;cases hb;exact .inr ⟨rfl,by simp⟩
 rcases hv with ⟨rfl,rfl,rfl⟩ | ⟨b,cap,tR,rfl,rfl,hrow,jQ,hle⟩
 ·have fr:xs=[]:=List.eq_nil_of_length_eq_zero (by simpa using hlen);subst fr;refine ⟨none,0,0,xa,m,c,[],news,hs,hx,fun _=>⟨rfl,rfl⟩,ny,⟨by simp,(fun ad h=>by cases h)⟩,hr,h1,hb,xm,?_,?_,fun hc nc w1 h2 h3=>grown [] rfl nc w1 h2 h3⟩
  ·intro hm _;have jq:m=0:=by omega
   subst jq;have D4:news=[]:=List.eq_nil_of_length_eq_zero (by simpa using sr);subst D4;exact hk _ _ none (dx.nil w T sz) (Mod.refl _ w) (fun b h=>by cases h)
  ·intro _ a h;cases h
 ·refine ⟨some ⟨b,0,none⟩,n,cap,xa,m,c,xs,news,hs,hx,(fun h=>by cases h),ny,?_,hr,h1,hb,xm,(fun _ h=>by cases h),?_,fun hc nc w1 h2 h3=>grown xs rfl nc w1 h2 h3⟩
  ·exact dx.rd ⟨hlen,.inr ⟨b,cap,tR,rfl,rfl,hrow,jQ,hle⟩⟩
  ·intro xn a ha;cases ha;have km:n*sz+news.length≤(xs++tR).length:=by rw [sr,← Nat.add_mul];exact Nat.le_trans (Nat.mul_le_mul_right _ xn) jQ
   have o0:sp (xs++tR).toArray (0+n*sz) news=((xs++news)++tR.drop news.length).toArray:=by
    unfold sp;simp only [Nat.zero_add,List.append_assoc];rw [← hlen,List.take_left]
    congr 2
    rw [List.drop_append];simp
   refine ⟨(xs++tR).toArray,T,⟨rfl,hrow⟩,by simpa using km,?_⟩;rw [o0];refine hk _ _ (some b) ⟨D3,.inr ⟨b,cap,tR.drop news.length,rfl,rfl,setRow_heap w b _ _ T _ hrow,?_,xn⟩⟩ ((Oh w b _).aU (fun i hi=>by rw [hi])) (fun b' oq=>.inl oq);rw [List.length_append,D3,List.length_drop];have h2:(xs++tR).length=xs.length+tR.length:=List.length_append;rw [h2,hlen] at jQ;rw [sr];rw [h2,hlen,sr] at km;have h3:(n+m)*sz=n*sz+m*sz:=Nat.add_mul _ _ _;omega
end
def XJ:Value→Option Nat
 | .slice (some a) _ _=>some a.block
 | _=>none
def o7 (w:World) (v:Value) (xs:List Int):Prop:=
 ∃ a c,v = .slice a xs.length c∧xs.length≤17592186044416∧∀ i (h:i < xs.length),∃ ad,a=some ad∧w.cell? (ad.add i)=some (I xs[i])
theorem o7.mod {w w':World} {S:Nat→Prop} {v:Value} {xs:List Int} (h:o7 w v xs) (hm:Mod S w w') (hs:∀ b,XJ v=some b→¬ S b):o7 w' v xs:=by
 obtain ⟨a,c,rfl,hl,hx⟩:=h;refine ⟨a,c,rfl,hl,fun i hi=>?_⟩;obtain ⟨ad,rfl,hc⟩:=hx i hi;refine ⟨ad,rfl,hm.cell hc ?_⟩;rw [tO];exact hs _ rfl
end
end Go.W
section
namespace Go.W
open Go
theorem Oo {P:Program} {K K':Env→World→Prop} (hk:∀ ρ w,K ρ w→K' ρ w):∀ (t:D) (ρ:Env) (w:World) (rd:List (Nat×Nat)),dm P t ρ w rd K→dm P t ρ w rd K':=by
 intro t
 induction t with
 | nil=>intro ρ w rd h;exact hk _ _ h
 | r i g d r t ih=>
  intro ρ w rd h;rcases g with _ | ⟨s,b⟩
  ·obtain ⟨v,h1,h2⟩:=h;exact ⟨v,h1,ih _ _ _ h2⟩
  ·obtain ⟨c,h1,h2,h3⟩:=h;exact ⟨c,h1,fun hh=>let ⟨v,h4,h5⟩:=h2 hh;⟨v,h4,ih _ _ _ h5⟩,fun hh=>ih _ _ _ (h3 hh)⟩
 | e i g d e fl t ih=>
  intro ρ w rd h;rcases g with _ | ⟨s,b⟩
  ·exact E.mono (fun v w' h=>⟨h.1,ih _ _ _ h.2⟩) e h
  ·obtain ⟨c,h1,h2,h3⟩:=h;exact ⟨c,h1,fun hh=>E.mono (fun v w' h=>⟨h.1,ih _ _ _ h.2⟩) e (h2 hh),fun hh=>ih _ _ _ (h3 hh)⟩
 | e2 i d e fl t i' d' e' u9 t' ih XK=>
  intro ρ w rd h;exact ⟨E.mono (fun v w' h=>⟨h.1,ih _ _ _ h.2⟩) e h.1,E.mono (fun v w' h=>⟨h.1,XK _ _ _ h.2⟩) e' h.2⟩
section
variable {P:Program} {N:Nat}
theorem D5 {next next':Env→World→Prop} {Q Q':Post} (hn:∀ ρ w,next ρ w→next' ρ w) (hq:∀ e ρ w,Q e ρ w→Q' e ρ w):∀ (e:Exit) (ρ:Env) (w:World),kW next Q e ρ w→kW next' Q' e ρ w:=by
 intro e ρ w h;cases e<;>first | exact hn _ _ h | exact hq _ _ _ h
theorem XL {id:Nat} {Q Q':Post} (hq:∀ e ρ w,Q e ρ w→Q' e ρ w):∀ (e:Exit) (ρ:Env) (w:World),jP id Q e ρ w→jP id Q' e ρ w:=by
 intro e ρ w h;cases e with
 | exit i=>
  show (if i=id then Q' .normal ρ w else Q' (.exit i) ρ w);have h:(if i=id then Q .normal ρ w else Q (.exit i) ρ w):=h
  split
  ·rename_i hi;rw [if_pos hi] at h;exact hq _ _ _ h
  ·rename_i hi;rw [if_neg hi] at h;exact hq _ _ _ h
 | _=>exact hq _ _ _ h
theorem xz:∀ (c:IR) (Q Q':Post),(∀ e ρ w,Q e ρ w→Q' e ρ w)→∀ ρ w,cH P N c Q ρ w→cH P N c Q' ρ w:=by
 intro c
 induction c with
 | skip=>intro Q Q' hq ρ w h;exact hq _ _ _ h
 | ret=>intro Q Q' hq ρ w h;exact hq _ _ _ h
 | exit id=>intro Q Q' hq ρ w h;exact hq _ _ _ h
 | seq a b o8 tS=>intro Q Q' hq ρ w h;exact o8 _ _ (D5 (fun ρ w h=>tS _ _ hq ρ w h) hq) ρ w h
 | cond c a b o8 tS=>intro Q Q' hq ρ w h;obtain ⟨t,h1,h2,h3⟩:=h;exact ⟨t,h1,fun hh=>o8 _ _ hq _ _ (h2 hh),fun hh=>tS _ _ hq _ _ (h3 hh)⟩
 | block id a o8=>intro Q Q' hq ρ w h;exact o8 _ _ (XL hq) ρ w h
 | loop a o8=>
  intro Q Q' hq ρ w h;obtain ⟨J,n,h0,hs⟩:=h;exact ⟨J,n,h0,fun n ρ w hJ=>o8 _ _ (D5 (fun _ _ h=>h) hq) ρ w (hs n ρ w hJ)⟩
 | cS dw st kp=>intro Q Q' hq ρ w h;exact Bz _ h (fun ρ w h=>hq _ _ _ h)
 | dr t kp=>intro Q Q' hq ρ w h;exact Oo (fun ρ w h=>hq _ _ _ h) t _ _ _ h
 | raw c=>intro Q Q' hq ρ w h dl a ha;exact wp_mono (h dl a ha) (fun e a w h=>by obtain ⟨ρ,h1,h2⟩:=h;exact ⟨ρ,h1,hq _ _ _ h2⟩)
theorem dU {a b:IR} {Q:Post} {ρ:Env} {w:World} (om:Env→World→Prop) (h:cH P N a (kW om Q) ρ w) (hk:∀ ρ w,om ρ w→cH P N b Q ρ w):cH P N (.seq a b) Q ρ w:=
 xz a _ _ (D5 hk (fun _ _ _ h=>h)) ρ w h
theorem BB {a:IR} {next:Env→World→Prop} {Q:Post} {ρ:Env} {w:World} (om:Env→World→Prop) (h:cH P N a (kW om Q) ρ w) (hk:∀ ρ w,om ρ w→next ρ w):cH P N a (kW next Q) ρ w:=
 xz a _ _ (D5 hk (fun _ _ _ h=>h)) ρ w h
end
end Go.W
namespace Go.W
open Go
theorem BC {P:Program} {K:Env→World→Prop} {ρ:Env} {w:World} {rd:List (Nat×Nat)} (i:Nat) (d:Option Nat) (e:E) (fl:List Nat) (t:D) (i':Nat) (d':Option Nat) (e':E) (u9:List Nat) (t':D) :
   dm P (.e2 i d e fl t i' d' e' u9 t') ρ w rd K=((e.wp P w ρ fun v w'=>lN fl w w' rd∧dm P t (ρ.put d v) w' rd K)∧(e'.wp P w ρ fun v w'=>lN u9 w w' rd∧dm P t' (ρ.put d' v) w' rd K)):=_root_.id rfl
theorem Oq {P:Program} {K:Env→World→Prop} {ρ:Env} {w:World} {rd:List (Nat×Nat)} {t:D} (om:Env→World→Prop) (h:dm P t ρ w rd om) (hk:∀ ρ w,om ρ w→K ρ w):dm P t ρ w rd K:=
 Oo hk t ρ w rd h
end Go.W
end
namespace Go.W
section
open Go Go.ChangeShapes Go.WideShapes Go.ChangeAt Go.RowKit
theorem XM {w w':World} (h:Mod (fun _=>False) w w'):Below w.heap.size w w':=⟨h.os,h.tape,h.output,h.size,fun k hk=>h.bN k hk (fun h=>h)⟩
section
variable {H:Type} {enc:TypeId×Value→H} {P:Program}
theorem Ot:∀ {ts:List TypeId} {vs:List Value} {ds:List (DataW H)} {ps:List MemPlace} {w:World} {base:Nat} {spare:Nat→Bool} {held:Bool},DataW.TrodAll enc P w base spare held ts vs ds ps→ds.length=ts.length
 | [],[],[],_,_,_,_,_,_=>rfl
 | _::_,_::_,_::_,_,_,_,_,_,⟨_,_,_,h,_⟩=>by simp [Ot h]
 | [],_::_,_,_,_,_,_,_,h=>h.elim
 | [],[],_::_,_,_,_,_,_,h=>h.elim
 | _::_,[],_,_,_,_,_,_,h=>h.elim
 | _::_,_::_,[],_,_,_,_,_,h=>h.elim
theorem Ou (hl:laidOutB P=true) {W W':World} (hb:Below W.heap.size W W'):∀ {ts:List TypeId} {vs:List Value} {ds:List (DataW H)} {ps:List MemPlace},ts.all (fun t=>P.readableRec t&&decide (t < P.types.size))=true →
   (∀ x∈ps,x.block < W.heap.size)→DataW.TrodAll enc P W 0 (fun _=>true) true ts vs ds ps→DataW.TrodAll enc P W' 0 (fun b=>decide (b < W.heap.size)) true ts vs ds ps
 | [],[],[],_,_,_,h=>h
 | t::ts,v::vs,d::ds,ps,ht,hp,⟨p,q,h1,h2,h3⟩=>by
  simp only [List.all_cons,Bool.and_eq_true,decide_eq_true_eq] at ht;subst h3;exact ⟨p,q,Below.trod hl ht.1.1 ht.1.2 h1 hb (fun x hx=>hp x (List.mem_append_left _ hx)),Ou hl hb ht.2 (fun x hx=>hp x (List.mem_append_right _ hx)) h2,rfl⟩
 | [],_::_,_,_,_,_,h=>h.elim
 | [],[],_::_,_,_,_,h=>h.elim
 | _::_,[],_,_,_,_,h=>h.elim
 | _::_,_::_,[],_,_,_,h=>h.elim
def ot (enc:TypeId×Value→H) (P:Program) (ts:List TypeId) (w:World) (args:List Value) (ds:List (DataW H)):Prop:=
 (∃ base,∀ (j:Nat) t v,ts[j]? = some t→args[j]? = some v→Value.okWide P w .any base t v)∧(∃ ps,DataW.TrodAll enc P w 0 (fun _=>true) true ts args ds ps)∧(DataW.weightsEach P ts ds).all (·≤reachBytes)=true
theorem XN {t e:TypeId} {w:World} {base:Nat} {held:Bool} {n:Nat} {cs:List Value} {x:DataW H×List MemPlace} (ht:P.underlying t=some (.slice e)) (he:P.underlying e=some (.int .i64)) (hc:P.cellsOf e=1) (BD:P.bytesOf e=8)
   (h:DataW.trod enc P w base (fun _=>true) held n t cs=some x) (hw:(x.1.weights P t).all (·≤reachBytes)=true):∃ c xs,cs=[c]∧o7 w c xs∧xs.length+5≤17592186044416:=by
 rcases open_ints ht he hc h with ⟨rfl,rfl⟩ | ⟨a,len,cap,zs,rfl,_,hl,_,hz,rfl,Hn,_⟩
 ·exact ⟨_,[],rfl,⟨none,0,rfl,by simp,fun i hi=>absurd hi (by simp)⟩,by simp⟩
 ·simp only [if_true] at hz;have h1:zs.length*8≤reachBytes:=by
   have:=List.all_eq_true.1 hw ((lits (H:=H) .i64 (zs.take len)).length*8+(lits (H:=H) .i64 (zs.drop len)).length*8) (by simp [DataW.weights,ht,BD,Nat.add_mul]);simp [lits] at this;omega
  have h2:reachBytes=140737488351232:=by decide
  have hlen:(zs.take len).length=len:=by simp;omega
  refine ⟨_,zs.take len,rfl,⟨some a,cap,by rw [hlen],by omega,fun i hi=>⟨a,rfl,?_⟩⟩,by omega⟩;rw [Hn i (by omega)];simp [List.getD,List.getElem?_eq_getElem (show i < zs.length by omega)]
end
end
section
open Go Go.ChangeMaps Go.RowKit
section
variable {P:Program} {ρ:Env} {w:World} {K:Value→World→Prop} {d:Option Nat} {ty:TypeId} {pos:String} {af:Array Edge}
theorem BE {es:Array MapEntry} {c:Nat} (w:World) (b:Nat) (o:Obj) (hb:w.heap[b]? = some (.map es c)):Mod (· = b) w (setBlock w b o):=
 ⟨by simp [setBlock],fun i hi hn=>by rw [heap_setBlock_other hb o hn],rfl,rfl,rfl⟩
theorem BF (w:World) (b:Nat) (o:Obj):(setBlock w b o).heap.size=w.heap.size:=by simp [setBlock]
theorem run_setObj_map {b c:Nat} {es:Array MapEntry} {w:World} (hb:w.heap[b]? = some (.map es c)) (o:Obj):(setObj b o).run P w = .ok () (setBlock w b o):=by
 simp [setObj,Sem.run,hb,setBlock]
theorem xA {f:FuncId} {fn:Func} {cap:Array Value} {x:Operand} {args:Array Operand} {at':Array TypeId} {vs:List Value} (hx:(bm x).ev ρ=some (.func (.func f) #[] cap)) (iE:fI ρ (args.toList.map bm)=some vs)
   (eK:P.funcs[f]? = some fn) (gL:fn.body.isSome=true) (jr:(fn.name == "runtime.NumGoroutine")=false) (h:a8 P f (vs++cap.toList) w K) :
   E.wp P w ρ K (.raw ⟨d,.call { callee:=.value x,args:=args,argTypes:=at'},ty,pos,af,none⟩):=by
 intro a ha;have bQ:args.map a.eval=vs.toArray:=by
  have key:∀ (l:List Operand) (vs:List Value),fI ρ (l.map bm)=some vs→l.map a.eval=vs:=by
   intro l
   induction l with
   | nil=>intro vs h;simp only [List.map_nil,fI,Option.some.injEq] at h;subst h;rfl
   | cons y l ih=>
    intro vs h;simp only [List.map_cons,fI] at h;cases h1:(bm y).ev ρ with
    | none=>simp [h1] at h
    | some u=>
     cases h2:fI ρ (l.map bm) with
     | none=>simp [h1,h2] at h
     | some us=>
      simp [h1,h2] at h;subst h;rw [List.map_cons,ha y u h1,ih us h2]
  have:=key args.toList vs iE;apply Array.ext'
  simpa using this
 have hn:fn.body.isNone=false:=by cases hb:fn.body<;>simp [hb] at gL ⊢
 unfold Oper.wp;have e1:(execOp a.eval ⟨d,.call { callee:=.value x,args:=args,argTypes:=at'},ty,pos,af,none⟩).run P w = .ok (.enter f (vs++cap.toList).toArray) w:=by
  have g1:ro P w program=some P:=rfl;have g2:vs.toArray++cap=(vs++cap.toList).toArray:=by apply Array.ext';simp
  simp only [execOp,resolve,Deferred.ofValue,Sem.run_bind,Sem.run_pure,Result.andThen_ok,invoke,callFunc,lK g1,eK,ha x _ hx,bQ,Array.empty_append,g2];rw [if_neg (by rw [jr];simp),if_neg (by rw [hn];simp)];rfl
 rw [e1];simp only [Oper.upon];unfold a8 at h;refine h.mono ?_;rintro e w' ⟨v,rfl,hk⟩;exact ⟨v,rfl,hk⟩
def kv (e:MapEntry):Value×Value:=(e.key,e.val)
theorem Ov {t el:TypeId} {n:Nat} (ht:P.underlying t=some (.slice el)) (hn:iC P el=some n) (hk:∀ w',w'.heap[w.heap.size]? = some (.cells #[] el (0,0))→Mod (fun _=>False) w w'→w'.heap.size=w.heap.size+1→K (.slice (some ⟨w.heap.size,0,none⟩) 0 0) w') :
   E.wp P w ρ K (.raw ⟨d,.buildSlice t 0 #[],ty,pos,af,none⟩):=by
 refine kT fun a ha=>⟨_,_,?_,hk (w.alloc (.cells #[] el)) (heap_alloc_new w _) (xy _ w _) (by simp)⟩
 have g1:ro P w (underlying t)=some (.slice el):=by rw [gK,ht]
 have g2:ro P w (sizeOf el)=some n:=by rw [sh];exact hn
 simp only [execOp,Instr.buildSlice,Sem.run_bind,lK g1,lK g2,Result.andThen_ok,Sem.run_pure,Nat.zero_mul];simp [newRow,Instr.fill,show Array.range 0 = #[] from rfl]
end
end
section
open Go Go.ChangeMaps Go.RowKit
theorem Ho (a b:ByteArray):(a == b)=decide (a=b):=by
 cases a;cases b;rename_i x y;show (x == y)=_;by_cases h:x=y
 ·subst h;simp
 ·simp [h]
theorem XO {P:Program} {w:World} {kt:TypeId} (hk:P.underlying kt=some .string) (k:ByteArray) (b:Bool) (n:Nat):(Instr.checkKey b (n+1) kt (.string k)).run P w = .ok () w:=by
 unfold Instr.checkKey;rw [Sem.run_bind,run_underlying hk];rfl
theorem zy {P:Program} {w:World} {kt:TypeId} (hk:P.underlying kt=some .string) (k:ByteArray) (b:Bool):(Instr.checkKey b 10000 kt (.string k)).run P w = .ok () w:=XO hk k b 9999
section
variable {P:Program} {ρ:Env} {w:World} {K:Value→World→Prop} {d:Option Nat} {ty:TypeId} {pos:String} {af:Array Edge}
end
end
section
open Go Go.ChangeMaps Go.RowKit
def lR (w:World) (b:Nat) (l:List (ByteArray×Value)):Prop:=
 ∃ es clock,w.heap[b]? = some (.map es clock)∧es.toList.map (fun e=>(e.key,e.val))=l.map (fun p=>(.string p.1,p.2))∧(∀ e∈es.toList,e.born < clock)∧(es.toList.map (·.born)).Nodup
theorem tT {w w':World} {b:Nat} {l:List (ByteArray×Value)} {S:Nat→Prop} (h:lR w b l) (hm:Mod S w w') (hb:¬ S b):lR w' b l:=by
 obtain ⟨es,c,h1,h2⟩:=h;exact ⟨es,c,hm.at h1 hb,h2⟩
def lS (l:List (ByteArray×Value)) (k:ByteArray):Option Value:=(l.find? (fun p=>decide (p.1=k))).map (·.2)
def tU (l:List (ByteArray×Value)) (k:ByteArray) (v:Value):List (ByteArray×Value):=match l.findIdx? (fun p=>decide (p.1=k)) with
 | some i=>l.set i (k,v)
 | none=>l++[(k,v)]
def BG (l:List (ByteArray×Value)) (k:ByteArray):List (ByteArray×Value):=match l.findIdx? (fun p=>decide (p.1=k)) with
 | some i=>l.eraseIdx i
 | none=>l
theorem XP (k:ByteArray):∀ (es:List MapEntry) (l:List (ByteArray×Value)) (i:Nat),es.map (fun e=>(e.key,e.val))=l.map (fun p=>(.string p.1,p.2)) →
   Instr.findNow .string (.string k) es i=some ((l.findIdx? (fun p=>decide (p.1=k))).map fun j=>(i+j,(l.getD j (⟨#[]⟩,.nilFunc)).2)):=by
 intro es
 induction es with
 | nil=>
  intro l i h;cases l with
  | nil=>rfl
  | cons p l=>simp at h
 | cons e es ih=>
  intro l i h;cases l with
  | nil=>simp at h
  | cons p l=>
   simp only [List.map_cons,List.cons.injEq,Prod.mk.injEq] at h;obtain ⟨⟨h1,h2⟩,h3⟩:=h;have e1:Instr.sameNow .string (.string k) e.key=some (k == p.1):=by rw [h1];simp [Instr.sameNow,I]
   by_cases hk:p.1=k
   ·have e2:(k == p.1)=true:=by simp [Ho,hk]
    have e3:decide (p.1=k)=true:=by simp [hk]
    rw [e2] at e1;simp [Instr.findNow,e1,List.findIdx?_cons,e3,h2]
   ·have e2:(k == p.1)=false:=by simp [Ho];exact fun h=>hk h.symm
    have e3:decide (p.1=k)=false:=by simp [hk]
    rw [e2] at e1;simp only [Instr.findNow,e1,ih l (i+1) h3,List.findIdx?_cons,e3];cases l.findIdx? (fun p=>decide (p.1=k)) with
    | none=>rfl
    | some j=>simp [Nat.add_assoc,Nat.add_comm 1 j]
theorem D6 {P:Program} {w:World} {kt:TypeId} (hk:P.underlying kt=some .string) (k:ByteArray) (es:List MapEntry) (l:List (ByteArray×Value)) (h:es.map (fun e=>(e.key,e.val))=l.map (fun p=>(.string p.1,p.2))) :
   (Instr.findKey kt (.string k) es).run P w = .ok ((l.findIdx? (fun p=>decide (p.1=k))).map fun j=>(j,(l.getD j (⟨#[]⟩,.nilFunc)).2)) w:=by
 have:=XP k es l 0 h;simp only [Nat.zero_add] at this;simp only [Instr.findKey,Sem.run_bind,run_underlying hk,Result.andThen,this];rfl
theorem Ow (l:List (ByteArray×Value)) (k:ByteArray):lS l k=(l.findIdx? (fun p=>decide (p.1=k))).map fun j=>(l.getD j (⟨#[]⟩,.nilFunc)).2:=by
 induction l with
 | nil=>rfl
 | cons p l ih=>
  unfold lS at ih ⊢;by_cases hk:p.1=k
  ·have e3:decide (p.1=k)=true:=by simp [hk]
   simp [List.find?_cons,List.findIdx?_cons,e3]
  ·have e3:decide (p.1=k)=false:=by simp [hk]
   simp only [List.find?_cons,List.findIdx?_cons,e3,ih];cases l.findIdx? (fun p=>decide (p.1=k))<;>rfl
section
variable {P:Program} {ρ:Env} {w:World} {K:Value→World→Prop} {d:Option Nat} {ty:TypeId} {pos:String} {af:Array Edge}
theorem Ox {t:TypeId} (hk:∀ w',lR w' w.heap.size []→Mod (fun _=>False) w w'→w'.heap.size=w.heap.size+1→K (.map (some w.heap.size)) w') :
   E.wp P w ρ K (.raw ⟨d,.makeMap t none,ty,pos,af,none⟩):=by
 refine kT fun a ha=>⟨_,_,?_,hk (w.alloc (.map #[] 0)) ⟨_,_,heap_alloc_new w _,rfl,by simp,by simp⟩ (xy _ w _) (by simp)⟩
 simp only [execOp,Sem.run_bind,Option.map_none,Go.RowKit.run_makeMap,Result.andThen];rfl
theorem Hp {t kt et:TypeId} {m x:Operand} {b:Nat} {k:ByteArray} {l:List (ByteArray×Value)} (hm:(bm m).ev ρ=some (.map (some b))) (hx:(bm x).ev ρ=some (.string k)) (ht:P.underlying t=some (.map kt et)) (ib:P.underlying kt=some .string)
   {z:Value} (hz:(zeroValue et).run P w = .ok z w) (h:lR w b l) (hk:K (.tuple #[(lS l k).getD z,.bool (lS l k).isSome]) w):E.wp P w ρ K (.raw ⟨d,.lookup t m x true,ty,pos,af,none⟩):=by
 obtain ⟨es,clock,h1,h2,_⟩:=h;refine kT fun a ha=>⟨_,w,?_,hk⟩
 have kr:=D6 (P:=P) (w:=w) ib k es.toList l h2;have e1:(Instr.lookup t (.map (some b)) (.string k) true).run P w = .ok (.tuple #[(lS l k).getD z,.bool (lS l k).isSome]) w:=by
  rw [Ow];simp only [Instr.lookup,Sem.run_bind,run_underlying ht,Result.andThen,getObj,Sem.run,h1,zy ib,Sem.run_pure];cases hI:l.findIdx? (fun p=>decide (p.1=k)) with
  | none=>
   rw [hI] at kr
   erw [kr]
   simp [hz,Sem.run_bind,Sem.run_pure,Sem.run,Result.andThen]
  | some j=>
   rw [hI] at kr
   erw [kr]
   simp [Sem.run_bind,Sem.run_pure,Sem.run,Result.andThen]
 simp only [execOp,Sem.run_bind,ha m _ hm,ha x _ hx,e1,Result.andThen];rfl
theorem Oy {t kt et:TypeId} {m x:Operand} {b:Nat} {k:ByteArray} {l:List (ByteArray×Value)} (hm:(bm m).ev ρ=some (.map (some b))) (hx:(bm x).ev ρ=some (.string k)) (ht:P.underlying t=some (.map kt et)) (ib:P.underlying kt=some .string)
   {z:Value} (hz:(zeroValue et).run P w = .ok z w) (h:lR w b l) (hk:K ((lS l k).getD z) w):E.wp P w ρ K (.raw ⟨d,.lookup t m x false,ty,pos,af,none⟩):=by
 obtain ⟨es,clock,h1,h2,_⟩:=h;refine kT fun a ha=>⟨_,w,?_,hk⟩
 have kr:=D6 (P:=P) (w:=w) ib k es.toList l h2;have e1:(Instr.lookup t (.map (some b)) (.string k) false).run P w = .ok ((lS l k).getD z) w:=by
  rw [Ow];simp only [Instr.lookup,Sem.run_bind,run_underlying ht,Result.andThen,getObj,Sem.run,h1,zy ib,Sem.run_pure];cases hI:l.findIdx? (fun p=>decide (p.1=k)) with
  | none=>
   rw [hI] at kr
   erw [kr]
   simp [hz,Sem.run_bind,Sem.run_pure,Sem.run,Result.andThen]
  | some j=>
   rw [hI] at kr
   erw [kr]
   simp [Sem.run_bind,Sem.run_pure,Sem.run,Result.andThen]
 simp only [execOp,Sem.run_bind,ha m _ hm,ha x _ hx,e1,Result.andThen];rfl
theorem Oz {t kt et:TypeId} {m x y:Operand} {b:Nat} {k:ByteArray} {v:Value} {l:List (ByteArray×Value)} (hm:(bm m).ev ρ=some (.map (some b))) (hx:(bm x).ev ρ=some (.string k)) (hy:(bm y).ev ρ=some v) (ht:P.underlying t=some (.map kt et)) (ib:P.underlying kt=some .string)
   (h:lR w b l) (hk:∀ w',lR w' b (tU l k v)→Mod (· = b) w w'→w'.heap.size=w.heap.size→K undef w'):E.wp P w ρ K (.raw ⟨d,.mapUpdate t m x y,ty,pos,af,none⟩):=by
 obtain ⟨es,clock,h1,h2,h3,h4⟩:=h;have kr:=D6 (P:=P) (w:=w) ib k es.toList l h2;have cZ:es.size=l.length:=by have:=congrArg List.length h2;simpa using this
 cases hI:l.findIdx? (fun p=>decide (p.1=k)) with
 | none=>
  rw [hI] at kr;have e1:(Instr.mapUpdate t (.map (some b)) (.string k) v).run P w = .ok () (setBlock w b (.map (es.push { key:=.string k,val:=v,born:=clock}) (clock+1))):=by
   simp only [Instr.mapUpdate,Sem.run_bind,run_underlying ht,Result.andThen,getObj,Sem.run,h1,zy ib,Sem.run_pure]
   erw [kr]
   exact run_setObj_map h1 _
  refine G3 fun a ha=>⟨_,?_,hk (setBlock w b (.map (es.push { key:=.string k,val:=v,born:=clock}) (clock+1))) ⟨_,_,heap_setBlock_same h1 _,?_,?_,?_⟩ (BE w b _ h1) (BF w b _)⟩
  ·simp only [execOp,Sem.run_bind,ha m _ hm,ha x _ hx,ha y _ hy,e1,Result.andThen];rfl
  ·simp [tU,hI,h2]
  ·intro e he;simp only [Array.toList_push,List.mem_append,List.mem_cons,List.not_mem_nil,or_false] at he;rcases he with he | rfl
   ·exact Nat.lt_succ_of_lt (h3 e he)
   ·exact Nat.lt_succ_self _
  ·simp only [Array.toList_push,List.map_append,List.map_cons,List.map_nil];rw [List.nodup_append];refine ⟨h4,by simp,?_⟩;intro x hx y hy iZ;simp only [List.mem_cons,List.not_mem_nil,or_false] at hy;obtain ⟨e,he,rfl⟩:=List.mem_map.1 hx;have:=h3 e he;omega
 | some i=>
  rw [hI] at kr;have zA:i < l.length:=by
   have:=List.findIdx?_eq_some_iff_getElem.1 hI;exact this.1
  have xB:i < es.size:=by omega
  have G7:(es[i]).key = .string k:=by
   have h5:es.toList[i]'(by simpa using xB)=es[i]:=by simp
   have h6:=congrArg (fun z=>z[i]?) h2;simp only [List.getElem?_map,List.getElem?_eq_getElem (show i < es.toList.length by simpa using xB),List.getElem?_eq_getElem zA,Option.map_some,Option.some.injEq,Prod.mk.injEq] at h6;have h7:=(List.findIdx?_eq_some_iff_getElem.1 hI).2.1;rw [← h5,h6.1];simp at h7;rw [h7]
  have bz:(Instr.keyThatStays (((es[i]?).map (·.key)).getD (.string k)) (.string k)).run P w = .ok (.string k) w:=by
   rw [Array.getElem?_eq_getElem xB,Option.map_some,Option.getD_some,G7];simp [Instr.keyThatStays,Instr.sameBits,Ho]
  have e1:(Instr.mapUpdate t (.map (some b)) (.string k) v).run P w = .ok () (setBlock w b (.map (es.modify i fun e=>{ e with key:=.string k,val:=v}) clock)):=by
   simp only [Instr.mapUpdate,Sem.run_bind,run_underlying ht,Result.andThen,getObj,Sem.run,h1,zy ib,Sem.run_pure]
   erw [kr]
   simp only [Option.map_some,Sem.run_bind,bz,Result.andThen];exact run_setObj_map h1 _
  refine G3 fun a ha=>⟨_,?_,hk (setBlock w b (.map (es.modify i fun e=>{ e with key:=.string k,val:=v}) clock)) ⟨_,_,heap_setBlock_same h1 _,?_,?_,?_⟩ (BE w b _ h1) (BF w b _)⟩
  ·simp only [execOp,Sem.run_bind,ha m _ hm,ha x _ hx,ha y _ hy,e1,Result.andThen];rfl
  ·simp only [tU,hI];apply List.ext_getElem?;intro j;have h6:=congrArg (fun z=>z[j]?) h2;simp only [List.getElem?_map] at h6 ⊢;rw [Array.toList_modify,List.getElem?_modify,List.getElem?_set];by_cases lM:i=j
   ·subst lM;simp [zA,show i < es.toList.length by simpa using xB,xB]
   ·rw [if_neg lM]
    simpa [lM] using h6
  ·intro e he;rw [Array.toList_modify] at he;obtain ⟨j,hj,rfl⟩:=List.getElem_of_mem he;rw [List.getElem_modify];have hm:es.toList[j]'(by simpa using hj)∈es.toList:=List.getElem_mem _;have h5:=h3 _ hm
   split<;>exact h5
  ·have:(es.modify i fun e=>{ e with key:=.string k,val:=v}).toList.map (·.born)=es.toList.map (·.born):=by
    apply List.ext_getElem?;intro j;rw [Array.toList_modify];simp only [List.getElem?_map,List.getElem?_modify];by_cases lM:i=j
    ·subst lM;cases es.toList[i]?<;>simp
    ·simp [lM]
   rw [this];exact h4
theorem XQ {t kt et:TypeId} {at':Array TypeId} {m:Operand} {b:Nat} {l:List (ByteArray×Value)} (gd:at'[0]? = some t) (hm:(bm m).ev ρ=some (.map (some b))) (ht:P.underlying t=some (.map kt et))
   (h:lR w b l) (hk:∀ w',lR w' b []→Mod (· = b) w w'→w'.heap.size=w.heap.size→K (.tuple #[]) w'):E.wp P w ρ K (.raw ⟨d,.call { callee:=.builtin .clear,args:=#[m],argTypes:=at'},ty,pos,af,none⟩):=by
 obtain ⟨es,clock,h1,h2,h3,h4⟩:=h;refine kT fun a ha=>⟨_,_,?_,hk (setBlock w b (.map #[] clock)) ⟨_,_,heap_setBlock_same h1 _,rfl,by simp,by simp⟩ (BE w b _ h1) (BF w b _)⟩
 have a0:(#[Value.map (some b)]:Array Value)[0]? = some (.map (some b)):=rfl;have e1:(Builtin.clear_ at' ty #[.map (some b)]).run P w = .ok (.tuple #[]) (setBlock w b (.map #[] clock)):=by
  simp only [Builtin.clear_,gd,a0,Sem.run_bind,run_underlying ht,Result.andThen,getObj,Sem.run,h1,Sem.run_pure];simp only [run_setObj_map h1]
 simp only [execOp,resolve,invoke,builtin,Sem.run_bind,Sem.run_pure,Result.andThen,List.map_toArray,List.map_cons,List.map_nil,ha m _ hm]
 erw [e1]
theorem XR {t kt et:TypeId} {at':Array TypeId} {m x:Operand} {b:Nat} {k:ByteArray} {l:List (ByteArray×Value)} (gd:at'[0]? = some t) (hm:(bm m).ev ρ=some (.map (some b))) (hx:(bm x).ev ρ=some (.string k)) (ht:P.underlying t=some (.map kt et)) (ib:P.underlying kt=some (.string))
   (h:lR w b l) (hk:∀ w',lR w' b (BG l k)→Mod (· = b) w w'→w'.heap.size=w.heap.size→K (.tuple #[]) w'):E.wp P w ρ K (.raw ⟨d,.call { callee:=.builtin .delete,args:=#[m,x],argTypes:=at'},ty,pos,af,none⟩):=by
 obtain ⟨es,clock,h1,h2,h3,h4⟩:=h;have kr:=D6 (P:=P) (w:=w) ib k es.toList l h2;have cZ:es.size=l.length:=by have:=congrArg List.length h2;simpa using this
 have run:∀ Hq,(Builtin.delete_ at' ty #[.map (some b),.string k]).run P w = .ok (.tuple #[]) (setBlock w b (.map Hq clock))→∀ a,Agree ρ a→(execOp a.eval ⟨d,.call { callee:=.builtin .delete,args:=#[m,x],argTypes:=at'},ty,pos,af,none⟩).run P w = .ok (.value (.tuple #[])) (setBlock w b (.map Hq clock)):=by
  intro Hq he a ha;simp only [execOp,resolve,invoke,builtin,Sem.run_bind,Sem.run_pure,Result.andThen,List.map_toArray,List.map_cons,List.map_nil,ha m _ hm,ha x _ hx]
  erw [he]
 have a0:(#[Value.map (some b),.string k]:Array Value)[0]? = some (.map (some b)):=rfl;have a1:(#[Value.map (some b),.string k]:Array Value)[1]? = some (.string k):=rfl;cases hI:l.findIdx? (fun p=>decide (p.1=k)) with
 | none=>
  rw [hI] at kr;have e1:(Builtin.delete_ at' ty #[.map (some b),.string k]).run P w = .ok (.tuple #[]) (setBlock w b (.map es clock)):=by
   simp only [Builtin.delete_,gd,a0,a1,Sem.run_bind,run_underlying ht,Result.andThen,getObj,Sem.run,h1,zy ib,Sem.run_pure]
   erw [kr]
   simp only [Option.map_none,Sem.run_bind,run_setObj_map h1,Result.andThen];rfl
  refine kT fun a ha=>⟨_,_,run es e1 a ha,hk _ ⟨_,_,heap_setBlock_same h1 _,?_,h3,h4⟩ (BE w b _ h1) (BF w b _)⟩
  simpa [BG,hI] using h2
 | some i=>
  rw [hI] at kr;have zA:i < l.length:=(List.findIdx?_eq_some_iff_getElem.1 hI).1;have xB:i < es.size:=by omega
  have e1:(Builtin.delete_ at' ty #[.map (some b),.string k]).run P w = .ok (.tuple #[]) (setBlock w b (.map (es.eraseIdxIfInBounds i) clock)):=by
   simp only [Builtin.delete_,gd,a0,a1,Sem.run_bind,run_underlying ht,Result.andThen,getObj,Sem.run,h1,zy ib,Sem.run_pure]
   erw [kr]
   simp only [Option.map_some,Sem.run_bind,run_setObj_map h1,Result.andThen];rfl
  have BH:(es.eraseIdxIfInBounds i).toList=es.toList.eraseIdx i:=by simp [Array.eraseIdxIfInBounds,xB,Array.toList_eraseIdx]
  refine kT fun a ha=>⟨_,_,run _ e1 a ha,hk _ ⟨_,_,heap_setBlock_same h1 _,?_,?_,?_⟩ (BE w b _ h1) (BF w b _)⟩
  ·rw [BH,map_eraseIdx];simp only [BG,hI];rw [h2,map_eraseIdx]
  ·intro e he;rw [BH] at he;exact h3 e (List.mem_of_mem_eraseIdx he)
  ·rw [BH,map_eraseIdx];exact h4.sublist (List.eraseIdx_sublist _ _)
end
end
section
open Go
def qS (w:World) (v:Value) (sz:Nat) (rows:List (List Value)) (B:Nat→Prop):Prop:=
 ∃ a c,v = .slice a rows.length c∧(0 < rows.length→∀ ad,a=some ad→B ad.block)∧∀ i (h:i < rows.length),∃ ad,a=some ad∧rows[i].length=sz∧∀ k (hk:k < rows[i].length),w.cell? ((ad.add (i*sz)).add k)=some rows[i][k]
theorem qS.mod {w w':World} {v:Value} {sz:Nat} {rows:List (List Value)} {B B' S:Nat→Prop} (h:qS w v sz rows B) (hm:Mod S w w') (hd:∀ b,B b→¬ S b) (hB:∀ b,B b→B' b):qS w' v sz rows B':=by
 obtain ⟨a,c,rfl,hb,h⟩:=h;refine ⟨a,c,rfl,fun h0 ad h=>hB _ (hb h0 ad h),fun i hi=>?_⟩;obtain ⟨ad,rfl,hl,hc⟩:=h i hi;refine ⟨ad,rfl,hl,fun k hk=>hm.cell (hc k hk) ?_⟩;rw [tO,tO];exact hd _ (hb (by omega) _ rfl)
theorem D7 {w:World} {v:Value} {sz:Nat} {rows:List (List Value)} {B:Nat→Prop} (h:qS w v sz rows B) {i:Nat} (hi:i < rows.length) :
   ∃ ad c,v = .slice (some ad) rows.length c∧rows[i].length=sz∧∀ k (hk:k < rows[i].length),w.cell? ((ad.add (i*sz)).add k)=some rows[i][k]:=by
 obtain ⟨a,c,rfl,_,h⟩:=h;obtain ⟨ad,rfl,h1,h2⟩:=h i hi;exact ⟨ad,c,rfl,h1,h2⟩
theorem XS {w:World} {v:Value} {sz:Nat} {rows:List (List Value)} {B:Nat→Prop} (h:qS w v sz rows B):∃ a c,v = .slice a rows.length c:=by
 obtain ⟨a,c,e,_⟩:=h;exact ⟨a,c,e⟩
theorem XU (a:ByteArray):∀ (n i:Nat) (r:List UInt8),a.size - i=n→ByteArray.toList.loop a i r=r.reverse++a.data.toList.drop i:=by
 have hs:a.data.toList.length=a.size:=by
  show a.data.toList.length=a.data.size;exact Array.length_toList
 intro n
 induction n with
 | zero=>
  intro i r h;rw [ByteArray.toList.loop,if_neg (by omega),List.drop_eq_nil_of_le (by omega),List.append_nil]
 | succ n ih=>
  intro i r h;have hi:i < a.data.toList.length:=by omega
  rw [ByteArray.toList.loop,if_pos (by omega),ih (i+1) _ (by omega),List.drop_eq_getElem_cons hi];have e:a.get! i=a.data.toList[i]:=by
   show a.data[i]! = _;rw [getElem!_pos a.data i (by simpa using hi)];simp
  rw [e];simp
theorem OA (a:ByteArray):a.toList=a.data.toList:=by
 show ByteArray.toList.loop a 0 []=_;rw [XU a _ 0 [] rfl];rfl
theorem XV {a b:ByteArray} (h:a.toList=b.toList):a=b:=by
 rw [OA,OA] at h;cases a;cases b;rename_i x y;have:x=y:=Array.ext' h;rw [this]
theorem Hr (a b:ByteArray):(a.toList == b.toList)=decide (a=b):=by
 by_cases h:a=b
 ·subst h;simp
 ·have:a.toList≠b.toList:=fun e=>h (XV e)
  simp [h,this]
theorem Hs {sz:Nat}:∀ (rows:List (List Value)),(∀ r∈rows,r.length=sz)→∀ (i:Nat) (h:i < rows.length) (k:Nat),k < sz→(rows.flatMap id)[i*sz+k]? = (rows[i]'h)[k]?:=by
 intro rows
 induction rows with
 | nil=>intro _ i h;simp at h
 | cons r rows ih=>
  intro hr i h k hk;have h0:=hr r (by simp);simp only [List.flatMap_cons,id];cases i with
  | zero=>rw [List.getElem?_append_left (by omega)];simp
  | succ i=>
   rw [List.getElem?_append_right (by rw [h0,Nat.add_mul];omega),h0];have e:(i+1)*sz+k - sz=i*sz+k:=by rw [Nat.add_mul];omega
   rw [e];exact ih (fun r sC=>hr r (by simp [sC])) i (by simpa using h) k hk
theorem BI {w:World} {T sz:Nat} {v:Value} {rows:List (List Value)} {fp:Option Nat} (h:dx w T sz v (rows.flatMap id) rows.length fp) (hr:∀ r∈rows,r.length=sz):qS w v sz rows (fun b=>fp=some b):=by
 obtain ⟨h1,⟨rfl,h2,rfl⟩ | ⟨b,c,sp,rfl,rfl,h3,_⟩⟩:=h
 ·refine ⟨none,0,by rw [h2],(fun _ ad e=>by cases e),fun i hi=>?_⟩;omega
 ·refine ⟨some ⟨b,0,none⟩,c,rfl,(fun _ ad e=>by cases e;rfl),fun i hi=>⟨_,rfl,hr _ (List.getElem_mem hi),fun k hk=>?_⟩⟩;have hl:=hr _ (List.getElem_mem hi);have hf:=Hs rows hr i hi k (by omega);rw [List.getElem?_eq_getElem hk] at hf;have aP:i*sz+k < (rows.flatMap id).length:=(List.getElem?_eq_some_iff.1 hf).1;rw [oo,oo,cell_of h3];simp only [Nat.zero_add,List.getElem?_toArray];rw [List.getElem?_append_left aP];exact hf
theorem OB (a:Addr) (i k:Nat):(a.add i).add k=a.add (i+k):=by
 unfold Addr.add;by_cases hi:i=0
 ·subst hi;simp
 ·by_cases hk:k=0
  ·subst hk;simp
  ·have:i+k≠0:=by omega
   simp [hi,hk,this,Nat.add_assoc]
theorem OC {sz:Nat}:∀ (rows:List (List Value)),(∀ r∈rows,r.length=sz)→(rows.flatMap id).length=rows.length*sz:=by
 intro rows
 induction rows with
 | nil=>intro _;simp
 | cons r rows ih=>
  intro hr;have h0:=hr r (by simp);simp only [List.flatMap_cons,id,List.length_append,List.length_cons,ih (fun r sC=>hr r (by simp [sC])),h0,Nat.add_mul];omega
theorem D8 {w:World} {a:Option Addr} {n c sz:Nat} {rows:List (List Value)} {B:Nat→Prop} (h:qS w (.slice a n c) sz rows B) (cZ:0 < sz):n=rows.length∧pM w a (n*sz) (rows.flatMap id)∧(a=none→n=0):=by
 obtain ⟨a',c',e,_,hx⟩:=h;simp only [Value.slice.injEq] at e;obtain ⟨rfl,rfl,rfl⟩:=e;have hr:∀ r∈rows,r.length=sz:=fun r hr=>by
  obtain ⟨i,hi,rfl⟩:=List.getElem_of_mem hr;obtain ⟨_,_,h1,_⟩:=hx i hi;exact h1
 refine ⟨rfl,⟨OC rows hr,fun ad zx j v hv=>?_⟩,fun ha=>?_⟩
 ·have hj:j < rows.length*sz:=by rw [← OC rows hr];exact (List.getElem?_eq_some_iff.1 hv).1
  have hi:j / sz < rows.length:=(Nat.div_lt_iff_lt_mul cZ).2 hj;have hk:j % sz < sz:=Nat.mod_lt _ cZ;have hf:=Hs rows hr (j / sz) hi (j % sz) hk;have e:j / sz*sz+j % sz=j:=by rw [Nat.mul_comm];exact Nat.div_add_mod j sz
  rw [e,hv] at hf;obtain ⟨D9,e1,h1,h2⟩:=hx (j / sz) hi;rw [zx] at e1;cases e1;have h3:=h2 (j % sz) (by rw [h1];exact hk);rw [List.getElem?_eq_getElem (by rw [h1];exact hk)] at hf;simp only [Option.some.injEq] at hf;rw [← hf] at h3;rw [OB,e] at h3;exact h3
 ·apply Classical.byContradiction;intro bo;obtain ⟨ad,e1,_⟩:=hx 0 (by omega);rw [ha] at e1;cases e1
theorem lU {w:World} {a:Addr} {v:Value} (h:w.cell? a=some v):a.block < w.heap.size:=by
 unfold World.cell? at h;cases hb:w.heap[a.block]? with
 | none=>rw [hb] at h;cases h
 | some o=>exact cO hb
end
end Go.W
namespace Go.Proofs.YtjfgeekjjlhbdaaGreatDoor
section
open Go Go.W
inductive Ty where
 | mk (kind:Int) (name:ByteArray) (args:List Ty)
mutual
inductive Ex where
 | mk (kind:Int) (name:ByteArray) (num:Int) (types:List Ty) (args:List Ex) (binds:List Bd) (alts:List Al)
inductive Bd where
 | mk (name:ByteArray) (type:Ty) (value:Ex)
inductive Al where
 | mk (kind:Int) (aZ:ByteArray) (num:Int) (vars:List ByteArray) (body:Ex)
end
structure Cn where
 name:ByteArray
 fields:List Ty
structure Dt where
 name:ByteArray
 params:List ByteArray
 cons:List Cn
structure Df where
 name:ByteArray
 params:List ByteArray
 type:Ty
 body:Ex
structure Pg where
 aH:List Dt
 ak:List Df
def Ty.kind:Ty→Int | .mk k _ _=>k
def Ty.name:Ty→ByteArray | .mk _ n _=>n
def Ty.args:Ty→List Ty | .mk _ _ l=>l
def Ex.kind:Ex→Int | .mk k _ _ _ _ _ _=>k
def Ex.name:Ex→ByteArray | .mk _ n _ _ _ _ _=>n
def Ex.num:Ex→Int | .mk _ _ m _ _ _ _=>m
def Ex.types:Ex→List Ty | .mk _ _ _ l _ _ _=>l
def Ex.args:Ex→List Ex | .mk _ _ _ _ l _ _=>l
def Ex.binds:Ex→List Bd | .mk _ _ _ _ _ l _=>l
def Ex.alts:Ex→List Al | .mk _ _ _ _ _ _ l=>l
def Bd.name:Bd→ByteArray | .mk n _ _=>n
def Bd.type:Bd→Ty | .mk _ t _=>t
def Bd.value:Bd→Ex | .mk _ _ v=>v
def Al.kind:Al→Int | .mk k _ _ _ _=>k
def Al.aZ:Al→ByteArray | .mk _ c _ _ _=>c
def Al.num:Al→Int | .mk _ _ n _ _=>n
def Al.vars:Al→List ByteArray | .mk _ _ _ l _=>l
def Al.body:Al→Ex | .mk _ _ _ _ e=>e
def ov (w:World) (v:Value) (sz:Nat) (rows:List (List Value)) (B:Nat→Prop):Prop:=qS w v sz rows B∧rows.length≤1099511627776
theorem ov.mod {w w':World} {v:Value} {sz:Nat} {rows:List (List Value)} {B S:Nat→Prop} (h:ov w v sz rows B) (hm:Mod S w w') (hd:∀ b,B b→¬ S b):ov w' v sz rows B:=⟨h.1.mod hm hd (fun _ h=>h),h.2⟩
def aT {α:Type} (w:World) (v:Value) (sz:Nat) (B:Nat→Prop) (P:List Value→α→Prop) (l:List α):Prop:=
 ∃ rows,ov w v sz rows B∧rows.length=l.length∧∀ (i:Nat) (r:List Value) (a:α),rows[i]? = some r→l[i]? = some a→P r a
inductive aW (w:World) (B:Nat→Prop):List Value→Ty→Prop
 | mk {k:Int} {n:ByteArray} {args:List Ty} {v:Value} {rows:List (List Value)} (hr:ov w v 3 rows B) (hl:rows.length=args.length)
     (he:∀ (i:Nat) (r:List Value) (t:Ty),rows[i]? = some r→args[i]? = some t→aW w B r t):aW w B [I k,.string n,v] (.mk k n args)
abbrev Nm (s:ByteArray):Prop:=s.size < 4611686018427387904
def gw (cs:List Value) (s:ByteArray):Prop:=cs=[.string s]∧Nm s
def xC:Value→Prop
 | .slice _ n c=>n≤c
 | _=>False
inductive bE (w:World) (B:Nat→Prop):List Value→Ex→Prop
 | mk {k m:Int} {n:ByteArray} {types:List Ty} {args:List Ex} {binds:List Bd} {alts:List Al} {vt va vb vl:Value} {rt ra rb rl:List (List Value)}
     (ht:ov w vt 3 rt B) (nB:rt.length=types.length) (hH:∀ (i:Nat) (r:List Value) (t:Ty),rt[i]? = some r→types[i]? = some t→aW w B r t)
     (ha:ov w va 7 ra B) (tV:ra.length=args.length) (BJ:∀ (i:Nat) (r:List Value) (e:Ex),ra[i]? = some r→args[i]? = some e→bE w B r e)
     (hb:ov w vb 11 rb B) (sD:rb.length=binds.length) (ow:∀ (i:Nat) (r:List Value) (b:Bd),rb[i]? = some r→binds[i]? = some b→(r.length=11∧Nm b.name)∧r[0]? = some (.string b.name)∧aW w B ((r.drop 1).take 3) b.type)
     (BK:∀ (i:Nat) (r:List Value) (b:Bd),rb[i]? = some r→binds[i]? = some b→bE w B (r.drop 4) b.value)
     (hl:ov w vl 11 rl B) (lV:rl.length=alts.length)
     (bU:∀ (i:Nat) (r:List Value) (a:Al),rl[i]? = some r→alts[i]? = some a→∃ vv,r.take 4=[I a.kind,.string a.aZ,I a.num,vv]∧r.length=11∧aT w vv 1 B gw a.vars)
     (hle:∀ (i:Nat) (r:List Value) (a:Al),rl[i]? = some r→alts[i]? = some a→bE w B (r.drop 4) a.body) (jQ:xC vl) :
     bE w B [I k,.string n,I m,vt,va,vb,vl] (.mk k n m types args binds alts)
theorem aT.mod {α:Type} {w w':World} {v:Value} {sz:Nat} {B S:Nat→Prop} {P P':List Value→α→Prop} {l:List α} (h:aT w v sz B P l) (hm:Mod S w w') (hd:∀ b,B b→¬ S b) (hp:∀ r a,P r a→P' r a):aT w' v sz B P' l:=by
 obtain ⟨rows,h1,h2,h3⟩:=h;exact ⟨rows,h1.mod hm hd,h2,fun i r a hr ha=>hp _ _ (h3 i r a hr ha)⟩
section
variable {w w':World} {B S:Nat→Prop} {cs:List Value}
theorem aW.mod {t:Ty} (h:aW w B cs t) (hm:Mod S w w') (hd:∀ b,B b→¬ S b):aW w' B cs t:=by
 induction h with
 | mk hr hl he ih=>exact .mk (hr.mod hm hd) hl (fun i r t a b=>ih i r t a b)
theorem bE.mod {e:Ex} (h:bE w B cs e) (hm:Mod S w w') (hd:∀ b,B b→¬ S b):bE w' B cs e:=by
 induction h with
 | mk ht nB hH ha tV BJ hb sD ow BK hl lV bU hle jQ o8 tS o9=>
  refine .mk (ht.mod hm hd) nB (fun i r t a b=>(hH i r t a b).mod hm hd) (ha.mod hm hd) tV o8 (hb.mod hm hd) sD (fun i r b x y=>?_) tS (hl.mod hm hd) lV (fun i r a x y=>?_) o9 jQ
  ·obtain ⟨h1,h2,h3⟩:=ow i r b x y;exact ⟨h1,h2,h3.mod hm hd⟩
  ·obtain ⟨vv,h1,h2,h3⟩:=bU i r a x y;exact ⟨vv,h1,h2,h3.mod hm hd (fun _ _ h=>h)⟩
theorem aW.cells {t:Ty} (h:aW w B cs t):∃ v,cs=[I t.kind,.string t.name,v]∧aT w v 3 B (aW w B) t.args:=by
 cases h with
 | mk hr hl he=>exact ⟨_,rfl,_,hr,hl,he⟩
theorem bE.cells {e:Ex} (h:bE w B cs e):∃ vt va vb vl,cs=[I e.kind,.string e.name,I e.num,vt,va,vb,vl]∧aT w vt 3 B (aW w B) e.types∧aT w va 7 B (bE w B) e.args ∧
   aT w vb 11 B (fun r b=>(r.length=11∧Nm b.name)∧r[0]? = some (.string b.name)∧aW w B ((r.drop 1).take 3) b.type∧bE w B (r.drop 4) b.value) e.binds ∧
   aT w vl 11 B (fun r a=>r.length=11∧(∃ vv,r.take 4=[I a.kind,.string a.aZ,I a.num,vv]∧aT w vv 1 B gw a.vars)∧bE w B (r.drop 4) a.body) e.alts:=by
 cases h with
 | mk ht nB hH ha tV BJ hb sD ow BK hl lV bU hle jQ=>
  refine ⟨_,_,_,_,rfl,⟨_,ht,nB,hH⟩,⟨_,ha,tV,BJ⟩,⟨_,hb,sD,fun i r b x y=>?_⟩,⟨_,hl,lV,fun i r a x y=>?_⟩⟩
  ·obtain ⟨h1,h2,h3⟩:=ow i r b x y;exact ⟨h1,h2,h3,BK i r b x y⟩
  ·obtain ⟨vv,h1,h2,h3⟩:=bU i r a x y;exact ⟨h2,⟨vv,h1,h3⟩,hle i r a x y⟩
theorem bE.cap {e:Ex} (h:bE w B cs e):∃ vl,cs[6]? = some vl∧xC vl:=by
 cases h with
 | mk ht nB hH ha tV BJ hb sD ow BK hl lV bU hle jQ=>exact ⟨_,rfl,jQ⟩
end
end
section
open Go Go.W
theorem XW {w:World} {a:Addr}:∀ (n i:Nat) (acc r:List Value),r.length=n→(∀ k (hk:k < r.length),w.cell? (a.add (i+k))=some r[k])→jK w a i n acc.toArray=some (acc++r).toArray:=by
 intro n
 induction n with
 | zero=>intro i acc r hl _;rw [List.eq_nil_of_length_eq_zero hl];simp [jK]
 | succ n ih=>
  intro i acc r hl h
  match r,hl with
  | x::r,hl=>
   have h0:=h 0 (by simp);rw [Nat.add_zero] at h0;simp only [List.getElem_cons_zero] at h0
   have:=ih (i+1) (acc++[x]) r (by simpa using hl) (fun k hk=>by
    have:=h (k+1) (by simp;omega);rw [show i+(k+1)=i+1+k by omega] at this
    simpa using this)
   simp only [jK,h0];rw [show acc.toArray.push x=(acc++[x]).toArray by simp,this];simp
theorem pa {w:World} {a:Addr} {n:Nat} {r:List Value} (hl:r.length=n) (h:∀ k (hk:k < r.length),w.cell? (a.add k)=some r[k]):gp w n (.pointer (some a))=some (.agg r.toArray):=by
 unfold gp;have:=XW n 0 [] r hl (fun k hk=>by rw [Nat.zero_add];exact h k hk);simp only [List.nil_append] at this;show (jK w a 0 n #[]).map Value.agg=_;rw [this];rfl
section
variable {w w':World} {B S:Nat→Prop} {v:Value} {α:Type} {sz:Nat} {P:List Value→α→Prop} {l:List α}
theorem a7 (h:aT w v sz B P l):∃ a c,v = .slice a l.length c:=by
 obtain ⟨rows,⟨⟨a,c,e,_⟩,_⟩,h2,_⟩:=h;exact ⟨a,c,by rw [e,h2]⟩
theorem dB (h:aT w v sz B P l):l.length < 9223372036854775807:=by
 obtain ⟨rows,h1,h2,_⟩:=h;have:=h1.2;omega
theorem eh (h:aT w v sz B P l) {i:Nat} (hi:i < l.length) :
   ∃ ad c r,v = .slice (some ad) l.length c∧P r l[i]∧r.length=sz∧gp w sz (.pointer (some (ad.add (i*sz))))=some (.agg r.toArray)∧∀ k (hk:k < r.length),w.cell? ((ad.add (i*sz)).add k)=some r[k]:=by
 obtain ⟨rows,h1,h2,h3⟩:=h;obtain ⟨ad,c,e,k1,k2⟩:=D7 h1.1 (i:=i) (by omega);exact ⟨ad,c,rows[i]'(by omega),by rw [e,h2],h3 i _ _ (List.getElem?_eq_getElem (by omega)) (List.getElem?_eq_getElem hi),k1,pa k1 k2,k2⟩
theorem ej (w:World) (sz:Nat) (B:Nat→Prop) (P:List Value→α→Prop):aT w (.slice none 0 0) sz B P []:=
 ⟨[],⟨⟨none,0,rfl,(fun _ ad e=>by cases e),fun i hi=>absurd hi (by simp)⟩,by simp⟩,rfl,fun i r a hr=>by simp at hr⟩
def eL (w:World) (B:Nat→Prop) (cs:List Value) (k:Cn):Prop:=∃ vf,cs=[.string k.name,vf]∧aT w vf 3 B (aW w B) k.fields∧Nm k.name
def gC (w:World) (B:Nat→Prop) (cs:List Value) (d:Dt):Prop:=∃ vp vc,cs=[.string d.name,vp,vc]∧aT w vp 1 B gw d.params∧aT w vc 2 B (eL w B) d.cons
def ic (w:World) (B:Nat→Prop) (cs:List Value) (d:Df):Prop:=∃ vp tc bc,cs = .string d.name::vp::(tc++bc)∧tc.length=3∧bc.length=7∧aT w vp 1 B gw d.params∧aW w B tc d.type∧bE w B bc d.body∧Nm d.name
def jR (w:World) (B:Nat→Prop) (cs:List Value) (p:Pg):Prop:=∃ vd vf,cs=[vd,vf]∧aT w vd 3 B (gC w B) p.aH∧aT w vf 12 B (ic w B) p.ak
theorem eL.mod {cs:List Value} {k:Cn} (h:eL w B cs k) (hm:Mod S w w') (hd:∀ b,B b→¬ S b):eL w' B cs k:=by
 obtain ⟨vf,e,h,hn⟩:=h;exact ⟨vf,e,h.mod hm hd (fun _ _ h=>h.mod hm hd),hn⟩
theorem gC.mod {cs:List Value} {d:Dt} (h:gC w B cs d) (hm:Mod S w w') (hd:∀ b,B b→¬ S b):gC w' B cs d:=by
 obtain ⟨vp,vc,e,h1,h2⟩:=h;exact ⟨vp,vc,e,h1.mod hm hd (fun _ _ h=>h),h2.mod hm hd (fun _ _ h=>h.mod hm hd)⟩
theorem ic.mod {cs:List Value} {d:Df} (h:ic w B cs d) (hm:Mod S w w') (hd:∀ b,B b→¬ S b):ic w' B cs d:=by
 obtain ⟨vp,tc,bc,e,l1,l2,h1,h2,h3,hn⟩:=h;exact ⟨vp,tc,bc,e,l1,l2,h1.mod hm hd (fun _ _ h=>h),h2.mod hm hd,h3.mod hm hd,hn⟩
theorem jR.mod {cs:List Value} {p:Pg} (h:jR w B cs p) (hm:Mod S w w') (hd:∀ b,B b→¬ S b):jR w' B cs p:=by
 obtain ⟨vd,vf,e,h1,h2⟩:=h;exact ⟨vd,vf,e,h1.mod hm hd (fun _ _ h=>h.mod hm hd),h2.mod hm hd (fun _ _ h=>h.mod hm hd)⟩
theorem aW.len {cs:List Value} {t:Ty} (h:aW w B cs t):cs.length=3:=by
 obtain ⟨_,rfl,_⟩:=h.cells;rfl
theorem bE.len {cs:List Value} {e:Ex} (h:bE w B cs e):cs.length=7:=by
 obtain ⟨_,_,_,_,rfl,_⟩:=h.cells;rfl
end
end
end Go.Proofs.YtjfgeekjjlhbdaaGreatDoor
namespace Go.W
section
open Go
abbrev ptr (b:Nat):Value:=.pointer (some ⟨b,0,none⟩)
theorem aC {B:Nat→Prop}:∀ b,B b→¬ (fun _:Nat=>False) b:=fun _ _ h=>h
section
variable {P:Program} {N:Nat} {w:World} {ρ:Env}
theorem dp {n T:Nat} {z:Value} {x y:O} {aw:Value→Env} {K:Value→Value→World→Prop} {vs:List Value} (hx:x.ev (aw (ptr w.heap.size))=some (.agg vs.toArray)) (hn:vs.length=n) (h1:∀ u∈vs,u.oneCell'=true)
   (hk:∀ w',w'.heap[w.heap.size]? = some (.cells vs.toArray T (0,0))→Mod (fun _=>False) w w'→w'.heap.size=w.heap.size+1→K (ptr w.heap.size) undef w')
   (hy:y.ev (aw (ptr w.heap.size))=some (ptr w.heap.size):=by rfl) (hz:z.cells.size=n:=by rfl) :
   E.wp P w ρ (fun v w'=>E.wp P w' (aw v) (K v) (.st n y x)) (.al T z):=by
 refine cM ?_;intro w1 hb hm hs;refine bL (cs:=z.cells.toList) hy hx (by simpa using hb) hn (by simpa using hz) h1 ?_;intro w2 au ai bK;exact hk w2 au (hm.step ai (fun x hx hl=>by subst hx;omega)) (by omega)
theorem az {b T n:Nat} {cs:List Value} {fz:Nat×Nat} (h:w.heap[b]? = some (.cells cs.toArray T fz)) (hn:cs.length=n):gp w n (.pointer (some ⟨b,0,none⟩))=some (.agg cs.toArray):=by
 have:=iN (off:=0) (n:=n) h (by omega);rw [List.drop_zero,List.take_of_length_le (by omega)] at this;exact this
theorem OD {ρ:Env} {c:Nat} {v:Value} (hv:ρ.get c=some v):∀ {kp:List Nat},c∈kp→(ρ.aB kp).get c=some v:=by
 intro kp
 induction kp with
 | nil=>intro h;cases h
 | cons t ts ih=>
  intro h;rw [XA];by_cases e:t=c
  ·subst e;rw [hv,Oe,qQ,if_pos rfl]
  ·have h2:=ih ((List.mem_cons.1 h).resolve_left (Ne.symm e));cases hr:ρ.get t with
   | none=>rw [Xz];exact h2
   | some u=>rw [Oe,qQ,if_neg e];exact h2
theorem fe {c i n x id zB:Nat} {ox xD:List Nat} {body:IR} {Q:Post} (len:Nat) (Inv:Nat→Env→World→Prop) (h0:Inv 0 ρ w) (hlen:len < 9223372036854775807)
   (hg:∀ k ρ w,Inv k ρ w→ρ.get i=some (.int .i64 k)∧ρ.get n=some (.int .i64 len)∧k≤len)
   (hb:∀ k ρ w,Inv k ρ w→k < len→cH P N body (jP zB (fun e aw w'=>match e with
    | .normal=>aw.get i=some (.int .i64 k)∧Inv (k+1) (Env.aB ((i,.int .i64 ((k+1:Nat):Int))::(x,.int .i64 ((k+1:Nat):Int))::aw) xD) w'
    | e=>Q e aw w')) (Env.aB ((c,.bool true)::ρ) ox) w)
   (hc:c∈ox)
   (he:∀ ρ w,Inv len ρ w→Q (.exit id) (Env.aB ((c,.bool false)::ρ) ox) w) :
   cH P N (.loop (.seq (.cS false [.r (some c) (.bi .lss (.t i) (.t n))] ox) (.seq (.cond (.t c) .skip (.exit id)) (.seq (.block zB body) (.cS false [.r (some x) (.bi .add (.t i) (.c (.int .i64 1))),.r (some i) (.mv (.t x))] xD))))) Q ρ w:=by
 refine fL (fun z ρ w=>∃ k,z=len - k∧Inv k ρ w) len ⟨0,rfl,h0⟩ ?_;rintro z ρ w ⟨k,rfl,hi⟩;obtain ⟨g1,g2,g3⟩:=hg k ρ w hi;have ev:(R.bi .lss (.t i) (.t n)).ev w ρ=some (.bool (decide ((k:Int) < len))):=by
  simp [R.ev,O.ev,g1,g2,u6,uZ]
 refine ⟨_,ev,?_⟩;refine ⟨decide ((k:Int) < len),OD (by simp [Env.put,Env.get]) hc,fun ht=>?_,fun hf=>?_⟩
 ·have aP:k < len:=by simpa using ht
  rw [ht];refine xz body _ _ ?_ _ _ (hb k ρ w hi aP);have kX:∀ (aw:Env) (w':World),aw.get i=some (.int .i64 k)∧Inv (k+1) (Env.aB ((i,.int .i64 ((k+1:Nat):Int))::(x,.int .i64 ((k+1:Nat):Int))::aw) xD) w' →
      cH P N (.cS false [.r (some x) (.bi .add (.t i) (.c (.int .i64 1))),.r (some i) (.mv (.t x))] xD) (kW (fun aw w'=>∃ m,m < len - k∧∃ k,m=len - k∧Inv k aw w') Q) aw w':=by
   rintro aw w' ⟨h1,h2⟩;have ev:(R.bi .add (.t i) (.c (.int .i64 1))).ev w' aw=some (.int .i64 ((k+1:Nat):Int)):=by
    have:IntKind.i64.wrap ((k:Int)+1)=((k+1:Nat):Int):=by rw [dv (by omega) (by omega)];omega
    simp [R.ev,O.ev,h1,u6,uZ,this]
   refine ⟨_,ev,_,?_,len - (k+1),by omega,k+1,rfl,h2⟩;simp [R.ev,O.ev,Env.put,Env.get]
  intro e aw w' h;cases e with
  | normal=>exact kX aw w' h
  | exit lO=>
   simp only [jP] at h ⊢;by_cases hid:lO=zB
   ·rw [if_pos hid] at h ⊢;exact kX aw w' h
   ·rw [if_neg hid] at h ⊢;exact h
  | ret=>exact h
  | _=>exact h
 ·have:k=len:=by have:=of_decide_eq_false hf;omega
  subst this;rw [hf];exact he ρ w hi
end
end
end Go.W
namespace Go.Proofs.YtjfgeekjjlhbdaaGreatDoor
section
open Go Go.W
theorem Ty.ind {P:Ty→Prop} (h:∀ t:Ty,(∀ u∈t.args,P u)→P t):∀ t,P t
 | .mk k n l=>h _ (fun u hu=>Ty.ind h u)
termination_by t=>SizeOf.sizeOf t
decreasing_by
 simp only [Ty.args] at hu;have:=List.sizeOf_lt_of_mem hu;simp only [Ty.mk.sizeOf_spec];omega
theorem Ex.ind {P:Ex→Prop} (h:∀ e:Ex,(∀ u∈e.args,P u)→(∀ b∈e.binds,P b.value)→(∀ a∈e.alts,P a.body)→P e):∀ e,P e
 | .mk k n m ts xs bs al=>h _ (fun u hu=>Ex.ind h u) (fun b hb=>Ex.ind h b.value) (fun a ha=>Ex.ind h a.body)
termination_by e=>SizeOf.sizeOf e
decreasing_by
 ·simp only [Ex.args] at hu;have:=List.sizeOf_lt_of_mem hu;simp only [Ex.mk.sizeOf_spec];omega
 ·simp only [Ex.binds] at hb;have:=List.sizeOf_lt_of_mem hb;cases b;simp only [Ex.mk.sizeOf_spec,Bd.mk.sizeOf_spec,Bd.value] at *;omega
 ·simp only [Ex.alts] at ha;have:=List.sizeOf_lt_of_mem ha;cases a;simp only [Ex.mk.sizeOf_spec,Al.mk.sizeOf_spec,Al.body] at *;omega
def ff (w:World) (B:Nat→Prop) (r:List Value) (b:Bd):Prop:=∃ tc ec,r = .string b.name::(tc++ec)∧aW w B tc b.type∧bE w B ec b.value∧Nm b.name
def iO (w:World) (B:Nat→Prop) (r:List Value) (a:Al):Prop:=∃ vv ec,r=I a.kind :: .string a.aZ::I a.num::vv::ec∧aT w vv 1 B gw a.vars∧bE w B ec a.body
section
variable {w w':World} {B S:Nat→Prop} {cs:List Value}
theorem aT.imp {α:Type} {v:Value} {sz:Nat} {P P':List Value→α→Prop} {l:List α} (h:aT w v sz B P l) (hp:∀ r a,P r a→P' r a):aT w v sz B P' l:=by
 obtain ⟨rows,h1,h2,h3⟩:=h;exact ⟨rows,h1,h2,fun i r a hr ha=>hp _ _ (h3 i r a hr ha)⟩
theorem bE.parts {e:Ex} (h:bE w B cs e):∃ vt va vb vl,cs=[I e.kind,.string e.name,I e.num,vt,va,vb,vl]∧aT w vt 3 B (aW w B) e.types∧aT w va 7 B (bE w B) e.args ∧
   aT w vb 11 B (ff w B) e.binds∧aT w vl 11 B (iO w B) e.alts:=by
 obtain ⟨vt,va,vb,vl,h0,h1,h2,h3,h4⟩:=h.cells;refine ⟨vt,va,vb,vl,h0,h1,h2,h3.imp ?_,h4.imp ?_⟩
 ·rintro r b ⟨⟨hl,hb⟩,hn,ht,he⟩;refine ⟨(r.drop 1).take 3,r.drop 4,?_,ht,he,hb⟩
  match r,hl with
  | x::r,hl=>simp only [List.getElem?_cons_zero,Option.some.injEq] at hn;subst hn;simp [← List.drop_drop]
 ·rintro r a ⟨hl,⟨vv,hn,hv⟩,he⟩;refine ⟨vv,r.drop 4,?_,hv,he⟩
  conv=>lhs;rw [← List.take_append_drop 4 r,hn]
  rfl
theorem ff.mod {b:Bd} (h:ff w B cs b) (hm:Mod S w w') (hd:∀ b,B b→¬ S b):ff w' B cs b:=by
 obtain ⟨tc,ec,e,h1,h2,hn⟩:=h;exact ⟨tc,ec,e,h1.mod hm hd,h2.mod hm hd,hn⟩
theorem iO.mod {a:Al} (h:iO w B cs a) (hm:Mod S w w') (hd:∀ b,B b→¬ S b):iO w' B cs a:=by
 obtain ⟨vv,ec,e,h1,h2⟩:=h;exact ⟨vv,ec,e,h1.mod hm hd (fun _ _ h=>h),h2.mod hm hd⟩
theorem dE:∀ u∈([]:List Value),u.oneCell'=true:=fun _ h=>nomatch h
theorem aS {v:Value} {l:List Value} (h:v.oneCell'=true) (hl:∀ u∈l,u.oneCell'=true):∀ u∈v::l,u.oneCell'=true:=List.forall_mem_cons.2 ⟨h,hl⟩
theorem Ht {k l:List Value} (h:∀ u∈k,u.oneCell'=true) (hl:∀ u∈l,u.oneCell'=true):∀ u∈k++l,u.oneCell'=true:=List.forall_mem_append.2 ⟨h,hl⟩
theorem mL {α:Type} {v:Value} {sz:Nat} {P:List Value→α→Prop} {l:List α} (h:aT w v sz B P l):v.oneCell'=true:=by
 obtain ⟨a,c,rfl⟩:=a7 h;rfl
theorem aW.one {t:Ty} (h:aW w B cs t):∀ u∈cs,u.oneCell'=true:=by
 obtain ⟨v,rfl,h1⟩:=h.cells;exact aS rfl (aS rfl (aS (mL h1) dE))
theorem bE.one {e:Ex} (h:bE w B cs e):∀ u∈cs,u.oneCell'=true:=by
 obtain ⟨vt,va,vb,vl,rfl,h1,h2,h3,h4⟩:=h.parts;exact aS rfl (aS rfl (aS rfl (aS (mL h1) (aS (mL h2) (aS (mL h3) (aS (mL h4) dE))))))
theorem ff.one {b:Bd} (h:ff w B cs b):∀ u∈cs,u.oneCell'=true:=by
 obtain ⟨tc,ec,rfl,h1,h2,_⟩:=h;exact aS rfl (Ht h1.one h2.one)
theorem iO.one {a:Al} (h:iO w B cs a):∀ u∈cs,u.oneCell'=true:=by
 obtain ⟨vv,ec,rfl,h1,h2⟩:=h;exact aS rfl (aS rfl (aS rfl (aS (mL h1) h2.one)))
theorem eL.one {k:Cn} (h:eL w B cs k):∀ u∈cs,u.oneCell'=true:=by
 obtain ⟨vf,rfl,h1,_⟩:=h;exact aS rfl (aS (mL h1) dE)
theorem gC.one {d:Dt} (h:gC w B cs d):∀ u∈cs,u.oneCell'=true:=by
 obtain ⟨vp,vc,rfl,h1,h2⟩:=h;exact aS rfl (aS (mL h1) (aS (mL h2) dE))
theorem ic.one {d:Df} (h:ic w B cs d):∀ u∈cs,u.oneCell'=true:=by
 obtain ⟨vp,tc,bc,rfl,_,_,h1,h2,h3,_⟩:=h;exact aS rfl (aS (mL h1) (Ht h2.one h3.one))
end
end
section
open Go Go.W
abbrev Wr (n:Int):Int:=IntKind.i64.wrap n
abbrev mx (n d:Int):Int:=if d > n then d else n
mutual
def Ty.size:Ty→Int
 | .mk _ _ l=>lW l 1
def lW:List Ty→Int→Int
 | [],n=>n
 | t::l,n=>lW l (Wr (n+t.size))
end
mutual
def Ty.nodes:Ty→Int
 | .mk _ _ l=>min (ku l 1) 501
def ku:List Ty→Int→Int
 | [],n=>n
 | t::l,n=>if n > 500 then n else ku l (Wr (n+t.nodes))
end
mutual
def Ex.size:Ex→Int
 | .mk _ _ _ ts xs bs al=>tW al (vy bs (xE xs (Wr (1+lW ts 0))))
def xE:List Ex→Int→Int
 | [],n=>n
 | e::l,n=>xE l (Wr (n+e.size))
def vy:List Bd→Int→Int
 | [],n=>n
 | .mk _ t v::l,n=>vy l (Wr (n+Wr (Wr (1+t.size)+v.size)))
def tW:List Al→Int→Int
 | [],n=>n
 | .mk _ _ _ vs b::l,n=>tW l (Wr (n+Wr (Wr (1+vs.length)+b.size)))
end
mutual
def Ex.deep:Ex→Int
 | .mk _ _ _ _ xs bs al=>Wr (tX al (vz bs (xF xs 0))+1)
def xF:List Ex→Int→Int
 | [],n=>n
 | e::l,n=>xF l (mx n e.deep)
def vz:List Bd→Int→Int
 | [],n=>n
 | .mk _ _ v::l,n=>vz l (mx n v.deep)
def tX:List Al→Int→Int
 | [],n=>n
 | .mk _ _ _ _ b::l,n=>tX l (mx n b.deep)
end
def xG:List Cn→Int→Int
 | [],n=>n
 | k::l,n=>xG l (Wr (n+Wr (1+lW k.fields 0)))
def xH:List Dt→Int→Int
 | [],n=>n
 | d::l,n=>xH l (xG d.cons (Wr (n+1)))
def vA:List Df→Int→Int
 | [],n=>n
 | d::l,n=>vA l (Wr (n+Wr (Wr (1+d.type.size)+d.body.size)))
def Pg.size (p:Pg):Int:=vA p.ak (xH p.aH 0)
theorem Ty.size_eq (t:Ty):t.size=lW t.args 1:=by cases t;rw [Ty.size];rfl
theorem Ty.Hu (t:Ty):t.nodes=min (ku t.args 1) 501:=by cases t;rw [Ty.nodes];rfl
theorem Ex.size_eq (e:Ex):e.size=tW e.alts (vy e.binds (xE e.args (Wr (1+lW e.types 0)))):=by cases e;rw [Ex.size];rfl
theorem Ex.XX (e:Ex):e.deep=Wr (tX e.alts (vz e.binds (xF e.args 0))+1):=by cases e;rw [Ex.deep];rfl
section
variable {i:Nat} (n:Int)
theorem OE {l:List Ty} (hi:i < l.length):lW (l.drop i) n=lW (l.drop (i+1)) (Wr (n+l[i].size)):=by rw [List.drop_eq_getElem_cons hi,lW]
theorem XY {l:List Ty} (hi:i < l.length):ku (l.drop i) n=if n > 500 then n else ku (l.drop (i+1)) (Wr (n+l[i].nodes)):=by rw [List.drop_eq_getElem_cons hi,ku]
theorem XZ {l:List Ex} (hi:i < l.length):xE (l.drop i) n=xE (l.drop (i+1)) (Wr (n+l[i].size)):=by rw [List.drop_eq_getElem_cons hi,xE]
theorem X0 {l:List Bd} (hi:i < l.length):vy (l.drop i) n=vy (l.drop (i+1)) (Wr (n+Wr (Wr (1+l[i].type.size)+l[i].value.size))):=by
 rw [List.drop_eq_getElem_cons hi];cases l[i];rw [vy];rfl
theorem X1 {l:List Al} (hi:i < l.length):tW (l.drop i) n=tW (l.drop (i+1)) (Wr (n+Wr (Wr (1+l[i].vars.length)+l[i].body.size))):=by
 rw [List.drop_eq_getElem_cons hi];cases l[i];rw [tW];rfl
theorem X2 {l:List Ex} (hi:i < l.length):xF (l.drop i) n=xF (l.drop (i+1)) (mx n l[i].deep):=by rw [List.drop_eq_getElem_cons hi,xF]
theorem X3 {l:List Bd} (hi:i < l.length):vz (l.drop i) n=vz (l.drop (i+1)) (mx n l[i].value.deep):=by
 rw [List.drop_eq_getElem_cons hi];cases l[i];rw [vz];rfl
theorem X4 {l:List Al} (hi:i < l.length):tX (l.drop i) n=tX (l.drop (i+1)) (mx n l[i].body.deep):=by
 rw [List.drop_eq_getElem_cons hi];cases l[i];rw [tX];rfl
theorem X5 {l:List Cn} (hi:i < l.length):xG (l.drop i) n=xG (l.drop (i+1)) (Wr (n+Wr (1+lW l[i].fields 0))):=by rw [List.drop_eq_getElem_cons hi,xG]
theorem X6 {l:List Dt} (hi:i < l.length):xH (l.drop i) n=xH (l.drop (i+1)) (xG l[i].cons (Wr (n+1))):=by rw [List.drop_eq_getElem_cons hi,xH]
theorem X7 {l:List Df} (hi:i < l.length):vA (l.drop i) n=vA (l.drop (i+1)) (Wr (n+Wr (Wr (1+l[i].type.size)+l[i].body.size))):=by rw [List.drop_eq_getElem_cons hi,vA]
end
end
end Go.Proofs.YtjfgeekjjlhbdaaGreatDoor
namespace Go.W
section
open Go
variable {dl:List Deferred} {P:Program} {N:Nat} {ops:Array Oper}
def tY (o:Oper):Bool:=match o.op with
 | .defer _=>false
 | _=>true
theorem X8 {o:Oper} (h:tY o=true):∀ c,o.op≠.defer c:=by
 intro c hc;simp [tY,hc] at h
theorem X9 {l n:Nat} {row:String} {args:Array Value} {w:World} {R:Value→World→Prop} (h:Rows P row args w R):RowsIn (Fence.wide.inRound l) n P row args w R:=by
 intro c cs _;obtain ⟨v,w',h1,h2⟩:=h c cs;exact ⟨v,w',h1,stepsIn_wide.2 h2⟩
theorem Ya {l n:Nat} {o:Oper} {a:Act} {K:Act→World→Prop} {Q:Exit→Act→World→Prop} {r:Result Next} (h:o.upon P a K sq r):o.uponIn (Fence.wide.inRound l) n P a K Q r:=by
 cases r with
 | ok x w'=>
  cases x<;>simp only [Oper.upon] at h<;>first
   | exact h
   | exact ⟨fun hh=>(by cases hh),(CallsIn.inRound l (callsIn_wide.2 h)).mono (fun e dP he=>by
       cases e with
       | returned v=>exact he
       | panicked c=>exact False.elim he
       | outgrown=>obtain ⟨_,_,hf⟩:=he;exact False.elim hf)⟩
   | exact ⟨fun hh=>(by cases hh),X9 h⟩
   | exact False.elim h
 | halt x w'=>cases x<;>simp only [Oper.upon] at h<;>exact False.elim h
theorem Ea {l n:Nat} {o:Oper} {a:Act} {w:World} {K:Act→World→Prop} {Q:Exit→Act→World→Prop} (hd:tY o=true) (h:o.wp P a w K sq):o.wpIn (Fence.wide.inRound l) n P a w K Q:=
 ⟨fun _ _=>trivial,by rw [Oper.semAt_eq _ _ _ (X8 hd)];exact Ya h⟩
theorem Eb {l n:Nat} {G:Act→World→Prop} {Q:Exit→Act→World→Prop} (hQ:∀ a w,G a w→Q .normal a w):∀ (L:List Oper) (a:Act) (w:World),L.all tY=true→jN P ops G L a w→wpListIn (Fence.wide.inRound l) n P ops Q L a w
 | [],a,w,_,h=>hQ a w h
 | o::L,a,w,hd,h=>by
  simp only [List.all_cons,Bool.and_eq_true] at hd;unfold jN at h;unfold wpListIn
  split
  ·rename_i hw;rw [if_pos hw] at h;exact Ea hd.1 (Oper.wp_mono (fun a w hh=>Eb hQ L a w hd.2 hh) h)
  ·rename_i hw;rw [if_neg hw] at h;exact ⟨fun _ _=>trivial,Eb hQ L _ _ hd.2 h⟩
theorem Yb {l n:Nat} {B:Nat→Nat→Prop} {Q:Act→World→Prop} {Q':Exit→Act→World→Prop} (hQ:∀ a w,Q a w→Q' .normal a w) (hd:ops.all tY=true) :
   ∀ (f:Nat) (listed:Array Bool) (a:Act) (w:World),lL P ops B Q f listed a w→wpAnyIn (Fence.wide.inRound l) n P .any ops Q' f listed a w:=by
 intro f
 induction f with
 | zero=>intro listed a w h;exact ⟨h.1,hQ _ _ h.2⟩
 | succ f ih=>
  intro listed a w h;refine ⟨fun h0=>hQ _ _ (h.1 h0),fun i hi=>?_⟩;obtain ⟨o,ho,hg⟩:=h.2 i hi;have Yc:tY o=true:=by
   rw [Array.all_eq_true] at hd;obtain ⟨h1,h2⟩:=Array.getElem?_eq_some_iff.1 ho;have:=hd i h1;rw [h2] at this;exact this
  unfold wpOpIn;simp only [ho]
  split
  ·rename_i hw;rw [if_pos hw] at hg;exact Ea Yc (Oper.wp_mono (fun a' w' hh=>ih _ _ _ hh.2) hg)
  ·rename_i hw;rw [if_neg hw] at hg;exact ⟨fun _ _=>trivial,ih _ _ _ hg.2⟩
theorem OF {l n:Nat} {id:Nat} {pm:List Nat} {Q:Exit→Act→World→Prop} {K:Env→World→Prop} {t:D} {ρ:Env} {a:Act} {w:World} (hm:P.follows .mixedOrders=true) (gv:zm ops pm=true)
   (tP:Region.noSelect ops=true) (hd:ops.all tY=true) (ht:qN P N ops pm ops.size (Array.replicate ops.size false)=some t) (h:dm P t ρ w.drew [] K) (hg:Good dl N ρ a)
   (hQ:∀ aw a' w',Good dl N aw a'→K aw w'→Q .normal a' w'):(Code.region id ops true).wpIn (Fence.wide.inRound l) n P Q a w:=by
 refine wpIn_region_any hm (Yb (B:=tQ pm []) (Q:=pO dl N K) (fun a' w' ⟨aw,h1,h2⟩=>hQ aw a' w' h1 h2) hd _ _ _ _ ?_);refine NY gv tP _ _ t ρ a w.drew [] ht h hg ?_ (fun _ _ h=>by cases h);intro j oj _ hl;have:(Array.replicate ops.size false).getD j false=false:=by
  rcases Nat.lt_or_ge j ops.size with h | h
  ·simp [h]
  ·simp [h]
 rw [this] at hl;cases hl
def calm:Code→Bool
 | .skip=>true
 | .ret=>true
 | .exit _=>true
 | .seq a b=>calm a&&calm b
 | .cond _ a b=>calm a&&calm b
 | .block _ a=>calm a
 | .region _ ops _=>ops.all tY
 | _=>false
def nC:IR→Bool
 | .raw _=>false
 | .loop _=>false
 | .seq a b=>nC a&&nC b
 | .cond _ a b=>nC a&&nC b
 | .block _ a=>nC a
 | _=>true
theorem OG {l n:Nat} {H:List (Nat×List Nat×List Nat)}:∀ (c:Code) (ir:IR) (Q:Post) (ρ:Env) (a:Act) (w:World),fk P N H c=some ir→calm c=true→nC ir=true→cH P N ir Q ρ w→Good dl N ρ a →
   c.wpIn (Fence.wide.inRound l) n P (o5 dl N Q) a w:=by
 intro c
 induction c with
 | skip=>intro ir Q ρ a w h _ _ hw hg;simp only [fk,Option.some.injEq] at h;subst h;exact wpIn_skip ⟨ρ,hg,hw⟩
 | ret=>intro ir Q ρ a w h _ _ hw hg;simp only [fk,Option.some.injEq] at h;subst h;exact wpIn_ret ⟨ρ,hg,hw⟩
 | exit id=>intro ir Q ρ a w h _ _ hw hg;simp only [fk,Option.some.injEq] at h;subst h;exact wpIn_exit ⟨ρ,hg,hw⟩
 | seq x y iD lP=>
  intro ir Q ρ a w h hc hk hw hg;simp only [fk] at h;obtain ⟨a1,h1,h⟩:=Option.bind_eq_some_iff.1 h;obtain ⟨b1,h2,h⟩:=Option.map_eq_some_iff.1 h;subst h;simp only [calm,nC,Bool.and_eq_true] at hc hk;refine wpIn_seq (wpIn_mono (iD a1 _ ρ a w h1 hc.1 hk.1 hw hg) ?_);intro e a' w' hq;obtain ⟨aw,dj,hq⟩:=hq;cases e with
  | normal=>exact lP b1 Q aw a' w' h2 hc.2 hk.2 hq dj
  | _=>exact ⟨aw,dj,hq⟩
 | cond c x y iD lP=>
  intro ir Q ρ a w h hc hk hw hg;simp only [fk] at h;obtain ⟨a1,h1,h⟩:=Option.bind_eq_some_iff.1 h;obtain ⟨b1,h2,h⟩:=Option.map_eq_some_iff.1 h;subst h;simp only [calm,nC,Bool.and_eq_true] at hc hk;obtain ⟨t,kq,ht,hf⟩:=hw;have he:=hg.agree c _ kq;exact wpIn_cond_split he (fun e=>iD a1 Q ρ a w h1 hc.1 hk.1 (ht e) hg) (fun e=>lP b1 Q ρ a w h2 hc.2 hk.2 (hf e) hg)
 | block id x ih=>
  intro ir Q ρ a w h hc hk hw hg;simp only [fk] at h;obtain ⟨a1,h1,h⟩:=Option.map_eq_some_iff.1 h;subst h;simp only [calm,nC] at hc hk;refine wpIn_block (wpIn_mono (ih a1 _ ρ a w h1 hc hk hw hg) ?_);intro e a' w' hq;obtain ⟨aw,dj,hq⟩:=hq;cases e with
  | exit lO=>
   simp only [Exit.inBlock,jP] at hq ⊢
   split
   ·rename_i hh;rw [if_pos hh] at hq;exact ⟨aw,dj,hq⟩
   ·rename_i hh;rw [if_neg hh] at hq;exact ⟨aw,dj,hq⟩
  | _=>exact ⟨aw,dj,hq⟩
 | region id ops draw=>
  intro ir Q ρ a w h hc hk hw hg;simp only [calm] at hc;simp only [fk] at h;obtain ⟨x,hx,h0⟩:=Option.bind_eq_some_iff.1 h;clear h;have h:=h0;clear h0;obtain ⟨kp,pm⟩:=x;unfold Hg at h;have fin:∀ aw a' w',Good dl N aw a'→Q .normal (aw.aB kp) w'→o5 dl N Q .normal a' w':=fun aw a' w' dj hq=>⟨_,dj.aB kp,hq⟩
  have fy:ops.toList.all tY=true:=by simpa using hc
  split at h
  ·rename_i hd;subst hd
   split at h
   ·rename_i ie;simp only [Bool.and_eq_true] at ie;obtain ⟨⟨hs,gv⟩,hm⟩:=ie
    split at h
    ·rename_i t ht
     split at h
     ·rename_i st bz;simp only [Option.some.injEq] at h;subst h;exact OF (K:=fun ρ w=>Q .normal (ρ.aB kp) w) hm gv hs hc ht (N4 t st ρ _ [] bz hw) hg fin
     ·simp only [Option.some.injEq] at h;subst h;exact OF (K:=fun ρ w=>Q .normal (ρ.aB kp) w) hm gv hs hc ht hw hg fin
    ·simp only [Option.some.injEq] at h;subst h;simp [nC] at hk
   ·simp only [Option.some.injEq] at h;subst h;simp [nC] at hk
  ·rename_i hd;have:draw=false:=by simpa using hd
   subst this;obtain ⟨st,bz,h⟩:=Option.map_eq_some_iff.1 h;subst h;cases o6:sA N kp [] st with
   | none=>
    rw [o6] at hw;exact wpIn_region_list (Eb (fun _ _ h=>h) _ _ _ fy (zk (G:=fun a w=>o5 dl N Q .normal a w) ops.toList st ρ a w (fun ρ w=>Q .normal (ρ.aB kp) w) bz hw hg fin))
   | some dQ=>
    rw [o6] at hw;exact wpIn_region_list (Eb (fun _ _ h=>h) _ _ _ fy (Oa (G:=fun a w=>o5 dl N Q .normal a w) (K:=fun ρ w=>Q .normal ρ w) ops.toList st dQ [] ρ ρ a w bz o6 hw hg (fun t _=>rfl) fin))
 | _=>intro ir Q ρ a w h hc;simp [calm] at hc
def BL (n k:Nat):List Nat:=(List.range k).map fun i=>n - 1 - i
def Quiet (B:Nat) (I:World→Prop):Prop:=∀ W W' (S:Nat→Prop),I W→Mod S W W'→(∀ b,S b→B≤b∧∃ o:Obj,W.heap[b]? = some o∧o.isCells=false)→I W'
theorem OH {α:Type} {B:Nat} {I:List α→World→Prop} (h:∀ s,Quiet B (I s)):OwnFrom B I:=by
 intro s W W' row hs hg hr;refine h s W W' (fun b=>row=some b) hs ⟨hg.size,fun b hb hn=>hg.block b hb (fun e=>hn e.symm),hg.os,hg.tape,hg.output⟩ (fun b hb=>hr b hb)
structure OI (P:Program) (N:Nat) (ir:IR) (Kp:World→World→Prop) (len:Nat) (jS:Nat→Value) (p1 p2 d:Nat) (ρ:Env) (B:Nat) (I:List Nat→World→Prop) (w:World):Prop where
 zero:I [] w
 quiet:∀ s,Quiet B (I s)
 body:∀ (pre:List Nat) (j:Nat) (W:World),I pre W→pre.length < len→j < len →
  cH P N ir (fun e _ W'=>match e with | .normal=>KeepsOthers W W'∧Kp W W'∧I (pre++[j]) W' | _=>False) ((d,jS j)::ρ) W
theorem Ec {ρ:Env} {a:Act} (h:Good dl N ρ a) {p:Nat} (v:Value) (hp:ρ.get p=none) (hN:p < N):Good dl N ρ (a.put (some p) v):=by
 have h1:=h.put (some p) v (fun t ht=>by cases ht;exact hN);refine ⟨h1.size,h1.defers,fun t u hu=>h1.get t u ?_⟩;rw [Bw (fun hh=>by subst hh;rw [hp] at hu;cases hu)];exact hu
theorem Yd {n:Nat} {x p1 p2 d id ty:Nat} {pos:String} {bd:Code} {ir:IR} {H:List (Nat×List Nat×List Nat)} (dF:fk P N H bd=some ir) (Hv:calm bd=true) (Hw:nC ir=true)
   {gf:Nat} {lb:Array Value} {len:Nat} {jS:Nat→Value} {Kp:World→World→Prop} {ρ:Env} {a:Act} {w:World} {Q:Exit→Act→World→Prop} (hg:Good dl N ρ a) (hx:ρ.get x=some (.func (.func gf) #[] lb))
   (eg:∀ args w,(callFunc gf args).run P w = .ok (.enter gf args) w)
   (xI:SeqStopsK Fence.wide (n - 1) P gf lb (fun y : { j:Nat // j < len}=>#[.int .i64 (y.1:Int),jS y.1]) Kp (fun ys=>ys.map Subtype.val=BL len len) (fun _=>True) len w)
   (hp:p1≠p2∧p1 < N∧p2 < N∧d < N) (Hx:ρ.get p1=none∧ρ.get p2=none) (hn:1≤n)
   (xJ:∀ {A B C:World},Kp A B→Kp B C→Kp A C) (xK:∀ (W:World) (l:Nat) (o o':Obj),w.heap.size≤l→W.heap[l]? = some o→o.isCells=false→o.isWalk=false→Kp W (W.putObj l o'))
   (I:List Nat→World→Prop) (hI:OI P N ir Kp len jS p1 p2 d ρ w.heap.size I w)
   (done:∀ (D:Nat) (W:World),w.heap.size≤D→I (BL len len) W→W.heap[D]? = some (.deferred (some []))→∀ a',Good ({ target:=.collected D,args:=#[]}::dl) N ρ a'→Q .normal a' W) :
   (Code.rangeFunc (.tmp x) #[p1,p2] (.region id #[{ dst:=some d,op:=.assign (.tmp p2),type:=ty,pos:=pos,after:=#[],guard:=none}] false) bd).wp P Q a w:=by
 obtain ⟨ajo,ja,nD,hd⟩:=hp;obtain ⟨mM,zC⟩:=Hx;have h0:Good [] N ρ { tmps:=a.tmps,defers:=[]}:=⟨hg.size,rfl,hg.get⟩;have nA:a.eval (.tmp x) = .func (.func gf) #[] lb:=hg.agree (.tmp x) _ hx;refine (wpIn_wide (n:=n)).1 ?_;refine wpIn_rangeFunc_ownF (α:={ j:Nat // j < len}) rfl hn nA trivial eg xI xJ xK (Go.RowKit.Below.refl _ _) (fun _=>rfl) (fun xs W=>I (xs.map Subtype.val) W) (fun _ _ _=>False)
  (OH (fun s=>hI.quiet _)) (fun c=>fun s W W' row h=>h.elim) hI.zero
  (fun y=>(((({ tmps:=a.tmps,defers:=[]}:Act).put (some p1) (.int .i64 (y.1:Int))).put (some p2) (jS y.1)).put (some d) (jS y.1))) ?_ ?_ ?_ ?_
 ·intro l y W K hK;have e:((#[p1,p2].zip #[Value.int .i64 (y.1:Int),jS y.1]).foldl (fun t (p,v)=>t.setIfInBounds p v) a.tmps)=((({ tmps:=a.tmps,defers:=[]}:Act).put (some p1) (.int .i64 (y.1:Int))).put (some p2) (jS y.1)).tmps:=by simp [Act.put]
  rw [e];have hG:Good [] N ((p2,jS y.1)::ρ) ((({ tmps:=a.tmps,defers:=[]}:Act).put (some p1) (.int .i64 (y.1:Int))).put (some p2) (jS y.1)):=
   (Ec h0 _ mM ja).put (some p2) _ (fun t ht=>by cases ht;exact nD)
  refine wpIn_region_list ?_;show wpListIn _ _ _ _ _ [_] _ _;unfold wpListIn;rw [if_pos (by simp [Region.wanted])];have hr:bZ P (Op.assign (.tmp p2))=some (.mv (.t p2)):=rfl;obtain ⟨v,hv,jn⟩:=He (P:=P) (o:={ dst:=some d,op:=.assign (.tmp p2),type:=ty,pos:=pos,after:=#[],guard:=none}) (w:=W) hr hG (by simpa [Bv] using nD);have oy:jS y.1=v:=hv _ (by simp [O.ev,Env.get]);subst oy;refine Ea rfl (Oper.wp_mono ?_ jn);rintro a' w' ⟨rfl,rfl⟩;exact hK
 ·intro l pre y W hi hlen;have hG:Good [] N ((d,jS y.1)::ρ) (((({ tmps:=a.tmps,defers:=[]}:Act).put (some p1) (.int .i64 (y.1:Int))).put (some p2) (jS y.1)).put (some d) (jS y.1)):=
   (Ec (Ec h0 _ mM ja) _ zC nD).put (some d) _ (fun t ht=>by cases ht;exact hd)
  refine wpIn_mono (OG bd ir _ _ _ _ dF Hv Hw (hI.body _ y.1 W hi (by simpa using hlen) y.2) hG) ?_;rintro e a' w' ⟨aw,_,hq⟩;cases e with
  | normal=>
   obtain ⟨q1,q2,q3⟩:=hq;exact ⟨q1,q2,by show I ((pre++[y]).map Subtype.val) w';rw [List.map_append];exact q3⟩
  | _=>exact hq.elim
 ·intro D xs W hD hS hi hh;have hS:xs.map Subtype.val=BL len len:=hS;have hi:I (xs.map Subtype.val) W:=hi;rw [hS] at hi;exact done D W hD hi hh _ ⟨hg.size,by simp [hg.defers],hg.get⟩
 ·intro D c pre W _ _ hh;exact hh.elim
structure OJ (P:Program) (N:Nat) (ir:IR) (Kp:World→World→Prop) (len:Nat) (d:Nat) (ρ:Env) (B:Nat) (I:List ByteArray→World→Prop) (w:World):Prop where
 zero:I [] w
 quiet:∀ s,Quiet B (I s)
 body:∀ (pre:List ByteArray) (x:ByteArray) (W:World),I pre W→pre.length < len →
  cH P N ir (fun e _ W'=>match e with | .normal=>KeepsFrom B W W'∧Kp W W'∧I (pre++[x]) W' | _=>False) ((d,.string x)::ρ) W
theorem Ye {n:Nat} {x p d id ty:Nat} {pos:String} {bd:Code} {ir:IR} {H:List (Nat×List Nat×List Nat)} (dF:fk P N H bd=some ir) (Hv:calm bd=true) (Hw:nC ir=true)
   {gf:Nat} {lb:Array Value} {len:Nat} {Kp:World→World→Prop} {ρ:Env} {a:Act} {w:World} {Q:Exit→Act→World→Prop} (hg:Good dl N ρ a) (hx:ρ.get x=some (.func (.func gf) #[] lb))
   (eg:∀ args w,(callFunc gf args).run P w = .ok (.enter gf args) w)
   (xI:SeqStopsK Fence.wide (n - 1) P gf lb (fun y:ByteArray=>#[.string y]) Kp (fun _=>True) (fun _=>True) len w)
   (hp:p < N∧d < N) (Hx:ρ.get p=none) (hn:1≤n)
   (xJ:∀ {A B C:World},Kp A B→Kp B C→Kp A C) (xK:∀ (W:World) (l:Nat) (o o':Obj),w.heap.size≤l→W.heap[l]? = some o→o.isCells=false→o.isWalk=false→Kp W (W.putObj l o'))
   (I:List ByteArray→World→Prop) (hI:OJ P N ir Kp len d ρ w.heap.size I w)
   (done:∀ (D:Nat) (xs:List ByteArray) (W:World),w.heap.size≤D→I xs W→W.heap[D]? = some (.deferred (some []))→∀ a',Good ({ target:=.collected D,args:=#[]}::dl) N ρ a'→Q .normal a' W) :
   (Code.rangeFunc (.tmp x) #[p] (.region id #[{ dst:=some d,op:=.assign (.tmp p),type:=ty,pos:=pos,after:=#[],guard:=none}] false) bd).wp P Q a w:=by
 obtain ⟨ja,hd⟩:=hp;have h0:Good [] N ρ { tmps:=a.tmps,defers:=[]}:=⟨hg.size,rfl,hg.get⟩;have nA:a.eval (.tmp x) = .func (.func gf) #[] lb:=hg.agree (.tmp x) _ hx;refine (wpIn_wide (n:=n)).1 ?_;refine wpIn_rangeFunc_ownG (α:=ByteArray) rfl hn nA trivial eg xI xJ xK (Go.RowKit.Below.refl _ _) (fun _=>rfl) I (fun _ _ _=>False)
  (OH (fun s=>hI.quiet _)) (fun c=>fun s W W' row h=>h.elim) hI.zero
  (fun y=>((({ tmps:=a.tmps,defers:=[]}:Act).put (some p) (.string y)).put (some d) (.string y))) ?_ ?_ ?_ ?_
 ·intro l y W K hK;have e:((#[p].zip #[Value.string y]).foldl (fun t (p,v)=>t.setIfInBounds p v) a.tmps)=(({ tmps:=a.tmps,defers:=[]}:Act).put (some p) (.string y)).tmps:=by simp [Act.put]
  rw [e];have hG:Good [] N ((p,.string y)::ρ) (({ tmps:=a.tmps,defers:=[]}:Act).put (some p) (.string y)):=
   h0.put (some p) _ (fun t ht=>by cases ht;exact ja)
  refine wpIn_region_list ?_;show wpListIn _ _ _ _ _ [_] _ _;unfold wpListIn;rw [if_pos (by simp [Region.wanted])];have hr:bZ P (Op.assign (.tmp p))=some (.mv (.t p)):=rfl;obtain ⟨v,hv,jn⟩:=He (P:=P) (o:={ dst:=some d,op:=.assign (.tmp p),type:=ty,pos:=pos,after:=#[],guard:=none}) (w:=W) hr hG (by simpa [Bv] using ja);have oy:Value.string y=v:=hv _ (by simp [O.ev,Env.get]);subst oy;refine Ea rfl (Oper.wp_mono ?_ jn);rintro a' w' ⟨rfl,rfl⟩;exact hK
 ·intro l pre y W hi hlen;have hG:Good [] N ((d,.string y)::ρ) ((({ tmps:=a.tmps,defers:=[]}:Act).put (some p) (.string y)).put (some d) (.string y)):=
   (Ec h0 _ Hx ja).put (some d) _ (fun t ht=>by cases ht;exact hd)
  refine wpIn_mono (OG bd ir _ _ _ _ dF Hv Hw (hI.body _ y W hi hlen) hG) ?_;rintro e a' w' ⟨aw,_,hq⟩;cases e with
  | normal=>exact hq
  | _=>exact hq.elim
 ·intro D xs W hD hS hi hh;exact done D xs W hD hi hh _ ⟨hg.size,by simp [hg.defers],hg.get⟩
 ·intro D c pre W _ _ hh;exact hh.elim
end
end Go.W