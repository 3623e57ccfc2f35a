/- Texts that the last file stands on. -/
import Derived.Deep.Quiet
import Derived.WalkKit
import Derived.Test.YtekkkjbjnhipkaaGreatDoorProg
import Derived.TacticsIn
import Derived.OrdersIn
import Derived.RangeFuncFrom
import Derived.RangeFuncWrites
import Derived.RangeFuncLeaves
import Derived.RangeFuncCalls
import Derived.IntWalk
import Derived.KernelRfl
import Derived.ProofKit
import Derived.SizedLaws
import Derived.Maps.RangeRun
set_option linter.unusedSimpArgs false
set_option linter.unusedVariables false
set_option maxRecDepth 100000
namespace Go.W
abbrev Ψ:=@_root_.id
abbrev Ξ:=@List.getElem?_eq_getElem
abbrev Θ:=@Option.bind_eq_some_iff
abbrev Δ:=@Option.map_eq_some_iff
abbrev Ω:=@List.drop_eq_getElem_cons
section
open Go
def ro(P:Program)(w:World){α:Type}:Sem α->Option α
 |.pure a=>some a
 |.load _ a k=>match w.cell? a with |some v=>ro P w (k v) |none=>none
 |.shape r k=>ro P w (k (w.shape? r))
 |.frozen a k=>ro P w (k (w.frozen? a))
 |.getObj r k=>match w.heap[r]? with |some (.cells ..)=>none |some o=>ro P w (k o) |none=>none
 |.program k=>ro P w (k P)
 |.mark _ k=>ro P w k
 |.store ..=>none
 |.new ..=>none
 |.freeze ..=>none
 |.setObj ..=>none
 |.choose ..=>none
 |.sys ..=>none
 |.halt _=>none
theorem oL{P:Program}{w:World}{α:Type}{s:Sem α}{a:α}(h:ro P w s=some a):s.run P w=.ok a w:=by
 induction s with
 |pure x=>simp only[ro,Option.some.injEq]at h;subst h;rfl
 |load m ad k ih=>
  simp only[ro]at h;cases hc:w.cell? ad with
  |none=>simp[hc]at h
  |some v=>simp only[hc]at h;simp only[Sem.run,hc];exact ih v h
 |shape r k ih=>simp only[ro]at h;simp only[Sem.run];exact ih _ h
 |frozen ad k ih=>simp only[ro]at h;simp only[Sem.run];exact ih _ h
 |getObj r k ih=>
  simp only[ro]at h;cases hc:w.heap[r]? with
  |none=>simp[hc]at h
  |some o=>cases o<;>simp only[hc]at h<;>first |cases h |(simp only[Sem.run,hc];exact ih _ h)
 |program k ih=>simp only[ro]at h;simp only[Sem.run];exact ih _ h
 |mark m k ih=>simp only[ro]at h;simp only[Sem.run];exact ih h
 |store=>simp[ro]at h
 |new=>simp[ro]at h
 |freeze=>simp[ro]at h
 |setObj=>simp[ro]at h
 |choose=>simp[ro]at h
 |sys=>simp[ro]at h
 |halt=>simp[ro]at h
theorem dF{P:Program}{w:World}{α β:Type}(s:Sem α)(f:α->Sem β):ro P w (s >>= f)=(ro P w s).bind (fun a=>ro P w (f a)):=by
 show ro P w (s.bind f)=_
 induction s with
 |pure x=>simp[Sem.bind,ro]
 |load m ad k ih=>simp only[Sem.bind,ro];cases w.cell? ad<;>simp[ih]
 |shape r k ih=>simp only[Sem.bind,ro,ih]
 |frozen r k ih=>simp only[Sem.bind,ro,ih]
 |getObj r k ih=>
  simp only[Sem.bind,ro];cases w.heap[r]? with
  |none=>rfl
  |some o=>cases o<;>simp[ih]
 |program k ih=>simp only[Sem.bind,ro,ih]
 |mark m k ih=>simp only[Sem.bind,ro,ih]
 |store=>rfl
 |new=>rfl
 |freeze=>rfl
 |setObj=>rfl
 |choose=>rfl
 |sys=>rfl
 |halt=>rfl
@[simp] theorem ig {P:Program} {w:World} {α:Type} (a:α):ro P w (pure a:Sem α)=some a:=rfl
@[simp] theorem Gw {P:Program} {w:World} {α β:Type} (f:α->β) (s:Sem α):ro P w (f <$> s)=(ro P w s).map f:=by
 show ro P w (s.bind (fun a=>.pure (f a)))=_;have:=dF (P:=P) (w:=w) s (fun a=>(pure (f a):Sem β));rw[show s.bind (fun a=>.pure (f a))=s >>= (fun a=>(pure (f a):Sem β))from rfl,this];cases ro P w s<;>rfl
theorem Kh{P:Program}{w:World}:ro P w program=some P:=rfl
theorem OV{P:Program}{w:World}(a:Addr)(m:Mode):ro P w (load a m)=w.cell? a:=by
 simp only[load,ro];cases w.cell? a<;>rfl
theorem OW{P:Program}{w:World}(t:TypeId):ro P w (typeInfo t)=P.info? t:=by
 simp only[typeInfo,dF,Kh,Option.bind_some];cases P.info? t<;>rfl
theorem jC{P:Program}{w:World}(t:TypeId):ro P w (underlying t)=P.underlying t:=by
 simp only[underlying,dF,Kh,Option.bind_some];cases P.underlying t<;>rfl
theorem wU{P:Program}{w:World}(t:TypeId):ro P w (sizeOf t)=(P.info? t).map (·.size):=by
 simp only[sizeOf,dF,OW];cases P.info? t<;>rfl
def uZ:TypeDesc->Bool
 |.struct _=>true
 |.array _ _=>true
 |_=>false
theorem D4{P:Program}{w:World}(t:TypeId):ro P w (isAgg t)=(P.underlying t).map uZ:=by
 simp only[isAgg,dF,jC];cases P.underlying t with
 |none=>rfl
 |some d=>cases d<;>rfl
theorem VO{P:Program}{w:World}(t:TypeId):ro P w (zeroValue t)=(P.info? t).bind (·.zero):=by
 simp only[zeroValue,dF,OW];cases P.info? t with
 |none=>rfl
 |some i=>cases h:i.zero<;>simp[h]<;>rfl
def my(w:World)(a:Addr)(i:Nat):Nat->Array Value->Option (Array Value)
 |0,acc=>some acc
 |n+1,acc=>match w.cell? (a.add i)with
  |some v=>my w a (i+1) n (acc.push v)
  |none=>none
theorem aeA{P:Program}{w:World}(a:Addr):∀(n i:Nat) (acc:Array Value),ro P w (loadCellsFrom a i n acc)=my w a i n acc:=by
 intro n
 induction n with
 |zero=>intro i acc;rfl
 |succ n ih=>
  intro i acc;simp only[loadCellsFrom,dF,OV,my];cases w.cell? (a.add i)with
  |none=>rfl
  |some v=>simp[ih]
theorem VP{P:Program}{w:World}(a:Addr)(n:Nat):ro P w (loadCells a n)=my w a 0 n #[]:=aeA a n 0 #[]
inductive O where
 |t (n:Nat)
 |c (v:Value)
 deriving Inhabited
abbrev Env:=List (Nat×Value)
def Env.get(ρ:Env)(t:Nat):Option Value:=
 match ρ with
 |[]=>none
 |(s,v)::r=>if s=t then some v else Env.get r t
def Env.put(ρ:Env)(d:Option Nat)(v:Value):Env:=
 match d with
 |none=>ρ
 |some d=>(d,v)::ρ
def Env.aI(ρ:Env):List Nat->Env
 |[]=>[]
 |t::ts=>match ρ.get t with
  |some v=>(t,v)::Env.aI ρ ts
  |none=>Env.aI ρ ts
def O.ev(ρ:Env):O->Option Value
 |.t n=>ρ.get n
 |.c v=>some v
def bI:Operand->O
 |.tmp t=>.t t
 |.const v=>.c v
 |.global g=>.c (.pointer (some ⟨g,0,none⟩))
 |.func f=>.c (.func (.func f) #[] #[])
def gW(ρ:Env):List O->Option (List Value)
 |[]=>some []
 |x::xs=>match x.ev ρ,gW ρ xs with
  |some v,some vs=>some (v::vs)
  |_,_=>none
inductive D5 where
 |bool |ptr |slice |iface |map |func
 deriving DecidableEq,Inhabited
inductive yF where
 |int |str |bool
 deriving DecidableEq,Inhabited
inductive R where
 |mv (x:O)
 |nn (x:O)
 |fa (off:Nat) (x:O)
 |l1 (x:O)
 |ln (n:Nat) (x:O)
 |bi (op:BinOp) (x y:O)
 |eq (k:D5) (neg:Bool) (x y:O)
 |no (x:O)
 |ng (x:O)
 |cv (k:IntKind) (x:O)
 |len (x:O)
 |D6 (x:O)
 |yG (x:O)
 |cap (x:O)
 |ia (sz:Nat) (s i:O)
 |D7 (s i:O)
 |fl (off:Nat) (x:O)
 |D8 (off n:Nat) (x:O)
 |sl (sz:Nat) (x:O) (lo hi mx:Option O)
 |D9 (x:O) (lo hi:Option O)
 |bd (zero:Array Value) (parts:List (Nat×Nat×O))
 |pk (c a b:O)
 |ex (i:Nat) (x:O)
 |mi (t:Nat) (x:O)
 |mm (mx:Bool) (x y:O)
 |BS (neg:Bool) (fs:List (Nat×yF)) (x y:O)
 |mf (fn:Fn) (fst cs:List O)
 deriving Inhabited
def OX:Value->Option Value
 |.pointer (some a)=>some (.pointer (some a))
 |.iface t v=>some (.iface t v)
 |.func (.func f) a b=>some (.func (.func f) a b)
 |_=>none
def OY(off:Nat):Value->Option Value
 |.pointer (some a)=>some (.pointer (some (a.add off)))
 |_=>none
def Ea(w:World):Value->Option Value
 |.pointer (some a)=>w.cell? a
 |_=>none
def f'(w:World)(n:Nat):Value->Option Value
 |.pointer (some a)=>(my w a 0 n #[]).map .agg
 |_=>none
def As(op:BinOp)(k:IntKind)(a b:Int):Option Value:=
 match op with
 |.add=>some (.int k (k.wrap (a+b)))
 |.sub=>some (.int k (k.wrap (a-b)))
 |.mul=>some (.int k (k.wrap (a*b)))
 |.quo=>if b=0 then none else some (.int k (k.wrap (a.tdiv b)))
 |.rem=>if b=0 then none else some (.int k (a.tmod b))
 |.and=>some (.int k (k.wrap ((BitVec.ofInt k.bits a &&& BitVec.ofInt k.bits b).toNat)))
 |.or=>some (.int k (k.wrap ((BitVec.ofInt k.bits a ||| BitVec.ofInt k.bits b).toNat)))
 |.xor=>some (.int k (k.wrap ((BitVec.ofInt k.bits a ^^^ BitVec.ofInt k.bits b).toNat)))
 |.andNot=>none
 |.eql=>some (.bool (a == b))
 |.neq=>some (.bool (a != b))
 |.lss=>some (.bool (decide (a<b)))
 |.leq=>some (.bool (decide (a<=b)))
 |.gtr=>some (.bool (decide (a>b)))
 |.geq=>some (.bool (decide (a>=b)))
 |.shl=>none
 |.shr=>none
def Gy(op:BinOp)(k:IntKind)(x y:Int):Option Value:=
 if y<0 then none else
 match op with
 |.shl=>some (.int k (k.wrap (x*2 ^ (min y.toNat k.bits))))
 |.shr=>some (.int k (x.fdiv (2 ^ (min y.toNat k.bits))))
 |_=>none
def OZ(op:BinOp)(x y:ByteArray):Option Value:=
 match op with
 |.add=>if((x.size+y.size:Nat):Int)>IntKind.i64.max then none else some (.string (x++y))
 |.eql=>some (.bool (x.toList == y.toList))
 |.neq=>some (.bool !(x.toList == y.toList))
 |.lss=>some (.bool (Op.bytesLess x.toList y.toList))
 |.leq=>some (.bool (Op.bytesLess x.toList y.toList||x.toList == y.toList))
 |.gtr=>some (.bool !(Op.bytesLess x.toList y.toList||x.toList == y.toList))
 |.geq=>some (.bool !(Op.bytesLess x.toList y.toList))
 |_=>none
def Au(op:BinOp):Value->Value->Option Value
 |.int k a,.int k' b=>match op with
  |.shl=>Gy op k a b
  |.shr=>Gy op k a b
  |_=>if k=k' then As op k a b else none
 |.string a,.string b=>OZ op a b
 |_,_=>none
def Av(k:D5):Value->Value->Option Bool
 |.bool a,.bool b=>if k=.bool then some (a == b)else none
 |.pointer none,.pointer b=>if k=.ptr then some b.isNone else none
 |.pointer (some _),.pointer none=>if k=.ptr then some false else none
 |.slice none _ _,.slice b _ _=>if k=.slice then some b.isNone else none
 |.slice (some _) _ _,.slice none _ _=>if k=.slice then some false else none
 |.map none,.map b=>if k=.map then some b.isNone else none
 |.map (some _),.map none=>if k=.map then some false else none
 |.nilIface,.iface _ _=>if k=.iface then some false else none
 |.iface _ _,.nilIface=>if k=.iface then some false else none
 |.nilFunc,.nilFunc=>if k=.func then some true else none
 |.nilFunc,.func _ _ _=>if k=.func then some false else none
 |.func _ _ _,.nilFunc=>if k=.func then some false else none
 |_,_=>none
def O0:Value->Option Value
 |.bool b=>some (.bool !b)
 |_=>none
def O1:Value->Option Value
 |.int k n=>some (.int k (k.wrap (0-n)))
 |_=>none
def O3(k:IntKind):Value->Option Value
 |.int _ n=>some (.int k (k.wrap n))
 |_=>none
def Pa:Value->Option Value
 |.slice _ n _=>some (.int .i64 n)
 |_=>none
def Pb:Value->Option Value
 |.string s=>some (.int .i64 s.size)
 |_=>none
def Ki(w:World):Value->Option Value
 |.map none=>some (.int .i64 0)
 |.map (some r)=>match w.heap[r]? with
  |some (.map es _)=>some (.int .i64 es.size)
  |_=>none
 |_=>none
def Pc:Value->Option Value
 |.slice _ _ c=>some (.int .i64 c)
 |_=>none
def Pd(sz:Nat):Value->Value->Option Value
 |.slice (some a) len _,.int _ i=>if 0<=i/\i<len then some (.pointer (some (a.add (i.toNat*sz))))else none
 |_,_=>none
def Pe:Value->Value->Option Value
 |.string s,.int _ i=>if 0<=i then(s[i.toNat]?).map (fun b=>.int .u8 b.toNat)else none
 |_,_=>none
def Pf(off:Nat):Value->Option Value
 |.agg cs=>cs[off]?
 |_=>none
def Ph(off n:Nat):Value->Option Value
 |.agg cs=>some (.agg (cs.extract off (off+n)))
 |_=>none
def pQ(v:Option Value)(aeB y:Nat):Option Nat:=
 match v with
 |none=>some aeB
 |some (.int _ i)=>if 0<=i/\i<=y then some i.toNat else none
 |some _=>none
def Pj(sz:Nat)(x:Value)(lo hi mx:Option Value):Option Value:=
 match x with
 |.slice a len cap=>match pQ mx cap cap with
  |none=>none
  |some m=>match pQ hi len m with
   |none=>none
   |some h=>match pQ lo 0 h with
    |none=>none
    |some l=>some (.slice (if m=l then a else a.map (·.add (l*sz))) (h-l) (m-l))
 |_=>none
def Pk(x:Value)(lo hi:Option Value):Option Value:=
 match x with
 |.string s=>match pQ hi s.size s.size with
  |none=>none
  |some h=>match pQ lo 0 h with
   |none=>none
   |some l=>some (.string (s.extract l h))
 |_=>none
def lN(cells:Array Value):List (Nat×Nat×Value)->Option (Array Value)
 |[]=>some cells
 |(off,size,v)::rest=>
  if v.cells.size≠size||off+v.cells.size>cells.size then none
  else lN (v.cells.zipIdx.foldl (fun cs (c,j)=>cs.setIfInBounds (off+j) c) cells) rest
def Pm:Value->Value->Value->Option Value
 |.bool c,a,b=>some (if c then a else b)
 |_,_,_=>none
def u6(i:Nat):Value->Option Value
 |.tuple vs=>vs[i]?
 |_=>none
def Kj(mx:Bool):Value->Value->Option Value
 |.int k x,.int _ y=>some (.int k (if mx then(if y>x then y else x)else(if y<x then y else x)))
 |_,_=>none
def u7:yF->Value->Value->Option Bool
 |.int,.int k a,.int k' b=>if k=k' then some (a == b)else none
 |.str,.string a,.string b=>some (a.toList == b.toList)
 |.bool,.bool a,.bool b=>some (a == b)
 |_,_,_=>none
def Eb(xs ys:Array Value):List (Nat×yF)->Option Bool
 |[]=>some true
 |(o,k)::r=>match xs[o]?,ys[o]? with
  |some a,some b=>match u7 k a b,Eb xs ys r with
   |some c,some d=>some (c&&d)
   |_,_=>none
  |_,_=>none
def Ec(neg:Bool)(fs:List (Nat×yF)):Value->Value->Option Value
 |.agg xs,.agg ys=>(Eb xs ys fs).map fun r=>.bool (if neg then !r else r)
 |_,_=>none
def rK(ρ:Env):Option O->Option (Option Value)
 |none=>some none
 |some x=>match x.ev ρ with
  |some v=>some (some v)
  |none=>none
def nX(ρ:Env):List (Nat×Nat×O)->Option (List (Nat×Nat×Value))
 |[]=>some []
 |(o,n,x)::r=>match x.ev ρ,nX ρ r with
  |some v,some l=>some ((o,n,v)::l)
  |_,_=>none
def R.ev(w:World)(ρ:Env):R->Option Value
 |.mv x=>x.ev ρ
 |.nn x=>(x.ev ρ).bind OX
 |.fa off x=>(x.ev ρ).bind (OY off)
 |.l1 x=>(x.ev ρ).bind (Ea w)
 |.ln n x=>(x.ev ρ).bind (f' w n)
 |.bi op x y=>(x.ev ρ).bind fun a=>(y.ev ρ).bind fun b=>Au op a b
 |.eq k neg x y=>(x.ev ρ).bind fun a=>(y.ev ρ).bind fun b=>(Av k a b).map fun r=>.bool (if neg then !r else r)
 |.no x=>(x.ev ρ).bind O0
 |.ng x=>(x.ev ρ).bind O1
 |.cv k x=>(x.ev ρ).bind (O3 k)
 |.len x=>(x.ev ρ).bind Pa
 |.D6 x=>(x.ev ρ).bind Pb
 |.yG x=>(x.ev ρ).bind (Ki w)
 |.cap x=>(x.ev ρ).bind Pc
 |.ia sz s i=>(s.ev ρ).bind fun a=>(i.ev ρ).bind fun b=>Pd sz a b
 |.D7 s i=>(s.ev ρ).bind fun a=>(i.ev ρ).bind fun b=>Pe a b
 |.fl off x=>(x.ev ρ).bind (Pf off)
 |.D8 off n x=>(x.ev ρ).bind (Ph off n)
 |.sl sz x lo hi mx=>(x.ev ρ).bind fun a=>(rK ρ lo).bind fun l=>(rK ρ hi).bind fun h=>(rK ρ mx).bind fun m=>Pj sz a l h m
 |.D9 x lo hi=>(x.ev ρ).bind fun a=>(rK ρ lo).bind fun l=>(rK ρ hi).bind fun h=>Pk a l h
 |.bd zero parts=>(nX ρ parts).bind fun ps=>(lN zero ps).map .agg
 |.pk c a b=>(c.ev ρ).bind fun c=>(a.ev ρ).bind fun a=>(b.ev ρ).bind fun b=>Pm c a b
 |.ex i x=>(x.ev ρ).bind (u6 i)
 |.mi t x=>(x.ev ρ).map (.iface t)
 |.mm mx x y=>(x.ev ρ).bind fun a=>(y.ev ρ).bind fun b=>Kj mx a b
 |.BS neg fs x y=>(x.ev ρ).bind fun a=>(y.ev ρ).bind fun b=>Ec neg fs a b
 |.mf fn fst cs=>(gW ρ fst).bind fun f=>(gW ρ cs).map fun c=>.func fn f.toArray c.toArray
end
section
open Go
def jW(P:Program)(t:TypeId):Option Nat:=(P.info? t).map (·.size)
def Kk:Operand->Bool
 |.const _=>true
 |_=>false
def Pn:TypeDesc->Option D5
 |.bool=>some .bool
 |.pointer _=>some .ptr
 |.slice _=>some .slice
 |.interface _=>some .iface
 |.map _ _=>some .map
 |.func _ _ _=>some .func
 |_=>none
def Gz(P:Program)(fs:Array Field):List (Nat×Operand)->Option (List (Nat×Nat×O))
 |[]=>some []
 |(i,x)::r=>match fs[i]? with
  |some f=>match jW P f.type,Gz P fs r with
   |some n,some l=>some ((f.offset,n,bI x)::l)
   |_,_=>none
  |none=>none
def VQ(P:Program)(f:Field):Option (Nat×yF):=
 if f.name = "_" then none else
 match P.underlying f.type with
 |some (.int _)=>some (f.offset,.int)
 |some .string=>some (f.offset,.str)
 |some .bool=>some (f.offset,.bool)
 |_=>none
def GA(P:Program):List Field->Option (List (Nat×yF))
 |[]=>some []
 |f::fs=>match VQ P f,GA P fs with
  |some a,some l=>some (a::l)
  |_,_=>none
def Kl(P:Program)(t:TypeId):Option (List (Nat×yF)):=
 match P.underlying t with
 |some (.struct fs)=>if P.stoodInHeld t||P.eqGuardType P.depth t then none else GA P fs.toList
 |_=>none
def Po(P:Program)(fs:List Field):Bool:=fs.all fun f=>(jW P f.type).isSome
def dx(P:Program):Op->Option R
 |.move x=>some (.mv (bI x))
 |.assign x=>some (.mv (bI x))
 |.nilCheck x=>some (.nn (bI x))
 |.fieldAddr s x f=>match P.underlying s with
  |some (.struct fs)=>match fs[f]? with
   |some fd=>match jW P fd.type with
    |some (_+1)=>some (.fa fd.offset (bI x))
    |_=>none
   |none=>none
  |_=>none
 |.load t x=>match P.underlying t,jW P t with
  |some d,some n=>some (if uZ d then .ln n (bI x)else .l1 (bI x))
  |_,_=>none
 |.binOp op t x y _=>match P.underlying t with
  |some (.int _)=>some (.bi op (bI x) (bI y))
  |some .string=>some (.bi op (bI x) (bI y))
  |some d=>match Pn d,op with
   |some k,.eql=>if(k=.iface||k=.ptr) && !(Kk x||Kk y)then none else some (.eq k false (bI x) (bI y))
   |some k,.neq=>if(k=.iface||k=.ptr) && !(Kk x||Kk y)then none else some (.eq k true (bI x) (bI y))
   |none,.eql=>(Kl P t).map fun fs=>.BS false fs (bI x) (bI y)
   |none,.neq=>(Kl P t).map fun fs=>.BS true fs (bI x) (bI y)
   |_,_=>none
  |none=>none
 |.unOp .not _ x=>some (.no (bI x))
 |.unOp .neg _ x=>some (.ng (bI x))
 |.convert s d x=>match P.underlying s,P.underlying d with
  |some (.int _),some (.int k)=>some (.cv k (bI x))
  |_,_=>none
 |.call { callee:=.builtin .len,args,argTypes}=>match argTypes[0]?,args.toList with
  |some t,[x]=>match P.underlying t with
   |some (.slice _)=>some (.len (bI x))
   |some .string=>some (.D6 (bI x))
   |some (.map _ _)=>some (.yG (bI x))
   |_=>none
  |_,_=>none
 |.call { callee:=.builtin .cap,args,argTypes}=>match argTypes[0]?,args.toList with
  |some t,[x]=>match P.underlying t with
   |some (.slice _)=>some (.cap (bI x))
   |_=>none
  |_,_=>none
 |.call { callee:=.builtin .min,args,..}=>match args.toList with
  |[x,y]=>some (.mm false (bI x) (bI y))
  |_=>none
 |.call { callee:=.builtin .max,args,..}=>match args.toList with
  |[x,y]=>some (.mm true (bI x) (bI y))
  |_=>none
 |.indexAddr t x i=>match P.underlying t with
  |some (.slice e)=>(jW P e).map fun n=>.ia n (bI x) (bI i)
  |_=>none
 |.index t x i=>match P.underlying t with
  |some .string=>some (.D7 (bI x) (bI i))
  |_=>none
 |.field t x f=>match P.underlying t with
  |some (.struct fs)=>match fs[f]? with
   |some fd=>match P.underlying fd.type,jW P fd.type with
    |some d,some n=>some (if uZ d then .D8 fd.offset n (bI x)else .fl fd.offset (bI x))
    |_,_=>none
   |none=>none
  |_=>none
 |.slice t x lo hi mx=>match P.underlying t with
  |some (.slice e)=>match jW P e with
   |some n=>if mx.isSome && !hi.isSome then none else some (.sl n (bI x) (lo.map bI) (hi.map bI) (mx.map bI))
   |none=>none
  |some .string=>if mx.isSome then none else some (.D9 (bI x) (lo.map bI) (hi.map bI))
  |_=>none
 |.build t parts=>match P.underlying t,(P.info? t).bind (·.zero)with
  |some (.struct fs),some z=>if Po P fs.toList then(Gz P fs parts.toList).map (.bd z.cells)else none
  |_,_=>none
 |.pick c a b=>some (.pk (bI c) (bI a) (bI b))
 |.extract x i=>some (.ex i (bI x))
 |.makeInterface t x=>match P.underlying t with
  |some (.interface _)=>none
  |some _=>some (.mi t (bI x))
  |none=>none
 |.makeFunc fn f c=>some (.mf fn (f.toList.map bI) (c.toList.map bI))
 |_=>none
section
variable {P:Program} {w:World}
theorem qL(s:Sem Value):ro P w (do pure (.value (<- s)):Sem Next)=(ro P w s).map Next.value:=by
 rw[dF];cases ro P w s<;>rfl
theorem aeC{op:BinOp}{k:IntKind}{a b:Int}{v:Value}(h:As op k a b=some v)(x:TypeId) :
   ro P w (binOp op x (.int k a) (.int k b))=some v:=by
 cases op
 all_goals first
  |(simp only[As,Option.some.injEq]at h;subst h;simp only[binOp,Op.intArith,Op.intBits,Op.intCmp,ne_eq,not_true_eq_false,if_false];rfl)
  | (simp only [As] at h;split at h
     ·cases h
     ·rename_i hb;simp only[Option.some.injEq]at h;subst h
      simp[binOp,Op.intDiv,hb])
  |(simp[As]at h)
theorem aeD{op:BinOp}{x y:Value}{v:Value}(h:Au op x y=some v)(t:TypeId):ro P w (binOp op t x y)=some v:=by
 unfold Au at h
 split at h
 .rename_i k a k' b
  split at h
  .unfold Gy at h
   split at h
   .cases h
   .rename_i hb;simp only[Option.some.injEq]at h;subst h;simp[binOp,Op.shift,hb]
  .unfold Gy at h
   split at h
   .cases h
   .rename_i hb;simp only[Option.some.injEq]at h;subst h;simp[binOp,Op.shift,hb]
  .rename_i h1 h2
   split at h
   .rename_i hk;subst hk;exact aeC h t
   .cases h
 .rename_i a b;unfold OZ at h;cases op<;>simp only at h<;>try(cases h)
  all_goals first
   |rfl
   | (split at h
      ·cases h
      ·rename_i hb;cases h;simp only[binOp,Op.stringOp];rw[if_neg hb];rfl)
 .cases h
theorem aeE{op:BinOp}{x y:Operand}{a b:Value}{t:TypeId}{v:Value}(h:Au op a b=some v):ro P w (eqGuard op t x y a b)=some ():=by
 unfold Au at h
 split at h
 .cases op<;>rfl
 .cases op<;>rfl
 .cases h
theorem VR{k:D5}{d:TypeDesc}{t:TypeId}{a b:Value}{r:Bool}(hd:P.underlying t=some d)(hk:Pn d=some k)(h:Av k a b=some r) :
   ro P w (Op.equal t a b)=some r:=by
 unfold Op.equal Op.maxDepth;unfold Op.equalIn;rw[dF,jC,hd,Option.bind_some];unfold Av at h
 split at h<;>(try split at h)<;>(try cases h)<;>rename_i wV<;>subst wV<;>(cases d<;>simp only[Pn,Option.some.injEq,reduceCtorEq]at hk)<;>rfl
theorem VS{k:D5}{a b:Value}{r:Bool}(h:Av k a b=some r)(op:BinOp)(t:TypeId)(x y:Operand):ro P w (eqGuard op t x y a b)=some ():=by
 unfold Av at h
 split at h<;>(try split at h)<;>(try cases h)<;>(cases op<;>rfl)
theorem VT{k:D5}{a b:Value}{r:Bool}(h:Av k a b=some r)(t:TypeId) :
   binOp .eql t a b=(do pure (.bool (<- Op.equal t a b)))/\binOp .neq t a b=(do pure (.bool (!(<- Op.equal t a b)))):=by
 unfold Av at h
 split at h<;>(try split at h)<;>(try cases h)<;>exact⟨rfl,rfl⟩
theorem Pp{ρ:Env}{e:Operand->Value}(he:∀x u,(bI x).ev ρ=some u->e x=u):∀(l:List Operand) (vs:List Value),gW ρ (l.map bI)=some vs->l.map e=vs:=by
 intro l
 induction l with
 |nil=>intro vs h;simp only[List.map_nil,gW,Option.some.injEq]at h;subst h;rfl
 |cons x l ih=>
  intro vs h;simp only[List.map_cons,gW]at h
  split at h
  .rename_i v GB h1 h2;simp only[Option.some.injEq]at h;subst h;simp[he x v h1,ih GB h2]
  .cases h
theorem GC{ρ:Env}{e:Operand->Value}(he:∀x u,(bI x).ev ρ=some u->e x=u)(x:Option Operand)(v:Option Value)(h:rK ρ (x.map bI)=some v):x.map e=v:=by
 cases x with
 |none=>simp only[Option.map_none,rK,Option.some.injEq]at h;subst h;rfl
 |some x=>
  simp only[Option.map_some,rK]at h
  split at h
  .rename_i u hu;simp only[Option.some.injEq]at h;subst h;simp[he x u hu]
  .cases h
theorem yH{x:Value}{y:Nat}{c:BoundsCode}{d n:Nat}(h:pQ (some x) d y=some n):ro P w (Instr.sliceBound x y c)=some n:=by
 unfold pQ at h
 split at h
 .rename_i he;cases he
 .rename_i k i he;simp only[Option.some.injEq]at he;subst he
  split at h
  .rename_i hi;simp only[Option.some.injEq]at h;subst h;simp[Instr.sliceBound,asIntOf,dF,hi]
  .cases h
 .cases h
theorem VU{isS:Bool}{len cap m h l:Nat}{lo hi mx:Option Value}(h1:pQ mx cap cap=some m)(h2:pQ hi len m=some h)(h3:pQ lo 0 h=some l)
   (hm:mx.isSome=true->hi.isSome=true):ro P w (Instr.sliceBounds isS len cap lo hi mx)=some (l,h,m):=by
 unfold Instr.sliceBounds;cases mx with
 |none=>
  simp only[pQ,Option.some.injEq]at h1;subst h1;cases hi with
  |none=>
   simp only[pQ,Option.some.injEq]at h2;subst h2;cases lo with
   |none=>simp only[pQ,Option.some.injEq]at h3;subst h3;simp[dF]
   |some v=>simp[dF,yH h3]
  |some u=>
   cases lo with
   |none=>simp only[pQ,Option.some.injEq]at h3;subst h3;simp[dF,yH h2]
   |some v=>simp[dF,yH h3,yH h2]
 |some x=>
  cases hi with
  |none=>simp at hm
  |some u=>
   cases lo with
   |none=>simp only[pQ,Option.some.injEq]at h3;subst h3;simp[dF,yH h2,yH h1]
   |some v=>simp[dF,yH h3,yH h2,yH h1]
theorem aeF{t:TypeId}{cs:Array Value}{off n:Nat}{d:TypeDesc}{v:Value}(hd:P.underlying t=some d)(hn:jW P t=some n)
   (h:(if uZ d then some (.agg (cs.extract off (off+n)))else cs[off]?)=some v):ro P w (part t cs off)=some v:=by
 unfold part;rw[dF,D4,hd];simp only[Option.map_some,Option.bind_some];cases hb:uZ d with
 |true=>
  simp only[hb,if_true,Option.some.injEq]at h;subst h;unfold jW at hn;simp only[if_true,dF,wU,hn,Option.bind_some,ig]
 |false=>
  simp only[hb,Bool.false_eq_true,if_false]at h;simp only[Bool.false_eq_true,if_false,h,ig]
theorem aeG{P:Program}{fs:Array Field}{pl:Nat→Option (Nat×Nat)}(fI:∀ i f n,fs[i]? = some f→jW P f.type=some n→pl i=some (f.offset,n))
   {ρ:Env} {e:Operand->Value} (he:∀x u,(bI x).ev ρ=some u->e x=u):∀(parts:List (Nat×Operand)) (ps:List (Nat×Nat×O)) (vs:List (Nat×Nat×Value)) (cells out:Array Value),
   Gz P fs parts=some ps->nX ρ ps=some vs->lN cells vs=some out->Instr.fill pl cells (parts.map fun p=>(p.1,e p.2))=some out:=by
 intro parts
 induction parts with
 |nil=>
  intro ps vs cells out h1 h2 h3;simp only[Gz,Option.some.injEq]at h1;subst h1;simp only[nX,Option.some.injEq]at h2;subst h2
  simpa[lN,Instr.fill]using h3
 |cons p parts ih=>
  intro ps vs cells out h1 h2 h3;obtain⟨i,x⟩:=p;simp only[Gz]at h1
  split at h1
  .rename_i f hf
   split at h1
   .rename_i n l hn hl;simp only[Option.some.injEq]at h1;subst h1;simp only[nX]at h2
    split at h2
    .rename_i v l' hv wW;simp only[Option.some.injEq]at h2;subst h2;simp only[lN]at h3
     split at h3
     .cases h3
     .rename_i hc;simp only[List.map_cons,Instr.fill,fI i f n hf hn,he x v hv];rw[if_neg hc];exact ih l l' _ out hl wW h3
    .cases h2
   .cases h1
  .cases h1
theorem aeH:∀ (fs:List Field),Po P fs=true→∃ l:List (Nat×Nat),ro P w (fs.mapM fun f=>do pure (f.offset,← sizeOf f.type):Sem (List (Nat×Nat)))=some l ∧
   ∀(i:Nat) (f:Field) (n:Nat),fs[i]?=some f->jW P f.type=some n->l[i]?=some (f.offset,n):=by
 intro fs
 induction fs with
 |nil=>intro _;exact⟨[],by simp[List.mapM_nil],by simp⟩
 |cons f fs ih=>
  intro h;simp only[Po,List.all_cons,Bool.and_eq_true]at h;obtain⟨h1,h2⟩:=h;obtain⟨l,hl,gX⟩:=ih h2;obtain⟨n,hn⟩:=Option.isSome_iff_exists.1 h1;refine⟨(f.offset,n)::l,?_,?_⟩
  .unfold jW at hn;simp only[List.mapM_cons,dF,wU,hn,Option.bind_some,ig,hl]
  .intro i g m hg hm;cases i with
   |zero=>
    simp only[List.getElem?_cons_zero,Option.some.injEq]at hg;subst hg;rw[hn]at hm;cases hm;rfl
   |succ i=>exact gX i g m (by simpa using hg) hm
theorem aeI(d:Nat)(t:TypeId)(xs ys:Array Value)(fs:Array Field)(ht:P.underlying t=some (.struct fs))(hp:P.stoodInHeld t=false) :
   ro P w (Op.equalIn (d+1) t (.agg xs) (.agg ys))=ro P w (Op.eqFields d xs ys fs.toList):=by
 simp only[Op.equalIn,dF,jC,ht,Option.bind_some,Kh,hp,Bool.false_eq_true,if_false];rw[<- Array.forIn_toList];generalize fs.toList=fs;clear ht
 induction fs with
 |nil=>simp[Op.eqFields]
 |cons f fs ih=>
  simp only[List.forIn_cons,Op.eqFields];by_cases hn:f.name ≠ "_"
  .rw[if_pos hn,if_pos hn];simp only[dF];cases ro P w (part f.type xs f.offset)with
   |none=>rfl
   |some a=>
    simp only[Option.bind_some];cases ro P w (part f.type ys f.offset)with
    |none=>rfl
    |some b=>
     simp only[Option.bind_some];cases ro P w (Op.equalIn d f.type a b)with
     |none=>rfl
     |some r=>
      cases r
      .simp only[Option.bind_some,Bool.not_false,if_true,ig]
      .simp only[Option.bind_some,Bool.not_true,Bool.false_eq_true,if_false,ig];exact ih
  .rw[if_neg hn,if_neg hn];exact ih
theorem aeJ(d:Nat)(xs ys:Array Value):∀(fs:List Field) (l:List (Nat×yF)) (r:Bool),GA P fs=some l->Eb xs ys l=some r->ro P w (Op.eqFields (d+1) xs ys fs)=some r:=by
 intro fs
 induction fs with
 |nil=>
  intro l r h1 h2;simp only[GA,Option.some.injEq]at h1;subst h1;simp only[Eb,Option.some.injEq]at h2;subst h2;rfl
 |cons f fs ih=>
  intro l r h1 h2;simp only[GA]at h1
  split at h1
  .rename_i a l' ha hl;simp only[Option.some.injEq]at h1;subst h1;unfold VQ at ha
   split at ha
   .cases ha
   .rename_i hn;obtain⟨o,k⟩:=a;simp only[Eb]at h2
    split at h2
    .rename_i a b oM hyb
     split at h2
     .rename_i c d' hc ja;simp only [Option.some.injEq] at h2;subst h2;have key:∀ (dd:TypeDesc),P.underlying f.type=some dd→uZ dd=false→f.offset=o→ro P w (Op.equalIn (d+1) f.type a b)=some c →
          ro P w (Op.eqFields (d+1) xs ys (f::fs))=some (c&&d'):=by
       intro dd hdd aeK eU he;simp only[Op.eqFields];rw[if_pos (by simpa using hn)];have hp:∀(zs:Array Value) (v:Value),zs[o]?=some v->ro P w (part f.type zs f.offset)=some v:=by
        intro zs v hv;unfold part;rw[dF,D4,hdd];simp only[Option.map_some,Option.bind_some,aeK,Bool.false_eq_true,if_false,eU,hv,ig]
       simp only[dF,hp xs a oM,hp ys b hyb,he,Option.bind_some];cases c with
       |true=>simp only[Bool.not_true,Bool.false_eq_true,if_false,Bool.true_and];exact ih l' d' hl ja
       |false=>rfl
      split at ha
      .rename_i kk hk;simp only[Option.some.injEq,Prod.mk.injEq]at ha;obtain⟨h3,rfl⟩:=ha;cases a with
       |int k1 a1=>cases b with
        |int k2 b1=>
         simp only[u7]at hc
         split at hc
         .rename_i wV;subst wV;simp only[Option.some.injEq]at hc;subst hc;refine key _ hk rfl h3 ?_;unfold Op.equalIn;simp only[dF,jC,hk,Option.bind_some,if_true,ig]
         .cases hc
        |_=>simp[u7]at hc
       |_=>cases b<;>simp[u7]at hc
      .rename_i hk;simp only[Option.some.injEq,Prod.mk.injEq]at ha;obtain⟨h3,rfl⟩:=ha;cases a with
       |string s1=>cases b with
        |string s2=>
         simp only[u7,Option.some.injEq]at hc;subst hc;refine key _ hk rfl h3 ?_;unfold Op.equalIn;simp only[dF,jC,hk,Option.bind_some,ig];rw[beq_toListBytes]
        |_=>simp[u7]at hc
       |_=>cases b<;>simp[u7]at hc
      .rename_i hk;simp only[Option.some.injEq,Prod.mk.injEq]at ha;obtain⟨h3,rfl⟩:=ha;cases a with
       |bool s1=>cases b with
        |bool s2=>
         simp only[u7,Option.some.injEq]at hc;subst hc;refine key _ hk rfl h3 ?_;unfold Op.equalIn;simp only[dF,jC,hk,Option.bind_some,ig]
        |_=>simp[u7]at hc
       |_=>cases b<;>simp[u7]at hc
      .cases ha
     .cases h2
    .cases h2
  .cases h1
theorem VV{t:TypeId}{l:List (Nat×yF)}(h:Kl P t=some l){neg:Bool}{a b v:Value}(hv:Ec neg l a b=some v)(op:BinOp)(mW:op=if neg then .neq else .eql)(x y:Operand) :
   ((ro P w (eqGuard op t x y a b)).bind fun _=>ro P w (binOp op t a b))=some v:=by
 unfold Kl at h
 split at h
 .rename_i fs iR
  split at h
  .cases h
  .rename_i hc;simp only[Bool.or_eq_true,not_or,Bool.not_eq_true]at hc;cases a with
   |agg xs=>cases b with
    |agg ys=>
     simp only[Ec]at hv;obtain⟨r,hr,hv⟩:=Δ.1 hv;have he:ro P w (Op.equal t (.agg xs) (.agg ys))=some r:=by
      unfold Op.equal Op.maxDepth;rw[aeI _ t xs ys fs iR hc.1];exact aeJ _ xs ys _ l r h hr
     have hg:ro P w (eqGuard op t x y (.agg xs) (.agg ys))=some ():=by
      have e1:P.eqGuardType P.depth t=false:=hc.2;cases op<;>simp[eqGuard,dF,Kh,e1]
     rw[hg,Option.bind_some];subst hv;cases neg with
     |false=>subst mW;simp only[Bool.false_eq_true,if_false,binOp,dF,he,Option.bind_some,ig]
     |true=>subst mW;simp only[if_true,binOp,dF,he,Option.bind_some,ig]
    |_=>simp[Ec]at hv
   |_=>cases b<;>simp[Ec]at hv
 .cases h
theorem VW{o:Oper}{r:R}(h:dx P o.op=some r){ρ:Env}{e:Operand→Value}(he:∀ x u,(bI x).ev ρ=some u→e x=u){v:Value}(hv:r.ev w ρ=some v) :
   ro P w (execOp e o)=some (.value v):=by
 obtain⟨dst,op,ty,pos,after,guard⟩:=o;simp only at h;unfold execOp;simp only;unfold dx at h
 split at h
 .simp only[Option.some.injEq]at h;subst h;simp only[R.ev]at hv;simp[he _ _ hv]
 .simp only[Option.some.injEq]at h;subst h;simp only[R.ev]at hv;simp[he _ _ hv]
 .
  simp only[Option.some.injEq]at h;subst h;simp only[R.ev]at hv;rename_i x;obtain⟨u,hu,hv⟩:=Θ.1 hv;simp only;rw[he _ _ hu];unfold OX at hv
  split at hv<;>first |(simp only[Option.some.injEq]at hv;subst hv;rfl) |cases hv
 .
  rename_i s x f
  split at h
  .rename_i fs iR
   split at h
   .rename_i fd Ed
    split at h
    .rename_i n hn;simp only[Option.some.injEq]at h;subst h;simp only[R.ev]at hv;obtain⟨u,hu,hv⟩:=Θ.1 hv;rw[qL,he _ _ hu];unfold OY at hv
     split at hv
     .rename_i a;simp only[Option.some.injEq]at hv;subst hv;unfold jW at hn;simp only[Instr.fieldAt,dF,jC,iR,Option.bind_some,Ed,Instr.sureAddr,ig,fieldPlace,wU,hn];simp
     .cases hv
    .cases h
   .cases h
  .cases h
 .
  rename_i t x
  split at h
  .rename_i d n hd hn;simp only[Option.some.injEq]at h;subst h;rw[qL];cases hb:uZ d with
   |true=>
    simp only[hb,if_true,R.ev]at hv;obtain⟨u,hu,hv⟩:=Θ.1 hv;rw[he _ _ hu];unfold f' at hv
    split at hv
    .rename_i a;unfold jW at hn;simp only[Instr.loadAt,Instr.sureAddr,dF,ig,Option.bind_some,loadVar,D4,hd,Option.map_some,hb,if_true,wU,hn,VP];obtain⟨cs,bT,hv⟩:=Δ.1 hv;subst hv;simp[bT]
    .cases hv
   |false=>
    simp only[hb,Bool.false_eq_true,if_false,R.ev]at hv;obtain⟨u,hu,hv⟩:=Θ.1 hv;rw[he _ _ hu];unfold Ea at hv
    split at hv
    .rename_i a;simp only[Instr.loadAt,Instr.sureAddr,dF,ig,Option.bind_some,loadVar,D4,hd,Option.map_some,hb,Bool.false_eq_true,if_false,OV,hv]
    .cases hv
  .cases h
 .
  rename_i op t x y yt;rw[qL,dF];have VX:∀{v},(R.bi op (bI x) (bI y)).ev w ρ=some v->((ro P w (eqGuard op t x y (e x) (e y))).bind fun _=>ro P w (binOp op t (e x) (e y)))=some v:=by
   intro v hv;simp only[R.ev]at hv;obtain⟨a,ha,hv⟩:=Θ.1 hv;obtain⟨b,hb,hv⟩:=Θ.1 hv;rw[he _ _ ha,he _ _ hb,aeE hv,Option.bind_some,aeD hv]
  split at h
  .simp only[Option.some.injEq]at h;subst h;rw[VX hv];rfl
  .simp only[Option.some.injEq]at h;subst h;rw[VX hv];rfl
  .rename_i d BT GD hd
   split at h
   .rename_i k hk
    split at h
    .cases h
    .rename_i hg;simp only[Option.some.injEq]at h;subst h;simp only[R.ev]at hv;obtain⟨a,ha,hv⟩:=Θ.1 hv;obtain⟨b,hb,hv⟩:=Θ.1 hv;obtain⟨r,hr,hv⟩:=Δ.1 hv;subst hv;rw[he _ _ ha,he _ _ hb,VS hr,Option.bind_some,(VT hr t).1,dF,VR hd hk hr];simp
   .rename_i k hk
    split at h
    .cases h
    .rename_i hg;simp only[Option.some.injEq]at h;subst h;simp only[R.ev]at hv;obtain⟨a,ha,hv⟩:=Θ.1 hv;obtain⟨b,hb,hv⟩:=Θ.1 hv;obtain⟨r,hr,hv⟩:=Δ.1 hv;subst hv;rw[he _ _ ha,he _ _ hb,VS hr,Option.bind_some,(VT hr t).2,dF,VR hd hk hr];simp
   .obtain⟨l,hl,h1⟩:=Δ.1 h;subst h1;simp only[R.ev]at hv;obtain⟨a,ha,hv⟩:=Θ.1 hv;obtain⟨b,hb,hv⟩:=Θ.1 hv;rw[he _ _ ha,he _ _ hb,VV hl hv .eql rfl x y];rfl
   .obtain⟨l,hl,h1⟩:=Δ.1 h;subst h1;simp only[R.ev]at hv;obtain⟨a,ha,hv⟩:=Θ.1 hv;obtain⟨b,hb,hv⟩:=Θ.1 hv;rw[he _ _ ha,he _ _ hb,VV hl hv .neq rfl x y];rfl
   .cases h
  .cases h
 .
  simp only[Option.some.injEq]at h;subst h;simp only[R.ev]at hv;obtain⟨u,hu,hv⟩:=Θ.1 hv;rw[qL,he _ _ hu];unfold O0 at hv
  split at hv<;>first |(simp only[Option.some.injEq]at hv;subst hv;rfl) |cases hv
 .
  simp only[Option.some.injEq]at h;subst h;simp only[R.ev]at hv;obtain⟨u,hu,hv⟩:=Θ.1 hv;rw[qL,he _ _ hu];unfold O1 at hv
  split at hv<;>first |(simp only[Option.some.injEq]at hv;subst hv;rfl) |cases hv
 .
  rename_i s d x
  split at h
  .rename_i ks kd hs hd;simp only[Option.some.injEq]at h;subst h;simp only[R.ev]at hv;obtain⟨u,hu,hv⟩:=Θ.1 hv;rw[qL,he _ _ hu];unfold O3 at hv
   split at hv
   .simp only[Option.some.injEq]at hv;subst hv;simp only[convert,dF,jC,hs,hd,Option.bind_some];rfl
   .cases hv
  .cases h
 .
  rename_i args argTypes;have key:∀ t x,argTypes[0]? = some t→args.toList=[x]→∀ (q:Value) (n:Value),e x=q→ro P w (Builtin.len_ argTypes ty #[q])=some n →
      ro P w (do let d <- resolve e { callee:=Callee.builtin Builtin.len,args:=args,argTypes:=argTypes} ty;invoke d.target d.args)=some (.value n):=by
   intro t x ht hx q n hq hn;have db:args=#[x]:=by cases args;simp_all
   subst db;simp only[resolve,dF,ig,Option.bind_some,invoke,builtin,List.map_toArray,List.map_cons,List.map_nil,hq,hn]
  split at h
  .rename_i t x ht hx
   split at h
   .rename_i e' hu;simp only[Option.some.injEq]at h;subst h;simp only[R.ev]at hv;obtain⟨u,BU,hv⟩:=Θ.1 hv;refine key t x ht hx u v (he _ _ BU) ?_;unfold Pa at hv
    split at hv
    .simp only[Option.some.injEq]at hv;subst hv;simp[Builtin.len_,ht,dF,jC,hu,goInt]
    .cases hv
   .rename_i hu;simp only[Option.some.injEq]at h;subst h;simp only[R.ev]at hv;obtain⟨u,BU,hv⟩:=Θ.1 hv;refine key t x ht hx u v (he _ _ BU) ?_;unfold Pb at hv
    split at hv
    .simp only[Option.some.injEq]at hv;subst hv;simp[Builtin.len_,ht,dF,jC,hu,goInt]
    .cases hv
   .rename_i k' e' hu;simp only[Option.some.injEq]at h;subst h;simp only[R.ev]at hv;obtain⟨u,BU,hv⟩:=Θ.1 hv;refine key t x ht hx u v (he _ _ BU) ?_;unfold Ki at hv
    split at hv
    .simp only[Option.some.injEq]at hv;subst hv;simp[Builtin.len_,ht,dF,jC,hu,goInt]
    .rename_i r
     split at hv
     .rename_i es ck hr;simp only[Option.some.injEq]at hv;subst hv;simp[Builtin.len_,ht,dF,jC,hu,goInt,getObj,ro,hr]
     .cases hv
    .cases hv
   .cases h
  .cases h
 .
  rename_i args argTypes
  split at h
  .rename_i t x ht hx;have db:args=#[x]:=by cases args;simp_all
   subst db
   split at h
   .rename_i e' hu;simp only[Option.some.injEq]at h;subst h;simp only[R.ev]at hv;obtain⟨u,BU,hv⟩:=Θ.1 hv;have hq:=he _ _ BU;unfold Pc at hv
    split at hv
    .simp only[Option.some.injEq]at hv;subst hv;simp[resolve,dF,invoke,builtin,hq,Builtin.cap_,ht,jC,hu,goInt]
    .cases hv
   .cases h
  .cases h
 .
  rename_i args argTypes
  split at h
  .rename_i x y hx;have db:args=#[x,y]:=by cases args;simp_all
   subst db;simp only[Option.some.injEq]at h;subst h;simp only[R.ev]at hv;obtain⟨a,ha,hv⟩:=Θ.1 hv;obtain⟨b,hb,hv⟩:=Θ.1 hv;have ea:=he _ _ ha;have eb:=he _ _ hb;unfold Kj at hv
   split at hv
   .simp only[Option.some.injEq]at hv;subst hv;simp[resolve,dF,invoke,builtin,ea,eb,Builtin.min_,List.foldlM,Builtin.min2]
   .cases hv
  .cases h
 .
  rename_i args argTypes
  split at h
  .rename_i x y hx;have db:args=#[x,y]:=by cases args;simp_all
   subst db;simp only[Option.some.injEq]at h;subst h;simp only[R.ev]at hv;obtain⟨a,ha,hv⟩:=Θ.1 hv;obtain⟨b,hb,hv⟩:=Θ.1 hv;have ea:=he _ _ ha;have eb:=he _ _ hb;unfold Kj at hv
   split at hv
   .simp only[Option.some.injEq]at hv;subst hv;simp[resolve,dF,invoke,builtin,ea,eb,Builtin.max_,List.foldlM,Builtin.max2]
   .cases hv
  .cases h
 .
  rename_i t x i
  split at h
  .rename_i el hu;obtain⟨n,hn,h⟩:=Δ.1 h;subst h;simp only[R.ev]at hv;obtain⟨a,ha,hv⟩:=Θ.1 hv;obtain⟨b,hb,hv⟩:=Θ.1 hv;rw[qL,he _ _ ha,he _ _ hb];unfold Pd at hv
   split at hv
   .rename_i ad len c k j
    split at hv
    .rename_i hj;simp only[Option.some.injEq]at hv;subst hv;unfold jW at hn;simp only[Instr.indexAt,asIntOf,dF,ig,Option.bind_some,jC,hu,hj,if_true,wU,hn,and_self,Option.map_some]
    .cases hv
   .cases hv
  .cases h
 .
  rename_i t x i
  split at h
  .rename_i hu;simp only[Option.some.injEq]at h;subst h;simp only[R.ev]at hv;obtain⟨a,ha,hv⟩:=Θ.1 hv;obtain⟨b,hb,hv⟩:=Θ.1 hv;rw[qL,he _ _ ha,he _ _ hb];unfold Pe at hv
   split at hv
   .rename_i s k j
    split at hv
    .rename_i hj;obtain⟨c,hc,hv⟩:=Δ.1 hv;subst hv;simp only[Instr.index,asIntOf,dF,ig,Option.bind_some,jC,hu,hj,if_true,hc,Option.map_some]
    .cases hv
   .cases hv
  .cases h
 .
  rename_i t x f
  split at h
  .rename_i fs iR
   split at h
   .rename_i fd Ed
    split at h
    .rename_i d n hd hn;simp only [Option.some.injEq] at h;subst h;rw [qL];have key:∀ cs,e x = .agg cs→(if uZ d then some (.agg (cs.extract fd.offset (fd.offset+n))) else cs[fd.offset]?)=some v →
         (ro P w (Instr.field t (e x) f)).map Next.value=some (.value v):=by
      intro cs hx hc;simp only[Instr.field,dF,jC,iR,Option.bind_some,Ed,hx,asAgg,ig,aeF hd hn hc,Option.map_some]
     cases hb:uZ d with
     |true=>
      simp only[hb,if_true,R.ev]at hv;obtain⟨u,hu,hv⟩:=Θ.1 hv;unfold Ph at hv
      split at hv
      .rename_i cs;exact key cs (he _ _ hu) (by simpa[hb]using hv)
      .cases hv
     |false=>
      simp only[hb,Bool.false_eq_true,if_false,R.ev]at hv;obtain⟨u,hu,hv⟩:=Θ.1 hv;unfold Pf at hv
      split at hv
      .rename_i cs;exact key cs (he _ _ hu) (by simpa[hb]using hv)
      .cases hv
    .cases h
   .cases h
  .cases h
 .
  rename_i t x lo hi mx
  split at h
  .rename_i el hu
   split at h
   .rename_i n hn
    split at h
    .cases h
    .rename_i hmx;simp only[Option.some.injEq]at h;subst h;simp only[R.ev]at hv;obtain⟨a,ha,hv⟩:=Θ.1 hv;obtain⟨l,hl,hv⟩:=Θ.1 hv;obtain⟨hh,Pq,hv⟩:=Θ.1 hv;obtain⟨m,hm,hv⟩:=Θ.1 hv;have wW:=GC he lo l hl;have wX:=GC he hi hh Pq;have iD:=GC he mx m hm;rw[qL,he _ _ ha,wW,wX,iD];unfold Pj at hv
     split at hv
     .rename_i ad len c
      split at hv
      .cases hv
      .rename_i m1 e1
       split at hv
       .cases hv
       .rename_i h1 e2
        split at hv
        .cases hv
        .rename_i l1 e3;simp only [Option.some.injEq] at hv;subst hv;have hss:m.isSome=true→hh.isSome=true:=by
          subst iD;subst wX;intro VY;cases hi<;>cases mx<;>simp_all
         unfold jW at hn;simp only[Instr.sliceAt,Instr.slice,dF,jC,hu,Option.bind_some,VU e1 e2 e3 hss,wU,hn,ig,Option.map_some]
     .cases hv
   .cases h
  .rename_i hu
   split at h
   .cases h
   .rename_i hmx;simp only[Option.some.injEq]at h;subst h;simp only[R.ev]at hv;obtain⟨a,ha,hv⟩:=Θ.1 hv;obtain⟨l,hl,hv⟩:=Θ.1 hv;obtain⟨hh,Pq,hv⟩:=Θ.1 hv;have wW:=GC he lo l hl;have wX:=GC he hi hh Pq;have hmn:mx=none:=by cases mx<;>simp_all
    subst hmn;rw[qL,he _ _ ha,wW,wX];unfold Pk at hv
    split at hv
    .split at hv
     .cases hv
     .rename_i h1 e2
      split at hv
      .cases hv
      .rename_i l1 e3;simp only[Option.some.injEq]at hv;subst hv;simp only[Instr.sliceAt,Instr.slice,dF,jC,hu,Option.bind_some,Option.map_none,Option.isSome_none,Bool.false_eq_true,if_false];rw[VU rfl e2 e3 (by simp)];simp
    .cases hv
  .cases h
 .
  rename_i t parts
  split at h
  .rename_i fs z iR hz
   split at h
   .rename_i ff;obtain ⟨ps,fJ,h⟩:=Δ.1 h;subst h;simp only [R.ev] at hv;obtain ⟨vs,jk,hv⟩:=Θ.1 hv;obtain ⟨out,ga,hv⟩:=Δ.1 hv;subst hv;obtain ⟨l,hl,gX⟩:=aeH (P:=P) (w:=w) fs.toList ff;rw [qL];have tN:ro P w (fs.mapM fun f=>do pure (f.offset,← sizeOf f.type):Sem (Array (Nat×Nat)))=some l.toArray:=by
     rw[Array.mapM_eq_mapM_toList];simp only[Gw,hl,Option.map_some]
    have hf:=aeG (P:=P) (fs:=fs) (pl:=fun i=>l.toArray[i]?) (fun i f n h1 h2=>by simpa using gX i f n (by simpa using h1) h2) he parts.toList ps vs z.cells out fJ jk ga;simp only[Instr.build,dF,VO,hz,Option.bind_some,jC,iR,tN];have e2:(parts.map fun x=>(x.1,e x.2)).toList=parts.toList.map fun p=>(p.1,e p.2):=by simp
    simp only[e2,hf,ig,Option.map_some]
   .cases h
  .cases h
 .
  simp only[Option.some.injEq]at h;subst h;simp only[R.ev]at hv;obtain⟨c,hc,hv⟩:=Θ.1 hv;obtain⟨a,ha,hv⟩:=Θ.1 hv;obtain⟨b,hb,hv⟩:=Θ.1 hv;unfold Pm at hv
  split at hv
  .simp only[Option.some.injEq]at hv;subst hv;simp only[he _ _ hc,he _ _ ha,he _ _ hb,asBool,dF,ig,Option.bind_some]
  .cases hv
 .
  simp only[Option.some.injEq]at h;subst h;simp only[R.ev]at hv;obtain⟨u,hu,hv⟩:=Θ.1 hv;rw[qL,he _ _ hu];unfold u6 at hv
  split at hv
  .simp only[Instr.extract,hv,ig,Option.map_some]
  .cases hv
 .
  rename_i t x
  split at h
  .cases h
  .rename_i d hd hdu;simp only[Option.some.injEq]at h;subst h;simp only[R.ev]at hv;obtain⟨u,hu,hv⟩:=Δ.1 hv;subst hv;rw[qL,he _ _ hu];simp only[Instr.makeInterface,dF,jC,hdu,Option.bind_some];cases d<;>first |rfl |(exact absurd rfl (hd _))
  .cases h
 .
  rename_i fn f c;simp only[Option.some.injEq]at h;subst h;simp only[R.ev]at hv;obtain⟨fv,hf,hv⟩:=Θ.1 hv;obtain⟨cv,hc,hv⟩:=Δ.1 hv;subst hv;rw[qL];have h1:=Pp he _ _ hf;have h2:=Pp he _ _ hc;simp only[Instr.makeFunc,ig,Option.map_some,<- h1,<- h2];cases f;cases c;simp
 .cases h
end
end
section
open Go
inductive E where
 |st (n:Nat) (x v:O)
 |bx (t:Nat) (x:O)
 |al (t:Nat) (zero:Value)
 |bs (el len:Nat) (cells:Array Value) (parts:List (Nat×Nat×O))
 |ms (el sz bytes:Nat) (zero:Array Value) (len cap:O)
 |ap (el sz bytes:Nat) (zero:Array Value) (s x:O)
 |cp (sz:Nat) (d s:O)
 |call (f:Nat) (args:List O)
 |raw (o:Oper)
 deriving Inhabited
def sp(cs:Array Value)(o:Nat)(vs:List Value):Array Value:=(cs.toList.take o++vs++cs.toList.drop (o+vs.length)).toArray
def wY:Exit->Act->World->Prop:=fun _ _ _=>False
def Agree(ρ:Env)(a:Act):Prop:=∀x u,(bI x).ev ρ=some u->a.eval x=u
def BV(P:Program)(o:Oper)(ρ:Env)(w:World)(K:Value->World->Prop):Prop:=
 ∀a,Agree ρ a->o.wp P a w (fun a' w'=>∃v,a'=a.put o.dst v/\K v w') wY
def Row(w:World)(a:Addr)(cs:Array Value)(T:TypeId):Prop:=a.spot=none/\w.heap[a.block]?=some (.cells cs T (0,0))
def sG(w:World)(a:Option Addr)(n:Nat)(vs:List Value):Prop:=vs.length=n/\∀ad,a=some ad->∀j v,vs[j]?=some v->w.cell? (ad.add j)=some v
def E.wp(P:Program)(w:World)(ρ:Env)(K:Value->World->Prop):E->Prop
 | .st n x y=>∃ a v cs T,x.ev ρ=some (.pointer (some a))∧y.ev ρ=some v∧v.cells.size=n∧Row w a cs T∧a.off+v.cells.toList.length≤cs.size∧(∀ u∈v.cells.toList,u.oneCell'=true) ∧
     K undef (w.setRow a.block (sp cs a.off v.cells.toList))
 |.bx t x=>∃v,x.ev ρ=some v/\K (.pointer (some ⟨w.heap.size,0,none⟩)) (w.alloc (.cells v.cells t))
 |.al t z=>K (.pointer (some ⟨w.heap.size,0,none⟩)) (w.alloc (.cells z.cells t))
 |.bs el len cells parts=>∃ps cs,nX ρ parts=some ps/\lN cells ps=some cs/\K (.slice (some ⟨w.heap.size,0,none⟩) len len) (w.alloc (.cells cs el))
 | .ms el sz bytes zero l c=>∃ kl kc ln cn,l.ev ρ=some (.int kl ln)∧c.ev ρ=some (.int kc cn)∧0≤ln∧ln≤cn∧(bytes:Int)*cn≤281474976710656∧cn≤9223372036854775807 ∧
     K (.slice (some ⟨w.heap.size,0,none⟩) ln.toNat cn.toNat) (w.alloc (.cells (madeCells zero (cn.toNat*sz)) el))
 | .ap el sz bytes zero s x=>∃ sa n cap xa m c sH news,s.ev ρ=some (.slice sa n cap)∧x.ev ρ=some (.slice xa m c)∧(sa=none→n=0∧cap=0)∧(xa=none→m=0) ∧
     sG w sa (n*sz) sH/\sG w xa (m*sz) news/\(∀u∈news,u.oneCell'=true)/\(n+m:Nat)*bytes<=140737488355328/\n+m<=9223372036854775807 /\
     (n+m<=cap->sa=none->K (.slice none 0 0) w) /\
     (n+m<=cap->∀a,sa=some a->∃cs T,Row w a cs T/\a.off+n*sz+news.length<=cs.size/\K (.slice sa (n+m) cap) (w.setRow a.block (sp cs (a.off+n*sz) news))) /\
     (cap<n+m->∀nc w1,n+m<=nc->w1=w.drew.alloc (.cells (sH.toArray++news.toArray++Builtin.zeroCells zero (nc-(n+m))) el)->K (.slice (some ⟨w.heap.size,0,none⟩) (n+m) nc) w1)
 | .cp sz d s=>∃ da dn dc sa sn sc news,d.ev ρ=some (.slice da dn dc)∧s.ev ρ=some (.slice sa sn sc)∧(sa=none→sn=0)∧sG w sa (Nat.min sn dn*sz) news∧(∀ u∈news,u.oneCell'=true) ∧
     (da=none->K (.int .i64 (Nat.min sn dn:Nat)) w) /\
     (∀a,da=some a->∃cs T,Row w a cs T/\a.off+news.length<=cs.size/\K (.int .i64 (Nat.min sn dn:Nat)) (w.setRow a.block (sp cs a.off news)))
 |.call f args=>∃vs,gW ρ args=some vs/\Calls P f vs.toArray w fun e w'=>∃v,e=.returned v/\K v w'
 |.raw o=>BV P o ρ w K
theorem mz{P:Program}{o:Oper}{ρ:Env}{w:World}{K:Value->World->Prop}(h:∀a,Agree ρ a->∃v w',(execOp a.eval o).run P w=.ok (.value v) w'/\K v w'):BV P o ρ w K:=by
 intro a ha;obtain⟨v,w',hr,hk⟩:=h a ha;unfold Oper.wp;rw[hr];exact⟨v,rfl,hk⟩
theorem Ps{P:Program}{o:Oper}{ρ:Env}{w:World}{K:Value->World->Prop}(h:∀a,Agree ρ a->∃w',(execOp a.eval o).run P w=.ok .skip w'/\K undef w'):BV P o ρ w K:=by
 intro a ha;obtain⟨w',hr,hk⟩:=h a ha;unfold Oper.wp;rw[hr];exact⟨undef,rfl,hk⟩
theorem Ee{P:Program}{o:Oper}{ρ:Env}{w:World}{K:Value->World->Prop}{r:R}{v:Value}(hr:dx P o.op=some r)(hv:r.ev w ρ=some v)(hk:K v w):BV P o ρ w K:=
 mz fun a ha=>⟨v,w,oL (VW hr ha hv),hk⟩
theorem aeL{P:Program}{o:Oper}{ρ:Env}{w:World}{K K':Value->World->Prop}(hk:∀v w',K v w'->K' v w')(h:BV P o ρ w K):BV P o ρ w K':=
 fun a ha=>Oper.wp_mono (fun a' w' ⟨v,e,k⟩=>⟨v,e,hk _ _ k⟩) (h a ha)
def BW(P:Program)(o:Oper):E:=
 match o.op with
 |.store t x v=>match P.underlying t,jW P t with
  |some _,some n=>.st n (bI x) (bI v)
  |_,_=>.raw o
 |.box t x=>.bx t (bI x)
 |.alloc t=>match(P.info? t).bind (·.zero)with
  |some z=>.al t z
  |none=>.raw o
 |.buildSlice t len parts=>match P.underlying t with
  |some (.slice el)=>match jW P el,(P.info? el).bind (·.zero)with
   | some n,some z=>if len*n≤2 ^ 24&&0 < len*n then
       .bs el len ((Array.range (len*n)).map (z.cells[· % z.cells.size]!)) (parts.toList.map fun p=>(p.1*n,n,bI p.2))else .raw o
   |_,_=>.raw o
  |_=>.raw o
 |.makeSlice t l c=>match P.underlying t with
  |some (.slice el)=>match P.info? el with
   |some i=>match i.zero with
    |some z=>.ms el i.size i.bytes z.cells (bI l) (bI c)
    |none=>.raw o
   |none=>.raw o
  |_=>.raw o
 |.call { callee:=.builtin .append,args,argTypes}=>match args.toList,argTypes.toList with
  |[s,x],[t,u]=>match P.underlying t with
   |some (.slice el)=>match P.info? el with
    |some i=>match i.zero with
     |some z=>if t=u&&z.cells.size=i.size&&0<i.size then .ap el i.size i.bytes z.cells (bI s) (bI x)else .raw o
     |none=>.raw o
    |none=>.raw o
   |_=>.raw o
  |_,_=>.raw o
 |.call { callee:=.builtin .copy,args,argTypes}=>match args.toList,argTypes.toList with
  |[d,s],[t,u]=>match P.underlying t with
   |some (.slice el)=>match jW P el with
    |some n=>if t=u then .cp n (bI d) (bI s)else .raw o
    |none=>.raw o
   |_=>.raw o
  |_,_=>.raw o
 |.call { callee:=.value (.func f),args,..}=>match P.funcs[f]? with
  |some fn=>if fn.body.isSome && !(fn.name == "runtime.NumGoroutine")then .call f (args.toList.map bI)else .raw o
  |none=>.raw o
 |_=>.raw o
section
variable {P:Program} {w:World}
theorem aeM{ρ:Env}{e:Operand→Value}(he:∀ x u,(bI x).ev ρ=some u→e x=u)(n:Nat)(pl:Nat→Option (Nat×Nat))(fI:∀ i,pl i=some (i*n,n)) :
   ∀(parts:List (Nat×Operand)) (vs:List (Nat×Nat×Value)) (cells out:Array Value),nX ρ (parts.map fun p=>(p.1*n,n,bI p.2))=some vs->lN cells vs=some out ->
    Instr.fill pl cells (parts.map fun p=>(p.1,e p.2))=some out:=by
 intro parts
 induction parts with
 |nil=>
  intro vs cells out h1 h2;simp only[List.map_nil,nX,Option.some.injEq]at h1;subst h1
  simpa[lN,Instr.fill]using h2
 |cons p parts ih=>
  intro vs cells out h1 h2;simp only[List.map_cons,nX]at h1
  split at h1
  .rename_i v l hv hl;simp only[Option.some.injEq]at h1;subst h1;simp only[lN]at h2
   split at h2
   .cases h2
   .rename_i hc;simp only[List.map_cons,Instr.fill,fI,he _ v hv];rw[if_neg hc];exact ih l _ out hl h2
  .cases h1
theorem GF{size n len cap:Nat}{xa:Option Addr}{cs:List Value}(h:sG w xa (n*size) cs)(hx:xa=none->n=0):(Builtin.firstCells size n (.slice xa len cap)).run P w=.ok cs.toArray w:=by
 cases xa with
 |none=>
  have:=hx rfl;subst this;have hl:cs=[]:=List.eq_nil_of_length_eq_zero (by simpa using h.1);subst hl;simp[run_firstCells_none]
 |some ad=>exact run_firstCells_some w size n ad len cap cs h.1 (h.2 ad rfl)
theorem aeN(t ty e:TypeId)(i:TypeInfo)(z:Value)(ht:P.underlying t=some (.slice e))(hi:P.info? e=some i)(hz:i.zero=some z)(VZ:z.cells.size=i.size)
   {sa:Option Addr} {n cap:Nat} {xa:Option Addr} {m c:Nat} {sH news:List Value}
   (wZ:sa=none->n=0/\cap=0) (oM:xa=none->m=0) (ho:sG w sa (n*i.size) sH) (hn:sG w xa (m*i.size) news) (h1:∀u∈news,u.oneCell'=true)
   (hb:(n+m)*i.bytes<=140737488355328) (BX:n+m<=9223372036854775807) {K:Value->World->Prop}
   (k0:n+m<=cap->sa=none->K (.slice none 0 0) w)
   (k1:n+m<=cap->∀a,sa=some a->∃cs T,Row w a cs T/\a.off+n*i.size+news.length<=cs.size/\K (.slice sa (n+m) cap) (w.setRow a.block (sp cs (a.off+n*i.size) news)))
   (k2:cap<n+m->∀nc w1,n+m<=nc->w1=w.drew.alloc (.cells (sH.toArray++news.toArray++Builtin.zeroCells z.cells (nc-(n+m))) e)->K (.slice (some ⟨w.heap.size,0,none⟩) (n+m) nc) w1) :
   ∃v' w',(Builtin.append_ #[t,t] ty #[.slice sa n cap,.slice xa m c]).run P w=.ok v' w'/\K v' w':=by
 by_cases xb:n+m<=cap
 .cases hs:sa with
  |none=>
   obtain⟨rfl,rfl⟩:=wZ hs;have hm:m=0:=by omega
   subst hm;have yI:news=[]:=List.eq_nil_of_length_eq_zero (by simpa using hn.1);subst yI;refine⟨_,_,?_,k0 xb hs⟩;have hf:=GF (P:=P) (len:=0) (cap:=c) hn (fun _=>rfl);have ii:(Builtin.firstCells i.size 0 (.slice xa 0 c)).run P w=.ok #[] w:=by simpa using hf
   simp[Builtin.append_,run_underlying ht,sizeOf,typeInfo,hi,Builtin.lenOf,ii]
  |some a=>
   obtain⟨cs,T,⟨sI,hrow⟩,mX,hk⟩:=k1 xb a hs;subst hs;obtain⟨b,off,spot⟩:=a;simp only at sI;subst sI;refine⟨_,_,?_,hk⟩;have hf:=GF (P:=P) (len:=m) (cap:=c) hn oM;have eH:=run_storeCells_at P b (off+n*i.size) T news 0 cs w hrow (by simpa using mX) h1;simp only[Nat.add_zero]at eH;simp[Builtin.append_,run_underlying ht,sizeOf,typeInfo,hi,Builtin.lenOf,xb,hf,Addr.add_lit,eH,sp]
 .have bg:cap<n+m:=by omega
  refine⟨_,_,?_,k2 bg _ _ (grownCap_ge w (n+m) cap e) rfl⟩;have V0:sG w.drew xa (m*i.size) news:=⟨hn.1,fun ad h j v hv=>by simpa using hn.2 ad h j v hv⟩;have GG:sG w.drew sa (n*i.size) sH:=⟨ho.1,fun ad h j v hv=>by simpa using ho.2 ad h j v hv⟩;have hf:=GF (P:=P) (len:=m) (cap:=c) V0 oM;have pR:=GF (P:=P) (len:=n) (cap:=cap) GG (fun h=>(wZ h).1);have aeO:¬(281474976710656<Builtin.nextslicecap (n+m) cap*i.bytes):=by have:=growslice_fits bg hb;omega
  have aeP:¬(9223372036854775807<((n:Int)+(m:Int))):=by omega
  simp[Builtin.append_,run_underlying ht,sizeOf,typeInfo,zeroValue,hi,hz,Builtin.lenOf,xb,aeP,aeO,Question.forced,hf,pR,newRow,grownCap]
  congr 2
  apply Array.ext';simp[List.append_assoc]
theorem GH{o:Oper}{ρ:Env}{K:Value->World->Prop}(h:(BW P o).wp P w ρ K):BV P o ρ w K:=by
 obtain⟨dst,op,ty,pos,after,guard⟩:=o;unfold BW at h;simp only at h
 split at h
 .
  rename_i t x v
  split at h
  .rename_i d n hd hn;obtain⟨a,u,cs,T,hx,hv,bV,⟨sI,hrow⟩,mX,h1,hk⟩:=h;refine Ps fun act ha=>⟨_,?_,hk⟩
   have e1:=ha _ _ hx;have e2:=ha _ _ hv;obtain⟨b,off,spot⟩:=a;simp only at sI;subst sI;obtain⟨i,hi,ij⟩:=Δ.1 hn;have eH:=run_storeCells_at P b off T u.cells.toList 0 cs w hrow (by simpa using mX) h1;simp only[Nat.add_zero]at eH;have GI:¬(u.cells.size≠i.size):=by rw[bV,ij];simp
   simp[execOp,e1,e2,Instr.storeAt,Instr.sureAddr,storeVar,sizeOf,typeInfo,hi,GI,eH,sp]
  .exact h
 .
  obtain⟨v,hv,hk⟩:=h;refine mz fun act ha=>⟨_,_,?_,hk⟩
  have e2:=ha _ _ hv;simp[execOp,e2,Instr.box,newVar,newRow]
 .
  rename_i t
  split at h
  .rename_i z hz;refine mz fun act ha=>⟨_,_,?_,h⟩
   obtain⟨i,hi,hz⟩:=Θ.1 hz;simp[execOp,Instr.alloc,newVar,newRow,zeroValue,typeInfo,hi,hz]
  .exact h
 .
  rename_i t len parts
  split at h
  .rename_i el hu
   split at h
   .rename_i n z hn hz
    split at h
    .rename_i hc;simp only[Bool.and_eq_true,decide_eq_true_eq]at hc;obtain⟨ps,cs,fJ,bT,hk⟩:=h;refine mz fun act ha=>⟨_,_,?_,hk⟩
     obtain⟨i,hi,ij⟩:=Δ.1 hn;rw[hi]at hz;have hz':i.zero=some z:=by simpa using hz
     have hf:=aeM ha n (fun i=>some (i*n,n)) (fun _=>rfl) parts.toList ps _ cs fJ bT;have h1:¬(len*n>2 ^ 24):=by have:=hc.1;omega
     have h2:¬(len*n=0):=by have:=hc.2;omega
     have hp:(parts.map fun x=>(x.1,act.eval x.2)).toList=parts.toList.map fun p=>(p.1,act.eval p.2):=by simp
     subst ij;have g1:ro P w (underlying t)=some (.slice el):=by rw[jC,hu]
     have g2:ro P w (sizeOf el)=some i.size:=by rw[wU,hi];rfl
     have g3:ro P w (zeroValue el)=some z:=by rw[VO,hi];exact hz'
     simp only[execOp,Instr.buildSlice,Sem.run_bind,oL g1,oL g2,oL g3,Result.andThen_ok,Sem.run_pure,h1,h2,if_false,hp,hf];simp[newRow]
    .exact h
   .exact h
  .exact h
 .
  rename_i t l c
  split at h
  .rename_i el hu
   split at h
   .rename_i i hi
    split at h
    .rename_i z hz;obtain⟨kl,kc,ln,cn,hl,hc,h0,hle,hb,BX,hk⟩:=h;refine mz fun act ha=>⟨_,_,?_,hk⟩
     have hm:=run_make (P:=P) w t el i z hu hi hz kl kc ln cn h0 hle hb BX;simp only[execOp,ha _ _ hl,ha _ _ hc,Sem.run_bind,hm,Result.andThen_ok,Sem.run_pure]
    .exact h
   .exact h
  .exact h
 .
  rename_i args argTypes
  split at h
  .rename_i s x t u db aeQ;have e1:args=#[s,x]:=by cases args;simp_all
   have e2:argTypes=#[t,u]:=by cases argTypes;simp_all
   subst e1 e2
   split at h
   .rename_i el hu
    split at h
    .rename_i i hi
     split at h
     .rename_i z hz
      split at h
      .rename_i hc;simp only[Bool.and_eq_true,decide_eq_true_eq]at hc;obtain⟨⟨rfl,VZ⟩,BY⟩:=hc;obtain⟨sa,n,cap,xa,m,c,sH,news,hs,hx,wZ,oM,ho,hn,h1,hb,BX,k0,k1,k2⟩:=h;refine mz fun act ha=>?_
       obtain⟨v',w',hr,hk⟩:=aeN (P:=P) (w:=w) t ty el i z hu hi hz VZ (c:=c) wZ oM ho hn h1 hb BX (K:=K) k0 k1 k2;refine⟨v',w',?_,hk⟩;simp only[execOp,resolve,List.map_toArray,List.map_cons,List.map_nil,ha _ _ hs,ha _ _ hx,Sem.run_bind,Sem.run_pure,Result.andThen_ok,invoke,builtin,hr]
      .exact h
     .exact h
    .exact h
   .exact h
  .exact h
 .
  rename_i args argTypes
  split at h
  .rename_i d s t u db aeQ;have e1:args=#[d,s]:=by cases args;simp_all
   have e2:argTypes=#[t,u]:=by cases argTypes;simp_all
   subst e1 e2
   split at h
   .rename_i el hu
    split at h
    .rename_i n hn
     split at h
     .rename_i yJ;subst yJ;obtain⟨da,dn,dc,sa,sn,sc,news,hd,hs,wZ,hr,h1,k0,k1⟩:=h;refine mz fun act ha=>?_
      obtain⟨i,hi,ij⟩:=Δ.1 hn;subst ij;have hf:=GF (P:=P) (len:=sn) (cap:=sc) hr (fun h0=>by rw[wZ h0];simp[Nat.min]);cases da with
      |none=>
       refine⟨_,_,?_,k0 rfl⟩;simp[execOp,resolve,ha _ _ hd,ha _ _ hs,invoke,builtin,Builtin.copy_,run_underlying hu,sizeOf,typeInfo,hi,Builtin.lenOf,hf,goInt]
      |some a=>
       obtain⟨cs,T,⟨sI,hrow⟩,mX,hk⟩:=k1 a rfl;obtain⟨b,off,spot⟩:=a;simp only at sI;subst sI;refine⟨_,_,?_,hk⟩;have eH:=run_storeCells_at P b off T news 0 cs w hrow (by simpa using mX) h1;simp only[Nat.add_zero]at eH;simp[execOp,resolve,ha _ _ hd,ha _ _ hs,invoke,builtin,Builtin.copy_,run_underlying hu,sizeOf,typeInfo,hi,Builtin.lenOf,hf,goInt,eH,sp]
     .exact h
    .exact h
   .exact h
  .exact h
 .
  rename_i f args argTypes
  split at h
  .rename_i fn ej
   split at h
   .rename_i hc;simp only[Bool.and_eq_true,Bool.not_eq_true']at hc;obtain⟨vs,jk,GJ⟩:=h;intro act ha;have db:=Pp ha args.toList vs jk;have jl:fn.body.isNone=false:=by cases hb:fn.body<;>simp_all
    have mY:args.map act.eval=vs.toArray:=by rw[<- db];cases args;simp
    have hr:(execOp act.eval ⟨dst,.call { callee:=.value (.func f),args:=args,argTypes:=argTypes},ty,pos,after,guard⟩).run P w=.ok (.enter f vs.toArray) w:=by
     have g1:ro P w program=some P:=rfl;simp only[execOp,resolve,Act.eval,Deferred.ofValue,Sem.run_bind,Sem.run_pure,Result.andThen_ok,invoke,callFunc,oL g1,ej,mY,Array.empty_append,Array.append_empty];rw[if_neg (by rw[hc.2];simp),if_neg (by rw[jl];simp)];rfl
    unfold Oper.wp;rw[hr];simp only[Oper.upon];refine GJ.mono ?_;rintro e w' ⟨v,rfl,hk⟩;exact⟨v,rfl,hk⟩
   .exact h
  .exact h
 .exact h
end
end
section
open Go
variable {dl:List Deferred}
structure Good (dl:List Deferred) (N:Nat) (ρ:Env) (a:Act):Prop where
 size:a.tmps.size=N
 defers:a.defers=dl
 get:∀t v,ρ.get t=some v->a.tmps[t]?=some v
theorem Good.agree{N:Nat}{ρ:Env}{a:Act}(h:Good dl N ρ a):Agree ρ a:=by
 intro x u hu;cases x with
 |tmp t=>
  have:=h.get t u hu;simp[Act.eval,this]
 |const v=>simpa[bI,O.ev,Act.eval]using hu
 |global g=>simpa[bI,O.ev,Act.eval]using hu
 |func f=>simpa[bI,O.ev,Act.eval]using hu
theorem Good.put{N:Nat}{ρ:Env}{a:Act}(h:Good dl N ρ a)(d:Option Nat)(v:Value)(hd:∀t,d=some t->t<N):Good dl N (ρ.put d v) (a.put d v):=by
 cases d with
 |none=>exact h
 |some d=>
  refine⟨by simp[Act.put,h.size],h.defers,fun t u hu=>?_⟩;simp only[Env.put,Env.get]at hu;by_cases yK:d=t
  .subst yK;simp only[if_true,Option.some.injEq]at hu;subst hu;have:=hd d rfl;simp[Act.put,h.size,this]
  .rw[if_neg yK]at hu;simp only[Act.put,Array.getElem?_setIfInBounds_ne yK];exact h.get t u hu
theorem aeR(ρ:Env):∀(ts:List Nat) (t:Nat) (v:Value),(ρ.aI ts).get t=some v->ρ.get t=some v:=by
 intro ts
 induction ts with
 |nil=>intro t v h;simp[Env.aI,Env.get]at h
 |cons s ts ih=>
  intro t v h;simp only[Env.aI]at h
  split at h
  .rename_i u hu;simp only[Env.get]at h
   split at h
   .rename_i eH;subst eH;rw[<- h];exact hu
   .exact ih t v h
  .exact ih t v h
theorem Good.aI{N:Nat}{ρ:Env}{a:Act}(h:Good dl N ρ a)(ts:List Nat):Good dl N (ρ.aI ts) a:=
 ⟨h.size,h.defers,fun t v hv=>h.get t v (aeR ρ ts t v hv)⟩
theorem aeS{P:Program}{o:Oper}{a:Act}{K:Act->World->Prop}{Q:Exit->Act->World->Prop}{r:Result Next}(h:o.upon P a K wY r):o.upon P a K Q r:=by
 cases r with
 |ok n w'=>
  cases n<;>simp only[Oper.upon]at h ⊢<;>first
   |exact h
   | exact Calls.mono h (fun e eI he=>by
       cases e with
       |returned v=>exact he
       |panicked c=>exact False.elim he
       |outgrown=>obtain⟨_,_,hf⟩:=he;exact False.elim hf)
 |halt x w'=>cases x<;>simp only[Oper.upon]at h ⊢<;>exact False.elim h
theorem V1{P:Program}{o:Oper}{a:Act}{w:World}{K:Act->World->Prop}{Q:Exit->Act->World->Prop}(h:o.wp P a w K wY):o.wp P a w K Q:=aeS h
theorem E.mono{P:Program}{w:World}{ρ:Env}{K K':Value->World->Prop}(hk:∀v w',K v w'->K' v w')(e:E)(h:e.wp P w ρ K):e.wp P w ρ K':=by
 cases e with
 |st n x y=>obtain⟨a,v,cs,T,h1,h2,h3,h4,h5,h6,h7⟩:=h;exact⟨a,v,cs,T,h1,h2,h3,h4,h5,h6,hk _ _ h7⟩
 |bx t x=>obtain⟨v,h1,h2⟩:=h;exact⟨v,h1,hk _ _ h2⟩
 |al t z=>exact hk _ _ h
 |bs el len cells parts=>obtain⟨ps,cs,h1,h2,h3⟩:=h;exact⟨ps,cs,h1,h2,hk _ _ h3⟩
 |ms el sz bytes zero l c=>obtain⟨kl,kc,ln,cn,h1,h2,h3,h4,h5,h6,h7⟩:=h;exact⟨kl,kc,ln,cn,h1,h2,h3,h4,h5,h6,hk _ _ h7⟩
 |ap el sz bytes zero s x=>
  obtain⟨sa,n,cap,xa,m,c,sH,news,h1,h2,h3,h4,h5,h6,h7,h8,h9,k0,k1,k2⟩:=h
  exact⟨sa,n,cap,xa,m,c,sH,news,h1,h2,h3,h4,h5,h6,h7,h8,h9,fun a b=>hk _ _ (k0 a b),
   fun a b hb=>let⟨cs,T,r1,r2,r3⟩:=k1 a b hb;⟨cs,T,r1,r2,hk _ _ r3⟩,fun a nc w1 b c=>hk _ _ (k2 a nc w1 b c)⟩
 |cp sz d s=>
  obtain⟨da,dn,dc,sa,sn,sc,news,h1,h2,h3,h4,h5,k0,k1⟩:=h;exact⟨da,dn,dc,sa,sn,sc,news,h1,h2,h3,h4,h5,fun a=>hk _ _ (k0 a),fun a b=>let⟨cs,T,r1,r2,r3⟩:=k1 a b;⟨cs,T,r1,r2,hk _ _ r3⟩⟩
 |call f args=>obtain⟨vs,h1,h2⟩:=h;exact⟨vs,h1,h2.mono fun e w' ⟨v,e1,e2⟩=>⟨v,e1,hk _ _ e2⟩⟩
 |raw o=>exact aeL hk h
inductive S where
 |r (d:Option Nat) (r:R)
 |e (d:Option Nat) (e:E)
 |gr (s:Nat) (b:Bool) (d:Option Nat) (r:R)
 |ge (s:Nat) (b:Bool) (d:Option Nat) (e:E)
 deriving Inhabited
def ik:Value->Bool->Bool
 |.bool c,b=>c == b
 |_,_=>false
def wpS(P:Program):List S->Env->World->(Env->World->Prop)->Prop
 |[],ρ,w,K=>K ρ w
 |.r d r::l,ρ,w,K=>∃v,r.ev w ρ=some v/\wpS P l (ρ.put d v) w K
 |.e d e::l,ρ,w,K=>e.wp P w ρ fun v w'=>wpS P l (ρ.put d v) w' K
 |.gr s b d r::l,ρ,w,K=>∃c,ρ.get s=some c/\(ik c b=true->∃v,r.ev w ρ=some v/\wpS P l (ρ.put d v) w K)/\(ik c b=false->wpS P l (ρ.put d undef) w K)
 |.ge s b d e::l,ρ,w,K=>∃c,ρ.get s=some c/\(ik c b=true->e.wp P w ρ fun v w'=>wpS P l (ρ.put d v) w' K)/\(ik c b=false->wpS P l (ρ.put d undef) w K)
def GK(N:Nat):Option Nat->Bool
 |none=>true
 |some d=>decide (d<N)
def sJ(P:Program)(N:Nat)(ops:Array Oper)(o:Oper):Option S:=
 if GK N o.dst then
  match o.guard with
  |none=>match dx P o.op with
   |some r=>some (.r o.dst r)
   |none=>some (.e o.dst (BW P o))
  |some (j,want)=>match(ops[j]?).bind (·.dst)with
   |some s=>match dx P o.op with
    |some r=>some (.gr s want o.dst r)
    |none=>some (.ge s want o.dst (BW P o))
   |none=>none
 else none
def il(P:Program)(N:Nat)(ops:Array Oper):List Oper->Option (List S)
 |[]=>some []
 |o::l=>match sJ P N ops o,il P N ops l with
  |some s,some t=>some (s::t)
  |_,_=>none
section
variable {P:Program} {N:Nat} {ops:Array Oper} {ρ:Env} {a:Act} {w:World}
theorem Ef{d:Option Nat}(h:GK N d=true):∀t,d=some t->t<N:=by
 intro t ht;subst ht;simpa[GK]using h
theorem Eg{o:Oper}{j s:Nat}{want:Bool}{c:Value}(hg:o.guard=some (j,want))(hs:(ops[j]?).bind (·.dst)=some s)(hG:Good dl N ρ a)(hc:ρ.get s=some c) :
   Region.wanted o (yielded ops a.tmps)=ik c want:=by
 have h1:=hG.get s _ hc;simp only[Region.wanted,hg,yielded,hs,Option.bind_some,h1];cases c<;>first |rfl |(rename_i b;cases b<;>cases want<;>rfl)
def mA(P:Program)(ops:Array Oper)(G:Act->World->Prop):List Oper->Act->World->Prop
 |[],a,w=>G a w
 |o::l,a,w=>if Region.wanted o (yielded ops a.tmps)then o.wp P a w (mA P ops G l) wY else mA P ops G l (a.put o.dst undef) w
theorem Km{G:Act->World->Prop}{Q:Exit->Act->World->Prop}(hQ:∀a w,G a w->Q .normal a w):∀(l:List Oper) (a:Act) (w:World),mA P ops G l a w->wpList P ops Q l a w
 |[],a,w,h=>hQ a w h
 |o::l,a,w,h=>by
  unfold mA at h;unfold wpList
  split
  .rename_i hw;rw[if_pos hw]at h;exact .inl (V1 (Oper.wp_mono (fun a w hh=>Km hQ l a w hh) h))
  .rename_i hw;rw[if_neg hw]at h;exact Km hQ l _ _ h
theorem Eh{G:Act→World→Prop}:∀ (l:List Oper) (st:List S) (ρ:Env) (a:Act) (w:World) (K:Env→World→Prop),il P N ops l=some st→wpS P st ρ w K→Good dl N ρ a →
   (∀ρ' a' w',Good dl N ρ' a'->K ρ' w'->G a' w')->mA P ops G l a w:=by
 intro l
 induction l with
 |nil=>
  intro st ρ a w K h1 h2 h3 h4;simp only[il,Option.some.injEq]at h1;subst h1;exact h4 _ _ _ h3 h2
 |cons o l ih=>
  intro st ρ a w K h1 h2 h3 h4;simp only[il]at h1
  split at h1
  .rename_i s t hs ht;simp only[Option.some.injEq]at h1;subst h1;unfold sJ at hs
   split at hs
   .rename_i hd;have ja:=Ef hd
    split at hs
    .rename_i hg;have hw:Region.wanted o (yielded ops a.tmps)=true:=by simp[Region.wanted,hg]
     unfold mA;rw[if_pos hw]
     split at hs
     .rename_i r hr;simp only[Option.some.injEq]at hs;subst hs;obtain⟨v,hv,hk⟩:=h2;refine Oper.wp_mono ?_ (Ee (K:=fun v' w'=>v'=v/\w'=w) hr hv ⟨rfl,rfl⟩ a h3.agree);rintro a' w' ⟨v',rfl,rfl,rfl⟩;exact ih t _ _ _ K ht hk (h3.put _ _ ja) h4
     .simp only[Option.some.injEq]at hs;subst hs;refine Oper.wp_mono ?_ (GH h2 a h3.agree);rintro a' w' ⟨v',rfl,hk⟩;exact ih t _ _ _ K ht hk (h3.put _ _ ja) h4
    .rename_i j want hg
     split at hs
     .rename_i s' fK
      split at hs
      .rename_i r hr;simp only[Option.some.injEq]at hs;subst hs;obtain⟨c,hc,hy,hn⟩:=h2;have hw:=Eg hg fK h3 hc;unfold mA;by_cases mZ:ik c want=true
       .rw[if_pos (by rw[hw,mZ])];obtain⟨v,hv,hk⟩:=hy mZ;refine Oper.wp_mono ?_ (Ee (K:=fun v' w'=>v'=v/\w'=w) hr hv ⟨rfl,rfl⟩ a h3.agree);rintro a' w' ⟨v',rfl,rfl,rfl⟩;exact ih t _ _ _ K ht hk (h3.put _ _ ja) h4
       .rw[if_neg (by rw[hw];exact mZ)];exact ih t _ _ _ K ht (hn (by simpa using mZ)) (h3.put _ _ ja) h4
      .simp only[Option.some.injEq]at hs;subst hs;obtain⟨c,hc,hy,hn⟩:=h2;have hw:=Eg hg fK h3 hc;unfold mA;by_cases mZ:ik c want=true
       .rw[if_pos (by rw[hw,mZ])];refine Oper.wp_mono ?_ (GH (hy mZ) a h3.agree);rintro a' w' ⟨v',rfl,hk⟩;exact ih t _ _ _ K ht hk (h3.put _ _ ja) h4
       .rw[if_neg (by rw[hw];exact mZ)];exact ih t _ _ _ K ht (hn (by simpa using mZ)) (h3.put _ _ ja) h4
     .cases hs
   .cases hs
  .cases h1
def R.Ko:R->Bool
 |.l1 _=>true
 |.ln _ _=>true
 |.yG _=>true
 |_=>false
def R.jX(ρ:Env):R->Option Nat
 |.l1 x=>match x.ev ρ with |some (.pointer (some a))=>some a.block |_=>none
 |.ln _ x=>match x.ev ρ with |some (.pointer (some a))=>some a.block |_=>none
 |.yG x=>match x.ev ρ with |some (.map (some r))=>some r |_=>none
 |_=>none
theorem Pt{w w':World}{a:Addr}(h:w'.heap[a.block]?=w.heap[a.block]?):w'.cell? a=w.cell? a:=by simp[World.cell?,h]
theorem u9(a:Addr)(n:Nat):(a.add n).block=a.block:=by unfold Addr.add;split<;>rfl
theorem aeT{w w':World}{a:Addr}(h:w'.heap[a.block]?=w.heap[a.block]?):∀(n i:Nat) (acc:Array Value),my w' a i n acc=my w a i n acc:=by
 intro n
 induction n with
 |zero=>intro i acc;rfl
 |succ n ih=>
  intro i acc;simp only[my];have e1:w'.cell? (a.add i)=w.cell? (a.add i):=Pt (by rw[u9];exact h);rw[e1];cases w.cell? (a.add i)with
  |none=>rfl
  |some v=>exact ih _ _
theorem aeU{w w':World}{r:R}{v:Value}(h:r.ev w ρ=some v)(hk:∀b,r.jX ρ=some b->w'.heap[b]?=w.heap[b]?):r.ev w' ρ=some v:=by
 cases r with
 |l1 x=>
  simp only[R.ev]at h ⊢;obtain⟨u,hu,hv⟩:=Θ.1 h;rw[hu,Option.bind_some];unfold Ea at *;cases u with
  |pointer ad=>
   cases ad with
   |none=>cases hv
   |some ad=>
    simp only at *;rw[Pt (hk ad.block (by simp[R.jX,hu]))];exact hv
  |_=>cases hv
 |ln n x=>
  simp only[R.ev]at h ⊢;obtain⟨u,hu,hv⟩:=Θ.1 h;rw[hu,Option.bind_some];unfold f' at *;cases u with
  |pointer ad=>
   cases ad with
   |none=>cases hv
   |some ad=>
    simp only at *;rw[aeT (hk ad.block (by simp[R.jX,hu]))];exact hv
  |_=>cases hv
 |yG x=>
  simp only[R.ev]at h ⊢;obtain⟨u,hu,hv⟩:=Θ.1 h;rw[hu,Option.bind_some];unfold Ki at *;cases u with
  |map m=>
   cases m with
   |none=>exact hv
   |some rr=>
    simp only at *;rw[hk rr (by simp[R.jX,hu])];exact hv
  |_=>cases hv
 |_=>exact h
def BZ(P:Program)(ops:Array Oper)(i:Nat)(K:Act->World->Prop)(a:Act)(w:World):Prop:=
 ∃o,ops[i]?=some o/\if Region.wanted o (yielded ops a.tmps)then o.wp P a w K wY else K (a.put o.dst undef) w
def Kept(B:Nat->Prop)(w w':World):Prop:=∀b,B b->w'.heap[b]?=w.heap[b]?
def oN(P:Program)(ops:Array Oper)(B:Nat->Nat->Prop)(Q:Act->World->Prop):Nat->Array Bool->Act->World->Prop
 |0,listed,a,w=>Region.ready .any ops listed=[]/\Q a w
 |f+1,listed,a,w=>(Region.ready .any ops listed=[]->Q a w) /\
  ∀i∈Region.ready .any ops listed,BZ P ops i (fun a' w'=>Kept (B i) w w'/\oN P ops B Q f (listed.setIfInBounds i true) a' w') a w
theorem V2{i:Nat}{K K':Act->World->Prop}(h:∀a w,K a w->K' a w)(hg:BZ P ops i K a w):BZ P ops i K' a w:=by
 obtain⟨o,ho,h1⟩:=hg;refine⟨o,ho,?_⟩
 split
 .rename_i hw;rw[if_pos hw]at h1;exact Oper.wp_mono h h1
 .rename_i hw;rw[if_neg hw]at h1;exact h _ _ h1
theorem Pu{B:Nat→Nat→Prop}{Q:Act→World→Prop}{Q':Exit→Act→World→Prop}(hQ:∀ a w,Q a w→Q' .normal a w) :
   ∀(f:Nat) (listed:Array Bool) (a:Act) (w:World),oN P ops B Q f listed a w->wpAny P .any ops Q' f listed a w:=by
 intro f
 induction f with
 |zero=>intro listed a w h;exact⟨h.1,hQ _ _ h.2⟩
 |succ f ih=>
  intro listed a w h;refine⟨fun h0=>hQ _ _ (h.1 h0),fun i hi=>?_⟩;obtain⟨o,ho,hg⟩:=h.2 i hi;unfold wpOp;simp only[ho]
  split
  .rename_i hw;rw[if_pos hw]at hg;exact .inl (V1 (Oper.wp_mono (fun a' w' hh=>ih _ _ _ hh.2) hg))
  .rename_i hw;rw[if_neg hw]at hg;exact ih _ _ _ hg.2
def xc(P:Program)(ops:Array Oper)(bs:Nat->Prop)(c:Nat->Option Obj)(o:Oper)(v:Value)(a:Act):Prop:=
 (Region.wanted o (yielded ops a.tmps)=true/\∀w:World,(∀b,bs b->w.heap[b]?=c b)->(execOp a.eval o).run P w=.ok (.value v) w) \/
 (Region.wanted o (yielded ops a.tmps)=false/\v=undef)
theorem xc.same{bs:Nat→Prop}{c:Nat→Option Obj}{o:Oper}{v:Value}{a a':Act}(h:xc P ops bs c o v a)(he:execOp a'.eval o=execOp a.eval o)
   (hw:Region.wanted o (yielded ops a'.tmps)=Region.wanted o (yielded ops a.tmps)):xc P ops bs c o v a':=by
 unfold xc at *;rw[he,hw];exact h
theorem aeV{bs:Nat→Prop}{c:Nat→Option Obj}{j:Nat}{oi oj:Oper}{v:Value}(hj:ops[j]? = some oj)(Ei:oi.apart ops oj=true)
   (V3:∀cs b,oi.op≠.select cs b) (Kq:∀cs b,oj.op≠.select cs b) {K:Act->World->Prop} (hy:xc P ops bs c oi v a) (h:BZ P ops j K (a.put oi.dst v) w) :
   BZ P ops j (fun a' w'=>xc P ops bs c oi v a'/\K (a'.put oi.dst v) w') a w:=by
 obtain⟨h1,h2,h3⟩:=Oper.apart_spec Ei;obtain⟨o,ho,hg⟩:=h;obtain rfl:o=oj:=Option.some.inj (ho.symm.trans hj);refine⟨o,hj,?_⟩;rw[wanted_put o a oi.dst v h1]at hg;have aI:∀u,xc P ops bs c oi v (a.put o.dst u):=fun u=>hy.same (execOp_put oi V3 a o.dst u h3) (wanted_put oi a o.dst u h3)
 split
 .rename_i hw;rw[if_pos hw]at hg;unfold Oper.wp at *;rw[execOp_put o Kq a oi.dst v h1]at hg;generalize(execOp a.eval o).run P w=r at *;cases r with
  |ok n w'=>
   cases n<;>simp only[Oper.upon]at hg ⊢
   case value u=>exact⟨aI u,by rw[<- Act.put_comm a v u h2];exact hg⟩
   case skip=>exact⟨aI _,by rw[<- Act.put_comm a v undef h2];exact hg⟩
   case defer d=>
    have hd:xc P ops bs c oi v { a with defers:=d::a.defers}:=hy.same rfl rfl;refine⟨hd.same (execOp_put oi V3 _ o.dst _ h3) (wanted_put oi _ o.dst _ h3),?_⟩;rw[<- Act.put_comm _ v undef h2,<- Act.put_defers];exact hg
   case enter f args=>
    refine Calls.mono hg fun e eI he=>?_
    cases e with
    |returned u=>exact⟨aI u,by rw[<- Act.put_comm a v u h2];exact he⟩
    |panicked c=>exact he
    |outgrown=>obtain⟨_,_,hf⟩:=he;exact False.elim hf
   case row row args=>exact Rows.mono hg fun u eI he=>⟨aI u,by rw[<- Act.put_comm a v u h2];exact he⟩
  |halt x w'=>cases x<;>simp only[Oper.upon]at hg ⊢<;>exact hg
 .rename_i hw;rw[if_neg hw]at hg;exact⟨aI _,by rw[<- Act.put_comm a v undef h2];exact hg⟩
def GL(ops:Array Oper)(listed:Array Bool):Prop:=
 ∀j oj,ops[j]?=some oj->listed.getD j false=true->∀e∈oj.after,Region.binds .any e=true->listed.getD e.on false=true
def Ej(ops:Array Oper)(pm:List Nat):Bool:=
 (List.range ops.size).all fun j=>(List.range ops.size).all fun i=>!(pm.getD j 0).testBit i ||
  match ops[j]? with
  |some o=>o.after.any fun e=>Region.binds .any e&&(decide (e.on<j)&&(e.on == i||(pm.getD e.on 0).testBit i))
  |none=>false
theorem aeW{pm:List Nat}(iE:Ej ops pm=true){listed:Array Bool}(hc:GL ops listed){i:Nat}(hi:i < ops.size) :
   ∀(j:Nat),j<ops.size->(listed.getD j false=true\/j∈Region.ready .any ops listed)->(pm.getD j 0).testBit i=true->listed.getD i false=true:=by
 intro j
 induction j using Nat.strongRecOn with
 |_ j ih=>
  intro hj hl ht;have h1:=List.all_eq_true.1 (List.all_eq_true.1 iE j (List.mem_range.2 hj)) i (List.mem_range.2 hi);rw[ht]at h1;simp only[Bool.not_true,Bool.false_or]at h1
  split at h1
  .rename_i o ho;obtain ⟨e,he,hb⟩:=Array.any_eq_true'.1 h1;simp only [Bool.and_eq_true,decide_eq_true_eq,Bool.or_eq_true,beq_iff_eq] at hb;obtain ⟨au,bg,az⟩:=hb;have Kr:listed.getD e.on false=true:=by
    rcases hl with hl |hl
    .exact hc j o ho hl e he au
    .obtain⟨_,o',GG,ff⟩:=mem_ready.1 hl;obtain rfl:o'=o:=Option.some.inj (GG.symm.trans ho);exact ff e he au
   rcases az with az |az
   .rw[<- az];exact Kr
   .exact ih e.on bg (by omega) (.inl Kr) az
  .cases h1
theorem GM{listed:Array Bool}{i:Nat}(hc:GL ops listed)(hi:i∈Region.ready .any ops listed):GL ops (listed.setIfInBounds i true):=by
 obtain⟨_,oi,hoi,ff⟩:=mem_ready.1 hi;intro j oj hj hl e he hb;by_cases lO:i=j
 .subst lO;obtain rfl:oj=oi:=Option.some.inj (hj.symm.trans hoi);exact getD_set_true (ff e he hb)
 .rw[getD_set_ne false lO]at hl;exact getD_set_true (hc j oj hj hl e he hb)
theorem V4{listed:Array Bool}{i:Nat}(h:listed.getD i true=false):listed.getD i false=false:=by
 rcases Nat.lt_or_ge i listed.size with h' |h'
 .simp[h']at h ⊢;exact h
 .simp[Array.getElem?_eq_none h']at h
theorem V5{pm:List Nat}(iE:Ej ops pm=true){i:Nat}{oi:Oper}{v:Value}(hi:ops[i]? = some oi)(yL:∀ (j:Nat) (o:Oper) cs b,ops[j]? = some o→o.op≠.select cs b)
   {bs:Nat->Prop} {c:Nat->Option Obj} {B B':Nat->Nat->Prop} {Q:Act->World->Prop} (hB:∀j b,B j b->B' j b)
   (eN:∀j,(pm.getD j 0).testBit i=false->j≠i->∀b,bs b->B' j b) :
   ∀(f:Nat) (listed:Array Bool) (a:Act) (w:World),GL ops listed ->
    (∀j oj,ops[j]?=some oj->j≠i->listed.getD j true=false->(∀e∈oj.after,Region.binds .any e=true->e.on≠i)->oi.apart ops oj=true) ->
    i∈Region.ready .any ops listed->xc P ops bs c oi v a->(∀b,bs b->w.heap[b]?=c b) ->
    oN P ops B' Q f (listed.setIfInBounds i true) (a.put oi.dst v) w->oN P ops B Q (f+1) listed a w:=by
 intro f;have here:∀ (f:Nat) (listed:Array Bool) (a:Act) (w:World),xc P ops bs c oi v a→(∀ b,bs b→w.heap[b]? = c b) →
     oN P ops B Q f (listed.setIfInBounds i true) (a.put oi.dst v) w ->
     BZ P ops i (fun a' w'=>Kept (B i) w w'/\oN P ops B Q f (listed.setIfInBounds i true) a' w') a w:=by
  intro f listed a w hy hw H;refine⟨oi,hi,?_⟩;rcases hy with⟨h1,h2⟩ |⟨h1,rfl⟩
  .rw[if_pos h1];unfold Oper.wp;rw[h2 w hw];exact⟨fun _ _=>rfl,H⟩
  .rw[if_neg (by simp[h1])];exact⟨fun _ _=>rfl,H⟩
 have aU:∀(f:Nat) (listed:Array Bool) (a:Act) (w:World),oN P ops B' Q f listed a w->oN P ops B Q f listed a w:=by
  intro f
  induction f with
  |zero=>intro listed a w h;exact h
  |succ f ih=>
   intro listed a w h;exact⟨h.1,fun j hj=>V2 (fun a' w' hh=>⟨fun b hb=>hh.1 b (hB j b hb),ih _ _ _ hh.2⟩) (h.2 j hj)⟩
 induction f with
 |zero=>
  intro listed a w im El hr hy hw H;refine⟨fun h=>(by rw[h]at hr;cases hr),fun j hj=>?_⟩;by_cases hji:j=i
  .subst hji;exact here 0 listed a w hy hw (aU _ _ _ _ H)
  .have:=ready_mono hj hji;rw[H.1]at this;cases this
 |succ f ih=>
  intro listed a w im El hr hy hw H;refine⟨fun h=>(by rw[h]at hr;cases hr),fun j hj=>?_⟩;by_cases hji:j=i
  .subst hji;exact here _ listed a w hy hw (aU _ _ _ _ H)
  .have h1:=H.2 j (ready_mono hj hji);obtain ⟨V6,oj,Ks,ff⟩:=mem_ready.1 hj;have V7:=(mem_ready.1 hr).1;have aeX:i < ops.size:=(Array.getElem?_eq_some_iff.1 hi).1;have aeY:j < ops.size:=(Array.getElem?_eq_some_iff.1 Ks).1;have Em:∀ e∈oj.after,Region.binds .any e=true→e.on≠i:=fun e he hb nY=>by
    have h1:=ff e he hb;rw[nY,V4 V7]at h1;cases h1
   have aeZ:(pm.getD j 0).testBit i=false:=by
    cases ht:(pm.getD j 0).testBit i with
    |false=>rfl
    |true=>
     have:=aeW iE im aeX j aeY (.inr hj) ht;rw[V4 V7]at this;cases this
   have h2:=aeV Ks (El j oj Ks hji V6 Em) (fun cs b=>yL i oi cs b hi) (fun cs b=>yL j oj cs b Ks) hy h1;have ae0:∀ k ok,ops[k]? = some ok→k≠i→(listed.setIfInBounds j true).getD k true=false →
       (∀e∈ok.after,Region.binds .any e=true->e.on≠i)->oi.apart ops ok=true:=fun k ok hk Pv xd jb=>by
    refine El k ok hk Pv ?_ jb;by_cases V8:j=k
    .subst V8;exact V6
    .rw[getD_set_ne true V8]at xd;exact xd
   refine V2 (fun a' w' h3=>⟨fun b hb=>h3.2.1 b (hB j b hb),?_⟩) h2;refine ih (listed.setIfInBounds j true) a' w' (GM im hj) ae0 (ready_mono hr (Ne.symm hji)) h3.1 (fun b hb=>?_) ?_
   .rw[h3.2.1 b (eN j aeZ hji b hb)];exact hw b hb
   .rw[Array.setIfInBounds_comm _ _ hji];exact h3.2.2
end
end
section
open Go
variable {dl:List Deferred}
inductive D where
 |nil
 |r (i:Nat) (g:Option (Nat×Bool)) (d:Option Nat) (r:R) (t:D)
 |e (i:Nat) (g:Option (Nat×Bool)) (d:Option Nat) (e:E) (fl:List Nat) (t:D)
 |e2 (i:Nat) (d:Option Nat) (e:E) (fl:List Nat) (t:D) (i':Nat) (d':Option Nat) (e':E) (rL:List Nat) (t':D)
 deriving Inhabited
def Eo(i:Nat):List Nat->Prop
 |[]=>False
 |j::r=>j=i\/Eo i r
def oO(fl:List Nat)(w w':World):List (Nat×Nat)->Prop
 |[]=>True
 |(i,b)::r=>(Eo i fl->w'.heap[b]?=w.heap[b]?)/\oO fl w w' r
def Aw(i:Nat)(b:Option Nat)(rd:List (Nat×Nat)):List (Nat×Nat):=
 match b with
 |some b=>(i,b)::rd
 |none=>rd
def eo(P:Program):D->Env->World->List (Nat×Nat)->(Env->World->Prop)->Prop
 |.nil,ρ,w,rd,K=>K ρ w
 |.r i none d r t,ρ,w,rd,K=>∃v,r.ev w ρ=some v/\eo P t (ρ.put d v) w (Aw i (r.jX ρ) rd) K
 | .r i (some (s,b)) d r t,ρ,w,rd,K=>∃ c,ρ.get s=some c∧(ik c b=true→∃ v,r.ev w ρ=some v∧eo P t (ρ.put d v) w (Aw i (r.jX ρ) rd) K) ∧
     (ik c b=false->eo P t (ρ.put d undef) w rd K)
 |.e i none d e fl t,ρ,w,rd,K=>e.wp P w ρ fun v w'=>oO fl w w' rd/\eo P t (ρ.put d v) w' rd K
 | .e i (some (s,b)) d e fl t,ρ,w,rd,K=>∃ c,ρ.get s=some c∧(ik c b=true→e.wp P w ρ fun v w'=>oO fl w w' rd∧eo P t (ρ.put d v) w' rd K) ∧
     (ik c b=false->eo P t (ρ.put d undef) w rd K)
 | .e2 i d e fl t i' d' e' rL t',ρ,w,rd,K=>(e.wp P w ρ fun v w'=>oO fl w w' rd∧eo P t (ρ.put d v) w' rd K) ∧
     (e'.wp P w ρ fun v w'=>oO rL w w' rd/\eo P t' (ρ.put d' v) w' rd K)
def Kt(P:Program)(ops:Array Oper)(i:Nat):Bool:=
 match ops[i]? with
 |some o=>match dx P o.op with
  |some r=>r.Ko
  |none=>false
 |none=>false
def GN(P:Program)(ops:Array Oper)(pm:List Nat)(j:Nat):List Nat:=(List.range ops.size).filter fun i=>Kt P ops i && !(pm.getD j 0).testBit i
def ae1(P:Program)(ops:Array Oper)(i:Nat):Bool:=
 match ops[i]? with
 |some o=>(dx P o.op).isSome
 |none=>false
def Ep(i:Nat)(fl:List Nat)(t:D):S->Option D
 |.e d e=>some (.e i none d e fl t)
 |.ge s b d e=>some (.e i (some (s,b)) d e fl t)
 |_=>none
def Er(i:Nat)(t:D):S->Option D
 |.r d r=>some (.r i none d r t)
 |.gr s b d r=>some (.r i (some (s,b)) d r t)
 |_=>none
def yM(i:Nat)(fl:List Nat)(t:D)(j:Nat)(rL:List Nat)(t':D):S->S->Option D
 |.e d e,.e d' e'=>some (.e2 i d e fl t j d' e' rL t')
 |_,_=>none
def B1(P:Program)(N:Nat)(ops:Array Oper)(i:Nat):Option S:=(ops[i]?).bind (sJ P N ops)
def vg(P:Program)(N:Nat)(ops:Array Oper)(pm:List Nat):Nat->Array Bool->Option D
 |0,listed=>if(Region.ready .any ops listed).isEmpty then some .nil else none
 |f+1,listed=>
  match(Region.ready .any ops listed).find? (fun i=>ae1 P ops i&&Region.free .any ops listed i)with
  |some i=>(vg P N ops pm f (listed.setIfInBounds i true)).bind fun t=>(B1 P N ops i).bind (Er i t)
  |none=>match Region.ready .any ops listed with
   |[]=>some .nil
   |[i]=>(vg P N ops pm f (listed.setIfInBounds i true)).bind fun t=>(B1 P N ops i).bind (Ep i (GN P ops pm i) t)
   | [i,j]=>(vg P N ops pm f (listed.setIfInBounds i true)).bind fun t=>(vg P N ops pm f (listed.setIfInBounds j true)).bind fun t'=>
       (B1 P N ops i).bind fun s=>(B1 P N ops j).bind fun s'=>yM i (GN P ops pm i) t j (GN P ops pm j) t' s s'
   |_=>none
section
variable {P:Program} {N:Nat} {ops:Array Oper}
def yN(pm:List Nat)(rd:List (Nat×Nat))(j b:Nat):Prop:=∃i,(i,b)∈rd/\(pm.getD j 0).testBit i=false
theorem ae2{i:Nat}:∀{fl:List Nat},i∈fl->Eo i fl:=by
 intro fl
 induction fl with
 |nil=>intro h;cases h
 |cons j r ih=>
  intro h;cases h with
  |head=>exact .inl rfl
  |tail _ h=>exact .inr (ih h)
theorem ae3{fl:List Nat}{w w':World}:∀{rd:List (Nat×Nat)},oO fl w w' rd->∀i b,(i,b)∈rd->i∈fl->w'.heap[b]?=w.heap[b]?:=by
 intro rd
 induction rd with
 |nil=>intro _ i b h;cases h
 |cons p rd ih=>
  intro h i b hm hf;obtain⟨j,c⟩:=p;simp only[oO]at h;cases hm with
  |head=>exact h.1 (ae2 hf)
  |tail _ hm=>exact ih h.2 i b hm hf
theorem V9{o:Oper}{d:Option Nat}{r:R}(h:sJ P N ops o=some (.r d r)):dx P o.op=some r/\d=o.dst/\o.guard=none/\(∀t,d=some t->t<N):=by
 unfold sJ at h
 split at h
 .rename_i hd
  split at h
  .rename_i hg
   split at h
   .rename_i r' hr;cases h;exact⟨hr,rfl,hg,Ef hd⟩
   .cases h
  .split at h
   .split at h<;>cases h
   .cases h
 .cases h
theorem Pw{o:Oper}{d:Option Nat}{e:E}(h:sJ P N ops o=some (.e d e)):e=BW P o/\d=o.dst/\o.guard=none/\(∀t,d=some t->t<N):=by
 unfold sJ at h
 split at h
 .rename_i hd
  split at h
  .rename_i hg
   split at h
   .cases h
   .cases h;exact⟨rfl,rfl,hg,Ef hd⟩
  .split at h
   .split at h<;>cases h
   .cases h
 .cases h
theorem ae4{o:Oper}{s:Nat}{b:Bool}{d:Option Nat}{r:R}(h:sJ P N ops o=some (.gr s b d r)) :
   dx P o.op=some r/\d=o.dst/\(∃j,o.guard=some (j,b)/\(ops[j]?).bind (·.dst)=some s)/\(∀t,d=some t->t<N):=by
 unfold sJ at h
 split at h
 .rename_i hd
  split at h
  .split at h<;>cases h
  .rename_i j want hg
   split at h
   .rename_i s' fK
    split at h
    .rename_i r' hr;cases h;exact⟨hr,rfl,⟨j,hg,fK⟩,Ef hd⟩
    .cases h
   .cases h
 .cases h
theorem ae5{o:Oper}{s:Nat}{b:Bool}{d:Option Nat}{e:E}(h:sJ P N ops o=some (.ge s b d e)) :
   e=BW P o/\d=o.dst/\(∃j,o.guard=some (j,b)/\(ops[j]?).bind (·.dst)=some s)/\(∀t,d=some t->t<N):=by
 unfold sJ at h
 split at h
 .rename_i hd
  split at h
  .split at h<;>cases h
  .rename_i j want hg
   split at h
   .rename_i s' fK
    split at h
    .cases h
    .cases h;exact⟨rfl,rfl,⟨j,hg,fK⟩,Ef hd⟩
   .cases h
 .cases h
def tO(dl:List Deferred)(N:Nat)(K:Env->World->Prop)(a:Act)(w:World):Prop:=∃ρ,Good dl N ρ a/\K ρ w
theorem ae6{i:Nat}{b:Option Nat}{rd:List (Nat×Nat)}{p:Nat×Nat}(h:p∈rd):p∈Aw i b rd:=by
 cases b with
 |none=>exact h
 |some b=>exact List.mem_cons_of_mem _ h
theorem ae7{r:R}{ρ:Env}{b:Nat}(h:r.jX ρ=some b):r.Ko=true:=by
 cases r<;>first |rfl |(simp[R.jX]at h)
theorem V'{pm:List Nat}(iE:Ej ops pm=true)(yL:Region.noSelect ops=true){K:Env→World→Prop} :
   ∀(f:Nat) (listed:Array Bool) (t:D) (ρ:Env) (a:Act) (w:World) (rd:List (Nat×Nat)),vg P N ops pm f listed=some t->eo P t ρ w rd K->Good dl N ρ a->GL ops listed ->
    (∀i b,(i,b)∈rd->Kt P ops i=true)->oN P ops (yN pm rd) (tO dl N K) f listed a w:=by
 intro f
 induction f with
 |zero=>
  intro listed t ρ a w rd h lP hg hc eu;simp only[vg]at h
  split at h
  .rename_i he;cases h;exact⟨by simpa using he,ρ,hg,lP⟩
  .cases h
 |succ f ih=>
  intro listed t ρ a w rd h lP hg hc eu;have effect:∀ (i:Nat) (o:Oper) (t':D) (d:Option Nat) (e:E),ops[i]? = some o→e=BW P o→d=o.dst→(∀ t,d=some t→t < N)→i∈Region.ready .any ops listed →
      vg P N ops pm f (listed.setIfInBounds i true)=some t'->Region.wanted o (yielded ops a.tmps)=true ->
      (e.wp P w ρ fun v w'=>oO (GN P ops pm i) w w' rd/\eo P t' (ρ.put d v) w' rd K) ->
      BZ P ops i (fun a' w'=>Kept (yN pm rd i) w w'/\oN P ops (yN pm rd) (tO dl N K) f (listed.setIfInBounds i true) a' w') a w:=by
   intro i o t' d e hi he hd nZ hr qM hw hE;subst he hd;refine⟨o,hi,?_⟩;rw[if_pos hw];refine Oper.wp_mono ?_ (GH hE a hg.agree);rintro a' w' ⟨v,rfl,hk,vh⟩;refine⟨?_,ih _ t' _ _ _ rd qM vh (hg.put _ _ nZ) (GM hc hr) eu⟩;rintro b ⟨i0,hm,Px⟩;refine ae3 hk i0 b hm ?_;have eO:=eu i0 b hm;unfold GN;rw[List.mem_filter,List.mem_range];refine⟨?_,by rw[eO,Px];rfl⟩;unfold Kt at eO;cases ho:ops[i0]? with
   |none=>simp[ho]at eO
   |some o'=>exact(Array.getElem?_eq_some_iff.1 ho).1
  simp only[vg]at h
  split at h
  .rename_i i Wa;have eO:=List.mem_of_find?_eq_some Wa;have Wb:=List.find?_some Wa;simp only [Bool.and_eq_true] at Wb;obtain ⟨t',qM,h⟩:=Θ.1 h;obtain ⟨s,tP,h⟩:=Θ.1 h;unfold B1 at tP;obtain ⟨o,ho,hs⟩:=Θ.1 tP;clear tP;have El:=Region.free_spec ho Wb.2;have isz:i < ops.size:=(Array.getElem?_eq_some_iff.1 ho).1;have taken:∀ (v:Value) (d:Option Nat) (r:R),d=o.dst→dx P o.op=some r→r.ev w ρ=some v→Region.wanted o (yielded ops a.tmps)=true→(∀ t,d=some t→t < N) →
       eo P t' (ρ.put d v) w (Aw i (r.jX ρ) rd) K->oN P ops (yN pm rd) (tO dl N K) (f+1) listed a w:=by
    intro v d r hd hr hv hw nZ vh;subst hd
    have H:=ih _ t' _ _ _ _ qM vh (hg.put _ v nZ) (GM hc eO) (by
     intro j b hj;cases hb:r.jX ρ with
     |none=>rw[hb]at hj;exact eu j b hj
     |some b'=>
      rw[hb]at hj;cases hj with
      |head=>unfold Kt;rw[ho];simp only;rw[hr];exact ae7 hb
      |tail _ hj=>exact eu j b hj)
    refine V5 iE ho (Region.noSelect_spec yL) (bs:=fun b=>r.jX ρ=some b) (c:=fun b=>w.heap[b]?) (B':=yN pm (Aw i (r.jX ρ) rd)) ?_ ?_ f listed a w hc El eO ?_ (fun _ _=>rfl) H
    .rintro j b ⟨i0,hm,Px⟩;exact⟨i0,ae6 hm,Px⟩
    .intro j hj hji b hb;refine⟨i,?_,hj⟩;rw[show r.jX ρ=some b from hb];exact List.mem_cons_self
    .left
     refine⟨hw,fun w' tQ=>oL (VW hr hg.agree (aeU hv tQ))⟩
   have ae8:∀ (d:Option Nat),d=o.dst→Region.wanted o (yielded ops a.tmps)=false→(∀ t,d=some t→t < N)→eo P t' (ρ.put d undef) w rd K →
       oN P ops (yN pm rd) (tO dl N K) (f+1) listed a w:=by
    intro d hd hw nZ vh;subst hd;have H:=ih _ t' _ _ _ _ qM vh (hg.put _ undef nZ) (GM hc eO) eu;refine V5 iE ho (Region.noSelect_spec yL) (bs:=fun _=>False) (c:=fun b=>w.heap[b]?) (B':=yN pm rd) (fun _ _ h=>h) (fun _ _ _ _ h=>h.elim) f listed a w hc El eO ?_ (fun _ h=>h.elim) H
    right
    exact⟨hw,rfl⟩
   cases s with
   |r d r=>
    simp only[Er,Option.some.injEq]at h;subst h;obtain⟨hr,hd,xe,nZ⟩:=V9 hs;obtain⟨v,hv,vh⟩:=lP;exact taken v d r hd hr hv (by simp[Region.wanted,xe]) nZ vh
   |gr s' b' d r=>
    simp only[Er,Option.some.injEq]at h;subst h;obtain⟨hr,hd,⟨j,xe,Ax⟩,nZ⟩:=ae4 hs;obtain⟨c,nf,hy,hn⟩:=lP;have hw:=Eg xe Ax hg nf;by_cases nh:ik c b'=true
    .obtain⟨v,hv,vh⟩:=hy nh;exact taken v d r hd hr hv (by rw[hw,nh]) nZ vh
    .exact ae8 d hd (by rw[hw];simpa using nh) nZ (hn (by simpa using nh))
   |e d e=>simp[Er]at h
   |ge s b d e=>simp[Er]at h
  .split at h
   .rename_i xf;cases h;exact⟨fun _=>⟨ρ,hg,lP⟩,fun i hi=>(by rw[xf]at hi;cases hi)⟩
   .rename_i i xf;obtain⟨t',qM,h⟩:=Θ.1 h;obtain⟨s,tP,h⟩:=Θ.1 h;unfold B1 at tP;obtain⟨o,ho,hs⟩:=Θ.1 tP;clear tP;have eO:i∈Region.ready .any ops listed:=by rw[xf];exact List.mem_cons_self
    refine⟨fun h0=>(by rw[xf]at h0;cases h0),fun i' dZ=>?_⟩;have:i'=i:=by rw[xf]at dZ;simpa using dZ
    subst this;cases s with
    |e d e=>
     simp only[Ep,Option.some.injEq]at h;subst h;obtain⟨he,hd,xe,nZ⟩:=Pw hs;exact effect i' o t' d e ho he hd nZ eO qM (by simp[Region.wanted,xe]) lP
    |ge s' b' d e=>
     simp only[Ep,Option.some.injEq]at h;subst h;obtain⟨he,hd,⟨j,xe,Ax⟩,nZ⟩:=ae5 hs;obtain⟨c,nf,hy,hn⟩:=lP;have hw:=Eg xe Ax hg nf;by_cases nh:ik c b'=true
     .exact effect i' o t' d e ho he hd nZ eO qM (by rw[hw,nh]) (hy nh)
     .refine⟨o,ho,?_⟩;rw[if_neg (by rw[hw];exact nh)];subst hd;exact⟨fun _ _=>rfl,ih _ t' _ _ _ rd qM (hn (by simpa using nh)) (hg.put _ undef nZ) (GM hc eO) eu⟩
    |r d r=>simp[Ep]at h
    |gr s b d r=>simp[Ep]at h
   .rename_i i j xf;obtain⟨t1,rM,h⟩:=Θ.1 h;obtain⟨t2,xg,h⟩:=Θ.1 h;obtain⟨s1,cw,h⟩:=Θ.1 h;obtain⟨s2,bU,h⟩:=Θ.1 h;unfold B1 at cw bU;obtain⟨o1,tR,ae9⟩:=Θ.1 cw;obtain⟨o2,xh,Py⟩:=Θ.1 bU;clear cw bU;have ae':i∈Region.ready .any ops listed:=by rw[xf];exact List.mem_cons_self
    have afa:j∈Region.ready .any ops listed:=by rw[xf];exact List.mem_cons_of_mem _ List.mem_cons_self
    cases s1 with
    |e d e=>cases s2 with
     |e d' e'=>
      simp only[yM,Option.some.injEq]at h;subst h;obtain⟨Ay,BT,afb,afc⟩:=Pw ae9;obtain⟨xi,GD,afd,afe⟩:=Pw Py;refine⟨fun h0=>(by rw[xf]at h0;cases h0),fun i' dZ=>?_⟩;rw[xf]at dZ;have:i'=i\/i'=j:=by simpa using dZ
      rcases this with rfl |rfl
      .exact effect i' o1 t1 d e tR Ay BT afc ae' rM (by simp[Region.wanted,afb]) lP.1
      .exact effect i' o2 t2 d' e' xh xi GD afe afa xg (by simp[Region.wanted,afd]) lP.2
     |r d r=>simp[yM]at h
     |gr s b d r=>simp[yM]at h
     |ge s b d e=>simp[yM]at h
    |r d r=>cases s2<;>simp[yM]at h
    |gr s b d r=>cases s2<;>simp[yM]at h
    |ge s b d e=>cases s2<;>simp[yM]at h
   .cases h
def D.oP:D->Option (List S)
 |.nil=>some []
 |.r _ none dd q t=>t.oP.map (S.r dd q :: ·)
 |.r _ (some (s,b)) dd q t=>t.oP.map (S.gr s b dd q :: ·)
 |.e _ none dd q [] t=>t.oP.map (S.e dd q :: ·)
 |.e _ (some (s,b)) dd q [] t=>t.oP.map (S.ge s b dd q :: ·)
 |_=>none
theorem Es{w w':World}:∀rd,oO [] w w' rd:=by
 intro rd
 induction rd with
 |nil=>trivial
 |cons p rd ih=>exact⟨fun h=>by simp[Eo]at h,ih⟩
theorem Wc{K:Env->World->Prop}:∀(t:D) (st:List S) (ρ:Env) (w:World) (rd:List (Nat×Nat)),t.oP=some st->wpS P st ρ w K->eo P t ρ w rd K:=by
 intro t
 induction t with
 |nil=>intro st ρ w rd h hw;simp only[D.oP,Option.some.injEq]at h;subst h;exact hw
 |r i g d r t ih=>
  intro st ρ w rd h hw;cases g with
  |none=>
   simp only[D.oP]at h;obtain⟨eP,h1,rfl⟩:=Δ.1 h;obtain⟨v,hv,hk⟩:=hw;exact⟨v,hv,ih _ _ _ _ h1 hk⟩
  |some g=>
   obtain⟨s,b⟩:=g;simp only[D.oP]at h;obtain⟨eP,h1,rfl⟩:=Δ.1 h;obtain⟨c,hc,hy,hn⟩:=hw;exact⟨c,hc,fun e=>let⟨v,hv,hk⟩:=hy e;⟨v,hv,ih _ _ _ _ h1 hk⟩,fun e=>ih _ _ _ _ h1 (hn e)⟩
 |e i g d e fl t ih=>
  intro st ρ w rd h hw;cases fl with
  |cons x xs=>cases g with
   |none=>simp[D.oP]at h
   |some g=>obtain⟨s,b⟩:=g;simp[D.oP]at h
  |nil=>
   cases g with
   |none=>
    simp only[D.oP]at h;obtain⟨eP,h1,rfl⟩:=Δ.1 h;exact E.mono (fun v w' hk=>⟨Es rd,ih _ _ _ _ h1 hk⟩) e hw
   |some g=>
    obtain⟨s,b⟩:=g;simp only[D.oP]at h;obtain⟨eP,h1,rfl⟩:=Δ.1 h;obtain⟨c,hc,hy,hn⟩:=hw;exact⟨c,hc,fun e'=>E.mono (fun v w' hk=>⟨Es rd,ih _ _ _ _ h1 hk⟩) e (hy e'),fun e'=>ih _ _ _ _ h1 (hn e')⟩
 |e2=>intro st ρ w rd h hw;simp[D.oP]at h
theorem Wd{id:Nat}{pm:List Nat}{Q:Exit→Act→World→Prop}{K:Env→World→Prop}{t:D}{ρ:Env}{a:Act}{w:World}(hm:P.follows .mixedOrders=true)(iE:Ej ops pm=true)
   (yL:Region.noSelect ops=true) (ht:vg P N ops pm ops.size (Array.replicate ops.size false)=some t) (h:eo P t ρ w.drew [] K) (hg:Good dl N ρ a)
   (hQ:∀ρ' a' w',Good dl N ρ' a'->K ρ' w'->Q .normal a' w'):(Code.region id ops true).wp P Q a w:=by
 refine wp_region_any hm (Pu (B:=yN pm []) (Q:=tO dl N K) (fun a' w' ⟨ρ',h1,h2⟩=>hQ ρ' a' w' h1 h2) _ _ _ _ ?_);refine V' iE yL _ _ t ρ a w.drew [] ht h hg ?_ (fun _ _ h=>by cases h);intro j oj _ hl;have:(Array.replicate ops.size false).getD j false=false:=by
  rcases Nat.lt_or_ge j ops.size with h |h
  .simp[h]
  .simp[h]
 rw[this]at hl;cases hl
end
end
section
open Go
variable {dl:List Deferred}
def oT:O->List Nat
 |.t n=>[n]
 |.c _=>[]
def Et:Option O->List Nat
 |some x=>oT x
 |none=>[]
def lT(l:List O):List Nat:=l.flatMap oT
def pT(l:List (Nat×Nat×O)):List Nat:=l.flatMap fun p=>oT p.2.2
def R.tmps:R->List Nat
 |.mv x=>oT x
 |.nn x=>oT x
 |.fa _ x=>oT x
 |.l1 x=>oT x
 |.ln _ x=>oT x
 |.bi _ x y=>oT x++oT y
 |.eq _ _ x y=>oT x++oT y
 |.no x=>oT x
 |.ng x=>oT x
 |.cv _ x=>oT x
 |.len x=>oT x
 |.D6 x=>oT x
 |.yG x=>oT x
 |.cap x=>oT x
 |.ia _ s i=>oT s++oT i
 |.D7 s i=>oT s++oT i
 |.fl _ x=>oT x
 |.D8 _ _ x=>oT x
 |.sl _ x lo hi mx=>oT x++Et lo++Et hi++Et mx
 |.D9 x lo hi=>oT x++Et lo++Et hi
 |.bd _ ps=>pT ps
 |.pk c a b=>oT c++oT a++oT b
 |.ex _ x=>oT x
 |.mi _ x=>oT x
 |.mm _ x y=>oT x++oT y
 |.BS _ _ x y=>oT x++oT y
 |.mf _ f c=>lT f++lT c
def E.tmps:E->Option (List Nat)
 |.st _ x v=>some (oT x++oT v)
 |.bx _ x=>some (oT x)
 |.al _ _=>some []
 |.bs _ _ _ ps=>some (pT ps)
 |.ms _ _ _ _ l c=>some (oT l++oT c)
 |.ap _ _ _ _ s x=>some (oT s++oT x)
 |.cp _ d s=>some (oT d++oT s)
 |.call _ args=>some (lT args)
 |.raw _=>none
def look(s:List (Nat×O))(t:Nat):O:=
 match s with
 |[]=>.t t
 |(d,o)::r=>if d=t then o else look r t
def O.sub(s:List (Nat×O)):O->O
 |.t n=>look s n
 |.c v=>.c v
def B2(s:List (Nat×O))(x:Option O):Option O:=x.map (O.sub s)
def GO(s:List (Nat×O))(l:List (Nat×Nat×O)):List (Nat×Nat×O):=l.map fun p=>(p.1,p.2.1,p.2.2.sub s)
def R.sub(s:List (Nat×O)):R->R
 |.mv x=>.mv (x.sub s)
 |.nn x=>.nn (x.sub s)
 |.fa o x=>.fa o (x.sub s)
 |.l1 x=>.l1 (x.sub s)
 |.ln n x=>.ln n (x.sub s)
 |.bi op x y=>.bi op (x.sub s) (y.sub s)
 |.eq k n x y=>.eq k n (x.sub s) (y.sub s)
 |.no x=>.no (x.sub s)
 |.ng x=>.ng (x.sub s)
 |.cv k x=>.cv k (x.sub s)
 |.len x=>.len (x.sub s)
 |.D6 x=>.D6 (x.sub s)
 |.yG x=>.yG (x.sub s)
 |.cap x=>.cap (x.sub s)
 |.ia sz a i=>.ia sz (a.sub s) (i.sub s)
 |.D7 a i=>.D7 (a.sub s) (i.sub s)
 |.fl o x=>.fl o (x.sub s)
 |.D8 o n x=>.D8 o n (x.sub s)
 |.sl sz x lo hi mx=>.sl sz (x.sub s) (B2 s lo) (B2 s hi) (B2 s mx)
 |.D9 x lo hi=>.D9 (x.sub s) (B2 s lo) (B2 s hi)
 |.bd z ps=>.bd z (GO s ps)
 |.pk c a b=>.pk (c.sub s) (a.sub s) (b.sub s)
 |.ex i x=>.ex i (x.sub s)
 |.mi t x=>.mi t (x.sub s)
 |.mm m x y=>.mm m (x.sub s) (y.sub s)
 |.BS n f x y=>.BS n f (x.sub s) (y.sub s)
 |.mf fn f c=>.mf fn (f.map (O.sub s)) (c.map (O.sub s))
def E.sub(s:List (Nat×O)):E->E
 |.st n x v=>.st n (x.sub s) (v.sub s)
 |.bx t x=>.bx t (x.sub s)
 |.al t z=>.al t z
 |.bs el n c ps=>.bs el n c (GO s ps)
 |.ms el sz b z l c=>.ms el sz b z (l.sub s) (c.sub s)
 |.ap el sz b z a x=>.ap el sz b z (a.sub s) (x.sub s)
 |.cp sz d a=>.cp sz (d.sub s) (a.sub s)
 |.call f args=>.call f (args.map (O.sub s))
 |.raw o=>.raw o
section
variable {ρ ρ':Env} {s:List (Nat×O)}
theorem ey{x:O}(h:∀t∈oT x,ρ.get t=(look s t).ev ρ'):x.ev ρ=(x.sub s).ev ρ':=by
 cases x with
 |t n=>exact h n (by simp[oT])
 |c v=>rfl
theorem GP{x:Option O}(h:∀t∈Et x,ρ.get t=(look s t).ev ρ'):rK ρ x=rK ρ' (B2 s x):=by
 cases x with
 |none=>rfl
 |some x=>simp only[B2,Option.map_some,rK,ey (x:=x) h]
theorem Ku:∀{l:List O},(∀t∈lT l,ρ.get t=(look s t).ev ρ')->gW ρ l=gW ρ' (l.map (O.sub s))
 |[],_=>rfl
 |x::l,h=>by
  have h1:∀t∈oT x,ρ.get t=(look s t).ev ρ':=fun t ht=>h t (by simp[lT,ht])
  have h2:∀t∈lT l,ρ.get t=(look s t).ev ρ':=fun t ht=>h t (by simp only[lT,List.flatMap_cons,List.mem_append];exact .inr ht)
  simp only[gW,List.map_cons,ey h1,Ku h2]
theorem Pz:∀{l:List (Nat×Nat×O)},(∀t∈pT l,ρ.get t=(look s t).ev ρ')->nX ρ l=nX ρ' (GO s l)
 |[],_=>rfl
 |(a,b,x)::l,h=>by
  have h1:∀t∈oT x,ρ.get t=(look s t).ev ρ':=fun t ht=>h t (by simp[pT,ht])
  have h2:∀t∈pT l,ρ.get t=(look s t).ev ρ':=fun t ht=>h t (by simp only[pT,List.flatMap_cons,List.mem_append];exact .inr ht)
  have h3:=Pz h2;simp only[GO]at h3;simp only[nX,GO,List.map_cons,ey h1,h3]
theorem inl{l m:List Nat}(h:∀t∈l++m,ρ.get t=(look s t).ev ρ'):∀t∈l,ρ.get t=(look s t).ev ρ':=fun t ht=>h t (List.mem_append_left _ ht)
theorem inr{l m:List Nat}(h:∀t∈l++m,ρ.get t=(look s t).ev ρ'):∀t∈m,ρ.get t=(look s t).ev ρ':=fun t ht=>h t (List.mem_append_right _ ht)
theorem We{w:World}(r:R)(h:∀t∈r.tmps,ρ.get t=(look s t).ev ρ'):r.ev w ρ=(r.sub s).ev w ρ':=by
 cases r with
 |mv x=>simp only[R.ev,R.sub,ey (x:=x) h]
 |nn x=>simp only[R.ev,R.sub,ey (x:=x) h]
 |fa o x=>simp only[R.ev,R.sub,ey (x:=x) h]
 |l1 x=>simp only[R.ev,R.sub,ey (x:=x) h]
 |ln n x=>simp only[R.ev,R.sub,ey (x:=x) h]
 |bi op x y=>simp only[R.ev,R.sub,ey (x:=x) (inl h),ey (x:=y) (inr h)]
 |eq k n x y=>simp only[R.ev,R.sub,ey (x:=x) (inl h),ey (x:=y) (inr h)]
 |no x=>simp only[R.ev,R.sub,ey (x:=x) h]
 |ng x=>simp only[R.ev,R.sub,ey (x:=x) h]
 |cv k x=>simp only[R.ev,R.sub,ey (x:=x) h]
 |len x=>simp only[R.ev,R.sub,ey (x:=x) h]
 |D6 x=>simp only[R.ev,R.sub,ey (x:=x) h]
 |yG x=>simp only[R.ev,R.sub,ey (x:=x) h]
 |cap x=>simp only[R.ev,R.sub,ey (x:=x) h]
 |ia sz a i=>simp only[R.ev,R.sub,ey (x:=a) (inl h),ey (x:=i) (inr h)]
 |D7 a i=>simp only[R.ev,R.sub,ey (x:=a) (inl h),ey (x:=i) (inr h)]
 |fl o x=>simp only[R.ev,R.sub,ey (x:=x) h]
 |D8 o n x=>simp only[R.ev,R.sub,ey (x:=x) h]
 |sl sz x lo hi mx=>simp only[R.ev,R.sub,ey (x:=x) (inl (inl (inl h))),GP (x:=lo) (inr (inl (inl h))),GP (x:=hi) (inr (inl h)),GP (x:=mx) (inr h)]
 |D9 x lo hi=>simp only[R.ev,R.sub,ey (x:=x) (inl (inl h)),GP (x:=lo) (inr (inl h)),GP (x:=hi) (inr h)]
 |bd z ps=>simp only[R.ev,R.sub,Pz (l:=ps) h]
 |pk c a b=>simp only[R.ev,R.sub,ey (x:=c) (inl (inl h)),ey (x:=a) (inr (inl h)),ey (x:=b) (inr h)]
 |ex i x=>simp only[R.ev,R.sub,ey (x:=x) h]
 |mi t x=>simp only[R.ev,R.sub,ey (x:=x) h]
 |mm m x y=>simp only[R.ev,R.sub,ey (x:=x) (inl h),ey (x:=y) (inr h)]
 |BS n f x y=>simp only[R.ev,R.sub,ey (x:=x) (inl h),ey (x:=y) (inr h)]
 |mf fn f c=>simp only[R.ev,R.sub,Ku (l:=f) (inl h),Ku (l:=c) (inr h)]
theorem Wf{P:Program}{w:World}{K:Value->World->Prop}(e:E)(ts:List Nat)(he:e.tmps=some ts)(h:∀t∈ts,ρ.get t=(look s t).ev ρ'):e.wp P w ρ K↔(e.sub s).wp P w ρ' K:=by
 cases e with
 |st n x v=>cases he;simp only[E.wp,E.sub,ey (x:=x) (inl h),ey (x:=v) (inr h)]
 |bx t x=>cases he;simp only[E.wp,E.sub,ey (x:=x) h]
 |al t z=>exact Iff.rfl
 |bs el n c ps=>cases he;simp only[E.wp,E.sub,Pz (l:=ps) h]
 |ms el sz b z l c=>cases he;simp only[E.wp,E.sub,ey (x:=l) (inl h),ey (x:=c) (inr h)]
 |ap el sz b z a x=>cases he;simp only[E.wp,E.sub,ey (x:=a) (inl h),ey (x:=x) (inr h)]
 |cp sz d a=>cases he;simp only[E.wp,E.sub,ey (x:=d) (inl h),ey (x:=a) (inr h)]
 |call f args=>cases he;simp only[E.wp,E.sub,Ku (l:=args) h]
 |raw o=>cases he
end
def S.tmps:S->Option (List Nat)
 |.r _ q=>some q.tmps
 |.e _ q=>q.tmps
 |.gr s _ _ q=>some (s::q.tmps)
 |.ge s _ _ q=>q.tmps.map (s :: ·)
def sT(s:S):List Nat:=s.tmps.getD []
def alive(l:List S)(kp:List Nat)(t:Nat):Bool:=kp.contains t||l.any fun s=>(sT s).contains t
def S.dst:S->Option Nat
 |.r d _=>d
 |.e d _=>d
 |.gr _ _ d _=>d
 |.ge _ _ d _=>d
def S.sub(m:List (Nat×O)):S->Option S
 |.r d q=>some (.r d (q.sub m))
 |.e d q=>some (.e d (q.sub m))
 |.gr s b d q=>match look m s with
  |.t s'=>some (.gr s' b d (q.sub m))
  |.c _=>none
 |.ge s b d q=>match look m s with
  |.t s'=>some (.ge s' b d (q.sub m))
  |.c _=>none
def Kv(l:List S)(kp:List Nat)(d:Nat)(m:List (Nat×O)):Bool:=m.all fun p=>match p.2 with
 |.t n=>n != d || !(alive l kp p.1)
 |.c _=>true
def kill(d:Nat)(m:List (Nat×O)):List (Nat×O):=m.filter fun p=>p.1 != d
def Az(l:List S)(kp:List Nat):Option Nat->List (Nat×O)->Option (List (Nat×O))
 |none,m=>some m
 |some d,m=>if Kv l kp d m then some (kill d m)else none
def PC:S->Option (Nat×O)
 |.r (some d) (.mv x)=>some (d,x)
 |_=>none
def GQ(N:Nat):O->Bool
 |.t n=>decide (n<N)
 |.c _=>true
def aff(d:Nat):O->Bool
 |.t n=>n != d
 |.c _=>true
def vj(N:Nat)(kp:List Nat):List (Nat×O)->List S->Option (List S)
 |m,[]=>if m.all fun p=>!(kp.contains p.1)then some []else none
 |m,s::l=>
  if s.tmps.isNone then none else
  match PC s with
  |some (d,x)=>
   if !(kp.contains d)&&GQ N x&&aff d (x.sub m)then(Az l kp (some d) m).bind fun m'=>vj N kp ((d,x.sub m)::m') l
   else(s.sub m).bind fun s'=>(Az l kp s.dst m).bind fun m'=>(vj N kp m' l).map (s' :: ·)
  |none=>(s.sub m).bind fun s'=>(Az l kp s.dst m).bind fun m'=>(vj N kp m' l).map (s' :: ·)
section
variable {P:Program} {N:Nat} {ops:Array Oper}
theorem Wg{d:Nat}{m:List (Nat×O)}{t:Nat}(ht:t≠d):look (kill d m) t=look m t:=by
 induction m with
 |nil=>rfl
 |cons p m ih=>
  obtain⟨e,o⟩:=p;unfold kill at ih ⊢;rw[List.filter_cons];by_cases he:e=d
  .subst he;simp only[bne_self_eq_false,Bool.false_eq_true,if_false];rw[ih];simp only[look,if_neg (fun h:e=t=>ht h.symm)]
  .simp only[bne_iff_ne,ne_eq,he,not_false_eq_true,if_true,look]
   split
   .rfl
   .exact ih
theorem afg{d:Nat}{m:List (Nat×O)}:look (kill d m) d=.t d:=by
 induction m with
 |nil=>rfl
 |cons p m ih=>
  obtain⟨e,o⟩:=p;unfold kill at ih ⊢;rw[List.filter_cons];by_cases he:e=d
  .subst he
   simpa using ih
  .simp only[bne_iff_ne,ne_eq,he,not_false_eq_true,if_true,look,if_neg he];exact ih
theorem afh{l:List S}{kp:List Nat}{d:Nat}{m:List (Nat×O)}(h:Kv l kp d m=true){t:Nat}(ht:alive l kp t=true)(bJ:t≠d):look m t≠.t d:=by
 induction m with
 |nil=>simp only[look];intro hh;cases hh;exact bJ rfl
 |cons p m ih=>
  obtain⟨e,o⟩:=p;simp only[Kv,List.all_cons,Bool.and_eq_true]at h;simp only[look]
  split
  .rename_i he;subst he;cases o with
   |c v=>intro hh;cases hh
   |t n=>
    intro hh;cases hh;simp[ht]at h
  .exact ih (by simpa[Kv]using h.2)
def Cp(l:List S)(kp:List Nat)(m:List (Nat×O))(ρ ρ':Env):Prop:=∀t,alive l kp t=true->ρ.get t=(look m t).ev ρ'
theorem PD{s:S}{l:List S}{kp:List Nat}{t:Nat}(h:alive l kp t=true):alive (s::l) kp t=true:=by
 simp only[alive,List.any_cons,Bool.or_eq_true]at h ⊢;rcases h with h |h
 .exact .inl h
 .exact .inr (.inr h)
theorem afi{s:S}{l:List S}{kp:List Nat}{t:Nat}(h:t∈sT s):alive (s::l) kp t=true:=by
 simp[alive,h]
theorem GR{ρ:Env}{d t:Nat}{v:Value}(h:t≠d):(ρ.put (some d) v).get t=ρ.get t:=by
 simp only[Env.put,Env.get,if_neg (fun hh:d=t=>h hh.symm)]
theorem PE{ρ:Env}{d:Nat}{v:Value}:(ρ.put (some d) v).get d=some v:=by simp[Env.put,Env.get]
theorem Eu{s:S}{l:List S}{kp:List Nat}{m m':List (Nat×O)}{ρ ρ':Env}(h:Cp (s::l) kp m ρ ρ'){d:Option Nat}(hk:Az l kp d m=some m')(v:Value):Cp l kp m' (ρ.put d v) (ρ'.put d v):=by
 intro t ht;cases d with
 |none=>
  simp only[Az,Option.some.injEq]at hk;subst hk;exact h t (PD ht)
 |some d=>
  simp only[Az]at hk
  split at hk
  .rename_i Wh;simp only[Option.some.injEq]at hk;subst hk;by_cases Kw:t=d
   .subst Kw;rw[afg,PE];exact PE.symm
   .rw[GR Kw,Wg Kw,h t (PD ht)];have:=afh Wh ht Kw;cases hl:look m t with
    |c v=>rfl
    |t n=>
     rw[hl]at this;have hn:n≠d:=fun hh=>this (by rw[hh])
     exact(GR hn).symm
  .cases hk
def Env.del(ρ:Env)(d:Nat):Env:=ρ.filter fun p=>p.1 != d
theorem PF{ρ:Env}{d t:Nat}:(ρ.del d).get t=if t=d then none else ρ.get t:=by
 induction ρ with
 |nil=>simp[Env.del,Env.get]
 |cons p ρ ih=>
  obtain⟨e,v⟩:=p;unfold Env.del at ih ⊢;rw[List.filter_cons];by_cases he:e=d
  .subst he;simp only[bne_self_eq_false,Bool.false_eq_true,if_false];rw[ih];by_cases ht:t=e
   .simp[ht]
   .simp only[if_neg ht,Env.get,if_neg (fun hh:e=t=>ht hh.symm)]
  .simp only[bne_iff_ne,ne_eq,he,not_false_eq_true,if_true,Env.get];by_cases het:e=t
   .subst het;simp[he]
   .simp only[het,if_false];exact ih
theorem afj{ρ:Env}{a:Act}(h:Good dl N ρ a){d:Nat}(hd:d<N)(v:Value):Good dl N (ρ.del d) (a.put (some d) v):=by
 have h1:=h.put (some d) v (fun t ht=>by cases ht;exact hd);refine⟨h1.size,h1.defers,fun t u hu=>?_⟩;rw[PF]at hu
 split at hu
 .cases hu
 .rename_i bJ;exact h1.get t u (by rw[GR bJ];exact hu)
theorem Wi{ρ ρ':Env}:∀{kp:List Nat},(∀t∈kp,ρ.get t=ρ'.get t)->ρ.aI kp=ρ'.aI kp
 |[],_=>rfl
 |t::kp,h=>by
  have h1:=h t (by simp);have h2:=Wi (kp:=kp) (fun t ht=>h t (by simp[ht]));simp only[Env.aI,h1,h2]
theorem afk{m:List (Nat×O)}{t:Nat}(h:∀p∈m,p.1≠t):look m t=.t t:=by
 induction m with
 |nil=>rfl
 |cons p m ih=>
  obtain⟨e,o⟩:=p;simp only[look];rw[if_neg (h (e,o) (by simp)),ih (fun p hp=>h p (by simp[hp]))]
theorem PG{o:Oper}{x:O}(hr:dx P o.op=some (.mv x)){ρ:Env}{a:Act}{w:World}(hg:Good dl N ρ a)(hx:GQ N x=true):∃v,(∀u,x.ev ρ=some u->u=v)/\o.wp P a w (fun a' w'=>a'=a.put o.dst v/\w'=w) wY:=by
 cases x with
 |c v=>
  refine⟨v,fun u hu=>(by cases hu;rfl),?_⟩;refine Oper.wp_mono ?_ (Ee (K:=fun v' w'=>v'=v/\w'=w) hr (v:=v) rfl ⟨rfl,rfl⟩ a hg.agree);rintro a' w' ⟨v',rfl,rfl,rfl⟩;exact⟨rfl,rfl⟩
 |t n=>
  have hn:n<a.tmps.size:=by rw[hg.size];simpa[GQ]using hx
  obtain⟨v,hv⟩:∃v,a.tmps[n]?=some v:=⟨a.tmps[n],by simp[hn]⟩
  have iF:Good dl N ((n,v)::ρ) a:=⟨hg.size,hg.defers,fun t u hu=>by
   simp only[Env.get]at hu
   split at hu
   ·rename_i hh;subst hh;rw[hv];exact hu
   ·exact hg.get t u hu⟩
  have kP:(R.mv (O.t n)).ev w ((n,v)::ρ)=some v:=by simp[R.ev,O.ev,Env.get]
  refine⟨v,fun u hu=>?_,?_⟩
  .have:=hg.get n u hu;rw[hv]at this;exact(Option.some.inj this).symm
  .refine Oper.wp_mono ?_ (Ee (K:=fun v' w'=>v'=v/\w'=w) hr (v:=v) kP ⟨rfl,rfl⟩ a iF.agree);rintro a' w' ⟨v',rfl,rfl,rfl⟩;exact⟨rfl,rfl⟩
theorem afl{s:S}{d:Nat}{x:O}(h:PC s=some (d,x)):s=.r (some d) (.mv x):=by
 unfold PC at h
 split at h
 .cases h;rfl
 .cases h
theorem Wj{kp:List Nat}{G:Act→World→Prop}{K:Env→World→Prop}:∀ (l:List Oper) (st eP:List S) (m:List (Nat×O)) (ρ ρ':Env) (a:Act) (w:World),il P N ops l=some st→vj N kp m st=some eP →
   wpS P eP ρ' w (fun ρ w=>K (ρ.aI kp) w)->Good dl N ρ a->Cp st kp m ρ ρ'->(∀ρ' a' w',Good dl N ρ' a'->K (ρ'.aI kp) w'->G a' w')->mA P ops G l a w:=by
 intro l
 induction l with
 |nil=>
  intro st eP m ρ ρ' a w h1 hc h2 h3 hC h4;simp only[il,Option.some.injEq]at h1;subst h1;simp only[vj]at hc
  split at hc
  .rename_i hk;simp only[Option.some.injEq]at hc;subst hc
   have afm:ρ.aI kp=ρ'.aI kp:=Wi (fun t ht=>by
    have:=hC t (by simp[alive,ht])
    rw[afk (fun p hp hh=>by
     have:=List.all_eq_true.1 hk p hp
     simp[hh,ht]at this)]at this
    exact this)
   refine h4 _ _ _ h3 ?_;rw[afm];exact h2
  .cases hc
 |cons o l ih=>
  intro st eP m ρ ρ' a w h1 hc h2 h3 hC h4;simp only[il]at h1
  split at h1
  .rename_i s t hs ht;simp only[Option.some.injEq]at h1;subst h1;simp only[vj]at hc
   split at hc
   .cases hc
   rename_i PH;obtain⟨ts,lu⟩:∃ts,s.tmps=some ts:=by
    cases hh:s.tmps with
    |none=>simp[hh]at PH
    |some ts=>exact⟨ts,rfl⟩
   have B3:∀x∈ts,ρ.get x=(look m x).ev ρ':=fun x hx=>hC x (afi (by simp[sT,lu,hx]))
   have plain:((s.sub m).bind fun s'=>(Az t kp s.dst m).bind fun m'=>(vj N kp m' t).map (s' :: ·))=some eP->mA P ops G (o::l) a w:=by
    intro hc;obtain⟨s',fK,hc⟩:=Θ.1 hc;obtain⟨m',iD,hc⟩:=Θ.1 hc;obtain⟨t',qM,hc⟩:=Δ.1 hc;subst hc;unfold sJ at hs
    split at hs
    .rename_i hd;have ja:=Ef hd
     split at hs
     .rename_i hg;have hw:Region.wanted o (yielded ops a.tmps)=true:=by simp[Region.wanted,hg]
      unfold mA;rw[if_pos hw]
      split at hs
      .rename_i r hr;simp only[Option.some.injEq]at hs;subst hs;simp only[S.sub,Option.some.injEq]at fK;subst fK;simp only[S.tmps,Option.some.injEq]at lu;subst lu;obtain⟨v,hv,hk⟩:=h2;rw[<- We r B3]at hv;refine Oper.wp_mono ?_ (Ee (K:=fun v' w'=>v'=v/\w'=w) hr hv ⟨rfl,rfl⟩ a h3.agree);rintro a' w' ⟨v',rfl,rfl,rfl⟩;exact ih t t' m' _ _ _ _ ht qM hk (h3.put _ _ ja) (Eu hC iD _) h4
      .simp only[Option.some.injEq]at hs;subst hs;simp only[S.sub,Option.some.injEq]at fK;subst fK;simp only[S.tmps]at lu;have jD:=(Wf _ ts lu B3).2 h2;refine Oper.wp_mono ?_ (GH jD a h3.agree);rintro a' w' ⟨v',rfl,hk⟩;exact ih t t' m' _ _ _ _ ht qM hk (h3.put _ _ ja) (Eu hC iD _) h4
     .rename_i j want hg
      split at hs
      .rename_i sj Kq
       split at hs
       .rename_i r hr;simp only[Option.some.injEq]at hs;subst hs;simp only[S.tmps,Option.some.injEq]at lu;subst lu;simp only[S.sub]at fK
        split at fK
        .rename_i s2 PI;simp only[Option.some.injEq]at fK;subst fK;obtain⟨c,hc,hy,hn⟩:=h2;have B4:ρ.get sj=some c:=by rw[B3 sj (by simp),PI];exact hc
         have hw:=Eg hg Kq h3 B4;unfold mA;by_cases mZ:ik c want=true
         .rw[if_pos (by rw[hw,mZ])];obtain⟨v,hv,hk⟩:=hy mZ;rw[<- We r (fun x hx=>B3 x (by simp[hx]))]at hv;refine Oper.wp_mono ?_ (Ee (K:=fun v' w'=>v'=v/\w'=w) hr hv ⟨rfl,rfl⟩ a h3.agree);rintro a' w' ⟨v',rfl,rfl,rfl⟩;exact ih t t' m' _ _ _ _ ht qM hk (h3.put _ _ ja) (Eu hC iD _) h4
         .rw[if_neg (by rw[hw];exact mZ)];exact ih t t' m' _ _ _ _ ht qM (hn (by simpa using mZ)) (h3.put _ _ ja) (Eu hC iD _) h4
        .cases fK
       .simp only[Option.some.injEq]at hs;subst hs;simp only[S.tmps,Option.map_eq_some_iff]at lu;obtain⟨te,jY,lu⟩:=lu;subst lu;simp only[S.sub]at fK
        split at fK
        .rename_i s2 PI;simp only[Option.some.injEq]at fK;subst fK;obtain⟨c,hc,hy,hn⟩:=h2;have B4:ρ.get sj=some c:=by rw[B3 sj (by simp),PI];exact hc
         have hw:=Eg hg Kq h3 B4;unfold mA;by_cases mZ:ik c want=true
         .rw[if_pos (by rw[hw,mZ])];have jD:=(Wf _ te jY (fun x hx=>B3 x (by simp[hx]))).2 (hy mZ);refine Oper.wp_mono ?_ (GH jD a h3.agree);rintro a' w' ⟨v',rfl,hk⟩;exact ih t t' m' _ _ _ _ ht qM hk (h3.put _ _ ja) (Eu hC iD _) h4
         .rw[if_neg (by rw[hw];exact mZ)];exact ih t t' m' _ _ _ _ ht qM (hn (by simpa using mZ)) (h3.put _ _ ja) (Eu hC iD _) h4
        .cases fK
      .cases hs
    .cases hs
   split at hc
   .rename_i d x hmv;have Ev:=afl hmv;subst Ev
    split at hc
    .rename_i Kx;simp only[Bool.and_eq_true,Bool.not_eq_true']at Kx;obtain⟨⟨B5,bg⟩,Wk⟩:=Kx;obtain⟨m',iD,hc⟩:=Θ.1 hc;obtain⟨hr,Wl,hg,hN⟩:=V9 hs;have hw:Region.wanted o (yielded ops a.tmps)=true:=by simp[Region.wanted,hg]
     unfold mA;rw[if_pos hw];obtain⟨v,hv,lP⟩:=PG (w:=w) hr h3 bg;refine Oper.wp_mono ?_ lP;rintro a' w' ⟨rfl,rfl⟩;rw[<- Wl];simp only[S.tmps,Option.some.injEq]at lu;subst lu;have kP:x.ev ρ=(x.sub m).ev ρ':=ey B3;have nZ:=hN d rfl;have key:∃eQ,Good dl N eQ (a.put (some d) v)/\eQ.get d=x.ev ρ/\∀t,t≠d->eQ.get t=ρ.get t:=by
      cases hx:x.ev ρ with
      |none=>exact⟨ρ.del d,afj h3 nZ v,by rw[PF,if_pos rfl],fun t ht=>by rw[PF,if_neg ht]⟩
      |some u=>
       obtain rfl:=hv u hx;exact⟨ρ.put (some d) u,h3.put _ _ (fun t ht=>by cases ht;exact nZ),PE,fun t ht=>GR ht⟩
     obtain⟨eQ,g1,g2,g3⟩:=key;refine ih t eP _ eQ ρ' _ _ ht hc h2 g1 ?_ h4;intro y hy;simp only[Az]at iD
     split at iD
     .rename_i Wh;simp only[Option.some.injEq]at iD;subst iD;by_cases Ky:y=d
      .subst Ky;simp only[look,if_pos];rw[g2,kP]
      .simp only[look,if_neg (fun h:d=y=>Ky h.symm)];rw[g3 y Ky,Wg Ky];exact hC y (PD hy)
     .cases iD
    .exact plain hc
   .exact plain hc
  .cases h1
end
end
section
open Go
variable {dl:List Deferred}
inductive IR where
 |skip
 |ret
 |exit (id:Nat)
 |seq (a b:IR)
 |cond (c:O) (a b:IR)
 |block (id:Nat) (a:IR)
 |loop (a:IR)
 |eJ (dw:Bool) (st:List S) (kp:List Nat)
 |dr (t:D) (kp:List Nat)
 |raw (c:Code)
 deriving Inhabited
abbrev Post:=Exit->Env->World->Prop
def qN(next:Env->World->Prop)(Q:Post):Post
 |.normal,ρ,w=>next ρ w
 |e,ρ,w=>Q e ρ w
def mB(id:Nat)(Q:Post):Post
 |.exit oQ,ρ,w=>if oQ=id then Q .normal ρ w else Q (.exit oQ) ρ w
 |e,ρ,w=>Q e ρ w
def sK(dl:List Deferred)(N:Nat)(Q:Post):Exit->Act->World->Prop:=fun e a w=>∃ρ,Good dl N ρ a/\Q e ρ w
def dD(P:Program)(N:Nat):IR->Post->Env->World->Prop
 |.skip,Q,ρ,w=>Q .normal ρ w
 |.ret,Q,ρ,w=>Q .ret ρ w
 |.exit id,Q,ρ,w=>Q (.exit id) ρ w
 |.seq a b,Q,ρ,w=>dD P N a (qN (dD P N b Q) Q) ρ w
 |.cond c a b,Q,ρ,w=>∃t,c.ev ρ=some (.bool t)/\(t=true->dD P N a Q ρ w)/\(t=false->dD P N b Q ρ w)
 |.block id a,Q,ρ,w=>dD P N a (mB id Q) ρ w
 |.loop a,Q,ρ,w=>∃(I:Nat->Env->World->Prop) (n:Nat),I n ρ w/\∀n ρ w,I n ρ w->dD P N a (qN (fun ρ' w'=>∃m,m<n/\I m ρ' w') Q) ρ w
 |.eJ dw st kp,Q,ρ,w=>wpS P st ρ (if dw then w.drew else w) fun ρ w=>Q .normal (ρ.aI kp) w
 |.dr t kp,Q,ρ,w=>eo P t ρ w.drew [] fun ρ w=>Q .normal (ρ.aI kp) w
 |.raw c,Q,ρ,w=>∀dl a,Good dl N ρ a->c.wp P (sK dl N Q) a w
def Wm(id:Nat):List (Nat×List Nat×List Nat)->Option (List Nat×List Nat)
 |[]=>none
 |(i,x)::r=>if i == id then some x else Wm id r
def PJ(P:Program)(N:Nat)(id:Nat)(ops:Array Oper)(draw:Bool)(kp pm:List Nat):Option IR:=
 if draw then
  if Region.noSelect ops&&Ej ops pm&&P.follows .mixedOrders then
   match vg P N ops pm ops.size (Array.replicate ops.size false)with
   |some t=>match t.oP with
    |some st=>some (.eJ true st kp)
    |none=>some (.dr t kp)
   |none=>some (.raw (.region id ops draw))
  else some (.raw (.region id ops draw))
 else(il P N ops ops.toList).map fun st=>.eJ false ((vj N kp [] st).getD st) kp
def gQ(P:Program)(N:Nat)(H:List (Nat×List Nat×List Nat)):Code->Option IR
 |.skip=>some .skip
 |.ret=>some .ret
 |.exit id=>some (.exit id)
 |.seq a b=>(gQ P N H a).bind fun x=>(gQ P N H b).map (.seq x)
 |.cond c a b=>(gQ P N H a).bind fun x=>(gQ P N H b).map (.cond (bI c) x)
 |.block id a=>(gQ P N H a).map (.block id)
 |.loop a=>(gQ P N H a).map .loop
 |.region id ops draw=>(Wm id H).bind fun x=>PJ P N id ops draw x.1 x.2
 |c=>some (.raw c)
section
variable {P:Program} {N:Nat}
theorem least{p:Nat->Prop}(h:∃n,p n):∃n,p n/\∀m,m<n->¬p m:=by
 obtain⟨n,hn⟩:=h
 induction n using Nat.strongRecOn with
 |_ n ih=>
  by_cases hm:∃m,m<n/\p m
  .obtain⟨m,h1,h2⟩:=hm;exact ih m h1 h2
  .exact⟨n,hn,fun m h1 h2=>hm ⟨m,h1,h2⟩⟩
open Classical in
theorem afn{c:Code}{Q:Exit→Act→World→Prop}{a:Act}{w:World}(I:Nat→Act→World→Prop)(n:Nat)(h0:I n a w)
   (round:∀n a w,I n a w->c.wp P (Exit.then (fun a' w'=>∃m,m<n/\I m a' w') Q) a w):(Code.loop c).wp P Q a w:=by
 refine wp_loop (fun a w=>∃n,I n a w) (fun a w=>if h:∃n,I n a w then Classical.choose (least h)else 0) ⟨n,h0⟩ ?_;intro a w h;have hl:=Classical.choose_spec (least h);have hmu:(if h:∃n,I n a w then Classical.choose (least h)else 0)=Classical.choose (least h):=dif_pos h;refine wp_mono (round _ a w hl.1) ?_;intro e a' w' hq;cases e with
 |normal=>
  obtain⟨m,hm,hI⟩:=hq;have hex:∃n,I n a' w':=⟨m,hI⟩;refine⟨hex,?_⟩;show(if h:∃n,I n a' w' then Classical.choose (least h)else 0)<(if h:∃n,I n a w then Classical.choose (least h)else 0);rw[hmu,dif_pos hex];have h2:=Classical.choose_spec (least hex);have:Classical.choose (least hex)<=m:=by
   rcases Nat.lt_or_ge m (Classical.choose (least hex))with bg |hge
   .exact absurd hI (h2.2 m bg)
   .exact hge
  omega
 |_=>exact hq
theorem Kz{H:List (Nat×List Nat×List Nat)}:∀(c:Code) (ir:IR) (Q:Post) (ρ:Env) (a:Act) (w:World),gQ P N H c=some ir->dD P N ir Q ρ w->Good dl N ρ a->c.wp P (sK dl N Q) a w:=by
 intro c
 induction c with
 |skip=>intro ir Q ρ a w h hw hg;simp only[gQ,Option.some.injEq]at h;subst h;exact wp_skip ⟨ρ,hg,hw⟩
 |ret=>intro ir Q ρ a w h hw hg;simp only[gQ,Option.some.injEq]at h;subst h;exact wp_ret ⟨ρ,hg,hw⟩
 |exit id=>intro ir Q ρ a w h hw hg;simp only[gQ,Option.some.injEq]at h;subst h;exact wp_exit ⟨ρ,hg,hw⟩
 |seq x y ku oR=>
  intro ir Q ρ a w h hw hg;simp only[gQ]at h;obtain⟨a1,h1,h⟩:=Θ.1 h;obtain⟨b1,h2,h⟩:=Δ.1 h;subst h;refine wp_seq (wp_mono (ku a1 _ ρ a w h1 hw hg) ?_);intro e a' w' hq;obtain⟨ρ',dR,hq⟩:=hq;cases e with
  |normal=>exact oR b1 Q ρ' a' w' h2 hq dR
  |_=>exact⟨ρ',dR,hq⟩
 |cond c x y ku oR=>
  intro ir Q ρ a w h hw hg;simp only[gQ]at h;obtain⟨a1,h1,h⟩:=Θ.1 h;obtain⟨b1,h2,h⟩:=Δ.1 h;subst h;obtain⟨t,hc,ht,hf⟩:=hw;have he:=hg.agree c _ hc;exact wp_cond_split he (fun e=>ku a1 Q ρ a w h1 (ht e) hg) (fun e=>oR b1 Q ρ a w h2 (hf e) hg)
 |block id x ih=>
  intro ir Q ρ a w h hw hg;simp only[gQ]at h;obtain⟨a1,h1,h⟩:=Δ.1 h;subst h;refine wp_block (wp_mono (ih a1 _ ρ a w h1 hw hg) ?_);intro e a' w' hq;obtain⟨ρ',dR,hq⟩:=hq;cases e with
  |exit oQ=>
   simp only[Exit.inBlock,mB]at hq ⊢
   split
   .rename_i hh;rw[if_pos hh]at hq;exact⟨ρ',dR,hq⟩
   .rename_i hh;rw[if_neg hh]at hq;exact⟨ρ',dR,hq⟩
  |_=>exact⟨ρ',dR,hq⟩
 |loop x ih=>
  intro ir Q ρ a w h hw hg;simp only[gQ]at h;obtain⟨a1,h1,h⟩:=Δ.1 h;subst h;obtain⟨I,n,h0,hr⟩:=hw;refine afn (fun n a w=>∃ρ,Good dl N ρ a/\I n ρ w) n ⟨ρ,hg,h0⟩ ?_;rintro n a w ⟨ρ,hg,hI⟩;refine wp_mono (ih a1 _ ρ a w h1 (hr n ρ w hI) hg) ?_;intro e a' w' hq;obtain⟨ρ',dR,hq⟩:=hq;cases e with
  |normal=>obtain⟨m,hm,hI⟩:=hq;exact⟨m,hm,ρ',dR,hI⟩
  |_=>exact⟨ρ',dR,hq⟩
 |region id ops draw=>
  intro ir Q ρ a w h hw hg;simp only[gQ]at h;obtain⟨x,hx,h0⟩:=Θ.1 h;clear h;have h:=h0;clear h0;obtain⟨kp,pm⟩:=x;unfold PJ at h;have fin:∀ρ' a' w',Good dl N ρ' a'->Q .normal (ρ'.aI kp) w'->sK dl N Q .normal a' w':=fun ρ' a' w' dR hq=>⟨_,dR.aI kp,hq⟩
  split at h
  .rename_i hd;subst hd
   split at h
   .rename_i hc;simp only[Bool.and_eq_true]at hc;obtain⟨⟨hs,iE⟩,hm⟩:=hc
    split at h
    .rename_i t ht
     split at h
     .rename_i st eH;simp only[Option.some.injEq]at h;subst h;refine Wd (K:=fun ρ w=>Q .normal (ρ.aI kp) w) hm iE hs ht (Wc t st ρ _ [] eH ?_) hg fin;exact hw
     .simp only[Option.some.injEq]at h;subst h;exact Wd (K:=fun ρ w=>Q .normal (ρ.aI kp) w) hm iE hs ht hw hg fin
    .simp only[Option.some.injEq]at h;subst h;exact hw dl a hg
   .simp only[Option.some.injEq]at h;subst h;exact hw dl a hg
  .rename_i hd;have:draw=false:=by simpa using hd
   subst this;obtain⟨st,eH,h⟩:=Δ.1 h;subst h;cases yO:vj N kp [] st with
   |none=>
    rw[yO]at hw;exact wp_region_list (Km (fun _ _ h=>h) _ _ _ (Eh (G:=fun a w=>sK dl N Q .normal a w) ops.toList st ρ a w (fun ρ w=>Q .normal (ρ.aI kp) w) eH hw hg fin))
   |some eP=>
    rw[yO]at hw;exact wp_region_list (Km (fun _ _ h=>h) _ _ _ (Wj (G:=fun a w=>sK dl N Q .normal a w) (K:=fun ρ w=>Q .normal ρ w) ops.toList st eP [] ρ ρ a w eH yO hw hg (fun t _=>rfl) fin))
 |_=>
  intro ir Q ρ a w h hw hg;simp only[gQ,Option.some.injEq]at h;subst h;exact hw dl a hg
inductive RV where
 |t (s:Nat)
 |l (s:Nat)
 |n (s k:Nat)
 deriving Inhabited
def RV.ev(w:World)(ρ:Env):RV->Option Value
 |.t s=>ρ.get s
 |.l s=>(ρ.get s).bind (Ea w)
 |.n s k=>(ρ.get s).bind (f' w k)
def aM(w:World)(ρ:Env):List RV->Option (List Value)
 |[]=>some []
 |x::l=>match x.ev w ρ,aM w ρ l with
  |some v,some vs=>some (v::vs)
  |_,_=>none
def aN : List Value->Value
 |[v]=>v
 |vs=>.tuple vs.toArray
def sL(P:Program):List ResultVar->Option (List RV)
 |[]=>some []
 |.tmp t::l=>(sL P l).map (RV.t t :: ·)
 |.cell a t::l=>match P.underlying t,jW P t with
  |some d,some n=>(sL P l).map ((if uZ d then RV.n a n else RV.l a) :: ·)
  |_,_=>none
theorem PK{ρ:Env}{a:Act}{w:World}(hg:Good dl N ρ a):∀ (l:List ResultVar) (rs:List RV) (vs:List Value),sL P l=some rs→aM w ρ rs=some vs →
   ro P w (l.mapM (fun |.tmp t=>pure (a.tmps.getD t undef) |.cell c t=>do loadVar t (<- asAddr (a.tmps.getD c undef)):ResultVar->Sem Value))=some vs:=by
 intro l
 induction l with
 |nil=>
  intro rs vs h1 h2;simp only[sL,Option.some.injEq]at h1;subst h1;simp only[aM,Option.some.injEq]at h2;subst h2;simp
 |cons x l ih=>
  intro rs vs h1 h2;have PL:∀s u,ρ.get s=some u->a.tmps.getD s undef=u:=by
   intro s u hu;have:=hg.get s u hu;simp[this]
  cases x with
  |tmp t=>
   simp only[sL]at h1;obtain⟨PM,h3,h1⟩:=Δ.1 h1;subst h1;simp only[aM]at h2
   split at h2
   .rename_i v GB e1 e2;cases h2;simp only[RV.ev]at e1;simp only[List.mapM_cons,dF,ig,Option.bind_some,ih PM GB h3 e2,PL t v e1]
   .cases h2
  |cell c t=>
   simp only[sL]at h1
   split at h1
   .rename_i d n hd hn;obtain⟨PM,h3,h1⟩:=Δ.1 h1;subst h1;simp only[aM]at h2
    split at h2
    .rename_i v GB e1 e2;cases h2;have key:ro P w (do loadVar t (← asAddr (a.tmps.getD c undef)))=some v:=by
      cases hb:uZ d with
      |true=>
       simp only[hb,if_true,RV.ev]at e1;obtain⟨u,hu,e1⟩:=Θ.1 e1;rw[PL c u hu];unfold f' at e1
       split at e1
       .rename_i ad;obtain⟨cs,bT,e1⟩:=Δ.1 e1;subst e1;unfold jW at hn;simp only[asAddr,dF,ig,Option.bind_some,loadVar,D4,hd,Option.map_some,hb,if_true,wU,hn,VP,bT]
       .cases e1
      |false=>
       simp only[hb,Bool.false_eq_true,if_false,RV.ev]at e1;obtain⟨u,hu,e1⟩:=Θ.1 e1;rw[PL c u hu];unfold Ea at e1
       split at e1
       .rename_i ad;simp only[asAddr,dF,ig,Option.bind_some,loadVar,D4,hd,Option.map_some,hb,Bool.false_eq_true,if_false,OV,e1]
       .cases e1
     simp only[List.mapM_cons,dF,key,ig,Option.bind_some,ih PM GB h3 e2]
    .cases h2
   .cases h1
def bu(P:Program)(f:FuncId)(args:List Value)(w:World)(R:Value->World->Prop):Prop:=
 Calls P f args.toArray w fun e w'=>∃v,e=.returned v/\R v w'
theorem bu.mono{f:FuncId}{args:List Value}{w:World}{R R':Value->World->Prop}(h:bu P f args w R)(hr:∀v w',R v w'->R' v w'):bu P f args w R':=
 Calls.mono h fun e w' ⟨v,he,hv⟩=>⟨v,he,hr _ _ hv⟩
def sM:Nat->List Value->Env
 |_,[]=>[]
 |i,v::l=>(i,v)::sM (i+1) l
def GS(rs:List RV)(R:Value->World->Prop):Post
 |.normal,ρ,w=>∃vs,aM w ρ rs=some vs/\R (aN vs) w
 |.ret,ρ,w=>∃vs,aM w ρ rs=some vs/\R (aN vs) w
 |_,_,_=>False
theorem PN:∀(l:List Value) (i t:Nat) (v:Value),(sM i l).get t=some v->i<=t/\l[t-i]?=some v:=by
 intro l
 induction l with
 |nil=>intro i t v h;simp[sM,Env.get]at h
 |cons x l ih=>
  intro i t v h;simp only[sM,Env.get]at h
  split at h
  .rename_i hit;subst hit;exact⟨Nat.le_refl _,by simpa using h⟩
  .obtain⟨h1,h2⟩:=ih (i+1) t v h;refine⟨by omega,?_⟩;rw[show t-i=(t-(i+1))+1 by omega]
   simpa using h2
structure Fits (P:Program) (f:Nat) (rN:Nat) (H:List (Nat×List Nat×List Nat)) (ir:IR) (rs:List RV) (N:Nat):Prop where
 go:∃fn c,P.funcs[f]?=some fn/\fn.body=some c/\fn.ntmps=N/\rN<=N/\gQ P N H c=some ir/\sL P fn.results.toList=some rs
theorem Fits.calls{f:Nat}{rN:Nat}{H:List (Nat×List Nat×List Nat)}{ir:IR}{rs:List RV}(h:Fits P f rN H ir rs N){args:List Value}(hn:args.length=rN){w:World}{R:Value→World→Prop}
   (hw:dD P N ir (GS rs R) (sM 0 args) w):bu P f args w R:=by
 obtain⟨fn,c,hf,hb,hN,hle,hd,GU⟩:=h.go;refine calls_of_wp hf hb ?_;have hg:Good [] N (sM 0 args) { tmps:=args.toArray++Array.replicate (fn.ntmps-args.toArray.size) undef,defers:=[]}:=by
  refine⟨?_,rfl,?_⟩
  .simp only[Array.size_append,List.size_toArray,Array.size_replicate];omega
  .intro t v ht;obtain ⟨_,h2⟩:=PN args 0 t v ht;have bg:t < args.length:=by
    rcases Nat.lt_or_ge t args.length with h |h
    .exact h
    .simp[List.getElem?_eq_none h]at h2
   simp only[Nat.sub_zero]at h2;rw[Array.getElem?_append_left (by simpa using bg)]
   simpa using h2
 refine wp_mono (Kz c ir _ _ _ _ hd hw hg) ?_;intro e a' w' hq;obtain⟨ρ',dR,hq⟩:=hq;have fin:(∃vs,aM w' ρ' rs=some vs/\R (aN vs) w')->a'.defers=[]/\∃v,(results fn a'.tmps).run P w'=.ok v w'/\∃u,Ending.returned v=.returned u/\R u w':=by
  rintro⟨vs,h1,h2⟩;refine⟨dR.defers,aN vs,oL ?_,_,rfl,h2⟩;unfold results;rw[dF,Array.mapM_eq_mapM_toList,Gw];have:=PK (P:=P) dR fn.results.toList rs vs GU h1;refine Eq.trans (congrArg (fun o:Option (List Value)=>(o.map List.toArray).bind fun vs=>ro P w' (pure (if h:vs.size=1 then vs[0]else .tuple vs):Sem Value)) this) ?_;simp only[Option.map_some,Option.bind_some,ig,List.size_toArray,Option.some.injEq]
  match vs with
  |[]=>rfl
  |[v]=>rfl
  |v::u::l=>simp[aN]
 cases e with
 |normal=>exact fin hq
 |ret=>exact fin hq
 |_=>exact hq.elim
end
end
section
open Go
section
variable {P:Program} {N:Nat} {Q:Post} {ρ:Env} {w:World} {K:Env->World->Prop}
@[go_sem] theorem apn:dD P N .skip Q ρ w=Q .normal ρ w:=_root_.id rfl
@[go_sem] theorem apo:dD P N .ret Q ρ w=Q .ret ρ w:=_root_.id rfl
@[go_sem] theorem apq (id:Nat):dD P N (.exit id) Q ρ w=Q (.exit id) ρ w:=_root_.id rfl
@[go_sem] theorem afo (a b:IR):dD P N (.seq a b) Q ρ w=dD P N a (qN (dD P N b Q) Q) ρ w:=_root_.id rfl
@[go_sem] theorem apr (id:Nat) (a:IR):dD P N (.block id a) Q ρ w=dD P N a (mB id Q) ρ w:=_root_.id rfl
@[go_sem] theorem afp (st:List S) (kp:List Nat):dD P N (.eJ false st kp) Q ρ w=wpS P st ρ w fun ρ w=>Q .normal (ρ.aI kp) w:=_root_.id rfl
@[go_sem] theorem aps (st:List S) (kp:List Nat):dD P N (.eJ true st kp) Q ρ w=wpS P st ρ w.drew fun ρ w=>Q .normal (ρ.aI kp) w:=_root_.id rfl
@[go_sem] theorem apt {c:O} {a b:IR} (h:c.ev ρ=some (.bool true)):dD P N (.cond c a b) Q ρ w=dD P N a Q ρ w:=by
 simp[dD,h]
@[go_sem] theorem apu {c:O} {a b:IR} (h:c.ev ρ=some (.bool false)):dD P N (.cond c a b) Q ρ w=dD P N b Q ρ w:=by
 simp[dD,h]
theorem afq{c:O}{a b:IR}{t:Bool}(h:c.ev ρ=some (.bool t))(ht:t=true->dD P N a Q ρ w)(hf:t=false->dD P N b Q ρ w):dD P N (.cond c a b) Q ρ w:=⟨t,h,ht,hf⟩
theorem io{b:IR}(I:Nat→Env→World→Prop)(n:Nat)(h0:I n ρ w)
   (hs:∀n ρ w,I n ρ w->dD P N b (qN (fun ρ' w'=>∃m,m<n/\I m ρ' w') Q) ρ w):dD P N (.loop b) Q ρ w:=⟨I,n,h0,hs⟩
@[go_sem] theorem apv (next:Env->World->Prop):qN next Q .normal=next:=_root_.id rfl
@[go_sem] theorem apw (next:Env->World->Prop):qN next Q .ret=Q .ret:=_root_.id rfl
@[go_sem] theorem apx (next:Env->World->Prop) (id:Nat):qN next Q (.exit id)=Q (.exit id):=_root_.id rfl
@[go_sem] theorem apy (id:Nat):mB id Q .normal=Q .normal:=_root_.id rfl
@[go_sem] theorem apz (id:Nat):mB id Q .ret=Q .ret:=_root_.id rfl
@[go_sem] theorem apA (id:Nat):mB id Q (.exit id)=Q .normal:=by funext ρ w;simp[mB]
@[go_sem] theorem apB (id oQ:Nat) (h:(oQ=id)=False):mB id Q (.exit oQ)=Q (.exit oQ):=by funext ρ w;simp[mB,h]
@[go_sem] theorem apC (rs:List RV) (R:Value->World->Prop):GS rs R .normal ρ w=∃vs,aM w ρ rs=some vs/\R (aN vs) w:=_root_.id rfl
@[go_sem] theorem apD (rs:List RV) (R:Value->World->Prop):GS rs R .ret ρ w=∃vs,aM w ρ rs=some vs/\R (aN vs) w:=_root_.id rfl
@[go_sem] theorem apE:wpS P [] ρ w K=K ρ w:=_root_.id rfl
@[go_sem] theorem apF (d:Option Nat) (r:R) (l:List S):wpS P (.r d r::l) ρ w K=∃v,r.ev w ρ=some v/\wpS P l (ρ.put d v) w K:=_root_.id rfl
@[go_sem] theorem apG (d:Option Nat) (e:E) (l:List S):wpS P (.e d e::l) ρ w K=e.wp P w ρ fun v w'=>wpS P l (ρ.put d v) w' K:=_root_.id rfl
@[go_sem] theorem apH {s:Nat} {d:Option Nat} {r:R} {l:List S} (h:ρ.get s=some (.bool true)):wpS P (.gr s true d r::l) ρ w K=(∃v,r.ev w ρ=some v/\wpS P l (ρ.put d v) w K):=by
 simp[wpS,h,ik,undef]
@[go_sem] theorem apI {s:Nat} {d:Option Nat} {r:R} {l:List S} (h:ρ.get s=some (.bool false)):wpS P (.gr s false d r::l) ρ w K=(∃v,r.ev w ρ=some v/\wpS P l (ρ.put d v) w K):=by
 simp[wpS,h,ik,undef]
@[go_sem] theorem apJ {s:Nat} {d:Option Nat} {r:R} {l:List S} (h:ρ.get s=some (.bool true)):wpS P (.gr s false d r::l) ρ w K=wpS P l (ρ.put d undef) w K:=by
 simp[wpS,h,ik,undef]
@[go_sem] theorem apK {s:Nat} {d:Option Nat} {r:R} {l:List S} (h:ρ.get s=some (.bool false)):wpS P (.gr s true d r::l) ρ w K=wpS P l (ρ.put d undef) w K:=by
 simp[wpS,h,ik,undef]
@[go_sem] theorem apL {s:Nat} {d:Option Nat} {r:R} {l:List S} (h:ρ.get s=some undef):wpS P (.gr s true d r::l) ρ w K=wpS P l (ρ.put d undef) w K:=by
 simp[wpS,h,ik,undef]
@[go_sem] theorem apM {s:Nat} {d:Option Nat} {r:R} {l:List S} (h:ρ.get s=some undef):wpS P (.gr s false d r::l) ρ w K=wpS P l (ρ.put d undef) w K:=by
 simp[wpS,h,ik,undef]
@[go_sem] theorem apN {s:Nat} {d:Option Nat} {e:E} {l:List S} (h:ρ.get s=some (.bool true)):wpS P (.ge s true d e::l) ρ w K=(e.wp P w ρ fun v w'=>wpS P l (ρ.put d v) w' K):=by
 simp[wpS,h,ik,undef]
@[go_sem] theorem apO {s:Nat} {d:Option Nat} {e:E} {l:List S} (h:ρ.get s=some (.bool false)):wpS P (.ge s false d e::l) ρ w K=(e.wp P w ρ fun v w'=>wpS P l (ρ.put d v) w' K):=by
 simp[wpS,h,ik,undef]
@[go_sem] theorem apP {s:Nat} {d:Option Nat} {e:E} {l:List S} (h:ρ.get s=some (.bool true)):wpS P (.ge s false d e::l) ρ w K=wpS P l (ρ.put d undef) w K:=by
 simp[wpS,h,ik,undef]
@[go_sem] theorem apQ {s:Nat} {d:Option Nat} {e:E} {l:List S} (h:ρ.get s=some (.bool false)):wpS P (.ge s true d e::l) ρ w K=wpS P l (ρ.put d undef) w K:=by
 simp[wpS,h,ik,undef]
@[go_sem] theorem apR {rd:List (Nat×Nat)}:eo P .nil ρ w rd K=K ρ w:=_root_.id rfl
@[go_sem] theorem apS {rd:List (Nat×Nat)} (i:Nat) (d:Option Nat) (r:R) (t:D):eo P (.r i none d r t) ρ w rd K=∃v,r.ev w ρ=some v/\eo P t (ρ.put d v) w (Aw i (r.jX ρ) rd) K:=_root_.id rfl
@[go_sem] theorem apT {rd:List (Nat×Nat)} (i:Nat) (d:Option Nat) (e:E) (fl:List Nat) (t:D):eo P (.e i none d e fl t) ρ w rd K=e.wp P w ρ fun v w'=>oO fl w w' rd/\eo P t (ρ.put d v) w' rd K:=_root_.id rfl
section
variable {rd:List (Nat×Nat)}
@[go_sem] theorem apU {i s:Nat} {d:Option Nat} {r:R} {t:D} (h:ρ.get s=some (.bool false)):eo P (.r i (some (s,false)) d r t) ρ w rd K=(∃v,r.ev w ρ=some v/\eo P t (ρ.put d v) w (Aw i (r.jX ρ) rd) K):=by
 simp[eo,h,ik,undef]
@[go_sem] theorem apV {i s:Nat} {d:Option Nat} {r:R} {t:D} (h:ρ.get s=some (.bool true)):eo P (.r i (some (s,false)) d r t) ρ w rd K=eo P t (ρ.put d undef) w rd K:=by
 simp[eo,h,ik,undef]
end
@[go_sem] theorem apW (t:D) (kp:List Nat):dD P N (.dr t kp) Q ρ w=eo P t ρ w.drew [] fun ρ w=>Q .normal (ρ.aI kp) w:=_root_.id rfl
theorem B6(rO:Env->World->Prop){l:List S}(h:wpS P l ρ w rO)(hk:∀ρ w,rO ρ w->K ρ w):wpS P l ρ w K:=by
 induction l generalizing ρ w with
 |nil=>exact hk _ _ h
 |cons s l ih=>
  cases s with
  |r d r=>obtain⟨v,h1,h2⟩:=h;exact⟨v,h1,ih h2⟩
  |e d e=>exact E.mono (fun v w' h=>ih h) e h
  |gr s b d r=>obtain⟨c,h1,h2,h3⟩:=h;exact⟨c,h1,fun hh=>let⟨v,h4,h5⟩:=h2 hh;⟨v,h4,ih h5⟩,fun hh=>ih (h3 hh)⟩
  |ge s b d e=>obtain⟨c,h1,h2,h3⟩:=h;exact⟨c,h1,fun hh=>E.mono (fun v w' h=>ih h) e (h2 hh),fun hh=>ih (h3 hh)⟩
@[go_sem] theorem AA (s t:Nat) (v:Value):Env.get ((s,v)::ρ) t=if s=t then some v else ρ.get t:=_root_.id rfl
def PO(t:Nat)(v:Option Value)(r:Env):Env:=
 match v with
 |some v=>(t,v)::r
 |none=>r
@[go_sem] theorem Wn (t:Nat) (v:Value) (r:Env):PO t (some v) r=(t,v)::r:=_root_.id rfl
@[go_sem] theorem afr (t:Nat) (r:Env):PO t none r=r:=_root_.id rfl
@[go_sem] theorem apX:ρ.aI []=[]:=_root_.id rfl
@[go_sem] theorem afs (t:Nat) (ts:List Nat):ρ.aI (t::ts)=PO t (ρ.get t) (ρ.aI ts):=by
 simp only[Env.aI];cases ρ.get t<;>rfl
@[go_sem] theorem afu (d:Nat) (v:Value):ρ.put (some d) v=(d,v)::ρ:=_root_.id rfl
@[go_sem] theorem apY (v:Value):ρ.put none v=ρ:=_root_.id rfl
@[go_sem] theorem GW (n:Nat):(O.t n).ev ρ=ρ.get n:=_root_.id rfl
@[go_sem] theorem O_c (v:Value):(O.c v).ev ρ=some v:=_root_.id rfl
@[go_sem] theorem apZ:gW ρ []=some []:=_root_.id rfl
@[go_sem] theorem ap0 (x:O) (l:List O):gW ρ (x::l)=(x.ev ρ).bind fun v=>(gW ρ l).map fun vs=>v::vs:=by
 simp only[gW];cases x.ev ρ<;>cases gW ρ l<;>rfl
@[go_sem] theorem ap1:nX ρ []=some []:=_root_.id rfl
@[go_sem] theorem ap2 (o n:Nat) (x:O) (l:List (Nat×Nat×O)):nX ρ ((o,n,x)::l)=(x.ev ρ).bind fun v=>(nX ρ l).map fun vs=>(o,n,v)::vs:=by
 simp only[nX];cases x.ev ρ<;>cases nX ρ l<;>rfl
@[go_sem] theorem ap3:rK ρ none=some none:=_root_.id rfl
@[go_sem] theorem ap4 (x:O):rK ρ (some x)=(x.ev ρ).map some:=by
 simp only[rK];cases x.ev ρ<;>rfl
@[go_sem] theorem ap5:aM w ρ []=some []:=_root_.id rfl
@[go_sem] theorem ap6 (x:RV) (l:List RV):aM w ρ (x::l)=(x.ev w ρ).bind fun v=>(aM w ρ l).map fun vs=>v::vs:=by
 simp only[aM];cases x.ev w ρ<;>cases aM w ρ l<;>rfl
end
@[go_sem] theorem ap7 (v:Value):aN [v]=v:=_root_.id rfl
@[go_sem] theorem ap8 (v u:Value) (l:List Value):aN (v::u::l)=.tuple (v::u::l).toArray:=_root_.id rfl
@[go_sem] theorem ap9 (w:World) (ρ:Env) (s:Nat):(RV.t s).ev w ρ=ρ.get s:=_root_.id rfl
@[go_sem] theorem ap' (w:World) (ρ:Env) (s k:Nat):(RV.n s k).ev w ρ=(ρ.get s).bind (f' w k):=_root_.id rfl
attribute [go_sem] sM R.ev OX OY Ea As Gy OZ Au Av O0 O1 O3 Pa Pb Ki Pc Pd Pe Pf Ph pQ Pj Pk Pm u6 Kj Ec Eb u7
attribute [go_sem] R.jX Aw oO Eo
@[go_sem] theorem afv (cs:Array Value):lN cs []=some cs:=_root_.id rfl
def One(v:Value):Prop:=v.cells=#[v]
@[go_sem] theorem aqa {l:List Value} {off:Nat} {v:Value} {rest:List (Nat×Nat×Value)} (hv0:One v) (h:off < l.length) :
   lN l.toArray ((off,1,v)::rest)=lN (l.set off v).toArray rest:=by
 have hv:v.cells=#[v]:=hv0;simp only[lN,hv];rw[if_neg (by simp;omega)];simp
@[go_sem] theorem Wo {l vs:List Value} {off n:Nat} {rest:List (Nat×Nat×Value)} (hv:vs.length=n) (h:off+n≤l.length) :
   lN l.toArray ((off,n,.agg vs.toArray)::rest)=lN (l.take off++vs++l.drop (off+n)).toArray rest:=by
 subst hv;simp only[lN];rw[if_neg (by simp[Value.cells];omega)];show lN (vs.toArray.zipIdx.foldl (fun(cs:Array Value) (x:Value×Nat)=>cs.setIfInBounds (off+x.2) x.1) l.toArray) rest=_
 congr 1
 have key:∀ (vs l:List Value) (off k:Nat),off+k+vs.length≤l.length →
     ((vs.zipIdx k).foldl (fun(cs:Array Value) (x:Value×Nat)=>cs.setIfInBounds (off+x.2) x.1) l.toArray)=(l.take (off+k)++vs++l.drop (off+k+vs.length)).toArray:=by
  intro vs
  induction vs with
  |nil=>intro l off k hk;simp
  |cons v vs ih=>
   intro l off k hk;simp only[List.length_cons]at hk;simp only[List.zipIdx_cons,List.foldl_cons,List.setIfInBounds_toArray];rw[ih (l.set (off+k) v) off (k+1) (by simp;omega)]
   congr 1
   have e1:(l.set (off+k) v).take (off+(k+1))=l.take (off+k)++[v]:=by
    rw[List.set_eq_take_append_cons_drop,if_pos (by omega),show off+(k+1)=(l.take (off+k)).length+1 by simp;omega,List.take_append];simp;rw[List.take_of_length_le (by simp)]
   have e2:(l.set (off+k) v).drop (off+(k+1)+vs.length)=l.drop (off+k+(vs.length+1)):=by
    rw[List.drop_set_of_lt (by omega)]
    congr 1;omega
   rw[e1,e2];simp
 have:=key vs l off 0 (by omega);simp only[Nat.add_zero]at this;rw[<- this];rw[<- Array.foldl_toList];simp
@[go_sem] theorem aqb (k:IntKind) (n:Int):One (Value.int k n)=True:=eq_true rfl
@[go_sem] theorem aqc (b:ByteArray):One (Value.string b)=True:=eq_true rfl
@[go_sem] theorem aqd (b:Option Addr):One (Value.pointer b)=True:=eq_true rfl
@[go_sem] theorem aqe (a:Option Addr) (n c:Nat):One (Value.slice a n c)=True:=eq_true rfl
@[go_sem] theorem aqf (b:Option Nat):One (Value.map b)=True:=eq_true rfl
@[go_sem] theorem aqg (t:TypeId) (v:Value):One (Value.iface t v)=True:=eq_true rfl
attribute [go_sem] exists_eq' Option.bind_some Option.bind_none Option.map_some Option.map_none exists_eq_left' Option.some.injEq
attribute [go_sem] List.getElem?_toArray List.getElem?_cons_zero List.getElem?_cons_succ
structure Mod (S:Nat->Prop) (w w':World):Prop where
 size:w.heap.size<=w'.heap.size
 bO:∀b,b<w.heap.size->¬S b->w'.heap[b]?=w.heap[b]?
 os:w'.os=w.os
 tape:w'.tape=w.tape
 output:w'.output=w.output
theorem Mod.refl(S:Nat->Prop)(w:World):Mod S w w:=⟨Nat.le_refl _,fun _ _ _=>rfl,rfl,rfl,rfl⟩
theorem Mod.trans{S:Nat->Prop}{a b c:World}(h:Mod S a b)(k:Mod S b c):Mod S a c:=
 ⟨Nat.le_trans h.size k.size,fun i hi hs=>(k.bO i (Nat.lt_of_lt_of_le hi h.size) hs).trans (h.bO i hi hs),k.os.trans h.os,k.tape.trans h.tape,k.output.trans h.output⟩
theorem Mod.step{S S':Nat->Prop}{a b c:World}(h:Mod S a b)(k:Mod S' b c)(hs:∀i,S' i->i<a.heap.size->S i):Mod S a c:=
 ⟨Nat.le_trans h.size k.size,fun i hi hn=>(k.bO i (Nat.lt_of_lt_of_le hi h.size) (fun hh=>hn (hs i hh hi))).trans (h.bO i hi hn),k.os.trans h.os,k.tape.trans h.tape,k.output.trans h.output⟩
theorem Mod.aU{S S':Nat->Prop}{a b:World}(h:Mod S a b)(hs:∀i,S i->S' i):Mod S' a b:=
 ⟨h.size,fun i hi hn=>h.bO i hi (fun hh=>hn (hs i hh)),h.os,h.tape,h.output⟩
theorem Mod.drew{S:Nat->Prop}{a b:World}(h:Mod S a b):Mod S a b.drew:=⟨h.size,h.bO,h.os,h.tape,h.output⟩
theorem Mod.dG{S:Nat->Prop}{a b:World}(h:Mod S a.drew b):Mod S a b:=⟨h.size,h.bO,h.os,h.tape,h.output⟩
theorem bP{w:World}{b:Nat}{o:Obj}(h:w.heap[b]?=some o):b<w.heap.size:=(Array.getElem?_eq_some_iff.1 h).1
theorem Mod.at{S:Nat->Prop}{w w':World}(h:Mod S w w'){b:Nat}{o:Obj}(hb:w.heap[b]?=some o)(hs:¬S b):w'.heap[b]?=some o:=(h.bO b (bP hb) hs).trans hb
theorem Mod.cell{S:Nat->Prop}{w w':World}(h:Mod S w w'){a:Addr}{v:Value}(ha:w.cell? a=some v)(hs:¬S a.block):w'.cell? a=some v:=by
 have bg:=World.block_lt_of_cell? w a ha;rw[Pt (h.bO a.block bg hs)];exact ha
theorem afw{w:World}{b T:Nat}{fz:Nat×Nat}{cs:List Value}(h:w.heap[b]? = some (.cells cs.toArray T fz)):∀ (n off i:Nat) (acc:List Value),off+i+n≤cs.length →
   my w ⟨b,off,none⟩ i n acc.toArray=some (acc++(cs.drop (off+i)).take n).toArray:=by
 intro n
 induction n with
 |zero=>intro off i acc _;simp[my]
 |succ n ih=>
  intro off i acc hle;have bg:off+i<cs.length:=by omega
  have hc:w.cell? (Addr.add ⟨b,off,none⟩ i)=some cs[off+i]:=by
   have:Addr.add ⟨b,off,none⟩ i=⟨b,off+i,none⟩:=by unfold Addr.add;split<;>simp_all
   rw[this];simp[World.cell?,h,bg]
  simp only[my,hc];have:=ih off (i+1) (acc++[cs[off+i]]) (by omega);rw[show acc.toArray.push cs[off+i]=(acc++[cs[off+i]]).toArray by simp,this]
  congr 2
  rw[List.append_assoc]
  congr 1
  rw[show cs.drop (off+i)=cs[off+i]::cs.drop (off+(i+1)) by rw[Ω bg];rfl];simp
theorem jm{w:World}{b T off n:Nat}{fz:Nat×Nat}{cs:List Value}(h:w.heap[b]? = some (.cells cs.toArray T fz))(hle:off+n≤cs.length) :
   f' w n (.pointer (some ⟨b,off,none⟩))=some (.agg ((cs.drop off).take n).toArray):=by
 have:=afw h n off 0 [] (by omega);simp only[f'];simp only[List.nil_append,Nat.add_zero]at this;rw[this];rfl
theorem cell_of{w:World}{b:Nat}{cs:Array Value}{T:TypeId}{fz:Nat×Nat}(h:w.heap[b]?=some (.cells cs T fz))(o:Nat):w.cell? ⟨b,o,none⟩=cs[o]?:=by simp[World.cell?,h]
@[go_sem] theorem aqh (w:World):w.drew.heap=w.heap:=_root_.id rfl
@[go_sem] theorem Wp (w:World) (a:Addr):w.drew.cell? a=w.cell? a:=_root_.id rfl
@[go_sem] theorem add_zero' (a:Addr):a.add 0=a:=_root_.id rfl
@[go_sem] theorem oa (b o n:Nat):Addr.add ⟨b,o,none⟩ n=⟨b,o+n,none⟩:=by unfold Addr.add;split<;>simp_all
theorem AB(S:Nat->Prop)(w:World)(o:Obj):Mod S w (w.alloc o):=
 ⟨by simp,fun b hb _=>by show(w.heap.push o)[b]?=_;rw[Array.getElem?_push,if_neg (by omega)],rfl,rfl,rfl⟩
theorem Wq(w:World)(b:Nat)(cs:Array Value):Mod (· = b) w (w.setRow b cs):=
 ⟨by simp,fun i _ hs=>setRow_other w b i cs hs,rfl,rfl,rfl⟩
section
variable {P:Program} {w:World} {ρ:Env} {K:Value->World->Prop}
theorem KA{n:Nat}{x y:O}{b off:Nat}{v:Value}{cs:Array Value}{T:TypeId}(hx:x.ev ρ=some (.pointer (some ⟨b,off,none⟩)))(hy:y.ev ρ=some v)
   (hb:w.heap[b]?=some (.cells cs T (0,0))) (hn:v.cells.size=n) (mX:off+n<=cs.size) (h1:∀u∈v.cells.toList,u.oneCell'=true)
   (hk:∀w',w'.heap[b]?=some (.cells (sp cs off v.cells.toList) T (0,0))->Mod (· = b) w w'->w'.heap.size=w.heap.size->K undef w'):E.wp P w ρ K (.st n x y):=by
 refine⟨_,v,cs,T,hx,hy,hn,⟨rfl,hb⟩,?_,h1,?_⟩
 .show off+v.cells.toList.length<=cs.size;rw[Array.length_toList,hn];exact mX
 .exact hk _ (setRow_heap w b cs _ T _ hb) (Wq w b _) (by simp)
theorem afx(l:List Value)(o:Nat)(v:Value)(h:o<l.length):sp l.toArray o [v]=(l.set o v).toArray:=by
 unfold sp
 congr 1
 simp only[List.length_cons,List.length_nil,Nat.zero_add];rw[List.set_eq_take_append_cons_drop,if_pos h];simp
theorem afy{cs vs:List Value}(h:vs.length=cs.length):sp cs.toArray 0 vs=vs.toArray:=by
 unfold sp;simp only[Nat.zero_add,List.take_zero,List.nil_append];rw[List.drop_of_length_le (by omega),List.append_nil]
theorem bN{n:Nat}{x y:O}{b:Nat}{vs cs:List Value}{T:TypeId}(hx:x.ev ρ=some (.pointer (some ⟨b,0,none⟩)))(hy:y.ev ρ=some (.agg vs.toArray))
   (hb:w.heap[b]?=some (.cells cs.toArray T (0,0))) (hn:vs.length=n) (hc:cs.length=n) (h1:∀u∈vs,u.oneCell'=true)
   (hk:∀w',w'.heap[b]?=some (.cells vs.toArray T (0,0))->Mod (· = b) w w'->w'.heap.size=w.heap.size->K undef w'):E.wp P w ρ K (.st n x y):=by
 refine KA (v:=.agg vs.toArray) hx hy hb (by simpa[Value.cells]using hn) (by simp;omega) (by simpa[Value.cells]using h1) ?_;intro w' h2 h3 h4;refine hk w' ?_ h3 h4;rw[h2];have:sp cs.toArray 0 (Value.agg vs.toArray).cells.toList=vs.toArray:=afy (by simp[Value.cells];omega);rw[this]
theorem KB{n:Nat}{x y:O}{b off:Nat}{vs cs:List Value}{T:TypeId}(hx:x.ev ρ=some (.pointer (some ⟨b,off,none⟩)))(hy:y.ev ρ=some (.agg vs.toArray))
   (hb:w.heap[b]?=some (.cells cs.toArray T (0,0))) (hn:vs.length=n) (hc:off+n<=cs.length) (h1:∀u∈vs,u.oneCell'=true)
   (hk:∀w',w'.heap[b]?=some (.cells (sp cs.toArray off vs) T (0,0))->Mod (· = b) w w'->w'.heap.size=w.heap.size->K undef w'):E.wp P w ρ K (.st n x y):=by
 refine KA (v:=.agg vs.toArray) hx hy hb (by simpa[Value.cells]using hn) (by simp;omega) (by simpa[Value.cells]using h1) ?_;intro w' h2 h3 h4;exact hk w' (by simpa[Value.cells]using h2) h3 h4
theorem eK{x y:O}{b off:Nat}{v:Value}{cs:List Value}{T:TypeId}(hx:x.ev ρ=some (.pointer (some ⟨b,off,none⟩)))(hy:y.ev ρ=some v)
   (hb:w.heap[b]?=some (.cells cs.toArray T (0,0))) (h1:v.oneCell'=true) (mX:off<cs.length)
   (hk:∀w',w'.heap[b]?=some (.cells (cs.set off v).toArray T (0,0))->Mod (· = b) w w'->w'.heap.size=w.heap.size->K undef w'):E.wp P w ρ K (.st 1 x y):=by
 have hc:v.cells=#[v]:=by cases v<;>first |rfl |simp[Value.oneCell']at h1
 refine KA (v:=v) hx hy hb (by rw[hc];rfl) (by simp;omega) (by rw[hc];simpa using h1) ?_;intro w' h2 h3 h4;rw[hc]at h2;rw[show sp cs.toArray off #[v].toList=(cs.set off v).toArray from afx cs off v mX]at h2;exact hk w' h2 h3 h4
theorem bZ{t:Nat}{x:O}{v:Value}(hx:x.ev ρ=some v)
   (hk:∀w',w'.heap[w.heap.size]?=some (.cells v.cells t (0,0))->Mod (fun _=>False) w w'->w'.heap.size=w.heap.size+1->K (.pointer (some ⟨w.heap.size,0,none⟩)) w'):E.wp P w ρ K (.bx t x):=
 ⟨v,hx,hk _ (heap_alloc_new w _) (AB _ w _) (by simp)⟩
theorem cX{t:Nat}{z:Value}
   (hk:∀w',w'.heap[w.heap.size]?=some (.cells z.cells t (0,0))->Mod (fun _=>False) w w'->w'.heap.size=w.heap.size+1->K (.pointer (some ⟨w.heap.size,0,none⟩)) w'):E.wp P w ρ K (.al t z):=
 hk _ (heap_alloc_new w _) (AB _ w _) (by simp)
theorem ez{el len:Nat}{cells cs:Array Value}{parts:List (Nat×Nat×O)}{ps:List (Nat×Nat×Value)}(hp:nX ρ parts=some ps)(hf:lN cells ps=some cs)
   (hk:∀w',w'.heap[w.heap.size]?=some (.cells cs el (0,0))->Mod (fun _=>False) w w'->w'.heap.size=w.heap.size+1->K (.slice (some ⟨w.heap.size,0,none⟩) len len) w'):E.wp P w ρ K (.bs el len cells parts):=
 ⟨ps,cs,hp,hf,hk _ (heap_alloc_new w _) (AB _ w _) (by simp)⟩
theorem aL{f:Nat}{args:List O}{vs:List Value}(ha:gW ρ args=some vs)(h:bu P f vs w K):E.wp P w ρ K (.call f args):=⟨vs,ha,h⟩
end
attribute [go_sem] Nat.zero_add List.length_cons List.length_nil List.set_cons_zero List.set_cons_succ List.take_zero List.take_succ_cons List.drop_zero List.drop_succ_cons List.take_nil List.drop_nil List.nil_append List.cons_append List.append_nil or_false false_or or_true true_or false_implies true_implies and_true true_and and_self Bool.and_true Bool.true_and
attribute [go_sem] RV.ev aN Value.cells
abbrev M0:=Mod (fun _=>False)
universe u
theorem Ws(p:Prop)[Decidable p]:((decide p=true)=p)/\((decide p=false)=¬p)/\(¬¬p)=p:=by
 by_cases h:p<;>simp[h]
theorem Wt{α:Type u}[BEq α][LawfulBEq α](a b:α):(((a == b)=true)=(a=b))/\(((a == b)=false)=¬(a=b))/\(((a != b)=true)=¬(a=b))/\((a != b)=false)=(a=b):=by
 refine⟨?_,?_,?_,?_⟩<;>simp
theorem Wu{α:Sort u}(a b:α):(a≠b)=¬(a=b):=rfl
theorem bG:((false=true)=False)/\((true=false)=False)/\(0:Int).toNat=0:=by simp
theorem Wv(p:Prop):((p↔True)=p)/\((p↔False)=¬p)/\((True↔p)=p)/\((False↔p)=¬p):=by simp
theorem bH(n:Nat):n*1=n/\((n:Int).toNat=n)/\n-0=n/\n-n=0:=by simp
end
section
open Go
variable {dl:List Deferred} {P:Program} {N:Nat} {ops:Array Oper}
def yP(o:Oper):Bool:=match o.op with
 |.defer _=>false
 |_=>true
theorem afz{o:Oper}(h:yP o=true):∀c,o.op≠.defer c:=by
 intro c hc;simp[yP,hc]at h
theorem afA{l n:Nat}{row:String}{args:Array Value}{w:World}{R:Value->World->Prop}(h:Rows P row args w R):RowsIn (Fence.wide.inRound l) n P row args w R:=by
 intro c cs _;obtain⟨v,w',h1,h2⟩:=h c cs;exact⟨v,w',h1,stepsIn_wide.2 h2⟩
theorem afB{l n:Nat}{o:Oper}{a:Act}{K:Act->World->Prop}{Q:Exit->Act->World->Prop}{r:Result Next}(h:o.upon P a K wY r):o.uponIn (Fence.wide.inRound l) n P a K Q r:=by
 cases r with
 |ok x w'=>
  cases x<;>simp only[Oper.upon]at h<;>first
   |exact h
   | exact ⟨fun hh=>(by cases hh),(CallsIn.inRound l (callsIn_wide.2 h)).mono (fun e eI he=>by
       cases e with
       |returned v=>exact he
       |panicked c=>exact False.elim he
       |outgrown=>obtain⟨_,_,hf⟩:=he;exact False.elim hf)⟩
   |exact⟨fun hh=>(by cases hh),afA h⟩
   |exact False.elim h
 |halt x w'=>cases x<;>simp only[Oper.upon]at h<;>exact False.elim h
theorem KC{l n:Nat}{o:Oper}{a:Act}{w:World}{K:Act->World->Prop}{Q:Exit->Act->World->Prop}(hd:yP o=true)(h:o.wp P a w K wY):o.wpIn (Fence.wide.inRound l) n P a w K Q:=
 ⟨fun _ _=>trivial,by rw[Oper.semAt_eq _ _ _ (afz hd)];exact afB h⟩
theorem KD{l n:Nat}{G:Act->World->Prop}{Q:Exit->Act->World->Prop}(hQ:∀a w,G a w->Q .normal a w):∀(L:List Oper) (a:Act) (w:World),L.all yP=true->mA P ops G L a w->wpListIn (Fence.wide.inRound l) n P ops Q L a w
 |[],a,w,_,h=>hQ a w h
 |o::L,a,w,hd,h=>by
  simp only[List.all_cons,Bool.and_eq_true]at hd;unfold mA at h;unfold wpListIn
  split
  .rename_i hw;rw[if_pos hw]at h;exact KC hd.1 (Oper.wp_mono (fun a w hh=>KD hQ L a w hd.2 hh) h)
  .rename_i hw;rw[if_neg hw]at h;exact⟨fun _ _=>trivial,KD hQ L _ _ hd.2 h⟩
theorem afC{l n:Nat}{B:Nat→Nat→Prop}{Q:Act→World→Prop}{Q':Exit→Act→World→Prop}(hQ:∀ a w,Q a w→Q' .normal a w)(hd:ops.all yP=true) :
   ∀(f:Nat) (listed:Array Bool) (a:Act) (w:World),oN P ops B Q f listed a w->wpAnyIn (Fence.wide.inRound l) n P .any ops Q' f listed a w:=by
 intro f
 induction f with
 |zero=>intro listed a w h;exact⟨h.1,hQ _ _ h.2⟩
 |succ f ih=>
  intro listed a w h;refine⟨fun h0=>hQ _ _ (h.1 h0),fun i hi=>?_⟩;obtain⟨o,ho,hg⟩:=h.2 i hi;have hdo:yP o=true:=by
   rw[Array.all_eq_true]at hd;obtain⟨h1,h2⟩:=Array.getElem?_eq_some_iff.1 ho;have:=hd i h1;rw[h2]at this;exact this
  unfold wpOpIn;simp only[ho]
  split
  .rename_i hw;rw[if_pos hw]at hg;exact KC hdo (Oper.wp_mono (fun a' w' hh=>ih _ _ _ hh.2) hg)
  .rename_i hw;rw[if_neg hw]at hg;exact⟨fun _ _=>trivial,ih _ _ _ hg.2⟩
theorem Ww{l n:Nat}{id:Nat}{pm:List Nat}{Q:Exit→Act→World→Prop}{K:Env→World→Prop}{t:D}{ρ:Env}{a:Act}{w:World}(hm:P.follows .mixedOrders=true)(iE:Ej ops pm=true)
   (yL:Region.noSelect ops=true) (hd:ops.all yP=true) (ht:vg P N ops pm ops.size (Array.replicate ops.size false)=some t) (h:eo P t ρ w.drew [] K) (hg:Good dl N ρ a)
   (hQ:∀ρ' a' w',Good dl N ρ' a'->K ρ' w'->Q .normal a' w'):(Code.region id ops true).wpIn (Fence.wide.inRound l) n P Q a w:=by
 refine wpIn_region_any hm (afC (B:=yN pm []) (Q:=tO dl N K) (fun a' w' ⟨ρ',h1,h2⟩=>hQ ρ' a' w' h1 h2) hd _ _ _ _ ?_);refine V' iE yL _ _ t ρ a w.drew [] ht h hg ?_ (fun _ _ h=>by cases h);intro j oj _ hl;have:(Array.replicate ops.size false).getD j false=false:=by
  rcases Nat.lt_or_ge j ops.size with h |h
  .simp[h]
  .simp[h]
 rw[this]at hl;cases hl
def calm:Code->Bool
 |.skip=>true
 |.ret=>true
 |.exit _=>true
 |.seq a b=>calm a&&calm b
 |.cond _ a b=>calm a&&calm b
 |.block _ a=>calm a
 |.region _ ops _=>ops.all yP
 |_=>false
def qO:IR->Bool
 |.raw _=>false
 |.loop _=>false
 |.seq a b=>qO a&&qO b
 |.cond _ a b=>qO a&&qO b
 |.block _ a=>qO a
 |_=>true
theorem Wx{l n:Nat}{H:List (Nat×List Nat×List Nat)}:∀ (c:Code) (ir:IR) (Q:Post) (ρ:Env) (a:Act) (w:World),gQ P N H c=some ir→calm c=true→qO ir=true→dD P N ir Q ρ w→Good dl N ρ a →
   c.wpIn (Fence.wide.inRound l) n P (sK dl N Q) a w:=by
 intro c
 induction c with
 |skip=>intro ir Q ρ a w h _ _ hw hg;simp only[gQ,Option.some.injEq]at h;subst h;exact wpIn_skip ⟨ρ,hg,hw⟩
 |ret=>intro ir Q ρ a w h _ _ hw hg;simp only[gQ,Option.some.injEq]at h;subst h;exact wpIn_ret ⟨ρ,hg,hw⟩
 |exit id=>intro ir Q ρ a w h _ _ hw hg;simp only[gQ,Option.some.injEq]at h;subst h;exact wpIn_exit ⟨ρ,hg,hw⟩
 |seq x y ku oR=>
  intro ir Q ρ a w h hc hk hw hg;simp only[gQ]at h;obtain⟨a1,h1,h⟩:=Θ.1 h;obtain⟨b1,h2,h⟩:=Δ.1 h;subst h;simp only[calm,qO,Bool.and_eq_true]at hc hk;refine wpIn_seq (wpIn_mono (ku a1 _ ρ a w h1 hc.1 hk.1 hw hg) ?_);intro e a' w' hq;obtain⟨ρ',dR,hq⟩:=hq;cases e with
  |normal=>exact oR b1 Q ρ' a' w' h2 hc.2 hk.2 hq dR
  |_=>exact⟨ρ',dR,hq⟩
 |cond c x y ku oR=>
  intro ir Q ρ a w h hc hk hw hg;simp only[gQ]at h;obtain⟨a1,h1,h⟩:=Θ.1 h;obtain⟨b1,h2,h⟩:=Δ.1 h;subst h;simp only[calm,qO,Bool.and_eq_true]at hc hk;obtain⟨t,nf,ht,hf⟩:=hw;have he:=hg.agree c _ nf;exact wpIn_cond_split he (fun e=>ku a1 Q ρ a w h1 hc.1 hk.1 (ht e) hg) (fun e=>oR b1 Q ρ a w h2 hc.2 hk.2 (hf e) hg)
 |block id x ih=>
  intro ir Q ρ a w h hc hk hw hg;simp only[gQ]at h;obtain⟨a1,h1,h⟩:=Δ.1 h;subst h;simp only[calm,qO]at hc hk;refine wpIn_block (wpIn_mono (ih a1 _ ρ a w h1 hc hk hw hg) ?_);intro e a' w' hq;obtain⟨ρ',dR,hq⟩:=hq;cases e with
  |exit oQ=>
   simp only[Exit.inBlock,mB]at hq ⊢
   split
   .rename_i hh;rw[if_pos hh]at hq;exact⟨ρ',dR,hq⟩
   .rename_i hh;rw[if_neg hh]at hq;exact⟨ρ',dR,hq⟩
  |_=>exact⟨ρ',dR,hq⟩
 |region id ops draw=>
  intro ir Q ρ a w h hc hk hw hg;simp only[calm]at hc;simp only[gQ]at h;obtain⟨x,hx,h0⟩:=Θ.1 h;clear h;have h:=h0;clear h0;obtain⟨kp,pm⟩:=x;unfold PJ at h;have fin:∀ρ' a' w',Good dl N ρ' a'->Q .normal (ρ'.aI kp) w'->sK dl N Q .normal a' w':=fun ρ' a' w' dR hq=>⟨_,dR.aI kp,hq⟩
  have im:ops.toList.all yP=true:=by simpa using hc
  split at h
  .rename_i hd;subst hd
   split at h
   .rename_i pS;simp only[Bool.and_eq_true]at pS;obtain⟨⟨hs,iE⟩,hm⟩:=pS
    split at h
    .rename_i t ht
     split at h
     .rename_i st eH;simp only[Option.some.injEq]at h;subst h;exact Ww (K:=fun ρ w=>Q .normal (ρ.aI kp) w) hm iE hs hc ht (Wc t st ρ _ [] eH hw) hg fin
     .simp only[Option.some.injEq]at h;subst h;exact Ww (K:=fun ρ w=>Q .normal (ρ.aI kp) w) hm iE hs hc ht hw hg fin
    .simp only[Option.some.injEq]at h;subst h;simp[qO]at hk
   .simp only[Option.some.injEq]at h;subst h;simp[qO]at hk
  .rename_i hd;have:draw=false:=by simpa using hd
   subst this;obtain⟨st,eH,h⟩:=Δ.1 h;subst h;cases yO:vj N kp [] st with
   |none=>
    rw[yO]at hw;exact wpIn_region_list (KD (fun _ _ h=>h) _ _ _ im (Eh (G:=fun a w=>sK dl N Q .normal a w) ops.toList st ρ a w (fun ρ w=>Q .normal (ρ.aI kp) w) eH hw hg fin))
   |some eP=>
    rw[yO]at hw;exact wpIn_region_list (KD (fun _ _ h=>h) _ _ _ im (Wj (G:=fun a w=>sK dl N Q .normal a w) (K:=fun ρ w=>Q .normal ρ w) ops.toList st eP [] ρ ρ a w eH yO hw hg (fun t _=>rfl) fin))
 |_=>intro ir Q ρ a w h hc;simp[calm]at hc
def GX(n k:Nat):List Nat:=(List.range k).map fun i=>n-1-i
def Quiet(B:Nat)(I:World->Prop):Prop:=∀W W' (S:Nat->Prop),I W->Mod S W W'->(∀b,S b->B<=b/\∃o:Obj,W.heap[b]?=some o/\o.isCells=false)->I W'
theorem Wy{α:Type}{B:Nat}{I:List α->World->Prop}(h:∀s,Quiet B (I s)):OwnFrom B I:=by
 intro s W W' row hs hg hr;refine h s W W' (fun b=>row=some b) hs ⟨hg.size,fun b hb hn=>hg.block b hb (fun e=>hn e.symm),hg.os,hg.tape,hg.output⟩ (fun b hb=>hr b hb)
structure Wz (P:Program) (N:Nat) (ir:IR) (Kp:World->World->Prop) (len:Nat) (mC:Nat->Value) (p1 p2 d:Nat) (ρ:Env) (B:Nat) (I:List Nat->World->Prop) (w:World):Prop where
 zero:I [] w
 quiet:∀s,Quiet B (I s)
 body:∀(pre:List Nat) (j:Nat) (W:World),I pre W->pre.length<len->j<len ->
  dD P N ir (fun e _ W'=>match e with |.normal=>KeepsOthers W W'/\Kp W W'/\I (pre++[j]) W' |_=>False) ((d,mC j)::ρ) W
theorem KE{ρ:Env}{a:Act}(h:Good dl N ρ a){p:Nat}(v:Value)(hp:ρ.get p=none)(hN:p<N):Good dl N ρ (a.put (some p) v):=by
 have h1:=h.put (some p) v (fun t ht=>by cases ht;exact hN);refine⟨h1.size,h1.defers,fun t u hu=>h1.get t u ?_⟩;rw[GR (fun hh=>by subst hh;rw[hp]at hu;cases hu)];exact hu
theorem afD{n:Nat}{x p1 p2 d id ty:Nat}{pos:String}{bd:Code}{ir:IR}{H:List (Nat×List Nat×List Nat)}(eV:gQ P N H bd=some ir)(PQ:calm bd=true)(PR:qO ir=true)
   {gf:Nat} {lb:Array Value} {len:Nat} {mC:Nat->Value} {Kp:World->World->Prop} {ρ:Env} {a:Act} {w:World} {Q:Exit->Act->World->Prop} (hg:Good dl N ρ a) (hx:ρ.get x=some (.func (.func gf) #[] lb))
   (eg:∀args w,(callFunc gf args).run P w=.ok (.enter gf args) w)
   (B7:SeqStopsK Fence.wide (n-1) P gf lb (fun y : { j:Nat // j<len}=>#[.int .i64 (y.1:Int),mC y.1]) Kp (fun ys=>ys.map Subtype.val=GX len len) (fun _=>True) len w)
   (hp:p1≠p2/\p1<N/\p2<N/\d<N) (PS:ρ.get p1=none/\ρ.get p2=none) (hn:1<=n)
   (B8:∀{A B C:World},Kp A B->Kp B C->Kp A C) (B9:∀(W:World) (l:Nat) (o o':Obj),w.heap.size<=l->W.heap[l]?=some o->o.isCells=false->o.isWalk=false->Kp W (W.putObj l o'))
   (I:List Nat->World->Prop) (hI:Wz P N ir Kp len mC p1 p2 d ρ w.heap.size I w)
   (done:∀(D:Nat) (W:World),w.heap.size<=D->I (GX len len) W->W.heap[D]?=some (.deferred (some []))->∀a',Good ({ target:=.collected D,args:=#[]}::dl) N ρ a'->Q .normal a' W) :
   (Code.rangeFunc (.tmp x) #[p1,p2] (.region id #[{ dst:=some d,op:=.assign (.tmp p2),type:=ty,pos:=pos,after:=#[],guard:=none}] false) bd).wp P Q a w:=by
 obtain⟨aqi,kx,qP,hd⟩:=hp;obtain⟨rP,ni⟩:=PS;have h0:Good [] N ρ { tmps:=a.tmps,defers:=[]}:=⟨hg.size,rfl,hg.get⟩;have kP:a.eval (.tmp x)=.func (.func gf) #[] lb:=hg.agree (.tmp x) _ hx;refine(wpIn_wide (n:=n)).1 ?_;refine wpIn_rangeFunc_ownF (α:={ j:Nat // j<len}) rfl hn kP trivial eg B7 B8 B9 (Go.RowKit.Below.refl _ _) (fun _=>rfl) (fun xs W=>I (xs.map Subtype.val) W) (fun _ _ _=>False)
  (Wy (fun s=>hI.quiet _)) (fun c=>fun s W W' row h=>h.elim) hI.zero
  (fun y=>(((({ tmps:=a.tmps,defers:=[]}:Act).put (some p1) (.int .i64 (y.1:Int))).put (some p2) (mC y.1)).put (some d) (mC y.1))) ?_ ?_ ?_ ?_
 .intro l y W K hK;have e:((#[p1,p2].zip #[Value.int .i64 (y.1:Int),mC y.1]).foldl (fun t (p,v)=>t.setIfInBounds p v) a.tmps)=((({ tmps:=a.tmps,defers:=[]}:Act).put (some p1) (.int .i64 (y.1:Int))).put (some p2) (mC y.1)).tmps:=by simp[Act.put]
  rw[e];have hG:Good [] N ((p2,mC y.1)::ρ) ((({ tmps:=a.tmps,defers:=[]}:Act).put (some p1) (.int .i64 (y.1:Int))).put (some p2) (mC y.1)):=
   (KE h0 _ rP kx).put (some p2) _ (fun t ht=>by cases ht;exact qP)
  refine wpIn_region_list ?_;show wpListIn _ _ _ _ _ [_] _ _;unfold wpListIn;rw[if_pos (by simp[Region.wanted])];have hr:dx P (Op.assign (.tmp p2))=some (.mv (.t p2)):=rfl;obtain⟨v,hv,lP⟩:=PG (P:=P) (o:={ dst:=some d,op:=.assign (.tmp p2),type:=ty,pos:=pos,after:=#[],guard:=none}) (w:=W) hr hG (by simpa[GQ]using qP);have nj:mC y.1=v:=hv _ (by simp[O.ev,Env.get]);subst nj;refine KC rfl (Oper.wp_mono ?_ lP);rintro a' w' ⟨rfl,rfl⟩;exact hK
 .intro l pre y W hi hlen;have hG:Good [] N ((d,mC y.1)::ρ) (((({ tmps:=a.tmps,defers:=[]}:Act).put (some p1) (.int .i64 (y.1:Int))).put (some p2) (mC y.1)).put (some d) (mC y.1)):=
   (KE (KE h0 _ rP kx) _ ni qP).put (some d) _ (fun t ht=>by cases ht;exact hd)
  refine wpIn_mono (Wx bd ir _ _ _ _ eV PQ PR (hI.body _ y.1 W hi (by simpa using hlen) y.2) hG) ?_;rintro e a' w' ⟨ρ',_,hq⟩;cases e with
  |normal=>
   obtain⟨q1,q2,q3⟩:=hq;exact⟨q1,q2,by show I ((pre++[y]).map Subtype.val) w';rw[List.map_append];exact q3⟩
  |_=>exact hq.elim
 .intro D xs W hD hS hi hh;have hS:xs.map Subtype.val=GX len len:=hS;have hi:I (xs.map Subtype.val) W:=hi;rw[hS]at hi;exact done D W hD hi hh _ ⟨hg.size,by simp[hg.defers],hg.get⟩
 .intro D c pre W _ _ hh;exact hh.elim
structure WA (P:Program) (N:Nat) (ir:IR) (Kp:World->World->Prop) (len:Nat) (d:Nat) (ρ:Env) (B:Nat) (I:List ByteArray->World->Prop) (w:World):Prop where
 zero:I [] w
 quiet:∀s,Quiet B (I s)
 body:∀(pre:List ByteArray) (x:ByteArray) (W:World),I pre W->pre.length<len ->
  dD P N ir (fun e _ W'=>match e with |.normal=>KeepsFrom B W W'/\Kp W W'/\I (pre++[x]) W' |_=>False) ((d,.string x)::ρ) W
theorem afE{n:Nat}{x p d id ty:Nat}{pos:String}{bd:Code}{ir:IR}{H:List (Nat×List Nat×List Nat)}(eV:gQ P N H bd=some ir)(PQ:calm bd=true)(PR:qO ir=true)
   {gf:Nat} {lb:Array Value} {len:Nat} {Kp:World->World->Prop} {ρ:Env} {a:Act} {w:World} {Q:Exit->Act->World->Prop} (hg:Good dl N ρ a) (hx:ρ.get x=some (.func (.func gf) #[] lb))
   (eg:∀args w,(callFunc gf args).run P w=.ok (.enter gf args) w)
   (B7:SeqStopsK Fence.wide (n-1) P gf lb (fun y:ByteArray=>#[.string y]) Kp (fun _=>True) (fun _=>True) len w)
   (hp:p<N/\d<N) (PS:ρ.get p=none) (hn:1<=n)
   (B8:∀{A B C:World},Kp A B->Kp B C->Kp A C) (B9:∀(W:World) (l:Nat) (o o':Obj),w.heap.size<=l->W.heap[l]?=some o->o.isCells=false->o.isWalk=false->Kp W (W.putObj l o'))
   (I:List ByteArray->World->Prop) (hI:WA P N ir Kp len d ρ w.heap.size I w)
   (done:∀(D:Nat) (xs:List ByteArray) (W:World),w.heap.size<=D->I xs W->W.heap[D]?=some (.deferred (some []))->∀a',Good ({ target:=.collected D,args:=#[]}::dl) N ρ a'->Q .normal a' W) :
   (Code.rangeFunc (.tmp x) #[p] (.region id #[{ dst:=some d,op:=.assign (.tmp p),type:=ty,pos:=pos,after:=#[],guard:=none}] false) bd).wp P Q a w:=by
 obtain⟨kx,hd⟩:=hp;have h0:Good [] N ρ { tmps:=a.tmps,defers:=[]}:=⟨hg.size,rfl,hg.get⟩;have kP:a.eval (.tmp x)=.func (.func gf) #[] lb:=hg.agree (.tmp x) _ hx;refine(wpIn_wide (n:=n)).1 ?_;refine wpIn_rangeFunc_ownG (α:=ByteArray) rfl hn kP trivial eg B7 B8 B9 (Go.RowKit.Below.refl _ _) (fun _=>rfl) I (fun _ _ _=>False)
  (Wy (fun s=>hI.quiet _)) (fun c=>fun s W W' row h=>h.elim) hI.zero
  (fun y=>((({ tmps:=a.tmps,defers:=[]}:Act).put (some p) (.string y)).put (some d) (.string y))) ?_ ?_ ?_ ?_
 .intro l y W K hK;have e:((#[p].zip #[Value.string y]).foldl (fun t (p,v)=>t.setIfInBounds p v) a.tmps)=(({ tmps:=a.tmps,defers:=[]}:Act).put (some p) (.string y)).tmps:=by simp[Act.put]
  rw[e];have hG:Good [] N ((p,.string y)::ρ) (({ tmps:=a.tmps,defers:=[]}:Act).put (some p) (.string y)):=
   h0.put (some p) _ (fun t ht=>by cases ht;exact kx)
  refine wpIn_region_list ?_;show wpListIn _ _ _ _ _ [_] _ _;unfold wpListIn;rw[if_pos (by simp[Region.wanted])];have hr:dx P (Op.assign (.tmp p))=some (.mv (.t p)):=rfl;obtain⟨v,hv,lP⟩:=PG (P:=P) (o:={ dst:=some d,op:=.assign (.tmp p),type:=ty,pos:=pos,after:=#[],guard:=none}) (w:=W) hr hG (by simpa[GQ]using kx);have nj:Value.string y=v:=hv _ (by simp[O.ev,Env.get]);subst nj;refine KC rfl (Oper.wp_mono ?_ lP);rintro a' w' ⟨rfl,rfl⟩;exact hK
 .intro l pre y W hi hlen;have hG:Good [] N ((d,.string y)::ρ) ((({ tmps:=a.tmps,defers:=[]}:Act).put (some p) (.string y)).put (some d) (.string y)):=
   (KE h0 _ PS kx).put (some d) _ (fun t ht=>by cases ht;exact hd)
  refine wpIn_mono (Wx bd ir _ _ _ _ eV PQ PR (hI.body _ y W hi hlen) hG) ?_;rintro e a' w' ⟨ρ',_,hq⟩;cases e with
  |normal=>exact hq
  |_=>exact hq.elim
 .intro D xs W hD hS hi hh;exact done D xs W hD hi hh _ ⟨hg.size,by simp[hg.defers],hg.get⟩
 .intro D c pre W _ _ hh;exact hh.elim
end
section
open Go
theorem dJ{n:Int}(h1 : -9223372036854775808<=n)(h2:n<9223372036854775808):IntKind.i64.wrap n=n:=by
 rw[IntKind.wrap_i64];omega
abbrev I(n:Int):Value:=.int .i64 n
def dP(w:World)(T sz:Nat)(v:Value)(xs:List Value)(n:Nat)(fp:Option Nat):Prop:=
 xs.length=n*sz/\((v=.slice none 0 0/\n=0/\fp=none) \/
  ∃b c sp,v=.slice (some ⟨b,0,none⟩) n c/\fp=some b/\w.heap[b]?=some (.cells (xs++sp).toArray T (0,0))/\c*sz<=(xs++sp).length/\n<=c)
theorem dP.nil(w:World)(T sz:Nat):dP w T sz (.slice none 0 0) [] 0 none:=⟨by simp,.inl ⟨rfl,rfl,rfl⟩⟩
theorem dP.lt{w:World}{T sz:Nat}{v:Value}{xs:List Value}{n b:Nat}{fp:Option Nat}(h:dP w T sz v xs n fp)(hb:fp=some b):b<w.heap.size:=by
 rcases h.2 with⟨_,_,h⟩ |⟨b',c,sp,_,h,hh,_⟩
 .rw[h]at hb;cases hb
 .rw[h]at hb;cases hb;exact bP hh
theorem dP.mod{w w':World}{S:Nat->Prop}{T sz:Nat}{v:Value}{xs:List Value}{n:Nat}{fp:Option Nat}(h:dP w T sz v xs n fp)(hm:Mod S w w')(hs:∀b,fp=some b->¬S b):dP w' T sz v xs n fp:=by
 refine⟨h.1,?_⟩;rcases h.2 with h |⟨b,c,sp,h1,h2,h3,h4⟩
 .exact .inl h
 .exact .inr ⟨b,c,sp,h1,h2,hm.at h3 (hs b h2),h4⟩
theorem dP.of_block{w:World}{T sz n b:Nat}{xs:List Value}(h:w.heap[b]?=some (.cells xs.toArray T (0,0)))(hn:xs.length=n*sz):dP w T sz (.slice (some ⟨b,0,none⟩) n n) xs n (some b):=
 ⟨hn,.inr ⟨b,n,[],rfl,rfl,by simpa using h,by simpa using Nat.le_of_eq hn.symm,Nat.le_refl _⟩⟩
theorem dP.val{w:World}{T sz:Nat}{v:Value}{xs:List Value}{n:Nat}{fp:Option Nat}(h:dP w T sz v xs n fp):∃a c,v=.slice a n c/\n<=c/\(a=none->n=0/\c=0):=by
 rcases h.2 with⟨h1,h2,_⟩ |⟨b,c,sp,h1,_,_,_,h5⟩
 .subst h2;exact⟨none,0,h1,Nat.le_refl _,fun _=>⟨rfl,rfl⟩⟩
 .exact⟨_,c,h1,h5,fun h=>by cases h⟩
theorem dP.pos{w:World}{T sz:Nat}{v:Value}{xs:List Value}{n:Nat}{fp:Option Nat}(h:dP w T sz v xs n fp)(hn:0 < n) :
   ∃b c sp,v=.slice (some ⟨b,0,none⟩) n c/\fp=some b/\w.heap[b]?=some (.cells (xs++sp).toArray T (0,0))/\n<=c/\c*sz<=(xs++sp).length:=by
 rcases h.2 with⟨_,h,_⟩ |⟨b,c,sp,h1,h2,h3,h4,h5⟩
 .omega
 .exact⟨b,c,sp,h1,h2,h3,h5,h4⟩
theorem dP.rd{w:World}{T sz:Nat}{xs:List Value}{n:Nat}{fp:Option Nat}{a:Option Addr}{c:Nat}(h:dP w T sz (.slice a n c) xs n fp):sG w a (n*sz) xs:=by
 refine⟨h.1,?_⟩;intro ad lQ j v hv;rcases h.2 with⟨h1,_,_⟩ |⟨b,c',sp,h1,h2,h3,_⟩
 .cases h1;cases lQ
 .cases h1;cases lQ;rw [oa,cell_of h3];have bg:j < xs.length:=by
   rcases Nat.lt_or_ge j xs.length with h |h
   .exact h
   .simp[List.getElem?_eq_none h]at hv
  simp[List.getElem?_append_left bg,hv]
theorem mD{w:World}{b T:Nat}{fz:Nat×Nat}{xs:List Value}(h:w.heap[b]?=some (.cells xs.toArray T fz)):sG w (some ⟨b,0,none⟩) xs.length xs:=by
 refine⟨rfl,?_⟩;intro ad lQ j v hv;cases lQ;rw[oa,cell_of h]
 simpa using hv
section
variable {P:Program} {w:World} {ρ:Env} {K:Value->World->Prop}
theorem WB(z:Array Value)(n:Nat):(Builtin.zeroCells z n).size=n*z.size:=by simp[Builtin.zeroCells]
theorem sN{T sz bytes m c n:Nat}{zero:Array Value}{s x:O}{v:Value}{xs news:List Value}{fp:Option Nat}{xa:Option Addr}
   (hs:s.ev ρ=some v) (ho:dP w T sz v xs n fp) (hx:x.ev ρ=some (.slice xa m c)) (oM:xa=none->m=0) (hr:sG w xa (m*sz) news) (h1:∀u∈news,u.oneCell'=true)
   (hz:zero.size=sz) (hb:(n+m)*bytes<=140737488355328) (BX:n+m<=9223372036854775807)
   (hk:∀v' w' dB,dP w' T sz v' (xs++news) (n+m) dB->Mod (fun b=>fp=some b) w w'->(∀b,dB=some b->fp=some b\/b=w.heap.size/\b<w'.heap.size)->K v' w') :
   E.wp P w ρ K (.ap T sz bytes zero s x):=by
 obtain⟨hlen,hv⟩:=ho;have yI:news.length=m*sz:=hr.1;have KF:(xs++news).length=(n+m)*sz:=by rw[List.length_append,hlen,yI,Nat.add_mul]
 have grown:∀(sH:List Value),sH=xs->∀nc w1,n+m<=nc->w1=w.drew.alloc (.cells (sH.toArray++news.toArray++Builtin.zeroCells zero (nc-(n+m))) T)->K (.slice (some ⟨w.heap.size,0,none⟩) (n+m) nc) w1:=by
  intro sH ho nc w1 hle GY;subst ho GY;refine hk _ _ (some w.heap.size) ⟨KF,.inr ⟨w.heap.size,nc,(Builtin.zeroCells zero (nc-(n+m))).toList,rfl,rfl,?_,?_,hle⟩⟩ (AB _ w.drew _).dG ?_
  .rw[show w.heap.size=w.drew.heap.size from rfl,heap_alloc_new w.drew]
   congr 2
   apply Array.ext';simp
  .rw[List.length_append,KF,Array.length_toList,WB,hz,<- Nat.add_mul];exact Nat.mul_le_mul_right _ (by omega)
  .intro b hb;cases hb;exact .inr ⟨rfl,by simp⟩
 rcases hv with⟨rfl,rfl,rfl⟩ |⟨b,cap,rQ,rfl,rfl,hrow,oS,hle⟩
 .have iq:xs=[]:=List.eq_nil_of_length_eq_zero (by simpa using hlen);subst iq;refine⟨none,0,0,xa,m,c,[],news,hs,hx,fun _=>⟨rfl,rfl⟩,oM,⟨by simp,(fun ad h=>by cases h)⟩,hr,h1,hb,BX,?_,?_,fun hc nc w1 h2 h3=>grown [] rfl nc w1 h2 h3⟩
  .intro hm _;have kQ:m=0:=by omega
   subst kQ;have xj:news=[]:=List.eq_nil_of_length_eq_zero (by simpa using yI);subst xj;exact hk _ _ none (dP.nil w T sz) (Mod.refl _ w) (fun b h=>by cases h)
  .intro _ a h;cases h
 .refine⟨some ⟨b,0,none⟩,n,cap,xa,m,c,xs,news,hs,hx,(fun h=>by cases h),oM,?_,hr,h1,hb,BX,(fun _ h=>by cases h),?_,fun hc nc w1 h2 h3=>grown xs rfl nc w1 h2 h3⟩
  .exact dP.rd ⟨hlen,.inr ⟨b,cap,rQ,rfl,rfl,hrow,oS,hle⟩⟩
  .intro xb a ha;cases ha;have mX:n*sz+news.length<=(xs++rQ).length:=by rw[yI,<- Nat.add_mul];exact Nat.le_trans (Nat.mul_le_mul_right _ xb) oS
   have sI:sp (xs++rQ).toArray (0+n*sz) news=((xs++news)++rQ.drop news.length).toArray:=by
    unfold sp;simp only[Nat.zero_add,List.append_assoc];rw[<- hlen,List.take_left]
    congr 2
    rw[List.drop_append];simp
   refine⟨(xs++rQ).toArray,T,⟨rfl,hrow⟩,by simpa using mX,?_⟩;rw[sI];refine hk _ _ (some b) ⟨KF,.inr ⟨b,cap,rQ.drop news.length,rfl,rfl,setRow_heap w b _ _ T _ hrow,?_,xb⟩⟩ ((Wq w b _).aU (fun i hi=>by rw[hi])) (fun b' ky=>.inl ky);rw[List.length_append,KF,List.length_drop];have h2:(xs++rQ).length=xs.length+rQ.length:=List.length_append;rw[h2,hlen]at oS;rw[yI];rw[h2,hlen,yI]at mX;have h3:(n+m)*sz=n*sz+m*sz:=Nat.add_mul _ _ _;omega
end
def afF:Value->Option Nat
 |.slice (some a) _ _=>some a.block
 |_=>none
def yQ(w:World)(v:Value)(xs:List Int):Prop:=
 ∃a c,v=.slice a xs.length c/\xs.length<=17592186044416/\∀i (h:i<xs.length),∃ad,a=some ad/\w.cell? (ad.add i)=some (I xs[i])
theorem yQ.mod{w w':World}{S:Nat->Prop}{v:Value}{xs:List Int}(h:yQ w v xs)(hm:Mod S w w')(hs:∀b,afF v=some b->¬S b):yQ w' v xs:=by
 obtain⟨a,c,rfl,hl,hx⟩:=h;refine⟨a,c,rfl,hl,fun i hi=>?_⟩;obtain⟨ad,rfl,hc⟩:=hx i hi;refine⟨ad,rfl,hm.cell hc ?_⟩;rw[u9];exact hs _ rfl
end
end Go.W
section
namespace Go.W
open Go
theorem WC{P:Program}{K K':Env->World->Prop}(hk:∀ρ w,K ρ w->K' ρ w):∀(t:D) (ρ:Env) (w:World) (rd:List (Nat×Nat)),eo P t ρ w rd K->eo P t ρ w rd K':=by
 intro t
 induction t with
 |nil=>intro ρ w rd h;exact hk _ _ h
 |r i g d r t ih=>
  intro ρ w rd h;rcases g with _ |⟨s,b⟩
  .obtain⟨v,h1,h2⟩:=h;exact⟨v,h1,ih _ _ _ h2⟩
  .obtain⟨c,h1,h2,h3⟩:=h;exact⟨c,h1,fun hh=>let⟨v,h4,h5⟩:=h2 hh;⟨v,h4,ih _ _ _ h5⟩,fun hh=>ih _ _ _ (h3 hh)⟩
 |e i g d e fl t ih=>
  intro ρ w rd h;rcases g with _ |⟨s,b⟩
  .exact E.mono (fun v w' h=>⟨h.1,ih _ _ _ h.2⟩) e h
  .obtain⟨c,h1,h2,h3⟩:=h;exact⟨c,h1,fun hh=>E.mono (fun v w' h=>⟨h.1,ih _ _ _ h.2⟩) e (h2 hh),fun hh=>ih _ _ _ (h3 hh)⟩
 |e2 i d e fl t i' d' e' rL t' ih ih'=>
  intro ρ w rd h;exact⟨E.mono (fun v w' h=>⟨h.1,ih _ _ _ h.2⟩) e h.1,E.mono (fun v w' h=>⟨h.1,ih' _ _ _ h.2⟩) e' h.2⟩
section
variable {P:Program} {N:Nat}
theorem KG{next next':Env->World->Prop}{Q Q':Post}(hn:∀ρ w,next ρ w->next' ρ w)(hq:∀e ρ w,Q e ρ w->Q' e ρ w):∀(e:Exit) (ρ:Env) (w:World),qN next Q e ρ w->qN next' Q' e ρ w:=by
 intro e ρ w h;cases e<;>first |exact hn _ _ h |exact hq _ _ _ h
theorem afG{id:Nat}{Q Q':Post}(hq:∀e ρ w,Q e ρ w->Q' e ρ w):∀(e:Exit) (ρ:Env) (w:World),mB id Q e ρ w->mB id Q' e ρ w:=by
 intro e ρ w h;cases e with
 |exit i=>
  show(if i=id then Q' .normal ρ w else Q' (.exit i) ρ w);have h:(if i=id then Q .normal ρ w else Q (.exit i) ρ w):=h
  split
  .rename_i hi;rw[if_pos hi]at h;exact hq _ _ _ h
  .rename_i hi;rw[if_neg hi]at h;exact hq _ _ _ h
 |_=>exact hq _ _ _ h
theorem Ew:∀(c:IR) (Q Q':Post),(∀e ρ w,Q e ρ w->Q' e ρ w)->∀ρ w,dD P N c Q ρ w->dD P N c Q' ρ w:=by
 intro c
 induction c with
 |skip=>intro Q Q' hq ρ w h;exact hq _ _ _ h
 |ret=>intro Q Q' hq ρ w h;exact hq _ _ _ h
 |exit id=>intro Q Q' hq ρ w h;exact hq _ _ _ h
 |seq a b qQ vm=>intro Q Q' hq ρ w h;exact qQ _ _ (KG (fun ρ w h=>vm _ _ hq ρ w h) hq) ρ w h
 |cond c a b qQ vm=>intro Q Q' hq ρ w h;obtain⟨t,h1,h2,h3⟩:=h;exact⟨t,h1,fun hh=>qQ _ _ hq _ _ (h2 hh),fun hh=>vm _ _ hq _ _ (h3 hh)⟩
 |block id a qQ=>intro Q Q' hq ρ w h;exact qQ _ _ (afG hq) ρ w h
 |loop a qQ=>
  intro Q Q' hq ρ w h;obtain⟨J,n,h0,hs⟩:=h;exact⟨J,n,h0,fun n ρ w hJ=>qQ _ _ (KG (fun _ _ h=>h) hq) ρ w (hs n ρ w hJ)⟩
 |eJ dw st kp=>intro Q Q' hq ρ w h;exact B6 _ h (fun ρ w h=>hq _ _ _ h)
 |dr t kp=>intro Q Q' hq ρ w h;exact WC (fun ρ w h=>hq _ _ _ h) t _ _ _ h
 |raw c=>intro Q Q' hq ρ w h dl a ha;exact wp_mono (h dl a ha) (fun e a w h=>by obtain⟨ρ,h1,h2⟩:=h;exact⟨ρ,h1,hq _ _ _ h2⟩)
theorem eA{a b:IR}{Q:Post}{ρ:Env}{w:World}(rO:Env->World->Prop)(h:dD P N a (qN rO Q) ρ w)(hk:∀ρ w,rO ρ w->dD P N b Q ρ w):dD P N (.seq a b) Q ρ w:=
 Ew a _ _ (KG hk (fun _ _ _ h=>h)) ρ w h
theorem Ca{a:IR}{next:Env->World->Prop}{Q:Post}{ρ:Env}{w:World}(rO:Env->World->Prop)(h:dD P N a (qN rO Q) ρ w)(hk:∀ρ w,rO ρ w->next ρ w):dD P N a (qN next Q) ρ w:=
 Ew a _ _ (KG hk (fun _ _ _ h=>h)) ρ w h
end
end Go.W
namespace Go.W
open Go
theorem GZ{P:Program}{K:Env→World→Prop}{ρ:Env}{w:World}{rd:List (Nat×Nat)}(i:Nat)(d:Option Nat)(e:E)(fl:List Nat)(t:D)(i':Nat)(d':Option Nat)(e':E)(rL:List Nat)(t':D) :
   eo P (.e2 i d e fl t i' d' e' rL t') ρ w rd K=((e.wp P w ρ fun v w'=>oO fl w w' rd/\eo P t (ρ.put d v) w' rd K)/\(e'.wp P w ρ fun v w'=>oO rL w w' rd/\eo P t' (ρ.put d' v) w' rd K)):=_root_.id rfl
theorem KH{P:Program}{K:Env->World->Prop}{ρ:Env}{w:World}{rd:List (Nat×Nat)}{t:D}(rO:Env->World->Prop)(h:eo P t ρ w rd rO)(hk:∀ρ w,rO ρ w->K ρ w):eo P t ρ w rd K:=
 WC hk t ρ w rd h
end Go.W
end
namespace Go.W
section
open Go
inductive K where
 |ir (x:IR)
 |seq (a b:K)
 |cond (c:O) (a b:K)
 |jX (id:Nat) (a:K)
 |xk (x p1 p2 d:Nat) (bd:IR)
 |PT (x p d:Nat) (bd:IR)
 deriving Inhabited
abbrev sO:=Exit->List Nat->Env->World->Prop
def G0(next:List Nat->Env->World->Prop)(Q:sO):sO
 |.normal,Ds,ρ,w=>next Ds ρ w
 |e,Ds,ρ,w=>Q e Ds ρ w
def Ey(id:Nat)(Q:sO):sO
 |.exit oQ,Ds,ρ,w=>if oQ=id then Q .normal Ds ρ w else Q (.exit oQ) Ds ρ w
 |e,Ds,ρ,w=>Q e Ds ρ w
def G1(D:Nat):Deferred:={ target:=.collected D,args:=#[]}
def WD(N:Nat)(Q:sO):Exit->Act->World->Prop:=fun e a w=>∃ρ Ds,Good (Ds.map G1) N ρ a/\Q e Ds ρ w
structure afH (P:Program) (N:Nat) (ir:IR) (x p1 p2 d:Nat) (ρ:Env) (w:World) (n len gf:Nat) (lb:Array Value) (mC:Nat->Value) (Kp:World->World->Prop) (I:List Nat->World->Prop):Prop where
 hx:ρ.get x=some (.func (.func gf) #[] lb)
 eg:∀args w,(callFunc gf args).run P w=.ok (.enter gf args) w
 B7:SeqStopsK Fence.wide (n-1) P gf lb (fun y : { j:Nat // j<len}=>#[.int .i64 (y.1:Int),mC y.1]) Kp (fun ys=>ys.map Subtype.val=GX len len) (fun _=>True) len w
 fresh:ρ.get p1=none/\ρ.get p2=none
 hn:1<=n
 B8:∀{A B C:World},Kp A B->Kp B C->Kp A C
 B9:∀(W:World) (l:Nat) (o o':Obj),w.heap.size<=l->W.heap[l]?=some o->o.isCells=false->o.isWalk=false->Kp W (W.putObj l o')
 hI:Wz P N ir Kp len mC p1 p2 d ρ w.heap.size I w
structure afI (P:Program) (N:Nat) (ir:IR) (x p d:Nat) (ρ:Env) (w:World) (n len gf:Nat) (lb:Array Value) (Kp:World->World->Prop) (I:List ByteArray->World->Prop):Prop where
 hx:ρ.get x=some (.func (.func gf) #[] lb)
 eg:∀args w,(callFunc gf args).run P w=.ok (.enter gf args) w
 B7:SeqStopsK Fence.wide (n-1) P gf lb (fun y:ByteArray=>#[.string y]) Kp (fun _=>True) (fun _=>True) len w
 fresh:ρ.get p=none
 hn:1<=n
 B8:∀{A B C:World},Kp A B->Kp B C->Kp A C
 B9:∀(W:World) (l:Nat) (o o':Obj),w.heap.size<=l->W.heap[l]?=some o->o.isCells=false->o.isWalk=false->Kp W (W.putObj l o')
 hI:WA P N ir Kp len d ρ w.heap.size I w
def lR(P:Program)(N:Nat):K->sO->List Nat->Env->World->Prop
 |.ir x,Q,Ds,ρ,w=>dD P N x (fun e ρ w=>Q e Ds ρ w) ρ w
 |.seq a b,Q,Ds,ρ,w=>lR P N a (G0 (fun Ds ρ w=>lR P N b Q Ds ρ w) Q) Ds ρ w
 |.cond c a b,Q,Ds,ρ,w=>∃t,c.ev ρ=some (.bool t)/\(t=true->lR P N a Q Ds ρ w)/\(t=false->lR P N b Q Ds ρ w)
 |.jX id a,Q,Ds,ρ,w=>lR P N a (Ey id Q) Ds ρ w
 | .xk x p1 p2 d bd,Q,Ds,ρ,w=>∃ n len gf lb mC Kp I,afH P N bd x p1 p2 d ρ w n len gf lb mC Kp I ∧
     ∀(D:Nat) (W:World),w.heap.size<=D->I (GX len len) W->W.heap[D]?=some (.deferred (some []))->Q .normal (D::Ds) ρ W
 | .PT x p d bd,Q,Ds,ρ,w=>∃ n len gf lb Kp I,afI P N bd x p d ρ w n len gf lb Kp I ∧
     ∀(D:Nat) (xs:List ByteArray) (W:World),w.heap.size<=D->I xs W->W.heap[D]?=some (.deferred (some []))->Q .normal (D::Ds) ρ W
def G2:Code->Option (Nat×Nat)
 |.region _ ops false=>match ops.toList with
  |[⟨some d,.assign (.tmp p),_,_,after,none⟩]=>if after.isEmpty then some (d,p)else none
  |_=>none
 |_=>none
theorem WE{c:Code}{d p:Nat}(h:G2 c=some (d,p)):∃id ty pos,c=.region id #[{ dst:=some d,op:=.assign (.tmp p),type:=ty,pos:=pos,after:=#[],guard:=none}] false:=by
 unfold G2 at h
 split at h
 .rename_i id ops
  split at h
  .rename_i d' p' ty pos after nY
   split at h
   .rename_i ha;simp only[Option.some.injEq,Prod.mk.injEq]at h;obtain⟨rfl,rfl⟩:=h;have yR:after=#[]:=by simpa using ha
    subst yR;refine⟨id,ty,pos,?_⟩;have:ops=#[{ dst:=some d',op:=.assign (.tmp p'),type:=ty,pos:=pos,after:=#[],guard:=none}]:=by
     apply Array.ext';rw[nY]
    rw[this]
   .cases h
  .cases h
 .cases h
def mkSeq:K->K->K
 |.ir x,.ir y=>.ir (.seq x y)
 |a,b=>.seq a b
def KI(c:O):K->K->K
 |.ir x,.ir y=>.ir (.cond c x y)
 |a,b=>.cond c a b
def KJ(id:Nat):K->K
 |.ir x=>.ir (.block id x)
 |a=>.jX id a
def tS(P:Program)(N:Nat)(H:List (Nat×List Nat×List Nat)):Code->Option K
 |.seq a b=>(tS P N H a).bind fun x=>(tS P N H b).map fun y=>mkSeq x y
 |.cond c a b=>(tS P N H a).bind fun x=>(tS P N H b).map fun y=>KI (bI c) x y
 |.block id a=>(tS P N H a).map (KJ id)
 |.rangeFunc f ps sa bd=>match f,ps.toList,G2 sa,gQ P N H bd with
  |.tmp x,[p1,p2],some (d,p),some ir=>if p=p2&&p1 != p2&&decide (p1<N)&&decide (p2<N)&&decide (d<N)&&calm bd&&qO ir then some (.xk x p1 p2 d ir)else none
  |.tmp x,[p1],some (d,p),some ir=>if p=p1&&decide (p<N)&&decide (d<N)&&calm bd&&qO ir then some (.PT x p d ir)else none
  |_,_,_,_=>none
 |c=>(gQ P N H c).map .ir
section
variable {P:Program} {N:Nat}
theorem afJ{a b:K}{Q:sO}{Ds:List Nat}{ρ:Env}{w:World}(h:lR P N (mkSeq a b) Q Ds ρ w):lR P N (.seq a b) Q Ds ρ w:=by
 unfold mkSeq at h
 split at h
 .refine Ew _ _ _ (fun e ρ w h=>?_) ρ w (show dD P N _ _ ρ w from h);cases e<;>exact h
 .exact h
theorem afK{c:O}{a b:K}{Q:sO}{Ds:List Nat}{ρ:Env}{w:World}(h:lR P N (KI c a b) Q Ds ρ w):lR P N (.cond c a b) Q Ds ρ w:=by
 unfold KI at h
 split at h
 .exact h
 .exact h
theorem afL{id:Nat}{a:K}{Q:sO}{Ds:List Nat}{ρ:Env}{w:World}(h:lR P N (KJ id a) Q Ds ρ w):lR P N (.jX id a) Q Ds ρ w:=by
 unfold KJ at h
 split at h
 .refine Ew _ _ _ (fun e ρ w h=>?_) ρ w (show dD P N _ _ ρ w from h);cases e<;>exact h
 .exact h
theorem afM{H:List (Nat×List Nat×List Nat)}:∀(c:Code) (k:K) (Q:sO) (Ds:List Nat) (ρ:Env) (a:Act) (w:World),tS P N H c=some k->lR P N k Q Ds ρ w->Good (Ds.map G1) N ρ a->c.wp P (WD N Q) a w:=by
 have plain:∀(c:Code) (k:K) (Q:sO) (Ds:List Nat) (ρ:Env) (a:Act) (w:World),(gQ P N H c).map K.ir=some k->lR P N k Q Ds ρ w->Good (Ds.map G1) N ρ a->c.wp P (WD N Q) a w:=by
  intro c k Q Ds ρ a w h hw hg;obtain⟨ir,hir,rfl⟩:=Δ.1 h;refine wp_mono (Kz c ir _ ρ a w hir hw hg) ?_;rintro e a' w' ⟨ρ',dR,hq⟩;exact⟨ρ',Ds,dR,hq⟩
 intro c
 induction c with
 |seq x y ku oR=>
  intro k Q Ds ρ a w h hw hg;simp only[tS]at h;obtain⟨a1,h1,h⟩:=Θ.1 h;obtain⟨b1,h2,h⟩:=Δ.1 h;subst h;have hw:=afJ hw;refine wp_seq (wp_mono (ku a1 _ Ds ρ a w h1 hw hg) ?_);rintro e a' w' ⟨ρ',Ez,dR,hq⟩;cases e with
  |normal=>exact oR b1 Q Ez ρ' a' w' h2 hq dR
  |_=>exact⟨ρ',Ez,dR,hq⟩
 |cond c x y ku oR=>
  intro k Q Ds ρ a w h hw hg;simp only[tS]at h;obtain⟨a1,h1,h⟩:=Θ.1 h;obtain⟨b1,h2,h⟩:=Δ.1 h;subst h;obtain⟨t,hc,ht,hf⟩:=afK hw;have he:=hg.agree c _ hc;exact wp_cond_split he (fun e=>ku a1 Q Ds ρ a w h1 (ht e) hg) (fun e=>oR b1 Q Ds ρ a w h2 (hf e) hg)
 |block id x ih=>
  intro k Q Ds ρ a w h hw hg;simp only[tS]at h;obtain⟨a1,h1,h⟩:=Δ.1 h;subst h;have hw:=afL hw;refine wp_block (wp_mono (ih a1 _ Ds ρ a w h1 hw hg) ?_);rintro e a' w' ⟨ρ',Ez,dR,hq⟩;cases e with
  |exit oQ=>
   simp only[Exit.inBlock,Ey]at hq ⊢
   split
   .rename_i hh;rw[if_pos hh]at hq;exact⟨ρ',Ez,dR,hq⟩
   .rename_i hh;rw[if_neg hh]at hq;exact⟨ρ',Ez,dR,hq⟩
  |_=>exact⟨ρ',Ez,dR,hq⟩
 |rangeFunc f ps sa bd _ _=>
  intro k Q Ds ρ a w h hw hg;simp only[tS]at h
  split at h
  .rename_i f0 ps0 as0 ir0 x p1 p2 d p ir fJ has eV
   split at h
   .rename_i hc;simp only[Bool.and_eq_true,decide_eq_true_eq,bne_iff_ne,ne_eq]at hc;obtain⟨⟨⟨⟨⟨⟨rfl,h1⟩,h2⟩,h3⟩,h4⟩,h5⟩,h6⟩:=hc;simp only[Option.some.injEq]at h;subst h;obtain⟨id,ty,pos,rfl⟩:=WE has;have PU:ps=#[p1,p]:=by apply Array.ext';rw[fJ]
    subst PU;obtain⟨n,len,gf,lb,mC,Kp,I,hr,hd⟩:=hw;refine afD eV h5 h6 hg hr.hx hr.eg hr.B7 ⟨h1,h2,h3,h4⟩ hr.fresh hr.hn hr.B8 hr.B9 I hr.hI ?_;intro D W hD hI hh a' yR;exact⟨ρ,D::Ds,yR,hd D W hD hI hh⟩
   .cases h
  .rename_i f0 ps0 as0 ir0 x p1 d p ir fJ has eV
   split at h
   .rename_i hc;simp only[Bool.and_eq_true,decide_eq_true_eq,bne_iff_ne,ne_eq]at hc;obtain⟨⟨⟨⟨rfl,h3⟩,h4⟩,h5⟩,h6⟩:=hc;simp only[Option.some.injEq]at h;subst h;obtain⟨id,ty,pos,rfl⟩:=WE has;have PU:ps=#[p]:=by apply Array.ext';rw[fJ]
    subst PU;obtain⟨n,len,gf,lb,Kp,I,hr,hd⟩:=hw;refine afE eV h5 h6 hg hr.hx hr.eg hr.B7 ⟨h3,h4⟩ hr.fresh hr.hn hr.B8 hr.B9 I hr.hI ?_;intro D xs W hD hI hh a' yR;exact⟨ρ,D::Ds,yR,hd D xs W hD hI hh⟩
   .cases h
  .cases h
 |_=>
  intro k Q Ds ρ a w h hw hg;exact plain _ k Q Ds ρ a w h hw hg
def KK(rs:List RV)(R:Value->World->Prop):sO:=fun e Ds ρ w=>
 (e=.normal\/e=.ret)/\(∀D∈Ds,w.heap[D]?=some (.deferred (some [])))/\Ds.Nodup /\
  ∀w':World,Mod (fun b=>b∈Ds) w w'->w'.heap.size=w.heap.size->∃vs,aM w' ρ rs=some vs/\R (aN vs) w'
structure PV (P:Program) (f:Nat) (rN:Nat) (H:List (Nat×List Nat×List Nat)) (k:K) (rs:List RV) (N:Nat):Prop where
 go:∃fn c,P.funcs[f]?=some fn/\fn.body=some c/\fn.ntmps=N/\rN<=N/\tS P N H c=some k/\sL P fn.results.toList=some rs
theorem afN{S:Nat->Prop}{w:World}{r:Nat}{o:Obj}(h:S r):Mod S w (w.putObj r o):=
 ⟨by simp,fun b _ hb=>World.putObj_heap_other (fun e=>hb (e ▸ h)),rfl,rfl,rfl⟩
theorem WG{fn:Func}{tmps:Array Value}{R:Ending→World→Prop}:∀ (Ds:List Nat) (w:World),(∀ D∈Ds,w.heap[D]? = some (.deferred (some [])))→Ds.Nodup →
   (∀w':World,Mod (fun b=>b∈Ds) w w'->w'.heap.size=w.heap.size->∃v,(results fn tmps).run P w'=.ok v w'/\R (.returned v) w') ->
   LeavesInM Fence.wide 0 P fn tmps R (Ds.map G1) .returning w
 |[],w,_,_,h=>h w (.refl _ _) rfl
 |D::Ds,w,hD,hn,h=>by
  refine⟨(fun h=>by cases h),.inl ⟨D,w.putObj D (.deferred none),rfl,run_takeDeferred (hD D (by simp)),?_⟩⟩;obtain⟨h1,h2⟩:=List.nodup_cons.1 hn;refine WG Ds _ (fun D' WH=>?_) h2 (fun w' hm hs=>h w' ?_ (by rw[hs,World.putObj_size]))
  .rw[World.putObj_heap_other (fun e:D'=D=>h1 (e ▸ WH))];exact hD D' (by simp[WH])
  .exact(afN (S:=fun b=>b∈D::Ds) (by simp)).step hm (fun i hi _=>by simp[hi])
theorem PV.calls{f:Nat}{rN:Nat}{H:List (Nat×List Nat×List Nat)}{k:K}{rs:List RV}(h:PV P f rN H k rs N){args:List Value}(hn:args.length=rN){w:World}{R:Value→World→Prop}
   (hw:lR P N k (KK rs R) [] (sM 0 args) w):bu P f args w R:=by
 obtain⟨fn,c,hf,hb,hN,hle,hd,GU⟩:=h.go;unfold bu;refine callsIn_wide.1 (callsIn_of_wp_marks (n:=0) hf hb trivial ?_);have hg:Good ([].map G1) N (sM 0 args) { tmps:=args.toArray++Array.replicate (fn.ntmps-args.toArray.size) undef,defers:=[]}:=by
  refine⟨?_,rfl,?_⟩
  .simp only[Array.size_append,List.size_toArray,Array.size_replicate];omega
  .intro t v ht;obtain ⟨_,h2⟩:=PN args 0 t v ht;have bg:t < args.length:=by
    rcases Nat.lt_or_ge t args.length with h |h
    .exact h
    .simp[List.getElem?_eq_none h]at h2
   simp only[Nat.sub_zero]at h2;rw[Array.getElem?_append_left (by simpa using bg)]
   simpa using h2
 refine wpIn_mono ((wpIn_wide (n:=0)).2 (afM c k _ [] _ _ _ hd hw hg)) ?_;rintro e a' w' ⟨ρ',Ds,dR,he,hD,gR,hq⟩;have fin:LeavesInM Fence.wide 0 P fn a'.tmps (fun e w'=>∃v,e=.returned v/\R v w') a'.defers .returning w':=by
  rw[dR.defers];refine WG Ds w' hD gR ?_;intro w2 hm hs;obtain⟨vs,h1,h2⟩:=hq w2 hm hs;refine⟨aN vs,oL ?_,_,rfl,h2⟩;unfold results;rw[dF,Array.mapM_eq_mapM_toList,Gw];have:=PK (P:=P) dR fn.results.toList rs vs GU h1;refine Eq.trans (congrArg (fun o:Option (List Value)=>(o.map List.toArray).bind fun vs=>ro P w2 (pure (if h:vs.size=1 then vs[0]else .tuple vs):Sem Value)) this) ?_;simp only[Option.map_some,Option.bind_some,ig,List.size_toArray,Option.some.injEq]
  match vs with
  |[]=>rfl
  |[v]=>rfl
  |v::u::l=>simp[aN]
 rcases he with rfl |rfl
 .exact fin
 .exact fin
end
abbrev HL:=List (Nat×List Nat×List Nat)
end
section
open Go Go.Proofs
def bit:Option Nat->Nat
 |some d=>1 <<< d
 |none=>0
def kz:Operand->Nat
 |.tmp t=>1 <<< t
 |_=>0
def afO(xs:List Operand):Nat:=xs.foldr (fun x m=>kz x ||| m) 0
def off(m k:Nat):Nat:=m ^^^ (m &&& k)
def WI(ops:Array Oper)(o:Oper):Nat:=afO o.op.operands.toList ||| match o.guard with
 |some (j,_)=>bit ((ops[j]?).bind (·.dst))
 |none=>0
def PW(ops:Array Oper):List Oper->Nat->Nat
 |[],l=>l
 |o::r,l=>off (PW ops r l) (bit o.dst) ||| WI ops o
def PX(id:Nat):List (Nat×Nat)->Nat
 |[]=>0
 |(i,l)::r=>if i == id then l else PX id r
def PY:Nat->Nat->Nat->List Nat->List Nat
 |0,lo,m,l=>if m=0 then l else lo::l
 |k+1,lo,m,l=>if m=0 then l else PY k lo (m &&& ((1 <<< (1 <<< k))-1)) (PY k (lo+1 <<< k) (m >>> (1 <<< k)) l)
def WJ(m:Nat):List Nat:=PY 9 0 m []
def WK(c:Code):Nat:=match G2 c with
 |some (d,_)=>1 <<< d
 |none=>0
def WL(l:List Nat):Nat:=l.foldr (fun x m=>1 <<< x ||| m) 0
def xl:Code->Nat->List (Nat×Nat)->Nat->Nat×HL
 |.skip,l,_,_=>(l,[])
 |.ret,_,_,r=>(r,[])
 |.exit id,_,ex,_=>(PX id ex,[])
 |.seq a b,l,ex,r=>match xl b l ex r with
  |(m,h)=>match xl a m ex r with
   |(n,h')=>(n,h'++h)
 |.cond c a b,l,ex,r=>match xl a l ex r with
  |(x,h)=>match xl b l ex r with
   |(y,h')=>(kz c ||| x ||| y,h++h')
 |.block id a,l,ex,r=>xl a l ((id,l)::ex) r
 |.loop a,_,ex,r=>match xl a 0 ex r with
  |(x,_)=>(x,(xl a x ex r).2)
 |.region id ops dw,l,_,_=>(PW ops ops.toList l,[(id,WJ l,if dw then(Region.before ops).toList else[])])
 |.rangeFunc f ps sa bd,l,_,_=>match xl bd 0 [] 0 with
  |(x,h)=>(kz f ||| l ||| off (off x (WL ps.toList)) (WK sa),h)
 |_,l,_,_=>(l,[])
def AD:List ResultVar->Nat
 |[]=>0
 |.tmp t::l=>1 <<< t ||| AD l
 |.cell a _::l=>1 <<< a ||| AD l
def KL(fn:Func)(c:Code):HL:=(xl c (AD fn.results.toList) [] (AD fn.results.toList)).2
def WM(P:Program)(f n:Nat):Option (IR×List RV×Nat):=match P.funcs[f]? with
 |some fn=>match fn.body with
  |some c=>match gQ P fn.ntmps (KL fn c) c,sL P fn.results.toList with
   |some x,some y=>if n<=fn.ntmps then some (x,y,fn.ntmps)else none
   |_,_=>none
  |none=>none
 |none=>none
def WN(P:Program)(f n:Nat):Option (K×List RV×Nat):=match P.funcs[f]? with
 |some fn=>match fn.body with
  |some c=>match tS P fn.ntmps (KL fn c) c,sL P fn.results.toList with
   |some x,some y=>if n<=fn.ntmps then some (x,y,fn.ntmps)else none
   |_,_=>none
  |none=>none
 |none=>none
structure En where
 (i:Nat) (s:S) (bf bt lk dt:Nat)
def afP:S->Bool
 |.r _ _=>true
 |.gr _ _ _ _=>true
 |_=>false
def afQ:S->Bool
 |.r _ r=>r.Ko
 |.gr _ _ _ r=>r.Ko
 |_=>false
def PZ(W B:Nat):List Edge->Nat->Nat->Nat×Nat
 |[],m,n=>(m,n)
 |e::l,m,n=>if Region.binds .any e then PZ W B l (m ||| 1 <<< e.on) (n ||| 1 <<< e.on ||| ((B >>> (W*e.on)) &&& ((1 <<< W)-1)))else PZ W B l m n
def WO(P:Program)(N:Nat)(ops:Array Oper)(W:Nat):List Oper->Nat->Nat->Option (List En)
 |[],_,_=>some []
 |o::l,i,B=>match sJ P N ops o,PZ W B o.after.toList 0 0 with
  |some s,(d,t)=>(WO P N ops W l (i+1) (B ||| t <<< (W*i))).map (⟨i,s,d,t,WI ops o,bit o.dst⟩ :: ·)
  |none,_=>none
def KM(i dt lk:Nat):List En->Bool
 |[]=>true
 |y::l=>if y.i=i then KM i dt lk l else if y.bf &&& 1 <<< i=0 then if(dt &&& (y.lk ||| y.dt)) ||| (y.dt &&& lk)=0 then KM i dt lk l else false else KM i dt lk l
def P1(all:List En)(L:Nat):List En->Option En
 |[]=>none
 |x::l=>if x.bf &&& L=x.bf then(if afP x.s&&KM x.i x.dt x.lk all then some x else P1 all L l)else P1 all L l
def G3(i:Nat):List En->List En
 |[]=>[]
 |x::r=>if x.i=i then r else x::G3 i r
def P2(ms:List Nat)(m:Nat):List Nat:=ms.filter fun i=>m &&& 1 <<< i=0
def G4(ms:List Nat):Nat->Nat->List En->Option D
 |0,_,_=>some .nil
 |n+1,L,l=>match P1 l L l with
  |some x=>(G4 ms n (L ||| 1 <<< x.i) (G3 x.i l)).bind fun t=>Er x.i t x.s
  |none=>match l.filter fun x=>x.bf &&& L=x.bf with
   |[]=>some .nil
   |[x]=>(G4 ms n (L ||| 1 <<< x.i) (G3 x.i l)).bind fun t=>Ep x.i (P2 ms x.bt) t x.s
   | [x,y]=>(G4 ms n (L ||| 1 <<< x.i) (G3 x.i l)).bind fun t=>(G4 ms n (L ||| 1 <<< y.i) (G3 y.i l)).bind fun t'=>
       yM x.i (P2 ms x.bt) t y.i (P2 ms y.bt) t' x.s y.s
   |_=>none
def drB(P:Program)(N:Nat)(id:Nat)(ops:Array Oper)(kp:List Nat):IR:=
 match WO P N ops ops.size ops.toList 0 0 with
 |some l=>match G4 ((l.filter fun x=>afQ x.s).map (·.i)) ops.size 0 l with
  |some t=>match t.oP with
   |some st=>.eJ true st kp
   |none=>.dr t kp
  |none=>.raw (.region id ops true)
 |none=>.raw (.region id ops true)
def rgB(P:Program)(N:Nat)(id:Nat)(ops:Array Oper)(dw:Bool)(kp:List Nat):IR:=
 if dw then drB P N id ops kp else match il P N ops ops.toList with
  |some st=>.eJ false ((vj N kp [] st).getD st) kp
  |none=>.skip
def yS(P:Program)(N:Nat):Code->Nat->List (Nat×Nat)->Nat->Nat×IR
 |.skip,l,_,_=>(l,.skip)
 |.ret,_,_,r=>(r,.ret)
 |.exit id,_,ex,_=>(PX id ex,.exit id)
 |.seq a b,l,ex,r=>match yS P N b l ex r with
  |(m,h)=>match yS P N a m ex r with
   |(n,h')=>(n,.seq h' h)
 |.cond c a b,l,ex,r=>match yS P N a l ex r with
  |(x,h)=>match yS P N b l ex r with
   |(y,h')=>(kz c ||| x ||| y,.cond (bI c) h h')
 |.block id a,l,ex,r=>match yS P N a l ((id,l)::ex) r with
  |(x,h)=>(x,.block id h)
 |.loop a,_,ex,r=>match yS P N a (xl a 0 ex r).1 ex r with
  |(x,h)=>(x,.loop h)
 |.region id ops dw,l,_,_=>(PW ops ops.toList l,rgB P N id ops dw (WJ l))
 |c,l,_,_=>(l,.raw c)
def kB(P:Program)(N:Nat):Code->Nat->List (Nat×Nat)->Nat->Nat×K
 |.seq a b,l,ex,r=>match kB P N b l ex r with
  |(m,h)=>match kB P N a m ex r with
   |(n,h')=>(n,mkSeq h' h)
 |.cond c a b,l,ex,r=>match kB P N a l ex r with
  |(x,h)=>match kB P N b l ex r with
   |(y,h')=>(kz c ||| x ||| y,KI (bI c) h h')
 |.block id a,l,ex,r=>match kB P N a l ((id,l)::ex) r with
  |(x,h)=>(x,KJ id h)
 |.rangeFunc f ps sa bd,l,_,_=>match yS P N bd 0 [] 0 with
  |(x,h)=>(kz f ||| l ||| off (off x (WL ps.toList)) (WK sa),match f,ps.toList,G2 sa with
   |.tmp x,[p1,p2],some (d,_)=>.xk x p1 p2 d h
   |.tmp x,[p1],some (d,_)=>.PT x p1 d h
   |_,_,_=>.ir .skip)
 |c,l,ex,r=>match yS P N c l ex r with
  |(x,h)=>(x,.ir h)
def irO(P:Program)(fn:Func):Option (IR×List RV×Nat):=match fn.body,sL P fn.results.toList with
 |some c,some y=>some ((yS P fn.ntmps c (AD fn.results.toList) [] (AD fn.results.toList)).2,y,fn.ntmps)
 |_,_=>none
def afR(P:Program)(fn:Func):Option (K×List RV×Nat):=match fn.body,sL P fn.results.toList with
 |some c,some y=>some ((kB P fn.ntmps c (AD fn.results.toList) [] (AD fn.results.toList)).2,y,fn.ntmps)
 |_,_=>none
def KN{α:Type}(_:α):Type:=α
def P3{α:Type}(_ _:α):Type:=α
def P4{α:Type}{a x:α}:P3 a x:=x
def rep{α:Type}{a x:α}(p:P3 a x):KN a:=p
def P5{α:Type}{a:α}(x:KN a):α:=x
abbrev P6{α:Type}{a x:α}(_:a=x):Type:=P3 a x
noncomputable def TA:Array TypeInfo:=by
 exact P5 (rep (a:=Tryz.types) (P4:P6 (by conv=>lhs;simp only[Tryz.types,List.append_eq,List.cons_append,List.nil_append])))
noncomputable def PP:Program:={ toTables:={ (default:Tables)with types:=TA,follow:=[]},funcs:=⟨List.replicate 300 Tryz.f2⟩}
variable {f:Nat} {args:List Value} {w:World} {R:Value->World->Prop} {rs:List RV} {N:Nat}
theorem γ{x:IR}(fn:Func)(hw:dD Tryz.prog N x (GS rs R) (sM 0 args) w)(r:KN (irO PP fn):=by exact rep (P4:P6 (by conv=>lhs;cbv)))(h1:P5 r=some (x,rs,N):=by rfl)
   (h2:WM Tryz.prog f args.length=some (x,rs,N):=by kernel_rfl):bu Tryz.prog f args w R:=by
 generalize Tryz.prog=P at *;unfold WM at h2
 split at h2
 .rename_i fn h3
  split at h2
  .rename_i c h4
   split at h2
   .rename_i y z h5 h6
    split at h2
    .rename_i h7;cases h2;exact Fits.calls (H:=KL fn c) ⟨fn,c,h3,h4,rfl,h7,h5,h6⟩ rfl hw
    .cases h2
   .cases h2
  .cases h2
 .cases h2
theorem γK{x:K}(fn:Func)(hw:lR Tryz.prog N x (KK rs R) [] (sM 0 args) w)(r:KN (afR PP fn):=by exact rep (P4:P6 (by conv=>lhs;cbv)))(h1:P5 r=some (x,rs,N):=by rfl)
   (h2:WN Tryz.prog f args.length=some (x,rs,N):=by kernel_rfl):bu Tryz.prog f args w R:=by
 generalize Tryz.prog=P at *;unfold WN at h2
 split at h2
 .rename_i fn h3
  split at h2
  .rename_i c h4
   split at h2
   .rename_i y z h5 h6
    split at h2
    .rename_i h7;cases h2;exact PV.calls (H:=KL fn c) ⟨fn,c,h3,h4,rfl,h7,h5,h6⟩ rfl hw
    .cases h2
   .cases h2
  .cases h2
 .cases h2
end
section
open Go Go.ChangeShapes Go.WideShapes Go.ChangeAt Go.RowKit
theorem afS{w w':World}(h:Mod (fun _=>False) w w'):Below w.heap.size w w':=⟨h.os,h.tape,h.output,h.size,fun k hk=>h.bO k hk (fun h=>h)⟩
section
variable {H:Type} {enc:TypeId×Value->H} {P:Program}
theorem WQ:∀{ts:List TypeId} {vs:List Value} {ds:List (DataW H)} {ps:List MemPlace} {w:World} {base:Nat} {spare:Nat->Bool} {held:Bool},DataW.TrodAll enc P w base spare held ts vs ds ps->ds.length=ts.length
 |[],[],[],_,_,_,_,_,_=>rfl
 |_::_,_::_,_::_,_,_,_,_,_,⟨_,_,_,h,_⟩=>by simp[WQ h]
 |[],_::_,_,_,_,_,_,_,h=>h.elim
 |[],[],_::_,_,_,_,_,_,h=>h.elim
 |_::_,[],_,_,_,_,_,_,h=>h.elim
 |_::_,_::_,[],_,_,_,_,_,h=>h.elim
theorem WR(hl:laidOutB P=true){W W':World}(hb:Below W.heap.size W W'):∀ {ts:List TypeId} {vs:List Value} {ds:List (DataW H)} {ps:List MemPlace},ts.all (fun t=>P.readableRec t&&decide (t < P.types.size))=true →
   (∀x∈ps,x.block<W.heap.size)->DataW.TrodAll enc P W 0 (fun _=>true) true ts vs ds ps->DataW.TrodAll enc P W' 0 (fun b=>decide (b<W.heap.size)) true ts vs ds ps
 |[],[],[],_,_,_,h=>h
 |t::ts,v::vs,d::ds,ps,ht,hp,⟨p,q,h1,h2,h3⟩=>by
  simp only[List.all_cons,Bool.and_eq_true,decide_eq_true_eq]at ht;subst h3;exact⟨p,q,Below.trod hl ht.1.1 ht.1.2 h1 hb (fun x hx=>hp x (List.mem_append_left _ hx)),WR hl hb ht.2 (fun x hx=>hp x (List.mem_append_right _ hx)) h2,rfl⟩
 |[],_::_,_,_,_,_,h=>h.elim
 |[],[],_::_,_,_,_,h=>h.elim
 |_::_,[],_,_,_,_,h=>h.elim
 |_::_,_::_,[],_,_,_,h=>h.elim
def xm(enc:TypeId×Value->H)(P:Program)(ts:List TypeId)(w:World)(args:List Value)(ds:List (DataW H)):Prop:=
 (∃base,∀(j:Nat) t v,ts[j]?=some t->args[j]?=some v->Value.okWide P w .any base t v)/\(∃ps,DataW.TrodAll enc P w 0 (fun _=>true) true ts args ds ps)/\(DataW.weightsEach P ts ds).all (·<=reachBytes)=true
end
end
section
open Go Go.ChangeMaps Go.RowKit
section
variable {P:Program} {ρ:Env} {w:World} {K:Value->World->Prop} {d:Option Nat} {ty:TypeId} {pos:String} {af:Array Edge}
theorem G5{es:Array MapEntry}{c:Nat}(w:World)(b:Nat)(o:Obj)(hb:w.heap[b]?=some (.map es c)):Mod (· = b) w (setBlock w b o):=
 ⟨by simp[setBlock],fun i hi hn=>by rw[heap_setBlock_other hb o hn],rfl,rfl,rfl⟩
theorem G6(w:World)(b:Nat)(o:Obj):(setBlock w b o).heap.size=w.heap.size:=by simp[setBlock]
theorem run_setObj_map{b c:Nat}{es:Array MapEntry}{w:World}(hb:w.heap[b]?=some (.map es c))(o:Obj):(setObj b o).run P w=.ok () (setBlock w b o):=by
 simp[setObj,Sem.run,hb,setBlock]
theorem Cb{f:FuncId}{fn:Func}{cap:Array Value}{x:Operand}{args:Array Operand}{at':Array TypeId}{vs:List Value}(hx:(bI x).ev ρ=some (.func (.func f) #[] cap))(yR:gW ρ (args.toList.map bI)=some vs)
   (ej:P.funcs[f]?=some fn) (jl:fn.body.isSome=true) (kR:(fn.name == "runtime.NumGoroutine")=false) (h:bu P f (vs++cap.toList) w K) :
   E.wp P w ρ K (.raw ⟨d,.call { callee:=.value x,args:=args,argTypes:=at'},ty,pos,af,none⟩):=by
 intro a ha;have db:args.map a.eval=vs.toArray:=by
  have key:∀(l:List Operand) (vs:List Value),gW ρ (l.map bI)=some vs->l.map a.eval=vs:=by
   intro l
   induction l with
   |nil=>intro vs h;simp only[List.map_nil,gW,Option.some.injEq]at h;subst h;rfl
   |cons y l ih=>
    intro vs h;simp only[List.map_cons,gW]at h;cases h1:(bI y).ev ρ with
    |none=>simp[h1]at h
    |some u=>
     cases h2:gW ρ (l.map bI)with
     |none=>simp[h1,h2]at h
     |some us=>
      simp[h1,h2]at h;subst h;rw[List.map_cons,ha y u h1,ih us h2]
  have:=key args.toList vs yR;apply Array.ext'
  simpa using this
 have hn:fn.body.isNone=false:=by cases hb:fn.body<;>simp[hb]at jl ⊢
 unfold Oper.wp;have e1:(execOp a.eval ⟨d,.call { callee:=.value x,args:=args,argTypes:=at'},ty,pos,af,none⟩).run P w=.ok (.enter f (vs++cap.toList).toArray) w:=by
  have g1:ro P w program=some P:=rfl;have g2:vs.toArray++cap=(vs++cap.toList).toArray:=by apply Array.ext';simp
  simp only[execOp,resolve,Deferred.ofValue,Sem.run_bind,Sem.run_pure,Result.andThen_ok,invoke,callFunc,oL g1,ej,ha x _ hx,db,Array.empty_append,g2];rw[if_neg (by rw[kR];simp),if_neg (by rw[hn];simp)];rfl
 rw[e1];simp only[Oper.upon];unfold bu at h;refine h.mono ?_;rintro e w' ⟨v,rfl,hk⟩;exact⟨v,rfl,hk⟩
def kv(e:MapEntry):Value×Value:=(e.key,e.val)
theorem WS{t el:TypeId}{n:Nat}(ht:P.underlying t=some (.slice el))(hn:jW P el=some n)(hk:∀ w',w'.heap[w.heap.size]? = some (.cells #[] el (0,0))→Mod (fun _=>False) w w'→w'.heap.size=w.heap.size+1→K (.slice (some ⟨w.heap.size,0,none⟩) 0 0) w') :
   E.wp P w ρ K (.raw ⟨d,.buildSlice t 0 #[],ty,pos,af,none⟩):=by
 refine mz fun a ha=>⟨_,_,?_,hk (w.alloc (.cells #[] el)) (heap_alloc_new w _) (AB _ w _) (by simp)⟩
 have g1:ro P w (underlying t)=some (.slice el):=by rw[jC,ht]
 have g2:ro P w (sizeOf el)=some n:=by rw[wU];exact hn
 simp only[execOp,Instr.buildSlice,Sem.run_bind,oL g1,oL g2,Result.andThen_ok,Sem.run_pure,Nat.zero_mul];simp[newRow,Instr.fill,show Array.range 0=#[]from rfl]
end
end
section
open Go Go.ChangeMaps Go.RowKit
theorem P7(a b:ByteArray):(a == b)=decide (a=b):=by
 cases a;cases b;rename_i x y;show(x == y)=_;by_cases h:x=y
 .subst h;simp
 .simp[h]
theorem afT{P:Program}{w:World}{kt:TypeId}(hk:P.underlying kt=some .string)(k:ByteArray)(b:Bool)(n:Nat):(Instr.checkKey b (n+1) kt (.string k)).run P w=.ok () w:=by
 unfold Instr.checkKey;rw[Sem.run_bind,run_underlying hk];rfl
theorem EA{P:Program}{w:World}{kt:TypeId}(hk:P.underlying kt=some .string)(k:ByteArray)(b:Bool):(Instr.checkKey b 10000 kt (.string k)).run P w=.ok () w:=afT hk k b 9999
section
variable {P:Program} {ρ:Env} {w:World} {K:Value->World->Prop} {d:Option Nat} {ty:TypeId} {pos:String} {af:Array Edge}
end
end
section
open Go Go.ChangeMaps Go.RowKit
def od(w:World)(b:Nat)(l:List (ByteArray×Value)):Prop:=
 ∃es clock,w.heap[b]?=some (.map es clock)/\es.toList.map (fun e=>(e.key,e.val))=l.map (fun p=>(.string p.1,p.2))/\(∀e∈es.toList,e.born<clock)/\(es.toList.map (·.born)).Nodup
theorem sP{w w':World}{b:Nat}{l:List (ByteArray×Value)}{S:Nat->Prop}(h:od w b l)(hm:Mod S w w')(hb:¬S b):od w' b l:=by
 obtain⟨es,c,h1,h2⟩:=h;exact⟨es,c,hm.at h1 hb,h2⟩
def oe(l:List (ByteArray×Value))(k:ByteArray):Option Value:=(l.find? (fun p=>decide (p.1=k))).map (·.2)
def yT(l:List (ByteArray×Value))(k:ByteArray)(v:Value):List (ByteArray×Value):=match l.findIdx? (fun p=>decide (p.1=k))with
 |some i=>l.set i (k,v)
 |none=>l++[(k,v)]
def G7(l:List (ByteArray×Value))(k:ByteArray):List (ByteArray×Value):=match l.findIdx? (fun p=>decide (p.1=k))with
 |some i=>l.eraseIdx i
 |none=>l
theorem afU(k:ByteArray):∀ (es:List MapEntry) (l:List (ByteArray×Value)) (i:Nat),es.map (fun e=>(e.key,e.val))=l.map (fun p=>(.string p.1,p.2)) →
   Instr.findNow .string (.string k) es i=some ((l.findIdx? (fun p=>decide (p.1=k))).map fun j=>(i+j,(l.getD j (⟨#[]⟩,.nilFunc)).2)):=by
 intro es
 induction es with
 |nil=>
  intro l i h;cases l with
  |nil=>rfl
  |cons p l=>simp at h
 |cons e es ih=>
  intro l i h;cases l with
  |nil=>simp at h
  |cons p l=>
   simp only[List.map_cons,List.cons.injEq,Prod.mk.injEq]at h;obtain⟨⟨h1,h2⟩,h3⟩:=h;have e1:Instr.sameNow .string (.string k) e.key=some (k == p.1):=by rw[h1];simp[Instr.sameNow,I]
   by_cases hk:p.1=k
   .have e2:(k == p.1)=true:=by simp[P7,hk]
    have e3:decide (p.1=k)=true:=by simp[hk]
    rw[e2]at e1;simp[Instr.findNow,e1,List.findIdx?_cons,e3,h2]
   .have e2:(k == p.1)=false:=by simp[P7];exact fun h=>hk h.symm
    have e3:decide (p.1=k)=false:=by simp[hk]
    rw[e2]at e1;simp only[Instr.findNow,e1,ih l (i+1) h3,List.findIdx?_cons,e3];cases l.findIdx? (fun p=>decide (p.1=k))with
    |none=>rfl
    |some j=>simp[Nat.add_assoc,Nat.add_comm 1 j]
theorem KO{P:Program}{w:World}{kt:TypeId}(hk:P.underlying kt=some .string)(k:ByteArray)(es:List MapEntry)(l:List (ByteArray×Value))(h:es.map (fun e=>(e.key,e.val))=l.map (fun p=>(.string p.1,p.2))) :
   (Instr.findKey kt (.string k) es).run P w=.ok ((l.findIdx? (fun p=>decide (p.1=k))).map fun j=>(j,(l.getD j (⟨#[]⟩,.nilFunc)).2)) w:=by
 have:=afU k es l 0 h;simp only[Nat.zero_add]at this;simp only[Instr.findKey,Sem.run_bind,run_underlying hk,Result.andThen,this];rfl
theorem WT(l:List (ByteArray×Value))(k:ByteArray):oe l k=(l.findIdx? (fun p=>decide (p.1=k))).map fun j=>(l.getD j (⟨#[]⟩,.nilFunc)).2:=by
 induction l with
 |nil=>rfl
 |cons p l ih=>
  unfold oe at ih ⊢;by_cases hk:p.1=k
  .have e3:decide (p.1=k)=true:=by simp[hk]
   simp[List.find?_cons,List.findIdx?_cons,e3]
  .have e3:decide (p.1=k)=false:=by simp[hk]
   simp only[List.find?_cons,List.findIdx?_cons,e3,ih];cases l.findIdx? (fun p=>decide (p.1=k))<;>rfl
section
variable {P:Program} {ρ:Env} {w:World} {K:Value->World->Prop} {d:Option Nat} {ty:TypeId} {pos:String} {af:Array Edge}
theorem WU{t:TypeId}(hk:∀ w',od w' w.heap.size []→Mod (fun _=>False) w w'→w'.heap.size=w.heap.size+1→K (.map (some w.heap.size)) w') :
   E.wp P w ρ K (.raw ⟨d,.makeMap t none,ty,pos,af,none⟩):=by
 refine mz fun a ha=>⟨_,_,?_,hk (w.alloc (.map #[] 0)) ⟨_,_,heap_alloc_new w _,rfl,by simp,by simp⟩ (AB _ w _) (by simp)⟩
 simp only[execOp,Sem.run_bind,Option.map_none,Go.RowKit.run_makeMap,Result.andThen];rfl
theorem G8{t kt et:TypeId}{m x:Operand}{b:Nat}{k:ByteArray}{l:List (ByteArray×Value)}(hm:(bI m).ev ρ=some (.map (some b)))(hx:(bI x).ev ρ=some (.string k))(ht:P.underlying t=some (.map kt et))(gY:P.underlying kt=some .string)
   {z:Value} (hz:(zeroValue et).run P w=.ok z w) (h:od w b l) (hk:K (.tuple #[(oe l k).getD z,.bool (oe l k).isSome]) w):E.wp P w ρ K (.raw ⟨d,.lookup t m x true,ty,pos,af,none⟩):=by
 obtain⟨es,clock,h1,h2,_⟩:=h;refine mz fun a ha=>⟨_,w,?_,hk⟩
 have nk:=KO (P:=P) (w:=w) gY k es.toList l h2;have e1:(Instr.lookup t (.map (some b)) (.string k) true).run P w=.ok (.tuple #[(oe l k).getD z,.bool (oe l k).isSome]) w:=by
  rw[WT];simp only[Instr.lookup,Sem.run_bind,run_underlying ht,Result.andThen,getObj,Sem.run,h1,EA gY,Sem.run_pure];cases hI:l.findIdx? (fun p=>decide (p.1=k))with
  |none=>
   rw[hI]at nk
   erw [nk]
   simp[hz,Sem.run_bind,Sem.run_pure,Sem.run,Result.andThen]
  |some j=>
   rw[hI]at nk
   erw [nk]
   simp[Sem.run_bind,Sem.run_pure,Sem.run,Result.andThen]
 simp only[execOp,Sem.run_bind,ha m _ hm,ha x _ hx,e1,Result.andThen];rfl
theorem KP{t kt et:TypeId}{m x:Operand}{b:Nat}{k:ByteArray}{l:List (ByteArray×Value)}(hm:(bI m).ev ρ=some (.map (some b)))(hx:(bI x).ev ρ=some (.string k))(ht:P.underlying t=some (.map kt et))(gY:P.underlying kt=some .string)
   {z:Value} (hz:(zeroValue et).run P w=.ok z w) (h:od w b l) (hk:K ((oe l k).getD z) w):E.wp P w ρ K (.raw ⟨d,.lookup t m x false,ty,pos,af,none⟩):=by
 obtain⟨es,clock,h1,h2,_⟩:=h;refine mz fun a ha=>⟨_,w,?_,hk⟩
 have nk:=KO (P:=P) (w:=w) gY k es.toList l h2;have e1:(Instr.lookup t (.map (some b)) (.string k) false).run P w=.ok ((oe l k).getD z) w:=by
  rw[WT];simp only[Instr.lookup,Sem.run_bind,run_underlying ht,Result.andThen,getObj,Sem.run,h1,EA gY,Sem.run_pure];cases hI:l.findIdx? (fun p=>decide (p.1=k))with
  |none=>
   rw[hI]at nk
   erw [nk]
   simp[hz,Sem.run_bind,Sem.run_pure,Sem.run,Result.andThen]
  |some j=>
   rw[hI]at nk
   erw [nk]
   simp[Sem.run_bind,Sem.run_pure,Sem.run,Result.andThen]
 simp only[execOp,Sem.run_bind,ha m _ hm,ha x _ hx,e1,Result.andThen];rfl
theorem WV{t kt et:TypeId}{m x y:Operand}{b:Nat}{k:ByteArray}{v:Value}{l:List (ByteArray×Value)}(hm:(bI m).ev ρ=some (.map (some b)))(hx:(bI x).ev ρ=some (.string k))(hy:(bI y).ev ρ=some v)(ht:P.underlying t=some (.map kt et))(gY:P.underlying kt=some .string)
   (h:od w b l) (hk:∀w',od w' b (yT l k v)->Mod (· = b) w w'->w'.heap.size=w.heap.size->K undef w'):E.wp P w ρ K (.raw ⟨d,.mapUpdate t m x y,ty,pos,af,none⟩):=by
 obtain⟨es,clock,h1,h2,h3,h4⟩:=h;have nk:=KO (P:=P) (w:=w) gY k es.toList l h2;have bV:es.size=l.length:=by have:=congrArg List.length h2;simpa using this
 cases hI:l.findIdx? (fun p=>decide (p.1=k))with
 |none=>
  rw[hI]at nk;have e1:(Instr.mapUpdate t (.map (some b)) (.string k) v).run P w=.ok () (setBlock w b (.map (es.push { key:=.string k,val:=v,born:=clock}) (clock+1))):=by
   simp only[Instr.mapUpdate,Sem.run_bind,run_underlying ht,Result.andThen,getObj,Sem.run,h1,EA gY,Sem.run_pure]
   erw [nk]
   exact run_setObj_map h1 _
  refine Ps fun a ha=>⟨_,?_,hk (setBlock w b (.map (es.push { key:=.string k,val:=v,born:=clock}) (clock+1))) ⟨_,_,heap_setBlock_same h1 _,?_,?_,?_⟩ (G5 w b _ h1) (G6 w b _)⟩
  .simp only[execOp,Sem.run_bind,ha m _ hm,ha x _ hx,ha y _ hy,e1,Result.andThen];rfl
  .simp[yT,hI,h2]
  .intro e he;simp only[Array.toList_push,List.mem_append,List.mem_cons,List.not_mem_nil,or_false]at he;rcases he with he |rfl
   .exact Nat.lt_succ_of_lt (h3 e he)
   .exact Nat.lt_succ_self _
  .simp only[Array.toList_push,List.map_append,List.map_cons,List.map_nil];rw[List.nodup_append];refine⟨h4,by simp,?_⟩;intro x hx y hy iG;simp only[List.mem_cons,List.not_mem_nil,or_false]at hy;obtain⟨e,he,rfl⟩:=List.mem_map.1 hx;have:=h3 e he;omega
 |some i=>
  rw[hI]at nk;have Cc:i<l.length:=by
   have:=List.findIdx?_eq_some_iff_getElem.1 hI;exact this.1
  have Cd:i<es.size:=by omega
  have Pv:(es[i]).key=.string k:=by
   have h5:es.toList[i]'(by simpa using Cd)=es[i]:=by simp
   have h6:=congrArg (fun z=>z[i]?) h2;simp only[List.getElem?_map,Ξ (show i<es.toList.length by simpa using Cd),Ξ Cc,Option.map_some,Option.some.injEq,Prod.mk.injEq]at h6;have h7:=(List.findIdx?_eq_some_iff_getElem.1 hI).2.1;rw[<- h5,h6.1];simp at h7;rw[h7]
  have eH:(Instr.keyThatStays (((es[i]?).map (·.key)).getD (.string k)) (.string k)).run P w=.ok (.string k) w:=by
   rw[Array.getElem?_eq_getElem Cd,Option.map_some,Option.getD_some,Pv];simp[Instr.keyThatStays,Instr.sameBits,P7]
  have e1:(Instr.mapUpdate t (.map (some b)) (.string k) v).run P w=.ok () (setBlock w b (.map (es.modify i fun e=>{ e with key:=.string k,val:=v}) clock)):=by
   simp only[Instr.mapUpdate,Sem.run_bind,run_underlying ht,Result.andThen,getObj,Sem.run,h1,EA gY,Sem.run_pure]
   erw [nk]
   simp only[Option.map_some,Sem.run_bind,eH,Result.andThen];exact run_setObj_map h1 _
  refine Ps fun a ha=>⟨_,?_,hk (setBlock w b (.map (es.modify i fun e=>{ e with key:=.string k,val:=v}) clock)) ⟨_,_,heap_setBlock_same h1 _,?_,?_,?_⟩ (G5 w b _ h1) (G6 w b _)⟩
  .simp only[execOp,Sem.run_bind,ha m _ hm,ha x _ hx,ha y _ hy,e1,Result.andThen];rfl
  .simp only[yT,hI];apply List.ext_getElem?;intro j;have h6:=congrArg (fun z=>z[j]?) h2;simp only[List.getElem?_map]at h6 ⊢;rw[Array.toList_modify,List.getElem?_modify,List.getElem?_set];by_cases lO:i=j
   .subst lO;simp[Cc,show i<es.toList.length by simpa using Cd,Cd]
   .rw[if_neg lO]
    simpa[lO]using h6
  .intro e he;rw[Array.toList_modify]at he;obtain⟨j,hj,rfl⟩:=List.getElem_of_mem he;rw[List.getElem_modify];have hm:es.toList[j]'(by simpa using hj)∈es.toList:=List.getElem_mem _;have h5:=h3 _ hm
   split<;>exact h5
  .have:(es.modify i fun e=>{ e with key:=.string k,val:=v}).toList.map (·.born)=es.toList.map (·.born):=by
    apply List.ext_getElem?;intro j;rw[Array.toList_modify];simp only[List.getElem?_map,List.getElem?_modify];by_cases lO:i=j
    .subst lO;cases es.toList[i]?<;>simp
    .simp[lO]
   rw[this];exact h4
theorem afV{t kt et:TypeId}{at':Array TypeId}{m:Operand}{b:Nat}{l:List (ByteArray×Value)}(gB:at'[0]? = some t)(hm:(bI m).ev ρ=some (.map (some b)))(ht:P.underlying t=some (.map kt et))
   (h:od w b l) (hk:∀w',od w' b []->Mod (· = b) w w'->w'.heap.size=w.heap.size->K (.tuple #[]) w'):E.wp P w ρ K (.raw ⟨d,.call { callee:=.builtin .clear,args:=#[m],argTypes:=at'},ty,pos,af,none⟩):=by
 obtain⟨es,clock,h1,h2,h3,h4⟩:=h;refine mz fun a ha=>⟨_,_,?_,hk (setBlock w b (.map #[] clock)) ⟨_,_,heap_setBlock_same h1 _,rfl,by simp,by simp⟩ (G5 w b _ h1) (G6 w b _)⟩
 have a0:(#[Value.map (some b)]:Array Value)[0]?=some (.map (some b)):=rfl;have e1:(Builtin.clear_ at' ty #[.map (some b)]).run P w=.ok (.tuple #[]) (setBlock w b (.map #[] clock)):=by
  simp only[Builtin.clear_,gB,a0,Sem.run_bind,run_underlying ht,Result.andThen,getObj,Sem.run,h1,Sem.run_pure];simp only[run_setObj_map h1]
 simp only[execOp,resolve,invoke,builtin,Sem.run_bind,Sem.run_pure,Result.andThen,List.map_toArray,List.map_cons,List.map_nil,ha m _ hm]
 erw [e1]
theorem afW{t kt et:TypeId}{at':Array TypeId}{m x:Operand}{b:Nat}{k:ByteArray}{l:List (ByteArray×Value)}(gB:at'[0]? = some t)(hm:(bI m).ev ρ=some (.map (some b)))(hx:(bI x).ev ρ=some (.string k))(ht:P.underlying t=some (.map kt et))(gY:P.underlying kt=some (.string))
   (h:od w b l) (hk:∀w',od w' b (G7 l k)->Mod (· = b) w w'->w'.heap.size=w.heap.size->K (.tuple #[]) w'):E.wp P w ρ K (.raw ⟨d,.call { callee:=.builtin .delete,args:=#[m,x],argTypes:=at'},ty,pos,af,none⟩):=by
 obtain⟨es,clock,h1,h2,h3,h4⟩:=h;have nk:=KO (P:=P) (w:=w) gY k es.toList l h2;have bV:es.size=l.length:=by have:=congrArg List.length h2;simpa using this
 have run:∀P8,(Builtin.delete_ at' ty #[.map (some b),.string k]).run P w=.ok (.tuple #[]) (setBlock w b (.map P8 clock))->∀a,Agree ρ a->(execOp a.eval ⟨d,.call { callee:=.builtin .delete,args:=#[m,x],argTypes:=at'},ty,pos,af,none⟩).run P w=.ok (.value (.tuple #[])) (setBlock w b (.map P8 clock)):=by
  intro P8 he a ha;simp only[execOp,resolve,invoke,builtin,Sem.run_bind,Sem.run_pure,Result.andThen,List.map_toArray,List.map_cons,List.map_nil,ha m _ hm,ha x _ hx]
  erw [he]
 have a0:(#[Value.map (some b),.string k]:Array Value)[0]?=some (.map (some b)):=rfl;have a1:(#[Value.map (some b),.string k]:Array Value)[1]?=some (.string k):=rfl;cases hI:l.findIdx? (fun p=>decide (p.1=k))with
 |none=>
  rw[hI]at nk;have e1:(Builtin.delete_ at' ty #[.map (some b),.string k]).run P w=.ok (.tuple #[]) (setBlock w b (.map es clock)):=by
   simp only[Builtin.delete_,gB,a0,a1,Sem.run_bind,run_underlying ht,Result.andThen,getObj,Sem.run,h1,EA gY,Sem.run_pure]
   erw [nk]
   simp only[Option.map_none,Sem.run_bind,run_setObj_map h1,Result.andThen];rfl
  refine mz fun a ha=>⟨_,_,run es e1 a ha,hk _ ⟨_,_,heap_setBlock_same h1 _,?_,h3,h4⟩ (G5 w b _ h1) (G6 w b _)⟩
  simpa[G7,hI]using h2
 |some i=>
  rw[hI]at nk;have Cc:i<l.length:=(List.findIdx?_eq_some_iff_getElem.1 hI).1;have Cd:i<es.size:=by omega
  have e1:(Builtin.delete_ at' ty #[.map (some b),.string k]).run P w=.ok (.tuple #[]) (setBlock w b (.map (es.eraseIdxIfInBounds i) clock)):=by
   simp only[Builtin.delete_,gB,a0,a1,Sem.run_bind,run_underlying ht,Result.andThen,getObj,Sem.run,h1,EA gY,Sem.run_pure]
   erw [nk]
   simp only[Option.map_some,Sem.run_bind,run_setObj_map h1,Result.andThen];rfl
  have G9:(es.eraseIdxIfInBounds i).toList=es.toList.eraseIdx i:=by simp[Array.eraseIdxIfInBounds,Cd,Array.toList_eraseIdx]
  refine mz fun a ha=>⟨_,_,run _ e1 a ha,hk _ ⟨_,_,heap_setBlock_same h1 _,?_,?_,?_⟩ (G5 w b _ h1) (G6 w b _)⟩
  .rw[G9,map_eraseIdx];simp only[G7,hI];rw[h2,map_eraseIdx]
  .intro e he;rw[G9]at he;exact h3 e (List.mem_of_mem_eraseIdx he)
  .rw[G9,map_eraseIdx];exact h4.sublist (List.eraseIdx_sublist _ _)
end
end
section
open Go
def vq(w:World)(v:Value)(sz:Nat)(rows:List (List Value))(B:Nat->Prop):Prop:=
 ∃a c,v=.slice a rows.length c/\(0<rows.length->∀ad,a=some ad->B ad.block)/\∀i (h:i<rows.length),∃ad,a=some ad/\rows[i].length=sz/\∀k (hk:k<rows[i].length),w.cell? ((ad.add (i*sz)).add k)=some rows[i][k]
theorem vq.mod{w w':World}{v:Value}{sz:Nat}{rows:List (List Value)}{B B' S:Nat->Prop}(h:vq w v sz rows B)(hm:Mod S w w')(hd:∀b,B b->¬S b)(hB:∀b,B b->B' b):vq w' v sz rows B':=by
 obtain⟨a,c,rfl,hb,h⟩:=h;refine⟨a,c,rfl,fun h0 ad h=>hB _ (hb h0 ad h),fun i hi=>?_⟩;obtain⟨ad,rfl,hl,hc⟩:=h i hi;refine⟨ad,rfl,hl,fun k hk=>hm.cell (hc k hk) ?_⟩;rw[u9,u9];exact hd _ (hb (by omega) _ rfl)
theorem KQ{w:World}{v:Value}{sz:Nat}{rows:List (List Value)}{B:Nat→Prop}(h:vq w v sz rows B){i:Nat}(hi:i < rows.length) :
   ∃ad c,v=.slice (some ad) rows.length c/\rows[i].length=sz/\∀k (hk:k<rows[i].length),w.cell? ((ad.add (i*sz)).add k)=some rows[i][k]:=by
 obtain⟨a,c,rfl,_,h⟩:=h;obtain⟨ad,rfl,h1,h2⟩:=h i hi;exact⟨ad,c,rfl,h1,h2⟩
theorem WW{w:World}{v:Value}{sz:Nat}{rows:List (List Value)}{B:Nat->Prop}(h:vq w v sz rows B):∃a c,v=.slice a rows.length c:=by
 obtain⟨a,c,e,_⟩:=h;exact⟨a,c,e⟩
theorem afX(a:ByteArray):∀(n i:Nat) (r:List UInt8),a.size-i=n->ByteArray.toList.loop a i r=r.reverse++a.data.toList.drop i:=by
 have hs:a.data.toList.length=a.size:=by
  show a.data.toList.length=a.data.size;exact Array.length_toList
 intro n
 induction n with
 |zero=>
  intro i r h;rw[ByteArray.toList.loop,if_neg (by omega),List.drop_eq_nil_of_le (by omega),List.append_nil]
 |succ n ih=>
  intro i r h;have hi:i<a.data.toList.length:=by omega
  rw[ByteArray.toList.loop,if_pos (by omega),ih (i+1) _ (by omega),Ω hi];have e:a.get! i=a.data.toList[i]:=by
   show a.data[i]! = _;rw[getElem!_pos a.data i (by simpa using hi)];simp
  rw[e];simp
theorem WX(a:ByteArray):a.toList=a.data.toList:=by
 show ByteArray.toList.loop a 0 []=_;rw[afX a _ 0 [] rfl];rfl
theorem afY{a b:ByteArray}(h:a.toList=b.toList):a=b:=by
 rw[WX,WX]at h;cases a;cases b;rename_i x y;have:x=y:=Array.ext' h;rw[this]
theorem EB(a b:ByteArray):(a.toList == b.toList)=decide (a=b):=by
 by_cases h:a=b
 .subst h;simp
 .have:a.toList≠b.toList:=fun e=>h (afY e)
  simp[h,this]
theorem KR{sz:Nat}:∀(rows:List (List Value)),(∀r∈rows,r.length=sz)->∀(i:Nat) (h:i<rows.length) (k:Nat),k<sz->(rows.flatMap id)[i*sz+k]?=(rows[i]'h)[k]?:=by
 intro rows
 induction rows with
 |nil=>intro _ i h;simp at h
 |cons r rows ih=>
  intro hr i h k hk;have h0:=hr r (by simp);simp only[List.flatMap_cons,id];cases i with
  |zero=>rw[List.getElem?_append_left (by omega)];simp
  |succ i=>
   rw[List.getElem?_append_right (by rw[h0,Nat.add_mul];omega),h0];have e:(i+1)*sz+k-sz=i*sz+k:=by rw[Nat.add_mul];omega
   rw[e];exact ih (fun r pU=>hr r (by simp[pU])) i (by simpa using h) k hk
theorem EC{w:World}{T sz:Nat}{v:Value}{rows:List (List Value)}{fp:Option Nat}(h:dP w T sz v (rows.flatMap id) rows.length fp)(hr:∀r∈rows,r.length=sz):vq w v sz rows (fun b=>fp=some b):=by
 obtain⟨h1,⟨rfl,h2,rfl⟩ |⟨b,c,sp,rfl,rfl,h3,_⟩⟩:=h
 .refine⟨none,0,by rw[h2],(fun _ ad e=>by cases e),fun i hi=>?_⟩;omega
 .refine⟨some ⟨b,0,none⟩,c,rfl,(fun _ ad e=>by cases e;rfl),fun i hi=>⟨_,rfl,hr _ (List.getElem_mem hi),fun k hk=>?_⟩⟩;have hl:=hr _ (List.getElem_mem hi);have hf:=KR rows hr i hi k (by omega);rw[Ξ hk]at hf;have bg:i*sz+k<(rows.flatMap id).length:=(List.getElem?_eq_some_iff.1 hf).1;rw[oa,oa,cell_of h3];simp only[Nat.zero_add,List.getElem?_toArray];rw[List.getElem?_append_left bg];exact hf
theorem WY(a:Addr)(i k:Nat):(a.add i).add k=a.add (i+k):=by
 unfold Addr.add;by_cases hi:i=0
 .subst hi;simp
 .by_cases hk:k=0
  .subst hk;simp
  .have:i+k≠0:=by omega
   simp[hi,hk,this,Nat.add_assoc]
theorem WZ{sz:Nat}:∀(rows:List (List Value)),(∀r∈rows,r.length=sz)->(rows.flatMap id).length=rows.length*sz:=by
 intro rows
 induction rows with
 |nil=>intro _;simp
 |cons r rows ih=>
  intro hr;have h0:=hr r (by simp);simp only[List.flatMap_cons,id,List.length_append,List.length_cons,ih (fun r pU=>hr r (by simp[pU])),h0,Nat.add_mul];omega
theorem Ha{w:World}{a:Option Addr}{n c sz:Nat}{rows:List (List Value)}{B:Nat->Prop}(h:vq w (.slice a n c) sz rows B)(bV:0<sz):n=rows.length/\sG w a (n*sz) (rows.flatMap id)/\(a=none->n=0):=by
 obtain⟨a',c',e,_,hx⟩:=h;simp only[Value.slice.injEq]at e;obtain⟨rfl,rfl,rfl⟩:=e;have hr:∀r∈rows,r.length=sz:=fun r hr=>by
  obtain⟨i,hi,rfl⟩:=List.getElem_of_mem hr;obtain⟨_,_,h1,_⟩:=hx i hi;exact h1
 refine⟨rfl,⟨WZ rows hr,fun ad lQ j v hv=>?_⟩,fun ha=>?_⟩
 .have hj:j<rows.length*sz:=by rw[<- WZ rows hr];exact(List.getElem?_eq_some_iff.1 hv).1
  have hi:j / sz<rows.length:=(Nat.div_lt_iff_lt_mul bV).2 hj;have hk:j % sz<sz:=Nat.mod_lt _ bV;have hf:=KR rows hr (j / sz) hi (j % sz) hk;have e:j / sz*sz+j % sz=j:=by rw[Nat.mul_comm];exact Nat.div_add_mod j sz
  rw[e,hv]at hf;obtain⟨KT,e1,h1,h2⟩:=hx (j / sz) hi;rw[lQ]at e1;cases e1;have h3:=h2 (j % sz) (by rw[h1];exact hk);rw[Ξ (by rw[h1];exact hk)]at hf;simp only[Option.some.injEq]at hf;rw[<- hf]at h3;rw[WY,e]at h3;exact h3
 .apply Classical.byContradiction;intro bJ;obtain⟨ad,e1,_⟩:=hx 0 (by omega);rw[ha]at e1;cases e1
theorem ED(a b:ByteArray):(a++b).size=a.size+b.size:=by simp
theorem np{w:World}{a:Addr}{v:Value}(h:w.cell? a=some v):a.block<w.heap.size:=by
 unfold World.cell? at h;cases hb:w.heap[a.block]? with
 |none=>rw[hb]at h;cases h
 |some o=>exact bP hb
end
end Go.W
namespace Go.Proofs.YtekkkjbjnhipkaaGreatDoor
section
open Go Go.W
inductive Ty where
 |mk (kind:Int) (name:ByteArray) (args:List Ty)
mutual
inductive Ex where
 |mk (kind:Int) (name:ByteArray) (num:Int) (types:List Ty) (args:List Ex) (binds:List Bd) (alts:List Al)
inductive Bd where
 |mk (name:ByteArray) (type:Ty) (value:Ex)
inductive Al where
 |mk (kind:Int) (bE:ByteArray) (num:Int) (vars:List ByteArray) (body:Ex)
end
structure Cn where
 name:ByteArray
 fields:List Ty
structure Dt where
 name:ByteArray
 params:List ByteArray
 cons:List Cn
structure Df where
 name:ByteArray
 params:List ByteArray
 type:Ty
 body:Ex
structure Pg where
 aK:List Dt
 aj:List Df
def Ty.kind:Ty->Int |.mk k _ _=>k
def Ty.name:Ty->ByteArray |.mk _ n _=>n
def Ty.args:Ty->List Ty |.mk _ _ l=>l
def Ex.kind:Ex->Int |.mk k _ _ _ _ _ _=>k
def Ex.name:Ex->ByteArray |.mk _ n _ _ _ _ _=>n
def Ex.num:Ex->Int |.mk _ _ m _ _ _ _=>m
def Ex.types:Ex->List Ty |.mk _ _ _ l _ _ _=>l
def Ex.args:Ex->List Ex |.mk _ _ _ _ l _ _=>l
def Ex.binds:Ex->List Bd |.mk _ _ _ _ _ l _=>l
def Ex.alts:Ex->List Al |.mk _ _ _ _ _ _ l=>l
def Bd.name:Bd->ByteArray |.mk n _ _=>n
def Bd.type:Bd->Ty |.mk _ t _=>t
def Bd.value:Bd->Ex |.mk _ _ v=>v
def Al.kind:Al->Int |.mk k _ _ _ _=>k
def Al.bE:Al->ByteArray |.mk _ c _ _ _=>c
def Al.num:Al->Int |.mk _ _ n _ _=>n
def Al.vars:Al->List ByteArray |.mk _ _ _ l _=>l
def Al.body:Al->Ex |.mk _ _ _ _ e=>e
def qR(w:World)(v:Value)(sz:Nat)(rows:List (List Value))(B:Nat->Prop):Prop:=vq w v sz rows B/\rows.length<=1099511627776
theorem qR.mod{w w':World}{v:Value}{sz:Nat}{rows:List (List Value)}{B S:Nat->Prop}(h:qR w v sz rows B)(hm:Mod S w w')(hd:∀b,B b->¬S b):qR w' v sz rows B:=⟨h.1.mod hm hd (fun _ h=>h),h.2⟩
def aX{α:Type}(w:World)(v:Value)(sz:Nat)(B:Nat->Prop)(P:List Value->α->Prop)(l:List α):Prop:=
 ∃rows,qR w v sz rows B/\rows.length=l.length/\∀(i:Nat) (r:List Value) (a:α),rows[i]?=some r->l[i]?=some a->P r a
inductive aR (w:World) (B:Nat->Prop):List Value->Ty->Prop
 | mk {k:Int} {n:ByteArray} {args:List Ty} {v:Value} {rows:List (List Value)} (hr:qR w v 3 rows B) (hl:rows.length=args.length)
     (he:∀(i:Nat) (r:List Value) (t:Ty),rows[i]?=some r->args[i]?=some t->aR w B r t):aR w B [I k,.string n,v] (.mk k n args)
abbrev Nm(s:ByteArray):Prop:=s.size<4611686018427387904
def ft(cs:List Value)(s:ByteArray):Prop:=cs=[.string s]/\Nm s
def EE:Value->Prop
 |.slice _ n c=>n<=c
 |_=>False
inductive ci (w:World) (B:Nat->Prop):List Value->Ex->Prop
 | mk {k m:Int} {n:ByteArray} {types:List Ty} {args:List Ex} {binds:List Bd} {alts:List Al} {vt va vb vl:Value} {rt ra rb rl:List (List Value)}
     (ht:qR w vt 3 rt B) (rR:rt.length=types.length) (jY:∀(i:Nat) (r:List Value) (t:Ty),rt[i]?=some r->types[i]?=some t->aR w B r t)
     (ha:qR w va 7 ra B) (oU:ra.length=args.length) (Hb:∀(i:Nat) (r:List Value) (e:Ex),ra[i]?=some r->args[i]?=some e->ci w B r e)
     (hb:qR w vb 11 rb B) (sQ:rb.length=binds.length) (mE:∀(i:Nat) (r:List Value) (b:Bd),rb[i]?=some r->binds[i]?=some b->(r.length=11/\Nm b.name)/\r[0]?=some (.string b.name)/\aR w B ((r.drop 1).take 3) b.type)
     (Hc:∀(i:Nat) (r:List Value) (b:Bd),rb[i]?=some r->binds[i]?=some b->ci w B (r.drop 4) b.value)
     (hl:qR w vl 11 rl B) (iH:rl.length=alts.length)
     (cR:∀(i:Nat) (r:List Value) (a:Al),rl[i]?=some r->alts[i]?=some a->∃vv,r.take 4=[I a.kind,.string a.bE,I a.num,vv]/\r.length=11/\aX w vv 1 B ft a.vars)
     (hle:∀(i:Nat) (r:List Value) (a:Al),rl[i]?=some r->alts[i]?=some a->ci w B (r.drop 4) a.body) (oS:EE vl) :
     ci w B [I k,.string n,I m,vt,va,vb,vl] (.mk k n m types args binds alts)
theorem aX.mod{α:Type}{w w':World}{v:Value}{sz:Nat}{B S:Nat->Prop}{P P':List Value->α->Prop}{l:List α}(h:aX w v sz B P l)(hm:Mod S w w')(hd:∀b,B b->¬S b)(hp:∀r a,P r a->P' r a):aX w' v sz B P' l:=by
 obtain⟨rows,h1,h2,h3⟩:=h;exact⟨rows,h1.mod hm hd,h2,fun i r a hr ha=>hp _ _ (h3 i r a hr ha)⟩
section
variable {w w':World} {B S:Nat->Prop} {cs:List Value}
theorem aR.mod{t:Ty}(h:aR w B cs t)(hm:Mod S w w')(hd:∀b,B b->¬S b):aR w' B cs t:=by
 induction h with
 |mk hr hl he ih=>exact .mk (hr.mod hm hd) hl (fun i r t a b=>ih i r t a b)
theorem ci.mod{e:Ex}(h:ci w B cs e)(hm:Mod S w w')(hd:∀b,B b->¬S b):ci w' B cs e:=by
 induction h with
 |mk ht rR jY ha oU Hb hb sQ mE Hc hl iH cR hle oS qQ vm jZ=>
  refine .mk (ht.mod hm hd) rR (fun i r t a b=>(jY i r t a b).mod hm hd) (ha.mod hm hd) oU qQ (hb.mod hm hd) sQ (fun i r b x y=>?_) vm (hl.mod hm hd) iH (fun i r a x y=>?_) jZ oS
  .obtain⟨h1,h2,h3⟩:=mE i r b x y;exact⟨h1,h2,h3.mod hm hd⟩
  .obtain⟨vv,h1,h2,h3⟩:=cR i r a x y;exact⟨vv,h1,h2,h3.mod hm hd (fun _ _ h=>h)⟩
theorem aR.cells{t:Ty}(h:aR w B cs t):∃v,cs=[I t.kind,.string t.name,v]/\aX w v 3 B (aR w B) t.args:=by
 cases h with
 |mk hr hl he=>exact⟨_,rfl,_,hr,hl,he⟩
theorem ci.cells{e:Ex}(h:ci w B cs e):∃ vt va vb vl,cs=[I e.kind,.string e.name,I e.num,vt,va,vb,vl]∧aX w vt 3 B (aR w B) e.types∧aX w va 7 B (ci w B) e.args ∧
   aX w vb 11 B (fun r b=>(r.length=11/\Nm b.name)/\r[0]?=some (.string b.name)/\aR w B ((r.drop 1).take 3) b.type/\ci w B (r.drop 4) b.value) e.binds /\
   aX w vl 11 B (fun r a=>r.length=11/\(∃vv,r.take 4=[I a.kind,.string a.bE,I a.num,vv]/\aX w vv 1 B ft a.vars)/\ci w B (r.drop 4) a.body) e.alts:=by
 cases h with
 |mk ht rR jY ha oU Hb hb sQ mE Hc hl iH cR hle oS=>
  refine⟨_,_,_,_,rfl,⟨_,ht,rR,jY⟩,⟨_,ha,oU,Hb⟩,⟨_,hb,sQ,fun i r b x y=>?_⟩,⟨_,hl,iH,fun i r a x y=>?_⟩⟩
  .obtain⟨h1,h2,h3⟩:=mE i r b x y;exact⟨h1,h2,h3,Hc i r b x y⟩
  .obtain⟨vv,h1,h2,h3⟩:=cR i r a x y;exact⟨h2,⟨vv,h1,h3⟩,hle i r a x y⟩
theorem ci.cap{e:Ex}(h:ci w B cs e):∃vl,cs[6]?=some vl/\EE vl:=by
 cases h with
 |mk ht rR jY ha oU Hb hb sQ mE Hc hl iH cR hle oS=>exact⟨_,rfl,oS⟩
end
end
section
open Go Go.W
theorem afZ{w:World}{a:Addr}:∀(n i:Nat) (acc r:List Value),r.length=n->(∀k (hk:k<r.length),w.cell? (a.add (i+k))=some r[k])->my w a i n acc.toArray=some (acc++r).toArray:=by
 intro n
 induction n with
 |zero=>intro i acc r hl _;rw[List.eq_nil_of_length_eq_zero hl];simp[my]
 |succ n ih=>
  intro i acc r hl h
  match r,hl with
  |x::r,hl=>
   have h0:=h 0 (by simp);rw[Nat.add_zero]at h0;simp only[List.getElem_cons_zero]at h0
   have:=ih (i+1) (acc++[x]) r (by simpa using hl) (fun k hk=>by
    have:=h (k+1) (by simp;omega);rw[show i+(k+1)=i+1+k by omega]at this
    simpa using this)
   simp only[my,h0];rw[show acc.toArray.push x=(acc++[x]).toArray by simp,this];simp
theorem vx{w:World}{a:Addr}{n:Nat}{r:List Value}(hl:r.length=n)(h:∀k (hk:k<r.length),w.cell? (a.add k)=some r[k]):f' w n (.pointer (some a))=some (.agg r.toArray):=by
 unfold f';have:=afZ n 0 [] r hl (fun k hk=>by rw[Nat.zero_add];exact h k hk);simp only[List.nil_append]at this;show(my w a 0 n #[]).map Value.agg=_;rw[this];rfl
section
variable {w w':World} {B S:Nat->Prop} {v:Value} {α:Type} {sz:Nat} {P:List Value->α->Prop} {l:List α}
theorem bq(h:aX w v sz B P l):∃a c,v=.slice a l.length c:=by
 obtain⟨rows,⟨⟨a,c,e,_⟩,_⟩,h2,_⟩:=h;exact⟨a,c,by rw[e,h2]⟩
theorem dI(h:aX w v sz B P l):l.length<9223372036854775807:=by
 obtain⟨rows,h1,h2,_⟩:=h;have:=h1.2;omega
theorem dT(h:aX w v sz B P l){i:Nat}(hi:i < l.length) :
   ∃ad c r,v=.slice (some ad) l.length c/\P r l[i]/\r.length=sz/\f' w sz (.pointer (some (ad.add (i*sz))))=some (.agg r.toArray)/\∀k (hk:k<r.length),w.cell? ((ad.add (i*sz)).add k)=some r[k]:=by
 obtain⟨rows,h1,h2,h3⟩:=h;obtain⟨ad,c,e,k1,k2⟩:=KQ h1.1 (i:=i) (by omega);exact⟨ad,c,rows[i]'(by omega),by rw[e,h2],h3 i _ _ (Ξ (by omega)) (Ξ hi),k1,vx k1 k2,k2⟩
theorem eB(w:World)(sz:Nat)(B:Nat->Prop)(P:List Value->α->Prop):aX w (.slice none 0 0) sz B P []:=
 ⟨[],⟨⟨none,0,rfl,(fun _ ad e=>by cases e),fun i hi=>absurd hi (by simp)⟩,by simp⟩,rfl,fun i r a hr=>by simp at hr⟩
def fj(w:World)(B:Nat->Prop)(cs:List Value)(k:Cn):Prop:=∃vf,cs=[.string k.name,vf]/\aX w vf 3 B (aR w B) k.fields/\Nm k.name
def gC(w:World)(B:Nat->Prop)(cs:List Value)(d:Dt):Prop:=∃vp vc,cs=[.string d.name,vp,vc]/\aX w vp 1 B ft d.params/\aX w vc 2 B (fj w B) d.cons
def jE(w:World)(B:Nat->Prop)(cs:List Value)(d:Df):Prop:=∃vp tc bc,cs=.string d.name::vp::(tc++bc)/\tc.length=3/\bc.length=7/\aX w vp 1 B ft d.params/\aR w B tc d.type/\ci w B bc d.body/\Nm d.name
def j0(w:World)(B:Nat->Prop)(cs:List Value)(p:Pg):Prop:=∃vd vf,cs=[vd,vf]/\aX w vd 3 B (gC w B) p.aK/\aX w vf 12 B (jE w B) p.aj
theorem fj.mod{cs:List Value}{k:Cn}(h:fj w B cs k)(hm:Mod S w w')(hd:∀b,B b->¬S b):fj w' B cs k:=by
 obtain⟨vf,e,h,hn⟩:=h;exact⟨vf,e,h.mod hm hd (fun _ _ h=>h.mod hm hd),hn⟩
theorem gC.mod{cs:List Value}{d:Dt}(h:gC w B cs d)(hm:Mod S w w')(hd:∀b,B b->¬S b):gC w' B cs d:=by
 obtain⟨vp,vc,e,h1,h2⟩:=h;exact⟨vp,vc,e,h1.mod hm hd (fun _ _ h=>h),h2.mod hm hd (fun _ _ h=>h.mod hm hd)⟩
theorem jE.mod{cs:List Value}{d:Df}(h:jE w B cs d)(hm:Mod S w w')(hd:∀b,B b->¬S b):jE w' B cs d:=by
 obtain⟨vp,tc,bc,e,l1,l2,h1,h2,h3,hn⟩:=h;exact⟨vp,tc,bc,e,l1,l2,h1.mod hm hd (fun _ _ h=>h),h2.mod hm hd,h3.mod hm hd,hn⟩
theorem j0.mod{cs:List Value}{p:Pg}(h:j0 w B cs p)(hm:Mod S w w')(hd:∀b,B b->¬S b):j0 w' B cs p:=by
 obtain⟨vd,vf,e,h1,h2⟩:=h;exact⟨vd,vf,e,h1.mod hm hd (fun _ _ h=>h.mod hm hd),h2.mod hm hd (fun _ _ h=>h.mod hm hd)⟩
theorem aR.len{cs:List Value}{t:Ty}(h:aR w B cs t):cs.length=3:=by
 obtain⟨_,rfl,_⟩:=h.cells;rfl
theorem ci.len{cs:List Value}{e:Ex}(h:ci w B cs e):cs.length=7:=by
 obtain⟨_,_,_,_,rfl,_⟩:=h.cells;rfl
end
end
end Go.Proofs.YtekkkjbjnhipkaaGreatDoor
section
open Go Go.W
theorem σ{a b:Prop}(q:b)(h:a=b:=by(try simp only[go_sem,simprocAttr]);rfl):a:=h▸q
theorem φ{a b:Prop}(q:b)(h:a=b:=by(try simp only[go_sem,Nat.reduceAdd,Nat.reduceEqDiff,Nat.reduceLT,Nat.reduceLeDiff,Nat.reduceMul,reduceCtorEq,↓reduceIte]);rfl):a:=h▸q
theorem δ{P:Program}{w:World}{U:Go.W.Env}{K R:Value->World->Prop}{f:Nat}{args:List O}{vs:List Value}(ha:gW U args=some vs)(h:bu P f vs w R)(hr:∀v w',R v w'->K v w'):Go.W.E.wp P w U K (.call f args):=aL ha (h.mono hr)
end
