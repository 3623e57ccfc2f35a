/- Texts that the last file stands on: W1, W2, W3, W4, W5, WO, W6, W7, W8, W9, W10, S1, W11, WI, WK. -/
import Derived.Deep.Quiet
import Derived.WalkKit
import Derived.Test.YtnjobkbblhaliaaGreatDoorProg
import Derived.IntWalk
import Derived.ProofKit
import Derived.SizedLaws
import Derived.Shelf.SlIterI.Nil
import Derived.Shelf.SortM.Plain
import Derived.Shelf.SortM.SortNone
import Derived.Ground.GgzProg
import Derived.Ground.SlgmProg
import Derived.Shelf.LaysM
import Derived.Shelf.Strconv.Itoa3
import Derived.Maps.RangeRun
import Derived.TacticsIn
import Derived.OrdersIn
import Derived.RangeFuncFrom
import Derived.RangeFuncWrites
import Derived.RangeFuncLeaves
import Derived.RangeFuncCalls
import Derived.KernelRfl
set_option linter.unusedSimpArgs false
set_option linter.unusedVariables false
set_option maxRecDepth 100000
namespace Go.W
section
open Go
def ro (P:Program) (w:World) {α:Type}:Sem α→Option α
 | .pure a=>some a
 | .load _ a k=>match w.cell? a with | some v=>ro P w (k v) | none=>none
 | .shape r k=>ro P w (k (w.shape? r))
 | .frozen a k=>ro P w (k (w.frozen? a))
 | .getObj r k=>match w.heap[r]? with | some (.cells ..)=>none | some o=>ro P w (k o) | none=>none
 | .program k=>ro P w (k P)
 | .mark _ k=>ro P w k
 | .store ..=>none
 | .new ..=>none
 | .freeze ..=>none
 | .setObj ..=>none
 | .choose ..=>none
 | .sys ..=>none
 | .halt _=>none
theorem kI {P:Program} {w:World} {α:Type} {s:Sem α} {a:α} (h:ro P w s=some a):s.run P w = .ok a w:=by
 induction s with
 | pure x=>simp only [ro,Option.some.injEq] at h;subst h;rfl
 | load m ad k ih=>
  simp only [ro] at h;cases hc:w.cell? ad with
  | none=>simp [hc] at h
  | some v=>simp only [hc] at h;simp only [Sem.run,hc];exact ih v h
 | shape r k ih=>simp only [ro] at h;simp only [Sem.run];exact ih _ h
 | frozen ad k ih=>simp only [ro] at h;simp only [Sem.run];exact ih _ h
 | getObj r k ih=>
  simp only [ro] at h;cases hc:w.heap[r]? with
  | none=>simp [hc] at h
  | some o=>cases o<;>simp only [hc] at h<;>first | cases h | (simp only [Sem.run,hc];exact ih _ h)
 | program k ih=>simp only [ro] at h;simp only [Sem.run];exact ih _ h
 | mark m k ih=>simp only [ro] at h;simp only [Sem.run];exact ih h
 | store=>simp [ro] at h
 | new=>simp [ro] at h
 | freeze=>simp [ro] at h
 | setObj=>simp [ro] at h
 | choose=>simp [ro] at h
 | sys=>simp [ro] at h
 | halt=>simp [ro] at h
theorem cY {P:Program} {w:World} {α β:Type} (s:Sem α) (f:α→Sem β):ro P w (s >>= f)=(ro P w s).bind (fun a=>ro P w (f a)):=by
 show ro P w (s.bind f)=_
 induction s with
 | pure x=>simp [Sem.bind,ro]
 | load m ad k ih=>simp only [Sem.bind,ro];cases w.cell? ad<;>simp [ih]
 | shape r k ih=>simp only [Sem.bind,ro,ih]
 | frozen r k ih=>simp only [Sem.bind,ro,ih]
 | getObj r k ih=>
  simp only [Sem.bind,ro];cases w.heap[r]? with
  | none=>rfl
  | some o=>cases o<;>simp [ih]
 | program k ih=>simp only [Sem.bind,ro,ih]
 | mark m k ih=>simp only [Sem.bind,ro,ih]
 | store=>rfl
 | new=>rfl
 | freeze=>rfl
 | setObj=>rfl
 | choose=>rfl
 | sys=>rfl
 | halt=>rfl
@[simp] theorem fZ {P:Program} {w:World} {α:Type} (a:α):ro P w (pure a:Sem α)=some a:=rfl
@[simp] theorem DR {P:Program} {w:World} {α β:Type} (f:α→β) (s:Sem α):ro P w (f <$> s)=(ro P w s).map f:=by
 show ro P w (s.bind (fun a=>.pure (f a)))=_;have:=cY (P:=P) (w:=w) s (fun a=>(pure (f a):Sem β));rw [show s.bind (fun a=>.pure (f a))=s >>= (fun a=>(pure (f a):Sem β)) from rfl,this];cases ro P w s<;>rfl
theorem DS {P:Program} {w:World}:ro P w program=some P:=rfl
theorem Hz {P:Program} {w:World} (a:Addr) (m:Mode):ro P w (load a m)=w.cell? a:=by
 simp only [load,ro];cases w.cell? a<;>rfl
theorem O9 {P:Program} {w:World} (t:TypeId):ro P w (typeInfo t)=P.info? t:=by
 simp only [typeInfo,cY,DS,Option.bind_some];cases P.info? t<;>rfl
theorem iy {P:Program} {w:World} (t:TypeId):ro P w (underlying t)=P.underlying t:=by
 simp only [underlying,cY,DS,Option.bind_some];cases P.underlying t<;>rfl
theorem qC {P:Program} {w:World} (t:TypeId):ro P w (sizeOf t)=(P.info? t).map (·.size):=by
 simp only [sizeOf,cY,O9];cases P.info? t<;>rfl
def qD:TypeDesc→Bool
 | .struct _=>true
 | .array _ _=>true
 | _=>false
theorem yX {P:Program} {w:World} (t:TypeId):ro P w (isAgg t)=(P.underlying t).map qD:=by
 simp only [isAgg,cY,iy];cases P.underlying t with
 | none=>rfl
 | some d=>cases d<;>rfl
theorem HA {P:Program} {w:World} (t:TypeId):ro P w (zeroValue t)=(P.info? t).bind (·.zero):=by
 simp only [zeroValue,cY,O9];cases P.info? t with
 | none=>rfl
 | some i=>cases h:i.zero<;>simp [h]<;>rfl
def jC (w:World) (a:Addr) (i:Nat):Nat→Array Value→Option (Array Value)
 | 0,acc=>some acc
 | n+1,acc=>match w.cell? (a.add i) with
  | some v=>jC w a (i+1) n (acc.push v)
  | none=>none
theorem Yr {P:Program} {w:World} (a:Addr):∀ (n i:Nat) (acc:Array Value),ro P w (loadCellsFrom a i n acc)=jC w a i n acc:=by
 intro n
 induction n with
 | zero=>intro i acc;rfl
 | succ n ih=>
  intro i acc;simp only [loadCellsFrom,cY,Hz,jC];cases w.cell? (a.add i) with
  | none=>rfl
  | some v=>simp [ih]
theorem O' {P:Program} {w:World} (a:Addr) (n:Nat):ro P w (loadCells a n)=jC w a 0 n #[]:=Yr a n 0 #[]
inductive O where
 | t (n:Nat)
 | c (v:Value)
 deriving Inhabited
abbrev Env:=List (Nat×Value)
def Env.get (ρ:Env) (t:Nat):Option Value:=
 match ρ with
 | []=>none
 | (s,v)::r=>if s=t then some v else Env.get r t
def Env.put (ρ:Env) (d:Option Nat) (v:Value):Env:=
 match d with
 | none=>ρ
 | some d=>(d,v)::ρ
def Env.dV (ρ:Env):List Nat→Env
 | []=>[]
 | t::ts=>match ρ.get t with
  | some v=>(t,v)::Env.dV ρ ts
  | none=>Env.dV ρ ts
def O.ev (ρ:Env):O→Option Value
 | .t n=>ρ.get n
 | .c v=>some v
def bf:Operand→O
 | .tmp t=>.t t
 | .const v=>.c v
 | .global g=>.c (.pointer (some ⟨g,0,none⟩))
 | .func f=>.c (.func (.func f) #[] #[])
def eP (ρ:Env):List O→Option (List Value)
 | []=>some []
 | x::xs=>match x.ev ρ,eP ρ xs with
  | some v,some vs=>some (v::vs)
  | _,_=>none
inductive yY where
 | bool | ptr | slice | iface | map | func
 deriving DecidableEq,Inhabited
inductive th where
 | int | str | bool
 deriving DecidableEq,Inhabited
inductive R where
 | mv (x:O)
 | nn (x:O)
 | fa (off:Nat) (x:O)
 | l1 (x:O)
 | ln (n:Nat) (x:O)
 | bi (op:BinOp) (x y:O)
 | eq (k:yY) (neg:Bool) (x y:O)
 | no (x:O)
 | ng (x:O)
 | cv (k:IntKind) (x:O)
 | len (x:O)
 | oJ (x:O)
 | tj (x:O)
 | cap (x:O)
 | ia (sz:Nat) (s i:O)
 | rR (s i:O)
 | fl (off:Nat) (x:O)
 | yZ (off n:Nat) (x:O)
 | sl (sz:Nat) (x:O) (lo hi mx:Option O)
 | y0 (x:O) (lo hi:Option O)
 | bd (zero:Array Value) (parts:List (Nat×Nat×O))
 | pk (c a b:O)
 | ex (i:Nat) (x:O)
 | mi (t:Nat) (x:O)
 | mm (mx:Bool) (x y:O)
 | oK (neg:Bool) (fs:List (Nat×th)) (x y:O)
 | mf (fn:Fn) (fst cs:List O)
 deriving Inhabited
def HB:Value→Option Value
 | .pointer (some a)=>some (.pointer (some a))
 | .iface t v=>some (.iface t v)
 | .func (.func f) a b=>some (.func (.func f) a b)
 | _=>none
def HC (off:Nat):Value→Option Value
 | .pointer (some a)=>some (.pointer (some (a.add off)))
 | _=>none
def y6 (w:World):Value→Option Value
 | .pointer (some a)=>w.cell? a
 | _=>none
def cB (w:World) (n:Nat):Value→Option Value
 | .pointer (some a)=>(jC w a 0 n #[]).map .agg
 | _=>none
def y7 (op:BinOp) (k:IntKind) (a b:Int):Option Value:=
 match op with
 | .add=>some (.int k (k.wrap (a+b)))
 | .sub=>some (.int k (k.wrap (a - b)))
 | .mul=>some (.int k (k.wrap (a*b)))
 | .quo=>if b=0 then none else some (.int k (k.wrap (a.tdiv b)))
 | .rem=>if b=0 then none else some (.int k (a.tmod b))
 | .and=>some (.int k (k.wrap ((BitVec.ofInt k.bits a &&& BitVec.ofInt k.bits b).toNat)))
 | .or=>some (.int k (k.wrap ((BitVec.ofInt k.bits a ||| BitVec.ofInt k.bits b).toNat)))
 | .xor=>some (.int k (k.wrap ((BitVec.ofInt k.bits a ^^^ BitVec.ofInt k.bits b).toNat)))
 | .andNot=>none
 | .eql=>some (.bool (a == b))
 | .neq=>some (.bool (a != b))
 | .lss=>some (.bool (decide (a < b)))
 | .leq=>some (.bool (decide (a≤b)))
 | .gtr=>some (.bool (decide (a > b)))
 | .geq=>some (.bool (decide (a≥b)))
 | .shl=>none
 | .shr=>none
def A' (op:BinOp) (k:IntKind) (x y:Int):Option Value:=
 if y < 0 then none else
 match op with
 | .shl=>some (.int k (k.wrap (x*2 ^ (min y.toNat k.bits))))
 | .shr=>some (.int k (x.fdiv (2 ^ (min y.toNat k.bits))))
 | _=>none
def HD (op:BinOp) (x y:ByteArray):Option Value:=
 match op with
 | .add=>if ((x.size+y.size:Nat):Int) > IntKind.i64.max then none else some (.string (x++y))
 | .eql=>some (.bool (x.toList == y.toList))
 | .neq=>some (.bool !(x.toList == y.toList))
 | .lss=>some (.bool (Op.bytesLess x.toList y.toList))
 | .leq=>some (.bool (Op.bytesLess x.toList y.toList||x.toList == y.toList))
 | .gtr=>some (.bool !(Op.bytesLess x.toList y.toList||x.toList == y.toList))
 | .geq=>some (.bool !(Op.bytesLess x.toList y.toList))
 | _=>none
def y8 (op:BinOp):Value→Value→Option Value
 | .int k a,.int k' b=>match op with
  | .shl=>A' op k a b
  | .shr=>A' op k a b
  | _=>if k=k' then y7 op k a b else none
 | .string a,.string b=>HD op a b
 | _,_=>none
def uW (k:yY):Value→Value→Option Bool
 | .bool a,.bool b=>if k = .bool then some (a == b) else none
 | .pointer none,.pointer b=>if k = .ptr then some b.isNone else none
 | .pointer (some _),.pointer none=>if k = .ptr then some false else none
 | .slice none _ _,.slice b _ _=>if k = .slice then some b.isNone else none
 | .slice (some _) _ _,.slice none _ _=>if k = .slice then some false else none
 | .map none,.map b=>if k = .map then some b.isNone else none
 | .map (some _),.map none=>if k = .map then some false else none
 | .nilIface,.iface _ _=>if k = .iface then some false else none
 | .iface _ _,.nilIface=>if k = .iface then some false else none
 | .nilFunc,.nilFunc=>if k = .func then some true else none
 | .nilFunc,.func _ _ _=>if k = .func then some false else none
 | .func _ _ _,.nilFunc=>if k = .func then some false else none
 | _,_=>none
def HE:Value→Option Value
 | .bool b=>some (.bool !b)
 | _=>none
def HF:Value→Option Value
 | .int k n=>some (.int k (k.wrap (0 - n)))
 | _=>none
def HG (k:IntKind):Value→Option Value
 | .int _ n=>some (.int k (k.wrap n))
 | _=>none
def HH:Value→Option Value
 | .slice _ n _=>some (.int .i64 n)
 | _=>none
def HI:Value→Option Value
 | .string s=>some (.int .i64 s.size)
 | _=>none
def DT (w:World):Value→Option Value
 | .map none=>some (.int .i64 0)
 | .map (some r)=>match w.heap[r]? with
  | some (.map es _)=>some (.int .i64 es.size)
  | _=>none
 | _=>none
def HJ:Value→Option Value
 | .slice _ _ c=>some (.int .i64 c)
 | _=>none
def HK (sz:Nat):Value→Value→Option Value
 | .slice (some a) len _,.int _ i=>if 0≤i∧i < len then some (.pointer (some (a.add (i.toNat*sz)))) else none
 | _,_=>none
def HL:Value→Value→Option Value
 | .string s,.int _ i=>if 0≤i then (s[i.toNat]?).map (fun b=>.int .u8 b.toNat) else none
 | _,_=>none
def HM (off:Nat):Value→Option Value
 | .agg cs=>cs[off]?
 | _=>none
def HN (off n:Nat):Value→Option Value
 | .agg cs=>some (.agg (cs.extract off (off+n)))
 | _=>none
def lX (v:Option Value) (Ys y:Nat):Option Nat:=
 match v with
 | none=>some Ys
 | some (.int _ i)=>if 0≤i∧i≤y then some i.toNat else none
 | some _=>none
def HO (sz:Nat) (x:Value) (lo hi mx:Option Value):Option Value:=
 match x with
 | .slice a len cap=>match lX mx cap cap with
  | none=>none
  | some m=>match lX hi len m with
   | none=>none
   | some h=>match lX lo 0 h with
    | none=>none
    | some l=>some (.slice (if m=l then a else a.map (·.add (l*sz))) (h - l) (m - l))
 | _=>none
def HP (x:Value) (lo hi:Option Value):Option Value:=
 match x with
 | .string s=>match lX hi s.size s.size with
  | none=>none
  | some h=>match lX lo 0 h with
   | none=>none
   | some l=>some (.string (s.extract l h))
 | _=>none
def kJ (cells:Array Value):List (Nat×Nat×Value)→Option (Array Value)
 | []=>some cells
 | (off,size,v)::rest=>
  if v.cells.size≠size||off+v.cells.size > cells.size then none
  else kJ (v.cells.zipIdx.foldl (fun cs (c,j)=>cs.setIfInBounds (off+j) c) cells) rest
def HQ:Value→Value→Value→Option Value
 | .bool c,a,b=>some (if c then a else b)
 | _,_,_=>none
def HR (i:Nat):Value→Option Value
 | .tuple vs=>vs[i]?
 | _=>none
def DU (mx:Bool):Value→Value→Option Value
 | .int k x,.int _ y=>some (.int k (if mx then (if y > x then y else x) else (if y < x then y else x)))
 | _,_=>none
def qE:th→Value→Value→Option Bool
 | .int,.int k a,.int k' b=>if k=k' then some (a == b) else none
 | .str,.string a,.string b=>some (a.toList == b.toList)
 | .bool,.bool a,.bool b=>some (a == b)
 | _,_,_=>none
def y9 (xs ys:Array Value):List (Nat×th)→Option Bool
 | []=>some true
 | (o,k)::r=>match xs[o]?,ys[o]? with
  | some a,some b=>match qE k a b,y9 xs ys r with
   | some c,some d=>some (c&&d)
   | _,_=>none
  | _,_=>none
def za (neg:Bool) (fs:List (Nat×th)):Value→Value→Option Value
 | .agg xs,.agg ys=>(y9 xs ys fs).map fun r=>.bool (if neg then !r else r)
 | _,_=>none
def nS (ρ:Env):Option O→Option (Option Value)
 | none=>some none
 | some x=>match x.ev ρ with
  | some v=>some (some v)
  | none=>none
def kK (ρ:Env):List (Nat×Nat×O)→Option (List (Nat×Nat×Value))
 | []=>some []
 | (o,n,x)::r=>match x.ev ρ,kK ρ r with
  | some v,some l=>some ((o,n,v)::l)
  | _,_=>none
def R.ev (w:World) (ρ:Env):R→Option Value
 | .mv x=>x.ev ρ
 | .nn x=>(x.ev ρ).bind HB
 | .fa off x=>(x.ev ρ).bind (HC off)
 | .l1 x=>(x.ev ρ).bind (y6 w)
 | .ln n x=>(x.ev ρ).bind (cB w n)
 | .bi op x y=>(x.ev ρ).bind fun a=>(y.ev ρ).bind fun b=>y8 op a b
 | .eq k neg x y=>(x.ev ρ).bind fun a=>(y.ev ρ).bind fun b=>(uW k a b).map fun r=>.bool (if neg then !r else r)
 | .no x=>(x.ev ρ).bind HE
 | .ng x=>(x.ev ρ).bind HF
 | .cv k x=>(x.ev ρ).bind (HG k)
 | .len x=>(x.ev ρ).bind HH
 | .oJ x=>(x.ev ρ).bind HI
 | .tj x=>(x.ev ρ).bind (DT w)
 | .cap x=>(x.ev ρ).bind HJ
 | .ia sz s i=>(s.ev ρ).bind fun a=>(i.ev ρ).bind fun b=>HK sz a b
 | .rR s i=>(s.ev ρ).bind fun a=>(i.ev ρ).bind fun b=>HL a b
 | .fl off x=>(x.ev ρ).bind (HM off)
 | .yZ off n x=>(x.ev ρ).bind (HN off n)
 | .sl sz x lo hi mx=>(x.ev ρ).bind fun a=>(nS ρ lo).bind fun l=>(nS ρ hi).bind fun h=>(nS ρ mx).bind fun m=>HO sz a l h m
 | .y0 x lo hi=>(x.ev ρ).bind fun a=>(nS ρ lo).bind fun l=>(nS ρ hi).bind fun h=>HP a l h
 | .bd zero parts=>(kK ρ parts).bind fun ps=>(kJ zero ps).map .agg
 | .pk c a b=>(c.ev ρ).bind fun c=>(a.ev ρ).bind fun a=>(b.ev ρ).bind fun b=>HQ c a b
 | .ex i x=>(x.ev ρ).bind (HR i)
 | .mi t x=>(x.ev ρ).map (.iface t)
 | .mm mx x y=>(x.ev ρ).bind fun a=>(y.ev ρ).bind fun b=>DU mx a b
 | .oK neg fs x y=>(x.ev ρ).bind fun a=>(y.ev ρ).bind fun b=>za neg fs a b
 | .mf fn fst cs=>(eP ρ fst).bind fun f=>(eP ρ cs).map fun c=>.func fn f.toArray c.toArray
end
section
open Go
def gu (P:Program) (t:TypeId):Option Nat:=(P.info? t).map (·.size)
def DV:Operand→Bool
 | .const _=>true
 | _=>false
def HS:TypeDesc→Option yY
 | .bool=>some .bool
 | .pointer _=>some .ptr
 | .slice _=>some .slice
 | .interface _=>some .iface
 | .map _ _=>some .map
 | .func _ _ _=>some .func
 | _=>none
def Ba (P:Program) (fs:Array Field):List (Nat×Operand)→Option (List (Nat×Nat×O))
 | []=>some []
 | (i,x)::r=>match fs[i]? with
  | some f=>match gu P f.type,Ba P fs r with
   | some n,some l=>some ((f.offset,n,bf x)::l)
   | _,_=>none
  | none=>none
def Pa (P:Program) (f:Field):Option (Nat×th):=
 if f.name = "_" then none else
 match P.underlying f.type with
 | some (.int _)=>some (f.offset,.int)
 | some .string=>some (f.offset,.str)
 | some .bool=>some (f.offset,.bool)
 | _=>none
def Bb (P:Program):List Field→Option (List (Nat×th))
 | []=>some []
 | f::fs=>match Pa P f,Bb P fs with
  | some a,some l=>some (a::l)
  | _,_=>none
def DW (P:Program) (t:TypeId):Option (List (Nat×th)):=
 match P.underlying t with
 | some (.struct fs)=>if P.stoodInHeld t||P.eqGuardType P.depth t then none else Bb P fs.toList
 | _=>none
def HT (P:Program) (fs:List Field):Bool:=fs.all fun f=>(gu P f.type).isSome
def jD (P:Program):Op→Option R
 | .move x=>some (.mv (bf x))
 | .assign x=>some (.mv (bf x))
 | .nilCheck x=>some (.nn (bf x))
 | .fieldAddr s x f=>match P.underlying s with
  | some (.struct fs)=>match fs[f]? with
   | some fd=>match gu P fd.type with
    | some (_+1)=>some (.fa fd.offset (bf x))
    | _=>none
   | none=>none
  | _=>none
 | .load t x=>match P.underlying t,gu P t with
  | some d,some n=>some (if qD d then .ln n (bf x) else .l1 (bf x))
  | _,_=>none
 | .binOp op t x y _=>match P.underlying t with
  | some (.int _)=>some (.bi op (bf x) (bf y))
  | some .string=>some (.bi op (bf x) (bf y))
  | some d=>match HS d,op with
   | some k,.eql=>if (k = .iface||k = .ptr) && !(DV x||DV y) then none else some (.eq k false (bf x) (bf y))
   | some k,.neq=>if (k = .iface||k = .ptr) && !(DV x||DV y) then none else some (.eq k true (bf x) (bf y))
   | none,.eql=>(DW P t).map fun fs=>.oK false fs (bf x) (bf y)
   | none,.neq=>(DW P t).map fun fs=>.oK true fs (bf x) (bf y)
   | _,_=>none
  | none=>none
 | .unOp .not _ x=>some (.no (bf x))
 | .unOp .neg _ x=>some (.ng (bf x))
 | .convert s d x=>match P.underlying s,P.underlying d with
  | some (.int _),some (.int k)=>some (.cv k (bf x))
  | _,_=>none
 | .call { callee:=.builtin .len,args,argTypes}=>match argTypes[0]?,args.toList with
  | some t,[x]=>match P.underlying t with
   | some (.slice _)=>some (.len (bf x))
   | some .string=>some (.oJ (bf x))
   | some (.map _ _)=>some (.tj (bf x))
   | _=>none
  | _,_=>none
 | .call { callee:=.builtin .cap,args,argTypes}=>match argTypes[0]?,args.toList with
  | some t,[x]=>match P.underlying t with
   | some (.slice _)=>some (.cap (bf x))
   | _=>none
  | _,_=>none
 | .call { callee:=.builtin .min,args,..}=>match args.toList with
  | [x,y]=>some (.mm false (bf x) (bf y))
  | _=>none
 | .call { callee:=.builtin .max,args,..}=>match args.toList with
  | [x,y]=>some (.mm true (bf x) (bf y))
  | _=>none
 | .indexAddr t x i=>match P.underlying t with
  | some (.slice e)=>(gu P e).map fun n=>.ia n (bf x) (bf i)
  | _=>none
 | .index t x i=>match P.underlying t with
  | some .string=>some (.rR (bf x) (bf i))
  | _=>none
 | .field t x f=>match P.underlying t with
  | some (.struct fs)=>match fs[f]? with
   | some fd=>match P.underlying fd.type,gu P fd.type with
    | some d,some n=>some (if qD d then .yZ fd.offset n (bf x) else .fl fd.offset (bf x))
    | _,_=>none
   | none=>none
  | _=>none
 | .slice t x lo hi mx=>match P.underlying t with
  | some (.slice e)=>match gu P e with
   | some n=>if mx.isSome && !hi.isSome then none else some (.sl n (bf x) (lo.map bf) (hi.map bf) (mx.map bf))
   | none=>none
  | some .string=>if mx.isSome then none else some (.y0 (bf x) (lo.map bf) (hi.map bf))
  | _=>none
 | .build t parts=>match P.underlying t,(P.info? t).bind (·.zero) with
  | some (.struct fs),some z=>if HT P fs.toList then (Ba P fs parts.toList).map (.bd z.cells) else none
  | _,_=>none
 | .pick c a b=>some (.pk (bf c) (bf a) (bf b))
 | .extract x i=>some (.ex i (bf x))
 | .makeInterface t x=>match P.underlying t with
  | some (.interface _)=>none
  | some _=>some (.mi t (bf x))
  | none=>none
 | .makeFunc fn f c=>some (.mf fn (f.toList.map bf) (c.toList.map bf))
 | _=>none
section
variable {P:Program} {w:World}
theorem mO (s:Sem Value):ro P w (do pure (.value (← s)):Sem Next)=(ro P w s).map Next.value:=by
 rw [cY];cases ro P w s<;>rfl
theorem Yt {op:BinOp} {k:IntKind} {a b:Int} {v:Value} (h:y7 op k a b=some v) (x:TypeId) :
   ro P w (binOp op x (.int k a) (.int k b))=some v:=by
 cases op
 all_goals first
  | (simp only [y7,Option.some.injEq] at h;subst h;simp only [binOp,Op.intArith,Op.intBits,Op.intCmp,ne_eq,not_true_eq_false,if_false];rfl)
  | (simp only [y7] at h;split at h
     ·cases h
     ·rename_i hb;simp only [Option.some.injEq] at h;subst h
      simp [binOp,Op.intDiv,hb])
  | (simp [y7] at h)
theorem Yu {op:BinOp} {x y:Value} {v:Value} (h:y8 op x y=some v) (t:TypeId):ro P w (binOp op t x y)=some v:=by
 unfold y8 at h
 split at h
 ·rename_i k a k' b
  split at h
  ·unfold A' at h
   split at h
   ·cases h
   ·rename_i hb;simp only [Option.some.injEq] at h;subst h;simp [binOp,Op.shift,hb]
  ·unfold A' at h
   split at h
   ·cases h
   ·rename_i hb;simp only [Option.some.injEq] at h;subst h;simp [binOp,Op.shift,hb]
  ·rename_i h1 h2
   split at h
   ·rename_i hk;subst hk;exact Yt h t
   ·cases h
 ·rename_i a b;unfold HD at h;cases op<;>simp only at h<;>try (cases h)
  all_goals first
   | rfl
   | (split at h
      ·cases h
      ·rename_i hb;cases h;simp only [binOp,Op.stringOp];rw [if_neg hb];rfl)
 ·cases h
theorem Yv {op:BinOp} {x y:Operand} {a b:Value} {t:TypeId} {v:Value} (h:y8 op a b=some v):ro P w (eqGuard op t x y a b)=some ():=by
 unfold y8 at h
 split at h
 ·cases op<;>rfl
 ·cases op<;>rfl
 ·cases h
theorem Pb {k:yY} {d:TypeDesc} {t:TypeId} {a b:Value} {r:Bool} (hd:P.underlying t=some d) (hk:HS d=some k) (h:uW k a b=some r) :
   ro P w (Op.equal t a b)=some r:=by
 unfold Op.equal Op.maxDepth;unfold Op.equalIn;rw [cY,iy,hd,Option.bind_some];unfold uW at h
 split at h<;>(try split at h)<;>(try cases h)<;>rename_i DX<;>subst DX<;>(cases d<;>simp only [HS,Option.some.injEq,reduceCtorEq] at hk)<;>rfl
theorem Pc {k:yY} {a b:Value} {r:Bool} (h:uW k a b=some r) (op:BinOp) (t:TypeId) (x y:Operand):ro P w (eqGuard op t x y a b)=some ():=by
 unfold uW at h
 split at h<;>(try split at h)<;>(try cases h)<;>(cases op<;>rfl)
theorem Pd {k:yY} {a b:Value} {r:Bool} (h:uW k a b=some r) (t:TypeId) :
   binOp .eql t a b=(do pure (.bool (← Op.equal t a b)))∧binOp .neq t a b=(do pure (.bool (!(← Op.equal t a b)))):=by
 unfold uW at h
 split at h<;>(try split at h)<;>(try cases h)<;>exact ⟨rfl,rfl⟩
theorem HU {ρ:Env} {e:Operand→Value} (he:∀ x u,(bf x).ev ρ=some u→e x=u):∀ (l:List Operand) (vs:List Value),eP ρ (l.map bf)=some vs→l.map e=vs:=by
 intro l
 induction l with
 | nil=>intro vs h;simp only [List.map_nil,eP,Option.some.injEq] at h;subst h;rfl
 | cons x l ih=>
  intro vs h;simp only [List.map_cons,eP] at h
  split at h
  ·rename_i v vs' h1 h2;simp only [Option.some.injEq] at h;subst h;simp [he x v h1,ih vs' h2]
  ·cases h
theorem Bc {ρ:Env} {e:Operand→Value} (he:∀ x u,(bf x).ev ρ=some u→e x=u) (x:Option Operand) (v:Option Value) (h:nS ρ (x.map bf)=some v):x.map e=v:=by
 cases x with
 | none=>simp only [Option.map_none,nS,Option.some.injEq] at h;subst h;rfl
 | some x=>
  simp only [Option.map_some,nS] at h
  split at h
  ·rename_i u hu;simp only [Option.some.injEq] at h;subst h;simp [he x u hu]
  ·cases h
theorem tn {x:Value} {y:Nat} {c:BoundsCode} {d n:Nat} (h:lX (some x) d y=some n):ro P w (Instr.sliceBound x y c)=some n:=by
 unfold lX at h
 split at h
 ·rename_i he;cases he
 ·rename_i k i he;simp only [Option.some.injEq] at he;subst he
  split at h
  ·rename_i hi;simp only [Option.some.injEq] at h;subst h;simp [Instr.sliceBound,asIntOf,cY,hi]
  ·cases h
 ·cases h
theorem Pe {ez:Bool} {len cap m h l:Nat} {lo hi mx:Option Value} (h1:lX mx cap cap=some m) (h2:lX hi len m=some h) (h3:lX lo 0 h=some l)
   (hm:mx.isSome=true→hi.isSome=true):ro P w (Instr.sliceBounds ez len cap lo hi mx)=some (l,h,m):=by
 unfold Instr.sliceBounds;cases mx with
 | none=>
  simp only [lX,Option.some.injEq] at h1;subst h1;cases hi with
  | none=>
   simp only [lX,Option.some.injEq] at h2;subst h2;cases lo with
   | none=>simp only [lX,Option.some.injEq] at h3;subst h3;simp [cY]
   | some v=>simp [cY,tn h3]
  | some u=>
   cases lo with
   | none=>simp only [lX,Option.some.injEq] at h3;subst h3;simp [cY,tn h2]
   | some v=>simp [cY,tn h3,tn h2]
 | some x=>
  cases hi with
  | none=>simp at hm
  | some u=>
   cases lo with
   | none=>simp only [lX,Option.some.injEq] at h3;subst h3;simp [cY,tn h2,tn h1]
   | some v=>simp [cY,tn h3,tn h2,tn h1]
theorem Yw {t:TypeId} {cs:Array Value} {off n:Nat} {d:TypeDesc} {v:Value} (hd:P.underlying t=some d) (hn:gu P t=some n)
   (h:(if qD d then some (.agg (cs.extract off (off+n))) else cs[off]?)=some v):ro P w (part t cs off)=some v:=by
 unfold part;rw [cY,yX,hd];simp only [Option.map_some,Option.bind_some];cases hb:qD d with
 | true=>
  simp only [hb,if_true,Option.some.injEq] at h;subst h;unfold gu at hn;simp only [if_true,cY,qC,hn,Option.bind_some,fZ]
 | false=>
  simp only [hb,Bool.false_eq_true,if_false] at h;simp only [Bool.false_eq_true,if_false,h,fZ]
theorem Yx {P:Program} {fs:Array Field} {pl:Nat→Option (Nat×Nat)} (bQ:∀ i f n,fs[i]? = some f→gu P f.type=some n→pl i=some (f.offset,n))
   {ρ:Env} {e:Operand→Value} (he:∀ x u,(bf x).ev ρ=some u→e x=u):∀ (parts:List (Nat×Operand)) (ps:List (Nat×Nat×O)) (vs:List (Nat×Nat×Value)) (cells out:Array Value),
   Ba P fs parts=some ps→kK ρ ps=some vs→kJ cells vs=some out→Instr.fill pl cells (parts.map fun p=>(p.1,e p.2))=some out:=by
 intro parts
 induction parts with
 | nil=>
  intro ps vs cells out h1 h2 h3;simp only [Ba,Option.some.injEq] at h1;subst h1;simp only [kK,Option.some.injEq] at h2;subst h2
  simpa [kJ,Instr.fill] using h3
 | cons p parts ih=>
  intro ps vs cells out h1 h2 h3;obtain ⟨i,x⟩:=p;simp only [Ba] at h1
  split at h1
  ·rename_i f hf
   split at h1
   ·rename_i n l hn hl;simp only [Option.some.injEq] at h1;subst h1;simp only [kK] at h2
    split at h2
    ·rename_i v l' hv kg;simp only [Option.some.injEq] at h2;subst h2;simp only [kJ] at h3
     split at h3
     ·cases h3
     ·rename_i hc;simp only [List.map_cons,Instr.fill,bQ i f n hf hn,he x v hv];rw [if_neg hc];exact ih l l' _ out hl kg h3
    ·cases h2
   ·cases h1
  ·cases h1
theorem Yy:∀ (fs:List Field),HT P fs=true→∃ l:List (Nat×Nat),ro P w (fs.mapM fun f=>do pure (f.offset,← sizeOf f.type):Sem (List (Nat×Nat)))=some l ∧
   ∀ (i:Nat) (f:Field) (n:Nat),fs[i]? = some f→gu P f.type=some n→l[i]? = some (f.offset,n):=by
 intro fs
 induction fs with
 | nil=>intro _;exact ⟨[],by simp [List.mapM_nil],by simp⟩
 | cons f fs ih=>
  intro h;simp only [HT,List.all_cons,Bool.and_eq_true] at h;obtain ⟨h1,h2⟩:=h;obtain ⟨l,hl,gv⟩:=ih h2;obtain ⟨n,hn⟩:=Option.isSome_iff_exists.1 h1;refine ⟨(f.offset,n)::l,?_,?_⟩
  ·unfold gu at hn;simp only [List.mapM_cons,cY,qC,hn,Option.bind_some,fZ,hl]
  ·intro i g m hg hm;cases i with
   | zero=>
    simp only [List.getElem?_cons_zero,Option.some.injEq] at hg;subst hg;rw [hn] at hm;cases hm;rfl
   | succ i=>exact gv i g m (by simpa using hg) hm
theorem Yz (d:Nat) (t:TypeId) (xs ys:Array Value) (fs:Array Field) (ht:P.underlying t=some (.struct fs)) (hp:P.stoodInHeld t=false) :
   ro P w (Op.equalIn (d+1) t (.agg xs) (.agg ys))=ro P w (Op.eqFields d xs ys fs.toList):=by
 simp only [Op.equalIn,cY,iy,ht,Option.bind_some,DS,hp,Bool.false_eq_true,if_false];rw [← Array.forIn_toList];generalize fs.toList=fs;clear ht
 induction fs with
 | nil=>simp [Op.eqFields]
 | cons f fs ih=>
  simp only [List.forIn_cons,Op.eqFields];by_cases hn:f.name ≠ "_"
  ·rw [if_pos hn,if_pos hn];simp only [cY];cases ro P w (part f.type xs f.offset) with
   | none=>rfl
   | some a=>
    simp only [Option.bind_some];cases ro P w (part f.type ys f.offset) with
    | none=>rfl
    | some b=>
     simp only [Option.bind_some];cases ro P w (Op.equalIn d f.type a b) with
     | none=>rfl
     | some r=>
      cases r
      ·simp only [Option.bind_some,Bool.not_false,if_true,fZ]
      ·simp only [Option.bind_some,Bool.not_true,Bool.false_eq_true,if_false,fZ];exact ih
  ·rw [if_neg hn,if_neg hn];exact ih
theorem YA (d:Nat) (xs ys:Array Value):∀ (fs:List Field) (l:List (Nat×th)) (r:Bool),Bb P fs=some l→y9 xs ys l=some r→ro P w (Op.eqFields (d+1) xs ys fs)=some r:=by
 intro fs
 induction fs with
 | nil=>
  intro l r h1 h2;simp only [Bb,Option.some.injEq] at h1;subst h1;simp only [y9,Option.some.injEq] at h2;subst h2;rfl
 | cons f fs ih=>
  intro l r h1 h2;simp only [Bb] at h1
  split at h1
  ·rename_i a l' ha hl;simp only [Option.some.injEq] at h1;subst h1;unfold Pa at ha
   split at ha
   ·cases ha
   ·rename_i hn;obtain ⟨o,k⟩:=a;simp only [y9] at h2
    split at h2
    ·rename_i a b jN DY
     split at h2
     ·rename_i c d' hc ci;simp only [Option.some.injEq] at h2;subst h2;have key:∀ (dd:TypeDesc),P.underlying f.type=some dd→qD dd=false→f.offset=o→ro P w (Op.equalIn (d+1) f.type a b)=some c →
          ro P w (Op.eqFields (d+1) xs ys (f::fs))=some (c&&d'):=by
       intro dd qF YB YC he;simp only [Op.eqFields];rw [if_pos (by simpa using hn)];have hp:∀ (zs:Array Value) (v:Value),zs[o]? = some v→ro P w (part f.type zs f.offset)=some v:=by
        intro zs v hv;unfold part;rw [cY,yX,qF];simp only [Option.map_some,Option.bind_some,YB,Bool.false_eq_true,if_false,YC,hv,fZ]
       simp only [cY,hp xs a jN,hp ys b DY,he,Option.bind_some];cases c with
       | true=>simp only [Bool.not_true,Bool.false_eq_true,if_false,Bool.true_and];exact ih l' d' hl ci
       | false=>rfl
      split at ha
      ·rename_i kk hk;simp only [Option.some.injEq,Prod.mk.injEq] at ha;obtain ⟨h3,rfl⟩:=ha;cases a with
       | int k1 a1=>cases b with
        | int k2 b1=>
         simp only [qE] at hc
         split at hc
         ·rename_i DX;subst DX;simp only [Option.some.injEq] at hc;subst hc;refine key _ hk rfl h3 ?_;unfold Op.equalIn;simp only [cY,iy,hk,Option.bind_some,if_true,fZ]
         ·cases hc
        | _=>simp [qE] at hc
       | _=>cases b<;>simp [qE] at hc
      ·rename_i hk;simp only [Option.some.injEq,Prod.mk.injEq] at ha;obtain ⟨h3,rfl⟩:=ha;cases a with
       | string s1=>cases b with
        | string s2=>
         simp only [qE,Option.some.injEq] at hc;subst hc;refine key _ hk rfl h3 ?_;unfold Op.equalIn;simp only [cY,iy,hk,Option.bind_some,fZ];rw [beq_toListBytes]
        | _=>simp [qE] at hc
       | _=>cases b<;>simp [qE] at hc
      ·rename_i hk;simp only [Option.some.injEq,Prod.mk.injEq] at ha;obtain ⟨h3,rfl⟩:=ha;cases a with
       | bool s1=>cases b with
        | bool s2=>
         simp only [qE,Option.some.injEq] at hc;subst hc;refine key _ hk rfl h3 ?_;unfold Op.equalIn;simp only [cY,iy,hk,Option.bind_some,fZ]
        | _=>simp [qE] at hc
       | _=>cases b<;>simp [qE] at hc
      ·cases ha
     ·cases h2
    ·cases h2
  ·cases h1
theorem Pf {t:TypeId} {l:List (Nat×th)} (h:DW P t=some l) {neg:Bool} {a b v:Value} (hv:za neg l a b=some v) (op:BinOp) (hop:op=if neg then .neq else .eql) (x y:Operand) :
   ((ro P w (eqGuard op t x y a b)).bind fun _=>ro P w (binOp op t a b))=some v:=by
 unfold DW at h
 split at h
 ·rename_i fs qG
  split at h
  ·cases h
  ·rename_i hc;simp only [Bool.or_eq_true,not_or,Bool.not_eq_true] at hc;cases a with
   | agg xs=>cases b with
    | agg ys=>
     simp only [za] at hv;obtain ⟨r,hr,hv⟩:=Option.map_eq_some_iff.1 hv;have he:ro P w (Op.equal t (.agg xs) (.agg ys))=some r:=by
      unfold Op.equal Op.maxDepth;rw [Yz _ t xs ys fs qG hc.1];exact YA _ xs ys _ l r h hr
     have hg:ro P w (eqGuard op t x y (.agg xs) (.agg ys))=some ():=by
      have e1:P.eqGuardType P.depth t=false:=hc.2;cases op<;>simp [eqGuard,cY,DS,e1]
     rw [hg,Option.bind_some];subst hv;cases neg with
     | false=>subst hop;simp only [Bool.false_eq_true,if_false,binOp,cY,he,Option.bind_some,fZ]
     | true=>subst hop;simp only [if_true,binOp,cY,he,Option.bind_some,fZ]
    | _=>simp [za] at hv
   | _=>cases b<;>simp [za] at hv
 ·cases h
theorem Pg {o:Oper} {r:R} (h:jD P o.op=some r) {ρ:Env} {e:Operand→Value} (he:∀ x u,(bf x).ev ρ=some u→e x=u) {v:Value} (hv:r.ev w ρ=some v) :
   ro P w (execOp e o)=some (.value v):=by
 obtain ⟨dst,op,ty,pos,after,guard⟩:=o;simp only at h;unfold execOp;simp only;unfold jD at h
 split at h
 ·simp only [Option.some.injEq] at h;subst h;simp only [R.ev] at hv;simp [he _ _ hv]
 ·simp only [Option.some.injEq] at h;subst h;simp only [R.ev] at hv;simp [he _ _ hv]
 ·
  simp only [Option.some.injEq] at h;subst h;simp only [R.ev] at hv;rename_i x;obtain ⟨u,hu,hv⟩:=Option.bind_eq_some_iff.1 hv;simp only;rw [he _ _ hu];unfold HB at hv
  split at hv<;>first | (simp only [Option.some.injEq] at hv;subst hv;rfl) | cases hv
 ·
  rename_i s x f
  split at h
  ·rename_i fs qG
   split at h
   ·rename_i fd HV
    split at h
    ·rename_i n hn;simp only [Option.some.injEq] at h;subst h;simp only [R.ev] at hv;obtain ⟨u,hu,hv⟩:=Option.bind_eq_some_iff.1 hv;rw [mO,he _ _ hu];unfold HC at hv
     split at hv
     ·rename_i a;simp only [Option.some.injEq] at hv;subst hv;unfold gu at hn;simp only [Instr.fieldAt,cY,iy,qG,Option.bind_some,HV,Instr.sureAddr,fZ,fieldPlace,qC,hn];simp
     ·cases hv
    ·cases h
   ·cases h
  ·cases h
 ·
  rename_i t x
  split at h
  ·rename_i d n hd hn;simp only [Option.some.injEq] at h;subst h;rw [mO];cases hb:qD d with
   | true=>
    simp only [hb,if_true,R.ev] at hv;obtain ⟨u,hu,hv⟩:=Option.bind_eq_some_iff.1 hv;rw [he _ _ hu];unfold cB at hv
    split at hv
    ·rename_i a;unfold gu at hn;simp only [Instr.loadAt,Instr.sureAddr,cY,fZ,Option.bind_some,loadVar,yX,hd,Option.map_some,hb,if_true,qC,hn,O'];obtain ⟨cs,iT,hv⟩:=Option.map_eq_some_iff.1 hv;subst hv;simp [iT]
    ·cases hv
   | false=>
    simp only [hb,Bool.false_eq_true,if_false,R.ev] at hv;obtain ⟨u,hu,hv⟩:=Option.bind_eq_some_iff.1 hv;rw [he _ _ hu];unfold y6 at hv
    split at hv
    ·rename_i a;simp only [Instr.loadAt,Instr.sureAddr,cY,fZ,Option.bind_some,loadVar,yX,hd,Option.map_some,hb,Bool.false_eq_true,if_false,Hz,hv]
    ·cases hv
  ·cases h
 ·
  rename_i op t x y yt;rw [mO,cY];have Ph:∀ {v},(R.bi op (bf x) (bf y)).ev w ρ=some v→((ro P w (eqGuard op t x y (e x) (e y))).bind fun _=>ro P w (binOp op t (e x) (e y)))=some v:=by
   intro v hv;simp only [R.ev] at hv;obtain ⟨a,ha,hv⟩:=Option.bind_eq_some_iff.1 hv;obtain ⟨b,hb,hv⟩:=Option.bind_eq_some_iff.1 hv;rw [he _ _ ha,he _ _ hb,Yv hv,Option.bind_some,Yu hv]
  split at h
  ·simp only [Option.some.injEq] at h;subst h;rw [Ph hv];rfl
  ·simp only [Option.some.injEq] at h;subst h;rw [Ph hv];rfl
  ·rename_i d HW DZ hd
   split at h
   ·rename_i k hk
    split at h
    ·cases h
    ·rename_i hg;simp only [Option.some.injEq] at h;subst h;simp only [R.ev] at hv;obtain ⟨a,ha,hv⟩:=Option.bind_eq_some_iff.1 hv;obtain ⟨b,hb,hv⟩:=Option.bind_eq_some_iff.1 hv;obtain ⟨r,hr,hv⟩:=Option.map_eq_some_iff.1 hv;subst hv;rw [he _ _ ha,he _ _ hb,Pc hr,Option.bind_some,(Pd hr t).1,cY,Pb hd hk hr];simp
   ·rename_i k hk
    split at h
    ·cases h
    ·rename_i hg;simp only [Option.some.injEq] at h;subst h;simp only [R.ev] at hv;obtain ⟨a,ha,hv⟩:=Option.bind_eq_some_iff.1 hv;obtain ⟨b,hb,hv⟩:=Option.bind_eq_some_iff.1 hv;obtain ⟨r,hr,hv⟩:=Option.map_eq_some_iff.1 hv;subst hv;rw [he _ _ ha,he _ _ hb,Pc hr,Option.bind_some,(Pd hr t).2,cY,Pb hd hk hr];simp
   ·obtain ⟨l,hl,h1⟩:=Option.map_eq_some_iff.1 h;subst h1;simp only [R.ev] at hv;obtain ⟨a,ha,hv⟩:=Option.bind_eq_some_iff.1 hv;obtain ⟨b,hb,hv⟩:=Option.bind_eq_some_iff.1 hv;rw [he _ _ ha,he _ _ hb,Pf hl hv .eql rfl x y];rfl
   ·obtain ⟨l,hl,h1⟩:=Option.map_eq_some_iff.1 h;subst h1;simp only [R.ev] at hv;obtain ⟨a,ha,hv⟩:=Option.bind_eq_some_iff.1 hv;obtain ⟨b,hb,hv⟩:=Option.bind_eq_some_iff.1 hv;rw [he _ _ ha,he _ _ hb,Pf hl hv .neq rfl x y];rfl
   ·cases h
  ·cases h
 ·
  simp only [Option.some.injEq] at h;subst h;simp only [R.ev] at hv;obtain ⟨u,hu,hv⟩:=Option.bind_eq_some_iff.1 hv;rw [mO,he _ _ hu];unfold HE at hv
  split at hv<;>first | (simp only [Option.some.injEq] at hv;subst hv;rfl) | cases hv
 ·
  simp only [Option.some.injEq] at h;subst h;simp only [R.ev] at hv;obtain ⟨u,hu,hv⟩:=Option.bind_eq_some_iff.1 hv;rw [mO,he _ _ hu];unfold HF at hv
  split at hv<;>first | (simp only [Option.some.injEq] at hv;subst hv;rfl) | cases hv
 ·
  rename_i s d x
  split at h
  ·rename_i ks kd hs hd;simp only [Option.some.injEq] at h;subst h;simp only [R.ev] at hv;obtain ⟨u,hu,hv⟩:=Option.bind_eq_some_iff.1 hv;rw [mO,he _ _ hu];unfold HG at hv
   split at hv
   ·simp only [Option.some.injEq] at hv;subst hv;simp only [convert,cY,iy,hs,hd,Option.bind_some];rfl
   ·cases hv
  ·cases h
 ·
  rename_i args argTypes;have key:∀ t x,argTypes[0]? = some t→args.toList=[x]→∀ (q:Value) (n:Value),e x=q→ro P w (Builtin.len_ argTypes ty #[q])=some n →
      ro P w (do let d ← resolve e { callee:=Callee.builtin Builtin.len,args:=args,argTypes:=argTypes} ty;invoke d.target d.args)=some (.value n):=by
   intro t x ht U q n hq hn;have dJ:args = #[x]:=by cases args;simp_all
   subst dJ;simp only [resolve,cY,fZ,Option.bind_some,invoke,builtin,List.map_toArray,List.map_cons,List.map_nil,hq,hn]
  split at h
  ·rename_i t x ht U
   split at h
   ·rename_i e' hu;simp only [Option.some.injEq] at h;subst h;simp only [R.ev] at hv;obtain ⟨u,xj,hv⟩:=Option.bind_eq_some_iff.1 hv;refine key t x ht U u v (he _ _ xj) ?_;unfold HH at hv
    split at hv
    ·simp only [Option.some.injEq] at hv;subst hv;simp [Builtin.len_,ht,cY,iy,hu,goInt]
    ·cases hv
   ·rename_i hu;simp only [Option.some.injEq] at h;subst h;simp only [R.ev] at hv;obtain ⟨u,xj,hv⟩:=Option.bind_eq_some_iff.1 hv;refine key t x ht U u v (he _ _ xj) ?_;unfold HI at hv
    split at hv
    ·simp only [Option.some.injEq] at hv;subst hv;simp [Builtin.len_,ht,cY,iy,hu,goInt]
    ·cases hv
   ·rename_i k' e' hu;simp only [Option.some.injEq] at h;subst h;simp only [R.ev] at hv;obtain ⟨u,xj,hv⟩:=Option.bind_eq_some_iff.1 hv;refine key t x ht U u v (he _ _ xj) ?_;unfold DT at hv
    split at hv
    ·simp only [Option.some.injEq] at hv;subst hv;simp [Builtin.len_,ht,cY,iy,hu,goInt]
    ·rename_i r
     split at hv
     ·rename_i es ck hr;simp only [Option.some.injEq] at hv;subst hv;simp [Builtin.len_,ht,cY,iy,hu,goInt,getObj,ro,hr]
     ·cases hv
    ·cases hv
   ·cases h
  ·cases h
 ·
  rename_i args argTypes
  split at h
  ·rename_i t x ht U;have dJ:args = #[x]:=by cases args;simp_all
   subst dJ
   split at h
   ·rename_i e' hu;simp only [Option.some.injEq] at h;subst h;simp only [R.ev] at hv;obtain ⟨u,xj,hv⟩:=Option.bind_eq_some_iff.1 hv;have hq:=he _ _ xj;unfold HJ at hv
    split at hv
    ·simp only [Option.some.injEq] at hv;subst hv;simp [resolve,cY,invoke,builtin,hq,Builtin.cap_,ht,iy,hu,goInt]
    ·cases hv
   ·cases h
  ·cases h
 ·
  rename_i args argTypes
  split at h
  ·rename_i x y U;have dJ:args = #[x,y]:=by cases args;simp_all
   subst dJ;simp only [Option.some.injEq] at h;subst h;simp only [R.ev] at hv;obtain ⟨a,ha,hv⟩:=Option.bind_eq_some_iff.1 hv;obtain ⟨b,hb,hv⟩:=Option.bind_eq_some_iff.1 hv;have ea:=he _ _ ha;have eb:=he _ _ hb;unfold DU at hv
   split at hv
   ·simp only [Option.some.injEq] at hv;subst hv;simp [resolve,cY,invoke,builtin,ea,eb,Builtin.min_,List.foldlM,Builtin.min2]
   ·cases hv
  ·cases h
 ·
  rename_i args argTypes
  split at h
  ·rename_i x y U;have dJ:args = #[x,y]:=by cases args;simp_all
   subst dJ;simp only [Option.some.injEq] at h;subst h;simp only [R.ev] at hv;obtain ⟨a,ha,hv⟩:=Option.bind_eq_some_iff.1 hv;obtain ⟨b,hb,hv⟩:=Option.bind_eq_some_iff.1 hv;have ea:=he _ _ ha;have eb:=he _ _ hb;unfold DU at hv
   split at hv
   ·simp only [Option.some.injEq] at hv;subst hv;simp [resolve,cY,invoke,builtin,ea,eb,Builtin.max_,List.foldlM,Builtin.max2]
   ·cases hv
  ·cases h
 ·
  rename_i t x i
  split at h
  ·rename_i el hu;obtain ⟨n,hn,h⟩:=Option.map_eq_some_iff.1 h;subst h;simp only [R.ev] at hv;obtain ⟨a,ha,hv⟩:=Option.bind_eq_some_iff.1 hv;obtain ⟨b,hb,hv⟩:=Option.bind_eq_some_iff.1 hv;rw [mO,he _ _ ha,he _ _ hb];unfold HK at hv
   split at hv
   ·rename_i ad len c k j
    split at hv
    ·rename_i hj;simp only [Option.some.injEq] at hv;subst hv;unfold gu at hn;simp only [Instr.indexAt,asIntOf,cY,fZ,Option.bind_some,iy,hu,hj,if_true,qC,hn,and_self,Option.map_some]
    ·cases hv
   ·cases hv
  ·cases h
 ·
  rename_i t x i
  split at h
  ·rename_i hu;simp only [Option.some.injEq] at h;subst h;simp only [R.ev] at hv;obtain ⟨a,ha,hv⟩:=Option.bind_eq_some_iff.1 hv;obtain ⟨b,hb,hv⟩:=Option.bind_eq_some_iff.1 hv;rw [mO,he _ _ ha,he _ _ hb];unfold HL at hv
   split at hv
   ·rename_i s k j
    split at hv
    ·rename_i hj;obtain ⟨c,hc,hv⟩:=Option.map_eq_some_iff.1 hv;subst hv;simp only [Instr.index,asIntOf,cY,fZ,Option.bind_some,iy,hu,hj,if_true,hc,Option.map_some]
    ·cases hv
   ·cases hv
  ·cases h
 ·
  rename_i t x f
  split at h
  ·rename_i fs qG
   split at h
   ·rename_i fd HV
    split at h
    ·rename_i d n hd hn;simp only [Option.some.injEq] at h;subst h;rw [mO];have key:∀ cs,e x = .agg cs→(if qD d then some (.agg (cs.extract fd.offset (fd.offset+n))) else cs[fd.offset]?)=some v →
         (ro P w (Instr.field t (e x) f)).map Next.value=some (.value v):=by
      intro cs U hc;simp only [Instr.field,cY,iy,qG,Option.bind_some,HV,U,asAgg,fZ,Yw hd hn hc,Option.map_some]
     cases hb:qD d with
     | true=>
      simp only [hb,if_true,R.ev] at hv;obtain ⟨u,hu,hv⟩:=Option.bind_eq_some_iff.1 hv;unfold HN at hv
      split at hv
      ·rename_i cs;exact key cs (he _ _ hu) (by simpa [hb] using hv)
      ·cases hv
     | false=>
      simp only [hb,Bool.false_eq_true,if_false,R.ev] at hv;obtain ⟨u,hu,hv⟩:=Option.bind_eq_some_iff.1 hv;unfold HM at hv
      split at hv
      ·rename_i cs;exact key cs (he _ _ hu) (by simpa [hb] using hv)
      ·cases hv
    ·cases h
   ·cases h
  ·cases h
 ·
  rename_i t x lo hi mx
  split at h
  ·rename_i el hu
   split at h
   ·rename_i n hn
    split at h
    ·cases h
    ·rename_i Bd;simp only [Option.some.injEq] at h;subst h;simp only [R.ev] at hv;obtain ⟨a,ha,hv⟩:=Option.bind_eq_some_iff.1 hv;obtain ⟨l,hl,hv⟩:=Option.bind_eq_some_iff.1 hv;obtain ⟨hh,HX,hv⟩:=Option.bind_eq_some_iff.1 hv;obtain ⟨m,hm,hv⟩:=Option.bind_eq_some_iff.1 hv;have kg:=Bc he lo l hl;have D3:=Bc he hi hh HX;have gw:=Bc he mx m hm;rw [mO,he _ _ ha,kg,D3,gw];unfold HO at hv
     split at hv
     ·rename_i ad len c
      split at hv
      ·cases hv
      ·rename_i m1 e1
       split at hv
       ·cases hv
       ·rename_i h1 e2
        split at hv
        ·cases hv
        ·rename_i l1 e3;simp only [Option.some.injEq] at hv;subst hv;have D4:m.isSome=true→hh.isSome=true:=by
          subst gw;subst D3;intro hms;cases hi<;>cases mx<;>simp_all
         unfold gu at hn;simp only [Instr.sliceAt,Instr.slice,cY,iy,hu,Option.bind_some,Pe e1 e2 e3 D4,qC,hn,fZ,Option.map_some]
     ·cases hv
   ·cases h
  ·rename_i hu
   split at h
   ·cases h
   ·rename_i Bd;simp only [Option.some.injEq] at h;subst h;simp only [R.ev] at hv;obtain ⟨a,ha,hv⟩:=Option.bind_eq_some_iff.1 hv;obtain ⟨l,hl,hv⟩:=Option.bind_eq_some_iff.1 hv;obtain ⟨hh,HX,hv⟩:=Option.bind_eq_some_iff.1 hv;have kg:=Bc he lo l hl;have D3:=Bc he hi hh HX;have Be:mx=none:=by cases mx<;>simp_all
    subst Be;rw [mO,he _ _ ha,kg,D3];unfold HP at hv
    split at hv
    ·split at hv
     ·cases hv
     ·rename_i h1 e2
      split at hv
      ·cases hv
      ·rename_i l1 e3;simp only [Option.some.injEq] at hv;subst hv;simp only [Instr.sliceAt,Instr.slice,cY,iy,hu,Option.bind_some,Option.map_none,Option.isSome_none,Bool.false_eq_true,if_false];rw [Pe rfl e2 e3 (by simp)];simp
    ·cases hv
  ·cases h
 ·
  rename_i t parts
  split at h
  ·rename_i fs z qG hz
   split at h
   ·rename_i cA;obtain ⟨ps,jg,h⟩:=Option.map_eq_some_iff.1 h;subst h;simp only [R.ev] at hv;obtain ⟨vs,HY,hv⟩:=Option.bind_eq_some_iff.1 hv;obtain ⟨out,rS,hv⟩:=Option.map_eq_some_iff.1 hv;subst hv;obtain ⟨l,hl,gv⟩:=Yy (P:=P) (w:=w) fs.toList cA;rw [mO];have Bf:ro P w (fs.mapM fun f=>do pure (f.offset,← sizeOf f.type):Sem (Array (Nat×Nat)))=some l.toArray:=by
     rw [Array.mapM_eq_mapM_toList];simp only [DR,hl,Option.map_some]
    have hf:=Yx (P:=P) (fs:=fs) (pl:=fun i=>l.toArray[i]?) (fun i f n h1 h2=>by simpa using gv i f n (by simpa using h1) h2) he parts.toList ps vs z.cells out jg HY rS;simp only [Instr.build,cY,HA,hz,Option.bind_some,iy,qG,Bf];have e2:(parts.map fun x=>(x.1,e x.2)).toList=parts.toList.map fun p=>(p.1,e p.2):=by simp
    simp only [e2,hf,fZ,Option.map_some]
   ·cases h
  ·cases h
 ·
  simp only [Option.some.injEq] at h;subst h;simp only [R.ev] at hv;obtain ⟨c,hc,hv⟩:=Option.bind_eq_some_iff.1 hv;obtain ⟨a,ha,hv⟩:=Option.bind_eq_some_iff.1 hv;obtain ⟨b,hb,hv⟩:=Option.bind_eq_some_iff.1 hv;unfold HQ at hv
  split at hv
  ·simp only [Option.some.injEq] at hv;subst hv;simp only [he _ _ hc,he _ _ ha,he _ _ hb,asBool,cY,fZ,Option.bind_some]
  ·cases hv
 ·
  simp only [Option.some.injEq] at h;subst h;simp only [R.ev] at hv;obtain ⟨u,hu,hv⟩:=Option.bind_eq_some_iff.1 hv;rw [mO,he _ _ hu];unfold HR at hv
  split at hv
  ·simp only [Instr.extract,hv,fZ,Option.map_some]
  ·cases hv
 ·
  rename_i t x
  split at h
  ·cases h
  ·rename_i d hd YD;simp only [Option.some.injEq] at h;subst h;simp only [R.ev] at hv;obtain ⟨u,hu,hv⟩:=Option.map_eq_some_iff.1 hv;subst hv;rw [mO,he _ _ hu];simp only [Instr.makeInterface,cY,iy,YD,Option.bind_some];cases d<;>first | rfl | (exact absurd rfl (hd _))
  ·cases h
 ·
  rename_i fn f c;simp only [Option.some.injEq] at h;subst h;simp only [R.ev] at hv;obtain ⟨fv,hf,hv⟩:=Option.bind_eq_some_iff.1 hv;obtain ⟨cv,hc,hv⟩:=Option.map_eq_some_iff.1 hv;subst hv;rw [mO];have h1:=HU he _ _ hf;have h2:=HU he _ _ hc;simp only [Instr.makeFunc,fZ,Option.map_some,← h1,← h2];cases f;cases c;simp
 ·cases h
end
end
section
open Go
inductive E where
 | st (n:Nat) (x v:O)
 | bx (t:Nat) (x:O)
 | al (t:Nat) (zero:Value)
 | bs (el len:Nat) (cells:Array Value) (parts:List (Nat×Nat×O))
 | ms (el sz bytes:Nat) (zero:Array Value) (len cap:O)
 | ap (el sz bytes:Nat) (zero:Array Value) (s x:O)
 | cp (sz:Nat) (d s:O)
 | call (f:Nat) (args:List O)
 | raw (o:Oper)
 deriving Inhabited
def sp (cs:Array Value) (o:Nat) (vs:List Value):Array Value:=(cs.toList.take o++vs++cs.toList.drop (o+vs.length)).toArray
def uX:Exit→Act→World→Prop:=fun _ _ _=>False
def Agree (ρ:Env) (a:Act):Prop:=∀ x u,(bf x).ev ρ=some u→a.eval x=u
def xk (P:Program) (o:Oper) (ρ:Env) (w:World) (K:Value→World→Prop):Prop:=
 ∀ a,Agree ρ a→o.wp P a w (fun a' w'=>∃ v,a'=a.put o.dst v∧K v w') uX
def Row (w:World) (a:Addr) (cs:Array Value) (T:TypeId):Prop:=a.spot=none∧w.heap[a.block]? = some (.cells cs T (0,0))
def iz (w:World) (a:Option Addr) (n:Nat) (vs:List Value):Prop:=vs.length=n∧∀ ad,a=some ad→∀ j v,vs[j]? = some v→w.cell? (ad.add j)=some v
def E.wp (P:Program) (w:World) (ρ:Env) (K:Value→World→Prop):E→Prop
 | .st n x y=>∃ a v cs T,x.ev ρ=some (.pointer (some a))∧y.ev ρ=some v∧v.cells.size=n∧Row w a cs T∧a.off+v.cells.toList.length≤cs.size∧(∀ u∈v.cells.toList,u.oneCell'=true) ∧
     K undef (w.setRow a.block (sp cs a.off v.cells.toList))
 | .bx t x=>∃ v,x.ev ρ=some v∧K (.pointer (some ⟨w.heap.size,0,none⟩)) (w.alloc (.cells v.cells t))
 | .al t z=>K (.pointer (some ⟨w.heap.size,0,none⟩)) (w.alloc (.cells z.cells t))
 | .bs el len cells parts=>∃ ps cs,kK ρ parts=some ps∧kJ cells ps=some cs∧K (.slice (some ⟨w.heap.size,0,none⟩) len len) (w.alloc (.cells cs el))
 | .ms el sz bytes zero l c=>∃ kl kc ln cn,l.ev ρ=some (.int kl ln)∧c.ev ρ=some (.int kc cn)∧0≤ln∧ln≤cn∧(bytes:Int)*cn≤281474976710656∧cn≤9223372036854775807 ∧
     K (.slice (some ⟨w.heap.size,0,none⟩) ln.toNat cn.toNat) (w.alloc (.cells (madeCells zero (cn.toNat*sz)) el))
 | .ap el sz bytes zero s x=>∃ sa n cap xa m c oL news,s.ev ρ=some (.slice sa n cap)∧x.ev ρ=some (.slice xa m c)∧(sa=none→n=0∧cap=0)∧(xa=none→m=0) ∧
     iz w sa (n*sz) oL∧iz w xa (m*sz) news∧(∀ u∈news,u.oneCell'=true)∧(n+m:Nat)*bytes≤140737488355328∧n+m≤9223372036854775807 ∧
     (n+m≤cap→sa=none→K (.slice none 0 0) w) ∧
     (n+m≤cap→∀ a,sa=some a→∃ cs T,Row w a cs T∧a.off+n*sz+news.length≤cs.size∧K (.slice sa (n+m) cap) (w.setRow a.block (sp cs (a.off+n*sz) news))) ∧
     (cap < n+m→∀ nc w1,n+m≤nc→w1=w.drew.alloc (.cells (oL.toArray++news.toArray++Builtin.zeroCells zero (nc - (n+m))) el)→K (.slice (some ⟨w.heap.size,0,none⟩) (n+m) nc) w1)
 | .cp sz d s=>∃ da dn dc sa sn sc news,d.ev ρ=some (.slice da dn dc)∧s.ev ρ=some (.slice sa sn sc)∧(sa=none→sn=0)∧iz w sa (Nat.min sn dn*sz) news∧(∀ u∈news,u.oneCell'=true) ∧
     (da=none→K (.int .i64 (Nat.min sn dn:Nat)) w) ∧
     (∀ a,da=some a→∃ cs T,Row w a cs T∧a.off+news.length≤cs.size∧K (.int .i64 (Nat.min sn dn:Nat)) (w.setRow a.block (sp cs a.off news)))
 | .call f args=>∃ vs,eP ρ args=some vs∧Calls P f vs.toArray w fun e w'=>∃ v,e = .returned v∧K v w'
 | .raw o=>xk P o ρ w K
theorem iA {P:Program} {o:Oper} {ρ:Env} {w:World} {K:Value→World→Prop} (h:∀ a,Agree ρ a→∃ v w',(execOp a.eval o).run P w = .ok (.value v) w'∧K v w'):xk P o ρ w K:=by
 intro a ha;obtain ⟨v,w',hr,hk⟩:=h a ha;unfold Oper.wp;rw [hr];exact ⟨v,rfl,hk⟩
theorem Bg {P:Program} {o:Oper} {ρ:Env} {w:World} {K:Value→World→Prop} (h:∀ a,Agree ρ a→∃ w',(execOp a.eval o).run P w = .ok .skip w'∧K undef w'):xk P o ρ w K:=by
 intro a ha;obtain ⟨w',hr,hk⟩:=h a ha;unfold Oper.wp;rw [hr];exact ⟨undef,rfl,hk⟩
theorem zb {P:Program} {o:Oper} {ρ:Env} {w:World} {K:Value→World→Prop} {r:R} {v:Value} (hr:jD P o.op=some r) (hv:r.ev w ρ=some v) (hk:K v w):xk P o ρ w K:=
 iA fun a ha=>⟨v,w,kI (Pg hr ha hv),hk⟩
theorem YE {P:Program} {o:Oper} {ρ:Env} {w:World} {K K':Value→World→Prop} (hk:∀ v w',K v w'→K' v w') (h:xk P o ρ w K):xk P o ρ w K':=
 fun a ha=>Oper.wp_mono (fun a' w' ⟨v,e,k⟩=>⟨v,e,hk _ _ k⟩) (h a ha)
def xl (P:Program) (o:Oper):E:=
 match o.op with
 | .store t x v=>match P.underlying t,gu P t with
  | some _,some n=>.st n (bf x) (bf v)
  | _,_=>.raw o
 | .box t x=>.bx t (bf x)
 | .alloc t=>match (P.info? t).bind (·.zero) with
  | some z=>.al t z
  | none=>.raw o
 | .buildSlice t len parts=>match P.underlying t with
  | some (.slice el)=>match gu P el,(P.info? el).bind (·.zero) with
   | some n,some z=>if len*n≤2 ^ 24&&0 < len*n then
       .bs el len ((Array.range (len*n)).map (z.cells[· % z.cells.size]!)) (parts.toList.map fun p=>(p.1*n,n,bf p.2)) else .raw o
   | _,_=>.raw o
  | _=>.raw o
 | .makeSlice t l c=>match P.underlying t with
  | some (.slice el)=>match P.info? el with
   | some i=>match i.zero with
    | some z=>.ms el i.size i.bytes z.cells (bf l) (bf c)
    | none=>.raw o
   | none=>.raw o
  | _=>.raw o
 | .call { callee:=.builtin .append,args,argTypes}=>match args.toList,argTypes.toList with
  | [s,x],[t,u]=>match P.underlying t with
   | some (.slice el)=>match P.info? el with
    | some i=>match i.zero with
     | some z=>if t=u&&z.cells.size=i.size&&0 < i.size then .ap el i.size i.bytes z.cells (bf s) (bf x) else .raw o
     | none=>.raw o
    | none=>.raw o
   | _=>.raw o
  | _,_=>.raw o
 | .call { callee:=.builtin .copy,args,argTypes}=>match args.toList,argTypes.toList with
  | [d,s],[t,u]=>match P.underlying t with
   | some (.slice el)=>match gu P el with
    | some n=>if t=u then .cp n (bf d) (bf s) else .raw o
    | none=>.raw o
   | _=>.raw o
  | _,_=>.raw o
 | .call { callee:=.value (.func f),args,..}=>match P.funcs[f]? with
  | some fn=>if fn.body.isSome && !(fn.name == "runtime.NumGoroutine") then .call f (args.toList.map bf) else .raw o
  | none=>.raw o
 | _=>.raw o
section
variable {P:Program} {w:World}
theorem YF {ρ:Env} {e:Operand→Value} (he:∀ x u,(bf x).ev ρ=some u→e x=u) (n:Nat) (pl:Nat→Option (Nat×Nat)) (bQ:∀ i,pl i=some (i*n,n)) :
   ∀ (parts:List (Nat×Operand)) (vs:List (Nat×Nat×Value)) (cells out:Array Value),kK ρ (parts.map fun p=>(p.1*n,n,bf p.2))=some vs→kJ cells vs=some out →
    Instr.fill pl cells (parts.map fun p=>(p.1,e p.2))=some out:=by
 intro parts
 induction parts with
 | nil=>
  intro vs cells out h1 h2;simp only [List.map_nil,kK,Option.some.injEq] at h1;subst h1
  simpa [kJ,Instr.fill] using h2
 | cons p parts ih=>
  intro vs cells out h1 h2;simp only [List.map_cons,kK] at h1
  split at h1
  ·rename_i v l hv hl;simp only [Option.some.injEq] at h1;subst h1;simp only [kJ] at h2
   split at h2
   ·cases h2
   ·rename_i hc;simp only [List.map_cons,Instr.fill,bQ,he _ v hv];rw [if_neg hc];exact ih l _ out hl h2
  ·cases h1
theorem Bh {size n len cap:Nat} {xa:Option Addr} {cs:List Value} (h:iz w xa (n*size) cs) (U:xa=none→n=0):(Builtin.firstCells size n (.slice xa len cap)).run P w = .ok cs.toArray w:=by
 cases xa with
 | none=>
  have:=U rfl;subst this;have hl:cs=[]:=List.eq_nil_of_length_eq_zero (by simpa using h.1);subst hl;simp [run_firstCells_none]
 | some ad=>exact run_firstCells_some w size n ad len cap cs h.1 (h.2 ad rfl)
theorem YG (t ty e:TypeId) (i:TypeInfo) (z:Value) (ht:P.underlying t=some (.slice e)) (hi:P.info? e=some i) (hz:i.zero=some z) (Pj:z.cells.size=i.size)
   {sa:Option Addr} {n cap:Nat} {xa:Option Addr} {m c:Nat} {oL news:List Value}
   (lu:sa=none→n=0∧cap=0) (jN:xa=none→m=0) (ho:iz w sa (n*i.size) oL) (hn:iz w xa (m*i.size) news) (h1:∀ u∈news,u.oneCell'=true)
   (hb:(n+m)*i.bytes≤140737488355328) (tq:n+m≤9223372036854775807) {K:Value→World→Prop}
   (k0:n+m≤cap→sa=none→K (.slice none 0 0) w)
   (k1:n+m≤cap→∀ a,sa=some a→∃ cs T,Row w a cs T∧a.off+n*i.size+news.length≤cs.size∧K (.slice sa (n+m) cap) (w.setRow a.block (sp cs (a.off+n*i.size) news)))
   (k2:cap < n+m→∀ nc w1,n+m≤nc→w1=w.drew.alloc (.cells (oL.toArray++news.toArray++Builtin.zeroCells z.cells (nc - (n+m))) e)→K (.slice (some ⟨w.heap.size,0,none⟩) (n+m) nc) w1) :
   ∃ v' w',(Builtin.append_ #[t,t] ty #[.slice sa n cap,.slice xa m c]).run P w = .ok v' w'∧K v' w':=by
 by_cases eE:n+m≤cap
 ·cases hs:sa with
  | none=>
   obtain ⟨rfl,rfl⟩:=lu hs;have hm:m=0:=by omega
   subst hm;have lY:news=[]:=List.eq_nil_of_length_eq_zero (by simpa using hn.1);subst lY;refine ⟨_,_,?_,k0 eE hs⟩;have hf:=Bh (P:=P) (len:=0) (cap:=c) hn (fun _=>rfl);have jO:(Builtin.firstCells i.size 0 (.slice xa 0 c)).run P w = .ok #[] w:=by simpa using hf
   simp [Builtin.append_,run_underlying ht,sizeOf,typeInfo,hi,Builtin.lenOf,jO]
  | some a=>
   obtain ⟨cs,T,⟨gY,gg⟩,lZ,hk⟩:=k1 eE a hs;subst hs;obtain ⟨b,off,spot⟩:=a;simp only at gY;subst gY;refine ⟨_,_,?_,hk⟩;have hf:=Bh (P:=P) (len:=m) (cap:=c) hn jN;have cg:=run_storeCells_at P b (off+n*i.size) T news 0 cs w gg (by simpa using lZ) h1;simp only [Nat.add_zero] at cg;simp [Builtin.append_,run_underlying ht,sizeOf,typeInfo,hi,Builtin.lenOf,eE,hf,Addr.add_lit,cg,sp]
 ·have ah:cap < n+m:=by omega
  refine ⟨_,_,?_,k2 ah _ _ (grownCap_ge w (n+m) cap e) rfl⟩;have YH:iz w.drew xa (m*i.size) news:=⟨hn.1,fun ad h j v hv=>by simpa using hn.2 ad h j v hv⟩;have mP:iz w.drew sa (n*i.size) oL:=⟨ho.1,fun ad h j v hv=>by simpa using ho.2 ad h j v hv⟩;have hf:=Bh (P:=P) (len:=m) (cap:=c) YH jN;have YI:=Bh (P:=P) (len:=n) (cap:=cap) mP (fun h=>(lu h).1);have YJ:¬ (281474976710656 < Builtin.nextslicecap (n+m) cap*i.bytes):=by have:=growslice_fits ah hb;omega
  have YK:¬ (9223372036854775807 < ((n:Int)+(m:Int))):=by omega
  simp [Builtin.append_,run_underlying ht,sizeOf,typeInfo,zeroValue,hi,hz,Builtin.lenOf,eE,YK,YJ,Question.forced,hf,YI,newRow,grownCap]
  congr 2
  apply Array.ext';simp [List.append_assoc]
theorem Bi {o:Oper} {ρ:Env} {K:Value→World→Prop} (h:(xl P o).wp P w ρ K):xk P o ρ w K:=by
 obtain ⟨dst,op,ty,pos,after,guard⟩:=o;unfold xl at h;simp only at h
 split at h
 ·
  rename_i t x v
  split at h
  ·rename_i d n hd hn;obtain ⟨a,u,cs,T,U,hv,dy,⟨gY,gg⟩,lZ,h1,hk⟩:=h;refine Bg fun act ha=>⟨_,?_,hk⟩
   have e1:=ha _ _ U;have e2:=ha _ _ hv;obtain ⟨b,off,spot⟩:=a;simp only at gY;subst gY;obtain ⟨i,hi,cK⟩:=Option.map_eq_some_iff.1 hn;have cg:=run_storeCells_at P b off T u.cells.toList 0 cs w gg (by simpa using lZ) h1;simp only [Nat.add_zero] at cg;have YL:¬ (u.cells.size≠i.size):=by rw [dy,cK];simp
   simp [execOp,e1,e2,Instr.storeAt,Instr.sureAddr,storeVar,sizeOf,typeInfo,hi,YL,cg,sp]
  ·exact h
 ·
  obtain ⟨v,hv,hk⟩:=h;refine iA fun act ha=>⟨_,_,?_,hk⟩
  have e2:=ha _ _ hv;simp [execOp,e2,Instr.box,newVar,newRow]
 ·
  rename_i t
  split at h
  ·rename_i z hz;refine iA fun act ha=>⟨_,_,?_,h⟩
   obtain ⟨i,hi,hz⟩:=Option.bind_eq_some_iff.1 hz;simp [execOp,Instr.alloc,newVar,newRow,zeroValue,typeInfo,hi,hz]
  ·exact h
 ·
  rename_i t len parts
  split at h
  ·rename_i el hu
   split at h
   ·rename_i n z hn hz
    split at h
    ·rename_i hc;simp only [Bool.and_eq_true,decide_eq_true_eq] at hc;obtain ⟨ps,cs,jg,iT,hk⟩:=h;refine iA fun act ha=>⟨_,_,?_,hk⟩
     obtain ⟨i,hi,cK⟩:=Option.map_eq_some_iff.1 hn;rw [hi] at hz;have tu:i.zero=some z:=by simpa using hz
     have hf:=YF ha n (fun i=>some (i*n,n)) (fun _=>rfl) parts.toList ps _ cs jg iT;have h1:¬ (len*n > 2 ^ 24):=by have:=hc.1;omega
     have h2:¬ (len*n=0):=by have:=hc.2;omega
     have hp:(parts.map fun x=>(x.1,act.eval x.2)).toList=parts.toList.map fun p=>(p.1,act.eval p.2):=by simp
     subst cK;have g1:ro P w (underlying t)=some (.slice el):=by rw [iy,hu]
     have g2:ro P w (sizeOf el)=some i.size:=by rw [qC,hi];rfl
     have g3:ro P w (zeroValue el)=some z:=by rw [HA,hi];exact tu
     simp only [execOp,Instr.buildSlice,Sem.run_bind,kI g1,kI g2,kI g3,Result.andThen_ok,Sem.run_pure,h1,h2,if_false,hp,hf];simp [newRow]
    ·exact h
   ·exact h
  ·exact h
 ·
  rename_i t l c
  split at h
  ·rename_i el hu
   split at h
   ·rename_i i hi
    split at h
    ·rename_i z hz;obtain ⟨kl,kc,ln,cn,hl,hc,h0,hle,hb,tq,hk⟩:=h;refine iA fun act ha=>⟨_,_,?_,hk⟩
     have hm:=run_make (P:=P) w t el i z hu hi hz kl kc ln cn h0 hle hb tq;simp only [execOp,ha _ _ hl,ha _ _ hc,Sem.run_bind,hm,Result.andThen_ok,Sem.run_pure]
    ·exact h
   ·exact h
  ·exact h
 ·
  rename_i args argTypes
  split at h
  ·rename_i s x t u dJ YM;have e1:args = #[s,x]:=by cases args;simp_all
   have e2:argTypes = #[t,u]:=by cases argTypes;simp_all
   subst e1 e2
   split at h
   ·rename_i el hu
    split at h
    ·rename_i i hi
     split at h
     ·rename_i z hz
      split at h
      ·rename_i hc;simp only [Bool.and_eq_true,decide_eq_true_eq] at hc;obtain ⟨⟨rfl,Pj⟩,gF⟩:=hc;obtain ⟨sa,n,cap,xa,m,c,oL,news,hs,U,lu,jN,ho,hn,h1,hb,tq,k0,k1,k2⟩:=h;refine iA fun act ha=>?_
       obtain ⟨v',w',hr,hk⟩:=YG (P:=P) (w:=w) t ty el i z hu hi hz Pj (c:=c) lu jN ho hn h1 hb tq (K:=K) k0 k1 k2;refine ⟨v',w',?_,hk⟩;simp only [execOp,resolve,List.map_toArray,List.map_cons,List.map_nil,ha _ _ hs,ha _ _ U,Sem.run_bind,Sem.run_pure,Result.andThen_ok,invoke,builtin,hr]
      ·exact h
     ·exact h
    ·exact h
   ·exact h
  ·exact h
 ·
  rename_i args argTypes
  split at h
  ·rename_i d s t u dJ YM;have e1:args = #[d,s]:=by cases args;simp_all
   have e2:argTypes = #[t,u]:=by cases argTypes;simp_all
   subst e1 e2
   split at h
   ·rename_i el hu
    split at h
    ·rename_i n hn
     split at h
     ·rename_i YN;subst YN;obtain ⟨da,dn,dc,sa,sn,sc,news,hd,hs,lu,hr,h1,k0,k1⟩:=h;refine iA fun act ha=>?_
      obtain ⟨i,hi,cK⟩:=Option.map_eq_some_iff.1 hn;subst cK;have hf:=Bh (P:=P) (len:=sn) (cap:=sc) hr (fun h0=>by rw [lu h0];simp [Nat.min]);cases da with
      | none=>
       refine ⟨_,_,?_,k0 rfl⟩;simp [execOp,resolve,ha _ _ hd,ha _ _ hs,invoke,builtin,Builtin.copy_,run_underlying hu,sizeOf,typeInfo,hi,Builtin.lenOf,hf,goInt]
      | some a=>
       obtain ⟨cs,T,⟨gY,gg⟩,lZ,hk⟩:=k1 a rfl;obtain ⟨b,off,spot⟩:=a;simp only at gY;subst gY;refine ⟨_,_,?_,hk⟩;have cg:=run_storeCells_at P b off T news 0 cs w gg (by simpa using lZ) h1;simp only [Nat.add_zero] at cg;simp [execOp,resolve,ha _ _ hd,ha _ _ hs,invoke,builtin,Builtin.copy_,run_underlying hu,sizeOf,typeInfo,hi,Builtin.lenOf,hf,goInt,cg,sp]
     ·exact h
    ·exact h
   ·exact h
  ·exact h
 ·
  rename_i f args argTypes
  split at h
  ·rename_i fn nT
   split at h
   ·rename_i hc;simp only [Bool.and_eq_true,Bool.not_eq_true'] at hc;obtain ⟨vs,HY,Bj⟩:=h;intro act ha;have dJ:=HU ha args.toList vs HY;have tv:fn.body.isNone=false:=by cases hb:fn.body<;>simp_all
    have zc:args.map act.eval=vs.toArray:=by rw [← dJ];cases args;simp
    have hr:(execOp act.eval ⟨dst,.call { callee:=.value (.func f),args:=args,argTypes:=argTypes},ty,pos,after,guard⟩).run P w = .ok (.enter f vs.toArray) w:=by
     have g1:ro P w program=some P:=rfl;simp only [execOp,resolve,Act.eval,Deferred.ofValue,Sem.run_bind,Sem.run_pure,Result.andThen_ok,invoke,callFunc,kI g1,nT,zc,Array.empty_append,Array.append_empty];rw [if_neg (by rw [hc.2];simp),if_neg (by rw [tv];simp)];rfl
    unfold Oper.wp;rw [hr];simp only [Oper.upon];refine Bj.mono ?_;rintro e w' ⟨v,rfl,hk⟩;exact ⟨v,rfl,hk⟩
   ·exact h
  ·exact h
 ·exact h
end
end
section
open Go
variable {dl:List Deferred}
structure Good (dl:List Deferred) (N:Nat) (ρ:Env) (a:Act):Prop where
 size:a.tmps.size=N
 defers:a.defers=dl
 get:∀ t v,ρ.get t=some v→a.tmps[t]? = some v
theorem Good.agree {N:Nat} {ρ:Env} {a:Act} (h:Good dl N ρ a):Agree ρ a:=by
 intro x u hu;cases x with
 | tmp t=>
  have:=h.get t u hu;simp [Act.eval,this]
 | const v=>simpa [bf,O.ev,Act.eval] using hu
 | global g=>simpa [bf,O.ev,Act.eval] using hu
 | func f=>simpa [bf,O.ev,Act.eval] using hu
theorem Good.put {N:Nat} {ρ:Env} {a:Act} (h:Good dl N ρ a) (d:Option Nat) (v:Value) (hd:∀ t,d=some t→t < N):Good dl N (ρ.put d v) (a.put d v):=by
 cases d with
 | none=>exact h
 | some d=>
  refine ⟨by simp [Act.put,h.size],h.defers,fun t u hu=>?_⟩;simp only [Env.put,Env.get] at hu;by_cases HZ:d=t
  ·subst HZ;simp only [if_true,Option.some.injEq] at hu;subst hu;have:=hd d rfl;simp [Act.put,h.size,this]
  ·rw [if_neg HZ] at hu;simp only [Act.put,Array.getElem?_setIfInBounds_ne HZ];exact h.get t u hu
theorem YO (ρ:Env):∀ (ts:List Nat) (t:Nat) (v:Value),(ρ.dV ts).get t=some v→ρ.get t=some v:=by
 intro ts
 induction ts with
 | nil=>intro t v h;simp [Env.dV,Env.get] at h
 | cons s ts ih=>
  intro t v h;simp only [Env.dV] at h
  split at h
  ·rename_i u hu;simp only [Env.get] at h
   split at h
   ·rename_i cg;subst cg;rw [← h];exact hu
   ·exact ih t v h
  ·exact ih t v h
theorem Good.dV {N:Nat} {ρ:Env} {a:Act} (h:Good dl N ρ a) (ts:List Nat):Good dl N (ρ.dV ts) a:=
 ⟨h.size,h.defers,fun t v hv=>h.get t v (YO ρ ts t v hv)⟩
theorem YP {P:Program} {o:Oper} {a:Act} {K:Act→World→Prop} {Q:Exit→Act→World→Prop} {r:Result Next} (h:o.upon P a K uX r):o.upon P a K Q r:=by
 cases r with
 | ok n w'=>
  cases n<;>simp only [Oper.upon] at h ⊢<;>first
   | exact h
   | exact Calls.mono h (fun e pK he=>by
       cases e with
       | returned v=>exact he
       | panicked c=>exact False.elim he
       | outgrown=>obtain ⟨_,_,hf⟩:=he;exact False.elim hf)
 | halt x w'=>cases x<;>simp only [Oper.upon] at h ⊢<;>exact False.elim h
theorem Pk {P:Program} {o:Oper} {a:Act} {w:World} {K:Act→World→Prop} {Q:Exit→Act→World→Prop} (h:o.wp P a w K uX):o.wp P a w K Q:=YP h
theorem E.mono {P:Program} {w:World} {ρ:Env} {K K':Value→World→Prop} (hk:∀ v w',K v w'→K' v w') (e:E) (h:e.wp P w ρ K):e.wp P w ρ K':=by
 cases e with
 | st n x y=>obtain ⟨a,v,cs,T,h1,h2,h3,h4,h5,h6,h7⟩:=h;exact ⟨a,v,cs,T,h1,h2,h3,h4,h5,h6,hk _ _ h7⟩
 | bx t x=>obtain ⟨v,h1,h2⟩:=h;exact ⟨v,h1,hk _ _ h2⟩
 | al t z=>exact hk _ _ h
 | bs el len cells parts=>obtain ⟨ps,cs,h1,h2,h3⟩:=h;exact ⟨ps,cs,h1,h2,hk _ _ h3⟩
 | ms el sz bytes zero l c=>obtain ⟨kl,kc,ln,cn,h1,h2,h3,h4,h5,h6,h7⟩:=h;exact ⟨kl,kc,ln,cn,h1,h2,h3,h4,h5,h6,hk _ _ h7⟩
 | ap el sz bytes zero s x=>
  obtain ⟨sa,n,cap,xa,m,c,oL,news,h1,h2,h3,h4,h5,h6,h7,h8,h9,k0,k1,k2⟩:=h
  exact ⟨sa,n,cap,xa,m,c,oL,news,h1,h2,h3,h4,h5,h6,h7,h8,h9,fun a b=>hk _ _ (k0 a b),
   fun a b hb=>let ⟨cs,T,r1,r2,r3⟩:=k1 a b hb;⟨cs,T,r1,r2,hk _ _ r3⟩,fun a nc w1 b c=>hk _ _ (k2 a nc w1 b c)⟩
 | cp sz d s=>
  obtain ⟨da,dn,dc,sa,sn,sc,news,h1,h2,h3,h4,h5,k0,k1⟩:=h;exact ⟨da,dn,dc,sa,sn,sc,news,h1,h2,h3,h4,h5,fun a=>hk _ _ (k0 a),fun a b=>let ⟨cs,T,r1,r2,r3⟩:=k1 a b;⟨cs,T,r1,r2,hk _ _ r3⟩⟩
 | call f args=>obtain ⟨vs,h1,h2⟩:=h;exact ⟨vs,h1,h2.mono fun e w' ⟨v,e1,e2⟩=>⟨v,e1,hk _ _ e2⟩⟩
 | raw o=>exact YE hk h
inductive S where
 | r (d:Option Nat) (r:R)
 | e (d:Option Nat) (e:E)
 | gr (s:Nat) (b:Bool) (d:Option Nat) (r:R)
 | ge (s:Nat) (b:Bool) (d:Option Nat) (e:E)
 deriving Inhabited
def iB:Value→Bool→Bool
 | .bool c,b=>c == b
 | _,_=>false
def wpS (P:Program):List S→Env→World→(Env→World→Prop)→Prop
 | [],ρ,w,K=>K ρ w
 | .r d r::l,ρ,w,K=>∃ v,r.ev w ρ=some v∧wpS P l (ρ.put d v) w K
 | .e d e::l,ρ,w,K=>e.wp P w ρ fun v w'=>wpS P l (ρ.put d v) w' K
 | .gr s b d r::l,ρ,w,K=>∃ c,ρ.get s=some c∧(iB c b=true→∃ v,r.ev w ρ=some v∧wpS P l (ρ.put d v) w K)∧(iB c b=false→wpS P l (ρ.put d undef) w K)
 | .ge s b d e::l,ρ,w,K=>∃ c,ρ.get s=some c∧(iB c b=true→e.wp P w ρ fun v w'=>wpS P l (ρ.put d v) w' K)∧(iB c b=false→wpS P l (ρ.put d undef) w K)
def H0 (N:Nat):Option Nat→Bool
 | none=>true
 | some d=>decide (d < N)
def pL (P:Program) (N:Nat) (ops:Array Oper) (o:Oper):Option S:=
 if H0 N o.dst then
  match o.guard with
  | none=>match jD P o.op with
   | some r=>some (.r o.dst r)
   | none=>some (.e o.dst (xl P o))
  | some (j,want)=>match (ops[j]?).bind (·.dst) with
   | some s=>match jD P o.op with
    | some r=>some (.gr s want o.dst r)
    | none=>some (.ge s want o.dst (xl P o))
   | none=>none
 else none
def uY (P:Program) (N:Nat) (ops:Array Oper):List Oper→Option (List S)
 | []=>some []
 | o::l=>match pL P N ops o,uY P N ops l with
  | some s,some t=>some (s::t)
  | _,_=>none
section
variable {P:Program} {N:Nat} {ops:Array Oper} {ρ:Env} {a:Act} {w:World}
theorem zd {d:Option Nat} (h:H0 N d=true):∀ t,d=some t→t < N:=by
 intro t ht;subst ht;simpa [H0] using h
theorem ze {o:Oper} {j s:Nat} {want:Bool} {c:Value} (hg:o.guard=some (j,want)) (hs:(ops[j]?).bind (·.dst)=some s) (hG:Good dl N ρ a) (hc:ρ.get s=some c) :
   Region.wanted o (yielded ops a.tmps)=iB c want:=by
 have h1:=hG.get s _ hc;simp only [Region.wanted,hg,yielded,hs,Option.bind_some,h1];cases c<;>first | rfl | (rename_i b;cases b<;>cases want<;>rfl)
def l0 (P:Program) (ops:Array Oper) (G:Act→World→Prop):List Oper→Act→World→Prop
 | [],a,w=>G a w
 | o::l,a,w=>if Region.wanted o (yielded ops a.tmps) then o.wp P a w (l0 P ops G l) uX else l0 P ops G l (a.put o.dst undef) w
theorem D5 {G:Act→World→Prop} {Q:Exit→Act→World→Prop} (hQ:∀ a w,G a w→Q .normal a w):∀ (l:List Oper) (a:Act) (w:World),l0 P ops G l a w→wpList P ops Q l a w
 | [],a,w,h=>hQ a w h
 | o::l,a,w,h=>by
  unfold l0 at h;unfold wpList
  split
  ·rename_i hw;rw [if_pos hw] at h;exact .inl (Pk (Oper.wp_mono (fun a w hh=>D5 hQ l a w hh) h))
  ·rename_i hw;rw [if_neg hw] at h;exact D5 hQ l _ _ h
theorem Pm {G:Act→World→Prop}:∀ (l:List Oper) (st:List S) (ρ:Env) (a:Act) (w:World) (K:Env→World→Prop),uY P N ops l=some st→wpS P st ρ w K→Good dl N ρ a →
   (∀ bz a' w',Good dl N bz a'→K bz w'→G a' w')→l0 P ops G l a w:=by
 intro l
 induction l with
 | nil=>
  intro st ρ a w K h1 h2 h3 h4;simp only [uY,Option.some.injEq] at h1;subst h1;exact h4 _ _ _ h3 h2
 | cons o l ih=>
  intro st ρ a w K h1 h2 h3 h4;simp only [uY] at h1
  split at h1
  ·rename_i s t hs ht;simp only [Option.some.injEq] at h1;subst h1;unfold pL at hs
   split at hs
   ·rename_i hd;have ci:=zd hd
    split at hs
    ·rename_i hg;have hw:Region.wanted o (yielded ops a.tmps)=true:=by simp [Region.wanted,hg]
     unfold l0;rw [if_pos hw]
     split at hs
     ·rename_i r hr;simp only [Option.some.injEq] at hs;subst hs;obtain ⟨v,hv,hk⟩:=h2;refine Oper.wp_mono ?_ (zb (K:=fun v' w'=>v'=v∧w'=w) hr hv ⟨rfl,rfl⟩ a h3.agree);rintro a' w' ⟨v',rfl,rfl,rfl⟩;exact ih t _ _ _ K ht hk (h3.put _ _ ci) h4
     ·simp only [Option.some.injEq] at hs;subst hs;refine Oper.wp_mono ?_ (Bi h2 a h3.agree);rintro a' w' ⟨v',rfl,hk⟩;exact ih t _ _ _ K ht hk (h3.put _ _ ci) h4
    ·rename_i j want hg
     split at hs
     ·rename_i s' fG
      split at hs
      ·rename_i r hr;simp only [Option.some.injEq] at hs;subst hs;obtain ⟨c,hc,hy,hn⟩:=h2;have hw:=ze hg fG h3 hc;unfold l0;by_cases iU:iB c want=true
       ·rw [if_pos (by rw [hw,iU])];obtain ⟨v,hv,hk⟩:=hy iU;refine Oper.wp_mono ?_ (zb (K:=fun v' w'=>v'=v∧w'=w) hr hv ⟨rfl,rfl⟩ a h3.agree);rintro a' w' ⟨v',rfl,rfl,rfl⟩;exact ih t _ _ _ K ht hk (h3.put _ _ ci) h4
       ·rw [if_neg (by rw [hw];exact iU)];exact ih t _ _ _ K ht (hn (by simpa using iU)) (h3.put _ _ ci) h4
      ·simp only [Option.some.injEq] at hs;subst hs;obtain ⟨c,hc,hy,hn⟩:=h2;have hw:=ze hg fG h3 hc;unfold l0;by_cases iU:iB c want=true
       ·rw [if_pos (by rw [hw,iU])];refine Oper.wp_mono ?_ (Bi (hy iU) a h3.agree);rintro a' w' ⟨v',rfl,hk⟩;exact ih t _ _ _ K ht hk (h3.put _ _ ci) h4
       ·rw [if_neg (by rw [hw];exact iU)];exact ih t _ _ _ K ht (hn (by simpa using iU)) (h3.put _ _ ci) h4
     ·cases hs
   ·cases hs
  ·cases h1
def R.Pn:R→Bool
 | .l1 _=>true
 | .ln _ _=>true
 | .tj _=>true
 | _=>false
def R.iC (ρ:Env):R→Option Nat
 | .l1 x=>match x.ev ρ with | some (.pointer (some a))=>some a.block | _=>none
 | .ln _ x=>match x.ev ρ with | some (.pointer (some a))=>some a.block | _=>none
 | .tj x=>match x.ev ρ with | some (.map (some r))=>some r | _=>none
 | _=>none
theorem H2 {w w':World} {a:Addr} (h:w'.heap[a.block]? = w.heap[a.block]?):w'.cell? a=w.cell? a:=by simp [World.cell?,h]
theorem rT (a:Addr) (n:Nat):(a.add n).block=a.block:=by unfold Addr.add;split<;>rfl
theorem YQ {w w':World} {a:Addr} (h:w'.heap[a.block]? = w.heap[a.block]?):∀ (n i:Nat) (acc:Array Value),jC w' a i n acc=jC w a i n acc:=by
 intro n
 induction n with
 | zero=>intro i acc;rfl
 | succ n ih=>
  intro i acc;simp only [jC];have e1:w'.cell? (a.add i)=w.cell? (a.add i):=H2 (by rw [rT];exact h);rw [e1];cases w.cell? (a.add i) with
  | none=>rfl
  | some v=>exact ih _ _
theorem YR {w w':World} {r:R} {v:Value} (h:r.ev w ρ=some v) (hk:∀ b,r.iC ρ=some b→w'.heap[b]? = w.heap[b]?):r.ev w' ρ=some v:=by
 cases r with
 | l1 x=>
  simp only [R.ev] at h ⊢;obtain ⟨u,hu,hv⟩:=Option.bind_eq_some_iff.1 h;rw [hu,Option.bind_some];unfold y6 at *;cases u with
  | pointer ad=>
   cases ad with
   | none=>cases hv
   | some ad=>
    simp only at *;rw [H2 (hk ad.block (by simp [R.iC,hu]))];exact hv
  | _=>cases hv
 | ln n x=>
  simp only [R.ev] at h ⊢;obtain ⟨u,hu,hv⟩:=Option.bind_eq_some_iff.1 h;rw [hu,Option.bind_some];unfold cB at *;cases u with
  | pointer ad=>
   cases ad with
   | none=>cases hv
   | some ad=>
    simp only at *;rw [YQ (hk ad.block (by simp [R.iC,hu]))];exact hv
  | _=>cases hv
 | tj x=>
  simp only [R.ev] at h ⊢;obtain ⟨u,hu,hv⟩:=Option.bind_eq_some_iff.1 h;rw [hu,Option.bind_some];unfold DT at *;cases u with
  | map m=>
   cases m with
   | none=>exact hv
   | some rr=>
    simp only at *;rw [hk rr (by simp [R.iC,hu])];exact hv
  | _=>cases hv
 | _=>exact h
def xm (P:Program) (ops:Array Oper) (i:Nat) (K:Act→World→Prop) (a:Act) (w:World):Prop:=
 ∃ o,ops[i]? = some o∧if Region.wanted o (yielded ops a.tmps) then o.wp P a w K uX else K (a.put o.dst undef) w
def Kept (B:Nat→Prop) (w w':World):Prop:=∀ b,B b→w'.heap[b]? = w.heap[b]?
def oM (P:Program) (ops:Array Oper) (B:Nat→Nat→Prop) (Q:Act→World→Prop):Nat→Array Bool→Act→World→Prop
 | 0,listed,a,w=>Region.ready .any ops listed=[]∧Q a w
 | f+1,listed,a,w=>(Region.ready .any ops listed=[]→Q a w) ∧
  ∀ i∈Region.ready .any ops listed,xm P ops i (fun a' w'=>Kept (B i) w w'∧oM P ops B Q f (listed.setIfInBounds i true) a' w') a w
theorem Po {i:Nat} {K K':Act→World→Prop} (h:∀ a w,K a w→K' a w) (hg:xm P ops i K a w):xm P ops i K' a w:=by
 obtain ⟨o,ho,h1⟩:=hg;refine ⟨o,ho,?_⟩
 split
 ·rename_i hw;rw [if_pos hw] at h1;exact Oper.wp_mono h h1
 ·rename_i hw;rw [if_neg hw] at h1;exact h _ _ h1
theorem YS {B:Nat→Nat→Prop} {Q:Act→World→Prop} {Q':Exit→Act→World→Prop} (hQ:∀ a w,Q a w→Q' .normal a w) :
   ∀ (f:Nat) (listed:Array Bool) (a:Act) (w:World),oM P ops B Q f listed a w→wpAny P .any ops Q' f listed a w:=by
 intro f
 induction f with
 | zero=>intro listed a w h;exact ⟨h.1,hQ _ _ h.2⟩
 | succ f ih=>
  intro listed a w h;refine ⟨fun h0=>hQ _ _ (h.1 h0),fun i hi=>?_⟩;obtain ⟨o,ho,hg⟩:=h.2 i hi;unfold wpOp;simp only [ho]
  split
  ·rename_i hw;rw [if_pos hw] at hg;exact .inl (Pk (Oper.wp_mono (fun a' w' hh=>ih _ _ _ hh.2) hg))
  ·rename_i hw;rw [if_neg hw] at hg;exact ih _ _ _ hg.2
def rU (P:Program) (ops:Array Oper) (bs:Nat→Prop) (c:Nat→Option Obj) (o:Oper) (v:Value) (a:Act):Prop:=
 (Region.wanted o (yielded ops a.tmps)=true∧∀ w:World,(∀ b,bs b→w.heap[b]? = c b)→(execOp a.eval o).run P w = .ok (.value v) w) ∨
 (Region.wanted o (yielded ops a.tmps)=false∧v=undef)
theorem rU.same {bs:Nat→Prop} {c:Nat→Option Obj} {o:Oper} {v:Value} {a a':Act} (h:rU P ops bs c o v a) (he:execOp a'.eval o=execOp a.eval o)
   (hw:Region.wanted o (yielded ops a'.tmps)=Region.wanted o (yielded ops a.tmps)):rU P ops bs c o v a':=by
 unfold rU at *;rw [he,hw];exact h
theorem YT {bs:Nat→Prop} {c:Nat→Option Obj} {j:Nat} {oi oj:Oper} {v:Value} (hj:ops[j]? = some oj) (Pp:oi.apart ops oj=true)
   (Pq:∀ cs b,oi.op≠.select cs b) (D6:∀ cs b,oj.op≠.select cs b) {K:Act→World→Prop} (hy:rU P ops bs c oi v a) (h:xm P ops j K (a.put oi.dst v) w) :
   xm P ops j (fun a' w'=>rU P ops bs c oi v a'∧K (a'.put oi.dst v) w') a w:=by
 obtain ⟨h1,h2,h3⟩:=Oper.apart_spec Pp;obtain ⟨o,ho,hg⟩:=h;obtain rfl:o=oj:=Option.some.inj (ho.symm.trans hj);refine ⟨o,hj,?_⟩;rw [wanted_put o a oi.dst v h1] at hg;have dV:∀ u,rU P ops bs c oi v (a.put o.dst u):=fun u=>hy.same (execOp_put oi Pq a o.dst u h3) (wanted_put oi a o.dst u h3)
 split
 ·rename_i hw;rw [if_pos hw] at hg;unfold Oper.wp at *;rw [execOp_put o D6 a oi.dst v h1] at hg;generalize (execOp a.eval o).run P w=r at *;cases r with
  | ok n w'=>
   cases n<;>simp only [Oper.upon] at hg ⊢
   case value u=>exact ⟨dV u,by rw [← Act.put_comm a v u h2];exact hg⟩
   case skip=>exact ⟨dV _,by rw [← Act.put_comm a v undef h2];exact hg⟩
   case defer d=>
    have hd:rU P ops bs c oi v { a with defers:=d::a.defers}:=hy.same rfl rfl;refine ⟨hd.same (execOp_put oi Pq _ o.dst _ h3) (wanted_put oi _ o.dst _ h3),?_⟩;rw [← Act.put_comm _ v undef h2,← Act.put_defers];exact hg
   case enter f args=>
    refine Calls.mono hg fun e pK he=>?_
    cases e with
    | returned u=>exact ⟨dV u,by rw [← Act.put_comm a v u h2];exact he⟩
    | panicked c=>exact he
    | outgrown=>obtain ⟨_,_,hf⟩:=he;exact False.elim hf
   case row row args=>exact Rows.mono hg fun u pK he=>⟨dV u,by rw [← Act.put_comm a v u h2];exact he⟩
  | halt x w'=>cases x<;>simp only [Oper.upon] at hg ⊢<;>exact hg
 ·rename_i hw;rw [if_neg hw] at hg;exact ⟨dV _,by rw [← Act.put_comm a v undef h2];exact hg⟩
def Bk (ops:Array Oper) (listed:Array Bool):Prop:=
 ∀ j oj,ops[j]? = some oj→listed.getD j false=true→∀ e∈oj.after,Region.binds .any e=true→listed.getD e.on false=true
def zf (ops:Array Oper) (pm:List Nat):Bool:=
 (List.range ops.size).all fun j=>(List.range ops.size).all fun i=>!(pm.getD j 0).testBit i ||
  match ops[j]? with
  | some o=>o.after.any fun e=>Region.binds .any e&&(decide (e.on < j)&&(e.on == i||(pm.getD e.on 0).testBit i))
  | none=>false
theorem YU {pm:List Nat} (kL:zf ops pm=true) {listed:Array Bool} (hc:Bk ops listed) {i:Nat} (hi:i < ops.size) :
   ∀ (j:Nat),j < ops.size→(listed.getD j false=true∨j∈Region.ready .any ops listed)→(pm.getD j 0).testBit i=true→listed.getD i false=true:=by
 intro j
 induction j using Nat.strongRecOn with
 | _ j ih=>
  intro hj hl ht;have h1:=List.all_eq_true.1 (List.all_eq_true.1 kL j (List.mem_range.2 hj)) i (List.mem_range.2 hi);rw [ht] at h1;simp only [Bool.not_true,Bool.false_or] at h1
  split at h1
  ·rename_i o ho;obtain ⟨e,he,hb⟩:=Array.any_eq_true'.1 h1;simp only [Bool.and_eq_true,decide_eq_true_eq,Bool.or_eq_true,beq_iff_eq] at hb;obtain ⟨aq,ah,an⟩:=hb;have Pr:listed.getD e.on false=true:=by
    rcases hl with hl | hl
    ·exact hc j o ho hl e he aq
    ·obtain ⟨_,o',mP,cA⟩:=mem_ready.1 hl;obtain rfl:o'=o:=Option.some.inj (mP.symm.trans ho);exact cA e he aq
   rcases an with an | an
   ·rw [← an];exact Pr
   ·exact ih e.on ah (by omega) (.inl Pr) an
  ·cases h1
theorem Bl {listed:Array Bool} {i:Nat} (hc:Bk ops listed) (hi:i∈Region.ready .any ops listed):Bk ops (listed.setIfInBounds i true):=by
 obtain ⟨_,oi,H3,cA⟩:=mem_ready.1 hi;intro j oj hj hl e he hb;by_cases ek:i=j
 ·subst ek;obtain rfl:oj=oi:=Option.some.inj (hj.symm.trans H3);exact getD_set_true (cA e he hb)
 ·rw [getD_set_ne false ek] at hl;exact getD_set_true (hc j oj hj hl e he hb)
theorem Ps {listed:Array Bool} {i:Nat} (h:listed.getD i true=false):listed.getD i false=false:=by
 rcases Nat.lt_or_ge i listed.size with h' | h'
 ·simp [h'] at h ⊢;exact h
 ·simp [Array.getElem?_eq_none h'] at h
theorem Pt {pm:List Nat} (kL:zf ops pm=true) {i:Nat} {oi:Oper} {v:Value} (hi:ops[i]? = some oi) (tz:∀ (j:Nat) (o:Oper) cs b,ops[j]? = some o→o.op≠.select cs b)
   {bs:Nat→Prop} {c:Nat→Option Obj} {B B':Nat→Nat→Prop} {Q:Act→World→Prop} (hB:∀ j b,B j b→B' j b)
   (Bn:∀ j,(pm.getD j 0).testBit i=false→j≠i→∀ b,bs b→B' j b) :
   ∀ (f:Nat) (listed:Array Bool) (a:Act) (w:World),Bk ops listed →
    (∀ j oj,ops[j]? = some oj→j≠i→listed.getD j true=false→(∀ e∈oj.after,Region.binds .any e=true→e.on≠i)→oi.apart ops oj=true) →
    i∈Region.ready .any ops listed→rU P ops bs c oi v a→(∀ b,bs b→w.heap[b]? = c b) →
    oM P ops B' Q f (listed.setIfInBounds i true) (a.put oi.dst v) w→oM P ops B Q (f+1) listed a w:=by
 intro f;have here:∀ (f:Nat) (listed:Array Bool) (a:Act) (w:World),rU P ops bs c oi v a→(∀ b,bs b→w.heap[b]? = c b) →
     oM P ops B Q f (listed.setIfInBounds i true) (a.put oi.dst v) w →
     xm P ops i (fun a' w'=>Kept (B i) w w'∧oM P ops B Q f (listed.setIfInBounds i true) a' w') a w:=by
  intro f listed a w hy hw H;refine ⟨oi,hi,?_⟩;rcases hy with ⟨h1,h2⟩ | ⟨h1,rfl⟩
  ·rw [if_pos h1];unfold Oper.wp;rw [h2 w hw];exact ⟨fun _ _=>rfl,H⟩
  ·rw [if_neg (by simp [h1])];exact ⟨fun _ _=>rfl,H⟩
 have aB:∀ (f:Nat) (listed:Array Bool) (a:Act) (w:World),oM P ops B' Q f listed a w→oM P ops B Q f listed a w:=by
  intro f
  induction f with
  | zero=>intro listed a w h;exact h
  | succ f ih=>
   intro listed a w h;exact ⟨h.1,fun j hj=>Po (fun a' w' hh=>⟨fun b hb=>hh.1 b (hB j b hb),ih _ _ _ hh.2⟩) (h.2 j hj)⟩
 induction f with
 | zero=>
  intro listed a w gh zg hr hy hw H;refine ⟨fun h=>(by rw [h] at hr;cases hr),fun j hj=>?_⟩;by_cases lv:j=i
  ·subst lv;exact here 0 listed a w hy hw (aB _ _ _ _ H)
  ·have:=ready_mono hj lv;rw [H.1] at this;cases this
 | succ f ih=>
  intro listed a w gh zg hr hy hw H;refine ⟨fun h=>(by rw [h] at hr;cases hr),fun j hj=>?_⟩;by_cases lv:j=i
  ·subst lv;exact here _ listed a w hy hw (aB _ _ _ _ H)
  ·have h1:=H.2 j (ready_mono hj lv);obtain ⟨Pu,oj,D7,cA⟩:=mem_ready.1 hj;have Pv:=(mem_ready.1 hr).1;have YV:i < ops.size:=(Array.getElem?_eq_some_iff.1 hi).1;have YW:j < ops.size:=(Array.getElem?_eq_some_iff.1 D7).1;have H4:∀ e∈oj.after,Region.binds .any e=true→e.on≠i:=fun e he hb cq=>by
    have h1:=cA e he hb;rw [cq,Ps Pv] at h1;cases h1
   have YX:(pm.getD j 0).testBit i=false:=by
    cases ht:(pm.getD j 0).testBit i with
    | false=>rfl
    | true=>
     have:=YU kL gh YV j YW (.inr hj) ht;rw [Ps Pv] at this;cases this
   have h2:=YT D7 (zg j oj D7 lv Pu H4) (fun cs b=>tz i oi cs b hi) (fun cs b=>tz j oj cs b D7) hy h1;have YY:∀ k ok,ops[k]? = some ok→k≠i→(listed.setIfInBounds j true).getD k true=false →
       (∀ e∈ok.after,Region.binds .any e=true→e.on≠i)→oi.apart ops ok=true:=fun k ok hk rV Bo iD=>by
    refine zg k ok hk rV ?_ iD;by_cases l9:j=k
    ·subst l9;exact Pu
    ·rw [getD_set_ne true l9] at Bo;exact Bo
   refine Po (fun a' w' h3=>⟨fun b hb=>h3.2.1 b (hB j b hb),?_⟩) h2;refine ih (listed.setIfInBounds j true) a' w' (Bl gh hj) YY (ready_mono hr (Ne.symm lv)) h3.1 (fun b hb=>?_) ?_
   ·rw [h3.2.1 b (Bn j YX lv b hb)];exact hw b hb
   ·rw [Array.setIfInBounds_comm _ _ lv];exact h3.2.2
end
end
section
open Go
variable {dl:List Deferred}
inductive D where
 | nil
 | r (i:Nat) (g:Option (Nat×Bool)) (d:Option Nat) (r:R) (t:D)
 | e (i:Nat) (g:Option (Nat×Bool)) (d:Option Nat) (e:E) (fl:List Nat) (t:D)
 | e2 (i:Nat) (d:Option Nat) (e:E) (fl:List Nat) (t:D) (i':Nat) (d':Option Nat) (e':E) (uZ:List Nat) (t':D)
 deriving Inhabited
def Bp (i:Nat):List Nat→Prop
 | []=>False
 | j::r=>j=i∨Bp i r
def oN (fl:List Nat) (w w':World):List (Nat×Nat)→Prop
 | []=>True
 | (i,b)::r=>(Bp i fl→w'.heap[b]? = w.heap[b]?)∧oN fl w w' r
def xn (i:Nat) (b:Option Nat) (rd:List (Nat×Nat)):List (Nat×Nat):=
 match b with
 | some b=>(i,b)::rd
 | none=>rd
def gx (P:Program):D→Env→World→List (Nat×Nat)→(Env→World→Prop)→Prop
 | .nil,ρ,w,rd,K=>K ρ w
 | .r i none d r t,ρ,w,rd,K=>∃ v,r.ev w ρ=some v∧gx P t (ρ.put d v) w (xn i (r.iC ρ) rd) K
 | .r i (some (s,b)) d r t,ρ,w,rd,K=>∃ c,ρ.get s=some c∧(iB c b=true→∃ v,r.ev w ρ=some v∧gx P t (ρ.put d v) w (xn i (r.iC ρ) rd) K) ∧
     (iB c b=false→gx P t (ρ.put d undef) w rd K)
 | .e i none d e fl t,ρ,w,rd,K=>e.wp P w ρ fun v w'=>oN fl w w' rd∧gx P t (ρ.put d v) w' rd K
 | .e i (some (s,b)) d e fl t,ρ,w,rd,K=>∃ c,ρ.get s=some c∧(iB c b=true→e.wp P w ρ fun v w'=>oN fl w w' rd∧gx P t (ρ.put d v) w' rd K) ∧
     (iB c b=false→gx P t (ρ.put d undef) w rd K)
 | .e2 i d e fl t i' d' e' uZ t',ρ,w,rd,K=>(e.wp P w ρ fun v w'=>oN fl w w' rd∧gx P t (ρ.put d v) w' rd K) ∧
     (e'.wp P w ρ fun v w'=>oN uZ w w' rd∧gx P t' (ρ.put d' v) w' rd K)
def D8 (P:Program) (ops:Array Oper) (i:Nat):Bool:=
 match ops[i]? with
 | some o=>match jD P o.op with
  | some r=>r.Pn
  | none=>false
 | none=>false
def Bq (P:Program) (ops:Array Oper) (pm:List Nat) (j:Nat):List Nat:=(List.range ops.size).filter fun i=>D8 P ops i && !(pm.getD j 0).testBit i
def YZ (P:Program) (ops:Array Oper) (i:Nat):Bool:=
 match ops[i]? with
 | some o=>(jD P o.op).isSome
 | none=>false
def Br (i:Nat) (fl:List Nat) (t:D):S→Option D
 | .e d e=>some (.e i none d e fl t)
 | .ge s b d e=>some (.e i (some (s,b)) d e fl t)
 | _=>none
def Bt (i:Nat) (t:D):S→Option D
 | .r d r=>some (.r i none d r t)
 | .gr s b d r=>some (.r i (some (s,b)) d r t)
 | _=>none
def u0 (i:Nat) (fl:List Nat) (t:D) (j:Nat) (uZ:List Nat) (t':D):S→S→Option D
 | .e d e,.e d' e'=>some (.e2 i d e fl t j d' e' uZ t')
 | _,_=>none
def xo (P:Program) (N:Nat) (ops:Array Oper) (i:Nat):Option S:=(ops[i]?).bind (pL P N ops)
def qH (P:Program) (N:Nat) (ops:Array Oper) (pm:List Nat):Nat→Array Bool→Option D
 | 0,listed=>if (Region.ready .any ops listed).isEmpty then some .nil else none
 | f+1,listed=>
  match (Region.ready .any ops listed).find? (fun i=>YZ P ops i&&Region.free .any ops listed i) with
  | some i=>(qH P N ops pm f (listed.setIfInBounds i true)).bind fun t=>(xo P N ops i).bind (Bt i t)
  | none=>match Region.ready .any ops listed with
   | []=>some .nil
   | [i]=>(qH P N ops pm f (listed.setIfInBounds i true)).bind fun t=>(xo P N ops i).bind (Br i (Bq P ops pm i) t)
   | [i,j]=>(qH P N ops pm f (listed.setIfInBounds i true)).bind fun t=>(qH P N ops pm f (listed.setIfInBounds j true)).bind fun t'=>
       (xo P N ops i).bind fun s=>(xo P N ops j).bind fun s'=>u0 i (Bq P ops pm i) t j (Bq P ops pm j) t' s s'
   | _=>none
section
variable {P:Program} {N:Nat} {ops:Array Oper}
def tA (pm:List Nat) (rd:List (Nat×Nat)) (j b:Nat):Prop:=∃ i,(i,b)∈rd∧(pm.getD j 0).testBit i=false
theorem Y0 {i:Nat}:∀ {fl:List Nat},i∈fl→Bp i fl:=by
 intro fl
 induction fl with
 | nil=>intro h;cases h
 | cons j r ih=>
  intro h;cases h with
  | head=>exact .inl rfl
  | tail _ h=>exact .inr (ih h)
theorem Y1 {fl:List Nat} {w w':World}:∀ {rd:List (Nat×Nat)},oN fl w w' rd→∀ i b,(i,b)∈rd→i∈fl→w'.heap[b]? = w.heap[b]?:=by
 intro rd
 induction rd with
 | nil=>intro _ i b h;cases h
 | cons p rd ih=>
  intro h i b hm hf;obtain ⟨j,c⟩:=p;simp only [oN] at h;cases hm with
  | head=>exact h.1 (Y0 hf)
  | tail _ hm=>exact ih h.2 i b hm hf
theorem Pw {o:Oper} {d:Option Nat} {r:R} (h:pL P N ops o=some (.r d r)):jD P o.op=some r∧d=o.dst∧o.guard=none∧(∀ t,d=some t→t < N):=by
 unfold pL at h
 split at h
 ·rename_i hd
  split at h
  ·rename_i hg
   split at h
   ·rename_i r' hr;cases h;exact ⟨hr,rfl,hg,zd hd⟩
   ·cases h
  ·split at h
   ·split at h<;>cases h
   ·cases h
 ·cases h
theorem H5 {o:Oper} {d:Option Nat} {e:E} (h:pL P N ops o=some (.e d e)):e=xl P o∧d=o.dst∧o.guard=none∧(∀ t,d=some t→t < N):=by
 unfold pL at h
 split at h
 ·rename_i hd
  split at h
  ·rename_i hg
   split at h
   ·cases h
   ·cases h;exact ⟨rfl,rfl,hg,zd hd⟩
  ·split at h
   ·split at h<;>cases h
   ·cases h
 ·cases h
theorem Y2 {o:Oper} {s:Nat} {b:Bool} {d:Option Nat} {r:R} (h:pL P N ops o=some (.gr s b d r)) :
   jD P o.op=some r∧d=o.dst∧(∃ j,o.guard=some (j,b)∧(ops[j]?).bind (·.dst)=some s)∧(∀ t,d=some t→t < N):=by
 unfold pL at h
 split at h
 ·rename_i hd
  split at h
  ·split at h<;>cases h
  ·rename_i j want hg
   split at h
   ·rename_i s' fG
    split at h
    ·rename_i r' hr;cases h;exact ⟨hr,rfl,⟨j,hg,fG⟩,zd hd⟩
    ·cases h
   ·cases h
 ·cases h
theorem Y3 {o:Oper} {s:Nat} {b:Bool} {d:Option Nat} {e:E} (h:pL P N ops o=some (.ge s b d e)) :
   e=xl P o∧d=o.dst∧(∃ j,o.guard=some (j,b)∧(ops[j]?).bind (·.dst)=some s)∧(∀ t,d=some t→t < N):=by
 unfold pL at h
 split at h
 ·rename_i hd
  split at h
  ·split at h<;>cases h
  ·rename_i j want hg
   split at h
   ·rename_i s' fG
    split at h
    ·cases h
    ·cases h;exact ⟨rfl,rfl,⟨j,hg,fG⟩,zd hd⟩
   ·cases h
 ·cases h
def zh (dl:List Deferred) (N:Nat) (K:Env→World→Prop) (a:Act) (w:World):Prop:=∃ ρ,Good dl N ρ a∧K ρ w
theorem Y4 {i:Nat} {b:Option Nat} {rd:List (Nat×Nat)} {p:Nat×Nat} (h:p∈rd):p∈xn i b rd:=by
 cases b with
 | none=>exact h
 | some b=>exact List.mem_cons_of_mem _ h
theorem Y5 {r:R} {ρ:Env} {b:Nat} (h:r.iC ρ=some b):r.Pn=true:=by
 cases r<;>first | rfl | (simp [R.iC] at h)
theorem Px {pm:List Nat} (kL:zf ops pm=true) (tz:Region.noSelect ops=true) {K:Env→World→Prop} :
   ∀ (f:Nat) (listed:Array Bool) (t:D) (ρ:Env) (a:Act) (w:World) (rd:List (Nat×Nat)),qH P N ops pm f listed=some t→gx P t ρ w rd K→Good dl N ρ a→Bk ops listed →
    (∀ i b,(i,b)∈rd→D8 P ops i=true)→oM P ops (tA pm rd) (zh dl N K) f listed a w:=by
 intro f
 induction f with
 | zero=>
  intro listed t ρ a w rd h kh hg hc qI;simp only [qH] at h
  split at h
  ·rename_i he;cases h;exact ⟨by simpa using he,ρ,hg,kh⟩
  ·cases h
 | succ f ih=>
  intro listed t ρ a w rd h kh hg hc qI;have effect:∀ (i:Nat) (o:Oper) (t':D) (d:Option Nat) (e:E),ops[i]? = some o→e=xl P o→d=o.dst→(∀ t,d=some t→t < N)→i∈Region.ready .any ops listed →
      qH P N ops pm f (listed.setIfInBounds i true)=some t'→Region.wanted o (yielded ops a.tmps)=true →
      (e.wp P w ρ fun v w'=>oN (Bq P ops pm i) w w' rd∧gx P t' (ρ.put d v) w' rd K) →
      xm P ops i (fun a' w'=>Kept (tA pm rd i) w w'∧oM P ops (tA pm rd) (zh dl N K) f (listed.setIfInBounds i true) a' w') a w:=by
   intro i o t' d e hi he hd kM hr jE hw hE;subst he hd;refine ⟨o,hi,?_⟩;rw [if_pos hw];refine Oper.wp_mono ?_ (Bi hE a hg.agree);rintro a' w' ⟨v,rfl,hk,qJ⟩;refine ⟨?_,ih _ t' _ _ _ rd jE qJ (hg.put _ _ kM) (Bl hc hr) qI⟩;rintro b ⟨i0,hm,H6⟩;refine Y1 hk i0 b hm ?_;have ee:=qI i0 b hm;unfold Bq;rw [List.mem_filter,List.mem_range];refine ⟨?_,by rw [ee,H6];rfl⟩;unfold D8 at ee;cases ho:ops[i0]? with
   | none=>simp [ho] at ee
   | some o'=>exact (Array.getElem?_eq_some_iff.1 ho).1
  simp only [qH] at h
  split at h
  ·rename_i i Py;have ee:=List.mem_of_find?_eq_some Py;have Pz:=List.find?_some Py;simp only [Bool.and_eq_true] at Pz;obtain ⟨t',jE,h⟩:=Option.bind_eq_some_iff.1 h;obtain ⟨s,pM,h⟩:=Option.bind_eq_some_iff.1 h;unfold xo at pM;obtain ⟨o,ho,hs⟩:=Option.bind_eq_some_iff.1 pM;clear pM;have zg:=Region.free_spec ho Pz.2;have isz:i < ops.size:=(Array.getElem?_eq_some_iff.1 ho).1;have taken:∀ (v:Value) (d:Option Nat) (r:R),d=o.dst→jD P o.op=some r→r.ev w ρ=some v→Region.wanted o (yielded ops a.tmps)=true→(∀ t,d=some t→t < N) →
       gx P t' (ρ.put d v) w (xn i (r.iC ρ) rd) K→oM P ops (tA pm rd) (zh dl N K) (f+1) listed a w:=by
    intro v d r hd hr hv hw kM qJ;subst hd
    have H:=ih _ t' _ _ _ _ jE qJ (hg.put _ v kM) (Bl hc ee) (by
     intro j b hj;cases hb:r.iC ρ with
     | none=>rw [hb] at hj;exact qI j b hj
     | some b'=>
      rw [hb] at hj;cases hj with
      | head=>unfold D8;rw [ho];simp only;rw [hr];exact Y5 hb
      | tail _ hj=>exact qI j b hj)
    refine Pt kL ho (Region.noSelect_spec tz) (bs:=fun b=>r.iC ρ=some b) (c:=fun b=>w.heap[b]?) (B':=tA pm (xn i (r.iC ρ) rd)) ?_ ?_ f listed a w hc zg ee ?_ (fun _ _=>rfl) H
    ·rintro j b ⟨i0,hm,H6⟩;exact ⟨i0,Y4 hm,H6⟩
    ·intro j hj lv b hb;refine ⟨i,?_,hj⟩;rw [show r.iC ρ=some b from hb];exact List.mem_cons_self
    ·left
     refine ⟨hw,fun w' rW=>kI (Pg hr hg.agree (YR hv rW))⟩
   have Y6:∀ (d:Option Nat),d=o.dst→Region.wanted o (yielded ops a.tmps)=false→(∀ t,d=some t→t < N)→gx P t' (ρ.put d undef) w rd K →
       oM P ops (tA pm rd) (zh dl N K) (f+1) listed a w:=by
    intro d hd hw kM qJ;subst hd;have H:=ih _ t' _ _ _ _ jE qJ (hg.put _ undef kM) (Bl hc ee) qI;refine Pt kL ho (Region.noSelect_spec tz) (bs:=fun _=>False) (c:=fun b=>w.heap[b]?) (B':=tA pm rd) (fun _ _ h=>h) (fun _ _ _ _ h=>h.elim) f listed a w hc zg ee ?_ (fun _ h=>h.elim) H
    right
    exact ⟨hw,rfl⟩
   cases s with
   | r d r=>
    simp only [Bt,Option.some.injEq] at h;subst h;obtain ⟨hr,hd,xp,kM⟩:=Pw hs;obtain ⟨v,hv,qJ⟩:=kh;exact taken v d r hd hr hv (by simp [Region.wanted,xp]) kM qJ
   | gr s' b' d r=>
    simp only [Bt,Option.some.injEq] at h;subst h;obtain ⟨hr,hd,⟨j,xp,nU⟩,kM⟩:=Y2 hs;obtain ⟨c,dW,hy,hn⟩:=kh;have hw:=ze xp nU hg dW;by_cases tB:iB c b'=true
    ·obtain ⟨v,hv,qJ⟩:=hy tB;exact taken v d r hd hr hv (by rw [hw,tB]) kM qJ
    ·exact Y6 d hd (by rw [hw];simpa using tB) kM (hn (by simpa using tB))
   | e d e=>simp [Bt] at h
   | ge s b d e=>simp [Bt] at h
  ·split at h
   ·rename_i rX;cases h;exact ⟨fun _=>⟨ρ,hg,kh⟩,fun i hi=>(by rw [rX] at hi;cases hi)⟩
   ·rename_i i rX;obtain ⟨t',jE,h⟩:=Option.bind_eq_some_iff.1 h;obtain ⟨s,pM,h⟩:=Option.bind_eq_some_iff.1 h;unfold xo at pM;obtain ⟨o,ho,hs⟩:=Option.bind_eq_some_iff.1 pM;clear pM;have ee:i∈Region.ready .any ops listed:=by rw [rX];exact List.mem_cons_self
    refine ⟨fun h0=>(by rw [rX] at h0;cases h0),fun i' bS=>?_⟩;have:i'=i:=by rw [rX] at bS;simpa using bS
    subst this;cases s with
    | e d e=>
     simp only [Br,Option.some.injEq] at h;subst h;obtain ⟨he,hd,xp,kM⟩:=H5 hs;exact effect i' o t' d e ho he hd kM ee jE (by simp [Region.wanted,xp]) kh
    | ge s' b' d e=>
     simp only [Br,Option.some.injEq] at h;subst h;obtain ⟨he,hd,⟨j,xp,nU⟩,kM⟩:=Y3 hs;obtain ⟨c,dW,hy,hn⟩:=kh;have hw:=ze xp nU hg dW;by_cases tB:iB c b'=true
     ·exact effect i' o t' d e ho he hd kM ee jE (by rw [hw,tB]) (hy tB)
     ·refine ⟨o,ho,?_⟩;rw [if_neg (by rw [hw];exact tB)];subst hd;exact ⟨fun _ _=>rfl,ih _ t' _ _ _ rd jE (hn (by simpa using tB)) (hg.put _ undef kM) (Bl hc ee) qI⟩
    | r d r=>simp [Br] at h
    | gr s b d r=>simp [Br] at h
   ·rename_i i j rX;obtain ⟨t1,u9,h⟩:=Option.bind_eq_some_iff.1 h;obtain ⟨t2,tC,h⟩:=Option.bind_eq_some_iff.1 h;obtain ⟨s1,cL,h⟩:=Option.bind_eq_some_iff.1 h;obtain ⟨s2,dh,h⟩:=Option.bind_eq_some_iff.1 h;unfold xo at cL dh;obtain ⟨o1,gM,Y7⟩:=Option.bind_eq_some_iff.1 cL;obtain ⟨o2,dR,Y8⟩:=Option.bind_eq_some_iff.1 dh;clear cL dh;have Y9:i∈Region.ready .any ops listed:=by rw [rX];exact List.mem_cons_self
    have Y':j∈Region.ready .any ops listed:=by rw [rX];exact List.mem_cons_of_mem _ List.mem_cons_self
    cases s1 with
    | e d e=>cases s2 with
     | e d' e'=>
      simp only [u0,Option.some.injEq] at h;subst h;obtain ⟨Za,HW,Zb,Zc⟩:=H5 Y7;obtain ⟨Zd,DZ,Ze,Zf⟩:=H5 Y8;refine ⟨fun h0=>(by rw [rX] at h0;cases h0),fun i' bS=>?_⟩;rw [rX] at bS;have:i'=i∨i'=j:=by simpa using bS
      rcases this with rfl | rfl
      ·exact effect i' o1 t1 d e gM Za HW Zc Y9 u9 (by simp [Region.wanted,Zb]) kh.1
      ·exact effect i' o2 t2 d' e' dR Zd DZ Zf Y' tC (by simp [Region.wanted,Ze]) kh.2
     | r d r=>simp [u0] at h
     | gr s b d r=>simp [u0] at h
     | ge s b d e=>simp [u0] at h
    | r d r=>cases s2<;>simp [u0] at h
    | gr s b d r=>cases s2<;>simp [u0] at h
    | ge s b d e=>cases s2<;>simp [u0] at h
   ·cases h
def D.dp:D→Option (List S)
 | .nil=>some []
 | .r _ none dd q t=>t.dp.map (S.r dd q :: ·)
 | .r _ (some (s,b)) dd q t=>t.dp.map (S.gr s b dd q :: ·)
 | .e _ none dd q [] t=>t.dp.map (S.e dd q :: ·)
 | .e _ (some (s,b)) dd q [] t=>t.dp.map (S.ge s b dd q :: ·)
 | _=>none
theorem PA {w w':World}:∀ rd,oN [] w w' rd:=by
 intro rd
 induction rd with
 | nil=>trivial
 | cons p rd ih=>exact ⟨fun h=>by simp [Bp] at h,ih⟩
theorem PB {K:Env→World→Prop}:∀ (t:D) (st:List S) (ρ:Env) (w:World) (rd:List (Nat×Nat)),t.dp=some st→wpS P st ρ w K→gx P t ρ w rd K:=by
 intro t
 induction t with
 | nil=>intro st ρ w rd h hw;simp only [D.dp,Option.some.injEq] at h;subst h;exact hw
 | r i g d r t ih=>
  intro st ρ w rd h hw;cases g with
  | none=>
   simp only [D.dp] at h;obtain ⟨jh,h1,rfl⟩:=Option.map_eq_some_iff.1 h;obtain ⟨v,hv,hk⟩:=hw;exact ⟨v,hv,ih _ _ _ _ h1 hk⟩
  | some g=>
   obtain ⟨s,b⟩:=g;simp only [D.dp] at h;obtain ⟨jh,h1,rfl⟩:=Option.map_eq_some_iff.1 h;obtain ⟨c,hc,hy,hn⟩:=hw;exact ⟨c,hc,fun e=>let ⟨v,hv,hk⟩:=hy e;⟨v,hv,ih _ _ _ _ h1 hk⟩,fun e=>ih _ _ _ _ h1 (hn e)⟩
 | e i g d e fl t ih=>
  intro st ρ w rd h hw;cases fl with
  | cons x xs=>cases g with
   | none=>simp [D.dp] at h
   | some g=>obtain ⟨s,b⟩:=g;simp [D.dp] at h
  | nil=>
   cases g with
   | none=>
    simp only [D.dp] at h;obtain ⟨jh,h1,rfl⟩:=Option.map_eq_some_iff.1 h;exact E.mono (fun v w' hk=>⟨PA rd,ih _ _ _ _ h1 hk⟩) e hw
   | some g=>
    obtain ⟨s,b⟩:=g;simp only [D.dp] at h;obtain ⟨jh,h1,rfl⟩:=Option.map_eq_some_iff.1 h;obtain ⟨c,hc,hy,hn⟩:=hw;exact ⟨c,hc,fun e'=>E.mono (fun v w' hk=>⟨PA rd,ih _ _ _ _ h1 hk⟩) e (hy e'),fun e'=>ih _ _ _ _ h1 (hn e')⟩
 | e2=>intro st ρ w rd h hw;simp [D.dp] at h
theorem PC {id:Nat} {pm:List Nat} {Q:Exit→Act→World→Prop} {K:Env→World→Prop} {t:D} {ρ:Env} {a:Act} {w:World} (hm:P.follows .mixedOrders=true) (kL:zf ops pm=true)
   (tz:Region.noSelect ops=true) (ht:qH P N ops pm ops.size (Array.replicate ops.size false)=some t) (h:gx P t ρ w.drew [] K) (hg:Good dl N ρ a)
   (hQ:∀ bz a' w',Good dl N bz a'→K bz w'→Q .normal a' w'):(Code.region id ops true).wp P Q a w:=by
 refine wp_region_any hm (YS (B:=tA pm []) (Q:=zh dl N K) (fun a' w' ⟨bz,h1,h2⟩=>hQ bz a' w' h1 h2) _ _ _ _ ?_);refine Px kL tz _ _ t ρ a w.drew [] ht h hg ?_ (fun _ _ h=>by cases h);intro j oj _ hl;have:(Array.replicate ops.size false).getD j false=false:=by
  rcases Nat.lt_or_ge j ops.size with h | h
  ·simp [h]
  ·simp [h]
 rw [this] at hl;cases hl
end
end
section
open Go
variable {dl:List Deferred}
def oT:O→List Nat
 | .t n=>[n]
 | .c _=>[]
def zi:Option O→List Nat
 | some x=>oT x
 | none=>[]
def lT (l:List O):List Nat:=l.flatMap oT
def pT (l:List (Nat×Nat×O)):List Nat:=l.flatMap fun p=>oT p.2.2
def R.tmps:R→List Nat
 | .mv x=>oT x
 | .nn x=>oT x
 | .fa _ x=>oT x
 | .l1 x=>oT x
 | .ln _ x=>oT x
 | .bi _ x y=>oT x++oT y
 | .eq _ _ x y=>oT x++oT y
 | .no x=>oT x
 | .ng x=>oT x
 | .cv _ x=>oT x
 | .len x=>oT x
 | .oJ x=>oT x
 | .tj x=>oT x
 | .cap x=>oT x
 | .ia _ s i=>oT s++oT i
 | .rR s i=>oT s++oT i
 | .fl _ x=>oT x
 | .yZ _ _ x=>oT x
 | .sl _ x lo hi mx=>oT x++zi lo++zi hi++zi mx
 | .y0 x lo hi=>oT x++zi lo++zi hi
 | .bd _ ps=>pT ps
 | .pk c a b=>oT c++oT a++oT b
 | .ex _ x=>oT x
 | .mi _ x=>oT x
 | .mm _ x y=>oT x++oT y
 | .oK _ _ x y=>oT x++oT y
 | .mf _ f c=>lT f++lT c
def E.tmps:E→Option (List Nat)
 | .st _ x v=>some (oT x++oT v)
 | .bx _ x=>some (oT x)
 | .al _ _=>some []
 | .bs _ _ _ ps=>some (pT ps)
 | .ms _ _ _ _ l c=>some (oT l++oT c)
 | .ap _ _ _ _ s x=>some (oT s++oT x)
 | .cp _ d s=>some (oT d++oT s)
 | .call _ args=>some (lT args)
 | .raw _=>none
def look (s:List (Nat×O)) (t:Nat):O:=
 match s with
 | []=>.t t
 | (d,o)::r=>if d=t then o else look r t
def O.sub (s:List (Nat×O)):O→O
 | .t n=>look s n
 | .c v=>.c v
def xq (s:List (Nat×O)) (x:Option O):Option O:=x.map (O.sub s)
def Bu (s:List (Nat×O)) (l:List (Nat×Nat×O)):List (Nat×Nat×O):=l.map fun p=>(p.1,p.2.1,p.2.2.sub s)
def R.sub (s:List (Nat×O)):R→R
 | .mv x=>.mv (x.sub s)
 | .nn x=>.nn (x.sub s)
 | .fa o x=>.fa o (x.sub s)
 | .l1 x=>.l1 (x.sub s)
 | .ln n x=>.ln n (x.sub s)
 | .bi op x y=>.bi op (x.sub s) (y.sub s)
 | .eq k n x y=>.eq k n (x.sub s) (y.sub s)
 | .no x=>.no (x.sub s)
 | .ng x=>.ng (x.sub s)
 | .cv k x=>.cv k (x.sub s)
 | .len x=>.len (x.sub s)
 | .oJ x=>.oJ (x.sub s)
 | .tj x=>.tj (x.sub s)
 | .cap x=>.cap (x.sub s)
 | .ia sz a i=>.ia sz (a.sub s) (i.sub s)
 | .rR a i=>.rR (a.sub s) (i.sub s)
 | .fl o x=>.fl o (x.sub s)
 | .yZ o n x=>.yZ o n (x.sub s)
 | .sl sz x lo hi mx=>.sl sz (x.sub s) (xq s lo) (xq s hi) (xq s mx)
 | .y0 x lo hi=>.y0 (x.sub s) (xq s lo) (xq s hi)
 | .bd z ps=>.bd z (Bu s ps)
 | .pk c a b=>.pk (c.sub s) (a.sub s) (b.sub s)
 | .ex i x=>.ex i (x.sub s)
 | .mi t x=>.mi t (x.sub s)
 | .mm m x y=>.mm m (x.sub s) (y.sub s)
 | .oK n f x y=>.oK n f (x.sub s) (y.sub s)
 | .mf fn f c=>.mf fn (f.map (O.sub s)) (c.map (O.sub s))
def E.sub (s:List (Nat×O)):E→E
 | .st n x v=>.st n (x.sub s) (v.sub s)
 | .bx t x=>.bx t (x.sub s)
 | .al t z=>.al t z
 | .bs el n c ps=>.bs el n c (Bu s ps)
 | .ms el sz b z l c=>.ms el sz b z (l.sub s) (c.sub s)
 | .ap el sz b z a x=>.ap el sz b z (a.sub s) (x.sub s)
 | .cp sz d a=>.cp sz (d.sub s) (a.sub s)
 | .call f args=>.call f (args.map (O.sub s))
 | .raw o=>.raw o
section
variable {ρ bz:Env} {s:List (Nat×O)}
theorem dN {x:O} (h:∀ t∈oT x,ρ.get t=(look s t).ev bz):x.ev ρ=(x.sub s).ev bz:=by
 cases x with
 | t n=>exact h n (by simp [oT])
 | c v=>rfl
theorem Bv {x:Option O} (h:∀ t∈zi x,ρ.get t=(look s t).ev bz):nS ρ x=nS bz (xq s x):=by
 cases x with
 | none=>rfl
 | some x=>simp only [xq,Option.map_some,nS,dN (x:=x) h]
theorem D9:∀ {l:List O},(∀ t∈lT l,ρ.get t=(look s t).ev bz)→eP ρ l=eP bz (l.map (O.sub s))
 | [],_=>rfl
 | x::l,h=>by
  have h1:∀ t∈oT x,ρ.get t=(look s t).ev bz:=fun t ht=>h t (by simp [lT,ht])
  have h2:∀ t∈lT l,ρ.get t=(look s t).ev bz:=fun t ht=>h t (by simp only [lT,List.flatMap_cons,List.mem_append];exact .inr ht)
  simp only [eP,List.map_cons,dN h1,D9 h2]
theorem H7:∀ {l:List (Nat×Nat×O)},(∀ t∈pT l,ρ.get t=(look s t).ev bz)→kK ρ l=kK bz (Bu s l)
 | [],_=>rfl
 | (a,b,x)::l,h=>by
  have h1:∀ t∈oT x,ρ.get t=(look s t).ev bz:=fun t ht=>h t (by simp [pT,ht])
  have h2:∀ t∈pT l,ρ.get t=(look s t).ev bz:=fun t ht=>h t (by simp only [pT,List.flatMap_cons,List.mem_append];exact .inr ht)
  have h3:=H7 h2;simp only [Bu] at h3;simp only [kK,Bu,List.map_cons,dN h1,h3]
theorem inl {l m:List Nat} (h:∀ t∈l++m,ρ.get t=(look s t).ev bz):∀ t∈l,ρ.get t=(look s t).ev bz:=fun t ht=>h t (List.mem_append_left _ ht)
theorem inr {l m:List Nat} (h:∀ t∈l++m,ρ.get t=(look s t).ev bz):∀ t∈m,ρ.get t=(look s t).ev bz:=fun t ht=>h t (List.mem_append_right _ ht)
theorem PD {w:World} (r:R) (h:∀ t∈r.tmps,ρ.get t=(look s t).ev bz):r.ev w ρ=(r.sub s).ev w bz:=by
 cases r with
 | mv x=>simp only [R.ev,R.sub,dN (x:=x) h]
 | nn x=>simp only [R.ev,R.sub,dN (x:=x) h]
 | fa o x=>simp only [R.ev,R.sub,dN (x:=x) h]
 | l1 x=>simp only [R.ev,R.sub,dN (x:=x) h]
 | ln n x=>simp only [R.ev,R.sub,dN (x:=x) h]
 | bi op x y=>simp only [R.ev,R.sub,dN (x:=x) (inl h),dN (x:=y) (inr h)]
 | eq k n x y=>simp only [R.ev,R.sub,dN (x:=x) (inl h),dN (x:=y) (inr h)]
 | no x=>simp only [R.ev,R.sub,dN (x:=x) h]
 | ng x=>simp only [R.ev,R.sub,dN (x:=x) h]
 | cv k x=>simp only [R.ev,R.sub,dN (x:=x) h]
 | len x=>simp only [R.ev,R.sub,dN (x:=x) h]
 | oJ x=>simp only [R.ev,R.sub,dN (x:=x) h]
 | tj x=>simp only [R.ev,R.sub,dN (x:=x) h]
 | cap x=>simp only [R.ev,R.sub,dN (x:=x) h]
 | ia sz a i=>simp only [R.ev,R.sub,dN (x:=a) (inl h),dN (x:=i) (inr h)]
 | rR a i=>simp only [R.ev,R.sub,dN (x:=a) (inl h),dN (x:=i) (inr h)]
 | fl o x=>simp only [R.ev,R.sub,dN (x:=x) h]
 | yZ o n x=>simp only [R.ev,R.sub,dN (x:=x) h]
 | sl sz x lo hi mx=>simp only [R.ev,R.sub,dN (x:=x) (inl (inl (inl h))),Bv (x:=lo) (inr (inl (inl h))),Bv (x:=hi) (inr (inl h)),Bv (x:=mx) (inr h)]
 | y0 x lo hi=>simp only [R.ev,R.sub,dN (x:=x) (inl (inl h)),Bv (x:=lo) (inr (inl h)),Bv (x:=hi) (inr h)]
 | bd z ps=>simp only [R.ev,R.sub,H7 (l:=ps) h]
 | pk c a b=>simp only [R.ev,R.sub,dN (x:=c) (inl (inl h)),dN (x:=a) (inr (inl h)),dN (x:=b) (inr h)]
 | ex i x=>simp only [R.ev,R.sub,dN (x:=x) h]
 | mi t x=>simp only [R.ev,R.sub,dN (x:=x) h]
 | mm m x y=>simp only [R.ev,R.sub,dN (x:=x) (inl h),dN (x:=y) (inr h)]
 | oK n f x y=>simp only [R.ev,R.sub,dN (x:=x) (inl h),dN (x:=y) (inr h)]
 | mf fn f c=>simp only [R.ev,R.sub,D9 (l:=f) (inl h),D9 (l:=c) (inr h)]
theorem PE {P:Program} {w:World} {K:Value→World→Prop} (e:E) (ts:List Nat) (he:e.tmps=some ts) (h:∀ t∈ts,ρ.get t=(look s t).ev bz):e.wp P w ρ K↔(e.sub s).wp P w bz K:=by
 cases e with
 | st n x v=>cases he;simp only [E.wp,E.sub,dN (x:=x) (inl h),dN (x:=v) (inr h)]
 | bx t x=>cases he;simp only [E.wp,E.sub,dN (x:=x) h]
 | al t z=>exact Iff.rfl
 | bs el n c ps=>cases he;simp only [E.wp,E.sub,H7 (l:=ps) h]
 | ms el sz b z l c=>cases he;simp only [E.wp,E.sub,dN (x:=l) (inl h),dN (x:=c) (inr h)]
 | ap el sz b z a x=>cases he;simp only [E.wp,E.sub,dN (x:=a) (inl h),dN (x:=x) (inr h)]
 | cp sz d a=>cases he;simp only [E.wp,E.sub,dN (x:=d) (inl h),dN (x:=a) (inr h)]
 | call f args=>cases he;simp only [E.wp,E.sub,D9 (l:=args) h]
 | raw o=>cases he
end
def S.tmps:S→Option (List Nat)
 | .r _ q=>some q.tmps
 | .e _ q=>q.tmps
 | .gr s _ _ q=>some (s::q.tmps)
 | .ge s _ _ q=>q.tmps.map (s :: ·)
def sT (s:S):List Nat:=s.tmps.getD []
def alive (l:List S) (kp:List Nat) (t:Nat):Bool:=kp.contains t||l.any fun s=>(sT s).contains t
def S.dst:S→Option Nat
 | .r d _=>d
 | .e d _=>d
 | .gr _ _ d _=>d
 | .ge _ _ d _=>d
def S.sub (m:List (Nat×O)):S→Option S
 | .r d q=>some (.r d (q.sub m))
 | .e d q=>some (.e d (q.sub m))
 | .gr s b d q=>match look m s with
  | .t s'=>some (.gr s' b d (q.sub m))
  | .c _=>none
 | .ge s b d q=>match look m s with
  | .t s'=>some (.ge s' b d (q.sub m))
  | .c _=>none
def Ea (l:List S) (kp:List Nat) (d:Nat) (m:List (Nat×O)):Bool:=m.all fun p=>match p.2 with
 | .t n=>n != d || !(alive l kp p.1)
 | .c _=>true
def kill (d:Nat) (m:List (Nat×O)):List (Nat×O):=m.filter fun p=>p.1 != d
def u' (l:List S) (kp:List Nat):Option Nat→List (Nat×O)→Option (List (Nat×O))
 | none,m=>some m
 | some d,m=>if Ea l kp d m then some (kill d m) else none
def H8:S→Option (Nat×O)
 | .r (some d) (.mv x)=>some (d,x)
 | _=>none
def Bw (N:Nat):O→Bool
 | .t n=>decide (n < N)
 | .c _=>true
def Zg (d:Nat):O→Bool
 | .t n=>n != d
 | .c _=>true
def rY (N:Nat) (kp:List Nat):List (Nat×O)→List S→Option (List S)
 | m,[]=>if m.all fun p=>!(kp.contains p.1) then some [] else none
 | m,s::l=>
  if s.tmps.isNone then none else
  match H8 s with
  | some (d,x)=>
   if !(kp.contains d)&&Bw N x&&Zg d (x.sub m) then (u' l kp (some d) m).bind fun m'=>rY N kp ((d,x.sub m)::m') l
   else (s.sub m).bind fun s'=>(u' l kp s.dst m).bind fun m'=>(rY N kp m' l).map (s' :: ·)
  | none=>(s.sub m).bind fun s'=>(u' l kp s.dst m).bind fun m'=>(rY N kp m' l).map (s' :: ·)
section
variable {P:Program} {N:Nat} {ops:Array Oper}
theorem PF {d:Nat} {m:List (Nat×O)} {t:Nat} (ht:t≠d):look (kill d m) t=look m t:=by
 induction m with
 | nil=>rfl
 | cons p m ih=>
  obtain ⟨e,o⟩:=p;unfold kill at ih ⊢;rw [List.filter_cons];by_cases he:e=d
  ·subst he;simp only [bne_self_eq_false,Bool.false_eq_true,if_false];rw [ih];simp only [look,if_neg (fun h:e=t=>ht h.symm)]
  ·simp only [bne_iff_ne,ne_eq,he,not_false_eq_true,if_true,look]
   split
   ·rfl
   ·exact ih
theorem Zh {d:Nat} {m:List (Nat×O)}:look (kill d m) d = .t d:=by
 induction m with
 | nil=>rfl
 | cons p m ih=>
  obtain ⟨e,o⟩:=p;unfold kill at ih ⊢;rw [List.filter_cons];by_cases he:e=d
  ·subst he
   simpa using ih
  ·simp only [bne_iff_ne,ne_eq,he,not_false_eq_true,if_true,look,if_neg he];exact ih
theorem Zi {l:List S} {kp:List Nat} {d:Nat} {m:List (Nat×O)} (h:Ea l kp d m=true) {t:Nat} (ht:alive l kp t=true) (bq:t≠d):look m t≠.t d:=by
 induction m with
 | nil=>simp only [look];intro hh;cases hh;exact bq rfl
 | cons p m ih=>
  obtain ⟨e,o⟩:=p;simp only [Ea,List.all_cons,Bool.and_eq_true] at h;simp only [look]
  split
  ·rename_i he;subst he;cases o with
   | c v=>intro hh;cases hh
   | t n=>
    intro hh;cases hh;simp [ht] at h
  ·exact ih (by simpa [Ea] using h.2)
def Cp (l:List S) (kp:List Nat) (m:List (Nat×O)) (ρ bz:Env):Prop:=∀ t,alive l kp t=true→ρ.get t=(look m t).ev bz
theorem H9 {s:S} {l:List S} {kp:List Nat} {t:Nat} (h:alive l kp t=true):alive (s::l) kp t=true:=by
 simp only [alive,List.any_cons,Bool.or_eq_true] at h ⊢;rcases h with h | h
 ·exact .inl h
 ·exact .inr (.inr h)
theorem Zj {s:S} {l:List S} {kp:List Nat} {t:Nat} (h:t∈sT s):alive (s::l) kp t=true:=by
 simp [alive,h]
theorem Bx {ρ:Env} {d t:Nat} {v:Value} (h:t≠d):(ρ.put (some d) v).get t=ρ.get t:=by
 simp only [Env.put,Env.get,if_neg (fun hh:d=t=>h hh.symm)]
theorem Ia {ρ:Env} {d:Nat} {v:Value}:(ρ.put (some d) v).get d=some v:=by simp [Env.put,Env.get]
theorem zj {s:S} {l:List S} {kp:List Nat} {m m':List (Nat×O)} {ρ bz:Env} (h:Cp (s::l) kp m ρ bz) {d:Option Nat} (hk:u' l kp d m=some m') (v:Value):Cp l kp m' (ρ.put d v) (bz.put d v):=by
 intro t ht;cases d with
 | none=>
  simp only [u',Option.some.injEq] at hk;subst hk;exact h t (H9 ht)
 | some d=>
  simp only [u'] at hk
  split at hk
  ·rename_i PG;simp only [Option.some.injEq] at hk;subst hk;by_cases Eb:t=d
   ·subst Eb;rw [Zh,Ia];exact Ia.symm
   ·rw [Bx Eb,PF Eb,h t (H9 ht)];have:=Zi PG ht Eb;cases hl:look m t with
    | c v=>rfl
    | t n=>
     rw [hl] at this;have hn:n≠d:=fun hh=>this (by rw [hh])
     exact (Bx hn).symm
  ·cases hk
def Env.del (ρ:Env) (d:Nat):Env:=ρ.filter fun p=>p.1 != d
theorem Ib {ρ:Env} {d t:Nat}:(ρ.del d).get t=if t=d then none else ρ.get t:=by
 induction ρ with
 | nil=>simp [Env.del,Env.get]
 | cons p ρ ih=>
  obtain ⟨e,v⟩:=p;unfold Env.del at ih ⊢;rw [List.filter_cons];by_cases he:e=d
  ·subst he;simp only [bne_self_eq_false,Bool.false_eq_true,if_false];rw [ih];by_cases ht:t=e
   ·simp [ht]
   ·simp only [if_neg ht,Env.get,if_neg (fun hh:e=t=>ht hh.symm)]
  ·simp only [bne_iff_ne,ne_eq,he,not_false_eq_true,if_true,Env.get];by_cases het:e=t
   ·subst het;simp [he]
   ·simp only [het,if_false];exact ih
theorem Zk {ρ:Env} {a:Act} (h:Good dl N ρ a) {d:Nat} (hd:d < N) (v:Value):Good dl N (ρ.del d) (a.put (some d) v):=by
 have h1:=h.put (some d) v (fun t ht=>by cases ht;exact hd);refine ⟨h1.size,h1.defers,fun t u hu=>?_⟩;rw [Ib] at hu
 split at hu
 ·cases hu
 ·rename_i bq;exact h1.get t u (by rw [Bx bq];exact hu)
theorem PH {ρ bz:Env}:∀ {kp:List Nat},(∀ t∈kp,ρ.get t=bz.get t)→ρ.dV kp=bz.dV kp
 | [],_=>rfl
 | t::kp,h=>by
  have h1:=h t (by simp);have h2:=PH (kp:=kp) (fun t ht=>h t (by simp [ht]));simp only [Env.dV,h1,h2]
theorem Zl {m:List (Nat×O)} {t:Nat} (h:∀ p∈m,p.1≠t):look m t = .t t:=by
 induction m with
 | nil=>rfl
 | cons p m ih=>
  obtain ⟨e,o⟩:=p;simp only [look];rw [if_neg (h (e,o) (by simp)),ih (fun p hp=>h p (by simp [hp]))]
theorem Ic {o:Oper} {x:O} (hr:jD P o.op=some (.mv x)) {ρ:Env} {a:Act} {w:World} (hg:Good dl N ρ a) (U:Bw N x=true):∃ v,(∀ u,x.ev ρ=some u→u=v)∧o.wp P a w (fun a' w'=>a'=a.put o.dst v∧w'=w) uX:=by
 cases x with
 | c v=>
  refine ⟨v,fun u hu=>(by cases hu;rfl),?_⟩;refine Oper.wp_mono ?_ (zb (K:=fun v' w'=>v'=v∧w'=w) hr (v:=v) rfl ⟨rfl,rfl⟩ a hg.agree);rintro a' w' ⟨v',rfl,rfl,rfl⟩;exact ⟨rfl,rfl⟩
 | t n=>
  have hn:n < a.tmps.size:=by rw [hg.size];simpa [Bw] using U
  obtain ⟨v,hv⟩:∃ v,a.tmps[n]? = some v:=⟨a.tmps[n],by simp [hn]⟩
  have kN:Good dl N ((n,v)::ρ) a:=⟨hg.size,hg.defers,fun t u hu=>by
   simp only [Env.get] at hu
   split at hu
   ·rename_i hh;subst hh;rw [hv];exact hu
   ·exact hg.get t u hu⟩
  have tD:(R.mv (O.t n)).ev w ((n,v)::ρ)=some v:=by simp [R.ev,O.ev,Env.get]
  refine ⟨v,fun u hu=>?_,?_⟩
  ·have:=hg.get n u hu;rw [hv] at this;exact (Option.some.inj this).symm
  ·refine Oper.wp_mono ?_ (zb (K:=fun v' w'=>v'=v∧w'=w) hr (v:=v) tD ⟨rfl,rfl⟩ a kN.agree);rintro a' w' ⟨v',rfl,rfl,rfl⟩;exact ⟨rfl,rfl⟩
theorem Zm {s:S} {d:Nat} {x:O} (h:H8 s=some (d,x)):s = .r (some d) (.mv x):=by
 unfold H8 at h
 split at h
 ·cases h;rfl
 ·cases h
theorem PI {kp:List Nat} {G:Act→World→Prop} {K:Env→World→Prop}:∀ (l:List Oper) (st jh:List S) (m:List (Nat×O)) (ρ bz:Env) (a:Act) (w:World),uY P N ops l=some st→rY N kp m st=some jh →
   wpS P jh bz w (fun ρ w=>K (ρ.dV kp) w)→Good dl N ρ a→Cp st kp m ρ bz→(∀ bz a' w',Good dl N bz a'→K (bz.dV kp) w'→G a' w')→l0 P ops G l a w:=by
 intro l
 induction l with
 | nil=>
  intro st jh m ρ bz a w h1 hc h2 h3 hC h4;simp only [uY,Option.some.injEq] at h1;subst h1;simp only [rY] at hc
  split at hc
  ·rename_i hk;simp only [Option.some.injEq] at hc;subst hc
   have Zn:ρ.dV kp=bz.dV kp:=PH (fun t ht=>by
    have:=hC t (by simp [alive,ht])
    rw [Zl (fun p hp hh=>by
     have:=List.all_eq_true.1 hk p hp
     simp [hh,ht] at this)] at this
    exact this)
   refine h4 _ _ _ h3 ?_;rw [Zn];exact h2
  ·cases hc
 | cons o l ih=>
  intro st jh m ρ bz a w h1 hc h2 h3 hC h4;simp only [uY] at h1
  split at h1
  ·rename_i s t hs ht;simp only [Option.some.injEq] at h1;subst h1;simp only [rY] at hc
   split at hc
   ·cases hc
   rename_i Ec;obtain ⟨ts,ma⟩:∃ ts,s.tmps=some ts:=by
    cases hh:s.tmps with
    | none=>simp [hh] at Ec
    | some ts=>exact ⟨ts,rfl⟩
   have xr:∀ x∈ts,ρ.get x=(look m x).ev bz:=fun x U=>hC x (Zj (by simp [sT,ma,U]))
   have plain:((s.sub m).bind fun s'=>(u' t kp s.dst m).bind fun m'=>(rY N kp m' t).map (s' :: ·))=some jh→l0 P ops G (o::l) a w:=by
    intro hc;obtain ⟨s',fG,hc⟩:=Option.bind_eq_some_iff.1 hc;obtain ⟨m',gw,hc⟩:=Option.bind_eq_some_iff.1 hc;obtain ⟨t',jE,hc⟩:=Option.map_eq_some_iff.1 hc;subst hc;unfold pL at hs
    split at hs
    ·rename_i hd;have ci:=zd hd
     split at hs
     ·rename_i hg;have hw:Region.wanted o (yielded ops a.tmps)=true:=by simp [Region.wanted,hg]
      unfold l0;rw [if_pos hw]
      split at hs
      ·rename_i r hr;simp only [Option.some.injEq] at hs;subst hs;simp only [S.sub,Option.some.injEq] at fG;subst fG;simp only [S.tmps,Option.some.injEq] at ma;subst ma;obtain ⟨v,hv,hk⟩:=h2;rw [← PD r xr] at hv;refine Oper.wp_mono ?_ (zb (K:=fun v' w'=>v'=v∧w'=w) hr hv ⟨rfl,rfl⟩ a h3.agree);rintro a' w' ⟨v',rfl,rfl,rfl⟩;exact ih t t' m' _ _ _ _ ht jE hk (h3.put _ _ ci) (zj hC gw _) h4
      ·simp only [Option.some.injEq] at hs;subst hs;simp only [S.sub,Option.some.injEq] at fG;subst fG;simp only [S.tmps] at ma;have qK:=(PE _ ts ma xr).2 h2;refine Oper.wp_mono ?_ (Bi qK a h3.agree);rintro a' w' ⟨v',rfl,hk⟩;exact ih t t' m' _ _ _ _ ht jE hk (h3.put _ _ ci) (zj hC gw _) h4
     ·rename_i j want hg
      split at hs
      ·rename_i sj D6
       split at hs
       ·rename_i r hr;simp only [Option.some.injEq] at hs;subst hs;simp only [S.tmps,Option.some.injEq] at ma;subst ma;simp only [S.sub] at fG
        split at fG
        ·rename_i s2 Ie;simp only [Option.some.injEq] at fG;subst fG;obtain ⟨c,hc,hy,hn⟩:=h2;have bE:ρ.get sj=some c:=by rw [xr sj (by simp),Ie];exact hc
         have hw:=ze hg D6 h3 bE;unfold l0;by_cases iU:iB c want=true
         ·rw [if_pos (by rw [hw,iU])];obtain ⟨v,hv,hk⟩:=hy iU;rw [← PD r (fun x U=>xr x (by simp [U]))] at hv;refine Oper.wp_mono ?_ (zb (K:=fun v' w'=>v'=v∧w'=w) hr hv ⟨rfl,rfl⟩ a h3.agree);rintro a' w' ⟨v',rfl,rfl,rfl⟩;exact ih t t' m' _ _ _ _ ht jE hk (h3.put _ _ ci) (zj hC gw _) h4
         ·rw [if_neg (by rw [hw];exact iU)];exact ih t t' m' _ _ _ _ ht jE (hn (by simpa using iU)) (h3.put _ _ ci) (zj hC gw _) h4
        ·cases fG
       ·simp only [Option.some.injEq] at hs;subst hs;simp only [S.tmps,Option.map_eq_some_iff] at ma;obtain ⟨te,zk,ma⟩:=ma;subst ma;simp only [S.sub] at fG
        split at fG
        ·rename_i s2 Ie;simp only [Option.some.injEq] at fG;subst fG;obtain ⟨c,hc,hy,hn⟩:=h2;have bE:ρ.get sj=some c:=by rw [xr sj (by simp),Ie];exact hc
         have hw:=ze hg D6 h3 bE;unfold l0;by_cases iU:iB c want=true
         ·rw [if_pos (by rw [hw,iU])];have qK:=(PE _ te zk (fun x U=>xr x (by simp [U]))).2 (hy iU);refine Oper.wp_mono ?_ (Bi qK a h3.agree);rintro a' w' ⟨v',rfl,hk⟩;exact ih t t' m' _ _ _ _ ht jE hk (h3.put _ _ ci) (zj hC gw _) h4
         ·rw [if_neg (by rw [hw];exact iU)];exact ih t t' m' _ _ _ _ ht jE (hn (by simpa using iU)) (h3.put _ _ ci) (zj hC gw _) h4
        ·cases fG
      ·cases hs
    ·cases hs
   split at hc
   ·rename_i d x ik;have Ed:=Zm ik;subst Ed
    split at hc
    ·rename_i Ig;simp only [Bool.and_eq_true,Bool.not_eq_true'] at Ig;obtain ⟨⟨hkp,ah⟩,xt⟩:=Ig;obtain ⟨m',gw,hc⟩:=Option.bind_eq_some_iff.1 hc;obtain ⟨hr,Zo,hg,hN⟩:=Pw hs;have hw:Region.wanted o (yielded ops a.tmps)=true:=by simp [Region.wanted,hg]
     unfold l0;rw [if_pos hw];obtain ⟨v,hv,kh⟩:=Ic (w:=w) hr h3 ah;refine Oper.wp_mono ?_ kh;rintro a' w' ⟨rfl,rfl⟩;rw [← Zo];simp only [S.tmps,Option.some.injEq] at ma;subst ma;have tD:x.ev ρ=(x.sub m).ev bz:=dN xr;have kM:=hN d rfl;have key:∃ zm,Good dl N zm (a.put (some d) v)∧zm.get d=x.ev ρ∧∀ t,t≠d→zm.get t=ρ.get t:=by
      cases U:x.ev ρ with
      | none=>exact ⟨ρ.del d,Zk h3 kM v,by rw [Ib,if_pos rfl],fun t ht=>by rw [Ib,if_neg ht]⟩
      | some u=>
       obtain rfl:=hv u U;exact ⟨ρ.put (some d) u,h3.put _ _ (fun t ht=>by cases ht;exact kM),Ia,fun t ht=>Bx ht⟩
     obtain ⟨zm,g1,g2,g3⟩:=key;refine ih t jh _ zm bz _ _ ht hc h2 g1 ?_ h4;intro y hy;simp only [u'] at gw
     split at gw
     ·rename_i PG;simp only [Option.some.injEq] at gw;subst gw;by_cases Ee:y=d
      ·subst Ee;simp only [look,if_pos];rw [g2,tD]
      ·simp only [look,if_neg (fun h:d=y=>Ee h.symm)];rw [g3 y Ee,PF Ee];exact hC y (H9 hy)
     ·cases gw
    ·exact plain hc
   ·exact plain hc
  ·cases h1
end
end
section
open Go
variable {dl:List Deferred}
inductive IR where
 | skip
 | ret
 | exit (id:Nat)
 | seq (a b:IR)
 | cond (c:O) (a b:IR)
 | block (id:Nat) (a:IR)
 | loop (a:IR)
 | oO (dw:Bool) (st:List S) (kp:List Nat)
 | dr (t:D) (kp:List Nat)
 | raw (c:Code)
 deriving Inhabited
abbrev gy:=Exit→Env→World→Prop
def kO (next:Env→World→Prop) (Q:gy):gy
 | .normal,ρ,w=>next ρ w
 | e,ρ,w=>Q e ρ w
def ji (id:Nat) (Q:gy):gy
 | .exit mQ,ρ,w=>if mQ=id then Q .normal ρ w else Q (.exit mQ) ρ w
 | e,ρ,w=>Q e ρ w
def tE (dl:List Deferred) (N:Nat) (Q:gy):Exit→Act→World→Prop:=fun e a w=>∃ ρ,Good dl N ρ a∧Q e ρ w
def cD (P:Program) (N:Nat):IR→gy→Env→World→Prop
 | .skip,Q,ρ,w=>Q .normal ρ w
 | .ret,Q,ρ,w=>Q .ret ρ w
 | .exit id,Q,ρ,w=>Q (.exit id) ρ w
 | .seq a b,Q,ρ,w=>cD P N a (kO (cD P N b Q) Q) ρ w
 | .cond c a b,Q,ρ,w=>∃ t,c.ev ρ=some (.bool t)∧(t=true→cD P N a Q ρ w)∧(t=false→cD P N b Q ρ w)
 | .block id a,Q,ρ,w=>cD P N a (ji id Q) ρ w
 | .loop a,Q,ρ,w=>∃ (I:Nat→Env→World→Prop) (n:Nat),I n ρ w∧∀ n ρ w,I n ρ w→cD P N a (kO (fun bz w'=>∃ m,m < n∧I m bz w') Q) ρ w
 | .oO dw st kp,Q,ρ,w=>wpS P st ρ (if dw then w.drew else w) fun ρ w=>Q .normal (ρ.dV kp) w
 | .dr t kp,Q,ρ,w=>gx P t ρ w.drew [] fun ρ w=>Q .normal (ρ.dV kp) w
 | .raw c,Q,ρ,w=>∀ dl a,Good dl N ρ a→c.wp P (tE dl N Q) a w
def PJ (id:Nat):List (Nat×List Nat×List Nat)→Option (List Nat×List Nat)
 | []=>none
 | (i,x)::r=>if i == id then some x else PJ id r
def Ih (P:Program) (N:Nat) (id:Nat) (ops:Array Oper) (draw:Bool) (kp pm:List Nat):Option IR:=
 if draw then
  if Region.noSelect ops&&zf ops pm&&P.follows .mixedOrders then
   match qH P N ops pm ops.size (Array.replicate ops.size false) with
   | some t=>match t.dp with
    | some st=>some (.oO true st kp)
    | none=>some (.dr t kp)
   | none=>some (.raw (.region id ops draw))
  else some (.raw (.region id ops draw))
 else (uY P N ops ops.toList).map fun st=>.oO false ((rY N kp [] st).getD st) kp
def eF (P:Program) (N:Nat) (H:List (Nat×List Nat×List Nat)):Code→Option IR
 | .skip=>some .skip
 | .ret=>some .ret
 | .exit id=>some (.exit id)
 | .seq a b=>(eF P N H a).bind fun x=>(eF P N H b).map (.seq x)
 | .cond c a b=>(eF P N H a).bind fun x=>(eF P N H b).map (.cond (bf c) x)
 | .block id a=>(eF P N H a).map (.block id)
 | .loop a=>(eF P N H a).map .loop
 | .region id ops draw=>(PJ id H).bind fun x=>Ih P N id ops draw x.1 x.2
 | c=>some (.raw c)
section
variable {P:Program} {N:Nat}
theorem least {p:Nat→Prop} (h:∃ n,p n):∃ n,p n∧∀ m,m < n→¬ p m:=by
 obtain ⟨n,hn⟩:=h
 induction n using Nat.strongRecOn with
 | _ n ih=>
  by_cases hm:∃ m,m < n∧p m
  ·obtain ⟨m,h1,h2⟩:=hm;exact ih m h1 h2
  ·exact ⟨n,hn,fun m h1 h2=>hm ⟨m,h1,h2⟩⟩
open Classical in
theorem Zp {c:Code} {Q:Exit→Act→World→Prop} {a:Act} {w:World} (I:Nat→Act→World→Prop) (n:Nat) (h0:I n a w)
   (round:∀ n a w,I n a w→c.wp P (Exit.then (fun a' w'=>∃ m,m < n∧I m a' w') Q) a w):(Code.loop c).wp P Q a w:=by
 refine wp_loop (fun a w=>∃ n,I n a w) (fun a w=>if h:∃ n,I n a w then Classical.choose (least h) else 0) ⟨n,h0⟩ ?_;intro a w h;have hl:=Classical.choose_spec (least h);have PK:(if h:∃ n,I n a w then Classical.choose (least h) else 0)=Classical.choose (least h):=dif_pos h;refine wp_mono (round _ a w hl.1) ?_;intro e a' w' hq;cases e with
 | normal=>
  obtain ⟨m,hm,hI⟩:=hq;have hex:∃ n,I n a' w':=⟨m,hI⟩;refine ⟨hex,?_⟩;show (if h:∃ n,I n a' w' then Classical.choose (least h) else 0) < (if h:∃ n,I n a w then Classical.choose (least h) else 0);rw [PK,dif_pos hex];have h2:=Classical.choose_spec (least hex);have:Classical.choose (least hex)≤m:=by
   rcases Nat.lt_or_ge m (Classical.choose (least hex)) with ah | hge
   ·exact absurd hI (h2.2 m ah)
   ·exact hge
  omega
 | _=>exact hq
theorem Ef {H:List (Nat×List Nat×List Nat)}:∀ (c:Code) (ir:IR) (Q:gy) (ρ:Env) (a:Act) (w:World),eF P N H c=some ir→cD P N ir Q ρ w→Good dl N ρ a→c.wp P (tE dl N Q) a w:=by
 intro c
 induction c with
 | skip=>intro ir Q ρ a w h hw hg;simp only [eF,Option.some.injEq] at h;subst h;exact wp_skip ⟨ρ,hg,hw⟩
 | ret=>intro ir Q ρ a w h hw hg;simp only [eF,Option.some.injEq] at h;subst h;exact wp_ret ⟨ρ,hg,hw⟩
 | exit id=>intro ir Q ρ a w h hw hg;simp only [eF,Option.some.injEq] at h;subst h;exact wp_exit ⟨ρ,hg,hw⟩
 | seq x y qL qM=>
  intro ir Q ρ a w h hw hg;simp only [eF] at h;obtain ⟨a1,h1,h⟩:=Option.bind_eq_some_iff.1 h;obtain ⟨b1,h2,h⟩:=Option.map_eq_some_iff.1 h;subst h;refine wp_seq (wp_mono (qL a1 _ ρ a w h1 hw hg) ?_);intro e a' w' hq;obtain ⟨bz,cM,hq⟩:=hq;cases e with
  | normal=>exact qM b1 Q bz a' w' h2 hq cM
  | _=>exact ⟨bz,cM,hq⟩
 | cond c x y qL qM=>
  intro ir Q ρ a w h hw hg;simp only [eF] at h;obtain ⟨a1,h1,h⟩:=Option.bind_eq_some_iff.1 h;obtain ⟨b1,h2,h⟩:=Option.map_eq_some_iff.1 h;subst h;obtain ⟨t,hc,ht,hf⟩:=hw;have he:=hg.agree c _ hc;exact wp_cond_split he (fun e=>qL a1 Q ρ a w h1 (ht e) hg) (fun e=>qM b1 Q ρ a w h2 (hf e) hg)
 | block id x ih=>
  intro ir Q ρ a w h hw hg;simp only [eF] at h;obtain ⟨a1,h1,h⟩:=Option.map_eq_some_iff.1 h;subst h;refine wp_block (wp_mono (ih a1 _ ρ a w h1 hw hg) ?_);intro e a' w' hq;obtain ⟨bz,cM,hq⟩:=hq;cases e with
  | exit mQ=>
   simp only [Exit.inBlock,ji] at hq ⊢
   split
   ·rename_i hh;rw [if_pos hh] at hq;exact ⟨bz,cM,hq⟩
   ·rename_i hh;rw [if_neg hh] at hq;exact ⟨bz,cM,hq⟩
  | _=>exact ⟨bz,cM,hq⟩
 | loop x ih=>
  intro ir Q ρ a w h hw hg;simp only [eF] at h;obtain ⟨a1,h1,h⟩:=Option.map_eq_some_iff.1 h;subst h;obtain ⟨I,n,h0,hr⟩:=hw;refine Zp (fun n a w=>∃ ρ,Good dl N ρ a∧I n ρ w) n ⟨ρ,hg,h0⟩ ?_;rintro n a w ⟨ρ,hg,hI⟩;refine wp_mono (ih a1 _ ρ a w h1 (hr n ρ w hI) hg) ?_;intro e a' w' hq;obtain ⟨bz,cM,hq⟩:=hq;cases e with
  | normal=>obtain ⟨m,hm,hI⟩:=hq;exact ⟨m,hm,bz,cM,hI⟩
  | _=>exact ⟨bz,cM,hq⟩
 | region id ops draw=>
  intro ir Q ρ a w h hw hg;simp only [eF] at h;obtain ⟨x,U,h0⟩:=Option.bind_eq_some_iff.1 h;clear h;have h:=h0;clear h0;obtain ⟨kp,pm⟩:=x;unfold Ih at h;have fin:∀ bz a' w',Good dl N bz a'→Q .normal (bz.dV kp) w'→tE dl N Q .normal a' w':=fun bz a' w' cM hq=>⟨_,cM.dV kp,hq⟩
  split at h
  ·rename_i hd;subst hd
   split at h
   ·rename_i hc;simp only [Bool.and_eq_true] at hc;obtain ⟨⟨hs,kL⟩,hm⟩:=hc
    split at h
    ·rename_i t ht
     split at h
     ·rename_i st cg;simp only [Option.some.injEq] at h;subst h;refine PC (K:=fun ρ w=>Q .normal (ρ.dV kp) w) hm kL hs ht (PB t st ρ _ [] cg ?_) hg fin;exact hw
     ·simp only [Option.some.injEq] at h;subst h;exact PC (K:=fun ρ w=>Q .normal (ρ.dV kp) w) hm kL hs ht hw hg fin
    ·simp only [Option.some.injEq] at h;subst h;exact hw dl a hg
   ·simp only [Option.some.injEq] at h;subst h;exact hw dl a hg
  ·rename_i hd;have:draw=false:=by simpa using hd
   subst this;obtain ⟨st,cg,h⟩:=Option.map_eq_some_iff.1 h;subst h;cases vb:rY N kp [] st with
   | none=>
    rw [vb] at hw;exact wp_region_list (D5 (fun _ _ h=>h) _ _ _ (Pm (G:=fun a w=>tE dl N Q .normal a w) ops.toList st ρ a w (fun ρ w=>Q .normal (ρ.dV kp) w) cg hw hg fin))
   | some jh=>
    rw [vb] at hw;exact wp_region_list (D5 (fun _ _ h=>h) _ _ _ (PI (G:=fun a w=>tE dl N Q .normal a w) (K:=fun ρ w=>Q .normal ρ w) ops.toList st jh [] ρ ρ a w cg vb hw hg (fun t _=>rfl) fin))
 | _=>
  intro ir Q ρ a w h hw hg;simp only [eF,Option.some.injEq] at h;subst h;exact hw dl a hg
inductive RV where
 | t (s:Nat)
 | l (s:Nat)
 | n (s k:Nat)
 deriving Inhabited
def RV.ev (w:World) (ρ:Env):RV→Option Value
 | .t s=>ρ.get s
 | .l s=>(ρ.get s).bind (y6 w)
 | .n s k=>(ρ.get s).bind (cB w k)
def kP (w:World) (ρ:Env):List RV→Option (List Value)
 | []=>some []
 | x::l=>match x.ev w ρ,kP w ρ l with
  | some v,some vs=>some (v::vs)
  | _,_=>none
def nW : List Value→Value
 | [v]=>v
 | vs=>.tuple vs.toArray
def rZ (P:Program):List ResultVar→Option (List RV)
 | []=>some []
 | .tmp t::l=>(rZ P l).map (RV.t t :: ·)
 | .cell a t::l=>match P.underlying t,gu P t with
  | some d,some n=>(rZ P l).map ((if qD d then RV.n a n else RV.l a) :: ·)
  | _,_=>none
theorem Ii {ρ:Env} {a:Act} {w:World} (hg:Good dl N ρ a):∀ (l:List ResultVar) (rs:List RV) (vs:List Value),rZ P l=some rs→kP w ρ rs=some vs →
   ro P w (l.mapM (fun | .tmp t=>pure (a.tmps.getD t undef) | .cell c t=>do loadVar t (← asAddr (a.tmps.getD c undef)):ResultVar→Sem Value))=some vs:=by
 intro l
 induction l with
 | nil=>
  intro rs vs h1 h2;simp only [rZ,Option.some.injEq] at h1;subst h1;simp only [kP,Option.some.injEq] at h2;subst h2;simp
 | cons x l ih=>
  intro rs vs h1 h2;have Ij:∀ s u,ρ.get s=some u→a.tmps.getD s undef=u:=by
   intro s u hu;have:=hg.get s u hu;simp [this]
  cases x with
  | tmp t=>
   simp only [rZ] at h1;obtain ⟨Ik,h3,h1⟩:=Option.map_eq_some_iff.1 h1;subst h1;simp only [kP] at h2
   split at h2
   ·rename_i v vs' e1 e2;cases h2;simp only [RV.ev] at e1;simp only [List.mapM_cons,cY,fZ,Option.bind_some,ih Ik vs' h3 e2,Ij t v e1]
   ·cases h2
  | cell c t=>
   simp only [rZ] at h1
   split at h1
   ·rename_i d n hd hn;obtain ⟨Ik,h3,h1⟩:=Option.map_eq_some_iff.1 h1;subst h1;simp only [kP] at h2
    split at h2
    ·rename_i v vs' e1 e2;cases h2;have key:ro P w (do loadVar t (← asAddr (a.tmps.getD c undef)))=some v:=by
      cases hb:qD d with
      | true=>
       simp only [hb,if_true,RV.ev] at e1;obtain ⟨u,hu,e1⟩:=Option.bind_eq_some_iff.1 e1;rw [Ij c u hu];unfold cB at e1
       split at e1
       ·rename_i ad;obtain ⟨cs,iT,e1⟩:=Option.map_eq_some_iff.1 e1;subst e1;unfold gu at hn;simp only [asAddr,cY,fZ,Option.bind_some,loadVar,yX,hd,Option.map_some,hb,if_true,qC,hn,O',iT]
       ·cases e1
      | false=>
       simp only [hb,Bool.false_eq_true,if_false,RV.ev] at e1;obtain ⟨u,hu,e1⟩:=Option.bind_eq_some_iff.1 e1;rw [Ij c u hu];unfold y6 at e1
       split at e1
       ·rename_i ad;simp only [asAddr,cY,fZ,Option.bind_some,loadVar,yX,hd,Option.map_some,hb,Bool.false_eq_true,if_false,Hz,e1]
       ·cases e1
     simp only [List.mapM_cons,cY,key,fZ,Option.bind_some,ih Ik vs' h3 e2]
    ·cases h2
   ·cases h1
def aD (P:Program) (f:FuncId) (args:List Value) (w:World) (R:Value→World→Prop):Prop:=
 Calls P f args.toArray w fun e w'=>∃ v,e = .returned v∧R v w'
theorem aD.mono {f:FuncId} {args:List Value} {w:World} {R R':Value→World→Prop} (h:aD P f args w R) (hr:∀ v w',R v w'→R' v w'):aD P f args w R':=
 Calls.mono h fun e w' ⟨v,he,hv⟩=>⟨v,he,hr _ _ hv⟩
def qN:Nat→List Value→Env
 | _,[]=>[]
 | i,v::l=>(i,v)::qN (i+1) l
def Il (rs:List RV) (R:Value→World→Prop):gy
 | .normal,ρ,w=>∃ vs,kP w ρ rs=some vs∧R (nW vs) w
 | .ret,ρ,w=>∃ vs,kP w ρ rs=some vs∧R (nW vs) w
 | _,_,_=>False
theorem Im:∀ (l:List Value) (i t:Nat) (v:Value),(qN i l).get t=some v→i≤t∧l[t - i]? = some v:=by
 intro l
 induction l with
 | nil=>intro i t v h;simp [qN,Env.get] at h
 | cons x l ih=>
  intro i t v h;simp only [qN,Env.get] at h
  split at h
  ·rename_i Io;subst Io;exact ⟨Nat.le_refl _,by simpa using h⟩
  ·obtain ⟨h1,h2⟩:=ih (i+1) t v h;refine ⟨by omega,?_⟩;rw [show t - i=(t - (i+1))+1 by omega]
   simpa using h2
structure Fits (P:Program) (f:Nat) (lx:Nat) (H:List (Nat×List Nat×List Nat)) (ir:IR) (rs:List RV) (N:Nat):Prop where
 go:∃ fn c,P.funcs[f]? = some fn∧fn.body=some c∧fn.ntmps=N∧lx≤N∧eF P N H c=some ir∧rZ P fn.results.toList=some rs
theorem Fits.calls {f:Nat} {lx:Nat} {H:List (Nat×List Nat×List Nat)} {ir:IR} {rs:List RV} (h:Fits P f lx H ir rs N) {args:List Value} (hn:args.length=lx) {w:World} {R:Value→World→Prop}
   (hw:cD P N ir (Il rs R) (qN 0 args) w):aD P f args w R:=by
 obtain ⟨fn,c,hf,hb,hN,hle,hd,vd⟩:=h.go;refine calls_of_wp hf hb ?_;have hg:Good [] N (qN 0 args) { tmps:=args.toArray++Array.replicate (fn.ntmps - args.toArray.size) undef,defers:=[]}:=by
  refine ⟨?_,rfl,?_⟩
  ·simp only [Array.size_append,List.size_toArray,Array.size_replicate];omega
  ·intro t v ht;obtain ⟨_,h2⟩:=Im args 0 t v ht;have ah:t < args.length:=by
    rcases Nat.lt_or_ge t args.length with h | h
    ·exact h
    ·simp [List.getElem?_eq_none h] at h2
   simp only [Nat.sub_zero] at h2;rw [Array.getElem?_append_left (by simpa using ah)]
   simpa using h2
 refine wp_mono (Ef c ir _ _ _ _ hd hw hg) ?_;intro e a' w' hq;obtain ⟨bz,cM,hq⟩:=hq;have fin:(∃ vs,kP w' bz rs=some vs∧R (nW vs) w')→a'.defers=[]∧∃ v,(results fn a'.tmps).run P w' = .ok v w'∧∃ u,Ending.returned v = .returned u∧R u w':=by
  rintro ⟨vs,h1,h2⟩;refine ⟨cM.defers,nW vs,kI ?_,_,rfl,h2⟩;unfold results;rw [cY,Array.mapM_eq_mapM_toList,DR];have:=Ii (P:=P) cM fn.results.toList rs vs vd h1;refine Eq.trans (congrArg (fun o:Option (List Value)=>(o.map List.toArray).bind fun vs=>ro P w' (pure (if h:vs.size=1 then vs[0] else .tuple vs):Sem Value)) this) ?_;simp only [Option.map_some,Option.bind_some,fZ,List.size_toArray,Option.some.injEq]
  match vs with
  | []=>rfl
  | [v]=>rfl
  | v::u::l=>simp [nW]
 cases e with
 | normal=>exact fin hq
 | ret=>exact fin hq
 | _=>exact hq.elim
end
end
section
open Go
section
variable {P:Program} {N:Nat} {Q:gy} {ρ:Env} {w:World} {K:Env→World→Prop}
@[go_sem] theorem amz:cD P N .skip Q ρ w=Q .normal ρ w:=_root_.id rfl
@[go_sem] theorem amA:cD P N .ret Q ρ w=Q .ret ρ w:=_root_.id rfl
@[go_sem] theorem amB (id:Nat):cD P N (.exit id) Q ρ w=Q (.exit id) ρ w:=_root_.id rfl
@[go_sem] theorem amC (a b:IR):cD P N (.seq a b) Q ρ w=cD P N a (kO (cD P N b Q) Q) ρ w:=_root_.id rfl
@[go_sem] theorem amD (id:Nat) (a:IR):cD P N (.block id a) Q ρ w=cD P N a (ji id Q) ρ w:=_root_.id rfl
@[go_sem] theorem amE (st:List S) (kp:List Nat):cD P N (.oO false st kp) Q ρ w=wpS P st ρ w fun ρ w=>Q .normal (ρ.dV kp) w:=_root_.id rfl
@[go_sem] theorem amF (st:List S) (kp:List Nat):cD P N (.oO true st kp) Q ρ w=wpS P st ρ w.drew fun ρ w=>Q .normal (ρ.dV kp) w:=_root_.id rfl
@[go_sem] theorem amG {c:O} {a b:IR} (h:c.ev ρ=some (.bool true)):cD P N (.cond c a b) Q ρ w=cD P N a Q ρ w:=by
 simp [cD,h]
@[go_sem] theorem amH {c:O} {a b:IR} (h:c.ev ρ=some (.bool false)):cD P N (.cond c a b) Q ρ w=cD P N b Q ρ w:=by
 simp [cD,h]
theorem aX {c:O} {a b:IR} {t:Bool} (h:c.ev ρ=some (.bool t)) (ht:t=true→cD P N a Q ρ w) (hf:t=false→cD P N b Q ρ w):cD P N (.cond c a b) Q ρ w:=⟨t,h,ht,hf⟩
theorem dz {b:IR} (I:Nat→Env→World→Prop) (n:Nat) (h0:I n ρ w)
   (hs:∀ n ρ w,I n ρ w→cD P N b (kO (fun bz w'=>∃ m,m < n∧I m bz w') Q) ρ w):cD P N (.loop b) Q ρ w:=⟨I,n,h0,hs⟩
@[go_sem] theorem amI (next:Env→World→Prop):kO next Q .normal=next:=_root_.id rfl
@[go_sem] theorem amJ (next:Env→World→Prop):kO next Q .ret=Q .ret:=_root_.id rfl
@[go_sem] theorem amK (next:Env→World→Prop) (id:Nat):kO next Q (.exit id)=Q (.exit id):=_root_.id rfl
@[go_sem] theorem amL (id:Nat):ji id Q .normal=Q .normal:=_root_.id rfl
@[go_sem] theorem amM (id:Nat):ji id Q .ret=Q .ret:=_root_.id rfl
@[go_sem] theorem amN (id:Nat):ji id Q (.exit id)=Q .normal:=by funext ρ w;simp [ji]
@[go_sem] theorem amO (id mQ:Nat) (h:(mQ=id)=False):ji id Q (.exit mQ)=Q (.exit mQ):=by funext ρ w;simp [ji,h]
@[go_sem] theorem amP (rs:List RV) (R:Value→World→Prop):Il rs R .normal ρ w=∃ vs,kP w ρ rs=some vs∧R (nW vs) w:=_root_.id rfl
@[go_sem] theorem amQ (rs:List RV) (R:Value→World→Prop):Il rs R .ret ρ w=∃ vs,kP w ρ rs=some vs∧R (nW vs) w:=_root_.id rfl
@[go_sem] theorem amR:wpS P [] ρ w K=K ρ w:=_root_.id rfl
@[go_sem] theorem amS (d:Option Nat) (r:R) (l:List S):wpS P (.r d r::l) ρ w K=∃ v,r.ev w ρ=some v∧wpS P l (ρ.put d v) w K:=_root_.id rfl
@[go_sem] theorem amT (d:Option Nat) (e:E) (l:List S):wpS P (.e d e::l) ρ w K=e.wp P w ρ fun v w'=>wpS P l (ρ.put d v) w' K:=_root_.id rfl
@[go_sem] theorem amU {s:Nat} {d:Option Nat} {r:R} {l:List S} (h:ρ.get s=some (.bool true)):wpS P (.gr s true d r::l) ρ w K=(∃ v,r.ev w ρ=some v∧wpS P l (ρ.put d v) w K):=by
 simp [wpS,h,iB,undef]
@[go_sem] theorem amV {s:Nat} {d:Option Nat} {r:R} {l:List S} (h:ρ.get s=some (.bool false)):wpS P (.gr s false d r::l) ρ w K=(∃ v,r.ev w ρ=some v∧wpS P l (ρ.put d v) w K):=by
 simp [wpS,h,iB,undef]
@[go_sem] theorem amW {s:Nat} {d:Option Nat} {r:R} {l:List S} (h:ρ.get s=some (.bool true)):wpS P (.gr s false d r::l) ρ w K=wpS P l (ρ.put d undef) w K:=by
 simp [wpS,h,iB,undef]
@[go_sem] theorem amX {s:Nat} {d:Option Nat} {r:R} {l:List S} (h:ρ.get s=some (.bool false)):wpS P (.gr s true d r::l) ρ w K=wpS P l (ρ.put d undef) w K:=by
 simp [wpS,h,iB,undef]
@[go_sem] theorem amY {s:Nat} {d:Option Nat} {r:R} {l:List S} (h:ρ.get s=some undef):wpS P (.gr s false d r::l) ρ w K=wpS P l (ρ.put d undef) w K:=by
 simp [wpS,h,iB,undef]
@[go_sem] theorem amZ {s:Nat} {d:Option Nat} {e:E} {l:List S} (h:ρ.get s=some (.bool true)):wpS P (.ge s true d e::l) ρ w K=(e.wp P w ρ fun v w'=>wpS P l (ρ.put d v) w' K):=by
 simp [wpS,h,iB,undef]
@[go_sem] theorem am0 {s:Nat} {d:Option Nat} {e:E} {l:List S} (h:ρ.get s=some (.bool false)):wpS P (.ge s false d e::l) ρ w K=(e.wp P w ρ fun v w'=>wpS P l (ρ.put d v) w' K):=by
 simp [wpS,h,iB,undef]
@[go_sem] theorem am1 {s:Nat} {d:Option Nat} {e:E} {l:List S} (h:ρ.get s=some (.bool true)):wpS P (.ge s false d e::l) ρ w K=wpS P l (ρ.put d undef) w K:=by
 simp [wpS,h,iB,undef]
@[go_sem] theorem am2 {s:Nat} {d:Option Nat} {e:E} {l:List S} (h:ρ.get s=some (.bool false)):wpS P (.ge s true d e::l) ρ w K=wpS P l (ρ.put d undef) w K:=by
 simp [wpS,h,iB,undef]
theorem tG {s:Nat} {b:Bool} {c:Bool} {d:Option Nat} {r:R} {l:List S} (h:ρ.get s=some (.bool c))
   (ht:c=true→wpS P (.gr s b d r::l) ρ w K) (hf:c=false→wpS P (.gr s b d r::l) ρ w K):wpS P (.gr s b d r::l) ρ w K:=by
 cases c
 ·exact hf rfl
 ·exact ht rfl
@[go_sem] theorem am3 {rd:List (Nat×Nat)}:gx P .nil ρ w rd K=K ρ w:=_root_.id rfl
@[go_sem] theorem am4 {rd:List (Nat×Nat)} (i:Nat) (d:Option Nat) (r:R) (t:D):gx P (.r i none d r t) ρ w rd K=∃ v,r.ev w ρ=some v∧gx P t (ρ.put d v) w (xn i (r.iC ρ) rd) K:=_root_.id rfl
@[go_sem] theorem am5 {rd:List (Nat×Nat)} (i:Nat) (d:Option Nat) (e:E) (fl:List Nat) (t:D):gx P (.e i none d e fl t) ρ w rd K=e.wp P w ρ fun v w'=>oN fl w w' rd∧gx P t (ρ.put d v) w' rd K:=_root_.id rfl
section
variable {rd:List (Nat×Nat)}
end
@[go_sem] theorem am6 (t:D) (kp:List Nat):cD P N (.dr t kp) Q ρ w=gx P t ρ w.drew [] fun ρ w=>Q .normal (ρ.dV kp) w:=_root_.id rfl
theorem gz (jP:Env→World→Prop) {l:List S} (h:wpS P l ρ w jP) (hk:∀ ρ w,jP ρ w→K ρ w):wpS P l ρ w K:=by
 induction l generalizing ρ w with
 | nil=>exact hk _ _ h
 | cons s l ih=>
  cases s with
  | r d r=>obtain ⟨v,h1,h2⟩:=h;exact ⟨v,h1,ih h2⟩
  | e d e=>exact E.mono (fun v w' h=>ih h) e h
  | gr s b d r=>obtain ⟨c,h1,h2,h3⟩:=h;exact ⟨c,h1,fun hh=>let ⟨v,h4,h5⟩:=h2 hh;⟨v,h4,ih h5⟩,fun hh=>ih (h3 hh)⟩
  | ge s b d e=>obtain ⟨c,h1,h2,h3⟩:=h;exact ⟨c,h1,fun hh=>E.mono (fun v w' h=>ih h) e (h2 hh),fun hh=>ih (h3 hh)⟩
@[go_sem] theorem am7 (s t:Nat) (v:Value):Env.get ((s,v)::ρ) t=if s=t then some v else ρ.get t:=_root_.id rfl
def PL (t:Nat) (v:Option Value) (r:Env):Env:=
 match v with
 | some v=>(t,v)::r
 | none=>r
@[go_sem] theorem am8 (t:Nat) (v:Value) (r:Env):PL t (some v) r=(t,v)::r:=_root_.id rfl
@[go_sem] theorem am9:ρ.dV []=[]:=_root_.id rfl
@[go_sem] theorem am' (t:Nat) (ts:List Nat):ρ.dV (t::ts)=PL t (ρ.get t) (ρ.dV ts):=by
 simp only [Env.dV];cases ρ.get t<;>rfl
@[go_sem] theorem ana (d:Nat) (v:Value):ρ.put (some d) v=(d,v)::ρ:=_root_.id rfl
@[go_sem] theorem anb (v:Value):ρ.put none v=ρ:=_root_.id rfl
@[go_sem] theorem O_t (n:Nat):(O.t n).ev ρ=ρ.get n:=_root_.id rfl
@[go_sem] theorem O_c (v:Value):(O.c v).ev ρ=some v:=_root_.id rfl
@[go_sem] theorem anc:eP ρ []=some []:=_root_.id rfl
@[go_sem] theorem ane (x:O) (l:List O):eP ρ (x::l)=(x.ev ρ).bind fun v=>(eP ρ l).map fun vs=>v::vs:=by
 simp only [eP];cases x.ev ρ<;>cases eP ρ l<;>rfl
@[go_sem] theorem anf:kK ρ []=some []:=_root_.id rfl
@[go_sem] theorem ang (o n:Nat) (x:O) (l:List (Nat×Nat×O)):kK ρ ((o,n,x)::l)=(x.ev ρ).bind fun v=>(kK ρ l).map fun vs=>(o,n,v)::vs:=by
 simp only [kK];cases x.ev ρ<;>cases kK ρ l<;>rfl
@[go_sem] theorem anh:nS ρ none=some none:=_root_.id rfl
@[go_sem] theorem ani (x:O):nS ρ (some x)=(x.ev ρ).map some:=by
 simp only [nS];cases x.ev ρ<;>rfl
@[go_sem] theorem anj:kP w ρ []=some []:=_root_.id rfl
@[go_sem] theorem ank (x:RV) (l:List RV):kP w ρ (x::l)=(x.ev w ρ).bind fun v=>(kP w ρ l).map fun vs=>v::vs:=by
 simp only [kP];cases x.ev w ρ<;>cases kP w ρ l<;>rfl
end
@[go_sem] theorem anl (v:Value):nW [v]=v:=_root_.id rfl
@[go_sem] theorem anm (v u:Value) (l:List Value):nW (v::u::l) = .tuple (v::u::l).toArray:=_root_.id rfl
@[go_sem] theorem ann (w:World) (ρ:Env) (s:Nat):(RV.t s).ev w ρ=ρ.get s:=_root_.id rfl
@[go_sem] theorem ano (w:World) (ρ:Env) (s k:Nat):(RV.n s k).ev w ρ=(ρ.get s).bind (cB w k):=_root_.id rfl
attribute [go_sem] qN R.ev HB HC y6 y7 A' HD y8 uW HE HF HG HH HI DT HJ HK HL HM HN lX HO HP HQ HR DU za y9 qE
attribute [go_sem] R.iC xn oN Bp
@[go_sem] theorem anp (cs:Array Value):kJ cs []=some cs:=_root_.id rfl
def One (v:Value):Prop:=v.cells = #[v]
@[go_sem] theorem anq {l:List Value} {off:Nat} {v:Value} {rest:List (Nat×Nat×Value)} (Zq:One v) (h:off < l.length) :
   kJ l.toArray ((off,1,v)::rest)=kJ (l.set off v).toArray rest:=by
 have hv:v.cells = #[v]:=Zq;simp only [kJ,hv];rw [if_neg (by simp;omega)];simp
@[go_sem] theorem anr {l vs:List Value} {off n:Nat} {rest:List (Nat×Nat×Value)} (hv:vs.length=n) (h:off+n≤l.length) :
   kJ l.toArray ((off,n,.agg vs.toArray)::rest)=kJ (l.take off++vs++l.drop (off+n)).toArray rest:=by
 subst hv;simp only [kJ];rw [if_neg (by simp [Value.cells];omega)];show kJ (vs.toArray.zipIdx.foldl (fun (cs:Array Value) (x:Value×Nat)=>cs.setIfInBounds (off+x.2) x.1) l.toArray) rest=_
 congr 1
 have key:∀ (vs l:List Value) (off k:Nat),off+k+vs.length≤l.length →
     ((vs.zipIdx k).foldl (fun (cs:Array Value) (x:Value×Nat)=>cs.setIfInBounds (off+x.2) x.1) l.toArray)=(l.take (off+k)++vs++l.drop (off+k+vs.length)).toArray:=by
  intro vs
  induction vs with
  | nil=>intro l off k hk;simp
  | cons v vs ih=>
   intro l off k hk;simp only [List.length_cons] at hk;simp only [List.zipIdx_cons,List.foldl_cons,List.setIfInBounds_toArray];rw [ih (l.set (off+k) v) off (k+1) (by simp;omega)]
   congr 1
   have e1:(l.set (off+k) v).take (off+(k+1))=l.take (off+k)++[v]:=by
    rw [List.set_eq_take_append_cons_drop,if_pos (by omega),show off+(k+1)=(l.take (off+k)).length+1 by simp;omega,List.take_append];simp;rw [List.take_of_length_le (by simp)]
   have e2:(l.set (off+k) v).drop (off+(k+1)+vs.length)=l.drop (off+k+(vs.length+1)):=by
    rw [List.drop_set_of_lt (by omega)]
    congr 1;omega
   rw [e1,e2];simp
 have:=key vs l off 0 (by omega);simp only [Nat.add_zero] at this;rw [← this];rw [← Array.foldl_toList];simp
@[go_sem] theorem ans (k:IntKind) (n:Int):One (Value.int k n)=True:=eq_true rfl
@[go_sem] theorem ant (b:ByteArray):One (Value.string b)=True:=eq_true rfl
@[go_sem] theorem anu (b:Option Addr):One (Value.pointer b)=True:=eq_true rfl
@[go_sem] theorem anv (a:Option Addr) (n c:Nat):One (Value.slice a n c)=True:=eq_true rfl
@[go_sem] theorem anw (b:Option Nat):One (Value.map b)=True:=eq_true rfl
@[go_sem] theorem anx (t:TypeId) (v:Value):One (Value.iface t v)=True:=eq_true rfl
@[go_sem] theorem anz (f:Fn) (a b:Array Value):One (Value.func f a b)=True:=eq_true rfl
attribute [go_sem] exists_eq' Option.bind_some Option.bind_none Option.map_some Option.map_none exists_eq_left' Option.some.injEq
attribute [go_sem] List.getElem?_toArray List.getElem?_cons_zero List.getElem?_cons_succ
structure Mod (S:Nat→Prop) (w w':World):Prop where
 size:w.heap.size≤w'.heap.size
 old:∀ b,b < w.heap.size→¬ S b→w'.heap[b]? = w.heap[b]?
 os:w'.os=w.os
 tape:w'.tape=w.tape
 output:w'.output=w.output
theorem Mod.refl (S:Nat→Prop) (w:World):Mod S w w:=⟨Nat.le_refl _,fun _ _ _=>rfl,rfl,rfl,rfl⟩
theorem Mod.trans {S:Nat→Prop} {a b c:World} (h:Mod S a b) (k:Mod S b c):Mod S a c:=
 ⟨Nat.le_trans h.size k.size,fun i hi hs=>(k.old i (Nat.lt_of_lt_of_le hi h.size) hs).trans (h.old i hi hs),k.os.trans h.os,k.tape.trans h.tape,k.output.trans h.output⟩
theorem Mod.step {S S':Nat→Prop} {a b c:World} (h:Mod S a b) (k:Mod S' b c) (hs:∀ i,S' i→i < a.heap.size→S i):Mod S a c:=
 ⟨Nat.le_trans h.size k.size,fun i hi hn=>(k.old i (Nat.lt_of_lt_of_le hi h.size) (fun hh=>hn (hs i hh hi))).trans (h.old i hi hn),k.os.trans h.os,k.tape.trans h.tape,k.output.trans h.output⟩
theorem Mod.aB {S S':Nat→Prop} {a b:World} (h:Mod S a b) (hs:∀ i,S i→S' i):Mod S' a b:=
 ⟨h.size,fun i hi hn=>h.old i hi (fun hh=>hn (hs i hh)),h.os,h.tape,h.output⟩
theorem Mod.drew {S:Nat→Prop} {a b:World} (h:Mod S a b):Mod S a b.drew:=⟨h.size,h.old,h.os,h.tape,h.output⟩
theorem Mod.dj {S:Nat→Prop} {a b:World} (h:Mod S a.drew b):Mod S a b:=⟨h.size,h.old,h.os,h.tape,h.output⟩
theorem lt_of_heap {w:World} {b:Nat} {o:Obj} (h:w.heap[b]? = some o):b < w.heap.size:=(Array.getElem?_eq_some_iff.1 h).1
theorem Mod.at {S:Nat→Prop} {w w':World} (h:Mod S w w') {b:Nat} {o:Obj} (hb:w.heap[b]? = some o) (hs:¬ S b):w'.heap[b]? = some o:=(h.old b (lt_of_heap hb) hs).trans hb
theorem Mod.cell {S:Nat→Prop} {w w':World} (h:Mod S w w') {a:Addr} {v:Value} (ha:w.cell? a=some v) (hs:¬ S a.block):w'.cell? a=some v:=by
 have ah:=World.block_lt_of_cell? w a ha;rw [H2 (h.old a.block ah hs)];exact ha
theorem Zr {w:World} {b T:Nat} {fz:Nat×Nat} {cs:List Value} (h:w.heap[b]? = some (.cells cs.toArray T fz)):∀ (n off i:Nat) (acc:List Value),off+i+n≤cs.length →
   jC w ⟨b,off,none⟩ i n acc.toArray=some (acc++(cs.drop (off+i)).take n).toArray:=by
 intro n
 induction n with
 | zero=>intro off i acc _;simp [jC]
 | succ n ih=>
  intro off i acc hle;have ah:off+i < cs.length:=by omega
  have hc:w.cell? (Addr.add ⟨b,off,none⟩ i)=some cs[off+i]:=by
   have:Addr.add ⟨b,off,none⟩ i=⟨b,off+i,none⟩:=by unfold Addr.add;split<;>simp_all
   rw [this];simp [World.cell?,h,ah]
  simp only [jC,hc];have:=ih off (i+1) (acc++[cs[off+i]]) (by omega);rw [show acc.toArray.push cs[off+i]=(acc++[cs[off+i]]).toArray by simp,this]
  congr 2
  rw [List.append_assoc]
  congr 1
  rw [show cs.drop (off+i)=cs[off+i]::cs.drop (off+(i+1)) by rw [List.drop_eq_getElem_cons ah];rfl];simp
theorem dK {w:World} {b T off n:Nat} {fz:Nat×Nat} {cs:List Value} (h:w.heap[b]? = some (.cells cs.toArray T fz)) (hle:off+n≤cs.length) :
   cB w n (.pointer (some ⟨b,off,none⟩))=some (.agg ((cs.drop off).take n).toArray):=by
 have:=Zr h n off 0 [] (by omega);simp only [cB];simp only [List.nil_append,Nat.add_zero] at this;rw [this];rfl
theorem cell_of {w:World} {b:Nat} {cs:Array Value} {T:TypeId} {fz:Nat×Nat} (h:w.heap[b]? = some (.cells cs T fz)) (o:Nat):w.cell? ⟨b,o,none⟩=cs[o]?:=by simp [World.cell?,h]
@[go_sem] theorem gZ (w:World):w.drew.heap=w.heap:=_root_.id rfl
@[go_sem] theorem anA (w:World) (a:Addr):w.drew.cell? a=w.cell? a:=_root_.id rfl
@[go_sem] theorem add_zero' (a:Addr):a.add 0=a:=_root_.id rfl
@[go_sem] theorem c8 (b o n:Nat):Addr.add ⟨b,o,none⟩ n=⟨b,o+n,none⟩:=by unfold Addr.add;split<;>simp_all
theorem pN (S:Nat→Prop) (w:World) (o:Obj):Mod S w (w.alloc o):=
 ⟨by simp,fun b hb _=>by show (w.heap.push o)[b]? = _;rw [Array.getElem?_push,if_neg (by omega)],rfl,rfl,rfl⟩
theorem Eg (w:World) (b:Nat) (cs:Array Value):Mod (· = b) w (w.setRow b cs):=
 ⟨by simp,fun i _ hs=>setRow_other w b i cs hs,rfl,rfl,rfl⟩
section
variable {P:Program} {w:World} {ρ:Env} {K:Value→World→Prop}
theorem Ip {n:Nat} {x y:O} {b off:Nat} {v:Value} {cs:Array Value} {T:TypeId} (U:x.ev ρ=some (.pointer (some ⟨b,off,none⟩))) (hy:y.ev ρ=some v)
   (hb:w.heap[b]? = some (.cells cs T (0,0))) (hn:v.cells.size=n) (lZ:off+n≤cs.size) (h1:∀ u∈v.cells.toList,u.oneCell'=true)
   (hk:∀ w',w'.heap[b]? = some (.cells (sp cs off v.cells.toList) T (0,0))→Mod (· = b) w w'→w'.heap.size=w.heap.size→K undef w'):E.wp P w ρ K (.st n x y):=by
 refine ⟨_,v,cs,T,U,hy,hn,⟨rfl,hb⟩,?_,h1,?_⟩
 ·show off+v.cells.toList.length≤cs.size;rw [Array.length_toList,hn];exact lZ
 ·exact hk _ (setRow_heap w b cs _ T _ hb) (Eg w b _) (by simp)
theorem Zs (l:List Value) (o:Nat) (v:Value) (h:o < l.length):sp l.toArray o [v]=(l.set o v).toArray:=by
 unfold sp
 congr 1
 simp only [List.length_cons,List.length_nil,Nat.zero_add];rw [List.set_eq_take_append_cons_drop,if_pos h];simp
theorem Zt {cs vs:List Value} (h:vs.length=cs.length):sp cs.toArray 0 vs=vs.toArray:=by
 unfold sp;simp only [Nat.zero_add,List.take_zero,List.nil_append];rw [List.drop_of_length_le (by omega),List.append_nil]
theorem cu {n:Nat} {x y:O} {b:Nat} {vs cs:List Value} {T:TypeId} (U:x.ev ρ=some (.pointer (some ⟨b,0,none⟩))) (hy:y.ev ρ=some (.agg vs.toArray))
   (hb:w.heap[b]? = some (.cells cs.toArray T (0,0))) (hn:vs.length=n) (hc:cs.length=n) (h1:∀ u∈vs,u.oneCell'=true)
   (hk:∀ w',w'.heap[b]? = some (.cells vs.toArray T (0,0))→Mod (· = b) w w'→w'.heap.size=w.heap.size→K undef w'):E.wp P w ρ K (.st n x y):=by
 refine Ip (v:=.agg vs.toArray) U hy hb (by simpa [Value.cells] using hn) (by simp;omega) (by simpa [Value.cells] using h1) ?_;intro w' h2 h3 h4;refine hk w' ?_ h3 h4;rw [h2];have:sp cs.toArray 0 (Value.agg vs.toArray).cells.toList=vs.toArray:=Zt (by simp [Value.cells];omega);rw [this]
theorem PM {n:Nat} {x y:O} {b off:Nat} {vs cs:List Value} {T:TypeId} (U:x.ev ρ=some (.pointer (some ⟨b,off,none⟩))) (hy:y.ev ρ=some (.agg vs.toArray))
   (hb:w.heap[b]? = some (.cells cs.toArray T (0,0))) (hn:vs.length=n) (hc:off+n≤cs.length) (h1:∀ u∈vs,u.oneCell'=true)
   (hk:∀ w',w'.heap[b]? = some (.cells (sp cs.toArray off vs) T (0,0))→Mod (· = b) w w'→w'.heap.size=w.heap.size→K undef w'):E.wp P w ρ K (.st n x y):=by
 refine Ip (v:=.agg vs.toArray) U hy hb (by simpa [Value.cells] using hn) (by simp;omega) (by simpa [Value.cells] using h1) ?_;intro w' h2 h3 h4;exact hk w' (by simpa [Value.cells] using h2) h3 h4
theorem bL {x y:O} {b off:Nat} {v:Value} {cs:List Value} {T:TypeId} (U:x.ev ρ=some (.pointer (some ⟨b,off,none⟩))) (hy:y.ev ρ=some v)
   (hb:w.heap[b]? = some (.cells cs.toArray T (0,0))) (h1:v.oneCell'=true) (lZ:off < cs.length)
   (hk:∀ w',w'.heap[b]? = some (.cells (cs.set off v).toArray T (0,0))→Mod (· = b) w w'→w'.heap.size=w.heap.size→K undef w'):E.wp P w ρ K (.st 1 x y):=by
 have hc:v.cells = #[v]:=by cases v<;>first | rfl | simp [Value.oneCell'] at h1
 refine Ip (v:=v) U hy hb (by rw [hc];rfl) (by simp;omega) (by rw [hc];simpa using h1) ?_;intro w' h2 h3 h4;rw [hc] at h2;rw [show sp cs.toArray off #[v].toList=(cs.set off v).toArray from Zs cs off v lZ] at h2;exact hk w' h2 h3 h4
theorem b8 {t:Nat} {x:O} {v:Value} (U:x.ev ρ=some v)
   (hk:∀ w',w'.heap[w.heap.size]? = some (.cells v.cells t (0,0))→Mod (fun _=>False) w w'→w'.heap.size=w.heap.size+1→K (.pointer (some ⟨w.heap.size,0,none⟩)) w'):E.wp P w ρ K (.bx t x):=
 ⟨v,U,hk _ (heap_alloc_new w _) (pN _ w _) (by simp)⟩
theorem de {t:Nat} {z:Value}
   (hk:∀ w',w'.heap[w.heap.size]? = some (.cells z.cells t (0,0))→Mod (fun _=>False) w w'→w'.heap.size=w.heap.size+1→K (.pointer (some ⟨w.heap.size,0,none⟩)) w'):E.wp P w ρ K (.al t z):=
 hk _ (heap_alloc_new w _) (pN _ w _) (by simp)
theorem dL {el len:Nat} {cells cs:Array Value} {parts:List (Nat×Nat×O)} {ps:List (Nat×Nat×Value)} (hp:kK ρ parts=some ps) (hf:kJ cells ps=some cs)
   (hk:∀ w',w'.heap[w.heap.size]? = some (.cells cs el (0,0))→Mod (fun _=>False) w w'→w'.heap.size=w.heap.size+1→K (.slice (some ⟨w.heap.size,0,none⟩) len len) w'):E.wp P w ρ K (.bs el len cells parts):=
 ⟨ps,cs,hp,hf,hk _ (heap_alloc_new w _) (pN _ w _) (by simp)⟩
theorem Zu (z:Value) (n:Nat):madeCells #[z] n=(List.replicate n z).toArray:=by
 apply Array.ext';rw [toList_madeCells_one]
theorem sb {el bytes:Nat} {z:Value} {l:O} {k:IntKind} {n:Nat} (hl:l.ev ρ=some (.int k n)) (hb:bytes*n≤281474976710656) (tq:n≤9223372036854775807)
   (hk:∀ w',w'.heap[w.heap.size]? = some (.cells (List.replicate n z).toArray el (0,0))→Mod (fun _=>False) w w'→w'.heap.size=w.heap.size+1→K (.slice (some ⟨w.heap.size,0,none⟩) n n) w'):E.wp P w ρ K (.ms el 1 bytes #[z] l l):=by
 refine ⟨k,k,n,n,hl,hl,by omega,by omega,(by have h:=Int.ofNat_le.2 hb;rw [Int.natCast_mul] at h;exact h),(by have h:=Int.ofNat_le.2 tq;exact h),?_⟩;simp only [Int.toNat_natCast,Nat.mul_one];rw [Zu];exact hk _ (heap_alloc_new w _) (pN _ w _) (by simp)
theorem ao {f:Nat} {args:List O} {vs:List Value} (ha:eP ρ args=some vs) (h:aD P f vs w K):E.wp P w ρ K (.call f args):=⟨vs,ha,h⟩
end
attribute [go_sem] Nat.zero_add List.length_cons List.length_nil List.set_cons_zero List.set_cons_succ List.take_zero List.take_succ_cons List.drop_zero List.drop_succ_cons List.take_nil List.drop_nil List.nil_append List.cons_append List.append_nil or_false false_or or_true true_or false_implies true_implies and_true true_and and_self Bool.and_true Bool.true_and
universe u
theorem aK (p:Prop) [Decidable p]:((decide p=true)=p)∧((decide p=false)=¬p)∧(¬¬p)=p:=by
 by_cases h:p<;>simp [h]
theorem aL {α:Type u} [BEq α] [LawfulBEq α] (a b:α):(((a == b)=true)=(a=b))∧(((a == b)=false)=¬(a=b))∧(((a != b)=true)=¬(a=b))∧((a != b)=false)=(a=b):=by
 refine ⟨?_,?_,?_,?_⟩<;>simp
theorem aM {α:Sort u} (a b:α):(a≠b)=¬(a=b):=rfl
theorem ak:((false=true)=False)∧((true=false)=False)∧(0:Int).toNat=0:=by simp
theorem aN (p:Prop):((p↔True)=p)∧((p↔False)=¬p)∧((True↔p)=p)∧((False↔p)=¬p):=by simp
theorem bh (n:Nat):n*1=n∧((n:Int).toNat=n)∧n - 0=n∧n - n=0:=by simp
end
section
open Go
theorem bU {n:Int} (h1 : -9223372036854775808≤n) (h2:n < 9223372036854775808):IntKind.i64.wrap n=n:=by
 rw [IntKind.wrap_i64];omega
abbrev I (n:Int):Value:=.int .i64 n
def ax (w:World) (T sz:Nat) (v:Value) (xs:List Value) (n:Nat) (fp:Option Nat):Prop:=
 xs.length=n*sz∧((v = .slice none 0 0∧n=0∧fp=none) ∨
  ∃ b c sp,v = .slice (some ⟨b,0,none⟩) n c∧fp=some b∧w.heap[b]? = some (.cells (xs++sp).toArray T (0,0))∧c*sz≤(xs++sp).length∧n≤c)
theorem ax.nil (w:World) (T sz:Nat):ax w T sz (.slice none 0 0) [] 0 none:=⟨by simp,.inl ⟨rfl,rfl,rfl⟩⟩
theorem ax.lt {w:World} {T sz:Nat} {v:Value} {xs:List Value} {n b:Nat} {fp:Option Nat} (h:ax w T sz v xs n fp) (hb:fp=some b):b < w.heap.size:=by
 rcases h.2 with ⟨_,_,h⟩ | ⟨b',c,sp,_,h,hh,_⟩
 ·rw [h] at hb;cases hb
 ·rw [h] at hb;cases hb;exact lt_of_heap hh
theorem ax.mod {w w':World} {S:Nat→Prop} {T sz:Nat} {v:Value} {xs:List Value} {n:Nat} {fp:Option Nat} (h:ax w T sz v xs n fp) (hm:Mod S w w') (hs:∀ b,fp=some b→¬ S b):ax w' T sz v xs n fp:=by
 refine ⟨h.1,?_⟩;rcases h.2 with h | ⟨b,c,sp,h1,h2,h3,h4⟩
 ·exact .inl h
 ·exact .inr ⟨b,c,sp,h1,h2,hm.at h3 (hs b h2),h4⟩
theorem ax.xu {w w':World} {S:Nat→Prop} {T sz:Nat} {v:Value} {xs:List Value} {n:Nat} {fp:Option Nat} (h:ax w T sz v xs n fp) (hm:Mod S w w')
   (hs:∀ b cs fz,S b→w.heap[b]? = some (.cells cs T fz)→False):ax w' T sz v xs n fp:=by
 refine h.mod hm (fun b hb hS=>?_);rcases h.2 with ⟨_,_,h⟩ | ⟨b',c,cN,_,h,hh,_⟩
 ·rw [h] at hb;cases hb
 ·rw [h] at hb;cases hb;exact hs _ _ _ hS hh
theorem jk {w:World} {T T' sz n a:Nat} {v:Value} {xs:List Value} {fp:Option Nat} {cs:Array Value} {fz:Nat×Nat} (h:ax w T sz v xs n fp) (ha:w.heap[a]? = some (.cells cs T' fz)) (bq:T≠T'):fp≠some a:=by
 rcases h.2 with ⟨_,_,h⟩ | ⟨b,c,cN,_,h,hh,_⟩
 ·rw [h];intro hh;cases hh
 ·rw [h];intro he;cases he;rw [ha] at hh;cases hh;exact bq rfl
theorem mc {w:World} {a:Nat} {T T':Nat} {cs Zv:Array Value} {fz Zw:Nat×Nat} (h:w.heap[a]? = some (.cells cs T fz)) (h':w.heap[a]? = some (.cells Zv T' Zw)) (bq:T≠T'):False:=by
 rw [h] at h';cases h';exact bq rfl
theorem hP {w:World} {T T' sz n b:Nat} {v:Value} {xs:List Value} {fp:Option Nat} {cs:Array Value} {fz:Nat×Nat} (h:ax w T sz v xs n fp) (hb:fp=some b) (ha:w.heap[b]? = some (.cells cs T' fz)) (bq:T≠T'):False:=
 jk h ha bq hb
theorem ax.jQ {w:World} {T sz n b:Nat} {xs:List Value} (h:w.heap[b]? = some (.cells xs.toArray T (0,0))) (hn:xs.length=n*sz):ax w T sz (.slice (some ⟨b,0,none⟩) n n) xs n (some b):=
 ⟨hn,.inr ⟨b,n,[],rfl,rfl,by simpa using h,by simpa using Nat.le_of_eq hn.symm,Nat.le_refl _⟩⟩
theorem ax.val {w:World} {T sz:Nat} {v:Value} {xs:List Value} {n:Nat} {fp:Option Nat} (h:ax w T sz v xs n fp):∃ a c,v = .slice a n c∧n≤c∧(a=none→n=0∧c=0):=by
 rcases h.2 with ⟨h1,h2,_⟩ | ⟨b,c,sp,h1,_,_,_,h5⟩
 ·subst h2;exact ⟨none,0,h1,Nat.le_refl _,fun _=>⟨rfl,rfl⟩⟩
 ·exact ⟨_,c,h1,h5,fun h=>by cases h⟩
theorem ax.pos {w:World} {T sz:Nat} {v:Value} {xs:List Value} {n:Nat} {fp:Option Nat} (h:ax w T sz v xs n fp) (hn:0 < n) :
   ∃ b c sp,v = .slice (some ⟨b,0,none⟩) n c∧fp=some b∧w.heap[b]? = some (.cells (xs++sp).toArray T (0,0))∧n≤c∧c*sz≤(xs++sp).length:=by
 rcases h.2 with ⟨_,h,_⟩ | ⟨b,c,sp,h1,h2,h3,h4,h5⟩
 ·omega
 ·exact ⟨b,c,sp,h1,h2,h3,h5,h4⟩
theorem ax.rd {w:World} {T sz:Nat} {xs:List Value} {n:Nat} {fp:Option Nat} {a:Option Addr} {c:Nat} (h:ax w T sz (.slice a n c) xs n fp):iz w a (n*sz) xs:=by
 refine ⟨h.1,?_⟩;intro ad ef j v hv;rcases h.2 with ⟨h1,_,_⟩ | ⟨b,c',sp,h1,h2,h3,_⟩
 ·cases h1;cases ef
 ·cases h1;cases ef;rw [c8,cell_of h3];have ah:j < xs.length:=by
   rcases Nat.lt_or_ge j xs.length with h | h
   ·exact h
   ·simp [List.getElem?_eq_none h] at hv
  simp [List.getElem?_append_left ah,hv]
theorem jR {w:World} {b T:Nat} {fz:Nat×Nat} {xs:List Value} (h:w.heap[b]? = some (.cells xs.toArray T fz)):iz w (some ⟨b,0,none⟩) xs.length xs:=by
 refine ⟨rfl,?_⟩;intro ad ef j v hv;cases ef;rw [c8,cell_of h]
 simpa using hv
section
variable {P:Program} {w:World} {ρ:Env} {K:Value→World→Prop}
theorem PN (z:Array Value) (n:Nat):(Builtin.zeroCells z n).size=n*z.size:=by simp [Builtin.zeroCells]
theorem gN {T sz bytes m c n:Nat} {zero:Array Value} {s x:O} {v:Value} {xs news:List Value} {fp:Option Nat} {xa:Option Addr}
   (hs:s.ev ρ=some v) (ho:ax w T sz v xs n fp) (U:x.ev ρ=some (.slice xa m c)) (jN:xa=none→m=0) (hr:iz w xa (m*sz) news) (h1:∀ u∈news,u.oneCell'=true)
   (hz:zero.size=sz) (hb:(n+m)*bytes≤140737488355328) (tq:n+m≤9223372036854775807)
   (hk:∀ v' w' gA,ax w' T sz v' (xs++news) (n+m) gA→Mod (fun b=>fp=some b) w w'→(∀ b,gA=some b→fp=some b∨b=w.heap.size∧b < w'.heap.size)→K v' w') :
   E.wp P w ρ K (.ap T sz bytes zero s x):=by
 obtain ⟨hlen,hv⟩:=ho;have lY:news.length=m*sz:=hr.1;have Eh:(xs++news).length=(n+m)*sz:=by rw [List.length_append,hlen,lY,Nat.add_mul]
 have grown:∀ (oL:List Value),oL=xs→∀ nc w1,n+m≤nc→w1=w.drew.alloc (.cells (oL.toArray++news.toArray++Builtin.zeroCells zero (nc - (n+m))) T)→K (.slice (some ⟨w.heap.size,0,none⟩) (n+m) nc) w1:=by
  intro oL ho nc w1 hle oP;subst ho oP;refine hk _ _ (some w.heap.size) ⟨Eh,.inr ⟨w.heap.size,nc,(Builtin.zeroCells zero (nc - (n+m))).toList,rfl,rfl,?_,?_,hle⟩⟩ (pN _ w.drew _).dj ?_
  ·rw [show w.heap.size=w.drew.heap.size from rfl,heap_alloc_new w.drew]
   congr 2
   apply Array.ext';simp
  ·rw [List.length_append,Eh,Array.length_toList,PN,hz,← Nat.add_mul];exact Nat.mul_le_mul_right _ (by omega)
  ·intro b hb;cases hb;exact .inr ⟨rfl,by simp⟩
 rcases hv with ⟨rfl,rfl,rfl⟩ | ⟨b,cap,cN,rfl,rfl,gg,me,hle⟩
 ·have il:xs=[]:=List.eq_nil_of_length_eq_zero (by simpa using hlen);subst il;refine ⟨none,0,0,xa,m,c,[],news,hs,U,fun _=>⟨rfl,rfl⟩,jN,⟨by simp,(fun ad h=>by cases h)⟩,hr,h1,hb,tq,?_,?_,fun hc nc w1 h2 h3=>grown [] rfl nc w1 h2 h3⟩
  ·intro hm _;have tH:m=0:=by omega
   subst tH;have zn:news=[]:=List.eq_nil_of_length_eq_zero (by simpa using lY);subst zn;exact hk _ _ none (ax.nil w T sz) (Mod.refl _ w) (fun b h=>by cases h)
  ·intro _ a h;cases h
 ·refine ⟨some ⟨b,0,none⟩,n,cap,xa,m,c,xs,news,hs,U,(fun h=>by cases h),jN,?_,hr,h1,hb,tq,(fun _ h=>by cases h),?_,fun hc nc w1 h2 h3=>grown xs rfl nc w1 h2 h3⟩
  ·exact ax.rd ⟨hlen,.inr ⟨b,cap,cN,rfl,rfl,gg,me,hle⟩⟩
  ·intro eE a ha;cases ha;have lZ:n*sz+news.length≤(xs++cN).length:=by rw [lY,← Nat.add_mul];exact Nat.le_trans (Nat.mul_le_mul_right _ eE) me
   have gY:sp (xs++cN).toArray (0+n*sz) news=((xs++news)++cN.drop news.length).toArray:=by
    unfold sp;simp only [Nat.zero_add,List.append_assoc];rw [← hlen,List.take_left]
    congr 2
    rw [List.drop_append];simp
   refine ⟨(xs++cN).toArray,T,⟨rfl,gg⟩,by simpa using lZ,?_⟩;rw [gY];refine hk _ _ (some b) ⟨Eh,.inr ⟨b,cap,cN.drop news.length,rfl,rfl,setRow_heap w b _ _ T _ gg,?_,eE⟩⟩ ((Eg w b _).aB (fun i hi=>by rw [hi])) (fun b' fH=>.inl fH);rw [List.length_append,Eh,List.length_drop];have h2:(xs++cN).length=xs.length+cN.length:=List.length_append;rw [h2,hlen] at me;rw [lY];rw [h2,hlen,lY] at lZ;have h3:(n+m)*sz=n*sz+m*sz:=Nat.add_mul _ _ _;omega
theorem Zx {sz:Nat} {d s:O} {b dn dc:Nat} {sa:Option Addr} {sn sc T:Nat} {cs:List Value} {news:List Value} (hd:d.ev ρ=some (.slice (some ⟨b,0,none⟩) dn dc)) (hs:s.ev ρ=some (.slice sa sn sc))
   (lu:sa=none→sn=0) (hle:sn≤dn) (hr:iz w sa (sn*sz) news) (h1:∀ u∈news,u.oneCell'=true) (hb:w.heap[b]? = some (.cells cs.toArray T (0,0))) (lZ:news.length≤cs.length)
   (hk:∀ w',w'.heap[b]? = some (.cells (news++cs.drop news.length).toArray T (0,0))→Mod (· = b) w w'→w'.heap.size=w.heap.size→K (I sn) w'):E.wp P w ρ K (.cp sz d s):=by
 have se:Nat.min sn dn=sn:=Nat.min_eq_left hle;refine ⟨_,dn,dc,sa,sn,sc,news,hd,hs,lu,by rw [se];exact hr,h1,(fun h=>by cases h),?_⟩;intro a ha;cases ha;refine ⟨cs.toArray,T,⟨rfl,hb⟩,by simpa using lZ,?_⟩;rw [se];have gY:sp cs.toArray 0 news=(news++cs.drop news.length).toArray:=by simp [sp]
 rw [gY];exact hk _ (setRow_heap w b _ _ T _ hb) (Eg w b _) (by simp)
end
def jS:Value→Option Nat
 | .slice (some a) _ _=>some a.block
 | _=>none
def Ints (w:World) (v:Value) (xs:List Int):Prop:=
 ∃ a c,v = .slice a xs.length c∧xs.length≤17592186044416∧∀ i (h:i < xs.length),∃ ad,a=some ad∧w.cell? (ad.add i)=some (I xs[i])
theorem Ints.mod {w w':World} {S:Nat→Prop} {v:Value} {xs:List Int} (h:Ints w v xs) (hm:Mod S w w') (hs:∀ b,jS v=some b→¬ S b):Ints w' v xs:=by
 obtain ⟨a,c,rfl,hl,U⟩:=h;refine ⟨a,c,rfl,hl,fun i hi=>?_⟩;obtain ⟨ad,rfl,hc⟩:=U i hi;refine ⟨ad,rfl,hm.cell hc ?_⟩;rw [rT];exact hs _ rfl
theorem Ints.rd {w:World} {a:Option Addr} {n c:Nat} {xs:List Int} (h:Ints w (.slice a n c) xs):n=xs.length∧iz w a (n*1) (xs.map I)∧(a=none→n=0):=by
 obtain ⟨a',c',he,hl,U⟩:=h;cases he;refine ⟨rfl,⟨by simp,?_⟩,?_⟩
 ·intro ad ef j v hv;have ah:j < xs.length:=by
   rcases Nat.lt_or_ge j xs.length with h | h
   ·exact h
   ·simp [List.getElem?_eq_none h] at hv
  obtain ⟨mR,h1,h2⟩:=U j ah;rw [ef] at h1;cases h1;rw [h2]
  simpa [List.getElem?_eq_getElem ah] using hv
 ·intro ha;rcases Nat.eq_zero_or_pos xs.length with h | h
  ·exact h
  ·obtain ⟨ad,h1,_⟩:=U 0 h;rw [ha] at h1;cases h1
theorem ax.ints {w:World} {T:Nat} {v:Value} {xs:List Int} {n:Nat} {fp:Option Nat} (h:ax w T 1 v (xs.map I) n fp) (hl:n≤17592186044416):Ints w v xs∧n=xs.length:=by
 have hn:n=xs.length:=by have:=h.1;simp at this;omega
 subst hn;refine ⟨?_,rfl⟩;rcases h.2 with ⟨h1,h2,_⟩ | ⟨b,c,cN,h1,h2,h3,_⟩
 ·exact ⟨none,0,by rw [h1,h2],hl,fun i hi=>by omega⟩
 ·refine ⟨some ⟨b,0,none⟩,c,h1,hl,fun i hi=>⟨_,rfl,?_⟩⟩;rw [c8,cell_of h3];simp [List.getElem?_append_left,hi]
theorem oQ (xs:List Int):∀ u∈xs.map I,u.oneCell'=true:=by
 intro u hu;obtain ⟨n,_,rfl⟩:=List.mem_map.1 hu;rfl
end
end Go.W
section
namespace Go.W
open Go
theorem PO {P:Program} {K K':Env→World→Prop} (hk:∀ ρ w,K ρ w→K' ρ w):∀ (t:D) (ρ:Env) (w:World) (rd:List (Nat×Nat)),gx P t ρ w rd K→gx P t ρ w rd K':=by
 intro t
 induction t with
 | nil=>intro ρ w rd h;exact hk _ _ h
 | r i g d r t ih=>
  intro ρ w rd h;rcases g with _ | ⟨s,b⟩
  ·obtain ⟨v,h1,h2⟩:=h;exact ⟨v,h1,ih _ _ _ h2⟩
  ·obtain ⟨c,h1,h2,h3⟩:=h;exact ⟨c,h1,fun hh=>let ⟨v,h4,h5⟩:=h2 hh;⟨v,h4,ih _ _ _ h5⟩,fun hh=>ih _ _ _ (h3 hh)⟩
 | e i g d e fl t ih=>
  intro ρ w rd h;rcases g with _ | ⟨s,b⟩
  ·exact E.mono (fun v w' h=>⟨h.1,ih _ _ _ h.2⟩) e h
  ·obtain ⟨c,h1,h2,h3⟩:=h;exact ⟨c,h1,fun hh=>E.mono (fun v w' h=>⟨h.1,ih _ _ _ h.2⟩) e (h2 hh),fun hh=>ih _ _ _ (h3 hh)⟩
 | e2 i d e fl t i' d' e' uZ t' ih Zy=>
  intro ρ w rd h;exact ⟨E.mono (fun v w' h=>⟨h.1,ih _ _ _ h.2⟩) e h.1,E.mono (fun v w' h=>⟨h.1,Zy _ _ _ h.2⟩) e' h.2⟩
section
variable {P:Program} {N:Nat}
theorem zo {next next':Env→World→Prop} {Q Q':gy} (hn:∀ ρ w,next ρ w→next' ρ w) (hq:∀ e ρ w,Q e ρ w→Q' e ρ w):∀ (e:Exit) (ρ:Env) (w:World),kO next Q e ρ w→kO next' Q' e ρ w:=by
 intro e ρ w h;cases e<;>first | exact hn _ _ h | exact hq _ _ _ h
theorem zp {id:Nat} {Q Q':gy} (hq:∀ e ρ w,Q e ρ w→Q' e ρ w):∀ (e:Exit) (ρ:Env) (w:World),ji id Q e ρ w→ji id Q' e ρ w:=by
 intro e ρ w h;cases e with
 | exit i=>
  show (if i=id then Q' .normal ρ w else Q' (.exit i) ρ w);have h:(if i=id then Q .normal ρ w else Q (.exit i) ρ w):=h
  split
  ·rename_i hi;rw [if_pos hi] at h;exact hq _ _ _ h
  ·rename_i hi;rw [if_neg hi] at h;exact hq _ _ _ h
 | _=>exact hq _ _ _ h
theorem xv:∀ (c:IR) (Q Q':gy),(∀ e ρ w,Q e ρ w→Q' e ρ w)→∀ ρ w,cD P N c Q ρ w→cD P N c Q' ρ w:=by
 intro c
 induction c with
 | skip=>intro Q Q' hq ρ w h;exact hq _ _ _ h
 | ret=>intro Q Q' hq ρ w h;exact hq _ _ _ h
 | exit id=>intro Q Q' hq ρ w h;exact hq _ _ _ h
 | seq a b xw By=>intro Q Q' hq ρ w h;exact xw _ _ (zo (fun ρ w h=>By _ _ hq ρ w h) hq) ρ w h
 | cond c a b xw By=>intro Q Q' hq ρ w h;obtain ⟨t,h1,h2,h3⟩:=h;exact ⟨t,h1,fun hh=>xw _ _ hq _ _ (h2 hh),fun hh=>By _ _ hq _ _ (h3 hh)⟩
 | block id a xw=>intro Q Q' hq ρ w h;exact xw _ _ (zp hq) ρ w h
 | loop a xw=>
  intro Q Q' hq ρ w h;obtain ⟨J,n,h0,hs⟩:=h;exact ⟨J,n,h0,fun n ρ w hJ=>xw _ _ (zo (fun _ _ h=>h) hq) ρ w (hs n ρ w hJ)⟩
 | oO dw st kp=>intro Q Q' hq ρ w h;exact gz _ h (fun ρ w h=>hq _ _ _ h)
 | dr t kp=>intro Q Q' hq ρ w h;exact PO (fun ρ w h=>hq _ _ _ h) t _ _ _ h
 | raw c=>intro Q Q' hq ρ w h dl a ha;exact wp_mono (h dl a ha) (fun e a w h=>by obtain ⟨ρ,h1,h2⟩:=h;exact ⟨ρ,h1,hq _ _ _ h2⟩)
theorem Bz {a:IR} {next:Env→World→Prop} {Q:gy} {ρ:Env} {w:World} (jP:Env→World→Prop) (h:cD P N a (kO jP Q) ρ w) (hk:∀ ρ w,jP ρ w→next ρ w):cD P N a (kO next Q) ρ w:=
 xv a _ _ (zo hk (fun _ _ _ h=>h)) ρ w h
end
end Go.W
namespace Go.W
open Go
theorem Ei {P:Program} {K:Env→World→Prop} {ρ:Env} {w:World} {rd:List (Nat×Nat)} (i:Nat) (d:Option Nat) (e:E) (fl:List Nat) (t:D) (i':Nat) (d':Option Nat) (e':E) (uZ:List Nat) (t':D) :
   gx P (.e2 i d e fl t i' d' e' uZ t') ρ w rd K=((e.wp P w ρ fun v w'=>oN fl w w' rd∧gx P t (ρ.put d v) w' rd K)∧(e'.wp P w ρ fun v w'=>oN uZ w w' rd∧gx P t' (ρ.put d' v) w' rd K)):=_root_.id rfl
theorem Ej {P:Program} {K:Env→World→Prop} {ρ:Env} {w:World} {rd:List (Nat×Nat)} {t:D} (jP:Env→World→Prop) (h:gx P t ρ w rd jP) (hk:∀ ρ w,jP ρ w→K ρ w):gx P t ρ w rd K:=
 PO hk t ρ w rd h
end Go.W
end
namespace Go.W
section
open Go Go.ChangeShapes Go.WideShapes Go.ChangeAt Go.RowKit
theorem Zz {w w':World} (h:Mod (fun _=>False) w w'):Below w.heap.size w w':=⟨h.os,h.tape,h.output,h.size,fun k hk=>h.old k hk (fun h=>h)⟩
section
variable {H:Type} {enc:TypeId×Value→H} {P:Program}
theorem PQ:∀ {ts:List TypeId} {vs:List Value} {ds:List (DataW H)} {ps:List MemPlace} {w:World} {base:Nat} {spare:Nat→Bool} {held:Bool},DataW.TrodAll enc P w base spare held ts vs ds ps→ds.length=ts.length
 | [],[],[],_,_,_,_,_,_=>rfl
 | _::_,_::_,_::_,_,_,_,_,_,⟨_,_,_,h,_⟩=>by simp [PQ h]
 | [],_::_,_,_,_,_,_,_,h=>h.elim
 | [],[],_::_,_,_,_,_,_,h=>h.elim
 | _::_,[],_,_,_,_,_,_,h=>h.elim
 | _::_,_::_,[],_,_,_,_,_,h=>h.elim
theorem PR (hl:laidOutB P=true) {W W':World} (hb:Below W.heap.size W W'):∀ {ts:List TypeId} {vs:List Value} {ds:List (DataW H)} {ps:List MemPlace},ts.all (fun t=>P.readableRec t&&decide (t < P.types.size))=true →
   (∀ x∈ps,x.block < W.heap.size)→DataW.TrodAll enc P W 0 (fun _=>true) true ts vs ds ps→DataW.TrodAll enc P W' 0 (fun b=>decide (b < W.heap.size)) true ts vs ds ps
 | [],[],[],_,_,_,h=>h
 | t::ts,v::vs,d::ds,ps,ht,hp,⟨p,q,h1,h2,h3⟩=>by
  simp only [List.all_cons,Bool.and_eq_true,decide_eq_true_eq] at ht;subst h3;exact ⟨p,q,Below.trod hl ht.1.1 ht.1.2 h1 hb (fun x U=>hp x (List.mem_append_left _ U)),PR hl hb ht.2 (fun x U=>hp x (List.mem_append_right _ U)) h2,rfl⟩
 | [],_::_,_,_,_,_,h=>h.elim
 | [],[],_::_,_,_,_,h=>h.elim
 | _::_,[],_,_,_,_,h=>h.elim
 | _::_,_::_,[],_,_,_,h=>h.elim
def nX (enc:TypeId×Value→H) (P:Program) (ts:List TypeId) (w:World) (args:List Value) (ds:List (DataW H)):Prop:=
 (∃ base,∀ (j:Nat) t v,ts[j]? = some t→args[j]? = some v→Value.okWide P w .any base t v)∧(∃ ps,DataW.TrodAll enc P w 0 (fun _=>true) true ts args ds ps)∧(DataW.weightsEach P ts ds).all (·≤reachBytes)=true
theorem ZA {t e:TypeId} {w:World} {base:Nat} {held:Bool} {n:Nat} {cs:List Value} {x:DataW H×List MemPlace} (ht:P.underlying t=some (.slice e)) (he:P.underlying e=some (.int .i64)) (hc:P.cellsOf e=1) (zq:P.bytesOf e=8)
   (h:DataW.trod enc P w base (fun _=>true) held n t cs=some x) (hw:(x.1.weights P t).all (·≤reachBytes)=true):∃ c xs,cs=[c]∧Ints w c xs∧xs.length+5≤17592186044416:=by
 rcases open_ints ht he hc h with ⟨rfl,rfl⟩ | ⟨a,len,cap,zs,rfl,_,hl,_,hz,rfl,fP,_⟩
 ·exact ⟨_,[],rfl,⟨none,0,rfl,by simp,fun i hi=>absurd hi (by simp)⟩,by simp⟩
 ·simp only [if_true] at hz;have h1:zs.length*8≤reachBytes:=by
   have:=List.all_eq_true.1 hw ((lits (H:=H) .i64 (zs.take len)).length*8+(lits (H:=H) .i64 (zs.drop len)).length*8) (by simp [DataW.weights,ht,zq,Nat.add_mul]);simp [lits] at this;omega
  have h2:reachBytes=140737488351232:=by decide
  have hlen:(zs.take len).length=len:=by simp;omega
  refine ⟨_,zs.take len,rfl,⟨some a,cap,by rw [hlen],by omega,fun i hi=>⟨a,rfl,?_⟩⟩,by omega⟩;rw [fP i (by omega)];simp [List.getD,List.getElem?_eq_getElem (show i < zs.length by omega)]
end
end
end Go.W
namespace Go.Proofs
section
open Go.Shelf
def Tryz.PS:Go.Shelf.Ren:=⟨fun | 7=>203 | 10=>208 | n=>n,fun | 23=>200 | 26=>3 | 3=>3 | 28=>253 | 0=>0 | 27=>252 | 33=>143 | 4=>4 | n=>n,fun | n=>n⟩
theorem Tryz.PT:Go.Proofs.SlLaysZI.n7 Tryz.prog Tryz.PS:={
 mixed:=by kernel_rfl
 f7:=⟨Tryz.f203.name,by decide,Tryz.func203.trans (congrArg some (by kernel_rfl))⟩
 f10:=⟨Tryz.f208.name,by decide,Tryz.func208.trans (congrArg some (by kernel_rfl))⟩
 t0:=Tryz.underlying0
 a0:=Tryz.isAgg0
 z0:=Tryz.sizeOf0
 v0:=Tryz.zeroValue0
 t4:=Tryz.underlying4
 a4:=Tryz.isAgg4
 z4:=Tryz.sizeOf4
 v4:=Tryz.zeroValue4
 t23:=Tryz.underlying200
 a23:=Tryz.isAgg200
 z23:=Tryz.sizeOf200
 v23:=Tryz.zeroValue200
 t26:=Tryz.underlying3
 a26:=Tryz.isAgg3
 z26:=Tryz.sizeOf3
 v26:=Tryz.zeroValue3
 t27:=Tryz.underlying252
 a27:=Tryz.isAgg252
 z27:=Tryz.sizeOf252
 v27:=Tryz.zeroValue252
 t28:=Tryz.underlying253
 a28:=Tryz.isAgg253
 z28:=Tryz.sizeOf253
 v28:=Tryz.zeroValue253
 t33:=Tryz.underlying143
 a33:=Tryz.isAgg143
 z33:=Tryz.sizeOf143
 v33:=Tryz.zeroValue143}
def Tryz.PU:Go.Shelf.Ren:=⟨fun | 6=>202 | 8=>206 | 9=>207 | 11=>210 | 13=>212 | 12=>211 | 23=>223 | 24=>162 | 14=>214 | 15=>215 | 16=>216 | 17=>217 | 18=>218 | 19=>219 | 20=>220 | 21=>221 | 22=>222 | 25=>224 | 26=>225 | 27=>226 | 28=>227 | 29=>228 | 30=>229 | 31=>230 | n=>n,fun | 26=>3 | 28=>253 | 24=>26 | 0=>0 | 3=>3 | 37=>221 | 48=>224 | 50=>212 | 4=>4 | 40=>262 | 39=>261 | 45=>87 | 5=>5 | 9=>9 | 51=>266 | 55=>270 | 57=>272 | 58=>191 | 33=>143 | n=>n,fun | n=>n⟩
theorem Tryz.ZB:Go.Proofs.SlLaysZI.n6 Tryz.prog Tryz.PU:={
 mixed:=by kernel_rfl
 f6:=⟨Tryz.f202.name,by decide,Tryz.func202.trans (congrArg some (by kernel_rfl))⟩
 f8:=⟨Tryz.f206.name,by decide,Tryz.func206.trans (congrArg some (by kernel_rfl))⟩
 f11:=⟨Tryz.f210.name,by decide,Tryz.func210.trans (congrArg some (by kernel_rfl))⟩
 t0:=Tryz.underlying0
 a0:=Tryz.isAgg0
 z0:=Tryz.sizeOf0
 v0:=Tryz.zeroValue0
 t24:=Tryz.underlying26
 a24:=Tryz.isAgg26
 z24:=Tryz.sizeOf26
 v24:=Tryz.zeroValue26
 t26:=Tryz.underlying3
 a26:=Tryz.isAgg3
 z26:=Tryz.sizeOf3
 v26:=Tryz.zeroValue3
 t28:=Tryz.underlying253
 a28:=Tryz.isAgg253
 z28:=Tryz.sizeOf253
 v28:=Tryz.zeroValue253
 i26:=by kernel_rfl}
def Tryz.ZC:Go.Shelf.Ren:=⟨fun | 5=>207 | 8=>212 | 7=>211 | 19=>223 | 20=>162 | 10=>214 | 11=>215 | 12=>216 | 13=>217 | 14=>218 | 15=>219 | 16=>220 | 17=>221 | 18=>222 | 30=>224 | 31=>225 | 32=>226 | 33=>227 | 34=>228 | 35=>229 | 40=>230 | n=>n,fun | 23=>26 | 25=>3 | 3=>3 | 32=>221 | 22=>26 | 0=>0 | 44=>224 | 46=>212 | 4=>4 | 36=>262 | 35=>261 | 41=>87 | 5=>5 | 9=>9 | 53=>266 | 57=>270 | 63=>272 | 64=>191 | n=>n,fun | n=>n⟩
theorem Tryz.PV:Go.Proofs.SlLaysM.n5 Tryz.prog Tryz.ZC:={
 mixed:=by kernel_rfl
 f5:=⟨Tryz.f207.name,by decide,Tryz.func207.trans (congrArg some (by kernel_rfl))⟩
 f7:=⟨Tryz.f211.name,by decide,Tryz.func211.trans (congrArg some (by kernel_rfl))⟩
 f8:=Tryz.func212.trans (congrArg some (by kernel_rfl))
 f10:=⟨Tryz.f214.name,by decide,Tryz.func214.trans (congrArg some (by kernel_rfl))⟩
 f11:=⟨Tryz.f215.name,by decide,Tryz.func215.trans (congrArg some (by kernel_rfl))⟩
 f12:=⟨Tryz.f216.name,by decide,Tryz.func216.trans (congrArg some (by kernel_rfl))⟩
 f13:=⟨Tryz.f217.name,by decide,Tryz.func217.trans (congrArg some (by kernel_rfl))⟩
 f14:=⟨Tryz.f218.name,by decide,Tryz.func218.trans (congrArg some (by kernel_rfl))⟩
 f15:=⟨Tryz.f219.name,by decide,Tryz.func219.trans (congrArg some (by kernel_rfl))⟩
 f16:=⟨Tryz.f220.name,by decide,Tryz.func220.trans (congrArg some (by kernel_rfl))⟩
 f17:=⟨Tryz.f221.name,by decide,Tryz.func221.trans (congrArg some (by kernel_rfl))⟩
 f18:=⟨Tryz.f222.name,by decide,Tryz.func222.trans (congrArg some (by kernel_rfl))⟩
 f19:=Tryz.func223.trans (congrArg some (by kernel_rfl))
 f20:=Tryz.func162.trans (congrArg some (by kernel_rfl))
 f30:=⟨Tryz.f224.name,by decide,Tryz.func224.trans (congrArg some (by kernel_rfl))⟩
 f31:=Tryz.func225.trans (congrArg some (by kernel_rfl))
 f32:=Tryz.func226.trans (congrArg some (by kernel_rfl))
 f33:=⟨Tryz.f227.name,by decide,Tryz.func227.trans (congrArg some (by kernel_rfl))⟩
 f34:=⟨Tryz.f228.name,by decide,Tryz.func228.trans (congrArg some (by kernel_rfl))⟩
 f35:=⟨Tryz.f229.name,by decide,Tryz.func229.trans (congrArg some (by kernel_rfl))⟩
 f40:=⟨Tryz.f230.name,by decide,Tryz.func230.trans (congrArg some (by kernel_rfl))⟩
 t0:=Tryz.underlying0
 a0:=Tryz.isAgg0
 z0:=Tryz.sizeOf0
 v0:=Tryz.zeroValue0
 t3:=Tryz.underlying3
 a3:=Tryz.isAgg3
 z3:=Tryz.sizeOf3
 v3:=Tryz.zeroValue3
 t4:=Tryz.underlying4
 a4:=Tryz.isAgg4
 z4:=Tryz.sizeOf4
 v4:=Tryz.zeroValue4
 t5:=Tryz.underlying5
 a5:=Tryz.isAgg5
 z5:=Tryz.sizeOf5
 v5:=Tryz.zeroValue5
 t9:=Tryz.underlying9
 a9:=Tryz.isAgg9
 z9:=Tryz.sizeOf9
 v9:=Tryz.zeroValue9
 t22:=Tryz.underlying26
 a22:=Tryz.isAgg26
 z22:=Tryz.sizeOf26
 v22:=Tryz.zeroValue26
 t23:=Tryz.underlying26
 a23:=Tryz.isAgg26
 z23:=Tryz.sizeOf26
 v23:=Tryz.zeroValue26
 t25:=Tryz.underlying3
 a25:=Tryz.isAgg3
 z25:=Tryz.sizeOf3
 v25:=Tryz.zeroValue3
 t32:=Tryz.underlying221
 a32:=Tryz.isAgg221
 z32:=Tryz.sizeOf221
 v32:=Tryz.zeroValue221
 t35:=Tryz.underlying261
 a35:=Tryz.isAgg261
 z35:=Tryz.sizeOf261
 v35:=Tryz.zeroValue261
 t36:=Tryz.underlying262
 a36:=Tryz.isAgg262
 z36:=Tryz.sizeOf262
 v36:=Tryz.zeroValue262
 t41:=Tryz.underlying87
 a41:=Tryz.isAgg87
 z41:=Tryz.sizeOf87
 v41:=Tryz.zeroValue87
 t44:=Tryz.underlying224
 a44:=Tryz.isAgg224
 z44:=Tryz.sizeOf224
 v44:=Tryz.zeroValue224
 t46:=Tryz.underlying212
 a46:=Tryz.isAgg212
 z46:=Tryz.sizeOf212
 v46:=Tryz.zeroValue212
 t53:=Tryz.underlying266
 a53:=Tryz.isAgg266
 z53:=Tryz.sizeOf266
 v53:=Tryz.zeroValue266
 t57:=Tryz.underlying270
 a57:=Tryz.isAgg270
 z57:=Tryz.sizeOf270
 v57:=Tryz.zeroValue270
 t63:=Tryz.underlying272
 a63:=Tryz.isAgg272
 z63:=Tryz.sizeOf272
 v63:=Tryz.zeroValue272
 t64:=Tryz.underlying191
 a64:=Tryz.isAgg191
 z64:=Tryz.sizeOf191
 v64:=Tryz.zeroValue191}
def Tryz.ZD:Go.Shelf.Ren:=⟨fun | 171=>48 | 243=>84 | 246=>141 | 283=>154 | 284=>155 | 285=>156 | 286=>157 | 129=>162 | 317=>161 | 318=>163 | 319=>164 | 320=>165 | 337=>167 | 338=>168 | n=>n,fun | 3=>3 | 9=>9 | 2=>2 | 4=>4 | 171=>211 | 0=>0 | 53=>212 | 37=>74 | 5=>5 | 173=>215 | 212=>223 | 51=>224 | 20=>20 | 213=>225 | 46=>221 | 232=>228 | 233=>229 | n=>n,fun | 17=>0 | 18=>1 | 19=>2 | n=>n⟩
theorem Tryz.ZE:Go.Proofs.LaysM.n171 Tryz.prog Tryz.ZD:={
 mixed:=by kernel_rfl
 f129:=Tryz.func162.trans (congrArg some (by kernel_rfl))
 f171:=Tryz.func48.trans (congrArg some (by kernel_rfl))
 f243:=Tryz.func84.trans (congrArg some (by kernel_rfl))
 f246:=Tryz.func141.trans (congrArg some (by kernel_rfl))
 f283:=Tryz.func154.trans (congrArg some (by kernel_rfl))
 f284:=Tryz.func155.trans (congrArg some (by kernel_rfl))
 f285:=Tryz.func156.trans (congrArg some (by kernel_rfl))
 f286:=Tryz.func157.trans (congrArg some (by kernel_rfl))
 f317:=Tryz.func161.trans (congrArg some (by kernel_rfl))
 f318:=Tryz.func163.trans (congrArg some (by kernel_rfl))
 f319:=Tryz.func164.trans (congrArg some (by kernel_rfl))
 f320:=Tryz.func165.trans (congrArg some (by kernel_rfl))
 f337:=Tryz.func167.trans (congrArg some (by kernel_rfl))
 f338:=Tryz.func168.trans (congrArg some (by kernel_rfl))
 t0:=Tryz.underlying0
 a0:=Tryz.isAgg0
 z0:=Tryz.sizeOf0
 v0:=Tryz.zeroValue0
 t2:=Tryz.underlying2
 a2:=Tryz.isAgg2
 z2:=Tryz.sizeOf2
 v2:=Tryz.zeroValue2
 t3:=Tryz.underlying3
 a3:=Tryz.isAgg3
 z3:=Tryz.sizeOf3
 v3:=Tryz.zeroValue3
 t4:=Tryz.underlying4
 a4:=Tryz.isAgg4
 z4:=Tryz.sizeOf4
 v4:=Tryz.zeroValue4
 t5:=Tryz.underlying5
 a5:=Tryz.isAgg5
 z5:=Tryz.sizeOf5
 v5:=Tryz.zeroValue5
 t9:=Tryz.underlying9
 a9:=Tryz.isAgg9
 z9:=Tryz.sizeOf9
 v9:=Tryz.zeroValue9
 t20:=Tryz.underlying20
 a20:=Tryz.isAgg20
 z20:=Tryz.sizeOf20
 v20:=Tryz.zeroValue20
 t37:=Tryz.underlying74
 a37:=Tryz.isAgg74
 z37:=Tryz.sizeOf74
 v37:=Tryz.zeroValue74
 t46:=Tryz.underlying221
 a46:=Tryz.isAgg221
 z46:=Tryz.sizeOf221
 v46:=Tryz.zeroValue221
 t51:=Tryz.underlying224
 a51:=Tryz.isAgg224
 z51:=Tryz.sizeOf224
 v51:=Tryz.zeroValue224
 t53:=Tryz.underlying212
 a53:=Tryz.isAgg212
 z53:=Tryz.sizeOf212
 v53:=Tryz.zeroValue212
 t171:=Tryz.underlying211
 a171:=Tryz.isAgg211
 z171:=Tryz.sizeOf211
 v171:=Tryz.zeroValue211
 t173:=Tryz.underlying215
 a173:=Tryz.isAgg215
 z173:=Tryz.sizeOf215
 v173:=Tryz.zeroValue215
 t212:=Tryz.underlying223
 a212:=Tryz.isAgg223
 z212:=Tryz.sizeOf223
 v212:=Tryz.zeroValue223
 t213:=Tryz.underlying225
 a213:=Tryz.isAgg225
 z213:=Tryz.sizeOf225
 t232:=Tryz.underlying228
 a232:=Tryz.isAgg228
 z232:=Tryz.sizeOf228
 v232:=Tryz.zeroValue228
 t233:=Tryz.underlying229
 a233:=Tryz.isAgg229
 z233:=Tryz.sizeOf229
 v233:=Tryz.zeroValue229
 g17:=by kernel_rfl
 g18:=by kernel_rfl
 g19:=by kernel_rfl
 i0:=by kernel_rfl
 i2:=by kernel_rfl
 i3:=by kernel_rfl
 i4:=by kernel_rfl
 i5:=by kernel_rfl
 i9:=by kernel_rfl
 i20:=by kernel_rfl
 i37:=by kernel_rfl
 i46:=by kernel_rfl
 i51:=by kernel_rfl
 i53:=by kernel_rfl
 i171:=by kernel_rfl
 i173:=by kernel_rfl
 i212:=by kernel_rfl
 i232:=by kernel_rfl
 i233:=by kernel_rfl
 m17:=by kernel_rfl
 m18:=by kernel_rfl
 m19:=by kernel_rfl}
end
end Go.Proofs
namespace Go.W
section
open Go Go.ChangeMaps Go.RowKit
def gi (w:World) (b:Nat) (l:List (Int×Int)):Prop:=
 ∃ es clock,w.heap[b]? = some (.map es clock)∧es.toList.map (fun e=>(e.key,e.val))=l.map (fun p=>(I p.1,I p.2))∧(∀ e∈es.toList,e.born < clock)∧(es.toList.map (·.born)).Nodup
theorem dO {w w':World} {b:Nat} {l:List (Int×Int)} {S:Nat→Prop} (h:gi w b l) (hm:Mod S w w') (hb:¬ S b):gi w' b l:=by
 obtain ⟨es,c,h1,h2⟩:=h;exact ⟨es,c,hm.at h1 hb,h2⟩
def mS (l:List (Int×Int)) (k:Int):Option Int:=(l.find? (fun p=>p.1 == k)).map (·.2)
def qO (l:List (Int×Int)) (k v:Int):List (Int×Int):=match l.findIdx? (fun p=>p.1 == k) with
 | some i=>l.set i (k,v)
 | none=>l++[(k,v)]
def zr (l:List (Int×Int)) (k:Int):List (Int×Int):=match l.findIdx? (fun p=>p.1 == k) with
 | some i=>l.eraseIdx i
 | none=>l
theorem ZF (k:Int):∀ (es:List MapEntry) (l:List (Int×Int)) (i:Nat),es.map (fun e=>(e.key,e.val))=l.map (fun p=>(I p.1,I p.2)) →
   Instr.findNow (.int .i64) (I k) es i=some ((l.findIdx? (fun p=>p.1 == k)).map fun j=>(i+j,I (l.getD j (0,0)).2)):=by
 intro es
 induction es with
 | nil=>
  intro l i h;cases l with
  | nil=>rfl
  | cons p l=>simp at h
 | cons e es ih=>
  intro l i h;cases l with
  | nil=>simp at h
  | cons p l=>
   simp only [List.map_cons,List.cons.injEq,Prod.mk.injEq] at h;obtain ⟨⟨h1,h2⟩,h3⟩:=h;have e1:Instr.sameNow (.int .i64) (I k) e.key=some (k == p.1):=by rw [h1];simp [Instr.sameNow,I]
   by_cases hk:p.1=k
   ·have e2:(k == p.1)=true:=by simp [hk]
    have e3:(p.1 == k)=true:=by simp [hk]
    rw [e2] at e1;simp [Instr.findNow,e1,List.findIdx?_cons,e3,h2]
   ·have e2:(k == p.1)=false:=by simp;exact fun h=>hk h.symm
    have e3:(p.1 == k)=false:=by simp [hk]
    rw [e2] at e1;simp only [Instr.findNow,e1,ih l (i+1) h3,List.findIdx?_cons,e3];cases l.findIdx? (fun p=>p.1 == k) with
    | none=>rfl
    | some j=>simp [Nat.add_assoc,Nat.add_comm 1 j]
theorem Iq {P:Program} {w:World} {kt:TypeId} (hk:P.underlying kt=some (.int .i64)) (k:Int) (es:List MapEntry) (l:List (Int×Int)) (h:es.map (fun e=>(e.key,e.val))=l.map (fun p=>(I p.1,I p.2))) :
   (Instr.findKey kt (I k) es).run P w = .ok ((l.findIdx? (fun p=>p.1 == k)).map fun j=>(j,I (l.getD j (0,0)).2)) w:=by
 have:=ZF k es l 0 h;simp only [Nat.zero_add] at this;simp only [Instr.findKey,Sem.run_bind,run_underlying hk,Result.andThen,this];rfl
theorem ZG {P:Program} {w:World} {kt:TypeId} (hk:P.underlying kt=some (.int .i64)) (k:Int) (b:Bool) (n:Nat):(Instr.checkKey b (n+1) kt (I k)).run P w = .ok () w:=by
 unfold Instr.checkKey;rw [Sem.run_bind,run_underlying hk];rfl
theorem BA {P:Program} {w:World} {kt:TypeId} (hk:P.underlying kt=some (.int .i64)) (k:Int) (b:Bool):(Instr.checkKey b 10000 kt (I k)).run P w = .ok () w:=ZG hk k b 9999
theorem Ir (l:List (Int×Int)) (k:Int):mS l k=(l.findIdx? (fun p=>p.1 == k)).map fun j=>(l.getD j (0,0)).2:=by
 induction l with
 | nil=>rfl
 | cons p l ih=>
  unfold mS at ih ⊢;by_cases hk:p.1=k
  ·have e3:(p.1 == k)=true:=by simp [hk]
   simp [List.find?_cons,List.findIdx?_cons,e3]
  ·have e3:(p.1 == k)=false:=by simp [hk]
   simp only [List.find?_cons,List.findIdx?_cons,e3,ih];cases l.findIdx? (fun p=>p.1 == k)<;>rfl
section
variable {P:Program} {ρ:Env} {w:World} {K:Value→World→Prop} {d:Option Nat} {ty:TypeId} {pos:String} {af:Array Edge}
theorem zt {t:TypeId} (hk:∀ w',gi w' w.heap.size []→Mod (fun _=>False) w w'→w'.heap.size=w.heap.size+1→K (.map (some w.heap.size)) w') :
   E.wp P w ρ K (.raw ⟨d,.makeMap t none,ty,pos,af,none⟩):=by
 refine iA fun a ha=>⟨_,_,?_,hk (w.alloc (.map #[] 0)) ⟨_,_,heap_alloc_new w _,rfl,by simp,by simp⟩ (pN _ w _) (by simp)⟩
 simp only [execOp,Sem.run_bind,Option.map_none,Go.RowKit.run_makeMap,Result.andThen];rfl
theorem Is {t kt et:TypeId} {m x:Operand} {b:Nat} {k:Int} {l:List (Int×Int)} (hm:(bf m).ev ρ=some (.map (some b))) (U:(bf x).ev ρ=some (I k)) (ht:P.underlying t=some (.map kt et)) (iV:P.underlying kt=some (.int .i64))
   (hz:(zeroValue et).run P w = .ok (I 0) w) (h:gi w b l) (hk:K (.tuple #[I ((mS l k).getD 0),.bool (mS l k).isSome]) w):E.wp P w ρ K (.raw ⟨d,.lookup t m x true,ty,pos,af,none⟩):=by
 obtain ⟨es,clock,h1,h2,_⟩:=h;refine iA fun a ha=>⟨_,w,?_,hk⟩
 have gB:=Iq (P:=P) (w:=w) iV k es.toList l h2;have e1:(Instr.lookup t (.map (some b)) (I k) true).run P w = .ok (.tuple #[I ((mS l k).getD 0),.bool (mS l k).isSome]) w:=by
  rw [Ir];simp only [Instr.lookup,Sem.run_bind,run_underlying ht,Result.andThen,getObj,Sem.run,h1,BA iV,Sem.run_pure];cases hI:l.findIdx? (fun p=>p.1 == k) with
  | none=>
   rw [hI] at gB
   erw [gB]
   simp [hz,Sem.run_bind,Sem.run_pure,Sem.run,Result.andThen]
  | some j=>
   rw [hI] at gB
   erw [gB]
   simp [Sem.run_bind,Sem.run_pure,Sem.run,Result.andThen]
 simp only [execOp,Sem.run_bind,ha m _ hm,ha x _ U,e1,Result.andThen];rfl
theorem ve {es:Array MapEntry} {c:Nat} (w:World) (b:Nat) (o:Obj) (hb:w.heap[b]? = some (.map es c)):Mod (· = b) w (setBlock w b o):=
 ⟨by simp [setBlock],fun i hi hn=>by rw [heap_setBlock_other hb o hn],rfl,rfl,rfl⟩
theorem vf (w:World) (b:Nat) (o:Obj):(setBlock w b o).heap.size=w.heap.size:=by simp [setBlock]
theorem run_setObj_map {b c:Nat} {es:Array MapEntry} {w:World} (hb:w.heap[b]? = some (.map es c)) (o:Obj):(setObj b o).run P w = .ok () (setBlock w b o):=by
 simp [setObj,Sem.run,hb,setBlock]
theorem Ek {t kt et:TypeId} {m x y:Operand} {b:Nat} {k v:Int} {l:List (Int×Int)} (hm:(bf m).ev ρ=some (.map (some b))) (U:(bf x).ev ρ=some (I k)) (hy:(bf y).ev ρ=some (I v)) (ht:P.underlying t=some (.map kt et)) (iV:P.underlying kt=some (.int .i64))
   (h:gi w b l) (hk:∀ w',gi w' b (qO l k v)→Mod (· = b) w w'→w'.heap.size=w.heap.size→K undef w'):E.wp P w ρ K (.raw ⟨d,.mapUpdate t m x y,ty,pos,af,none⟩):=by
 obtain ⟨es,clock,h1,h2,h3,h4⟩:=h;have gB:=Iq (P:=P) (w:=w) iV k es.toList l h2;have dy:es.size=l.length:=by have:=congrArg List.length h2;simpa using this
 cases hI:l.findIdx? (fun p=>p.1 == k) with
 | none=>
  rw [hI] at gB;have e1:(Instr.mapUpdate t (.map (some b)) (I k) (I v)).run P w = .ok () (setBlock w b (.map (es.push { key:=I k,val:=I v,born:=clock}) (clock+1))):=by
   simp only [Instr.mapUpdate,Sem.run_bind,run_underlying ht,Result.andThen,getObj,Sem.run,h1,BA iV,Sem.run_pure]
   erw [gB]
   exact run_setObj_map h1 _
  refine Bg fun a ha=>⟨_,?_,hk (setBlock w b (.map (es.push { key:=I k,val:=I v,born:=clock}) (clock+1))) ⟨_,_,heap_setBlock_same h1 _,?_,?_,?_⟩ (ve w b _ h1) (vf w b _)⟩
  ·simp only [execOp,Sem.run_bind,ha m _ hm,ha x _ U,ha y _ hy,e1,Result.andThen];rfl
  ·simp [qO,hI,h2]
  ·intro e he;simp only [Array.toList_push,List.mem_append,List.mem_cons,List.not_mem_nil,or_false] at he;rcases he with he | rfl
   ·exact Nat.lt_succ_of_lt (h3 e he)
   ·exact Nat.lt_succ_self _
  ·simp only [Array.toList_push,List.map_append,List.map_cons,List.map_nil];rw [List.nodup_append];refine ⟨h4,by simp,?_⟩;intro x U y hy zu;simp only [List.mem_cons,List.not_mem_nil,or_false] at hy;obtain ⟨e,he,rfl⟩:=List.mem_map.1 U;have:=h3 e he;omega
 | some i=>
  rw [hI] at gB;have eK:i < l.length:=by
   have:=List.findIdx?_eq_some_iff_getElem.1 hI;exact this.1
  have gC:i < es.size:=by omega
  have rV:(es[i]).key=I k:=by
   have h5:es.toList[i]'(by simpa using gC)=es[i]:=by simp
   have h6:=congrArg (fun z=>z[i]?) h2;simp only [List.getElem?_map,List.getElem?_eq_getElem (show i < es.toList.length by simpa using gC),List.getElem?_eq_getElem eK,Option.map_some,Option.some.injEq,Prod.mk.injEq] at h6;have h7:=(List.findIdx?_eq_some_iff_getElem.1 hI).2.1;rw [← h5,h6.1];simp at h7;rw [h7]
  have cg:(Instr.keyThatStays (((es[i]?).map (·.key)).getD (I k)) (I k)).run P w = .ok (I k) w:=by
   rw [Array.getElem?_eq_getElem gC,Option.map_some,Option.getD_some,rV];simp [Instr.keyThatStays,Instr.sameBits,I]
  have e1:(Instr.mapUpdate t (.map (some b)) (I k) (I v)).run P w = .ok () (setBlock w b (.map (es.modify i fun e=>{ e with key:=I k,val:=I v}) clock)):=by
   simp only [Instr.mapUpdate,Sem.run_bind,run_underlying ht,Result.andThen,getObj,Sem.run,h1,BA iV,Sem.run_pure]
   erw [gB]
   simp only [Option.map_some,Sem.run_bind,cg,Result.andThen];exact run_setObj_map h1 _
  refine Bg fun a ha=>⟨_,?_,hk (setBlock w b (.map (es.modify i fun e=>{ e with key:=I k,val:=I v}) clock)) ⟨_,_,heap_setBlock_same h1 _,?_,?_,?_⟩ (ve w b _ h1) (vf w b _)⟩
  ·simp only [execOp,Sem.run_bind,ha m _ hm,ha x _ U,ha y _ hy,e1,Result.andThen];rfl
  ·simp only [qO,hI];apply List.ext_getElem?;intro j;have h6:=congrArg (fun z=>z[j]?) h2;simp only [List.getElem?_map] at h6 ⊢;rw [Array.toList_modify,List.getElem?_modify,List.getElem?_set];by_cases ek:i=j
   ·subst ek;simp [eK,show i < es.toList.length by simpa using gC,gC]
   ·rw [if_neg ek]
    simpa [ek] using h6
  ·intro e he;rw [Array.toList_modify] at he;obtain ⟨j,hj,rfl⟩:=List.getElem_of_mem he;rw [List.getElem_modify];have hm:es.toList[j]'(by simpa using hj)∈es.toList:=List.getElem_mem _;have h5:=h3 _ hm
   split<;>exact h5
  ·have:(es.modify i fun e=>{ e with key:=I k,val:=I v}).toList.map (·.born)=es.toList.map (·.born):=by
    apply List.ext_getElem?;intro j;rw [Array.toList_modify];simp only [List.getElem?_map,List.getElem?_modify];by_cases ek:i=j
    ·subst ek;cases es.toList[i]?<;>simp
    ·simp [ek]
   rw [this];exact h4
theorem ZH {t kt et:TypeId} {at':Array TypeId} {m x:Operand} {b:Nat} {k:Int} {l:List (Int×Int)} (cr:at'[0]? = some t) (hm:(bf m).ev ρ=some (.map (some b))) (U:(bf x).ev ρ=some (I k)) (ht:P.underlying t=some (.map kt et)) (iV:P.underlying kt=some (.int .i64))
   (h:gi w b l) (hk:∀ w',gi w' b (zr l k)→Mod (· = b) w w'→w'.heap.size=w.heap.size→K (.tuple #[]) w'):E.wp P w ρ K (.raw ⟨d,.call { callee:=.builtin .delete,args:=#[m,x],argTypes:=at'},ty,pos,af,none⟩):=by
 obtain ⟨es,clock,h1,h2,h3,h4⟩:=h;have gB:=Iq (P:=P) (w:=w) iV k es.toList l h2;have dy:es.size=l.length:=by have:=congrArg List.length h2;simpa using this
 have run:∀ Iu,(Builtin.delete_ at' ty #[.map (some b),I k]).run P w = .ok (.tuple #[]) (setBlock w b (.map Iu clock))→∀ a,Agree ρ a→(execOp a.eval ⟨d,.call { callee:=.builtin .delete,args:=#[m,x],argTypes:=at'},ty,pos,af,none⟩).run P w = .ok (.value (.tuple #[])) (setBlock w b (.map Iu clock)):=by
  intro Iu he a ha;simp only [execOp,resolve,invoke,builtin,Sem.run_bind,Sem.run_pure,Result.andThen,List.map_toArray,List.map_cons,List.map_nil,ha m _ hm,ha x _ U]
  erw [he]
 have a0:(#[Value.map (some b),I k]:Array Value)[0]? = some (.map (some b)):=rfl;have a1:(#[Value.map (some b),I k]:Array Value)[1]? = some (I k):=rfl;cases hI:l.findIdx? (fun p=>p.1 == k) with
 | none=>
  rw [hI] at gB;have e1:(Builtin.delete_ at' ty #[.map (some b),I k]).run P w = .ok (.tuple #[]) (setBlock w b (.map es clock)):=by
   simp only [Builtin.delete_,cr,a0,a1,Sem.run_bind,run_underlying ht,Result.andThen,getObj,Sem.run,h1,BA iV,Sem.run_pure]
   erw [gB]
   simp only [Option.map_none,Sem.run_bind,run_setObj_map h1,Result.andThen];rfl
  refine iA fun a ha=>⟨_,_,run es e1 a ha,hk _ ⟨_,_,heap_setBlock_same h1 _,?_,h3,h4⟩ (ve w b _ h1) (vf w b _)⟩
  simpa [zr,hI] using h2
 | some i=>
  rw [hI] at gB;have eK:i < l.length:=(List.findIdx?_eq_some_iff_getElem.1 hI).1;have gC:i < es.size:=by omega
  have e1:(Builtin.delete_ at' ty #[.map (some b),I k]).run P w = .ok (.tuple #[]) (setBlock w b (.map (es.eraseIdxIfInBounds i) clock)):=by
   simp only [Builtin.delete_,cr,a0,a1,Sem.run_bind,run_underlying ht,Result.andThen,getObj,Sem.run,h1,BA iV,Sem.run_pure]
   erw [gB]
   simp only [Option.map_some,Sem.run_bind,run_setObj_map h1,Result.andThen];rfl
  have tI:(es.eraseIdxIfInBounds i).toList=es.toList.eraseIdx i:=by simp [Array.eraseIdxIfInBounds,gC,Array.toList_eraseIdx]
  refine iA fun a ha=>⟨_,_,run _ e1 a ha,hk _ ⟨_,_,heap_setBlock_same h1 _,?_,?_,?_⟩ (ve w b _ h1) (vf w b _)⟩
  ·rw [tI,map_eraseIdx];simp only [zr,hI];rw [h2,map_eraseIdx]
  ·intro e he;rw [tI] at he;exact h3 e (List.mem_of_mem_eraseIdx he)
  ·rw [tI,map_eraseIdx];exact h4.sublist (List.eraseIdx_sublist _ _)
theorem PX {t kt et:TypeId} {at':Array TypeId} {m:Operand} {b:Nat} {l:List (Int×Int)} (cr:at'[0]? = some t) (hm:(bf m).ev ρ=some (.map (some b))) (ht:P.underlying t=some (.map kt et))
   (h:gi w b l) (hk:∀ w',gi w' b []→Mod (· = b) w w'→w'.heap.size=w.heap.size→K (.tuple #[]) w'):E.wp P w ρ K (.raw ⟨d,.call { callee:=.builtin .clear,args:=#[m],argTypes:=at'},ty,pos,af,none⟩):=by
 obtain ⟨es,clock,h1,h2,h3,h4⟩:=h;refine iA fun a ha=>⟨_,_,?_,hk (setBlock w b (.map #[] clock)) ⟨_,_,heap_setBlock_same h1 _,rfl,by simp,by simp⟩ (ve w b _ h1) (vf w b _)⟩
 have a0:(#[Value.map (some b)]:Array Value)[0]? = some (.map (some b)):=rfl;have e1:(Builtin.clear_ at' ty #[.map (some b)]).run P w = .ok (.tuple #[]) (setBlock w b (.map #[] clock)):=by
  simp only [Builtin.clear_,cr,a0,Sem.run_bind,run_underlying ht,Result.andThen,getObj,Sem.run,h1,Sem.run_pure];simp only [run_setObj_map h1]
 simp only [execOp,resolve,invoke,builtin,Sem.run_bind,Sem.run_pure,Result.andThen,List.map_toArray,List.map_cons,List.map_nil,ha m _ hm]
 erw [e1]
theorem El {f:FuncId} {fn:Func} {cap:Array Value} {x:Operand} {args:Array Operand} {at':Array TypeId} {vs:List Value} (U:(bf x).ev ρ=some (.func (.func f) #[] cap)) (ha':eP ρ (args.toList.map bf)=some vs)
   (nT:P.funcs[f]? = some fn) (tv:fn.body.isSome=true) (xx:(fn.name == "runtime.NumGoroutine")=false) (h:aD P f (vs++cap.toList) w K) :
   E.wp P w ρ K (.raw ⟨d,.call { callee:=.value x,args:=args,argTypes:=at'},ty,pos,af,none⟩):=by
 intro a ha;have dJ:args.map a.eval=vs.toArray:=by
  have key:∀ (l:List Operand) (vs:List Value),eP ρ (l.map bf)=some vs→l.map a.eval=vs:=by
   intro l
   induction l with
   | nil=>intro vs h;simp only [List.map_nil,eP,Option.some.injEq] at h;subst h;rfl
   | cons y l ih=>
    intro vs h;simp only [List.map_cons,eP] at h;cases h1:(bf y).ev ρ with
    | none=>simp [h1] at h
    | some u=>
     cases h2:eP ρ (l.map bf) with
     | none=>simp [h1,h2] at h
     | some us=>
      simp [h1,h2] at h;subst h;rw [List.map_cons,ha y u h1,ih us h2]
  have:=key args.toList vs ha';apply Array.ext'
  simpa using this
 have hn:fn.body.isNone=false:=by cases hb:fn.body<;>simp [hb] at tv ⊢
 unfold Oper.wp;have e1:(execOp a.eval ⟨d,.call { callee:=.value x,args:=args,argTypes:=at'},ty,pos,af,none⟩).run P w = .ok (.enter f (vs++cap.toList).toArray) w:=by
  have g1:ro P w program=some P:=rfl;have g2:vs.toArray++cap=(vs++cap.toList).toArray:=by apply Array.ext';simp
  simp only [execOp,resolve,Deferred.ofValue,Sem.run_bind,Sem.run_pure,Result.andThen_ok,invoke,callFunc,kI g1,nT,ha x _ U,dJ,Array.empty_append,g2];rw [if_neg (by rw [xx];simp),if_neg (by rw [hn];simp)];rfl
 rw [e1];simp only [Oper.upon];unfold aD at h;refine h.mono ?_;rintro e w' ⟨v,rfl,hk⟩;exact ⟨v,rfl,hk⟩
theorem pO {f:FuncId} {fn:Func} {t:TypeId} {u rv:Value} {name:String} {x:Operand} {args:Array Operand} {at':Array TypeId} {vs:List Value} (U:(bf x).ev ρ=some (.iface t u)) (ha':eP ρ (args.toList.map bf)=some vs)
   (hm:(method (P.types.size+Made.depth) t u name).run P w = .ok (f,rv) w)
   (nT:P.funcs[f]? = some fn) (tv:fn.body.isSome=true) (xx:(fn.name == "runtime.NumGoroutine")=false) (h:aD P f (rv::vs) w K) :
   E.wp P w ρ K (.raw ⟨d,.call { callee:=.invoke x name,args:=args,argTypes:=at'},ty,pos,af,none⟩):=by
 intro a ha;have dJ:args.map a.eval=vs.toArray:=by
  have key:∀ (l:List Operand) (vs:List Value),eP ρ (l.map bf)=some vs→l.map a.eval=vs:=by
   intro l
   induction l with
   | nil=>intro vs h;simp only [List.map_nil,eP,Option.some.injEq] at h;subst h;rfl
   | cons y l ih=>
    intro vs h;simp only [List.map_cons,eP] at h;cases h1:(bf y).ev ρ with
    | none=>simp [h1] at h
    | some u=>
     cases h2:eP ρ (l.map bf) with
     | none=>simp [h1,h2] at h
     | some us=>
      simp [h1,h2] at h;subst h;rw [List.map_cons,ha y u h1,ih us h2]
  have:=key args.toList vs ha';apply Array.ext'
  simpa using this
 have hn:fn.body.isNone=false:=by cases hb:fn.body<;>simp [hb] at tv ⊢
 unfold Oper.wp;have e1:(execOp a.eval ⟨d,.call { callee:=.invoke x name,args:=args,argTypes:=at'},ty,pos,af,none⟩).run P w = .ok (.enter f (rv::vs).toArray) w:=by
  have g1:ro P w program=some P:=rfl;have g3:(#[Value.iface t u]++vs.toArray).extract 1 (#[Value.iface t u]++vs.toArray).size=vs.toArray:=by apply Array.ext';simp
  have g0:(#[Value.iface t u]++vs.toArray)[0]? = some (.iface t u):=by simp
  have g2 : #[rv]++vs.toArray=(rv::vs).toArray:=by apply Array.ext';simp
  simp only [execOp,resolve,Sem.run_bind,Sem.run_pure,Result.andThen_ok,invoke,g0,g3,callMethod,callFunc,kI g1,hm,nT,ha x _ U,dJ,g2];rw [if_neg (by rw [xx];simp),if_neg (by rw [hn];simp)];rfl
 rw [e1];simp only [Oper.upon];unfold aD at h;refine h.mono ?_;rintro e w' ⟨v,rfl,hk⟩;exact ⟨v,rfl,hk⟩
def kv (e:MapEntry):Value×Value:=(e.key,e.val)
def I2 (p:Int×Int):Value×Value:=(I p.1,I p.2)
def zv (w:World) (r b:Nat) (l left:List (Int×Int)):Prop:=
 ∃ es clock since seen c0,w.heap[r]? = some (.mapIter (some b) since seen c0)∧w.heap[b]? = some (.map es clock)∧es.toList.map kv=l.map I2∧(∀ e∈es.toList,e.born < since)∧since≤c0∧since≤clock∧(es.toList.map (·.born)).Nodup ∧
  (leftOf es seen).toList.map kv=left.map I2
def PY (w:World) (r b:Nat) (p:Int×Int):Prop:=
 ∃ (es:Array MapEntry) (clock since:Nat) (seen:Array Nat) (e:MapEntry),w.heap[r]? = some (.mapIter (some b) since (seen.push e.born) clock)∧w.heap[b]? = some (.map es clock)∧e∈es.toList∧(es.toList.map (·.born)).Nodup∧kv e=I2 p
theorem ZI {w w':World} {r b:Nat} {l left:List (Int×Int)} {S:Nat→Prop} (h:zv w r b l left) (hm:Mod S w w') (hr:¬ S r) (hb:¬ S b):zv w' r b l left:=by
 obtain ⟨es,c,s,seen,c0,h1,h2,h3⟩:=h;exact ⟨es,c,s,seen,c0,hm.at h1 hr,hm.at h2 hb,h3⟩
theorem ZJ {t kt et:TypeId} {m:Operand} {b:Nat} {l:List (Int×Int)} (hm:(bf m).ev ρ=some (.map (some b))) (ht:P.underlying t=some (.map kt et)) (h:gi w b l)
   (hk:∀ w',zv w' w.heap.size b l l→Mod (fun _=>False) w w'→w'.heap.size=w.heap.size+1→K (.pointer (some ⟨w.heap.size,0,none⟩)) w'):E.wp P w ρ K (.raw ⟨d,.range t m,ty,pos,af,none⟩):=by
 obtain ⟨es,clock,h1,h2,h3,h4⟩:=h;refine iA fun a ha=>⟨_,_,?_,hk (w.alloc (.mapIter (some b) clock #[] clock)) ⟨es,clock,clock,#[],clock,heap_alloc_new w _,?_,h2,h3,Nat.le_refl _,Nat.le_refl _,h4,?_⟩ (pN _ w _) (by simp)⟩
 ·have e1:(Instr.range t (.map (some b))).run P w = .ok (.pointer (some ⟨w.heap.size,0,none⟩)) (w.alloc (.mapIter (some b) clock #[] clock)):=by
   simp only [Instr.range,Sem.run_bind,run_underlying ht,Result.andThen,getObj,Sem.run,h1,Sem.run_pure];rfl
  simp only [execOp,Sem.run_bind,ha m _ hm,e1,Result.andThen];rfl
 ·exact (pN (fun _=>False) w _).at h1 (fun h=>h)
 ·have:(leftOf es #[])=es:=by simp [leftOf]
  rw [this];exact h2
theorem ZK (es:Array MapEntry) (seen:Array Nat) (hn:(es.toList.map (·.born)).Nodup) {i:Nat} (hi:i < (leftOf es seen).toList.length) :
   (leftOf es (seen.push ((leftOf es seen).toList[i]).born)).toList=(leftOf es seen).toList.eraseIdx i:=by
 have hL:(leftOf es seen).toList=es.toList.filter (fun e=>!seen.contains e.born):=by simp [leftOf]
 have vh:((leftOf es seen).toList.map (·.born)).Nodup:=by
  rw [hL];exact hn.sublist ((List.filter_sublist).map _)
 generalize hb:((leftOf es seen).toList[i]).born=bn;have h2:(leftOf es (seen.push bn)).toList=(leftOf es seen).toList.filter (fun e=>!(e.born == bn)):=by
  rw [hL];simp only [leftOf,Array.toList_filter,List.filter_filter];apply List.filter_congr;intro e _;simp only [Array.contains_push];cases seen.contains e.born<;>cases (e.born == bn)<;>rfl
 rw [h2];generalize (leftOf es seen).toList=L at hi vh hb;clear h2 hL
 induction L generalizing i with
 | nil=>simp at hi
 | cons e L ih=>
  simp only [List.map_cons,List.nodup_cons] at vh;cases i with
  | zero=>
   simp only [List.getElem_cons_zero] at hb;subst hb;rw [List.eraseIdx_cons_zero,List.filter_cons,if_neg (by simp),List.filter_eq_self];intro x U;have:x.born≠e.born:=fun hh=>vh.1 (hh ▸ List.mem_map.2 ⟨x,U,rfl⟩)
   simp [this]
  | succ i=>
   simp only [List.getElem_cons_succ] at hb;have bS:i < L.length:=by simpa using hi
   have bq:e.born≠bn:=fun hh=>vh.1 (by rw [hh,← hb];exact List.mem_map.2 ⟨_,List.getElem_mem bS,rfl⟩)
   rw [List.eraseIdx_cons_succ,List.filter_cons,if_pos (by simp [bq]),ih bS vh.2 hb]
theorem ZL {m:Operand} {r b:Nat} {l left:List (Int×Int)} (hm:(bf m).ev ρ=some (.pointer (some ⟨r,0,none⟩))) (h:zv w r b l left) (ZM:r≠b)
   (h0:left=[]→K (.tuple #[.bool false]) w)
   (h1:∀ i (hi:i < left.length) w',zv w' r b l (left.eraseIdx i)→PY w' r b left[i]→Mod (· = r) w w'→w'.heap.size=w.heap.size→K (.tuple #[.bool true,I left[i].1,I left[i].2]) w') :
   E.wp P w ρ K (.raw ⟨d,.next m false,ty,pos,af,none⟩):=by
 obtain ⟨es,clock,since,seen,c0,k1,k2,k3,k4,k5,k6,k7,k8⟩:=h;have zw:left.length=(leftOf es seen).toList.length:=by have:=congrArg List.length k8;simpa using this.symm
 rcases run_next_at (P:=P) w ty r b since c0 seen es clock k1 k2 k4 k5 with ⟨z1,z2⟩ | ⟨e,he,w1,oP,z2⟩
 ·refine iA fun a ha=>⟨_,_,?_,h0 (List.eq_nil_of_length_eq_zero (by rw [zw];simpa using z1))⟩
  simp only [execOp,Sem.run_bind,ha m _ hm,z2,Result.andThen];rfl
 ·obtain ⟨i,hi,gC⟩:=List.getElem_of_mem he;have eK:i < left.length:=by rw [zw];exact hi
  have pP:kv e=I2 left[i]:=by
   have:=congrArg (fun z=>z[i]?) k8;simp only [List.getElem?_map,List.getElem?_eq_getElem hi,List.getElem?_eq_getElem eK,Option.map_some,Option.some.injEq] at this;rw [← gC];exact this
  have ag:Mod (· = r) w (setBlock w1 r (.mapIter (some b) since (seen.push e.born) clock)):=by
   rcases oP with rfl | rfl
   ·exact ⟨by simp [setBlock],fun j hj hn=>by simp only [setBlock];rw [Array.getElem?_setIfInBounds,if_neg (fun hh=>hn hh.symm)],rfl,rfl,rfl⟩
   ·exact ⟨by simp [setBlock],fun j hj hn=>by simp only [setBlock];rw [Array.getElem?_setIfInBounds,if_neg (fun hh=>hn hh.symm)];rfl,rfl,rfl,rfl⟩
  have PZ:=lt_of_heap k1;have sf:(setBlock w1 r (.mapIter (some b) since (seen.push e.born) clock)).heap[r]? = some (.mapIter (some b) since (seen.push e.born) clock):=by
   rcases oP with rfl | rfl<;>simp [setBlock,PZ]
  have fH:=ag.at k2 (fun hh=>ZM hh.symm);have dy:(setBlock w1 r (.mapIter (some b) since (seen.push e.born) clock)).heap.size=w.heap.size:=by
   rcases oP with rfl | rfl<;>simp [setBlock]
  have e2:(.tuple #[.bool true,I left[i].1,I left[i].2]:Value) = .tuple #[.bool true,e.key,e.val]:=by
   have q:=pP;simp only [kv,I2,Prod.mk.injEq] at q;rw [q.1,q.2]
  refine iA fun a ha=>⟨_,_,?_,h1 i eK (setBlock w1 r (.mapIter (some b) since (seen.push e.born) clock)) ⟨es,clock,since,seen.push e.born,clock,sf,fH,k3,k4,k6,k6,k7,?_⟩ ⟨es,clock,since,seen,e,sf,fH,?_,k7,pP⟩ ag dy⟩
  ·rw [e2];simp only [execOp,Sem.run_bind,ha m _ hm,z2,Result.andThen];rfl
  ·have:=ZK es seen k7 hi;rw [gC] at this;rw [this,map_eraseIdx,k8,map_eraseIdx]
  ·have hL:(leftOf es seen).toList=es.toList.filter (fun e=>!seen.contains e.born):=by simp [leftOf]
   rw [hL] at he;exact (List.mem_filter.1 he).1
theorem ZN {m:Operand} {r b:Nat} {p:Int×Int} (hm:(bf m).ev ρ=some (.pointer (some ⟨r,0,none⟩))) (h:PY w r b p) (hk:K (.tuple #[I p.1,I p.2]) w):E.wp P w ρ K (.raw ⟨d,.entry m,ty,pos,af,none⟩):=by
 obtain ⟨es,clock,since,seen,e,h1,h2,h3,h4,h5⟩:=h;have:=run_entry_at (P:=P) w r b since seen es clock e h1 h2 h3 h4;simp only [kv,I2,Prod.mk.injEq] at h5;rw [h5.1,h5.2] at this;refine iA fun a ha=>⟨_,_,?_,hk⟩
 simp only [execOp,Sem.run_bind,ha m _ hm,this,Result.andThen];rfl
theorem Em {t el:TypeId} {n:Nat} (ht:P.underlying t=some (.slice el)) (hn:gu P el=some n) (hk:∀ w',w'.heap[w.heap.size]? = some (.cells #[] el (0,0))→Mod (fun _=>False) w w'→w'.heap.size=w.heap.size+1→K (.slice (some ⟨w.heap.size,0,none⟩) 0 0) w') :
   E.wp P w ρ K (.raw ⟨d,.buildSlice t 0 #[],ty,pos,af,none⟩):=by
 refine iA fun a ha=>⟨_,_,?_,hk (w.alloc (.cells #[] el)) (heap_alloc_new w _) (pN _ w _) (by simp)⟩
 have g1:ro P w (underlying t)=some (.slice el):=by rw [iy,ht]
 have g2:ro P w (sizeOf el)=some n:=by rw [qC];exact hn
 simp only [execOp,Instr.buildSlice,Sem.run_bind,kI g1,kI g2,Result.andThen_ok,Sem.run_pure,Nat.zero_mul];simp [newRow,Instr.fill,show Array.range 0 = #[] from rfl]
end
end
section
open Go
variable {dl:List Deferred} {P:Program} {N:Nat} {ops:Array Oper}
def tJ (o:Oper):Bool:=match o.op with
 | .defer _=>false
 | _=>true
theorem ZO {o:Oper} (h:tJ o=true):∀ c,o.op≠.defer c:=by
 intro c hc;simp [tJ,hc] at h
theorem ZP {l n:Nat} {row:String} {args:Array Value} {w:World} {R:Value→World→Prop} (h:Rows P row args w R):RowsIn (Fence.wide.inRound l) n P row args w R:=by
 intro c cs _;obtain ⟨v,w',h1,h2⟩:=h c cs;exact ⟨v,w',h1,stepsIn_wide.2 h2⟩
theorem ZQ {l n:Nat} {o:Oper} {a:Act} {K:Act→World→Prop} {Q:Exit→Act→World→Prop} {r:Result Next} (h:o.upon P a K uX r):o.uponIn (Fence.wide.inRound l) n P a K Q r:=by
 cases r with
 | ok x w'=>
  cases x<;>simp only [Oper.upon] at h<;>first
   | exact h
   | exact ⟨fun hh=>(by cases hh),(CallsIn.inRound l (callsIn_wide.2 h)).mono (fun e pK he=>by
       cases e with
       | returned v=>exact he
       | panicked c=>exact False.elim he
       | outgrown=>obtain ⟨_,_,hf⟩:=he;exact False.elim hf)⟩
   | exact ⟨fun hh=>(by cases hh),ZP h⟩
   | exact False.elim h
 | halt x w'=>cases x<;>simp only [Oper.upon] at h<;>exact False.elim h
theorem En {l n:Nat} {o:Oper} {a:Act} {w:World} {K:Act→World→Prop} {Q:Exit→Act→World→Prop} (hd:tJ o=true) (h:o.wp P a w K uX):o.wpIn (Fence.wide.inRound l) n P a w K Q:=
 ⟨fun _ _=>trivial,by rw [Oper.semAt_eq _ _ _ (ZO hd)];exact ZQ h⟩
theorem Eo {l n:Nat} {G:Act→World→Prop} {Q:Exit→Act→World→Prop} (hQ:∀ a w,G a w→Q .normal a w):∀ (L:List Oper) (a:Act) (w:World),L.all tJ=true→l0 P ops G L a w→wpListIn (Fence.wide.inRound l) n P ops Q L a w
 | [],a,w,_,h=>hQ a w h
 | o::L,a,w,hd,h=>by
  simp only [List.all_cons,Bool.and_eq_true] at hd;unfold l0 at h;unfold wpListIn
  split
  ·rename_i hw;rw [if_pos hw] at h;exact En hd.1 (Oper.wp_mono (fun a w hh=>Eo hQ L a w hd.2 hh) h)
  ·rename_i hw;rw [if_neg hw] at h;exact ⟨fun _ _=>trivial,Eo hQ L _ _ hd.2 h⟩
theorem ZR {l n:Nat} {B:Nat→Nat→Prop} {Q:Act→World→Prop} {Q':Exit→Act→World→Prop} (hQ:∀ a w,Q a w→Q' .normal a w) (hd:ops.all tJ=true) :
   ∀ (f:Nat) (listed:Array Bool) (a:Act) (w:World),oM P ops B Q f listed a w→wpAnyIn (Fence.wide.inRound l) n P .any ops Q' f listed a w:=by
 intro f
 induction f with
 | zero=>intro listed a w h;exact ⟨h.1,hQ _ _ h.2⟩
 | succ f ih=>
  intro listed a w h;refine ⟨fun h0=>hQ _ _ (h.1 h0),fun i hi=>?_⟩;obtain ⟨o,ho,hg⟩:=h.2 i hi;have ZS:tJ o=true:=by
   rw [Array.all_eq_true] at hd;obtain ⟨h1,h2⟩:=Array.getElem?_eq_some_iff.1 ho;have:=hd i h1;rw [h2] at this;exact this
  unfold wpOpIn;simp only [ho]
  split
  ·rename_i hw;rw [if_pos hw] at hg;exact En ZS (Oper.wp_mono (fun a' w' hh=>ih _ _ _ hh.2) hg)
  ·rename_i hw;rw [if_neg hw] at hg;exact ⟨fun _ _=>trivial,ih _ _ _ hg.2⟩
theorem P0 {l n:Nat} {id:Nat} {pm:List Nat} {Q:Exit→Act→World→Prop} {K:Env→World→Prop} {t:D} {ρ:Env} {a:Act} {w:World} (hm:P.follows .mixedOrders=true) (kL:zf ops pm=true)
   (tz:Region.noSelect ops=true) (hd:ops.all tJ=true) (ht:qH P N ops pm ops.size (Array.replicate ops.size false)=some t) (h:gx P t ρ w.drew [] K) (hg:Good dl N ρ a)
   (hQ:∀ bz a' w',Good dl N bz a'→K bz w'→Q .normal a' w'):(Code.region id ops true).wpIn (Fence.wide.inRound l) n P Q a w:=by
 refine wpIn_region_any hm (ZR (B:=tA pm []) (Q:=zh dl N K) (fun a' w' ⟨bz,h1,h2⟩=>hQ bz a' w' h1 h2) hd _ _ _ _ ?_);refine Px kL tz _ _ t ρ a w.drew [] ht h hg ?_ (fun _ _ h=>by cases h);intro j oj _ hl;have:(Array.replicate ops.size false).getD j false=false:=by
  rcases Nat.lt_or_ge j ops.size with h | h
  ·simp [h]
  ·simp [h]
 rw [this] at hl;cases hl
def calm:Code→Bool
 | .skip=>true
 | .ret=>true
 | .exit _=>true
 | .seq a b=>calm a&&calm b
 | .cond _ a b=>calm a&&calm b
 | .block _ a=>calm a
 | .region _ ops _=>ops.all tJ
 | _=>false
def ki:IR→Bool
 | .raw _=>false
 | .loop _=>false
 | .seq a b=>ki a&&ki b
 | .cond _ a b=>ki a&&ki b
 | .block _ a=>ki a
 | _=>true
theorem Ep {l n:Nat} {H:List (Nat×List Nat×List Nat)}:∀ (c:Code) (ir:IR) (Q:gy) (ρ:Env) (a:Act) (w:World),eF P N H c=some ir→calm c=true→ki ir=true→cD P N ir Q ρ w→Good dl N ρ a →
   c.wpIn (Fence.wide.inRound l) n P (tE dl N Q) a w:=by
 intro c
 induction c with
 | skip=>intro ir Q ρ a w h _ _ hw hg;simp only [eF,Option.some.injEq] at h;subst h;exact wpIn_skip ⟨ρ,hg,hw⟩
 | ret=>intro ir Q ρ a w h _ _ hw hg;simp only [eF,Option.some.injEq] at h;subst h;exact wpIn_ret ⟨ρ,hg,hw⟩
 | exit id=>intro ir Q ρ a w h _ _ hw hg;simp only [eF,Option.some.injEq] at h;subst h;exact wpIn_exit ⟨ρ,hg,hw⟩
 | seq x y qL qM=>
  intro ir Q ρ a w h hc hk hw hg;simp only [eF] at h;obtain ⟨a1,h1,h⟩:=Option.bind_eq_some_iff.1 h;obtain ⟨b1,h2,h⟩:=Option.map_eq_some_iff.1 h;subst h;simp only [calm,ki,Bool.and_eq_true] at hc hk;refine wpIn_seq (wpIn_mono (qL a1 _ ρ a w h1 hc.1 hk.1 hw hg) ?_);intro e a' w' hq;obtain ⟨bz,cM,hq⟩:=hq;cases e with
  | normal=>exact qM b1 Q bz a' w' h2 hc.2 hk.2 hq cM
  | _=>exact ⟨bz,cM,hq⟩
 | cond c x y qL qM=>
  intro ir Q ρ a w h hc hk hw hg;simp only [eF] at h;obtain ⟨a1,h1,h⟩:=Option.bind_eq_some_iff.1 h;obtain ⟨b1,h2,h⟩:=Option.map_eq_some_iff.1 h;subst h;simp only [calm,ki,Bool.and_eq_true] at hc hk;obtain ⟨t,dW,ht,hf⟩:=hw;have he:=hg.agree c _ dW;exact wpIn_cond_split he (fun e=>qL a1 Q ρ a w h1 hc.1 hk.1 (ht e) hg) (fun e=>qM b1 Q ρ a w h2 hc.2 hk.2 (hf e) hg)
 | block id x ih=>
  intro ir Q ρ a w h hc hk hw hg;simp only [eF] at h;obtain ⟨a1,h1,h⟩:=Option.map_eq_some_iff.1 h;subst h;simp only [calm,ki] at hc hk;refine wpIn_block (wpIn_mono (ih a1 _ ρ a w h1 hc hk hw hg) ?_);intro e a' w' hq;obtain ⟨bz,cM,hq⟩:=hq;cases e with
  | exit mQ=>
   simp only [Exit.inBlock,ji] at hq ⊢
   split
   ·rename_i hh;rw [if_pos hh] at hq;exact ⟨bz,cM,hq⟩
   ·rename_i hh;rw [if_neg hh] at hq;exact ⟨bz,cM,hq⟩
  | _=>exact ⟨bz,cM,hq⟩
 | region id ops draw=>
  intro ir Q ρ a w h hc hk hw hg;simp only [calm] at hc;simp only [eF] at h;obtain ⟨x,U,h0⟩:=Option.bind_eq_some_iff.1 h;clear h;have h:=h0;clear h0;obtain ⟨kp,pm⟩:=x;unfold Ih at h;have fin:∀ bz a' w',Good dl N bz a'→Q .normal (bz.dV kp) w'→tE dl N Q .normal a' w':=fun bz a' w' cM hq=>⟨_,cM.dV kp,hq⟩
  have gh:ops.toList.all tJ=true:=by simpa using hc
  split at h
  ·rename_i hd;subst hd
   split at h
   ·rename_i fo;simp only [Bool.and_eq_true] at fo;obtain ⟨⟨hs,kL⟩,hm⟩:=fo
    split at h
    ·rename_i t ht
     split at h
     ·rename_i st cg;simp only [Option.some.injEq] at h;subst h;exact P0 (K:=fun ρ w=>Q .normal (ρ.dV kp) w) hm kL hs hc ht (PB t st ρ _ [] cg hw) hg fin
     ·simp only [Option.some.injEq] at h;subst h;exact P0 (K:=fun ρ w=>Q .normal (ρ.dV kp) w) hm kL hs hc ht hw hg fin
    ·simp only [Option.some.injEq] at h;subst h;simp [ki] at hk
   ·simp only [Option.some.injEq] at h;subst h;simp [ki] at hk
  ·rename_i hd;have:draw=false:=by simpa using hd
   subst this;obtain ⟨st,cg,h⟩:=Option.map_eq_some_iff.1 h;subst h;cases vb:rY N kp [] st with
   | none=>
    rw [vb] at hw;exact wpIn_region_list (Eo (fun _ _ h=>h) _ _ _ gh (Pm (G:=fun a w=>tE dl N Q .normal a w) ops.toList st ρ a w (fun ρ w=>Q .normal (ρ.dV kp) w) cg hw hg fin))
   | some jh=>
    rw [vb] at hw;exact wpIn_region_list (Eo (fun _ _ h=>h) _ _ _ gh (PI (G:=fun a w=>tE dl N Q .normal a w) (K:=fun ρ w=>Q .normal ρ w) ops.toList st jh [] ρ ρ a w cg vb hw hg (fun t _=>rfl) fin))
 | _=>intro ir Q ρ a w h hc;simp [calm] at hc
def eH (n k:Nat):List Nat:=(List.range k).map fun i=>n - 1 - i
theorem BB (n k:Nat):eH n (k+1)=eH n k++[n - 1 - k]:=by simp [eH,List.range_succ]
theorem Iv (n k:Nat):(eH n k).length=k:=by simp [eH]
def Quiet (B:Nat) (I:World→Prop):Prop:=∀ W W' (S:Nat→Prop),I W→Mod S W W'→(∀ b,S b→B≤b∧∃ o:Obj,W.heap[b]? = some o∧o.isCells=false)→I W'
theorem Iw {α:Type} {B:Nat} {I:List α→World→Prop} (h:∀ s,Quiet B (I s)):OwnFrom B I:=by
 intro s W W' row hs hg hr;refine h s W W' (fun b=>row=some b) hs ⟨hg.size,fun b hb hn=>hg.block b hb (fun e=>hn e.symm),hg.os,hg.tape,hg.output⟩ (fun b hb=>hr b hb)
structure P1 (P:Program) (N:Nat) (ir:IR) (Kp:World→World→Prop) (len:Nat) (dF:Nat→Value) (p1 p2 d:Nat) (ρ:Env) (B:Nat) (I:List Nat→World→Prop) (w:World):Prop where
 zero:I [] w
 quiet:∀ s,Quiet B (I s)
 body:∀ (pre:List Nat) (j:Nat) (W:World),I pre W→pre.length < len→j < len →
  cD P N ir (fun e _ W'=>match e with | .normal=>KeepsOthers W W'∧Kp W W'∧I (pre++[j]) W' | _=>False) ((d,dF j)::ρ) W
theorem BC {ρ:Env} {a:Act} (h:Good dl N ρ a) {p:Nat} (v:Value) (hp:ρ.get p=none) (hN:p < N):Good dl N ρ (a.put (some p) v):=by
 have h1:=h.put (some p) v (fun t ht=>by cases ht;exact hN);refine ⟨h1.size,h1.defers,fun t u hu=>h1.get t u ?_⟩;rw [Bx (fun hh=>by subst hh;rw [hp] at hu;cases hu)];exact hu
theorem ZT {n:Nat} {x p1 p2 d id ty:Nat} {pos:String} {bd:Code} {ir:IR} {H:List (Nat×List Nat×List Nat)} (oR:eF P N H bd=some ir) (BD:calm bd=true) (BE:ki ir=true)
   {gf:Nat} {lb:Array Value} {len:Nat} {dF:Nat→Value} {Kp:World→World→Prop} {ρ:Env} {a:Act} {w:World} {Q:Exit→Act→World→Prop} (hg:Good dl N ρ a) (U:ρ.get x=some (.func (.func gf) #[] lb))
   (eg:∀ args w,(callFunc gf args).run P w = .ok (.enter gf args) w)
   (oS:SeqStopsK Fence.wide (n - 1) P gf lb (fun y : { j:Nat // j < len}=>#[.int .i64 (y.1:Int),dF y.1]) Kp (fun ys=>ys.map Subtype.val=eH len len) (fun _=>True) len w)
   (hp:p1≠p2∧p1 < N∧p2 < N∧d < N) (BF:ρ.get p1=none∧ρ.get p2=none) (hn:1≤n)
   (qP:∀ {A B C:World},Kp A B→Kp B C→Kp A C) (qQ:∀ (W:World) (l:Nat) (o o':Obj),w.heap.size≤l→W.heap[l]? = some o→o.isCells=false→o.isWalk=false→Kp W (W.putObj l o'))
   (I:List Nat→World→Prop) (hI:P1 P N ir Kp len dF p1 p2 d ρ w.heap.size I w)
   (done:∀ (D:Nat) (W:World),w.heap.size≤D→I (eH len len) W→W.heap[D]? = some (.deferred (some []))→∀ a',Good ({ target:=.collected D,args:=#[]}::dl) N ρ a'→Q .normal a' W) :
   (Code.rangeFunc (.tmp x) #[p1,p2] (.region id #[{ dst:=some d,op:=.assign (.tmp p2),type:=ty,pos:=pos,after:=#[],guard:=none}] false) bd).wp P Q a w:=by
 obtain ⟨ZU,sg,iE,hd⟩:=hp;obtain ⟨si,fQ⟩:=BF;have h0:Good [] N ρ { tmps:=a.tmps,defers:=[]}:=⟨hg.size,rfl,hg.get⟩;have tD:a.eval (.tmp x) = .func (.func gf) #[] lb:=hg.agree (.tmp x) _ U;refine (wpIn_wide (n:=n)).1 ?_;refine wpIn_rangeFunc_ownF (α:={ j:Nat // j < len}) rfl hn tD trivial eg oS qP qQ (Go.RowKit.Below.refl _ _) (fun _=>rfl) (fun xs W=>I (xs.map Subtype.val) W) (fun _ _ _=>False)
  (Iw (fun s=>hI.quiet _)) (fun c=>fun s W W' row h=>h.elim) hI.zero
  (fun y=>(((({ tmps:=a.tmps,defers:=[]}:Act).put (some p1) (.int .i64 (y.1:Int))).put (some p2) (dF y.1)).put (some d) (dF y.1))) ?_ ?_ ?_ ?_
 ·intro l y W K hK;have e:((#[p1,p2].zip #[Value.int .i64 (y.1:Int),dF y.1]).foldl (fun t (p,v)=>t.setIfInBounds p v) a.tmps)=((({ tmps:=a.tmps,defers:=[]}:Act).put (some p1) (.int .i64 (y.1:Int))).put (some p2) (dF y.1)).tmps:=by simp [Act.put]
  rw [e];have hG:Good [] N ((p2,dF y.1)::ρ) ((({ tmps:=a.tmps,defers:=[]}:Act).put (some p1) (.int .i64 (y.1:Int))).put (some p2) (dF y.1)):=
   (BC h0 _ si sg).put (some p2) _ (fun t ht=>by cases ht;exact iE)
  refine wpIn_region_list ?_;show wpListIn _ _ _ _ _ [_] _ _;unfold wpListIn;rw [if_pos (by simp [Region.wanted])];have hr:jD P (Op.assign (.tmp p2))=some (.mv (.t p2)):=rfl;obtain ⟨v,hv,kh⟩:=Ic (P:=P) (o:={ dst:=some d,op:=.assign (.tmp p2),type:=ty,pos:=pos,after:=#[],guard:=none}) (w:=W) hr hG (by simpa [Bw] using iE);have pQ:dF y.1=v:=hv _ (by simp [O.ev,Env.get]);subst pQ;refine En rfl (Oper.wp_mono ?_ kh);rintro a' w' ⟨rfl,rfl⟩;exact hK
 ·intro l pre y W hi hlen;have hG:Good [] N ((d,dF y.1)::ρ) (((({ tmps:=a.tmps,defers:=[]}:Act).put (some p1) (.int .i64 (y.1:Int))).put (some p2) (dF y.1)).put (some d) (dF y.1)):=
   (BC (BC h0 _ si sg) _ fQ iE).put (some d) _ (fun t ht=>by cases ht;exact hd)
  refine wpIn_mono (Ep bd ir _ _ _ _ oR BD BE (hI.body _ y.1 W hi (by simpa using hlen) y.2) hG) ?_;rintro e a' w' ⟨bz,_,hq⟩;cases e with
  | normal=>
   obtain ⟨q1,q2,q3⟩:=hq;exact ⟨q1,q2,by show I ((pre++[y]).map Subtype.val) w';rw [List.map_append];exact q3⟩
  | _=>exact hq.elim
 ·intro D xs W hD hS hi hh;have hS:xs.map Subtype.val=eH len len:=hS;have hi:I (xs.map Subtype.val) W:=hi;rw [hS] at hi;exact done D W hD hi hh _ ⟨hg.size,by simp [hg.defers],hg.get⟩
 ·intro D c pre W _ _ hh;exact hh.elim
structure P2 (P:Program) (N:Nat) (ir:IR) (Kp:World→World→Prop) (len:Nat) (d:Nat) (ρ:Env) (B:Nat) (I:List ByteArray→World→Prop) (w:World):Prop where
 zero:I [] w
 quiet:∀ s,Quiet B (I s)
 body:∀ (pre:List ByteArray) (x:ByteArray) (W:World),I pre W→pre.length < len →
  cD P N ir (fun e _ W'=>match e with | .normal=>KeepsFrom B W W'∧Kp W W'∧I (pre++[x]) W' | _=>False) ((d,.string x)::ρ) W
theorem ZV {n:Nat} {x p d id ty:Nat} {pos:String} {bd:Code} {ir:IR} {H:List (Nat×List Nat×List Nat)} (oR:eF P N H bd=some ir) (BD:calm bd=true) (BE:ki ir=true)
   {gf:Nat} {lb:Array Value} {len:Nat} {Kp:World→World→Prop} {ρ:Env} {a:Act} {w:World} {Q:Exit→Act→World→Prop} (hg:Good dl N ρ a) (U:ρ.get x=some (.func (.func gf) #[] lb))
   (eg:∀ args w,(callFunc gf args).run P w = .ok (.enter gf args) w)
   (oS:SeqStopsK Fence.wide (n - 1) P gf lb (fun y:ByteArray=>#[.string y]) Kp (fun _=>True) (fun _=>True) len w)
   (hp:p < N∧d < N) (BF:ρ.get p=none) (hn:1≤n)
   (qP:∀ {A B C:World},Kp A B→Kp B C→Kp A C) (qQ:∀ (W:World) (l:Nat) (o o':Obj),w.heap.size≤l→W.heap[l]? = some o→o.isCells=false→o.isWalk=false→Kp W (W.putObj l o'))
   (I:List ByteArray→World→Prop) (hI:P2 P N ir Kp len d ρ w.heap.size I w)
   (done:∀ (D:Nat) (xs:List ByteArray) (W:World),w.heap.size≤D→I xs W→W.heap[D]? = some (.deferred (some []))→∀ a',Good ({ target:=.collected D,args:=#[]}::dl) N ρ a'→Q .normal a' W) :
   (Code.rangeFunc (.tmp x) #[p] (.region id #[{ dst:=some d,op:=.assign (.tmp p),type:=ty,pos:=pos,after:=#[],guard:=none}] false) bd).wp P Q a w:=by
 obtain ⟨sg,hd⟩:=hp;have h0:Good [] N ρ { tmps:=a.tmps,defers:=[]}:=⟨hg.size,rfl,hg.get⟩;have tD:a.eval (.tmp x) = .func (.func gf) #[] lb:=hg.agree (.tmp x) _ U;refine (wpIn_wide (n:=n)).1 ?_;refine wpIn_rangeFunc_ownG (α:=ByteArray) rfl hn tD trivial eg oS qP qQ (Go.RowKit.Below.refl _ _) (fun _=>rfl) I (fun _ _ _=>False)
  (Iw (fun s=>hI.quiet _)) (fun c=>fun s W W' row h=>h.elim) hI.zero
  (fun y=>((({ tmps:=a.tmps,defers:=[]}:Act).put (some p) (.string y)).put (some d) (.string y))) ?_ ?_ ?_ ?_
 ·intro l y W K hK;have e:((#[p].zip #[Value.string y]).foldl (fun t (p,v)=>t.setIfInBounds p v) a.tmps)=(({ tmps:=a.tmps,defers:=[]}:Act).put (some p) (.string y)).tmps:=by simp [Act.put]
  rw [e];have hG:Good [] N ((p,.string y)::ρ) (({ tmps:=a.tmps,defers:=[]}:Act).put (some p) (.string y)):=
   h0.put (some p) _ (fun t ht=>by cases ht;exact sg)
  refine wpIn_region_list ?_;show wpListIn _ _ _ _ _ [_] _ _;unfold wpListIn;rw [if_pos (by simp [Region.wanted])];have hr:jD P (Op.assign (.tmp p))=some (.mv (.t p)):=rfl;obtain ⟨v,hv,kh⟩:=Ic (P:=P) (o:={ dst:=some d,op:=.assign (.tmp p),type:=ty,pos:=pos,after:=#[],guard:=none}) (w:=W) hr hG (by simpa [Bw] using sg);have pQ:Value.string y=v:=hv _ (by simp [O.ev,Env.get]);subst pQ;refine En rfl (Oper.wp_mono ?_ kh);rintro a' w' ⟨rfl,rfl⟩;exact hK
 ·intro l pre y W hi hlen;have hG:Good [] N ((d,.string y)::ρ) ((({ tmps:=a.tmps,defers:=[]}:Act).put (some p) (.string y)).put (some d) (.string y)):=
   (BC h0 _ BF sg).put (some d) _ (fun t ht=>by cases ht;exact hd)
  refine wpIn_mono (Ep bd ir _ _ _ _ oR BD BE (hI.body _ y W hi hlen) hG) ?_;rintro e a' w' ⟨bz,_,hq⟩;cases e with
  | normal=>exact hq
  | _=>exact hq.elim
 ·intro D xs W hD hS hi hh;exact done D xs W hD hi hh _ ⟨hg.size,by simp [hg.defers],hg.get⟩
 ·intro D c pre W _ _ hh;exact hh.elim
end
end Go.W
section
namespace Go.W
open Go
inductive K where
 | ir (x:IR)
 | seq (a b:K)
 | cond (c:O) (a b:K)
 | iC (id:Nat) (a:K)
 | Er (x p1 p2 d:Nat) (bd:IR)
 | P3 (x p d:Nat) (bd:IR)
 deriving Inhabited
abbrev nY:=Exit→List Nat→Env→World→Prop
def zx (next:List Nat→Env→World→Prop) (Q:nY):nY
 | .normal,Ds,ρ,w=>next Ds ρ w
 | e,Ds,ρ,w=>Q e Ds ρ w
def zy (id:Nat) (Q:nY):nY
 | .exit mQ,Ds,ρ,w=>if mQ=id then Q .normal Ds ρ w else Q (.exit mQ) Ds ρ w
 | e,Ds,ρ,w=>Q e Ds ρ w
def zz (D:Nat):Deferred:={ target:=.collected D,args:=#[]}
def P4 (N:Nat) (Q:nY):Exit→Act→World→Prop:=fun e a w=>∃ ρ Ds,Good (Ds.map zz) N ρ a∧Q e Ds ρ w
structure ZW (P:Program) (N:Nat) (ir:IR) (x p1 p2 d:Nat) (ρ:Env) (w:World) (n len gf:Nat) (lb:Array Value) (dF:Nat→Value) (Kp:World→World→Prop) (I:List Nat→World→Prop):Prop where
 U:ρ.get x=some (.func (.func gf) #[] lb)
 eg:∀ args w,(callFunc gf args).run P w = .ok (.enter gf args) w
 oS:SeqStopsK Fence.wide (n - 1) P gf lb (fun y : { j:Nat // j < len}=>#[.int .i64 (y.1:Int),dF y.1]) Kp (fun ys=>ys.map Subtype.val=eH len len) (fun _=>True) len w
 fresh:ρ.get p1=none∧ρ.get p2=none
 hn:1≤n
 qP:∀ {A B C:World},Kp A B→Kp B C→Kp A C
 qQ:∀ (W:World) (l:Nat) (o o':Obj),w.heap.size≤l→W.heap[l]? = some o→o.isCells=false→o.isWalk=false→Kp W (W.putObj l o')
 hI:P1 P N ir Kp len dF p1 p2 d ρ w.heap.size I w
structure ZX (P:Program) (N:Nat) (ir:IR) (x p d:Nat) (ρ:Env) (w:World) (n len gf:Nat) (lb:Array Value) (Kp:World→World→Prop) (I:List ByteArray→World→Prop):Prop where
 U:ρ.get x=some (.func (.func gf) #[] lb)
 eg:∀ args w,(callFunc gf args).run P w = .ok (.enter gf args) w
 oS:SeqStopsK Fence.wide (n - 1) P gf lb (fun y:ByteArray=>#[.string y]) Kp (fun _=>True) (fun _=>True) len w
 fresh:ρ.get p=none
 hn:1≤n
 qP:∀ {A B C:World},Kp A B→Kp B C→Kp A C
 qQ:∀ (W:World) (l:Nat) (o o':Obj),w.heap.size≤l→W.heap[l]? = some o→o.isCells=false→o.isWalk=false→Kp W (W.putObj l o')
 hI:P2 P N ir Kp len d ρ w.heap.size I w
def jT (P:Program) (N:Nat):K→nY→List Nat→Env→World→Prop
 | .ir x,Q,Ds,ρ,w=>cD P N x (fun e ρ w=>Q e Ds ρ w) ρ w
 | .seq a b,Q,Ds,ρ,w=>jT P N a (zx (fun Ds ρ w=>jT P N b Q Ds ρ w) Q) Ds ρ w
 | .cond c a b,Q,Ds,ρ,w=>∃ t,c.ev ρ=some (.bool t)∧(t=true→jT P N a Q Ds ρ w)∧(t=false→jT P N b Q Ds ρ w)
 | .iC id a,Q,Ds,ρ,w=>jT P N a (zy id Q) Ds ρ w
 | .Er x p1 p2 d bd,Q,Ds,ρ,w=>∃ n len gf lb dF Kp I,ZW P N bd x p1 p2 d ρ w n len gf lb dF Kp I ∧
     ∀ (D:Nat) (W:World),w.heap.size≤D→I (eH len len) W→W.heap[D]? = some (.deferred (some []))→Q .normal (D::Ds) ρ W
 | .P3 x p d bd,Q,Ds,ρ,w=>∃ n len gf lb Kp I,ZX P N bd x p d ρ w n len gf lb Kp I ∧
     ∀ (D:Nat) (xs:List ByteArray) (W:World),w.heap.size≤D→I xs W→W.heap[D]? = some (.deferred (some []))→Q .normal (D::Ds) ρ W
def Ix:Code→Option (Nat×Nat)
 | .region _ ops false=>match ops.toList with
  | [⟨some d,.assign (.tmp p),_,_,after,none⟩]=>if after.isEmpty then some (d,p) else none
  | _=>none
 | _=>none
theorem P5 {c:Code} {d p:Nat} (h:Ix c=some (d,p)):∃ id ty pos,c = .region id #[{ dst:=some d,op:=.assign (.tmp p),type:=ty,pos:=pos,after:=#[],guard:=none}] false:=by
 unfold Ix at h
 split at h
 ·rename_i id ops
  split at h
  ·rename_i d' p' ty pos after cq
   split at h
   ·rename_i ha;simp only [Option.some.injEq,Prod.mk.injEq] at h;obtain ⟨rfl,rfl⟩:=h;have ha':after = #[]:=by simpa using ha
    subst ha';refine ⟨id,ty,pos,?_⟩;have:ops = #[{ dst:=some d',op:=.assign (.tmp p'),type:=ty,pos:=pos,after:=#[],guard:=none}]:=by
     apply Array.ext';rw [cq]
    rw [this]
   ·cases h
  ·cases h
 ·cases h
def mkSeq:K→K→K
 | .ir x,.ir y=>.ir (.seq x y)
 | a,b=>.seq a b
def Iy (c:O):K→K→K
 | .ir x,.ir y=>.ir (.cond c x y)
 | a,b=>.cond c a b
def Iz (id:Nat):K→K
 | .ir x=>.ir (.block id x)
 | a=>.iC id a
def qR (P:Program) (N:Nat) (H:List (Nat×List Nat×List Nat)):Code→Option K
 | .seq a b=>(qR P N H a).bind fun x=>(qR P N H b).map fun y=>mkSeq x y
 | .cond c a b=>(qR P N H a).bind fun x=>(qR P N H b).map fun y=>Iy (bf c) x y
 | .block id a=>(qR P N H a).map (Iz id)
 | .rangeFunc f ps sa bd=>match f,ps.toList,Ix sa,eF P N H bd with
  | .tmp x,[p1,p2],some (d,p),some ir=>if p=p2&&p1 != p2&&decide (p1 < N)&&decide (p2 < N)&&decide (d < N)&&calm bd&&ki ir then some (.Er x p1 p2 d ir) else none
  | .tmp x,[p1],some (d,p),some ir=>if p=p1&&decide (p < N)&&decide (d < N)&&calm bd&&ki ir then some (.P3 x p d ir) else none
  | _,_,_,_=>none
 | c=>(eF P N H c).map .ir
section
variable {P:Program} {N:Nat}
theorem ZY {a b:K} {Q:nY} {Ds:List Nat} {ρ:Env} {w:World} (h:jT P N (mkSeq a b) Q Ds ρ w):jT P N (.seq a b) Q Ds ρ w:=by
 unfold mkSeq at h
 split at h
 ·refine xv _ _ _ (fun e ρ w h=>?_) ρ w (show cD P N _ _ ρ w from h);cases e<;>exact h
 ·exact h
theorem ZZ {c:O} {a b:K} {Q:nY} {Ds:List Nat} {ρ:Env} {w:World} (h:jT P N (Iy c a b) Q Ds ρ w):jT P N (.cond c a b) Q Ds ρ w:=by
 unfold Iy at h
 split at h
 ·exact h
 ·exact h
theorem Z0 {id:Nat} {a:K} {Q:nY} {Ds:List Nat} {ρ:Env} {w:World} (h:jT P N (Iz id a) Q Ds ρ w):jT P N (.iC id a) Q Ds ρ w:=by
 unfold Iz at h
 split at h
 ·refine xv _ _ _ (fun e ρ w h=>?_) ρ w (show cD P N _ _ ρ w from h);cases e<;>exact h
 ·exact h
theorem Z1 {H:List (Nat×List Nat×List Nat)}:∀ (c:Code) (k:K) (Q:nY) (Ds:List Nat) (ρ:Env) (a:Act) (w:World),qR P N H c=some k→jT P N k Q Ds ρ w→Good (Ds.map zz) N ρ a→c.wp P (P4 N Q) a w:=by
 have plain:∀ (c:Code) (k:K) (Q:nY) (Ds:List Nat) (ρ:Env) (a:Act) (w:World),(eF P N H c).map K.ir=some k→jT P N k Q Ds ρ w→Good (Ds.map zz) N ρ a→c.wp P (P4 N Q) a w:=by
  intro c k Q Ds ρ a w h hw hg;obtain ⟨ir,Z2,rfl⟩:=Option.map_eq_some_iff.1 h;refine wp_mono (Ef c ir _ ρ a w Z2 hw hg) ?_;rintro e a' w' ⟨bz,cM,hq⟩;exact ⟨bz,Ds,cM,hq⟩
 intro c
 induction c with
 | seq x y qL qM=>
  intro k Q Ds ρ a w h hw hg;simp only [qR] at h;obtain ⟨a1,h1,h⟩:=Option.bind_eq_some_iff.1 h;obtain ⟨b1,h2,h⟩:=Option.map_eq_some_iff.1 h;subst h;have hw:=ZY hw;refine wp_seq (wp_mono (qL a1 _ Ds ρ a w h1 hw hg) ?_);rintro e a' w' ⟨bz,zA,cM,hq⟩;cases e with
  | normal=>exact qM b1 Q zA bz a' w' h2 hq cM
  | _=>exact ⟨bz,zA,cM,hq⟩
 | cond c x y qL qM=>
  intro k Q Ds ρ a w h hw hg;simp only [qR] at h;obtain ⟨a1,h1,h⟩:=Option.bind_eq_some_iff.1 h;obtain ⟨b1,h2,h⟩:=Option.map_eq_some_iff.1 h;subst h;obtain ⟨t,hc,ht,hf⟩:=ZZ hw;have he:=hg.agree c _ hc;exact wp_cond_split he (fun e=>qL a1 Q Ds ρ a w h1 (ht e) hg) (fun e=>qM b1 Q Ds ρ a w h2 (hf e) hg)
 | block id x ih=>
  intro k Q Ds ρ a w h hw hg;simp only [qR] at h;obtain ⟨a1,h1,h⟩:=Option.map_eq_some_iff.1 h;subst h;have hw:=Z0 hw;refine wp_block (wp_mono (ih a1 _ Ds ρ a w h1 hw hg) ?_);rintro e a' w' ⟨bz,zA,cM,hq⟩;cases e with
  | exit mQ=>
   simp only [Exit.inBlock,zy] at hq ⊢
   split
   ·rename_i hh;rw [if_pos hh] at hq;exact ⟨bz,zA,cM,hq⟩
   ·rename_i hh;rw [if_neg hh] at hq;exact ⟨bz,zA,cM,hq⟩
  | _=>exact ⟨bz,zA,cM,hq⟩
 | rangeFunc f ps sa bd _ _=>
  intro k Q Ds ρ a w h hw hg;simp only [qR] at h
  split at h
  ·rename_i f0 Z3 Z4 Z5 x p1 p2 d p ir jg has oR
   split at h
   ·rename_i hc;simp only [Bool.and_eq_true,decide_eq_true_eq,bne_iff_ne,ne_eq] at hc;obtain ⟨⟨⟨⟨⟨⟨rfl,h1⟩,h2⟩,h3⟩,h4⟩,h5⟩,h6⟩:=hc;simp only [Option.some.injEq] at h;subst h;obtain ⟨id,ty,pos,rfl⟩:=P5 has;have IA:ps = #[p1,p]:=by apply Array.ext';rw [jg]
    subst IA;obtain ⟨n,len,gf,lb,dF,Kp,I,hr,hd⟩:=hw;refine ZT oR h5 h6 hg hr.U hr.eg hr.oS ⟨h1,h2,h3,h4⟩ hr.fresh hr.hn hr.qP hr.qQ I hr.hI ?_;intro D W hD hI hh a' ha';exact ⟨ρ,D::Ds,ha',hd D W hD hI hh⟩
   ·cases h
  ·rename_i f0 Z3 Z4 Z5 x p1 d p ir jg has oR
   split at h
   ·rename_i hc;simp only [Bool.and_eq_true,decide_eq_true_eq,bne_iff_ne,ne_eq] at hc;obtain ⟨⟨⟨⟨rfl,h3⟩,h4⟩,h5⟩,h6⟩:=hc;simp only [Option.some.injEq] at h;subst h;obtain ⟨id,ty,pos,rfl⟩:=P5 has;have IA:ps = #[p]:=by apply Array.ext';rw [jg]
    subst IA;obtain ⟨n,len,gf,lb,Kp,I,hr,hd⟩:=hw;refine ZV oR h5 h6 hg hr.U hr.eg hr.oS ⟨h3,h4⟩ hr.fresh hr.hn hr.qP hr.qQ I hr.hI ?_;intro D xs W hD hI hh a' ha';exact ⟨ρ,D::Ds,ha',hd D xs W hD hI hh⟩
   ·cases h
  ·cases h
 | _=>
  intro k Q Ds ρ a w h hw hg;exact plain _ k Q Ds ρ a w h hw hg
def IB (rs:List RV) (R:Value→World→Prop):nY:=fun e Ds ρ w=>
 (e = .normal∨e = .ret)∧(∀ D∈Ds,w.heap[D]? = some (.deferred (some [])))∧Ds.Nodup ∧
  ∀ w':World,Mod (fun b=>b∈Ds) w w'→w'.heap.size=w.heap.size→∃ vs,kP w' ρ rs=some vs∧R (nW vs) w'
structure Es (P:Program) (f:Nat) (lx:Nat) (H:List (Nat×List Nat×List Nat)) (k:K) (rs:List RV) (N:Nat):Prop where
 go:∃ fn c,P.funcs[f]? = some fn∧fn.body=some c∧fn.ntmps=N∧lx≤N∧qR P N H c=some k∧rZ P fn.results.toList=some rs
theorem Z6 {S:Nat→Prop} {w:World} {r:Nat} {o:Obj} (h:S r):Mod S w (w.putObj r o):=
 ⟨by simp,fun b _ hb=>World.putObj_heap_other (fun e=>hb (e ▸ h)),rfl,rfl,rfl⟩
theorem IC {fn:Func} {tmps:Array Value} {R:Ending→World→Prop}:∀ (Ds:List Nat) (w:World),(∀ D∈Ds,w.heap[D]? = some (.deferred (some [])))→Ds.Nodup →
   (∀ w':World,Mod (fun b=>b∈Ds) w w'→w'.heap.size=w.heap.size→∃ v,(results fn tmps).run P w' = .ok v w'∧R (.returned v) w') →
   LeavesInM Fence.wide 0 P fn tmps R (Ds.map zz) .returning w
 | [],w,_,_,h=>h w (.refl _ _) rfl
 | D::Ds,w,hD,hn,h=>by
  refine ⟨(fun h=>by cases h),.inl ⟨D,w.putObj D (.deferred none),rfl,run_takeDeferred (hD D (by simp)),?_⟩⟩;obtain ⟨h1,h2⟩:=List.nodup_cons.1 hn;refine IC Ds _ (fun D' zB=>?_) h2 (fun w' hm hs=>h w' ?_ (by rw [hs,World.putObj_size]))
  ·rw [World.putObj_heap_other (fun e:D'=D=>h1 (e ▸ zB))];exact hD D' (by simp [zB])
  ·exact (Z6 (S:=fun b=>b∈D::Ds) (by simp)).step hm (fun i hi _=>by simp [hi])
theorem Es.calls {f:Nat} {lx:Nat} {H:List (Nat×List Nat×List Nat)} {k:K} {rs:List RV} (h:Es P f lx H k rs N) {args:List Value} (hn:args.length=lx) {w:World} {R:Value→World→Prop}
   (hw:jT P N k (IB rs R) [] (qN 0 args) w):aD P f args w R:=by
 obtain ⟨fn,c,hf,hb,hN,hle,hd,vd⟩:=h.go;unfold aD;refine callsIn_wide.1 (callsIn_of_wp_marks (n:=0) hf hb trivial ?_);have hg:Good ([].map zz) N (qN 0 args) { tmps:=args.toArray++Array.replicate (fn.ntmps - args.toArray.size) undef,defers:=[]}:=by
  refine ⟨?_,rfl,?_⟩
  ·simp only [Array.size_append,List.size_toArray,Array.size_replicate];omega
  ·intro t v ht;obtain ⟨_,h2⟩:=Im args 0 t v ht;have ah:t < args.length:=by
    rcases Nat.lt_or_ge t args.length with h | h
    ·exact h
    ·simp [List.getElem?_eq_none h] at h2
   simp only [Nat.sub_zero] at h2;rw [Array.getElem?_append_left (by simpa using ah)]
   simpa using h2
 refine wpIn_mono ((wpIn_wide (n:=0)).2 (Z1 c k _ [] _ _ _ hd hw hg)) ?_;rintro e a' w' ⟨bz,Ds,cM,he,hD,b9,hq⟩;have fin:LeavesInM Fence.wide 0 P fn a'.tmps (fun e w'=>∃ v,e = .returned v∧R v w') a'.defers .returning w':=by
  rw [cM.defers];refine IC Ds w' hD b9 ?_;intro w2 hm hs;obtain ⟨vs,h1,h2⟩:=hq w2 hm hs;refine ⟨nW vs,kI ?_,_,rfl,h2⟩;unfold results;rw [cY,Array.mapM_eq_mapM_toList,DR];have:=Ii (P:=P) cM fn.results.toList rs vs vd h1;refine Eq.trans (congrArg (fun o:Option (List Value)=>(o.map List.toArray).bind fun vs=>ro P w2 (pure (if h:vs.size=1 then vs[0] else .tuple vs):Sem Value)) this) ?_;simp only [Option.map_some,Option.bind_some,fZ,List.size_toArray,Option.some.injEq]
  match vs with
  | []=>rfl
  | [v]=>rfl
  | v::u::l=>simp [nW]
 rcases he with rfl | rfl
 ·exact fin
 ·exact fin
end
def xy:IR→List (List Nat)
 | .seq a b=>xy a++xy b
 | .cond _ a b=>xy a++xy b
 | .block _ a=>xy a
 | .loop a=>xy a
 | .oO _ _ kp=>[kp]
 | .dr _ kp=>[kp]
 | _=>[]
def xz:Code→List (Nat×List Nat)
 | .region id ops draw=>[(id,if draw then (Region.before ops).toList else [])]
 | .seq a b=>xz a++xz b
 | .cond _ a b=>xz a++xz b
 | .block _ a=>xz a
 | .loop a=>xz a
 | _=>[]
def bb (fn:Func) (a:IR):List (Nat×List Nat×List Nat):=match fn.body with
 | some c=>List.zipWith (fun (x:Nat×List Nat) k=>(x.1,k,x.2)) (xz c) (xy a)
 | none=>[]
namespace Z
def m (d:Nat) (x:Nat):S:=.r (some d) (.mv (.t x))
def m' (s:Nat) (c:Bool) (d:Nat) (x:Nat):S:=.gr s c (some d) (.mv (.t x))
def n (d:Nat) (x:Nat):S:=.r (some d) (.nn (.t x))
def n' (s:Nat) (c:Bool) (d:Nat) (x:Nat):S:=.gr s c (some d) (.nn (.t x))
def f (d:Nat) (o:Nat) (x:Nat):S:=.r (some d) (.fa o (.t x))
def f' (s:Nat) (c:Bool) (d:Nat) (o:Nat) (x:Nat):S:=.gr s c (some d) (.fa o (.t x))
def l (d:Nat) (x:Nat):S:=.r (some d) (.l1 (.t x))
def l' (s:Nat) (c:Bool) (d:Nat) (x:Nat):S:=.gr s c (some d) (.l1 (.t x))
def ln (d:Nat) (o:Nat) (x:Nat):S:=.r (some d) (.ln o (.t x))
def xA (s:Nat) (c:Bool) (d:Nat) (o:Nat) (x:Nat):S:=.gr s c (some d) (.ln o (.t x))
def ex (d:Nat) (o:Nat) (x:Nat):S:=.r (some d) (.ex o (.t x))
def Z7 (s:Nat) (c:Bool) (d:Nat) (o:Nat) (x:Nat):S:=.gr s c (some d) (.ex o (.t x))
def le (d:Nat) (x:Nat):S:=.r (some d) (.len (.t x))
def jF (s:Nat) (c:Bool) (d:Nat) (x:Nat):S:=.gr s c (some d) (.len (.t x))
def ia (d:Nat) (o:Nat) (x:Nat) (y:Nat):S:=.r (some d) (.ia o (.t x) (.t y))
def mU (s:Nat) (c:Bool) (d:Nat) (o:Nat) (x:Nat) (y:Nat):S:=.gr s c (some d) (.ia o (.t x) (.t y))
def no (d:Nat) (x:Nat):S:=.r (some d) (.no (.t x))
def zC (s:Nat) (c:Bool) (d:Nat) (x:Nat):S:=.gr s c (some d) (.no (.t x))
def bi (d:Nat) (b:BinOp) (x:Nat) (y:Nat):S:=.r (some d) (.bi b (.t x) (.t y))
def eW (s:Nat) (c:Bool) (d:Nat) (b:BinOp) (x:Nat) (y:Nat):S:=.gr s c (some d) (.bi b (.t x) (.t y))
def bk (d:Nat) (b:BinOp) (x:Nat) (k:Int):S:=.r (some d) (.bi b (.t x) (.c (.int .i64 k)))
def bX (s:Nat) (c:Bool) (d:Nat) (b:BinOp) (x:Nat) (k:Int):S:=.gr s c (some d) (.bi b (.t x) (.c (.int .i64 k)))
def mk (d:Nat) (k:Int):S:=.r (some d) (.mv (.c (.int .i64 k)))
def mk' (s:Nat) (c:Bool) (d:Nat) (k:Int):S:=.gr s c (some d) (.mv (.c (.int .i64 k)))
def c (d f:Nat) (l:List Nat):S:=.e (some d) (.call f (l.map .t))
def u (d x y:Nat):S:=.r (some d) (.pk (.t x) (.c (.bool true)) (.t y))
def a (d x y:Nat):S:=.r (some d) (.pk (.t x) (.t y) (.c (.bool false)))
def s (n x y:Nat):S:=.e none (.st n (.t x) (.t y))
def k (n:Int):O:=.c (.int .i64 n)
def i (n:Int):Value:=.int .i64 n
def q (st:List S) (kp:List Nat):IR:=.oO false st kp
def q' (st:List S) (kp:List Nat):IR:=.oO true st kp
def z (st:List S) (kp:List Nat) (x:IR):IR:=.seq (.oO false st kp) x
def j (n:Nat) (x y:IR):IR:=.cond (.t n) x y
def r (i d:Nat) (x:R) (t:D):D:=.r i none (some d) x t
end Z
theorem Fits.m {P:Program} {f lx:Nat} {H:List (Nat×List Nat×List Nat)} {ir:IR} {rs:List RV} {N:Nat} (fn:Func) (c:Code) (h1:P.funcs[f]? = some fn:=by rfl) (h2:fn.body=some c:=by rfl) (h3:fn.ntmps=N:=by rfl) (h4:lx≤N:=by decide)
   (h5:eF P N H c=some ir:=by kernel_rfl) (h6:rZ P fn.results.toList=some rs:=by kernel_rfl):Fits P f lx H ir rs N:=⟨fn,c,h1,h2,h3,h4,h5,h6⟩
attribute [go_sem] Z.m Z.m' Z.n Z.n' Z.f Z.f' Z.l Z.l' Z.ln Z.xA Z.ex Z.Z7 Z.le Z.jF Z.ia Z.mU Z.no Z.zC Z.bi Z.eW Z.bk Z.bX Z.mk Z.mk' Z.c Z.u Z.a Z.s Z.k Z.i Z.q Z.q' Z.z Z.j Z.r List.map_cons List.map_nil
end Go.W
end
section
open Go Go.W
theorem σ {a b:Prop} (q:b) (h:a=b:=by (try simp only [go_sem,simprocAttr]);rfl):a:=h▸q
theorem φ {a b:Prop} (q:b) (h:a=b:=by (try simp only [go_sem,Nat.reduceAdd,Nat.reduceEqDiff,Nat.reduceLT,Nat.reduceLeDiff,Nat.reduceMul,reduceCtorEq,↓reduceIte]);rfl):a:=h▸q
theorem δ {P:Program} {w:World} {U:Go.W.Env} {K R:Value→World→Prop} {f:Nat} {args:List O} {vs:List Value} (ha:eP U args=some vs) (h:aD P f vs w R) (hr:∀ v w',R v w'→K v w'):Go.W.E.wp P w U K (.call f args):=ao ha (h.mono hr)
end
