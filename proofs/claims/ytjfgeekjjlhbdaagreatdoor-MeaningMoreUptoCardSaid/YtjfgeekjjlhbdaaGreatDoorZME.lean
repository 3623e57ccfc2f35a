/- Texts that the last file stands on: Q1, M1, M2, M3, M4, M5, M6, M7, M8, M9, M10, M11, M12, M13, Q2, Q3, Q4, Q5, Q6, Q7, Q8, M14, M15. -/
import Derived.Test.YtjfgeekjjlhbdaaGreatDoorZMD
import Derived.LaidEql
set_option linter.unusedSimpArgs false
set_option linter.unusedVariables false
set_option maxRecDepth 100000
namespace Go.Proofs.YtjfgeekjjlhbdaaGreatDoor
section
open Go Go.W
abbrev Nms:=List (ByteArray×Nat)
inductive Cl where
 | num (n:Int) | con (n:ByteArray) (fs:List Nat) | lam (e:Ex) (v:Nms) | par (n:ByteArray) (lacks:Int) (hv:List Nat)
 | wait (e:Ex) (v:Nms) | busy | emp
def Cl.isV:Cl→Bool
 | .num _=>true | .con _ _=>true | .lam _ _=>true | .par _ _ _=>true | _=>false
inductive Fm where
 | upd (c:Nat) | app (e:Ex) (v:Nms) | cas (e:Ex) (v:Nms) | fst (e:Ex) (v:Nms) | snd (e:Ex) (n:Int) | seq (e:Ex) (v:Nms) | hard (e:Ex) (v:Nms)
structure Rn where
 cells:List Cl
 frames:List Fm
 told:List (ByteArray×Int)
 steps:Int
 kind:Int
 stuck:Int
structure Cx where
 fuel:Int
 defs:List (ByteArray×Nat)
 fields:List (ByteArray×Int)
 keep:List (Nat×Obj):=[]
inductive Md where
 | go (e:Ex) (v:Nms) | val (c:Cl)
abbrev R3:=Option Md×Rn
def Rn.put (m:Rn) (c:Nat) (x:Cl):Rn:={ m with cells:=m.cells.set c x}
def Rn.new (m:Rn) (x:Cl):Rn:={ m with cells:=m.cells++[x]}
def Rn.push (m:Rn) (f:Fm):Rn:={ m with frames:=m.frames++[f]}
def Rn.stop (m:Rn) (how:Int):Rn:={ m with kind:=3,stuck:=how}
def stepS (X:Cx) (m:Rn):Bool×Rn:=if m.steps=X.fuel then (false,{ m with kind:=4}) else (true,{ m with steps:=m.steps+1})
def findS (v:Nms) (n:ByteArray):Option Nat:=aget v n
def enterCl (m:Rn) (c:Nat):R3:=match m.cells[c]? with
 | some (.wait e v)=>(some (.go e v),(m.put c .busy).push (.upd c))
 | some (.num n)=>(some (.val (.num n)),m)
 | some (.con n fs)=>(some (.val (.con n fs)),m)
 | some (.lam e v)=>(some (.val (.lam e v)),m)
 | some (.par n l h)=>(some (.val (.par n l h)),m)
 | _=>(none,m.stop 4)
def growS (n:ByteArray) (lacks:Int) (hv:List Nat):Cl:=if lacks=0 then .con n hv else .par n lacks hv
def letN:List Bd→Nat→Nms→Nms
 | [],_,v=>v
 | b::l,i,v=>letN l (i+1) ((b.name,i)::v)
def beginS (X:Cx) (e:Ex) (v:Nms) (m:Rn):Option R3:=
 if e.kind=1 then (findS v e.name).map (enterCl m)
 else if e.kind=3 then (aget X.defs e.name).map (enterCl m)
 else if e.kind=2 then some (some (.val (.num e.num)),m)
 else if e.kind=4 then some (some (.val (growS e.name ((aget X.fields e.name).getD 0) [])),m)
 else if e.kind=6 then some (some (.val (.lam e v)),m)
 else if e.kind=12 then some (none,m.stop e.num)
 else if e.kind=7 then (match e.args with
   | []=>none
   | x::_=>some (some (.go x (letN e.binds m.cells.length v)),{ m with cells:=m.cells++e.binds.map (fun b=>Cl.wait b.value (letN e.binds m.cells.length v))}))
 else if e.kind=11 then (match e.binds with
   | []=>none
   | b::_=>some (some (.go b.value v),m.push (.hard e v)))
 else match e.args with
   | []=>none
   | x::_=>some (some (.go x v),if e.kind=5 then m.push (.app e v) else if e.kind=8 then m.push (.cas e v) else if e.kind=9 then m.push (.fst e v) else if e.kind=10 then m.push (.seq e v) else m)
def numOf:Cl→Int
 | .num n=>n
 | _=>0
def conOf:Cl→Option (ByteArray×List Nat)
 | .con n fs=>some (n,fs)
 | _=>none
def W63 (n:Int):Int:=(IntKind.i64.wrap (n*2)).fdiv 2
abbrev trueN:ByteArray:=⟨#[84,114,117,101]⟩
abbrev falseN:ByteArray:=⟨#[70,97,108,115,101]⟩
def truthS (n:ByteArray) (a b:Int):Bool:=
 if strEq n ⟨#[61,61]⟩ then a == b
 else if strEq n ⟨#[47,61]⟩ then a != b
 else if strEq n ⟨#[60]⟩ then decide (a < b)
 else if strEq n ⟨#[60,61]⟩ then decide (a≤b)
 else if strEq n ⟨#[62]⟩ then decide (a > b)
 else if strEq n ⟨#[62,61]⟩ then decide (a≥b)
 else false
def oprS (n:ByteArray) (a b:Int):Option Cl:=
 if strEq n ⟨#[43]⟩ then some (.num (W63 (Wr (a+b))))
 else if strEq n ⟨#[45]⟩ then some (.num (W63 (Wr (a - b))))
 else if strEq n ⟨#[42]⟩ then some (.num (W63 (Wr (a*b))))
 else if strEq n ⟨#[47]⟩||strEq n ⟨#[37]⟩ then (if b=0 then none else if strEq n ⟨#[47]⟩ then some (.num (W63 (Wr (a.tdiv b)))) else some (.num (a.tmod b)))
 else some (.con (if truthS n a b then trueN else falseN) [])
def givenR (m:Rn) (f:Cl) (c:Nat):Option R3:=match f with
 | .lam e v=>(match e.args,e.binds with
   | x::_,b::_=>some (some (.go x ((b.name,c)::v)),m)
   | _,_=>none)
 | .par n l h=>if h.length < 1099511627776 then some (some (.val (growS n (Wr (l - 1)) (h++[c]))),m) else none
 | _=>some (none,m.stop 5)
def bindF:List ByteArray→List Nat→Nms→Option Nms
 | [],_,v=>some v
 | s::l,c::cs,v=>bindF l cs ((s,c)::v)
 | _::_,[],_=>none
def chooseS (m:Rn) (v:Nms) (x:Cl):List Al→Option R3
 | []=>some (none,m.stop 2)
 | a::l=>
   if (a.kind == 3||(a.kind == 2&&(conOf x).isNone&&a.num == numOf x))=true then some (some (.go a.body v),m)
   else match conOf x with
     | some k=>if (a.kind == 1&&strEq a.con k.1)=true then (bindF a.vars k.2 v).map (fun v'=>(some (.go a.body v'),m)) else chooseS m v x l
     | none=>chooseS m v x l
def endS (f:Fm) (x:Cl) (m:Rn):Option R3:=match f with
 | .upd c=>some (some (.val x),m.put c x)
 | .app e v=>(match e.args with
   | _::y::_=>givenR (m.new (.wait y v)) x m.cells.length
   | _=>none)
 | .cas e v=>chooseS m v x e.alts
 | .fst e v=>(match e.args with
   | _::y::_=>some (some (.go y v),m.push (.snd e (numOf x)))
   | _=>none)
 | .snd e n=>(match oprS e.name n (numOf x) with
   | some y=>some (some (.val y),m)
   | none=>some (none,m.stop 3))
 | .seq e v=>(match e.args with
   | _::y::_=>some (some (.go y v),m)
   | _=>none)
 | .hard e v=>(match e.args,e.binds with
   | y::_,b::_=>some (some (.go y ((b.name,m.cells.length)::v)),m.new x)
   | _,_=>none)
def goOnS (X:Cx):Nat→Md→Rn→Option (Option Cl×Rn)
 | 0,_,_=>none
 | n+1,.go e v,m=>
   if (stepS X m).1=false then some (none,(stepS X m).2)
   else match beginS X e v (stepS X m).2 with
     | none=>none
     | some (none,m')=>some (none,m')
     | some (some md,m')=>goOnS X n md m'
 | n+1,.val x,m=>match m.frames.getLast? with
   | none=>some (some x,m)
   | some f=>match endS f x { m with frames:=m.frames.dropLast} with
     | none=>none
     | some (none,m')=>some (none,m')
     | some (some md,m')=>goOnS X n md m'
def forceS (X:Cx) (n:Nat) (c:Nat) (m:Rn):Option (Option Cl×Rn):=match enterCl m c with
 | (none,m')=>some (none,m')
 | (some (.val x),m')=>some (some x,m')
 | (some (.go e v),m')=>goOnS X n (.go e v) m'
def applyS (X:Cx) (n:Nat) (f:Cl) (c:Nat) (m:Rn):Option (Option Cl×Rn):=match givenR m f c with
 | none=>none
 | some (none,m')=>some (none,m')
 | some (some (.val x),m')=>some (some x,m')
 | some (some (.go e v),m')=>goOnS X n (.go e v) m'
def itemS:Cl→List (ByteArray×Int)
 | .num k=>[(noStr,k)]
 | .con k _=>[(k,0)]
 | _=>[]
def fieldsOf:Cl→List Nat
 | .con _ fs=>fs
 | _=>[]
def tellS (X:Cx):Nat→Cl→List Nat→Rn→Option Rn
 | 0,_,_,_=>none
 | n+1,x,waiting,m=>
   if (stepS X m).1=false then some (stepS X m).2
   else
     let m2:Rn:={ (stepS X m).2 with told:=(stepS X m).2.told++itemS x}
     let ws:=waiting++(fieldsOf x).reverse
     if 16777216 < ws.length then none else
     match ws.getLast? with
     | none=>some { m2 with kind:=2}
     | some c=>match forceS X n c m2 with
       | none=>none
       | some (none,m3)=>some m3
       | some (some y,m3)=>tellS X n y ws.dropLast m3
def listedS:List Int→List Cl→Cl×List Cl
 | [],cs=>(.con ⟨#[78,105,108]⟩ [],cs)
 | n::l,cs=>let r:=listedS l cs;(.con ⟨#[67,111,110,115]⟩ [r.2.length,r.2.length+1],r.2++[.num n,r.1])
end
section
open Go Go.W
def EPtr (w:World) (B:Nat→Prop) (v:Value) (e:Ex):Prop:=∃ a cs,v = .pointer (some a)∧CellsAt w B a cs∧ExAt w B cs e
def Pl (w:World) (b:Nat):Prop:=∃ cs T,w.heap[b]? = some (.cells cs T (0,0))
def NdAt (w:World) (B:Nat→Prop) (a:Addr) (cs:List Value):Prop:=CellsAt w B a cs∧Pl w a.block
section
variable {w w':World} {B B' S:Nat→Prop} {a:Addr} {cs:List Value}
theorem NdAt.up (h:NdAt w B a cs) (hm:Mod S w w') (hd:∀ b,B b→¬ S b) (hB:∀ b,B b→B' b):NdAt w' B' a cs:=by
 refine ⟨h.1.up hm hd hB,?_⟩
 obtain ⟨h1,ds,T,h2⟩:=h
 exact ⟨ds,T,hm.at h2 (hd _ h1.1)⟩
theorem NdAt.c0 (h:NdAt w B a cs) (hk:0 < cs.length):w.cell? a=some cs[0]:=h.1.c0 hk
theorem NdAt.at (h:NdAt w B a cs) {k:Nat} (hk:k < cs.length) (h0:k≠0:=by decide):w.cell? ⟨a.block,a.off+k,none⟩=some cs[k]:=h.1.at hk h0
end
def NmAt (w:World) (B:Nat→Prop) (bs:List Nat):Nms→Value→Prop
 | [],v=>v = .pointer none
 | (n,c)::l,v=>∃ a b nx,v = .pointer (some a)∧bs[c]? = some b∧NdAt w B a [.string n,ptr b,nx]∧NmAt w B bs l nx
def RowC (bs:List Nat) (r:List Value) (c:Nat):Prop:=∃ b,r=[ptr b]∧bs[c]? = some b
def FsAt (w:World) (B:Nat→Prop) (bs:List Nat) (fs:List Nat) (v:Value):Prop:=EachAt w v 1 B (RowC bs) fs
def ClAt (w:World) (B:Nat→Prop) (bs:List Nat):Cl→Value→Prop
 | .num n,v=>v = .iface 115 (I n)
 | .con n fs,v=>∃ a vs,v = .iface 111 (.pointer (some a))∧CellsAt w B a [.string n,vs]∧FsAt w B bs fs vs
 | .lam e nm,v=>∃ a ve vn,v = .iface 138 (.pointer (some a))∧CellsAt w B a [ve,vn]∧EPtr w B ve e∧NmAt w B bs nm vn
 | .par n l fs,v=>∃ a vs,v = .iface 142 (.pointer (some a))∧CellsAt w B a [.string n,I l,vs]∧FsAt w B bs fs vs
 | .wait e nm,v=>∃ a ve vn,v = .iface 105 (.pointer (some a))∧CellsAt w B a [ve,vn]∧EPtr w B ve e∧NmAt w B bs nm vn
 | .busy,v=>v = .iface 167 (.agg #[])
 | .emp,v=>v = .nilIface
def EvAt (w:World) (B:Nat→Prop) (bs:List Nat) (k:Int) (e:Ex) (nm:Nms) (r:List Value):Prop:=∃ ve vn,r=[I k,.pointer none,ve,vn,I 0]∧EPtr w B ve e∧NmAt w B bs nm vn
def FmAt (w:World) (B:Nat→Prop) (bs:List Nat) (r:List Value):Fm→Prop
 | .upd c=>∃ b,r=[I 0,ptr b,.pointer none,.pointer none,I 0]∧bs[c]? = some b
 | .app e nm=>EvAt w B bs 1 e nm r
 | .cas e nm=>EvAt w B bs 2 e nm r
 | .fst e nm=>EvAt w B bs 3 e nm r
 | .snd e n=>∃ ve,r=[I 4,.pointer none,ve,.pointer none,I n]∧EPtr w B ve e
 | .seq e nm=>EvAt w B bs 5 e nm r
 | .hard e nm=>EvAt w B bs 6 e nm r
def ItAt' (r:List Value) (x:ByteArray×Int):Prop:=r=[.string x.1,I x.2]
section
variable {w w':World} {B B' S:Nat→Prop} {bs bs':List Nat}
theorem EPtr.up {v:Value} {e:Ex} (h:EPtr w B v e) (hm:Mod S w w') (hd:∀ b,B b→¬ S b) (hB:∀ b,B b→B' b):EPtr w' B' v e:=by
 obtain ⟨a,cs,e,h1,h2⟩:=h
 exact ⟨a,cs,e,h1.up hm hd hB,h2.up hm hd hB⟩
theorem NmAt.up:∀ {nm:Nms} {v:Value},NmAt w B bs nm v→Mod S w w'→(∀ b,B b→¬ S b)→(∀ b,B b→B' b)→(∀ (c b:Nat),bs[c]? = some b→bs'[c]? = some b)→NmAt w' B' bs' nm v
 | [],v,h,_,_,_,_=>h
 | (n,c)::l,v,h,hm,hd,hB,hb=>by
   obtain ⟨a,b,nx,e,h1,h2,h3⟩:=h
   exact ⟨a,b,nx,e,hb _ _ h1,h2.up hm hd hB,NmAt.up h3 hm hd hB hb⟩
theorem FsAt.up {fs:List Nat} {v:Value} (h:FsAt w B bs fs v) (hm:Mod S w w') (hd:∀ b,B b→¬ S b) (hB:∀ b,B b→B' b) (hb:∀ (c b:Nat),bs[c]? = some b→bs'[c]? = some b):FsAt w' B' bs' fs v:=
 EachAt.up h hm hd hB (fun r c h=>by obtain ⟨b,e,h⟩:=h;exact ⟨b,e,hb _ _ h⟩)
theorem ClAt.up {x:Cl} {v:Value} (h:ClAt w B bs x v) (hm:Mod S w w') (hd:∀ b,B b→¬ S b) (hB:∀ b,B b→B' b) (hb:∀ (c b:Nat),bs[c]? = some b→bs'[c]? = some b):ClAt w' B' bs' x v:=by
 cases x with
 | num n=>exact h
 | con n fs=>obtain ⟨a,vs,e,h1,h2⟩:=h;exact ⟨a,vs,e,h1.up hm hd hB,h2.up hm hd hB hb⟩
 | lam e nm=>obtain ⟨a,ve,vn,e,h1,h2,h3⟩:=h;exact ⟨a,ve,vn,e,h1.up hm hd hB,h2.up hm hd hB,h3.up hm hd hB hb⟩
 | par n l fs=>obtain ⟨a,vs,e,h1,h2⟩:=h;exact ⟨a,vs,e,h1.up hm hd hB,h2.up hm hd hB hb⟩
 | wait e nm=>obtain ⟨a,ve,vn,e,h1,h2,h3⟩:=h;exact ⟨a,ve,vn,e,h1.up hm hd hB,h2.up hm hd hB,h3.up hm hd hB hb⟩
 | busy=>exact h
 | emp=>exact h
theorem EvAt.up {k:Int} {e:Ex} {nm:Nms} {r:List Value} (h:EvAt w B bs k e nm r) (hm:Mod S w w') (hd:∀ b,B b→¬ S b) (hB:∀ b,B b→B' b) (hb:∀ (c b:Nat),bs[c]? = some b→bs'[c]? = some b):EvAt w' B' bs' k e nm r:=by
 obtain ⟨ve,vn,e,h1,h2⟩:=h
 exact ⟨ve,vn,e,h1.up hm hd hB,h2.up hm hd hB hb⟩
theorem FmAt.up {f:Fm} {r:List Value} (h:FmAt w B bs r f) (hm:Mod S w w') (hd:∀ b,B b→¬ S b) (hB:∀ b,B b→B' b) (hb:∀ (c b:Nat),bs[c]? = some b→bs'[c]? = some b):FmAt w' B' bs' r f:=by
 cases f with
 | upd c=>obtain ⟨b,e,h⟩:=h;exact ⟨b,e,hb _ _ h⟩
 | snd e n=>obtain ⟨ve,e,h⟩:=h;exact ⟨ve,e,h.up hm hd hB⟩
 | app e nm=>exact EvAt.up h hm hd hB hb
 | cas e nm=>exact EvAt.up h hm hd hB hb
 | fst e nm=>exact EvAt.up h hm hd hB hb
 | seq e nm=>exact EvAt.up h hm hd hB hb
 | hard e nm=>exact EvAt.up h hm hd hB hb
theorem FmAt.len {f:Fm} {r:List Value} (h:FmAt w B bs r f):r.length=5:=by
 cases f with
 | upd c=>obtain ⟨b,rfl,h⟩:=h;rfl
 | snd e n=>obtain ⟨ve,rfl,h⟩:=h;rfl
 | app e nm=>obtain ⟨ve,vn,rfl,_⟩:=h;rfl
 | cas e nm=>obtain ⟨ve,vn,rfl,_⟩:=h;rfl
 | fst e nm=>obtain ⟨ve,vn,rfl,_⟩:=h;rfl
 | seq e nm=>obtain ⟨ve,vn,rfl,_⟩:=h;rfl
 | hard e nm=>obtain ⟨ve,vn,rfl,_⟩:=h;rfl
end
theorem f_find:∀ (nm:Nms) {n:ByteArray} {c:Nat} {w:World} {B:Nat→Prop} {bs:List Nat} {v:Value},NmAt w B bs nm v→findS nm n=some c→CallsR Tryz.prog 72 [v,.string n] w fun r w'=>(∃ b,r=ptr b∧bs[c]? = some b)∧w=w':=by
 intro nm n c w B bs v h hf
 refine fit72.calls rfl ?_
 unfold ir72
 (try simp only [go_sem,simprocAttr])
 refine ir_loop (fun z ρ w'=>w=w'∧∃ nm' v',z=nm'.length∧NmAt w B bs nm' v'∧findS nm' n=some c∧ρ=[(0,v'),(1,.string n)]) nm.length ⟨rfl,nm,v,rfl,h,hf,rfl⟩ ?_
 rintro z _ _ ⟨rfl,nm',v',rfl,h',hf',rfl⟩
 unfold ir72L1
 match nm',h',hf' with
 | [],h',hf'=>cases hf'
 | (s,k)::l,h',hf'=>
   obtain ⟨a,b,nx,rfl,hb,hcs,hn⟩:=h'
   have k0:w.cell? a=some (.string s):=hcs.c0 (by simp)
   have k1:w.cell? ⟨a.block,a.off+1,none⟩=some (ptr b):=hcs.at (k:=1) (by simp)
   have k2:w.cell? ⟨a.block,a.off+2,none⟩=some nx:=hcs.at (k:=2) (by simp)
   have hf':aget ((s,k)::l) n=some c:=hf'
   rw [aget_cons] at hf'
   (try simp only [go_sem,simprocAttr,k0])
   cases hs:s.toList == n.toList with
   | true=>
     have e:s=n:=by
       have h1:strEq s n=true:=hs
       rw [strEq_iff] at h1
       simpa using h1
     rw [if_pos e] at hf'
     cases hf'
     (try simp only [go_sem,simprocAttr,k1,rvs,RV.ev,one?])
     exact ⟨b,rfl,hb⟩
   | false=>
     have e:s≠n:=fun e=>by rw [e] at hs;simp at hs
     rw [if_neg e] at hf'
     (try simp only [go_sem,simprocAttr,k2])
     exact ⟨_,by simp,l,nx,rfl,hn,hf',rfl⟩
end
section
open Go Go.W
abbrev tRun:Nat:=93
abbrev tCell:Nat:=87
abbrev tFrm:Nat:=136
abbrev rnCells (X:Cx) (m:Rn) (md mf:Nat) (vt vf:Value):List Value:=[I m.kind,vt,I m.stuck,I m.steps,I 0,I 0,I 0,.string noStr,I X.fuel,.map (some md),.map (some mf),vf]
def RCell (bs:List Nat) (v:Value) (c:Nat):Prop:=∃ b,v=ptr b∧bs[c]? = some b
abbrev rnList (r md mf:Nat) (bs:List Nat) (tfp ffp:Option Nat):List Nat:=r::md::mf::(tfp.toList++ffp.toList++bs)
structure RnIn (w:World) (S:Nat→Prop) (r md mf:Nat) (bs:List Nat) (X:Cx) (m:Rn) (vt vf:Value) (trows frows:List (List Value)) (tfp ffp:Option Nat):Prop where
 box:w.heap[r]? = some (.cells (rnCells X m md mf vt vf).toArray tRun (0,0))
 told:OwnS w 71 2 vt (trows.flatMap id) trows.length tfp
 items:All2 ItAt' trows m.told
 frms:OwnS w tFrm 5 vf (frows.flatMap id) frows.length ffp
 frames:All2 (FmAt w (Out S w) bs) frows m.frames
 blocks:(rnList r md mf bs tfp ffp).Nodup
 inS:∀ b∈rnList r md mf bs tfp ffp,S b
 lt:∀ b,S b→b < w.heap.size
 len:bs.length=m.cells.length
 cell:∀ (i b:Nat) (x:Cl),bs[i]? = some b→m.cells[i]? = some x→∃ v:Value,w.heap[b]? = some (Obj.cells [v].toArray tCell (0,0))∧ClAt w (Out S w) bs x v
 defs:MapR w md (RCell bs) X.defs
 fields:MapR w mf RI X.fields
 steps:0≤m.steps∧m.steps≤X.fuel∧X.fuel≤1048576
 kept:∀ p∈X.keep,w.heap[p.1]? = some p.2∧S p.1∧p.1∉rnList r md mf bs tfp ffp
def RnAt (w:World) (S:Nat→Prop) (r md mf:Nat) (bs:List Nat) (X:Cx) (m:Rn):Prop:=∃ vt vf trows frows tfp ffp,RnIn w S r md mf bs X m vt vf trows frows tfp ffp
theorem All2.imp {α β:Type} {P Q:α→β→Prop} (hpq:∀ a b,P a b→Q a b):∀ {l:List α} {m:List β},All2 P l m→All2 Q l m
 | [],[],_=>trivial
 | a::l,b::m,h=>⟨hpq _ _ h.1,All2.imp hpq h.2⟩
 | [],_::_,h=>h.elim
 | _::_,[],h=>h.elim
section
variable {w w':World} {S:Nat→Prop} {r md mf:Nat} {bs:List Nat} {X:Cx} {m m':Rn} {vt vf:Value} {trows frows:List (List Value)} {tfp ffp:Option Nat}
theorem RnIn.ne (h:RnIn w S r md mf bs X m vt vf trows frows tfp ffp):r≠md∧r≠mf∧md≠mf∧(∀ b,tfp=some b→r≠b∧md≠b∧mf≠b)∧(∀ b,ffp=some b→r≠b∧md≠b∧mf≠b)∧(∀ b∈bs,r≠b∧md≠b∧mf≠b)∧(∀ a b,tfp=some a→ffp=some b→a≠b)∧(∀ a,tfp=some a→a∉bs)∧(∀ a,ffp=some a→a∉bs):=by
 have hn:=h.blocks
 unfold rnList at hn
 simp only [List.nodup_cons,List.mem_cons,List.mem_append,Option.mem_toList,not_or] at hn
 obtain ⟨⟨a1,a2,⟨a3,a4⟩,a5⟩,⟨b1,⟨b2,b3⟩,b4⟩,⟨⟨c1,c2⟩,c3⟩,hn⟩:=hn
 rw [List.nodup_append,List.nodup_append] at hn
 obtain ⟨⟨_,_,d1⟩,_,d2⟩:=hn
 refine ⟨a1,a2,b1,fun b hb=>⟨fun e=>a3 (by rw [e];exact hb),fun e=>b2 (by rw [e];exact hb),fun e=>c1 (by rw [e];exact hb)⟩,fun b hb=>⟨fun e=>a4 (by rw [e];exact hb),fun e=>b3 (by rw [e];exact hb),fun e=>c2 (by rw [e];exact hb)⟩,
   fun b hb=>⟨fun e=>a5 (by rw [e];exact hb),fun e=>b4 (by rw [e];exact hb),fun e=>c3 (by rw [e];exact hb)⟩,fun a b ha hb=>d1 a (by simp [ha]) b (by simp [hb]),fun a ha hm=>d2 a (by simp [ha]) a hm rfl,fun a ha hm=>d2 a (by simp [ha]) a hm rfl⟩
theorem RnIn.upr (h:RnIn w S r md mf bs X m vt vf trows frows tfp ffp) (hm:Mod (· = r) w w') (hb:w'.heap[r]? = some (.cells (rnCells X m' md mf vt vf).toArray tRun (0,0))) (e1:m'.told=m.told) (e2:m'.frames=m.frames) (e3:m'.cells=m.cells) (e4:0≤m'.steps∧m'.steps≤X.fuel) :
   RnIn w' S r md mf bs X m' vt vf trows frows tfp ffp:=by
 obtain ⟨n1,n2,n3,n4,n5,n6,n7,n8,n9⟩:=h.ne
 have Sr:∀ b,b=r→S b:=fun b hb=>by rw [hb];exact h.inS _ (by simp)
 have hmS:=hm.weak Sr
 refine ⟨hb,h.told.mod hm (fun b hb e=>(n4 b hb).1 e.symm),by rw [e1];exact h.items,h.frms.mod hm (fun b hb e=>(n5 b hb).1 e.symm),by rw [e2];exact h.frames.imp (fun _ _ x=>x.up hmS out_not (out_up hmS) (fun _ _ h=>h)),h.blocks,h.inS,fun b hb=>Nat.lt_of_lt_of_le (h.lt b hb) hm.size,by rw [e3];exact h.len,?_,
   h.defs.mod hm (fun e=>n1 e.symm) (fun _ _ x=>x),h.fields.mod hm (fun e=>n2 e.symm) (fun _ _ x=>x),⟨e4.1,e4.2,h.steps.2.2⟩,fun p hp=>by
     obtain ⟨a1,a2,a3⟩:=h.kept p hp
     exact ⟨hm.at a1 (fun e=>a3 (by rw [e];simp)),a2,a3⟩⟩
 intro i b x hi hx
 rw [e3] at hx
 obtain ⟨v,h1,h2⟩:=h.cell i b x hi hx
 exact ⟨v,hm.at h1 (fun e=>(n6 b (List.mem_of_getElem? hi)).1 e.symm),h2.up hmS out_not (out_up hmS) (fun _ _ h=>h)⟩
end
theorem f_step {w:World} {S:Nat→Prop} {r md mf:Nat} {bs:List Nat} {X:Cx} {m:Rn} (h:RnAt w S r md mf bs X m) :
   CallsR Tryz.prog 37 [ptr r] w fun x w'=>x = .bool (stepS X m).1∧RnAt w' S r md mf bs X (stepS X m).2∧Mod (· = r) w w':=by
 obtain ⟨vt,vf,trows,frows,tfp,ffp,h⟩:=h
 refine fit37.calls rfl ?_
 unfold ir37
 (try simp only [go_sem,simprocAttr,cell_of h.box])
 have hs:=h.steps
 cases he:m.steps == X.fuel with
 | true=>
   have he':m.steps=X.fuel:=by simpa using he
   have hst:stepS X m=(false,{ m with kind:=4}):=by unfold stepS;rw [if_pos he']
   (try simp only [go_sem,simprocAttr])
   refine e_st1 (b:=r) (off:=0) (v:=I 4) rfl rfl h.box rfl (by simp) ?_
   intro w1 hb1 hm1 hs1
   have hm1:=hm1.of_drew
   (try simp only [go_sem,simprocAttr,rvs,RV.ev,one?])
   rw [hst]
   exact ⟨rfl,⟨_,_,_,_,_,_,h.upr (m':={ m with kind:=4}) hm1 hb1 rfl rfl rfl ⟨hs.1,hs.2.1⟩⟩,hm1⟩
 | false=>
   have he':m.steps≠X.fuel:=by simpa using he
   have hst:stepS X m=(true,{ m with steps:=m.steps+1}):=by unfold stepS;rw [if_neg he']
   have e1:IntKind.i64.wrap (m.steps+1)=m.steps+1:=wrap_in (by omega) (by omega)
   (try simp only [go_sem,simprocAttr,cell_of h.box,e1])
   refine e_st1 (b:=r) (off:=3) (v:=I (m.steps+1)) rfl rfl h.box rfl (by simp) ?_
   intro w1 hb1 hm1 hs1
   have hm1:=hm1.of_drew
   (try simp only [go_sem,simprocAttr,rvs,RV.ev,one?])
   rw [hst]
   exact ⟨rfl,⟨_,_,_,_,_,_,h.upr (m':={ m with steps:=m.steps+1}) hm1 hb1 rfl rfl rfl ⟨by show 0≤m.steps+1;omega,by show m.steps+1≤X.fuel;omega⟩⟩,hm1⟩
theorem f_stuck {w:World} {S:Nat→Prop} {r md mf:Nat} {bs:List Nat} {X:Cx} {m:Rn} {how:Int} (h:RnAt w S r md mf bs X m) :
   CallsR Tryz.prog 52 [ptr r,I how] w fun x w'=>RnAt w' S r md mf bs X (m.stop how)∧Mod (· = r) w w':=by
 obtain ⟨vt,vf,trows,frows,tfp,ffp,h⟩:=h
 refine fit52.calls rfl ?_
 unfold ir52
 (try simp only [go_sem,simprocAttr])
 refine e_st1 (b:=r) (off:=0) (v:=I 3) rfl rfl h.box rfl (by simp) ?_
 intro w1 hb1 hm1 hs1
 (try simp only [go_sem,simprocAttr])
 refine e_st1 (b:=r) (off:=2) (v:=I how) rfl rfl hb1 rfl (by simp) ?_
 intro w2 hb2 hm2 hs2
 (try simp only [go_sem,simprocAttr])
 exact ⟨⟨_,_,_,_,_,_,h.upr (m':=m.stop how) (hm1.trans hm2) hb2 rfl rfl rfl ⟨h.steps.1,h.steps.2.1⟩⟩,hm1.trans hm2⟩
end
section
open Go Go.W
theorem FmAt.one {w:World} {B:Nat→Prop} {bs:List Nat} {f:Fm} {r:List Value} (h:FmAt w B bs r f):∀ u∈r,u.oneCell'=true:=by
 have nm:∀ {l:Nms} {v:Value},NmAt w B bs l v→v.oneCell'=true:=fun {l v} h=>by
   cases l with
   | nil=>cases h;rfl
   | cons p l=>obtain ⟨a,b,nx,rfl,_⟩:=h;rfl
 have ev:∀ {k:Int} {e:Ex} {l:Nms} {r:List Value},EvAt w B bs k e l r→∀ u∈r,u.oneCell'=true:=fun h=>by
   obtain ⟨ve,vn,rfl,⟨a,cs,rfl,_⟩,h2⟩:=h
   exact one_cons rfl (one_cons rfl (one_cons rfl (one_cons (nm h2) (one_cons rfl one_nil))))
 cases f with
 | upd c=>obtain ⟨b,rfl,h⟩:=h;exact one_cons rfl (one_cons rfl (one_cons rfl (one_cons rfl (one_cons rfl one_nil))))
 | snd e n=>obtain ⟨ve,rfl,⟨a,cs,rfl,_⟩⟩:=h;exact one_cons rfl (one_cons rfl (one_cons rfl (one_cons rfl (one_cons rfl one_nil))))
 | app e l=>exact ev h
 | cas e l=>exact ev h
 | fst e l=>exact ev h
 | seq e l=>exact ev h
 | hard e l=>exact ev h
theorem All2.snoc {α β:Type} {P:α→β→Prop}:∀ {l:List α} {m:List β} {a:α} {b:β},All2 P l m→P a b→All2 P (l++[a]) (m++[b])
 | [],[],a,b,_,h=>⟨h,trivial⟩
 | x::l,y::m,a,b,h,hp=>⟨h.1,All2.snoc h.2 hp⟩
 | [],_::_,_,_,h,_=>h.elim
 | _::_,[],_,_,h,_=>h.elim
def Grew (S S':Nat→Prop) (w:World):Prop:=(∀ b,S b→S' b)∧∀ b,S' b→S b∨w.heap.size≤b
theorem grew_out {S S':Nat→Prop} {w w':World} (hg:Grew S S' w) (hsz:w.heap.size≤w'.heap.size):∀ b,Out S w b→Out S' w' b:=out_more hsz hg.2
theorem rn_nodup {r md mf:Nat} {bs:List Nat} {tfp ffp:Option Nat} (hbs:bs.Nodup) (h1:r≠md∧r≠mf∧md≠mf) (h2:∀ b,tfp=some b→r≠b∧md≠b∧mf≠b) (h3:∀ b,ffp=some b→r≠b∧md≠b∧mf≠b) (h4:∀ b∈bs,r≠b∧md≠b∧mf≠b) (h5:∀ a b,tfp=some a→ffp=some b→a≠b) (h6:∀ a,tfp=some a→a∉bs) (h7:∀ a,ffp=some a→a∉bs):(rnList r md mf bs tfp ffp).Nodup:=by
 unfold rnList
 simp only [List.nodup_cons,List.mem_cons,List.mem_append,Option.mem_toList,not_or]
 refine ⟨⟨h1.1,h1.2.1,⟨fun e=>(h2 _ e).1 rfl,fun e=>(h3 _ e).1 rfl⟩,fun e=>(h4 _ e).1 rfl⟩,⟨h1.2.2,⟨fun e=>(h2 _ e).2.1 rfl,fun e=>(h3 _ e).2.1 rfl⟩,fun e=>(h4 _ e).2.1 rfl⟩,⟨⟨fun e=>(h2 _ e).2.2 rfl,fun e=>(h3 _ e).2.2 rfl⟩,fun e=>(h4 _ e).2.2 rfl⟩,?_⟩
 rw [List.nodup_append,List.nodup_append]
 refine ⟨⟨?_,?_,fun a ha b hb=>h5 a b (by simpa using ha) (by simpa using hb)⟩,hbs,fun a ha b hb=>?_⟩
 · cases tfp<;>simp
 · cases ffp<;>simp
 · rcases List.mem_append.1 ha with h | h
   · exact fun e=>h6 a (by simpa using h) (by rw [e];exact hb)
   · exact fun e=>h7 a (by simpa using h) (by rw [e];exact hb)
theorem RnIn.bsn {w:World} {S:Nat→Prop} {r md mf:Nat} {bs:List Nat} {X:Cx} {m:Rn} {vt vf:Value} {trows frows:List (List Value)} {tfp ffp:Option Nat} (h:RnIn w S r md mf bs X m vt vf trows frows tfp ffp):bs.Nodup:=by
 have hn:=h.blocks
 unfold rnList at hn
 simp only [List.nodup_cons] at hn
 have h3:=hn.2.2.2
 rw [List.nodup_append] at h3
 exact h3.2.1
theorem f_push {w:World} {S:Nat→Prop} {r md mf:Nat} {bs:List Nat} {X:Cx} {m:Rn} {f:Fm} {cs:List Value} (h:RnAt w S r md mf bs X m) (hf:FmAt w (Out S w) bs cs f) (hlen:m.frames.length≤2097152) :
   CallsR Tryz.prog 73 [ptr r,.agg cs.toArray] w fun x w'=>(∃ S',RnAt w' S' r md mf bs X (m.push f)∧Grew S S' w)∧Mod S w w':=by
 obtain ⟨vt,vf,trows,frows,tfp,ffp,h⟩:=h
 have lc:=hf.len
 have hfl:=h.frames.at.1
 refine fit73.calls rfl ?_
 unfold ir73
 (try simp only [go_sem,simprocAttr])
 refine e_bx rfl ?_
 intro w1 hb1 hm1 hs1
 have hbox:=hm1.at h.box _root_.id
 have hr:=lt_of_heap hbox
 (try simp only [go_sem,simprocAttr,cell_of hbox,ln_blk (n:=5) (cs:=cs) hb1 lc])
 refine e_bs (cs:=cs.toArray) (ps:=partsOf 5 0 [cs]) rfl (by have:=fill_rows (sz:=5) [cs] [] _ ⟨lc,trivial⟩ (show [I 0,.pointer none,.pointer none,.pointer none,I 0].length=1*5 from rfl);simpa using this) ?_
 intro w2 hb2 hm2 hs2
 have hm2':Mod (fun _=>False) w1 w2:=hm2.of_drew
 have hm02:=hm1.trans hm2'
 (try simp only [go_sem,simprocAttr])
 refine ⟨hm2'.old _ hr _root_.id,?_⟩
 have hrd:=rd_block hb2
 rw [lc] at hrd
 refine e_ap (m:=1) (news:=cs) rfl (h.frms.mod hm02 (fun _ _ h=>h)) rfl (fun h=>by cases h) hrd hf.one rfl (by omega) (by omega) ?_
 intro v3 w3 fp3 ho3 hm3 hf3
 have hbox2:=hm2'.at hbox _root_.id
 obtain ⟨n1,n2,n3,n4,n5,n6,n7,n8,n9⟩:=h.ne
 have Sr:∀ b,b=r→S b:=fun b hb=>by rw [hb];exact h.inS _ (by simp)
 have Sf:∀ b,ffp=some b→S b:=fun b hb=>h.inS _ (by simp [hb])
 have hbox3:=hm3.at hbox2 (fun e=>(n5 r e).1 rfl)
 obtain ⟨av3,cv3,rfl,_,_⟩:=ho3.val
 refine e_st1 (b:=r) (off:=11) (v:=.slice av3 (frows.length+1) cv3) rfl rfl hbox3 rfl (by simp) ?_
 intro w4 hb4 hm4 hs4
 (try simp only [go_sem,simprocAttr])
 have z02:=hm02.size
 have z23:=hm3.size
 have z34:=hm4.size
 have zw1:w1.heap.size=w.heap.size+1:=hs1
 have zw2:w2.heap.size=w1.heap.size+1:=hs2
 have new3:∀ b,fp3=some b→ffp=some b∨w.heap.size≤b:=fun b hb=>by
   rcases hf3 b hb with h | ⟨h,_⟩
   · exact .inl h
   · right;omega
 have hmS:Mod S w w4:=((mod0 hm02).trans (hm3.weak Sf)).trans (hm4.weak Sr)
 have hg:Grew S (fun b=>S b∨fp3=some b) w:=⟨fun b hb=>.inl hb,fun b hb=>by
   rcases hb with h | h
   · exact .inl h
   · rcases new3 b h with h | h
     · exact .inl (Sf b h)
     · exact .inr h⟩
 have hout:=grew_out hg hmS.size
 have up:∀ {f:Fm} {row:List Value},FmAt w (Out S w) bs row f→FmAt w4 (Out (fun b=>S b∨fp3=some b) w4) bs row f:=fun hx=>hx.up hmS out_not hout (fun _ _ h=>h)
 have ltl:∀ b∈rnList r md mf bs tfp ffp,b < w.heap.size:=fun b hb=>h.lt b (h.inS b hb)
 have lr:=ltl r (by simp)
 have ld:=ltl md (by simp)
 have lmf:=ltl mf (by simp)
 have lt':∀ b,tfp=some b→b < w.heap.size:=fun b hb=>ltl b (by simp [hb])
 have lb:∀ b∈bs,b < w.heap.size:=fun b hb=>ltl b (by simp [hb])
 have hlt4:∀ b,fp3=some b→b < w4.heap.size:=fun b hb=>Nat.lt_of_lt_of_le (ho3.lt hb) z34
 refine ⟨⟨fun b=>S b∨fp3=some b,⟨vt,.slice av3 (frows.length+1) cv3,trows,frows++[cs],tfp,fp3,?_⟩,hg⟩,hmS⟩
 refine ⟨hb4,?_,h.items,?_,?_,?_,?_,?_,h.len,?_,?_,?_,h.steps,fun p hp=>?_⟩
 rotate_left 9
 · obtain ⟨a1,a2,a3⟩:=h.kept p hp
   have a4:=lt_of_heap a1
   simp only [rnList,List.mem_cons,List.mem_append,Option.mem_toList,not_or] at a3 ⊢
   obtain ⟨c1,c2,c3,⟨c4,c5⟩,c6⟩:=a3
   exact ⟨hm4.at (hm3.at (hm02.at a1 _root_.id) (fun e=>c5 (by rw [e]))) c1,.inl a2,c1,c2,c3,⟨c4,fun e=>by
     rcases new3 _ e with h | h
     · exact c5 h
     · omega⟩,c6⟩
 · exact ((h.told.mod hm02 (fun _ _ h=>h)).mod hm3 (fun b hb e=>n7 b b hb e rfl)).mod hm4 (fun b hb e=>(n4 b hb).1 e.symm)
 · have ho4:=ho3.mod hm4 (fun b hb e=>by
     rcases new3 b hb with h | h
     · exact (n5 b h).1 e.symm
     · omega)
   rw [flat_snoc,List.length_append]
   exact ho4
 · exact (h.frames.imp (fun _ _ x=>up x)).snoc (up hf)
 · refine rn_nodup h.bsn ⟨n1,n2,n3⟩ n4 (fun b hb=>?_) n6 (fun a b ha hb=>?_) n8 (fun a ha hmem=>?_)
   · rcases new3 b hb with h | h
     · exact n5 b h
     · exact ⟨by omega,by omega,by omega⟩
   · rcases new3 b hb with h | h
     · exact n7 a b ha h
     · have:=lt' a ha;omega
   · rcases new3 a ha with h | h
     · exact n9 a h hmem
     · have:=lb a hmem;omega
 · intro b hb
   simp only [rnList,List.mem_cons,List.mem_append,Option.mem_toList] at hb
   rcases hb with rfl | rfl | rfl | (h1 | h1) | h1
   · exact .inl (h.inS _ (by simp))
   · exact .inl (h.inS _ (by simp))
   · exact .inl (h.inS _ (by simp))
   · exact .inl (h.inS _ (by simp [h1]))
   · exact .inr h1
   · exact .inl (h.inS _ (by simp [h1]))
 · intro b hb
   rcases hb with h1 | h1
   · have:=h.lt b h1;have:=hmS.size;omega
   · exact hlt4 b h1
 · intro i b x hi hx
   obtain ⟨v,h1,h2⟩:=h.cell i b x hi hx
   have hmem:=List.mem_of_getElem? hi
   exact ⟨v,hm4.at (hm3.at (hm02.at h1 _root_.id) (fun e=>n9 b e hmem)) (fun e=>(n6 b hmem).1 e.symm),h2.up hmS out_not hout (fun _ _ h=>h)⟩
 · exact ((h.defs.mod hm02 _root_.id (fun _ _ x=>x)).mod hm3 (fun e=>(n5 md e).2.1 rfl) (fun _ _ x=>x)).mod hm4 (fun e=>n1 e.symm) (fun _ _ x=>x)
 · exact ((h.fields.mod hm02 _root_.id (fun _ _ x=>x)).mod hm3 (fun e=>(n5 mf e).2.2 rfl) (fun _ _ x=>x)).mod hm4 (fun e=>n2 e.symm) (fun _ _ x=>x)
end
section
open Go Go.W
section
variable {w w':World} {S:Nat→Prop} {r md mf:Nat} {bs:List Nat} {X:Cx} {m:Rn} {vt vf:Value} {trows frows:List (List Value)} {tfp ffp:Option Nat}
theorem RnIn.keep (h:RnIn w S r md mf bs X m vt vf trows frows tfp ffp) (hm:Mod (fun _=>False) w w'):RnIn w' S r md mf bs X m vt vf trows frows tfp ffp:=by
 have hmS:Mod S w w':=mod0 hm
 exact ⟨hm.at h.box _root_.id,h.told.mod hm (fun _ _ h=>h),h.items,h.frms.mod hm (fun _ _ h=>h),h.frames.imp (fun _ _ x=>x.up hmS out_not (out_up hmS) (fun _ _ h=>h)),h.blocks,h.inS,fun b hb=>Nat.lt_of_lt_of_le (h.lt b hb) hm.size,h.len,
   fun i b x hi hx=>by obtain ⟨v,h1,h2⟩:=h.cell i b x hi hx;exact ⟨v,hm.at h1 _root_.id,h2.up hmS out_not (out_up hmS) (fun _ _ h=>h)⟩,h.defs.mod hm _root_.id (fun _ _ x=>x),h.fields.mod hm _root_.id (fun _ _ x=>x),h.steps,fun p hp=>by obtain ⟨a1,a2,a3⟩:=h.kept p hp;exact ⟨hm.at a1 _root_.id,a2,a3⟩⟩
theorem RnAt.keep (h:RnAt w S r md mf bs X m) (hm:Mod (fun _=>False) w w'):RnAt w' S r md mf bs X m:=by
 obtain ⟨vt,vf,trows,frows,tfp,ffp,h⟩:=h
 exact ⟨vt,vf,trows,frows,tfp,ffp,RnIn.keep h hm⟩
theorem RnIn.put (h:RnIn w S r md mf bs X m vt vf trows frows tfp ffp) {c b:Nat} {x:Cl} {v:Value} (hc:bs[c]? = some b) (hm:Mod (· = b) w w') (hb:w'.heap[b]? = some (.cells [v].toArray tCell (0,0))) (hv:ClAt w (Out S w) bs x v) :
   RnIn w' S r md mf bs X (m.put c x) vt vf trows frows tfp ffp:=by
 obtain ⟨n1,n2,n3,n4,n5,n6,n7,n8,n9⟩:=h.ne
 have hmem:=List.mem_of_getElem? hc
 obtain ⟨e1,e2,e3⟩:=n6 b hmem
 have Sb:∀ y,y=b→S y:=fun y hy=>by rw [hy];exact h.inS _ (by simp [hmem])
 have hmS:=hm.weak Sb
 have up:∀ {y:Cl} {u:Value},ClAt w (Out S w) bs y u→ClAt w' (Out S w') bs y u:=fun hx=>hx.up hmS out_not (out_up hmS) (fun _ _ h=>h)
 refine ⟨hm.at h.box e1,h.told.mod hm (fun y hy e=>n8 y hy (by rw [e];exact hmem)),h.items,h.frms.mod hm (fun y hy e=>n9 y hy (by rw [e];exact hmem)),h.frames.imp (fun _ _ x=>x.up hmS out_not (out_up hmS) (fun _ _ h=>h)),h.blocks,h.inS,fun y hy=>Nat.lt_of_lt_of_le (h.lt y hy) hm.size,by show bs.length=(m.cells.set c x).length;rw [List.length_set];exact h.len,?_,
   h.defs.mod hm e2 (fun _ _ x=>x),h.fields.mod hm e3 (fun _ _ x=>x),h.steps,fun p hp=>by
     obtain ⟨a1,a2,a3⟩:=h.kept p hp
     exact ⟨hm.at a1 (fun e=>a3 (by rw [e];simp [hmem])),a2,a3⟩⟩
 intro i b' y hi hy
 have hy:(m.cells.set c x)[i]? = some y:=hy
 by_cases hic:c=i
 · subst hic
   rw [hc] at hi
   cases hi
   have hlt:c < m.cells.length:=by
     rw [← h.len]
     exact (List.getElem?_eq_some_iff.1 hc).1
   rw [List.getElem?_set_self hlt] at hy
   cases hy
   exact ⟨v,hb,up hv⟩
 · rw [List.getElem?_set_ne hic] at hy
   obtain ⟨u,h1,h2⟩:=h.cell i b' y hi hy
   have hne:b'≠b:=fun e=>by
     subst e
     obtain ⟨l1,q1⟩:=List.getElem?_eq_some_iff.1 hi
     obtain ⟨l2,q2⟩:=List.getElem?_eq_some_iff.1 hc
     exact hic (((List.getElem_inj h.bsn).1 (q2.trans q1.symm)))
   exact ⟨u,hm.at h1 hne,up h2⟩
end
def MdAt (w:World) (B:Nat→Prop) (bs:List Nat) (v:Value):Option Md→Prop
 | some (.go e nm)=>∃ ve vn,v = .tuple #[ve,vn,.nilIface,.bool true]∧EPtr w B ve e∧NmAt w B bs nm vn
 | some (.val x)=>∃ u,v = .tuple #[.pointer none,.pointer none,u,.bool true]∧ClAt w B bs x u∧x.isV=true
 | none=>v = .tuple #[.pointer none,.pointer none,.nilIface,.bool false]
def RetAt (w w':World) (S:Nat→Prop) (r md mf:Nat) (bs:List Nat) (X:Cx) (v:Value) (x:R3):Prop:=
 ∃ S' bs',RnAt w' S' r md mf bs' X x.2∧Grew S S' w∧(∀ (c b:Nat),bs[c]? = some b→bs'[c]? = some b)∧MdAt w' (Out S' w') bs' v x.1
theorem cl_iface {w:World} {B:Nat→Prop} {bs:List Nat} {x:Cl} {u:Value} (h:ClAt w B bs x u):x.isV=true→∃ T z,u = .iface T z∧∃ want ti,Tryz.prog.underlying 77=some (.interface want)∧Tryz.prog.info? T=some ti∧(Instr.missingMethod want ti.methods).isNone=true:=by
 intro hv
 cases x with
 | num n=>cases h;exact ⟨_,_,rfl,val_num⟩
 | con n fs=>obtain ⟨a,vs,rfl,_⟩:=h;exact ⟨_,_,rfl,val_con⟩
 | lam e nm=>obtain ⟨a,ve,vn,rfl,_⟩:=h;exact ⟨_,_,rfl,val_lam⟩
 | par n l fs=>obtain ⟨a,vs,rfl,_⟩:=h;exact ⟨_,_,rfl,val_par⟩
 | wait e nm=>cases hv
 | busy=>cases hv
 | emp=>cases hv
theorem f_enterR {w:World} {S:Nat→Prop} {r md mf:Nat} {bs:List Nat} {X:Cx} {m:Rn} {c b:Nat} (h:RnAt w S r md mf bs X m) (hc:bs[c]? = some b) (hlen:m.frames.length≤2097152) :
   CallsR Tryz.prog 53 [ptr r,ptr b] w fun v w'=>RetAt w w' S r md mf bs X v (enterCl m c)∧Mod S w w':=by
 obtain ⟨vt,vf,trows,frows,tfp,ffp,h⟩:=h
 have hci:c < m.cells.length:=by rw [← h.len];exact (List.getElem?_eq_some_iff.1 hc).1
 have hx:=List.getElem?_eq_getElem hci
 obtain ⟨u,hb,hu⟩:=h.cell c b _ hc hx
 generalize m.cells[c]=x at hx hu
 have hE:enterCl m c=match some x with
   | some (.wait e v)=>(some (.go e v),(m.put c .busy).push (.upd c))
   | some (.num n)=>(some (.val (.num n)),m)
   | some (.con n fs)=>(some (.val (.con n fs)),m)
   | some (.lam e v)=>(some (.val (.lam e v)),m)
   | some (.par n l h)=>(some (.val (.par n l h)),m)
   | _=>(none,m.stop 4):=by unfold enterCl;rw [hx];try rfl
 refine fit53.calls rfl ?_
 unfold ir53
 (try simp only [go_sem,simprocAttr,cell_of hb])
 cases hv:x.isV with
 | true=>
   obtain ⟨T,z,rfl,want,ti,q1,q2,q3⟩:=cl_iface hu hv
   have hE':enterCl m c=(some (.val x),m):=by rw [hE];cases x<;>first | rfl | cases hv
   refine e_taI rfl q1 q2 q3 (Tryz.zeroValue77 _) (fun _=>?_) (fun h=>by cases h)
   (try simp only [go_sem,simprocAttr,rvs,RV.ev,one?])
   rw [hE']
   exact ⟨⟨S,bs,⟨_,_,_,_,_,_,h⟩,⟨fun _ h=>h,fun _ h=>.inl h⟩,fun _ _ h=>h,_,rfl,hu,hv⟩,.refl _ _⟩
 | false=>
   have stop:∀ (hE':enterCl m c=(none,m.stop 4)),CallsR Tryz.prog 52 [ptr r,I 4] w fun _ w'=>RetAt w w' S r md mf bs X (.tuple #[.pointer none,.pointer none,.nilIface,.bool false]) (enterCl m c)∧Mod S w w':=fun hE'=>by
     refine (f_stuck ⟨_,_,_,_,_,_,h⟩).mono ?_
     rintro _ w1 ⟨hR,hm1⟩
     rw [hE']
     exact ⟨⟨S,bs,hR,⟨fun _ h=>h,fun _ h=>.inl h⟩,fun _ _ h=>h,rfl⟩,hm1.weak (fun y hy=>by rw [hy];exact h.inS _ (by simp))⟩
   cases x with
   | num n=>cases hv
   | con n fs=>cases hv
   | lam e nm=>cases hv
   | par n l fs=>cases hv
   | emp=>
     cases hu
     obtain ⟨want,ti,q1,q2,q3⟩:=val_wait
     refine e_taN rfl q1 (Tryz.zeroValue77 _) ?_
     (try simp only [go_sem,simprocAttr])
     refine e_taN (D:=.pointer 108) rfl rfl (Tryz.zeroValue105 _) ?_
     (try simp only [go_sem,simprocAttr])
     refine e_call (by rfl) ?_
     refine (stop hE).mono ?_
     rintro _ w1 hR
     (try simp only [go_sem,simprocAttr,rvs,RV.ev,one?])
     exact hR
   | busy=>
     cases hu
     obtain ⟨want,ti,q1,q2,q3⟩:=val_busy
     refine e_taI rfl q1 q2 q3 (Tryz.zeroValue77 _) (fun h=>by cases h) (fun _=>?_)
     (try simp only [go_sem,simprocAttr])
     refine e_taC (D:=.pointer 108) rfl rfl rfl (Tryz.zeroValue105 _) (fun h=>absurd h (by decide)) (fun _=>?_)
     (try simp only [go_sem,simprocAttr])
     refine e_call (by rfl) ?_
     refine (stop hE).mono ?_
     rintro _ w1 hR
     (try simp only [go_sem,simprocAttr,rvs,RV.ev,one?])
     exact hR
   | wait e nm=>
     obtain ⟨a,ve,vn,rfl,hcs,he,hn⟩:=hu
     obtain ⟨want,ti,q1,q2,q3⟩:=val_wait
     refine e_taI rfl q1 q2 q3 (Tryz.zeroValue77 _) (fun h=>by cases h) (fun _=>?_)
     (try simp only [go_sem,simprocAttr])
     refine e_taC (D:=.pointer 108) rfl rfl rfl (Tryz.zeroValue105 _) (fun _=>?_) (fun h=>absurd rfl h)
     (try simp only [go_sem,simprocAttr])
     refine e_st1 (b:=b) (off:=0) (v:=.iface 167 (.agg #[])) rfl rfl hb rfl (by simp) ?_
     intro w1 hb1 hm1 hs1
     have Sb:∀ y,y=b→S y:=fun y hy=>by rw [hy];exact h.inS _ (by simp [List.mem_of_getElem? hc])
     have h1:=h.put (x:=.busy) hc hm1 hb1 rfl
     have hm1S:=hm1.weak Sb
     (try simp only [go_sem,simprocAttr])
     refine e_call (by rfl) ?_
     refine (f_push (f:=.upd c) (cs:=[I 0,ptr b,.pointer none,.pointer none,I 0]) ⟨_,_,_,_,_,_,h1⟩ ⟨b,rfl,hc⟩ hlen).mono ?_
     rintro _ w2 ⟨⟨S2,h2,hg2⟩,hm2⟩
     have hm02:Mod S w w2:=hm1S.trans hm2
     have hg:Grew S S2 w:=⟨hg2.1,fun y hy=>by
       rcases hg2.2 y hy with h | h
       · exact .inl h
       · right;omega⟩
     have hout:=grew_out hg hm02.size
     have hcs2:=hcs.up hm02 out_not hout
     have k0:w2.cell? a=some ve:=hcs2.c0 (by simp)
     have k1:w2.cell? ⟨a.block,a.off+1,none⟩=some vn:=hcs2.at (k:=1) (by simp)
     (try simp only [go_sem,simprocAttr,k0,k1,rvs,RV.ev,one?])
     rw [hE]
     have d2:Mod (fun _=>False) w2 w2.drew:=(Mod.refl _ _).drew
     have hm02d:Mod S w w2.drew:=hm02.trans (mod0 d2)
     have houtd:=grew_out hg hm02d.size
     exact ⟨⟨S2,bs,RnAt.keep h2 d2,hg,fun _ _ h=>h,ve,vn,rfl,he.up hm02d out_not houtd,hn.up hm02d out_not houtd (fun _ _ h=>h)⟩,hm02d⟩
end
section
open Go Go.W
theorem cells_new {w:World} {S:Nat→Prop} {b T:Nat} {cs:List Value} (hb:w.heap[b]? = some (.cells cs.toArray T (0,0))) (hS:¬ S b):CellsAt w (Out S w) ⟨b,0,none⟩ cs:=
 ⟨⟨lt_of_heap hb,hS⟩,fun k hk=>by rw [add_at,cell_of hb];simp [List.getElem?_eq_getElem hk]⟩
theorem cells_of_new {w w':World} {S:Nat→Prop} {b T:Nat} {cs:List Value} (hb:w.heap[b]? = some (.cells cs.toArray T (0,0))) (hm:Mod (fun _=>False) w w') (hS:¬ S b):CellsAt w' (Out S w') ⟨b,0,none⟩ cs:=cells_new (hm.at hb _root_.id) hS
theorem nd_new {w:World} {S:Nat→Prop} {b T:Nat} {cs:List Value} (hb:w.heap[b]? = some (.cells cs.toArray T (0,0))) (hS:¬ S b):NdAt w (Out S w) ⟨b,0,none⟩ cs:=⟨cells_new hb hS,_,_,hb⟩
theorem f_grown {w:World} {S:Nat→Prop} {bs hv:List Nat} {n:ByteArray} {lacks:Int} {vs:Value} (hS:∀ b,S b→b < w.heap.size) (h:FsAt w (Out S w) bs hv vs) :
   CallsR Tryz.prog 51 [.string n,I lacks,vs] w fun v w'=>ClAt w' (Out S w') bs (growS n lacks hv) v∧(growS n lacks hv).isV=true∧Mod (fun _=>False) w w':=by
 obtain ⟨a,c,rfl⟩:=each_sl h
 refine fit51.calls rfl ?_
 unfold ir51
 (try simp only [go_sem,simprocAttr])
 cases hl:lacks == 0 with
 | true=>
   have hl':lacks=0:=by simpa using hl
   have hg:growS n lacks hv = .con n hv:=by unfold growS;rw [if_pos hl']
   (try simp only [go_sem,simprocAttr])
   refine e_bx rfl ?_
   intro w1 hb1 hm1 hs1
   (try simp only [go_sem,simprocAttr,rvs,RV.ev,one?])
   rw [hg]
   exact ⟨⟨_,_,rfl,cells_new (cs:=[.string n,.slice a hv.length c]) hb1 (fun hh=>by have:=hS _ hh;omega),h.up (mod0 hm1) out_not (out_up (mod0 hm1)) (fun _ _ h=>h)⟩,rfl,hm1⟩
 | false=>
   have hl':lacks≠0:=by simpa using hl
   have hg:growS n lacks hv = .par n lacks hv:=by unfold growS;rw [if_neg hl']
   (try simp only [go_sem,simprocAttr])
   refine e_bx rfl ?_
   intro w1 hb1 hm1 hs1
   (try simp only [go_sem,simprocAttr,rvs,RV.ev,one?])
   rw [hg]
   exact ⟨⟨_,_,rfl,cells_new (cs:=[.string n,I lacks,.slice a hv.length c]) hb1 (fun hh=>by have:=hS _ hh;omega),h.up (mod0 hm1) out_not (out_up (mod0 hm1)) (fun _ _ h=>h)⟩,rfl,hm1⟩
theorem f_wrapped (n:Int) {w:World}:CallsR Tryz.prog 92 [I n] w fun r w'=>r=I (W63 n)∧w=w':=by
 refine fit92.calls rfl ?_
 unfold ir92
 (try simp only [go_sem,Nat.reduceAdd,Nat.reduceEqDiff,Nat.reduceLT,Nat.reduceLeDiff,Nat.reduceMul,reduceCtorEq,↓reduceIte,rvs,RV.ev,one?])
 exact ⟨_,rfl,_,rfl,rfl⟩
end
section
open Go Go.W
def OprR (w':World) (S:Nat→Prop) (r md mf:Nat) (bs:List Nat) (X:Cx) (m:Rn) (v:Value):Option Cl→Prop
 | some x=>(∃ u,v = .tuple #[u,.bool true]∧ClAt w' (Out S w') bs x u∧x.isV=true)∧RnAt w' S r md mf bs X m
 | none=>v = .tuple #[.nilIface,.bool false]∧RnAt w' S r md mf bs X (m.stop 3)
theorem f_opr {n:ByteArray} {a b:Int} {w:World} {S:Nat→Prop} {r md mf:Nat} {bs:List Nat} {X:Cx} {m:Rn} (h:RnAt w S r md mf bs X m) :
   CallsR Tryz.prog 75 [ptr r,.string n,I a,I b] w fun v w'=>OprR w' S r md mf bs X m v (oprS n a b)∧Mod S w w':=by
 have hO:oprS n a b=if strEq n ⟨#[43]⟩ then some (.num (W63 (Wr (a+b))))
   else if strEq n ⟨#[45]⟩ then some (.num (W63 (Wr (a - b))))
   else if strEq n ⟨#[42]⟩ then some (.num (W63 (Wr (a*b))))
   else if strEq n ⟨#[47]⟩||strEq n ⟨#[37]⟩ then (if b=0 then none else if strEq n ⟨#[47]⟩ then some (.num (W63 (Wr (a.tdiv b)))) else some (.num (a.tmod b)))
   else some (.con (if truthS n a b then trueN else falseN) []):=rfl
 have hnum:∀ (k:Int),OprR w S r md mf bs X m (.tuple #[.iface 115 (I k),.bool true]) (some (.num k)):=fun k=>⟨⟨_,rfl,rfl,rfl⟩,h⟩
 refine fit75.calls rfl ?_
 unfold ir75
 (try simp only [go_sem,simprocAttr])
 refine ir_thenB (fun ρ w'=>w=w'∧oprS n a b=some (.con (if truthS n a b then trueN else falseN) [])∧ρ.get 10=some (.bool (truthS n a b))) ?_ ?_
 · cases h1:strEq n ⟨#[43]⟩ with
   | true=>
     rw [if_pos h1] at hO
     rw [strEq] at h1
     (try simp only [go_sem,simprocAttr,h1])
     refine e_call (by rfl) ?_
     refine (f_wrapped _).mono ?_
     rintro _ _ ⟨rfl,rfl⟩
     (try simp only [go_sem,simprocAttr,rvs,RV.ev,one?])
     rw [hO]
     exact ⟨hnum _,.refl _ _⟩
   | false=>
   rw [if_neg (by rw [h1];simp)] at hO
   rw [strEq] at h1
   (try simp only [go_sem,simprocAttr,h1])
   cases h2:strEq n ⟨#[45]⟩ with
   | true=>
     rw [if_pos h2] at hO
     rw [strEq] at h2
     (try simp only [go_sem,simprocAttr,h2])
     refine e_call (by rfl) ?_
     refine (f_wrapped _).mono ?_
     rintro _ _ ⟨rfl,rfl⟩
     (try simp only [go_sem,simprocAttr,rvs,RV.ev,one?])
     rw [hO]
     exact ⟨hnum _,.refl _ _⟩
   | false=>
   rw [if_neg (by rw [h2];simp)] at hO
   rw [strEq] at h2
   (try simp only [go_sem,simprocAttr,h2])
   cases h3:strEq n ⟨#[42]⟩ with
   | true=>
     rw [if_pos h3] at hO
     rw [strEq] at h3
     (try simp only [go_sem,simprocAttr,h3])
     refine e_call (by rfl) ?_
     refine (f_wrapped _).mono ?_
     rintro _ _ ⟨rfl,rfl⟩
     (try simp only [go_sem,simprocAttr,rvs,RV.ev,one?])
     rw [hO]
     exact ⟨hnum _,.refl _ _⟩
   | false=>
   rw [if_neg (by rw [h3];simp)] at hO
   rw [strEq] at h3
   (try simp only [go_sem,simprocAttr,h3])
   have Sr:∀ y,y=r→S y:=fun y hy=>by obtain ⟨_,_,_,_,_,_,hh⟩:=h;rw [hy];exact hh.inS _ (by simp)
   have zero:∀ (hO:oprS n a b=none),CallsR Tryz.prog 52 [ptr r,I 3] w fun _ w'=>OprR w' S r md mf bs X m (.tuple #[.nilIface,.bool false]) (oprS n a b)∧Mod S w w':=fun hO=>by
     refine (f_stuck h).mono ?_
     rintro _ w1 ⟨hR,hm1⟩
     rw [hO]
     exact ⟨⟨rfl,hR⟩,hm1.weak Sr⟩
   cases h4:strEq n ⟨#[47]⟩ with
   | true=>
     rw [if_pos (by rw [h4];try rfl),if_pos h4] at hO
     rw [strEq] at h4
     (try simp only [go_sem,simprocAttr,h4])
     cases hb:b == 0 with
     | true=>
       rw [if_pos (by simpa using hb)] at hO
       (try simp only [go_sem,simprocAttr])
       refine e_call (by rfl) ?_
       refine (zero hO).mono ?_
       rintro _ w1 hR
       (try simp only [go_sem,simprocAttr,rvs,RV.ev,one?])
       exact hR
     | false=>
       have hb':b≠0:=by simpa using hb
       rw [if_neg hb'] at hO
       (try simp only [go_sem,simprocAttr,h4,hb'])
       refine e_call (by rfl) ?_
       refine (f_wrapped _).mono ?_
       rintro _ _ ⟨rfl,rfl⟩
       (try simp only [go_sem,simprocAttr,rvs,RV.ev,one?])
       rw [hO]
       exact ⟨hnum _,.refl _ _⟩
   | false=>
   cases h5:strEq n ⟨#[37]⟩ with
   | true=>
     rw [if_pos (by rw [h5];simp),if_neg (show ¬ strEq n ⟨#[47]⟩=true by rw [h4];simp)] at hO
     rw [strEq] at h4 h5
     (try simp only [go_sem,simprocAttr,h4,h5])
     cases hb:b == 0 with
     | true=>
       rw [if_pos (by simpa using hb)] at hO
       (try simp only [go_sem,simprocAttr])
       refine e_call (by rfl) ?_
       refine (zero hO).mono ?_
       rintro _ w1 hR
       (try simp only [go_sem,simprocAttr,rvs,RV.ev,one?])
       exact hR
     | false=>
       have hb':b≠0:=by simpa using hb
       rw [if_neg hb'] at hO
       (try simp only [go_sem,simprocAttr,h4,hb',rvs,RV.ev,one?])
       rw [hO]
       exact ⟨hnum _,.refl _ _⟩
   | false=>
   rw [if_neg (by rw [h4,h5];simp)] at hO
   have hT:truthS n a b=if strEq n ⟨#[61,61]⟩ then a == b
     else if strEq n ⟨#[47,61]⟩ then a != b
     else if strEq n ⟨#[60]⟩ then decide (a < b)
     else if strEq n ⟨#[60,61]⟩ then decide (a≤b)
     else if strEq n ⟨#[62]⟩ then decide (a > b)
     else if strEq n ⟨#[62,61]⟩ then decide (a≥b)
     else false:=rfl
   rw [strEq] at h4 h5
   (try simp only [go_sem,simprocAttr,h4,h5])
   cases c1:strEq n ⟨#[61,61]⟩ with
   | true=>
     rw [if_pos c1] at hT
     rw [strEq] at c1
     (try simp only [go_sem,simprocAttr,c1])
     exact ⟨hO,congrArg _ hT.symm⟩
   | false=>
   rw [if_neg (by rw [c1];simp)] at hT
   rw [strEq] at c1
   (try simp only [go_sem,simprocAttr,c1])
   cases c2:strEq n ⟨#[47,61]⟩ with
   | true=>
     rw [if_pos c2] at hT
     rw [strEq] at c2
     (try simp only [go_sem,simprocAttr,c2])
     exact ⟨hO,congrArg _ hT.symm⟩
   | false=>
   rw [if_neg (by rw [c2];simp)] at hT
   rw [strEq] at c2
   (try simp only [go_sem,simprocAttr,c2])
   cases c3:strEq n ⟨#[60]⟩ with
   | true=>
     rw [if_pos c3] at hT
     rw [strEq] at c3
     (try simp only [go_sem,simprocAttr,c3])
     exact ⟨hO,congrArg _ hT.symm⟩
   | false=>
   rw [if_neg (by rw [c3];simp)] at hT
   rw [strEq] at c3
   (try simp only [go_sem,simprocAttr,c3])
   cases c4:strEq n ⟨#[60,61]⟩ with
   | true=>
     rw [if_pos c4] at hT
     rw [strEq] at c4
     (try simp only [go_sem,simprocAttr,c4])
     exact ⟨hO,congrArg _ hT.symm⟩
   | false=>
   rw [if_neg (by rw [c4];simp)] at hT
   rw [strEq] at c4
   (try simp only [go_sem,simprocAttr,c4])
   cases c5:strEq n ⟨#[62]⟩ with
   | true=>
     rw [if_pos c5] at hT
     rw [strEq] at c5
     (try simp only [go_sem,simprocAttr,c5])
     exact ⟨hO,congrArg _ hT.symm⟩
   | false=>
   rw [if_neg (by rw [c5];simp)] at hT
   rw [strEq] at c5
   (try simp only [go_sem,simprocAttr,c5])
   cases c6:strEq n ⟨#[62,61]⟩ with
   | true=>
     rw [if_pos c6] at hT
     rw [strEq] at c6
     (try simp only [go_sem,simprocAttr,c6])
     exact ⟨hO,congrArg _ hT.symm⟩
   | false=>
   rw [if_neg (by rw [c6];simp)] at hT
   rw [strEq] at c6
   (try simp only [go_sem,simprocAttr,c6])
   exact ⟨hO,congrArg _ hT.symm⟩
 · rintro ρ _ ⟨rfl,hc,g10⟩
   have hS:=h
   obtain ⟨_,_,_,_,_,_,hh⟩:=hS
   cases ht:truthS n a b with
   | true=>
     rw [ht] at g10 hc
     (try simp only [go_sem,simprocAttr,g10])
     refine e_bx rfl ?_
     intro w1 hb1 hm1 hs1
     (try simp only [go_sem,simprocAttr,rvs,RV.ev,one?])
     rw [hc]
     exact ⟨⟨⟨_,rfl,⟨_,_,rfl,cells_new (cs:=[.string trueN,.slice none 0 0]) hb1 (fun hx=>by have:=hh.lt _ hx;omega),each_nil _ _ _ _⟩,rfl⟩,h.keep hm1⟩,mod0 hm1⟩
   | false=>
     rw [ht] at g10 hc
     (try simp only [go_sem,simprocAttr,g10])
     refine e_bx rfl ?_
     intro w1 hb1 hm1 hs1
     (try simp only [go_sem,simprocAttr,rvs,RV.ev,one?])
     rw [hc]
     exact ⟨⟨⟨_,rfl,⟨_,_,rfl,cells_new (cs:=[.string falseN,.slice none 0 0]) hb1 (fun hx=>by have:=hh.lt _ hx;omega),each_nil _ _ _ _⟩,rfl⟩,h.keep hm1⟩,mod0 hm1⟩
end
section
open Go Go.W
theorem f_givenR {w:World} {S:Nat→Prop} {r md mf:Nat} {bs:List Nat} {X:Cx} {m:Rn} {c b:Nat} {f:Cl} {u:Value} {res:R3} (h:RnAt w S r md mf bs X m) (hc:bs[c]? = some b) (hu:ClAt w (Out S w) bs f u) (hv:f.isV=true) (hres:givenR m f c=some res) :
   CallsR Tryz.prog 36 [ptr r,u,ptr b] w fun v w'=>RetAt w w' S r md mf bs X v res∧Mod S w w':=by
 have hS:=h
 obtain ⟨_,_,_,_,_,_,hh⟩:=hS
 have Sr:∀ y,y=r→S y:=fun y hy=>by rw [hy];exact hh.inS _ (by simp)
 have stop:∀ (hE':res=(none,m.stop 5)),CallsR Tryz.prog 52 [ptr r,I 5] w fun _ w'=>RetAt w w' S r md mf bs X (.tuple #[.pointer none,.pointer none,.nilIface,.bool false]) res∧Mod S w w':=fun hE'=>by
   refine (f_stuck h).mono ?_
   rintro _ w1 ⟨hR,hm1⟩
   rw [hE']
   exact ⟨⟨S,bs,hR,⟨fun _ h=>h,fun _ h=>.inl h⟩,fun _ _ h=>h,rfl⟩,hm1.weak Sr⟩
 refine fit36.calls rfl ?_
 unfold ir36
 (try simp only [go_sem,simprocAttr])
 cases f with
 | wait e nm=>cases hv
 | busy=>cases hv
 | emp=>cases hv
 | num n=>
   cases hu
   cases hres
   refine e_taC (D:=.pointer 139) rfl rfl rfl (Tryz.zeroValue138 _) (fun h=>absurd h (by decide)) (fun _=>?_)
   (try simp only [go_sem,simprocAttr])
   refine e_taC (D:=.pointer 144) rfl rfl rfl (Tryz.zeroValue142 _) (fun h=>absurd h (by decide)) (fun _=>?_)
   (try simp only [go_sem,simprocAttr])
   refine e_call (by rfl) ?_
   refine (stop rfl).mono ?_
   rintro _ w1 hR
   (try simp only [go_sem,simprocAttr,rvs,RV.ev,one?])
   exact hR
 | con n fs=>
   obtain ⟨a,vs,rfl,_⟩:=hu
   cases hres
   refine e_taC (D:=.pointer 139) rfl rfl rfl (Tryz.zeroValue138 _) (fun h=>absurd h (by decide)) (fun _=>?_)
   (try simp only [go_sem,simprocAttr])
   refine e_taC (D:=.pointer 144) rfl rfl rfl (Tryz.zeroValue142 _) (fun h=>absurd h (by decide)) (fun _=>?_)
   (try simp only [go_sem,simprocAttr])
   refine e_call (by rfl) ?_
   refine (stop rfl).mono ?_
   rintro _ w1 hR
   (try simp only [go_sem,simprocAttr,rvs,RV.ev,one?])
   exact hR
 | lam e nm=>
   obtain ⟨a,ve,vn,rfl,hcs,⟨ae,ecs,rfl,hecs,hex⟩,hn⟩:=hu
   obtain ⟨vt,va,vb,vl,rfl,ht,ha,hb,hl⟩:=hex.parts
   obtain ⟨aa,ca,rfl⟩:=each_sl ha
   obtain ⟨ab,cb,rfl⟩:=each_sl hb
   have hres:(match e.args,e.binds with
     | x::_,b::_=>some (some (Md.go x ((b.name,c)::nm)),m)
     | _,_=>none)=some res:=hres
   cases hargs:e.args with
   | nil=>rw [hargs] at hres;cases hres
   | cons x xs=>
   cases hbinds:e.binds with
   | nil=>rw [hargs,hbinds] at hres;cases hres
   | cons bd bds=>
   rw [hargs,hbinds] at hres
   cases hres
   have lx:0 < e.args.length:=by rw [hargs];simp
   have lb:0 < e.binds.length:=by rw [hbinds];simp
   obtain ⟨ada,ca2,ra,ea,hxa,hl7,hca⟩:=each_cells ha lx
   obtain ⟨rfl,-,-⟩:=tup_inj ea
   obtain ⟨adb,cb2,rb,eb,hxb,hl11,hcb⟩:=each_cells hb lb
   obtain ⟨rfl,-,-⟩:=tup_inj eb
   have hx0:e.args[0]=x:=by simp [hargs]
   have hb0:e.binds[0]=bd:=by simp [hbinds]
   rw [hx0] at hxa
   rw [hb0] at hxb
   rw [Nat.zero_mul,add_zero'] at hca hcb
   obtain ⟨tc,bc,rfl,_,_,_⟩:=hxb
   have k0:w.cell? a=some (.pointer (some ae)):=hcs.c0 (by simp)
   have k1:w.cell? ⟨a.block,a.off+1,none⟩=some vn:=hcs.at (k:=1) (by simp)
   have k4:w.cell? ⟨ae.block,ae.off+4,none⟩=some (.slice (some ada) e.args.length ca):=hecs.at (k:=4) (by simp)
   have k5:w.cell? ⟨ae.block,ae.off+5,none⟩=some (.slice (some adb) e.binds.length cb):=hecs.at (k:=5) (by simp)
   have kb:w.cell? adb=some (.string bd.name):=hcb.c0 (by simp)
   have b1:(0:Int)≤0∧(0:Int) < e.args.length:=by omega
   have b2:(0:Int)≤0∧(0:Int) < e.binds.length:=by omega
   refine e_taC (D:=.pointer 139) rfl rfl rfl (Tryz.zeroValue138 _) (fun _=>?_) (fun h=>absurd rfl h)
   have hvn:Go.W.One vn:=by
     cases nm with
     | nil=>cases hn;rfl
     | cons p l=>obtain ⟨_,_,_,rfl,_⟩:=hn;rfl
   (try simp only [go_sem,simprocAttr,zb4,zb6,k0,k1,k4,k5,b1,b2,Nat.zero_mul,kb,hvn])
   refine e_bx rfl ?_
   intro w1 hb1 hm1' hs1
   have hm1:Mod (fun _=>False) w w1:=hm1'.of_drew
   have lta:=cell_lt k0
   have lte:=cell_lt k4
   (try simp only [go_sem,simprocAttr,rvs,RV.ev,one?])
   refine ⟨⟨hm1.old _ lte _root_.id,hm1.old _ lta _root_.id⟩,⟨S,bs,h.keep hm1,⟨fun _ h=>h,fun _ h=>.inl h⟩,fun _ _ h=>h,_,_,rfl,⟨ada,ra,rfl,hca.up (mod0 hm1) out_not (out_up (mod0 hm1)),hxa.up (mod0 hm1) out_not (out_up (mod0 hm1))⟩,?_⟩,mod0 hm1⟩
   exact ⟨_,b,vn,rfl,hc,nd_new (cs:=[.string bd.name,ptr b,vn]) hb1 (fun hx=>by have:=hh.lt _ hx;have e:w.drew.heap.size=w.heap.size:=rfl;omega),hn.up (mod0 hm1) out_not (out_up (mod0 hm1)) (fun _ _ h=>h)⟩
 | par n l fs=>
   obtain ⟨a,vs,rfl,hcs,hfs⟩:=hu
   obtain ⟨ah,ch,rfl⟩:=each_sl hfs
   have hres:(if fs.length < 1099511627776 then some (some (Md.val (growS n (Wr (l - 1)) (fs++[c]))),m) else none)=some res:=hres
   have hlen:fs.length < 1099511627776:=by
     apply Classical.byContradiction
     intro h;rw [if_neg h] at hres;cases hres
   rw [if_pos hlen] at hres
   cases hres
   have k0:w.cell? a=some (.string n):=hcs.c0 (by simp)
   have k1:w.cell? ⟨a.block,a.off+1,none⟩=some (I l):=hcs.at (k:=1) (by simp)
   have k2:w.cell? ⟨a.block,a.off+2,none⟩=some (.slice ah fs.length ch):=hcs.at (k:=2) (by simp)
   have hfs0:=hfs
   obtain ⟨rows,hrows,hrl,hrr⟩:=hfs0
   obtain ⟨hn1,hrd,hno⟩:=rows_rd hrows.1 (by decide)
   have hone:∀ y∈rows.flatMap id,y.oneCell'=true:=fun y hy=>by
     rw [List.mem_flatMap] at hy
     obtain ⟨row,hrow,hy⟩:=hy
     obtain ⟨i,hi,rfl⟩:=List.getElem_of_mem hrow
     obtain ⟨b',e,_⟩:=hrr i _ _ (List.getElem?_eq_getElem hi) (List.getElem?_eq_getElem (by omega))
     have hy:y∈rows[i]:=hy
     rw [e] at hy
     simp only [List.mem_cons,List.not_mem_nil,or_false] at hy
     subst hy;rfl
   refine e_taC (D:=.pointer 139) rfl rfl rfl (Tryz.zeroValue138 _) (fun h=>absurd h (by decide)) (fun _=>?_)
   (try simp only [go_sem,simprocAttr])
   refine e_taC (D:=.pointer 144) rfl rfl rfl (Tryz.zeroValue142 _) (fun _=>?_) (fun h=>absurd rfl h)
   (try simp only [go_sem,simprocAttr,k2])
   refine e_ap (m:=fs.length) (news:=rows.flatMap id) rfl (OwnS.nil w 82 1) rfl hno hrd hone rfl (by omega) (by omega) ?_
   intro v1 w1 fp1 ho1 hm1 hf1
   have hm1:Mod (fun _=>False) w w1:=hm1.weak (fun y hy=>by cases hy)
   (try simp only [go_sem,simprocAttr])
   refine e_bs (cs:=#[ptr b]) rfl rfl ?_
   intro w2 hb2 hm2 hs2
   have hm02:=hm1.trans hm2
   have hrd2:=rd_block (xs:=[ptr b]) hb2
   (try simp only [go_sem,simprocAttr])
   refine e_ap (m:=1) (news:=[ptr b]) rfl (ho1.mod hm2 (fun _ _ h=>h)) rfl (fun h=>by cases h) hrd2 (one_cons rfl one_nil) rfl (by omega) (by omega) ?_
   intro v3 w3 fp3 ho3 hm3 hf3
   have z02:=hm02.size
   have new1:∀ y,fp1=some y→w.heap.size≤y:=fun y hy=>by
     rcases hf1 y hy with h | ⟨h,_⟩
     · cases h
     · omega
   have hm03:Mod (fun _=>False) w w3:=hm02.step hm3 (fun y hy hl=>by have:=new1 y hy;omega)
   have new3:∀ y,fp3=some y→Out S w3 y:=fun y hy=>by
     have hlt:=ho3.lt hy
     refine ⟨hlt,fun hs=>?_⟩
     have:=hh.lt y hs
     rcases hf3 y hy with h | ⟨h,_⟩
     · have:=new1 y h;omega
     · omega
   have hr1:∀ r∈rows++[[ptr b]],r.length=1:=fun row hrow=>by
     rcases List.mem_append.1 hrow with hrow | hrow
     · obtain ⟨i,hi,rfl⟩:=List.getElem_of_mem hrow
       obtain ⟨b',e,_⟩:=hrr i _ _ (List.getElem?_eq_getElem hi) (List.getElem?_eq_getElem (by omega))
       rw [e];try rfl
     · rw [List.mem_singleton.1 hrow];try rfl
   have ho3':OwnS w3 82 1 v3 ((rows++[[ptr b]]).flatMap id) (rows++[[ptr b]]).length fp3:=by
     have e:(rows++[[ptr b]]).length=0+fs.length+1:=by simp [hrl]
     rw [flat_snoc,e]
     exact ho3
   have hFs:FsAt w3 (Out S w3) bs (fs++[c]) v3:=by
     refine ⟨rows++[[ptr b]],⟨(own_rows ho3' hr1).mod (.refl (fun _=>False) w3) nof (fun y hy=>new3 y hy),by rw [List.length_append];simp;omega⟩,by simp [hrl],fun i row x h1 h2=>?_⟩
     rcases Nat.lt_or_ge i rows.length with hi | hi
     · rw [List.getElem?_append_left hi] at h1
       rw [List.getElem?_append_left (by omega)] at h2
       exact hrr i row x h1 h2
     · rw [List.getElem?_append_right hi] at h1
       rw [List.getElem?_append_right (by omega)] at h2
       have e0:i - rows.length=0:=by
         rcases Nat.eq_zero_or_pos (i - rows.length) with e | e
         · exact e
         · rw [List.getElem?_eq_none (by simp;omega)] at h1;cases h1
       have e1:i - fs.length=0:=by omega
       rw [e0] at h1
       rw [e1] at h2
       simp only [List.getElem?_cons_zero,Option.some.injEq] at h1 h2
       subst h1 h2
       exact ⟨b,rfl,hc⟩
   have hcs3:=hcs.up (mod0 hm03 (S:=S)) out_not (out_up (mod0 hm03))
   have k03:w3.cell? a=some (.string n):=hcs3.c0 (by simp)
   have k13:w3.cell? ⟨a.block,a.off+1,none⟩=some (I l):=hcs3.at (k:=1) (by simp)
   have d3:Mod (fun _=>False) w3 w3.drew:=(Mod.refl _ _).drew
   have hm03d:=hm03.trans d3
   (try simp only [go_sem,simprocAttr,k03,k13])
   refine e_call (by rfl) ?_
   refine (f_grown (S:=S) (bs:=bs) (hv:=fs++[c]) (n:=n) (lacks:=Wr (l - 1)) (fun y hy=>by have:=hh.lt y hy;have:=hm03d.size;omega) (hFs.up (mod0 d3) out_not (out_up (mod0 d3)) (fun _ _ h=>h))).mono ?_
   rintro u5 w5 ⟨hcl,hvv,hm5⟩
   have hm05:=hm03d.trans hm5
   (try simp only [go_sem,simprocAttr,rvs,RV.ev,one?])
   exact ⟨⟨S,bs,h.keep hm05,⟨fun _ h=>h,fun _ h=>.inl h⟩,fun _ _ h=>h,u5,rfl,hcl,hvv⟩,mod0 hm05⟩
end
section
open Go Go.W
theorem bindF_at {l:List ByteArray} {fs:List Nat} {i:Nat} (hi:i < l.length) (v:Nms):bindF (l.drop i) (fs.drop i) v=if h:i < fs.length then bindF (l.drop (i+1)) (fs.drop (i+1)) ((l[i],fs[i])::v) else none:=by
 rw [List.drop_eq_getElem_cons hi]
 split
 · rename_i h;rw [List.drop_eq_getElem_cons h,bindF]
 · rename_i h;rw [List.drop_eq_nil_of_le (show fs.length≤i by omega),bindF]
theorem chooseS_at {m:Rn} {v:Nms} {x:Cl} {l:List Al} {i:Nat} (hi:i < l.length):chooseS m v x (l.drop i) =
   if (l[i].kind == 3||(l[i].kind == 2&&(conOf x).isNone&&l[i].num == numOf x))=true then some (some (.go l[i].body v),m)
   else match conOf x with
     | some k=>if (l[i].kind == 1&&strEq l[i].con k.1)=true then (bindF l[i].vars k.2 v).map (fun v'=>(some (.go l[i].body v'),m)) else chooseS m v x (l.drop (i+1))
     | none=>chooseS m v x (l.drop (i+1)):=by
 rw [List.drop_eq_getElem_cons hi,chooseS];try rfl
theorem alt_row {w:World} {B:Nat→Prop} {v:Value} {l:List Al} (hl:EachAt w v 11 B (AlAt w B) l) {i:Nat} (hi:i < l.length) :
   ∃ ad c vv ec,v = .slice (some ad) l.length c∧CellsAt w B (ad.add (i*11)) (I l[i].kind :: .string l[i].con::I l[i].num::vv::ec)∧EachAt w vv 1 B StrAt l[i].vars∧ExAt w B ec l[i].body∧ec.length=7:=by
 obtain ⟨ad,c,r,e,⟨vv,ec,rfl,hvv,hex⟩,_,hcs⟩:=each_cells hl hi
 exact ⟨ad,c,vv,ec,e,hcs,hvv,hex,hex.len⟩
theorem CellsAt.part {w:World} {B:Nat→Prop} {a:Addr} {cs ds:List Value} {k:Nat} (h:CellsAt w B a cs) (hd:∀ i (hi:i < ds.length),cs[k+i]? = some ds[i]) (hk:k≠0):CellsAt w B ⟨a.block,a.off+k,none⟩ ds:=by
 refine ⟨h.1,fun i hi=>?_⟩
 have h1:=hd i hi
 obtain ⟨hlt,h2⟩:=List.getElem?_eq_some_iff.1 h1
 have h3:=h.2 (k+i) hlt
 rw [h2,add_pos _ (by omega)] at h3
 rw [add_at,Nat.add_assoc]
 exact h3
end
section
open Go Go.W
abbrev listN:ByteArray:=⟨#[76,105,115,116]⟩
def lioS (t:Ty):Bool:=(t.kind == 4&&strEq t.name listN)&&(match t.args with | a::_=>a.kind == 1 | []=>false)
theorem f_listOfInt (t:Ty) {w:World} {B:Nat→Prop} {cs:List Value} (h:TyAt w B cs t) (ha:t.kind=4→t.name=listN→0 < t.args.length) :
   CallsR Tryz.prog 33 [.agg cs.toArray] w fun r w'=>r = .bool (lioS t)∧Mod (fun _=>False) w w':=by
 obtain ⟨v,rfl,hl⟩:=h.cells
 obtain ⟨a,c,rfl⟩:=each_sl hl
 refine fit33.calls rfl ?_
 unfold ir33
 (try simp only [go_sem,simprocAttr])
 refine e_bx rfl ?_
 intro w1 hb1 hm1 hs1
 (try simp only [go_sem,simprocAttr,cell_of hb1,Value.cells])
 cases h1:t.kind == 4 with
 | false=>
   (try simp only [go_sem,simprocAttr,rvs,RV.ev,one?])
   exact ⟨congrArg _ (by rw [lioS,h1];try rfl),hm1⟩
 | true=>
   (try simp only [go_sem,simprocAttr,cell_of hb1,Value.cells])
   cases h2:strEq t.name listN with
   | false=>
     have h2':=h2
     rw [strEq] at h2'
     (try simp only [go_sem,simprocAttr,h2',rvs,RV.ev,one?])
     exact ⟨congrArg _ (by rw [lioS,h1,h2];try rfl),hm1⟩
   | true=>
     have h2':=h2
     rw [strEq] at h2'
     have hlt:=ha (by simpa using h1) (by have:=h2;rw [strEq_iff] at this;simpa using this)
     obtain ⟨ad,c2,r,e,hr,hl3,hcs⟩:=each_cells (hl.mod hm1 nof (fun _ _ h=>h.mod hm1 nof)) hlt
     obtain ⟨rfl,-,-⟩:=tup_inj e
     obtain ⟨vu,rfl,_⟩:=hr.cells
     rw [Nat.zero_mul,add_zero'] at hcs
     have k0:w1.cell? ad=some (I t.args[0].kind):=hcs.c0 (by simp)
     have b1:(0:Int)≤0∧(0:Int) < t.args.length:=by omega
     have hk:(match t.args with | a::_=>a.kind == 1 | []=>false)=(t.args[0].kind == 1):=by
       cases t with
       | mk k n l=>cases l with
         | nil=>simp [Ty.args] at hlt
         | cons x l=>rfl
     (try simp only [go_sem,simprocAttr,h2',cell_of hb1,Value.cells])
     (try simp only [go_sem,simprocAttr,zb4,zb6,b1,Nat.zero_mul,k0,rvs,RV.ev,one?])
     exact ⟨congrArg _ (by rw [lioS,h1,h2,hk];try rfl),hm1⟩
end
section
open Go Go.W
theorem app_get {bs:List Nat} {b:Nat}:∀ (c d:Nat),bs[c]? = some d→(bs++[b])[c]? = some d:=fun c d h=>by
 rw [List.getElem?_append_left (List.getElem?_eq_some_iff.1 h).1];exact h
theorem RnAt.new {w0 w:World} {S:Nat→Prop} {r md mf b:Nat} {bs:List Nat} {X:Cx} {m:Rn} {x:Cl} {v:Value} (h:RnAt w0 S r md mf bs X m) (hm:Mod (fun _=>False) w0 w) (hb:w.heap[b]? = some (.cells [v].toArray tCell (0,0))) (hnew:w0.heap.size≤b) (hv:ClAt w (Out (And1 S b) w) (bs++[b]) x v) :
   RnAt w (And1 S b) r md mf (bs++[b]) X (m.new x):=by
 obtain ⟨vt,vf,trows,frows,tfp,ffp,h⟩:=h
 obtain ⟨n1,n2,n3,n4,n5,n6,n7,n8,n9⟩:=h.ne
 have hmS:Mod S w0 w:=mod0 hm
 have hout:=out_ext hmS (and1_new (S:=S) hnew)
 have ltl:∀ y∈rnList r md mf bs tfp ffp,y < w0.heap.size:=fun y hy=>h.lt y (h.inS y hy)
 have hlb:=lt_of_heap hb
 refine ⟨vt,vf,trows,frows,tfp,ffp,hm.at h.box _root_.id,h.told.mod hm (fun _ _ h=>h),h.items,h.frms.mod hm (fun _ _ h=>h),h.frames.imp (fun _ _ x=>x.up hmS out_not hout app_get),?_,?_,?_,?_,?_,
   h.defs.mod hm _root_.id (fun _ _ x=>by obtain ⟨y,e,h⟩:=x;exact ⟨y,e,app_get _ _ h⟩),h.fields.mod hm _root_.id (fun _ _ x=>x),h.steps,fun p hp=>by
     obtain ⟨a1,a2,a3⟩:=h.kept p hp
     have a4:=lt_of_heap a1
     simp only [rnList,List.mem_cons,List.mem_append,Option.mem_toList,not_or] at a3 ⊢
     obtain ⟨c1,c2,c3,⟨c4,c5⟩,c6⟩:=a3
     exact ⟨hm.at a1 _root_.id,.inl a2,c1,c2,c3,⟨c4,c5⟩,c6,fun e=>by omega,by simp⟩⟩
 · refine rn_nodup ?_ ⟨n1,n2,n3⟩ n4 n5 (fun y hy=>?_) n7 (fun a ha hmem=>?_) (fun a ha hmem=>?_)
   · rw [List.nodup_append]
     exact ⟨h.bsn,by simp,fun a ha c hc e=>by
       rw [List.mem_singleton.1 hc] at e
       have:=ltl a (by simp [ha]);omega⟩
   · rcases List.mem_append.1 hy with hy | hy
     · exact n6 y hy
     · rw [List.mem_singleton.1 hy]
       have:=ltl r (by simp);have:=ltl md (by simp);have:=ltl mf (by simp)
       exact ⟨by omega,by omega,by omega⟩
   · rcases List.mem_append.1 hmem with hy | hy
     · exact n8 a ha hy
     · have:=ltl a (by simp [ha]);have:=List.mem_singleton.1 hy;omega
   · rcases List.mem_append.1 hmem with hy | hy
     · exact n9 a ha hy
     · have:=ltl a (by simp [ha]);have:=List.mem_singleton.1 hy;omega
 · intro y hy
   simp only [rnList,List.mem_cons,List.mem_append,Option.mem_toList,List.not_mem_nil,or_false] at hy
   rcases hy with rfl | rfl | rfl | (h1 | h1) | (h1 | h1)
   · exact .inl (h.inS _ (by simp))
   · exact .inl (h.inS _ (by simp))
   · exact .inl (h.inS _ (by simp))
   · exact .inl (h.inS _ (by simp [h1]))
   · exact .inl (h.inS _ (by simp [h1]))
   · exact .inl (h.inS _ (by simp [h1]))
   · exact .inr h1
 · intro y hy
   rcases hy with h1 | h1
   · exact Nat.lt_of_lt_of_le (h.lt y h1) hm.size
   · omega
 · show (bs++[b]).length=(m.cells++[x]).length
   rw [List.length_append,List.length_append,h.len];try rfl
 · intro i y z hi hz
   have hz:(m.cells++[x])[i]? = some z:=hz
   rcases Nat.lt_or_ge i bs.length with hlt | hge
   · rw [List.getElem?_append_left hlt] at hi
     rw [List.getElem?_append_left (by rw [← h.len];exact hlt)] at hz
     obtain ⟨u,h1,h2⟩:=h.cell i y z hi hz
     exact ⟨u,hm.at h1 _root_.id,h2.up hmS out_not hout app_get⟩
   · rw [List.getElem?_append_right hge] at hi
     rw [List.getElem?_append_right (by rw [← h.len];exact hge)] at hz
     have e0:i - bs.length=0:=by
       rcases Nat.eq_zero_or_pos (i - bs.length) with e | e
       · exact e
       · rw [List.getElem?_eq_none (by simp;omega)] at hi;cases hi
     rw [e0] at hi
     rw [← h.len,e0] at hz
     simp only [List.getElem?_cons_zero,Option.some.injEq] at hi hz
     subst hi hz
     exact ⟨v,hb,hv⟩
end
section
open Go Go.W
theorem NmAt.one {w:World} {B:Nat→Prop} {bs:List Nat} {nm:Nms} {v:Value} (h:NmAt w B bs nm v):Go.W.One v:=by
 cases nm with
 | nil=>cases h;rfl
 | cons p l=>obtain ⟨_,_,_,rfl,_⟩:=h;rfl
theorem f_chooseR {w:World} {S:Nat→Prop} {r md mf:Nat} {bs:List Nat} {X:Cx} {m:Rn} {e:Ex} {nm:Nms} {x:Cl} {u:Value} {cs:List Value} {res:R3} (h:RnAt w S r md mf bs X m) (hf:EvAt w (Out S w) bs 2 e nm cs) (hu:ClAt w (Out S w) bs x u) (hv:x.isV=true) (hres:chooseS m nm x e.alts=some res) :
   CallsR Tryz.prog 74 [ptr r,.agg cs.toArray,u] w fun v w'=>RetAt w w' S r md mf bs X v res∧Mod S w w':=by
 obtain ⟨ve,vn,rfl,⟨ae,ecs,rfl,hecs,hex⟩,hn⟩:=hf
 obtain ⟨vt,va,vb,vl,rfl,ht,ha,hb,hl⟩:=hex.parts
 obtain ⟨al,cl,rfl⟩:=each_sl hl
 have hll:=each_len hl
 have hS:=h
 obtain ⟨_,_,_,_,_,_,hh⟩:=hS
 have Sr:∀ y,y=r→S y:=fun y hy=>by rw [hy];exact hh.inS _ (by simp)
 obtain ⟨T,z,rfl,_⟩:=cl_iface hu hv
 refine fit74.calls rfl ?_
 unfold ir74
 refine ir_cut (fun ρ w1=>ρ=[(0,ptr r),(2,.iface T z),(4,ptr w.heap.size)]∧w1.heap[w.heap.size]? = some (.cells [I 2,.pointer none,.pointer (some ae),vn,I 0].toArray 136 (0,0))∧Mod (fun _=>False) w w1) ?_ ?_
 · (try simp only [go_sem,simprocAttr])
   refine e_bx rfl ?_
   intro w1 hb1 hm1 hs1
   (try simp only [go_sem,simprocAttr])
   exact ⟨hb1,hm1⟩
 rintro _ w1 ⟨rfl,hb1,hm1⟩
 refine ir_cut (fun ρ w'=>w1=w'∧∃ t10,ρ=[(0,ptr r),(2,.iface T z),(4,ptr w.heap.size),(10,t10),(11,.bool (conOf x).isSome)]∧∀ k,conOf x=some k→∃ a vs,t10 = .pointer (some a)∧CellsAt w (Out S w) a [.string k.1,vs]∧FsAt w (Out S w) bs k.2 vs) ?_ ?_
 · (try simp only [go_sem,simprocAttr])
   refine e_taC (D:=.pointer 114) rfl rfl rfl (Tryz.zeroValue111 _) (fun hT=>?_) (fun hT=>?_)
   · (try simp only [go_sem,simprocAttr])
     refine ⟨z,?_,?_⟩
     · cases x with
       | con k fs=>rfl
       | num n=>cases hu;cases hT
       | lam e' nm'=>obtain ⟨a,_,_,e,_⟩:=hu;cases e;cases hT
       | par n l fs=>obtain ⟨a,_,e,_⟩:=hu;cases e;cases hT
       | wait e' nm'=>cases hv
       | busy=>cases hv
       | emp=>cases hv
     · intro k hk
       cases x with
       | con k' fs=>cases hk;obtain ⟨a,vs,e,h1,h2⟩:=hu;cases e;exact ⟨a,vs,rfl,h1,h2⟩
       | _=>cases hk
   · (try simp only [go_sem,simprocAttr])
     have hnone:conOf x=none:=by
       cases x with
       | con k fs=>obtain ⟨a,_,e,_⟩:=hu;cases e;exact absurd rfl hT
       | _=>rfl
     rw [hnone]
     exact ⟨_,rfl,fun k hk=>by cases hk⟩
 rintro _ _ ⟨rfl,t10,rfl,h10⟩
 refine ir_cut (fun ρ w'=>w1=w'∧ρ=[(0,ptr r),(4,ptr w.heap.size),(10,t10),(11,.bool (conOf x).isSome),(12,I (numOf x))]) ?_ ?_
 · (try simp only [go_sem,simprocAttr])
   refine e_taC (D:=.int .i64) rfl rfl rfl (Tryz.zeroValue115 _) (fun hT=>?_) (fun hT=>?_)
   · (try simp only [go_sem,simprocAttr])
     cases x with
     | num n=>cases hu;rfl
     | con k fs=>obtain ⟨a,_,e,_⟩:=hu;cases e;cases hT
     | lam e' nm'=>obtain ⟨a,_,_,e,_⟩:=hu;cases e;cases hT
     | par n l fs=>obtain ⟨a,_,e,_⟩:=hu;cases e;cases hT
     | wait e' nm'=>cases hv
     | busy=>cases hv
     | emp=>cases hv
   · (try simp only [go_sem,simprocAttr])
     cases x with
     | num n=>cases hu;exact absurd rfl hT
     | _=>rfl
 rintro _ _ ⟨rfl,rfl⟩
 have k2:w1.cell? ⟨w.heap.size,2,none⟩=some (.pointer (some ae)):=by rw [cell_of hb1];try rfl
 have k3:w1.cell? ⟨w.heap.size,3,none⟩=some vn:=by rw [cell_of hb1];try rfl
 have hecs1:=hecs.up (mod0 hm1 (S:=S)) out_not (out_up (mod0 hm1))
 have k6:w1.cell? ⟨ae.block,ae.off+6,none⟩=some (.slice al e.alts.length cl):=hecs1.at (k:=6) (by simp)
 (try simp only [go_sem,simprocAttr,k2,k6])
 refine ir_loop (fun z' ρ w'=>Mod (fun _=>False) w1 w'∧∃ i:Nat,z'=e.alts.length - i∧i≤e.alts.length∧chooseS m nm x (e.alts.drop i)=some res ∧
   ρ=[(0,ptr r),(4,ptr w.heap.size),(10,t10),(11,.bool (conOf x).isSome),(12,I (numOf x)),(34,I e.alts.length),(35,I i)]) e.alts.length ⟨.refl _ _,0,by omega,by omega,hres,rfl⟩ ?_
 rintro z' _ w2 ⟨hm2,i,rfl,hi,hres,rfl⟩
 have hm02:Mod (fun _=>False) w w2:=hm1.trans hm2
 unfold ir74L2
 by_cases q:i < e.alts.length
 · have b1:decide ((i:Int) < e.alts.length)=true:=by simpa using q
   have k2:w2.cell? ⟨w.heap.size,2,none⟩=some (.pointer (some ae)):=by rw [cell_of (hm2.at hb1 _root_.id)];try rfl
   have k3:w2.cell? ⟨w.heap.size,3,none⟩=some vn:=by rw [cell_of (hm2.at hb1 _root_.id)];try rfl
   have up2:=hecs.up (mod0 hm02 (S:=S)) out_not (out_up (mod0 hm02))
   have k6:w2.cell? ⟨ae.block,ae.off+6,none⟩=some (.slice al e.alts.length cl):=up2.at (k:=6) (by simp)
   have hl2:=hl.up (mod0 hm02 (S:=S)) out_not (out_up (mod0 hm02)) (fun _ _ h=>h.up (mod0 hm02 (S:=S)) out_not (out_up (mod0 hm02)))
   obtain ⟨ad,c,vv,ec,e1,hcs,hvv,hbx,hec⟩:=alt_row hl2 q
   obtain ⟨rfl,-,-⟩:=tup_inj e1
   have hat:=chooseS_at (m:=m) (v:=nm) (x:=x) q
   have p1:(0:Int)≤i∧(i:Int) < e.alts.length:=by omega
   have n0:w2.cell? (ad.add (i*11))=some (I e.alts[i].kind):=hcs.c0 (by simp)
   have n1:w2.cell? ⟨(ad.add (i*11)).block,(ad.add (i*11)).off+1,none⟩=some (.string e.alts[i].con):=hcs.at (k:=1) (by simp)
   have n2:w2.cell? ⟨(ad.add (i*11)).block,(ad.add (i*11)).off+2,none⟩=some (I e.alts[i].num):=hcs.at (k:=2) (by simp)
   have n3:w2.cell? ⟨(ad.add (i*11)).block,(ad.add (i*11)).off+3,none⟩=some vv:=hcs.at (k:=3) (by simp)
   have hone:=hn.one
   have body:EPtr w2 (Out S w2) (.pointer (some ⟨(ad.add (i*11)).block,(ad.add (i*11)).off+4,none⟩)) e.alts[i].body:=⟨_,ec,rfl,hcs.part (fun j hj=>by rw [show 4+j=j+1+1+1+1 by omega];simp only [List.getElem?_cons_succ];exact List.getElem?_eq_getElem hj) (by decide),hbx⟩
   have hR2:=h.keep hm02
   have hn2:=hn.up (mod0 hm02 (S:=S)) out_not (out_up (mod0 hm02)) (fun _ _ h=>h)
   have here:chooseS m nm x (e.alts.drop i)=some (some (.go e.alts[i].body nm),m)→RetAt w w2.drew S r md mf bs X (.tuple #[.pointer (some ⟨(ad.add (i*11)).block,(ad.add (i*11)).off+4,none⟩),vn,.nilIface,.bool true]) res∧Mod S w w2.drew:=fun hc=>by
     rw [hc] at hres
     cases hres
     have d2:Mod (fun _=>False) w2 w2.drew:=(Mod.refl _ _).drew
     exact ⟨⟨S,bs,hR2.keep d2,⟨fun _ h=>h,fun _ h=>.inl h⟩,fun _ _ h=>h,_,_,rfl,body.up (mod0 d2 (S:=S)) out_not (out_up (mod0 d2)),hn2.up (mod0 d2 (S:=S)) out_not (out_up (mod0 d2)) (fun _ _ h=>h)⟩,mod0 (hm02.trans d2)⟩
   (try simp only [go_sem,simprocAttr,b1,k2,k6])
   (try simp only [go_sem,simprocAttr,zb4,zb6,p1,n0])
   refine ir_then (fun ρ w'=>w2=w'∧ρ=[(0,ptr r),(4,ptr w.heap.size),(10,t10),(11,.bool (conOf x).isSome),(12,I (numOf x)),(15,.pointer (some (ad.add (i*11)))),(34,I e.alts.length),(35,I i),(45,.bool (e.alts[i].kind == 3||(e.alts[i].kind == 2&&(conOf x).isNone&&e.alts[i].num == numOf x)))]) ?_ ?_
   · cases h3:e.alts[i].kind == 3 with
     | true=>(try simp only [go_sem,simprocAttr,Bool.true_or])
     | false=>
       cases h2:e.alts[i].kind == 2 with
       | false=>(try simp only [go_sem,simprocAttr,n0,h2,Bool.false_or,Bool.false_and])
       | true=>
         cases hx:conOf x with
         | some k=>(try simp only [go_sem,simprocAttr,n0,h2,hx,Option.isSome_some,Option.isNone_some,Bool.false_or,Bool.and_false,Bool.false_and,Bool.not_true])
         | none=>(try simp only [go_sem,simprocAttr,n0,n2,h2,hx,Option.isSome_none,Option.isNone_none,Bool.false_or,Bool.not_false])
   rintro _ _ ⟨rfl,rfl⟩
   cases hc:(e.alts[i].kind == 3||(e.alts[i].kind == 2&&(conOf x).isNone&&e.alts[i].num == numOf x)) with
   | true=>
     rw [if_pos hc] at hat
     (try simp only [go_sem,simprocAttr,k3,rvs,RV.ev,one?])
     exact here hat
   | false=>
     rw [if_neg (by rw [hc];simp)] at hat
     have next:chooseS m nm x (e.alts.drop i)=chooseS m nm x (e.alts.drop (i+1))→∃ y:Nat,y < e.alts.length - i∧Mod (fun _=>False) w1 w2.drew∧∃ i':Nat,y=e.alts.length - i'∧i'≤e.alts.length∧chooseS m nm x (e.alts.drop i')=some res ∧
         [(0,ptr r),(4,ptr w.heap.size),(10,t10),(11,Value.bool (conOf x).isSome),(12,I (numOf x)),(34,I e.alts.length),(35,I (IntKind.i64.wrap ((i:Int)+1)))]=[(0,ptr r),(4,ptr w.heap.size),(10,t10),(11,.bool (conOf x).isSome),(12,I (numOf x)),(34,I e.alts.length),(35,I i')]:=fun hn=>by
       have e3:IntKind.i64.wrap ((i:Int)+1)=((i+1:Nat):Int):=by rw [wrap_in (by omega) (by omega)];omega
       exact ⟨_,by omega,hm2.drew,i+1,rfl,q,by rw [← hn];exact hres,by rw [e3]⟩
     (try simp only [go_sem,simprocAttr,n0])
     cases h1:e.alts[i].kind == 1 with
     | false=>
       have hn:chooseS m nm x (e.alts.drop i)=chooseS m nm x (e.alts.drop (i+1)):=by
         rw [hat,h1];cases conOf x<;>rfl
       (try simp only [go_sem,simprocAttr])
       exact next hn
     | true=>
       cases hx:conOf x with
       | none=>
         have hn:chooseS m nm x (e.alts.drop i)=chooseS m nm x (e.alts.drop (i+1)):=by rw [hat,hx]
         (try simp only [go_sem,simprocAttr,hx,Option.isSome_none])
         have:=next hn
         rw [hx] at this
         exact this
       | some k=>
         obtain ⟨a,vs,rfl,hac,hfs⟩:=h10 k hx
         have acu:=hac.up (mod0 hm02 (S:=S)) out_not (out_up (mod0 hm02))
         have a0:w2.cell? a=some (.string k.1):=acu.c0 (by simp)
         rw [hx] at hat
         cases hs:strEq e.alts[i].con k.1 with
         | false=>
           have hn:chooseS m nm x (e.alts.drop i)=chooseS m nm x (e.alts.drop (i+1)):=by
             rw [hat];simp only [hs,Bool.and_false,Bool.false_eq_true,if_false]
           have hs':=hs
           rw [strEq] at hs'
           (try simp only [go_sem,simprocAttr,hx,Option.isSome_some,n1,a0,hs'])
           have:=next hn
           rw [hx] at this
           exact this
         | true=>
           have hs':=hs
           rw [strEq] at hs'
           obtain ⟨av,cv,rfl⟩:=each_sl hvv
           have hlv:=each_len hvv
           have hat:chooseS m nm x (e.alts.drop i)=(bindF e.alts[i].vars k.2 nm).map (fun v'=>(some (.go e.alts[i].body v'),m)):=by
             rw [hat];simp only [h1,hs,Bool.and_self,if_true]
           rw [hat] at hres
           obtain ⟨nmF,hbF,rfl⟩:=Option.map_eq_some_iff.1 hres
           have d2:Mod (fun _=>False) w2 w2.drew:=(Mod.refl _ _).drew
           (try simp only [go_sem,simprocAttr,hx,Option.isSome_some,n1,n3,k3,a0,hs'])
           refine ir_loop (fun z' ρ w'=>Mod (fun _=>False) w2 w'∧∃ (j:Nat) (nm':Nms) (v':Value),z'=e.alts[i].vars.length - j∧j≤e.alts[i].vars.length∧NmAt w' (Out S w') bs nm' v'∧bindF (e.alts[i].vars.drop j) (k.2.drop j) nm'=some nmF ∧
             ρ=[(10,.pointer (some a)),(15,.pointer (some (ad.add (i*11)))),(16,v'),(98,.slice av e.alts[i].vars.length cv),(99,I e.alts[i].vars.length),(100,I j)]) e.alts[i].vars.length ⟨d2,0,nm,vn,by omega,by omega,hn2.up (mod0 d2 (S:=S)) out_not (out_up (mod0 d2)) (fun _ _ h=>h),hbF,rfl⟩ ?_
           rintro z'' _ w3 ⟨hm3,j,nm',v',rfl,hj,hn3,hbj,rfl⟩
           have hm03:Mod (fun _=>False) w w3:=hm02.trans hm3
           unfold ir74L1
           by_cases qj:j < e.alts[i].vars.length
           · have b2:decide ((j:Int) < e.alts[i].vars.length)=true:=by simpa using qj
             rw [bindF_at qj] at hbj
             have hjf:j < k.2.length:=by
               apply Classical.byContradiction
               intro hn;rw [dif_neg hn] at hbj;cases hbj
             rw [dif_pos hjf] at hbj
             have hv3:=hvv.up (mod0 hm3 (S:=S)) out_not (out_up (mod0 hm3)) (fun _ _ h=>h)
             have hf3:=hfs.up (mod0 hm03 (S:=S)) out_not (out_up (mod0 hm03)) (fun _ _ h=>h)
             have ac3:=hac.up (mod0 hm03 (S:=S)) out_not (out_up (mod0 hm03))
             obtain ⟨ad1,c1,e1,_,hcv⟩:=str_at hv3 qj
             obtain ⟨rfl,-,-⟩:=tup_inj e1
             obtain ⟨ad2,c2,r2,rfl,⟨b,rfl,hbb⟩,_,hcf⟩:=each_cells hf3 hjf
             have f0:w3.cell? (ad2.add j)=some (ptr b):=by have:=hcf.c0 (by simp);rwa [Nat.mul_one] at this
             have a1:w3.cell? ⟨a.block,a.off+1,none⟩=some (.slice (some ad2) k.2.length c2):=ac3.at (k:=1) (by simp)
             have p2:(0:Int)≤j∧(j:Int) < e.alts[i].vars.length:=by omega
             have p3:(0:Int)≤j∧(j:Int) < k.2.length:=by omega
             have hone3:=hn3.one
             (try simp only [go_sem,simprocAttr,b2])
             (try simp only [go_sem,simprocAttr,zb4,zb6,p2,hcv,a1,p3,f0,hone3])
             refine e_bx rfl ?_
             intro w4 hb4 hm4 hs4
             have e3:IntKind.i64.wrap ((j:Int)+1)=((j+1:Nat):Int):=by rw [wrap_in (by omega) (by omega)];omega
             (try simp only [go_sem,simprocAttr,e3])
             refine ⟨_,by omega,hm3.trans hm4,j+1,_,_,rfl,qj,?_,hbj,rfl⟩
             refine ⟨_,b,v',rfl,hbb,nd_new (cs:=[.string e.alts[i].vars[j],ptr b,v']) hb4 (fun hx=>by have:=hh.lt _ hx;have:=hm03.size;omega),hn3.up (mod0 hm4 (S:=S)) out_not (out_up (mod0 hm4)) (fun _ _ h=>h)⟩
           · have b2:decide ((j:Int) < e.alts[i].vars.length)=false:=by simpa using qj
             rw [List.drop_eq_nil_of_le (by omega),bindF] at hbj
             cases hbj
             (try simp only [go_sem,simprocAttr,b2,rvs,RV.ev,one?])
             have up3:=body.up (mod0 hm3 (S:=S)) out_not (out_up (mod0 hm3))
             exact ⟨⟨S,bs,h.keep hm03,⟨fun _ h=>h,fun _ h=>.inl h⟩,fun _ _ h=>h,_,_,rfl,up3,hn3⟩,mod0 hm03⟩
 · have b1:decide ((i:Int) < e.alts.length)=false:=by simpa using q
   rw [List.drop_eq_nil_of_le (by omega),chooseS] at hres
   cases hres
   (try simp only [go_sem,simprocAttr,b1])
   refine e_call (by rfl) ?_
   refine (f_stuck (h.keep hm02)).mono ?_
   rintro _ w3 ⟨hR,hm3⟩
   (try simp only [go_sem,simprocAttr,rvs,RV.ev,one?])
   have hmm:Mod S w w3:=(mod0 hm02).trans (hm3.weak Sr)
   exact ⟨⟨S,bs,hR,⟨fun _ h=>h,fun _ h=>.inl h⟩,fun _ _ h=>h,rfl⟩,hmm⟩
end
section
open Go Go.W
theorem MdAt.tup {w:World} {B:Nat→Prop} {bs:List Nat} {v:Value} {x:Option Md} (h:MdAt w B bs v x):∃ a b c d,v = .tuple #[a,b,c,d]:=by
 match x,h with
 | some (.go e nm),⟨ve,vn,e1,_⟩=>exact ⟨_,_,_,_,e1⟩
 | some (.val x),⟨u,e1,_⟩=>exact ⟨_,_,_,_,e1⟩
 | none,e1=>exact ⟨_,_,_,_,e1⟩
theorem RetAt.tup {w w':World} {S:Nat→Prop} {r md mf:Nat} {bs:List Nat} {X:Cx} {v:Value} {x:R3} (h:RetAt w w' S r md mf bs X v x):∃ a b c d,v = .tuple #[a,b,c,d]:=by
 obtain ⟨S',bs',_,_,_,h⟩:=h;exact h.tup
theorem e_lkP {P:Program} {w:World} {ρ:Go.W.Env} {K:Value→World→Prop} {α:Type} {R:Value→α→Prop} {l:List (ByteArray×α)} {a:α} {t kt et:TypeId} {m x:Operand} {b:Nat} {k:ByteArray} {z:Value} {d:Option Nat} {ty:TypeId} {pos:String} {af:Array Edge} (hm:(toO m).ev ρ=some (.map (some b))) (hx:(toO x).ev ρ=some (.string k)) (ht:P.underlying t=some (.map kt et)) (hkt:P.underlying kt=some .string)
   (hz:(zeroValue et).run P w = .ok z w) (h:MapR w b R l) (ha:aget l k=some a) (hk:∀ v,R v a→K v w):Go.W.E.wp P w ρ K (.raw ⟨d,.lookup t m x false,ty,pos,af,none⟩):=by
 obtain ⟨lv,hv,hp⟩:=h
 refine e_l1V hm hx ht hkt hz hv ?_
 rcases hp.get k with ⟨e1,e2⟩ | ⟨v,a',e1,e2,hr⟩
 · rw [ha] at e2;cases e2
 · rw [ha] at e2;cases e2
   rw [e1];exact hk _ hr
section
variable {w w':World} {S S':Nat→Prop} {r md mf:Nat} {bs:List Nat} {X:Cx} {m:Rn} {x:Option Md} {v:Value}
theorem ret_keep (h:RnAt w S r md mf bs X m) (hm:Mod (fun _=>False) w w') (hmd:MdAt w' (Out S w') bs v x):RetAt w w' S r md mf bs X v (x,m)∧Mod S w w':=
 ⟨⟨S,bs,h.keep hm,⟨fun _ h=>h,fun _ h=>.inl h⟩,fun _ _ h=>h,hmd⟩,mod0 hm⟩
theorem ret_grew (h:RnAt w' S' r md mf bs X m) (hg:Grew S S' w) (hm:Mod S w w') (hmd:MdAt w' (Out S' w') bs v x):RetAt w w' S r md mf bs X v (x,m)∧Mod S w w':=
 ⟨⟨S',bs,h,hg,fun _ _ h=>h,hmd⟩,hm⟩
theorem grew_refl:Grew S S w:=⟨fun _ h=>h,fun _ h=>.inl h⟩
end
theorem arg_ptr {w:World} {B:Nat→Prop} {v:Value} {l:List Ex} (h:EachAt w v 7 B (ExAt w B) l) {i:Nat} (hi:i < l.length):∃ ad c,v = .slice (some ad) l.length c∧EPtr w B (.pointer (some (ad.add (i*7)))) l[i]:=by
 obtain ⟨ad,c,r,e,hx,_,hcs⟩:=each_cells h hi
 exact ⟨ad,c,e,_,r,rfl,hcs,hx⟩
theorem bind_ptr {w:World} {B:Nat→Prop} {v:Value} {l:List Bd} (h:EachAt w v 11 B (BdAt w B) l) {i:Nat} (hi:i < l.length):∃ ad c,v = .slice (some ad) l.length c∧w.cell? (ad.add (i*11))=some (.string l[i].name)∧(ad.add (i*11)).block < w.heap.size∧EPtr w B (.pointer (some ⟨(ad.add (i*11)).block,(ad.add (i*11)).off+4,none⟩)) l[i].value:=by
 obtain ⟨ad,c,r,e,⟨tc,ec,rfl,hrt,hre,_⟩,_,hcs⟩:=each_cells h hi
 have k0:=hcs.c0 (by simp)
 refine ⟨ad,c,e,k0,cell_lt k0,_,ec,rfl,hcs.part (fun j hj=>?_) (by decide),hre⟩
 have hl:=hrt.len
 rw [show 4+j=(j+3)+1 by omega,List.getElem?_cons_succ,List.getElem?_append_right (by omega),hl,Nat.add_sub_cancel]
 exact List.getElem?_eq_getElem hj
def Ch (w:World) (B:Nat→Prop) (bs:List Nat) (lo:Nat) (vn:Value) (l:List Bd) (n:Nat):Nat→Value→Prop
 | 0,v=>v=vn
 | k+1,v=>∃ a b nx s,v = .pointer (some a)∧lo≤a.block∧NdAt w B a [.string s,ptr b,nx]∧bs[n+k]? = some b∧l[k]?.map Bd.name=some s∧Ch w B bs lo vn l n k nx
theorem Ch.up {w w':World} {B B' S:Nat→Prop} {bs bs':List Nat} {lo:Nat} {vn:Value} {l:List Bd} {n:Nat}:∀ {k:Nat} {v:Value},Ch w B bs lo vn l n k v→Mod S w w'→(∀ b,B b→¬ S b)→(∀ b,B b→B' b)→(∀ (c b:Nat),bs[c]? = some b→bs'[c]? = some b)→Ch w' B' bs' lo vn l n k v
 | 0,v,h,_,_,_,_=>h
 | k+1,v,h,hm,hd,hB,hb=>by
   obtain ⟨a,b,nx,s,e,h0,h1,h2,h3,h4⟩:=h
   exact ⟨a,b,nx,s,e,h0,h1.up hm hd hB,hb _ _ h2,h3,Ch.up h4 hm hd hB hb⟩
theorem letN_snoc:∀ (l:List Bd) (b:Bd) (i:Nat) (v:Nms),letN (l++[b]) i v=(b.name,i+l.length)::letN l i v
 | [],b,i,v=>rfl
 | c::l,b,i,v=>by
   rw [List.cons_append,letN,letN_snoc l b (i+1),letN]
   simp only [List.length_cons]
   rw [show i+1+l.length=i+(l.length+1) by omega]
theorem Ch.nm {w:World} {B:Nat→Prop} {bs:List Nat} {lo:Nat} {vn:Value} {l:List Bd} {n:Nat} {nm:Nms} (hn:NmAt w B bs nm vn):∀ {k:Nat} {v:Value},Ch w B bs lo vn l n k v→k≤l.length→NmAt w B bs (letN (l.take k) n nm) v
 | 0,v,h,_=>by
   have h:v=vn:=h
   rw [h];exact hn
 | k+1,v,h,hk=>by
   obtain ⟨a,b,nx,s,e,h0,h1,h2,h3,h4⟩:=h
   have hlt:k < l.length:=by omega
   have e1:l[k].name=s:=by
     rw [List.getElem?_eq_getElem hlt] at h3
     simpa using h3
   rw [List.take_succ_eq_append_getElem hlt,letN_snoc,List.length_take,Nat.min_eq_left (by omega),e1]
   exact ⟨a,b,nx,e,h2,h1,Ch.nm hn h4 (by omega)⟩
def Rn.emps (m:Rn) (k:Nat) (l:List Cl):Rn:={ m with cells:=m.cells++(List.replicate k .emp++l)}
theorem emps_zero (m:Rn):m.emps 0 []=m:=by unfold Rn.emps;simp
theorem emps_new (m:Rn) (k:Nat):(m.emps k []).new .emp=m.emps (k+1) []:=by
 unfold Rn.emps Rn.new
 simp [List.replicate_succ']
theorem emps_put (m:Rn) (k:Nat) (l:List Cl) (x:Cl):(m.emps (k+1) l).put (m.cells.length+k) x=m.emps k (x::l):=by
 unfold Rn.emps Rn.put
 simp [List.replicate_succ',List.set_append]
theorem e_neP {P:Program} {w:World} {ρ:Go.W.Env} {K:Value→World→Prop} {t te:TypeId} {j:TypeInfo} {x y:Operand} {u v:Option Addr} {d:Option Nat} {ty:TypeId} {pos:String} {c:TypeId} {af:Array Edge} (hx:(toO x).ev ρ=some (.pointer u)) (hy:(toO y).ev ρ=some (.pointer v)) (hp:P.underlying t=some (.pointer te)) (hj:P.info? te=some j) (hsz:j.size≠0)
   (hu:∀ a,u=some a→Pl w a.block) (hv:∀ a,v=some a→Pl w a.block) {q:Bool} (hq:(!decide (u=v))=q) (hk:K (.bool q) w):Go.W.E.wp P w ρ K (.raw ⟨d,.binOp .neq t x y c,ty,pos,af,none⟩):=by
 have he:(Op.equal t (.pointer u) (.pointer v)).run P w = .ok (decide (u=v)) w:=by
   unfold Op.equal Op.maxDepth Op.equalIn
   cases u with
   | none=>cases v<;>simp [run_underlying hp]
   | some a=>
     cases v with
     | none=>simp [run_underlying hp]
     | some b=>
       by_cases hab:a=b
       · subst hab;simp [run_underlying hp,sizeOf,typeInfo,hj,hsz,run_sameAddr_same]
       · obtain ⟨ca,ta,ha⟩:=hu a rfl
         obtain ⟨cb,tb,hb⟩:=hv b rfl
         simp [run_underlying hp,sizeOf,typeInfo,hj,hsz,run_sameAddr_other w hab ha hb,hab]
 rw [← hq] at hk
 refine opWp_of_run fun act ha=>⟨_,w,?_,hk⟩
 simp only [execOp,ha x _ hx,ha y _ hy]
 have hg:(eqGuard .neq t x y (.pointer u) (.pointer v)).run P w = .ok () w:=rfl
 simp only [Sem.run_bind,hg,Result.andThen_ok]
 simp only [binOp,Sem.run_bind,he,Result.andThen_ok,Sem.run_pure]
theorem NmAt.ptr {w:World} {B:Nat→Prop} {bs:List Nat} {nm:Nms} {v:Value} (h:NmAt w B bs nm v):∃ u,v = .pointer u∧∀ a,u=some a→Pl w a.block∧B a.block:=by
 cases nm with
 | nil=>cases h;exact ⟨none,rfl,fun a e=>by cases e⟩
 | cons p l=>obtain ⟨a,b,nx,rfl,_,h,_⟩:=h;exact ⟨some a,rfl,fun a e=>by cases e;exact ⟨h.2,h.1.1⟩⟩
theorem f_beginR {w:World} {S:Nat→Prop} {r md mf:Nat} {bs:List Nat} {X:Cx} {m:Rn} {e:Ex} {nm:Nms} {ve vn:Value} {res:R3} (h:RnAt w S r md mf bs X m) (he:EPtr w (Out S w) ve e) (hn:NmAt w (Out S w) bs nm vn) (hlen:m.frames.length≤2097152) (hres:beginS X e nm m=some res) :
   CallsR Tryz.prog 49 [ptr r,ve,vn] w fun v w'=>RetAt w w' S r md mf bs X v res∧Mod S w w':=by
 have he0:=he
 obtain ⟨ae,ecs,rfl,hecs,hex⟩:=he
 obtain ⟨vt,va,vb,vl,rfl,ht,ha,hb,hl⟩:=hex.parts
 obtain ⟨aa,ca,rfl⟩:=each_sl ha
 obtain ⟨ab,cb,rfl⟩:=each_sl hb
 have hlb:=each_len hb
 have hS:=h
 obtain ⟨_,_,_,_,_,_,hh⟩:=hS
 have Sr:∀ y,y=r→S y:=fun y hy=>by rw [hy];exact hh.inS _ (by simp)
 have k0:w.cell? ae=some (I e.kind):=hecs.c0 (by simp)
 have k1:w.cell? ⟨ae.block,ae.off+1,none⟩=some (.string e.name):=hecs.at (k:=1) (by simp)
 have k2:w.cell? ⟨ae.block,ae.off+2,none⟩=some (I e.num):=hecs.at (k:=2) (by simp)
 have k4:w.cell? ⟨ae.block,ae.off+4,none⟩=some (.slice aa e.args.length ca):=hecs.at (k:=4) (by simp)
 have k5:w.cell? ⟨ae.block,ae.off+5,none⟩=some (.slice ab e.binds.length cb):=hecs.at (k:=5) (by simp)
 have hone:=hn.one
 have d2:Mod (fun _=>False) w w.drew:=(Mod.refl _ _).drew
 have up:∀ {w':World} {S':Nat→Prop},Mod S w w'→Grew S S' w→CellsAt w' (Out S' w') ae [I e.kind,.string e.name,I e.num,vt,.slice aa e.args.length ca,.slice ab e.binds.length cb,vl]∧ExAt w' (Out S' w') [I e.kind,.string e.name,I e.num,vt,.slice aa e.args.length ca,.slice ab e.binds.length cb,vl] e∧NmAt w' (Out S' w') bs nm vn:=fun hm hg=>by
   have hout:=grew_out hg hm.size
   exact ⟨hecs.up hm out_not hout,hex.up hm out_not hout,hn.up hm out_not hout (fun _ _ h=>h)⟩
 refine fit49.calls rfl ?_
 unfold ir49
 unfold beginS at hres
 (try simp only [go_sem,simprocAttr,k0])
 cases h1:e.kind == 1 with
 | true=>
   rw [if_pos (by simpa using h1)] at hres
   obtain ⟨c,hc,rfl⟩:=Option.map_eq_some_iff.1 hres
   (try simp only [go_sem,simprocAttr,k1])
   refine e_call (by rfl) ?_
   refine (f_find nm hn hc).mono ?_
   rintro _ _ ⟨⟨b,rfl,hbb⟩,rfl⟩
   (try simp only [go_sem,simprocAttr])
   refine e_call (by rfl) ?_
   refine (f_enterR h hbb hlen).mono ?_
   rintro v w' hR
   obtain ⟨_,_,_,_,rfl⟩:=hR.1.tup
   (try simp only [go_sem,simprocAttr,rvs,RV.ev,one?])
   exact hR
 | false=>
 rw [if_neg (by simpa using h1)] at hres
 (try simp only [go_sem,simprocAttr])
 cases h3:e.kind == 3 with
 | true=>
   rw [if_pos (by simpa using h3)] at hres
   obtain ⟨c,hc,rfl⟩:=Option.map_eq_some_iff.1 hres
   (try simp only [go_sem,simprocAttr,k1,cell_of hh.box])
   refine e_lkP (R:=RCell bs) (l:=X.defs) (b:=md) (kt:=9) (et:=82) rfl rfl rfl rfl (Tryz.zeroValue82 _) hh.defs hc ?_
   rintro _ ⟨b,rfl,hbb⟩
   (try simp only [go_sem,simprocAttr])
   refine e_call (by rfl) ?_
   refine (f_enterR (h.keep d2) hbb hlen).mono ?_
   rintro v w' hR
   obtain ⟨_,_,_,_,rfl⟩:=hR.1.tup
   (try simp only [go_sem,simprocAttr,rvs,RV.ev,one?])
   refine ⟨?_,(mod0 d2).trans hR.2⟩
   obtain ⟨S',bs',q1,q2,q3⟩:=hR.1
   exact ⟨S',bs',q1,q2,q3⟩
 | false=>
 rw [if_neg (by simpa using h3)] at hres
 (try simp only [go_sem,simprocAttr])
 cases h2:e.kind == 2 with
 | true=>
   rw [if_pos (by simpa using h2)] at hres
   cases hres
   (try simp only [go_sem,simprocAttr,k2,rvs,RV.ev,one?])
   exact ret_keep h d2 ⟨_,rfl,rfl,rfl⟩
 | false=>
 rw [if_neg (by simpa using h2)] at hres
 (try simp only [go_sem,simprocAttr])
 cases h4:e.kind == 4 with
 | true=>
   rw [if_pos (by simpa using h4)] at hres
   cases hres
   (try simp only [go_sem,simprocAttr,k1,cell_of hh.box])
   refine e_lkI (b:=mf) (kt:=9) (et:=3) rfl rfl rfl rfl (zI _) hh.fields ?_
   (try simp only [go_sem,simprocAttr])
   refine e_call (by rfl) ?_
   refine (f_grown (w:=w.drew) (S:=S) (bs:=bs) (hv:=[]) (n:=e.name) (lacks:=(aget X.fields e.name).getD 0) (fun y hy=>hh.lt y hy) (each_nil _ _ _ _)).mono ?_
   rintro v w' ⟨hcl,hvv,hm⟩
   (try simp only [go_sem,simprocAttr,rvs,RV.ev,one?])
   exact ret_keep h (d2.trans hm) ⟨_,rfl,hcl,hvv⟩
 | false=>
 rw [if_neg (by simpa using h4)] at hres
 (try simp only [go_sem,simprocAttr])
 cases h6:e.kind == 6 with
 | true=>
   rw [if_pos (by simpa using h6)] at hres
   cases hres
   (try simp only [go_sem,simprocAttr,hone])
   refine e_bx rfl ?_
   intro w1 hb1 hm1 hs1
   (try simp only [go_sem,simprocAttr,rvs,RV.ev,one?])
   exact ret_keep h hm1 ⟨_,rfl,⟨_,_,_,rfl,cells_new (cs:=[.pointer (some ae),vn]) hb1 (fun hx=>by have:=hh.lt _ hx;omega),he0.up (mod0 hm1) out_not (out_up (mod0 hm1)),hn.up (mod0 hm1) out_not (out_up (mod0 hm1)) (fun _ _ h=>h)⟩,rfl⟩
 | false=>
 rw [if_neg (by simpa using h6)] at hres
 (try simp only [go_sem,simprocAttr])
 cases h12:e.kind == 12 with
 | true=>
   rw [if_pos (by simpa using h12)] at hres
   cases hres
   (try simp only [go_sem,simprocAttr,k2])
   refine e_call (by rfl) ?_
   refine (f_stuck h).mono ?_
   rintro _ w1 ⟨hR,hm1⟩
   (try simp only [go_sem,simprocAttr,rvs,RV.ev,one?])
   exact ret_grew hR grew_refl (hm1.weak Sr) rfl
 | false=>
 rw [if_neg (by simpa using h12)] at hres
 (try simp only [go_sem,simprocAttr])
 cases h7:e.kind == 7 with
 | true=>
   rw [if_pos (by simpa using h7)] at hres
   cases hargs:e.args with
   | nil=>rw [hargs] at hres;cases hres
   | cons y yl=>
   rw [hargs] at hres
   cases hres
   (try simp only [go_sem,simprocAttr,k5])
   have ltn:∀ {a:Addr},vn = .pointer (some a)→a.block < w.heap.size:=fun {a} e=>by
     cases nm with
     | nil=>cases hn;cases e
     | cons p l=>obtain ⟨_,_,_,rfl,_,h,_⟩:=hn;cases e;exact h.1.1.1
   refine ir_loop (fun z' ρ w'=>Mod (fun _=>False) w w'∧∃ (j:Nat) (S':Nat→Prop) (bs':List Nat) (v':Value),z'=e.binds.length - j∧j≤e.binds.length∧RnAt w' S' r md mf bs' X (m.emps j [])∧Grew S S' w∧(∀ (c b:Nat),bs[c]? = some b→bs'[c]? = some b)∧Ch w' (Out S' w') bs' w.heap.size vn e.binds m.cells.length j v' ∧
     ρ=[(1,.pointer (some ae)),(2,v'),(10,vn),(94,I e.binds.length),(95,I j)]) e.binds.length ⟨.refl _ _,0,S,bs,vn,by omega,by omega,(by rw [emps_zero];exact h),grew_refl,fun _ _ h=>h,rfl,rfl⟩ ?_
   rintro z' _ w1 ⟨hm1,j,S1,bs1,v1,rfl,hj,hR1,hg1,hbs1,hch1,rfl⟩
   unfold ir49L1
   have hout1:=grew_out hg1 hm1.size
   have ecs1:=hecs.up (mod0 hm1 (S:=S)) out_not hout1
   have ex1:=hex.up (mod0 hm1 (S:=S)) out_not hout1
   have hn1:NmAt w1 (Out S1 w1) bs1 nm vn:=hn.up (mod0 hm1 (S:=S)) out_not hout1 hbs1
   have k5':w1.cell? ⟨ae.block,ae.off+5,none⟩=some (.slice ab e.binds.length cb):=ecs1.at (k:=5) (by simp)
   have k4':w1.cell? ⟨ae.block,ae.off+4,none⟩=some (.slice aa e.args.length ca):=ecs1.at (k:=4) (by simp)
   have ub:EachAt w1 (.slice ab e.binds.length cb) 11 (Out S1 w1) (BdAt w1 (Out S1 w1)) e.binds:=hb.up (mod0 hm1 (S:=S)) out_not hout1 (fun _ _ h=>h.up (mod0 hm1 (S:=S)) out_not hout1)
   have hone1:=(Ch.nm hn1 hch1 hj).one
   by_cases q:j < e.binds.length
   · have b1:decide ((j:Int) < e.binds.length)=true:=by simpa using q
     have p1:(0:Int)≤j∧(j:Int) < e.binds.length:=by omega
     obtain ⟨ad,c,e6,hbn,hbl,hp⟩:=bind_ptr ub q
     obtain ⟨rfl,-,-⟩:=tup_inj e6
     have e3:IntKind.i64.wrap ((j:Int)+1)=((j+1:Nat):Int):=by rw [wrap_in (by omega) (by omega)];omega
     (try simp only [go_sem,simprocAttr,b1])
     (try simp only [go_sem,simprocAttr,zb4,zb6,k5',p1,hbn])
     refine e_bx rfl ?_
     intro w2 hb2 hm2 hs2
     (try simp only [go_sem,simprocAttr,hone1])
     refine e_bx rfl ?_
     intro w3 hb3 hm3 hs3
     (try simp only [go_sem,simprocAttr,e3])
     have hR2:=hR1.new (x:=.emp) hm2 hb2 (Nat.le_refl _) rfl
     rw [emps_new] at hR2
     have hm23:=hm2.trans hm3
     have hg3:Grew S (And1 S1 w1.heap.size) w:=⟨fun b hb=>.inl (hg1.1 b hb),fun b hb=>by
       rcases hb with h | h
       · exact hg1.2 b h
       · right;have:=hm1.size;omega⟩
     refine ⟨_,by omega,hm1.trans hm23,j+1,_,_,_,rfl,q,hR2.keep hm3,hg3,fun c b hc=>app_get _ _ (hbs1 c b hc),?_,rfl⟩
     have lenb:bs1.length=m.cells.length+j:=by
       obtain ⟨_,_,_,_,_,_,hx⟩:=hR1
       rw [hx.len];simp [Rn.emps]
     have hout3:∀ b,Out S1 w1 b→Out (And1 S1 w1.heap.size) w3 b:=out_ext (mod0 hm23) (and1_new (Nat.le_refl _))
     refine ⟨_,w1.heap.size,v1,e.binds[j].name,rfl,?_,nd_new (cs:=[.string e.binds[j].name,ptr w1.heap.size,v1]) hb3 ?_,?_,?_,hch1.up (mod0 hm23 (S:=S1)) out_not hout3 app_get⟩
     · have:=hm1.size;have:=hm2.size;show w.heap.size≤w2.heap.size;omega
     · rintro (hx | hx)
       · obtain ⟨_,_,_,_,_,_,hx'⟩:=hR1
         have:=hx'.lt _ hx;omega
       · omega
     · rw [List.getElem?_append_right (by omega),lenb];simp
     · rw [List.getElem?_eq_getElem q];try rfl
   · have b1:decide ((j:Int) < e.binds.length)=false:=by simpa using q
     have hj2:j=e.binds.length:=by omega
     subst hj2
     have lb:IntKind.i64.wrap ((e.binds.length:Int) - 1)=(e.binds.length:Int) - 1:=wrap_in (by omega) (by omega)
     (try simp only [go_sem,simprocAttr,b1,k5',lb])
     have hnF:NmAt w1 (Out S1 w1) bs1 (letN e.binds m.cells.length nm) v1:=by
       have:=Ch.nm hn1 hch1 (Nat.le_refl _)
       rwa [List.take_length] at this
     refine ir_loop (fun z' ρ w'=>Mod S1 w1 w'∧∃ vk:Value,z'≤e.binds.length∧RnAt w' S1 r md mf bs1 X (m.emps z' ((e.binds.drop z').map (fun b=>Cl.wait b.value (letN e.binds m.cells.length nm))))∧Ch w' (Out S1 w') bs1 w.heap.size vn e.binds m.cells.length z' vk ∧
       ρ=[(1,.pointer (some ae)),(2,v1),(10,vn),(12,vk),(13,I ((z':Int) - 1))]) e.binds.length ⟨.refl _ _,v1,Nat.le_refl _,by rw [List.drop_length];exact hR1,hch1,rfl⟩ ?_
     rintro k _ w2 ⟨hm2,vk,hk,hR2,hch2,rfl⟩
     unfold ir49L2
     have ecs2:=ecs1.up hm2 out_not (out_up hm2)
     have ex2:=ex1.up hm2 out_not (out_up hm2)
     have hnF2:=hnF.up hm2 out_not (out_up hm2) (fun _ _ h=>h)
     have k5':w2.cell? ⟨ae.block,ae.off+5,none⟩=some (.slice ab e.binds.length cb):=ecs2.at (k:=5) (by simp)
     have k4':w2.cell? ⟨ae.block,ae.off+4,none⟩=some (.slice aa e.args.length ca):=ecs2.at (k:=4) (by simp)
     have ub:EachAt w2 (.slice ab e.binds.length cb) 11 (Out S1 w2) (BdAt w2 (Out S1 w2)) e.binds:=hb.up ((mod0 hm1).trans hm2) (fun b hb=>out_not b (hout1 b hb)) (fun b hb=>out_up hm2 b (hout1 b hb)) (fun _ _ h=>h.up ((mod0 hm1).trans hm2) (fun b hb=>out_not b (hout1 b hb)) (fun b hb=>out_up hm2 b (hout1 b hb)))
     have ua:EachAt w2 (.slice aa e.args.length ca) 7 (Out S1 w2) (ExAt w2 (Out S1 w2)) e.args:=ha.up ((mod0 hm1).trans hm2) (fun b hb=>out_not b (hout1 b hb)) (fun b hb=>out_up hm2 b (hout1 b hb)) (fun _ _ h=>h.up ((mod0 hm1).trans hm2) (fun b hb=>out_not b (hout1 b hb)) (fun b hb=>out_up hm2 b (hout1 b hb)))
     obtain ⟨u0,hu0,hpl0⟩:=(hn.up ((mod0 hm1).trans hm2) (fun b hb=>out_not b (hout1 b hb)) (fun b hb=>out_up hm2 b (hout1 b hb)) hbs1).ptr
     subst hu0
     match k,vk,hch2,hk,hR2 with
     | 0,vk,hch2,hk,hR2=>
       have hch2:vk = .pointer u0:=hch2
       subst hch2
       (try simp only [go_sem,simprocAttr])
       refine e_neP (te:=141) rfl rfl rfl rfl (by decide) (fun a e=>(hpl0 a e).1) (fun a e=>(hpl0 a e).1) (q:=false) (by simp) ?_
       have la:0 < e.args.length:=by rw [hargs];simp
       have ha0:e.args[0]=y:=by simp [hargs]
       have b2:(0:Int)≤0∧(0:Int) < e.args.length:=by omega
       obtain ⟨ad,c,e6,hp⟩:=arg_ptr ua la
       obtain ⟨rfl,-,-⟩:=tup_inj e6
       rw [ha0,Nat.zero_mul,add_zero'] at hp
       (try simp only [go_sem,simprocAttr])
       (try simp only [go_sem,simprocAttr,zb4,zb6,k4',b2,Nat.zero_mul,add_zero',rvs,RV.ev,one?])
       have hm02:Mod S w w2:=(mod0 hm1).step hm2 (fun b hb hl=>by
         rcases hg1.2 b hb with h | h
         · exact h
         · omega)
       exact ⟨⟨S1,bs1,hR2,hg1,hbs1,_,_,rfl,hp,hnF2⟩,hm02⟩
     | k+1,vk,hch2,hk,hR2=>
       obtain ⟨a,b,nx,s,rfl,h0,hcs,hbb,hs,hch2⟩:=hch2
       (try simp only [go_sem,simprocAttr])
       refine e_neP (te:=141) rfl rfl rfl rfl (by decide) (fun a e=>by cases e;exact hcs.2) (fun a e=>(hpl0 a e).1) (q:=true) (by
         have:some a≠u0:=fun e=>by
           have:=ltn (a:=a) (by rw [e])
           omega
         simp [this]) ?_
       (try simp only [go_sem,simprocAttr])
       have e2:((k+1:Nat):Int) - 1=(k:Int):=by omega
       have e3:IntKind.i64.wrap ((k:Int) - 1)=(k:Int) - 1:=wrap_in (by omega) (by omega)
       have q:k < e.binds.length:=by omega
       have p1:(0:Int)≤k∧(k:Int) < e.binds.length:=by omega
       obtain ⟨ad,c,e6,hbn,hbl,hp⟩:=bind_ptr ub q
       obtain ⟨rfl,-,-⟩:=tup_inj e6
       have a1:w2.cell? ⟨a.block,a.off+1,none⟩=some (ptr b):=hcs.at (k:=1) (by simp)
       have hone2:=hnF2.one
       (try simp only [go_sem,simprocAttr,e2])
       (try simp only [go_sem,simprocAttr,zb4,zb6,a1,k5',p1,hone2])
       refine e_bx rfl ?_
       intro w3 hb3 hm3 hs3
       have hm3:Mod (fun _=>False) w2 w3:=hm3.of_drew
       obtain ⟨_,_,_,_,_,_,hx2⟩:=hR2.keep hm3
       have hbb1:bs1[m.cells.length+k]? = some b:=hbb
       have hget:(m.emps (k+1) ((e.binds.drop (k+1)).map (fun b=>Cl.wait b.value (letN e.binds m.cells.length nm)))).cells[m.cells.length+k]? = some .emp:=by
         unfold Rn.emps
         rw [List.getElem?_append_right (by omega),List.getElem?_append_left (by simp),show m.cells.length+k - m.cells.length=k by omega,List.getElem?_replicate,if_pos (by omega)]
       obtain ⟨v0,hb0,_⟩:=hx2.cell _ b _ hbb1 hget
       have lta:=cell_lt a1
       refine ⟨hm3.old _ lta _root_.id,?_⟩
       (try simp only [go_sem,simprocAttr])
       refine e_st1 (b:=b) (off:=0) (v:=.iface 105 (ptr w2.heap.size)) rfl rfl hb0 rfl (by simp) ?_
       intro w4 hb4 hm4 hs4
       have Sb:∀ y,y=b→S1 y:=fun y hy=>by rw [hy];exact hx2.inS _ (by simp [List.mem_of_getElem? hbb1])
       have hm24:Mod S1 w2 w4:=(mod0 hm3).trans (hm4.weak Sb)
       have a2:w4.cell? ⟨a.block,a.off+2,none⟩=some nx:=(hcs.up hm24 out_not (out_up hm24)).at (k:=2) (by simp)
       have up3:∀ {x:Cl} {v:Value},ClAt w3 (Out S1 w3) bs1 x v→ClAt w4 (Out S1 w4) bs1 x v:=fun h=>h.up (hm4.weak Sb) out_not (out_up (hm4.weak Sb)) (fun _ _ h=>h)
       have hR4:=hx2.put (x:=.wait e.binds[k].value (letN e.binds m.cells.length nm)) (v:=.iface 105 (ptr w2.heap.size)) hbb1 hm4 hb4 ⟨_,_,_,rfl,cells_new (cs:=[.pointer (some ⟨(ad.add (k*11)).block,(ad.add (k*11)).off+4,none⟩),v1]) hb3 (fun hx=>by
         have:=hx2.lt _ hx
         have hl:∀ b,S1 b→b < w2.heap.size:=by obtain ⟨_,_,_,_,_,_,hx'⟩:=hR2;exact hx'.lt
         have:=hl _ hx;omega),hp.up (mod0 hm3 (S:=S1)) out_not (out_up (mod0 hm3)),hnF2.up (mod0 hm3 (S:=S1)) out_not (out_up (mod0 hm3)) (fun _ _ h=>h)⟩
       rw [emps_put] at hR4
       have e5:e.binds.drop k=e.binds[k]::e.binds.drop (k+1):=List.drop_eq_getElem_cons q
       (try simp only [go_sem,simprocAttr,a2,e3])
       refine ⟨k,Nat.lt_succ_self k,hm2.trans hm24,nx,by omega,?_,hch2.up hm24 out_not (out_up hm24) (fun _ _ h=>h),rfl⟩
       rw [e5,List.map_cons]
       exact ⟨_,_,_,_,_,_,hR4⟩
 | false=>
 rw [if_neg (by simpa using h7)] at hres
 (try simp only [go_sem,simprocAttr])
 cases h11:e.kind == 11 with
 | true=>
   rw [if_pos (by simpa using h11)] at hres
   (try simp only [go_sem,simprocAttr,hone])
   cases hbinds:e.binds with
   | nil=>rw [hbinds] at hres;cases hres
   | cons b bl=>
   rw [hbinds] at hres
   cases hres
   refine e_call (by rfl) ?_
   refine (f_push (f:=.hard e nm) h ⟨_,_,rfl,he0,hn⟩ hlen).mono ?_
   rintro _ w1 ⟨⟨S',hR,hg⟩,hm1⟩
   obtain ⟨u1,u2,u3⟩:=up hm1 hg
   obtain ⟨vt',va',vb',vl',e1,_,_,ub,_⟩:=u2.parts
   have e5:vb' = .slice ab e.binds.length cb:=by
     have:=congrArg (fun l=>l[5]?) e1
     simpa using this.symm
   subst e5
   have lb:0 < e.binds.length:=by rw [hbinds];simp
   obtain ⟨ad,c,e6,_,_,hp⟩:=bind_ptr ub lb
   obtain ⟨rfl,-,-⟩:=tup_inj e6
   have k5':w1.cell? ⟨ae.block,ae.off+5,none⟩=some (.slice (some ad) e.binds.length cb):=u1.at (k:=5) (by simp)
   have b2:(0:Int)≤0∧(0:Int) < e.binds.length:=by omega
   have hb0:e.binds[0]=b:=by simp [hbinds]
   rw [hb0,Nat.zero_mul,add_zero'] at hp
   (try simp only [go_sem,simprocAttr,zb4,zb6,k5',b2,Nat.zero_mul,add_zero',rvs,RV.ev,one?])
   exact ret_grew hR hg hm1 ⟨_,_,rfl,hp,u3⟩
 | false=>
 rw [if_neg (by simpa using h11)] at hres
 cases hargs:e.args with
 | nil=>rw [hargs] at hres;cases hres
 | cons y yl=>
 rw [hargs] at hres
 have la:0 < e.args.length:=by rw [hargs];simp
 have ha0:e.args[0]=y:=by simp [hargs]
 have b2:(0:Int)≤0∧(0:Int) < e.args.length:=by omega
 have fst:∀ {w':World} {S':Nat→Prop},Mod S w w'→Grew S S' w→∃ ad,aa=some ad∧w'.cell? ⟨ae.block,ae.off+4,none⟩=some (.slice (some ad) e.args.length ca)∧EPtr w' (Out S' w') (.pointer (some ad)) y∧NmAt w' (Out S' w') bs nm vn:=fun hm hg=>by
   obtain ⟨u1,u2,u3⟩:=up hm hg
   obtain ⟨vt',va',vb',vl',e1,_,ua,_,_⟩:=u2.parts
   have e5:va' = .slice aa e.args.length ca:=by
     have:=congrArg (fun l=>l[4]?) e1
     simpa using this.symm
   subst e5
   obtain ⟨ad,c,e6,hp⟩:=arg_ptr ua la
   obtain ⟨rfl,-,-⟩:=tup_inj e6
   rw [ha0,Nat.zero_mul,add_zero'] at hp
   exact ⟨ad,rfl,u1.at (k:=4) (by simp),hp,u3⟩
 (try simp only [go_sem,simprocAttr])
 cases h5:e.kind == 5 with
 | true=>
   rw [if_pos (by simpa using h5)] at hres
   cases hres
   (try simp only [go_sem,simprocAttr,hone])
   refine e_call (by rfl) ?_
   refine (f_push (f:=.app e nm) h ⟨_,_,rfl,he0,hn⟩ hlen).mono ?_
   rintro _ w1 ⟨⟨S',hR,hg⟩,hm1⟩
   obtain ⟨ad,rfl,k4',hp,u3⟩:=fst hm1 hg
   (try simp only [go_sem,simprocAttr,zb4,zb6,k4',b2,Nat.zero_mul,add_zero',rvs,RV.ev,one?])
   exact ret_grew hR hg hm1 ⟨_,_,rfl,hp,u3⟩
 | false=>
 rw [if_neg (by simpa using h5)] at hres
 (try simp only [go_sem,simprocAttr])
 cases h8:e.kind == 8 with
 | true=>
   rw [if_pos (by simpa using h8)] at hres
   cases hres
   (try simp only [go_sem,simprocAttr,hone])
   refine e_call (by rfl) ?_
   refine (f_push (f:=.cas e nm) h ⟨_,_,rfl,he0,hn⟩ hlen).mono ?_
   rintro _ w1 ⟨⟨S',hR,hg⟩,hm1⟩
   obtain ⟨ad,rfl,k4',hp,u3⟩:=fst hm1 hg
   (try simp only [go_sem,simprocAttr,zb4,zb6,k4',b2,Nat.zero_mul,add_zero',rvs,RV.ev,one?])
   exact ret_grew hR hg hm1 ⟨_,_,rfl,hp,u3⟩
 | false=>
 rw [if_neg (by simpa using h8)] at hres
 (try simp only [go_sem,simprocAttr])
 cases h9:e.kind == 9 with
 | true=>
   rw [if_pos (by simpa using h9)] at hres
   cases hres
   (try simp only [go_sem,simprocAttr,hone])
   refine e_call (by rfl) ?_
   refine (f_push (f:=.fst e nm) h ⟨_,_,rfl,he0,hn⟩ hlen).mono ?_
   rintro _ w1 ⟨⟨S',hR,hg⟩,hm1⟩
   obtain ⟨ad,rfl,k4',hp,u3⟩:=fst hm1 hg
   (try simp only [go_sem,simprocAttr,zb4,zb6,k4',b2,Nat.zero_mul,add_zero',rvs,RV.ev,one?])
   exact ret_grew hR hg hm1 ⟨_,_,rfl,hp,u3⟩
 | false=>
 rw [if_neg (by simpa using h9)] at hres
 (try simp only [go_sem,simprocAttr])
 cases h10:e.kind == 10 with
 | true=>
   rw [if_pos (by simpa using h10)] at hres
   cases hres
   (try simp only [go_sem,simprocAttr,hone])
   refine e_call (by rfl) ?_
   refine (f_push (f:=.seq e nm) h ⟨_,_,rfl,he0,hn⟩ hlen).mono ?_
   rintro _ w1 ⟨⟨S',hR,hg⟩,hm1⟩
   obtain ⟨ad,rfl,k4',hp,u3⟩:=fst hm1 hg
   (try simp only [go_sem,simprocAttr,zb4,zb6,k4',b2,Nat.zero_mul,add_zero',rvs,RV.ev,one?])
   exact ret_grew hR hg hm1 ⟨_,_,rfl,hp,u3⟩
 | false=>
 rw [if_neg (by simpa using h10)] at hres
 cases hres
 obtain ⟨ad,rfl,k4',hp,u3⟩:=fst (.refl S w) grew_refl
 (try simp only [go_sem,simprocAttr,zb4,zb6,k4',b2,Nat.zero_mul,add_zero',rvs,RV.ev,one?])
 exact ret_grew h grew_refl (.refl S w) ⟨_,_,rfl,hp,u3⟩
end
section
open Go Go.W
theorem val_num2 {w:World} {B:Nat→Prop} {bs:List Nat} {x:Cl} {T:Nat} {z:Value} (hu:ClAt w B bs x (.iface T z)) (hv:x.isV=true):(T=115→z=I (numOf x))∧(T≠115→numOf x=0):=by
 cases x with
 | num n=>cases hu;exact ⟨fun _=>rfl,fun h=>absurd rfl h⟩
 | con k fs=>obtain ⟨a,_,e,_⟩:=hu;cases e;exact ⟨fun h=>(by cases h),fun _=>rfl⟩
 | lam e' nm'=>obtain ⟨a,_,_,e,_⟩:=hu;cases e;exact ⟨fun h=>(by cases h),fun _=>rfl⟩
 | par n l fs=>obtain ⟨a,_,e,_⟩:=hu;cases e;exact ⟨fun h=>(by cases h),fun _=>rfl⟩
 | wait e' nm'=>cases hv
 | busy=>cases hv
 | emp=>cases hv
theorem grew_step {w w':World} {S S' S'':Nat→Prop} (h:Grew S S' w) (k:Grew S' S'' w') (hz:w.heap.size≤w'.heap.size):Grew S S'' w:=⟨fun b hb=>k.1 b (h.1 b hb),fun b hb=>by
 rcases k.2 b hb with h1 | h1
 · exact h.2 b h1
 · exact .inr (Nat.le_trans hz h1)⟩
theorem mod_grew {w w' w'':World} {S S':Nat→Prop} (hm:Mod S w w') (h:Grew S S' w) (k:Mod S' w' w''):Mod S w w'':=hm.step k (fun b hb hl=>by
 rcases h.2 b hb with h1 | h1
 · exact h1
 · omega)
theorem ret_trans {w w' w'':World} {S S':Nat→Prop} {r md mf:Nat} {bs bs':List Nat} {X:Cx} {v:Value} {x:R3} (hg:Grew S S' w) (hb:∀ (c b:Nat),bs[c]? = some b→bs'[c]? = some b) (hm:Mod S w w') (h:RetAt w' w'' S' r md mf bs' X v x∧Mod S' w' w''):RetAt w w'' S r md mf bs X v x∧Mod S w w'':=by
 obtain ⟨⟨S2,bs2,h1,h2,h3,h4⟩,h5⟩:=h
 exact ⟨⟨S2,bs2,h1,grew_step hg h2 hm.size,fun c b hc=>h3 c b (hb c b hc),h4⟩,mod_grew hm hg h5⟩
theorem f_endR {w:World} {S:Nat→Prop} {r md mf:Nat} {bs:List Nat} {X:Cx} {m:Rn} {f:Fm} {x:Cl} {u:Value} {cs:List Value} {res:R3} (h:RnAt w S r md mf bs X m) (hf:FmAt w (Out S w) bs cs f) (hu:ClAt w (Out S w) bs x u) (hv:x.isV=true) (hlen:m.frames.length≤2097152) (hres:endS f x m=some res) :
   CallsR Tryz.prog 50 [ptr r,.agg cs.toArray,u] w fun v w'=>RetAt w w' S r md mf bs X v res∧Mod S w w':=by
 obtain ⟨T,z,rfl,_⟩:=cl_iface hu hv
 have hS:=h
 obtain ⟨_,_,_,_,_,_,hh⟩:=hS
 have d2:Mod (fun _=>False) w w.drew:=(Mod.refl _ _).drew
 cases f with
 | upd c=>
   obtain ⟨b,rfl,hb⟩:=hf
   cases hres
   have hci:c < m.cells.length:=by rw [← hh.len];exact (List.getElem?_eq_some_iff.1 hb).1
   obtain ⟨v0,hb0,_⟩:=hh.cell c b _ hb (List.getElem?_eq_getElem hci)
   have Sb:∀ y,y=b→S y:=fun y hy=>by rw [hy];exact hh.inS _ (by simp [List.mem_of_getElem? hb])
   refine fit50.calls rfl ?_
   unfold ir50
   (try simp only [go_sem,simprocAttr])
   refine e_bx rfl ?_
   intro w1 hb1 hm1 hs1
   have hb01:=hm1.at hb0 _root_.id
   (try simp only [go_sem,simprocAttr,cell_of hb1,Int.reduceBEq])
   refine e_st1 (b:=b) (off:=0) (v:=.iface T z) rfl rfl hb01 rfl (by simp) ?_
   intro w2 hb2 hm2 hs2
   (try simp only [go_sem,simprocAttr,rvs,RV.ev,one?])
   obtain ⟨_,_,_,_,_,_,hh1⟩:=h.keep hm1
   have hu1:=hu.up (mod0 hm1 (S:=S)) out_not (out_up (mod0 hm1)) (fun _ _ h=>h)
   have hR:=hh1.put (x:=x) hb hm2 hb2 hu1
   have hm02:Mod S w w2:=(mod0 hm1).trans (hm2.weak Sb)
   exact ret_grew ⟨_,_,_,_,_,_,hR⟩ grew_refl hm02 ⟨_,rfl,hu1.up (hm2.weak Sb) out_not (out_up (hm2.weak Sb)) (fun _ _ h=>h),hv⟩
 | app e nm=>
   obtain ⟨ve,vn,rfl,⟨ae,ecs,rfl,hecs,hex⟩,hn⟩:=hf
   obtain ⟨vt,va,vb,vl,rfl,ht,ha,hb,hl⟩:=hex.parts
   obtain ⟨aa,ca,rfl⟩:=each_sl ha
   unfold endS at hres
   simp only at hres
   refine fit50.calls rfl ?_
   unfold ir50
   (try simp only [go_sem,simprocAttr])
   refine e_bx rfl ?_
   intro w1 hb1 hm1 hs1
   match hargs:e.args,hres with
   | _::y::rest,hres=>
   have hlt:1 < e.args.length:=by rw [hargs];simp
   have ha1:e.args[1]=y:=by simp [hargs]
   have b2:(0:Int)≤1∧(1:Int) < e.args.length:=by omega
   have ecs1:=hecs.up (mod0 hm1 (S:=S)) out_not (out_up (mod0 hm1))
   have k4:w1.cell? ⟨ae.block,ae.off+4,none⟩=some (.slice aa e.args.length ca):=ecs1.at (k:=4) (by simp)
   have ua:=ha.up (mod0 hm1 (S:=S)) out_not (out_up (mod0 hm1)) (fun _ _ h=>h.up (mod0 hm1 (S:=S)) out_not (out_up (mod0 hm1)))
   have hn1:=hn.up (mod0 hm1 (S:=S)) out_not (out_up (mod0 hm1)) (fun _ _ h=>h)
   have hone:=hn1.one
   obtain ⟨ad,c,e6,hp⟩:=arg_ptr ua hlt
   obtain ⟨rfl,-,-⟩:=tup_inj e6
   rw [ha1,add_pos _ (by decide)] at hp
   (try simp only [go_sem,simprocAttr,cell_of hb1,Int.reduceBEq])
   have t1:Int.toNat 1=1:=rfl
   (try simp only [go_sem,simprocAttr,zb4,zb6,Int.reduceBEq,cell_of hb1,k4,b2,hone,t1,Nat.one_mul])
   refine e_bx rfl ?_
   intro w2 hb2 hm2' hs2
   have hm2:Mod (fun _=>False) w1 w2:=hm2'.of_drew
   (try simp only [go_sem,simprocAttr])
   refine e_bx rfl ?_
   intro w3 hb3 hm3 hs3
   have hm23:=hm2.trans hm3
   have hm03:=hm1.trans hm23
   have hR3:=(h.keep (hm1.trans hm2)).new (x:=.wait y nm) (v:=.iface 105 (ptr w1.heap.size)) hm3 hb3 (Nat.le_refl _) ⟨_,_,_,rfl,cells_of_new hb2 hm3 (S:=And1 S w2.heap.size) (by
     rintro (hx | hx)
     · have:=hh.lt _ hx;have:=hm1.size;omega
     · have e:w1.drew.heap.size=w1.heap.size:=rfl
       omega),hp.up (mod0 hm23 (S:=S)) out_not (out_ext (mod0 hm23) (and1_new (by have:=hm2.size;omega))),hn1.up (mod0 hm23 (S:=S)) out_not (out_ext (mod0 hm23) (and1_new (by have:=hm2.size;omega))) app_get⟩
   have hg3:Grew S (And1 S w2.heap.size) w:=⟨fun b hb=>.inl hb,fun b hb=>by
     rcases hb with h | h
     · exact .inl h
     · right;have:=(hm1.trans hm2).size;omega⟩
   have hu3:=hu.up (mod0 hm03 (S:=S)) out_not (out_ext (mod0 hm03) (and1_new (by have:=(hm1.trans hm2).size;omega))) (app_get (b:=w2.heap.size))
   have hcc:(bs++[w2.heap.size])[m.cells.length]? = some w2.heap.size:=by
     rw [← hh.len,List.getElem?_append_right (Nat.le_refl _)];simp
   (try simp only [go_sem,simprocAttr])
   refine e_call (by rfl) ?_
   refine (f_givenR hR3 hcc hu3 hv hres).mono ?_
   rintro v w4 hR
   obtain ⟨_,_,_,_,rfl⟩:=hR.1.tup
   (try simp only [go_sem,simprocAttr,rvs,RV.ev,one?])
   exact ret_trans hg3 app_get (mod0 hm03) hR
 | cas e nm=>
   have hf0:=hf
   obtain ⟨ve,vn,rfl,he,hn⟩:=hf
   refine fit50.calls rfl ?_
   unfold ir50
   (try simp only [go_sem,simprocAttr])
   refine e_bx rfl ?_
   intro w1 hb1 hm1 hs1
   have hf1:EvAt w (Out S w) bs 2 e nm [I 2,.pointer none,ve,vn,I 0]:=hf0
   have hf1:=hf1.up (mod0 hm1 (S:=S)) out_not (out_up (mod0 hm1)) (fun _ _ h=>h)
   have hu1:=hu.up (mod0 hm1 (S:=S)) out_not (out_up (mod0 hm1)) (fun _ _ h=>h)
   (try simp only [go_sem,simprocAttr,cell_of hb1,Int.reduceBEq,ln_blk (n:=5) (cs:=[I 2,.pointer none,ve,vn,I 0]) hb1 rfl])
   refine e_call (by rfl) ?_
   refine (f_chooseR (h.keep hm1) hf1 hu1 hv hres).mono ?_
   rintro v w4 hR
   obtain ⟨_,_,_,_,rfl⟩:=hR.1.tup
   (try simp only [go_sem,simprocAttr,rvs,RV.ev,one?])
   exact ret_trans grew_refl (fun _ _ h=>h) (mod0 hm1) hR
 | fst e nm=>
   obtain ⟨ve,vn,rfl,he,hn⟩:=hf
   have he0:=he
   obtain ⟨ae,ecs,rfl,hecs,hex⟩:=he
   obtain ⟨vt,va,vb,vl,rfl,ht,ha,hb,hl⟩:=hex.parts
   obtain ⟨aa,ca,rfl⟩:=each_sl ha
   unfold endS at hres
   simp only at hres
   match hargs:e.args,hres with
   | _::y::rest,hres=>
   cases hres
   have hlt:1 < e.args.length:=by rw [hargs];simp
   have ha1:e.args[1]=y:=by simp [hargs]
   have b2:(0:Int)≤1∧(1:Int) < e.args.length:=by omega
   have t1:Int.toNat 1=1:=rfl
   refine fit50.calls rfl ?_
   unfold ir50
   (try simp only [go_sem,simprocAttr])
   refine e_bx rfl ?_
   intro w1 hb1 hm1 hs1
   obtain ⟨hT1,hT2⟩:=val_num2 hu hv
   have tail:∀ {w2:World} {S':Nat→Prop},RnAt w2 S' r md mf bs X (m.push (.snd e (numOf x)))→Grew S S' w1→Mod S w1 w2→∃ ad,aa=some ad∧w2.heap[w.heap.size]? = some (.cells [I 3,.pointer none,.pointer (some ae),vn,I 0].toArray 136 (0,0))∧w2.cell? ⟨ae.block,ae.off+4,none⟩=some (.slice (some ad) e.args.length ca)∧(RetAt w w2.drew S r md mf bs X (.tuple #[.pointer (some ⟨ad.block,ad.off+7,none⟩),vn,.nilIface,.bool true]) (some (.go y nm),m.push (.snd e (numOf x)))∧Mod S w w2.drew):=fun {w2 S'} hR hg hm=>by
     have d2':Mod (fun _=>False) w2 w2.drew:=(Mod.refl _ _).drew
     have hg0:Grew S S' w:=grew_step grew_refl hg hm1.size
     have hm02:Mod S w w2:=(mod0 hm1).trans hm
     have hout:=grew_out hg0 hm02.size
     have ua:=ha.up hm02 out_not hout (fun _ _ h=>h.up hm02 out_not hout)
     obtain ⟨ad,c,e6,hp⟩:=arg_ptr ua hlt
     obtain ⟨rfl,-,-⟩:=tup_inj e6
     rw [ha1,add_pos _ (by decide)] at hp
     refine ⟨ad,rfl,hm.at hb1 (fun hx=>by have:=hh.lt _ hx;omega),(hecs.up hm02 out_not hout).at (k:=4) (by simp),?_⟩
     have hmd:=hm02.trans (mod0 d2' (S:=S))
     have hout2:=grew_out hg0 hmd.size
     exact ret_grew (hR.keep d2') hg0 hmd ⟨_,_,rfl,hp.up (mod0 d2' (S:=S')) out_not (out_up (mod0 d2')),hn.up hmd out_not hout2 (fun _ _ h=>h)⟩
   have hone:=hn.one
   have he1:=he0.up (mod0 hm1 (S:=S)) out_not (out_up (mod0 hm1))
   (try simp only [go_sem,simprocAttr,cell_of hb1,Int.reduceBEq])
   refine e_taC (D:=.int .i64) rfl rfl rfl (Tryz.zeroValue115 _) (fun hT=>?_) (fun hT=>?_)
   · have hz:=hT1 hT
     subst hz
     (try simp only [go_sem,simprocAttr,cell_of hb1])
     refine e_call (by rfl) ?_
     refine (f_push (f:=.snd e (numOf x)) (h.keep hm1) ⟨_,rfl,he1⟩ hlen).mono ?_
     rintro _ w2 ⟨⟨S',hR,hg⟩,hm2⟩
     obtain ⟨ad,rfl,hb2,k4,hfin⟩:=tail hR hg hm2
     (try simp only [go_sem,simprocAttr,cell_of hb2])
     (try simp only [go_sem,simprocAttr,zb4,zb6,cell_of hb2,k4,b2,t1,Nat.one_mul,rvs,RV.ev,one?])
     exact hfin
   · have hz:=hT2 hT
     (try simp only [go_sem,simprocAttr,cell_of hb1])
     refine e_call (by rfl) ?_
     refine (f_push (f:=.snd e (numOf x)) (cs:=[I 4,.pointer none,.pointer (some ae),.pointer none,I 0]) (h.keep hm1) ⟨_,by rw [hz],he1⟩ hlen).mono ?_
     rintro _ w2 ⟨⟨S',hR,hg⟩,hm2⟩
     obtain ⟨ad,rfl,hb2,k4,hfin⟩:=tail hR hg hm2
     (try simp only [go_sem,simprocAttr,cell_of hb2])
     (try simp only [go_sem,simprocAttr,zb4,zb6,cell_of hb2,k4,b2,t1,Nat.one_mul,rvs,RV.ev,one?])
     exact hfin
 | snd e n=>
   obtain ⟨ve,rfl,⟨ae,ecs,rfl,hecs,hex⟩⟩:=hf
   obtain ⟨vt,va,vb,vl,rfl,ht,ha,hb,hl⟩:=hex.parts
   refine fit50.calls rfl ?_
   unfold ir50
   (try simp only [go_sem,simprocAttr])
   refine e_bx rfl ?_
   intro w1 hb1 hm1 hs1
   obtain ⟨hT1,hT2⟩:=val_num2 hu hv
   have d1:Mod (fun _=>False) w1 w1.drew:=(Mod.refl _ _).drew
   have hm1d:=hm1.trans d1
   have k1:w1.cell? ⟨ae.block,ae.off+1,none⟩=some (.string e.name):=(hecs.up (mod0 hm1 (S:=S)) out_not (out_up (mod0 hm1))).at (k:=1) (by simp)
   have fin:∀ {w2:World} {v:Value},OprR w2 S r md mf bs X m v (oprS e.name n (numOf x))∧Mod S w1.drew w2→∃ a b,v = .tuple #[a,b]∧(RetAt w w2 S r md mf bs X (.tuple #[.pointer none,.pointer none,a,b]) res∧Mod S w w2):=fun {w2 v} ⟨hO,hm2⟩=>by
     have hm02:Mod S w w2:=(mod0 hm1d).trans hm2
     unfold endS at hres
     simp only at hres
     cases ho:oprS e.name n (numOf x) with
     | none=>
       rw [ho] at hO hres
       cases hres
       obtain ⟨rfl,hR⟩:=hO
       exact ⟨_,_,rfl,ret_grew hR grew_refl hm02 rfl⟩
     | some y=>
       rw [ho] at hO hres
       cases hres
       obtain ⟨⟨u,rfl,q1,q2⟩,hR⟩:=hO
       exact ⟨_,_,rfl,ret_grew hR grew_refl hm02 ⟨_,rfl,q1,q2⟩⟩
   (try simp only [go_sem,simprocAttr,cell_of hb1,Int.reduceBEq])
   refine e_taC (D:=.int .i64) rfl rfl rfl (Tryz.zeroValue115 _) (fun hT=>?_) (fun hT=>?_)
   · have hz:=hT1 hT
     subst hz
     (try simp only [go_sem,simprocAttr,cell_of hb1,k1])
     refine e_call (by rfl) ?_
     refine (f_opr (h.keep hm1d)).mono ?_
     rintro v w2 hO
     obtain ⟨a,b,rfl,hfin⟩:=fin hO
     (try simp only [go_sem,simprocAttr,rvs,RV.ev,one?])
     exact hfin
   · have hz:=hT2 hT
     rw [hz] at fin
     (try simp only [go_sem,simprocAttr,cell_of hb1,k1])
     refine e_call (by rfl) ?_
     refine (f_opr (h.keep hm1d)).mono ?_
     rintro v w2 hO
     obtain ⟨a,b,rfl,hfin⟩:=fin hO
     (try simp only [go_sem,simprocAttr,rvs,RV.ev,one?])
     exact hfin
 | seq e nm=>
   obtain ⟨ve,vn,rfl,⟨ae,ecs,rfl,hecs,hex⟩,hn⟩:=hf
   obtain ⟨vt,va,vb,vl,rfl,ht,ha,hb,hl⟩:=hex.parts
   obtain ⟨aa,ca,rfl⟩:=each_sl ha
   unfold endS at hres
   simp only at hres
   match hargs:e.args,hres with
   | _::y::rest,hres=>
   cases hres
   have hlt:1 < e.args.length:=by rw [hargs];simp
   have ha1:e.args[1]=y:=by simp [hargs]
   have b2:(0:Int)≤1∧(1:Int) < e.args.length:=by omega
   have t1:Int.toNat 1=1:=rfl
   refine fit50.calls rfl ?_
   unfold ir50
   (try simp only [go_sem,simprocAttr])
   refine e_bx rfl ?_
   intro w1 hb1 hm1 hs1
   have d1:Mod (fun _=>False) w1 w1.drew:=(Mod.refl _ _).drew
   have hm1d:=hm1.trans d1
   have ua:=ha.up (mod0 hm1 (S:=S)) out_not (out_up (mod0 hm1)) (fun _ _ h=>h.up (mod0 hm1 (S:=S)) out_not (out_up (mod0 hm1)))
   obtain ⟨ad,c,e6,hp⟩:=arg_ptr ua hlt
   obtain ⟨rfl,-,-⟩:=tup_inj e6
   rw [ha1,add_pos _ (by decide)] at hp
   have k4:w1.cell? ⟨ae.block,ae.off+4,none⟩=some (.slice (some ad) e.args.length ca):=(hecs.up (mod0 hm1 (S:=S)) out_not (out_up (mod0 hm1))).at (k:=4) (by simp)
   (try simp only [go_sem,simprocAttr,cell_of hb1,Int.reduceBEq])
   (try simp only [go_sem,simprocAttr,zb4,zb6,cell_of hb1,k4,b2,t1,Nat.one_mul,Int.reduceBEq,rvs,RV.ev,one?])
   exact ret_keep h hm1d ⟨_,_,rfl,hp.up (mod0 d1 (S:=S)) out_not (out_up (mod0 d1)),hn.up (mod0 hm1d (S:=S)) out_not (out_up (mod0 hm1d)) (fun _ _ h=>h)⟩
 | hard e nm=>
   obtain ⟨ve,vn,rfl,⟨ae,ecs,rfl,hecs,hex⟩,hn⟩:=hf
   obtain ⟨vt,va,vb,vl,rfl,ht,ha,hb,hl⟩:=hex.parts
   obtain ⟨aa,ca,rfl⟩:=each_sl ha
   obtain ⟨ab,cb,rfl⟩:=each_sl hb
   unfold endS at hres
   simp only at hres
   match hargs:e.args,hbinds:e.binds,hres with
   | y::rest,bd::bl,hres=>
   cases hres
   have la:0 < e.args.length:=by rw [hargs];simp
   have lb:0 < e.binds.length:=by rw [hbinds];simp
   have ha0:e.args[0]=y:=by simp [hargs]
   have hb0:e.binds[0]=bd:=by simp [hbinds]
   have b1:(0:Int)≤0∧(0:Int) < e.args.length:=by omega
   have b2:(0:Int)≤0∧(0:Int) < e.binds.length:=by omega
   refine fit50.calls rfl ?_
   unfold ir50
   (try simp only [go_sem,simprocAttr])
   refine e_bx rfl ?_
   intro w1 hb1 hm1 hs1
   have ecs1:=hecs.up (mod0 hm1 (S:=S)) out_not (out_up (mod0 hm1))
   have ua:=ha.up (mod0 hm1 (S:=S)) out_not (out_up (mod0 hm1)) (fun _ _ h=>h.up (mod0 hm1 (S:=S)) out_not (out_up (mod0 hm1)))
   have ub:=hb.up (mod0 hm1 (S:=S)) out_not (out_up (mod0 hm1)) (fun _ _ h=>h.up (mod0 hm1 (S:=S)) out_not (out_up (mod0 hm1)))
   obtain ⟨ad,c,e6,hp⟩:=arg_ptr ua la
   obtain ⟨rfl,-,-⟩:=tup_inj e6
   obtain ⟨adb,c,e6,hbn,hbl,_⟩:=bind_ptr ub lb
   obtain ⟨rfl,-,-⟩:=tup_inj e6
   rw [ha0,Nat.zero_mul,add_zero'] at hp
   rw [hb0,Nat.zero_mul,add_zero'] at hbn
   have k4:w1.cell? ⟨ae.block,ae.off+4,none⟩=some (.slice (some ad) e.args.length ca):=ecs1.at (k:=4) (by simp)
   have k5:w1.cell? ⟨ae.block,ae.off+5,none⟩=some (.slice (some adb) e.binds.length cb):=ecs1.at (k:=5) (by simp)
   have hn1:=hn.up (mod0 hm1 (S:=S)) out_not (out_up (mod0 hm1)) (fun _ _ h=>h)
   have hone:=hn1.one
   (try simp only [go_sem,simprocAttr,cell_of hb1,Int.reduceBEq])
   (try simp only [go_sem,simprocAttr,zb4,zb6,cell_of hb1,k4,k5,hbn,b1,b2,Nat.zero_mul,add_zero',Int.reduceBEq,hone])
   have l4:(⟨ae.block,ae.off+4,none⟩:Addr).block < w1.heap.size:=cell_lt k4
   have l5:adb.block < w1.heap.size:=cell_lt hbn
   have l1:=lt_of_heap hb1
   refine e_bx rfl ?_
   intro w2 hb2 hm2' hs2
   have hm2:Mod (fun _=>False) w1 w2:=hm2'.of_drew
   refine ⟨⟨hm2.old _ l1 _root_.id,hm2.old _ l5 _root_.id,hm2.old _ l4 _root_.id,hm2.old _ l1 _root_.id,hm2.old _ l4 _root_.id,hm2.old _ l1 _root_.id⟩,?_⟩
   (try simp only [go_sem,simprocAttr,hone])
   refine e_bx rfl ?_
   intro w3 hb3 hm3 hs3
   have l4:ae.block < w1.heap.size:=l4
   have z12:=hm2.size
   have z2:w2.heap.size=w1.heap.size+1:=hs2
   refine ⟨⟨hm3.old _ (by omega) _root_.id,hm3.old _ (by omega) _root_.id⟩,?_⟩
   have hm02:=hm1.trans hm2
   have hm23:=hm2.trans hm3
   have hm03:=hm1.trans hm23
   have hnew:∀ b,b < w.heap.size→And1 S w1.heap.size b→S b:=and1_new (by have:=hm1.size;omega)
   have hnew1:∀ b,b < w1.heap.size→And1 S w1.heap.size b→S b:=and1_new (Nat.le_refl _)
   have hR2:=(h.keep hm1).new (x:=x) (v:=.iface T z) hm2 hb2 (Nat.le_refl _) (hu.up (mod0 hm02 (S:=S)) out_not (out_ext (mod0 hm02) hnew) app_get)
   have hg:Grew S (And1 S w1.heap.size) w:=⟨fun b hb=>.inl hb,fun b hb=>by
     rcases hb with h | h
     · exact .inl h
     · right;have:=hm1.size;omega⟩
   refine ret_trans hg (app_get (b:=w1.heap.size)) (mod0 hm02) (w':=w2) ?_
   refine ret_keep hR2 hm3 ⟨_,_,rfl,hp.up (mod0 hm23 (S:=S)) out_not (out_ext (mod0 hm23) hnew1),⟨_,w1.heap.size,vn,rfl,?_,nd_new (cs:=[.string bd.name,ptr w1.heap.size,vn]) hb3 ?_,hn1.up (mod0 hm23 (S:=S)) out_not (out_ext (mod0 hm23) hnew1) app_get⟩⟩
   · rw [← hh.len,List.getElem?_append_right (Nat.le_refl _)];simp
   · rintro (hx | hx)
     · have:=hh.lt _ hx;have:=hm1.size;omega
     · omega
end
section
open Go Go.W
section
variable {α:Type}
theorem adel_nil (k:ByteArray):adel ([]:List (ByteArray×α)) k=[]:=by simp [adel]
theorem adel_cons (p:ByteArray×α) (l:List (ByteArray×α)) (k:ByteArray):adel (p::l) k=if p.1=k then l else p::adel l k:=by
 unfold adel
 rw [List.findIdx?_cons]
 by_cases h:p.1=k
 · simp [h]
 · simp only [h,decide_false,if_false]
   cases l.findIdx? (fun p=>decide (p.1=k))<;>simp
abbrev Uq (l:List (ByteArray×α)):Prop:=(l.map (·.1)).Nodup
theorem aget_keys (l:List (ByteArray×α)) (k:ByteArray):aget l k=none↔k∉l.map (·.1):=by
 induction l with
 | nil=>simp [aget_nil]
 | cons p l ih=>
   rw [aget_cons]
   by_cases h:p.1=k
   · simp [h]
   · rw [if_neg h,ih]
     simp only [List.map_cons,List.mem_cons,not_or]
     exact ⟨fun hh=>⟨fun e=>h e.symm,hh⟩,fun hh=>hh.2⟩
theorem aput_keys (l:List (ByteArray×α)) (k:ByteArray) (v:α):∀ x,x∈(aput l k v).map (·.1)→x=k∨x∈l.map (·.1):=by
 intro x hx
 by_cases h:k=x
 · exact .inl h.symm
 · right
   apply Classical.byContradiction
   intro hn
   have h1:=(aget_keys l x).2 hn
   have h2:aget (aput l k v) x=none:=by rw [aget_aput,if_neg h];exact h1
   exact (aget_keys _ _).1 h2 hx
theorem uq_aput {l:List (ByteArray×α)} (h:Uq l) (k:ByteArray) (v:α):Uq (aput l k v):=by
 induction l with
 | nil=>rw [aput_nil];simp [Uq]
 | cons p l ih=>
   rw [aput_cons]
   have h1:p.1∉l.map (·.1)∧Uq l:=by simpa [Uq] using h
   split
   · rename_i e
     have:k∉l.map (·.1)∧Uq l:=by rw [← e];exact h1
     simpa [Uq] using this
   · rename_i e
     have:p.1∉(aput l k v).map (·.1)∧Uq (aput l k v):=⟨fun hm=>by
       rcases aput_keys l k v _ hm with h2 | h2
       · exact e h2
       · exact h1.1 h2,ih h1.2⟩
     simpa [Uq] using this
theorem adel_keys (l:List (ByteArray×α)) (k:ByteArray):∀ x,x∈(adel l k).map (·.1)→x∈l.map (·.1):=by
 intro x hx
 obtain ⟨p,hp,rfl⟩:=List.mem_map.1 hx
 exact List.mem_map_of_mem (adel_mem hp)
theorem uq_adel {l:List (ByteArray×α)} (h:Uq l) (k:ByteArray):Uq (adel l k):=by
 induction l with
 | nil=>rw [adel_nil];simp [Uq]
 | cons p l ih=>
   rw [adel_cons]
   have h1:p.1∉l.map (·.1)∧Uq l:=by simpa [Uq] using h
   split
   · exact h1.2
   · have:p.1∉(adel l k).map (·.1)∧Uq (adel l k):=⟨fun hm=>h1.1 (adel_keys l k _ hm),ih h1.2⟩
     simpa [Uq] using this
theorem aget_adel {l:List (ByteArray×α)} (h:Uq l) (k x:ByteArray):aget (adel l k) x=if k=x then none else aget l x:=by
 induction l with
 | nil=>rw [adel_nil];simp [aget_nil]
 | cons p l ih=>
   have h1:p.1∉l.map (·.1)∧Uq l:=by simpa [Uq] using h
   rw [adel_cons]
   by_cases e:p.1=k
   · rw [if_pos e]
     by_cases e2:k=x
     · rw [if_pos e2,(aget_keys l x).2 (by rw [← e2,← e];exact h1.1)]
     · rw [if_neg e2,aget_cons,if_neg (by rw [e];exact e2)]
   · rw [if_neg e,aget_cons,ih h1.2,aget_cons]
     by_cases e2:p.1=x
     · rw [if_pos e2,if_neg (fun h=>e (by rw [h,e2])),if_pos e2]
     · rw [if_neg e2,if_neg e2]
end
structure StOk (E:Env) (st:St):Prop where
 good:GoodL E st.2
 uq:Uq st.2
 bound:∀ x,has st.1 x=false→aget st.2 x=none
structure Kp (E:Env) (st st':St):Prop where
 ok:StOk E st'
 same:∀ x,aget st'.2 x=aget st.2 x
 more:∀ x,has st'.1 x=false→has st.1 x=false
theorem Kp.refl {E:Env} {st:St} (h:StOk E st):Kp E st st:=⟨h,fun _=>rfl,fun _ h=>h⟩
theorem Kp.trans {E:Env} {a b c:St} (h:Kp E a b) (k:Kp E b c):Kp E a c:=⟨k.ok,fun x=>(k.same x).trans (h.same x),fun x hx=>h.more x (k.more x hx)⟩
theorem has_put (l:Cnt) (n x:ByteArray):has (aput l n 1) x=(decide (n=x)||has l x):=by
 unfold has
 rw [aget_aput]
 by_cases h:n=x<;>simp [h]
theorem bindS_ok {E:Env} {b:Bd} {bd bd':Cnt} (h:bindS E b bd = .ok bd'):has bd b.name=false∧bd'=aput bd b.name 1:=by
 unfold bindS at h
 split at h
 · cases h
 · rename_i hn
   split at h
   · cases h
     simp only [Bool.or_eq_true,not_or] at hn
     exact ⟨by simpa using hn.2,rfl⟩
   · cases h
theorem bindsS_ok {E:Env}:∀ (l:List Bd) (bd bd':Cnt),bindsS E l bd = .ok bd'→(∀ b∈l,has bd b.name=false∧Good E b.type)∧(∀ x,has bd' x=false→has bd x=false∧∀ b∈l,b.name≠x)
 | [],bd,bd',h=>by rw [bindsS] at h;cases h;exact ⟨fun b hb=>(by cases hb),fun x hx=>⟨hx,fun b hb=>(by cases hb)⟩⟩
 | b::l,bd,bd',h=>by
   rw [bindsS] at h
   split at h
   · cases h
   · rename_i bd1 h1
     obtain ⟨a1,a2⟩:=bindS_ok h1
     obtain ⟨b1,b2⟩:=bindsS_ok l bd1 bd' h
     subst a2
     refine ⟨fun c hc=>?_,fun x hx=>?_⟩
     · rcases List.mem_cons.1 hc with rfl | hc
       · exact ⟨a1,bind_good h1⟩
       · have:=(b1 c hc).1
         rw [has_put] at this
         simp only [Bool.or_eq_false_iff] at this
         exact ⟨this.2,(b1 c hc).2⟩
     · obtain ⟨c1,c2⟩:=b2 x hx
       rw [has_put] at c1
       simp only [Bool.or_eq_false_iff,decide_eq_false_iff_not] at c1
       refine ⟨c1.2,fun c hc=>?_⟩
       rcases List.mem_cons.1 hc with rfl | hc
       · exact c1.1
       · exact c2 c hc
abbrev Gm:=ByteArray→Option Ty
def gput (Γ:Gm) (n:ByteArray) (t:Ty):Gm:=fun x=>if n=x then some t else Γ x
def gputB:List Bd→Gm→Gm
 | [],Γ=>Γ
 | b::l,Γ=>gputB l (gput Γ b.name b.type)
theorem putB_get:∀ (l:List Bd) (lc:Loc) (x:ByteArray),aget (putB l lc) x=gputB l (aget lc) x
 | [],lc,x=>rfl
 | b::l,lc,x=>by
   rw [putB,putB_get l,gputB]
   have:aget (aput lc b.name b.type)=gput (aget lc) b.name b.type:=by
     funext y;rw [aget_aput];try rfl
   rw [this]
theorem gputB_none:∀ (l:List Bd) (Γ:Gm) (x:ByteArray),(∀ b∈l,b.name≠x)→gputB l Γ x=Γ x
 | [],Γ,x,_=>rfl
 | b::l,Γ,x,h=>by
   rw [gputB,gputB_none l _ x (fun c hc=>h c (by simp [hc]))]
   exact if_neg (h b (by simp))
theorem gputB_twice:∀ (l:List Bd) (Γ:Gm) (x:ByteArray),gputB l (gputB l Γ) x=gputB l Γ x:=by
 have key:∀ (l:List Bd) (Γ Γ':Gm) (x:ByteArray),Γ x=Γ' x∨(∃ b∈l,b.name=x)→gputB l Γ x=gputB l Γ' x:=by
   intro l
   induction l with
   | nil => intro Γ Γ' x h; rcases h with h | ⟨b, hb, _⟩
            · exact h
            · cases hb
   | cons b l ih=>
     intro Γ Γ' x h
     rw [gputB,gputB]
     apply ih
     by_cases hn:b.name=x
     · left;unfold gput;rw [if_pos hn,if_pos hn]
     · rcases h with h | ⟨c,hc,h⟩
       · left;unfold gput;rw [if_neg hn,if_neg hn];exact h
       · rcases List.mem_cons.1 hc with rfl | hc
         · exact absurd h hn
         · exact .inr ⟨c,hc,h⟩
 intro l Γ x
 apply key
 by_cases h:∃ b∈l,b.name=x
 · exact .inr h
 · left
   exact gputB_none l Γ x (fun b hb e=>h ⟨b,hb,e⟩)
theorem uq_putB:∀ (l:List Bd) {lc:Loc},Uq lc→Uq (putB l lc)
 | [],_,h=>h
 | b::l,_,h=>uq_putB l (uq_aput h _ _)
theorem uq_delN:∀ (l:List ByteArray) {lc:Loc},Uq lc→Uq (delN l lc)
 | [],_,h=>h
 | s::l,_,h=>uq_delN l (uq_adel h _)
theorem delN_get:∀ (l:List ByteArray) {lc:Loc},Uq lc→∀ x,(x∈l→aget (delN l lc) x=none)∧(x∉l→aget (delN l lc) x=aget lc x)
 | [],_,_,x=>⟨fun h=>(by cases h),fun _=>rfl⟩
 | s::l,lc,h,x=>by
   obtain ⟨h1,h2⟩:=delN_get l (uq_adel h s) x
   rw [delN]
   rw [aget_adel h] at h2
   by_cases hm:x∈l
   · exact ⟨fun _=>h1 hm,fun hn=>absurd (List.mem_cons_of_mem _ hm) hn⟩
   · by_cases hs:s=x
     · rw [if_pos hs] at h2
       exact ⟨fun _=>h2 hm,fun hn=>absurd (by rw [hs];simp) hn⟩
     · rw [if_neg hs] at h2
       refine ⟨fun hc=>?_,fun _=>h2 hm⟩
       rcases List.mem_cons.1 hc with e | e
       · exact absurd e.symm hs
       · exact absurd e hm
def KpE (E:Env) (e:Ex):Prop:=∀ st y,StOk E st→exprS E e st = .ok y→Kp E st y.2
section
variable {E:Env}
theorem exprs_kp:∀ (l:List Ex),(∀ u∈l,KpE E u)→∀ st y,StOk E st→exprsS E l st = .ok y→Kp E st y.2
 | [],_,st,y,hs,h=>by rw [exprsS] at h;cases h;exact .refl hs
 | e::l,hg,st,y,hs,h=>by
   rw [exprsS] at h
   split at h
   · cases h
   · rename_i y1 h1
     have k1:=hg e (by simp) st y1 hs h1
     split at h
     · cases h
     · rename_i z h2
       cases h
       exact k1.trans (exprs_kp l (fun u hu=>hg u (by simp [hu])) _ z k1.ok h2)
theorem bds_kp:∀ (l:List Bd),(∀ b∈l,KpE E b.value)→∀ st y,StOk E st→bdsS E l st = .ok y→Kp E st y
 | [],_,st,y,hs,h=>by rw [bdsS] at h;cases h;exact .refl hs
 | b::l,hg,st,y,hs,h=>by
   rw [bdsS_cons] at h
   split at h
   · cases h
   · rename_i y1 h1
     have k1:=hg b (by simp) st y1 hs h1
     split at h
     · exact k1.trans (bds_kp l (fun u hu=>hg u (by simp [hu])) _ _ k1.ok h)
     · cases h
def gputV (ps:List ByteArray) (bs:List Ty):List ByteArray→List Ty→Gm→Gm
 | s::l,f::fs,Γ=>gputV ps bs l fs (gput Γ s (putS ps bs f).1)
 | _,_,Γ=>Γ
theorem putVs_get {ps:List ByteArray} {bs:List Ty}:∀ (vs:List ByteArray) (fs:List Ty) (lc lc':Loc),putVs ps bs vs fs lc = .ok lc'→(∀ x,aget lc' x=gputV ps bs vs fs (aget lc) x)∧(Uq lc→Uq lc')
 | s::l,f::fs,lc,lc',h=>by
   rw [putVs] at h
   split at h
   · obtain ⟨h1,h2⟩:=putVs_get l fs _ _ h
     refine ⟨fun x=>?_,fun hu=>h2 (uq_aput hu _ _)⟩
     rw [h1,gputV]
     have:aget (aput lc s (putS ps bs f).1)=gput (aget lc) s (putS ps bs f).1:=by
       funext y;rw [aget_aput];try rfl
     rw [this]
   · cases h
 | [],_,lc,lc',h=>by
   rw [putVs] at h
   · cases h;exact ⟨fun x=>(by rw [gputV];simp),fun h=>h⟩
   · simp
 | s::l,[],lc,lc',h=>by
   rw [putVs] at h
   · cases h;exact ⟨fun x=>(by rw [gputV];simp),fun h=>h⟩
   · simp
theorem gputV_none {ps:List ByteArray} {bs:List Ty}:∀ (vs:List ByteArray) (fs:List Ty) (Γ:Gm) (x:ByteArray),x∉vs→gputV ps bs vs fs Γ x=Γ x
 | s::l,f::fs,Γ,x,h=>by
   rw [gputV,gputV_none l fs _ x (fun hh=>h (by simp [hh]))]
   exact if_neg (fun e=>h (by simp [e]))
 | [],_,Γ,x,h=>by rw [gputV];simp
 | s::l,[],Γ,x,h=>by rw [gputV];simp
theorem varsS_ok:∀ (l:List ByteArray) (bd bd':Cnt),varsS l bd = .ok bd'→(∀ s∈l,has bd s=false)∧(∀ x,has bd' x=false→has bd x=false∧x∉l)
 | [],bd,bd',h=>by rw [varsS] at h;cases h;exact ⟨fun b hb=>(by cases hb),fun x hx=>⟨hx,by simp⟩⟩
 | s::l,bd,bd',h=>by
   rw [varsS] at h
   split at h
   · cases h
   · rename_i hn
     simp only [Bool.or_eq_true,not_or] at hn
     obtain ⟨b1,b2⟩:=varsS_ok l _ bd' h
     refine ⟨fun c hc=>?_,fun x hx=>?_⟩
     · rcases List.mem_cons.1 hc with rfl | hc
       · simpa using hn.2
       · have:=b1 c hc
         rw [has_put] at this
         simp only [Bool.or_eq_false_iff] at this
         exact this.2
     · obtain ⟨c1,c2⟩:=b2 x hx
       rw [has_put] at c1
       simp only [Bool.or_eq_false_iff,decide_eq_false_iff_not] at c1
       exact ⟨c1.2,fun hc=>by
         rcases List.mem_cons.1 hc with rfl | hc
         · exact c1.1 rfl
         · exact c2 hc⟩
theorem altR_in {of:Ty} (hE:GoodE E) (hof:Good E of) {a:Al} (hk:a.kind=1→of.kind=4) {st:St} {y:Ty×St} (hs:StOk E st) (h:altR E of a.kind a.con a.vars (exprS E a.body) st = .ok y) :
   (a.kind≠1∧exprS E a.body st = .ok y) ∨
   (a.kind=1∧∃ x st1 y1,aget E.cons a.con=some x∧x.1.name=of.name∧(conFields x.1 x.2).length=a.vars.length∧StOk E st1∧(∀ s,aget st1.2 s=gputV x.1.params of.args a.vars (conFields x.1 x.2) (aget st.2) s) ∧
     exprS E a.body st1 = .ok y1∧y1.1=y.1∧(Kp E st1 y1.2→Kp E st y.2)∧putVs x.1.params of.args a.vars (conFields x.1 x.2) st.2 = .ok st1.2):=by
 unfold altR at h
 split at h
 · rename_i hne
   exact .inl ⟨by simpa using hne,h⟩
 · rename_i hne
   have hk1:a.kind=1:=by simpa using hne
   right
   refine ⟨hk1,?_⟩
   split at h
   · cases h
   · rename_i x hx
     split at h
     · cases h
     · rename_i hn
       have hname:x.1.name=of.name:=by
         have h1:strEq x.1.name of.name=true:=by simpa using hn
         rw [strEq_iff] at h1
         simpa using h1
       split at h
       · cases h
       · rename_i hl
         have hlen:(conFields x.1 x.2).length=a.vars.length:=by
           have:((conFields x.1 x.2).length:Int)=a.vars.length:=by simpa using hl
           omega
         split at h
         · cases h
         · rename_i bd hbd
           split at h
           · cases h
           · rename_i lc hlc
             split at h
             · cases h
             · rename_i y1 hy1
               cases h
               obtain ⟨v1,v2⟩:=varsS_ok _ _ _ hbd
               obtain ⟨p1,p2⟩:=putVs_get _ _ _ _ hlc
               obtain ⟨⟨d,hd1,hd2⟩,hw⟩:=hE.cons _ _ hx
               have hb:∀ b∈of.args,Good E b:=fun b hb=>good_mem hof hb
               have hle:x.1.params.length≤of.args.length:=by
                 have:=hof.1
                 rw [of.wf_eq,hk hk1,Bool.and_eq_true,Bool.and_eq_true] at this
                 have h3:=this.1.2
                 have h4:badData E of.name of.args.length=false:=by simpa using h3
                 unfold badData at h4
                 rw [← hname,hd1] at h4
                 have h5:(d.params.length:Int)=of.args.length:=by simpa using h4
                 omega
               have hok:StOk E (bd,lc):=⟨putVs_good hb hle _ _ hw _ _ hs.good hlc,p2 hs.uq,fun z hz=>by
                 obtain ⟨q1,q2⟩:=v2 z hz
                 show aget lc z=none
                 rw [p1,gputV_none _ _ _ _ q2]
                 exact hs.bound z q1⟩
               refine ⟨x,(bd,lc),y1,hx,hname,hlen,hok,p1,hy1,rfl,fun hkp=>?_,hlc⟩
               have hsame:∀ z,aget (delN a.vars y1.2.2) z=aget st.2 z:=fun z=>by
                 by_cases hz:z∈a.vars
                 · rw [(delN_get _ hkp.ok.uq z).1 hz];exact (hs.bound z (v1 z hz)).symm
                 · rw [(delN_get _ hkp.ok.uq z).2 hz,hkp.same]
                   show aget lc z=_
                   rw [p1,gputV_none _ _ _ _ hz]
               have hmore:∀ z,has y1.2.1 z=false→has st.1 z=false:=fun z hz=>(v2 z (hkp.more z hz)).1
               exact ⟨⟨hkp.ok.good.delN _,uq_delN _ hkp.ok.uq,fun z hz=>by rw [hsame];exact hs.bound z (hmore z hz)⟩,hsame,hmore⟩
theorem alts_kp (hE:GoodE E) {all:List Al} {of:Ty} (hof:Good E of):∀ (l:List Al) (i:Nat),all.drop i=l→(∀ a∈l,KpE E a.body)→∀ (first:Ty) (st:St) (y:Ty×St),StOk E st→altsS E all of l i first st = .ok y→Kp E st y.2
 | [],i,_,_,first,st,y,hs,h=>by rw [altsS] at h;cases h;exact .refl hs
 | a::l,i,hd,hg,first,st,y,hs,h=>by
   have hi:i < all.length:=by
     apply Classical.byContradiction;intro hn
     rw [List.drop_eq_nil_of_le (by omega)] at hd;cases hd
   rw [List.drop_eq_getElem_cons hi] at hd
   injection hd with ha hd'
   rw [altsS_cons] at h
   split at h
   · cases h
   · rename_i hform
     have hform:altFormedS all i of=true:=by simpa using hform
     have hk:a.kind=1→of.kind=4:=fun hk=>altF_kind (a:=a) (by rw [List.getElem?_eq_getElem hi,ha]) hform hk
     split at h
     · cases h
     · rename_i y1 h1
       have k1:Kp E st y1.2:=by
         rcases altR_in hE hof hk hs h1 with ⟨_,h2⟩ | ⟨_,x,st1,y2,_,_,_,ok1,_,h2,_,h3,_⟩
         · exact hg a (by simp) _ _ hs h2
         · exact h3 (hg a (by simp) _ _ ok1 h2)
       split at h
       · exact k1.trans (alts_kp hE hof l (i+1) hd' (fun b hb=>hg b (by simp [hb])) _ _ _ k1.ok h)
       · split at h
         · exact k1.trans (alts_kp hE hof l (i+1) hd' (fun b hb=>hg b (by simp [hb])) _ _ _ k1.ok h)
         · cases h
theorem StOk.putB {st:St} (hs:StOk E st) {l:List Bd} {bd:Cnt} (h:bindsS E l st.1 = .ok bd) {bd':Cnt} (hm:∀ x,has bd' x=false→has bd x=false):StOk E (bd',putB l st.2):=by
 obtain ⟨b1,b2⟩:=bindsS_ok _ _ _ h
 refine ⟨hs.good.putB l (fun b hb=>(b1 b hb).2),uq_putB l hs.uq,fun x hx=>?_⟩
 obtain ⟨c1,c2⟩:=b2 x (hm x hx)
 show aget (Go.Proofs.YtjfgeekjjlhbdaaGreatDoor.putB l st.2) x=none
 rw [putB_get,gputB_none _ _ _ c2]
 exact hs.bound x c1
theorem Kp.delB {st st3:St} (hs:StOk E st) {l:List Bd} {bd:Cnt} (h:bindsS E l st.1 = .ok bd) (h3:StOk E st3) (hsame:∀ x,(∀ b∈l,b.name≠x)→aget st3.2 x=aget st.2 x) (hm:∀ x,has st3.1 x=false→has bd x=false):Kp E st (st3.1,delB l st3.2):=by
 obtain ⟨b1,b2⟩:=bindsS_ok _ _ _ h
 have hs2:∀ x,aget (Go.Proofs.YtjfgeekjjlhbdaaGreatDoor.delB l st3.2) x=aget st.2 x:=fun x=>by
   unfold Go.Proofs.YtjfgeekjjlhbdaaGreatDoor.delB
   by_cases hx:x∈l.map Bd.name
   · rw [(delN_get _ h3.uq x).1 hx]
     obtain ⟨b,hb,rfl⟩:=List.mem_map.1 hx
     exact (hs.bound _ (b1 b hb).1).symm
   · rw [(delN_get _ h3.uq x).2 hx]
     exact hsame x (fun b hb e=>hx (by rw [← e];exact List.mem_map_of_mem hb))
 have hmore:∀ x,has st3.1 x=false→has st.1 x=false:=fun x hx=>(b2 x (hm x hx)).1
 exact ⟨⟨h3.good.delN _,uq_delN _ h3.uq,fun x hx=>by
   show aget (Go.Proofs.YtjfgeekjjlhbdaaGreatDoor.delB l st3.2) x=none
   rw [hs2];exact hs.bound x (hmore x hx)⟩,hs2,hmore⟩
end
end
section
open Go Go.W
section
variable {E:Env}
theorem expr_kp (hE:GoodE E) (hb:badData E boolN 0=false) (e:Ex):KpE E e:=by
 induction e using Ex.ind with
 | h e ih1 ih2 ih3=>
 intro st y hs h
 have hgood:=(expr_good hE hb e st y hs.good h).2
 rw [exprS_eq] at h
 by_cases hf:formedS e=false
 · rw [if_pos hf] at h;cases h
 rw [if_neg hf] at h
 have F:=formed_of (by simpa using hf)
 by_cases hk:e.kind=1
 · rw [if_pos hk] at h
   split at h
   · cases h
   · cases h;exact .refl hs
 rw [if_neg hk] at h
 by_cases hk:e.kind=2
 · rw [if_pos hk] at h;cases h;exact .refl hs
 rw [if_neg hk] at h
 by_cases hk:e.kind=3
 · rw [if_pos hk] at h
   split at h
   · cases h
   · obtain ⟨t,ht,rfl⟩:=exmap_ok h;exact .refl hs
 rw [if_neg hk] at h
 by_cases hk:e.kind=4
 · rw [if_pos hk] at h
   split at h
   · cases h
   · obtain ⟨t,ht,rfl⟩:=exmap_ok h;exact .refl hs
 rw [if_neg hk] at h
 by_cases hk:e.kind=12
 · rw [if_pos hk] at h
   split at h
   · cases h
   · split at h
     · cases h;exact .refl hs
     · cases h
 rw [if_neg hk] at h
 by_cases hk:e.kind=5
 · rw [if_pos hk] at h
   split at h
   · cases h
   · rename_i y1 h1
     obtain ⟨t,ht,rfl⟩:=exmap_ok h
     exact exprs_kp _ ih1 _ _ hs h1
 rw [if_neg hk] at h
 by_cases hk:e.kind=9
 · rw [if_pos hk] at h
   split at h
   · cases h
   · rename_i y1 h1
     obtain ⟨t,ht,rfl⟩:=exmap_ok h
     exact exprs_kp _ ih1 _ _ hs h1
 rw [if_neg hk] at h
 by_cases hk:e.kind=10
 · rw [if_pos hk] at h
   split at h
   · cases h
   · rename_i y1 h1
     cases h
     exact exprs_kp _ ih1 _ _ hs h1
 rw [if_neg hk] at h
 by_cases hk:e.kind=6
 · rw [if_pos hk] at h
   split at h
   · cases h
   · rename_i b bs hbs
     split at h
     · cases h
     · rename_i bd h1
       split at h
       · cases h
       · rename_i y1 h2
         obtain ⟨t,ht,rfl⟩:=exmap_ok h
         obtain ⟨a1,a2⟩:=bindS_ok h1
         have hok:StOk E (bd,aput st.2 b.name b.type):=⟨hs.good.put (bind_good h1),uq_aput hs.uq _ _,fun x hx=>by
           have hx:has bd x=false:=hx
           rw [a2,has_put,Bool.or_eq_false_iff,decide_eq_false_iff_not] at hx
           show aget (aput st.2 b.name b.type) x=none
           rw [aget_aput,if_neg hx.1];exact hs.bound x hx.2⟩
         have k:=exprs_kp _ ih1 _ _ hok h2
         have hsame:∀ x,aget (adel y1.2.2 b.name) x=aget st.2 x:=fun x=>by
           rw [aget_adel k.ok.uq]
           by_cases hx:b.name=x
           · rw [if_pos hx];subst hx;exact (hs.bound _ a1).symm
           · rw [if_neg hx,k.same]
             show aget (aput st.2 b.name b.type) x=_
             rw [aget_aput,if_neg hx]
         have hmore:∀ x,has y1.2.1 x=false→has st.1 x=false:=fun x hx=>by
           have:=k.more x hx
           have this:has bd x=false:=this
           rw [a2,has_put,Bool.or_eq_false_iff] at this
           exact this.2
         exact ⟨⟨k.ok.good.del _,uq_adel k.ok.uq _,fun x hx=>by rw [hsame];exact hs.bound x (hmore x hx)⟩,hsame,hmore⟩
 rw [if_neg hk] at h
 by_cases hk:e.kind=7∨e.kind=11
 · rw [if_pos hk] at h
   split at h
   · cases h
   · rename_i bd h1
     split at h
     · cases h
     · rename_i st2 h2
       split at h
       · cases h
       · rename_i y1 h3
         cases h
         obtain ⟨b1,b2⟩:=bindsS_ok _ _ _ h1
         have hs0:StOk E (bd,st.2):=⟨hs.good,hs.uq,fun x hx=>hs.bound x (b2 x hx).1⟩
         have hok:StOk E (bd,if e.kind=7 then putB e.binds st.2 else st.2):=by
           by_cases h7:e.kind=7
           · rw [if_pos h7];exact hs.putB h1 (fun _ h=>h)
           · rw [if_neg h7];exact hs0
         have k1:=bds_kp _ ih2 _ _ hok h2
         have hsame1:∀ x,(∀ b∈e.binds,b.name≠x)→aget st2.2 x=aget st.2 x:=fun x hx=>by
           rw [k1.same]
           show aget (if e.kind=7 then putB e.binds st.2 else st.2) x=_
           by_cases h7:e.kind=7
           · rw [if_pos h7,putB_get,gputB_none _ _ _ hx]
           · rw [if_neg h7]
         have hok2:StOk E (st2.1,putB e.binds st2.2):=⟨k1.ok.good.putB _ (fun b hb=>(b1 b hb).2),uq_putB _ k1.ok.uq,fun x hx=>by
           obtain ⟨c1,c2⟩:=b2 x (k1.more x hx)
           show aget (putB e.binds st2.2) x=none
           rw [putB_get,gputB_none _ _ _ c2,hsame1 x c2]
           exact hs.bound x c1⟩
         have k2:=exprs_kp _ ih1 _ _ hok2 h3
         refine Kp.delB hs h1 k2.ok (fun x hx=>?_) (fun x hx=>k1.more x (k2.more x hx))
         rw [k2.same]
         show aget (putB e.binds st2.2) x=_
         rw [putB_get,gputB_none _ _ _ hx]
         exact hsame1 x hx
 rw [if_neg hk] at h
 split at h
 · cases h
 · rename_i y1 h1
   have k1:=exprs_kp _ ih1 _ _ hs h1
   split at h
   · cases h
   · have hl:e.args.length=1:=F.a1 (by have:=F.rng;omega)
     obtain ⟨g1,g2,g3⟩:=exprs_good e.args (fun u _=>expr_good hE hb u) _ _ hs.good h1
     have hof:Good E (y1.1.headD default):=by
       cases hy:y1.1 with
       | nil=>rw [hy] at g3;simp at g3;omega
       | cons t ts=>exact g1 t (by rw [hy];simp)
     exact k1.trans (alts_kp hE hof e.alts 0 rfl ih3 _ _ _ k1.ok h)
def Chk (E:Env) (Γ:Gm) (e:Ex) (T:Ty):Prop:=∃ st y,StOk E st∧(∀ x,aget st.2 x=Γ x)∧exprS E e st = .ok y∧y.1=T
theorem gm_eq {st:St} {Γ:Gm} (h:∀ x,aget st.2 x=Γ x):aget st.2=Γ:=funext h
variable {Γ:Gm} {e:Ex} {T:Ty}
theorem chk_formed (h:Chk E Γ e T):formedS e=true:=by
 obtain ⟨st,y,_,_,h,_⟩:=h
 rw [exprS_eq] at h
 by_cases hf:formedS e=false
 · rw [if_pos hf] at h;cases h
 · simpa using hf
theorem chk_at {k:Int} (h:Chk E Γ e T) (hk:e.kind=k):∃ st y,StOk E st∧(∀ x,aget st.2 x=Γ x)∧y.1=T∧Formed e∧exprS E e st = .ok y∧((Except.ok y:Except Int (Ty×St)) =
   if k=1 then (match aget st.2 e.name with | none=>.error 82 | some t=>.ok (t,st))
   else if k=2 then .ok (.mk 1 noStr [],st)
   else if k=3 then (match aget E.defs e.name with | none=>.error 82 | some d=>(namedS E d.type d.params e.types).map (fun t=>(t,st)))
   else if k=4 then (match aget E.cons e.name with | none=>.error 82 | some x=>(namedS E (conT x.1 x.2) x.1.params e.types).map (fun t=>(t,st)))
   else if k=12 then (match e.types with | []=>.error 84 | t::_=>if rightS E t=true then .ok (t,st) else .error 83)
   else if k=5 then (match exprsS E e.args st with | .error x=>.error x | .ok y=>(appS E y.1).map (fun t=>(t,y.2)))
   else if k=9 then (match exprsS E e.args st with | .error x=>.error x | .ok y=>(opS e.name y.1).map (fun t=>(t,y.2)))
   else if k=10 then (match exprsS E e.args st with | .error x=>.error x | .ok y=>.ok (y.1.getLastD default,y.2))
   else if k=6 then (match e.binds with
     | []=>.error 84
     | b::_=>match bindS E b st.1 with
       | .error x=>.error x
       | .ok bd=>match exprsS E e.args (bd,aput st.2 b.name b.type) with
         | .error x=>.error x
         | .ok y=>(lamS b y.1).map (fun t=>(t,(y.2.1,adel y.2.2 b.name))))
   else if k=7∨k=11 then (match bindsS E e.binds st.1 with
     | .error x=>.error x
     | .ok bd=>match bdsS E e.binds (bd,if k=7 then putB e.binds st.2 else st.2) with
       | .error x=>.error x
       | .ok st2=>match exprsS E e.args (st2.1,putB e.binds st2.2) with
         | .error x=>.error x
         | .ok y=>.ok (y.1.headD default,(y.2.1,delB e.binds y.2.2)))
   else match exprsS E e.args st with
     | .error x=>.error x
     | .ok y=>if ((y.1.headD default).kind != 1&&(y.1.headD default).kind != 4)=true then .error 83 else altsS E e.alts (y.1.headD default) e.alts 0 default y.2):=by
 have hf:=chk_formed h
 obtain ⟨st,y,hs,hg,hx,hT⟩:=h
 refine ⟨st,y,hs,hg,hT,formed_of hf,hx,?_⟩
 rw [exprS_eq,if_neg (by rw [hf];simp),hk] at hx
 exact hx.symm
theorem chk_var (h:Chk E Γ e T) (hk:e.kind=1):Γ e.name=some T:=by
 obtain ⟨st,y,hs,hg,rfl,F,_,hx⟩:=chk_at h hk
 rw [if_pos rfl] at hx
 split at hx
 · cases hx
 · rename_i t ht
   cases hx
   rw [← hg,ht]
theorem chk_int (h:Chk E Γ e T) (hk:e.kind=2):T = .mk 1 noStr []:=by
 obtain ⟨st,y,hs,hg,rfl,F,_,hx⟩:=chk_at h hk
 rw [if_neg (by decide),if_pos rfl] at hx
 cases hx;rfl
theorem chk_glob (h:Chk E Γ e T) (hk:e.kind=3):∃ d,aget E.defs e.name=some d∧namedS E d.type d.params e.types = .ok T:=by
 obtain ⟨st,y,hs,hg,rfl,F,_,hx⟩:=chk_at h hk
 rw [if_neg (by decide),if_neg (by decide),if_pos rfl] at hx
 split at hx
 · cases hx
 · rename_i d hd
   obtain ⟨t,ht,rfl⟩:=exmap_ok hx.symm
   exact ⟨d,hd,ht⟩
theorem chk_con (h:Chk E Γ e T) (hk:e.kind=4):∃ x,aget E.cons e.name=some x∧namedS E (conT x.1 x.2) x.1.params e.types = .ok T:=by
 obtain ⟨st,y,hs,hg,rfl,F,_,hx⟩:=chk_at h hk
 rw [if_neg (by decide),if_neg (by decide),if_neg (by decide),if_pos rfl] at hx
 split at hx
 · cases hx
 · rename_i d hd
   obtain ⟨t,ht,rfl⟩:=exmap_ok hx.symm
   exact ⟨d,hd,ht⟩
theorem chk_fail (h:Chk E Γ e T) (hk:e.kind=12):1≤e.num∧e.num≤4:=by
 have hf:=formed_cnt (chk_formed h)
 unfold formOk at hf
 rw [hk] at hf
 have:((cnt e 1 0 0 0&&decide (e.num≥1))&&decide (e.num≤4))=true:=hf
 simp only [Bool.and_eq_true,decide_eq_true_eq] at this
 exact ⟨this.1.2,this.2⟩
theorem two_of {α:Type} {l:List α} (h:l.length=2):∃ a b,l=[a,b]:=by
 match l,h with
 | [a,b],_=>exact ⟨a,b,rfl⟩
theorem one_of {α:Type} {l:List α} (h:l.length=1):∃ a,l=[a]:=by
 match l,h with
 | [a],_=>exact ⟨a,rfl⟩
theorem exprs_two {a b:Ex} {st:St} {y:List Ty×St} (h:exprsS E [a,b] st = .ok y):∃ y1 y2,exprS E a st = .ok y1∧exprS E b y1.2 = .ok y2∧y=([y1.1,y2.1],y2.2):=by
 rw [exprsS] at h
 split at h
 · cases h
 · rename_i y1 h1
   rw [exprsS] at h
   split at h
   · cases h
   · rename_i z h2
     split at h2
     · cases h2
     · rename_i y2 h3
       rw [exprsS] at h2
       cases h2;cases h
       exact ⟨y1,y2,h1,h3,rfl⟩
theorem exprs_one {a:Ex} {st:St} {y:List Ty×St} (h:exprsS E [a] st = .ok y):∃ y1,exprS E a st = .ok y1∧y=([y1.1],y1.2):=by
 rw [exprsS] at h
 split at h
 · cases h
 · rename_i y1 h1
   rw [exprsS] at h
   cases h
   exact ⟨y1,h1,rfl⟩
variable (hE:GoodE E) (hb:badData E boolN 0=false)
include hE hb
theorem chk_good (h:Chk E Γ e T):Good E T:=by
 obtain ⟨st,y,hs,hg,hx,rfl⟩:=h
 exact (expr_good hE hb e st y hs.good hx).1
theorem chk_two {st:St} {a b:Ex} (hs:StOk E st) (hg:∀ x,aget st.2 x=Γ x) {y:List Ty×St} (h:exprsS E [a,b] st = .ok y):∃ A B,Chk E Γ a A∧Chk E Γ b B∧y.1=[A,B]:=by
 obtain ⟨y1,y2,h1,h2,rfl⟩:=exprs_two h
 have k:=expr_kp hE hb a st y1 hs h1
 exact ⟨y1.1,y2.1,⟨st,y1,hs,hg,h1,rfl⟩,⟨y1.2,y2,k.ok,fun x=>(k.same x).trans (hg x),h2,rfl⟩,rfl⟩
theorem chk_app (h:Chk E Γ e T) (hk:e.kind=5):∃ f x F A,e.args=[f,x]∧Chk E Γ f F∧F.kind=3∧F.args=[A,T]∧Chk E Γ x A:=by
 obtain ⟨st,y,hs,hg,rfl,F,_,hx⟩:=chk_at h hk
 obtain ⟨f,x,ha⟩:=two_of (F.a2 (.inl hk))
 simp only [show ¬ (5:Int)=1 by decide,show ¬ (5:Int)=2 by decide,show ¬ (5:Int)=3 by decide,show ¬ (5:Int)=4 by decide,show ¬ (5:Int)=12 by decide,if_false,if_true] at hx
 rw [ha] at hx
 split at hx
 · cases hx
 · rename_i y1 h1
   obtain ⟨A,B,c1,c2,e1⟩:=chk_two hE hb hs hg h1
   obtain ⟨t,ht,rfl⟩:=exmap_ok hx.symm
   rw [e1] at ht
   unfold appS at ht
   simp only at ht
   split at ht
   · cases ht
   · rename_i hk3
     have hk3:A.kind=3:=by simpa using hk3
     split at ht
     · rename_i p q r hargs
       split at ht
       · rename_i hsame
         cases ht
         have hl:=fun_two (chk_good hE hb c1).1 hk3
         rw [hargs] at hl
         have hr:r=[]:=by simpa using hl
         subst hr
         have hp:p=B:=by simpa [sameT] using hsame
         subst hp
         exact ⟨f,x,A,p,ha,c1,hk3,hargs,c2⟩
       · cases ht
     · cases ht
theorem chk_op (h:Chk E Γ e T) (hk:e.kind=9):∃ a b A B,e.args=[a,b]∧Chk E Γ a A∧Chk E Γ b B∧A.kind=1∧B.kind=1∧opsS e.name=some T:=by
 obtain ⟨st,y,hs,hg,rfl,F,_,hx⟩:=chk_at h hk
 obtain ⟨f,x,ha⟩:=two_of (F.a2 (.inr (.inl hk)))
 simp only [show ¬ (9:Int)=1 by decide,show ¬ (9:Int)=2 by decide,show ¬ (9:Int)=3 by decide,show ¬ (9:Int)=4 by decide,show ¬ (9:Int)=12 by decide,show ¬ (9:Int)=5 by decide,if_false,if_true] at hx
 rw [ha] at hx
 split at hx
 · cases hx
 · rename_i y1 h1
   obtain ⟨A,B,c1,c2,e1⟩:=chk_two hE hb hs hg h1
   obtain ⟨t,ht,rfl⟩:=exmap_ok hx.symm
   rw [e1] at ht
   unfold opS at ht
   simp only at ht
   split at ht
   · cases ht
   · rename_i hk3
     cases ht
     simp only [Bool.or_eq_true,not_or] at hk3
     have ho:=F.op hk
     refine ⟨f,x,A,B,ha,c1,c2,by simpa using hk3.1,by simpa using hk3.2,?_⟩
     cases hq:opsS e.name with
     | none=>rw [hq] at ho;cases ho
     | some u=>rfl
theorem chk_seq (h:Chk E Γ e T) (hk:e.kind=10):∃ a b A,e.args=[a,b]∧Chk E Γ a A∧Chk E Γ b T:=by
 obtain ⟨st,y,hs,hg,rfl,F,_,hx⟩:=chk_at h hk
 obtain ⟨f,x,ha⟩:=two_of (F.a2 (.inr (.inr hk)))
 simp only [show ¬ (10:Int)=1 by decide,show ¬ (10:Int)=2 by decide,show ¬ (10:Int)=3 by decide,show ¬ (10:Int)=4 by decide,show ¬ (10:Int)=12 by decide,show ¬ (10:Int)=5 by decide,show ¬ (10:Int)=9 by decide,if_false,if_true] at hx
 rw [ha] at hx
 split at hx
 · cases hx
 · rename_i y1 h1
   obtain ⟨A,B,c1,c2,e1⟩:=chk_two hE hb hs hg h1
   cases hx
   rw [e1]
   exact ⟨f,x,A,ha,c1,c2⟩
omit hE hb in
theorem chk_lam (h:Chk E Γ e T) (hk:e.kind=6):∃ b x t,e.binds=[b]∧e.args=[x]∧T=funT b.type t∧Chk E (gput Γ b.name b.type) x t:=by
 obtain ⟨st,y,hs,hg,rfl,F,_,hx⟩:=chk_at h hk
 obtain ⟨x,ha⟩:=one_of (F.a1 (.inl hk))
 obtain ⟨b,hbd⟩:=one_of (F.b1 (.inl hk))
 simp only [show ¬ (6:Int)=1 by decide,show ¬ (6:Int)=2 by decide,show ¬ (6:Int)=3 by decide,show ¬ (6:Int)=4 by decide,show ¬ (6:Int)=12 by decide,show ¬ (6:Int)=5 by decide,show ¬ (6:Int)=9 by decide,show ¬ (6:Int)=10 by decide,if_false,if_true] at hx
 rw [ha,hbd] at hx
 simp only at hx
 split at hx
 · cases hx
 · rename_i bd h1
   split at hx
   · cases hx
   · rename_i y1 h2
     obtain ⟨t,ht,rfl⟩:=exmap_ok hx.symm
     obtain ⟨a1,a2⟩:=bindS_ok h1
     obtain ⟨y2,h3,rfl⟩:=exprs_one h2
     have hok:StOk E (bd,aput st.2 b.name b.type):=⟨hs.good.put (bind_good h1),uq_aput hs.uq _ _,fun x hx=>by
       have hx:has bd x=false:=hx
       rw [a2,has_put,Bool.or_eq_false_iff,decide_eq_false_iff_not] at hx
       show aget (aput st.2 b.name b.type) x=none
       rw [aget_aput,if_neg hx.1];exact hs.bound x hx.2⟩
     unfold lamS at ht
     simp only at ht
     split at ht
     · cases ht
     · cases ht
       refine ⟨b,x,y2.1,hbd,ha,rfl,_,y2,hok,fun z=>?_,h3,rfl⟩
       show aget (aput st.2 b.name b.type) z=_
       rw [aget_aput,hg];try rfl
theorem chk_bds:∀ (l:List Bd) {st st2:St},StOk E st→(∀ x,aget st.2 x=Γ x)→bdsS E l st = .ok st2→(∀ b∈l,Chk E Γ b.value b.type)
 | [],st,st2,hs,hg,h=>fun b hb=>(by cases hb)
 | b::l,st,st2,hs,hg,h=>by
   rw [bdsS_cons] at h
   split at h
   · cases h
   · rename_i y1 h1
     have k:=expr_kp hE hb b.value st y1 hs h1
     split at h
     · rename_i hsame
       have:y1.1=b.type:=by simpa [sameT] using hsame
       intro c hc
       rcases List.mem_cons.1 hc with rfl | hc
       · exact ⟨st,y1,hs,hg,h1,this⟩
       · exact chk_bds l k.ok (fun x=>(k.same x).trans (hg x)) h c hc
     · cases h
theorem chk_let (h:Chk E Γ e T) (hk:e.kind=7∨e.kind=11):∃ x,e.args=[x]∧(∀ b∈e.binds,Chk E (if e.kind=7 then gputB e.binds Γ else Γ) b.value b.type)∧Chk E (gputB e.binds Γ) x T:=by
 obtain ⟨st,y,hs,hg,rfl,F,_,hx⟩:=chk_at h rfl
 obtain ⟨x,ha⟩:=one_of (F.a1 (by omega))
 have n:∀ k:Int,k≠7→k≠11→¬ e.kind=k:=fun k h1 h2=>by omega
 simp only [n 1 (by decide) (by decide),n 2 (by decide) (by decide),n 3 (by decide) (by decide),n 4 (by decide) (by decide),n 12 (by decide) (by decide),n 5 (by decide) (by decide),n 9 (by decide) (by decide),n 10 (by decide) (by decide),n 6 (by decide) (by decide),if_false,if_pos hk] at hx
 rw [ha] at hx
 split at hx
 · cases hx
 · rename_i bd h1
   split at hx
   · cases hx
   · rename_i st2 h2
     split at hx
     · cases hx
     · rename_i y1 h3
       cases hx
       obtain ⟨y2,h4,rfl⟩:=exprs_one h3
       obtain ⟨b1,b2⟩:=bindsS_ok _ _ _ h1
       have hs0:StOk E (bd,st.2):=⟨hs.good,hs.uq,fun x hx=>hs.bound x (b2 x hx).1⟩
       have hok:StOk E (bd,if e.kind=7 then putB e.binds st.2 else st.2):=by
         by_cases h7:e.kind=7
         · rw [if_pos h7];exact hs.putB h1 (fun _ h=>h)
         · rw [if_neg h7];exact hs0
       have k1:=bds_kp _ (fun b _=>expr_kp hE hb b.value) _ _ hok h2
       have hg1:∀ x,aget (if e.kind=7 then putB e.binds st.2 else st.2) x=(if e.kind=7 then gputB e.binds Γ else Γ) x:=fun x=>by
         by_cases h7:e.kind=7
         · rw [if_pos h7,if_pos h7,putB_get,gm_eq hg]
         · rw [if_neg h7,if_neg h7,hg]
       refine ⟨x,ha,chk_bds hE hb _ hok hg1 h2,_,y2,?_,fun z=>?_,h4,rfl⟩
       · refine ⟨k1.ok.good.putB _ (fun b hb=>(b1 b hb).2),uq_putB _ k1.ok.uq,fun x hx=>?_⟩
         obtain ⟨c1,c2⟩:=b2 x (k1.more x hx)
         show aget (putB e.binds st2.2) x=none
         rw [putB_get,gputB_none _ _ _ c2,k1.same]
         show aget (if e.kind=7 then putB e.binds st.2 else st.2) x=none
         by_cases h7:e.kind=7
         · rw [if_pos h7,putB_get,gputB_none _ _ _ c2];exact hs.bound x c1
         · rw [if_neg h7];exact hs.bound x c1
       · show aget (putB e.binds st2.2) z=_
         rw [putB_get]
         have e1:aget st2.2=if e.kind=7 then gputB e.binds Γ else Γ:=funext fun x=>by rw [k1.same];exact hg1 x
         rw [e1]
         by_cases h7:e.kind=7
         · rw [if_pos h7]
           exact gputB_twice _ _ _
         · rw [if_neg h7]
def AltChk (E:Env) (Γ:Gm) (of T:Ty) (a:Al):Prop:=
 (a.kind=3∧Chk E Γ a.body T)∨(a.kind=2∧of.kind=1∧Chk E Γ a.body T) ∨
 (a.kind=1∧of.kind=4∧∃ x,aget E.cons a.con=some x∧x.1.name=of.name∧(conFields x.1 x.2).length=a.vars.length∧(∀ f∈conFields x.1 x.2,(putS x.1.params of.args f).2≥0)∧Chk E (gputV x.1.params of.args a.vars (conFields x.1 x.2) Γ) a.body T)
omit hE hb in
theorem putVs_all {ps:List ByteArray} {bs:List Ty}:∀ (vs:List ByteArray) (fs:List Ty) (lc lc':Loc),fs.length=vs.length→putVs ps bs vs fs lc = .ok lc'→∀ f∈fs,(putS ps bs f).2≥0
 | s::l,f::fs,lc,lc',hl,h=>by
   rw [putVs] at h
   split at h
   · rename_i h1
     intro g hg
     rcases List.mem_cons.1 hg with rfl | hg
     · exact h1
     · exact putVs_all l fs _ _ (by simpa using hl) h g hg
   · cases h
 | [],[],lc,lc',_,h=>fun f hf=>by cases hf
 | [],_::_,_,_,hl,_=>by simp at hl
 | _::_,[],_,_,hl,_=>by simp at hl
omit hE hb in
theorem altF_kind2 {all:List Al} {i:Nat} {of:Ty} {a:Al} (ha:all[i]? = some a) (h:altFormedS all i of=true):(a.kind=1∧of.kind=4)∨(a.kind=2∧of.kind=1)∨a.kind=3:=by
 unfold altFormedS at h
 rw [ha] at h
 simp only at h
 split at h
 · rename_i h1
   split at h
   · cases h
   · rename_i h2
     simp only [Bool.or_eq_true,not_or] at h2
     exact .inl ⟨by simpa using h1,by simpa using h2.2⟩
 · split at h
   · rename_i h1
     split at h
     · cases h
     · rename_i h2
       simp only [Bool.or_eq_true,not_or] at h2
       exact .inr (.inl ⟨by simpa using h1,by simpa using h2.1.1.2⟩)
   · split at h
     · rename_i h1
       exact .inr (.inr (by simpa using h1))
     · cases h
theorem chk_alts {all:List Al} {of:Ty} (hof:Good E of):∀ (l:List Al) (i:Nat),all.drop i=l→∀ (first:Ty) (st:St) (y:Ty×St),StOk E st→(∀ x,aget st.2 x=Γ x)→altsS E all of l i first st = .ok y →
   (i≠0→y.1=first)∧∀ a∈l,AltChk E Γ of y.1 a
 | [],i,_,first,st,y,hs,hg,h=>by rw [altsS] at h;cases h;exact ⟨fun _=>rfl,fun a ha=>(by cases ha)⟩
 | a::l,i,hd,first,st,y,hs,hg,h=>by
   have hi:i < all.length:=by
     apply Classical.byContradiction;intro hn
     rw [List.drop_eq_nil_of_le (by omega)] at hd;cases hd
   rw [List.drop_eq_getElem_cons hi] at hd
   injection hd with ha hd'
   have hget:all[i]? = some a:=by rw [List.getElem?_eq_getElem hi,ha]
   rw [altsS_cons] at h
   split at h
   · cases h
   · rename_i hform
     have hform:altFormedS all i of=true:=by simpa using hform
     have hkk:=altF_kind2 hget hform
     have hk:a.kind=1→of.kind=4:=fun hk=>altF_kind hget hform hk
     split at h
     · cases h
     · rename_i y1 h1
       have hc:AltChk E Γ of y1.1 a∧Kp E st y1.2:=by
         rcases altR_in hE hof hk hs h1 with ⟨hn,h2⟩ | ⟨hk1,x,st1,y2,hx,hname,hlen,ok1,hgg,h2,hty,h3,hput⟩
         · refine ⟨?_,expr_kp hE hb a.body _ _ hs h2⟩
           have c:Chk E Γ a.body y1.1:=⟨st,y1,hs,hg,h2,rfl⟩
           rcases hkk with ⟨h,_⟩ | ⟨h,h'⟩ | h
           · exact absurd h hn
           · exact .inr (.inl ⟨h,h',c⟩)
           · exact .inl ⟨h,c⟩
         · refine ⟨.inr (.inr ⟨hk1,hk hk1,x,hx,hname,hlen,putVs_all _ _ _ _ hlen hput,st1,y2,ok1,fun z=>?_,h2,hty⟩),h3 (expr_kp hE hb a.body _ _ ok1 h2)⟩
           rw [hgg,gm_eq hg]
       obtain ⟨hc,k1⟩:=hc
       have hg':∀ x,aget y1.2.2 x=Γ x:=fun x=>(k1.same x).trans (hg x)
       split at h
       · rename_i h0
         obtain ⟨r1,r2⟩:=chk_alts hof l (i+1) hd' _ _ _ k1.ok hg' h
         have e:=r1 (by omega)
         refine ⟨fun hn=>absurd h0 hn,fun b hbm=>?_⟩
         rcases List.mem_cons.1 hbm with rfl | hbm
         · rw [e];exact hc
         · exact r2 b hbm
       · split at h
         · rename_i hsame
           have hsame:y1.1=first:=by simpa [sameT] using hsame
           obtain ⟨r1,r2⟩:=chk_alts hof l (i+1) hd' _ _ _ k1.ok hg' h
           have e:=r1 (by omega)
           refine ⟨fun _=>e,fun b hbm=>?_⟩
           rcases List.mem_cons.1 hbm with rfl | hbm
           · rw [e,← hsame];exact hc
           · exact r2 b hbm
         · cases h
theorem chk_case (h:Chk E Γ e T) (hk:e.kind=8):∃ x of,e.args=[x]∧Chk E Γ x of∧(of.kind=1∨of.kind=4)∧∀ a∈e.alts,AltChk E Γ of T a:=by
 obtain ⟨st,y,hs,hg,rfl,F,_,hx⟩:=chk_at h rfl
 obtain ⟨x,ha⟩:=one_of (F.a1 (by omega))
 have n:∀ k:Int,k≠8→¬ e.kind=k:=fun k h1=>by omega
 simp only [n 1 (by decide),n 2 (by decide),n 3 (by decide),n 4 (by decide),n 12 (by decide),n 5 (by decide),n 9 (by decide),n 10 (by decide),n 6 (by decide),n 7 (by decide),n 11 (by decide),if_false,or_self] at hx
 rw [ha] at hx
 split at hx
 · cases hx
 · rename_i y1 h1
   obtain ⟨y2,h2,rfl⟩:=exprs_one h1
   have k1:=expr_kp hE hb x _ _ hs h2
   split at hx
   · cases hx
   · rename_i hof
     have hof:((y2.1).kind != 1&&(y2.1).kind != 4)=false:=by simpa using hof
     have hof:y2.1.kind=1∨y2.1.kind=4:=by
       simp only [Bool.and_eq_false_iff] at hof
       rcases hof with h | h
       · exact .inl (by simpa using h)
       · exact .inr (by simpa using h)
     have hc:Chk E Γ x y2.1:=⟨st,y2,hs,hg,h2,rfl⟩
     exact ⟨x,y2.1,ha,hc,hof,(chk_alts hE hb (chk_good hE hb hc) e.alts 0 rfl _ _ _ k1.ok (fun z=>(k1.same z).trans (hg z)) hx.symm).2⟩
end
end
section
open Go Go.W
abbrev Sb:=ByteArray→Ty
mutual
def Ty.sub (σ:Sb):Ty→Ty
 | .mk k n l=>if k=2 then σ n else .mk k n (tysSub σ l)
def tysSub (σ:Sb):List Ty→List Ty
 | []=>[]
 | t::l=>t.sub σ::tysSub σ l
end
mutual
def Ty.inV (ps:List ByteArray):Ty→Bool
 | .mk k n l=>if k=2 then ps.any (fun s=>decide (s=n)) else tysIn ps l
def tysIn (ps:List ByteArray):List Ty→Bool
 | []=>true
 | t::l=>t.inV ps&&tysIn ps l
end
theorem tysSub_map (σ:Sb) (l:List Ty):tysSub σ l=l.map (Ty.sub σ):=by
 induction l with
 | nil=>rfl
 | cons t l ih=>rw [tysSub,ih,List.map_cons]
theorem tysIn_all (ps:List ByteArray) (l:List Ty):tysIn ps l=l.all (Ty.inV ps):=by
 induction l with
 | nil=>rfl
 | cons t l ih=>rw [tysIn,ih,List.all_cons]
theorem Ty.sub_eq (σ:Sb) (t:Ty):t.sub σ=if t.kind=2 then σ t.name else .mk t.kind t.name (t.args.map (Ty.sub σ)):=by
 cases t;rw [Ty.sub,tysSub_map];try rfl
theorem Ty.inV_eq (ps:List ByteArray) (t:Ty):t.inV ps=if t.kind=2 then ps.any (fun s=>decide (s=t.name)) else t.args.all (Ty.inV ps):=by
 cases t;rw [Ty.inV,tysIn_all];try rfl
theorem inV_arg {ps:List ByteArray} {t:Ty} (h:t.inV ps=true) (hk:t.kind≠2):∀ u∈t.args,u.inV ps=true:=by
 rw [t.inV_eq,if_neg hk,List.all_eq_true] at h
 exact h
theorem sub_sub (σ τ:Sb) (t:Ty):(t.sub σ).sub τ=t.sub (fun n=>(σ n).sub τ):=by
 induction t using Ty.ind with
 | h t ih=>
 rw [t.sub_eq σ,t.sub_eq (fun n=>(σ n).sub τ)]
 by_cases hk:t.kind=2
 · rw [if_pos hk,if_pos hk]
 · rw [if_neg hk,if_neg hk,Ty.sub_eq]
   show (if t.kind=2 then _ else _)=_
   rw [if_neg hk]
   show Ty.mk t.kind t.name ((t.args.map (Ty.sub σ)).map (Ty.sub τ))=_
   rw [List.map_map]
   congr 1
   exact List.map_congr_left (fun u hu=>ih u hu)
theorem sub_congr {ps:List ByteArray} {σ τ:Sb} (h:∀ n∈ps,σ n=τ n) (t:Ty):t.inV ps=true→t.sub σ=t.sub τ:=by
 induction t using Ty.ind with
 | h t ih=>
 intro hv
 rw [t.sub_eq σ,t.sub_eq τ]
 by_cases hk:t.kind=2
 · rw [t.inV_eq,if_pos hk] at hv
   rw [if_pos hk,if_pos hk]
   exact h _ (by simpa using hv)
 · rw [if_neg hk,if_neg hk]
   congr 1
   exact List.map_congr_left (fun u hu=>ih u hu (inV_arg hv hk u hu))
theorem sub_kind (σ:Sb) {t:Ty} (h:t.kind≠2):(t.sub σ).kind=t.kind∧(t.sub σ).name=t.name∧(t.sub σ).args=t.args.map (Ty.sub σ):=by
 rw [t.sub_eq,if_neg h];exact ⟨rfl,rfl,rfl⟩
def lk (ps:List ByteArray) (us:List Ty):Sb:=fun n=>us.getD ((strIdx ps n).getD us.length) default
theorem strIdx_some {ps:List ByteArray} {n:ByteArray} (h:n∈ps):∃ i,strIdx ps n=some i∧∃ hi:i < ps.length,ps[i]=n:=by
 cases hi:strIdx ps n with
 | none=>
   exfalso
   rw [strIdx,List.findIdx?_eq_none_iff] at hi
   have:=hi n h
   rw [strEq_iff] at this
   simp at this
 | some i=>
   rw [strIdx,List.findIdx?_eq_some_iff_getElem] at hi
   obtain ⟨h1,h2,_⟩:=hi
   rw [strEq_iff] at h2
   exact ⟨i, rfl, h1, by have : n = ps[i] := by simpa using h2
                         exact this.symm⟩
theorem lk_sub {ps:List ByteArray} {us:List Ty} (hle:ps.length≤us.length) (τ:Sb) {n:ByteArray} (h:n∈ps):(lk ps us n).sub τ=lk ps (us.map (Ty.sub τ)) n:=by
 obtain ⟨i,hi,hlt,_⟩:=strIdx_some h
 unfold lk
 rw [hi]
 simp only [Option.getD_some,List.getD_eq_getElem?_getD,List.getElem?_map]
 rw [List.getElem?_eq_getElem (by omega)]
 rfl
theorem lk_map (ps:List ByteArray) (f:Sb) {n:ByteArray} (h:n∈ps):lk ps (ps.map f) n=f n:=by
 obtain ⟨i,hi,hlt,he⟩:=strIdx_some h
 unfold lk
 rw [hi]
 simp only [Option.getD_some,List.getD_eq_getElem?_getD,List.getElem?_map]
 rw [List.getElem?_eq_getElem hlt,Option.map_some,Option.getD_some,he]
section
variable {E:Env} {ps:List ByteArray} {bs:List Ty}
theorem replTs_le (hb:∀ b∈bs,Good E b) (hle:ps.length≤bs.length):∀ (l:List Ty),(∀ u∈l,u.wf E=true)→∀ left:Int,-501≤left→left≤500 → -501≤(replTs ps bs l left).2∧(replTs ps bs l left).2≤left
 | [],_,left,h1,h2=>by rw [replTs];exact ⟨h1,Int.le_refl _⟩
 | u::l,hw,left,h1,h2=>by
   rw [replTs]
   split
   · exact ⟨h1,Int.le_refl _⟩
   · obtain ⟨a1,a2,_⟩:=repl_good hb hle u (hw u (by simp)) left (by omega) h2
     obtain ⟨b1,b2⟩:=replTs_le hb hle l (fun v hv=>hw v (by simp [hv])) (replT ps bs u left).2 (by omega) (by omega)
     exact ⟨b1,by simp only;omega⟩
theorem repl_sub (hb:∀ b∈bs,Good E b) (hle:ps.length≤bs.length) (t:Ty):t.wf E=true→t.inV ps=true→∀ left:Int,0≤left→left≤500→0≤(replT ps bs t left).2→(replT ps bs t left).1=t.sub (lk ps bs):=by
 induction t using Ty.ind with
 | h t ih=>
 intro hw hv left h1 h2 h3
 have hww:=hw
 rw [t.wf_eq,Bool.and_eq_true,tysWf_all,List.all_eq_true] at hw
 rw [t.sub_eq]
 by_cases hk:t.kind=2
 · rw [if_pos hk]
   rw [t.inV_eq,if_pos hk] at hv
   obtain ⟨i,hi,hlt,_⟩:=strIdx_some (show t.name∈ps by simpa using hv)
   rw [replT_some (by simpa using hk) hi]
   show bs.getD i default=lk ps bs t.name
   unfold lk
   rw [hi];try rfl
 · rw [if_neg hk]
   have hva:=inV_arg hv hk
   rw [replT_none (.inl (by simpa using hk))] at h3 ⊢
   have e:Wr (left - 1)=left - 1:=wrap_in (by omega) (by omega)
   rw [e] at h3 ⊢
   have key:∀ (l:List Ty),(∀ u∈l,u∈t.args)→∀ left:Int,-501≤left→left≤500→0≤(replTs ps bs l left).2→(replTs ps bs l left).1=l.map (Ty.sub (lk ps bs)):=by
     intro l
     induction l with
     | nil=>intro _ left _ _ _;rw [replTs];try rfl
     | cons u l ihl=>
       intro hm left h1 h2 h3
       rw [replTs] at h3 ⊢
       split at h3
       · simp only at h3;omega
       · rename_i hn
         rw [if_neg hn]
         obtain ⟨a1,a2,a3⟩:=repl_good hb hle u (hw.2 u (hm u (by simp))) left (by omega) h2
         obtain ⟨b1,b2⟩:=replTs_le hb hle l (fun v hv=>hw.2 v (hm v (by simp [hv]))) (replT ps bs u left).2 (by omega) (by omega)
         simp only at h3 ⊢
         rw [List.map_cons,ihl (fun v hv=>hm v (by simp [hv])) _ (by omega) (by omega) h3,ih u (hm u (by simp)) (hw.2 u (hm u (by simp))) (hva u (hm u (by simp))) left (by omega) h2 (by omega)]
   show Ty.mk _ _ (replTs ps bs t.args (left - 1)).1=_
   rw [key t.args (fun _ h=>h) (left - 1) (by omega) (by omega) h3]
theorem put_sub (hb:∀ b∈bs,Good E b) (hle:ps.length≤bs.length) {t:Ty} (hw:t.wf E=true) (hv:t.inV ps=true) (h:(putS ps bs t).2≥0):(putS ps bs t).1=t.sub (lk ps bs):=
 repl_sub hb hle t hw hv 500 (by omega) (by omega) h
theorem named_sub {t T:Ty} {ts:List Ty} (hw:t.wf E=true) (hv:t.inV ps=true) (h:namedS E t ps ts = .ok T):T=t.sub (lk ps ts)∧ps.length=ts.length:=by
 unfold namedS at h
 split at h
 · cases h
 · rename_i hne
   split at h
   · cases h
   · rename_i hall
     split at h
     · rename_i hok
       cases h
       have hl:(ps.length:Int)=ts.length:=by simpa using hne
       have ha:ts.all (rightS E)=true:=by simpa using hall
       rw [List.all_eq_true] at ha
       exact ⟨put_sub (fun b hb=>right_good (ha b hb)) (by omega) hw hv hok,by omega⟩
     · cases h
theorem fits_inV {E:Env} (h:∀ n,has E.params n=true→n∈ps) (t:Ty):t.fits E=true→t.inV ps=true:=by
 induction t using Ty.ind with
 | h t ih=>
 intro hf
 rw [t.fits_eq] at hf
 rw [t.inV_eq]
 by_cases hk:t.kind=2
 · rw [if_pos hk]
   rw [if_pos (by simpa using hk)] at hf
   simpa using h _ hf
 · rw [if_neg hk]
   rw [if_neg (by simpa using hk)] at hf
   have:tysFit E t.args=true:=by
     split at hf
     · split at hf
       · cases hf
       · exact hf
     · exact hf
   rw [tysFit_all,List.all_eq_true] at this
   rw [List.all_eq_true]
   exact fun u hu=>ih u hu (this u hu)
end
theorem has_knowL:∀ (ps:List ByteArray) (m:Cnt) (n:ByteArray),has (knowL ps m) n=true→n∈ps∨has m n=true
 | [],m,n,h=>.inr h
 | s::l,m,n,h=>by
   rw [knowL] at h
   rcases has_knowL l _ n h with h | h
   · exact .inl (by simp [h])
   · rw [has_put] at h
     simp only [Bool.or_eq_true,decide_eq_true_eq] at h
     rcases h with h | h
     · exact .inl (by simp [h])
     · exact .inr h
theorem has_parsL:∀ (ps:List ByteArray) (m:Cnt) (n:ByteArray),has (parsL ps m) n=true→n∈ps∨has m n=true
 | [],m,n,h=>.inr h
 | s::l,m,n,h=>by
   rw [parsL] at h
   rcases has_parsL l _ n h with h | h
   · exact .inl (by simp [h])
   · rw [has_put] at h
     simp only [Bool.or_eq_true,decide_eq_true_eq] at h
     rcases h with h | h
     · exact .inl (by simp [h])
     · exact .inr h
end
section
open Go Go.W
abbrev Sg:=Nat→Ty→Prop
abbrev Ts:=Ty→Prop
def NmT (S:Sg) (v:Nms) (Γ:Gm) (σ:Sb):Prop:=∀ x U,Γ x=some U→∃ c,findS v x=some c∧S c (U.sub σ)
def ExI (Q:Env) (S:Sg) (e:Ex) (v:Nms) (D:Ty) (ps:List ByteArray) (Γ:Gm) (σ:Sb) (T:Ty):Prop:=Chk (knowE Q ps) Γ e T∧T.sub σ=D∧NmT S v Γ σ
def ExT (Q:Env) (S:Sg) (e:Ex) (v:Nms) (D:Ty):Prop:=∃ ps Γ σ T,ExI Q S e v D ps Γ σ T
def FdT (S:Sg) (σ:Sb) (cs:List Nat) (fs:List Ty):Prop:=All2 (fun c F=>S c (F.sub σ)) cs fs
def VT (Q:Env) (S:Sg):Cl→Ts
 | .num _,D=>D.kind=1
 | .con k cs,D=>∃ x us,aget Q.cons k=some x∧D=(baseT x.1).sub (lk x.1.params us)∧FdT S (lk x.1.params us) cs (conFields x.1 x.2)
 | .par k l cs,D=>∃ x us,aget Q.cons k=some x∧0 < l∧(cs.length:Int)+l=(conFields x.1 x.2).length∧D=(((conFields x.1 x.2).drop cs.length).foldr funT (baseT x.1)).sub (lk x.1.params us)∧FdT S (lk x.1.params us) cs ((conFields x.1 x.2).take cs.length)
 | .lam e v,D=>e.kind=6∧ExT Q S e v D
 | _,_=>False
def CellT (Q:Env) (S:Sg) (P:Ts):Cl→Prop
 | .wait e v=>∀ D,P D→ExT Q S e v D
 | .busy=>True
 | x=>∀ D,P D→VT Q S x D
structure StT (Q:Env) (S:Sg) (cells:List Cl):Prop where
 cell:∀ c x,cells[c]? = some x→CellT Q S (S c) x
 full:∀ c,c < cells.length→∃ D,S c D
 dom:∀ c D,S c D→c < cells.length
structure EnvT (Q:Env):Prop where
 good:∀ ps,GoodE (knowE Q ps)
 bool:∀ ps,badData (knowE Q ps) boolN 0=false
 defs:∀ n d,aget Q.defs n=some d→d.type.inV d.params=true
 cons:∀ k x,aget Q.cons k=some x→(∀ F∈conFields x.1 x.2,F.inV x.1.params=true)∧(conFields x.1 x.2).length≤8
 yes:aget Q.cons trueN=some (dBool,1)
 no:aget Q.cons falseN=some (dBool,0)
structure XT (Q:Env) (X:Cx) (S:Sg):Prop where
 defs:∀ n d,aget Q.defs n=some d→∃ c,aget X.defs n=some c∧∀ us,S c (d.type.sub (lk d.params us))
 fields:∀ k x,aget Q.cons k=some x→(aget X.fields k).getD 0=(conFields x.1 x.2).length
def FmT (Q:Env) (S:Sg) (P R:Ts):Fm→Prop
 | .upd c=>(∃ D,S c D)∧(∀ D,S c D→P D)∧∀ D,R D→P D
 | .app e v=>∃ f y,e.args=[f,y]∧∀ D,R D→∃ F A,P F∧F.kind=3∧F.args=[A,D]∧ExT Q S y v A
 | .cas e v=>∀ D,R D→∃ ps Γ σ T of,T.sub σ=D∧P (of.sub σ)∧(of.kind=1∨of.kind=4)∧Good (knowE Q ps) of∧(∀ a∈e.alts,AltChk (knowE Q ps) Γ of T a)∧NmT S v Γ σ
 | .fst e v=>∃ a y,e.args=[a,y]∧∀ D,R D→opsS e.name=some D∧∃ A,A.kind=1∧ExT Q S y v A
 | .snd e n=>∀ D,R D→opsS e.name=some D
 | .seq e v=>∃ a y,e.args=[a,y]∧∀ D,R D→ExT Q S y v D
 | .hard e v=>∃ b y,e.binds=[b]∧e.args=[y]∧∀ D,R D→∃ ps Γ σ T,T.sub σ=D∧P (b.type.sub σ)∧Chk (knowE Q ps) (gput Γ b.name b.type) y T∧NmT S v Γ σ
def FsT (Q:Env) (S:Sg) (Z:Ts):List Fm→Ts→Prop
 | [],P=>∀ D,Z D→P D
 | f::fs,P=>∃ R,(∃ D,R D)∧FmT Q S P R f∧FsT Q S Z fs R
def MdT (Q:Env) (S:Sg) (P:Ts):Md→Prop
 | .go e v=>∀ D,P D→ExT Q S e v D
 | .val x=>x.isV=true∧∀ D,P D→VT Q S x D
def Ext (S S':Sg) (n:Nat):Prop:=(∀ c D,S c D→S' c D)∧∀ c D,c < n→S' c D→S c D
def OutT (Q:Env) (X:Cx) (Z:Ts) (r:R3):Prop:=match r with
 | (none,m)=>m.kind=3∧1≤m.stuck∧m.stuck≤4
 | (some md,m)=>∃ S P,StT Q S m.cells∧XT Q X S∧(∃ D,P D)∧MdT Q S P md∧FsT Q S Z m.frames.reverse P
section
variable {Q:Env} {S S':Sg}
theorem NmT.mono {v:Nms} {Γ:Gm} {σ:Sb} (h:NmT S v Γ σ) (hs:∀ c D,S c D→S' c D):NmT S' v Γ σ:=fun x U hx=>by
 obtain ⟨c,h1,h2⟩:=h x U hx;exact ⟨c,h1,hs _ _ h2⟩
theorem ExI.mono {e:Ex} {v:Nms} {D:Ty} {ps:List ByteArray} {Γ:Gm} {σ:Sb} {T:Ty} (h:ExI Q S e v D ps Γ σ T) (hs:∀ c D,S c D→S' c D):ExI Q S' e v D ps Γ σ T:=⟨h.1,h.2.1,h.2.2.mono hs⟩
theorem ExT.mono {e:Ex} {v:Nms} {D:Ty} (h:ExT Q S e v D) (hs:∀ c D,S c D→S' c D):ExT Q S' e v D:=by
 obtain ⟨ps,Γ,σ,T,h⟩:=h;exact ⟨ps,Γ,σ,T,h.mono hs⟩
theorem all2_imp {α β:Type} {P P':α→β→Prop} (hpq:∀ a b,P a b→P' a b):∀ {l:List α} {m:List β},All2 P l m→All2 P' l m
 | [],[],_=>trivial
 | a::l,b::m,h=>⟨hpq _ _ h.1,all2_imp hpq h.2⟩
 | [],_::_,h=>h.elim
 | _::_,[],h=>h.elim
theorem FdT.mono {σ:Sb} {cs:List Nat} {fs:List Ty} (h:FdT S σ cs fs) (hs:∀ c D,S c D→S' c D):FdT S' σ cs fs:=all2_imp (fun _ _ h=>hs _ _ h) h
theorem VT.mono {x:Cl} {D:Ty} (h:VT Q S x D) (hs:∀ c D,S c D→S' c D):VT Q S' x D:=by
 cases x with
 | num n=>exact h
 | con k cs=>obtain ⟨x,us,h1,h2,h3⟩:=h;exact ⟨x,us,h1,h2,h3.mono hs⟩
 | par k l cs=>obtain ⟨x,us,h1,h0,h2,h3,h4⟩:=h;exact ⟨x,us,h1,h0,h2,h3,h4.mono hs⟩
 | lam e v=>exact ⟨h.1,h.2.mono hs⟩
 | wait e v=>exact h
 | busy=>exact h
 | emp=>exact h
theorem CellT.mono {x:Cl} {P P':Ts} (h:CellT Q S P x) (hs:∀ c D,S c D→S' c D) (hp:∀ D,P' D→P D):CellT Q S' P' x:=by
 cases x with
 | num n=>exact fun D hD=>VT.mono (h D (hp D hD)) hs
 | con k cs=>exact fun D hD=>VT.mono (h D (hp D hD)) hs
 | par k l cs=>exact fun D hD=>VT.mono (h D (hp D hD)) hs
 | lam e v=>exact fun D hD=>VT.mono (h D (hp D hD)) hs
 | wait e v=>exact fun D hD=>ExT.mono (h D (hp D hD)) hs
 | busy=>trivial
 | emp=>exact fun D hD=>VT.mono (h D (hp D hD)) hs
theorem XT.mono {X:Cx} (h:XT Q X S) (hs:∀ c D,S c D→S' c D):XT Q X S':=⟨fun n d hd=>by
 obtain ⟨c,h1,h2⟩:=h.defs n d hd;exact ⟨c,h1,fun us=>hs _ _ (h2 us)⟩,h.fields⟩
theorem FmT.mono {P R:Ts} {f:Fm} {n:Nat} (h:FmT Q S P R f) (hs:Ext S S' n) (hd:∀ c D,S c D→c < n):FmT Q S' P R f:=by
 cases f with
 | upd c=>
   obtain ⟨⟨D,h1⟩,h2,h3⟩:=h
   exact ⟨⟨D,hs.1 _ _ h1⟩,fun D' hD=>h2 _ (hs.2 c D' (hd _ _ h1) hD),h3⟩
 | app e v=>
   obtain ⟨f,y,ha,h⟩:=h
   refine ⟨f,y,ha,fun D hD=>?_⟩
   obtain ⟨F,A,h1,h2,h3,h4⟩:=h D hD
   exact ⟨F,A,h1,h2,h3,h4.mono hs.1⟩
 | cas e v=>
   intro D hD
   obtain ⟨ps,Γ,σ,T,of,h1,h2,h3,h4,h5,h6⟩:=h D hD
   exact ⟨ps,Γ,σ,T,of,h1,h2,h3,h4,h5,h6.mono hs.1⟩
 | fst e v=>
   obtain ⟨a,y,ha,h⟩:=h
   refine ⟨a,y,ha,fun D hD=>?_⟩
   obtain ⟨h1,A,h2,h3⟩:=h D hD
   exact ⟨h1,A,h2,h3.mono hs.1⟩
 | snd e n=>exact h
 | seq e v=>
   obtain ⟨a,y,ha,h⟩:=h
   exact ⟨a,y,ha,fun D hD=>(h D hD).mono hs.1⟩
 | hard e v=>
   obtain ⟨b,y,hb,ha,h⟩:=h
   refine ⟨b,y,hb,ha,fun D hD=>?_⟩
   obtain ⟨ps,Γ,σ,T,h1,h2,h3,h4⟩:=h D hD
   exact ⟨ps,Γ,σ,T,h1,h2,h3,h4.mono hs.1⟩
theorem FsT.mono {Z:Ts} {n:Nat} (hs:Ext S S' n) (hd:∀ c D,S c D→c < n):∀ {l:List Fm} {P:Ts},FsT Q S Z l P→FsT Q S' Z l P
 | [],P,h=>h
 | f::fs,P,h=>by
   obtain ⟨R,h0,h1,h2⟩:=h
   exact ⟨R,h0,h1.mono hs hd,FsT.mono hs hd h2⟩
theorem NmT.put {v:Nms} {Γ:Gm} {σ:Sb} (h:NmT S v Γ σ) {n:ByteArray} {t:Ty} {c:Nat} (hc:S c (t.sub σ)):NmT S ((n,c)::v) (gput Γ n t) σ:=fun x U hx=>by
 unfold gput at hx
 unfold findS
 rw [aget_cons]
 by_cases e:n=x
 · rw [if_pos e] at hx
   rw [if_pos e]
   cases hx
   exact ⟨c,rfl,hc⟩
 · rw [if_neg e] at hx
   rw [if_neg e]
   exact h x U hx
theorem NmT.let:∀ (l:List Bd) {v:Nms} {Γ:Gm} {σ:Sb} (i:Nat),NmT S v Γ σ→(∀ j b,l[j]? = some b→S (i+j) (b.type.sub σ))→NmT S (letN l i v) (gputB l Γ) σ
 | [],v,Γ,σ,i,h,_=>h
 | b::l,v,Γ,σ,i,h,hc=>by
   rw [letN,gputB]
   exact NmT.let l (i+1) (h.put (hc 0 b rfl)) (fun j b hb=>by
     have:=hc (j+1) b (by simpa using hb)
     rwa [show i+1+j=i+(j+1) by omega])
theorem NmT.vars {ps:List ByteArray} {bs:List Ty}:∀ (l:List ByteArray) (cs:List Nat) (fs:List Ty) {v:Nms} {Γ:Gm} {σ:Sb},NmT S v Γ σ→l.length=cs.length→All2 (fun c F=>S c ((putS ps bs F).1.sub σ)) cs fs→∃ v',bindF l cs v=some v'∧NmT S v' (gputV ps bs l fs Γ) σ
 | [],cs,fs,v,Γ,σ,h,_,_=>⟨v,by rw [bindF],by rw [gputV];exact h;simp⟩
 | s::l,c::cs,f::fs,v,Γ,σ,h,hl,ha=>by
   rw [bindF,gputV]
   exact NmT.vars l cs fs (h.put ha.1) (by simpa using hl) ha.2
 | _::_,[],_,v,Γ,σ,h,hl,_=>by simp at hl
 | _::_,_::_,[],v,Γ,σ,h,hl,ha=>ha.elim
theorem StT.put {cells:List Cl} (h:StT Q S cells) {c:Nat} {x:Cl} (hx:CellT Q S (S c) x):StT Q S (cells.set c x):=by
 refine ⟨fun i y hy=>?_,fun i hi=>h.full i (by simpa using hi),fun i D hD=>by simpa using h.dom i D hD⟩
 by_cases e:c=i
 · subst e
   by_cases hlt:c < cells.length
   · rw [List.getElem?_set_self hlt] at hy
     cases hy;exact hx
   · rw [List.getElem?_eq_none (by simp;omega)] at hy;cases hy
 · rw [List.getElem?_set_ne e] at hy
   exact h.cell i y hy
def moreS (S:Sg) (n:Nat) (N:Nat→Ts):Sg:=fun c D=>S c D∨(n≤c∧N (c - n) D)
theorem more_ext {n:Nat} {N:Nat→Ts}:Ext S (moreS S n N) n:=⟨fun _ _ h=>.inl h,fun c D hc h=>by
 rcases h with h | h
 · exact h
 · omega⟩
theorem StT.app {cells news:List Cl} (h:StT Q S cells) {N:Nat→Ts} (hx:∀ i x,news[i]? = some x→CellT Q (moreS S cells.length N) (N i) x) (hs:∀ i,i < news.length→∃ D,N i D) (hd:∀ i D,N i D→i < news.length):StT Q (moreS S cells.length N) (cells++news):=by
 refine ⟨fun c x hc=>?_,fun c hc=>?_,fun c D hD=>?_⟩
 · rcases Nat.lt_or_ge c cells.length with hlt | hge
   · rw [List.getElem?_append_left hlt] at hc
     exact (h.cell c x hc).mono (fun _ _ h=>.inl h) (fun D hD=>more_ext.2 c D hlt hD)
   · rw [List.getElem?_append_right hge] at hc
     refine (hx _ x hc).mono (fun _ _ h=>h) (fun D hD=>?_)
     rcases hD with hD | hD
     · have:=h.dom _ _ hD;omega
     · exact hD.2
 · rcases Nat.lt_or_ge c cells.length with hlt | hge
   · obtain ⟨D,hD⟩:=h.full c hlt;exact ⟨D,.inl hD⟩
   · rw [List.length_append] at hc
     obtain ⟨D,hD⟩:=hs (c - cells.length) (by omega)
     exact ⟨D,.inr ⟨hge,hD⟩⟩
 · rw [List.length_append]
   rcases hD with hD | ⟨h1,h2⟩
   · have:=h.dom _ _ hD;omega
   · have:=hd _ _ h2;omega
end
end
section
open Go Go.W
section
variable {Q:Env} {S:Sg} {X:Cx} {Z:Ts}
theorem enterT {m:Rn} {c:Nat} {P:Ts} (hst:StT Q S m.cells) (hx:XT Q X S) (hP:∃ D,P D) (hc:∀ D,P D→S c D) (hf:FsT Q S Z m.frames.reverse P):OutT Q X Z (enterCl m c):=by
 obtain ⟨D0,hD0⟩:=hP
 have hlt:=hst.dom c D0 (hc D0 hD0)
 have hg:=List.getElem?_eq_getElem hlt
 have hct:=hst.cell c _ hg
 unfold enterCl
 rw [hg]
 generalize m.cells[c]=x at hct ⊢
 have val:(∀ D,S c D→VT Q S x D)→x.isV=true→OutT Q X Z (some (.val x),m):=fun h hv=>⟨S,P,hst,hx,⟨D0,hD0⟩,⟨hv,fun D hD=>h D (hc D hD)⟩,hf⟩
 cases x with
 | wait e v=>
   refine ⟨S,S c,hst.put (x:=.busy) trivial,hx,⟨D0,hc D0 hD0⟩,hct,?_⟩
   show FsT Q S Z ((m.frames++[Fm.upd c]).reverse) (S c)
   rw [List.reverse_append]
   exact ⟨P,⟨D0,hD0⟩,⟨⟨D0,hc D0 hD0⟩,fun _ h=>h,hc⟩,hf⟩
 | num n=>exact val hct rfl
 | con n fs=>exact val hct rfl
 | lam e v=>exact val hct rfl
 | par n l h=>exact val hct rfl
 | busy=>exact ⟨rfl,show (1:Int)≤4 by decide,show (4:Int)≤4 by decide⟩
 | emp=>exact absurd (hct D0 (hc D0 hD0)) _root_.id
theorem inst_sub {t:Ty} {ps:List ByteArray} {ts:List Ty} (σ:Sb) (hv:t.inV ps=true) (hl:ps.length≤ts.length):(t.sub (lk ps ts)).sub σ=t.sub (lk ps (ts.map (Ty.sub σ))):=by
 rw [sub_sub]
 exact sub_congr (fun n hn=>lk_sub hl σ hn) t hv
theorem fun_sub (σ:Sb) (a b:Ty):(funT a b).sub σ=funT (a.sub σ) (b.sub σ):=by rw [Ty.sub_eq];try rfl
theorem fold_inV {ps:List ByteArray} {b:Ty} (hb:b.inV ps=true):∀ (l:List Ty),(∀ F∈l,F.inV ps=true)→(l.foldr funT b).inV ps=true
 | [],_=>hb
 | F::l,h=>by
   have h1:=h F (by simp)
   have h2:=fold_inV hb l (fun G hG=>h G (by simp [hG]))
   rw [List.foldr_cons,Ty.inV_eq]
   show ([F,l.foldr funT b].all (Ty.inV ps))=true
   simp [h1,h2]
theorem base_inV (d:Dt):(baseT d).inV d.params=true:=by
 rw [Ty.inV_eq]
 show ((d.params.map varT').all (Ty.inV d.params))=true
 rw [List.all_eq_true]
 intro u hu
 obtain ⟨s,hs,rfl⟩:=List.mem_map.1 hu
 rw [Ty.inV_eq]
 show (d.params.any (fun x=>decide (x=s)))=true
 simpa using hs
theorem con_inV (hQ:EnvT Q) {k:ByteArray} {x:Dt×Nat} (h:aget Q.cons k=some x):(conT x.1 x.2).inV x.1.params=true:=fold_inV (base_inV x.1) _ (hQ.cons k x h).1
theorem growT {k:ByteArray} {x:Dt×Nat} {us:List Ty} {l:Int} {cs:List Nat} {D:Ty} (h:aget Q.cons k=some x) (h0:0≤l) (hl:(cs.length:Int)+l=(conFields x.1 x.2).length) (hD:D=(((conFields x.1 x.2).drop cs.length).foldr funT (baseT x.1)).sub (lk x.1.params us))
   (hf:FdT S (lk x.1.params us) cs ((conFields x.1 x.2).take cs.length)):VT Q S (growS k l cs) D:=by
 unfold growS
 by_cases hz:l=0
 · rw [if_pos hz]
   have e:cs.length=(conFields x.1 x.2).length:=by omega
   rw [e,List.drop_length] at hD
   rw [e,List.take_length] at hf
   exact ⟨x,us,h,hD,hf⟩
 · rw [if_neg hz]
   exact ⟨x,us,h,by omega,hl,hD,hf⟩
theorem grow_isV (k:ByteArray) (l:Int) (cs:List Nat):(growS k l cs).isV=true:=by
 unfold growS;split<;>rfl
theorem rev_push {α:Type} (l:List α) (a:α):(l++[a]).reverse=a::l.reverse:=by simp
theorem beginT (hQ:EnvT Q) {e:Ex} {v:Nms} {m:Rn} {P:Ts} (hst:StT Q S m.cells) (hx:XT Q X S) (hP:∃ D,P D) (he:∀ D,P D→ExT Q S e v D) (hf:FsT Q S Z m.frames.reverse P):∃ r,beginS X e v m=some r∧OutT Q X Z r:=by
 obtain ⟨D0,hD0⟩:=hP
 obtain ⟨ps0,Γ0,σ0,T0,hc0,hs0,hn0⟩:=he D0 hD0
 have F:=formed_of (chk_formed hc0)
 have push:∀ (fm:Fm) (P':Ts) (md:Md),(∃ D,P' D)→MdT Q S P' md→FmT Q S P' P fm→OutT Q X Z (some md,m.push fm):=fun fm P' md h1 h2 h3=>by
   refine ⟨S,P',hst,hx,h1,h2,?_⟩
   show FsT Q S Z (m.frames++[fm]).reverse P'
   rw [rev_push]
   exact ⟨P,⟨D0,hD0⟩,h3,hf⟩
 unfold beginS
 by_cases hk:e.kind=1
 · rw [if_pos hk]
   obtain ⟨c,hfnd,_⟩:=hn0 _ _ (chk_var hc0 hk)
   rw [hfnd]
   refine ⟨_,rfl,enterT hst hx ⟨D0,hD0⟩ (fun D hD=>?_) hf⟩
   obtain ⟨ps,Γ,σ,T,h1,h2,h3⟩:=he D hD
   obtain ⟨c',h4,h5⟩:=h3 _ _ (chk_var h1 hk)
   rw [hfnd] at h4
   cases h4
   rw [← h2];exact h5
 rw [if_neg hk]
 by_cases hk:e.kind=3
 · rw [if_pos hk]
   obtain ⟨d,hd,_⟩:=chk_glob hc0 hk
   obtain ⟨c,hcc,hall⟩:=hx.defs _ _ hd
   rw [hcc]
   refine ⟨_,rfl,enterT hst hx ⟨D0,hD0⟩ (fun D hD=>?_) hf⟩
   obtain ⟨ps,Γ,σ,T,h1,h2,h3⟩:=he D hD
   obtain ⟨d',hd',hnm⟩:=chk_glob h1 hk
   have e1:aget Q.defs e.name=some d':=hd'
   have e2:aget Q.defs e.name=some d:=hd
   rw [e2] at e1
   cases e1
   have hv:=hQ.defs _ _ e2
   obtain ⟨e3,e4⟩:=named_sub ((hQ.good ps).defs _ _ hd') hv hnm
   rw [← h2,e3,inst_sub σ hv (by omega)]
   exact hall _
 rw [if_neg hk]
 by_cases hk:e.kind=2
 · rw [if_pos hk]
   refine ⟨_,rfl,S,P,hst,hx,⟨D0,hD0⟩,⟨rfl,fun D hD=>?_⟩,hf⟩
   obtain ⟨ps,Γ,σ,T,h1,h2,h3⟩:=he D hD
   rw [← h2,chk_int h1 hk]
   rw [Ty.sub_eq];try rfl
 rw [if_neg hk]
 by_cases hk:e.kind=4
 · rw [if_pos hk]
   refine ⟨_,rfl,S,P,hst,hx,⟨D0,hD0⟩,⟨grow_isV _ _ _,fun D hD=>?_⟩,hf⟩
   obtain ⟨ps,Γ,σ,T,h1,h2,h3⟩:=he D hD
   obtain ⟨x,hd',hnm⟩:=chk_con h1 hk
   have e1:aget Q.cons e.name=some x:=hd'
   have hv:=con_inV hQ e1
   obtain ⟨e3,e4⟩:=named_sub (con_wf (hQ.good ps) hd') hv hnm
   rw [hx.fields _ _ e1]
   refine growT (us:=e.types.map (Ty.sub σ)) e1 (by omega) (by simp) ?_ trivial
   rw [← h2,e3,inst_sub σ hv (by omega)]
   rfl
 rw [if_neg hk]
 by_cases hk:e.kind=6
 · rw [if_pos hk]
   exact ⟨_,rfl,S,P,hst,hx,⟨D0,hD0⟩,⟨rfl,fun D hD=>⟨hk,he D hD⟩⟩,hf⟩
 rw [if_neg hk]
 by_cases hk:e.kind=12
 · rw [if_pos hk]
   exact ⟨_,rfl,rfl,chk_fail hc0 hk⟩
 rw [if_neg hk]
 by_cases hk:e.kind=7
 · rw [if_pos hk]
   obtain ⟨x,hargs,_,_⟩:=chk_let (hQ.good _) (hQ.bool _) hc0 (.inl hk)
   rw [hargs]
   let N:Nat→Ts:=fun j D'=>∃ b D ps Γ σ T,e.binds[j]? = some b∧P D∧ExI Q S e v D ps Γ σ T∧D'=b.type.sub σ
   have hext:Ext S (moreS S m.cells.length N) m.cells.length:=more_ext
   have hnm:∀ {D ps Γ σ T},P D→ExI Q S e v D ps Γ σ T→NmT (moreS S m.cells.length N) (letN e.binds m.cells.length v) (gputB e.binds Γ) σ:=fun {D ps Γ σ T} hD hI=>
     NmT.let _ _ (hI.2.2.mono hext.1) (fun j b hb=>.inr ⟨by omega,b,D,ps,Γ,σ,T,by rw [show m.cells.length+j - m.cells.length=j by omega];exact hb,hD,hI,rfl⟩)
   refine ⟨_,rfl,moreS S m.cells.length N,P,hst.app (fun i y hy=>?_) (fun i hi=>?_) (fun i D hD=>?_),hx.mono hext.1,⟨D0,hD0⟩,fun D hD=>?_,hf.mono hext hst.dom⟩
   · rw [List.getElem?_map] at hy
     cases hb:e.binds[i]? with
     | none=>rw [hb] at hy;cases hy
     | some b=>
       rw [hb] at hy
       cases hy
       rintro D' ⟨b',D,ps,Γ,σ,T,h1,h2,h3,rfl⟩
       rw [hb] at h1
       cases h1
       obtain ⟨x',_,hch,_⟩:=chk_let (hQ.good _) (hQ.bool _) h3.1 (.inl hk)
       have hcb:=hch b (List.mem_of_getElem? hb)
       rw [if_pos hk] at hcb
       exact ⟨ps,_,σ,b.type,hcb,rfl,hnm h2 h3⟩
   · rw [List.length_map] at hi
     exact ⟨_,e.binds[i],D0,ps0,Γ0,σ0,T0,List.getElem?_eq_getElem hi,hD0,⟨hc0,hs0,hn0⟩,rfl⟩
   · obtain ⟨b,D',ps,Γ,σ,T,h1,_⟩:=hD
     rw [List.length_map]
     exact (List.getElem?_eq_some_iff.1 h1).1
   · obtain ⟨ps,Γ,σ,T,hI⟩:=he D hD
     obtain ⟨x',hargs',_,hbody⟩:=chk_let (hQ.good _) (hQ.bool _) hI.1 (.inl hk)
     rw [hargs] at hargs'
     cases hargs'
     exact ⟨ps,_,σ,T,hbody,hI.2.1,hnm hD hI⟩
 rw [if_neg hk]
 by_cases hk:e.kind=11
 · rw [if_pos hk]
   obtain ⟨b,hbs⟩:=one_of (F.b1 (.inr hk))
   rw [hbs]
   have hlet:∀ D,P D→∃ ps Γ σ T x,e.args=[x]∧T.sub σ=D∧Chk (knowE Q ps) Γ b.value b.type∧Chk (knowE Q ps) (gput Γ b.name b.type) x T∧NmT S v Γ σ:=fun D hD=>by
     obtain ⟨ps,Γ,σ,T,h1,h2,h3⟩:=he D hD
     obtain ⟨x,hargs,hv,hbody⟩:=chk_let (hQ.good _) (hQ.bool _) h1 (.inr hk)
     rw [hbs] at hv hbody
     have hvb:=hv b (by simp)
     rw [if_neg (by omega)] at hvb
     exact ⟨ps,Γ,σ,T,x,hargs,h2,hvb,hbody,h3⟩
   obtain ⟨ps1,Γ1,σ1,T1,x,hargs,i1,i2,i3,i4⟩:=hlet D0 hD0
   refine ⟨_,rfl,push _ (fun B=>∃ D ps Γ σ T,P D∧T.sub σ=D∧B=b.type.sub σ∧Chk (knowE Q ps) Γ b.value b.type∧Chk (knowE Q ps) (gput Γ b.name b.type) x T∧NmT S v Γ σ) _ ⟨_,D0,ps1,Γ1,σ1,T1,hD0,i1,rfl,i2,i3,i4⟩ ?_ ?_⟩
   · rintro B ⟨D,ps,Γ,σ,T,_,h2,rfl,h3,_,h4⟩
     exact ⟨ps,Γ,σ,_,h3,rfl,h4⟩
   · refine ⟨b,x,hbs,hargs,fun D hD=>?_⟩
     obtain ⟨ps,Γ,σ,T,x',ha',j1,j2,j3,j4⟩:=hlet D hD
     rw [hargs] at ha'
     cases ha'
     exact ⟨ps,Γ,σ,T,j1,⟨D,ps,Γ,σ,T,hD,j1,rfl,j2,j3,j4⟩,j3,j4⟩
 rw [if_neg hk]
 have hr:=F.rng
 by_cases hk:e.kind=5
 · obtain ⟨f,y,_,_,hargs,_⟩:=chk_app (hQ.good _) (hQ.bool _) hc0 hk
   rw [hargs]
   simp only
   rw [if_pos hk]
   have happ:∀ D,P D→∃ F A,F.kind=3∧F.args=[A,D]∧ExT Q S f v F∧ExT Q S y v A:=fun D hD=>by
     obtain ⟨ps,Γ,σ,T,h1,h2,h3⟩:=he D hD
     obtain ⟨f',y',F',A',ha',c1,c2,c3,c4⟩:=chk_app (hQ.good _) (hQ.bool _) h1 hk
     rw [hargs] at ha'
     cases ha'
     obtain ⟨s1,s2,s3⟩:=sub_kind σ (t:=F') (by omega)
     refine ⟨F'.sub σ,A'.sub σ,by rw [s1,c2],?_,⟨ps,Γ,σ,F',c1,rfl,h3⟩,⟨ps,Γ,σ,A',c4,rfl,h3⟩⟩
     rw [s3,c3,← h2];try rfl
   refine ⟨_,rfl,push _ (fun F=>∃ D A,P D∧F.kind=3∧F.args=[A,D]∧ExT Q S f v F∧ExT Q S y v A) _ ?_ ?_ ?_⟩
   · obtain ⟨F,A,a1,a2,a3,a4⟩:=happ D0 hD0
     exact ⟨F,D0,A,hD0,a1,a2,a3,a4⟩
   · rintro F ⟨D,A,_,_,_,h,_⟩;exact h
   · refine ⟨f,y,hargs,fun D hD=>?_⟩
     obtain ⟨F,A,a1,a2,a3,a4⟩:=happ D hD
     exact ⟨F,A,⟨D,A,hD,a1,a2,a3,a4⟩,a1,a2,a4⟩
 by_cases hk8:e.kind=8
 · obtain ⟨x,_,hargs,_⟩:=chk_case (hQ.good _) (hQ.bool _) hc0 hk8
   rw [hargs]
   simp only
   rw [if_neg hk,if_pos hk8]
   have hcas:∀ D,P D→∃ ps Γ σ T of,T.sub σ=D∧ExT Q S x v (of.sub σ)∧(of.kind=1∨of.kind=4)∧Good (knowE Q ps) of∧(∀ a∈e.alts,AltChk (knowE Q ps) Γ of T a)∧NmT S v Γ σ:=fun D hD=>by
     obtain ⟨ps,Γ,σ,T,h1,h2,h3⟩:=he D hD
     obtain ⟨x',of,ha',c1,c2,c3⟩:=chk_case (hQ.good _) (hQ.bool _) h1 hk8
     rw [hargs] at ha'
     cases ha'
     exact ⟨ps,Γ,σ,T,of,h2,⟨ps,Γ,σ,of,c1,rfl,h3⟩,c2,chk_good (hQ.good _) (hQ.bool _) c1,c3,h3⟩
   refine ⟨_,rfl,push _ (fun C=>ExT Q S x v C) _ ?_ (fun C h=>h) (fun D hD=>?_)⟩
   · obtain ⟨ps,Γ,σ,T,of,a1,a2,_⟩:=hcas D0 hD0
     exact ⟨_,a2⟩
   · exact hcas D hD
 by_cases hk9:e.kind=9
 · obtain ⟨a,y,_,_,hargs,_⟩:=chk_op (hQ.good _) (hQ.bool _) hc0 hk9
   rw [hargs]
   simp only
   rw [if_neg hk,if_neg hk8,if_pos hk9]
   have hop:∀ D,P D→opsS e.name=some D∧(∃ A,A.kind=1∧ExT Q S a v A)∧∃ A,A.kind=1∧ExT Q S y v A:=fun D hD=>by
     obtain ⟨ps,Γ,σ,T,h1,h2,h3⟩:=he D hD
     obtain ⟨a',y',A',B',ha',c1,c2,c3,c4,c5⟩:=chk_op (hQ.good _) (hQ.bool _) h1 hk9
     rw [hargs] at ha'
     cases ha'
     have hT:T.sub σ=T:=by
       unfold opsS at c5
       split at c5
       · cases c5;rw [Ty.sub_eq];try rfl
       · split at c5
         · cases c5;rw [Ty.sub_eq];try rfl
         · cases c5
     refine ⟨by rw [c5,← h2,hT],⟨A'.sub σ,?_,ps,Γ,σ,A',c1,rfl,h3⟩,⟨B'.sub σ,?_,ps,Γ,σ,B',c2,rfl,h3⟩⟩
     · rw [(sub_kind σ (t:=A') (by omega)).1,c3]
     · rw [(sub_kind σ (t:=B') (by omega)).1,c4]
   refine ⟨_,rfl,push _ (fun A=>ExT Q S a v A) _ ?_ (fun A h=>h) ⟨a,y,hargs,fun D hD=>?_⟩⟩
   · obtain ⟨_,⟨A,_,h⟩,_⟩:=hop D0 hD0
     exact ⟨A,h⟩
   · obtain ⟨h1,_,h2⟩:=hop D hD
     exact ⟨h1,h2⟩
 have hk10:e.kind=10:=by omega
 obtain ⟨a,y,_,hargs,_⟩:=chk_seq (hQ.good _) (hQ.bool _) hc0 hk10
 rw [hargs]
 simp only
 rw [if_neg hk,if_neg hk8,if_neg hk9,if_pos hk10]
 have hsq:∀ D,P D→(∃ A,ExT Q S a v A)∧ExT Q S y v D:=fun D hD=>by
   obtain ⟨ps,Γ,σ,T,h1,h2,h3⟩:=he D hD
   obtain ⟨a',y',A',ha',c1,c2⟩:=chk_seq (hQ.good _) (hQ.bool _) h1 hk10
   rw [hargs] at ha'
   cases ha'
   exact ⟨⟨_,ps,Γ,σ,A',c1,rfl,h3⟩,⟨ps,Γ,σ,T,c2,h2,h3⟩⟩
 refine ⟨_,rfl,push _ (fun A=>ExT Q S a v A) _ (hsq D0 hD0).1 (fun A h=>h) ⟨a,y,hargs,fun D hD=>(hsq D hD).2⟩⟩
end
end
section
open Go Go.W
section
variable {Q:Env} {S:Sg} {X:Cx} {Z:Ts}
theorem fun_inj {a b:Ty} {F A D:Ty} (h:F=funT a b) (ha:F.args=[A,D]):A=a∧D=b:=by
 subst h
 have:[a,b]=[A,D]:=ha
 cases this;exact ⟨rfl,rfl⟩
theorem base_kind (d:Dt) (σ:Sb):((baseT d).sub σ).kind=4:=(sub_kind σ (t:=baseT d) (show (4:Int)≠2 by decide)).1
theorem all2_snoc {α β:Type} {P:α→β→Prop}:∀ {l:List α} {m:List β} {a:α} {b:β},All2 P l m→P a b→All2 P (l++[a]) (m++[b])
 | [],[],a,b,_,h=>⟨h,trivial⟩
 | x::l,y::m,a,b,h,hp=>⟨h.1,all2_snoc h.2 hp⟩
 | [],_::_,_,_,h,_=>h.elim
 | _::_,[],_,_,h,_=>h.elim
theorem givenT (hQ:EnvT Q) {x:Cl} {c:Nat} {m:Rn} {P R:Ts} (hst:StT Q S m.cells) (hx:XT Q X S) (hv:x.isV=true) (hP:∀ F,P F→VT Q S x F) (hR:∃ D,R D) (hf:∀ D,R D→∃ F A,P F∧F.kind=3∧F.args=[A,D]∧S c A)
   (hfr:FsT Q S Z m.frames.reverse R):∃ r,givenR m x c=some r∧OutT Q X Z r:=by
 obtain ⟨D0,hD0⟩:=hR
 obtain ⟨F0,A0,p0,k0,a0,s0⟩:=hf D0 hD0
 have v0:=hP F0 p0
 cases x with
 | wait e v=>cases hv
 | busy=>cases hv
 | emp=>cases hv
 | num n=>
   exfalso
   have v0:F0.kind=1:=v0
   omega
 | con k cs=>
   exfalso
   obtain ⟨x,us,_,e,_⟩:=v0
   rw [e,base_kind] at k0
   omega
 | lam e v=>
   obtain ⟨hk,ps0,Γ0,σ0,T0,h1,h2,h3⟩:=v0
   obtain ⟨b,y,t0,hbs,hargs,hT0,hch0⟩:=chk_lam h1 hk
   unfold givenR
   simp only [hbs,hargs]
   refine ⟨_,rfl,S,R,hst,hx,⟨D0,hD0⟩,fun D hD=>?_,hfr⟩
   obtain ⟨F,A,q1,q2,q3,q4⟩:=hf D hD
   obtain ⟨_,ps,Γ,σ,T,i1,i2,i3⟩:=hP F q1
   obtain ⟨b',y',t,hbs',hargs',hT,hch⟩:=chk_lam i1 hk
   rw [hbs] at hbs'
   rw [hargs] at hargs'
   cases hbs';cases hargs'
   rw [hT,fun_sub] at i2
   obtain ⟨e1,e2⟩:=fun_inj i2.symm q3
   exact ⟨ps,_,σ,t,hch,e2.symm,i3.put (by rw [← e1];exact q4)⟩
 | par k l cs=>
   obtain ⟨x,us0,hx0,hl0,hl,hF0,hfd0⟩:=v0
   have hlen:=(hQ.cons k x hx0).2
   have e:Wr (l - 1)=l - 1:=wrap_in (by omega) (by omega)
   unfold givenR
   simp only
   rw [if_pos (by omega),e]
   refine ⟨_,rfl,S,R,hst,hx,⟨D0,hD0⟩,⟨grow_isV _ _ _,fun D hD=>?_⟩,hfr⟩
   obtain ⟨F,A,q1,q2,q3,q4⟩:=hf D hD
   obtain ⟨x',us,hx1,_,_,hF,hfd⟩:=hP F q1
   rw [hx0] at hx1
   cases hx1
   have hlt:cs.length < (conFields x.1 x.2).length:=by omega
   rw [List.drop_eq_getElem_cons hlt,List.foldr_cons,fun_sub] at hF
   obtain ⟨e1,e2⟩:=fun_inj hF q3
   refine growT (us:=us) hx0 (by omega) (by simp;omega) ?_ ?_
   · rw [e2];simp
   · have:(conFields x.1 x.2).take (cs++[c]).length=(conFields x.1 x.2).take cs.length++[(conFields x.1 x.2)[cs.length]]:=by
       rw [List.length_append,List.length_cons,List.length_nil,List.take_succ_eq_append_getElem hlt]
     rw [this]
     exact all2_snoc hfd (by rw [← e1];exact q4)
theorem oprT (hQ:EnvT Q) {n:ByteArray} {a b:Int} {y:Cl} (h:oprS n a b=some y) {D:Ty} (hD:opsS n=some D):y.isV=true∧VT Q S y D:=by
 have yes:∀ t:Bool,VT Q S (.con (if t then trueN else falseN) []) (.mk 4 boolN []):=fun t=>by
   cases t
   · exact ⟨(dBool,0),[],hQ.no,by rw [Ty.sub_eq];try rfl,trivial⟩
   · exact ⟨(dBool,1),[],hQ.yes,by rw [Ty.sub_eq];try rfl,trivial⟩
 have hne:∀ {p q:ByteArray},strEq n p=true→p≠q→strEq n q=false:=fun {p q} h1 h2=>by
   rw [strEq_iff] at h1 ⊢
   have:n=p:=by simpa using h1
   subst this
   simpa using h2
 unfold opsS isArith isCmp at hD
 unfold oprS at h
 by_cases h1:strEq n ⟨#[43]⟩=true
 · rw [if_pos h1] at h;cases h
   rw [h1] at hD;cases hD;exact ⟨rfl,rfl⟩
 rw [if_neg h1] at h
 by_cases h2:strEq n ⟨#[45]⟩=true
 · rw [if_pos h2] at h;cases h
   rw [h2] at hD;simp at hD;subst hD;exact ⟨rfl,rfl⟩
 rw [if_neg h2] at h
 by_cases h3:strEq n ⟨#[42]⟩=true
 · rw [if_pos h3] at h;cases h
   rw [h3] at hD;simp at hD;subst hD;exact ⟨rfl,rfl⟩
 rw [if_neg h3] at h
 by_cases h4:(strEq n ⟨#[47]⟩||strEq n ⟨#[37]⟩)=true
 · rw [if_pos h4] at h
   have hD':D = .mk 1 noStr []:=by
     simp only [Bool.or_eq_true] at h4
     rcases h4 with h4 | h4<;>(rw [h4] at hD;simp at hD;exact hD.symm)
   subst hD'
   split at h
   · cases h
   · split at h
     · cases h;exact ⟨rfl,rfl⟩
     · cases h;exact ⟨rfl,rfl⟩
 rw [if_neg h4] at h
 cases h
 simp only [Bool.or_eq_true,not_or] at h4
 have e1:(strEq n ⟨#[43]⟩||strEq n ⟨#[45]⟩||strEq n ⟨#[42]⟩||strEq n ⟨#[47]⟩||strEq n ⟨#[37]⟩)=false:=by
   simp [h1,h2,h3,h4.1,h4.2]
 rw [e1] at hD
 simp only [Bool.false_eq_true,if_false] at hD
 split at hD
 · cases hD;exact ⟨rfl,yes _⟩
 · cases hD
theorem chooseT (hQ:EnvT Q) {m:Rn} {v:Nms} {x:Cl} {P R:Ts} (hst:StT Q S m.cells) (hx:XT Q X S) (hP:∀ C,P C→VT Q S x C) (hR:∃ D,R D) (hfr:FsT Q S Z m.frames.reverse R):∀ (l:List Al),
   (∀ D,R D→∃ ps Γ σ T of,T.sub σ=D∧P (of.sub σ)∧(of.kind=1∨of.kind=4)∧Good (knowE Q ps) of∧(∀ a∈l,AltChk (knowE Q ps) Γ of T a)∧NmT S v Γ σ)→∃ r,chooseS m v x l=some r∧OutT Q X Z r
 | [],_=>⟨(none,m.stop 2),by rw [chooseS],show (3:Int)=3∧(1:Int)≤2∧(2:Int)≤4 by decide⟩
 | a::l,h=>by
   obtain ⟨D0,hD0⟩:=hR
   rw [chooseS]
   have next:∃ r,chooseS m v x l=some r∧OutT Q X Z r:=chooseT hQ hst hx hP ⟨D0,hD0⟩ hfr l (fun D hD=>by
     obtain ⟨ps,Γ,σ,T,of,h1,h2,h3,h4,h5,h6⟩:=h D hD
     exact ⟨ps,Γ,σ,T,of,h1,h2,h3,h4,fun b hb=>h5 b (by simp [hb]),h6⟩)
   by_cases hc:(a.kind == 3||(a.kind == 2&&(conOf x).isNone&&a.num == numOf x))=true
   · rw [if_pos hc]
     refine ⟨_,rfl,S,R,hst,hx,⟨D0,hD0⟩,fun D hD=>?_,hfr⟩
     obtain ⟨ps,Γ,σ,T,of,h1,h2,h3,h4,h5,h6⟩:=h D hD
     have hk:a.kind=3∨a.kind=2:=by
       simp only [Bool.or_eq_true,Bool.and_eq_true,beq_iff_eq] at hc
       rcases hc with hc | hc
       · exact .inl hc
       · exact .inr hc.1.1
     rcases h5 a (by simp) with ⟨_,hb⟩ | ⟨_,_,hb⟩ | ⟨hk1,_⟩
     · exact ⟨ps,Γ,σ,T,hb,h1,h6⟩
     · exact ⟨ps,Γ,σ,T,hb,h1,h6⟩
     · omega
   · rw [if_neg hc]
     cases x with
     | con k cs=>
       show ∃ r,(if (a.kind == 1&&strEq a.con k)=true then (bindF a.vars cs v).map (fun v'=>(some (Md.go a.body v'),m)) else chooseS m v (.con k cs) l)=some r∧OutT Q X Z r
       by_cases hm:(a.kind == 1&&strEq a.con k)=true
       · rw [if_pos hm]
         simp only [Bool.and_eq_true,beq_iff_eq] at hm
         have hname:a.con=k:=by
           have:=hm.2
           rw [strEq_iff] at this
           simpa using this
         have hall:∀ D,R D→∃ ps Γ σ T v',T.sub σ=D∧bindF a.vars cs v=some v'∧NmT S v' Γ σ∧Chk (knowE Q ps) Γ a.body T:=fun D hD=>by
           obtain ⟨ps,Γ,σ,T,of,h1,h2,h3,h4,h5,h6⟩:=h D hD
           rcases h5 a (by simp) with ⟨hk,_⟩ | ⟨hk,_,_⟩ | ⟨_,hof,y,hy,hyn,hlen,hput,hb⟩
           · omega
           · omega
           · obtain ⟨y',us,hy',hC,hfd⟩:=hP _ h2
             have hy2:aget Q.cons a.con=some y:=hy
             rw [hname,hy'] at hy2
             cases hy2
             have hl:=hfd.at.1
             have hGE:=hQ.good ps
             have hyy:aget (knowE Q ps).cons a.con=some y:=hy
             obtain ⟨⟨d,hd1,hd2⟩,hw⟩:=hGE.cons _ _ hyy
             have hbg:∀ b∈of.args,Good (knowE Q ps) b:=fun b hb=>good_mem h4 hb
             have hle:y.1.params.length≤of.args.length:=by
               have:=h4.1
               rw [of.wf_eq,hof,Bool.and_eq_true,Bool.and_eq_true] at this
               have h4:badData (knowE Q ps) of.name of.args.length=false:=by simpa using this.1.2
               unfold badData at h4
               rw [← hyn,hd1] at h4
               have h5:(d.params.length:Int)=of.args.length:=by simpa using h4
               omega
             have hargs:of.args.map (Ty.sub σ)=y.1.params.map (lk y.1.params us):=by
               have e1:=(sub_kind σ (t:=of) (by omega)).2.2
               have e2:=(sub_kind (lk y.1.params us) (t:=baseT y.1) (show (4:Int)≠2 by decide)).2.2
               rw [hC,e2] at e1
               rw [← e1]
               show (y.1.params.map varT').map (Ty.sub (lk y.1.params us))=_
               rw [List.map_map]
               refine List.map_congr_left (fun s _=>?_)
               show Ty.sub _ (varT' s)=_
               rw [Ty.sub_eq];try rfl
             have hFd:∀ (cs:List Nat) (fs:List Ty),(∀ F∈fs,F∈conFields y.1 y.2)→All2 (fun c F=>S c (F.sub (lk y.1.params us))) cs fs→All2 (fun c F=>S c ((putS y.1.params of.args F).1.sub σ)) cs fs:=by
               intro cs
               induction cs with
               | nil => intro fs _ h; cases fs with
                        | nil=>trivial
                        | cons _ _=>exact h.elim
               | cons c cs ih=>
                 intro fs hm h
                 cases fs with
                 | nil=>exact h.elim
                 | cons F fs=>
                   refine ⟨?_,ih fs (fun G hG=>hm G (by simp [hG])) h.2⟩
                   have hFm:=hm F (by simp)
                   have hFv:=(hQ.cons _ _ hy').1 F hFm
                   show S c (Ty.sub σ (putS y.1.params of.args F).1)
                   rw [put_sub hbg hle (hw F hFm) hFv (hput F hFm),inst_sub σ hFv hle,hargs]
                   rw [sub_congr (σ:=lk y.1.params (y.1.params.map (lk y.1.params us))) (τ:=lk y.1.params us) (fun n hn=>lk_map _ _ hn) F hFv]
                   exact h.1
             obtain ⟨v',hv',hnm⟩:=NmT.vars (ps:=y.1.params) (bs:=of.args) a.vars cs (conFields y.1 y.2) h6 (by omega) (hFd _ _ (fun _ h=>h) hfd)
             exact ⟨ps,_,σ,T,v',h1,hv',hnm,hb⟩
         obtain ⟨_,_,_,_,v',_,hv',_⟩:=hall D0 hD0
         rw [hv']
         refine ⟨_,rfl,S,R,hst,hx,⟨D0,hD0⟩,fun D hD=>?_,hfr⟩
         obtain ⟨ps,Γ,σ,T,v2,q1,q2,q3,q4⟩:=hall D hD
         rw [hv'] at q2
         cases q2
         exact ⟨ps,Γ,σ,T,q4,q1,q3⟩
       · rw [if_neg hm];exact next
     | num n=>exact next
     | lam e v=>exact next
     | par n l h=>exact next
     | wait e v=>exact next
     | busy=>exact next
     | emp=>exact next
theorem endT (hQ:EnvT Q) {x:Cl} {f:Fm} {m:Rn} {P:Ts} (hst:StT Q S m.cells) (hx:XT Q X S) (hv:x.isV=true) (hP:∀ F,P F→VT Q S x F) (hf:FsT Q S Z (f::m.frames.reverse) P):∃ r,endS f x m=some r∧OutT Q X Z r:=by
 obtain ⟨R,⟨D0,hD0⟩,hfm,hfr⟩:=hf
 have push:∀ (fm:Fm) (P':Ts) (md:Md),(∃ D,P' D)→MdT Q S P' md→FmT Q S P' R fm→OutT Q X Z (some md,m.push fm):=fun fm P' md h1 h2 h3=>by
   refine ⟨S,P',hst,hx,h1,h2,?_⟩
   show FsT Q S Z (m.frames++[fm]).reverse P'
   rw [rev_push]
   exact ⟨R,⟨D0,hD0⟩,h3,hfr⟩
 cases f with
 | upd c=>
   obtain ⟨h1,h2,h3⟩:=hfm
   refine ⟨_,rfl,S,R,hst.put (x:=x) ?_,hx,⟨D0,hD0⟩,⟨hv,fun D hD=>hP D (h3 D hD)⟩,hfr⟩
   have:∀ D,S c D→VT Q S x D:=fun D hD=>hP D (h2 D hD)
   cases x with
   | wait e v=>cases hv
   | busy=>cases hv
   | emp=>cases hv
   | num n=>exact this
   | con k cs=>exact this
   | lam e v=>exact this
   | par k l cs=>exact this
 | app e v=>
   obtain ⟨g,y,hargs,h⟩:=hfm
   unfold endS
   simp only [hargs]
   let N:Nat→Ts:=fun j A=>j=0∧∃ D F,R D∧P F∧F.kind=3∧F.args=[A,D]∧ExT Q S y v A
   have hext:Ext S (moreS S m.cells.length N) m.cells.length:=more_ext
   refine givenT hQ (m:=m.new (.wait y v)) (S:=moreS S m.cells.length N) (P:=P) (R:=R) ?_ (hx.mono hext.1) hv (fun F hF=>(hP F hF).mono hext.1) ⟨D0,hD0⟩ (fun D hD=>?_) (hfr.mono hext hst.dom)
   · refine hst.app (fun i z hz=>?_) (fun i hi=>?_) (fun i D hD=>?_)
     · match i,hz with
       | 0,hz=>
         cases hz
         rintro A ⟨_,D,F,_,_,_,_,h⟩
         exact h.mono hext.1
       | i+1,hz=>simp at hz
     · obtain ⟨F,A,q1,q2,q3,q4⟩:=h D0 hD0
       have:i=0:=by simpa using hi
       exact ⟨A,this,D0,F,hD0,q1,q2,q3,q4⟩
     · rw [hD.1];simp
   · obtain ⟨F,A,q1,q2,q3,q4⟩:=h D hD
     exact ⟨F,A,q1,q2,q3,.inr ⟨Nat.le_refl _,by omega,D,F,hD,q1,q2,q3,q4⟩⟩
 | cas e v=>exact chooseT hQ hst hx hP ⟨D0,hD0⟩ hfr e.alts hfm
 | fst e v=>
   obtain ⟨a,y,hargs,h⟩:=hfm
   unfold endS
   simp only [hargs]
   refine ⟨_,rfl,push _ (fun A=>ExT Q S y v A) _ ?_ (fun A h=>h) (fun D hD=>(h D hD).1)⟩
   obtain ⟨_,A,_,hA⟩:=h D0 hD0
   exact ⟨A,hA⟩
 | snd e n=>
   unfold endS
   simp only
   cases ho:oprS e.name n (numOf x) with
   | none=>exact ⟨_,rfl,rfl,show (1:Int)≤3 by decide,show (3:Int)≤4 by decide⟩
   | some y=>
     have h0:=oprT (S:=S) hQ ho (hfm D0 hD0)
     exact ⟨_,rfl,S,R,hst,hx,⟨D0,hD0⟩,⟨h0.1,fun D hD=>(oprT hQ ho (hfm D hD)).2⟩,hfr⟩
 | seq e v=>
   obtain ⟨a,y,hargs,h⟩:=hfm
   unfold endS
   simp only [hargs]
   exact ⟨_,rfl,S,R,hst,hx,⟨D0,hD0⟩,h,hfr⟩
 | hard e v=>
   obtain ⟨b,y,hbs,hargs,h⟩:=hfm
   unfold endS
   simp only [hbs,hargs]
   let N:Nat→Ts:=fun j B=>j=0∧P B
   have hext:Ext S (moreS S m.cells.length N) m.cells.length:=more_ext
   refine ⟨_,rfl,moreS S m.cells.length N,R,?_,hx.mono hext.1,⟨D0,hD0⟩,fun D hD=>?_,hfr.mono hext hst.dom⟩
   · refine hst.app (fun i z hz=>?_) (fun i hi=>?_) (fun i D hD=>?_)
     · match i,hz with
       | 0,hz=>
         cases hz
         have:∀ D,N 0 D→VT Q (moreS S m.cells.length N) x D:=fun D hD=>(hP D hD.2).mono hext.1
         cases x with
         | wait e v=>cases hv
         | busy=>cases hv
         | emp=>cases hv
         | num n=>exact this
         | con k cs=>exact this
         | lam e v=>exact this
         | par k l cs=>exact this
       | i+1,hz=>simp at hz
     · obtain ⟨ps,Γ,σ,T,q1,q2,q3,q4⟩:=h D0 hD0
       have:i=0:=by simpa using hi
       exact ⟨_,this,q2⟩
     · rw [hD.1];simp
   · obtain ⟨ps,Γ,σ,T,q1,q2,q3,q4⟩:=h D hD
     exact ⟨ps,_,σ,T,q3,q1,(q4.mono hext.1).put (.inr ⟨Nat.le_refl _,by omega,q2⟩)⟩
end
end
section
open Go Go.W
structure SmR (m:Rn) (r:R3):Prop where
 told:r.2.told=m.told
 steps:r.2.steps=m.steps
 fl:r.2.frames.length≤m.frames.length+1
 flv:∀ x,r.1=some (.val x)→r.2.frames.length≤m.frames.length
 go:∀ md,r.1=some md→r.2.kind=m.kind∧r.2.stuck=m.stuck
 stop:r.1=none→r.2.kind=3
theorem sm_same {m:Rn} {md:Md}:SmR m (some md,m):=⟨rfl,rfl,Nat.le_succ _,fun _ _=>Nat.le_refl _,fun _ _=>⟨rfl,rfl⟩,fun h=>by cases h⟩
theorem sm_stop {m:Rn} {k:Int}:SmR m (none,m.stop k):=⟨rfl,rfl,Nat.le_succ _,fun _ _=>Nat.le_refl _,fun _ h=>by (cases h),fun _=>rfl⟩
theorem sm_push {m:Rn} {e:Ex} {v:Nms} {f:Fm}:SmR m (some (.go e v),m.push f):=⟨rfl,rfl,by simp [Rn.push],fun _ h=>(by cases h),fun _ _=>⟨rfl,rfl⟩,fun h=>by cases h⟩
theorem enter_sm (m:Rn) (c:Nat):SmR m (enterCl m c):=by
 unfold enterCl
 cases m.cells[c]? with
 | none=>exact sm_stop
 | some x=>cases x<;>first | exact sm_same | exact sm_stop | exact ⟨rfl,rfl,by simp [Rn.push,Rn.put],fun _ h=>(by cases h),fun _ _=>⟨rfl,rfl⟩,fun h=>by cases h⟩
theorem begin_sm {X:Cx} {e:Ex} {v:Nms} {m:Rn} {r:R3} (h:beginS X e v m=some r):SmR m r:=by
 unfold beginS at h
 by_cases k1:e.kind=1
 · rw [if_pos k1] at h
   obtain ⟨c,_,rfl⟩:=Option.map_eq_some_iff.1 h;exact enter_sm m c
 rw [if_neg k1] at h
 by_cases k3:e.kind=3
 · rw [if_pos k3] at h
   obtain ⟨c,_,rfl⟩:=Option.map_eq_some_iff.1 h;exact enter_sm m c
 rw [if_neg k3] at h
 by_cases k2:e.kind=2
 · rw [if_pos k2] at h;cases h;exact sm_same
 rw [if_neg k2] at h
 by_cases k4:e.kind=4
 · rw [if_pos k4] at h;cases h;exact sm_same
 rw [if_neg k4] at h
 by_cases k6:e.kind=6
 · rw [if_pos k6] at h;cases h;exact sm_same
 rw [if_neg k6] at h
 by_cases k12:e.kind=12
 · rw [if_pos k12] at h;cases h;exact sm_stop
 rw [if_neg k12] at h
 by_cases k7:e.kind=7
 · rw [if_pos k7] at h
   split at h
   · cases h
   · cases h;exact ⟨rfl,rfl,Nat.le_succ _,fun _ _=>Nat.le_refl _,fun _ _=>⟨rfl,rfl⟩,fun h=>by cases h⟩
 rw [if_neg k7] at h
 by_cases k11:e.kind=11
 · rw [if_pos k11] at h
   split at h
   · cases h
   · cases h;exact sm_push
 rw [if_neg k11] at h
 split at h
 · cases h
 · cases h
   by_cases k5:e.kind=5
   · rw [if_pos k5];exact sm_push
   by_cases k8:e.kind=8
   · rw [if_neg k5,if_pos k8];exact sm_push
   by_cases k9:e.kind=9
   · rw [if_neg k5,if_neg k8,if_pos k9];exact sm_push
   by_cases k10:e.kind=10
   · rw [if_neg k5,if_neg k8,if_neg k9,if_pos k10];exact sm_push
   · rw [if_neg k5,if_neg k8,if_neg k9,if_neg k10];exact sm_same
theorem given_sm {m:Rn} {f:Cl} {c:Nat} {r:R3} (h:givenR m f c=some r):SmR m r:=by
 unfold givenR at h
 split at h
 · split at h
   · cases h;exact sm_same
   · cases h
 · split at h
   · cases h;exact sm_same
   · cases h
 · cases h;exact sm_stop
theorem choose_sm {m:Rn} {v:Nms} {x:Cl}:∀ (l:List Al) {r:R3},chooseS m v x l=some r→SmR m r
 | [],r,h=>by rw [chooseS] at h;cases h;exact sm_stop
 | a::l,r,h=>by
   rw [chooseS] at h
   split at h
   · cases h;exact sm_same
   · split at h
     · split at h
       · obtain ⟨c,_,rfl⟩:=Option.map_eq_some_iff.1 h;exact sm_same
       · exact choose_sm l h
     · exact choose_sm l h
theorem end_sm {f:Fm} {x:Cl} {m:Rn} {r:R3} (h:endS f x m=some r):SmR m r:=by
 unfold endS at h
 split at h
 · cases h;exact ⟨rfl,rfl,Nat.le_succ _,fun _ _=>Nat.le_refl _,fun _ _=>⟨rfl,rfl⟩,fun h=>by cases h⟩
 · split at h
   · have k:=given_sm h
     exact ⟨k.told,k.steps,k.fl,k.flv,k.go,k.stop⟩
   · cases h
 · exact choose_sm _ h
 · split at h
   · cases h;exact sm_push
   · cases h
 · split at h
   · cases h;exact sm_same
   · cases h;exact sm_stop
 · split at h
   · cases h;exact sm_same
   · cases h
 · split at h
   · cases h;exact ⟨rfl,rfl,Nat.le_succ _,fun _ _=>Nat.le_refl _,fun _ _=>⟨rfl,rfl⟩,fun h=>by cases h⟩
   · cases h
theorem step_cases (X:Cx) (m:Rn):(m.steps=X.fuel∧stepS X m=(false,{ m with kind:=4}))∨(m.steps≠X.fuel∧stepS X m=(true,{ m with steps:=m.steps+1})):=by
 unfold stepS
 split
 · exact .inl ⟨by assumption,rfl⟩
 · exact .inr ⟨by assumption,rfl⟩
structure GoR (X:Cx) (m:Rn) (r:Option Cl×Rn):Prop where
 told:r.2.told=m.told
 steps:m.steps≤r.2.steps
 fuel:m.steps≤X.fuel→r.2.steps≤X.fuel
 val:∀ x,r.1=some x→r.2.kind=m.kind∧r.2.stuck=m.stuck∧r.2.frames=[]
 stop:r.1=none→(r.2.kind=4∧r.2.steps=X.fuel∧r.2.stuck=m.stuck)∨r.2.kind=3
theorem GoR.from {X:Cx} {m m':Rn} {r:Option Cl×Rn} (h:GoR X m' r) (h1:m'.told=m.told) (h2:m.steps≤m'.steps) (h3:m.steps≤X.fuel→m'.steps≤X.fuel) (h4:m'.kind=m.kind∧m'.stuck=m.stuck):GoR X m r:=
 ⟨h.told.trans h1,Int.le_trans h2 h.steps,fun hh=>h.fuel (h3 hh),fun x hx=>by obtain ⟨a,b,c⟩:=h.val x hx;exact ⟨a.trans h4.1,b.trans h4.2,c⟩,fun hn=>by
   rcases h.stop hn with ⟨a,b,c⟩ | a
   · exact .inl ⟨a,b,c.trans h4.2⟩
   · exact .inr a⟩
theorem goOn_sm {X:Cx}:∀ (n:Nat) {md:Md} {m:Rn} {r:Option Cl×Rn},goOnS X n md m=some r→GoR X m r
 | 0,md,m,r,h=>by cases md<;>(rw [goOnS] at h;cases h)
 | n+1,.go e v,m,r,h=>by
   rw [goOnS] at h
   rcases step_cases X m with ⟨h1,h2⟩ | ⟨h1,h2⟩
   · rw [h2] at h
     simp only [if_true] at h
     cases h
     exact ⟨rfl,Int.le_refl _,fun h=>h,fun x hx=>by (cases hx),fun _=>.inl ⟨rfl,h1,rfl⟩⟩
   · rw [h2] at h
     simp only [Bool.true_eq_false,if_false] at h
     split at h
     · cases h
     · rename_i m' hb
       cases h
       have k:=begin_sm hb
       have ks:m'.steps=m.steps+1:=k.steps
       exact ⟨k.told,by show m.steps≤m'.steps;omega,fun hh=>by show m'.steps≤_;omega,fun x hx=>by (cases hx),fun _=>.inr (k.stop rfl)⟩
     · rename_i md' m' hb
       have k:=begin_sm hb
       have ks:m'.steps=m.steps+1:=k.steps
       exact (goOn_sm n h).from k.told (by omega) (fun hh=>by omega) (k.go _ rfl)
 | n+1,.val x,m,r,h=>by
   rw [goOnS] at h
   split at h
   · rename_i hl
     cases h
     exact ⟨rfl,Int.le_refl _,fun h=>h,fun x hx=>⟨rfl,rfl,List.getLast?_eq_none_iff.1 hl⟩,fun hn=>by cases hn⟩
   · split at h
     · cases h
     · rename_i m' hb
       cases h
       have k:=end_sm hb
       have ks:m'.steps=m.steps:=k.steps
       exact ⟨k.told,by show m.steps≤m'.steps;omega,fun hh=>by show m'.steps≤_;omega,fun x hx=>by (cases hx),fun _=>.inr (k.stop rfl)⟩
     · rename_i md' m' hb
       have k:=end_sm hb
       have ks:m'.steps=m.steps:=k.steps
       exact (goOn_sm n h).from k.told (by omega) (fun hh=>by omega) (k.go _ rfl)
def muG (X:Cx):Md→Rn→Nat
 | .go _ _,m=>3*(X.fuel - m.steps).toNat+m.frames.length
 | .val _,m=>3*(X.fuel - m.steps).toNat+m.frames.length+1
def EndT (Q:Env) (X:Cx) (Z:Ts) (r:Option Cl×Rn):Prop:=match r with
 | (none,m)=>m.kind=4∨(m.kind=3∧1≤m.stuck∧m.stuck≤4)
 | (some x,m)=>∃ S,StT Q S m.cells∧XT Q X S∧x.isV=true∧∀ D,Z D→VT Q S x D
theorem goOnT {Q:Env} {X:Cx} {Z:Ts} (hQ:EnvT Q):∀ (n:Nat) {md:Md} {m:Rn} {S:Sg} {P:Ts},StT Q S m.cells→XT Q X S→(∃ D,P D)→MdT Q S P md→FsT Q S Z m.frames.reverse P→m.steps≤X.fuel→muG X md m < n→∃ r,goOnS X n md m=some r∧EndT Q X Z r
 | 0,md,m,S,P,_,_,_,_,_,_,hn=>by omega
 | n+1,.go e v,m,S,P,hst,hx,hP,hmd,hf,hs,hn=>by
   rw [goOnS]
   rcases step_cases X m with ⟨h1,h2⟩ | ⟨h1,h2⟩
   · rw [h2,if_pos rfl];exact ⟨_,rfl,.inl rfl⟩
   · rw [h2,if_neg (by simp)]
     obtain ⟨r,hb,ho⟩:=beginT (Z:=Z) (m:={ m with steps:=m.steps+1}) hQ hst hx hP hmd hf
     have k:=begin_sm hb
     simp only [hb]
     match r,ho,k with
     | (none,m'),ho,k=>exact ⟨_,rfl,.inr ho⟩
     | (some md',m'),⟨S',P',a1,a2,a3,a4,a5⟩,k=>
       have ks:m'.steps=m.steps+1:=k.steps
       have kf:m'.frames.length≤m.frames.length+1:=k.fl
       refine goOnT hQ n a1 a2 a3 a4 a5 (by omega) ?_
       cases md'<;>(simp only [muG] at hn ⊢;omega)
 | n+1,.val x,m,S,P,hst,hx,hP,hmd,hf,hs,hn=>by
   rw [goOnS]
   cases hl:m.frames.getLast? with
   | none=>
     have he:=List.getLast?_eq_none_iff.1 hl
     rw [he] at hf
     exact ⟨_,rfl,S,hst,hx,hmd.1,fun D hD=>hmd.2 D (hf D hD)⟩
   | some f=>
     have hfr:m.frames.reverse=f::m.frames.dropLast.reverse:=by
       have h1:m.frames≠[]:=fun e=>by rw [e] at hl;cases hl
       have h2:m.frames.getLast h1=f:=by
         rw [List.getLast?_eq_some_getLast h1] at hl
         exact Option.some.inj hl
       conv=>lhs;rw [← List.dropLast_concat_getLast h1]
       rw [rev_push,h2]
     have hlen:m.frames.length=m.frames.dropLast.length+1:=by
       have:=congrArg List.length hfr
       simpa using this
     rw [hfr] at hf
     obtain ⟨r,hb,ho⟩:=endT (Z:=Z) (m:={ m with frames:=m.frames.dropLast}) hQ hst hx hmd.1 hmd.2 hf
     have k:=end_sm hb
     simp only [hb]
     match r,ho,k with
     | (none,m'),ho,k=>exact ⟨_,rfl,.inr ho⟩
     | (some md',m'),⟨S',P',a1,a2,a3,a4,a5⟩,k=>
       have ks:m'.steps=m.steps:=k.steps
       have kf:m'.frames.length≤m.frames.dropLast.length+1:=k.fl
       have kv:∀ x,some md'=some (Md.val x)→m'.frames.length≤m.frames.dropLast.length:=k.flv
       refine goOnT hQ n a1 a2 a3 a4 a5 (by omega) ?_
       cases md' with
       | go e v=>simp only [muG] at hn ⊢;omega
       | val y=>have:=kv y rfl;simp only [muG] at hn ⊢;omega
theorem goOn_more {X X':Cx} (hd:X'.defs=X.defs) (hf:X'.fields=X.fields) (hu:X.fuel≤X'.fuel):∀ (n:Nat) {md:Md} {m:Rn} {r:Option Cl×Rn},m.steps≤X.fuel→goOnS X n md m=some r→¬ (r.1=none∧r.2.kind=4)→goOnS X' n md m=some r
 | 0,md,m,r,_,h,_=>by cases md<;>(rw [goOnS] at h;cases h)
 | n+1,.go e v,m,r,hs,h,hno=>by
   rw [goOnS] at h ⊢
   rcases step_cases X m with ⟨h1,h2⟩ | ⟨h1,h2⟩
   · rw [h2,if_pos rfl] at h
     cases h
     exact absurd ⟨rfl,rfl⟩ hno
   · rw [h2,if_neg (by simp)] at h
     have h3:stepS X' m=(true,{ m with steps:=m.steps+1}):=by unfold stepS;rw [if_neg (by omega)]
     have h4:∀ m,beginS X' e v m=beginS X e v m:=fun m=>by unfold beginS;rw [hd,hf]
     rw [h3,if_neg (by simp)]
     simp only [h4]
     simp only at h
     split at h
     · cases h
     · cases h;rfl
     · rename_i md' m' hb
       have k:=begin_sm hb
       have ks:m'.steps=m.steps+1:=k.steps
       exact goOn_more hd hf hu n (by omega) h hno
 | n+1,.val x,m,r,hs,h,hno=>by
   rw [goOnS] at h ⊢
   split at h
   · exact h
   · split at h
     · cases h
     · exact h
     · rename_i md' m' hb
       have k:=end_sm hb
       have ks:m'.steps=m.steps:=k.steps
       exact goOn_more hd hf hu n (by omega) h hno
end
section
open Go Go.W
theorem sl_same (a:Option Addr) (c:Nat):(if c=0 then a else Option.map (fun x=>x) a)=a:=by
 split
 · rfl
 · cases a<;>rfl
theorem own_pre {w:World} {T sz n c:Nat} {a:Option Addr} {xs:List Value} {fp:Option Nat} (h:OwnS w T sz (.slice a n c) xs n fp) {k:Nat} (hk:k≤n):OwnS w T sz (.slice a k c) (xs.take (k*sz)) k fp:=by
 obtain ⟨h1,h2⟩:=h
 refine ⟨by rw [List.length_take,h1];exact Nat.min_eq_left (Nat.mul_le_mul_right _ hk),?_⟩
 rcases h2 with ⟨e,rfl,rfl⟩ | ⟨b,c',sp,e,rfl,h3,h4,h5⟩
 · cases e
   obtain rfl:k=0:=by omega
   exact .inl ⟨rfl,rfl,rfl⟩
 · cases e
   refine .inr ⟨b,c,xs.drop (k*sz)++sp,rfl,rfl,?_,?_,by omega⟩
   · rw [← List.append_assoc,List.take_append_drop];exact h3
   · rw [← List.append_assoc,List.take_append_drop];exact h4
def ValAt (w:World) (B:Nat→Prop) (bs:List Nat) (v:Value):Option Cl→Prop
 | some x=>∃ u,v = .tuple #[u,.bool true]∧ClAt w B bs x u∧x.isV=true
 | none=>v = .tuple #[.nilIface,.bool false]
def RvAt (w w':World) (S:Nat→Prop) (r md mf:Nat) (bs:List Nat) (X:Cx) (v:Value) (x:Option Cl×Rn):Prop:=
 ∃ S' bs',RnAt w' S' r md mf bs' X x.2∧Grew S S' w∧(∀ (c b:Nat),bs[c]? = some b→bs'[c]? = some b)∧ValAt w' (Out S' w') bs' v x.1
theorem RvAt.tup {w w':World} {S:Nat→Prop} {r md mf:Nat} {bs:List Nat} {X:Cx} {v:Value} {x:Option Cl×Rn} (h:RvAt w w' S r md mf bs X v x):∃ a b,v = .tuple #[a,b]:=by
 obtain ⟨S',bs',_,_,_,h⟩:=h
 match x,h with
 | (some x,m),⟨u,e,_⟩=>exact ⟨_,_,e⟩
 | (none,m),e=>exact ⟨_,_,e⟩
theorem rv_trans {w w' w'':World} {S S':Nat→Prop} {r md mf:Nat} {bs bs':List Nat} {X:Cx} {v:Value} {x:Option Cl×Rn} (hg:Grew S S' w) (hb:∀ (c b:Nat),bs[c]? = some b→bs'[c]? = some b) (hm:Mod S w w') (h:RvAt w' w'' S' r md mf bs' X v x∧Mod S' w' w''):RvAt w w'' S r md mf bs X v x∧Mod S w w'':=by
 obtain ⟨⟨S2,bs2,h1,h2,h3,h4⟩,h5⟩:=h
 exact ⟨⟨S2,bs2,h1,grew_step hg h2 hm.size,fun c b hc=>h3 c b (hb c b hc),h4⟩,mod_grew hm hg h5⟩
theorem RnAt.pop {w w':World} {S:Nat→Prop} {r md mf:Nat} {bs:List Nat} {X:Cx} {m:Rn} {vt:Value} {af:Option Addr} {cf:Nat} {trows frows:List (List Value)} {tfp ffp:Option Nat} (h:RnIn w S r md mf bs X m vt (.slice af frows.length cf) trows frows tfp ffp) (hm:Mod (· = r) w w')
   (hb:w'.heap[r]? = some (.cells (rnCells X m md mf vt (.slice af (frows.length - 1) cf)).toArray tRun (0,0))):RnAt w' S r md mf bs X { m with frames:=m.frames.dropLast}:=by
 obtain ⟨n1,n2,n3,n4,n5,n6,n7,n8,n9⟩:=h.ne
 have Sr:∀ b,b=r→S b:=fun b hb=>by rw [hb];exact h.inS _ (by simp)
 have hmS:=hm.weak Sr
 have hlen:=h.frames.at.1
 have hrow:∀ x∈frows,x.length=5:=fun x hx=>by
   obtain ⟨i,hi,rfl⟩:=List.getElem_of_mem hx
   exact (h.frames.at.2 i _ _ (List.getElem?_eq_getElem hi) (List.getElem?_eq_getElem (by omega))).len
 have htake:∀ (l:List (List Value)) (k:Nat),(∀ x∈l,x.length=5)→(l.flatMap id).take (k*5)=(l.take k).flatMap id:=by
   intro l
   induction l with
   | nil=>intro k _;simp
   | cons x l ih=>
     intro k hx
     cases k with
     | zero=>simp
     | succ k=>
       have hxl:=hx x (by simp)
       rw [List.flatMap_cons,List.take_succ_cons,List.flatMap_cons,← ih k (fun y hy=>hx y (by simp [hy])),Nat.add_mul,Nat.one_mul]
       rw [List.take_append,show (id x).length=5 from hxl,Nat.add_sub_cancel,List.take_of_length_le (by rw [show (id x).length=5 from hxl];omega)]
 have hown:=own_pre (h.frms.mod hm (fun b hb e=>(n5 b hb).1 e.symm)) (k:=frows.length - 1) (by omega)
 rw [htake frows _ hrow] at hown
 have hl2:(frows.take (frows.length - 1)).length=frows.length - 1:=by rw [List.length_take];omega
 have hdl:m.frames.dropLast=m.frames.take (m.frames.length - 1):=List.dropLast_eq_take
 have hframes:All2 (FmAt w' (Out S w') bs) (frows.take (frows.length - 1)) m.frames.dropLast:=by
   rw [hdl,← hlen]
   have key:∀ (l:List (List Value)) (fs:List Fm) (k:Nat),All2 (FmAt w (Out S w) bs) l fs→All2 (FmAt w' (Out S w') bs) (l.take k) (fs.take k):=by
     intro l
     induction l with
     | nil => intro fs k ha; cases fs with
              | nil=>simp;trivial
              | cons _ _=>exact ha.elim
     | cons x l ih=>
       intro fs k ha
       cases fs with
       | nil=>exact ha.elim
       | cons f fs=>
         cases k with
         | zero=>trivial
         | succ k=>exact ⟨ha.1.up hmS out_not (out_up hmS) (fun _ _ h=>h),ih fs k ha.2⟩
   exact key _ _ _ h.frames
 refine ⟨vt,.slice af (frows.length - 1) cf,trows,frows.take (frows.length - 1),tfp,ffp,hb,h.told.mod hm (fun b hb e=>(n4 b hb).1 e.symm),h.items,by rw [hl2];exact hown,hframes,h.blocks,h.inS,fun b hb=>Nat.lt_of_lt_of_le (h.lt b hb) hm.size,h.len,?_,
   h.defs.mod hm (fun e=>n1 e.symm) (fun _ _ x=>x),h.fields.mod hm (fun e=>n2 e.symm) (fun _ _ x=>x),h.steps,fun p hp=>by
     obtain ⟨a1,a2,a3⟩:=h.kept p hp
     exact ⟨hm.at a1 (fun e=>a3 (by rw [e];simp)),a2,a3⟩⟩
 intro i b x hi hx
 obtain ⟨v,h1,h2⟩:=h.cell i b x hi hx
 exact ⟨v,hm.at h1 (fun e=>(n6 b (List.mem_of_getElem? hi)).1 e.symm),h2.up hmS out_not (out_up hmS) (fun _ _ h=>h)⟩
theorem f_goOn {n:Nat} {w:World} {S:Nat→Prop} {r md mf:Nat} {bs:List Nat} {X:Cx} {m:Rn} {e:Ex} {nm:Nms} {ve vn:Value} {res:Option Cl×Rn} (h:RnAt w S r md mf bs X m) (he:EPtr w (Out S w) ve e) (hn:NmAt w (Out S w) bs nm vn) (hlen:(m.frames.length:Int)≤m.steps+1) (hres:goOnS X n (.go e nm) m=some res) :
   CallsR Tryz.prog 35 [ptr r,ve,vn] w fun v w'=>RvAt w w' S r md mf bs X v res∧Mod S w w':=by
 refine fit35.calls rfl ?_
 unfold ir35
 (try simp only [go_sem,simprocAttr])
 refine ir_loop (fun z ρ w'=>Mod S w w'∧∃ (S':Nat→Prop) (bs':List Nat) (m':Rn) (d:Md) (v1 v2 v8:Value),RnAt w' S' r md mf bs' X m'∧Grew S S' w∧(∀ (c b:Nat),bs[c]? = some b→bs'[c]? = some b)∧MdAt w' (Out S' w') bs' (.tuple #[v1,v2,v8,.bool true]) (some d)∧(m'.frames.length:Int)≤m'.steps+1∧goOnS X z d m'=some res ∧
   ρ.get 0=some (ptr r)∧ρ.get 1=some v1∧ρ.get 2=some v2∧ρ.get 8=some v8) n ⟨.refl _ _,S,bs,m,.go e nm,ve,vn,.nilIface,h,grew_refl,fun _ _ h=>h,⟨ve,vn,rfl,he,hn⟩,hlen,hres,rfl,rfl,rfl,rfl⟩ ?_
 rintro z ρ w1 ⟨hm1,S1,bs1,m1,d,v1,v2,v8,hR1,hg1,hbs1,hmd,hl1,hgo,g0,g1,g2,g8⟩
 have hst1:m1.steps≤1048576∧0≤m1.steps:=by
   obtain ⟨_,_,_,_,_,_,hh⟩:=hR1
   have:=hh.steps;omega
 unfold ir35L1
 match z,d,hmd,hgo with
 | 0,.go _ _,_,hgo=>rw [goOnS] at hgo;cases hgo
 | 0,.val _,_,hgo=>rw [goOnS] at hgo;cases hgo
 | z+1,.go e nm,⟨ve,vn,ee,he,hn⟩,hgo=>
   obtain ⟨rfl,rfl,rfl⟩:v1=ve∧v2=vn∧v8 = .nilIface:=by
     simp only [Value.tuple.injEq,Array.mk.injEq,List.cons.injEq] at ee
     exact ⟨ee.1,ee.2.1,ee.2.2.1⟩
   have hp:∃ a,v1 = .pointer (some a):=by obtain ⟨a,_,rfl,_⟩:=he;exact ⟨a,rfl⟩
   obtain ⟨ap,rfl⟩:=hp
   rw [goOnS] at hgo
   (try simp only [go_sem,simprocAttr,g0,g1,g2,g8])
   refine e_call (by rfl) ?_
   refine (f_step hR1).mono ?_
   rintro _ w2 ⟨rfl,hR2,hm2⟩
   have Sr:∀ y,y=r→S1 y:=fun y hy=>by obtain ⟨_,_,_,_,_,_,hx⟩:=hR1;rw [hy];exact hx.inS _ (by simp)
   have hm2S:=hm2.weak Sr
   have hm02:=mod_grew hm1 hg1 hm2S
   rcases step_cases X m1 with ⟨q1,q2⟩ | ⟨q1,q2⟩
   · rw [q2,if_pos rfl] at hgo
     rw [q2] at hR2 ⊢
     cases hgo
     (try simp only [go_sem,simprocAttr,rvs,RV.ev,one?])
     exact ⟨⟨S1,bs1,hR2,hg1,hbs1,rfl⟩,hm02⟩
   · rw [q2,if_neg (by simp)] at hgo
     rw [q2] at hR2 ⊢
     simp only at hgo
     have he2:=he.up hm2S out_not (out_up hm2S) (B':=Out S1 w2)
     have hn2:=hn.up hm2S out_not (out_up hm2S) (fun _ _ h=>h)
     cases hb:beginS X e nm { m1 with steps:=m1.steps+1} with
     | none=>rw [hb] at hgo;cases hgo
     | some rr=>
     rw [hb] at hgo
     have hsm:=begin_sm hb
     (try simp only [go_sem,simprocAttr])
     refine e_call (by rfl) ?_
     refine (f_beginR hR2 he2 hn2 (show m1.frames.length≤2097152 by omega) hb).mono ?_
     rintro v w3 ⟨⟨S3,bs3,hR3,hg3,hbs3,hmd3⟩,hm3⟩
     have hg03:=grew_step hg1 hg3 hm02.size
     have hm03:=mod_grew hm02 hg1 hm3
     have hbs03:∀ (c b:Nat),bs[c]? = some b→bs3[c]? = some b:=fun c b h=>hbs3 c b (hbs1 c b h)
     match rr,hgo,hmd3,hsm,hR3 with
     | (none,m'),hgo,hmd3,hsm,hR3=>
       have hmd3:v=_:=hmd3
       subst hmd3
       cases hgo
       (try simp only [go_sem,simprocAttr,rvs,RV.ev,one?])
       exact ⟨⟨S3,bs3,hR3,hg03,hbs03,rfl⟩,hm03⟩
     | (some md',m'),hgo,hmd3,hsm,hR3=>
       obtain ⟨a,b,c,d,rfl⟩:=hmd3.tup
       have hd:d = .bool true:=by
         match md',hmd3 with
         | .go _ _,⟨_,_,e1,_⟩=>cases e1;rfl
         | .val _,⟨_,e1,_⟩=>cases e1;rfl
       subst hd
       have ks:m'.steps=m1.steps+1:=hsm.steps
       have kf:m'.frames.length≤m1.frames.length+1:=hsm.fl
       (try simp only [go_sem,simprocAttr])
       exact ⟨_,Nat.lt_succ_self z,hm03,S3,bs3,m',md',a,b,c,hR3,hg03,hbs03,hmd3,by omega,hgo,rfl,rfl,rfl⟩
 | z+1,.val x,⟨u,ee,hu,hv⟩,hgo=>
   obtain ⟨rfl,rfl,rfl⟩:v1 = .pointer none∧v2 = .pointer none∧v8=u:=by
     simp only [Value.tuple.injEq,Array.mk.injEq,List.cons.injEq] at ee
     exact ⟨ee.1,ee.2.1,ee.2.2.1⟩
   rw [goOnS] at hgo
   obtain ⟨vt,vf,trows,frows,tfp,ffp,hh⟩:=hR1
   have hlf:=hh.frames.at.1
   cases hl:m1.frames.getLast? with
   | none=>
     rw [hl] at hgo
     cases hgo
     have h0:=List.getLast?_eq_none_iff.1 hl
     have b0:((frows.length:Int) == 0)=true:=by rw [hlf,h0];try rfl
     obtain ⟨af,cf,rfl,hcf,_⟩:=hh.frms.val
     (try simp only [go_sem,simprocAttr,Option.isNone_none,Bool.not_true,g0,g1,g2,g8,cell_of hh.box,b0,rvs,RV.ev,one?])
     exact ⟨⟨S1,bs1,⟨_,_,_,_,_,_,hh⟩,hg1,hbs1,(show ValAt w1 (Out S1 w1) bs1 _ (some x) from ⟨_,rfl,hu,hv⟩)⟩,hm1⟩
   | some f=>
     rw [hl] at hgo
     simp only at hgo
     have hne:m1.frames≠[]:=fun e=>by rw [e] at hl;cases hl
     have hpos:0 < frows.length:=by rw [hlf];exact List.length_pos_iff.2 hne
     have b0:((frows.length:Int) == 0)=false:=by
       have:¬ (frows.length:Int)=0:=by omega
       simpa using this
     have e1:IntKind.i64.wrap ((frows.length:Int) - 1)=((frows.length - 1:Nat):Int):=by rw [wrap_in (by omega) (by omega)];omega
     have b1:(0:Int)≤((frows.length - 1:Nat):Int)∧((frows.length - 1:Nat):Int) < frows.length:=by omega
     obtain ⟨bF,cf,sp,rfl,hfp,hbF,hcf,_⟩:=hh.frms.pos hpos
     have b3:(0:Int)≤((frows.length - 1:Nat):Int)∧((frows.length - 1:Nat):Int)≤cf:=by omega
     have hrow:∀ x∈frows,x.length=5:=fun x hx=>by
       obtain ⟨i,hi,rfl⟩:=List.getElem_of_mem hx
       exact (hh.frames.at.2 i _ _ (List.getElem?_eq_getElem hi) (List.getElem?_eq_getElem (by omega))).len
     have hk:frows.length - 1 < frows.length:=by omega
     have hfl:(frows.flatMap id).length=frows.length*5:=hh.frms.1
     have hln:vLN w1 5 (.pointer (some ⟨bF,(frows.length - 1)*5,none⟩))=some (.agg (frows[frows.length - 1]).toArray):=by
       rw [ln_of hbF (by rw [List.length_append,hfl];omega),List.drop_append_of_le_length (by rw [hfl];omega),List.take_append_of_le_length (by rw [List.length_drop,hfl];omega),flat_take hrow hk]
     have hfm:FmAt w1 (Out S1 w1) bs1 frows[frows.length - 1] f:=hh.frames.at.2 _ _ _ (List.getElem?_eq_getElem hk) (by rw [hlf,← List.getLast?_eq_getElem?];exact hl)
     generalize frows[frows.length - 1]=row at hln hfm
     (try simp only [go_sem,simprocAttr,Option.isNone_none,Bool.not_true,g0,g1,g2,g8,cell_of hh.box,b0,e1])
     (try simp only [go_sem,simprocAttr,zb4,zb6,b1,add_at,Nat.zero_add,hln])
     have lrow:=hfm.len
     have hlr:=lt_of_heap hh.box
     have hlF:=lt_of_heap hbF
     refine e_al ?_
     intro w2 hb2 hm2 hs2
     have hm2:Mod (fun _=>False) w1 w2:=hm2.of_drew
     refine ⟨⟨hm2.old _ hlF _root_.id,hm2.old _ hlr _root_.id⟩,?_⟩
     have hb2:w2.heap[w1.heap.size]? = some (.cells [I 0,.pointer none,.pointer none,.pointer none,I 0].toArray 136 (0,0)):=hb2
     refine e_sta (vs:=row) (cs:=[I 0,.pointer none,.pointer none,.pointer none,I 0]) rfl rfl hb2 lrow rfl hfm.one ?_
     intro w3 hb3 hm3 hs3
     have hm13:Mod (fun _=>False) w1 w3:=hm2.step hm3 (fun b hb hl=>by have e:b=w1.heap.size:=hb;omega)
     have hbox3:=hm13.at hh.box _root_.id
     (try simp only [go_sem,simprocAttr,cell_of hbox3,e1])
     (try simp only [go_sem,simprocAttr,zb4,zb6,cell_of hbox3,e1,b3,sl_same,ite_self])
     have hbox3d:w3.drew.heap[r]? = _:=hbox3
     refine e_st1 (b:=r) (off:=11) (v:=.slice (some ⟨bF,0,none⟩) (frows.length - 1) cf) rfl rfl hbox3d rfl (by simp) ?_
     intro w4 hb4 hm4 hs4
     have hm4:Mod (· = r) w3 w4:=hm4.of_drew
     have hR4:=RnAt.pop (hh.keep hm13) hm4 hb4
     have Sr:∀ y,y=r→S1 y:=fun y hy=>by rw [hy];exact hh.inS _ (by simp)
     have hm14:Mod S1 w1 w4:=(mod0 hm13).trans (hm4.weak Sr)
     have hb34:w4.heap[w1.heap.size]? = some (.cells row.toArray 136 (0,0)):=hm4.at hb3 (fun e=>by have:=hlr;omega)
     have hfm4:=hfm.up hm14 out_not (out_up hm14) (fun _ _ h=>h)
     have hu4:=hu.up hm14 out_not (out_up hm14) (fun _ _ h=>h)
     cases hb:endS f x { m1 with frames:=m1.frames.dropLast} with
     | none=>rw [hb] at hgo;cases hgo
     | some rr=>
     rw [hb] at hgo
     have hsm:=end_sm hb
     have hdl:m1.frames.dropLast.length=m1.frames.length - 1:=List.length_dropLast
     (try simp only [go_sem,simprocAttr,ln_blk (n:=5) (cs:=row) hb34 lrow])
     refine e_call (by rfl) ?_
     refine (f_endR hR4 hfm4 hu4 hv (show m1.frames.dropLast.length≤2097152 by omega) hb).mono ?_
     rintro v w5 ⟨⟨S3,bs3,hR3,hg3,hbs3,hmd3⟩,hm5⟩
     have hm04:=mod_grew hm1 hg1 hm14
     have hg03:=grew_step hg1 hg3 hm04.size
     have hm05:=mod_grew hm04 hg1 hm5
     have hbs03:∀ (c b:Nat),bs[c]? = some b→bs3[c]? = some b:=fun c b h=>hbs3 c b (hbs1 c b h)
     match rr,hgo,hmd3,hsm,hR3 with
     | (none,m'),hgo,hmd3,hsm,hR3=>
       have hmd3:v=_:=hmd3
       subst hmd3
       cases hgo
       (try simp only [go_sem,simprocAttr,rvs,RV.ev,one?])
       exact ⟨⟨S3,bs3,hR3,hg03,hbs03,rfl⟩,hm05⟩
     | (some md',m'),hgo,hmd3,hsm,hR3=>
       obtain ⟨a,b,c,d,rfl⟩:=hmd3.tup
       have hd:d = .bool true:=by
         match md',hmd3 with
         | .go _ _,⟨_,_,e1,_⟩=>cases e1;rfl
         | .val _,⟨_,e1,_⟩=>cases e1;rfl
       subst hd
       have ks:m'.steps=m1.steps:=hsm.steps
       have kf:m'.frames.length≤m1.frames.dropLast.length+1:=hsm.fl
       (try simp only [go_sem,simprocAttr])
       exact ⟨_,Nat.lt_succ_self z,hm05,S3,bs3,m',md',a,b,c,hR3,hg03,hbs03,hmd3,by omega,hgo,rfl,rfl,rfl⟩
theorem f_work {n:Nat} {w:World} {S:Nat→Prop} {r md mf:Nat} {bs:List Nat} {X:Cx} {m:Rn} {e:Ex} {nm:Nms} {ve vn:Value} {res:Option Cl×Rn} (h:RnAt w S r md mf bs X m) (he:EPtr w (Out S w) ve e) (hn:NmAt w (Out S w) bs nm vn) (hlen:(m.frames.length:Int)≤m.steps+1) (hres:goOnS X n (.go e nm) m=some res) :
   CallsR Tryz.prog 26 [ptr r,ve,vn] w fun v w'=>RvAt w w' S r md mf bs X v res∧Mod S w w':=by
 refine fit26.calls rfl ?_
 unfold ir26
 (try simp only [go_sem,simprocAttr])
 refine e_call (by rfl) ?_
 refine (f_goOn h he hn hlen hres).mono ?_
 rintro v w1 hR
 obtain ⟨a,b,rfl⟩:=hR.1.tup
 (try simp only [go_sem,simprocAttr,rvs,RV.ev,one?])
 exact hR
theorem f_force {n c b:Nat} {w:World} {S:Nat→Prop} {r md mf:Nat} {bs:List Nat} {X:Cx} {m:Rn} {res:Option Cl×Rn} (h:RnAt w S r md mf bs X m) (hc:bs[c]? = some b) (hlen:(m.frames.length:Int)≤m.steps) (hres:forceS X n c m=some res) :
   CallsR Tryz.prog 38 [ptr r,ptr b] w fun v w'=>RvAt w w' S r md mf bs X v res∧Mod S w w':=by
 have hst:m.steps≤1048576:=by obtain ⟨_,_,_,_,_,_,hh⟩:=h;have:=hh.steps;omega
 have hsm:=enter_sm m c
 unfold forceS at hres
 refine fit38.calls rfl ?_
 unfold ir38
 (try simp only [go_sem,simprocAttr])
 refine e_call (by rfl) ?_
 refine (f_enterR h hc (by omega)).mono ?_
 rintro v w1 ⟨⟨S1,bs1,hR1,hg1,hbs1,hmd1⟩,hm1⟩
 generalize enterCl m c=rr at hres hsm hR1 hmd1
 match rr,hres,hsm,hR1,hmd1 with
 | (none,m'),hres,hsm,hR1,hmd1=>
   have hmd1:v=_:=hmd1
   subst hmd1
   cases hres
   (try simp only [go_sem,simprocAttr,rvs,RV.ev,one?])
   exact ⟨⟨S1,bs1,hR1,hg1,hbs1,rfl⟩,hm1⟩
 | (some (.val x),m'),hres,hsm,hR1,⟨u,e1,hu,hv⟩=>
   subst e1
   cases hres
   (try simp only [go_sem,simprocAttr,Option.isNone_none,rvs,RV.ev,one?])
   exact ⟨⟨S1,bs1,hR1,hg1,hbs1,(show ValAt w1 (Out S1 w1) bs1 _ (some x) from ⟨_,rfl,hu,hv⟩)⟩,hm1⟩
 | (some (.go e nm),m'),hres,hsm,hR1,⟨ve,vn,e1,he,hn⟩=>
   subst e1
   have hp:∃ a,ve = .pointer (some a):=by obtain ⟨a,_,rfl,_⟩:=he;exact ⟨a,rfl⟩
   obtain ⟨ap,rfl⟩:=hp
   have ks:m'.steps=m.steps:=hsm.steps
   have kf:m'.frames.length≤m.frames.length+1:=hsm.fl
   (try simp only [go_sem,simprocAttr])
   refine e_call (by rfl) ?_
   refine (f_goOn hR1 he hn (show (m'.frames.length:Int)≤m'.steps+1 by omega) hres).mono ?_
   rintro v w2 hR
   obtain ⟨a,b,rfl⟩:=hR.1.tup
   (try simp only [go_sem,simprocAttr,rvs,RV.ev,one?])
   exact rv_trans hg1 hbs1 hm1 hR
theorem f_apply {n c b:Nat} {w:World} {S:Nat→Prop} {r md mf:Nat} {bs:List Nat} {X:Cx} {m:Rn} {f:Cl} {u:Value} {res:Option Cl×Rn} (h:RnAt w S r md mf bs X m) (hc:bs[c]? = some b) (hu:ClAt w (Out S w) bs f u) (hv:f.isV=true) (hlen:(m.frames.length:Int)≤m.steps) (hres:applyS X n f c m=some res) :
   CallsR Tryz.prog 27 [ptr r,u,ptr b] w fun v w'=>RvAt w w' S r md mf bs X v res∧Mod S w w':=by
 unfold applyS at hres
 cases hg:givenR m f c with
 | none=>rw [hg] at hres;cases hres
 | some rr=>
 rw [hg] at hres
 have hsm:=given_sm hg
 refine fit27.calls rfl ?_
 unfold ir27
 (try simp only [go_sem,simprocAttr])
 refine e_call (by rfl) ?_
 refine (f_givenR h hc hu hv hg).mono ?_
 rintro v w1 ⟨⟨S1,bs1,hR1,hg1,hbs1,hmd1⟩,hm1⟩
 match rr,hres,hsm,hR1,hmd1 with
 | (none,m'),hres,hsm,hR1,hmd1=>
   have hmd1:v=_:=hmd1
   subst hmd1
   cases hres
   (try simp only [go_sem,simprocAttr,rvs,RV.ev,one?])
   exact ⟨⟨S1,bs1,hR1,hg1,hbs1,rfl⟩,hm1⟩
 | (some (.val x),m'),hres,hsm,hR1,⟨u,e1,hu,hv⟩=>
   subst e1
   cases hres
   (try simp only [go_sem,simprocAttr,Option.isNone_none,rvs,RV.ev,one?])
   exact ⟨⟨S1,bs1,hR1,hg1,hbs1,(show ValAt w1 (Out S1 w1) bs1 _ (some x) from ⟨_,rfl,hu,hv⟩)⟩,hm1⟩
 | (some (.go e nm),m'),hres,hsm,hR1,⟨ve,vn,e1,he,hn⟩=>
   subst e1
   have hp:∃ a,ve = .pointer (some a):=by obtain ⟨a,_,rfl,_⟩:=he;exact ⟨a,rfl⟩
   obtain ⟨ap,rfl⟩:=hp
   have ks:m'.steps=m.steps:=hsm.steps
   have kf:m'.frames.length≤m.frames.length+1:=hsm.fl
   (try simp only [go_sem,simprocAttr])
   refine e_call (by rfl) ?_
   refine (f_goOn hR1 he hn (show (m'.frames.length:Int)≤m'.steps+1 by omega) hres).mono ?_
   rintro v w2 hR
   obtain ⟨a,b,rfl⟩:=hR.1.tup
   (try simp only [go_sem,simprocAttr,rvs,RV.ev,one?])
   exact rv_trans hg1 hbs1 hm1 hR
end
section
open Go Go.W
theorem RnIn.tell {w w3 w4:World} {S:Nat→Prop} {r md mf:Nat} {bs:List Nat} {X:Cx} {m:Rn} {vt vf v3:Value} {trows frows:List (List Value)} {tfp ffp fp3:Option Nat} {row:List Value} {it:ByteArray×Int} (h:RnIn w S r md mf bs X m vt vf trows frows tfp ffp) (hm3:Mod (fun b=>tfp=some b) w w3)
   (ho3:OwnS w3 71 2 v3 (trows.flatMap id++row) (trows.length+1) fp3) (hf3:∀ b,fp3=some b→tfp=some b∨w.heap.size≤b) (hit:ItAt' row it) (hm4:Mod (· = r) w3 w4) (hb4:w4.heap[r]? = some (.cells (rnCells X m md mf v3 vf).toArray tRun (0,0))) :
   ∃ S',RnAt w4 S' r md mf bs X { m with told:=m.told++[it]}∧Grew S S' w∧Mod S w w4:=by
 obtain ⟨n1,n2,n3,n4,n5,n6,n7,n8,n9⟩:=h.ne
 have Sr:∀ b,b=r→S b:=fun b hb=>by rw [hb];exact h.inS _ (by simp)
 have St:∀ b,tfp=some b→S b:=fun b hb=>h.inS _ (by simp [hb])
 have hmS:Mod S w w4:=(hm3.weak St).trans (hm4.weak Sr)
 have z3:=hm3.size
 have z4:=hm4.size
 have hg:Grew S (fun b=>S b∨fp3=some b) w:=⟨fun b hb=>.inl hb,fun b hb=>by
   rcases hb with h | h
   · exact .inl h
   · rcases hf3 b h with h | h
     · exact .inl (St b h)
     · exact .inr h⟩
 have hout:=grew_out hg hmS.size
 have ltl:∀ b∈rnList r md mf bs tfp ffp,b < w.heap.size:=fun b hb=>h.lt b (h.inS b hb)
 have lr:=ltl r (by simp)
 have ld:=ltl md (by simp)
 have lmf:=ltl mf (by simp)
 have lf':∀ b,ffp=some b→b < w.heap.size:=fun b hb=>ltl b (by simp [hb])
 have lb:∀ b∈bs,b < w.heap.size:=fun b hb=>ltl b (by simp [hb])
 refine ⟨fun b=>S b∨fp3=some b,⟨v3,vf,trows++[row],frows,fp3,ffp,?_⟩,hg,hmS⟩
 refine ⟨hb4,?_,h.items.snoc hit,?_,?_,?_,?_,?_,h.len,?_,?_,?_,h.steps,fun p hp=>?_⟩
 rotate_left 9
 · obtain ⟨a1,a2,a3⟩:=h.kept p hp
   have a4:=lt_of_heap a1
   simp only [rnList,List.mem_cons,List.mem_append,Option.mem_toList,not_or] at a3 ⊢
   obtain ⟨c1,c2,c3,⟨c4,c5⟩,c6⟩:=a3
   exact ⟨hm4.at (hm3.at a1 (fun e=>c4 (by rw [e]))) c1,.inl a2,c1,c2,c3,⟨fun e=>by
     rcases hf3 _ e with h | h
     · exact c4 h
     · omega,c5⟩,c6⟩
 · have ho4:=ho3.mod hm4 (fun b hb e=>by
     rcases hf3 b hb with h | h
     · exact (n4 b h).1 e.symm
     · omega)
   rw [flat_snoc,List.length_append]
   exact ho4
 · exact (h.frms.mod hm3 (fun b hb e=>n7 b b e hb rfl)).mod hm4 (fun b hb e=>(n5 b hb).1 e.symm)
 · exact h.frames.imp (fun _ _ x=>x.up hmS out_not hout (fun _ _ h=>h))
 · refine rn_nodup h.bsn ⟨n1,n2,n3⟩ (fun b hb=>?_) n5 n6 (fun a b ha hb=>?_) (fun a ha hmem=>?_) n9
   · rcases hf3 b hb with h | h
     · exact n4 b h
     · exact ⟨by omega,by omega,by omega⟩
   · rcases hf3 a ha with h | h
     · exact n7 a b h hb
     · have:=lf' b hb;omega
   · rcases hf3 a ha with h | h
     · exact n8 a h hmem
     · have:=lb a hmem;omega
 · intro b hb
   simp only [rnList,List.mem_cons,List.mem_append,Option.mem_toList] at hb
   rcases hb with rfl | rfl | rfl | (h1 | h1) | h1
   · exact .inl (h.inS _ (by simp))
   · exact .inl (h.inS _ (by simp))
   · exact .inl (h.inS _ (by simp))
   · exact .inr h1
   · exact .inl (h.inS _ (by simp [h1]))
   · exact .inl (h.inS _ (by simp [h1]))
 · intro b hb
   rcases hb with h1 | h1
   · have:=h.lt b h1;omega
   · have:=ho3.lt h1;omega
 · intro i b x hi hx
   obtain ⟨v,h1,h2⟩:=h.cell i b x hi hx
   have hmem:=List.mem_of_getElem? hi
   exact ⟨v,hm4.at (hm3.at h1 (fun e=>n8 b e hmem)) (fun e=>(n6 b hmem).1 e.symm),h2.up hmS out_not hout (fun _ _ h=>h)⟩
 · exact (h.defs.mod hm3 (fun e=>(n4 md e).2.1 rfl) (fun _ _ x=>x)).mod hm4 (fun e=>n1 e.symm) (fun _ _ x=>x)
 · exact (h.fields.mod hm3 (fun e=>(n4 mf e).2.2 rfl) (fun _ _ x=>x)).mod hm4 (fun e=>n2 e.symm) (fun _ _ x=>x)
end
end Go.Proofs.YtjfgeekjjlhbdaaGreatDoor