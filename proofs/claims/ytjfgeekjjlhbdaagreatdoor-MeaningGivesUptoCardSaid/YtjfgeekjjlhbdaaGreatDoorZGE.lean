/- Texts that the last file stands on: M2, M3, M4, M5, M6, M7, M8, M9, M10, M11, M12, M13, Q2, Q3, Q4, Q5, Q6, Q7, Q8, M14, M15, M16, M17. -/
import Derived.Test.YtjfgeekjjlhbdaaGreatDoorZGD
import Derived.LaidEql
set_option linter.unusedSimpArgs false
set_option linter.unusedVariables false
set_option maxRecDepth 100000
namespace Go.Proofs.YtjfgeekjjlhbdaaGreatDoor
section
open Go Go.W
abbrev FB:Nat:=93
abbrev Li:Nat:=87
abbrev aeQ:Nat:=136
abbrev FC (X:Cx) (m:Rn) (md mf:Nat) (vt vf:Value):List Value:=[I m.kind,vt,I m.stuck,I m.steps,I 0,I 0,I 0,.string bI,I X.fuel,.map (some md),.map (some mf),vf]
def CH (bs:List Nat) (v:Value) (c:Nat):Prop:=∃ b,v=ptr b∧bs[c]? = some b
abbrev jI (r md mf:Nat) (bs:List Nat) (cB cD:Option Nat):List Nat:=r::md::mf::(cB.toList++cD.toList++bs)
structure iq (w:World) (S:Nat→Prop) (r md mf:Nat) (bs:List Nat) (X:Cx) (m:Rn) (vt vf:Value) (dh bR:List (List Value)) (cB cD:Option Nat):Prop where
 box:w.heap[r]? = some (.cells (FC X m md mf vt vf).toArray FB (0,0))
 told:dx w 71 2 vt (dh.flatMap id) dh.length cB
 items:cX Lh dh m.told
 pA:dx w aeQ 5 vf (bR.flatMap id) bR.length cD
 aO:cX (nj w (Out S w) bs) bR m.aO
 blocks:(jI r md mf bs cB cD).Nodup
 bt:∀ b∈jI r md mf bs cB cD,S b
 lt:∀ b,S b→b < w.heap.size
 len:bs.length=m.cells.length
 cell:∀ (i b:Nat) (x:Cl),bs[i]? = some b→m.cells[i]? = some x→∃ v:Value,w.heap[b]? = some (Obj.cells [v].toArray Li (0,0))∧iL w (Out S w) bs x v
 ak:cE w md (CH bs) X.ak
 fields:cE w mf RI X.fields
 steps:0≤m.steps∧m.steps≤X.fuel∧X.fuel≤1048576
 kept:∀ p∈X.aB,w.heap[p.1]? = some p.2∧S p.1∧p.1∉jI r md mf bs cB cD
def cK (w:World) (S:Nat→Prop) (r md mf:Nat) (bs:List Nat) (X:Cx) (m:Rn):Prop:=∃ vt vf dh bR cB cD,iq w S r md mf bs X m vt vf dh bR cB cD
theorem cX.imp {α β:Type} {P Q:α→β→Prop} (CI:∀ a b,P a b→Q a b):∀ {l:List α} {m:List β},cX P l m→cX Q l m
 | [],[],_=>trivial
 | a::l,b::m,h=>⟨CI _ _ h.1,cX.imp CI h.2⟩
 | [],_::_,h=>h.elim
 | _::_,[],h=>h.elim
section
variable {w w':World} {S:Nat→Prop} {r md mf:Nat} {bs:List Nat} {X:Cx} {m m':Rn} {vt vf:Value} {dh bR:List (List Value)} {cB cD:Option Nat}
theorem iq.ne (h:iq w S r md mf bs X m vt vf dh bR cB cD):r≠md∧r≠mf∧md≠mf∧(∀ b,cB=some b→r≠b∧md≠b∧mf≠b)∧(∀ b,cD=some b→r≠b∧md≠b∧mf≠b)∧(∀ b∈bs,r≠b∧md≠b∧mf≠b)∧(∀ a b,cB=some a→cD=some b→a≠b)∧(∀ a,cB=some a→a∉bs)∧(∀ a,cD=some a→a∉bs):=by
 have hn:=h.blocks;unfold jI at hn;simp only [List.nodup_cons,List.mem_cons,List.mem_append,Option.mem_toList,not_or] at hn;obtain ⟨⟨a1,a2,⟨a3,a4⟩,a5⟩,⟨b1,⟨b2,b3⟩,b4⟩,⟨⟨c1,c2⟩,c3⟩,hn⟩:=hn;rw [List.nodup_append,List.nodup_append] at hn;obtain ⟨⟨_,_,d1⟩,_,d2⟩:=hn
 refine ⟨a1,a2,b1,fun b hb=>⟨fun e=>a3 (by rw [e];exact hb),fun e=>b2 (by rw [e];exact hb),fun e=>c1 (by rw [e];exact hb)⟩,fun b hb=>⟨fun e=>a4 (by rw [e];exact hb),fun e=>b3 (by rw [e];exact hb),fun e=>c2 (by rw [e];exact hb)⟩,
  fun b hb=>⟨fun e=>a5 (by rw [e];exact hb),fun e=>b4 (by rw [e];exact hb),fun e=>c3 (by rw [e];exact hb)⟩,fun a b ha hb=>d1 a (by simp [ha]) b (by simp [hb]),fun a ha hm=>d2 a (by simp [ha]) a hm rfl,fun a ha hm=>d2 a (by simp [ha]) a hm rfl⟩
theorem iq.FD (h:iq w S r md mf bs X m vt vf dh bR cB cD) (hm:Mod (· = r) w w') (hb:w'.heap[r]? = some (.cells (FC X m' md mf vt vf).toArray FB (0,0))) (e1:m'.told=m.told) (e2:m'.aO=m.aO) (e3:m'.cells=m.cells) (e4:0≤m'.steps∧m'.steps≤X.fuel) :
   iq w' S r md mf bs X m' vt vf dh bR cB cD:=by
 obtain ⟨n1,n2,n3,n4,n5,n6,n7,n8,n9⟩:=h.ne;have Sr:∀ b,b=r→S b:=fun b hb=>by rw [hb];exact h.bt _ (by simp)
 have bB:=hm.aU Sr
 refine ⟨hb,h.told.mod hm (fun b hb e=>(n4 b hb).1 e.symm),by rw [e1];exact h.items,h.pA.mod hm (fun b hb e=>(n5 b hb).1 e.symm),by rw [e2];exact h.aO.imp (fun _ _ x=>x.up bB aK (aX bB) (fun _ _ h=>h)),h.blocks,h.bt,fun b hb=>Nat.lt_of_lt_of_le (h.lt b hb) hm.size,by rw [e3];exact h.len,?_,
  h.ak.mod hm (fun e=>n1 e.symm) (fun _ _ x=>x),h.fields.mod hm (fun e=>n2 e.symm) (fun _ _ x=>x),⟨e4.1,e4.2,h.steps.2.2⟩,fun p hp=>by
   obtain ⟨a1,a2,a3⟩:=h.kept p hp
   exact ⟨hm.at a1 (fun e=>a3 (by rw [e];simp)),a2,a3⟩⟩
 intro i b x hi hx;rw [e3] at hx;obtain ⟨v,h1,h2⟩:=h.cell i b x hi hx;exact ⟨v,hm.at h1 (fun e=>(n6 b (List.mem_of_getElem? hi)).1 e.symm),h2.up bB aK (aX bB) (fun _ _ h=>h)⟩
end
theorem SA {w:World} {S:Nat→Prop} {r md mf:Nat} {bs:List Nat} {X:Cx} {m:Rn} (h:cK w S r md mf bs X m) :
   a8 Tryz.prog 37 [ptr r] w fun x w'=>x = .bool (fi X m).1∧cK w' S r md mf bs X (fi X m).2∧Mod (· = r) w w':=by
 obtain ⟨vt,vf,dh,bR,cB,cD,h⟩:=h;refine YW.calls rfl ?_;unfold H8;(try simp only [go_sem,simprocAttr,cell_of h.box]);have hs:=h.steps;cases he:m.steps == X.fuel with
 | true=>
  have CJ:m.steps=X.fuel:=by simpa using he
  have bz:fi X m=(false,{ m with kind:=4}):=by unfold fi;rw [if_pos CJ]
  (try simp only [go_sem,simprocAttr]);refine iY (b:=r) (off:=0) (v:=I 4) rfl rfl h.box rfl (by simp) ?_;intro w1 ar aj bC;have aj:=aj.eF;(try simp only [go_sem,simprocAttr,aE,RV.ev,aF]);rw [bz];exact ⟨rfl,⟨_,_,_,_,_,_,h.FD (m':={ m with kind:=4}) aj ar rfl rfl rfl ⟨hs.1,hs.2.1⟩⟩,aj⟩
 | false=>
  have CJ:m.steps≠X.fuel:=by simpa using he
  have bz:fi X m=(true,{ m with steps:=m.steps+1}):=by unfold fi;rw [if_neg CJ]
  have e1:IntKind.i64.wrap (m.steps+1)=m.steps+1:=dv (by omega) (by omega);(try simp only [go_sem,simprocAttr,cell_of h.box,e1]);refine iY (b:=r) (off:=3) (v:=I (m.steps+1)) rfl rfl h.box rfl (by simp) ?_;intro w1 ar aj bC;have aj:=aj.eF;(try simp only [go_sem,simprocAttr,aE,RV.ev,aF]);rw [bz];exact ⟨rfl,⟨_,_,_,_,_,_,h.FD (m':={ m with steps:=m.steps+1}) aj ar rfl rfl rfl ⟨by show 0≤m.steps+1;omega,by show m.steps+1≤X.fuel;omega⟩⟩,aj⟩
theorem CK {w:World} {S:Nat→Prop} {r md mf:Nat} {bs:List Nat} {X:Cx} {m:Rn} {yy:Int} (h:cK w S r md mf bs X m) :
   a8 Tryz.prog 52 [ptr r,I yy] w fun x w'=>cK w' S r md mf bs X (m.stop yy)∧Mod (· = r) w w':=by
 obtain ⟨vt,vf,dh,bR,cB,cD,h⟩:=h;refine Zm.calls rfl ?_;unfold Io;(try simp only [go_sem,simprocAttr]);refine iY (b:=r) (off:=0) (v:=I 3) rfl rfl h.box rfl (by simp) ?_;intro w1 ar aj bC;(try simp only [go_sem,simprocAttr]);refine iY (b:=r) (off:=2) (v:=I yy) rfl rfl ar rfl (by simp) ?_;intro w2 au ai bK;(try simp only [go_sem,simprocAttr]);exact ⟨⟨_,_,_,_,_,_,h.FD (m':=m.stop yy) (aj.trans ai) au rfl rfl rfl ⟨h.steps.1,h.steps.2.1⟩⟩,aj.trans ai⟩
end
section
open Go Go.W
theorem nj.one {w:World} {B:Nat→Prop} {bs:List Nat} {f:Fm} {r:List Value} (h:nj w B bs r f):∀ u∈r,u.oneCell'=true:=by
 have nm:∀ {l:cr} {v:Value},gH w B bs l v→v.oneCell'=true:=fun {l v} h=>by
  cases l with
  | nil=>cases h;rfl
  | cons p l=>obtain ⟨a,b,nx,rfl,_⟩:=h;rfl
 have ev:∀ {k:Int} {e:Ex} {l:cr} {r:List Value},ni w B bs k e l r→∀ u∈r,u.oneCell'=true:=fun h=>by
  obtain ⟨ve,vn,rfl,⟨a,cs,rfl,_⟩,h2⟩:=h;exact aS rfl (aS rfl (aS rfl (aS (nm h2) (aS rfl dE))))
 cases f with
 | dz c=>obtain ⟨b,rfl,h⟩:=h;exact aS rfl (aS rfl (aS rfl (aS rfl (aS rfl dE))))
 | snd e n=>obtain ⟨ve,rfl,⟨a,cs,rfl,_⟩⟩:=h;exact aS rfl (aS rfl (aS rfl (aS rfl (aS rfl dE))))
 | app e l=>exact ev h
 | lC e l=>exact ev h
 | fst e l=>exact ev h
 | seq e l=>exact ev h
 | lD e l=>exact ev h
theorem cX.snoc {α β:Type} {P:α→β→Prop}:∀ {l:List α} {m:List β} {a:α} {b:β},cX P l m→P a b→cX P (l++[a]) (m++[b])
 | [],[],a,b,_,h=>⟨h,trivial⟩
 | x::l,y::m,a,b,h,hp=>⟨h.1,cX.snoc h.2 hp⟩
 | [],_::_,_,_,h,_=>h.elim
 | _::_,[],_,_,h,_=>h.elim
def dR (S S':Nat→Prop) (w:World):Prop:=(∀ b,S b→S' b)∧∀ b,S' b→S b∨w.heap.size≤b
theorem rK {S S':Nat→Prop} {w w':World} (hg:dR S S' w) (cZ:w.heap.size≤w'.heap.size):∀ b,Out S w b→Out S' w' b:=Fy cZ hg.2
theorem Lj {r md mf:Nat} {bs:List Nat} {cB cD:Option Nat} (dM:bs.Nodup) (h1:r≠md∧r≠mf∧md≠mf) (h2:∀ b,cB=some b→r≠b∧md≠b∧mf≠b) (h3:∀ b,cD=some b→r≠b∧md≠b∧mf≠b) (h4:∀ b∈bs,r≠b∧md≠b∧mf≠b) (h5:∀ a b,cB=some a→cD=some b→a≠b) (h6:∀ a,cB=some a→a∉bs) (h7:∀ a,cD=some a→a∉bs):(jI r md mf bs cB cD).Nodup:=by
 unfold jI;simp only [List.nodup_cons,List.mem_cons,List.mem_append,Option.mem_toList,not_or];refine ⟨⟨h1.1,h1.2.1,⟨fun e=>(h2 _ e).1 rfl,fun e=>(h3 _ e).1 rfl⟩,fun e=>(h4 _ e).1 rfl⟩,⟨h1.2.2,⟨fun e=>(h2 _ e).2.1 rfl,fun e=>(h3 _ e).2.1 rfl⟩,fun e=>(h4 _ e).2.1 rfl⟩,⟨⟨fun e=>(h2 _ e).2.2 rfl,fun e=>(h3 _ e).2.2 rfl⟩,fun e=>(h4 _ e).2.2 rfl⟩,?_⟩;rw [List.nodup_append,List.nodup_append];refine ⟨⟨?_,?_,fun a ha b hb=>h5 a b (by simpa using ha) (by simpa using hb)⟩,dM,fun a ha b hb=>?_⟩
 ·cases cB<;>simp
 ·cases cD<;>simp
 ·rcases List.mem_append.1 ha with h | h
  ·exact fun e=>h6 a (by simpa using h) (by rw [e];exact hb)
  ·exact fun e=>h7 a (by simpa using h) (by rw [e];exact hb)
theorem iq.FE {w:World} {S:Nat→Prop} {r md mf:Nat} {bs:List Nat} {X:Cx} {m:Rn} {vt vf:Value} {dh bR:List (List Value)} {cB cD:Option Nat} (h:iq w S r md mf bs X m vt vf dh bR cB cD):bs.Nodup:=by
 have hn:=h.blocks;unfold jI at hn;simp only [List.nodup_cons] at hn;have h3:=hn.2.2.2;rw [List.nodup_append] at h3;exact h3.2.1
theorem wz {w:World} {S:Nat→Prop} {r md mf:Nat} {bs:List Nat} {X:Cx} {m:Rn} {f:Fm} {cs:List Value} (h:cK w S r md mf bs X m) (hf:nj w (Out S w) bs cs f) (hlen:m.aO.length≤2097152) :
   a8 Tryz.prog 73 [ptr r,.agg cs.toArray] w fun x w'=>(∃ S',cK w' S' r md mf bs X (m.push f)∧dR S S' w)∧Mod S w w':=by
 obtain ⟨vt,vf,dh,bR,cB,cD,h⟩:=h;have lc:=hf.len;have jt:=h.aO.at.1;refine ZW.calls rfl ?_;unfold II;(try simp only [go_sem,simprocAttr]);refine bD rfl ?_;intro w1 ar aj bC;have jb:=aj.at h.box _root_.id;have hr:=cO jb;(try simp only [go_sem,simprocAttr,cell_of jb,az (n:=5) (cs:=cs) ar lc]);refine fA (cs:=cs.toArray) (ps:=partsOf 5 0 [cs]) rfl (by have:=jC (sz:=5) [cs] [] _ ⟨lc,trivial⟩ (show [I 0,.pointer none,.pointer none,.pointer none,I 0].length=1*5 from rfl);simpa using this) ?_;intro w2 au ai bK;have yz:Mod (fun _=>False) w1 w2:=ai.eF;have aY:=aj.trans yz;(try simp only [go_sem,simprocAttr]);refine ⟨yz.bN _ hr _root_.id,?_⟩;have dJ:=vx au;rw [lc] at dJ;refine qR (m:=1) (news:=cs) rfl (h.pA.mod aY (fun _ _ h=>h)) rfl (fun h=>by cases h) dJ hf.one rfl (by omega) (by omega) ?_;intro v3 w3 iu qo aq j9;have Cw:=yz.at jb _root_.id;obtain ⟨n1,n2,n3,n4,n5,n6,n7,n8,n9⟩:=h.ne;have Sr:∀ b,b=r→S b:=fun b hb=>by rw [hb];exact h.bt _ (by simp)
 have Sf:∀ b,cD=some b→S b:=fun b hb=>h.bt _ (by simp [hb])
 have uL:=aq.at Cw (fun e=>(n5 r e).1 rfl);obtain ⟨SB,SC,rfl,_,_⟩:=qo.val;refine iY (b:=r) (off:=11) (v:=.slice SB (bR.length+1) SC) rfl rfl uL rfl (by simp) ?_;intro w4 ba aA eG;(try simp only [go_sem,simprocAttr]);have z02:=aY.size;have KD:=aq.size;have KH:=aA.size;have zw1:w1.heap.size=w.heap.size+1:=bC;have zw2:w2.heap.size=w1.heap.size+1:=bK;have nd:∀ b,iu=some b→cD=some b∨w.heap.size≤b:=fun b hb=>by
  rcases j9 b hb with h | ⟨h,_⟩
  ·exact .inl h
  ·right;omega
 have bB:Mod S w w4:=((an aY).trans (aq.aU Sf)).trans (aA.aU Sr)
 have hg:dR S (fun b=>S b∨iu=some b) w:=⟨fun b hb=>.inl hb,fun b hb=>by
  rcases hb with h | h
  ·exact .inl h
  ·rcases nd b h with h | h
   ·exact .inl (Sf b h)
   ·exact .inr h⟩
 have eJ:=rK hg bB.size;have up:∀ {f:Fm} {row:List Value},nj w (Out S w) bs row f→nj w4 (Out (fun b=>S b∨iu=some b) w4) bs row f:=fun hx=>hx.up bB aK eJ (fun _ _ h=>h)
 have lF:∀ b∈jI r md mf bs cB cD,b < w.heap.size:=fun b hb=>h.lt b (h.bt b hb)
 have lr:=lF r (by simp);have ld:=lF md (by simp);have lmf:=lF mf (by simp);have lt':∀ b,cB=some b→b < w.heap.size:=fun b hb=>lF b (by simp [hb])
 have lb:∀ b∈bs,b < w.heap.size:=fun b hb=>lF b (by simp [hb])
 have SD:∀ b,iu=some b→b < w4.heap.size:=fun b hb=>Nat.lt_of_lt_of_le (qo.lt hb) KH
 refine ⟨⟨fun b=>S b∨iu=some b,⟨vt,.slice SB (bR.length+1) SC,dh,bR++[cs],cB,iu,?_⟩,hg⟩,bB⟩;refine ⟨ba,?_,h.items,?_,?_,?_,?_,?_,h.len,?_,?_,?_,h.steps,fun p hp=>?_⟩
 rotate_left 9
 ·obtain ⟨a1,a2,a3⟩:=h.kept p hp;have a4:=cO a1;simp only [jI,List.mem_cons,List.mem_append,Option.mem_toList,not_or] at a3 ⊢;obtain ⟨c1,c2,c3,⟨c4,c5⟩,c6⟩:=a3
  exact ⟨aA.at (aq.at (aY.at a1 _root_.id) (fun e=>c5 (by rw [e]))) c1,.inl a2,c1,c2,c3,⟨c4,fun e=>by
   rcases nd _ e with h | h
   ·exact c5 h
   ·omega⟩,c6⟩
 ·exact ((h.told.mod aY (fun _ _ h=>h)).mod aq (fun b hb e=>n7 b b hb e rfl)).mod aA (fun b hb e=>(n4 b hb).1 e.symm)
 ·have pc:=qo.mod aA (fun b hb e=>by
   rcases nd b hb with h | h
   ·exact (n5 b h).1 e.symm
   ·omega)
  rw [BT,List.length_append];exact pc
 ·exact (h.aO.imp (fun _ _ x=>up x)).snoc (up hf)
 ·refine Lj h.FE ⟨n1,n2,n3⟩ n4 (fun b hb=>?_) n6 (fun a b ha hb=>?_) n8 (fun a ha du=>?_)
  ·rcases nd b hb with h | h
   ·exact n5 b h
   ·exact ⟨by omega,by omega,by omega⟩
  ·rcases nd b hb with h | h
   ·exact n7 a b ha h
   ·have:=lt' a ha;omega
  ·rcases nd a ha with h | h
   ·exact n9 a h du
   ·have:=lb a du;omega
 ·intro b hb;simp only [jI,List.mem_cons,List.mem_append,Option.mem_toList] at hb;rcases hb with rfl | rfl | rfl | (h1 | h1) | h1
  ·exact .inl (h.bt _ (by simp))
  ·exact .inl (h.bt _ (by simp))
  ·exact .inl (h.bt _ (by simp))
  ·exact .inl (h.bt _ (by simp [h1]))
  ·exact .inr h1
  ·exact .inl (h.bt _ (by simp [h1]))
 ·intro b hb;rcases hb with h1 | h1
  ·have:=h.lt b h1;have:=bB.size;omega
  ·exact SD b h1
 ·intro i b x hi hx;obtain ⟨v,h1,h2⟩:=h.cell i b x hi hx;have du:=List.mem_of_getElem? hi;exact ⟨v,aA.at (aq.at (aY.at h1 _root_.id) (fun e=>n9 b e du)) (fun e=>(n6 b du).1 e.symm),h2.up bB aK eJ (fun _ _ h=>h)⟩
 ·exact ((h.ak.mod aY _root_.id (fun _ _ x=>x)).mod aq (fun e=>(n5 md e).2.1 rfl) (fun _ _ x=>x)).mod aA (fun e=>n1 e.symm) (fun _ _ x=>x)
 ·exact ((h.fields.mod aY _root_.id (fun _ _ x=>x)).mod aq (fun e=>(n5 mf e).2.2 rfl) (fun _ _ x=>x)).mod aA (fun e=>n2 e.symm) (fun _ _ x=>x)
end
section
open Go Go.W
section
variable {w w':World} {S:Nat→Prop} {r md mf:Nat} {bs:List Nat} {X:Cx} {m:Rn} {vt vf:Value} {dh bR:List (List Value)} {cB cD:Option Nat}
theorem iq.aB (h:iq w S r md mf bs X m vt vf dh bR cB cD) (hm:Mod (fun _=>False) w w'):iq w' S r md mf bs X m vt vf dh bR cB cD:=by
 have bB:Mod S w w':=an hm
 exact ⟨hm.at h.box _root_.id,h.told.mod hm (fun _ _ h=>h),h.items,h.pA.mod hm (fun _ _ h=>h),h.aO.imp (fun _ _ x=>x.up bB aK (aX bB) (fun _ _ h=>h)),h.blocks,h.bt,fun b hb=>Nat.lt_of_lt_of_le (h.lt b hb) hm.size,h.len,
  fun i b x hi hx=>by obtain ⟨v,h1,h2⟩:=h.cell i b x hi hx;exact ⟨v,hm.at h1 _root_.id,h2.up bB aK (aX bB) (fun _ _ h=>h)⟩,h.ak.mod hm _root_.id (fun _ _ x=>x),h.fields.mod hm _root_.id (fun _ _ x=>x),h.steps,fun p hp=>by obtain ⟨a1,a2,a3⟩:=h.kept p hp;exact ⟨hm.at a1 _root_.id,a2,a3⟩⟩
theorem cK.aB (h:cK w S r md mf bs X m) (hm:Mod (fun _=>False) w w'):cK w' S r md mf bs X m:=by
 obtain ⟨vt,vf,dh,bR,cB,cD,h⟩:=h;exact ⟨vt,vf,dh,bR,cB,cD,iq.aB h hm⟩
theorem iq.put (h:iq w S r md mf bs X m vt vf dh bR cB cD) {c b:Nat} {x:Cl} {v:Value} (hc:bs[c]? = some b) (hm:Mod (· = b) w w') (hb:w'.heap[b]? = some (.cells [v].toArray Li (0,0))) (hv:iL w (Out S w) bs x v) :
   iq w' S r md mf bs X (m.put c x) vt vf dh bR cB cD:=by
 obtain ⟨n1,n2,n3,n4,n5,n6,n7,n8,n9⟩:=h.ne;have du:=List.mem_of_getElem? hc;obtain ⟨e1,e2,e3⟩:=n6 b du;have Sb:∀ y,y=b→S y:=fun y hy=>by rw [hy];exact h.bt _ (by simp [du])
 have bB:=hm.aU Sb;have up:∀ {y:Cl} {u:Value},iL w (Out S w) bs y u→iL w' (Out S w') bs y u:=fun hx=>hx.up bB aK (aX bB) (fun _ _ h=>h)
 refine ⟨hm.at h.box e1,h.told.mod hm (fun y hy e=>n8 y hy (by rw [e];exact du)),h.items,h.pA.mod hm (fun y hy e=>n9 y hy (by rw [e];exact du)),h.aO.imp (fun _ _ x=>x.up bB aK (aX bB) (fun _ _ h=>h)),h.blocks,h.bt,fun y hy=>Nat.lt_of_lt_of_le (h.lt y hy) hm.size,by show bs.length=(m.cells.set c x).length;rw [List.length_set];exact h.len,?_,
  h.ak.mod hm e2 (fun _ _ x=>x),h.fields.mod hm e3 (fun _ _ x=>x),h.steps,fun p hp=>by
   obtain ⟨a1,a2,a3⟩:=h.kept p hp
   exact ⟨hm.at a1 (fun e=>a3 (by rw [e];simp [du])),a2,a3⟩⟩
 intro i b' y hi hy;have hy:(m.cells.set c x)[i]? = some y:=hy;by_cases Lk:c=i
 ·subst Lk;rw [hc] at hi;cases hi;have aP:c < m.cells.length:=by
   rw [← h.len];exact (List.getElem?_eq_some_iff.1 hc).1
  rw [List.getElem?_set_self aP] at hy;cases hy;exact ⟨v,hb,up hv⟩
 ·rw [List.getElem?_set_ne Lk] at hy;obtain ⟨u,h1,h2⟩:=h.cell i b' y hi hy;have bo:b'≠b:=fun e=>by
   subst e;obtain ⟨l1,q1⟩:=List.getElem?_eq_some_iff.1 hi;obtain ⟨l2,q2⟩:=List.getElem?_eq_some_iff.1 hc;exact Lk (((List.getElem_inj h.FE).1 (q2.trans q1.symm)))
  exact ⟨u,hm.at h1 bo,up h2⟩
end
def Ay (w:World) (B:Nat→Prop) (bs:List Nat) (v:Value):Option Md→Prop
 | some (.go e nm)=>∃ ve vn,v = .tuple #[ve,vn,.nilIface,.bool true]∧nh w B ve e∧gH w B bs nm vn
 | some (.val x)=>∃ u,v = .tuple #[.pointer none,.pointer none,u,.bool true]∧iL w B bs x u∧x.io=true
 | none=>v = .tuple #[.pointer none,.pointer none,.nilIface,.bool false]
def nk (w w':World) (S:Nat→Prop) (r md mf:Nat) (bs:List Nat) (X:Cx) (v:Value) (x:R3):Prop:=
 ∃ S' cP,cK w' S' r md mf cP X x.2∧dR S S' w∧(∀ (c b:Nat),bs[c]? = some b→cP[c]? = some b)∧Ay w' (Out S' w') cP v x.1
theorem Az {w:World} {B:Nat→Prop} {bs:List Nat} {x:Cl} {u:Value} (h:iL w B bs x u):x.io=true→∃ T z,u = .iface T z∧∃ want ti,Tryz.prog.underlying 77=some (.interface want)∧Tryz.prog.info? T=some ti∧(Instr.missingMethod want ti.methods).isNone=true:=by
 intro hv;cases x with
 | num n=>cases h;exact ⟨_,_,rfl,aeJ⟩
 | aZ n fs=>obtain ⟨a,vs,rfl,_⟩:=h;exact ⟨_,_,rfl,aeK⟩
 | fw e nm=>obtain ⟨a,ve,vn,rfl,_⟩:=h;exact ⟨_,_,rfl,aeL⟩
 | eB n l fs=>obtain ⟨a,vs,rfl,_⟩:=h;exact ⟨_,_,rfl,aeM⟩
 | wait e nm=>cases hv
 | busy=>cases hv
 | emp=>cases hv
theorem Ll {w:World} {S:Nat→Prop} {r md mf:Nat} {bs:List Nat} {X:Cx} {m:Rn} {c b:Nat} (h:cK w S r md mf bs X m) (hc:bs[c]? = some b) (hlen:m.aO.length≤2097152) :
   a8 Tryz.prog 53 [ptr r,ptr b] w fun v w'=>nk w w' S r md mf bs X v (dC m c)∧Mod S w w':=by
 obtain ⟨vt,vf,dh,bR,cB,cD,h⟩:=h;have Lm:c < m.cells.length:=by rw [← h.len];exact (List.getElem?_eq_some_iff.1 hc).1
 have hx:=List.getElem?_eq_getElem Lm;obtain ⟨u,hb,hu⟩:=h.cell c b _ hc hx;generalize m.cells[c]=x at hx hu;have hE:dC m c=match some x with
  | some (.wait e v)=>(some (.go e v),(m.put c .busy).push (.dz c))
  | some (.num n)=>(some (.val (.num n)),m)
  | some (.aZ n fs)=>(some (.val (.aZ n fs)),m)
  | some (.fw e v)=>(some (.val (.fw e v)),m)
  | some (.eB n l h)=>(some (.val (.eB n l h)),m)
  | _=>(none,m.stop 4):=by unfold dC;rw [hx];try rfl
 refine Zn.calls rfl ?_;unfold Ip;(try simp only [go_sem,simprocAttr,cell_of hb]);cases hv:x.io with
 | true=>
  obtain ⟨T,z,rfl,want,ti,q1,q2,q3⟩:=Az hu hv;have py:dC m c=(some (.val x),m):=by rw [hE];cases x<;>first | rfl | cases hv
  refine Lg rfl q1 q2 q3 (Tryz.zeroValue77 _) (fun _=>?_) (fun h=>by cases h);(try simp only [go_sem,simprocAttr,aE,RV.ev,aF]);rw [py];exact ⟨⟨S,bs,⟨_,_,_,_,_,_,h⟩,⟨fun _ h=>h,fun _ h=>.inl h⟩,fun _ _ h=>h,_,rfl,hu,hv⟩,.refl _ _⟩
 | false=>
  have stop:∀ (py:dC m c=(none,m.stop 4)),a8 Tryz.prog 52 [ptr r,I 4] w fun _ w'=>nk w w' S r md mf bs X (.tuple #[.pointer none,.pointer none,.nilIface,.bool false]) (dC m c)∧Mod S w w':=fun py=>by
   refine (CK ⟨_,_,_,_,_,_,h⟩).mono ?_;rintro _ w1 ⟨hR,aj⟩;rw [py];exact ⟨⟨S,bs,hR,⟨fun _ h=>h,fun _ h=>.inl h⟩,fun _ _ h=>h,rfl⟩,aj.aU (fun y hy=>by rw [hy];exact h.bt _ (by simp))⟩
  cases x with
  | num n=>cases hv
  | aZ n fs=>cases hv
  | fw e nm=>cases hv
  | eB n l fs=>cases hv
  | emp=>
   cases hu;obtain ⟨want,ti,q1,q2,q3⟩:=Sz;refine Sx rfl q1 (Tryz.zeroValue77 _) ?_;(try simp only [go_sem,simprocAttr]);refine Sx (D:=.pointer 108) rfl rfl (Tryz.zeroValue105 _) ?_;(try simp only [go_sem,simprocAttr]);refine aI (by rfl) ?_;refine (stop hE).mono ?_;rintro _ w1 hR;(try simp only [go_sem,simprocAttr,aE,RV.ev,aF]);exact hR
  | busy=>
   cases hu;obtain ⟨want,ti,q1,q2,q3⟩:=aeN;refine Lg rfl q1 q2 q3 (Tryz.zeroValue77 _) (fun h=>by cases h) (fun _=>?_);(try simp only [go_sem,simprocAttr]);refine kh (D:=.pointer 108) rfl rfl rfl (Tryz.zeroValue105 _) (fun h=>absurd h (by decide)) (fun _=>?_);(try simp only [go_sem,simprocAttr]);refine aI (by rfl) ?_;refine (stop hE).mono ?_;rintro _ w1 hR;(try simp only [go_sem,simprocAttr,aE,RV.ev,aF]);exact hR
  | wait e nm=>
   obtain ⟨a,ve,vn,rfl,bH,he,hn⟩:=hu;obtain ⟨want,ti,q1,q2,q3⟩:=Sz;refine Lg rfl q1 q2 q3 (Tryz.zeroValue77 _) (fun h=>by cases h) (fun _=>?_);(try simp only [go_sem,simprocAttr]);refine kh (D:=.pointer 108) rfl rfl rfl (Tryz.zeroValue105 _) (fun _=>?_) (fun h=>absurd rfl h);(try simp only [go_sem,simprocAttr]);refine iY (b:=b) (off:=0) (v:=.iface 167 (.agg #[])) rfl rfl hb rfl (by simp) ?_;intro w1 ar aj bC;have Sb:∀ y,y=b→S y:=fun y hy=>by rw [hy];exact h.bt _ (by simp [List.mem_of_getElem? hc])
   have h1:=h.put (x:=.busy) hc aj ar rfl;have aeR:=aj.aU Sb;(try simp only [go_sem,simprocAttr]);refine aI (by rfl) ?_;refine (wz (f:=.dz c) (cs:=[I 0,ptr b,.pointer none,.pointer none,I 0]) ⟨_,_,_,_,_,_,h1⟩ ⟨b,rfl,hc⟩ hlen).mono ?_;rintro _ w2 ⟨⟨S2,h2,gZ⟩,ai⟩;have aY:Mod S w w2:=aeR.trans ai
   have hg:dR S S2 w:=⟨gZ.1,fun y hy=>by
    rcases gZ.2 y hy with h | h
    ·exact .inl h
    ·right;omega⟩
   have eJ:=rK hg aY.size;have zU:=bH.up aY aK eJ;have k0:w2.cell? a=some ve:=zU.c0 (by simp);have k1:w2.cell? ⟨a.block,a.off+1,none⟩=some vn:=zU.at (k:=1) (by simp);(try simp only [go_sem,simprocAttr,k0,k1,aE,RV.ev,aF]);rw [hE];have d2:Mod (fun _=>False) w2 w2.drew:=(Mod.refl _ _).drew;have FF:Mod S w w2.drew:=aY.trans (an d2);have SE:=rK hg FF.size;exact ⟨⟨S2,bs,cK.aB h2 d2,hg,fun _ _ h=>h,ve,vn,rfl,he.up FF aK SE,hn.up FF aK SE (fun _ _ h=>h)⟩,FF⟩
end
section
open Go Go.W
theorem rL {w:World} {S:Nat→Prop} {b T:Nat} {cs:List Value} (hb:w.heap[b]? = some (.cells cs.toArray T (0,0))) (hS:¬ S b):gj w (Out S w) ⟨b,0,none⟩ cs:=
 ⟨⟨cO hb,hS⟩,fun k hk=>by rw [oo,cell_of hb];simp [List.getElem?_eq_getElem hk]⟩
theorem SF {w w':World} {S:Nat→Prop} {b T:Nat} {cs:List Value} (hb:w.heap[b]? = some (.cells cs.toArray T (0,0))) (hm:Mod (fun _=>False) w w') (hS:¬ S b):gj w' (Out S w') ⟨b,0,none⟩ cs:=rL (hm.at hb _root_.id) hS
theorem FG {w:World} {S:Nat→Prop} {b T:Nat} {cs:List Value} (hb:w.heap[b]? = some (.cells cs.toArray T (0,0))) (hS:¬ S b):tk w (Out S w) ⟨b,0,none⟩ cs:=⟨rL hb hS,_,_,hb⟩
theorem SG {w:World} {S:Nat→Prop} {bs hv:List Nat} {n:ByteArray} {nf:Int} {vs:Value} (hS:∀ b,S b→b < w.heap.size) (h:uK w (Out S w) bs hv vs) :
   a8 Tryz.prog 51 [.string n,I nf,vs] w fun v w'=>iL w' (Out S w') bs (kL n nf hv) v∧(kL n nf hv).io=true∧Mod (fun _=>False) w w':=by
 obtain ⟨a,c,rfl⟩:=a7 h;refine Zl.calls rfl ?_;unfold Im;(try simp only [go_sem,simprocAttr]);cases hl:nf == 0 with
 | true=>
  have qL:nf=0:=by simpa using hl
  have hg:kL n nf hv = .aZ n hv:=by unfold kL;rw [if_pos qL]
  (try simp only [go_sem,simprocAttr]);refine bD rfl ?_;intro w1 ar aj bC;(try simp only [go_sem,simprocAttr,aE,RV.ev,aF]);rw [hg];exact ⟨⟨_,_,rfl,rL (cs:=[.string n,.slice a hv.length c]) ar (fun hh=>by have:=hS _ hh;omega),h.up (an aj) aK (aX (an aj)) (fun _ _ h=>h)⟩,rfl,aj⟩
 | false=>
  have qL:nf≠0:=by simpa using hl
  have hg:kL n nf hv = .eB n nf hv:=by unfold kL;rw [if_neg qL]
  (try simp only [go_sem,simprocAttr]);refine bD rfl ?_;intro w1 ar aj bC;(try simp only [go_sem,simprocAttr,aE,RV.ev,aF]);rw [hg];exact ⟨⟨_,_,rfl,rL (cs:=[.string n,I nf,.slice a hv.length c]) ar (fun hh=>by have:=hS _ hh;omega),h.up (an aj) aK (aX (an aj)) (fun _ _ h=>h)⟩,rfl,aj⟩
theorem FH (n:Int) {w:World}:a8 Tryz.prog 92 [I n] w fun r w'=>r=I (uH n)∧w=w':=by
 refine aah.calls rfl ?_;unfold I3;(try simp only [go_sem,Nat.reduceAdd,Nat.reduceEqDiff,Nat.reduceLT,Nat.reduceLeDiff,Nat.reduceMul,reduceCtorEq,↓reduceIte,aE,RV.ev,aF]);exact ⟨_,rfl,_,rfl,rfl⟩
end
section
open Go Go.W
def FI (w':World) (S:Nat→Prop) (r md mf:Nat) (bs:List Nat) (X:Cx) (m:Rn) (v:Value):Option Cl→Prop
 | some x=>(∃ u,v = .tuple #[u,.bool true]∧iL w' (Out S w') bs x u∧x.io=true)∧cK w' S r md mf bs X m
 | none=>v = .tuple #[.nilIface,.bool false]∧cK w' S r md mf bs X (m.stop 3)
theorem SH {n:ByteArray} {a b:Int} {w:World} {S:Nat→Prop} {r md mf:Nat} {bs:List Nat} {X:Cx} {m:Rn} (h:cK w S r md mf bs X m) :
   a8 Tryz.prog 75 [ptr r,.string n,I a,I b] w fun v w'=>FI w' S r md mf bs X m v (qm n a b)∧Mod S w w':=by
 have hO:qm n a b=if aQ n ⟨#[43]⟩ then some (.num (uH (Wr (a+b))))
  else if aQ n ⟨#[45]⟩ then some (.num (uH (Wr (a - b))))
  else if aQ n ⟨#[42]⟩ then some (.num (uH (Wr (a*b))))
  else if aQ n ⟨#[47]⟩||aQ n ⟨#[37]⟩ then (if b=0 then none else if aQ n ⟨#[47]⟩ then some (.num (uH (Wr (a.tdiv b)))) else some (.num (a.tmod b)))
  else some (.aZ (if Ax n a b then uI else uJ) []):=rfl
 have CL:∀ (k:Int),FI w S r md mf bs X m (.tuple #[.iface 115 (I k),.bool true]) (some (.num k)):=fun k=>⟨⟨_,rfl,rfl,rfl⟩,h⟩
 refine ZY.calls rfl ?_;unfold IK;(try simp only [go_sem,simprocAttr]);refine vD (fun ρ w'=>w=w'∧qm n a b=some (.aZ (if Ax n a b then uI else uJ) [])∧ρ.get 10=some (.bool (Ax n a b))) ?_ ?_
 ·cases h1:aQ n ⟨#[43]⟩ with
  | true=>
   rw [if_pos h1] at hO;rw [aQ] at h1;(try simp only [go_sem,simprocAttr,h1]);refine aI (by rfl) ?_;refine (FH _).mono ?_;rintro _ _ ⟨rfl,rfl⟩;(try simp only [go_sem,simprocAttr,aE,RV.ev,aF]);rw [hO];exact ⟨CL _,.refl _ _⟩
  | false=>
  rw [if_neg (by rw [h1];simp)] at hO;rw [aQ] at h1;(try simp only [go_sem,simprocAttr,h1]);cases h2:aQ n ⟨#[45]⟩ with
  | true=>
   rw [if_pos h2] at hO;rw [aQ] at h2;(try simp only [go_sem,simprocAttr,h2]);refine aI (by rfl) ?_;refine (FH _).mono ?_;rintro _ _ ⟨rfl,rfl⟩;(try simp only [go_sem,simprocAttr,aE,RV.ev,aF]);rw [hO];exact ⟨CL _,.refl _ _⟩
  | false=>
  rw [if_neg (by rw [h2];simp)] at hO;rw [aQ] at h2;(try simp only [go_sem,simprocAttr,h2]);cases h3:aQ n ⟨#[42]⟩ with
  | true=>
   rw [if_pos h3] at hO;rw [aQ] at h3;(try simp only [go_sem,simprocAttr,h3]);refine aI (by rfl) ?_;refine (FH _).mono ?_;rintro _ _ ⟨rfl,rfl⟩;(try simp only [go_sem,simprocAttr,aE,RV.ev,aF]);rw [hO];exact ⟨CL _,.refl _ _⟩
  | false=>
  rw [if_neg (by rw [h3];simp)] at hO;rw [aQ] at h3;(try simp only [go_sem,simprocAttr,h3]);have Sr:∀ y,y=r→S y:=fun y hy=>by obtain ⟨_,_,_,_,_,_,hh⟩:=h;rw [hy];exact hh.bt _ (by simp)
  have zero:∀ (hO:qm n a b=none),a8 Tryz.prog 52 [ptr r,I 3] w fun _ w'=>FI w' S r md mf bs X m (.tuple #[.nilIface,.bool false]) (qm n a b)∧Mod S w w':=fun hO=>by
   refine (CK h).mono ?_;rintro _ w1 ⟨hR,aj⟩;rw [hO];exact ⟨⟨rfl,hR⟩,aj.aU Sr⟩
  cases h4:aQ n ⟨#[47]⟩ with
  | true=>
   rw [if_pos (by rw [h4];try rfl),if_pos h4] at hO;rw [aQ] at h4;(try simp only [go_sem,simprocAttr,h4]);cases hb:b == 0 with
   | true=>
    rw [if_pos (by simpa using hb)] at hO;(try simp only [go_sem,simprocAttr]);refine aI (by rfl) ?_;refine (zero hO).mono ?_;rintro _ w1 hR;(try simp only [go_sem,simprocAttr,aE,RV.ev,aF]);exact hR
   | false=>
    have oq:b≠0:=by simpa using hb
    rw [if_neg oq] at hO;(try simp only [go_sem,simprocAttr,h4,oq]);refine aI (by rfl) ?_;refine (FH _).mono ?_;rintro _ _ ⟨rfl,rfl⟩;(try simp only [go_sem,simprocAttr,aE,RV.ev,aF]);rw [hO];exact ⟨CL _,.refl _ _⟩
  | false=>
  cases h5:aQ n ⟨#[37]⟩ with
  | true=>
   rw [if_pos (by rw [h5];simp),if_neg (show ¬ aQ n ⟨#[47]⟩=true by rw [h4];simp)] at hO;rw [aQ] at h4 h5;(try simp only [go_sem,simprocAttr,h4,h5]);cases hb:b == 0 with
   | true=>
    rw [if_pos (by simpa using hb)] at hO;(try simp only [go_sem,simprocAttr]);refine aI (by rfl) ?_;refine (zero hO).mono ?_;rintro _ w1 hR;(try simp only [go_sem,simprocAttr,aE,RV.ev,aF]);exact hR
   | false=>
    have oq:b≠0:=by simpa using hb
    rw [if_neg oq] at hO;(try simp only [go_sem,simprocAttr,h4,oq,aE,RV.ev,aF]);rw [hO];exact ⟨CL _,.refl _ _⟩
  | false=>
  rw [if_neg (by rw [h4,h5];simp)] at hO;have hT:Ax n a b=if aQ n ⟨#[61,61]⟩ then a == b
   else if aQ n ⟨#[47,61]⟩ then a != b
   else if aQ n ⟨#[60]⟩ then decide (a < b)
   else if aQ n ⟨#[60,61]⟩ then decide (a≤b)
   else if aQ n ⟨#[62]⟩ then decide (a > b)
   else if aQ n ⟨#[62,61]⟩ then decide (a≥b)
   else false:=rfl
  rw [aQ] at h4 h5;(try simp only [go_sem,simprocAttr,h4,h5]);cases c1:aQ n ⟨#[61,61]⟩ with
  | true=>
   rw [if_pos c1] at hT;rw [aQ] at c1;(try simp only [go_sem,simprocAttr,c1]);exact ⟨hO,congrArg _ hT.symm⟩
  | false=>
  rw [if_neg (by rw [c1];simp)] at hT;rw [aQ] at c1;(try simp only [go_sem,simprocAttr,c1]);cases c2:aQ n ⟨#[47,61]⟩ with
  | true=>
   rw [if_pos c2] at hT;rw [aQ] at c2;(try simp only [go_sem,simprocAttr,c2]);exact ⟨hO,congrArg _ hT.symm⟩
  | false=>
  rw [if_neg (by rw [c2];simp)] at hT;rw [aQ] at c2;(try simp only [go_sem,simprocAttr,c2]);cases c3:aQ n ⟨#[60]⟩ with
  | true=>
   rw [if_pos c3] at hT;rw [aQ] at c3;(try simp only [go_sem,simprocAttr,c3]);exact ⟨hO,congrArg _ hT.symm⟩
  | false=>
  rw [if_neg (by rw [c3];simp)] at hT;rw [aQ] at c3;(try simp only [go_sem,simprocAttr,c3]);cases c4:aQ n ⟨#[60,61]⟩ with
  | true=>
   rw [if_pos c4] at hT;rw [aQ] at c4;(try simp only [go_sem,simprocAttr,c4]);exact ⟨hO,congrArg _ hT.symm⟩
  | false=>
  rw [if_neg (by rw [c4];simp)] at hT;rw [aQ] at c4;(try simp only [go_sem,simprocAttr,c4]);cases c5:aQ n ⟨#[62]⟩ with
  | true=>
   rw [if_pos c5] at hT;rw [aQ] at c5;(try simp only [go_sem,simprocAttr,c5]);exact ⟨hO,congrArg _ hT.symm⟩
  | false=>
  rw [if_neg (by rw [c5];simp)] at hT;rw [aQ] at c5;(try simp only [go_sem,simprocAttr,c5]);cases c6:aQ n ⟨#[62,61]⟩ with
  | true=>
   rw [if_pos c6] at hT;rw [aQ] at c6;(try simp only [go_sem,simprocAttr,c6]);exact ⟨hO,congrArg _ hT.symm⟩
  | false=>
  rw [if_neg (by rw [c6];simp)] at hT;rw [aQ] at c6;(try simp only [go_sem,simprocAttr,c6]);exact ⟨hO,congrArg _ hT.symm⟩
 ·rintro ρ _ ⟨rfl,hc,g10⟩;have hS:=h;obtain ⟨_,_,_,_,_,_,hh⟩:=hS;cases ht:Ax n a b with
  | true=>
   rw [ht] at g10 hc;(try simp only [go_sem,simprocAttr,g10]);refine bD rfl ?_;intro w1 ar aj bC;(try simp only [go_sem,simprocAttr,aE,RV.ev,aF]);rw [hc];exact ⟨⟨⟨_,rfl,⟨_,_,rfl,rL (cs:=[.string uI,.slice none 0 0]) ar (fun hx=>by have:=hh.lt _ hx;omega),ej _ _ _ _⟩,rfl⟩,h.aB aj⟩,an aj⟩
  | false=>
   rw [ht] at g10 hc;(try simp only [go_sem,simprocAttr,g10]);refine bD rfl ?_;intro w1 ar aj bC;(try simp only [go_sem,simprocAttr,aE,RV.ev,aF]);rw [hc];exact ⟨⟨⟨_,rfl,⟨_,_,rfl,rL (cs:=[.string uJ,.slice none 0 0]) ar (fun hx=>by have:=hh.lt _ hx;omega),ej _ _ _ _⟩,rfl⟩,h.aB aj⟩,an aj⟩
end
section
open Go Go.W
theorem SI {w:World} {S:Nat→Prop} {r md mf:Nat} {bs:List Nat} {X:Cx} {m:Rn} {c b:Nat} {f:Cl} {u:Value} {bZ:R3} (h:cK w S r md mf bs X m) (hc:bs[c]? = some b) (hu:iL w (Out S w) bs f u) (hv:f.io=true) (aR:lE m f c=some bZ) :
   a8 Tryz.prog 36 [ptr r,u,ptr b] w fun v w'=>nk w w' S r md mf bs X v bZ∧Mod S w w':=by
 have hS:=h;obtain ⟨_,_,_,_,_,_,hh⟩:=hS;have Sr:∀ y,y=r→S y:=fun y hy=>by rw [hy];exact hh.bt _ (by simp)
 have stop:∀ (py:bZ=(none,m.stop 5)),a8 Tryz.prog 52 [ptr r,I 5] w fun _ w'=>nk w w' S r md mf bs X (.tuple #[.pointer none,.pointer none,.nilIface,.bool false]) bZ∧Mod S w w':=fun py=>by
  refine (CK h).mono ?_;rintro _ w1 ⟨hR,aj⟩;rw [py];exact ⟨⟨S,bs,hR,⟨fun _ h=>h,fun _ h=>.inl h⟩,fun _ _ h=>h,rfl⟩,aj.aU Sr⟩
 refine YV.calls rfl ?_;unfold H7;(try simp only [go_sem,simprocAttr]);cases f with
 | wait e nm=>cases hv
 | busy=>cases hv
 | emp=>cases hv
 | num n=>
  cases hu;cases aR;refine kh (D:=.pointer 139) rfl rfl rfl (Tryz.zeroValue138 _) (fun h=>absurd h (by decide)) (fun _=>?_);(try simp only [go_sem,simprocAttr]);refine kh (D:=.pointer 144) rfl rfl rfl (Tryz.zeroValue142 _) (fun h=>absurd h (by decide)) (fun _=>?_);(try simp only [go_sem,simprocAttr]);refine aI (by rfl) ?_;refine (stop rfl).mono ?_;rintro _ w1 hR;(try simp only [go_sem,simprocAttr,aE,RV.ev,aF]);exact hR
 | aZ n fs=>
  obtain ⟨a,vs,rfl,_⟩:=hu;cases aR;refine kh (D:=.pointer 139) rfl rfl rfl (Tryz.zeroValue138 _) (fun h=>absurd h (by decide)) (fun _=>?_);(try simp only [go_sem,simprocAttr]);refine kh (D:=.pointer 144) rfl rfl rfl (Tryz.zeroValue142 _) (fun h=>absurd h (by decide)) (fun _=>?_);(try simp only [go_sem,simprocAttr]);refine aI (by rfl) ?_;refine (stop rfl).mono ?_;rintro _ w1 hR;(try simp only [go_sem,simprocAttr,aE,RV.ev,aF]);exact hR
 | fw e nm=>
  obtain ⟨a,ve,vn,rfl,bH,⟨ae,ry,rfl,iU,hex⟩,hn⟩:=hu;obtain ⟨vt,va,vb,vl,rfl,ht,ha,hb,hl⟩:=hex.parts;obtain ⟨aa,ca,rfl⟩:=a7 ha;obtain ⟨ab,cb,rfl⟩:=a7 hb
  have aR:(match e.args,e.binds with
   | x::_,b::_=>some (some (Md.go x ((b.name,c)::nm)),m)
   | _,_=>none)=some bZ:=aR
  cases bQ:e.args with
  | nil=>rw [bQ] at aR;cases aR
  | cons x xs=>
  cases qp:e.binds with
  | nil=>rw [bQ,qp] at aR;cases aR
  | cons bd bds=>
  rw [bQ,qp] at aR;cases aR;have lx:0 < e.args.length:=by rw [bQ];simp
  have lb:0 < e.binds.length:=by rw [qp];simp
  obtain ⟨Ag,ca2,ra,ea,ny,kC,SJ⟩:=iJ ha lx;obtain ⟨rfl,-,-⟩:=bY ea;obtain ⟨zZ,cb2,rb,eb,SK,EQ,kV⟩:=iJ hb lb;obtain ⟨rfl,-,-⟩:=bY eb;have fr:e.args[0]=x:=by simp [bQ]
  have ly:e.binds[0]=bd:=by simp [qp]
  rw [fr] at ny;rw [ly] at SK;rw [Nat.zero_mul,add_zero'] at SJ kV;obtain ⟨tc,bc,rfl,_,_,_⟩:=SK;have k0:w.cell? a=some (.pointer (some ae)):=bH.c0 (by simp);have k1:w.cell? ⟨a.block,a.off+1,none⟩=some vn:=bH.at (k:=1) (by simp);have k4:w.cell? ⟨ae.block,ae.off+4,none⟩=some (.slice (some Ag) e.args.length ca):=iU.at (k:=4) (by simp);have k5:w.cell? ⟨ae.block,ae.off+5,none⟩=some (.slice (some zZ) e.binds.length cb):=iU.at (k:=5) (by simp);have kb:w.cell? zZ=some (.string bd.name):=kV.c0 (by simp);have b1:(0:Int)≤0∧(0:Int) < e.args.length:=by omega
  have b2:(0:Int)≤0∧(0:Int) < e.binds.length:=by omega
  refine kh (D:=.pointer 139) rfl rfl rfl (Tryz.zeroValue138 _) (fun _=>?_) (fun h=>absurd rfl h);have hvn:Go.W.One vn:=by
   cases nm with
   | nil=>cases hn;rfl
   | cons p l=>obtain ⟨_,_,_,rfl,_⟩:=hn;rfl
  (try simp only [go_sem,simprocAttr,bq,br,k0,k1,k4,k5,b1,b2,Nat.zero_mul,kb,hvn]);refine bD rfl ?_;intro w1 ar aeS bC;have aj:Mod (fun _=>False) w w1:=aeS.eF;have Ln:=lU k0;have lte:=lU k4;(try simp only [go_sem,simprocAttr,aE,RV.ev,aF]);refine ⟨⟨aj.bN _ lte _root_.id,aj.bN _ Ln _root_.id⟩,⟨S,bs,h.aB aj,⟨fun _ h=>h,fun _ h=>.inl h⟩,fun _ _ h=>h,_,_,rfl,⟨Ag,ra,rfl,SJ.up (an aj) aK (aX (an aj)),ny.up (an aj) aK (aX (an aj))⟩,?_⟩,an aj⟩;exact ⟨_,b,vn,rfl,hc,FG (cs:=[.string bd.name,ptr b,vn]) ar (fun hx=>by have:=hh.lt _ hx;have e:w.drew.heap.size=w.heap.size:=rfl;omega),hn.up (an aj) aK (aX (an aj)) (fun _ _ h=>h)⟩
 | eB n l fs=>
  obtain ⟨a,vs,rfl,bH,gX⟩:=hu;obtain ⟨ah,ch,rfl⟩:=a7 gX;have aR:(if fs.length < 1099511627776 then some (some (Md.val (kL n (Wr (l - 1)) (fs++[c]))),m) else none)=some bZ:=aR;have hlen:fs.length < 1099511627776:=by
   apply Classical.byContradiction;intro h;rw [if_neg h] at aR;cases aR
  rw [if_pos hlen] at aR;cases aR;have k0:w.cell? a=some (.string n):=bH.c0 (by simp);have k1:w.cell? ⟨a.block,a.off+1,none⟩=some (I l):=bH.at (k:=1) (by simp);have k2:w.cell? ⟨a.block,a.off+2,none⟩=some (.slice ah fs.length ch):=bH.at (k:=2) (by simp);have aeT:=gX;obtain ⟨rows,jW,mQ,BZ⟩:=aeT;obtain ⟨oP,dJ,ga⟩:=D8 jW.1 (by decide);have gD:∀ y∈rows.flatMap id,y.oneCell'=true:=fun y hy=>by
   rw [List.mem_flatMap] at hy;obtain ⟨row,hrow,hy⟩:=hy;obtain ⟨i,hi,rfl⟩:=List.getElem_of_mem hrow;obtain ⟨b',e,_⟩:=BZ i _ _ (List.getElem?_eq_getElem hi) (List.getElem?_eq_getElem (by omega));have hy:y∈rows[i]:=hy;rw [e] at hy;simp only [List.mem_cons,List.not_mem_nil,or_false] at hy;subst hy;rfl
  refine kh (D:=.pointer 139) rfl rfl rfl (Tryz.zeroValue138 _) (fun h=>absurd h (by decide)) (fun _=>?_);(try simp only [go_sem,simprocAttr]);refine kh (D:=.pointer 144) rfl rfl rfl (Tryz.zeroValue142 _) (fun _=>?_) (fun h=>absurd rfl h);(try simp only [go_sem,simprocAttr,k2]);refine qR (m:=fs.length) (news:=rows.flatMap id) rfl (dx.nil w 82 1) rfl ga dJ gD rfl (by omega) (by omega) ?_;intro v1 w1 fp1 xr aj mM;have aj:Mod (fun _=>False) w w1:=aj.aU (fun y hy=>by cases hy);(try simp only [go_sem,simprocAttr]);refine fA (cs:=#[ptr b]) rfl rfl ?_;intro w2 au ai bK;have aY:=aj.trans ai;have aeU:=vx (xs:=[ptr b]) au;(try simp only [go_sem,simprocAttr]);refine qR (m:=1) (news:=[ptr b]) rfl (xr.mod ai (fun _ _ h=>h)) rfl (fun h=>by cases h) aeU (aS rfl dE) rfl (by omega) (by omega) ?_;intro v3 w3 iu qo aq j9;have z02:=aY.size;have SL:∀ y,fp1=some y→w.heap.size≤y:=fun y hy=>by
   rcases mM y hy with h | ⟨h,_⟩
   ·cases h
   ·omega
  have bn:Mod (fun _=>False) w w3:=aY.step aq (fun y hy hl=>by have:=SL y hy;omega);have nd:∀ y,iu=some y→Out S w3 y:=fun y hy=>by
   have aP:=qo.lt hy;refine ⟨aP,fun hs=>?_⟩;have:=hh.lt y hs;rcases j9 y hy with h | ⟨h,_⟩
   ·have:=SL y h;omega
   ·omega
  have js:∀ r∈rows++[[ptr b]],r.length=1:=fun row hrow=>by
   rcases List.mem_append.1 hrow with hrow | hrow
   ·obtain ⟨i,hi,rfl⟩:=List.getElem_of_mem hrow;obtain ⟨b',e,_⟩:=BZ i _ _ (List.getElem?_eq_getElem hi) (List.getElem?_eq_getElem (by omega));rw [e];try rfl
   ·rw [List.mem_singleton.1 hrow];try rfl
  have aeV:dx w3 82 1 v3 ((rows++[[ptr b]]).flatMap id) (rows++[[ptr b]]).length iu:=by
   have e:(rows++[[ptr b]]).length=0+fs.length+1:=by simp [mQ]
   rw [BT,e];exact qo
  have hFs:uK w3 (Out S w3) bs (fs++[c]) v3:=by
   refine ⟨rows++[[ptr b]],⟨(BI aeV js).mod (.refl (fun _=>False) w3) aC (fun y hy=>nd y hy),by rw [List.length_append];simp;omega⟩,by simp [mQ],fun i row x h1 h2=>?_⟩;rcases Nat.lt_or_ge i rows.length with hi | hi
   ·rw [List.getElem?_append_left hi] at h1;rw [List.getElem?_append_left (by omega)] at h2;exact BZ i row x h1 h2
   ·rw [List.getElem?_append_right hi] at h1;rw [List.getElem?_append_right (by omega)] at h2;have e0:i - rows.length=0:=by
     rcases Nat.eq_zero_or_pos (i - rows.length) with e | e
     ·exact e
     ·rw [List.getElem?_eq_none (by simp;omega)] at h1;cases h1
    have e1:i - fs.length=0:=by omega
    rw [e0] at h1;rw [e1] at h2;simp only [List.getElem?_cons_zero,Option.some.injEq] at h1 h2;subst h1 h2;exact ⟨b,rfl,hc⟩
  have Aw:=bH.up (an bn (S:=S)) aK (aX (an bn));have k03:w3.cell? a=some (.string n):=Aw.c0 (by simp);have k13:w3.cell? ⟨a.block,a.off+1,none⟩=some (I l):=Aw.at (k:=1) (by simp);have d3:Mod (fun _=>False) w3 w3.drew:=(Mod.refl _ _).drew;have SM:=bn.trans d3;(try simp only [go_sem,simprocAttr,k03,k13]);refine aI (by rfl) ?_;refine (SG (S:=S) (bs:=bs) (hv:=fs++[c]) (n:=n) (nf:=Wr (l - 1)) (fun y hy=>by have:=hh.lt y hy;have:=SM.size;omega) (hFs.up (an d3) aK (aX (an d3)) (fun _ _ h=>h))).mono ?_;rintro u5 w5 ⟨fy,mh,aD⟩;have fg:=SM.trans aD;(try simp only [go_sem,simprocAttr,aE,RV.ev,aF]);exact ⟨⟨S,bs,h.aB fg,⟨fun _ h=>h,fun _ h=>.inl h⟩,fun _ _ h=>h,u5,rfl,fy,mh⟩,an fg⟩
end
section
open Go Go.W
theorem aeW {l:List ByteArray} {fs:List Nat} {i:Nat} (hi:i < l.length) (v:cr):jH (l.drop i) (fs.drop i) v=if h:i < fs.length then jH (l.drop (i+1)) (fs.drop (i+1)) ((l[i],fs[i])::v) else none:=by
 rw [List.drop_eq_getElem_cons hi]
 split
 ·rename_i h;rw [List.drop_eq_getElem_cons h,jH]
 ·rename_i h;rw [List.drop_eq_nil_of_le (show fs.length≤i by omega),jH]
theorem aeX {m:Rn} {v:cr} {x:Cl} {l:List Al} {i:Nat} (hi:i < l.length):eQ m v x (l.drop i) =
   if (l[i].kind == 3||(l[i].kind == 2&&(ji x).isNone&&l[i].num == numOf x))=true then some (some (.go l[i].body v),m)
   else match ji x with
    | some k=>if (l[i].kind == 1&&aQ l[i].aZ k.1)=true then (jH l[i].vars k.2 v).map (fun v'=>(some (.go l[i].body v'),m)) else eQ m v x (l.drop (i+1))
    | none=>eQ m v x (l.drop (i+1)):=by
 rw [List.drop_eq_getElem_cons hi,eQ];try rfl
theorem aeY {w:World} {B:Nat→Prop} {v:Value} {l:List Al} (hl:aT w v 11 B (iO w B) l) {i:Nat} (hi:i < l.length) :
   ∃ ad c vv ec,v = .slice (some ad) l.length c∧gj w B (ad.add (i*11)) (I l[i].kind :: .string l[i].aZ::I l[i].num::vv::ec)∧aT w vv 1 B gw l[i].vars∧bE w B ec l[i].body∧ec.length=7:=by
 obtain ⟨ad,c,r,e,⟨vv,ec,rfl,mh,hex⟩,_,bH⟩:=iJ hl hi;exact ⟨ad,c,vv,ec,e,bH,mh,hex,hex.len⟩
theorem gj.part {w:World} {B:Nat→Prop} {a:Addr} {cs ds:List Value} {k:Nat} (h:gj w B a cs) (hd:∀ i (hi:i < ds.length),cs[k+i]? = some ds[i]) (hk:k≠0):gj w B ⟨a.block,a.off+k,none⟩ ds:=by
 refine ⟨h.1,fun i hi=>?_⟩;have h1:=hd i hi;obtain ⟨aP,h2⟩:=List.getElem?_eq_some_iff.1 h1;have h3:=h.2 (k+i) aP;rw [h2,add_pos _ (by omega)] at h3;rw [oo,Nat.add_assoc];exact h3
end
section
open Go Go.W
abbrev uM:ByteArray:=⟨#[76,105,115,116]⟩
def rM (t:Ty):Bool:=(t.kind == 4&&aQ t.name uM)&&(match t.args with | a::_=>a.kind == 1 | []=>false)
theorem aeZ (t:Ty) {w:World} {B:Nat→Prop} {cs:List Value} (h:aW w B cs t) (ha:t.kind=4→t.name=uM→0 < t.args.length) :
   a8 Tryz.prog 33 [.agg cs.toArray] w fun r w'=>r = .bool (rM t)∧Mod (fun _=>False) w w':=by
 obtain ⟨v,rfl,hl⟩:=h.cells;obtain ⟨a,c,rfl⟩:=a7 hl;refine YS.calls rfl ?_;unfold H4;(try simp only [go_sem,simprocAttr]);refine bD rfl ?_;intro w1 ar aj bC;(try simp only [go_sem,simprocAttr,cell_of ar,Value.cells]);cases h1:t.kind == 4 with
 | false=>
  (try simp only [go_sem,simprocAttr,aE,RV.ev,aF]);exact ⟨congrArg _ (by rw [rM,h1];try rfl),aj⟩
 | true=>
  (try simp only [go_sem,simprocAttr,cell_of ar,Value.cells]);cases h2:aQ t.name uM with
  | false=>
   have iX:=h2;rw [aQ] at iX;(try simp only [go_sem,simprocAttr,iX,aE,RV.ev,aF]);exact ⟨congrArg _ (by rw [rM,h1,h2];try rfl),aj⟩
  | true=>
   have iX:=h2;rw [aQ] at iX;have aP:=ha (by simpa using h1) (by have:=h2;rw [oD] at this;simpa using this);obtain ⟨ad,c2,r,e,hr,bT,bH⟩:=iJ (hl.mod aj aC (fun _ _ h=>h.mod aj aC)) aP;obtain ⟨rfl,-,-⟩:=bY e;obtain ⟨vu,rfl,_⟩:=hr.cells;rw [Nat.zero_mul,add_zero'] at bH;have k0:w1.cell? ad=some (I t.args[0].kind):=bH.c0 (by simp);have b1:(0:Int)≤0∧(0:Int) < t.args.length:=by omega
   have hk:(match t.args with | a::_=>a.kind == 1 | []=>false)=(t.args[0].kind == 1):=by
    cases t with
    | mk k n l=>cases l with
     | nil=>simp [Ty.args] at aP
     | cons x l=>rfl
   (try simp only [go_sem,simprocAttr,iX,cell_of ar,Value.cells]);(try simp only [go_sem,simprocAttr,bq,br,b1,Nat.zero_mul,k0,aE,RV.ev,aF]);exact ⟨congrArg _ (by rw [rM,h1,h2,hk];try rfl),aj⟩
end
section
open Go Go.W
theorem mw {bs:List Nat} {b:Nat}:∀ (c d:Nat),bs[c]? = some d→(bs++[b])[c]? = some d:=fun c d h=>by
 rw [List.getElem?_append_left (List.getElem?_eq_some_iff.1 h).1];exact h
theorem cK.new {w0 w:World} {S:Nat→Prop} {r md mf b:Nat} {bs:List Nat} {X:Cx} {m:Rn} {x:Cl} {v:Value} (h:cK w0 S r md mf bs X m) (hm:Mod (fun _=>False) w0 w) (hb:w.heap[b]? = some (.cells [v].toArray Li (0,0))) (j8:w0.heap.size≤b) (hv:iL w (Out (aL S b) w) (bs++[b]) x v) :
   cK w (aL S b) r md mf (bs++[b]) X (m.new x):=by
 obtain ⟨vt,vf,dh,bR,cB,cD,h⟩:=h;obtain ⟨n1,n2,n3,n4,n5,n6,n7,n8,n9⟩:=h.ne;have bB:Mod S w0 w:=an hm;have eJ:=eH bB (eI (S:=S) j8);have lF:∀ y∈jI r md mf bs cB cD,y < w0.heap.size:=fun y hy=>h.lt y (h.bt y hy)
 have oA:=cO hb
 refine ⟨vt,vf,dh,bR,cB,cD,hm.at h.box _root_.id,h.told.mod hm (fun _ _ h=>h),h.items,h.pA.mod hm (fun _ _ h=>h),h.aO.imp (fun _ _ x=>x.up bB aK eJ mw),?_,?_,?_,?_,?_,
  h.ak.mod hm _root_.id (fun _ _ x=>by obtain ⟨y,e,h⟩:=x;exact ⟨y,e,mw _ _ h⟩),h.fields.mod hm _root_.id (fun _ _ x=>x),h.steps,fun p hp=>by
   obtain ⟨a1,a2,a3⟩:=h.kept p hp;have a4:=cO a1;simp only [jI,List.mem_cons,List.mem_append,Option.mem_toList,not_or] at a3 ⊢;obtain ⟨c1,c2,c3,⟨c4,c5⟩,c6⟩:=a3
   exact ⟨hm.at a1 _root_.id,.inl a2,c1,c2,c3,⟨c4,c5⟩,c6,fun e=>by omega,by simp⟩⟩
 ·refine Lj ?_ ⟨n1,n2,n3⟩ n4 n5 (fun y hy=>?_) n7 (fun a ha du=>?_) (fun a ha du=>?_)
  ·rw [List.nodup_append]
   exact ⟨h.FE,by simp,fun a ha c hc e=>by
    rw [List.mem_singleton.1 hc] at e
    have:=lF a (by simp [ha]);omega⟩
  ·rcases List.mem_append.1 hy with hy | hy
   ·exact n6 y hy
   ·rw [List.mem_singleton.1 hy];have:=lF r (by simp);have:=lF md (by simp);have:=lF mf (by simp);exact ⟨by omega,by omega,by omega⟩
  ·rcases List.mem_append.1 du with hy | hy
   ·exact n8 a ha hy
   ·have:=lF a (by simp [ha]);have:=List.mem_singleton.1 hy;omega
  ·rcases List.mem_append.1 du with hy | hy
   ·exact n9 a ha hy
   ·have:=lF a (by simp [ha]);have:=List.mem_singleton.1 hy;omega
 ·intro y hy;simp only [jI,List.mem_cons,List.mem_append,Option.mem_toList,List.not_mem_nil,or_false] at hy;rcases hy with rfl | rfl | rfl | (h1 | h1) | (h1 | h1)
  ·exact .inl (h.bt _ (by simp))
  ·exact .inl (h.bt _ (by simp))
  ·exact .inl (h.bt _ (by simp))
  ·exact .inl (h.bt _ (by simp [h1]))
  ·exact .inl (h.bt _ (by simp [h1]))
  ·exact .inl (h.bt _ (by simp [h1]))
  ·exact .inr h1
 ·intro y hy;rcases hy with h1 | h1
  ·exact Nat.lt_of_lt_of_le (h.lt y h1) hm.size
  ·omega
 ·show (bs++[b]).length=(m.cells++[x]).length;rw [List.length_append,List.length_append,h.len];try rfl
 ·intro i y z hi hz;have hz:(m.cells++[x])[i]? = some z:=hz;rcases Nat.lt_or_ge i bs.length with aP | hge
  ·rw [List.getElem?_append_left aP] at hi;rw [List.getElem?_append_left (by rw [← h.len];exact aP)] at hz;obtain ⟨u,h1,h2⟩:=h.cell i y z hi hz;exact ⟨u,hm.at h1 _root_.id,h2.up bB aK eJ mw⟩
  ·rw [List.getElem?_append_right hge] at hi;rw [List.getElem?_append_right (by rw [← h.len];exact hge)] at hz;have e0:i - bs.length=0:=by
    rcases Nat.eq_zero_or_pos (i - bs.length) with e | e
    ·exact e
    ·rw [List.getElem?_eq_none (by simp;omega)] at hi;cases hi
   rw [e0] at hi;rw [← h.len,e0] at hz;simp only [List.getElem?_cons_zero,Option.some.injEq] at hi hz;subst hi hz;exact ⟨v,hb,hv⟩
end
section
open Go Go.W
theorem gH.one {w:World} {B:Nat→Prop} {bs:List Nat} {nm:cr} {v:Value} (h:gH w B bs nm v):Go.W.One v:=by
 cases nm with
 | nil=>cases h;rfl
 | cons p l=>obtain ⟨_,_,_,rfl,_⟩:=h;rfl
theorem ae0 {w:World} {S:Nat→Prop} {r md mf:Nat} {bs:List Nat} {X:Cx} {m:Rn} {e:Ex} {nm:cr} {x:Cl} {u:Value} {cs:List Value} {bZ:R3} (h:cK w S r md mf bs X m) (hf:ni w (Out S w) bs 2 e nm cs) (hu:iL w (Out S w) bs x u) (hv:x.io=true) (aR:eQ m nm x e.alts=some bZ) :
   a8 Tryz.prog 74 [ptr r,.agg cs.toArray,u] w fun v w'=>nk w w' S r md mf bs X v bZ∧Mod S w w':=by
 obtain ⟨ve,vn,rfl,⟨ae,ry,rfl,iU,hex⟩,hn⟩:=hf;obtain ⟨vt,va,vb,vl,rfl,ht,ha,hb,hl⟩:=hex.parts;obtain ⟨al,cl,rfl⟩:=a7 hl;have lV:=dB hl;have hS:=h;obtain ⟨_,_,_,_,_,_,hh⟩:=hS;have Sr:∀ y,y=r→S y:=fun y hy=>by rw [hy];exact hh.bt _ (by simp)
 obtain ⟨T,z,rfl,_⟩:=Az hu hv;refine ZX.calls rfl ?_;unfold IJ;refine dU (fun ρ w1=>ρ=[(0,ptr r),(2,.iface T z),(4,ptr w.heap.size)]∧w1.heap[w.heap.size]? = some (.cells [I 2,.pointer none,.pointer (some ae),vn,I 0].toArray 136 (0,0))∧Mod (fun _=>False) w w1) ?_ ?_
 ·(try simp only [go_sem,simprocAttr]);refine bD rfl ?_;intro w1 ar aj bC;(try simp only [go_sem,simprocAttr]);exact ⟨ar,aj⟩
 rintro _ w1 ⟨rfl,ar,aj⟩;refine dU (fun ρ w'=>w1=w'∧∃ t10,ρ=[(0,ptr r),(2,.iface T z),(4,ptr w.heap.size),(10,t10),(11,.bool (ji x).isSome)]∧∀ k,ji x=some k→∃ a vs,t10 = .pointer (some a)∧gj w (Out S w) a [.string k.1,vs]∧uK w (Out S w) bs k.2 vs) ?_ ?_
 ·(try simp only [go_sem,simprocAttr]);refine kh (D:=.pointer 114) rfl rfl rfl (Tryz.zeroValue111 _) (fun hT=>?_) (fun hT=>?_)
  ·(try simp only [go_sem,simprocAttr]);refine ⟨z,?_,?_⟩
   ·cases x with
    | aZ k fs=>rfl
    | num n=>cases hu;cases hT
    | fw e' nQ=>obtain ⟨a,_,_,e,_⟩:=hu;cases e;cases hT
    | eB n l fs=>obtain ⟨a,_,e,_⟩:=hu;cases e;cases hT
    | wait e' nQ=>cases hv
    | busy=>cases hv
    | emp=>cases hv
   ·intro k hk;cases x with
    | aZ k' fs=>cases hk;obtain ⟨a,vs,e,h1,h2⟩:=hu;cases e;exact ⟨a,vs,rfl,h1,h2⟩
    | _=>cases hk
  ·(try simp only [go_sem,simprocAttr]);have Lo:ji x=none:=by
    cases x with
    | aZ k fs=>obtain ⟨a,_,e,_⟩:=hu;cases e;exact absurd rfl hT
    | _=>rfl
   rw [Lo];exact ⟨_,rfl,fun k hk=>by cases hk⟩
 rintro _ _ ⟨rfl,t10,rfl,lf⟩;refine dU (fun ρ w'=>w1=w'∧ρ=[(0,ptr r),(4,ptr w.heap.size),(10,t10),(11,.bool (ji x).isSome),(12,I (numOf x))]) ?_ ?_
 ·(try simp only [go_sem,simprocAttr]);refine kh (D:=.int .i64) rfl rfl rfl (Tryz.zeroValue115 _) (fun hT=>?_) (fun hT=>?_)
  ·(try simp only [go_sem,simprocAttr]);cases x with
   | num n=>cases hu;rfl
   | aZ k fs=>obtain ⟨a,_,e,_⟩:=hu;cases e;cases hT
   | fw e' nQ=>obtain ⟨a,_,_,e,_⟩:=hu;cases e;cases hT
   | eB n l fs=>obtain ⟨a,_,e,_⟩:=hu;cases e;cases hT
   | wait e' nQ=>cases hv
   | busy=>cases hv
   | emp=>cases hv
  ·(try simp only [go_sem,simprocAttr]);cases x with
   | num n=>cases hu;exact absurd rfl hT
   | _=>rfl
 rintro _ _ ⟨rfl,rfl⟩;have k2:w1.cell? ⟨w.heap.size,2,none⟩=some (.pointer (some ae)):=by rw [cell_of ar];try rfl
 have k3:w1.cell? ⟨w.heap.size,3,none⟩=some vn:=by rw [cell_of ar];try rfl
 have ae1:=iU.up (an aj (S:=S)) aK (aX (an aj));have k6:w1.cell? ⟨ae.block,ae.off+6,none⟩=some (.slice al e.alts.length cl):=ae1.at (k:=6) (by simp);(try simp only [go_sem,simprocAttr,k2,k6])
 refine fL (fun z' ρ w'=>Mod (fun _=>False) w1 w'∧∃ i:Nat,z'=e.alts.length - i∧i≤e.alts.length∧eQ m nm x (e.alts.drop i)=some bZ ∧
  ρ=[(0,ptr r),(4,ptr w.heap.size),(10,t10),(11,.bool (ji x).isSome),(12,I (numOf x)),(34,I e.alts.length),(35,I i)]) e.alts.length ⟨.refl _ _,0,by omega,by omega,aR,rfl⟩ ?_
 rintro z' _ w2 ⟨ai,i,rfl,hi,aR,rfl⟩;have aY:Mod (fun _=>False) w w2:=aj.trans ai;unfold Pf;by_cases q:i < e.alts.length
 ·have b1:decide ((i:Int) < e.alts.length)=true:=by simpa using q
  have k2:w2.cell? ⟨w.heap.size,2,none⟩=some (.pointer (some ae)):=by rw [cell_of (ai.at ar _root_.id)];try rfl
  have k3:w2.cell? ⟨w.heap.size,3,none⟩=some vn:=by rw [cell_of (ai.at ar _root_.id)];try rfl
  have up2:=iU.up (an aY (S:=S)) aK (aX (an aY));have k6:w2.cell? ⟨ae.block,ae.off+6,none⟩=some (.slice al e.alts.length cl):=up2.at (k:=6) (by simp);have fJ:=hl.up (an aY (S:=S)) aK (aX (an aY)) (fun _ _ h=>h.up (an aY (S:=S)) aK (aX (an aY)));obtain ⟨ad,c,vv,ec,e1,bH,mh,Ka,sV⟩:=aeY fJ q;obtain ⟨rfl,-,-⟩:=bY e1;have gd:=aeX (m:=m) (v:=nm) (x:=x) q;have p1:(0:Int)≤i∧(i:Int) < e.alts.length:=by omega
  have n0:w2.cell? (ad.add (i*11))=some (I e.alts[i].kind):=bH.c0 (by simp);have n1:w2.cell? ⟨(ad.add (i*11)).block,(ad.add (i*11)).off+1,none⟩=some (.string e.alts[i].aZ):=bH.at (k:=1) (by simp);have n2:w2.cell? ⟨(ad.add (i*11)).block,(ad.add (i*11)).off+2,none⟩=some (I e.alts[i].num):=bH.at (k:=2) (by simp);have n3:w2.cell? ⟨(ad.add (i*11)).block,(ad.add (i*11)).off+3,none⟩=some vv:=bH.at (k:=3) (by simp);have gD:=hn.one;have body:nh w2 (Out S w2) (.pointer (some ⟨(ad.add (i*11)).block,(ad.add (i*11)).off+4,none⟩)) e.alts[i].body:=⟨_,ec,rfl,bH.part (fun j hj=>by rw [show 4+j=j+1+1+1+1 by omega];simp only [List.getElem?_cons_succ];exact List.getElem?_eq_getElem hj) (by decide),Ka⟩;have eY:=h.aB aY;have jY:=hn.up (an aY (S:=S)) aK (aX (an aY)) (fun _ _ h=>h);have here:eQ m nm x (e.alts.drop i)=some (some (.go e.alts[i].body nm),m)→nk w w2.drew S r md mf bs X (.tuple #[.pointer (some ⟨(ad.add (i*11)).block,(ad.add (i*11)).off+4,none⟩),vn,.nilIface,.bool true]) bZ∧Mod S w w2.drew:=fun hc=>by
   rw [hc] at aR;cases aR;have d2:Mod (fun _=>False) w2 w2.drew:=(Mod.refl _ _).drew;exact ⟨⟨S,bs,eY.aB d2,⟨fun _ h=>h,fun _ h=>.inl h⟩,fun _ _ h=>h,_,_,rfl,body.up (an d2 (S:=S)) aK (aX (an d2)),jY.up (an d2 (S:=S)) aK (aX (an d2)) (fun _ _ h=>h)⟩,an (aY.trans d2)⟩
  (try simp only [go_sem,simprocAttr,b1,k2,k6]);(try simp only [go_sem,simprocAttr,bq,br,p1,n0]);refine BB (fun ρ w'=>w2=w'∧ρ=[(0,ptr r),(4,ptr w.heap.size),(10,t10),(11,.bool (ji x).isSome),(12,I (numOf x)),(15,.pointer (some (ad.add (i*11)))),(34,I e.alts.length),(35,I i),(45,.bool (e.alts[i].kind == 3||(e.alts[i].kind == 2&&(ji x).isNone&&e.alts[i].num == numOf x)))]) ?_ ?_
  ·cases h3:e.alts[i].kind == 3 with
   | true=>(try simp only [go_sem,simprocAttr,Bool.true_or])
   | false=>
    cases h2:e.alts[i].kind == 2 with
    | false=>(try simp only [go_sem,simprocAttr,n0,h2,Bool.false_or,Bool.false_and])
    | true=>
     cases hx:ji x with
     | some k=>(try simp only [go_sem,simprocAttr,n0,h2,hx,Option.isSome_some,Option.isNone_some,Bool.false_or,Bool.and_false,Bool.false_and,Bool.not_true])
     | none=>(try simp only [go_sem,simprocAttr,n0,n2,h2,hx,Option.isSome_none,Option.isNone_none,Bool.false_or,Bool.not_false])
  rintro _ _ ⟨rfl,rfl⟩;cases hc:(e.alts[i].kind == 3||(e.alts[i].kind == 2&&(ji x).isNone&&e.alts[i].num == numOf x)) with
  | true=>
   rw [if_pos hc] at gd;(try simp only [go_sem,simprocAttr,k3,aE,RV.ev,aF]);exact here gd
  | false=>
   rw [if_neg (by rw [hc];simp)] at gd;have next:eQ m nm x (e.alts.drop i)=eQ m nm x (e.alts.drop (i+1))→∃ y:Nat,y < e.alts.length - i∧Mod (fun _=>False) w1 w2.drew∧∃ i':Nat,y=e.alts.length - i'∧i'≤e.alts.length∧eQ m nm x (e.alts.drop i')=some bZ ∧
       [(0,ptr r),(4,ptr w.heap.size),(10,t10),(11,Value.bool (ji x).isSome),(12,I (numOf x)),(34,I e.alts.length),(35,I (IntKind.i64.wrap ((i:Int)+1)))]=[(0,ptr r),(4,ptr w.heap.size),(10,t10),(11,.bool (ji x).isSome),(12,I (numOf x)),(34,I e.alts.length),(35,I i')]:=fun hn=>by
    have e3:IntKind.i64.wrap ((i:Int)+1)=((i+1:Nat):Int):=by rw [dv (by omega) (by omega)];omega
    exact ⟨_,by omega,ai.drew,i+1,rfl,q,by rw [← hn];exact aR,by rw [e3]⟩
   (try simp only [go_sem,simprocAttr,n0]);cases h1:e.alts[i].kind == 1 with
   | false=>
    have hn:eQ m nm x (e.alts.drop i)=eQ m nm x (e.alts.drop (i+1)):=by
     rw [gd,h1];cases ji x<;>rfl
    (try simp only [go_sem,simprocAttr]);exact next hn
   | true=>
    cases hx:ji x with
    | none=>
     have hn:eQ m nm x (e.alts.drop i)=eQ m nm x (e.alts.drop (i+1)):=by rw [gd,hx]
     (try simp only [go_sem,simprocAttr,hx,Option.isSome_none]);have:=next hn;rw [hx] at this;exact this
    | some k=>
     obtain ⟨a,vs,rfl,SN,gX⟩:=lf k hx;have acu:=SN.up (an aY (S:=S)) aK (aX (an aY));have a0:w2.cell? a=some (.string k.1):=acu.c0 (by simp);rw [hx] at gd;cases hs:aQ e.alts[i].aZ k.1 with
     | false=>
      have hn:eQ m nm x (e.alts.drop i)=eQ m nm x (e.alts.drop (i+1)):=by
       rw [gd];simp only [hs,Bool.and_false,Bool.false_eq_true,if_false]
      have eE:=hs;rw [aQ] at eE;(try simp only [go_sem,simprocAttr,hx,Option.isSome_some,n1,a0,eE]);have:=next hn;rw [hx] at this;exact this
     | true=>
      have eE:=hs;rw [aQ] at eE;obtain ⟨av,cv,rfl⟩:=a7 mh;have Qx:=dB mh;have gd:eQ m nm x (e.alts.drop i)=(jH e.alts[i].vars k.2 nm).map (fun v'=>(some (.go e.alts[i].body v'),m)):=by
       rw [gd];simp only [h1,hs,Bool.and_self,if_true]
      rw [gd] at aR;obtain ⟨nmF,FJ,rfl⟩:=Option.map_eq_some_iff.1 aR;have d2:Mod (fun _=>False) w2 w2.drew:=(Mod.refl _ _).drew;(try simp only [go_sem,simprocAttr,hx,Option.isSome_some,n1,n3,k3,a0,eE])
      refine fL (fun z' ρ w'=>Mod (fun _=>False) w2 w'∧∃ (j:Nat) (nQ:cr) (v':Value),z'=e.alts[i].vars.length - j∧j≤e.alts[i].vars.length∧gH w' (Out S w') bs nQ v'∧jH (e.alts[i].vars.drop j) (k.2.drop j) nQ=some nmF ∧
       ρ=[(10,.pointer (some a)),(15,.pointer (some (ad.add (i*11)))),(16,v'),(98,.slice av e.alts[i].vars.length cv),(99,I e.alts[i].vars.length),(100,I j)]) e.alts[i].vars.length ⟨d2,0,nm,vn,by omega,by omega,jY.up (an d2 (S:=S)) aK (aX (an d2)) (fun _ _ h=>h),FJ,rfl⟩ ?_
      rintro z'' _ w3 ⟨aq,j,nQ,v',rfl,hj,CB,yA,rfl⟩;have bn:Mod (fun _=>False) w w3:=aY.trans aq;unfold Pe;by_cases qj:j < e.alts[i].vars.length
      ·have b2:decide ((j:Int) < e.alts[i].vars.length)=true:=by simpa using qj
       rw [aeW qj] at yA;have SO:j < k.2.length:=by
        apply Classical.byContradiction;intro hn;rw [dif_neg hn] at yA;cases yA
       rw [dif_pos SO] at yA;have CM:=mh.up (an aq (S:=S)) aK (aX (an aq)) (fun _ _ h=>h);have j9:=gX.up (an bn (S:=S)) aK (aX (an bn)) (fun _ _ h=>h);have ac3:=SN.up (an bn (S:=S)) aK (aX (an bn));obtain ⟨qq,c1,e1,_,kq⟩:=sH CM qj;obtain ⟨rfl,-,-⟩:=bY e1;obtain ⟨kA,c2,r2,rfl,⟨b,rfl,ey⟩,_,oI⟩:=iJ j9 SO;have f0:w3.cell? (kA.add j)=some (ptr b):=by have:=oI.c0 (by simp);rwa [Nat.mul_one] at this
       have a1:w3.cell? ⟨a.block,a.off+1,none⟩=some (.slice (some kA) k.2.length c2):=ac3.at (k:=1) (by simp);have p2:(0:Int)≤j∧(j:Int) < e.alts[i].vars.length:=by omega
       have p3:(0:Int)≤j∧(j:Int) < k.2.length:=by omega
       have ae2:=CB.one;(try simp only [go_sem,simprocAttr,b2]);(try simp only [go_sem,simprocAttr,bq,br,p2,kq,a1,p3,f0,ae2]);refine bD rfl ?_;intro w4 ba aA eG;have e3:IntKind.i64.wrap ((j:Int)+1)=((j+1:Nat):Int):=by rw [dv (by omega) (by omega)];omega
       (try simp only [go_sem,simprocAttr,e3]);refine ⟨_,by omega,aq.trans aA,j+1,_,_,rfl,qj,?_,yA,rfl⟩;refine ⟨_,b,v',rfl,ey,FG (cs:=[.string e.alts[i].vars[j],ptr b,v']) ba (fun hx=>by have:=hh.lt _ hx;have:=bn.size;omega),CB.up (an aA (S:=S)) aK (aX (an aA)) (fun _ _ h=>h)⟩
      ·have b2:decide ((j:Int) < e.alts[i].vars.length)=false:=by simpa using qj
       rw [List.drop_eq_nil_of_le (by omega),jH] at yA;cases yA;(try simp only [go_sem,simprocAttr,b2,aE,RV.ev,aF]);have SP:=body.up (an aq (S:=S)) aK (aX (an aq));exact ⟨⟨S,bs,h.aB bn,⟨fun _ h=>h,fun _ h=>.inl h⟩,fun _ _ h=>h,_,_,rfl,SP,CB⟩,an bn⟩
 ·have b1:decide ((i:Int) < e.alts.length)=false:=by simpa using q
  rw [List.drop_eq_nil_of_le (by omega),eQ] at aR;cases aR;(try simp only [go_sem,simprocAttr,b1]);refine aI (by rfl) ?_;refine (CK (h.aB aY)).mono ?_;rintro _ w3 ⟨hR,aq⟩;(try simp only [go_sem,simprocAttr,aE,RV.ev,aF]);have gY:Mod S w w3:=(an aY).trans (aq.aU Sr);exact ⟨⟨S,bs,hR,⟨fun _ h=>h,fun _ h=>.inl h⟩,fun _ _ h=>h,rfl⟩,gY⟩
end
section
open Go Go.W
theorem Ay.qs {w:World} {B:Nat→Prop} {bs:List Nat} {v:Value} {x:Option Md} (h:Ay w B bs v x):∃ a b c d,v = .tuple #[a,b,c,d]:=by
 match x,h with
 | some (.go e nm),⟨ve,vn,e1,_⟩=>exact ⟨_,_,_,_,e1⟩
 | some (.val x),⟨u,e1,_⟩=>exact ⟨_,_,_,_,e1⟩
 | none,e1=>exact ⟨_,_,_,_,e1⟩
theorem nk.qs {w w':World} {S:Nat→Prop} {r md mf:Nat} {bs:List Nat} {X:Cx} {v:Value} {x:R3} (h:nk w w' S r md mf bs X v x):∃ a b c d,v = .tuple #[a,b,c,d]:=by
 obtain ⟨S',cP,_,_,_,h⟩:=h;exact h.qs
theorem ae3 {P:Program} {w:World} {ρ:Go.W.Env} {K:Value→World→Prop} {α:Type} {R:Value→α→Prop} {l:List (ByteArray×α)} {a:α} {t kt et:TypeId} {m x:Operand} {b:Nat} {k:ByteArray} {z:Value} {d:Option Nat} {ty:TypeId} {pos:String} {af:Array Edge} (hm:(bm m).ev ρ=some (.map (some b))) (hx:(bm x).ev ρ=some (.string k)) (ht:P.underlying t=some (.map kt et)) (ib:P.underlying kt=some .string)
   (hz:(zeroValue et).run P w = .ok z w) (h:cE w b R l) (ha:aG l k=some a) (hk:∀ v,R v a→K v w):Go.W.E.wp P w ρ K (.raw ⟨d,.lookup t m x false,ty,pos,af,none⟩):=by
 obtain ⟨lv,hv,hp⟩:=h;refine Oy hm hx ht ib hz hv ?_;rcases hp.get k with ⟨e1,e2⟩ | ⟨v,a',e1,e2,hr⟩
 ·rw [ha] at e2;cases e2
 ·rw [ha] at e2;cases e2;rw [e1];exact hk _ hr
section
variable {w w':World} {S S':Nat→Prop} {r md mf:Nat} {bs:List Nat} {X:Cx} {m:Rn} {x:Option Md} {v:Value}
theorem CN (h:cK w S r md mf bs X m) (hm:Mod (fun _=>False) w w') (np:Ay w' (Out S w') bs v x):nk w w' S r md mf bs X v (x,m)∧Mod S w w':=
 ⟨⟨S,bs,h.aB hm,⟨fun _ h=>h,fun _ h=>.inl h⟩,fun _ _ h=>h,np⟩,an hm⟩
theorem rN (h:cK w' S' r md mf bs X m) (hg:dR S S' w) (hm:Mod S w w') (np:Ay w' (Out S' w') bs v x):nk w w' S r md mf bs X v (x,m)∧Mod S w w':=
 ⟨⟨S',bs,h,hg,fun _ _ h=>h,np⟩,hm⟩
theorem nr:dR S S w:=⟨fun _ h=>h,fun _ h=>.inl h⟩
end
theorem AA {w:World} {B:Nat→Prop} {v:Value} {l:List Ex} (h:aT w v 7 B (bE w B) l) {i:Nat} (hi:i < l.length):∃ ad c,v = .slice (some ad) l.length c∧nh w B (.pointer (some (ad.add (i*7)))) l[i]:=by
 obtain ⟨ad,c,r,e,hx,_,bH⟩:=iJ h hi;exact ⟨ad,c,e,_,r,rfl,bH,hx⟩
theorem FK {w:World} {B:Nat→Prop} {v:Value} {l:List Bd} (h:aT w v 11 B (ff w B) l) {i:Nat} (hi:i < l.length):∃ ad c,v = .slice (some ad) l.length c∧w.cell? (ad.add (i*11))=some (.string l[i].name)∧(ad.add (i*11)).block < w.heap.size∧nh w B (.pointer (some ⟨(ad.add (i*11)).block,(ad.add (i*11)).off+4,none⟩)) l[i].value:=by
 obtain ⟨ad,c,r,e,⟨tc,ec,rfl,fT,eW,_⟩,_,bH⟩:=iJ h hi;have k0:=bH.c0 (by simp);refine ⟨ad,c,e,k0,lU k0,_,ec,rfl,bH.part (fun j hj=>?_) (by decide),eW⟩;have hl:=fT.len;rw [show 4+j=(j+3)+1 by omega,List.getElem?_cons_succ,List.getElem?_append_right (by omega),hl,Nat.add_sub_cancel];exact List.getElem?_eq_getElem hj
def Ch (w:World) (B:Nat→Prop) (bs:List Nat) (lo:Nat) (vn:Value) (l:List Bd) (n:Nat):Nat→Value→Prop
 | 0,v=>v=vn
 | k+1,v=>∃ a b nx s,v = .pointer (some a)∧lo≤a.block∧tk w B a [.string s,ptr b,nx]∧bs[n+k]? = some b∧l[k]?.map Bd.name=some s∧Ch w B bs lo vn l n k nx
theorem Ch.up {w w':World} {B B' S:Nat→Prop} {bs cP:List Nat} {lo:Nat} {vn:Value} {l:List Bd} {n:Nat}:∀ {k:Nat} {v:Value},Ch w B bs lo vn l n k v→Mod S w w'→(∀ b,B b→¬ S b)→(∀ b,B b→B' b)→(∀ (c b:Nat),bs[c]? = some b→cP[c]? = some b)→Ch w' B' cP lo vn l n k v
 | 0,v,h,_,_,_,_=>h
 | k+1,v,h,hm,hd,hB,hb=>by
  obtain ⟨a,b,nx,s,e,h0,h1,h2,h3,h4⟩:=h;exact ⟨a,b,nx,s,e,h0,h1.up hm hd hB,hb _ _ h2,h3,Ch.up h4 hm hd hB hb⟩
theorem SQ:∀ (l:List Bd) (b:Bd) (i:Nat) (v:cr),jG (l++[b]) i v=(b.name,i+l.length)::jG l i v
 | [],b,i,v=>rfl
 | c::l,b,i,v=>by
  rw [List.cons_append,jG,SQ l b (i+1),jG];simp only [List.length_cons];rw [show i+1+l.length=i+(l.length+1) by omega]
theorem Ch.nm {w:World} {B:Nat→Prop} {bs:List Nat} {lo:Nat} {vn:Value} {l:List Bd} {n:Nat} {nm:cr} (hn:gH w B bs nm vn):∀ {k:Nat} {v:Value},Ch w B bs lo vn l n k v→k≤l.length→gH w B bs (jG (l.take k) n nm) v
 | 0,v,h,_=>by
  have h:v=vn:=h;rw [h];exact hn
 | k+1,v,h,hk=>by
  obtain ⟨a,b,nx,s,e,h0,h1,h2,h3,h4⟩:=h;have aP:k < l.length:=by omega
  have e1:l[k].name=s:=by
   rw [List.getElem?_eq_getElem aP] at h3
   simpa using h3
  rw [List.take_succ_eq_append_getElem aP,SQ,List.length_take,Nat.min_eq_left (by omega),e1];exact ⟨a,b,nx,e,h2,h1,Ch.nm hn h4 (by omega)⟩
def Rn.pB (m:Rn) (k:Nat) (l:List Cl):Rn:={ m with cells:=m.cells++(List.replicate k .emp++l)}
theorem ae4 (m:Rn):m.pB 0 []=m:=by unfold Rn.pB;simp
theorem ae5 (m:Rn) (k:Nat):(m.pB k []).new .emp=m.pB (k+1) []:=by
 unfold Rn.pB Rn.new;simp [List.replicate_succ']
theorem ae6 (m:Rn) (k:Nat) (l:List Cl) (x:Cl):(m.pB (k+1) l).put (m.cells.length+k) x=m.pB k (x::l):=by
 unfold Rn.pB Rn.put;simp [List.replicate_succ',List.set_append]
theorem SS {P:Program} {w:World} {ρ:Go.W.Env} {K:Value→World→Prop} {t te:TypeId} {j:TypeInfo} {x y:Operand} {u v:Option Addr} {d:Option Nat} {ty:TypeId} {pos:String} {c:TypeId} {af:Array Edge} (hx:(bm x).ev ρ=some (.pointer u)) (hy:(bm y).ev ρ=some (.pointer v)) (hp:P.underlying t=some (.pointer te)) (hj:P.info? te=some j) (cZ:j.size≠0)
   (hu:∀ a,u=some a→Pl w a.block) (hv:∀ a,v=some a→Pl w a.block) {q:Bool} (hq:(!decide (u=v))=q) (hk:K (.bool q) w):Go.W.E.wp P w ρ K (.raw ⟨d,.binOp .neq t x y c,ty,pos,af,none⟩):=by
 have he:(Op.equal t (.pointer u) (.pointer v)).run P w = .ok (decide (u=v)) w:=by
  unfold Op.equal Op.maxDepth Op.equalIn;cases u with
  | none=>cases v<;>simp [run_underlying hp]
  | some a=>
   cases v with
   | none=>simp [run_underlying hp]
   | some b=>
    by_cases rh:a=b
    ·subst rh;simp [run_underlying hp,sizeOf,typeInfo,hj,cZ,run_sameAddr_same]
    ·obtain ⟨ca,ta,ha⟩:=hu a rfl;obtain ⟨cb,tb,hb⟩:=hv b rfl;simp [run_underlying hp,sizeOf,typeInfo,hj,cZ,run_sameAddr_other w rh ha hb,rh]
 rw [← hq] at hk;refine kT fun act ha=>⟨_,w,?_,hk⟩
 simp only [execOp,ha x _ hx,ha y _ hy];have hg:(eqGuard .neq t x y (.pointer u) (.pointer v)).run P w = .ok () w:=rfl;simp only [Sem.run_bind,hg,Result.andThen_ok];simp only [binOp,Sem.run_bind,he,Result.andThen_ok,Sem.run_pure]
theorem gH.ptr {w:World} {B:Nat→Prop} {bs:List Nat} {nm:cr} {v:Value} (h:gH w B bs nm v):∃ u,v = .pointer u∧∀ a,u=some a→Pl w a.block∧B a.block:=by
 cases nm with
 | nil=>cases h;exact ⟨none,rfl,fun a e=>by cases e⟩
 | cons p l=>obtain ⟨a,b,nx,rfl,_,h,_⟩:=h;exact ⟨some a,rfl,fun a e=>by cases e;exact ⟨h.2,h.1.1⟩⟩
theorem ae7 {w:World} {S:Nat→Prop} {r md mf:Nat} {bs:List Nat} {X:Cx} {m:Rn} {e:Ex} {nm:cr} {ve vn:Value} {bZ:R3} (h:cK w S r md mf bs X m) (he:nh w (Out S w) ve e) (hn:gH w (Out S w) bs nm vn) (hlen:m.aO.length≤2097152) (aR:iS X e nm m=some bZ) :
   a8 Tryz.prog 49 [ptr r,ve,vn] w fun v w'=>nk w w' S r md mf bs X v bZ∧Mod S w w':=by
 have pU:=he;obtain ⟨ae,ry,rfl,iU,hex⟩:=he;obtain ⟨vt,va,vb,vl,rfl,ht,ha,hb,hl⟩:=hex.parts;obtain ⟨aa,ca,rfl⟩:=a7 ha;obtain ⟨ab,cb,rfl⟩:=a7 hb;have oA:=dB hb;have hS:=h;obtain ⟨_,_,_,_,_,_,hh⟩:=hS;have Sr:∀ y,y=r→S y:=fun y hy=>by rw [hy];exact hh.bt _ (by simp)
 have k0:w.cell? ae=some (I e.kind):=iU.c0 (by simp);have k1:w.cell? ⟨ae.block,ae.off+1,none⟩=some (.string e.name):=iU.at (k:=1) (by simp);have k2:w.cell? ⟨ae.block,ae.off+2,none⟩=some (I e.num):=iU.at (k:=2) (by simp);have k4:w.cell? ⟨ae.block,ae.off+4,none⟩=some (.slice aa e.args.length ca):=iU.at (k:=4) (by simp);have k5:w.cell? ⟨ae.block,ae.off+5,none⟩=some (.slice ab e.binds.length cb):=iU.at (k:=5) (by simp);have gD:=hn.one;have d2:Mod (fun _=>False) w w.drew:=(Mod.refl _ _).drew;have up:∀ {w':World} {S':Nat→Prop},Mod S w w'→dR S S' w→gj w' (Out S' w') ae [I e.kind,.string e.name,I e.num,vt,.slice aa e.args.length ca,.slice ab e.binds.length cb,vl]∧bE w' (Out S' w') [I e.kind,.string e.name,I e.num,vt,.slice aa e.args.length ca,.slice ab e.binds.length cb,vl] e∧gH w' (Out S' w') bs nm vn:=fun hm hg=>by
  have eJ:=rK hg hm.size;exact ⟨iU.up hm aK eJ,hex.up hm aK eJ,hn.up hm aK eJ (fun _ _ h=>h)⟩
 refine Zk.calls rfl ?_;unfold Il;unfold iS at aR;(try simp only [go_sem,simprocAttr,k0]);cases h1:e.kind == 1 with
 | true=>
  rw [if_pos (by simpa using h1)] at aR;obtain ⟨c,hc,rfl⟩:=Option.map_eq_some_iff.1 aR;(try simp only [go_sem,simprocAttr,k1]);refine aI (by rfl) ?_;refine (aeP nm hn hc).mono ?_;rintro _ _ ⟨⟨b,rfl,ey⟩,rfl⟩;(try simp only [go_sem,simprocAttr]);refine aI (by rfl) ?_;refine (Ll h ey hlen).mono ?_;rintro v w' hR;obtain ⟨_,_,_,_,rfl⟩:=hR.1.qs;(try simp only [go_sem,simprocAttr,aE,RV.ev,aF]);exact hR
 | false=>
 rw [if_neg (by simpa using h1)] at aR;(try simp only [go_sem,simprocAttr]);cases h3:e.kind == 3 with
 | true=>
  rw [if_pos (by simpa using h3)] at aR;obtain ⟨c,hc,rfl⟩:=Option.map_eq_some_iff.1 aR;(try simp only [go_sem,simprocAttr,k1,cell_of hh.box]);refine ae3 (R:=CH bs) (l:=X.ak) (b:=md) (kt:=9) (et:=82) rfl rfl rfl rfl (Tryz.zeroValue82 _) hh.ak hc ?_;rintro _ ⟨b,rfl,ey⟩;(try simp only [go_sem,simprocAttr]);refine aI (by rfl) ?_;refine (Ll (h.aB d2) ey hlen).mono ?_;rintro v w' hR;obtain ⟨_,_,_,_,rfl⟩:=hR.1.qs;(try simp only [go_sem,simprocAttr,aE,RV.ev,aF]);refine ⟨?_,(an d2).trans hR.2⟩;obtain ⟨S',cP,q1,q2,q3⟩:=hR.1;exact ⟨S',cP,q1,q2,q3⟩
 | false=>
 rw [if_neg (by simpa using h3)] at aR;(try simp only [go_sem,simprocAttr]);cases h2:e.kind == 2 with
 | true=>
  rw [if_pos (by simpa using h2)] at aR;cases aR;(try simp only [go_sem,simprocAttr,k2,aE,RV.ev,aF]);exact CN h d2 ⟨_,rfl,rfl,rfl⟩
 | false=>
 rw [if_neg (by simpa using h2)] at aR;(try simp only [go_sem,simprocAttr]);cases h4:e.kind == 4 with
 | true=>
  rw [if_pos (by simpa using h4)] at aR;cases aR;(try simp only [go_sem,simprocAttr,k1,cell_of hh.box]);refine vO (b:=mf) (kt:=9) (et:=3) rfl rfl rfl rfl (zI _) hh.fields ?_;(try simp only [go_sem,simprocAttr]);refine aI (by rfl) ?_;refine (SG (w:=w.drew) (S:=S) (bs:=bs) (hv:=[]) (n:=e.name) (nf:=(aG X.fields e.name).getD 0) (fun y hy=>hh.lt y hy) (ej _ _ _ _)).mono ?_;rintro v w' ⟨fy,mh,hm⟩;(try simp only [go_sem,simprocAttr,aE,RV.ev,aF]);exact CN h (d2.trans hm) ⟨_,rfl,fy,mh⟩
 | false=>
 rw [if_neg (by simpa using h4)] at aR;(try simp only [go_sem,simprocAttr]);cases h6:e.kind == 6 with
 | true=>
  rw [if_pos (by simpa using h6)] at aR;cases aR;(try simp only [go_sem,simprocAttr,gD]);refine bD rfl ?_;intro w1 ar aj bC;(try simp only [go_sem,simprocAttr,aE,RV.ev,aF]);exact CN h aj ⟨_,rfl,⟨_,_,_,rfl,rL (cs:=[.pointer (some ae),vn]) ar (fun hx=>by have:=hh.lt _ hx;omega),pU.up (an aj) aK (aX (an aj)),hn.up (an aj) aK (aX (an aj)) (fun _ _ h=>h)⟩,rfl⟩
 | false=>
 rw [if_neg (by simpa using h6)] at aR;(try simp only [go_sem,simprocAttr]);cases pV:e.kind == 12 with
 | true=>
  rw [if_pos (by simpa using pV)] at aR;cases aR;(try simp only [go_sem,simprocAttr,k2]);refine aI (by rfl) ?_;refine (CK h).mono ?_;rintro _ w1 ⟨hR,aj⟩;(try simp only [go_sem,simprocAttr,aE,RV.ev,aF]);exact rN hR nr (aj.aU Sr) rfl
 | false=>
 rw [if_neg (by simpa using pV)] at aR;(try simp only [go_sem,simprocAttr]);cases h7:e.kind == 7 with
 | true=>
  rw [if_pos (by simpa using h7)] at aR;cases bQ:e.args with
  | nil=>rw [bQ] at aR;cases aR
  | cons y yl=>
  rw [bQ] at aR;cases aR;(try simp only [go_sem,simprocAttr,k5]);have ltn:∀ {a:Addr},vn = .pointer (some a)→a.block < w.heap.size:=fun {a} e=>by
   cases nm with
   | nil=>cases hn;cases e
   | cons p l=>obtain ⟨_,_,_,rfl,_,h,_⟩:=hn;cases e;exact h.1.1.1
  refine fL (fun z' ρ w'=>Mod (fun _=>False) w w'∧∃ (j:Nat) (S':Nat→Prop) (cP:List Nat) (v':Value),z'=e.binds.length - j∧j≤e.binds.length∧cK w' S' r md mf cP X (m.pB j [])∧dR S S' w∧(∀ (c b:Nat),bs[c]? = some b→cP[c]? = some b)∧Ch w' (Out S' w') cP w.heap.size vn e.binds m.cells.length j v' ∧
   ρ=[(1,.pointer (some ae)),(2,v'),(10,vn),(94,I e.binds.length),(95,I j)]) e.binds.length ⟨.refl _ _,0,S,bs,vn,by omega,by omega,(by rw [ae4];exact h),nr,fun _ _ h=>h,rfl,rfl⟩ ?_
  rintro z' _ w1 ⟨aj,j,S1,eR,v1,rfl,hj,fx,eu,my,FL,rfl⟩;unfold O';have nR:=rK eu aj.size;have wA:=iU.up (an aj (S:=S)) aK nR;have B7:=hex.up (an aj (S:=S)) aK nR;have oP:gH w1 (Out S1 w1) eR nm vn:=hn.up (an aj (S:=S)) aK nR my;have AB:w1.cell? ⟨ae.block,ae.off+5,none⟩=some (.slice ab e.binds.length cb):=wA.at (k:=5) (by simp);have qt:w1.cell? ⟨ae.block,ae.off+4,none⟩=some (.slice aa e.args.length ca):=wA.at (k:=4) (by simp);have ub:aT w1 (.slice ab e.binds.length cb) 11 (Out S1 w1) (ff w1 (Out S1 w1)) e.binds:=hb.up (an aj (S:=S)) aK nR (fun _ _ h=>h.up (an aj (S:=S)) aK nR);have ae8:=(Ch.nm oP FL hj).one;by_cases q:j < e.binds.length
  ·have b1:decide ((j:Int) < e.binds.length)=true:=by simpa using q
   have p1:(0:Int)≤j∧(j:Int) < e.binds.length:=by omega
   obtain ⟨ad,c,e6,ow,sD,hp⟩:=FK ub q;obtain ⟨rfl,-,-⟩:=bY e6;have e3:IntKind.i64.wrap ((j:Int)+1)=((j+1:Nat):Int):=by rw [dv (by omega) (by omega)];omega
   (try simp only [go_sem,simprocAttr,b1]);(try simp only [go_sem,simprocAttr,bq,br,AB,p1,ow]);refine bD rfl ?_;intro w2 au ai bK;(try simp only [go_sem,simprocAttr,ae8]);refine bD rfl ?_;intro w3 aM aq eV;(try simp only [go_sem,simprocAttr,e3]);have eY:=fx.new (x:=.emp) ai au (Nat.le_refl _) rfl;rw [ae5] at eY;have lA:=ai.trans aq
   have qu:dR S (aL S1 w1.heap.size) w:=⟨fun b hb=>.inl (eu.1 b hb),fun b hb=>by
    rcases hb with h | h
    ·exact eu.2 b h
    ·right;have:=aj.size;omega⟩
   refine ⟨_,by omega,aj.trans lA,j+1,_,_,_,rfl,q,eY.aB aq,qu,fun c b hc=>mw _ _ (my c b hc),?_,rfl⟩;have ae9:eR.length=m.cells.length+j:=by
    obtain ⟨_,_,_,_,_,_,hx⟩:=fx;rw [hx.len];simp [Rn.pB]
   have ae':∀ b,Out S1 w1 b→Out (aL S1 w1.heap.size) w3 b:=eH (an lA) (eI (Nat.le_refl _));refine ⟨_,w1.heap.size,v1,e.binds[j].name,rfl,?_,FG (cs:=[.string e.binds[j].name,ptr w1.heap.size,v1]) aM ?_,?_,?_,FL.up (an lA (S:=S1)) aK ae' mw⟩
   ·have:=aj.size;have:=ai.size;show w.heap.size≤w2.heap.size;omega
   ·rintro (hx | hx)
    ·obtain ⟨_,_,_,_,_,_,Lp⟩:=fx;have:=Lp.lt _ hx;omega
    ·omega
   ·rw [List.getElem?_append_right (by omega),ae9];simp
   ·rw [List.getElem?_eq_getElem q];try rfl
  ·have b1:decide ((j:Int) < e.binds.length)=false:=by simpa using q
   have pS:j=e.binds.length:=by omega
   subst pS;have lb:IntKind.i64.wrap ((e.binds.length:Int) - 1)=(e.binds.length:Int) - 1:=dv (by omega) (by omega);(try simp only [go_sem,simprocAttr,b1,AB,lb]);have hnF:gH w1 (Out S1 w1) eR (jG e.binds m.cells.length nm) v1:=by
    have:=Ch.nm oP FL (Nat.le_refl _)
    rwa [List.take_length] at this
   refine fL (fun z' ρ w'=>Mod S1 w1 w'∧∃ vk:Value,z'≤e.binds.length∧cK w' S1 r md mf eR X (m.pB z' ((e.binds.drop z').map (fun b=>Cl.wait b.value (jG e.binds m.cells.length nm))))∧Ch w' (Out S1 w') eR w.heap.size vn e.binds m.cells.length z' vk ∧
    ρ=[(1,.pointer (some ae)),(2,v1),(10,vn),(12,vk),(13,I ((z':Int) - 1))]) e.binds.length ⟨.refl _ _,v1,Nat.le_refl _,by rw [List.drop_length];exact fx,FL,rfl⟩ ?_
   rintro k _ w2 ⟨ai,vk,hk,eY,uN,rfl⟩;unfold Pa;have SU:=wA.up ai aK (aX ai);have ex2:=B7.up ai aK (aX ai);have Lq:=hnF.up ai aK (aX ai) (fun _ _ h=>h);have AB:w2.cell? ⟨ae.block,ae.off+5,none⟩=some (.slice ab e.binds.length cb):=SU.at (k:=5) (by simp);have qt:w2.cell? ⟨ae.block,ae.off+4,none⟩=some (.slice aa e.args.length ca):=SU.at (k:=4) (by simp);have ub:aT w2 (.slice ab e.binds.length cb) 11 (Out S1 w2) (ff w2 (Out S1 w2)) e.binds:=hb.up ((an aj).trans ai) (fun b hb=>aK b (nR b hb)) (fun b hb=>aX ai b (nR b hb)) (fun _ _ h=>h.up ((an aj).trans ai) (fun b hb=>aK b (nR b hb)) (fun b hb=>aX ai b (nR b hb)));have ua:aT w2 (.slice aa e.args.length ca) 7 (Out S1 w2) (bE w2 (Out S1 w2)) e.args:=ha.up ((an aj).trans ai) (fun b hb=>aK b (nR b hb)) (fun b hb=>aX ai b (nR b hb)) (fun _ _ h=>h.up ((an aj).trans ai) (fun b hb=>aK b (nR b hb)) (fun b hb=>aX ai b (nR b hb)));obtain ⟨u0,CO,Lr⟩:=(hn.up ((an aj).trans ai) (fun b hb=>aK b (nR b hb)) (fun b hb=>aX ai b (nR b hb)) my).ptr;subst CO
   match k,vk,uN,hk,eY with
   | 0,vk,uN,hk,eY=>
    have uN:vk = .pointer u0:=uN;subst uN;(try simp only [go_sem,simprocAttr]);refine SS (te:=141) rfl rfl rfl rfl (by decide) (fun a e=>(Lr a e).1) (fun a e=>(Lr a e).1) (q:=false) (by simp) ?_;have la:0 < e.args.length:=by rw [bQ];simp
    have yB:e.args[0]=y:=by simp [bQ]
    have b2:(0:Int)≤0∧(0:Int) < e.args.length:=by omega
    obtain ⟨ad,c,e6,hp⟩:=AA ua la;obtain ⟨rfl,-,-⟩:=bY e6;rw [yB,Nat.zero_mul,add_zero'] at hp;(try simp only [go_sem,simprocAttr]);(try simp only [go_sem,simprocAttr,bq,br,qt,b2,Nat.zero_mul,add_zero',aE,RV.ev,aF])
    have aY:Mod S w w2:=(an aj).step ai (fun b hb hl=>by
     rcases eu.2 b hb with h | h
     ·exact h
     ·omega)
    exact ⟨⟨S1,eR,eY,eu,my,_,_,rfl,hp,Lq⟩,aY⟩
   | k+1,vk,uN,hk,eY=>
    obtain ⟨a,b,nx,s,rfl,h0,bH,ey,hs,uN⟩:=uN;(try simp only [go_sem,simprocAttr])
    refine SS (te:=141) rfl rfl rfl rfl (by decide) (fun a e=>by cases e;exact bH.2) (fun a e=>(Lr a e).1) (q:=true) (by
     have:some a≠u0:=fun e=>by
      have:=ltn (a:=a) (by rw [e]);omega
     simp [this]) ?_
    (try simp only [go_sem,simprocAttr]);have e2:((k+1:Nat):Int) - 1=(k:Int):=by omega
    have e3:IntKind.i64.wrap ((k:Int) - 1)=(k:Int) - 1:=dv (by omega) (by omega);have q:k < e.binds.length:=by omega
    have p1:(0:Int)≤k∧(k:Int) < e.binds.length:=by omega
    obtain ⟨ad,c,e6,ow,sD,hp⟩:=FK ub q;obtain ⟨rfl,-,-⟩:=bY e6;have a1:w2.cell? ⟨a.block,a.off+1,none⟩=some (ptr b):=bH.at (k:=1) (by simp);have afa:=Lq.one;(try simp only [go_sem,simprocAttr,e2]);(try simp only [go_sem,simprocAttr,bq,br,a1,AB,p1,afa]);refine bD rfl ?_;intro w3 aM aq eV;have aq:Mod (fun _=>False) w2 w3:=aq.eF;obtain ⟨_,_,_,_,_,_,iP⟩:=eY.aB aq;have Ls:eR[m.cells.length+k]? = some b:=ey;have wi:(m.pB (k+1) ((e.binds.drop (k+1)).map (fun b=>Cl.wait b.value (jG e.binds m.cells.length nm)))).cells[m.cells.length+k]? = some .emp:=by
     unfold Rn.pB;rw [List.getElem?_append_right (by omega),List.getElem?_append_left (by simp),show m.cells.length+k - m.cells.length=k by omega,List.getElem?_replicate,if_pos (by omega)]
    obtain ⟨v0,ly,_⟩:=iP.cell _ b _ Ls wi;have Ln:=lU a1;refine ⟨aq.bN _ Ln _root_.id,?_⟩;(try simp only [go_sem,simprocAttr]);refine iY (b:=b) (off:=0) (v:=.iface 105 (ptr w2.heap.size)) rfl rfl ly rfl (by simp) ?_;intro w4 ba aA eG;have Sb:∀ y,y=b→S1 y:=fun y hy=>by rw [hy];exact iP.bt _ (by simp [List.mem_of_getElem? Ls])
    have ii:Mod S1 w2 w4:=(an aq).trans (aA.aU Sb);have a2:w4.cell? ⟨a.block,a.off+2,none⟩=some nx:=(bH.up ii aK (aX ii)).at (k:=2) (by simp);have SP:∀ {x:Cl} {v:Value},iL w3 (Out S1 w3) eR x v→iL w4 (Out S1 w4) eR x v:=fun h=>h.up (aA.aU Sb) aK (aX (aA.aU Sb)) (fun _ _ h=>h)
    have pC:=iP.put (x:=.wait e.binds[k].value (jG e.binds m.cells.length nm)) (v:=.iface 105 (ptr w2.heap.size)) Ls aA ba ⟨_,_,_,rfl,rL (cs:=[.pointer (some ⟨(ad.add (k*11)).block,(ad.add (k*11)).off+4,none⟩),v1]) aM (fun hx=>by
     have:=iP.lt _ hx;have hl:∀ b,S1 b→b < w2.heap.size:=by obtain ⟨_,_,_,_,_,_,Lp⟩:=eY;exact Lp.lt
     have:=hl _ hx;omega),hp.up (an aq (S:=S1)) aK (aX (an aq)),Lq.up (an aq (S:=S1)) aK (aX (an aq)) (fun _ _ h=>h)⟩
    rw [ae6] at pC;have e5:e.binds.drop k=e.binds[k]::e.binds.drop (k+1):=List.drop_eq_getElem_cons q;(try simp only [go_sem,simprocAttr,a2,e3]);refine ⟨k,Nat.lt_succ_self k,ai.trans ii,nx,by omega,?_,uN.up ii aK (aX ii) (fun _ _ h=>h),rfl⟩;rw [e5,List.map_cons];exact ⟨_,_,_,_,_,_,pC⟩
 | false=>
 rw [if_neg (by simpa using h7)] at aR;(try simp only [go_sem,simprocAttr]);cases lg:e.kind == 11 with
 | true=>
  rw [if_pos (by simpa using lg)] at aR;(try simp only [go_sem,simprocAttr,gD]);cases qp:e.binds with
  | nil=>rw [qp] at aR;cases aR
  | cons b bl=>
  rw [qp] at aR;cases aR;refine aI (by rfl) ?_;refine (wz (f:=.lD e nm) h ⟨_,_,rfl,pU,hn⟩ hlen).mono ?_;rintro _ w1 ⟨⟨S',hR,hg⟩,aj⟩;obtain ⟨u1,u2,u3⟩:=up aj hg;obtain ⟨KE,KF,KG,Rk,e1,_,_,ub,_⟩:=u2.parts;have e5:KG = .slice ab e.binds.length cb:=by
   have:=congrArg (fun l=>l[5]?) e1
   simpa using this.symm
  subst e5;have lb:0 < e.binds.length:=by rw [qp];simp
  obtain ⟨ad,c,e6,_,_,hp⟩:=FK ub lb;obtain ⟨rfl,-,-⟩:=bY e6;have AB:w1.cell? ⟨ae.block,ae.off+5,none⟩=some (.slice (some ad) e.binds.length cb):=u1.at (k:=5) (by simp);have b2:(0:Int)≤0∧(0:Int) < e.binds.length:=by omega
  have ly:e.binds[0]=b:=by simp [qp]
  rw [ly,Nat.zero_mul,add_zero'] at hp;(try simp only [go_sem,simprocAttr,bq,br,AB,b2,Nat.zero_mul,add_zero',aE,RV.ev,aF]);exact rN hR hg aj ⟨_,_,rfl,hp,u3⟩
 | false=>
 rw [if_neg (by simpa using lg)] at aR;cases bQ:e.args with
 | nil=>rw [bQ] at aR;cases aR
 | cons y yl=>
 rw [bQ] at aR;have la:0 < e.args.length:=by rw [bQ];simp
 have yB:e.args[0]=y:=by simp [bQ]
 have b2:(0:Int)≤0∧(0:Int) < e.args.length:=by omega
 have fst:∀ {w':World} {S':Nat→Prop},Mod S w w'→dR S S' w→∃ ad,aa=some ad∧w'.cell? ⟨ae.block,ae.off+4,none⟩=some (.slice (some ad) e.args.length ca)∧nh w' (Out S' w') (.pointer (some ad)) y∧gH w' (Out S' w') bs nm vn:=fun hm hg=>by
  obtain ⟨u1,u2,u3⟩:=up hm hg;obtain ⟨KE,KF,KG,Rk,e1,_,ua,_,_⟩:=u2.parts;have e5:KF = .slice aa e.args.length ca:=by
   have:=congrArg (fun l=>l[4]?) e1
   simpa using this.symm
  subst e5;obtain ⟨ad,c,e6,hp⟩:=AA ua la;obtain ⟨rfl,-,-⟩:=bY e6;rw [yB,Nat.zero_mul,add_zero'] at hp;exact ⟨ad,rfl,u1.at (k:=4) (by simp),hp,u3⟩
 (try simp only [go_sem,simprocAttr]);cases h5:e.kind == 5 with
 | true=>
  rw [if_pos (by simpa using h5)] at aR;cases aR;(try simp only [go_sem,simprocAttr,gD]);refine aI (by rfl) ?_;refine (wz (f:=.app e nm) h ⟨_,_,rfl,pU,hn⟩ hlen).mono ?_;rintro _ w1 ⟨⟨S',hR,hg⟩,aj⟩;obtain ⟨ad,rfl,qt,hp,u3⟩:=fst aj hg;(try simp only [go_sem,simprocAttr,bq,br,qt,b2,Nat.zero_mul,add_zero',aE,RV.ev,aF]);exact rN hR hg aj ⟨_,_,rfl,hp,u3⟩
 | false=>
 rw [if_neg (by simpa using h5)] at aR;(try simp only [go_sem,simprocAttr]);cases h8:e.kind == 8 with
 | true=>
  rw [if_pos (by simpa using h8)] at aR;cases aR;(try simp only [go_sem,simprocAttr,gD]);refine aI (by rfl) ?_;refine (wz (f:=.lC e nm) h ⟨_,_,rfl,pU,hn⟩ hlen).mono ?_;rintro _ w1 ⟨⟨S',hR,hg⟩,aj⟩;obtain ⟨ad,rfl,qt,hp,u3⟩:=fst aj hg;(try simp only [go_sem,simprocAttr,bq,br,qt,b2,Nat.zero_mul,add_zero',aE,RV.ev,aF]);exact rN hR hg aj ⟨_,_,rfl,hp,u3⟩
 | false=>
 rw [if_neg (by simpa using h8)] at aR;(try simp only [go_sem,simprocAttr]);cases h9:e.kind == 9 with
 | true=>
  rw [if_pos (by simpa using h9)] at aR;cases aR;(try simp only [go_sem,simprocAttr,gD]);refine aI (by rfl) ?_;refine (wz (f:=.fst e nm) h ⟨_,_,rfl,pU,hn⟩ hlen).mono ?_;rintro _ w1 ⟨⟨S',hR,hg⟩,aj⟩;obtain ⟨ad,rfl,qt,hp,u3⟩:=fst aj hg;(try simp only [go_sem,simprocAttr,bq,br,qt,b2,Nat.zero_mul,add_zero',aE,RV.ev,aF]);exact rN hR hg aj ⟨_,_,rfl,hp,u3⟩
 | false=>
 rw [if_neg (by simpa using h9)] at aR;(try simp only [go_sem,simprocAttr]);cases lf:e.kind == 10 with
 | true=>
  rw [if_pos (by simpa using lf)] at aR;cases aR;(try simp only [go_sem,simprocAttr,gD]);refine aI (by rfl) ?_;refine (wz (f:=.seq e nm) h ⟨_,_,rfl,pU,hn⟩ hlen).mono ?_;rintro _ w1 ⟨⟨S',hR,hg⟩,aj⟩;obtain ⟨ad,rfl,qt,hp,u3⟩:=fst aj hg;(try simp only [go_sem,simprocAttr,bq,br,qt,b2,Nat.zero_mul,add_zero',aE,RV.ev,aF]);exact rN hR hg aj ⟨_,_,rfl,hp,u3⟩
 | false=>
 rw [if_neg (by simpa using lf)] at aR;cases aR;obtain ⟨ad,rfl,qt,hp,u3⟩:=fst (.refl S w) nr;(try simp only [go_sem,simprocAttr,bq,br,qt,b2,Nat.zero_mul,add_zero',aE,RV.ev,aF]);exact rN h nr (.refl S w) ⟨_,_,rfl,hp,u3⟩
end
section
open Go Go.W
theorem SV {w:World} {B:Nat→Prop} {bs:List Nat} {x:Cl} {T:Nat} {z:Value} (hu:iL w B bs x (.iface T z)) (hv:x.io=true):(T=115→z=I (numOf x))∧(T≠115→numOf x=0):=by
 cases x with
 | num n=>cases hu;exact ⟨fun _=>rfl,fun h=>absurd rfl h⟩
 | aZ k fs=>obtain ⟨a,_,e,_⟩:=hu;cases e;exact ⟨fun h=>(by cases h),fun _=>rfl⟩
 | fw e' nQ=>obtain ⟨a,_,_,e,_⟩:=hu;cases e;exact ⟨fun h=>(by cases h),fun _=>rfl⟩
 | eB n l fs=>obtain ⟨a,_,e,_⟩:=hu;cases e;exact ⟨fun h=>(by cases h),fun _=>rfl⟩
 | wait e' nQ=>cases hv
 | busy=>cases hv
 | emp=>cases hv
theorem mz {w w':World} {S S' SW:Nat→Prop} (h:dR S S' w) (k:dR S' SW w') (hz:w.heap.size≤w'.heap.size):dR S SW w:=⟨fun b hb=>k.1 b (h.1 b hb),fun b hb=>by
 rcases k.2 b hb with h1 | h1
 ·exact h.2 b h1
 ·exact .inr (Nat.le_trans hz h1)⟩
theorem lG {w w' dP:World} {S S':Nat→Prop} (hm:Mod S w w') (h:dR S S' w) (k:Mod S' w' dP):Mod S w dP:=hm.step k (fun b hb hl=>by
 rcases h.2 b hb with h1 | h1
 ·exact h1
 ·omega)
theorem Lt {w w' dP:World} {S S':Nat→Prop} {r md mf:Nat} {bs cP:List Nat} {X:Cx} {v:Value} {x:R3} (hg:dR S S' w) (hb:∀ (c b:Nat),bs[c]? = some b→cP[c]? = some b) (hm:Mod S w w') (h:nk w' dP S' r md mf cP X v x∧Mod S' w' dP):nk w dP S r md mf bs X v x∧Mod S w dP:=by
 obtain ⟨⟨S2,rO,h1,h2,h3,h4⟩,h5⟩:=h;exact ⟨⟨S2,rO,h1,mz hg h2 hm.size,fun c b hc=>h3 c b (hb c b hc),h4⟩,lG hm hg h5⟩
theorem afb {w:World} {S:Nat→Prop} {r md mf:Nat} {bs:List Nat} {X:Cx} {m:Rn} {f:Fm} {x:Cl} {u:Value} {cs:List Value} {bZ:R3} (h:cK w S r md mf bs X m) (hf:nj w (Out S w) bs cs f) (hu:iL w (Out S w) bs x u) (hv:x.io=true) (hlen:m.aO.length≤2097152) (aR:iT f x m=some bZ) :
   a8 Tryz.prog 50 [ptr r,.agg cs.toArray,u] w fun v w'=>nk w w' S r md mf bs X v bZ∧Mod S w w':=by
 obtain ⟨T,z,rfl,_⟩:=Az hu hv;have hS:=h;obtain ⟨_,_,_,_,_,_,hh⟩:=hS;have d2:Mod (fun _=>False) w w.drew:=(Mod.refl _ _).drew;cases f with
 | dz c=>
  obtain ⟨b,rfl,hb⟩:=hf;cases aR;have Lm:c < m.cells.length:=by rw [← hh.len];exact (List.getElem?_eq_some_iff.1 hb).1
  obtain ⟨v0,ly,_⟩:=hh.cell c b _ hb (List.getElem?_eq_getElem Lm);have Sb:∀ y,y=b→S y:=fun y hy=>by rw [hy];exact hh.bt _ (by simp [List.mem_of_getElem? hb])
  refine xO.calls rfl ?_;unfold uc;(try simp only [go_sem,simprocAttr]);refine bD rfl ?_;intro w1 ar aj bC;have afc:=aj.at ly _root_.id;(try simp only [go_sem,simprocAttr,cell_of ar,Int.reduceBEq]);refine iY (b:=b) (off:=0) (v:=.iface T z) rfl rfl afc rfl (by simp) ?_;intro w2 au ai bK;(try simp only [go_sem,simprocAttr,aE,RV.ev,aF]);obtain ⟨_,_,_,_,_,_,hh1⟩:=h.aB aj;have yC:=hu.up (an aj (S:=S)) aK (aX (an aj)) (fun _ _ h=>h);have hR:=hh1.put (x:=x) hb ai au yC;have aY:Mod S w w2:=(an aj).trans (ai.aU Sb);exact rN ⟨_,_,_,_,_,_,hR⟩ nr aY ⟨_,rfl,yC.up (ai.aU Sb) aK (aX (ai.aU Sb)) (fun _ _ h=>h),hv⟩
 | app e nm=>
  obtain ⟨ve,vn,rfl,⟨ae,ry,rfl,iU,hex⟩,hn⟩:=hf;obtain ⟨vt,va,vb,vl,rfl,ht,ha,hb,hl⟩:=hex.parts;obtain ⟨aa,ca,rfl⟩:=a7 ha;unfold iT at aR;simp only at aR;refine xO.calls rfl ?_;unfold uc;(try simp only [go_sem,simprocAttr]);refine bD rfl ?_;intro w1 ar aj bC
  match bQ:e.args,aR with
  | _::y::rest,aR=>
  have aP:1 < e.args.length:=by rw [bQ];simp
  have yD:e.args[1]=y:=by simp [bQ]
  have b2:(0:Int)≤1∧(1:Int) < e.args.length:=by omega
  have wA:=iU.up (an aj (S:=S)) aK (aX (an aj));have k4:w1.cell? ⟨ae.block,ae.off+4,none⟩=some (.slice aa e.args.length ca):=wA.at (k:=4) (by simp);have ua:=ha.up (an aj (S:=S)) aK (aX (an aj)) (fun _ _ h=>h.up (an aj (S:=S)) aK (aX (an aj)));have oP:=hn.up (an aj (S:=S)) aK (aX (an aj)) (fun _ _ h=>h);have gD:=oP.one;obtain ⟨ad,c,e6,hp⟩:=AA ua aP;obtain ⟨rfl,-,-⟩:=bY e6;rw [yD,add_pos _ (by decide)] at hp;(try simp only [go_sem,simprocAttr,cell_of ar,Int.reduceBEq]);have t1:Int.toNat 1=1:=rfl;(try simp only [go_sem,simprocAttr,bq,br,Int.reduceBEq,cell_of ar,k4,b2,gD,t1,Nat.one_mul]);refine bD rfl ?_;intro w2 au yz bK;have ai:Mod (fun _=>False) w1 w2:=yz.eF;(try simp only [go_sem,simprocAttr]);refine bD rfl ?_;intro w3 aM aq eV;have lA:=ai.trans aq;have bn:=aj.trans lA
  have ki:=(h.aB (aj.trans ai)).new (x:=.wait y nm) (v:=.iface 105 (ptr w1.heap.size)) aq aM (Nat.le_refl _) ⟨_,_,_,rfl,SF au aq (S:=aL S w2.heap.size) (by
   rintro (hx | hx)
   ·have:=hh.lt _ hx;have:=aj.size;omega
   ·have e:w1.drew.heap.size=w1.heap.size:=rfl
    omega),hp.up (an lA (S:=S)) aK (eH (an lA) (eI (by have:=ai.size;omega))),oP.up (an lA (S:=S)) aK (eH (an lA) (eI (by have:=ai.size;omega))) mw⟩
  have qu:dR S (aL S w2.heap.size) w:=⟨fun b hb=>.inl hb,fun b hb=>by
   rcases hb with h | h
   ·exact .inl h
   ·right;have:=(aj.trans ai).size;omega⟩
  have CP:=hu.up (an bn (S:=S)) aK (eH (an bn) (eI (by have:=(aj.trans ai).size;omega))) (mw (b:=w2.heap.size));have ie:(bs++[w2.heap.size])[m.cells.length]? = some w2.heap.size:=by
   rw [← hh.len,List.getElem?_append_right (Nat.le_refl _)];simp
  (try simp only [go_sem,simprocAttr]);refine aI (by rfl) ?_;refine (SI ki ie CP hv aR).mono ?_;rintro v w4 hR;obtain ⟨_,_,_,_,rfl⟩:=hR.1.qs;(try simp only [go_sem,simprocAttr,aE,RV.ev,aF]);exact Lt qu mw (an bn) hR
 | lC e nm=>
  have Eh:=hf;obtain ⟨ve,vn,rfl,he,hn⟩:=hf;refine xO.calls rfl ?_;unfold uc;(try simp only [go_sem,simprocAttr]);refine bD rfl ?_;intro w1 ar aj bC;have mM:ni w (Out S w) bs 2 e nm [I 2,.pointer none,ve,vn,I 0]:=Eh;have mM:=mM.up (an aj (S:=S)) aK (aX (an aj)) (fun _ _ h=>h);have yC:=hu.up (an aj (S:=S)) aK (aX (an aj)) (fun _ _ h=>h);(try simp only [go_sem,simprocAttr,cell_of ar,Int.reduceBEq,az (n:=5) (cs:=[I 2,.pointer none,ve,vn,I 0]) ar rfl]);refine aI (by rfl) ?_;refine (ae0 (h.aB aj) mM yC hv aR).mono ?_;rintro v w4 hR;obtain ⟨_,_,_,_,rfl⟩:=hR.1.qs;(try simp only [go_sem,simprocAttr,aE,RV.ev,aF]);exact Lt nr (fun _ _ h=>h) (an aj) hR
 | fst e nm=>
  obtain ⟨ve,vn,rfl,he,hn⟩:=hf;have pU:=he;obtain ⟨ae,ry,rfl,iU,hex⟩:=he;obtain ⟨vt,va,vb,vl,rfl,ht,ha,hb,hl⟩:=hex.parts;obtain ⟨aa,ca,rfl⟩:=a7 ha;unfold iT at aR;simp only at aR
  match bQ:e.args,aR with
  | _::y::rest,aR=>
  cases aR;have aP:1 < e.args.length:=by rw [bQ];simp
  have yD:e.args[1]=y:=by simp [bQ]
  have b2:(0:Int)≤1∧(1:Int) < e.args.length:=by omega
  have t1:Int.toNat 1=1:=rfl;refine xO.calls rfl ?_;unfold uc;(try simp only [go_sem,simprocAttr]);refine bD rfl ?_;intro w1 ar aj bC;obtain ⟨Lu,CQ⟩:=SV hu hv;have tail:∀ {w2:World} {S':Nat→Prop},cK w2 S' r md mf bs X (m.push (.snd e (numOf x)))→dR S S' w1→Mod S w1 w2→∃ ad,aa=some ad∧w2.heap[w.heap.size]? = some (.cells [I 3,.pointer none,.pointer (some ae),vn,I 0].toArray 136 (0,0))∧w2.cell? ⟨ae.block,ae.off+4,none⟩=some (.slice (some ad) e.args.length ca)∧(nk w w2.drew S r md mf bs X (.tuple #[.pointer (some ⟨ad.block,ad.off+7,none⟩),vn,.nilIface,.bool true]) (some (.go y nm),m.push (.snd e (numOf x)))∧Mod S w w2.drew):=fun {w2 S'} hR hg hm=>by
   have yc:Mod (fun _=>False) w2 w2.drew:=(Mod.refl _ _).drew;have Lv:dR S S' w:=mz nr hg aj.size;have aY:Mod S w w2:=(an aj).trans hm;have eJ:=rK Lv aY.size;have ua:=ha.up aY aK eJ (fun _ _ h=>h.up aY aK eJ);obtain ⟨ad,c,e6,hp⟩:=AA ua aP;obtain ⟨rfl,-,-⟩:=bY e6;rw [yD,add_pos _ (by decide)] at hp;refine ⟨ad,rfl,hm.at ar (fun hx=>by have:=hh.lt _ hx;omega),(iU.up aY aK eJ).at (k:=4) (by simp),?_⟩;have np:=aY.trans (an yc (S:=S));have afd:=rK Lv np.size;exact rN (hR.aB yc) Lv np ⟨_,_,rfl,hp.up (an yc (S:=S')) aK (aX (an yc)),hn.up np aK afd (fun _ _ h=>h)⟩
  have gD:=hn.one;have vj:=pU.up (an aj (S:=S)) aK (aX (an aj));(try simp only [go_sem,simprocAttr,cell_of ar,Int.reduceBEq]);refine kh (D:=.int .i64) rfl rfl rfl (Tryz.zeroValue115 _) (fun hT=>?_) (fun hT=>?_)
  ·have hz:=Lu hT;subst hz;(try simp only [go_sem,simprocAttr,cell_of ar]);refine aI (by rfl) ?_;refine (wz (f:=.snd e (numOf x)) (h.aB aj) ⟨_,rfl,vj⟩ hlen).mono ?_;rintro _ w2 ⟨⟨S',hR,hg⟩,ai⟩;obtain ⟨ad,rfl,au,k4,yE⟩:=tail hR hg ai;(try simp only [go_sem,simprocAttr,cell_of au]);(try simp only [go_sem,simprocAttr,bq,br,cell_of au,k4,b2,t1,Nat.one_mul,aE,RV.ev,aF]);exact yE
  ·have hz:=CQ hT;(try simp only [go_sem,simprocAttr,cell_of ar]);refine aI (by rfl) ?_;refine (wz (f:=.snd e (numOf x)) (cs:=[I 4,.pointer none,.pointer (some ae),.pointer none,I 0]) (h.aB aj) ⟨_,by rw [hz],vj⟩ hlen).mono ?_;rintro _ w2 ⟨⟨S',hR,hg⟩,ai⟩;obtain ⟨ad,rfl,au,k4,yE⟩:=tail hR hg ai;(try simp only [go_sem,simprocAttr,cell_of au]);(try simp only [go_sem,simprocAttr,bq,br,cell_of au,k4,b2,t1,Nat.one_mul,aE,RV.ev,aF]);exact yE
 | snd e n=>
  obtain ⟨ve,rfl,⟨ae,ry,rfl,iU,hex⟩⟩:=hf;obtain ⟨vt,va,vb,vl,rfl,ht,ha,hb,hl⟩:=hex.parts;refine xO.calls rfl ?_;unfold uc;(try simp only [go_sem,simprocAttr]);refine bD rfl ?_;intro w1 ar aj bC;obtain ⟨Lu,CQ⟩:=SV hu hv;have d1:Mod (fun _=>False) w1 w1.drew:=(Mod.refl _ _).drew;have yF:=aj.trans d1;have k1:w1.cell? ⟨ae.block,ae.off+1,none⟩=some (.string e.name):=(iU.up (an aj (S:=S)) aK (aX (an aj))).at (k:=1) (by simp);have fin:∀ {w2:World} {v:Value},FI w2 S r md mf bs X m v (qm e.name n (numOf x))∧Mod S w1.drew w2→∃ a b,v = .tuple #[a,b]∧(nk w w2 S r md mf bs X (.tuple #[.pointer none,.pointer none,a,b]) bZ∧Mod S w w2):=fun {w2 v} ⟨hO,ai⟩=>by
   have aY:Mod S w w2:=(an yF).trans ai;unfold iT at aR;simp only at aR;cases ho:qm e.name n (numOf x) with
   | none=>
    rw [ho] at hO aR;cases aR;obtain ⟨rfl,hR⟩:=hO;exact ⟨_,_,rfl,rN hR nr aY rfl⟩
   | some y=>
    rw [ho] at hO aR;cases aR;obtain ⟨⟨u,rfl,q1,q2⟩,hR⟩:=hO;exact ⟨_,_,rfl,rN hR nr aY ⟨_,rfl,q1,q2⟩⟩
  (try simp only [go_sem,simprocAttr,cell_of ar,Int.reduceBEq]);refine kh (D:=.int .i64) rfl rfl rfl (Tryz.zeroValue115 _) (fun hT=>?_) (fun hT=>?_)
  ·have hz:=Lu hT;subst hz;(try simp only [go_sem,simprocAttr,cell_of ar,k1]);refine aI (by rfl) ?_;refine (SH (h.aB yF)).mono ?_;rintro v w2 hO;obtain ⟨a,b,rfl,yE⟩:=fin hO;(try simp only [go_sem,simprocAttr,aE,RV.ev,aF]);exact yE
  ·have hz:=CQ hT;rw [hz] at fin;(try simp only [go_sem,simprocAttr,cell_of ar,k1]);refine aI (by rfl) ?_;refine (SH (h.aB yF)).mono ?_;rintro v w2 hO;obtain ⟨a,b,rfl,yE⟩:=fin hO;(try simp only [go_sem,simprocAttr,aE,RV.ev,aF]);exact yE
 | seq e nm=>
  obtain ⟨ve,vn,rfl,⟨ae,ry,rfl,iU,hex⟩,hn⟩:=hf;obtain ⟨vt,va,vb,vl,rfl,ht,ha,hb,hl⟩:=hex.parts;obtain ⟨aa,ca,rfl⟩:=a7 ha;unfold iT at aR;simp only at aR
  match bQ:e.args,aR with
  | _::y::rest,aR=>
  cases aR;have aP:1 < e.args.length:=by rw [bQ];simp
  have yD:e.args[1]=y:=by simp [bQ]
  have b2:(0:Int)≤1∧(1:Int) < e.args.length:=by omega
  have t1:Int.toNat 1=1:=rfl;refine xO.calls rfl ?_;unfold uc;(try simp only [go_sem,simprocAttr]);refine bD rfl ?_;intro w1 ar aj bC;have d1:Mod (fun _=>False) w1 w1.drew:=(Mod.refl _ _).drew;have yF:=aj.trans d1;have ua:=ha.up (an aj (S:=S)) aK (aX (an aj)) (fun _ _ h=>h.up (an aj (S:=S)) aK (aX (an aj)));obtain ⟨ad,c,e6,hp⟩:=AA ua aP;obtain ⟨rfl,-,-⟩:=bY e6;rw [yD,add_pos _ (by decide)] at hp;have k4:w1.cell? ⟨ae.block,ae.off+4,none⟩=some (.slice (some ad) e.args.length ca):=(iU.up (an aj (S:=S)) aK (aX (an aj))).at (k:=4) (by simp);(try simp only [go_sem,simprocAttr,cell_of ar,Int.reduceBEq]);(try simp only [go_sem,simprocAttr,bq,br,cell_of ar,k4,b2,t1,Nat.one_mul,Int.reduceBEq,aE,RV.ev,aF]);exact CN h yF ⟨_,_,rfl,hp.up (an d1 (S:=S)) aK (aX (an d1)),hn.up (an yF (S:=S)) aK (aX (an yF)) (fun _ _ h=>h)⟩
 | lD e nm=>
  obtain ⟨ve,vn,rfl,⟨ae,ry,rfl,iU,hex⟩,hn⟩:=hf;obtain ⟨vt,va,vb,vl,rfl,ht,ha,hb,hl⟩:=hex.parts;obtain ⟨aa,ca,rfl⟩:=a7 ha;obtain ⟨ab,cb,rfl⟩:=a7 hb;unfold iT at aR;simp only at aR
  match bQ:e.args,qp:e.binds,aR with
  | y::rest,bd::bl,aR=>
  cases aR;have la:0 < e.args.length:=by rw [bQ];simp
  have lb:0 < e.binds.length:=by rw [qp];simp
  have yB:e.args[0]=y:=by simp [bQ]
  have ly:e.binds[0]=bd:=by simp [qp]
  have b1:(0:Int)≤0∧(0:Int) < e.args.length:=by omega
  have b2:(0:Int)≤0∧(0:Int) < e.binds.length:=by omega
  refine xO.calls rfl ?_;unfold uc;(try simp only [go_sem,simprocAttr]);refine bD rfl ?_;intro w1 ar aj bC;have wA:=iU.up (an aj (S:=S)) aK (aX (an aj));have ua:=ha.up (an aj (S:=S)) aK (aX (an aj)) (fun _ _ h=>h.up (an aj (S:=S)) aK (aX (an aj)));have ub:=hb.up (an aj (S:=S)) aK (aX (an aj)) (fun _ _ h=>h.up (an aj (S:=S)) aK (aX (an aj)));obtain ⟨ad,c,e6,hp⟩:=AA ua la;obtain ⟨rfl,-,-⟩:=bY e6;obtain ⟨zZ,c,e6,ow,sD,_⟩:=FK ub lb;obtain ⟨rfl,-,-⟩:=bY e6;rw [yB,Nat.zero_mul,add_zero'] at hp;rw [ly,Nat.zero_mul,add_zero'] at ow;have k4:w1.cell? ⟨ae.block,ae.off+4,none⟩=some (.slice (some ad) e.args.length ca):=wA.at (k:=4) (by simp);have k5:w1.cell? ⟨ae.block,ae.off+5,none⟩=some (.slice (some zZ) e.binds.length cb):=wA.at (k:=5) (by simp);have oP:=hn.up (an aj (S:=S)) aK (aX (an aj)) (fun _ _ h=>h);have gD:=oP.one;(try simp only [go_sem,simprocAttr,cell_of ar,Int.reduceBEq]);(try simp only [go_sem,simprocAttr,bq,br,cell_of ar,k4,k5,ow,b1,b2,Nat.zero_mul,add_zero',Int.reduceBEq,gD]);have l4:(⟨ae.block,ae.off+4,none⟩:Addr).block < w1.heap.size:=lU k4;have l5:zZ.block < w1.heap.size:=lU ow;have l1:=cO ar;refine bD rfl ?_;intro w2 au yz bK;have ai:Mod (fun _=>False) w1 w2:=yz.eF;refine ⟨⟨ai.bN _ l1 _root_.id,ai.bN _ l5 _root_.id,ai.bN _ l4 _root_.id,ai.bN _ l1 _root_.id,ai.bN _ l4 _root_.id,ai.bN _ l1 _root_.id⟩,?_⟩;(try simp only [go_sem,simprocAttr,gD]);refine bD rfl ?_;intro w3 aM aq eV;have l4:ae.block < w1.heap.size:=l4;have z12:=ai.size;have z2:w2.heap.size=w1.heap.size+1:=bK;refine ⟨⟨aq.bN _ (by omega) _root_.id,aq.bN _ (by omega) _root_.id⟩,?_⟩;have aY:=aj.trans ai;have lA:=ai.trans aq;have bn:=aj.trans lA;have j8:∀ b,b < w.heap.size→aL S w1.heap.size b→S b:=eI (by have:=aj.size;omega);have SX:∀ b,b < w1.heap.size→aL S w1.heap.size b→S b:=eI (Nat.le_refl _);have eY:=(h.aB aj).new (x:=x) (v:=.iface T z) ai au (Nat.le_refl _) (hu.up (an aY (S:=S)) aK (eH (an aY) j8) mw)
  have hg:dR S (aL S w1.heap.size) w:=⟨fun b hb=>.inl hb,fun b hb=>by
   rcases hb with h | h
   ·exact .inl h
   ·right;have:=aj.size;omega⟩
  refine Lt hg (mw (b:=w1.heap.size)) (an aY) (w':=w2) ?_;refine CN eY aq ⟨_,_,rfl,hp.up (an lA (S:=S)) aK (eH (an lA) SX),⟨_,w1.heap.size,vn,rfl,?_,FG (cs:=[.string bd.name,ptr w1.heap.size,vn]) aM ?_,oP.up (an lA (S:=S)) aK (eH (an lA) SX) mw⟩⟩
  ·rw [← hh.len,List.getElem?_append_right (Nat.le_refl _)];simp
  ·rintro (hx | hx)
   ·have:=hh.lt _ hx;have:=aj.size;omega
   ·omega
end
section
open Go Go.W
section
variable {α:Type}
theorem SY (k:ByteArray):gO ([]:List (ByteArray×α)) k=[]:=by simp [gO]
theorem SZ (p:ByteArray×α) (l:List (ByteArray×α)) (k:ByteArray):gO (p::l) k=if p.1=k then l else p::gO l k:=by
 unfold gO;rw [List.findIdx?_cons];by_cases h:p.1=k
 ·simp [h]
 ·simp only [h,decide_false,if_false];cases l.findIdx? (fun p=>decide (p.1=k))<;>simp
abbrev Uq (l:List (ByteArray×α)):Prop:=(l.map (·.1)).Nodup
theorem Lw (l:List (ByteArray×α)) (k:ByteArray):aG l k=none↔k∉l.map (·.1):=by
 induction l with
 | nil=>simp [K5]
 | cons p l ih=>
  rw [px];by_cases h:p.1=k
  ·simp [h]
  ·rw [if_neg h,ih];simp only [List.map_cons,List.mem_cons,not_or];exact ⟨fun hh=>⟨fun e=>h e.symm,hh⟩,fun hh=>hh.2⟩
theorem afe (l:List (ByteArray×α)) (k:ByteArray) (v:α):∀ x,x∈(bO l k v).map (·.1)→x=k∨x∈l.map (·.1):=by
 intro x hx;by_cases h:k=x
 ·exact .inl h.symm
 ·right
  apply Classical.byContradiction;intro hn;have h1:=(Lw l x).2 hn;have h2:aG (bO l k v) x=none:=by rw [jE,if_neg h];exact h1
  exact (Lw _ _).1 h2 hx
theorem FM {l:List (ByteArray×α)} (h:Uq l) (k:ByteArray) (v:α):Uq (bO l k v):=by
 induction l with
 | nil=>rw [RX];simp [Uq]
 | cons p l ih=>
  rw [RY];have h1:p.1∉l.map (·.1)∧Uq l:=by simpa [Uq] using h
  split
  ·rename_i e;have:k∉l.map (·.1)∧Uq l:=by rw [← e];exact h1
   simpa [Uq] using this
  ·rename_i e
   have:p.1∉(bO l k v).map (·.1)∧Uq (bO l k v):=⟨fun hm=>by
    rcases afe l k v _ hm with h2 | h2
    ·exact e h2
    ·exact h1.1 h2,ih h1.2⟩
   simpa [Uq] using this
theorem aff (l:List (ByteArray×α)) (k:ByteArray):∀ x,x∈(gO l k).map (·.1)→x∈l.map (·.1):=by
 intro x hx;obtain ⟨p,hp,rfl⟩:=List.mem_map.1 hx;exact List.mem_map_of_mem (Qp hp)
theorem Lx {l:List (ByteArray×α)} (h:Uq l) (k:ByteArray):Uq (gO l k):=by
 induction l with
 | nil=>rw [SY];simp [Uq]
 | cons p l ih=>
  rw [SZ];have h1:p.1∉l.map (·.1)∧Uq l:=by simpa [Uq] using h
  split
  ·exact h1.2
  ·have:p.1∉(gO l k).map (·.1)∧Uq (gO l k):=⟨fun hm=>h1.1 (aff l k _ hm),ih h1.2⟩
   simpa [Uq] using this
theorem S9 {l:List (ByteArray×α)} (h:Uq l) (k x:ByteArray):aG (gO l k) x=if k=x then none else aG l x:=by
 induction l with
 | nil=>rw [SY];simp [K5]
 | cons p l ih=>
  have h1:p.1∉l.map (·.1)∧Uq l:=by simpa [Uq] using h
  rw [SZ];by_cases e:p.1=k
  ·rw [if_pos e];by_cases e2:k=x
   ·rw [if_pos e2,(Lw l x).2 (by rw [← e2,← e];exact h1.1)]
   ·rw [if_neg e2,px,if_neg (by rw [e];exact e2)]
  ·rw [if_neg e,px,ih h1.2,px];by_cases e2:p.1=x
   ·rw [if_pos e2,if_neg (fun h=>e (by rw [h,e2])),if_pos e2]
   ·rw [if_neg e2,if_neg e2]
end
structure gU (E:Env) (st:St):Prop where
 dT:df E st.2
 uq:Uq st.2
 gF:∀ x,has st.1 x=false→aG st.2 x=none
structure Kp (E:Env) (st dQ:St):Prop where
 ok:gU E dQ
 same:∀ x,aG dQ.2 x=aG st.2 x
 more:∀ x,has dQ.1 x=false→has st.1 x=false
theorem Kp.refl {E:Env} {st:St} (h:gU E st):Kp E st st:=⟨h,fun _=>rfl,fun _ h=>h⟩
theorem Kp.trans {E:Env} {a b c:St} (h:Kp E a b) (k:Kp E b c):Kp E a c:=⟨k.ok,fun x=>(k.same x).trans (h.same x),fun x hx=>h.more x (k.more x hx)⟩
theorem qv (l:bM) (n x:ByteArray):has (bO l n 1) x=(decide (n=x)||has l x):=by
 unfold has;rw [jE];by_cases h:n=x<;>simp [h]
theorem Ly {E:Env} {b:Bd} {bd dN:bM} (h:jv E b bd = .ok dN):has bd b.name=false∧dN=bO bd b.name 1:=by
 unfold jv at h
 split at h
 ·cases h
 ·rename_i hn
  split at h
  ·cases h;simp only [Bool.or_eq_true,not_or] at hn;exact ⟨by simpa using hn.2,rfl⟩
  ·cases h
theorem CR {E:Env}:∀ (l:List Bd) (bd dN:bM),jx E l bd = .ok dN→(∀ b∈l,has bd b.name=false∧Good E b.type)∧(∀ x,has dN x=false→has bd x=false∧∀ b∈l,b.name≠x)
 | [],bd,dN,h=>by rw [jx] at h;cases h;exact ⟨fun b hb=>(by cases hb),fun x hx=>⟨hx,fun b hb=>(by cases hb)⟩⟩
 | b::l,bd,dN,h=>by
  rw [jx] at h
  split at h
  ·cases h
  ·rename_i bd1 h1;obtain ⟨a1,a2⟩:=Ly h1;obtain ⟨b1,b2⟩:=CR l bd1 dN h;subst a2;refine ⟨fun c hc=>?_,fun x hx=>?_⟩
   ·rcases List.mem_cons.1 hc with rfl | hc
    ·exact ⟨a1,zV h1⟩
    ·have:=(b1 c hc).1;rw [qv] at this;simp only [Bool.or_eq_false_iff] at this;exact ⟨this.2,(b1 c hc).2⟩
   ·obtain ⟨c1,c2⟩:=b2 x hx;rw [qv] at c1;simp only [Bool.or_eq_false_iff,decide_eq_false_iff_not] at c1;refine ⟨c1.2,fun c hc=>?_⟩;rcases List.mem_cons.1 hc with rfl | hc
    ·exact c1.1
    ·exact c2 c hc
abbrev Gm:=ByteArray→Option Ty
def qw (Γ:Gm) (n:ByteArray) (t:Ty):Gm:=fun x=>if n=x then some t else Γ x
def kM:List Bd→Gm→Gm
 | [],Γ=>Γ
 | b::l,Γ=>kM l (qw Γ b.name b.type)
theorem uO:∀ (l:List Bd) (lc:Loc) (x:ByteArray),aG (cm l lc) x=kM l (aG lc) x
 | [],lc,x=>rfl
 | b::l,lc,x=>by
  rw [cm,uO l,kM];have:aG (bO lc b.name b.type)=qw (aG lc) b.name b.type:=by
   funext y;rw [jE];try rfl
  rw [this]
theorem wB:∀ (l:List Bd) (Γ:Gm) (x:ByteArray),(∀ b∈l,b.name≠x)→kM l Γ x=Γ x
 | [],Γ,x,_=>rfl
 | b::l,Γ,x,h=>by
  rw [kM,wB l _ x (fun c hc=>h c (by simp [hc]))];exact if_neg (h b (by simp))
theorem afg:∀ (l:List Bd) (Γ:Gm) (x:ByteArray),kM l (kM l Γ) x=kM l Γ x:=by
 have key:∀ (l:List Bd) (Γ FN:Gm) (x:ByteArray),Γ x=FN x∨(∃ b∈l,b.name=x)→kM l Γ x=kM l FN x:=by
  intro l
  induction l with
  | nil => intro Γ FN x h; rcases h with h | ⟨b, hb, _⟩
           ·exact h
           ·cases hb
  | cons b l ih=>
   intro Γ FN x h;rw [kM,kM];apply ih;by_cases hn:b.name=x
   ·left;unfold qw;rw [if_pos hn,if_pos hn]
   ·rcases h with h | ⟨c,hc,h⟩
    ·left;unfold qw;rw [if_neg hn,if_neg hn];exact h
    ·rcases List.mem_cons.1 hc with rfl | hc
     ·exact absurd h hn
     ·exact .inr ⟨c,hc,h⟩
 intro l Γ x;apply key;by_cases h:∃ b∈l,b.name=x
 ·exact .inr h
 ·left
  exact wB l Γ x (fun b hb e=>h ⟨b,hb,e⟩)
theorem FO:∀ (l:List Bd) {lc:Loc},Uq lc→Uq (cm l lc)
 | [],_,h=>h
 | b::l,_,h=>FO l (FM h _ _)
theorem Lz:∀ (l:List ByteArray) {lc:Loc},Uq lc→Uq (iH l lc)
 | [],_,h=>h
 | s::l,_,h=>Lz l (Lx h _)
theorem CS:∀ (l:List ByteArray) {lc:Loc},Uq lc→∀ x,(x∈l→aG (iH l lc) x=none)∧(x∉l→aG (iH l lc) x=aG lc x)
 | [],_,_,x=>⟨fun h=>(by cases h),fun _=>rfl⟩
 | s::l,lc,h,x=>by
  obtain ⟨h1,h2⟩:=CS l (Lx h s) x;rw [iH];rw [S9 h] at h2;by_cases hm:x∈l
  ·exact ⟨fun _=>h1 hm,fun hn=>absurd (List.mem_cons_of_mem _ hm) hn⟩
  ·by_cases hs:s=x
   ·rw [if_pos hs] at h2;exact ⟨fun _=>h2 hm,fun hn=>absurd (by rw [hs];simp) hn⟩
   ·rw [if_neg hs] at h2;refine ⟨fun hc=>?_,fun _=>h2 hm⟩;rcases List.mem_cons.1 hc with e | e
    ·exact absurd e.symm hs
    ·exact absurd e hm
def FP (E:Env) (e:Ex):Prop:=∀ st y,gU E st→cj E e st = .ok y→Kp E st y.2
section
variable {E:Env}
theorem yG:∀ (l:List Ex),(∀ u∈l,FP E u)→∀ st y,gU E st→cG E l st = .ok y→Kp E st y.2
 | [],_,st,y,hs,h=>by rw [cG] at h;cases h;exact .refl hs
 | e::l,hg,st,y,hs,h=>by
  rw [cG] at h
  split at h
  ·cases h
  ·rename_i y1 h1;have k1:=hg e (by simp) st y1 hs h1
   split at h
   ·cases h
   ·rename_i z h2;cases h;exact k1.trans (yG l (fun u hu=>hg u (by simp [hu])) _ z k1.ok h2)
theorem LA:∀ (l:List Bd),(∀ b∈l,FP E b.value)→∀ st y,gU E st→jc E l st = .ok y→Kp E st y
 | [],_,st,y,hs,h=>by rw [jc] at h;cases h;exact .refl hs
 | b::l,hg,st,y,hs,h=>by
  rw [B5] at h
  split at h
  ·cases h
  ·rename_i y1 h1;have k1:=hg b (by simp) st y1 hs h1
   split at h
   ·exact k1.trans (LA l (fun u hu=>hg u (by simp [hu])) _ _ k1.ok h)
   ·cases h
def oS (ps:List ByteArray) (bs:List Ty):List ByteArray→List Ty→Gm→Gm
 | s::l,f::fs,Γ=>oS ps bs l fs (qw Γ s (eX ps bs f).1)
 | _,_,Γ=>Γ
theorem Ta {ps:List ByteArray} {bs:List Ty}:∀ (vs:List ByteArray) (fs:List Ty) (lc gG:Loc),ij ps bs vs fs lc = .ok gG→(∀ x,aG gG x=oS ps bs vs fs (aG lc) x)∧(Uq lc→Uq gG)
 | s::l,f::fs,lc,gG,h=>by
  rw [ij] at h
  split at h
  ·obtain ⟨h1,h2⟩:=Ta l fs _ _ h;refine ⟨fun x=>?_,fun hu=>h2 (FM hu _ _)⟩;rw [h1,oS];have:aG (bO lc s (eX ps bs f).1)=qw (aG lc) s (eX ps bs f).1:=by
    funext y;rw [jE];try rfl
   rw [this]
  ·cases h
 | [],_,lc,gG,h=>by
  rw [ij] at h
  ·cases h;exact ⟨fun x=>(by rw [oS];simp),fun h=>h⟩
  ·simp
 | s::l,[],lc,gG,h=>by
  rw [ij] at h
  ·cases h;exact ⟨fun x=>(by rw [oS];simp),fun h=>h⟩
  ·simp
theorem LB {ps:List ByteArray} {bs:List Ty}:∀ (vs:List ByteArray) (fs:List Ty) (Γ:Gm) (x:ByteArray),x∉vs→oS ps bs vs fs Γ x=Γ x
 | s::l,f::fs,Γ,x,h=>by
  rw [oS,LB l fs _ x (fun hh=>h (by simp [hh]))];exact if_neg (fun e=>h (by simp [e]))
 | [],_,Γ,x,h=>by rw [oS];simp
 | s::l,[],Γ,x,h=>by rw [oS];simp
theorem Tb:∀ (l:List ByteArray) (bd dN:bM),nG l bd = .ok dN→(∀ s∈l,has bd s=false)∧(∀ x,has dN x=false→has bd x=false∧x∉l)
 | [],bd,dN,h=>by rw [nG] at h;cases h;exact ⟨fun b hb=>(by cases hb),fun x hx=>⟨hx,by simp⟩⟩
 | s::l,bd,dN,h=>by
  rw [nG] at h
  split at h
  ·cases h
  ·rename_i hn;simp only [Bool.or_eq_true,not_or] at hn;obtain ⟨b1,b2⟩:=Tb l _ dN h;refine ⟨fun c hc=>?_,fun x hx=>?_⟩
   ·rcases List.mem_cons.1 hc with rfl | hc
    ·simpa using hn.2
    ·have:=b1 c hc;rw [qv] at this;simp only [Bool.or_eq_false_iff] at this;exact this.2
   ·obtain ⟨c1,c2⟩:=b2 x hx;rw [qv] at c1;simp only [Bool.or_eq_false_iff,decide_eq_false_iff_not] at c1
    exact ⟨c1.2,fun hc=>by
     rcases List.mem_cons.1 hc with rfl | hc
     ·exact c1.1 rfl
     ·exact c2 hc⟩
theorem Tc {of:Ty} (hE:lq E) (eS:Good E of) {a:Al} (hk:a.kind=1→of.kind=4) {st:St} {y:Ty×St} (hs:gU E st) (h:mT E of a.kind a.aZ a.vars (cj E a.body) st = .ok y) :
   (a.kind≠1∧cj E a.body st = .ok y) ∨
   (a.kind=1∧∃ x dG y1,aG E.cons a.aZ=some x∧x.1.name=of.name∧(dk x.1 x.2).length=a.vars.length∧gU E dG∧(∀ s,aG dG.2 s=oS x.1.params of.args a.vars (dk x.1 x.2) (aG st.2) s) ∧
    cj E a.body dG = .ok y1∧y1.1=y.1∧(Kp E dG y1.2→Kp E st y.2)∧ij x.1.params of.args a.vars (dk x.1 x.2) st.2 = .ok dG.2):=by
 unfold mT at h
 split at h
 ·rename_i bo;exact .inl ⟨by simpa using bo,h⟩
 ·rename_i bo;have iI:a.kind=1:=by simpa using bo
  right
  refine ⟨iI,?_⟩
  split at h
  ·cases h
  ·rename_i x hx
   split at h
   ·cases h
   ·rename_i hn;have jr:x.1.name=of.name:=by
     have h1:aQ x.1.name of.name=true:=by simpa using hn
     rw [oD] at h1
     simpa using h1
    split at h
    ·cases h
    ·rename_i hl;have hlen:(dk x.1 x.2).length=a.vars.length:=by
      have:((dk x.1 x.2).length:Int)=a.vars.length:=by simpa using hl
      omega
     split at h
     ·cases h
     ·rename_i bd dF
      split at h
      ·cases h
      ·rename_i lc p6
       split at h
       ·cases h
       ·rename_i y1 yg;cases h;obtain ⟨v1,v2⟩:=Tb _ _ _ dF;obtain ⟨p1,p2⟩:=Ta _ _ _ _ p6;obtain ⟨⟨d,y9,DQ⟩,hw⟩:=hE.cons _ _ hx;have hb:∀ b∈of.args,Good E b:=fun b hb=>B3 eS hb
        have hle:x.1.params.length≤of.args.length:=by
         have:=eS.1;rw [of.oK,hk iI,Bool.and_eq_true,Bool.and_eq_true] at this;have h3:=this.1.2;have h4:dy E of.name of.args.length=false:=by simpa using h3
         unfold dy at h4;rw [← jr,y9] at h4;have h5:(d.params.length:Int)=of.args.length:=by simpa using h4
         omega
        have fM:gU E (bd,lc):=⟨J3 hb hle _ _ hw _ _ hs.dT p6,p2 hs.uq,fun z hz=>by
         obtain ⟨q1,q2⟩:=v2 z hz;show aG lc z=none;rw [p1,LB _ _ _ _ q2]
         exact hs.gF z q1⟩
        refine ⟨x,(bd,lc),y1,hx,jr,hlen,fM,p1,yg,rfl,fun xx=>?_,p6⟩;have nS:∀ z,aG (iH a.vars y1.2.2) z=aG st.2 z:=fun z=>by
         by_cases hz:z∈a.vars
         ·rw [(CS _ xx.ok.uq z).1 hz];exact (hs.gF z (v1 z hz)).symm
         ·rw [(CS _ xx.ok.uq z).2 hz,xx.same];show aG lc z=_;rw [p1,LB _ _ _ _ hz]
        have wC:∀ z,has y1.2.1 z=false→has st.1 z=false:=fun z hz=>(v2 z (xx.more z hz)).1
        exact ⟨⟨xx.ok.dT.iH _,Lz _ xx.ok.uq,fun z hz=>by rw [nS];exact hs.gF z (wC z hz)⟩,nS,wC⟩
theorem LC (hE:lq E) {all:List Al} {of:Ty} (eS:Good E of):∀ (l:List Al) (i:Nat),all.drop i=l→(∀ a∈l,FP E a.body)→∀ (first:Ty) (st:St) (y:Ty×St),gU E st→fV E all of l i first st = .ok y→Kp E st y.2
 | [],i,_,_,first,st,y,hs,h=>by rw [fV] at h;cases h;exact .refl hs
 | a::l,i,hd,hg,first,st,y,hs,h=>by
  have hi:i < all.length:=by
   apply Classical.byContradiction;intro hn;rw [List.drop_eq_nil_of_le (by omega)] at hd;cases hd
  rw [List.drop_eq_getElem_cons hi] at hd
  injection hd with ha fc
  rw [B4] at h
  split at h
  ·cases h
  ·rename_i mU;have mU:l9 all i of=true:=by simpa using mU
   have hk:a.kind=1→of.kind=4:=fun hk=>ED (a:=a) (by rw [List.getElem?_eq_getElem hi,ha]) mU hk
   split at h
   ·cases h
   ·rename_i y1 h1;have k1:Kp E st y1.2:=by
     rcases Tc hE eS hk hs h1 with ⟨_,h2⟩ | ⟨_,x,dG,y2,_,_,_,CT,_,h2,_,h3,_⟩
     ·exact hg a (by simp) _ _ hs h2
     ·exact h3 (hg a (by simp) _ _ CT h2)
    split at h
    ·exact k1.trans (LC hE eS l (i+1) fc (fun b hb=>hg b (by simp [hb])) _ _ _ k1.ok h)
    ·split at h
     ·exact k1.trans (LC hE eS l (i+1) fc (fun b hb=>hg b (by simp [hb])) _ _ _ k1.ok h)
     ·cases h
theorem gU.cm {st:St} (hs:gU E st) {l:List Bd} {bd:bM} (h:jx E l st.1 = .ok bd) {dN:bM} (hm:∀ x,has dN x=false→has bd x=false):gU E (dN,cm l st.2):=by
 obtain ⟨b1,b2⟩:=CR _ _ _ h;refine ⟨hs.dT.cm l (fun b hb=>(b1 b hb).2),FO l hs.uq,fun x hx=>?_⟩;obtain ⟨c1,c2⟩:=b2 x (hm x hx);show aG (Go.Proofs.YtjfgeekjjlhbdaaGreatDoor.cm l st.2) x=none;rw [uO,wB _ _ _ c2];exact hs.gF x c1
theorem Kp.lm {st wD:St} (hs:gU E st) {l:List Bd} {bd:bM} (h:jx E l st.1 = .ok bd) (h3:gU E wD) (nS:∀ x,(∀ b∈l,b.name≠x)→aG wD.2 x=aG st.2 x) (hm:∀ x,has wD.1 x=false→has bd x=false):Kp E st (wD.1,lm l wD.2):=by
 obtain ⟨b1,b2⟩:=CR _ _ _ h;have bK:∀ x,aG (Go.Proofs.YtjfgeekjjlhbdaaGreatDoor.lm l wD.2) x=aG st.2 x:=fun x=>by
  unfold Go.Proofs.YtjfgeekjjlhbdaaGreatDoor.lm;by_cases hx:x∈l.map Bd.name
  ·rw [(CS _ h3.uq x).1 hx];obtain ⟨b,hb,rfl⟩:=List.mem_map.1 hx;exact (hs.gF _ (b1 b hb).1).symm
  ·rw [(CS _ h3.uq x).2 hx];exact nS x (fun b hb e=>hx (by rw [← e];exact List.mem_map_of_mem hb))
 have wC:∀ x,has wD.1 x=false→has st.1 x=false:=fun x hx=>(b2 x (hm x hx)).1
 exact ⟨⟨h3.dT.iH _,Lz _ h3.uq,fun x hx=>by
  show aG (Go.Proofs.YtjfgeekjjlhbdaaGreatDoor.lm l wD.2) x=none
  rw [bK];exact hs.gF x (wC x hx)⟩,bK,wC⟩
end
end
section
open Go Go.W
section
variable {E:Env}
theorem AD (hE:lq E) (hb:dy E iR 0=false) (e:Ex):FP E e:=by
 induction e using Ex.ind with
 | h e fN oL pf=>
 intro st y hs h;have ajZ:=(sR hE hb e st y hs.dT h).2;rw [lu] at h;by_cases hf:j5 e=false
 ·rw [if_pos hf] at h;cases h
 rw [if_neg hf] at h;have F:=B6 (by simpa using hf);by_cases hk:e.kind=1
 ·rw [if_pos hk] at h
  split at h
  ·cases h
  ·cases h;exact .refl hs
 rw [if_neg hk] at h;by_cases hk:e.kind=2
 ·rw [if_pos hk] at h;cases h;exact .refl hs
 rw [if_neg hk] at h;by_cases hk:e.kind=3
 ·rw [if_pos hk] at h
  split at h
  ·cases h
  ·obtain ⟨t,ht,rfl⟩:=nI h;exact .refl hs
 rw [if_neg hk] at h;by_cases hk:e.kind=4
 ·rw [if_pos hk] at h
  split at h
  ·cases h
  ·obtain ⟨t,ht,rfl⟩:=nI h;exact .refl hs
 rw [if_neg hk] at h;by_cases hk:e.kind=12
 ·rw [if_pos hk] at h
  split at h
  ·cases h
  ·split at h
   ·cases h;exact .refl hs
   ·cases h
 rw [if_neg hk] at h;by_cases hk:e.kind=5
 ·rw [if_pos hk] at h
  split at h
  ·cases h
  ·rename_i y1 h1;obtain ⟨t,ht,rfl⟩:=nI h;exact yG _ fN _ _ hs h1
 rw [if_neg hk] at h;by_cases hk:e.kind=9
 ·rw [if_pos hk] at h
  split at h
  ·cases h
  ·rename_i y1 h1;obtain ⟨t,ht,rfl⟩:=nI h;exact yG _ fN _ _ hs h1
 rw [if_neg hk] at h;by_cases hk:e.kind=10
 ·rw [if_pos hk] at h
  split at h
  ·cases h
  ·rename_i y1 h1;cases h;exact yG _ fN _ _ hs h1
 rw [if_neg hk] at h;by_cases hk:e.kind=6
 ·rw [if_pos hk] at h
  split at h
  ·cases h
  ·rename_i b bs dM
   split at h
   ·cases h
   ·rename_i bd h1
    split at h
    ·cases h
    ·rename_i y1 h2;obtain ⟨t,ht,rfl⟩:=nI h;obtain ⟨a1,a2⟩:=Ly h1
     have fM:gU E (bd,bO st.2 b.name b.type):=⟨hs.dT.put (zV h1),FM hs.uq _ _,fun x hx=>by
      have hx:has bd x=false:=hx;rw [a2,qv,Bool.or_eq_false_iff,decide_eq_false_iff_not] at hx;show aG (bO st.2 b.name b.type) x=none
      rw [jE,if_neg hx.1];exact hs.gF x hx.2⟩
     have k:=yG _ fN _ _ fM h2;have nS:∀ x,aG (gO y1.2.2 b.name) x=aG st.2 x:=fun x=>by
      rw [S9 k.ok.uq];by_cases hx:b.name=x
      ·rw [if_pos hx];subst hx;exact (hs.gF _ a1).symm
      ·rw [if_neg hx,k.same];show aG (bO st.2 b.name b.type) x=_;rw [jE,if_neg hx]
     have wC:∀ x,has y1.2.1 x=false→has st.1 x=false:=fun x hx=>by
      have:=k.more x hx;have this:has bd x=false:=this;rw [a2,qv,Bool.or_eq_false_iff] at this;exact this.2
     exact ⟨⟨k.ok.dT.del _,Lx k.ok.uq _,fun x hx=>by rw [nS];exact hs.gF x (wC x hx)⟩,nS,wC⟩
 rw [if_neg hk] at h;by_cases hk:e.kind=7∨e.kind=11
 ·rw [if_pos hk] at h
  split at h
  ·cases h
  ·rename_i bd h1
   split at h
   ·cases h
   ·rename_i bV h2
    split at h
    ·cases h
    ·rename_i y1 h3;cases h;obtain ⟨b1,b2⟩:=CR _ _ _ h1;have jo:gU E (bd,st.2):=⟨hs.dT,hs.uq,fun x hx=>hs.gF x (b2 x hx).1⟩;have fM:gU E (bd,if e.kind=7 then cm e.binds st.2 else st.2):=by
      by_cases h7:e.kind=7
      ·rw [if_pos h7];exact hs.cm h1 (fun _ h=>h)
      ·rw [if_neg h7];exact jo
     have k1:=LA _ oL _ _ fM h2;have Td:∀ x,(∀ b∈e.binds,b.name≠x)→aG bV.2 x=aG st.2 x:=fun x hx=>by
      rw [k1.same];show aG (if e.kind=7 then cm e.binds st.2 else st.2) x=_;by_cases h7:e.kind=7
      ·rw [if_pos h7,uO,wB _ _ _ hx]
      ·rw [if_neg h7]
     have afh:gU E (bV.1,cm e.binds bV.2):=⟨k1.ok.dT.cm _ (fun b hb=>(b1 b hb).2),FO _ k1.ok.uq,fun x hx=>by
      obtain ⟨c1,c2⟩:=b2 x (k1.more x hx);show aG (cm e.binds bV.2) x=none;rw [uO,wB _ _ _ c2,Td x c2]
      exact hs.gF x c1⟩
     have k2:=yG _ fN _ _ afh h3;refine Kp.lm hs h1 k2.ok (fun x hx=>?_) (fun x hx=>k1.more x (k2.more x hx));rw [k2.same];show aG (cm e.binds bV.2) x=_;rw [uO,wB _ _ _ hx];exact Td x hx
 rw [if_neg hk] at h
 split at h
 ·cases h
 ·rename_i y1 h1;have k1:=yG _ fN _ _ hs h1
  split at h
  ·cases h
  ·have hl:e.args.length=1:=F.a1 (by have:=F.vB;omega);obtain ⟨g1,g2,g3⟩:=vP e.args (fun u _=>sR hE hb u) _ _ hs.dT h1;have eS:Good E (y1.1.headD default):=by
    cases hy:y1.1 with
    | nil=>rw [hy] at g3;simp at g3;omega
    | cons t ts=>exact g1 t (by rw [hy];simp)
   exact k1.trans (LC hE eS e.alts 0 rfl pf _ _ _ k1.ok h)
def dY (E:Env) (Γ:Gm) (e:Ex) (T:Ty):Prop:=∃ st y,gU E st∧(∀ x,aG st.2 x=Γ x)∧cj E e st = .ok y∧y.1=T
theorem Te {st:St} {Γ:Gm} (h:∀ x,aG st.2 x=Γ x):aG st.2=Γ:=funext h
variable {Γ:Gm} {e:Ex} {T:Ty}
theorem LD (h:dY E Γ e T):j5 e=true:=by
 obtain ⟨st,y,_,_,h,_⟩:=h;rw [lu] at h;by_cases hf:j5 e=false
 ·rw [if_pos hf] at h;cases h
 ·simpa using hf
theorem tm {k:Int} (h:dY E Γ e T) (hk:e.kind=k):∃ st y,gU E st∧(∀ x,aG st.2 x=Γ x)∧y.1=T∧Qu e∧cj E e st = .ok y∧((Except.ok y:Except Int (Ty×St)) =
   if k=1 then (match aG st.2 e.name with | none=>.error 82 | some t=>.ok (t,st))
   else if k=2 then .ok (.mk 1 bI [],st)
   else if k=3 then (match aG E.ak e.name with | none=>.error 82 | some d=>(iF E d.type d.params e.types).map (fun t=>(t,st)))
   else if k=4 then (match aG E.cons e.name with | none=>.error 82 | some x=>(iF E (qY x.1 x.2) x.1.params e.types).map (fun t=>(t,st)))
   else if k=12 then (match e.types with | []=>.error 84 | t::_=>if fB E t=true then .ok (t,st) else .error 83)
   else if k=5 then (match cG E e.args st with | .error x=>.error x | .ok y=>(nH E y.1).map (fun t=>(t,y.2)))
   else if k=9 then (match cG E e.args st with | .error x=>.error x | .ok y=>(oJ e.name y.1).map (fun t=>(t,y.2)))
   else if k=10 then (match cG E e.args st with | .error x=>.error x | .ok y=>.ok (y.1.getLastD default,y.2))
   else if k=6 then (match e.binds with
    | []=>.error 84
    | b::_=>match jv E b st.1 with
     | .error x=>.error x
     | .ok bd=>match cG E e.args (bd,bO st.2 b.name b.type) with
      | .error x=>.error x
      | .ok y=>(pZ b y.1).map (fun t=>(t,(y.2.1,gO y.2.2 b.name))))
   else if k=7∨k=11 then (match jx E e.binds st.1 with
    | .error x=>.error x
    | .ok bd=>match jc E e.binds (bd,if k=7 then cm e.binds st.2 else st.2) with
     | .error x=>.error x
     | .ok bV=>match cG E e.args (bV.1,cm e.binds bV.2) with
      | .error x=>.error x
      | .ok y=>.ok (y.1.headD default,(y.2.1,lm e.binds y.2.2)))
   else match cG E e.args st with
    | .error x=>.error x
    | .ok y=>if ((y.1.headD default).kind != 1&&(y.1.headD default).kind != 4)=true then .error 83 else fV E e.alts (y.1.headD default) e.alts 0 default y.2):=by
 have hf:=LD h;obtain ⟨st,y,hs,hg,hx,hT⟩:=h;refine ⟨st,y,hs,hg,hT,B6 hf,hx,?_⟩;rw [lu,if_neg (by rw [hf];simp),hk] at hx;exact hx.symm
theorem Tf (h:dY E Γ e T) (hk:e.kind=1):Γ e.name=some T:=by
 obtain ⟨st,y,hs,hg,rfl,F,_,hx⟩:=tm h hk;rw [if_pos rfl] at hx
 split at hx
 ·cases hx
 ·rename_i t ht;cases hx;rw [← hg,ht]
theorem afi (h:dY E Γ e T) (hk:e.kind=2):T = .mk 1 bI []:=by
 obtain ⟨st,y,hs,hg,rfl,F,_,hx⟩:=tm h hk;rw [if_neg (by decide),if_pos rfl] at hx;cases hx;rfl
theorem Tg (h:dY E Γ e T) (hk:e.kind=3):∃ d,aG E.ak e.name=some d∧iF E d.type d.params e.types = .ok T:=by
 obtain ⟨st,y,hs,hg,rfl,F,_,hx⟩:=tm h hk;rw [if_neg (by decide),if_neg (by decide),if_pos rfl] at hx
 split at hx
 ·cases hx
 ·rename_i d hd;obtain ⟨t,ht,rfl⟩:=nI hx.symm;exact ⟨d,hd,ht⟩
theorem afj (h:dY E Γ e T) (hk:e.kind=4):∃ x,aG E.cons e.name=some x∧iF E (qY x.1 x.2) x.1.params e.types = .ok T:=by
 obtain ⟨st,y,hs,hg,rfl,F,_,hx⟩:=tm h hk;rw [if_neg (by decide),if_neg (by decide),if_neg (by decide),if_pos rfl] at hx
 split at hx
 ·cases hx
 ·rename_i d hd;obtain ⟨t,ht,rfl⟩:=nI hx.symm;exact ⟨d,hd,ht⟩
theorem afk (h:dY E Γ e T) (hk:e.kind=12):1≤e.num∧e.num≤4:=by
 have hf:=Qt (LD h);unfold gi at hf;rw [hk] at hf;have:((eO e 1 0 0 0&&decide (e.num≥1))&&decide (e.num≤4))=true:=hf;simp only [Bool.and_eq_true,decide_eq_true_eq] at this;exact ⟨this.1.2,this.2⟩
theorem CU {α:Type} {l:List α} (h:l.length=2):∃ a b,l=[a,b]:=by
 match l,h with
 | [a,b],_=>exact ⟨a,b,rfl⟩
theorem AE {α:Type} {l:List α} (h:l.length=1):∃ a,l=[a]:=by
 match l,h with
 | [a],_=>exact ⟨a,rfl⟩
theorem afl {a b:Ex} {st:St} {y:List Ty×St} (h:cG E [a,b] st = .ok y):∃ y1 y2,cj E a st = .ok y1∧cj E b y1.2 = .ok y2∧y=([y1.1,y2.1],y2.2):=by
 rw [cG] at h
 split at h
 ·cases h
 ·rename_i y1 h1;rw [cG] at h
  split at h
  ·cases h
  ·rename_i z h2
   split at h2
   ·cases h2
   ·rename_i y2 h3;rw [cG] at h2;cases h2;cases h;exact ⟨y1,y2,h1,h3,rfl⟩
theorem LF {a:Ex} {st:St} {y:List Ty×St} (h:cG E [a] st = .ok y):∃ y1,cj E a st = .ok y1∧y=([y1.1],y1.2):=by
 rw [cG] at h
 split at h
 ·cases h
 ·rename_i y1 h1;rw [cG] at h;cases h;exact ⟨y1,h1,rfl⟩
variable (hE:lq E) (hb:dy E iR 0=false)
include hE hb
theorem LG (h:dY E Γ e T):Good E T:=by
 obtain ⟨st,y,hs,hg,hx,rfl⟩:=h;exact (sR hE hb e st y hs.dT hx).1
theorem LH {st:St} {a b:Ex} (hs:gU E st) (hg:∀ x,aG st.2 x=Γ x) {y:List Ty×St} (h:cG E [a,b] st = .ok y):∃ A B,dY E Γ a A∧dY E Γ b B∧y.1=[A,B]:=by
 obtain ⟨y1,y2,h1,h2,rfl⟩:=afl h;have k:=AD hE hb a st y1 hs h1;exact ⟨y1.1,y2.1,⟨st,y1,hs,hg,h1,rfl⟩,⟨y1.2,y2,k.ok,fun x=>(k.same x).trans (hg x),h2,rfl⟩,rfl⟩
theorem Th (h:dY E Γ e T) (hk:e.kind=5):∃ f x F A,e.args=[f,x]∧dY E Γ f F∧F.kind=3∧F.args=[A,T]∧dY E Γ x A:=by
 obtain ⟨st,y,hs,hg,rfl,F,_,hx⟩:=tm h hk;obtain ⟨f,x,ha⟩:=CU (F.a2 (.inl hk));simp only [show ¬ (5:Int)=1 by decide,show ¬ (5:Int)=2 by decide,show ¬ (5:Int)=3 by decide,show ¬ (5:Int)=4 by decide,show ¬ (5:Int)=12 by decide,if_false,if_true] at hx;rw [ha] at hx
 split at hx
 ·cases hx
 ·rename_i y1 h1;obtain ⟨A,B,c1,c2,e1⟩:=LH hE hb hs hg h1;obtain ⟨t,ht,rfl⟩:=nI hx.symm;rw [e1] at ht;unfold nH at ht;simp only at ht
  split at ht
  ·cases ht
  ·rename_i mW;have mW:A.kind=3:=by simpa using mW
   split at ht
   ·rename_i p q r bQ
    split at ht
    ·rename_i nS;cases ht;have hl:=J1 (LG hE hb c1).1 mW;rw [bQ] at hl;have hr:r=[]:=by simpa using hl
     subst hr;have hp:p=B:=by simpa [gg] using nS
     subst hp;exact ⟨f,x,A,p,ha,c1,mW,bQ,c2⟩
    ·cases ht
   ·cases ht
theorem Ti (h:dY E Γ e T) (hk:e.kind=9):∃ a b A B,e.args=[a,b]∧dY E Γ a A∧dY E Γ b B∧A.kind=1∧B.kind=1∧fS e.name=some T:=by
 obtain ⟨st,y,hs,hg,rfl,F,_,hx⟩:=tm h hk;obtain ⟨f,x,ha⟩:=CU (F.a2 (.inr (.inl hk)));simp only [show ¬ (9:Int)=1 by decide,show ¬ (9:Int)=2 by decide,show ¬ (9:Int)=3 by decide,show ¬ (9:Int)=4 by decide,show ¬ (9:Int)=12 by decide,show ¬ (9:Int)=5 by decide,if_false,if_true] at hx;rw [ha] at hx
 split at hx
 ·cases hx
 ·rename_i y1 h1;obtain ⟨A,B,c1,c2,e1⟩:=LH hE hb hs hg h1;obtain ⟨t,ht,rfl⟩:=nI hx.symm;rw [e1] at ht;unfold oJ at ht;simp only at ht
  split at ht
  ·cases ht
  ·rename_i mW;cases ht;simp only [Bool.or_eq_true,not_or] at mW;have ho:=F.op hk;refine ⟨f,x,A,B,ha,c1,c2,by simpa using mW.1,by simpa using mW.2,?_⟩;cases hq:fS e.name with
   | none=>rw [hq] at ho;cases ho
   | some u=>rfl
theorem Tj (h:dY E Γ e T) (hk:e.kind=10):∃ a b A,e.args=[a,b]∧dY E Γ a A∧dY E Γ b T:=by
 obtain ⟨st,y,hs,hg,rfl,F,_,hx⟩:=tm h hk;obtain ⟨f,x,ha⟩:=CU (F.a2 (.inr (.inr hk)));simp only [show ¬ (10:Int)=1 by decide,show ¬ (10:Int)=2 by decide,show ¬ (10:Int)=3 by decide,show ¬ (10:Int)=4 by decide,show ¬ (10:Int)=12 by decide,show ¬ (10:Int)=5 by decide,show ¬ (10:Int)=9 by decide,if_false,if_true] at hx;rw [ha] at hx
 split at hx
 ·cases hx
 ·rename_i y1 h1;obtain ⟨A,B,c1,c2,e1⟩:=LH hE hb hs hg h1;cases hx;rw [e1];exact ⟨f,x,A,ha,c1,c2⟩
omit hE hb in
theorem Tk (h:dY E Γ e T) (hk:e.kind=6):∃ b x t,e.binds=[b]∧e.args=[x]∧T=kB b.type t∧dY E (qw Γ b.name b.type) x t:=by
 obtain ⟨st,y,hs,hg,rfl,F,_,hx⟩:=tm h hk;obtain ⟨x,ha⟩:=AE (F.a1 (.inl hk));obtain ⟨b,dF⟩:=AE (F.b1 (.inl hk));simp only [show ¬ (6:Int)=1 by decide,show ¬ (6:Int)=2 by decide,show ¬ (6:Int)=3 by decide,show ¬ (6:Int)=4 by decide,show ¬ (6:Int)=12 by decide,show ¬ (6:Int)=5 by decide,show ¬ (6:Int)=9 by decide,show ¬ (6:Int)=10 by decide,if_false,if_true] at hx;rw [ha,dF] at hx;simp only at hx
 split at hx
 ·cases hx
 ·rename_i bd h1
  split at hx
  ·cases hx
  ·rename_i y1 h2;obtain ⟨t,ht,rfl⟩:=nI hx.symm;obtain ⟨a1,a2⟩:=Ly h1;obtain ⟨y2,h3,rfl⟩:=LF h2
   have fM:gU E (bd,bO st.2 b.name b.type):=⟨hs.dT.put (zV h1),FM hs.uq _ _,fun x hx=>by
    have hx:has bd x=false:=hx;rw [a2,qv,Bool.or_eq_false_iff,decide_eq_false_iff_not] at hx;show aG (bO st.2 b.name b.type) x=none
    rw [jE,if_neg hx.1];exact hs.gF x hx.2⟩
   unfold pZ at ht;simp only at ht
   split at ht
   ·cases ht
   ·cases ht;refine ⟨b,x,y2.1,dF,ha,rfl,_,y2,fM,fun z=>?_,h3,rfl⟩;show aG (bO st.2 b.name b.type) z=_;rw [jE,hg];try rfl
theorem Tl:∀ (l:List Bd) {st bV:St},gU E st→(∀ x,aG st.2 x=Γ x)→jc E l st = .ok bV→(∀ b∈l,dY E Γ b.value b.type)
 | [],st,bV,hs,hg,h=>fun b hb=>(by cases hb)
 | b::l,st,bV,hs,hg,h=>by
  rw [B5] at h
  split at h
  ·cases h
  ·rename_i y1 h1;have k:=AD hE hb b.value st y1 hs h1
   split at h
   ·rename_i nS;have:y1.1=b.type:=by simpa [gg] using nS
    intro c hc;rcases List.mem_cons.1 hc with rfl | hc
    ·exact ⟨st,y1,hs,hg,h1,this⟩
    ·exact Tl l k.ok (fun x=>(k.same x).trans (hg x)) h c hc
   ·cases h
theorem FQ (h:dY E Γ e T) (hk:e.kind=7∨e.kind=11):∃ x,e.args=[x]∧(∀ b∈e.binds,dY E (if e.kind=7 then kM e.binds Γ else Γ) b.value b.type)∧dY E (kM e.binds Γ) x T:=by
 obtain ⟨st,y,hs,hg,rfl,F,_,hx⟩:=tm h rfl;obtain ⟨x,ha⟩:=AE (F.a1 (by omega));have n:∀ k:Int,k≠7→k≠11→¬ e.kind=k:=fun k h1 h2=>by omega
 simp only [n 1 (by decide) (by decide),n 2 (by decide) (by decide),n 3 (by decide) (by decide),n 4 (by decide) (by decide),n 12 (by decide) (by decide),n 5 (by decide) (by decide),n 9 (by decide) (by decide),n 10 (by decide) (by decide),n 6 (by decide) (by decide),if_false,if_pos hk] at hx;rw [ha] at hx
 split at hx
 ·cases hx
 ·rename_i bd h1
  split at hx
  ·cases hx
  ·rename_i bV h2
   split at hx
   ·cases hx
   ·rename_i y1 h3;cases hx;obtain ⟨y2,h4,rfl⟩:=LF h3;obtain ⟨b1,b2⟩:=CR _ _ _ h1;have jo:gU E (bd,st.2):=⟨hs.dT,hs.uq,fun x hx=>hs.gF x (b2 x hx).1⟩;have fM:gU E (bd,if e.kind=7 then cm e.binds st.2 else st.2):=by
     by_cases h7:e.kind=7
     ·rw [if_pos h7];exact hs.cm h1 (fun _ h=>h)
     ·rw [if_neg h7];exact jo
    have k1:=LA _ (fun b _=>AD hE hb b.value) _ _ fM h2;have eu:∀ x,aG (if e.kind=7 then cm e.binds st.2 else st.2) x=(if e.kind=7 then kM e.binds Γ else Γ) x:=fun x=>by
     by_cases h7:e.kind=7
     ·rw [if_pos h7,if_pos h7,uO,Te hg]
     ·rw [if_neg h7,if_neg h7,hg]
    refine ⟨x,ha,Tl hE hb _ fM eu h2,_,y2,?_,fun z=>?_,h4,rfl⟩
    ·refine ⟨k1.ok.dT.cm _ (fun b hb=>(b1 b hb).2),FO _ k1.ok.uq,fun x hx=>?_⟩;obtain ⟨c1,c2⟩:=b2 x (k1.more x hx);show aG (cm e.binds bV.2) x=none;rw [uO,wB _ _ _ c2,k1.same];show aG (if e.kind=7 then cm e.binds st.2 else st.2) x=none;by_cases h7:e.kind=7
     ·rw [if_pos h7,uO,wB _ _ _ c2];exact hs.gF x c1
     ·rw [if_neg h7];exact hs.gF x c1
    ·show aG (cm e.binds bV.2) z=_;rw [uO];have e1:aG bV.2=if e.kind=7 then kM e.binds Γ else Γ:=funext fun x=>by rw [k1.same];exact eu x
     rw [e1];by_cases h7:e.kind=7
     ·rw [if_pos h7];exact afg _ _ _
     ·rw [if_neg h7]
def AF (E:Env) (Γ:Gm) (of T:Ty) (a:Al):Prop:=
 (a.kind=3∧dY E Γ a.body T)∨(a.kind=2∧of.kind=1∧dY E Γ a.body T) ∨
 (a.kind=1∧of.kind=4∧∃ x,aG E.cons a.aZ=some x∧x.1.name=of.name∧(dk x.1 x.2).length=a.vars.length∧(∀ f∈dk x.1 x.2,(eX x.1.params of.args f).2≥0)∧dY E (oS x.1.params of.args a.vars (dk x.1 x.2) Γ) a.body T)
omit hE hb in
theorem Tm {ps:List ByteArray} {bs:List Ty}:∀ (vs:List ByteArray) (fs:List Ty) (lc gG:Loc),fs.length=vs.length→ij ps bs vs fs lc = .ok gG→∀ f∈fs,(eX ps bs f).2≥0
 | s::l,f::fs,lc,gG,hl,h=>by
  rw [ij] at h
  split at h
  ·rename_i h1;intro g hg;rcases List.mem_cons.1 hg with rfl | hg
   ·exact h1
   ·exact Tm l fs _ _ (by simpa using hl) h g hg
  ·cases h
 | [],[],lc,gG,_,h=>fun f hf=>by cases hf
 | [],_::_,_,_,hl,_=>by simp at hl
 | _::_,[],_,_,hl,_=>by simp at hl
omit hE hb in
theorem afm {all:List Al} {i:Nat} {of:Ty} {a:Al} (ha:all[i]? = some a) (h:l9 all i of=true):(a.kind=1∧of.kind=4)∨(a.kind=2∧of.kind=1)∨a.kind=3:=by
 unfold l9 at h;rw [ha] at h;simp only at h
 split at h
 ·rename_i h1
  split at h
  ·cases h
  ·rename_i h2;simp only [Bool.or_eq_true,not_or] at h2;exact .inl ⟨by simpa using h1,by simpa using h2.2⟩
 ·split at h
  ·rename_i h1
   split at h
   ·cases h
   ·rename_i h2;simp only [Bool.or_eq_true,not_or] at h2;exact .inr (.inl ⟨by simpa using h1,by simpa using h2.1.1.2⟩)
  ·split at h
   ·rename_i h1;exact .inr (.inr (by simpa using h1))
   ·cases h
theorem LI {all:List Al} {of:Ty} (eS:Good E of):∀ (l:List Al) (i:Nat),all.drop i=l→∀ (first:Ty) (st:St) (y:Ty×St),gU E st→(∀ x,aG st.2 x=Γ x)→fV E all of l i first st = .ok y →
   (i≠0→y.1=first)∧∀ a∈l,AF E Γ of y.1 a
 | [],i,_,first,st,y,hs,hg,h=>by rw [fV] at h;cases h;exact ⟨fun _=>rfl,fun a ha=>(by cases ha)⟩
 | a::l,i,hd,first,st,y,hs,hg,h=>by
  have hi:i < all.length:=by
   apply Classical.byContradiction;intro hn;rw [List.drop_eq_nil_of_le (by omega)] at hd;cases hd
  rw [List.drop_eq_getElem_cons hi] at hd
  injection hd with ha fc
  have wi:all[i]? = some a:=by rw [List.getElem?_eq_getElem hi,ha]
  rw [B4] at h
  split at h
  ·cases h
  ·rename_i mU;have mU:l9 all i of=true:=by simpa using mU
   have sk:=afm wi mU;have hk:a.kind=1→of.kind=4:=fun hk=>ED wi mU hk
   split at h
   ·cases h
   ·rename_i y1 h1;have hc:AF E Γ of y1.1 a∧Kp E st y1.2:=by
     rcases Tc hE eS hk hs h1 with ⟨hn,h2⟩ | ⟨iI,x,dG,y2,hx,jr,hlen,CT,hgg,h2,bw,h3,vX⟩
     ·refine ⟨?_,AD hE hb a.body _ _ hs h2⟩;have c:dY E Γ a.body y1.1:=⟨st,y1,hs,hg,h2,rfl⟩;rcases sk with ⟨h,_⟩ | ⟨h,h'⟩ | h
      ·exact absurd h hn
      ·exact .inr (.inl ⟨h,h',c⟩)
      ·exact .inl ⟨h,c⟩
     ·refine ⟨.inr (.inr ⟨iI,hk iI,x,hx,jr,hlen,Tm _ _ _ _ hlen vX,dG,y2,CT,fun z=>?_,h2,bw⟩),h3 (AD hE hb a.body _ _ CT h2)⟩;rw [hgg,Te hg]
    obtain ⟨hc,k1⟩:=hc;have dj:∀ x,aG y1.2.2 x=Γ x:=fun x=>(k1.same x).trans (hg x)
    split at h
    ·rename_i h0;obtain ⟨r1,r2⟩:=LI eS l (i+1) fc _ _ _ k1.ok dj h;have e:=r1 (by omega);refine ⟨fun hn=>absurd h0 hn,fun b yH=>?_⟩;rcases List.mem_cons.1 yH with rfl | yH
     ·rw [e];exact hc
     ·exact r2 b yH
    ·split at h
     ·rename_i nS;have nS:y1.1=first:=by simpa [gg] using nS
      obtain ⟨r1,r2⟩:=LI eS l (i+1) fc _ _ _ k1.ok dj h;have e:=r1 (by omega);refine ⟨fun _=>e,fun b yH=>?_⟩;rcases List.mem_cons.1 yH with rfl | yH
      ·rw [e,← nS];exact hc
      ·exact r2 b yH
     ·cases h
theorem Tn (h:dY E Γ e T) (hk:e.kind=8):∃ x of,e.args=[x]∧dY E Γ x of∧(of.kind=1∨of.kind=4)∧∀ a∈e.alts,AF E Γ of T a:=by
 obtain ⟨st,y,hs,hg,rfl,F,_,hx⟩:=tm h rfl;obtain ⟨x,ha⟩:=AE (F.a1 (by omega));have n:∀ k:Int,k≠8→¬ e.kind=k:=fun k h1=>by omega
 simp only [n 1 (by decide),n 2 (by decide),n 3 (by decide),n 4 (by decide),n 12 (by decide),n 5 (by decide),n 9 (by decide),n 10 (by decide),n 6 (by decide),n 7 (by decide),n 11 (by decide),if_false,or_self] at hx;rw [ha] at hx
 split at hx
 ·cases hx
 ·rename_i y1 h1;obtain ⟨y2,h2,rfl⟩:=LF h1;have k1:=AD hE hb x _ _ hs h2
  split at hx
  ·cases hx
  ·rename_i eS;have eS:((y2.1).kind != 1&&(y2.1).kind != 4)=false:=by simpa using eS
   have eS:y2.1.kind=1∨y2.1.kind=4:=by
    simp only [Bool.and_eq_false_iff] at eS;rcases eS with h | h
    ·exact .inl (by simpa using h)
    ·exact .inr (by simpa using h)
   have hc:dY E Γ x y2.1:=⟨st,y2,hs,hg,h2,rfl⟩;exact ⟨x,y2.1,ha,hc,eS,(LI hE hb (LG hE hb hc) e.alts 0 rfl _ _ _ k1.ok (fun z=>(k1.same z).trans (hg z)) hx.symm).2⟩
end
end
section
open Go Go.W
abbrev Sb:=ByteArray→Ty
mutual
def Ty.sub (σ:Sb):Ty→Ty
 | .mk k n l=>if k=2 then σ n else .mk k n (FR σ l)
def FR (σ:Sb):List Ty→List Ty
 | []=>[]
 | t::l=>t.sub σ::FR σ l
end
mutual
def Ty.gB (ps:List ByteArray):Ty→Bool
 | .mk k n l=>if k=2 then ps.any (fun s=>decide (s=n)) else FT ps l
def FT (ps:List ByteArray):List Ty→Bool
 | []=>true
 | t::l=>t.gB ps&&FT ps l
end
theorem afn (σ:Sb) (l:List Ty):FR σ l=l.map (Ty.sub σ):=by
 induction l with
 | nil=>rfl
 | cons t l ih=>rw [FR,ih,List.map_cons]
theorem afo (ps:List ByteArray) (l:List Ty):FT ps l=l.all (Ty.gB ps):=by
 induction l with
 | nil=>rfl
 | cons t l ih=>rw [FT,ih,List.all_cons]
theorem Ty.sub_eq (σ:Sb) (t:Ty):t.sub σ=if t.kind=2 then σ t.name else .mk t.kind t.name (t.args.map (Ty.sub σ)):=by
 cases t;rw [Ty.sub,afn];try rfl
theorem Ty.yI (ps:List ByteArray) (t:Ty):t.gB ps=if t.kind=2 then ps.any (fun s=>decide (s=t.name)) else t.args.all (Ty.gB ps):=by
 cases t;rw [Ty.gB,afo];try rfl
theorem To {ps:List ByteArray} {t:Ty} (h:t.gB ps=true) (hk:t.kind≠2):∀ u∈t.args,u.gB ps=true:=by
 rw [t.yI,if_neg hk,List.all_eq_true] at h;exact h
theorem sub_sub (σ τ:Sb) (t:Ty):(t.sub σ).sub τ=t.sub (fun n=>(σ n).sub τ):=by
 induction t using Ty.ind with
 | h t ih=>
 rw [t.sub_eq σ,t.sub_eq (fun n=>(σ n).sub τ)];by_cases hk:t.kind=2
 ·rw [if_pos hk,if_pos hk]
 ·rw [if_neg hk,if_neg hk,Ty.sub_eq];show (if t.kind=2 then _ else _)=_;rw [if_neg hk];show Ty.mk t.kind t.name ((t.args.map (Ty.sub σ)).map (Ty.sub τ))=_;rw [List.map_map]
  congr 1
  exact List.map_congr_left (fun u hu=>ih u hu)
theorem sub_congr {ps:List ByteArray} {σ τ:Sb} (h:∀ n∈ps,σ n=τ n) (t:Ty):t.gB ps=true→t.sub σ=t.sub τ:=by
 induction t using Ty.ind with
 | h t ih=>
 intro hv;rw [t.sub_eq σ,t.sub_eq τ];by_cases hk:t.kind=2
 ·rw [t.yI,if_pos hk] at hv;rw [if_pos hk,if_pos hk];exact h _ (by simpa using hv)
 ·rw [if_neg hk,if_neg hk]
  congr 1
  exact List.map_congr_left (fun u hu=>ih u hu (To hv hk u hu))
theorem wE (σ:Sb) {t:Ty} (h:t.kind≠2):(t.sub σ).kind=t.kind∧(t.sub σ).name=t.name∧(t.sub σ).args=t.args.map (Ty.sub σ):=by
 rw [t.sub_eq,if_neg h];exact ⟨rfl,rfl,rfl⟩
def lk (ps:List ByteArray) (us:List Ty):Sb:=fun n=>us.getD ((jV ps n).getD us.length) default
theorem LJ {ps:List ByteArray} {n:ByteArray} (h:n∈ps):∃ i,jV ps n=some i∧∃ hi:i < ps.length,ps[i]=n:=by
 cases hi:jV ps n with
 | none=>
  exfalso;rw [jV,List.findIdx?_eq_none_iff] at hi;have:=hi n h;rw [oD] at this;simp at this
 | some i=>
  rw [jV,List.findIdx?_eq_some_iff_getElem] at hi;obtain ⟨h1,h2,_⟩:=hi;rw [oD] at h2
  exact ⟨i, rfl, h1, by have : n = ps[i] := by simpa using h2
                        exact this.symm⟩
theorem afp {ps:List ByteArray} {us:List Ty} (hle:ps.length≤us.length) (τ:Sb) {n:ByteArray} (h:n∈ps):(lk ps us n).sub τ=lk ps (us.map (Ty.sub τ)) n:=by
 obtain ⟨i,hi,aP,_⟩:=LJ h;unfold lk;rw [hi];simp only [Option.getD_some,List.getD_eq_getElem?_getD,List.getElem?_map];rw [List.getElem?_eq_getElem (by omega)];rfl
theorem Tp (ps:List ByteArray) (f:Sb) {n:ByteArray} (h:n∈ps):lk ps (ps.map f) n=f n:=by
 obtain ⟨i,hi,aP,he⟩:=LJ h;unfold lk;rw [hi];simp only [Option.getD_some,List.getD_eq_getElem?_getD,List.getElem?_map];rw [List.getElem?_eq_getElem aP,Option.map_some,Option.getD_some,he]
section
variable {E:Env} {ps:List ByteArray} {bs:List Ty}
theorem Tq (hb:∀ b∈bs,Good E b) (hle:ps.length≤bs.length):∀ (l:List Ty),(∀ u∈l,u.wf E=true)→∀ left:Int,-501≤left→left≤500 → -501≤(ft ps bs l left).2∧(ft ps bs l left).2≤left
 | [],_,left,h1,h2=>by rw [ft];exact ⟨h1,Int.le_refl _⟩
 | u::l,hw,left,h1,h2=>by
  rw [ft]
  split
  ·exact ⟨h1,Int.le_refl _⟩
  ·obtain ⟨a1,a2,_⟩:=JY hb hle u (hw u (by simp)) left (by omega) h2;obtain ⟨b1,b2⟩:=Tq hb hle l (fun v hv=>hw v (by simp [hv])) (ez ps bs u left).2 (by omega) (by omega);exact ⟨b1,by simp only;omega⟩
theorem afq (hb:∀ b∈bs,Good E b) (hle:ps.length≤bs.length) (t:Ty):t.wf E=true→t.gB ps=true→∀ left:Int,0≤left→left≤500→0≤(ez ps bs t left).2→(ez ps bs t left).1=t.sub (lk ps bs):=by
 induction t using Ty.ind with
 | h t ih=>
 intro hw hv left h1 h2 h3;have hww:=hw;rw [t.oK,Bool.and_eq_true,ur,List.all_eq_true] at hw;rw [t.sub_eq];by_cases hk:t.kind=2
 ·rw [if_pos hk];rw [t.yI,if_pos hk] at hv;obtain ⟨i,hi,aP,_⟩:=LJ (show t.name∈ps by simpa using hv);rw [JH (by simpa using hk) hi];show bs.getD i default=lk ps bs t.name;unfold lk;rw [hi];try rfl
 ·rw [if_neg hk];have hva:=To hv hk;rw [JI (.inl (by simpa using hk))] at h3 ⊢;have e:Wr (left - 1)=left - 1:=dv (by omega) (by omega);rw [e] at h3 ⊢;have key:∀ (l:List Ty),(∀ u∈l,u∈t.args)→∀ left:Int,-501≤left→left≤500→0≤(ft ps bs l left).2→(ft ps bs l left).1=l.map (Ty.sub (lk ps bs)):=by
   intro l
   induction l with
   | nil=>intro _ left _ _ _;rw [ft];try rfl
   | cons u l o9=>
    intro hm left h1 h2 h3;rw [ft] at h3 ⊢
    split at h3
    ·simp only at h3;omega
    ·rename_i hn;rw [if_neg hn];obtain ⟨a1,a2,a3⟩:=JY hb hle u (hw.2 u (hm u (by simp))) left (by omega) h2;obtain ⟨b1,b2⟩:=Tq hb hle l (fun v hv=>hw.2 v (hm v (by simp [hv]))) (ez ps bs u left).2 (by omega) (by omega);simp only at h3 ⊢;rw [List.map_cons,o9 (fun v hv=>hm v (by simp [hv])) _ (by omega) (by omega) h3,ih u (hm u (by simp)) (hw.2 u (hm u (by simp))) (hva u (hm u (by simp))) left (by omega) h2 (by omega)]
  show Ty.mk _ _ (ft ps bs t.args (left - 1)).1=_;rw [key t.args (fun _ h=>h) (left - 1) (by omega) (by omega) h3]
theorem Tr (hb:∀ b∈bs,Good E b) (hle:ps.length≤bs.length) {t:Ty} (hw:t.wf E=true) (hv:t.gB ps=true) (h:(eX ps bs t).2≥0):(eX ps bs t).1=t.sub (lk ps bs):=
 afq hb hle t hw hv 500 (by omega) (by omega) h
theorem Tt {t T:Ty} {ts:List Ty} (hw:t.wf E=true) (hv:t.gB ps=true) (h:iF E t ps ts = .ok T):T=t.sub (lk ps ts)∧ps.length=ts.length:=by
 unfold iF at h
 split at h
 ·cases h
 ·rename_i bo
  split at h
  ·cases h
  ·rename_i cN
   split at h
   ·rename_i fM;cases h;have hl:(ps.length:Int)=ts.length:=by simpa using bo
    have ha:ts.all (fB E)=true:=by simpa using cN
    rw [List.all_eq_true] at ha;exact ⟨Tr (fun b hb=>yd (ha b hb)) (by omega) hw hv fM,by omega⟩
   ·cases h
theorem Tu {E:Env} (h:∀ n,has E.params n=true→n∈ps) (t:Ty):t.fits E=true→t.gB ps=true:=by
 induction t using Ty.ind with
 | h t ih=>
 intro hf;rw [t.JT] at hf;rw [t.yI];by_cases hk:t.kind=2
 ·rw [if_pos hk];rw [if_pos (by simpa using hk)] at hf
  simpa using h _ hf
 ·rw [if_neg hk];rw [if_neg (by simpa using hk)] at hf;have:pX E t.args=true:=by
   split at hf
   ·split at hf
    ·cases hf
    ·exact hf
   ·exact hf
  rw [JU,List.all_eq_true] at this;rw [List.all_eq_true];exact fun u hu=>ih u hu (this u hu)
end
theorem Tv:∀ (ps:List ByteArray) (m:bM) (n:ByteArray),has (s7 ps m) n=true→n∈ps∨has m n=true
 | [],m,n,h=>.inr h
 | s::l,m,n,h=>by
  rw [s7] at h;rcases Tv l _ n h with h | h
  ·exact .inl (by simp [h])
  ·rw [qv] at h;simp only [Bool.or_eq_true,decide_eq_true_eq] at h;rcases h with h | h
   ·exact .inl (by simp [h])
   ·exact .inr h
theorem Tw:∀ (ps:List ByteArray) (m:bM) (n:ByteArray),has (kK ps m) n=true→n∈ps∨has m n=true
 | [],m,n,h=>.inr h
 | s::l,m,n,h=>by
  rw [kK] at h;rcases Tw l _ n h with h | h
  ·exact .inl (by simp [h])
  ·rw [qv] at h;simp only [Bool.or_eq_true,decide_eq_true_eq] at h;rcases h with h | h
   ·exact .inl (by simp [h])
   ·exact .inr h
end
section
open Go Go.W
abbrev Sg:=Nat→Ty→Prop
abbrev Ts:=Ty→Prop
def iv (S:Sg) (v:cr) (Γ:Gm) (σ:Sb):Prop:=∀ x U,Γ x=some U→∃ c,wy v x=some c∧S c (U.sub σ)
def AG (Q:Env) (S:Sg) (e:Ex) (v:cr) (D:Ty) (ps:List ByteArray) (Γ:Gm) (σ:Sb) (T:Ty):Prop:=dY (eA Q ps) Γ e T∧T.sub σ=D∧iv S v Γ σ
def iw (Q:Env) (S:Sg) (e:Ex) (v:cr) (D:Ty):Prop:=∃ ps Γ σ T,AG Q S e v D ps Γ σ T
def AH (S:Sg) (σ:Sb) (cs:List Nat) (fs:List Ty):Prop:=cX (fun c F=>S c (F.sub σ)) cs fs
def VT (Q:Env) (S:Sg):Cl→Ts
 | .num _,D=>D.kind=1
 | .aZ k cs,D=>∃ x us,aG Q.cons k=some x∧D=(oH x.1).sub (lk x.1.params us)∧AH S (lk x.1.params us) cs (dk x.1 x.2)
 | .eB k l cs,D=>∃ x us,aG Q.cons k=some x∧0 < l∧(cs.length:Int)+l=(dk x.1 x.2).length∧D=(((dk x.1 x.2).drop cs.length).foldr kB (oH x.1)).sub (lk x.1.params us)∧AH S (lk x.1.params us) cs ((dk x.1 x.2).take cs.length)
 | .fw e v,D=>e.kind=6∧iw Q S e v D
 | _,_=>False
def AI (Q:Env) (S:Sg) (P:Ts):Cl→Prop
 | .wait e v=>∀ D,P D→iw Q S e v D
 | .busy=>True
 | x=>∀ D,P D→VT Q S x D
structure jj (Q:Env) (S:Sg) (cells:List Cl):Prop where
 cell:∀ c x,cells[c]? = some x→AI Q S (S c) x
 full:∀ c,c < cells.length→∃ D,S c D
 wF:∀ c D,S c D→c < cells.length
structure pD (Q:Env):Prop where
 dT:∀ ps,lq (eA Q ps)
 bool:∀ ps,dy (eA Q ps) iR 0=false
 ak:∀ n d,aG Q.ak n=some d→d.type.gB d.params=true
 cons:∀ k x,aG Q.cons k=some x→(∀ F∈dk x.1 x.2,F.gB x.1.params=true)∧(dk x.1 x.2).length≤8
 yes:aG Q.cons uI=some (jD,1)
 no:aG Q.cons uJ=some (jD,0)
structure XT (Q:Env) (X:Cx) (S:Sg):Prop where
 ak:∀ n d,aG Q.ak n=some d→∃ c,aG X.ak n=some c∧∀ us,S c (d.type.sub (lk d.params us))
 fields:∀ k x,aG Q.cons k=some x→(aG X.fields k).getD 0=(dk x.1 x.2).length
def AJ (Q:Env) (S:Sg) (P R:Ts):Fm→Prop
 | .dz c=>(∃ D,S c D)∧(∀ D,S c D→P D)∧∀ D,R D→P D
 | .app e v=>∃ f y,e.args=[f,y]∧∀ D,R D→∃ F A,P F∧F.kind=3∧F.args=[A,D]∧iw Q S y v A
 | .lC e v=>∀ D,R D→∃ ps Γ σ T of,T.sub σ=D∧P (of.sub σ)∧(of.kind=1∨of.kind=4)∧Good (eA Q ps) of∧(∀ a∈e.alts,AF (eA Q ps) Γ of T a)∧iv S v Γ σ
 | .fst e v=>∃ a y,e.args=[a,y]∧∀ D,R D→fS e.name=some D∧∃ A,A.kind=1∧iw Q S y v A
 | .snd e n=>∀ D,R D→fS e.name=some D
 | .seq e v=>∃ a y,e.args=[a,y]∧∀ D,R D→iw Q S y v D
 | .lD e v=>∃ b y,e.binds=[b]∧e.args=[y]∧∀ D,R D→∃ ps Γ σ T,T.sub σ=D∧P (b.type.sub σ)∧dY (eA Q ps) (qw Γ b.name b.type) y T∧iv S v Γ σ
def nT (Q:Env) (S:Sg) (Z:Ts):List Fm→Ts→Prop
 | [],P=>∀ D,Z D→P D
 | f::fs,P=>∃ R,(∃ D,R D)∧AJ Q S P R f∧nT Q S Z fs R
def FU (Q:Env) (S:Sg) (P:Ts):Md→Prop
 | .go e v=>∀ D,P D→iw Q S e v D
 | .val x=>x.io=true∧∀ D,P D→VT Q S x D
def Ext (S S':Sg) (n:Nat):Prop:=(∀ c D,S c D→S' c D)∧∀ c D,c < n→S' c D→S c D
def qx (Q:Env) (X:Cx) (Z:Ts) (r:R3):Prop:=match r with
 | (none,m)=>m.kind=3∧1≤m.stuck∧m.stuck≤4
 | (some md,m)=>∃ S P,jj Q S m.cells∧XT Q X S∧(∃ D,P D)∧FU Q S P md∧nT Q S Z m.aO.reverse P
section
variable {Q:Env} {S S':Sg}
theorem iv.mono {v:cr} {Γ:Gm} {σ:Sb} (h:iv S v Γ σ) (hs:∀ c D,S c D→S' c D):iv S' v Γ σ:=fun x U hx=>by
 obtain ⟨c,h1,h2⟩:=h x U hx;exact ⟨c,h1,hs _ _ h2⟩
theorem AG.mono {e:Ex} {v:cr} {D:Ty} {ps:List ByteArray} {Γ:Gm} {σ:Sb} {T:Ty} (h:AG Q S e v D ps Γ σ T) (hs:∀ c D,S c D→S' c D):AG Q S' e v D ps Γ σ T:=⟨h.1,h.2.1,h.2.2.mono hs⟩
theorem iw.mono {e:Ex} {v:cr} {D:Ty} (h:iw Q S e v D) (hs:∀ c D,S c D→S' c D):iw Q S' e v D:=by
 obtain ⟨ps,Γ,σ,T,h⟩:=h;exact ⟨ps,Γ,σ,T,h.mono hs⟩
theorem wG {α β:Type} {P P':α→β→Prop} (CI:∀ a b,P a b→P' a b):∀ {l:List α} {m:List β},cX P l m→cX P' l m
 | [],[],_=>trivial
 | a::l,b::m,h=>⟨CI _ _ h.1,wG CI h.2⟩
 | [],_::_,h=>h.elim
 | _::_,[],h=>h.elim
theorem AH.mono {σ:Sb} {cs:List Nat} {fs:List Ty} (h:AH S σ cs fs) (hs:∀ c D,S c D→S' c D):AH S' σ cs fs:=wG (fun _ _ h=>hs _ _ h) h
theorem VT.mono {x:Cl} {D:Ty} (h:VT Q S x D) (hs:∀ c D,S c D→S' c D):VT Q S' x D:=by
 cases x with
 | num n=>exact h
 | aZ k cs=>obtain ⟨x,us,h1,h2,h3⟩:=h;exact ⟨x,us,h1,h2,h3.mono hs⟩
 | eB k l cs=>obtain ⟨x,us,h1,h0,h2,h3,h4⟩:=h;exact ⟨x,us,h1,h0,h2,h3,h4.mono hs⟩
 | fw e v=>exact ⟨h.1,h.2.mono hs⟩
 | wait e v=>exact h
 | busy=>exact h
 | emp=>exact h
theorem AI.mono {x:Cl} {P P':Ts} (h:AI Q S P x) (hs:∀ c D,S c D→S' c D) (hp:∀ D,P' D→P D):AI Q S' P' x:=by
 cases x with
 | num n=>exact fun D hD=>VT.mono (h D (hp D hD)) hs
 | aZ k cs=>exact fun D hD=>VT.mono (h D (hp D hD)) hs
 | eB k l cs=>exact fun D hD=>VT.mono (h D (hp D hD)) hs
 | fw e v=>exact fun D hD=>VT.mono (h D (hp D hD)) hs
 | wait e v=>exact fun D hD=>iw.mono (h D (hp D hD)) hs
 | busy=>trivial
 | emp=>exact fun D hD=>VT.mono (h D (hp D hD)) hs
theorem XT.mono {X:Cx} (h:XT Q X S) (hs:∀ c D,S c D→S' c D):XT Q X S':=⟨fun n d hd=>by
 obtain ⟨c,h1,h2⟩:=h.ak n d hd;exact ⟨c,h1,fun us=>hs _ _ (h2 us)⟩,h.fields⟩
theorem AJ.mono {P R:Ts} {f:Fm} {n:Nat} (h:AJ Q S P R f) (hs:Ext S S' n) (hd:∀ c D,S c D→c < n):AJ Q S' P R f:=by
 cases f with
 | dz c=>
  obtain ⟨⟨D,h1⟩,h2,h3⟩:=h;exact ⟨⟨D,hs.1 _ _ h1⟩,fun D' hD=>h2 _ (hs.2 c D' (hd _ _ h1) hD),h3⟩
 | app e v=>
  obtain ⟨f,y,ha,h⟩:=h;refine ⟨f,y,ha,fun D hD=>?_⟩;obtain ⟨F,A,h1,h2,h3,h4⟩:=h D hD;exact ⟨F,A,h1,h2,h3,h4.mono hs.1⟩
 | lC e v=>
  intro D hD;obtain ⟨ps,Γ,σ,T,of,h1,h2,h3,h4,h5,h6⟩:=h D hD;exact ⟨ps,Γ,σ,T,of,h1,h2,h3,h4,h5,h6.mono hs.1⟩
 | fst e v=>
  obtain ⟨a,y,ha,h⟩:=h;refine ⟨a,y,ha,fun D hD=>?_⟩;obtain ⟨h1,A,h2,h3⟩:=h D hD;exact ⟨h1,A,h2,h3.mono hs.1⟩
 | snd e n=>exact h
 | seq e v=>
  obtain ⟨a,y,ha,h⟩:=h;exact ⟨a,y,ha,fun D hD=>(h D hD).mono hs.1⟩
 | lD e v=>
  obtain ⟨b,y,hb,ha,h⟩:=h;refine ⟨b,y,hb,ha,fun D hD=>?_⟩;obtain ⟨ps,Γ,σ,T,h1,h2,h3,h4⟩:=h D hD;exact ⟨ps,Γ,σ,T,h1,h2,h3,h4.mono hs.1⟩
theorem nT.mono {Z:Ts} {n:Nat} (hs:Ext S S' n) (hd:∀ c D,S c D→c < n):∀ {l:List Fm} {P:Ts},nT Q S Z l P→nT Q S' Z l P
 | [],P,h=>h
 | f::fs,P,h=>by
  obtain ⟨R,h0,h1,h2⟩:=h;exact ⟨R,h0,h1.mono hs hd,nT.mono hs hd h2⟩
theorem iv.put {v:cr} {Γ:Gm} {σ:Sb} (h:iv S v Γ σ) {n:ByteArray} {t:Ty} {c:Nat} (hc:S c (t.sub σ)):iv S ((n,c)::v) (qw Γ n t) σ:=fun x U hx=>by
 unfold qw at hx;unfold wy;rw [px];by_cases e:n=x
 ·rw [if_pos e] at hx;rw [if_pos e];cases hx;exact ⟨c,rfl,hc⟩
 ·rw [if_neg e] at hx;rw [if_neg e];exact h x U hx
theorem iv.let:∀ (l:List Bd) {v:cr} {Γ:Gm} {σ:Sb} (i:Nat),iv S v Γ σ→(∀ j b,l[j]? = some b→S (i+j) (b.type.sub σ))→iv S (jG l i v) (kM l Γ) σ
 | [],v,Γ,σ,i,h,_=>h
 | b::l,v,Γ,σ,i,h,hc=>by
  rw [jG,kM]
  exact iv.let l (i+1) (h.put (hc 0 b rfl)) (fun j b hb=>by
   have:=hc (j+1) b (by simpa using hb)
   rwa [show i+1+j=i+(j+1) by omega])
theorem iv.vars {ps:List ByteArray} {bs:List Ty}:∀ (l:List ByteArray) (cs:List Nat) (fs:List Ty) {v:cr} {Γ:Gm} {σ:Sb},iv S v Γ σ→l.length=cs.length→cX (fun c F=>S c ((eX ps bs F).1.sub σ)) cs fs→∃ v',jH l cs v=some v'∧iv S v' (oS ps bs l fs Γ) σ
 | [],cs,fs,v,Γ,σ,h,_,_=>⟨v,by rw [jH],by rw [oS];exact h;simp⟩
 | s::l,c::cs,f::fs,v,Γ,σ,h,hl,ha=>by
  rw [jH,oS];exact iv.vars l cs fs (h.put ha.1) (by simpa using hl) ha.2
 | _::_,[],_,v,Γ,σ,h,hl,_=>by simp at hl
 | _::_,_::_,[],v,Γ,σ,h,hl,ha=>ha.elim
theorem jj.put {cells:List Cl} (h:jj Q S cells) {c:Nat} {x:Cl} (hx:AI Q S (S c) x):jj Q S (cells.set c x):=by
 refine ⟨fun i y hy=>?_,fun i hi=>h.full i (by simpa using hi),fun i D hD=>by simpa using h.wF i D hD⟩;by_cases e:c=i
 ·subst e;by_cases aP:c < cells.length
  ·rw [List.getElem?_set_self aP] at hy;cases hy;exact hx
  ·rw [List.getElem?_eq_none (by simp;omega)] at hy;cases hy
 ·rw [List.getElem?_set_ne e] at hy;exact h.cell i y hy
def nt (S:Sg) (n:Nat) (N:Nat→Ts):Sg:=fun c D=>S c D∨(n≤c∧N (c - n) D)
theorem tn {n:Nat} {N:Nat→Ts}:Ext S (nt S n N) n:=⟨fun _ _ h=>.inl h,fun c D hc h=>by
 rcases h with h | h
 ·exact h
 ·omega⟩
theorem jj.app {cells news:List Cl} (h:jj Q S cells) {N:Nat→Ts} (hx:∀ i x,news[i]? = some x→AI Q (nt S cells.length N) (N i) x) (hs:∀ i,i < news.length→∃ D,N i D) (hd:∀ i D,N i D→i < news.length):jj Q (nt S cells.length N) (cells++news):=by
 refine ⟨fun c x hc=>?_,fun c hc=>?_,fun c D hD=>?_⟩
 ·rcases Nat.lt_or_ge c cells.length with aP | hge
  ·rw [List.getElem?_append_left aP] at hc;exact (h.cell c x hc).mono (fun _ _ h=>.inl h) (fun D hD=>tn.2 c D aP hD)
  ·rw [List.getElem?_append_right hge] at hc;refine (hx _ x hc).mono (fun _ _ h=>h) (fun D hD=>?_);rcases hD with hD | hD
   ·have:=h.wF _ _ hD;omega
   ·exact hD.2
 ·rcases Nat.lt_or_ge c cells.length with aP | hge
  ·obtain ⟨D,hD⟩:=h.full c aP;exact ⟨D,.inl hD⟩
  ·rw [List.length_append] at hc;obtain ⟨D,hD⟩:=hs (c - cells.length) (by omega);exact ⟨D,.inr ⟨hge,hD⟩⟩
 ·rw [List.length_append];rcases hD with hD | ⟨h1,h2⟩
  ·have:=h.wF _ _ hD;omega
  ·have:=hd _ _ h2;omega
end
end
section
open Go Go.W
section
variable {Q:Env} {S:Sg} {X:Cx} {Z:Ts}
theorem FV {m:Rn} {c:Nat} {P:Ts} (bz:jj Q S m.cells) (hx:XT Q X S) (hP:∃ D,P D) (hc:∀ D,P D→S c D) (hf:nT Q S Z m.aO.reverse P):qx Q X Z (dC m c):=by
 obtain ⟨D0,dH⟩:=hP;have aP:=bz.wF c D0 (hc D0 dH);have hg:=List.getElem?_eq_getElem aP;have yJ:=bz.cell c _ hg;unfold dC;rw [hg];generalize m.cells[c]=x at yJ ⊢;have val:(∀ D,S c D→VT Q S x D)→x.io=true→qx Q X Z (some (.val x),m):=fun h hv=>⟨S,P,bz,hx,⟨D0,dH⟩,⟨hv,fun D hD=>h D (hc D hD)⟩,hf⟩
 cases x with
 | wait e v=>
  refine ⟨S,S c,bz.put (x:=.busy) trivial,hx,⟨D0,hc D0 dH⟩,yJ,?_⟩;show nT Q S Z ((m.aO++[Fm.dz c]).reverse) (S c);rw [List.reverse_append];exact ⟨P,⟨D0,dH⟩,⟨⟨D0,hc D0 dH⟩,fun _ h=>h,hc⟩,hf⟩
 | num n=>exact val yJ rfl
 | aZ n fs=>exact val yJ rfl
 | fw e v=>exact val yJ rfl
 | eB n l h=>exact val yJ rfl
 | busy=>exact ⟨rfl,show (1:Int)≤4 by decide,show (4:Int)≤4 by decide⟩
 | emp=>exact absurd (yJ D0 (hc D0 dH)) _root_.id
theorem LK {t:Ty} {ps:List ByteArray} {ts:List Ty} (σ:Sb) (hv:t.gB ps=true) (hl:ps.length≤ts.length):(t.sub (lk ps ts)).sub σ=t.sub (lk ps (ts.map (Ty.sub σ))):=by
 rw [sub_sub];exact sub_congr (fun n hn=>afp hl σ hn) t hv
theorem Tx (σ:Sb) (a b:Ty):(kB a b).sub σ=kB (a.sub σ) (b.sub σ):=by rw [Ty.sub_eq];try rfl
theorem Tz {ps:List ByteArray} {b:Ty} (hb:b.gB ps=true):∀ (l:List Ty),(∀ F∈l,F.gB ps=true)→(l.foldr kB b).gB ps=true
 | [],_=>hb
 | F::l,h=>by
  have h1:=h F (by simp);have h2:=Tz hb l (fun G hG=>h G (by simp [hG]));rw [List.foldr_cons,Ty.yI];show ([F,l.foldr kB b].all (Ty.gB ps))=true;simp [h1,h2]
theorem afr (d:Dt):(oH d).gB d.params=true:=by
 rw [Ty.yI];show ((d.params.map ya).all (Ty.gB d.params))=true;rw [List.all_eq_true];intro u hu;obtain ⟨s,hs,rfl⟩:=List.mem_map.1 hu;rw [Ty.yI];show (d.params.any (fun x=>decide (x=s)))=true
 simpa using hs
theorem afs (hQ:pD Q) {k:ByteArray} {x:Dt×Nat} (h:aG Q.cons k=some x):(qY x.1 x.2).gB x.1.params=true:=Tz (afr x.1) _ (hQ.cons k x h).1
theorem TA {k:ByteArray} {x:Dt×Nat} {us:List Ty} {l:Int} {cs:List Nat} {D:Ty} (h:aG Q.cons k=some x) (h0:0≤l) (hl:(cs.length:Int)+l=(dk x.1 x.2).length) (hD:D=(((dk x.1 x.2).drop cs.length).foldr kB (oH x.1)).sub (lk x.1.params us))
   (hf:AH S (lk x.1.params us) cs ((dk x.1 x.2).take cs.length)):VT Q S (kL k l cs) D:=by
 unfold kL;by_cases hz:l=0
 ·rw [if_pos hz];have e:cs.length=(dk x.1 x.2).length:=by omega
  rw [e,List.drop_length] at hD;rw [e,List.take_length] at hf;exact ⟨x,us,h,hD,hf⟩
 ·rw [if_neg hz];exact ⟨x,us,h,by omega,hl,hD,hf⟩
theorem TB (k:ByteArray) (l:Int) (cs:List Nat):(kL k l cs).io=true:=by
 unfold kL;split<;>rfl
theorem LL {α:Type} (l:List α) (a:α):(l++[a]).reverse=a::l.reverse:=by simp
theorem aft (hQ:pD Q) {e:Ex} {v:cr} {m:Rn} {P:Ts} (bz:jj Q S m.cells) (hx:XT Q X S) (hP:∃ D,P D) (he:∀ D,P D→iw Q S e v D) (hf:nT Q S Z m.aO.reverse P):∃ r,iS X e v m=some r∧qx Q X Z r:=by
 obtain ⟨D0,dH⟩:=hP;obtain ⟨Ed,TC,TD,T0,qy,jo,D4⟩:=he D0 dH;have F:=B6 (LD qy);have push:∀ (fm:Fm) (P':Ts) (md:Md),(∃ D,P' D)→FU Q S P' md→AJ Q S P' P fm→qx Q X Z (some md,m.push fm):=fun fm P' md h1 h2 h3=>by
  refine ⟨S,P',bz,hx,h1,h2,?_⟩;show nT Q S Z (m.aO++[fm]).reverse P';rw [LL];exact ⟨P,⟨D0,dH⟩,h3,hf⟩
 unfold iS;by_cases hk:e.kind=1
 ·rw [if_pos hk];obtain ⟨c,TE,_⟩:=D4 _ _ (Tf qy hk);rw [TE];refine ⟨_,rfl,FV bz hx ⟨D0,dH⟩ (fun D hD=>?_) hf⟩;obtain ⟨ps,Γ,σ,T,h1,h2,h3⟩:=he D hD;obtain ⟨c',h4,h5⟩:=h3 _ _ (Tf h1 hk);rw [TE] at h4;cases h4;rw [← h2];exact h5
 rw [if_neg hk];by_cases hk:e.kind=3
 ·rw [if_pos hk];obtain ⟨d,hd,_⟩:=Tg qy hk;obtain ⟨c,ie,cN⟩:=hx.ak _ _ hd;rw [ie];refine ⟨_,rfl,FV bz hx ⟨D0,dH⟩ (fun D hD=>?_) hf⟩;obtain ⟨ps,Γ,σ,T,h1,h2,h3⟩:=he D hD;obtain ⟨d',fc,jw⟩:=Tg h1 hk;have e1:aG Q.ak e.name=some d':=fc;have e2:aG Q.ak e.name=some d:=hd;rw [e2] at e1;cases e1;have hv:=hQ.ak _ _ e2;obtain ⟨e3,e4⟩:=Tt ((hQ.dT ps).ak _ _ fc) hv jw;rw [← h2,e3,LK σ hv (by omega)];exact cN _
 rw [if_neg hk];by_cases hk:e.kind=2
 ·rw [if_pos hk];refine ⟨_,rfl,S,P,bz,hx,⟨D0,dH⟩,⟨rfl,fun D hD=>?_⟩,hf⟩;obtain ⟨ps,Γ,σ,T,h1,h2,h3⟩:=he D hD;rw [← h2,afi h1 hk];rw [Ty.sub_eq];try rfl
 rw [if_neg hk];by_cases hk:e.kind=4
 ·rw [if_pos hk];refine ⟨_,rfl,S,P,bz,hx,⟨D0,dH⟩,⟨TB _ _ _,fun D hD=>?_⟩,hf⟩;obtain ⟨ps,Γ,σ,T,h1,h2,h3⟩:=he D hD;obtain ⟨x,fc,jw⟩:=afj h1 hk;have e1:aG Q.cons e.name=some x:=fc;have hv:=afs hQ e1;obtain ⟨e3,e4⟩:=Tt (Qm (hQ.dT ps) fc) hv jw;rw [hx.fields _ _ e1];refine TA (us:=e.types.map (Ty.sub σ)) e1 (by omega) (by simp) ?_ trivial;rw [← h2,e3,LK σ hv (by omega)];rfl
 rw [if_neg hk];by_cases hk:e.kind=6
 ·rw [if_pos hk];exact ⟨_,rfl,S,P,bz,hx,⟨D0,dH⟩,⟨rfl,fun D hD=>⟨hk,he D hD⟩⟩,hf⟩
 rw [if_neg hk];by_cases hk:e.kind=12
 ·rw [if_pos hk];exact ⟨_,rfl,rfl,afk qy hk⟩
 rw [if_neg hk];by_cases hk:e.kind=7
 ·rw [if_pos hk];obtain ⟨x,bQ,_,_⟩:=FQ (hQ.dT _) (hQ.bool _) qy (.inl hk);rw [bQ]
  let N:Nat→Ts:=fun j D'=>∃ b D ps Γ σ T,e.binds[j]? = some b∧P D∧AG Q S e v D ps Γ σ T∧D'=b.type.sub σ
  have pE:Ext S (nt S m.cells.length N) m.cells.length:=tn;have jw:∀ {D ps Γ σ T},P D→AG Q S e v D ps Γ σ T→iv (nt S m.cells.length N) (jG e.binds m.cells.length v) (kM e.binds Γ) σ:=fun {D ps Γ σ T} hD hI=>
   iv.let _ _ (hI.2.2.mono pE.1) (fun j b hb=>.inr ⟨by omega,b,D,ps,Γ,σ,T,by rw [show m.cells.length+j - m.cells.length=j by omega];exact hb,hD,hI,rfl⟩)
  refine ⟨_,rfl,nt S m.cells.length N,P,bz.app (fun i y hy=>?_) (fun i hi=>?_) (fun i D hD=>?_),hx.mono pE.1,⟨D0,dH⟩,fun D hD=>?_,hf.mono pE bz.wF⟩
  ·rw [List.getElem?_map] at hy;cases hb:e.binds[i]? with
   | none=>rw [hb] at hy;cases hy
   | some b=>
    rw [hb] at hy;cases hy;rintro D' ⟨b',D,ps,Γ,σ,T,h1,h2,h3,rfl⟩;rw [hb] at h1;cases h1;obtain ⟨x',_,LM,_⟩:=FQ (hQ.dT _) (hQ.bool _) h3.1 (.inl hk);have kV:=LM b (List.mem_of_getElem? hb);rw [if_pos hk] at kV;exact ⟨ps,_,σ,b.type,kV,rfl,jw h2 h3⟩
  ·rw [List.length_map] at hi;exact ⟨_,e.binds[i],D0,Ed,TC,TD,T0,List.getElem?_eq_getElem hi,dH,⟨qy,jo,D4⟩,rfl⟩
  ·obtain ⟨b,D',ps,Γ,σ,T,h1,_⟩:=hD;rw [List.length_map];exact (List.getElem?_eq_some_iff.1 h1).1
  ·obtain ⟨ps,Γ,σ,T,hI⟩:=he D hD;obtain ⟨x',CV,_,gL⟩:=FQ (hQ.dT _) (hQ.bool _) hI.1 (.inl hk);rw [bQ] at CV;cases CV;exact ⟨ps,_,σ,T,gL,hI.2.1,jw hD hI⟩
 rw [if_neg hk];by_cases hk:e.kind=11
 ·rw [if_pos hk];obtain ⟨b,dM⟩:=AE (F.b1 (.inr hk));rw [dM];have TF:∀ D,P D→∃ ps Γ σ T x,e.args=[x]∧T.sub σ=D∧dY (eA Q ps) Γ b.value b.type∧dY (eA Q ps) (qw Γ b.name b.type) x T∧iv S v Γ σ:=fun D hD=>by
   obtain ⟨ps,Γ,σ,T,h1,h2,h3⟩:=he D hD;obtain ⟨x,bQ,hv,gL⟩:=FQ (hQ.dT _) (hQ.bool _) h1 (.inr hk);rw [dM] at hv gL;have TG:=hv b (by simp);rw [if_neg (by omega)] at TG;exact ⟨ps,Γ,σ,T,x,bQ,h2,TG,gL,h3⟩
  obtain ⟨ps1,Γ1,σ1,T1,x,bQ,i1,i2,i3,i4⟩:=TF D0 dH;refine ⟨_,rfl,push _ (fun B=>∃ D ps Γ σ T,P D∧T.sub σ=D∧B=b.type.sub σ∧dY (eA Q ps) Γ b.value b.type∧dY (eA Q ps) (qw Γ b.name b.type) x T∧iv S v Γ σ) _ ⟨_,D0,ps1,Γ1,σ1,T1,dH,i1,rfl,i2,i3,i4⟩ ?_ ?_⟩
  ·rintro B ⟨D,ps,Γ,σ,T,_,h2,rfl,h3,_,h4⟩;exact ⟨ps,Γ,σ,_,h3,rfl,h4⟩
  ·refine ⟨b,x,dM,bQ,fun D hD=>?_⟩;obtain ⟨ps,Γ,σ,T,x',iE,j1,j2,j3,j4⟩:=TF D hD;rw [bQ] at iE;cases iE;exact ⟨ps,Γ,σ,T,j1,⟨D,ps,Γ,σ,T,hD,j1,rfl,j2,j3,j4⟩,j3,j4⟩
 rw [if_neg hk];have hr:=F.vB;by_cases hk:e.kind=5
 ·obtain ⟨f,y,_,_,bQ,_⟩:=Th (hQ.dT _) (hQ.bool _) qy hk;rw [bQ];simp only;rw [if_pos hk];have Cb:∀ D,P D→∃ F A,F.kind=3∧F.args=[A,D]∧iw Q S f v F∧iw Q S y v A:=fun D hD=>by
   obtain ⟨ps,Γ,σ,T,h1,h2,h3⟩:=he D hD;obtain ⟨f',y',F',A',iE,c1,c2,c3,c4⟩:=Th (hQ.dT _) (hQ.bool _) h1 hk;rw [bQ] at iE;cases iE;obtain ⟨s1,s2,s3⟩:=wE σ (t:=F') (by omega);refine ⟨F'.sub σ,A'.sub σ,by rw [s1,c2],?_,⟨ps,Γ,σ,F',c1,rfl,h3⟩,⟨ps,Γ,σ,A',c4,rfl,h3⟩⟩;rw [s3,c3,← h2];try rfl
  refine ⟨_,rfl,push _ (fun F=>∃ D A,P D∧F.kind=3∧F.args=[A,D]∧iw Q S f v F∧iw Q S y v A) _ ?_ ?_ ?_⟩
  ·obtain ⟨F,A,a1,a2,a3,a4⟩:=Cb D0 dH;exact ⟨F,D0,A,dH,a1,a2,a3,a4⟩
  ·rintro F ⟨D,A,_,_,_,h,_⟩;exact h
  ·refine ⟨f,y,bQ,fun D hD=>?_⟩;obtain ⟨F,A,a1,a2,a3,a4⟩:=Cb D hD;exact ⟨F,A,⟨D,A,hD,a1,a2,a3,a4⟩,a1,a2,a4⟩
 by_cases sS:e.kind=8
 ·obtain ⟨x,_,bQ,_⟩:=Tn (hQ.dT _) (hQ.bool _) qy sS;rw [bQ];simp only;rw [if_neg hk,if_pos sS];have TH:∀ D,P D→∃ ps Γ σ T of,T.sub σ=D∧iw Q S x v (of.sub σ)∧(of.kind=1∨of.kind=4)∧Good (eA Q ps) of∧(∀ a∈e.alts,AF (eA Q ps) Γ of T a)∧iv S v Γ σ:=fun D hD=>by
   obtain ⟨ps,Γ,σ,T,h1,h2,h3⟩:=he D hD;obtain ⟨x',of,iE,c1,c2,c3⟩:=Tn (hQ.dT _) (hQ.bool _) h1 sS;rw [bQ] at iE;cases iE;exact ⟨ps,Γ,σ,T,of,h2,⟨ps,Γ,σ,of,c1,rfl,h3⟩,c2,LG (hQ.dT _) (hQ.bool _) c1,c3,h3⟩
  refine ⟨_,rfl,push _ (fun C=>iw Q S x v C) _ ?_ (fun C h=>h) (fun D hD=>?_)⟩
  ·obtain ⟨ps,Γ,σ,T,of,a1,a2,_⟩:=TH D0 dH;exact ⟨_,a2⟩
  ·exact TH D hD
 by_cases pz:e.kind=9
 ·obtain ⟨a,y,_,_,bQ,_⟩:=Ti (hQ.dT _) (hQ.bool _) qy pz;rw [bQ];simp only;rw [if_neg hk,if_neg sS,if_pos pz];have iV:∀ D,P D→fS e.name=some D∧(∃ A,A.kind=1∧iw Q S a v A)∧∃ A,A.kind=1∧iw Q S y v A:=fun D hD=>by
   obtain ⟨ps,Γ,σ,T,h1,h2,h3⟩:=he D hD;obtain ⟨a',y',A',B',iE,c1,c2,c3,c4,c5⟩:=Ti (hQ.dT _) (hQ.bool _) h1 pz;rw [bQ] at iE;cases iE;have hT:T.sub σ=T:=by
    unfold fS at c5
    split at c5
    ·cases c5;rw [Ty.sub_eq];try rfl
    ·split at c5
     ·cases c5;rw [Ty.sub_eq];try rfl
     ·cases c5
   refine ⟨by rw [c5,← h2,hT],⟨A'.sub σ,?_,ps,Γ,σ,A',c1,rfl,h3⟩,⟨B'.sub σ,?_,ps,Γ,σ,B',c2,rfl,h3⟩⟩
   ·rw [(wE σ (t:=A') (by omega)).1,c3]
   ·rw [(wE σ (t:=B') (by omega)).1,c4]
  refine ⟨_,rfl,push _ (fun A=>iw Q S a v A) _ ?_ (fun A h=>h) ⟨a,y,bQ,fun D hD=>?_⟩⟩
  ·obtain ⟨_,⟨A,_,h⟩,_⟩:=iV D0 dH;exact ⟨A,h⟩
  ·obtain ⟨h1,_,h2⟩:=iV D hD;exact ⟨h1,h2⟩
 have ql:e.kind=10:=by omega
 obtain ⟨a,y,_,bQ,_⟩:=Tj (hQ.dT _) (hQ.bool _) qy ql;rw [bQ];simp only;rw [if_neg hk,if_neg sS,if_neg pz,if_pos ql];have TI:∀ D,P D→(∃ A,iw Q S a v A)∧iw Q S y v D:=fun D hD=>by
  obtain ⟨ps,Γ,σ,T,h1,h2,h3⟩:=he D hD;obtain ⟨a',y',A',iE,c1,c2⟩:=Tj (hQ.dT _) (hQ.bool _) h1 ql;rw [bQ] at iE;cases iE;exact ⟨⟨_,ps,Γ,σ,A',c1,rfl,h3⟩,⟨ps,Γ,σ,T,c2,h2,h3⟩⟩
 refine ⟨_,rfl,push _ (fun A=>iw Q S a v A) _ (TI D0 dH).1 (fun A h=>h) ⟨a,y,bQ,fun D hD=>(TI D hD).2⟩⟩
end
end
section
open Go Go.W
section
variable {Q:Env} {S:Sg} {X:Cx} {Z:Ts}
theorem TJ {a b:Ty} {F A D:Ty} (h:F=kB a b) (ha:F.args=[A,D]):A=a∧D=b:=by
 subst h;have:[a,b]=[A,D]:=ha;cases this;exact ⟨rfl,rfl⟩
theorem afu (d:Dt) (σ:Sb):((oH d).sub σ).kind=4:=(wE σ (t:=oH d) (show (4:Int)≠2 by decide)).1
theorem TK {α β:Type} {P:α→β→Prop}:∀ {l:List α} {m:List β} {a:α} {b:β},cX P l m→P a b→cX P (l++[a]) (m++[b])
 | [],[],a,b,_,h=>⟨h,trivial⟩
 | x::l,y::m,a,b,h,hp=>⟨h.1,TK h.2 hp⟩
 | [],_::_,_,_,h,_=>h.elim
 | _::_,[],_,_,h,_=>h.elim
theorem TL (hQ:pD Q) {x:Cl} {c:Nat} {m:Rn} {P R:Ts} (bz:jj Q S m.cells) (hx:XT Q X S) (hv:x.io=true) (hP:∀ F,P F→VT Q S x F) (hR:∃ D,R D) (hf:∀ D,R D→∃ F A,P F∧F.kind=3∧F.args=[A,D]∧S c A)
   (eD:nT Q S Z m.aO.reverse R):∃ r,lE m x c=some r∧qx Q X Z r:=by
 obtain ⟨D0,dH⟩:=hR;obtain ⟨F0,A0,p0,k0,a0,s0⟩:=hf D0 dH;have v0:=hP F0 p0;cases x with
 | wait e v=>cases hv
 | busy=>cases hv
 | emp=>cases hv
 | num n=>
  exfalso;have v0:F0.kind=1:=v0;omega
 | aZ k cs=>
  exfalso;obtain ⟨x,us,_,e,_⟩:=v0;rw [e,afu] at k0;omega
 | fw e v=>
  obtain ⟨hk,Ed,TC,TD,T0,h1,h2,h3⟩:=v0;obtain ⟨b,y,t0,dM,bQ,hT0,aj0⟩:=Tk h1 hk;unfold lE;simp only [dM,bQ];refine ⟨_,rfl,S,R,bz,hx,⟨D0,dH⟩,fun D hD=>?_,eD⟩;obtain ⟨F,A,q1,q2,q3,q4⟩:=hf D hD;obtain ⟨_,ps,Γ,σ,T,i1,i2,i3⟩:=hP F q1;obtain ⟨b',y',t,TM,CV,hT,LM⟩:=Tk i1 hk;rw [dM] at TM;rw [bQ] at CV;cases TM;cases CV;rw [hT,Tx] at i2;obtain ⟨e1,e2⟩:=TJ i2.symm q3;exact ⟨ps,_,σ,t,LM,e2.symm,i3.put (by rw [← e1];exact q4)⟩
 | eB k l cs=>
  obtain ⟨x,us0,fr,zH,hl,hF0,aj1⟩:=v0;have hlen:=(hQ.cons k x fr).2;have e:Wr (l - 1)=l - 1:=dv (by omega) (by omega);unfold lE;simp only;rw [if_pos (by omega),e];refine ⟨_,rfl,S,R,bz,hx,⟨D0,dH⟩,⟨TB _ _ _,fun D hD=>?_⟩,eD⟩;obtain ⟨F,A,q1,q2,q3,q4⟩:=hf D hD;obtain ⟨x',us,bX,_,_,hF,so⟩:=hP F q1;rw [fr] at bX;cases bX;have aP:cs.length < (dk x.1 x.2).length:=by omega
  rw [List.drop_eq_getElem_cons aP,List.foldr_cons,Tx] at hF;obtain ⟨e1,e2⟩:=TJ hF q3;refine TA (us:=us) fr (by omega) (by simp;omega) ?_ ?_
  ·rw [e2];simp
  ·have:(dk x.1 x.2).take (cs++[c]).length=(dk x.1 x.2).take cs.length++[(dk x.1 x.2)[cs.length]]:=by
    rw [List.length_append,List.length_cons,List.length_nil,List.take_succ_eq_append_getElem aP]
   rw [this];exact TK so (by rw [← e1];exact q4)
theorem TN (hQ:pD Q) {n:ByteArray} {a b:Int} {y:Cl} (h:qm n a b=some y) {D:Ty} (hD:fS n=some D):y.io=true∧VT Q S y D:=by
 have yes:∀ t:Bool,VT Q S (.aZ (if t then uI else uJ) []) (.mk 4 iR []):=fun t=>by
  cases t
  ·exact ⟨(jD,0),[],hQ.no,by rw [Ty.sub_eq];try rfl,trivial⟩
  ·exact ⟨(jD,1),[],hQ.yes,by rw [Ty.sub_eq];try rfl,trivial⟩
 have bo:∀ {p q:ByteArray},aQ n p=true→p≠q→aQ n q=false:=fun {p q} h1 h2=>by
  rw [oD] at h1 ⊢;have:n=p:=by simpa using h1
  subst this
  simpa using h2
 unfold fS uh sK at hD;unfold qm at h;by_cases h1:aQ n ⟨#[43]⟩=true
 ·rw [if_pos h1] at h;cases h;rw [h1] at hD;cases hD;exact ⟨rfl,rfl⟩
 rw [if_neg h1] at h;by_cases h2:aQ n ⟨#[45]⟩=true
 ·rw [if_pos h2] at h;cases h;rw [h2] at hD;simp at hD;subst hD;exact ⟨rfl,rfl⟩
 rw [if_neg h2] at h;by_cases h3:aQ n ⟨#[42]⟩=true
 ·rw [if_pos h3] at h;cases h;rw [h3] at hD;simp at hD;subst hD;exact ⟨rfl,rfl⟩
 rw [if_neg h3] at h;by_cases h4:(aQ n ⟨#[47]⟩||aQ n ⟨#[37]⟩)=true
 ·rw [if_pos h4] at h;have vC:D = .mk 1 bI []:=by
   simp only [Bool.or_eq_true] at h4;rcases h4 with h4 | h4<;>(rw [h4] at hD;simp at hD;exact hD.symm)
  subst vC
  split at h
  ·cases h
  ·split at h
   ·cases h;exact ⟨rfl,rfl⟩
   ·cases h;exact ⟨rfl,rfl⟩
 rw [if_neg h4] at h;cases h;simp only [Bool.or_eq_true,not_or] at h4;have e1:(aQ n ⟨#[43]⟩||aQ n ⟨#[45]⟩||aQ n ⟨#[42]⟩||aQ n ⟨#[47]⟩||aQ n ⟨#[37]⟩)=false:=by
  simp [h1,h2,h3,h4.1,h4.2]
 rw [e1] at hD;simp only [Bool.false_eq_true,if_false] at hD
 split at hD
 ·cases hD;exact ⟨rfl,yes _⟩
 ·cases hD
theorem TO (hQ:pD Q) {m:Rn} {v:cr} {x:Cl} {P R:Ts} (bz:jj Q S m.cells) (hx:XT Q X S) (hP:∀ C,P C→VT Q S x C) (hR:∃ D,R D) (eD:nT Q S Z m.aO.reverse R):∀ (l:List Al),
   (∀ D,R D→∃ ps Γ σ T of,T.sub σ=D∧P (of.sub σ)∧(of.kind=1∨of.kind=4)∧Good (eA Q ps) of∧(∀ a∈l,AF (eA Q ps) Γ of T a)∧iv S v Γ σ)→∃ r,eQ m v x l=some r∧qx Q X Z r
 | [],_=>⟨(none,m.stop 2),by rw [eQ],show (3:Int)=3∧(1:Int)≤2∧(2:Int)≤4 by decide⟩
 | a::l,h=>by
  obtain ⟨D0,dH⟩:=hR;rw [eQ]
  have next:∃ r,eQ m v x l=some r∧qx Q X Z r:=TO hQ bz hx hP ⟨D0,dH⟩ eD l (fun D hD=>by
   obtain ⟨ps,Γ,σ,T,of,h1,h2,h3,h4,h5,h6⟩:=h D hD
   exact ⟨ps,Γ,σ,T,of,h1,h2,h3,h4,fun b hb=>h5 b (by simp [hb]),h6⟩)
  by_cases hc:(a.kind == 3||(a.kind == 2&&(ji x).isNone&&a.num == numOf x))=true
  ·rw [if_pos hc];refine ⟨_,rfl,S,R,bz,hx,⟨D0,dH⟩,fun D hD=>?_,eD⟩;obtain ⟨ps,Γ,σ,T,of,h1,h2,h3,h4,h5,h6⟩:=h D hD;have hk:a.kind=3∨a.kind=2:=by
    simp only [Bool.or_eq_true,Bool.and_eq_true,beq_iff_eq] at hc;rcases hc with hc | hc
    ·exact .inl hc
    ·exact .inr hc.1.1
   rcases h5 a (by simp) with ⟨_,hb⟩ | ⟨_,_,hb⟩ | ⟨iI,_⟩
   ·exact ⟨ps,Γ,σ,T,hb,h1,h6⟩
   ·exact ⟨ps,Γ,σ,T,hb,h1,h6⟩
   ·omega
  ·rw [if_neg hc];cases x with
   | aZ k cs=>
    show ∃ r,(if (a.kind == 1&&aQ a.aZ k)=true then (jH a.vars cs v).map (fun v'=>(some (Md.go a.body v'),m)) else eQ m v (.aZ k cs) l)=some r∧qx Q X Z r;by_cases hm:(a.kind == 1&&aQ a.aZ k)=true
    ·rw [if_pos hm];simp only [Bool.and_eq_true,beq_iff_eq] at hm;have jr:a.aZ=k:=by
      have:=hm.2;rw [oD] at this
      simpa using this
     have cN:∀ D,R D→∃ ps Γ σ T v',T.sub σ=D∧jH a.vars cs v=some v'∧iv S v' Γ σ∧dY (eA Q ps) Γ a.body T:=fun D hD=>by
      obtain ⟨ps,Γ,σ,T,of,h1,h2,h3,h4,h5,h6⟩:=h D hD;rcases h5 a (by simp) with ⟨hk,_⟩ | ⟨hk,_,_⟩ | ⟨_,eS,y,hy,hyn,hlen,vX,hb⟩
      ·omega
      ·omega
      ·obtain ⟨y',us,TP,hC,so⟩:=hP _ h2;have TQ:aG Q.cons a.aZ=some y:=hy;rw [jr,TP] at TQ;cases TQ;have hl:=so.at.1;have hGE:=hQ.dT ps;have hyy:aG (eA Q ps).cons a.aZ=some y:=hy;obtain ⟨⟨d,y9,DQ⟩,hw⟩:=hGE.cons _ _ hyy;have hbg:∀ b∈of.args,Good (eA Q ps) b:=fun b hb=>B3 h4 hb
       have hle:y.1.params.length≤of.args.length:=by
        have:=h4.1;rw [of.oK,eS,Bool.and_eq_true,Bool.and_eq_true] at this;have h4:dy (eA Q ps) of.name of.args.length=false:=by simpa using this.1.2
        unfold dy at h4;rw [← hyn,y9] at h4;have h5:(d.params.length:Int)=of.args.length:=by simpa using h4
        omega
       have bQ:of.args.map (Ty.sub σ)=y.1.params.map (lk y.1.params us):=by
        have e1:=(wE σ (t:=of) (by omega)).2.2;have e2:=(wE (lk y.1.params us) (t:=oH y.1) (show (4:Int)≠2 by decide)).2.2;rw [hC,e2] at e1;rw [← e1];show (y.1.params.map ya).map (Ty.sub (lk y.1.params us))=_;rw [List.map_map];refine List.map_congr_left (fun s _=>?_);show Ty.sub _ (ya s)=_;rw [Ty.sub_eq];try rfl
       have hFd:∀ (cs:List Nat) (fs:List Ty),(∀ F∈fs,F∈dk y.1 y.2)→cX (fun c F=>S c (F.sub (lk y.1.params us))) cs fs→cX (fun c F=>S c ((eX y.1.params of.args F).1.sub σ)) cs fs:=by
        intro cs
        induction cs with
        | nil => intro fs _ h; cases fs with
                 | nil=>trivial
                 | cons _ _=>exact h.elim
        | cons c cs ih=>
         intro fs hm h;cases fs with
         | nil=>exact h.elim
         | cons F fs=>
          refine ⟨?_,ih fs (fun G hG=>hm G (by simp [hG])) h.2⟩;have LN:=hm F (by simp);have LO:=(hQ.cons _ _ TP).1 F LN;show S c (Ty.sub σ (eX y.1.params of.args F).1);rw [Tr hbg hle (hw F LN) LO (vX F LN),LK σ LO hle,bQ];rw [sub_congr (σ:=lk y.1.params (y.1.params.map (lk y.1.params us))) (τ:=lk y.1.params us) (fun n hn=>Tp _ _ hn) F LO];exact h.1
       obtain ⟨v',oy,jw⟩:=iv.vars (ps:=y.1.params) (bs:=of.args) a.vars cs (dk y.1 y.2) h6 (by omega) (hFd _ _ (fun _ h=>h) so);exact ⟨ps,_,σ,T,v',h1,oy,jw,hb⟩
     obtain ⟨_,_,_,_,v',_,oy,_⟩:=cN D0 dH;rw [oy];refine ⟨_,rfl,S,R,bz,hx,⟨D0,dH⟩,fun D hD=>?_,eD⟩;obtain ⟨ps,Γ,σ,T,v2,q1,q2,q3,q4⟩:=cN D hD;rw [oy] at q2;cases q2;exact ⟨ps,Γ,σ,T,q4,q1,q3⟩
    ·rw [if_neg hm];exact next
   | num n=>exact next
   | fw e v=>exact next
   | eB n l h=>exact next
   | wait e v=>exact next
   | busy=>exact next
   | emp=>exact next
theorem afv (hQ:pD Q) {x:Cl} {f:Fm} {m:Rn} {P:Ts} (bz:jj Q S m.cells) (hx:XT Q X S) (hv:x.io=true) (hP:∀ F,P F→VT Q S x F) (hf:nT Q S Z (f::m.aO.reverse) P):∃ r,iT f x m=some r∧qx Q X Z r:=by
 obtain ⟨R,⟨D0,dH⟩,pF,eD⟩:=hf;have push:∀ (fm:Fm) (P':Ts) (md:Md),(∃ D,P' D)→FU Q S P' md→AJ Q S P' R fm→qx Q X Z (some md,m.push fm):=fun fm P' md h1 h2 h3=>by
  refine ⟨S,P',bz,hx,h1,h2,?_⟩;show nT Q S Z (m.aO++[fm]).reverse P';rw [LL];exact ⟨R,⟨D0,dH⟩,h3,eD⟩
 cases f with
 | dz c=>
  obtain ⟨h1,h2,h3⟩:=pF;refine ⟨_,rfl,S,R,bz.put (x:=x) ?_,hx,⟨D0,dH⟩,⟨hv,fun D hD=>hP D (h3 D hD)⟩,eD⟩;have:∀ D,S c D→VT Q S x D:=fun D hD=>hP D (h2 D hD)
  cases x with
  | wait e v=>cases hv
  | busy=>cases hv
  | emp=>cases hv
  | num n=>exact this
  | aZ k cs=>exact this
  | fw e v=>exact this
  | eB k l cs=>exact this
 | app e v=>
  obtain ⟨g,y,bQ,h⟩:=pF;unfold iT;simp only [bQ]
  let N:Nat→Ts:=fun j A=>j=0∧∃ D F,R D∧P F∧F.kind=3∧F.args=[A,D]∧iw Q S y v A
  have pE:Ext S (nt S m.cells.length N) m.cells.length:=tn;refine TL hQ (m:=m.new (.wait y v)) (S:=nt S m.cells.length N) (P:=P) (R:=R) ?_ (hx.mono pE.1) hv (fun F hF=>(hP F hF).mono pE.1) ⟨D0,dH⟩ (fun D hD=>?_) (eD.mono pE bz.wF)
  ·refine bz.app (fun i z hz=>?_) (fun i hi=>?_) (fun i D hD=>?_)
   ·match i,hz with
    | 0,hz=>
     cases hz;rintro A ⟨_,D,F,_,_,_,_,h⟩;exact h.mono pE.1
    | i+1,hz=>simp at hz
   ·obtain ⟨F,A,q1,q2,q3,q4⟩:=h D0 dH;have:i=0:=by simpa using hi
    exact ⟨A,this,D0,F,dH,q1,q2,q3,q4⟩
   ·rw [hD.1];simp
  ·obtain ⟨F,A,q1,q2,q3,q4⟩:=h D hD;exact ⟨F,A,q1,q2,q3,.inr ⟨Nat.le_refl _,by omega,D,F,hD,q1,q2,q3,q4⟩⟩
 | lC e v=>exact TO hQ bz hx hP ⟨D0,dH⟩ eD e.alts pF
 | fst e v=>
  obtain ⟨a,y,bQ,h⟩:=pF;unfold iT;simp only [bQ];refine ⟨_,rfl,push _ (fun A=>iw Q S y v A) _ ?_ (fun A h=>h) (fun D hD=>(h D hD).1)⟩;obtain ⟨_,A,_,hA⟩:=h D0 dH;exact ⟨A,hA⟩
 | snd e n=>
  unfold iT;simp only;cases ho:qm e.name n (numOf x) with
  | none=>exact ⟨_,rfl,rfl,show (1:Int)≤3 by decide,show (3:Int)≤4 by decide⟩
  | some y=>
   have h0:=TN (S:=S) hQ ho (pF D0 dH);exact ⟨_,rfl,S,R,bz,hx,⟨D0,dH⟩,⟨h0.1,fun D hD=>(TN hQ ho (pF D hD)).2⟩,eD⟩
 | seq e v=>
  obtain ⟨a,y,bQ,h⟩:=pF;unfold iT;simp only [bQ];exact ⟨_,rfl,S,R,bz,hx,⟨D0,dH⟩,h,eD⟩
 | lD e v=>
  obtain ⟨b,y,dM,bQ,h⟩:=pF;unfold iT;simp only [dM,bQ]
  let N:Nat→Ts:=fun j B=>j=0∧P B
  have pE:Ext S (nt S m.cells.length N) m.cells.length:=tn;refine ⟨_,rfl,nt S m.cells.length N,R,?_,hx.mono pE.1,⟨D0,dH⟩,fun D hD=>?_,eD.mono pE bz.wF⟩
  ·refine bz.app (fun i z hz=>?_) (fun i hi=>?_) (fun i D hD=>?_)
   ·match i,hz with
    | 0,hz=>
     cases hz;have:∀ D,N 0 D→VT Q (nt S m.cells.length N) x D:=fun D hD=>(hP D hD.2).mono pE.1
     cases x with
     | wait e v=>cases hv
     | busy=>cases hv
     | emp=>cases hv
     | num n=>exact this
     | aZ k cs=>exact this
     | fw e v=>exact this
     | eB k l cs=>exact this
    | i+1,hz=>simp at hz
   ·obtain ⟨ps,Γ,σ,T,q1,q2,q3,q4⟩:=h D0 dH;have:i=0:=by simpa using hi
    exact ⟨_,this,q2⟩
   ·rw [hD.1];simp
  ·obtain ⟨ps,Γ,σ,T,q1,q2,q3,q4⟩:=h D hD;exact ⟨ps,_,σ,T,q3,q1,(q4.mono pE.1).put (.inr ⟨Nat.le_refl _,by omega,q2⟩)⟩
end
end
section
open Go Go.W
structure wH (m:Rn) (r:R3):Prop where
 told:r.2.told=m.told
 steps:r.2.steps=m.steps
 fl:r.2.aO.length≤m.aO.length+1
 CW:∀ x,r.1=some (.val x)→r.2.aO.length≤m.aO.length
 go:∀ md,r.1=some md→r.2.kind=m.kind∧r.2.stuck=m.stuck
 stop:r.1=none→r.2.kind=3
theorem rP {m:Rn} {md:Md}:wH m (some md,m):=⟨rfl,rfl,Nat.le_succ _,fun _ _=>Nat.le_refl _,fun _ _=>⟨rfl,rfl⟩,fun h=>by cases h⟩
theorem AK {m:Rn} {k:Int}:wH m (none,m.stop k):=⟨rfl,rfl,Nat.le_succ _,fun _ _=>Nat.le_refl _,fun _ h=>by (cases h),fun _=>rfl⟩
theorem AL {m:Rn} {e:Ex} {v:cr} {f:Fm}:wH m (some (.go e v),m.push f):=⟨rfl,rfl,by simp [Rn.push],fun _ h=>(by cases h),fun _ _=>⟨rfl,rfl⟩,fun h=>by cases h⟩
theorem yK (m:Rn) (c:Nat):wH m (dC m c):=by
 unfold dC;cases m.cells[c]? with
 | none=>exact AK
 | some x=>cases x<;>first | exact rP | exact AK | exact ⟨rfl,rfl,by simp [Rn.push,Rn.put],fun _ h=>(by cases h),fun _ _=>⟨rfl,rfl⟩,fun h=>by cases h⟩
theorem CX {X:Cx} {e:Ex} {v:cr} {m:Rn} {r:R3} (h:iS X e v m=some r):wH m r:=by
 unfold iS at h;by_cases k1:e.kind=1
 ·rw [if_pos k1] at h;obtain ⟨c,_,rfl⟩:=Option.map_eq_some_iff.1 h;exact yK m c
 rw [if_neg k1] at h;by_cases k3:e.kind=3
 ·rw [if_pos k3] at h;obtain ⟨c,_,rfl⟩:=Option.map_eq_some_iff.1 h;exact yK m c
 rw [if_neg k3] at h;by_cases k2:e.kind=2
 ·rw [if_pos k2] at h;cases h;exact rP
 rw [if_neg k2] at h;by_cases k4:e.kind=4
 ·rw [if_pos k4] at h;cases h;exact rP
 rw [if_neg k4] at h;by_cases k6:e.kind=6
 ·rw [if_pos k6] at h;cases h;exact rP
 rw [if_neg k6] at h;by_cases wI:e.kind=12
 ·rw [if_pos wI] at h;cases h;exact AK
 rw [if_neg wI] at h;by_cases k7:e.kind=7
 ·rw [if_pos k7] at h
  split at h
  ·cases h
  ·cases h;exact ⟨rfl,rfl,Nat.le_succ _,fun _ _=>Nat.le_refl _,fun _ _=>⟨rfl,rfl⟩,fun h=>by cases h⟩
 rw [if_neg k7] at h;by_cases wJ:e.kind=11
 ·rw [if_pos wJ] at h
  split at h
  ·cases h
  ·cases h;exact AL
 rw [if_neg wJ] at h
 split at h
 ·cases h
 ·cases h;by_cases k5:e.kind=5
  ·rw [if_pos k5];exact AL
  by_cases k8:e.kind=8
  ·rw [if_neg k5,if_pos k8];exact AL
  by_cases k9:e.kind=9
  ·rw [if_neg k5,if_neg k8,if_pos k9];exact AL
  by_cases tp:e.kind=10
  ·rw [if_neg k5,if_neg k8,if_neg k9,if_pos tp];exact AL
  ·rw [if_neg k5,if_neg k8,if_neg k9,if_neg tp];exact rP
theorem CY {m:Rn} {f:Cl} {c:Nat} {r:R3} (h:lE m f c=some r):wH m r:=by
 unfold lE at h
 split at h
 ·split at h
  ·cases h;exact rP
  ·cases h
 ·split at h
  ·cases h;exact rP
  ·cases h
 ·cases h;exact AK
theorem LP {m:Rn} {v:cr} {x:Cl}:∀ (l:List Al) {r:R3},eQ m v x l=some r→wH m r
 | [],r,h=>by rw [eQ] at h;cases h;exact AK
 | a::l,r,h=>by
  rw [eQ] at h
  split at h
  ·cases h;exact rP
  ·split at h
   ·split at h
    ·obtain ⟨c,_,rfl⟩:=Option.map_eq_some_iff.1 h;exact rP
    ·exact LP l h
   ·exact LP l h
theorem CZ {f:Fm} {x:Cl} {m:Rn} {r:R3} (h:iT f x m=some r):wH m r:=by
 unfold iT at h
 split at h
 ·cases h;exact ⟨rfl,rfl,Nat.le_succ _,fun _ _=>Nat.le_refl _,fun _ _=>⟨rfl,rfl⟩,fun h=>by cases h⟩
 ·split at h
  ·have k:=CY h;exact ⟨k.told,k.steps,k.fl,k.CW,k.go,k.stop⟩
  ·cases h
 ·exact LP _ h
 ·split at h
  ·cases h;exact AL
  ·cases h
 ·split at h
  ·cases h;exact rP
  ·cases h;exact AK
 ·split at h
  ·cases h;exact rP
  ·cases h
 ·split at h
  ·cases h;exact ⟨rfl,rfl,Nat.le_succ _,fun _ _=>Nat.le_refl _,fun _ _=>⟨rfl,rfl⟩,fun h=>by cases h⟩
  ·cases h
theorem qz (X:Cx) (m:Rn):(m.steps=X.fuel∧fi X m=(false,{ m with kind:=4}))∨(m.steps≠X.fuel∧fi X m=(true,{ m with steps:=m.steps+1})):=by
 unfold fi
 split
 ·exact .inl ⟨by assumption,rfl⟩
 ·exact .inr ⟨by assumption,rfl⟩
structure yL (X:Cx) (m:Rn) (r:Option Cl×Rn):Prop where
 told:r.2.told=m.told
 steps:m.steps≤r.2.steps
 fuel:m.steps≤X.fuel→r.2.steps≤X.fuel
 val:∀ x,r.1=some x→r.2.kind=m.kind∧r.2.stuck=m.stuck∧r.2.aO=[]
 stop:r.1=none→(r.2.kind=4∧r.2.steps=X.fuel∧r.2.stuck=m.stuck)∨r.2.kind=3
theorem yL.from {X:Cx} {m m':Rn} {r:Option Cl×Rn} (h:yL X m' r) (h1:m'.told=m.told) (h2:m.steps≤m'.steps) (h3:m.steps≤X.fuel→m'.steps≤X.fuel) (h4:m'.kind=m.kind∧m'.stuck=m.stuck):yL X m r:=
 ⟨h.told.trans h1,Int.le_trans h2 h.steps,fun hh=>h.fuel (h3 hh),fun x hx=>by obtain ⟨a,b,c⟩:=h.val x hx;exact ⟨a.trans h4.1,b.trans h4.2,c⟩,fun hn=>by
  rcases h.stop hn with ⟨a,b,c⟩ | a
  ·exact .inl ⟨a,b,c.trans h4.2⟩
  ·exact .inr a⟩
theorem tq {X:Cx}:∀ (n:Nat) {md:Md} {m:Rn} {r:Option Cl×Rn},cF X n md m=some r→yL X m r
 | 0,md,m,r,h=>by cases md<;>(rw [cF] at h;cases h)
 | n+1,.go e v,m,r,h=>by
  rw [cF] at h;rcases qz X m with ⟨h1,h2⟩ | ⟨h1,h2⟩
  ·rw [h2] at h;simp only [if_true] at h;cases h;exact ⟨rfl,Int.le_refl _,fun h=>h,fun x hx=>by (cases hx),fun _=>.inl ⟨rfl,h1,rfl⟩⟩
  ·rw [h2] at h;simp only [Bool.true_eq_false,if_false] at h
   split at h
   ·cases h
   ·rename_i m' hb;cases h;have k:=CX hb;have ks:m'.steps=m.steps+1:=k.steps;exact ⟨k.told,by show m.steps≤m'.steps;omega,fun hh=>by show m'.steps≤_;omega,fun x hx=>by (cases hx),fun _=>.inr (k.stop rfl)⟩
   ·rename_i md' m' hb;have k:=CX hb;have ks:m'.steps=m.steps+1:=k.steps;exact (tq n h).from k.told (by omega) (fun hh=>by omega) (k.go _ rfl)
 | n+1,.val x,m,r,h=>by
  rw [cF] at h
  split at h
  ·rename_i hl;cases h;exact ⟨rfl,Int.le_refl _,fun h=>h,fun x hx=>⟨rfl,rfl,List.getLast?_eq_none_iff.1 hl⟩,fun hn=>by cases hn⟩
  ·split at h
   ·cases h
   ·rename_i m' hb;cases h;have k:=CZ hb;have ks:m'.steps=m.steps:=k.steps;exact ⟨k.told,by show m.steps≤m'.steps;omega,fun hh=>by show m'.steps≤_;omega,fun x hx=>by (cases hx),fun _=>.inr (k.stop rfl)⟩
   ·rename_i md' m' hb;have k:=CZ hb;have ks:m'.steps=m.steps:=k.steps;exact (tq n h).from k.told (by omega) (fun hh=>by omega) (k.go _ rfl)
def yM (X:Cx):Md→Rn→Nat
 | .go _ _,m=>3*(X.fuel - m.steps).toNat+m.aO.length
 | .val _,m=>3*(X.fuel - m.steps).toNat+m.aO.length+1
def C0 (Q:Env) (X:Cx) (Z:Ts) (r:Option Cl×Rn):Prop:=match r with
 | (none,m)=>m.kind=4∨(m.kind=3∧1≤m.stuck∧m.stuck≤4)
 | (some x,m)=>∃ S,jj Q S m.cells∧XT Q X S∧x.io=true∧∀ D,Z D→VT Q S x D
theorem C1 {Q:Env} {X:Cx} {Z:Ts} (hQ:pD Q):∀ (n:Nat) {md:Md} {m:Rn} {S:Sg} {P:Ts},jj Q S m.cells→XT Q X S→(∃ D,P D)→FU Q S P md→nT Q S Z m.aO.reverse P→m.steps≤X.fuel→yM X md m < n→∃ r,cF X n md m=some r∧C0 Q X Z r
 | 0,md,m,S,P,_,_,_,_,_,_,hn=>by omega
 | n+1,.go e v,m,S,P,bz,hx,hP,np,hf,hs,hn=>by
  rw [cF];rcases qz X m with ⟨h1,h2⟩ | ⟨h1,h2⟩
  ·rw [h2,if_pos rfl];exact ⟨_,rfl,.inl rfl⟩
  ·rw [h2,if_neg (by simp)];obtain ⟨r,hb,ho⟩:=aft (Z:=Z) (m:={ m with steps:=m.steps+1}) hQ bz hx hP np hf;have k:=CX hb;simp only [hb]
   match r,ho,k with
   | (none,m'),ho,k=>exact ⟨_,rfl,.inr ho⟩
   | (some md',m'),⟨S',P',a1,a2,a3,a4,a5⟩,k=>
    have ks:m'.steps=m.steps+1:=k.steps;have kf:m'.aO.length≤m.aO.length+1:=k.fl;refine C1 hQ n a1 a2 a3 a4 a5 (by omega) ?_;cases md'<;>(simp only [yM] at hn ⊢;omega)
 | n+1,.val x,m,S,P,bz,hx,hP,np,hf,hs,hn=>by
  rw [cF];cases hl:m.aO.getLast? with
  | none=>
   have he:=List.getLast?_eq_none_iff.1 hl;rw [he] at hf;exact ⟨_,rfl,S,bz,hx,np.1,fun D hD=>np.2 D (hf D hD)⟩
  | some f=>
   have eD:m.aO.reverse=f::m.aO.dropLast.reverse:=by
    have h1:m.aO≠[]:=fun e=>by rw [e] at hl;cases hl
    have h2:m.aO.getLast h1=f:=by
     rw [List.getLast?_eq_some_getLast h1] at hl;exact Option.some.inj hl
    conv=>lhs;rw [← List.dropLast_concat_getLast h1]
    rw [LL,h2]
   have hlen:m.aO.length=m.aO.dropLast.length+1:=by
    have:=congrArg List.length eD
    simpa using this
   rw [eD] at hf;obtain ⟨r,hb,ho⟩:=afv (Z:=Z) (m:={ m with aO:=m.aO.dropLast}) hQ bz hx np.1 np.2 hf;have k:=CZ hb;simp only [hb]
   match r,ho,k with
   | (none,m'),ho,k=>exact ⟨_,rfl,.inr ho⟩
   | (some md',m'),⟨S',P',a1,a2,a3,a4,a5⟩,k=>
    have ks:m'.steps=m.steps:=k.steps;have kf:m'.aO.length≤m.aO.dropLast.length+1:=k.fl;have kv:∀ x,some md'=some (Md.val x)→m'.aO.length≤m.aO.dropLast.length:=k.CW;refine C1 hQ n a1 a2 a3 a4 a5 (by omega) ?_;cases md' with
    | go e v=>simp only [yM] at hn ⊢;omega
    | val y=>have:=kv y rfl;simp only [yM] at hn ⊢;omega
theorem C2 {X X':Cx} (hd:X'.ak=X.ak) (hf:X'.fields=X.fields) (hu:X.fuel≤X'.fuel):∀ (n:Nat) {md:Md} {m:Rn} {r:Option Cl×Rn},m.steps≤X.fuel→cF X n md m=some r→¬ (r.1=none∧r.2.kind=4)→cF X' n md m=some r
 | 0,md,m,r,_,h,_=>by cases md<;>(rw [cF] at h;cases h)
 | n+1,.go e v,m,r,hs,h,ga=>by
  rw [cF] at h ⊢;rcases qz X m with ⟨h1,h2⟩ | ⟨h1,h2⟩
  ·rw [h2,if_pos rfl] at h;cases h;exact absurd ⟨rfl,rfl⟩ ga
  ·rw [h2,if_neg (by simp)] at h;have h3:fi X' m=(true,{ m with steps:=m.steps+1}):=by unfold fi;rw [if_neg (by omega)]
   have h4:∀ m,iS X' e v m=iS X e v m:=fun m=>by unfold iS;rw [hd,hf]
   rw [h3,if_neg (by simp)];simp only [h4];simp only at h
   split at h
   ·cases h
   ·cases h;rfl
   ·rename_i md' m' hb;have k:=CX hb;have ks:m'.steps=m.steps+1:=k.steps;exact C2 hd hf hu n (by omega) h ga
 | n+1,.val x,m,r,hs,h,ga=>by
  rw [cF] at h ⊢
  split at h
  ·exact h
  ·split at h
   ·cases h
   ·exact h
   ·rename_i md' m' hb;have k:=CZ hb;have ks:m'.steps=m.steps:=k.steps;exact C2 hd hf hu n (by omega) h ga
end
section
open Go Go.W
theorem TR (a:Option Addr) (c:Nat):(if c=0 then a else Option.map (fun x=>x) a)=a:=by
 split
 ·rfl
 ·cases a<;>rfl
theorem TT {w:World} {T sz n c:Nat} {a:Option Addr} {xs:List Value} {fp:Option Nat} (h:dx w T sz (.slice a n c) xs n fp) {k:Nat} (hk:k≤n):dx w T sz (.slice a k c) (xs.take (k*sz)) k fp:=by
 obtain ⟨h1,h2⟩:=h;refine ⟨by rw [List.length_take,h1];exact Nat.min_eq_left (Nat.mul_le_mul_right _ hk),?_⟩;rcases h2 with ⟨e,rfl,rfl⟩ | ⟨b,c',sp,e,rfl,h3,h4,h5⟩
 ·cases e;obtain rfl:k=0:=by omega
  exact .inl ⟨rfl,rfl,rfl⟩
 ·cases e;refine .inr ⟨b,c,xs.drop (k*sz)++sp,rfl,rfl,?_,?_,by omega⟩
  ·rw [← List.append_assoc,List.take_append_drop];exact h3
  ·rw [← List.append_assoc,List.take_append_drop];exact h4
def FW (w:World) (B:Nat→Prop) (bs:List Nat) (v:Value):Option Cl→Prop
 | some x=>∃ u,v = .tuple #[u,.bool true]∧iL w B bs x u∧x.io=true
 | none=>v = .tuple #[.nilIface,.bool false]
def wK (w w':World) (S:Nat→Prop) (r md mf:Nat) (bs:List Nat) (X:Cx) (v:Value) (x:Option Cl×Rn):Prop:=
 ∃ S' cP,cK w' S' r md mf cP X x.2∧dR S S' w∧(∀ (c b:Nat),bs[c]? = some b→cP[c]? = some b)∧FW w' (Out S' w') cP v x.1
theorem wK.qs {w w':World} {S:Nat→Prop} {r md mf:Nat} {bs:List Nat} {X:Cx} {v:Value} {x:Option Cl×Rn} (h:wK w w' S r md mf bs X v x):∃ a b,v = .tuple #[a,b]:=by
 obtain ⟨S',cP,_,_,_,h⟩:=h
 match x,h with
 | (some x,m),⟨u,e,_⟩=>exact ⟨_,_,e⟩
 | (none,m),e=>exact ⟨_,_,e⟩
theorem TU {w w' dP:World} {S S':Nat→Prop} {r md mf:Nat} {bs cP:List Nat} {X:Cx} {v:Value} {x:Option Cl×Rn} (hg:dR S S' w) (hb:∀ (c b:Nat),bs[c]? = some b→cP[c]? = some b) (hm:Mod S w w') (h:wK w' dP S' r md mf cP X v x∧Mod S' w' dP):wK w dP S r md mf bs X v x∧Mod S w dP:=by
 obtain ⟨⟨S2,rO,h1,h2,h3,h4⟩,h5⟩:=h;exact ⟨⟨S2,rO,h1,mz hg h2 hm.size,fun c b hc=>h3 c b (hb c b hc),h4⟩,lG hm hg h5⟩
theorem cK.pop {w w':World} {S:Nat→Prop} {r md mf:Nat} {bs:List Nat} {X:Cx} {m:Rn} {vt:Value} {af:Option Addr} {cf:Nat} {dh bR:List (List Value)} {cB cD:Option Nat} (h:iq w S r md mf bs X m vt (.slice af bR.length cf) dh bR cB cD) (hm:Mod (· = r) w w')
   (hb:w'.heap[r]? = some (.cells (FC X m md mf vt (.slice af (bR.length - 1) cf)).toArray FB (0,0))):cK w' S r md mf bs X { m with aO:=m.aO.dropLast}:=by
 obtain ⟨n1,n2,n3,n4,n5,n6,n7,n8,n9⟩:=h.ne;have Sr:∀ b,b=r→S b:=fun b hb=>by rw [hb];exact h.bt _ (by simp)
 have bB:=hm.aU Sr;have hlen:=h.aO.at.1;have hrow:∀ x∈bR,x.length=5:=fun x hx=>by
  obtain ⟨i,hi,rfl⟩:=List.getElem_of_mem hx;exact (h.aO.at.2 i _ _ (List.getElem?_eq_getElem hi) (List.getElem?_eq_getElem (by omega))).len
 have afw:∀ (l:List (List Value)) (k:Nat),(∀ x∈l,x.length=5)→(l.flatMap id).take (k*5)=(l.take k).flatMap id:=by
  intro l
  induction l with
  | nil=>intro k _;simp
  | cons x l ih=>
   intro k hx;cases k with
   | zero=>simp
   | succ k=>
    have TV:=hx x (by simp);rw [List.flatMap_cons,List.take_succ_cons,List.flatMap_cons,← ih k (fun y hy=>hx y (by simp [hy])),Nat.add_mul,Nat.one_mul];rw [List.take_append,show (id x).length=5 from TV,Nat.add_sub_cancel,List.take_of_length_le (by rw [show (id x).length=5 from TV];omega)]
 have TW:=TT (h.pA.mod hm (fun b hb e=>(n5 b hb).1 e.symm)) (k:=bR.length - 1) (by omega);rw [afw bR _ hrow] at TW;have fJ:(bR.take (bR.length - 1)).length=bR.length - 1:=by rw [List.length_take];omega
 have FX:m.aO.dropLast=m.aO.take (m.aO.length - 1):=List.dropLast_eq_take;have afx:cX (nj w' (Out S w') bs) (bR.take (bR.length - 1)) m.aO.dropLast:=by
  rw [FX,← hlen];have key:∀ (l:List (List Value)) (fs:List Fm) (k:Nat),cX (nj w (Out S w) bs) l fs→cX (nj w' (Out S w') bs) (l.take k) (fs.take k):=by
   intro l
   induction l with
   | nil => intro fs k ha; cases fs with
            | nil=>simp;trivial
            | cons _ _=>exact ha.elim
   | cons x l ih=>
    intro fs k ha;cases fs with
    | nil=>exact ha.elim
    | cons f fs=>
     cases k with
     | zero=>trivial
     | succ k=>exact ⟨ha.1.up bB aK (aX bB) (fun _ _ h=>h),ih fs k ha.2⟩
  exact key _ _ _ h.aO
 refine ⟨vt,.slice af (bR.length - 1) cf,dh,bR.take (bR.length - 1),cB,cD,hb,h.told.mod hm (fun b hb e=>(n4 b hb).1 e.symm),h.items,by rw [fJ];exact TW,afx,h.blocks,h.bt,fun b hb=>Nat.lt_of_lt_of_le (h.lt b hb) hm.size,h.len,?_,
  h.ak.mod hm (fun e=>n1 e.symm) (fun _ _ x=>x),h.fields.mod hm (fun e=>n2 e.symm) (fun _ _ x=>x),h.steps,fun p hp=>by
   obtain ⟨a1,a2,a3⟩:=h.kept p hp
   exact ⟨hm.at a1 (fun e=>a3 (by rw [e];simp)),a2,a3⟩⟩
 intro i b x hi hx;obtain ⟨v,h1,h2⟩:=h.cell i b x hi hx;exact ⟨v,hm.at h1 (fun e=>(n6 b (List.mem_of_getElem? hi)).1 e.symm),h2.up bB aK (aX bB) (fun _ _ h=>h)⟩
theorem LQ {n:Nat} {w:World} {S:Nat→Prop} {r md mf:Nat} {bs:List Nat} {X:Cx} {m:Rn} {e:Ex} {nm:cr} {ve vn:Value} {bZ:Option Cl×Rn} (h:cK w S r md mf bs X m) (he:nh w (Out S w) ve e) (hn:gH w (Out S w) bs nm vn) (hlen:(m.aO.length:Int)≤m.steps+1) (aR:cF X n (.go e nm) m=some bZ) :
   a8 Tryz.prog 35 [ptr r,ve,vn] w fun v w'=>wK w w' S r md mf bs X v bZ∧Mod S w w':=by
 refine YU.calls rfl ?_;unfold H6;(try simp only [go_sem,simprocAttr])
 refine fL (fun z ρ w'=>Mod S w w'∧∃ (S':Nat→Prop) (cP:List Nat) (m':Rn) (d:Md) (v1 v2 v8:Value),cK w' S' r md mf cP X m'∧dR S S' w∧(∀ (c b:Nat),bs[c]? = some b→cP[c]? = some b)∧Ay w' (Out S' w') cP (.tuple #[v1,v2,v8,.bool true]) (some d)∧(m'.aO.length:Int)≤m'.steps+1∧cF X z d m'=some bZ ∧
  ρ.get 0=some (ptr r)∧ρ.get 1=some v1∧ρ.get 2=some v2∧ρ.get 8=some v8) n ⟨.refl _ _,S,bs,m,.go e nm,ve,vn,.nilIface,h,nr,fun _ _ h=>h,⟨ve,vn,rfl,he,hn⟩,hlen,aR,rfl,rfl,rfl,rfl⟩ ?_
 rintro z ρ w1 ⟨aj,S1,eR,m1,d,v1,v2,v8,fx,eu,my,np,oB,db,g0,g1,g2,g8⟩;have FY:m1.steps≤1048576∧0≤m1.steps:=by
  obtain ⟨_,_,_,_,_,_,hh⟩:=fx;have:=hh.steps;omega
 unfold O9
 match z,d,np,db with
 | 0,.go _ _,_,db=>rw [cF] at db;cases db
 | 0,.val _,_,db=>rw [cF] at db;cases db
 | z+1,.go e nm,⟨ve,vn,ee,he,hn⟩,db=>
  obtain ⟨rfl,rfl,rfl⟩:v1=ve∧v2=vn∧v8 = .nilIface:=by
   simp only [Value.tuple.injEq,Array.mk.injEq,List.cons.injEq] at ee;exact ⟨ee.1,ee.2.1,ee.2.2.1⟩
  have hp:∃ a,v1 = .pointer (some a):=by obtain ⟨a,_,rfl,_⟩:=he;exact ⟨a,rfl⟩
  obtain ⟨ap,rfl⟩:=hp;rw [cF] at db;(try simp only [go_sem,simprocAttr,g0,g1,g2,g8]);refine aI (by rfl) ?_;refine (SA fx).mono ?_;rintro _ w2 ⟨rfl,eY,ai⟩;have Sr:∀ y,y=r→S1 y:=fun y hy=>by obtain ⟨_,_,_,_,_,_,hx⟩:=fx;rw [hy];exact hx.bt _ (by simp)
  have rQ:=ai.aU Sr;have aY:=lG aj eu rQ;rcases qz X m1 with ⟨q1,q2⟩ | ⟨q1,q2⟩
  ·rw [q2,if_pos rfl] at db;rw [q2] at eY ⊢;cases db;(try simp only [go_sem,simprocAttr,aE,RV.ev,aF]);exact ⟨⟨S1,eR,eY,eu,my,rfl⟩,aY⟩
  ·rw [q2,if_neg (by simp)] at db;rw [q2] at eY ⊢;simp only at db;have sy:=he.up rQ aK (aX rQ) (B':=Out S1 w2);have jY:=hn.up rQ aK (aX rQ) (fun _ _ h=>h);cases hb:iS X e nm { m1 with steps:=m1.steps+1} with
   | none=>rw [hb] at db;cases db
   | some rr=>
   rw [hb] at db;have cQ:=CX hb;(try simp only [go_sem,simprocAttr]);refine aI (by rfl) ?_;refine (ae7 eY sy jY (show m1.aO.length≤2097152 by omega) hb).mono ?_;rintro v w3 ⟨⟨S3,yN,ki,qu,LR,kN⟩,aq⟩;have C3:=mz eu qu aY.size;have bn:=lG aY eu aq;have C4:∀ (c b:Nat),bs[c]? = some b→yN[c]? = some b:=fun c b h=>LR c b (my c b h)
   match rr,db,kN,cQ,ki with
   | (none,m'),db,kN,cQ,ki=>
    have kN:v=_:=kN;subst kN;cases db;(try simp only [go_sem,simprocAttr,aE,RV.ev,aF]);exact ⟨⟨S3,yN,ki,C3,C4,rfl⟩,bn⟩
   | (some md',m'),db,kN,cQ,ki=>
    obtain ⟨a,b,c,d,rfl⟩:=kN.qs;have hd:d = .bool true:=by
     match md',kN with
     | .go _ _,⟨_,_,e1,_⟩=>cases e1;rfl
     | .val _,⟨_,e1,_⟩=>cases e1;rfl
    subst hd;have ks:m'.steps=m1.steps+1:=cQ.steps;have kf:m'.aO.length≤m1.aO.length+1:=cQ.fl;(try simp only [go_sem,simprocAttr]);exact ⟨_,Nat.lt_succ_self z,bn,S3,yN,m',md',a,b,c,ki,C3,C4,kN,by omega,db,rfl,rfl,rfl⟩
 | z+1,.val x,⟨u,ee,hu,hv⟩,db=>
  obtain ⟨rfl,rfl,rfl⟩:v1 = .pointer none∧v2 = .pointer none∧v8=u:=by
   simp only [Value.tuple.injEq,Array.mk.injEq,List.cons.injEq] at ee;exact ⟨ee.1,ee.2.1,ee.2.2.1⟩
  rw [cF] at db;obtain ⟨vt,vf,dh,bR,cB,cD,hh⟩:=fx;have kJ:=hh.aO.at.1;cases hl:m1.aO.getLast? with
  | none=>
   rw [hl] at db;cases db;have h0:=List.getLast?_eq_none_iff.1 hl;have b0:((bR.length:Int) == 0)=true:=by rw [kJ,h0];try rfl
   obtain ⟨af,cf,rfl,oI,_⟩:=hh.pA.val;(try simp only [go_sem,simprocAttr,Option.isNone_none,Bool.not_true,g0,g1,g2,g8,cell_of hh.box,b0,aE,RV.ev,aF]);exact ⟨⟨S1,eR,⟨_,_,_,_,_,_,hh⟩,eu,my,(show FW w1 (Out S1 w1) eR _ (some x) from ⟨_,rfl,hu,hv⟩)⟩,aj⟩
  | some f=>
   rw [hl] at db;simp only at db;have bo:m1.aO≠[]:=fun e=>by rw [e] at hl;cases hl
   have Bj:0 < bR.length:=by rw [kJ];exact List.length_pos_iff.2 bo
   have b0:((bR.length:Int) == 0)=false:=by
    have:¬ (bR.length:Int)=0:=by omega
    simpa using this
   have e1:IntKind.i64.wrap ((bR.length:Int) - 1)=((bR.length - 1:Nat):Int):=by rw [dv (by omega) (by omega)];omega
   have b1:(0:Int)≤((bR.length - 1:Nat):Int)∧((bR.length - 1:Nat):Int) < bR.length:=by omega
   obtain ⟨bF,cf,sp,rfl,vM,FJ,oI,_⟩:=hh.pA.pos Bj;have b3:(0:Int)≤((bR.length - 1:Nat):Int)∧((bR.length - 1:Nat):Int)≤cf:=by omega
   have hrow:∀ x∈bR,x.length=5:=fun x hx=>by
    obtain ⟨i,hi,rfl⟩:=List.getElem_of_mem hx;exact (hh.aO.at.2 i _ _ (List.getElem?_eq_getElem hi) (List.getElem?_eq_getElem (by omega))).len
   have hk:bR.length - 1 < bR.length:=by omega
   have jt:(bR.flatMap id).length=bR.length*5:=hh.pA.1;have bU:gp w1 5 (.pointer (some ⟨bF,(bR.length - 1)*5,none⟩))=some (.agg (bR[bR.length - 1]).toArray):=by
    rw [iN FJ (by rw [List.length_append,jt];omega),List.drop_append_of_le_length (by rw [jt];omega),List.take_append_of_le_length (by rw [List.length_drop,jt];omega),Pu hrow hk]
   have pF:nj w1 (Out S1 w1) eR bR[bR.length - 1] f:=hh.aO.at.2 _ _ _ (List.getElem?_eq_getElem hk) (by rw [kJ,← List.getLast?_eq_getElem?];exact hl);generalize bR[bR.length - 1]=row at bU pF;(try simp only [go_sem,simprocAttr,Option.isNone_none,Bool.not_true,g0,g1,g2,g8,cell_of hh.box,b0,e1]);(try simp only [go_sem,simprocAttr,bq,br,b1,oo,Nat.zero_add,bU]);have AM:=pF.len;have sF:=cO hh.box;have hlF:=cO FJ;refine cM ?_;intro w2 au ai bK;have ai:Mod (fun _=>False) w1 w2:=ai.eF;refine ⟨⟨ai.bN _ hlF _root_.id,ai.bN _ sF _root_.id⟩,?_⟩;have au:w2.heap[w1.heap.size]? = some (.cells [I 0,.pointer none,.pointer none,.pointer none,I 0].toArray 136 (0,0)):=au;refine bL (vs:=row) (cs:=[I 0,.pointer none,.pointer none,.pointer none,I 0]) rfl rfl au AM rfl pF.one ?_;intro w3 aM aq eV;have qb:Mod (fun _=>False) w1 w3:=ai.step aq (fun b hb hl=>by have e:b=w1.heap.size:=hb;omega);have uL:=qb.at hh.box _root_.id;(try simp only [go_sem,simprocAttr,cell_of uL,e1]);(try simp only [go_sem,simprocAttr,bq,br,cell_of uL,e1,b3,TR,ite_self]);have afy:w3.drew.heap[r]? = _:=uL;refine iY (b:=r) (off:=11) (v:=.slice (some ⟨bF,0,none⟩) (bR.length - 1) cf) rfl rfl afy rfl (by simp) ?_;intro w4 ba aA eG;have aA:Mod (· = r) w3 w4:=aA.eF;have pC:=cK.pop (hh.aB qb) aA ba;have Sr:∀ y,y=r→S1 y:=fun y hy=>by rw [hy];exact hh.bt _ (by simp)
   have mu:Mod S1 w1 w4:=(an qb).trans (aA.aU Sr);have LS:w4.heap[w1.heap.size]? = some (.cells row.toArray 136 (0,0)):=aA.at aM (fun e=>by have:=sF;omega);have afz:=pF.up mu aK (aX mu) (fun _ _ h=>h);have LU:=hu.up mu aK (aX mu) (fun _ _ h=>h);cases hb:iT f x { m1 with aO:=m1.aO.dropLast} with
   | none=>rw [hb] at db;cases db
   | some rr=>
   rw [hb] at db;have cQ:=CZ hb;have FX:m1.aO.dropLast.length=m1.aO.length - 1:=List.length_dropLast;(try simp only [go_sem,simprocAttr,az (n:=5) (cs:=row) LS AM]);refine aI (by rfl) ?_;refine (afb pC afz LU hv (show m1.aO.dropLast.length≤2097152 by omega) hb).mono ?_;rintro v w5 ⟨⟨S3,yN,ki,qu,LR,kN⟩,aD⟩;have eM:=lG aj eu mu;have C3:=mz eu qu eM.size;have fg:=lG eM eu aD;have C4:∀ (c b:Nat),bs[c]? = some b→yN[c]? = some b:=fun c b h=>LR c b (my c b h)
   match rr,db,kN,cQ,ki with
   | (none,m'),db,kN,cQ,ki=>
    have kN:v=_:=kN;subst kN;cases db;(try simp only [go_sem,simprocAttr,aE,RV.ev,aF]);exact ⟨⟨S3,yN,ki,C3,C4,rfl⟩,fg⟩
   | (some md',m'),db,kN,cQ,ki=>
    obtain ⟨a,b,c,d,rfl⟩:=kN.qs;have hd:d = .bool true:=by
     match md',kN with
     | .go _ _,⟨_,_,e1,_⟩=>cases e1;rfl
     | .val _,⟨_,e1,_⟩=>cases e1;rfl
    subst hd;have ks:m'.steps=m1.steps:=cQ.steps;have kf:m'.aO.length≤m1.aO.dropLast.length+1:=cQ.fl;(try simp only [go_sem,simprocAttr]);exact ⟨_,Nat.lt_succ_self z,fg,S3,yN,m',md',a,b,c,ki,C3,C4,kN,by omega,db,rfl,rfl,rfl⟩
theorem afA {n:Nat} {w:World} {S:Nat→Prop} {r md mf:Nat} {bs:List Nat} {X:Cx} {m:Rn} {e:Ex} {nm:cr} {ve vn:Value} {bZ:Option Cl×Rn} (h:cK w S r md mf bs X m) (he:nh w (Out S w) ve e) (hn:gH w (Out S w) bs nm vn) (hlen:(m.aO.length:Int)≤m.steps+1) (aR:cF X n (.go e nm) m=some bZ) :
   a8 Tryz.prog 26 [ptr r,ve,vn] w fun v w'=>wK w w' S r md mf bs X v bZ∧Mod S w w':=by
 refine YH.calls rfl ?_;unfold HW;(try simp only [go_sem,simprocAttr]);refine aI (by rfl) ?_;refine (LQ h he hn hlen aR).mono ?_;rintro v w1 hR;obtain ⟨a,b,rfl⟩:=hR.1.qs;(try simp only [go_sem,simprocAttr,aE,RV.ev,aF]);exact hR
theorem afB {n c b:Nat} {w:World} {S:Nat→Prop} {r md mf:Nat} {bs:List Nat} {X:Cx} {m:Rn} {bZ:Option Cl×Rn} (h:cK w S r md mf bs X m) (hc:bs[c]? = some b) (hlen:(m.aO.length:Int)≤m.steps) (aR:fW X n c m=some bZ) :
   a8 Tryz.prog 38 [ptr r,ptr b] w fun v w'=>wK w w' S r md mf bs X v bZ∧Mod S w w':=by
 have bz:m.steps≤1048576:=by obtain ⟨_,_,_,_,_,_,hh⟩:=h;have:=hh.steps;omega
 have cQ:=yK m c;unfold fW at aR;refine YX.calls rfl ?_;unfold H9;(try simp only [go_sem,simprocAttr]);refine aI (by rfl) ?_;refine (Ll h hc (by omega)).mono ?_;rintro v w1 ⟨⟨S1,eR,fx,eu,my,qA⟩,aj⟩;generalize dC m c=rr at aR cQ fx qA
 match rr,aR,cQ,fx,qA with
 | (none,m'),aR,cQ,fx,qA=>
  have qA:v=_:=qA;subst qA;cases aR;(try simp only [go_sem,simprocAttr,aE,RV.ev,aF]);exact ⟨⟨S1,eR,fx,eu,my,rfl⟩,aj⟩
 | (some (.val x),m'),aR,cQ,fx,⟨u,e1,hu,hv⟩=>
  subst e1;cases aR;(try simp only [go_sem,simprocAttr,Option.isNone_none,aE,RV.ev,aF]);exact ⟨⟨S1,eR,fx,eu,my,(show FW w1 (Out S1 w1) eR _ (some x) from ⟨_,rfl,hu,hv⟩)⟩,aj⟩
 | (some (.go e nm),m'),aR,cQ,fx,⟨ve,vn,e1,he,hn⟩=>
  subst e1;have hp:∃ a,ve = .pointer (some a):=by obtain ⟨a,_,rfl,_⟩:=he;exact ⟨a,rfl⟩
  obtain ⟨ap,rfl⟩:=hp;have ks:m'.steps=m.steps:=cQ.steps;have kf:m'.aO.length≤m.aO.length+1:=cQ.fl;(try simp only [go_sem,simprocAttr]);refine aI (by rfl) ?_;refine (LQ fx he hn (show (m'.aO.length:Int)≤m'.steps+1 by omega) aR).mono ?_;rintro v w2 hR;obtain ⟨a,b,rfl⟩:=hR.1.qs;(try simp only [go_sem,simprocAttr,aE,RV.ev,aF]);exact TU eu my aj hR
theorem afC {n c b:Nat} {w:World} {S:Nat→Prop} {r md mf:Nat} {bs:List Nat} {X:Cx} {m:Rn} {f:Cl} {u:Value} {bZ:Option Cl×Rn} (h:cK w S r md mf bs X m) (hc:bs[c]? = some b) (hu:iL w (Out S w) bs f u) (hv:f.io=true) (hlen:(m.aO.length:Int)≤m.steps) (aR:qn X n f c m=some bZ) :
   a8 Tryz.prog 27 [ptr r,u,ptr b] w fun v w'=>wK w w' S r md mf bs X v bZ∧Mod S w w':=by
 unfold qn at aR;cases hg:lE m f c with
 | none=>rw [hg] at aR;cases aR
 | some rr=>
 rw [hg] at aR;have cQ:=CY hg;refine YI.calls rfl ?_;unfold HX;(try simp only [go_sem,simprocAttr]);refine aI (by rfl) ?_;refine (SI h hc hu hv hg).mono ?_;rintro v w1 ⟨⟨S1,eR,fx,eu,my,qA⟩,aj⟩
 match rr,aR,cQ,fx,qA with
 | (none,m'),aR,cQ,fx,qA=>
  have qA:v=_:=qA;subst qA;cases aR;(try simp only [go_sem,simprocAttr,aE,RV.ev,aF]);exact ⟨⟨S1,eR,fx,eu,my,rfl⟩,aj⟩
 | (some (.val x),m'),aR,cQ,fx,⟨u,e1,hu,hv⟩=>
  subst e1;cases aR;(try simp only [go_sem,simprocAttr,Option.isNone_none,aE,RV.ev,aF]);exact ⟨⟨S1,eR,fx,eu,my,(show FW w1 (Out S1 w1) eR _ (some x) from ⟨_,rfl,hu,hv⟩)⟩,aj⟩
 | (some (.go e nm),m'),aR,cQ,fx,⟨ve,vn,e1,he,hn⟩=>
  subst e1;have hp:∃ a,ve = .pointer (some a):=by obtain ⟨a,_,rfl,_⟩:=he;exact ⟨a,rfl⟩
  obtain ⟨ap,rfl⟩:=hp;have ks:m'.steps=m.steps:=cQ.steps;have kf:m'.aO.length≤m.aO.length+1:=cQ.fl;(try simp only [go_sem,simprocAttr]);refine aI (by rfl) ?_;refine (LQ fx he hn (show (m'.aO.length:Int)≤m'.steps+1 by omega) aR).mono ?_;rintro v w2 hR;obtain ⟨a,b,rfl⟩:=hR.1.qs;(try simp only [go_sem,simprocAttr,aE,RV.ev,aF]);exact TU eu my aj hR
end
section
open Go Go.W
theorem iq.tell {w w3 w4:World} {S:Nat→Prop} {r md mf:Nat} {bs:List Nat} {X:Cx} {m:Rn} {vt vf v3:Value} {dh bR:List (List Value)} {cB cD iu:Option Nat} {row:List Value} {it:ByteArray×Int} (h:iq w S r md mf bs X m vt vf dh bR cB cD) (aq:Mod (fun b=>cB=some b) w w3)
   (qo:dx w3 71 2 v3 (dh.flatMap id++row) (dh.length+1) iu) (j9:∀ b,iu=some b→cB=some b∨w.heap.size≤b) (hit:Lh row it) (aA:Mod (· = r) w3 w4) (ba:w4.heap[r]? = some (.cells (FC X m md mf v3 vf).toArray FB (0,0))) :
   ∃ S',cK w4 S' r md mf bs X { m with told:=m.told++[it]}∧dR S S' w∧Mod S w w4:=by
 obtain ⟨n1,n2,n3,n4,n5,n6,n7,n8,n9⟩:=h.ne;have Sr:∀ b,b=r→S b:=fun b hb=>by rw [hb];exact h.bt _ (by simp)
 have St:∀ b,cB=some b→S b:=fun b hb=>h.bt _ (by simp [hb])
 have bB:Mod S w w4:=(aq.aU St).trans (aA.aU Sr);have z3:=aq.size;have z4:=aA.size
 have hg:dR S (fun b=>S b∨iu=some b) w:=⟨fun b hb=>.inl hb,fun b hb=>by
  rcases hb with h | h
  ·exact .inl h
  ·rcases j9 b h with h | h
   ·exact .inl (St b h)
   ·exact .inr h⟩
 have eJ:=rK hg bB.size;have lF:∀ b∈jI r md mf bs cB cD,b < w.heap.size:=fun b hb=>h.lt b (h.bt b hb)
 have lr:=lF r (by simp);have ld:=lF md (by simp);have lmf:=lF mf (by simp);have lf':∀ b,cD=some b→b < w.heap.size:=fun b hb=>lF b (by simp [hb])
 have lb:∀ b∈bs,b < w.heap.size:=fun b hb=>lF b (by simp [hb])
 refine ⟨fun b=>S b∨iu=some b,⟨v3,vf,dh++[row],bR,iu,cD,?_⟩,hg,bB⟩;refine ⟨ba,?_,h.items.snoc hit,?_,?_,?_,?_,?_,h.len,?_,?_,?_,h.steps,fun p hp=>?_⟩
 rotate_left 9
 ·obtain ⟨a1,a2,a3⟩:=h.kept p hp;have a4:=cO a1;simp only [jI,List.mem_cons,List.mem_append,Option.mem_toList,not_or] at a3 ⊢;obtain ⟨c1,c2,c3,⟨c4,c5⟩,c6⟩:=a3
  exact ⟨aA.at (aq.at a1 (fun e=>c4 (by rw [e]))) c1,.inl a2,c1,c2,c3,⟨fun e=>by
   rcases j9 _ e with h | h
   ·exact c4 h
   ·omega,c5⟩,c6⟩
 ·have pc:=qo.mod aA (fun b hb e=>by
   rcases j9 b hb with h | h
   ·exact (n4 b h).1 e.symm
   ·omega)
  rw [BT,List.length_append];exact pc
 ·exact (h.pA.mod aq (fun b hb e=>n7 b b e hb rfl)).mod aA (fun b hb e=>(n5 b hb).1 e.symm)
 ·exact h.aO.imp (fun _ _ x=>x.up bB aK eJ (fun _ _ h=>h))
 ·refine Lj h.FE ⟨n1,n2,n3⟩ (fun b hb=>?_) n5 n6 (fun a b ha hb=>?_) (fun a ha du=>?_) n9
  ·rcases j9 b hb with h | h
   ·exact n4 b h
   ·exact ⟨by omega,by omega,by omega⟩
  ·rcases j9 a ha with h | h
   ·exact n7 a b h hb
   ·have:=lf' b hb;omega
  ·rcases j9 a ha with h | h
   ·exact n8 a h du
   ·have:=lb a du;omega
 ·intro b hb;simp only [jI,List.mem_cons,List.mem_append,Option.mem_toList] at hb;rcases hb with rfl | rfl | rfl | (h1 | h1) | h1
  ·exact .inl (h.bt _ (by simp))
  ·exact .inl (h.bt _ (by simp))
  ·exact .inl (h.bt _ (by simp))
  ·exact .inr h1
  ·exact .inl (h.bt _ (by simp [h1]))
  ·exact .inl (h.bt _ (by simp [h1]))
 ·intro b hb;rcases hb with h1 | h1
  ·have:=h.lt b h1;omega
  ·have:=qo.lt h1;omega
 ·intro i b x hi hx;obtain ⟨v,h1,h2⟩:=h.cell i b x hi hx;have du:=List.mem_of_getElem? hi;exact ⟨v,aA.at (aq.at h1 (fun e=>n8 b e du)) (fun e=>(n6 b du).1 e.symm),h2.up bB aK eJ (fun _ _ h=>h)⟩
 ·exact (h.ak.mod aq (fun e=>(n4 md e).2.1 rfl) (fun _ _ x=>x)).mod aA (fun e=>n1 e.symm) (fun _ _ x=>x)
 ·exact (h.fields.mod aq (fun e=>(n4 mf e).2.2 rfl) (fun _ _ x=>x)).mod aA (fun e=>n2 e.symm) (fun _ _ x=>x)
end
section
open Go Go.W
def Cx.kp (X:Cx) (l:List (Nat×Obj)):Cx:={ X with aB:=l}
theorem TX (X:Cx) (l:List (Nat×Obj)) (m:Rn):fi (X.kp l) m=fi X m:=rfl
theorem afD (X:Cx) (l:List (Nat×Obj)) (e:Ex) (v:cr) (m:Rn):iS (X.kp l) e v m=iS X e v m:=rfl
theorem LV (X:Cx) (l:List (Nat×Obj)):∀ (n:Nat) (md:Md) (m:Rn),cF (X.kp l) n md m=cF X n md m
 | 0,md,m=>by cases md<;>rw [cF,cF]
 | n+1,.go e v,m=>by
  rw [cF,cF];simp only [TX,afD,LV X l n]
 | n+1,.val x,m=>by
  rw [cF,cF];simp only [LV X l n]
theorem afE (X:Cx) (l:List (Nat×Obj)) (n c:Nat) (m:Rn):fW (X.kp l) n c m=fW X n c m:=by
 unfold fW;simp only [LV]
theorem iq.afF {w w':World} {S:Nat→Prop} {r md mf:Nat} {bs:List Nat} {X:Cx} {m:Rn} {vt vf:Value} {dh bR:List (List Value)} {cB cD fp hZ:Option Nat} {K K':List (Nat×Obj)} (h:iq w S r md mf bs (X.kp K) m vt vf dh bR cB cD) (hK:∀ b,fp=some b→∃ o,(b,o)∈K)
   (hm:Mod (fun b=>fp=some b) w w') (j8:∀ b,hZ=some b→fp=some b∨w.heap.size≤b) (aP:∀ b,hZ=some b→b < w'.heap.size) (hK':∀ p∈K',hZ=some p.1∧w'.heap[p.1]? = some p.2) :
   iq w' (fun b=>S b∨hZ=some b) r md mf bs (X.kp K') m vt vf dh bR cB cD:=by
 have LW:∀ b,fp=some b→S b∧b∉jI r md mf bs cB cD:=fun b hb=>by
  obtain ⟨o,ho⟩:=hK b hb;exact ⟨(h.kept _ ho).2.1,(h.kept _ ho).2.2⟩
 have ne:∀ b∈jI r md mf bs cB cD,¬ fp=some b:=fun b hb e=>(LW b e).2 hb
 have ne':∀ b∈jI r md mf bs cB cD,¬ hZ=some b:=fun b hb e=>by
  rcases j8 b e with h1 | h1
  ·exact ne b hb h1
  ·have:=h.lt b (h.bt b hb);omega
 have bB:Mod S w w':=hm.aU (fun b hb=>(LW b hb).1)
 have eJ:∀ b,Out S w b→Out (fun b=>S b∨hZ=some b) w' b:=fun b hb=>⟨Nat.lt_of_lt_of_le hb.1 hm.size,fun hh=>by
  rcases hh with h1 | h1
  ·exact hb.2 h1
  ·rcases j8 b h1 with h2 | h2
   ·exact hb.2 (LW b h2).1
   ·have:=hb.1;omega⟩
 refine ⟨hm.at h.box (ne r (by simp)),h.told.mod hm (fun b hb=>ne b (by simp [hb])),h.items,h.pA.mod hm (fun b hb=>ne b (by simp [hb])),h.aO.imp (fun _ _ x=>x.up bB aK eJ (fun _ _ h=>h)),h.blocks,fun b hb=>.inl (h.bt b hb),?_,h.len,?_,
  h.ak.mod hm (ne md (by simp)) (fun _ _ x=>x),h.fields.mod hm (ne mf (by simp)) (fun _ _ x=>x),h.steps,fun p hp=>?_⟩
 ·rintro b (hb | hb)
  ·exact Nat.lt_of_lt_of_le (h.lt b hb) hm.size
  ·exact aP b hb
 ·intro i b x hi hx;obtain ⟨v,h1,h2⟩:=h.cell i b x hi hx;exact ⟨v,hm.at h1 (ne b (by simp [List.mem_of_getElem? hi])),h2.up bB aK eJ (fun _ _ h=>h)⟩
 ·obtain ⟨h1,h2⟩:=hK' p hp;exact ⟨h2,.inr h1,fun hh=>ne' _ hh h1⟩
theorem cK.drop {w:World} {S:Nat→Prop} {r md mf:Nat} {bs:List Nat} {X:Cx} {m:Rn} {K:List (Nat×Obj)} (h:cK w S r md mf bs (X.kp K) m):cK w S r md mf bs (X.kp []) m:=by
 obtain ⟨vt,vf,dh,bR,cB,cD,h⟩:=h;exact ⟨vt,vf,dh,bR,cB,cD,h.box,h.told,h.items,h.pA,h.aO,h.blocks,h.bt,h.lt,h.len,h.cell,h.ak,h.fields,h.steps,fun p hp=>by cases hp⟩
abbrev C5:Nat:=82
structure pG (w w0:World) (bs:List Nat) (v:Value) (ws:List Nat) (rows:List Value) (fp:Option Nat) (K:List (Nat×Obj)):Prop where
 own:dx w C5 1 v rows ws.length fp
 all:cX (CH bs) rows ws
 new:∀ b,fp=some b→w0.heap.size≤b
 k1:∀ b,fp=some b→∃ o,(b,o)∈K
theorem pG.up {w w' w0:World} {S S':Nat→Prop} {r md mf:Nat} {bs bs0 cP afG:List Nat} {X:Cx} {m m':Rn} {v:Value} {ws:List Nat} {rows:List Value} {fp:Option Nat} {K:List (Nat×Obj)} (h:pG w w0 bs v ws rows fp K) (hR:cK w S r md mf bs0 (X.kp K) m) (hR':cK w' S' r md mf afG (X.kp K) m') (hb:∀ (c b:Nat),bs[c]? = some b→cP[c]? = some b):pG w' w0 cP v ws rows fp K:=by
 refine ⟨⟨h.own.1,?_⟩,wG (fun _ _ x=>by obtain ⟨y,e,h⟩:=x;exact ⟨y,e,hb _ _ h⟩) h.all,h.new,h.k1⟩;rcases h.own.2 with h1 | ⟨b,c,sp,h1,h2,h3,h4⟩
 ·exact .inl h1
 ·refine .inr ⟨b,c,sp,h1,h2,?_,h4⟩;obtain ⟨o,ho⟩:=h.k1 b h2;obtain ⟨_,_,_,_,_,_,hh⟩:=hR;obtain ⟨_,_,_,_,_,_,ze⟩:=hR';have e1:=(hh.kept _ ho).1;have e2:=(ze.kept _ ho).1;simp only at e1 e2;rw [h3] at e1;rw [e2,← e1]
theorem pG.push {w w' dP w0:World} {S:Nat→Prop} {r md mf:Nat} {bs:List Nat} {X:Cx} {m:Rn} {v v':Value} {ws:List Nat} {rows:List Value} {fp hZ:Option Nat} {K:List (Nat×Obj)} {c b:Nat} (h:pG w w0 bs v ws rows fp K) (hR:cK w S r md mf bs (X.kp K) m) (hc:bs[c]? = some b) (jq:Mod (fun _=>False) w w') (hz:w0.heap.size≤w.heap.size)
   (ho:dx dP C5 1 v' (rows++[ptr b]) (ws.length+1) hZ) (hm:Mod (fun b=>fp=some b) w' dP) (hf:∀ b,hZ=some b→fp=some b∨b=w'.heap.size∧b < dP.heap.size) :
   ∃ S' K',cK dP S' r md mf bs (X.kp K') m∧dR S S' w∧Mod S w dP∧pG dP w0 bs v' (ws++[c]) (rows++[ptr b]) hZ K':=by
 obtain ⟨vt,vf,dh,bR,cB,cD,hh⟩:=hR.aB jq;have TY:∀ b,fp=some b→S b:=fun b hb=>by
  obtain ⟨o,ho⟩:=h.k1 b hb;exact (hh.kept _ ho).2.1
 have z0:=jq.size;have j8:∀ b,hZ=some b→fp=some b∨w'.heap.size≤b:=fun b hb=>by
  rcases hf b hb with h1 | ⟨h1,_⟩
  ·exact .inl h1
  ·exact .inr (by omega)
 have aP:∀ b,hZ=some b→b < dP.heap.size:=fun b hb=>ho.lt hb
 have afH:cX (CH bs) (rows++[ptr b]) (ws++[c]):=h.all.snoc ⟨b,rfl,hc⟩;have afI:dx dP C5 1 v' (rows++[ptr b]) (ws++[c]).length hZ:=by rw [List.length_append];exact ho
 have afJ:∀ b,hZ=some b→w0.heap.size≤b:=fun b hb=>by
  rcases j8 b hb with h1 | h1
  ·exact h.new b h1
  ·omega
 have hg:dR S (fun b=>S b∨hZ=some b) w:=⟨fun b hb=>.inl hb,fun b hb=>by
  rcases hb with h1 | h1
  ·exact .inl h1
  ·rcases j8 b h1 with h2 | h2
   ·exact .inl (TY b h2)
   ·exact .inr (by omega)⟩
 obtain ⟨b',cap,sp,e1,e2,e3,_⟩:=ho.pos (by omega);refine ⟨_,[(b',.cells (rows++[ptr b]++sp).toArray C5 (0,0))],⟨vt,vf,dh,bR,cB,cD,hh.afF (K':=[(b',.cells (rows++[ptr b]++sp).toArray C5 (0,0))]) h.k1 hm j8 aP (fun p hp=>by rw [List.mem_singleton.1 hp];exact ⟨e2,e3⟩)⟩,hg,(an jq).trans (hm.aU TY),afI,afH,afJ,fun b hb=>?_⟩;rw [e2] at hb;cases hb;exact ⟨_,List.mem_singleton.2 rfl⟩
end
section
open Go Go.W
theorem LX {P:Program} {N id:Nat} {a:IR} {Q:Post} {ρ:Go.W.Env} {w:World} (h:cH P N a (jP id Q) ρ w):cH P N (.block id a) Q ρ w:=h
theorem LY {m m':Rn} {c:Nat} {x:Cl} (h:dC m c=(some (.val x),m')):m'=m∧x.io=true:=by
 unfold dC at h;cases hx:m.cells[c]? with
 | none=>rw [hx] at h;cases h
 | some y=>
  rw [hx] at h;cases y<;>first | (cases h;exact ⟨rfl,rfl⟩) | cases h
theorem wL {X:Cx} {n c:Nat} {m:Rn} {r:Option Cl×Rn} (h:fW X n c m=some r) (hf:m.aO=[]):yL X m r:=by
 unfold fW at h;have k:=yK m c;have kv:∀ x m',dC m c=(some (.val x),m')→m'=m∧x.io=true:=fun x m'=>LY
 generalize dC m c=rr at h k kv
 match rr,h,k,kv with
 | (none,m'),h,k,kv=>
  cases h;have ks:m'.steps=m.steps:=k.steps;exact ⟨k.told,by show m.steps≤m'.steps;omega,fun hh=>by show m'.steps≤_;omega,fun x hx=>by (cases hx),fun _=>.inr (k.stop rfl)⟩
 | (some (.val x),m'),h,k,kv=>
  cases h;obtain ⟨rfl,_⟩:=kv x m' rfl;exact ⟨rfl,Int.le_refl _,fun h=>h,fun _ _=>⟨rfl,rfl,hf⟩,fun hn=>by cases hn⟩
 | (some (.go e v),m'),h,k,kv=>
  have ks:m'.steps=m.steps:=k.steps;exact (tq n h).from k.told (by omega) (fun hh=>by omega) (k.go _ rfl)
theorem TZ {α β:Type} {P:α→β→Prop}:∀ {l:List α} {m:List β} (k:Nat),cX P l m→cX P (l.take k) (m.take k)
 | _,_,0,_=>trivial
 | [],[],k+1,_=>trivial
 | a::l,b::m,k+1,h=>⟨h.1,TZ k h.2⟩
 | [],_::_,k+1,h=>h.elim
 | _::_,[],k+1,h=>h.elim
theorem T2 {n:Nat} {w:World} {S:Nat→Prop} {r md mf:Nat} {bs:List Nat} {X:Cx} {m mF:Rn} {x:Cl} {u:Value} (h:cK w S r md mf bs (X.kp []) m) (hu:iL w (Out S w) bs x u) (hv:x.io=true) (eD:m.aO=[]) (nB:(m.told.length:Int)≤m.steps) (aR:eC X n x [] m=some mF) :
   a8 Tryz.prog 29 [ptr r,u] w fun _ w'=>(∃ S' cP,cK w' S' r md mf cP (X.kp []) mF∧dR S S' w)∧Mod S w w':=by
 refine YK.calls rfl ?_;unfold HZ;(try simp only [go_sem,Nat.reduceAdd,Nat.reduceEqDiff,Nat.reduceLT,Nat.reduceLeDiff,Nat.reduceMul,reduceCtorEq,↓reduceIte])
 refine fL (fun z ρ w'=>Mod S w w'∧∃ (S':Nat→Prop) (cP:List Nat) (m':Rn) (x:Cl) (u:Value) (ws:List Nat) (vw:Value) (rows:List Value) (fp:Option Nat) (K:List (Nat×Obj)),cK w' S' r md mf cP (X.kp K) m'∧dR S S' w∧iL w' (Out S' w') cP x u∧x.io=true∧pG w' w cP vw ws rows fp K∧m'.aO=[]∧(m'.told.length:Int)≤m'.steps∧eC X z x ws m'=some mF ∧
  ρ.get 0=some (ptr r)∧ρ.get 1=some u∧ρ.get 4=some vw) n ⟨.refl _ _,S,bs,m,x,u,[],.slice none 0 0,[],none,[],h,nr,hu,hv,⟨dx.nil _ _ _,trivial,fun b hb=>(by cases hb),fun b hb=>(by cases hb)⟩,eD,nB,aR,rfl,rfl,rfl⟩ ?_
 rintro z ρ w1 ⟨aj,S1,eR,m1,x,u,ws,vw,rows,fp,K,fx,eu,yC,vK,BA,C6,aj2,hH,g0,g1,g4⟩;clear h hu hv eD nB aR;have FY:m1.steps≤1048576∧0≤m1.steps:=by
  obtain ⟨_,_,_,_,_,_,hh⟩:=fx;have:=hh.steps;omega
 have Sr:∀ y,y=r→S1 y:=fun y hy=>by obtain ⟨_,_,_,_,_,_,hx⟩:=fx;rw [hy];exact hx.bt _ (by simp)
 match z,hH with
 | 0,hH=>rw [eC] at hH;cases hH
 | z+1,hH=>
 rw [eC] at hH;unfold O3;obtain ⟨T,zz,rfl,_⟩:=Az yC vK;have nA:fI ρ [.t 0]=some [ptr r]:=by simp only [fI,O.ev,g0]
 refine LX (dU (fun ρ w2=>cK w2 S1 r md mf eR (X.kp K) { m1 with steps:=m1.steps+1}∧Mod (· = r) w1 w2∧m1.steps≠X.fuel∧ρ.get 0=some (ptr r)∧ρ.get 1=some (.iface T zz)∧ρ.get 4=some vw) ?_ ?_)
 ·(try simp only [go_sem,Nat.reduceAdd,Nat.reduceEqDiff,Nat.reduceLT,Nat.reduceLeDiff,Nat.reduceMul,reduceCtorEq,↓reduceIte,g0,g1,g4]);refine aI nA ?_;refine (SA fx).mono ?_;rintro _ w2 ⟨rfl,eY,ai⟩;have rQ:=ai.aU Sr;have aY:=lG aj eu rQ;rw [TX] at eY ⊢;rcases qz X m1 with ⟨q1,q2⟩ | ⟨q1,q2⟩
  ·rw [q2,if_pos rfl] at hH;rw [q2] at eY ⊢;cases hH;(try simp only [go_sem,Nat.reduceAdd,Nat.reduceEqDiff,Nat.reduceLT,Nat.reduceLeDiff,Nat.reduceMul,reduceCtorEq,↓reduceIte,g0,g1,g4,aE,RV.ev,aF]);exact ⟨⟨S1,eR,eY.drop,eu⟩,aY⟩
  ·rw [q2] at eY ⊢;(try simp only [go_sem,Nat.reduceAdd,Nat.reduceEqDiff,Nat.reduceLT,Nat.reduceLeDiff,Nat.reduceMul,reduceCtorEq,↓reduceIte,g0,g1,g4]);exact ⟨eY,ai,q1⟩
 rintro ρ w2 ⟨eY,ai,q1,g0,g1,g4⟩;have rQ:=ai.aU Sr;have aY:=lG aj eu rQ;have q2:fi X m1=(true,{ m1 with steps:=m1.steps+1}):=by unfold fi;rw [if_neg q1]
 rw [q2,if_neg (by simp)] at hH;simp only at hH;have rR:=yC.up rQ aK (aX rQ) (fun _ _ h=>h);have wM:pG w2 w eR vw ws rows fp K:=BA.up fx eY (fun _ _ h=>h)
 refine dU (fun ρ w3=>∃ (S3:Nat→Prop) (m3:Rn) (dS:List Nat) (wN:Value) (tr:List Value) (iu:Option Nat) (K3:List (Nat×Obj)),cK w3 S3 r md mf eR (X.kp K3) m3∧dR S S3 w∧Mod S w w3∧pG w3 w eR wN dS tr iu K3∧m3.aO=[]∧(m3.told.length:Int)≤m3.steps∧m3.steps=m1.steps+1∧ρ.get 0=some (ptr r)∧ρ.get 4=some wN ∧
  (if 16777216 < dS.length then none else match dS.getLast? with
   | none=>some { m3 with kind:=2}
   | some c=>match fW X z c m3 with
    | none=>none
    | some (none,m3)=>some m3
    | some (some y,m3)=>eC X z y dS.dropLast m3)=some mF) ?_ ?_
 ·have FZ : ∀ {w3 : World} {S3 : Nat → Prop} {wN : Value} {dS : List Nat} {tr : List Value} {iu : Option Nat} {K3 : List (Nat × Obj)} {m3 : Rn}, cK w3 S3 r md mf eR (X.kp K3) m3 → dR S S3 w → Mod S w w3 → pG w3 w eR wN dS tr iu K3 → m3 = { m1 with steps := m1.steps + 1, told := m1.told ++ iK x } → dS = ws ++ (fieldsOf x).reverse →
      (∃ (S3:Nat→Prop) (m3:Rn) (dS:List Nat) (T4:Value) (tr:List Value) (iu:Option Nat) (K3:List (Nat×Obj)),cK w3 S3 r md mf eR (X.kp K3) m3∧dR S S3 w∧Mod S w w3∧pG w3 w eR T4 dS tr iu K3∧m3.aO=[]∧(m3.told.length:Int)≤m3.steps∧m3.steps=m1.steps+1∧wN=T4 ∧
       (if 16777216 < dS.length then none else match dS.getLast? with
        | none=>some { m3 with kind:=2}
        | some c=>match fW X z c m3 with
         | none=>none
         | some (none,m3)=>some m3
         | some (some y,m3)=>eC X z y dS.dropLast m3)=some mF):=fun {w3 S3 wN dS tr iu K3 m3} a1 a2 a3 a4 a5 a6=>by
   subst a5 a6;have zA:(iK x).length≤1:=by cases x<;>simp [iK]
   exact ⟨S3,_,_,wN,tr,iu,K3,a1,a2,a3,a4,C6,by simp;omega,rfl,rfl,hH⟩
  obtain ⟨vt,vf,dh,bR,cB,cD,hh⟩:=eY;have nB:dh.length=m1.told.length:=hh.items.at.1;obtain ⟨avt,cvt,rfl,_,_⟩:=hh.told.val;have dM:∀ {w3:World} {row:List Value},Mod (fun _=>False) w2 w3→True:=fun _=>trivial
  cases x with
  | num n=>
   cases rR;(try simp only [go_sem,Nat.reduceAdd,Nat.reduceEqDiff,Nat.reduceLT,Nat.reduceLeDiff,Nat.reduceMul,reduceCtorEq,↓reduceIte,g0,g1,g4]);refine kh (D:=.int .i64) rfl rfl rfl (Tryz.zeroValue115 _) (fun _=>?_) (fun h=>absurd rfl h);(try simp only [go_sem,Nat.reduceAdd,Nat.reduceEqDiff,Nat.reduceLT,Nat.reduceLeDiff,Nat.reduceMul,reduceCtorEq,↓reduceIte,cell_of hh.box]);refine fA (cs:=#[.string bI,I n]) rfl rfl ?_;intro w3 aM aq eV;have uL:=aq.at hh.box _root_.id;(try simp only [go_sem,Nat.reduceAdd,Nat.reduceEqDiff,Nat.reduceLT,Nat.reduceLeDiff,Nat.reduceMul,reduceCtorEq,↓reduceIte]);refine qR (m:=1) (news:=[.string bI,I n]) rfl (hh.told.mod aq (fun _ _ h=>h)) rfl (fun h=>by cases h) (vx (xs:=[.string bI,I n]) aM) (aS rfl (aS rfl dE)) rfl (by omega) (by omega) ?_;intro v4 w4 fp4 pc aA C7;obtain ⟨n1,n2,n3,n4,n5,n6,n7,n8,n9⟩:=hh.ne;have LZ:=aA.at uL (fun e=>(n4 r e).1 rfl);obtain ⟨L0,L3,rfl,_,_⟩:=pc.val;(try simp only [go_sem,Nat.reduceAdd,Nat.reduceEqDiff,Nat.reduceLT,Nat.reduceLeDiff,Nat.reduceMul,reduceCtorEq,↓reduceIte]);refine iY (b:=r) (off:=1) (v:=.slice L0 (dh.length+1) L3) rfl rfl LZ rfl (by simp) ?_;intro w5 bG aD eN
   obtain ⟨S5,wO,vU,pi⟩:=(hh.aB aq).tell (it:=(bI,n)) (row:=[.string bI,I n]) aA pc (fun b hb=>by
    rcases C7 b hb with h | ⟨h,_⟩
    ·exact .inl h
    ·exact .inr (by rw [h];exact Nat.le_refl _)) rfl aD bG
   have AN:Mod S1 w2 w5:=(an aq).trans pi;have F1:dR S1 S5 w2:=mz nr vU aq.size;(try simp only [go_sem,Nat.reduceAdd,Nat.reduceEqDiff,Nat.reduceLT,Nat.reduceLeDiff,Nat.reduceMul,reduceCtorEq,↓reduceIte]);exact FZ wO (mz eu F1 aY.size) (lG aY eu AN) (wM.up ⟨_,_,_,_,_,_,hh⟩ wO (fun _ _ h=>h)) rfl (by simp [fieldsOf])
  | aZ k fs=>
   obtain ⟨a,vs,e1,bH,gX⟩:=rR;cases e1;obtain ⟨af,cf,rfl⟩:=a7 gX;have kJ:=dB gX;have k0:w2.cell? a=some (.string k):=bH.c0 (by simp);have sF:=cO hh.box;(try simp only [go_sem,Nat.reduceAdd,Nat.reduceEqDiff,Nat.reduceLT,Nat.reduceLeDiff,Nat.reduceMul,reduceCtorEq,↓reduceIte,g0,g1,g4]);refine kh (D:=.int .i64) rfl rfl rfl (Tryz.zeroValue115 _) (fun h=>by cases h) (fun _=>?_);(try simp only [go_sem,Nat.reduceAdd,Nat.reduceEqDiff,Nat.reduceLT,Nat.reduceLeDiff,Nat.reduceMul,reduceCtorEq,↓reduceIte]);refine kh (D:=.pointer 114) rfl rfl rfl (Tryz.zeroValue111 _) (fun _=>?_) (fun h=>absurd rfl h);(try simp only [go_sem,Nat.reduceAdd,Nat.reduceEqDiff,Nat.reduceLT,Nat.reduceLeDiff,Nat.reduceMul,reduceCtorEq,↓reduceIte,cell_of hh.box,k0]);refine fA (cs:=#[.string k,I 0]) rfl rfl ?_;intro w3 aM aq eV;have aq:Mod (fun _=>False) w2 w3:=aq.eF;have uL:=aq.at hh.box _root_.id;refine ⟨aq.bN _ sF _root_.id,?_⟩;refine qR (m:=1) (news:=[.string k,I 0]) rfl (hh.told.mod aq (fun _ _ h=>h)) rfl (fun h=>by cases h) (vx (xs:=[.string k,I 0]) aM) (aS rfl (aS rfl dE)) rfl (by omega) (by omega) ?_;intro v4 w4 fp4 pc aA C7;obtain ⟨n1,n2,n3,n4,n5,n6,n7,n8,n9⟩:=hh.ne;have LZ:=aA.at uL (fun e=>(n4 r e).1 rfl);obtain ⟨L0,L3,rfl,_,_⟩:=pc.val;(try simp only [go_sem,Nat.reduceAdd,Nat.reduceEqDiff,Nat.reduceLT,Nat.reduceLeDiff,Nat.reduceMul,reduceCtorEq,↓reduceIte]);refine iY (b:=r) (off:=1) (v:=.slice L0 (dh.length+1) L3) rfl rfl LZ rfl (by simp) ?_;intro w5 bG aD eN
   obtain ⟨S5,wO,vU,pi⟩:=(hh.aB aq).tell (it:=(k,0)) (row:=[.string k,I 0]) aA pc (fun b hb=>by
    rcases C7 b hb with h | ⟨h,_⟩
    ·exact .inl h
    ·exact .inr (by rw [h];exact Nat.le_refl _)) rfl aD bG
   have AN:Mod S1 w2 w5:=(an aq).trans pi;have F1:dR S1 S5 w2:=mz nr vU aq.size;have T5:=mz eu F1 aY.size;have fg:=lG aY eu AN;have hw5:=wM.up ⟨_,_,_,_,_,_,hh⟩ wO (fun _ _ h=>h);have T6:=rK F1 AN.size;have T7:=bH.up AN aK T6;have afK:=gX.up AN aK T6 (fun _ _ h=>h);have k1:w5.cell? ⟨a.block,a.off+1,none⟩=some (.slice af fs.length cf):=T7.at (k:=1) (by simp);have e1:IntKind.i64.wrap ((fs.length:Int) - 1)=(fs.length:Int) - 1:=dv (by omega) (by omega);have aj3:ws.length+fs.length≤16777216:=by
    apply Classical.byContradiction;intro hn;rw [if_pos (by simp [fieldsOf];omega)] at hH;cases hH
   (try simp only [go_sem,Nat.reduceAdd,Nat.reduceEqDiff,Nat.reduceLT,Nat.reduceLeDiff,Nat.reduceMul,reduceCtorEq,↓reduceIte,k1,e1])
   refine fL (fun z' ρ w'=>z'≤fs.length∧∃ (S':Nat→Prop) (K':List (Nat×Obj)) (vk:Value) (afL:List Value) (hZ:Option Nat),cK w' S' r md mf eR (X.kp K') { m1 with steps:=m1.steps+1,told:=m1.told++[(k,0)]}∧dR S5 S' w5∧Mod S5 w5 w'∧pG w' w eR vk (ws++(fs.drop z').reverse) afL hZ K' ∧
    ρ=[(0,ptr r),(4,vk),(6,.pointer (some a)),(7,I ((z':Int) - 1))]) fs.length ⟨Nat.le_refl _,S5,K,vw,rows,fp,wO,nr,.refl _ _,by rw [List.drop_length,List.reverse_nil,List.append_nil];exact hw5,rfl⟩ ?_
   ·rintro q _ w6 ⟨hq,S6,K6,v6,aj4,Qd,F2,F3,jg,um,rfl⟩;unfold O2
    match q,hq,um with
    | 0,hq,um=>
     have b0:decide (((0:Nat):Int) - 1≥0)=false:=by decide
     (try simp only [go_sem,Nat.reduceAdd,Nat.reduceEqDiff,Nat.reduceLT,Nat.reduceLeDiff,Nat.reduceMul,reduceCtorEq,↓reduceIte,b0]);exact FZ F2 (mz T5 F3 fg.size) (lG fg T5 jg) um rfl (by simp [fieldsOf])
    | q+1,hq,um=>
     have e2:((q+1:Nat):Int) - 1=(q:Int):=by omega
     have e3:IntKind.i64.wrap ((q:Int) - 1)=(q:Int) - 1:=dv (by omega) (by omega);have b0:decide ((q:Int)≥0)=true:=by simp
     have T8:=rK F3 jg.size;have afM:=afK.up jg aK T8 (fun _ _ h=>h);have afN:=T7.up jg aK T8;have k6:w6.cell? ⟨a.block,a.off+1,none⟩=some (.slice af fs.length cf):=afN.at (k:=1) (by simp);have T9:q < fs.length:=by omega
     obtain ⟨kA,c2,r2,e4,⟨b,rfl,ey⟩,_,oI⟩:=iJ afM T9;obtain ⟨rfl,-,-⟩:=bY e4;have f0:w6.cell? (kA.add q)=some (ptr b):=by have:=oI.c0 (by simp);rwa [Nat.mul_one] at this
     have p3:(0:Int)≤q∧(q:Int) < fs.length:=by omega
     (try simp only [go_sem,Nat.reduceAdd,Nat.reduceEqDiff,Nat.reduceLT,Nat.reduceLeDiff,Nat.reduceMul,reduceCtorEq,↓reduceIte,e2,b0,k6]);(try simp only [go_sem,Nat.reduceAdd,Nat.reduceEqDiff,Nat.reduceLT,Nat.reduceLeDiff,Nat.reduceMul,reduceCtorEq,↓reduceIte,bq,br,e2,b0,k6,p3,f0]);refine fA (cs:=#[ptr b]) rfl rfl ?_;intro w7 dq aN jX;have hw7:=um.own.mod aN (fun _ _ h=>h);(try simp only [go_sem,Nat.reduceAdd,Nat.reduceEqDiff,Nat.reduceLT,Nat.reduceLeDiff,Nat.reduceMul,reduceCtorEq,↓reduceIte]);refine qR (m:=1) (news:=[ptr b]) rfl hw7 rfl (fun h=>by cases h) (vx (xs:=[ptr b]) dq) (aS rfl dE) rfl (by simp;omega) (by simp;omega) ?_;intro v8 w8 fp8 ho8 bg Ua;obtain ⟨S8,K8,tv,yr,na,Ub⟩:=um.push F2 ey aN (by have:=fg.size;have:=jg.size;omega) ho8 bg Ua;have e5:ws++(fs.drop (q+1)).reverse++[fs[q]]=ws++(fs.drop q).reverse:=by
      rw [List.drop_eq_getElem_cons T9,List.reverse_cons,List.append_assoc]
     rw [e5] at Ub;(try simp only [go_sem,Nat.reduceAdd,Nat.reduceEqDiff,Nat.reduceLT,Nat.reduceLeDiff,Nat.reduceMul,reduceCtorEq,↓reduceIte,e3]);exact ⟨q,Nat.lt_succ_self q,by omega,S8,K8,v8,_,fp8,tv,mz F3 yr jg.size,lG jg F3 na,Ub,rfl⟩
  | fw e nm=>
   obtain ⟨a,_,_,e1,_⟩:=rR;cases e1;(try simp only [go_sem,Nat.reduceAdd,Nat.reduceEqDiff,Nat.reduceLT,Nat.reduceLeDiff,Nat.reduceMul,reduceCtorEq,↓reduceIte,g0,g1,g4]);refine kh (D:=.int .i64) rfl rfl rfl (Tryz.zeroValue115 _) (fun h=>by cases h) (fun _=>?_);(try simp only [go_sem,Nat.reduceAdd,Nat.reduceEqDiff,Nat.reduceLT,Nat.reduceLeDiff,Nat.reduceMul,reduceCtorEq,↓reduceIte]);refine kh (D:=.pointer 114) rfl rfl rfl (Tryz.zeroValue111 _) (fun h=>by cases h) (fun _=>?_);(try simp only [go_sem,Nat.reduceAdd,Nat.reduceEqDiff,Nat.reduceLT,Nat.reduceLeDiff,Nat.reduceMul,reduceCtorEq,↓reduceIte]);exact FZ ⟨_,_,_,_,_,_,hh⟩ eu aY wM (by simp [iK]) (by simp [fieldsOf])
  | eB k l fs=>
   obtain ⟨a,_,e1,_⟩:=rR;cases e1;(try simp only [go_sem,Nat.reduceAdd,Nat.reduceEqDiff,Nat.reduceLT,Nat.reduceLeDiff,Nat.reduceMul,reduceCtorEq,↓reduceIte,g0,g1,g4]);refine kh (D:=.int .i64) rfl rfl rfl (Tryz.zeroValue115 _) (fun h=>by cases h) (fun _=>?_);(try simp only [go_sem,Nat.reduceAdd,Nat.reduceEqDiff,Nat.reduceLT,Nat.reduceLeDiff,Nat.reduceMul,reduceCtorEq,↓reduceIte]);refine kh (D:=.pointer 114) rfl rfl rfl (Tryz.zeroValue111 _) (fun h=>by cases h) (fun _=>?_);(try simp only [go_sem,Nat.reduceAdd,Nat.reduceEqDiff,Nat.reduceLT,Nat.reduceLeDiff,Nat.reduceMul,reduceCtorEq,↓reduceIte]);exact FZ ⟨_,_,_,_,_,_,hh⟩ eu aY wM (by simp [iK]) (by simp [fieldsOf])
  | wait e nm=>cases vK
  | busy=>cases vK
  | emp=>cases vK
 ·rintro ρ w3 ⟨S3,m3,dS,wN,tr,iu,K3,ki,qu,bn,wP,F4,aj5,aj6,g0,g4,hH⟩;obtain ⟨a3,c3,rfl,cA,_⟩:=wP.own.val
  have hq:(if 16777216 < dS.length then none else match dS.getLast? with
   | none=>some { m3 with kind:=2}
   | some c=>match fW X z c m3 with
    | none=>none
    | some (none,m3)=>some m3
    | some (some y,m3)=>eC X z y dS.dropLast m3)=some mF:=hH
  have hlw:dS.length≤16777216:=by
   apply Classical.byContradiction;intro hn;rw [if_pos (by omega)] at hq;cases hq
  rw [if_neg (by omega)] at hq;have Sr3:∀ y,y=r→S3 y:=fun y hy=>by obtain ⟨_,_,_,_,_,_,hx⟩:=ki;rw [hy];exact hx.bt _ (by simp)
  cases hl:dS.getLast? with
  | none=>
   rw [hl] at hq;cases hq;have h0:=List.getLast?_eq_none_iff.1 hl;have b0:((dS.length:Int) == 0)=true:=by rw [h0];try rfl
   obtain ⟨vt,vf,dh,bR,cB,cD,hh⟩:=ki.drop;(try simp only [go_sem,Nat.reduceAdd,Nat.reduceEqDiff,Nat.reduceLT,Nat.reduceLeDiff,Nat.reduceMul,reduceCtorEq,↓reduceIte,g0,g4,b0]);refine iY (b:=r) (off:=0) (v:=I 2) rfl rfl hh.box rfl (by simp) ?_;intro w4 ba aA eG;(try simp only [go_sem,Nat.reduceAdd,Nat.reduceEqDiff,Nat.reduceLT,Nat.reduceLeDiff,Nat.reduceMul,reduceCtorEq,↓reduceIte,aE,RV.ev,aF]);exact ⟨⟨S3,eR,⟨_,_,_,_,_,_,hh.FD (m':={ m3 with kind:=2}) aA ba rfl rfl rfl ⟨hh.steps.1,hh.steps.2.1⟩⟩,qu⟩,lG bn qu (aA.aU Sr3)⟩
  | some c=>
   rw [hl] at hq;simp only at hq;have bo:dS≠[]:=fun e=>by rw [e] at hl;cases hl
   have Bj:0 < dS.length:=List.length_pos_iff.2 bo;have b0:((dS.length:Int) == 0)=false:=by
    have:¬ (dS.length:Int)=0:=by omega
    simpa using this
   have e1:IntKind.i64.wrap ((dS.length:Int) - 1)=((dS.length - 1:Nat):Int):=by rw [dv (by omega) (by omega)];omega
   have b1:(0:Int)≤((dS.length - 1:Nat):Int)∧((dS.length - 1:Nat):Int) < dS.length:=by omega
   have b3:(0:Int)≤((dS.length - 1:Nat):Int)∧((dS.length - 1:Nat):Int)≤c3:=by omega
   have sF:=wP.all.at.1;obtain ⟨bW,cW,sp,e2,vM,JB,_,_⟩:=wP.own.pos Bj;cases e2;have afO:dS[dS.length - 1]? = some c:=by rw [← List.getLast?_eq_getElem?];exact hl
   have hk:dS.length - 1 < tr.length:=by omega
   obtain ⟨b,hrb,ey⟩:=wP.all.at.2 _ _ _ (List.getElem?_eq_getElem hk) afO;have Hn:w3.cell? ⟨bW,dS.length - 1,none⟩=some (ptr b):=by
    rw [cell_of JB];simp only [List.getElem?_toArray];rw [List.getElem?_append_left hk,List.getElem?_eq_getElem hk,hrb]
   (try simp only [go_sem,Nat.reduceAdd,Nat.reduceEqDiff,Nat.reduceLT,Nat.reduceLeDiff,Nat.reduceMul,reduceCtorEq,↓reduceIte,g0,g4,b0,e1]);(try simp only [go_sem,Nat.reduceAdd,Nat.reduceEqDiff,Nat.reduceLT,Nat.reduceLeDiff,Nat.reduceMul,reduceCtorEq,↓reduceIte,bq,br,g0,g4,b0,e1,b1,b3,TR,ite_self,Nat.mul_one,oo,Nat.zero_add,Hn]);have FX:dS.dropLast=dS.take (dS.length - 1):=List.dropLast_eq_take;have jn:pG w3 w eR (.slice (some ⟨bW,0,none⟩) (dS.length - 1) c3) dS.dropLast (tr.take (dS.length - 1)) iu K3:=by
    refine ⟨?_,by rw [FX];exact TZ _ wP.all,wP.new,wP.k1⟩;have:=TT wP.own (k:=dS.length - 1) (by omega);rw [Nat.mul_one] at this;rw [List.length_dropLast];exact this
   cases jM:fW X z c m3 with
   | none=>rw [jM] at hq;cases hq
   | some rr=>
   rw [jM] at hq;have db:=wL jM F4;have afP:0≤m3.steps:=by omega
   refine aI (by rfl) ?_;refine (afB ki ey (by rw [F4];exact afP) (by rw [afE];exact jM)).mono ?_;rintro v w4 ⟨⟨S4,Uc,pC,L4,afQ,gW⟩,aA⟩;have Ud:=mz qu L4 bn.size;have eM:=lG bn qu aA
   match rr,hq,db,pC,gW with
   | (none,m4),hq,db,pC,gW=>
    have gW:v=_:=gW;subst gW;cases hq;(try simp only [go_sem,Nat.reduceAdd,Nat.reduceEqDiff,Nat.reduceLT,Nat.reduceLeDiff,Nat.reduceMul,reduceCtorEq,↓reduceIte,aE,RV.ev,aF]);exact ⟨⟨S4,Uc,pC.drop,Ud⟩,eM⟩
   | (some y,m4),hq,db,pC,⟨u4,e4,LU,C8⟩=>
    subst e4;have ht4:m4.told=m3.told:=db.told;have eG:m3.steps≤m4.steps:=db.steps;obtain ⟨_,_,C7⟩:=db.val y rfl;have hw4:=jn.up ki pC afQ;(try simp only [go_sem,Nat.reduceAdd,Nat.reduceEqDiff,Nat.reduceLT,Nat.reduceLeDiff,Nat.reduceMul,reduceCtorEq,↓reduceIte]);exact ⟨_,Nat.lt_succ_self z,eM,S4,Uc,m4,y,u4,_,_,_,_,K3,pC,Ud,LU,C8,hw4,C7,by rw [ht4];omega,hq,rfl,rfl⟩
end
end Go.Proofs.YtjfgeekjjlhbdaaGreatDoor