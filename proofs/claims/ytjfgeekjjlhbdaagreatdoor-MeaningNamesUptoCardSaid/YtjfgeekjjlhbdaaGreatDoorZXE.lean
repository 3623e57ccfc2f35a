/- Texts that the last file stands on: M2, M3, M4, M5, M6, M7, M8, M9, M10, M11, M12, M13, Q2, Q3, Q4, Q5, Q6, Q7, Q8, M14, M15, M16, M17. -/
import Derived.Test.YtjfgeekjjlhbdaaGreatDoorZXD
import Derived.LaidEql
set_option linter.unusedSimpArgs false
set_option linter.unusedVariables false
set_option maxRecDepth 100000
namespace Go.Proofs.YtjfgeekjjlhbdaaGreatDoor
section
open Go Go.W
abbrev ES:Nat:=93
abbrev Kx:Nat:=87
abbrev adK:Nat:=136
abbrev ET (X:Cx) (m:Rn) (md mf:Nat) (vt vf:Value):List Value:=[I m.kind,vt,I m.stuck,I m.steps,I 0,I 0,I 0,.string bD,I X.fuel,.map (some md),.map (some mf),vf]
def BT (bs:List Nat) (v:Value) (c:Nat):Prop:=∃ b,v=ptr b∧bs[c]? = some b
abbrev ji (r md mf:Nat) (bs:List Nat) (cw cB:Option Nat):List Nat:=r::md::mf::(cw.toList++cB.toList++bs)
structure hM (w:World) (S:Nat→Prop) (r md mf:Nat) (bs:List Nat) (X:Cx) (m:Rn) (vt vf:Value) (db bO:List (List Value)) (cw cB:Option Nat):Prop where
 box:w.heap[r]? = some (.cells (ET X m md mf vt vf).toArray ES (0,0))
 told:dE w 71 2 vt (db.flatMap id) db.length cw
 items:fM Kw db m.told
 oY:dE w adK 5 vf (bO.flatMap id) bO.length cB
 a7:fM (mA w (Out S w) bs) bO m.a7
 blocks:(ji r md mf bs cw cB).Nodup
 bt:∀ b∈ji r md mf bs cw cB,S b
 lt:∀ b,S b→b < w.heap.size
 len:bs.length=m.cells.length
 cell:∀ (i b:Nat) (x:Cl),bs[i]? = some b→m.cells[i]? = some x→∃ v:Value,w.heap[b]? = some (Obj.cells [v].toArray Kx (0,0))∧iu w (Out S w) bs x v
 an:cD w md (BT bs) X.an
 fields:cD w mf RI X.fields
 steps:0≤m.steps∧m.steps≤X.fuel∧X.fuel≤1048576
 kept:∀ p∈X.aB,w.heap[p.1]? = some p.2∧S p.1∧p.1∉ji r md mf bs cw cB
def cJ (w:World) (S:Nat→Prop) (r md mf:Nat) (bs:List Nat) (X:Cx) (m:Rn):Prop:=∃ vt vf db bO cw cB,hM w S r md mf bs X m vt vf db bO cw cB
theorem fM.imp {α β:Type} {P Q:α→β→Prop} (BU:∀ a b,P a b→Q a b):∀ {l:List α} {m:List β},fM P l m→fM Q l m
 | [],[],_=>trivial
 | a::l,b::m,h=>⟨BU _ _ h.1,fM.imp BU h.2⟩
 | [],_::_,h=>h.elim
 | _::_,[],h=>h.elim
section
variable {w w':World} {S:Nat→Prop} {r md mf:Nat} {bs:List Nat} {X:Cx} {m m':Rn} {vt vf:Value} {db bO:List (List Value)} {cw cB:Option Nat}
theorem hM.ne (h:hM w S r md mf bs X m vt vf db bO cw cB):r≠md∧r≠mf∧md≠mf∧(∀ b,cw=some b→r≠b∧md≠b∧mf≠b)∧(∀ b,cB=some b→r≠b∧md≠b∧mf≠b)∧(∀ b∈bs,r≠b∧md≠b∧mf≠b)∧(∀ a b,cw=some a→cB=some b→a≠b)∧(∀ a,cw=some a→a∉bs)∧(∀ a,cB=some a→a∉bs):=by
 have hn:=h.blocks;unfold ji at hn;simp only [List.nodup_cons,List.mem_cons,List.mem_append,Option.mem_toList,not_or] at hn;obtain ⟨⟨a1,a2,⟨a3,a4⟩,a5⟩,⟨b1,⟨b2,b3⟩,b4⟩,⟨⟨c1,c2⟩,c3⟩,hn⟩:=hn;rw [List.nodup_append,List.nodup_append] at hn;obtain ⟨⟨_,_,d1⟩,_,d2⟩:=hn
 refine ⟨a1,a2,b1,fun b hb=>⟨fun e=>a3 (by rw [e];exact hb),fun e=>b2 (by rw [e];exact hb),fun e=>c1 (by rw [e];exact hb)⟩,fun b hb=>⟨fun e=>a4 (by rw [e];exact hb),fun e=>b3 (by rw [e];exact hb),fun e=>c2 (by rw [e];exact hb)⟩,
  fun b hb=>⟨fun e=>a5 (by rw [e];exact hb),fun e=>b4 (by rw [e];exact hb),fun e=>c3 (by rw [e];exact hb)⟩,fun a b ha hb=>d1 a (by simp [ha]) b (by simp [hb]),fun a ha hm=>d2 a (by simp [ha]) a hm rfl,fun a ha hm=>d2 a (by simp [ha]) a hm rfl⟩
theorem hM.EU (h:hM w S r md mf bs X m vt vf db bO cw cB) (hm:Mod (· = r) w w') (hb:w'.heap[r]? = some (.cells (ET X m' md mf vt vf).toArray ES (0,0))) (e1:m'.told=m.told) (e2:m'.a7=m.a7) (e3:m'.cells=m.cells) (e4:0≤m'.steps∧m'.steps≤X.fuel) :
   hM w' S r md mf bs X m' vt vf db bO cw cB:=by
 obtain ⟨n1,n2,n3,n4,n5,n6,n7,n8,n9⟩:=h.ne;have Sr:∀ b,b=r→S b:=fun b hb=>by rw [hb];exact h.bt _ (by simp)
 have bC:=hm.aT Sr
 refine ⟨hb,h.told.mod hm (fun b hb e=>(n4 b hb).1 e.symm),by rw [e1];exact h.items,h.oY.mod hm (fun b hb e=>(n5 b hb).1 e.symm),by rw [e2];exact h.a7.imp (fun _ _ x=>x.up bC aM (aU bC) (fun _ _ h=>h)),h.blocks,h.bt,fun b hb=>Nat.lt_of_lt_of_le (h.lt b hb) hm.size,by rw [e3];exact h.len,?_,
  h.an.mod hm (fun e=>n1 e.symm) (fun _ _ x=>x),h.fields.mod hm (fun e=>n2 e.symm) (fun _ _ x=>x),⟨e4.1,e4.2,h.steps.2.2⟩,fun p hp=>by
   obtain ⟨a1,a2,a3⟩:=h.kept p hp
   exact ⟨hm.at a1 (fun e=>a3 (by rw [e];simp)),a2,a3⟩⟩
 intro i b x hi hx;rw [e3] at hx;obtain ⟨v,h1,h2⟩:=h.cell i b x hi hx;exact ⟨v,hm.at h1 (fun e=>(n6 b (List.mem_of_getElem? hi)).1 e.symm),h2.up bC aM (aU bC) (fun _ _ h=>h)⟩
end
theorem Rt {w:World} {S:Nat→Prop} {r md mf:Nat} {bs:List Nat} {X:Cx} {m:Rn} (h:cJ w S r md mf bs X m) :
   ba Tryz.prog 37 [ptr r] w fun x w'=>x = .bool (fA X m).1∧cJ w' S r md mf bs X (fA X m).2∧Mod (· = r) w w':=by
 obtain ⟨vt,vf,db,bO,cw,cB,h⟩:=h;refine XS.calls rfl ?_;unfold Hx;(try simp only [go_sem,simprocAttr,cell_of h.box]);have hs:=h.steps;cases he:m.steps == X.fuel with
 | true=>
  have BV:m.steps=X.fuel:=by simpa using he
  have bG:fA X m=(false,{ m with kind:=4}):=by unfold fA;rw [if_pos BV]
  (try simp only [go_sem,simprocAttr]);refine fF (b:=r) (off:=0) (v:=I 4) rfl rfl h.box rfl (by simp) ?_;intro w1 au ak bP;have ak:=ak.ez;(try simp only [go_sem,simprocAttr,aE,RV.ev,aF]);rw [bG];exact ⟨rfl,⟨_,_,_,_,_,_,h.EU (m':={ m with kind:=4}) ak au rfl rfl rfl ⟨hs.1,hs.2.1⟩⟩,ak⟩
 | false=>
  have BV:m.steps≠X.fuel:=by simpa using he
  have bG:fA X m=(true,{ m with steps:=m.steps+1}):=by unfold fA;rw [if_neg BV]
  have e1:IntKind.i64.wrap (m.steps+1)=m.steps+1:=dk (by omega) (by omega);(try simp only [go_sem,simprocAttr,cell_of h.box,e1]);refine fF (b:=r) (off:=3) (v:=I (m.steps+1)) rfl rfl h.box rfl (by simp) ?_;intro w1 au ak bP;have ak:=ak.ez;(try simp only [go_sem,simprocAttr,aE,RV.ev,aF]);rw [bG];exact ⟨rfl,⟨_,_,_,_,_,_,h.EU (m':={ m with steps:=m.steps+1}) ak au rfl rfl rfl ⟨by show 0≤m.steps+1;omega,by show m.steps+1≤X.fuel;omega⟩⟩,ak⟩
theorem BW {w:World} {S:Nat→Prop} {r md mf:Nat} {bs:List Nat} {X:Cx} {m:Rn} {xz:Int} (h:cJ w S r md mf bs X m) :
   ba Tryz.prog 52 [ptr r,I xz] w fun x w'=>cJ w' S r md mf bs X (m.stop xz)∧Mod (· = r) w w':=by
 obtain ⟨vt,vf,db,bO,cw,cB,h⟩:=h;refine Yk.calls rfl ?_;unfold HM;(try simp only [go_sem,simprocAttr]);refine fF (b:=r) (off:=0) (v:=I 3) rfl rfl h.box rfl (by simp) ?_;intro w1 au ak bP;(try simp only [go_sem,simprocAttr]);refine fF (b:=r) (off:=2) (v:=I xz) rfl rfl au rfl (by simp) ?_;intro w2 aw ai bS;(try simp only [go_sem,simprocAttr]);exact ⟨⟨_,_,_,_,_,_,h.EU (m':=m.stop xz) (ak.trans ai) aw rfl rfl rfl ⟨h.steps.1,h.steps.2.1⟩⟩,ak.trans ai⟩
end
section
open Go Go.W
theorem mA.one {w:World} {B:Nat→Prop} {bs:List Nat} {f:Fm} {r:List Value} (h:mA w B bs r f):∀ u∈r,u.oneCell'=true:=by
 have nm:∀ {l:cN} {v:Value},gC w B bs l v→v.oneCell'=true:=fun {l v} h=>by
  cases l with
  | nil=>cases h;rfl
  | cons p l=>obtain ⟨a,b,nx,rfl,_⟩:=h;rfl
 have ev:∀ {k:Int} {e:Ex} {l:cN} {r:List Value},mz w B bs k e l r→∀ u∈r,u.oneCell'=true:=fun h=>by
  obtain ⟨ve,vn,rfl,⟨a,cs,rfl,_⟩,h2⟩:=h;exact aW rfl (aW rfl (aW rfl (aW (nm h2) (aW rfl dy))))
 cases f with
 | gd c=>obtain ⟨b,rfl,h⟩:=h;exact aW rfl (aW rfl (aW rfl (aW rfl (aW rfl dy))))
 | snd e n=>obtain ⟨ve,rfl,⟨a,cs,rfl,_⟩⟩:=h;exact aW rfl (aW rfl (aW rfl (aW rfl (aW rfl dy))))
 | app e l=>exact ev h
 | nf e l=>exact ev h
 | fst e l=>exact ev h
 | seq e l=>exact ev h
 | nh e l=>exact ev h
theorem fM.snoc {α β:Type} {P:α→β→Prop}:∀ {l:List α} {m:List β} {a:α} {b:β},fM P l m→P a b→fM P (l++[a]) (m++[b])
 | [],[],a,b,_,h=>⟨h,trivial⟩
 | x::l,y::m,a,b,h,hp=>⟨h.1,fM.snoc h.2 hp⟩
 | [],_::_,_,_,h,_=>h.elim
 | _::_,[],_,_,h,_=>h.elim
def dI (S S':Nat→Prop) (w:World):Prop:=(∀ b,S b→S' b)∧∀ b,S' b→S b∨w.heap.size≤b
theorem qQ {S S':Nat→Prop} {w w':World} (hg:dI S S' w) (dj:w.heap.size≤w'.heap.size):∀ b,Out S w b→Out S' w' b:=EN dj hg.2
theorem Ky {r md mf:Nat} {bs:List Nat} {cw cB:Option Nat} (dD:bs.Nodup) (h1:r≠md∧r≠mf∧md≠mf) (h2:∀ b,cw=some b→r≠b∧md≠b∧mf≠b) (h3:∀ b,cB=some b→r≠b∧md≠b∧mf≠b) (h4:∀ b∈bs,r≠b∧md≠b∧mf≠b) (h5:∀ a b,cw=some a→cB=some b→a≠b) (h6:∀ a,cw=some a→a∉bs) (h7:∀ a,cB=some a→a∉bs):(ji r md mf bs cw cB).Nodup:=by
 unfold ji;simp only [List.nodup_cons,List.mem_cons,List.mem_append,Option.mem_toList,not_or];refine ⟨⟨h1.1,h1.2.1,⟨fun e=>(h2 _ e).1 rfl,fun e=>(h3 _ e).1 rfl⟩,fun e=>(h4 _ e).1 rfl⟩,⟨h1.2.2,⟨fun e=>(h2 _ e).2.1 rfl,fun e=>(h3 _ e).2.1 rfl⟩,fun e=>(h4 _ e).2.1 rfl⟩,⟨⟨fun e=>(h2 _ e).2.2 rfl,fun e=>(h3 _ e).2.2 rfl⟩,fun e=>(h4 _ e).2.2 rfl⟩,?_⟩;rw [List.nodup_append,List.nodup_append];refine ⟨⟨?_,?_,fun a ha b hb=>h5 a b (by simpa using ha) (by simpa using hb)⟩,dD,fun a ha b hb=>?_⟩
 ·cases cw<;>simp
 ·cases cB<;>simp
 ·rcases List.mem_append.1 ha with h | h
  ·exact fun e=>h6 a (by simpa using h) (by rw [e];exact hb)
  ·exact fun e=>h7 a (by simpa using h) (by rw [e];exact hb)
theorem hM.EV {w:World} {S:Nat→Prop} {r md mf:Nat} {bs:List Nat} {X:Cx} {m:Rn} {vt vf:Value} {db bO:List (List Value)} {cw cB:Option Nat} (h:hM w S r md mf bs X m vt vf db bO cw cB):bs.Nodup:=by
 have hn:=h.blocks;unfold ji at hn;simp only [List.nodup_cons] at hn;have h3:=hn.2.2.2;rw [List.nodup_append] at h3;exact h3.2.1
theorem vy {w:World} {S:Nat→Prop} {r md mf:Nat} {bs:List Nat} {X:Cx} {m:Rn} {f:Fm} {cs:List Value} (h:cJ w S r md mf bs X m) (hf:mA w (Out S w) bs cs f) (hlen:m.a7.length≤2097152) :
   ba Tryz.prog 73 [ptr r,.agg cs.toArray] w fun x w'=>(∃ S',cJ w' S' r md mf bs X (m.push f)∧dI S S' w)∧Mod S w w':=by
 obtain ⟨vt,vf,db,bO,cw,cB,h⟩:=h;have lc:=hf.len;have iX:=h.a7.at.1;refine YU.calls rfl ?_;unfold H7;(try simp only [go_sem,simprocAttr]);refine bB rfl ?_;intro w1 au ak bP;have iM:=ak.at h.box _root_.id;have hr:=cC iM;(try simp only [go_sem,simprocAttr,cell_of iM,az (n:=5) (cs:=cs) au lc]);refine fG (cs:=cs.toArray) (ps:=partsOf 5 0 [cs]) rfl (by have:=jD (sz:=5) [cs] [] _ ⟨lc,trivial⟩ (show [I 0,.pointer none,.pointer none,.pointer none,I 0].length=1*5 from rfl);simpa using this) ?_;intro w2 aw ai bS;have xA:Mod (fun _=>False) w1 w2:=ai.ez;have aY:=ak.trans xA;(try simp only [go_sem,simprocAttr]);refine ⟨xA.bY _ hr _root_.id,?_⟩;have eV:=oz aw;rw [lc] at eV;refine rD (m:=1) (news:=cs) rfl (h.oY.mod aY (fun _ _ h=>h)) rfl (fun h=>by cases h) eV hf.one rfl (by omega) (by omega) ?_;intro v3 w3 hZ tV ar jC;have BH:=xA.at iM _root_.id;obtain ⟨n1,n2,n3,n4,n5,n6,n7,n8,n9⟩:=h.ne;have Sr:∀ b,b=r→S b:=fun b hb=>by rw [hb];exact h.bt _ (by simp)
 have Sf:∀ b,cB=some b→S b:=fun b hb=>h.bt _ (by simp [hb])
 have tW:=ar.at BH (fun e=>(n5 r e).1 rfl);obtain ⟨Ru,Rv,rfl,_,_⟩:=tV.val;refine fF (b:=r) (off:=11) (v:=.slice Ru (bO.length+1) Rv) rfl rfl tW rfl (by simp) ?_;intro w4 aZ aA eA;(try simp only [go_sem,simprocAttr]);have z02:=aY.size;have J1:=ar.size;have J3:=aA.size;have zw1:w1.heap.size=w.heap.size+1:=bP;have zw2:w2.heap.size=w1.heap.size+1:=bS;have mu:∀ b,hZ=some b→cB=some b∨w.heap.size≤b:=fun b hb=>by
  rcases jC b hb with h | ⟨h,_⟩
  ·exact .inl h
  ·right;omega
 have bC:Mod S w w4:=((aj aY).trans (ar.aT Sf)).trans (aA.aT Sr)
 have hg:dI S (fun b=>S b∨hZ=some b) w:=⟨fun b hb=>.inl hb,fun b hb=>by
  rcases hb with h | h
  ·exact .inl h
  ·rcases mu b h with h | h
   ·exact .inl (Sf b h)
   ·exact .inr h⟩
 have eD:=qQ hg bC.size;have up:∀ {f:Fm} {row:List Value},mA w (Out S w) bs row f→mA w4 (Out (fun b=>S b∨hZ=some b) w4) bs row f:=fun hx=>hx.up bC aM eD (fun _ _ h=>h)
 have kL:∀ b∈ji r md mf bs cw cB,b < w.heap.size:=fun b hb=>h.lt b (h.bt b hb)
 have lr:=kL r (by simp);have ld:=kL md (by simp);have lmf:=kL mf (by simp);have lt':∀ b,cw=some b→b < w.heap.size:=fun b hb=>kL b (by simp [hb])
 have lb:∀ b∈bs,b < w.heap.size:=fun b hb=>kL b (by simp [hb])
 have Rw:∀ b,hZ=some b→b < w4.heap.size:=fun b hb=>Nat.lt_of_lt_of_le (tV.lt hb) J3
 refine ⟨⟨fun b=>S b∨hZ=some b,⟨vt,.slice Ru (bO.length+1) Rv,db,bO++[cs],cw,hZ,?_⟩,hg⟩,bC⟩;refine ⟨aZ,?_,h.items,?_,?_,?_,?_,?_,h.len,?_,?_,?_,h.steps,fun p hp=>?_⟩
 rotate_left 9
 ·obtain ⟨a1,a2,a3⟩:=h.kept p hp;have a4:=cC a1;simp only [ji,List.mem_cons,List.mem_append,Option.mem_toList,not_or] at a3 ⊢;obtain ⟨c1,c2,c3,⟨c4,c5⟩,c6⟩:=a3
  exact ⟨aA.at (ar.at (aY.at a1 _root_.id) (fun e=>c5 (by rw [e]))) c1,.inl a2,c1,c2,c3,⟨c4,fun e=>by
   rcases mu _ e with h | h
   ·exact c5 h
   ·omega⟩,c6⟩
 ·exact ((h.told.mod aY (fun _ _ h=>h)).mod ar (fun b hb e=>n7 b b hb e rfl)).mod aA (fun b hb e=>(n4 b hb).1 e.symm)
 ·have oG:=tV.mod aA (fun b hb e=>by
   rcases mu b hb with h | h
   ·exact (n5 b h).1 e.symm
   ·omega)
  rw [Ba,List.length_append];exact oG
 ·exact (h.a7.imp (fun _ _ x=>up x)).snoc (up hf)
 ·refine Ky h.EV ⟨n1,n2,n3⟩ n4 (fun b hb=>?_) n6 (fun a b ha hb=>?_) n8 (fun a ha dK=>?_)
  ·rcases mu b hb with h | h
   ·exact n5 b h
   ·exact ⟨by omega,by omega,by omega⟩
  ·rcases mu b hb with h | h
   ·exact n7 a b ha h
   ·have:=lt' a ha;omega
  ·rcases mu a ha with h | h
   ·exact n9 a h dK
   ·have:=lb a dK;omega
 ·intro b hb;simp only [ji,List.mem_cons,List.mem_append,Option.mem_toList] at hb;rcases hb with rfl | rfl | rfl | (h1 | h1) | h1
  ·exact .inl (h.bt _ (by simp))
  ·exact .inl (h.bt _ (by simp))
  ·exact .inl (h.bt _ (by simp))
  ·exact .inl (h.bt _ (by simp [h1]))
  ·exact .inr h1
  ·exact .inl (h.bt _ (by simp [h1]))
 ·intro b hb;rcases hb with h1 | h1
  ·have:=h.lt b h1;have:=bC.size;omega
  ·exact Rw b h1
 ·intro i b x hi hx;obtain ⟨v,h1,h2⟩:=h.cell i b x hi hx;have dK:=List.mem_of_getElem? hi;exact ⟨v,aA.at (ar.at (aY.at h1 _root_.id) (fun e=>n9 b e dK)) (fun e=>(n6 b dK).1 e.symm),h2.up bC aM eD (fun _ _ h=>h)⟩
 ·exact ((h.an.mod aY _root_.id (fun _ _ x=>x)).mod ar (fun e=>(n5 md e).2.1 rfl) (fun _ _ x=>x)).mod aA (fun e=>n1 e.symm) (fun _ _ x=>x)
 ·exact ((h.fields.mod aY _root_.id (fun _ _ x=>x)).mod ar (fun e=>(n5 mf e).2.2 rfl) (fun _ _ x=>x)).mod aA (fun e=>n2 e.symm) (fun _ _ x=>x)
end
section
open Go Go.W
section
variable {w w':World} {S:Nat→Prop} {r md mf:Nat} {bs:List Nat} {X:Cx} {m:Rn} {vt vf:Value} {db bO:List (List Value)} {cw cB:Option Nat}
theorem hM.aB (h:hM w S r md mf bs X m vt vf db bO cw cB) (hm:Mod (fun _=>False) w w'):hM w' S r md mf bs X m vt vf db bO cw cB:=by
 have bC:Mod S w w':=aj hm
 exact ⟨hm.at h.box _root_.id,h.told.mod hm (fun _ _ h=>h),h.items,h.oY.mod hm (fun _ _ h=>h),h.a7.imp (fun _ _ x=>x.up bC aM (aU bC) (fun _ _ h=>h)),h.blocks,h.bt,fun b hb=>Nat.lt_of_lt_of_le (h.lt b hb) hm.size,h.len,
  fun i b x hi hx=>by obtain ⟨v,h1,h2⟩:=h.cell i b x hi hx;exact ⟨v,hm.at h1 _root_.id,h2.up bC aM (aU bC) (fun _ _ h=>h)⟩,h.an.mod hm _root_.id (fun _ _ x=>x),h.fields.mod hm _root_.id (fun _ _ x=>x),h.steps,fun p hp=>by obtain ⟨a1,a2,a3⟩:=h.kept p hp;exact ⟨hm.at a1 _root_.id,a2,a3⟩⟩
theorem cJ.aB (h:cJ w S r md mf bs X m) (hm:Mod (fun _=>False) w w'):cJ w' S r md mf bs X m:=by
 obtain ⟨vt,vf,db,bO,cw,cB,h⟩:=h;exact ⟨vt,vf,db,bO,cw,cB,hM.aB h hm⟩
theorem hM.put (h:hM w S r md mf bs X m vt vf db bO cw cB) {c b:Nat} {x:Cl} {v:Value} (hc:bs[c]? = some b) (hm:Mod (· = b) w w') (hb:w'.heap[b]? = some (.cells [v].toArray Kx (0,0))) (hv:iu w (Out S w) bs x v) :
   hM w' S r md mf bs X (m.put c x) vt vf db bO cw cB:=by
 obtain ⟨n1,n2,n3,n4,n5,n6,n7,n8,n9⟩:=h.ne;have dK:=List.mem_of_getElem? hc;obtain ⟨e1,e2,e3⟩:=n6 b dK;have Sb:∀ y,y=b→S y:=fun y hy=>by rw [hy];exact h.bt _ (by simp [dK])
 have bC:=hm.aT Sb;have up:∀ {y:Cl} {u:Value},iu w (Out S w) bs y u→iu w' (Out S w') bs y u:=fun hx=>hx.up bC aM (aU bC) (fun _ _ h=>h)
 refine ⟨hm.at h.box e1,h.told.mod hm (fun y hy e=>n8 y hy (by rw [e];exact dK)),h.items,h.oY.mod hm (fun y hy e=>n9 y hy (by rw [e];exact dK)),h.a7.imp (fun _ _ x=>x.up bC aM (aU bC) (fun _ _ h=>h)),h.blocks,h.bt,fun y hy=>Nat.lt_of_lt_of_le (h.lt y hy) hm.size,by show bs.length=(m.cells.set c x).length;rw [List.length_set];exact h.len,?_,
  h.an.mod hm e2 (fun _ _ x=>x),h.fields.mod hm e3 (fun _ _ x=>x),h.steps,fun p hp=>by
   obtain ⟨a1,a2,a3⟩:=h.kept p hp
   exact ⟨hm.at a1 (fun e=>a3 (by rw [e];simp [dK])),a2,a3⟩⟩
 intro i b' y hi hy;have hy:(m.cells.set c x)[i]? = some y:=hy;by_cases Kz:c=i
 ·subst Kz;rw [hc] at hi;cases hi;have aP:c < m.cells.length:=by
   rw [← h.len];exact (List.getElem?_eq_some_iff.1 hc).1
  rw [List.getElem?_set_self aP] at hy;cases hy;exact ⟨v,hb,up hv⟩
 ·rw [List.getElem?_set_ne Kz] at hy;obtain ⟨u,h1,h2⟩:=h.cell i b' y hi hy;have bw:b'≠b:=fun e=>by
   subst e;obtain ⟨l1,q1⟩:=List.getElem?_eq_some_iff.1 hi;obtain ⟨l2,q2⟩:=List.getElem?_eq_some_iff.1 hc;exact Kz (((List.getElem_inj h.EV).1 (q2.trans q1.symm)))
  exact ⟨u,hm.at h1 bw,up h2⟩
end
def zp (w:World) (B:Nat→Prop) (bs:List Nat) (v:Value):Option Md→Prop
 | some (.go e nm)=>∃ ve vn,v = .tuple #[ve,vn,.nilIface,.bool true]∧my w B ve e∧gC w B bs nm vn
 | some (.val x)=>∃ u,v = .tuple #[.pointer none,.pointer none,u,.bool true]∧iu w B bs x u∧x.iC=true
 | none=>v = .tuple #[.pointer none,.pointer none,.nilIface,.bool false]
def mB (w w':World) (S:Nat→Prop) (r md mf:Nat) (bs:List Nat) (X:Cx) (v:Value) (x:R3):Prop:=
 ∃ S' cM,cJ w' S' r md mf cM X x.2∧dI S S' w∧(∀ (c b:Nat),bs[c]? = some b→cM[c]? = some b)∧zp w' (Out S' w') cM v x.1
theorem zq {w:World} {B:Nat→Prop} {bs:List Nat} {x:Cl} {u:Value} (h:iu w B bs x u):x.iC=true→∃ T z,u = .iface T z∧∃ want ti,Tryz.prog.underlying 77=some (.interface want)∧Tryz.prog.info? T=some ti∧(Instr.missingMethod want ti.methods).isNone=true:=by
 intro hv;cases x with
 | num n=>cases h;exact ⟨_,_,rfl,adD⟩
 | bg n fs=>obtain ⟨a,vs,rfl,_⟩:=h;exact ⟨_,_,rfl,adE⟩
 | gi e nm=>obtain ⟨a,ve,vn,rfl,_⟩:=h;exact ⟨_,_,rfl,adF⟩
 | fr n l fs=>obtain ⟨a,vs,rfl,_⟩:=h;exact ⟨_,_,rfl,adG⟩
 | wait e nm=>cases hv
 | busy=>cases hv
 | emp=>cases hv
theorem KA {w:World} {S:Nat→Prop} {r md mf:Nat} {bs:List Nat} {X:Cx} {m:Rn} {c b:Nat} (h:cJ w S r md mf bs X m) (hc:bs[c]? = some b) (hlen:m.a7.length≤2097152) :
   ba Tryz.prog 53 [ptr r,ptr b] w fun v w'=>mB w w' S r md mf bs X v (ft m c)∧Mod S w w':=by
 obtain ⟨vt,vf,db,bO,cw,cB,h⟩:=h;have KB:c < m.cells.length:=by rw [← h.len];exact (List.getElem?_eq_some_iff.1 hc).1
 have hx:=List.getElem?_eq_getElem KB;obtain ⟨u,hb,hu⟩:=h.cell c b _ hc hx;generalize m.cells[c]=x at hx hu;have hE:ft m c=match some x with
  | some (.wait e v)=>(some (.go e v),(m.put c .busy).push (.gd c))
  | some (.num n)=>(some (.val (.num n)),m)
  | some (.bg n fs)=>(some (.val (.bg n fs)),m)
  | some (.gi e v)=>(some (.val (.gi e v)),m)
  | some (.fr n l h)=>(some (.val (.fr n l h)),m)
  | _=>(none,m.stop 4):=by unfold ft;rw [hx];try rfl
 refine Yl.calls rfl ?_;unfold HN;(try simp only [go_sem,simprocAttr,cell_of hb]);cases hv:x.iC with
 | true=>
  obtain ⟨T,z,rfl,want,ti,q1,q2,q3⟩:=zq hu hv;have oV:ft m c=(some (.val x),m):=by rw [hE];cases x<;>first | rfl | cases hv
  refine Kv rfl q1 q2 q3 (Tryz.zeroValue77 _) (fun _=>?_) (fun h=>by cases h);(try simp only [go_sem,simprocAttr,aE,RV.ev,aF]);rw [oV];exact ⟨⟨S,bs,⟨_,_,_,_,_,_,h⟩,⟨fun _ h=>h,fun _ h=>.inl h⟩,fun _ _ h=>h,_,rfl,hu,hv⟩,.refl _ _⟩
 | false=>
  have stop:∀ (oV:ft m c=(none,m.stop 4)),ba Tryz.prog 52 [ptr r,I 4] w fun _ w'=>mB w w' S r md mf bs X (.tuple #[.pointer none,.pointer none,.nilIface,.bool false]) (ft m c)∧Mod S w w':=fun oV=>by
   refine (BW ⟨_,_,_,_,_,_,h⟩).mono ?_;rintro _ w1 ⟨hR,ak⟩;rw [oV];exact ⟨⟨S,bs,hR,⟨fun _ h=>h,fun _ h=>.inl h⟩,fun _ _ h=>h,rfl⟩,ak.aT (fun y hy=>by rw [hy];exact h.bt _ (by simp))⟩
  cases x with
  | num n=>cases hv
  | bg n fs=>cases hv
  | gi e nm=>cases hv
  | fr n l fs=>cases hv
  | emp=>
   cases hu;obtain ⟨want,ti,q1,q2,q3⟩:=Rs;refine Ro rfl q1 (Tryz.zeroValue77 _) ?_;(try simp only [go_sem,simprocAttr]);refine Ro (D:=.pointer 108) rfl rfl (Tryz.zeroValue105 _) ?_;(try simp only [go_sem,simprocAttr]);refine aK (by rfl) ?_;refine (stop hE).mono ?_;rintro _ w1 hR;(try simp only [go_sem,simprocAttr,aE,RV.ev,aF]);exact hR
  | busy=>
   cases hu;obtain ⟨want,ti,q1,q2,q3⟩:=adH;refine Kv rfl q1 q2 q3 (Tryz.zeroValue77 _) (fun h=>by cases h) (fun _=>?_);(try simp only [go_sem,simprocAttr]);refine jH (D:=.pointer 108) rfl rfl rfl (Tryz.zeroValue105 _) (fun h=>absurd h (by decide)) (fun _=>?_);(try simp only [go_sem,simprocAttr]);refine aK (by rfl) ?_;refine (stop hE).mono ?_;rintro _ w1 hR;(try simp only [go_sem,simprocAttr,aE,RV.ev,aF]);exact hR
  | wait e nm=>
   obtain ⟨a,ve,vn,rfl,bJ,he,hn⟩:=hu;obtain ⟨want,ti,q1,q2,q3⟩:=Rs;refine Kv rfl q1 q2 q3 (Tryz.zeroValue77 _) (fun h=>by cases h) (fun _=>?_);(try simp only [go_sem,simprocAttr]);refine jH (D:=.pointer 108) rfl rfl rfl (Tryz.zeroValue105 _) (fun _=>?_) (fun h=>absurd rfl h);(try simp only [go_sem,simprocAttr]);refine fF (b:=b) (off:=0) (v:=.iface 167 (.agg #[])) rfl rfl hb rfl (by simp) ?_;intro w1 au ak bP;have Sb:∀ y,y=b→S y:=fun y hy=>by rw [hy];exact h.bt _ (by simp [List.mem_of_getElem? hc])
   have h1:=h.put (x:=.busy) hc ak au rfl;have adL:=ak.aT Sb;(try simp only [go_sem,simprocAttr]);refine aK (by rfl) ?_;refine (vy (f:=.gd c) (cs:=[I 0,ptr b,.pointer none,.pointer none,I 0]) ⟨_,_,_,_,_,_,h1⟩ ⟨b,rfl,hc⟩ hlen).mono ?_;rintro _ w2 ⟨⟨S2,h2,iU⟩,ai⟩;have aY:Mod S w w2:=adL.trans ai
   have hg:dI S S2 w:=⟨iU.1,fun y hy=>by
    rcases iU.2 y hy with h | h
    ·exact .inl h
    ·right;omega⟩
   have eD:=qQ hg aY.size;have yQ:=bJ.up aY aM eD;have k0:w2.cell? a=some ve:=yQ.c0 (by simp);have k1:w2.cell? ⟨a.block,a.off+1,none⟩=some vn:=yQ.at (k:=1) (by simp);(try simp only [go_sem,simprocAttr,k0,k1,aE,RV.ev,aF]);rw [hE];have d2:Mod (fun _=>False) w2 w2.drew:=(Mod.refl _ _).drew;have EW:Mod S w w2.drew:=aY.trans (aj d2);have Rx:=qQ hg EW.size;exact ⟨⟨S2,bs,cJ.aB h2 d2,hg,fun _ _ h=>h,ve,vn,rfl,he.up EW aM Rx,hn.up EW aM Rx (fun _ _ h=>h)⟩,EW⟩
end
section
open Go Go.W
theorem qR {w:World} {S:Nat→Prop} {b T:Nat} {cs:List Value} (hb:w.heap[b]? = some (.cells cs.toArray T (0,0))) (hS:¬ S b):fT w (Out S w) ⟨b,0,none⟩ cs:=
 ⟨⟨cC hb,hS⟩,fun k hk=>by rw [nE,cell_of hb];simp [List.getElem?_eq_getElem hk]⟩
theorem Ry {w w':World} {S:Nat→Prop} {b T:Nat} {cs:List Value} (hb:w.heap[b]? = some (.cells cs.toArray T (0,0))) (hm:Mod (fun _=>False) w w') (hS:¬ S b):fT w' (Out S w') ⟨b,0,none⟩ cs:=qR (hm.at hb _root_.id) hS
theorem EX {w:World} {S:Nat→Prop} {b T:Nat} {cs:List Value} (hb:w.heap[b]? = some (.cells cs.toArray T (0,0))) (hS:¬ S b):su w (Out S w) ⟨b,0,none⟩ cs:=⟨qR hb hS,_,_,hb⟩
theorem Rz {w:World} {S:Nat→Prop} {bs hv:List Nat} {n:ByteArray} {mw:Int} {vs:Value} (hS:∀ b,S b→b < w.heap.size) (h:tU w (Out S w) bs hv vs) :
   ba Tryz.prog 51 [.string n,I mw,vs] w fun v w'=>iu w' (Out S w') bs (lJ n mw hv) v∧(lJ n mw hv).iC=true∧Mod (fun _=>False) w w':=by
 obtain ⟨a,c,rfl⟩:=a8 h;refine Yj.calls rfl ?_;unfold HK;(try simp only [go_sem,simprocAttr]);cases hl:mw == 0 with
 | true=>
  have sL:mw=0:=by simpa using hl
  have hg:lJ n mw hv = .bg n hv:=by unfold lJ;rw [if_pos sL]
  (try simp only [go_sem,simprocAttr]);refine bB rfl ?_;intro w1 au ak bP;(try simp only [go_sem,simprocAttr,aE,RV.ev,aF]);rw [hg];exact ⟨⟨_,_,rfl,qR (cs:=[.string n,.slice a hv.length c]) au (fun hh=>by have:=hS _ hh;omega),h.up (aj ak) aM (aU (aj ak)) (fun _ _ h=>h)⟩,rfl,ak⟩
 | false=>
  have sL:mw≠0:=by simpa using hl
  have hg:lJ n mw hv = .fr n mw hv:=by unfold lJ;rw [if_neg sL]
  (try simp only [go_sem,simprocAttr]);refine bB rfl ?_;intro w1 au ak bP;(try simp only [go_sem,simprocAttr,aE,RV.ev,aF]);rw [hg];exact ⟨⟨_,_,rfl,qR (cs:=[.string n,I mw,.slice a hv.length c]) au (fun hh=>by have:=hS _ hh;omega),h.up (aj ak) aM (aU (aj ak)) (fun _ _ h=>h)⟩,rfl,ak⟩
theorem EY (n:Int) {w:World}:ba Tryz.prog 92 [I n] w fun r w'=>r=I (tR n)∧w=w':=by
 refine Zf.calls rfl ?_;unfold Ir;(try simp only [go_sem,Nat.reduceAdd,Nat.reduceEqDiff,Nat.reduceLT,Nat.reduceLeDiff,Nat.reduceMul,reduceCtorEq,↓reduceIte,aE,RV.ev,aF]);exact ⟨_,rfl,_,rfl,rfl⟩
end
section
open Go Go.W
def EZ (w':World) (S:Nat→Prop) (r md mf:Nat) (bs:List Nat) (X:Cx) (m:Rn) (v:Value):Option Cl→Prop
 | some x=>(∃ u,v = .tuple #[u,.bool true]∧iu w' (Out S w') bs x u∧x.iC=true)∧cJ w' S r md mf bs X m
 | none=>v = .tuple #[.nilIface,.bool false]∧cJ w' S r md mf bs X (m.stop 3)
theorem RA {n:ByteArray} {a b:Int} {w:World} {S:Nat→Prop} {r md mf:Nat} {bs:List Nat} {X:Cx} {m:Rn} (h:cJ w S r md mf bs X m) :
   ba Tryz.prog 75 [ptr r,.string n,I a,I b] w fun v w'=>EZ w' S r md mf bs X m v (nZ n a b)∧Mod S w w':=by
 have hO:nZ n a b=if aR n ⟨#[43]⟩ then some (.num (tR (Wr (a+b))))
  else if aR n ⟨#[45]⟩ then some (.num (tR (Wr (a - b))))
  else if aR n ⟨#[42]⟩ then some (.num (tR (Wr (a*b))))
  else if aR n ⟨#[47]⟩||aR n ⟨#[37]⟩ then (if b=0 then none else if aR n ⟨#[47]⟩ then some (.num (tR (Wr (a.tdiv b)))) else some (.num (a.tmod b)))
  else some (.bg (if zo n a b then tS else tT) []):=rfl
 have BX:∀ (k:Int),EZ w S r md mf bs X m (.tuple #[.iface 115 (I k),.bool true]) (some (.num k)):=fun k=>⟨⟨_,rfl,rfl,rfl⟩,h⟩
 refine YW.calls rfl ?_;unfold H9;(try simp only [go_sem,simprocAttr]);refine td (fun ρ w'=>w=w'∧nZ n a b=some (.bg (if zo n a b then tS else tT) [])∧ρ.get 10=some (.bool (zo n a b))) ?_ ?_
 ·cases h1:aR n ⟨#[43]⟩ with
  | true=>
   rw [if_pos h1] at hO;rw [aR] at h1;(try simp only [go_sem,simprocAttr,h1]);refine aK (by rfl) ?_;refine (EY _).mono ?_;rintro _ _ ⟨rfl,rfl⟩;(try simp only [go_sem,simprocAttr,aE,RV.ev,aF]);rw [hO];exact ⟨BX _,.refl _ _⟩
  | false=>
  rw [if_neg (by rw [h1];simp)] at hO;rw [aR] at h1;(try simp only [go_sem,simprocAttr,h1]);cases h2:aR n ⟨#[45]⟩ with
  | true=>
   rw [if_pos h2] at hO;rw [aR] at h2;(try simp only [go_sem,simprocAttr,h2]);refine aK (by rfl) ?_;refine (EY _).mono ?_;rintro _ _ ⟨rfl,rfl⟩;(try simp only [go_sem,simprocAttr,aE,RV.ev,aF]);rw [hO];exact ⟨BX _,.refl _ _⟩
  | false=>
  rw [if_neg (by rw [h2];simp)] at hO;rw [aR] at h2;(try simp only [go_sem,simprocAttr,h2]);cases h3:aR n ⟨#[42]⟩ with
  | true=>
   rw [if_pos h3] at hO;rw [aR] at h3;(try simp only [go_sem,simprocAttr,h3]);refine aK (by rfl) ?_;refine (EY _).mono ?_;rintro _ _ ⟨rfl,rfl⟩;(try simp only [go_sem,simprocAttr,aE,RV.ev,aF]);rw [hO];exact ⟨BX _,.refl _ _⟩
  | false=>
  rw [if_neg (by rw [h3];simp)] at hO;rw [aR] at h3;(try simp only [go_sem,simprocAttr,h3]);have Sr:∀ y,y=r→S y:=fun y hy=>by obtain ⟨_,_,_,_,_,_,hh⟩:=h;rw [hy];exact hh.bt _ (by simp)
  have zero:∀ (hO:nZ n a b=none),ba Tryz.prog 52 [ptr r,I 3] w fun _ w'=>EZ w' S r md mf bs X m (.tuple #[.nilIface,.bool false]) (nZ n a b)∧Mod S w w':=fun hO=>by
   refine (BW h).mono ?_;rintro _ w1 ⟨hR,ak⟩;rw [hO];exact ⟨⟨rfl,hR⟩,ak.aT Sr⟩
  cases h4:aR n ⟨#[47]⟩ with
  | true=>
   rw [if_pos (by rw [h4];try rfl),if_pos h4] at hO;rw [aR] at h4;(try simp only [go_sem,simprocAttr,h4]);cases hb:b == 0 with
   | true=>
    rw [if_pos (by simpa using hb)] at hO;(try simp only [go_sem,simprocAttr]);refine aK (by rfl) ?_;refine (zero hO).mono ?_;rintro _ w1 hR;(try simp only [go_sem,simprocAttr,aE,RV.ev,aF]);exact hR
   | false=>
    have iJ:b≠0:=by simpa using hb
    rw [if_neg iJ] at hO;(try simp only [go_sem,simprocAttr,h4,iJ]);refine aK (by rfl) ?_;refine (EY _).mono ?_;rintro _ _ ⟨rfl,rfl⟩;(try simp only [go_sem,simprocAttr,aE,RV.ev,aF]);rw [hO];exact ⟨BX _,.refl _ _⟩
  | false=>
  cases h5:aR n ⟨#[37]⟩ with
  | true=>
   rw [if_pos (by rw [h5];simp),if_neg (show ¬ aR n ⟨#[47]⟩=true by rw [h4];simp)] at hO;rw [aR] at h4 h5;(try simp only [go_sem,simprocAttr,h4,h5]);cases hb:b == 0 with
   | true=>
    rw [if_pos (by simpa using hb)] at hO;(try simp only [go_sem,simprocAttr]);refine aK (by rfl) ?_;refine (zero hO).mono ?_;rintro _ w1 hR;(try simp only [go_sem,simprocAttr,aE,RV.ev,aF]);exact hR
   | false=>
    have iJ:b≠0:=by simpa using hb
    rw [if_neg iJ] at hO;(try simp only [go_sem,simprocAttr,h4,iJ,aE,RV.ev,aF]);rw [hO];exact ⟨BX _,.refl _ _⟩
  | false=>
  rw [if_neg (by rw [h4,h5];simp)] at hO;have hT:zo n a b=if aR n ⟨#[61,61]⟩ then a == b
   else if aR n ⟨#[47,61]⟩ then a != b
   else if aR n ⟨#[60]⟩ then decide (a < b)
   else if aR n ⟨#[60,61]⟩ then decide (a≤b)
   else if aR n ⟨#[62]⟩ then decide (a > b)
   else if aR n ⟨#[62,61]⟩ then decide (a≥b)
   else false:=rfl
  rw [aR] at h4 h5;(try simp only [go_sem,simprocAttr,h4,h5]);cases c1:aR n ⟨#[61,61]⟩ with
  | true=>
   rw [if_pos c1] at hT;rw [aR] at c1;(try simp only [go_sem,simprocAttr,c1]);exact ⟨hO,congrArg _ hT.symm⟩
  | false=>
  rw [if_neg (by rw [c1];simp)] at hT;rw [aR] at c1;(try simp only [go_sem,simprocAttr,c1]);cases c2:aR n ⟨#[47,61]⟩ with
  | true=>
   rw [if_pos c2] at hT;rw [aR] at c2;(try simp only [go_sem,simprocAttr,c2]);exact ⟨hO,congrArg _ hT.symm⟩
  | false=>
  rw [if_neg (by rw [c2];simp)] at hT;rw [aR] at c2;(try simp only [go_sem,simprocAttr,c2]);cases c3:aR n ⟨#[60]⟩ with
  | true=>
   rw [if_pos c3] at hT;rw [aR] at c3;(try simp only [go_sem,simprocAttr,c3]);exact ⟨hO,congrArg _ hT.symm⟩
  | false=>
  rw [if_neg (by rw [c3];simp)] at hT;rw [aR] at c3;(try simp only [go_sem,simprocAttr,c3]);cases c4:aR n ⟨#[60,61]⟩ with
  | true=>
   rw [if_pos c4] at hT;rw [aR] at c4;(try simp only [go_sem,simprocAttr,c4]);exact ⟨hO,congrArg _ hT.symm⟩
  | false=>
  rw [if_neg (by rw [c4];simp)] at hT;rw [aR] at c4;(try simp only [go_sem,simprocAttr,c4]);cases c5:aR n ⟨#[62]⟩ with
  | true=>
   rw [if_pos c5] at hT;rw [aR] at c5;(try simp only [go_sem,simprocAttr,c5]);exact ⟨hO,congrArg _ hT.symm⟩
  | false=>
  rw [if_neg (by rw [c5];simp)] at hT;rw [aR] at c5;(try simp only [go_sem,simprocAttr,c5]);cases c6:aR n ⟨#[62,61]⟩ with
  | true=>
   rw [if_pos c6] at hT;rw [aR] at c6;(try simp only [go_sem,simprocAttr,c6]);exact ⟨hO,congrArg _ hT.symm⟩
  | false=>
  rw [if_neg (by rw [c6];simp)] at hT;rw [aR] at c6;(try simp only [go_sem,simprocAttr,c6]);exact ⟨hO,congrArg _ hT.symm⟩
 ·rintro ρ _ ⟨rfl,hc,g10⟩;have hS:=h;obtain ⟨_,_,_,_,_,_,hh⟩:=hS;cases ht:zo n a b with
  | true=>
   rw [ht] at g10 hc;(try simp only [go_sem,simprocAttr,g10]);refine bB rfl ?_;intro w1 au ak bP;(try simp only [go_sem,simprocAttr,aE,RV.ev,aF]);rw [hc];exact ⟨⟨⟨_,rfl,⟨_,_,rfl,qR (cs:=[.string tS,.slice none 0 0]) au (fun hx=>by have:=hh.lt _ hx;omega),fH _ _ _ _⟩,rfl⟩,h.aB ak⟩,aj ak⟩
  | false=>
   rw [ht] at g10 hc;(try simp only [go_sem,simprocAttr,g10]);refine bB rfl ?_;intro w1 au ak bP;(try simp only [go_sem,simprocAttr,aE,RV.ev,aF]);rw [hc];exact ⟨⟨⟨_,rfl,⟨_,_,rfl,qR (cs:=[.string tT,.slice none 0 0]) au (fun hx=>by have:=hh.lt _ hx;omega),fH _ _ _ _⟩,rfl⟩,h.aB ak⟩,aj ak⟩
end
section
open Go Go.W
theorem RB {w:World} {S:Nat→Prop} {r md mf:Nat} {bs:List Nat} {X:Cx} {m:Rn} {c b:Nat} {f:Cl} {u:Value} {cm:R3} (h:cJ w S r md mf bs X m) (hc:bs[c]? = some b) (hu:iu w (Out S w) bs f u) (hv:f.iC=true) (aS:j8 m f c=some cm) :
   ba Tryz.prog 36 [ptr r,u,ptr b] w fun v w'=>mB w w' S r md mf bs X v cm∧Mod S w w':=by
 have hS:=h;obtain ⟨_,_,_,_,_,_,hh⟩:=hS;have Sr:∀ y,y=r→S y:=fun y hy=>by rw [hy];exact hh.bt _ (by simp)
 have stop:∀ (oV:cm=(none,m.stop 5)),ba Tryz.prog 52 [ptr r,I 5] w fun _ w'=>mB w w' S r md mf bs X (.tuple #[.pointer none,.pointer none,.nilIface,.bool false]) cm∧Mod S w w':=fun oV=>by
  refine (BW h).mono ?_;rintro _ w1 ⟨hR,ak⟩;rw [oV];exact ⟨⟨S,bs,hR,⟨fun _ h=>h,fun _ h=>.inl h⟩,fun _ _ h=>h,rfl⟩,ak.aT Sr⟩
 refine XR.calls rfl ?_;unfold Hw;(try simp only [go_sem,simprocAttr]);cases f with
 | wait e nm=>cases hv
 | busy=>cases hv
 | emp=>cases hv
 | num n=>
  cases hu;cases aS;refine jH (D:=.pointer 139) rfl rfl rfl (Tryz.zeroValue138 _) (fun h=>absurd h (by decide)) (fun _=>?_);(try simp only [go_sem,simprocAttr]);refine jH (D:=.pointer 144) rfl rfl rfl (Tryz.zeroValue142 _) (fun h=>absurd h (by decide)) (fun _=>?_);(try simp only [go_sem,simprocAttr]);refine aK (by rfl) ?_;refine (stop rfl).mono ?_;rintro _ w1 hR;(try simp only [go_sem,simprocAttr,aE,RV.ev,aF]);exact hR
 | bg n fs=>
  obtain ⟨a,vs,rfl,_⟩:=hu;cases aS;refine jH (D:=.pointer 139) rfl rfl rfl (Tryz.zeroValue138 _) (fun h=>absurd h (by decide)) (fun _=>?_);(try simp only [go_sem,simprocAttr]);refine jH (D:=.pointer 144) rfl rfl rfl (Tryz.zeroValue142 _) (fun h=>absurd h (by decide)) (fun _=>?_);(try simp only [go_sem,simprocAttr]);refine aK (by rfl) ?_;refine (stop rfl).mono ?_;rintro _ w1 hR;(try simp only [go_sem,simprocAttr,aE,RV.ev,aF]);exact hR
 | gi e nm=>
  obtain ⟨a,ve,vn,rfl,bJ,⟨ae,qD,rfl,iD,hex⟩,hn⟩:=hu;obtain ⟨vt,va,vb,vl,rfl,ht,ha,hb,hl⟩:=hex.parts;obtain ⟨aa,ca,rfl⟩:=a8 ha;obtain ⟨ab,cb,rfl⟩:=a8 hb
  have aS:(match e.args,e.binds with
   | x::_,b::_=>some (some (Md.go x ((b.name,c)::nm)),m)
   | _,_=>none)=some cm:=aS
  cases bM:e.args with
  | nil=>rw [bM] at aS;cases aS
  | cons x xs=>
  cases pI:e.binds with
  | nil=>rw [bM,pI] at aS;cases aS
  | cons bd bds=>
  rw [bM,pI] at aS;cases aS;have lx:0 < e.args.length:=by rw [bM];simp
  have lb:0 < e.binds.length:=by rw [pI];simp
  obtain ⟨y5,ca2,ra,ea,kR,jW,RC⟩:=io ha lx;obtain ⟨rfl,-,-⟩:=b9 ea;obtain ⟨yV,cb2,rb,eb,RD,D2,ko⟩:=io hb lb;obtain ⟨rfl,-,-⟩:=b9 eb;have eX:e.args[0]=x:=by simp [bM]
  have kG:e.binds[0]=bd:=by simp [pI]
  rw [eX] at kR;rw [kG] at RD;rw [Nat.zero_mul,add_zero'] at RC ko;obtain ⟨tc,bc,rfl,_,_,_⟩:=RD;have k0:w.cell? a=some (.pointer (some ae)):=bJ.c0 (by simp);have k1:w.cell? ⟨a.block,a.off+1,none⟩=some vn:=bJ.at (k:=1) (by simp);have k4:w.cell? ⟨ae.block,ae.off+4,none⟩=some (.slice (some y5) e.args.length ca):=iD.at (k:=4) (by simp);have k5:w.cell? ⟨ae.block,ae.off+5,none⟩=some (.slice (some yV) e.binds.length cb):=iD.at (k:=5) (by simp);have kb:w.cell? yV=some (.string bd.name):=ko.c0 (by simp);have b1:(0:Int)≤0∧(0:Int) < e.args.length:=by omega
  have b2:(0:Int)≤0∧(0:Int) < e.binds.length:=by omega
  refine jH (D:=.pointer 139) rfl rfl rfl (Tryz.zeroValue138 _) (fun _=>?_) (fun h=>absurd rfl h);have hvn:Go.W.One vn:=by
   cases nm with
   | nil=>cases hn;rfl
   | cons p l=>obtain ⟨_,_,_,rfl,_⟩:=hn;rfl
  (try simp only [go_sem,simprocAttr,bq,br,k0,k1,k4,k5,b1,b2,Nat.zero_mul,kb,hvn]);refine bB rfl ?_;intro w1 au adM bP;have ak:Mod (fun _=>False) w w1:=adM.ez;have KC:=lW k0;have lte:=lW k4;(try simp only [go_sem,simprocAttr,aE,RV.ev,aF]);refine ⟨⟨ak.bY _ lte _root_.id,ak.bY _ KC _root_.id⟩,⟨S,bs,h.aB ak,⟨fun _ h=>h,fun _ h=>.inl h⟩,fun _ _ h=>h,_,_,rfl,⟨y5,ra,rfl,RC.up (aj ak) aM (aU (aj ak)),kR.up (aj ak) aM (aU (aj ak))⟩,?_⟩,aj ak⟩;exact ⟨_,b,vn,rfl,hc,EX (cs:=[.string bd.name,ptr b,vn]) au (fun hx=>by have:=hh.lt _ hx;have e:w.drew.heap.size=w.heap.size:=rfl;omega),hn.up (aj ak) aM (aU (aj ak)) (fun _ _ h=>h)⟩
 | fr n l fs=>
  obtain ⟨a,vs,rfl,bJ,gR⟩:=hu;obtain ⟨ah,ch,rfl⟩:=a8 gR;have aS:(if fs.length < 1099511627776 then some (some (Md.val (lJ n (Wr (l - 1)) (fs++[c]))),m) else none)=some cm:=aS;have hlen:fs.length < 1099511627776:=by
   apply Classical.byContradiction;intro h;rw [if_neg h] at aS;cases aS
  rw [if_pos hlen] at aS;cases aS;have k0:w.cell? a=some (.string n):=bJ.c0 (by simp);have k1:w.cell? ⟨a.block,a.off+1,none⟩=some (I l):=bJ.at (k:=1) (by simp);have k2:w.cell? ⟨a.block,a.off+2,none⟩=some (.slice ah fs.length ch):=bJ.at (k:=2) (by simp);have adN:=gR;obtain ⟨rows,ku,lu,Bi⟩:=adN;obtain ⟨nV,eV,iG⟩:=GR ku.1 (by decide);have gu:∀ y∈rows.flatMap id,y.oneCell'=true:=fun y hy=>by
   rw [List.mem_flatMap] at hy;obtain ⟨row,hrow,hy⟩:=hy;obtain ⟨i,hi,rfl⟩:=List.getElem_of_mem hrow;obtain ⟨b',e,_⟩:=Bi i _ _ (List.getElem?_eq_getElem hi) (List.getElem?_eq_getElem (by omega));have hy:y∈rows[i]:=hy;rw [e] at hy;simp only [List.mem_cons,List.not_mem_nil,or_false] at hy;subst hy;rfl
  refine jH (D:=.pointer 139) rfl rfl rfl (Tryz.zeroValue138 _) (fun h=>absurd h (by decide)) (fun _=>?_);(try simp only [go_sem,simprocAttr]);refine jH (D:=.pointer 144) rfl rfl rfl (Tryz.zeroValue142 _) (fun _=>?_) (fun h=>absurd rfl h);(try simp only [go_sem,simprocAttr,k2]);refine rD (m:=fs.length) (news:=rows.flatMap id) rfl (dE.nil w 82 1) rfl iG eV gu rfl (by omega) (by omega) ?_;intro v1 w1 fp1 lU ak pd;have ak:Mod (fun _=>False) w w1:=ak.aT (fun y hy=>by cases hy);(try simp only [go_sem,simprocAttr]);refine fG (cs:=#[ptr b]) rfl rfl ?_;intro w2 aw ai bS;have aY:=ak.trans ai;have adO:=oz (xs:=[ptr b]) aw;(try simp only [go_sem,simprocAttr]);refine rD (m:=1) (news:=[ptr b]) rfl (lU.mod ai (fun _ _ h=>h)) rfl (fun h=>by cases h) adO (aW rfl dy) rfl (by omega) (by omega) ?_;intro v3 w3 hZ tV ar jC;have z02:=aY.size;have RE:∀ y,fp1=some y→w.heap.size≤y:=fun y hy=>by
   rcases pd y hy with h | ⟨h,_⟩
   ·cases h
   ·omega
  have bo:Mod (fun _=>False) w w3:=aY.step ar (fun y hy hl=>by have:=RE y hy;omega);have mu:∀ y,hZ=some y→Out S w3 y:=fun y hy=>by
   have aP:=tV.lt hy;refine ⟨aP,fun hs=>?_⟩;have:=hh.lt y hs;rcases jC y hy with h | ⟨h,_⟩
   ·have:=RE y h;omega
   ·omega
  have mO:∀ r∈rows++[[ptr b]],r.length=1:=fun row hrow=>by
   rcases List.mem_append.1 hrow with hrow | hrow
   ·obtain ⟨i,hi,rfl⟩:=List.getElem_of_mem hrow;obtain ⟨b',e,_⟩:=Bi i _ _ (List.getElem?_eq_getElem hi) (List.getElem?_eq_getElem (by omega));rw [e];try rfl
   ·rw [List.mem_singleton.1 hrow];try rfl
  have adP:dE w3 82 1 v3 ((rows++[[ptr b]]).flatMap id) (rows++[[ptr b]]).length hZ:=by
   have e:(rows++[[ptr b]]).length=0+fs.length+1:=by simp [lu]
   rw [Ba,e];exact tV
  have hFs:tU w3 (Out S w3) bs (fs++[c]) v3:=by
   refine ⟨rows++[[ptr b]],⟨(AZ adP mO).mod (.refl (fun _=>False) w3) aC (fun y hy=>mu y hy),by rw [List.length_append];simp;omega⟩,by simp [lu],fun i row x h1 h2=>?_⟩;rcases Nat.lt_or_ge i rows.length with hi | hi
   ·rw [List.getElem?_append_left hi] at h1;rw [List.getElem?_append_left (by omega)] at h2;exact Bi i row x h1 h2
   ·rw [List.getElem?_append_right hi] at h1;rw [List.getElem?_append_right (by omega)] at h2;have e0:i - rows.length=0:=by
     rcases Nat.eq_zero_or_pos (i - rows.length) with e | e
     ·exact e
     ·rw [List.getElem?_eq_none (by simp;omega)] at h1;cases h1
    have e1:i - fs.length=0:=by omega
    rw [e0] at h1;rw [e1] at h2;simp only [List.getElem?_cons_zero,Option.some.injEq] at h1 h2;subst h1 h2;exact ⟨b,rfl,hc⟩
  have zn:=bJ.up (aj bo (S:=S)) aM (aU (aj bo));have k03:w3.cell? a=some (.string n):=zn.c0 (by simp);have k13:w3.cell? ⟨a.block,a.off+1,none⟩=some (I l):=zn.at (k:=1) (by simp);have d3:Mod (fun _=>False) w3 w3.drew:=(Mod.refl _ _).drew;have RF:=bo.trans d3;(try simp only [go_sem,simprocAttr,k03,k13]);refine aK (by rfl) ?_;refine (Rz (S:=S) (bs:=bs) (hv:=fs++[c]) (n:=n) (mw:=Wr (l - 1)) (fun y hy=>by have:=hh.lt y hy;have:=RF.size;omega) (hFs.up (aj d3) aM (aU (aj d3)) (fun _ _ h=>h))).mono ?_;rintro u5 w5 ⟨iT,lD,aD⟩;have eS:=RF.trans aD;(try simp only [go_sem,simprocAttr,aE,RV.ev,aF]);exact ⟨⟨S,bs,h.aB eS,⟨fun _ h=>h,fun _ h=>.inl h⟩,fun _ _ h=>h,u5,rfl,iT,lD⟩,aj eS⟩
end
section
open Go Go.W
theorem adQ {l:List ByteArray} {fs:List Nat} {i:Nat} (hi:i < l.length) (v:cN):jJ (l.drop i) (fs.drop i) v=if h:i < fs.length then jJ (l.drop (i+1)) (fs.drop (i+1)) ((l[i],fs[i])::v) else none:=by
 rw [List.drop_eq_getElem_cons hi]
 split
 ·rename_i h;rw [List.drop_eq_getElem_cons h,jJ]
 ·rename_i h;rw [List.drop_eq_nil_of_le (show fs.length≤i by omega),jJ]
theorem adR {m:Rn} {v:cN} {x:Cl} {l:List Al} {i:Nat} (hi:i < l.length):eu m v x (l.drop i) =
   if (l[i].kind == 3||(l[i].kind == 2&&(iQ x).isNone&&l[i].num == numOf x))=true then some (some (.go l[i].body v),m)
   else match iQ x with
    | some k=>if (l[i].kind == 1&&aR l[i].bg k.1)=true then (jJ l[i].vars k.2 v).map (fun v'=>(some (.go l[i].body v'),m)) else eu m v x (l.drop (i+1))
    | none=>eu m v x (l.drop (i+1)):=by
 rw [List.drop_eq_getElem_cons hi,eu];try rfl
theorem adS {w:World} {B:Nat→Prop} {v:Value} {l:List Al} (hl:aQ w v 11 B (gq w B) l) {i:Nat} (hi:i < l.length) :
   ∃ ad c vv ec,v = .slice (some ad) l.length c∧fT w B (ad.add (i*11)) (I l[i].kind :: .string l[i].bg::I l[i].num::vv::ec)∧aQ w vv 1 B eP l[i].vars∧bH w B ec l[i].body∧ec.length=7:=by
 obtain ⟨ad,c,r,e,⟨vv,ec,rfl,lD,hex⟩,_,bJ⟩:=io hl hi;exact ⟨ad,c,vv,ec,e,bJ,lD,hex,hex.len⟩
theorem fT.part {w:World} {B:Nat→Prop} {a:Addr} {cs ds:List Value} {k:Nat} (h:fT w B a cs) (hd:∀ i (hi:i < ds.length),cs[k+i]? = some ds[i]) (hk:k≠0):fT w B ⟨a.block,a.off+k,none⟩ ds:=by
 refine ⟨h.1,fun i hi=>?_⟩;have h1:=hd i hi;obtain ⟨aP,h2⟩:=List.getElem?_eq_some_iff.1 h1;have h3:=h.2 (k+i) aP;rw [h2,add_pos _ (by omega)] at h3;rw [nE,Nat.add_assoc];exact h3
end
section
open Go Go.W
abbrev tX:ByteArray:=⟨#[76,105,115,116]⟩
def sv (t:Ty):Bool:=(t.kind == 4&&aR t.name tX)&&(match t.args with | a::_=>a.kind == 1 | []=>false)
theorem adT (t:Ty) {w:World} {B:Nat→Prop} {cs:List Value} (h:aX w B cs t) (ha:t.kind=4→t.name=tX→0 < t.args.length) :
   ba Tryz.prog 33 [.agg cs.toArray] w fun r w'=>r = .bool (sv t)∧Mod (fun _=>False) w w':=by
 obtain ⟨v,rfl,hl⟩:=h.cells;obtain ⟨a,c,rfl⟩:=a8 hl;refine XO.calls rfl ?_;unfold Ht;(try simp only [go_sem,simprocAttr]);refine bB rfl ?_;intro w1 au ak bP;(try simp only [go_sem,simprocAttr,cell_of au,Value.cells]);cases h1:t.kind == 4 with
 | false=>
  (try simp only [go_sem,simprocAttr,aE,RV.ev,aF]);exact ⟨congrArg _ (by rw [sv,h1];try rfl),ak⟩
 | true=>
  (try simp only [go_sem,simprocAttr,cell_of au,Value.cells]);cases h2:aR t.name tX with
  | false=>
   have iH:=h2;rw [aR] at iH;(try simp only [go_sem,simprocAttr,iH,aE,RV.ev,aF]);exact ⟨congrArg _ (by rw [sv,h1,h2];try rfl),ak⟩
  | true=>
   have iH:=h2;rw [aR] at iH;have aP:=ha (by simpa using h1) (by have:=h2;rw [oH] at this;simpa using this);obtain ⟨ad,c2,r,e,hr,bV,bJ⟩:=io (hl.mod ak aC (fun _ _ h=>h.mod ak aC)) aP;obtain ⟨rfl,-,-⟩:=b9 e;obtain ⟨vu,rfl,_⟩:=hr.cells;rw [Nat.zero_mul,add_zero'] at bJ;have k0:w1.cell? ad=some (I t.args[0].kind):=bJ.c0 (by simp);have b1:(0:Int)≤0∧(0:Int) < t.args.length:=by omega
   have hk:(match t.args with | a::_=>a.kind == 1 | []=>false)=(t.args[0].kind == 1):=by
    cases t with
    | mk k n l=>cases l with
     | nil=>simp [Ty.args] at aP
     | cons x l=>rfl
   (try simp only [go_sem,simprocAttr,iH,cell_of au,Value.cells]);(try simp only [go_sem,simprocAttr,bq,br,b1,Nat.zero_mul,k0,aE,RV.ev,aF]);exact ⟨congrArg _ (by rw [sv,h1,h2,hk];try rfl),ak⟩
end
section
open Go Go.W
theorem lM {bs:List Nat} {b:Nat}:∀ (c d:Nat),bs[c]? = some d→(bs++[b])[c]? = some d:=fun c d h=>by
 rw [List.getElem?_append_left (List.getElem?_eq_some_iff.1 h).1];exact h
theorem cJ.new {w0 w:World} {S:Nat→Prop} {r md mf b:Nat} {bs:List Nat} {X:Cx} {m:Rn} {x:Cl} {v:Value} (h:cJ w0 S r md mf bs X m) (hm:Mod (fun _=>False) w0 w) (hb:w.heap[b]? = some (.cells [v].toArray Kx (0,0))) (jB:w0.heap.size≤b) (hv:iu w (Out (aN S b) w) (bs++[b]) x v) :
   cJ w (aN S b) r md mf (bs++[b]) X (m.new x):=by
 obtain ⟨vt,vf,db,bO,cw,cB,h⟩:=h;obtain ⟨n1,n2,n3,n4,n5,n6,n7,n8,n9⟩:=h.ne;have bC:Mod S w0 w:=aj hm;have eD:=eh bC (eC (S:=S) jB);have kL:∀ y∈ji r md mf bs cw cB,y < w0.heap.size:=fun y hy=>h.lt y (h.bt y hy)
 have nK:=cC hb
 refine ⟨vt,vf,db,bO,cw,cB,hm.at h.box _root_.id,h.told.mod hm (fun _ _ h=>h),h.items,h.oY.mod hm (fun _ _ h=>h),h.a7.imp (fun _ _ x=>x.up bC aM eD lM),?_,?_,?_,?_,?_,
  h.an.mod hm _root_.id (fun _ _ x=>by obtain ⟨y,e,h⟩:=x;exact ⟨y,e,lM _ _ h⟩),h.fields.mod hm _root_.id (fun _ _ x=>x),h.steps,fun p hp=>by
   obtain ⟨a1,a2,a3⟩:=h.kept p hp;have a4:=cC a1;simp only [ji,List.mem_cons,List.mem_append,Option.mem_toList,not_or] at a3 ⊢;obtain ⟨c1,c2,c3,⟨c4,c5⟩,c6⟩:=a3
   exact ⟨hm.at a1 _root_.id,.inl a2,c1,c2,c3,⟨c4,c5⟩,c6,fun e=>by omega,by simp⟩⟩
 ·refine Ky ?_ ⟨n1,n2,n3⟩ n4 n5 (fun y hy=>?_) n7 (fun a ha dK=>?_) (fun a ha dK=>?_)
  ·rw [List.nodup_append]
   exact ⟨h.EV,by simp,fun a ha c hc e=>by
    rw [List.mem_singleton.1 hc] at e
    have:=kL a (by simp [ha]);omega⟩
  ·rcases List.mem_append.1 hy with hy | hy
   ·exact n6 y hy
   ·rw [List.mem_singleton.1 hy];have:=kL r (by simp);have:=kL md (by simp);have:=kL mf (by simp);exact ⟨by omega,by omega,by omega⟩
  ·rcases List.mem_append.1 dK with hy | hy
   ·exact n8 a ha hy
   ·have:=kL a (by simp [ha]);have:=List.mem_singleton.1 hy;omega
  ·rcases List.mem_append.1 dK with hy | hy
   ·exact n9 a ha hy
   ·have:=kL a (by simp [ha]);have:=List.mem_singleton.1 hy;omega
 ·intro y hy;simp only [ji,List.mem_cons,List.mem_append,Option.mem_toList,List.not_mem_nil,or_false] at hy;rcases hy with rfl | rfl | rfl | (h1 | h1) | (h1 | h1)
  ·exact .inl (h.bt _ (by simp))
  ·exact .inl (h.bt _ (by simp))
  ·exact .inl (h.bt _ (by simp))
  ·exact .inl (h.bt _ (by simp [h1]))
  ·exact .inl (h.bt _ (by simp [h1]))
  ·exact .inl (h.bt _ (by simp [h1]))
  ·exact .inr h1
 ·intro y hy;rcases hy with h1 | h1
  ·exact Nat.lt_of_lt_of_le (h.lt y h1) hm.size
  ·omega
 ·show (bs++[b]).length=(m.cells++[x]).length;rw [List.length_append,List.length_append,h.len];try rfl
 ·intro i y z hi hz;have hz:(m.cells++[x])[i]? = some z:=hz;rcases Nat.lt_or_ge i bs.length with aP | hge
  ·rw [List.getElem?_append_left aP] at hi;rw [List.getElem?_append_left (by rw [← h.len];exact aP)] at hz;obtain ⟨u,h1,h2⟩:=h.cell i y z hi hz;exact ⟨u,hm.at h1 _root_.id,h2.up bC aM eD lM⟩
  ·rw [List.getElem?_append_right hge] at hi;rw [List.getElem?_append_right (by rw [← h.len];exact hge)] at hz;have e0:i - bs.length=0:=by
    rcases Nat.eq_zero_or_pos (i - bs.length) with e | e
    ·exact e
    ·rw [List.getElem?_eq_none (by simp;omega)] at hi;cases hi
   rw [e0] at hi;rw [← h.len,e0] at hz;simp only [List.getElem?_cons_zero,Option.some.injEq] at hi hz;subst hi hz;exact ⟨v,hb,hv⟩
end
section
open Go Go.W
theorem gC.one {w:World} {B:Nat→Prop} {bs:List Nat} {nm:cN} {v:Value} (h:gC w B bs nm v):Go.W.One v:=by
 cases nm with
 | nil=>cases h;rfl
 | cons p l=>obtain ⟨_,_,_,rfl,_⟩:=h;rfl
theorem adU {w:World} {S:Nat→Prop} {r md mf:Nat} {bs:List Nat} {X:Cx} {m:Rn} {e:Ex} {nm:cN} {x:Cl} {u:Value} {cs:List Value} {cm:R3} (h:cJ w S r md mf bs X m) (hf:mz w (Out S w) bs 2 e nm cs) (hu:iu w (Out S w) bs x u) (hv:x.iC=true) (aS:eu m nm x e.alts=some cm) :
   ba Tryz.prog 74 [ptr r,.agg cs.toArray,u] w fun v w'=>mB w w' S r md mf bs X v cm∧Mod S w w':=by
 obtain ⟨ve,vn,rfl,⟨ae,qD,rfl,iD,hex⟩,hn⟩:=hf;obtain ⟨vt,va,vb,vl,rfl,ht,ha,hb,hl⟩:=hex.parts;obtain ⟨al,cl,rfl⟩:=a8 hl;have kY:=du hl;have hS:=h;obtain ⟨_,_,_,_,_,_,hh⟩:=hS;have Sr:∀ y,y=r→S y:=fun y hy=>by rw [hy];exact hh.bt _ (by simp)
 obtain ⟨T,z,rfl,_⟩:=zq hu hv;refine YV.calls rfl ?_;unfold H8;refine dO (fun ρ w1=>ρ=[(0,ptr r),(2,.iface T z),(4,ptr w.heap.size)]∧w1.heap[w.heap.size]? = some (.cells [I 2,.pointer none,.pointer (some ae),vn,I 0].toArray 136 (0,0))∧Mod (fun _=>False) w w1) ?_ ?_
 ·(try simp only [go_sem,simprocAttr]);refine bB rfl ?_;intro w1 au ak bP;(try simp only [go_sem,simprocAttr]);exact ⟨au,ak⟩
 rintro _ w1 ⟨rfl,au,ak⟩;refine dO (fun ρ w'=>w1=w'∧∃ t10,ρ=[(0,ptr r),(2,.iface T z),(4,ptr w.heap.size),(10,t10),(11,.bool (iQ x).isSome)]∧∀ k,iQ x=some k→∃ a vs,t10 = .pointer (some a)∧fT w (Out S w) a [.string k.1,vs]∧tU w (Out S w) bs k.2 vs) ?_ ?_
 ·(try simp only [go_sem,simprocAttr]);refine jH (D:=.pointer 114) rfl rfl rfl (Tryz.zeroValue111 _) (fun hT=>?_) (fun hT=>?_)
  ·(try simp only [go_sem,simprocAttr]);refine ⟨z,?_,?_⟩
   ·cases x with
    | bg k fs=>rfl
    | num n=>cases hu;cases hT
    | gi e' ni=>obtain ⟨a,_,_,e,_⟩:=hu;cases e;cases hT
    | fr n l fs=>obtain ⟨a,_,e,_⟩:=hu;cases e;cases hT
    | wait e' ni=>cases hv
    | busy=>cases hv
    | emp=>cases hv
   ·intro k hk;cases x with
    | bg k' fs=>cases hk;obtain ⟨a,vs,e,h1,h2⟩:=hu;cases e;exact ⟨a,vs,rfl,h1,h2⟩
    | _=>cases hk
  ·(try simp only [go_sem,simprocAttr]);have adV:iQ x=none:=by
    cases x with
    | bg k fs=>obtain ⟨a,_,e,_⟩:=hu;cases e;exact absurd rfl hT
    | _=>rfl
   rw [adV];exact ⟨_,rfl,fun k hk=>by cases hk⟩
 rintro _ _ ⟨rfl,t10,rfl,kz⟩;refine dO (fun ρ w'=>w1=w'∧ρ=[(0,ptr r),(4,ptr w.heap.size),(10,t10),(11,.bool (iQ x).isSome),(12,I (numOf x))]) ?_ ?_
 ·(try simp only [go_sem,simprocAttr]);refine jH (D:=.int .i64) rfl rfl rfl (Tryz.zeroValue115 _) (fun hT=>?_) (fun hT=>?_)
  ·(try simp only [go_sem,simprocAttr]);cases x with
   | num n=>cases hu;rfl
   | bg k fs=>obtain ⟨a,_,e,_⟩:=hu;cases e;cases hT
   | gi e' ni=>obtain ⟨a,_,_,e,_⟩:=hu;cases e;cases hT
   | fr n l fs=>obtain ⟨a,_,e,_⟩:=hu;cases e;cases hT
   | wait e' ni=>cases hv
   | busy=>cases hv
   | emp=>cases hv
  ·(try simp only [go_sem,simprocAttr]);cases x with
   | num n=>cases hu;exact absurd rfl hT
   | _=>rfl
 rintro _ _ ⟨rfl,rfl⟩;have k2:w1.cell? ⟨w.heap.size,2,none⟩=some (.pointer (some ae)):=by rw [cell_of au];try rfl
 have k3:w1.cell? ⟨w.heap.size,3,none⟩=some vn:=by rw [cell_of au];try rfl
 have adW:=iD.up (aj ak (S:=S)) aM (aU (aj ak));have k6:w1.cell? ⟨ae.block,ae.off+6,none⟩=some (.slice al e.alts.length cl):=adW.at (k:=6) (by simp);(try simp only [go_sem,simprocAttr,k2,k6])
 refine fx (fun z' ρ w'=>Mod (fun _=>False) w1 w'∧∃ i:Nat,z'=e.alts.length - i∧i≤e.alts.length∧eu m nm x (e.alts.drop i)=some cm ∧
  ρ=[(0,ptr r),(4,ptr w.heap.size),(10,t10),(11,.bool (iQ x).isSome),(12,I (numOf x)),(34,I e.alts.length),(35,I i)]) e.alts.length ⟨.refl _ _,0,by omega,by omega,aS,rfl⟩ ?_
 rintro z' _ w2 ⟨ai,i,rfl,hi,aS,rfl⟩;have aY:Mod (fun _=>False) w w2:=ak.trans ai;unfold On;by_cases q:i < e.alts.length
 ·have b1:decide ((i:Int) < e.alts.length)=true:=by simpa using q
  have k2:w2.cell? ⟨w.heap.size,2,none⟩=some (.pointer (some ae)):=by rw [cell_of (ai.at au _root_.id)];try rfl
  have k3:w2.cell? ⟨w.heap.size,3,none⟩=some vn:=by rw [cell_of (ai.at au _root_.id)];try rfl
  have up2:=iD.up (aj aY (S:=S)) aM (aU (aj aY));have k6:w2.cell? ⟨ae.block,ae.off+6,none⟩=some (.slice al e.alts.length cl):=up2.at (k:=6) (by simp);have fC:=hl.up (aj aY (S:=S)) aM (aU (aj aY)) (fun _ _ h=>h.up (aj aY (S:=S)) aM (aU (aj aY)));obtain ⟨ad,c,vv,ec,e1,bJ,lD,JC,rV⟩:=adS fC q;obtain ⟨rfl,-,-⟩:=b9 e1;have fP:=adR (m:=m) (v:=nm) (x:=x) q;have p1:(0:Int)≤i∧(i:Int) < e.alts.length:=by omega
  have n0:w2.cell? (ad.add (i*11))=some (I e.alts[i].kind):=bJ.c0 (by simp);have n1:w2.cell? ⟨(ad.add (i*11)).block,(ad.add (i*11)).off+1,none⟩=some (.string e.alts[i].bg):=bJ.at (k:=1) (by simp);have n2:w2.cell? ⟨(ad.add (i*11)).block,(ad.add (i*11)).off+2,none⟩=some (I e.alts[i].num):=bJ.at (k:=2) (by simp);have n3:w2.cell? ⟨(ad.add (i*11)).block,(ad.add (i*11)).off+3,none⟩=some vv:=bJ.at (k:=3) (by simp);have gu:=hn.one;have body:my w2 (Out S w2) (.pointer (some ⟨(ad.add (i*11)).block,(ad.add (i*11)).off+4,none⟩)) e.alts[i].body:=⟨_,ec,rfl,bJ.part (fun j hj=>by rw [show 4+j=j+1+1+1+1 by omega];simp only [List.getElem?_cons_succ];exact List.getElem?_eq_getElem hj) (by decide),JC⟩;have eM:=h.aB aY;have ql:=hn.up (aj aY (S:=S)) aM (aU (aj aY)) (fun _ _ h=>h);have here:eu m nm x (e.alts.drop i)=some (some (.go e.alts[i].body nm),m)→mB w w2.drew S r md mf bs X (.tuple #[.pointer (some ⟨(ad.add (i*11)).block,(ad.add (i*11)).off+4,none⟩),vn,.nilIface,.bool true]) cm∧Mod S w w2.drew:=fun hc=>by
   rw [hc] at aS;cases aS;have d2:Mod (fun _=>False) w2 w2.drew:=(Mod.refl _ _).drew;exact ⟨⟨S,bs,eM.aB d2,⟨fun _ h=>h,fun _ h=>.inl h⟩,fun _ _ h=>h,_,_,rfl,body.up (aj d2 (S:=S)) aM (aU (aj d2)),ql.up (aj d2 (S:=S)) aM (aU (aj d2)) (fun _ _ h=>h)⟩,aj (aY.trans d2)⟩
  (try simp only [go_sem,simprocAttr,b1,k2,k6]);(try simp only [go_sem,simprocAttr,bq,br,p1,n0]);refine AT (fun ρ w'=>w2=w'∧ρ=[(0,ptr r),(4,ptr w.heap.size),(10,t10),(11,.bool (iQ x).isSome),(12,I (numOf x)),(15,.pointer (some (ad.add (i*11)))),(34,I e.alts.length),(35,I i),(45,.bool (e.alts[i].kind == 3||(e.alts[i].kind == 2&&(iQ x).isNone&&e.alts[i].num == numOf x)))]) ?_ ?_
  ·cases h3:e.alts[i].kind == 3 with
   | true=>(try simp only [go_sem,simprocAttr,Bool.true_or])
   | false=>
    cases h2:e.alts[i].kind == 2 with
    | false=>(try simp only [go_sem,simprocAttr,n0,h2,Bool.false_or,Bool.false_and])
    | true=>
     cases hx:iQ x with
     | some k=>(try simp only [go_sem,simprocAttr,n0,h2,hx,Option.isSome_some,Option.isNone_some,Bool.false_or,Bool.and_false,Bool.false_and,Bool.not_true])
     | none=>(try simp only [go_sem,simprocAttr,n0,n2,h2,hx,Option.isSome_none,Option.isNone_none,Bool.false_or,Bool.not_false])
  rintro _ _ ⟨rfl,rfl⟩;cases hc:(e.alts[i].kind == 3||(e.alts[i].kind == 2&&(iQ x).isNone&&e.alts[i].num == numOf x)) with
  | true=>
   rw [if_pos hc] at fP;(try simp only [go_sem,simprocAttr,k3,aE,RV.ev,aF]);exact here fP
  | false=>
   rw [if_neg (by rw [hc];simp)] at fP;have next:eu m nm x (e.alts.drop i)=eu m nm x (e.alts.drop (i+1))→∃ y:Nat,y < e.alts.length - i∧Mod (fun _=>False) w1 w2.drew∧∃ i':Nat,y=e.alts.length - i'∧i'≤e.alts.length∧eu m nm x (e.alts.drop i')=some cm ∧
       [(0,ptr r),(4,ptr w.heap.size),(10,t10),(11,Value.bool (iQ x).isSome),(12,I (numOf x)),(34,I e.alts.length),(35,I (IntKind.i64.wrap ((i:Int)+1)))]=[(0,ptr r),(4,ptr w.heap.size),(10,t10),(11,.bool (iQ x).isSome),(12,I (numOf x)),(34,I e.alts.length),(35,I i')]:=fun hn=>by
    have e3:IntKind.i64.wrap ((i:Int)+1)=((i+1:Nat):Int):=by rw [dk (by omega) (by omega)];omega
    exact ⟨_,by omega,ai.drew,i+1,rfl,q,by rw [← hn];exact aS,by rw [e3]⟩
   (try simp only [go_sem,simprocAttr,n0]);cases h1:e.alts[i].kind == 1 with
   | false=>
    have hn:eu m nm x (e.alts.drop i)=eu m nm x (e.alts.drop (i+1)):=by
     rw [fP,h1];cases iQ x<;>rfl
    (try simp only [go_sem,simprocAttr]);exact next hn
   | true=>
    cases hx:iQ x with
    | none=>
     have hn:eu m nm x (e.alts.drop i)=eu m nm x (e.alts.drop (i+1)):=by rw [fP,hx]
     (try simp only [go_sem,simprocAttr,hx,Option.isSome_none]);have:=next hn;rw [hx] at this;exact this
    | some k=>
     obtain ⟨a,vs,rfl,RG,gR⟩:=kz k hx;have acu:=RG.up (aj aY (S:=S)) aM (aU (aj aY));have a0:w2.cell? a=some (.string k.1):=acu.c0 (by simp);rw [hx] at fP;cases hs:aR e.alts[i].bg k.1 with
     | false=>
      have hn:eu m nm x (e.alts.drop i)=eu m nm x (e.alts.drop (i+1)):=by
       rw [fP];simp only [hs,Bool.and_false,Bool.false_eq_true,if_false]
      have dZ:=hs;rw [aR] at dZ;(try simp only [go_sem,simprocAttr,hx,Option.isSome_some,n1,a0,dZ]);have:=next hn;rw [hx] at this;exact this
     | true=>
      have dZ:=hs;rw [aR] at dZ;obtain ⟨av,cv,rfl⟩:=a8 lD;have PF:=du lD;have fP:eu m nm x (e.alts.drop i)=(jJ e.alts[i].vars k.2 nm).map (fun v'=>(some (.go e.alts[i].body v'),m)):=by
       rw [fP];simp only [h1,hs,Bool.and_self,if_true]
      rw [fP] at aS;obtain ⟨nmF,E0,rfl⟩:=Option.map_eq_some_iff.1 aS;have d2:Mod (fun _=>False) w2 w2.drew:=(Mod.refl _ _).drew;(try simp only [go_sem,simprocAttr,hx,Option.isSome_some,n1,n3,k3,a0,dZ])
      refine fx (fun z' ρ w'=>Mod (fun _=>False) w2 w'∧∃ (j:Nat) (ni:cN) (v':Value),z'=e.alts[i].vars.length - j∧j≤e.alts[i].vars.length∧gC w' (Out S w') bs ni v'∧jJ (e.alts[i].vars.drop j) (k.2.drop j) ni=some nmF ∧
       ρ=[(10,.pointer (some a)),(15,.pointer (some (ad.add (i*11)))),(16,v'),(98,.slice av e.alts[i].vars.length cv),(99,I e.alts[i].vars.length),(100,I j)]) e.alts[i].vars.length ⟨d2,0,nm,vn,by omega,by omega,ql.up (aj d2 (S:=S)) aM (aU (aj d2)) (fun _ _ h=>h),E0,rfl⟩ ?_
      rintro z'' _ w3 ⟨ar,j,ni,v',rfl,hj,BM,xB,rfl⟩;have bo:Mod (fun _=>False) w w3:=aY.trans ar;unfold Om;by_cases qj:j < e.alts[i].vars.length
      ·have b2:decide ((j:Int) < e.alts[i].vars.length)=true:=by simpa using qj
       rw [adQ qj] at xB;have RH:j < k.2.length:=by
        apply Classical.byContradiction;intro hn;rw [dif_neg hn] at xB;cases xB
       rw [dif_pos RH] at xB;have BY:=lD.up (aj ar (S:=S)) aM (aU (aj ar)) (fun _ _ h=>h);have jC:=gR.up (aj bo (S:=S)) aM (aU (aj bo)) (fun _ _ h=>h);have ac3:=RG.up (aj bo (S:=S)) aM (aU (aj bo));obtain ⟨pJ,c1,e1,_,jP⟩:=qi BY qj;obtain ⟨rfl,-,-⟩:=b9 e1;obtain ⟨lm,c2,r2,rfl,⟨b,rfl,dV⟩,_,nQ⟩:=io jC RH;have f0:w3.cell? (lm.add j)=some (ptr b):=by have:=nQ.c0 (by simp);rwa [Nat.mul_one] at this
       have a1:w3.cell? ⟨a.block,a.off+1,none⟩=some (.slice (some lm) k.2.length c2):=ac3.at (k:=1) (by simp);have p2:(0:Int)≤j∧(j:Int) < e.alts[i].vars.length:=by omega
       have p3:(0:Int)≤j∧(j:Int) < k.2.length:=by omega
       have adX:=BM.one;(try simp only [go_sem,simprocAttr,b2]);(try simp only [go_sem,simprocAttr,bq,br,p2,jP,a1,p3,f0,adX]);refine bB rfl ?_;intro w4 aZ aA eA;have e3:IntKind.i64.wrap ((j:Int)+1)=((j+1:Nat):Int):=by rw [dk (by omega) (by omega)];omega
       (try simp only [go_sem,simprocAttr,e3]);refine ⟨_,by omega,ar.trans aA,j+1,_,_,rfl,qj,?_,xB,rfl⟩;refine ⟨_,b,v',rfl,dV,EX (cs:=[.string e.alts[i].vars[j],ptr b,v']) aZ (fun hx=>by have:=hh.lt _ hx;have:=bo.size;omega),BM.up (aj aA (S:=S)) aM (aU (aj aA)) (fun _ _ h=>h)⟩
      ·have b2:decide ((j:Int) < e.alts[i].vars.length)=false:=by simpa using qj
       rw [List.drop_eq_nil_of_le (by omega),jJ] at xB;cases xB;(try simp only [go_sem,simprocAttr,b2,aE,RV.ev,aF]);have RJ:=body.up (aj ar (S:=S)) aM (aU (aj ar));exact ⟨⟨S,bs,h.aB bo,⟨fun _ h=>h,fun _ h=>.inl h⟩,fun _ _ h=>h,_,_,rfl,RJ,BM⟩,aj bo⟩
 ·have b1:decide ((i:Int) < e.alts.length)=false:=by simpa using q
  rw [List.drop_eq_nil_of_le (by omega),eu] at aS;cases aS;(try simp only [go_sem,simprocAttr,b1]);refine aK (by rfl) ?_;refine (BW (h.aB aY)).mono ?_;rintro _ w3 ⟨hR,ar⟩;(try simp only [go_sem,simprocAttr,aE,RV.ev,aF]);have ru:Mod S w w3:=(aj aY).trans (ar.aT Sr);exact ⟨⟨S,bs,hR,⟨fun _ h=>h,fun _ h=>.inl h⟩,fun _ _ h=>h,rfl⟩,ru⟩
end
section
open Go Go.W
theorem zp.pK {w:World} {B:Nat→Prop} {bs:List Nat} {v:Value} {x:Option Md} (h:zp w B bs v x):∃ a b c d,v = .tuple #[a,b,c,d]:=by
 match x,h with
 | some (.go e nm),⟨ve,vn,e1,_⟩=>exact ⟨_,_,_,_,e1⟩
 | some (.val x),⟨u,e1,_⟩=>exact ⟨_,_,_,_,e1⟩
 | none,e1=>exact ⟨_,_,_,_,e1⟩
theorem mB.pK {w w':World} {S:Nat→Prop} {r md mf:Nat} {bs:List Nat} {X:Cx} {v:Value} {x:R3} (h:mB w w' S r md mf bs X v x):∃ a b c d,v = .tuple #[a,b,c,d]:=by
 obtain ⟨S',cM,_,_,_,h⟩:=h;exact h.pK
theorem adY {P:Program} {w:World} {ρ:Go.W.Env} {K:Value→World→Prop} {α:Type} {R:Value→α→Prop} {l:List (ByteArray×α)} {a:α} {t kt et:TypeId} {m x:Operand} {b:Nat} {k:ByteArray} {z:Value} {d:Option Nat} {ty:TypeId} {pos:String} {af:Array Edge} (hm:(bn m).ev ρ=some (.map (some b))) (hx:(bn x).ev ρ=some (.string k)) (ht:P.underlying t=some (.map kt et)) (gU:P.underlying kt=some .string)
   (hz:(zeroValue et).run P w = .ok z w) (h:cD w b R l) (ha:aI l k=some a) (hk:∀ v,R v a→K v w):Go.W.E.wp P w ρ K (.raw ⟨d,.lookup t m x false,ty,pos,af,none⟩):=by
 obtain ⟨lv,hv,hp⟩:=h;refine Nx hm hx ht gU hz hv ?_;rcases hp.get k with ⟨e1,e2⟩ | ⟨v,a',e1,e2,hr⟩
 ·rw [ha] at e2;cases e2
 ·rw [ha] at e2;cases e2;rw [e1];exact hk _ hr
section
variable {w w':World} {S S':Nat→Prop} {r md mf:Nat} {bs:List Nat} {X:Cx} {m:Rn} {x:Option Md} {v:Value}
theorem BZ (h:cJ w S r md mf bs X m) (hm:Mod (fun _=>False) w w') (mC:zp w' (Out S w') bs v x):mB w w' S r md mf bs X v (x,m)∧Mod S w w':=
 ⟨⟨S,bs,h.aB hm,⟨fun _ h=>h,fun _ h=>.inl h⟩,fun _ _ h=>h,mC⟩,aj hm⟩
theorem qS (h:cJ w' S' r md mf bs X m) (hg:dI S S' w) (hm:Mod S w w') (mC:zp w' (Out S' w') bs v x):mB w w' S r md mf bs X v (x,m)∧Mod S w w':=
 ⟨⟨S',bs,h,hg,fun _ _ h=>h,mC⟩,hm⟩
theorem mD:dI S S w:=⟨fun _ h=>h,fun _ h=>.inl h⟩
end
theorem zt {w:World} {B:Nat→Prop} {v:Value} {l:List Ex} (h:aQ w v 7 B (bH w B) l) {i:Nat} (hi:i < l.length):∃ ad c,v = .slice (some ad) l.length c∧my w B (.pointer (some (ad.add (i*7)))) l[i]:=by
 obtain ⟨ad,c,r,e,hx,_,bJ⟩:=io h hi;exact ⟨ad,c,e,_,r,rfl,bJ,hx⟩
theorem E3 {w:World} {B:Nat→Prop} {v:Value} {l:List Bd} (h:aQ w v 11 B (dP w B) l) {i:Nat} (hi:i < l.length):∃ ad c,v = .slice (some ad) l.length c∧w.cell? (ad.add (i*11))=some (.string l[i].name)∧(ad.add (i*11)).block < w.heap.size∧my w B (.pointer (some ⟨(ad.add (i*11)).block,(ad.add (i*11)).off+4,none⟩)) l[i].value:=by
 obtain ⟨ad,c,r,e,⟨tc,ec,rfl,gw,ej,_⟩,_,bJ⟩:=io h hi;have k0:=bJ.c0 (by simp);refine ⟨ad,c,e,k0,lW k0,_,ec,rfl,bJ.part (fun j hj=>?_) (by decide),ej⟩;have hl:=gw.len;rw [show 4+j=(j+3)+1 by omega,List.getElem?_cons_succ,List.getElem?_append_right (by omega),hl,Nat.add_sub_cancel];exact List.getElem?_eq_getElem hj
def Ch (w:World) (B:Nat→Prop) (bs:List Nat) (lo:Nat) (vn:Value) (l:List Bd) (n:Nat):Nat→Value→Prop
 | 0,v=>v=vn
 | k+1,v=>∃ a b nx s,v = .pointer (some a)∧lo≤a.block∧su w B a [.string s,ptr b,nx]∧bs[n+k]? = some b∧l[k]?.map Bd.name=some s∧Ch w B bs lo vn l n k nx
theorem Ch.up {w w':World} {B B' S:Nat→Prop} {bs cM:List Nat} {lo:Nat} {vn:Value} {l:List Bd} {n:Nat}:∀ {k:Nat} {v:Value},Ch w B bs lo vn l n k v→Mod S w w'→(∀ b,B b→¬ S b)→(∀ b,B b→B' b)→(∀ (c b:Nat),bs[c]? = some b→cM[c]? = some b)→Ch w' B' cM lo vn l n k v
 | 0,v,h,_,_,_,_=>h
 | k+1,v,h,hm,hd,hB,hb=>by
  obtain ⟨a,b,nx,s,e,h0,h1,h2,h3,h4⟩:=h;exact ⟨a,b,nx,s,e,h0,h1.up hm hd hB,hb _ _ h2,h3,Ch.up h4 hm hd hB hb⟩
theorem RL:∀ (l:List Bd) (b:Bd) (i:Nat) (v:cN),jI (l++[b]) i v=(b.name,i+l.length)::jI l i v
 | [],b,i,v=>rfl
 | c::l,b,i,v=>by
  rw [List.cons_append,jI,RL l b (i+1),jI];simp only [List.length_cons];rw [show i+1+l.length=i+(l.length+1) by omega]
theorem Ch.nm {w:World} {B:Nat→Prop} {bs:List Nat} {lo:Nat} {vn:Value} {l:List Bd} {n:Nat} {nm:cN} (hn:gC w B bs nm vn):∀ {k:Nat} {v:Value},Ch w B bs lo vn l n k v→k≤l.length→gC w B bs (jI (l.take k) n nm) v
 | 0,v,h,_=>by
  have h:v=vn:=h;rw [h];exact hn
 | k+1,v,h,hk=>by
  obtain ⟨a,b,nx,s,e,h0,h1,h2,h3,h4⟩:=h;have aP:k < l.length:=by omega
  have e1:l[k].name=s:=by
   rw [List.getElem?_eq_getElem aP] at h3
   simpa using h3
  rw [List.take_succ_eq_append_getElem aP,RL,List.length_take,Nat.min_eq_left (by omega),e1];exact ⟨a,b,nx,e,h2,h1,Ch.nm hn h4 (by omega)⟩
def Rn.oZ (m:Rn) (k:Nat) (l:List Cl):Rn:={ m with cells:=m.cells++(List.replicate k .emp++l)}
theorem adZ (m:Rn):m.oZ 0 []=m:=by unfold Rn.oZ;simp
theorem ad0 (m:Rn) (k:Nat):(m.oZ k []).new .emp=m.oZ (k+1) []:=by
 unfold Rn.oZ Rn.new;simp [List.replicate_succ']
theorem ad6 (m:Rn) (k:Nat) (l:List Cl) (x:Cl):(m.oZ (k+1) l).put (m.cells.length+k) x=m.oZ k (x::l):=by
 unfold Rn.oZ Rn.put;simp [List.replicate_succ',List.set_append]
theorem RM {P:Program} {w:World} {ρ:Go.W.Env} {K:Value→World→Prop} {t te:TypeId} {j:TypeInfo} {x y:Operand} {u v:Option Addr} {d:Option Nat} {ty:TypeId} {pos:String} {c:TypeId} {af:Array Edge} (hx:(bn x).ev ρ=some (.pointer u)) (hy:(bn y).ev ρ=some (.pointer v)) (hp:P.underlying t=some (.pointer te)) (hj:P.info? te=some j) (dj:j.size≠0)
   (hu:∀ a,u=some a→Pl w a.block) (hv:∀ a,v=some a→Pl w a.block) {q:Bool} (hq:(!decide (u=v))=q) (hk:K (.bool q) w):Go.W.E.wp P w ρ K (.raw ⟨d,.binOp .neq t x y c,ty,pos,af,none⟩):=by
 have he:(Op.equal t (.pointer u) (.pointer v)).run P w = .ok (decide (u=v)) w:=by
  unfold Op.equal Op.maxDepth Op.equalIn;cases u with
  | none=>cases v<;>simp [run_underlying hp]
  | some a=>
   cases v with
   | none=>simp [run_underlying hp]
   | some b=>
    by_cases qw:a=b
    ·subst qw;simp [run_underlying hp,sizeOf,typeInfo,hj,dj,run_sameAddr_same]
    ·obtain ⟨ca,ta,ha⟩:=hu a rfl;obtain ⟨cb,tb,hb⟩:=hv b rfl;simp [run_underlying hp,sizeOf,typeInfo,hj,dj,run_sameAddr_other w qw ha hb,qw]
 rw [← hq] at hk;refine kj fun act ha=>⟨_,w,?_,hk⟩
 simp only [execOp,ha x _ hx,ha y _ hy];have hg:(eqGuard .neq t x y (.pointer u) (.pointer v)).run P w = .ok () w:=rfl;simp only [Sem.run_bind,hg,Result.andThen_ok];simp only [binOp,Sem.run_bind,he,Result.andThen_ok,Sem.run_pure]
theorem gC.ptr {w:World} {B:Nat→Prop} {bs:List Nat} {nm:cN} {v:Value} (h:gC w B bs nm v):∃ u,v = .pointer u∧∀ a,u=some a→Pl w a.block∧B a.block:=by
 cases nm with
 | nil=>cases h;exact ⟨none,rfl,fun a e=>by cases e⟩
 | cons p l=>obtain ⟨a,b,nx,rfl,_,h,_⟩:=h;exact ⟨some a,rfl,fun a e=>by cases e;exact ⟨h.2,h.1.1⟩⟩
theorem ad7 {w:World} {S:Nat→Prop} {r md mf:Nat} {bs:List Nat} {X:Cx} {m:Rn} {e:Ex} {nm:cN} {ve vn:Value} {cm:R3} (h:cJ w S r md mf bs X m) (he:my w (Out S w) ve e) (hn:gC w (Out S w) bs nm vn) (hlen:m.a7.length≤2097152) (aS:lK X e nm m=some cm) :
   ba Tryz.prog 49 [ptr r,ve,vn] w fun v w'=>mB w w' S r md mf bs X v cm∧Mod S w w':=by
 have pi:=he;obtain ⟨ae,qD,rfl,iD,hex⟩:=he;obtain ⟨vt,va,vb,vl,rfl,ht,ha,hb,hl⟩:=hex.parts;obtain ⟨aa,ca,rfl⟩:=a8 ha;obtain ⟨ab,cb,rfl⟩:=a8 hb;have nK:=du hb;have hS:=h;obtain ⟨_,_,_,_,_,_,hh⟩:=hS;have Sr:∀ y,y=r→S y:=fun y hy=>by rw [hy];exact hh.bt _ (by simp)
 have k0:w.cell? ae=some (I e.kind):=iD.c0 (by simp);have k1:w.cell? ⟨ae.block,ae.off+1,none⟩=some (.string e.name):=iD.at (k:=1) (by simp);have k2:w.cell? ⟨ae.block,ae.off+2,none⟩=some (I e.num):=iD.at (k:=2) (by simp);have k4:w.cell? ⟨ae.block,ae.off+4,none⟩=some (.slice aa e.args.length ca):=iD.at (k:=4) (by simp);have k5:w.cell? ⟨ae.block,ae.off+5,none⟩=some (.slice ab e.binds.length cb):=iD.at (k:=5) (by simp);have gu:=hn.one;have d2:Mod (fun _=>False) w w.drew:=(Mod.refl _ _).drew;have up:∀ {w':World} {S':Nat→Prop},Mod S w w'→dI S S' w→fT w' (Out S' w') ae [I e.kind,.string e.name,I e.num,vt,.slice aa e.args.length ca,.slice ab e.binds.length cb,vl]∧bH w' (Out S' w') [I e.kind,.string e.name,I e.num,vt,.slice aa e.args.length ca,.slice ab e.binds.length cb,vl] e∧gC w' (Out S' w') bs nm vn:=fun hm hg=>by
  have eD:=qQ hg hm.size;exact ⟨iD.up hm aM eD,hex.up hm aM eD,hn.up hm aM eD (fun _ _ h=>h)⟩
 refine Yi.calls rfl ?_;unfold HJ;unfold lK at aS;(try simp only [go_sem,simprocAttr,k0]);cases h1:e.kind == 1 with
 | true=>
  rw [if_pos (by simpa using h1)] at aS;obtain ⟨c,hc,rfl⟩:=Option.map_eq_some_iff.1 aS;(try simp only [go_sem,simprocAttr,k1]);refine aK (by rfl) ?_;refine (adJ nm hn hc).mono ?_;rintro _ _ ⟨⟨b,rfl,dV⟩,rfl⟩;(try simp only [go_sem,simprocAttr]);refine aK (by rfl) ?_;refine (KA h dV hlen).mono ?_;rintro v w' hR;obtain ⟨_,_,_,_,rfl⟩:=hR.1.pK;(try simp only [go_sem,simprocAttr,aE,RV.ev,aF]);exact hR
 | false=>
 rw [if_neg (by simpa using h1)] at aS;(try simp only [go_sem,simprocAttr]);cases h3:e.kind == 3 with
 | true=>
  rw [if_pos (by simpa using h3)] at aS;obtain ⟨c,hc,rfl⟩:=Option.map_eq_some_iff.1 aS;(try simp only [go_sem,simprocAttr,k1,cell_of hh.box]);refine adY (R:=BT bs) (l:=X.an) (b:=md) (kt:=9) (et:=82) rfl rfl rfl rfl (Tryz.zeroValue82 _) hh.an hc ?_;rintro _ ⟨b,rfl,dV⟩;(try simp only [go_sem,simprocAttr]);refine aK (by rfl) ?_;refine (KA (h.aB d2) dV hlen).mono ?_;rintro v w' hR;obtain ⟨_,_,_,_,rfl⟩:=hR.1.pK;(try simp only [go_sem,simprocAttr,aE,RV.ev,aF]);refine ⟨?_,(aj d2).trans hR.2⟩;obtain ⟨S',cM,q1,q2,q3⟩:=hR.1;exact ⟨S',cM,q1,q2,q3⟩
 | false=>
 rw [if_neg (by simpa using h3)] at aS;(try simp only [go_sem,simprocAttr]);cases h2:e.kind == 2 with
 | true=>
  rw [if_pos (by simpa using h2)] at aS;cases aS;(try simp only [go_sem,simprocAttr,k2,aE,RV.ev,aF]);exact BZ h d2 ⟨_,rfl,rfl,rfl⟩
 | false=>
 rw [if_neg (by simpa using h2)] at aS;(try simp only [go_sem,simprocAttr]);cases h4:e.kind == 4 with
 | true=>
  rw [if_pos (by simpa using h4)] at aS;cases aS;(try simp only [go_sem,simprocAttr,k1,cell_of hh.box]);refine uL (b:=mf) (kt:=9) (et:=3) rfl rfl rfl rfl (zI _) hh.fields ?_;(try simp only [go_sem,simprocAttr]);refine aK (by rfl) ?_;refine (Rz (w:=w.drew) (S:=S) (bs:=bs) (hv:=[]) (n:=e.name) (mw:=(aI X.fields e.name).getD 0) (fun y hy=>hh.lt y hy) (fH _ _ _ _)).mono ?_;rintro v w' ⟨iT,lD,hm⟩;(try simp only [go_sem,simprocAttr,aE,RV.ev,aF]);exact BZ h (d2.trans hm) ⟨_,rfl,iT,lD⟩
 | false=>
 rw [if_neg (by simpa using h4)] at aS;(try simp only [go_sem,simprocAttr]);cases h6:e.kind == 6 with
 | true=>
  rw [if_pos (by simpa using h6)] at aS;cases aS;(try simp only [go_sem,simprocAttr,gu]);refine bB rfl ?_;intro w1 au ak bP;(try simp only [go_sem,simprocAttr,aE,RV.ev,aF]);exact BZ h ak ⟨_,rfl,⟨_,_,_,rfl,qR (cs:=[.pointer (some ae),vn]) au (fun hx=>by have:=hh.lt _ hx;omega),pi.up (aj ak) aM (aU (aj ak)),hn.up (aj ak) aM (aU (aj ak)) (fun _ _ h=>h)⟩,rfl⟩
 | false=>
 rw [if_neg (by simpa using h6)] at aS;(try simp only [go_sem,simprocAttr]);cases pj:e.kind == 12 with
 | true=>
  rw [if_pos (by simpa using pj)] at aS;cases aS;(try simp only [go_sem,simprocAttr,k2]);refine aK (by rfl) ?_;refine (BW h).mono ?_;rintro _ w1 ⟨hR,ak⟩;(try simp only [go_sem,simprocAttr,aE,RV.ev,aF]);exact qS hR mD (ak.aT Sr) rfl
 | false=>
 rw [if_neg (by simpa using pj)] at aS;(try simp only [go_sem,simprocAttr]);cases h7:e.kind == 7 with
 | true=>
  rw [if_pos (by simpa using h7)] at aS;cases bM:e.args with
  | nil=>rw [bM] at aS;cases aS
  | cons y yl=>
  rw [bM] at aS;cases aS;(try simp only [go_sem,simprocAttr,k5]);have ltn:∀ {a:Addr},vn = .pointer (some a)→a.block < w.heap.size:=fun {a} e=>by
   cases nm with
   | nil=>cases hn;cases e
   | cons p l=>obtain ⟨_,_,_,rfl,_,h,_⟩:=hn;cases e;exact h.1.1.1
  refine fx (fun z' ρ w'=>Mod (fun _=>False) w w'∧∃ (j:Nat) (S':Nat→Prop) (cM:List Nat) (v':Value),z'=e.binds.length - j∧j≤e.binds.length∧cJ w' S' r md mf cM X (m.oZ j [])∧dI S S' w∧(∀ (c b:Nat),bs[c]? = some b→cM[c]? = some b)∧Ch w' (Out S' w') cM w.heap.size vn e.binds m.cells.length j v' ∧
   ρ=[(1,.pointer (some ae)),(2,v'),(10,vn),(94,I e.binds.length),(95,I j)]) e.binds.length ⟨.refl _ _,0,S,bs,vn,by omega,by omega,(by rw [adZ];exact h),mD,fun _ _ h=>h,rfl,rfl⟩ ?_
  rintro z' _ w1 ⟨ak,j,S1,dY,v1,rfl,hj,fB,dU,lN,E4,rfl⟩;unfold Oh;have nj:=qQ dU ak.size;have vz:=iD.up (aj ak (S:=S)) aM nj;have Bp:=hex.up (aj ak (S:=S)) aM nj;have nV:gC w1 (Out S1 w1) dY nm vn:=hn.up (aj ak (S:=S)) aM nj lN;have zu:w1.cell? ⟨ae.block,ae.off+5,none⟩=some (.slice ab e.binds.length cb):=vz.at (k:=5) (by simp);have pL:w1.cell? ⟨ae.block,ae.off+4,none⟩=some (.slice aa e.args.length ca):=vz.at (k:=4) (by simp);have ub:aQ w1 (.slice ab e.binds.length cb) 11 (Out S1 w1) (dP w1 (Out S1 w1)) e.binds:=hb.up (aj ak (S:=S)) aM nj (fun _ _ h=>h.up (aj ak (S:=S)) aM nj);have ad8:=(Ch.nm nV E4 hj).one;by_cases q:j < e.binds.length
  ·have b1:decide ((j:Int) < e.binds.length)=true:=by simpa using q
   have p1:(0:Int)≤j∧(j:Int) < e.binds.length:=by omega
   obtain ⟨ad,c,e6,nH,rE,hp⟩:=E3 ub q;obtain ⟨rfl,-,-⟩:=b9 e6;have e3:IntKind.i64.wrap ((j:Int)+1)=((j+1:Nat):Int):=by rw [dk (by omega) (by omega)];omega
   (try simp only [go_sem,simprocAttr,b1]);(try simp only [go_sem,simprocAttr,bq,br,zu,p1,nH]);refine bB rfl ?_;intro w2 aw ai bS;(try simp only [go_sem,simprocAttr,ad8]);refine bB rfl ?_;intro w3 aO ar eR;(try simp only [go_sem,simprocAttr,e3]);have eM:=fB.new (x:=.emp) ai aw (Nat.le_refl _) rfl;rw [ad0] at eM;have kJ:=ai.trans ar
   have pM:dI S (aN S1 w1.heap.size) w:=⟨fun b hb=>.inl (dU.1 b hb),fun b hb=>by
    rcases hb with h | h
    ·exact dU.2 b h
    ·right;have:=ak.size;omega⟩
   refine ⟨_,by omega,ak.trans kJ,j+1,_,_,_,rfl,q,eM.aB ar,pM,fun c b hc=>lM _ _ (lN c b hc),?_,rfl⟩;have ad9:dY.length=m.cells.length+j:=by
    obtain ⟨_,_,_,_,_,_,hx⟩:=fB;rw [hx.len];simp [Rn.oZ]
   have aea:∀ b,Out S1 w1 b→Out (aN S1 w1.heap.size) w3 b:=eh (aj kJ) (eC (Nat.le_refl _));refine ⟨_,w1.heap.size,v1,e.binds[j].name,rfl,?_,EX (cs:=[.string e.binds[j].name,ptr w1.heap.size,v1]) aO ?_,?_,?_,E4.up (aj kJ (S:=S1)) aM aea lM⟩
   ·have:=ak.size;have:=ai.size;show w.heap.size≤w2.heap.size;omega
   ·rintro (hx | hx)
    ·obtain ⟨_,_,_,_,_,_,B1⟩:=fB;have:=B1.lt _ hx;omega
    ·omega
   ·rw [List.getElem?_append_right (by omega),ad9];simp
   ·rw [List.getElem?_eq_getElem q];try rfl
  ·have b1:decide ((j:Int) < e.binds.length)=false:=by simpa using q
   have tj:j=e.binds.length:=by omega
   subst tj;have lb:IntKind.i64.wrap ((e.binds.length:Int) - 1)=(e.binds.length:Int) - 1:=dk (by omega) (by omega);(try simp only [go_sem,simprocAttr,b1,zu,lb]);have hnF:gC w1 (Out S1 w1) dY (jI e.binds m.cells.length nm) v1:=by
    have:=Ch.nm nV E4 (Nat.le_refl _)
    rwa [List.take_length] at this
   refine fx (fun z' ρ w'=>Mod S1 w1 w'∧∃ vk:Value,z'≤e.binds.length∧cJ w' S1 r md mf dY X (m.oZ z' ((e.binds.drop z').map (fun b=>Cl.wait b.value (jI e.binds m.cells.length nm))))∧Ch w' (Out S1 w') dY w.heap.size vn e.binds m.cells.length z' vk ∧
    ρ=[(1,.pointer (some ae)),(2,v1),(10,vn),(12,vk),(13,I ((z':Int) - 1))]) e.binds.length ⟨.refl _ _,v1,Nat.le_refl _,by rw [List.drop_length];exact fB,E4,rfl⟩ ?_
   rintro k _ w2 ⟨ai,vk,hk,eM,tY,rfl⟩;unfold Oi;have RN:=vz.up ai aM (aU ai);have ex2:=Bp.up ai aM (aU ai);have KD:=hnF.up ai aM (aU ai) (fun _ _ h=>h);have zu:w2.cell? ⟨ae.block,ae.off+5,none⟩=some (.slice ab e.binds.length cb):=RN.at (k:=5) (by simp);have pL:w2.cell? ⟨ae.block,ae.off+4,none⟩=some (.slice aa e.args.length ca):=RN.at (k:=4) (by simp);have ub:aQ w2 (.slice ab e.binds.length cb) 11 (Out S1 w2) (dP w2 (Out S1 w2)) e.binds:=hb.up ((aj ak).trans ai) (fun b hb=>aM b (nj b hb)) (fun b hb=>aU ai b (nj b hb)) (fun _ _ h=>h.up ((aj ak).trans ai) (fun b hb=>aM b (nj b hb)) (fun b hb=>aU ai b (nj b hb)));have ua:aQ w2 (.slice aa e.args.length ca) 7 (Out S1 w2) (bH w2 (Out S1 w2)) e.args:=ha.up ((aj ak).trans ai) (fun b hb=>aM b (nj b hb)) (fun b hb=>aU ai b (nj b hb)) (fun _ _ h=>h.up ((aj ak).trans ai) (fun b hb=>aM b (nj b hb)) (fun b hb=>aU ai b (nj b hb)));obtain ⟨u0,B2,KE⟩:=(hn.up ((aj ak).trans ai) (fun b hb=>aM b (nj b hb)) (fun b hb=>aU ai b (nj b hb)) lN).ptr;subst B2
   match k,vk,tY,hk,eM with
   | 0,vk,tY,hk,eM=>
    have tY:vk = .pointer u0:=tY;subst tY;(try simp only [go_sem,simprocAttr]);refine RM (te:=141) rfl rfl rfl rfl (by decide) (fun a e=>(KE a e).1) (fun a e=>(KE a e).1) (q:=false) (by simp) ?_;have la:0 < e.args.length:=by rw [bM];simp
    have xC:e.args[0]=y:=by simp [bM]
    have b2:(0:Int)≤0∧(0:Int) < e.args.length:=by omega
    obtain ⟨ad,c,e6,hp⟩:=zt ua la;obtain ⟨rfl,-,-⟩:=b9 e6;rw [xC,Nat.zero_mul,add_zero'] at hp;(try simp only [go_sem,simprocAttr]);(try simp only [go_sem,simprocAttr,bq,br,pL,b2,Nat.zero_mul,add_zero',aE,RV.ev,aF])
    have aY:Mod S w w2:=(aj ak).step ai (fun b hb hl=>by
     rcases dU.2 b hb with h | h
     ·exact h
     ·omega)
    exact ⟨⟨S1,dY,eM,dU,lN,_,_,rfl,hp,KD⟩,aY⟩
   | k+1,vk,tY,hk,eM=>
    obtain ⟨a,b,nx,s,rfl,h0,bJ,dV,hs,tY⟩:=tY;(try simp only [go_sem,simprocAttr])
    refine RM (te:=141) rfl rfl rfl rfl (by decide) (fun a e=>by cases e;exact bJ.2) (fun a e=>(KE a e).1) (q:=true) (by
     have:some a≠u0:=fun e=>by
      have:=ltn (a:=a) (by rw [e]);omega
     simp [this]) ?_
    (try simp only [go_sem,simprocAttr]);have e2:((k+1:Nat):Int) - 1=(k:Int):=by omega
    have e3:IntKind.i64.wrap ((k:Int) - 1)=(k:Int) - 1:=dk (by omega) (by omega);have q:k < e.binds.length:=by omega
    have p1:(0:Int)≤k∧(k:Int) < e.binds.length:=by omega
    obtain ⟨ad,c,e6,nH,rE,hp⟩:=E3 ub q;obtain ⟨rfl,-,-⟩:=b9 e6;have a1:w2.cell? ⟨a.block,a.off+1,none⟩=some (ptr b):=bJ.at (k:=1) (by simp);have aeb:=KD.one;(try simp only [go_sem,simprocAttr,e2]);(try simp only [go_sem,simprocAttr,bq,br,a1,zu,p1,aeb]);refine bB rfl ?_;intro w3 aO ar eR;have ar:Mod (fun _=>False) w2 w3:=ar.ez;obtain ⟨_,_,_,_,_,_,iz⟩:=eM.aB ar;have KF:dY[m.cells.length+k]? = some b:=dV;have uZ:(m.oZ (k+1) ((e.binds.drop (k+1)).map (fun b=>Cl.wait b.value (jI e.binds m.cells.length nm)))).cells[m.cells.length+k]? = some .emp:=by
     unfold Rn.oZ;rw [List.getElem?_append_right (by omega),List.getElem?_append_left (by simp),show m.cells.length+k - m.cells.length=k by omega,List.getElem?_replicate,if_pos (by omega)]
    obtain ⟨v0,kG,_⟩:=iz.cell _ b _ KF uZ;have KC:=lW a1;refine ⟨ar.bY _ KC _root_.id,?_⟩;(try simp only [go_sem,simprocAttr]);refine fF (b:=b) (off:=0) (v:=.iface 105 (ptr w2.heap.size)) rfl rfl kG rfl (by simp) ?_;intro w4 aZ aA eA;have Sb:∀ y,y=b→S1 y:=fun y hy=>by rw [hy];exact iz.bt _ (by simp [List.mem_of_getElem? KF])
    have gW:Mod S1 w2 w4:=(aj ar).trans (aA.aT Sb);have a2:w4.cell? ⟨a.block,a.off+2,none⟩=some nx:=(bJ.up gW aM (aU gW)).at (k:=2) (by simp);have RJ:∀ {x:Cl} {v:Value},iu w3 (Out S1 w3) dY x v→iu w4 (Out S1 w4) dY x v:=fun h=>h.up (aA.aT Sb) aM (aU (aA.aT Sb)) (fun _ _ h=>h)
    have o0:=iz.put (x:=.wait e.binds[k].value (jI e.binds m.cells.length nm)) (v:=.iface 105 (ptr w2.heap.size)) KF aA aZ ⟨_,_,_,rfl,qR (cs:=[.pointer (some ⟨(ad.add (k*11)).block,(ad.add (k*11)).off+4,none⟩),v1]) aO (fun hx=>by
     have:=iz.lt _ hx;have hl:∀ b,S1 b→b < w2.heap.size:=by obtain ⟨_,_,_,_,_,_,B1⟩:=eM;exact B1.lt
     have:=hl _ hx;omega),hp.up (aj ar (S:=S1)) aM (aU (aj ar)),KD.up (aj ar (S:=S1)) aM (aU (aj ar)) (fun _ _ h=>h)⟩
    rw [ad6] at o0;have e5:e.binds.drop k=e.binds[k]::e.binds.drop (k+1):=List.drop_eq_getElem_cons q;(try simp only [go_sem,simprocAttr,a2,e3]);refine ⟨k,Nat.lt_succ_self k,ai.trans gW,nx,by omega,?_,tY.up gW aM (aU gW) (fun _ _ h=>h),rfl⟩;rw [e5,List.map_cons];exact ⟨_,_,_,_,_,_,o0⟩
 | false=>
 rw [if_neg (by simpa using h7)] at aS;(try simp only [go_sem,simprocAttr]);cases kA:e.kind == 11 with
 | true=>
  rw [if_pos (by simpa using kA)] at aS;(try simp only [go_sem,simprocAttr,gu]);cases pI:e.binds with
  | nil=>rw [pI] at aS;cases aS
  | cons b bl=>
  rw [pI] at aS;cases aS;refine aK (by rfl) ?_;refine (vy (f:=.nh e nm) h ⟨_,_,rfl,pi,hn⟩ hlen).mono ?_;rintro _ w1 ⟨⟨S',hR,hg⟩,ak⟩;obtain ⟨u1,u2,u3⟩:=up ak hg;obtain ⟨J2,kI,g',tN,e1,_,_,ub,_⟩:=u2.parts;have e5:g' = .slice ab e.binds.length cb:=by
   have:=congrArg (fun l=>l[5]?) e1
   simpa using this.symm
  subst e5;have lb:0 < e.binds.length:=by rw [pI];simp
  obtain ⟨ad,c,e6,_,_,hp⟩:=E3 ub lb;obtain ⟨rfl,-,-⟩:=b9 e6;have zu:w1.cell? ⟨ae.block,ae.off+5,none⟩=some (.slice (some ad) e.binds.length cb):=u1.at (k:=5) (by simp);have b2:(0:Int)≤0∧(0:Int) < e.binds.length:=by omega
  have kG:e.binds[0]=b:=by simp [pI]
  rw [kG,Nat.zero_mul,add_zero'] at hp;(try simp only [go_sem,simprocAttr,bq,br,zu,b2,Nat.zero_mul,add_zero',aE,RV.ev,aF]);exact qS hR hg ak ⟨_,_,rfl,hp,u3⟩
 | false=>
 rw [if_neg (by simpa using kA)] at aS;cases bM:e.args with
 | nil=>rw [bM] at aS;cases aS
 | cons y yl=>
 rw [bM] at aS;have la:0 < e.args.length:=by rw [bM];simp
 have xC:e.args[0]=y:=by simp [bM]
 have b2:(0:Int)≤0∧(0:Int) < e.args.length:=by omega
 have fst:∀ {w':World} {S':Nat→Prop},Mod S w w'→dI S S' w→∃ ad,aa=some ad∧w'.cell? ⟨ae.block,ae.off+4,none⟩=some (.slice (some ad) e.args.length ca)∧my w' (Out S' w') (.pointer (some ad)) y∧gC w' (Out S' w') bs nm vn:=fun hm hg=>by
  obtain ⟨u1,u2,u3⟩:=up hm hg;obtain ⟨J2,kI,g',tN,e1,_,ua,_,_⟩:=u2.parts;have e5:kI = .slice aa e.args.length ca:=by
   have:=congrArg (fun l=>l[4]?) e1
   simpa using this.symm
  subst e5;obtain ⟨ad,c,e6,hp⟩:=zt ua la;obtain ⟨rfl,-,-⟩:=b9 e6;rw [xC,Nat.zero_mul,add_zero'] at hp;exact ⟨ad,rfl,u1.at (k:=4) (by simp),hp,u3⟩
 (try simp only [go_sem,simprocAttr]);cases h5:e.kind == 5 with
 | true=>
  rw [if_pos (by simpa using h5)] at aS;cases aS;(try simp only [go_sem,simprocAttr,gu]);refine aK (by rfl) ?_;refine (vy (f:=.app e nm) h ⟨_,_,rfl,pi,hn⟩ hlen).mono ?_;rintro _ w1 ⟨⟨S',hR,hg⟩,ak⟩;obtain ⟨ad,rfl,pL,hp,u3⟩:=fst ak hg;(try simp only [go_sem,simprocAttr,bq,br,pL,b2,Nat.zero_mul,add_zero',aE,RV.ev,aF]);exact qS hR hg ak ⟨_,_,rfl,hp,u3⟩
 | false=>
 rw [if_neg (by simpa using h5)] at aS;(try simp only [go_sem,simprocAttr]);cases h8:e.kind == 8 with
 | true=>
  rw [if_pos (by simpa using h8)] at aS;cases aS;(try simp only [go_sem,simprocAttr,gu]);refine aK (by rfl) ?_;refine (vy (f:=.nf e nm) h ⟨_,_,rfl,pi,hn⟩ hlen).mono ?_;rintro _ w1 ⟨⟨S',hR,hg⟩,ak⟩;obtain ⟨ad,rfl,pL,hp,u3⟩:=fst ak hg;(try simp only [go_sem,simprocAttr,bq,br,pL,b2,Nat.zero_mul,add_zero',aE,RV.ev,aF]);exact qS hR hg ak ⟨_,_,rfl,hp,u3⟩
 | false=>
 rw [if_neg (by simpa using h8)] at aS;(try simp only [go_sem,simprocAttr]);cases h9:e.kind == 9 with
 | true=>
  rw [if_pos (by simpa using h9)] at aS;cases aS;(try simp only [go_sem,simprocAttr,gu]);refine aK (by rfl) ?_;refine (vy (f:=.fst e nm) h ⟨_,_,rfl,pi,hn⟩ hlen).mono ?_;rintro _ w1 ⟨⟨S',hR,hg⟩,ak⟩;obtain ⟨ad,rfl,pL,hp,u3⟩:=fst ak hg;(try simp only [go_sem,simprocAttr,bq,br,pL,b2,Nat.zero_mul,add_zero',aE,RV.ev,aF]);exact qS hR hg ak ⟨_,_,rfl,hp,u3⟩
 | false=>
 rw [if_neg (by simpa using h9)] at aS;(try simp only [go_sem,simprocAttr]);cases kz:e.kind == 10 with
 | true=>
  rw [if_pos (by simpa using kz)] at aS;cases aS;(try simp only [go_sem,simprocAttr,gu]);refine aK (by rfl) ?_;refine (vy (f:=.seq e nm) h ⟨_,_,rfl,pi,hn⟩ hlen).mono ?_;rintro _ w1 ⟨⟨S',hR,hg⟩,ak⟩;obtain ⟨ad,rfl,pL,hp,u3⟩:=fst ak hg;(try simp only [go_sem,simprocAttr,bq,br,pL,b2,Nat.zero_mul,add_zero',aE,RV.ev,aF]);exact qS hR hg ak ⟨_,_,rfl,hp,u3⟩
 | false=>
 rw [if_neg (by simpa using kz)] at aS;cases aS;obtain ⟨ad,rfl,pL,hp,u3⟩:=fst (.refl S w) mD;(try simp only [go_sem,simprocAttr,bq,br,pL,b2,Nat.zero_mul,add_zero',aE,RV.ev,aF]);exact qS h mD (.refl S w) ⟨_,_,rfl,hp,u3⟩
end
section
open Go Go.W
theorem RO {w:World} {B:Nat→Prop} {bs:List Nat} {x:Cl} {T:Nat} {z:Value} (hu:iu w B bs x (.iface T z)) (hv:x.iC=true):(T=115→z=I (numOf x))∧(T≠115→numOf x=0):=by
 cases x with
 | num n=>cases hu;exact ⟨fun _=>rfl,fun h=>absurd rfl h⟩
 | bg k fs=>obtain ⟨a,_,e,_⟩:=hu;cases e;exact ⟨fun h=>(by cases h),fun _=>rfl⟩
 | gi e' ni=>obtain ⟨a,_,_,e,_⟩:=hu;cases e;exact ⟨fun h=>(by cases h),fun _=>rfl⟩
 | fr n l fs=>obtain ⟨a,_,e,_⟩:=hu;cases e;exact ⟨fun h=>(by cases h),fun _=>rfl⟩
 | wait e' ni=>cases hv
 | busy=>cases hv
 | emp=>cases hv
theorem lO {w w':World} {S S' RP:Nat→Prop} (h:dI S S' w) (k:dI S' RP w') (hz:w.heap.size≤w'.heap.size):dI S RP w:=⟨fun b hb=>k.1 b (h.1 b hb),fun b hb=>by
 rcases k.2 b hb with h1 | h1
 ·exact h.2 b h1
 ·exact .inr (Nat.le_trans hz h1)⟩
theorem kM {w w' dT:World} {S S':Nat→Prop} (hm:Mod S w w') (h:dI S S' w) (k:Mod S' w' dT):Mod S w dT:=hm.step k (fun b hb hl=>by
 rcases h.2 b hb with h1 | h1
 ·exact h1
 ·omega)
theorem KG {w w' dT:World} {S S':Nat→Prop} {r md mf:Nat} {bs cM:List Nat} {X:Cx} {v:Value} {x:R3} (hg:dI S S' w) (hb:∀ (c b:Nat),bs[c]? = some b→cM[c]? = some b) (hm:Mod S w w') (h:mB w' dT S' r md mf cM X v x∧Mod S' w' dT):mB w dT S r md mf bs X v x∧Mod S w dT:=by
 obtain ⟨⟨S2,o4,h1,h2,h3,h4⟩,h5⟩:=h;exact ⟨⟨S2,o4,h1,lO hg h2 hm.size,fun c b hc=>h3 c b (hb c b hc),h4⟩,kM hm hg h5⟩
theorem aec {w:World} {S:Nat→Prop} {r md mf:Nat} {bs:List Nat} {X:Cx} {m:Rn} {f:Fm} {x:Cl} {u:Value} {cs:List Value} {cm:R3} (h:cJ w S r md mf bs X m) (hf:mA w (Out S w) bs cs f) (hu:iu w (Out S w) bs x u) (hv:x.iC=true) (hlen:m.a7.length≤2097152) (aS:gO f x m=some cm) :
   ba Tryz.prog 50 [ptr r,.agg cs.toArray,u] w fun v w'=>mB w w' S r md mf bs X v cm∧Mod S w w':=by
 obtain ⟨T,z,rfl,_⟩:=zq hu hv;have hS:=h;obtain ⟨_,_,_,_,_,_,hh⟩:=hS;have d2:Mod (fun _=>False) w w.drew:=(Mod.refl _ _).drew;cases f with
 | gd c=>
  obtain ⟨b,rfl,hb⟩:=hf;cases aS;have KB:c < m.cells.length:=by rw [← hh.len];exact (List.getElem?_eq_some_iff.1 hb).1
  obtain ⟨v0,kG,_⟩:=hh.cell c b _ hb (List.getElem?_eq_getElem KB);have Sb:∀ y,y=b→S y:=fun y hy=>by rw [hy];exact hh.bt _ (by simp [List.mem_of_getElem? hb])
  refine wM.calls rfl ?_;unfold s9;(try simp only [go_sem,simprocAttr]);refine bB rfl ?_;intro w1 au ak bP;have aed:=ak.at kG _root_.id;(try simp only [go_sem,simprocAttr,cell_of au,Int.reduceBEq]);refine fF (b:=b) (off:=0) (v:=.iface T z) rfl rfl aed rfl (by simp) ?_;intro w2 aw ai bS;(try simp only [go_sem,simprocAttr,aE,RV.ev,aF]);obtain ⟨_,_,_,_,_,_,hh1⟩:=h.aB ak;have tZ:=hu.up (aj ak (S:=S)) aM (aU (aj ak)) (fun _ _ h=>h);have hR:=hh1.put (x:=x) hb ai aw tZ;have aY:Mod S w w2:=(aj ak).trans (ai.aT Sb);exact qS ⟨_,_,_,_,_,_,hR⟩ mD aY ⟨_,rfl,tZ.up (ai.aT Sb) aM (aU (ai.aT Sb)) (fun _ _ h=>h),hv⟩
 | app e nm=>
  obtain ⟨ve,vn,rfl,⟨ae,qD,rfl,iD,hex⟩,hn⟩:=hf;obtain ⟨vt,va,vb,vl,rfl,ht,ha,hb,hl⟩:=hex.parts;obtain ⟨aa,ca,rfl⟩:=a8 ha;unfold gO at aS;simp only at aS;refine wM.calls rfl ?_;unfold s9;(try simp only [go_sem,simprocAttr]);refine bB rfl ?_;intro w1 au ak bP
  match bM:e.args,aS with
  | _::y::rest,aS=>
  have aP:1 < e.args.length:=by rw [bM];simp
  have xD:e.args[1]=y:=by simp [bM]
  have b2:(0:Int)≤1∧(1:Int) < e.args.length:=by omega
  have vz:=iD.up (aj ak (S:=S)) aM (aU (aj ak));have k4:w1.cell? ⟨ae.block,ae.off+4,none⟩=some (.slice aa e.args.length ca):=vz.at (k:=4) (by simp);have ua:=ha.up (aj ak (S:=S)) aM (aU (aj ak)) (fun _ _ h=>h.up (aj ak (S:=S)) aM (aU (aj ak)));have nV:=hn.up (aj ak (S:=S)) aM (aU (aj ak)) (fun _ _ h=>h);have gu:=nV.one;obtain ⟨ad,c,e6,hp⟩:=zt ua aP;obtain ⟨rfl,-,-⟩:=b9 e6;rw [xD,add_pos _ (by decide)] at hp;(try simp only [go_sem,simprocAttr,cell_of au,Int.reduceBEq]);have t1:Int.toNat 1=1:=rfl;(try simp only [go_sem,simprocAttr,bq,br,Int.reduceBEq,cell_of au,k4,b2,gu,t1,Nat.one_mul]);refine bB rfl ?_;intro w2 aw xA bS;have ai:Mod (fun _=>False) w1 w2:=xA.ez;(try simp only [go_sem,simprocAttr]);refine bB rfl ?_;intro w3 aO ar eR;have kJ:=ai.trans ar;have bo:=ak.trans kJ
  have jK:=(h.aB (ak.trans ai)).new (x:=.wait y nm) (v:=.iface 105 (ptr w1.heap.size)) ar aO (Nat.le_refl _) ⟨_,_,_,rfl,Ry aw ar (S:=aN S w2.heap.size) (by
   rintro (hx | hx)
   ·have:=hh.lt _ hx;have:=ak.size;omega
   ·have e:w1.drew.heap.size=w1.heap.size:=rfl
    omega),hp.up (aj kJ (S:=S)) aM (eh (aj kJ) (eC (by have:=ai.size;omega))),nV.up (aj kJ (S:=S)) aM (eh (aj kJ) (eC (by have:=ai.size;omega))) lM⟩
  have pM:dI S (aN S w2.heap.size) w:=⟨fun b hb=>.inl hb,fun b hb=>by
   rcases hb with h | h
   ·exact .inl h
   ·right;have:=(ak.trans ai).size;omega⟩
  have B3:=hu.up (aj bo (S:=S)) aM (eh (aj bo) (eC (by have:=(ak.trans ai).size;omega))) (lM (b:=w2.heap.size));have lX:(bs++[w2.heap.size])[m.cells.length]? = some w2.heap.size:=by
   rw [← hh.len,List.getElem?_append_right (Nat.le_refl _)];simp
  (try simp only [go_sem,simprocAttr]);refine aK (by rfl) ?_;refine (RB jK lX B3 hv aS).mono ?_;rintro v w4 hR;obtain ⟨_,_,_,_,rfl⟩:=hR.1.pK;(try simp only [go_sem,simprocAttr,aE,RV.ev,aF]);exact KG pM lM (aj bo) hR
 | nf e nm=>
  have IX:=hf;obtain ⟨ve,vn,rfl,he,hn⟩:=hf;refine wM.calls rfl ?_;unfold s9;(try simp only [go_sem,simprocAttr]);refine bB rfl ?_;intro w1 au ak bP;have pd:mz w (Out S w) bs 2 e nm [I 2,.pointer none,ve,vn,I 0]:=IX;have pd:=pd.up (aj ak (S:=S)) aM (aU (aj ak)) (fun _ _ h=>h);have tZ:=hu.up (aj ak (S:=S)) aM (aU (aj ak)) (fun _ _ h=>h);(try simp only [go_sem,simprocAttr,cell_of au,Int.reduceBEq,az (n:=5) (cs:=[I 2,.pointer none,ve,vn,I 0]) au rfl]);refine aK (by rfl) ?_;refine (adU (h.aB ak) pd tZ hv aS).mono ?_;rintro v w4 hR;obtain ⟨_,_,_,_,rfl⟩:=hR.1.pK;(try simp only [go_sem,simprocAttr,aE,RV.ev,aF]);exact KG mD (fun _ _ h=>h) (aj ak) hR
 | fst e nm=>
  obtain ⟨ve,vn,rfl,he,hn⟩:=hf;have pi:=he;obtain ⟨ae,qD,rfl,iD,hex⟩:=he;obtain ⟨vt,va,vb,vl,rfl,ht,ha,hb,hl⟩:=hex.parts;obtain ⟨aa,ca,rfl⟩:=a8 ha;unfold gO at aS;simp only at aS
  match bM:e.args,aS with
  | _::y::rest,aS=>
  cases aS;have aP:1 < e.args.length:=by rw [bM];simp
  have xD:e.args[1]=y:=by simp [bM]
  have b2:(0:Int)≤1∧(1:Int) < e.args.length:=by omega
  have t1:Int.toNat 1=1:=rfl;refine wM.calls rfl ?_;unfold s9;(try simp only [go_sem,simprocAttr]);refine bB rfl ?_;intro w1 au ak bP;obtain ⟨KH,KI⟩:=RO hu hv;have tail:∀ {w2:World} {S':Nat→Prop},cJ w2 S' r md mf bs X (m.push (.snd e (numOf x)))→dI S S' w1→Mod S w1 w2→∃ ad,aa=some ad∧w2.heap[w.heap.size]? = some (.cells [I 3,.pointer none,.pointer (some ae),vn,I 0].toArray 136 (0,0))∧w2.cell? ⟨ae.block,ae.off+4,none⟩=some (.slice (some ad) e.args.length ca)∧(mB w w2.drew S r md mf bs X (.tuple #[.pointer (some ⟨ad.block,ad.off+7,none⟩),vn,.nilIface,.bool true]) (some (.go y nm),m.push (.snd e (numOf x)))∧Mod S w w2.drew):=fun {w2 S'} hR hg hm=>by
   have xe:Mod (fun _=>False) w2 w2.drew:=(Mod.refl _ _).drew;have KJ:dI S S' w:=lO mD hg ak.size;have aY:Mod S w w2:=(aj ak).trans hm;have eD:=qQ KJ aY.size;have ua:=ha.up aY aM eD (fun _ _ h=>h.up aY aM eD);obtain ⟨ad,c,e6,hp⟩:=zt ua aP;obtain ⟨rfl,-,-⟩:=b9 e6;rw [xD,add_pos _ (by decide)] at hp;refine ⟨ad,rfl,hm.at au (fun hx=>by have:=hh.lt _ hx;omega),(iD.up aY aM eD).at (k:=4) (by simp),?_⟩;have mC:=aY.trans (aj xe (S:=S));have aee:=qQ KJ mC.size;exact qS (hR.aB xe) KJ mC ⟨_,_,rfl,hp.up (aj xe (S:=S')) aM (aU (aj xe)),hn.up mC aM aee (fun _ _ h=>h)⟩
  have gu:=hn.one;have yu:=pi.up (aj ak (S:=S)) aM (aU (aj ak));(try simp only [go_sem,simprocAttr,cell_of au,Int.reduceBEq]);refine jH (D:=.int .i64) rfl rfl rfl (Tryz.zeroValue115 _) (fun hT=>?_) (fun hT=>?_)
  ·have hz:=KH hT;subst hz;(try simp only [go_sem,simprocAttr,cell_of au]);refine aK (by rfl) ?_;refine (vy (f:=.snd e (numOf x)) (h.aB ak) ⟨_,rfl,yu⟩ hlen).mono ?_;rintro _ w2 ⟨⟨S',hR,hg⟩,ai⟩;obtain ⟨ad,rfl,aw,k4,xE⟩:=tail hR hg ai;(try simp only [go_sem,simprocAttr,cell_of aw]);(try simp only [go_sem,simprocAttr,bq,br,cell_of aw,k4,b2,t1,Nat.one_mul,aE,RV.ev,aF]);exact xE
  ·have hz:=KI hT;(try simp only [go_sem,simprocAttr,cell_of au]);refine aK (by rfl) ?_;refine (vy (f:=.snd e (numOf x)) (cs:=[I 4,.pointer none,.pointer (some ae),.pointer none,I 0]) (h.aB ak) ⟨_,by rw [hz],yu⟩ hlen).mono ?_;rintro _ w2 ⟨⟨S',hR,hg⟩,ai⟩;obtain ⟨ad,rfl,aw,k4,xE⟩:=tail hR hg ai;(try simp only [go_sem,simprocAttr,cell_of aw]);(try simp only [go_sem,simprocAttr,bq,br,cell_of aw,k4,b2,t1,Nat.one_mul,aE,RV.ev,aF]);exact xE
 | snd e n=>
  obtain ⟨ve,rfl,⟨ae,qD,rfl,iD,hex⟩⟩:=hf;obtain ⟨vt,va,vb,vl,rfl,ht,ha,hb,hl⟩:=hex.parts;refine wM.calls rfl ?_;unfold s9;(try simp only [go_sem,simprocAttr]);refine bB rfl ?_;intro w1 au ak bP;obtain ⟨KH,KI⟩:=RO hu hv;have d1:Mod (fun _=>False) w1 w1.drew:=(Mod.refl _ _).drew;have xF:=ak.trans d1;have k1:w1.cell? ⟨ae.block,ae.off+1,none⟩=some (.string e.name):=(iD.up (aj ak (S:=S)) aM (aU (aj ak))).at (k:=1) (by simp);have fin:∀ {w2:World} {v:Value},EZ w2 S r md mf bs X m v (nZ e.name n (numOf x))∧Mod S w1.drew w2→∃ a b,v = .tuple #[a,b]∧(mB w w2 S r md mf bs X (.tuple #[.pointer none,.pointer none,a,b]) cm∧Mod S w w2):=fun {w2 v} ⟨hO,ai⟩=>by
   have aY:Mod S w w2:=(aj xF).trans ai;unfold gO at aS;simp only at aS;cases ho:nZ e.name n (numOf x) with
   | none=>
    rw [ho] at hO aS;cases aS;obtain ⟨rfl,hR⟩:=hO;exact ⟨_,_,rfl,qS hR mD aY rfl⟩
   | some y=>
    rw [ho] at hO aS;cases aS;obtain ⟨⟨u,rfl,q1,q2⟩,hR⟩:=hO;exact ⟨_,_,rfl,qS hR mD aY ⟨_,rfl,q1,q2⟩⟩
  (try simp only [go_sem,simprocAttr,cell_of au,Int.reduceBEq]);refine jH (D:=.int .i64) rfl rfl rfl (Tryz.zeroValue115 _) (fun hT=>?_) (fun hT=>?_)
  ·have hz:=KH hT;subst hz;(try simp only [go_sem,simprocAttr,cell_of au,k1]);refine aK (by rfl) ?_;refine (RA (h.aB xF)).mono ?_;rintro v w2 hO;obtain ⟨a,b,rfl,xE⟩:=fin hO;(try simp only [go_sem,simprocAttr,aE,RV.ev,aF]);exact xE
  ·have hz:=KI hT;rw [hz] at fin;(try simp only [go_sem,simprocAttr,cell_of au,k1]);refine aK (by rfl) ?_;refine (RA (h.aB xF)).mono ?_;rintro v w2 hO;obtain ⟨a,b,rfl,xE⟩:=fin hO;(try simp only [go_sem,simprocAttr,aE,RV.ev,aF]);exact xE
 | seq e nm=>
  obtain ⟨ve,vn,rfl,⟨ae,qD,rfl,iD,hex⟩,hn⟩:=hf;obtain ⟨vt,va,vb,vl,rfl,ht,ha,hb,hl⟩:=hex.parts;obtain ⟨aa,ca,rfl⟩:=a8 ha;unfold gO at aS;simp only at aS
  match bM:e.args,aS with
  | _::y::rest,aS=>
  cases aS;have aP:1 < e.args.length:=by rw [bM];simp
  have xD:e.args[1]=y:=by simp [bM]
  have b2:(0:Int)≤1∧(1:Int) < e.args.length:=by omega
  have t1:Int.toNat 1=1:=rfl;refine wM.calls rfl ?_;unfold s9;(try simp only [go_sem,simprocAttr]);refine bB rfl ?_;intro w1 au ak bP;have d1:Mod (fun _=>False) w1 w1.drew:=(Mod.refl _ _).drew;have xF:=ak.trans d1;have ua:=ha.up (aj ak (S:=S)) aM (aU (aj ak)) (fun _ _ h=>h.up (aj ak (S:=S)) aM (aU (aj ak)));obtain ⟨ad,c,e6,hp⟩:=zt ua aP;obtain ⟨rfl,-,-⟩:=b9 e6;rw [xD,add_pos _ (by decide)] at hp;have k4:w1.cell? ⟨ae.block,ae.off+4,none⟩=some (.slice (some ad) e.args.length ca):=(iD.up (aj ak (S:=S)) aM (aU (aj ak))).at (k:=4) (by simp);(try simp only [go_sem,simprocAttr,cell_of au,Int.reduceBEq]);(try simp only [go_sem,simprocAttr,bq,br,cell_of au,k4,b2,t1,Nat.one_mul,Int.reduceBEq,aE,RV.ev,aF]);exact BZ h xF ⟨_,_,rfl,hp.up (aj d1 (S:=S)) aM (aU (aj d1)),hn.up (aj xF (S:=S)) aM (aU (aj xF)) (fun _ _ h=>h)⟩
 | nh e nm=>
  obtain ⟨ve,vn,rfl,⟨ae,qD,rfl,iD,hex⟩,hn⟩:=hf;obtain ⟨vt,va,vb,vl,rfl,ht,ha,hb,hl⟩:=hex.parts;obtain ⟨aa,ca,rfl⟩:=a8 ha;obtain ⟨ab,cb,rfl⟩:=a8 hb;unfold gO at aS;simp only at aS
  match bM:e.args,pI:e.binds,aS with
  | y::rest,bd::bl,aS=>
  cases aS;have la:0 < e.args.length:=by rw [bM];simp
  have lb:0 < e.binds.length:=by rw [pI];simp
  have xC:e.args[0]=y:=by simp [bM]
  have kG:e.binds[0]=bd:=by simp [pI]
  have b1:(0:Int)≤0∧(0:Int) < e.args.length:=by omega
  have b2:(0:Int)≤0∧(0:Int) < e.binds.length:=by omega
  refine wM.calls rfl ?_;unfold s9;(try simp only [go_sem,simprocAttr]);refine bB rfl ?_;intro w1 au ak bP;have vz:=iD.up (aj ak (S:=S)) aM (aU (aj ak));have ua:=ha.up (aj ak (S:=S)) aM (aU (aj ak)) (fun _ _ h=>h.up (aj ak (S:=S)) aM (aU (aj ak)));have ub:=hb.up (aj ak (S:=S)) aM (aU (aj ak)) (fun _ _ h=>h.up (aj ak (S:=S)) aM (aU (aj ak)));obtain ⟨ad,c,e6,hp⟩:=zt ua la;obtain ⟨rfl,-,-⟩:=b9 e6;obtain ⟨yV,c,e6,nH,rE,_⟩:=E3 ub lb;obtain ⟨rfl,-,-⟩:=b9 e6;rw [xC,Nat.zero_mul,add_zero'] at hp;rw [kG,Nat.zero_mul,add_zero'] at nH;have k4:w1.cell? ⟨ae.block,ae.off+4,none⟩=some (.slice (some ad) e.args.length ca):=vz.at (k:=4) (by simp);have k5:w1.cell? ⟨ae.block,ae.off+5,none⟩=some (.slice (some yV) e.binds.length cb):=vz.at (k:=5) (by simp);have nV:=hn.up (aj ak (S:=S)) aM (aU (aj ak)) (fun _ _ h=>h);have gu:=nV.one;(try simp only [go_sem,simprocAttr,cell_of au,Int.reduceBEq]);(try simp only [go_sem,simprocAttr,bq,br,cell_of au,k4,k5,nH,b1,b2,Nat.zero_mul,add_zero',Int.reduceBEq,gu]);have l4:(⟨ae.block,ae.off+4,none⟩:Addr).block < w1.heap.size:=lW k4;have l5:yV.block < w1.heap.size:=lW nH;have l1:=cC au;refine bB rfl ?_;intro w2 aw xA bS;have ai:Mod (fun _=>False) w1 w2:=xA.ez;refine ⟨⟨ai.bY _ l1 _root_.id,ai.bY _ l5 _root_.id,ai.bY _ l4 _root_.id,ai.bY _ l1 _root_.id,ai.bY _ l4 _root_.id,ai.bY _ l1 _root_.id⟩,?_⟩;(try simp only [go_sem,simprocAttr,gu]);refine bB rfl ?_;intro w3 aO ar eR;have l4:ae.block < w1.heap.size:=l4;have z12:=ai.size;have z2:w2.heap.size=w1.heap.size+1:=bS;refine ⟨⟨ar.bY _ (by omega) _root_.id,ar.bY _ (by omega) _root_.id⟩,?_⟩;have aY:=ak.trans ai;have kJ:=ai.trans ar;have bo:=ak.trans kJ;have jB:∀ b,b < w.heap.size→aN S w1.heap.size b→S b:=eC (by have:=ak.size;omega);have RQ:∀ b,b < w1.heap.size→aN S w1.heap.size b→S b:=eC (Nat.le_refl _);have eM:=(h.aB ak).new (x:=x) (v:=.iface T z) ai aw (Nat.le_refl _) (hu.up (aj aY (S:=S)) aM (eh (aj aY) jB) lM)
  have hg:dI S (aN S w1.heap.size) w:=⟨fun b hb=>.inl hb,fun b hb=>by
   rcases hb with h | h
   ·exact .inl h
   ·right;have:=ak.size;omega⟩
  refine KG hg (lM (b:=w1.heap.size)) (aj aY) (w':=w2) ?_;refine BZ eM ar ⟨_,_,rfl,hp.up (aj kJ (S:=S)) aM (eh (aj kJ) RQ),⟨_,w1.heap.size,vn,rfl,?_,EX (cs:=[.string bd.name,ptr w1.heap.size,vn]) aO ?_,nV.up (aj kJ (S:=S)) aM (eh (aj kJ) RQ) lM⟩⟩
  ·rw [← hh.len,List.getElem?_append_right (Nat.le_refl _)];simp
  ·rintro (hx | hx)
   ·have:=hh.lt _ hx;have:=ak.size;omega
   ·omega
end
section
open Go Go.W
section
variable {α:Type}
theorem RR (k:ByteArray):gH ([]:List (ByteArray×α)) k=[]:=by simp [gH]
theorem RT (p:ByteArray×α) (l:List (ByteArray×α)) (k:ByteArray):gH (p::l) k=if p.1=k then l else p::gH l k:=by
 unfold gH;rw [List.findIdx?_cons];by_cases h:p.1=k
 ·simp [h]
 ·simp only [h,decide_false,if_false];cases l.findIdx? (fun p=>decide (p.1=k))<;>simp
abbrev Uq (l:List (ByteArray×α)):Prop:=(l.map (·.1)).Nodup
theorem KK (l:List (ByteArray×α)) (k:ByteArray):aI l k=none↔k∉l.map (·.1):=by
 induction l with
 | nil=>simp [Kl]
 | cons p l ih=>
  rw [nY];by_cases h:p.1=k
  ·simp [h]
  ·rw [if_neg h,ih];simp only [List.map_cons,List.mem_cons,not_or];exact ⟨fun hh=>⟨fun e=>h e.symm,hh⟩,fun hh=>hh.2⟩
theorem aef (l:List (ByteArray×α)) (k:ByteArray) (v:α):∀ x,x∈(bK l k v).map (·.1)→x=k∨x∈l.map (·.1):=by
 intro x hx;by_cases h:k=x
 ·exact .inl h.symm
 ·right
  apply Classical.byContradiction;intro hn;have h1:=(KK l x).2 hn;have h2:aI (bK l k v) x=none:=by rw [jh,if_neg h];exact h1
  exact (KK _ _).1 h2 hx
theorem E5 {l:List (ByteArray×α)} (h:Uq l) (k:ByteArray) (v:α):Uq (bK l k v):=by
 induction l with
 | nil=>rw [QZ];simp [Uq]
 | cons p l ih=>
  rw [Q0];have h1:p.1∉l.map (·.1)∧Uq l:=by simpa [Uq] using h
  split
  ·rename_i e;have:k∉l.map (·.1)∧Uq l:=by rw [← e];exact h1
   simpa [Uq] using this
  ·rename_i e
   have:p.1∉(bK l k v).map (·.1)∧Uq (bK l k v):=⟨fun hm=>by
    rcases aef l k v _ hm with h2 | h2
    ·exact e h2
    ·exact h1.1 h2,ih h1.2⟩
   simpa [Uq] using this
theorem aeg (l:List (ByteArray×α)) (k:ByteArray):∀ x,x∈(gH l k).map (·.1)→x∈l.map (·.1):=by
 intro x hx;obtain ⟨p,hp,rfl⟩:=List.mem_map.1 hx;exact List.mem_map_of_mem (Pv hp)
theorem KL {l:List (ByteArray×α)} (h:Uq l) (k:ByteArray):Uq (gH l k):=by
 induction l with
 | nil=>rw [RR];simp [Uq]
 | cons p l ih=>
  rw [RT];have h1:p.1∉l.map (·.1)∧Uq l:=by simpa [Uq] using h
  split
  ·exact h1.2
  ·have:p.1∉(gH l k).map (·.1)∧Uq (gH l k):=⟨fun hm=>h1.1 (aeg l k _ hm),ih h1.2⟩
   simpa [Uq] using this
theorem RU {l:List (ByteArray×α)} (h:Uq l) (k x:ByteArray):aI (gH l k) x=if k=x then none else aI l x:=by
 induction l with
 | nil=>rw [RR];simp [Kl]
 | cons p l ih=>
  have h1:p.1∉l.map (·.1)∧Uq l:=by simpa [Uq] using h
  rw [RT];by_cases e:p.1=k
  ·rw [if_pos e];by_cases e2:k=x
   ·rw [if_pos e2,(KK l x).2 (by rw [← e2,← e];exact h1.1)]
   ·rw [if_neg e2,nY,if_neg (by rw [e];exact e2)]
  ·rw [if_neg e,nY,ih h1.2,nY];by_cases e2:p.1=x
   ·rw [if_pos e2,if_neg (fun h=>e (by rw [h,e2])),if_pos e2]
   ·rw [if_neg e2,if_neg e2]
end
structure gP (E:Env) (st:St):Prop where
 dM:cZ E st.2
 uq:Uq st.2
 gx:∀ x,has st.1 x=false→aI st.2 x=none
structure Kp (E:Env) (st dH:St):Prop where
 ok:gP E dH
 same:∀ x,aI dH.2 x=aI st.2 x
 more:∀ x,has dH.1 x=false→has st.1 x=false
theorem Kp.refl {E:Env} {st:St} (h:gP E st):Kp E st st:=⟨h,fun _=>rfl,fun _ h=>h⟩
theorem Kp.trans {E:Env} {a b c:St} (h:Kp E a b) (k:Kp E b c):Kp E a c:=⟨k.ok,fun x=>(k.same x).trans (h.same x),fun x hx=>h.more x (k.more x hx)⟩
theorem pN (l:bI) (n x:ByteArray):has (bK l n 1) x=(decide (n=x)||has l x):=by
 unfold has;rw [jh];by_cases h:n=x<;>simp [h]
theorem KM {E:Env} {b:Bd} {bd dG:bI} (h:iZ E b bd = .ok dG):has bd b.name=false∧dG=bK bd b.name 1:=by
 unfold iZ at h
 split at h
 ·cases h
 ·rename_i hn
  split at h
  ·cases h;simp only [Bool.or_eq_true,not_or] at hn;exact ⟨by simpa using hn.2,rfl⟩
  ·cases h
theorem B4 {E:Env}:∀ (l:List Bd) (bd dG:bI),jb E l bd = .ok dG→(∀ b∈l,has bd b.name=false∧Good E b.type)∧(∀ x,has dG x=false→has bd x=false∧∀ b∈l,b.name≠x)
 | [],bd,dG,h=>by rw [jb] at h;cases h;exact ⟨fun b hb=>(by cases hb),fun x hx=>⟨hx,fun b hb=>(by cases hb)⟩⟩
 | b::l,bd,dG,h=>by
  rw [jb] at h
  split at h
  ·cases h
  ·rename_i bd1 h1;obtain ⟨a1,a2⟩:=KM h1;obtain ⟨b1,b2⟩:=B4 l bd1 dG h;subst a2;refine ⟨fun c hc=>?_,fun x hx=>?_⟩
   ·rcases List.mem_cons.1 hc with rfl | hc
    ·exact ⟨a1,yR h1⟩
    ·have:=(b1 c hc).1;rw [pN] at this;simp only [Bool.or_eq_false_iff] at this;exact ⟨this.2,(b1 c hc).2⟩
   ·obtain ⟨c1,c2⟩:=b2 x hx;rw [pN] at c1;simp only [Bool.or_eq_false_iff,decide_eq_false_iff_not] at c1;refine ⟨c1.2,fun c hc=>?_⟩;rcases List.mem_cons.1 hc with rfl | hc
    ·exact c1.1
    ·exact c2 c hc
abbrev Gm:=ByteArray→Option Ty
def pO (Γ:Gm) (n:ByteArray) (t:Ty):Gm:=fun x=>if n=x then some t else Γ x
def j':List Bd→Gm→Gm
 | [],Γ=>Γ
 | b::l,Γ=>j' l (pO Γ b.name b.type)
theorem uc:∀ (l:List Bd) (lc:Loc) (x:ByteArray),aI (cE l lc) x=j' l (aI lc) x
 | [],lc,x=>rfl
 | b::l,lc,x=>by
  rw [cE,uc l,j'];have:aI (bK lc b.name b.type)=pO (aI lc) b.name b.type:=by
   funext y;rw [jh];try rfl
  rw [this]
theorem vA:∀ (l:List Bd) (Γ:Gm) (x:ByteArray),(∀ b∈l,b.name≠x)→j' l Γ x=Γ x
 | [],Γ,x,_=>rfl
 | b::l,Γ,x,h=>by
  rw [j',vA l _ x (fun c hc=>h c (by simp [hc]))];exact if_neg (h b (by simp))
theorem aeh:∀ (l:List Bd) (Γ:Gm) (x:ByteArray),j' l (j' l Γ) x=j' l Γ x:=by
 have key:∀ (l:List Bd) (Γ E6:Gm) (x:ByteArray),Γ x=E6 x∨(∃ b∈l,b.name=x)→j' l Γ x=j' l E6 x:=by
  intro l
  induction l with
  | nil => intro Γ E6 x h; rcases h with h | ⟨b, hb, _⟩
           ·exact h
           ·cases hb
  | cons b l ih=>
   intro Γ E6 x h;rw [j',j'];apply ih;by_cases hn:b.name=x
   ·left;unfold pO;rw [if_pos hn,if_pos hn]
   ·rcases h with h | ⟨c,hc,h⟩
    ·left;unfold pO;rw [if_neg hn,if_neg hn];exact h
    ·rcases List.mem_cons.1 hc with rfl | hc
     ·exact absurd h hn
     ·exact .inr ⟨c,hc,h⟩
 intro l Γ x;apply key;by_cases h:∃ b∈l,b.name=x
 ·exact .inr h
 ·left
  exact vA l Γ x (fun b hb e=>h ⟨b,hb,e⟩)
theorem E7:∀ (l:List Bd) {lc:Loc},Uq lc→Uq (cE l lc)
 | [],_,h=>h
 | b::l,_,h=>E7 l (E5 h _ _)
theorem KN:∀ (l:List ByteArray) {lc:Loc},Uq lc→Uq (im l lc)
 | [],_,h=>h
 | s::l,_,h=>KN l (KL h _)
theorem B5:∀ (l:List ByteArray) {lc:Loc},Uq lc→∀ x,(x∈l→aI (im l lc) x=none)∧(x∉l→aI (im l lc) x=aI lc x)
 | [],_,_,x=>⟨fun h=>(by cases h),fun _=>rfl⟩
 | s::l,lc,h,x=>by
  obtain ⟨h1,h2⟩:=B5 l (KL h s) x;rw [im];rw [RU h] at h2;by_cases hm:x∈l
  ·exact ⟨fun _=>h1 hm,fun hn=>absurd (List.mem_cons_of_mem _ hm) hn⟩
  ·by_cases hs:s=x
   ·rw [if_pos hs] at h2;exact ⟨fun _=>h2 hm,fun hn=>absurd (by rw [hs];simp) hn⟩
   ·rw [if_neg hs] at h2;refine ⟨fun hc=>?_,fun _=>h2 hm⟩;rcases List.mem_cons.1 hc with e | e
    ·exact absurd e.symm hs
    ·exact absurd e hm
def E8 (E:Env) (e:Ex):Prop:=∀ st y,gP E st→cj E e st = .ok y→Kp E st y.2
section
variable {E:Env}
theorem xG:∀ (l:List Ex),(∀ u∈l,E8 E u)→∀ st y,gP E st→cG E l st = .ok y→Kp E st y.2
 | [],_,st,y,hs,h=>by rw [cG] at h;cases h;exact .refl hs
 | e::l,hg,st,y,hs,h=>by
  rw [cG] at h
  split at h
  ·cases h
  ·rename_i y1 h1;have k1:=hg e (by simp) st y1 hs h1
   split at h
   ·cases h
   ·rename_i z h2;cases h;exact k1.trans (xG l (fun u hu=>hg u (by simp [hu])) _ z k1.ok h2)
theorem KO:∀ (l:List Bd),(∀ b∈l,E8 E b.value)→∀ st y,gP E st→iN E l st = .ok y→Kp E st y
 | [],_,st,y,hs,h=>by rw [iN] at h;cases h;exact .refl hs
 | b::l,hg,st,y,hs,h=>by
  rw [Bn] at h
  split at h
  ·cases h
  ·rename_i y1 h1;have k1:=hg b (by simp) st y1 hs h1
   split at h
   ·exact k1.trans (KO l (fun u hu=>hg u (by simp [hu])) _ _ k1.ok h)
   ·cases h
def od (ps:List ByteArray) (bs:List Ty):List ByteArray→List Ty→Gm→Gm
 | s::l,f::fs,Γ=>od ps bs l fs (pO Γ s (eL ps bs f).1)
 | _,_,Γ=>Γ
theorem RW {ps:List ByteArray} {bs:List Ty}:∀ (vs:List ByteArray) (fs:List Ty) (lc gy:Loc),gX ps bs vs fs lc = .ok gy→(∀ x,aI gy x=od ps bs vs fs (aI lc) x)∧(Uq lc→Uq gy)
 | s::l,f::fs,lc,gy,h=>by
  rw [gX] at h
  split at h
  ·obtain ⟨h1,h2⟩:=RW l fs _ _ h;refine ⟨fun x=>?_,fun hu=>h2 (E5 hu _ _)⟩;rw [h1,od];have:aI (bK lc s (eL ps bs f).1)=pO (aI lc) s (eL ps bs f).1:=by
    funext y;rw [jh];try rfl
   rw [this]
  ·cases h
 | [],_,lc,gy,h=>by
  rw [gX] at h
  ·cases h;exact ⟨fun x=>(by rw [od];simp),fun h=>h⟩
  ·simp
 | s::l,[],lc,gy,h=>by
  rw [gX] at h
  ·cases h;exact ⟨fun x=>(by rw [od];simp),fun h=>h⟩
  ·simp
theorem KP {ps:List ByteArray} {bs:List Ty}:∀ (vs:List ByteArray) (fs:List Ty) (Γ:Gm) (x:ByteArray),x∉vs→od ps bs vs fs Γ x=Γ x
 | s::l,f::fs,Γ,x,h=>by
  rw [od,KP l fs _ x (fun hh=>h (by simp [hh]))];exact if_neg (fun e=>h (by simp [e]))
 | [],_,Γ,x,h=>by rw [od];simp
 | s::l,[],Γ,x,h=>by rw [od];simp
theorem RX:∀ (l:List ByteArray) (bd dG:bI),mQ l bd = .ok dG→(∀ s∈l,has bd s=false)∧(∀ x,has dG x=false→has bd x=false∧x∉l)
 | [],bd,dG,h=>by rw [mQ] at h;cases h;exact ⟨fun b hb=>(by cases hb),fun x hx=>⟨hx,by simp⟩⟩
 | s::l,bd,dG,h=>by
  rw [mQ] at h
  split at h
  ·cases h
  ·rename_i hn;simp only [Bool.or_eq_true,not_or] at hn;obtain ⟨b1,b2⟩:=RX l _ dG h;refine ⟨fun c hc=>?_,fun x hx=>?_⟩
   ·rcases List.mem_cons.1 hc with rfl | hc
    ·simpa using hn.2
    ·have:=b1 c hc;rw [pN] at this;simp only [Bool.or_eq_false_iff] at this;exact this.2
   ·obtain ⟨c1,c2⟩:=b2 x hx;rw [pN] at c1;simp only [Bool.or_eq_false_iff,decide_eq_false_iff_not] at c1
    exact ⟨c1.2,fun hc=>by
     rcases List.mem_cons.1 hc with rfl | hc
     ·exact c1.1 rfl
     ·exact c2 hc⟩
theorem RY {of:Ty} (hE:kD E) (eK:Good E of) {a:Al} (hk:a.kind=1→of.kind=4) {st:St} {y:Ty×St} (hs:gP E st) (h:mg E of a.kind a.bg a.vars (cj E a.body) st = .ok y) :
   (a.kind≠1∧cj E a.body st = .ok y) ∨
   (a.kind=1∧∃ x dA y1,aI E.cons a.bg=some x∧x.1.name=of.name∧(de x.1 x.2).length=a.vars.length∧gP E dA∧(∀ s,aI dA.2 s=od x.1.params of.args a.vars (de x.1 x.2) (aI st.2) s) ∧
    cj E a.body dA = .ok y1∧y1.1=y.1∧(Kp E dA y1.2→Kp E st y.2)∧gX x.1.params of.args a.vars (de x.1 x.2) st.2 = .ok dA.2):=by
 unfold mg at h
 split at h
 ·rename_i bw;exact .inl ⟨by simpa using bw,h⟩
 ·rename_i bw;have jz:a.kind=1:=by simpa using bw
  right
  refine ⟨jz,?_⟩
  split at h
  ·cases h
  ·rename_i x hx
   split at h
   ·cases h
   ·rename_i hn;have iy:x.1.name=of.name:=by
     have h1:aR x.1.name of.name=true:=by simpa using hn
     rw [oH] at h1
     simpa using h1
    split at h
    ·cases h
    ·rename_i hl;have hlen:(de x.1 x.2).length=a.vars.length:=by
      have:((de x.1 x.2).length:Int)=a.vars.length:=by simpa using hl
      omega
     split at h
     ·cases h
     ·rename_i bd dz
      split at h
      ·cases h
      ·rename_i lc pt
       split at h
       ·cases h
       ·rename_i y1 xh;cases h;obtain ⟨v1,v2⟩:=RX _ _ _ dz;obtain ⟨p1,p2⟩:=RW _ _ _ _ pt;obtain ⟨⟨d,yg,C0⟩,hw⟩:=hE.cons _ _ hx;have hb:∀ b∈of.args,Good E b:=fun b hb=>Bl eK hb
        have hle:x.1.params.length≤of.args.length:=by
         have:=eK.1;rw [of.nS,hk jz,Bool.and_eq_true,Bool.and_eq_true] at this;have h3:=this.1.2;have h4:dm E of.name of.args.length=false:=by simpa using h3
         unfold dm at h4;rw [← iy,yg] at h4;have h5:(d.params.length:Int)=of.args.length:=by simpa using h4
         omega
        have iB:gP E (bd,lc):=⟨Js hb hle _ _ hw _ _ hs.dM pt,p2 hs.uq,fun z hz=>by
         obtain ⟨q1,q2⟩:=v2 z hz;show aI lc z=none;rw [p1,KP _ _ _ _ q2]
         exact hs.gx z q1⟩
        refine ⟨x,(bd,lc),y1,hx,iy,hlen,iB,p1,xh,rfl,fun ww=>?_,pt⟩;have nk:∀ z,aI (im a.vars y1.2.2) z=aI st.2 z:=fun z=>by
         by_cases hz:z∈a.vars
         ·rw [(B5 _ ww.ok.uq z).1 hz];exact (hs.gx z (v1 z hz)).symm
         ·rw [(B5 _ ww.ok.uq z).2 hz,ww.same];show aI lc z=_;rw [p1,KP _ _ _ _ hz]
        have vB:∀ z,has y1.2.1 z=false→has st.1 z=false:=fun z hz=>(v2 z (ww.more z hz)).1
        exact ⟨⟨ww.ok.dM.im _,KN _ ww.ok.uq,fun z hz=>by rw [nk];exact hs.gx z (vB z hz)⟩,nk,vB⟩
theorem KQ (hE:kD E) {all:List Al} {of:Ty} (eK:Good E of):∀ (l:List Al) (i:Nat),all.drop i=l→(∀ a∈l,E8 E a.body)→∀ (first:Ty) (st:St) (y:Ty×St),gP E st→fL E all of l i first st = .ok y→Kp E st y.2
 | [],i,_,_,first,st,y,hs,h=>by rw [fL] at h;cases h;exact .refl hs
 | a::l,i,hd,hg,first,st,y,hs,h=>by
  have hi:i < all.length:=by
   apply Classical.byContradiction;intro hn;rw [List.drop_eq_nil_of_le (by omega)] at hd;cases hd
  rw [List.drop_eq_getElem_cons hi] at hd
  injection hd with ha eO
  rw [Bm] at h
  split at h
  ·cases h
  ·rename_i mh;have mh:ly all i of=true:=by simpa using mh
   have hk:a.kind=1→of.kind=4:=fun hk=>DL (a:=a) (by rw [List.getElem?_eq_getElem hi,ha]) mh hk
   split at h
   ·cases h
   ·rename_i y1 h1;have k1:Kp E st y1.2:=by
     rcases RY hE eK hk hs h1 with ⟨_,h2⟩ | ⟨_,x,dA,y2,_,_,_,B6,_,h2,_,h3,_⟩
     ·exact hg a (by simp) _ _ hs h2
     ·exact h3 (hg a (by simp) _ _ B6 h2)
    split at h
    ·exact k1.trans (KQ hE eK l (i+1) eO (fun b hb=>hg b (by simp [hb])) _ _ _ k1.ok h)
    ·split at h
     ·exact k1.trans (KQ hE eK l (i+1) eO (fun b hb=>hg b (by simp [hb])) _ _ _ k1.ok h)
     ·cases h
theorem gP.cE {st:St} (hs:gP E st) {l:List Bd} {bd:bI} (h:jb E l st.1 = .ok bd) {dG:bI} (hm:∀ x,has dG x=false→has bd x=false):gP E (dG,cE l st.2):=by
 obtain ⟨b1,b2⟩:=B4 _ _ _ h;refine ⟨hs.dM.cE l (fun b hb=>(b1 b hb).2),E7 l hs.uq,fun x hx=>?_⟩;obtain ⟨c1,c2⟩:=b2 x (hm x hx);show aI (Go.Proofs.YtjfgeekjjlhbdaaGreatDoor.cE l st.2) x=none;rw [uc,vA _ _ _ c2];exact hs.gx x c1
theorem Kp.kC {st vC:St} (hs:gP E st) {l:List Bd} {bd:bI} (h:jb E l st.1 = .ok bd) (h3:gP E vC) (nk:∀ x,(∀ b∈l,b.name≠x)→aI vC.2 x=aI st.2 x) (hm:∀ x,has vC.1 x=false→has bd x=false):Kp E st (vC.1,kC l vC.2):=by
 obtain ⟨b1,b2⟩:=B4 _ _ _ h;have bS:∀ x,aI (Go.Proofs.YtjfgeekjjlhbdaaGreatDoor.kC l vC.2) x=aI st.2 x:=fun x=>by
  unfold Go.Proofs.YtjfgeekjjlhbdaaGreatDoor.kC;by_cases hx:x∈l.map Bd.name
  ·rw [(B5 _ h3.uq x).1 hx];obtain ⟨b,hb,rfl⟩:=List.mem_map.1 hx;exact (hs.gx _ (b1 b hb).1).symm
  ·rw [(B5 _ h3.uq x).2 hx];exact nk x (fun b hb e=>hx (by rw [← e];exact List.mem_map_of_mem hb))
 have vB:∀ x,has vC.1 x=false→has st.1 x=false:=fun x hx=>(b2 x (hm x hx)).1
 exact ⟨⟨h3.dM.im _,KN _ h3.uq,fun x hx=>by
  show aI (Go.Proofs.YtjfgeekjjlhbdaaGreatDoor.kC l vC.2) x=none
  rw [bS];exact hs.gx x (vB x hx)⟩,bS,vB⟩
end
end
section
open Go Go.W
section
variable {E:Env}
theorem zv (hE:kD E) (hb:dm E iA 0=false) (e:Ex):E8 E e:=by
 induction e using Ex.ind with
 | h e eZ mj mT=>
 intro st y hs h;have aiJ:=(rR hE hb e st y hs.dM h).2;rw [kE] at h;by_cases hf:jx e=false
 ·rw [if_pos hf] at h;cases h
 rw [if_neg hf] at h;have F:=Bo (by simpa using hf);by_cases hk:e.kind=1
 ·rw [if_pos hk] at h
  split at h
  ·cases h
  ·cases h;exact .refl hs
 rw [if_neg hk] at h;by_cases hk:e.kind=2
 ·rw [if_pos hk] at h;cases h;exact .refl hs
 rw [if_neg hk] at h;by_cases hk:e.kind=3
 ·rw [if_pos hk] at h
  split at h
  ·cases h
  ·obtain ⟨t,ht,rfl⟩:=mS h;exact .refl hs
 rw [if_neg hk] at h;by_cases hk:e.kind=4
 ·rw [if_pos hk] at h
  split at h
  ·cases h
  ·obtain ⟨t,ht,rfl⟩:=mS h;exact .refl hs
 rw [if_neg hk] at h;by_cases hk:e.kind=12
 ·rw [if_pos hk] at h
  split at h
  ·cases h
  ·split at h
   ·cases h;exact .refl hs
   ·cases h
 rw [if_neg hk] at h;by_cases hk:e.kind=5
 ·rw [if_pos hk] at h
  split at h
  ·cases h
  ·rename_i y1 h1;obtain ⟨t,ht,rfl⟩:=mS h;exact xG _ eZ _ _ hs h1
 rw [if_neg hk] at h;by_cases hk:e.kind=9
 ·rw [if_pos hk] at h
  split at h
  ·cases h
  ·rename_i y1 h1;obtain ⟨t,ht,rfl⟩:=mS h;exact xG _ eZ _ _ hs h1
 rw [if_neg hk] at h;by_cases hk:e.kind=10
 ·rw [if_pos hk] at h
  split at h
  ·cases h
  ·rename_i y1 h1;cases h;exact xG _ eZ _ _ hs h1
 rw [if_neg hk] at h;by_cases hk:e.kind=6
 ·rw [if_pos hk] at h
  split at h
  ·cases h
  ·rename_i b bs dD
   split at h
   ·cases h
   ·rename_i bd h1
    split at h
    ·cases h
    ·rename_i y1 h2;obtain ⟨t,ht,rfl⟩:=mS h;obtain ⟨a1,a2⟩:=KM h1
     have iB:gP E (bd,bK st.2 b.name b.type):=⟨hs.dM.put (yR h1),E5 hs.uq _ _,fun x hx=>by
      have hx:has bd x=false:=hx;rw [a2,pN,Bool.or_eq_false_iff,decide_eq_false_iff_not] at hx;show aI (bK st.2 b.name b.type) x=none
      rw [jh,if_neg hx.1];exact hs.gx x hx.2⟩
     have k:=xG _ eZ _ _ iB h2;have nk:∀ x,aI (gH y1.2.2 b.name) x=aI st.2 x:=fun x=>by
      rw [RU k.ok.uq];by_cases hx:b.name=x
      ·rw [if_pos hx];subst hx;exact (hs.gx _ a1).symm
      ·rw [if_neg hx,k.same];show aI (bK st.2 b.name b.type) x=_;rw [jh,if_neg hx]
     have vB:∀ x,has y1.2.1 x=false→has st.1 x=false:=fun x hx=>by
      have:=k.more x hx;have this:has bd x=false:=this;rw [a2,pN,Bool.or_eq_false_iff] at this;exact this.2
     exact ⟨⟨k.ok.dM.del _,KL k.ok.uq _,fun x hx=>by rw [nk];exact hs.gx x (vB x hx)⟩,nk,vB⟩
 rw [if_neg hk] at h;by_cases hk:e.kind=7∨e.kind=11
 ·rw [if_pos hk] at h
  split at h
  ·cases h
  ·rename_i bd h1
   split at h
   ·cases h
   ·rename_i bX h2
    split at h
    ·cases h
    ·rename_i y1 h3;cases h;obtain ⟨b1,b2⟩:=B4 _ _ _ h1;have nB:gP E (bd,st.2):=⟨hs.dM,hs.uq,fun x hx=>hs.gx x (b2 x hx).1⟩;have iB:gP E (bd,if e.kind=7 then cE e.binds st.2 else st.2):=by
      by_cases h7:e.kind=7
      ·rw [if_pos h7];exact hs.cE h1 (fun _ h=>h)
      ·rw [if_neg h7];exact nB
     have k1:=KO _ mj _ _ iB h2;have RZ:∀ x,(∀ b∈e.binds,b.name≠x)→aI bX.2 x=aI st.2 x:=fun x hx=>by
      rw [k1.same];show aI (if e.kind=7 then cE e.binds st.2 else st.2) x=_;by_cases h7:e.kind=7
      ·rw [if_pos h7,uc,vA _ _ _ hx]
      ·rw [if_neg h7]
     have aei:gP E (bX.1,cE e.binds bX.2):=⟨k1.ok.dM.cE _ (fun b hb=>(b1 b hb).2),E7 _ k1.ok.uq,fun x hx=>by
      obtain ⟨c1,c2⟩:=b2 x (k1.more x hx);show aI (cE e.binds bX.2) x=none;rw [uc,vA _ _ _ c2,RZ x c2]
      exact hs.gx x c1⟩
     have k2:=xG _ eZ _ _ aei h3;refine Kp.kC hs h1 k2.ok (fun x hx=>?_) (fun x hx=>k1.more x (k2.more x hx));rw [k2.same];show aI (cE e.binds bX.2) x=_;rw [uc,vA _ _ _ hx];exact RZ x hx
 rw [if_neg hk] at h
 split at h
 ·cases h
 ·rename_i y1 h1;have k1:=xG _ eZ _ _ hs h1
  split at h
  ·cases h
  ·have hl:e.args.length=1:=F.a1 (by have:=F.uB;omega);obtain ⟨g1,g2,g3⟩:=uM e.args (fun u _=>rR hE hb u) _ _ hs.dM h1;have eK:Good E (y1.1.headD default):=by
    cases hy:y1.1 with
    | nil=>rw [hy] at g3;simp at g3;omega
    | cons t ts=>exact g1 t (by rw [hy];simp)
   exact k1.trans (KQ hE eK e.alts 0 rfl mT _ _ _ k1.ok h)
def dS (E:Env) (Γ:Gm) (e:Ex) (T:Ty):Prop:=∃ st y,gP E st∧(∀ x,aI st.2 x=Γ x)∧cj E e st = .ok y∧y.1=T
theorem R0 {st:St} {Γ:Gm} (h:∀ x,aI st.2 x=Γ x):aI st.2=Γ:=funext h
variable {Γ:Gm} {e:Ex} {T:Ty}
theorem KR (h:dS E Γ e T):jx e=true:=by
 obtain ⟨st,y,_,_,h,_⟩:=h;rw [kE] at h;by_cases hf:jx e=false
 ·rw [if_pos hf] at h;cases h
 ·simpa using hf
theorem sw {k:Int} (h:dS E Γ e T) (hk:e.kind=k):∃ st y,gP E st∧(∀ x,aI st.2 x=Γ x)∧y.1=T∧PC e∧cj E e st = .ok y∧((Except.ok y:Except Int (Ty×St)) =
   if k=1 then (match aI st.2 e.name with | none=>.error 82 | some t=>.ok (t,st))
   else if k=2 then .ok (.mk 1 bD [],st)
   else if k=3 then (match aI E.an e.name with | none=>.error 82 | some d=>(ik E d.type d.params e.types).map (fun t=>(t,st)))
   else if k=4 then (match aI E.cons e.name with | none=>.error 82 | some x=>(ik E (qq x.1 x.2) x.1.params e.types).map (fun t=>(t,st)))
   else if k=12 then (match e.types with | []=>.error 84 | t::_=>if fg E t=true then .ok (t,st) else .error 83)
   else if k=5 then (match cG E e.args st with | .error x=>.error x | .ok y=>(mR E y.1).map (fun t=>(t,y.2)))
   else if k=9 then (match cG E e.args st with | .error x=>.error x | .ok y=>(nR e.name y.1).map (fun t=>(t,y.2)))
   else if k=10 then (match cG E e.args st with | .error x=>.error x | .ok y=>.ok (y.1.getLastD default,y.2))
   else if k=6 then (match e.binds with
    | []=>.error 84
    | b::_=>match iZ E b st.1 with
     | .error x=>.error x
     | .ok bd=>match cG E e.args (bd,bK st.2 b.name b.type) with
      | .error x=>.error x
      | .ok y=>(pr b y.1).map (fun t=>(t,(y.2.1,gH y.2.2 b.name))))
   else if k=7∨k=11 then (match jb E e.binds st.1 with
    | .error x=>.error x
    | .ok bd=>match iN E e.binds (bd,if k=7 then cE e.binds st.2 else st.2) with
     | .error x=>.error x
     | .ok bX=>match cG E e.args (bX.1,cE e.binds bX.2) with
      | .error x=>.error x
      | .ok y=>.ok (y.1.headD default,(y.2.1,kC e.binds y.2.2)))
   else match cG E e.args st with
    | .error x=>.error x
    | .ok y=>if ((y.1.headD default).kind != 1&&(y.1.headD default).kind != 4)=true then .error 83 else fL E e.alts (y.1.headD default) e.alts 0 default y.2):=by
 have hf:=KR h;obtain ⟨st,y,hs,hg,hx,hT⟩:=h;refine ⟨st,y,hs,hg,hT,Bo hf,hx,?_⟩;rw [kE,if_neg (by rw [hf];simp),hk] at hx;exact hx.symm
theorem R1 (h:dS E Γ e T) (hk:e.kind=1):Γ e.name=some T:=by
 obtain ⟨st,y,hs,hg,rfl,F,_,hx⟩:=sw h hk;rw [if_pos rfl] at hx
 split at hx
 ·cases hx
 ·rename_i t ht;cases hx;rw [← hg,ht]
theorem aej (h:dS E Γ e T) (hk:e.kind=2):T = .mk 1 bD []:=by
 obtain ⟨st,y,hs,hg,rfl,F,_,hx⟩:=sw h hk;rw [if_neg (by decide),if_pos rfl] at hx;cases hx;rfl
theorem R2 (h:dS E Γ e T) (hk:e.kind=3):∃ d,aI E.an e.name=some d∧ik E d.type d.params e.types = .ok T:=by
 obtain ⟨st,y,hs,hg,rfl,F,_,hx⟩:=sw h hk;rw [if_neg (by decide),if_neg (by decide),if_pos rfl] at hx
 split at hx
 ·cases hx
 ·rename_i d hd;obtain ⟨t,ht,rfl⟩:=mS hx.symm;exact ⟨d,hd,ht⟩
theorem aek (h:dS E Γ e T) (hk:e.kind=4):∃ x,aI E.cons e.name=some x∧ik E (qq x.1 x.2) x.1.params e.types = .ok T:=by
 obtain ⟨st,y,hs,hg,rfl,F,_,hx⟩:=sw h hk;rw [if_neg (by decide),if_neg (by decide),if_neg (by decide),if_pos rfl] at hx
 split at hx
 ·cases hx
 ·rename_i d hd;obtain ⟨t,ht,rfl⟩:=mS hx.symm;exact ⟨d,hd,ht⟩
theorem ael (h:dS E Γ e T) (hk:e.kind=12):1≤e.num∧e.num≤4:=by
 have hf:=Pz (KR h);unfold fS at hf;rw [hk] at hf;have:((eH e 1 0 0 0&&decide (e.num≥1))&&decide (e.num≤4))=true:=hf;simp only [Bool.and_eq_true,decide_eq_true_eq] at this;exact ⟨this.1.2,this.2⟩
theorem B7 {α:Type} {l:List α} (h:l.length=2):∃ a b,l=[a,b]:=by
 match l,h with
 | [a,b],_=>exact ⟨a,b,rfl⟩
theorem zx {α:Type} {l:List α} (h:l.length=1):∃ a,l=[a]:=by
 match l,h with
 | [a],_=>exact ⟨a,rfl⟩
theorem aem {a b:Ex} {st:St} {y:List Ty×St} (h:cG E [a,b] st = .ok y):∃ y1 y2,cj E a st = .ok y1∧cj E b y1.2 = .ok y2∧y=([y1.1,y2.1],y2.2):=by
 rw [cG] at h
 split at h
 ·cases h
 ·rename_i y1 h1;rw [cG] at h
  split at h
  ·cases h
  ·rename_i z h2
   split at h2
   ·cases h2
   ·rename_i y2 h3;rw [cG] at h2;cases h2;cases h;exact ⟨y1,y2,h1,h3,rfl⟩
theorem KS {a:Ex} {st:St} {y:List Ty×St} (h:cG E [a] st = .ok y):∃ y1,cj E a st = .ok y1∧y=([y1.1],y1.2):=by
 rw [cG] at h
 split at h
 ·cases h
 ·rename_i y1 h1;rw [cG] at h;cases h;exact ⟨y1,h1,rfl⟩
variable (hE:kD E) (hb:dm E iA 0=false)
include hE hb
theorem KT (h:dS E Γ e T):Good E T:=by
 obtain ⟨st,y,hs,hg,hx,rfl⟩:=h;exact (rR hE hb e st y hs.dM hx).1
theorem KU {st:St} {a b:Ex} (hs:gP E st) (hg:∀ x,aI st.2 x=Γ x) {y:List Ty×St} (h:cG E [a,b] st = .ok y):∃ A B,dS E Γ a A∧dS E Γ b B∧y.1=[A,B]:=by
 obtain ⟨y1,y2,h1,h2,rfl⟩:=aem h;have k:=zv hE hb a st y1 hs h1;exact ⟨y1.1,y2.1,⟨st,y1,hs,hg,h1,rfl⟩,⟨y1.2,y2,k.ok,fun x=>(k.same x).trans (hg x),h2,rfl⟩,rfl⟩
theorem R4 (h:dS E Γ e T) (hk:e.kind=5):∃ f x F A,e.args=[f,x]∧dS E Γ f F∧F.kind=3∧F.args=[A,T]∧dS E Γ x A:=by
 obtain ⟨st,y,hs,hg,rfl,F,_,hx⟩:=sw h hk;obtain ⟨f,x,ha⟩:=B7 (F.a2 (.inl hk));simp only [show ¬ (5:Int)=1 by decide,show ¬ (5:Int)=2 by decide,show ¬ (5:Int)=3 by decide,show ¬ (5:Int)=4 by decide,show ¬ (5:Int)=12 by decide,if_false,if_true] at hx;rw [ha] at hx
 split at hx
 ·cases hx
 ·rename_i y1 h1;obtain ⟨A,B,c1,c2,e1⟩:=KU hE hb hs hg h1;obtain ⟨t,ht,rfl⟩:=mS hx.symm;rw [e1] at ht;unfold mR at ht;simp only at ht
  split at ht
  ·cases ht
  ·rename_i qv;have qv:A.kind=3:=by simpa using qv
   split at ht
   ·rename_i p q r bM
    split at ht
    ·rename_i nk;cases ht;have hl:=Jq (KT hE hb c1).1 qv;rw [bM] at hl;have hr:r=[]:=by simpa using hl
     subst hr;have hp:p=B:=by simpa [fQ] using nk
     subst hp;exact ⟨f,x,A,p,ha,c1,qv,bM,c2⟩
    ·cases ht
   ·cases ht
theorem R5 (h:dS E Γ e T) (hk:e.kind=9):∃ a b A B,e.args=[a,b]∧dS E Γ a A∧dS E Γ b B∧A.kind=1∧B.kind=1∧fJ e.name=some T:=by
 obtain ⟨st,y,hs,hg,rfl,F,_,hx⟩:=sw h hk;obtain ⟨f,x,ha⟩:=B7 (F.a2 (.inr (.inl hk)));simp only [show ¬ (9:Int)=1 by decide,show ¬ (9:Int)=2 by decide,show ¬ (9:Int)=3 by decide,show ¬ (9:Int)=4 by decide,show ¬ (9:Int)=12 by decide,show ¬ (9:Int)=5 by decide,if_false,if_true] at hx;rw [ha] at hx
 split at hx
 ·cases hx
 ·rename_i y1 h1;obtain ⟨A,B,c1,c2,e1⟩:=KU hE hb hs hg h1;obtain ⟨t,ht,rfl⟩:=mS hx.symm;rw [e1] at ht;unfold nR at ht;simp only at ht
  split at ht
  ·cases ht
  ·rename_i qv;cases ht;simp only [Bool.or_eq_true,not_or] at qv;have ho:=F.op hk;refine ⟨f,x,A,B,ha,c1,c2,by simpa using qv.1,by simpa using qv.2,?_⟩;cases hq:fJ e.name with
   | none=>rw [hq] at ho;cases ho
   | some u=>rfl
theorem R6 (h:dS E Γ e T) (hk:e.kind=10):∃ a b A,e.args=[a,b]∧dS E Γ a A∧dS E Γ b T:=by
 obtain ⟨st,y,hs,hg,rfl,F,_,hx⟩:=sw h hk;obtain ⟨f,x,ha⟩:=B7 (F.a2 (.inr (.inr hk)));simp only [show ¬ (10:Int)=1 by decide,show ¬ (10:Int)=2 by decide,show ¬ (10:Int)=3 by decide,show ¬ (10:Int)=4 by decide,show ¬ (10:Int)=12 by decide,show ¬ (10:Int)=5 by decide,show ¬ (10:Int)=9 by decide,if_false,if_true] at hx;rw [ha] at hx
 split at hx
 ·cases hx
 ·rename_i y1 h1;obtain ⟨A,B,c1,c2,e1⟩:=KU hE hb hs hg h1;cases hx;rw [e1];exact ⟨f,x,A,ha,c1,c2⟩
omit hE hb in
theorem R7 (h:dS E Γ e T) (hk:e.kind=6):∃ b x t,e.binds=[b]∧e.args=[x]∧T=jV b.type t∧dS E (pO Γ b.name b.type) x t:=by
 obtain ⟨st,y,hs,hg,rfl,F,_,hx⟩:=sw h hk;obtain ⟨x,ha⟩:=zx (F.a1 (.inl hk));obtain ⟨b,dz⟩:=zx (F.b1 (.inl hk));simp only [show ¬ (6:Int)=1 by decide,show ¬ (6:Int)=2 by decide,show ¬ (6:Int)=3 by decide,show ¬ (6:Int)=4 by decide,show ¬ (6:Int)=12 by decide,show ¬ (6:Int)=5 by decide,show ¬ (6:Int)=9 by decide,show ¬ (6:Int)=10 by decide,if_false,if_true] at hx;rw [ha,dz] at hx;simp only at hx
 split at hx
 ·cases hx
 ·rename_i bd h1
  split at hx
  ·cases hx
  ·rename_i y1 h2;obtain ⟨t,ht,rfl⟩:=mS hx.symm;obtain ⟨a1,a2⟩:=KM h1;obtain ⟨y2,h3,rfl⟩:=KS h2
   have iB:gP E (bd,bK st.2 b.name b.type):=⟨hs.dM.put (yR h1),E5 hs.uq _ _,fun x hx=>by
    have hx:has bd x=false:=hx;rw [a2,pN,Bool.or_eq_false_iff,decide_eq_false_iff_not] at hx;show aI (bK st.2 b.name b.type) x=none
    rw [jh,if_neg hx.1];exact hs.gx x hx.2⟩
   unfold pr at ht;simp only at ht
   split at ht
   ·cases ht
   ·cases ht;refine ⟨b,x,y2.1,dz,ha,rfl,_,y2,iB,fun z=>?_,h3,rfl⟩;show aI (bK st.2 b.name b.type) z=_;rw [jh,hg];try rfl
theorem R8:∀ (l:List Bd) {st bX:St},gP E st→(∀ x,aI st.2 x=Γ x)→iN E l st = .ok bX→(∀ b∈l,dS E Γ b.value b.type)
 | [],st,bX,hs,hg,h=>fun b hb=>(by cases hb)
 | b::l,st,bX,hs,hg,h=>by
  rw [Bn] at h
  split at h
  ·cases h
  ·rename_i y1 h1;have k:=zv hE hb b.value st y1 hs h1
   split at h
   ·rename_i nk;have:y1.1=b.type:=by simpa [fQ] using nk
    intro c hc;rcases List.mem_cons.1 hc with rfl | hc
    ·exact ⟨st,y1,hs,hg,h1,this⟩
    ·exact R8 l k.ok (fun x=>(k.same x).trans (hg x)) h c hc
   ·cases h
theorem E9 (h:dS E Γ e T) (hk:e.kind=7∨e.kind=11):∃ x,e.args=[x]∧(∀ b∈e.binds,dS E (if e.kind=7 then j' e.binds Γ else Γ) b.value b.type)∧dS E (j' e.binds Γ) x T:=by
 obtain ⟨st,y,hs,hg,rfl,F,_,hx⟩:=sw h rfl;obtain ⟨x,ha⟩:=zx (F.a1 (by omega));have n:∀ k:Int,k≠7→k≠11→¬ e.kind=k:=fun k h1 h2=>by omega
 simp only [n 1 (by decide) (by decide),n 2 (by decide) (by decide),n 3 (by decide) (by decide),n 4 (by decide) (by decide),n 12 (by decide) (by decide),n 5 (by decide) (by decide),n 9 (by decide) (by decide),n 10 (by decide) (by decide),n 6 (by decide) (by decide),if_false,if_pos hk] at hx;rw [ha] at hx
 split at hx
 ·cases hx
 ·rename_i bd h1
  split at hx
  ·cases hx
  ·rename_i bX h2
   split at hx
   ·cases hx
   ·rename_i y1 h3;cases hx;obtain ⟨y2,h4,rfl⟩:=KS h3;obtain ⟨b1,b2⟩:=B4 _ _ _ h1;have nB:gP E (bd,st.2):=⟨hs.dM,hs.uq,fun x hx=>hs.gx x (b2 x hx).1⟩;have iB:gP E (bd,if e.kind=7 then cE e.binds st.2 else st.2):=by
     by_cases h7:e.kind=7
     ·rw [if_pos h7];exact hs.cE h1 (fun _ h=>h)
     ·rw [if_neg h7];exact nB
    have k1:=KO _ (fun b _=>zv hE hb b.value) _ _ iB h2;have dU:∀ x,aI (if e.kind=7 then cE e.binds st.2 else st.2) x=(if e.kind=7 then j' e.binds Γ else Γ) x:=fun x=>by
     by_cases h7:e.kind=7
     ·rw [if_pos h7,if_pos h7,uc,R0 hg]
     ·rw [if_neg h7,if_neg h7,hg]
    refine ⟨x,ha,R8 hE hb _ iB dU h2,_,y2,?_,fun z=>?_,h4,rfl⟩
    ·refine ⟨k1.ok.dM.cE _ (fun b hb=>(b1 b hb).2),E7 _ k1.ok.uq,fun x hx=>?_⟩;obtain ⟨c1,c2⟩:=b2 x (k1.more x hx);show aI (cE e.binds bX.2) x=none;rw [uc,vA _ _ _ c2,k1.same];show aI (if e.kind=7 then cE e.binds st.2 else st.2) x=none;by_cases h7:e.kind=7
     ·rw [if_pos h7,uc,vA _ _ _ c2];exact hs.gx x c1
     ·rw [if_neg h7];exact hs.gx x c1
    ·show aI (cE e.binds bX.2) z=_;rw [uc];have e1:aI bX.2=if e.kind=7 then j' e.binds Γ else Γ:=funext fun x=>by rw [k1.same];exact dU x
     rw [e1];by_cases h7:e.kind=7
     ·rw [if_pos h7];exact aeh _ _ _
     ·rw [if_neg h7]
def zy (E:Env) (Γ:Gm) (of T:Ty) (a:Al):Prop:=
 (a.kind=3∧dS E Γ a.body T)∨(a.kind=2∧of.kind=1∧dS E Γ a.body T) ∨
 (a.kind=1∧of.kind=4∧∃ x,aI E.cons a.bg=some x∧x.1.name=of.name∧(de x.1 x.2).length=a.vars.length∧(∀ f∈de x.1 x.2,(eL x.1.params of.args f).2≥0)∧dS E (od x.1.params of.args a.vars (de x.1 x.2) Γ) a.body T)
omit hE hb in
theorem R9 {ps:List ByteArray} {bs:List Ty}:∀ (vs:List ByteArray) (fs:List Ty) (lc gy:Loc),fs.length=vs.length→gX ps bs vs fs lc = .ok gy→∀ f∈fs,(eL ps bs f).2≥0
 | s::l,f::fs,lc,gy,hl,h=>by
  rw [gX] at h
  split at h
  ·rename_i h1;intro g hg;rcases List.mem_cons.1 hg with rfl | hg
   ·exact h1
   ·exact R9 l fs _ _ (by simpa using hl) h g hg
  ·cases h
 | [],[],lc,gy,_,h=>fun f hf=>by cases hf
 | [],_::_,_,_,hl,_=>by simp at hl
 | _::_,[],_,_,hl,_=>by simp at hl
omit hE hb in
theorem aen {all:List Al} {i:Nat} {of:Ty} {a:Al} (ha:all[i]? = some a) (h:ly all i of=true):(a.kind=1∧of.kind=4)∨(a.kind=2∧of.kind=1)∨a.kind=3:=by
 unfold ly at h;rw [ha] at h;simp only at h
 split at h
 ·rename_i h1
  split at h
  ·cases h
  ·rename_i h2;simp only [Bool.or_eq_true,not_or] at h2;exact .inl ⟨by simpa using h1,by simpa using h2.2⟩
 ·split at h
  ·rename_i h1
   split at h
   ·cases h
   ·rename_i h2;simp only [Bool.or_eq_true,not_or] at h2;exact .inr (.inl ⟨by simpa using h1,by simpa using h2.1.1.2⟩)
  ·split at h
   ·rename_i h1;exact .inr (.inr (by simpa using h1))
   ·cases h
theorem KV {all:List Al} {of:Ty} (eK:Good E of):∀ (l:List Al) (i:Nat),all.drop i=l→∀ (first:Ty) (st:St) (y:Ty×St),gP E st→(∀ x,aI st.2 x=Γ x)→fL E all of l i first st = .ok y →
   (i≠0→y.1=first)∧∀ a∈l,zy E Γ of y.1 a
 | [],i,_,first,st,y,hs,hg,h=>by rw [fL] at h;cases h;exact ⟨fun _=>rfl,fun a ha=>(by cases ha)⟩
 | a::l,i,hd,first,st,y,hs,hg,h=>by
  have hi:i < all.length:=by
   apply Classical.byContradiction;intro hn;rw [List.drop_eq_nil_of_le (by omega)] at hd;cases hd
  rw [List.drop_eq_getElem_cons hi] at hd
  injection hd with ha eO
  have uZ:all[i]? = some a:=by rw [List.getElem?_eq_getElem hi,ha]
  rw [Bm] at h
  split at h
  ·cases h
  ·rename_i mh;have mh:ly all i of=true:=by simpa using mh
   have rp:=aen uZ mh;have hk:a.kind=1→of.kind=4:=fun hk=>DL uZ mh hk
   split at h
   ·cases h
   ·rename_i y1 h1;have hc:zy E Γ of y1.1 a∧Kp E st y1.2:=by
     rcases RY hE eK hk hs h1 with ⟨hn,h2⟩ | ⟨jz,x,dA,y2,hx,iy,hlen,B6,B8,h2,bz,h3,uV⟩
     ·refine ⟨?_,zv hE hb a.body _ _ hs h2⟩;have c:dS E Γ a.body y1.1:=⟨st,y1,hs,hg,h2,rfl⟩;rcases rp with ⟨h,_⟩ | ⟨h,h'⟩ | h
      ·exact absurd h hn
      ·exact .inr (.inl ⟨h,h',c⟩)
      ·exact .inl ⟨h,c⟩
     ·refine ⟨.inr (.inr ⟨jz,hk jz,x,hx,iy,hlen,R9 _ _ _ _ hlen uV,dA,y2,B6,fun z=>?_,h2,bz⟩),h3 (zv hE hb a.body _ _ B6 h2)⟩;rw [B8,R0 hg]
    obtain ⟨hc,k1⟩:=hc;have cU:∀ x,aI y1.2.2 x=Γ x:=fun x=>(k1.same x).trans (hg x)
    split at h
    ·rename_i h0;obtain ⟨r1,r2⟩:=KV eK l (i+1) eO _ _ _ k1.ok cU h;have e:=r1 (by omega);refine ⟨fun hn=>absurd h0 hn,fun b xH=>?_⟩;rcases List.mem_cons.1 xH with rfl | xH
     ·rw [e];exact hc
     ·exact r2 b xH
    ·split at h
     ·rename_i nk;have nk:y1.1=first:=by simpa [fQ] using nk
      obtain ⟨r1,r2⟩:=KV eK l (i+1) eO _ _ _ k1.ok cU h;have e:=r1 (by omega);refine ⟨fun _=>e,fun b xH=>?_⟩;rcases List.mem_cons.1 xH with rfl | xH
      ·rw [e,← nk];exact hc
      ·exact r2 b xH
     ·cases h
theorem Sa (h:dS E Γ e T) (hk:e.kind=8):∃ x of,e.args=[x]∧dS E Γ x of∧(of.kind=1∨of.kind=4)∧∀ a∈e.alts,zy E Γ of T a:=by
 obtain ⟨st,y,hs,hg,rfl,F,_,hx⟩:=sw h rfl;obtain ⟨x,ha⟩:=zx (F.a1 (by omega));have n:∀ k:Int,k≠8→¬ e.kind=k:=fun k h1=>by omega
 simp only [n 1 (by decide),n 2 (by decide),n 3 (by decide),n 4 (by decide),n 12 (by decide),n 5 (by decide),n 9 (by decide),n 10 (by decide),n 6 (by decide),n 7 (by decide),n 11 (by decide),if_false,or_self] at hx;rw [ha] at hx
 split at hx
 ·cases hx
 ·rename_i y1 h1;obtain ⟨y2,h2,rfl⟩:=KS h1;have k1:=zv hE hb x _ _ hs h2
  split at hx
  ·cases hx
  ·rename_i eK;have eK:((y2.1).kind != 1&&(y2.1).kind != 4)=false:=by simpa using eK
   have eK:y2.1.kind=1∨y2.1.kind=4:=by
    simp only [Bool.and_eq_false_iff] at eK;rcases eK with h | h
    ·exact .inl (by simpa using h)
    ·exact .inr (by simpa using h)
   have hc:dS E Γ x y2.1:=⟨st,y2,hs,hg,h2,rfl⟩;exact ⟨x,y2.1,ha,hc,eK,(KV hE hb (KT hE hb hc) e.alts 0 rfl _ _ _ k1.ok (fun z=>(k1.same z).trans (hg z)) hx.symm).2⟩
end
end
section
open Go Go.W
abbrev Sb:=ByteArray→Ty
mutual
def Ty.sub (σ:Sb):Ty→Ty
 | .mk k n l=>if k=2 then σ n else .mk k n (Fa σ l)
def Fa (σ:Sb):List Ty→List Ty
 | []=>[]
 | t::l=>t.sub σ::Fa σ l
end
mutual
def Ty.gj (ps:List ByteArray):Ty→Bool
 | .mk k n l=>if k=2 then ps.any (fun s=>decide (s=n)) else Fb ps l
def Fb (ps:List ByteArray):List Ty→Bool
 | []=>true
 | t::l=>t.gj ps&&Fb ps l
end
theorem aeo (σ:Sb) (l:List Ty):Fa σ l=l.map (Ty.sub σ):=by
 induction l with
 | nil=>rfl
 | cons t l ih=>rw [Fa,ih,List.map_cons]
theorem aep (ps:List ByteArray) (l:List Ty):Fb ps l=l.all (Ty.gj ps):=by
 induction l with
 | nil=>rfl
 | cons t l ih=>rw [Fb,ih,List.all_cons]
theorem Ty.sub_eq (σ:Sb) (t:Ty):t.sub σ=if t.kind=2 then σ t.name else .mk t.kind t.name (t.args.map (Ty.sub σ)):=by
 cases t;rw [Ty.sub,aeo];try rfl
theorem Ty.xI (ps:List ByteArray) (t:Ty):t.gj ps=if t.kind=2 then ps.any (fun s=>decide (s=t.name)) else t.args.all (Ty.gj ps):=by
 cases t;rw [Ty.gj,aep];try rfl
theorem Sd {ps:List ByteArray} {t:Ty} (h:t.gj ps=true) (hk:t.kind≠2):∀ u∈t.args,u.gj ps=true:=by
 rw [t.xI,if_neg hk,List.all_eq_true] at h;exact h
theorem sub_sub (σ τ:Sb) (t:Ty):(t.sub σ).sub τ=t.sub (fun n=>(σ n).sub τ):=by
 induction t using Ty.ind with
 | h t ih=>
 rw [t.sub_eq σ,t.sub_eq (fun n=>(σ n).sub τ)];by_cases hk:t.kind=2
 ·rw [if_pos hk,if_pos hk]
 ·rw [if_neg hk,if_neg hk,Ty.sub_eq];show (if t.kind=2 then _ else _)=_;rw [if_neg hk];show Ty.mk t.kind t.name ((t.args.map (Ty.sub σ)).map (Ty.sub τ))=_;rw [List.map_map]
  congr 1
  exact List.map_congr_left (fun u hu=>ih u hu)
theorem sub_congr {ps:List ByteArray} {σ τ:Sb} (h:∀ n∈ps,σ n=τ n) (t:Ty):t.gj ps=true→t.sub σ=t.sub τ:=by
 induction t using Ty.ind with
 | h t ih=>
 intro hv;rw [t.sub_eq σ,t.sub_eq τ];by_cases hk:t.kind=2
 ·rw [t.xI,if_pos hk] at hv;rw [if_pos hk,if_pos hk];exact h _ (by simpa using hv)
 ·rw [if_neg hk,if_neg hk]
  congr 1
  exact List.map_congr_left (fun u hu=>ih u hu (Sd hv hk u hu))
theorem vD (σ:Sb) {t:Ty} (h:t.kind≠2):(t.sub σ).kind=t.kind∧(t.sub σ).name=t.name∧(t.sub σ).args=t.args.map (Ty.sub σ):=by
 rw [t.sub_eq,if_neg h];exact ⟨rfl,rfl,rfl⟩
def lk (ps:List ByteArray) (us:List Ty):Sb:=fun n=>us.getD ((jw ps n).getD us.length) default
theorem KW {ps:List ByteArray} {n:ByteArray} (h:n∈ps):∃ i,jw ps n=some i∧∃ hi:i < ps.length,ps[i]=n:=by
 cases hi:jw ps n with
 | none=>
  exfalso;rw [jw,List.findIdx?_eq_none_iff] at hi;have:=hi n h;rw [oH] at this;simp at this
 | some i=>
  rw [jw,List.findIdx?_eq_some_iff_getElem] at hi;obtain ⟨h1,h2,_⟩:=hi;rw [oH] at h2
  exact ⟨i, rfl, h1, by have : n = ps[i] := by simpa using h2
                        exact this.symm⟩
theorem aeq {ps:List ByteArray} {us:List Ty} (hle:ps.length≤us.length) (τ:Sb) {n:ByteArray} (h:n∈ps):(lk ps us n).sub τ=lk ps (us.map (Ty.sub τ)) n:=by
 obtain ⟨i,hi,aP,_⟩:=KW h;unfold lk;rw [hi];simp only [Option.getD_some,List.getD_eq_getElem?_getD,List.getElem?_map];rw [List.getElem?_eq_getElem (by omega)];rfl
theorem Se (ps:List ByteArray) (f:Sb) {n:ByteArray} (h:n∈ps):lk ps (ps.map f) n=f n:=by
 obtain ⟨i,hi,aP,he⟩:=KW h;unfold lk;rw [hi];simp only [Option.getD_some,List.getD_eq_getElem?_getD,List.getElem?_map];rw [List.getElem?_eq_getElem aP,Option.map_some,Option.getD_some,he]
section
variable {E:Env} {ps:List ByteArray} {bs:List Ty}
theorem Sh (hb:∀ b∈bs,Good E b) (hle:ps.length≤bs.length):∀ (l:List Ty),(∀ u∈l,u.wf E=true)→∀ left:Int,-501≤left→left≤500 → -501≤(eY ps bs l left).2∧(eY ps bs l left).2≤left
 | [],_,left,h1,h2=>by rw [eY];exact ⟨h1,Int.le_refl _⟩
 | u::l,hw,left,h1,h2=>by
  rw [eY]
  split
  ·exact ⟨h1,Int.le_refl _⟩
  ·obtain ⟨a1,a2,_⟩:=Jn hb hle u (hw u (by simp)) left (by omega) h2;obtain ⟨b1,b2⟩:=Sh hb hle l (fun v hv=>hw v (by simp [hv])) (dW ps bs u left).2 (by omega) (by omega);exact ⟨b1,by simp only;omega⟩
theorem aer (hb:∀ b∈bs,Good E b) (hle:ps.length≤bs.length) (t:Ty):t.wf E=true→t.gj ps=true→∀ left:Int,0≤left→left≤500→0≤(dW ps bs t left).2→(dW ps bs t left).1=t.sub (lk ps bs):=by
 induction t using Ty.ind with
 | h t ih=>
 intro hw hv left h1 h2 h3;have hww:=hw;rw [t.nS,Bool.and_eq_true,tx,List.all_eq_true] at hw;rw [t.sub_eq];by_cases hk:t.kind=2
 ·rw [if_pos hk];rw [t.xI,if_pos hk] at hv;obtain ⟨i,hi,aP,_⟩:=KW (show t.name∈ps by simpa using hv);rw [I8 (by simpa using hk) hi];show bs.getD i default=lk ps bs t.name;unfold lk;rw [hi];try rfl
 ·rw [if_neg hk];have zA:=Sd hv hk;rw [I9 (.inl (by simpa using hk))] at h3 ⊢;have e:Wr (left - 1)=left - 1:=dk (by omega) (by omega);rw [e] at h3 ⊢;have key:∀ (l:List Ty),(∀ u∈l,u∈t.args)→∀ left:Int,-501≤left→left≤500→0≤(eY ps bs l left).2→(eY ps bs l left).1=l.map (Ty.sub (lk ps bs)):=by
   intro l
   induction l with
   | nil=>intro _ left _ _ _;rw [eY];try rfl
   | cons u l oC=>
    intro hm left h1 h2 h3;rw [eY] at h3 ⊢
    split at h3
    ·simp only at h3;omega
    ·rename_i hn;rw [if_neg hn];obtain ⟨a1,a2,a3⟩:=Jn hb hle u (hw.2 u (hm u (by simp))) left (by omega) h2;obtain ⟨b1,b2⟩:=Sh hb hle l (fun v hv=>hw.2 v (hm v (by simp [hv]))) (dW ps bs u left).2 (by omega) (by omega);simp only at h3 ⊢;rw [List.map_cons,oC (fun v hv=>hm v (by simp [hv])) _ (by omega) (by omega) h3,ih u (hm u (by simp)) (hw.2 u (hm u (by simp))) (zA u (hm u (by simp))) left (by omega) h2 (by omega)]
  show Ty.mk _ _ (eY ps bs t.args (left - 1)).1=_;rw [key t.args (fun _ h=>h) (left - 1) (by omega) (by omega) h3]
theorem Si (hb:∀ b∈bs,Good E b) (hle:ps.length≤bs.length) {t:Ty} (hw:t.wf E=true) (hv:t.gj ps=true) (h:(eL ps bs t).2≥0):(eL ps bs t).1=t.sub (lk ps bs):=
 aer hb hle t hw hv 500 (by omega) (by omega) h
theorem Sj {t T:Ty} {ts:List Ty} (hw:t.wf E=true) (hv:t.gj ps=true) (h:ik E t ps ts = .ok T):T=t.sub (lk ps ts)∧ps.length=ts.length:=by
 unfold ik at h
 split at h
 ·cases h
 ·rename_i bw
  split at h
  ·cases h
  ·rename_i dh
   split at h
   ·rename_i iB;cases h;have hl:(ps.length:Int)=ts.length:=by simpa using bw
    have ha:ts.all (fg E)=true:=by simpa using dh
    rw [List.all_eq_true] at ha;exact ⟨Si (fun b hb=>xf (ha b hb)) (by omega) hw hv iB,by omega⟩
   ·cases h
theorem Sk {E:Env} (h:∀ n,has E.params n=true→n∈ps) (t:Ty):t.fits E=true→t.gj ps=true:=by
 induction t using Ty.ind with
 | h t ih=>
 intro hf;rw [t.Ji] at hf;rw [t.xI];by_cases hk:t.kind=2
 ·rw [if_pos hk];rw [if_pos (by simpa using hk)] at hf
  simpa using h _ hf
 ·rw [if_neg hk];rw [if_neg (by simpa using hk)] at hf;have:po E t.args=true:=by
   split at hf
   ·split at hf
    ·cases hf
    ·exact hf
   ·exact hf
  rw [Jj,List.all_eq_true] at this;rw [List.all_eq_true];exact fun u hu=>ih u hu (this u hu)
end
theorem Sl:∀ (ps:List ByteArray) (m:bI) (n:ByteArray),has (se ps m) n=true→n∈ps∨has m n=true
 | [],m,n,h=>.inr h
 | s::l,m,n,h=>by
  rw [se] at h;rcases Sl l _ n h with h | h
  ·exact .inl (by simp [h])
  ·rw [pN] at h;simp only [Bool.or_eq_true,decide_eq_true_eq] at h;rcases h with h | h
   ·exact .inl (by simp [h])
   ·exact .inr h
theorem Sn:∀ (ps:List ByteArray) (m:bI) (n:ByteArray),has (j7 ps m) n=true→n∈ps∨has m n=true
 | [],m,n,h=>.inr h
 | s::l,m,n,h=>by
  rw [j7] at h;rcases Sn l _ n h with h | h
  ·exact .inl (by simp [h])
  ·rw [pN] at h;simp only [Bool.or_eq_true,decide_eq_true_eq] at h;rcases h with h | h
   ·exact .inl (by simp [h])
   ·exact .inr h
end
section
open Go Go.W
abbrev Sg:=Nat→Ty→Prop
abbrev Ts:=Ty→Prop
def ib (S:Sg) (v:cN) (Γ:Gm) (σ:Sb):Prop:=∀ x U,Γ x=some U→∃ c,vx v x=some c∧S c (U.sub σ)
def zB (Q:Env) (S:Sg) (e:Ex) (v:cN) (D:Ty) (ps:List ByteArray) (Γ:Gm) (σ:Sb) (T:Ty):Prop:=dS (dX Q ps) Γ e T∧T.sub σ=D∧ib S v Γ σ
def ic (Q:Env) (S:Sg) (e:Ex) (v:cN) (D:Ty):Prop:=∃ ps Γ σ T,zB Q S e v D ps Γ σ T
def zC (S:Sg) (σ:Sb) (cs:List Nat) (fs:List Ty):Prop:=fM (fun c F=>S c (F.sub σ)) cs fs
def VT (Q:Env) (S:Sg):Cl→Ts
 | .num _,D=>D.kind=1
 | .bg k cs,D=>∃ x us,aI Q.cons k=some x∧D=(nP x.1).sub (lk x.1.params us)∧zC S (lk x.1.params us) cs (de x.1 x.2)
 | .fr k l cs,D=>∃ x us,aI Q.cons k=some x∧0 < l∧(cs.length:Int)+l=(de x.1 x.2).length∧D=(((de x.1 x.2).drop cs.length).foldr jV (nP x.1)).sub (lk x.1.params us)∧zC S (lk x.1.params us) cs ((de x.1 x.2).take cs.length)
 | .gi e v,D=>e.kind=6∧ic Q S e v D
 | _,_=>False
def zE (Q:Env) (S:Sg) (P:Ts):Cl→Prop
 | .wait e v=>∀ D,P D→ic Q S e v D
 | .busy=>True
 | x=>∀ D,P D→VT Q S x D
structure iR (Q:Env) (S:Sg) (cells:List Cl):Prop where
 cell:∀ c x,cells[c]? = some x→zE Q S (S c) x
 full:∀ c,c < cells.length→∃ D,S c D
 vE:∀ c D,S c D→c < cells.length
structure o5 (Q:Env):Prop where
 dM:∀ ps,kD (dX Q ps)
 bool:∀ ps,dm (dX Q ps) iA 0=false
 an:∀ n d,aI Q.an n=some d→d.type.gj d.params=true
 cons:∀ k x,aI Q.cons k=some x→(∀ F∈de x.1 x.2,F.gj x.1.params=true)∧(de x.1 x.2).length≤8
 yes:aI Q.cons tS=some (jg,1)
 no:aI Q.cons tT=some (jg,0)
structure XT (Q:Env) (X:Cx) (S:Sg):Prop where
 an:∀ n d,aI Q.an n=some d→∃ c,aI X.an n=some c∧∀ us,S c (d.type.sub (lk d.params us))
 fields:∀ k x,aI Q.cons k=some x→(aI X.fields k).getD 0=(de x.1 x.2).length
def zF (Q:Env) (S:Sg) (P R:Ts):Fm→Prop
 | .gd c=>(∃ D,S c D)∧(∀ D,S c D→P D)∧∀ D,R D→P D
 | .app e v=>∃ f y,e.args=[f,y]∧∀ D,R D→∃ F A,P F∧F.kind=3∧F.args=[A,D]∧ic Q S y v A
 | .nf e v=>∀ D,R D→∃ ps Γ σ T of,T.sub σ=D∧P (of.sub σ)∧(of.kind=1∨of.kind=4)∧Good (dX Q ps) of∧(∀ a∈e.alts,zy (dX Q ps) Γ of T a)∧ib S v Γ σ
 | .fst e v=>∃ a y,e.args=[a,y]∧∀ D,R D→fJ e.name=some D∧∃ A,A.kind=1∧ic Q S y v A
 | .snd e n=>∀ D,R D→fJ e.name=some D
 | .seq e v=>∃ a y,e.args=[a,y]∧∀ D,R D→ic Q S y v D
 | .nh e v=>∃ b y,e.binds=[b]∧e.args=[y]∧∀ D,R D→∃ ps Γ σ T,T.sub σ=D∧P (b.type.sub σ)∧dS (dX Q ps) (pO Γ b.name b.type) y T∧ib S v Γ σ
def np (Q:Env) (S:Sg) (Z:Ts):List Fm→Ts→Prop
 | [],P=>∀ D,Z D→P D
 | f::fs,P=>∃ R,(∃ D,R D)∧zF Q S P R f∧np Q S Z fs R
def Fc (Q:Env) (S:Sg) (P:Ts):Md→Prop
 | .go e v=>∀ D,P D→ic Q S e v D
 | .val x=>x.iC=true∧∀ D,P D→VT Q S x D
def Ext (S S':Sg) (n:Nat):Prop:=(∀ c D,S c D→S' c D)∧∀ c D,c < n→S' c D→S c D
def pP (Q:Env) (X:Cx) (Z:Ts) (r:R3):Prop:=match r with
 | (none,m)=>m.kind=3∧1≤m.stuck∧m.stuck≤4
 | (some md,m)=>∃ S P,iR Q S m.cells∧XT Q X S∧(∃ D,P D)∧Fc Q S P md∧np Q S Z m.a7.reverse P
section
variable {Q:Env} {S S':Sg}
theorem ib.mono {v:cN} {Γ:Gm} {σ:Sb} (h:ib S v Γ σ) (hs:∀ c D,S c D→S' c D):ib S' v Γ σ:=fun x U hx=>by
 obtain ⟨c,h1,h2⟩:=h x U hx;exact ⟨c,h1,hs _ _ h2⟩
theorem zB.mono {e:Ex} {v:cN} {D:Ty} {ps:List ByteArray} {Γ:Gm} {σ:Sb} {T:Ty} (h:zB Q S e v D ps Γ σ T) (hs:∀ c D,S c D→S' c D):zB Q S' e v D ps Γ σ T:=⟨h.1,h.2.1,h.2.2.mono hs⟩
theorem ic.mono {e:Ex} {v:cN} {D:Ty} (h:ic Q S e v D) (hs:∀ c D,S c D→S' c D):ic Q S' e v D:=by
 obtain ⟨ps,Γ,σ,T,h⟩:=h;exact ⟨ps,Γ,σ,T,h.mono hs⟩
theorem KX {α β:Type} {P P':α→β→Prop} (BU:∀ a b,P a b→P' a b):∀ {l:List α} {m:List β},fM P l m→fM P' l m
 | [],[],_=>trivial
 | a::l,b::m,h=>⟨BU _ _ h.1,KX BU h.2⟩
 | [],_::_,h=>h.elim
 | _::_,[],h=>h.elim
theorem zC.mono {σ:Sb} {cs:List Nat} {fs:List Ty} (h:zC S σ cs fs) (hs:∀ c D,S c D→S' c D):zC S' σ cs fs:=KX (fun _ _ h=>hs _ _ h) h
theorem VT.mono {x:Cl} {D:Ty} (h:VT Q S x D) (hs:∀ c D,S c D→S' c D):VT Q S' x D:=by
 cases x with
 | num n=>exact h
 | bg k cs=>obtain ⟨x,us,h1,h2,h3⟩:=h;exact ⟨x,us,h1,h2,h3.mono hs⟩
 | fr k l cs=>obtain ⟨x,us,h1,h0,h2,h3,h4⟩:=h;exact ⟨x,us,h1,h0,h2,h3,h4.mono hs⟩
 | gi e v=>exact ⟨h.1,h.2.mono hs⟩
 | wait e v=>exact h
 | busy=>exact h
 | emp=>exact h
theorem zE.mono {x:Cl} {P P':Ts} (h:zE Q S P x) (hs:∀ c D,S c D→S' c D) (hp:∀ D,P' D→P D):zE Q S' P' x:=by
 cases x with
 | num n=>exact fun D hD=>VT.mono (h D (hp D hD)) hs
 | bg k cs=>exact fun D hD=>VT.mono (h D (hp D hD)) hs
 | fr k l cs=>exact fun D hD=>VT.mono (h D (hp D hD)) hs
 | gi e v=>exact fun D hD=>VT.mono (h D (hp D hD)) hs
 | wait e v=>exact fun D hD=>ic.mono (h D (hp D hD)) hs
 | busy=>trivial
 | emp=>exact fun D hD=>VT.mono (h D (hp D hD)) hs
theorem XT.mono {X:Cx} (h:XT Q X S) (hs:∀ c D,S c D→S' c D):XT Q X S':=⟨fun n d hd=>by
 obtain ⟨c,h1,h2⟩:=h.an n d hd;exact ⟨c,h1,fun us=>hs _ _ (h2 us)⟩,h.fields⟩
theorem zF.mono {P R:Ts} {f:Fm} {n:Nat} (h:zF Q S P R f) (hs:Ext S S' n) (hd:∀ c D,S c D→c < n):zF Q S' P R f:=by
 cases f with
 | gd c=>
  obtain ⟨⟨D,h1⟩,h2,h3⟩:=h;exact ⟨⟨D,hs.1 _ _ h1⟩,fun D' hD=>h2 _ (hs.2 c D' (hd _ _ h1) hD),h3⟩
 | app e v=>
  obtain ⟨f,y,ha,h⟩:=h;refine ⟨f,y,ha,fun D hD=>?_⟩;obtain ⟨F,A,h1,h2,h3,h4⟩:=h D hD;exact ⟨F,A,h1,h2,h3,h4.mono hs.1⟩
 | nf e v=>
  intro D hD;obtain ⟨ps,Γ,σ,T,of,h1,h2,h3,h4,h5,h6⟩:=h D hD;exact ⟨ps,Γ,σ,T,of,h1,h2,h3,h4,h5,h6.mono hs.1⟩
 | fst e v=>
  obtain ⟨a,y,ha,h⟩:=h;refine ⟨a,y,ha,fun D hD=>?_⟩;obtain ⟨h1,A,h2,h3⟩:=h D hD;exact ⟨h1,A,h2,h3.mono hs.1⟩
 | snd e n=>exact h
 | seq e v=>
  obtain ⟨a,y,ha,h⟩:=h;exact ⟨a,y,ha,fun D hD=>(h D hD).mono hs.1⟩
 | nh e v=>
  obtain ⟨b,y,hb,ha,h⟩:=h;refine ⟨b,y,hb,ha,fun D hD=>?_⟩;obtain ⟨ps,Γ,σ,T,h1,h2,h3,h4⟩:=h D hD;exact ⟨ps,Γ,σ,T,h1,h2,h3,h4.mono hs.1⟩
theorem np.mono {Z:Ts} {n:Nat} (hs:Ext S S' n) (hd:∀ c D,S c D→c < n):∀ {l:List Fm} {P:Ts},np Q S Z l P→np Q S' Z l P
 | [],P,h=>h
 | f::fs,P,h=>by
  obtain ⟨R,h0,h1,h2⟩:=h;exact ⟨R,h0,h1.mono hs hd,np.mono hs hd h2⟩
theorem ib.put {v:cN} {Γ:Gm} {σ:Sb} (h:ib S v Γ σ) {n:ByteArray} {t:Ty} {c:Nat} (hc:S c (t.sub σ)):ib S ((n,c)::v) (pO Γ n t) σ:=fun x U hx=>by
 unfold pO at hx;unfold vx;rw [nY];by_cases e:n=x
 ·rw [if_pos e] at hx;rw [if_pos e];cases hx;exact ⟨c,rfl,hc⟩
 ·rw [if_neg e] at hx;rw [if_neg e];exact h x U hx
theorem ib.let:∀ (l:List Bd) {v:cN} {Γ:Gm} {σ:Sb} (i:Nat),ib S v Γ σ→(∀ j b,l[j]? = some b→S (i+j) (b.type.sub σ))→ib S (jI l i v) (j' l Γ) σ
 | [],v,Γ,σ,i,h,_=>h
 | b::l,v,Γ,σ,i,h,hc=>by
  rw [jI,j']
  exact ib.let l (i+1) (h.put (hc 0 b rfl)) (fun j b hb=>by
   have:=hc (j+1) b (by simpa using hb)
   rwa [show i+1+j=i+(j+1) by omega])
theorem ib.vars {ps:List ByteArray} {bs:List Ty}:∀ (l:List ByteArray) (cs:List Nat) (fs:List Ty) {v:cN} {Γ:Gm} {σ:Sb},ib S v Γ σ→l.length=cs.length→fM (fun c F=>S c ((eL ps bs F).1.sub σ)) cs fs→∃ v',jJ l cs v=some v'∧ib S v' (od ps bs l fs Γ) σ
 | [],cs,fs,v,Γ,σ,h,_,_=>⟨v,by rw [jJ],by rw [od];exact h;simp⟩
 | s::l,c::cs,f::fs,v,Γ,σ,h,hl,ha=>by
  rw [jJ,od];exact ib.vars l cs fs (h.put ha.1) (by simpa using hl) ha.2
 | _::_,[],_,v,Γ,σ,h,hl,_=>by simp at hl
 | _::_,_::_,[],v,Γ,σ,h,hl,ha=>ha.elim
theorem iR.put {cells:List Cl} (h:iR Q S cells) {c:Nat} {x:Cl} (hx:zE Q S (S c) x):iR Q S (cells.set c x):=by
 refine ⟨fun i y hy=>?_,fun i hi=>h.full i (by simpa using hi),fun i D hD=>by simpa using h.vE i D hD⟩;by_cases e:c=i
 ·subst e;by_cases aP:c < cells.length
  ·rw [List.getElem?_set_self aP] at hy;cases hy;exact hx
  ·rw [List.getElem?_eq_none (by simp;omega)] at hy;cases hy
 ·rw [List.getElem?_set_ne e] at hy;exact h.cell i y hy
def mE (S:Sg) (n:Nat) (N:Nat→Ts):Sg:=fun c D=>S c D∨(n≤c∧N (c - n) D)
theorem sx {n:Nat} {N:Nat→Ts}:Ext S (mE S n N) n:=⟨fun _ _ h=>.inl h,fun c D hc h=>by
 rcases h with h | h
 ·exact h
 ·omega⟩
theorem iR.app {cells news:List Cl} (h:iR Q S cells) {N:Nat→Ts} (hx:∀ i x,news[i]? = some x→zE Q (mE S cells.length N) (N i) x) (hs:∀ i,i < news.length→∃ D,N i D) (hd:∀ i D,N i D→i < news.length):iR Q (mE S cells.length N) (cells++news):=by
 refine ⟨fun c x hc=>?_,fun c hc=>?_,fun c D hD=>?_⟩
 ·rcases Nat.lt_or_ge c cells.length with aP | hge
  ·rw [List.getElem?_append_left aP] at hc;exact (h.cell c x hc).mono (fun _ _ h=>.inl h) (fun D hD=>sx.2 c D aP hD)
  ·rw [List.getElem?_append_right hge] at hc;refine (hx _ x hc).mono (fun _ _ h=>h) (fun D hD=>?_);rcases hD with hD | hD
   ·have:=h.vE _ _ hD;omega
   ·exact hD.2
 ·rcases Nat.lt_or_ge c cells.length with aP | hge
  ·obtain ⟨D,hD⟩:=h.full c aP;exact ⟨D,.inl hD⟩
  ·rw [List.length_append] at hc;obtain ⟨D,hD⟩:=hs (c - cells.length) (by omega);exact ⟨D,.inr ⟨hge,hD⟩⟩
 ·rw [List.length_append];rcases hD with hD | ⟨h1,h2⟩
  ·have:=h.vE _ _ hD;omega
  ·have:=hd _ _ h2;omega
end
end
section
open Go Go.W
section
variable {Q:Env} {S:Sg} {X:Cx} {Z:Ts}
theorem Fe {m:Rn} {c:Nat} {P:Ts} (bG:iR Q S m.cells) (hx:XT Q X S) (hP:∃ D,P D) (hc:∀ D,P D→S c D) (hf:np Q S Z m.a7.reverse P):pP Q X Z (ft m c):=by
 obtain ⟨D0,dC⟩:=hP;have aP:=bG.vE c D0 (hc D0 dC);have hg:=List.getElem?_eq_getElem aP;have xJ:=bG.cell c _ hg;unfold ft;rw [hg];generalize m.cells[c]=x at xJ ⊢;have val:(∀ D,S c D→VT Q S x D)→x.iC=true→pP Q X Z (some (.val x),m):=fun h hv=>⟨S,P,bG,hx,⟨D0,dC⟩,⟨hv,fun D hD=>h D (hc D hD)⟩,hf⟩
 cases x with
 | wait e v=>
  refine ⟨S,S c,bG.put (x:=.busy) trivial,hx,⟨D0,hc D0 dC⟩,xJ,?_⟩;show np Q S Z ((m.a7++[Fm.gd c]).reverse) (S c);rw [List.reverse_append];exact ⟨P,⟨D0,dC⟩,⟨⟨D0,hc D0 dC⟩,fun _ h=>h,hc⟩,hf⟩
 | num n=>exact val xJ rfl
 | bg n fs=>exact val xJ rfl
 | gi e v=>exact val xJ rfl
 | fr n l h=>exact val xJ rfl
 | busy=>exact ⟨rfl,show (1:Int)≤4 by decide,show (4:Int)≤4 by decide⟩
 | emp=>exact absurd (xJ D0 (hc D0 dC)) _root_.id
theorem KY {t:Ty} {ps:List ByteArray} {ts:List Ty} (σ:Sb) (hv:t.gj ps=true) (hl:ps.length≤ts.length):(t.sub (lk ps ts)).sub σ=t.sub (lk ps (ts.map (Ty.sub σ))):=by
 rw [sub_sub];exact sub_congr (fun n hn=>aeq hl σ hn) t hv
theorem So (σ:Sb) (a b:Ty):(jV a b).sub σ=jV (a.sub σ) (b.sub σ):=by rw [Ty.sub_eq];try rfl
theorem Sp {ps:List ByteArray} {b:Ty} (hb:b.gj ps=true):∀ (l:List Ty),(∀ F∈l,F.gj ps=true)→(l.foldr jV b).gj ps=true
 | [],_=>hb
 | F::l,h=>by
  have h1:=h F (by simp);have h2:=Sp hb l (fun G hG=>h G (by simp [hG]));rw [List.foldr_cons,Ty.xI];show ([F,l.foldr jV b].all (Ty.gj ps))=true;simp [h1,h2]
theorem aes (d:Dt):(nP d).gj d.params=true:=by
 rw [Ty.xI];show ((d.params.map xc).all (Ty.gj d.params))=true;rw [List.all_eq_true];intro u hu;obtain ⟨s,hs,rfl⟩:=List.mem_map.1 hu;rw [Ty.xI];show (d.params.any (fun x=>decide (x=s)))=true
 simpa using hs
theorem aet (hQ:o5 Q) {k:ByteArray} {x:Dt×Nat} (h:aI Q.cons k=some x):(qq x.1 x.2).gj x.1.params=true:=Sp (aes x.1) _ (hQ.cons k x h).1
theorem Sq {k:ByteArray} {x:Dt×Nat} {us:List Ty} {l:Int} {cs:List Nat} {D:Ty} (h:aI Q.cons k=some x) (h0:0≤l) (hl:(cs.length:Int)+l=(de x.1 x.2).length) (hD:D=(((de x.1 x.2).drop cs.length).foldr jV (nP x.1)).sub (lk x.1.params us))
   (hf:zC S (lk x.1.params us) cs ((de x.1 x.2).take cs.length)):VT Q S (lJ k l cs) D:=by
 unfold lJ;by_cases hz:l=0
 ·rw [if_pos hz];have e:cs.length=(de x.1 x.2).length:=by omega
  rw [e,List.drop_length] at hD;rw [e,List.take_length] at hf;exact ⟨x,us,h,hD,hf⟩
 ·rw [if_neg hz];exact ⟨x,us,h,by omega,hl,hD,hf⟩
theorem Ss (k:ByteArray) (l:Int) (cs:List Nat):(lJ k l cs).iC=true:=by
 unfold lJ;split<;>rfl
theorem KZ {α:Type} (l:List α) (a:α):(l++[a]).reverse=a::l.reverse:=by simp
theorem aeu (hQ:o5 Q) {e:Ex} {v:cN} {m:Rn} {P:Ts} (bG:iR Q S m.cells) (hx:XT Q X S) (hP:∃ D,P D) (he:∀ D,P D→ic Q S e v D) (hf:np Q S Z m.a7.reverse P):∃ r,lK X e v m=some r∧pP Q X Z r:=by
 obtain ⟨D0,dC⟩:=hP;obtain ⟨Dn,Su,Sv,T0,pQ,nB,Dd⟩:=he D0 dC;have F:=Bo (KR pQ);have push:∀ (fm:Fm) (P':Ts) (md:Md),(∃ D,P' D)→Fc Q S P' md→zF Q S P' P fm→pP Q X Z (some md,m.push fm):=fun fm P' md h1 h2 h3=>by
  refine ⟨S,P',bG,hx,h1,h2,?_⟩;show np Q S Z (m.a7++[fm]).reverse P';rw [KZ];exact ⟨P,⟨D0,dC⟩,h3,hf⟩
 unfold lK;by_cases hk:e.kind=1
 ·rw [if_pos hk];obtain ⟨c,Sw,_⟩:=Dd _ _ (R1 pQ hk);rw [Sw];refine ⟨_,rfl,Fe bG hx ⟨D0,dC⟩ (fun D hD=>?_) hf⟩;obtain ⟨ps,Γ,σ,T,h1,h2,h3⟩:=he D hD;obtain ⟨c',h4,h5⟩:=h3 _ _ (R1 h1 hk);rw [Sw] at h4;cases h4;rw [← h2];exact h5
 rw [if_neg hk];by_cases hk:e.kind=3
 ·rw [if_pos hk];obtain ⟨d,hd,_⟩:=R2 pQ hk;obtain ⟨c,lX,dh⟩:=hx.an _ _ hd;rw [lX];refine ⟨_,rfl,Fe bG hx ⟨D0,dC⟩ (fun D hD=>?_) hf⟩;obtain ⟨ps,Γ,σ,T,h1,h2,h3⟩:=he D hD;obtain ⟨d',eO,ja⟩:=R2 h1 hk;have e1:aI Q.an e.name=some d':=eO;have e2:aI Q.an e.name=some d:=hd;rw [e2] at e1;cases e1;have hv:=hQ.an _ _ e2;obtain ⟨e3,e4⟩:=Sj ((hQ.dM ps).an _ _ eO) hv ja;rw [← h2,e3,KY σ hv (by omega)];exact dh _
 rw [if_neg hk];by_cases hk:e.kind=2
 ·rw [if_pos hk];refine ⟨_,rfl,S,P,bG,hx,⟨D0,dC⟩,⟨rfl,fun D hD=>?_⟩,hf⟩;obtain ⟨ps,Γ,σ,T,h1,h2,h3⟩:=he D hD;rw [← h2,aej h1 hk];rw [Ty.sub_eq];try rfl
 rw [if_neg hk];by_cases hk:e.kind=4
 ·rw [if_pos hk];refine ⟨_,rfl,S,P,bG,hx,⟨D0,dC⟩,⟨Ss _ _ _,fun D hD=>?_⟩,hf⟩;obtain ⟨ps,Γ,σ,T,h1,h2,h3⟩:=he D hD;obtain ⟨x,eO,ja⟩:=aek h1 hk;have e1:aI Q.cons e.name=some x:=eO;have hv:=aet hQ e1;obtain ⟨e3,e4⟩:=Sj (Ps (hQ.dM ps) eO) hv ja;rw [hx.fields _ _ e1];refine Sq (us:=e.types.map (Ty.sub σ)) e1 (by omega) (by simp) ?_ trivial;rw [← h2,e3,KY σ hv (by omega)];rfl
 rw [if_neg hk];by_cases hk:e.kind=6
 ·rw [if_pos hk];exact ⟨_,rfl,S,P,bG,hx,⟨D0,dC⟩,⟨rfl,fun D hD=>⟨hk,he D hD⟩⟩,hf⟩
 rw [if_neg hk];by_cases hk:e.kind=12
 ·rw [if_pos hk];exact ⟨_,rfl,rfl,ael pQ hk⟩
 rw [if_neg hk];by_cases hk:e.kind=7
 ·rw [if_pos hk];obtain ⟨x,bM,_,_⟩:=E9 (hQ.dM _) (hQ.bool _) pQ (.inl hk);rw [bM]
  let N:Nat→Ts:=fun j D'=>∃ b D ps Γ σ T,e.binds[j]? = some b∧P D∧zB Q S e v D ps Γ σ T∧D'=b.type.sub σ
  have o6:Ext S (mE S m.cells.length N) m.cells.length:=sx;have ja:∀ {D ps Γ σ T},P D→zB Q S e v D ps Γ σ T→ib (mE S m.cells.length N) (jI e.binds m.cells.length v) (j' e.binds Γ) σ:=fun {D ps Γ σ T} hD hI=>
   ib.let _ _ (hI.2.2.mono o6.1) (fun j b hb=>.inr ⟨by omega,b,D,ps,Γ,σ,T,by rw [show m.cells.length+j - m.cells.length=j by omega];exact hb,hD,hI,rfl⟩)
  refine ⟨_,rfl,mE S m.cells.length N,P,bG.app (fun i y hy=>?_) (fun i hi=>?_) (fun i D hD=>?_),hx.mono o6.1,⟨D0,dC⟩,fun D hD=>?_,hf.mono o6 bG.vE⟩
  ·rw [List.getElem?_map] at hy;cases hb:e.binds[i]? with
   | none=>rw [hb] at hy;cases hy
   | some b=>
    rw [hb] at hy;cases hy;rintro D' ⟨b',D,ps,Γ,σ,T,h1,h2,h3,rfl⟩;rw [hb] at h1;cases h1;obtain ⟨x',_,K1,_⟩:=E9 (hQ.dM _) (hQ.bool _) h3.1 (.inl hk);have ko:=K1 b (List.mem_of_getElem? hb);rw [if_pos hk] at ko;exact ⟨ps,_,σ,b.type,ko,rfl,ja h2 h3⟩
  ·rw [List.length_map] at hi;exact ⟨_,e.binds[i],D0,Dn,Su,Sv,T0,List.getElem?_eq_getElem hi,dC,⟨pQ,nB,Dd⟩,rfl⟩
  ·obtain ⟨b,D',ps,Γ,σ,T,h1,_⟩:=hD;rw [List.length_map];exact (List.getElem?_eq_some_iff.1 h1).1
  ·obtain ⟨ps,Γ,σ,T,hI⟩:=he D hD;obtain ⟨x',B9,_,gm⟩:=E9 (hQ.dM _) (hQ.bool _) hI.1 (.inl hk);rw [bM] at B9;cases B9;exact ⟨ps,_,σ,T,gm,hI.2.1,ja hD hI⟩
 rw [if_neg hk];by_cases hk:e.kind=11
 ·rw [if_pos hk];obtain ⟨b,dD⟩:=zx (F.b1 (.inr hk));rw [dD];have Sx:∀ D,P D→∃ ps Γ σ T x,e.args=[x]∧T.sub σ=D∧dS (dX Q ps) Γ b.value b.type∧dS (dX Q ps) (pO Γ b.name b.type) x T∧ib S v Γ σ:=fun D hD=>by
   obtain ⟨ps,Γ,σ,T,h1,h2,h3⟩:=he D hD;obtain ⟨x,bM,hv,gm⟩:=E9 (hQ.dM _) (hQ.bool _) h1 (.inr hk);rw [dD] at hv gm;have ud:=hv b (by simp);rw [if_neg (by omega)] at ud;exact ⟨ps,Γ,σ,T,x,bM,h2,ud,gm,h3⟩
  obtain ⟨ps1,Γ1,σ1,T1,x,bM,i1,i2,i3,i4⟩:=Sx D0 dC;refine ⟨_,rfl,push _ (fun B=>∃ D ps Γ σ T,P D∧T.sub σ=D∧B=b.type.sub σ∧dS (dX Q ps) Γ b.value b.type∧dS (dX Q ps) (pO Γ b.name b.type) x T∧ib S v Γ σ) _ ⟨_,D0,ps1,Γ1,σ1,T1,dC,i1,rfl,i2,i3,i4⟩ ?_ ?_⟩
  ·rintro B ⟨D,ps,Γ,σ,T,_,h2,rfl,h3,_,h4⟩;exact ⟨ps,Γ,σ,_,h3,rfl,h4⟩
  ·refine ⟨b,x,dD,bM,fun D hD=>?_⟩;obtain ⟨ps,Γ,σ,T,x',ij,j1,j2,j3,j4⟩:=Sx D hD;rw [bM] at ij;cases ij;exact ⟨ps,Γ,σ,T,j1,⟨D,ps,Γ,σ,T,hD,j1,rfl,j2,j3,j4⟩,j3,j4⟩
 rw [if_neg hk];have hr:=F.uB;by_cases hk:e.kind=5
 ·obtain ⟨f,y,_,_,bM,_⟩:=R4 (hQ.dM _) (hQ.bool _) pQ hk;rw [bM];simp only;rw [if_pos hk];have Jy:∀ D,P D→∃ F A,F.kind=3∧F.args=[A,D]∧ic Q S f v F∧ic Q S y v A:=fun D hD=>by
   obtain ⟨ps,Γ,σ,T,h1,h2,h3⟩:=he D hD;obtain ⟨f',y',F',A',ij,c1,c2,c3,c4⟩:=R4 (hQ.dM _) (hQ.bool _) h1 hk;rw [bM] at ij;cases ij;obtain ⟨s1,s2,s3⟩:=vD σ (t:=F') (by omega);refine ⟨F'.sub σ,A'.sub σ,by rw [s1,c2],?_,⟨ps,Γ,σ,F',c1,rfl,h3⟩,⟨ps,Γ,σ,A',c4,rfl,h3⟩⟩;rw [s3,c3,← h2];try rfl
  refine ⟨_,rfl,push _ (fun F=>∃ D A,P D∧F.kind=3∧F.args=[A,D]∧ic Q S f v F∧ic Q S y v A) _ ?_ ?_ ?_⟩
  ·obtain ⟨F,A,a1,a2,a3,a4⟩:=Jy D0 dC;exact ⟨F,D0,A,dC,a1,a2,a3,a4⟩
  ·rintro F ⟨D,A,_,_,_,h,_⟩;exact h
  ·refine ⟨f,y,bM,fun D hD=>?_⟩;obtain ⟨F,A,a1,a2,a3,a4⟩:=Jy D hD;exact ⟨F,A,⟨D,A,hD,a1,a2,a3,a4⟩,a1,a2,a4⟩
 by_cases rS:e.kind=8
 ·obtain ⟨x,_,bM,_⟩:=Sa (hQ.dM _) (hQ.bool _) pQ rS;rw [bM];simp only;rw [if_neg hk,if_pos rS];have Sy:∀ D,P D→∃ ps Γ σ T of,T.sub σ=D∧ic Q S x v (of.sub σ)∧(of.kind=1∨of.kind=4)∧Good (dX Q ps) of∧(∀ a∈e.alts,zy (dX Q ps) Γ of T a)∧ib S v Γ σ:=fun D hD=>by
   obtain ⟨ps,Γ,σ,T,h1,h2,h3⟩:=he D hD;obtain ⟨x',of,ij,c1,c2,c3⟩:=Sa (hQ.dM _) (hQ.bool _) h1 rS;rw [bM] at ij;cases ij;exact ⟨ps,Γ,σ,T,of,h2,⟨ps,Γ,σ,of,c1,rfl,h3⟩,c2,KT (hQ.dM _) (hQ.bool _) c1,c3,h3⟩
  refine ⟨_,rfl,push _ (fun C=>ic Q S x v C) _ ?_ (fun C h=>h) (fun D hD=>?_)⟩
  ·obtain ⟨ps,Γ,σ,T,of,a1,a2,_⟩:=Sy D0 dC;exact ⟨_,a2⟩
  ·exact Sy D hD
 by_cases oW:e.kind=9
 ·obtain ⟨a,y,_,_,bM,_⟩:=R5 (hQ.dM _) (hQ.bool _) pQ oW;rw [bM];simp only;rw [if_neg hk,if_neg rS,if_pos oW];have ki:∀ D,P D→fJ e.name=some D∧(∃ A,A.kind=1∧ic Q S a v A)∧∃ A,A.kind=1∧ic Q S y v A:=fun D hD=>by
   obtain ⟨ps,Γ,σ,T,h1,h2,h3⟩:=he D hD;obtain ⟨a',y',A',B',ij,c1,c2,c3,c4,c5⟩:=R5 (hQ.dM _) (hQ.bool _) h1 oW;rw [bM] at ij;cases ij;have hT:T.sub σ=T:=by
    unfold fJ at c5
    split at c5
    ·cases c5;rw [Ty.sub_eq];try rfl
    ·split at c5
     ·cases c5;rw [Ty.sub_eq];try rfl
     ·cases c5
   refine ⟨by rw [c5,← h2,hT],⟨A'.sub σ,?_,ps,Γ,σ,A',c1,rfl,h3⟩,⟨B'.sub σ,?_,ps,Γ,σ,B',c2,rfl,h3⟩⟩
   ·rw [(vD σ (t:=A') (by omega)).1,c3]
   ·rw [(vD σ (t:=B') (by omega)).1,c4]
  refine ⟨_,rfl,push _ (fun A=>ic Q S a v A) _ ?_ (fun A h=>h) ⟨a,y,bM,fun D hD=>?_⟩⟩
  ·obtain ⟨_,⟨A,_,h⟩,_⟩:=ki D0 dC;exact ⟨A,h⟩
  ·obtain ⟨h1,_,h2⟩:=ki D hD;exact ⟨h1,h2⟩
 have pH:e.kind=10:=by omega
 obtain ⟨a,y,_,bM,_⟩:=R6 (hQ.dM _) (hQ.bool _) pQ pH;rw [bM];simp only;rw [if_neg hk,if_neg rS,if_neg oW,if_pos pH];have Sz:∀ D,P D→(∃ A,ic Q S a v A)∧ic Q S y v D:=fun D hD=>by
  obtain ⟨ps,Γ,σ,T,h1,h2,h3⟩:=he D hD;obtain ⟨a',y',A',ij,c1,c2⟩:=R6 (hQ.dM _) (hQ.bool _) h1 pH;rw [bM] at ij;cases ij;exact ⟨⟨_,ps,Γ,σ,A',c1,rfl,h3⟩,⟨ps,Γ,σ,T,c2,h2,h3⟩⟩
 refine ⟨_,rfl,push _ (fun A=>ic Q S a v A) _ (Sz D0 dC).1 (fun A h=>h) ⟨a,y,bM,fun D hD=>(Sz D hD).2⟩⟩
end
end
section
open Go Go.W
section
variable {Q:Env} {S:Sg} {X:Cx} {Z:Ts}
theorem SA {a b:Ty} {F A D:Ty} (h:F=jV a b) (ha:F.args=[A,D]):A=a∧D=b:=by
 subst h;have:[a,b]=[A,D]:=ha;cases this;exact ⟨rfl,rfl⟩
theorem aev (d:Dt) (σ:Sb):((nP d).sub σ).kind=4:=(vD σ (t:=nP d) (show (4:Int)≠2 by decide)).1
theorem SB {α β:Type} {P:α→β→Prop}:∀ {l:List α} {m:List β} {a:α} {b:β},fM P l m→P a b→fM P (l++[a]) (m++[b])
 | [],[],a,b,_,h=>⟨h,trivial⟩
 | x::l,y::m,a,b,h,hp=>⟨h.1,SB h.2 hp⟩
 | [],_::_,_,_,h,_=>h.elim
 | _::_,[],_,_,h,_=>h.elim
theorem SC (hQ:o5 Q) {x:Cl} {c:Nat} {m:Rn} {P R:Ts} (bG:iR Q S m.cells) (hx:XT Q X S) (hv:x.iC=true) (hP:∀ F,P F→VT Q S x F) (hR:∃ D,R D) (hf:∀ D,R D→∃ F A,P F∧F.kind=3∧F.args=[A,D]∧S c A)
   (fN:np Q S Z m.a7.reverse R):∃ r,j8 m x c=some r∧pP Q X Z r:=by
 obtain ⟨D0,dC⟩:=hR;obtain ⟨F0,A0,p0,k0,a0,s0⟩:=hf D0 dC;have v0:=hP F0 p0;cases x with
 | wait e v=>cases hv
 | busy=>cases hv
 | emp=>cases hv
 | num n=>
  exfalso;have v0:F0.kind=1:=v0;omega
 | bg k cs=>
  exfalso;obtain ⟨x,us,_,e,_⟩:=v0;rw [e,aev] at k0;omega
 | gi e v=>
  obtain ⟨hk,Dn,Su,Sv,T0,h1,h2,h3⟩:=v0;obtain ⟨b,y,t0,dD,bM,hT0,aiK⟩:=R7 h1 hk;unfold j8;simp only [dD,bM];refine ⟨_,rfl,S,R,bG,hx,⟨D0,dC⟩,fun D hD=>?_,fN⟩;obtain ⟨F,A,q1,q2,q3,q4⟩:=hf D hD;obtain ⟨_,ps,Γ,σ,T,i1,i2,i3⟩:=hP F q1;obtain ⟨b',y',t,SD,B9,hT,K1⟩:=R7 i1 hk;rw [dD] at SD;rw [bM] at B9;cases SD;cases B9;rw [hT,So] at i2;obtain ⟨e1,e2⟩:=SA i2.symm q3;exact ⟨ps,_,σ,t,K1,e2.symm,i3.put (by rw [← e1];exact q4)⟩
 | fr k l cs=>
  obtain ⟨x,us0,eX,yG,hl,hF0,aiL⟩:=v0;have hlen:=(hQ.cons k x eX).2;have e:Wr (l - 1)=l - 1:=dk (by omega) (by omega);unfold j8;simp only;rw [if_pos (by omega),e];refine ⟨_,rfl,S,R,bG,hx,⟨D0,dC⟩,⟨Ss _ _ _,fun D hD=>?_⟩,fN⟩;obtain ⟨F,A,q1,q2,q3,q4⟩:=hf D hD;obtain ⟨x',us,bZ,_,_,hF,rq⟩:=hP F q1;rw [eX] at bZ;cases bZ;have aP:cs.length < (de x.1 x.2).length:=by omega
  rw [List.drop_eq_getElem_cons aP,List.foldr_cons,So] at hF;obtain ⟨e1,e2⟩:=SA hF q3;refine Sq (us:=us) eX (by omega) (by simp;omega) ?_ ?_
  ·rw [e2];simp
  ·have:(de x.1 x.2).take (cs++[c]).length=(de x.1 x.2).take cs.length++[(de x.1 x.2)[cs.length]]:=by
    rw [List.length_append,List.length_cons,List.length_nil,List.take_succ_eq_append_getElem aP]
   rw [this];exact SB rq (by rw [← e1];exact q4)
theorem SE (hQ:o5 Q) {n:ByteArray} {a b:Int} {y:Cl} (h:nZ n a b=some y) {D:Ty} (hD:fJ n=some D):y.iC=true∧VT Q S y D:=by
 have yes:∀ t:Bool,VT Q S (.bg (if t then tS else tT) []) (.mk 4 iA []):=fun t=>by
  cases t
  ·exact ⟨(jg,0),[],hQ.no,by rw [Ty.sub_eq];try rfl,trivial⟩
  ·exact ⟨(jg,1),[],hQ.yes,by rw [Ty.sub_eq];try rfl,trivial⟩
 have bw:∀ {p q:ByteArray},aR n p=true→p≠q→aR n q=false:=fun {p q} h1 h2=>by
  rw [oH] at h1 ⊢;have:n=p:=by simpa using h1
  subst this
  simpa using h2
 unfold fJ tn rJ at hD;unfold nZ at h;by_cases h1:aR n ⟨#[43]⟩=true
 ·rw [if_pos h1] at h;cases h;rw [h1] at hD;cases hD;exact ⟨rfl,rfl⟩
 rw [if_neg h1] at h;by_cases h2:aR n ⟨#[45]⟩=true
 ·rw [if_pos h2] at h;cases h;rw [h2] at hD;simp at hD;subst hD;exact ⟨rfl,rfl⟩
 rw [if_neg h2] at h;by_cases h3:aR n ⟨#[42]⟩=true
 ·rw [if_pos h3] at h;cases h;rw [h3] at hD;simp at hD;subst hD;exact ⟨rfl,rfl⟩
 rw [if_neg h3] at h;by_cases h4:(aR n ⟨#[47]⟩||aR n ⟨#[37]⟩)=true
 ·rw [if_pos h4] at h;have uC:D = .mk 1 bD []:=by
   simp only [Bool.or_eq_true] at h4;rcases h4 with h4 | h4<;>(rw [h4] at hD;simp at hD;exact hD.symm)
  subst uC
  split at h
  ·cases h
  ·split at h
   ·cases h;exact ⟨rfl,rfl⟩
   ·cases h;exact ⟨rfl,rfl⟩
 rw [if_neg h4] at h;cases h;simp only [Bool.or_eq_true,not_or] at h4;have e1:(aR n ⟨#[43]⟩||aR n ⟨#[45]⟩||aR n ⟨#[42]⟩||aR n ⟨#[47]⟩||aR n ⟨#[37]⟩)=false:=by
  simp [h1,h2,h3,h4.1,h4.2]
 rw [e1] at hD;simp only [Bool.false_eq_true,if_false] at hD
 split at hD
 ·cases hD;exact ⟨rfl,yes _⟩
 ·cases hD
theorem SG (hQ:o5 Q) {m:Rn} {v:cN} {x:Cl} {P R:Ts} (bG:iR Q S m.cells) (hx:XT Q X S) (hP:∀ C,P C→VT Q S x C) (hR:∃ D,R D) (fN:np Q S Z m.a7.reverse R):∀ (l:List Al),
   (∀ D,R D→∃ ps Γ σ T of,T.sub σ=D∧P (of.sub σ)∧(of.kind=1∨of.kind=4)∧Good (dX Q ps) of∧(∀ a∈l,zy (dX Q ps) Γ of T a)∧ib S v Γ σ)→∃ r,eu m v x l=some r∧pP Q X Z r
 | [],_=>⟨(none,m.stop 2),by rw [eu],show (3:Int)=3∧(1:Int)≤2∧(2:Int)≤4 by decide⟩
 | a::l,h=>by
  obtain ⟨D0,dC⟩:=hR;rw [eu]
  have next:∃ r,eu m v x l=some r∧pP Q X Z r:=SG hQ bG hx hP ⟨D0,dC⟩ fN l (fun D hD=>by
   obtain ⟨ps,Γ,σ,T,of,h1,h2,h3,h4,h5,h6⟩:=h D hD
   exact ⟨ps,Γ,σ,T,of,h1,h2,h3,h4,fun b hb=>h5 b (by simp [hb]),h6⟩)
  by_cases hc:(a.kind == 3||(a.kind == 2&&(iQ x).isNone&&a.num == numOf x))=true
  ·rw [if_pos hc];refine ⟨_,rfl,S,R,bG,hx,⟨D0,dC⟩,fun D hD=>?_,fN⟩;obtain ⟨ps,Γ,σ,T,of,h1,h2,h3,h4,h5,h6⟩:=h D hD;have hk:a.kind=3∨a.kind=2:=by
    simp only [Bool.or_eq_true,Bool.and_eq_true,beq_iff_eq] at hc;rcases hc with hc | hc
    ·exact .inl hc
    ·exact .inr hc.1.1
   rcases h5 a (by simp) with ⟨_,hb⟩ | ⟨_,_,hb⟩ | ⟨jz,_⟩
   ·exact ⟨ps,Γ,σ,T,hb,h1,h6⟩
   ·exact ⟨ps,Γ,σ,T,hb,h1,h6⟩
   ·omega
  ·rw [if_neg hc];cases x with
   | bg k cs=>
    show ∃ r,(if (a.kind == 1&&aR a.bg k)=true then (jJ a.vars cs v).map (fun v'=>(some (Md.go a.body v'),m)) else eu m v (.bg k cs) l)=some r∧pP Q X Z r;by_cases hm:(a.kind == 1&&aR a.bg k)=true
    ·rw [if_pos hm];simp only [Bool.and_eq_true,beq_iff_eq] at hm;have iy:a.bg=k:=by
      have:=hm.2;rw [oH] at this
      simpa using this
     have dh:∀ D,R D→∃ ps Γ σ T v',T.sub σ=D∧jJ a.vars cs v=some v'∧ib S v' Γ σ∧dS (dX Q ps) Γ a.body T:=fun D hD=>by
      obtain ⟨ps,Γ,σ,T,of,h1,h2,h3,h4,h5,h6⟩:=h D hD;rcases h5 a (by simp) with ⟨hk,_⟩ | ⟨hk,_,_⟩ | ⟨_,eK,y,hy,hyn,hlen,uV,hb⟩
      ·omega
      ·omega
      ·obtain ⟨y',us,SH,hC,rq⟩:=hP _ h2;have SI:aI Q.cons a.bg=some y:=hy;rw [iy,SH] at SI;cases SI;have hl:=rq.at.1;have hGE:=hQ.dM ps;have hyy:aI (dX Q ps).cons a.bg=some y:=hy;obtain ⟨⟨d,yg,C0⟩,hw⟩:=hGE.cons _ _ hyy;have hbg:∀ b∈of.args,Good (dX Q ps) b:=fun b hb=>Bl h4 hb
       have hle:y.1.params.length≤of.args.length:=by
        have:=h4.1;rw [of.nS,eK,Bool.and_eq_true,Bool.and_eq_true] at this;have h4:dm (dX Q ps) of.name of.args.length=false:=by simpa using this.1.2
        unfold dm at h4;rw [← hyn,yg] at h4;have h5:(d.params.length:Int)=of.args.length:=by simpa using h4
        omega
       have bM:of.args.map (Ty.sub σ)=y.1.params.map (lk y.1.params us):=by
        have e1:=(vD σ (t:=of) (by omega)).2.2;have e2:=(vD (lk y.1.params us) (t:=nP y.1) (show (4:Int)≠2 by decide)).2.2;rw [hC,e2] at e1;rw [← e1];show (y.1.params.map xc).map (Ty.sub (lk y.1.params us))=_;rw [List.map_map];refine List.map_congr_left (fun s _=>?_);show Ty.sub _ (xc s)=_;rw [Ty.sub_eq];try rfl
       have hFd:∀ (cs:List Nat) (fs:List Ty),(∀ F∈fs,F∈de y.1 y.2)→fM (fun c F=>S c (F.sub (lk y.1.params us))) cs fs→fM (fun c F=>S c ((eL y.1.params of.args F).1.sub σ)) cs fs:=by
        intro cs
        induction cs with
        | nil => intro fs _ h; cases fs with
                 | nil=>trivial
                 | cons _ _=>exact h.elim
        | cons c cs ih=>
         intro fs hm h;cases fs with
         | nil=>exact h.elim
         | cons F fs=>
          refine ⟨?_,ih fs (fun G hG=>hm G (by simp [hG])) h.2⟩;have K2:=hm F (by simp);have K4:=(hQ.cons _ _ SH).1 F K2;show S c (Ty.sub σ (eL y.1.params of.args F).1);rw [Si hbg hle (hw F K2) K4 (uV F K2),KY σ K4 hle,bM];rw [sub_congr (σ:=lk y.1.params (y.1.params.map (lk y.1.params us))) (τ:=lk y.1.params us) (fun n hn=>Se _ _ hn) F K4];exact h.1
       obtain ⟨v',lY,ja⟩:=ib.vars (ps:=y.1.params) (bs:=of.args) a.vars cs (de y.1 y.2) h6 (by omega) (hFd _ _ (fun _ h=>h) rq);exact ⟨ps,_,σ,T,v',h1,lY,ja,hb⟩
     obtain ⟨_,_,_,_,v',_,lY,_⟩:=dh D0 dC;rw [lY];refine ⟨_,rfl,S,R,bG,hx,⟨D0,dC⟩,fun D hD=>?_,fN⟩;obtain ⟨ps,Γ,σ,T,v2,q1,q2,q3,q4⟩:=dh D hD;rw [lY] at q2;cases q2;exact ⟨ps,Γ,σ,T,q4,q1,q3⟩
    ·rw [if_neg hm];exact next
   | num n=>exact next
   | gi e v=>exact next
   | fr n l h=>exact next
   | wait e v=>exact next
   | busy=>exact next
   | emp=>exact next
theorem aew (hQ:o5 Q) {x:Cl} {f:Fm} {m:Rn} {P:Ts} (bG:iR Q S m.cells) (hx:XT Q X S) (hv:x.iC=true) (hP:∀ F,P F→VT Q S x F) (hf:np Q S Z (f::m.a7.reverse) P):∃ r,gO f x m=some r∧pP Q X Z r:=by
 obtain ⟨R,⟨D0,dC⟩,o7,fN⟩:=hf;have push:∀ (fm:Fm) (P':Ts) (md:Md),(∃ D,P' D)→Fc Q S P' md→zF Q S P' R fm→pP Q X Z (some md,m.push fm):=fun fm P' md h1 h2 h3=>by
  refine ⟨S,P',bG,hx,h1,h2,?_⟩;show np Q S Z (m.a7++[fm]).reverse P';rw [KZ];exact ⟨R,⟨D0,dC⟩,h3,fN⟩
 cases f with
 | gd c=>
  obtain ⟨h1,h2,h3⟩:=o7;refine ⟨_,rfl,S,R,bG.put (x:=x) ?_,hx,⟨D0,dC⟩,⟨hv,fun D hD=>hP D (h3 D hD)⟩,fN⟩;have:∀ D,S c D→VT Q S x D:=fun D hD=>hP D (h2 D hD)
  cases x with
  | wait e v=>cases hv
  | busy=>cases hv
  | emp=>cases hv
  | num n=>exact this
  | bg k cs=>exact this
  | gi e v=>exact this
  | fr k l cs=>exact this
 | app e v=>
  obtain ⟨g,y,bM,h⟩:=o7;unfold gO;simp only [bM]
  let N:Nat→Ts:=fun j A=>j=0∧∃ D F,R D∧P F∧F.kind=3∧F.args=[A,D]∧ic Q S y v A
  have o6:Ext S (mE S m.cells.length N) m.cells.length:=sx;refine SC hQ (m:=m.new (.wait y v)) (S:=mE S m.cells.length N) (P:=P) (R:=R) ?_ (hx.mono o6.1) hv (fun F hF=>(hP F hF).mono o6.1) ⟨D0,dC⟩ (fun D hD=>?_) (fN.mono o6 bG.vE)
  ·refine bG.app (fun i z hz=>?_) (fun i hi=>?_) (fun i D hD=>?_)
   ·match i,hz with
    | 0,hz=>
     cases hz;rintro A ⟨_,D,F,_,_,_,_,h⟩;exact h.mono o6.1
    | i+1,hz=>simp at hz
   ·obtain ⟨F,A,q1,q2,q3,q4⟩:=h D0 dC;have:i=0:=by simpa using hi
    exact ⟨A,this,D0,F,dC,q1,q2,q3,q4⟩
   ·rw [hD.1];simp
  ·obtain ⟨F,A,q1,q2,q3,q4⟩:=h D hD;exact ⟨F,A,q1,q2,q3,.inr ⟨Nat.le_refl _,by omega,D,F,hD,q1,q2,q3,q4⟩⟩
 | nf e v=>exact SG hQ bG hx hP ⟨D0,dC⟩ fN e.alts o7
 | fst e v=>
  obtain ⟨a,y,bM,h⟩:=o7;unfold gO;simp only [bM];refine ⟨_,rfl,push _ (fun A=>ic Q S y v A) _ ?_ (fun A h=>h) (fun D hD=>(h D hD).1)⟩;obtain ⟨_,A,_,hA⟩:=h D0 dC;exact ⟨A,hA⟩
 | snd e n=>
  unfold gO;simp only;cases ho:nZ e.name n (numOf x) with
  | none=>exact ⟨_,rfl,rfl,show (1:Int)≤3 by decide,show (3:Int)≤4 by decide⟩
  | some y=>
   have h0:=SE (S:=S) hQ ho (o7 D0 dC);exact ⟨_,rfl,S,R,bG,hx,⟨D0,dC⟩,⟨h0.1,fun D hD=>(SE hQ ho (o7 D hD)).2⟩,fN⟩
 | seq e v=>
  obtain ⟨a,y,bM,h⟩:=o7;unfold gO;simp only [bM];exact ⟨_,rfl,S,R,bG,hx,⟨D0,dC⟩,h,fN⟩
 | nh e v=>
  obtain ⟨b,y,dD,bM,h⟩:=o7;unfold gO;simp only [dD,bM]
  let N:Nat→Ts:=fun j B=>j=0∧P B
  have o6:Ext S (mE S m.cells.length N) m.cells.length:=sx;refine ⟨_,rfl,mE S m.cells.length N,R,?_,hx.mono o6.1,⟨D0,dC⟩,fun D hD=>?_,fN.mono o6 bG.vE⟩
  ·refine bG.app (fun i z hz=>?_) (fun i hi=>?_) (fun i D hD=>?_)
   ·match i,hz with
    | 0,hz=>
     cases hz;have:∀ D,N 0 D→VT Q (mE S m.cells.length N) x D:=fun D hD=>(hP D hD.2).mono o6.1
     cases x with
     | wait e v=>cases hv
     | busy=>cases hv
     | emp=>cases hv
     | num n=>exact this
     | bg k cs=>exact this
     | gi e v=>exact this
     | fr k l cs=>exact this
    | i+1,hz=>simp at hz
   ·obtain ⟨ps,Γ,σ,T,q1,q2,q3,q4⟩:=h D0 dC;have:i=0:=by simpa using hi
    exact ⟨_,this,q2⟩
   ·rw [hD.1];simp
  ·obtain ⟨ps,Γ,σ,T,q1,q2,q3,q4⟩:=h D hD;exact ⟨ps,_,σ,T,q3,q1,(q4.mono o6.1).put (.inr ⟨Nat.le_refl _,by omega,q2⟩)⟩
end
end
section
open Go Go.W
structure vF (m:Rn) (r:R3):Prop where
 told:r.2.told=m.told
 steps:r.2.steps=m.steps
 fl:r.2.a7.length≤m.a7.length+1
 Ff:∀ x,r.1=some (.val x)→r.2.a7.length≤m.a7.length
 go:∀ md,r.1=some md→r.2.kind=m.kind∧r.2.stuck=m.stuck
 stop:r.1=none→r.2.kind=3
theorem qT {m:Rn} {md:Md}:vF m (some md,m):=⟨rfl,rfl,Nat.le_succ _,fun _ _=>Nat.le_refl _,fun _ _=>⟨rfl,rfl⟩,fun h=>by cases h⟩
theorem zG {m:Rn} {k:Int}:vF m (none,m.stop k):=⟨rfl,rfl,Nat.le_succ _,fun _ _=>Nat.le_refl _,fun _ h=>by (cases h),fun _=>rfl⟩
theorem zH {m:Rn} {e:Ex} {v:cN} {f:Fm}:vF m (some (.go e v),m.push f):=⟨rfl,rfl,by simp [Rn.push],fun _ h=>(by cases h),fun _ _=>⟨rfl,rfl⟩,fun h=>by cases h⟩
theorem zJ (m:Rn) (c:Nat):vF m (ft m c):=by
 unfold ft;cases m.cells[c]? with
 | none=>exact zG
 | some x=>cases x<;>first | exact qT | exact zG | exact ⟨rfl,rfl,by simp [Rn.push,Rn.put],fun _ h=>(by cases h),fun _ _=>⟨rfl,rfl⟩,fun h=>by cases h⟩
theorem Fg {X:Cx} {e:Ex} {v:cN} {m:Rn} {r:R3} (h:lK X e v m=some r):vF m r:=by
 unfold lK at h;by_cases k1:e.kind=1
 ·rw [if_pos k1] at h;obtain ⟨c,_,rfl⟩:=Option.map_eq_some_iff.1 h;exact zJ m c
 rw [if_neg k1] at h;by_cases k3:e.kind=3
 ·rw [if_pos k3] at h;obtain ⟨c,_,rfl⟩:=Option.map_eq_some_iff.1 h;exact zJ m c
 rw [if_neg k3] at h;by_cases k2:e.kind=2
 ·rw [if_pos k2] at h;cases h;exact qT
 rw [if_neg k2] at h;by_cases k4:e.kind=4
 ·rw [if_pos k4] at h;cases h;exact qT
 rw [if_neg k4] at h;by_cases k6:e.kind=6
 ·rw [if_pos k6] at h;cases h;exact qT
 rw [if_neg k6] at h;by_cases vG:e.kind=12
 ·rw [if_pos vG] at h;cases h;exact zG
 rw [if_neg vG] at h;by_cases k7:e.kind=7
 ·rw [if_pos k7] at h
  split at h
  ·cases h
  ·cases h;exact ⟨rfl,rfl,Nat.le_succ _,fun _ _=>Nat.le_refl _,fun _ _=>⟨rfl,rfl⟩,fun h=>by cases h⟩
 rw [if_neg k7] at h;by_cases vH:e.kind=11
 ·rw [if_pos vH] at h
  split at h
  ·cases h
  ·cases h;exact zH
 rw [if_neg vH] at h
 split at h
 ·cases h
 ·cases h;by_cases k5:e.kind=5
  ·rw [if_pos k5];exact zH
  by_cases k8:e.kind=8
  ·rw [if_neg k5,if_pos k8];exact zH
  by_cases k9:e.kind=9
  ·rw [if_neg k5,if_neg k8,if_pos k9];exact zH
  by_cases sy:e.kind=10
  ·rw [if_neg k5,if_neg k8,if_neg k9,if_pos sy];exact zH
  ·rw [if_neg k5,if_neg k8,if_neg k9,if_neg sy];exact qT
theorem Fh {m:Rn} {f:Cl} {c:Nat} {r:R3} (h:j8 m f c=some r):vF m r:=by
 unfold j8 at h
 split at h
 ·split at h
  ·cases h;exact qT
  ·cases h
 ·split at h
  ·cases h;exact qT
  ·cases h
 ·cases h;exact zG
theorem K5 {m:Rn} {v:cN} {x:Cl}:∀ (l:List Al) {r:R3},eu m v x l=some r→vF m r
 | [],r,h=>by rw [eu] at h;cases h;exact zG
 | a::l,r,h=>by
  rw [eu] at h
  split at h
  ·cases h;exact qT
  ·split at h
   ·split at h
    ·obtain ⟨c,_,rfl⟩:=Option.map_eq_some_iff.1 h;exact qT
    ·exact K5 l h
   ·exact K5 l h
theorem Fi {f:Fm} {x:Cl} {m:Rn} {r:R3} (h:gO f x m=some r):vF m r:=by
 unfold gO at h
 split at h
 ·cases h;exact ⟨rfl,rfl,Nat.le_succ _,fun _ _=>Nat.le_refl _,fun _ _=>⟨rfl,rfl⟩,fun h=>by cases h⟩
 ·split at h
  ·have k:=Fh h;exact ⟨k.told,k.steps,k.fl,k.Ff,k.go,k.stop⟩
  ·cases h
 ·exact K5 _ h
 ·split at h
  ·cases h;exact zH
  ·cases h
 ·split at h
  ·cases h;exact qT
  ·cases h;exact zG
 ·split at h
  ·cases h;exact qT
  ·cases h
 ·split at h
  ·cases h;exact ⟨rfl,rfl,Nat.le_succ _,fun _ _=>Nat.le_refl _,fun _ _=>⟨rfl,rfl⟩,fun h=>by cases h⟩
  ·cases h
theorem vI (X:Cx) (m:Rn):(m.steps=X.fuel∧fA X m=(false,{ m with kind:=4}))∨(m.steps≠X.fuel∧fA X m=(true,{ m with steps:=m.steps+1})):=by
 unfold fA
 split
 ·exact .inl ⟨by assumption,rfl⟩
 ·exact .inr ⟨by assumption,rfl⟩
structure xK (X:Cx) (m:Rn) (r:Option Cl×Rn):Prop where
 told:r.2.told=m.told
 steps:m.steps≤r.2.steps
 fuel:m.steps≤X.fuel→r.2.steps≤X.fuel
 val:∀ x,r.1=some x→r.2.kind=m.kind∧r.2.stuck=m.stuck∧r.2.a7=[]
 stop:r.1=none→(r.2.kind=4∧r.2.steps=X.fuel∧r.2.stuck=m.stuck)∨r.2.kind=3
theorem xK.from {X:Cx} {m m':Rn} {r:Option Cl×Rn} (h:xK X m' r) (h1:m'.told=m.told) (h2:m.steps≤m'.steps) (h3:m.steps≤X.fuel→m'.steps≤X.fuel) (h4:m'.kind=m.kind∧m'.stuck=m.stuck):xK X m r:=
 ⟨h.told.trans h1,Int.le_trans h2 h.steps,fun hh=>h.fuel (h3 hh),fun x hx=>by obtain ⟨a,b,c⟩:=h.val x hx;exact ⟨a.trans h4.1,b.trans h4.2,c⟩,fun hn=>by
  rcases h.stop hn with ⟨a,b,c⟩ | a
  ·exact .inl ⟨a,b,c.trans h4.2⟩
  ·exact .inr a⟩
theorem vJ {X:Cx}:∀ (n:Nat) {md:Md} {m:Rn} {r:Option Cl×Rn},dB X n md m=some r→xK X m r
 | 0,md,m,r,h=>by cases md<;>(rw [dB] at h;cases h)
 | n+1,.go e v,m,r,h=>by
  rw [dB] at h;rcases vI X m with ⟨h1,h2⟩ | ⟨h1,h2⟩
  ·rw [h2] at h;simp only [if_true] at h;cases h;exact ⟨rfl,Int.le_refl _,fun h=>h,fun x hx=>by (cases hx),fun _=>.inl ⟨rfl,h1,rfl⟩⟩
  ·rw [h2] at h;simp only [Bool.true_eq_false,if_false] at h
   split at h
   ·cases h
   ·rename_i m' hb;cases h;have k:=Fg hb;have ks:m'.steps=m.steps+1:=k.steps;exact ⟨k.told,by show m.steps≤m'.steps;omega,fun hh=>by show m'.steps≤_;omega,fun x hx=>by (cases hx),fun _=>.inr (k.stop rfl)⟩
   ·rename_i kN m' hb;have k:=Fg hb;have ks:m'.steps=m.steps+1:=k.steps;exact (vJ n h).from k.told (by omega) (fun hh=>by omega) (k.go _ rfl)
 | n+1,.val x,m,r,h=>by
  rw [dB] at h
  split at h
  ·rename_i hl;cases h;exact ⟨rfl,Int.le_refl _,fun h=>h,fun x hx=>⟨rfl,rfl,List.getLast?_eq_none_iff.1 hl⟩,fun hn=>by cases hn⟩
  ·split at h
   ·cases h
   ·rename_i m' hb;cases h;have k:=Fi hb;have ks:m'.steps=m.steps:=k.steps;exact ⟨k.told,by show m.steps≤m'.steps;omega,fun hh=>by show m'.steps≤_;omega,fun x hx=>by (cases hx),fun _=>.inr (k.stop rfl)⟩
   ·rename_i kN m' hb;have k:=Fi hb;have ks:m'.steps=m.steps:=k.steps;exact (vJ n h).from k.told (by omega) (fun hh=>by omega) (k.go _ rfl)
def xL (X:Cx):Md→Rn→Nat
 | .go _ _,m=>3*(X.fuel - m.steps).toNat+m.a7.length
 | .val _,m=>3*(X.fuel - m.steps).toNat+m.a7.length+1
def Ca (Q:Env) (X:Cx) (Z:Ts) (r:Option Cl×Rn):Prop:=match r with
 | (none,m)=>m.kind=4∨(m.kind=3∧1≤m.stuck∧m.stuck≤4)
 | (some x,m)=>∃ S,iR Q S m.cells∧XT Q X S∧x.iC=true∧∀ D,Z D→VT Q S x D
theorem Cb {Q:Env} {X:Cx} {Z:Ts} (hQ:o5 Q):∀ (n:Nat) {md:Md} {m:Rn} {S:Sg} {P:Ts},iR Q S m.cells→XT Q X S→(∃ D,P D)→Fc Q S P md→np Q S Z m.a7.reverse P→m.steps≤X.fuel→xL X md m < n→∃ r,dB X n md m=some r∧Ca Q X Z r
 | 0,md,m,S,P,_,_,_,_,_,_,hn=>by omega
 | n+1,.go e v,m,S,P,bG,hx,hP,mC,hf,hs,hn=>by
  rw [dB];rcases vI X m with ⟨h1,h2⟩ | ⟨h1,h2⟩
  ·rw [h2,if_pos rfl];exact ⟨_,rfl,.inl rfl⟩
  ·rw [h2,if_neg (by simp)];obtain ⟨r,hb,ho⟩:=aeu (Z:=Z) (m:={ m with steps:=m.steps+1}) hQ bG hx hP mC hf;have k:=Fg hb;simp only [hb]
   match r,ho,k with
   | (none,m'),ho,k=>exact ⟨_,rfl,.inr ho⟩
   | (some kN,m'),⟨S',P',a1,a2,a3,a4,a5⟩,k=>
    have ks:m'.steps=m.steps+1:=k.steps;have kf:m'.a7.length≤m.a7.length+1:=k.fl;refine Cb hQ n a1 a2 a3 a4 a5 (by omega) ?_;cases kN<;>(simp only [xL] at hn ⊢;omega)
 | n+1,.val x,m,S,P,bG,hx,hP,mC,hf,hs,hn=>by
  rw [dB];cases hl:m.a7.getLast? with
  | none=>
   have he:=List.getLast?_eq_none_iff.1 hl;rw [he] at hf;exact ⟨_,rfl,S,bG,hx,mC.1,fun D hD=>mC.2 D (hf D hD)⟩
  | some f=>
   have fN:m.a7.reverse=f::m.a7.dropLast.reverse:=by
    have h1:m.a7≠[]:=fun e=>by rw [e] at hl;cases hl
    have h2:m.a7.getLast h1=f:=by
     rw [List.getLast?_eq_some_getLast h1] at hl;exact Option.some.inj hl
    conv=>lhs;rw [← List.dropLast_concat_getLast h1]
    rw [KZ,h2]
   have hlen:m.a7.length=m.a7.dropLast.length+1:=by
    have:=congrArg List.length fN
    simpa using this
   rw [fN] at hf;obtain ⟨r,hb,ho⟩:=aew (Z:=Z) (m:={ m with a7:=m.a7.dropLast}) hQ bG hx mC.1 mC.2 hf;have k:=Fi hb;simp only [hb]
   match r,ho,k with
   | (none,m'),ho,k=>exact ⟨_,rfl,.inr ho⟩
   | (some kN,m'),⟨S',P',a1,a2,a3,a4,a5⟩,k=>
    have ks:m'.steps=m.steps:=k.steps;have kf:m'.a7.length≤m.a7.dropLast.length+1:=k.fl;have kv:∀ x,some kN=some (Md.val x)→m'.a7.length≤m.a7.dropLast.length:=k.Ff;refine Cb hQ n a1 a2 a3 a4 a5 (by omega) ?_;cases kN with
    | go e v=>simp only [xL] at hn ⊢;omega
    | val y=>have:=kv y rfl;simp only [xL] at hn ⊢;omega
end
section
open Go Go.W
theorem SJ (a:Option Addr) (c:Nat):(if c=0 then a else Option.map (fun x=>x) a)=a:=by
 split
 ·rfl
 ·cases a<;>rfl
theorem SK {w:World} {T sz n c:Nat} {a:Option Addr} {xs:List Value} {fp:Option Nat} (h:dE w T sz (.slice a n c) xs n fp) {k:Nat} (hk:k≤n):dE w T sz (.slice a k c) (xs.take (k*sz)) k fp:=by
 obtain ⟨h1,h2⟩:=h;refine ⟨by rw [List.length_take,h1];exact Nat.min_eq_left (Nat.mul_le_mul_right _ hk),?_⟩;rcases h2 with ⟨e,rfl,rfl⟩ | ⟨b,c',sp,e,rfl,h3,h4,h5⟩
 ·cases e;obtain rfl:k=0:=by omega
  exact .inl ⟨rfl,rfl,rfl⟩
 ·cases e;refine .inr ⟨b,c,xs.drop (k*sz)++sp,rfl,rfl,?_,?_,by omega⟩
  ·rw [← List.append_assoc,List.take_append_drop];exact h3
  ·rw [← List.append_assoc,List.take_append_drop];exact h4
def Fj (w:World) (B:Nat→Prop) (bs:List Nat) (v:Value):Option Cl→Prop
 | some x=>∃ u,v = .tuple #[u,.bool true]∧iu w B bs x u∧x.iC=true
 | none=>v = .tuple #[.nilIface,.bool false]
def vK (w w':World) (S:Nat→Prop) (r md mf:Nat) (bs:List Nat) (X:Cx) (v:Value) (x:Option Cl×Rn):Prop:=
 ∃ S' cM,cJ w' S' r md mf cM X x.2∧dI S S' w∧(∀ (c b:Nat),bs[c]? = some b→cM[c]? = some b)∧Fj w' (Out S' w') cM v x.1
theorem vK.pK {w w':World} {S:Nat→Prop} {r md mf:Nat} {bs:List Nat} {X:Cx} {v:Value} {x:Option Cl×Rn} (h:vK w w' S r md mf bs X v x):∃ a b,v = .tuple #[a,b]:=by
 obtain ⟨S',cM,_,_,_,h⟩:=h
 match x,h with
 | (some x,m),⟨u,e,_⟩=>exact ⟨_,_,e⟩
 | (none,m),e=>exact ⟨_,_,e⟩
theorem SL {w w' dT:World} {S S':Nat→Prop} {r md mf:Nat} {bs cM:List Nat} {X:Cx} {v:Value} {x:Option Cl×Rn} (hg:dI S S' w) (hb:∀ (c b:Nat),bs[c]? = some b→cM[c]? = some b) (hm:Mod S w w') (h:vK w' dT S' r md mf cM X v x∧Mod S' w' dT):vK w dT S r md mf bs X v x∧Mod S w dT:=by
 obtain ⟨⟨S2,o4,h1,h2,h3,h4⟩,h5⟩:=h;exact ⟨⟨S2,o4,h1,lO hg h2 hm.size,fun c b hc=>h3 c b (hb c b hc),h4⟩,kM hm hg h5⟩
theorem cJ.pop {w w':World} {S:Nat→Prop} {r md mf:Nat} {bs:List Nat} {X:Cx} {m:Rn} {vt:Value} {af:Option Addr} {cf:Nat} {db bO:List (List Value)} {cw cB:Option Nat} (h:hM w S r md mf bs X m vt (.slice af bO.length cf) db bO cw cB) (hm:Mod (· = r) w w')
   (hb:w'.heap[r]? = some (.cells (ET X m md mf vt (.slice af (bO.length - 1) cf)).toArray ES (0,0))):cJ w' S r md mf bs X { m with a7:=m.a7.dropLast}:=by
 obtain ⟨n1,n2,n3,n4,n5,n6,n7,n8,n9⟩:=h.ne;have Sr:∀ b,b=r→S b:=fun b hb=>by rw [hb];exact h.bt _ (by simp)
 have bC:=hm.aT Sr;have hlen:=h.a7.at.1;have hrow:∀ x∈bO,x.length=5:=fun x hx=>by
  obtain ⟨i,hi,rfl⟩:=List.getElem_of_mem hx;exact (h.a7.at.2 i _ _ (List.getElem?_eq_getElem hi) (List.getElem?_eq_getElem (by omega))).len
 have aex:∀ (l:List (List Value)) (k:Nat),(∀ x∈l,x.length=5)→(l.flatMap id).take (k*5)=(l.take k).flatMap id:=by
  intro l
  induction l with
  | nil=>intro k _;simp
  | cons x l ih=>
   intro k hx;cases k with
   | zero=>simp
   | succ k=>
    have SM:=hx x (by simp);rw [List.flatMap_cons,List.take_succ_cons,List.flatMap_cons,← ih k (fun y hy=>hx y (by simp [hy])),Nat.add_mul,Nat.one_mul];rw [List.take_append,show (id x).length=5 from SM,Nat.add_sub_cancel,List.take_of_length_le (by rw [show (id x).length=5 from SM];omega)]
 have SN:=SK (h.oY.mod hm (fun b hb e=>(n5 b hb).1 e.symm)) (k:=bO.length - 1) (by omega);rw [aex bO _ hrow] at SN;have fC:(bO.take (bO.length - 1)).length=bO.length - 1:=by rw [List.length_take];omega
 have Fk:m.a7.dropLast=m.a7.take (m.a7.length - 1):=List.dropLast_eq_take;have aey:fM (mA w' (Out S w') bs) (bO.take (bO.length - 1)) m.a7.dropLast:=by
  rw [Fk,← hlen];have key:∀ (l:List (List Value)) (fs:List Fm) (k:Nat),fM (mA w (Out S w) bs) l fs→fM (mA w' (Out S w') bs) (l.take k) (fs.take k):=by
   intro l
   induction l with
   | nil => intro fs k ha; cases fs with
            | nil=>simp;trivial
            | cons _ _=>exact ha.elim
   | cons x l ih=>
    intro fs k ha;cases fs with
    | nil=>exact ha.elim
    | cons f fs=>
     cases k with
     | zero=>trivial
     | succ k=>exact ⟨ha.1.up bC aM (aU bC) (fun _ _ h=>h),ih fs k ha.2⟩
  exact key _ _ _ h.a7
 refine ⟨vt,.slice af (bO.length - 1) cf,db,bO.take (bO.length - 1),cw,cB,hb,h.told.mod hm (fun b hb e=>(n4 b hb).1 e.symm),h.items,by rw [fC];exact SN,aey,h.blocks,h.bt,fun b hb=>Nat.lt_of_lt_of_le (h.lt b hb) hm.size,h.len,?_,
  h.an.mod hm (fun e=>n1 e.symm) (fun _ _ x=>x),h.fields.mod hm (fun e=>n2 e.symm) (fun _ _ x=>x),h.steps,fun p hp=>by
   obtain ⟨a1,a2,a3⟩:=h.kept p hp
   exact ⟨hm.at a1 (fun e=>a3 (by rw [e];simp)),a2,a3⟩⟩
 intro i b x hi hx;obtain ⟨v,h1,h2⟩:=h.cell i b x hi hx;exact ⟨v,hm.at h1 (fun e=>(n6 b (List.mem_of_getElem? hi)).1 e.symm),h2.up bC aM (aU bC) (fun _ _ h=>h)⟩
theorem K7 {n:Nat} {w:World} {S:Nat→Prop} {r md mf:Nat} {bs:List Nat} {X:Cx} {m:Rn} {e:Ex} {nm:cN} {ve vn:Value} {cm:Option Cl×Rn} (h:cJ w S r md mf bs X m) (he:my w (Out S w) ve e) (hn:gC w (Out S w) bs nm vn) (hlen:(m.a7.length:Int)≤m.steps+1) (aS:dB X n (.go e nm) m=some cm) :
   ba Tryz.prog 35 [ptr r,ve,vn] w fun v w'=>vK w w' S r md mf bs X v cm∧Mod S w w':=by
 refine XQ.calls rfl ?_;unfold Hv;(try simp only [go_sem,simprocAttr])
 refine fx (fun z ρ w'=>Mod S w w'∧∃ (S':Nat→Prop) (cM:List Nat) (m':Rn) (d:Md) (v1 v2 v8:Value),cJ w' S' r md mf cM X m'∧dI S S' w∧(∀ (c b:Nat),bs[c]? = some b→cM[c]? = some b)∧zp w' (Out S' w') cM (.tuple #[v1,v2,v8,.bool true]) (some d)∧(m'.a7.length:Int)≤m'.steps+1∧dB X z d m'=some cm ∧
  ρ.get 0=some (ptr r)∧ρ.get 1=some v1∧ρ.get 2=some v2∧ρ.get 8=some v8) n ⟨.refl _ _,S,bs,m,.go e nm,ve,vn,.nilIface,h,mD,fun _ _ h=>h,⟨ve,vn,rfl,he,hn⟩,hlen,aS,rfl,rfl,rfl,rfl⟩ ?_
 rintro z ρ w1 ⟨ak,S1,dY,m1,d,v1,v2,v8,fB,dU,lN,mC,nL,cX,g0,g1,g2,g8⟩;have aez:m1.steps≤1048576∧0≤m1.steps:=by
  obtain ⟨_,_,_,_,_,_,hh⟩:=fB;have:=hh.steps;omega
 unfold Og
 match z,d,mC,cX with
 | 0,.go _ _,_,cX=>rw [dB] at cX;cases cX
 | 0,.val _,_,cX=>rw [dB] at cX;cases cX
 | z+1,.go e nm,⟨ve,vn,ee,he,hn⟩,cX=>
  obtain ⟨rfl,rfl,rfl⟩:v1=ve∧v2=vn∧v8 = .nilIface:=by
   simp only [Value.tuple.injEq,Array.mk.injEq,List.cons.injEq] at ee;exact ⟨ee.1,ee.2.1,ee.2.2.1⟩
  have hp:∃ a,v1 = .pointer (some a):=by obtain ⟨a,_,rfl,_⟩:=he;exact ⟨a,rfl⟩
  obtain ⟨ap,rfl⟩:=hp;rw [dB] at cX;(try simp only [go_sem,simprocAttr,g0,g1,g2,g8]);refine aK (by rfl) ?_;refine (Rt fB).mono ?_;rintro _ w2 ⟨rfl,eM,ai⟩;have Sr:∀ y,y=r→S1 y:=fun y hy=>by obtain ⟨_,_,_,_,_,_,hx⟩:=fB;rw [hy];exact hx.bt _ (by simp)
  have qU:=ai.aT Sr;have aY:=kM ak dU qU;rcases vI X m1 with ⟨q1,q2⟩ | ⟨q1,q2⟩
  ·rw [q2,if_pos rfl] at cX;rw [q2] at eM ⊢;cases cX;(try simp only [go_sem,simprocAttr,aE,RV.ev,aF]);exact ⟨⟨S1,dY,eM,dU,lN,rfl⟩,aY⟩
  ·rw [q2,if_neg (by simp)] at cX;rw [q2] at eM ⊢;simp only at cX;have ur:=he.up qU aM (aU qU) (B':=Out S1 w2);have ql:=hn.up qU aM (aU qU) (fun _ _ h=>h);cases hb:lK X e nm { m1 with steps:=m1.steps+1} with
   | none=>rw [hb] at cX;cases cX
   | some rr=>
   rw [hb] at cX;have cF:=Fg hb;(try simp only [go_sem,simprocAttr]);refine aK (by rfl) ?_;refine (ad7 eM ur ql (show m1.a7.length≤2097152 by omega) hb).mono ?_;rintro v w3 ⟨⟨S3,xM,jK,pM,K9,ke⟩,ar⟩;have Cc:=lO dU pM aY.size;have bo:=kM aY dU ar;have Cd:∀ (c b:Nat),bs[c]? = some b→xM[c]? = some b:=fun c b h=>K9 c b (lN c b h)
   match rr,cX,ke,cF,jK with
   | (none,m'),cX,ke,cF,jK=>
    have ke:v=_:=ke;subst ke;cases cX;(try simp only [go_sem,simprocAttr,aE,RV.ev,aF]);exact ⟨⟨S3,xM,jK,Cc,Cd,rfl⟩,bo⟩
   | (some kN,m'),cX,ke,cF,jK=>
    obtain ⟨a,b,c,d,rfl⟩:=ke.pK;have hd:d = .bool true:=by
     match kN,ke with
     | .go _ _,⟨_,_,e1,_⟩=>cases e1;rfl
     | .val _,⟨_,e1,_⟩=>cases e1;rfl
    subst hd;have ks:m'.steps=m1.steps+1:=cF.steps;have kf:m'.a7.length≤m1.a7.length+1:=cF.fl;(try simp only [go_sem,simprocAttr]);exact ⟨_,Nat.lt_succ_self z,bo,S3,xM,m',kN,a,b,c,jK,Cc,Cd,ke,by omega,cX,rfl,rfl,rfl⟩
 | z+1,.val x,⟨u,ee,hu,hv⟩,cX=>
  obtain ⟨rfl,rfl,rfl⟩:v1 = .pointer none∧v2 = .pointer none∧v8=u:=by
   simp only [Value.tuple.injEq,Array.mk.injEq,List.cons.injEq] at ee;exact ⟨ee.1,ee.2.1,ee.2.2.1⟩
  rw [dB] at cX;obtain ⟨vt,vf,db,bO,cw,cB,hh⟩:=fB;have j6:=hh.a7.at.1;cases hl:m1.a7.getLast? with
  | none=>
   rw [hl] at cX;cases cX;have h0:=List.getLast?_eq_none_iff.1 hl;have b0:((bO.length:Int) == 0)=true:=by rw [j6,h0];try rfl
   obtain ⟨af,cf,rfl,nQ,_⟩:=hh.oY.val;(try simp only [go_sem,simprocAttr,Option.isNone_none,Bool.not_true,g0,g1,g2,g8,cell_of hh.box,b0,aE,RV.ev,aF]);exact ⟨⟨S1,dY,⟨_,_,_,_,_,_,hh⟩,dU,lN,(show Fj w1 (Out S1 w1) dY _ (some x) from ⟨_,rfl,hu,hv⟩)⟩,ak⟩
  | some f=>
   rw [hl] at cX;simp only at cX;have bw:m1.a7≠[]:=fun e=>by rw [e] at hl;cases hl
   have Ax:0 < bO.length:=by rw [j6];exact List.length_pos_iff.2 bw
   have b0:((bO.length:Int) == 0)=false:=by
    have:¬ (bO.length:Int)=0:=by omega
    simpa using this
   have e1:IntKind.i64.wrap ((bO.length:Int) - 1)=((bO.length - 1:Nat):Int):=by rw [dk (by omega) (by omega)];omega
   have b1:(0:Int)≤((bO.length - 1:Nat):Int)∧((bO.length - 1:Nat):Int) < bO.length:=by omega
   obtain ⟨bF,cf,sp,rfl,A9,E0,nQ,_⟩:=hh.oY.pos Ax;have b3:(0:Int)≤((bO.length - 1:Nat):Int)∧((bO.length - 1:Nat):Int)≤cf:=by omega
   have hrow:∀ x∈bO,x.length=5:=fun x hx=>by
    obtain ⟨i,hi,rfl⟩:=List.getElem_of_mem hx;exact (hh.a7.at.2 i _ _ (List.getElem?_eq_getElem hi) (List.getElem?_eq_getElem (by omega))).len
   have hk:bO.length - 1 < bO.length:=by omega
   have iX:(bO.flatMap id).length=bO.length*5:=hh.oY.1;have bQ:fV w1 5 (.pointer (some ⟨bF,(bO.length - 1)*5,none⟩))=some (.agg (bO[bO.length - 1]).toArray):=by
    rw [gF E0 (by rw [List.length_append,iX];omega),List.drop_append_of_le_length (by rw [iX];omega),List.take_append_of_le_length (by rw [List.length_drop,iX];omega),OB hrow hk]
   have o7:mA w1 (Out S1 w1) dY bO[bO.length - 1] f:=hh.a7.at.2 _ _ _ (List.getElem?_eq_getElem hk) (by rw [j6,← List.getLast?_eq_getElem?];exact hl);generalize bO[bO.length - 1]=row at bQ o7;(try simp only [go_sem,simprocAttr,Option.isNone_none,Bool.not_true,g0,g1,g2,g8,cell_of hh.box,b0,e1]);(try simp only [go_sem,simprocAttr,bq,br,b1,nE,Nat.zero_add,bQ]);have SO:=o7.len;have oF:=cC hh.box;have hlF:=cC E0;refine cQ ?_;intro w2 aw ai bS;have ai:Mod (fun _=>False) w1 w2:=ai.ez;refine ⟨⟨ai.bY _ hlF _root_.id,ai.bY _ oF _root_.id⟩,?_⟩;have aw:w2.heap[w1.heap.size]? = some (.cells [I 0,.pointer none,.pointer none,.pointer none,I 0].toArray 136 (0,0)):=aw;refine bN (vs:=row) (cs:=[I 0,.pointer none,.pointer none,.pointer none,I 0]) rfl rfl aw SO rfl o7.one ?_;intro w3 aO ar eR;have oN:Mod (fun _=>False) w1 w3:=ai.step ar (fun b hb hl=>by have e:b=w1.heap.size:=hb;omega);have tW:=oN.at hh.box _root_.id;(try simp only [go_sem,simprocAttr,cell_of tW,e1]);(try simp only [go_sem,simprocAttr,bq,br,cell_of tW,e1,b3,SJ,ite_self]);have aeA:w3.drew.heap[r]? = _:=tW;refine fF (b:=r) (off:=11) (v:=.slice (some ⟨bF,0,none⟩) (bO.length - 1) cf) rfl rfl aeA rfl (by simp) ?_;intro w4 aZ aA eA;have aA:Mod (· = r) w3 w4:=aA.ez;have o0:=cJ.pop (hh.aB oN) aA aZ;have Sr:∀ y,y=r→S1 y:=fun y hy=>by rw [hy];exact hh.bt _ (by simp)
   have lI:Mod S1 w1 w4:=(aj oN).trans (aA.aT Sr);have La:w4.heap[w1.heap.size]? = some (.cells row.toArray 136 (0,0)):=aA.at aO (fun e=>by have:=oF;omega);have aeB:=o7.up lI aM (aU lI) (fun _ _ h=>h);have Lb:=hu.up lI aM (aU lI) (fun _ _ h=>h);cases hb:gO f x { m1 with a7:=m1.a7.dropLast} with
   | none=>rw [hb] at cX;cases cX
   | some rr=>
   rw [hb] at cX;have cF:=Fi hb;have Fk:m1.a7.dropLast.length=m1.a7.length - 1:=List.length_dropLast;(try simp only [go_sem,simprocAttr,az (n:=5) (cs:=row) La SO]);refine aK (by rfl) ?_;refine (aec o0 aeB Lb hv (show m1.a7.dropLast.length≤2097152 by omega) hb).mono ?_;rintro v w5 ⟨⟨S3,xM,jK,pM,K9,ke⟩,aD⟩;have eG:=kM ak dU lI;have Cc:=lO dU pM eG.size;have eS:=kM eG dU aD;have Cd:∀ (c b:Nat),bs[c]? = some b→xM[c]? = some b:=fun c b h=>K9 c b (lN c b h)
   match rr,cX,ke,cF,jK with
   | (none,m'),cX,ke,cF,jK=>
    have ke:v=_:=ke;subst ke;cases cX;(try simp only [go_sem,simprocAttr,aE,RV.ev,aF]);exact ⟨⟨S3,xM,jK,Cc,Cd,rfl⟩,eS⟩
   | (some kN,m'),cX,ke,cF,jK=>
    obtain ⟨a,b,c,d,rfl⟩:=ke.pK;have hd:d = .bool true:=by
     match kN,ke with
     | .go _ _,⟨_,_,e1,_⟩=>cases e1;rfl
     | .val _,⟨_,e1,_⟩=>cases e1;rfl
    subst hd;have ks:m'.steps=m1.steps:=cF.steps;have kf:m'.a7.length≤m1.a7.dropLast.length+1:=cF.fl;(try simp only [go_sem,simprocAttr]);exact ⟨_,Nat.lt_succ_self z,eS,S3,xM,m',kN,a,b,c,jK,Cc,Cd,ke,by omega,cX,rfl,rfl,rfl⟩
theorem aeC {n:Nat} {w:World} {S:Nat→Prop} {r md mf:Nat} {bs:List Nat} {X:Cx} {m:Rn} {e:Ex} {nm:cN} {ve vn:Value} {cm:Option Cl×Rn} (h:cJ w S r md mf bs X m) (he:my w (Out S w) ve e) (hn:gC w (Out S w) bs nm vn) (hlen:(m.a7.length:Int)≤m.steps+1) (aS:dB X n (.go e nm) m=some cm) :
   ba Tryz.prog 26 [ptr r,ve,vn] w fun v w'=>vK w w' S r md mf bs X v cm∧Mod S w w':=by
 refine XD.calls rfl ?_;unfold Hm;(try simp only [go_sem,simprocAttr]);refine aK (by rfl) ?_;refine (K7 h he hn hlen aS).mono ?_;rintro v w1 hR;obtain ⟨a,b,rfl⟩:=hR.1.pK;(try simp only [go_sem,simprocAttr,aE,RV.ev,aF]);exact hR
theorem aeD {n c b:Nat} {w:World} {S:Nat→Prop} {r md mf:Nat} {bs:List Nat} {X:Cx} {m:Rn} {cm:Option Cl×Rn} (h:cJ w S r md mf bs X m) (hc:bs[c]? = some b) (hlen:(m.a7.length:Int)≤m.steps) (aS:j9 X n c m=some cm) :
   ba Tryz.prog 38 [ptr r,ptr b] w fun v w'=>vK w w' S r md mf bs X v cm∧Mod S w w':=by
 have bG:m.steps≤1048576:=by obtain ⟨_,_,_,_,_,_,hh⟩:=h;have:=hh.steps;omega
 have cF:=zJ m c;unfold j9 at aS;refine XU.calls rfl ?_;unfold Hy;(try simp only [go_sem,simprocAttr]);refine aK (by rfl) ?_;refine (KA h hc (by omega)).mono ?_;rintro v w1 ⟨⟨S1,dY,fB,dU,lN,pR⟩,ak⟩;generalize ft m c=rr at aS cF fB pR
 match rr,aS,cF,fB,pR with
 | (none,m'),aS,cF,fB,pR=>
  have pR:v=_:=pR;subst pR;cases aS;(try simp only [go_sem,simprocAttr,aE,RV.ev,aF]);exact ⟨⟨S1,dY,fB,dU,lN,rfl⟩,ak⟩
 | (some (.val x),m'),aS,cF,fB,⟨u,e1,hu,hv⟩=>
  subst e1;cases aS;(try simp only [go_sem,simprocAttr,Option.isNone_none,aE,RV.ev,aF]);exact ⟨⟨S1,dY,fB,dU,lN,(show Fj w1 (Out S1 w1) dY _ (some x) from ⟨_,rfl,hu,hv⟩)⟩,ak⟩
 | (some (.go e nm),m'),aS,cF,fB,⟨ve,vn,e1,he,hn⟩=>
  subst e1;have hp:∃ a,ve = .pointer (some a):=by obtain ⟨a,_,rfl,_⟩:=he;exact ⟨a,rfl⟩
  obtain ⟨ap,rfl⟩:=hp;have ks:m'.steps=m.steps:=cF.steps;have kf:m'.a7.length≤m.a7.length+1:=cF.fl;(try simp only [go_sem,simprocAttr]);refine aK (by rfl) ?_;refine (K7 fB he hn (show (m'.a7.length:Int)≤m'.steps+1 by omega) aS).mono ?_;rintro v w2 hR;obtain ⟨a,b,rfl⟩:=hR.1.pK;(try simp only [go_sem,simprocAttr,aE,RV.ev,aF]);exact SL dU lN ak hR
theorem aeE {n c b:Nat} {w:World} {S:Nat→Prop} {r md mf:Nat} {bs:List Nat} {X:Cx} {m:Rn} {f:Cl} {u:Value} {cm:Option Cl×Rn} (h:cJ w S r md mf bs X m) (hc:bs[c]? = some b) (hu:iu w (Out S w) bs f u) (hv:f.iC=true) (hlen:(m.a7.length:Int)≤m.steps) (aS:oX X n f c m=some cm) :
   ba Tryz.prog 27 [ptr r,u,ptr b] w fun v w'=>vK w w' S r md mf bs X v cm∧Mod S w w':=by
 unfold oX at aS;cases hg:j8 m f c with
 | none=>rw [hg] at aS;cases aS
 | some rr=>
 rw [hg] at aS;have cF:=Fh hg;refine XE.calls rfl ?_;unfold Hn;(try simp only [go_sem,simprocAttr]);refine aK (by rfl) ?_;refine (RB h hc hu hv hg).mono ?_;rintro v w1 ⟨⟨S1,dY,fB,dU,lN,pR⟩,ak⟩
 match rr,aS,cF,fB,pR with
 | (none,m'),aS,cF,fB,pR=>
  have pR:v=_:=pR;subst pR;cases aS;(try simp only [go_sem,simprocAttr,aE,RV.ev,aF]);exact ⟨⟨S1,dY,fB,dU,lN,rfl⟩,ak⟩
 | (some (.val x),m'),aS,cF,fB,⟨u,e1,hu,hv⟩=>
  subst e1;cases aS;(try simp only [go_sem,simprocAttr,Option.isNone_none,aE,RV.ev,aF]);exact ⟨⟨S1,dY,fB,dU,lN,(show Fj w1 (Out S1 w1) dY _ (some x) from ⟨_,rfl,hu,hv⟩)⟩,ak⟩
 | (some (.go e nm),m'),aS,cF,fB,⟨ve,vn,e1,he,hn⟩=>
  subst e1;have hp:∃ a,ve = .pointer (some a):=by obtain ⟨a,_,rfl,_⟩:=he;exact ⟨a,rfl⟩
  obtain ⟨ap,rfl⟩:=hp;have ks:m'.steps=m.steps:=cF.steps;have kf:m'.a7.length≤m.a7.length+1:=cF.fl;(try simp only [go_sem,simprocAttr]);refine aK (by rfl) ?_;refine (K7 fB he hn (show (m'.a7.length:Int)≤m'.steps+1 by omega) aS).mono ?_;rintro v w2 hR;obtain ⟨a,b,rfl⟩:=hR.1.pK;(try simp only [go_sem,simprocAttr,aE,RV.ev,aF]);exact SL dU lN ak hR
end
section
open Go Go.W
theorem hM.tell {w w3 w4:World} {S:Nat→Prop} {r md mf:Nat} {bs:List Nat} {X:Cx} {m:Rn} {vt vf v3:Value} {db bO:List (List Value)} {cw cB hZ:Option Nat} {row:List Value} {it:ByteArray×Int} (h:hM w S r md mf bs X m vt vf db bO cw cB) (ar:Mod (fun b=>cw=some b) w w3)
   (tV:dE w3 71 2 v3 (db.flatMap id++row) (db.length+1) hZ) (jC:∀ b,hZ=some b→cw=some b∨w.heap.size≤b) (hit:Kw row it) (aA:Mod (· = r) w3 w4) (aZ:w4.heap[r]? = some (.cells (ET X m md mf v3 vf).toArray ES (0,0))) :
   ∃ S',cJ w4 S' r md mf bs X { m with told:=m.told++[it]}∧dI S S' w∧Mod S w w4:=by
 obtain ⟨n1,n2,n3,n4,n5,n6,n7,n8,n9⟩:=h.ne;have Sr:∀ b,b=r→S b:=fun b hb=>by rw [hb];exact h.bt _ (by simp)
 have St:∀ b,cw=some b→S b:=fun b hb=>h.bt _ (by simp [hb])
 have bC:Mod S w w4:=(ar.aT St).trans (aA.aT Sr);have z3:=ar.size;have z4:=aA.size
 have hg:dI S (fun b=>S b∨hZ=some b) w:=⟨fun b hb=>.inl hb,fun b hb=>by
  rcases hb with h | h
  ·exact .inl h
  ·rcases jC b h with h | h
   ·exact .inl (St b h)
   ·exact .inr h⟩
 have eD:=qQ hg bC.size;have kL:∀ b∈ji r md mf bs cw cB,b < w.heap.size:=fun b hb=>h.lt b (h.bt b hb)
 have lr:=kL r (by simp);have ld:=kL md (by simp);have lmf:=kL mf (by simp);have lf':∀ b,cB=some b→b < w.heap.size:=fun b hb=>kL b (by simp [hb])
 have lb:∀ b∈bs,b < w.heap.size:=fun b hb=>kL b (by simp [hb])
 refine ⟨fun b=>S b∨hZ=some b,⟨v3,vf,db++[row],bO,hZ,cB,?_⟩,hg,bC⟩;refine ⟨aZ,?_,h.items.snoc hit,?_,?_,?_,?_,?_,h.len,?_,?_,?_,h.steps,fun p hp=>?_⟩
 rotate_left 9
 ·obtain ⟨a1,a2,a3⟩:=h.kept p hp;have a4:=cC a1;simp only [ji,List.mem_cons,List.mem_append,Option.mem_toList,not_or] at a3 ⊢;obtain ⟨c1,c2,c3,⟨c4,c5⟩,c6⟩:=a3
  exact ⟨aA.at (ar.at a1 (fun e=>c4 (by rw [e]))) c1,.inl a2,c1,c2,c3,⟨fun e=>by
   rcases jC _ e with h | h
   ·exact c4 h
   ·omega,c5⟩,c6⟩
 ·have oG:=tV.mod aA (fun b hb e=>by
   rcases jC b hb with h | h
   ·exact (n4 b h).1 e.symm
   ·omega)
  rw [Ba,List.length_append];exact oG
 ·exact (h.oY.mod ar (fun b hb e=>n7 b b e hb rfl)).mod aA (fun b hb e=>(n5 b hb).1 e.symm)
 ·exact h.a7.imp (fun _ _ x=>x.up bC aM eD (fun _ _ h=>h))
 ·refine Ky h.EV ⟨n1,n2,n3⟩ (fun b hb=>?_) n5 n6 (fun a b ha hb=>?_) (fun a ha dK=>?_) n9
  ·rcases jC b hb with h | h
   ·exact n4 b h
   ·exact ⟨by omega,by omega,by omega⟩
  ·rcases jC a ha with h | h
   ·exact n7 a b h hb
   ·have:=lf' b hb;omega
  ·rcases jC a ha with h | h
   ·exact n8 a h dK
   ·have:=lb a dK;omega
 ·intro b hb;simp only [ji,List.mem_cons,List.mem_append,Option.mem_toList] at hb;rcases hb with rfl | rfl | rfl | (h1 | h1) | h1
  ·exact .inl (h.bt _ (by simp))
  ·exact .inl (h.bt _ (by simp))
  ·exact .inl (h.bt _ (by simp))
  ·exact .inr h1
  ·exact .inl (h.bt _ (by simp [h1]))
  ·exact .inl (h.bt _ (by simp [h1]))
 ·intro b hb;rcases hb with h1 | h1
  ·have:=h.lt b h1;omega
  ·have:=tV.lt h1;omega
 ·intro i b x hi hx;obtain ⟨v,h1,h2⟩:=h.cell i b x hi hx;have dK:=List.mem_of_getElem? hi;exact ⟨v,aA.at (ar.at h1 (fun e=>n8 b e dK)) (fun e=>(n6 b dK).1 e.symm),h2.up bC aM eD (fun _ _ h=>h)⟩
 ·exact (h.an.mod ar (fun e=>(n4 md e).2.1 rfl) (fun _ _ x=>x)).mod aA (fun e=>n1 e.symm) (fun _ _ x=>x)
 ·exact (h.fields.mod ar (fun e=>(n4 mf e).2.2 rfl) (fun _ _ x=>x)).mod aA (fun e=>n2 e.symm) (fun _ _ x=>x)
end
section
open Go Go.W
def Cx.kp (X:Cx) (l:List (Nat×Obj)):Cx:={ X with aB:=l}
theorem SP (X:Cx) (l:List (Nat×Obj)) (m:Rn):fA (X.kp l) m=fA X m:=rfl
theorem aeF (X:Cx) (l:List (Nat×Obj)) (e:Ex) (v:cN) (m:Rn):lK (X.kp l) e v m=lK X e v m:=rfl
theorem Lc (X:Cx) (l:List (Nat×Obj)):∀ (n:Nat) (md:Md) (m:Rn),dB (X.kp l) n md m=dB X n md m
 | 0,md,m=>by cases md<;>rw [dB,dB]
 | n+1,.go e v,m=>by
  rw [dB,dB];simp only [SP,aeF,Lc X l n]
 | n+1,.val x,m=>by
  rw [dB,dB];simp only [Lc X l n]
theorem aeG (X:Cx) (l:List (Nat×Obj)) (n c:Nat) (m:Rn):j9 (X.kp l) n c m=j9 X n c m:=by
 unfold j9;simp only [Lc]
theorem hM.aeH {w w':World} {S:Nat→Prop} {r md mf:Nat} {bs:List Nat} {X:Cx} {m:Rn} {vt vf:Value} {db bO:List (List Value)} {cw cB fp gn:Option Nat} {K K':List (Nat×Obj)} (h:hM w S r md mf bs (X.kp K) m vt vf db bO cw cB) (hK:∀ b,fp=some b→∃ o,(b,o)∈K)
   (hm:Mod (fun b=>fp=some b) w w') (jB:∀ b,gn=some b→fp=some b∨w.heap.size≤b) (aP:∀ b,gn=some b→b < w'.heap.size) (hK':∀ p∈K',gn=some p.1∧w'.heap[p.1]? = some p.2) :
   hM w' (fun b=>S b∨gn=some b) r md mf bs (X.kp K') m vt vf db bO cw cB:=by
 have Ld:∀ b,fp=some b→S b∧b∉ji r md mf bs cw cB:=fun b hb=>by
  obtain ⟨o,ho⟩:=hK b hb;exact ⟨(h.kept _ ho).2.1,(h.kept _ ho).2.2⟩
 have ne:∀ b∈ji r md mf bs cw cB,¬ fp=some b:=fun b hb e=>(Ld b e).2 hb
 have ne':∀ b∈ji r md mf bs cw cB,¬ gn=some b:=fun b hb e=>by
  rcases jB b e with h1 | h1
  ·exact ne b hb h1
  ·have:=h.lt b (h.bt b hb);omega
 have bC:Mod S w w':=hm.aT (fun b hb=>(Ld b hb).1)
 have eD:∀ b,Out S w b→Out (fun b=>S b∨gn=some b) w' b:=fun b hb=>⟨Nat.lt_of_lt_of_le hb.1 hm.size,fun hh=>by
  rcases hh with h1 | h1
  ·exact hb.2 h1
  ·rcases jB b h1 with h2 | h2
   ·exact hb.2 (Ld b h2).1
   ·have:=hb.1;omega⟩
 refine ⟨hm.at h.box (ne r (by simp)),h.told.mod hm (fun b hb=>ne b (by simp [hb])),h.items,h.oY.mod hm (fun b hb=>ne b (by simp [hb])),h.a7.imp (fun _ _ x=>x.up bC aM eD (fun _ _ h=>h)),h.blocks,fun b hb=>.inl (h.bt b hb),?_,h.len,?_,
  h.an.mod hm (ne md (by simp)) (fun _ _ x=>x),h.fields.mod hm (ne mf (by simp)) (fun _ _ x=>x),h.steps,fun p hp=>?_⟩
 ·rintro b (hb | hb)
  ·exact Nat.lt_of_lt_of_le (h.lt b hb) hm.size
  ·exact aP b hb
 ·intro i b x hi hx;obtain ⟨v,h1,h2⟩:=h.cell i b x hi hx;exact ⟨v,hm.at h1 (ne b (by simp [List.mem_of_getElem? hi])),h2.up bC aM eD (fun _ _ h=>h)⟩
 ·obtain ⟨h1,h2⟩:=hK' p hp;exact ⟨h2,.inr h1,fun hh=>ne' _ hh h1⟩
theorem cJ.drop {w:World} {S:Nat→Prop} {r md mf:Nat} {bs:List Nat} {X:Cx} {m:Rn} {K:List (Nat×Obj)} (h:cJ w S r md mf bs (X.kp K) m):cJ w S r md mf bs (X.kp []) m:=by
 obtain ⟨vt,vf,db,bO,cw,cB,h⟩:=h;exact ⟨vt,vf,db,bO,cw,cB,h.box,h.told,h.items,h.oY,h.a7,h.blocks,h.bt,h.lt,h.len,h.cell,h.an,h.fields,h.steps,fun p hp=>by cases hp⟩
abbrev Ce:Nat:=82
structure o8 (w w0:World) (bs:List Nat) (v:Value) (ws:List Nat) (rows:List Value) (fp:Option Nat) (K:List (Nat×Obj)):Prop where
 own:dE w Ce 1 v rows ws.length fp
 all:fM (BT bs) rows ws
 new:∀ b,fp=some b→w0.heap.size≤b
 k1:∀ b,fp=some b→∃ o,(b,o)∈K
theorem o8.up {w w' w0:World} {S S':Nat→Prop} {r md mf:Nat} {bs bs0 cM aeI:List Nat} {X:Cx} {m m':Rn} {v:Value} {ws:List Nat} {rows:List Value} {fp:Option Nat} {K:List (Nat×Obj)} (h:o8 w w0 bs v ws rows fp K) (hR:cJ w S r md mf bs0 (X.kp K) m) (hR':cJ w' S' r md mf aeI (X.kp K) m') (hb:∀ (c b:Nat),bs[c]? = some b→cM[c]? = some b):o8 w' w0 cM v ws rows fp K:=by
 refine ⟨⟨h.own.1,?_⟩,KX (fun _ _ x=>by obtain ⟨y,e,h⟩:=x;exact ⟨y,e,hb _ _ h⟩) h.all,h.new,h.k1⟩;rcases h.own.2 with h1 | ⟨b,c,sp,h1,h2,h3,h4⟩
 ·exact .inl h1
 ·refine .inr ⟨b,c,sp,h1,h2,?_,h4⟩;obtain ⟨o,ho⟩:=h.k1 b h2;obtain ⟨_,_,_,_,_,_,hh⟩:=hR;obtain ⟨_,_,_,_,_,_,yh⟩:=hR';have e1:=(hh.kept _ ho).1;have e2:=(yh.kept _ ho).1;simp only at e1 e2;rw [h3] at e1;rw [e2,← e1]
theorem o8.push {w w' dT w0:World} {S:Nat→Prop} {r md mf:Nat} {bs:List Nat} {X:Cx} {m:Rn} {v v':Value} {ws:List Nat} {rows:List Value} {fp gn:Option Nat} {K:List (Nat×Obj)} {c b:Nat} (h:o8 w w0 bs v ws rows fp K) (hR:cJ w S r md mf bs (X.kp K) m) (hc:bs[c]? = some b) (iV:Mod (fun _=>False) w w') (hz:w0.heap.size≤w.heap.size)
   (ho:dE dT Ce 1 v' (rows++[ptr b]) (ws.length+1) gn) (hm:Mod (fun b=>fp=some b) w' dT) (hf:∀ b,gn=some b→fp=some b∨b=w'.heap.size∧b < dT.heap.size) :
   ∃ S' K',cJ dT S' r md mf bs (X.kp K') m∧dI S S' w∧Mod S w dT∧o8 dT w0 bs v' (ws++[c]) (rows++[ptr b]) gn K':=by
 obtain ⟨vt,vf,db,bO,cw,cB,hh⟩:=hR.aB iV;have SQ:∀ b,fp=some b→S b:=fun b hb=>by
  obtain ⟨o,ho⟩:=h.k1 b hb;exact (hh.kept _ ho).2.1
 have z0:=iV.size;have jB:∀ b,gn=some b→fp=some b∨w'.heap.size≤b:=fun b hb=>by
  rcases hf b hb with h1 | ⟨h1,_⟩
  ·exact .inl h1
  ·exact .inr (by omega)
 have aP:∀ b,gn=some b→b < dT.heap.size:=fun b hb=>ho.lt hb
 have aeJ:fM (BT bs) (rows++[ptr b]) (ws++[c]):=h.all.snoc ⟨b,rfl,hc⟩;have aeK:dE dT Ce 1 v' (rows++[ptr b]) (ws++[c]).length gn:=by rw [List.length_append];exact ho
 have aeL:∀ b,gn=some b→w0.heap.size≤b:=fun b hb=>by
  rcases jB b hb with h1 | h1
  ·exact h.new b h1
  ·omega
 have hg:dI S (fun b=>S b∨gn=some b) w:=⟨fun b hb=>.inl hb,fun b hb=>by
  rcases hb with h1 | h1
  ·exact .inl h1
  ·rcases jB b h1 with h2 | h2
   ·exact .inl (SQ b h2)
   ·exact .inr (by omega)⟩
 obtain ⟨b',cap,sp,e1,e2,e3,_⟩:=ho.pos (by omega);refine ⟨_,[(b',.cells (rows++[ptr b]++sp).toArray Ce (0,0))],⟨vt,vf,db,bO,cw,cB,hh.aeH (K':=[(b',.cells (rows++[ptr b]++sp).toArray Ce (0,0))]) h.k1 hm jB aP (fun p hp=>by rw [List.mem_singleton.1 hp];exact ⟨e2,e3⟩)⟩,hg,(aj iV).trans (hm.aT SQ),aeK,aeJ,aeL,fun b hb=>?_⟩;rw [e2] at hb;cases hb;exact ⟨_,List.mem_singleton.2 rfl⟩
end
section
open Go Go.W
theorem Cf {P:Program} {N id:Nat} {a:IR} {Q:Post} {ρ:Go.W.Env} {w:World} (h:cL P N a (jo id Q) ρ w):cL P N (.block id a) Q ρ w:=h
theorem aeM {m m':Rn} {c:Nat} {x:Cl} (h:ft m c=(some (.val x),m')):m'=m∧x.iC=true:=by
 unfold ft at h;cases hx:m.cells[c]? with
 | none=>rw [hx] at h;cases h
 | some y=>
  rw [hx] at h;cases y<;>first | (cases h;exact ⟨rfl,rfl⟩) | cases h
theorem Fl {X:Cx} {n c:Nat} {m:Rn} {r:Option Cl×Rn} (h:j9 X n c m=some r) (hf:m.a7=[]):xK X m r:=by
 unfold j9 at h;have k:=zJ m c;have kv:∀ x m',ft m c=(some (.val x),m')→m'=m∧x.iC=true:=fun x m'=>aeM
 generalize ft m c=rr at h k kv
 match rr,h,k,kv with
 | (none,m'),h,k,kv=>
  cases h;have ks:m'.steps=m.steps:=k.steps;exact ⟨k.told,by show m.steps≤m'.steps;omega,fun hh=>by show m'.steps≤_;omega,fun x hx=>by (cases hx),fun _=>.inr (k.stop rfl)⟩
 | (some (.val x),m'),h,k,kv=>
  cases h;obtain ⟨rfl,_⟩:=kv x m' rfl;exact ⟨rfl,Int.le_refl _,fun h=>h,fun _ _=>⟨rfl,rfl,hf⟩,fun hn=>by cases hn⟩
 | (some (.go e v),m'),h,k,kv=>
  have ks:m'.steps=m.steps:=k.steps;exact (vJ n h).from k.told (by omega) (fun hh=>by omega) (k.go _ rfl)
theorem SR {α β:Type} {P:α→β→Prop}:∀ {l:List α} {m:List β} (k:Nat),fM P l m→fM P (l.take k) (m.take k)
 | _,_,0,_=>trivial
 | [],[],k+1,_=>trivial
 | a::l,b::m,k+1,h=>⟨h.1,SR k h.2⟩
 | [],_::_,k+1,h=>h.elim
 | _::_,[],k+1,h=>h.elim
theorem SS {n:Nat} {w:World} {S:Nat→Prop} {r md mf:Nat} {bs:List Nat} {X:Cx} {m mF:Rn} {x:Cl} {u:Value} (h:cJ w S r md mf bs (X.kp []) m) (hu:iu w (Out S w) bs x u) (hv:x.iC=true) (fN:m.a7=[]) (oB:(m.told.length:Int)≤m.steps) (aS:iq X n x [] m=some mF) :
   ba Tryz.prog 29 [ptr r,u] w fun _ w'=>(∃ S' cM,cJ w' S' r md mf cM (X.kp []) mF∧dI S S' w)∧Mod S w w':=by
 refine XG.calls rfl ?_;unfold Hp;(try simp only [go_sem,Nat.reduceAdd,Nat.reduceEqDiff,Nat.reduceLT,Nat.reduceLeDiff,Nat.reduceMul,reduceCtorEq,↓reduceIte])
 refine fx (fun z ρ w'=>Mod S w w'∧∃ (S':Nat→Prop) (cM:List Nat) (m':Rn) (x:Cl) (u:Value) (ws:List Nat) (vw:Value) (rows:List Value) (fp:Option Nat) (K:List (Nat×Obj)),cJ w' S' r md mf cM (X.kp K) m'∧dI S S' w∧iu w' (Out S' w') cM x u∧x.iC=true∧o8 w' w cM vw ws rows fp K∧m'.a7=[]∧(m'.told.length:Int)≤m'.steps∧iq X z x ws m'=some mF ∧
  ρ.get 0=some (ptr r)∧ρ.get 1=some u∧ρ.get 4=some vw) n ⟨.refl _ _,S,bs,m,x,u,[],.slice none 0 0,[],none,[],h,mD,hu,hv,⟨dE.nil _ _ _,trivial,fun b hb=>(by cases hb),fun b hb=>(by cases hb)⟩,fN,oB,aS,rfl,rfl,rfl⟩ ?_
 rintro z ρ w1 ⟨ak,S1,dY,m1,x,u,ws,vw,rows,fp,K,fB,dU,tZ,uJ,AS,Cg,aiM,gT,g0,g1,g4⟩;clear h hu hv fN oB aS;have aez:m1.steps≤1048576∧0≤m1.steps:=by
  obtain ⟨_,_,_,_,_,_,hh⟩:=fB;have:=hh.steps;omega
 have Sr:∀ y,y=r→S1 y:=fun y hy=>by obtain ⟨_,_,_,_,_,_,hx⟩:=fB;rw [hy];exact hx.bt _ (by simp)
 match z,gT with
 | 0,gT=>rw [iq] at gT;cases gT
 | z+1,gT=>
 rw [iq] at gT;unfold Oa;obtain ⟨T,zz,rfl,_⟩:=zq tZ uJ;have qd:gl ρ [.t 0]=some [ptr r]:=by simp only [gl,O.ev,g0]
 refine Cf (dO (fun ρ w2=>cJ w2 S1 r md mf dY (X.kp K) { m1 with steps:=m1.steps+1}∧Mod (· = r) w1 w2∧m1.steps≠X.fuel∧ρ.get 0=some (ptr r)∧ρ.get 1=some (.iface T zz)∧ρ.get 4=some vw) ?_ ?_)
 ·(try simp only [go_sem,Nat.reduceAdd,Nat.reduceEqDiff,Nat.reduceLT,Nat.reduceLeDiff,Nat.reduceMul,reduceCtorEq,↓reduceIte,g0,g1,g4]);refine aK qd ?_;refine (Rt fB).mono ?_;rintro _ w2 ⟨rfl,eM,ai⟩;have qU:=ai.aT Sr;have aY:=kM ak dU qU;rw [SP] at eM ⊢;rcases vI X m1 with ⟨q1,q2⟩ | ⟨q1,q2⟩
  ·rw [q2,if_pos rfl] at gT;rw [q2] at eM ⊢;cases gT;(try simp only [go_sem,Nat.reduceAdd,Nat.reduceEqDiff,Nat.reduceLT,Nat.reduceLeDiff,Nat.reduceMul,reduceCtorEq,↓reduceIte,g0,g1,g4,aE,RV.ev,aF]);exact ⟨⟨S1,dY,eM.drop,dU⟩,aY⟩
  ·rw [q2] at eM ⊢;(try simp only [go_sem,Nat.reduceAdd,Nat.reduceEqDiff,Nat.reduceLT,Nat.reduceLeDiff,Nat.reduceMul,reduceCtorEq,↓reduceIte,g0,g1,g4]);exact ⟨eM,ai,q1⟩
 rintro ρ w2 ⟨eM,ai,q1,g0,g1,g4⟩;have qU:=ai.aT Sr;have aY:=kM ak dU qU;have q2:fA X m1=(true,{ m1 with steps:=m1.steps+1}):=by unfold fA;rw [if_neg q1]
 rw [q2,if_neg (by simp)] at gT;simp only at gT;have qV:=tZ.up qU aM (aU qU) (fun _ _ h=>h);have Fo:o8 w2 w dY vw ws rows fp K:=AS.up fB eM (fun _ _ h=>h)
 refine dO (fun ρ w3=>∃ (S3:Nat→Prop) (m3:Rn) (dJ:List Nat) (vL:Value) (sA:List Value) (hZ:Option Nat) (K3:List (Nat×Obj)),cJ w3 S3 r md mf dY (X.kp K3) m3∧dI S S3 w∧Mod S w w3∧o8 w3 w dY vL dJ sA hZ K3∧m3.a7=[]∧(m3.told.length:Int)≤m3.steps∧m3.steps=m1.steps+1∧ρ.get 0=some (ptr r)∧ρ.get 4=some vL ∧
  (if 16777216 < dJ.length then none else match dJ.getLast? with
   | none=>some { m3 with kind:=2}
   | some c=>match j9 X z c m3 with
    | none=>none
    | some (none,m3)=>some m3
    | some (some y,m3)=>iq X z y dJ.dropLast m3)=some mF) ?_ ?_
 ·have Fp : ∀ {w3 : World} {S3 : Nat → Prop} {vL : Value} {dJ : List Nat} {sA : List Value} {hZ : Option Nat} {K3 : List (Nat × Obj)} {m3 : Rn}, cJ w3 S3 r md mf dY (X.kp K3) m3 → dI S S3 w → Mod S w w3 → o8 w3 w dY vL dJ sA hZ K3 → m3 = { m1 with steps := m1.steps + 1, told := m1.told ++ lL x } → dJ = ws ++ (fieldsOf x).reverse →
      (∃ (S3:Nat→Prop) (m3:Rn) (dJ:List Nat) (SU:Value) (sA:List Value) (hZ:Option Nat) (K3:List (Nat×Obj)),cJ w3 S3 r md mf dY (X.kp K3) m3∧dI S S3 w∧Mod S w w3∧o8 w3 w dY SU dJ sA hZ K3∧m3.a7=[]∧(m3.told.length:Int)≤m3.steps∧m3.steps=m1.steps+1∧vL=SU ∧
       (if 16777216 < dJ.length then none else match dJ.getLast? with
        | none=>some { m3 with kind:=2}
        | some c=>match j9 X z c m3 with
         | none=>none
         | some (none,m3)=>some m3
         | some (some y,m3)=>iq X z y dJ.dropLast m3)=some mF):=fun {w3 S3 vL dJ sA hZ K3 m3} a1 a2 a3 a4 a5 a6=>by
   subst a5 a6;have yA:(lL x).length≤1:=by cases x<;>simp [lL]
   exact ⟨S3,_,_,vL,sA,hZ,K3,a1,a2,a3,a4,Cg,by simp;omega,rfl,rfl,gT⟩
  obtain ⟨vt,vf,db,bO,cw,cB,hh⟩:=eM;have oB:db.length=m1.told.length:=hh.items.at.1;obtain ⟨avt,cvt,rfl,_,_⟩:=hh.told.val;have dD:∀ {w3:World} {row:List Value},Mod (fun _=>False) w2 w3→True:=fun _=>trivial
  cases x with
  | num n=>
   cases qV;(try simp only [go_sem,Nat.reduceAdd,Nat.reduceEqDiff,Nat.reduceLT,Nat.reduceLeDiff,Nat.reduceMul,reduceCtorEq,↓reduceIte,g0,g1,g4]);refine jH (D:=.int .i64) rfl rfl rfl (Tryz.zeroValue115 _) (fun _=>?_) (fun h=>absurd rfl h);(try simp only [go_sem,Nat.reduceAdd,Nat.reduceEqDiff,Nat.reduceLT,Nat.reduceLeDiff,Nat.reduceMul,reduceCtorEq,↓reduceIte,cell_of hh.box]);refine fG (cs:=#[.string bD,I n]) rfl rfl ?_;intro w3 aO ar eR;have tW:=ar.at hh.box _root_.id;(try simp only [go_sem,Nat.reduceAdd,Nat.reduceEqDiff,Nat.reduceLT,Nat.reduceLeDiff,Nat.reduceMul,reduceCtorEq,↓reduceIte]);refine rD (m:=1) (news:=[.string bD,I n]) rfl (hh.told.mod ar (fun _ _ h=>h)) rfl (fun h=>by cases h) (oz (xs:=[.string bD,I n]) aO) (aW rfl (aW rfl dy)) rfl (by omega) (by omega) ?_;intro v4 w4 fp4 oG aA Ci;obtain ⟨n1,n2,n3,n4,n5,n6,n7,n8,n9⟩:=hh.ne;have Le:=aA.at tW (fun e=>(n4 r e).1 rfl);obtain ⟨Lf,Lg,rfl,_,_⟩:=oG.val;(try simp only [go_sem,Nat.reduceAdd,Nat.reduceEqDiff,Nat.reduceLT,Nat.reduceLeDiff,Nat.reduceMul,reduceCtorEq,↓reduceIte]);refine fF (b:=r) (off:=1) (v:=.slice Lf (db.length+1) Lg) rfl rfl Le rfl (by simp) ?_;intro w5 bT aD eB
   obtain ⟨S5,vM,uR,oL⟩:=(hh.aB ar).tell (it:=(bD,n)) (row:=[.string bD,I n]) aA oG (fun b hb=>by
    rcases Ci b hb with h | ⟨h,_⟩
    ·exact .inl h
    ·exact .inr (by rw [h];exact Nat.le_refl _)) rfl aD bT
   have zK:Mod S1 w2 w5:=(aj ar).trans oL;have Fq:dI S1 S5 w2:=lO mD uR ar.size;(try simp only [go_sem,Nat.reduceAdd,Nat.reduceEqDiff,Nat.reduceLT,Nat.reduceLeDiff,Nat.reduceMul,reduceCtorEq,↓reduceIte]);exact Fp vM (lO dU Fq aY.size) (kM aY dU zK) (Fo.up ⟨_,_,_,_,_,_,hh⟩ vM (fun _ _ h=>h)) rfl (by simp [fieldsOf])
  | bg k fs=>
   obtain ⟨a,vs,e1,bJ,gR⟩:=qV;cases e1;obtain ⟨af,cf,rfl⟩:=a8 gR;have j6:=du gR;have k0:w2.cell? a=some (.string k):=bJ.c0 (by simp);have oF:=cC hh.box;(try simp only [go_sem,Nat.reduceAdd,Nat.reduceEqDiff,Nat.reduceLT,Nat.reduceLeDiff,Nat.reduceMul,reduceCtorEq,↓reduceIte,g0,g1,g4]);refine jH (D:=.int .i64) rfl rfl rfl (Tryz.zeroValue115 _) (fun h=>by cases h) (fun _=>?_);(try simp only [go_sem,Nat.reduceAdd,Nat.reduceEqDiff,Nat.reduceLT,Nat.reduceLeDiff,Nat.reduceMul,reduceCtorEq,↓reduceIte]);refine jH (D:=.pointer 114) rfl rfl rfl (Tryz.zeroValue111 _) (fun _=>?_) (fun h=>absurd rfl h);(try simp only [go_sem,Nat.reduceAdd,Nat.reduceEqDiff,Nat.reduceLT,Nat.reduceLeDiff,Nat.reduceMul,reduceCtorEq,↓reduceIte,cell_of hh.box,k0]);refine fG (cs:=#[.string k,I 0]) rfl rfl ?_;intro w3 aO ar eR;have ar:Mod (fun _=>False) w2 w3:=ar.ez;have tW:=ar.at hh.box _root_.id;refine ⟨ar.bY _ oF _root_.id,?_⟩;refine rD (m:=1) (news:=[.string k,I 0]) rfl (hh.told.mod ar (fun _ _ h=>h)) rfl (fun h=>by cases h) (oz (xs:=[.string k,I 0]) aO) (aW rfl (aW rfl dy)) rfl (by omega) (by omega) ?_;intro v4 w4 fp4 oG aA Ci;obtain ⟨n1,n2,n3,n4,n5,n6,n7,n8,n9⟩:=hh.ne;have Le:=aA.at tW (fun e=>(n4 r e).1 rfl);obtain ⟨Lf,Lg,rfl,_,_⟩:=oG.val;(try simp only [go_sem,Nat.reduceAdd,Nat.reduceEqDiff,Nat.reduceLT,Nat.reduceLeDiff,Nat.reduceMul,reduceCtorEq,↓reduceIte]);refine fF (b:=r) (off:=1) (v:=.slice Lf (db.length+1) Lg) rfl rfl Le rfl (by simp) ?_;intro w5 bT aD eB
   obtain ⟨S5,vM,uR,oL⟩:=(hh.aB ar).tell (it:=(k,0)) (row:=[.string k,I 0]) aA oG (fun b hb=>by
    rcases Ci b hb with h | ⟨h,_⟩
    ·exact .inl h
    ·exact .inr (by rw [h];exact Nat.le_refl _)) rfl aD bT
   have zK:Mod S1 w2 w5:=(aj ar).trans oL;have Fq:dI S1 S5 w2:=lO mD uR ar.size;have SV:=lO dU Fq aY.size;have eS:=kM aY dU zK;have hw5:=Fo.up ⟨_,_,_,_,_,_,hh⟩ vM (fun _ _ h=>h);have SW:=qQ Fq zK.size;have SX:=bJ.up zK aM SW;have aeN:=gR.up zK aM SW (fun _ _ h=>h);have k1:w5.cell? ⟨a.block,a.off+1,none⟩=some (.slice af fs.length cf):=SX.at (k:=1) (by simp);have e1:IntKind.i64.wrap ((fs.length:Int) - 1)=(fs.length:Int) - 1:=dk (by omega) (by omega);have aiN:ws.length+fs.length≤16777216:=by
    apply Classical.byContradiction;intro hn;rw [if_pos (by simp [fieldsOf];omega)] at gT;cases gT
   (try simp only [go_sem,Nat.reduceAdd,Nat.reduceEqDiff,Nat.reduceLT,Nat.reduceLeDiff,Nat.reduceMul,reduceCtorEq,↓reduceIte,k1,e1])
   refine fx (fun z' ρ w'=>z'≤fs.length∧∃ (S':Nat→Prop) (K':List (Nat×Obj)) (vk:Value) (aeO:List Value) (gn:Option Nat),cJ w' S' r md mf dY (X.kp K') { m1 with steps:=m1.steps+1,told:=m1.told++[(k,0)]}∧dI S5 S' w5∧Mod S5 w5 w'∧o8 w' w dY vk (ws++(fs.drop z').reverse) aeO gn K' ∧
    ρ=[(0,ptr r),(4,vk),(6,.pointer (some a)),(7,I ((z':Int) - 1))]) fs.length ⟨Nat.le_refl _,S5,K,vw,rows,fp,vM,mD,.refl _ _,by rw [List.drop_length,List.reverse_nil,List.append_nil];exact hw5,rfl⟩ ?_
   ·rintro q _ w6 ⟨hq,S6,K6,v6,aiO,Pf,Fs,Ft,lF,tv,rfl⟩;unfold N'
    match q,hq,tv with
    | 0,hq,tv=>
     have b0:decide (((0:Nat):Int) - 1≥0)=false:=by decide
     (try simp only [go_sem,Nat.reduceAdd,Nat.reduceEqDiff,Nat.reduceLT,Nat.reduceLeDiff,Nat.reduceMul,reduceCtorEq,↓reduceIte,b0]);exact Fp Fs (lO SV Ft eS.size) (kM eS SV lF) tv rfl (by simp [fieldsOf])
    | q+1,hq,tv=>
     have e2:((q+1:Nat):Int) - 1=(q:Int):=by omega
     have e3:IntKind.i64.wrap ((q:Int) - 1)=(q:Int) - 1:=dk (by omega) (by omega);have b0:decide ((q:Int)≥0)=true:=by simp
     have SY:=qQ Ft lF.size;have aeP:=aeN.up lF aM SY (fun _ _ h=>h);have aeQ:=SX.up lF aM SY;have k6:w6.cell? ⟨a.block,a.off+1,none⟩=some (.slice af fs.length cf):=aeQ.at (k:=1) (by simp);have SZ:q < fs.length:=by omega
     obtain ⟨lm,c2,r2,e4,⟨b,rfl,dV⟩,_,nQ⟩:=io aeP SZ;obtain ⟨rfl,-,-⟩:=b9 e4;have f0:w6.cell? (lm.add q)=some (ptr b):=by have:=nQ.c0 (by simp);rwa [Nat.mul_one] at this
     have p3:(0:Int)≤q∧(q:Int) < fs.length:=by omega
     (try simp only [go_sem,Nat.reduceAdd,Nat.reduceEqDiff,Nat.reduceLT,Nat.reduceLeDiff,Nat.reduceMul,reduceCtorEq,↓reduceIte,e2,b0,k6]);(try simp only [go_sem,Nat.reduceAdd,Nat.reduceEqDiff,Nat.reduceLT,Nat.reduceLeDiff,Nat.reduceMul,reduceCtorEq,↓reduceIte,bq,br,e2,b0,k6,p3,f0]);refine fG (cs:=#[ptr b]) rfl rfl ?_;intro w7 cH aL iL;have hw7:=tv.own.mod aL (fun _ _ h=>h);(try simp only [go_sem,Nat.reduceAdd,Nat.reduceEqDiff,Nat.reduceLT,Nat.reduceLeDiff,Nat.reduceMul,reduceCtorEq,↓reduceIte]);refine rD (m:=1) (news:=[ptr b]) rfl hw7 rfl (fun h=>by cases h) (oz (xs:=[ptr b]) cH) (aW rfl dy) rfl (by simp;omega) (by simp;omega) ?_;intro v8 w8 fp8 ho8 bh S9;obtain ⟨S8,K8,sB,xr,qP,Ta⟩:=tv.push Fs dV aL (by have:=eS.size;have:=lF.size;omega) ho8 bh S9;have e5:ws++(fs.drop (q+1)).reverse++[fs[q]]=ws++(fs.drop q).reverse:=by
      rw [List.drop_eq_getElem_cons SZ,List.reverse_cons,List.append_assoc]
     rw [e5] at Ta;(try simp only [go_sem,Nat.reduceAdd,Nat.reduceEqDiff,Nat.reduceLT,Nat.reduceLeDiff,Nat.reduceMul,reduceCtorEq,↓reduceIte,e3]);exact ⟨q,Nat.lt_succ_self q,by omega,S8,K8,v8,_,fp8,sB,lO Ft xr lF.size,kM lF Ft qP,Ta,rfl⟩
  | gi e nm=>
   obtain ⟨a,_,_,e1,_⟩:=qV;cases e1;(try simp only [go_sem,Nat.reduceAdd,Nat.reduceEqDiff,Nat.reduceLT,Nat.reduceLeDiff,Nat.reduceMul,reduceCtorEq,↓reduceIte,g0,g1,g4]);refine jH (D:=.int .i64) rfl rfl rfl (Tryz.zeroValue115 _) (fun h=>by cases h) (fun _=>?_);(try simp only [go_sem,Nat.reduceAdd,Nat.reduceEqDiff,Nat.reduceLT,Nat.reduceLeDiff,Nat.reduceMul,reduceCtorEq,↓reduceIte]);refine jH (D:=.pointer 114) rfl rfl rfl (Tryz.zeroValue111 _) (fun h=>by cases h) (fun _=>?_);(try simp only [go_sem,Nat.reduceAdd,Nat.reduceEqDiff,Nat.reduceLT,Nat.reduceLeDiff,Nat.reduceMul,reduceCtorEq,↓reduceIte]);exact Fp ⟨_,_,_,_,_,_,hh⟩ dU aY Fo (by simp [lL]) (by simp [fieldsOf])
  | fr k l fs=>
   obtain ⟨a,_,e1,_⟩:=qV;cases e1;(try simp only [go_sem,Nat.reduceAdd,Nat.reduceEqDiff,Nat.reduceLT,Nat.reduceLeDiff,Nat.reduceMul,reduceCtorEq,↓reduceIte,g0,g1,g4]);refine jH (D:=.int .i64) rfl rfl rfl (Tryz.zeroValue115 _) (fun h=>by cases h) (fun _=>?_);(try simp only [go_sem,Nat.reduceAdd,Nat.reduceEqDiff,Nat.reduceLT,Nat.reduceLeDiff,Nat.reduceMul,reduceCtorEq,↓reduceIte]);refine jH (D:=.pointer 114) rfl rfl rfl (Tryz.zeroValue111 _) (fun h=>by cases h) (fun _=>?_);(try simp only [go_sem,Nat.reduceAdd,Nat.reduceEqDiff,Nat.reduceLT,Nat.reduceLeDiff,Nat.reduceMul,reduceCtorEq,↓reduceIte]);exact Fp ⟨_,_,_,_,_,_,hh⟩ dU aY Fo (by simp [lL]) (by simp [fieldsOf])
  | wait e nm=>cases uJ
  | busy=>cases uJ
  | emp=>cases uJ
 ·rintro ρ w3 ⟨S3,m3,dJ,vL,sA,hZ,K3,jK,pM,bo,vN,Fu,aiP,aiQ,g0,g4,gT⟩;obtain ⟨a3,c3,rfl,cr,_⟩:=vN.own.val
  have hq:(if 16777216 < dJ.length then none else match dJ.getLast? with
   | none=>some { m3 with kind:=2}
   | some c=>match j9 X z c m3 with
    | none=>none
    | some (none,m3)=>some m3
    | some (some y,m3)=>iq X z y dJ.dropLast m3)=some mF:=gT
  have hlw:dJ.length≤16777216:=by
   apply Classical.byContradiction;intro hn;rw [if_pos (by omega)] at hq;cases hq
  rw [if_neg (by omega)] at hq;have Sr3:∀ y,y=r→S3 y:=fun y hy=>by obtain ⟨_,_,_,_,_,_,hx⟩:=jK;rw [hy];exact hx.bt _ (by simp)
  cases hl:dJ.getLast? with
  | none=>
   rw [hl] at hq;cases hq;have h0:=List.getLast?_eq_none_iff.1 hl;have b0:((dJ.length:Int) == 0)=true:=by rw [h0];try rfl
   obtain ⟨vt,vf,db,bO,cw,cB,hh⟩:=jK.drop;(try simp only [go_sem,Nat.reduceAdd,Nat.reduceEqDiff,Nat.reduceLT,Nat.reduceLeDiff,Nat.reduceMul,reduceCtorEq,↓reduceIte,g0,g4,b0]);refine fF (b:=r) (off:=0) (v:=I 2) rfl rfl hh.box rfl (by simp) ?_;intro w4 aZ aA eA;(try simp only [go_sem,Nat.reduceAdd,Nat.reduceEqDiff,Nat.reduceLT,Nat.reduceLeDiff,Nat.reduceMul,reduceCtorEq,↓reduceIte,aE,RV.ev,aF]);exact ⟨⟨S3,dY,⟨_,_,_,_,_,_,hh.EU (m':={ m3 with kind:=2}) aA aZ rfl rfl rfl ⟨hh.steps.1,hh.steps.2.1⟩⟩,pM⟩,kM bo pM (aA.aT Sr3)⟩
  | some c=>
   rw [hl] at hq;simp only at hq;have bw:dJ≠[]:=fun e=>by rw [e] at hl;cases hl
   have Ax:0 < dJ.length:=List.length_pos_iff.2 bw;have b0:((dJ.length:Int) == 0)=false:=by
    have:¬ (dJ.length:Int)=0:=by omega
    simpa using this
   have e1:IntKind.i64.wrap ((dJ.length:Int) - 1)=((dJ.length - 1:Nat):Int):=by rw [dk (by omega) (by omega)];omega
   have b1:(0:Int)≤((dJ.length - 1:Nat):Int)∧((dJ.length - 1:Nat):Int) < dJ.length:=by omega
   have b3:(0:Int)≤((dJ.length - 1:Nat):Int)∧((dJ.length - 1:Nat):Int)≤c3:=by omega
   have oF:=vN.all.at.1;obtain ⟨bW,cW,sp,e2,A9,I2,_,_⟩:=vN.own.pos Ax;cases e2;have aeR:dJ[dJ.length - 1]? = some c:=by rw [← List.getLast?_eq_getElem?];exact hl
   have hk:dJ.length - 1 < sA.length:=by omega
   obtain ⟨b,hrb,dV⟩:=vN.all.at.2 _ _ _ (List.getElem?_eq_getElem hk) aeR;have GL:w3.cell? ⟨bW,dJ.length - 1,none⟩=some (ptr b):=by
    rw [cell_of I2];simp only [List.getElem?_toArray];rw [List.getElem?_append_left hk,List.getElem?_eq_getElem hk,hrb]
   (try simp only [go_sem,Nat.reduceAdd,Nat.reduceEqDiff,Nat.reduceLT,Nat.reduceLeDiff,Nat.reduceMul,reduceCtorEq,↓reduceIte,g0,g4,b0,e1]);(try simp only [go_sem,Nat.reduceAdd,Nat.reduceEqDiff,Nat.reduceLT,Nat.reduceLeDiff,Nat.reduceMul,reduceCtorEq,↓reduceIte,bq,br,g0,g4,b0,e1,b1,b3,SJ,ite_self,Nat.mul_one,nE,Nat.zero_add,GL]);have Fk:dJ.dropLast=dJ.take (dJ.length - 1):=List.dropLast_eq_take;have jO:o8 w3 w dY (.slice (some ⟨bW,0,none⟩) (dJ.length - 1) c3) dJ.dropLast (sA.take (dJ.length - 1)) hZ K3:=by
    refine ⟨?_,by rw [Fk];exact SR _ vN.all,vN.new,vN.k1⟩;have:=SK vN.own (k:=dJ.length - 1) (by omega);rw [Nat.mul_one] at this;rw [List.length_dropLast];exact this
   cases ny:j9 X z c m3 with
   | none=>rw [ny] at hq;cases hq
   | some rr=>
   rw [ny] at hq;have cX:=Fl ny Fu;have aeS:0≤m3.steps:=by omega
   refine aK (by rfl) ?_;refine (aeD jK dV (by rw [Fu];exact aeS) (by rw [aeG];exact ny)).mono ?_;rintro v w4 ⟨⟨S4,Tb,o0,Lh,aeT,iv⟩,aA⟩;have Tc:=lO pM Lh bo.size;have eG:=kM bo pM aA
   match rr,hq,cX,o0,iv with
   | (none,m4),hq,cX,o0,iv=>
    have iv:v=_:=iv;subst iv;cases hq;(try simp only [go_sem,Nat.reduceAdd,Nat.reduceEqDiff,Nat.reduceLT,Nat.reduceLeDiff,Nat.reduceMul,reduceCtorEq,↓reduceIte,aE,RV.ev,aF]);exact ⟨⟨S4,Tb,o0.drop,Tc⟩,eG⟩
   | (some y,m4),hq,cX,o0,⟨u4,e4,Lb,Cj⟩=>
    subst e4;have ht4:m4.told=m3.told:=cX.told;have eA:m3.steps≤m4.steps:=cX.steps;obtain ⟨_,_,Ci⟩:=cX.val y rfl;have hw4:=jO.up jK o0 aeT;(try simp only [go_sem,Nat.reduceAdd,Nat.reduceEqDiff,Nat.reduceLT,Nat.reduceLeDiff,Nat.reduceMul,reduceCtorEq,↓reduceIte]);exact ⟨_,Nat.lt_succ_self z,eG,S4,Tb,m4,y,u4,_,_,_,_,K3,o0,Tc,Lb,Cj,hw4,Ci,by rw [ht4];omega,hq,rfl,rfl⟩
end
end Go.Proofs.YtjfgeekjjlhbdaaGreatDoor