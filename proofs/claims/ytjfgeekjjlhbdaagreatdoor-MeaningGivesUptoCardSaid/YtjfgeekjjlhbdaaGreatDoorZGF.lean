/- Texts that the last file stands on: M18, M19, M20, M21, Q9, Q10, Q12, Q13, Q11, Q14, Q15, N1, N2, N3, N4, M22, N5, Q16, Q17, N6, Q18, Q19, N7, V1, V2, V3, Q27, Q23, G1, N11, N13, Q24, Q25, Q26, N12, Q28, Q29. -/
import Derived.Test.YtjfgeekjjlhbdaaGreatDoorZGE
import Derived.Test.YtjfgeekjjlhbdaaGreatDoorZGA
import Derived.Test.YtjfgeekjjlhbdaaGreatDoorRows
import Derived.Deep.Slices
import Derived.Test.YtjfgeekjjlhbdaaGreatDoorCards
import Derived.Test.YtjfgeekjjlhbdaaGreatDoorTie
import Derived.Deep.DeepHandedRow
import Derived.Lay
import Derived.MakeChecks
import Derived.Test.YtjfgeekjjlhbdaaGreatDoorZGC
set_option linter.unusedSimpArgs false
set_option linter.unusedVariables false
set_option maxRecDepth 100000
namespace Go.Proofs.YtjfgeekjjlhbdaaGreatDoor
section
open Go Go.W
theorem L6 {P:Program} {w:World} {ρ:Go.W.Env} {K:Value→World→Prop} {d:Option Nat} {t:TypeId} {m x y:Operand} {ty:TypeId} {pos:String} {af:Array Edge} (h:Go.W.E.wp P w ρ K (.raw ⟨d,.mapUpdate t m x y,ty,pos,af,none⟩)):Go.W.E.wp P w ρ K (.raw ⟨d,.insert t m x y,ty,pos,af,none⟩):=h
theorem iq.Ue {w w':World} {S:Nat→Prop} {r md mf:Nat} {bs:List Nat} {X:Cx} {m:Rn} {vt vf:Value} {dh bR:List (List Value)} {cB cD:Option Nat} {ds:List (ByteArray×Nat)} {fs:List (ByteArray×Int)} (h:iq w S r md mf bs X m vt vf dh bR cB cD) (hm:Mod (fun b=>b=md∨b=mf) w w') (hd:cE w' md (CH bs) ds) (hf:cE w' mf RI fs) :
   iq w' S r md mf bs { X with ak:=ds,fields:=fs} m vt vf dh bR cB cD:=by
 obtain ⟨n1,n2,n3,n4,n5,n6,n7,n8,n9⟩:=h.ne;have Sm:∀ b,(b=md∨b=mf)→S b:=fun b hb=>by
  rcases hb with rfl | rfl<;>exact h.bt _ (by simp)
 have bB:=hm.aU Sm;refine ⟨hm.at h.box (fun e=>by rcases e with e | e;exact n1 e;exact n2 e),h.told.mod hm (fun b hb e=>by rcases e with e | e;exact (n4 b hb).2.1 e.symm;exact (n4 b hb).2.2 e.symm),h.items,h.pA.mod hm (fun b hb e=>by rcases e with e | e;exact (n5 b hb).2.1 e.symm;exact (n5 b hb).2.2 e.symm),h.aO.imp (fun _ _ x=>x.up bB aK (aX bB) (fun _ _ h=>h)),h.blocks,h.bt,fun b hb=>Nat.lt_of_lt_of_le (h.lt b hb) hm.size,h.len,?_,hd,hf,h.steps,fun p hp=>?_⟩
 ·intro i b x hi hx;obtain ⟨v,h1,h2⟩:=h.cell i b x hi hx;have du:=List.mem_of_getElem? hi;exact ⟨v,hm.at h1 (fun e=>by rcases e with e | e;exact (n6 b du).2.1 e.symm;exact (n6 b du).2.2 e.symm),h2.up bB aK (aX bB) (fun _ _ h=>h)⟩
 ·obtain ⟨a1,a2,a3⟩:=h.kept p hp;exact ⟨hm.at a1 (fun e=>by rcases e with e | e<;>exact a3 (by rw [e];simp)),a2,a3⟩
def mA:List Df→Nat→List (ByteArray×Nat)→List (ByteArray×Nat)
 | [],_,l=>l
 | d::ds,i,l=>mA ds (i+1) (bO l d.name i)
def qB:List Cn→List (ByteArray×Int)→List (ByteArray×Int)
 | [],l=>l
 | k::ks,l=>qB ks (bO l k.name k.fields.length)
def tw:List Dt→List (ByteArray×Int)→List (ByteArray×Int)
 | [],l=>l
 | d::ds,l=>tw ds (qB d.cons l)
abbrev di:ByteArray:=⟨#[67,111,110,115]⟩
abbrev C9:ByteArray:=⟨#[80,97,105,114]⟩
abbrev C':ByteArray:=⟨#[84,114,105,112,108,101]⟩
def tx:List (ByteArray×Int):=[(di,2),(C9,2),(C',3)]
def cw (p:Pg) (fuel:Int):Cx:={ fuel:=fuel,ak:=mA p.ak 0 [],fields:=tw p.aH tx}
def dI (p:Pg):Rn:={ cells:=p.ak.map (fun d=>Cl.wait d.body []),aO:=[],told:=[],steps:=0,kind:=0,stuck:=0}
theorem afR {l:List Df} {i:Nat} (hi:i < l.length) (m:List (ByteArray×Nat)):mA (l.drop i) i m=mA (l.drop (i+1)) (i+1) (bO m l[i].name i):=by rw [List.drop_eq_getElem_cons hi,mA]
theorem afS {l:List Cn} {i:Nat} (hi:i < l.length) (m:List (ByteArray×Int)):qB (l.drop i) m=qB (l.drop (i+1)) (bO m l[i].name l[i].fields.length):=by rw [List.drop_eq_getElem_cons hi,qB]
theorem afT {l:List Dt} {i:Nat} (hi:i < l.length) (m:List (ByteArray×Int)):tw (l.drop i) m=tw (l.drop (i+1)) (qB l[i].cons m):=by rw [List.drop_eq_getElem_cons hi,tw]
theorem afU (p:Pg) {fuel:Int} {w:World} {cs:List Value} (h:jR w (Out (fun _=>False) w) cs p) (hf:0≤fuel∧fuel≤1048576) :
   a8 Tryz.prog 25 [.agg cs.toArray,I fuel] w fun v w'=>(∃ (r md mf:Nat) (S:Nat→Prop) (bs:List Nat),v=ptr r∧cK w' S r md mf bs (cw p fuel) (dI p)∧∀ b,S b→w.heap.size≤b)∧Mod (fun _=>False) w w':=by
 obtain ⟨vd,vf,rfl,hd,AO⟩:=h;obtain ⟨ad,cd,rfl⟩:=a7 hd;obtain ⟨af,cf,rfl⟩:=a7 AO;have kJ:=dB AO;have Su:=dB hd;refine YG.calls rfl ?_;unfold HV;(try simp only [go_sem,simprocAttr]);refine bD rfl ?_;intro w1 ar aj bC;(try simp only [go_sem,simprocAttr]);refine pY (α:=Nat) (fun _ _=>False) ?_;intro w2 nD ai bK;(try simp only [go_sem,simprocAttr]);refine pY (α:=Int) RI ?_;intro w3 KW aq eV;(try simp only [go_sem,simprocAttr]);refine L6 ?_;refine mS (kt:=9) (et:=3) (b:=w2.heap.size) (k:=di) (v:=I 2) (a:=(2:Int)) rfl rfl rfl rfl rfl KW rfl ?_;intro w4 Cz aA eG;(try simp only [go_sem,simprocAttr]);refine L6 ?_;refine mS (kt:=9) (et:=3) (b:=w2.heap.size) (k:=C9) (v:=I 2) (a:=(2:Int)) rfl rfl rfl rfl rfl Cz rfl ?_;intro w5 CA aD eN;(try simp only [go_sem,simprocAttr]);refine L6 ?_;refine mS (kt:=9) (et:=3) (b:=w2.heap.size) (k:=C') (v:=I 3) (a:=(3:Int)) rfl rfl rfl rfl rfl CA rfl ?_;intro w6 hp6 aJ gN;(try simp only [go_sem,simprocAttr]);refine bD rfl ?_;intro w7 dq aN jX;have m13:Mod (fun _=>False) w w3:=(aj.trans ai).trans aq;have z1:w1.heap.size=w.heap.size+1:=bC;have z2:w2.heap.size=w1.heap.size+1:=bK;have z3:w3.heap.size=w2.heap.size+1:=eV;have z6:w6.heap.size=w3.heap.size:=by omega
 have L7:Mod (· = w2.heap.size) w3 w6:=(aA.trans aD).trans aJ;have yO:Mod (fun _=>False) w w7:=(m13.step L7 (fun b hb hl=>by omega)).trans aN;have afV:=(((nD.mod aq _root_.id (fun _ _ h=>h)).mod L7 (fun e=>by omega) (fun _ _ h=>h)).mod aN _root_.id (fun _ _ h=>h):cE w7 w1.heap.size (fun _ _=>False) []);have afW:cE w7 w2.heap.size RI tx:=hp6.mod aN _root_.id (fun _ _ h=>h);have hR0:iq w7 (fun b=>b=w6.heap.size∨b=w1.heap.size∨b=w2.heap.size) w6.heap.size w1.heap.size w2.heap.size [] { fuel:=fuel,ak:=[],fields:=tx} { cells:=[],aO:=[],told:=[],steps:=0,kind:=0,stuck:=0} (.slice none 0 0) (.slice none 0 0) [] [] none none:=by
  refine ⟨dq,dx.nil _ _ _,trivial,dx.nil _ _ _,trivial,?_,?_,?_,rfl,fun i b x hi=>by simp at hi,?_,afW,⟨Int.le_refl _,hf.1,hf.2⟩,fun p hp=>by cases hp⟩
  ·simp [jI];omega
  ·intro b hb;simp [jI] at hb;exact hb
  ·have z7:w7.heap.size=w6.heap.size+1:=jX;rintro b (rfl | rfl | rfl)<;>omega
  ·obtain ⟨lv,hv,hp⟩:=afV;cases hp;exact ⟨[],hv,.nil⟩
 have wg:w7.heap[w.heap.size]? = some (.cells [.slice ad p.aH.length cd,.slice af p.ak.length cf].toArray 25 (0,0)):=by
  refine aN.at (L7.at ((ai.trans aq).at ar _root_.id) (fun e=>by omega)) _root_.id
 (try simp only [go_sem,simprocAttr,cell_of wg])
 refine fL (fun z ρ w'=>∃ (i:Nat) (S':Nat→Prop) (cP:List Nat) (ds:List (ByteArray×Nat)),z=p.ak.length - i∧i≤p.ak.length∧cK w' S' w6.heap.size w1.heap.size w2.heap.size cP { fuel:=fuel,ak:=ds,fields:=tx} { cells:=(p.ak.take i).map (fun d=>Cl.wait d.body []),aO:=[],told:=[],steps:=0,kind:=0,stuck:=0}∧(∀ b,S' b→w1.heap.size≤b)∧Mod (fun _=>False) w w'∧w'.heap[w.heap.size]? = some (.cells [.slice ad p.aH.length cd,.slice af p.ak.length cf].toArray 25 (0,0))∧mA p.ak 0 []=mA (p.ak.drop i) i ds ∧
  ρ=[(2,ptr w.heap.size),(5,ptr w6.heap.size),(19,I p.ak.length),(20,I i)]) p.ak.length ⟨0,_,[],[],by omega,by omega,⟨_,_,_,_,_,_,hR0⟩,?_,yO,wg,rfl,rfl⟩ ?_
 ·rintro b (rfl | rfl | rfl)<;>omega
 rintro z _ w8 ⟨i,S8,uP,ds,rfl,hi,tv,F5,bg,dW,dX,rfl⟩;unfold OY;by_cases q:i < p.ak.length
 ·have b1:decide ((i:Int) < p.ak.length)=true:=by simpa using q
  have p1:(0:Int)≤i∧(i:Int) < p.ak.length:=by omega
  have eJ:∀ {w':World} {S':Nat→Prop},Mod (fun _=>False) w w'→(∀ b,S' b→w1.heap.size≤b)→∀ b,Out (fun _=>False) w b→Out S' w' b:=fun hm hs b hb=>⟨Nat.lt_of_lt_of_le hb.1 hm.size,fun hh=>by have:=hs b hh;have:=hb.1;omega⟩
  have hd8:=AO.up bg aC (eJ bg F5) (fun _ _ h=>h.up bg aC (eJ bg F5));obtain ⟨kA,c2,rr,e1,afX,th,bH⟩:=iJ hd8 q;obtain ⟨rfl,-,-⟩:=bY e1;obtain ⟨vp,tc,bc,rfl,s8,L8,_,_,gL,_⟩:=afX;have c0:w8.cell? (kA.add (i*12))=some (.string p.ak[i].name):=bH.c0 (by simp)
  have hbp:gj w8 (Out S8 w8) ⟨(kA.add (i*12)).block,(kA.add (i*12)).off+5,none⟩ bc:=bH.part (fun j hj=>by
   rw [show 5+j=(j+3)+1+1 by omega];simp only [List.getElem?_cons_succ];rw [List.getElem?_append_right (by omega),s8,Nat.add_sub_cancel]
   exact List.getElem?_eq_getElem hj) (by decide)
  have lc:=lU c0;obtain ⟨KE,vf',tr',fr',tf',ff',Da⟩:=tv;have oA:uP.length=i:=by rw [Da.len];simp;omega
  (try simp only [go_sem,simprocAttr,b1]);(try simp only [go_sem,simprocAttr,bq,br,cell_of dW,cell_of Da.box,p1,c0]);have l8:=cO dW;have lr8:=cO Da.box;refine bD rfl ?_;intro w9 dL afY gA;have aV:Mod (fun _=>False) w8 w9:=afY.eF;refine ⟨⟨aV.bN _ lc _root_.id,aV.bN _ l8 _root_.id,aV.bN _ lr8 _root_.id⟩,?_⟩;have z9:w9.heap.size=w8.heap.size+1:=gA;have z8:=bg.size;(try simp only [go_sem,simprocAttr]);refine bD rfl ?_;intro cT gy bJ pW;refine ⟨⟨bJ.bN _ (by omega) _root_.id,bJ.bN _ (by omega) _root_.id,bJ.bN _ (by omega) _root_.id⟩,?_⟩;have gS:=aV.trans bJ;have j8:∀ b,b < w8.heap.size→aL S8 w9.heap.size b→S8 b:=eI (by omega);have zo:¬ aL S8 w9.heap.size w8.heap.size:=by
   rintro (hx | hx)
   ·have:=Da.lt _ hx;omega
   ·omega
  have yP:=(cK.aB ⟨_,_,_,_,_,_,Da⟩ aV).new (x:=.wait p.ak[i].body []) (v:=.iface 105 (ptr w8.heap.size)) bJ gy (Nat.le_refl _) ⟨_,_,_,rfl,SF (S:=aL S8 w9.heap.size) (cs:=[.pointer (some ⟨(kA.add (i*12)).block,(kA.add (i*12)).off+5,none⟩),.pointer none]) dL bJ zo,⟨_,bc,rfl,hbp.up (an gS (S:=S8)) aK (eH (an gS) j8),gL.up (an gS (S:=S8)) aK (eH (an gS) j8)⟩,rfl⟩;obtain ⟨vt,vf,trr,frr,cB,cD,F6⟩:=yP;have wi:(uP++[w9.heap.size])[i]? = some w9.heap.size:=by rw [← oA,List.getElem?_append_right (Nat.le_refl _)];simp
  (try simp only [go_sem,simprocAttr]);refine mS (kt:=9) (et:=82) (b:=w1.heap.size) (k:=p.ak[i].name) (v:=ptr w9.heap.size) (a:=i) rfl rfl rfl rfl rfl F6.ak ⟨_,rfl,wi⟩ ?_;intro fD afZ dO Cj;have e3:IntKind.i64.wrap ((i:Int)+1)=((i+1:Nat):Int):=by rw [dv (by omega) (by omega)];omega
  have bo:=F6.ne;have af0:=F6.Ue (dO.aU (fun b hb=>.inl hb)) afZ (F6.fields.mod dO (fun e=>bo.2.2.1 e.symm) (fun _ _ x=>x));have etk:(p.ak.take (i+1)).map (fun d=>Cl.wait d.body [])=(p.ak.take i).map (fun d=>Cl.wait d.body [])++[Cl.wait p.ak[i].body []]:=by
   rw [List.take_succ_eq_append_getElem q,List.map_append];try rfl
  (try simp only [go_sem,simprocAttr,e3]);refine ⟨_,by omega,i+1,_,_,_,rfl,q,⟨_,_,_,_,_,_,by rw [etk];exact af0⟩,?_,?_,?_,?_,rfl⟩
  ·rintro b (hb | hb)
   ·exact F5 b hb
   ·omega
  ·exact (bg.trans gS).step dO (fun b hb hl=>by omega)
  ·exact dO.at (gS.at dW _root_.id) (fun e=>by omega)
  ·rw [dX,afR q]
 ·have b1:decide ((i:Int) < p.ak.length)=false:=by simpa using q
  have hi2:i=p.ak.length:=by omega
  subst hi2;rw [List.drop_length,mA] at dX;rw [List.take_length] at tv;(try simp only [go_sem,simprocAttr,b1,cell_of dW]);have eJ:∀ {w':World},Mod (fun _=>False) w w'→∀ b,Out (fun _=>False) w b→Out (fun _=>False) w' b:=fun hm b hb=>⟨Nat.lt_of_lt_of_le hb.1 hm.size,hb.2⟩
  refine fL (fun z ρ w'=>∃ (i:Nat) (fs:List (ByteArray×Int)),z=p.aH.length - i∧i≤p.aH.length∧cK w' S8 w6.heap.size w1.heap.size w2.heap.size uP { fuel:=fuel,ak:=ds,fields:=fs} (dI p)∧Mod (fun _=>False) w w'∧tw p.aH tx=tw (p.aH.drop i) fs ∧
   ρ=[(5,ptr w6.heap.size),(45,.slice ad p.aH.length cd),(46,I p.aH.length),(47,I i)]) p.aH.length ⟨0,tx,by omega,by omega,tv,bg,rfl,rfl⟩ ?_
  rintro z _ w9 ⟨i,fs,rfl,hi3,F7,aV,gX,rfl⟩;unfold O0;by_cases q2:i < p.aH.length
  ·have b2:decide ((i:Int) < p.aH.length)=true:=by simpa using q2
   have p2:(0:Int)≤i∧(i:Int) < p.aH.length:=by omega
   have e3:IntKind.i64.wrap ((i:Int)+1)=((i+1:Nat):Int):=by rw [dv (by omega) (by omega)];omega
   obtain ⟨kA,c2,rr,e1,⟨vp,vc,rfl,gk,yQ⟩,bT,bH⟩:=iJ hd q2;obtain ⟨rfl,-,-⟩:=bY e1;obtain ⟨ac,cc,rfl⟩:=a7 yQ;have p6:=dB yQ;obtain ⟨ap,cp,rfl⟩:=a7 gk;have bU:=pa bT (bH.up aV aC (eJ aV)).2;(try simp only [go_sem,simprocAttr,b2]);(try simp only [go_sem,simprocAttr,bq,br,p2,bU]);refine cM ?_;intro cT gy bJ pW;(try simp only [go_sem,simprocAttr]);refine bL (vs:=[.string p.aH[i].name,.slice ap p.aH[i].params.length cp,.slice ac p.aH[i].cons.length cc]) (cs:=[.string bI,.slice none 0 0,.slice none 0 0]) rfl rfl gy rfl rfl (aS rfl (aS rfl (aS rfl dE))) ?_;intro fD nJ dO Cj;have Av:Mod (fun _=>False) w9 fD:=bJ.step dO (fun b hb hl=>by have e:b=w9.heap.size:=hb;omega);(try simp only [go_sem,simprocAttr,cell_of nJ])
   refine fL (fun z ρ w'=>∃ (k:Nat) (ix:List (ByteArray×Int)),z=p.aH[i].cons.length - k∧k≤p.aH[i].cons.length∧cK w' S8 w6.heap.size w1.heap.size w2.heap.size uP { fuel:=fuel,ak:=ds,fields:=ix} (dI p)∧Mod (fun _=>False) w w'∧qB p.aH[i].cons fs=qB (p.aH[i].cons.drop k) ix ∧
    ρ=[(5,ptr w6.heap.size),(45,.slice (some kA) p.aH.length cd),(46,I p.aH.length),(47,I i),(52,.slice ac p.aH[i].cons.length cc),(53,I p.aH[i].cons.length),(54,I k)]) p.aH[i].cons.length ⟨0,fs,by omega,by omega,F7.aB Av,aV.trans Av,rfl,rfl⟩ ?_
   rintro z _ p8 ⟨k,ix,rfl,mW,Uf,fU,L9,rfl⟩;unfold OZ;by_cases q3:k < p.aH[i].cons.length
   ·have b3:decide ((k:Int) < p.aH[i].cons.length)=true:=by simpa using q3
    have p3:(0:Int)≤k∧(k:Int) < p.aH[i].cons.length:=by omega
    have e4:IntKind.i64.wrap ((k:Int)+1)=((k+1:Nat):Int):=by rw [dv (by omega) (by omega)];omega
    obtain ⟨Qv,c3,rr3,e5,⟨vf3,rfl,jt,_⟩,fJ,Aw⟩:=iJ yQ q3;obtain ⟨rfl,-,-⟩:=bY e5;obtain ⟨af3,cf3,rfl⟩:=a7 jt;have L':=pa fJ (Aw.up fU aC (eJ fU)).2;(try simp only [go_sem,simprocAttr,b3]);(try simp only [go_sem,simprocAttr,bq,br,p3,L']);refine cM ?_;intro Db fO qb Ug;(try simp only [go_sem,simprocAttr]);refine bL (vs:=[.string p.aH[i].cons[k].name,.slice af3 p.aH[i].cons[k].fields.length cf3]) (cs:=[.string bI,.slice none 0 0]) rfl rfl fO rfl rfl (aS rfl (aS rfl dE)) ?_;intro F8 yk mu aj7;have Uh:Mod (fun _=>False) p8 F8:=qb.step mu (fun b hb hl=>by have e:b=p8.heap.size:=hb;omega);obtain ⟨vt,vf,trr,frr,cB,cD,Dc⟩:=Uf.aB Uh;have d14:Mod (fun _=>False) F8 F8.drew:=(Mod.refl _ _).drew;(try simp only [go_sem,simprocAttr,cell_of yk,cell_of Dc.box]);refine mS (kt:=9) (et:=3) (b:=w2.heap.size) (k:=p.aH[i].cons[k].name) (v:=I p.aH[i].cons[k].fields.length) (a:=(p.aH[i].cons[k].fields.length:Int)) rfl rfl rfl rfl rfl (Dc.aB d14).fields rfl ?_;intro w15 af1 tj aj8;have af2:=(Dc.aB d14).Ue (tj.aU (fun b hb=>.inr hb)) ((Dc.aB d14).ak.mod tj (fun e=>Dc.ne.2.2.1 e) (fun _ _ x=>x)) af1;(try simp only [go_sem,simprocAttr,e4]);have aj9:w.heap.size≤w2.heap.size:=by omega
    exact ⟨_,by omega,k+1,_,rfl,q3,⟨_,_,_,_,_,_,af2⟩,(fU.trans (Uh.trans d14)).step tj (fun b hb hl=>by have e:b=w2.heap.size:=hb;omega),by rw [L9,afS q3],rfl⟩
   ·have b3:decide ((k:Int) < p.aH[i].cons.length)=false:=by simpa using q3
    have mP:k=p.aH[i].cons.length:=by omega
    subst mP;rw [List.drop_length,qB] at L9;(try simp only [go_sem,simprocAttr,b3,e3]);exact ⟨_,by omega,i+1,ix,rfl,q2,Uf,fU,by rw [gX,afT q2,L9],rfl⟩
  ·have b2:decide ((i:Int) < p.aH.length)=false:=by simpa using q2
   have hi4:i=p.aH.length:=by omega
   subst hi4;rw [List.drop_length,tw] at gX;(try simp only [go_sem,simprocAttr,b2,aE,RV.ev,aF]);have hX:cw p fuel = { fuel:=fuel,ak:=ds,fields:=fs}:=by unfold cw;rw [dX,gX]
   exact ⟨⟨w6.heap.size,w1.heap.size,w2.heap.size,S8,uP,rfl,by rw [hX];exact F7,fun b hb=>by have:=F5 b hb;omega⟩,aV⟩
end
section
open Go Go.W
theorem af4 {w:World} {S:Nat→Prop} {bs:List Nat} {b T c i j x y:Nat} (hb:w.heap[b]? = some (.cells [ptr x,ptr y].toArray T (0,0))) (hS:¬ S b) (hi:bs[i]? = some x) (hj:bs[j]? = some y):uK w (Out S w) bs [i,j] (.slice (some ⟨b,0,none⟩) 2 c):=by
 refine ⟨[[ptr x],[ptr y]],⟨⟨_,c,rfl,fun _ ad e=>by cases e;exact ⟨cO hb,hS⟩,fun k hk=>⟨_,rfl,?_,?_⟩⟩,by simp⟩,rfl,?_⟩
 ·match k,hk with
  | 0,_=>rfl
  | 1,_=>rfl
 ·intro q hq;rw [oo,oo,cell_of hb]
  match k,hk,q,hq with
  | 0,_,0,_=>rfl
  | 1,_,0,_=>rfl
  | 0,_,q+1,hq=>simp at hq
  | 1,_,q+1,hq=>simp at hq
 ·intro k r c hr hc
  match k with
  | 0=>simp only [List.getElem?_cons_zero,Option.some.injEq] at hr hc;subst hr hc;exact ⟨x,rfl,hi⟩
  | 1=>simp only [List.getElem?_cons_succ,List.getElem?_cons_zero,Option.some.injEq] at hr hc;subst hr hc;exact ⟨y,rfl,hj⟩
  | k+2=>simp at hr
def Rn.ls (m:Rn) (l:List Int):Rn:={ m with cells:=(cR l m.cells).2}
theorem AP (l:List Int) (cs:List Cl):∃ n fs,(cR l cs).1 = .aZ n fs:=by
 cases l with
 | nil=>exact ⟨_,_,rfl⟩
 | cons n l=>exact ⟨_,_,rfl⟩
theorem af5 (m:Rn) (n:Int) (l:List Int):m.ls (n::l)=(((m.ls l).new (.num n)).new (cR l m.cells).1):=by
 unfold Rn.ls Rn.new;simp [cR]
theorem af6 {input:List Int} {v:Value} {w:World} {S:Nat→Prop} {r md mf:Nat} {bs:List Nat} {X:Cx} {m:Rn} (h:cK w S r md mf bs X m) (hi:o7 w v input) :
   a8 Tryz.prog 28 [v] w fun u w'=>(∃ S' cP,cK w' S' r md mf cP X (m.ls input)∧dR S S' w∧(∀ (c b:Nat),bs[c]? = some b→cP[c]? = some b)∧iL w' (Out S' w') cP (cR input m.cells).1 u)∧Mod (fun _=>False) w w':=by
 obtain ⟨av,cv,rfl,hle,_⟩:=hi;rename_i wQ;refine YJ.calls rfl ?_;unfold HY;(try simp only [go_sem,Nat.reduceAdd,Nat.reduceEqDiff,Nat.reduceLT,Nat.reduceLeDiff,Nat.reduceMul,reduceCtorEq,↓reduceIte]);refine bD rfl ?_;intro w1 ar aj bC;have e1:IntKind.i64.wrap ((input.length:Int) - 1)=(input.length:Int) - 1:=dv (by omega) (by omega);(try simp only [go_sem,Nat.reduceAdd,Nat.reduceEqDiff,Nat.reduceLT,Nat.reduceLeDiff,Nat.reduceMul,reduceCtorEq,↓reduceIte,e1]);have hS:=h;obtain ⟨_,_,_,_,_,_,hh⟩:=hS
 refine fL (fun k ρ w'=>k≤input.length∧∃ (S':Nat→Prop) (cP:List Nat) (u:Value),cK w' S' r md mf cP X (m.ls (input.drop k))∧dR S S' w∧(∀ (c b:Nat),bs[c]? = some b→cP[c]? = some b)∧iL w' (Out S' w') cP (cR (input.drop k) m.cells).1 u∧Mod (fun _=>False) w w' ∧
  ρ=[(0,.slice av input.length cv),(3,u),(4,I ((k:Int) - 1))]) input.length ⟨Nat.le_refl _,S,bs,.iface 111 (ptr w.heap.size),?_,nr,fun _ _ h=>h,?_,aj,rfl⟩ ?_
 ·rw [List.drop_length];exact h.aB aj
 ·rw [List.drop_length];exact ⟨_,_,rfl,rL (cs:=[.string ⟨#[78,105,108]⟩,.slice none 0 0]) ar (fun hx=>by have:=hh.lt _ hx;omega),ej _ _ _ _⟩
 ·rintro k _ w2 ⟨hk,S2,rO,u,eY,gZ,Ui,rR,ai,rfl⟩;unfold O1
  match k,hk,eY,rR with
  | 0,hk,eY,rR=>
   have b0:decide (((0:Nat):Int) - 1≥0)=false:=by decide
   (try simp only [go_sem,Nat.reduceAdd,Nat.reduceEqDiff,Nat.reduceLT,Nat.reduceLeDiff,Nat.reduceMul,reduceCtorEq,↓reduceIte,b0,aE,RV.ev,aF]);exact ⟨⟨S2,rO,eY,gZ,Ui,rR⟩,ai⟩
  | k+1,hk,eY,rR=>
   have Uj:k < input.length:=by omega
   obtain ⟨ad,rfl,hc⟩:=wQ k Uj;have ju:=ai.cell hc _root_.id;have e2:((k+1:Nat):Int) - 1=(k:Int):=by omega
   have e3:IntKind.i64.wrap ((k:Int) - 1)=(k:Int) - 1:=dv (by omega) (by omega);have b0:decide ((k:Int)≥0)=true:=by simp
   have p1:(0:Int)≤k∧(k:Int) < input.length:=by omega
   obtain ⟨kn,kf,gP⟩:=AP (input.drop (k+1)) m.cells;obtain ⟨T,z,CO,_⟩:=Az rR (by rw [gP];try rfl);subst CO;(try simp only [go_sem,Nat.reduceAdd,Nat.reduceEqDiff,Nat.reduceLT,Nat.reduceLeDiff,Nat.reduceMul,reduceCtorEq,↓reduceIte,e2,b0]);(try simp only [go_sem,Nat.reduceAdd,Nat.reduceEqDiff,Nat.reduceLT,Nat.reduceLeDiff,Nat.reduceMul,reduceCtorEq,↓reduceIte,bq,br,e2,b0,p1,ju]);refine bD rfl ?_;intro w3 aM aq eV;have ki:=eY.new (x:=.num input[k]) (v:=.iface 115 (I input[k])) aq aM (Nat.le_refl _) rfl;have CP:=rR.up (an aq (S:=S2)) aK (eH (an aq) (eI (Nat.le_refl _))) (mw (b:=w2.heap.size));(try simp only [go_sem,Nat.reduceAdd,Nat.reduceEqDiff,Nat.reduceLT,Nat.reduceLeDiff,Nat.reduceMul,reduceCtorEq,↓reduceIte]);refine bD rfl ?_;intro w4 ba aA eG;have pC:=ki.new (x:=(cR (input.drop (k+1)) m.cells).1) (v:=.iface T z) aA ba (Nat.le_refl _) (CP.up (an aA (S:=aL S2 w2.heap.size)) aK (eH (an aA) (eI (Nat.le_refl _))) mw);(try simp only [go_sem,Nat.reduceAdd,Nat.reduceEqDiff,Nat.reduceLT,Nat.reduceLeDiff,Nat.reduceMul,reduceCtorEq,↓reduceIte]);refine fA (cs:=#[ptr w2.heap.size,ptr w3.heap.size]) rfl rfl ?_;intro w5 bG aD eN;(try simp only [go_sem,Nat.reduceAdd,Nat.reduceEqDiff,Nat.reduceLT,Nat.reduceLeDiff,Nat.reduceMul,reduceCtorEq,↓reduceIte]);refine bD rfl ?_;intro w6 ci aJ gN;(try simp only [go_sem,Nat.reduceAdd,Nat.reduceEqDiff,Nat.reduceLT,Nat.reduceLeDiff,Nat.reduceMul,reduceCtorEq,↓reduceIte,e3]);have Uk:input.drop k=input[k]::input.drop (k+1):=List.drop_eq_getElem_cons Uj;have hls:m.ls (input.drop k)=((m.ls (input.drop (k+1))).new (.num input[k])).new (cR (input.drop (k+1)) m.cells).1:=by rw [Uk,af5]
   have z2:=ai.size;have KD:w3.heap.size=w2.heap.size+1:=eV;have KH:w4.heap.size=w3.heap.size+1:=eG;have z45:w5.heap.size=w4.heap.size+1:=eN
   have L4:dR S (aL (aL S2 w2.heap.size) w3.heap.size) w:=⟨fun b hb=>.inl (.inl (gZ.1 b hb)),fun b hb=>by
    rcases hb with (h | h) | h
    ·exact gZ.2 b h
    ·right;omega
    ·right;omega⟩
   have af7:∀ b,S2 b→b < w2.heap.size:=by obtain ⟨_,_,_,_,_,_,hx⟩:=eY;exact hx.lt
   have Ul:rO.length=(m.ls (input.drop (k+1))).cells.length:=by obtain ⟨_,_,_,_,_,_,hx⟩:=eY;exact hx.len
   have zo:∀ x,w4.heap.size≤x→¬ (aL (aL S2 w2.heap.size) w3.heap.size) x:=fun x hx hh=>by
    rcases hh with (h | h) | h
    ·have:=af7 _ h;omega
    ·omega
    ·omega
   refine ⟨k,Nat.lt_succ_self k,by omega,aL (aL S2 w2.heap.size) w3.heap.size,rO++[w2.heap.size]++[w3.heap.size],_,?_,L4,fun c b h=>mw _ _ (mw _ _ (Ui c b h)),?_,(ai.trans (aq.trans aA)).trans (aD.trans aJ),rfl⟩
   ·rw [hls];exact (pC.aB aD).aB aJ
   ·rw [Uk];refine ⟨_,_,rfl,rL (cs:=[.string ⟨#[67,111,110,115]⟩,.slice (some ⟨w4.heap.size,0,none⟩) 2 2]) ci (zo _ (by omega)),af4 (aJ.at bG _root_.id) (zo _ (Nat.le_refl _)) ?_ ?_⟩
    ·show (rO++[w2.heap.size]++[w3.heap.size])[(cR (input.drop (k+1)) m.cells).2.length]? = _;have:(cR (input.drop (k+1)) m.cells).2.length=rO.length:=by rw [Ul];try rfl
     rw [this,List.append_assoc,List.getElem?_append_right (Nat.le_refl _)];simp
    ·show (rO++[w2.heap.size]++[w3.heap.size])[(cR (input.drop (k+1)) m.cells).2.length+1]? = _;have:(cR (input.drop (k+1)) m.cells).2.length=rO.length:=by rw [Ul];try rfl
     rw [this,List.append_assoc,List.getElem?_append_right (by omega)];simp
end
section
open Go Go.W
abbrev rS:=Ty→bM→Option (Bool×bM)
def mB (f:rS):List Ty→bM→Option (Bool×bM)
 | [],s=>some (true,s)
 | t::l,s=>match f t s with
  | none=>none
  | some (false,s')=>some (false,s')
  | some (true,s')=>mB f l s'
def rT (f:rS):List Cn→bM→Option (Bool×bM)
 | [],s=>some (true,s)
 | k::l,s=>match mB f k.fields s with
  | none=>none
  | some (false,s')=>some (false,s')
  | some (true,s')=>rT f l s'
def oU (f:rS) (n:ByteArray):List Dt→bM→Option (Bool×bM)
 | [],s=>some (true,s)
 | d::l,s=>if d.name≠n then oU f n l s else match rT f d.cons s with
  | none=>none
  | some (false,s')=>some (false,s')
  | some (true,s')=>oU f n l s'
def iy (ds:List Dt):Nat→rS
 | 0=>fun _ _=>none
 | n+1=>fun t s=>if t.kind=3 then some (false,s) else match mB (iy ds n) t.args s with
  | none=>none
  | some (false,s')=>some (false,s')
  | some (true,s')=>if t.kind≠4∨(aG s' t.name).getD 0 > 0 then some (true,s') else oU (iy ds n) t.name ds (bO s' t.name 1)
theorem Um {f:rS} {l:List Ty} {i:Nat} (hi:i < l.length) (s:bM):mB f (l.drop i) s=match f l[i] s with
   | none=>none
   | some (false,s')=>some (false,s')
   | some (true,s')=>mB f (l.drop (i+1)) s':=by rw [List.drop_eq_getElem_cons hi,mB]
theorem af8 {f:rS} {l:List Cn} {i:Nat} (hi:i < l.length) (s:bM):rT f (l.drop i) s=match mB f l[i].fields s with
   | none=>none
   | some (false,s')=>some (false,s')
   | some (true,s')=>rT f (l.drop (i+1)) s':=by rw [List.drop_eq_getElem_cons hi,rT]
theorem af9 {f:rS} {n:ByteArray} {l:List Dt} {i:Nat} (hi:i < l.length) (s:bM):oU f n (l.drop i) s=if l[i].name≠n then oU f n (l.drop (i+1)) s else match rT f l[i].cons s with
   | none=>none
   | some (false,s')=>some (false,s')
   | some (true,s')=>oU f n (l.drop (i+1)) s':=by rw [List.drop_eq_getElem_cons hi,oU]
theorem Ma (p:Pg):∀ (n:Nat) (t:Ty) {s s':bM} {b:Bool} {w:World} {B:Nat→Prop} {cs ct:List Value} {sm:Nat},jR w B cs p→aW w B ct t→cE w sm RI s→¬ B sm→iy p.aH n t s=some (b,s') →
   a8 Tryz.prog 34 [.agg cs.toArray,.agg ct.toArray,.map (some sm)] w fun v w'=>v = .bool b∧cE w' sm RI s'∧Mod (· = sm) w w'
 | 0,t,s,s',b,w,B,cs,ct,sm,hp,ht,hm,hB,h=>by rw [iy] at h;cases h
 | n+1,t,s,s',b,w,B,cs,ct,sm,hp,ht,hm,hB,h=>by
  have Cu:=hp;have lts:sm < w.heap.size:=by obtain ⟨lv,⟨es,c,h1,_⟩,_⟩:=hm;exact cO h1
  obtain ⟨vd,vf,rfl,hd,_⟩:=hp;obtain ⟨ad,cd,rfl⟩:=a7 hd;have Su:=dB hd;obtain ⟨va,rfl,hl⟩:=ht.cells;obtain ⟨aa,ca,rfl⟩:=a7 hl;have PU:=dB hl;have wR:∀ b,B b→¬ (b=sm):=fun b hb e=>hB (by rw [← e];exact hb)
  have h:(if t.kind=3 then some (false,s) else match mB (iy p.aH n) t.args s with
   | none=>none
   | some (false,s')=>some (false,s')
   | some (true,s')=>if t.kind≠4∨(aG s' t.name).getD 0 > 0 then some (true,s') else oU (iy p.aH n) t.name p.aH (bO s' t.name 1))=some (b,s'):=h
  refine YT.calls rfl ?_;unfold H5;refine dU (fun ρ w2=>∃ b3 b4,w.heap.size≤b3∧w.heap.size≤b4∧w2.heap[b3]? = some (.cells [.slice ad p.aH.length cd,vf].toArray 25 (0,0))∧w2.heap[b4]? = some (.cells [I t.kind,.string t.name,.slice aa t.args.length ca].toArray 42 (0,0))∧Mod (fun _=>False) w w2∧ρ=[(2,.map (some sm)),(3,ptr b3),(4,ptr b4)]) ?_ ?_
  ·(try simp only [go_sem,simprocAttr]);refine bD rfl ?_;intro w1 ar aj bC;(try simp only [go_sem,simprocAttr]);refine bD rfl ?_;intro w2 au ai bK;(try simp only [go_sem,simprocAttr]);exact ⟨w.heap.size,w1.heap.size,Nat.le_refl _,aj.size,ai.at ar _root_.id,au,aj.trans ai,rfl⟩
  rintro _ w2 ⟨b3,b4,l3,l4,aM,ba,iz,rfl⟩;have m2:Mod (· = sm) w w2:=iz.aU (fun _ h=>h.elim);have xW:=hm.mod iz _root_.id (fun _ _ x=>x);have later:∀ {w':World},Mod (· = sm) w w'→∀ {w3:World},True:=fun _=>trivial
  have box:∀ {w':World},Mod (· = sm) w2 w'→w'.heap[b3]? = some (.cells [.slice ad p.aH.length cd,vf].toArray 25 (0,0))∧w'.heap[b4]? = some (.cells [I t.kind,.string t.name,.slice aa t.args.length ca].toArray 42 (0,0))∧Mod (· = sm) w w':=fun hm=>⟨hm.at aM (fun e=>by omega),hm.at ba (fun e=>by omega),m2.trans hm⟩
  cases hk:t.kind == 3 with
  | true=>
   rw [if_pos (by simpa using hk)] at h;cases h;(try simp only [go_sem,simprocAttr,cell_of ba,hk,aE,RV.ev,aF]);exact ⟨xW,m2⟩
  | false=>
   rw [if_neg (by simpa using hk)] at h;refine dU (fun ρ w'=>w2=w'∧ρ.get 2=some (.map (some sm))∧ρ.get 3=some (ptr b3)∧ρ.get 4=some (ptr b4)) ?_ ?_
   ·(try simp only [go_sem,simprocAttr,cell_of ba,hk])
   rintro ρ _ ⟨rfl,g2,g3,g4⟩;cases cN:mB (iy p.aH n) t.args s with
   | none=>rw [cN] at h;cases h
   | some bs=>
   obtain ⟨bb,ss⟩:=bs;rw [cN] at h;refine dU (fun ρ w'=>bb=true∧cE w' sm RI ss∧Mod (· = sm) w2 w'∧ρ.get 2=some (.map (some sm))∧ρ.get 3=some (ptr b3)∧ρ.get 4=some (ptr b4)) ?_ ?_
   ·(try simp only [go_sem,simprocAttr,g2,g3,g4,cell_of ba]);refine fL (fun z ρ w'=>∃ (i:Nat) (s1:bM),z=t.args.length - i∧i≤t.args.length∧mB (iy p.aH n) (t.args.drop i) s1=some (bb,ss)∧cE w' sm RI s1∧Mod (· = sm) w2 w'∧ρ.get 2=some (.map (some sm))∧ρ.get 3=some (ptr b3)∧ρ.get 4=some (ptr b4)∧ρ.get 19=some (.slice aa t.args.length ca)∧ρ.get 20=some (I t.args.length)∧ρ.get 21=some (I i)) t.args.length ⟨0,s,by omega,by omega,cN,xW,.refl _ _,rfl,rfl,rfl,rfl,rfl,rfl⟩ ?_;rintro z ρ w3 ⟨i,s1,rfl,hi,eZ,sJ,m23,g2,g3,g4,g19,g20,g21⟩;unfold O5;by_cases q:i < t.args.length
    ·have b1:decide ((i:Int) < t.args.length)=true:=by simpa using q
     have p1:(0:Int)≤i∧(i:Int) < t.args.length:=by omega
     obtain ⟨af',yR,m3⟩:=box m23;have bT:=hl.mod m3 wR (fun _ _ h=>h.mod m3 wR);obtain ⟨qq,c1,r1,e1,wS,sF,bU,_⟩:=eh bT q;obtain ⟨rfl,-,-⟩:=bY e1;(try simp only [go_sem,simprocAttr,g2,g3,g4,g19,g20,g21,b1]);(try simp only [go_sem,simprocAttr,bq,br,p1,bU]);rw [Um q] at eZ;refine cM ?_;intro w4 Ca aA eG;have js:=wS.len;obtain ⟨vr,er,aj'⟩:=wS.cells;(try simp only [go_sem,simprocAttr]);refine bL (vs:=r1) (cs:=[I 0,.string bI,.slice none 0 0]) rfl rfl Ca js rfl wS.one ?_;intro w5 bG aD eN;have Mb:Mod (fun _=>False) w3 w5:=aA.step aD (fun b hb hl=>by have e:b=w3.heap.size:=hb;omega);have Dd:Mod (· = sm) w2 w5:=m23.trans (Mb.aU (fun _ h=>h.elim));obtain ⟨Un,aga,m5⟩:=box Dd;cases yS:iy p.aH n t.args[i] s1 with
     | none=>rw [yS] at eZ;cases eZ
     | some bs=>
     obtain ⟨b6,s6⟩:=bs;rw [yS] at eZ;(try simp only [go_sem,simprocAttr,az (n:=2) (cs:=[.slice ad p.aH.length cd,vf]) Un rfl,az (n:=3) (cs:=r1) bG js]);refine aI (by rfl) ?_;refine (Ma p n t.args[i] (Cu.mod m5 wR) ((wS.mod Mb (fun _ _ h=>h))) (sJ.mod Mb _root_.id (fun _ _ x=>x)) hB yS).mono ?_;rintro _ w6 ⟨rfl,Uo,aJ⟩;have Up:=Dd.trans aJ;have e3:IntKind.i64.wrap ((i:Int)+1)=((i+1:Nat):Int):=by rw [dv (by omega) (by omega)];omega
     cases b6 with
     | false=>
      cases eZ;cases h;(try simp only [go_sem,simprocAttr,aE,RV.ev,aF]);exact ⟨Uo,m2.trans Up⟩
     | true=>
      (try simp only [go_sem,simprocAttr,e3]);exact ⟨_,by omega,i+1,s6,rfl,q,eZ,Uo,Up,rfl⟩
    ·have b1:decide ((i:Int) < t.args.length)=false:=by simpa using q
     rw [List.drop_eq_nil_of_le (by omega),mB] at eZ;cases eZ;(try simp only [go_sem,simprocAttr,g2,g3,g4,g19,g20,g21,b1]);exact ⟨sJ,m23⟩
   rintro ρ w3 ⟨rfl,sJ,m23,g2,g3,g4⟩;obtain ⟨af',yR,m3⟩:=box m23;have h:(if t.kind≠4∨(aG ss t.name).getD 0 > 0 then some (true,ss) else oU (iy p.aH n) t.name p.aH (bO ss t.name 1))=some (b,s'):=h;refine dU (fun ρ w4=>t.kind=4∧¬ (aG ss t.name).getD 0 > 0∧w3=w4∧ρ.get 2=some (.map (some sm))∧ρ.get 3=some (ptr b3)∧ρ.get 4=some (ptr b4)) ?_ ?_
   ·cases h4:(t.kind != 4) with
    | true=>
     have Mc:t.kind≠4:=by simpa using h4
     rw [if_pos (.inl Mc)] at h;cases h;(try simp only [go_sem,simprocAttr,g2,g3,g4,cell_of yR,h4,aE,RV.ev,aF]);exact ⟨sJ,m3⟩
    | false=>
     have Mc:t.kind=4:=by simpa using h4
     (try simp only [go_sem,simprocAttr,g2,g3,g4,cell_of yR,h4]);refine yb ?_;refine vO (k:=t.name) (b:=sm) (kt:=9) (et:=3) rfl rfl rfl rfl (zI _) sJ ?_;cases hs:decide ((aG ss t.name).getD 0 > 0) with
     | true=>
      have eE:(aG ss t.name).getD 0 > 0:=by simpa using hs
      rw [if_pos (.inr eE)] at h;cases h;(try simp only [go_sem,simprocAttr,hs,aE,RV.ev,aF]);exact ⟨sJ,m3⟩
     | false=>
      have eE:¬ (aG ss t.name).getD 0 > 0:=by simpa using hs
      (try simp only [go_sem,simprocAttr,hs]);exact ⟨Mc,eE⟩
   rintro ρ _ ⟨h4,hs,rfl,g2,g3,g4⟩;rw [if_neg (by rintro (h | h);exact h h4;exact hs h)] at h;refine dU (fun ρ w4=>cE w4 sm RI (bO ss t.name 1)∧Mod (· = sm) w3 w4∧ρ.get 2=some (.map (some sm))∧ρ.get 3=some (ptr b3)∧ρ.get 4=some (ptr b4)) ?_ ?_
   ·(try simp only [go_sem,simprocAttr,g2,g3,g4,cell_of yR]);refine mS (kt:=9) (et:=3) (b:=sm) (k:=t.name) (v:=I 1) (a:=(1:Int)) rfl rfl rfl rfl rfl sJ rfl ?_;intro w4 Cz aA eG;(try simp only [go_sem,simprocAttr]);exact ⟨Cz,aA⟩
   rintro ρ w4 ⟨hM4,m34,g2,g3,g4⟩;have m24:=m23.trans m34;obtain ⟨LS,Ur,m4⟩:=box m24;(try simp only [go_sem,simprocAttr,g2,g3,g4,cell_of LS]);refine fL (fun z ρ w'=>∃ (i:Nat) (s1:bM),z=p.aH.length - i∧i≤p.aH.length∧oU (iy p.aH n) t.name (p.aH.drop i) s1=some (b,s')∧cE w' sm RI s1∧Mod (· = sm) w2 w'∧ρ.get 2=some (.map (some sm))∧ρ.get 3=some (ptr b3)∧ρ.get 4=some (ptr b4)∧ρ.get 45=some (.slice ad p.aH.length cd)∧ρ.get 46=some (I p.aH.length)∧ρ.get 47=some (I i)) p.aH.length ⟨0,_,by omega,by omega,h,hM4,m24,rfl,rfl,rfl,rfl,rfl,rfl⟩ ?_;rintro z ρ w5 ⟨i,s1,rfl,hi,eZ,Us,Dd,g2,g3,g4,wT,wU,wV⟩;obtain ⟨Un,aga,m5⟩:=box Dd;unfold O8;by_cases q:i < p.aH.length
   ·have b1:decide ((i:Int) < p.aH.length)=true:=by simpa using q
    have p1:(0:Int)≤i∧(i:Int) < p.aH.length:=by omega
    have e3:IntKind.i64.wrap ((i:Int)+1)=((i+1:Nat):Int):=by rw [dv (by omega) (by omega)];omega
    obtain ⟨qq,c1,r1,e1,⟨vp,vc,rfl,gk,yQ⟩,bT,bH⟩:=iJ hd q;obtain ⟨rfl,-,-⟩:=bY e1;obtain ⟨ac,cc,rfl⟩:=a7 yQ;have p6:=dB yQ;obtain ⟨ap,cp,rfl⟩:=a7 gk;have bU:=pa bT (bH.up m5 wR (fun _ h=>h)).2;rw [af9 q] at eZ;(try simp only [go_sem,simprocAttr,g2,g3,g4,wT,wU,wV,b1]);(try simp only [go_sem,simprocAttr,bq,br,p1,bU]);refine cM ?_;intro w6 ci aJ gN;(try simp only [go_sem,simprocAttr]);refine bL (vs:=[.string p.aH[i].name,.slice ap p.aH[i].params.length cp,.slice ac p.aH[i].cons.length cc]) (cs:=[.string bI,.slice none 0 0,.slice none 0 0]) rfl rfl ci rfl rfl (aS rfl (aS rfl (aS rfl dE))) ?_;intro w7 dq aN jX;have Ut:Mod (fun _=>False) w5 w7:=aJ.step aN (fun b hb hl=>by have e:b=w5.heap.size:=hb;omega);have Me:Mod (· = sm) w2 w7:=Dd.trans (Ut.aU (fun _ h=>h.elim));obtain ⟨Uu,Uv,m7⟩:=box Me;have Uw:=Us.mod Ut _root_.id (fun _ _ x=>x);cases hn:aQ p.aH[i].name t.name with
    | false=>
     have bo:p.aH[i].name≠t.name:=by have:=hn;rw [oD] at this;simpa using this
     rw [if_pos bo] at eZ;rw [aQ] at hn;(try simp only [go_sem,simprocAttr,cell_of dq,cell_of Uv,hn,e3]);exact ⟨_,by omega,i+1,s1,rfl,q,eZ,Uw,Me,rfl⟩
    | true=>
     have bo:p.aH[i].name=t.name:=by have:=hn;rw [oD] at this;simpa using this
     rw [if_neg (by simpa using bo)] at eZ;rw [aQ] at hn;cases Bk:rT (iy p.aH n) p.aH[i].cons s1 with
     | none=>rw [Bk] at eZ;cases eZ
     | some KS=>
     obtain ⟨bc,sc⟩:=KS;rw [Bk] at eZ;(try simp only [go_sem,simprocAttr,cell_of dq,cell_of Uv,hn])
     refine fL (fun z ρ w'=>∃ (k:Nat) (s2:bM),z=p.aH[i].cons.length - k∧k≤p.aH[i].cons.length∧rT (iy p.aH n) (p.aH[i].cons.drop k) s2=some (bc,sc)∧cE w' sm RI s2∧Mod (· = sm) w2 w'∧ρ.get 2=some (.map (some sm))∧ρ.get 3=some (ptr b3)∧ρ.get 4=some (ptr b4)∧ρ.get 45=some (.slice (some qq) p.aH.length cd)∧ρ.get 46=some (I p.aH.length)∧ρ.get 47=some (I i) ∧
      ρ.get 57=some (.slice ac p.aH[i].cons.length cc)∧ρ.get 58=some (I p.aH[i].cons.length)∧ρ.get 59=some (I k)) p.aH[i].cons.length ⟨0,s1,by omega,by omega,Bk,Uw,Me,rfl,rfl,rfl,rfl,rfl,rfl,rfl,rfl,rfl⟩ ?_
     rintro z ρ w8 ⟨k,s2,rfl,hk,wW,Ux,Mf,g2,g3,g4,wT,wU,wV,De,Dg,Dh⟩;obtain ⟨Mg,aka,m8⟩:=box Mf;unfold O7;by_cases q2:k < p.aH[i].cons.length
     ·have b2:decide ((k:Int) < p.aH[i].cons.length)=true:=by simpa using q2
      have p2:(0:Int)≤k∧(k:Int) < p.aH[i].cons.length:=by omega
      have e4:IntKind.i64.wrap ((k:Int)+1)=((k+1:Nat):Int):=by rw [dv (by omega) (by omega)];omega
      obtain ⟨kA,c2,r2,e2,⟨vf2,rfl,jt,_⟩,fJ,zU⟩:=iJ yQ q2;obtain ⟨rfl,-,-⟩:=bY e2;obtain ⟨af,cf,rfl⟩:=a7 jt;have kJ:=dB jt;have xY:=pa fJ (zU.up m8 wR (fun _ h=>h)).2;rw [af8 q2] at wW;cases Mh:mB (iy p.aH n) p.aH[i].cons[k].fields s2 with
      | none=>rw [Mh] at wW;cases wW
      | some fs1=>
      obtain ⟨bf,sf⟩:=fs1;rw [Mh] at wW;(try simp only [go_sem,simprocAttr,g2,g3,g4,wT,wU,wV,De,Dg,Dh,b2]);(try simp only [go_sem,simprocAttr,bq,br,p2,xY]);refine cM ?_;intro w9 dL aV gA;(try simp only [go_sem,simprocAttr]);refine bL (vs:=[.string p.aH[i].cons[k].name,.slice af p.aH[i].cons[k].fields.length cf]) (cs:=[.string bI,.slice none 0 0]) rfl rfl dL rfl rfl (aS rfl (aS rfl dE)) ?_;intro cT gy bJ pW;have Uy:Mod (fun _=>False) w8 cT:=aV.step bJ (fun b hb hl=>by have e:b=w8.heap.size:=hb;omega);have agb:Mod (· = sm) w2 cT:=Mf.trans (Uy.aU (fun _ h=>h.elim));have agc:=Ux.mod Uy _root_.id (fun _ _ x=>x);(try simp only [go_sem,simprocAttr,cell_of gy])
      refine fL (fun z ρ w'=>∃ (j:Nat) (s3:bM),z=p.aH[i].cons[k].fields.length - j∧j≤p.aH[i].cons[k].fields.length∧mB (iy p.aH n) (p.aH[i].cons[k].fields.drop j) s3=some (bf,sf)∧cE w' sm RI s3∧Mod (· = sm) w2 w'∧ρ.get 2=some (.map (some sm))∧ρ.get 3=some (ptr b3)∧ρ.get 4=some (ptr b4)∧ρ.get 45=some (.slice (some qq) p.aH.length cd)∧ρ.get 46=some (I p.aH.length)∧ρ.get 47=some (I i) ∧
       ρ.get 57=some (.slice (some kA) p.aH[i].cons.length cc)∧ρ.get 58=some (I p.aH[i].cons.length)∧ρ.get 59=some (I k)∧ρ.get 64=some (.slice af p.aH[i].cons[k].fields.length cf)∧ρ.get 65=some (I p.aH[i].cons[k].fields.length)∧ρ.get 66=some (I j)) p.aH[i].cons[k].fields.length ⟨0,s2,by omega,by omega,Mh,agc,agb,rfl,rfl,rfl,rfl,rfl,rfl,rfl,rfl,rfl,rfl,rfl,rfl⟩ ?_
      rintro z ρ fD ⟨j,s3,rfl,hj,wX,Uz,Mi,g2,g3,g4,wT,wU,wV,De,Dg,Dh,UA,UB,UC⟩;obtain ⟨akb,akc,m11⟩:=box Mi;unfold O6;by_cases q3:j < p.aH[i].cons[k].fields.length
      ·have Mj:decide ((j:Int) < p.aH[i].cons[k].fields.length)=true:=by simpa using q3
       have p3:(0:Int)≤j∧(j:Int) < p.aH[i].cons[k].fields.length:=by omega
       have e5:IntKind.i64.wrap ((j:Int)+1)=((j+1:Nat):Int):=by rw [dv (by omega) (by omega)];omega
       have agd:=jt.mod m11 wR (fun _ _ h=>h.mod m11 wR);obtain ⟨Qv,c3,r3,e6,wS,sF,L',_⟩:=eh agd q3;obtain ⟨rfl,-,-⟩:=bY e6;rw [Um q3] at wX;cases yS:iy p.aH n p.aH[i].cons[k].fields[j] s3 with
       | none=>rw [yS] at wX;cases wX
       | some bs=>
       obtain ⟨b6,s6⟩:=bs;rw [yS] at wX;(try simp only [go_sem,simprocAttr,g2,g3,g4,wT,wU,wV,De,Dg,Dh,UA,UB,UC,Mj]);(try simp only [go_sem,simprocAttr,bq,br,p3,L']);refine cM ?_;intro p8 vN fU EM;have js:=wS.len;(try simp only [go_sem,simprocAttr]);refine bL (vs:=r3) (cs:=[I 0,.string bI,.slice none 0 0]) rfl rfl vN js rfl wS.one ?_;intro Db fO qb Ug;have Mk:Mod (fun _=>False) fD Db:=fU.step qb (fun b hb hl=>by have e:b=fD.heap.size:=hb;omega);have UD:Mod (· = sm) w2 Db:=Mi.trans (Mk.aU (fun _ h=>h.elim));obtain ⟨age,akd,m13⟩:=box UD;(try simp only [go_sem,simprocAttr,az (n:=2) (cs:=[.slice (some qq) p.aH.length cd,vf]) age rfl,az (n:=3) (cs:=r3) fO js]);refine aI (by rfl) ?_;refine (Ma p n p.aH[i].cons[k].fields[j] (Cu.mod m13 wR) (wS.mod Mk (fun _ _ h=>h)) (Uz.mod Mk _root_.id (fun _ _ x=>x)) hB yS).mono ?_;rintro _ F8 ⟨rfl,UE,mu⟩;have UF:=UD.trans mu;cases b6 with
       | false=>
        cases wX;cases wW;cases eZ;(try simp only [go_sem,simprocAttr,aE,RV.ev,aF]);exact ⟨UE,m2.trans UF⟩
       | true=>
        (try simp only [go_sem,simprocAttr,e5]);exact ⟨_,by omega,j+1,s6,rfl,q3,wX,UE,UF,rfl⟩
      ·have Mj:decide ((j:Int) < p.aH[i].cons[k].fields.length)=false:=by simpa using q3
       rw [List.drop_eq_nil_of_le (by omega),mB] at wX;cases wX;(try simp only [go_sem,simprocAttr,g2,g3,g4,wT,wU,wV,De,Dg,Dh,UA,UB,UC,Mj,e4]);exact ⟨_,by omega,k+1,_,rfl,q2,wW,Uz,Mi,rfl⟩
     ·have b2:decide ((k:Int) < p.aH[i].cons.length)=false:=by simpa using q2
      rw [List.drop_eq_nil_of_le (by omega),rT] at wW;cases wW;(try simp only [go_sem,simprocAttr,g2,g3,g4,wT,wU,wV,De,Dg,Dh,b2,e3]);exact ⟨_,by omega,i+1,_,rfl,q,eZ,Ux,Mf,rfl⟩
   ·have b1:decide ((i:Int) < p.aH.length)=false:=by simpa using q
    rw [List.drop_eq_nil_of_le (by omega),oU] at eZ;cases eZ;(try simp only [go_sem,simprocAttr,g2,g3,g4,wT,wU,wV,b1,aE,RV.ev,aF]);exact ⟨Us,m5⟩
end
section
open Go Go.W
def jk (d:Df):Ty×Bool:=if (d.type.kind == 3&&(match d.type.args with | a::_=>rM a | []=>false))=true then (d.type.args.getD 1 default,true) else (d.type,false)
def nU (f:Ty→Option Bool) (n:ByteArray):List Df→Option (Bool×Bool)
 | []=>some (false,false)
 | d::l=>if d.name≠n then nU f n l else if 0 < d.params.length then some (false,false) else (f (jk d).1).map (fun b=>((jk d).2,b))
theorem agf {f:Ty→Option Bool} {n:ByteArray} {l:List Df} {i:Nat} (hi:i < l.length):nU f n (l.drop i)=if l[i].name≠n then nU f n (l.drop (i+1)) else if 0 < l[i].params.length then some (false,false) else (f (jk l[i]).1).map (fun b=>((jk l[i]).2,b)):=by rw [List.drop_eq_getElem_cons hi,nU]
def tz (ds:List Dt) (n:Nat) (t:Ty):Option Bool:=(iy ds n t []).map (·.1)
def rU (p:Pg) (n:Nat) (name:ByteArray):Option (Bool×Bool):=nU (tz p.aH n) name p.ak
def UG (t:Ty):Prop:=(t.kind=3→t.args.length=2)∧∀ a,t.kind=3→t.args[0]? = some a→a.kind=4→a.name=uM→0 < a.args.length
theorem Ml (d:Df) (hk:d.type.kind=3) (h2:d.type.args.length=2):jk d=if rM d.type.args[0]=true then (d.type.args[1],true) else (d.type,false):=by
 obtain ⟨x,y,iZ⟩:=CU h2;have e0:d.type.args[0]=x:=by simp [iZ]
 have e1:d.type.args[1]=y:=by simp [iZ]
 unfold jk;rw [e0,e1,hk,iZ];rfl
theorem agh (p:Pg) {n:Nat} {name:ByteArray} {w:World} {cs:List Value} {bZ:Bool×Bool} (h:jR w (Out (fun _=>False) w) cs p) (fM:∀ d∈p.ak,UG d.type) (aR:rU p n name=some bZ) :
   a8 Tryz.prog 24 [.agg cs.toArray,.string name] w fun v w'=>v = .tuple #[.bool bZ.1,.bool bZ.2]∧Mod (fun _=>False) w w':=by
 have h0:=h;obtain ⟨vd,vf,rfl,hd,hf⟩:=h;obtain ⟨af,cf,rfl⟩:=a7 hf;have kJ:=dB hf;refine YF.calls rfl ?_;unfold HU;(try simp only [go_sem,simprocAttr]);refine bD rfl ?_;intro w1 ar aj bC;have z1:w1.heap.size=w.heap.size+1:=bC;(try simp only [go_sem,simprocAttr,cell_of ar]);refine fL (fun z ρ w'=>∃ i:Nat,z=p.ak.length - i∧i≤p.ak.length∧nU (tz p.aH n) name (p.ak.drop i)=some bZ∧Mod (fun _=>False) w1 w'∧ρ.get 1=some (.string name)∧ρ.get 2=some (ptr w.heap.size)∧ρ.get 11=some (.slice af p.ak.length cf)∧ρ.get 12=some (I p.ak.length)∧ρ.get 13=some (I i)) p.ak.length ⟨0,by omega,by omega,aR,.refl _ _,rfl,rfl,rfl,rfl,rfl⟩ ?_;rintro z ρ w2 ⟨i,rfl,hi,he,ai,g1,g2,g11,g12,g13⟩;have aY:=aj.trans ai;have au:=ai.at ar _root_.id;unfold OX;by_cases q:i < p.ak.length
 ·have b1:decide ((i:Int) < p.ak.length)=true:=by simpa using q
  have p1:(0:Int)≤i∧(i:Int) < p.ak.length:=by omega
  have e3:IntKind.i64.wrap ((i:Int)+1)=((i+1:Nat):Int):=by rw [dv (by omega) (by omega)];omega
  obtain ⟨qq,c1,r1,e1,AO,th,bH⟩:=iJ hf q;obtain ⟨rfl,-,-⟩:=bY e1;have gD:=AO.one;obtain ⟨vp,tc,bc,rfl,s8,L8,gk,bw,gL,_⟩:=AO;obtain ⟨ap,cp,rfl⟩:=a7 gk;have bU:=pa th (bH.up aY aC (fun _ h=>h)).2;rw [agf q] at he;(try simp only [go_sem,simprocAttr,g1,g2,g11,g12,g13,b1]);(try simp only [go_sem,simprocAttr,bq,br,p1,bU]);refine cM ?_;intro w3 aM aq eV;(try simp only [go_sem,simprocAttr]);refine bL (vs:=.string p.ak[i].name :: .slice ap p.ak[i].params.length cp::(tc++bc)) (cs:=[.string bI,.slice none 0 0,I 0,.string bI,.slice none 0 0,I 0,.string bI,I 0,.slice none 0 0,.slice none 0 0,.slice none 0 0,.slice none 0 0]) rfl rfl aM th rfl gD ?_;intro w4 ba aA eG;have m24:Mod (fun _=>False) w2 w4:=aq.step aA (fun b hb hl=>by have e:b=w2.heap.size:=hb;omega);have eM:=aY.trans m24;cases hn:aQ p.ak[i].name name with
  | false=>
   have bo:p.ak[i].name≠name:=by have:=hn;rw [oD] at this;simpa using this
   rw [if_pos bo] at he;rw [aQ] at hn;(try simp only [go_sem,simprocAttr,cell_of ba,hn,e3]);exact ⟨_,by omega,i+1,rfl,q,he,ai.trans m24,rfl⟩
  | true=>
   have bo:p.ak[i].name=name:=by have:=hn;rw [oD] at this;simpa using this
   rw [if_neg (by simpa using bo)] at he;rw [aQ] at hn;by_cases hp:0 < p.ak[i].params.length
   ·rw [if_pos hp] at he;cases he;have b2:decide ((p.ak[i].params.length:Int) > 0)=true:=decide_eq_true (by omega);(try simp only [go_sem,simprocAttr,cell_of ba,hn,b2,aE,RV.ev,aF]);exact eM
   ·rw [if_neg hp] at he;have b2:decide ((p.ak[i].params.length:Int) > 0)=false:=decide_eq_false (by omega);have UH:=fM _ (List.getElem_mem q);obtain ⟨vt,rfl,mC⟩:=bw.cells;obtain ⟨at',ct,rfl⟩:=a7 mC;have xY:gp w4 3 (.pointer (some ⟨w2.heap.size,2,none⟩))=some (.agg [I p.ak[i].type.kind,.string p.ak[i].type.name,.slice at' p.ak[i].type.args.length ct].toArray):=by
     have:=iN (off:=2) (n:=3) ba (by simp)
     simpa using this
    cases F9:tz p.aH n (jk p.ak[i]).1 with
    | none=>rw [F9] at he;cases he
    | some bp=>
    rw [F9] at he;have AQ:bZ=((jk p.ak[i]).2,bp):=by cases he;rfl
    obtain ⟨ss,eZ⟩:∃ ss,iy p.aH n (jk p.ak[i]).1 []=some (bp,ss):=by
     unfold tz at F9;obtain ⟨x,h1,rfl⟩:=Option.map_eq_some_iff.1 F9;exact ⟨x.2,h1⟩
    have z4:=eM.size;have Mm:∀ {w9:World} {ct:List Value} {tt:Ty} {sm:Nat},Mod (fun _=>False) w w9→w.heap.size≤sm→cE w9 sm RI []→aW w9 (Out (fun _=>False) w) ct tt→iy p.aH n tt []=some (bp,ss) →
        a8 Tryz.prog 34 [.agg [vd,.slice (some qq) p.ak.length cf].toArray,.agg ct.toArray,.map (some sm)] w9 fun v cT=>v = .bool bp∧Mod (fun _=>False) w cT:=fun {w9 ct tt sm} aV cQ oe bw eZ=>by
     refine (Ma p n tt (h0.mod aV aC) bw oe (fun hb=>by have:=hb.1;omega) eZ).mono ?_;rintro _ cT ⟨rfl,_,bJ⟩;exact ⟨rfl,aV.step bJ (fun b hb hl=>by have e:b=sm:=hb;omega)⟩
    (try simp only [go_sem,simprocAttr,cell_of ba,hn,b2,xY]);refine cM ?_;intro w5 bG aD eN;(try simp only [go_sem,simprocAttr]);refine bL (vs:=[I p.ak[i].type.kind,.string p.ak[i].type.name,.slice at' p.ak[i].type.args.length ct]) (cs:=[I 0,.string bI,.slice none 0 0]) rfl rfl bG rfl rfl (aS rfl (aS rfl (aS rfl dE))) ?_;intro w6 ci aJ gN;have UI:Mod (fun _=>False) w4 w6:=aD.step aJ (fun b hb hl=>by have e:b=w4.heap.size:=hb;omega);have lh:=eM.trans UI;have tA:w6.heap[w.heap.size]? = some (.cells [vd,.slice (some qq) p.ak.length cf].toArray 25 (0,0)):=(m24.trans UI).at au _root_.id;cases hk:p.ak[i].type.kind == 3 with
    | false=>
     have AR:jk p.ak[i]=(p.ak[i].type,false):=by unfold jk;rw [hk];try rfl
     rw [AR] at eZ AQ;have Di:=az (n:=2) (cs:=[vd,.slice (some qq) p.ak.length cf]) tA rfl;have Dj:=az (n:=3) (cs:=[I p.ak[i].type.kind,.string p.ak[i].type.name,.slice at' p.ak[i].type.args.length ct]) ci rfl;have wY:=lh;(try simp only [go_sem,simprocAttr,cell_of ci,hk,Di,Dj]);refine pY (α:=Int) RI ?_;intro w9 Dk aV gA;have oz:=wY.trans aV;(try simp only [go_sem,simprocAttr]);refine aI (by rfl) ?_;refine (Mm oz wY.size Dk (bw.mod oz aC) eZ).mono ?_;rintro _ cT ⟨rfl,bJ⟩;(try simp only [go_sem,simprocAttr,aE,RV.ev,aF]);rw [AQ];exact ⟨rfl,bJ⟩
    | true=>
     have kZ:p.ak[i].type.kind=3:=by simpa using hk
     have fJ:=UH.1 kZ;have p0:(0:Int)≤0∧(0:Int) < p.ak[i].type.args.length:=by omega
     have p1':(0:Int)≤1∧(1:Int) < p.ak[i].type.args.length:=by omega
     have t1:Int.toNat 1=1:=rfl;obtain ⟨Ag,cta,ra,ea,agi,agj,agk⟩:=iJ mC (show 0 < p.ak[i].type.args.length by omega);obtain ⟨rfl,-,-⟩:=bY ea;obtain ⟨ake,akf,UJ,ea',Mn,agl,agm⟩:=iJ mC (show 1 < p.ak[i].type.args.length by omega);obtain ⟨ea9,-,-⟩:=bY ea';cases ea9;have yB:p.ak[i].type.args[0]? = some p.ak[i].type.args[0]:=List.getElem?_eq_getElem (by omega);have UK:=pa agj (agk.up lh aC (fun _ h=>h)).2;rw [Nat.zero_mul,add_zero'] at UK;have AR:=Ml p.ak[i] kZ fJ;(try simp only [go_sem,simprocAttr,cell_of ci,hk]);(try simp only [go_sem,simprocAttr,bq,br,p0,Nat.zero_mul,UK]);refine aI (by rfl) ?_;refine (aeZ _ (agi.mod lh aC) (fun h1 h2=>UH.2 _ kZ yB h1 h2)).mono ?_;rintro _ w7 ⟨rfl,aN⟩;have qd:=lh.trans aN;have UL:=aN.at tA _root_.id;have Mo:=aN.at ci _root_.id;have Di:=az (n:=2) (cs:=[vd,.slice (some qq) p.ak.length cf]) UL rfl;have Dj:=az (n:=3) (cs:=[I p.ak[i].type.kind,.string p.ak[i].type.name,.slice (some Ag) p.ak[i].type.args.length ct]) Mo rfl;cases AS:rM p.ak[i].type.args[0] with
     | false=>
      rw [AS] at AR;rw [AR,if_neg (by simp)] at eZ AQ;have wY:=qd;(try simp only [go_sem,simprocAttr,Di,Dj]);refine pY (α:=Int) RI ?_;intro w9 Dk aV gA;have oz:=wY.trans aV;(try simp only [go_sem,simprocAttr]);refine aI (by rfl) ?_;refine (Mm oz wY.size Dk (bw.mod oz aC) eZ).mono ?_;rintro _ cT ⟨rfl,bJ⟩;(try simp only [go_sem,simprocAttr,aE,RV.ev,aF]);rw [AQ];exact ⟨rfl,bJ⟩
     | true=>
      rw [AS] at AR;rw [AR,if_pos rfl] at eZ AQ;have UM:=pa agl (agm.up qd aC (fun _ h=>h)).2;have js:=Mn.len;rw [Nat.one_mul,add_pos _ (by decide)] at UM;(try simp only [go_sem,simprocAttr,cell_of Mo]);(try simp only [go_sem,simprocAttr,bq,br,p1',t1,Nat.one_mul,UM]);refine bL (vs:=UJ) (cs:=[I p.ak[i].type.kind,.string p.ak[i].type.name,.slice (some Ag) p.ak[i].type.args.length ct]) rfl rfl Mo js rfl Mn.one ?_;intro w8 dW bg mR;have wY:Mod (fun _=>False) w w8:=qd.step bg (fun b hb hl=>by have e:b=w4.heap.size:=hb;have:=eM.size;omega);have SD:w.heap.size < w4.heap.size:=by have:=ai.size;have:=m24.size;omega
      have agn:=bg.at UL (fun e=>by have e':w.heap.size=w4.heap.size:=e;omega);have Di:=az (n:=2) (cs:=[vd,.slice (some qq) p.ak.length cf]) agn rfl;have Dj:=az (n:=3) (cs:=UJ) dW js;(try simp only [go_sem,simprocAttr,Di,Dj]);refine pY (α:=Int) RI ?_;intro w9 Dk aV gA;have oz:=wY.trans aV;(try simp only [go_sem,simprocAttr]);refine aI (by rfl) ?_;refine (Mm oz wY.size Dk (Mn.mod oz aC) eZ).mono ?_;rintro _ cT ⟨rfl,bJ⟩;(try simp only [go_sem,simprocAttr,aE,RV.ev,aF]);rw [AQ];exact ⟨rfl,bJ⟩
 ·have b1:decide ((i:Int) < p.ak.length)=false:=by simpa using q
  rw [List.drop_eq_nil_of_le (by omega),nU] at he;cases he;(try simp only [go_sem,simprocAttr,g1,g2,g11,g12,g13,b1,aE,RV.ev,aF]);exact aY
end
section
open Go Go.W
abbrev iA:Nat:=16777216
def lH (n:ByteArray):Ex:=.mk 3 n 0 [] [] [] []
def runM (p:Pg) (fuel:Int) (name:ByteArray) (fX:Bool) (input:List Int):Option Rn:=
 match cF (cw p fuel) iA (.go (lH name) []) (dI p) with
 | none=>none
 | some (none,m)=>some m
 | some (some x,m)=>
  if fX=true then
   match qn (cw p fuel) iA x (m.ls input).cells.length ((m.ls input).new (cR input m.cells).1) with
   | none=>none
   | some (none,m)=>some m
   | some (some y,m)=>eC (cw p fuel) iA y [] m
  else eC (cw p fuel) iA x [] m
def tB (input:List Int):Bool:=input.any (fun n=>decide (n < -4611686018427387904)||decide (n > 4611686018427387903))
noncomputable def lI (p:Pg) (N:Nat) (name:ByteArray) (input:List Int) (fuel:Int):Option (Int×Option Rn):=
 if 10000 < input.length then some (2,none)
 else if tB input=true then some (1,none)
 else if fuel < 0∨fuel > 1048576 then some (1,none)
 else if im p≠0 then some (im p,none)
 else match rU p N name with
  | none=>none
  | some (_,false)=>some (100,none)
  | some (fX,true)=>(runM p fuel name fX input).map (fun m=>(0,some m))
theorem ago {E E':Env} {d:Df} (h:nO E d = .ok E'):E'.aH=E.aH∧d.type.wf E=true:=by
 unfold nO at h
 split at h
 ·cases h
 ·split at h
  ·cases h
  ·split at h
   ·cases h
   ·rename_i hr;cases h;refine ⟨rfl,?_⟩;have:=(yd (by simpa using hr)).1;rw [← yw (E:={ E with params:=kK d.params []}) (E':=E) rfl];exact this
theorem Mp:∀ (l:List Df) (E E':Env),fG l E = .ok E'→E'.aH=E.aH∧∀ d∈l,d.type.wf E=true
 | [],E,E',h=>by rw [fG] at h;cases h;exact ⟨rfl,fun d hd=>(by cases hd)⟩
 | d::l,E,E',h=>by
  rw [fG] at h
  split at h
  ·cases h
  ·rename_i E1 h1;obtain ⟨a1,a2⟩:=ago h1;obtain ⟨b1,b2⟩:=Mp l E1 E' h;refine ⟨b1.trans a1,fun x hx=>?_⟩;rcases List.mem_cons.1 hx with rfl | hx
   ·exact a2
   ·rw [← yw a1];exact b2 x hx
theorem Ga {p:Pg} {E:Env} (h:kg p = .ok E):∃ E1,lB il p.aH = .ok E1∧fG p.ak E1 = .ok E∧ke E p.ak=0:=by
 unfold kg at h
 split at h
 ·cases h
 ·split at h
  ·cases h
  ·split at h
   ·cases h
   ·rename_i E1 h1
    split at h
    ·cases h
    ·rename_i E2 h2
     split at h
     ·cases h
     ·rename_i h3;cases h;exact ⟨E1,h1,h2,by simpa using h3⟩
theorem Gb {p:Pg} (h:im p=0):∃ E,kg p = .ok E:=by
 unfold im at h
 split at h
 ·rename_i e he;exfalso;subst h;have key:∀ (x:Except Int Env),kg p=x→(∀ e,x = .error e→e≠0):=by
   intro x hx e pU h0;subst pU h0;unfold kg at hx
   split at hx
   ·cases hx
   ·split at hx
    ·cases hx
    ·split at hx
     ·rename_i e1 h1;cases hx;unfold lB at h1
      split at h1
      ·rename_i e2 h2;cases h1;have hd:∀ (l:List Dt) (E:Env),mq l E≠.error 0:=by
        intro l
        induction l with
        | nil=>intro E h;rw [mq] at h;cases h
        | cons d l ih=>
         intro E h;rw [mq] at h
         split at h
         ·rename_i hn
          injection h with h
          rw [h] at hn;simp at hn
         ·exact ih _ h
       exact hd _ _ h2
      ·split at h1
       ·cases h1
       ·cases h1
     ·split at hx
      ·rename_i e1 h1;cases hx;have hd:∀ (l:List Df) (E:Env),fG l E≠.error 0:=by
        intro l
        induction l with
        | nil=>intro E h;rw [fG] at h;cases h
        | cons d l ih=>
         intro E h;rw [fG] at h
         split at h
         ·rename_i e3 h3;cases h;unfold nO at h3
          split at h3
          ·cases h3
          ·split at h3
           ·cases h3
           ·split at h3
            ·cases h3
            ·cases h3
         ·exact ih _ h
       exact hd _ _ h1
      ·split at hx
       ·rename_i hn
        injection hx with hx
        rw [hx] at hn;simp at hn
       ·cases hx
  exact key _ he 0 rfl rfl
 ·rename_i E hE;exact ⟨E,hE⟩
theorem UN {l:List Dt} {E:Env} (h:lB il l = .ok E):aG E.aH uM=some dList:=by
 unfold lB at h
 split at h
 ·cases h
 ·rename_i E' py
  split at h
  ·cases h;obtain ⟨_,hk⟩:=K9 l il E jh La py;exact hk _ _ R2
  ·cases h
theorem Gc {p:Pg} (h:im p=0):∀ d∈p.ak,UG d.type:=by
 obtain ⟨E,hE⟩:=Gb h;obtain ⟨E1,h1,h2,_⟩:=Ga hE;obtain ⟨_,h3⟩:=Mp _ _ _ h2;intro d hd;have hw:=h3 d hd;refine ⟨fun hk=>J1 hw hk,fun a hk ha mP hn=>?_⟩;have Gd:a.wf E1=true:=J0 hw (List.mem_of_getElem? ha);rw [a.oK,mP,Bool.and_eq_true,Bool.and_eq_true] at Gd;have hb:dy E1 a.name a.args.length=false:=by simpa using Gd.1.2
 unfold dy at hb;rw [hn,UN h1] at hb;have h5:(dList.params.length:Int)=a.args.length:=by simpa using hb
 have h6:dList.params.length=1:=rfl;omega
end
section
open Go Go.W
structure tC (X:Cx) (m m':Rn):Prop where
 told:∃ l,m'.told=m.told++l∧(l.length:Int)≤m'.steps - m.steps
 steps:m.steps≤m'.steps
 fuel:m.steps≤X.fuel→m'.steps≤X.fuel
 yy:(m'.kind=2∧m'.stuck=m.stuck)∨(m'.kind=4∧m'.steps=X.fuel∧m'.stuck=m.stuck)∨m'.kind=3
theorem tC.from {X:Cx} {m m1 m':Rn} (h:tC X m1 m') {l:List (ByteArray×Int)} (h1:m1.told=m.told++l) (h2:(l.length:Int)≤m1.steps - m.steps) (h3:m.steps≤X.fuel→m1.steps≤X.fuel) (h4:m1.stuck=m.stuck):tC X m m':=by
 obtain ⟨⟨l2,a1,a2⟩,b,c,d⟩:=h;refine ⟨⟨l++l2,by rw [a1,h1,List.append_assoc],by rw [List.length_append];omega⟩,by omega,fun hh=>c (h3 hh),?_⟩;rcases d with ⟨d1,d2⟩ | ⟨d1,d2,d3⟩ | d
 ·exact .inl ⟨d1,d2.trans h4⟩
 ·exact .inr (.inl ⟨d1,d2,d3.trans h4⟩)
 ·exact .inr (.inr d)
theorem tC.Mq {X:Cx} {m m':Rn} (h:yL X m (none,m')):tC X m m':=by
 have h1:m'.told=m.told:=h.told;have h2:m.steps≤m'.steps:=h.steps;refine ⟨⟨[],by rw [h1,List.append_nil],by simp;omega⟩,h2,h.fuel,?_⟩;rcases h.stop rfl with ⟨a,b,c⟩ | a
 ·exact .inr (.inl ⟨a,b,c⟩)
 ·exact .inr (.inr a)
theorem agp (x:Cl):(iK x).length≤1:=by cases x<;>simp [iK]
theorem Dl {X:Cx}:∀ (n:Nat) {x:Cl} {ws:List Nat} {m m':Rn},eC X n x ws m=some m'→m.aO=[]→tC X m m'
 | 0,x,ws,m,m',h,_=>by rw [eC] at h;cases h
 | n+1,x,ws,m,m',h,hf=>by
  rw [eC] at h;have zA:=agp x;rcases qz X m with ⟨h1,h2⟩ | ⟨h1,h2⟩
  ·rw [h2,if_pos rfl] at h;cases h;exact ⟨⟨[],by simp,by simp⟩,Int.le_refl _,fun h=>h,.inr (.inl ⟨rfl,h1,rfl⟩)⟩
  ·rw [h2,if_neg (by simp)] at h;simp only at h
   split at h
   ·cases h
   ·split at h
    ·cases h;exact ⟨⟨iK x,rfl,by simp;omega⟩,by simp;omega,fun hh=>by simp only;omega,.inl ⟨rfl,rfl⟩⟩
    ·split at h
     ·cases h
     ·rename_i c m3 jM;cases h;have k:=tC.Mq (wL jM hf);exact k.from (m:=m) (l:=iK x) rfl (by simp only;omega) (fun hh=>by simp only;omega) rfl
     ·rename_i c y m3 jM;have g:=wL jM hf;obtain ⟨g1,g2,g3⟩:=g.val y rfl;have gt:m3.told=m.told++iK x:=g.told;have gs:m.steps+1≤m3.steps:=g.steps;have gf:m.steps+1≤X.fuel→m3.steps≤X.fuel:=g.fuel;exact (Dl n h g3).from (l:=iK x) gt (by omega) (fun hh=>gf (by omega)) g2
theorem Ge {X:Cx} {n c:Nat} {f:Cl} {m:Rn} {r:Option Cl×Rn} (h:qn X n f c m=some r) (hf:m.aO=[]):yL X m r:=by
 unfold qn at h;cases hg:lE m f c with
 | none=>rw [hg] at h;cases h
 | some rr=>
 rw [hg] at h;have k:=CY hg
 match rr,h,k,hg with
 | (none,m'),h,k,hg=>
  cases h;have ks:m'.steps=m.steps:=k.steps;exact ⟨k.told,by show m.steps≤m'.steps;omega,fun hh=>by show m'.steps≤_;omega,fun x hx=>by (cases hx),fun _=>.inr (k.stop rfl)⟩
 | (some (.val x),m'),h,k,hg=>
  cases h;have:m'=m:=by
   unfold lE at hg
   split at hg
   ·split at hg<;>cases hg
   ·split at hg
    ·cases hg;rfl
    ·cases hg
   ·cases hg
  subst this;exact ⟨rfl,Int.le_refl _,fun h=>h,fun _ _=>⟨rfl,rfl,hf⟩,fun hn=>by cases hn⟩
 | (some (.go e v),m'),h,k,hg=>
  have ks:m'.steps=m.steps:=k.steps;exact (tq n h).from k.told (by omega) (fun hh=>by omega) (k.go _ rfl)
theorem agq {p:Pg} {fuel:Int} {name:ByteArray} {fX:Bool} {input:List Int} {m:Rn} (h:runM p fuel name fX input=some m):tC (cw p fuel) (dI p) m:=by
 unfold runM at h
 split at h
 ·cases h
 ·rename_i m1 hg;cases h;exact tC.Mq (tq _ hg)
 ·rename_i x m1 hg;have k:=tq _ hg;obtain ⟨k1,k2,k3⟩:=k.val x rfl;have kt:m1.told=(dI p).told:=k.told;have ks:(dI p).steps≤m1.steps:=k.steps;have kf:(dI p).steps≤(cw p fuel).fuel→m1.steps≤(cw p fuel).fuel:=k.fuel
  split at h
  ·split at h
   ·cases h
   ·rename_i m2 ha;cases h;exact (tC.Mq (Ge ha (show m1.aO=[] from k3))).from (l:=[]) (by rw [List.append_nil];exact kt) (by simp;exact ks) kf k2
   ·rename_i y m2 ha;have g:=Ge ha (show m1.aO=[] from k3);obtain ⟨g1,g2,g3⟩:=g.val y rfl;have gt:m2.told=m1.told:=g.told;have gs:m1.steps≤m2.steps:=g.steps;have gf:m1.steps≤(cw p fuel).fuel→m2.steps≤(cw p fuel).fuel:=g.fuel;exact (Dl _ h g3).from (l:=[]) (by rw [gt,kt,List.append_nil]) (by simp;omega) (fun hh=>gf (kf hh)) (g2.trans k2)
  ·exact (Dl _ h k3).from (l:=[]) (by rw [kt,List.append_nil]) (by simp;exact ks) kf k2
end
section
open Go Go.W
theorem UO {E:Env}:∀ (l:List Cn) (m:bM),pw E l m=true→∀ k∈l,aG E.cons k.name=none∧k.fields.length≤8
 | [],m,_,k,hk=>by cases hk
 | c::l,m,h,k,hk=>by
  rw [pw] at h
  split at h
  ·cases h
  ·rename_i hn;simp only [Bool.or_eq_true,not_or,decide_eq_true_eq] at hn;obtain ⟨⟨h1,h2⟩,h3⟩:=hn;rcases List.mem_cons.1 hk with rfl | hk
   ·refine ⟨?_,by omega⟩;cases hx:aG E.cons k.name with
    | none=>rfl
    | some y=>rw [hx] at h1;simp at h1
   ·exact UO l _ h k hk
theorem agr {E:Env} {d:Dt} (h:nN E d=0):∀ k∈d.cons,aG E.cons k.name=none∧k.fields.length≤8:=by
 unfold nN at h
 split at h
 ·cases h
 ·split at h
  ·cases h
  ·split at h
   ·cases h
   ·rename_i hs;exact UO d.cons [] (by simpa using hs)
theorem UP {d:Dt}:∀ (ks:List Cn) (i:Nat) (m:List (ByteArray×(Dt×Nat))) (n:ByteArray),(∀ k∈ks,k.name≠n)→aG (nM d ks i m) n=aG m n
 | [],_,m,n,_=>rfl
 | k::ks,i,m,n,h=>by
  rw [nM,UP ks (i+1) _ n (fun c hc=>h c (by simp [hc])),jE,if_neg (h k (by simp))]
theorem UQ {d:Dt}:∀ (ks:List Cn) (i:Nat) (m:List (ByteArray×(Dt×Nat))) (f:List (ByteArray×Int)),d.cons.drop i=ks→(∀ n x,aG m n=some x→(aG f n).getD 0=(dk x.1 x.2).length) →
   ∀ n x,aG (nM d ks i m) n=some x→(aG (qB ks f) n).getD 0=(dk x.1 x.2).length
 | [],_,m,f,_,h,n,x,hx=>h n x hx
 | k::ks,i,m,f,hd,h,n,x,hx=>by
  rw [nM] at hx;rw [qB];have hi:i < d.cons.length:=by
   apply Classical.byContradiction;intro hn;rw [List.drop_eq_nil_of_le (by omega)] at hd;cases hd
  rw [List.drop_eq_getElem_cons hi] at hd
  injection hd with hk fc
  refine UQ ks (i+1) _ _ fc (fun n x hx=>?_) n x hx;rw [jE] at hx ⊢;by_cases hn:k.name=n
  ·rw [if_pos hn] at hx ⊢;cases hx;have:dk d i=k.fields:=by
    unfold dk;rw [List.getD_eq_getElem?_getD,List.getElem?_map,List.getElem?_eq_getElem hi,hk];rfl
   rw [this];try rfl
  ·rw [if_neg hn] at hx ⊢;exact h n x hx
theorem ags {d:Dt} (hl:∀ k∈d.cons,k.fields.length≤8) (i:Nat):(dk d i).length≤8:=by
 unfold dk;rw [List.getD_eq_getElem?_getD,List.getElem?_map];cases hx:d.cons[i]? with
 | none=>simp
 | some k=>exact hl k (List.mem_of_getElem? hx)
theorem agt {d:Dt} {i:Nat} {F:Ty} (h:F∈dk d i):∃ k∈d.cons,F∈k.fields:=by
 unfold dk at h;rw [List.getD_eq_getElem?_getD,List.getElem?_map] at h;cases hx:d.cons[i]? with
 | none=>rw [hx] at h;cases h
 | some k=>rw [hx] at h;exact ⟨k,List.mem_of_getElem? hx,h⟩
structure Gf (E:Env) (fs:List (ByteArray×Int)) (l:List Dt):Prop where
 Mr:qi E l
 fields:∀ n x,aG E.cons n=some x→(aG fs n).getD 0=(dk x.1 x.2).length
 len:∀ n x,aG E.cons n=some x→(dk x.1 x.2).length≤8
theorem UR:∀ (l:List Dt) (E E':Env) (fs:List (ByteArray×Int)) (l0:List Dt),Gf E fs l0→mq l E = .ok E'→Gf E' (tw l fs) (l0++l)∧∀ n x,aG E.cons n=some x→aG E'.cons n=some x
 | [],E,E',fs,l0,h,hd=>by rw [mq] at hd;cases hd;exact ⟨by rw [List.append_nil];exact h,fun _ _ h=>h⟩
 | d::l,E,E',fs,l0,h,hd=>by
  rw [mq] at hd
  split at hd
  ·cases hd
  ·rename_i h0;have h0:nN E d=0:=by simpa using h0
   have hc:=agr h0;have h1:Gf (qc E d) (qB d.cons fs) (l0++[d]):=by
    refine ⟨h.Mr.enter (RZ h0) (fun x hx=>by simp [hx]) (by simp),fun n x hx=>?_,fun n x hx=>?_⟩
    ·exact UQ d.cons 0 E.cons fs (by simp) h.fields n x hx
    ·rcases K7 _ _ _ _ _ hx with h2 | h2
     ·exact h.len n x h2
     ·rw [h2];exact ags (fun k hk=>(hc k hk).2) _
   obtain ⟨h2,h3⟩:=UR l _ E' _ (l0++[d]) h1 hd;refine ⟨by rw [List.append_assoc] at h2;exact h2,fun n x hx=>h3 n x ?_⟩;show aG (nM d d.cons 0 E.cons) n=some x
   rw [UP _ _ _ _ (fun k hk e=>by
    have:=(hc k hk).1
    rw [e,hx] at this;cases this)]
   exact hx
theorem wZ:il.cons=[(uJ,(jD,0)),(uI,(jD,1)),(⟨#[85,110,105,116]⟩,(qe,0)),(⟨#[78,105,108]⟩,(dList,0)),(di,(dList,1)),(C9,(qf,0)),(C',(qg,0))]:=by rfl
theorem agu:Gf il tx jh:=by
 refine ⟨La,fun n x hx=>?_,fun n x hx=>?_⟩
 ·rw [wZ] at hx;unfold tx;simp only [px,K5] at hx ⊢;by_cases h1:uJ=n
  ·subst h1;cases hx;rfl
  by_cases h2:uI=n
  ·subst h2;cases hx;rfl
  by_cases h3:(⟨#[85,110,105,116]⟩:ByteArray)=n
  ·subst h3;cases hx;rfl
  by_cases h4:(⟨#[78,105,108]⟩:ByteArray)=n
  ·subst h4;cases hx;rfl
  by_cases h5:di=n
  ·subst h5;cases hx;rfl
  by_cases h6:C9=n
  ·subst h6;cases hx;rfl
  by_cases h7:C'=n
  ·subst h7;cases hx;rfl
  rw [if_neg h1,if_neg h2,if_neg h3,if_neg h4,if_neg h5,if_neg h6,if_neg h7] at hx;cases hx
 ·rw [wZ] at hx;have key:∀ p∈([(uJ,(jD,0)),(uI,(jD,1)),(⟨#[85,110,105,116]⟩,(qe,0)),(⟨#[78,105,108]⟩,(dList,0)),(di,(dList,1)),(C9,(qf,0)),(C',(qg,0))]:List (ByteArray×(Dt×Nat))),(dk p.2.1 p.2.2).length≤8:=by
   intro p hp;simp only [List.mem_cons,List.not_mem_nil,or_false] at hp;rcases hp with rfl | rfl | rfl | rfl | rfl | rfl | rfl<;>decide
  obtain ⟨p,hp,_,rfl⟩:=Qo hx;exact key p hp
theorem agv:∀ d∈jh,∀ k∈d.cons,∀ F∈k.fields,F.gB d.params=true:=by
 intro d hd k hk F hF;simp only [jh,List.mem_cons,List.not_mem_nil,or_false] at hd;rcases hd with rfl | rfl | rfl | rfl | rfl<;>simp only [List.mem_cons,List.not_mem_nil,or_false] at hk
 ·rcases hk with rfl | rfl<;>cases hF
 ·subst hk;cases hF
 ·rcases hk with rfl | rfl
  ·cases hF
  ·simp only [List.mem_cons,List.not_mem_nil,or_false] at hF;rcases hF with rfl | rfl<;>rfl
 ·subst hk;simp only [List.mem_cons,List.not_mem_nil,or_false] at hF;rcases hF with rfl | rfl<;>rfl
 ·subst hk;simp only [List.mem_cons,List.not_mem_nil,or_false] at hF;rcases hF with rfl | rfl | rfl<;>rfl
theorem US {E E':Env} {d:Df} (h:nO E d = .ok E'):E'.cons=E.cons∧E'.ak=bO E.ak d.name d∧d.type.gB d.params=true:=by
 unfold nO at h
 split at h
 ·cases h
 ·split at h
  ·cases h
  ·split at h
   ·cases h
   ·rename_i hr;cases h;refine ⟨rfl,rfl,?_⟩;have hr:fB { E with params:=kK d.params []} d.type=true:=by simpa using hr
    rw [fB,Bool.and_eq_true] at hr;refine Tu (fun n hn=>?_) d.type hr.2;rcases Tw _ _ _ hn with h | h
    ·exact h
    ·cases h
theorem UT {all:List Df}:∀ (l:List Df) (i:Nat) (E E':Env) (ds:List (ByteArray×Nat)),all.drop i=l→fG l E = .ok E'→(∀ n d,aG E.ak n=some d→d.type.gB d.params=true∧∃ c,aG ds n=some c∧all[c]? = some d) →
   E'.cons=E.cons∧∀ n d,aG E'.ak n=some d→d.type.gB d.params=true∧∃ c,aG (mA l i ds) n=some c∧all[c]? = some d
 | [],i,E,E',ds,_,h,hd=>by rw [fG] at h;cases h;exact ⟨rfl,hd⟩
 | d::l,i,E,E',ds,ha,h,hd=>by
  rw [fG] at h
  split at h
  ·cases h
  ·rename_i E1 h1;obtain ⟨a1,a2,a3⟩:=US h1;have hi:i < all.length:=by
    apply Classical.byContradiction;intro hn;rw [List.drop_eq_nil_of_le (by omega)] at ha;cases ha
   rw [List.drop_eq_getElem_cons hi] at ha
   injection ha with hk fc
   obtain ⟨b1,b2⟩:=UT l (i+1) E1 E' (bO ds d.name i) fc h (fun n e he=>by
    rw [a2,jE] at he;rw [jE];by_cases hn:d.name=n
    ·rw [if_pos hn] at he ⊢;cases he;exact ⟨a3,i,rfl,by rw [List.getElem?_eq_getElem hi,hk]⟩
    ·rw [if_neg hn] at he ⊢
     exact hd n e he)
   exact ⟨b1.trans a1,b2⟩
theorem Mt {p:Pg} {Q:Env} (h:kg p = .ok Q):∃ E1,lB il p.aH = .ok E1∧fG p.ak E1 = .ok Q∧pD Q∧(∀ n x,aG Q.cons n=some x→(aG (tw p.aH tx) n).getD 0=(dk x.1 x.2).length)∧(∀ n d,aG Q.ak n=some d→∃ c,aG (mA p.ak 0 []) n=some c∧p.ak[c]? = some d)∧(∀ n x,aG il.cons n=some x→aG Q.cons n=some x):=by
 obtain ⟨E1,h1,h2,h3⟩:=Ga h;obtain ⟨_,_,Mu⟩:=R4 h1;obtain ⟨c1,c2⟩:=UT (all:=p.ak) p.ak 0 E1 Q [] (by simp) h2 (fun n d hd=>by rw [Mu] at hd;cases hd);have jZ:=h1;unfold lB at jZ
 split at jZ
 ·cases jZ
 ·rename_i E' py
  split at jZ
  ·rename_i cN;cases jZ;obtain ⟨hc,hk⟩:=UR p.aH il E1 tx jh agu py;have UU:∀ n x,aG E1.cons n=some x→∀ F∈dk x.1 x.2,F.gB x.1.params=true:=by
    intro n x hx F hF;obtain ⟨k,iI,iQ⟩:=agt hF;rcases List.mem_append.1 (hc.Mr.mem _ _ (hc.Mr.aZ n x hx)) with hm | hm
    ·exact agv _ hm k iI F iQ
    ·unfold ww at cN;rw [List.all_eq_true] at cN;have:=cN _ hm;unfold Ar at this;rw [List.all_eq_true] at this;have:=this k iI;rw [List.all_eq_true] at this;have:=this F iQ;rw [fB,Bool.and_eq_true] at this;refine Tu (fun n hn=>?_) F this.2;rcases Tv _ _ _ hn with h | h
     ·exact h
     ·cases h
   refine ⟨E1,h1,h2,⟨fun ps=>(Lb h1 h2 ps).1,fun ps=>(Lb h1 h2 ps).2,fun n d hd=>(c2 n d hd).1,fun n x hx=>?_,?_,?_⟩,fun n x hx=>?_,fun n d hd=>(c2 n d hd).2,fun n x hx=>?_⟩
   ·rw [c1] at hx;exact ⟨UU n x hx,hc.len n x hx⟩
   ·rw [c1];exact hk _ _ (by rw [wZ];try rfl)
   ·rw [c1];exact hk _ _ (by rw [wZ];try rfl)
   ·rw [c1] at hx;exact hc.fields n x hx
   ·rw [c1];exact hk n x hx
  ·cases jZ
end
section
open Go Go.W
def N0 {α:Type} (x:Except Int α):Prop:=∀ k,x = .error k→k≠0
section
variable {α β:Type} {E:Env}
theorem kO {a:α}:N0 (.ok a:Except Int α):=fun k h=>by cases h
theorem dD {k:Int} (h:k≠0):N0 (.error k:Except Int α):=fun k' h'=>by cases h';exact h
theorem Dm {x:Except Int α} {f:α→β} (h:N0 x):N0 (x.map f):=fun k hk=>by
 cases x with
 | error e=>cases hk;exact h _ rfl
 | ok a=>cases hk
theorem UW {t:Ty} {ps:List ByteArray} {at':List Ty}:N0 (iF E t ps at'):=by
 unfold iF
 split
 ·exact dD (by decide)
 ·split
  ·exact dD (by decide)
  ·split
   ·exact kO
   ·exact dD (by decide)
theorem UX {b:Bd} {bd:bM}:N0 (jv E b bd):=by
 unfold jv
 split
 ·exact dD (by decide)
 ·split
  ·exact kO
  ·exact dD (by decide)
theorem UY:∀ (l:List Bd) (bd:bM),N0 (jx E l bd)
 | [],bd=>by rw [jx];exact kO
 | b::l,bd=>by
  rw [jx]
  split
  ·rename_i x hx;exact dD (UX _ hx)
  ·exact UY l _
theorem UZ:∀ (l:List ByteArray) (bd:bM),N0 (nG l bd)
 | [],bd=>by rw [nG];exact kO
 | s::l,bd=>by
  rw [nG]
  split
  ·exact dD (by decide)
  ·exact UZ l _
theorem U0 {ps:List ByteArray} {bs:List Ty}:∀ (l:List ByteArray) (fs:List Ty) (lc:Loc),N0 (ij ps bs l fs lc)
 | s::l,f::fs,lc=>by
  rw [ij]
  split
  ·exact U0 l fs _
  ·exact dD (by decide)
 | [],fs,lc=>by rw [ij];exact kO;simp
 | s::l,[],lc=>by rw [ij];exact kO;simp
theorem agw {l:List Ty}:N0 (nH E l):=by
 unfold nH
 split
 ·split
  ·exact dD (by decide)
  ·split
   ·split
    ·exact kO
    ·exact dD (by decide)
   ·exact dD (by decide)
 ·exact dD (by decide)
theorem agx {n:ByteArray} {l:List Ty}:N0 (oJ n l):=by
 unfold oJ
 split
 ·split
  ·exact dD (by decide)
  ·exact kO
 ·exact dD (by decide)
theorem agy {b:Bd} {l:List Ty}:N0 (pZ b l):=by
 unfold pZ
 split
 ·split
  ·exact dD (by decide)
  ·exact kO
 ·exact dD (by decide)
def NE (E:Env) (e:Ex):Prop:=∀ st,N0 (cj E e st)
theorem U1:∀ (l:List Ex),(∀ u∈l,NE E u)→∀ st,N0 (cG E l st)
 | [],_,st=>by rw [cG];exact kO
 | e::l,h,st=>by
  rw [cG]
  split
  ·rename_i x hx;exact dD (h e (by simp) st _ hx)
  ·split
   ·rename_i x hx;exact dD (U1 l (fun u hu=>h u (by simp [hu])) _ _ hx)
   ·exact kO
theorem U2:∀ (l:List Bd),(∀ b∈l,NE E b.value)→∀ st,N0 (jc E l st)
 | [],_,st=>by rw [jc];exact kO
 | b::l,h,st=>by
  rw [B5]
  split
  ·rename_i x hx;exact dD (h b (by simp) st _ hx)
  ·split
   ·exact U2 l (fun u hu=>h u (by simp [hu])) _
   ·exact dD (by decide)
theorem agz {of:Ty} {k:Int} {aZ:ByteArray} {vars:List ByteArray} {run:St→Except Int (Ty×St)} (hr:∀ st,N0 (run st)) (st:St):N0 (mT E of k aZ vars run st):=by
 unfold mT
 split
 ·exact hr st
 ·split
  ·exact dD (by decide)
  ·split
   ·exact dD (by decide)
   ·split
    ·exact dD (by decide)
    ·split
     ·rename_i x hx;exact dD (UZ _ _ _ hx)
     ·split
      ·rename_i x hx;exact dD (U0 _ _ _ _ hx)
      ·split
       ·rename_i x hx;exact dD (hr _ _ hx)
       ·exact kO
theorem Mv {all:List Al} {of:Ty}:∀ (l:List Al),(∀ a∈l,NE E a.body)→∀ i first st,N0 (fV E all of l i first st)
 | [],_,i,first,st=>by rw [fV];exact kO
 | a::l,h,i,first,st=>by
  rw [B4]
  split
  ·exact dD (by decide)
  ·split
   ·rename_i x hx;exact dD (agz (h a (by simp)) st _ hx)
   ·split
    ·exact Mv l (fun u hu=>h u (by simp [hu])) _ _ _
    ·split
     ·exact Mv l (fun u hu=>h u (by simp [hu])) _ _ _
     ·exact dD (by decide)
theorem agA (e:Ex):NE E e:=by
 induction e using Ex.ind with
 | h e fN oL pf=>
 intro st;rw [lu];have hx:=U1 e.args fN;by_cases hf:j5 e=false
 ·rw [if_pos hf];exact dD (by decide)
 rw [if_neg hf];by_cases hk:e.kind=1
 ·rw [if_pos hk]
  split
  ·exact dD (by decide)
  ·exact kO
 rw [if_neg hk];by_cases hk:e.kind=2
 ·rw [if_pos hk];exact kO
 rw [if_neg hk];by_cases hk:e.kind=3
 ·rw [if_pos hk]
  split
  ·exact dD (by decide)
  ·exact Dm UW
 rw [if_neg hk];by_cases hk:e.kind=4
 ·rw [if_pos hk]
  split
  ·exact dD (by decide)
  ·exact Dm UW
 rw [if_neg hk];by_cases hk:e.kind=12
 ·rw [if_pos hk]
  split
  ·exact dD (by decide)
  ·split
   ·exact kO
   ·exact dD (by decide)
 rw [if_neg hk];by_cases hk:e.kind=5
 ·rw [if_pos hk]
  split
  ·rename_i x h;exact dD (hx _ _ h)
  ·exact Dm agw
 rw [if_neg hk];by_cases hk:e.kind=9
 ·rw [if_pos hk]
  split
  ·rename_i x h;exact dD (hx _ _ h)
  ·exact Dm agx
 rw [if_neg hk];by_cases hk:e.kind=10
 ·rw [if_pos hk]
  split
  ·rename_i x h;exact dD (hx _ _ h)
  ·exact kO
 rw [if_neg hk];by_cases hk:e.kind=6
 ·rw [if_pos hk]
  split
  ·exact dD (by decide)
  ·split
   ·rename_i x h;exact dD (UX _ h)
   ·split
    ·rename_i x h;exact dD (hx _ _ h)
    ·exact Dm agy
 rw [if_neg hk];by_cases hk:e.kind=7∨e.kind=11
 ·rw [if_pos hk]
  split
  ·rename_i x h;exact dD (UY _ _ _ h)
  ·split
   ·rename_i x h;exact dD (U2 _ oL _ _ h)
   ·split
    ·rename_i x h;exact dD (hx _ _ h)
    ·exact kO
 rw [if_neg hk]
 split
 ·rename_i x h;exact dD (hx _ _ h)
 ·split
  ·exact dD (by decide)
  ·exact Mv _ pf _ _ _
end
theorem U3 {Q:Env}:∀ (l:List Df),ke Q l=0→∀ d∈l,oR Q d=0
 | [],_,d,hd=>by cases hd
 | c::l,h,d,hd=>by
  rw [ke] at h
  split at h
  ·rename_i hn;rw [h] at hn;simp at hn
  ·rename_i hn;rcases List.mem_cons.1 hd with rfl | hd
   ·simpa using hn
   ·exact U3 l h d hd
theorem agB {Q:Env} {d:Df} (h:oR Q d=0):dY (eA Q d.params) (fun _=>none) d.body d.type:=by
 unfold oR at h
 split at h
 ·rename_i e he;exact absurd h (agA _ _ _ he)
 ·rename_i y hy
  split at h
  ·rename_i hs;exact ⟨([],[]),y,⟨fun p hp=>(by cases hp),by simp [Uq],fun _ _=>rfl⟩,fun _=>rfl,hy,by simpa [gg] using hs⟩
  ·cases h
def S0 (p:Pg):Sg:=fun c D=>∃ d us,p.ak[c]? = some d∧D=d.type.sub (lk d.params us)
theorem U4 {p:Pg} {Q:Env} {fuel:Int} (h:kg p = .ok Q):pD Q∧jj Q (S0 p) (dI p).cells∧XT Q (cw p fuel) (S0 p):=by
 obtain ⟨E1,h1,h2,hQ,hf,hd,_⟩:=Mt h;obtain ⟨_,_,_,hb⟩:=Ga h;refine ⟨hQ,⟨fun c x hx=>?_,fun c hc=>?_,fun c D hD=>?_⟩,⟨fun n d hn=>?_,hf⟩⟩
 ·have hx:(p.ak.map (fun d=>Cl.wait d.body []))[c]? = some x:=hx;rw [List.getElem?_map] at hx;obtain ⟨d,U5,rfl⟩:=Option.map_eq_some_iff.1 hx;rintro D ⟨d',us,h3,rfl⟩;rw [U5] at h3;cases h3;exact ⟨d.params,_,lk d.params us,d.type,agB (U3 _ hb d (List.mem_of_getElem? U5)),rfl,fun x U hx=>by cases hx⟩
 ·have hc:c < (p.ak.map (fun d=>Cl.wait d.body [])).length:=hc;rw [List.length_map] at hc;exact ⟨_,p.ak[c],[],List.getElem?_eq_getElem hc,rfl⟩
 ·obtain ⟨d,us,h3,_⟩:=hD;show c < (p.ak.map (fun d=>Cl.wait d.body [])).length;rw [List.length_map];exact (List.getElem?_eq_some_iff.1 h3).1
 ·obtain ⟨c,h3,h4⟩:=hd n d hn;exact ⟨c,h3,fun us=>⟨d,us,h4,rfl⟩⟩
end
section
open Go Go.W
mutual
def Ty.dep:Ty→Nat
 | .mk _ _ l=>AT l+1
def AT:List Ty→Nat
 | []=>0
 | t::l=>max t.dep (AT l)
end
theorem Ty.U6 (t:Ty):t.dep=AT t.args+1:=by cases t;rw [Ty.dep];try rfl
theorem U7 {l:List Ty} {t:Ty} (h:t∈l):t.dep≤AT l:=by
 induction l with
 | nil=>cases h
 | cons u l ih=>
  rw [AT];rcases List.mem_cons.1 h with rfl | h
  ·omega
  ·have:=ih h;omega
def Gg (ds:List Dt):Nat:=AT (ds.flatMap fun d=>d.cons.flatMap Cn.fields)
def pH (ds:List Dt) (s:bM):Nat:=(ds.filter fun d=>!has s d.name).length
def qC (s s':bM):Prop:=∀ n,has s n=true→has s' n=true
theorem filter_le {α:Type} {p q:α→Bool} (h:∀ a,q a=true→p a=true):∀ (l:List α),(l.filter q).length≤(l.filter p).length
 | []=>Nat.le_refl _
 | a::l=>by
  have ih:=filter_le h l;rw [List.filter_cons,List.filter_cons];cases hq:q a with
  | true=>rw [h a hq];simpa using ih
  | false=>
   cases hp:p a with
   | true=>simp;omega
   | false=>simpa using ih
theorem filter_lt {α:Type} {p q:α→Bool} (h:∀ a,q a=true→p a=true):∀ (l:List α),(∃ a∈l,p a=true∧q a=false)→(l.filter q).length < (l.filter p).length
 | [],⟨a,ha,_⟩=>by cases ha
 | a::l,⟨b,hb,U8,U9⟩=>by
  have h1:=filter_le h l;rw [List.filter_cons,List.filter_cons];rcases List.mem_cons.1 hb with rfl | hb
  ·rw [U8,U9];simp;omega
  ·have ih:=filter_lt h l ⟨b,hb,U8,U9⟩;cases hq:q a with
   | true=>rw [h a hq];simpa using ih
   | false=>
    cases hp:p a with
    | true=>simp;omega
    | false=>simpa using ih
theorem Mw {ds:List Dt} {s s':bM} (h:qC s s'):pH ds s'≤pH ds s:=filter_le (fun d hd=>by
 cases hh:has s d.name with
 | false=>rfl
 | true=>rw [h _ hh] at hd;cases hd) ds
theorem agC (s:bM) (n:ByteArray):qC s (bO s n 1):=fun m hm=>by rw [qv,hm,Bool.or_true]
def Gh (f:rS) (P:Ty→Prop) (U:bM→Prop):Prop:=∀ t s,P t→U s→∃ b s',f t s=some (b,s')∧qC s s'
theorem Mx {f:rS} {P:Ty→Prop} {U:bM→Prop} (hf:Gh f P U) (hU:∀ s s',U s→qC s s'→U s'):∀ (l:List Ty) (s:bM),(∀ t∈l,P t)→U s→∃ b s',mB f l s=some (b,s')∧qC s s'
 | [],s,_,_=>⟨true,s,rfl,fun _ h=>h⟩
 | t::l,s,hl,hs=>by
  obtain ⟨b,s1,h1,h2⟩:=hf t s (hl t (by simp)) hs;rw [mB,h1];cases b with
  | false=>exact ⟨false,s1,rfl,h2⟩
  | true=>
   obtain ⟨b,s2,h3,h4⟩:=Mx hf hU l s1 (fun u hu=>hl u (by simp [hu])) (hU _ _ hs h2);exact ⟨b,s2,h3,fun n hn=>h4 n (h2 n hn)⟩
theorem U' {f:rS} {P:Ty→Prop} {U:bM→Prop} (hf:Gh f P U) (hU:∀ s s',U s→qC s s'→U s'):∀ (l:List Cn) (s:bM),(∀ k∈l,∀ t∈k.fields,P t)→U s→∃ b s',rT f l s=some (b,s')∧qC s s'
 | [],s,_,_=>⟨true,s,rfl,fun _ h=>h⟩
 | k::l,s,hl,hs=>by
  obtain ⟨b,s1,h1,h2⟩:=Mx hf hU k.fields s (hl k (by simp)) hs;rw [rT,h1];cases b with
  | false=>exact ⟨false,s1,rfl,h2⟩
  | true=>
   obtain ⟨b,s2,h3,h4⟩:=U' hf hU l s1 (fun u hu=>hl u (by simp [hu])) (hU _ _ hs h2);exact ⟨b,s2,h3,fun n hn=>h4 n (h2 n hn)⟩
theorem My {f:rS} {P:Ty→Prop} {U:bM→Prop} (hU:∀ s s',U s→qC s s'→U s') (n:ByteArray):∀ (l:List Dt) (s:bM),((∃ d∈l,d.name=n)→Gh f P U∧U s)→(∀ d∈l,∀ k∈d.cons,∀ t∈k.fields,P t)→∃ b s',oU f n l s=some (b,s')∧qC s s'
 | [],s,_,_=>⟨true,s,rfl,fun _ h=>h⟩
 | d::l,s,hs,hl=>by
  rw [oU];by_cases hn:d.name≠n
  ·rw [if_pos hn];exact My hU n l s (fun ⟨e,he,hh⟩=>hs ⟨e,by simp [he],hh⟩) (fun e he=>hl e (by simp [he]))
  ·rw [if_neg hn];obtain ⟨hf,Va⟩:=hs ⟨d,by simp,by simpa using hn⟩;obtain ⟨b,s1,h1,h2⟩:=U' hf hU d.cons s (hl d (by simp)) Va;rw [h1];cases b with
   | false=>exact ⟨false,s1,rfl,h2⟩
   | true=>
    obtain ⟨b,s2,h3,h4⟩:=My hU n l s1 (fun _=>⟨hf,hU _ _ Va h2⟩) (fun e he=>hl e (by simp [he]));exact ⟨b,s2,h3,fun n hn=>h4 n (h2 n hn)⟩
theorem Mz (ds:List Dt):∀ (n u k:Nat),u*(Gg ds+1)+k≤n→Gh (iy ds n) (fun t=>t.dep≤k) (fun s=>pH ds s≤u)
 | 0,u,k,hn=>fun t s ht _=>by
  have:=t.U6;omega
 | n+1,u,k,hn=>fun t s ht hs=>by
  show ∃ b s',(if t.kind=3 then some (false,s) else match mB (iy ds n) t.args s with
   | none=>none
   | some (false,s')=>some (false,s')
   | some (true,s')=>if t.kind≠4∨(aG s' t.name).getD 0 > 0 then some (true,s') else oU (iy ds n) t.name ds (bO s' t.name 1))=some (b,s')∧qC s s'
  by_cases hk:t.kind=3
  ·rw [if_pos hk];exact ⟨_,_,rfl,fun _ h=>h⟩
  rw [if_neg hk];have hd:=t.U6;have ih:=Mz ds n u (k - 1) (by omega);have hU:∀ s s',pH ds s≤u→qC s s'→pH ds s'≤u:=fun s s' h1 h2=>Nat.le_trans (Mw h2) h1
  obtain ⟨b,s1,h1,h2⟩:=Mx ih hU t.args s (fun x hx=>by have:=U7 hx;omega) hs;rw [h1];cases b with
  | false=>exact ⟨false,s1,rfl,h2⟩
  | true=>
   simp only;by_cases hc:t.kind≠4∨(aG s1 t.name).getD 0 > 0
   ·rw [if_pos hc];exact ⟨true,s1,rfl,h2⟩
   ·rw [if_neg hc];have Ob:has s1 t.name=false:=by
     unfold has;simp only [not_or] at hc
     simpa using hc.2
    have hU':∀ s s',pH ds s≤u - 1→qC s s'→pH ds s'≤u - 1:=fun s s' h1 h2=>Nat.le_trans (Mw h2) h1
    obtain ⟨b,s2,h3,h4⟩:=My (f:=iy ds n) (P:=fun t=>t.dep≤Gg ds) (U:=fun s=>pH ds s≤u - 1) hU' t.name ds (bO s1 t.name 1) (fun ⟨d,xb,rV⟩=>by
     have aP:pH ds (bO s1 t.name 1) < pH ds s1:=filter_lt (fun e he=>by
      rw [qv] at he;cases hh:has s1 e.name with
      | false=>rfl
      | true=>rw [hh,Bool.or_true] at he;cases he) ds ⟨d,xb,by rw [rV,Ob];try rfl,by rw [qv,rV];simp⟩
     have h5:=Mw (ds:=ds) h2;have hu:pH ds (bO s1 t.name 1)≤u - 1:=by omega
     refine ⟨Mz ds n (u - 1) (Gg ds) ?_,hu⟩;obtain ⟨u',rfl⟩:∃ u',u=u'+1:=⟨u - 1,by omega⟩;rw [Nat.add_mul,Nat.one_mul] at hn;rw [Nat.add_sub_cancel]
     omega) (fun d xb k hk t ht=>U7 (List.mem_flatMap.2 ⟨d,xb,List.mem_flatMap.2 ⟨k,hk,ht⟩⟩))
    exact ⟨b,s2,h3,fun n hn=>h4 n (agC s1 t.name n (h2 n hn))⟩
theorem agD (ds:List Dt) (t:Ty):∃ N,∀ n,N≤n→∃ b,tz ds n t=some b:=by
 refine ⟨pH ds []*(Gg ds+1)+t.dep,fun n hn=>?_⟩;obtain ⟨b,s',h,_⟩:=Mz ds n (pH ds []) t.dep hn t [] (Nat.le_refl _) (Nat.le_refl _);exact ⟨b,by unfold tz;rw [h];try rfl⟩
end
section
open Go Go.W
def Gi (m:Rn):Prop:=m.kind=2∨m.kind=4∨(m.kind=3∧1≤m.stuck∧m.stuck≤4)
theorem MA {Q:Env} {X:Cx} {Z:Ts} {m:Rn} (h:C0 Q X Z (none,m)):Gi m:=.inr h
theorem agE {Q:Env} (hQ:pD Q) {S:Sg} {x:Cl} {D:Ty} (h:VT Q S x D):(fieldsOf x).length≤8∧∀ c∈fieldsOf x,∃ D,S c D:=by
 cases x with
 | aZ k cs=>
  obtain ⟨y,us,h1,_,h2⟩:=h;have hl:=h2.at;refine ⟨?_,fun c hc=>?_⟩
  ·show cs.length≤8;rw [hl.1];exact (hQ.cons _ _ h1).2
  ·obtain ⟨i,hi,rfl⟩:=List.getElem_of_mem hc;have hi:i < cs.length:=hi;exact ⟨_,hl.2 i _ _ (List.getElem?_eq_getElem hi) (List.getElem?_eq_getElem (by rw [← hl.1];exact hi))⟩
 | _=>exact ⟨by simp [fieldsOf],fun c hc=>by simp [fieldsOf] at hc⟩
theorem agF {Q:Env} (hQ:pD Q) {X:Cx} {S:Sg} {n c:Nat} {m:Rn} (bz:jj Q S m.cells) (hx:XT Q X S) (hc:c < m.cells.length) (hf:m.aO=[]) (hs:m.steps≤X.fuel) (hn:3*(X.fuel - m.steps).toNat+2 < n):∃ r,fW X n c m=some r∧C0 Q X (S c) r:=by
 obtain ⟨D,hD⟩:=bz.full c hc;have ho:qx Q X (S c) (dC m c):=FV bz hx ⟨D,hD⟩ (fun _ h=>h) (by rw [hf];exact fun _ h=>h);have cQ:=yK m c;unfold fW;generalize dC m c=rr at ho cQ
 match rr,ho,cQ with
 | (none,m'),ho,cQ=>exact ⟨_,rfl,.inr ho⟩
 | (some (.val x),m'),⟨S',P,a1,a2,_,a3,a4⟩,cQ=>
  have eD:m'.aO.length≤m.aO.length:=cQ.CW x rfl;rw [hf] at eD;have eD:m'.aO=[]:=List.eq_nil_of_length_eq_zero (by simpa using eD);rw [eD] at a4;exact ⟨_,rfl,S',a1,a2,a3.1,fun D hD=>a3.2 D (a4 D hD)⟩
 | (some (.go e v),m'),⟨S',P,a1,a2,a0,a3,a4⟩,cQ=>
  have ks:m'.steps=m.steps:=cQ.steps;have kf:m'.aO.length≤m.aO.length+1:=cQ.fl;rw [hf] at kf;have kf:m'.aO.length≤1:=by simpa using kf
  exact C1 hQ n a1 a2 a0 a3 a4 (by omega) (by simp only [yM];omega)
theorem MB (m:Rn) (c:Nat):m.cells.length≤(dC m c).2.cells.length:=by
 unfold dC;cases m.cells[c]? with
 | none=>exact Nat.le_refl _
 | some x=>cases x<;>first | exact Nat.le_refl _ | (simp [Rn.push,Rn.put])
theorem MC {m:Rn} {v:cr} {x:Cl}:∀ (l:List Al) {r:R3},eQ m v x l=some r→r.2.cells=m.cells
 | [],r,h=>by rw [eQ] at h;cases h;rfl
 | a::l,r,h=>by
  rw [eQ] at h
  split at h
  ·cases h;rfl
  ·split at h
   ·split at h
    ·obtain ⟨c,_,rfl⟩:=Option.map_eq_some_iff.1 h;rfl
    ·exact MC l h
   ·exact MC l h
theorem agG {m:Rn} {f:Cl} {c:Nat} {r:R3} (h:lE m f c=some r):r.2.cells=m.cells:=by
 unfold lE at h
 split at h
 ·split at h<;>cases h;rfl
 ·split at h<;>cases h;rfl
 ·cases h;rfl
theorem Vb {X:Cx} {e:Ex} {v:cr} {m:Rn} {r:R3} (h:iS X e v m=some r):m.cells.length≤r.2.cells.length:=by
 unfold iS at h;by_cases k1:e.kind=1
 ·rw [if_pos k1] at h;obtain ⟨c,_,rfl⟩:=Option.map_eq_some_iff.1 h;exact MB m c
 rw [if_neg k1] at h;by_cases k3:e.kind=3
 ·rw [if_pos k3] at h;obtain ⟨c,_,rfl⟩:=Option.map_eq_some_iff.1 h;exact MB m c
 rw [if_neg k3] at h;by_cases k2:e.kind=2
 ·rw [if_pos k2] at h;cases h;exact Nat.le_refl _
 rw [if_neg k2] at h;by_cases k4:e.kind=4
 ·rw [if_pos k4] at h;cases h;exact Nat.le_refl _
 rw [if_neg k4] at h;by_cases k6:e.kind=6
 ·rw [if_pos k6] at h;cases h;exact Nat.le_refl _
 rw [if_neg k6] at h;by_cases wI:e.kind=12
 ·rw [if_pos wI] at h;cases h;exact Nat.le_refl _
 rw [if_neg wI] at h;by_cases k7:e.kind=7
 ·rw [if_pos k7] at h
  split at h
  ·cases h
  ·cases h;simp
 rw [if_neg k7] at h;by_cases wJ:e.kind=11
 ·rw [if_pos wJ] at h
  split at h
  ·cases h
  ·cases h;exact Nat.le_refl _
 rw [if_neg wJ] at h
 split at h
 ·cases h
 ·cases h;by_cases k5:e.kind=5
  ·rw [if_pos k5];exact Nat.le_refl _
  by_cases k8:e.kind=8
  ·rw [if_neg k5,if_pos k8];exact Nat.le_refl _
  by_cases k9:e.kind=9
  ·rw [if_neg k5,if_neg k8,if_pos k9];exact Nat.le_refl _
  by_cases tp:e.kind=10
  ·rw [if_neg k5,if_neg k8,if_neg k9,if_pos tp];exact Nat.le_refl _
  ·rw [if_neg k5,if_neg k8,if_neg k9,if_neg tp];exact Nat.le_refl _
theorem Vc {f:Fm} {x:Cl} {m:Rn} {r:R3} (h:iT f x m=some r):m.cells.length≤r.2.cells.length:=by
 unfold iT at h
 split at h
 ·cases h;simp [Rn.put]
 ·split at h
  ·rw [agG h];simp [Rn.new]
  ·cases h
 ·rw [MC _ h];exact Nat.le_refl _
 ·split at h<;>cases h;exact Nat.le_refl _
 ·split at h<;>cases h<;>exact Nat.le_refl _
 ·split at h<;>cases h;exact Nat.le_refl _
 ·split at h<;>cases h;simp [Rn.new]
theorem MD {X:Cx}:∀ (n:Nat) {md:Md} {m:Rn} {r:Option Cl×Rn},cF X n md m=some r→m.cells.length≤r.2.cells.length
 | 0,md,m,r,h=>by cases md<;>(rw [cF] at h;cases h)
 | n+1,.go e v,m,r,h=>by
  rw [cF] at h;rcases qz X m with ⟨h1,h2⟩ | ⟨h1,h2⟩
  ·rw [h2] at h;simp only [if_true] at h;cases h;exact Nat.le_refl _
  ·rw [h2] at h;simp only [Bool.true_eq_false,if_false] at h
   split at h
   ·cases h
   ·rename_i m' hb;cases h;exact Vb hb
   ·rename_i md' m' hb;exact Nat.le_trans (show m.cells.length≤m'.cells.length from Vb hb) (MD n h)
 | n+1,.val x,m,r,h=>by
  rw [cF] at h
  split at h
  ·cases h;exact Nat.le_refl _
  ·split at h
   ·cases h
   ·rename_i m' hb;cases h;exact Vc hb
   ·rename_i md' m' hb;exact Nat.le_trans (show m.cells.length≤m'.cells.length from Vc hb) (MD n h)
theorem agH {X:Cx} {n c:Nat} {m:Rn} {r:Option Cl×Rn} (h:fW X n c m=some r):m.cells.length≤r.2.cells.length:=by
 unfold fW at h;have k:=MB m c;generalize dC m c=rr at h k
 match rr,h,k with
 | (none,m'),h,k=>cases h;exact k
 | (some (.val x),m'),h,k=>cases h;exact k
 | (some (.go e v),m'),h,k=>exact Nat.le_trans k (MD n h)
theorem ME {Q:Env} (hQ:pD Q) {X:Cx} (hX:X.fuel≤1048576):∀ (n:Nat) {S:Sg} {x:Cl} {D:Ty} {ws:List Nat} {m:Rn},jj Q S m.cells→XT Q X S→VT Q S x D→m.aO=[]→(∀ c∈ws,c < m.cells.length)→(ws.length:Int)≤8*m.steps→0≤m.steps→m.steps≤X.fuel→3*(X.fuel - m.steps).toNat+4≤n →
   ∃ m',eC X n x ws m=some m'∧Gi m'
 | 0,S,x,D,ws,m,_,_,_,_,_,_,_,_,hn=>by omega
 | n+1,S,x,D,ws,m,bz,hx,hv,hf,hw,hwl,jo,hs,hn=>by
  obtain ⟨Ua,so⟩:=agE hQ hv;rw [eC];rcases qz X m with ⟨h1,h2⟩ | ⟨h1,h2⟩
  ·rw [h2,if_pos rfl];exact ⟨_,rfl,.inr (.inl rfl)⟩
  ·rw [h2,if_neg (by simp)];simp only;have hlen:(ws++(fieldsOf x).reverse).length≤ws.length+8:=by simp;omega
   rw [if_neg (by omega)];have eT:∀ c∈ws++(fieldsOf x).reverse,c < m.cells.length:=fun c hc=>by
    rcases List.mem_append.1 hc with h | h
    ·exact hw c h
    ·obtain ⟨D',vC⟩:=so c (List.mem_reverse.1 h);exact bz.wF _ _ vC
   generalize hws:ws++(fieldsOf x).reverse=MF at hlen eT;cases hl:MF.getLast? with
   | none=>exact ⟨_,rfl,.inl rfl⟩
   | some c=>
    have Dn:c∈MF:=List.mem_of_getLast? hl;have Bj:0 < MF.length:=List.length_pos_of_mem Dn;obtain ⟨r,hr,he⟩:=agF hQ (n:=n) (c:=c) (m:={ m with steps:=m.steps+1,told:=m.told++iK x}) bz hx (eT c Dn) hf (show m.steps+1≤X.fuel by omega) (show 3*(X.fuel - (m.steps+1)).toNat+2 < n by omega);have hg:=wL hr hf;have fy:=agH hr;simp only [hr]
    match r,he,hg,fy with
    | (none,m'),he,hg,fy=>exact ⟨_,rfl,MA he⟩
    | (some y,m'),⟨S',a1,a2,a3,a4⟩,hg,fy=>
     obtain ⟨D',vC⟩:=bz.full c (eT c Dn);have gs:m.steps+1≤m'.steps:=hg.steps;have gf:m.steps+1≤X.fuel→m'.steps≤X.fuel:=hg.fuel;obtain ⟨_,_,Dp⟩:=hg.val y rfl;have fy:m.cells.length≤m'.cells.length:=fy;exact ME hQ hX n a1 a2 (a4 D' vC) Dp (fun d hd=>Nat.lt_of_lt_of_le (eT d ((List.dropLast_sublist _).subset hd)) fy) (by rw [List.length_dropLast];omega) (by omega) (gf (by omega)) (by omega)
theorem Vd:∀ (l:List Df) (E E':Env),fG l E = .ok E'→(∀ n d,aG E.ak n=some d→aG E'.ak n=some d)∧∀ d∈l,aG E'.ak d.name=some d
 | [],E,E',h=>by rw [fG] at h;cases h;exact ⟨fun _ _ h=>h,fun d hd=>(by cases hd)⟩
 | d::l,E,E',h=>by
  rw [fG] at h
  split at h
  ·cases h
  ·rename_i E1 h1;obtain ⟨_,a2,_⟩:=US h1;have hn:aG E.ak d.name=none:=by
    unfold nO at h1
    split at h1
    ·cases h1
    ·rename_i hc;simp only [Bool.or_eq_true,not_or] at hc;cases hx:aG E.ak d.name with
     | none=>rfl
     | some y=>rw [hx] at hc;simp at hc
   obtain ⟨b1,b2⟩:=Vd l E1 E' h;refine ⟨fun n e he=>b1 n e ?_,fun e he=>?_⟩
   ·rw [a2,jE,if_neg (fun hh=>by rw [hh,he] at hn;cases hn)];exact he
   ·rcases List.mem_cons.1 he with rfl | he
    ·exact b1 _ _ (by rw [a2,aem])
    ·exact b2 e he
theorem MG {f:Ty→Option Bool} {n:ByteArray} {fX:Bool}:∀ (l:List Df),nU f n l=some (fX,true)→∃ d∈l,d.name=n∧d.params=[]∧(jk d).2=fX
 | [],h=>by rw [nU] at h;cases h
 | d::l,h=>by
  rw [nU] at h
  split at h
  ·obtain ⟨e,he,h1⟩:=MG l h;exact ⟨e,by simp [he],h1⟩
  ·rename_i hn
   split at h
   ·cases h
   ·rename_i hp;obtain ⟨b,_,h2⟩:=Option.map_eq_some_iff.1 h;cases h2;exact ⟨d,by simp,by simpa using hn,List.eq_nil_of_length_eq_zero (by omega),rfl⟩
abbrev kP:ByteArray:=⟨#[78,105,108]⟩
def qD (x:Ty):Ty:=.mk 4 uM [x]
theorem agI (x:Ty):lk dList.params [x] ⟨#[97]⟩=x:=Tp dList.params (fun _=>x) (List.mem_singleton.2 rfl)
theorem Ve (x:Ty):cC.sub (lk dList.params [x])=x:=by rw [Ty.sub_eq,if_pos (show cC.kind=2 from rfl)];exact agI x
theorem MH (x:Ty):j'.sub (lk dList.params [x])=qD x:=by
 rw [Ty.sub_eq,if_neg (by decide)];show Ty.mk 4 uM [cC.sub _]=_;rw [Ve];try rfl
theorem Vf {Q:Env} {X:Cx} (hN:aG Q.cons kP=some (dList,0)) (hC:aG Q.cons di=some (dList,1)) {x:Ty} (hk:x.kind=1):∀ (l:List Int) {S:Sg} {cells:List Cl},jj Q S cells→XT Q X S→∃ S',jj Q S' (cR l cells).2∧XT Q X S'∧(∀ c D,S c D→S' c D)∧VT Q S' (cR l cells).1 (qD x)
 | [],S,cells,bz,hx=>⟨S,bz,hx,fun _ _ h=>h,(dList,0),[x],hN,(MH x).symm,trivial⟩
 | n::l,S,cells,bz,hx=>by
  obtain ⟨S1,h1,h2,h3,h4⟩:=Vf hN hC hk l bz hx;have h5:jj Q (nt S1 (cR l cells).2.length (fun i D=>(i=0∧D=x)∨(i=1∧D=qD x))) ((cR l cells).2++[.num n,(cR l cells).1]):=by
   refine h1.app (fun i y hy=>?_) (fun i hi=>?_) (fun i D hD=>?_)
   ·match i,hy with
    | 0,hy=>
     cases hy;intro D hD;rcases hD with ⟨_,rfl⟩ | ⟨h,_⟩
     ·exact hk
     ·cases h
    | 1,hy=>
     have hy:(cR l cells).1=y:=by simpa using hy
     subst hy;obtain ⟨kn,kf,gP⟩:=AP l cells;have hD:∀ D,((1=0∧D=x)∨((1:Nat)=1∧D=qD x))→VT Q (nt S1 (cR l cells).2.length (fun i D=>(i=0∧D=x)∨(i=1∧D=qD x))) (cR l cells).1 D:=fun D hD=>by
      rcases hD with ⟨h,_⟩ | ⟨_,rfl⟩
      ·cases h
      ·exact h4.mono tn.1
     rw [gP] at hD ⊢;exact hD
    | i+2,hy=>simp at hy
   ·match i,hi with
    | 0,_=>exact ⟨x,.inl ⟨rfl,rfl⟩⟩
    | 1,_=>exact ⟨qD x,.inr ⟨rfl,rfl⟩⟩
    | i+2,hi=>have hi:i+2 < 2:=hi;omega
   ·rcases hD with ⟨rfl,_⟩ | ⟨rfl,_⟩<;>simp
  refine ⟨_,h5,h2.mono tn.1,fun c D h=>tn.1 _ _ (h3 c D h),(dList,1),[x],hC,(MH x).symm,?_,?_,trivial⟩
  ·exact .inr ⟨Nat.le_refl _,.inl ⟨by omega,Ve x⟩⟩
  ·exact .inr ⟨Nat.le_succ _,.inr ⟨by omega,MH x⟩⟩
end
section
open Go Go.W
theorem agJ {Q:Env} (hQ:pD Q) {X:Cx} {S:Sg} {n c:Nat} {m:Rn} {x:Cl} {F A D:Ty} (bz:jj Q S m.cells) (hx:XT Q X S) (hv:x.io=true) (hF:VT Q S x F) (hk:F.kind=3) (ha:F.args=[A,D]) (hc:S c A) (hf:m.aO=[]) (hs:m.steps≤X.fuel) (hn:3*(X.fuel - m.steps).toNat+2 < n) :
   ∃ r,qn X n x c m=some r∧C0 Q X (fun D'=>D'=D) r:=by
 obtain ⟨rr,hr,ho⟩:=TL (Z:=fun D'=>D'=D) (P:=fun F'=>F'=F) (R:=fun D'=>D'=D) hQ bz hx hv (fun F' e=>by rw [e];exact hF) ⟨D,rfl⟩ (fun D' e=>⟨F,A,rfl,hk,by rw [e];exact ha,hc⟩) (by rw [hf];exact fun _ h=>h);have cQ:=CY hr;unfold qn;rw [hr]
 match rr,ho,cQ with
 | (none,m'),ho,cQ=>exact ⟨_,rfl,.inr ho⟩
 | (some (.val x),m'),⟨S',P,a1,a2,_,a3,a4⟩,cQ=>
  have eD:m'.aO.length≤m.aO.length:=cQ.CW x rfl;rw [hf] at eD;have eD:m'.aO=[]:=List.eq_nil_of_length_eq_zero (by simpa using eD);rw [eD] at a4;exact ⟨_,rfl,S',a1,a2,a3.1,fun D hD=>a3.2 D (a4 D hD)⟩
 | (some (.go e v),m'),⟨S',P,a1,a2,a0,a3,a4⟩,cQ=>
  have ks:m'.steps=m.steps:=cQ.steps;have kf:m'.aO.length≤m.aO.length+1:=cQ.fl;rw [hf] at kf;have kf:m'.aO.length≤1:=by simpa using kf
  exact C1 hQ n a1 a2 a0 a3 a4 (by omega) (by simp only [yM];omega)
theorem agK {p:Pg} {Q:Env} {fuel:Int} {name:ByteArray} {fX:Bool} {f:Ty→Option Bool} (h:kg p = .ok Q) (he:nU f name p.ak=some (fX,true)) (hf:0≤fuel∧fuel≤1048576) (input:List Int) :
   ∃ m,runM p fuel name fX input=some m∧Gi m:=by
 obtain ⟨hQ,bz,hx⟩:=U4 (fuel:=fuel) h;obtain ⟨E1,h1,h2,_,_,Mu,Dq⟩:=Mt h;obtain ⟨d,hd,rV,sY,qM⟩:=MG p.ak he;have bh:im p=0:=by unfold im;rw [h]
 have fM:=Gc bh d hd;have Vg:aG Q.ak name=some d:=by rw [← rV];exact (Vd p.ak E1 Q h2).2 d hd
 obtain ⟨c,hc,Dn⟩:=hx.ak _ _ Vg;have hT:=Dn [];have UU:d.type.gB []=true:=by have:=hQ.ak _ _ Vg;rwa [sY] at this
 generalize hTT:d.type.sub (lk d.params [])=T at hT;have AU:(cw p fuel).fuel=fuel:=rfl;have db:∃ r,cF (cw p fuel) iA (.go (lH name) []) (dI p)=some r∧C0 Q (cw p fuel) (fun D=>D=T) r:=by
  show ∃ r,cF (cw p fuel) (16777215+1) (.go (lH name) []) (dI p)=some r∧_;rw [cF];rcases qz (cw p fuel) (dI p) with ⟨q1,q2⟩ | ⟨q1,q2⟩
  ·rw [q2,if_pos rfl];exact ⟨_,rfl,.inl rfl⟩
  ·rw [q2,if_neg (by simp)];have hb:iS (cw p fuel) (lH name) [] { dI p with steps:=(dI p).steps+1}=some (dC { dI p with steps:=(dI p).steps+1} c):=by
    unfold iS;rw [if_neg (show ¬ (lH name).kind=1 from (show ¬ (3:Int)=1 by decide)),if_pos (show (lH name).kind=3 from rfl)];show (aG (cw p fuel).ak name).map _=_;rw [hc];try rfl
   simp only [hb];have ho:qx Q (cw p fuel) (fun D=>D=T) (dC { dI p with steps:=(dI p).steps+1} c):=FV (P:=fun D=>D=T) bz hx ⟨T,rfl⟩ (fun D e=>by rw [e];exact hT) (fun _ h=>h);have cQ:=yK { dI p with steps:=(dI p).steps+1} c;generalize dC { dI p with steps:=(dI p).steps+1} c=rr at ho cQ
   match rr,ho,cQ with
   | (none,m'),ho,cQ=>exact ⟨_,rfl,.inr ho⟩
   | (some md',m'),⟨S',P',a1,a2,a3,a4,a5⟩,cQ=>
    have ks:m'.steps=0+1:=cQ.steps;have kf:m'.aO.length≤0+1:=cQ.fl;have Cr:(0:Int)≠fuel:=q1;refine C1 hQ _ a1 a2 a3 a4 a5 (by rw [AU];omega) ?_;cases md'<;>(simp only [yM,AU];omega)
 obtain ⟨r,hr,kX⟩:=db;have hg:=tq _ hr;unfold runM;rw [hr]
 match r,kX,hg with
 | (none,m),kX,hg=>exact ⟨_,rfl,MA kX⟩
 | (some x,m),⟨S,a1,a2,a3,a4⟩,hg=>
  have gs:(0:Int)≤m.steps:=hg.steps;have gf:m.steps≤fuel:=hg.fuel (show (0:Int)≤fuel from hf.1);obtain ⟨_,_,Dp⟩:=hg.val x rfl;cases fX with
  | false=>
   simp only [Bool.false_eq_true,if_false];exact ME hQ (by rw [AU];exact hf.2) iA a1 a2 (a4 T rfl) Dp (fun c hc=>by cases hc) (by simp;omega) gs (by rw [AU];exact gf) (show 3*(fuel - m.steps).toNat+4≤16777216 by omega)
  | true=>
   simp only [if_true];have MI:d.type.kind=3:=by
    unfold jk at qM;by_cases hk:d.type.kind=3
    ·exact hk
    ·have:(d.type.kind == 3)=false:=by simpa using hk
     rw [this] at qM;cases qM
   have fJ:=fM.1 MI;rw [Ml d MI fJ] at qM;obtain ⟨a,b,rh⟩:=CU fJ;have e0:d.type.args[0]=a:=by simp [rh]
   rw [e0] at qM;have AS:rM a=true:=by
    cases hq:rM a with
    | true=>rfl
    | false=>rw [hq] at qM;cases qM
   have Vh:T.kind=3∧T.args=[a.sub (lk d.params []),b.sub (lk d.params [])]:=by
    obtain ⟨s1,s2,s3⟩:=wE (lk d.params []) (t:=d.type) (by omega);rw [← hTT,s1,s3,rh];exact ⟨MI,rfl⟩
   have agL:∃ y,y.kind=1∧a.sub (lk d.params [])=qD y:=by
    unfold rM at AS;simp only [Bool.and_eq_true,beq_iff_eq] at AS;obtain ⟨⟨k4,kn⟩,kx⟩:=AS;have Vi:a.name=uM:=by rw [oD] at kn;simpa using kn
    have Gd:∃ E,a.wf E=true∧aG E.aH uM=some dList:=by
     obtain ⟨_,hw⟩:=Mp _ _ _ h2;exact ⟨E1,J0 (hw d hd) (by rw [rh];simp),UN h1⟩
    obtain ⟨E,hw,hL⟩:=Gd;rw [a.oK,k4,Bool.and_eq_true,Bool.and_eq_true] at hw;have dF:dy E a.name a.args.length=false:=by simpa using hw.1.2
    unfold dy at dF;rw [Vi,hL] at dF;have oB:(dList.params.length:Int)=a.args.length:=by simpa using dF
    have oB:a.args.length=1:=by have:dList.params.length=1:=rfl;omega
    obtain ⟨y,hy⟩:=AE oB;rw [hy] at kx;have ky:y.kind=1:=by simpa using kx
    refine ⟨y.sub (lk d.params []),by rw [(wE _ (t:=y) (by omega)).1,ky],?_⟩;rw [a.sub_eq,if_neg (by omega),hy,k4,Vi];rfl
   obtain ⟨y,hyk,tV⟩:=agL;obtain ⟨S1,b1,b2,b3,b4⟩:=Vf (Dq _ _ (by rw [wZ];rfl)) (Dq _ _ (by rw [wZ];try rfl)) hyk input a1 a2;have b5:jj Q (nt S1 (cR input m.cells).2.length (fun i D=>i=0∧D=qD y)) ((cR input m.cells).2++[(cR input m.cells).1]):=by
    refine b1.app (fun i z hz=>?_) (fun i hi=>?_) (fun i D hD=>by rw [hD.1];simp)
    ·match i,hz with
     | 0,hz=>
      have hz:(cR input m.cells).1=z:=by simpa using hz
      subst hz;obtain ⟨kn,kf,gP⟩:=AP input m.cells;have hD:∀ D,(0=0∧D=qD y)→VT Q (nt S1 (cR input m.cells).2.length (fun i D=>i=0∧D=qD y)) (cR input m.cells).1 D:=fun D hD=>by
       rw [hD.2];exact b4.mono tn.1
      rw [gP] at hD ⊢;exact hD
     | i+1,hz=>simp at hz
    ·have:i=0:=by simpa using hi
     exact ⟨qD y,this,rfl⟩
   have agM:∀ c D,S c D→nt S1 (cR input m.cells).2.length (fun i D=>i=0∧D=qD y) c D:=fun c D h=>tn.1 _ _ (b3 c D h)
   obtain ⟨r2,oF,MJ⟩:=agJ (c:=(m.ls input).cells.length) (m:=(m.ls input).new (cR input m.cells).1) (n:=iA) hQ b5 (b2.mono tn.1) a3 ((a4 T rfl).mono agM) Vh.1 Vh.2 (.inr ⟨Nat.le_refl _,Nat.sub_self _,tV⟩) Dp (show m.steps≤fuel from gf) (show 3*(fuel - m.steps).toNat+2 < 16777216 by omega);have gZ:=Ge oF (show m.aO=[] from Dp);rw [oF]
   match r2,MJ,gZ with
   | (none,m2),MJ,gZ=>exact ⟨_,rfl,MA MJ⟩
   | (some y2,m2),⟨S2,c1,c2,c3,c4⟩,gZ=>
    have gs2:m.steps≤m2.steps:=gZ.steps;have gf2:m2.steps≤fuel:=gZ.fuel (show m.steps≤fuel from gf);obtain ⟨_,_,agN⟩:=gZ.val y2 rfl;exact ME hQ (by rw [AU];exact hf.2) iA c1 c2 (c4 _ rfl) agN (fun c hc=>by cases hc) (by simp;omega) (by omega) (by rw [AU];exact gf2) (show 3*(fuel - m2.steps).toNat+4≤16777216 by omega)
theorem Vj (p:Pg) (name:ByteArray):∃ N0,∀ N,N0≤N→∀ input fuel,∃ bZ,lI p N name input fuel=some bZ∧(bZ.1=0→∃ m,bZ.2=some m∧Gi m)∧(bZ.1≠0→bZ.2=none):=by
 have xc:∀ (l:List Df),∃ N0,∀ N,N0≤N→∃ e,nU (tz p.aH N) name l=some e:=by
  intro l
  induction l with
  | nil=>exact ⟨0,fun N _=>⟨_,rfl⟩⟩
  | cons d l ih=>
   obtain ⟨N1,h1⟩:=ih;obtain ⟨N2,h2⟩:=agD p.aH (jk d).1;refine ⟨max N1 N2,fun N hN=>?_⟩;obtain ⟨e,he⟩:=h1 N (by omega);obtain ⟨b,hb⟩:=h2 N (by omega);rw [nU]
   split
   ·exact ⟨e,he⟩
   ·split
    ·exact ⟨_,rfl⟩
    ·rw [hb];exact ⟨_,rfl⟩
 obtain ⟨N0,hN0⟩:=xc p.ak;refine ⟨N0,fun N hN input fuel=>?_⟩;obtain ⟨e,he⟩:=hN0 N hN;unfold lI;by_cases c1:10000 < input.length
 ·rw [if_pos c1];exact ⟨_,rfl,fun h=>absurd (show (2:Int)=0 from h) (by decide),fun _=>rfl⟩
 rw [if_neg c1];by_cases c2:tB input=true
 ·rw [if_pos c2];exact ⟨_,rfl,fun h=>absurd (show (1:Int)=0 from h) (by decide),fun _=>rfl⟩
 rw [if_neg c2];by_cases c3:fuel < 0∨fuel > 1048576
 ·rw [if_pos c3];exact ⟨_,rfl,fun h=>absurd (show (1:Int)=0 from h) (by decide),fun _=>rfl⟩
 rw [if_neg c3];by_cases c4:im p≠0
 ·rw [if_pos c4];exact ⟨_,rfl,fun h=>absurd h c4,fun _=>rfl⟩
 rw [if_neg c4];have CJ:rU p N name=some e:=he;rw [CJ];obtain ⟨fX,ok⟩:=e;cases ok with
 | false=>exact ⟨_,rfl,fun h=>absurd (show (100:Int)=0 from h) (by decide),fun _=>rfl⟩
 | true=>
  obtain ⟨Q,hQ⟩:=Gb (by simpa using c4);obtain ⟨m,hm,hk⟩:=agK hQ he (fuel:=fuel) (by omega) input;simp only;rw [hm];exact ⟨_,rfl,fun _=>⟨m,rfl,hk⟩,fun h=>absurd rfl h⟩
end
section
open Go Go.W
abbrev qE:=ByteArray×Int
def yT (a b:qE):Bool:=decide (a.1=b.1)&&decide (a.2=b.2)
def oV:List qE→List qE→Bool
 | [],_=>true
 | _,[]=>true
 | a::l,b::m=>yT a b&&oV l m
theorem agO {l m:List qE} {i:Nat} (h1:i < l.length) (h2:i < m.length):oV (l.drop i) (m.drop i)=(yT l[i] m[i]&&oV (l.drop (i+1)) (m.drop (i+1))):=by
 rw [List.drop_eq_getElem_cons h1,List.drop_eq_getElem_cons h2];try rfl
theorem Vk {l m:List qE} {i:Nat} (h:l.length≤i∨m.length≤i):oV (l.drop i) (m.drop i)=true:=by
 rcases h with h | h
 ·rw [List.drop_eq_nil_of_le h];cases m.drop i<;>rfl
 ·rw [List.drop_eq_nil_of_le h];cases l.drop i<;>rfl
abbrev oW (w:World) (B:Nat→Prop) (v:Value) (l:List qE):Prop:=aT w v 2 B Lh l
abbrev yU (k s n:Int) (v f1 f2 f3 f4:Value):List Value:=[I k,v,I s,I n,f1,f2,f3,f4]
theorem Vl {w:World} {B B':Nat→Prop} {k1 s1 n1 k2 s2 n2:Int} {v1 v2 f1 f2 f3 f4 g1 g2 g3 g4:Value} {l1 l2:List qE} (h1:oW w B v1 l1) (h2:oW w B' v2 l2) :
   a8 Tryz.prog 10 [.agg (yU k1 s1 n1 v1 f1 f2 f3 f4).toArray,.agg (yU k2 s2 n2 v2 g1 g2 g3 g4).toArray] w fun r w'=>r = .bool (oV l1 l2)∧Mod (fun _=>False) w w':=by
 obtain ⟨a1,c1,rfl⟩:=a7 h1;obtain ⟨a2,c2,rfl⟩:=a7 h2;have oB:=dB h1;refine Yu.calls rfl ?_;unfold HI;(try simp only [go_sem,simprocAttr]);refine bD rfl ?_;intro wa jA jB oZ;(try simp only [go_sem,simprocAttr]);refine bD rfl ?_;intro wb ey fQ yj;have jq:=jB.trans fQ;have jA:=fQ.at jA _root_.id;(try simp only [go_sem,simprocAttr])
 refine fL (fun z ρ w'=>∃ i:Nat,z=l1.length - i∧i≤l1.length∧Mod (fun _=>False) wb w'∧oV l1 l2=oV (l1.drop i) (l2.drop i) ∧
  ρ=[(2,ptr w.heap.size),(3,ptr wa.heap.size),(5,I i)]) l1.length ⟨0,rfl,by omega,.refl _ _,rfl,rfl⟩ ?_
 rintro z _ w2 ⟨i,rfl,hi,ai,mK,rfl⟩;have au:=ai.at jA _root_.id;have aM:=ai.at ey _root_.id;have aY:=jq.trans ai;unfold OR;(try simp only [go_sem,simprocAttr,cell_of au,Value.cells]);by_cases q1:i < l1.length
 ·have b1:decide ((i:Int) < l1.length)=true:=by simpa using q1
  (try simp only [go_sem,simprocAttr,b1,cell_of aM,Value.cells]);by_cases q2:i < l2.length
  ·have b2:decide ((i:Int) < l2.length)=true:=by simpa using q2
   have gd:=agO q1 q2;obtain ⟨qq,Ez,r1,e1,er1,_,agP,_⟩:=eh (h1.mod aY aC (fun _ _ h=>h)) q1;obtain ⟨kA,c2',r2,e2,er2,_,xY,_⟩:=eh (h2.mod aY aC (fun _ _ h=>h)) q2;obtain ⟨rfl,-,-⟩:=bY e1;obtain ⟨rfl,-,-⟩:=bY e2;cases er1;cases er2;have p1:(0:Int)≤i∧(i:Int) < l1.length:=by omega
   have p2:(0:Int)≤i∧(i:Int) < l2.length:=by omega
   have e3:IntKind.i64.wrap ((i:Int)+1)=((i+1:Nat):Int):=by rw [dv (by omega) (by omega)];omega
   (try simp only [go_sem,simprocAttr,b2]);(try simp only [go_sem,simprocAttr,bq,br,cell_of au,cell_of aM,Value.cells,p1,p2,agP,xY,Hr]);have e4:(decide (l1[i].1=l2[i].1)&&l1[i].2 == l2[i].2)=yT l1[i] l2[i]:=by unfold yT;congr 1
   rw [e4];have d2:Mod (fun _=>False) w2 w2.drew:=(Mod.refl _ _).drew;cases hz:yT l1[i] l2[i] with
   | false=>
    rw [hz,Bool.false_and] at gd;(try simp only [go_sem,simprocAttr,aE,RV.ev,aF]);exact ⟨by rw [mK,gd],aY.trans d2⟩
   | true=>
    rw [hz,Bool.true_and] at gd;(try simp only [go_sem,simprocAttr,e3]);exact ⟨_,by omega,i+1,rfl,q1,ai.trans d2,by rw [mK,gd],rfl⟩
  ·have b2:decide ((i:Int) < l2.length)=false:=by simpa using q2
   (try simp only [go_sem,simprocAttr,b2,aE,RV.ev,aF]);exact ⟨by rw [mK,Vk (.inr (by omega))],aY⟩
 ·have b1:decide ((i:Int) < l1.length)=false:=by simpa using q1
  (try simp only [go_sem,simprocAttr,b1,aE,RV.ev,aF]);exact ⟨by rw [mK,Vk (.inl (by omega))],aY⟩
end
section
open Go Go.W
def AV (l m:List qE):Bool:=oV l m&&decide (l.length=m.length)
theorem agQ {w:World} {B B':Nat→Prop} {k1 s1 n1 k2 s2 n2:Int} {v1 v2 f1 f2 f3 f4 g1 g2 g3 g4:Value} {l1 l2:List qE} (h1:oW w B v1 l1) (h2:oW w B' v2 l2) :
   a8 Tryz.prog 30 [.agg (yU k1 s1 n1 v1 f1 f2 f3 f4).toArray,.agg (yU k2 s2 n2 v2 g1 g2 g3 g4).toArray] w fun r w'=>r = .bool (AV l1 l2)∧Mod (fun _=>False) w w':=by
 have lf:=h1;have wq:=h2;obtain ⟨a1,c1,rfl⟩:=a7 h1;obtain ⟨a2,c2,rfl⟩:=a7 h2;refine YL.calls rfl ?_;unfold H0;(try simp only [go_sem,simprocAttr]);refine bD rfl ?_;intro wa jA jB oZ;(try simp only [go_sem,simprocAttr]);refine bD rfl ?_;intro wb ey fQ yj;have jq:=jB.trans fQ;have jA:=fQ.at jA _root_.id;(try simp only [go_sem,simprocAttr,az (n:=8) (cs:=yU k1 s1 n1 (.slice a1 l1.length c1) f1 f2 f3 f4) jA rfl,az (n:=8) (cs:=yU k2 s2 n2 (.slice a2 l2.length c2) g1 g2 g3 g4) ey rfl]);refine aI (by rfl) ?_;refine (Vl (lf.mod jq aC (fun _ _ h=>h)) (wq.mod jq aC (fun _ _ h=>h))).mono ?_;rintro _ w1 ⟨rfl,aj⟩;have au:=aj.at jA _root_.id;have aM:=aj.at ey _root_.id;have e:((l1.length:Int) == (l2.length:Int))=decide (l1.length=l2.length):=by
  by_cases q:l1.length=l2.length
  ·simp [q]
  ·have:¬ (l1.length:Int)=l2.length:=by omega
   simp [q,this]
 cases hb:oV l1 l2 with
 | false=>
  (try simp only [go_sem,simprocAttr,aE,RV.ev,aF]);exact ⟨congrArg _ (by rw [AV,hb];try rfl),jq.trans aj⟩
 | true=>
  (try simp only [go_sem,simprocAttr,cell_of au,cell_of aM,Value.cells,e,aE,RV.ev,aF]);exact ⟨congrArg _ (by rw [AV,hb];try rfl),jq.trans aj⟩
end
section
open Go Go.W
abbrev cY (k s n:Int) (v:Value):List Value:=yU k s n v (I 0) (I 0) (I 0) (.string bI)
theorem agR {w:World} {B B':Nat→Prop} {k1 s1 n1 k2 s2 n2:Int} {v1 v2:Value} {l1 l2:List qE} (h1:oW w B v1 l1) (h2:oW w B' v2 l2) :
   a8 Tryz.prog 11 [.agg (cY k1 s1 n1 v1).toArray,.agg (cY k2 s2 n2 v2).toArray] w fun r w'=>r = .bool (((k1 == k2&&s1 == s2)&&n1 == n2)&&AV l1 l2)∧Mod (fun _=>False) w w':=by
 have lf:=h1;have wq:=h2;obtain ⟨a1,c1,rfl⟩:=a7 h1;obtain ⟨a2,c2,rfl⟩:=a7 h2;refine Yv.calls rfl ?_;unfold HJ;(try simp only [go_sem,simprocAttr]);refine bD rfl ?_;intro wa jA jB oZ;(try simp only [go_sem,simprocAttr]);refine bD rfl ?_;intro wb ey fQ yj;have jq:=jB.trans fQ;have jA:=fQ.at jA _root_.id;(try simp only [go_sem,simprocAttr,az (n:=8) (cs:=cY k1 s1 n1 (.slice a1 l1.length c1)) jA rfl,az (n:=8) (cs:=cY k2 s2 n2 (.slice a2 l2.length c2)) ey rfl]);refine aI (by rfl) ?_;refine (agQ (lf.mod jq aC (fun _ _ h=>h)) (wq.mod jq aC (fun _ _ h=>h))).mono ?_;rintro _ w1 ⟨rfl,aj⟩;have au:=aj.at jA _root_.id;have aM:=aj.at ey _root_.id;have hm:=jq.trans aj;have p4:=iN (off:=4) (n:=4) au (by simp [Value.cells]);have p5:=iN (off:=4) (n:=4) aM (by simp [Value.cells]);have z0:((0:Int) == 0)=true:=rfl;have zs:(bI.toList == bI.toList)=true:=by simp
 (try simp only [go_sem,simprocAttr,cell_of au,cell_of aM,Value.cells]);cases q1:k1 == k2 with
 | false=>(try simp only [go_sem,simprocAttr,aE,RV.ev,aF]);exact ⟨rfl,hm⟩
 | true=>
  (try simp only [go_sem,simprocAttr,cell_of au,cell_of aM,Value.cells]);cases q2:s1 == s2 with
  | false=>(try simp only [go_sem,simprocAttr,aE,RV.ev,aF]);exact ⟨rfl,hm⟩
  | true=>
   (try simp only [go_sem,simprocAttr,cell_of au,cell_of aM,Value.cells]);cases q3:n1 == n2 with
   | false=>(try simp only [go_sem,simprocAttr,aE,RV.ev,aF]);exact ⟨rfl,hm⟩
   | true=>
    (try simp only [go_sem,simprocAttr,p4,p5,z0,zs,aE,RV.ev,aF]);exact hm
end
section
open Go Go.W
theorem MK {w:World}:a8 Tryz.prog 13 [] w fun r w'=>r = .agg (fR 1 bI).toArray∧Mod (fun _=>False) w w':=by
 refine Yw.calls rfl ?_;unfold HK;(try simp only [go_sem,simprocAttr]);refine cM ?_;intro w1 ar aj bC;(try simp only [go_sem,simprocAttr]);refine bL (vs:=fR 1 bI) (cs:=cJ) rfl rfl ar rfl rfl (oG _ _) ?_;intro w2 au ai bK;(try simp only [go_sem,simprocAttr,aE,RV.ev,az (n:=3) (cs:=fR 1 bI) au rfl,aF]);exact aj.step ai (fun b hb hl=>by omega)
abbrev xd:List Value:=[I 0,.string bI,I 0,.slice none 0 0,.slice none 0 0,.slice none 0 0,.slice none 0 0]
abbrev mD (n:Int):List Value:=[I 2,.string bI,I n,.slice none 0 0,.slice none 0 0,.slice none 0 0,.slice none 0 0]
theorem agS (n:Int):∀ u∈mD n,u.oneCell'=true:=aS rfl (aS rfl (aS rfl (aS rfl (aS rfl (aS rfl (aS rfl dE))))))
theorem Gj (n:Int) {w:World}:a8 Tryz.prog 15 [I n] w fun r w'=>r = .agg (mD n).toArray∧Mod (fun _=>False) w w':=by
 refine Yy.calls rfl ?_;unfold HN;(try simp only [go_sem,simprocAttr]);refine cM ?_;intro w1 ar aj bC;(try simp only [go_sem,simprocAttr]);refine bL (vs:=mD n) (cs:=xd) rfl rfl ar rfl rfl (agS n) ?_;intro w2 au ai bK;(try simp only [go_sem,simprocAttr,aE,RV.ev,az (n:=7) (cs:=mD n) au rfl,aF]);exact aj.step ai (fun b hb hl=>by omega)
end
section
open Go Go.W
theorem yV {w:World} {B:Nat→Prop} {k m:Int} {n:ByteArray} {types:List Ty} {args:List Ex} {binds:List Bd} {alts:List Al} {vt va vb vl:Value} (ht:aT w vt 3 B (aW w B) types) (ha:aT w va 7 B (bE w B) args) (hb:aT w vb 11 B (ff w B) binds) (hl:aT w vl 11 B (iO w B) alts) (hc:xC vl) :
   bE w B [I k,.string n,I m,vt,va,vb,vl] (.mk k n m types args binds alts):=by
 obtain ⟨rt,og,Bs,Ak⟩:=ht;obtain ⟨ra,yD,ye,vQ⟩:=ha;obtain ⟨rb,ar,au,aM⟩:=hb;obtain ⟨rl,oB,fJ,bT⟩:=hl;refine .mk og Bs Ak yD ye vQ ar au (fun i r b h1 h2=>?_) (fun i r b h1 h2=>?_) oB fJ (fun i r a h1 h2=>?_) (fun i r a h1 h2=>?_) hc
 ·obtain ⟨tc,ec,rfl,h3,h4,h5⟩:=aM i r b h1 h2;have l3:=h3.len;have l7:=h4.len;refine ⟨⟨by simp [l3,l7],h5⟩,rfl,?_⟩;simp only [List.drop_succ_cons,List.drop_zero];rw [List.take_append_of_le_length (by omega),List.take_of_length_le (by omega)];exact h3
 ·obtain ⟨tc,ec,rfl,h3,h4,h5⟩:=aM i r b h1 h2;have l3:=h3.len;simp only [List.drop_succ_cons];rw [List.drop_append_of_le_length (by omega),List.drop_of_length_le (by omega),List.nil_append];exact h4
 ·obtain ⟨vv,ec,rfl,h3,h4⟩:=bT i r a h1 h2;exact ⟨vv,rfl,by simp [h4.len],h3⟩
 ·obtain ⟨vv,ec,rfl,h3,h4⟩:=bT i r a h1 h2;exact h4
def xe (w:World) (B:Nat→Prop) (oc:List Value):Option Rn→Prop
 | none=>oc=cY 0 0 0 (.slice none 0 0)
 | some m=>∃ v,oc=cY m.kind m.stuck m.steps v∧oW w B v m.told
theorem nV {k s n:Int} {v:Value} (h:v.oneCell'=true):∀ u∈cY k s n v,u.oneCell'=true:=aS rfl (aS h (aS rfl (aS rfl (aS rfl (aS rfl (aS rfl (aS rfl dE)))))))
theorem Gk (p:Pg) {N:Nat} {name:ByteArray} {input:List Int} {fuel:Int} {v:Value} {w:World} {cs:List Value} {bZ:Int×Option Rn} (h:jR w (Out (fun _=>False) w) cs p) (hi:o7 w v input) (aR:lI p N name input fuel=some bZ) :
   a8 Tryz.prog 9 [.agg cs.toArray,.string name,v,I fuel] w fun r w'=>(∃ oc,r = .tuple #[.agg oc.toArray,I bZ.1]∧xe w' (fun b=>w.heap.size≤b∧b < w'.heap.size) oc bZ.2)∧Mod (fun _=>False) w w':=by
 have h0:=h;have Dr:=hi;obtain ⟨vd,vf,rfl,hd,hf⟩:=h;obtain ⟨av,cv,rfl,hle,wQ⟩:=hi;have hX:lI p N name input fuel=if 10000 < input.length then some (2,none)
  else if tB input=true then some (1,none)
  else if fuel < 0∨fuel > 1048576 then some (1,none)
  else if im p≠0 then some (im p,none)
  else match rU p N name with
  | none=>none
  | some (_,false)=>some (100,none)
  | some (fX,true)=>(runM p fuel name fX input).map (fun m=>(0,some m)):=rfl
 rw [hX] at aR;refine Yt.calls rfl ?_;unfold HH;refine dU (fun ρ w2=>∃ b4 b8,w.heap.size≤b4∧b4 < b8∧w2.heap[b4]? = some (.cells [vd,vf].toArray 25 (0,0))∧w2.heap[b8]? = some (.cells (cY 0 0 0 (.slice none 0 0)).toArray 34 (0,0))∧Mod (fun _=>False) w w2∧ρ=[(1,.string name),(2,.slice av input.length cv),(3,I fuel),(4,ptr b4),(8,ptr b8)]) ?_ ?_
 ·(try simp only [go_sem,simprocAttr]);refine bD rfl ?_;intro w1 ar aj bC;(try simp only [go_sem,simprocAttr]);refine cM ?_;intro w2 au ai bK;have z1:w1.heap.size=w.heap.size+1:=bC;(try simp only [go_sem,simprocAttr]);exact ⟨w.heap.size,w1.heap.size,Nat.le_refl _,by omega,ai.at ar _root_.id,au,aj.trans ai,rfl⟩
 rintro _ w2 ⟨b4,b8,l4,l8,ba,dW,iz,rfl⟩;by_cases c1:10000 < input.length
 ·rw [if_pos c1] at aR;cases aR;have b1:decide ((input.length:Int) > 10000)=true:=decide_eq_true (by omega);(try simp only [go_sem,simprocAttr,b1]);refine bL (vs:=cY 0 0 0 (.slice none 0 0)) (cs:=cY 0 0 0 (.slice none 0 0)) rfl rfl dW rfl rfl (nV rfl) ?_;intro w9 dL aV gA;(try simp only [go_sem,simprocAttr,aE,RV.ev,az (n:=8) (cs:=cY 0 0 0 (.slice none 0 0)) dL rfl,aF]);exact ⟨⟨_,rfl,rfl⟩,(iz).step aV (fun b hb hl=>by have e:b=b8:=hb;omega)⟩
 rw [if_neg c1] at aR;have b1:decide ((input.length:Int) > 10000)=false:=decide_eq_false (by omega);refine dU (fun ρ w'=>w2=w'∧ρ.get 1=some (.string name)∧ρ.get 2=some (.slice av input.length cv)∧ρ.get 3=some (I fuel)∧ρ.get 4=some (ptr b4)∧ρ.get 8=some (ptr b8)) ?_ ?_
 ·(try simp only [go_sem,simprocAttr,b1])
 rintro ρ _ ⟨rfl,g1,g2,g3,g4,g8⟩;refine dU (fun ρ w'=>tB input=false∧w2=w'∧ρ.get 1=some (.string name)∧ρ.get 2=some (.slice av input.length cv)∧ρ.get 3=some (I fuel)∧ρ.get 4=some (ptr b4)∧ρ.get 8=some (ptr b8)) ?_ ?_
 ·(try simp only [go_sem,simprocAttr,g1,g2,g3,g4,g8]);refine fL (fun z ρ w'=>∃ i:Nat,z=input.length - i∧i≤input.length∧tB input=tB (input.drop i)∧w2=w'∧ρ.get 1=some (.string name)∧ρ.get 2=some (.slice av input.length cv)∧ρ.get 3=some (I fuel)∧ρ.get 4=some (ptr b4)∧ρ.get 8=some (ptr b8)∧ρ.get 21=some (.slice av input.length cv)∧ρ.get 22=some (I input.length)∧ρ.get 23=some (I i)) input.length ⟨0,by omega,by omega,rfl,rfl,rfl,rfl,rfl,rfl,rfl,rfl,rfl,rfl⟩ ?_;rintro z ρ _ ⟨i,rfl,zA,kE,rfl,g1,g2,g3,g4,g8,g21,g22,g23⟩;unfold OQ;by_cases q:i < input.length
  ·have b2:decide ((i:Int) < input.length)=true:=by simpa using q
   have p1:(0:Int)≤i∧(i:Int) < input.length:=by omega
   have e3:IntKind.i64.wrap ((i:Int)+1)=((i+1:Nat):Int):=by rw [dv (by omega) (by omega)];omega
   obtain ⟨ad,rfl,hc⟩:=wQ i q;have ju:=iz.cell hc _root_.id;have vS:tB (input.drop i)=((decide (input[i] < -4611686018427387904)||decide (input[i] > 4611686018427387903))||tB (input.drop (i+1))):=R7 q;rw [vS] at kE;cases q1:decide (input[i] < -4611686018427387904) with
   | true=>
    rw [q1,Bool.true_or,Bool.true_or] at kE;rw [if_pos kE] at aR;cases aR;(try simp only [go_sem,simprocAttr,g1,g2,g3,g4,g8,g21,g22,g23,b2]);(try simp only [go_sem,simprocAttr,bq,br,p1,ju,q1]);refine bL (vs:=cY 0 0 0 (.slice none 0 0)) (cs:=cY 0 0 0 (.slice none 0 0)) rfl rfl dW rfl rfl (nV rfl) ?_;intro w9 dL aV gA;(try simp only [go_sem,simprocAttr,aE,RV.ev,az (n:=8) (cs:=cY 0 0 0 (.slice none 0 0)) dL rfl,aF]);exact ⟨⟨_,rfl,rfl⟩,(iz).step aV (fun b hb hl=>by have e:b=b8:=hb;omega)⟩
   | false=>
    rw [q1,Bool.false_or] at kE;cases q2:decide (input[i] > 4611686018427387903) with
    | true=>
     rw [q2,Bool.true_or] at kE;rw [if_pos kE] at aR;cases aR;(try simp only [go_sem,simprocAttr,g1,g2,g3,g4,g8,g21,g22,g23,b2]);(try simp only [go_sem,simprocAttr,bq,br,p1,ju,q1,q2]);refine bL (vs:=cY 0 0 0 (.slice none 0 0)) (cs:=cY 0 0 0 (.slice none 0 0)) rfl rfl dW rfl rfl (nV rfl) ?_;intro w9 dL aV gA;(try simp only [go_sem,simprocAttr,aE,RV.ev,az (n:=8) (cs:=cY 0 0 0 (.slice none 0 0)) dL rfl,aF]);exact ⟨⟨_,rfl,rfl⟩,(iz).step aV (fun b hb hl=>by have e:b=b8:=hb;omega)⟩
    | false=>
     rw [q2,Bool.false_or] at kE;(try simp only [go_sem,simprocAttr,g1,g2,g3,g4,g8,g21,g22,g23,b2]);(try simp only [go_sem,simprocAttr,bq,br,p1,ju,q1,q2,e3]);exact ⟨_,by omega,i+1,rfl,q,kE,rfl⟩
  ·have b2:decide ((i:Int) < input.length)=false:=by simpa using q
   rw [List.drop_eq_nil_of_le (by omega)] at kE;(try simp only [go_sem,simprocAttr,g1,g2,g3,g4,g8,g21,g22,g23,b2]);exact kE
 rintro ρ _ ⟨kE,rfl,g1,g2,g3,g4,g8⟩;rw [if_neg (by rw [kE];simp)] at aR;refine dU (fun ρ w'=>(0≤fuel∧fuel≤1048576)∧w2=w'∧ρ.get 1=some (.string name)∧ρ.get 2=some (.slice av input.length cv)∧ρ.get 3=some (I fuel)∧ρ.get 4=some (ptr b4)∧ρ.get 8=some (ptr b8)) ?_ ?_
 ·cases q1:decide (fuel < 0) with
  | true=>
   have Cr:fuel < 0:=by simpa using q1
   rw [if_pos (.inl Cr)] at aR;cases aR;(try simp only [go_sem,simprocAttr,g1,g2,g3,g4,g8,q1]);refine bL (vs:=cY 0 0 0 (.slice none 0 0)) (cs:=cY 0 0 0 (.slice none 0 0)) rfl rfl dW rfl rfl (nV rfl) ?_;intro w9 dL aV gA;(try simp only [go_sem,simprocAttr,aE,RV.ev,az (n:=8) (cs:=cY 0 0 0 (.slice none 0 0)) dL rfl,aF]);exact ⟨⟨_,rfl,rfl⟩,(iz).step aV (fun b hb hl=>by have e:b=b8:=hb;omega)⟩
  | false=>
   have Cr:¬ fuel < 0:=by simpa using q1
   cases q2:decide (fuel > 1048576) with
   | true=>
    have Ku:fuel > 1048576:=by simpa using q2
    rw [if_pos (.inr Ku)] at aR;cases aR;(try simp only [go_sem,simprocAttr,g1,g2,g3,g4,g8,q1,q2]);refine bL (vs:=cY 0 0 0 (.slice none 0 0)) (cs:=cY 0 0 0 (.slice none 0 0)) rfl rfl dW rfl rfl (nV rfl) ?_;intro w9 dL aV gA;(try simp only [go_sem,simprocAttr,aE,RV.ev,az (n:=8) (cs:=cY 0 0 0 (.slice none 0 0)) dL rfl,aF]);exact ⟨⟨_,rfl,rfl⟩,(iz).step aV (fun b hb hl=>by have e:b=b8:=hb;omega)⟩
   | false=>
    have Ku:¬ fuel > 1048576:=by simpa using q2
    (try simp only [go_sem,simprocAttr,g1,g2,g3,g4,g8,q1,q2]);exact ⟨by omega,by omega⟩
 rintro ρ _ ⟨Vm,rfl,g1,g2,g3,g4,g8⟩;rw [if_neg (by omega)] at aR;have eJ:∀ {w':World},Mod (fun _=>False) w w'→∀ b,Out (fun _=>False) w b→Out (fun _=>False) w' b:=fun hm b hb=>⟨Nat.lt_of_lt_of_le hb.1 hm.size,hb.2⟩
 refine dU (fun ρ w'=>im p=0∧Mod (fun _=>False) w2 w'∧ρ=[(1,.string name),(2,.slice av input.length cv),(3,I fuel),(4,ptr b4),(8,ptr b8),(12,I 0),(45,.bool false)]) ?_ ?_
 ·(try simp only [go_sem,simprocAttr,g1,g2,g3,g4,g8,az (n:=2) (cs:=[vd,vf]) ba rfl]);refine aI (by rfl) ?_;refine (So p (h0.up iz aC (eJ iz))).mono ?_;rintro _ w3 ⟨rfl,aq⟩;have qF:=iz.trans aq;by_cases hc:im p=0
  ·(try simp only [go_sem,simprocAttr,hc,Int.reduceBNe]);exact aq
  ·have b2:(im p != 0)=true:=by simpa using hc
   rw [if_pos hc] at aR;cases aR;(try simp only [go_sem,simprocAttr,b2]);refine bL (vs:=cY 0 0 0 (.slice none 0 0)) (cs:=cY 0 0 0 (.slice none 0 0)) rfl rfl (aq.at dW _root_.id) rfl rfl (nV rfl) ?_;intro w9 dL aV gA;(try simp only [go_sem,simprocAttr,aE,RV.ev,az (n:=8) (cs:=cY 0 0 0 (.slice none 0 0)) dL rfl,aF]);exact ⟨⟨_,rfl,rfl⟩,(qF).step aV (fun b hb hl=>by have e:b=b8:=hb;omega)⟩
 rintro _ w3 ⟨bh,aq,rfl⟩;rw [if_neg (by simpa using bh)] at aR;have qF:=iz.trans aq;have yR:=aq.at ba _root_.id;have agT:=aq.at dW _root_.id;cases xc:rU p N name with
 | none=>rw [xc] at aR;cases aR
 | some ee=>
 rw [xc] at aR;(try simp only [go_sem,simprocAttr,az (n:=2) (cs:=[vd,vf]) yR rfl]);refine aI (by rfl) ?_;refine (agh p (h0.up qF aC (eJ qF)) (Gc bh) xc).mono ?_;rintro _ w4 ⟨rfl,aA⟩;have uQ:=qF.trans aA;have Ur:=aA.at yR _root_.id;have ML:=aA.at agT _root_.id;obtain ⟨fX,ok⟩:=ee;cases ok with
 | false=>
  cases aR;(try simp only [go_sem,simprocAttr]);refine bL (vs:=cY 0 0 0 (.slice none 0 0)) (cs:=cY 0 0 0 (.slice none 0 0)) rfl rfl ML rfl rfl (nV rfl) ?_;intro w9 dL aV gA;(try simp only [go_sem,simprocAttr,aE,RV.ev,az (n:=8) (cs:=cY 0 0 0 (.slice none 0 0)) dL rfl,aF]);exact ⟨⟨_,rfl,rfl⟩,(uQ).step aV (fun b hb hl=>by have e:b=b8:=hb;omega)⟩
 | true=>
 have aR:(runM p fuel name fX input).map (fun m=>(0,some m))=some bZ:=aR;obtain ⟨mF,oN,rfl⟩:=Option.map_eq_some_iff.1 aR;(try simp only [go_sem,simprocAttr,az (n:=2) (cs:=[vd,vf]) Ur rfl]);refine aI (by rfl) ?_;refine (afU p (h0.up uQ aC (eJ uQ)) Vm).mono ?_;rintro _ w5 ⟨⟨r,md,mf,S5,bs5,rfl,wO,Vn⟩,aD⟩;have Gl:=uQ.trans aD;(try simp only [go_sem,simprocAttr]);refine bD rfl ?_;intro w6 ci aJ gN;have z5:=aD.size;have uR:=Gl.trans aJ;have F2:=wO.aB aJ;have Af:∀ b,S5 b→b < w5.heap.size:=by obtain ⟨_,_,_,_,_,_,hx⟩:=wO;exact hx.lt
 have he6:nh w6 (Out S5 w6) (.pointer (some ⟨w5.heap.size,0,none⟩)) (lH name):=⟨_,[I 3,.string name,I 0,.slice none 0 0,.slice none 0 0,.slice none 0 0,.slice none 0 0],rfl,rL ci (fun hx=>by have:=Af _ hx;omega),yV (ej _ _ _ _) (ej _ _ _ _) (ej _ _ _ _) (ej _ _ _ _) (Nat.le_refl 0)⟩;have cQ:=agq oN;have akg:mF.told.length≤1048576:=by
  obtain ⟨l,e1,e2⟩:=cQ.told;have e1:mF.told=[]++l:=e1;have e3:mF.steps≤fuel:=cQ.fuel (show (0:Int)≤fuel from Vm.1);have e4:(l.length:Int)≤mF.steps - 0:=e2;rw [e1,List.nil_append];omega
 have KB:w6.heap[b8]? = some (.cells (cY 0 0 0 (.slice none 0 0)).toArray 34 (0,0)):=(aD.trans aJ).at ML _root_.id;have MM:∀ b,S5 b→w.heap.size≤b:=fun b hb=>by have:=Vn b hb;have:=uQ.size;omega
 have n8:∀ {w7:World} {S7:Nat→Prop},dR S5 S7 w6→¬ S7 b8:=fun hg hh=>by
  have l84:=cO ML;have:=uQ.size;rcases hg.2 _ hh with h1 | h1
  ·have:=Vn _ h1;omega
  ·have:=aJ.size;omega
 have fin:∀ {w7:World} {S7:Nat→Prop} {MN:List Nat},cK w7 S7 r md mf MN (cw p fuel) mF→dR S5 S7 w6→Mod S5 w6 w7→∃ vt,gp w7 8 (.pointer (some ⟨r,0,none⟩))=some (.agg (cY mF.kind mF.stuck mF.steps vt).toArray)∧vt.oneCell'=true∧w7.heap[b8]? = some (.cells (cY 0 0 0 (.slice none 0 0)).toArray 34 (0,0))∧Mod (fun _=>False) w w7 ∧
     ∀ {w9:World},Mod (· = b8) w7 w9→xe w9 (fun b=>w.heap.size≤b∧b < w9.heap.size) (cY mF.kind mF.stuck mF.steps vt) (some mF):=fun {w7 S7 MN} hR hg hm=>by
  obtain ⟨vt,vf',dh,bR,cB,cD,hh⟩:=hR;have bU:=iN (off:=0) (n:=8) hh.box (by simp);obtain ⟨avt,cvt,rfl,_,_⟩:=hh.told.val;refine ⟨_,bU,rfl,hm.at KB (fun hx=>n8 (w7:=w7) nr hx),uR.step hm (fun b hb hl=>by have:=MM b hb;omega),fun {w9} aV=>⟨_,rfl,dh,⟨?_,?_⟩,hh.items.at.1,hh.items.at.2⟩⟩
  ·have ho:=hh.told.mod aV (fun b hb e=>by
    have e':b=b8:=e;subst e'
    exact n8 (w7:=w7) hg (hh.bt _ (by simp [hb])))
   refine (BI ho (fun x hx=>?_)).mod (.refl (fun _=>False) w9) aC (fun y hy=>?_)
   ·obtain ⟨i,hi,rfl⟩:=List.getElem_of_mem hx;have:=hh.items.at.2 i _ _ (List.getElem?_eq_getElem hi) (List.getElem?_eq_getElem (by have:=hh.items.at.1;omega));rw [this];try rfl
   ·have hs:S7 y:=hh.bt _ (by simp [hy]);refine ⟨?_,ho.lt hy⟩;rcases hg.2 _ hs with h1 | h1
    ·exact MM _ h1
    ·have:=uR.size;omega
  ·have:=hh.items.at.1;omega
 have gT:(match cF (cw p fuel) iA (.go (lH name) []) (dI p) with
  | none=>none
  | some (none,m)=>some m
  | some (some x,m)=>
   if fX=true then
    match qn (cw p fuel) iA x (m.ls input).cells.length ((m.ls input).new (cR input m.cells).1) with
    | none=>none
    | some (none,m)=>some m
    | some (some y,m)=>eC (cw p fuel) iA y [] m
   else eC (cw p fuel) iA x [] m)=some mF:=oN
 cases db:cF (cw p fuel) iA (.go (lH name) []) (dI p) with
 | none=>rw [db] at gT;cases gT
 | some rr=>
 rw [db] at gT;have AW:=tq _ db;refine aI (by rfl) ?_;refine (afA F2 he6 (show gH w6 (Out S5 w6) bs5 [] (.pointer none) from rfl) (show ((0:Nat):Int)≤0+1 by omega) db).mono ?_;rintro v7 w7 ⟨⟨S7,MN,AX,vY,akh,gW⟩,aN⟩
 match rr,gT,AW,AX,gW with
 | (none,m1),gT,AW,AX,gW=>
  have gW:v7=_:=gW;subst gW;cases gT;obtain ⟨vt,bU,h1,yW,yO,kF⟩:=fin AX vY aN;(try simp only [go_sem,simprocAttr,bU]);refine bL (vs:=cY mF.kind mF.stuck mF.steps vt) (cs:=cY 0 0 0 (.slice none 0 0)) rfl rfl yW rfl rfl (nV h1) ?_;intro w9 dL aV gA;(try simp only [go_sem,simprocAttr,aE,RV.ev,az (n:=8) (cs:=cY mF.kind mF.stuck mF.steps vt) dL rfl,aF]);exact ⟨⟨_,rfl,kF aV⟩,yO.step aV (fun b hb hl=>by have e:b=b8:=hb;omega)⟩
 | (some x,m1),gT,AW,AX,⟨u,e1,hu,hv⟩=>
  subst e1;obtain ⟨_,_,C6⟩:=AW.val x rfl;have og:m1.told=[]:=AW.told;have bC:(0:Int)≤m1.steps:=AW.steps;cases fX with
  | false=>
   have gT:eC (cw p fuel) iA x [] m1=some mF:=gT;(try simp only [go_sem,simprocAttr]);refine aI (by rfl) ?_;refine (T2 (X:=cw p fuel) AX hu hv C6 (by rw [og];simpa using bC) gT).mono ?_;rintro _ w8 ⟨⟨S8,uP,tv,yr⟩,bg⟩;obtain ⟨vt,bU,h1,yW,yO,kF⟩:=fin tv (mz vY yr aN.size) (lG aN vY bg);(try simp only [go_sem,simprocAttr,bU]);refine bL (vs:=cY mF.kind mF.stuck mF.steps vt) (cs:=cY 0 0 0 (.slice none 0 0)) rfl rfl yW rfl rfl (nV h1) ?_;intro w9 dL aV gA;(try simp only [go_sem,simprocAttr,aE,RV.ev,az (n:=8) (cs:=cY mF.kind mF.stuck mF.steps vt) dL rfl,aF]);exact ⟨⟨_,rfl,kF aV⟩,yO.step aV (fun b hb hl=>by have e:b=b8:=hb;omega)⟩
  | true=>
   have gT:(match qn (cw p fuel) iA x (m1.ls input).cells.length ((m1.ls input).new (cR input m1.cells).1) with
    | none=>none
    | some (none,m)=>some m
    | some (some y,m)=>eC (cw p fuel) iA y [] m)=some mF:=gT
   have yO:Mod (fun _=>False) w w7:=uR.step aN (fun b hb hl=>by have:=MM b hb;omega);(try simp only [go_sem,simprocAttr]);refine aI (by rfl) ?_;refine (af6 AX (Dr.mod yO (fun _ _ h=>h))).mono ?_;rintro u2 w8 ⟨⟨S8,uP,tv,yr,agU,Vo⟩,bg⟩;obtain ⟨kn,kf,gP⟩:=AP input m1.cells;obtain ⟨T,z,CO,_⟩:=Az Vo (by rw [gP];try rfl);subst CO;(try simp only [go_sem,simprocAttr]);refine bD rfl ?_;intro w9 dL aV gA;have F7:=tv.new (x:=(cR input m1.cells).1) (v:=.iface T z) aV dL (Nat.le_refl _) (Vo.up (an aV (S:=S8)) aK (eH (an aV) (eI (Nat.le_refl _))) mw)
   have hg9:dR S8 (aL S8 w8.heap.size) w8:=⟨fun b hb=>.inl hb,fun b hb=>by
    rcases hb with h | h
    ·exact .inl h
    ·exact .inr (by omega)⟩
   have Vp:dR S7 (aL S8 w8.heap.size) w7:=mz yr hg9 bg.size;have nP:Mod S7 w7 w9:=an (bg.trans aV);have hu9:=hu.up nP aK (rK Vp nP.size) (fun c b h=>mw (b:=w8.heap.size) _ _ (agU c b h));have agV:uP.length=(m1.ls input).cells.length:=by obtain ⟨_,_,_,_,_,_,hx⟩:=tv;exact hx.len
   have ie:(uP++[w8.heap.size])[(m1.ls input).cells.length]? = some w8.heap.size:=by rw [← agV,List.getElem?_append_right (Nat.le_refl _)];simp
   have Vq:=mz vY Vp aN.size;have uS:=lG aN vY nP;cases zl:qn (cw p fuel) iA x (m1.ls input).cells.length ((m1.ls input).new (cR input m1.cells).1) with
   | none=>rw [zl] at gT;cases gT
   | some rr2=>
   rw [zl] at gT;have agW:((m1.ls input).new (cR input m1.cells).1).aO=[]:=C6;have AY:=Ge zl agW;(try simp only [go_sem,simprocAttr]);refine aI (by rfl) ?_;refine (afC F7 ie hu9 hv (show (((m1.aO).length:Nat):Int)≤m1.steps by rw [C6];simpa using bC) zl).mono ?_;rintro v10 cT ⟨⟨S10,aki,yP,agX,akj,Du⟩,bJ⟩;have MO:=mz Vq agX uS.size;have MP:=lG uS Vq bJ
   match rr2,gT,AY,yP,Du with
   | (none,m2),gT,AY,yP,Du=>
    have Du:v10=_:=Du;subst Du;cases gT;obtain ⟨vt,bU,h1,yW,MQ,kF⟩:=fin yP MO MP;(try simp only [go_sem,simprocAttr,bU]);refine bL (vs:=cY mF.kind mF.stuck mF.steps vt) (cs:=cY 0 0 0 (.slice none 0 0)) rfl rfl yW rfl rfl (nV h1) ?_;intro w19 MR yx agY;(try simp only [go_sem,simprocAttr,aE,RV.ev,az (n:=8) (cs:=cY mF.kind mF.stuck mF.steps vt) MR rfl,aF]);exact ⟨⟨_,rfl,kF yx⟩,MQ.step yx (fun b hb hl=>by have e:b=b8:=hb;omega)⟩
   | (some y,m2),gT,AY,yP,⟨u3,e3,CP,CM⟩=>
    subst e3;obtain ⟨_,_,F4⟩:=AY.val y rfl;have Bs:m2.told=m1.told:=AY.told;have bK:m1.steps≤m2.steps:=AY.steps;have gT:eC (cw p fuel) iA y [] m2=some mF:=gT;(try simp only [go_sem,simprocAttr]);refine aI (by rfl) ?_;refine (T2 (X:=cw p fuel) yP CP CM F4 (by rw [Bs,og];simp;omega) gT).mono ?_;rintro _ fD ⟨⟨S11,akk,agZ,ag0⟩,dO⟩;obtain ⟨vt,bU,h1,yW,MQ,kF⟩:=fin agZ (mz MO ag0 MP.size) (lG MP MO dO);(try simp only [go_sem,simprocAttr,bU]);refine bL (vs:=cY mF.kind mF.stuck mF.steps vt) (cs:=cY 0 0 0 (.slice none 0 0)) rfl rfl yW rfl rfl (nV h1) ?_;intro w19 MR yx agY;(try simp only [go_sem,simprocAttr,aE,RV.ev,az (n:=8) (cs:=cY mF.kind mF.stuck mF.steps vt) MR rfl,aF]);exact ⟨⟨_,rfl,kF yx⟩,MQ.step yx (fun b hb hl=>by have e:b=b8:=hb;omega)⟩
end
section
open Go Go.W
def rW (s:ByteArray) (x y:Ex):Ex:=.mk 9 s 0 [] [x,y] [] []
theorem ag1 {s:ByteArray} {x y:Ex} {ca cb:List Value} {S:Nat→Prop} {w:World} (hS:∀ b,S b→b < w.heap.size) (ha:bE w (Out S w) ca x) (hb:bE w (Out S w) cb y) :
   a8 Tryz.prog 14 [.string s,.agg ca.toArray,.agg cb.toArray] w fun r w'=>(∃ cs,r = .agg (cs:List Value).toArray∧bE w' (Out S w') cs (rW s x y))∧Mod (fun _=>False) w w':=by
 refine Yx.calls rfl ?_;unfold HM;have la:=ha.len;have lb:=hb.len;(try simp only [go_sem,simprocAttr]);refine bD rfl ?_;intro w1 ar aj bC;(try simp only [go_sem,simprocAttr]);refine bD rfl ?_;intro w2 au ai bK;(try simp only [go_sem,simprocAttr]);refine cM ?_;intro w3 aM aq eV;have ar:=(ai.trans aq).at ar _root_.id;have au:=aq.at au _root_.id;(try simp only [go_sem,simprocAttr,az (n:=7) (cs:=ca) ar la,az (n:=7) (cs:=cb) au lb]);refine fA (cs:=([ca,cb]:List (List Value)).flatten.toArray) (ps:=partsOf 7 0 [ca,cb]) (by (try simp only [go_sem,simprocAttr]);rfl) (jC (sz:=7) [ca,cb] [] _ ⟨la,lb,trivial⟩ rfl) ?_;intro w4 ba aA eG;have aM:=aA.at aM _root_.id;(try simp only [go_sem,simprocAttr]);refine bL (vs:=[I 9,.string s,I 0,.slice none 0 0,.slice (some ⟨w3.heap.size,0,none⟩) 2 2,.slice none 0 0,.slice none 0 0]) (cs:=xd) rfl rfl aM rfl rfl (aS rfl (aS rfl (aS rfl (aS rfl (aS rfl (aS rfl (aS rfl dE))))))) ?_;intro w5 bG aD eN;(try simp only [go_sem,simprocAttr,aE,RV.ev,az (n:=7) bG rfl,aF]);have fg:Mod (fun _=>False) w w5:=(aj.trans (ai.trans (aq.trans aA))).step aD (fun x hx hl=>by omega);refine ⟨⟨_,rfl,yV (ej _ _ _ _) ?_ (ej _ _ _ _) (ej _ _ _ _) (Nat.le_refl _)⟩,fg⟩;refine mo (rows:=[ca,cb]) (aD.at ba (by omega)) ⟨by have:=aD.size;have:=cO (aD.at ba (by omega));omega,fun h=>by have:=hS _ h;omega⟩ ⟨la,lb,trivial⟩ (by simp) ⟨ha.aB (an fg),hb.aB (an fg),trivial⟩
abbrev nW:ByteArray:=⟨#[109]⟩
def Vr (t:Ty) (e:Ex):Pg:=⟨[],[⟨nW,[],t,e⟩]⟩
theorem ag2 {t:Ty} {e:Ex} {ct ce:List Value} {S:Nat→Prop} {w:World} (hS:∀ b,S b→b < w.heap.size) (ht:aW w (Out S w) ct t) (he:bE w (Out S w) ce e) :
   a8 Tryz.prog 23 [.agg ct.toArray,.agg ce.toArray] w fun r w'=>(∃ cs,r = .agg (cs:List Value).toArray∧jR w' (Out S w') cs (Vr t e))∧Mod (fun _=>False) w w':=by
 refine YE.calls rfl ?_;unfold HT;have la:=ht.len;have lb:=he.len;obtain ⟨x1,ect,-⟩:=ht.cells;obtain ⟨x2,x3,x4,x5,ece,-⟩:=he.cells;subst ect ece;(try simp only [go_sem,simprocAttr]);refine bD rfl ?_;intro w1 ar aj bC;(try simp only [go_sem,simprocAttr]);refine bD rfl ?_;intro w2 au ai bK;(try simp only [go_sem,simprocAttr]);refine cM ?_;intro w3 aM aq eV;have ar:=(ai.trans aq).at ar _root_.id;have au:=aq.at au _root_.id;(try simp only [go_sem,simprocAttr,az (n:=3) ar la,az (n:=7) au lb]);refine fA (cs:=([[.string nW,.slice none 0 0,I t.kind,.string t.name,x1,I e.kind,.string e.name,I e.num,x2,x3,x4,x5]]:List (List Value)).flatten.toArray) (ps:=partsOf 12 0 [[.string nW,.slice none 0 0,I t.kind,.string t.name,x1,I e.kind,.string e.name,I e.num,x2,x3,x4,x5]]) (by (try simp only [go_sem,simprocAttr]);rfl) (jC (sz:=12) [[.string nW,.slice none 0 0,I t.kind,.string t.name,x1,I e.kind,.string e.name,I e.num,x2,x3,x4,x5]] [] _ ⟨rfl,trivial⟩ rfl) ?_;intro w4 ba aA eG;have aM:=aA.at aM _root_.id;(try simp only [go_sem,simprocAttr]);refine bL (vs:=[.slice none 0 0,.slice (some ⟨w3.heap.size,0,none⟩) 1 1]) (cs:=[.slice none 0 0,.slice none 0 0]) rfl rfl aM rfl rfl (aS rfl (aS rfl dE)) ?_;intro w5 bG aD eN;(try simp only [go_sem,simprocAttr,aE,RV.ev,az (n:=2) bG rfl,aF]);have fg:Mod (fun _=>False) w w5:=(aj.trans (ai.trans (aq.trans aA))).step aD (fun x hx hl=>by omega);refine ⟨⟨_,rfl,_,_,rfl,ej _ _ _ _,?_⟩,fg⟩;refine mo (rows:=[[.string nW,.slice none 0 0,I t.kind,.string t.name,x1,I e.kind,.string e.name,I e.num,x2,x3,x4,x5]]) (aD.at ba (by omega)) ⟨by have:=aD.size;have:=cO (aD.at ba (by omega));omega,fun h=>by have:=hS _ h;omega⟩ ⟨rfl,trivial⟩ (by simp) ⟨⟨_,[I t.kind,.string t.name,x1],_,rfl,la,lb,ej _ _ _ _,ht.aB (an fg),he.aB (an fg),(show Nm nW by decide)⟩,trivial⟩
end
section
open Go Go.W
def cV (n:Int):Ex:=.mk 2 bI n [] [] [] []
def yX:Ty:=.mk 1 bI []
def Vs:Ty:=.mk 4 iR []
def AZ (t:Ty) (s:ByteArray) (a b:Int):Pg:=Vr t (rW s (cV a) (cV b))
theorem ag3 (s:ByteArray) (a b:Int):(rW s (cV a) (cV b)).deep=2:=by rfl
theorem ag4 {t:Ty} (ht:t=yX∨t=Vs) (e:Ex):∃ E2,nO il ⟨nW,[],t,e⟩ = .ok E2:=by
 unfold nO;have h1:((aG il.ak nW).isSome || !jU nW)=false:=by decide +kernel
 have h2:fB { il with params:=kK [] []} t=true:=by
  rcases ht with rfl | rfl
  ·decide +kernel
  ·decide +kernel
 simp only [h1,Bool.false_eq_true,if_false,s9];simp only [h2,reduceCtorEq,Bool.true_eq_false,if_false];exact ⟨_,rfl⟩
theorem ag5 (E:Env) {t:Ty} {s:ByteArray} {a b:Int} (iV:fS s=some t) (ha : -4611686018427387904≤a∧a≤4611686018427387903) (hb : -4611686018427387904≤b∧b≤4611686018427387903):oR E ⟨nW,[],t,rW s (cV a) (cV b)⟩=0:=by
 have fa:j5 (cV a)=true:=by simp [j5,gi,cV,Ex.kind,Ex.num,Ex.name,eO,Ex.types,Ex.args,Ex.binds,Ex.alts,gx,gh,aQ,ha.1,ha.2]
 have fb:j5 (cV b)=true:=by simp [j5,gi,cV,Ex.kind,Ex.num,Ex.name,eO,Ex.types,Ex.args,Ex.binds,Ex.alts,gx,gh,aQ,hb.1,hb.2]
 have fo:j5 (rW s (cV a) (cV b))=true:=by simp [j5,gi,rW,Ex.kind,Ex.num,Ex.name,eO,Ex.types,Ex.args,Ex.binds,Ex.alts,gx,gh,aQ,iV]
 have ea:∀ st,cj (eA E []) (cV a) st = .ok (yX,st):=fun st=>by
  rw [show cV a = .mk 2 bI a [] [] [] [] from rfl,cj,if_neg (by rw [show Ex.mk 2 bI a [] [] [] []=cV a from rfl,fa];simp),if_neg (by decide),if_pos rfl];try rfl
 have eb:∀ st,cj (eA E []) (cV b) st = .ok (yX,st):=fun st=>by
  rw [show cV b = .mk 2 bI b [] [] [] [] from rfl,cj,if_neg (by rw [show Ex.mk 2 bI b [] [] [] []=cV b from rfl,fb];simp),if_neg (by decide),if_pos rfl];try rfl
 have eo:∀ st,cj (eA E []) (rW s (cV a) (cV b)) st = .ok (t,st):=fun st=>by
  rw [show rW s (cV a) (cV b) = .mk 9 s 0 [] [cV a,cV b] [] [] from rfl,cj,if_neg (by rw [show Ex.mk 9 s 0 [] [cV a,cV b] [] []=rW s (cV a) (cV b) from rfl,fo];simp),if_neg (by decide),if_neg (by decide),if_neg (by decide),if_neg (by decide),if_neg (by decide),if_neg (by decide),if_pos rfl];simp [cG,ea,eb,oJ,iV,yX,Ty.kind,Except.map]
 unfold oR;simp only;rw [eo];simp [gg]
theorem ag6 {t:Ty} {s:ByteArray} {a b:Int} (ht:t=yX∨t=Vs) (iV:fS s=some t) (ha : -4611686018427387904≤a∧a≤4611686018427387903) (hb : -4611686018427387904≤b∧b≤4611686018427387903):im (AZ t s a b)=0:=by
 have hd:(AZ t s a b).ak=[⟨nW,[],t,rW s (cV a) (cV b)⟩]:=rfl;have hh:∃ E2,fG (AZ t s a b).ak il = .ok E2:=by
  rw [hd];obtain ⟨E2,h⟩:=ag4 ht (rW s (cV a) (cV b));exact ⟨E2,by rw [fG,h];try rfl⟩
 obtain ⟨E2,hh⟩:=hh;have hz:(AZ t s a b).size=5:=by rcases ht with rfl | rfl<;>rfl
 unfold im kg;rw [hz,if_neg (by decide),hd];simp only [List.any_cons,List.any_nil,ag3];rw [if_neg (by decide),show lB il (AZ t s a b).aH = .ok il from rfl];simp only;rw [← hd,hh];simp only;rw [hd];simp only [ke,ag5 E2 iV ha hb];simp
end
section
open Go Go.W
abbrev Dv:Pg:=AZ yX ⟨#[43]⟩ 1 2
theorem ag7:rU Dv 100 nW=some (false,true):=by decide +kernel
theorem ag8:(runM Dv 20 nW false []).map (fun m=>(m.kind,m.stuck,m.steps,m.told))=some (2,0,5,[(bI,3)]):=by decide +kernel
theorem ag9:∃ m,lI Dv 100 nW [] 20=some (0,some m)∧m.kind=2∧m.stuck=0∧m.steps=5∧m.told=[(bI,3)]:=by
 have h:=ag8
 match e:runM Dv 20 nW false [],h with
 | some m,h=>
  simp only [Option.map_some,Option.some.injEq,Prod.mk.injEq] at h;refine ⟨m,?_,h⟩;unfold lI;rw [if_neg (by decide),if_neg (by decide),if_neg (by decide),if_neg (by rw [ag6 (.inl rfl) (by rw [fS,if_pos (by decide +kernel)];try rfl) (by decide) (by decide)];simp),ag7];simp only;rw [e];rfl
end
section
open Go Go.W
theorem Dw {w:World} {B:Nat→Prop} (n:Int):bE w B (mD n) (cV n):=yV (ej _ _ _ _) (ej _ _ _ _) (ej _ _ _ _) (ej _ _ _ _) (Nat.le_refl _)
theorem MS (w:World):o7 w (.slice none 0 0) []:=⟨none,0,rfl,by simp,fun i h=>absurd h (by simp)⟩
theorem ag' {w:World}:a8 Tryz.prog 8 [] w fun r w'=>r = .bool true∧Mod (fun _=>False) w w':=by
 have Vt:∀ {w:World} (b:Nat),(fun _=>False:Nat→Prop) b→b < w.heap.size:=fun b h=>h.elim
 refine Ys.calls rfl ?_;unfold HG;(try simp only [go_sem,Nat.reduceAdd,Nat.reduceEqDiff,Nat.reduceLT,Nat.reduceLeDiff,Nat.reduceMul,reduceCtorEq,↓reduceIte]);refine aI (by rfl) ?_;refine MK.mono ?_;rintro _ w1 ⟨rfl,aj⟩;(try simp only [go_sem,Nat.reduceAdd,Nat.reduceEqDiff,Nat.reduceLT,Nat.reduceLeDiff,Nat.reduceMul,reduceCtorEq,↓reduceIte]);refine aI (by rfl) ?_;refine (Gj 1).mono ?_;rintro _ w2 ⟨rfl,ai⟩;(try simp only [go_sem,Nat.reduceAdd,Nat.reduceEqDiff,Nat.reduceLT,Nat.reduceLeDiff,Nat.reduceMul,reduceCtorEq,↓reduceIte]);refine aI (by rfl) ?_;refine (Gj 2).mono ?_;rintro _ w3 ⟨rfl,aq⟩;(try simp only [go_sem,Nat.reduceAdd,Nat.reduceEqDiff,Nat.reduceLT,Nat.reduceLeDiff,Nat.reduceMul,reduceCtorEq,↓reduceIte]);refine aI (by rfl) ?_;refine (ag1 (S:=fun _=>False) Vt (Dw 1) (Dw 2)).mono ?_;rintro _ w4 ⟨⟨c4,rfl,h4⟩,aA⟩;(try simp only [go_sem,Nat.reduceAdd,Nat.reduceEqDiff,Nat.reduceLT,Nat.reduceLeDiff,Nat.reduceMul,reduceCtorEq,↓reduceIte]);refine aI (by rfl) ?_;refine (ag2 (S:=fun _=>False) Vt (oC _ _ 1 bI) h4).mono ?_;rintro _ w5 ⟨⟨c5,rfl,h5⟩,aD⟩;obtain ⟨m,hm,e1,e2,e3,e4⟩:=ag9;(try simp only [go_sem,Nat.reduceAdd,Nat.reduceEqDiff,Nat.reduceLT,Nat.reduceLeDiff,Nat.reduceMul,reduceCtorEq,↓reduceIte]);refine aI (by rfl) ?_;refine (Gk Dv h5 (MS _) hm).mono ?_;rintro _ w6 ⟨⟨oc,rfl,kF⟩,aJ⟩;obtain ⟨v,rfl,hv⟩:=kF;rw [e1,e2,e3];rw [e4] at hv;have lh:=aj.trans (ai.trans (aq.trans (aA.trans (aD.trans aJ))));(try simp only [go_sem,Nat.reduceAdd,Nat.reduceEqDiff,Nat.reduceLT,Nat.reduceLeDiff,Nat.reduceMul,reduceCtorEq,↓reduceIte]);refine cM ?_;intro w7 dq aN jX;(try simp only [go_sem,Nat.reduceAdd,Nat.reduceEqDiff,Nat.reduceLT,Nat.reduceLeDiff,Nat.reduceMul,reduceCtorEq,↓reduceIte]);have vK:=mL hv;refine bL (vs:=cY 2 0 5 v) (cs:=cY 0 0 0 (.slice none 0 0)) rfl rfl dq rfl rfl (nV vK) ?_;intro w8 dW bg mR;have na:Mod (fun _=>False) w6 w8:=aN.step bg (fun b hb hl=>by omega);obtain ⟨a,c,r,rfl,hr,mQ,bU,wQ⟩:=eh (hv.mod na aC (fun _ _ h=>h)) (i:=0) (by simp);have hr:r=[.string bI,I 3]:=hr;subst hr;have z0:((0:Int) == 0)=true:=rfl;have z2:((2:Int) == 2)=true:=rfl;have z1:(((1:Nat):Int) == 1)=true:=rfl;rw [Nat.zero_mul] at bU;have z3:((3:Int) == 3)=true:=rfl;have z5:((5:Int) == 5)=true:=rfl;have zs:(bI.toList == bI.toList)=true:=by simp
 have p1:(0:Int)≤0∧(0:Int) < ((1:Nat):Int):=by decide
 have bU:gp w8 2 (.pointer (some (a.add (Int.toNat 0*2))))=some (.agg #[.string bI,I 3]):=by rw [show Int.toNat 0*2=0 from rfl];exact bU
 (try simp only [go_sem,Nat.reduceAdd,Nat.reduceEqDiff,Nat.reduceLT,Nat.reduceLeDiff,Nat.reduceMul,reduceCtorEq,↓reduceIte,cell_of dW,Value.cells,z0,z2,z1,z3,z5,zs,p1,bU,aE,RV.ev,aF]);exact lh.trans na
end
section
open Go Go.W
section
variable {X X':Cx} (hd:X'.ak=X.ak) (hf:X'.fields=X.fields) (hu:X.fuel≤X'.fuel)
include hd hf hu
theorem Vu {n c:Nat} {m:Rn} {r:Option Cl×Rn} (hs:m.steps≤X.fuel) (h:fW X n c m=some r) (ga:¬ (r.1=none∧r.2.kind=4)):fW X' n c m=some r:=by
 unfold fW at h ⊢;have k:=yK m c
 match e:dC m c,h with
 | (none,m'),h=>exact h
 | (some (.val x),m'),h=>exact h
 | (some (.go e' v),m'),h=>
  rw [e] at k;have ks:m'.steps=m.steps:=k.steps;exact C2 hd hf hu n (by omega) h ga
abbrev Vv (a b:Rn):Prop:=(a.kind≠4→b=a)∧∃ l,b.told=a.told++l
theorem Vw:∀ (n:Nat) {x:Cl} {ws:List Nat} {m a b:Rn},m.aO=[]→m.steps≤X.fuel→eC X n x ws m=some a→eC X' n x ws m=some b→Vv a b
 | 0,x,ws,m,a,b,_,_,h,_=>by rw [eC] at h;cases h
 | n+1,x,ws,m,a,b,eD,hs,h,h'=>by
  rcases qz X m with ⟨h1,h2⟩ | ⟨h1,h2⟩
  ·obtain ⟨l,hl,-⟩:=(Dl _ h' eD).told;rw [eC,h2,if_pos rfl] at h;cases h;exact ⟨fun hn=>absurd rfl hn,l,hl⟩
  ·have h3:fi X' m=(true,{ m with steps:=m.steps+1}):=by unfold fi;rw [if_neg (by omega)]
   rw [eC,h2,if_neg (by simp)] at h;rw [eC,h3,if_neg (by simp)] at h';simp only at h h'
   split at h
   ·cases h
   ·rename_i hw;rw [if_neg hw] at h'
    split at h
    ·rename_i hl;rw [hl] at h';cases h;cases h';exact ⟨fun _=>rfl,[],by simp⟩
    ·rename_i c hl;rw [hl] at h';simp only at h'
     split at h
     ·cases h
     ·rename_i m3 jM;obtain rfl:m3=a:=Option.some.inj h;by_cases k4:m3.kind=4
      ·have g:=wL jM eD;have gt:m3.told=m.told++iK x:=g.told;refine ⟨fun hn=>absurd k4 hn,?_⟩
       split at h'
       ·cases h'
       ·rename_i m4 MT;obtain rfl:m4=b:=Option.some.inj h';have MU:m4.told=m.told++iK x:=(wL MT eD).told;exact ⟨[],by rw [gt,MU,List.append_nil]⟩
       ·rename_i y m4 MT;have g':=wL MT eD;obtain ⟨-,-,g3⟩:=g'.val y rfl;have MU:m4.told=m.told++iK x:=g'.told;obtain ⟨l,qL,-⟩:=(Dl _ h' g3).told;exact ⟨l,by rw [qL,MU,gt]⟩
      ·rw [Vu hd hf hu (by simp only;omega) jM (fun hh=>k4 hh.2)] at h';cases h';exact ⟨fun _=>rfl,[],by simp⟩
     ·rename_i y m3 jM;have g:=wL jM eD;obtain ⟨-,-,g3⟩:=g.val y rfl;have gf:m.steps+1≤X.fuel→m3.steps≤X.fuel:=g.fuel;rw [Vu hd hf hu (by simp only;omega) jM (fun hh=>by cases hh.1)] at h';exact Vw n g3 (gf (by omega)) h h'
end
end
section
open Go Go.W
theorem Vx (l m:List qE):oV l (l++m)=true:=by
 induction l with
 | nil=>rfl
 | cons a l ih=>simp [oV,yT,ih]
theorem Gn {p:Pg} {N:Nat} {name:ByteArray} {input:List Int} {fuel:Int} {r:Int×Option Rn} (h:lI p N name input fuel=some r) (h0:r.1=0):∃ fX a,r=(0,some a)∧rU p N name=some (fX,true)∧(0≤fuel∧fuel≤1048576)∧runM p fuel name fX input=some a:=by
 unfold lI at h
 split at h
 ·cases h;cases h0
 ·split at h
  ·cases h;cases h0
  ·split at h
   ·cases h;cases h0
   ·rename_i hf
    split at h
    ·rename_i hc;cases h;exact absurd h0 hc
    ·split at h
     ·cases h
     ·cases h;cases h0
     ·rename_i fX he;obtain ⟨a,ha,rfl⟩:=Option.map_eq_some_iff.1 h;exact ⟨fX,a,rfl,he,by omega,ha⟩
end
section
open Go Go.W
theorem Vy {w:World} {B:Nat→Prop} {oc:List Value} {x:Option Rn} (h:xe w B oc x):∃ k s n v l,oc=cY k s n v∧oW w B v l:=by
 match x,h with
 | none,h=>exact ⟨_,_,_,_,[],h,ej _ _ _ _⟩
 | some m,⟨v,h1,h2⟩=>exact ⟨_,_,_,_,_,h1,h2⟩
theorem xe.up {w w':World} {B B':Nat→Prop} {oc:List Value} {x:Option Rn} (h:xe w B oc x) (hm:Mod (fun _=>False) w w') (hB:∀ b,B b→B' b):xe w' B' oc x:=by
 match x,h with
 | none,h=>exact h
 | some m,⟨v,h1,h2⟩=>exact ⟨v,h1,aT.up h2 hm aC hB (fun _ _ h=>h)⟩
end
section
open Go Go.W Go.ChangeShapes Go.WideShapes Go.ChangeAt Go.RowKit Go.Deep
theorem Tryz.Dx:Tryz.prog.cellsOf 3=1:=by kernel_rfl
theorem Tryz.tD:Tryz.prog.cellsOf 9=1:=by kernel_rfl
theorem Tryz.aha:Tryz.prog.cellsOf 22=1:=by kernel_rfl
theorem Tryz.ahb:Tryz.prog.cellsOf 23=1:=by kernel_rfl
theorem Tryz.ahc:Tryz.prog.cellsOf 25=2:=by kernel_rfl
theorem Tryz.MV:Tryz.prog.cellsOf 39=1:=by kernel_rfl
theorem Tryz.MW:Tryz.prog.cellsOf 40=1:=by kernel_rfl
theorem Tryz.A1:Tryz.prog.cellsOf 42=3:=by kernel_rfl
theorem Tryz.ahd:Tryz.prog.cellsOf 43=1:=by kernel_rfl
theorem Tryz.ahe:Tryz.prog.cellsOf 44=1:=by kernel_rfl
theorem Tryz.ahf:Tryz.prog.cellsOf 45=1:=by kernel_rfl
theorem Tryz.Dy:Tryz.prog.cellsOf 47=7:=by kernel_rfl
theorem Tryz.Vz:Tryz.prog.cellsOf 49=12:=by kernel_rfl
theorem Tryz.ahg:Tryz.prog.cellsOf 61=1:=by kernel_rfl
theorem Tryz.VA:Tryz.prog.cellsOf 63=3:=by kernel_rfl
theorem Tryz.VB:Tryz.prog.cellsOf 66=2:=by kernel_rfl
theorem Tryz.VC:Tryz.prog.cellsOf 95=11:=by kernel_rfl
theorem Tryz.VD:Tryz.prog.cellsOf 97=11:=by kernel_rfl
theorem Tryz.own:ownKnob Tryz.prog.godebug=none:=by kernel_rfl
theorem Tryz.laidOut:laidOutB Tryz.prog=true:=by kernel_rfl
inductive mE:Ex→Prop
 | mk {k m:Int} {n:ByteArray} {ts:List Ty} {xs:List Ex} {bs:List Bd} {al:List Al} (hn:n.size≤1048576) (lx:xs.length≤1048576) (lb:bs.length≤1048576) (la:al.length≤1048576)
     (hx:∀ e∈xs,mE e) (hb:∀ b∈bs,b.name.size≤1048576) (au:∀ b∈bs,mE b.value) (ha:∀ a∈al,a.vars.length≤1048576∧∀ s∈a.vars,s.size≤1048576) (ye:∀ a∈al,mE a.body):mE (.mk k n m ts xs bs al)
theorem Dz {α:Type} {w:World} {v:Value} {sz:Nat} {B:Nat→Prop} {P:List Value→α→Prop} {Q:α→Prop} {l:List α} (h:aT w v sz B (fun r a=>P r a∧Q a) l):aT w v sz B P l∧∀ a∈l,Q a:=by
 refine ⟨h.imp (fun _ _ x=>x.1),fun a ha=>?_⟩;obtain ⟨rows,h1,h2,h3⟩:=h;obtain ⟨i,hi,rfl⟩:=List.getElem_of_mem ha;exact (h3 i _ _ (List.getElem?_eq_getElem (by omega)) (List.getElem?_eq_getElem hi)).2
section
variable {H:Type} {enc:TypeId×Value→H} {P:Program}
theorem VE:∀ {l:List (DataW H)} {d:DataW H},d∈l→Rows.uptoBulk d≤Rows.uptoBulkAll l
 | y::l,d,h=>by
  rw [Rows.uptoBulkAll];rcases List.mem_cons.1 h with rfl | h
  ·omega
  ·have:=VE h;omega
theorem MX (d:DataW H):1≤Rows.uptoBulk d:=by
 cases d with
 | lit l=>cases l<;>simp [Rows.uptoBulk]
 | _=>simp [Rows.uptoBulk]
theorem VF:∀ (l:List (DataW H)),l.length≤Rows.uptoBulkAll l
 | []=>Nat.le_refl _
 | d::l=>by
  rw [Rows.uptoBulkAll,List.length_cons];have:=MX d;have:=VF l;omega
theorem lU {w:World} {a:Addr} {v:Value} (h:w.cell? a=some v):a.block < w.heap.size:=by
 unfold World.cell? at h;cases hb:w.heap[a.block]? with
 | none=>rw [hb] at h;cases h
 | some o=>exact cO hb
theorem qG {α:Type} {t e:TypeId} {k n b:Nat} (Pr:List Value→α→Prop) {w:World} {base:Nat} {held:Bool} {cs:List Value} {x:DataW H×List MemPlace}
   (ht:P.underlying t=some (.slice e)) (hk:P.cellsOf e=k) (rp:0 < k)
   (each:∀ n cs y,DataW.trod enc P w base (fun _=>true) held n e cs=some y→Rows.uptoBulk y.1≤b→∃ o,Pr cs o)
   (h:DataW.trod enc P w base (fun _=>true) held n t cs=some x) (hb:Rows.uptoBulk x.1≤b+1) (au:b≤1048576) :
   ∃ (v:Value) (l:List α),cs=[v]∧aT w v k (· < w.heap.size) Pr l∧xC v∧l.length≤b+1:=by
 rcases open_slice ht h with ⟨rfl,rfl⟩ | ⟨a,len,cap,m,k',D,Pl,rfl,_,hl,_,hm,rfl,BH⟩
 ·exact ⟨_,[],rfl,ej _ _ _ _,Nat.le_refl _,by simp⟩
 ·simp only [if_true] at hm;subst hm;simp only [Rows.uptoBulk] at hb;have hlen:=VF ((List.range len).map D);rw [List.length_map,List.length_range] at hlen;have all:∀ i,i < len→∃ oc:α×List Value,(∀ j,j < k→w.cell? ((a.add (i*k)).add j)=oc.2[j]?)∧oc.2.length=k∧Pr oc.2 oc.1:=by
   intro i hi;obtain ⟨cs,h3,h4⟩:=BH i (by omega);have du:=VE (List.mem_map.2 ⟨i,List.mem_range.2 hi,rfl⟩:D i∈(List.range len).map D);obtain ⟨o,ho⟩:=each _ _ _ h4 (by show Rows.uptoBulk (D i)≤b;omega);obtain ⟨_,h6,h5⟩:=World.cells?_some h3;rw [hk] at h5 h6;exact ⟨(o,cs),fun j hj=>h5 j hj,h6,ho⟩
  rcases Nat.eq_zero_or_pos len with h0 | h0
  ·subst h0;refine ⟨_,[],rfl,⟨[],⟨⟨some a,m,rfl,fun h=>absurd h (by simp),fun i hi=>absurd hi (by simp)⟩,by simp⟩,rfl,fun i r a hr=>by simp at hr⟩,hl,by simp⟩
  haveI:Nonempty (α×List Value):=by obtain ⟨o,_⟩:=all 0 h0;exact ⟨o⟩
  haveI:Inhabited (α×List Value):=Classical.inhabited_of_nonempty this
  obtain ⟨f,hf⟩:=choose_lt (α:=α×List Value) (h:=all);refine ⟨_,(List.range len).map (fun i=>(f i).1),rfl,⟨(List.range len).map (fun i=>(f i).2),⟨⟨some a,m,by simp,fun P1 ad e=>?_,?_⟩,by simp;omega⟩,by simp,?_⟩,hl,by simp;omega⟩
  ·cases e;have hc:=(hf 0 h0).1 0 rp;have e1:(f 0).2[0]? = some ((f 0).2[0]'(by rw [(hf 0 h0).2.1];exact rp)):=List.getElem?_eq_getElem _;rw [e1] at hc;simp only [Nat.zero_mul,add_zero'] at hc;exact lU hc
  ·intro i hi;have eU:i < len:=by simpa using hi
   refine ⟨a,rfl,by simpa using (hf i eU).2.1,fun j hj=>?_⟩;simp only [List.getElem_map,List.getElem_range] at hj ⊢;rw [(hf i eU).1 j (by rw [(hf i eU).2.1] at hj;exact hj)];exact List.getElem?_eq_getElem _
  ·intro i r o hr ho;rw [List.getElem?_map] at hr ho;rcases Nat.lt_or_ge i len with hi | hi
   ·rw [List.getElem?_range hi] at hr ho;cases hr;cases ho;exact (hf i hi).2.2
   ·rw [List.getElem?_eq_none (by simpa using hi)] at hr;cases hr
variable {w:World} {base:Nat} {held:Bool}
theorem uT {n:Nat} {c:Value} {y:DataW H×List MemPlace} (h:DataW.trod enc Tryz.prog w base (fun _=>true) held n 9 [c]=some y) (hb:Rows.uptoBulk y.1≤1048576):∃ s:ByteArray,c = .string s∧Nm s∧s.size≤1048576:=by
 obtain ⟨s,e,rfl,_⟩:=DataW.trod_string Tryz.underlying9 h;cases e;have h1:s.data.toList.length=s.size:=Array.length_toList;simp only [Rows.uptoBulk] at hb;exact ⟨s,rfl,by show s.size < _;omega,by omega⟩
theorem MY {n:Nat} {cs:List Value} {y:DataW H×List MemPlace} (h:DataW.trod enc Tryz.prog w base (fun _=>true) held n 9 cs=some y) (hb:Rows.uptoBulk y.1≤1048576):∃ s:ByteArray,gw cs s∧s.size≤1048576:=by
 obtain ⟨s,rfl,_⟩:=DataW.trod_string Tryz.underlying9 h;obtain ⟨s',e,hs⟩:=uT h hb;cases e;exact ⟨_,⟨rfl,hs.1⟩,hs.2⟩
theorem DA {n:Nat} {c:Value} {y:DataW H×List MemPlace} (h:DataW.trod enc Tryz.prog w base (fun _=>true) held n 3 [c]=some y):∃ i:Int,c=I i:=by
 obtain ⟨i0,e0,rfl,_⟩:=DataW.trod_int Tryz.underlying3 h;cases e0;exact ⟨_,rfl⟩
theorem DB:∀ (b:Nat),b≤1048576→∀ n cs (y:DataW H×List MemPlace),DataW.trod enc Tryz.prog w base (fun _=>true) held n 42 cs=some y→Rows.uptoBulk y.1≤b→∃ t,aW w (· < w.heap.size) cs t
 | 0,_,n,cs,y,_,hb=>absurd (MX y.1) (by omega)
 | b+1,ey,n,cs,y,h,hb=>by
  obtain ⟨xs,m,rfl,rfl,hl,nX,hf⟩:=DataW.trod_struct Tryz.underlying42 h;rw [Tryz.A1] at hl
  match cs,hl,xs,nX with
  | [c0,c1,c2],_,[x0,x1,x2],_=>
  have f0:=hf 0 _ rfl;have f1:=hf 1 _ rfl;have f2:=hf 2 _ rfl;simp only [Tryz.Dx,Tryz.tD,Tryz.MW,List.drop_zero,List.drop_succ_cons,List.take_succ_cons,List.take_zero,List.getElem?_cons_zero,List.getElem?_cons_succ] at f0 f1 f2;simp only [Rows.uptoBulk,Rows.uptoBulkAll,List.map_cons,List.map_nil] at hb;obtain ⟨k,rfl⟩:=DA f0;obtain ⟨s,rfl,hs,_⟩:=uT f1 (by omega);obtain ⟨v,l,e,hv,_,_⟩:=qG (b:=b) (fun cs t=>aW w (· < w.heap.size) cs t) Tryz.underlying40 Tryz.A1 (by decide) (fun n cs y h1 h2=>DB b (by omega) n cs y h1 h2) f2 (by omega) (by omega);cases e;obtain ⟨rows,q1,q2,q3⟩:=hv;exact ⟨.mk k s l,.mk q1 q2 q3⟩
end
end
section
open Go Go.W Go.ChangeShapes Go.WideShapes Go.ChangeAt Go.RowKit Go.Deep
section
variable {H:Type} {enc:TypeId×Value→H} {w:World} {base:Nat} {held:Bool}
theorem ahh {b:Nat} (ey:b≤1048576) (ih:∀ n cs (y:DataW H×List MemPlace),DataW.trod enc Tryz.prog w base (fun _=>true) held n 47 cs=some y→Rows.uptoBulk y.1≤b→∃ e,bE w (· < w.heap.size) cs e∧mE e) (n:Nat) (cs:List Value) (y:DataW H×List MemPlace)
   (h:DataW.trod enc Tryz.prog w base (fun _=>true) held n 95 cs=some y) (hb:Rows.uptoBulk y.1≤b):∃ x,ff w (· < w.heap.size) cs x∧(x.name.size≤1048576∧mE x.value):=by
 obtain ⟨xs,m,rfl,rfl,hl,nX,hf⟩:=DataW.trod_struct Tryz.underlying95 h;rw [Tryz.VC] at hl
 match cs,hl,xs,nX with
 | [c0,c1,c2,c3,c4,c5,c6,c7,c8,c9,zW],_,[x0,x1,x2],_=>
 have f0:=hf 0 _ rfl;have f1:=hf 1 _ rfl;have f2:=hf 2 _ rfl;simp only [Tryz.tD,Tryz.A1,Tryz.Dy,List.drop_zero,List.drop_succ_cons,List.take_succ_cons,List.take_zero,List.getElem?_cons_zero,List.getElem?_cons_succ] at f0 f1 f2;simp only [Rows.uptoBulk,Rows.uptoBulkAll,List.map_cons,List.map_nil] at hb;obtain ⟨s,rfl,hs⟩:=uT f0 (by omega);obtain ⟨t,ht⟩:=DB b ey _ _ _ f1 (by omega);obtain ⟨e,he,xV⟩:=ih _ _ _ f2 (by omega);exact ⟨.mk s t e,⟨_,_,rfl,ht,he,hs.1⟩,hs.2,xV⟩
theorem ahi {b:Nat} (ey:b≤1048576) (ih:∀ n cs (y:DataW H×List MemPlace),DataW.trod enc Tryz.prog w base (fun _=>true) held n 47 cs=some y→Rows.uptoBulk y.1≤b→∃ e,bE w (· < w.heap.size) cs e∧mE e) (n:Nat) (cs:List Value) (y:DataW H×List MemPlace)
   (h:DataW.trod enc Tryz.prog w base (fun _=>true) held n 97 cs=some y) (hb:Rows.uptoBulk y.1≤b):∃ x,iO w (· < w.heap.size) cs x∧((x.vars.length≤1048576∧∀ s∈x.vars,s.size≤1048576)∧mE x.body):=by
 obtain ⟨xs,m,rfl,rfl,hl,nX,hf⟩:=DataW.trod_struct Tryz.underlying97 h;rw [Tryz.VD] at hl
 match cs,hl,xs,nX with
 | [c0,c1,c2,c3,c4,c5,c6,c7,c8,c9,zW],_,[x0,x1,x2,x3,x4],_=>
 have f0:=hf 0 _ rfl;have f1:=hf 1 _ rfl;have f2:=hf 2 _ rfl;have f3:=hf 3 _ rfl;have f4:=hf 4 _ rfl;simp only [Tryz.Dx,Tryz.tD,Tryz.MV,Tryz.Dy,List.drop_zero,List.drop_succ_cons,List.take_succ_cons,List.take_zero,List.getElem?_cons_zero,List.getElem?_cons_succ] at f0 f1 f2 f3 f4;simp only [Rows.uptoBulk,Rows.uptoBulkAll,List.map_cons,List.map_nil] at hb;obtain ⟨k,rfl⟩:=DA f0;obtain ⟨s,rfl,hs⟩:=uT f1 (by omega);obtain ⟨m',rfl⟩:=DA f2;obtain ⟨v,l,e,hv,_,hl⟩:=qG (b:=1048575) (fun cs s=>gw cs s∧s.size≤1048576) Tryz.underlying39 Tryz.tD (by decide) (fun n cs y h1 h2=>MY h1 (by omega)) f3 (by omega) (by omega);cases e;obtain ⟨hv,mJ⟩:=Dz hv;obtain ⟨e,he,xV⟩:=ih _ _ _ f4 (by omega);exact ⟨.mk k s m' l e,⟨_,_,rfl,hv,he⟩,⟨by show l.length≤_;omega,mJ⟩,xV⟩
theorem VG:∀ (b:Nat),b≤1048576→∀ n cs (y:DataW H×List MemPlace),DataW.trod enc Tryz.prog w base (fun _=>true) held n 47 cs=some y→Rows.uptoBulk y.1≤b→∃ e,bE w (· < w.heap.size) cs e∧mE e
 | 0,_,n,cs,y,_,hb=>absurd (MX y.1) (by omega)
 | b+1,ey,n,cs,y,h,hb=>by
  have ih:=VG b (by omega);obtain ⟨xs,m,rfl,rfl,hl,nX,hf⟩:=DataW.trod_struct Tryz.underlying47 h;rw [Tryz.Dy] at hl
  match cs,hl,xs,nX with
  | [c0,c1,c2,c3,c4,c5,c6],_,[x0,x1,x2,x3,x4,x5,x6],_=>
  have f0:=hf 0 _ rfl;have f1:=hf 1 _ rfl;have f2:=hf 2 _ rfl;have f3:=hf 3 _ rfl;have f4:=hf 4 _ rfl;have f5:=hf 5 _ rfl;have f6:=hf 6 _ rfl;simp only [Tryz.Dx,Tryz.tD,Tryz.MW,Tryz.ahd,Tryz.ahe,Tryz.ahf,List.drop_zero,List.drop_succ_cons,List.take_succ_cons,List.take_zero,List.getElem?_cons_zero,List.getElem?_cons_succ] at f0 f1 f2 f3 f4 f5 f6;simp only [Rows.uptoBulk,Rows.uptoBulkAll,List.map_cons,List.map_nil] at hb;obtain ⟨k,rfl⟩:=DA f0;obtain ⟨s,rfl,_,hs⟩:=uT f1 (by omega);obtain ⟨m',rfl⟩:=DA f2;obtain ⟨v3,l3,e,CM,_,_⟩:=qG (b:=b) (fun cs t=>aW w (· < w.heap.size) cs t) Tryz.underlying40 Tryz.A1 (by decide) (fun n cs y h1 h2=>DB b (by omega) n cs y h1 h2) f3 (by omega) (by omega);cases e;obtain ⟨v4,l4,e,C8,_,l4l⟩:=qG (b:=b) (fun cs t=>bE w (· < w.heap.size) cs t∧mE t) Tryz.underlying43 Tryz.Dy (by decide) ih f4 (by omega) (by omega);cases e;obtain ⟨v5,l5,e,MZ,_,l5l⟩:=qG (b:=b) (fun cs t=>ff w (· < w.heap.size) cs t∧(t.name.size≤1048576∧mE t.value)) Tryz.underlying44 Tryz.VC (by decide) (ahh (by omega) ih) f5 (by omega) (by omega);cases e;obtain ⟨v6,l6,e,M0,jz,l6l⟩:=qG (b:=b) (fun cs t=>iO w (· < w.heap.size) cs t∧((t.vars.length≤1048576∧∀ s∈t.vars,s.size≤1048576)∧mE t.body)) Tryz.underlying45 Tryz.VD (by decide) (ahi (by omega) ih) f6 (by omega) (by omega);cases e;obtain ⟨C8,s4⟩:=Dz C8;obtain ⟨MZ,s5⟩:=Dz MZ;obtain ⟨M0,s6⟩:=Dz M0;exact ⟨.mk k s m' l3 l4 l5 l6,yV CM C8 MZ M0 jz,.mk hs (by omega) (by omega) (by omega) s4 (fun b hb=>(s5 b hb).1) (fun b hb=>(s5 b hb).2) (fun a ha=>(s6 a ha).1) (fun a ha=>(s6 a ha).2)⟩
theorem ahj {b:Nat} (ey:b≤1048576) (n:Nat) (cs:List Value) (y:DataW H×List MemPlace)
   (h:DataW.trod enc Tryz.prog w base (fun _=>true) held n 66 cs=some y) (hb:Rows.uptoBulk y.1≤b):∃ x,eL w (· < w.heap.size) cs x:=by
 obtain ⟨xs,m,rfl,rfl,hl,nX,hf⟩:=DataW.trod_struct Tryz.underlying66 h;rw [Tryz.VB] at hl
 match cs,hl,xs,nX with
 | [c0,c1],_,[x0,x1],_=>
 have f0:=hf 0 _ rfl;have f1:=hf 1 _ rfl;simp only [Tryz.tD,Tryz.MW,List.drop_zero,List.drop_succ_cons,List.take_succ_cons,List.take_zero,List.getElem?_cons_zero,List.getElem?_cons_succ] at f0 f1;simp only [Rows.uptoBulk,Rows.uptoBulkAll,List.map_cons,List.map_nil] at hb;obtain ⟨s,rfl,hs⟩:=uT f0 (by omega);obtain ⟨v,l,e,hv,_,_⟩:=qG (b:=b) (fun cs t=>aW w (· < w.heap.size) cs t) Tryz.underlying40 Tryz.A1 (by decide) (fun n cs y h1 h2=>DB b (by omega) n cs y h1 h2) f1 (by omega) (by omega);cases e;exact ⟨⟨s,l⟩,_,rfl,hv,hs.1⟩
theorem ahk {b:Nat} (ey:b≤1048576) (n:Nat) (cs:List Value) (y:DataW H×List MemPlace)
   (h:DataW.trod enc Tryz.prog w base (fun _=>true) held n 63 cs=some y) (hb:Rows.uptoBulk y.1≤b):∃ x,gC w (· < w.heap.size) cs x:=by
 obtain ⟨xs,m,rfl,rfl,hl,nX,hf⟩:=DataW.trod_struct Tryz.underlying63 h;rw [Tryz.VA] at hl
 match cs,hl,xs,nX with
 | [c0,c1,c2],_,[x0,x1,x2],_=>
 have f0:=hf 0 _ rfl;have f1:=hf 1 _ rfl;have f2:=hf 2 _ rfl;simp only [Tryz.tD,Tryz.MV,Tryz.ahg,List.drop_zero,List.drop_succ_cons,List.take_succ_cons,List.take_zero,List.getElem?_cons_zero,List.getElem?_cons_succ] at f0 f1 f2;simp only [Rows.uptoBulk,Rows.uptoBulkAll,List.map_cons,List.map_nil] at hb;obtain ⟨s,rfl,hs⟩:=uT f0 (by omega);obtain ⟨v,l,e,hv,_,_⟩:=qG (b:=b) gw Tryz.underlying39 Tryz.tD (by decide) (fun n cs y h1 h2=>by obtain ⟨s,h,_⟩:=MY h1 (by omega);exact ⟨s,h⟩) f1 (by omega) (by omega);cases e;obtain ⟨v2,l2,e,DC,_,_⟩:=qG (b:=b) (fun cs t=>eL w (· < w.heap.size) cs t) Tryz.underlying61 Tryz.VB (by decide) (ahj (by omega)) f2 (by omega) (by omega);cases e;exact ⟨⟨s,l,l2⟩,_,_,rfl,hv,DC⟩
theorem ahl {b:Nat} (ey:b≤1048576) (n:Nat) (cs:List Value) (y:DataW H×List MemPlace)
   (h:DataW.trod enc Tryz.prog w base (fun _=>true) held n 49 cs=some y) (hb:Rows.uptoBulk y.1≤b):∃ x,ic w (· < w.heap.size) cs x∧mE x.body:=by
 obtain ⟨xs,m,rfl,rfl,hl,nX,hf⟩:=DataW.trod_struct Tryz.underlying49 h;rw [Tryz.Vz] at hl
 match cs,hl,xs,nX with
 | [c0,c1,c2,c3,c4,c5,c6,c7,c8,c9,zW,EE],_,[x0,x1,x2,x3],_=>
 have f0:=hf 0 _ rfl;have f1:=hf 1 _ rfl;have f2:=hf 2 _ rfl;have f3:=hf 3 _ rfl;simp only [Tryz.tD,Tryz.MV,Tryz.A1,Tryz.Dy,List.drop_zero,List.drop_succ_cons,List.take_succ_cons,List.take_zero,List.getElem?_cons_zero,List.getElem?_cons_succ] at f0 f1 f2 f3;simp only [Rows.uptoBulk,Rows.uptoBulkAll,List.map_cons,List.map_nil] at hb;obtain ⟨s,rfl,hs⟩:=uT f0 (by omega);obtain ⟨v,l,e,hv,_,_⟩:=qG (b:=b) gw Tryz.underlying39 Tryz.tD (by decide) (fun n cs y h1 h2=>by obtain ⟨s,h,_⟩:=MY h1 (by omega);exact ⟨s,h⟩) f1 (by omega) (by omega);cases e;obtain ⟨t,ht⟩:=DB b ey _ _ _ f2 (by omega);obtain ⟨e,he,xV⟩:=VG b ey _ _ _ f3 (by omega);exact ⟨⟨s,l,t,e⟩,⟨_,[c2,c3,c4],[c5,c6,c7,c8,c9,zW,EE],rfl,rfl,rfl,hv,ht,he,hs.1⟩,xV⟩
theorem ahm {n:Nat} {cs:List Value} {y:DataW H×List MemPlace} (h:DataW.trod enc Tryz.prog w base (fun _=>true) held n 25 cs=some y) (hb:Rows.uptoBulk y.1≤1048576) :
   ∃ v0 v1 p,cs=[v0,v1]∧jR w (· < w.heap.size) cs p∧(p.ak.length≤1048576∧∀ d∈p.ak,mE d.body):=by
 obtain ⟨xs,m,rfl,rfl,hl,nX,hf⟩:=DataW.trod_struct Tryz.underlying25 h;rw [Tryz.ahc] at hl
 match cs,hl,xs,nX with
 | [c0,c1],_,[x0,x1],_=>
 have f0:=hf 0 _ rfl;have f1:=hf 1 _ rfl;simp only [Tryz.aha,Tryz.ahb,List.drop_zero,List.drop_succ_cons,List.take_succ_cons,List.take_zero,List.getElem?_cons_zero,List.getElem?_cons_succ] at f0 f1;simp only [Rows.uptoBulk,Rows.uptoBulkAll,List.map_cons,List.map_nil] at hb;obtain ⟨v,l,e,hv,_,_⟩:=qG (b:=1048575) (fun cs t=>gC w (· < w.heap.size) cs t) Tryz.underlying22 Tryz.VA (by decide) (ahk (by omega)) f0 (by omega) (by omega);cases e;obtain ⟨v2,l2,e,DC,_,l2l⟩:=qG (b:=1048575) (fun cs t=>ic w (· < w.heap.size) cs t∧mE t.body) Tryz.underlying23 Tryz.Vz (by decide) (ahl (by omega)) f1 (by omega) (by omega);cases e;obtain ⟨DC,s2⟩:=Dz DC;exact ⟨_,_,⟨l,l2⟩,rfl,⟨_,_,rfl,hv,DC⟩,by omega,s2⟩
end
end
section
open Go Go.W Go.ChangeShapes Go.WideShapes Go.ChangeAt Go.RowKit Go.Deep
theorem ahn {p:Nat→Bool} {l m:List Nat} (h:(l++m).all p=true):l.all p=true∧m.all p=true:=by
 simpa using h
theorem Tryz.aho:Tryz.prog.bytesOf 3=8:=by kernel_rfl
section
variable {H:Type} {enc:TypeId×Value→H} {w:World} {ts:List TypeId} {args:List Value} {ds:List (DataW H)}
theorem Gp {P:Program} {t:TypeId} (h:ot enc P (t::ts) w args ds):∃ v gI d fY base p,args=v::gI∧ds=d::fY∧ot enc P ts w gI fY∧Value.okWide P w .any base t v∧DataW.Trod enc P w 0 (fun _=>true) true t v d p∧(d.weights P t).all (·≤reachBytes)=true:=by
 obtain ⟨⟨base,gW⟩,⟨ps,hA⟩,cZ⟩:=h;obtain ⟨v,vs,d,fY,p,q,rfl,rfl,rfl,hd,qO⟩:=trodAll_cons hA;rw [DataW.weightsEach] at cZ;obtain ⟨h1,h2⟩:=ahn cZ;exact ⟨v,vs,d,fY,base,p,rfl,rfl,⟨⟨base,fun j t' v' ht hv=>gW (j+1) t' v' ht hv⟩,⟨q,qO⟩,h2⟩,gW 0 t v rfl rfl,hd,h1⟩
theorem ahp {P:Program} (h:ot enc P [] w args ds):args=[]∧ds=[]:=by
 obtain ⟨_,⟨ps,hA⟩,_⟩:=h;obtain ⟨rfl,rfl,_⟩:=trodAll_nil hA;exact ⟨rfl,rfl⟩
theorem VH (h:ot enc Tryz.prog (3::ts) w args ds):∃ n gI d fY,args=I n::gI∧ds=d::fY∧ot enc Tryz.prog ts w gI fY:=by
 obtain ⟨v,gI,d,fY,base,p,rfl,rfl,h',gW,hd,_⟩:=Gp h;obtain ⟨n,rfl,_⟩:=open_int Tryz.underlying3 gW hd;exact ⟨n,gI,d,fY,rfl,rfl,h'⟩
theorem ahq (h:ot enc Tryz.prog (25::ts) w args ds) (hb:Rows.uptoBulkAll ds≤1048576):∃ (cs:List Value) (p:Pg) (gI:List Value) (d:DataW H) (fY:List (DataW H)),args = .agg cs.toArray::gI∧ds=d::fY∧jR w (Out (fun _=>False) w) cs p∧(p.ak.length≤1048576∧∀ d∈p.ak,mE d.body)∧ot enc Tryz.prog ts w gI fY:=by
 obtain ⟨v,gI,d,fY,base,p,rfl,rfl,h',gW,hd,hw⟩:=Gp h;obtain ⟨cs,rfl,_⟩:=okWide_struct Tryz.underlying25 gW;obtain ⟨fuel,hf⟩:=hd;rw [Rows.uptoBulkAll] at hb;obtain ⟨v0,v1,pg,e,h1,cQ⟩:=ahm (y:=(d,p)) (by simpa [Value.cells] using hf) (by show Rows.uptoBulk d≤_;omega);have e':cs = #[v0,v1]:=Array.ext' e;subst e';exact ⟨[v0,v1],pg,gI,d,fY,rfl,rfl,h1.up (.refl (fun _=>False) w) aC (fun b hb=>⟨hb,_root_.id⟩),cQ,h'⟩
end
theorem ahr {H:Type} {enc:TypeId×Value→H} {C:Go.Checked} {os:Os} {f:FuncId} {fn:Func} {s:ChangeSpec} {tb:TypeId} {F:Stop.Interp} {L:List (String×DataW Unit)} (own:ownKnob C.prog.godebug=none) (started:os.Started) (ahs:C.prog.inits.idxOf? f=none) (eK:C.prog.funcs[f]? = some fn)
   (witness:∃ (w:World) (tape:Tape) (i:Input),w.os=os∧(w.forCall tape i).Shaped C.prog∧i.vars=[]∧Input.okWide C.prog (w.forCall tape i) .any w.heap.size f i ∧
    (Rows.OpenSpec.upto s).preRow enc C.prog fn [] false L (w.forCall tape i).memory i.args∧({}:Assume).holds C.prog (lone (Frame.enter C.prog f i.args .normal) [] (w.forCall tape i)))
   (laid:laidOutB C.prog=true) (gk:fn.params.toList.all (fun t=>C.prog.readableRec t&&decide (t < C.prog.types.size))=true)
   (aR:fn.resultTypes = #[tb]) (hb:C.prog.underlying tb=some .bool) (M1:s.vars=[])
   (hs:∀ ds:List (DataW H),ds.length=fn.params.toList.length→s.fn H ds = { results:=[.lit (.bool true)],args:=ds})
   (walk:∀ (W:World) (args:List Value) (ds:List (DataW H)),ot enc C.prog fn.params.toList W args ds→Rows.uptoBulkAll ds≤1048576→a8 C.prog f args W fun q w'=>q = .bool true∧Mod (fun _=>False) W w') :
   ReturnsInHanded {} C os f .any ((Rows.OpenSpec.upto s).preRow enc C.prog fn [] false L) (((Rows.OpenSpec.upto s).at F).post enc C.prog fn false true false false):=by
 refine returnsInHanded_of_row (s:=Rows.OpenSpec.upto s) own started ahs eK witness ?_;intro W base args ds gs before gW hW _ DY cZ _ _ _;have hk:Rows.uptoSmall H (ds++gs)=true:=DY _ rfl;have hW:DataW.Whole enc C.prog fn.params.toList s.vars false W args.toList ds gs before:=hW;have M3:=hW;obtain ⟨p,q,hA,hV,rfl,_,_⟩:=hW;rw [M1] at hV;obtain ⟨rfl,rfl⟩:=trodVars_none hV;simp only [List.append_nil] at M3 cZ hk;have aht:(DataW.weightsEach C.prog fn.params.toList ds).all (·≤reachBytes)=true:=by
  have e:(Rows.OpenSpec.upto s).bare.plain.varTypes C.prog=[]:=by
   show (s.plain).varTypes C.prog=[];simp [DataSpec.varTypes,ChangeSpec.plain,M1]
  rw [e,List.append_nil] at cZ;exact cZ
 have iQ:Rows.uptoBulkAll ds≤1048576:=of_decide_eq_true hk;have key:=walk W args.toList ds ⟨⟨base,fun j t v ht hv=>gW j t v (by simpa using ht) (by simpa using hv)⟩,⟨p,hA⟩,aht⟩ iQ;have e:args.toList.toArray=args:=by simp
 unfold a8 at key;rw [e] at key;refine key.mono ?_;rintro _ W' ⟨_,rfl,rfl,hm⟩;have VI:=XM hm;have aP:∀ x∈p,x.block < W.heap.size:=fun x hx=>by simpa using M3.lt x hx
 have hf:=hs ds (Ot hA);have gu:((Rows.OpenSpec.upto s).at F).fn H ds = { results:=[.lit (.bool true)],args:=ds}:=hf;refine ⟨_,rfl,ds,[],_,[],p,[],M3,?_,?_,?_,VI.frame _,fun h=>by cases h⟩
 ·rw [List.append_nil,gu,aR];exact trodAll_mk1 (shut_bool hb true)
 ·rw [List.append_nil,gu];exact Ou laid VI gk aP hA
 ·have oy:((Rows.OpenSpec.upto s).at F).vars=[]:=M1;rw [List.append_nil,gu,oy];rfl
abbrev DD:List (String×DataW Unit):=[("math/bits.deBruijn32tab",Rows.laid_math_bits_deBruijn32tab),("math/bits.deBruijn64tab",Rows.laid_math_bits_deBruijn64tab),("internal/strconv.uint64pow10",Rows.laid_internal_strconv_uint64pow10),("unicode/utf8.acceptRanges",Rows.laid_unicode_utf8_acceptRanges),("unicode/utf8.first",Rows.laid_unicode_utf8_first)]
theorem ahu (os:Os) (args:Array Value):laidMetH Tryz.prog DD ((World.laidAll Tryz.prog os DD).forCall (fun _ _=>0) ⟨#[],args,[]⟩).memory:=by
 rw [MakeChecks.laidMetH_plain _ _ _ (by kernel_rfl)];exact laidMet_laidAll _ (by kernel_rfl) (by kernel_rfl)
end
section
open Go Go.W
def rX (n:ByteArray):Ex:=.mk 4 n 0 [yX] [] [] []
def tE (f x:Ex):Ex:=.mk 5 bI 0 [] [f,x] [] []
def gJ:List Int→Ex
 | []=>rX kP
 | k::l=>tE (tE (rX di) (cV k)) (gJ l)
abbrev Rl:=Nat→Nat→Prop
def jJ (R:Rl) (v v':cr):Prop:=cX (fun p q=>p.1=q.1∧R p.2 q.2) v v'
inductive fZ (R:Rl):Cl→Cl→Prop
 | num (n:Int):fZ R (.num n) (.num n)
 | aZ (n:ByteArray) {fs ix:List Nat} (h:cX R fs ix):fZ R (.aZ n fs) (.aZ n ix)
 | fw (e:Ex) {v v':cr} (h:jJ R v v'):fZ R (.fw e v) (.fw e v')
 | eB (n:ByteArray) (l:Int) {fs ix:List Nat} (h:cX R fs ix):fZ R (.eB n l fs) (.eB n l ix)
 | wait (e:Ex) {v v':cr} (h:jJ R v v'):fZ R (.wait e v) (.wait e v')
 | busy:fZ R .busy .busy
 | emp:fZ R .emp .emp
inductive nY (R:Rl) (I:Nat→Prop):Fm→Fm→Prop
 | dz {c c':Nat} (h:R c c') (hi:¬ I c):nY R I (.dz c) (.dz c')
 | app (e:Ex) {v v':cr} (h:jJ R v v'):nY R I (.app e v) (.app e v')
 | lC (e:Ex) {v v':cr} (h:jJ R v v'):nY R I (.lC e v) (.lC e v')
 | fst (e:Ex) {v v':cr} (h:jJ R v v'):nY R I (.fst e v) (.fst e v')
 | snd (e:Ex) (n:Int):nY R I (.snd e n) (.snd e n)
 | seq (e:Ex) {v v':cr} (h:jJ R v v'):nY R I (.seq e v) (.seq e v')
 | lD (e:Ex) {v v':cr} (h:jJ R v v'):nY R I (.lD e v) (.lD e v')
inductive DE (R:Rl):Md→Md→Prop
 | go (e:Ex) {v v':cr} (h:jJ R v v'):DE R (.go e v) (.go e v')
 | val {x x':Cl} (h:fZ R x x'):DE R (.val x) (.val x')
inductive rY (cs:List Cl) (I:Nat→Prop):Nat→List Int→Prop
 | nil {a:Nat} (hi:I a) (h:cs[a]? = some (.aZ kP [])):rY cs I a []
 | cons {a h t:Nat} {k:Int} {l:List Int} (hi:I a) (hc:cs[a]? = some (.aZ di [h,t])) (ih:I h) (hk:cs[h]? = some (.num k)) (ht:rY cs I t l):rY cs I a (k::l)
inductive tF (cs:List Cl) (I:Nat→Prop) (R:Rl) (a:Nat):Cl→Cl→Prop
 | same {x y:Cl} (h:fZ R x y):tF cs I R a x y
 | list {x:Cl} {l:List Int} {v:cr} (h:rY cs I a l):tF cs I R a x (.wait (gJ l) v)
 | num {k:Int} {v:cr} (hi:I a):tF cs I R a (.num k) (.wait (cV k) v)
structure SR (I:Nat→Prop) (z:Nat) (R:Rl) (bf:List Fm) (m m':Rn):Prop where
 cell:∀ a b,R a b→∃ x y,m.cells[a]? = some x∧m'.cells[b]? = some y∧tF m.cells I R a x y
 inj:∀ a a' b,R a b→R a' b→a=a'
 fn:∀ a b b',¬ I a→R a b→R a b'→b=b'
 aO:∃ fs,m'.aO=bf++fs∧cX (nY R I) m.aO fs
 told:m'.told=m.told
 kind:m'.kind=m.kind
 stuck:m'.stuck=m.stuck
 val:∀ a,I a→∃ x,m.cells[a]? = some x∧x.io=true
 nZ:∀ a b,R a b→b≠z
 lJ:z < m'.cells.length
def kQ (R R':Rl):Prop:=∀ a b,R a b→R' a b
section
variable {R R':Rl} {I:Nat→Prop} {cs hM:List Cl}
theorem jJ.mono {v v':cr} (h:jJ R v v') (hr:kQ R R'):jJ R' v v':=wG (fun p q h=>⟨h.1,hr _ _ h.2⟩) h
theorem fZ.mono {x x':Cl} (h:fZ R x x') (hr:kQ R R'):fZ R' x x':=by
 cases h with
 | num n=>exact .num n
 | aZ n h=>exact .aZ n (wG hr h)
 | fw e h=>exact .fw e (h.mono hr)
 | eB n l h=>exact .eB n l (wG hr h)
 | wait e h=>exact .wait e (h.mono hr)
 | busy=>exact .busy
 | emp=>exact .emp
theorem nY.mono {f f':Fm} (h:nY R I f f') (hr:kQ R R'):nY R' I f f':=by
 cases h with
 | dz h hi=>exact .dz (hr _ _ h) hi
 | app e h=>exact .app e (h.mono hr)
 | lC e h=>exact .lC e (h.mono hr)
 | fst e h=>exact .fst e (h.mono hr)
 | snd e n=>exact .snd e n
 | seq e h=>exact .seq e (h.mono hr)
 | lD e h=>exact .lD e (h.mono hr)
theorem rY.aB {a:Nat} {l:List Int} (h:rY cs I a l) (hk:∀ a x,I a→cs[a]? = some x→hM[a]? = some x):rY hM I a l:=by
 induction h with
 | nil hi h=>exact .nil hi (hk _ _ hi h)
 | cons hi hc hh hn _ ih=>exact .cons hi (hk _ _ hi hc) hh (hk _ _ hh hn) ih
theorem rY.M4 {a:Nat} {l:List Int} (h:rY cs I a l):I a:=by cases h<;>assumption
theorem tF.mono {a:Nat} {x y:Cl} (h:tF cs I R a x y) (hr:kQ R R') (hk:∀ a x,I a→cs[a]? = some x→hM[a]? = some x):tF hM I R' a x y:=by
 cases h with
 | same h=>exact .same (h.mono hr)
 | list h=>exact .list (h.aB hk)
 | num hi=>exact .num hi
theorem jJ.find {n:ByteArray} {c:Nat}:∀ {v v':cr},jJ R v v'→wy v n=some c→∃ c',wy v' n=some c'∧R c c'
 | [],[],_,h=>by cases h
 | p::v,q::v',h,hf=>by
  obtain ⟨⟨h1,h2⟩,h3⟩:=h;unfold wy at hf ⊢;rw [px] at hf ⊢;rw [← h1];by_cases e:p.1=n
  ·rw [if_pos e] at hf ⊢;cases hf;exact ⟨_,rfl,h2⟩
  ·rw [if_neg e] at hf ⊢;exact jJ.find h3 hf
 | [],_::_,h,_=>h.elim
 | _::_,[],h,_=>h.elim
end
section
variable {I:Nat→Prop} {z:Nat} {R:Rl} {bf:List Fm} {m m':Rn}
theorem SR.lt (h:SR I z R bf m m') {a b:Nat} (hr:R a b):a < m.cells.length∧b < m'.cells.length:=by
 obtain ⟨x,y,h1,h2,_⟩:=h.cell a b hr;exact ⟨(List.getElem?_eq_some_iff.1 h1).1,(List.getElem?_eq_some_iff.1 h2).1⟩
theorem SR.put (h:SR I z R bf m m') {c c':Nat} {x x':Cl} (hc:R c c') (hi:¬ I c) (hx:fZ R x x'):SR I z R bf (m.put c x) (m'.put c' x'):=by
 obtain ⟨l1,l2⟩:=h.lt hc;have hk:∀ a y,I a→m.cells[a]? = some y→(m.cells.set c x)[a]? = some y:=fun a y ha hy=>by
  rw [List.getElem?_set_ne (fun e=>hi (by rw [e];exact ha))];exact hy
 refine ⟨fun a b hr=>?_,h.inj,h.fn,h.aO,h.told,h.kind,h.stuck,fun a ha=>?_,h.nZ,by simpa [Rn.put] using h.lJ⟩
 ·show ∃ rZ y,(m.cells.set c x)[a]? = some rZ∧(m'.cells.set c' x')[b]? = some y∧tF (m.cells.set c x) I R a rZ y;by_cases e:c=a
  ·subst e;obtain rfl:=h.fn _ _ _ hi hc hr;exact ⟨x,x',List.getElem?_set_self l1,List.getElem?_set_self l2,.same hx⟩
  ·have e':c'≠b:=fun hh=>e (by subst hh;exact h.inj _ _ _ hc hr)
   rw [List.getElem?_set_ne e,List.getElem?_set_ne e'];obtain ⟨y,y',h1,h2,h3⟩:=h.cell a b hr;exact ⟨y,y',h1,h2,h3.mono (fun _ _ h=>h) hk⟩
 ·obtain ⟨y,hy,hv⟩:=h.val a ha;exact ⟨y,hk a y ha hy,hv⟩
theorem SR.cm (h:SR I z R bf m m') {c c':Nat} {x x':Cl} (hc:R c c') (hm:m.cells[c]? = some x) (hx:fZ R x x'):SR I z R bf m (m'.put c' x'):=by
 obtain ⟨l1,l2⟩:=h.lt hc;refine ⟨fun a b hr=>?_,h.inj,h.fn,h.aO,h.told,h.kind,h.stuck,h.val,h.nZ,by simpa [Rn.put] using h.lJ⟩;show ∃ rZ y,m.cells[a]? = some rZ∧(m'.cells.set c' x')[b]? = some y∧tF m.cells I R a rZ y;by_cases e':c'=b
 ·subst e';obtain rfl:=h.inj _ _ _ hc hr;exact ⟨x,x',hm,List.getElem?_set_self l2,.same hx⟩
 ·rw [List.getElem?_set_ne e'];exact h.cell a b hr
abbrev xf (R:Rl) (c c':Nat):Rl:=fun a b=>R a b∨(a=c∧b=c')
theorem pI {c c':Nat}:kQ R (xf R c c'):=fun _ _ h=>.inl h
theorem M5 {R':Rl} (hr:kQ R R') {m':Rn} (h:∃ fs,m'.aO=bf++fs∧cX (nY R I) m.aO fs):∃ fs,m'.aO=bf++fs∧cX (nY R' I) m.aO fs:=by
 obtain ⟨fs,h1,h2⟩:=h;exact ⟨fs,h1,wG (fun _ _ h=>h.mono hr) h2⟩
theorem SR.new (h:SR I z R bf m m') {x x':Cl} (hx:fZ R x x'):SR I z (xf R m.cells.length m'.cells.length) bf (m.new x) (m'.new x'):=by
 have hk:∀ a y,m.cells[a]? = some y→(m.cells++[x])[a]? = some y:=fun a y hy=>by
  rw [List.getElem?_append_left (List.getElem?_eq_some_iff.1 hy).1];exact hy
 have kZ:∀ a y,m'.cells[a]? = some y→(m'.cells++[x'])[a]? = some y:=fun a y hy=>by
  rw [List.getElem?_append_left (List.getElem?_eq_some_iff.1 hy).1];exact hy
 refine ⟨fun a b hr=>?_,fun a a' b h1 h2=>?_,fun a b b' hi h1 h2=>?_,M5 pI h.aO,h.told,h.kind,h.stuck,fun a ha=>?_,fun a b hr=>?_,?_⟩
 ·show ∃ rZ y,(m.cells++[x])[a]? = some rZ∧(m'.cells++[x'])[b]? = some y∧_;rcases hr with hr | ⟨rfl,rfl⟩
  ·obtain ⟨y,y',h1,h2,h3⟩:=h.cell a b hr;exact ⟨y,y',hk _ _ h1,kZ _ _ h2,h3.mono pI (fun a y _ hy=>hk a y hy)⟩
  ·exact ⟨x,x',by simp,by simp,.same (hx.mono pI)⟩
 ·rcases h1 with h1 | ⟨rfl,rfl⟩
  ·rcases h2 with h2 | ⟨rfl,rfl⟩
   ·exact h.inj _ _ _ h1 h2
   ·have:=(h.lt h1).2;omega
  ·rcases h2 with h2 | ⟨rfl,_⟩
   ·have:=(h.lt h2).2;omega
   ·rfl
 ·rcases h1 with h1 | ⟨rfl,rfl⟩
  ·rcases h2 with h2 | ⟨rfl,rfl⟩
   ·exact h.fn _ _ _ hi h1 h2
   ·have:=(h.lt h1).1;omega
  ·rcases h2 with h2 | ⟨_,rfl⟩
   ·have:=(h.lt h2).1;omega
   ·rfl
 ·obtain ⟨y,hy,hv⟩:=h.val a ha;exact ⟨y,hk _ _ hy,hv⟩
 ·rcases hr with hr | ⟨_,rfl⟩
  ·exact h.nZ _ _ hr
  ·have:=h.lJ;omega
 ·have:=h.lJ;show z < (m'.cells++[x']).length;simp;omega
theorem SR.VJ (h:SR I z R bf m m') {c:Nat} {x y:Cl} (hi:I c) (hm:m.cells[c]? = some x) (hx:tF m.cells I R c x y):SR I z (xf R c m'.cells.length) bf m (m'.new y):=by
 have kZ:∀ a u,m'.cells[a]? = some u→(m'.cells++[y])[a]? = some u:=fun a u hy=>by
  rw [List.getElem?_append_left (List.getElem?_eq_some_iff.1 hy).1];exact hy
 refine ⟨fun a b hr=>?_,fun a a' b h1 h2=>?_,fun a b b' hn h1 h2=>?_,M5 pI h.aO,h.told,h.kind,h.stuck,h.val,fun a b hr=>?_,?_⟩
 ·show ∃ rZ u,m.cells[a]? = some rZ∧(m'.cells++[y])[b]? = some u∧_;rcases hr with hr | ⟨rfl,rfl⟩
  ·obtain ⟨u,u',h1,h2,h3⟩:=h.cell a b hr;exact ⟨u,u',h1,kZ _ _ h2,h3.mono pI (fun a y _ hy=>hy)⟩
  ·exact ⟨x,y,hm,by simp,hx.mono pI (fun a y _ hy=>hy)⟩
 ·rcases h1 with h1 | ⟨rfl,rfl⟩
  ·rcases h2 with h2 | ⟨rfl,rfl⟩
   ·exact h.inj _ _ _ h1 h2
   ·have:=(h.lt h1).2;omega
  ·rcases h2 with h2 | ⟨rfl,_⟩
   ·have:=(h.lt h2).2;omega
   ·rfl
 ·rcases h1 with h1 | ⟨rfl,rfl⟩
  ·rcases h2 with h2 | ⟨rfl,rfl⟩
   ·exact h.fn _ _ _ hn h1 h2
   ·exact absurd hi hn
  ·exact absurd hi hn
 ·rcases hr with hr | ⟨_,rfl⟩
  ·exact h.nZ _ _ hr
  ·have:=h.lJ;omega
 ·have:=h.lJ;show z < (m'.cells++[y]).length;simp;omega
theorem SR.push (h:SR I z R bf m m') {f f':Fm} (hf:nY R I f f'):SR I z R bf (m.push f) (m'.push f'):=by
 obtain ⟨fs,h1,h2⟩:=h.aO;exact ⟨h.cell,h.inj,h.fn,⟨fs++[f'],by simp [Rn.push,h1],yY h2 ⟨hf,trivial⟩⟩,h.told,h.kind,h.stuck,h.val,h.nZ,h.lJ⟩
where
 yY {α β:Type} {P:α→β→Prop} {b:List α} {b':List β}:∀ {a:List α} {a':List β},cX P a a'→cX P b b'→cX P (a++b) (a'++b')
  | [],[],_,h=>h
  | x::a,y::a',h,h2=>⟨h.1,yY h.2 h2⟩
  | [],_::_,h,_=>h.elim
  | _::_,[],h,_=>h.elim
structure ER (m m':Rn):Prop where
 told:m'.told=m.told
 kind:m'.kind=m.kind
 stuck:m'.stuck=m.stuck
theorem SR.er (h:SR I z R bf m m'):ER m m':=⟨h.told,h.kind,h.stuck⟩
theorem ER.stop (h:ER m m') (k:Int):ER (m.stop k) (m'.stop k):=⟨h.told,rfl,rfl⟩
end
end
section
open Go Go.W
def tl (s:ByteArray):ByteArray:=s++⟨#[126]⟩
section
variable (σ:Nat→Nat)
structure Way (n:Nat):Prop where
 inj:∀ a b,σ a=σ b→a=b
 up:∀ a,n≤a→σ (a+1)=σ a+1
end
section
variable {σ:Nat→Nat} {n:Nat} (hw:Way σ n)
end
end
section
open Go Go.W
abbrev Rp (α:Type):=World→(Nat→Prop)→List Value→α→Prop
structure Elt {α:Type} (sz:Nat) (Pr:Rp α):Prop where
 len:∀ {w:World} {B:Nat→Prop} {r:List Value} {a:α},Pr w B r a→r.length=sz
 one:∀ {w:World} {B:Nat→Prop} {r:List Value} {a:α},Pr w B r a→∀ u∈r,u.oneCell'=true
 up:∀ {w w':World} {S B B':Nat→Prop} {r:List Value} {a:α},Pr w B r a→Mod S w w'→(∀ b,B b→¬ S b)→(∀ b,B b→B' b)→Pr w' B' r a
theorem ahv:Elt 12 (fun w B r d=>ic w B r d):=⟨fun h=>by
   obtain ⟨vp,tc,bc,rfl,l1,l2,h1,h2,h3,_⟩:=h
   simp [l1,l2],fun h=>h.one,fun h a b c=>h.up a b c⟩
theorem bE.ahw {w:World} {S S':Nat→Prop} {cs:List Value} {e:Ex} (h:bE w (Out S' w) cs e) (hs:∀ b,S b→S' b):bE w (Out S w) cs e:=h.up (.refl (fun _=>False) w) aC (fun b h=>⟨h.1,fun hh=>h.2 (hs b hh)⟩)
section
variable {α:Type} {S:Nat→Prop} {n0:Nat} {w w':World} {T sz:Nat} {v:Value} {Pr:Rp α} {l:List α} {fp:Option Nat}
end
end
section
open Go Go.W
theorem VK {P:Program} {N:Nat} {ρ:Go.W.Env} {w:World} {body:IR} {Q:Post} (len:Nat) (Inv:Nat→Go.W.Env→World→Prop) (h0:Inv 0 ρ w)
   (hs:∀ k ρ w,Inv k ρ w→k≤len→cH P N body (kW (fun aw w'=>k < len∧Inv (k+1) aw w') Q) ρ w):cH P N (.loop body) Q ρ w:=by
 refine fL (fun n ρ w=>∃ k,k+n=len∧Inv k ρ w) len ⟨0,by omega,h0⟩ ?_;rintro n ρ w ⟨k,hk,hI⟩;refine xz _ _ _ (Xy (a:=body) ?_) _ _ (hs k ρ w hI (by omega));rintro aw w' ⟨h1,h2⟩;exact ⟨len - (k+1),by omega,k+1,by omega,h2⟩
theorem VL {k n:Nat} (h:k < n) (hn:n≤1048576):IntKind.i64.wrap ((k:Int)+1)=((k+1:Nat):Int):=by
 rw [dv (by omega) (by omega)];rfl
end
section
open Go Go.W
abbrev mG (n:ByteArray) (b:Nat):List Value:=[I 4,.string n,I 0,.slice (some ⟨b,0,none⟩) 1 1,.slice none 0 0,.slice none 0 0,.slice none 0 0]
abbrev oX (b:Nat):List Value:=[I 5,.string bI,I 0,.slice none 0 0,.slice (some ⟨b,0,none⟩) 2 2,.slice none 0 0,.slice none 0 0]
theorem VM (n:ByteArray) (b:Nat):∀ u∈mG n b,u.oneCell'=true:=aS rfl (aS rfl (aS rfl (aS rfl (aS rfl (aS rfl (aS rfl dE))))))
theorem DF (b:Nat):∀ u∈oX b,u.oneCell'=true:=aS rfl (aS rfl (aS rfl (aS rfl (aS rfl (aS rfl (aS rfl dE))))))
theorem VN {w:World} {S:Nat→Prop} {b:Nat} (n:ByteArray) (hb:w.heap[b]? = some (.cells (fR 1 bI).toArray 42 (0,0))) (hS:¬ S b):bE w (Out S w) (mG n b) (rX n):=
 yV (mo (rows:=[fR 1 bI]) hb ⟨cO hb,hS⟩ ⟨rfl,trivial⟩ (by simp) ⟨oC _ _ 1 bI,trivial⟩) (ej _ _ _ _) (ej _ _ _ _) (ej _ _ _ _) (Nat.le_refl _)
theorem DG {w:World} {S:Nat→Prop} {b:Nat} {cf cx:List Value} {f x:Ex} (hb:w.heap[b]? = some (.cells ([cf,cx]:List (List Value)).flatten.toArray 47 (0,0))) (hS:¬ S b) (hf:bE w (Out S w) cf f) (hx:bE w (Out S w) cx x):bE w (Out S w) (oX b) (tE f x):=
 yV (ej _ _ _ _) (mo (rows:=[cf,cx]) hb ⟨cO hb,hS⟩ ⟨hf.len,hx.len,trivial⟩ (by simp) ⟨hf,hx,trivial⟩) (ej _ _ _ _) (ej _ _ _ _) (Nat.le_refl _)
theorem ahx {l:List Int} {v:Value} {w:World} (hi:o7 w v l) :
   a8 Tryz.prog 19 [v] w fun r w'=>(∃ cs,r = .agg (cs:List Value).toArray∧bE w' (Out (fun _=>False) w') cs (gJ l))∧Mod (fun _=>False) w w':=by
 obtain ⟨av,cv,rfl,hle,wQ⟩:=hi;refine YA.calls rfl ?_;unfold HP;refine dU (fun ρ w'=>Mod (fun _=>False) w w'∧w'.heap[w.heap.size]? = some (.cells xd.toArray 47 (0,0))∧ρ=[(0,.slice av l.length cv),(2,ptr w.heap.size)]) ?_ ?_
 ·(try simp only [go_sem,Nat.reduceAdd,Nat.reduceEqDiff,Nat.reduceLT,Nat.reduceLeDiff,Nat.reduceMul,reduceCtorEq,↓reduceIte]);refine cM ?_;intro w1 ar aj bC;(try simp only [go_sem,Nat.reduceAdd,Nat.reduceEqDiff,Nat.reduceLT,Nat.reduceLeDiff,Nat.reduceMul,reduceCtorEq,↓reduceIte]);exact ⟨aj,ar⟩
 rintro _ w1 ⟨DH,au,rfl⟩;have l2:=cO au;refine dU (fun ρ w'=>∃ b3 c3,w.heap.size < b3∧Mod (fun _=>False) w w'∧w'.heap[w.heap.size]? = some (.cells xd.toArray 47 (0,0))∧w'.heap[b3]? = some (.cells c3.toArray 47 (0,0))∧bE w' (Out (fun b=>b=w.heap.size∨b=b3) w') c3 (gJ [])∧ρ=[(0,.slice av l.length cv),(2,ptr w.heap.size),(3,ptr b3)]) ?_ ?_
 ·(try simp only [go_sem,Nat.reduceAdd,Nat.reduceEqDiff,Nat.reduceLT,Nat.reduceLeDiff,Nat.reduceMul,reduceCtorEq,↓reduceIte]);refine aI (by rfl) ?_;refine MK.mono ?_;rintro _ w2 ⟨rfl,ai⟩;(try simp only [go_sem,Nat.reduceAdd,Nat.reduceEqDiff,Nat.reduceLT,Nat.reduceLeDiff,Nat.reduceMul,reduceCtorEq,↓reduceIte]);refine fA (cs:=(fR 1 bI).toArray) rfl (by rfl) ?_;intro w3 aM aq eV;(try simp only [go_sem,Nat.reduceAdd,Nat.reduceEqDiff,Nat.reduceLT,Nat.reduceLeDiff,Nat.reduceMul,reduceCtorEq,↓reduceIte]);refine dp (n:=7) (vs:=mG kP w2.heap.size) rfl rfl (VM _ _) ?_;intro w4 ba aA eG;(try simp only [go_sem,Nat.reduceAdd,Nat.reduceEqDiff,Nat.reduceLT,Nat.reduceLeDiff,Nat.reduceMul,reduceCtorEq,↓reduceIte]);have z2:=ai.size;have z3:=aq.size;have Ab:=aA.at aM _root_.id;exact ⟨_,_,by omega,DH.trans (ai.trans (aq.trans aA)),(ai.trans (aq.trans aA)).at au _root_.id,ba,VN kP Ab (fun h=>by omega),rfl⟩
 clear DH au;rintro _ w2 ⟨b3,c3,l3,iz,au,aM,p9,rfl⟩;have l3':=cO aM;have e1:IntKind.i64.wrap ((l.length:Int) - 1)=(l.length:Int) - 1:=dv (by omega) (by omega);refine dU (fun ρ w'=>∃ cs,Mod (· = b3) w2 w'∧w'.heap[b3]? = some (.cells cs.toArray 47 (0,0))∧bE w' (Out (fun b=>b=w.heap.size∨b=b3) w') cs (gJ l)∧ρ.get 2=some (ptr w.heap.size)∧ρ.get 3=some (ptr b3)) ?_ ?_
 ·refine dU (fun ρ w'=>w2=w'∧ρ=[(0,.slice av l.length cv),(2,ptr w.heap.size),(3,ptr b3),(4,I ((l.length:Int) - 1))]) ?_ ?_
  ·(try simp only [go_sem,Nat.reduceAdd,Nat.reduceEqDiff,Nat.reduceLT,Nat.reduceLeDiff,Nat.reduceMul,reduceCtorEq,↓reduceIte,e1])
  rintro _ _ ⟨rfl,rfl⟩;refine LX ?_;refine VK l.length (fun j ρ w'=>∃ cs,j≤l.length∧Mod (· = b3) w2 w'∧w'.heap[b3]? = some (.cells cs.toArray 47 (0,0))∧bE w' (Out (fun b=>b=w.heap.size∨b=b3) w') cs (gJ (l.drop (l.length - j)))∧ρ=[(0,.slice av l.length cv),(2,ptr w.heap.size),(3,ptr b3),(4,I ((l.length:Int) - 1 - j))]) ⟨c3,by omega,.refl _ _,aM,by rw [Nat.sub_zero,List.drop_length];exact p9,by simp⟩ ?_;rintro j _ w4 ⟨cs,hj,aA,hb,he,rfl⟩ _;unfold OS;rcases Nat.lt_or_ge j l.length with aP | hge
  ·have q:decide ((l.length:Int) - 1 - j≥0)=true:=decide_eq_true (by omega);have ei:(l.length:Int) - 1 - j=((l.length - 1 - j:Nat):Int):=by omega
   obtain ⟨ad,rfl,hc⟩:=wQ (l.length - 1 - j) (by omega);have b1:(0:Int)≤((l.length - 1 - j:Nat):Int)∧((l.length - 1 - j:Nat):Int) < l.length:=by omega
   rw [ei] at q ⊢;(try simp only [go_sem,Nat.reduceAdd,Nat.reduceEqDiff,Nat.reduceLT,Nat.reduceLeDiff,Nat.reduceMul,reduceCtorEq,↓reduceIte,q]);refine aI (by rfl) ?_;refine MK.mono ?_;rintro _ w5 ⟨rfl,aD⟩;(try simp only [go_sem,Nat.reduceAdd,Nat.reduceEqDiff,Nat.reduceLT,Nat.reduceLeDiff,Nat.reduceMul,reduceCtorEq,↓reduceIte]);refine fA (cs:=(fR 1 bI).toArray) rfl (by rfl) ?_;intro w6 ci aJ gN;(try simp only [go_sem,Nat.reduceAdd,Nat.reduceEqDiff,Nat.reduceLT,Nat.reduceLeDiff,Nat.reduceMul,reduceCtorEq,↓reduceIte]);refine dp (n:=7) (vs:=mG di w5.heap.size) rfl rfl (VM _ _) ?_;intro w7 dq aN jX;have z2:=iz.size;have z4:=aA.size;have z5:=aD.size;have Gq:=aD.trans (aJ.trans aN);have mw4:Mod (fun _=>False) w w4:=iz.step aA (fun b hb hl=>by omega);have jf:=(mw4.trans Gq).cell hc _root_.id;have ie:bE w7 (Out (fun b=>b=w.heap.size∨b=b3) w7) (mG di w5.heap.size) (rX di):=VN di (aN.at ci _root_.id) (fun h=>by omega);have he7:=he.aB (an Gq);have Uu:=Gq.at hb _root_.id;have la:=lU jf;have l7:=cO dq;generalize hx:l[l.length - 1 - j]'(by omega)=x at jf;(try simp only [go_sem,Nat.reduceAdd,Nat.reduceEqDiff,Nat.reduceLT,Nat.reduceLeDiff,Nat.reduceMul,reduceCtorEq,↓reduceIte,bq,br,az (n:=7) dq rfl,b1,jf]);refine Oq (fun ρ w'=>∃ b6 A2,Mod (fun _=>False) w7 w'∧w'.heap[b6]? = some (.cells (oX A2).toArray 47 (0,0))∧bE w' (Out (fun b=>b=w.heap.size∨b=b3) w') (oX A2) (tE (rX di) (cV x))∧ρ.get 0=some (.slice (some ad) l.length cv)∧ρ.get 2=some (ptr w.heap.size)∧ρ.get 3=some (ptr b3)∧ρ.get 4=some (I ((l.length - 1 - j:Nat):Int))∧ρ.get 6=some (ptr b6)) ?_ ?_
   ·rw [BC];refine ⟨?_,?_⟩
    ·refine aI (by rfl) ?_;refine (Gj x).mono ?_;rintro _ w8 ⟨rfl,bg⟩;have bg:=bg.eF;have z8:=bg.size;(try simp only [go_sem,Nat.reduceAdd,Nat.reduceEqDiff,Nat.reduceLT,Nat.reduceLeDiff,Nat.reduceMul,reduceCtorEq,↓reduceIte]);refine ⟨bg.bN _ l7 _root_.id,?_⟩;rw [BC];refine ⟨?_,?_⟩
     ·refine fA (cs:=([mG di w5.heap.size,mD x]:List (List Value)).flatten.toArray) (ps:=partsOf 7 0 [mG di w5.heap.size,mD x]) (by rfl) (jC (sz:=7) [mG di w5.heap.size,mD x] [] _ ⟨rfl,rfl,trivial⟩ rfl) ?_;intro w9 tA aV gA;(try simp only [go_sem,Nat.reduceAdd,Nat.reduceEqDiff,Nat.reduceLT,Nat.reduceLeDiff,Nat.reduceMul,reduceCtorEq,↓reduceIte]);refine cM ?_;intro cT sb bJ pW;(try simp only [go_sem,Nat.reduceAdd,Nat.reduceEqDiff,Nat.reduceLT,Nat.reduceLeDiff,Nat.reduceMul,reduceCtorEq,↓reduceIte]);refine ⟨⟨bJ.bN _ (by omega) _root_.id,bJ.bN _ (by omega) _root_.id⟩,?_⟩;have tA:=bJ.at tA _root_.id;have gY:=bg.trans (aV.trans bJ);refine bL (vs:=oX w8.heap.size) (cs:=xd) rfl rfl sb rfl rfl (DF _) ?_;intro fD DI xg cZ;(try simp only [go_sem,Nat.reduceAdd,Nat.reduceEqDiff,Nat.reduceLT,Nat.reduceLeDiff,Nat.reduceMul,reduceCtorEq,↓reduceIte]);have gY:Mod (fun _=>False) w7 fD:=(gY).step xg (fun b hb hl=>by omega);exact ⟨_,_,gY,DI,DG (cf:=mG di w5.heap.size) (cx:=mD x) (xg.at tA (by omega)) (fun h=>by omega) (ie.aB (an gY)) (Dw x),rfl⟩
     ·refine cM ?_;intro w9 sb aV gA;(try simp only [go_sem,Nat.reduceAdd,Nat.reduceEqDiff,Nat.reduceLT,Nat.reduceLeDiff,Nat.reduceMul,reduceCtorEq,↓reduceIte]);refine ⟨⟨aV.bN _ (by omega) _root_.id,aV.bN _ (by omega) _root_.id⟩,?_⟩;refine fA (cs:=([mG di w5.heap.size,mD x]:List (List Value)).flatten.toArray) (ps:=partsOf 7 0 [mG di w5.heap.size,mD x]) (by rfl) (jC (sz:=7) [mG di w5.heap.size,mD x] [] _ ⟨rfl,rfl,trivial⟩ rfl) ?_;intro cT tA bJ pW;have sb:=bJ.at sb _root_.id;have gY:=bg.trans (aV.trans bJ);(try simp only [go_sem,Nat.reduceAdd,Nat.reduceEqDiff,Nat.reduceLT,Nat.reduceLeDiff,Nat.reduceMul,reduceCtorEq,↓reduceIte]);refine bL (vs:=oX w9.heap.size) (cs:=xd) rfl rfl sb rfl rfl (DF _) ?_;intro fD DI xg cZ;(try simp only [go_sem,Nat.reduceAdd,Nat.reduceEqDiff,Nat.reduceLT,Nat.reduceLeDiff,Nat.reduceMul,reduceCtorEq,↓reduceIte]);have gY:Mod (fun _=>False) w7 fD:=(gY).step xg (fun b hb hl=>by omega);exact ⟨_,_,gY,DI,DG (cf:=mG di w5.heap.size) (cx:=mD x) (xg.at tA (by omega)) (fun h=>by omega) (ie.aB (an gY)) (Dw x),rfl⟩
    ·refine cM ?_;intro w8 sb bg mR;have bg:=bg.eF;have mR:w8.heap.size=w7.heap.size+1:=mR;have z8:=bg.size;(try simp only [go_sem,Nat.reduceAdd,Nat.reduceEqDiff,Nat.reduceLT,Nat.reduceLeDiff,Nat.reduceMul,reduceCtorEq,↓reduceIte]);refine ⟨⟨bg.bN _ (by omega) _root_.id,bg.bN _ (by omega) _root_.id⟩,?_⟩;refine aI (by rfl) ?_;refine (Gj x).mono ?_;rintro _ w9 ⟨rfl,aV⟩;have z9:=aV.size;(try simp only [go_sem,Nat.reduceAdd,Nat.reduceEqDiff,Nat.reduceLT,Nat.reduceLeDiff,Nat.reduceMul,reduceCtorEq,↓reduceIte]);refine ⟨aV.bN _ (by omega) _root_.id,?_⟩;refine fA (cs:=([mG di w5.heap.size,mD x]:List (List Value)).flatten.toArray) (ps:=partsOf 7 0 [mG di w5.heap.size,mD x]) (by rfl) (jC (sz:=7) [mG di w5.heap.size,mD x] [] _ ⟨rfl,rfl,trivial⟩ rfl) ?_;intro cT tA bJ pW;have sb:=(aV.trans bJ).at sb _root_.id;have gY:=bg.trans (aV.trans bJ);(try simp only [go_sem,Nat.reduceAdd,Nat.reduceEqDiff,Nat.reduceLT,Nat.reduceLeDiff,Nat.reduceMul,reduceCtorEq,↓reduceIte]);refine bL (vs:=oX w9.heap.size) (cs:=xd) rfl rfl sb rfl rfl (DF _) ?_;intro fD DI xg cZ;(try simp only [go_sem,Nat.reduceAdd,Nat.reduceEqDiff,Nat.reduceLT,Nat.reduceLeDiff,Nat.reduceMul,reduceCtorEq,↓reduceIte]);have gY:Mod (fun _=>False) w7 fD:=(gY).step xg (fun b hb hl=>by omega);exact ⟨_,_,gY,DI,DG (cf:=mG di w5.heap.size) (cx:=mD x) (xg.at tA (by omega)) (fun h=>by omega) (ie.aB (an gY)) (Dw x),rfl⟩
   ·rintro ρ w8 ⟨b6,A2,bg,sb,Cb,g0,g2,g3,g4,g6⟩;have Mg:=bg.at Uu _root_.id;have he8:=he7.aB (an bg);have z8:=bg.size;(try simp only [go_sem,Nat.reduceAdd,Nat.reduceEqDiff,Nat.reduceLT,Nat.reduceLeDiff,Nat.reduceMul,reduceCtorEq,↓reduceIte,g0,g2,g3,g4,g6,az (n:=7) sb rfl,az (n:=7) Mg he.len]);refine fA (cs:=([oX A2,cs]:List (List Value)).flatten.toArray) (ps:=partsOf 7 0 [oX A2,cs]) (by rfl) (jC (sz:=7) [oX A2,cs] [] _ ⟨rfl,he.len,trivial⟩ rfl) ?_;intro w9 dL aV gA;(try simp only [go_sem,Nat.reduceAdd,Nat.reduceEqDiff,Nat.reduceLT,Nat.reduceLeDiff,Nat.reduceMul,reduceCtorEq,↓reduceIte]);refine bL (vs:=oX w8.heap.size) (cs:=cs) rfl rfl (aV.at Mg _root_.id) rfl he.len (DF _) ?_;intro cT gy bJ pW;have nP:=bg.trans aV;have k3:Mod (fun b=>b=w.heap.size∨b=b3) w9 cT:=bJ.aU (fun b h=>.inr h);have ahy:=bJ.at dL (by omega);have lj:l.length - (j+1)=l.length - 1 - j:=by omega
    refine ⟨aP,_,by omega,(aA.trans (an (Gq.trans nP))).trans bJ,gy,?_,?_⟩
    ·rw [lj,List.drop_eq_getElem_cons (by omega),show l.length - 1 - j+1=l.length - j by omega];rw [hx];exact DG (f:=tE (rX di) (cV x)) ahy (fun h=>by omega) ((Cb.aB (an aV)).aB k3) ((he8.aB (an aV)).aB k3)
    ·rw [dv (by omega) (by omega),show ((l.length - 1 - j:Nat):Int) - 1=(l.length:Int) - 1 - ((j+1:Nat):Int) by omega]
  ·have q:decide ((l.length:Int) - 1 - j≥0)=false:=decide_eq_false (by omega);obtain rfl:j=l.length:=by omega
   (try simp only [go_sem,Nat.reduceAdd,Nat.reduceEqDiff,Nat.reduceLT,Nat.reduceLeDiff,Nat.reduceMul,reduceCtorEq,↓reduceIte,q]);rw [Nat.sub_self,List.drop_zero] at he;exact ⟨_,aA,hb,he⟩
 rintro ρ w3 ⟨cs,aq,hb,he,g2,g3⟩;have au:=aq.at au (by omega);(try simp only [go_sem,Nat.reduceAdd,Nat.reduceEqDiff,Nat.reduceLT,Nat.reduceLeDiff,Nat.reduceMul,reduceCtorEq,↓reduceIte,g2,g3,az (n:=7) hb he.len]);refine bL (vs:=cs) (cs:=xd) g2 rfl au he.len rfl he.one ?_;intro w4 ba aA eG;(try simp only [go_sem,Nat.reduceAdd,Nat.reduceEqDiff,Nat.reduceLT,Nat.reduceLeDiff,Nat.reduceMul,reduceCtorEq,↓reduceIte,aE,RV.ev,az (n:=7) ba he.len,aF]);have h5:=he.aB (aA.aU (fun b h=>.inl h));exact ⟨⟨_,rfl,h5.ahw (fun b h=>h.elim)⟩,(iz.step aq (fun b hb hl=>by omega)).step aA (fun b hb hl=>by omega)⟩
end
section
open Go Go.W
structure ahz (σ:Nat→Nat) (X X':Cx):Prop where
 fuel:X'.fuel=X.fuel
 fields:X'.fields=X.fields
 ak:∀ g c,aG X.ak g=some c→aG X'.ak g=some (σ c)
section
variable {σ:Nat→Nat} {n:Nat} {X X':Cx} (hw:Way σ n) (hX:ahz σ X X')
include hw
include hX
omit hX
include hX
omit hw in
end
end
section
open Go Go.W
def sig (n c:Nat):Nat:=if c < n then n - 1 - c else c+1
theorem Gr:∀ (l:List Df) (i:Nat) (m:List (ByteArray×Nat)) (g:ByteArray),(l.map Df.name).Nodup→aG (mA l i m) g=match l.findIdx? (fun d=>decide (d.name=g)) with
   | some j=>some (i+j)
   | none=>aG m g
 | [],i,m,g,_=>by simp [mA]
 | d::l,i,m,g,h=>by
  rw [List.map_cons,List.nodup_cons] at h;rw [mA,Gr l (i+1) _ g h.2,List.findIdx?_cons,jE];by_cases hd:d.name=g
  ·have hn:l.findIdx? (fun d=>decide (d.name=g))=none:=by
    rw [List.findIdx?_eq_none_iff];intro x hx;refine decide_eq_false (fun e=>h.1 ?_);rw [hd,← e];exact List.mem_map_of_mem hx
   rw [hn];simp [hd]
  ·simp only [hd,decide_false,if_false,Bool.false_eq_true];cases l.findIdx? (fun d=>decide (d.name=g)) with
   | none=>simp
   | some j=>simp only [Option.map_some];congr 1;omega
theorem VO {l:List Df} {g:ByteArray} (hn:(l.map Df.name).Nodup) {j:Nat} {d:Df} (hj:l[j]? = some d) (hd:d.name=g):l.findIdx? (fun d=>decide (d.name=g))=some j:=by
 obtain ⟨aP,rfl⟩:=List.getElem?_eq_some_iff.1 hj;rw [List.findIdx?_eq_some_iff_getElem];refine ⟨aP,by simpa using hd,fun i hi=>?_⟩;simp only [decide_eq_true_eq];intro e;have h1:=List.pairwise_iff_getElem.1 hn i j (by simp;omega) (by simpa using aP) hi;simp only [List.getElem_map] at h1;exact h1 (e.trans hd.symm)
section
variable {σ:Nat→Nat} {n:Nat} (hw:Way σ n)
include hw
end
end
section
open Go Go.W
theorem VP:∀ (l:List Df) {E E':Env},fG l E = .ok E'→(l.map Df.name).Nodup∧∀ d∈l,aG E.ak d.name=none
 | [],E,E',_=>⟨List.nodup_nil,fun d hd=>by cases hd⟩
 | d::l,E,E',h=>by
  rw [fG] at h
  split at h
  ·cases h
  ·rename_i E1 h1;obtain ⟨i1,i2⟩:=VP l h;have jZ:=h1;unfold nO at jZ
   split at jZ
   ·cases jZ
   ·rename_i hc
    split at jZ
    ·cases jZ
    ·split at jZ
     ·cases jZ
     ·cases jZ;have hn:aG E.ak d.name=none:=by
       cases hg:aG E.ak d.name with
       | none=>rfl
       | some x=>rw [hg] at hc;simp at hc
      have key:∀ x∈l,d.name≠x.name∧aG E.ak x.name=none:=fun x hx=>by
       have:=i2 x hx;rw [jE] at this;by_cases e:d.name=x.name
       ·rw [if_pos e] at this;cases this
       ·rw [if_neg e] at this;exact ⟨e,this⟩
      refine ⟨?_,fun x hx=>?_⟩
      ·rw [List.map_cons,List.nodup_cons];refine ⟨fun hm=>?_,i1⟩;obtain ⟨x,hx,e⟩:=List.mem_map.1 hm;exact (key x hx).1 e.symm
      ·rcases List.mem_cons.1 hx with rfl | hx
       ·exact hn
       ·exact (key x hx).2
theorem M6 {p:Pg} (h:im p=0):(p.ak.map Df.name).Nodup:=by
 obtain ⟨E,hE⟩:=Gb h;obtain ⟨E1,_,h2,_⟩:=Ga hE;exact (VP _ h2).1
theorem Gs {f:Ty→Option Bool} {g:ByteArray}:∀ (l:List Df) {d:Df},(l.map Df.name).Nodup→d∈l→d.name=g→nU f g l=if 0 < d.params.length then some (false,false) else (f (jk d).1).map (fun b=>((jk d).2,b))
 | x::l,d,hn,hd,hg=>by
  rw [List.map_cons,List.nodup_cons] at hn;rw [nU];rcases List.mem_cons.1 hd with rfl | hd
  ·rw [if_neg (by simpa using hg)]
  ·have hx:x.name≠g:=fun e=>hn.1 (by rw [e,← hg];exact List.mem_map_of_mem hd)
   rw [if_pos hx];exact Gs l hn.2 hd hg
end
section
open Go Go.W
abbrev M7:List Value:=[.string bI,.slice none 0 0,I 0,.string bI,.slice none 0 0,I 0,.string bI,I 0,.slice none 0 0,.slice none 0 0,.slice none 0 0,.slice none 0 0]
end
section
open Go Go.W
def Reach (X:Cx) (md:Md) (m:Rn) (md':Md) (m':Rn):Prop:=∀ n r,cF X n md' m'=some r→∃ n',cF X n' md m=some r
section
variable {X:Cx} {md md' Gt:Md} {m m' m2:Rn}
theorem Reach.refl:Reach X md m md m:=fun n r h=>⟨n,h⟩
theorem Reach.trans (h:Reach X md m md' m') (h2:Reach X md' m' Gt m2):Reach X md m Gt m2:=fun n r hr=>by
 obtain ⟨n',h'⟩:=h2 n r hr;exact h n' r h'
theorem Reach.go {e:Ex} {v:cr} (hs:m.steps≠X.fuel) (h:iS X e v { m with steps:=m.steps+1}=some (some md',m')):Reach X (.go e v) m md' m':=fun n r hr=>⟨n+1,by
 have h2:fi X m=(true,{ m with steps:=m.steps+1}):=by unfold fi;rw [if_neg hs]
 rw [cF,h2,if_neg (by simp)];simp only [h]
 exact hr⟩
theorem Reach.val {x:Cl} {f:Fm} (hf:m.aO.getLast? = some f) (h:iT f x { m with aO:=m.aO.dropLast}=some (some md',m')):Reach X (.val x) m md' m':=fun n r hr=>⟨n+1,by
 rw [cF,hf];simp only [h]
 exact hr⟩
end
abbrev Cx.at (X:Cx) (G:Int):Cx:={ X with fuel:=G}
def uU (m:Rn) (l:List Cl) (k:Int):Rn:={ m with cells:=m.cells++l,steps:=m.steps+k}
theorem ahA {X:Cx} {m:Rn} {f:Fm} {k:Int} {l:List Int} {v:cr} (hC:(aG X.fields di).getD 0=2) (hG:m.steps+3≤X.fuel) :
   Reach X (.go (gJ (k::l)) v) (m.push f) (.val (.aZ di [m.cells.length,m.cells.length+1])) ((uU m [.wait (cV k) v,.wait (gJ l) v] 3).push f):=by
 refine (Reach.go (md':=.go (tE (rX di) (cV k)) v) (m':=({ m with steps:=m.steps+1}.push f).push (.app (gJ (k::l)) v)) ?_ rfl).trans ?_
 ·show m.steps≠X.fuel;omega
 refine (Reach.go (md':=.go (rX di) v) (m':=(({ m with steps:=m.steps+1+1}.push f).push (.app (gJ (k::l)) v)).push (.app (tE (rX di) (cV k)) v)) ?_ rfl).trans ?_
 ·show m.steps+1≠X.fuel;omega
 refine (Reach.go (md':=.val (.eB di 2 [])) (m':=(({ m with steps:=m.steps+1+1+1}.push f).push (.app (gJ (k::l)) v)).push (.app (tE (rX di) (cV k)) v)) ?_ ?_).trans ?_
 ·show m.steps+1+1≠X.fuel;omega
 ·show some (some (Md.val (kL di ((aG X.fields di).getD 0) [])),_)=_;rw [hC];rfl
 refine (Reach.val (md':=.val (.eB di 1 [m.cells.length])) (f:=.app (tE (rX di) (cV k)) v) (m':=({ m with steps:=m.steps+1+1+1,cells:=m.cells++[Cl.wait (cV k) v]}.push f).push (.app (gJ (k::l)) v)) (by simp [Rn.push]) ?_).trans ?_
 ·simp only [Rn.push,List.dropLast_concat];rfl
 refine (Reach.val (md':=.val (.aZ di [m.cells.length,m.cells.length+1])) (f:=.app (gJ (k::l)) v) (m':={ m with steps:=m.steps+1+1+1,cells:=m.cells++[Cl.wait (cV k) v]++[Cl.wait (gJ l) v]}.push f) (by simp [Rn.push]) ?_).trans ?_
 ·simp only [Rn.push,List.dropLast_concat];show some (some (Md.val (kL di (Wr (1 - 1)) ([m.cells.length]++[(m.cells++[Cl.wait (cV k) v]).length]))),_)=_;rw [List.length_append];rfl
 ·have e:({ m with steps:=m.steps+1+1+1,cells:=m.cells++[Cl.wait (cV k) v]++[Cl.wait (gJ l) v]}:Rn)=uU m [.wait (cV k) v,.wait (gJ l) v] 3:=by
   unfold uU;rw [List.append_assoc,Int.add_assoc,Int.add_assoc];rfl
  rw [e];exact .refl
theorem M8 {X:Cx} {m:Rn} {x:Cl} {c:Nat}:Reach X (.val x) (m.push (.dz c)) (.val x) (m.put c x):=by
 refine Reach.val (f:=.dz c) (by simp [Rn.push]) ?_;simp only [Rn.push,List.dropLast_concat];rfl
inductive sd (X:Cx) (I:Nat→Prop) (z:Nat) (R:Rl) (bf:List Fm) (s0:Int):R3→R3→Prop
 | on {md tG md':Md} {m1 dZ mH:Rn} {R':Rl} (hR:kQ R R') (hm:DE R' md md') (hs:SR I z R' bf m1 mH) (bz:s0≤mH.steps) (hr:∀ G,mH.steps≤G→Reach (X.at G) tG dZ md' mH):sd X I z R bf s0 (some md,m1) (some tG,dZ)
 | off {m1 dZ:Rn} (h:ER m1 dZ) (bz:dZ.steps=s0):sd X I z R bf s0 (none,m1) (none,dZ)
structure tH (X X':Cx) (R:Rl):Prop where
 fields:X'.fields=X.fields
 cons:(aG X.fields di).getD 0=2
 nil:(aG X.fields kP).getD 0=0
 ak:∀ g c,aG X.ak g=some c→∃ c',aG X'.ak g=some c'∧R c c'
section
variable {X X':Cx} {I:Nat→Prop} {z:Nat} {R:Rl} {bf:List Fm} {m m':Rn}
theorem tH.mono {R':Rl} (h:tH X X' R) (hr:kQ R R'):tH X X' R':=⟨h.fields,h.cons,h.nil,fun g c hg=>by
 obtain ⟨c',h1,h2⟩:=h.ak g c hg
 exact ⟨c',h1,hr _ _ h2⟩⟩
theorem iB {md md':Md} {m1 dZ:Rn} {s0:Int} {R':Rl} (hR:kQ R R') (hm:DE R' md md') (hs:SR I z R' bf m1 dZ) (bz:s0≤dZ.steps):sd X' I z R bf s0 (some md,m1) (some md',dZ):=.on hR hm hs bz (fun _ _=>.refl)
theorem ahB (m:Rn) (c:Nat) (x y:Cl):(m.put c x).put c y=m.put c y:=by
 unfold Rn.put;simp
theorem ahC (m:Rn) (c:Nat) (hc:c < m.cells.length) (x:Cl) (l:List Cl) (k:Int):uU (m.put c x) l k=(uU m l k).put c x:=by
 unfold Rn.put uU;simp only [List.set_append,if_pos hc]
theorem M9 (hX:tH X X' R) (h:SR I z R bf m m') {c c':Nat} (hr:R c c'):sd X' I z R bf m'.steps (dC m c) (dC m' c'):=by
 obtain ⟨x,y,hx,hy,hc⟩:=h.cell c c' hr;obtain ⟨l1,l2⟩:=h.lt hr;have gn:kQ R R:=fun _ _ h=>h
 cases hc with
 | same iZ=>
  unfold dC;rw [hx,hy];cases iZ with
  | num n=>exact iB gn (.val (.num n)) h (Int.le_refl _)
  | aZ n hf=>exact iB gn (.val (.aZ n hf)) h (Int.le_refl _)
  | fw e hf=>exact iB gn (.val (.fw e hf)) h (Int.le_refl _)
  | eB n l hf=>exact iB gn (.val (.eB n l hf)) h (Int.le_refl _)
  | wait e hf=>
   have hi:¬ I c:=fun hi=>by
    obtain ⟨u,hu,hv⟩:=h.val c hi;rw [hx] at hu;cases hu;cases hv
   exact iB gn (.go e hf) ((h.put hr hi .busy).push (.dz hr hi)) (Int.le_refl _)
  | busy=>exact .off (h.er.stop 4) rfl
  | emp=>exact .off (h.er.stop 4) rfl
 | @list _ l v hl=>
  have hB:dC m' c'=(some (.go (gJ l) v),(m'.put c' .busy).push (.dz c')):=by unfold dC;rw [hy]
  rw [hB];cases hl with
  | nil hi hn=>
   rw [hx] at hn;cases hn;have hA:dC m c=(some (.val (.aZ kP [])),m):=by unfold dC;rw [hx]
   rw [hA];have jY:fZ R (.aZ kP []) (.aZ kP []):=.aZ kP trivial;have hs:=h.cm hr hx jY;refine .on (mH:={ m'.put c' (.aZ kP []) with steps:=m'.steps+1}) gn (.val jY) ⟨hs.cell,hs.inj,hs.fn,hs.aO,hs.told,hs.kind,hs.stuck,hs.val,hs.nZ,hs.lJ⟩ (by show m'.steps≤m'.steps+1;omega) (fun G hG=>?_);have hG:m'.steps+1≤G:=hG;refine (Reach.go (md':=.val (.aZ kP [])) (m':=({ m'.put c' .busy with steps:=m'.steps+1}:Rn).push (.dz c')) (show m'.steps≠G by omega) ?_).trans (M8.trans ?_)
   ·show some (some (Md.val (kL kP ((aG X'.fields kP).getD 0) [])),_)=_;rw [hX.fields,hX.nil];rfl
   ·rw [show ({ m'.put c' .busy with steps:=m'.steps+1}:Rn).put c' (.aZ kP []) = { m'.put c' (.aZ kP []) with steps:=m'.steps+1} by unfold Rn.put;simp];exact .refl
  | @cons _ hd tl k l hi ie qk hk ht=>
   rw [hx] at ie;cases ie;have hA:dC m c=(some (.val (.aZ di [hd,tl])),m):=by unfold dC;rw [hx]
   rw [hA];have h1:=h.VJ (y:=.wait (cV k) v) qk hk (.num qk);obtain ⟨xt,hxt,_⟩:=h.val tl ht.M4;have h2:=h1.VJ (y:=.wait (gJ l) v) ht.M4 hxt (.list ht);have e1:((m'.new (.wait (cV k) v)).new (.wait (gJ l) v)).cells=m'.cells++[.wait (cV k) v,.wait (gJ l) v]:=by simp [Rn.new]
   have el:(m'.new (.wait (cV k) v)).cells.length=m'.cells.length+1:=by simp [Rn.new]
   rw [el] at h2;have jY:fZ (xf (xf R hd m'.cells.length) tl (m'.cells.length+1)) (.aZ di [hd,tl]) (.aZ di [m'.cells.length,m'.cells.length+1]):=.aZ di ⟨.inl (.inr ⟨rfl,rfl⟩),.inr ⟨rfl,rfl⟩,trivial⟩;have hs:=h2.cm (.inl (.inl hr)) hx jY;refine .on (mH:=(uU m' [.wait (cV k) v,.wait (gJ l) v] 3).put c' (.aZ di [m'.cells.length,m'.cells.length+1])) (fun _ _ hh=>.inl (.inl hh)) (.val jY) ?_ (by show m'.steps≤m'.steps+3;omega) (fun G hG=>?_)
   ·have e2:((uU m' [.wait (cV k) v,.wait (gJ l) v] 3).put c' (.aZ di [m'.cells.length,m'.cells.length+1])) = { ((m'.new (.wait (cV k) v)).new (.wait (gJ l) v)).put c' (.aZ di [m'.cells.length,m'.cells.length+1]) with steps:=m'.steps+3}:=by
     unfold Rn.put uU;rw [e1];rfl
    rw [e2];exact ⟨hs.cell,hs.inj,hs.fn,hs.aO,hs.told,hs.kind,hs.stuck,hs.val,hs.nZ,hs.lJ⟩
   ·have hG:m'.steps+3≤G:=hG;have key:=ahA (X:=X'.at G) (m:=m'.put c' .busy) (f:=.dz c') (k:=k) (l:=l) (v:=v) (by show (aG X'.fields di).getD 0=2;rw [hX.fields];exact hX.cons) hG;have el2:(m'.put c' .busy).cells.length=m'.cells.length:=by simp [Rn.put]
    rw [el2] at key;refine key.trans (M8.trans ?_);rw [ahC _ _ l2,ahB];exact .refl
 | @num k v hi=>
  have hB:dC m' c'=(some (.go (cV k) v),(m'.put c' .busy).push (.dz c')):=by unfold dC;rw [hy]
  have hA:dC m c=(some (.val (.num k)),m):=by unfold dC;rw [hx]
  rw [hA,hB];have hs:=h.cm hr hx (.num k);refine .on (mH:={ m'.put c' (.num k) with steps:=m'.steps+1}) gn (.val (.num k)) ⟨hs.cell,hs.inj,hs.fn,hs.aO,hs.told,hs.kind,hs.stuck,hs.val,hs.nZ,hs.lJ⟩ (by show m'.steps≤m'.steps+1;omega) (fun G hG=>?_);have hG:m'.steps+1≤G:=hG;refine (Reach.go (md':=.val (.num k)) (m':=({ m'.put c' .busy with steps:=m'.steps+1}:Rn).push (.dz c')) (show m'.steps≠G by omega) rfl).trans (M8.trans ?_);rw [show ({ m'.put c' .busy with steps:=m'.steps+1}:Rn).put c' (.num k) = { m'.put c' (.num k) with steps:=m'.steps+1} by unfold Rn.put;simp];exact .refl
end
end
section
open Go Go.W
theorem VQ {α β:Type} {P:α→β→Prop} {l:List α} {l':List β} (h:cX P l l'):l.length=l'.length:=h.at.1
theorem M' {α β:Type} {P:α→β→Prop}:∀ {l:List α} {x:α} {l':List β},cX P (l++[x]) l'→∃ k y,l'=k++[y]∧cX P l k∧P x y
 | [],x,[y],h=>⟨[],y,rfl,trivial,h.1⟩
 | [],x,[],h=>h.elim
 | [],x,y::z::l',h=>h.2.elim
 | a::l,x,[],h=>h.elim
 | a::l,x,y::l',h=>by
  obtain ⟨k,u,e,h1,h2⟩:=M' h.2;exact ⟨y::k,u,by rw [e];rfl,⟨h.1,h1⟩,h2⟩
theorem VR {R:Rl}:∀ (bs:List Bd) (i i':Nat) {v v':cr},jJ R v v'→(∀ j,j < bs.length→R (i+j) (i'+j))→jJ R (jG bs i v) (jG bs i' v')
 | [],i,i',v,v',h,_=>h
 | b::bs,i,i',v,v',h,hr=>by
  rw [jG,jG];refine VR bs (i+1) (i'+1) (v:=(b.name,i)::v) (v':=(b.name,i')::v') ⟨⟨rfl,hr 0 (by simp)⟩,h⟩ (fun j hj=>?_);have:=hr (j+1) (by simp;omega)
  rwa [show i+1+j=i+(j+1) by omega,show i'+1+j=i'+(j+1) by omega]
theorem VS {R:Rl}:∀ (l:List ByteArray) {fs ix:List Nat} {v v' u:cr},cX R fs ix→jJ R v v'→jH l fs v=some u→∃ u',jH l ix v'=some u'∧jJ R u u'
 | [],fs,ix,v,v',u,_,h,hb=>by rw [jH] at hb;cases hb;exact ⟨v',by rw [jH],h⟩
 | s::l,c::fs,c'::ix,v,v',u,hf,h,hb=>by
  rw [jH] at hb ⊢;exact VS l (v:=(s,c)::v) (v':=(s,c')::v') hf.2 ⟨⟨rfl,hf.1⟩,h⟩ hb
 | s::l,[],ix,v,v',u,hf,h,hb=>by rw [jH] at hb;cases hb
 | s::l,c::fs,[],v,v',u,hf,h,hb=>hf.elim
abbrev DJ (R:Rl) (n n' k:Nat):Rl:=fun a b=>R a b∨∃ i,i < k∧a=n+i∧b=n'+i
section
variable {X X':Cx} {I:Nat→Prop} {z:Nat} {R:Rl} {bf:List Fm} {m m':Rn}
theorem Gu {n n' k:Nat}:kQ R (DJ R n n' k):=fun _ _ h=>.inl h
theorem SR.app (h:SR I z R bf m m') {l l':List Cl} (hl:l.length=l'.length) (hx:∀ (i:Nat) (x y:Cl),l[i]? = some x→l'[i]? = some y→fZ (DJ R m.cells.length m'.cells.length l.length) x y) :
   SR I z (DJ R m.cells.length m'.cells.length l.length) bf { m with cells:=m.cells++l} { m' with cells:=m'.cells++l'}:=by
 have hk:∀ a y,m.cells[a]? = some y→(m.cells++l)[a]? = some y:=fun a y hy=>by
  rw [List.getElem?_append_left (List.getElem?_eq_some_iff.1 hy).1];exact hy
 have kZ:∀ a y,m'.cells[a]? = some y→(m'.cells++l')[a]? = some y:=fun a y hy=>by
  rw [List.getElem?_append_left (List.getElem?_eq_some_iff.1 hy).1];exact hy
 refine ⟨fun a b hr=>?_,fun a a' b h1 h2=>?_,fun a b b' hi h1 h2=>?_,M5 Gu h.aO,h.told,h.kind,h.stuck,fun a ha=>?_,fun a b hr=>?_,?_⟩
 ·show ∃ rZ y,(m.cells++l)[a]? = some rZ∧(m'.cells++l')[b]? = some y∧_;rcases hr with hr | ⟨i,hi,rfl,rfl⟩
  ·obtain ⟨y,y',h1,h2,h3⟩:=h.cell a b hr;exact ⟨y,y',hk _ _ h1,kZ _ _ h2,h3.mono Gu (fun a y _ hy=>hk a y hy)⟩
  ·have e1:=List.getElem?_eq_getElem hi;have e2:=List.getElem?_eq_getElem (show i < l'.length by omega);refine ⟨l[i],l'[i]'(by omega),?_,?_,.same (hx i _ _ e1 e2)⟩
   ·rw [List.getElem?_append_right (by omega),Nat.add_sub_cancel_left,e1]
   ·rw [List.getElem?_append_right (by omega),Nat.add_sub_cancel_left,e2]
 ·rcases h1 with h1 | ⟨i,_,rfl,rfl⟩
  ·rcases h2 with h2 | ⟨i,_,rfl,rfl⟩
   ·exact h.inj _ _ _ h1 h2
   ·have:=(h.lt h1).2;omega
  ·rcases h2 with h2 | ⟨j,_,rfl,e⟩
   ·have:=(h.lt h2).2;omega
   ·omega
 ·rcases h1 with h1 | ⟨i,_,rfl,rfl⟩
  ·rcases h2 with h2 | ⟨i,_,rfl,rfl⟩
   ·exact h.fn _ _ _ hi h1 h2
   ·have:=(h.lt h1).1;omega
  ·rcases h2 with h2 | ⟨j,_,e,rfl⟩
   ·have:=(h.lt h2).1;omega
   ·omega
 ·obtain ⟨y,hy,hv⟩:=h.val a ha;exact ⟨y,hk _ _ hy,hv⟩
 ·rcases hr with hr | ⟨i,_,_,rfl⟩
  ·exact h.nZ _ _ hr
  ·have:=h.lJ;omega
 ·have:=h.lJ;show z < (m'.cells++l').length;simp;omega
theorem VU {n:ByteArray} {l:Int} {fs ix:List Nat} (h:cX R fs ix):fZ R (kL n l fs) (kL n l ix):=by
 unfold kL
 split
 ·exact .aZ n h
 ·exact .eB n l h
theorem SR.steps (h:SR I z R bf m m') (k k':Int):SR I z R bf { m with steps:=k} { m' with steps:=k'}:=⟨h.cell,h.inj,h.fn,h.aO,h.told,h.kind,h.stuck,h.val,h.nZ,h.lJ⟩
theorem VV {e:Ex} {v v':cr} {r:R3} (hX:tH X X' R) (h:SR I z R bf m m') (hv:jJ R v v') (hr:iS X e v m=some r):∃ r',iS X' e v' m'=some r'∧sd X' I z R bf m'.steps r r':=by
 have gn:kQ R R:=fun _ _ h=>h
 unfold iS at hr ⊢;by_cases k1:e.kind=1
 ·rw [if_pos k1] at hr ⊢;obtain ⟨c,hc,rfl⟩:=Option.map_eq_some_iff.1 hr;obtain ⟨c',h1,h2⟩:=hv.find hc;rw [h1];exact ⟨_,rfl,M9 hX h h2⟩
 rw [if_neg k1] at hr ⊢;by_cases k3:e.kind=3
 ·rw [if_pos k3] at hr ⊢;obtain ⟨c,hc,rfl⟩:=Option.map_eq_some_iff.1 hr;obtain ⟨c',h1,h2⟩:=hX.ak _ _ hc;rw [h1];exact ⟨_,rfl,M9 hX h h2⟩
 rw [if_neg k3] at hr ⊢;by_cases k2:e.kind=2
 ·rw [if_pos k2] at hr ⊢;cases hr;exact ⟨_,rfl,iB gn (.val (.num _)) h (Int.le_refl _)⟩
 rw [if_neg k2] at hr ⊢;by_cases k4:e.kind=4
 ·rw [if_pos k4] at hr ⊢;cases hr;rw [hX.fields];exact ⟨_,rfl,iB gn (.val (VU trivial)) h (Int.le_refl _)⟩
 rw [if_neg k4] at hr ⊢;by_cases k6:e.kind=6
 ·rw [if_pos k6] at hr ⊢;cases hr;exact ⟨_,rfl,iB gn (.val (.fw e hv)) h (Int.le_refl _)⟩
 rw [if_neg k6] at hr ⊢;by_cases wI:e.kind=12
 ·rw [if_pos wI] at hr ⊢;cases hr;exact ⟨_,rfl,.off (h.er.stop _) rfl⟩
 rw [if_neg wI] at hr ⊢;by_cases k7:e.kind=7
 ·rw [if_pos k7] at hr ⊢
  split at hr
  ·cases hr
  ·rename_i x xs hx;cases hr;have hb:∀ j,j < e.binds.length→DJ R m.cells.length m'.cells.length e.binds.length (m.cells.length+j) (m'.cells.length+j):=fun j hj=>.inr ⟨j,hj,rfl,rfl⟩
   have hn:=VR e.binds m.cells.length m'.cells.length (R:=DJ R m.cells.length m'.cells.length e.binds.length) (hv.mono Gu) hb
   have key:=h.app (l:=e.binds.map (fun b=>Cl.wait b.value (jG e.binds m.cells.length v))) (l':=e.binds.map (fun b=>Cl.wait b.value (jG e.binds m'.cells.length v'))) (by simp) (fun i x y h1 h2=>by
    rw [List.getElem?_map] at h1 h2;obtain ⟨b,ar,rfl⟩:=Option.map_eq_some_iff.1 h1;rw [ar] at h2;cases h2;rw [List.length_map]
    exact .wait _ hn)
   rw [List.length_map] at key;exact ⟨_,rfl,iB Gu (.go _ hn) key (Int.le_refl _)⟩
 rw [if_neg k7] at hr ⊢;by_cases wJ:e.kind=11
 ·rw [if_pos wJ] at hr ⊢
  split at hr
  ·cases hr
  ·cases hr;exact ⟨_,rfl,iB gn (.go _ hv) (h.push (.lD e hv)) (Int.le_refl _)⟩
 rw [if_neg wJ] at hr ⊢
 split at hr
 ·cases hr
 ·rename_i x xs hx;cases hr;by_cases k5:e.kind=5
  ·rw [if_pos k5,if_pos k5];exact ⟨_,rfl,iB gn (.go _ hv) (h.push (.app e hv)) (Int.le_refl _)⟩
  rw [if_neg k5,if_neg k5];by_cases k8:e.kind=8
  ·rw [if_pos k8,if_pos k8];exact ⟨_,rfl,iB gn (.go _ hv) (h.push (.lC e hv)) (Int.le_refl _)⟩
  rw [if_neg k8,if_neg k8];by_cases k9:e.kind=9
  ·rw [if_pos k9,if_pos k9];exact ⟨_,rfl,iB gn (.go _ hv) (h.push (.fst e hv)) (Int.le_refl _)⟩
  rw [if_neg k9,if_neg k9];by_cases tp:e.kind=10
  ·rw [if_pos tp,if_pos tp];exact ⟨_,rfl,iB gn (.go _ hv) (h.push (.seq e hv)) (Int.le_refl _)⟩
  rw [if_neg tp,if_neg tp];exact ⟨_,rfl,iB gn (.go _ hv) h (Int.le_refl _)⟩
theorem yY {α β:Type} {P:α→β→Prop} {b:List α} {b':List β}:∀ {a:List α} {a':List β},cX P a a'→cX P b b'→cX P (a++b) (a'++b')
 | [],[],_,h=>h
 | x::a,y::a',h,h2=>⟨h.1,yY h.2 h2⟩
 | [],_::_,h,_=>h.elim
 | _::_,[],h,_=>h.elim
theorem VW {f f':Cl} {c c':Nat} {r:R3} (h:SR I z R bf m m') (hf:fZ R f f') (hc:R c c') (hr:lE m f c=some r):∃ r',lE m' f' c'=some r'∧sd X' I z R bf m'.steps r r':=by
 have gn:kQ R R:=fun _ _ h=>h
 unfold lE at hr ⊢;cases hf with
 | fw e hv=>
  simp only at hr ⊢
  split at hr
  ·cases hr;exact ⟨_,rfl,iB gn (.go _ ⟨⟨rfl,hc⟩,hv⟩) h (Int.le_refl _)⟩
  ·cases hr
 | eB n l hv=>
  simp only at hr ⊢
  split at hr
  ·rename_i aP;cases hr;rw [if_pos (by rw [← VQ hv];exact aP)];exact ⟨_,rfl,iB gn (.val (VU (yY hv ⟨hc,trivial⟩))) h (Int.le_refl _)⟩
  ·cases hr
 | num n=>cases hr;exact ⟨_,rfl,.off (h.er.stop 5) rfl⟩
 | aZ n hv=>cases hr;exact ⟨_,rfl,.off (h.er.stop 5) rfl⟩
 | wait e hv=>cases hr;exact ⟨_,rfl,.off (h.er.stop 5) rfl⟩
 | busy=>cases hr;exact ⟨_,rfl,.off (h.er.stop 5) rfl⟩
 | emp=>cases hr;exact ⟨_,rfl,.off (h.er.stop 5) rfl⟩
theorem Na {x x':Cl} (h:fZ R x x'):numOf x'=numOf x:=by cases h<;>rfl
theorem ahD {x x':Cl} (h:fZ R x x'):(ji x=none∧ji x'=none)∨∃ n fs ix,ji x=some (n,fs)∧ji x'=some (n,ix)∧cX R fs ix:=by
 cases h with
 | aZ n h=>exact .inr ⟨n,_,_,rfl,rfl,h⟩
 | _=>exact .inl ⟨rfl,rfl⟩
theorem Nb {v v':cr} {x x':Cl} (h:SR I z R bf m m') (hv:jJ R v v') (hx:fZ R x x'):∀ (l:List Al) {r:R3},eQ m v x l=some r→∃ r',eQ m' v' x' l=some r'∧sd X' I z R bf m'.steps r r'
 | [],r,hr=>by rw [eQ] at hr ⊢;cases hr;exact ⟨_,rfl,.off (h.er.stop 2) rfl⟩
 | a::l,r,hr=>by
  have gn:kQ R R:=fun _ _ h=>h
  rw [eQ] at hr ⊢;rw [Na hx];rcases ahD hx with ⟨e1,e2⟩ | ⟨n,fs,ix,e1,e2,hf⟩
  ·rw [e1] at hr;rw [e2]
   split at hr
   ·rename_i hc;rw [if_pos hc];cases hr;exact ⟨_,rfl,iB gn (.go _ hv) h (Int.le_refl _)⟩
   ·rename_i hc;rw [if_neg hc];exact Nb h hv hx l hr
  ·rw [e1] at hr;rw [e2]
   split at hr
   ·rename_i hc;have xw:(a.kind == 3||(a.kind == 2&&(some (n,ix)).isNone&&a.num == numOf x))=true:=hc;rw [if_pos xw];cases hr;exact ⟨_,rfl,iB gn (.go _ hv) h (Int.le_refl _)⟩
   ·rename_i hc;have xw:¬ (a.kind == 3||(a.kind == 2&&(some (n,ix)).isNone&&a.num == numOf x))=true:=hc;rw [if_neg xw];simp only at hr ⊢
    split at hr
    ·rename_i hk;rw [if_pos hk];obtain ⟨u,hu,rfl⟩:=Option.map_eq_some_iff.1 hr;obtain ⟨u',zO,hn⟩:=VS _ hf hv hu;rw [zO];exact ⟨_,rfl,iB gn (.go _ hn) h (Int.le_refl _)⟩
    ·rename_i hk;rw [if_neg hk];exact Nb h hv hx l hr
theorem sd.le {R':Rl} {s0:Int} {r r':R3} (hR:kQ R R') (h:sd X' I z R' bf s0 r r'):sd X' I z R bf s0 r r':=by
 cases h with
 | on h1 h2 h3 h4 h5=>exact .on (fun a b h=>h1 _ _ (hR a b h)) h2 h3 h4 h5
 | off h1 h2=>exact .off h1 h2
theorem VX {f f':Fm} {x x':Cl} {r:R3} (h:SR I z R bf m m') (hf:nY R I f f') (hx:fZ R x x') (hr:iT f x m=some r):∃ r',iT f' x' m'=some r'∧sd X' I z R bf m'.steps r r':=by
 have gn:kQ R R:=fun _ _ h=>h
 unfold iT at hr ⊢;cases hf with
 | dz hc hi=>cases hr;exact ⟨_,rfl,iB gn (.val hx) (h.put hc hi hx) (Int.le_refl _)⟩
 | app e hv=>
  simp only at hr ⊢
  split at hr
  ·rename_i y ys he;obtain ⟨r',h1,h2⟩:=VW (X':=X') (h.new (.wait _ hv)) (hx.mono pI) (.inr ⟨rfl,rfl⟩) hr;exact ⟨r',h1,h2.le pI⟩
  ·cases hr
 | lC e hv=>exact Nb h hv hx _ hr
 | fst e hv=>
  simp only at hr ⊢
  split at hr
  ·cases hr;rw [Na hx];exact ⟨_,rfl,iB gn (.go _ hv) (h.push (.snd e _)) (Int.le_refl _)⟩
  ·cases hr
 | snd e n=>
  simp only at hr ⊢;rw [Na hx]
  split at hr
  ·rename_i y hy;cases hr;refine ⟨_,rfl,iB gn (.val ?_) h (Int.le_refl _)⟩;have key:∀ (o:Option Cl),o=some y→(∀ u,o=some u→(∃ n,u = .num n)∨∃ k,u = .aZ k [])→fZ R y y:=fun o ho hh=>by
    rcases hh y ho with ⟨n,rfl⟩ | ⟨k,rfl⟩
    ·exact .num n
    ·exact .aZ k trivial
   refine key _ hy (fun u hu=>?_);unfold qm at hu
   split at hu
   ·cases hu;exact .inl ⟨_,rfl⟩
   ·split at hu
    ·cases hu;exact .inl ⟨_,rfl⟩
    ·split at hu
     ·cases hu;exact .inl ⟨_,rfl⟩
     ·split at hu
      ·split at hu
       ·cases hu
       ·split at hu
        ·cases hu;exact .inl ⟨_,rfl⟩
        ·cases hu;exact .inl ⟨_,rfl⟩
      ·cases hu;exact .inr ⟨_,rfl⟩
  ·cases hr;exact ⟨_,rfl,.off (h.er.stop 3) rfl⟩
 | seq e hv=>
  simp only at hr ⊢
  split at hr
  ·cases hr;exact ⟨_,rfl,iB gn (.go _ hv) h (Int.le_refl _)⟩
  ·cases hr
 | lD e hv=>
  simp only at hr ⊢
  split at hr
  ·cases hr;exact ⟨_,rfl,iB pI (.go _ ⟨⟨rfl,.inr ⟨rfl,rfl⟩⟩,jJ.mono hv pI⟩) (h.new hx) (Int.le_refl _)⟩
  ·cases hr
inductive uV (X X':Cx) (I:Nat→Prop) (z:Nat) (R:Rl) (bf:List Fm) (md':Md) (m':Rn):Option Cl×Rn→Prop
 | val {x x':Cl} {a a':Rn} {R':Rl} (hR:kQ R R') (hx:fZ R' x x') (hs:SR I z R' bf a a') (hf:a.aO=[]) (bz:m'.steps≤a'.steps) (hr:∀ G,a'.steps≤G→Reach (X'.at G) md' m' (.val x') a'):uV X X' I z R bf md' m' (some x,a)
 | off {a a':Rn} (h:ER a a') (bz:m'.steps≤a'.steps) (hr:∃ n,cF (X'.at a'.steps) n md' m'=some (none,a')):uV X X' I z R bf md' m' (none,a)
theorem uV.pre {R0:Rl} {VY md':Md} {m0:Rn} {r:Option Cl×Rn} (h:uV X X' I z R bf md' m' r) (hR:kQ R0 R) (bz:m0.steps≤m'.steps) (hr:∀ G,m'.steps≤G→Reach (X'.at G) VY m0 md' m'):uV X X' I z R0 bf VY m0 r:=by
 cases h with
 | val h1 h2 h3 h4 h5 h6=>exact .val (fun a b h=>h1 _ _ (hR a b h)) h2 h3 h4 (by omega) (fun G hG=>(hr G (by omega)).trans (h6 G hG))
 | off h1 h2 h3=>
  obtain ⟨n,hn⟩:=h3;exact .off h1 (by omega) (hr _ h2 n _ hn)
theorem A3:∀ (n:Nat) {R:Rl} {md md':Md} {m m':Rn} {r:Option Cl×Rn},tH X X' R→SR I z R bf m m'→DE R md md'→cF X n md m=some r→uV X X' I z R bf md' m' r
 | 0,R,md,md',m,m',r,_,_,_,h=>by cases md<;>(rw [cF] at h;cases h)
 | n+1,R,.go e v,_,m,m',r,hX,hs,.go _ hv,h=>by
  rename_i v';rw [cF] at h;rcases qz X m with ⟨h1,h2⟩ | ⟨h1,h2⟩
  ·rw [h2] at h;simp only [if_true] at h;cases h;refine .off (a':={ m' with kind:=4}) ⟨hs.told,rfl,hs.stuck⟩ (Int.le_refl _) ⟨1,?_⟩;rw [cF];have h3:fi (X'.at m'.steps) m'=(false,{ m' with kind:=4}):=by unfold fi;rw [if_pos rfl]
   rw [h3,if_pos rfl]
  ·rw [h2] at h;simp only [Bool.true_eq_false,if_false] at h
   split at h
   ·cases h
   ·rename_i m1 hb;cases h;obtain ⟨r',b1,b2⟩:=VV hX (hs.steps (m.steps+1) (m'.steps+1)) hv hb;cases b2 with
    | off q1 q2=>
     rename_i dZ;have q2:dZ.steps=m'.steps+1:=q2;refine .off q1 (by omega) ⟨1,?_⟩;have h3:fi (X'.at dZ.steps) m'=(true,{ m' with steps:=m'.steps+1}):=by unfold fi;rw [if_neg (show ¬ m'.steps=dZ.steps by omega)]
     have b1':iS (X'.at dZ.steps) e v' { m' with steps:=m'.steps+1}=some (none,dZ):=b1;rw [cF,h3,if_neg (by simp)];simp only [b1']
   ·rename_i tG m1 hb;obtain ⟨r',b1,b2⟩:=VV hX (hs.steps (m.steps+1) (m'.steps+1)) hv hb;cases b2 with
    | @on _ Gt ahE _ m2 mH R' q1 q2 q3 q4 q5=>
     have q4:m'.steps+1≤mH.steps:=q4;refine (A3 n (hX.mono q1) q3 q2 h).pre q1 (by omega) (fun G hG=>?_);exact (Reach.go (X:=X'.at G) (show m'.steps≠G by omega) b1).trans (q5 G hG)
 | n+1,R,.val x,_,m,m',r,hX,hs,.val hx,h=>by
  rename_i x';rw [cF] at h;obtain ⟨fs,f1,f2⟩:=hs.aO
  split at h
  ·rename_i hl;cases h;have hn:m.aO=[]:=List.getLast?_eq_none_iff.1 hl;exact .val (fun _ _ h=>h) hx hs hn (Int.le_refl _) (fun G _=>.refl)
  ·rename_i f hl;obtain ⟨k,hk⟩:=List.getLast?_eq_some_iff.1 hl;rw [hk] at f2;obtain ⟨k',f',rfl,g1,g2⟩:=M' f2;have e1:m'.aO.getLast? = some f':=by rw [f1,← List.append_assoc,List.getLast?_concat]
   have bK:SR I z R bf { m with aO:=m.aO.dropLast} { m' with aO:=m'.aO.dropLast}:=⟨hs.cell,hs.inj,hs.fn,⟨k',by
    show m'.aO.dropLast=_;rw [f1,← List.append_assoc,List.dropLast_concat],by
    show cX _ m.aO.dropLast _
    rw [hk,List.dropLast_concat];exact g1⟩,hs.told,hs.kind,hs.stuck,hs.val,hs.nZ,hs.lJ⟩
   split at h
   ·cases h
   ·rename_i m1 hb;cases h;obtain ⟨r',b1,b2⟩:=VX (X':=X') bK g2 hx hb;cases b2 with
    | off q1 q2=>
     rename_i dZ;have q2:dZ.steps=m'.steps:=q2;refine .off q1 (by omega) ⟨1,?_⟩;rw [cF,e1];simp only [b1]
   ·rename_i tG m1 hb;obtain ⟨r',b1,b2⟩:=VX (X':=X') bK g2 hx hb;cases b2 with
    | @on _ Gt ahE _ m2 mH R' q1 q2 q3 q4 q5=>
     have q4:m'.steps≤mH.steps:=q4;refine (A3 n (hX.mono q1) q3 q2 h).pre q1 q4 (fun G hG=>?_);exact (Reach.val e1 b1).trans (q5 G hG)
end
end
end Go.Proofs.YtjfgeekjjlhbdaaGreatDoor