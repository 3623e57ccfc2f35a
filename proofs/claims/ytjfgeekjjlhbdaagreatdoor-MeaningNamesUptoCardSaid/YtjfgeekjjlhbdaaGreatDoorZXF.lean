/- Texts that the last file stands on: M18, M19, M20, M21, Q9, Q10, Q12, Q13, Q11, Q14, Q15, N1, N2, N3, N4, M22, N5, Q16, Q17, N6, Q18, Q19, N7, V1, V2, V3, Q23, G1, N11, Q24, Q25, Q26. -/
import Derived.Test.YtjfgeekjjlhbdaaGreatDoorZXE
import Derived.Test.YtjfgeekjjlhbdaaGreatDoorZXA
import Derived.Test.YtjfgeekjjlhbdaaGreatDoorRows
import Derived.Deep.Slices
import Derived.Test.YtjfgeekjjlhbdaaGreatDoorCards
import Derived.Test.YtjfgeekjjlhbdaaGreatDoorTie
import Derived.Deep.DeepHandedRow
import Derived.Lay
import Derived.MakeChecks
import Derived.Test.YtjfgeekjjlhbdaaGreatDoorZXC
set_option linter.unusedSimpArgs false
set_option linter.unusedVariables false
set_option maxRecDepth 100000
namespace Go.Proofs.YtjfgeekjjlhbdaaGreatDoor
section
open Go Go.W
theorem Li {P:Program} {w:World} {ρ:Go.W.Env} {K:Value→World→Prop} {d:Option Nat} {t:TypeId} {m x y:Operand} {ty:TypeId} {pos:String} {af:Array Edge} (h:Go.W.E.wp P w ρ K (.raw ⟨d,.mapUpdate t m x y,ty,pos,af,none⟩)):Go.W.E.wp P w ρ K (.raw ⟨d,.insert t m x y,ty,pos,af,none⟩):=h
theorem hM.Td {w w':World} {S:Nat→Prop} {r md mf:Nat} {bs:List Nat} {X:Cx} {m:Rn} {vt vf:Value} {db bO:List (List Value)} {cw cB:Option Nat} {ds:List (ByteArray×Nat)} {fs:List (ByteArray×Int)} (h:hM w S r md mf bs X m vt vf db bO cw cB) (hm:Mod (fun b=>b=md∨b=mf) w w') (hd:cD w' md (BT bs) ds) (hf:cD w' mf RI fs) :
   hM w' S r md mf bs { X with an:=ds,fields:=fs} m vt vf db bO cw cB:=by
 obtain ⟨n1,n2,n3,n4,n5,n6,n7,n8,n9⟩:=h.ne;have Sm:∀ b,(b=md∨b=mf)→S b:=fun b hb=>by
  rcases hb with rfl | rfl<;>exact h.bt _ (by simp)
 have bC:=hm.aT Sm;refine ⟨hm.at h.box (fun e=>by rcases e with e | e;exact n1 e;exact n2 e),h.told.mod hm (fun b hb e=>by rcases e with e | e;exact (n4 b hb).2.1 e.symm;exact (n4 b hb).2.2 e.symm),h.items,h.oY.mod hm (fun b hb e=>by rcases e with e | e;exact (n5 b hb).2.1 e.symm;exact (n5 b hb).2.2 e.symm),h.a7.imp (fun _ _ x=>x.up bC aM (aU bC) (fun _ _ h=>h)),h.blocks,h.bt,fun b hb=>Nat.lt_of_lt_of_le (h.lt b hb) hm.size,h.len,?_,hd,hf,h.steps,fun p hp=>?_⟩
 ·intro i b x hi hx;obtain ⟨v,h1,h2⟩:=h.cell i b x hi hx;have dK:=List.mem_of_getElem? hi;exact ⟨v,hm.at h1 (fun e=>by rcases e with e | e;exact (n6 b dK).2.1 e.symm;exact (n6 b dK).2.2 e.symm),h2.up bC aM (aU bC) (fun _ _ h=>h)⟩
 ·obtain ⟨a1,a2,a3⟩:=h.kept p hp;exact ⟨hm.at a1 (fun e=>by rcases e with e | e<;>exact a3 (by rw [e];simp)),a2,a3⟩
def nq:List Df→Nat→List (ByteArray×Nat)→List (ByteArray×Nat)
 | [],_,l=>l
 | d::ds,i,l=>nq ds (i+1) (bK l d.name i)
def pS:List Cn→List (ByteArray×Int)→List (ByteArray×Int)
 | [],l=>l
 | k::ks,l=>pS ks (bK l k.name k.fields.length)
def sC:List Dt→List (ByteArray×Int)→List (ByteArray×Int)
 | [],l=>l
 | d::ds,l=>sC ds (pS d.cons l)
abbrev zL:ByteArray:=⟨#[67,111,110,115]⟩
abbrev Ck:ByteArray:=⟨#[80,97,105,114]⟩
abbrev Cm:ByteArray:=⟨#[84,114,105,112,108,101]⟩
def sD:List (ByteArray×Int):=[(zL,2),(Ck,2),(Cm,3)]
def eJ (p:Pg) (fuel:Int):Cx:={ fuel:=fuel,an:=nq p.an 0 [],fields:=sC p.aG sD}
def fU (p:Pg):Rn:={ cells:=p.an.map (fun d=>Cl.wait d.body []),a7:=[],told:=[],steps:=0,kind:=0,stuck:=0}
theorem aeU {l:List Df} {i:Nat} (hi:i < l.length) (m:List (ByteArray×Nat)):nq (l.drop i) i m=nq (l.drop (i+1)) (i+1) (bK m l[i].name i):=by rw [List.drop_eq_getElem_cons hi,nq]
theorem aeV {l:List Cn} {i:Nat} (hi:i < l.length) (m:List (ByteArray×Int)):pS (l.drop i) m=pS (l.drop (i+1)) (bK m l[i].name l[i].fields.length):=by rw [List.drop_eq_getElem_cons hi,pS]
theorem aeW {l:List Dt} {i:Nat} (hi:i < l.length) (m:List (ByteArray×Int)):sC (l.drop i) m=sC (l.drop (i+1)) (pS l[i].cons m):=by rw [List.drop_eq_getElem_cons hi,sC]
theorem aeX (p:Pg) {fuel:Int} {w:World} {cs:List Value} (h:jr w (Out (fun _=>False) w) cs p) (hf:0≤fuel∧fuel≤1048576) :
   ba Tryz.prog 25 [.agg cs.toArray,I fuel] w fun v w'=>(∃ (r md mf:Nat) (S:Nat→Prop) (bs:List Nat),v=ptr r∧cJ w' S r md mf bs (eJ p fuel) (fU p)∧∀ b,S b→w.heap.size≤b)∧Mod (fun _=>False) w w':=by
 obtain ⟨vd,vf,rfl,hd,zM⟩:=h;obtain ⟨ad,cd,rfl⟩:=a8 hd;obtain ⟨af,cf,rfl⟩:=a8 zM;have j6:=du zM;have Rk:=du hd;refine XC.calls rfl ?_;unfold Hl;(try simp only [go_sem,simprocAttr]);refine bB rfl ?_;intro w1 au ak bP;(try simp only [go_sem,simprocAttr]);refine pq (α:=Nat) (fun _ _=>False) ?_;intro w2 mL ai bS;(try simp only [go_sem,simprocAttr]);refine pq (α:=Int) RI ?_;intro w3 Ke ar eR;(try simp only [go_sem,simprocAttr]);refine Li ?_;refine me (kt:=9) (et:=3) (b:=w2.heap.size) (k:=zL) (v:=I 2) (a:=(2:Int)) rfl rfl rfl rfl rfl Ke rfl ?_;intro w4 BJ aA eA;(try simp only [go_sem,simprocAttr]);refine Li ?_;refine me (kt:=9) (et:=3) (b:=w2.heap.size) (k:=Ck) (v:=I 2) (a:=(2:Int)) rfl rfl rfl rfl rfl BJ rfl ?_;intro w5 BK aD eB;(try simp only [go_sem,simprocAttr]);refine Li ?_;refine me (kt:=9) (et:=3) (b:=w2.heap.size) (k:=Cm) (v:=I 3) (a:=(3:Int)) rfl rfl rfl rfl rfl BK rfl ?_;intro w6 hp6 aJ fY;(try simp only [go_sem,simprocAttr]);refine bB rfl ?_;intro w7 cH aL iL;have m13:Mod (fun _=>False) w w3:=(ak.trans ai).trans ar;have z1:w1.heap.size=w.heap.size+1:=bP;have z2:w2.heap.size=w1.heap.size+1:=bS;have z3:w3.heap.size=w2.heap.size+1:=eR;have z6:w6.heap.size=w3.heap.size:=by omega
 have Lj:Mod (· = w2.heap.size) w3 w6:=(aA.trans aD).trans aJ;have o9:Mod (fun _=>False) w w7:=(m13.step Lj (fun b hb hl=>by omega)).trans aL;have aeY:=(((mL.mod ar _root_.id (fun _ _ h=>h)).mod Lj (fun e=>by omega) (fun _ _ h=>h)).mod aL _root_.id (fun _ _ h=>h):cD w7 w1.heap.size (fun _ _=>False) []);have aeZ:cD w7 w2.heap.size RI sD:=hp6.mod aL _root_.id (fun _ _ h=>h);have hR0:hM w7 (fun b=>b=w6.heap.size∨b=w1.heap.size∨b=w2.heap.size) w6.heap.size w1.heap.size w2.heap.size [] { fuel:=fuel,an:=[],fields:=sD} { cells:=[],a7:=[],told:=[],steps:=0,kind:=0,stuck:=0} (.slice none 0 0) (.slice none 0 0) [] [] none none:=by
  refine ⟨cH,dE.nil _ _ _,trivial,dE.nil _ _ _,trivial,?_,?_,?_,rfl,fun i b x hi=>by simp at hi,?_,aeZ,⟨Int.le_refl _,hf.1,hf.2⟩,fun p hp=>by cases hp⟩
  ·simp [ji];omega
  ·intro b hb;simp [ji] at hb;exact hb
  ·have z7:w7.heap.size=w6.heap.size+1:=iL;rintro b (rfl | rfl | rfl)<;>omega
  ·obtain ⟨lv,hv,hp⟩:=aeY;cases hp;exact ⟨[],hv,.nil⟩
 have D1:w7.heap[w.heap.size]? = some (.cells [.slice ad p.aG.length cd,.slice af p.an.length cf].toArray 25 (0,0)):=by
  refine aL.at (Lj.at ((ai.trans ar).at au _root_.id) (fun e=>by omega)) _root_.id
 (try simp only [go_sem,simprocAttr,cell_of D1])
 refine fx (fun z ρ w'=>∃ (i:Nat) (S':Nat→Prop) (cM:List Nat) (ds:List (ByteArray×Nat)),z=p.an.length - i∧i≤p.an.length∧cJ w' S' w6.heap.size w1.heap.size w2.heap.size cM { fuel:=fuel,an:=ds,fields:=sD} { cells:=(p.an.take i).map (fun d=>Cl.wait d.body []),a7:=[],told:=[],steps:=0,kind:=0,stuck:=0}∧(∀ b,S' b→w1.heap.size≤b)∧Mod (fun _=>False) w w'∧w'.heap[w.heap.size]? = some (.cells [.slice ad p.aG.length cd,.slice af p.an.length cf].toArray 25 (0,0))∧nq p.an 0 []=nq (p.an.drop i) i ds ∧
  ρ=[(2,ptr w.heap.size),(5,ptr w6.heap.size),(19,I p.an.length),(20,I i)]) p.an.length ⟨0,_,[],[],by omega,by omega,⟨_,_,_,_,_,_,hR0⟩,?_,o9,D1,rfl,rfl⟩ ?_
 ·rintro b (rfl | rfl | rfl)<;>omega
 rintro z _ w8 ⟨i,S8,ue,ds,rfl,hi,sB,Fv,bh,cO,dR,rfl⟩;unfold N6;by_cases q:i < p.an.length
 ·have b1:decide ((i:Int) < p.an.length)=true:=by simpa using q
  have p1:(0:Int)≤i∧(i:Int) < p.an.length:=by omega
  have eD:∀ {w':World} {S':Nat→Prop},Mod (fun _=>False) w w'→(∀ b,S' b→w1.heap.size≤b)→∀ b,Out (fun _=>False) w b→Out S' w' b:=fun hm hs b hb=>⟨Nat.lt_of_lt_of_le hb.1 hm.size,fun hh=>by have:=hs b hh;have:=hb.1;omega⟩
  have hd8:=zM.up bh aC (eD bh Fv) (fun _ _ h=>h.up bh aC (eD bh Fv));obtain ⟨lm,c2,rr,e1,ae0,so,bJ⟩:=io hd8 q;obtain ⟨rfl,-,-⟩:=b9 e1;obtain ⟨vp,tc,bc,rfl,qG,Lk,_,_,gm,_⟩:=ae0;have c0:w8.cell? (lm.add (i*12))=some (.string p.an[i].name):=bJ.c0 (by simp)
  have hbp:fT w8 (Out S8 w8) ⟨(lm.add (i*12)).block,(lm.add (i*12)).off+5,none⟩ bc:=bJ.part (fun j hj=>by
   rw [show 5+j=(j+3)+1+1 by omega];simp only [List.getElem?_cons_succ];rw [List.getElem?_append_right (by omega),qG,Nat.add_sub_cancel]
   exact List.getElem?_eq_getElem hj) (by decide)
  have lc:=lW c0;obtain ⟨J2,vf',tr',fr',tf',ff',Co⟩:=sB;have nK:ue.length=i:=by rw [Co.len];simp;omega
  (try simp only [go_sem,simprocAttr,b1]);(try simp only [go_sem,simprocAttr,bq,br,cell_of cO,cell_of Co.box,p1,c0]);have l8:=cC cO;have lr8:=cC Co.box;refine bB rfl ?_;intro w9 dp ae1 gZ;have aV:Mod (fun _=>False) w8 w9:=ae1.ez;refine ⟨⟨aV.bY _ lc _root_.id,aV.bY _ l8 _root_.id,aV.bY _ lr8 _root_.id⟩,?_⟩;have z9:w9.heap.size=w8.heap.size+1:=gZ;have z8:=bh.size;(try simp only [go_sem,simprocAttr]);refine bB rfl ?_;intro cV ff bE qp;refine ⟨⟨bE.bY _ (by omega) _root_.id,bE.bY _ (by omega) _root_.id,bE.bY _ (by omega) _root_.id⟩,?_⟩;have gM:=aV.trans bE;have jB:∀ b,b < w8.heap.size→aN S8 w9.heap.size b→S8 b:=eC (by omega);have yp:¬ aN S8 w9.heap.size w8.heap.size:=by
   rintro (hx | hx)
   ·have:=Co.lt _ hx;omega
   ·omega
  have xN:=(cJ.aB ⟨_,_,_,_,_,_,Co⟩ aV).new (x:=.wait p.an[i].body []) (v:=.iface 105 (ptr w8.heap.size)) bE ff (Nat.le_refl _) ⟨_,_,_,rfl,Ry (S:=aN S8 w9.heap.size) (cs:=[.pointer (some ⟨(lm.add (i*12)).block,(lm.add (i*12)).off+5,none⟩),.pointer none]) dp bE yp,⟨_,bc,rfl,hbp.up (aj gM (S:=S8)) aM (eh (aj gM) jB),gm.up (aj gM (S:=S8)) aM (eh (aj gM) jB)⟩,rfl⟩;obtain ⟨vt,vf,trr,frr,cw,cB,Fw⟩:=xN;have uZ:(ue++[w9.heap.size])[i]? = some w9.heap.size:=by rw [← nK,List.getElem?_append_right (Nat.le_refl _)];simp
  (try simp only [go_sem,simprocAttr]);refine me (kt:=9) (et:=82) (b:=w1.heap.size) (k:=p.an[i].name) (v:=ptr w9.heap.size) (a:=i) rfl rfl rfl rfl rfl Fw.an ⟨_,rfl,uZ⟩ ?_;intro gA ae2 cR uX;have e3:IntKind.i64.wrap ((i:Int)+1)=((i+1:Nat):Int):=by rw [dk (by omega) (by omega)];omega
  have bw:=Fw.ne;have ae3:=Fw.Td (cR.aT (fun b hb=>.inl hb)) ae2 (Fw.fields.mod cR (fun e=>bw.2.2.1 e.symm) (fun _ _ x=>x));have etk:(p.an.take (i+1)).map (fun d=>Cl.wait d.body [])=(p.an.take i).map (fun d=>Cl.wait d.body [])++[Cl.wait p.an[i].body []]:=by
   rw [List.take_succ_eq_append_getElem q,List.map_append];try rfl
  (try simp only [go_sem,simprocAttr,e3]);refine ⟨_,by omega,i+1,_,_,_,rfl,q,⟨_,_,_,_,_,_,by rw [etk];exact ae3⟩,?_,?_,?_,?_,rfl⟩
  ·rintro b (hb | hb)
   ·exact Fv b hb
   ·omega
  ·exact (bh.trans gM).step cR (fun b hb hl=>by omega)
  ·exact cR.at (gM.at cO _root_.id) (fun e=>by omega)
  ·rw [dR,aeU q]
 ·have b1:decide ((i:Int) < p.an.length)=false:=by simpa using q
  have hi2:i=p.an.length:=by omega
  subst hi2;rw [List.drop_length,nq] at dR;rw [List.take_length] at sB;(try simp only [go_sem,simprocAttr,b1,cell_of cO]);have eD:∀ {w':World},Mod (fun _=>False) w w'→∀ b,Out (fun _=>False) w b→Out (fun _=>False) w' b:=fun hm b hb=>⟨Nat.lt_of_lt_of_le hb.1 hm.size,hb.2⟩
  refine fx (fun z ρ w'=>∃ (i:Nat) (fs:List (ByteArray×Int)),z=p.aG.length - i∧i≤p.aG.length∧cJ w' S8 w6.heap.size w1.heap.size w2.heap.size ue { fuel:=fuel,an:=ds,fields:=fs} (fU p)∧Mod (fun _=>False) w w'∧sC p.aG sD=sC (p.aG.drop i) fs ∧
   ρ=[(5,ptr w6.heap.size),(45,.slice ad p.aG.length cd),(46,I p.aG.length),(47,I i)]) p.aG.length ⟨0,sD,by omega,by omega,sB,bh,rfl,rfl⟩ ?_
  rintro z _ w9 ⟨i,fs,rfl,hi3,Fx,aV,gR,rfl⟩;unfold N8;by_cases q2:i < p.aG.length
  ·have b2:decide ((i:Int) < p.aG.length)=true:=by simpa using q2
   have p2:(0:Int)≤i∧(i:Int) < p.aG.length:=by omega
   have e3:IntKind.i64.wrap ((i:Int)+1)=((i+1:Nat):Int):=by rw [dk (by omega) (by omega)];omega
   obtain ⟨lm,c2,rr,e1,⟨vp,vc,rfl,gg,xO⟩,bV,bJ⟩:=io hd q2;obtain ⟨rfl,-,-⟩:=b9 e1;obtain ⟨ac,cc,rfl⟩:=a8 xO;have pt:=du xO;obtain ⟨ap,cp,rfl⟩:=a8 gg;have bQ:=qg bV (bJ.up aV aC (eD aV)).2;(try simp only [go_sem,simprocAttr,b2]);(try simp only [go_sem,simprocAttr,bq,br,p2,bQ]);refine cQ ?_;intro cV ff bE qp;(try simp only [go_sem,simprocAttr]);refine bN (vs:=[.string p.aG[i].name,.slice ap p.aG[i].params.length cp,.slice ac p.aG[i].cons.length cc]) (cs:=[.string bD,.slice none 0 0,.slice none 0 0]) rfl rfl ff rfl rfl (aW rfl (aW rfl (aW rfl dy))) ?_;intro gA fy cR uX;have sr:Mod (fun _=>False) w9 gA:=bE.step cR (fun b hb hl=>by have e:b=w9.heap.size:=hb;omega);(try simp only [go_sem,simprocAttr,cell_of fy])
   refine fx (fun z ρ w'=>∃ (k:Nat) (Fy:List (ByteArray×Int)),z=p.aG[i].cons.length - k∧k≤p.aG[i].cons.length∧cJ w' S8 w6.heap.size w1.heap.size w2.heap.size ue { fuel:=fuel,an:=ds,fields:=Fy} (fU p)∧Mod (fun _=>False) w w'∧pS p.aG[i].cons fs=pS (p.aG[i].cons.drop k) Fy ∧
    ρ=[(5,ptr w6.heap.size),(45,.slice (some lm) p.aG.length cd),(46,I p.aG.length),(47,I i),(52,.slice ac p.aG[i].cons.length cc),(53,I p.aG[i].cons.length),(54,I k)]) p.aG[i].cons.length ⟨0,fs,by omega,by omega,Fx.aB sr,aV.trans sr,rfl,rfl⟩ ?_
   rintro z _ px ⟨k,Fy,rfl,qv,Te,fK,Ll,rfl⟩;unfold N7;by_cases q3:k < p.aG[i].cons.length
   ·have b3:decide ((k:Int) < p.aG[i].cons.length)=true:=by simpa using q3
    have p3:(0:Int)≤k∧(k:Int) < p.aG[i].cons.length:=by omega
    have e4:IntKind.i64.wrap ((k:Int)+1)=((k+1:Nat):Int):=by rw [dk (by omega) (by omega)];omega
    obtain ⟨PD,c3,rr3,e5,⟨vf3,rfl,iX,_⟩,fC,zn⟩:=io xO q3;obtain ⟨rfl,-,-⟩:=b9 e5;obtain ⟨af3,cf3,rfl⟩:=a8 iX;have Lm:=qg fC (zn.up fK aC (eD fK)).2;(try simp only [go_sem,simprocAttr,b3]);(try simp only [go_sem,simprocAttr,bq,br,p3,Lm]);refine cQ ?_;intro Fz pF oN Tf;(try simp only [go_sem,simprocAttr]);refine bN (vs:=[.string p.aG[i].cons[k].name,.slice af3 p.aG[i].cons[k].fields.length cf3]) (cs:=[.string bD,.slice none 0 0]) rfl rfl pF rfl rfl (aW rfl (aW rfl dy)) ?_;intro FA Bx lI aiR;have Tg:Mod (fun _=>False) px FA:=oN.step lI (fun b hb hl=>by have e:b=px.heap.size:=hb;omega);obtain ⟨vt,vf,trr,frr,cw,cB,Cq⟩:=Te.aB Tg;have d14:Mod (fun _=>False) FA FA.drew:=(Mod.refl _ _).drew;(try simp only [go_sem,simprocAttr,cell_of Bx,cell_of Cq.box]);refine me (kt:=9) (et:=3) (b:=w2.heap.size) (k:=p.aG[i].cons[k].name) (v:=I p.aG[i].cons[k].fields.length) (a:=(p.aG[i].cons[k].fields.length:Int)) rfl rfl rfl rfl rfl (Cq.aB d14).fields rfl ?_;intro w15 ae4 sq aiS;have ae5:=(Cq.aB d14).Td (sq.aT (fun b hb=>.inr hb)) ((Cq.aB d14).an.mod sq (fun e=>Cq.ne.2.2.1 e) (fun _ _ x=>x)) ae4;(try simp only [go_sem,simprocAttr,e4]);have aiT:w.heap.size≤w2.heap.size:=by omega
    exact ⟨_,by omega,k+1,_,rfl,q3,⟨_,_,_,_,_,_,ae5⟩,(fK.trans (Tg.trans d14)).step sq (fun b hb hl=>by have e:b=w2.heap.size:=hb;omega),by rw [Ll,aeV q3],rfl⟩
   ·have b3:decide ((k:Int) < p.aG[i].cons.length)=false:=by simpa using q3
    have ma:k=p.aG[i].cons.length:=by omega
    subst ma;rw [List.drop_length,pS] at Ll;(try simp only [go_sem,simprocAttr,b3,e3]);exact ⟨_,by omega,i+1,Fy,rfl,q2,Te,fK,by rw [gR,aeW q2,Ll],rfl⟩
  ·have b2:decide ((i:Int) < p.aG.length)=false:=by simpa using q2
   have hi4:i=p.aG.length:=by omega
   subst hi4;rw [List.drop_length,sC] at gR;(try simp only [go_sem,simprocAttr,b2,aE,RV.ev,aF]);have hX:eJ p fuel = { fuel:=fuel,an:=ds,fields:=fs}:=by unfold eJ;rw [dR,gR]
   exact ⟨⟨w6.heap.size,w1.heap.size,w2.heap.size,S8,ue,rfl,by rw [hX];exact Fx,fun b hb=>by have:=Fv b hb;omega⟩,aV⟩
end
section
open Go Go.W
theorem ae6 {w:World} {S:Nat→Prop} {bs:List Nat} {b T c i j x y:Nat} (hb:w.heap[b]? = some (.cells [ptr x,ptr y].toArray T (0,0))) (hS:¬ S b) (hi:bs[i]? = some x) (hj:bs[j]? = some y):tU w (Out S w) bs [i,j] (.slice (some ⟨b,0,none⟩) 2 c):=by
 refine ⟨[[ptr x],[ptr y]],⟨⟨_,c,rfl,fun _ ad e=>by cases e;exact ⟨cC hb,hS⟩,fun k hk=>⟨_,rfl,?_,?_⟩⟩,by simp⟩,rfl,?_⟩
 ·match k,hk with
  | 0,_=>rfl
  | 1,_=>rfl
 ·intro q hq;rw [nE,nE,cell_of hb]
  match k,hk,q,hq with
  | 0,_,0,_=>rfl
  | 1,_,0,_=>rfl
  | 0,_,q+1,hq=>simp at hq
  | 1,_,q+1,hq=>simp at hq
 ·intro k r c hr hc
  match k with
  | 0=>simp only [List.getElem?_cons_zero,Option.some.injEq] at hr hc;subst hr hc;exact ⟨x,rfl,hi⟩
  | 1=>simp only [List.getElem?_cons_succ,List.getElem?_cons_zero,Option.some.injEq] at hr hc;subst hr hc;exact ⟨y,rfl,hj⟩
  | k+2=>simp at hr
def Rn.ls (m:Rn) (l:List Int):Rn:={ m with cells:=(dN l m.cells).2}
theorem FB (l:List Int) (cs:List Cl):∃ n fs,(dN l cs).1 = .bg n fs:=by
 cases l with
 | nil=>exact ⟨_,_,rfl⟩
 | cons n l=>exact ⟨_,_,rfl⟩
theorem Ln (m:Rn) (n:Int) (l:List Int):m.ls (n::l)=(((m.ls l).new (.num n)).new (dN l m.cells).1):=by
 unfold Rn.ls Rn.new;simp [dN]
theorem ae7 {input:List Int} {v:Value} {w:World} {S:Nat→Prop} {r md mf:Nat} {bs:List Nat} {X:Cx} {m:Rn} (h:cJ w S r md mf bs X m) (hi:sS w v input) :
   ba Tryz.prog 28 [v] w fun u w'=>(∃ S' cM,cJ w' S' r md mf cM X (m.ls input)∧dI S S' w∧(∀ (c b:Nat),bs[c]? = some b→cM[c]? = some b)∧iu w' (Out S' w') cM (dN input m.cells).1 u)∧Mod (fun _=>False) w w':=by
 obtain ⟨av,cv,rfl,hle,_⟩:=hi;rename_i Cr;refine XF.calls rfl ?_;unfold Ho;(try simp only [go_sem,Nat.reduceAdd,Nat.reduceEqDiff,Nat.reduceLT,Nat.reduceLeDiff,Nat.reduceMul,reduceCtorEq,↓reduceIte]);refine bB rfl ?_;intro w1 au ak bP;have e1:IntKind.i64.wrap ((input.length:Int) - 1)=(input.length:Int) - 1:=dk (by omega) (by omega);(try simp only [go_sem,Nat.reduceAdd,Nat.reduceEqDiff,Nat.reduceLT,Nat.reduceLeDiff,Nat.reduceMul,reduceCtorEq,↓reduceIte,e1]);have hS:=h;obtain ⟨_,_,_,_,_,_,hh⟩:=hS
 refine fx (fun k ρ w'=>k≤input.length∧∃ (S':Nat→Prop) (cM:List Nat) (u:Value),cJ w' S' r md mf cM X (m.ls (input.drop k))∧dI S S' w∧(∀ (c b:Nat),bs[c]? = some b→cM[c]? = some b)∧iu w' (Out S' w') cM (dN (input.drop k) m.cells).1 u∧Mod (fun _=>False) w w' ∧
  ρ=[(0,.slice av input.length cv),(3,u),(4,I ((k:Int) - 1))]) input.length ⟨Nat.le_refl _,S,bs,.iface 111 (ptr w.heap.size),?_,mD,fun _ _ h=>h,?_,ak,rfl⟩ ?_
 ·rw [List.drop_length];exact h.aB ak
 ·rw [List.drop_length];exact ⟨_,_,rfl,qR (cs:=[.string ⟨#[78,105,108]⟩,.slice none 0 0]) au (fun hx=>by have:=hh.lt _ hx;omega),fH _ _ _ _⟩
 ·rintro k _ w2 ⟨hk,S2,o4,u,eM,iU,Th,qV,ai,rfl⟩;unfold N9
  match k,hk,eM,qV with
  | 0,hk,eM,qV=>
   have b0:decide (((0:Nat):Int) - 1≥0)=false:=by decide
   (try simp only [go_sem,Nat.reduceAdd,Nat.reduceEqDiff,Nat.reduceLT,Nat.reduceLeDiff,Nat.reduceMul,reduceCtorEq,↓reduceIte,b0,aE,RV.ev,aF]);exact ⟨⟨S2,o4,eM,iU,Th,qV⟩,ai⟩
  | k+1,hk,eM,qV=>
   have Ti:k < input.length:=by omega
   obtain ⟨ad,rfl,hc⟩:=Cr k Ti;have iY:=ai.cell hc _root_.id;have e2:((k+1:Nat):Int) - 1=(k:Int):=by omega
   have e3:IntKind.i64.wrap ((k:Int) - 1)=(k:Int) - 1:=dk (by omega) (by omega);have b0:decide ((k:Int)≥0)=true:=by simp
   have p1:(0:Int)≤k∧(k:Int) < input.length:=by omega
   obtain ⟨kn,kf,gJ⟩:=FB (input.drop (k+1)) m.cells;obtain ⟨T,z,B2,_⟩:=zq qV (by rw [gJ];try rfl);subst B2;(try simp only [go_sem,Nat.reduceAdd,Nat.reduceEqDiff,Nat.reduceLT,Nat.reduceLeDiff,Nat.reduceMul,reduceCtorEq,↓reduceIte,e2,b0]);(try simp only [go_sem,Nat.reduceAdd,Nat.reduceEqDiff,Nat.reduceLT,Nat.reduceLeDiff,Nat.reduceMul,reduceCtorEq,↓reduceIte,bq,br,e2,b0,p1,iY]);refine bB rfl ?_;intro w3 aO ar eR;have jK:=eM.new (x:=.num input[k]) (v:=.iface 115 (I input[k])) ar aO (Nat.le_refl _) rfl;have B3:=qV.up (aj ar (S:=S2)) aM (eh (aj ar) (eC (Nat.le_refl _))) (lM (b:=w2.heap.size));(try simp only [go_sem,Nat.reduceAdd,Nat.reduceEqDiff,Nat.reduceLT,Nat.reduceLeDiff,Nat.reduceMul,reduceCtorEq,↓reduceIte]);refine bB rfl ?_;intro w4 aZ aA eA;have o0:=jK.new (x:=(dN (input.drop (k+1)) m.cells).1) (v:=.iface T z) aA aZ (Nat.le_refl _) (B3.up (aj aA (S:=aN S2 w2.heap.size)) aM (eh (aj aA) (eC (Nat.le_refl _))) lM);(try simp only [go_sem,Nat.reduceAdd,Nat.reduceEqDiff,Nat.reduceLT,Nat.reduceLeDiff,Nat.reduceMul,reduceCtorEq,↓reduceIte]);refine fG (cs:=#[ptr w2.heap.size,ptr w3.heap.size]) rfl rfl ?_;intro w5 bT aD eB;(try simp only [go_sem,Nat.reduceAdd,Nat.reduceEqDiff,Nat.reduceLT,Nat.reduceLeDiff,Nat.reduceMul,reduceCtorEq,↓reduceIte]);refine bB rfl ?_;intro w6 bU aJ fY;(try simp only [go_sem,Nat.reduceAdd,Nat.reduceEqDiff,Nat.reduceLT,Nat.reduceLeDiff,Nat.reduceMul,reduceCtorEq,↓reduceIte,e3]);have Tj:input.drop k=input[k]::input.drop (k+1):=List.drop_eq_getElem_cons Ti;have hls:m.ls (input.drop k)=((m.ls (input.drop (k+1))).new (.num input[k])).new (dN (input.drop (k+1)) m.cells).1:=by rw [Tj,Ln]
   have z2:=ai.size;have J1:w3.heap.size=w2.heap.size+1:=eR;have J3:w4.heap.size=w3.heap.size+1:=eA;have z45:w5.heap.size=w4.heap.size+1:=eB
   have Lh:dI S (aN (aN S2 w2.heap.size) w3.heap.size) w:=⟨fun b hb=>.inl (.inl (iU.1 b hb)),fun b hb=>by
    rcases hb with (h | h) | h
    ·exact iU.2 b h
    ·right;omega
    ·right;omega⟩
   have xP:∀ b,S2 b→b < w2.heap.size:=by obtain ⟨_,_,_,_,_,_,hx⟩:=eM;exact hx.lt
   have Tk:o4.length=(m.ls (input.drop (k+1))).cells.length:=by obtain ⟨_,_,_,_,_,_,hx⟩:=eM;exact hx.len
   have yp:∀ x,w4.heap.size≤x→¬ (aN (aN S2 w2.heap.size) w3.heap.size) x:=fun x hx hh=>by
    rcases hh with (h | h) | h
    ·have:=xP _ h;omega
    ·omega
    ·omega
   refine ⟨k,Nat.lt_succ_self k,by omega,aN (aN S2 w2.heap.size) w3.heap.size,o4++[w2.heap.size]++[w3.heap.size],_,?_,Lh,fun c b h=>lM _ _ (lM _ _ (Th c b h)),?_,(ai.trans (ar.trans aA)).trans (aD.trans aJ),rfl⟩
   ·rw [hls];exact (o0.aB aD).aB aJ
   ·rw [Tj];refine ⟨_,_,rfl,qR (cs:=[.string ⟨#[67,111,110,115]⟩,.slice (some ⟨w4.heap.size,0,none⟩) 2 2]) bU (yp _ (by omega)),ae6 (aJ.at bT _root_.id) (yp _ (Nat.le_refl _)) ?_ ?_⟩
    ·show (o4++[w2.heap.size]++[w3.heap.size])[(dN (input.drop (k+1)) m.cells).2.length]? = _;have:(dN (input.drop (k+1)) m.cells).2.length=o4.length:=by rw [Tk];try rfl
     rw [this,List.append_assoc,List.getElem?_append_right (Nat.le_refl _)];simp
    ·show (o4++[w2.heap.size]++[w3.heap.size])[(dN (input.drop (k+1)) m.cells).2.length+1]? = _;have:(dN (input.drop (k+1)) m.cells).2.length=o4.length:=by rw [Tk];try rfl
     rw [this,List.append_assoc,List.getElem?_append_right (by omega)];simp
end
section
open Go Go.W
abbrev qW:=Ty→bI→Option (Bool×bI)
def lP (f:qW):List Ty→bI→Option (Bool×bI)
 | [],s=>some (true,s)
 | t::l,s=>match f t s with
  | none=>none
  | some (false,s')=>some (false,s')
  | some (true,s')=>lP f l s'
def qX (f:qW):List Cn→bI→Option (Bool×bI)
 | [],s=>some (true,s)
 | k::l,s=>match lP f k.fields s with
  | none=>none
  | some (false,s')=>some (false,s')
  | some (true,s')=>qX f l s'
def oe (f:qW) (n:ByteArray):List Dt→bI→Option (Bool×bI)
 | [],s=>some (true,s)
 | d::l,s=>if d.name≠n then oe f n l s else match qX f d.cons s with
  | none=>none
  | some (false,s')=>some (false,s')
  | some (true,s')=>oe f n l s'
def iE (ds:List Dt):Nat→qW
 | 0=>fun _ _=>none
 | n+1=>fun t s=>if t.kind=3 then some (false,s) else match lP (iE ds n) t.args s with
  | none=>none
  | some (false,s')=>some (false,s')
  | some (true,s')=>if t.kind≠4∨(aI s' t.name).getD 0 > 0 then some (true,s') else oe (iE ds n) t.name ds (bK s' t.name 1)
theorem Tl {f:qW} {l:List Ty} {i:Nat} (hi:i < l.length) (s:bI):lP f (l.drop i) s=match f l[i] s with
   | none=>none
   | some (false,s')=>some (false,s')
   | some (true,s')=>lP f (l.drop (i+1)) s':=by rw [List.drop_eq_getElem_cons hi,lP]
theorem ae8 {f:qW} {l:List Cn} {i:Nat} (hi:i < l.length) (s:bI):qX f (l.drop i) s=match lP f l[i].fields s with
   | none=>none
   | some (false,s')=>some (false,s')
   | some (true,s')=>qX f (l.drop (i+1)) s':=by rw [List.drop_eq_getElem_cons hi,qX]
theorem ae9 {f:qW} {n:ByteArray} {l:List Dt} {i:Nat} (hi:i < l.length) (s:bI):oe f n (l.drop i) s=if l[i].name≠n then oe f n (l.drop (i+1)) s else match qX f l[i].cons s with
   | none=>none
   | some (false,s')=>some (false,s')
   | some (true,s')=>oe f n (l.drop (i+1)) s':=by rw [List.drop_eq_getElem_cons hi,oe]
theorem Lo (p:Pg):∀ (n:Nat) (t:Ty) {s s':bI} {b:Bool} {w:World} {B:Nat→Prop} {cs ct:List Value} {sm:Nat},jr w B cs p→aX w B ct t→cD w sm RI s→¬ B sm→iE p.aG n t s=some (b,s') →
   ba Tryz.prog 34 [.agg cs.toArray,.agg ct.toArray,.map (some sm)] w fun v w'=>v = .bool b∧cD w' sm RI s'∧Mod (· = sm) w w'
 | 0,t,s,s',b,w,B,cs,ct,sm,hp,ht,hm,hB,h=>by rw [iE] at h;cases h
 | n+1,t,s,s',b,w,B,cs,ct,sm,hp,ht,hm,hB,h=>by
  have BG:=hp;have lts:sm < w.heap.size:=by obtain ⟨lv,⟨es,c,h1,_⟩,_⟩:=hm;exact cC h1
  obtain ⟨vd,vf,rfl,hd,_⟩:=hp;obtain ⟨ad,cd,rfl⟩:=a8 hd;have Rk:=du hd;obtain ⟨va,rfl,hl⟩:=ht.cells;obtain ⟨aa,ca,rfl⟩:=a8 hl;have OZ:=du hl;have vO:∀ b,B b→¬ (b=sm):=fun b hb e=>hB (by rw [← e];exact hb)
  have h:(if t.kind=3 then some (false,s) else match lP (iE p.aG n) t.args s with
   | none=>none
   | some (false,s')=>some (false,s')
   | some (true,s')=>if t.kind≠4∨(aI s' t.name).getD 0 > 0 then some (true,s') else oe (iE p.aG n) t.name p.aG (bK s' t.name 1))=some (b,s'):=h
  refine XP.calls rfl ?_;unfold Hu;refine dO (fun ρ w2=>∃ b3 b4,w.heap.size≤b3∧w.heap.size≤b4∧w2.heap[b3]? = some (.cells [.slice ad p.aG.length cd,vf].toArray 25 (0,0))∧w2.heap[b4]? = some (.cells [I t.kind,.string t.name,.slice aa t.args.length ca].toArray 42 (0,0))∧Mod (fun _=>False) w w2∧ρ=[(2,.map (some sm)),(3,ptr b3),(4,ptr b4)]) ?_ ?_
  ·(try simp only [go_sem,simprocAttr]);refine bB rfl ?_;intro w1 au ak bP;(try simp only [go_sem,simprocAttr]);refine bB rfl ?_;intro w2 aw ai bS;(try simp only [go_sem,simprocAttr]);exact ⟨w.heap.size,w1.heap.size,Nat.le_refl _,ak.size,ai.at au _root_.id,aw,ak.trans ai,rfl⟩
  rintro _ w2 ⟨b3,b4,l3,l4,aO,aZ,iS,rfl⟩;have m2:Mod (· = sm) w w2:=iS.aT (fun _ h=>h.elim);have wT:=hm.mod iS _root_.id (fun _ _ x=>x);have later:∀ {w':World},Mod (· = sm) w w'→∀ {w3:World},True:=fun _=>trivial
  have box:∀ {w':World},Mod (· = sm) w2 w'→w'.heap[b3]? = some (.cells [.slice ad p.aG.length cd,vf].toArray 25 (0,0))∧w'.heap[b4]? = some (.cells [I t.kind,.string t.name,.slice aa t.args.length ca].toArray 42 (0,0))∧Mod (· = sm) w w':=fun hm=>⟨hm.at aO (fun e=>by omega),hm.at aZ (fun e=>by omega),m2.trans hm⟩
  cases hk:t.kind == 3 with
  | true=>
   rw [if_pos (by simpa using hk)] at h;cases h;(try simp only [go_sem,simprocAttr,cell_of aZ,hk,aE,RV.ev,aF]);exact ⟨wT,m2⟩
  | false=>
   rw [if_neg (by simpa using hk)] at h;refine dO (fun ρ w'=>w2=w'∧ρ.get 2=some (.map (some sm))∧ρ.get 3=some (ptr b3)∧ρ.get 4=some (ptr b4)) ?_ ?_
   ·(try simp only [go_sem,simprocAttr,cell_of aZ,hk])
   rintro ρ _ ⟨rfl,g2,g3,g4⟩;cases dh:lP (iE p.aG n) t.args s with
   | none=>rw [dh] at h;cases h
   | some bs=>
   obtain ⟨bb,ss⟩:=bs;rw [dh] at h;refine dO (fun ρ w'=>bb=true∧cD w' sm RI ss∧Mod (· = sm) w2 w'∧ρ.get 2=some (.map (some sm))∧ρ.get 3=some (ptr b3)∧ρ.get 4=some (ptr b4)) ?_ ?_
   ·(try simp only [go_sem,simprocAttr,g2,g3,g4,cell_of aZ]);refine fx (fun z ρ w'=>∃ (i:Nat) (s1:bI),z=t.args.length - i∧i≤t.args.length∧lP (iE p.aG n) (t.args.drop i) s1=some (bb,ss)∧cD w' sm RI s1∧Mod (· = sm) w2 w'∧ρ.get 2=some (.map (some sm))∧ρ.get 3=some (ptr b3)∧ρ.get 4=some (ptr b4)∧ρ.get 19=some (.slice aa t.args.length ca)∧ρ.get 20=some (I t.args.length)∧ρ.get 21=some (I i)) t.args.length ⟨0,s,by omega,by omega,dh,wT,.refl _ _,rfl,rfl,rfl,rfl,rfl,rfl⟩ ?_;rintro z ρ w3 ⟨i,s1,rfl,hi,eN,rI,m23,g2,g3,g4,g19,g20,g21⟩;unfold Oc;by_cases q:i < t.args.length
    ·have b1:decide ((i:Int) < t.args.length)=true:=by simpa using q
     have p1:(0:Int)≤i∧(i:Int) < t.args.length:=by omega
     obtain ⟨ae',xQ,m3⟩:=box m23;have bV:=hl.mod m3 vO (fun _ _ h=>h.mod m3 vO);obtain ⟨pJ,c1,r1,e1,vP,oF,bQ,_⟩:=dL bV q;obtain ⟨rfl,-,-⟩:=b9 e1;(try simp only [go_sem,simprocAttr,g2,g3,g4,g19,g20,g21,b1]);(try simp only [go_sem,simprocAttr,bq,br,p1,bQ]);rw [Tl q] at eN;refine cQ ?_;intro w4 rU aA eA;have mO:=vP.len;obtain ⟨vr,er,aiU⟩:=vP.cells;(try simp only [go_sem,simprocAttr]);refine bN (vs:=r1) (cs:=[I 0,.string bD,.slice none 0 0]) rfl rfl rU mO rfl vP.one ?_;intro w5 bT aD eB;have Lp:Mod (fun _=>False) w3 w5:=aA.step aD (fun b hb hl=>by have e:b=w3.heap.size:=hb;omega);have Cs:Mod (· = sm) w2 w5:=m23.trans (Lp.aT (fun _ h=>h.elim));obtain ⟨Tm,afa,m5⟩:=box Cs;cases xR:iE p.aG n t.args[i] s1 with
     | none=>rw [xR] at eN;cases eN
     | some bs=>
     obtain ⟨b6,s6⟩:=bs;rw [xR] at eN;(try simp only [go_sem,simprocAttr,az (n:=2) (cs:=[.slice ad p.aG.length cd,vf]) Tm rfl,az (n:=3) (cs:=r1) bT mO]);refine aK (by rfl) ?_;refine (Lo p n t.args[i] (BG.mod m5 vO) ((vP.mod Lp (fun _ _ h=>h))) (rI.mod Lp _root_.id (fun _ _ x=>x)) hB xR).mono ?_;rintro _ w6 ⟨rfl,Tn,aJ⟩;have To:=Cs.trans aJ;have e3:IntKind.i64.wrap ((i:Int)+1)=((i+1:Nat):Int):=by rw [dk (by omega) (by omega)];omega
     cases b6 with
     | false=>
      cases eN;cases h;(try simp only [go_sem,simprocAttr,aE,RV.ev,aF]);exact ⟨Tn,m2.trans To⟩
     | true=>
      (try simp only [go_sem,simprocAttr,e3]);exact ⟨_,by omega,i+1,s6,rfl,q,eN,Tn,To,rfl⟩
    ·have b1:decide ((i:Int) < t.args.length)=false:=by simpa using q
     rw [List.drop_eq_nil_of_le (by omega),lP] at eN;cases eN;(try simp only [go_sem,simprocAttr,g2,g3,g4,g19,g20,g21,b1]);exact ⟨rI,m23⟩
   rintro ρ w3 ⟨rfl,rI,m23,g2,g3,g4⟩;obtain ⟨ae',xQ,m3⟩:=box m23;have h:(if t.kind≠4∨(aI ss t.name).getD 0 > 0 then some (true,ss) else oe (iE p.aG n) t.name p.aG (bK ss t.name 1))=some (b,s'):=h;refine dO (fun ρ w4=>t.kind=4∧¬ (aI ss t.name).getD 0 > 0∧w3=w4∧ρ.get 2=some (.map (some sm))∧ρ.get 3=some (ptr b3)∧ρ.get 4=some (ptr b4)) ?_ ?_
   ·cases h4:(t.kind != 4) with
    | true=>
     have Lq:t.kind≠4:=by simpa using h4
     rw [if_pos (.inl Lq)] at h;cases h;(try simp only [go_sem,simprocAttr,g2,g3,g4,cell_of xQ,h4,aE,RV.ev,aF]);exact ⟨rI,m3⟩
    | false=>
     have Lq:t.kind=4:=by simpa using h4
     (try simp only [go_sem,simprocAttr,g2,g3,g4,cell_of xQ,h4]);refine xd ?_;refine uL (k:=t.name) (b:=sm) (kt:=9) (et:=3) rfl rfl rfl rfl (zI _) rI ?_;cases hs:decide ((aI ss t.name).getD 0 > 0) with
     | true=>
      have dZ:(aI ss t.name).getD 0 > 0:=by simpa using hs
      rw [if_pos (.inr dZ)] at h;cases h;(try simp only [go_sem,simprocAttr,hs,aE,RV.ev,aF]);exact ⟨rI,m3⟩
     | false=>
      have dZ:¬ (aI ss t.name).getD 0 > 0:=by simpa using hs
      (try simp only [go_sem,simprocAttr,hs]);exact ⟨Lq,dZ⟩
   rintro ρ _ ⟨h4,hs,rfl,g2,g3,g4⟩;rw [if_neg (by rintro (h | h);exact h h4;exact hs h)] at h;refine dO (fun ρ w4=>cD w4 sm RI (bK ss t.name 1)∧Mod (· = sm) w3 w4∧ρ.get 2=some (.map (some sm))∧ρ.get 3=some (ptr b3)∧ρ.get 4=some (ptr b4)) ?_ ?_
   ·(try simp only [go_sem,simprocAttr,g2,g3,g4,cell_of xQ]);refine me (kt:=9) (et:=3) (b:=sm) (k:=t.name) (v:=I 1) (a:=(1:Int)) rfl rfl rfl rfl rfl rI rfl ?_;intro w4 BJ aA eA;(try simp only [go_sem,simprocAttr]);exact ⟨BJ,aA⟩
   rintro ρ w4 ⟨hM4,qY,g2,g3,g4⟩;have m24:=m23.trans qY;obtain ⟨La,Tp,m4⟩:=box m24;(try simp only [go_sem,simprocAttr,g2,g3,g4,cell_of La]);refine fx (fun z ρ w'=>∃ (i:Nat) (s1:bI),z=p.aG.length - i∧i≤p.aG.length∧oe (iE p.aG n) t.name (p.aG.drop i) s1=some (b,s')∧cD w' sm RI s1∧Mod (· = sm) w2 w'∧ρ.get 2=some (.map (some sm))∧ρ.get 3=some (ptr b3)∧ρ.get 4=some (ptr b4)∧ρ.get 45=some (.slice ad p.aG.length cd)∧ρ.get 46=some (I p.aG.length)∧ρ.get 47=some (I i)) p.aG.length ⟨0,_,by omega,by omega,h,hM4,m24,rfl,rfl,rfl,rfl,rfl,rfl⟩ ?_;rintro z ρ w5 ⟨i,s1,rfl,hi,eN,Tq,Cs,g2,g3,g4,vQ,vR,vS⟩;obtain ⟨Tm,afa,m5⟩:=box Cs;unfold Of;by_cases q:i < p.aG.length
   ·have b1:decide ((i:Int) < p.aG.length)=true:=by simpa using q
    have p1:(0:Int)≤i∧(i:Int) < p.aG.length:=by omega
    have e3:IntKind.i64.wrap ((i:Int)+1)=((i+1:Nat):Int):=by rw [dk (by omega) (by omega)];omega
    obtain ⟨pJ,c1,r1,e1,⟨vp,vc,rfl,gg,xO⟩,bV,bJ⟩:=io hd q;obtain ⟨rfl,-,-⟩:=b9 e1;obtain ⟨ac,cc,rfl⟩:=a8 xO;have pt:=du xO;obtain ⟨ap,cp,rfl⟩:=a8 gg;have bQ:=qg bV (bJ.up m5 vO (fun _ h=>h)).2;rw [ae9 q] at eN;(try simp only [go_sem,simprocAttr,g2,g3,g4,vQ,vR,vS,b1]);(try simp only [go_sem,simprocAttr,bq,br,p1,bQ]);refine cQ ?_;intro w6 bU aJ fY;(try simp only [go_sem,simprocAttr]);refine bN (vs:=[.string p.aG[i].name,.slice ap p.aG[i].params.length cp,.slice ac p.aG[i].cons.length cc]) (cs:=[.string bD,.slice none 0 0,.slice none 0 0]) rfl rfl bU rfl rfl (aW rfl (aW rfl (aW rfl dy))) ?_;intro w7 cH aL iL;have Tr:Mod (fun _=>False) w5 w7:=aJ.step aL (fun b hb hl=>by have e:b=w5.heap.size:=hb;omega);have Lr:Mod (· = sm) w2 w7:=Cs.trans (Tr.aT (fun _ h=>h.elim));obtain ⟨aiV,Tt,m7⟩:=box Lr;have Tu:=Tq.mod Tr _root_.id (fun _ _ x=>x);cases hn:aR p.aG[i].name t.name with
    | false=>
     have bw:p.aG[i].name≠t.name:=by have:=hn;rw [oH] at this;simpa using this
     rw [if_pos bw] at eN;rw [aR] at hn;(try simp only [go_sem,simprocAttr,cell_of cH,cell_of Tt,hn,e3]);exact ⟨_,by omega,i+1,s1,rfl,q,eN,Tu,Lr,rfl⟩
    | true=>
     have bw:p.aG[i].name=t.name:=by have:=hn;rw [oH] at this;simpa using this
     rw [if_neg (by simpa using bw)] at eN;rw [aR] at hn;cases Ay:qX (iE p.aG n) p.aG[i].cons s1 with
     | none=>rw [Ay] at eN;cases eN
     | some Ka=>
     obtain ⟨bc,sc⟩:=Ka;rw [Ay] at eN;(try simp only [go_sem,simprocAttr,cell_of cH,cell_of Tt,hn])
     refine fx (fun z ρ w'=>∃ (k:Nat) (s2:bI),z=p.aG[i].cons.length - k∧k≤p.aG[i].cons.length∧qX (iE p.aG n) (p.aG[i].cons.drop k) s2=some (bc,sc)∧cD w' sm RI s2∧Mod (· = sm) w2 w'∧ρ.get 2=some (.map (some sm))∧ρ.get 3=some (ptr b3)∧ρ.get 4=some (ptr b4)∧ρ.get 45=some (.slice (some pJ) p.aG.length cd)∧ρ.get 46=some (I p.aG.length)∧ρ.get 47=some (I i) ∧
      ρ.get 57=some (.slice ac p.aG[i].cons.length cc)∧ρ.get 58=some (I p.aG[i].cons.length)∧ρ.get 59=some (I k)) p.aG[i].cons.length ⟨0,s1,by omega,by omega,Ay,Tu,Lr,rfl,rfl,rfl,rfl,rfl,rfl,rfl,rfl,rfl⟩ ?_
     rintro z ρ w8 ⟨k,s2,rfl,hk,vT,Tv,Ls,g2,g3,g4,vQ,vR,vS,Ct,Cu,Cv⟩;obtain ⟨aiW,aiX,m8⟩:=box Ls;unfold Oe;by_cases q2:k < p.aG[i].cons.length
     ·have b2:decide ((k:Int) < p.aG[i].cons.length)=true:=by simpa using q2
      have p2:(0:Int)≤k∧(k:Int) < p.aG[i].cons.length:=by omega
      have e4:IntKind.i64.wrap ((k:Int)+1)=((k+1:Nat):Int):=by rw [dk (by omega) (by omega)];omega
      obtain ⟨lm,c2,r2,e2,⟨vf2,rfl,iX,_⟩,fC,yQ⟩:=io xO q2;obtain ⟨rfl,-,-⟩:=b9 e2;obtain ⟨af,cf,rfl⟩:=a8 iX;have j6:=du iX;have wW:=qg fC (yQ.up m8 vO (fun _ h=>h)).2;rw [ae8 q2] at vT;cases Lt:lP (iE p.aG n) p.aG[i].cons[k].fields s2 with
      | none=>rw [Lt] at vT;cases vT
      | some fs1=>
      obtain ⟨bf,sf⟩:=fs1;rw [Lt] at vT;(try simp only [go_sem,simprocAttr,g2,g3,g4,vQ,vR,vS,Ct,Cu,Cv,b2]);(try simp only [go_sem,simprocAttr,bq,br,p2,wW]);refine cQ ?_;intro w9 dp aV gZ;(try simp only [go_sem,simprocAttr]);refine bN (vs:=[.string p.aG[i].cons[k].name,.slice af p.aG[i].cons[k].fields.length cf]) (cs:=[.string bD,.slice none 0 0]) rfl rfl dp rfl rfl (aW rfl (aW rfl dy)) ?_;intro cV ff bE qp;have Tw:Mod (fun _=>False) w8 cV:=aV.step bE (fun b hb hl=>by have e:b=w8.heap.size:=hb;omega);have afb:Mod (· = sm) w2 cV:=Ls.trans (Tw.aT (fun _ h=>h.elim));have afc:=Tv.mod Tw _root_.id (fun _ _ x=>x);(try simp only [go_sem,simprocAttr,cell_of ff])
      refine fx (fun z ρ w'=>∃ (j:Nat) (s3:bI),z=p.aG[i].cons[k].fields.length - j∧j≤p.aG[i].cons[k].fields.length∧lP (iE p.aG n) (p.aG[i].cons[k].fields.drop j) s3=some (bf,sf)∧cD w' sm RI s3∧Mod (· = sm) w2 w'∧ρ.get 2=some (.map (some sm))∧ρ.get 3=some (ptr b3)∧ρ.get 4=some (ptr b4)∧ρ.get 45=some (.slice (some pJ) p.aG.length cd)∧ρ.get 46=some (I p.aG.length)∧ρ.get 47=some (I i) ∧
       ρ.get 57=some (.slice (some lm) p.aG[i].cons.length cc)∧ρ.get 58=some (I p.aG[i].cons.length)∧ρ.get 59=some (I k)∧ρ.get 64=some (.slice af p.aG[i].cons[k].fields.length cf)∧ρ.get 65=some (I p.aG[i].cons[k].fields.length)∧ρ.get 66=some (I j)) p.aG[i].cons[k].fields.length ⟨0,s2,by omega,by omega,Lt,afc,afb,rfl,rfl,rfl,rfl,rfl,rfl,rfl,rfl,rfl,rfl,rfl,rfl⟩ ?_
      rintro z ρ gA ⟨j,s3,rfl,hj,vU,Tx,Lu,g2,g3,g4,vQ,vR,vS,Ct,Cu,Cv,Tz,TA,TB⟩;obtain ⟨aiY,aiZ,m11⟩:=box Lu;unfold Od;by_cases q3:j < p.aG[i].cons[k].fields.length
      ·have Lv:decide ((j:Int) < p.aG[i].cons[k].fields.length)=true:=by simpa using q3
       have p3:(0:Int)≤j∧(j:Int) < p.aG[i].cons[k].fields.length:=by omega
       have e5:IntKind.i64.wrap ((j:Int)+1)=((j+1:Nat):Int):=by rw [dk (by omega) (by omega)];omega
       have afd:=iX.mod m11 vO (fun _ _ h=>h.mod m11 vO);obtain ⟨PD,c3,r3,e6,vP,oF,Lm,_⟩:=dL afd q3;obtain ⟨rfl,-,-⟩:=b9 e6;rw [Tl q3] at vU;cases xR:iE p.aG n p.aG[i].cons[k].fields[j] s3 with
       | none=>rw [xR] at vU;cases vU
       | some bs=>
       obtain ⟨b6,s6⟩:=bs;rw [xR] at vU;(try simp only [go_sem,simprocAttr,g2,g3,g4,vQ,vR,vS,Ct,Cu,Cv,Tz,TA,TB,Lv]);(try simp only [go_sem,simprocAttr,bq,br,p3,Lm]);refine cQ ?_;intro px pn fK DU;have mO:=vP.len;(try simp only [go_sem,simprocAttr]);refine bN (vs:=r3) (cs:=[I 0,.string bD,.slice none 0 0]) rfl rfl pn mO rfl vP.one ?_;intro Fz pF oN Tf;have Lw:Mod (fun _=>False) gA Fz:=fK.step oN (fun b hb hl=>by have e:b=gA.heap.size:=hb;omega);have TC:Mod (· = sm) w2 Fz:=Lu.trans (Lw.aT (fun _ h=>h.elim));obtain ⟨afe,ai0,m13⟩:=box TC;(try simp only [go_sem,simprocAttr,az (n:=2) (cs:=[.slice (some pJ) p.aG.length cd,vf]) afe rfl,az (n:=3) (cs:=r3) pF mO]);refine aK (by rfl) ?_;refine (Lo p n p.aG[i].cons[k].fields[j] (BG.mod m13 vO) (vP.mod Lw (fun _ _ h=>h)) (Tx.mod Lw _root_.id (fun _ _ x=>x)) hB xR).mono ?_;rintro _ FA ⟨rfl,TD,lI⟩;have TE:=TC.trans lI;cases b6 with
       | false=>
        cases vU;cases vT;cases eN;(try simp only [go_sem,simprocAttr,aE,RV.ev,aF]);exact ⟨TD,m2.trans TE⟩
       | true=>
        (try simp only [go_sem,simprocAttr,e5]);exact ⟨_,by omega,j+1,s6,rfl,q3,vU,TD,TE,rfl⟩
      ·have Lv:decide ((j:Int) < p.aG[i].cons[k].fields.length)=false:=by simpa using q3
       rw [List.drop_eq_nil_of_le (by omega),lP] at vU;cases vU;(try simp only [go_sem,simprocAttr,g2,g3,g4,vQ,vR,vS,Ct,Cu,Cv,Tz,TA,TB,Lv,e4]);exact ⟨_,by omega,k+1,_,rfl,q2,vT,Tx,Lu,rfl⟩
     ·have b2:decide ((k:Int) < p.aG[i].cons.length)=false:=by simpa using q2
      rw [List.drop_eq_nil_of_le (by omega),qX] at vT;cases vT;(try simp only [go_sem,simprocAttr,g2,g3,g4,vQ,vR,vS,Ct,Cu,Cv,b2,e3]);exact ⟨_,by omega,i+1,_,rfl,q,eN,Tv,Ls,rfl⟩
   ·have b1:decide ((i:Int) < p.aG.length)=false:=by simpa using q
    rw [List.drop_eq_nil_of_le (by omega),oe] at eN;cases eN;(try simp only [go_sem,simprocAttr,g2,g3,g4,vQ,vR,vS,b1,aE,RV.ev,aF]);exact ⟨Tq,m5⟩
end
section
open Go Go.W
def mG (d:Df):Ty×Bool:=if (d.type.kind == 3&&(match d.type.args with | a::_=>sv a | []=>false))=true then (d.type.args.getD 1 default,true) else (d.type,false)
def nr (f:Ty→Option Bool) (n:ByteArray):List Df→Option (Bool×Bool)
 | []=>some (false,false)
 | d::l=>if d.name≠n then nr f n l else if 0 < d.params.length then some (false,false) else (f (mG d).1).map (fun b=>((mG d).2,b))
theorem aff {f:Ty→Option Bool} {n:ByteArray} {l:List Df} {i:Nat} (hi:i < l.length):nr f n (l.drop i)=if l[i].name≠n then nr f n (l.drop (i+1)) else if 0 < l[i].params.length then some (false,false) else (f (mG l[i]).1).map (fun b=>((mG l[i]).2,b)):=by rw [List.drop_eq_getElem_cons hi,nr]
def xS (ds:List Dt) (n:Nat) (t:Ty):Option Bool:=(iE ds n t []).map (·.1)
def sE (p:Pg) (n:Nat) (name:ByteArray):Option (Bool×Bool):=nr (xS p.aG n) name p.an
def TF (t:Ty):Prop:=(t.kind=3→t.args.length=2)∧∀ a,t.kind=3→t.args[0]? = some a→a.kind=4→a.name=tX→0 < a.args.length
theorem TG (d:Df) (hk:d.type.kind=3) (h2:d.type.args.length=2):mG d=if sv d.type.args[0]=true then (d.type.args[1],true) else (d.type,false):=by
 obtain ⟨x,y,jq⟩:=B7 h2;have e0:d.type.args[0]=x:=by simp [jq]
 have e1:d.type.args[1]=y:=by simp [jq]
 unfold mG;rw [e0,e1,hk,jq];rfl
theorem afg (p:Pg) {n:Nat} {name:ByteArray} {w:World} {cs:List Value} {cm:Bool×Bool} (h:jr w (Out (fun _=>False) w) cs p) (iB:∀ d∈p.an,TF d.type) (aS:sE p n name=some cm) :
   ba Tryz.prog 24 [.agg cs.toArray,.string name] w fun v w'=>v = .tuple #[.bool cm.1,.bool cm.2]∧Mod (fun _=>False) w w':=by
 have h0:=h;obtain ⟨vd,vf,rfl,hd,hf⟩:=h;obtain ⟨af,cf,rfl⟩:=a8 hf;have j6:=du hf;refine XB.calls rfl ?_;unfold Hk;(try simp only [go_sem,simprocAttr]);refine bB rfl ?_;intro w1 au ak bP;have z1:w1.heap.size=w.heap.size+1:=bP;(try simp only [go_sem,simprocAttr,cell_of au]);refine fx (fun z ρ w'=>∃ i:Nat,z=p.an.length - i∧i≤p.an.length∧nr (xS p.aG n) name (p.an.drop i)=some cm∧Mod (fun _=>False) w1 w'∧ρ.get 1=some (.string name)∧ρ.get 2=some (ptr w.heap.size)∧ρ.get 11=some (.slice af p.an.length cf)∧ρ.get 12=some (I p.an.length)∧ρ.get 13=some (I i)) p.an.length ⟨0,by omega,by omega,aS,.refl _ _,rfl,rfl,rfl,rfl,rfl⟩ ?_;rintro z ρ w2 ⟨i,rfl,hi,he,ai,g1,g2,g11,g12,g13⟩;have aY:=ak.trans ai;have aw:=ai.at au _root_.id;unfold N5;by_cases q:i < p.an.length
 ·have b1:decide ((i:Int) < p.an.length)=true:=by simpa using q
  have p1:(0:Int)≤i∧(i:Int) < p.an.length:=by omega
  have e3:IntKind.i64.wrap ((i:Int)+1)=((i+1:Nat):Int):=by rw [dk (by omega) (by omega)];omega
  obtain ⟨pJ,c1,r1,e1,zM,so,bJ⟩:=io hf q;obtain ⟨rfl,-,-⟩:=b9 e1;have gu:=zM.one;obtain ⟨vp,tc,bc,rfl,qG,Lk,gg,bz,gm,_⟩:=zM;obtain ⟨ap,cp,rfl⟩:=a8 gg;have bQ:=qg so (bJ.up aY aC (fun _ h=>h)).2;rw [aff q] at he;(try simp only [go_sem,simprocAttr,g1,g2,g11,g12,g13,b1]);(try simp only [go_sem,simprocAttr,bq,br,p1,bQ]);refine cQ ?_;intro w3 aO ar eR;(try simp only [go_sem,simprocAttr]);refine bN (vs:=.string p.an[i].name :: .slice ap p.an[i].params.length cp::(tc++bc)) (cs:=[.string bD,.slice none 0 0,I 0,.string bD,.slice none 0 0,I 0,.string bD,I 0,.slice none 0 0,.slice none 0 0,.slice none 0 0,.slice none 0 0]) rfl rfl aO so rfl gu ?_;intro w4 aZ aA eA;have m24:Mod (fun _=>False) w2 w4:=ar.step aA (fun b hb hl=>by have e:b=w2.heap.size:=hb;omega);have eG:=aY.trans m24;cases hn:aR p.an[i].name name with
  | false=>
   have bw:p.an[i].name≠name:=by have:=hn;rw [oH] at this;simpa using this
   rw [if_pos bw] at he;rw [aR] at hn;(try simp only [go_sem,simprocAttr,cell_of aZ,hn,e3]);exact ⟨_,by omega,i+1,rfl,q,he,ai.trans m24,rfl⟩
  | true=>
   have bw:p.an[i].name=name:=by have:=hn;rw [oH] at this;simpa using this
   rw [if_neg (by simpa using bw)] at he;rw [aR] at hn;by_cases hp:0 < p.an[i].params.length
   ·rw [if_pos hp] at he;cases he;have b2:decide ((p.an[i].params.length:Int) > 0)=true:=decide_eq_true (by omega);(try simp only [go_sem,simprocAttr,cell_of aZ,hn,b2,aE,RV.ev,aF]);exact eG
   ·rw [if_neg hp] at he;have b2:decide ((p.an[i].params.length:Int) > 0)=false:=decide_eq_false (by omega);have TH:=iB _ (List.getElem_mem q);obtain ⟨vt,rfl,Lx⟩:=bz.cells;obtain ⟨at',ct,rfl⟩:=a8 Lx;have wW:fV w4 3 (.pointer (some ⟨w2.heap.size,2,none⟩))=some (.agg [I p.an[i].type.kind,.string p.an[i].type.name,.slice at' p.an[i].type.args.length ct].toArray):=by
     have:=gF (off:=2) (n:=3) aZ (by simp)
     simpa using this
    cases FC:xS p.aG n (mG p.an[i]).1 with
    | none=>rw [FC] at he;cases he
    | some bp=>
    rw [FC] at he;have zN:cm=((mG p.an[i]).2,bp):=by cases he;rfl
    obtain ⟨ss,eN⟩:∃ ss,iE p.aG n (mG p.an[i]).1 []=some (bp,ss):=by
     unfold xS at FC;obtain ⟨x,h1,rfl⟩:=Option.map_eq_some_iff.1 FC;exact ⟨x.2,h1⟩
    have z4:=eG.size;have Ly:∀ {w9:World} {ct:List Value} {tt:Ty} {sm:Nat},Mod (fun _=>False) w w9→w.heap.size≤sm→cD w9 sm RI []→aX w9 (Out (fun _=>False) w) ct tt→iE p.aG n tt []=some (bp,ss) →
        ba Tryz.prog 34 [.agg [vd,.slice (some pJ) p.an.length cf].toArray,.agg ct.toArray,.map (some sm)] w9 fun v cV=>v = .bool bp∧Mod (fun _=>False) w cV:=fun {w9 ct tt sm} aV cF nz bz eN=>by
     refine (Lo p n tt (h0.mod aV aC) bz nz (fun hb=>by have:=hb.1;omega) eN).mono ?_;rintro _ cV ⟨rfl,_,bE⟩;exact ⟨rfl,aV.step bE (fun b hb hl=>by have e:b=sm:=hb;omega)⟩
    (try simp only [go_sem,simprocAttr,cell_of aZ,hn,b2,wW]);refine cQ ?_;intro w5 bT aD eB;(try simp only [go_sem,simprocAttr]);refine bN (vs:=[I p.an[i].type.kind,.string p.an[i].type.name,.slice at' p.an[i].type.args.length ct]) (cs:=[I 0,.string bD,.slice none 0 0]) rfl rfl bT rfl rfl (aW rfl (aW rfl (aW rfl dy))) ?_;intro w6 bU aJ fY;have TI:Mod (fun _=>False) w4 w6:=aD.step aJ (fun b hb hl=>by have e:b=w4.heap.size:=hb;omega);have kB:=eG.trans TI;have TJ:w6.heap[w.heap.size]? = some (.cells [vd,.slice (some pJ) p.an.length cf].toArray 25 (0,0)):=(m24.trans TI).at aw _root_.id;cases hk:p.an[i].type.kind == 3 with
    | false=>
     have zO:mG p.an[i]=(p.an[i].type,false):=by unfold mG;rw [hk];try rfl
     rw [zO] at eN zN;have Cw:=az (n:=2) (cs:=[vd,.slice (some pJ) p.an.length cf]) TJ rfl;have Cy:=az (n:=3) (cs:=[I p.an[i].type.kind,.string p.an[i].type.name,.slice at' p.an[i].type.args.length ct]) bU rfl;have vV:=kB;(try simp only [go_sem,simprocAttr,cell_of bU,hk,Cw,Cy]);refine pq (α:=Int) RI ?_;intro w9 Cz aV gZ;have nJ:=vV.trans aV;(try simp only [go_sem,simprocAttr]);refine aK (by rfl) ?_;refine (Ly nJ vV.size Cz (bz.mod nJ aC) eN).mono ?_;rintro _ cV ⟨rfl,bE⟩;(try simp only [go_sem,simprocAttr,aE,RV.ev,aF]);rw [zN];exact ⟨rfl,bE⟩
    | true=>
     have wQ:p.an[i].type.kind=3:=by simpa using hk
     have fC:=TH.1 wQ;have p0:(0:Int)≤0∧(0:Int) < p.an[i].type.args.length:=by omega
     have p1':(0:Int)≤1∧(1:Int) < p.an[i].type.args.length:=by omega
     have t1:Int.toNat 1=1:=rfl;obtain ⟨y5,cta,ra,ea,afh,afi,afj⟩:=io Lx (show 0 < p.an[i].type.args.length by omega);obtain ⟨rfl,-,-⟩:=b9 ea;obtain ⟨ai1,ai2,TK,ea',Lz,afk,afl⟩:=io Lx (show 1 < p.an[i].type.args.length by omega);obtain ⟨ea9,-,-⟩:=b9 ea';cases ea9;have xC:p.an[i].type.args[0]? = some p.an[i].type.args[0]:=List.getElem?_eq_getElem (by omega);have TL:=qg afi (afj.up kB aC (fun _ h=>h)).2;rw [Nat.zero_mul,add_zero'] at TL;have zO:=TG p.an[i] wQ fC;(try simp only [go_sem,simprocAttr,cell_of bU,hk]);(try simp only [go_sem,simprocAttr,bq,br,p0,Nat.zero_mul,TL]);refine aK (by rfl) ?_;refine (adT _ (afh.mod kB aC) (fun h1 h2=>TH.2 _ wQ xC h1 h2)).mono ?_;rintro _ w7 ⟨rfl,aL⟩;have pB:=kB.trans aL;have TM:=aL.at TJ _root_.id;have LA:=aL.at bU _root_.id;have Cw:=az (n:=2) (cs:=[vd,.slice (some pJ) p.an.length cf]) TM rfl;have Cy:=az (n:=3) (cs:=[I p.an[i].type.kind,.string p.an[i].type.name,.slice (some y5) p.an[i].type.args.length ct]) LA rfl;cases zP:sv p.an[i].type.args[0] with
     | false=>
      rw [zP] at zO;rw [zO,if_neg (by simp)] at eN zN;have vV:=pB;(try simp only [go_sem,simprocAttr,Cw,Cy]);refine pq (α:=Int) RI ?_;intro w9 Cz aV gZ;have nJ:=vV.trans aV;(try simp only [go_sem,simprocAttr]);refine aK (by rfl) ?_;refine (Ly nJ vV.size Cz (bz.mod nJ aC) eN).mono ?_;rintro _ cV ⟨rfl,bE⟩;(try simp only [go_sem,simprocAttr,aE,RV.ev,aF]);rw [zN];exact ⟨rfl,bE⟩
     | true=>
      rw [zP] at zO;rw [zO,if_pos rfl] at eN zN;have TN:=qg afk (afl.up pB aC (fun _ h=>h)).2;have mO:=Lz.len;rw [Nat.one_mul,add_pos _ (by decide)] at TN;(try simp only [go_sem,simprocAttr,cell_of LA]);(try simp only [go_sem,simprocAttr,bq,br,p1',t1,Nat.one_mul,TN]);refine bN (vs:=TK) (cs:=[I p.an[i].type.kind,.string p.an[i].type.name,.slice (some y5) p.an[i].type.args.length ct]) rfl rfl LA mO rfl Lz.one ?_;intro w8 cO bh mP;have vV:Mod (fun _=>False) w w8:=pB.step bh (fun b hb hl=>by have e:b=w4.heap.size:=hb;have:=eG.size;omega);have Rw:w.heap.size < w4.heap.size:=by have:=ai.size;have:=m24.size;omega
      have afm:=bh.at TM (fun e=>by have e':w.heap.size=w4.heap.size:=e;omega);have Cw:=az (n:=2) (cs:=[vd,.slice (some pJ) p.an.length cf]) afm rfl;have Cy:=az (n:=3) (cs:=TK) cO mO;(try simp only [go_sem,simprocAttr,Cw,Cy]);refine pq (α:=Int) RI ?_;intro w9 Cz aV gZ;have nJ:=vV.trans aV;(try simp only [go_sem,simprocAttr]);refine aK (by rfl) ?_;refine (Ly nJ vV.size Cz (Lz.mod nJ aC) eN).mono ?_;rintro _ cV ⟨rfl,bE⟩;(try simp only [go_sem,simprocAttr,aE,RV.ev,aF]);rw [zN];exact ⟨rfl,bE⟩
 ·have b1:decide ((i:Int) < p.an.length)=false:=by simpa using q
  rw [List.drop_eq_nil_of_le (by omega),nr] at he;cases he;(try simp only [go_sem,simprocAttr,g1,g2,g11,g12,g13,b1,aE,RV.ev,aF]);exact aY
end
section
open Go Go.W
abbrev kO:Nat:=16777216
def pU (n:ByteArray):Ex:=.mk 3 n 0 [] [] [] []
def runM (p:Pg) (fuel:Int) (name:ByteArray) (gk:Bool) (input:List Int):Option Rn:=
 match dB (eJ p fuel) kO (.go (pU name) []) (fU p) with
 | none=>none
 | some (none,m)=>some m
 | some (some x,m)=>
  if gk=true then
   match oX (eJ p fuel) kO x (m.ls input).cells.length ((m.ls input).new (dN input m.cells).1) with
   | none=>none
   | some (none,m)=>some m
   | some (some y,m)=>iq (eJ p fuel) kO y [] m
  else iq (eJ p fuel) kO x [] m
def vW (input:List Int):Bool:=input.any (fun n=>decide (n < -4611686018427387904)||decide (n > 4611686018427387903))
noncomputable def qZ (p:Pg) (N:Nat) (name:ByteArray) (input:List Int) (fuel:Int):Option (Int×Option Rn):=
 if 10000 < input.length then some (2,none)
 else if vW input=true then some (1,none)
 else if fuel < 0∨fuel > 1048576 then some (1,none)
 else if gB p≠0 then some (gB p,none)
 else match sE p N name with
  | none=>none
  | some (_,false)=>some (100,none)
  | some (gk,true)=>(runM p fuel name gk input).map (fun m=>(0,some m))
theorem afn {E E':Env} {d:Df} (h:nd E d = .ok E'):E'.aG=E.aG∧d.type.wf E=true:=by
 unfold nd at h
 split at h
 ·cases h
 ·split at h
  ·cases h
  ·split at h
   ·cases h
   ·rename_i hr;cases h;refine ⟨rfl,?_⟩;have:=(xf (by simpa using hr)).1;rw [← xw (E:={ E with params:=j7 d.params []}) (E':=E) rfl];exact this
theorem LB:∀ (l:List Df) (E E':Env),fk l E = .ok E'→E'.aG=E.aG∧∀ d∈l,d.type.wf E=true
 | [],E,E',h=>by rw [fk] at h;cases h;exact ⟨rfl,fun d hd=>(by cases hd)⟩
 | d::l,E,E',h=>by
  rw [fk] at h
  split at h
  ·cases h
  ·rename_i E1 h1;obtain ⟨a1,a2⟩:=afn h1;obtain ⟨b1,b2⟩:=LB l E1 E' h;refine ⟨b1.trans a1,fun x hx=>?_⟩;rcases List.mem_cons.1 hx with rfl | hx
   ·exact a2
   ·rw [← xw a1];exact b2 x hx
theorem FD {p:Pg} {E:Env} (h:jG p = .ok E):∃ E1,kK hH p.aG = .ok E1∧fk p.an E1 = .ok E∧jF E p.an=0:=by
 unfold jG at h
 split at h
 ·cases h
 ·split at h
  ·cases h
  ·split at h
   ·cases h
   ·rename_i E1 h1
    split at h
    ·cases h
    ·rename_i E2 h2
     split at h
     ·cases h
     ·rename_i h3;cases h;exact ⟨E1,h1,h2,by simpa using h3⟩
theorem LC {p:Pg} (h:gB p=0):∃ E,jG p = .ok E:=by
 unfold gB at h
 split at h
 ·rename_i e he;exfalso;subst h;have key:∀ (x:Except Int Env),jG p=x→(∀ e,x = .error e→e≠0):=by
   intro x hx e pi h0;subst pi h0;unfold jG at hx
   split at hx
   ·cases hx
   ·split at hx
    ·cases hx
    ·split at hx
     ·rename_i e1 h1;cases hx;unfold kK at h1
      split at h1
      ·rename_i e2 h2;cases h1;have hd:∀ (l:List Dt) (E:Env),lG l E≠.error 0:=by
        intro l
        induction l with
        | nil=>intro E h;rw [lG] at h;cases h
        | cons d l ih=>
         intro E h;rw [lG] at h
         split at h
         ·rename_i hn
          injection h with h
          rw [h] at hn;simp at hn
         ·exact ih _ h
       exact hd _ _ h2
      ·split at h1
       ·cases h1
       ·cases h1
     ·split at hx
      ·rename_i e1 h1;cases hx;have hd:∀ (l:List Df) (E:Env),fk l E≠.error 0:=by
        intro l
        induction l with
        | nil=>intro E h;rw [fk] at h;cases h
        | cons d l ih=>
         intro E h;rw [fk] at h
         split at h
         ·rename_i e3 h3;cases h;unfold nd at h3
          split at h3
          ·cases h3
          ·split at h3
           ·cases h3
           ·split at h3
            ·cases h3
            ·cases h3
         ·exact ih _ h
       exact hd _ _ h1
      ·split at hx
       ·rename_i hn
        injection hx with hx
        rw [hx] at hn;simp at hn
       ·cases hx
  exact key _ he 0 rfl rfl
 ·rename_i E hE;exact ⟨E,hE⟩
theorem TO {l:List Dt} {E:Env} (h:kK hH l = .ok E):aI E.aG tX=some dList:=by
 unfold kK at h
 split at h
 ·cases h
 ·rename_i E' oV
  split at h
  ·cases h;obtain ⟨_,hk⟩:=Ko l hH E iP Kq oV;exact hk _ _ Q2
  ·cases h
theorem TP {p:Pg} (h:gB p=0):∀ d∈p.an,TF d.type:=by
 obtain ⟨E,hE⟩:=LC h;obtain ⟨E1,h1,h2,_⟩:=FD hE;obtain ⟨_,h3⟩:=LB _ _ _ h2;intro d hd;have hw:=h3 d hd;refine ⟨fun hk=>Jq hw hk,fun a hk ha ma hn=>?_⟩;have FE:a.wf E1=true:=Jp hw (List.mem_of_getElem? ha);rw [a.nS,ma,Bool.and_eq_true,Bool.and_eq_true] at FE;have hb:dm E1 a.name a.args.length=false:=by simpa using FE.1.2
 unfold dm at hb;rw [hn,TO h1] at hb;have h5:(dList.params.length:Int)=a.args.length:=by simpa using hb
 have h6:dList.params.length=1:=rfl;omega
end
section
open Go Go.W
structure sF (X:Cx) (m m':Rn):Prop where
 told:∃ l,m'.told=m.told++l∧(l.length:Int)≤m'.steps - m.steps
 steps:m.steps≤m'.steps
 fuel:m.steps≤X.fuel→m'.steps≤X.fuel
 xz:(m'.kind=2∧m'.stuck=m.stuck)∨(m'.kind=4∧m'.steps=X.fuel∧m'.stuck=m.stuck)∨m'.kind=3
theorem sF.from {X:Cx} {m m1 m':Rn} (h:sF X m1 m') {l:List (ByteArray×Int)} (h1:m1.told=m.told++l) (h2:(l.length:Int)≤m1.steps - m.steps) (h3:m.steps≤X.fuel→m1.steps≤X.fuel) (h4:m1.stuck=m.stuck):sF X m m':=by
 obtain ⟨⟨l2,a1,a2⟩,b,c,d⟩:=h;refine ⟨⟨l++l2,by rw [a1,h1,List.append_assoc],by rw [List.length_append];omega⟩,by omega,fun hh=>c (h3 hh),?_⟩;rcases d with ⟨d1,d2⟩ | ⟨d1,d2,d3⟩ | d
 ·exact .inl ⟨d1,d2.trans h4⟩
 ·exact .inr (.inl ⟨d1,d2,d3.trans h4⟩)
 ·exact .inr (.inr d)
theorem sF.LD {X:Cx} {m m':Rn} (h:xK X m (none,m')):sF X m m':=by
 have h1:m'.told=m.told:=h.told;have h2:m.steps≤m'.steps:=h.steps;refine ⟨⟨[],by rw [h1,List.append_nil],by simp;omega⟩,h2,h.fuel,?_⟩;rcases h.stop rfl with ⟨a,b,c⟩ | a
 ·exact .inr (.inl ⟨a,b,c⟩)
 ·exact .inr (.inr a)
theorem afo (x:Cl):(lL x).length≤1:=by cases x<;>simp [lL]
theorem LF {X:Cx}:∀ (n:Nat) {x:Cl} {ws:List Nat} {m m':Rn},iq X n x ws m=some m'→m.a7=[]→sF X m m'
 | 0,x,ws,m,m',h,_=>by rw [iq] at h;cases h
 | n+1,x,ws,m,m',h,hf=>by
  rw [iq] at h;have yA:=afo x;rcases vI X m with ⟨h1,h2⟩ | ⟨h1,h2⟩
  ·rw [h2,if_pos rfl] at h;cases h;exact ⟨⟨[],by simp,by simp⟩,Int.le_refl _,fun h=>h,.inr (.inl ⟨rfl,h1,rfl⟩)⟩
  ·rw [h2,if_neg (by simp)] at h;simp only at h
   split at h
   ·cases h
   ·split at h
    ·cases h;exact ⟨⟨lL x,rfl,by simp;omega⟩,by simp;omega,fun hh=>by simp only;omega,.inl ⟨rfl,rfl⟩⟩
    ·split at h
     ·cases h
     ·rename_i c m3 ny;cases h;have k:=sF.LD (Fl ny hf);exact k.from (m:=m) (l:=lL x) rfl (by simp only;omega) (fun hh=>by simp only;omega) rfl
     ·rename_i c y m3 ny;have g:=Fl ny hf;obtain ⟨g1,g2,g3⟩:=g.val y rfl;have gt:m3.told=m.told++lL x:=g.told;have gs:m.steps+1≤m3.steps:=g.steps;have gf:m.steps+1≤X.fuel→m3.steps≤X.fuel:=g.fuel;exact (LF n h g3).from (l:=lL x) gt (by omega) (fun hh=>gf (by omega)) g2
theorem FF {X:Cx} {n c:Nat} {f:Cl} {m:Rn} {r:Option Cl×Rn} (h:oX X n f c m=some r) (hf:m.a7=[]):xK X m r:=by
 unfold oX at h;cases hg:j8 m f c with
 | none=>rw [hg] at h;cases h
 | some rr=>
 rw [hg] at h;have k:=Fh hg
 match rr,h,k,hg with
 | (none,m'),h,k,hg=>
  cases h;have ks:m'.steps=m.steps:=k.steps;exact ⟨k.told,by show m.steps≤m'.steps;omega,fun hh=>by show m'.steps≤_;omega,fun x hx=>by (cases hx),fun _=>.inr (k.stop rfl)⟩
 | (some (.val x),m'),h,k,hg=>
  cases h;have:m'=m:=by
   unfold j8 at hg
   split at hg
   ·split at hg<;>cases hg
   ·split at hg
    ·cases hg;rfl
    ·cases hg
   ·cases hg
  subst this;exact ⟨rfl,Int.le_refl _,fun h=>h,fun _ _=>⟨rfl,rfl,hf⟩,fun hn=>by cases hn⟩
 | (some (.go e v),m'),h,k,hg=>
  have ks:m'.steps=m.steps:=k.steps;exact (vJ n h).from k.told (by omega) (fun hh=>by omega) (k.go _ rfl)
theorem afp {p:Pg} {fuel:Int} {name:ByteArray} {gk:Bool} {input:List Int} {m:Rn} (h:runM p fuel name gk input=some m):sF (eJ p fuel) (fU p) m:=by
 unfold runM at h
 split at h
 ·cases h
 ·rename_i m1 hg;cases h;exact sF.LD (vJ _ hg)
 ·rename_i x m1 hg;have k:=vJ _ hg;obtain ⟨k1,k2,k3⟩:=k.val x rfl;have kt:m1.told=(fU p).told:=k.told;have ks:(fU p).steps≤m1.steps:=k.steps;have kf:(fU p).steps≤(eJ p fuel).fuel→m1.steps≤(eJ p fuel).fuel:=k.fuel
  split at h
  ·split at h
   ·cases h
   ·rename_i m2 ha;cases h;exact (sF.LD (FF ha (show m1.a7=[] from k3))).from (l:=[]) (by rw [List.append_nil];exact kt) (by simp;exact ks) kf k2
   ·rename_i y m2 ha;have g:=FF ha (show m1.a7=[] from k3);obtain ⟨g1,g2,g3⟩:=g.val y rfl;have gt:m2.told=m1.told:=g.told;have gs:m1.steps≤m2.steps:=g.steps;have gf:m1.steps≤(eJ p fuel).fuel→m2.steps≤(eJ p fuel).fuel:=g.fuel;exact (LF _ h g3).from (l:=[]) (by rw [gt,kt,List.append_nil]) (by simp;omega) (fun hh=>gf (kf hh)) (g2.trans k2)
  ·exact (LF _ h k3).from (l:=[]) (by rw [kt,List.append_nil]) (by simp;exact ks) kf k2
end
section
open Go Go.W
theorem TQ {E:Env}:∀ (l:List Cn) (m:bI),oU E l m=true→∀ k∈l,aI E.cons k.name=none∧k.fields.length≤8
 | [],m,_,k,hk=>by cases hk
 | c::l,m,h,k,hk=>by
  rw [oU] at h
  split at h
  ·cases h
  ·rename_i hn;simp only [Bool.or_eq_true,not_or,decide_eq_true_eq] at hn;obtain ⟨⟨h1,h2⟩,h3⟩:=hn;rcases List.mem_cons.1 hk with rfl | hk
   ·refine ⟨?_,by omega⟩;cases hx:aI E.cons k.name with
    | none=>rfl
    | some y=>rw [hx] at h1;simp at h1
   ·exact TQ l _ h k hk
theorem afq {E:Env} {d:Dt} (h:na E d=0):∀ k∈d.cons,aI E.cons k.name=none∧k.fields.length≤8:=by
 unfold na at h
 split at h
 ·cases h
 ·split at h
  ·cases h
  ·split at h
   ·cases h
   ·rename_i hs;exact TQ d.cons [] (by simpa using hs)
theorem TR {d:Dt}:∀ (ks:List Cn) (i:Nat) (m:List (ByteArray×(Dt×Nat))) (n:ByteArray),(∀ k∈ks,k.name≠n)→aI (mY d ks i m) n=aI m n
 | [],_,m,n,_=>rfl
 | k::ks,i,m,n,h=>by
  rw [mY,TR ks (i+1) _ n (fun c hc=>h c (by simp [hc])),jh,if_neg (h k (by simp))]
theorem TT {d:Dt}:∀ (ks:List Cn) (i:Nat) (m:List (ByteArray×(Dt×Nat))) (f:List (ByteArray×Int)),d.cons.drop i=ks→(∀ n x,aI m n=some x→(aI f n).getD 0=(de x.1 x.2).length) →
   ∀ n x,aI (mY d ks i m) n=some x→(aI (pS ks f) n).getD 0=(de x.1 x.2).length
 | [],_,m,f,_,h,n,x,hx=>h n x hx
 | k::ks,i,m,f,hd,h,n,x,hx=>by
  rw [mY] at hx;rw [pS];have hi:i < d.cons.length:=by
   apply Classical.byContradiction;intro hn;rw [List.drop_eq_nil_of_le (by omega)] at hd;cases hd
  rw [List.drop_eq_getElem_cons hi] at hd
  injection hd with hk eO
  refine TT ks (i+1) _ _ eO (fun n x hx=>?_) n x hx;rw [jh] at hx ⊢;by_cases hn:k.name=n
  ·rw [if_pos hn] at hx ⊢;cases hx;have:de d i=k.fields:=by
    unfold de;rw [List.getD_eq_getElem?_getD,List.getElem?_map,List.getElem?_eq_getElem hi,hk];rfl
   rw [this];try rfl
  ·rw [if_neg hn] at hx ⊢;exact h n x hx
theorem afr {d:Dt} (hl:∀ k∈d.cons,k.fields.length≤8) (i:Nat):(de d i).length≤8:=by
 unfold de;rw [List.getD_eq_getElem?_getD,List.getElem?_map];cases hx:d.cons[i]? with
 | none=>simp
 | some k=>exact hl k (List.mem_of_getElem? hx)
theorem afs {d:Dt} {i:Nat} {F:Ty} (h:F∈de d i):∃ k∈d.cons,F∈k.fields:=by
 unfold de at h;rw [List.getD_eq_getElem?_getD,List.getElem?_map] at h;cases hx:d.cons[i]? with
 | none=>rw [hx] at h;cases h
 | some k=>rw [hx] at h;exact ⟨k,List.mem_of_getElem? hx,h⟩
structure FG (E:Env) (fs:List (ByteArray×Int)) (l:List Dt):Prop where
 LG:pG E l
 fields:∀ n x,aI E.cons n=some x→(aI fs n).getD 0=(de x.1 x.2).length
 len:∀ n x,aI E.cons n=some x→(de x.1 x.2).length≤8
theorem TU:∀ (l:List Dt) (E E':Env) (fs:List (ByteArray×Int)) (l0:List Dt),FG E fs l0→lG l E = .ok E'→FG E' (sC l fs) (l0++l)∧∀ n x,aI E.cons n=some x→aI E'.cons n=some x
 | [],E,E',fs,l0,h,hd=>by rw [lG] at hd;cases hd;exact ⟨by rw [List.append_nil];exact h,fun _ _ h=>h⟩
 | d::l,E,E',fs,l0,h,hd=>by
  rw [lG] at hd
  split at hd
  ·cases hd
  ·rename_i h0;have h0:na E d=0:=by simpa using h0
   have hc:=afq h0;have h1:FG (pA E d) (pS d.cons fs) (l0++[d]):=by
    refine ⟨h.LG.enter (Q1 h0) (fun x hx=>by simp [hx]) (by simp),fun n x hx=>?_,fun n x hx=>?_⟩
    ·exact TT d.cons 0 E.cons fs (by simp) h.fields n x hx
    ·rcases Km _ _ _ _ _ hx with h2 | h2
     ·exact h.len n x h2
     ·rw [h2];exact afr (fun k hk=>(hc k hk).2) _
   obtain ⟨h2,h3⟩:=TU l _ E' _ (l0++[d]) h1 hd;refine ⟨by rw [List.append_assoc] at h2;exact h2,fun n x hx=>h3 n x ?_⟩;show aI (mY d d.cons 0 E.cons) n=some x
   rw [TR _ _ _ _ (fun k hk e=>by
    have:=(hc k hk).1
    rw [e,hx] at this;cases this)]
   exact hx
theorem zQ:hH.cons=[(tT,(jg,0)),(tS,(jg,1)),(⟨#[85,110,105,116]⟩,(pC,0)),(⟨#[78,105,108]⟩,(dList,0)),(zL,(dList,1)),(Ck,(pD,0)),(Cm,(pE,0))]:=by rfl
theorem aft:FG hH sD iP:=by
 refine ⟨Kq,fun n x hx=>?_,fun n x hx=>?_⟩
 ·rw [zQ] at hx;unfold sD;simp only [nY,Kl] at hx ⊢;by_cases h1:tT=n
  ·subst h1;cases hx;rfl
  by_cases h2:tS=n
  ·subst h2;cases hx;rfl
  by_cases h3:(⟨#[85,110,105,116]⟩:ByteArray)=n
  ·subst h3;cases hx;rfl
  by_cases h4:(⟨#[78,105,108]⟩:ByteArray)=n
  ·subst h4;cases hx;rfl
  by_cases h5:zL=n
  ·subst h5;cases hx;rfl
  by_cases h6:Ck=n
  ·subst h6;cases hx;rfl
  by_cases h7:Cm=n
  ·subst h7;cases hx;rfl
  rw [if_neg h1,if_neg h2,if_neg h3,if_neg h4,if_neg h5,if_neg h6,if_neg h7] at hx;cases hx
 ·rw [zQ] at hx;have key:∀ p∈([(tT,(jg,0)),(tS,(jg,1)),(⟨#[85,110,105,116]⟩,(pC,0)),(⟨#[78,105,108]⟩,(dList,0)),(zL,(dList,1)),(Ck,(pD,0)),(Cm,(pE,0))]:List (ByteArray×(Dt×Nat))),(de p.2.1 p.2.2).length≤8:=by
   intro p hp;simp only [List.mem_cons,List.not_mem_nil,or_false] at hp;rcases hp with rfl | rfl | rfl | rfl | rfl | rfl | rfl<;>decide
  obtain ⟨p,hp,_,rfl⟩:=Pu hx;exact key p hp
theorem afu:∀ d∈iP,∀ k∈d.cons,∀ F∈k.fields,F.gj d.params=true:=by
 intro d hd k hk F hF;simp only [iP,List.mem_cons,List.not_mem_nil,or_false] at hd;rcases hd with rfl | rfl | rfl | rfl | rfl<;>simp only [List.mem_cons,List.not_mem_nil,or_false] at hk
 ·rcases hk with rfl | rfl<;>cases hF
 ·subst hk;cases hF
 ·rcases hk with rfl | rfl
  ·cases hF
  ·simp only [List.mem_cons,List.not_mem_nil,or_false] at hF;rcases hF with rfl | rfl<;>rfl
 ·subst hk;simp only [List.mem_cons,List.not_mem_nil,or_false] at hF;rcases hF with rfl | rfl<;>rfl
 ·subst hk;simp only [List.mem_cons,List.not_mem_nil,or_false] at hF;rcases hF with rfl | rfl | rfl<;>rfl
theorem TV {E E':Env} {d:Df} (h:nd E d = .ok E'):E'.cons=E.cons∧E'.an=bK E.an d.name d∧d.type.gj d.params=true:=by
 unfold nd at h
 split at h
 ·cases h
 ·split at h
  ·cases h
  ·split at h
   ·cases h
   ·rename_i hr;cases h;refine ⟨rfl,rfl,?_⟩;have hr:fg { E with params:=j7 d.params []} d.type=true:=by simpa using hr
    rw [fg,Bool.and_eq_true] at hr;refine Sk (fun n hn=>?_) d.type hr.2;rcases Sn _ _ _ hn with h | h
    ·exact h
    ·cases h
theorem TW {all:List Df}:∀ (l:List Df) (i:Nat) (E E':Env) (ds:List (ByteArray×Nat)),all.drop i=l→fk l E = .ok E'→(∀ n d,aI E.an n=some d→d.type.gj d.params=true∧∃ c,aI ds n=some c∧all[c]? = some d) →
   E'.cons=E.cons∧∀ n d,aI E'.an n=some d→d.type.gj d.params=true∧∃ c,aI (nq l i ds) n=some c∧all[c]? = some d
 | [],i,E,E',ds,_,h,hd=>by rw [fk] at h;cases h;exact ⟨rfl,hd⟩
 | d::l,i,E,E',ds,ha,h,hd=>by
  rw [fk] at h
  split at h
  ·cases h
  ·rename_i E1 h1;obtain ⟨a1,a2,a3⟩:=TV h1;have hi:i < all.length:=by
    apply Classical.byContradiction;intro hn;rw [List.drop_eq_nil_of_le (by omega)] at ha;cases ha
   rw [List.drop_eq_getElem_cons hi] at ha
   injection ha with hk eO
   obtain ⟨b1,b2⟩:=TW l (i+1) E1 E' (bK ds d.name i) eO h (fun n e he=>by
    rw [a2,jh] at he;rw [jh];by_cases hn:d.name=n
    ·rw [if_pos hn] at he ⊢;cases he;exact ⟨a3,i,rfl,by rw [List.getElem?_eq_getElem hi,hk]⟩
    ·rw [if_neg hn] at he ⊢
     exact hd n e he)
   exact ⟨b1.trans a1,b2⟩
theorem TX {p:Pg} {Q:Env} (h:jG p = .ok Q):∃ E1,kK hH p.aG = .ok E1∧fk p.an E1 = .ok Q∧o5 Q∧(∀ n x,aI Q.cons n=some x→(aI (sC p.aG sD) n).getD 0=(de x.1 x.2).length)∧(∀ n d,aI Q.an n=some d→∃ c,aI (nq p.an 0 []) n=some c∧p.an[c]? = some d)∧(∀ n x,aI hH.cons n=some x→aI Q.cons n=some x):=by
 obtain ⟨E1,h1,h2,h3⟩:=FD h;obtain ⟨_,_,TY⟩:=Q3 h1;obtain ⟨c1,c2⟩:=TW (all:=p.an) p.an 0 E1 Q [] (by simp) h2 (fun n d hd=>by rw [TY] at hd;cases hd);have gI:=h1;unfold kK at gI
 split at gI
 ·cases gI
 ·rename_i E' oV
  split at gI
  ·rename_i dh;cases gI;obtain ⟨hc,hk⟩:=TU p.aG hH E1 sD iP aft oV;have TZ:∀ n x,aI E1.cons n=some x→∀ F∈de x.1 x.2,F.gj x.1.params=true:=by
    intro n x hx F hF;obtain ⟨k,jz,jU⟩:=afs hF;rcases List.mem_append.1 (hc.LG.mem _ _ (hc.LG.bg n x hx)) with hm | hm
    ·exact afu _ hm k jz F jU
    ·unfold vj at dh;rw [List.all_eq_true] at dh;have:=dh _ hm;unfold zj at this;rw [List.all_eq_true] at this;have:=this k jz;rw [List.all_eq_true] at this;have:=this F jU;rw [fg,Bool.and_eq_true] at this;refine Sk (fun n hn=>?_) F this.2;rcases Sl _ _ _ hn with h | h
     ·exact h
     ·cases h
   refine ⟨E1,h1,h2,⟨fun ps=>(Kr h1 h2 ps).1,fun ps=>(Kr h1 h2 ps).2,fun n d hd=>(c2 n d hd).1,fun n x hx=>?_,?_,?_⟩,fun n x hx=>?_,fun n d hd=>(c2 n d hd).2,fun n x hx=>?_⟩
   ·rw [c1] at hx;exact ⟨TZ n x hx,hc.len n x hx⟩
   ·rw [c1];exact hk _ _ (by rw [zQ];try rfl)
   ·rw [c1];exact hk _ _ (by rw [zQ];try rfl)
   ·rw [c1] at hx;exact hc.fields n x hx
   ·rw [c1];exact hk n x hx
  ·cases gI
end
section
open Go Go.W
def N0 {α:Type} (x:Except Int α):Prop:=∀ k,x = .error k→k≠0
section
variable {α β:Type} {E:Env}
theorem kg {a:α}:N0 (.ok a:Except Int α):=fun k h=>by cases h
theorem dx {k:Int} (h:k≠0):N0 (.error k:Except Int α):=fun k' h'=>by cases h';exact h
theorem CA {x:Except Int α} {f:α→β} (h:N0 x):N0 (x.map f):=fun k hk=>by
 cases x with
 | error e=>cases hk;exact h _ rfl
 | ok a=>cases hk
theorem T2 {t:Ty} {ps:List ByteArray} {at':List Ty}:N0 (ik E t ps at'):=by
 unfold ik
 split
 ·exact dx (by decide)
 ·split
  ·exact dx (by decide)
  ·split
   ·exact kg
   ·exact dx (by decide)
theorem T4 {b:Bd} {bd:bI}:N0 (iZ E b bd):=by
 unfold iZ
 split
 ·exact dx (by decide)
 ·split
  ·exact kg
  ·exact dx (by decide)
theorem T5:∀ (l:List Bd) (bd:bI),N0 (jb E l bd)
 | [],bd=>by rw [jb];exact kg
 | b::l,bd=>by
  rw [jb]
  split
  ·rename_i x hx;exact dx (T4 _ hx)
  ·exact T5 l _
theorem T6:∀ (l:List ByteArray) (bd:bI),N0 (mQ l bd)
 | [],bd=>by rw [mQ];exact kg
 | s::l,bd=>by
  rw [mQ]
  split
  ·exact dx (by decide)
  ·exact T6 l _
theorem T7 {ps:List ByteArray} {bs:List Ty}:∀ (l:List ByteArray) (fs:List Ty) (lc:Loc),N0 (gX ps bs l fs lc)
 | s::l,f::fs,lc=>by
  rw [gX]
  split
  ·exact T7 l fs _
  ·exact dx (by decide)
 | [],fs,lc=>by rw [gX];exact kg;simp
 | s::l,[],lc=>by rw [gX];exact kg;simp
theorem afv {l:List Ty}:N0 (mR E l):=by
 unfold mR
 split
 ·split
  ·exact dx (by decide)
  ·split
   ·split
    ·exact kg
    ·exact dx (by decide)
   ·exact dx (by decide)
 ·exact dx (by decide)
theorem afw {n:ByteArray} {l:List Ty}:N0 (nR n l):=by
 unfold nR
 split
 ·split
  ·exact dx (by decide)
  ·exact kg
 ·exact dx (by decide)
theorem afx {b:Bd} {l:List Ty}:N0 (pr b l):=by
 unfold pr
 split
 ·split
  ·exact dx (by decide)
  ·exact kg
 ·exact dx (by decide)
def NE (E:Env) (e:Ex):Prop:=∀ st,N0 (cj E e st)
theorem T8:∀ (l:List Ex),(∀ u∈l,NE E u)→∀ st,N0 (cG E l st)
 | [],_,st=>by rw [cG];exact kg
 | e::l,h,st=>by
  rw [cG]
  split
  ·rename_i x hx;exact dx (h e (by simp) st _ hx)
  ·split
   ·rename_i x hx;exact dx (T8 l (fun u hu=>h u (by simp [hu])) _ _ hx)
   ·exact kg
theorem T9:∀ (l:List Bd),(∀ b∈l,NE E b.value)→∀ st,N0 (iN E l st)
 | [],_,st=>by rw [iN];exact kg
 | b::l,h,st=>by
  rw [Bn]
  split
  ·rename_i x hx;exact dx (h b (by simp) st _ hx)
  ·split
   ·exact T9 l (fun u hu=>h u (by simp [hu])) _
   ·exact dx (by decide)
theorem afy {of:Ty} {k:Int} {bg:ByteArray} {vars:List ByteArray} {run:St→Except Int (Ty×St)} (hr:∀ st,N0 (run st)) (st:St):N0 (mg E of k bg vars run st):=by
 unfold mg
 split
 ·exact hr st
 ·split
  ·exact dx (by decide)
  ·split
   ·exact dx (by decide)
   ·split
    ·exact dx (by decide)
    ·split
     ·rename_i x hx;exact dx (T6 _ _ _ hx)
     ·split
      ·rename_i x hx;exact dx (T7 _ _ _ _ hx)
      ·split
       ·rename_i x hx;exact dx (hr _ _ hx)
       ·exact kg
theorem LH {all:List Al} {of:Ty}:∀ (l:List Al),(∀ a∈l,NE E a.body)→∀ i first st,N0 (fL E all of l i first st)
 | [],_,i,first,st=>by rw [fL];exact kg
 | a::l,h,i,first,st=>by
  rw [Bm]
  split
  ·exact dx (by decide)
  ·split
   ·rename_i x hx;exact dx (afy (h a (by simp)) st _ hx)
   ·split
    ·exact LH l (fun u hu=>h u (by simp [hu])) _ _ _
    ·split
     ·exact LH l (fun u hu=>h u (by simp [hu])) _ _ _
     ·exact dx (by decide)
theorem afz (e:Ex):NE E e:=by
 induction e using Ex.ind with
 | h e eZ mj mT=>
 intro st;rw [kE];have hx:=T8 e.args eZ;by_cases hf:jx e=false
 ·rw [if_pos hf];exact dx (by decide)
 rw [if_neg hf];by_cases hk:e.kind=1
 ·rw [if_pos hk]
  split
  ·exact dx (by decide)
  ·exact kg
 rw [if_neg hk];by_cases hk:e.kind=2
 ·rw [if_pos hk];exact kg
 rw [if_neg hk];by_cases hk:e.kind=3
 ·rw [if_pos hk]
  split
  ·exact dx (by decide)
  ·exact CA T2
 rw [if_neg hk];by_cases hk:e.kind=4
 ·rw [if_pos hk]
  split
  ·exact dx (by decide)
  ·exact CA T2
 rw [if_neg hk];by_cases hk:e.kind=12
 ·rw [if_pos hk]
  split
  ·exact dx (by decide)
  ·split
   ·exact kg
   ·exact dx (by decide)
 rw [if_neg hk];by_cases hk:e.kind=5
 ·rw [if_pos hk]
  split
  ·rename_i x h;exact dx (hx _ _ h)
  ·exact CA afv
 rw [if_neg hk];by_cases hk:e.kind=9
 ·rw [if_pos hk]
  split
  ·rename_i x h;exact dx (hx _ _ h)
  ·exact CA afw
 rw [if_neg hk];by_cases hk:e.kind=10
 ·rw [if_pos hk]
  split
  ·rename_i x h;exact dx (hx _ _ h)
  ·exact kg
 rw [if_neg hk];by_cases hk:e.kind=6
 ·rw [if_pos hk]
  split
  ·exact dx (by decide)
  ·split
   ·rename_i x h;exact dx (T4 _ h)
   ·split
    ·rename_i x h;exact dx (hx _ _ h)
    ·exact CA afx
 rw [if_neg hk];by_cases hk:e.kind=7∨e.kind=11
 ·rw [if_pos hk]
  split
  ·rename_i x h;exact dx (T5 _ _ _ h)
  ·split
   ·rename_i x h;exact dx (T9 _ mj _ _ h)
   ·split
    ·rename_i x h;exact dx (hx _ _ h)
    ·exact kg
 rw [if_neg hk]
 split
 ·rename_i x h;exact dx (hx _ _ h)
 ·split
  ·exact dx (by decide)
  ·exact LH _ mT _ _ _
end
theorem T' {Q:Env}:∀ (l:List Df),jF Q l=0→∀ d∈l,nX Q d=0
 | [],_,d,hd=>by cases hd
 | c::l,h,d,hd=>by
  rw [jF] at h
  split at h
  ·rename_i hn;rw [h] at hn;simp at hn
  ·rename_i hn;rcases List.mem_cons.1 hd with rfl | hd
   ·simpa using hn
   ·exact T' l h d hd
theorem afA {Q:Env} {d:Df} (h:nX Q d=0):dS (dX Q d.params) (fun _=>none) d.body d.type:=by
 unfold nX at h
 split at h
 ·rename_i e he;exact absurd h (afz _ _ _ he)
 ·rename_i y hy
  split at h
  ·rename_i hs;exact ⟨([],[]),y,⟨fun p hp=>(by cases hp),by simp [Uq],fun _ _=>rfl⟩,fun _=>rfl,hy,by simpa [fQ] using hs⟩
  ·cases h
def S0 (p:Pg):Sg:=fun c D=>∃ d us,p.an[c]? = some d∧D=d.type.sub (lk d.params us)
theorem afB {p:Pg} {Q:Env} {fuel:Int} (h:jG p = .ok Q):o5 Q∧iR Q (S0 p) (fU p).cells∧XT Q (eJ p fuel) (S0 p):=by
 obtain ⟨E1,h1,h2,hQ,hf,hd,_⟩:=TX h;obtain ⟨_,_,_,hb⟩:=FD h;refine ⟨hQ,⟨fun c x hx=>?_,fun c hc=>?_,fun c D hD=>?_⟩,⟨fun n d hn=>?_,hf⟩⟩
 ·have hx:(p.an.map (fun d=>Cl.wait d.body []))[c]? = some x:=hx;rw [List.getElem?_map] at hx;obtain ⟨d,Ua,rfl⟩:=Option.map_eq_some_iff.1 hx;rintro D ⟨d',us,h3,rfl⟩;rw [Ua] at h3;cases h3;exact ⟨d.params,_,lk d.params us,d.type,afA (T' _ hb d (List.mem_of_getElem? Ua)),rfl,fun x U hx=>by cases hx⟩
 ·have hc:c < (p.an.map (fun d=>Cl.wait d.body [])).length:=hc;rw [List.length_map] at hc;exact ⟨_,p.an[c],[],List.getElem?_eq_getElem hc,rfl⟩
 ·obtain ⟨d,us,h3,_⟩:=hD;show c < (p.an.map (fun d=>Cl.wait d.body [])).length;rw [List.length_map];exact (List.getElem?_eq_some_iff.1 h3).1
 ·obtain ⟨c,h3,h4⟩:=hd n d hn;exact ⟨c,h3,fun us=>⟨d,us,h4,rfl⟩⟩
end
section
open Go Go.W
mutual
def Ty.dep:Ty→Nat
 | .mk _ _ l=>zR l+1
def zR:List Ty→Nat
 | []=>0
 | t::l=>max t.dep (zR l)
end
theorem Ty.Ub (t:Ty):t.dep=zR t.args+1:=by cases t;rw [Ty.dep];try rfl
theorem Uc {l:List Ty} {t:Ty} (h:t∈l):t.dep≤zR l:=by
 induction l with
 | nil=>cases h
 | cons u l ih=>
  rw [zR];rcases List.mem_cons.1 h with rfl | h
  ·omega
  ·have:=ih h;omega
def FH (ds:List Dt):Nat:=zR (ds.flatMap fun d=>d.cons.flatMap Cn.fields)
def pa (ds:List Dt) (s:bI):Nat:=(ds.filter fun d=>!has s d.name).length
def pV (s s':bI):Prop:=∀ n,has s n=true→has s' n=true
theorem filter_le {α:Type} {p q:α→Bool} (h:∀ a,q a=true→p a=true):∀ (l:List α),(l.filter q).length≤(l.filter p).length
 | []=>Nat.le_refl _
 | a::l=>by
  have ih:=filter_le h l;rw [List.filter_cons,List.filter_cons];cases hq:q a with
  | true=>rw [h a hq];simpa using ih
  | false=>
   cases hp:p a with
   | true=>simp;omega
   | false=>simpa using ih
theorem filter_lt {α:Type} {p q:α→Bool} (h:∀ a,q a=true→p a=true):∀ (l:List α),(∃ a∈l,p a=true∧q a=false)→(l.filter q).length < (l.filter p).length
 | [],⟨a,ha,_⟩=>by cases ha
 | a::l,⟨b,hb,Ud,Ue⟩=>by
  have h1:=filter_le h l;rw [List.filter_cons,List.filter_cons];rcases List.mem_cons.1 hb with rfl | hb
  ·rw [Ud,Ue];simp;omega
  ·have ih:=filter_lt h l ⟨b,hb,Ud,Ue⟩;cases hq:q a with
   | true=>rw [h a hq];simpa using ih
   | false=>
    cases hp:p a with
    | true=>simp;omega
    | false=>simpa using ih
theorem LI {ds:List Dt} {s s':bI} (h:pV s s'):pa ds s'≤pa ds s:=filter_le (fun d hd=>by
 cases hh:has s d.name with
 | false=>rfl
 | true=>rw [h _ hh] at hd;cases hd) ds
theorem afC (s:bI) (n:ByteArray):pV s (bK s n 1):=fun m hm=>by rw [pN,hm,Bool.or_true]
def FI (f:qW) (P:Ty→Prop) (U:bI→Prop):Prop:=∀ t s,P t→U s→∃ b s',f t s=some (b,s')∧pV s s'
theorem LJ {f:qW} {P:Ty→Prop} {U:bI→Prop} (hf:FI f P U) (hU:∀ s s',U s→pV s s'→U s'):∀ (l:List Ty) (s:bI),(∀ t∈l,P t)→U s→∃ b s',lP f l s=some (b,s')∧pV s s'
 | [],s,_,_=>⟨true,s,rfl,fun _ h=>h⟩
 | t::l,s,hl,hs=>by
  obtain ⟨b,s1,h1,h2⟩:=hf t s (hl t (by simp)) hs;rw [lP,h1];cases b with
  | false=>exact ⟨false,s1,rfl,h2⟩
  | true=>
   obtain ⟨b,s2,h3,h4⟩:=LJ hf hU l s1 (fun u hu=>hl u (by simp [hu])) (hU _ _ hs h2);exact ⟨b,s2,h3,fun n hn=>h4 n (h2 n hn)⟩
theorem Uf {f:qW} {P:Ty→Prop} {U:bI→Prop} (hf:FI f P U) (hU:∀ s s',U s→pV s s'→U s'):∀ (l:List Cn) (s:bI),(∀ k∈l,∀ t∈k.fields,P t)→U s→∃ b s',qX f l s=some (b,s')∧pV s s'
 | [],s,_,_=>⟨true,s,rfl,fun _ h=>h⟩
 | k::l,s,hl,hs=>by
  obtain ⟨b,s1,h1,h2⟩:=LJ hf hU k.fields s (hl k (by simp)) hs;rw [qX,h1];cases b with
  | false=>exact ⟨false,s1,rfl,h2⟩
  | true=>
   obtain ⟨b,s2,h3,h4⟩:=Uf hf hU l s1 (fun u hu=>hl u (by simp [hu])) (hU _ _ hs h2);exact ⟨b,s2,h3,fun n hn=>h4 n (h2 n hn)⟩
theorem LK {f:qW} {P:Ty→Prop} {U:bI→Prop} (hU:∀ s s',U s→pV s s'→U s') (n:ByteArray):∀ (l:List Dt) (s:bI),((∃ d∈l,d.name=n)→FI f P U∧U s)→(∀ d∈l,∀ k∈d.cons,∀ t∈k.fields,P t)→∃ b s',oe f n l s=some (b,s')∧pV s s'
 | [],s,_,_=>⟨true,s,rfl,fun _ h=>h⟩
 | d::l,s,hs,hl=>by
  rw [oe];by_cases hn:d.name≠n
  ·rw [if_pos hn];exact LK hU n l s (fun ⟨e,he,hh⟩=>hs ⟨e,by simp [he],hh⟩) (fun e he=>hl e (by simp [he]))
  ·rw [if_neg hn];obtain ⟨hf,Ug⟩:=hs ⟨d,by simp,by simpa using hn⟩;obtain ⟨b,s1,h1,h2⟩:=Uf hf hU d.cons s (hl d (by simp)) Ug;rw [h1];cases b with
   | false=>exact ⟨false,s1,rfl,h2⟩
   | true=>
    obtain ⟨b,s2,h3,h4⟩:=LK hU n l s1 (fun _=>⟨hf,hU _ _ Ug h2⟩) (fun e he=>hl e (by simp [he]));exact ⟨b,s2,h3,fun n hn=>h4 n (h2 n hn)⟩
theorem LL (ds:List Dt):∀ (n u k:Nat),u*(FH ds+1)+k≤n→FI (iE ds n) (fun t=>t.dep≤k) (fun s=>pa ds s≤u)
 | 0,u,k,hn=>fun t s ht _=>by
  have:=t.Ub;omega
 | n+1,u,k,hn=>fun t s ht hs=>by
  show ∃ b s',(if t.kind=3 then some (false,s) else match lP (iE ds n) t.args s with
   | none=>none
   | some (false,s')=>some (false,s')
   | some (true,s')=>if t.kind≠4∨(aI s' t.name).getD 0 > 0 then some (true,s') else oe (iE ds n) t.name ds (bK s' t.name 1))=some (b,s')∧pV s s'
  by_cases hk:t.kind=3
  ·rw [if_pos hk];exact ⟨_,_,rfl,fun _ h=>h⟩
  rw [if_neg hk];have hd:=t.Ub;have ih:=LL ds n u (k - 1) (by omega);have hU:∀ s s',pa ds s≤u→pV s s'→pa ds s'≤u:=fun s s' h1 h2=>Nat.le_trans (LI h2) h1
  obtain ⟨b,s1,h1,h2⟩:=LJ ih hU t.args s (fun x hx=>by have:=Uc hx;omega) hs;rw [h1];cases b with
  | false=>exact ⟨false,s1,rfl,h2⟩
  | true=>
   simp only;by_cases hc:t.kind≠4∨(aI s1 t.name).getD 0 > 0
   ·rw [if_pos hc];exact ⟨true,s1,rfl,h2⟩
   ·rw [if_neg hc];have Nh:has s1 t.name=false:=by
     unfold has;simp only [not_or] at hc
     simpa using hc.2
    have hU':∀ s s',pa ds s≤u - 1→pV s s'→pa ds s'≤u - 1:=fun s s' h1 h2=>Nat.le_trans (LI h2) h1
    obtain ⟨b,s2,h3,h4⟩:=LK (f:=iE ds n) (P:=fun t=>t.dep≤FH ds) (U:=fun s=>pa ds s≤u - 1) hU' t.name ds (bK s1 t.name 1) (fun ⟨d,LM,FJ⟩=>by
     have aP:pa ds (bK s1 t.name 1) < pa ds s1:=filter_lt (fun e he=>by
      rw [pN] at he;cases hh:has s1 e.name with
      | false=>rfl
      | true=>rw [hh,Bool.or_true] at he;cases he) ds ⟨d,LM,by rw [FJ,Nh];try rfl,by rw [pN,FJ];simp⟩
     have h5:=LI (ds:=ds) h2;have hu:pa ds (bK s1 t.name 1)≤u - 1:=by omega
     refine ⟨LL ds n (u - 1) (FH ds) ?_,hu⟩;obtain ⟨u',rfl⟩:∃ u',u=u'+1:=⟨u - 1,by omega⟩;rw [Nat.add_mul,Nat.one_mul] at hn;rw [Nat.add_sub_cancel]
     omega) (fun d LM k hk t ht=>Uc (List.mem_flatMap.2 ⟨d,LM,List.mem_flatMap.2 ⟨k,hk,ht⟩⟩))
    exact ⟨b,s2,h3,fun n hn=>h4 n (afC s1 t.name n (h2 n hn))⟩
theorem afD (ds:List Dt) (t:Ty):∃ N,∀ n,N≤n→∃ b,xS ds n t=some b:=by
 refine ⟨pa ds []*(FH ds+1)+t.dep,fun n hn=>?_⟩;obtain ⟨b,s',h,_⟩:=LL ds n (pa ds []) t.dep hn t [] (Nat.le_refl _) (Nat.le_refl _);exact ⟨b,by unfold xS;rw [h];try rfl⟩
end
section
open Go Go.W
def FK (m:Rn):Prop:=m.kind=2∨m.kind=4∨(m.kind=3∧1≤m.stuck∧m.stuck≤4)
theorem LN {Q:Env} {X:Cx} {Z:Ts} {m:Rn} (h:Ca Q X Z (none,m)):FK m:=.inr h
theorem afE {Q:Env} (hQ:o5 Q) {S:Sg} {x:Cl} {D:Ty} (h:VT Q S x D):(fieldsOf x).length≤8∧∀ c∈fieldsOf x,∃ D,S c D:=by
 cases x with
 | bg k cs=>
  obtain ⟨y,us,h1,_,h2⟩:=h;have hl:=h2.at;refine ⟨?_,fun c hc=>?_⟩
  ·show cs.length≤8;rw [hl.1];exact (hQ.cons _ _ h1).2
  ·obtain ⟨i,hi,rfl⟩:=List.getElem_of_mem hc;have hi:i < cs.length:=hi;exact ⟨_,hl.2 i _ _ (List.getElem?_eq_getElem hi) (List.getElem?_eq_getElem (by rw [← hl.1];exact hi))⟩
 | _=>exact ⟨by simp [fieldsOf],fun c hc=>by simp [fieldsOf] at hc⟩
theorem afF {Q:Env} (hQ:o5 Q) {X:Cx} {S:Sg} {n c:Nat} {m:Rn} (bG:iR Q S m.cells) (hx:XT Q X S) (hc:c < m.cells.length) (hf:m.a7=[]) (hs:m.steps≤X.fuel) (hn:3*(X.fuel - m.steps).toNat+2 < n):∃ r,j9 X n c m=some r∧Ca Q X (S c) r:=by
 obtain ⟨D,hD⟩:=bG.full c hc;have ho:pP Q X (S c) (ft m c):=Fe bG hx ⟨D,hD⟩ (fun _ h=>h) (by rw [hf];exact fun _ h=>h);have cF:=zJ m c;unfold j9;generalize ft m c=rr at ho cF
 match rr,ho,cF with
 | (none,m'),ho,cF=>exact ⟨_,rfl,.inr ho⟩
 | (some (.val x),m'),⟨S',P,a1,a2,_,a3,a4⟩,cF=>
  have fN:m'.a7.length≤m.a7.length:=cF.Ff x rfl;rw [hf] at fN;have fN:m'.a7=[]:=List.eq_nil_of_length_eq_zero (by simpa using fN);rw [fN] at a4;exact ⟨_,rfl,S',a1,a2,a3.1,fun D hD=>a3.2 D (a4 D hD)⟩
 | (some (.go e v),m'),⟨S',P,a1,a2,a0,a3,a4⟩,cF=>
  have ks:m'.steps=m.steps:=cF.steps;have kf:m'.a7.length≤m.a7.length+1:=cF.fl;rw [hf] at kf;have kf:m'.a7.length≤1:=by simpa using kf
  exact Cb hQ n a1 a2 a0 a3 a4 (by omega) (by simp only [xL];omega)
theorem LO (m:Rn) (c:Nat):m.cells.length≤(ft m c).2.cells.length:=by
 unfold ft;cases m.cells[c]? with
 | none=>exact Nat.le_refl _
 | some x=>cases x<;>first | exact Nat.le_refl _ | (simp [Rn.push,Rn.put])
theorem LP {m:Rn} {v:cN} {x:Cl}:∀ (l:List Al) {r:R3},eu m v x l=some r→r.2.cells=m.cells
 | [],r,h=>by rw [eu] at h;cases h;rfl
 | a::l,r,h=>by
  rw [eu] at h
  split at h
  ·cases h;rfl
  ·split at h
   ·split at h
    ·obtain ⟨c,_,rfl⟩:=Option.map_eq_some_iff.1 h;rfl
    ·exact LP l h
   ·exact LP l h
theorem afG {m:Rn} {f:Cl} {c:Nat} {r:R3} (h:j8 m f c=some r):r.2.cells=m.cells:=by
 unfold j8 at h
 split at h
 ·split at h<;>cases h;rfl
 ·split at h<;>cases h;rfl
 ·cases h;rfl
theorem Uh {X:Cx} {e:Ex} {v:cN} {m:Rn} {r:R3} (h:lK X e v m=some r):m.cells.length≤r.2.cells.length:=by
 unfold lK at h;by_cases k1:e.kind=1
 ·rw [if_pos k1] at h;obtain ⟨c,_,rfl⟩:=Option.map_eq_some_iff.1 h;exact LO m c
 rw [if_neg k1] at h;by_cases k3:e.kind=3
 ·rw [if_pos k3] at h;obtain ⟨c,_,rfl⟩:=Option.map_eq_some_iff.1 h;exact LO m c
 rw [if_neg k3] at h;by_cases k2:e.kind=2
 ·rw [if_pos k2] at h;cases h;exact Nat.le_refl _
 rw [if_neg k2] at h;by_cases k4:e.kind=4
 ·rw [if_pos k4] at h;cases h;exact Nat.le_refl _
 rw [if_neg k4] at h;by_cases k6:e.kind=6
 ·rw [if_pos k6] at h;cases h;exact Nat.le_refl _
 rw [if_neg k6] at h;by_cases vG:e.kind=12
 ·rw [if_pos vG] at h;cases h;exact Nat.le_refl _
 rw [if_neg vG] at h;by_cases k7:e.kind=7
 ·rw [if_pos k7] at h
  split at h
  ·cases h
  ·cases h;simp
 rw [if_neg k7] at h;by_cases vH:e.kind=11
 ·rw [if_pos vH] at h
  split at h
  ·cases h
  ·cases h;exact Nat.le_refl _
 rw [if_neg vH] at h
 split at h
 ·cases h
 ·cases h;by_cases k5:e.kind=5
  ·rw [if_pos k5];exact Nat.le_refl _
  by_cases k8:e.kind=8
  ·rw [if_neg k5,if_pos k8];exact Nat.le_refl _
  by_cases k9:e.kind=9
  ·rw [if_neg k5,if_neg k8,if_pos k9];exact Nat.le_refl _
  by_cases sy:e.kind=10
  ·rw [if_neg k5,if_neg k8,if_neg k9,if_pos sy];exact Nat.le_refl _
  ·rw [if_neg k5,if_neg k8,if_neg k9,if_neg sy];exact Nat.le_refl _
theorem Ui {f:Fm} {x:Cl} {m:Rn} {r:R3} (h:gO f x m=some r):m.cells.length≤r.2.cells.length:=by
 unfold gO at h
 split at h
 ·cases h;simp [Rn.put]
 ·split at h
  ·rw [afG h];simp [Rn.new]
  ·cases h
 ·rw [LP _ h];exact Nat.le_refl _
 ·split at h<;>cases h;exact Nat.le_refl _
 ·split at h<;>cases h<;>exact Nat.le_refl _
 ·split at h<;>cases h;exact Nat.le_refl _
 ·split at h<;>cases h;simp [Rn.new]
theorem LQ {X:Cx}:∀ (n:Nat) {md:Md} {m:Rn} {r:Option Cl×Rn},dB X n md m=some r→m.cells.length≤r.2.cells.length
 | 0,md,m,r,h=>by cases md<;>(rw [dB] at h;cases h)
 | n+1,.go e v,m,r,h=>by
  rw [dB] at h;rcases vI X m with ⟨h1,h2⟩ | ⟨h1,h2⟩
  ·rw [h2] at h;simp only [if_true] at h;cases h;exact Nat.le_refl _
  ·rw [h2] at h;simp only [Bool.true_eq_false,if_false] at h
   split at h
   ·cases h
   ·rename_i m' hb;cases h;exact Uh hb
   ·rename_i kN m' hb;exact Nat.le_trans (show m.cells.length≤m'.cells.length from Uh hb) (LQ n h)
 | n+1,.val x,m,r,h=>by
  rw [dB] at h
  split at h
  ·cases h;exact Nat.le_refl _
  ·split at h
   ·cases h
   ·rename_i m' hb;cases h;exact Ui hb
   ·rename_i kN m' hb;exact Nat.le_trans (show m.cells.length≤m'.cells.length from Ui hb) (LQ n h)
theorem afH {X:Cx} {n c:Nat} {m:Rn} {r:Option Cl×Rn} (h:j9 X n c m=some r):m.cells.length≤r.2.cells.length:=by
 unfold j9 at h;have k:=LO m c;generalize ft m c=rr at h k
 match rr,h,k with
 | (none,m'),h,k=>cases h;exact k
 | (some (.val x),m'),h,k=>cases h;exact k
 | (some (.go e v),m'),h,k=>exact Nat.le_trans k (LQ n h)
theorem LR {Q:Env} (hQ:o5 Q) {X:Cx} (hX:X.fuel≤1048576):∀ (n:Nat) {S:Sg} {x:Cl} {D:Ty} {ws:List Nat} {m:Rn},iR Q S m.cells→XT Q X S→VT Q S x D→m.a7=[]→(∀ c∈ws,c < m.cells.length)→(ws.length:Int)≤8*m.steps→0≤m.steps→m.steps≤X.fuel→3*(X.fuel - m.steps).toNat+4≤n →
   ∃ m',iq X n x ws m=some m'∧FK m'
 | 0,S,x,D,ws,m,_,_,_,_,_,_,_,_,hn=>by omega
 | n+1,S,x,D,ws,m,bG,hx,hv,hf,hw,hwl,nB,hs,hn=>by
  obtain ⟨S9,rq⟩:=afE hQ hv;rw [iq];rcases vI X m with ⟨h1,h2⟩ | ⟨h1,h2⟩
  ·rw [h2,if_pos rfl];exact ⟨_,rfl,.inr (.inl rfl)⟩
  ·rw [h2,if_neg (by simp)];simp only;have hlen:(ws++(fieldsOf x).reverse).length≤ws.length+8:=by simp;omega
   rw [if_neg (by omega)];have fE:∀ c∈ws++(fieldsOf x).reverse,c < m.cells.length:=fun c hc=>by
    rcases List.mem_append.1 hc with h | h
    ·exact hw c h
    ·obtain ⟨D',uC⟩:=rq c (List.mem_reverse.1 h);exact bG.vE _ _ uC
   generalize Uj:ws++(fieldsOf x).reverse=LS at hlen fE;cases hl:LS.getLast? with
   | none=>exact ⟨_,rfl,.inl rfl⟩
   | some c=>
    have CB:c∈LS:=List.mem_of_getLast? hl;have Ax:0 < LS.length:=List.length_pos_of_mem CB;obtain ⟨r,hr,he⟩:=afF hQ (n:=n) (c:=c) (m:={ m with steps:=m.steps+1,told:=m.told++lL x}) bG hx (fE c CB) hf (show m.steps+1≤X.fuel by omega) (show 3*(X.fuel - (m.steps+1)).toNat+2 < n by omega);have hg:=Fl hr hf;have iT:=afH hr;simp only [hr]
    match r,he,hg,iT with
    | (none,m'),he,hg,iT=>exact ⟨_,rfl,LN he⟩
    | (some y,m'),⟨S',a1,a2,a3,a4⟩,hg,iT=>
     obtain ⟨D',uC⟩:=bG.full c (fE c CB);have gs:m.steps+1≤m'.steps:=hg.steps;have gf:m.steps+1≤X.fuel→m'.steps≤X.fuel:=hg.fuel;obtain ⟨_,_,CC⟩:=hg.val y rfl;have iT:m.cells.length≤m'.cells.length:=iT;exact LR hQ hX n a1 a2 (a4 D' uC) CC (fun d hd=>Nat.lt_of_lt_of_le (fE d ((List.dropLast_sublist _).subset hd)) iT) (by rw [List.length_dropLast];omega) (by omega) (gf (by omega)) (by omega)
theorem Uk:∀ (l:List Df) (E E':Env),fk l E = .ok E'→(∀ n d,aI E.an n=some d→aI E'.an n=some d)∧∀ d∈l,aI E'.an d.name=some d
 | [],E,E',h=>by rw [fk] at h;cases h;exact ⟨fun _ _ h=>h,fun d hd=>(by cases hd)⟩
 | d::l,E,E',h=>by
  rw [fk] at h
  split at h
  ·cases h
  ·rename_i E1 h1;obtain ⟨_,a2,_⟩:=TV h1;have hn:aI E.an d.name=none:=by
    unfold nd at h1
    split at h1
    ·cases h1
    ·rename_i hc;simp only [Bool.or_eq_true,not_or] at hc;cases hx:aI E.an d.name with
     | none=>rfl
     | some y=>rw [hx] at hc;simp at hc
   obtain ⟨b1,b2⟩:=Uk l E1 E' h;refine ⟨fun n e he=>b1 n e ?_,fun e he=>?_⟩
   ·rw [a2,jh,if_neg (fun hh=>by rw [hh,he] at hn;cases hn)];exact he
   ·rcases List.mem_cons.1 he with rfl | he
    ·exact b1 _ _ (by rw [a2,ac8])
    ·exact b2 e he
theorem LU {f:Ty→Option Bool} {n:ByteArray} {gk:Bool}:∀ (l:List Df),nr f n l=some (gk,true)→∃ d∈l,d.name=n∧d.params=[]∧(mG d).2=gk
 | [],h=>by rw [nr] at h;cases h
 | d::l,h=>by
  rw [nr] at h
  split at h
  ·obtain ⟨e,he,h1⟩:=LU l h;exact ⟨e,by simp [he],h1⟩
  ·rename_i hn
   split at h
   ·cases h
   ·rename_i hp;obtain ⟨b,_,h2⟩:=Option.map_eq_some_iff.1 h;cases h2;exact ⟨d,by simp,by simpa using hn,List.eq_nil_of_length_eq_zero (by omega),rfl⟩
abbrev afI:ByteArray:=⟨#[78,105,108]⟩
def pW (x:Ty):Ty:=.mk 4 tX [x]
theorem afJ (x:Ty):lk dList.params [x] ⟨#[97]⟩=x:=Se dList.params (fun _=>x) (List.mem_singleton.2 rfl)
theorem Ul (x:Ty):cA.sub (lk dList.params [x])=x:=by rw [Ty.sub_eq,if_pos (show cA.kind=2 from rfl)];exact afJ x
theorem LV (x:Ty):jE.sub (lk dList.params [x])=pW x:=by
 rw [Ty.sub_eq,if_neg (by decide)];show Ty.mk 4 tX [cA.sub _]=_;rw [Ul];try rfl
theorem Um {Q:Env} {X:Cx} (hN:aI Q.cons afI=some (dList,0)) (hC:aI Q.cons zL=some (dList,1)) {x:Ty} (hk:x.kind=1):∀ (l:List Int) {S:Sg} {cells:List Cl},iR Q S cells→XT Q X S→∃ S',iR Q S' (dN l cells).2∧XT Q X S'∧(∀ c D,S c D→S' c D)∧VT Q S' (dN l cells).1 (pW x)
 | [],S,cells,bG,hx=>⟨S,bG,hx,fun _ _ h=>h,(dList,0),[x],hN,(LV x).symm,trivial⟩
 | n::l,S,cells,bG,hx=>by
  obtain ⟨S1,h1,h2,h3,h4⟩:=Um hN hC hk l bG hx;have h5:iR Q (mE S1 (dN l cells).2.length (fun i D=>(i=0∧D=x)∨(i=1∧D=pW x))) ((dN l cells).2++[.num n,(dN l cells).1]):=by
   refine h1.app (fun i y hy=>?_) (fun i hi=>?_) (fun i D hD=>?_)
   ·match i,hy with
    | 0,hy=>
     cases hy;intro D hD;rcases hD with ⟨_,rfl⟩ | ⟨h,_⟩
     ·exact hk
     ·cases h
    | 1,hy=>
     have hy:(dN l cells).1=y:=by simpa using hy
     subst hy;obtain ⟨kn,kf,gJ⟩:=FB l cells;have hD:∀ D,((1=0∧D=x)∨((1:Nat)=1∧D=pW x))→VT Q (mE S1 (dN l cells).2.length (fun i D=>(i=0∧D=x)∨(i=1∧D=pW x))) (dN l cells).1 D:=fun D hD=>by
      rcases hD with ⟨h,_⟩ | ⟨_,rfl⟩
      ·cases h
      ·exact h4.mono sx.1
     rw [gJ] at hD ⊢;exact hD
    | i+2,hy=>simp at hy
   ·match i,hi with
    | 0,_=>exact ⟨x,.inl ⟨rfl,rfl⟩⟩
    | 1,_=>exact ⟨pW x,.inr ⟨rfl,rfl⟩⟩
    | i+2,hi=>have hi:i+2 < 2:=hi;omega
   ·rcases hD with ⟨rfl,_⟩ | ⟨rfl,_⟩<;>simp
  refine ⟨_,h5,h2.mono sx.1,fun c D h=>sx.1 _ _ (h3 c D h),(dList,1),[x],hC,(LV x).symm,?_,?_,trivial⟩
  ·exact .inr ⟨Nat.le_refl _,.inl ⟨by omega,Ul x⟩⟩
  ·exact .inr ⟨Nat.le_succ _,.inr ⟨by omega,LV x⟩⟩
end
section
open Go Go.W
theorem afK {Q:Env} (hQ:o5 Q) {X:Cx} {S:Sg} {n c:Nat} {m:Rn} {x:Cl} {F A D:Ty} (bG:iR Q S m.cells) (hx:XT Q X S) (hv:x.iC=true) (hF:VT Q S x F) (hk:F.kind=3) (ha:F.args=[A,D]) (hc:S c A) (hf:m.a7=[]) (hs:m.steps≤X.fuel) (hn:3*(X.fuel - m.steps).toNat+2 < n) :
   ∃ r,oX X n x c m=some r∧Ca Q X (fun D'=>D'=D) r:=by
 obtain ⟨rr,hr,ho⟩:=SC (Z:=fun D'=>D'=D) (P:=fun F'=>F'=F) (R:=fun D'=>D'=D) hQ bG hx hv (fun F' e=>by rw [e];exact hF) ⟨D,rfl⟩ (fun D' e=>⟨F,A,rfl,hk,by rw [e];exact ha,hc⟩) (by rw [hf];exact fun _ h=>h);have cF:=Fh hr;unfold oX;rw [hr]
 match rr,ho,cF with
 | (none,m'),ho,cF=>exact ⟨_,rfl,.inr ho⟩
 | (some (.val x),m'),⟨S',P,a1,a2,_,a3,a4⟩,cF=>
  have fN:m'.a7.length≤m.a7.length:=cF.Ff x rfl;rw [hf] at fN;have fN:m'.a7=[]:=List.eq_nil_of_length_eq_zero (by simpa using fN);rw [fN] at a4;exact ⟨_,rfl,S',a1,a2,a3.1,fun D hD=>a3.2 D (a4 D hD)⟩
 | (some (.go e v),m'),⟨S',P,a1,a2,a0,a3,a4⟩,cF=>
  have ks:m'.steps=m.steps:=cF.steps;have kf:m'.a7.length≤m.a7.length+1:=cF.fl;rw [hf] at kf;have kf:m'.a7.length≤1:=by simpa using kf
  exact Cb hQ n a1 a2 a0 a3 a4 (by omega) (by simp only [xL];omega)
theorem afL {p:Pg} {Q:Env} {fuel:Int} {name:ByteArray} {gk:Bool} {f:Ty→Option Bool} (h:jG p = .ok Q) (he:nr f name p.an=some (gk,true)) (hf:0≤fuel∧fuel≤1048576) (input:List Int) :
   ∃ m,runM p fuel name gk input=some m∧FK m:=by
 obtain ⟨hQ,bG,hx⟩:=afB (fuel:=fuel) h;obtain ⟨E1,h1,h2,_,_,TY,Un⟩:=TX h;obtain ⟨d,hd,FJ,rZ,qa⟩:=LU p.an he;have bm:gB p=0:=by unfold gB;rw [h]
 have iB:=TP bm d hd;have Uo:aI Q.an name=some d:=by rw [← FJ];exact (Uk p.an E1 Q h2).2 d hd
 obtain ⟨c,hc,CB⟩:=hx.an _ _ Uo;have hT:=CB [];have TZ:d.type.gj []=true:=by have:=hQ.an _ _ Uo;rwa [rZ] at this
 generalize hTT:d.type.sub (lk d.params [])=T at hT;have zS:(eJ p fuel).fuel=fuel:=rfl;have cX:∃ r,dB (eJ p fuel) kO (.go (pU name) []) (fU p)=some r∧Ca Q (eJ p fuel) (fun D=>D=T) r:=by
  show ∃ r,dB (eJ p fuel) (16777215+1) (.go (pU name) []) (fU p)=some r∧_;rw [dB];rcases vI (eJ p fuel) (fU p) with ⟨q1,q2⟩ | ⟨q1,q2⟩
  ·rw [q2,if_pos rfl];exact ⟨_,rfl,.inl rfl⟩
  ·rw [q2,if_neg (by simp)];have hb:lK (eJ p fuel) (pU name) [] { fU p with steps:=(fU p).steps+1}=some (ft { fU p with steps:=(fU p).steps+1} c):=by
    unfold lK;rw [if_neg (show ¬ (pU name).kind=1 from (show ¬ (3:Int)=1 by decide)),if_pos (show (pU name).kind=3 from rfl)];show (aI (eJ p fuel).an name).map _=_;rw [hc];try rfl
   simp only [hb];have ho:pP Q (eJ p fuel) (fun D=>D=T) (ft { fU p with steps:=(fU p).steps+1} c):=Fe (P:=fun D=>D=T) bG hx ⟨T,rfl⟩ (fun D e=>by rw [e];exact hT) (fun _ h=>h);have cF:=zJ { fU p with steps:=(fU p).steps+1} c;generalize ft { fU p with steps:=(fU p).steps+1} c=rr at ho cF
   match rr,ho,cF with
   | (none,m'),ho,cF=>exact ⟨_,rfl,.inr ho⟩
   | (some kN,m'),⟨S',P',a1,a2,a3,a4,a5⟩,cF=>
    have ks:m'.steps=0+1:=cF.steps;have kf:m'.a7.length≤0+1:=cF.fl;have BD:(0:Int)≠fuel:=q1;refine Cb hQ _ a1 a2 a3 a4 a5 (by rw [zS];omega) ?_;cases kN<;>(simp only [xL,zS];omega)
 obtain ⟨r,hr,oD⟩:=cX;have hg:=vJ _ hr;unfold runM;rw [hr]
 match r,oD,hg with
 | (none,m),oD,hg=>exact ⟨_,rfl,LN oD⟩
 | (some x,m),⟨S,a1,a2,a3,a4⟩,hg=>
  have gs:(0:Int)≤m.steps:=hg.steps;have gf:m.steps≤fuel:=hg.fuel (show (0:Int)≤fuel from hf.1);obtain ⟨_,_,CC⟩:=hg.val x rfl;cases gk with
  | false=>
   simp only [Bool.false_eq_true,if_false];exact LR hQ (by rw [zS];exact hf.2) kO a1 a2 (a4 T rfl) CC (fun c hc=>by cases hc) (by simp;omega) gs (by rw [zS];exact gf) (show 3*(fuel - m.steps).toNat+4≤16777216 by omega)
  | true=>
   simp only [if_true];have LW:d.type.kind=3:=by
    unfold mG at qa;by_cases hk:d.type.kind=3
    ·exact hk
    ·have:(d.type.kind == 3)=false:=by simpa using hk
     rw [this] at qa;cases qa
   have fC:=iB.1 LW;rw [TG d LW fC] at qa;obtain ⟨a,b,qw⟩:=B7 fC;have e0:d.type.args[0]=a:=by simp [qw]
   rw [e0] at qa;have zP:sv a=true:=by
    cases hq:sv a with
    | true=>rfl
    | false=>rw [hq] at qa;cases qa
   have Up:T.kind=3∧T.args=[a.sub (lk d.params []),b.sub (lk d.params [])]:=by
    obtain ⟨s1,s2,s3⟩:=vD (lk d.params []) (t:=d.type) (by omega);rw [← hTT,s1,s3,qw];exact ⟨LW,rfl⟩
   have afM:∃ y,y.kind=1∧a.sub (lk d.params [])=pW y:=by
    unfold sv at zP;simp only [Bool.and_eq_true,beq_iff_eq] at zP;obtain ⟨⟨k4,kn⟩,kx⟩:=zP;have Ur:a.name=tX:=by rw [oH] at kn;simpa using kn
    have FE:∃ E,a.wf E=true∧aI E.aG tX=some dList:=by
     obtain ⟨_,hw⟩:=LB _ _ _ h2;exact ⟨E1,Jp (hw d hd) (by rw [qw];simp),TO h1⟩
    obtain ⟨E,hw,hL⟩:=FE;rw [a.nS,k4,Bool.and_eq_true,Bool.and_eq_true] at hw;have dz:dm E a.name a.args.length=false:=by simpa using hw.1.2
    unfold dm at dz;rw [Ur,hL] at dz;have nL:(dList.params.length:Int)=a.args.length:=by simpa using dz
    have nL:a.args.length=1:=by have:dList.params.length=1:=rfl;omega
    obtain ⟨y,hy⟩:=zx nL;rw [hy] at kx;have ky:y.kind=1:=by simpa using kx
    refine ⟨y.sub (lk d.params []),by rw [(vD _ (t:=y) (by omega)).1,ky],?_⟩;rw [a.sub_eq,if_neg (by omega),hy,k4,Ur];rfl
   obtain ⟨y,hyk,sX⟩:=afM;obtain ⟨S1,b1,b2,b3,b4⟩:=Um (Un _ _ (by rw [zQ];rfl)) (Un _ _ (by rw [zQ];try rfl)) hyk input a1 a2;have b5:iR Q (mE S1 (dN input m.cells).2.length (fun i D=>i=0∧D=pW y)) ((dN input m.cells).2++[(dN input m.cells).1]):=by
    refine b1.app (fun i z hz=>?_) (fun i hi=>?_) (fun i D hD=>by rw [hD.1];simp)
    ·match i,hz with
     | 0,hz=>
      have hz:(dN input m.cells).1=z:=by simpa using hz
      subst hz;obtain ⟨kn,kf,gJ⟩:=FB input m.cells;have hD:∀ D,(0=0∧D=pW y)→VT Q (mE S1 (dN input m.cells).2.length (fun i D=>i=0∧D=pW y)) (dN input m.cells).1 D:=fun D hD=>by
       rw [hD.2];exact b4.mono sx.1
      rw [gJ] at hD ⊢;exact hD
     | i+1,hz=>simp at hz
    ·have:i=0:=by simpa using hi
     exact ⟨pW y,this,rfl⟩
   have afN:∀ c D,S c D→mE S1 (dN input m.cells).2.length (fun i D=>i=0∧D=pW y) c D:=fun c D h=>sx.1 _ _ (b3 c D h)
   obtain ⟨r2,wV,LX⟩:=afK (c:=(m.ls input).cells.length) (m:=(m.ls input).new (dN input m.cells).1) (n:=kO) hQ b5 (b2.mono sx.1) a3 ((a4 T rfl).mono afN) Up.1 Up.2 (.inr ⟨Nat.le_refl _,Nat.sub_self _,sX⟩) CC (show m.steps≤fuel from gf) (show 3*(fuel - m.steps).toNat+2 < 16777216 by omega);have iU:=FF wV (show m.a7=[] from CC);rw [wV]
   match r2,LX,iU with
   | (none,m2),LX,iU=>exact ⟨_,rfl,LN LX⟩
   | (some y2,m2),⟨S2,c1,c2,c3,c4⟩,iU=>
    have gs2:m.steps≤m2.steps:=iU.steps;have gf2:m2.steps≤fuel:=iU.fuel (show m.steps≤fuel from gf);obtain ⟨_,_,afO⟩:=iU.val y2 rfl;exact LR hQ (by rw [zS];exact hf.2) kO c1 c2 (c4 _ rfl) afO (fun c hc=>by cases hc) (by simp;omega) (by omega) (by rw [zS];exact gf2) (show 3*(fuel - m2.steps).toNat+4≤16777216 by omega)
theorem afP (p:Pg) (name:ByteArray):∃ N0,∀ N,N0≤N→∀ input fuel,∃ cm,qZ p N name input fuel=some cm∧(cm.1=0→∃ m,cm.2=some m∧FK m)∧(cm.1≠0→cm.2=none):=by
 have CD:∀ (l:List Df),∃ N0,∀ N,N0≤N→∃ e,nr (xS p.aG N) name l=some e:=by
  intro l
  induction l with
  | nil=>exact ⟨0,fun N _=>⟨_,rfl⟩⟩
  | cons d l ih=>
   obtain ⟨N1,h1⟩:=ih;obtain ⟨N2,h2⟩:=afD p.aG (mG d).1;refine ⟨max N1 N2,fun N hN=>?_⟩;obtain ⟨e,he⟩:=h1 N (by omega);obtain ⟨b,hb⟩:=h2 N (by omega);rw [nr]
   split
   ·exact ⟨e,he⟩
   ·split
    ·exact ⟨_,rfl⟩
    ·rw [hb];exact ⟨_,rfl⟩
 obtain ⟨N0,hN0⟩:=CD p.an;refine ⟨N0,fun N hN input fuel=>?_⟩;obtain ⟨e,he⟩:=hN0 N hN;unfold qZ;by_cases c1:10000 < input.length
 ·rw [if_pos c1];exact ⟨_,rfl,fun h=>absurd (show (2:Int)=0 from h) (by decide),fun _=>rfl⟩
 rw [if_neg c1];by_cases c2:vW input=true
 ·rw [if_pos c2];exact ⟨_,rfl,fun h=>absurd (show (1:Int)=0 from h) (by decide),fun _=>rfl⟩
 rw [if_neg c2];by_cases c3:fuel < 0∨fuel > 1048576
 ·rw [if_pos c3];exact ⟨_,rfl,fun h=>absurd (show (1:Int)=0 from h) (by decide),fun _=>rfl⟩
 rw [if_neg c3];by_cases c4:gB p≠0
 ·rw [if_pos c4];exact ⟨_,rfl,fun h=>absurd h c4,fun _=>rfl⟩
 rw [if_neg c4];have BV:sE p N name=some e:=he;rw [BV];obtain ⟨gk,ok⟩:=e;cases ok with
 | false=>exact ⟨_,rfl,fun h=>absurd (show (100:Int)=0 from h) (by decide),fun _=>rfl⟩
 | true=>
  obtain ⟨Q,hQ⟩:=LC (by simpa using c4);obtain ⟨m,hm,hk⟩:=afL hQ he (fuel:=fuel) (by omega) input;simp only;rw [hm];exact ⟨_,rfl,fun _=>⟨m,rfl,hk⟩,fun h=>absurd rfl h⟩
end
section
open Go Go.W
abbrev q8:=ByteArray×Int
def zT (a b:q8):Bool:=decide (a.1=b.1)&&decide (a.2=b.2)
def re:List q8→List q8→Bool
 | [],_=>true
 | _,[]=>true
 | a::l,b::m=>zT a b&&re l m
theorem afQ {l m:List q8} {i:Nat} (h1:i < l.length) (h2:i < m.length):re (l.drop i) (m.drop i)=(zT l[i] m[i]&&re (l.drop (i+1)) (m.drop (i+1))):=by
 rw [List.drop_eq_getElem_cons h1,List.drop_eq_getElem_cons h2];try rfl
theorem Us {l m:List q8} {i:Nat} (h:l.length≤i∨m.length≤i):re (l.drop i) (m.drop i)=true:=by
 rcases h with h | h
 ·rw [List.drop_eq_nil_of_le h];cases m.drop i<;>rfl
 ·rw [List.drop_eq_nil_of_le h];cases l.drop i<;>rfl
abbrev uf (w:World) (B:Nat→Prop) (v:Value) (l:List q8):Prop:=aQ w v 2 B Kw l
abbrev xU (k s n:Int) (v f1 f2 f3 f4:Value):List Value:=[I k,v,I s,I n,f1,f2,f3,f4]
theorem afR {w:World} {B B':Nat→Prop} {k1 s1 n1 k2 s2 n2:Int} {v1 v2 f1 f2 f3 f4 g1 g2 g3 g4:Value} {l1 l2:List q8} (h1:uf w B v1 l1) (h2:uf w B' v2 l2) :
   ba Tryz.prog 10 [.agg (xU k1 s1 n1 v1 f1 f2 f3 f4).toArray,.agg (xU k2 s2 n2 v2 g1 g2 g3 g4).toArray] w fun r w'=>r = .bool (re l1 l2)∧Mod (fun _=>False) w w':=by
 obtain ⟨a1,c1,rfl⟩:=a8 h1;obtain ⟨a2,c2,rfl⟩:=a8 h2;have nL:=du h1;refine Xq.calls rfl ?_;unfold G';(try simp only [go_sem,simprocAttr]);refine bB rfl ?_;intro wa je jf ot;(try simp only [go_sem,simprocAttr]);refine bB rfl ?_;intro wb dV fI xk;have iV:=jf.trans fI;have je:=fI.at je _root_.id;(try simp only [go_sem,simprocAttr])
 refine fx (fun z ρ w'=>∃ i:Nat,z=l1.length - i∧i≤l1.length∧Mod (fun _=>False) wb w'∧re l1 l2=re (l1.drop i) (l2.drop i) ∧
  ρ=[(2,ptr w.heap.size),(3,ptr wa.heap.size),(5,I i)]) l1.length ⟨0,rfl,by omega,.refl _ _,rfl,rfl⟩ ?_
 rintro z _ w2 ⟨i,rfl,hi,ai,nA,rfl⟩;have aw:=ai.at je _root_.id;have aO:=ai.at dV _root_.id;have aY:=iV.trans ai;unfold NT;(try simp only [go_sem,simprocAttr,cell_of aw,Value.cells]);by_cases q1:i < l1.length
 ·have b1:decide ((i:Int) < l1.length)=true:=by simpa using q1
  (try simp only [go_sem,simprocAttr,b1,cell_of aO,Value.cells]);by_cases q2:i < l2.length
  ·have b2:decide ((i:Int) < l2.length)=true:=by simpa using q2
   have fP:=afQ q1 q2;obtain ⟨pJ,DH,r1,e1,er1,_,afS,_⟩:=dL (h1.mod aY aC (fun _ _ h=>h)) q1;obtain ⟨lm,c2',r2,e2,er2,_,wW,_⟩:=dL (h2.mod aY aC (fun _ _ h=>h)) q2;obtain ⟨rfl,-,-⟩:=b9 e1;obtain ⟨rfl,-,-⟩:=b9 e2;cases er1;cases er2;have p1:(0:Int)≤i∧(i:Int) < l1.length:=by omega
   have p2:(0:Int)≤i∧(i:Int) < l2.length:=by omega
   have e3:IntKind.i64.wrap ((i:Int)+1)=((i+1:Nat):Int):=by rw [dk (by omega) (by omega)];omega
   (try simp only [go_sem,simprocAttr,b2]);(try simp only [go_sem,simprocAttr,bq,br,cell_of aw,cell_of aO,Value.cells,p1,p2,afS,wW,GP]);have e4:(decide (l1[i].1=l2[i].1)&&l1[i].2 == l2[i].2)=zT l1[i] l2[i]:=by unfold zT;congr 1
   rw [e4];have d2:Mod (fun _=>False) w2 w2.drew:=(Mod.refl _ _).drew;cases hz:zT l1[i] l2[i] with
   | false=>
    rw [hz,Bool.false_and] at fP;(try simp only [go_sem,simprocAttr,aE,RV.ev,aF]);exact ⟨by rw [nA,fP],aY.trans d2⟩
   | true=>
    rw [hz,Bool.true_and] at fP;(try simp only [go_sem,simprocAttr,e3]);exact ⟨_,by omega,i+1,rfl,q1,ai.trans d2,by rw [nA,fP],rfl⟩
  ·have b2:decide ((i:Int) < l2.length)=false:=by simpa using q2
   (try simp only [go_sem,simprocAttr,b2,aE,RV.ev,aF]);exact ⟨by rw [nA,Us (.inr (by omega))],aY⟩
 ·have b1:decide ((i:Int) < l1.length)=false:=by simpa using q1
  (try simp only [go_sem,simprocAttr,b1,aE,RV.ev,aF]);exact ⟨by rw [nA,Us (.inl (by omega))],aY⟩
end
section
open Go Go.W
def xV (l m:List q8):Bool:=re l m&&decide (l.length=m.length)
theorem afT {w:World} {B B':Nat→Prop} {k1 s1 n1 k2 s2 n2:Int} {v1 v2 f1 f2 f3 f4 g1 g2 g3 g4:Value} {l1 l2:List q8} (h1:uf w B v1 l1) (h2:uf w B' v2 l2) :
   ba Tryz.prog 30 [.agg (xU k1 s1 n1 v1 f1 f2 f3 f4).toArray,.agg (xU k2 s2 n2 v2 g1 g2 g3 g4).toArray] w fun r w'=>r = .bool (xV l1 l2)∧Mod (fun _=>False) w w':=by
 have kz:=h1;have vh:=h2;obtain ⟨a1,c1,rfl⟩:=a8 h1;obtain ⟨a2,c2,rfl⟩:=a8 h2;refine XH.calls rfl ?_;unfold Hq;(try simp only [go_sem,simprocAttr]);refine bB rfl ?_;intro wa je jf ot;(try simp only [go_sem,simprocAttr]);refine bB rfl ?_;intro wb dV fI xk;have iV:=jf.trans fI;have je:=fI.at je _root_.id;(try simp only [go_sem,simprocAttr,az (n:=8) (cs:=xU k1 s1 n1 (.slice a1 l1.length c1) f1 f2 f3 f4) je rfl,az (n:=8) (cs:=xU k2 s2 n2 (.slice a2 l2.length c2) g1 g2 g3 g4) dV rfl]);refine aK (by rfl) ?_;refine (afR (kz.mod iV aC (fun _ _ h=>h)) (vh.mod iV aC (fun _ _ h=>h))).mono ?_;rintro _ w1 ⟨rfl,ak⟩;have aw:=ak.at je _root_.id;have aO:=ak.at dV _root_.id;have e:((l1.length:Int) == (l2.length:Int))=decide (l1.length=l2.length):=by
  by_cases q:l1.length=l2.length
  ·simp [q]
  ·have:¬ (l1.length:Int)=l2.length:=by omega
   simp [q,this]
 cases hb:re l1 l2 with
 | false=>
  (try simp only [go_sem,simprocAttr,aE,RV.ev,aF]);exact ⟨congrArg _ (by rw [xV,hb];try rfl),iV.trans ak⟩
 | true=>
  (try simp only [go_sem,simprocAttr,cell_of aw,cell_of aO,Value.cells,e,aE,RV.ev,aF]);exact ⟨congrArg _ (by rw [xV,hb];try rfl),iV.trans ak⟩
end
section
open Go Go.W
abbrev cS (k s n:Int) (v:Value):List Value:=xU k s n v (I 0) (I 0) (I 0) (.string bD)
theorem afU {w:World} {B B':Nat→Prop} {k1 s1 n1 k2 s2 n2:Int} {v1 v2:Value} {l1 l2:List q8} (h1:uf w B v1 l1) (h2:uf w B' v2 l2) :
   ba Tryz.prog 11 [.agg (cS k1 s1 n1 v1).toArray,.agg (cS k2 s2 n2 v2).toArray] w fun r w'=>r = .bool (((k1 == k2&&s1 == s2)&&n1 == n2)&&xV l1 l2)∧Mod (fun _=>False) w w':=by
 have kz:=h1;have vh:=h2;obtain ⟨a1,c1,rfl⟩:=a8 h1;obtain ⟨a2,c2,rfl⟩:=a8 h2;refine Xr.calls rfl ?_;unfold Ha;(try simp only [go_sem,simprocAttr]);refine bB rfl ?_;intro wa je jf ot;(try simp only [go_sem,simprocAttr]);refine bB rfl ?_;intro wb dV fI xk;have iV:=jf.trans fI;have je:=fI.at je _root_.id;(try simp only [go_sem,simprocAttr,az (n:=8) (cs:=cS k1 s1 n1 (.slice a1 l1.length c1)) je rfl,az (n:=8) (cs:=cS k2 s2 n2 (.slice a2 l2.length c2)) dV rfl]);refine aK (by rfl) ?_;refine (afT (kz.mod iV aC (fun _ _ h=>h)) (vh.mod iV aC (fun _ _ h=>h))).mono ?_;rintro _ w1 ⟨rfl,ak⟩;have aw:=ak.at je _root_.id;have aO:=ak.at dV _root_.id;have hm:=iV.trans ak;have p4:=gF (off:=4) (n:=4) aw (by simp [Value.cells]);have p5:=gF (off:=4) (n:=4) aO (by simp [Value.cells]);have z0:((0:Int) == 0)=true:=rfl;have zs:(bD.toList == bD.toList)=true:=by simp
 (try simp only [go_sem,simprocAttr,cell_of aw,cell_of aO,Value.cells]);cases q1:k1 == k2 with
 | false=>(try simp only [go_sem,simprocAttr,aE,RV.ev,aF]);exact ⟨rfl,hm⟩
 | true=>
  (try simp only [go_sem,simprocAttr,cell_of aw,cell_of aO,Value.cells]);cases q2:s1 == s2 with
  | false=>(try simp only [go_sem,simprocAttr,aE,RV.ev,aF]);exact ⟨rfl,hm⟩
  | true=>
   (try simp only [go_sem,simprocAttr,cell_of aw,cell_of aO,Value.cells]);cases q3:n1 == n2 with
   | false=>(try simp only [go_sem,simprocAttr,aE,RV.ev,aF]);exact ⟨rfl,hm⟩
   | true=>
    (try simp only [go_sem,simprocAttr,p4,p5,z0,zs,aE,RV.ev,aF]);exact hm
end
section
open Go Go.W
theorem Ut {w:World}:ba Tryz.prog 13 [] w fun r w'=>r = .agg (fZ 1 bD).toArray∧Mod (fun _=>False) w w':=by
 refine Xt.calls rfl ?_;unfold Hc;(try simp only [go_sem,simprocAttr]);refine cQ ?_;intro w1 au ak bP;(try simp only [go_sem,simprocAttr]);refine bN (vs:=fZ 1 bD) (cs:=cI) rfl rfl au rfl rfl (nO _ _) ?_;intro w2 aw ai bS;(try simp only [go_sem,simprocAttr,aE,RV.ev,az (n:=3) (cs:=fZ 1 bD) aw rfl,aF]);exact ak.step ai (fun b hb hl=>by omega)
abbrev Uu:List Value:=[I 0,.string bD,I 0,.slice none 0 0,.slice none 0 0,.slice none 0 0,.slice none 0 0]
abbrev CE (n:Int):List Value:=[I 2,.string bD,I n,.slice none 0 0,.slice none 0 0,.slice none 0 0,.slice none 0 0]
theorem afV (n:Int):∀ u∈CE n,u.oneCell'=true:=aW rfl (aW rfl (aW rfl (aW rfl (aW rfl (aW rfl (aW rfl dy))))))
theorem FL (n:Int) {w:World}:ba Tryz.prog 15 [I n] w fun r w'=>r = .agg (CE n).toArray∧Mod (fun _=>False) w w':=by
 refine Xv.calls rfl ?_;unfold He;(try simp only [go_sem,simprocAttr]);refine cQ ?_;intro w1 au ak bP;(try simp only [go_sem,simprocAttr]);refine bN (vs:=CE n) (cs:=Uu) rfl rfl au rfl rfl (afV n) ?_;intro w2 aw ai bS;(try simp only [go_sem,simprocAttr,aE,RV.ev,az (n:=7) (cs:=CE n) aw rfl,aF]);exact ak.step ai (fun b hb hl=>by omega)
end
section
open Go Go.W
theorem CF {w:World} {B:Nat→Prop} {k m:Int} {n:ByteArray} {types:List Ty} {args:List Ex} {binds:List Bd} {alts:List Al} {vt va vb vl:Value} (ht:aQ w vt 3 B (aX w B) types) (ha:aQ w va 7 B (bH w B) args) (hb:aQ w vb 11 B (dP w B) binds) (hl:aQ w vl 11 B (gq w B) alts) (hc:yB vl) :
   bH w B [I k,.string n,I m,vt,va,vb,vl] (.mk k n m types args binds alts):=by
 obtain ⟨rt,yr,AI,y9⟩:=ht;obtain ⟨ra,xD,tA,uN⟩:=ha;obtain ⟨rb,au,aw,aO⟩:=hb;obtain ⟨rl,nL,fC,bV⟩:=hl;refine .mk yr AI y9 xD tA uN au aw (fun i r b h1 h2=>?_) (fun i r b h1 h2=>?_) nL fC (fun i r a h1 h2=>?_) (fun i r a h1 h2=>?_) hc
 ·obtain ⟨tc,ec,rfl,h3,h4,h5⟩:=aO i r b h1 h2;have l3:=h3.len;have l7:=h4.len;refine ⟨⟨by simp [l3,l7],h5⟩,rfl,?_⟩;simp only [List.drop_succ_cons,List.drop_zero];rw [List.take_append_of_le_length (by omega),List.take_of_length_le (by omega)];exact h3
 ·obtain ⟨tc,ec,rfl,h3,h4,h5⟩:=aO i r b h1 h2;have l3:=h3.len;simp only [List.drop_succ_cons];rw [List.drop_append_of_le_length (by omega),List.drop_of_length_le (by omega),List.nil_append];exact h4
 ·obtain ⟨vv,ec,rfl,h3,h4⟩:=bV i r a h1 h2;exact ⟨vv,rfl,by simp [h4.len],h3⟩
 ·obtain ⟨vv,ec,rfl,h3,h4⟩:=bV i r a h1 h2;exact h4
def og (w:World) (B:Nat→Prop) (oc:List Value):Option Rn→Prop
 | none=>oc=cS 0 0 0 (.slice none 0 0)
 | some m=>∃ v,oc=cS m.kind m.stuck m.steps v∧uf w B v m.told
theorem oh {k s n:Int} {v:Value} (h:v.oneCell'=true):∀ u∈cS k s n v,u.oneCell'=true:=aW rfl (aW h (aW rfl (aW rfl (aW rfl (aW rfl (aW rfl (aW rfl dy)))))))
theorem LY (p:Pg) {N:Nat} {name:ByteArray} {input:List Int} {fuel:Int} {v:Value} {w:World} {cs:List Value} {cm:Int×Option Rn} (h:jr w (Out (fun _=>False) w) cs p) (hi:sS w v input) (aS:qZ p N name input fuel=some cm) :
   ba Tryz.prog 9 [.agg cs.toArray,.string name,v,I fuel] w fun r w'=>(∃ oc,r = .tuple #[.agg oc.toArray,I cm.1]∧og w' (fun b=>w.heap.size≤b∧b < w'.heap.size) oc cm.2)∧Mod (fun _=>False) w w':=by
 have h0:=h;have FM:=hi;obtain ⟨vd,vf,rfl,hd,hf⟩:=h;obtain ⟨av,cv,rfl,hle,Cr⟩:=hi;have hX:qZ p N name input fuel=if 10000 < input.length then some (2,none)
  else if vW input=true then some (1,none)
  else if fuel < 0∨fuel > 1048576 then some (1,none)
  else if gB p≠0 then some (gB p,none)
  else match sE p N name with
  | none=>none
  | some (_,false)=>some (100,none)
  | some (gk,true)=>(runM p fuel name gk input).map (fun m=>(0,some m)):=rfl
 rw [hX] at aS;refine Xp.calls rfl ?_;unfold G9;refine dO (fun ρ w2=>∃ b4 b8,w.heap.size≤b4∧b4 < b8∧w2.heap[b4]? = some (.cells [vd,vf].toArray 25 (0,0))∧w2.heap[b8]? = some (.cells (cS 0 0 0 (.slice none 0 0)).toArray 34 (0,0))∧Mod (fun _=>False) w w2∧ρ=[(1,.string name),(2,.slice av input.length cv),(3,I fuel),(4,ptr b4),(8,ptr b8)]) ?_ ?_
 ·(try simp only [go_sem,simprocAttr]);refine bB rfl ?_;intro w1 au ak bP;(try simp only [go_sem,simprocAttr]);refine cQ ?_;intro w2 aw ai bS;have z1:w1.heap.size=w.heap.size+1:=bP;(try simp only [go_sem,simprocAttr]);exact ⟨w.heap.size,w1.heap.size,Nat.le_refl _,by omega,ai.at au _root_.id,aw,ak.trans ai,rfl⟩
 rintro _ w2 ⟨b4,b8,l4,l8,aZ,cO,iS,rfl⟩;by_cases c1:10000 < input.length
 ·rw [if_pos c1] at aS;cases aS;have b1:decide ((input.length:Int) > 10000)=true:=decide_eq_true (by omega);(try simp only [go_sem,simprocAttr,b1]);refine bN (vs:=cS 0 0 0 (.slice none 0 0)) (cs:=cS 0 0 0 (.slice none 0 0)) rfl rfl cO rfl rfl (oh rfl) ?_;intro w9 dp aV gZ;(try simp only [go_sem,simprocAttr,aE,RV.ev,az (n:=8) (cs:=cS 0 0 0 (.slice none 0 0)) dp rfl,aF]);exact ⟨⟨_,rfl,rfl⟩,(iS).step aV (fun b hb hl=>by have e:b=b8:=hb;omega)⟩
 rw [if_neg c1] at aS;have b1:decide ((input.length:Int) > 10000)=false:=decide_eq_false (by omega);refine dO (fun ρ w'=>w2=w'∧ρ.get 1=some (.string name)∧ρ.get 2=some (.slice av input.length cv)∧ρ.get 3=some (I fuel)∧ρ.get 4=some (ptr b4)∧ρ.get 8=some (ptr b8)) ?_ ?_
 ·(try simp only [go_sem,simprocAttr,b1])
 rintro ρ _ ⟨rfl,g1,g2,g3,g4,g8⟩;refine dO (fun ρ w'=>vW input=false∧w2=w'∧ρ.get 1=some (.string name)∧ρ.get 2=some (.slice av input.length cv)∧ρ.get 3=some (I fuel)∧ρ.get 4=some (ptr b4)∧ρ.get 8=some (ptr b8)) ?_ ?_
 ·(try simp only [go_sem,simprocAttr,g1,g2,g3,g4,g8]);refine fx (fun z ρ w'=>∃ i:Nat,z=input.length - i∧i≤input.length∧vW input=vW (input.drop i)∧w2=w'∧ρ.get 1=some (.string name)∧ρ.get 2=some (.slice av input.length cv)∧ρ.get 3=some (I fuel)∧ρ.get 4=some (ptr b4)∧ρ.get 8=some (ptr b8)∧ρ.get 21=some (.slice av input.length cv)∧ρ.get 22=some (I input.length)∧ρ.get 23=some (I i)) input.length ⟨0,by omega,by omega,rfl,rfl,rfl,rfl,rfl,rfl,rfl,rfl,rfl,rfl⟩ ?_;rintro z ρ _ ⟨i,rfl,yA,jY,rfl,g1,g2,g3,g4,g8,g21,g22,g23⟩;unfold NS;by_cases q:i < input.length
  ·have b2:decide ((i:Int) < input.length)=true:=by simpa using q
   have p1:(0:Int)≤i∧(i:Int) < input.length:=by omega
   have e3:IntKind.i64.wrap ((i:Int)+1)=((i+1:Nat):Int):=by rw [dk (by omega) (by omega)];omega
   obtain ⟨ad,rfl,hc⟩:=Cr i q;have iY:=iS.cell hc _root_.id;have uP:vW (input.drop i)=((decide (input[i] < -4611686018427387904)||decide (input[i] > 4611686018427387903))||vW (input.drop (i+1))):=Q5 q;rw [uP] at jY;cases q1:decide (input[i] < -4611686018427387904) with
   | true=>
    rw [q1,Bool.true_or,Bool.true_or] at jY;rw [if_pos jY] at aS;cases aS;(try simp only [go_sem,simprocAttr,g1,g2,g3,g4,g8,g21,g22,g23,b2]);(try simp only [go_sem,simprocAttr,bq,br,p1,iY,q1]);refine bN (vs:=cS 0 0 0 (.slice none 0 0)) (cs:=cS 0 0 0 (.slice none 0 0)) rfl rfl cO rfl rfl (oh rfl) ?_;intro w9 dp aV gZ;(try simp only [go_sem,simprocAttr,aE,RV.ev,az (n:=8) (cs:=cS 0 0 0 (.slice none 0 0)) dp rfl,aF]);exact ⟨⟨_,rfl,rfl⟩,(iS).step aV (fun b hb hl=>by have e:b=b8:=hb;omega)⟩
   | false=>
    rw [q1,Bool.false_or] at jY;cases q2:decide (input[i] > 4611686018427387903) with
    | true=>
     rw [q2,Bool.true_or] at jY;rw [if_pos jY] at aS;cases aS;(try simp only [go_sem,simprocAttr,g1,g2,g3,g4,g8,g21,g22,g23,b2]);(try simp only [go_sem,simprocAttr,bq,br,p1,iY,q1,q2]);refine bN (vs:=cS 0 0 0 (.slice none 0 0)) (cs:=cS 0 0 0 (.slice none 0 0)) rfl rfl cO rfl rfl (oh rfl) ?_;intro w9 dp aV gZ;(try simp only [go_sem,simprocAttr,aE,RV.ev,az (n:=8) (cs:=cS 0 0 0 (.slice none 0 0)) dp rfl,aF]);exact ⟨⟨_,rfl,rfl⟩,(iS).step aV (fun b hb hl=>by have e:b=b8:=hb;omega)⟩
    | false=>
     rw [q2,Bool.false_or] at jY;(try simp only [go_sem,simprocAttr,g1,g2,g3,g4,g8,g21,g22,g23,b2]);(try simp only [go_sem,simprocAttr,bq,br,p1,iY,q1,q2,e3]);exact ⟨_,by omega,i+1,rfl,q,jY,rfl⟩
  ·have b2:decide ((i:Int) < input.length)=false:=by simpa using q
   rw [List.drop_eq_nil_of_le (by omega)] at jY;(try simp only [go_sem,simprocAttr,g1,g2,g3,g4,g8,g21,g22,g23,b2]);exact jY
 rintro ρ _ ⟨jY,rfl,g1,g2,g3,g4,g8⟩;rw [if_neg (by rw [jY];simp)] at aS;refine dO (fun ρ w'=>(0≤fuel∧fuel≤1048576)∧w2=w'∧ρ.get 1=some (.string name)∧ρ.get 2=some (.slice av input.length cv)∧ρ.get 3=some (I fuel)∧ρ.get 4=some (ptr b4)∧ρ.get 8=some (ptr b8)) ?_ ?_
 ·cases q1:decide (fuel < 0) with
  | true=>
   have BD:fuel < 0:=by simpa using q1
   rw [if_pos (.inl BD)] at aS;cases aS;(try simp only [go_sem,simprocAttr,g1,g2,g3,g4,g8,q1]);refine bN (vs:=cS 0 0 0 (.slice none 0 0)) (cs:=cS 0 0 0 (.slice none 0 0)) rfl rfl cO rfl rfl (oh rfl) ?_;intro w9 dp aV gZ;(try simp only [go_sem,simprocAttr,aE,RV.ev,az (n:=8) (cs:=cS 0 0 0 (.slice none 0 0)) dp rfl,aF]);exact ⟨⟨_,rfl,rfl⟩,(iS).step aV (fun b hb hl=>by have e:b=b8:=hb;omega)⟩
  | false=>
   have BD:¬ fuel < 0:=by simpa using q1
   cases q2:decide (fuel > 1048576) with
   | true=>
    have JS:fuel > 1048576:=by simpa using q2
    rw [if_pos (.inr JS)] at aS;cases aS;(try simp only [go_sem,simprocAttr,g1,g2,g3,g4,g8,q1,q2]);refine bN (vs:=cS 0 0 0 (.slice none 0 0)) (cs:=cS 0 0 0 (.slice none 0 0)) rfl rfl cO rfl rfl (oh rfl) ?_;intro w9 dp aV gZ;(try simp only [go_sem,simprocAttr,aE,RV.ev,az (n:=8) (cs:=cS 0 0 0 (.slice none 0 0)) dp rfl,aF]);exact ⟨⟨_,rfl,rfl⟩,(iS).step aV (fun b hb hl=>by have e:b=b8:=hb;omega)⟩
   | false=>
    have JS:¬ fuel > 1048576:=by simpa using q2
    (try simp only [go_sem,simprocAttr,g1,g2,g3,g4,g8,q1,q2]);exact ⟨by omega,by omega⟩
 rintro ρ _ ⟨Uv,rfl,g1,g2,g3,g4,g8⟩;rw [if_neg (by omega)] at aS;have eD:∀ {w':World},Mod (fun _=>False) w w'→∀ b,Out (fun _=>False) w b→Out (fun _=>False) w' b:=fun hm b hb=>⟨Nat.lt_of_lt_of_le hb.1 hm.size,hb.2⟩
 refine dO (fun ρ w'=>gB p=0∧Mod (fun _=>False) w2 w'∧ρ=[(1,.string name),(2,.slice av input.length cv),(3,I fuel),(4,ptr b4),(8,ptr b8),(12,I 0),(45,.bool false)]) ?_ ?_
 ·(try simp only [go_sem,simprocAttr,g1,g2,g3,g4,g8,az (n:=2) (cs:=[vd,vf]) aZ rfl]);refine aK (by rfl) ?_;refine (Rh p (h0.up iS aC (eD iS))).mono ?_;rintro _ w3 ⟨rfl,ar⟩;have lQ:=iS.trans ar;by_cases hc:gB p=0
  ·(try simp only [go_sem,simprocAttr,hc,Int.reduceBNe]);exact ar
  ·have b2:(gB p != 0)=true:=by simpa using hc
   rw [if_pos hc] at aS;cases aS;(try simp only [go_sem,simprocAttr,b2]);refine bN (vs:=cS 0 0 0 (.slice none 0 0)) (cs:=cS 0 0 0 (.slice none 0 0)) rfl rfl (ar.at cO _root_.id) rfl rfl (oh rfl) ?_;intro w9 dp aV gZ;(try simp only [go_sem,simprocAttr,aE,RV.ev,az (n:=8) (cs:=cS 0 0 0 (.slice none 0 0)) dp rfl,aF]);exact ⟨⟨_,rfl,rfl⟩,(lQ).step aV (fun b hb hl=>by have e:b=b8:=hb;omega)⟩
 rintro _ w3 ⟨bm,ar,rfl⟩;rw [if_neg (by simpa using bm)] at aS;have lQ:=iS.trans ar;have xQ:=ar.at aZ _root_.id;have afW:=ar.at cO _root_.id;cases CD:sE p N name with
 | none=>rw [CD] at aS;cases aS
 | some ee=>
 rw [CD] at aS;(try simp only [go_sem,simprocAttr,az (n:=2) (cs:=[vd,vf]) xQ rfl]);refine aK (by rfl) ?_;refine (afg p (h0.up lQ aC (eD lQ)) (TP bm) CD).mono ?_;rintro _ w4 ⟨rfl,aA⟩;have om:=lQ.trans aA;have Tp:=aA.at xQ _root_.id;have LZ:=aA.at afW _root_.id;obtain ⟨gk,ok⟩:=ee;cases ok with
 | false=>
  cases aS;(try simp only [go_sem,simprocAttr]);refine bN (vs:=cS 0 0 0 (.slice none 0 0)) (cs:=cS 0 0 0 (.slice none 0 0)) rfl rfl LZ rfl rfl (oh rfl) ?_;intro w9 dp aV gZ;(try simp only [go_sem,simprocAttr,aE,RV.ev,az (n:=8) (cs:=cS 0 0 0 (.slice none 0 0)) dp rfl,aF]);exact ⟨⟨_,rfl,rfl⟩,(om).step aV (fun b hb hl=>by have e:b=b8:=hb;omega)⟩
 | true=>
 have aS:(runM p fuel name gk input).map (fun m=>(0,some m))=some cm:=aS;obtain ⟨mF,pw,rfl⟩:=Option.map_eq_some_iff.1 aS;(try simp only [go_sem,simprocAttr,az (n:=2) (cs:=[vd,vf]) Tp rfl]);refine aK (by rfl) ?_;refine (aeX p (h0.up om aC (eD om)) Uv).mono ?_;rintro _ w5 ⟨⟨r,md,mf,S5,bs5,rfl,vM,Uw⟩,aD⟩;have vX:=om.trans aD;(try simp only [go_sem,simprocAttr]);refine bB rfl ?_;intro w6 bU aJ fY;have z5:=aD.size;have CG:=vX.trans aJ;have Fs:=vM.aB aJ;have y4:∀ b,S5 b→b < w5.heap.size:=by obtain ⟨_,_,_,_,_,_,hx⟩:=vM;exact hx.lt
 have he6:my w6 (Out S5 w6) (.pointer (some ⟨w5.heap.size,0,none⟩)) (pU name):=⟨_,[I 3,.string name,I 0,.slice none 0 0,.slice none 0 0,.slice none 0 0,.slice none 0 0],rfl,qR bU (fun hx=>by have:=y4 _ hx;omega),CF (fH _ _ _ _) (fH _ _ _ _) (fH _ _ _ _) (fH _ _ _ _) (Nat.le_refl 0)⟩;have cF:=afp pw;have ai3:mF.told.length≤1048576:=by
  obtain ⟨l,e1,e2⟩:=cF.told;have e1:mF.told=[]++l:=e1;have e3:mF.steps≤fuel:=cF.fuel (show (0:Int)≤fuel from Uv.1);have e4:(l.length:Int)≤mF.steps - 0:=e2;rw [e1,List.nil_append];omega
 have JZ:w6.heap[b8]? = some (.cells (cS 0 0 0 (.slice none 0 0)).toArray 34 (0,0)):=(aD.trans aJ).at LZ _root_.id;have L0:∀ b,S5 b→w.heap.size≤b:=fun b hb=>by have:=Uw b hb;have:=om.size;omega
 have n8:∀ {w7:World} {S7:Nat→Prop},dI S5 S7 w6→¬ S7 b8:=fun hg hh=>by
  have l84:=cC LZ;have:=om.size;rcases hg.2 _ hh with h1 | h1
  ·have:=Uw _ h1;omega
  ·have:=aJ.size;omega
 have fin:∀ {w7:World} {S7:Nat→Prop} {L3:List Nat},cJ w7 S7 r md mf L3 (eJ p fuel) mF→dI S5 S7 w6→Mod S5 w6 w7→∃ vt,fV w7 8 (.pointer (some ⟨r,0,none⟩))=some (.agg (cS mF.kind mF.stuck mF.steps vt).toArray)∧vt.oneCell'=true∧w7.heap[b8]? = some (.cells (cS 0 0 0 (.slice none 0 0)).toArray 34 (0,0))∧Mod (fun _=>False) w w7 ∧
     ∀ {w9:World},Mod (· = b8) w7 w9→og w9 (fun b=>w.heap.size≤b∧b < w9.heap.size) (cS mF.kind mF.stuck mF.steps vt) (some mF):=fun {w7 S7 L3} hR hg hm=>by
  obtain ⟨vt,vf',db,bO,cw,cB,hh⟩:=hR;have bQ:=gF (off:=0) (n:=8) hh.box (by simp);obtain ⟨avt,cvt,rfl,_,_⟩:=hh.told.val;refine ⟨_,bQ,rfl,hm.at JZ (fun hx=>n8 (w7:=w7) mD hx),CG.step hm (fun b hb hl=>by have:=L0 b hb;omega),fun {w9} aV=>⟨_,rfl,db,⟨?_,?_⟩,hh.items.at.1,hh.items.at.2⟩⟩
  ·have ho:=hh.told.mod aV (fun b hb e=>by
    have e':b=b8:=e;subst e'
    exact n8 (w7:=w7) hg (hh.bt _ (by simp [hb])))
   refine (AZ ho (fun x hx=>?_)).mod (.refl (fun _=>False) w9) aC (fun y hy=>?_)
   ·obtain ⟨i,hi,rfl⟩:=List.getElem_of_mem hx;have:=hh.items.at.2 i _ _ (List.getElem?_eq_getElem hi) (List.getElem?_eq_getElem (by have:=hh.items.at.1;omega));rw [this];try rfl
   ·have hs:S7 y:=hh.bt _ (by simp [hy]);refine ⟨?_,ho.lt hy⟩;rcases hg.2 _ hs with h1 | h1
    ·exact L0 _ h1
    ·have:=CG.size;omega
  ·have:=hh.items.at.1;omega
 have gN:(match dB (eJ p fuel) kO (.go (pU name) []) (fU p) with
  | none=>none
  | some (none,m)=>some m
  | some (some x,m)=>
   if gk=true then
    match oX (eJ p fuel) kO x (m.ls input).cells.length ((m.ls input).new (dN input m.cells).1) with
    | none=>none
    | some (none,m)=>some m
    | some (some y,m)=>iq (eJ p fuel) kO y [] m
   else iq (eJ p fuel) kO x [] m)=some mF:=pw
 cases cX:dB (eJ p fuel) kO (.go (pU name) []) (fU p) with
 | none=>rw [cX] at gN;cases gN
 | some rr=>
 rw [cX] at gN;have zU:=vJ _ cX;refine aK (by rfl) ?_;refine (aeC Fs he6 (show gC w6 (Out S5 w6) bs5 [] (.pointer none) from rfl) (show ((0:Nat):Int)≤0+1 by omega) cX).mono ?_;rintro v7 w7 ⟨⟨S7,L3,zV,uW,ai4,iv⟩,aL⟩
 match rr,gN,zU,zV,iv with
 | (none,m1),gN,zU,zV,iv=>
  have iv:v7=_:=iv;subst iv;cases gN;obtain ⟨vt,bQ,h1,xW,o9,lA⟩:=fin zV uW aL;(try simp only [go_sem,simprocAttr,bQ]);refine bN (vs:=cS mF.kind mF.stuck mF.steps vt) (cs:=cS 0 0 0 (.slice none 0 0)) rfl rfl xW rfl rfl (oh h1) ?_;intro w9 dp aV gZ;(try simp only [go_sem,simprocAttr,aE,RV.ev,az (n:=8) (cs:=cS mF.kind mF.stuck mF.steps vt) dp rfl,aF]);exact ⟨⟨_,rfl,lA aV⟩,o9.step aV (fun b hb hl=>by have e:b=b8:=hb;omega)⟩
 | (some x,m1),gN,zU,zV,⟨u,e1,hu,hv⟩=>
  subst e1;obtain ⟨_,_,Cg⟩:=zU.val x rfl;have yr:m1.told=[]:=zU.told;have bP:(0:Int)≤m1.steps:=zU.steps;cases gk with
  | false=>
   have gN:iq (eJ p fuel) kO x [] m1=some mF:=gN;(try simp only [go_sem,simprocAttr]);refine aK (by rfl) ?_;refine (SS (X:=eJ p fuel) zV hu hv Cg (by rw [yr];simpa using bP) gN).mono ?_;rintro _ w8 ⟨⟨S8,ue,sB,xr⟩,bh⟩;obtain ⟨vt,bQ,h1,xW,o9,lA⟩:=fin sB (lO uW xr aL.size) (kM aL uW bh);(try simp only [go_sem,simprocAttr,bQ]);refine bN (vs:=cS mF.kind mF.stuck mF.steps vt) (cs:=cS 0 0 0 (.slice none 0 0)) rfl rfl xW rfl rfl (oh h1) ?_;intro w9 dp aV gZ;(try simp only [go_sem,simprocAttr,aE,RV.ev,az (n:=8) (cs:=cS mF.kind mF.stuck mF.steps vt) dp rfl,aF]);exact ⟨⟨_,rfl,lA aV⟩,o9.step aV (fun b hb hl=>by have e:b=b8:=hb;omega)⟩
  | true=>
   have gN:(match oX (eJ p fuel) kO x (m1.ls input).cells.length ((m1.ls input).new (dN input m1.cells).1) with
    | none=>none
    | some (none,m)=>some m
    | some (some y,m)=>iq (eJ p fuel) kO y [] m)=some mF:=gN
   have o9:Mod (fun _=>False) w w7:=CG.step aL (fun b hb hl=>by have:=L0 b hb;omega);(try simp only [go_sem,simprocAttr]);refine aK (by rfl) ?_;refine (ae7 zV (FM.mod o9 (fun _ _ h=>h))).mono ?_;rintro u2 w8 ⟨⟨S8,ue,sB,xr,afX,Ux⟩,bh⟩;obtain ⟨kn,kf,gJ⟩:=FB input m1.cells;obtain ⟨T,z,B2,_⟩:=zq Ux (by rw [gJ];try rfl);subst B2;(try simp only [go_sem,simprocAttr]);refine bB rfl ?_;intro w9 dp aV gZ;have Fx:=sB.new (x:=(dN input m1.cells).1) (v:=.iface T z) aV dp (Nat.le_refl _) (Ux.up (aj aV (S:=S8)) aM (eh (aj aV) (eC (Nat.le_refl _))) lM)
   have xX:dI S8 (aN S8 w8.heap.size) w8:=⟨fun b hb=>.inl hb,fun b hb=>by
    rcases hb with h | h
    ·exact .inl h
    ·exact .inr (by omega)⟩
   have Uy:dI S7 (aN S8 w8.heap.size) w7:=lO xr xX bh.size;have zm:Mod S7 w7 w9:=aj (bh.trans aV);have hu9:=hu.up zm aM (qQ Uy zm.size) (fun c b h=>lM (b:=w8.heap.size) _ _ (afX c b h));have afY:ue.length=(m1.ls input).cells.length:=by obtain ⟨_,_,_,_,_,_,hx⟩:=sB;exact hx.len
   have lX:(ue++[w8.heap.size])[(m1.ls input).cells.length]? = some w8.heap.size:=by rw [← afY,List.getElem?_append_right (Nat.le_refl _)];simp
   have Uz:=lO uW Uy aL.size;have xY:=kM aL uW zm;cases ym:oX (eJ p fuel) kO x (m1.ls input).cells.length ((m1.ls input).new (dN input m1.cells).1) with
   | none=>rw [ym] at gN;cases gN
   | some rr2=>
   rw [ym] at gN;have afZ:((m1.ls input).new (dN input m1.cells).1).a7=[]:=Cg;have zW:=FF ym afZ;(try simp only [go_sem,simprocAttr]);refine aK (by rfl) ?_;refine (aeE Fx lX hu9 hv (show (((m1.a7).length:Nat):Int)≤m1.steps by rw [Cg];simpa using bP) ym).mono ?_;rintro v10 cV ⟨⟨S10,ai5,xN,af0,ai6,CH⟩,bE⟩;have L4:=lO Uz af0 xY.size;have pX:=kM xY Uz bE
   match rr2,gN,zW,xN,CH with
   | (none,m2),gN,zW,xN,CH=>
    have CH:v10=_:=CH;subst CH;cases gN;obtain ⟨vt,bQ,h1,xW,L5,lA⟩:=fin xN L4 pX;(try simp only [go_sem,simprocAttr,bQ]);refine bN (vs:=cS mF.kind mF.stuck mF.steps vt) (cs:=cS 0 0 0 (.slice none 0 0)) rfl rfl xW rfl rfl (oh h1) ?_;intro w19 L6 xx af1;(try simp only [go_sem,simprocAttr,aE,RV.ev,az (n:=8) (cs:=cS mF.kind mF.stuck mF.steps vt) L6 rfl,aF]);exact ⟨⟨_,rfl,lA xx⟩,L5.step xx (fun b hb hl=>by have e:b=b8:=hb;omega)⟩
   | (some y,m2),gN,zW,xN,⟨u3,e3,B3,BY⟩=>
    subst e3;obtain ⟨_,_,Fu⟩:=zW.val y rfl;have AI:m2.told=m1.told:=zW.told;have bS:m1.steps≤m2.steps:=zW.steps;have gN:iq (eJ p fuel) kO y [] m2=some mF:=gN;(try simp only [go_sem,simprocAttr]);refine aK (by rfl) ?_;refine (SS (X:=eJ p fuel) xN B3 BY Fu (by rw [AI,yr];simp;omega) gN).mono ?_;rintro _ gA ⟨⟨S11,ai7,af2,FN⟩,cR⟩;obtain ⟨vt,bQ,h1,xW,L5,lA⟩:=fin af2 (lO L4 FN pX.size) (kM pX L4 cR);(try simp only [go_sem,simprocAttr,bQ]);refine bN (vs:=cS mF.kind mF.stuck mF.steps vt) (cs:=cS 0 0 0 (.slice none 0 0)) rfl rfl xW rfl rfl (oh h1) ?_;intro w19 L6 xx af1;(try simp only [go_sem,simprocAttr,aE,RV.ev,az (n:=8) (cs:=cS mF.kind mF.stuck mF.steps vt) L6 rfl,aF]);exact ⟨⟨_,rfl,lA xx⟩,L5.step xx (fun b hb hl=>by have e:b=b8:=hb;omega)⟩
end
section
open Go Go.W
def rh (s:ByteArray) (x y:Ex):Ex:=.mk 9 s 0 [] [x,y] [] []
theorem UA {s:ByteArray} {x y:Ex} {ca cb:List Value} {S:Nat→Prop} {w:World} (hS:∀ b,S b→b < w.heap.size) (ha:bH w (Out S w) ca x) (hb:bH w (Out S w) cb y) :
   ba Tryz.prog 14 [.string s,.agg ca.toArray,.agg cb.toArray] w fun r w'=>(∃ cs,r = .agg (cs:List Value).toArray∧bH w' (Out S w') cs (rh s x y))∧Mod (fun _=>False) w w':=by
 refine Xu.calls rfl ?_;unfold Hd;have la:=ha.len;have lb:=hb.len;(try simp only [go_sem,simprocAttr]);refine bB rfl ?_;intro w1 au ak bP;(try simp only [go_sem,simprocAttr]);refine bB rfl ?_;intro w2 aw ai bS;(try simp only [go_sem,simprocAttr]);refine cQ ?_;intro w3 aO ar eR;have au:=(ai.trans ar).at au _root_.id;have aw:=ar.at aw _root_.id;(try simp only [go_sem,simprocAttr,az (n:=7) (cs:=ca) au la,az (n:=7) (cs:=cb) aw lb]);refine fG (cs:=([ca,cb]:List (List Value)).flatten.toArray) (ps:=partsOf 7 0 [ca,cb]) (by (try simp only [go_sem,simprocAttr]);rfl) (jD (sz:=7) [ca,cb] [] _ ⟨la,lb,trivial⟩ rfl) ?_;intro w4 aZ aA eA;have aO:=aA.at aO _root_.id;(try simp only [go_sem,simprocAttr]);refine bN (vs:=[I 9,.string s,I 0,.slice none 0 0,.slice (some ⟨w3.heap.size,0,none⟩) 2 2,.slice none 0 0,.slice none 0 0]) (cs:=Uu) rfl rfl aO rfl rfl (aW rfl (aW rfl (aW rfl (aW rfl (aW rfl (aW rfl (aW rfl dy))))))) ?_;intro w5 bT aD eB;(try simp only [go_sem,simprocAttr,aE,RV.ev,az (n:=7) bT rfl,aF]);have eS:Mod (fun _=>False) w w5:=(ak.trans (ai.trans (ar.trans aA))).step aD (fun x hx hl=>by omega);refine ⟨⟨_,rfl,CF (fH _ _ _ _) ?_ (fH _ _ _ _) (fH _ _ _ _) (Nat.le_refl _)⟩,eS⟩;refine mZ (rows:=[ca,cb]) (aD.at aZ (by omega)) ⟨by have:=aD.size;have:=cC (aD.at aZ (by omega));omega,fun h=>by have:=hS _ h;omega⟩ ⟨la,lb,trivial⟩ (by simp) ⟨ha.aB (aj eS),hb.aB (aj eS),trivial⟩
abbrev nt:ByteArray:=⟨#[109]⟩
def UB (t:Ty) (e:Ex):Pg:=⟨[],[⟨nt,[],t,e⟩]⟩
theorem af4 {t:Ty} {e:Ex} {ct ce:List Value} {S:Nat→Prop} {w:World} (hS:∀ b,S b→b < w.heap.size) (ht:aX w (Out S w) ct t) (he:bH w (Out S w) ce e) :
   ba Tryz.prog 23 [.agg ct.toArray,.agg ce.toArray] w fun r w'=>(∃ cs,r = .agg (cs:List Value).toArray∧jr w' (Out S w') cs (UB t e))∧Mod (fun _=>False) w w':=by
 refine XA.calls rfl ?_;unfold Hj;have la:=ht.len;have lb:=he.len;obtain ⟨x1,ect,-⟩:=ht.cells;obtain ⟨x2,x3,x4,x5,ece,-⟩:=he.cells;subst ect ece;(try simp only [go_sem,simprocAttr]);refine bB rfl ?_;intro w1 au ak bP;(try simp only [go_sem,simprocAttr]);refine bB rfl ?_;intro w2 aw ai bS;(try simp only [go_sem,simprocAttr]);refine cQ ?_;intro w3 aO ar eR;have au:=(ai.trans ar).at au _root_.id;have aw:=ar.at aw _root_.id;(try simp only [go_sem,simprocAttr,az (n:=3) au la,az (n:=7) aw lb]);refine fG (cs:=([[.string nt,.slice none 0 0,I t.kind,.string t.name,x1,I e.kind,.string e.name,I e.num,x2,x3,x4,x5]]:List (List Value)).flatten.toArray) (ps:=partsOf 12 0 [[.string nt,.slice none 0 0,I t.kind,.string t.name,x1,I e.kind,.string e.name,I e.num,x2,x3,x4,x5]]) (by (try simp only [go_sem,simprocAttr]);rfl) (jD (sz:=12) [[.string nt,.slice none 0 0,I t.kind,.string t.name,x1,I e.kind,.string e.name,I e.num,x2,x3,x4,x5]] [] _ ⟨rfl,trivial⟩ rfl) ?_;intro w4 aZ aA eA;have aO:=aA.at aO _root_.id;(try simp only [go_sem,simprocAttr]);refine bN (vs:=[.slice none 0 0,.slice (some ⟨w3.heap.size,0,none⟩) 1 1]) (cs:=[.slice none 0 0,.slice none 0 0]) rfl rfl aO rfl rfl (aW rfl (aW rfl dy)) ?_;intro w5 bT aD eB;(try simp only [go_sem,simprocAttr,aE,RV.ev,az (n:=2) bT rfl,aF]);have eS:Mod (fun _=>False) w w5:=(ak.trans (ai.trans (ar.trans aA))).step aD (fun x hx hl=>by omega);refine ⟨⟨_,rfl,_,_,rfl,fH _ _ _ _,?_⟩,eS⟩;refine mZ (rows:=[[.string nt,.slice none 0 0,I t.kind,.string t.name,x1,I e.kind,.string e.name,I e.num,x2,x3,x4,x5]]) (aD.at aZ (by omega)) ⟨by have:=aD.size;have:=cC (aD.at aZ (by omega));omega,fun h=>by have:=hS _ h;omega⟩ ⟨rfl,trivial⟩ (by simp) ⟨⟨_,[I t.kind,.string t.name,x1],_,rfl,la,lb,fH _ _ _ _,ht.aB (aj eS),he.aB (aj eS),(show Nm nt by decide)⟩,trivial⟩
end
section
open Go Go.W
def fe (n:Int):Ex:=.mk 2 bD n [] [] [] []
def zX:Ty:=.mk 1 bD []
def UC:Ty:=.mk 4 iA []
def zY (t:Ty) (s:ByteArray) (a b:Int):Pg:=UB t (rh s (fe a) (fe b))
theorem af5 (s:ByteArray) (a b:Int):(rh s (fe a) (fe b)).deep=2:=by rfl
theorem af6 {t:Ty} (ht:t=zX∨t=UC) (e:Ex):∃ E2,nd hH ⟨nt,[],t,e⟩ = .ok E2:=by
 unfold nd;have h1:((aI hH.an nt).isSome || !jv nt)=false:=by decide +kernel
 have h2:fg { hH with params:=j7 [] []} t=true:=by
  rcases ht with rfl | rfl
  ·decide +kernel
  ·decide +kernel
 simp only [h1,Bool.false_eq_true,if_false,sg];simp only [h2,reduceCtorEq,Bool.true_eq_false,if_false];exact ⟨_,rfl⟩
theorem af7 (E:Env) {t:Ty} {s:ByteArray} {a b:Int} (ki:fJ s=some t) (ha : -4611686018427387904≤a∧a≤4611686018427387903) (hb : -4611686018427387904≤b∧b≤4611686018427387903):nX E ⟨nt,[],t,rh s (fe a) (fe b)⟩=0:=by
 have fa:jx (fe a)=true:=by simp [jx,fS,fe,Ex.kind,Ex.num,Ex.name,eH,Ex.types,Ex.args,Ex.binds,Ex.alts,ga,fR,aR,ha.1,ha.2]
 have fb:jx (fe b)=true:=by simp [jx,fS,fe,Ex.kind,Ex.num,Ex.name,eH,Ex.types,Ex.args,Ex.binds,Ex.alts,ga,fR,aR,hb.1,hb.2]
 have fo:jx (rh s (fe a) (fe b))=true:=by simp [jx,fS,rh,Ex.kind,Ex.num,Ex.name,eH,Ex.types,Ex.args,Ex.binds,Ex.alts,ga,fR,aR,ki]
 have ea:∀ st,cj (dX E []) (fe a) st = .ok (zX,st):=fun st=>by
  rw [show fe a = .mk 2 bD a [] [] [] [] from rfl,cj,if_neg (by rw [show Ex.mk 2 bD a [] [] [] []=fe a from rfl,fa];simp),if_neg (by decide),if_pos rfl];try rfl
 have eb:∀ st,cj (dX E []) (fe b) st = .ok (zX,st):=fun st=>by
  rw [show fe b = .mk 2 bD b [] [] [] [] from rfl,cj,if_neg (by rw [show Ex.mk 2 bD b [] [] [] []=fe b from rfl,fb];simp),if_neg (by decide),if_pos rfl];try rfl
 have eo:∀ st,cj (dX E []) (rh s (fe a) (fe b)) st = .ok (t,st):=fun st=>by
  rw [show rh s (fe a) (fe b) = .mk 9 s 0 [] [fe a,fe b] [] [] from rfl,cj,if_neg (by rw [show Ex.mk 9 s 0 [] [fe a,fe b] [] []=rh s (fe a) (fe b) from rfl,fo];simp),if_neg (by decide),if_neg (by decide),if_neg (by decide),if_neg (by decide),if_neg (by decide),if_neg (by decide),if_pos rfl];simp [cG,ea,eb,nR,ki,zX,Ty.kind,Except.map]
 unfold nX;simp only;rw [eo];simp [fQ]
theorem af8 {t:Ty} {s:ByteArray} {a b:Int} (ht:t=zX∨t=UC) (ki:fJ s=some t) (ha : -4611686018427387904≤a∧a≤4611686018427387903) (hb : -4611686018427387904≤b∧b≤4611686018427387903):gB (zY t s a b)=0:=by
 have hd:(zY t s a b).an=[⟨nt,[],t,rh s (fe a) (fe b)⟩]:=rfl;have hh:∃ E2,fk (zY t s a b).an hH = .ok E2:=by
  rw [hd];obtain ⟨E2,h⟩:=af6 ht (rh s (fe a) (fe b));exact ⟨E2,by rw [fk,h];try rfl⟩
 obtain ⟨E2,hh⟩:=hh;have hz:(zY t s a b).size=5:=by rcases ht with rfl | rfl<;>rfl
 unfold gB jG;rw [hz,if_neg (by decide),hd];simp only [List.any_cons,List.any_nil,af5];rw [if_neg (by decide),show kK hH (zY t s a b).aG = .ok hH from rfl];simp only;rw [← hd,hh];simp only;rw [hd];simp only [jF,af7 E2 ki ha hb];simp
end
section
open Go Go.W
abbrev CI:Pg:=zY zX ⟨#[43]⟩ 1 2
theorem af9:sE CI 100 nt=some (false,true):=by decide +kernel
theorem af':(runM CI 20 nt false []).map (fun m=>(m.kind,m.stuck,m.steps,m.told))=some (2,0,5,[(bD,3)]):=by decide +kernel
theorem aga:∃ m,qZ CI 100 nt [] 20=some (0,some m)∧m.kind=2∧m.stuck=0∧m.steps=5∧m.told=[(bD,3)]:=by
 have h:=af'
 match e:runM CI 20 nt false [],h with
 | some m,h=>
  simp only [Option.map_some,Option.some.injEq,Prod.mk.injEq] at h;refine ⟨m,?_,h⟩;unfold qZ;rw [if_neg (by decide),if_neg (by decide),if_neg (by decide),if_neg (by rw [af8 (.inl rfl) (by rw [fJ,if_pos (by decide +kernel)];try rfl) (by decide) (by decide)];simp),af9];simp only;rw [e];rfl
end
section
open Go Go.W
theorem FO {w:World} {B:Nat→Prop} (n:Int):bH w B (CE n) (fe n):=CF (fH _ _ _ _) (fH _ _ _ _) (fH _ _ _ _) (fH _ _ _ _) (Nat.le_refl _)
theorem agb (w:World):sS w (.slice none 0 0) []:=⟨none,0,rfl,by simp,fun i h=>absurd h (by simp)⟩
theorem agc {w:World}:ba Tryz.prog 8 [] w fun r w'=>r = .bool true∧Mod (fun _=>False) w w':=by
 have UD:∀ {w:World} (b:Nat),(fun _=>False:Nat→Prop) b→b < w.heap.size:=fun b h=>h.elim
 refine Xo.calls rfl ?_;unfold G8;(try simp only [go_sem,Nat.reduceAdd,Nat.reduceEqDiff,Nat.reduceLT,Nat.reduceLeDiff,Nat.reduceMul,reduceCtorEq,↓reduceIte]);refine aK (by rfl) ?_;refine Ut.mono ?_;rintro _ w1 ⟨rfl,ak⟩;(try simp only [go_sem,Nat.reduceAdd,Nat.reduceEqDiff,Nat.reduceLT,Nat.reduceLeDiff,Nat.reduceMul,reduceCtorEq,↓reduceIte]);refine aK (by rfl) ?_;refine (FL 1).mono ?_;rintro _ w2 ⟨rfl,ai⟩;(try simp only [go_sem,Nat.reduceAdd,Nat.reduceEqDiff,Nat.reduceLT,Nat.reduceLeDiff,Nat.reduceMul,reduceCtorEq,↓reduceIte]);refine aK (by rfl) ?_;refine (FL 2).mono ?_;rintro _ w3 ⟨rfl,ar⟩;(try simp only [go_sem,Nat.reduceAdd,Nat.reduceEqDiff,Nat.reduceLT,Nat.reduceLeDiff,Nat.reduceMul,reduceCtorEq,↓reduceIte]);refine aK (by rfl) ?_;refine (UA (S:=fun _=>False) UD (FO 1) (FO 2)).mono ?_;rintro _ w4 ⟨⟨c4,rfl,h4⟩,aA⟩;(try simp only [go_sem,Nat.reduceAdd,Nat.reduceEqDiff,Nat.reduceLT,Nat.reduceLeDiff,Nat.reduceMul,reduceCtorEq,↓reduceIte]);refine aK (by rfl) ?_;refine (af4 (S:=fun _=>False) UD (nM _ _ 1 bD) h4).mono ?_;rintro _ w5 ⟨⟨c5,rfl,h5⟩,aD⟩;obtain ⟨m,hm,e1,e2,e3,e4⟩:=aga;(try simp only [go_sem,Nat.reduceAdd,Nat.reduceEqDiff,Nat.reduceLT,Nat.reduceLeDiff,Nat.reduceMul,reduceCtorEq,↓reduceIte]);refine aK (by rfl) ?_;refine (LY CI h5 (agb _) hm).mono ?_;rintro _ w6 ⟨⟨oc,rfl,lA⟩,aJ⟩;obtain ⟨v,rfl,hv⟩:=lA;rw [e1,e2,e3];rw [e4] at hv;have kB:=ak.trans (ai.trans (ar.trans (aA.trans (aD.trans aJ))));(try simp only [go_sem,Nat.reduceAdd,Nat.reduceEqDiff,Nat.reduceLT,Nat.reduceLeDiff,Nat.reduceMul,reduceCtorEq,↓reduceIte]);refine cQ ?_;intro w7 cH aL iL;(try simp only [go_sem,Nat.reduceAdd,Nat.reduceEqDiff,Nat.reduceLT,Nat.reduceLeDiff,Nat.reduceMul,reduceCtorEq,↓reduceIte]);have uJ:=js hv;refine bN (vs:=cS 2 0 5 v) (cs:=cS 0 0 0 (.slice none 0 0)) rfl rfl cH rfl rfl (oh uJ) ?_;intro w8 cO bh mP;have qP:Mod (fun _=>False) w6 w8:=aL.step bh (fun b hb hl=>by omega);obtain ⟨a,c,r,rfl,hr,lu,bQ,Cr⟩:=dL (hv.mod qP aC (fun _ _ h=>h)) (i:=0) (by simp);have hr:r=[.string bD,I 3]:=hr;subst hr;have z0:((0:Int) == 0)=true:=rfl;have z2:((2:Int) == 2)=true:=rfl;have z1:(((1:Nat):Int) == 1)=true:=rfl;rw [Nat.zero_mul] at bQ;have z3:((3:Int) == 3)=true:=rfl;have z5:((5:Int) == 5)=true:=rfl;have zs:(bD.toList == bD.toList)=true:=by simp
 have p1:(0:Int)≤0∧(0:Int) < ((1:Nat):Int):=by decide
 have bQ:fV w8 2 (.pointer (some (a.add (Int.toNat 0*2))))=some (.agg #[.string bD,I 3]):=by rw [show Int.toNat 0*2=0 from rfl];exact bQ
 (try simp only [go_sem,Nat.reduceAdd,Nat.reduceEqDiff,Nat.reduceLT,Nat.reduceLeDiff,Nat.reduceMul,reduceCtorEq,↓reduceIte,cell_of cO,Value.cells,z0,z2,z1,z3,z5,zs,p1,bQ,aE,RV.ev,aF]);exact kB.trans qP
end
section
open Go Go.W
section
variable {X X':Cx} (hd:X'.an=X.an) (hf:X'.fields=X.fields) (hu:X.fuel≤X'.fuel)
include hd hf hu
end
end
section
open Go Go.W
theorem agd (l m:List q8):re l (l++m)=true:=by
 induction l with
 | nil=>rfl
 | cons a l ih=>simp [re,zT,ih]
theorem age {p:Pg} {N:Nat} {name:ByteArray} {input:List Int} {fuel:Int} {r:Int×Option Rn} (h:qZ p N name input fuel=some r) (h0:r.1=0):∃ gk a,r=(0,some a)∧sE p N name=some (gk,true)∧(0≤fuel∧fuel≤1048576)∧runM p fuel name gk input=some a:=by
 unfold qZ at h
 split at h
 ·cases h;cases h0
 ·split at h
  ·cases h;cases h0
  ·split at h
   ·cases h;cases h0
   ·rename_i hf
    split at h
    ·rename_i hc;cases h;exact absurd h0 hc
    ·split at h
     ·cases h
     ·cases h;cases h0
     ·rename_i gk he;obtain ⟨a,ha,rfl⟩:=Option.map_eq_some_iff.1 h;exact ⟨gk,a,rfl,he,by omega,ha⟩
end
section
open Go Go.W
theorem UE {w:World} {B:Nat→Prop} {oc:List Value} {x:Option Rn} (h:og w B oc x):∃ k s n v l,oc=cS k s n v∧uf w B v l:=by
 match x,h with
 | none,h=>exact ⟨_,_,_,_,[],h,fH _ _ _ _⟩
 | some m,⟨v,h1,h2⟩=>exact ⟨_,_,_,_,_,h1,h2⟩
theorem og.up {w w':World} {B B':Nat→Prop} {oc:List Value} {x:Option Rn} (h:og w B oc x) (hm:Mod (fun _=>False) w w') (hB:∀ b,B b→B' b):og w' B' oc x:=by
 match x,h with
 | none,h=>exact h
 | some m,⟨v,h1,h2⟩=>exact ⟨v,h1,aQ.up h2 hm aC hB (fun _ _ h=>h)⟩
end
section
open Go Go.W Go.ChangeShapes Go.WideShapes Go.ChangeAt Go.RowKit Go.Deep
theorem Tryz.FP:Tryz.prog.cellsOf 3=1:=by kernel_rfl
theorem Tryz.sG:Tryz.prog.cellsOf 9=1:=by kernel_rfl
theorem Tryz.agf:Tryz.prog.cellsOf 22=1:=by kernel_rfl
theorem Tryz.agh:Tryz.prog.cellsOf 23=1:=by kernel_rfl
theorem Tryz.agi:Tryz.prog.cellsOf 25=2:=by kernel_rfl
theorem Tryz.L7:Tryz.prog.cellsOf 39=1:=by kernel_rfl
theorem Tryz.L8:Tryz.prog.cellsOf 40=1:=by kernel_rfl
theorem Tryz.zZ:Tryz.prog.cellsOf 42=3:=by kernel_rfl
theorem Tryz.agj:Tryz.prog.cellsOf 43=1:=by kernel_rfl
theorem Tryz.agk:Tryz.prog.cellsOf 44=1:=by kernel_rfl
theorem Tryz.agl:Tryz.prog.cellsOf 45=1:=by kernel_rfl
theorem Tryz.CJ:Tryz.prog.cellsOf 47=7:=by kernel_rfl
theorem Tryz.UF:Tryz.prog.cellsOf 49=12:=by kernel_rfl
theorem Tryz.agm:Tryz.prog.cellsOf 61=1:=by kernel_rfl
theorem Tryz.UG:Tryz.prog.cellsOf 63=3:=by kernel_rfl
theorem Tryz.UH:Tryz.prog.cellsOf 66=2:=by kernel_rfl
theorem Tryz.UI:Tryz.prog.cellsOf 95=11:=by kernel_rfl
theorem Tryz.UJ:Tryz.prog.cellsOf 97=11:=by kernel_rfl
theorem Tryz.own:ownKnob Tryz.prog.godebug=none:=by kernel_rfl
theorem Tryz.laidOut:laidOutB Tryz.prog=true:=by kernel_rfl
inductive iw:Ex→Prop
 | mk {k m:Int} {n:ByteArray} {ts:List Ty} {xs:List Ex} {bs:List Bd} {al:List Al} (hn:n.size≤1048576) (lx:xs.length≤1048576) (lb:bs.length≤1048576) (la:al.length≤1048576)
     (hx:∀ e∈xs,iw e) (hb:∀ b∈bs,b.name.size≤1048576) (aw:∀ b∈bs,iw b.value) (ha:∀ a∈al,a.vars.length≤1048576∧∀ s∈a.vars,s.size≤1048576) (tA:∀ a∈al,iw a.body):iw (.mk k n m ts xs bs al)
theorem CK {α:Type} {w:World} {v:Value} {sz:Nat} {B:Nat→Prop} {P:List Value→α→Prop} {Q:α→Prop} {l:List α} (h:aQ w v sz B (fun r a=>P r a∧Q a) l):aQ w v sz B P l∧∀ a∈l,Q a:=by
 refine ⟨h.imp (fun _ _ x=>x.1),fun a ha=>?_⟩;obtain ⟨rows,h1,h2,h3⟩:=h;obtain ⟨i,hi,rfl⟩:=List.getElem_of_mem ha;exact (h3 i _ _ (List.getElem?_eq_getElem (by omega)) (List.getElem?_eq_getElem hi)).2
section
variable {H:Type} {enc:TypeId×Value→H} {P:Program}
theorem UK:∀ {l:List (DataW H)} {d:DataW H},d∈l→Rows.uptoBulk d≤Rows.uptoBulkAll l
 | y::l,d,h=>by
  rw [Rows.uptoBulkAll];rcases List.mem_cons.1 h with rfl | h
  ·omega
  ·have:=UK h;omega
theorem L9 (d:DataW H):1≤Rows.uptoBulk d:=by
 cases d with
 | lit l=>cases l<;>simp [Rows.uptoBulk]
 | _=>simp [Rows.uptoBulk]
theorem UL:∀ (l:List (DataW H)),l.length≤Rows.uptoBulkAll l
 | []=>Nat.le_refl _
 | d::l=>by
  rw [Rows.uptoBulkAll,List.length_cons];have:=L9 d;have:=UL l;omega
theorem lW {w:World} {a:Addr} {v:Value} (h:w.cell? a=some v):a.block < w.heap.size:=by
 unfold World.cell? at h;cases hb:w.heap[a.block]? with
 | none=>rw [hb] at h;cases h
 | some o=>exact cC hb
theorem pY {α:Type} {t e:TypeId} {k n b:Nat} (Pr:List Value→α→Prop) {w:World} {base:Nat} {held:Bool} {cs:List Value} {x:DataW H×List MemPlace}
   (ht:P.underlying t=some (.slice e)) (hk:P.cellsOf e=k) (qB:0 < k)
   (each:∀ n cs y,DataW.trod enc P w base (fun _=>true) held n e cs=some y→Rows.uptoBulk y.1≤b→∃ o,Pr cs o)
   (h:DataW.trod enc P w base (fun _=>true) held n t cs=some x) (hb:Rows.uptoBulk x.1≤b+1) (aw:b≤1048576) :
   ∃ (v:Value) (l:List α),cs=[v]∧aQ w v k (· < w.heap.size) Pr l∧yB v∧l.length≤b+1:=by
 rcases open_slice ht h with ⟨rfl,rfl⟩ | ⟨a,len,cap,m,k',D,Pl,rfl,_,hl,_,hm,rfl,AY⟩
 ·exact ⟨_,[],rfl,fH _ _ _ _,Nat.le_refl _,by simp⟩
 ·simp only [if_true] at hm;subst hm;simp only [Rows.uptoBulk] at hb;have hlen:=UL ((List.range len).map D);rw [List.length_map,List.length_range] at hlen;have all:∀ i,i < len→∃ oc:α×List Value,(∀ j,j < k→w.cell? ((a.add (i*k)).add j)=oc.2[j]?)∧oc.2.length=k∧Pr oc.2 oc.1:=by
   intro i hi;obtain ⟨cs,h3,h4⟩:=AY i (by omega);have dK:=UK (List.mem_map.2 ⟨i,List.mem_range.2 hi,rfl⟩:D i∈(List.range len).map D);obtain ⟨o,ho⟩:=each _ _ _ h4 (by show Rows.uptoBulk (D i)≤b;omega);obtain ⟨_,h6,h5⟩:=World.cells?_some h3;rw [hk] at h5 h6;exact ⟨(o,cs),fun j hj=>h5 j hj,h6,ho⟩
  rcases Nat.eq_zero_or_pos len with h0 | h0
  ·subst h0;refine ⟨_,[],rfl,⟨[],⟨⟨some a,m,rfl,fun h=>absurd h (by simp),fun i hi=>absurd hi (by simp)⟩,by simp⟩,rfl,fun i r a hr=>by simp at hr⟩,hl,by simp⟩
  haveI:Nonempty (α×List Value):=by obtain ⟨o,_⟩:=all 0 h0;exact ⟨o⟩
  haveI:Inhabited (α×List Value):=Classical.inhabited_of_nonempty this
  obtain ⟨f,hf⟩:=choose_lt (α:=α×List Value) (h:=all);refine ⟨_,(List.range len).map (fun i=>(f i).1),rfl,⟨(List.range len).map (fun i=>(f i).2),⟨⟨some a,m,by simp,fun O5 ad e=>?_,?_⟩,by simp;omega⟩,by simp,?_⟩,hl,by simp;omega⟩
  ·cases e;have hc:=(hf 0 h0).1 0 qB;have e1:(f 0).2[0]? = some ((f 0).2[0]'(by rw [(hf 0 h0).2.1];exact qB)):=List.getElem?_eq_getElem _;rw [e1] at hc;simp only [Nat.zero_mul,add_zero'] at hc;exact lW hc
  ·intro i hi;have ix:i < len:=by simpa using hi
   refine ⟨a,rfl,by simpa using (hf i ix).2.1,fun j hj=>?_⟩;simp only [List.getElem_map,List.getElem_range] at hj ⊢;rw [(hf i ix).1 j (by rw [(hf i ix).2.1] at hj;exact hj)];exact List.getElem?_eq_getElem _
  ·intro i r o hr ho;rw [List.getElem?_map] at hr ho;rcases Nat.lt_or_ge i len with hi | hi
   ·rw [List.getElem?_range hi] at hr ho;cases hr;cases ho;exact (hf i hi).2.2
   ·rw [List.getElem?_eq_none (by simpa using hi)] at hr;cases hr
variable {w:World} {base:Nat} {held:Bool}
theorem ug {n:Nat} {c:Value} {y:DataW H×List MemPlace} (h:DataW.trod enc Tryz.prog w base (fun _=>true) held n 9 [c]=some y) (hb:Rows.uptoBulk y.1≤1048576):∃ s:ByteArray,c = .string s∧Nm s∧s.size≤1048576:=by
 obtain ⟨s,e,rfl,_⟩:=DataW.trod_string Tryz.underlying9 h;cases e;have h1:s.data.toList.length=s.size:=Array.length_toList;simp only [Rows.uptoBulk] at hb;exact ⟨s,rfl,by show s.size < _;omega,by omega⟩
theorem L' {n:Nat} {cs:List Value} {y:DataW H×List MemPlace} (h:DataW.trod enc Tryz.prog w base (fun _=>true) held n 9 cs=some y) (hb:Rows.uptoBulk y.1≤1048576):∃ s:ByteArray,eP cs s∧s.size≤1048576:=by
 obtain ⟨s,rfl,_⟩:=DataW.trod_string Tryz.underlying9 h;obtain ⟨s',e,hs⟩:=ug h hb;cases e;exact ⟨_,⟨rfl,hs.1⟩,hs.2⟩
theorem CL {n:Nat} {c:Value} {y:DataW H×List MemPlace} (h:DataW.trod enc Tryz.prog w base (fun _=>true) held n 3 [c]=some y):∃ i:Int,c=I i:=by
 obtain ⟨i0,e0,rfl,_⟩:=DataW.trod_int Tryz.underlying3 h;cases e0;exact ⟨_,rfl⟩
theorem CM:∀ (b:Nat),b≤1048576→∀ n cs (y:DataW H×List MemPlace),DataW.trod enc Tryz.prog w base (fun _=>true) held n 42 cs=some y→Rows.uptoBulk y.1≤b→∃ t,aX w (· < w.heap.size) cs t
 | 0,_,n,cs,y,_,hb=>absurd (L9 y.1) (by omega)
 | b+1,dV,n,cs,y,h,hb=>by
  obtain ⟨xs,m,rfl,rfl,hl,nu,hf⟩:=DataW.trod_struct Tryz.underlying42 h;rw [Tryz.zZ] at hl
  match cs,hl,xs,nu with
  | [c0,c1,c2],_,[x0,x1,x2],_=>
  have f0:=hf 0 _ rfl;have f1:=hf 1 _ rfl;have f2:=hf 2 _ rfl;simp only [Tryz.FP,Tryz.sG,Tryz.L8,List.drop_zero,List.drop_succ_cons,List.take_succ_cons,List.take_zero,List.getElem?_cons_zero,List.getElem?_cons_succ] at f0 f1 f2;simp only [Rows.uptoBulk,Rows.uptoBulkAll,List.map_cons,List.map_nil] at hb;obtain ⟨k,rfl⟩:=CL f0;obtain ⟨s,rfl,hs,_⟩:=ug f1 (by omega);obtain ⟨v,l,e,hv,_,_⟩:=pY (b:=b) (fun cs t=>aX w (· < w.heap.size) cs t) Tryz.underlying40 Tryz.zZ (by decide) (fun n cs y h1 h2=>CM b (by omega) n cs y h1 h2) f2 (by omega) (by omega);cases e;obtain ⟨rows,q1,q2,q3⟩:=hv;exact ⟨.mk k s l,.mk q1 q2 q3⟩
end
end
section
open Go Go.W Go.ChangeShapes Go.WideShapes Go.ChangeAt Go.RowKit Go.Deep
section
variable {H:Type} {enc:TypeId×Value→H} {w:World} {base:Nat} {held:Bool}
theorem agn {b:Nat} (dV:b≤1048576) (ih:∀ n cs (y:DataW H×List MemPlace),DataW.trod enc Tryz.prog w base (fun _=>true) held n 47 cs=some y→Rows.uptoBulk y.1≤b→∃ e,bH w (· < w.heap.size) cs e∧iw e) (n:Nat) (cs:List Value) (y:DataW H×List MemPlace)
   (h:DataW.trod enc Tryz.prog w base (fun _=>true) held n 95 cs=some y) (hb:Rows.uptoBulk y.1≤b):∃ x,dP w (· < w.heap.size) cs x∧(x.name.size≤1048576∧iw x.value):=by
 obtain ⟨xs,m,rfl,rfl,hl,nu,hf⟩:=DataW.trod_struct Tryz.underlying95 h;rw [Tryz.UI] at hl
 match cs,hl,xs,nu with
 | [c0,c1,c2,c3,c4,c5,c6,c7,c8,c9,yS],_,[x0,x1,x2],_=>
 have f0:=hf 0 _ rfl;have f1:=hf 1 _ rfl;have f2:=hf 2 _ rfl;simp only [Tryz.sG,Tryz.zZ,Tryz.CJ,List.drop_zero,List.drop_succ_cons,List.take_succ_cons,List.take_zero,List.getElem?_cons_zero,List.getElem?_cons_succ] at f0 f1 f2;simp only [Rows.uptoBulk,Rows.uptoBulkAll,List.map_cons,List.map_nil] at hb;obtain ⟨s,rfl,hs⟩:=ug f0 (by omega);obtain ⟨t,ht⟩:=CM b dV _ _ _ f1 (by omega);obtain ⟨e,he,dF⟩:=ih _ _ _ f2 (by omega);exact ⟨.mk s t e,⟨_,_,rfl,ht,he,hs.1⟩,hs.2,dF⟩
theorem ago {b:Nat} (dV:b≤1048576) (ih:∀ n cs (y:DataW H×List MemPlace),DataW.trod enc Tryz.prog w base (fun _=>true) held n 47 cs=some y→Rows.uptoBulk y.1≤b→∃ e,bH w (· < w.heap.size) cs e∧iw e) (n:Nat) (cs:List Value) (y:DataW H×List MemPlace)
   (h:DataW.trod enc Tryz.prog w base (fun _=>true) held n 97 cs=some y) (hb:Rows.uptoBulk y.1≤b):∃ x,gq w (· < w.heap.size) cs x∧((x.vars.length≤1048576∧∀ s∈x.vars,s.size≤1048576)∧iw x.body):=by
 obtain ⟨xs,m,rfl,rfl,hl,nu,hf⟩:=DataW.trod_struct Tryz.underlying97 h;rw [Tryz.UJ] at hl
 match cs,hl,xs,nu with
 | [c0,c1,c2,c3,c4,c5,c6,c7,c8,c9,yS],_,[x0,x1,x2,x3,x4],_=>
 have f0:=hf 0 _ rfl;have f1:=hf 1 _ rfl;have f2:=hf 2 _ rfl;have f3:=hf 3 _ rfl;have f4:=hf 4 _ rfl;simp only [Tryz.FP,Tryz.sG,Tryz.L7,Tryz.CJ,List.drop_zero,List.drop_succ_cons,List.take_succ_cons,List.take_zero,List.getElem?_cons_zero,List.getElem?_cons_succ] at f0 f1 f2 f3 f4;simp only [Rows.uptoBulk,Rows.uptoBulkAll,List.map_cons,List.map_nil] at hb;obtain ⟨k,rfl⟩:=CL f0;obtain ⟨s,rfl,hs⟩:=ug f1 (by omega);obtain ⟨m',rfl⟩:=CL f2;obtain ⟨v,l,e,hv,_,hl⟩:=pY (b:=1048575) (fun cs s=>eP cs s∧s.size≤1048576) Tryz.underlying39 Tryz.sG (by decide) (fun n cs y h1 h2=>L' h1 (by omega)) f3 (by omega) (by omega);cases e;obtain ⟨hv,lS⟩:=CK hv;obtain ⟨e,he,dF⟩:=ih _ _ _ f4 (by omega);exact ⟨.mk k s m' l e,⟨_,_,rfl,hv,he⟩,⟨by show l.length≤_;omega,lS⟩,dF⟩
theorem UM:∀ (b:Nat),b≤1048576→∀ n cs (y:DataW H×List MemPlace),DataW.trod enc Tryz.prog w base (fun _=>true) held n 47 cs=some y→Rows.uptoBulk y.1≤b→∃ e,bH w (· < w.heap.size) cs e∧iw e
 | 0,_,n,cs,y,_,hb=>absurd (L9 y.1) (by omega)
 | b+1,dV,n,cs,y,h,hb=>by
  have ih:=UM b (by omega);obtain ⟨xs,m,rfl,rfl,hl,nu,hf⟩:=DataW.trod_struct Tryz.underlying47 h;rw [Tryz.CJ] at hl
  match cs,hl,xs,nu with
  | [c0,c1,c2,c3,c4,c5,c6],_,[x0,x1,x2,x3,x4,x5,x6],_=>
  have f0:=hf 0 _ rfl;have f1:=hf 1 _ rfl;have f2:=hf 2 _ rfl;have f3:=hf 3 _ rfl;have f4:=hf 4 _ rfl;have f5:=hf 5 _ rfl;have f6:=hf 6 _ rfl;simp only [Tryz.FP,Tryz.sG,Tryz.L8,Tryz.agj,Tryz.agk,Tryz.agl,List.drop_zero,List.drop_succ_cons,List.take_succ_cons,List.take_zero,List.getElem?_cons_zero,List.getElem?_cons_succ] at f0 f1 f2 f3 f4 f5 f6;simp only [Rows.uptoBulk,Rows.uptoBulkAll,List.map_cons,List.map_nil] at hb;obtain ⟨k,rfl⟩:=CL f0;obtain ⟨s,rfl,_,hs⟩:=ug f1 (by omega);obtain ⟨m',rfl⟩:=CL f2;obtain ⟨v3,l3,e,BY,_,_⟩:=pY (b:=b) (fun cs t=>aX w (· < w.heap.size) cs t) Tryz.underlying40 Tryz.zZ (by decide) (fun n cs y h1 h2=>CM b (by omega) n cs y h1 h2) f3 (by omega) (by omega);cases e;obtain ⟨v4,l4,e,Cj,_,l4l⟩:=pY (b:=b) (fun cs t=>bH w (· < w.heap.size) cs t∧iw t) Tryz.underlying43 Tryz.CJ (by decide) ih f4 (by omega) (by omega);cases e;obtain ⟨v5,l5,e,Ma,_,l5l⟩:=pY (b:=b) (fun cs t=>dP w (· < w.heap.size) cs t∧(t.name.size≤1048576∧iw t.value)) Tryz.underlying44 Tryz.UI (by decide) (agn (by omega) ih) f5 (by omega) (by omega);cases e;obtain ⟨v6,l6,e,Mb,jd,l6l⟩:=pY (b:=b) (fun cs t=>gq w (· < w.heap.size) cs t∧((t.vars.length≤1048576∧∀ s∈t.vars,s.size≤1048576)∧iw t.body)) Tryz.underlying45 Tryz.UJ (by decide) (ago (by omega) ih) f6 (by omega) (by omega);cases e;obtain ⟨Cj,s4⟩:=CK Cj;obtain ⟨Ma,s5⟩:=CK Ma;obtain ⟨Mb,s6⟩:=CK Mb;exact ⟨.mk k s m' l3 l4 l5 l6,CF BY Cj Ma Mb jd,.mk hs (by omega) (by omega) (by omega) s4 (fun b hb=>(s5 b hb).1) (fun b hb=>(s5 b hb).2) (fun a ha=>(s6 a ha).1) (fun a ha=>(s6 a ha).2)⟩
theorem agp {b:Nat} (dV:b≤1048576) (n:Nat) (cs:List Value) (y:DataW H×List MemPlace)
   (h:DataW.trod enc Tryz.prog w base (fun _=>true) held n 66 cs=some y) (hb:Rows.uptoBulk y.1≤b):∃ x,eF w (· < w.heap.size) cs x:=by
 obtain ⟨xs,m,rfl,rfl,hl,nu,hf⟩:=DataW.trod_struct Tryz.underlying66 h;rw [Tryz.UH] at hl
 match cs,hl,xs,nu with
 | [c0,c1],_,[x0,x1],_=>
 have f0:=hf 0 _ rfl;have f1:=hf 1 _ rfl;simp only [Tryz.sG,Tryz.L8,List.drop_zero,List.drop_succ_cons,List.take_succ_cons,List.take_zero,List.getElem?_cons_zero,List.getElem?_cons_succ] at f0 f1;simp only [Rows.uptoBulk,Rows.uptoBulkAll,List.map_cons,List.map_nil] at hb;obtain ⟨s,rfl,hs⟩:=ug f0 (by omega);obtain ⟨v,l,e,hv,_,_⟩:=pY (b:=b) (fun cs t=>aX w (· < w.heap.size) cs t) Tryz.underlying40 Tryz.zZ (by decide) (fun n cs y h1 h2=>CM b (by omega) n cs y h1 h2) f1 (by omega) (by omega);cases e;exact ⟨⟨s,l⟩,_,rfl,hv,hs.1⟩
theorem agq {b:Nat} (dV:b≤1048576) (n:Nat) (cs:List Value) (y:DataW H×List MemPlace)
   (h:DataW.trod enc Tryz.prog w base (fun _=>true) held n 63 cs=some y) (hb:Rows.uptoBulk y.1≤b):∃ x,gp w (· < w.heap.size) cs x:=by
 obtain ⟨xs,m,rfl,rfl,hl,nu,hf⟩:=DataW.trod_struct Tryz.underlying63 h;rw [Tryz.UG] at hl
 match cs,hl,xs,nu with
 | [c0,c1,c2],_,[x0,x1,x2],_=>
 have f0:=hf 0 _ rfl;have f1:=hf 1 _ rfl;have f2:=hf 2 _ rfl;simp only [Tryz.sG,Tryz.L7,Tryz.agm,List.drop_zero,List.drop_succ_cons,List.take_succ_cons,List.take_zero,List.getElem?_cons_zero,List.getElem?_cons_succ] at f0 f1 f2;simp only [Rows.uptoBulk,Rows.uptoBulkAll,List.map_cons,List.map_nil] at hb;obtain ⟨s,rfl,hs⟩:=ug f0 (by omega);obtain ⟨v,l,e,hv,_,_⟩:=pY (b:=b) eP Tryz.underlying39 Tryz.sG (by decide) (fun n cs y h1 h2=>by obtain ⟨s,h,_⟩:=L' h1 (by omega);exact ⟨s,h⟩) f1 (by omega) (by omega);cases e;obtain ⟨v2,l2,e,CN,_,_⟩:=pY (b:=b) (fun cs t=>eF w (· < w.heap.size) cs t) Tryz.underlying61 Tryz.UH (by decide) (agp (by omega)) f2 (by omega) (by omega);cases e;exact ⟨⟨s,l,l2⟩,_,_,rfl,hv,CN⟩
theorem agr {b:Nat} (dV:b≤1048576) (n:Nat) (cs:List Value) (y:DataW H×List MemPlace)
   (h:DataW.trod enc Tryz.prog w base (fun _=>true) held n 49 cs=some y) (hb:Rows.uptoBulk y.1≤b):∃ x,jR w (· < w.heap.size) cs x∧iw x.body:=by
 obtain ⟨xs,m,rfl,rfl,hl,nu,hf⟩:=DataW.trod_struct Tryz.underlying49 h;rw [Tryz.UF] at hl
 match cs,hl,xs,nu with
 | [c0,c1,c2,c3,c4,c5,c6,c7,c8,c9,yS,DM],_,[x0,x1,x2,x3],_=>
 have f0:=hf 0 _ rfl;have f1:=hf 1 _ rfl;have f2:=hf 2 _ rfl;have f3:=hf 3 _ rfl;simp only [Tryz.sG,Tryz.L7,Tryz.zZ,Tryz.CJ,List.drop_zero,List.drop_succ_cons,List.take_succ_cons,List.take_zero,List.getElem?_cons_zero,List.getElem?_cons_succ] at f0 f1 f2 f3;simp only [Rows.uptoBulk,Rows.uptoBulkAll,List.map_cons,List.map_nil] at hb;obtain ⟨s,rfl,hs⟩:=ug f0 (by omega);obtain ⟨v,l,e,hv,_,_⟩:=pY (b:=b) eP Tryz.underlying39 Tryz.sG (by decide) (fun n cs y h1 h2=>by obtain ⟨s,h,_⟩:=L' h1 (by omega);exact ⟨s,h⟩) f1 (by omega) (by omega);cases e;obtain ⟨t,ht⟩:=CM b dV _ _ _ f2 (by omega);obtain ⟨e,he,dF⟩:=UM b dV _ _ _ f3 (by omega);exact ⟨⟨s,l,t,e⟩,⟨_,[c2,c3,c4],[c5,c6,c7,c8,c9,yS,DM],rfl,rfl,rfl,hv,ht,he,hs.1⟩,dF⟩
theorem ags {n:Nat} {cs:List Value} {y:DataW H×List MemPlace} (h:DataW.trod enc Tryz.prog w base (fun _=>true) held n 25 cs=some y) (hb:Rows.uptoBulk y.1≤1048576) :
   ∃ v0 v1 p,cs=[v0,v1]∧jr w (· < w.heap.size) cs p∧(p.an.length≤1048576∧∀ d∈p.an,iw d.body):=by
 obtain ⟨xs,m,rfl,rfl,hl,nu,hf⟩:=DataW.trod_struct Tryz.underlying25 h;rw [Tryz.agi] at hl
 match cs,hl,xs,nu with
 | [c0,c1],_,[x0,x1],_=>
 have f0:=hf 0 _ rfl;have f1:=hf 1 _ rfl;simp only [Tryz.agf,Tryz.agh,List.drop_zero,List.drop_succ_cons,List.take_succ_cons,List.take_zero,List.getElem?_cons_zero,List.getElem?_cons_succ] at f0 f1;simp only [Rows.uptoBulk,Rows.uptoBulkAll,List.map_cons,List.map_nil] at hb;obtain ⟨v,l,e,hv,_,_⟩:=pY (b:=1048575) (fun cs t=>gp w (· < w.heap.size) cs t) Tryz.underlying22 Tryz.UG (by decide) (agq (by omega)) f0 (by omega) (by omega);cases e;obtain ⟨v2,l2,e,CN,_,l2l⟩:=pY (b:=1048575) (fun cs t=>jR w (· < w.heap.size) cs t∧iw t.body) Tryz.underlying23 Tryz.UF (by decide) (agr (by omega)) f1 (by omega) (by omega);cases e;obtain ⟨CN,s2⟩:=CK CN;exact ⟨_,_,⟨l,l2⟩,rfl,⟨_,_,rfl,hv,CN⟩,by omega,s2⟩
end
end
section
open Go Go.W Go.ChangeShapes Go.WideShapes Go.ChangeAt Go.RowKit Go.Deep
theorem agt {p:Nat→Bool} {l m:List Nat} (h:(l++m).all p=true):l.all p=true∧m.all p=true:=by
 simpa using h
theorem Tryz.agu:Tryz.prog.bytesOf 3=8:=by kernel_rfl
section
variable {H:Type} {enc:TypeId×Value→H} {w:World} {ts:List TypeId} {args:List Value} {ds:List (DataW H)}
theorem FQ {P:Program} {t:TypeId} (h:nF enc P (t::ts) w args ds):∃ v gD d fO base p,args=v::gD∧ds=d::fO∧nF enc P ts w gD fO∧Value.okWide P w .any base t v∧DataW.Trod enc P w 0 (fun _=>true) true t v d p∧(d.weights P t).all (·≤reachBytes)=true:=by
 obtain ⟨⟨base,iv⟩,⟨ps,hA⟩,dj⟩:=h;obtain ⟨v,vs,d,fO,p,q,rfl,rfl,rfl,hd,qc⟩:=trodAll_cons hA;rw [DataW.weightsEach] at dj;obtain ⟨h1,h2⟩:=agt dj;exact ⟨v,vs,d,fO,base,p,rfl,rfl,⟨⟨base,fun j t' v' ht hv=>iv (j+1) t' v' ht hv⟩,⟨q,qc⟩,h2⟩,iv 0 t v rfl rfl,hd,h1⟩
theorem agv {P:Program} (h:nF enc P [] w args ds):args=[]∧ds=[]:=by
 obtain ⟨_,⟨ps,hA⟩,_⟩:=h;obtain ⟨rfl,rfl,_⟩:=trodAll_nil hA;exact ⟨rfl,rfl⟩
theorem agw (h:nF enc Tryz.prog (3::ts) w args ds):∃ n gD d fO,args=I n::gD∧ds=d::fO∧nF enc Tryz.prog ts w gD fO:=by
 obtain ⟨v,gD,d,fO,base,p,rfl,rfl,h',iv,hd,_⟩:=FQ h;obtain ⟨n,rfl,_⟩:=open_int Tryz.underlying3 iv hd;exact ⟨n,gD,d,fO,rfl,rfl,h'⟩
theorem agx (h:nF enc Tryz.prog (26::ts) w args ds):∃ v input gD d fO,args=v::gD∧ds=d::fO∧sS w v input∧nF enc Tryz.prog ts w gD fO:=by
 obtain ⟨v,gD,d,fO,base,p,rfl,rfl,h',iv,hd,hw⟩:=FQ h;obtain ⟨a0,len,cap,rfl⟩:=okWide_slice Tryz.underlying26 iv;obtain ⟨fuel,hf⟩:=hd;obtain ⟨c,xs,e,h1,h2⟩:=WD (x:=(d,p)) Tryz.underlying26 Tryz.underlying3 Tryz.FP Tryz.agu hf hw;cases e;exact ⟨_,xs,gD,d,fO,rfl,rfl,h1,h'⟩
theorem agy (h:nF enc Tryz.prog (25::ts) w args ds) (hb:Rows.uptoBulkAll ds≤1048576):∃ (cs:List Value) (p:Pg) (gD:List Value) (d:DataW H) (fO:List (DataW H)),args = .agg cs.toArray::gD∧ds=d::fO∧jr w (Out (fun _=>False) w) cs p∧(p.an.length≤1048576∧∀ d∈p.an,iw d.body)∧nF enc Tryz.prog ts w gD fO:=by
 obtain ⟨v,gD,d,fO,base,p,rfl,rfl,h',iv,hd,hw⟩:=FQ h;obtain ⟨cs,rfl,_⟩:=okWide_struct Tryz.underlying25 iv;obtain ⟨fuel,hf⟩:=hd;rw [Rows.uptoBulkAll] at hb;obtain ⟨v0,v1,pg,e,h1,cF⟩:=ags (y:=(d,p)) (by simpa [Value.cells] using hf) (by show Rows.uptoBulk d≤_;omega);have e':cs = #[v0,v1]:=Array.ext' e;subst e';exact ⟨[v0,v1],pg,gD,d,fO,rfl,rfl,h1.up (.refl (fun _=>False) w) aC (fun b hb=>⟨hb,_root_.id⟩),cF,h'⟩
end
theorem agz {H:Type} {enc:TypeId×Value→H} {C:Go.Checked} {os:Os} {f:FuncId} {fn:Func} {s:ChangeSpec} {tb:TypeId} {F:Stop.Interp} {L:List (String×DataW Unit)} (own:ownKnob C.prog.godebug=none) (started:os.Started) (agA:C.prog.inits.idxOf? f=none) (eE:C.prog.funcs[f]? = some fn)
   (witness:∃ (w:World) (tape:Tape) (i:Input),w.os=os∧(w.forCall tape i).Shaped C.prog∧i.vars=[]∧Input.okWide C.prog (w.forCall tape i) .any w.heap.size f i ∧
    (Rows.OpenSpec.upto s).preRow enc C.prog fn [] false L (w.forCall tape i).memory i.args∧({}:Assume).holds C.prog (lone (Frame.enter C.prog f i.args .normal) [] (w.forCall tape i)))
   (laid:laidOutB C.prog=true) (gg:fn.params.toList.all (fun t=>C.prog.readableRec t&&decide (t < C.prog.types.size))=true)
   (aS:fn.resultTypes = #[tb]) (hb:C.prog.underlying tb=some .bool) (Mc:s.vars=[])
   (hs:∀ ds:List (DataW H),ds.length=fn.params.toList.length→s.fn H ds = { results:=[.lit (.bool true)],args:=ds})
   (walk:∀ (W:World) (args:List Value) (ds:List (DataW H)),nF enc C.prog fn.params.toList W args ds→Rows.uptoBulkAll ds≤1048576→ba C.prog f args W fun q w'=>q = .bool true∧Mod (fun _=>False) W w') :
   ReturnsInHanded {} C os f .any ((Rows.OpenSpec.upto s).preRow enc C.prog fn [] false L) (((Rows.OpenSpec.upto s).at F).post enc C.prog fn false true false false):=by
 refine returnsInHanded_of_row (s:=Rows.OpenSpec.upto s) own started agA eE witness ?_;intro W base args ds gs before iv hW _ C9 dj _ _ _;have hk:Rows.uptoSmall H (ds++gs)=true:=C9 _ rfl;have hW:DataW.Whole enc C.prog fn.params.toList s.vars false W args.toList ds gs before:=hW;have Me:=hW;obtain ⟨p,q,hA,hV,rfl,_,_⟩:=hW;rw [Mc] at hV;obtain ⟨rfl,rfl⟩:=trodVars_none hV;simp only [List.append_nil] at Me dj hk;have agB:(DataW.weightsEach C.prog fn.params.toList ds).all (·≤reachBytes)=true:=by
  have e:(Rows.OpenSpec.upto s).bare.plain.varTypes C.prog=[]:=by
   show (s.plain).varTypes C.prog=[];simp [DataSpec.varTypes,ChangeSpec.plain,Mc]
  rw [e,List.append_nil] at dj;exact dj
 have jU:Rows.uptoBulkAll ds≤1048576:=of_decide_eq_true hk;have key:=walk W args.toList ds ⟨⟨base,fun j t v ht hv=>iv j t v (by simpa using ht) (by simpa using hv)⟩,⟨p,hA⟩,agB⟩ jU;have e:args.toList.toArray=args:=by simp
 unfold ba at key;rw [e] at key;refine key.mono ?_;rintro _ W' ⟨_,rfl,rfl,hm⟩;have UN:=WC hm;have aP:∀ x∈p,x.block < W.heap.size:=fun x hx=>by simpa using Me.lt x hx
 have hf:=hs ds (Nt hA);have gS:((Rows.OpenSpec.upto s).at F).fn H ds = { results:=[.lit (.bool true)],args:=ds}:=hf;refine ⟨_,rfl,ds,[],_,[],p,[],Me,?_,?_,?_,UN.frame _,fun h=>by cases h⟩
 ·rw [List.append_nil,gS,aS];exact trodAll_mk1 (shut_bool hb true)
 ·rw [List.append_nil,gS];exact Nu laid UN gg aP hA
 ·have lY:((Rows.OpenSpec.upto s).at F).vars=[]:=Mc;rw [List.append_nil,gS,lY];rfl
abbrev CO:List (String×DataW Unit):=[("math/bits.deBruijn32tab",Rows.laid_math_bits_deBruijn32tab),("math/bits.deBruijn64tab",Rows.laid_math_bits_deBruijn64tab),("internal/strconv.uint64pow10",Rows.laid_internal_strconv_uint64pow10),("unicode/utf8.acceptRanges",Rows.laid_unicode_utf8_acceptRanges),("unicode/utf8.first",Rows.laid_unicode_utf8_first)]
theorem agC (os:Os) (args:Array Value):laidMetH Tryz.prog CO ((World.laidAll Tryz.prog os CO).forCall (fun _ _=>0) ⟨#[],args,[]⟩).memory:=by
 rw [MakeChecks.laidMetH_plain _ _ _ (by kernel_rfl)];exact laidMet_laidAll _ (by kernel_rfl) (by kernel_rfl)
end
section
open Go Go.W
def tl (s:ByteArray):ByteArray:=s++⟨#[126]⟩
theorem agD {a b:ByteArray} (h:tl a=tl b):a=b:=by
 have h1:(tl a).data=(tl b).data:=by rw [h]
 unfold tl at h1;rw [ByteArray.data_append,ByteArray.data_append] at h1;have h2:=Array.append_inj_left' h1 rfl;exact ByteArray.ext h2
mutual
def cT:Ex→Ex
 | .mk k n m ts xs bs al=>.mk k (if k=1 then tl n else n) m ts (Aa xs) (Ab bs) (Ac al)
def Aa:List Ex→List Ex
 | []=>[]
 | e::l=>cT e::Aa l
def Ab:List Bd→List Bd
 | []=>[]
 | .mk n t v::l=>.mk (tl n) t (cT v)::Ab l
def Ac:List Al→List Al
 | []=>[]
 | .mk k c m vs b::l=>.mk k c m (vs.map tl) (cT b)::Ac l
end
def sH (b:Bd):Bd:=.mk (tl b.name) b.type (cT b.value)
def pZ (a:Al):Al:=.mk a.kind a.bg a.num (a.vars.map tl) (cT a.body)
theorem UO (l:List Ex):Aa l=l.map cT:=by
 induction l with
 | nil=>rw [Aa];rfl
 | cons e l ih=>rw [Aa,ih];rfl
theorem UP (l:List Bd):Ab l=l.map sH:=by
 induction l with
 | nil=>rw [Ab];rfl
 | cons e l ih=>cases e;rw [Ab,ih];rfl
theorem UQ (l:List Al):Ac l=l.map pZ:=by
 induction l with
 | nil=>rw [Ac];rfl
 | cons e l ih=>cases e;rw [Ac,ih];rfl
theorem agE (e:Ex):(cT e).kind=e.kind:=by cases e;rw [cT];rfl
theorem Ad (e:Ex):(cT e).name=if e.kind=1 then tl e.name else e.name:=by cases e;rw [cT];rfl
theorem agF (e:Ex):(cT e).num=e.num:=by cases e;rw [cT];rfl
theorem Ae (e:Ex):(cT e).args=e.args.map cT:=by cases e;rw [cT];exact UO _
theorem Mf (e:Ex):(cT e).binds=e.binds.map sH:=by cases e;rw [cT];exact UP _
theorem agG (e:Ex):(cT e).alts=e.alts.map pZ:=by cases e;rw [cT];exact UQ _
section
variable (σ:Nat→Nat)
def kP (v:cN):cN:=v.map (fun p=>(tl p.1,σ p.2))
def ie:Cl→Cl
 | .num n=>.num n
 | .bg n fs=>.bg n (fs.map σ)
 | .gi e v=>.gi (cT e) (kP σ v)
 | .fr n l h=>.fr n l (h.map σ)
 | .wait e v=>.wait (cT e) (kP σ v)
 | .busy=>.busy
 | .emp=>.emp
def sI:Fm→Fm
 | .gd c=>.gd (σ c)
 | .app e v=>.app (cT e) (kP σ v)
 | .nf e v=>.nf (cT e) (kP σ v)
 | .fst e v=>.fst (cT e) (kP σ v)
 | .snd e n=>.snd (cT e) n
 | .seq e v=>.seq (cT e) (kP σ v)
 | .nh e v=>.nh (cT e) (kP σ v)
def vY:Md→Md
 | .go e v=>.go (cT e) (kP σ v)
 | .val c=>.val (ie σ c)
def FR:Fm→Prop
 | .fst e _=>e.kind≠1
 | .snd e _=>e.kind≠1
 | _=>True
structure ey (n:Nat) (m m':Rn):Prop where
 cells:∀ c x,m.cells[c]? = some x→m'.cells[σ c]? = some (ie σ x)
 len:σ m.cells.length=m'.cells.length
 a7:m'.a7=m.a7.map (sI σ)
 told:m'.told=m.told
 steps:m'.steps=m.steps
 kind:m'.kind=m.kind
 stuck:m'.stuck=m.stuck
 ge:n≤m.cells.length
 ok:∀ f∈m.a7,FR f
structure Way (n:Nat):Prop where
 inj:∀ a b,σ a=σ b→a=b
 up:∀ a,n≤a→σ (a+1)=σ a+1
end
section
variable {σ:Nat→Nat} {n:Nat} (hw:Way σ n)
theorem agH {v:cN} {k:ByteArray}:vx (kP σ v) (tl k)=(vx v k).map σ:=by
 unfold vx
 induction v with
 | nil=>rfl
 | cons p v ih=>
  show aI ((tl p.1,σ p.2)::kP σ v) (tl k)=_;rw [nY,nY,ih];by_cases h:p.1=k
  ·rw [if_pos (by simp only [h]),if_pos h];rfl
  ·rw [if_neg (fun e=>h (agD e)),if_neg h]
theorem ey.put {m m':Rn} (h:ey σ n m m') {c:Nat} {x:Cl} (hw:Way σ n):ey σ n (m.put c x) (m'.put (σ c) (ie σ x)):=by
 refine ⟨fun d y hd=>?_,by simpa [Rn.put] using h.len,h.a7,h.told,h.steps,h.kind,h.stuck,by simpa [Rn.put] using h.ge,h.ok⟩;simp only [Rn.put] at hd ⊢;rw [List.getElem?_set] at hd ⊢;by_cases e:c=d
 ·subst e;rw [if_pos rfl] at hd ⊢;by_cases hl:c < m.cells.length
  ·rw [if_pos hl] at hd;cases hd;have:=h.cells c _ (List.getElem?_eq_getElem hl);rw [if_pos (List.getElem?_eq_some_iff.1 this).1]
  ·rw [if_neg hl] at hd;cases hd
 ·rw [if_neg e] at hd;rw [if_neg (fun h=>e (hw.inj _ _ h))];exact h.cells d y hd
theorem ey.new {m m':Rn} (h:ey σ n m m') {x:Cl} (hw:Way σ n):ey σ n (m.new x) (m'.new (ie σ x)):=by
 refine ⟨fun d y hd=>?_,?_,h.a7,h.told,h.steps,h.kind,h.stuck,by have:=h.ge;simp [Rn.new];omega,h.ok⟩
 ·simp only [Rn.new] at hd ⊢;rcases Nat.lt_or_ge d m.cells.length with hl | hl
  ·rw [List.getElem?_append_left hl] at hd;have:=h.cells d y hd;rw [List.getElem?_append_left (List.getElem?_eq_some_iff.1 this).1];exact this
  ·rw [List.getElem?_append_right hl] at hd;have e:d=m.cells.length:=by
    have:=(List.getElem?_eq_some_iff.1 hd).1;simp at this;omega
   subst e;rw [Nat.sub_self] at hd;cases hd;rw [h.len,List.getElem?_append_right (Nat.le_refl _),Nat.sub_self];rfl
 ·simp only [Rn.new,List.length_append,List.length_singleton];rw [hw.up _ h.ge,h.len]
theorem ey.push {m m':Rn} (h:ey σ n m m') (f:Fm) (hf:FR f):ey σ n (m.push f) (m'.push (sI σ f)):=
 ⟨h.cells,h.len,by simp [Rn.push,h.a7],h.told,h.steps,h.kind,h.stuck,h.ge,fun g hg=>by
  rcases List.mem_append.1 hg with hg | hg
  ·exact h.ok g hg
  ·rw [List.mem_singleton.1 hg];exact hf⟩
theorem ey.stop {m m':Rn} (h:ey σ n m m') (k:Int):ey σ n (m.stop k) (m'.stop k):=⟨h.cells,h.len,h.a7,h.told,h.steps,rfl,rfl,h.ge,h.ok⟩
def CP (σ:Nat→Nat) (n:Nat) (r r':R3):Prop:=r'.1=r.1.map (vY σ)∧ey σ n r.2 r'.2
theorem Way.add (hw:Way σ n) {a:Nat} (ha:n≤a):∀ k,σ (a+k)=σ a+k
 | 0=>rfl
 | k+1=>by rw [← Nat.add_assoc,hw.up _ (by omega),hw.add ha k];omega
theorem Mg {m m':Rn} (h:ey σ n m m') (hw:Way σ n) (c:Nat):CP σ n (ft m c) (ft m' (σ c)):=by
 rcases Nat.lt_or_ge c m.cells.length with hc | hc
 ·have hx:=List.getElem?_eq_getElem hc;have B1:=h.cells c _ hx;unfold ft;rw [hx,B1];cases e:m.cells[c] with
  | wait e v=>exact ⟨rfl,(h.put hw (x:=.busy)).push (.gd c) trivial⟩
  | num n=>exact ⟨rfl,h⟩
  | bg n fs=>exact ⟨rfl,h⟩
  | gi e v=>exact ⟨rfl,h⟩
  | fr n l hv=>exact ⟨rfl,h⟩
  | busy=>exact ⟨rfl,h.stop 4⟩
  | emp=>exact ⟨rfl,h.stop 4⟩
 ·have h1:m.cells[c]? = none:=List.getElem?_eq_none hc
  have h2:m'.cells[σ c]? = none:=List.getElem?_eq_none (by
   have:=hw.add h.ge (c - m.cells.length);rw [Nat.add_sub_cancel' hc,h.len] at this
   omega)
  unfold ft;rw [h1,h2];exact ⟨rfl,h.stop 4⟩
theorem UR (k:ByteArray) (l:Int) (hv:List Nat):ie σ (lJ k l hv)=lJ k l (hv.map σ):=by
 unfold lJ
 split<;>rfl
theorem US {m m':Rn} (h:ey σ n m m') {f:Cl} {c:Nat} {r:R3} (hr:j8 m f c=some r):∃ r',j8 m' (ie σ f) (σ c)=some r'∧CP σ n r r':=by
 unfold j8 at hr;cases f with
 | gi e v=>
  simp only at hr;cases ha:e.args with
  | nil=>rw [ha] at hr;cases hr
  | cons x xs=>
   cases hb:e.binds with
   | nil=>rw [ha,hb] at hr;cases hr
   | cons b bs=>
    rw [ha,hb] at hr;cases hr;refine ⟨_,by simp only [j8,ie,Ae,Mf,ha,hb,List.map_cons];rfl,rfl,h⟩
 | fr k l hv=>
  simp only at hr;by_cases q:hv.length < 1099511627776
  ·rw [if_pos q] at hr;cases hr;refine ⟨(some (.val (lJ k (Wr (l - 1)) ((hv.map σ)++[σ c]))),m'),by simp only [j8,ie,List.length_map,if_pos q],?_,h⟩;simp only [Option.map_some,vY,UR,List.map_append,List.map_cons,List.map_nil]
  ·rw [if_neg q] at hr;cases hr
 | num n=>cases hr;exact ⟨_,rfl,rfl,h.stop 5⟩
 | bg n fs=>cases hr;exact ⟨_,rfl,rfl,h.stop 5⟩
 | wait e v=>cases hr;exact ⟨_,rfl,rfl,h.stop 5⟩
 | busy=>cases hr;exact ⟨_,rfl,rfl,h.stop 5⟩
 | emp=>cases hr;exact ⟨_,rfl,rfl,h.stop 5⟩
theorem Mh (x:Cl):numOf (ie σ x)=numOf x:=by cases x<;>rfl
theorem agI (x:Cl):iQ (ie σ x)=(iQ x).map (fun k=>(k.1,k.2.map σ)):=by cases x<;>rfl
theorem UT:∀ (l:List ByteArray) (cs:List Nat) (v:cN),jJ (l.map tl) (cs.map σ) (kP σ v)=(jJ l cs v).map (kP σ)
 | [],_,v=>by simp [jJ]
 | s::l,c::cs,v=>by
  simp only [List.map_cons,jJ];exact UT l cs ((s,c)::v)
 | s::l,[],v=>by simp [jJ]
theorem Mi {m m':Rn} (h:ey σ n m m') {v:cN} {x:Cl}:∀ (l:List Al) {r:R3},eu m v x l=some r→∃ r',eu m' (kP σ v) (ie σ x) (l.map pZ)=some r'∧CP σ n r r'
 | [],r,hr=>by
  rw [eu] at hr;cases hr;exact ⟨_,by rw [List.map_nil,eu],rfl,h.stop 2⟩
 | a::l,r,hr=>by
  rw [eu] at hr;rw [List.map_cons,eu];have e1:(pZ a).kind=a.kind:=rfl;have e2:(pZ a).num=a.num:=rfl;have e3:(pZ a).bg=a.bg:=rfl;have e4:(pZ a).vars=a.vars.map tl:=rfl;have e5:(pZ a).body=cT a.body:=rfl;rw [e1,e2,e3,e4,e5,Mh,agI,Option.isNone_map];by_cases q:(a.kind == 3||(a.kind == 2&&(iQ x).isNone&&a.num == numOf x))=true
  ·rw [if_pos q] at hr ⊢;cases hr;exact ⟨_,rfl,rfl,h⟩
  ·rw [if_neg q] at hr ⊢;cases hc:iQ x with
   | none=>rw [hc] at hr;exact Mi h l hr
   | some k=>
    rw [hc] at hr;simp only [Option.map_some] at hr ⊢;by_cases q2:(a.kind == 1&&aR a.bg k.1)=true
    ·rw [if_pos q2] at hr ⊢;rw [UT];obtain ⟨v',lY,rfl⟩:=Option.map_eq_some_iff.1 hr;rw [lY];exact ⟨_,rfl,rfl,h⟩
    ·rw [if_neg q2] at hr ⊢;exact Mi h l hr
end
end
section
open Go Go.W
abbrev Rp (α:Type):=World→(Nat→Prop)→List Value→α→Prop
structure vZ {α:Type} (sz:Nat) (Pr:Rp α):Prop where
 len:∀ {w:World} {B:Nat→Prop} {r:List Value} {a:α},Pr w B r a→r.length=sz
 one:∀ {w:World} {B:Nat→Prop} {r:List Value} {a:α},Pr w B r a→∀ u∈r,u.oneCell'=true
 up:∀ {w w':World} {S B B':Nat→Prop} {r:List Value} {a:α},Pr w B r a→Mod S w w'→(∀ b,B b→¬ S b)→(∀ b,B b→B' b)→Pr w' B' r a
theorem Mj:vZ 1 (fun _ _ r s=>eP r s):=⟨fun h=>by rw [h.1];rfl,fun h=>h.one,fun h _ _ _=>h⟩
theorem Mk:vZ 7 (fun w B r e=>bH w B r e):=⟨fun h=>h.len,fun h=>h.one,fun h a b c=>h.up a b c⟩
theorem Af:vZ 11 (fun w B r b=>dP w B r b):=⟨fun h=>by
   obtain ⟨tc,ec,rfl,h1,h2,_⟩:=h;simp [h1.len,h2.len],fun h=>h.one,fun h a b c=>by
   obtain ⟨tc,ec,e,h1,h2,hn⟩:=h
   exact ⟨tc,ec,e,h1.up a b c,h2.up a b c,hn⟩⟩
theorem FT:vZ 11 (fun w B r a=>gq w B r a):=⟨fun h=>by
   obtain ⟨vv,ec,rfl,h1,h2⟩:=h;simp [h2.len],fun h=>h.one,fun h a b c=>by
   obtain ⟨vv,ec,e,h1,h2⟩:=h
   exact ⟨vv,ec,e,aQ.up h1 a b c (fun _ _ h=>h),h2.up a b c⟩⟩
theorem xZ:vZ 12 (fun w B r d=>jR w B r d):=⟨fun h=>by
   obtain ⟨vp,tc,bc,rfl,l1,l2,h1,h2,h3,_⟩:=h
   simp [l1,l2],fun h=>h.one,fun h a b c=>h.up a b c⟩
theorem bH.Ml {w:World} {S S':Nat→Prop} {cs:List Value} {e:Ex} (h:bH w (Out S' w) cs e) (hs:∀ b,S b→S' b):bH w (Out S w) cs e:=h.up (.refl (fun _=>False) w) aC (fun b h=>⟨h.1,fun hh=>h.2 (hs b hh)⟩)
abbrev SF (S:Nat→Prop) (fp:Option Nat):Nat→Prop:=fun b=>S b∨fp=some b
structure Gr {α:Type} (S:Nat→Prop) (n0:Nat) (w:World) (T sz:Nat) (v:Value) (Pr:Rp α) (l:List α) (fp:Option Nat):Prop where
 ex:∃ rows:List (List Value),dE w T sz v (rows.flatMap id) rows.length fp∧rows.length=l.length∧∀ (i:Nat) (r:List Value) (a:α),rows[i]? = some r→l[i]? = some a→Pr w (Out (SF S fp) w) r a
 new:∀ b,fp=some b→n0≤b
section
variable {α:Type} {S:Nat→Prop} {n0:Nat} {w w':World} {T sz:Nat} {v:Value} {Pr:Rp α} {l:List α} {fp:Option Nat}
theorem CQ:Gr S n0 w T sz (.slice none 0 0) Pr [] none:=⟨⟨[],.nil _ _ _,rfl,fun i r a h=>by simp at h⟩,fun b h=>by cases h⟩
theorem Gr.val (h:Gr S n0 w T sz v Pr l fp):∃ a c,v = .slice a l.length c∧l.length≤c:=by
 obtain ⟨⟨rows,h1,h2,_⟩,_⟩:=h;obtain ⟨a,c,e,h3,_⟩:=h1.val;exact ⟨a,c,by rw [e,h2],by omega⟩
theorem Gr.lt (h:Gr S n0 w T sz v Pr l fp):∀ b,fp=some b→b < w.heap.size:=by
 obtain ⟨⟨rows,h1,_⟩,_⟩:=h;exact fun b hb=>h1.lt hb
theorem Gr.mod (hE:vZ sz Pr) (h:Gr S n0 w T sz v Pr l fp) {R:Nat→Prop} (hm:Mod R w w') (hR:∀ b,R b→S b) (hS:∀ b,S b→b < n0):Gr S n0 w' T sz v Pr l fp:=by
 obtain ⟨⟨rows,h1,h2,h3⟩,h4⟩:=h;exact ⟨⟨rows,h1.mod hm (fun b hb hr=>by have:=h4 b hb;have:=hS b (hR b hr);omega),h2,fun i r a x y=>hE.up (h3 i r a x y) hm (fun b hb hr=>hb.2 (.inl (hR b hr))) (aU (hm.aT (fun b hb=>.inl (hR b hb))))⟩,h4⟩
theorem Gr.done (hE:vZ sz Pr) (h:Gr S n0 w T sz v Pr l fp) (hS:∀ b,S b→b < n0) (hl:l.length≤1099511627776):aQ w v sz (Out S w) (Pr w (Out S w)) l:=by
 have aP:=h.lt;obtain ⟨⟨rows,h1,h2,h3⟩,h4⟩:=h;have hz:Mod (fun _=>False) w w:=.refl _ _;refine ⟨rows,⟨(AZ h1 (fun r hr=>?_)).mod hz aC (fun b hb=>⟨aP b hb,fun hs=>by have:=hS b hs;have:=h4 b hb;omega⟩),by omega⟩,h2,fun i r a x y=>hE.up (h3 i r a x y) hz aC (fun b hb=>⟨hb.1,fun hs=>hb.2 (.inl hs)⟩)⟩;obtain ⟨i,hi,rfl⟩:=List.getElem_of_mem hr;exact hE.len (h3 i _ _ (List.getElem?_eq_getElem hi) (List.getElem?_eq_getElem (by omega)))
theorem Ag {P:Program} {ρ:Go.W.Env} {K:Value→World→Prop} {bytes c:Nat} {zero:Array Value} {s x:O} {r:List Value} {a:α} {xa:Option Addr} (hE:vZ sz Pr) (hs:s.ev ρ=some v) (hg:Gr S n0 w T sz v Pr l fp) (hx:x.ev ρ=some (.slice xa 1 c)) (kR:xa≠none)
   (hr:oo w xa sz r) (hp:Pr w (Out (SF S fp) w) r a) (hz:zero.size=sz) (hl:l.length≤4294967296) (hb:bytes≤1024) (hn:n0≤w.heap.size) (hS:∀ b,S b→b < n0)
   (hk:∀ v' w' gn,Gr S n0 w' T sz v' Pr (l++[a]) gn→Mod (fun b=>fp=some b) w w'→(∀ b,gn=some b→fp=some b∨b=w.heap.size∧b < w'.heap.size)→K v' w'):Go.W.E.wp P w ρ K (.ap T sz bytes zero s x):=by
 obtain ⟨⟨rows,h1,h2,h3⟩,h4⟩:=hg;have hm:(rows.length+1)*bytes≤140737488355328:=by
  have:=Nat.mul_le_mul (show rows.length+1≤4294967297 by omega) hb;omega
 refine rD (m:=1) (news:=r) hs h1 hx (fun h=>absurd h kR) (by rw [Nat.one_mul];exact hr) (hE.one hp) hz hm (by omega) ?_;intro v' w' gn ho tm hf
 have up:∀ b,Out (SF S fp) w b→Out (SF S gn) w' b:=fun b hb=>⟨Nat.lt_of_lt_of_le hb.1 tm.size,fun hh=>by
  rcases hh with h | h
  ·exact hb.2 (.inl h)
  ·rcases hf b h with h | ⟨h,_⟩
   ·exact hb.2 (.inr h)
   ·have:=hb.1;omega⟩
 have key:∀ r a,Pr w (Out (SF S fp) w) r a→Pr w' (Out (SF S gn) w') r a:=fun r a h=>hE.up h tm (fun b hb hh=>hb.2 (.inr hh)) up
 refine hk v' w' gn ⟨⟨rows++[r],by rw [Ba,List.length_append];exact ho,by simp [h2],fun i r' a' x y=>?_⟩,fun b hb=>?_⟩ tm hf
 ·rcases Nat.lt_or_ge i rows.length with h | h
  ·rw [List.getElem?_append_left h] at x;rw [List.getElem?_append_left (by omega)] at y;exact key _ _ (h3 i _ _ x y)
  ·rw [List.getElem?_append_right h] at x;rw [List.getElem?_append_right (by omega)] at y;have e1:i - rows.length=0:=by
    have:=(List.getElem?_eq_some_iff.1 x).1;simp at this;omega
   have e2:i - l.length=0:=by omega
   rw [e1] at x;rw [e2] at y;cases x;cases y;exact key _ _ hp
 ·rcases hf b hb with h | ⟨h,_⟩
  ·exact h4 b h
  ·omega
end
end
section
open Go Go.W
theorem CR {P:Program} {N:Nat} {ρ:Go.W.Env} {w:World} {body:IR} {Q:Post} (len:Nat) (Inv:Nat→Go.W.Env→World→Prop) (h0:Inv 0 ρ w)
   (hs:∀ k ρ w,Inv k ρ w→k≤len→cL P N body (kq (fun aH w'=>k < len∧Inv (k+1) aH w') Q) ρ w):cL P N (.loop body) Q ρ w:=by
 refine fx (fun n ρ w=>∃ k,k+n=len∧Inv k ρ w) len ⟨0,by omega,h0⟩ ?_;rintro n ρ w ⟨k,hk,hI⟩;refine wy _ _ _ (Wn (a:=body) ?_) _ _ (hs k ρ w hI (by omega));rintro aH w' ⟨h1,h2⟩;exact ⟨len - (k+1),by omega,k+1,by omega,h2⟩
theorem Mm {s:ByteArray} (h:s.size≤1048576):¬ (((s.size+(#[126]:Array UInt8).size:Nat):Int) > IntKind.i64.max):=by
 have e1:(#[126]:Array UInt8).size=1:=rfl;have e2:IntKind.i64.max=9223372036854775807:=by decide +kernel
 rw [e1,e2];omega
theorem UU {s:ByteArray} (h:s.size≤1048576):Nm (tl s):=by
 have e1:(tl s).size=s.size+1:=by unfold tl;rw [ByteArray.size_append];rfl
 show (tl s).size < _;omega
theorem iw.all {e:Ex} (h:iw e):e.name.size≤1048576∧e.args.length≤1048576∧e.binds.length≤1048576∧e.alts.length≤1048576∧(∀ x∈e.args,iw x)∧(∀ b∈e.binds,b.name.size≤1048576∧iw b.value)∧∀ a∈e.alts,(a.vars.length≤1048576∧∀ s∈a.vars,s.size≤1048576)∧iw a.body:=by
 cases h with
 | mk hn lx lb la hx hb aw ha tA=>exact ⟨hn,lx,lb,la,hx,fun b h=>⟨hb b h,aw b h⟩,fun a h=>⟨ha a h,tA a h⟩⟩
theorem Mn {x:List Value} {ec es:List Value} {n k:Nat} (hx:x.length=n) (hk:ec.length=k) (he:es.length=k):sp (x++ec).toArray n es=(x++es).toArray:=by
 unfold sp
 congr 1
 simp only;rw [List.take_left' hx,List.drop_of_length_le (by rw [List.length_append];omega),List.append_nil]
theorem CS {α β:Type} (f:α→β) {l:List α} {k:Nat} (h:k < l.length):(l.take (k+1)).map f=(l.take k).map f++[f l[k]]:=by
 rw [List.take_succ_eq_append_getElem h,List.map_append];rfl
theorem FU {k n:Nat} (h:k < n) (hn:n≤1048576):IntKind.i64.wrap ((k:Int)+1)=((k+1:Nat):Int):=by
 rw [dk (by omega) (by omega)];rfl
theorem agJ (e:Ex):cT e = .mk e.kind (cT e).name e.num e.types (e.args.map cT) (e.binds.map sH) (e.alts.map pZ):=by
 cases e with
 | mk k n m ts xs bs al=>
  rw [Ad,cT,UO,UP,UQ];rfl
theorem agK (e:Ex):∀ {w:World} {S:Nat→Prop} {cs:List Value},iw e→bH w (Out S w) cs e→(∀ b,S b→b < w.heap.size) →
   ba Tryz.prog 12 [.agg cs.toArray] w fun r w'=>(∃ iW,r = .agg (iW:List Value).toArray∧bH w' (Out S w') iW (cT e))∧Mod (fun _=>False) w w':=by
 induction e using Ex.ind with
 | h e eZ mj mT=>
 intro w S cs cF h hS;have lV:=h.cap;obtain ⟨vt,va,vb,vl,rfl,ht,ha,hb,hl⟩:=h.parts;obtain ⟨aa,ca,rfl⟩:=a8 ha;obtain ⟨ab,cb,rfl⟩:=a8 hb;obtain ⟨al,cl,rfl⟩:=a8 hl;refine Xs.calls rfl ?_;unfold Hb;refine dO (fun ρ w'=>Mod (fun _=>False) w w'∧w'.heap[w.heap.size]? = some (.cells [I e.kind,.string e.name,I e.num,vt,.slice aa e.args.length ca,.slice ab e.binds.length cb,.slice al e.alts.length cl].toArray 47 (0,0))∧w'.heap[w.heap.size+1]? = some (.cells [I 0,.string bD,I 0,.slice none 0 0,.slice none 0 0,.slice none 0 0,.slice none 0 0].toArray 47 (0,0))∧ρ=[(1,ptr w.heap.size),(2,ptr (w.heap.size+1))]) ?_ ?_
 ·(try simp only [go_sem,Nat.reduceAdd,Nat.reduceEqDiff,Nat.reduceLT,Nat.reduceLeDiff,Nat.reduceMul,reduceCtorEq,↓reduceIte]);refine bB rfl ?_;intro w1 au ak bP;(try simp only [go_sem,Nat.reduceAdd,Nat.reduceEqDiff,Nat.reduceLT,Nat.reduceLeDiff,Nat.reduceMul,reduceCtorEq,↓reduceIte]);refine cQ ?_;intro w2 aw ai bS;(try simp only [go_sem,Nat.reduceAdd,Nat.reduceEqDiff,Nat.reduceLT,Nat.reduceLeDiff,Nat.reduceMul,reduceCtorEq,↓reduceIte]);rw [bP] at aw ⊢;exact ⟨ak.trans ai,ai.at au _root_.id,aw,rfl⟩
 rintro _ w1 ⟨Ah,h1,h2,rfl⟩;refine dO (fun ρ w'=>Mod (fun _=>False) w w'∧w'.heap[w.heap.size]? = some (.cells [I e.kind,.string (cT e).name,I e.num,vt,.slice aa e.args.length ca,.slice ab e.binds.length cb,.slice al e.alts.length cl].toArray 47 (0,0))∧w'.heap[w.heap.size+1]? = some (.cells [I 0,.string bD,I 0,.slice none 0 0,.slice none 0 0,.slice none 0 0,.slice none 0 0].toArray 47 (0,0))∧ρ.get 1=some (ptr w.heap.size)∧ρ.get 2=some (ptr (w.heap.size+1))) ?_ ?_
 ·cases hk:e.kind == 1 with
  | false=>
   have e1:(cT e).name=e.name:=by rw [Ad,if_neg (by simpa using hk)]
   (try simp only [go_sem,Nat.reduceAdd,Nat.reduceEqDiff,Nat.reduceLT,Nat.reduceLeDiff,Nat.reduceMul,reduceCtorEq,↓reduceIte,cell_of h1,Value.cells,hk]);rw [e1];exact ⟨Ah,h1,h2⟩
  | true=>
   have e1:(cT e).name=tl e.name:=by rw [Ad,if_pos (by simpa using hk)]
   have e2:=Mm cF.all.1;(try simp only [go_sem,Nat.reduceAdd,Nat.reduceEqDiff,Nat.reduceLT,Nat.reduceLeDiff,Nat.reduceMul,reduceCtorEq,↓reduceIte,cell_of h1,Value.cells,hk,e2]);refine fF (cs:=[I e.kind,.string e.name,I e.num,vt,.slice aa e.args.length ca,.slice ab e.binds.length cb,.slice al e.alts.length cl]) rfl rfl h1 rfl (by simp) ?_;intro w2 aw ai bS;rw [e1];have l2:=cC h2;exact ⟨Ah.step ai (fun b hb hl=>by omega),aw,ai.at h2 (by omega)⟩
 clear h1 h2 Ah;rintro ρ w2 ⟨iS,h1,h2,g1,g2⟩;obtain ⟨sn,sla,slb,sll,sa,sb,sl⟩:=cF.all;have kb:∀ {w'},Mod (fun _=>False) w w'→aQ w' (.slice ab e.binds.length cb) 11 (Out S w) (dP w' (Out S w)) e.binds:=fun hm=>hb.mod hm aC (fun _ _ h=>h.mod hm aC)
 have ka:∀ {w'},Mod (fun _=>False) w w'→aQ w' (.slice aa e.args.length ca) 7 (Out S w) (bH w' (Out S w)) e.args:=fun hm=>ha.mod hm aC (fun _ _ h=>h.mod hm aC)
 have kl:∀ {w'},Mod (fun _=>False) w w'→aQ w' (.slice al e.alts.length cl) 11 (Out S w) (gq w' (Out S w)) e.alts:=fun hm=>hl.mod hm aC (fun _ _ h=>h.mod hm aC)
 obtain ⟨S1,q1,q2,q3,q4,q5⟩:∃ S1:Nat→Prop,(∀ b,S1 b→b < w2.heap.size)∧(∀ b,b < w.heap.size→S1 b→S b)∧(∀ b,S b→S1 b)∧S1 w.heap.size∧S1 (w.heap.size+1):=by
  have l1:=cC h1;have l2:=cC h2;refine ⟨fun b=>S b∨b=w.heap.size∨b=w.heap.size+1,fun b hb=>?_,fun b hl hb=>?_,fun b hb=>.inl hb,.inr (.inl rfl),.inr (.inr rfl)⟩
  ·rcases hb with h | h | h
   ·have:=hS b h;omega
   ·omega
   ·omega
  ·rcases hb with h | h | h
   ·exact h
   ·omega
   ·omega
 refine dO (fun ρ w'=>w2=w'∧ρ=[(1,ptr w.heap.size),(2,ptr (w.heap.size+1)),(3,.slice none 0 0)]) ?_ ?_
 ·(try simp only [go_sem,Nat.reduceAdd,Nat.reduceEqDiff,Nat.reduceLT,Nat.reduceLeDiff,Nat.reduceMul,reduceCtorEq,↓reduceIte,g1,g2])
 rintro _ _ ⟨rfl,rfl⟩;clear g1 g2;refine dO (fun ρ w'=>∃ g',Mod (fun _=>False) w2 w'∧aQ w' g' 11 (Out S1 w') (dP w' (Out S1 w')) (e.binds.map sH)∧ρ.get 1=some (ptr w.heap.size)∧ρ.get 2=some (ptr (w.heap.size+1))∧ρ.get 3=some g') ?_ ?_
 ·refine dO (fun ρ w'=>w2=w'∧ρ=[(1,ptr w.heap.size),(2,ptr (w.heap.size+1)),(3,.slice none 0 0),(4,I 0)]) ?_ ?_
  ·(try simp only [go_sem,Nat.reduceAdd,Nat.reduceEqDiff,Nat.reduceLT,Nat.reduceLeDiff,Nat.reduceMul,reduceCtorEq,↓reduceIte])
  rintro _ _ ⟨rfl,rfl⟩;refine Cf ?_;refine CR e.binds.length (fun k ρ w'=>∃ v fp,k≤e.binds.length∧Mod (fun _=>False) w2 w'∧Gr S1 w2.heap.size w' 95 11 v (fun w B r b=>dP w B r b) ((e.binds.take k).map sH) fp∧ρ=[(1,ptr w.heap.size),(2,ptr (w.heap.size+1)),(3,v),(4,I k)]) ⟨_,none,by omega,.refl _ _,CQ,rfl⟩ ?_;rintro k _ w3 ⟨v,fp,hk,ar,hg,rfl⟩ _;unfold NU;have gI:=ar.at h1 _root_.id;rcases Nat.lt_or_ge k e.binds.length with aP | hge
  ·have q:decide ((k:Int) < e.binds.length)=true:=decide_eq_true (by omega);obtain ⟨ad,cc,r,e1,hr,lu,bQ,_⟩:=dL (kb (iS.trans ar)) aP;cases e1;have b1:(0:Int)≤k∧(k:Int) < e.binds.length:=by omega
   obtain ⟨dY,o4⟩:=sb _ (List.getElem_mem aP);obtain ⟨tc,ec,rfl,gw,ej,hrn⟩:=hr;have EP:=gw.len;have xy:=ej.len;have ro:=aW (v:=.string e.binds[k].name) rfl (Dj gw.one ej.one);(try simp only [go_sem,Nat.reduceAdd,Nat.reduceEqDiff,Nat.reduceLT,Nat.reduceLeDiff,Nat.reduceMul,reduceCtorEq,↓reduceIte,bq,br,cell_of gI,Value.cells,q,b1,bQ,decide_true]);refine di (n:=11) (vs:=.string e.binds[k].name::(tc++ec)) rfl lu ro ?_;intro w4 aZ aA eA;(try simp only [go_sem,Nat.reduceAdd,Nat.reduceEqDiff,Nat.reduceLT,Nat.reduceLeDiff,Nat.reduceMul,reduceCtorEq,↓reduceIte,cell_of aZ,Value.cells,Mm dY]);refine fF (cs:=.string e.binds[k].name::(tc++ec)) rfl rfl aZ rfl (by simp) ?_;intro w5 bT aD eB;have bT:w5.heap[w3.heap.size]? = some (.cells ((.string (tl e.binds[k].name)::tc)++ec).toArray 95 (0,0)):=bT;have eT:Mod (fun _=>False) w3 w5:=aA.step aD (fun b hb hl=>by omega);have k2:=gF (off:=4) (n:=7) bT (by simp;omega);rw [List.drop_left' (by simp;omega),List.take_of_length_le (by omega)] at k2;(try simp only [go_sem,Nat.reduceAdd,Nat.reduceEqDiff,Nat.reduceLT,Nat.reduceLeDiff,Nat.reduceMul,reduceCtorEq,↓reduceIte,k2]);refine aK (by rfl) ?_;have z3:=ar.size;have zw:=iS.size
   have FV:∀ b,Out S w b→Out (fun b=>SF S1 fp b∨b=w3.heap.size) w5 b:=fun b hb=>⟨by have:=hb.1;have:=eT.size;omega,fun hh=>by
    rcases hh with (h | h) | h
    ·exact hb.2 (q2 _ hb.1 h)
    ·have:=hg.new b h;have:=hb.1;omega
    ·have:=hb.1;omega⟩
   refine (mj _ (List.getElem_mem aP) (S:=fun b=>SF S1 fp b∨b=w3.heap.size) o4 (ej.up eT aC FV) (fun b hb=>by
    have:=cC bT;have:=eT.size;rcases hb with (h | h) | h
    ·have:=q1 b h;omega
    ·have:=hg.lt b h;omega
    ·omega)).mono ?_
   rintro _ w6 ⟨⟨es,rfl,dF⟩,aJ⟩;have bU:=aJ.at bT _root_.id;(try simp only [go_sem,Nat.reduceAdd,Nat.reduceEqDiff,Nat.reduceLT,Nat.reduceLeDiff,Nat.reduceMul,reduceCtorEq,↓reduceIte]);refine AR (off:=4) (vs:=es) (cs:=(.string (tl e.binds[k].name)::tc)++ec) rfl rfl bU dF.len (by simp;omega) dF.one ?_;intro w7 cH aL iL;rw [Mn (k:=7) (by simp;omega) xy dF.len] at cH;have jy:Mod (fun b=>SF S1 fp b∨b=w3.heap.size) w6 w7:=aL.aT (fun b h=>.inr h);have dF:=dF.aB jy;have l7:((.string (tl e.binds[k].name)::tc)++es).length=11:=by simp [EP,dF.len]
   (try simp only [go_sem,Nat.reduceAdd,Nat.reduceEqDiff,Nat.reduceLT,Nat.reduceLeDiff,Nat.reduceMul,reduceCtorEq,↓reduceIte,az (n:=11) cH l7]);refine fG (cs:=([(.string (tl e.binds[k].name)::tc)++es]).flatten.toArray) (ps:=partsOf 11 0 [(.string (tl e.binds[k].name)::tc)++es]) (by (try simp only [go_sem,Nat.reduceAdd,Nat.reduceEqDiff,Nat.reduceLT,Nat.reduceLeDiff,Nat.reduceMul,reduceCtorEq,↓reduceIte]);rfl) (jD (sz:=11) [(.string (tl e.binds[k].name)::tc)++es] [] _ ⟨l7,trivial⟩ rfl) ?_;intro w8 cO bh mP;rw [List.flatten_cons,List.flatten_nil,List.append_nil] at cO;have mV:Mod (fun _=>False) w3 w7:=(eT.trans aJ).step aL (fun b hb hl=>by omega);have py:=mV.trans bh;have z8:=py.size;have Mo:=(dF.aB (aj bh)).Ml (S:=SF S1 fp) (fun b hb=>.inl hb);have rd:=oz cO;rw [l7] at rd;(try simp only [go_sem,Nat.reduceAdd,Nat.reduceEqDiff,Nat.reduceLT,Nat.reduceLeDiff,Nat.reduceMul,reduceCtorEq,↓reduceIte]);refine Ag (a:=sH e.binds[k]) Af rfl (hg.mod Af py (fun _ h=>h.elim) q1) rfl (by simp) rd ⟨tc,es,rfl,gw.up py aC (fun b hb=>⟨by have:=hb.1;omega,fun hh=>(FV b hb).2 (.inl hh)⟩),Mo,UU dY⟩ rfl (by rw [List.length_map,List.length_take];omega) (by decide) (by omega) q1 ?_;intro v9 w9 rM xX aV Bg;rw [FU aP slb];refine ⟨aP,v9,rM,by omega,(ar.trans py).step aV (fun b hb hl=>by have:=hg.new b hb;omega),?_,rfl⟩;rw [CS _ aP];exact xX
  ·have q:decide ((k:Int) < e.binds.length)=false:=decide_eq_false (by omega);obtain rfl:k=e.binds.length:=by omega
   (try simp only [go_sem,Nat.reduceAdd,Nat.reduceEqDiff,Nat.reduceLT,Nat.reduceLeDiff,Nat.reduceMul,reduceCtorEq,↓reduceIte,cell_of gI,Value.cells,q]);rw [List.take_length] at hg;exact ⟨_,ar,hg.done Af q1 (by rw [List.length_map];omega),rfl⟩
 rintro ρ w3 ⟨g',m23,ud,g1,g2,g3⟩;have h1:=m23.at h1 _root_.id;have h2:=m23.at h2 _root_.id;have lQ:=iS.trans m23;have q1:∀ b,S1 b→b < w3.heap.size:=fun b hb=>by have:=q1 b hb;have:=m23.size;omega
 clear iS m23;refine dO (fun ρ w'=>w3=w'∧ρ=[(1,ptr w.heap.size),(2,ptr (w.heap.size+1)),(3,g'),(6,.slice none 0 0)]) ?_ ?_
 ·(try simp only [go_sem,Nat.reduceAdd,Nat.reduceEqDiff,Nat.reduceLT,Nat.reduceLeDiff,Nat.reduceMul,reduceCtorEq,↓reduceIte,g1,g2,g3])
 rintro _ _ ⟨rfl,rfl⟩;clear g1 g2 g3;refine dO (fun ρ w'=>∃ kI,Mod (fun _=>False) w3 w'∧aQ w' kI 7 (Out S1 w') (bH w' (Out S1 w')) (e.args.map cT)∧ρ.get 1=some (ptr w.heap.size)∧ρ.get 2=some (ptr (w.heap.size+1))∧ρ.get 3=some g'∧ρ.get 6=some kI) ?_ ?_
 ·refine dO (fun ρ w'=>w3=w'∧ρ=[(1,ptr w.heap.size),(2,ptr (w.heap.size+1)),(3,g'),(6,.slice none 0 0),(7,I 0)]) ?_ ?_
  ·(try simp only [go_sem,Nat.reduceAdd,Nat.reduceEqDiff,Nat.reduceLT,Nat.reduceLeDiff,Nat.reduceMul,reduceCtorEq,↓reduceIte])
  rintro _ _ ⟨rfl,rfl⟩;refine Cf ?_;refine CR e.args.length (fun k ρ w'=>∃ v fp,k≤e.args.length∧Mod (fun _=>False) w3 w'∧Gr S1 w3.heap.size w' 47 7 v (fun w B r b=>bH w B r b) ((e.args.take k).map cT) fp∧ρ=[(1,ptr w.heap.size),(2,ptr (w.heap.size+1)),(3,g'),(6,v),(7,I k)]) ⟨_,none,by omega,.refl _ _,CQ,rfl⟩ ?_;rintro k _ w4 ⟨v,fp,hk,ar,hg,rfl⟩ _;unfold NV;have gI:=ar.at h1 _root_.id;rcases Nat.lt_or_ge k e.args.length with aP | hge
  ·have q:decide ((k:Int) < e.args.length)=true:=decide_eq_true (by omega);obtain ⟨ad,cc,r,e1,hr,lu,bQ,_⟩:=dL (ka (lQ.trans ar)) aP;cases e1;have b1:(0:Int)≤k∧(k:Int) < e.args.length:=by omega
   (try simp only [go_sem,Nat.reduceAdd,Nat.reduceEqDiff,Nat.reduceLT,Nat.reduceLeDiff,Nat.reduceMul,reduceCtorEq,↓reduceIte,bq,br,cell_of gI,Value.cells,q,b1,bQ,decide_true]);refine aK (by rfl) ?_;have z3:=ar.size;have zw:=lQ.size
   have FV:∀ b,Out S w b→Out (SF S1 fp) w4 b:=fun b hb=>⟨by have:=hb.1;omega,fun hh=>by
    rcases hh with h | h
    ·exact hb.2 (q2 _ hb.1 h)
    ·have:=hg.new b h;have:=hb.1;omega⟩
   refine (eZ _ (List.getElem_mem aP) (S:=SF S1 fp) (sa _ (List.getElem_mem aP)) (hr.up (.refl (fun _=>False) _) aC FV) (fun b hb=>by
    rcases hb with h | h
    ·have:=q1 b h;omega
    ·have:=hg.lt b h;omega)).mono ?_
   rintro _ w6 ⟨⟨es,rfl,dF⟩,aJ⟩;(try simp only [go_sem,Nat.reduceAdd,Nat.reduceEqDiff,Nat.reduceLT,Nat.reduceLeDiff,Nat.reduceMul,reduceCtorEq,↓reduceIte]);refine di (n:=7) (vs:=es) rfl dF.len dF.one ?_;intro w7 cH aL iL;(try simp only [go_sem,Nat.reduceAdd,Nat.reduceEqDiff,Nat.reduceLT,Nat.reduceLeDiff,Nat.reduceMul,reduceCtorEq,↓reduceIte,az (n:=7) cH dF.len]);refine fG (cs:=([es]).flatten.toArray) (ps:=partsOf 7 0 [es]) (by (try simp only [go_sem,Nat.reduceAdd,Nat.reduceEqDiff,Nat.reduceLT,Nat.reduceLeDiff,Nat.reduceMul,reduceCtorEq,↓reduceIte]);rfl) (jD (sz:=7) [es] [] _ ⟨dF.len,trivial⟩ rfl) ?_;intro w8 cO bh mP;rw [List.flatten_cons,List.flatten_nil,List.append_nil] at cO;have py:=aJ.trans (aL.trans bh);have z8:=py.size;have Mo:=dF.aB (aj (aL.trans bh));have rd:=oz cO;rw [dF.len] at rd;(try simp only [go_sem,Nat.reduceAdd,Nat.reduceEqDiff,Nat.reduceLT,Nat.reduceLeDiff,Nat.reduceMul,reduceCtorEq,↓reduceIte]);refine Ag (a:=cT e.args[k]) Mk rfl (hg.mod Mk py (fun _ h=>h.elim) q1) rfl (by simp) rd Mo rfl (by rw [List.length_map,List.length_take];omega) (by decide) (by omega) q1 ?_;intro v9 w9 rM xX aV Bg;rw [FU aP sla];refine ⟨aP,v9,rM,by omega,(ar.trans py).step aV (fun b hb hl=>by have:=hg.new b hb;omega),?_,rfl⟩;rw [CS _ aP];exact xX
  ·have q:decide ((k:Int) < e.args.length)=false:=decide_eq_false (by omega);obtain rfl:k=e.args.length:=by omega
   (try simp only [go_sem,Nat.reduceAdd,Nat.reduceEqDiff,Nat.reduceLT,Nat.reduceLeDiff,Nat.reduceMul,reduceCtorEq,↓reduceIte,cell_of gI,Value.cells,q]);rw [List.take_length] at hg;exact ⟨_,ar,hg.done Mk q1 (by rw [List.length_map];omega),rfl⟩
 rintro ρ w4 ⟨kI,qY,zA,g1,g2,g3,g6⟩;have h1:=qY.at h1 _root_.id;have h2:=qY.at h2 _root_.id;have ud:aQ w4 g' 11 (Out S1 w4) (dP w4 (Out S1 w4)) (e.binds.map sH):=ud.up qY aC (aU (aj qY)) (fun _ _ h=>Af.up h qY aC (aU (aj qY)));have om:=lQ.trans qY;have q1:∀ b,S1 b→b < w4.heap.size:=fun b hb=>by have:=q1 b hb;have:=qY.size;omega
 clear lQ qY;refine dO (fun ρ w'=>w4=w'∧ρ=[(1,ptr w.heap.size),(2,ptr (w.heap.size+1)),(3,g'),(6,kI),(9,.slice none 0 0)]) ?_ ?_
 ·(try simp only [go_sem,Nat.reduceAdd,Nat.reduceEqDiff,Nat.reduceLT,Nat.reduceLeDiff,Nat.reduceMul,reduceCtorEq,↓reduceIte,g1,g2,g3,g6])
 rintro _ _ ⟨rfl,rfl⟩;clear g1 g2 g3 g6;refine dO (fun ρ w'=>∃ tN,Mod (fun _=>False) w4 w'∧aQ w' tN 11 (Out S1 w') (gq w' (Out S1 w')) (e.alts.map pZ)∧yB tN∧ρ.get 1=some (ptr w.heap.size)∧ρ.get 2=some (ptr (w.heap.size+1))∧ρ.get 3=some g'∧ρ.get 6=some kI∧ρ.get 9=some tN) ?_ ?_
 ·refine dO (fun ρ w'=>w4=w'∧ρ=[(1,ptr w.heap.size),(2,ptr (w.heap.size+1)),(3,g'),(6,kI),(9,.slice none 0 0),(10,I 0)]) ?_ ?_
  ·(try simp only [go_sem,Nat.reduceAdd,Nat.reduceEqDiff,Nat.reduceLT,Nat.reduceLeDiff,Nat.reduceMul,reduceCtorEq,↓reduceIte])
  rintro _ _ ⟨rfl,rfl⟩;refine Cf ?_;refine CR e.alts.length (fun k ρ w'=>∃ v fp,k≤e.alts.length∧Mod (fun _=>False) w4 w'∧Gr S1 w4.heap.size w' 97 11 v (fun w B r b=>gq w B r b) ((e.alts.take k).map pZ) fp∧ρ=[(1,ptr w.heap.size),(2,ptr (w.heap.size+1)),(3,g'),(6,kI),(9,v),(10,I k)]) ⟨_,none,by omega,.refl _ _,CQ,rfl⟩ ?_;rintro k _ w5 ⟨v,fp,hk,ar,hg,rfl⟩ _;unfold NX;have gI:=ar.at h1 _root_.id;rcases Nat.lt_or_ge k e.alts.length with aP | hge
  ·have q:decide ((k:Int) < e.alts.length)=true:=decide_eq_true (by omega);obtain ⟨ad,cc,r,e1,hr,lu,bQ,_⟩:=dL (kl (om.trans ar)) aP;cases e1;have b1:(0:Int)≤k∧(k:Int) < e.alts.length:=by omega
   obtain ⟨⟨lv,bv⟩,bb⟩:=sl _ (List.getElem_mem aP);obtain ⟨vv,ec,rfl,BP,ej⟩:=hr;obtain ⟨av,cv,rfl⟩:=a8 BP;have xy:=ej.len;have ro:=aW (v:=I e.alts[k].kind) rfl (aW (v:=.string e.alts[k].bg) rfl (aW (v:=I e.alts[k].num) rfl (aW (v:=.slice av e.alts[k].vars.length cv) rfl ej.one)));(try simp only [go_sem,Nat.reduceAdd,Nat.reduceEqDiff,Nat.reduceLT,Nat.reduceLeDiff,Nat.reduceMul,reduceCtorEq,↓reduceIte,bq,br,cell_of gI,Value.cells,q,b1,bQ,decide_true]);refine di (n:=11) (vs:=I e.alts[k].kind :: .string e.alts[k].bg::I e.alts[k].num :: .slice av e.alts[k].vars.length cv::ec) rfl lu ro ?_;intro w6 bU aJ fY;have z5:=ar.size;have zw:=om.size;have FW:∀ b,(SF S1 fp b∨b=w5.heap.size)→b < w6.heap.size:=fun b hb=>by
    rcases hb with (h | h) | h
    ·have:=q1 b h;omega
    ·have:=hg.lt b h;omega
    ·omega
   have up6:∀ {w'},Mod (fun _=>False) w w'→∀ b,Out S w b→Out (fun b=>SF S1 fp b∨b=w5.heap.size) w' b:=fun hm b hb=>⟨by have:=hb.1;have:=hm.size;omega,fun hh=>by
    rcases hh with (h | h) | h
    ·exact hb.2 (q2 _ hb.1 h)
    ·have:=hg.new b h;have:=hb.1;omega
    ·have:=hb.1;omega⟩
   refine td (fun ρ w'=>∃ u,Mod (fun _=>False) w6 w'∧aQ w' u 1 (Out (fun b=>SF S1 fp b∨b=w5.heap.size) w') eP (e.alts[k].vars.map tl)∧ρ.get 1=some (ptr w.heap.size)∧ρ.get 2=some (ptr (w.heap.size+1))∧ρ.get 3=some g'∧ρ.get 6=some kI∧ρ.get 9=some v∧ρ.get 10=some (I k)∧ρ.get 11=some (ptr w5.heap.size)∧ρ.get 12=some u) ?_ ?_
   ·refine CR e.alts[k].vars.length (fun j ρ w'=>∃ u fq,j≤e.alts[k].vars.length∧Mod (fun _=>False) w6 w'∧Gr (fun b=>SF S1 fp b∨b=w5.heap.size) w6.heap.size w' 9 1 u (fun _ _ r s=>eP r s) ((e.alts[k].vars.take j).map tl) fq∧ρ=[(1,ptr w.heap.size),(2,ptr (w.heap.size+1)),(3,g'),(6,kI),(9,v),(10,I k),(11,ptr w5.heap.size),(12,u),(13,I j)]) ⟨_,none,by omega,.refl _ _,CQ,rfl⟩ ?_;rintro j _ w7 ⟨u,fq,hj,aL,hq,rfl⟩ _;unfold NW;have cH:=aL.at bU _root_.id;rcases Nat.lt_or_ge j e.alts[k].vars.length with xP | ai8
    ·have qj:decide ((j:Int) < e.alts[k].vars.length)=true:=decide_eq_true (by omega);have b2:(0:Int)≤j∧(j:Int) < e.alts[k].vars.length:=by omega
     obtain ⟨ad,cc,e1,hn,iT⟩:=qi (aQ.mod BP (aJ.trans aL) aC (fun _ _ h=>h)) xP;cases e1;have dj:=bv _ (List.getElem_mem xP);(try simp only [go_sem,Nat.reduceAdd,Nat.reduceEqDiff,Nat.reduceLT,Nat.reduceLeDiff,Nat.reduceMul,reduceCtorEq,↓reduceIte,bq,br,cell_of cH,Value.cells,qj,b2,iT,Mm dj,decide_true]);refine fG (cs:=([.string (tl e.alts[k].vars[j])]:List Value).toArray) rfl (by rfl) ?_;intro w8 cO bh mP;have z7:=aL.size;have z8:=bh.size;have rd:=oz cO;(try simp only [go_sem,Nat.reduceAdd,Nat.reduceEqDiff,Nat.reduceLT,Nat.reduceLeDiff,Nat.reduceMul,reduceCtorEq,↓reduceIte]);refine Ag (a:=tl e.alts[k].vars[j]) Mj rfl (hq.mod Mj bh (fun _ h=>h.elim) FW) rfl (by simp) rd ⟨rfl,UU dj⟩ rfl (by rw [List.length_map,List.length_take];omega) (by decide) (by omega) FW ?_;intro v9 w9 rM xX aV Bg;rw [FU xP lv];refine ⟨xP,v9,rM,by omega,(aL.trans bh).step aV (fun b hb hl=>by have:=hq.new b hb;omega),?_,rfl⟩;rw [CS _ xP];exact xX
    ·have qj:decide ((j:Int) < e.alts[k].vars.length)=false:=decide_eq_false (by omega);obtain rfl:j=e.alts[k].vars.length:=by omega
     (try simp only [go_sem,Nat.reduceAdd,Nat.reduceEqDiff,Nat.reduceLT,Nat.reduceLeDiff,Nat.reduceMul,reduceCtorEq,↓reduceIte,cell_of cH,Value.cells,qj]);rw [List.take_length] at hq;exact ⟨_,aL,hq.done Mj FW (by rw [List.length_map];omega),rfl⟩
   rintro ρ w7 ⟨u,aL,hu,g1,g2,g3,g6,g9,g10,g11,g12⟩;have cH:=aL.at bU _root_.id;have tZ:=js hu;(try simp only [go_sem,Nat.reduceAdd,Nat.reduceEqDiff,Nat.reduceLT,Nat.reduceLeDiff,Nat.reduceMul,reduceCtorEq,↓reduceIte,g1,g2,g3,g6,g9,g10,g11,g12]);refine fF (cs:=I e.alts[k].kind :: .string e.alts[k].bg::I e.alts[k].num :: .slice av e.alts[k].vars.length cv::ec) rfl (by (try simp only [go_sem,Nat.reduceAdd,Nat.reduceEqDiff,Nat.reduceLT,Nat.reduceLeDiff,Nat.reduceMul,reduceCtorEq,↓reduceIte,g12])) cH tZ (by simp) ?_;intro w8 cO bh mP;have cO:w8.heap[w5.heap.size]? = some (.cells ([I e.alts[k].kind,.string e.alts[k].bg,I e.alts[k].num,u]++ec).toArray 97 (0,0)):=cO;have uT:Mod (fun b=>SF S1 fp b∨b=w5.heap.size) w7 w8:=bh.aT (fun b h=>.inr h);have hu:=aQ.up hu uT aM (aU uT) (fun _ _ h=>h);have tL:Mod (fun _=>False) w5 w8:=(aJ.trans aL).step bh (fun b hb hl=>by omega);have k2:=gF (off:=4) (n:=7) cO (by simp;omega);rw [show ([I e.alts[k].kind,.string e.alts[k].bg,I e.alts[k].num,u]++ec).drop 4=ec from rfl,List.take_of_length_le (by omega)] at k2;(try simp only [go_sem,Nat.reduceAdd,Nat.reduceEqDiff,Nat.reduceLT,Nat.reduceLeDiff,Nat.reduceMul,reduceCtorEq,↓reduceIte,g1,g2,g3,g6,g9,g10,g11,g12,k2]);refine aK (by rfl) ?_;refine (mT _ (List.getElem_mem aP) (S:=fun b=>SF S1 fp b∨b=w5.heap.size) bb (ej.up tL aC (up6 ((om.trans ar).trans tL))) (fun b hb=>by have:=FW b hb;have:=aL.size;have:=bh.size;omega)).mono ?_;rintro _ w9 ⟨⟨es,rfl,dF⟩,aV⟩;have dp:=aV.at cO _root_.id;have hu:=aQ.up hu (aj aV) aM (aU (aj aV)) (fun _ _ h=>h);(try simp only [go_sem,Nat.reduceAdd,Nat.reduceEqDiff,Nat.reduceLT,Nat.reduceLeDiff,Nat.reduceMul,reduceCtorEq,↓reduceIte,g1,g2,g3,g6,g9,g10,g11,g12]);refine AR (off:=4) (vs:=es) (cs:=[I e.alts[k].kind,.string e.alts[k].bg,I e.alts[k].num,u]++ec) rfl rfl dp dF.len (by simp;omega) dF.one ?_;intro cV ff bE qp;rw [Mn (x:=[I e.alts[k].kind,.string e.alts[k].bg,I e.alts[k].num,u]) (n:=4) (k:=7) rfl xy dF.len] at ff;have Mp:Mod (fun b=>SF S1 fp b∨b=w5.heap.size) w9 cV:=bE.aT (fun b h=>.inr h);have dF:=dF.aB Mp;have hu:=aQ.up hu Mp aM (aU Mp) (fun _ _ h=>h);have l10:([I e.alts[k].kind,.string e.alts[k].bg,I e.alts[k].num,u]++es).length=11:=by simp [dF.len]
   (try simp only [go_sem,Nat.reduceAdd,Nat.reduceEqDiff,Nat.reduceLT,Nat.reduceLeDiff,Nat.reduceMul,reduceCtorEq,↓reduceIte,g1,g2,g3,g6,g9,g10,g11,g12,az (n:=11) ff l10]);refine fG (cs:=([[I e.alts[k].kind,.string e.alts[k].bg,I e.alts[k].num,u]++es]).flatten.toArray) (ps:=partsOf 11 0 [[I e.alts[k].kind,.string e.alts[k].bg,I e.alts[k].num,u]++es]) (by (try simp only [go_sem,Nat.reduceAdd,Nat.reduceEqDiff,Nat.reduceLT,Nat.reduceLeDiff,Nat.reduceMul,reduceCtorEq,↓reduceIte]);rfl) (jD (sz:=11) [[I e.alts[k].kind,.string e.alts[k].bg,I e.alts[k].num,u]++es] [] _ ⟨l10,trivial⟩ rfl) ?_;intro gA fy cR uX;rw [List.flatten_cons,List.flatten_nil,List.append_nil] at fy;have agL:Mod (fun _=>False) w5 cV:=(tL.trans aV).step bE (fun b hb hl=>by omega);have Mq:=agL.trans cR;have UW:=Mq.size;have dF:=(dF.aB (aj cR)).Ml (S:=SF S1 fp) (fun b hb=>.inl hb);have hu:aQ gA u 1 (Out (SF S1 fp) gA) eP (e.alts[k].vars.map tl):=aQ.up hu cR aC (fun b hb=>⟨by have:=hb.1;have:=cR.size;omega,fun hh=>hb.2 (.inl hh)⟩) (fun _ _ h=>h);have rd:=oz fy;rw [l10] at rd;(try simp only [go_sem,Nat.reduceAdd,Nat.reduceEqDiff,Nat.reduceLT,Nat.reduceLeDiff,Nat.reduceMul,reduceCtorEq,↓reduceIte,g1,g2,g3,g6,g9,g10,g11,g12]);refine Ag (a:=pZ e.alts[k]) FT rfl (hg.mod FT Mq (fun _ h=>h.elim) q1) rfl (by simp) rd ⟨u,es,rfl,hu,dF⟩ rfl (by rw [List.length_map,List.length_take];omega) (by decide) (by omega) q1 ?_;intro v12 px UX FX fK agM;(try simp only [go_sem,Nat.reduceAdd,Nat.reduceEqDiff,Nat.reduceLT,Nat.reduceLeDiff,Nat.reduceMul,reduceCtorEq,↓reduceIte,g1,g2,g3,g6,g9,g10,g11,g12]);rw [FU aP sll];refine ⟨aP,v12,UX,by omega,(ar.trans Mq).step fK (fun b hb hl=>by have:=hg.new b hb;omega),?_,rfl⟩;rw [CS _ aP];exact FX
  ·have q:decide ((k:Int) < e.alts.length)=false:=decide_eq_false (by omega);obtain rfl:k=e.alts.length:=by omega
   (try simp only [go_sem,Nat.reduceAdd,Nat.reduceEqDiff,Nat.reduceLT,Nat.reduceLeDiff,Nat.reduceMul,reduceCtorEq,↓reduceIte,cell_of gI,Value.cells,q]);rw [List.take_length] at hg;obtain ⟨a0,c0,ev,pQ⟩:=hg.val;exact ⟨_,ar,hg.done FT q1 (by rw [List.length_map];omega),by rw [ev];exact pQ,rfl⟩
 rintro ρ w5 ⟨tN,ri,y3,sR,g1,g2,g3,g6,g9⟩;have h1:=ri.at h1 _root_.id;have h2:=ri.at h2 _root_.id;have vX:=om.trans ri;have ud:aQ w5 g' 11 (Out S1 w5) (dP w5 (Out S1 w5)) (e.binds.map sH):=ud.up ri aC (aU (aj ri)) (fun _ _ h=>Af.up h ri aC (aU (aj ri)));have zA:aQ w5 kI 7 (Out S1 w5) (bH w5 (Out S1 w5)) (e.args.map cT):=zA.up ri aC (aU (aj ri)) (fun _ _ h=>h.up ri aC (aU (aj ri)));have ob:=js ud;have oa:=js zA;have ol:=js y3;have l1:=cC h1;have l2:=cC h2;(try simp only [go_sem,Nat.reduceAdd,Nat.reduceEqDiff,Nat.reduceLT,Nat.reduceLeDiff,Nat.reduceMul,reduceCtorEq,↓reduceIte,g1,g2,g3,g6,g9]);refine fF (cs:=[I e.kind,.string (cT e).name,I e.num,vt,.slice aa e.args.length ca,.slice ab e.binds.length cb,.slice al e.alts.length cl]) rfl (by (try simp only [go_sem,Nat.reduceAdd,Nat.reduceEqDiff,Nat.reduceLT,Nat.reduceLeDiff,Nat.reduceMul,reduceCtorEq,↓reduceIte,g3])) h1 ob (by simp) ?_;intro w6 bU aJ fY;have bU:w6.heap[w.heap.size]? = some (.cells ([I e.kind,.string (cT e).name,I e.num,vt,.slice aa e.args.length ca,g',.slice al e.alts.length cl]:List Value).toArray 47 (0,0)):=bU;(try simp only [go_sem,Nat.reduceAdd,Nat.reduceEqDiff,Nat.reduceLT,Nat.reduceLeDiff,Nat.reduceMul,reduceCtorEq,↓reduceIte,g1,g2,g3,g6,g9]);refine fF (cs:=[I e.kind,.string (cT e).name,I e.num,vt,.slice aa e.args.length ca,g',.slice al e.alts.length cl]) rfl rfl bU oa (by simp) ?_;intro w7 cH aL iL;have cH:w7.heap[w.heap.size]? = some (.cells ([I e.kind,.string (cT e).name,I e.num,vt,kI,g',.slice al e.alts.length cl]:List Value).toArray 47 (0,0)):=cH;(try simp only [go_sem,Nat.reduceAdd,Nat.reduceEqDiff,Nat.reduceLT,Nat.reduceLeDiff,Nat.reduceMul,reduceCtorEq,↓reduceIte,g1,g2,g3,g6,g9]);refine fF (cs:=[I e.kind,.string (cT e).name,I e.num,vt,kI,g',.slice al e.alts.length cl]) rfl rfl cH ol (by simp) ?_;intro w8 cO bh mP;have cO:w8.heap[w.heap.size]? = some (.cells ([I e.kind,.string (cT e).name,I e.num,vt,kI,g',tN]:List Value).toArray 47 (0,0)):=cO;have tL:Mod (· = w.heap.size) w5 w8:=aJ.trans (aL.trans bh);have h2:=tL.at h2 (by omega);(try simp only [go_sem,Nat.reduceAdd,Nat.reduceEqDiff,Nat.reduceLT,Nat.reduceLeDiff,Nat.reduceMul,reduceCtorEq,↓reduceIte,g1,g2,g3,g6,g9,az (n:=7) cO rfl]);refine bN (vs:=[I e.kind,.string (cT e).name,I e.num,vt,kI,g',tN]) (cs:=[I 0,.string bD,I 0,.slice none 0 0,.slice none 0 0,.slice none 0 0,.slice none 0 0]) rfl rfl h2 rfl rfl (aW rfl (aW rfl (aW rfl (aW (js ht) (aW oa (aW ob (aW ol dy))))))) ?_;intro w9 dp aV gZ;(try simp only [go_sem,Nat.reduceAdd,Nat.reduceEqDiff,Nat.reduceLT,Nat.reduceLeDiff,Nat.reduceMul,reduceCtorEq,↓reduceIte,aE,RV.ev,az (n:=7) dp rfl,aF]);have oI:Mod S1 w5 w9:=(tL.aT (fun b hb=>by subst hb;exact q4)).trans (aV.aT (fun b hb=>by subst hb;exact q5));have Ai:Mod (fun _=>False) w w9:=(vX.step tL (fun b hb hl=>by omega)).step aV (fun b hb hl=>by omega);have oS:∀ b,Out S1 w5 b→Out S w9 b:=fun b hb=>⟨by have:=hb.1;have:=oI.size;omega,fun hh=>hb.2 (q3 b hh)⟩
 refine ⟨⟨_,rfl,?_⟩,Ai⟩;rw [agJ];exact CF (ht.up Ai aC (aU (aj Ai)) (fun _ _ h=>h.aB (aj Ai))) (zA.up oI aM oS (fun _ _ h=>h.up oI aM oS)) (ud.up oI aM oS (fun _ _ h=>Af.up h oI aM oS)) (y3.up oI aM oS (fun _ _ h=>FT.up h oI aM oS)) sR
end
section
open Go Go.W
structure UY (σ:Nat→Nat) (X X':Cx):Prop where
 fuel:X'.fuel=X.fuel
 fields:X'.fields=X.fields
 an:∀ g c,aI X.an g=some c→aI X'.an g=some (σ c)
section
variable {σ:Nat→Nat} {n:Nat} {X X':Cx} (hw:Way σ n) (hX:UY σ X X')
include hw
theorem Mr:∀ (bs:List Bd) (i:Nat) (v:cN),n≤i→jI (bs.map sH) (σ i) (kP σ v)=kP σ (jI bs i v)
 | [],i,v,_=>rfl
 | b::bs,i,v,hi=>by
  rw [List.map_cons,jI,jI,← Mr bs (i+1) _ (by omega),hw.up i hi];rfl
theorem ey.UZ {m m':Rn} (h:ey σ n m m'):∀ (l:List Cl),ey σ n { m with cells:=m.cells++l} { m' with cells:=m'.cells++l.map (ie σ)}
 | []=>by
  rw [List.map_nil,List.append_nil,List.append_nil];exact h
 | x::l=>by
  have:=ey.UZ (h.new (x:=x) hw) l
  simpa [Rn.new,List.append_assoc] using this
include hX
theorem U0 {e:Ex} {v:cN} {m m':Rn} {r:R3} (h:ey σ n m m') (hr:lK X e v m=some r):∃ r',lK X' (cT e) (kP σ v) m'=some r'∧CP σ n r r':=by
 unfold lK at hr ⊢;rw [agE,agF,Ae,Mf];by_cases k1:e.kind=1
 ·rw [if_pos k1] at hr ⊢;obtain ⟨c,hc,rfl⟩:=Option.map_eq_some_iff.1 hr;refine ⟨_,?_,Mg h hw c⟩;rw [Ad,if_pos k1,agH,hc];rfl
 rw [if_neg k1] at hr ⊢;have iy:(cT e).name=e.name:=by rw [Ad,if_neg k1]
 rw [iy];by_cases k3:e.kind=3
 ·rw [if_pos k3] at hr ⊢;obtain ⟨c,hc,rfl⟩:=Option.map_eq_some_iff.1 hr;refine ⟨_,?_,Mg h hw c⟩;rw [hX.an _ _ hc];rfl
 rw [if_neg k3] at hr ⊢;by_cases k2:e.kind=2
 ·rw [if_pos k2] at hr ⊢;cases hr;exact ⟨_,rfl,rfl,h⟩
 rw [if_neg k2] at hr ⊢;by_cases k4:e.kind=4
 ·rw [if_pos k4] at hr ⊢;cases hr;refine ⟨_,rfl,?_,h⟩;rw [hX.fields];simp only [Option.map_some,vY,UR,List.map_nil]
 rw [if_neg k4] at hr ⊢;by_cases k6:e.kind=6
 ·rw [if_pos k6] at hr ⊢;cases hr;exact ⟨_,rfl,rfl,h⟩
 rw [if_neg k6] at hr ⊢;by_cases vG:e.kind=12
 ·rw [if_pos vG] at hr ⊢;cases hr;exact ⟨_,rfl,rfl,h.stop _⟩
 rw [if_neg vG] at hr ⊢;by_cases k7:e.kind=7
 ·rw [if_pos k7] at hr ⊢;cases ha:e.args with
  | nil=>rw [ha] at hr;cases hr
  | cons x xs=>
   rw [ha] at hr;cases hr;rw [List.map_cons];refine ⟨_,rfl,?_,?_⟩
   ·simp only [Option.map_some,vY];rw [← h.len,Mr hw _ _ _ h.ge]
   ·have:=h.UZ hw (e.binds.map (fun b=>Cl.wait b.value (jI e.binds m.cells.length v)));rw [← h.len,Mr hw _ _ _ h.ge]
    simpa [List.map_map,Function.comp_def,ie,sH,Bd.value] using this
 rw [if_neg k7] at hr ⊢;by_cases vH:e.kind=11
 ·rw [if_pos vH] at hr ⊢;cases hb:e.binds with
  | nil=>rw [hb] at hr;cases hr
  | cons b bs=>
   rw [hb] at hr;cases hr;exact ⟨_,rfl,rfl,h.push (.nh e v) trivial⟩
 rw [if_neg vH] at hr ⊢;cases ha:e.args with
 | nil=>rw [ha] at hr;cases hr
 | cons x xs=>
  rw [ha] at hr;cases hr;rw [List.map_cons];refine ⟨_,rfl,rfl,?_⟩;by_cases k5:e.kind=5
  ·rw [if_pos k5,if_pos k5];exact h.push (.app e v) trivial
  rw [if_neg k5,if_neg k5];by_cases k8:e.kind=8
  ·rw [if_pos k8,if_pos k8];exact h.push (.nf e v) trivial
  rw [if_neg k8,if_neg k8];by_cases k9:e.kind=9
  ·rw [if_pos k9,if_pos k9];exact h.push (.fst e v) k1
  rw [if_neg k9,if_neg k9];by_cases sy:e.kind=10
  ·rw [if_pos sy,if_pos sy];exact h.push (.seq e v) trivial
  ·rw [if_neg sy,if_neg sy];exact h
omit hX
theorem U1 {f:Fm} {x:Cl} {m m':Rn} {r:R3} (h:ey σ n m m') (hf:FR f) (hr:gO f x m=some r):∃ r',gO (sI σ f) (ie σ x) m'=some r'∧CP σ n r r':=by
 cases f with
 | gd c=>cases hr;exact ⟨_,rfl,rfl,h.put hw⟩
 | app e v=>
  simp only [gO,sI,Ae] at hr ⊢
  match ha:e.args,hr with
  | a::y::l,hr=>
   simp only [List.map_cons];rw [← h.len];exact US (h.new (x:=.wait y v) hw) hr
 | nf e v=>
  simp only [gO,sI,agG] at hr ⊢;exact Mi h _ hr
 | fst e v=>
  simp only [gO,sI,Ae] at hr ⊢
  match ha:e.args,hr with
  | a::y::l,hr=>
   cases hr;simp only [List.map_cons];refine ⟨_,rfl,rfl,?_⟩;rw [Mh];exact h.push (.snd e (numOf x)) hf
 | snd e k=>
  simp only [gO,sI] at hr ⊢;have hk:e.kind≠1:=hf;rw [Mh,Ad,if_neg hk];have hy:∀ y,nZ e.name k (numOf x)=some y→ie σ y=y:=fun y hy=>by
   unfold nZ at hy
   split at hy
   ·cases hy;rfl
   ·split at hy
    ·cases hy;rfl
    ·split at hy
     ·cases hy;rfl
     ·split at hy
      ·split at hy
       ·cases hy
       ·split at hy<;>(cases hy;rfl)
      ·cases hy;rfl
  cases ho:nZ e.name k (numOf x) with
  | none=>rw [ho] at hr;cases hr;exact ⟨_,rfl,rfl,h.stop 3⟩
  | some y=>
   rw [ho] at hr;cases hr;refine ⟨_,rfl,?_,h⟩;simp only [Option.map_some,vY,hy y ho]
 | seq e v=>
  simp only [gO,sI,Ae] at hr ⊢
  match ha:e.args,hr with
  | a::y::l,hr=>
   cases hr;simp only [List.map_cons];exact ⟨_,rfl,rfl,h⟩
 | nh e v=>
  simp only [gO,sI,Ae,Mf] at hr ⊢
  match ha:e.args,hb:e.binds,hr with
  | y::l,b::bs,hr=>
   cases hr;simp only [List.map_cons];refine ⟨_,rfl,?_,h.new hw⟩;rw [← h.len];rfl
include hX
omit hw in
theorem U2 {m m':Rn} (h:ey σ n m m'):(fA X' m').1=(fA X m).1∧ey σ n (fA X m).2 (fA X' m').2:=by
 unfold fA;rw [hX.fuel,h.steps]
 split
 ·exact ⟨rfl,h.cells,h.len,h.a7,h.told,rfl,rfl,h.stuck,h.ge,h.ok⟩
 ·exact ⟨rfl,h.cells,h.len,h.a7,h.told,rfl,h.kind,h.stuck,h.ge,h.ok⟩
theorem Aj:∀ (k:Nat) {md:Md} {m m':Rn} {r:Option Cl×Rn},ey σ n m m'→dB X k md m=some r→∃ r',dB X' k (vY σ md) m'=some r'∧r'.1=r.1.map (ie σ)∧ey σ n r.2 r'.2
 | 0,md,m,m',r,_,h=>by cases md<;>(rw [dB] at h;cases h)
 | k+1,.go e v,m,m',r,hp,h=>by
  obtain ⟨s1,s2⟩:=U2 hX hp;rw [dB] at h;show ∃ r',dB X' (k+1) (.go (cT e) (kP σ v)) m'=some r'∧_;rw [dB,s1];by_cases q:(fA X m).1=false
  ·rw [if_pos q] at h ⊢;cases h;exact ⟨_,rfl,rfl,s2⟩
  ·rw [if_neg q] at h ⊢
   split at h
   ·cases h
   ·rename_i m1 hb;cases h;obtain ⟨⟨o,x7⟩,iJ,e1,e2⟩:=U0 hw hX s2 hb;cases e1;rw [iJ];exact ⟨_,rfl,rfl,e2⟩
   ·rename_i kN m1 hb;obtain ⟨⟨o,x7⟩,iJ,e1,e2⟩:=U0 hw hX s2 hb;cases e1;rw [iJ];exact Aj k e2 h
 | k+1,.val x,m,m',r,hp,h=>by
  rw [dB] at h;show ∃ r',dB X' (k+1) (.val (ie σ x)) m'=some r'∧_;rw [dB,hp.a7,List.getLast?_map]
  split at h
  ·rename_i hl;rw [hl];cases h;exact ⟨_,rfl,rfl,hp⟩
  ·rename_i f hl;rw [hl];simp only [Option.map_some];have hd:ey σ n { m with a7:=m.a7.dropLast} { m' with a7:=(m.a7.map (sI σ)).dropLast}:=
    ⟨hp.cells,hp.len,by simp [List.map_dropLast],hp.told,hp.steps,hp.kind,hp.stuck,hp.ge,fun g hg=>hp.ok g (List.dropLast_subset _ hg)⟩
   have hf:FR f:=hp.ok f (List.mem_of_getLast? hl)
   split at h
   ·cases h
   ·rename_i m1 hb;cases h;obtain ⟨⟨o,x7⟩,iJ,e1,e2⟩:=U1 hw hd hf hb;cases e1;rw [iJ];exact ⟨_,rfl,rfl,e2⟩
   ·rename_i kN m1 hb;obtain ⟨⟨o,x7⟩,iJ,e1,e2⟩:=U1 hw hd hf hb;cases e1;rw [iJ];exact Aj k e2 h
theorem U3 {k c:Nat} {m m':Rn} {r:Option Cl×Rn} (hp:ey σ n m m') (h:j9 X k c m=some r):∃ r',j9 X' k (σ c) m'=some r'∧r'.1=r.1.map (ie σ)∧ey σ n r.2 r'.2:=by
 obtain ⟨e1,e2⟩:=Mg hp hw c;unfold j9 at h ⊢;generalize ft m c=a at h e1 e2;generalize ft m' (σ c)=b at e1 e2;obtain ⟨o,m1⟩:=a;obtain ⟨o',x7⟩:=b;cases e1
 match o,h with
 | none,h=>cases h;exact ⟨_,rfl,rfl,e2⟩
 | some (.val x),h=>cases h;exact ⟨_,rfl,rfl,e2⟩
 | some (.go e v),h=>exact Aj hw hX k e2 h
theorem U4 {k c:Nat} {f:Cl} {m m':Rn} {r:Option Cl×Rn} (hp:ey σ n m m') (h:oX X k f c m=some r):∃ r',oX X' k (ie σ f) (σ c) m'=some r'∧r'.1=r.1.map (ie σ)∧ey σ n r.2 r'.2:=by
 unfold oX at h ⊢;cases hg:j8 m f c with
 | none=>rw [hg] at h;cases h
 | some a=>
  rw [hg] at h;obtain ⟨⟨o',x7⟩,cU,e1,e2⟩:=US hp hg;rw [cU];obtain ⟨o,m1⟩:=a;cases e1
  match o,h with
  | none,h=>cases h;exact ⟨_,rfl,rfl,e2⟩
  | some (.val x),h=>cases h;exact ⟨_,rfl,rfl,e2⟩
  | some (.go e v),h=>exact Aj hw hX k e2 h
theorem Mt:∀ (k:Nat) {x:Cl} {ws:List Nat} {m m' a:Rn},ey σ n m m'→iq X k x ws m=some a→∃ a',iq X' k (ie σ x) (ws.map σ) m'=some a'∧ey σ n a a'
 | 0,x,ws,m,m',a,_,h=>by rw [iq] at h;cases h
 | k+1,x,ws,m,m',a,hp,h=>by
  obtain ⟨s1,s2⟩:=U2 hX hp;rw [iq] at h ⊢;rw [s1];by_cases q:(fA X m).1=false
  ·rw [if_pos q] at h ⊢;cases h;exact ⟨_,rfl,s2⟩
  ·rw [if_neg q] at h ⊢;have i1:lL (ie σ x)=lL x:=by cases x<;>rfl
   have i2:fieldsOf (ie σ x)=(fieldsOf x).map σ:=by cases x<;>rfl
   have Uj:ws.map σ++(fieldsOf (ie σ x)).reverse=(ws++(fieldsOf x).reverse).map σ:=by rw [i2,List.map_append,List.map_reverse]
   simp only [i1,Uj,List.length_map,List.getLast?_map] at h ⊢;have h2:ey σ n { (fA X m).2 with told:=(fA X m).2.told++lL x} { (fA X' m').2 with told:=(fA X' m').2.told++lL x}:=
    ⟨s2.cells,s2.len,s2.a7,by simp only [s2.told],s2.steps,s2.kind,s2.stuck,s2.ge,s2.ok⟩
   split at h
   ·cases h
   ·rename_i hl;rw [if_neg hl]
    split at h
    ·rename_i hn;rw [hn];cases h;exact ⟨_,rfl,h2.cells,h2.len,h2.a7,h2.told,h2.steps,rfl,h2.stuck,h2.ge,h2.ok⟩
    ·rename_i c hn;rw [hn];simp only [Option.map_some]
     split at h
     ·cases h
     ·rename_i m3 ny;cases h;obtain ⟨⟨o',m3'⟩,Mu,e1,e2⟩:=U3 hw hX h2 ny;cases e1;rw [Mu];exact ⟨_,rfl,e2⟩
     ·rename_i y m3 ny;obtain ⟨⟨o',m3'⟩,Mu,e1,e2⟩:=U3 hw hX h2 ny;cases e1;rw [Mu];have:=Mt k e2 h;rw [List.map_dropLast] at this;exact this
end
end
section
open Go Go.W
def rj (d:Df):Df:={ d with body:=cT d.body}
def x8:ByteArray:=⟨#[32,110,111,98,111,100,121,39,115]⟩
def Mv (name:ByteArray):Df:=⟨name++x8,[],.mk 1 bD [],.mk 9 ⟨#[47]⟩ 0 [] [.mk 2 bD 1 [] [] [] [],.mk 2 bD 0 [] [] [] []] [] []⟩
def gQ (p:Pg) (name:ByteArray):Pg:=⟨p.aG,p.an.reverse.map rj++[Mv name]⟩
def sig (n c:Nat):Nat:=if c < n then n - 1 - c else c+1
theorem agN (n:Nat):Way (sig n) n:=by
 refine ⟨fun a b h=>?_,fun a ha=>?_⟩
 ·unfold sig at h
  split at h<;>split at h<;>omega
 ·unfold sig;rw [if_neg (by omega),if_neg (by omega)]
theorem Mw:∀ (l:List Df) (i:Nat) (m:List (ByteArray×Nat)) (g:ByteArray),(l.map Df.name).Nodup→aI (nq l i m) g=match l.findIdx? (fun d=>decide (d.name=g)) with
   | some j=>some (i+j)
   | none=>aI m g
 | [],i,m,g,_=>by simp [nq]
 | d::l,i,m,g,h=>by
  rw [List.map_cons,List.nodup_cons] at h;rw [nq,Mw l (i+1) _ g h.2,List.findIdx?_cons,jh];by_cases hd:d.name=g
  ·have hn:l.findIdx? (fun d=>decide (d.name=g))=none:=by
    rw [List.findIdx?_eq_none_iff];intro x hx;refine decide_eq_false (fun e=>h.1 ?_);rw [hd,← e];exact List.mem_map_of_mem hx
   rw [hn];simp [hd]
  ·simp only [hd,decide_false,if_false,Bool.false_eq_true];cases l.findIdx? (fun d=>decide (d.name=g)) with
   | none=>simp
   | some j=>simp only [Option.map_some];congr 1;omega
theorem agO {l:List Df} {g:ByteArray} (hn:(l.map Df.name).Nodup) {j:Nat} {d:Df} (hj:l[j]? = some d) (hd:d.name=g):l.findIdx? (fun d=>decide (d.name=g))=some j:=by
 obtain ⟨aP,rfl⟩:=List.getElem?_eq_some_iff.1 hj;rw [List.findIdx?_eq_some_iff_getElem];refine ⟨aP,by simpa using hd,fun i hi=>?_⟩;simp only [decide_eq_true_eq];intro e;have h1:=List.pairwise_iff_getElem.1 hn i j (by simp;omega) (by simpa using aP) hi;simp only [List.getElem_map] at h1;exact h1 (e.trans hd.symm)
theorem U5 {p:Pg} {name:ByteArray} {c:Nat} {d:Df} (h:p.an[c]? = some d):(gQ p name).an[sig p.an.length c]? = some (rj d):=by
 have aP:=(List.getElem?_eq_some_iff.1 h).1;unfold gQ sig;rw [if_pos aP];simp only;rw [List.getElem?_append_left (by simp;omega),List.getElem?_map,List.getElem?_reverse (by omega),show p.an.length - 1 - (p.an.length - 1 - c)=c by omega,h];rfl
theorem agP {p:Pg} {name:ByteArray} {fuel:Int} (hp:(p.an.map Df.name).Nodup) (hq:((gQ p name).an.map Df.name).Nodup):UY (sig p.an.length) (eJ p fuel) (eJ (gQ p name) fuel):=by
 refine ⟨rfl,rfl,fun g c h=>?_⟩;show aI (nq (gQ p name).an 0 []) g=_;have h:aI (nq p.an 0 []) g=some c:=h;rw [Mw _ _ _ _ hp] at h;cases hi:p.an.findIdx? (fun d=>decide (d.name=g)) with
 | none=>rw [hi] at h;cases h
 | some j=>
  rw [hi] at h;have hj:j=c:=by simpa using h
  subst hj;obtain ⟨aP,hd,_⟩:=List.findIdx?_eq_some_iff_getElem.1 hi;have h1:=U5 (name:=name) (List.getElem?_eq_getElem aP);rw [Mw _ _ _ _ hq,agO hq h1 (g:=g) (by simpa [rj] using hd)];simp
theorem U6 (p:Pg) (name:ByteArray):ey (sig p.an.length) p.an.length (fU p) (fU (gQ p name)):=by
 refine ⟨fun c x h=>?_,?_,rfl,rfl,rfl,rfl,rfl,by simp [fU],fun f hf=>by cases hf⟩
 ·simp only [fU,List.getElem?_map] at h ⊢;cases hd:p.an[c]? with
  | none=>rw [hd] at h;cases h
  | some d=>
   rw [hd] at h;rw [U5 hd];cases h;rfl
 ·simp [fU,gQ,sig]
section
variable {σ:Nat→Nat} {n:Nat} (hw:Way σ n)
include hw
theorem U7:∀ (l:List Int) {m m':Rn},ey σ n m m'→ey σ n (m.ls l) (m'.ls l)∧(dN l m'.cells).1=ie σ (dN l m.cells).1
 | [],m,m',h=>⟨h,rfl⟩
 | k::l,m,m',h=>by
  obtain ⟨h1,h2⟩:=U7 l h;have h3:=(h1.new (x:=.num k) hw).new (x:=(dN l m.cells).1) hw;refine ⟨?_,?_⟩
  ·rw [Ln,Ln,h2];exact h3
  ·have e1:(dN (k::l) m.cells).1 = .bg ⟨#[67,111,110,115]⟩ [(m.ls l).cells.length,(m.ls l).cells.length+1]:=rfl;have e2:(dN (k::l) m'.cells).1 = .bg ⟨#[67,111,110,115]⟩ [(m'.ls l).cells.length,(m'.ls l).cells.length+1]:=rfl;rw [e1,e2,← h1.len,← hw.up _ h1.ge];rfl
end
theorem agQ {p:Pg} {name:ByteArray} {fuel:Int} {gk:Bool} {input:List Int} {a:Rn} (hp:(p.an.map Df.name).Nodup) (hq:((gQ p name).an.map Df.name).Nodup) (h:runM p fuel name gk input=some a):∃ a',runM (gQ p name) fuel name gk input=some a'∧ey (sig p.an.length) p.an.length a a':=by
 have hw:=agN p.an.length;have hX:=agP (name:=name) (fuel:=fuel) hp hq;unfold runM at h ⊢;have hg:vY (sig p.an.length) (.go (pU name) []) = .go (pU name) []:=by
  simp [vY,pU,cT,Aa,Ab,Ac,kP]
 split at h
 ·cases h
 ·rename_i m1 h1;obtain ⟨⟨o,x7⟩,h2,e1,e2⟩:=Aj hw hX _ (U6 p name) h1;rw [hg] at h2;cases e1;rw [h2];cases h;exact ⟨_,rfl,e2⟩
 ·rename_i x m1 h1;obtain ⟨⟨o,x7⟩,h2,e1,e2⟩:=Aj hw hX _ (U6 p name) h1;rw [hg] at h2;cases e1;rw [h2];simp only;by_cases ht:gk=true
  ·rw [if_pos ht] at h ⊢;obtain ⟨l1,l2⟩:=U7 hw input e2;have l3:=l1.new (x:=(dN input m1.cells).1) hw;rw [← l2,← l1.len] at *
   split at h
   ·cases h
   ·rename_i m2 h3;obtain ⟨⟨o,m2'⟩,h4,e3,e4⟩:=U4 hw hX l3 h3;cases e3;rw [h4];cases h;exact ⟨_,rfl,e4⟩
   ·rename_i y m2 h3;obtain ⟨⟨o,m2'⟩,h4,e3,e4⟩:=U4 hw hX l3 h3;cases e3;rw [h4];exact Mt hw hX _ e4 h
  ·rw [if_neg ht] at h ⊢;exact Mt hw hX _ e2 h
end
section
open Go Go.W
theorem U8:∀ (l:List Df) {E E':Env},fk l E = .ok E'→(l.map Df.name).Nodup∧∀ d∈l,aI E.an d.name=none
 | [],E,E',_=>⟨List.nodup_nil,fun d hd=>by cases hd⟩
 | d::l,E,E',h=>by
  rw [fk] at h
  split at h
  ·cases h
  ·rename_i E1 h1;obtain ⟨i1,i2⟩:=U8 l h;have gI:=h1;unfold nd at gI
   split at gI
   ·cases gI
   ·rename_i hc
    split at gI
    ·cases gI
    ·split at gI
     ·cases gI
     ·cases gI;have hn:aI E.an d.name=none:=by
       cases hg:aI E.an d.name with
       | none=>rfl
       | some x=>rw [hg] at hc;simp at hc
      have key:∀ x∈l,d.name≠x.name∧aI E.an x.name=none:=fun x hx=>by
       have:=i2 x hx;rw [jh] at this;by_cases e:d.name=x.name
       ·rw [if_pos e] at this;cases this
       ·rw [if_neg e] at this;exact ⟨e,this⟩
      refine ⟨?_,fun x hx=>?_⟩
      ·rw [List.map_cons,List.nodup_cons];refine ⟨fun hm=>?_,i1⟩;obtain ⟨x,hx,e⟩:=List.mem_map.1 hm;exact (key x hx).1 e.symm
      ·rcases List.mem_cons.1 hx with rfl | hx
       ·exact hn
       ·exact (key x hx).2
theorem U9 {p:Pg} (h:gB p=0):(p.an.map Df.name).Nodup:=by
 obtain ⟨E,hE⟩:=LC h;obtain ⟨E1,_,h2,_⟩:=FD hE;exact (U8 _ h2).1
theorem Mx {f:Ty→Option Bool} {g:ByteArray}:∀ (l:List Df) {d:Df},(l.map Df.name).Nodup→d∈l→d.name=g→nr f g l=if 0 < d.params.length then some (false,false) else (f (mG d).1).map (fun b=>((mG d).2,b))
 | x::l,d,hn,hd,hg=>by
  rw [List.map_cons,List.nodup_cons] at hn;rw [nr];rcases List.mem_cons.1 hd with rfl | hd
  ·rw [if_neg (by simpa using hg)]
  ·have hx:x.name≠g:=fun e=>hn.1 (by rw [e,← hg];exact List.mem_map_of_mem hd)
   rw [if_pos hx];exact Mx l hn.2 hd hg
theorem agR {p:Pg} {name:ByteArray} {N:Nat} {t:Bool} (hp:(p.an.map Df.name).Nodup) (hq:((gQ p name).an.map Df.name).Nodup) (h:sE p N name=some (t,true)):sE (gQ p name) N name=some (t,true):=by
 obtain ⟨d,hd,e,-,-⟩:=LU _ h;unfold sE at h ⊢;rw [Mx _ hp hd e] at h;have hm:rj d∈(gQ p name).an:=by
  unfold gQ;exact List.mem_append_left _ (List.mem_map_of_mem (List.mem_reverse.2 hd))
 rw [Mx _ hq hm e];exact h
theorem agS {p:Pg} {N:Nat} {name:ByteArray} {input:List Int} {fuel:Int} {r:Int×Option Rn} (h:qZ p N name input fuel=some r) (h0:r.1=0):∃ r':Int×Option Rn,qZ (gQ p name) N name input fuel=some r'∧r'.1=gB (gQ p name) ∧
   (r'.1=0→∃ a a',r=(0,some a)∧r'=(0,some a')∧a'.kind=a.kind∧a'.stuck=a.stuck∧a'.steps=a.steps∧a'.told=a.told):=by
 obtain ⟨t,a,rfl,he,hf,hr⟩:=age h h0;unfold qZ at h ⊢
 split at h
 ·cases h
 ·rename_i c1;rw [if_neg c1]
  split at h
  ·cases h
  ·rename_i c2;rw [if_neg c2,if_neg (by omega)]
   split at h
   ·cases h
   ·split at h
    ·simp at h
    ·rename_i c4;by_cases hc:gB (gQ p name)=0
     ·rw [if_neg (by rw [hc];simp)];have hp:=U9 (Classical.byContradiction c4);have hq:=U9 hc;rw [agR hp hq he];obtain ⟨a',h1,h2⟩:=agQ hp hq hr;simp only;rw [h1];exact ⟨_,rfl,hc.symm,fun _=>⟨a,a',rfl,rfl,h2.kind,h2.stuck,h2.steps,h2.told⟩⟩
     ·rw [if_pos hc];exact ⟨_,rfl,rfl,fun e=>absurd e hc⟩
end
end Go.Proofs.YtjfgeekjjlhbdaaGreatDoor