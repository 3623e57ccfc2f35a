/- Texts that the last file stands on. -/
import Derived.Test.YtekkkjbjnhipkaaGreatDoorZPA
import Derived.Test.YtekkkjbjnhipkaaGreatDoorZPF
import Derived.Test.YtekkkjbjnhipkaaGreatDoorZPD
import Derived.Test.YtekkkjbjnhipkaaGreatDoorZPE
import Derived.Test.YtekkkjbjnhipkaaGreatDoorZPC
import Derived.Test.YtekkkjbjnhipkaaGreatDoorRows
import Derived.Deep.Slices
import Derived.Test.YtekkkjbjnhipkaaGreatDoorCards
import Derived.Test.YtekkkjbjnhipkaaGreatDoorTie
import Derived.Deep.DeepHandedRow
import Derived.Lay
import Derived.MakeChecks
set_option linter.unusedSimpArgs false
set_option linter.unusedVariables false
set_option maxRecDepth 100000
namespace Go.Proofs.YtekkkjbjnhipkaaGreatDoor
section
open Go Go.W
theorem amQ{ps:List ByteArray}{ts:List Ty}{k:Nat}(hk:k<ps.length)(gY:k<ts.length)(m:List (ByteArray×Ty)):pH (ps.drop k) (ts.drop k) m=pH (ps.drop (k+1)) (ts.drop (k+1)) (bS m ps[k] ts[k]):=by
 rw[Ω hk,Ω gY,pH]
section
variable {w w':World} {S S' R:Nat->Prop} {A:MA} {p:Pg} {D:List (ByteArray×Nat)} {m:Mk} {fr fd:Option Nat} {vr vd vf:Value}
theorem fX.call{A':TA}{fp dB:Option Nat}(k:fX w S A p D m fr fd vr vd vf)(hT:∀b,TS A' fp b->S b/\¬KS A fr fd b)(h2:fU A' fp dB S S' w w')(hl:∀b,S' b->b<w'.heap.size):fX w' S' A p D m fr fd vr vd vf:=
 k.ext h2.mod hT h2.hs h2.up hl
theorem fX.cells(h:fX w S A p D m fr fd vr vd vf){a:Addr}{d:Nat}{df:Df}(ha:A.ad=some a)(hd:p.aj[d]? = some df):∃ vp tc bc,aX w vp 1 (Out S w) ft df.params∧aR w (Out S w) tc df.type∧ci w (Out S w) bc df.body∧Nm df.name ∧
   w.cell? ⟨(a.add (d*12)).block,(a.add (d*12)).off+1,none⟩=some vp/\f' w 3 (.pointer (some ⟨(a.add (d*12)).block,(a.add (d*12)).off+2,none⟩))=some (.agg tc.toArray)/\f' w 7 (.pointer (some ⟨(a.add (d*12)).block,(a.add (d*12)).off+5,none⟩))=some (.agg bc.toArray):=by
 obtain⟨n,c,hn⟩:=h.names;obtain⟨bg,rfl⟩:=List.getElem?_eq_some_iff.1 hd;obtain⟨ad,c',r,e,⟨vp,tc,bc,rfl,l1,l2,h1,h2,h3,h4⟩,_,_,hc⟩:=dT hn bg;rw[ha]at e;cases e;have q1:=hc 1 (by simp);have q2:=Hd hc (o:=2) (n:=3) (by simp;omega);have q3:=Hd hc (o:=5) (n:=7) (by simp;omega);rw[List.drop_succ_cons,List.drop_succ_cons,List.drop_zero,List.take_left' l1]at q2;rw[show(Value.string p.aj[d].name::vp::(tc++bc)).drop 5=bc by simp only[List.drop_succ_cons];exact List.drop_left' l1,List.take_of_length_le (by omega)]at q3;exact⟨vp,tc,bc,h1,h2,h3,h4,q1,q2,q3⟩
theorem fX.sub(h:fX w S A p D m fr fd vr vd vf)(hs:∀b,S' b->S b)(hT:∀b,KS A fr fd b->S' b):fX w S' A p D m fr fd vr vd vf:=by
 obtain⟨n,c,hn⟩:=h.names;have up:∀b,Out S w b->Out S' w b:=fun b hb=>⟨hb.1,fun hh=>hb.2 (hs b hh)⟩
 have m0:=Mod.refl (fun _=>False) w;exact⟨h.box,h.row.ext (yi _) m0 (fun _ h=>h.elim) (fun _ _ h=>h) (fun b _ hh=>.inl (hs b hh)),h.xN.up m0 aA up (fun _ _ x=>x.up m0 aA up),h.BI.ext tn m0 (fun _ h=>h.elim) (fun _ _ h=>h) (fun b _ hh=>.inl (hs b hh)),h.at_,h.waits.mod m0 (fun h=>h) (fun v i x=>by obtain⟨cs,e,x⟩:=x;exact⟨cs,e,(jS _).up x m0 aA up⟩),h.aj,⟨n,c,hn.up m0 aA up (fun _ _ x=>x.up m0 aA up)⟩,hT,fun hh=>h.out (hs _ hh),fun b hb=>h.lt b (hs b hb),h.qH,h.wQ,h.F1⟩
theorem bQ.UK{α:Type}{b:Nat}{R R':Value->α->Prop}(h:bQ w b R []):bQ w b R' []:=by
 obtain⟨lv,h1,h2⟩:=h;cases h2;exact⟨[],h1,.nil⟩
theorem fX.waiting(h:fX w S A p D m fr fd vr vd vf){l:List (ByteArray×iQ)}(hm:Mod (· = A.mw) w w')(hw:bQ w' A.mw (N5 A.ad w (Out S w)) l):fX w' S A p D { m with waits:=l} fr fd vr vd vf:=by
 have hS:S A.mw:=h.aT _ (.inr (.inr (.inl rfl)));have nd:∀b,Out S w b->¬b=A.mw:=fun b hb hh=>hb.2 (hh ▸ hS)
 have up:∀b,Out S w b->Out S w' b:=fun b hb=>⟨Nat.lt_of_lt_of_le hb.1 hm.size,hb.2⟩
 have N7:¬A.pm=A.mw:=fun e=>by
  obtain⟨_,⟨_,_,kG,_⟩,_⟩:=h.waits;have e1:w.heap[A.pm]?=_:=h.box;rw[<- e,e1]at kG;cases kG
 exact h.set (hm.aU (fun b hb=>.inr (.inr (.inl hb)))) (hm.at h.box N7) (h.row.ext (yi _) hm (fun b hb=>hb ▸ hS) (fun b hb hh=>(h.qH b hb).2.2.1 hh) (fun b _ hh=>.inl hh)) (h.BI.ext tn hm (fun b hb=>hb ▸ hS) (fun b hb hh=>(h.wQ b hb).2.2 hh) (fun b _ hh=>.inl hh)) (h.at_.mod hm h.F1 (fun _ _ x=>x)) (hw.mod (.refl (fun _=>False) w') (fun h=>h) (fun v i x=>by obtain⟨cs,e,x⟩:=x;exact⟨cs,e,(jS _).up x hm nd up⟩))
  (fun _ _ h=>h) (fun _ h=>h) (fun b hb=>Nat.lt_of_lt_of_le (h.lt b hb) hm.size) (fun b hb=>⟨h.aT b (.inr (.inr (.inr (.inl hb)))),.inl hb⟩) (fun b hb=>⟨h.aT b (.inr (.inr (.inr (.inr hb)))),.inl hb⟩) (fun b hb=>(h.qH b hb).2.2.2)
theorem acO(C:Tc)(u:Ty)(t:Tn):dj C [u] t=([(cZ C.a8 u t.left).1],t.at (cZ C.a8 u t.left).2):=by unfold dj;rw[dz,dz]
theorem amR{α:Type}{w:World}{b T c sz:Nat}{B:Nat->Prop}{P:List Value->α->Prop}{r:List Value}{a:α}(hb:w.heap[b]?=some (.cells r.toArray T (0,0)))(hl:r.length=sz)(hB:B b)(hp:P r a):aX w (.slice (some ⟨b,0,none⟩) 1 c) sz B P [a]:=by
 refine⟨[r],⟨⟨_,c,rfl,fun _ ad e=>by cases e;exact hB,fun i hi=>⟨_,rfl,?_,?_⟩⟩,by simp⟩,rfl,fun i r' a' x y=>?_⟩
 .match i,hi with
  |0,_=>exact hl
 .match i,hi with
  |0,_=>
   intro k hk;simp only[List.getElem_cons_zero]at hk ⊢;rw[oa,oa,cell_of hb];simp[hk]
 .match i with
  |0=>cases x;cases y;exact hp
  |i+1=>simp at x
set_option maxHeartbeats 2000000 in
theorem amS{i:Nat}{r:iQ}(h:fX w S A p D m fr fd vr vd vf)(hp:yr p D)(hm:LI p D m i)(hr:m.row[i]? = some r)(hC:∀ (d:Nat) df,p.aj[d]? = some df→df.name.size≤1048576∧df.params.length≤1048576) :
   bu Tryz.prog 17 [ptr A.pm,.string r.name] w fun q w'=>Mod (KS A fr fd) w w'/\match tA p D m r.name with
    |some (.ok m')=>q=I 0/\∃S' gK qI kq rA,fX w' S' A p D m' gK qI kq vd rA/\(∀b,b<w.heap.size->S' b->S b)/\(∀b,S b->S' b)/\(∀b,gK=some b->fr=some b\/w.heap.size<=b)/\∀b,qI=some b->fd=some b\/w.heap.size<=b
    |some (.error e)=>q=I e
    |none=>True:=by
 have hw:=hm.row.waits i r (Nat.le_refl _) hr;obtain⟨⟨d0,iX,hlen⟩,lu⟩:=hm.row.ins r (List.mem_of_getElem? hr);obtain⟨nh,DD⟩:=hp.de d0 (List.mem_of_getElem? iX);have rW:sC (pH d0.params r.types []):=UF _ _ _ (fun n u h=>by cases h) lu;have bV:=hm.size;have qU:Wr (100000-m.size)=100000-m.size:=gO (by omega) (by omega);unfold tA;rw[hw];simp only[iX];refine γ Tryz.f17 ?_;(try simp only[go_sem,simprocAttr,cell_of h.box,Value.cells]);refine aai rfl rfl rfl rfl (Tryz.zeroValue77 _) h.waits hw ?_;rintro _ ⟨cs,rfl,bT⟩;obtain⟨a,vt,lQ,rfl,uN,amT⟩:=bT;obtain⟨ta,tc,rfl⟩:=bq uN;(try simp only[go_sem,simprocAttr]);refine cX ?_;intro w1 au ak cw;(try simp only[go_sem,simprocAttr]);refine bN (vs:=[.pointer (some (a.add (r.jR*12))),.slice ta r.types.length tc,.string r.name]) (cs:=[.pointer none,.slice none 0 0,.string bM]) rfl rfl au rfl rfl (aP rfl (aP rfl (aP rfl dq))) ?_;intro w2 az ai bU;have kN:Mod (fun _=>False) w w2:=ak.step ai (fun b hb hl=>by omega);have h2:=h.no kN;(try simp only[go_sem,simprocAttr,cell_of h2.box,Value.cells]);refine XP rfl rfl rfl Tryz.underlying66 Tryz.underlying9 h2.waits ?_;intro w3 x9 aw dU;have h3:=h2.waiting aw x9;obtain⟨m1,DR⟩:∃m1:Mk,m1 = { m with waits:=gq m.waits r.name}:=⟨_,rfl⟩;rw[<- DR]at h3;have UL:m1.size=m.size:=by rw[DR]
 have lmw:A.mw<w.heap.size:=h.lt _ (h.aT _ (.inr (.inr (.inl rfl))));have z1:w1.heap.size=w.heap.size+1:=cw;have aS:=aw.at az (by omega);have k3:Mod (KS A fr fd) w w3:=(aq kN).trans (aw.aU (fun b hb=>.inr (.inr (.inl hb))));(try simp only[go_sem,simprocAttr,cell_of h3.box,Value.cells]);refine pe (α:=Ty) (fun _ _=>False) ?_;intro w4 amU aD dL;(try simp only[go_sem,simprocAttr,cell_of (aD.at h3.box Ψ),Value.cells]);refine pe RN ?_;intro w5 amV aH eY;(try simp only[go_sem,simprocAttr]);refine bZ rfl ?_;intro w6 cH aG fw;obtain⟨A',wR⟩:∃A':TA,A'=⟨w5.heap.size,A.pm,A.md,w3.heap.size,w4.heap.size,A.ad⟩:=⟨_,rfl⟩;have etb:A'.tb=w5.heap.size:=by rw[wR]
 have emb:A'.mb=w3.heap.size:=by rw[wR]
 have ems:A'.ms=w4.heap.size:=by rw[wR]
 have lL:gM w6 A' (Wr (100000-m.size)) (.slice none 0 0):=by
  rw[<- UL,wR];exact cH
 have Db:Mod (fun _=>False) w3 w6:=(aD.trans aH).trans aG;have amW:bQ w6 A'.ms RN []:=by rw[ems];exact amV.mod aG (fun h=>h) (fun _ _ h=>h)
 have z2:w2.heap.size=w1.heap.size:=bU;have z3:w3.heap.size=w2.heap.size:=dU;have z4:w4.heap.size=w3.heap.size+1:=dL;have z5:w5.heap.size=w4.heap.size+1:=eY;have z6:w6.heap.size=w5.heap.size+1:=fw;obtain⟨S6,F7⟩:∃S6:Nat->Prop,S6=fun b=>S b\/(w3.heap.size<=b/\b<w6.heap.size):=⟨_,rfl⟩
 have UM:∀b,b<w3.heap.size->S6 b->S b:=fun b hb hh=>by
  rw[F7]at hh;rcases hh with hh |hh
  .exact hh
  .omega
 have DG:∀b,S b->S6 b:=fun b hb=>by rw[F7];exact .inl hb
 have lt6:∀b,S6 b->b<w6.heap.size:=fun b hb=>by
  rw[F7]at hb;rcases hb with hb |hb
  .have:=h3.lt b hb;omega
  .exact hb.2
 have h6:fX w6 S6 A p D m1 fr fd vr vd vf:=h3.ext Db (fun _ h=>h.elim) UM DG lt6;have acP:=Db.at aS Ψ;have k6:Mod (KS A fr fd) w w6:=k3.trans (aq Db);obtain⟨vp,tcc,bc,fJ,arn,aro,arp,q1,_,_⟩:=h6.cells lQ iX;obtain⟨pa,pc,rfl⟩:=bq fJ;have fI:=dI fJ;obtain⟨hC1,hC2⟩:=hC _ _ iX;(try simp only[go_sem,simprocAttr,cell_of acP,Value.cells,q1]);refine og (fun ρ w'=>fX w' S6 A p D m1 fr fd vr vd vf/\gM w' A' (Wr (100000-m.size)) (.slice none 0 0)/\bQ w' A'.ms RN []/\bQ w' A'.mb (pd w' (Out S6 w')) (pH d0.params r.types [])/\Mod (KS A fr fd) w w'/\Mod (· = A'.mb) w6 w'/\w'.heap[w.heap.size]?=some (.cells [.pointer (some (a.add (r.jR*12))),.slice ta r.types.length tc,.string r.name].toArray uM (0,0))/\∃x1 x2 x3 x4:Value,ρ=[(0,ptr A.pm),(1,.string r.name),(5,ptr w.heap.size),(6,ptr A'.tb),(38,x1),(39,x2),(40,x3),(41,x4)]) ?_ ?_
 .refine eW d0.params.length (fun k ρ w'=>k≤d0.params.length∧∃ a8,fX w' S6 A p D m1 fr fd vr vd vf∧gM w' A' (Wr (100000 - m.size)) (.slice none 0 0)∧bQ w' A'.ms RN []∧bQ w' A'.mb (pd w' (Out S6 w')) a8∧pH d0.params r.types []=pH (d0.params.drop k) (r.types.drop k) a8∧Mod (KS A fr fd) w w'∧Mod (· = A'.mb) w6 w'∧w'.heap[w.heap.size]? = some (.cells [.pointer (some (a.add (r.jR*12))),.slice ta r.types.length tc,.string r.name].toArray uM (0,0))∧ρ=[(0,ptr A.pm),(1,.string r.name),(5,ptr w.heap.size),(6,ptr A'.tb),(38,.slice pa d0.params.length pc),(39,I d0.params.length),(40,I k)])
   ⟨by omega,[],h6,lL,amW,by rw[emb];exact(amU.mod (aH.trans aG) (fun h=>h) (fun _ _ h=>h)).UK,rfl,k6,.refl _ _,acP,by rw[etb];rfl⟩ fI ?_ ?_ (by decide) ?_
  .rintro k _ w7 ⟨hk,_,_,_,_,_,_,_,_,_,rfl⟩;exact⟨rfl,rfl,hk⟩
  .rintro k _ w7 ⟨_,a8,h7,mS,Jz,JA,se,k7,nV,dh,rfl⟩ hk;have gY:k<r.types.length:=by omega
   rw[amQ hk gY]at se;have sb:S6 A'.mb:=by rw[F7,emb];exact .inr (by omega)
   have nb:∀b,Out S6 w6 b->¬b=A'.mb:=fun b hb hh=>hb.2 (hh ▸ sb)
   have ub:∀b,Out S6 w6 b->Out S6 w7 b:=fun b hb=>⟨Nat.lt_of_lt_of_le hb.1 nV.size,hb.2⟩
   obtain⟨ad7,c7,rr7,e7,⟨rfl,Ul⟩,_,_,yO⟩:=dT (fJ.up nV nb ub (fun _ _ x=>x)) hk;cases e7;have c0:=yO 0 (by simp);rw[add_zero',Nat.mul_one]at c0;simp only[List.getElem_cons_zero]at c0;have nt:∀b,Out S w b->¬KS A fr fd b:=fun b hb hh=>hb.2 (h.aT b hh)
   have ZN:=nV.size;have ut:∀b,Out S w b->Out S6 w7 b:=fun b hb=>⟨by have:=hb.1;omega,fun hh=>hb.2 (UM b (by have:=hb.1;omega) hh)⟩
   obtain⟨adt,ct,rt,et,fO,arq,amX,_⟩:=dT (uN.up k7 nt ut (fun _ _ x=>x.up k7 nt ut)) gY;cases et;have b1:(0:Int)<=k/\(k:Int)<d0.params.length:=by omega
   have b2:(0:Int)<=k/\(k:Int)<r.types.length:=by omega
   have jv:IntKind.i64.wrap ((k:Int)+1)=((k+1:Nat):Int):=by rw[dJ (by omega) (by omega)];omega
   (try simp only[go_sem,simprocAttr,bG,bH,cell_of dh,cell_of mS,Value.cells,b1,b2,c0,amX]);refine lW (kt:=9) (et:=52) (b:=A'.mb) (k:=d0.params[k]) (v:=.agg rt.toArray) (a:=r.types[k]) rfl rfl rfl rfl rfl (JA.mod (Mod.drew (.refl (fun _=>False) w7)) (fun h=>h) (fun _ _ h=>h)) ⟨rt,rfl,fO⟩ ?_;intro w8 amY nH kD;have aZ:Mod (· = A'.mb) w7 w8:=nH.dG;have kD:w8.heap.size=w7.heap.size:=kD;have n8:∀b,Out S6 w7 b->¬b=A'.mb:=fun b hb hh=>hb.2 (hh ▸ sb)
   have u8:∀b,Out S6 w7 b->Out S6 w8 b:=fun b hb=>⟨by have:=hb.1;omega,hb.2⟩
   have JB:∀b,w.heap.size<=b->¬KS A fr fd b:=fun b hb hh=>by have:=h.lt b (h.aT b hh);omega
   (try simp only[go_sem,simprocAttr]);exact⟨hk,_,h7.ext aZ (fun b hb=>by rw[hb];exact⟨sb,JB _ (by omega)⟩) (fun _ _ h=>h) (fun _ h=>h) (fun b hb=>by have:=h7.lt b hb;omega),aZ.at mS (by omega),Jz.mod aZ (by omega) (fun _ _ h=>h),amY.mod (.refl (fun _=>False) w8) (fun h=>h) (fun _ _ x=>x.up aZ n8 u8),se,k7.step aZ (fun b hb hl=>by omega),nV.trans aZ,aZ.at dh (by omega)⟩
  .rintro _ w7 ⟨_,a8,h7,mS,Jz,JA,se,k7,nV,dh,rfl⟩;rw[List.drop_length]at se;have:pH ([]:List ByteArray) (r.types.drop d0.params.length) a8=a8:=by cases r.types.drop d0.params.length<;>rfl
   rw[this]at se;rw[se];(try simp only[go_sem,simprocAttr]);exact⟨h7,mS,Jz,JA,k7,nV,dh,_,_,_,_,rfl⟩
 rintro _ w7 ⟨h7,mS,Jz,JA,k7,nV,dh,_,_,_,_,rfl⟩;generalize ars:pH d0.params r.types []=by0 at *;obtain⟨C,BJ⟩:∃C:Tc,C=⟨p.aj,D,by0⟩:=⟨_,rfl⟩;rw[<- BJ];obtain⟨S7,qJ⟩:∃S7:Nat->Prop,S7=fun b=>S6 b/\b≠A'.mb:=⟨_,rfl⟩
 have ZN:=nV.size;have UN:∀b,S7 b->S6 b:=fun b hb=>by rw[qJ]at hb;exact hb.1
 have Ai:∀b,KS A fr fd b->b<w.heap.size:=fun b hb=>h.lt b (h.aT b hb)
 have h7:fX w7 S7 A p D m1 fr fd vr vd vf:=h7.sub UN (fun b hb=>by rw[qJ];exact⟨h7.aT b hb,by have:=Ai b hb;omega⟩);have o7:∀b,Out S6 w7 b->Out S7 w7 b:=fun b hb=>⟨hb.1,fun hh=>hb.2 (UN b hh)⟩
 have wS:iA w7 S7 A' C ⟨Wr (100000-m.size),[],[]⟩ none:=by
  refine⟨⟨_,mS,wv⟩,Jz,?_,?_,?_,?_,?_,?_,h7.lt,(fun b hb=>by cases hb),(fun n i hh=>by cases hh)⟩
  .rw[BJ];exact JA.mod (.refl (fun _=>False) w7) (fun h=>h) (fun _ _ x=>x.up (.refl (fun _=>False) w7) aA o7)
  .rw[wR];exact⟨_,h7.box⟩
  .rw[wR,BJ];exact h7.aj
  .obtain⟨n,c,hn⟩:=h7.names;rw[wR,BJ];exact⟨n,c,hn⟩
  .rintro b (hb |hb |hb)
   .rw[hb,qJ,F7];exact⟨.inr (by omega),by omega⟩
   .rw[hb,qJ,F7];exact⟨.inr (by omega),by omega⟩
   .cases hb
  .refine⟨fun hh=>by rw[qJ]at hh;exact hh.2 rfl,by rw[wR];exact h7.out,?_⟩;have Ny:=Ai A.pm (.inl rfl);have F8:A'.pm=A.pm:=by rw[wR]
   rw[F8];rintro(hb |hb |hb)
   .omega
   .omega
   .cases hb
 have F8:A'.pm=A.pm:=by rw[wR]
 have X7:nU w7 w7 S7 S7 A' C ⟨Wr (100000-m.size),[],[]⟩ none none (fun _=>False):=⟨wS,fU.refl _ _ _ _,fun _ h=>h.elim,by rw[F8];have:=Ai A.pm (.inl rfl);omega⟩;have dKS:∀{fp:Option Nat},(∀b,fp=some b->w.heap.size<=b)->∀b,TS A' fp b->¬KS A fr fd b:=fun hf b hb hh=>by
  have:=Ai b hh;rcases hb with hb |hb |hb
  .omega
  .omega
  .have:=hf b hb;omega
 obtain⟨vp,Uj,bc7,_,amZ,art,aru,_,q2,q3⟩:=h7.cells lQ iX;have nTB:∀b,Out S7 w7 b->¬b=A'.tb:=fun b hb hh=>hb.2 (hh ▸ wS.aT _ (.inl rfl))
 (try simp only[go_sem,simprocAttr,cell_of dh,Value.cells,q2]);refine aL (by rfl) ?_;refine(Nn d0.type (A:=A') (vn:=.slice none 0 0) (a8:=C.a8) (S:=S7) amZ mS wS.a8 (wS.aT _ (.inl rfl)) (fun e=>wS.out.1 (by rw[e];exact wS.aT _ (.inl rfl))) wS.lt).mono ?_;rintro _ w8 ⟨⟨pw,rfl,jw⟩,Aa,aZ⟩;have X8:=X7.call (wS.left mS aZ Aa) (fU.tb aZ);have h8:=h7.call (fun b hb=>⟨wS.aT b hb,dKS (fun _ h=>by cases h) b hb⟩) (fU.tb aZ:fU A' none none S7 S7 w7 w8) X8.tr.lt;have z8:=aZ.size;have uQ:=jw.len;have k8:Mod (KS A fr fd) w w8:=k7.step aZ (fun b hb hl=>by omega);have dW:=aZ.at dh (by omega);(try simp only[go_sem,simprocAttr,uQ]);refine cX ?_;intro w9 di aQ gx;have X9:=X8.step (N:=(· = w8.heap.size)) aQ (fun _ h=>h.elim) (fun b hb=>by have hb:b=w8.heap.size:=hb;omega);have JB:∀b,w.heap.size<=b->¬KS A fr fd b:=fun b hb hh=>by have:=Ai b hh;omega
 have h9:=h8.ext aQ (fun _ h=>h.elim) (S':=fun b=>S7 b\/b=w8.heap.size) (fun b hb hh=>by
  rcases hh with hh |hh
  ·exact hh
  ·omega) (fun b hb=>.inl hb) X9.tr.lt
 obtain⟨S9,O9,BH,FZ⟩:∃S9 O9:Nat->Prop,S9=(fun b=>S7 b\/b=w8.heap.size)/\O9=(fun b=>False\/b=w8.heap.size):=⟨_,_,rfl,rfl⟩;rw[<- BH]at X9 h9;rw[<- FZ]at X9;have o9:O9 w8.heap.size:=by rw[FZ];exact .inr rfl
 have s9:S9 w8.heap.size:=by rw[BH];exact .inr rfl
 have am0:(Value.string r.name :: .slice none 0 0::(pw++jT)).length=12:=by simp[uQ]
 refine bN (vs:=.string r.name :: .slice none 0 0::(pw++jT)) (cs:=[.string bM,.slice none 0 0,I 0,.string bM,.slice none 0 0,I 0,.string bM,I 0,.slice none 0 0,.slice none 0 0,.slice none 0 0,.slice none 0 0]) rfl rfl di am0 rfl (aP rfl (aP rfl (P9 jw.one (Nv _ _)))) ?_;intro cD eM bD ou;have JC:=X9.wr bD (fun b hb=>by rw[hb];exact o9);have z9:w9.heap.size=w8.heap.size+1:=gx;have mG:=h9.ext bD (fun b hb=>by rw[hb];exact⟨s9,JB _ (by omega)⟩) (fun _ _ h=>h) (fun _ h=>h) JC.tr.lt;have am1:=bD.at (aQ.at dW Ψ) (by omega);obtain⟨_,_,arv,_,_,am2,_,_,_,s8⟩:=mG.cells lQ iX;(try simp only[go_sem,simprocAttr,cell_of am1,Value.cells,s8]);refine aL (by rfl) ?_;have acQ:qF C.aj C.D d0.body:=by rw[BJ];exact hp.Oe d0 (List.mem_of_getElem? iX)
 refine(amd (A:=A') (C:=C) (by rw[BJ];exact hC) d0.body JC.tr am2 acQ (by show 0+_<=_;omega)).mono ?_;rintro _ eE ⟨BG,acR,yu,rfl,UO,sy,yv⟩;have UP:=JC.call sy yv;have jr:=mG.call (fun b hb=>⟨JC.tr.aT b hb,dKS (fun _ h=>by cases h) b hb⟩) yv UP.tr.lt;have hZ:=yv.mod.at eM (JC.own _ o9).2.2.1;have JD:=UO.len;have TC:=yv.mod.size;(try simp only[go_sem,simprocAttr]);refine KB (vs:=yu) rfl rfl hZ JD (by simp[uQ]) UO.one ?_;intro dQ je ei AV;have Uv:sp (Value.string r.name :: .slice none 0 0::(pw++jT)).toArray 5 yu=(Value.string r.name :: .slice none 0 0::(pw++yu)).toArray:=by
  unfold sp
  congr 1
  simp only[List.take_succ_cons,JD];rw[List.take_left' uQ,List.drop_of_length_le (by simp[uQ]),List.append_nil];rfl
 rw[Uv]at je;have UQ:=yv.up _ s9;have X12:=UP.wr ei (fun b hb=>by rw[hb];exact o9);have oq:=jr.ext ei (fun b hb=>by rw[hb];exact⟨UQ,JB _ (by omega)⟩) (fun _ _ h=>h) (fun _ h=>h) X12.tr.lt
 have Aj:Mod (fun b=>b=A'.tb\/b=A'.ms\/b=w8.heap.size) w8 dQ:=(((aq aQ).trans (bD.aU (fun b hb=>.inr (.inr hb)))).trans (yv.mod.aU (fun b hb=>by
  rcases hb with hb |hb |hb
  ·exact .inl hb
  ·exact .inr (.inl hb)
  ·cases hb))).trans (ei.aU (fun b hb=>.inr (.inr hb)))
 have Bh:Mod (KS A fr fd) w dQ:=k8.step Aj (fun b hb hl=>by omega);obtain⟨SK,JE⟩:∃SK:Nat->Prop,SK=fun b=>BG b/\acR≠some b:=⟨_,rfl⟩
 have kS:∀b,SK b->BG b:=fun b hb=>by rw[JE]at hb;exact hb.1
 have acS:∀b,acR=some b->w.heap.size<=b:=fun b hb=>by
  rcases yv.fp b hb with hh |hh
  .cases hh
  .omega
 have lM:fX dQ SK A p D m1 fr fd vr vd vf:=oq.sub kS (fun b hb=>by rw[JE];exact⟨oq.aT b hb,fun hh=>by have:=acS b hh;have:=Ai b hb;omega⟩);have sK9:SK w8.heap.size:=by rw[JE];exact⟨UQ,fun hh=>(UP.own _ o9).2.2.1 (.inr (.inr hh))⟩
 have acT:aR dQ (Out SK dQ) pw (cZ C.a8 d0.type (Wr (100000-m.size))).1:=jw.up Aj (fun b hb hh=>by
  rcases hh with hh |hh |hh
  ·exact hb.2 (hh ▸ wS.aT _ (.inl rfl))
  ·exact hb.2 (hh ▸ wS.aT _ (.inr (.inl rfl)))
  ·have:=hb.1;omega) (fun b hb=>⟨by have:=hb.1;have:=Aj.size;omega,fun hh=>hb.2 (by
   have:=yv.hs b (by have:=hb.1;omega) (kS b hh);rw[BH]at this;rcases this with h |h
   ·exact h
   ·have:=hb.1;omega)⟩)
 have DM:ci dQ (Out SK dQ) yu (dp C d0.body ((⟨Wr (100000-m.size),[],[]⟩:Tn).at (cZ C.a8 d0.type (Wr (100000-m.size))).2)).1:=UO.up ei (fun b hb hh=>hb.2 (hh ▸ UQ)) (fun b hb=>⟨by have:=hb.1;have:=ei.size;omega,fun hh=>hb.2 (kS b hh)⟩);obtain⟨acU,tC,UR⟩:=X12.tr.tr;rw[acO];simp only[List.headD_cons];obtain⟨B,hB⟩:∃B,B=dp C d0.body ((⟨Wr (100000-m.size),[],[]⟩:Tn).at (cZ C.a8 d0.type (Wr (100000-m.size))).2):=⟨_,rfl⟩;rw[<- hB]at DM tC UR ⊢;have am3:A'.ad=A.ad:=by rw[wR]
 rw[am3]at UR;have yI:B.2.bR.length<=1000000000:=by
  have:=NP C d0.body ((⟨Wr (100000-m.size),[],[]⟩:Tn).at (cZ C.a8 d0.type (Wr (100000-m.size))).2);rw[<- hB]at this;have h0:((⟨Wr (100000-m.size),[],[]⟩:Tn).at (cZ C.a8 d0.type (Wr (100000-m.size))).2).bR.length=0:=rfl;omega
 have am4:aX dQ acU 3 (Out SK dQ) (fun r i=>wL A.ad dQ (Out SK dQ) r i) B.2.bR:=UR.fin (jS _) (fun b hb=>.inl (kS b hb)) (fun b hb hh=>by rw[JE]at hh;exact hh.2 hb) (by omega);(try simp only[go_sem,simprocAttr,cell_of tC,Value.cells]);cases pb:decide (B.2.left<0)with
 |true=>
  have hn:=of_decide_eq_true pb;rw[if_pos hn];(try simp only[go_sem,simprocAttr]);exact Bh
 |false=>
 have hn:=of_decide_eq_false pb;rw[if_neg hn];(try simp only[go_sem,simprocAttr,cell_of lM.box,Value.cells,aE (n:=12) je (by simp[uQ,JD])]);have DI:(Value.string r.name::Value.slice none 0 0::(pw++yu)).length=12:=by simp[uQ,JD]
 refine ez (cs:=(Value.string r.name::Value.slice none 0 0::(pw++yu)).toArray) rfl (FW DI rfl) ?_;intro iP si am5 De;have gH:Mod (fun _=>False) dQ iP:=am5.dG;have De:iP.heap.size=dQ.heap.size+1:=De;have rd:=mD si;rw[DI]at rd;obtain⟨df,mQ⟩:∃df:Df,df=⟨r.name,[],(cZ C.a8 d0.type (Wr (100000-m.size))).1,B.1⟩:=⟨_,rfl⟩;have am6:=lM.BI.no tn gH;have Ny:=bP lM.box;have am7:=gH.at lM.box Ψ;have am8:=gH.at je Ψ;have JF:∀b,fd=some b->SK b:=fun b hb=>lM.aT b (.inr (.inr (.inr (.inr hb))))
 have acV:∀{w':World} {B':Nat->Prop},aR w' B' pw (cZ C.a8 d0.type (Wr (100000-m.size))).1->ci w' B' yu B.1->jE w' B' (Value.string r.name::Value.slice none 0 0::(pw++yu)) df:=fun h1 h2=>by
  rw[mQ];exact⟨_,pw,yu,rfl,uQ,JD,eB _ _ _ _,h1,h2,amT⟩
 have acW:∀b,Out SK dQ b->Out (SF SK fd) iP b:=fun b hb=>⟨by have:=hb.1;omega,fun hh=>by
  rcases hh with hh |hh
  ·exact hb.2 hh
  ·exact hb.2 (JF b hh)⟩
 have ldf:m1.aj.length<=1000:=by rw[DR];show m.aj.length<=1000;have:=hm.len;have:=hm.le;have:=hm.row.len;omega
 refine⟨gH.bO _ Ny Ψ,?_⟩;refine ww (a:=df) tn rfl am6 rfl (by simp) rd (acV (acT.up gH aA acW) (DM.up gH aA acW)) rfl (by omega) (by omega) (by omega) ?_;intro L0 su f14 Dw gj I1;obtain⟨I2,I3,rfl,_⟩:=Dw.val;have am9:=gj.at am7 (fun hh=>(lM.wQ _ hh).1 rfl);have z14:=gj.size;have gD:=gj.at am8 (fun hh=>JB w8.heap.size (by omega) (.inr (.inr (.inr (.inr hh)))));(try simp only[go_sem,simprocAttr]);refine eK (b:=A.pm) (off:=5) rfl rfl am9 rfl (by simp) ?_;intro jA acX ki Td;have lpw:=Ai A.pm (.inl rfl);have A0:=ki.at gD (by omega);(try simp only[go_sem,simprocAttr,cell_of acX,Value.cells,aE (n:=12) A0 DI]);refine ez (cs:=(Value.string r.name::Value.slice none 0 0::(pw++yu)).toArray) rfl (FW DI rfl) ?_;intro pK jy am' NF;have rC:Mod (fun _=>False) jA pK:=am'.dG;have NF:pK.heap.size=jA.heap.size+1:=NF;have ana:=rC.at acX Ψ;obtain⟨jj,F9⟩:∃jj:Nat->Prop,jj=fun b=>SK b\/f14=some b:=⟨_,rfl⟩
 have DS:∀b,f14=some b->b<su.heap.size/\(fd=some b\/iP.heap.size<=b):=fun b hb=>by
  rcases I1 b hb with hh |⟨hh,wX⟩
  .exact⟨by have:=lM.lt b (JF b hh);omega,.inl hh⟩
  .exact⟨wX,.inr (by omega)⟩
 have JG:∀b,b<iP.heap.size->jj b->SK b:=fun b hb hh=>by
  rw[F9]at hh;rcases hh with hh |hh
  .exact hh
  .rcases(DS b hh).2 with hh |hh
   .exact JF b hh
   .omega
 have Oh:∀b,SK b->jj b:=fun b hb=>by rw[F9];exact .inl hb
 have US:Mod (fun b=>fd=some b\/b=A.pm) dQ pK:=(((aq gH).trans (gj.aU (fun b hb=>.inl hb))).trans (ki.aU (fun b hb=>.inr hb))).trans (aq rC)
 have acY:∀b,Out SK dQ b->¬(fd=some b\/b=A.pm):=fun b hb hh=>hb.2 (by
  rcases hh with hh |hh
  ·exact JF b hh
  ·exact hh ▸ lM.aT _ (.inl rfl))
 have o16:∀b,Out SK dQ b->Out jj pK b:=fun b hb=>⟨by have:=hb.1;omega,fun hh=>hb.2 (JG b (by have:=hb.1;omega) hh)⟩
 have anb:aX pK (.slice (some ⟨jA.heap.size,0,none⟩) 1 1) 12 (Out jj pK) (jE pK (Out jj pK)) [df]:=amR jy DI ⟨by show jA.heap.size<_;omega,fun hh=>by
  rw[F9]at hh;rcases hh with hh |hh
  ·have hh:SK jA.heap.size:=hh;have:=lM.lt _ hh;omega
  ·have:=(DS _ hh).1;have hq:jA.drew.heap.size=jA.heap.size:=rfl;omega⟩ (acV (acT.up US acY o16) (DM.up US acY o16))
 (try simp only[go_sem,simprocAttr]);refine⟨rC.bO _ (by omega) Ψ,?_⟩;refine aL (by rfl) ?_;refine(RT ⟨[],[df]⟩ (B:=Out jj pK) (w:=pK) ⟨.slice none 0 0,_,rfl,eB _ _ _ _,anb⟩).mono ?_;rintro _ F' ⟨rfl,uS⟩;have anc:=uS.at ana Ψ;have z17:=uS.size;(try simp only[go_sem,simprocAttr]);refine⟨uS.bO _ (by omega) Ψ,?_⟩;refine eK (b:=A.pm) (off:=6) rfl rfl anc rfl (by simp) ?_;intro kr Oi H5 ane;obtain⟨sd,Ev⟩:∃sd,sd=Wr (m.size+Pg.size ⟨[],[df]⟩):=⟨_,rfl⟩;obtain⟨m3,Ak⟩:∃m3:Mk,m3 = { m with waits:=gq m.waits r.name,aj:=m.aj++[df],size:=sd}:=⟨_,rfl⟩;simp only[<- mQ];simp only[<- Ev];simp only[<- Ak];have Oi:N6 kr A m3.size vr vd (.slice I2 (m1.aj++[df]).length I3):=by
  rw[Ak];show N6 kr A sd vr vd _;rw[Ev,<- UL];exact Oi
 have JH:Mod (fun b=>fd=some b\/b=A.pm) dQ kr:=(US.trans (aq uS)).trans (H5.aU (fun b hb=>.inr hb));have z18:kr.heap.size=F'.heap.size:=ane
 have JI:Mod (KS A fr fd) dQ kr:=JH.aU (fun b hb=>by
  rcases hb with hb |hb
  ·exact .inr (.inr (.inr (.inr hb)))
  ·exact .inl hb)
 have acZ:∀{b},b=A.ma\/b=A.mw->¬(fd=some b\/b=A.pm):=fun hb hh=>by
  rcases hh with hh |hh
  .rcases hb with hb |hb
   .exact(h.wQ _ hh).2.1 hb
   .exact(h.wQ _ hh).2.2 hb
  .subst hh;rcases hb with hb |hb
   .obtain⟨_,⟨_,_,kG,_⟩,_⟩:=h.at_;have e1:w.heap[A.pm]?=_:=h.box;rw[<- hb,e1]at kG;cases kG
   .obtain⟨_,⟨_,_,kG,_⟩,_⟩:=h.waits;have e1:w.heap[A.pm]?=_:=h.box;rw[<- hb,e1]at kG;cases kG
 have UT:∀b,Out SK dQ b->¬KS A fr fd b:=fun b hb hh=>hb.2 (lM.aT b hh)
 have UU:∀b,Out SK dQ b->Out jj kr b:=fun b hb=>⟨by have:=hb.1;omega,fun hh=>hb.2 (JG b (by have:=hb.1;omega) hh)⟩
 have e3w:m3.waits=m1.waits:=by rw[Ak,DR]
 have e3a:m3.at_=m1.at_:=by rw[Ak,DR]
 have e3r:m3.row=m1.row:=by rw[Ak,DR]
 have e3d:m3.aj=m1.aj++[df]:=by rw[Ak,DR]
 have anf:fX kr jj A p D m3 fr f14 vr vd (.slice I2 (m1.aj++[df]).length I3):=by
  refine lM.set (S':=jj) JI Oi ?_ ?_ ?_ ?_ (fun b hb hh=>JG b (by omega) hh) Oh (fun b hb=>?_) (fun b hb=>⟨Oh b (lM.aT b (.inr (.inr (.inr (.inl hb))))),.inl hb⟩) (fun b hb=>⟨by rw[F9];exact .inr hb,?_⟩) (fun b hb hh=>?_)
  .rw[e3r]
   exact lM.row.ext (yi _) JH (fun b hb=>by
    rcases hb with hb |hb
    ·exact JF b hb
    ·exact hb ▸ lM.aT _ (.inl rfl)) (fun b hb hh=>by
    rcases hh with hh |hh
    ·exact(h.qH b hb).2.2.2 hh
    ·exact(h.qH b hb).1 hh) (fun b hb hh=>.inl (JG b (by omega) hh))
  .rw [e3d];have q:∀ b,f14=some b→b≠A.pm:=fun b hb hh=>by
    rcases(DS b hb).2 with h' |h'
    .exact(h.wQ b h').1 hh
    .omega
   have e1:=Dw.ext tn ki (fun b hb=>hb ▸ lM.aT _ (.inl rfl)) (fun b hb hh=>q b hb hh) (S':=jj) (fun b _ hh=>by rw[F9]at hh;exact hh);have e2:=(e1.no tn rC).no tn uS;exact e2.ext tn H5 (fun b hb=>hb ▸ Oh _ (lM.aT _ (.inl rfl))) (fun b hb hh=>q b hb hh) (S':=jj) (fun _ _ h=>.inl h)
  .rw[e3a];exact lM.at_.mod JH (acZ (.inl rfl)) (fun _ _ x=>x)
  .rw[e3w];exact lM.waits.mod JH (acZ (.inr rfl)) (fun v i x=>by obtain⟨cs,e,x⟩:=x;exact⟨cs,e,(jS _).up x JI UT UU⟩)
  .rw[F9]at hb;rcases hb with hb |hb
   .have:=lM.lt b hb;omega
   .have:=(DS b hb).1;omega
  .rcases(DS b hb).2 with hh |hh
   .exact .inl hh
   .exact .inr (by omega)
  .rcases(DS b hh).2 with h' |h'
   .exact(h.qH b hb).2.2.2 h'
   .have:=Ai b (.inr (.inr (.inr (.inl hb))));omega
 have Lz:Mod (KS A fr fd) w kr:=Bh.trans JI
 have ang:kr.heap[A'.tb]?=_:=JH.at tC (fun hh=>by
  rcases hh with hh |hh
  ·have:=Ai _ (.inr (.inr (.inr (.inr hh))));omega
  ·omega)
 have UW:aX kr acU 3 (Out jj kr) (fun r i=>wL A.ad kr (Out jj kr) r i) B.2.bR:=am4.up JI UT UU (fun r i x=>(jS _).up x JI UT UU);obtain⟨an,cn,rfl⟩:=bq UW;have arw:IntKind.i64.wrap (m1.size+Pg.size ⟨[],[df]⟩)=sd:=by rw[Ev,<- UL]
 have anh:kr.cell? ⟨A.pm,6,none⟩=some (I sd):=(cell_of Oi 6).trans (by rw[Ak];rfl);(try simp only[go_sem,simprocAttr,anh]);cases ac0:decide (sd>100000)with
 |true=>
  rw[if_pos (of_decide_eq_true ac0)];(try simp only[go_sem,simprocAttr]);exact Lz
 |false=>
 rw[if_neg (of_decide_eq_false ac0)];have ani:kr.cell? ⟨A'.tb,3,none⟩=some (.slice an B.2.bR.length cn):=(cell_of ang 3).trans rfl;(try simp only[go_sem,simprocAttr,ani]);have ac1:sC C.a8:=by rw[BJ];exact rW
 have F6:cj [d0.type]=d0.type.cN:=by rw[cj,cj];omega
 have a1:=NN ac1 [d0.type] (t:=⟨Wr (100000-m.size),[],[]⟩) (by rw[F6,qU];simp only;omega) (by rw[qU];simp only;omega) ⟨fun n i h=>(by cases h),fun x hx=>(by cases hx)⟩;have al:=a1.low;have ah:=a1.jU;simp only at al ah;rw[F6,qU]at al;rw[qU]at ah;have JJ:=(ab7 ac1 d0.body acQ nh (dj C [d0.type] ⟨Wr (100000-m.size),[],[]⟩).2 (by rw[qU];omega) (by rw[qU];omega) a1.inv).1.inv;rw[acO]at JJ;simp only at JJ;rw[<- hB]at JJ;have bg:=(List.getElem?_eq_some_iff.1 hr).1;have anj:yp p.aj m3 (i+1):=by
  rw[Ak];refine⟨hm.row.Jw,hm.row.yq,hm.row.ins,hm.row.len,Io hm.row.uq _,fun j r' lO pU=>?_⟩;simp only at pU ⊢;rw[MS hm.row.uq,if_neg (fun e=>?_)]
  .exact hm.row.waits j r' (by omega) pU
  .have k1:=hm.row.yq i r hr;have k2:=hm.row.yq j r' pU;rw[e,k2]at k1;cases k1;omega
 have gi:i+1<=m3.row.length:=by rw[Ak];exact bg
 have oP:∀b,b<w.heap.size->jj b->S b:=fun b hb hh=>by
  have q1:=yv.hs b (by omega) (kS b (JG b (by omega) hh));rw[BH]at q1;rcases q1 with q1 |q1
  .exact UM b (by omega) (UN b q1)
  .omega
 have ofS:∀b,S b->jj b:=fun b hb=>by
  have lb:=h.lt b hb;have q0:S9 b:=by rw[BH,qJ];exact .inl ⟨DG b hb,by omega⟩
  have q1:=yv.up b q0;refine Oh b ?_;rw[JE];exact⟨q1,fun hh=>by have:=acS b hh;omega⟩
 have Ed:∀b,f14=some b->fd=some b\/w.heap.size<=b:=fun b hb=>by
  rcases(DS b hb).2 with hh |hh
  .exact .inl hh
  .exact .inr (by omega)
 refine og (fun ρ w'=>∃mk S' gK kq,fX w' S' A p D mk gK f14 kq vd (.slice I2 (m1.aj++[df]).length I3)/\(∀b,b<kr.heap.size->S' b->jj b)/\(∀b,jj b->S' b)/\layAll p.aj B.2.bR m3=.ok mk/\Mod (KS A fr fd) w w'/\kr.heap.size<=w'.heap.size/\(∀b,gK=some b->fr=some b\/w.heap.size<=b)) ?_ ?_
 .refine j7 (PP:=fun w'=>fun r i=>wL A.ad w' (Out jj kr) r i) (l:=B.2.bR) (B:=Out jj kr) (fun k ρ w'=>k≤B.2.bR.length∧∃ mk S' gK kq,fX w' S' A p D mk gK f14 kq vd (.slice I2 (m1.aj++[df]).length I3)∧(∀ b,b < kr.heap.size→S' b→jj b)∧(∀ b,jj b→S' b)∧yp p.aj mk (i+1)∧i+1≤mk.row.length∧layAll p.aj B.2.bR m3=layAll p.aj (B.2.bR.drop k) mk∧Mod (KS A fr fd) w w'∧Mod jj kr w'∧(∀ b,gK=some b→fr=some b∨w.heap.size≤b)∧ρ=[(0,ptr A.pm),(109,.slice an B.2.bR.length cn),(110,I B.2.bR.length),(111,I k)])
   ⟨by omega,m3,jj,fr,vr,anf,fun _ _ h=>h,fun _ h=>h,anj,gi,rfl,Lz,.refl _ _,fun _ h=>.inl h,rfl⟩ UW ?_ (fun _ _ _ h=>(jS _).one h) rfl ?_ ?_
  .rintro k _ JK ⟨hk,mk,S',gK,kq,_,_,_,_,_,_,_,m19,_,rfl⟩;exact⟨⟨UW.up m19 aW (fun _ h=>h) (fun r i x=>(jS _).up x m19 aW (fun _ h=>h)),hk⟩,rfl,rfl,rfl⟩
  .rintro k _ JK hk JL rr b11 pv ⟨_,mk,S',gK,kq,JM,Am,JN,Oj,pZ,cK,JO,m19,Ga,rfl⟩ Ok arx hZ DT ahP;rw[Ω hk]at cK;have ac2:=JM.no DT;have Ol:=JO.trans (aq DT);have z19:=m19.size;cases hx:B.2.bR[k]with
   |none=>
    rw[hx]at Ok cK;cases Ok;rw[layAll]at cK;rw[cK];(try simp only[go_sem,simprocAttr,cell_of hZ,Value.cells,beq_self_eq_true]);exact Ol
   |some n=>
    rw[hx]at Ok cK;obtain⟨a',v',ea,rfl,nj,V0⟩:=Ok;rw[lQ]at ea;cases ea;rw[layAll]at cK;obtain⟨_,⟨dn,wT,Bb⟩,_⟩:=JJ.bR n (hx ▸ List.getElem_mem hk);have wT:p.aj[n.jR]?=some dn:=by rw[BJ]at wT;exact wT
    obtain⟨c1,c2⟩:=hC _ _ wT;(try simp only[go_sem,simprocAttr,cell_of hZ,Value.cells]);cases hz:(n.name.toList == (⟨#[]⟩:ByteArray).toList)with
    |true=>
     rw[EB]at hz;have HI:n.name.size=0:=by rw[of_decide_eq_true hz];rfl
     rw[if_pos HI]at cK;rw[cK];(try simp only[go_sem,simprocAttr]);exact Ol
    |false=>
     rw[EB]at hz;have HI:¬n.name.size=0:=fun e=>of_decide_eq_false hz (ByteArray.ext (Array.eq_empty_of_size_eq_zero e))
     rw[if_neg HI]at cK;(try simp only[go_sem,simprocAttr,cell_of hZ,Value.cells]);refine aL (by rfl) ?_;have ary:kr.heap.size<=JL.heap.size:=Nat.le_trans z19 DT.size;have ov:∀b,Out jj kr b->Out S' JL b:=fun b hb=>⟨by have:=hb.1;omega,fun hh=>hb.2 (Am b hb.1 hh)⟩
     have m0:=Mod.refl (fun _=>False) JL;refine(acy ac2 wT c1 lQ ((nj.up DT aA (fun _ h=>h) (fun _ _ x=>x.up DT aA (fun _ h=>h)):aX JL v' 3 (Out jj kr) (aR JL (Out jj kr)) n.types).up m0 aA ov (fun _ _ x=>x.up m0 aA ov)) (by omega) (fun q j hj=>by obtain⟨r1,h1,_⟩:=Oj.Jw q j hj;exact⟨r1,h1⟩) Oj.len).mono ?_;rintro q w21 ⟨m21,a7⟩
     have k21:Mod (KS A fr fd) w w21:=Ol.step m21 (fun b hb hl=>by
      rcases hb with hb |hb |hb |hb |hb
      ·exact .inl hb
      ·exact .inr (.inl hb)
      ·exact .inr (.inr (.inl hb))
      ·rcases Ga b hb with hh |hh
       ·exact .inr (.inr (.inr (.inl hh)))
       ·omega
      ·rcases Ed b hb with hh |hh
       ·exact .inr (.inr (.inr (.inr hh)))
       ·omega)
     cases hl:qB p.aj mk n.jR n.types with
     |error ee=>
      rw[hl]at a7 cK;simp only at a7 cK;subst a7;have he:=UI hl;rw[cK];(try simp only[go_sem,simprocAttr,show(ee != 0)=true by simpa using he]);exact k21
     |ok m4=>
      rw[hl]at a7 cK;simp only at a7 cK;obtain⟨rfl,S4,UX,UY,UZ,U0,C',zV⟩:=a7;obtain⟨y1,y2,_⟩:=Od hl Oj (by omega) ⟨⟨dn,wT,by omega⟩,(JJ.bR n (hx ▸ List.getElem_mem hk)).2.2⟩;obtain⟨j4,Hh⟩:=y1.row;have jv:IntKind.i64.wrap ((k:Int)+1)=((k+1:Nat):Int):=by rw[dJ (by omega) (by omega)];omega
      have z20:=DT.size;(try simp only[go_sem,simprocAttr]);refine⟨hk,m4,S4,UX,UY,UZ,fun b hb hh=>Am b hb (U0 b (by omega) hh),fun b hb=>C' b (JN b hb),y2,by rw[Hh,List.length_append];omega,cK,k21,?_,fun b hb=>?_⟩
      .exact(m19.trans (aq DT)).step m21 (fun b hb hl=>Am b hl (ac2.aT b hb))
      .rcases zV b hb with hh |hh
       .exact Ga b hh
       .exact .inr (by have:=Ol.size;omega)
  .rintro _ JK ⟨_,mk,S',gK,kq,JM,Am,JN,Oj,pZ,cK,JO,m19,Ga,rfl⟩;rw[List.drop_length,layAll]at cK;(try simp only[go_sem,simprocAttr]);exact⟨mk,S',gK,kq,JM,Am,JN,cK,JO,m19.size,Ga⟩
 rintro arz JK ⟨mk,S',gK,kq,JM,Am,JN,cK,JO,z19,Ga⟩;rw[cK];(try simp only[go_sem,simprocAttr]);exact⟨JO,S',gK,f14,kq,_,JM,fun b hb hh=>oP b hb (Am b (by omega) hh),fun b hb=>JN b (ofS b hb),Ga,Ed⟩
end
end
section
open Go Go.W
theorem ank(p:Pg)(D:List (ByteArray×Nat))(n i:Nat)(m:Mk):qC p D (n+1) i m=match m.row[i]? with
   |none=>some (.ok m)
   |some x=>match tA p D m x.name with
    |none=>none
    |some (.error e)=>some (.error e)
    |some (.ok m')=>qC p D n (i+1) m':=by rw[qC];rfl
theorem JP(w:World)(B:Nat->Prop):j0 w B [.slice none 0 0,.slice none 0 0] Dn:=⟨_,_,rfl,eB _ _ _ _,eB _ _ _ _⟩
set_option maxHeartbeats 2000000 in
theorem ac4(p:Pg){entry:ByteArray}{w:World}{cs:List Value}(h:j0 w (Out (fun _=>False) w) cs p)(hp:fe p=0→yr p (fR p.aj 0 []))(hC:∀ (d:Nat) df,p.aj[d]? = some df→df.name.size≤1048576∧df.params.length≤1048576)
   (bV:fe p=0->0<=Pg.size ⟨p.aK,[]⟩/\Pg.size ⟨p.aK,[]⟩<=100000) {e:Int} {q:Pg} (hm:Dp p entry=some (e,q)) :
   bu Tryz.prog 6 [.agg cs.toArray,.string entry] w fun r w'=>(∃fg:List Value,r=.tuple #[.agg fg.toArray,I e]/\j0 w' (Out (fun _=>False) w') fg q)/\Mod (fun _=>False) w w':=by
 have h':=h;obtain⟨vd,vf,rfl,hd,hf⟩:=h;obtain⟨da,dc,rfl⟩:=bq hd;obtain⟨fa,fc,rfl⟩:=bq hf;have iu:=dI hf;unfold Dp at hm;refine γ Tryz.f6 ?_;refine σ ?_;refine bZ rfl ?_;intro w1 au ak cw;refine σ ?_;refine cX ?_;intro w2 az ai bU;have au:=ai.at au Ψ;have kN:=ak.trans ai;simp only[go_sem,simprocAttr,aE (n:=2) (cs:=[.slice da p.aK.length dc,.slice fa p.aj.length fc]) au rfl];refine aL (by rfl) ?_;have Ii:∀{w':World},Mod (fun _=>False) w w'->∀b,Out (fun _=>False) w b->Out (fun _=>False) w' b:=fun hm b hb=>⟨Nat.lt_of_lt_of_le hb.1 hm.size,hb.2⟩
 refine(RY p (h'.up kN aA (Ii kN))).mono ?_;rintro _ w3 ⟨rfl,aw⟩;have rF:=kN.trans aw;have az:=aw.at az Ψ;have au:=aw.at au Ψ;refine σ ?_;cases bK:(fe p != 0)with
 |true=>
  have JQ:fe p≠0:=by simpa using bK
  rw[if_pos JQ]at hm;cases hm;refine σ ?_;refine bN (vs:=[.slice none 0 0,.slice none 0 0]) (cs:=[.slice none 0 0,.slice none 0 0]) rfl rfl az rfl rfl (aP rfl (aP rfl dq)) ?_;intro w4 bm aD dL;simp only[go_sem,simprocAttr,aM,RV.ev,aE (n:=2) bm rfl,aN];exact⟨⟨_,rfl,JP _ _⟩,rF.step aD (fun b hb hl=>by omega)⟩
 |false=>
 have JQ:fe p=0:=by simpa using bK
 rw[if_neg (by simpa using JQ)]at hm;have hp:=hp JQ;have bV:=bV JQ;refine σ ?_;refine pe (α:=Nat) (fun _ _=>False) ?_;intro w4 anl aD dL;refine σ ?_;refine pe RN ?_;intro w5 anm aH eY;refine σ ?_;refine pe (α:=iQ) (fun _ _=>False) ?_;intro w6 ann aG fw;refine σ ?_;refine bZ rfl ?_;intro w7 dh aO jn;have z4:w4.heap.size=w3.heap.size+1:=dL;have z5:w5.heap.size=w4.heap.size+1:=eY;have z6:w6.heap.size=w5.heap.size+1:=fw;have z7:w7.heap.size=w6.heap.size+1:=jn;have z3:=rF.size;have Om:Mod (fun _=>False) w3 w7:=((aD.trans aH).trans aG).trans aO;have sg:=Om.at au Ψ;have Ni:=Om.at az Ψ;have l1:=bP au;have l2:=bP az;have ano:bQ w7 w3.heap.size (Dr fa) []:=(anl.mod ((aH.trans aG).trans aO) (fun h=>h) (fun _ _ h=>h)).UK;have anp:bQ w7 w4.heap.size RN []:=anm.mod (aG.trans aO) (fun h=>h) (fun _ _ h=>h);have anq:∀{R:Value->iQ->Prop},bQ w7 w5.heap.size R []:=(ann.mod aO (fun h=>h) (fun _ _ h=>h)).UK;simp only[go_sem,simprocAttr,cell_of sg,Value.cells];refine og (fun ρ w'=>bQ w' w3.heap.size (Dr fa) (fR p.aj 0 [])/\Mod (· = w3.heap.size) w7 w'/\∃x1 x2 x3:Value,ρ=[(1,.string entry),(2,ptr w.heap.size),(4,ptr w1.heap.size),(7,ptr w6.heap.size),(28,x1),(29,x2),(30,x3)]) ?_ ?_
 .refine eW p.aj.length (fun k ρ w'=>k<=p.aj.length/\∃ds,bQ w' w3.heap.size (Dr fa) ds/\fR p.aj 0 []=fR (p.aj.drop k) k ds/\Mod (· = w3.heap.size) w7 w'/\ρ=[(1,.string entry),(2,ptr w.heap.size),(4,ptr w1.heap.size),(7,ptr w6.heap.size),(28,I p.aj.length),(29,I k)]) ⟨by omega,[],ano,rfl,.refl _ _,rfl⟩ iu ?_ ?_ (by decide) ?_
  .rintro k _ w8 ⟨hk,_,_,_,_,rfl⟩;exact⟨rfl,rfl,hk⟩
  .rintro k _ w8 ⟨_,ds,eT,cK,mu,rfl⟩ hk;rw[aaV hk]at cK;have tG:Mod (fun _=>False) w w8:=(rF.trans Om).step mu (fun b hb hl=>by omega);obtain⟨ad,c8,rr,e8,mQ,_,_,im⟩:=dT (hf.up tG aA (Ii tG) (fun _ _ x=>x.up tG aA (Ii tG))) hk;cases e8;obtain⟨vp,tc,bc,rfl,_⟩:=mQ;have c0:=im 0 (by simp);rw[add_zero']at c0;simp only[List.getElem_cons_zero]at c0;have b1:(0:Int)<=k/\(k:Int)<p.aj.length:=by omega
   have U1:=mu.at sg (by omega);have On:=mu.at dh (by show ¬w6.heap.size=w3.heap.size;omega);have jv:IntKind.i64.wrap ((k:Int)+1)=((k+1:Nat):Int):=by rw[dJ (by omega) (by omega)];omega
   simp only[go_sem,simprocAttr,bG,bH,cell_of U1,cell_of On,Value.cells,b1,c0,add_zero'];refine lW (kt:=9) (et:=70) (b:=w3.heap.size) (k:=p.aj[k].name) (v:=.pointer (some (ad.add (k*12)))) (a:=k) rfl rfl rfl rfl rfl (eT.mod (Mod.drew (.refl (fun _=>False) w8)) (fun h=>h) (fun _ _ h=>h)) ⟨ad,rfl,rfl⟩ ?_;intro w9 anr aQ gx;refine σ ?_;exact⟨hk,_,anr,cK,mu.trans aQ.dG⟩
  .rintro _ w8 ⟨_,ds,eT,cK,mu,rfl⟩;rw[List.drop_length,fR]at cK;rw[cK];refine σ ?_;exact⟨eT,mu,_,_,_,rfl⟩
 rintro _ w8 ⟨ac5,mu,_,_,_,rfl⟩;obtain⟨D,hD⟩:∃D,D=fR p.aj 0 []:=⟨_,rfl⟩;rw[<- hD]at ac5 hp hm;have tG:Mod (fun _=>False) w w8:=(rF.trans Om).step mu (fun b hb hl=>by omega);have On:=mu.at dh (by show ¬w6.heap.size=w3.heap.size;omega);have U1:=mu.at sg (by omega);have Nj:=mu.at Ni (by omega);have ans:=anp.mod mu (by omega) (fun _ _ h=>h);obtain⟨lvd,ac6,iw⟩:=ac5;simp only[go_sem,simprocAttr,cell_of On,Value.cells];refine G8 rfl rfl rfl rfl (Tryz.zeroValue70 _) ac6 ?_;rcases iw.get entry with⟨g1,g2⟩ |⟨vdp,d,g1,g2,ant⟩
 .rw[g2]at hm;cases hm;simp only[go_sem,simprocAttr,g1,Option.getD_none,Option.isSome_none];refine bN (vs:=[.slice none 0 0,.slice none 0 0]) (cs:=[.slice none 0 0,.slice none 0 0]) rfl rfl Nj rfl rfl (aP rfl (aP rfl dq)) ?_;intro w9 di aQ gx;simp only[go_sem,simprocAttr,aM,RV.ev,aE (n:=2) di rfl,aN];exact⟨⟨_,rfl,JP _ _⟩,tG.step aQ (fun b hb hl=>by omega)⟩
 rw[g2]at hm;simp only at hm;obtain⟨a,rfl,rfl⟩:=ant;obtain⟨df,mQ,arA⟩:=Og (hD ▸ g2);obtain⟨hC1,hC2⟩:=hC d df mQ;obtain⟨A,hA⟩:∃A:MA,A=⟨w6.heap.size,w3.heap.size,w4.heap.size,w5.heap.size,some a⟩:=⟨_,rfl⟩;have F8:A.pm=w6.heap.size:=by rw[hA]
 have ema:A.ma=w4.heap.size:=by rw[hA]
 have emw:A.mw=w5.heap.size:=by rw[hA]
 have emd:A.md=w3.heap.size:=by rw[hA]
 have Oo:A.ad=some a:=by rw[hA]
 obtain⟨S0,CS⟩:∃S0:Nat->Prop,S0=fun b=>KS A none none b\/b=w1.heap.size:=⟨_,rfl⟩
 have z78:=mu.size;have Oq:∀b,KS A none none b->w4.heap.size<=b/\b<=w6.heap.size:=fun b hb=>by
  rcases hb with hb |hb |hb |hb |hb
  .omega
  .omega
  .omega
  .cases hb
  .cases hb
 have z12:w1.heap.size=w.heap.size+1:=cw;have JR:∀b,S0 b->w.heap.size<=b/\b<=w6.heap.size:=fun b hb=>by
  rw[CS]at hb;rcases hb with hb |hb
  .have:=Oq b hb;omega
  .omega
 have Ot:∀{w':World},Mod (fun _=>False) w w'->∀b,Out (fun _=>False) w b->Out S0 w' b:=fun hm b hb=>⟨Nat.lt_of_lt_of_le hb.1 hm.size,fun hh=>by have:=(JR b hh).1;have:=hb.1;omega⟩
 simp only[go_sem,simprocAttr,g1,Option.getD_some,Option.isSome_some,cell_of U1,Value.cells];refine δ (by rfl) (amE (S:=S0) (hd.up tG aA (Ot tG) (fun _ _ x=>x.up tG aA (Ot tG))) (fun b hb=>by have:=(JR b hb).2;omega)) ?_;rintro vd9 w9 ⟨U2,aQ⟩;have od9:=j6 U2;obtain⟨yw,yx,rfl⟩:=bq U2;have anu:=aQ.at On Ψ;refine σ ?_;refine eK (b:=w6.heap.size) (off:=4) rfl rfl anu rfl (by simp[Value.cells]) ?_;intro cD eM bD ou;have z9:=aQ.size;have spm:S0 w6.heap.size:=by rw[CS];exact .inl (.inl F8.symm)
 have CB:∀b,Out S0 w9 b->¬b=w6.heap.size:=fun b hb hh=>hb.2 (hh ▸ spm)
 have I4:∀b,Out S0 w9 b->Out S0 cD b:=fun b hb=>⟨by have:=hb.1;omega,hb.2⟩
 have ac7:=U2.up bD CB I4 (fun _ _ x=>x.up bD CB I4);have eM:cD.heap[w6.heap.size]?=some (.cells [.map (some w3.heap.size),.slice none 0 0,.map (some w4.heap.size),.map (some w5.heap.size),.slice yw p.aK.length yx,.slice none 0 0,I 0].toArray 69 (0,0)):=eM;have anv:f' cD 2 (.pointer (some ⟨w6.heap.size,4,none⟩))=some (.agg [.slice yw p.aK.length yx,.slice none 0 0].toArray):=by
  rw[jm eM (by simp)];rfl
 simp only[go_sem,simprocAttr,anv];refine δ (by rfl) (RT ⟨p.aK,[]⟩ (B:=Out S0 cD) (w:=cD) ⟨_,_,rfl,ac7,eB _ _ _ _⟩) ?_;rintro _ eE ⟨rfl,cI⟩;have hZ:=cI.at eM Ψ;refine σ ?_;refine eK (b:=w6.heap.size) (off:=6) rfl rfl hZ rfl (by simp) ?_;intro dQ je ei AV;have TC:=cI.size;obtain⟨m0,kQ⟩:∃m0:Mk,m0=⟨[],[],[],[],Pg.size ⟨p.aK,[]⟩⟩:=⟨_,rfl⟩;have Aj:Mod (· = w6.heap.size) w8 dQ:=(((aq aQ).trans bD).trans (aq cI)).trans ei;have JS:Mod (fun _=>False) w dQ:=tG.step Aj (fun b hb hl=>by omega);have Lr:∀b,Out S0 cD b->¬b=w6.heap.size:=fun b hb hh=>hb.2 (hh ▸ spm)
 have Jo:∀b,Out S0 cD b->Out S0 dQ b:=fun b hb=>⟨by have:=hb.1;omega,hb.2⟩
 have ac8:Mod (· = w6.heap.size) cD dQ:=(aq cI).trans ei;have hD8:bQ w8 w3.heap.size (Dr (some a)) D:=⟨lvd,ac6,iw⟩;have anw:bQ dQ w3.heap.size (Dr (some a)) D:=hD8.mod Aj (by omega) (fun _ _ h=>h);have lM:fX dQ S0 A p D m0 none none (.slice none 0 0) (.slice yw p.aK.length yx) (.slice none 0 0):=by
  rw[kQ];refine⟨by rw[hA];exact je,wv,ac7.up ac8 Lr Jo (fun _ _ x=>x.up ac8 Lr Jo),wv,?_,?_,?_,?_,fun b hb=>by rw[CS];exact .inl hb,?_,fun b hb=>by have:=(JR b hb).2;omega,(fun b hb=>by cases hb),(fun b hb=>by cases hb),by omega⟩
  .rw[ema];exact ans.mod Aj (by omega) (fun _ _ h=>h)
  .rw[emw];exact anq.mod ((mu.aU (fun b hb=>.inl hb):Mod (fun b=>b=w3.heap.size\/b=w6.heap.size) w7 w8).trans (Aj.aU (fun b hb=>.inr hb))) (by omega) (fun _ _ h=>h)
  .rw[emd,Oo];exact anw
  .rw[Oo];exact⟨_,_,hf.up JS aA (Ot JS) (fun _ _ x=>x.up JS aA (Ot JS))⟩
  .intro hh;rw[CS]at hh;rcases hh with hh |hh
   .have:=(Oq _ hh).1;omega
   .omega
 obtain⟨vp,tc,bc,fJ,_,_,_,q1,_,_⟩:=lM.cells Oo mQ;obtain⟨pa,pc,rfl⟩:=bq fJ;have fI:=dI fJ;obtain⟨An,xd⟩:∃An:List Ty,An=List.replicate df.params.length Dm:=⟨_,rfl⟩;have anx:((p.aj[d]?.map Df.params).getD []).map (fun _=>Dm)=An:=by rw[mQ,xd];exact List.map_const' ..
 rw[anx,<- kQ]at hm;have lq:=np q1;simp only[go_sem,simprocAttr,q1];have anz:=Aj.at Nj (by omega);refine og (fun ρ w'=>(∃v fl,Gr S0 0 w' dH 3 v (fun w B r t=>aR w B r t) An fl/\(∀b,fl=some b->dQ.heap.size<=b)/\Mod (fun _=>False) dQ w'/\∃x1 x2 x3:Value,ρ=[(4,ptr w1.heap.size),(7,ptr w6.heap.size),(9,.pointer (some (a.add (d*12)))),(11,v),(78,x1),(79,x2),(80,x3)])) ?_ ?_
 .refine eW df.params.length (fun k ρ w'=>k<=df.params.length/\∃v fl,Gr S0 0 w' dH 3 v (fun w B r t=>aR w B r t) (List.replicate k Dm) fl/\(∀b,fl=some b->dQ.heap.size<=b)/\Mod (fun _=>False) dQ w'/\ρ=[(4,ptr w1.heap.size),(7,ptr w6.heap.size),(9,.pointer (some (a.add (d*12)))),(11,v),(78,I df.params.length),(79,I k)]) ⟨by omega,_,none,wv,(fun _ h=>by cases h),.refl _ _,rfl⟩ fI ?_ ?_ (by decide) ?_
  .rintro k _ iP ⟨hk,_,_,_,_,_,rfl⟩;exact⟨rfl,rfl,hk⟩
  .rintro k _ iP ⟨_,v,fl,hg,Ou,m13,rfl⟩ hk;refine σ ?_;refine ez (cs:=(fG 4 Tx).toArray) rfl (FW rfl rfl) ?_;intro su gD gj aaX;have Dw:=hg.no gV gj;have RU:=m13.size;refine σ ?_;refine ww (a:=Dm) gV rfl Dw rfl (by simp) (mD gD) (om _ _ 4 Tx) rfl (by rw[List.length_replicate];omega) (by rw[List.length_replicate];omega) (by omega) ?_;intro HZ jA f15 F0 ki NZ;have jv:IntKind.i64.wrap ((k:Int)+1)=((k+1:Nat):Int):=by rw[dJ (by omega) (by omega)];omega
   refine σ ?_;refine⟨hk,HZ,f15,by rw[List.replicate_succ'];exact F0,fun b hb=>?_,(m13.trans gj).step ki (fun b hb hl=>by have:=Ou b hb;omega),rfl⟩;rcases NZ b hb with h1 |⟨h1,_⟩
   .exact Ou b h1
   .omega
  .rintro _ iP ⟨_,v,fl,hg,Ou,m13,rfl⟩;rw[<- xd]at hg;refine σ ?_;exact⟨v,fl,hg,Ou,m13,_,_,_,rfl⟩
 rintro _ iP ⟨vu,fu,hgu,hfu,m13,_,_,_,rfl⟩;have anA:=lM.no m13;have hul:An.length<=1048576:=by rw[xd,List.length_replicate];exact hC2
 have anB:aX iP vu 3 (Out S0 iP) (aR iP (Out S0 iP)) An:=hgu.fin gV (fun _ h=>.inl h) (fun b hb hh=>by have:=hfu b hb;have:=(JR b hh).2;omega) (by omega);have aa':=m13.at anz Ψ;have anC:=JS.trans m13;rw[<- F8];refine eA (fun ρ w'=>∃m1 S' gK kq,qB p.aj m0 d An=.ok m1/\fX w' S' A p D m1 gK none kq (.slice yw p.aK.length yx) (.slice none 0 0)/\(∀b,S' b->w.heap.size<=b)/\S' w1.heap.size/\Mod (fun _=>False) w w'/\w'.heap[w1.heap.size]?=some (.cells [.slice none 0 0,.slice none 0 0].toArray 25 (0,0))/\(∀b,gK=some b->w4.heap.size<=b)/\ρ.get 4=some (ptr w1.heap.size)/\ρ.get 7=some (ptr A.pm)) ?_ ?_
 .refine σ ?_;refine δ (by rfl) (acy anA mQ hC1 Oo anB hul (fun n j hj=>by rw[kQ]at hj;cases hj) (by rw[kQ];show 0<=_;omega)) ?_;rintro r14 su ⟨m14,a7⟩;have Ov:Mod (fun _=>False) w su:=anC.step m14 (fun b hb hl=>by have:=(Oq b hb).1;omega);have Ow:=m14.at aa' (fun hh=>by have:=(Oq _ hh).1;omega);cases hl:qB p.aj m0 d An with
  |error ee=>
   rw[hl]at a7 hm;simp only at a7 hm;subst a7;cases hm;have he:=UI hl;simp only[go_sem,simprocAttr,show(e != 0)=true by simpa using he];refine bN (vs:=[.slice none 0 0,.slice none 0 0]) (cs:=[.slice none 0 0,.slice none 0 0]) rfl rfl Ow rfl rfl (aP rfl (aP rfl dq)) ?_;intro jA A0 ki Td;simp only[go_sem,simprocAttr,aM,RV.ev,aE (n:=2) A0 rfl,aN];exact⟨⟨_,rfl,JP _ _⟩,Ov.step ki (fun b hb hl=>by omega)⟩
  |ok m1=>
   rw[hl]at a7;simp only at a7;obtain⟨rfl,S4,UX,UY,UZ,U0,C',zV⟩:=a7;have RU:=m13.size;have Hn:∀b,S4 b->w.heap.size<=b:=fun b hb=>by
    rcases Nat.lt_or_ge b iP.heap.size with hl |hl
    .exact(JR b (U0 b hl hb)).1
    .omega
   refine σ ?_
   exact⟨m1,S4,UX,UY,rfl,UZ,Hn,C' _ (by rw[CS];exact .inr rfl),Ov,Ow,fun b hb=>by
    rcases zV b hb with hh |hh
    ·cases hh
    ·omega⟩
 rintro arB su ⟨m1,S1,fr1,vr1,ac9,U3,nA,anD,Ov,Ow,rP,r4,r7⟩;rw[ac9]at hm;simp only at hm;have UJ:yp p.aj m0 0:=by
  rw[kQ];exact⟨fun n j h=>(by cases h),fun j r h=>(by simp at h),fun r hr=>(by cases hr),(by simp),(by simp[Uq]),fun j r _ h=>(by simp at h)⟩
 have anE:∀u∈An,u.cN<=500:=fun u hu=>by
  rw[xd]at hu;rw[List.eq_of_mem_replicate hu]
  decide
 obtain⟨U4,l2',_⟩:=Od ac9 UJ (Nat.zero_le _) ⟨⟨df,mQ,by rw[xd,List.length_replicate]⟩,anE⟩;have hL:LI p D m1 0:=⟨l2',by rw[U4.aj,kQ];rfl,Nat.zero_le _,by rw[U4.size,kQ];exact bV,fun j r x _ h=>by rw[U4.aj,kQ]at h;simp at h⟩;obtain⟨LL,hLL⟩:∃LL,LL=qC p D 1001 0 m1:=⟨_,rfl⟩;rw[<- hLL]at hm;refine eA (fun ρ w'=>∃mk S' gK qI kq rA,LL=some (.ok mk)/\fX w' S' A p D mk gK qI kq (.slice yw p.aK.length yx) rA/\mk.aj.length<=1000/\Mod (fun _=>False) w w'/\w'.heap[w1.heap.size]?=some (.cells [.slice none 0 0,.slice none 0 0].toArray 25 (0,0))/\S' w1.heap.size/\(∀b,qI=some b->w4.heap.size<=b)/\ρ.get 4=some (ptr w1.heap.size)/\ρ.get 7=some (ptr A.pm)) ?_ ?_
 .simp only[go_sem,simprocAttr,r4,r7];refine io (fun z ρ w'=>∃i mk S' gK qI kq rA,z=1001-i/\LI p D mk i/\LL=qC p D (1001-i) i mk/\fX w' S' A p D mk gK qI kq (.slice yw p.aK.length yx) rA/\(∀b,S' b->w.heap.size<=b)/\S' w1.heap.size/\(∀b,gK=some b->w4.heap.size<=b)/\(∀b,qI=some b->w4.heap.size<=b)/\Mod (fun _=>False) w w'/\w'.heap[w1.heap.size]?=some (.cells [.slice none 0 0,.slice none 0 0].toArray 25 (0,0))/\w4.heap.size<=w'.heap.size/\ρ=[(4,ptr w1.heap.size),(7,ptr A.pm),(13,I i)]) 1001 ⟨0,m1,S1,fr1,none,vr1,_,rfl,hL,hLL,U3,nA,anD,rP,(fun _ h=>by cases h),Ov,Ow,?_,rfl⟩ ?_
  .have:=U3.lt A.pm (U3.aT _ (.inl rfl));omega
  rintro z _ jA ⟨i,mk,S',gK,qI,kq,rA,rfl,JT,cK,hK,hS',JU,ac',JV,Ox,Oy,arC,rfl⟩;obtain⟨ar,cr,rfl,_⟩:=hK.row.val;have Cc:=JT.le;have pZ:=JT.row.len;rw[show 1001-i=(1000-i)+1 by omega,ank]at cK;simp only[go_sem,simprocAttr,cell_of hK.box,Value.cells];by_cases hi:i<mk.row.length
  .have b1:decide ((i:Int)<mk.row.length)=true:=by simpa using hi
   have b2:(0:Int)<=i/\(i:Int)<mk.row.length:=by omega
   obtain⟨bn,cn,rr,er,fo,gi,Dy,eu,nT,_⟩:=hK.row.row (yi _) hi;cases er;obtain⟨a',v',ea,rfl,nj,_⟩:=Dy;have c2:=nT 2 (by simp);simp only[List.getElem_cons_zero,List.getElem_cons_succ]at c2;have Cu:mk.row[i]?=some mk.row[i]:=Ξ hi;rw[Cu]at cK;simp only at cK;simp only[go_sem,simprocAttr,bG,bH,b1,cell_of hK.box,Value.cells,b2,c2,decide_true];refine δ (by rfl) (amS hK hp JT Cu hC) ?_;rintro q16 pK ⟨m16,a7⟩;obtain⟨qq,hq1,hq2⟩:=acH hp JT Cu;rw[hq1]at a7 cK;have xP:Mod (fun _=>False) w pK:=Ox.step m16 (fun b hb hl=>by have:=hS' b (hK.aT b hb);omega)
   have JW:=m16.at Oy (fun hh=>by
    rcases hh with hh |hh |hh |hh |hh
    ·omega
    ·omega
    ·omega
    ·have:=ac' _ hh;omega
    ·have:=JV _ hh;omega)
   have z16:=m16.size;cases qq with
   |error ee=>
    simp only at a7 cK;subst a7;have he:=acK hq1;rw[cK]at hm;cases hm;simp only[go_sem,simprocAttr,show(e != 0)=true by simpa using he];refine bN (vs:=[.slice none 0 0,.slice none 0 0]) (cs:=[.slice none 0 0,.slice none 0 0]) rfl rfl JW rfl rfl (aP rfl (aP rfl dq)) ?_;intro F' sg uS DO;simp only[go_sem,simprocAttr,aM,RV.ev,aE (n:=2) sg rfl,aN];exact⟨⟨_,rfl,JP _ _⟩,xP.step uS (fun b hb hl=>by omega)⟩
   |ok mk2=>
    simp only at a7 cK;obtain⟨rfl,S2,fr2,fd2,vr2,vf2,hK2,Py,tx,ni,GD⟩:=a7;have hi1:IntKind.i64.wrap ((i:Int)+1)=((i+1:Nat):Int):=by rw[dJ (by omega) (by omega)];omega
    simp only[go_sem,simprocAttr,hi1];refine⟨_,by omega,i+1,mk2,S2,fr2,fd2,vr2,vf2,rfl,(hq2 mk2 rfl).1,by rw[cK,show 1001-(i+1)=1000-i by omega],hK2,fun b hb=>?_,tx _ JU,fun b hb=>?_,fun b hb=>?_,xP,JW,by omega,rfl⟩
    .rcases Nat.lt_or_ge b jA.heap.size with hl |hl
     .exact hS' b (Py b hl hb)
     .omega
    .rcases ni b hb with hh |hh
     .exact ac' b hh
     .omega
    .rcases GD b hb with hh |hh
     .exact JV b hh
     .omega
  .have b1:decide ((i:Int)<mk.row.length)=false:=by simpa using hi
   rw[List.getElem?_eq_none (by omega)]at cK;simp only[go_sem,simprocAttr,b1];exact⟨mk,S',gK,qI,_,rA,cK,hK,by rw[JT.len];omega,Ox,Oy,JU,JV⟩
 rintro arD jA ⟨mk,S',gK,qI,kq,rA,anF,hK,zT,Ox,Oy,JU,JV,r4,r7⟩;rw[anF]at hm;simp only at hm;have m0':=Mod.refl (fun _=>False) jA;have oF:∀b,Out S' jA b->Out (fun _=>False) jA b:=fun b hb=>⟨hb.1,fun h=>h⟩
 obtain⟨af,cf,rfl,_⟩:=hK.BI.val;have hP:j0 jA (Out (fun _=>False) jA) [.slice yw p.aK.length yx,.slice af mk.aj.length cf] ⟨p.aK,mk.aj⟩:=⟨_,_,rfl,hK.xN.up m0' aA oF (fun _ _ x=>x.up m0' aA oF),hK.BI.fin tn (fun _ h=>h.elim) (fun _ _ h=>h) (Nat.le_trans zT (by decide))⟩;have U5:f' jA 2 (.pointer (some ⟨A.pm,4,none⟩))=some (.agg [.slice yw p.aK.length yx,.slice af mk.aj.length cf].toArray):=by
  rw[jm hK.box (by simp)];rfl
 simp only[go_sem,simprocAttr,r4,r7,U5];refine δ (by rfl) (RY ⟨p.aK,mk.aj⟩ hP) ?_;rintro _ pK ⟨rfl,rC⟩;have JW:=rC.at Oy Ψ;have xP:=Ox.trans rC;have hbP:=rC.at hK.box Ψ;have U5:f' pK 2 (.pointer (some ⟨A.pm,4,none⟩))=some (.agg [.slice yw p.aK.length yx,.slice af mk.aj.length cf].toArray):=by
  rw[jm hbP (by simp)];rfl
 refine σ ?_;cases pr:(fe ⟨p.aK,mk.aj⟩ != 0)with
 |true=>
  have U6:fe ⟨p.aK,mk.aj⟩≠0:=by simpa using pr
  rw[if_pos U6]at hm;cases hm;refine σ ?_;refine bN (vs:=[.slice none 0 0,.slice none 0 0]) (cs:=[.slice none 0 0,.slice none 0 0]) rfl rfl JW rfl rfl (aP rfl (aP rfl dq)) ?_;intro F' sg uS DO;simp only[go_sem,simprocAttr,aM,RV.ev,aE (n:=2) sg rfl,aN];exact⟨⟨_,rfl,JP _ _⟩,xP.step uS (fun b hb hl=>by omega)⟩
 |false=>
  have U6:fe ⟨p.aK,mk.aj⟩=0:=by simpa using pr
  rw[if_neg (by simpa using U6)]at hm;cases hm;simp only[go_sem,simprocAttr,U5];refine bN (vs:=[.slice yw p.aK.length yx,.slice af mk.aj.length cf]) (cs:=[.slice none 0 0,.slice none 0 0]) rfl rfl JW rfl rfl (aP rfl (aP rfl dq)) ?_;intro F' sg uS DO;simp only[go_sem,simprocAttr,aM,RV.ev,aE (n:=2) sg rfl,aN];have m17:Mod (· = w1.heap.size) jA F':=(aq rC).trans uS;have nd:∀b,Out S' jA b->¬b=w1.heap.size:=fun b hb hh=>hb.2 (hh ▸ JU)
  have o17:∀b,Out S' jA b->Out (fun _=>False) F' b:=fun b hb=>⟨Nat.lt_of_lt_of_le hb.1 m17.size,fun h=>h⟩
  have anG:=(hK.BI.ext tn m17 (fun b hb=>hb ▸ JU) (fun b hb hh=>by have:=JV b hb;omega) (S':=fun _=>False) (fun _ _ h=>h.elim)).fin tn (S':=fun _=>False) (fun _ h=>h.elim) (fun _ _ h=>h) (Nat.le_trans zT (by decide));exact⟨⟨_,rfl,_,_,rfl,hK.xN.up m17 nd o17 (fun _ _ x=>x.up m17 nd o17),anG⟩,xP.step uS (fun b hb hl=>by omega)⟩
end
section
open Go Go.W
section
variable {P:Program} {N:Nat} {ops:Array Oper} {K:Go.W.Env->World->Prop} {dl:List Deferred} {Inv:(Nat->Bool)->Go.W.Env->World->Prop}
theorem anH(bg:∀ i o,ops[i]? = some o→∀ e∈o.after,Region.binds .any e=true→e.on < i)
   (mW:∀i o (L:Nat->Bool) ρ' w',ops[i]?=some o->L i=false->(∀e∈o.after,Region.binds .any e=true->L e.on=true)->Inv L ρ' w'->∃st,il P N ops [o]=some st/\wpS P st ρ' w' (fun eQ w2=>Inv (fun j=>decide (j=i)||L j) eQ w2))
   (oV:∀(L:Nat->Bool) ρ' w',(∀i,i<ops.size->L i=true)->Inv L ρ' w'->K ρ' w') :
   ∀(f:Nat) (listed:Array Bool) (ρ':Go.W.Env) (a:Act) (w':World),listed.size=ops.size->listed.toList.count false<=f->Go.W.Good dl N ρ' a->Inv (fun i=>listed.getD i false) ρ' w'->oN P ops (fun _ _=>False) (tO dl N K) f listed a w':=by
 have all:∀(listed:Array Bool),listed.size=ops.size->Region.ready .any ops listed=[]->∀i,i<ops.size->listed.getD i false=true:=by
  intro listed bV hr i
  induction i using Nat.strongRecOn with
  |_ i ih=>
   intro hi;cases hl:listed.getD i false with
   |true=>rfl
   |false=>
    exfalso;have eO:i∈Region.ready .any ops listed:=by
     rw[mem_ready];have dZ:i<listed.size:=by omega
     refine⟨by simpa[dZ]using hl,ops[i],by simp[hi],fun e he hb=>?_⟩;have:=bg i _ (by simp[hi]) e he hb;exact ih _ this (by omega)
    rw[hr]at eO;cases eO
 intro f
 induction f with
 |zero=>
  intro listed ρ' a w' bV HW hg hI;have hr:Region.ready .any ops listed=[]:=by
   refine List.eq_nil_iff_forall_not_mem.2 fun i hi=>?_
   obtain⟨h0,o,ho,_⟩:=mem_ready.1 hi;have dZ:i<listed.size:=by have:=(Array.getElem?_eq_some_iff.1 ho).1;omega
   have:false∈listed.toList:=by
    have h1:listed[i]=false:=by simpa[dZ]using h0
    rw[<- h1];exact Array.getElem_mem_toList dZ
   have:=List.count_pos_iff.2 this;omega
  exact⟨hr,ρ',hg,oV _ ρ' w' (all listed bV hr) hI⟩
 |succ f ih=>
  intro listed ρ' a w' bV HW hg hI;refine⟨fun hr=>⟨ρ',hg,oV _ ρ' w' (all listed bV hr) hI⟩,fun i hi=>?_⟩;obtain⟨h0,o,ho,ff⟩:=mem_ready.1 hi;have hio:i<ops.size:=(Array.getElem?_eq_some_iff.1 ho).1;have dZ:i<listed.size:=by omega
  have hf:listed.getD i false=false:=by
   have h1:listed[i]=false:=by simpa[dZ]using h0
   simp[dZ,h1]
  obtain⟨st,eH,lP⟩:=mW i o (fun i=>listed.getD i false) ρ' w' ho hf ff hI;have nK:=Eh (G:=fun a2 w2=>∃eQ,Go.W.Good dl N eQ a2/\Inv (fun j=>decide (j=i)||listed.getD j false) eQ w2) [o] st ρ' a w' _ eH lP hg
   (fun eQ a2 w2 iF e=>⟨eQ,iF,e⟩)
  have next:∀a2 w2,(∃eQ,Go.W.Good dl N eQ a2/\Inv (fun j=>decide (j=i)||listed.getD j false) eQ w2)->(fun a' eI=>Go.W.Kept ((fun _ _=>False:Nat->Nat->Prop) i) w' eI/\oN P ops (fun _ _=>False) (tO dl N K) f (listed.setIfInBounds i true) a' eI) a2 w2:=by
   rintro a2 w2 ⟨eQ,iF,hI2⟩;refine⟨fun b hb=>hb.elim,ih _ _ a2 w2 (by simp[bV]) ?_ iF ?_⟩
   .have h1:listed.toList[i]'(by simpa using dZ)=false:=by simpa[dZ]using h0
    have bT:=List.count_set (a:=true) (b:=false) (l:=listed.toList) (i:=i) (by simpa using dZ);rw[h1]at bT;simp only[Array.toList_setIfInBounds];rw[bT,if_pos (show(false == false)=true from rfl),if_neg (show ¬(true == false)=true by decide)];omega
   .have e:(fun j=>(listed.setIfInBounds i true).getD j false)=fun j=>decide (j=i)||listed.getD j false:=by
     funext j
     by_cases lO:j=i
     .subst lO;simp[dZ]
     .rw[getD_set_ne false (Ne.symm lO)];simp[lO]
    rw[e];exact hI2
  refine⟨o,ho,?_⟩;unfold mA at nK
  split
  .rename_i hw;rw[if_pos hw]at nK;exact Oper.wp_mono (fun a2 w2 kG=>next a2 w2 kG) nK
  .rename_i hw;rw[if_neg hw]at nK;exact next _ _ nK
theorem anI{id:Nat}{Q:Post}{ρ:Go.W.Env}{w:World}{n:Nat}{deps:List (List Nat)}{qn:List Go.W.S}(Inv:(Nat→Bool)→Go.W.Env→World→Prop)(hm:P.follows .mixedOrders=true)
   (HX:ops.toList.map waits=deps) (bg:(deps.zipIdx.all fun x=>x.1.all fun j=>decide (j<x.2))=true) (eH:il P N ops ops.toList=some qn) (hn:ops.size=n)
   (h0:Inv (fun _=>false) ρ w.drew)
   (mW:∀i s (L:Nat->Bool) ρ' w',qn[i]?=some s->L i=false->(∀j∈deps.getD i [],L j=true)->Inv L ρ' w'->wpS P [s] ρ' w' (fun eQ w2=>Inv (fun j=>decide (j=i)||L j) eQ w2))
   (oV:∀(L:Nat->Bool) ρ' w',(∀i,i<n->L i=true)->Inv L ρ' w'->Q .normal ρ' w') :
   dD P N (.raw (.region id ops true)) Q ρ w:=by
 have dep:∀(i:Nat) (o:Oper),ops[i]?=some o->deps.getD i []=waits o:=by
  intro i o ho;rw[<- HX];simp[List.getD,ho]
 have mem:∀(o:Oper) (e:Edge),e∈o.after->Region.binds .any e=true->e.on∈waits o:=by
  intro o e he hb;unfold waits;exact List.mem_map_of_mem (List.mem_filter.2 ⟨Array.mem_toList_iff.2 he,hb⟩)
 intro dl a hg;refine wp_region_any hm (Pu (B:=fun _ _=>False) (Q:=tO dl N (fun ρ' w'=>Q .normal ρ' w')) (fun a' w' ⟨ρ',h1,h2⟩=>⟨ρ',h1,h2⟩) _ _ _ _ ?_);refine anH (Inv:=Inv) ?_ ?_ (fun L ρ' w' hL hI=>oV L ρ' w' (by rw[<- hn];exact hL) hI) _ _ ρ a _ (by simp) ?_ hg ?_
 .intro i o ho e he hb;have h1:e.on∈deps.getD i []:=by rw[dep i o ho];exact mem o e he hb
  have hi:i<deps.length:=by
   rcases Nat.lt_or_ge i deps.length with h |h
   .exact h
   .simp[List.getD,List.getElem?_eq_none h]at h1
  rw[List.all_eq_true]at bg;have h2:(deps[i],i)∈deps.zipIdx:=by
   rw[List.mem_zipIdx_iff_getElem?];exact Ξ hi
  have h3:=bg _ h2;rw[List.all_eq_true]at h3;have h4:deps.getD i []=deps[i]:=by simp[List.getD,Ξ hi]
  rw[h4]at h1
  simpa using h3 _ h1
 .intro i o L ρ' w' ho hL hb hI;obtain⟨s,hs,hr⟩:=Rw (ops:=ops) ops.toList qn i o eH (by simpa using ho);refine⟨_,hr,mW i s L ρ' w' hs hL (fun j hj=>?_) hI⟩;rw[dep i o ho]at hj;unfold waits at hj;obtain⟨e,he,rfl⟩:=List.mem_map.1 hj;obtain⟨Ay,xi⟩:=List.mem_filter.1 he;exact hb e (Array.mem_toList_iff.1 Ay) xi
 .exact Nat.le_trans List.count_le_length (by simp)
 .have e:(fun i=>(Array.replicate ops.size false).getD i false)=fun _=>false:=by
   funext i
   rcases Nat.lt_or_ge i ops.size with h |h
   .simp[h]
   .simp[h]
  rw[e];exact h0
end
end
section
open Go Go.W
noncomputable def JX:Array Oper:=((Tryz.f12.body.bind (A3 4)).getD #[])
def ade:List (List Nat):=[[],[],[],[1,2],[],[4],[5],[],[7],[6,8],[0,3,9],[],[11,10,3,0,1,2,3,4,5,6,7,8,9,10,11]]
def Oz:List Nat:=[11,12,13,14,15,16,17,18,19,20,21,4]
abbrev OB:Array Value:=#[.int .i64 0,.string ⟨#[]⟩,.int .i64 0,.slice none 0 0,.slice none 0 0,.slice none 0 0,.slice none 0 0]
abbrev U7:Array Value:=#[.string ⟨#[]⟩,.int .i64 0,.string ⟨#[]⟩,.slice none 0 0,.int .i64 0,.string ⟨#[]⟩,.int .i64 0,.slice none 0 0,.slice none 0 0,.slice none 0 0,.slice none 0 0]
abbrev DU:List Value:=[.string ⟨#[]⟩,.slice none 0 0,I 0,.string ⟨#[]⟩,.slice none 0 0,I 0,.string ⟨#[]⟩,I 0,.slice none 0 0,.slice none 0 0,.slice none 0 0,.slice none 0 0]
def anJ:List Go.W.S:=[.e (some 11) (.bs 9 1 #[.string ⟨#[]⟩] [(0,1,.c (.string ⟨#[97]⟩))]),.r (some 12) (.ln 3 (.t 1)),.r (some 13) (.ln 3 (.t 1)),.e (some 14) (.call 27 [.t 12,.t 13]),.r (some 15) (.ln 3 (.t 1)),
 .r (some 16) (.bd U7 [(0,1,.c (.string ⟨#[120]⟩)),(1,3,.t 15)]),.e (some 17) (.bs 108 1 U7 [(0,11,.t 16)]),.r (some 18) (.bd OB [(0,1,.c (.int .i64 1)),(1,1,.c (.string ⟨#[120]⟩))]),.e (some 19) (.bs 57 1 OB [(0,7,.t 18)]),
 .r (some 20) (.bd OB [(0,1,.c (.int .i64 6)),(5,1,.t 17),(4,1,.t 19)]),.r (some 21) (.bd DU.toArray [(0,1,.c (.string ⟨#[105,100]⟩)),(1,1,.t 11),(2,3,.t 14),(5,7,.t 20)]),
 .e (some 4) (.al 59 (.agg DU.toArray)),.e none (.st 12 (.t 4) (.t 21))]
theorem anK:JX.toList.map waits=ade:=by kernel_rfl
theorem anL:il Tryz.prog 44 JX JX.toList=some anJ:=by kernel_rfl
theorem anM:JX.size=13:=by kernel_rfl
theorem anN(s:ByteArray){w:World}:bu Tryz.prog 25 [.string s] w fun r w'=>r=.agg (fG 2 s).toArray/\Mod (fun _=>False) w w':=by
 refine γ Tryz.f25 ?_;refine σ ?_;refine cX ?_;intro w1 au ak cw;refine σ ?_;refine bN (vs:=fG 2 s) (cs:=cS) rfl rfl au rfl rfl (oo _ _) ?_;intro w2 az ai bU;simp only[go_sem,simprocAttr,aM,RV.ev,aE (n:=3) az rfl,aN];exact ak.step ai (fun x hx hl=>by omega)
theorem anO(s:ByteArray){v:Value}(hv:v.oneCell'=true)(AJ:One v){w:World}:bu Tryz.prog 26 [.string s,v] w fun r w'=>r=.agg [I 4,.string s,v].toArray/\Mod (fun _=>False) w w':=by
 refine γ Tryz.f26 ?_;refine σ ?_;refine cX ?_;intro w1 au ak cw;simp only[go_sem,simprocAttr,eq_true AJ];refine bN (vs:=[I 4,.string s,v]) (cs:=cS) rfl rfl au rfl rfl (aP rfl (aP rfl (aP hv dq))) ?_;intro w2 az ai bU;simp only[go_sem,simprocAttr,aM,RV.ev,aE (n:=3) az rfl,aN];exact ak.step ai (fun x hx hl=>by omega)
end
section
open Go Go.W
theorem BK{w:World}{B:Nat→Prop}{k m:Int}{n:ByteArray}{types:List Ty}{args:List Ex}{binds:List Bd}{alts:List Al}{vt va vb vl:Value}(ht:aX w vt 3 B (aR w B) types)(ha:aX w va 7 B (ci w B) args)(hb:aX w vb 11 B (eh w B) binds)(hl:aX w vl 11 B (jc w B) alts)(hc:EE vl) :
   ci w B [I k,.string n,I m,vt,va,vb,vl] (.mk k n m types args binds alts):=by
 obtain⟨rt,rM,xg,uo⟩:=ht;obtain⟨ra,C2,vP,AR⟩:=ha;obtain⟨rb,au,az,aS⟩:=hb;obtain⟨rl,oh,gX,cG⟩:=hl;refine .mk rM xg uo C2 vP AR au az (fun i r b h1 h2=>?_) (fun i r b h1 h2=>?_) oh gX (fun i r a h1 h2=>?_) (fun i r a h1 h2=>?_) hc
 .obtain⟨tc,ec,rfl,h3,h4,h5⟩:=aS i r b h1 h2;have l3:=h3.len;have l7:=h4.len;refine⟨⟨by simp[l3,l7],h5⟩,rfl,?_⟩;simp only[List.drop_succ_cons,List.drop_zero];rw[List.take_append_of_le_length (by omega),List.take_of_length_le (by omega)];exact h3
 .obtain⟨tc,ec,rfl,h3,h4,h5⟩:=aS i r b h1 h2;have l3:=h3.len;simp only[List.drop_succ_cons];rw[List.drop_append_of_le_length (by omega),List.drop_of_length_le (by omega),List.nil_append];exact h4
 .obtain⟨vv,ec,rfl,h3,h4⟩:=cG i r a h1 h2;exact⟨vv,rfl,by simp[h4.len],h3⟩
 .obtain⟨vv,ec,rfl,h3,h4⟩:=cG i r a h1 h2;exact h4
def Ao(w:World)(B:Nat->Prop)(oc:List Value):Option Rn->Prop
 |none=>oc=eF 0 0 0 (.slice none 0 0)
 |some m=>∃v,oc=eF m.kind m.stuck m.steps v/\ML w B v m.told
theorem tH{k s n:Int}{v:Value}(h:v.oneCell'=true):∀u∈eF k s n v,u.oneCell'=true:=aP rfl (aP h (aP rfl (aP rfl (aP rfl (aP rfl (aP rfl (aP rfl dq)))))))
theorem adg(p:Pg){N:Nat}{name:ByteArray}{input:List Int}{fuel:Int}{v:Value}{w:World}{cs:List Value}{dx:Int×Option Rn}(h:j0 w (Out (fun _=>False) w) cs p)(hi:yQ w v input)(a7:yc p N name input fuel=some dx) :
   bu Tryz.prog 7 [.agg cs.toArray,.string name,v,I fuel] w fun r w'=>(∃oc,r=.tuple #[.agg oc.toArray,I dx.1]/\Ao w' (fun b=>w.heap.size<=b/\b<w'.heap.size) oc dx.2)/\Mod (fun _=>False) w w':=by
 have h0:=h;have UH:=hi;obtain⟨vd,vf,rfl,hd,hf⟩:=h;obtain⟨av,cv,rfl,hle,Te⟩:=hi;have hX:yc p N name input fuel=if 10000<input.length then some (2,none)
  else if Bw input=true then some (1,none)
  else if fuel<0\/fuel>1048576 then some (1,none)
  else if fe p≠0 then some (fe p,none)
  else match FF p N name with
  |none=>none
  |some (_,false)=>some (100,none)
  |some (gz,true)=>(runM p fuel name gz input).map (fun m=>(0,some m)):=rfl
 rw[hX]at a7;refine γ Tryz.f7 ?_;refine eA (fun ρ w2=>∃b4 b8,w.heap.size<=b4/\b4<b8/\w2.heap[b4]?=some (.cells [vd,vf].toArray 25 (0,0))/\w2.heap[b8]?=some (.cells (eF 0 0 0 (.slice none 0 0)).toArray 37 (0,0))/\Mod (fun _=>False) w w2/\ρ=[(1,.string name),(2,.slice av input.length cv),(3,I fuel),(4,ptr b4),(8,ptr b8)]) ?_ ?_
 .refine σ ?_;refine bZ rfl ?_;intro w1 au ak cw;refine σ ?_;refine cX ?_;intro w2 az ai bU;have z1:w1.heap.size=w.heap.size+1:=cw;refine σ ?_;exact⟨w.heap.size,w1.heap.size,Nat.le_refl _,by omega,ai.at au Ψ,az,ak.trans ai,rfl⟩
 rintro _ w2 ⟨b4,b8,l4,l8,bm,dW,kN,rfl⟩;by_cases c1:10000<input.length
 .rw[if_pos c1]at a7;cases a7;have b1:decide ((input.length:Int)>10000)=true:=decide_eq_true (by omega);simp only[go_sem,simprocAttr,b1];refine bN (vs:=eF 0 0 0 (.slice none 0 0)) (cs:=eF 0 0 0 (.slice none 0 0)) rfl rfl dW rfl rfl (tH rfl) ?_;intro w9 di aQ gx;simp only[go_sem,simprocAttr,aM,RV.ev,aE (n:=8) (cs:=eF 0 0 0 (.slice none 0 0)) di rfl,aN];exact⟨⟨_,rfl,rfl⟩,(kN).step aQ (fun b hb hl=>by have e:b=b8:=hb;omega)⟩
 rw[if_neg c1]at a7;have b1:decide ((input.length:Int)>10000)=false:=decide_eq_false (by omega);refine eA (fun ρ w'=>w2=w'/\ρ.get 1=some (.string name)/\ρ.get 2=some (.slice av input.length cv)/\ρ.get 3=some (I fuel)/\ρ.get 4=some (ptr b4)/\ρ.get 8=some (ptr b8)) ?_ ?_
 .simp only[go_sem,simprocAttr,b1]
 rintro ρ _ ⟨rfl,g1,g2,g3,g4,g8⟩;refine eA (fun ρ w'=>Bw input=false/\w2=w'/\ρ.get 1=some (.string name)/\ρ.get 2=some (.slice av input.length cv)/\ρ.get 3=some (I fuel)/\ρ.get 4=some (ptr b4)/\ρ.get 8=some (ptr b8)) ?_ ?_
 .simp only[go_sem,simprocAttr,g1,g2,g3,g4,g8];refine io (fun z ρ w'=>∃i:Nat,z=input.length-i/\i<=input.length/\Bw input=Bw (input.drop i)/\w2=w'/\ρ.get 1=some (.string name)/\ρ.get 2=some (.slice av input.length cv)/\ρ.get 3=some (I fuel)/\ρ.get 4=some (ptr b4)/\ρ.get 8=some (ptr b8)/\ρ.get 21=some (.slice av input.length cv)/\ρ.get 22=some (I input.length)/\ρ.get 23=some (I i)) input.length ⟨0,by omega,by omega,rfl,rfl,rfl,rfl,rfl,rfl,rfl,rfl,rfl,rfl⟩ ?_;rintro z ρ _ ⟨i,rfl,Cc,nB,rfl,g1,g2,g3,g4,g8,g21,g22,g23⟩;by_cases q:i<input.length
  .have b2:decide ((i:Int)<input.length)=true:=by simpa using q
   have p1:(0:Int)<=i/\(i:Int)<input.length:=by omega
   have e3:IntKind.i64.wrap ((i:Int)+1)=((i+1:Nat):Int):=by rw[dJ (by omega) (by omega)];omega
   obtain⟨ad,rfl,hc⟩:=Te i q;have gv:=kN.cell hc Ψ;have AS:Bw (input.drop i)=((decide (input[i] < -4611686018427387904)||decide (input[i]>4611686018427387903))||Bw (input.drop (i+1))):=ZJ q;rw[AS]at nB;cases q1:decide (input[i] < -4611686018427387904)with
   |true=>
    rw[q1,Bool.true_or,Bool.true_or]at nB;rw[if_pos nB]at a7;cases a7;simp only[go_sem,simprocAttr,g1,g2,g3,g4,g8,g21,g22,g23,b2];simp only[go_sem,simprocAttr,bG,bH,p1,gv,q1];refine bN (vs:=eF 0 0 0 (.slice none 0 0)) (cs:=eF 0 0 0 (.slice none 0 0)) rfl rfl dW rfl rfl (tH rfl) ?_;intro w9 di aQ gx;simp only[go_sem,simprocAttr,aM,RV.ev,aE (n:=8) (cs:=eF 0 0 0 (.slice none 0 0)) di rfl,aN];exact⟨⟨_,rfl,rfl⟩,(kN).step aQ (fun b hb hl=>by have e:b=b8:=hb;omega)⟩
   |false=>
    rw[q1,Bool.false_or]at nB;cases q2:decide (input[i]>4611686018427387903)with
    |true=>
     rw[q2,Bool.true_or]at nB;rw[if_pos nB]at a7;cases a7;simp only[go_sem,simprocAttr,g1,g2,g3,g4,g8,g21,g22,g23,b2];simp only[go_sem,simprocAttr,bG,bH,p1,gv,q1,q2];refine bN (vs:=eF 0 0 0 (.slice none 0 0)) (cs:=eF 0 0 0 (.slice none 0 0)) rfl rfl dW rfl rfl (tH rfl) ?_;intro w9 di aQ gx;simp only[go_sem,simprocAttr,aM,RV.ev,aE (n:=8) (cs:=eF 0 0 0 (.slice none 0 0)) di rfl,aN];exact⟨⟨_,rfl,rfl⟩,(kN).step aQ (fun b hb hl=>by have e:b=b8:=hb;omega)⟩
    |false=>
     rw[q2,Bool.false_or]at nB;simp only[go_sem,simprocAttr,g1,g2,g3,g4,g8,g21,g22,g23,b2];simp only[go_sem,simprocAttr,bG,bH,p1,gv,q1,q2,e3];exact⟨_,by omega,i+1,rfl,q,nB,rfl⟩
  .have b2:decide ((i:Int)<input.length)=false:=by simpa using q
   rw[List.drop_eq_nil_of_le (by omega)]at nB;simp only[go_sem,simprocAttr,g1,g2,g3,g4,g8,g21,g22,g23,b2];exact nB
 rintro ρ _ ⟨nB,rfl,g1,g2,g3,g4,g8⟩;rw[if_neg (by rw[nB];simp)]at a7;refine eA (fun ρ w'=>(0<=fuel/\fuel<=1048576)/\w2=w'/\ρ.get 1=some (.string name)/\ρ.get 2=some (.slice av input.length cv)/\ρ.get 3=some (I fuel)/\ρ.get 4=some (ptr b4)/\ρ.get 8=some (ptr b8)) ?_ ?_
 .cases q1:decide (fuel<0)with
  |true=>
   have HO:fuel<0:=by simpa using q1
   rw[if_pos (.inl HO)]at a7;cases a7;simp only[go_sem,simprocAttr,g1,g2,g3,g4,g8,q1];refine bN (vs:=eF 0 0 0 (.slice none 0 0)) (cs:=eF 0 0 0 (.slice none 0 0)) rfl rfl dW rfl rfl (tH rfl) ?_;intro w9 di aQ gx;simp only[go_sem,simprocAttr,aM,RV.ev,aE (n:=8) (cs:=eF 0 0 0 (.slice none 0 0)) di rfl,aN];exact⟨⟨_,rfl,rfl⟩,(kN).step aQ (fun b hb hl=>by have e:b=b8:=hb;omega)⟩
  |false=>
   have HO:¬fuel<0:=by simpa using q1
   cases q2:decide (fuel>1048576)with
   |true=>
    have LM:fuel>1048576:=by simpa using q2
    rw[if_pos (.inr LM)]at a7;cases a7;simp only[go_sem,simprocAttr,g1,g2,g3,g4,g8,q1,q2];refine bN (vs:=eF 0 0 0 (.slice none 0 0)) (cs:=eF 0 0 0 (.slice none 0 0)) rfl rfl dW rfl rfl (tH rfl) ?_;intro w9 di aQ gx;simp only[go_sem,simprocAttr,aM,RV.ev,aE (n:=8) (cs:=eF 0 0 0 (.slice none 0 0)) di rfl,aN];exact⟨⟨_,rfl,rfl⟩,(kN).step aQ (fun b hb hl=>by have e:b=b8:=hb;omega)⟩
   |false=>
    have LM:¬fuel>1048576:=by simpa using q2
    simp only[go_sem,simprocAttr,g1,g2,g3,g4,g8,q1,q2];exact⟨by omega,by omega⟩
 rintro ρ _ ⟨adh,rfl,g1,g2,g3,g4,g8⟩;rw[if_neg (by omega)]at a7;have ga:∀{w':World},Mod (fun _=>False) w w'->∀b,Out (fun _=>False) w b->Out (fun _=>False) w' b:=fun hm b hb=>⟨Nat.lt_of_lt_of_le hb.1 hm.size,hb.2⟩
 refine eA (fun ρ w'=>fe p=0/\Mod (fun _=>False) w2 w'/\ρ=[(1,.string name),(2,.slice av input.length cv),(3,I fuel),(4,ptr b4),(8,ptr b8),(12,I 0),(45,.bool false)]) ?_ ?_
 .simp only[go_sem,simprocAttr,g1,g2,g3,g4,g8,aE (n:=2) (cs:=[vd,vf]) bm rfl];refine δ (by rfl) (RY p (h0.up kN aA (ga kN))) ?_;rintro _ w3 ⟨rfl,aw⟩;have rF:=kN.trans aw;by_cases hc:fe p=0
  .simp only[go_sem,simprocAttr,hc,Int.reduceBNe];exact aw
  .have b2:(fe p != 0)=true:=by simpa using hc
   rw[if_pos hc]at a7;cases a7;simp only[go_sem,simprocAttr,b2];refine bN (vs:=eF 0 0 0 (.slice none 0 0)) (cs:=eF 0 0 0 (.slice none 0 0)) rfl rfl (aw.at dW Ψ) rfl rfl (tH rfl) ?_;intro w9 di aQ gx;simp only[go_sem,simprocAttr,aM,RV.ev,aE (n:=8) (cs:=eF 0 0 0 (.slice none 0 0)) di rfl,aN];exact⟨⟨_,rfl,rfl⟩,(rF).step aQ (fun b hb hl=>by have e:b=b8:=hb;omega)⟩
 rintro _ w3 ⟨bK,aw,rfl⟩;rw[if_neg (by simpa using bK)]at a7;have rF:=kN.trans aw;have Dg:=aw.at bm Ψ;have anP:=aw.at dW Ψ;cases JY:FF p N name with
 |none=>rw[JY]at a7;cases a7
 |some ee=>
 rw[JY]at a7;simp only[go_sem,simprocAttr,aE (n:=2) (cs:=[vd,vf]) Dg rfl];refine δ (by rfl) (ala p (h0.up rF aA (ga rF)) (ali bK) JY) ?_;rintro _ w4 ⟨rfl,aD⟩;have pM:=rF.trans aD;have aa6:=aD.at Dg Ψ;have U8:=aD.at anP Ψ;obtain⟨gz,ok⟩:=ee;cases ok with
 |false=>
  cases a7;refine σ ?_;refine bN (vs:=eF 0 0 0 (.slice none 0 0)) (cs:=eF 0 0 0 (.slice none 0 0)) rfl rfl U8 rfl rfl (tH rfl) ?_;intro w9 di aQ gx;simp only[go_sem,simprocAttr,aM,RV.ev,aE (n:=8) (cs:=eF 0 0 0 (.slice none 0 0)) di rfl,aN];exact⟨⟨_,rfl,rfl⟩,(pM).step aQ (fun b hb hl=>by have e:b=b8:=hb;omega)⟩
 |true=>
 have a7:(runM p fuel name gz input).map (fun m=>(0,some m))=some dx:=a7;obtain⟨mF,ui,rfl⟩:=Δ.1 a7;simp only[go_sem,simprocAttr,aE (n:=2) (cs:=[vd,vf]) aa6 rfl];refine δ (by rfl) (akR p (h0.up pM aA (ga pM)) adh) ?_;rintro _ w5 ⟨⟨r,md,mf,S5,bs5,rfl,Bl,adi⟩,aH⟩;have BL:=pM.trans aH;refine σ ?_;refine bZ rfl ?_;intro w6 cH aG fw;have z5:=aH.size;have yy:=BL.trans aG;have M9:=Bl.aI aG;have E6:∀b,S5 b->b<w5.heap.size:=by obtain⟨_,_,_,_,_,_,hx⟩:=Bl;exact hx.lt
 have OC:qu w6 (Out S5 w6) (.pointer (some ⟨w5.heap.size,0,none⟩)) (pG name):=⟨_,[I 3,.string name,I 0,.slice none 0 0,.slice none 0 0,.slice none 0 0,.slice none 0 0],rfl,wq cH (fun hx=>by have:=E6 _ hx;omega),BK (eB _ _ _ _) (eB _ _ _ _) (eB _ _ _ _) (eB _ _ _ _) (Nat.le_refl 0)⟩;have dO:=alk ui;have arE:mF.told.length<=1048576:=by
  obtain⟨l,e1,e2⟩:=dO.told;have e1:mF.told=[]++l:=e1;have e3:mF.steps<=fuel:=dO.fuel (show(0:Int)<=fuel from adh.1);have e4:(l.length:Int)<=mF.steps-0:=e2;rw[e1,List.nil_append];omega
 have Rg:w6.heap[b8]?=some (.cells (eF 0 0 0 (.slice none 0 0)).toArray 37 (0,0)):=(aH.trans aG).at U8 Ψ;have U9:∀b,S5 b->w.heap.size<=b:=fun b hb=>by have:=adi b hb;have:=pM.size;omega
 have n8:∀{w7:World} {S7:Nat->Prop},fh S5 S7 w6->¬S7 b8:=fun hg hh=>by
  have l84:=bP U8;have:=pM.size;rcases hg.2 _ hh with h1 |h1
  .have:=adi _ h1;omega
  .have:=aG.size;omega
 have fin:∀ {w7:World} {S7:Nat→Prop} {U':List Nat},dE w7 S7 r md mf U' (fH p fuel) mF→fh S5 S7 w6→Mod S5 w6 w7→∃ vt,f' w7 8 (.pointer (some ⟨r,0,none⟩))=some (.agg (eF mF.kind mF.stuck mF.steps vt).toArray)∧vt.oneCell'=true∧w7.heap[b8]? = some (.cells (eF 0 0 0 (.slice none 0 0)).toArray 37 (0,0))∧Mod (fun _=>False) w w7 ∧
     ∀{w9:World},Mod (· = b8) w7 w9->Ao w9 (fun b=>w.heap.size<=b/\b<w9.heap.size) (eF mF.kind mF.stuck mF.steps vt) (some mF):=fun{w7 S7 U'} hR hg hm=>by
  obtain⟨vt,rA,dY,cO,dm,dv,hh⟩:=hR;have cR:=jm (off:=0) (n:=8) hh.box (by simp);obtain⟨avt,cvt,rfl,_,_⟩:=hh.told.val;refine⟨_,cR,rfl,hm.at Rg (fun hx=>n8 (w7:=w7) qz hx),yy.step hm (fun b hb hl=>by have:=U9 b hb;omega),fun{w9} aQ=>⟨_,rfl,dY,⟨?_,?_⟩,hh.items.at.1,hh.items.at.2⟩⟩
  .have ho:=hh.told.mod aQ (fun b hb e=>by
    have e':b=b8:=e;subst e'
    exact n8 (w7:=w7) hg (hh.aT _ (by simp[hb])))
   refine(EC ho (fun x hx=>?_)).mod (.refl (fun _=>False) w9) aA (fun y hy=>?_)
   .obtain⟨i,hi,rfl⟩:=List.getElem_of_mem hx;have:=hh.items.at.2 i _ _ (Ξ hi) (Ξ (by have:=hh.items.at.1;omega));rw[this];try rfl
   .have hs:S7 y:=hh.aT _ (by simp[hy]);refine⟨?_,ho.lt hy⟩;rcases hg.2 _ hs with h1 |h1
    .exact U9 _ h1
    .have:=yy.size;omega
  .have:=hh.items.at.1;omega
 have jL:(match fQ (fH p fuel) oI (.go (pG name) []) (iO p)with
  |none=>none
  |some (none,m)=>some m
  |some (some x,m)=>
   if gz=true then
    match uC (fH p fuel) oI x (m.ls input).cells.length ((m.ls input).new (kj input m.cells).1)with
    |none=>none
    |some (none,m)=>some m
    |some (some y,m)=>kY (fH p fuel) oI y [] m
   else kY (fH p fuel) oI x [] m)=some mF:=ui
 cases dN:fQ (fH p fuel) oI (.go (pG name) []) (iO p)with
 |none=>rw[dN]at jL;cases jL
 |some rr=>
 rw[dN]at jL;have Gb:=xZ _ dN;refine δ (by rfl) (akw M9 OC (show jz w6 (Out S5 w6) bs5 [] (.pointer none)from rfl) (show((0:Nat):Int)<=0+1 by omega) dN) ?_;rintro v7 w7 ⟨⟨S7,U',Gc,mJ,arF,lK⟩,aO⟩
 match rr,jL,Gb,Gc,lK with
 |(none,m1),jL,Gb,Gc,lK=>
  have lK:v7=_:=lK;subst lK;cases jL;obtain⟨vt,cR,h1,zZ,ya,qY⟩:=fin Gc mJ aO;simp only[go_sem,simprocAttr,cR];refine bN (vs:=eF mF.kind mF.stuck mF.steps vt) (cs:=eF 0 0 0 (.slice none 0 0)) rfl rfl zZ rfl rfl (tH h1) ?_;intro w9 di aQ gx;simp only[go_sem,simprocAttr,aM,RV.ev,aE (n:=8) (cs:=eF mF.kind mF.stuck mF.steps vt) di rfl,aN];exact⟨⟨_,rfl,qY aQ⟩,ya.step aQ (fun b hb hl=>by have e:b=b8:=hb;omega)⟩
 |(some x,m1),jL,Gb,Gc,⟨u,e1,hu,hv⟩=>
  subst e1;obtain⟨_,_,Ix⟩:=Gb.val x rfl;have rM:m1.told=[]:=Gb.told;have cw:(0:Int)<=m1.steps:=Gb.steps;cases gz with
  |false=>
   have jL:kY (fH p fuel) oI x [] m1=some mF:=jL;refine σ ?_;refine δ (by rfl) (aaO (X:=fH p fuel) Gc hu hv Ix (by rw[rM];simpa using cw) jL) ?_;rintro _ w8 ⟨⟨S8,zX,x8,oy⟩,aZ⟩;obtain⟨vt,cR,h1,zZ,ya,qY⟩:=fin x8 (pD mJ oy aO.size) (oH aO mJ aZ);simp only[go_sem,simprocAttr,cR];refine bN (vs:=eF mF.kind mF.stuck mF.steps vt) (cs:=eF 0 0 0 (.slice none 0 0)) rfl rfl zZ rfl rfl (tH h1) ?_;intro w9 di aQ gx;simp only[go_sem,simprocAttr,aM,RV.ev,aE (n:=8) (cs:=eF mF.kind mF.stuck mF.steps vt) di rfl,aN];exact⟨⟨_,rfl,qY aQ⟩,ya.step aQ (fun b hb hl=>by have e:b=b8:=hb;omega)⟩
  |true=>
   have jL:(match uC (fH p fuel) oI x (m1.ls input).cells.length ((m1.ls input).new (kj input m1.cells).1)with
    |none=>none
    |some (none,m)=>some m
    |some (some y,m)=>kY (fH p fuel) oI y [] m)=some mF:=jL
   have ya:Mod (fun _=>False) w w7:=yy.step aO (fun b hb hl=>by have:=U9 b hb;omega);refine σ ?_;refine δ (by rfl) (ak0 Gc (UH.mod ya (fun _ _ h=>h))) ?_;rintro u2 w8 ⟨⟨S8,zX,x8,oy,anQ,hu8⟩,aZ⟩;obtain⟨kn,kf,lC⟩:=aaZ input m1.cells;obtain⟨T,z,Ik,_⟩:=Fo hu8 (by rw[lC];try rfl);subst Ik;refine σ ?_;refine bZ rfl ?_;intro w9 di aQ gx;have Ng:=x8.new (x:=(kj input m1.cells).1) (v:=.iface T z) aQ di (Nat.le_refl _) (hu8.up (aq aQ (S:=S8)) aW (fM (aq aQ) (fZ (Nat.le_refl _))) pB)
   have pJ:fh S8 (aY S8 w8.heap.size) w8:=⟨fun b hb=>.inl hb,fun b hb=>by
    rcases hb with h |h
    ·exact .inl h
    ·exact .inr (by omega)⟩
   have adl:fh S7 (aY S8 w8.heap.size) w7:=pD oy pJ aZ.size;have Fh:Mod S7 w7 w9:=aq (aZ.trans aQ);have hu9:=hu.up Fh aW (wo adl Fh.size) (fun c b h=>pB (b:=w8.heap.size) _ _ (anQ c b h));have anR:zX.length=(m1.ls input).cells.length:=by obtain⟨_,_,_,_,_,_,hx⟩:=x8;exact hx.len
   have pS:(zX++[w8.heap.size])[(m1.ls input).cells.length]?=some w8.heap.size:=by rw[<- anR,List.getElem?_append_right (Nat.le_refl _)];simp
   have adm:=pD mJ adl aO.size;have adn:=oH aO mJ Fh;cases Ei:uC (fH p fuel) oI x (m1.ls input).cells.length ((m1.ls input).new (kj input m1.cells).1)with
   |none=>rw[Ei]at jL;cases jL
   |some rr2=>
   rw[Ei]at jL;have anS:((m1.ls input).new (kj input m1.cells).1).bA=[]:=Ix;have Gd:=FI Ei anS;refine σ ?_;refine δ (by rfl) (aky Ng pS hu9 hv (show(((m1.bA).length:Nat):Int)<=m1.steps by rw[Ix];simpa using cw) Ei) ?_;rintro v10 cD ⟨⟨qD,arG,Dc,tB,arH,JZ⟩,bD⟩;have Va:=pD adm tB adn.size;have Vb:=oH adn adm bD
   match rr2,jL,Gd,Dc,JZ with
   |(none,m2),jL,Gd,Dc,JZ=>
    have JZ:v10=_:=JZ;subst JZ;cases jL;obtain⟨vt,cR,h1,zZ,Vc,qY⟩:=fin Dc Va Vb;simp only[go_sem,simprocAttr,cR];refine bN (vs:=eF mF.kind mF.stuck mF.steps vt) (cs:=eF 0 0 0 (.slice none 0 0)) rfl rfl zZ rfl rfl (tH h1) ?_;intro JK Vd CT Am;simp only[go_sem,simprocAttr,aM,RV.ev,aE (n:=8) (cs:=eF mF.kind mF.stuck mF.steps vt) Vd rfl,aN];exact⟨⟨_,rfl,qY CT⟩,Vc.step CT (fun b hb hl=>by have e:b=b8:=hb;omega)⟩
   |(some y,m2),jL,Gd,Dc,⟨u3,e3,Il,CY⟩=>
    subst e3;obtain⟨_,_,Nb⟩:=Gd.val y rfl;have xg:m2.told=m1.told:=Gd.told;have bU:m1.steps<=m2.steps:=Gd.steps;have jL:kY (fH p fuel) oI y [] m2=some mF:=jL;refine σ ?_;refine δ (by rfl) (aaO (X:=fH p fuel) Dc Il CY Nb (by rw[xg,rM];simp;omega) jL) ?_;rintro _ eE ⟨⟨BG,arI,anT,uO⟩,cI⟩;obtain⟨vt,cR,h1,zZ,Vc,qY⟩:=fin anT (pD Va uO Vb.size) (oH Vb Va cI);simp only[go_sem,simprocAttr,cR];refine bN (vs:=eF mF.kind mF.stuck mF.steps vt) (cs:=eF 0 0 0 (.slice none 0 0)) rfl rfl zZ rfl rfl (tH h1) ?_;intro JK Vd CT Am;simp only[go_sem,simprocAttr,aM,RV.ev,aE (n:=8) (cs:=eF mF.kind mF.stuck mF.steps vt) Vd rfl,aN];exact⟨⟨_,rfl,qY CT⟩,Vc.step CT (fun b hb hl=>by have e:b=b8:=hb;omega)⟩
end
section
open Go Go.W
section
variable {P:Program} {N:Nat} {ops:Array Oper}
theorem anU{id:Nat}{Q:Post}{ρ:Go.W.Env}{w:World}{n:Nat}{deps:List (List Nat)}{qn:List Go.W.S}(ds:List Nat)(Φ:Nat→Value→World→Prop)(hm:P.follows .mixedOrders=true)
   (HX:ops.toList.map waits=deps) (bg:(deps.zipIdx.all fun x=>x.1.all fun j=>decide (j<x.2))=true) (eH:il P N ops ops.toList=some qn) (hn:ops.size=n+1)
   (hlen:ds.length=n) (gR:ds.Nodup) (ff:((List.range n).all fun j=>(deps.getD n []).contains j)=true)
   (CN:∀i v w w',Φ i v w->Mod (fun _=>False) w w'->Φ i v w')
   (mW:∀i s,i<n->qn[i]?=some s->∀ρ' w',Mod (fun _=>False) w w'->(∀j∈deps.getD i [],∃v,ρ'.get (ds.getD j 0)=some v/\Φ j v w')->(∀t,t∉ds->ρ'.get t=ρ.get t) ->
    wpS P [s] ρ' w' (fun eQ w2=>∃v,eQ=ρ'.put (some (ds.getD i 0)) v/\Mod (fun _=>False) w' w2/\Φ i v w2))
   (SW:∀s,qn[n]?=some s->∀ρ' w',Mod (fun _=>False) w w'->(∀i,i<n->∃v,ρ'.get (ds.getD i 0)=some v/\Φ i v w')->(∀t,t∉ds->ρ'.get t=ρ.get t)->wpS P [s] ρ' w' (fun eQ w2=>Q .normal eQ w2)) :
   dD P N (.raw (.region id ops true)) Q ρ w:=by
 have gd:∀i,(hi:i<n)->ds.getD i 0=ds[i]'(by omega):=fun i hi=>by simp[List.getD,Ξ (show i<ds.length by omega)]
 refine anI (Inv:=fun L ρ' w'=>(L n=false->Mod (fun _=>False) w w'/\(∀i,i<n->L i=true->∃v,ρ'.get (ds.getD i 0)=some v/\Φ i v w')/\(∀t,t∉ds->ρ'.get t=ρ.get t))/\(L n=true->(∀i,i<n->L i=true)/\Q .normal ρ' w')) hm HX bg eH hn
  ⟨fun _=>⟨(Mod.refl _ w).drew,fun _ _ h=>(by cases h),fun _ _=>rfl⟩,fun h=>(by cases h)⟩ ?_ ?_
 .rintro i s L ρ' w' hs hL hd ⟨h1,h2⟩;have xj:L n=false:=by
   cases e:L n with
   |false=>rfl
   |true=>
    rcases Nat.lt_or_ge i n with h |h
    .rw[(h2 e).1 i h]at hL;cases hL
    .have hi:i < qn.length:=(List.getElem?_eq_some_iff.1 hs).1;have e2:qn.length=n+1:=by
      have:∀(l:List Oper) (st:List Go.W.S),il P N ops l=some st->st.length=l.length:=by
       intro l
       induction l with
       |nil=>intro st h;simp only[il]at h;cases h;rfl
       |cons o l ih=>
        intro st h;simp only[il]at h
        split at h
        .rename_i s t hs ht;cases h;simp[ih _ ht]
        .cases h
      rw[this _ _ eH,Array.length_toList,hn]
     have:i=n:=by omega
     subst this;rw[e]at hL;cases hL
  obtain⟨kQ,hv,ho⟩:=h1 xj;rcases Nat.lt_or_ge i n with hi |hi
  .refine B6 _ (mW i s hi hs ρ' w' kQ (fun j hj=>?_) ho) ?_
   .have hj':j < n:=by
     have:=hd j hj;rcases Nat.lt_or_ge j n with h |h
     .exact h
     .exfalso;have h4:deps[i]? = some (deps.getD i []):=by
       rcases Nat.lt_or_ge i deps.length with h |h
       .simp[List.getD,Ξ h]
       .simp[List.getD,List.getElem?_eq_none h]at hj
      rw[List.all_eq_true]at bg;have jD:(deps.getD i [],i)∈deps.zipIdx:=by rw[List.mem_zipIdx_iff_getElem?];exact h4
      have h3:=bg _ jD;rw[List.all_eq_true]at h3;have:=h3 _ hj;simp at this;omega
    exact hv j hj' (hd j hj)
   .rintro eQ w2 ⟨v,rfl,m2,hp⟩;have ne:n≠i:=by omega
    refine⟨fun _=>⟨kQ.trans m2,fun j hj hLj=>?_,fun t ht=>?_⟩,fun h=>?_⟩
    .by_cases e:j=i
     .subst e;exact⟨v,by simp[Go.W.Env.put,Go.W.Env.get],hp⟩
     .obtain⟨u,h5,h6⟩:=hv j hj (by simpa[e]using hLj);refine⟨u,?_,CN _ _ _ _ h6 m2⟩;simp only[Go.W.Env.put,Go.W.Env.get];rw[if_neg (fun h=>e ?_)]
      .exact h5
      .rw[gd i hi,gd j hj]at h;exact((List.getElem_inj gR).1 h).symm
    .simp only[Go.W.Env.put,Go.W.Env.get];rw[if_neg (fun h=>ht (by rw[<- h,gd i hi];exact List.getElem_mem _))];exact ho t ht
    .simp[ne,xj]at h
  .have dZ:i=n:=by
    have hi2:i<qn.length:=(List.getElem?_eq_some_iff.1 hs).1;have e2:qn.length=n+1:=by
     have:∀(l:List Oper) (st:List Go.W.S),il P N ops l=some st->st.length=l.length:=by
      intro l
      induction l with
      |nil=>intro st h;simp only[il]at h;cases h;rfl
      |cons o l ih=>
       intro st h;simp only[il]at h
       split at h
       .rename_i s t hs ht;cases h;simp[ih _ ht]
       .cases h
     rw[this _ _ eH,Array.length_toList,hn]
    omega
   subst dZ;have ha:∀j,j<i->L j=true:=fun j hj=>by
    rw[List.all_eq_true]at ff;exact hd j (by simpa using ff j (List.mem_range.2 hj))
   refine B6 _ (SW s hs ρ' w' kQ (fun j hj=>hv j hj (ha j hj)) ho) ?_;intro eQ w2 hQ;exact⟨fun h=>by simp at h,fun _=>⟨fun j hj=>by simp[ha j hj],hQ⟩⟩
 .rintro L ρ' w' hL ⟨_,h2⟩;exact(h2 (hL n (by omega))).2
end
abbrev kA:ByteArray:=⟨#[97]⟩
abbrev kX:ByteArray:=⟨#[120]⟩
abbrev yz:ByteArray:=⟨#[105,100]⟩
abbrev kM:ByteArray:=⟨#[109]⟩
abbrev tI:Ty:=.mk 2 kA []
abbrev rG:Ty:=.mk 1 bM []
abbrev tJ:Ty:=.mk 4 jq []
abbrev DV:Ex:=.mk 1 kX 0 [] [] [] []
abbrev OD:Bd:=.mk kX tI fS
abbrev ado:Ex:=.mk 6 bM 0 [] [DV] [OD] []
abbrev uT:Df:=⟨yz,[kA],lA tI tI,ado⟩
abbrev OE(t:Ty):Ex:=.mk 3 yz 0 [t] [] [] []
abbrev Ve:Ex:=.mk 5 bM 0 [] [OE rG,.mk 2 bM 3 [] [] [] []] [] []
abbrev Vf:Ex:=.mk 5 bM 0 [] [OE tJ,.mk 4 tk 0 [] [] [] []] [] []
abbrev Ap:Df:=⟨kM,[],rG,.mk 10 bM 0 [] [Vf,Ve] [] []⟩
def lh:Pg:=⟨[],[uT,Ap]⟩
def OT(l:List Nat)(w:World)(b:Nat):Prop:=b<w.heap.size/\∀c T,w.heap[b]?=some (.cells c T (0,0))->T∉l
theorem adq{l:List Nat}{w w':World}(hm:Mod (fun _=>False) w w'):∀b,OT l w b->OT l w' b:=fun b h=>⟨Nat.lt_of_lt_of_le h.1 hm.size,fun c T e=>by
 have h1:w.heap[b]?=some (w.heap[b]'h.1):=Array.getElem?_eq_getElem h.1;have h2:=hm.at h1 Ψ;rw[e,<- h1]at h2
 exact h.2 c T h2.symm⟩
theorem adr{l:List Nat}{w:World}{b T:Nat}{c:Array Value}(h:w.heap[b]?=some (.cells c T (0,0)))(hT:T∉l):OT l w b:=⟨bP h,fun c' T' e=>by rw[h]at e;simp at e;rw[<- e.2];exact hT⟩
abbrev OF:World->Nat->Prop:=OT [59,25]
theorem tK{w w':World}(hm:Mod (fun _=>False) w w'):∀b,OF w b->OF w' b:=adq hm
theorem OG{w:World}{b T:Nat}{c:Array Value}(h:w.heap[b]?=some (.cells c T (0,0)))(hT:T∉[59,25]):OF w b:=adr h hT
theorem anV{ca cb:List Value}{w:World}(la:ca.length=3)(lb:cb.length=3) :
   bu Tryz.prog 27 [.agg ca.toArray,.agg cb.toArray] w fun r w'=>∃nb,r=.agg #[I 3,.string bM,.slice (some ⟨nb,0,none⟩) 2 2]/\w'.heap[nb]?=some (.cells (ca++cb).toArray 52 (0,0))/\Mod (fun _=>False) w w':=by
 refine γ Tryz.f27 ?_;refine σ ?_;refine bZ rfl ?_;intro w1 au ak cw;refine σ ?_;refine bZ rfl ?_;intro w2 az ai bU;refine σ ?_;refine cX ?_;intro w3 aS aw dU;have au:=(ai.trans aw).at au Ψ;have az:=aw.at az Ψ;simp only[go_sem,simprocAttr,aE (n:=3) (cs:=ca) au la,aE (n:=3) (cs:=cb) az lb];refine ez (cs:=(ca++cb).toArray) rfl ?_ ?_
 .simp only[go_sem,simprocAttr,la,lb]
  match ca,la,cb,lb with
  |[a1,a2,a3],_,[b1,b2,b3],_=>rfl
 intro w4 bm aD dL;have aS:=aD.at aS Ψ;refine σ ?_;refine bN (vs:=[I 3,.string bM,.slice (some ⟨w3.heap.size,0,none⟩) 2 2]) (cs:=cS) rfl rfl aS rfl rfl (aP rfl (aP rfl (aP rfl dq))) ?_;intro w5 bY aH eY;simp only[go_sem,simprocAttr,aM,RV.ev,aE (n:=3) bY rfl,aN];have jd:Mod (fun _=>False) w w5:=(ak.trans (ai.trans (aw.trans aD))).step aH (fun x hx hl=>by omega);exact⟨_,rfl,aH.at bm (by omega),jd⟩
inductive SV where
 |strs (l:List ByteArray) |ty (t:Ty) |bd (b:Bd) |MK (l:List Bd) |ex (e:Ex) |Vg (l:List Ex) |df (d:Df) |jX
def SV.At(n0:Nat)(w:World):SV->Value->Prop
 |.strs l,v=>aX w v 1 (OF w) ft l
 |.ty t,v=>∃cs:List Value,v=.agg cs.toArray/\aR w (OF w) cs t
 |.bd b,v=>∃cs:List Value,v=.agg cs.toArray/\eh w (OF w) cs b
 |.MK l,v=>aX w v 11 (OF w) (fun r b=>eh w (OF w) r b) l
 |.ex e,v=>∃cs:List Value,v=.agg cs.toArray/\ci w (OF w) cs e
 |.Vg l,v=>aX w v 7 (OF w) (fun r b=>ci w (OF w) r b) l
 |.df d,v=>∃cs:List Value,v=.agg cs.toArray/\cs.length=12/\jE w (OF w) cs d
 |.jX,v=>∃b,v=ptr b/\w.heap[b]?=some (.cells DU.toArray 59 (0,0))/\n0<=b
theorem SV.up{n0:Nat}{w w':World}(g:SV){v:Value}(h:g.At n0 w v)(hm:Mod (fun _=>False) w w'):g.At n0 w' v:=by
 cases g with
 |strs l=>exact aX.up h hm aA (tK hm) (fun _ _ h=>h)
 |ty t=>obtain⟨cs,e,h⟩:=h;exact⟨cs,e,h.up hm aA (tK hm)⟩
 |bd b=>obtain⟨cs,e,h⟩:=h;exact⟨cs,e,ie.up h hm aA (tK hm)⟩
 |MK l=>exact aX.up h hm aA (tK hm) (fun _ _ h=>ie.up h hm aA (tK hm))
 |ex e=>obtain⟨cs,e,h⟩:=h;exact⟨cs,e,h.up hm aA (tK hm)⟩
 |Vg l=>exact aX.up h hm aA (tK hm) (fun _ _ h=>h.up hm aA (tK hm))
 |df d=>obtain⟨cs,e,l,h⟩:=h;exact⟨cs,e,l,h.up hm aA (tK hm)⟩
 |jX=>obtain⟨b,e,h,k⟩:=h;exact⟨b,e,hm.at h Ψ,k⟩
def Vh:List SV:=[.strs [kA],.ty tI,.ty tI,.ty (lA tI tI),.ty tI,.bd OD,.MK [OD],.ex DV,.Vg [DV],.ex ado,.df uT,.jX]
def anW(n0:Nat)(i:Nat)(v:Value)(w:World):Prop:=∃g,Vh[i]?=some g/\g.At n0 w v
theorem anX{ρ:Go.W.Env}{w:World}{b1:Nat}(au:w.heap[b1]? = some (.cells (fG 2 kA).toArray 52 (0,0)))(g1:ρ.get 1=some (ptr b1)){Q:Post}
   (hQ:∀eQ w2 b4 (cs:List Value),Mod (fun _=>False) w w2->(∀t,t∉Oz->eQ.get t=ρ.get t)->eQ.get 4=some (ptr b4)->w2.heap[b4]?=some (.cells cs.toArray 59 (0,0))->cs.length=12->jE w2 (OT [25] w2) cs uT->w.heap.size<=b4->Q .normal eQ w2) :
   dD Tryz.prog 44 (.raw (.region 4 JX true)) Q ρ w:=by
 refine anU (ds:=Oz) (Φ:=anW w.heap.size) (n:=12) rfl anK (by decide) anL anM rfl (by decide) (by decide) (fun i v w1 w2 ⟨g,h1,h2⟩ hm=>⟨g,h1,g.up h2 hm⟩) ?_ ?_
 .intro i s hi hs ρ' w' hm hv ho;have oD:∀ j∈ade.getD i [],∀ g,Vh[j]? = some g→∃ v,ρ'.get (Oz.getD j 0)=some v∧g.At w.heap.size w' v:=by
   intro j hj g hg;obtain⟨v,h1,g',h2,h3⟩:=hv j hj;rw[hg]at h2;cases h2;exact⟨v,h1,h3⟩
  have k1:ρ'.get 1=some (ptr b1):=(ho 1 (by decide)).trans g1;have Vi:=hm.at au Ψ
  match i,hs with
  |0,hs=>
   obtain rfl:=Option.some.inj hs;refine σ ?_;refine ez (cs:=#[.string kA]) rfl rfl ?_;intro w2 az ai bU;refine σ ?_;exact⟨_,rfl,ai,_,rfl,mg (rows:=[[.string kA]]) az (OG az (by decide)) ⟨rfl,trivial⟩ (by decide) ⟨⟨rfl,by decide⟩,trivial⟩⟩
  |1,hs=>
   obtain rfl:=Option.some.inj hs;simp only[go_sem,simprocAttr,k1,aE (n:=3) Vi rfl];exact⟨_,rfl,.refl _ _,_,rfl,_,rfl,om _ _ 2 kA⟩
  |2,hs=>
   obtain rfl:=Option.some.inj hs;simp only[go_sem,simprocAttr,k1,aE (n:=3) Vi rfl];exact⟨_,rfl,.refl _ _,_,rfl,_,rfl,om _ _ 2 kA⟩
  |3,hs=>
   obtain rfl:=Option.some.inj hs;obtain⟨_,e1,ca,rfl,h1⟩:=oD 1 (by decide) _ rfl;obtain⟨_,e2,cb,rfl,h2⟩:=oD 2 (by decide) _ rfl;have e1:ρ'.get 12=some (.agg ca.toArray):=e1;have e2:ρ'.get 13=some (.agg cb.toArray):=e2;have kP:gW ρ' [.t 12,.t 13]=some [.agg ca.toArray,.agg cb.toArray]:=by simp only[gW,O.ev,e1,e2,go_sem]
   refine σ ?_;refine aL kP ?_;refine(anV h1.len h2.len).mono ?_;rintro _ w2 ⟨nb,rfl,az,ai⟩;refine σ ?_;have e:ca++cb=[ca,cb].flatten:=by simp
   rw[e]at az;exact⟨_,rfl,ai,_,rfl,_,rfl,MN (mg (rows:=[ca,cb]) (l:=[tI,tI]) az (OG az (by decide)) ⟨h1.len,h2.len,trivial⟩ (by simp) ⟨h1.up ai aA (tK ai),h2.up ai aA (tK ai),trivial⟩) 3 bM⟩
  |4,hs=>
   obtain rfl:=Option.some.inj hs;simp only[go_sem,simprocAttr,k1,aE (n:=3) Vi rfl];exact⟨_,rfl,.refl _ _,_,rfl,_,rfl,om _ _ 2 kA⟩
  |5,hs=>
   obtain rfl:=Option.some.inj hs;obtain⟨_,e1,ca,rfl,h1⟩:=oD 4 (by decide) _ rfl;have e1:ρ'.get 15=some (.agg ca.toArray):=e1;obtain⟨x1,rfl,h2⟩:=h1.cells;simp only[go_sem,simprocAttr,e1];exact⟨_,rfl,.refl _ _,_,rfl,[.string kX,I 2,.string kA,x1,I 0,.string bM,I 0,.slice none 0 0,.slice none 0 0,.slice none 0 0,.slice none 0 0],rfl,[I 2,.string kA,x1],jT,rfl,h1,FO _ _ 0 _,(by decide)⟩
  |6,hs=>
   obtain rfl:=Option.some.inj hs;obtain⟨_,e1,ca,rfl,h1⟩:=oD 5 (by decide) _ rfl;have e1:ρ'.get 16=some (.agg ca.toArray):=e1;refine σ ?_;refine ez (cs:=([ca]).flatten.toArray) (ps:=partsOf 11 0 [ca]) (by simp only[go_sem,simprocAttr,e1];rfl) (oA (sz:=11) [ca] [] U7.toList ⟨ie.len h1,trivial⟩ rfl) ?_;intro w2 az ai bU;refine σ ?_;exact⟨_,rfl,ai,_,rfl,mg (rows:=[ca]) az (OG az (by decide)) ⟨ie.len h1,trivial⟩ (by simp) ⟨ie.up h1 ai aA (tK ai),trivial⟩⟩
  |7,hs=>
   obtain rfl:=Option.some.inj hs;refine σ ?_;exact⟨_,rfl,.refl _ _,_,rfl,[I 1,.string kX,I 0,.slice none 0 0,.slice none 0 0,.slice none 0 0,.slice none 0 0],rfl,BK (eB _ _ _ _) (eB _ _ _ _) (eB _ _ _ _) (eB _ _ _ _) (Nat.le_refl _)⟩
  |8,hs=>
   obtain rfl:=Option.some.inj hs;obtain⟨_,e1,ca,rfl,h1⟩:=oD 7 (by decide) _ rfl;have e1:ρ'.get 18=some (.agg ca.toArray):=e1;refine σ ?_;refine ez (cs:=([ca]).flatten.toArray) (ps:=partsOf 7 0 [ca]) (by simp only[go_sem,simprocAttr,e1];rfl) (oA (sz:=7) [ca] [] OB.toList ⟨h1.len,trivial⟩ rfl) ?_;intro w2 az ai bU;refine σ ?_;exact⟨_,rfl,ai,_,rfl,mg (rows:=[ca]) az (OG az (by decide)) ⟨h1.len,trivial⟩ (by simp) ⟨h1.up ai aA (tK ai),trivial⟩⟩
  |9,hs=>
   obtain rfl:=Option.some.inj hs;obtain⟨va,e1,h1⟩:=oD 6 (by decide) _ rfl;have e1:ρ'.get 17=some va:=e1;have h1:aX w' va 11 (OF w') (fun r b=>eh w' (OF w') r b) [OD]:=h1;obtain⟨a1,c1,rfl⟩:=bq h1;obtain⟨vb,e2,h2⟩:=oD 8 (by decide) _ rfl;have e2:ρ'.get 19=some vb:=e2;have h2:aX w' vb 7 (OF w') (fun r b=>ci w' (OF w') r b) [DV]:=h2;obtain⟨a2,c2,rfl⟩:=bq h2;simp only[go_sem,simprocAttr,e1,e2];exact⟨_,rfl,.refl _ _,_,rfl,_,rfl,BK (eB _ _ _ _) h2 h1 (eB _ _ _ _) (Nat.le_refl _)⟩
  |10,hs=>
   obtain rfl:=Option.some.inj hs;obtain⟨va,e1,h1⟩:=oD 0 (by decide) _ rfl;have e1:ρ'.get 11=some va:=e1;have h1:aX w' va 1 (OF w') ft [kA]:=h1;obtain⟨a1,c1,rfl⟩:=bq h1;obtain⟨_,e2,ca,rfl,h2⟩:=oD 3 (by decide) _ rfl;have e2:ρ'.get 14=some (.agg ca.toArray):=e2;obtain⟨x1,rfl,_⟩:=h2.cells;obtain⟨_,e3,cb,rfl,h3⟩:=oD 9 (by decide) _ rfl;have e3:ρ'.get 20=some (.agg cb.toArray):=e3;obtain⟨y1,y2,y3,y4,rfl,_⟩:=h3.parts;simp only[go_sem,simprocAttr,e1,e2,e3];exact⟨_,rfl,.refl _ _,_,rfl,_,rfl,rfl,_,_,_,rfl,rfl,rfl,h1,h2,h3,(by decide)⟩
  |11,hs=>
   obtain rfl:=Option.some.inj hs;refine σ ?_;refine cX ?_;intro w2 az ai bU;refine σ ?_;exact⟨_,rfl,ai,_,rfl,_,rfl,az,hm.size⟩
  |n+12,_=>omega
 .intro s hs ρ' w' hm hv ho;obtain rfl:=Option.some.inj hs;have oD:∀ j,j < 12→∀ g,Vh[j]? = some g→∃ v,ρ'.get (Oz.getD j 0)=some v∧g.At w.heap.size w' v:=by
   intro j hj g hg;obtain⟨v,h1,g',h2,h3⟩:=hv j hj;rw[hg]at h2;cases h2;exact⟨v,h1,h3⟩
  obtain⟨_,e1,b,rfl,hb,hl⟩:=oD 11 (by decide) _ rfl;have e1:ρ'.get 4=some (ptr b):=e1;obtain⟨_,e2,ca,rfl,h2,h3⟩:=oD 10 (by decide) _ rfl;have e2:ρ'.get 21=some (.agg ca.toArray):=e2;simp only[go_sem,simprocAttr,e1,e2];refine bN (vs:=ca) (cs:=DU) e1 e2 hb h2 rfl h3.one ?_;intro w2 az ai bU;refine σ ?_;have nb:∀b',OF w' b'->¬b'=b:=fun b' h e=>by subst e;exact h.2 _ _ hb (by decide)
  have ub:∀b',OF w' b'->OT [25] w2 b':=fun b' h=>⟨Nat.lt_of_lt_of_le h.1 ai.size,fun c T e Fe=>by
   have h1:w'.heap[b']?=some (w'.heap[b']'h.1):=Array.getElem?_eq_getElem h.1;have h2:=ai.at h1 (nb b' h);rw[e,<- h1]at h2
   exact h.2 c T h2.symm (List.mem_cons_of_mem _ Fe)⟩
  exact hQ _ w2 b ca (hm.step ai (fun x hx wW=>by omega)) ho e1 az h2 (h3.up ai nb ub) hl
end
section
open Go Go.W
theorem ads{E:Env}:∀(l:List Cn) (m:cE),tf E l m=true->∀k∈l,aJ E.cons k.name=none/\k.fields.length<=8
 |[],m,_,k,hk=>by cases hk
 |c::l,m,h,k,hk=>by
  rw[tf]at h
  split at h
  .cases h
  .rename_i hn;simp only[Bool.or_eq_true,not_or,decide_eq_true_eq]at hn;obtain⟨⟨h1,h2⟩,h3⟩:=hn;rcases List.mem_cons.1 hk with rfl |hk
   .refine⟨?_,by omega⟩;cases hx:aJ E.cons k.name with
    |none=>rfl
    |some y=>rw[hx]at h1;simp at h1
   .exact ads l _ h k hk
theorem anY{E:Env}{d:Dt}(h:ri E d=0):∀k∈d.cons,aJ E.cons k.name=none/\k.fields.length<=8:=by
 unfold ri at h
 split at h
 .cases h
 .split at h
  .cases h
  .split at h
   .cases h
   .rename_i hs;exact ads d.cons [] (by simpa using hs)
theorem adu{d:Dt}:∀(ks:List Cn) (i:Nat) (m:List (ByteArray×(Dt×Nat))) (n:ByteArray),(∀k∈ks,k.name≠n)->aJ (rh d ks i m) n=aJ m n
 |[],_,m,n,_=>rfl
 |k::ks,i,m,n,h=>by
  rw[rh,adu ks (i+1) _ n (fun c hc=>h c (by simp[hc])),jg,if_neg (h k (by simp))]
theorem adw{d:Dt}:∀ (ks:List Cn) (i:Nat) (m:List (ByteArray×(Dt×Nat))) (f:List (ByteArray×Int)),d.cons.drop i=ks→(∀ n x,aJ m n=some x→(aJ f n).getD 0=(gg x.1 x.2).length) →
   ∀n x,aJ (rh d ks i m) n=some x->(aJ (uK ks f) n).getD 0=(gg x.1 x.2).length
 |[],_,m,f,_,h,n,x,hx=>h n x hx
 |k::ks,i,m,f,hd,h,n,x,hx=>by
  rw[rh]at hx;rw[uK];have hi:i<d.cons.length:=by
   apply Classical.byContradiction;intro hn;rw[List.drop_eq_nil_of_le (by omega)]at hd;cases hd
  rw[Ω hi]at hd
  injection hd with hk ja
  refine adw ks (i+1) _ _ ja (fun n x hx=>?_) n x hx;rw[jg]at hx ⊢;by_cases hn:k.name=n
  .rw [if_pos hn] at hx ⊢;cases hx;have:gg d i=k.fields:=by
    unfold gg;rw[List.getD_eq_getElem?_getD,List.getElem?_map,Ξ hi,hk];rfl
   rw[this];try rfl
  .rw[if_neg hn]at hx ⊢;exact h n x hx
theorem anZ{d:Dt}(hl:∀k∈d.cons,k.fields.length<=8)(i:Nat):(gg d i).length<=8:=by
 unfold gg;rw[List.getD_eq_getElem?_getD,List.getElem?_map];cases hx:d.cons[i]? with
 |none=>simp
 |some k=>exact hl k (List.mem_of_getElem? hx)
structure OH (E:Env) (fs:List (ByteArray×Int)) (l:List Dt):Prop where
 an0:uz E l
 fields:∀n x,aJ E.cons n=some x->(aJ fs n).getD 0=(gg x.1 x.2).length
 len:∀n x,aJ E.cons n=some x->(gg x.1 x.2).length<=8
theorem adx:∀(l:List Dt) (E E':Env) (fs:List (ByteArray×Int)) (l0:List Dt),OH E fs l0->px l E=.ok E'->OH E' (wF l fs) (l0++l)/\∀n x,aJ E.cons n=some x->aJ E'.cons n=some x
 |[],E,E',fs,l0,h,hd=>by rw[px]at hd;cases hd;exact⟨by rw[List.append_nil];exact h,fun _ _ h=>h⟩
 |d::l,E,E',fs,l0,h,hd=>by
  rw[px]at hd
  split at hd
  .cases hd
  .rename_i h0;have h0:ri E d=0:=by simpa using h0
   have hc:=anY h0;have h1:OH (ur E d) (uK d.cons fs) (l0++[d]):=by
    refine⟨h.an0.enter (ZE h0) (fun x hx=>by simp[hx]) (by simp),fun n x hx=>?_,fun n x hx=>?_⟩
    .exact adw d.cons 0 E.cons fs (by simp) h.fields n x hx
    .rcases RO _ _ _ _ _ hx with h2 |h2
     .exact h.len n x h2
     .rw[h2];exact anZ (fun k hk=>(hc k hk).2) _
   obtain⟨h2,h3⟩:=adx l _ E' _ (l0++[d]) h1 hd;refine⟨by rw[List.append_assoc]at h2;exact h2,fun n x hx=>h3 n x ?_⟩;show aJ (rh d d.cons 0 E.cons) n=some x
   rw[adu _ _ _ _ (fun k hk e=>by
    have:=(hc k hk).1
    rw[e,hx]at this;cases this)]
   exact hx
theorem Ge:jM.cons=[(A8,(mh,0)),(tk,(mh,1)),(⟨#[85,110,105,116]⟩,(uv,0)),(⟨#[78,105,108]⟩,(dList,0)),(Da,(dList,1)),(Iy,(uw,0)),(Iz,(ux,0))]:=by rfl
theorem an1:OH jM wG mL:=by
 refine⟨RQ,fun n x hx=>?_,fun n x hx=>?_⟩
 .rw[Ge]at hx;unfold wG;simp only[tg,Mx]at hx ⊢;by_cases h1:A8=n
  .subst h1;cases hx;rfl
  by_cases h2:tk=n
  .subst h2;cases hx;rfl
  by_cases h3:(⟨#[85,110,105,116]⟩:ByteArray)=n
  .subst h3;cases hx;rfl
  by_cases h4:(⟨#[78,105,108]⟩:ByteArray)=n
  .subst h4;cases hx;rfl
  by_cases h5:Da=n
  .subst h5;cases hx;rfl
  by_cases h6:Iy=n
  .subst h6;cases hx;rfl
  by_cases h7:Iz=n
  .subst h7;cases hx;rfl
  rw[if_neg h1,if_neg h2,if_neg h3,if_neg h4,if_neg h5,if_neg h6,if_neg h7]at hx;cases hx
 .rw [Ge] at hx;have key:∀ p∈([(A8,(mh,0)),(tk,(mh,1)),(⟨#[85,110,105,116]⟩,(uv,0)),(⟨#[78,105,108]⟩,(dList,0)),(Da,(dList,1)),(Iy,(uw,0)),(Iz,(ux,0))]:List (ByteArray×(Dt×Nat))),(gg p.2.1 p.2.2).length≤8:=by
   intro p hp;simp only[List.mem_cons,List.not_mem_nil,or_false]at hp;rcases hp with rfl |rfl |rfl |rfl |rfl |rfl |rfl<;>decide
  obtain⟨p,hp,_,rfl⟩:=Yd hx;exact key p hp
theorem an2{E E':Env}{d:Df}(h:rj E d=.ok E'):E'.cons=E.cons/\E'.aj=bS E.aj d.name d/\d.type.C6 d.params=true:=by
 unfold rj at h
 split at h
 .cases h
 .split at h
  .cases h
  .split at h
   .cases h
   .rename_i hr;cases h;refine⟨rfl,rfl,?_⟩;have hr:iT { E with params:=oC d.params []} d.type=true:=by simpa using hr
    rw[iT,Bool.and_eq_true]at hr;refine akq (fun n hn=>?_) d.type hr.2;rcases aaF _ _ _ hn with h |h
    .exact h
    .cases h
end
section
open Go Go.W
def N0{α:Type}(x:Except Int α):Prop:=∀k,x=.error k->k≠0
section
variable {α β:Type} {E:Env}
theorem nW{a:α}:N0 (.ok a:Except Int α):=fun k h=>by cases h
theorem eG{k:Int}(h:k≠0):N0 (.error k:Except Int α):=fun k' h'=>by cases h';exact h
theorem J0{x:Except Int α}{f:α->β}(h:N0 x):N0 (x.map f):=fun k hk=>by
 cases x with
 |error e=>cases hk;exact h _ rfl
 |ok a=>cases hk
theorem ady{t:Ty}{ps:List ByteArray}{at':List Ty}:N0 (j' E t ps at'):=by
 unfold j'
 split
 .exact eG (by decide)
 .split
  .exact eG (by decide)
  .split
   .exact nW
   .exact eG (by decide)
theorem adz{b:Bd}{bd:cE}:N0 (lE E b bd):=by
 unfold lE
 split
 .exact eG (by decide)
 .split
  .exact nW
  .exact eG (by decide)
theorem adA:∀(l:List Bd) (bd:cE),N0 (lX E l bd)
 |[],bd=>by rw[lX];exact nW
 |b::l,bd=>by
  rw[lX]
  split
  .rename_i x hx;exact eG (adz _ hx)
  .exact adA l _
theorem adB:∀(l:List ByteArray) (bd:cE),N0 (qW l bd)
 |[],bd=>by rw[qW];exact nW
 |s::l,bd=>by
  rw[qW]
  split
  .exact eG (by decide)
  .exact adB l _
theorem adC{ps:List ByteArray}{bs:List Ty}:∀(l:List ByteArray) (fs:List Ty) (lc:Loc),N0 (ke ps bs l fs lc)
 |s::l,f::fs,lc=>by
  rw[ke]
  split
  .exact adC l fs _
  .exact eG (by decide)
 |[],fs,lc=>by rw[ke];exact nW;simp
 |s::l,[],lc=>by rw[ke];exact nW;simp
theorem an3{l:List Ty}:N0 (qe E l):=by
 unfold qe
 split
 .split
  .exact eG (by decide)
  .split
   .split
    .exact nW
    .exact eG (by decide)
   .exact eG (by decide)
 .exact eG (by decide)
theorem an4{n:ByteArray}{l:List Ty}:N0 (sV n l):=by
 unfold sV
 split
 .split
  .exact eG (by decide)
  .exact nW
 .exact eG (by decide)
theorem an5{b:Bd}{l:List Ty}:N0 (sW b l):=by
 unfold sW
 split
 .split
  .exact eG (by decide)
  .exact nW
 .exact eG (by decide)
def NE(E:Env)(e:Ex):Prop:=∀st,N0 (cM E e st)
theorem adD:∀(l:List Ex),(∀u∈l,NE E u)->∀st,N0 (dy E l st)
 |[],_,st=>by rw[dy];exact nW
 |e::l,h,st=>by
  rw[dy]
  split
  .rename_i x hx;exact eG (h e (by simp) st _ hx)
  .split
   .rename_i x hx;exact eG (adD l (fun u hu=>h u (by simp[hu])) _ _ hx)
   .exact nW
theorem adE:∀(l:List Bd),(∀b∈l,NE E b.value)->∀st,N0 (lF E l st)
 |[],_,st=>by rw[lF];exact nW
 |b::l,h,st=>by
  rw[Hu]
  split
  .rename_i x hx;exact eG (h b (by simp) st _ hx)
  .split
   .exact adE l (fun u hu=>h u (by simp[hu])) _
   .exact eG (by decide)
theorem an6{of:Ty}{k:Int}{bE:ByteArray}{vars:List ByteArray}{run:St->Except Int (Ty×St)}(hr:∀st,N0 (run st))(st:St):N0 (qg E of k bE vars run st):=by
 unfold qg
 split
 .exact hr st
 .split
  .exact eG (by decide)
  .split
   .exact eG (by decide)
   .split
    .exact eG (by decide)
    .split
     .rename_i x hx;exact eG (adB _ _ _ hx)
     .split
      .rename_i x hx;exact eG (adC _ _ _ _ hx)
      .split
       .rename_i x hx;exact eG (hr _ _ hx)
       .exact nW
theorem Vj{all:List Al}{of:Ty}:∀(l:List Al),(∀a∈l,NE E a.body)->∀i first st,N0 (iJ E all of l i first st)
 |[],_,i,first,st=>by rw[iJ];exact nW
 |a::l,h,i,first,st=>by
  rw[Ht]
  split
  .exact eG (by decide)
  .split
   .rename_i x hx;exact eG (an6 (h a (by simp)) st _ hx)
   .split
    .exact Vj l (fun u hu=>h u (by simp[hu])) _ _ _
    .split
     .exact Vj l (fun u hu=>h u (by simp[hu])) _ _ _
     .exact eG (by decide)
theorem an7(e:Ex):NE E e:=by
 induction e using Ex.ind with
 |h e dK hM gT=>
 intro st;rw[ox];have hx:=adD e.args dK;by_cases hf:lB e=false
 .rw[if_pos hf];exact eG (by decide)
 rw[if_neg hf];by_cases hk:e.kind=1
 .rw[if_pos hk]
  split
  .exact eG (by decide)
  .exact nW
 rw[if_neg hk];by_cases hk:e.kind=2
 .rw[if_pos hk];exact nW
 rw[if_neg hk];by_cases hk:e.kind=3
 .rw[if_pos hk]
  split
  .exact eG (by decide)
  .exact J0 ady
 rw[if_neg hk];by_cases hk:e.kind=4
 .rw[if_pos hk]
  split
  .exact eG (by decide)
  .exact J0 ady
 rw[if_neg hk];by_cases hk:e.kind=12
 .rw[if_pos hk]
  split
  .exact eG (by decide)
  .split
   .exact nW
   .exact eG (by decide)
 rw[if_neg hk];by_cases hk:e.kind=5
 .rw[if_pos hk]
  split
  .rename_i x h;exact eG (hx _ _ h)
  .exact J0 an3
 rw[if_neg hk];by_cases hk:e.kind=9
 .rw[if_pos hk]
  split
  .rename_i x h;exact eG (hx _ _ h)
  .exact J0 an4
 rw[if_neg hk];by_cases hk:e.kind=10
 .rw[if_pos hk]
  split
  .rename_i x h;exact eG (hx _ _ h)
  .exact nW
 rw[if_neg hk];by_cases hk:e.kind=6
 .rw[if_pos hk]
  split
  .exact eG (by decide)
  .split
   .rename_i x h;exact eG (adz _ h)
   .split
    .rename_i x h;exact eG (hx _ _ h)
    .exact J0 an5
 rw[if_neg hk];by_cases hk:e.kind=7\/e.kind=11
 .rw[if_pos hk]
  split
  .rename_i x h;exact eG (adA _ _ _ h)
  .split
   .rename_i x h;exact eG (adE _ hM _ _ h)
   .split
    .rename_i x h;exact eG (hx _ _ h)
    .exact nW
 rw[if_neg hk]
 split
 .rename_i x h;exact eG (hx _ _ h)
 .split
  .exact eG (by decide)
  .exact Vj _ gT _ _ _
end
theorem Vk{Q:Env}:∀(l:List Df),kJ Q l=0->∀d∈l,lJ Q d=0
 |[],_,d,hd=>by cases hd
 |c::l,h,d,hd=>by
  rw[kJ]at h
  split at h
  .rename_i hn;rw[h]at hn;simp at hn
  .rename_i hn;rcases List.mem_cons.1 hd with rfl |hd
   .simpa using hn
   .exact Vk l h d hd
theorem adF{Q:Env}{d:Df}(h:lJ Q d=0):gJ (iY Q d.params) (fun _=>none) d.body d.type:=by
 unfold lJ at h
 split at h
 .rename_i e he;exact absurd h (an7 _ _ _ he)
 .rename_i y hy
  split at h
  .rename_i hs;exact⟨([],[]),y,⟨fun p hp=>(by cases hp),by simp[Uq],fun _ _=>rfl⟩,fun _=>rfl,hy,by simpa[fY]using hs⟩
  .cases h
def S0(p:Pg):Sg:=fun c D=>∃d us,p.aj[c]?=some d/\D=d.type.sub (lk d.params us)
end
section
open Go Go.W
mutual
def Ty.dep:Ty->Nat
 |.mk _ _ l=>Gf l+1
def Gf:List Ty->Nat
 |[]=>0
 |t::l=>max t.dep (Gf l)
end
theorem Ty.adG(t:Ty):t.dep=Gf t.args+1:=by cases t;rw[Ty.dep];try rfl
theorem adH{l:List Ty}{t:Ty}(h:t∈l):t.dep<=Gf l:=by
 induction l with
 |nil=>cases h
 |cons u l ih=>
  rw[Gf];rcases List.mem_cons.1 h with rfl |h
  .omega
  .have:=ih h;omega
def OI(ds:List Dt):Nat:=Gf (ds.flatMap fun d=>d.cons.flatMap Cn.fields)
def tL(ds:List Dt)(s:cE):Nat:=(ds.filter fun d=>!has s d.name).length
def uU(s s':cE):Prop:=∀n,has s n=true->has s' n=true
theorem filter_le{α:Type}{p q:α->Bool}(h:∀a,q a=true->p a=true):∀(l:List α),(l.filter q).length<=(l.filter p).length
 |[]=>Nat.le_refl _
 |a::l=>by
  have ih:=filter_le h l;rw[List.filter_cons,List.filter_cons];cases hq:q a with
  |true=>rw[h a hq];simpa using ih
  |false=>
   cases hp:p a with
   |true=>simp;omega
   |false=>simpa using ih
theorem filter_lt{α:Type}{p q:α->Bool}(h:∀a,q a=true->p a=true):∀(l:List α),(∃a∈l,p a=true/\q a=false)->(l.filter q).length<(l.filter p).length
 |[],⟨a,ha,_⟩=>by cases ha
 |a::l,⟨b,hb,hpb,hqb⟩=>by
  have h1:=filter_le h l;rw[List.filter_cons,List.filter_cons];rcases List.mem_cons.1 hb with rfl |hb
  .rw[hpb,hqb];simp;omega
  .have ih:=filter_lt h l ⟨b,hb,hpb,hqb⟩;cases hq:q a with
   |true=>rw[h a hq];simpa using ih
   |false=>
    cases hp:p a with
    |true=>simp;omega
    |false=>simpa using ih
theorem Vl{ds:List Dt}{s s':cE}(h:uU s s'):tL ds s'<=tL ds s:=filter_le (fun d hd=>by
 cases hh:has s d.name with
 |false=>rfl
 |true=>rw[h _ hh]at hd;cases hd) ds
theorem an8(s:cE)(n:ByteArray):uU s (bS s n 1):=fun m hm=>by rw[wz,hm,Bool.or_true]
def OJ(f:wH)(P:Ty->Prop)(U:cE->Prop):Prop:=∀t s,P t->U s->∃b s',f t s=some (b,s')/\uU s s'
theorem Vm{f:wH}{P:Ty->Prop}{U:cE->Prop}(hf:OJ f P U)(hU:∀s s',U s->uU s s'->U s'):∀(l:List Ty) (s:cE),(∀t∈l,P t)->U s->∃b s',pF f l s=some (b,s')/\uU s s'
 |[],s,_,_=>⟨true,s,rfl,fun _ h=>h⟩
 |t::l,s,hl,hs=>by
  obtain⟨b,s1,h1,h2⟩:=hf t s (hl t (by simp)) hs;rw[pF,h1];cases b with
  |false=>exact⟨false,s1,rfl,h2⟩
  |true=>
   obtain⟨b,s2,h3,h4⟩:=Vm hf hU l s1 (fun u hu=>hl u (by simp[hu])) (hU _ _ hs h2);exact⟨b,s2,h3,fun n hn=>h4 n (h2 n hn)⟩
theorem adI{f:wH}{P:Ty->Prop}{U:cE->Prop}(hf:OJ f P U)(hU:∀s s',U s->uU s s'->U s'):∀(l:List Cn) (s:cE),(∀k∈l,∀t∈k.fields,P t)->U s->∃b s',wI f l s=some (b,s')/\uU s s'
 |[],s,_,_=>⟨true,s,rfl,fun _ h=>h⟩
 |k::l,s,hl,hs=>by
  obtain⟨b,s1,h1,h2⟩:=Vm hf hU k.fields s (hl k (by simp)) hs;rw[wI,h1];cases b with
  |false=>exact⟨false,s1,rfl,h2⟩
  |true=>
   obtain⟨b,s2,h3,h4⟩:=adI hf hU l s1 (fun u hu=>hl u (by simp[hu])) (hU _ _ hs h2);exact⟨b,s2,h3,fun n hn=>h4 n (h2 n hn)⟩
theorem Vn{f:wH}{P:Ty->Prop}{U:cE->Prop}(hU:∀s s',U s->uU s s'->U s')(n:ByteArray):∀(l:List Dt) (s:cE),((∃d∈l,d.name=n)->OJ f P U/\U s)->(∀d∈l,∀k∈d.cons,∀t∈k.fields,P t)->∃b s',sv f n l s=some (b,s')/\uU s s'
 |[],s,_,_=>⟨true,s,rfl,fun _ h=>h⟩
 |d::l,s,hs,hl=>by
  rw[sv];by_cases hn:d.name≠n
  .rw[if_pos hn];exact Vn hU n l s (fun⟨e,he,hh⟩=>hs ⟨e,by simp[he],hh⟩) (fun e he=>hl e (by simp[he]))
  .rw[if_neg hn];obtain⟨hf,hus⟩:=hs ⟨d,by simp,by simpa using hn⟩;obtain⟨b,s1,h1,h2⟩:=adI hf hU d.cons s (hl d (by simp)) hus;rw[h1];cases b with
   |false=>exact⟨false,s1,rfl,h2⟩
   |true=>
    obtain⟨b,s2,h3,h4⟩:=Vn hU n l s1 (fun _=>⟨hf,hU _ _ hus h2⟩) (fun e he=>hl e (by simp[he]));exact⟨b,s2,h3,fun n hn=>h4 n (h2 n hn)⟩
theorem Vo(ds:List Dt):∀(n u k:Nat),u*(OI ds+1)+k<=n->OJ (lg ds n) (fun t=>t.dep<=k) (fun s=>tL ds s<=u)
 |0,u,k,hn=>fun t s ht _=>by
  have:=t.adG;omega
 |n+1,u,k,hn=>fun t s ht hs=>by
  show ∃b s',(if t.kind=3 then some (false,s)else match pF (lg ds n) t.args s with
   |none=>none
   |some (false,s')=>some (false,s')
   |some (true,s')=>if t.kind≠4\/(aJ s' t.name).getD 0>0 then some (true,s')else sv (lg ds n) t.name ds (bS s' t.name 1))=some (b,s')/\uU s s'
  by_cases hk:t.kind=3
  .rw[if_pos hk];exact⟨_,_,rfl,fun _ h=>h⟩
  rw[if_neg hk];have hd:=t.adG;have ih:=Vo ds n u (k-1) (by omega);have hU:∀s s',tL ds s<=u->uU s s'->tL ds s'<=u:=fun s s' h1 h2=>Nat.le_trans (Vl h2) h1
  obtain⟨b,s1,h1,h2⟩:=Vm ih hU t.args s (fun x hx=>by have:=adH hx;omega) hs;rw[h1];cases b with
  |false=>exact⟨false,s1,rfl,h2⟩
  |true=>
   simp only;by_cases hc:t.kind≠4\/(aJ s1 t.name).getD 0>0
   .rw[if_pos hc];exact⟨true,s1,rfl,h2⟩
   .rw [if_neg hc];have Wk:has s1 t.name=false:=by
     unfold has;simp only[not_or]at hc
     simpa using hc.2
    have hU':∀s s',tL ds s<=u-1->uU s s'->tL ds s'<=u-1:=fun s s' h1 h2=>Nat.le_trans (Vl h2) h1
    obtain⟨b,s2,h3,h4⟩:=Vn (f:=lg ds n) (P:=fun t=>t.dep<=OI ds) (U:=fun s=>tL ds s<=u-1) hU' t.name ds (bS s1 t.name 1) (fun⟨d,DW,wT⟩=>by
     have bg:tL ds (bS s1 t.name 1)<tL ds s1:=filter_lt (fun e he=>by
      rw[wz]at he;cases hh:has s1 e.name with
      |false=>rfl
      |true=>rw[hh,Bool.or_true]at he;cases he) ds ⟨d,DW,by rw[wT,Wk];try rfl,by rw[wz,wT];simp⟩
     have h5:=Vl (ds:=ds) h2;have hu:tL ds (bS s1 t.name 1)<=u-1:=by omega
     refine⟨Vo ds n (u-1) (OI ds) ?_,hu⟩;obtain⟨u',rfl⟩:∃u',u=u'+1:=⟨u-1,by omega⟩;rw[Nat.add_mul,Nat.one_mul]at hn;rw[Nat.add_sub_cancel]
     omega) (fun d DW k hk t ht=>adH (List.mem_flatMap.2 ⟨d,DW,List.mem_flatMap.2 ⟨k,hk,ht⟩⟩))
    exact⟨b,s2,h3,fun n hn=>h4 n (an8 s1 t.name n (h2 n hn))⟩
theorem an9(ds:List Dt)(t:Ty):∃N,∀n,N<=n->∃b,Dj ds n t=some b:=by
 refine⟨tL ds []*(OI ds+1)+t.dep,fun n hn=>?_⟩;obtain⟨b,s',h,_⟩:=Vo ds n (tL ds []) t.dep hn t [] (Nat.le_refl _) (Nat.le_refl _);exact⟨b,by unfold Dj;rw[h];try rfl⟩
end
section
open Go Go.W
theorem adJ:∀(l:List Df) (E E':Env),gI l E=.ok E'->(∀n d,aJ E.aj n=some d->aJ E'.aj n=some d)/\∀d∈l,aJ E'.aj d.name=some d
 |[],E,E',h=>by rw[gI]at h;cases h;exact⟨fun _ _ h=>h,fun d hd=>(by cases hd)⟩
 |d::l,E,E',h=>by
  rw[gI]at h
  split at h
  .cases h
  .rename_i E1 h1;obtain ⟨_,a2,_⟩:=an2 h1;have hn:aJ E.aj d.name=none:=by
    unfold rj at h1
    split at h1
    .cases h1
    .rename_i hc;simp only[Bool.or_eq_true,not_or]at hc;cases hx:aJ E.aj d.name with
     |none=>rfl
     |some y=>rw[hx]at hc;simp at hc
   obtain⟨b1,b2⟩:=adJ l E1 E' h;refine⟨fun n e he=>b1 n e ?_,fun e he=>?_⟩
   .rw[a2,jg,if_neg (fun hh=>by rw[hh,he]at hn;cases hn)];exact he
   .rcases List.mem_cons.1 he with rfl |he
    .exact b1 _ _ (by rw[a2,aje])
    .exact b2 e he
theorem OK{f:Ty->Option Bool}{n:ByteArray}{gz:Bool}:∀(l:List Df),tz f n l=some (gz,true)->∃d∈l,d.name=n/\d.params=[]/\(sx d).2=gz
 |[],h=>by rw[tz]at h;cases h
 |d::l,h=>by
  rw[tz]at h
  split at h
  .obtain⟨e,he,h1⟩:=OK l h;exact⟨e,by simp[he],h1⟩
  .rename_i hn
   split at h
   .cases h
   .rename_i hp;obtain⟨b,_,h2⟩:=Δ.1 h;cases h2;exact⟨d,by simp,by simpa using hn,List.eq_nil_of_length_eq_zero (by omega),rfl⟩
abbrev adK:ByteArray:=⟨#[78,105,108]⟩
end
section
open Go Go.W
end
section
open Go Go.W
section
variable {X X':Cx} (hd:X'.aj=X.aj) (hf:X'.fields=X.fields) (hu:X.fuel<=X'.fuel)
include hd hf hu
end
end
section
open Go Go.W
def tl(s:ByteArray):ByteArray:=s++⟨#[126]⟩
section
variable (σ:Nat->Nat)
structure Way (n:Nat):Prop where
 inj:∀a b,σ a=σ b->a=b
 up:∀a,n<=a->σ (a+1)=σ a+1
end
section
variable {σ:Nat->Nat} {n:Nat} (hw:Way σ n)
end
end
section
open Go Go.W
structure an' (σ:Nat->Nat) (X X':Cx):Prop where
 fuel:X'.fuel=X.fuel
 fields:X'.fields=X.fields
 aj:∀g c,aJ X.aj g=some c->aJ X'.aj g=some (σ c)
section
variable {σ:Nat->Nat} {n:Nat} {X X':Cx} (hw:Way σ n) (hX:an' σ X X')
include hw
include hX
omit hX
include hX
omit hw in
end
end
section
open Go Go.W
theorem adL{p:Pg}{N:Nat}{name:ByteArray}{input:List Int}{fuel:Int}{r:Int×Option Rn}(h:yc p N name input fuel=some r)(h0:r.1=0):∃gz a,r=(0,some a)/\FF p N name=some (gz,true)/\(0<=fuel/\fuel<=1048576)/\runM p fuel name gz input=some a:=by
 unfold yc at h
 split at h
 .cases h;cases h0
 .split at h
  .cases h;cases h0
  .split at h
   .cases h;cases h0
   .rename_i hf
    split at h
    .rename_i hc;cases h;exact absurd h0 hc
    .split at h
     .cases h
     .cases h;cases h0
     .rename_i gz he;obtain⟨a,ha,rfl⟩:=Δ.1 h;exact⟨gz,a,rfl,he,by omega,ha⟩
end
section
open Go Go.W
def sig(n c:Nat):Nat:=if c<n then n-1-c else c+1
section
variable {σ:Nat->Nat} {n:Nat} (hw:Way σ n)
include hw
end
end
section
open Go Go.W
theorem adM:∀(l:List Df) {E E':Env},gI l E=.ok E'->(l.map Df.name).Nodup/\∀d∈l,aJ E.aj d.name=none
 |[],E,E',_=>⟨List.nodup_nil,fun d hd=>by cases hd⟩
 |d::l,E,E',h=>by
  rw[gI]at h
  split at h
  .cases h
  .rename_i E1 h1;obtain⟨i1,i2⟩:=adM l h;have kT:=h1;unfold rj at kT
   split at kT
   .cases kT
   .rename_i hc
    split at kT
    .cases kT
    .split at kT
     .cases kT
     .cases kT;have hn:aJ E.aj d.name=none:=by
       cases hg:aJ E.aj d.name with
       |none=>rfl
       |some x=>rw[hg]at hc;simp at hc
      have key:∀x∈l,d.name≠x.name/\aJ E.aj x.name=none:=fun x hx=>by
       have:=i2 x hx;rw[jg]at this;by_cases e:d.name=x.name
       .rw[if_pos e]at this;cases this
       .rw[if_neg e]at this;exact⟨e,this⟩
      refine⟨?_,fun x hx=>?_⟩
      .rw[List.map_cons,List.nodup_cons];refine⟨fun hm=>?_,i1⟩;obtain⟨x,hx,e⟩:=List.mem_map.1 hm;exact(key x hx).1 e.symm
      .rcases List.mem_cons.1 hx with rfl |hx
       .exact hn
       .exact(key x hx).2
theorem adN{p:Pg}(h:fe p=0):(p.aj.map Df.name).Nodup:=by
 obtain⟨E,hE⟩:=Nk h;obtain⟨E1,_,h2,_⟩:=IJ hE;exact(adM _ h2).1
end
section
open Go Go.W
structure yA (Q:Env):Prop where
 gZ:∀ps,nC (iY Q ps)
 bool:∀ps,eR (iY Q ps) jq 0=false
 cons:∀k x,aJ Q.cons k=some x->(gg x.1 x.2).length<=8
 yes:aJ Q.cons tk=some (mh,1)
 no:aJ Q.cons A8=some (mh,0)
def pN(v:dS)(Γ:Gm):Prop:=∀x U,Γ x=some U->∃c,Fj v x=some c
def BM(Q:Env)(e:Ex)(v:dS):Prop:=∃ps Γ T,gJ (iY Q ps) Γ e T/\pN v Γ
def tM(Q:Env):Cl->Prop
 |.num _=>True
 |.bE k cs=>(∀x,aJ Q.cons k=some x->cs.length=(gg x.1 x.2).length)/\cs.length<=8
 |.iL k l cs=>(∀x,aJ Q.cons k=some x->(cs.length:Int)+l=(gg x.1 x.2).length)/\0<l/\(cs.length:Int)+l<=8
 |.jN e v=>e.kind=6/\BM Q e v
 |_=>False
def Gg(Q:Env):Cl->Prop
 |.wait e v=>BM Q e v
 |.busy=>True
 |x=>tM Q x
def Vp(Q:Env):Fm->Prop
 |.app e v=>∃f y,e.args=[f,y]/\BM Q y v
 |.oE e v=>∃ps Γ T of,(∀a∈e.alts,Is (iY Q ps) Γ of T a)/\pN v Γ
 |.fst e v=>∃a y,e.args=[a,y]/\BM Q y v
 |.seq e v=>∃a y,e.args=[a,y]/\BM Q y v
 |.nO e v=>∃b y ps Γ T,e.binds=[b]/\e.args=[y]/\gJ (iY Q ps) (xY Γ b.name b.type) y T/\pN v Γ
 |_=>True
def lj(Q:Env)(m:Rn):Prop:=(∀c∈m.cells,Gg Q c)/\∀f∈m.bA,Vp Q f
def OkD(Q:Env):Md->Prop
 |.go e v=>BM Q e v
 |.val x=>tM Q x
def BN(Q:Env):R3->Prop
 |(none,_)=>True
 |(some md,m)=>OkD Q md/\lj Q m
def DX(X:Cx)(Q:Env):Prop:=(∀n d,aJ Q.aj n=some d->∃c,aJ X.aj n=some c)/\∀k x,aJ Q.cons k=some x->(aJ X.fields k).getD 0=(gg x.1 x.2).length
section
variable {Q:Env} {X:Cx} {m:Rn}
theorem OL{x:Cl}(h:tM Q x):Gg Q x:=by
 cases x with
 |wait e v=>exact h.elim
 |busy=>trivial
 |_=>exact h
theorem lj.set(h:lj Q m){c:Nat}{x:Cl}(hx:Gg Q x):lj Q (m.put c x):=⟨fun y hy=>by
 rcases List.mem_or_eq_of_mem_set hy with h1 |rfl
 ·exact h.1 y h1
 ·exact hx,h.2⟩
theorem lj.new(h:lj Q m){x:Cl}(hx:Gg Q x):lj Q (m.new x):=⟨fun y hy=>by
 rcases List.mem_append.1 hy with h1 |h1
 ·exact h.1 y h1
 ·rw[List.mem_singleton.1 h1];exact hx,h.2⟩
theorem lj.push(h:lj Q m){f:Fm}(hf:Vp Q f):lj Q (m.push f):=⟨h.1,fun y hy=>by
 rcases List.mem_append.1 hy with h1 |h1
 ·exact h.2 y h1
 ·rw[List.mem_singleton.1 h1];exact hf⟩
theorem OM(h:lj Q m)(c:Nat):BN Q (jO m c):=by
 unfold jO
 split
 .rename_i e v hc;have h1:BM Q e v:=h.1 _ (List.mem_of_getElem? hc);exact⟨h1,(h.set (x:=.busy) trivial).push (f:=.fm c) trivial⟩
 .exact⟨trivial,h⟩
 .rename_i hc;exact⟨h.1 _ (List.mem_of_getElem? hc),h⟩
 .rename_i hc;exact⟨h.1 _ (List.mem_of_getElem? hc),h⟩
 .rename_i hc;exact⟨h.1 _ (List.mem_of_getElem? hc),h⟩
 .trivial
theorem adO{k:ByteArray}{l:Int}{cs:List Nat}(h:∀x,aJ Q.cons k=some x->(cs.length:Int)+l=(gg x.1 x.2).length)(h0:0<=l)(h8:(cs.length:Int)+l<=8):tM Q (tj k l cs):=by
 unfold tj;by_cases hz:l=0
 .rw[if_pos hz];exact⟨fun x hx=>by have:=h x hx;omega,by omega⟩
 .rw[if_neg hz];exact⟨h,by omega,h8⟩
theorem pN.put{v:dS}{Γ:Gm}(h:pN v Γ)(n:ByteArray)(t:Ty)(c:Nat):pN ((n,c)::v) (xY Γ n t):=fun x U hx=>by
 unfold xY at hx;show ∃c',aJ ((n,c)::v) x=some c';by_cases hn:n=x
 .exact⟨c,by simp[aJ,hn]⟩
 .rw[if_neg hn]at hx;obtain⟨c',B4⟩:=h x U hx
  exact⟨c',by
   have h1:aJ v x=some c':=B4;unfold aJ at h1 ⊢
   rw[List.find?_cons_of_neg (by simpa using hn)];exact h1⟩
theorem pN.let:∀(l:List Bd) {v:dS} {Γ:Gm} (i:Nat),pN v Γ->pN (pz l i v) (pE l Γ)
 |[],v,Γ,i,h=>h
 |b::l,v,Γ,i,h=>pN.let l (i+1) (h.put b.name b.type i)
theorem pN.vars{ps:List ByteArray}{bs:List Ty}:∀(l:List ByteArray) (cs:List Nat) (fs:List Ty) {v:dS} {Γ:Gm},pN v Γ->l.length=cs.length->l.length=fs.length->∃v',so l cs v=some v'/\pN v' (tv ps bs l fs Γ)
 |[],cs,fs,v,Γ,h,_,_=>⟨v,by rw[so],by unfold tv;exact h⟩
 |s::l,c::cs,f::fs,v,Γ,h,h1,h2=>pN.vars l cs fs (h.put s (iv ps bs f).1 c) (by simpa using h1) (by simpa using h2)
 |_::_,[],_,_,_,_,h1,_=>by simp at h1
 |_::_,_::_,[],_,_,_,_,h2=>by simp at h2
theorem aoa(hQ:yA Q)(hX:DX X Q){e:Ex}{v:dS}(hm:lj Q m)(he:BM Q e v):∃r,sk X e v m=some r/\BN Q r:=by
 obtain⟨ps,Γ,T,hc,hn⟩:=he;have F:=EW (MW hc);unfold sk;by_cases hk:e.kind=1
 .rw[if_pos hk];obtain⟨c,hf⟩:=hn _ _ (akk hc hk);rw[hf];exact⟨_,rfl,OM hm c⟩
 rw[if_neg hk];by_cases hk:e.kind=3
 .rw[if_pos hk];obtain⟨d,hd,_⟩:=aav hc hk;obtain⟨c,pS⟩:=hX.1 _ _ hd;rw[pS];exact⟨_,rfl,OM hm c⟩
 rw[if_neg hk];by_cases hk:e.kind=2
 .rw[if_pos hk];exact⟨_,rfl,trivial,hm⟩
 rw[if_neg hk];by_cases hk:e.kind=4
 .rw[if_pos hk];obtain⟨x,hd,_⟩:=akl hc hk;have hd:aJ Q.cons e.name=some x:=hd;have h8:=hQ.cons _ _ hd;rw[hX.2 _ _ hd];exact⟨_,rfl,adO (fun y hy=>by rw[hd]at hy;cases hy;simp) (by omega) (by simp;omega),hm⟩
 rw[if_neg hk];by_cases hk:e.kind=6
 .rw[if_pos hk];exact⟨_,rfl,⟨hk,ps,Γ,T,hc,hn⟩,hm⟩
 rw[if_neg hk];by_cases hk:e.kind=12
 .rw[if_pos hk];exact⟨_,rfl,trivial⟩
 rw[if_neg hk];by_cases hk:e.kind=7
 .rw[if_pos hk];obtain⟨x,db,Gh,jl⟩:=SD (hQ.gZ _) (hQ.bool _) hc (.inl hk);rw[db];have hl:=pN.let e.binds m.cells.length hn;refine⟨_,rfl,⟨ps,_,T,jl,hl⟩,fun y hy=>?_,hm.2⟩;rcases List.mem_append.1 hy with h1 |h1
  .exact hm.1 y h1
  .obtain⟨b,hb,rfl⟩:=List.mem_map.1 h1;have:=Gh b hb;rw[if_pos hk]at this;exact⟨ps,_,b.type,this,hl⟩
 rw[if_neg hk];by_cases hk:e.kind=11
 .rw[if_pos hk];obtain⟨b,eN⟩:=Ir (F.b1 (.inr hk));obtain⟨x,db,Gh,jl⟩:=SD (hQ.gZ _) (hQ.bool _) hc (.inr hk);rw[eN]at Gh jl ⊢;have h1:=Gh b (by simp);rw[if_neg (by omega)]at h1;exact⟨_,rfl,⟨ps,Γ,b.type,h1,hn⟩,hm.push (f:=.nO e v) ⟨b,x,ps,Γ,T,eN,db,jl,hn⟩⟩
 rw[if_neg hk];have hr:=F.xk;by_cases hk:e.kind=5
 .obtain⟨f,y,_,_,db,h1,_,_,h2⟩:=aax (hQ.gZ _) (hQ.bool _) hc hk;rw[db];simp only;rw[if_pos hk];exact⟨_,rfl,⟨ps,Γ,_,h1,hn⟩,hm.push (f:=.app e v) ⟨f,y,db,ps,Γ,_,h2,hn⟩⟩
 by_cases zk:e.kind=8
 .obtain⟨x,of,db,h1,_,h2⟩:=aaD (hQ.gZ _) (hQ.bool _) hc zk;rw[db];simp only;rw[if_neg hk,if_pos zk];exact⟨_,rfl,⟨ps,Γ,_,h1,hn⟩,hm.push (f:=.oE e v) ⟨ps,Γ,T,of,h2,hn⟩⟩
 by_cases uA:e.kind=9
 .obtain⟨a,y,_,_,db,h1,h2,_⟩:=aay (hQ.gZ _) (hQ.bool _) hc uA;rw[db];simp only;rw[if_neg hk,if_neg zk,if_pos uA];exact⟨_,rfl,⟨ps,Γ,_,h1,hn⟩,hm.push (f:=.fst e v) ⟨a,y,db,ps,Γ,_,h2,hn⟩⟩
 have wm:e.kind=10:=by omega
 obtain⟨a,y,_,db,h1,h2⟩:=aaz (hQ.gZ _) (hQ.bool _) hc wm;rw[db];simp only;rw[if_neg hk,if_neg zk,if_neg uA,if_pos wm];exact⟨_,rfl,⟨ps,Γ,_,h1,hn⟩,hm.push (f:=.seq e v) ⟨a,y,db,ps,Γ,_,h2,hn⟩⟩
theorem adP(hQ:yA Q){x:Cl}{c:Nat}(hm:lj Q m)(hx:tM Q x):∃r,qt m x c=some r/\BN Q r:=by
 cases x with
 |jN e v=>
  obtain⟨hk,ps,Γ,T,h1,h2⟩:=hx;obtain⟨b,y,t,eN,db,_,Gh⟩:=aaA h1 hk;unfold qt;simp only[eN,db];exact⟨_,rfl,⟨ps,_,t,Gh,h2.put _ _ _⟩,hm⟩
 |iL k l cs=>
  obtain⟨h1,h2,h3⟩:=hx;have e:Wr (l-1)=l-1:=dJ (by omega) (by omega);unfold qt;simp only;rw[if_pos (by omega),e];exact⟨_,rfl,adO (fun x hx=>by have:=h1 x hx;rw[List.length_append,List.length_singleton];omega) (by omega) (by rw[List.length_append,List.length_singleton];omega),hm⟩
 |_=>exact⟨_,rfl,trivial⟩
theorem aob(hQ:yA Q){n:ByteArray}{a b:Int}{y:Cl}(h:rn n a b=some y):tM Q y:=by
 unfold rn at h
 split at h
 .cases h;trivial
 split at h
 .cases h;trivial
 split at h
 .cases h;trivial
 split at h
 .split at h
  .cases h
  .split at h<;>(cases h;trivial)
 cases h;refine⟨fun x hx=>?_,by simp⟩
 split at hx
 .rw[hQ.yes]at hx;cases hx;rfl
 .rw[hQ.no]at hx;cases hx;rfl
theorem adQ{v:dS}{x:Cl}(hm:lj Q m)(hx:tM Q x){ps:List ByteArray}{Γ:Gm}{T of:Ty}(hn:pN v Γ):∀(l:List Al),(∀a∈l,Is (iY Q ps) Γ of T a)->∃r,iM m v x l=some r/\BN Q r
 |[],_=>⟨(none,m.stop 2),by rw[iM],trivial⟩
 |a::l,h=>by
  rw[iM];have next:=adQ hm hx hn l (fun b hb=>h b (by simp[hb]));by_cases hc:(a.kind == 3||(a.kind == 2&&(mj x).isNone&&a.num == numOf x))=true
  .rw [if_pos hc];have hk:a.kind=3∨a.kind=2:=by
    simp only[Bool.or_eq_true,Bool.and_eq_true,beq_iff_eq]at hc;rcases hc with hc |hc
    .exact .inl hc
    .exact .inr hc.1.1
   rcases h a (by simp)with⟨_,hb⟩ |⟨_,_,hb⟩ |⟨jv,_⟩
   .exact⟨_,rfl,⟨ps,Γ,T,hb,hn⟩,hm⟩
   .exact⟨_,rfl,⟨ps,Γ,T,hb,hn⟩,hm⟩
   .omega
  .rw[if_neg hc];cases x with
   |bE k cs=>
    show ∃r,(if(a.kind == 1&&bw a.bE k)=true then(so a.vars cs v).map (fun v'=>(some (Md.go a.body v'),m))else iM m v (.bE k cs) l)=some r/\BN Q r;by_cases hq:(a.kind == 1&&bw a.bE k)=true
    .rw [if_pos hq];simp only [Bool.and_eq_true,beq_iff_eq] at hq;have kR:a.bE=k:=by
      have:=hq.2;rw[y5]at this
      simpa using this
     rcases h a (by simp)with⟨hk,_⟩ |⟨hk,_,_⟩ |⟨_,eU,y,hy,hyn,hlen,se,hb⟩
     .omega
     .omega
     .have hy2:aJ Q.cons a.bE=some y:=hy;rw[kR]at hy2;have hl:=hx.1 y hy2;obtain⟨v',nj,B4⟩:=pN.vars (ps:=y.1.params) (bs:=of.args) a.vars cs (gg y.1 y.2) hn (by omega) (by omega);rw[nj];exact⟨_,rfl,⟨ps,_,T,hb,B4⟩,hm⟩
    .rw[if_neg hq];exact next
   |_=>exact next
theorem aoc(hQ:yA Q){x:Cl}{f:Fm}(hm:lj Q m)(hx:tM Q x)(hf:Vp Q f):∃r,kK f x m=some r/\BN Q r:=by
 cases f with
 |fm c=>exact⟨_,rfl,hx,hm.set (OL hx)⟩
 |app e v=>
  obtain⟨g,y,db,h⟩:=hf;unfold kK;simp only[db];exact adP hQ (hm.new (x:=.wait y v) h) hx
 |oE e v=>
  obtain⟨ps,Γ,T,of,h1,h2⟩:=hf;exact adQ hm hx h2 e.alts h1
 |fst e v=>
  obtain⟨a,y,db,h⟩:=hf;unfold kK;simp only[db];exact⟨_,rfl,h,hm.push (f:=.snd e (numOf x)) trivial⟩
 |snd e n=>
  unfold kK;simp only;cases ho:rn e.name n (numOf x)with
  |none=>exact⟨_,rfl,trivial⟩
  |some y=>exact⟨_,rfl,aob hQ ho,hm⟩
 |seq e v=>
  obtain⟨a,y,db,h⟩:=hf;unfold kK;simp only[db];exact⟨_,rfl,h,hm⟩
 |nO e v=>
  obtain⟨b,y,ps,Γ,T,eN,db,h1,h2⟩:=hf;unfold kK;simp only[eN,db];exact⟨_,rfl,⟨ps,_,T,h1,h2.put _ _ _⟩,hm.new (OL hx)⟩
def J1(Q:Env):Option Cl×Rn->Prop
 |(none,_)=>True
 |(some x,m)=>tM Q x/\lj Q m
theorem ON(hQ:yA Q)(hX:DX X Q):∀(n:Nat) {md:Md} {m:Rn},lj Q m->OkD Q md->m.steps<=X.fuel->FA X md m<n->∃r,fQ X n md m=some r/\J1 Q r
 |0,md,m,_,_,_,hn=>by omega
 |n+1,.go e v,m,hm,qy,hs,hn=>by
  rw[fQ];rcases C7 X m with⟨h1,h2⟩ |⟨h1,h2⟩
  .rw[h2,if_pos rfl];exact⟨_,rfl,trivial⟩
  .rw[h2,if_neg (by simp)];obtain⟨r,hb,ho⟩:=aoa (m:={ m with steps:=m.steps+1}) hQ hX hm qy;have k:=MZ hb;simp only[hb]
   match r,ho,k with
   |(none,m'),ho,k=>exact⟨_,rfl,trivial⟩
   |(some sr,m'),⟨a1,a2⟩,k=>
    have ks:m'.steps=m.steps+1:=k.steps;have kf:m'.bA.length<=m.bA.length+1:=k.fl;refine ON hQ hX n a2 a1 (by omega) ?_;cases sr<;>(simp only[FA]at hn ⊢;omega)
 |n+1,.val x,m,hm,qy,hs,hn=>by
  rw[fQ];cases hl:m.bA.getLast? with
  |none=>exact⟨_,rfl,qy,hm⟩
  |some f=>
   have bJ:m.bA≠[]:=fun e=>by rw[e]at hl;cases hl
   have zU:f∈m.bA:=List.mem_of_getLast? hl;have hlen:m.bA.length=m.bA.dropLast.length+1:=by
    have:=List.length_pos_iff.2 bJ;rw[List.length_dropLast];omega
   obtain⟨r,hb,ho⟩:=aoc (m:={ m with bA:=m.bA.dropLast}) hQ ⟨hm.1,fun g hg=>hm.2 g (List.dropLast_subset _ hg)⟩ qy (hm.2 f zU);have k:=M5 hb;simp only[hb]
   match r,ho,k with
   |(none,m'),ho,k=>exact⟨_,rfl,trivial⟩
   |(some sr,m'),⟨a1,a2⟩,k=>
    have ks:m'.steps=m.steps:=k.steps;have kf:m'.bA.length<=m.bA.dropLast.length+1:=k.fl;have kv:∀x,some sr=some (Md.val x)->m'.bA.length<=m.bA.dropLast.length:=k.flv;refine ON hQ hX n a2 a1 (by omega) ?_;cases sr with
    |go e v=>simp only[FA]at hn ⊢;omega
    |val y=>have:=kv y rfl;simp only[FA]at hn ⊢;omega
end
end
section
open Go Go.W
theorem aod{E E':Env}{d:Df}(h:rj E d=.ok E'):E'.cons=E.cons/\E'.aj=bS E.aj d.name d:=by
 unfold rj at h
 split at h
 .cases h
 .split at h
  .cases h
  .split at h
   .cases h
   .cases h;exact⟨rfl,rfl⟩
theorem adR{all:List Df}:∀ (l:List Df) (i:Nat) (E E':Env) (ds:List (ByteArray×Nat)),all.drop i=l→gI l E = .ok E'→(∀ n d,aJ E.aj n=some d→∃ c,aJ ds n=some c∧all[c]? = some d) →
   E'.cons=E.cons/\∀n d,aJ E'.aj n=some d->∃c,aJ (fR l i ds) n=some c/\all[c]?=some d
 |[],i,E,E',ds,_,h,hd=>by rw[gI]at h;cases h;exact⟨rfl,hd⟩
 |d::l,i,E,E',ds,ha,h,hd=>by
  rw[gI]at h
  split at h
  .cases h
  .rename_i E1 h1;obtain ⟨a1,a2⟩:=aod h1;have hi:i < all.length:=by
    apply Classical.byContradiction;intro hn;rw[List.drop_eq_nil_of_le (by omega)]at ha;cases ha
   rw[Ω hi]at ha
   injection ha with hk ja
   obtain⟨b1,b2⟩:=adR l (i+1) E1 E' (bS ds d.name i) ja h (fun n e he=>by
    rw[a2,jg]at he;rw[jg];by_cases hn:d.name=n
    ·rw[if_pos hn]at he ⊢;cases he;exact⟨i,rfl,by rw[Ξ hi,hk]⟩
    ·rw[if_neg hn]at he ⊢
     exact hd n e he)
   exact⟨b1.trans a1,b2⟩
theorem adS{p:Pg}{Q:Env}(h:mM p=.ok Q):∃E1,oB jM p.aK=.ok E1/\gI p.aj E1=.ok Q/\yA Q/\(∀n x,aJ Q.cons n=some x->(aJ (wF p.aK wG) n).getD 0=(gg x.1 x.2).length)/\(∀n d,aJ Q.aj n=some d->∃c,aJ (fR p.aj 0 []) n=some c/\p.aj[c]?=some d)/\(∀n x,aJ jM.cons n=some x->aJ Q.cons n=some x):=by
 obtain⟨E1,h1,h2,h3⟩:=IJ h;obtain⟨_,_,Vq⟩:=ZG h1;obtain⟨c1,c2⟩:=adR (all:=p.aj) p.aj 0 E1 Q [] (by simp) h2 (fun n d hd=>by rw[Vq]at hd;cases hd);have kT:=h1;unfold oB at kT
 split at kT
 .cases kT
 .rename_i E' th
  split at kT
  .cases kT;obtain⟨hc,hk⟩:=adx p.aK jM E1 wG mL an1 th;refine⟨E1,h1,h2,⟨fun ps=>(RR h1 h2 ps).1,fun ps=>(RR h1 h2 ps).2,fun n x hx=>?_,?_,?_⟩,fun n x hx=>?_,c2,fun n x hx=>?_⟩
   .rw[c1]at hx;exact hc.len n x hx
   .rw[c1];exact hk _ _ (by rw[Ge];try rfl)
   .rw[c1];exact hk _ _ (by rw[Ge];try rfl)
   .rw[c1]at hx;exact hc.fields n x hx
   .rw[c1];exact hk n x hx
  .cases kT
section
variable {Q:Env} {X:Cx}
theorem adT{n:Nat}(hQ:yA Q)(hX:DX X Q){m:Rn}{rr:R3}(ho:BN Q rr)(dO:zR m rr)(hf:m.bA=[])(hs:m.steps≤X.fuel)(hn:3*(X.fuel - m.steps).toNat+2 < n) :
   ∃r,(match rr with |(none,m')=>some (none,m') |(some (.val x),m')=>some (some x,m') |(some (.go e v),m')=>fQ X n (.go e v) m')=some r/\J1 Q r:=by
 match rr,ho,dO with
 |(none,m'),ho,dO=>exact⟨_,rfl,trivial⟩
 |(some (.val x),m'),⟨a1,a2⟩,dO=>exact⟨_,rfl,a1,a2⟩
 |(some (.go e v),m'),⟨a1,a2⟩,dO=>
  have ks:m'.steps=m.steps:=dO.steps;have kf:m'.bA.length<=m.bA.length+1:=dO.fl;rw[hf]at kf;have kf:m'.bA.length<=1:=by simpa using kf
  exact ON hQ hX n a2 a1 (by omega) (by simp only[FA];omega)
theorem aoe(hQ:yA Q)(hX:DX X Q){n c:Nat}{m:Rn}(hm:lj Q m)(hf:m.bA=[])(hs:m.steps<=X.fuel)(hn:3*(X.fuel-m.steps).toNat+2<n):∃r,rp X n c m=some r/\J1 Q r:=
 adT hQ hX (OM hm c) (Fz m c) hf hs hn
theorem aof(hQ:yA Q)(hX:DX X Q){n c:Nat}{m:Rn}{x:Cl}(hm:lj Q m)(hx:tM Q x)(hf:m.bA=[])(hs:m.steps<=X.fuel)(hn:3*(X.fuel-m.steps).toNat+2<n):∃r,uC X n x c m=some r/\J1 Q r:=by
 obtain⟨rr,hr,ho⟩:=adP (c:=c) hQ hm hx;unfold uC;rw[hr]
 match rr,ho,M4 hr with
 |(none,m'),ho,dO=>exact⟨_,rfl,trivial⟩
 |(some (.val x),m'),⟨a1,a2⟩,dO=>exact⟨_,rfl,a1,a2⟩
 |(some (.go e v),m'),⟨a1,a2⟩,dO=>exact adT hQ hX (rr:=(some (.go e v),m')) ⟨a1,a2⟩ dO hf hs hn
theorem aog{x:Cl}(h:tM Q x):(fieldsOf x).length<=8:=by
 cases x with
 |bE k cs=>exact h.2
 |_=>simp[fieldsOf]
theorem Vr(hQ:yA Q)(hX:DX X Q)(hF:X.fuel<=1048576):∀(n:Nat) {x:Cl} {ws:List Nat} {m:Rn},lj Q m->tM Q x->m.bA=[]->(ws.length:Int)<=8*m.steps->0<=m.steps->m.steps<=X.fuel->3*(X.fuel-m.steps).toNat+4<=n->∃m',kY X n x ws m=some m'
 |0,x,ws,m,_,_,_,_,_,_,hn=>by omega
 |n+1,x,ws,m,hm,hv,hf,hwl,tP,hs,hn=>by
  have hf8:=aog hv;rw[kY];rcases C7 X m with⟨h1,h2⟩ |⟨h1,h2⟩
  .rw[h2,if_pos rfl];exact⟨_,rfl⟩
  .rw[h2,if_neg (by simp)];simp only;have hlen:(ws++(fieldsOf x).reverse).length<=ws.length+8:=by simp;omega
   rw[if_neg (by omega)];generalize DE:ws++(fieldsOf x).reverse=Je at hlen;cases hl:Je.getLast? with
   |none=>exact⟨_,rfl⟩
   |some c=>
    have BY:0<Je.length:=List.length_pos_of_mem (List.mem_of_getLast? hl);obtain⟨r,hr,he⟩:=aoe hQ hX (n:=n) (c:=c) (m:={ m with steps:=m.steps+1,told:=m.told++rq x}) hm hf (show m.steps+1<=X.fuel by omega) (show 3*(X.fuel-(m.steps+1)).toNat+2<n by omega);have hg:=FB hr hf;simp only[hr]
    match r,he,hg with
    |(none,m'),he,hg=>exact⟨_,rfl⟩
    |(some y,m'),⟨a1,a2⟩,hg=>
     have gs:m.steps+1<=m'.steps:=hg.steps;have gf:m.steps+1<=X.fuel->m'.steps<=X.fuel:=hg.fuel;obtain⟨_,_,J2⟩:=hg.val y rfl;exact Vr hQ hX hF n a2 a1 J2 (by rw[List.length_dropLast];omega) (by omega) (gf (by omega)) (by omega)
theorem adU(hN:aJ Q.cons adK=some (dList,0))(hC:aJ Q.cons Da=some (dList,1)):∀(l:List Int) {cells:List Cl},(∀c∈cells,Gg Q c)->(∀c∈(kj l cells).2,Gg Q c)/\tM Q (kj l cells).1
 |[],cells,h=>⟨h,fun x hx=>by rw[show(⟨#[78,105,108]⟩:ByteArray)=adK from rfl,hN]at hx;cases hx;rfl,by simp⟩
 |n::l,cells,h=>by
  obtain⟨h1,h2⟩:=adU hN hC l h;refine⟨fun c hc=>?_,fun x hx=>by rw[show(⟨#[67,111,110,115]⟩:ByteArray)=Da from rfl,hC]at hx;cases hx;rfl,by simp⟩;rcases List.mem_append.1 hc with hc |hc
  .exact h1 c hc
  .rcases List.mem_cons.1 hc with rfl |hc
   .trivial
   .rw[List.mem_singleton.1 hc];exact OL h2
end
theorem aoh{p:Pg}{Q:Env}{fuel:Int}{name:ByteArray}{gz:Bool}{f:Ty->Option Bool}(h:mM p=.ok Q)(he:tz f name p.aj=some (gz,true))(hf:0<=fuel/\fuel<=1048576)(input:List Int):∃m,runM p fuel name gz input=some m:=by
 obtain⟨E1,h1,h2,hQ,iu,hd,adV⟩:=adS h;obtain⟨_,_,_,hb⟩:=IJ h;have hX:DX (fH p fuel) Q:=⟨fun n d hn=>by obtain⟨c,h3,_⟩:=hd n d hn;exact⟨c,h3⟩,iu⟩
 have hm:lj Q (iO p):=⟨fun c hc=>by
  obtain⟨d,DW,rfl⟩:=List.mem_map.1 hc
  exact⟨d.params,_,d.type,adF (Vk _ hb d DW),fun x U hx=>by cases hx⟩,fun f hf=>by cases hf⟩
 obtain⟨d,DW,wT,_,_⟩:=OK p.aj he;have hQd:aJ Q.aj name=some d:=by rw[<- wT];exact(adJ p.aj E1 Q h2).2 d DW
 obtain⟨c,hc,_⟩:=hd _ _ hQd;have Gj:(fH p fuel).fuel=fuel:=rfl;have dN:∃r,fQ (fH p fuel) oI (.go (pG name) []) (iO p)=some r/\J1 Q r:=by
  show ∃r,fQ (fH p fuel) (16777215+1) (.go (pG name) []) (iO p)=some r/\_;rw[fQ];rcases C7 (fH p fuel) (iO p)with⟨q1,q2⟩ |⟨q1,q2⟩
  .rw[q2,if_pos rfl];exact⟨_,rfl,trivial⟩
  .rw [q2,if_neg (by simp)];have hb:sk (fH p fuel) (pG name) [] { iO p with steps:=(iO p).steps+1}=some (jO { iO p with steps:=(iO p).steps+1} c):=by
    unfold sk;rw[if_neg (show ¬(pG name).kind=1 from(show ¬(3:Int)=1 by decide)),if_pos (show(pG name).kind=3 from rfl)];show(aJ (fH p fuel).aj name).map _=_;rw[show aJ (fH p fuel).aj name=some c from hc];try rfl
   simp only[hb];have ho:BN Q (jO { iO p with steps:=(iO p).steps+1} c):=OM (m:={ iO p with steps:=(iO p).steps+1}) ⟨hm.1,hm.2⟩ c;have dO:=Fz { iO p with steps:=(iO p).steps+1} c;generalize jO { iO p with steps:=(iO p).steps+1} c=rr at ho dO
   match rr,ho,dO with
   |(none,m'),ho,dO=>exact⟨_,rfl,trivial⟩
   |(some sr,m'),⟨a1,a2⟩,dO=>
    have ks:m'.steps=0+1:=dO.steps;have kf:m'.bA.length<=0+1:=dO.fl;have HO:(0:Int)≠fuel:=q1;refine ON hQ hX _ a2 a1 (by rw[Gj];omega) ?_;cases sr<;>(simp only[FA,Gj];omega)
 obtain⟨r,hr,oV⟩:=dN;have hg:=xZ _ hr;unfold runM;rw[hr]
 match r,oV,hg with
 |(none,m),oV,hg=>exact⟨_,rfl⟩
 |(some x,m),⟨a1,a2⟩,hg=>
  have gs:(0:Int)<=m.steps:=hg.steps;have gf:m.steps<=fuel:=hg.fuel (show(0:Int)<=fuel from hf.1);obtain⟨_,_,J2⟩:=hg.val x rfl;cases gz with
  |false=>
   simp only[Bool.false_eq_true,if_false];exact Vr hQ hX (by rw[Gj];exact hf.2) oI a2 a1 J2 (by simp;omega) gs (by rw[Gj];exact gf) (show 3*(fuel-m.steps).toNat+4<=16777216 by omega)
  |true=>
   simp only[if_true];obtain⟨l1,l2⟩:=adU (adV _ _ (by rw[Ge];rfl)) (adV _ _ (by rw[Ge];try rfl)) input a2.1;have b5:lj Q ((m.ls input).new (kj input m.cells).1):=lj.new (m:=m.ls input) ⟨l1,a2.2⟩ (OL l2);obtain⟨r2,y6,adW⟩:=aof (c:=(m.ls input).cells.length) (n:=oI) hQ hX b5 a1 J2 (show m.steps<=fuel from gf) (show 3*(fuel-m.steps).toNat+2<16777216 by omega);have iF:=FI y6 (show m.bA=[]from J2);rw[y6]
   match r2,adW,iF with
   |(none,m2),adW,iF=>exact⟨_,rfl⟩
   |(some y2,m2),⟨c1,c2⟩,iF=>
    have gs2:m.steps<=m2.steps:=iF.steps;have gf2:m2.steps<=fuel:=iF.fuel (show m.steps<=fuel from gf);obtain⟨_,_,aoi⟩:=iF.val y2 rfl;exact Vr hQ hX (by rw[Gj];exact hf.2) oI c2 c1 aoi (by simp;omega) (by omega) (by rw[Gj];exact gf2) (show 3*(fuel-m2.steps).toNat+4<=16777216 by omega)
theorem adX(p:Pg)(name:ByteArray):∃N,∀input fuel,∃dx,yc p N name input fuel=some dx/\(dx.1=0->∃m,dx.2=some m):=by
 have JY:∀(l:List Df),∃N0,∀N,N0<=N->∃e,tz (Dj p.aK N) name l=some e:=by
  intro l
  induction l with
  |nil=>exact⟨0,fun N _=>⟨_,rfl⟩⟩
  |cons d l ih=>
   obtain⟨N1,h1⟩:=ih;obtain⟨N2,h2⟩:=an9 p.aK (sx d).1;refine⟨max N1 N2,fun N hN=>?_⟩;obtain⟨e,he⟩:=h1 N (by omega);obtain⟨b,hb⟩:=h2 N (by omega);rw[tz]
   split
   .exact⟨e,he⟩
   .split
    .exact⟨_,rfl⟩
    .rw[hb];exact⟨_,rfl⟩
 obtain⟨N,hN⟩:=JY p.aj;refine⟨N,fun input fuel=>?_⟩;obtain⟨e,he⟩:=hN N (Nat.le_refl _);unfold yc;by_cases c1:10000<input.length
 .rw[if_pos c1];exact⟨_,rfl,fun h=>absurd (show(2:Int)=0 from h) (by decide)⟩
 rw[if_neg c1];by_cases c2:Bw input=true
 .rw[if_pos c2];exact⟨_,rfl,fun h=>absurd (show(1:Int)=0 from h) (by decide)⟩
 rw[if_neg c2];by_cases c3:fuel<0\/fuel>1048576
 .rw[if_pos c3];exact⟨_,rfl,fun h=>absurd (show(1:Int)=0 from h) (by decide)⟩
 rw[if_neg c3];by_cases c4:fe p≠0
 .rw[if_pos c4];exact⟨_,rfl,fun h=>absurd h c4⟩
 rw[if_neg c4];have Ib:FF p N name=some e:=he;rw[Ib];obtain⟨gz,ok⟩:=e;cases ok with
 |false=>exact⟨_,rfl,fun h=>absurd (show(100:Int)=0 from h) (by decide)⟩
 |true=>
  obtain⟨Q,hQ⟩:=Nk (by simpa using c4);obtain⟨m,hm⟩:=aoh hQ he (fuel:=fuel) (by omega) input;simp only;rw[hm];exact⟨_,rfl,fun _=>⟨m,rfl⟩⟩
end
section
open Go Go.W Go.ChangeShapes Go.WideShapes Go.ChangeAt Go.RowKit Go.Deep
theorem Tryz.OO:Tryz.prog.cellsOf 3=1:=by kernel_rfl
theorem Tryz.yB:Tryz.prog.cellsOf 9=1:=by kernel_rfl
theorem Tryz.aoj:Tryz.prog.cellsOf 22=1:=by kernel_rfl
theorem Tryz.aok:Tryz.prog.cellsOf 23=1:=by kernel_rfl
theorem Tryz.aol:Tryz.prog.cellsOf 25=2:=by kernel_rfl
theorem Tryz.Vs:Tryz.prog.cellsOf 42=1:=by kernel_rfl
theorem Tryz.Vu:Tryz.prog.cellsOf 47=1:=by kernel_rfl
theorem Tryz.Gk:Tryz.prog.cellsOf 52=3:=by kernel_rfl
theorem Tryz.aom:Tryz.prog.cellsOf 53=1:=by kernel_rfl
theorem Tryz.aon:Tryz.prog.cellsOf 54=1:=by kernel_rfl
theorem Tryz.aoo:Tryz.prog.cellsOf 55=1:=by kernel_rfl
theorem Tryz.J3:Tryz.prog.cellsOf 57=7:=by kernel_rfl
theorem Tryz.adY:Tryz.prog.cellsOf 59=12:=by kernel_rfl
theorem Tryz.aop:Tryz.prog.cellsOf 43=1:=by kernel_rfl
theorem Tryz.adZ:Tryz.prog.cellsOf 45=3:=by kernel_rfl
theorem Tryz.ad0:Tryz.prog.cellsOf 49=2:=by kernel_rfl
theorem Tryz.ad6:Tryz.prog.cellsOf 108=11:=by kernel_rfl
theorem Tryz.ad8:Tryz.prog.cellsOf 103=11:=by kernel_rfl
theorem Tryz.own:ownKnob Tryz.prog.godebug=none:=by kernel_rfl
theorem Tryz.laidOut:laidOutB Tryz.prog=true:=by kernel_rfl
inductive oK:Ex->Prop
 | mk {k m:Int} {n:ByteArray} {ts:List Ty} {xs:List Ex} {bs:List Bd} {al:List Al} (hn:n.size≤1048576) (lx:xs.length≤1048576) (lb:bs.length≤1048576) (la:al.length≤1048576)
     (hx:∀e∈xs,oK e) (hb:∀b∈bs,b.name.size<=1048576) (az:∀b∈bs,oK b.value) (ha:∀a∈al,a.vars.length<=1048576/\∀s∈a.vars,s.size<=1048576) (vP:∀a∈al,oK a.body):oK (.mk k n m ts xs bs al)
section
variable {H:Type} {enc:TypeId×Value->H} {P:Program}
theorem aea:∀{l:List (DataW H)} {d:DataW H},d∈l->Rows.uptoBulk d<=Rows.uptoBulkAll l
 |y::l,d,h=>by
  rw[Rows.uptoBulkAll];rcases List.mem_cons.1 h with rfl |h
  .omega
  .have:=aea h;omega
theorem J4(d:DataW H):1<=Rows.uptoBulk d:=by
 cases d with
 |lit l=>cases l<;>simp[Rows.uptoBulk]
 |_=>simp[Rows.uptoBulk]
theorem aeb:∀(l:List (DataW H)),l.length<=Rows.uptoBulkAll l
 |[]=>Nat.le_refl _
 |d::l=>by
  rw[Rows.uptoBulkAll,List.length_cons];have:=J4 d;have:=aeb l;omega
theorem np{w:World}{a:Addr}{v:Value}(h:w.cell? a=some v):a.block<w.heap.size:=by
 unfold World.cell? at h;cases hb:w.heap[a.block]? with
 |none=>rw[hb]at h;cases h
 |some o=>exact bP hb
variable {w:World} {base:Nat} {held:Bool}
theorem Gl{n:Nat}{c:Value}{y:DataW H×List MemPlace}(h:DataW.trod enc Tryz.prog w base (fun _=>true) held n 3 [c]=some y):∃i:Int,c=I i:=by
 obtain⟨i0,e0,rfl,_⟩:=DataW.trod_int Tryz.underlying3 h;cases e0;exact⟨_,rfl⟩
end
end
section
open Go Go.W
theorem aoq{e:Ex}(h:lB e=true):(e.kind=1\/e.kind=2\/e.kind=3\/e.kind=4\/e.kind=12->e.args=[])/\(e.kind≠6->e.kind≠7->e.kind≠11->e.binds=[])/\(e.kind≠8->e.alts=[]):=by
 have hf:=Yi h;have key:(e.args.length=0\/e.kind=5\/e.kind=10\/e.kind=6\/e.kind=7\/e.kind=8\/e.kind=9\/e.kind=11)/\(e.binds.length=0\/e.kind=6\/e.kind=7\/e.kind=11)/\(e.alts.length=0\/e.kind=8):=by
  unfold jH at hf;clear h
  repeat' split at hf
  all_goals first
   |(cases hf;done)
   |(simp only[de,Bool.and_eq_true,Bool.or_eq_true,beq_iff_eq,decide_eq_true_eq]at *;omega)
 obtain⟨k1,k2,k3⟩:=key;exact⟨fun hk=>List.eq_nil_of_length_eq_zero (by omega),fun _ _ _=>List.eq_nil_of_length_eq_zero (by omega),fun _=>List.eq_nil_of_length_eq_zero (by omega)⟩
theorem oK.vars{e:Ex}(h:oK e):(∀x∈e.args,oK x)/\(∀b∈e.binds,oK b.value)/\∀a∈e.alts,a.vars.length<=1048576/\oK a.body:=by
 cases h with
 |mk hn lx lb la hx hb az ha vP=>exact⟨hx,az,fun a h=>⟨(ha a h).1,vP a h⟩⟩
theorem aor{E:Env}(hE:nC E)(hb:eR E jq 0=false){ds:List Df}{D:List (ByteArray×Nat)}(hD:∀n d,aJ E.aj n=some d->∃c,aJ D n=some c/\ds[c]?=some d)(e:Ex):∀{Γ:Gm} {T:Ty},gJ E Γ e T->oK e->qF ds D e:=by
 induction e using Ex.ind with
 |h e dK hM gT=>
 intro Γ T h hs;obtain⟨s1,s2,s3⟩:=hs.vars;obtain⟨n1,n2,n3⟩:=aoq (MW h);have F:=EW (MW h);have hr:=F.xk;have mk:(∀x∈e.args,qF ds D x)->(e.kind≠6->∀b∈e.binds,qF ds D b.value)->(∀a∈e.alts,qF ds D a.body)->(e.kind=3->∃d d0,aJ D e.name=some d/\ds[d]?=some d0/\e.types.length=d0.params.length)->qF ds D e:=
  fun a b c d=>.mk d a b (fun x hx=>(s3 x hx).1) c
 have na:e.args=[]->∀x∈e.args,qF ds D x:=fun h x hx=>by rw[h]at hx;cases hx
 have nb:e.binds=[]->∀b∈e.binds,qF ds D b.value:=fun h x hx=>by rw[h]at hx;cases hx
 have nl:e.alts=[]->∀a∈e.alts,qF ds D a.body:=fun h x hx=>by rw[h]at hx;cases hx
 by_cases k3:e.kind=3
 .refine mk (na (n1 (by omega))) (fun _=>nb (n2 (by omega) (by omega) (by omega))) (nl (n3 (by omega))) (fun _=>?_);obtain⟨d,h1,h2⟩:=aav h k3;obtain⟨c,h3,h4⟩:=hD _ _ h1;refine⟨c,d,h3,h4,?_⟩;unfold j' at h2
  split at h2
  .cases h2
  .rename_i bJ;have:(d.params.length:Int)=e.types.length:=by simpa using bJ
   omega
 have DY:e.kind=3->∃d d0,aJ D e.name=some d/\ds[d]?=some d0/\e.types.length=d0.params.length:=fun h=>absurd h k3
 by_cases kl:e.kind=1\/e.kind=2\/e.kind=4\/e.kind=12
 .exact mk (na (n1 (by omega))) (fun _=>nb (n2 (by omega) (by omega) (by omega))) (nl (n3 (by omega))) DY
 by_cases k5:e.kind=5
 .obtain⟨f,x,_,_,ha,hf,_,_,hx⟩:=aax hE hb h k5;refine mk (fun y hy=>?_) (fun _=>nb (n2 (by omega) (by omega) (by omega))) (nl (n3 (by omega))) DY;have lm:=hy;rw[ha]at hy;simp only[List.mem_cons,List.not_mem_nil,or_false]at hy;rcases hy with rfl |rfl
  .exact dK _ lm hf (s1 _ lm)
  .exact dK _ lm hx (s1 _ lm)
 by_cases k9:e.kind=9
 .obtain⟨a,b,_,_,ha,hf,hx,_,_,_⟩:=aay hE hb h k9;refine mk (fun y hy=>?_) (fun _=>nb (n2 (by omega) (by omega) (by omega))) (nl (n3 (by omega))) DY;have lm:=hy;rw[ha]at hy;simp only[List.mem_cons,List.not_mem_nil,or_false]at hy;rcases hy with rfl |rfl
  .exact dK _ lm hf (s1 _ lm)
  .exact dK _ lm hx (s1 _ lm)
 by_cases zS:e.kind=10
 .obtain⟨a,b,_,ha,hf,hx⟩:=aaz hE hb h zS;refine mk (fun y hy=>?_) (fun _=>nb (n2 (by omega) (by omega) (by omega))) (nl (n3 (by omega))) DY;have lm:=hy;rw[ha]at hy;simp only[List.mem_cons,List.not_mem_nil,or_false]at hy;rcases hy with rfl |rfl
  .exact dK _ lm hf (s1 _ lm)
  .exact dK _ lm hx (s1 _ lm)
 by_cases k6:e.kind=6
 .obtain⟨b,x,t,eN,ha,_,hx⟩:=aaA h k6;refine mk (fun y hy=>?_) (fun h=>absurd k6 h) (nl (n3 (by omega))) DY;have lm:=hy;rw[ha]at hy;rw[List.mem_singleton.1 hy];exact dK _ (by rw[<- List.mem_singleton.1 hy];exact lm) hx (s1 _ (by rw[<- List.mem_singleton.1 hy];exact lm))
 by_cases k7:e.kind=7\/e.kind=11
 .obtain⟨x,ha,eN,hx⟩:=SD hE hb h k7;refine mk (fun y hy=>?_) (fun _ b rz=>hM b rz (eN b rz) (s2 b rz)) (nl (n3 (by omega))) DY;have lm:=hy;rw[ha]at hy;rw[List.mem_singleton.1 hy];exact dK _ (by rw[<- List.mem_singleton.1 hy];exact lm) hx (s1 _ (by rw[<- List.mem_singleton.1 hy];exact lm))
 have k8:e.kind=8:=by omega
 obtain⟨x,of,ha,hx,_,oU⟩:=aaD hE hb h k8;refine mk (fun y hy=>?_) (fun _=>nb (n2 (by omega) (by omega) (by omega))) (fun a wO=>?_) DY
 .have lm:=hy;rw[ha]at hy;rw[List.mem_singleton.1 hy];exact dK _ (by rw[<- List.mem_singleton.1 hy];exact lm) hx (s1 _ (by rw[<- List.mem_singleton.1 hy];exact lm))
 .rcases oU a wO with⟨_,k⟩ |⟨_,_,k⟩ |⟨_,_,_,_,_,_,_,k⟩
  .exact gT a wO k (s3 a wO).2
  .exact gT a wO k (s3 a wO).2
  .exact gT a wO k (s3 a wO).2
theorem aec{p:Pg}(h:fe p=0)(hs:∀d∈p.aj,oK d.body)(hc:∀d∈p.aj,d.body.de<=1000000000/\d.type.cN<=1000000000):yr p (fR p.aj 0 []):=by
 obtain⟨Q,hQ⟩:=Nk h;obtain⟨E1,h1,h2,hT,_,Vq,_⟩:=adS hQ;obtain⟨_,_,_,aos⟩:=IJ hQ;refine⟨fun d hd=>?_,hc⟩;have:=adF (Vk _ aos d hd);exact aor (hT.gZ d.params) (hT.bool d.params) Vq d.body this (hs d hd)
theorem TE.aot(e:Ex):TE (fun n n'=>n'=n) e e:=by
 induction e using Ex.ind with
 |h e dK hM gT=>
 by_cases k3:e.kind=3
 .exact .BD k3 k3 rfl
 .refine .mk rfl k3 rfl rfl rfl (fun i x x' a b=>?_) rfl (fun _ i x x' a b=>?_) rfl (fun i x x' a b=>?_) (fun i x x' a b=>?_)
  .rw[a]at b;cases b;exact dK _ (List.mem_of_getElem? a)
  .rw[a]at b;cases b;exact hM _ (List.mem_of_getElem? a)
  .rw[a]at b;cases b;exact⟨rfl,rfl,rfl,rfl⟩
  .rw[a]at b;cases b;exact gT _ (List.mem_of_getElem? a)
theorem aed{p:Pg}{N:Nat}{name:ByteArray}{input:List Int}{fuel:Int}{m:Rn}(h:yc p N name input fuel=some (0,some m)):fe p=0:=by
 unfold yc at h;by_cases hc:fe p=0
 .exact hc
 .rw[if_pos hc]at h
  split at h
  .cases h
  .split at h
   .cases h
   .split at h
    .cases h
    .exact absurd (congrArg (fun z:Option (Int×Option Rn)=>z.map (·.2)) h) (by simp)
theorem Vv:∀{l:List Df},(l.map Df.name).Nodup->∀{x y:Df},x∈l->y∈l->x.name=y.name->x=y
 |d::l,h,x,y,hx,hy,e=>by
  rw[List.map_cons,List.nodup_cons]at h;rcases List.mem_cons.1 hx with h1 |h1<;>rcases List.mem_cons.1 hy with h2 |h2
  .rw[h1,h2]
  .subst h1;exact absurd (e ▸ List.mem_map_of_mem h2) h.1
  .subst h2;exact absurd (e ▸ List.mem_map_of_mem h1) h.1
  .exact Vv h.2 h1 h2 e
theorem aou{p q:Pg}{entry:ByteArray}{input:List Int}{f g:Int}{N N':Nat}{a b:Rn}(hm:Dp p entry=some (0,q))(hp:fe p=0→yr p (fR p.aj 0 []))(bV:fe p=0→0≤Pg.size ⟨p.aK,[]⟩∧Pg.size ⟨p.aK,[]⟩≤100000)
   (ha:yc p N entry input f=some (0,some a)) (hb:yc q N' entry input g=some (0,some b)) :
   ((∃l,b.told=a.told++l)\/(∃l,a.told=b.told++l))/\(a.kind≠4->∃l,a.told=b.told++l)/\(b.kind≠4->∃l,b.told=a.told++l)/\(a.kind≠4->b.kind≠4->a.kind=b.kind/\(a.kind=3->a.stuck=b.stuck)):=by
 obtain⟨ta,a',e1,ea,_,ra⟩:=adL ha rfl;cases e1;obtain⟨tb,b',e2,eb,_,rb⟩:=adL hb rfl;cases e2;have ca:=aed ha;have cb:=aed hb;obtain⟨r,q',h1,_,h2⟩:=acN hp bV entry;rw[hm]at h1;cases h1;obtain⟨SZ,d,row,hd,hlen,Vw,aov,d0,r0,iX,xj,o0,eU,kR⟩:=h2 rfl;obtain⟨x,hx,hxn,hxp,hxt⟩:=OK _ ea;have ua:=adN ca;have aow:=List.mem_of_getElem? iX;have Oe:x=d0:=Vv ua hx aow (hxn.trans xj.symm);subst Oe;have aee:=kR hxp;have hq0:∃y,q.aj[0]?=some y:=by
  have:=(List.getElem?_eq_some_iff.1 o0).1;exact⟨_,Ξ (by omega)⟩
 obtain⟨y,hy⟩:=hq0;obtain⟨m1,m2,d1,m3,m4,m5⟩:=Vw 0 r0 y o0 hy;rw[eU,iX]at m3;cases m3;obtain⟨z,hz,hzn,hzp,hzt⟩:=OK _ eb;have ub:=adN cb;have:z=y:=Vv ub hz (List.mem_of_getElem? hy) (by rw[hzn,m1,aee]);subst this;have htt:ta=tb:=by
  rw[<- hxt,<- hzt];unfold sx;rw[m5 hxp]
 subst htt
 let X:Nx:=⟨fun n=>(aJ (fR p.aj 0 []) n).bind (fun i=>p.aj[i]?.map Df.body),wF p.aK wG⟩
 have A:MR X (yn ta entry input) a:=by
  refine abX (G:=fun n n'=>n'=n) (os:=p.aj.map Df.body) ra rfl (by simp) (fun i o d ho hd=>?_) (fun n n' c hn hc=>?_) rfl
  .rw[List.getElem?_map,hd]at ho;cases ho;exact TE.aot _
  .subst hn;have hc:aJ (fR p.aj 0 []) n'=some c:=hc;obtain⟨w,hw,_⟩:=Og hc;exact⟨w.body,by show(aJ (fR p.aj 0 []) n').bind _=_;rw[hc];simp[hw],by rw[List.getElem?_map,hw];rfl⟩
 have B:MR X (yn ta entry input) b:=by
  refine abX (G:=Gi (fR p.aj 0 []) row) (os:=row.map (fun r=>(p.aj[r.jR]?.map Df.body).getD fS)) rb ⟨r0,List.mem_of_getElem? o0,aee,by rw[eU];exact hd⟩ (by simp[hlen]) (fun i o d ho hd=>?_) (fun n n' c hn hc=>?_) (by rw[fH,SZ])
  .rw[List.getElem?_map]at ho;obtain⟨r,hr,rfl⟩:=Δ.1 ho;obtain⟨_,_,d2,k1,k2,_⟩:=Vw i r d hr hd;rw[k1];exact k2
  .obtain⟨r,hr,k1,k2⟩:=hn;have hc:aJ (fR q.aj 0 []) n'=some c:=hc;obtain⟨w,hw,hwn⟩:=Og hc;have arJ:=(List.getElem?_eq_some_iff.1 hw).1;have nT:row[c]?=some row[c]:=Ξ (by omega);obtain⟨k3,_,d2,k4,_,_⟩:=Vw c _ w nT hw;obtain⟨j,hj,rfl⟩:=List.getElem_of_mem hr;have:j=c:=aov j c _ _ (Ξ hj) nT (by rw[k1,<- hwn,k3]);subst this;refine⟨d2.body,?_,?_⟩
   .show(aJ (fR p.aj 0 []) n).bind _=_;rw[k2];simp[k4]
   .rw[List.getElem?_map,nT];simp[k4]
 exact al1 A B
end
section
open Go Go.W
section
variable {E:Env} {st:St}
theorem aef(m:Int)(hf:lB (.mk 2 bM m [] [] [] [])=true):cM E (.mk 2 bM m [] [] [] []) st=.ok (rG,st):=by
 rw[cM,if_neg (by rw[hf];simp),if_neg (by decide),if_pos rfl]
theorem OP{n:ByteArray}{ts:List Ty}{d:Df}{t:Ty}(hf:lB (.mk 3 n 0 ts [] [] [])=true)(hd:aJ E.aj n=some d)(hn:j' E d.type d.params ts=.ok t):cM E (.mk 3 n 0 ts [] [] []) st=.ok (t,st):=by
 unfold cM;rw[if_neg (by rw[hf];simp),if_neg (by decide),if_neg (by decide),if_pos rfl,hd];simp only;rw[hn];rfl
theorem aeg{n:ByteArray}{x:Dt×Nat}{t:Ty}(hf:lB (.mk 4 n 0 [] [] [] [])=true)(hd:aJ E.cons n=some x)(hn:j' E (vJ x.1 x.2) x.1.params []=.ok t):cM E (.mk 4 n 0 [] [] [] []) st=.ok (t,st):=by
 rw[cM,if_neg (by rw[hf];simp),if_neg (by decide),if_neg (by decide),if_neg (by decide),if_pos rfl,hd];simp only;rw[hn];rfl
theorem OQ{f x:Ex}{a b:Ty}(hf:lB (.mk 5 bM 0 [] [f,x] [] [])=true)(h1:cM E f st=.ok (lA a b,st))(h2:cM E x st=.ok (a,st)):cM E (.mk 5 bM 0 [] [f,x] [] []) st=.ok (b,st):=by
 rw[cM,if_neg (by rw[hf];simp),if_neg (by decide),if_neg (by decide),if_neg (by decide),if_neg (by decide),if_neg (by decide),if_pos rfl];simp[dy,h1,h2,qe,lA,Ty.kind,Ty.args,fY,Except.map]
theorem aeh{x y:Ex}{a b:Ty}(hf:lB (.mk 10 bM 0 [] [x,y] [] [])=true)(h1:cM E x st=.ok (a,st))(h2:cM E y st=.ok (b,st)):cM E (.mk 10 bM 0 [] [x,y] [] []) st=.ok (b,st):=by
 rw[cM,if_neg (by rw[hf];simp),if_neg (by decide),if_neg (by decide),if_neg (by decide),if_neg (by decide),if_neg (by decide),if_neg (by decide),if_neg (by decide),if_pos rfl];simp[dy,h1,h2]
abbrev Gn(t:Ty):Ex:=.mk 6 bM 0 [] [DV] [.mk kX t fS] []
theorem aox{t:Ty}(hs:¬Wr (Wr (t.size+t.size)+1)>500):sW (.mk kX t fS) [t]=.ok (lA t t):=if_neg hs
theorem Vx{t:Ty}{bd:cE}(hf:lB (Gn t)=true)(hv:lB DV=true)(hb:lE E (.mk kX t fS) st.1=.ok bd)(hs:¬Wr (Wr (t.size+t.size)+1)>500):∃eP,cM E (Gn t) st=.ok (lA t t,eP):=by
 rw[cM,if_neg (by rw[hf];simp),if_neg (by decide),if_neg (by decide),if_neg (by decide),if_neg (by decide),if_neg (by decide),if_neg (by decide),if_neg (by decide),if_neg (by decide),if_pos rfl];rw[hb];have hx:∀cQ:St,aJ cQ.2 kX=some t->cM E DV cQ=.ok (t,cQ):=fun cQ h=>by
  rw[cM,if_neg (by rw[hv];simp),if_pos rfl,h]
 have h1:=hx (bd,bS st.2 kX t) (by rw[jg,if_pos rfl]);simp only[dy,Bd.name,Bd.type,h1,aox hs];exact⟨_,rfl⟩
end
def rH(p:Pg):Env:=match gI p.aj jM with |.ok E=>E |.error _=>jM
theorem aoy{p:Pg}(h:(match gI p.aj jM with |.ok _=>true |.error _=>false)=true):gI p.aj jM=.ok (rH p):=by
 unfold rH
 split at h
 .rename_i E e;rw[e]
 .cases h
theorem aei{p:Pg}(hs:¬p.size>100000)(hd:p.aj.any (fun d=>decide (d.body.deep>4000))=false)(h0:p.aK=[])(hh:(match gI p.aj jM with |.ok _=>true |.error _=>false)=true)(hb:kJ (rH p) p.aj=0):fe p=0:=by
 unfold fe mM;rw[if_neg hs,if_neg (by rw[hd];simp),h0,show oB jM []=.ok jM from rfl];simp only;rw[aoy hh];simp only;rw[hb];simp
theorem aoz:lJ (rH lh) uT=0:=by
 obtain⟨st,h⟩:=Vx (E:=iY (rH lh) uT.params) (st:=([],[])) (t:=tI) (bd:=[(kX,1)]) (by decide +kernel) (by decide +kernel) (by kernel_rfl) (by decide +kernel);unfold lJ;simp only;rw[h];simp[fY]
theorem aoA:lJ (rH lh) Ap=0:=by
 have h:cM (iY (rH lh) Ap.params) Ap.body ([],[])=.ok (rG,([],[])):=
  aeh (a:=tJ) (by decide +kernel)
   (OQ (a:=tJ) (by decide +kernel) (OP (d:=uT) (by decide +kernel) (by kernel_rfl) (by kernel_rfl)) (aeg (x:=(mh,1)) (by decide +kernel) (by kernel_rfl) (by kernel_rfl)))
   (OQ (by decide +kernel) (OP (d:=uT) (by decide +kernel) (by kernel_rfl) (by kernel_rfl)) (aef 3 (by decide +kernel)))
 unfold lJ;simp only;rw[h];simp[fY]
theorem aej:fe lh=0:=aei (by decide +kernel) (by decide +kernel) rfl (by decide +kernel) (by
 show kJ (rH lh) [uT,Ap]=0
 simp[kJ,aoz,aoA])
abbrev uV:ByteArray:=⟨#[105,100,123,66,111,111,108,125]⟩
abbrev uW:ByteArray:=⟨#[105,100,123,73,110,116,125]⟩
abbrev Vy(n:ByteArray):Ex:=.mk 3 n 0 [] [] [] []
abbrev aoB:Ex:=.mk 5 bM 0 [] [Vy uW,.mk 2 bM 3 [] [] [] []] [] []
abbrev aoC:Ex:=.mk 5 bM 0 [] [Vy uV,.mk 4 tk 0 [] [] [] []] [] []
abbrev yC:Df:=⟨kM,[],rG,.mk 10 bM 0 [] [aoC,aoB] [] []⟩
abbrev Aq:Df:=⟨uV,[],lA tJ tJ,Gn tJ⟩
abbrev Gp:Df:=⟨uW,[],lA rG rG,Gn rG⟩
def qK:Pg:=⟨[],[yC,Aq,Gp]⟩
theorem aoD:lJ (rH qK) yC=0:=by
 have h:cM (iY (rH qK) yC.params) yC.body ([],[])=.ok (rG,([],[])):=
  aeh (a:=tJ) (by decide +kernel)
   (OQ (a:=tJ) (by decide +kernel) (OP (d:=Aq) (by decide +kernel) (by kernel_rfl) (by kernel_rfl)) (aeg (x:=(mh,1)) (by decide +kernel) (by kernel_rfl) (by kernel_rfl)))
   (OQ (by decide +kernel) (OP (d:=Gp) (by decide +kernel) (by kernel_rfl) (by kernel_rfl)) (aef 3 (by decide +kernel)))
 unfold lJ;simp only;rw[h];simp[fY]
theorem aoE:lJ (rH qK) Aq=0:=by
 obtain⟨st,h⟩:=Vx (E:=iY (rH qK) Aq.params) (st:=([],[])) (t:=tJ) (bd:=[(kX,1)]) (by decide +kernel) (by decide +kernel) (by kernel_rfl) (by decide +kernel);unfold lJ;simp only;rw[h];simp[fY]
theorem aoF:lJ (rH qK) Gp=0:=by
 obtain⟨st,h⟩:=Vx (E:=iY (rH qK) Gp.params) (st:=([],[])) (t:=rG) (bd:=[(kX,1)]) (by decide +kernel) (by decide +kernel) (by kernel_rfl) (by decide +kernel);unfold lJ;simp only;rw[h];simp[fY]
theorem aoG:fe qK=0:=aei (by decide +kernel) (by decide +kernel) rfl (by decide +kernel) (by
 show kJ (rH qK) [yC,Aq,Gp]=0
 simp[kJ,aoD,aoE,aoF])
end
section
open Go Go.W
section
variable {C:Tc} {L L' L2 L3:Int} {ns:List (Option iQ)} {sn:List (ByteArray×Nat)} {t t1 t2:Tn}
theorem DZ:fT C [] t=([],t):=by rw[fT]
theorem D0{x x':Ex}{l l':List Ex}(h1:dp C x t=(x',t1))(h2:fT C l t1=(l',t2)):fT C (x::l) t=(x'::l',t2):=by
 rw[fT,h1];simp only;rw[h2]
theorem Gq{k m:Int}{n:ByteArray}{xs xs':List Ex}(hk:k≠3)(hW:Wr (L-1)=L')(h0:¬L'<0)(hx:fT C xs ⟨L',ns,sn⟩=(xs',t2)):dp C (.mk k n m [] xs [] []) ⟨L,ns,sn⟩=(.mk k n m [] xs' [] [],t2):=by
 rw[dp];simp only[hW];rw[if_neg h0,if_neg hk];simp only[dj,dz,fx,Tn.at,gm,List.map_nil,ite_self];rw[hx];simp only[gL,fy]
theorem aek{m:Int}{n nm:ByteArray}{ts l:List Ty}{xs:List Ex}{bs:List Bd}{al:List Al}{d:Nat}(hW:Wr (L - 1)=L')(h0:¬ L' < 0)(hd:aJ C.D n=some d)(hg:wJ C.a8 ts=some l)(hn:(mo (C.nameOf d) l).1=nm)(hs:aJ sn nm=none) :
   dp C (.mk 3 n m ts xs bs al) ⟨L,ns,sn⟩=(Vy nm,⟨L',ns++[some ⟨d,l,nm⟩],bS sn nm ns.length⟩):=by
 rw[dp];simp only[hW];rw[if_neg h0,if_true];have hc:¬ ∃i,aJ sn (mo (C.nameOf d) l).1=some i/\IL (ns[i]?) d l:=by
  rintro⟨i,h,_⟩;rw[hn,hs]at h;cases h
 unfold mq;rw[hd];simp only;rw[hg];simp only[Tn.at,hn];exact Prod.ext rfl (if_neg hc)
theorem ael{T T':Ty}(hW:Wr (L-1)=L')(h0:¬L'<0)(hT:cZ C.a8 T L'=(T',L2))(K5:Wr (L2-1)=L3)(h3:¬L3<0):dp C (Gn T) ⟨L,ns,sn⟩=(Gn T',⟨L3,ns,sn⟩):=by
 rw[dp];simp only[hW];rw[if_neg h0,if_neg (by decide)];simp only[dj,dz,fx,Tn.at,Bd.type,hT,List.map_cons,List.map_nil,if_true];rw[D0 (Gq (by decide) K5 h3 DZ) DZ];simp only[gL,fy,Bd.name]
end
abbrev sD:List (ByteArray×Nat):=fR lh.aj 0 []
abbrev C0:Tc:=⟨lh.aj,sD,[]⟩
abbrev BO:iQ:=⟨1,[],kM⟩
abbrev Gs:iQ:=⟨0,[tJ],uV⟩
abbrev Gt:iQ:=⟨0,[rG],uW⟩
theorem g_M:dp C0 Ap.body ⟨99999,[],[]⟩=(yC.body,⟨99992,[some Gs,some Gt],[(uV,0),(uW,1)]⟩):=
 Gq (L':=99998) (by decide) (by decide +kernel) (by decide) (D0
  (Gq (L':=99997) (by decide) (by decide +kernel) (by decide) (D0 (aek (L':=99996) (by decide +kernel) (by decide) (by kernel_rfl) (by kernel_rfl) (by kernel_rfl) (by kernel_rfl)) (D0 (Gq (L':=99995) (by decide) (by decide +kernel) (by decide) DZ) DZ)))
  (D0 (Gq (L':=99994) (by decide) (by decide +kernel) (by decide) (D0 (aek (L':=99993) (by decide +kernel) (by decide) (by kernel_rfl) (by kernel_rfl) (by kernel_rfl) (by kernel_rfl)) (D0 (Gq (L':=99992) (by decide) (by decide +kernel) (by decide) DZ) DZ))) DZ))
theorem Vz{ds:List Df}{m:Mk}{d:Nat}{l:List Ty}{nm:ByteArray}(hr:mo ((ds[d]?.map Df.name).getD ⟨#[]⟩) l=(nm,true))(ha:aJ m.at_ nm=none)(hl:m.row.length≠1000) :
   qB ds m d l=.ok { m with row:=m.row++[⟨d,l,nm⟩],at_:=bS m.at_ nm m.row.length,waits:=bS m.waits nm ⟨d,l,nm⟩}:=by
 unfold qB;simp only[hr];rw[if_neg (by simp),ha];simp only;rw[if_neg hl]
theorem VA{p:Pg}{D:List (ByteArray×Nat)}{m m':Mk}{name:ByteArray}{x:iQ}{d0:Df}{T:Ty}{t1 t2:Tn}{e:Ex}{s':Int}(hw:aJ m.waits name=some x)(hd:p.aj[x.jR]? = some d0)
   (ha:dj ⟨p.aj,D,pH d0.params x.types []⟩ [d0.type] ⟨Wr (100000-m.size),[],[]⟩=([T],t1)) (hb:dp ⟨p.aj,D,pH d0.params x.types []⟩ d0.body t1=(e,t2)) (h0:¬t2.left<0)
   (hz:Wr (m.size+Pg.size ⟨[],[⟨name,[],T,e⟩]⟩)=s') (hs:¬s'>100000) (hl:layAll p.aj t2.bR { m with waits:=gq m.waits name,aj:=m.aj++[⟨name,[],T,e⟩],size:=s'}=.ok m'):tA p D m name=some (.ok m'):=by
 unfold tA;rw[hw];simp only;rw[hd];simp only[ha,hb,List.headD_cons,hz];rw[if_neg h0,if_neg hs,hl]
abbrev M0:Mk:=⟨[BO],[(kM,0)],[(kM,BO)],[],0⟩
abbrev M1:Mk:=⟨[BO,Gs,Gt],bS (bS [(kM,0)] uV 1) uW 2,bS (bS (gq [(kM,BO)] kM) uV Gs) uW Gt,[yC],9⟩
abbrev M2:Mk:=⟨M1.row,M1.at_,gq M1.waits uV,[yC,Aq],18⟩
abbrev M3:Mk:=⟨M1.row,M1.at_,gq M2.waits uW,[yC,Aq,Gp],27⟩
theorem aoH:layAll lh.aj [some Gs,some Gt] ⟨[BO],[(kM,0)],gq [(kM,BO)] kM,[yC],9⟩=.ok M1:=by
 rw[layAll,if_neg (by decide),Vz (nm:=uV) (by kernel_rfl) (by kernel_rfl) (by decide)];simp only;rw[layAll,if_neg (by decide),Vz (nm:=uW) (by kernel_rfl) (by kernel_rfl) (by decide)];simp only;rw[layAll];rfl
theorem aoI:tA lh sD M0 kM=some (.ok M1):=VA (x:=BO) (d0:=Ap) (T:=rG) (by kernel_rfl) rfl (by kernel_rfl) g_M (by decide) (by decide +kernel) (by decide) aoH
theorem aoJ:tA lh sD M1 uV=some (.ok M2):=VA (x:=Gs) (d0:=uT) (T:=lA tJ tJ) (t1:=⟨99988,[],[]⟩) (t2:=⟨99985,[],[]⟩) (s':=18) (by kernel_rfl) rfl (by kernel_rfl) (ael (T:=tI) (T':=tJ) (L:=99988) (L':=99987) (L2:=99986) (L3:=99985) (by decide +kernel) (by decide) (by kernel_rfl) (by decide +kernel) (by decide)) (by decide) (by decide +kernel) (by decide) (by rw[layAll];rfl)
theorem aoK:tA lh sD M2 uW=some (.ok M3):=VA (x:=Gt) (d0:=uT) (T:=lA rG rG) (t1:=⟨99979,[],[]⟩) (t2:=⟨99976,[],[]⟩) (s':=27) (by kernel_rfl) rfl (by kernel_rfl) (ael (T:=tI) (T':=rG) (L:=99979) (L':=99978) (L2:=99977) (L3:=99976) (by decide +kernel) (by decide) (by kernel_rfl) (by decide +kernel) (by decide)) (by decide) (by decide +kernel) (by decide) (by rw[layAll];rfl)
theorem aoL:qC lh sD 1001 0 M0=some (.ok M3):=by
 rw[qC];simp only[show M0.row[0]?=some BO from rfl];rw[aoI];simp only;rw[qC];simp only[show M1.row[0+1]?=some Gs from rfl];rw[aoJ];simp only;rw[qC];simp only[show M2.row[0+1+1]?=some Gt from rfl];rw[aoK];simp only;rw[qC];simp only[show M3.row[0+1+1+1]?=none from rfl]
theorem aoM:Dp lh kM=some (0,qK):=by
 unfold Dp;have h1:qB lh.aj ⟨[],[],[],[],Pg.size ⟨lh.aK,[]⟩⟩ 1 (((lh.aj[1]?.map Df.params).getD []).map (fun _=>Dm))=.ok M0:=(Vz (nm:=kM) (by kernel_rfl) (by kernel_rfl) (by decide)).trans (by kernel_rfl);rw[if_neg (by rw[aej];simp),show aJ (fR lh.aj 0 []) kM=some 1 by kernel_rfl];simp only;rw[h1];simp only;rw[aoL];simp only;rw[if_neg (by rw[show(⟨lh.aK,M3.aj⟩:Pg)=qK from rfl,aoG];simp)];rfl
end
section
open Go Go.W
abbrev OA:World->Nat->Prop:=OT [25]
theorem BP{w w':World}(hm:Mod (fun _=>False) w w'):∀b,OA w b->OA w' b:=adq hm
theorem OR{w:World}{b T:Nat}{c:Array Value}(h:w.heap[b]?=some (.cells c T (0,0)))(hT:T∉[25]:=by decide):OA w b:=adr h hT
theorem aem{w:World}{b1 b2:Nat}{k m:Int}{s:ByteArray}{kt:Int}{nt:ByteArray}(h1:w.heap[b1]? = some (.cells (fG kt nt).toArray 52 (0,0)))
   (h2:w.heap[b2]?=some (.cells ([[I 3,.string yz,I 0,.slice (some ⟨b1,0,none⟩) 1 1,.slice none 0 0,.slice none 0 0,.slice none 0 0],[I k,.string s,I m,.slice none 0 0,.slice none 0 0,.slice none 0 0,.slice none 0 0]]:List (List Value)).flatten.toArray 57 (0,0))) :
   ci w (OA w) [I 5,.string bM,I 0,.slice none 0 0,.slice (some ⟨b2,0,none⟩) 2 2,.slice none 0 0,.slice none 0 0] (.mk 5 bM 0 [] [OE (.mk kt nt []),.mk k s m [] [] [] []] [] []):=by
 have e1:aX w (.slice (some ⟨b1,0,none⟩) 1 1) 3 (OA w) (aR w (OA w)) [.mk kt nt []]:=mg (rows:=[fG kt nt]) h1 (OR h1) ⟨rfl,trivial⟩ (by simp) ⟨om _ _ kt nt,trivial⟩;have e2:ci w (OA w) [I 3,.string yz,I 0,.slice (some ⟨b1,0,none⟩) 1 1,.slice none 0 0,.slice none 0 0,.slice none 0 0] (OE (.mk kt nt [])):=BK e1 (eB _ _ _ _) (eB _ _ _ _) (eB _ _ _ _) (Nat.le_refl _);have e3:ci w (OA w) [I k,.string s,I m,.slice none 0 0,.slice none 0 0,.slice none 0 0,.slice none 0 0] (.mk k s m [] [] [] []):=BK (eB _ _ _ _) (eB _ _ _ _) (eB _ _ _ _) (eB _ _ _ _) (Nat.le_refl _);exact BK (eB _ _ _ _) (mg h2 (OR h2) ⟨rfl,rfl,trivial⟩ (by simp) ⟨e2,e3,trivial⟩) (eB _ _ _ _) (eB _ _ _ _) (Nat.le_refl _)
set_option maxHeartbeats 1000000 in
theorem aoN{w:World}:bu Tryz.prog 12 [] w fun r w'=>(∃cs:List Value,r=.agg cs.toArray/\j0 w' (Out (fun _=>False) w') cs lh)/\Mod (fun _=>False) w w':=by
 refine γ Tryz.f12 ?_;refine eA (fun ρ w'=>Mod (fun _=>False) w w'/\w'.heap[w.heap.size]?=some (.cells #[.slice none 0 0,.slice none 0 0] 25 (0,0))/\ρ=[(0,ptr w.heap.size)]) ?_ ?_
 ·(try simp only[go_sem,simprocAttr]);refine cX ?_;intro w1 au ak cw;(try simp only[go_sem,simprocAttr]);exact⟨ak,au⟩
 rintro _ w1 ⟨J5,iK,rfl⟩;refine eA (fun ρ w'=>∃b1,Mod (fun _=>False) w1 w'/\w'.heap[b1]?=some (.cells (fG 2 kA).toArray 52 (0,0))/\ρ=[(0,ptr w.heap.size),(1,ptr b1)]) ?_ ?_
 ·(try simp only[go_sem,simprocAttr]);refine aL (by rfl) ?_;refine(anN kA).mono ?_;rintro _ w2 ⟨rfl,ai⟩;(try simp only[go_sem,simprocAttr]);refine cX ?_;intro w3 aS aw dU;(try simp only[go_sem,simprocAttr]);refine bN (vs:=fG 2 kA) (cs:=cS) rfl rfl aS rfl rfl (oo _ _) ?_;intro w4 bm aD dL;(try simp only[go_sem,simprocAttr]);exact⟨_,(ai.trans aw).step aD (fun x hx hl=>by have:=ai.size;omega),bm,rfl⟩
 rintro _ w2 ⟨b1,m12,au,rfl⟩;refine eA (fun ρ w'=>∃b2,Mod (fun _=>False) w2 w'/\w'.heap[b2]?=some (.cells (fG 1 bM).toArray 52 (0,0))/\ρ=[(0,ptr w.heap.size),(1,ptr b1),(2,ptr b2)]) ?_ ?_
 ·(try simp only[go_sem,simprocAttr]);refine cX ?_;intro w3 aS aw dU;(try simp only[go_sem,simprocAttr]);refine bN (vs:=fG 1 bM) (cs:=cS) rfl rfl aS rfl rfl (oo _ _) ?_;intro w4 bm aD dL;(try simp only[go_sem,simprocAttr]);exact⟨_,aw.step aD (fun x hx hl=>by omega),bm,rfl⟩
 rintro _ w3 ⟨b2,m23,az,rfl⟩;refine eA (fun ρ w'=>∃b3,Mod (fun _=>False) w3 w'/\w'.heap[b3]?=some (.cells (fG 4 jq).toArray 52 (0,0))/\ρ=[(0,ptr w.heap.size),(1,ptr b1),(2,ptr b2),(3,ptr b3)]) ?_ ?_
 ·(try simp only[go_sem,simprocAttr]);refine aL (by rfl) ?_;refine(anO jq (v:=.slice none 0 0) rfl rfl).mono ?_;rintro _ w2 ⟨rfl,ai⟩;(try simp only[go_sem,simprocAttr]);refine cX ?_;intro w3 aS aw dU;(try simp only[go_sem,simprocAttr]);refine bN (vs:=fG 4 jq) (cs:=cS) rfl rfl aS rfl rfl (oo _ _) ?_;intro w4 bm aD dL;(try simp only[go_sem,simprocAttr]);exact⟨_,(ai.trans aw).step aD (fun x hx hl=>by have:=ai.size;omega),bm,rfl⟩
 rintro _ w4 ⟨b3,Di,aS,rfl⟩;have pM:=J5.trans (m12.trans (m23.trans Di));have iK:=(m12.trans (m23.trans Di)).at iK Ψ;have au:=(m23.trans Di).at au Ψ;have az:=Di.at az Ψ;clear J5 m12 m23 Di;refine eA (fun ρ w'=>∃b4 cs,Mod (fun _=>False) w4 w'/\w'.heap[b4]?=some (.cells (cs:List Value).toArray 59 (0,0))/\cs.length=12/\jE w' (OA w') cs uT/\ρ.get 0=some (ptr w.heap.size)/\ρ.get 2=some (ptr b2)/\ρ.get 3=some (ptr b3)/\ρ.get 4=some (ptr b4)) ?_ ?_
 .refine anX au rfl ?_;intro eQ w2 b4 cs ai ho h4 bm hl hd hge;refine⟨b4,cs,ai,bm,hl,hd,(ho 0 (by decide)).trans rfl,(ho 2 (by decide)).trans rfl,(ho 3 (by decide)).trans rfl,h4⟩
 rintro ρ w5 ⟨b4,cd,uX,bm,VB,pf,g0,g2,g3,g4⟩;have iK:=uX.at iK Ψ;have az:=uX.at az Ψ;have aS:=uX.at aS Ψ;have BL:=pM.trans uX;clear pM uX;refine eA (fun ρ w'=>∃b5 cs,Mod (fun _=>False) w5 w'/\w'.heap[b5]?=some (.cells (cs:List Value).toArray 57 (0,0))/\ci w' (OA w') cs Ve/\ρ=[(0,ptr w.heap.size),(2,ptr b2),(3,ptr b3),(4,ptr b4),(5,ptr b5)]) ?_ ?_
 ·(try simp only[go_sem,simprocAttr,g0,g2,g3,g4,aE (n:=3) az rfl]);refine ez (cs:=(fG 1 bM).toArray) rfl rfl ?_;intro w6 cH aG fw;(try simp only[go_sem,simprocAttr,g0,g2,g3,g4]);refine ez (cs:=([[I 3,.string yz,I 0,.slice (some ⟨w5.heap.size,0,none⟩) 1 1,.slice none 0 0,.slice none 0 0,.slice none 0 0],[I 2,.string bM,I 3,.slice none 0 0,.slice none 0 0,.slice none 0 0,.slice none 0 0]]:List (List Value)).flatten.toArray) (ps:=partsOf 7 0 [[I 3,.string yz,I 0,.slice (some ⟨w5.heap.size,0,none⟩) 1 1,.slice none 0 0,.slice none 0 0,.slice none 0 0],[I 2,.string bM,I 3,.slice none 0 0,.slice none 0 0,.slice none 0 0,.slice none 0 0]]) (by rfl) (oA (sz:=7) [[I 3,.string yz,I 0,.slice (some ⟨w5.heap.size,0,none⟩) 1 1,.slice none 0 0,.slice none 0 0,.slice none 0 0],[I 2,.string bM,I 3,.slice none 0 0,.slice none 0 0,.slice none 0 0,.slice none 0 0]] [] (jT++jT) ⟨rfl,rfl,trivial⟩ rfl) ?_;intro w7 dh aO jn;(try simp only[go_sem,simprocAttr,g0,g2,g3,g4]);refine cX ?_;intro w8 dW aZ kD;(try simp only[go_sem,simprocAttr,g0,g2,g3,g4]);refine bN (vs:=[I 5,.string bM,I 0,.slice none 0 0,.slice (some ⟨w6.heap.size,0,none⟩) 2 2,.slice none 0 0,.slice none 0 0]) (cs:=jT) rfl rfl dW rfl rfl (aP rfl (aP rfl (aP rfl (aP rfl (aP rfl (aP rfl (aP rfl dq))))))) ?_;intro w9 di aQ gx;(try simp only[go_sem,simprocAttr,g0,g2,g3,g4]);have D1:=aZ.step aQ (fun x hx hl=>by omega);refine⟨_,_,(aG.trans aO).trans D1,di,aem ((aO.trans D1).at cH Ψ) (D1.at dh Ψ),rfl⟩
 clear g0 g2 g3 g4;rintro _ w6 ⟨b5,c5,BQ,bY,OS,rfl⟩;have iK:=BQ.at iK Ψ;have az:=BQ.at az Ψ;have aS:=BQ.at aS Ψ;have bm:=BQ.at bm Ψ;have pf:=pf.up BQ aA (BP BQ);have yy:=BL.trans BQ;clear BL BQ;refine eA (fun ρ w'=>∃b6 cs,Mod (fun _=>False) w6 w'/\w'.heap[b6]?=some (.cells (cs:List Value).toArray 57 (0,0))/\ci w' (OA w') cs Vf/\ρ=[(0,ptr w.heap.size),(2,ptr b2),(4,ptr b4),(5,ptr b5),(6,ptr b6)]) ?_ ?_
 ·(try simp only[go_sem,simprocAttr,aE (n:=3) aS rfl]);refine ez (cs:=(fG 4 jq).toArray) rfl rfl ?_;intro w7' cH aG fw;(try simp only[go_sem,simprocAttr]);refine ez (cs:=([[I 3,.string yz,I 0,.slice (some ⟨w6.heap.size,0,none⟩) 1 1,.slice none 0 0,.slice none 0 0,.slice none 0 0],[I 4,.string tk,I 0,.slice none 0 0,.slice none 0 0,.slice none 0 0,.slice none 0 0]]:List (List Value)).flatten.toArray) (ps:=partsOf 7 0 [[I 3,.string yz,I 0,.slice (some ⟨w6.heap.size,0,none⟩) 1 1,.slice none 0 0,.slice none 0 0,.slice none 0 0],[I 4,.string tk,I 0,.slice none 0 0,.slice none 0 0,.slice none 0 0,.slice none 0 0]]) (by rfl) (oA (sz:=7) [[I 3,.string yz,I 0,.slice (some ⟨w6.heap.size,0,none⟩) 1 1,.slice none 0 0,.slice none 0 0,.slice none 0 0],[I 4,.string tk,I 0,.slice none 0 0,.slice none 0 0,.slice none 0 0,.slice none 0 0]] [] (jT++jT) ⟨rfl,rfl,trivial⟩ rfl) ?_;intro w7 dh aO jn;(try simp only[go_sem,simprocAttr]);refine cX ?_;intro w8 dW aZ kD;(try simp only[go_sem,simprocAttr]);refine bN (vs:=[I 5,.string bM,I 0,.slice none 0 0,.slice (some ⟨w7'.heap.size,0,none⟩) 2 2,.slice none 0 0,.slice none 0 0]) (cs:=jT) rfl rfl dW rfl rfl (aP rfl (aP rfl (aP rfl (aP rfl (aP rfl (aP rfl (aP rfl dq))))))) ?_;intro w9 di aQ gx;(try simp only[go_sem,simprocAttr]);have D1:=aZ.step aQ (fun x hx hl=>by omega);refine⟨_,_,(aG.trans aO).trans D1,di,aem ((aO.trans D1).at cH Ψ) (D1.at dh Ψ),rfl⟩
 rintro _ w7 ⟨b6,c6,nV,cH,OC,rfl⟩;have iK:=nV.at iK Ψ;have az:=nV.at az Ψ;have bm:=nV.at bm Ψ;have bY:=nV.at bY Ψ;have pf:=pf.up nV aA (BP nV);have OS:=OS.up nV aA (BP nV);have ya:=yy.trans nV;clear yy nV;have l5:=OS.len;have l6:=OC.len;refine eA (fun ρ w'=>∃b7 cs,Mod (fun _=>False) w7 w'/\w'.heap[b7]?=some (.cells (cs:List Value).toArray 59 (0,0))/\cs.length=12/\jE w' (OA w') cs Ap/\ρ=[(0,ptr w.heap.size),(4,ptr b4),(7,ptr b7)]) ?_ ?_
 ·(try simp only[go_sem,simprocAttr,aE (n:=3) az rfl,aE (n:=7) cH l6,aE (n:=7) bY l5]);refine ez (cs:=([c6,c5]).flatten.toArray) (ps:=partsOf 7 0 [c6,c5]) (by rfl) (oA (sz:=7) [c6,c5] [] (jT++jT) ⟨l6,l5,trivial⟩ rfl) ?_;intro w8 dW aZ kD;(try simp only[go_sem,simprocAttr]);refine cX ?_;intro w9 di aQ gx;(try simp only[go_sem,simprocAttr]);refine bN (vs:=[.string kM,.slice none 0 0,I 1,.string bM,.slice none 0 0,I 10,.string bM,I 0,.slice none 0 0,.slice (some ⟨w7.heap.size,0,none⟩) 2 2,.slice none 0 0,.slice none 0 0]) (cs:=DU) rfl rfl di rfl rfl (aP rfl (aP rfl (aP rfl (aP rfl (aP rfl (aP rfl (aP rfl (aP rfl (aP rfl (aP rfl (aP rfl (aP rfl dq)))))))))))) ?_;intro cD eM bD ou;(try simp only[go_sem,simprocAttr]);have FD:=aQ.step bD (fun x hx hl=>by omega);have J6:=aZ.trans FD;refine⟨_,_,J6,eM,rfl,⟨.slice none 0 0,fG 1 bM,[I 10,.string bM,I 0,.slice none 0 0,.slice (some ⟨w7.heap.size,0,none⟩) 2 2,.slice none 0 0,.slice none 0 0],rfl,rfl,rfl,eB _ _ _ _,om _ _ 1 bM,BK (eB _ _ _ _) (mg (rows:=[c6,c5]) (l:=[Vf,Ve]) (FD.at dW Ψ) (OR (FD.at dW Ψ)) ⟨l6,l5,trivial⟩ (by simp) ⟨OC.up J6 aA (BP J6),OS.up J6 aA (BP J6),trivial⟩) (eB _ _ _ _) (eB _ _ _ _) (Nat.le_refl _),(by decide)⟩,rfl⟩
 rintro _ w8 ⟨b7,c7,mu,dh,l7,mI,rfl⟩;have iK:=mu.at iK Ψ;have bm:=mu.at bm Ψ;have pf:=pf.up mu aA (BP mu);have tG:=ya.trans mu;clear ya mu;(try simp only[go_sem,simprocAttr,aE (n:=12) bm VB,aE (n:=12) dh l7]);refine ez (cs:=([cd,c7]).flatten.toArray) (ps:=partsOf 12 0 [cd,c7]) (by rfl) (oA (sz:=12) [cd,c7] [] (DU++DU) ⟨VB,l7,trivial⟩ rfl) ?_;intro w9 di aQ gx;(try simp only[go_sem,simprocAttr]);refine bN (vs:=[.slice none 0 0,.slice (some ⟨w8.heap.size,0,none⟩) 2 2]) (cs:=[.slice none 0 0,.slice none 0 0]) rfl rfl (aQ.at iK Ψ) rfl rfl (aP rfl (aP rfl dq)) ?_;intro cD eM bD ou;(try simp only[go_sem,simprocAttr,aM,RV.ev,aE (n:=2) eM rfl,aN]);have m09:=tG.trans aQ;have iK:=aQ.at iK Ψ;have nb:∀b',OA w9 b'->¬b'=w.heap.size:=fun b' h e=>by subst e;exact h.2 _ _ iK (by decide)
 have ub:∀b',OA w9 b'->Out (fun _=>False) cD b':=fun b' h=>⟨Nat.lt_of_lt_of_le h.1 bD.size,Ψ⟩
 have hd:aX w9 (.slice (some ⟨w8.heap.size,0,none⟩) 2 2) 12 (OA w9) (jE w9 (OA w9)) [uT,Ap]:=mg (rows:=[cd,c7]) di (OR di) ⟨VB,l7,trivial⟩ (by simp) ⟨pf.up aQ aA (BP aQ),mI.up aQ aA (BP aQ),trivial⟩;exact⟨⟨_,rfl,_,_,rfl,eB _ _ _ _,hd.up bD nb ub (fun _ _ h=>h.up bD nb ub)⟩,m09.step bD (fun x hx hl=>by omega)⟩
end
section
open Go Go.W
theorem Gu{k m:Int}{n:ByteArray}{ts:List Ty}(hn:n.size<=1048576):oK (.mk k n m ts [] [] []):=.mk hn (by simp) (by simp) (by simp) (fun _ h=>nomatch h) (fun _ h=>nomatch h) (fun _ h=>nomatch h) (fun _ h=>nomatch h) (fun _ h=>nomatch h)
theorem VC{k m:Int}{n:ByteArray}{xs:List Ex}(hn:n.size<=1048576)(lx:xs.length<=1048576)(hx:∀e∈xs,oK e):oK (.mk k n m [] xs [] []):=.mk hn lx (by simp) (by simp) hx (fun _ h=>nomatch h) (fun _ h=>nomatch h) (fun _ h=>nomatch h) (fun _ h=>nomatch h)
theorem J7{α:Type}{P:α->Prop}{a b:α}(h1:P a)(h2:P b):∀x∈[a,b],P x:=fun x h=>by
 rcases List.mem_cons.1 h with rfl |h
 .exact h1
 .rcases List.mem_cons.1 h with rfl |h
  .exact h2
  .cases h
theorem VD{α:Type}{P:α->Prop}{a:α}(h1:P a):∀x∈[a],P x:=fun x h=>by
 rcases List.mem_cons.1 h with rfl |h
 .exact h1
 .cases h
theorem aoO:yr lh (fR lh.aj 0 []):=by
 refine aec aej ?_ (J7 (by decide +kernel) (by decide +kernel));refine J7 ?_ ?_
 .exact .mk (by decide) (by decide) (by decide) (by decide) (VD (Gu (by decide))) (VD (by decide)) (VD (Gu (by decide))) (fun _ h=>nomatch h) (fun _ h=>nomatch h)
 .exact VC (by decide) (by decide) (J7 (VC (by decide) (by decide) (J7 (Gu (by decide)) (Gu (by decide)))) (VC (by decide) (by decide) (J7 (Gu (by decide)) (Gu (by decide)))))
theorem aoP{w:World}:bu Tryz.prog 5 [] w fun r w'=>r=.bool true/\Mod (fun _=>False) w w':=by
 refine γ Tryz.f5 ?_;(try simp only[go_sem,Nat.reduceAdd,Nat.reduceEqDiff,Nat.reduceLT,Nat.reduceLeDiff,Nat.reduceMul,reduceCtorEq,↓reduceIte]);refine aL (by rfl) ?_;refine aoN.mono ?_;rintro _ w1 ⟨⟨cs,rfl,hP⟩,ak⟩;(try simp only[go_sem,Nat.reduceAdd,Nat.reduceEqDiff,Nat.reduceLT,Nat.reduceLeDiff,Nat.reduceMul,reduceCtorEq,↓reduceIte]);refine aL (by rfl) ?_;refine(ac4 lh hP (fun _=>aoO) (fun d df h=>?_) (fun _=>by decide +kernel) aoM).mono ?_
 .match d,h with
  |0,h=>obtain rfl:=Option.some.inj h;decide
  |1,h=>obtain rfl:=Option.some.inj h;decide
  |d+2,h=>cases h
 rintro _ w2 ⟨⟨XU,rfl,vd,vf,rfl,hd,hf⟩,ai⟩;obtain⟨da,dc,rfl⟩:=bq hd;have EM:=hf;obtain⟨fa,fc,rfl⟩:=bq hf;(try simp only[go_sem,Nat.reduceAdd,Nat.reduceEqDiff,Nat.reduceLT,Nat.reduceLeDiff,Nat.reduceMul,reduceCtorEq,↓reduceIte]);refine cX ?_;intro w3 aS aw dU;(try simp only[go_sem,Nat.reduceAdd,Nat.reduceEqDiff,Nat.reduceLT,Nat.reduceLeDiff,Nat.reduceMul,reduceCtorEq,↓reduceIte]);refine bN (vs:=[.slice da qK.aK.length dc,.slice fa qK.aj.length fc]) (cs:=[.slice none 0 0,.slice none 0 0]) rfl rfl aS rfl rfl (aP rfl (aP rfl dq)) ?_;intro w4 bm aD dL;have m24:=aw.step aD (fun x hx hl=>by omega);have hf:=aX.up EM m24 aA (br m24) (fun _ _ h=>h.up m24 aA (br m24));obtain⟨a,c,r0,e0,⟨vp0,tc0,bc0,rfl,_⟩,_,_,x0⟩:=dT hf (i:=0) (by decide);cases e0;obtain⟨_,_,r1,e1,⟨vp1,tc1,bc1,rfl,_,_,kx,_⟩,_,_,x1⟩:=dT hf (i:=1) (by decide);cases e1;obtain⟨_,_,r2,e2,⟨Zf,tc2,bc2,rfl,_⟩,_,_,x2⟩:=dT hf (i:=2) (by decide);cases e2;obtain⟨ap,cp,rfl⟩:=bq kx;have z0:((0:Int)==0)=true:=rfl;have zl:(((qK.aj.length:Nat):Int)==3)=true:=rfl;have zp:(((Aq.params.length:Nat):Int)==0)=true:=rfl;have p0:(0:Int)<=0/\(0:Int)<((qK.aj.length:Nat):Int):=by decide
 have p1:(0:Int)<=1/\(1:Int)<((qK.aj.length:Nat):Int):=by decide
 have p2:(0:Int)<=2/\(2:Int)<((qK.aj.length:Nat):Int):=by decide
 have n0:(kM.toList == kM.toList)=true:=by simp
 have n1:(uV.toList == uV.toList)=true:=by simp
 have n2:(uW.toList == uW.toList)=true:=by simp
 have y0:w4.cell? (a.add (Int.toNat 0*12))=some (.string kM):=x0 0 (by simp);have y1:w4.cell? (a.add (Int.toNat 1*12))=some (.string uV):=x1 0 (by simp);have y1':w4.cell? ⟨(a.add (Int.toNat 1*12)).block,(a.add (Int.toNat 1*12)).off+1,none⟩=some (.slice ap Aq.params.length cp):=x1 1 (by simp);have y2:w4.cell? (a.add (Int.toNat 2*12))=some (.string uW):=x2 0 (by simp);(try simp only[go_sem,Nat.reduceAdd,Nat.reduceEqDiff,Nat.reduceLT,Nat.reduceLeDiff,Nat.reduceMul,reduceCtorEq,↓reduceIte,cell_of bm,z0,zl,p0,p1,p2,y0,y1,y1',y2,n0,n1,n2,zp]);exact⟨rfl,ak.trans (ai.trans m24)⟩
end
section
open Go Go.W
theorem aoQ{w:World}{B B':Nat→Prop}{v1 v2:Value}{l1 l2:List Ba}(h1:ML w B v1 l1)(h2:ML w B' v2 l2) :
   bu Tryz.prog 8 [v1,v2] w fun r w'=>r=.bool (zM l1 l2)/\Mod (fun _=>False) w w':=by
 obtain⟨a1,c1,rfl⟩:=bq h1;obtain⟨a2,c2,rfl⟩:=bq h2;have oh:=dI h1;refine γ Tryz.f8 ?_;refine σ ?_
 refine io (fun z ρ w'=>∃i:Nat,z=l1.length-i/\i<=l1.length/\Mod (fun _=>False) w w'/\zM l1 l2=zM (l1.drop i) (l2.drop i) /\
  ρ=[(0,.slice a1 l1.length c1),(1,.slice a2 l2.length c2),(5,I i)]) l1.length ⟨0,rfl,by omega,.refl _ _,rfl,rfl⟩ ?_
 rintro z _ w2 ⟨i,rfl,hi,bo,nY,rfl⟩;refine σ ?_;by_cases q1:i<l1.length
 .have b1:decide ((i:Int)<l1.length)=true:=by simpa using q1
  simp only[go_sem,simprocAttr,b1];by_cases q2:i<l2.length
  .have b2:decide ((i:Int)<l2.length)=true:=by simpa using q2
   have gB:=ajO q1 q2;obtain⟨uF,Ll,r1,e1,er1,_,aoR,_⟩:=dT (h1.mod bo aA (fun _ _ h=>h)) q1;obtain⟨pY,c2',r2,e2,er2,_,Cq,_⟩:=dT (h2.mod bo aA (fun _ _ h=>h)) q2;obtain⟨rfl,-,-⟩:=cU e1;obtain⟨rfl,-,-⟩:=cU e2;cases er1;cases er2;have p1:(0:Int)<=i/\(i:Int)<l1.length:=by omega
   have p2:(0:Int)<=i/\(i:Int)<l2.length:=by omega
   have e3:IntKind.i64.wrap ((i:Int)+1)=((i+1:Nat):Int):=by rw[dJ (by omega) (by omega)];omega
   simp only[go_sem,simprocAttr,b2];simp only[go_sem,simprocAttr,bG,bH,p1,p2,aoR,Cq,EB];have e4:(decide (l1[i].1=l2[i].1)&&l1[i].2 == l2[i].2)=Fp l1[i] l2[i]:=by unfold Fp;congr 1
   rw[e4];have d2:Mod (fun _=>False) w2 w2.drew:=(Mod.refl _ _).drew;cases hz:Fp l1[i] l2[i]with
   |false=>
    rw[hz,Bool.false_and]at gB;simp only[go_sem,simprocAttr,aM,RV.ev,aN];exact⟨by rw[nY,gB],bo.trans d2⟩
   |true=>
    rw[hz,Bool.true_and]at gB;simp only[go_sem,simprocAttr,e3];exact⟨_,by omega,i+1,rfl,q1,bo.trans d2,by rw[nY,gB],rfl⟩
  .have b2:decide ((i:Int)<l2.length)=false:=by simpa using q2
   simp only[go_sem,simprocAttr,b2,aM,RV.ev,aN];exact⟨by rw[nY,aae (.inr (by omega))],bo⟩
 .have b1:decide ((i:Int)<l1.length)=false:=by simpa using q1
  simp only[go_sem,simprocAttr,b1,aM,RV.ev,aN];exact⟨by rw[nY,aae (.inl (by omega))],bo⟩
end
section
open Go Go.W
theorem aen:∀{l m:List Ba},((∃x,m=l++x)\/(∃x,l=m++x))->zM l m=true
 |[],_,_=>rfl
 |_::_,[],_=>rfl
 |a::l,b::m,h=>by
  have h1:a=b/\((∃x,m=l++x)\/(∃x,l=m++x)):=by
   rcases h with⟨x,h⟩ |⟨x,h⟩
   .rw[List.cons_append]at h;injection h with h1 h2;exact⟨h1.symm,.inl ⟨x,h2⟩⟩
   .rw[List.cons_append]at h;injection h with h1 h2;exact⟨h1,.inr ⟨x,h2⟩⟩
  obtain⟨rfl,h2⟩:=h1;simp[zM,Fp,aen h2]
theorem aeo{w:World}{B:Nat->Prop}{oc:List Value}{x:Option Rn}(h:Ao w B oc x):∃k s n v l,oc=eF k s n v/\ML w B v l:=by
 match x,h with
 |none,h=>exact⟨_,_,_,_,[],h,eB _ _ _ _⟩
 |some m,⟨v,h1,h2⟩=>exact⟨_,_,_,_,_,h1,h2⟩
theorem Ao.up{w w':World}{B B':Nat->Prop}{oc:List Value}{x:Option Rn}(h:Ao w B oc x)(hm:Mod (fun _=>False) w w')(hB:∀b,B b->B' b):Ao w' B' oc x:=by
 match x,h with
 |none,h=>exact h
 |some m,⟨v,h1,h2⟩=>exact⟨v,h1,aX.up h2 hm aA hB (fun _ _ h=>h)⟩
def J8(w:World)(v:Value)(l:List (List Int)):Prop:=aX w v 1 (Out (fun _=>False) w) (fun r x=>∃u,r=[u]/\yQ w u x) l
theorem J8.mod{w w':World}{v:Value}{l:List (List Int)}(h:J8 w v l)(hm:Mod (fun _=>False) w w'):J8 w' v l:=aX.up h hm aA (br hm) (fun _ _ ⟨u,e,h⟩=>⟨u,e,h.mod hm (fun _ _ h=>h)⟩)
theorem aoS(p:Pg){entry:ByteArray}{runs:List (List Int)}{v:Value}{w:World}{cs:List Value}(h:j0 w (Out (fun _=>False) w) cs p)(hr:J8 w v runs)(hp:fe p=0→yr p (fR p.aj 0 []))(hC:∀ (d:Nat) df,p.aj[d]? = some df→df.name.size≤1048576∧df.params.length≤1048576)
   (bV:fe p=0->0<=Pg.size ⟨p.aK,[]⟩/\Pg.size ⟨p.aK,[]⟩<=100000) :
   bu Tryz.prog 3 [.agg cs.toArray,.string entry,v] w fun r w'=>r=.bool true/\Mod (fun _=>False) w w':=by
 have h0:=h;have o0:=hr;obtain⟨em,q,aep,_,_⟩:=acN hp bV entry;obtain⟨vd,vf,rfl,hd,hf⟩:=h;obtain⟨ad,cd,rfl⟩:=bq hd;obtain⟨af,cf,rfl⟩:=bq hf;obtain⟨ar,cr,rfl⟩:=bq hr;refine γ Tryz.f3 ?_;refine eA (fun ρ w'=>Mod (fun _=>False) w w'/\w'.heap[w.heap.size]?=some (.cells [.slice ad p.aK.length cd,.slice af p.aj.length cf].toArray 25 (0,0))/\ρ=[(1,.string entry),(2,.slice ar runs.length cr),(3,ptr w.heap.size)]) ?_ ?_
 ·(try simp only[go_sem,Nat.reduceAdd,Nat.reduceEqDiff,Nat.reduceLT,Nat.reduceLeDiff,Nat.reduceMul,reduceCtorEq,↓reduceIte]);refine bZ rfl ?_;intro w1 au ak cw;(try simp only[go_sem,Nat.reduceAdd,Nat.reduceEqDiff,Nat.reduceLT,Nat.reduceLeDiff,Nat.reduceMul,reduceCtorEq,↓reduceIte]);exact⟨ak,au⟩
 rintro _ w1 ⟨J5,aS,rfl⟩;refine eA (fun ρ w'=>∃b,Mod (fun _=>False) w w'/\w'.heap[w.heap.size]?=some (.cells [.slice ad p.aK.length cd,.slice af p.aj.length cf].toArray 25 (0,0))/\ρ=[(1,.string entry),(2,.slice ar runs.length cr),(3,ptr w.heap.size),(7,.bool b)]) ?_ ?_
 ·(try simp only[go_sem,Nat.reduceAdd,Nat.reduceEqDiff,Nat.reduceLT,Nat.reduceLeDiff,Nat.reduceMul,reduceCtorEq,↓reduceIte,aE (n:=2) aS rfl]);refine aL (by rfl) ?_;refine(ajw p (h0.mod J5 aA)).mono ?_;rintro _ w2 ⟨⟨b,rfl⟩,ai⟩;(try simp only[go_sem,Nat.reduceAdd,Nat.reduceEqDiff,Nat.reduceLT,Nat.reduceLeDiff,Nat.reduceMul,reduceCtorEq,↓reduceIte]);exact⟨b,J5.trans ai,ai.at aS Ψ,rfl⟩
 rintro _ w2 ⟨b,kN,aS,rfl⟩;refine eA (fun ρ w'=>w2=w'/\ρ.get 1=some (.string entry)/\ρ.get 2=some (.slice ar runs.length cr)/\ρ.get 3=some (ptr w.heap.size)) ?_ ?_
 .cases b with
  |true=>(try simp only[go_sem,Nat.reduceAdd,Nat.reduceEqDiff,Nat.reduceLT,Nat.reduceLeDiff,Nat.reduceMul,reduceCtorEq,↓reduceIte,aM,RV.ev,aN]);exact kN
  |false=>(try simp only[go_sem,Nat.reduceAdd,Nat.reduceEqDiff,Nat.reduceLT,Nat.reduceLeDiff,Nat.reduceMul,reduceCtorEq,↓reduceIte])
 rintro ρ _ ⟨rfl,g1,g2,g3⟩;refine eA (fun ρ w'=>Mod (fun _=>False) w w'/\w'.heap[w.heap.size]?=some (.cells [.slice ad p.aK.length cd,.slice af p.aj.length cf].toArray 25 (0,0))/\ρ=[(1,.string entry),(2,.slice ar runs.length cr),(3,ptr w.heap.size),(8,.bool true)]) ?_ ?_
 ·(try simp only[go_sem,Nat.reduceAdd,Nat.reduceEqDiff,Nat.reduceLT,Nat.reduceLeDiff,Nat.reduceMul,reduceCtorEq,↓reduceIte,g1,g2,g3]);refine aL (by rfl) ?_;refine aoP.mono ?_;rintro _ w3 ⟨rfl,aw⟩;(try simp only[go_sem,Nat.reduceAdd,Nat.reduceEqDiff,Nat.reduceLT,Nat.reduceLeDiff,Nat.reduceMul,reduceCtorEq,↓reduceIte,g1,g2,g3]);exact⟨kN.trans aw,aw.at aS Ψ⟩
 clear kN aS g1 g2 g3;rintro _ w3 ⟨rF,aS,rfl⟩
 refine eA (fun ρ w'=>∃ b9 cq,Mod (fun _=>False) w w'∧w'.heap[w.heap.size]? = some (.cells [.slice ad p.aK.length cd,.slice af p.aj.length cf].toArray 25 (0,0))∧w'.heap[b9]? = some (.cells (cq:List Value).toArray 25 (0,0))∧j0 w' (Out (fun _=>False) w') cq q ∧
     ρ=[(1,.string entry),(2,.slice ar runs.length cr),(3,ptr w.heap.size),(8,.bool true),(9,ptr b9),(10,I em)]) ?_ ?_
 ·(try simp only[go_sem,Nat.reduceAdd,Nat.reduceEqDiff,Nat.reduceLT,Nat.reduceLeDiff,Nat.reduceMul,reduceCtorEq,↓reduceIte,aE (n:=2) aS rfl]);refine aL (by rfl) ?_;refine(ac4 p (h0.up (S:=fun _=>False) rF aA (br rF)) hp hC bV aep).mono ?_;rintro _ w4 ⟨⟨cq,rfl,hq⟩,aD⟩;obtain⟨qd,qf,rfl,J9,Bm⟩:=hq;have o1:=j6 J9;have o2:=j6 Bm;(try simp only[go_sem,Nat.reduceAdd,Nat.reduceEqDiff,Nat.reduceLT,Nat.reduceLeDiff,Nat.reduceMul,reduceCtorEq,↓reduceIte]);refine cX ?_;intro w5 di aH eY;(try simp only[go_sem,Nat.reduceAdd,Nat.reduceEqDiff,Nat.reduceLT,Nat.reduceLeDiff,Nat.reduceMul,reduceCtorEq,↓reduceIte]);refine bN (vs:=[qd,qf]) (cs:=[.slice none 0 0,.slice none 0 0]) rfl rfl di rfl rfl (aP o1 (aP o2 dq)) ?_;intro w6 di aG fw;have yb:Mod (fun _=>False) w4 w6:=aH.step aG (fun b hb hl=>by omega);(try simp only[go_sem,Nat.reduceAdd,Nat.reduceEqDiff,Nat.reduceLT,Nat.reduceLeDiff,Nat.reduceMul,reduceCtorEq,↓reduceIte]);have hq:j0 w4 (Out (fun _=>False) w4) [qd,qf] q:=⟨_,_,rfl,J9,Bm⟩;exact⟨_,_,rF.trans (aD.trans yb),(aD.trans yb).at aS Ψ,di,hq.up yb aA (br yb),rfl⟩
 clear rF aS;rintro _ w4 ⟨b9,cq,pM,aS,di,hq,rfl⟩;refine eA (fun ρ w'=>em=0/\w4=w'/\ρ.get 1=some (.string entry)/\ρ.get 2=some (.slice ar runs.length cr)/\ρ.get 3=some (ptr w.heap.size)/\ρ.get 9=some (ptr b9)) ?_ ?_
 .cases q1:em != 0 with
  |true=>(try simp only[go_sem,Nat.reduceAdd,Nat.reduceEqDiff,Nat.reduceLT,Nat.reduceLeDiff,Nat.reduceMul,reduceCtorEq,↓reduceIte,q1,aM,RV.ev,aN]);exact pM
  |false=>
   (try simp only[go_sem,Nat.reduceAdd,Nat.reduceEqDiff,Nat.reduceLT,Nat.reduceLeDiff,Nat.reduceMul,reduceCtorEq,↓reduceIte,q1])
   simpa using q1
 rintro ρ _ ⟨rfl,rfl,g1,g2,g3,g9⟩;have nE:=o0.mod pM;refine eA (fun ρ w'=>w4=w'/\ρ=[(1,.string entry),(2,.slice ar runs.length cr),(3,ptr w.heap.size),(9,ptr b9),(11,.slice none 0 0)]) ?_ ?_
 ·(try simp only[go_sem,Nat.reduceAdd,Nat.reduceEqDiff,Nat.reduceLT,Nat.reduceLeDiff,Nat.reduceMul,reduceCtorEq,↓reduceIte,g1,g2,g3,g9])
 clear g1 g2 g3 g9;rintro _ _ ⟨rfl,rfl⟩;refine eA (fun ρ w'=>w4=w'/\ρ=[(1,.string entry),(2,.slice ar runs.length cr),(3,ptr w.heap.size),(9,ptr b9),(11,.slice none 0 0),(12,I 100)]) ?_ ?_
 ·(try simp only[go_sem,Nat.reduceAdd,Nat.reduceEqDiff,Nat.reduceLT,Nat.reduceLeDiff,Nat.reduceMul,reduceCtorEq,↓reduceIte])
 rintro _ _ ⟨rfl,rfl⟩;refine eA (fun ρ w'=>w4=w'/\ρ=[(1,.string entry),(2,.slice ar runs.length cr),(3,ptr w.heap.size),(9,ptr b9),(11,.slice none 0 0),(12,I 100),(13,I 100)]) ?_ ?_
 ·(try simp only[go_sem,Nat.reduceAdd,Nat.reduceEqDiff,Nat.reduceLT,Nat.reduceLeDiff,Nat.reduceMul,reduceCtorEq,↓reduceIte])
 rintro _ _ ⟨rfl,rfl⟩;refine eA (fun ρ w'=>∃input vi,yQ w4 vi input/\w4=w'/\ρ.get 1=some (.string entry)/\ρ.get 2=some (.slice ar runs.length cr)/\ρ.get 3=some (ptr w.heap.size)/\ρ.get 9=some (ptr b9)/\ρ.get 11=some vi/\ρ.get 12=some (I 100)/\ρ.get 13=some (I 100)) ?_ ?_
 .cases q:decide ((runs.length:Int)>0)with
  |false=>
   (try simp only[go_sem,Nat.reduceAdd,Nat.reduceEqDiff,Nat.reduceLT,Nat.reduceLeDiff,Nat.reduceMul,reduceCtorEq,↓reduceIte,q]);exact⟨[],_,⟨none,0,rfl,by simp,fun i h=>absurd h (by simp)⟩,rfl⟩
  |true=>
   have q':0<runs.length:=by have:=of_decide_eq_true q;omega
   obtain⟨ad,c,r,e,⟨u,rfl,hu⟩,_,_,hc⟩:=dT nE q';cases e;have b1:(0:Int)<=0/\(0:Int)<(runs.length:Nat):=by omega
   have y0:w4.cell? (ad.add (Int.toNat 0*1))=some u:=hc 0 (by simp);(try simp only[go_sem,Nat.reduceAdd,Nat.reduceEqDiff,Nat.reduceLT,Nat.reduceLeDiff,Nat.reduceMul,reduceCtorEq,↓reduceIte,q,decide_true,b1,y0]);exact⟨_,_,hu,rfl⟩
 rintro ρ _ ⟨input,vi,ij,rfl,g1,g2,g3,g9,g11,g12,g13⟩;refine eA (fun ρ w'=>∃f g:Int,w4=w'/\ρ.get 1=some (.string entry)/\ρ.get 3=some (ptr w.heap.size)/\ρ.get 9=some (ptr b9)/\ρ.get 11=some vi/\ρ.get 12=some (I f)/\ρ.get 13=some (I g)) ?_ ?_
 .cases q:decide ((runs.length:Int)>1)with
  |false=>
   (try simp only[go_sem,Nat.reduceAdd,Nat.reduceEqDiff,Nat.reduceLT,Nat.reduceLeDiff,Nat.reduceMul,reduceCtorEq,↓reduceIte,q,g1,g2,g3,g9,g11,g12,g13]);exact⟨_,_,rfl,rfl⟩
  |true=>
   have q':1<runs.length:=by have:=of_decide_eq_true q;omega
   obtain⟨ad,c,r,e,⟨u,rfl,hu⟩,_,_,hc⟩:=dT nE q';cases e;obtain⟨a1,c1,rfl,oh,cP⟩:=hu;have b1:(0:Int)<=1/\(1:Int)<(runs.length:Nat):=by omega
   have y0:w4.cell? (ad.add (Int.toNat 1*1))=some (.slice a1 runs[1].length c1):=hc 0 (by simp);cases q2:decide ((runs[1].length:Int)>1)with
   |false=>
    (try simp only[go_sem,Nat.reduceAdd,Nat.reduceEqDiff,Nat.reduceLT,Nat.reduceLeDiff,Nat.reduceMul,reduceCtorEq,↓reduceIte,q,decide_true,b1,y0,q2,g1,g2,g3,g9,g11,g12,g13]);exact⟨_,_,rfl,rfl⟩
   |true=>
    have LM:1<runs[1].length:=by have:=of_decide_eq_true q2;omega
    obtain⟨a2,rfl,z0⟩:=cP 0 (by omega);obtain⟨_,e3,z1⟩:=cP 1 (by omega);cases e3;have b2:(0:Int)<=0/\(0:Int)<(runs[1].length:Nat):=by omega
    have b3:(0:Int)<=1/\(1:Int)<(runs[1].length:Nat):=by omega
    have z0:w4.cell? (a2.add (Int.toNat 0*1))=some (I runs[1][0]):=z0;have z1:w4.cell? (a2.add (Int.toNat 1*1))=some (I runs[1][1]):=z1;(try simp only[go_sem,Nat.reduceAdd,Nat.reduceEqDiff,Nat.reduceLT,Nat.reduceLeDiff,Nat.reduceMul,reduceCtorEq,↓reduceIte,q,decide_true,b1,y0,q2,b2,b3,z0,z1,g1,g2,g3,g9,g11,g12,g13]);exact⟨_,_,rfl,rfl⟩
 clear g1 g2 g3 g9 g11 g12 g13;rintro ρ _ ⟨f,g,rfl,g1,g3,g9,g11,g12,g13⟩;obtain⟨N1,hN1⟩:=adX p entry;obtain⟨N2,hN2⟩:=adX q entry;obtain⟨r1,nu,Fv⟩:=hN1 input f;obtain⟨r2,y6,ok2⟩:=hN2 input g;refine eA (fun ρ w'=>∃nG J',Ao w' (fun b=>w.heap.size<=b/\b<w'.heap.size) J' r1.2/\w'.heap[nG]?=some (.cells J'.toArray 37 (0,0))/\Mod (fun _=>False) w4 w'/\ρ.get 1=some (.string entry)/\ρ.get 9=some (ptr b9)/\ρ.get 11=some vi/\ρ.get 13=some (I g)/\ρ.get 14=some (ptr nG)/\ρ.get 15=some (I r1.1)) ?_ ?_
 ·(try simp only[go_sem,Nat.reduceAdd,Nat.reduceEqDiff,Nat.reduceLT,Nat.reduceLeDiff,Nat.reduceMul,reduceCtorEq,↓reduceIte,g1,g3,g9,g11,g12,g13,aE (n:=2) aS rfl]);have kP:gW ((64,Value.agg #[.slice ad p.aK.length cd,.slice af p.aj.length cf])::ρ) [.t 64,.t 1,.t 11,.t 12]=some [.agg #[.slice ad p.aK.length cd,.slice af p.aj.length cf],.string entry,vi,I f]:=by simp only[gW,O.ev,g1,g11,g12,go_sem];rfl
  refine aL kP ?_;refine(adg p (h0.up (S:=fun _=>False) pM aA (br pM)) ij nu).mono ?_;rintro _ w5 ⟨⟨oc,rfl,qY⟩,aH⟩;obtain⟨k,s',n',v',l',rfl,VE⟩:=aeo qY;have ho:=j6 VE;(try simp only[go_sem,Nat.reduceAdd,Nat.reduceEqDiff,Nat.reduceLT,Nat.reduceLeDiff,Nat.reduceMul,reduceCtorEq,↓reduceIte,g1,g3,g9,g11,g12,g13]);refine cX ?_;intro w6 gD aG fw;(try simp only[go_sem,Nat.reduceAdd,Nat.reduceEqDiff,Nat.reduceLT,Nat.reduceLeDiff,Nat.reduceMul,reduceCtorEq,↓reduceIte,g1,g3,g9,g11,g12,g13]);refine bN (vs:=eF k s' n' v') (cs:=eF 0 0 0 (.slice none 0 0)) rfl rfl gD rfl rfl (tH ho) ?_;intro w7 gD aO jn;have vV:Mod (fun _=>False) w5 w7:=aG.step aO (fun b hb hl=>by omega);have z4:=pM.size;have z5:=vV.size;(try simp only[go_sem,Nat.reduceAdd,Nat.reduceEqDiff,Nat.reduceLT,Nat.reduceLeDiff,Nat.reduceMul,reduceCtorEq,↓reduceIte,g1,g3,g9,g11,g12,g13]);exact⟨_,_,qY.up vV (fun b h=>⟨by omega,by omega⟩),gD,aH.trans vV,rfl⟩
 clear g1 g3 g9 g11 g12 g13 aS;rintro ρ w5 ⟨nG,J',tR,gD,uX,g1,g9,g11,g13,g14,g15⟩;have di:=uX.at di Ψ;have hq:=hq.up (S:=fun _=>False) uX aA (br uX);have ij:=ij.mod uX (fun _ _ h=>h);obtain⟨qd,qf,rfl,J9,Bm⟩:=hq;have hq:j0 w5 (Out (fun _=>False) w5) [qd,qf] q:=⟨_,_,rfl,J9,Bm⟩;have BL:=pM.trans uX;clear J9 Bm pM uX;refine eA (fun ρ w'=>∃yD VF,Ao w' (fun b=>w.heap.size<=b/\b<w'.heap.size) J' r1.2/\Ao w' (fun b=>w.heap.size<=b/\b<w'.heap.size) VF r2.2/\w'.heap[nG]?=some (.cells J'.toArray 37 (0,0))/\w'.heap[yD]?=some (.cells VF.toArray 37 (0,0))/\Mod (fun _=>False) w w'/\ρ.get 14=some (ptr nG)/\ρ.get 15=some (I r1.1)/\ρ.get 16=some (ptr yD)/\ρ.get 17=some (I r2.1)) ?_ ?_
 ·(try simp only[go_sem,Nat.reduceAdd,Nat.reduceEqDiff,Nat.reduceLT,Nat.reduceLeDiff,Nat.reduceMul,reduceCtorEq,↓reduceIte,g1,g9,g11,g13,g14,g15,aE (n:=2) di rfl]);have kP:gW ((72,Value.agg #[qd,qf])::ρ) [.t 72,.t 1,.t 11,.t 13]=some [.agg #[qd,qf],.string entry,vi,I g]:=by simp only[gW,O.ev,g1,g11,g13,go_sem];rfl
  refine aL kP ?_;refine(adg q hq ij y6).mono ?_;rintro _ w6 ⟨⟨oc,rfl,qY⟩,aG⟩;obtain⟨k,s',n',v',l',rfl,VE⟩:=aeo qY;have ho:=j6 VE;(try simp only[go_sem,Nat.reduceAdd,Nat.reduceEqDiff,Nat.reduceLT,Nat.reduceLeDiff,Nat.reduceMul,reduceCtorEq,↓reduceIte,g1,g9,g11,g13,g14,g15]);refine cX ?_;intro w7 jy aO jn;(try simp only[go_sem,Nat.reduceAdd,Nat.reduceEqDiff,Nat.reduceLT,Nat.reduceLeDiff,Nat.reduceMul,reduceCtorEq,↓reduceIte,g1,g9,g11,g13,g14,g15]);refine bN (vs:=eF k s' n' v') (cs:=eF 0 0 0 (.slice none 0 0)) rfl rfl jy rfl rfl (tH ho) ?_;intro w8 jy aZ kD;have uy:Mod (fun _=>False) w6 w8:=aO.step aZ (fun b hb hl=>by omega);have HS:=aG.trans uy;have z4:=BL.size;have z5:=uy.size;have z6:=aG.size;(try simp only[go_sem,Nat.reduceAdd,Nat.reduceEqDiff,Nat.reduceLT,Nat.reduceLeDiff,Nat.reduceMul,reduceCtorEq,↓reduceIte,g1,g9,g11,g13,g14,g15]);exact⟨_,_,tR.up HS (fun b h=>⟨h.1,by omega⟩),qY.up uy (fun b h=>⟨by omega,by omega⟩),HS.at gD Ψ,jy,BL.trans HS,rfl⟩
 clear g1 g9 g11 g13 g14 g15 di hq ij BL tR gD;rintro ρ w6 ⟨yD,VF,tR,xh,gD,jy,yy,g14,g15,g16,g17⟩;refine eA (fun ρ w'=>(r1.1=0/\r2.1=0)/\w6=w'/\ρ.get 14=some (ptr nG)/\ρ.get 16=some (ptr yD)) ?_ ?_
 .cases q1:r1.1 != 0 with
  |true=>(try simp only[go_sem,Nat.reduceAdd,Nat.reduceEqDiff,Nat.reduceLT,Nat.reduceLeDiff,Nat.reduceMul,reduceCtorEq,↓reduceIte,g14,g15,g16,g17,q1,aM,RV.ev,aN]);exact yy
  |false=>
   cases q2:r2.1 != 0 with
   |true=>(try simp only[go_sem,Nat.reduceAdd,Nat.reduceEqDiff,Nat.reduceLT,Nat.reduceLeDiff,Nat.reduceMul,reduceCtorEq,↓reduceIte,g14,g15,g16,g17,q1,q2,aM,RV.ev,aN]);exact yy
   |false=>
    (try simp only[go_sem,Nat.reduceAdd,Nat.reduceEqDiff,Nat.reduceLT,Nat.reduceLeDiff,Nat.reduceMul,reduceCtorEq,↓reduceIte,g14,g15,g16,g17,q1,q2]);exact⟨by simpa using q1,by simpa using q2⟩
 clear g14 g15 g16 g17;rintro ρ _ ⟨⟨e1,e2⟩,rfl,g14,g16⟩;obtain⟨a,vP⟩:=Fv e1;obtain⟨b,az⟩:=ok2 e2;obtain⟨r11,r12⟩:=r1;obtain⟨r21,r22⟩:=r2;obtain rfl:r11=0:=e1;obtain rfl:r21=0:=e2;obtain rfl:r12=some a:=vP;obtain rfl:r22=some b:=az;obtain⟨aoT,hA,hB,hK⟩:=aou aep hp bV nu y6;obtain⟨va,rfl,ha⟩:=tR;obtain⟨vb,rfl,hb⟩:=xh;obtain⟨aa,ca,rfl⟩:=bq ha;obtain⟨ab,cb,rfl⟩:=bq hb;have la:a.kind≠4->b.told.length<=a.told.length:=fun h=>by obtain⟨l,e⟩:=hA h;rw[e,List.length_append];omega
 have lb:b.kind≠4->a.told.length<=b.told.length:=fun h=>by obtain⟨l,e⟩:=hB h;rw[e,List.length_append];omega
 have n4:∀{k:Int},((k == 2)=true\/(k == 3)=true)->k≠4:=fun h=>by rcases h with h |h<;>(have:=eq_of_beq h;omega)
 have lne:a.kind≠4->b.kind≠4->(((a.told.length:Nat):Int)!=((b.told.length:Nat):Int))=false:=fun h1 h2=>by
  have e:a.told.length=b.told.length:=by have:=la h1;have:=lb h2;omega
  rw[e];simp
 refine eA (fun ρ w'=>w6=w'/\ρ.get 14=some (ptr nG)/\ρ.get 16=some (ptr yD)) ?_ ?_
 .cases qa:a.kind == 2 with
  |false=>(try simp only[go_sem,Nat.reduceAdd,Nat.reduceEqDiff,Nat.reduceLT,Nat.reduceLeDiff,Nat.reduceMul,reduceCtorEq,↓reduceIte,g14,g16,cell_of gD,cell_of jy,Value.cells,qa])
  |true=>
   cases qb:b.kind == 2 with
   |false=>(try simp only[go_sem,Nat.reduceAdd,Nat.reduceEqDiff,Nat.reduceLT,Nat.reduceLeDiff,Nat.reduceMul,reduceCtorEq,↓reduceIte,g14,g16,cell_of gD,cell_of jy,Value.cells,qa,qb])
   |true=>
    have ql:=lne (n4 (.inl qa)) (n4 (.inl qb));(try simp only[go_sem,Nat.reduceAdd,Nat.reduceEqDiff,Nat.reduceLT,Nat.reduceLeDiff,Nat.reduceMul,reduceCtorEq,↓reduceIte,g14,g16,cell_of gD,cell_of jy,Value.cells,qa,qb,ql])
 clear g14 g16;rintro ρ _ ⟨rfl,g14,g16⟩;refine eA (fun ρ w'=>w6=w'/\ρ.get 14=some (ptr nG)/\ρ.get 16=some (ptr yD)) ?_ ?_
 .cases qa:a.kind == 3 with
  |false=>(try simp only[go_sem,Nat.reduceAdd,Nat.reduceEqDiff,Nat.reduceLT,Nat.reduceLeDiff,Nat.reduceMul,reduceCtorEq,↓reduceIte,g14,g16,cell_of gD,cell_of jy,Value.cells,qa])
  |true=>
   cases qb:b.kind == 3 with
   |false=>(try simp only[go_sem,Nat.reduceAdd,Nat.reduceEqDiff,Nat.reduceLT,Nat.reduceLeDiff,Nat.reduceMul,reduceCtorEq,↓reduceIte,g14,g16,cell_of gD,cell_of jy,Value.cells,qa,qb])
   |true=>
    have ql:=lne (n4 (.inr qa)) (n4 (.inr qb));have qs:(a.stuck != b.stuck)=false:=by
     have:=(hK (n4 (.inr qa)) (n4 (.inr qb))).2 (eq_of_beq qa);rw[this];simp
    (try simp only[go_sem,Nat.reduceAdd,Nat.reduceEqDiff,Nat.reduceLT,Nat.reduceLeDiff,Nat.reduceMul,reduceCtorEq,↓reduceIte,g14,g16,cell_of gD,cell_of jy,Value.cells,qa,qb,ql,qs])
 clear g14 g16;rintro ρ _ ⟨rfl,g14,g16⟩;refine eA (fun ρ w'=>w6=w'/\ρ.get 14=some (ptr nG)/\ρ.get 16=some (ptr yD)/\ρ.get 18=some (.bool (a.kind == 2||a.kind == 3))) ?_ ?_
 .cases qa:a.kind == 2 with
  |false=>(try simp only[go_sem,Nat.reduceAdd,Nat.reduceEqDiff,Nat.reduceLT,Nat.reduceLeDiff,Nat.reduceMul,reduceCtorEq,↓reduceIte,g14,g16,cell_of gD,cell_of jy,Value.cells,qa,Bool.false_or])
  |true=>(try simp only[go_sem,Nat.reduceAdd,Nat.reduceEqDiff,Nat.reduceLT,Nat.reduceLeDiff,Nat.reduceMul,reduceCtorEq,↓reduceIte,g14,g16,cell_of gD,cell_of jy,Value.cells,qa,Bool.true_or])
 clear g14 g16;rintro ρ _ ⟨rfl,g14,g16,g18⟩;refine eA (fun ρ w'=>w6=w'/\ρ.get 14=some (ptr nG)/\ρ.get 16=some (ptr yD)/\ρ.get 18=some (.bool (a.kind == 2||a.kind == 3))/\ρ.get 19=some (.bool (b.kind == 2||b.kind == 3))) ?_ ?_
 .cases qb:b.kind == 2 with
  |false=>(try simp only[go_sem,Nat.reduceAdd,Nat.reduceEqDiff,Nat.reduceLT,Nat.reduceLeDiff,Nat.reduceMul,reduceCtorEq,↓reduceIte,g14,g16,g18,cell_of gD,cell_of jy,Value.cells,qb,Bool.false_or])
  |true=>(try simp only[go_sem,Nat.reduceAdd,Nat.reduceEqDiff,Nat.reduceLT,Nat.reduceLeDiff,Nat.reduceMul,reduceCtorEq,↓reduceIte,g14,g16,g18,cell_of gD,cell_of jy,Value.cells,qb,Bool.true_or])
 clear g14 g16 g18;rintro ρ _ ⟨rfl,g14,g16,g18,g19⟩;generalize ea:(a.kind == 2||a.kind == 3)=ka at g18;generalize eb:(b.kind == 2||b.kind == 3)=kb at g19;have na:ka=true->a.kind≠4:=fun h=>n4 (by rw[h,Bool.or_eq_true]at ea;exact ea)
 have nb:kb=true->b.kind≠4:=fun h=>n4 (by rw[h,Bool.or_eq_true]at eb;exact eb)
 refine eA (fun ρ w'=>w6=w'/\ρ.get 14=some (ptr nG)/\ρ.get 16=some (ptr yD)/\ρ.get 18=some (.bool ka)/\ρ.get 19=some (.bool kb)) ?_ ?_
 .cases ka with
  |false=>(try simp only[go_sem,Nat.reduceAdd,Nat.reduceEqDiff,Nat.reduceLT,Nat.reduceLeDiff,Nat.reduceMul,reduceCtorEq,↓reduceIte,g14,g16,g18,g19])
  |true=>
   cases kb with
   |false=>(try simp only[go_sem,Nat.reduceAdd,Nat.reduceEqDiff,Nat.reduceLT,Nat.reduceLeDiff,Nat.reduceMul,reduceCtorEq,↓reduceIte,g14,g16,g18,g19])
   |true=>
    have qk:(a.kind != b.kind)=false:=by rw[(hK (na rfl) (nb rfl)).1];simp
    (try simp only[go_sem,Nat.reduceAdd,Nat.reduceEqDiff,Nat.reduceLT,Nat.reduceLeDiff,Nat.reduceMul,reduceCtorEq,↓reduceIte,g14,g16,g18,g19,cell_of gD,cell_of jy,Value.cells,qk])
 clear g14 g16 g18 g19;rintro ρ _ ⟨rfl,g14,g16,g18,g19⟩;refine eA (fun ρ w'=>w6=w'/\ρ.get 14=some (ptr nG)/\ρ.get 16=some (ptr yD)) ?_ ?_
 .have q1:ka=true->decide (((b.told.length:Nat):Int)>((a.told.length:Nat):Int))=false:=fun h=>decide_eq_false (by have:=la (na h);omega)
  have q2:kb=true->decide (((a.told.length:Nat):Int)>((b.told.length:Nat):Int))=false:=fun h=>decide_eq_false (by have:=lb (nb h);omega)
  cases ka with
  |false=>
   cases kb with
   |false=>(try simp only[go_sem,Nat.reduceAdd,Nat.reduceEqDiff,Nat.reduceLT,Nat.reduceLeDiff,Nat.reduceMul,reduceCtorEq,↓reduceIte,g14,g16,g18,g19])
   |true=>(try simp only[go_sem,Nat.reduceAdd,Nat.reduceEqDiff,Nat.reduceLT,Nat.reduceLeDiff,Nat.reduceMul,reduceCtorEq,↓reduceIte,g14,g16,g18,g19,cell_of gD,cell_of jy,Value.cells,q2 rfl])
  |true=>
   cases kb with
   |false=>(try simp only[go_sem,Nat.reduceAdd,Nat.reduceEqDiff,Nat.reduceLT,Nat.reduceLeDiff,Nat.reduceMul,reduceCtorEq,↓reduceIte,g14,g16,g18,g19,cell_of gD,cell_of jy,Value.cells,q1 rfl])
   |true=>(try simp only[go_sem,Nat.reduceAdd,Nat.reduceEqDiff,Nat.reduceLT,Nat.reduceLeDiff,Nat.reduceMul,reduceCtorEq,↓reduceIte,g14,g16,g18,g19,cell_of gD,cell_of jy,Value.cells,q1 rfl,q2 rfl])
 clear g14 g16 g18 g19;rintro ρ _ ⟨rfl,g14,g16⟩;(try simp only[go_sem,Nat.reduceAdd,Nat.reduceEqDiff,Nat.reduceLT,Nat.reduceLeDiff,Nat.reduceMul,reduceCtorEq,↓reduceIte,g14,g16,cell_of gD,cell_of jy,Value.cells]);refine aL (by rfl) ?_;refine(aoQ ha hb).mono ?_;rintro _ w7 ⟨rfl,aO⟩;rw[aen aoT];(try simp only[go_sem,Nat.reduceAdd,Nat.reduceEqDiff,Nat.reduceLT,Nat.reduceLeDiff,Nat.reduceMul,reduceCtorEq,↓reduceIte,aM,RV.ev,aN]);exact yy.trans aO
end
section
open Go Go.W
def dk{α:Type}(μ:α->Nat):List α->Nat
 |[]=>0
 |x::l=>μ x+dk μ l
theorem uY{α:Type}{μ:α->Nat}:∀{l:List α} {x:α},x∈l->μ x<=dk μ l
 |y::l,x,h=>by
  rw[dk];rcases List.mem_cons.1 h with rfl |h
  .omega
  .have:=uY (μ:=μ) h;omega
theorem D2{α:Type}{μ:α->Nat}:∀{l:List α},(∀x∈l,1<=μ x)->l.length<=dk μ l
 |[],_=>Nat.le_refl _
 |y::l,h=>by
  rw[dk,List.length_cons];have:=h y (by simp);have:=D2 (μ:=μ) (l:=l) (fun x hx=>h x (by simp[hx]));omega
def pO(s:ByteArray):Nat:=s.size+1
mutual
def Ex.fD:Ex->Nat
 |.mk _ n _ ts xs bs al=>1+n.size+2*cj ts+Ka xs+Kb bs+Kc al
def Ka:List Ex->Nat
 |[]=>0
 |x::l=>x.fD+Ka l
def Kb:List Bd->Nat
 |[]=>0
 |.mk s t v::l=>1+s.size+2*t.cN+v.fD+Kb l
def Kc:List Al->Nat
 |[]=>0
 |.mk _ _ _ vs b::l=>1+dk pO vs+b.fD+Kc l
end
def rI(b:Bd):Nat:=1+b.name.size+2*b.type.cN+b.value.fD
def sE(a:Al):Nat:=1+dk pO a.vars+a.body.fD
theorem VG(b:Bd):rI b=1+b.name.size+2*b.type.cN+b.value.fD:=rfl
theorem VH(a:Al):sE a=1+dk pO a.vars+a.body.fD:=rfl
theorem aeq(s:ByteArray):pO s=s.size+1:=rfl
theorem aer:∀l,Ka l=dk Ex.fD l
 |[]=>by rw[Ka,dk]
 |x::l=>by rw[Ka,dk,aer l]
theorem aes:∀l,Kb l=dk rI l
 |[]=>by rw[Kb,dk]
 |.mk s t v::l=>by rw[Kb,dk,aes l];rfl
theorem aet:∀l,Kc l=dk sE l
 |[]=>by rw[Kc,dk]
 |.mk k c m vs b::l=>by rw[Kc,dk,aet l];rfl
theorem Ex.Kd(e:Ex):e.fD=1+e.name.size+2*cj e.types+dk Ex.fD e.args+dk rI e.binds+dk sE e.alts:=by
 cases e;rw[Ex.fD,aer,aes,aet];rfl
theorem aoU(e:Ex):1<=e.fD:=by rw[Ex.Kd];omega
theorem aoV(e:Ex):e.fD<=1048576->oK e:=by
 induction e using Ex.ind with
 |h e dK hM gT=>
 intro h;rw[Ex.Kd]at h;have l1:=D2 (μ:=Ex.fD) (l:=e.args) (fun x _=>aoU x);have l2:=D2 (μ:=rI) (l:=e.binds) (fun x _=>by unfold rI;omega);have l3:=D2 (μ:=sE) (l:=e.alts) (fun x _=>by unfold sE;omega);have h1:∀x∈e.args,oK x:=fun x hx=>dK x hx (by have:=uY (μ:=Ex.fD) hx;omega)
 have b1:∀b∈e.binds,b.name.size<=1048576/\b.value.fD<=1048576:=fun b hb=>by have:=uY (μ:=rI) hb;rw[VG]at this;exact⟨by omega,by omega⟩
 have a1:∀a∈e.alts,dk pO a.vars<=1048576/\a.body.fD<=1048576:=fun a ha=>by have:=uY (μ:=sE) ha;rw[VH]at this;exact⟨by omega,by omega⟩
 have h2:∀b∈e.binds,oK b.value:=fun b hb=>hM b hb (b1 b hb).2
 have h3:∀a∈e.alts,oK a.body:=fun a ha=>gT a ha (a1 a ha).2
 have h4:∀a∈e.alts,a.vars.length<=1048576/\∀s∈a.vars,s.size<=1048576:=fun a ha=>⟨by have:=D2 (μ:=pO) (l:=a.vars) (fun x _=>by unfold pO;omega);have:=(a1 a ha).1;omega,fun s hs=>by have h5:=uY (μ:=pO) hs;have:=(a1 a ha).1;rw[aeq]at h5;omega⟩
 obtain⟨k,n,m,ts,xs,bs,al⟩:=e;exact .mk (by simp only[Ex.name]at h;omega) (by simp only[Ex.args]at l1 h;omega) (by simp only[Ex.binds]at l2 h;omega) (by simp only[Ex.alts]at l3 h;omega) h1 (fun b hb=>(b1 b hb).1) h2 h4 h3
theorem aoW(e:Ex):e.de<=e.fD:=by
 induction e using Ex.ind with
 |h e dK hM gT=>
 rw[Ex.Kd];obtain⟨k,n,m,ts,xs,bs,al⟩:=e;rw[Ex.de];simp only[Ex.name,Ex.types,Ex.args,Ex.binds,Ex.alts]at dK hM gT ⊢;have a1:∀l:List Ex,(∀x∈l,x.de<=x.fD)->iB l<=dk Ex.fD l:=by
  intro l
  induction l with
  |nil=>intro _;rw[iB];omega
  |cons x l ih=>intro h;rw[iB,dk];have:=h x (by simp);have:=ih (fun y hy=>h y (by simp[hy]));omega
 have a2:∀l:List Bd,(∀x∈l,x.value.de<=x.value.fD)->cj (fx l)+gn l<=dk rI l:=by
  intro l
  induction l with
  |nil=>intro _;rw[fx,cj,gn,dk];omega
  |cons x l ih=>
   intro h;obtain⟨s,t,v⟩:=x;rw[fx,cj,gn,dk];have:=h _ (List.mem_cons_self ..);have:=ih (fun y hy=>h y (by simp[hy]));simp only[Bd.value,Bd.type,rI,Bd.name]at *;omega
 have a3:∀l:List Al,(∀x∈l,x.body.de<=x.body.fD)->iC l<=dk sE l:=by
  intro l
  induction l with
  |nil=>intro _;rw[iC];omega
  |cons x l ih=>
   intro h;obtain⟨k,c,m,vs,b⟩:=x;rw[iC,dk];have:=h _ (List.mem_cons_self ..);have:=ih (fun y hy=>h y (by simp[hy]));simp only[Al.body,sE,Al.vars]at *;omega
 have:=a1 xs dK;have:=a2 bs hM;have:=a3 al gT;omega
theorem aoX(e:Ex):e.fD<=1048576->1<=e.size/\e.size<=e.fD:=by
 induction e using Ex.ind with
 |h e dK hM gT=>
 intro h;rw[Ex.Kd]at h ⊢;rw[Ex.size_eq];have a0:ly e.types 0=cj e.types:=by
  have:=NM e.types 0 (by omega) (by omega) (by omega);rw[this];omega
 have a1:∀(l:List Ex) (n:Int),(∀x∈l,1<=x.size/\x.size<=x.fD)->1<=n->n+dk Ex.fD l<=100000000->1<=rT l n/\rT l n<=n+dk Ex.fD l:=by
  intro l
  induction l with
  |nil=>intro n _ h1 _;rw[rT,dk];exact⟨h1,by omega⟩
  |cons x l ih=>
   intro n hx h1 h2;rw[dk]at h2 ⊢;obtain⟨p1,p2⟩:=hx x (by simp);rw[rT,gO (by omega) (by omega)];obtain⟨q1,q2⟩:=ih (n+x.size) (fun y hy=>hx y (by simp[hy])) (by omega) (by omega);exact⟨q1,by omega⟩
 have a2:∀(l:List Bd) (n:Int),(∀x∈l,1<=x.value.size/\x.value.size<=x.value.fD)->1<=n->n+dk rI l<=100000000->dk rI l<=1048576->1<=qS l n/\qS l n<=n+dk rI l:=by
  intro l
  induction l with
  |nil=>intro n _ h1 _ _;rw[qS,dk];exact⟨h1,by omega⟩
  |cons x l ih=>
   intro n hx h1 h2 h3;obtain⟨p1,p2⟩:=hx x (by simp);obtain⟨s,t,v⟩:=x;rw[dk]at h2 h3 ⊢;simp only[Bd.value,rI,Bd.name,Bd.type]at p1 p2 h2 h3 ⊢;have ht:=zj t (by omega);rw[qS,ht,gO (n:=1+_) (by omega) (by omega),gO (n:=1+_+_) (by omega) (by omega),gO (by omega) (by omega)];obtain⟨q1,q2⟩:=ih (n+(1+t.cN+v.size)) (fun y hy=>hx y (by simp[hy])) (by omega) (by omega) (by omega);exact⟨q1,by omega⟩
 have a3:∀(l:List Al) (n:Int),(∀x∈l,1<=x.body.size/\x.body.size<=x.body.fD)->1<=n->n+dk sE l<=100000000->1<=oW l n/\oW l n<=n+dk sE l:=by
  intro l
  induction l with
  |nil=>intro n _ h1 _;rw[oW,dk];exact⟨h1,by omega⟩
  |cons x l ih=>
   intro n hx h1 h2;obtain⟨p1,p2⟩:=hx x (by simp);obtain⟨k,c,m,vs,b⟩:=x;rw[dk]at h2 ⊢;have lv:=D2 (μ:=pO) (l:=vs) (fun x _=>by unfold pO;omega);simp only[Al.body,sE,Al.vars]at p1 p2 h2 ⊢;rw[oW,gO (n:=1+_) (by omega) (by omega),gO (n:=1+_+_) (by omega) (by omega),gO (by omega) (by omega)];obtain⟨q1,q2⟩:=ih (n+(1+vs.length+b.size)) (fun y hy=>hx y (by simp[hy])) (by omega) (by omega);exact⟨q1,by omega⟩
 rw[a0,gO (by omega) (by omega)];have s1:∀x∈e.args,1<=x.size/\x.size<=x.fD:=fun x hx=>dK x hx (by have:=uY (μ:=Ex.fD) hx;omega)
 have s2:∀x∈e.binds,1<=x.value.size/\x.value.size<=x.value.fD:=fun x hx=>hM x hx (by have:=uY (μ:=rI) hx;rw[VG]at this;omega)
 have s3:∀x∈e.alts,1<=x.body.size/\x.body.size<=x.body.fD:=fun x hx=>gT x hx (by have:=uY (μ:=sE) hx;rw[VH]at this;omega)
 obtain⟨b1,b2⟩:=a1 e.args _ s1 (by omega) (by omega:(1:Int)+cj e.types+dk Ex.fD e.args<=100000000);obtain⟨b3,b4⟩:=a2 e.binds _ s2 b1 (by omega) (by omega);obtain⟨b5,b6⟩:=a3 e.alts _ s3 b3 (by omega);exact⟨b5,by omega⟩
def Ar(k:Cn):Nat:=1+2*cj k.fields
def D3(d:Dt):Nat:=1+dk Ar d.cons
def yE(d:Df):Nat:=1+d.name.size+dk pO d.params+2*d.type.cN+d.body.fD
theorem aoY(k:Cn):Ar k=1+2*cj k.fields:=rfl
theorem aoZ(d:Dt):D3 d=1+dk Ar d.cons:=rfl
theorem Gv(d:Df):yE d=1+d.name.size+dk pO d.params+2*d.type.cN+d.body.fD:=rfl
def Pg.Small(p:Pg):Prop:=dk D3 p.aK+dk yE p.aj<=1048576
theorem aeu:∀(l:List Cn) (n:Int),0<=n->n+dk Ar l<=100000000->dk Ar l<=1048576->n<=tT l n/\tT l n<=n+dk Ar l
 |[],n,_,_,_=>by rw[tT,dk];exact⟨Int.le_refl _,by omega⟩
 |k::l,n,h1,h2,h3=>by
  rw[dk,aoY]at h2 h3 ⊢;have e:=NM k.fields 0 (by omega) (by omega) (by omega);rw[tT,e,gO (n:=1+_) (by omega) (by omega),gO (by omega) (by omega)];have:=aeu l (n+(1+(0+cj k.fields))) (by omega) (by omega) (by omega);omega
theorem aev:∀(l:List Dt) (n:Int),0<=n->n+dk D3 l<=100000000->dk D3 l<=1048576->n<=qT l n/\qT l n<=n+dk D3 l
 |[],n,_,_,_=>by rw[qT,dk];exact⟨Int.le_refl _,by omega⟩
 |d::l,n,h1,h2,h3=>by
  rw[dk,aoZ]at h2 h3 ⊢;rw[qT,gO (by omega) (by omega)];have h4:=aeu d.cons (n+1) (by omega) (by omega) (by omega);have:=aev l (tT d.cons (n+1)) (by omega) (by omega) (by omega);omega
theorem aew:∀(l:List Df) (n:Int),0<=n->n+dk yE l<=100000000->dk yE l<=1048576->n<=rU l n
 |[],n,_,_,_=>by rw[rU];exact Int.le_refl _
 |d::l,n,h1,h2,h3=>by
  rw[dk,Gv]at h2 h3;have e:=zj d.type (by omega);have h4:=aoX d.body (by omega);rw[rU,e,gO (n:=1+_) (by omega) (by omega),gO (n:=1+_+_) (by omega) (by omega),gO (by omega) (by omega)];have:=aew l (n+(1+d.type.cN+d.body.size)) (by omega) (by omega) (by omega);omega
theorem ao0{p:Pg}(h:p.Small)(hc:fe p=0):0<=Pg.size ⟨p.aK,[]⟩/\Pg.size ⟨p.aK,[]⟩<=100000:=by
 have h1:p.size<=100000:=by
  rcases Int.lt_or_le 100000 p.size with h |h
  .exfalso;unfold fe mM at hc;rw[if_pos h]at hc;cases hc
  .exact h
 unfold Pg.Small at h;have h2:=aev p.aK 0 (by omega) (by omega) (by omega);have h3:=aew p.aj (qT p.aK 0) (by omega) (by omega) (by omega);have e1:p.size=rU p.aj (qT p.aK 0):=rfl;have e2:Pg.size ⟨p.aK,[]⟩=qT p.aK 0:=rfl;rw[e2];omega
theorem ao1{p:Pg}(h:p.Small)(hc:fe p=0):yr p (fR p.aj 0 []):=by
 unfold Pg.Small at h;refine aec hc (fun d hd=>aoV _ ?_) (fun d hd=>⟨?_,?_⟩)
 .have:=uY (μ:=yE) hd;rw[Gv]at this;omega
 .have:=uY (μ:=yE) hd;rw[Gv]at this;have:=aoW d.body;omega
 .have:=uY (μ:=yE) hd;rw[Gv]at this;omega
theorem ao2{p:Pg}(h:p.Small)(d:Nat)(df:Df)(hd:p.aj[d]?=some df):df.name.size<=1048576/\df.params.length<=1048576:=by
 unfold Pg.Small at h;have h1:=uY (μ:=yE) (List.mem_of_getElem? hd);rw[Gv]at h1;have:=D2 (μ:=pO) (l:=df.params) (fun x _=>by rw[aeq];omega);exact⟨by omega,by omega⟩
end
section
open Go Go.W Go.ChangeShapes Go.WideShapes Go.ChangeAt Go.RowKit Go.Deep
section
variable {H:Type} {enc:TypeId×Value->H} {w:World} {base:Nat} {held:Bool}
end
end
section
open Go Go.W Go.ChangeShapes Go.WideShapes Go.ChangeAt Go.RowKit Go.Deep
theorem ao3{p:Nat->Bool}{l m:List Nat}(h:(l++m).all p=true):l.all p=true/\m.all p=true:=by
 simpa using h
section
variable {H:Type} {enc:TypeId×Value->H} {w:World} {ts:List TypeId} {args:List Value} {ds:List (DataW H)}
theorem VI{P:Program}{t:TypeId}(h:xm enc P (t::ts) w args ds):∃v pP d mV base p,args=v::pP/\ds=d::mV/\xm enc P ts w pP mV/\Value.okWide P w .any base t v/\DataW.Trod enc P w 0 (fun _=>true) true t v d p/\(d.weights P t).all (·<=reachBytes)=true:=by
 obtain⟨⟨base,lK⟩,⟨ps,hA⟩,bV⟩:=h;obtain⟨v,vs,d,mV,p,q,rfl,rfl,rfl,hd,vh⟩:=trodAll_cons hA;rw[DataW.weightsEach]at bV;obtain⟨h1,h2⟩:=ao3 bV;exact⟨v,vs,d,mV,base,p,rfl,rfl,⟨⟨base,fun j t' v' ht hv=>lK (j+1) t' v' ht hv⟩,⟨q,vh⟩,h2⟩,lK 0 t v rfl rfl,hd,h1⟩
theorem ao4{P:Program}(h:xm enc P [] w args ds):args=[]/\ds=[]:=by
 obtain⟨_,⟨ps,hA⟩,_⟩:=h;obtain⟨rfl,rfl,_⟩:=trodAll_nil hA;exact⟨rfl,rfl⟩
theorem ao5(h:xm enc Tryz.prog (9::ts) w args ds):∃(s:ByteArray) (pP:List Value) (d:DataW H) (mV:List (DataW H)),args=.string s::pP/\ds=d::mV/\xm enc Tryz.prog ts w pP mV:=by
 obtain⟨v,pP,d,mV,base,p,rfl,rfl,h',lK,hd,hw⟩:=VI h;obtain⟨s,rfl⟩:=okWide_string Tryz.underlying9 lK;exact⟨s,pP,d,mV,rfl,rfl,h'⟩
end
theorem ao6{H:Type}{enc:TypeId×Value→H}{C:Go.Checked}{os:Os}{f:FuncId}{fn:Func}{s:ChangeSpec}{tb:TypeId}{F:Stop.Interp}{L:List (String×DataW Unit)}(own:ownKnob C.prog.godebug=none)(started:os.Started)(ao7:C.prog.inits.idxOf? f=none)(ej:C.prog.funcs[f]? = some fn)
   (witness:∃(w:World) (tape:Tape) (i:Input),w.os=os/\(w.forCall tape i).Shaped C.prog/\i.vars=[]/\Input.okWide C.prog (w.forCall tape i) .any w.heap.size f i /\
    (Rows.OpenSpec.upto s).preRow enc C.prog fn [] false L (w.forCall tape i).memory i.args/\({}:Assume).holds C.prog (lone (Frame.enter C.prog f i.args .normal) [] (w.forCall tape i)))
   (laid:laidOutB C.prog=true) (iw:fn.params.toList.all (fun t=>C.prog.readableRec t&&decide (t<C.prog.types.size))=true)
   (a7:fn.resultTypes=#[tb]) (hb:C.prog.underlying tb=some .bool) (VJ:s.vars=[])
   (hs:∀ds:List (DataW H),ds.length=fn.params.toList.length->s.fn H ds = { results:=[.lit (.bool true)],args:=ds})
   (walk:∀(W:World) (args:List Value) (ds:List (DataW H)),xm enc C.prog fn.params.toList W args ds->Rows.uptoBulkAll ds<=1048576->bu C.prog f args W fun q w'=>q=.bool true/\Mod (fun _=>False) W w') :
   ReturnsInHanded {} C os f .any ((Rows.OpenSpec.upto s).preRow enc C.prog fn [] false L) (((Rows.OpenSpec.upto s).at F).post enc C.prog fn false true false false):=by
 refine returnsInHanded_of_row (s:=Rows.OpenSpec.upto s) own started ao7 ej witness ?_;intro W base args ds gs before lK hW _ Kx bV _ _ _;have hk:Rows.uptoSmall H (ds++gs)=true:=Kx _ rfl;have hW:DataW.Whole enc C.prog fn.params.toList s.vars false W args.toList ds gs before:=hW;have VK:=hW;obtain⟨p,q,hA,hV,rfl,_,_⟩:=hW;rw[VJ]at hV;obtain⟨rfl,rfl⟩:=trodVars_none hV;simp only[List.append_nil]at VK bV hk;have Sd:(DataW.weightsEach C.prog fn.params.toList ds).all (·<=reachBytes)=true:=by
  have e:(Rows.OpenSpec.upto s).bare.plain.varTypes C.prog=[]:=by
   show(s.plain).varTypes C.prog=[];simp[DataSpec.varTypes,ChangeSpec.plain,VJ]
  rw[e,List.append_nil]at bV;exact bV
 have pW:Rows.uptoBulkAll ds<=1048576:=of_decide_eq_true hk;have key:=walk W args.toList ds ⟨⟨base,fun j t v ht hv=>lK j t v (by simpa using ht) (by simpa using hv)⟩,⟨p,hA⟩,Sd⟩ pW;have e:args.toList.toArray=args:=by simp
 unfold bu at key;rw[e]at key;refine key.mono ?_;rintro _ W' ⟨_,rfl,rfl,hm⟩;have aex:=afS hm;have bg:∀x∈p,x.block<W.heap.size:=fun x hx=>by simpa using VK.lt x hx
 have hf:=hs ds (WQ hA);have ii:((Rows.OpenSpec.upto s).at F).fn H ds = { results:=[.lit (.bool true)],args:=ds}:=hf;refine⟨_,rfl,ds,[],_,[],p,[],VK,?_,?_,?_,aex.frame _,fun h=>by cases h⟩
 .rw[List.append_nil,ii,a7];exact trodAll_mk1 (shut_bool hb true)
 .rw[List.append_nil,ii];exact WR laid aex iw bg hA
 .have nj:((Rows.OpenSpec.upto s).at F).vars=[]:=VJ;rw[List.append_nil,ii,nj];rfl
abbrev Ke:List (String×DataW Unit):=[("math/bits.deBruijn32tab",Rows.laid_math_bits_deBruijn32tab),("math/bits.deBruijn64tab",Rows.laid_math_bits_deBruijn64tab),("internal/strconv.uint64pow10",Rows.laid_internal_strconv_uint64pow10),("unicode/utf8.acceptRanges",Rows.laid_unicode_utf8_acceptRanges),("unicode/utf8.first",Rows.laid_unicode_utf8_first)]
theorem ao8(os:Os)(args:Array Value):laidMetH Tryz.prog Ke ((World.laidAll Tryz.prog os Ke).forCall (fun _ _=>0) ⟨#[],args,[]⟩).memory:=by
 rw[MakeChecks.laidMetH_plain _ _ _ (by kernel_rfl)];exact laidMet_laidAll _ (by kernel_rfl) (by kernel_rfl)
end
end Go.Proofs.YtekkkjbjnhipkaaGreatDoor