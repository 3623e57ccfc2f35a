/- Texts that the last file stands on. -/
import Derived.Test.YtekkkjbjnhipkaaGreatDoorZPA
import Derived.Test.YtekkkjbjnhipkaaGreatDoorZPD
import Derived.Test.YtekkkjbjnhipkaaGreatDoorZPC
import Derived.Test.YtekkkjbjnhipkaaGreatDoorZPB
set_option linter.unusedSimpArgs false
set_option linter.unusedVariables false
set_option maxRecDepth 100000
namespace Go.Proofs.YtekkkjbjnhipkaaGreatDoor
section
open Go Go.W
theorem aam{w:World}{B:Nat->Prop}{bs:List Nat}{x:Cl}{T:Nat}{z:Value}(hu:kL w B bs x (.iface T z))(hv:x.rm=true):(T=141->z=I (numOf x))/\(T≠141->numOf x=0):=by
 cases x with
 |num n=>cases hu;exact⟨fun _=>rfl,fun h=>absurd rfl h⟩
 |bE k fs=>obtain⟨a,_,e,_⟩:=hu;cases e;exact⟨fun h=>(by cases h),fun _=>rfl⟩
 |jN e' ru=>obtain⟨a,_,_,e,_⟩:=hu;cases e;exact⟨fun h=>(by cases h),fun _=>rfl⟩
 |iL n l fs=>obtain⟨a,_,e,_⟩:=hu;cases e;exact⟨fun h=>(by cases h),fun _=>rfl⟩
 |wait e' ru=>cases hv
 |busy=>cases hv
 |emp=>cases hv
theorem pD{w w':World}{S S' S'':Nat->Prop}(h:fh S S' w)(k:fh S' S'' w')(hz:w.heap.size<=w'.heap.size):fh S S'' w:=⟨fun b hb=>k.1 b (h.1 b hb),fun b hb=>by
 rcases k.2 b hb with h1 |h1
 ·exact h.2 b h1
 ·exact .inr (Nat.le_trans hz h1)⟩
theorem oH{w w' eI:World}{S S':Nat->Prop}(hm:Mod S w w')(h:fh S S' w)(k:Mod S' w' eI):Mod S w eI:=hm.step k (fun b hb hl=>by
 rcases h.2 b hb with h1 |h1
 ·exact h1
 ·omega)
theorem So{w w' eI:World}{S S':Nat->Prop}{r md mf:Nat}{bs du:List Nat}{X:Cx}{v:Value}{x:R3}(hg:fh S S' w)(hb:∀(c b:Nat),bs[c]?=some b->du[c]?=some b)(hm:Mod S w w')(h:qx w' eI S' r md mf du X v x/\Mod S' w' eI):qx w eI S r md mf bs X v x/\Mod S w eI:=by
 obtain⟨⟨S2,wy,h1,h2,h3,h4⟩,h5⟩:=h;exact⟨⟨S2,wy,h1,pD hg h2 hm.size,fun c b hc=>h3 c b (hb c b hc),h4⟩,oH hm hg h5⟩
theorem akd{w:World}{S:Nat→Prop}{r md mf:Nat}{bs:List Nat}{X:Cx}{m:Rn}{f:Fm}{x:Cl}{u:Value}{cs:List Value}{dx:R3}(h:dE w S r md mf bs X m)(hf:qw w (Out S w) bs cs f)(hu:kL w (Out S w) bs x u)(hv:x.rm=true)(hlen:m.bA.length≤2097152)(a7:kK f x m=some dx) :
   bu Tryz.prog 63 [ptr r,.agg cs.toArray,u] w fun v w'=>qx w w' S r md mf bs X v dx/\Mod S w w':=by
 obtain⟨T,z,rfl,_⟩:=Fo hu hv;have hS:=h;obtain⟨_,_,_,_,_,_,hh⟩:=hS;have d2:Mod (fun _=>False) w w.drew:=(Mod.refl _ _).drew;cases f with
 |fm c=>
  obtain⟨b,rfl,hb⟩:=hf;cases a7;have R9:c<m.cells.length:=by rw[<- hh.len];exact(List.getElem?_eq_some_iff.1 hb).1
  obtain⟨v0,iK,_⟩:=hh.cell c b _ hb (Ξ R9);have Sb:∀y,y=b->S y:=fun y hy=>by rw[hy];exact hh.aT _ (by simp[List.mem_of_getElem? hb])
  refine γ Tryz.f63 ?_;(try simp only[go_sem,simprocAttr]);refine bZ rfl ?_;intro w1 au ak cw;have ake:=ak.at iK Ψ;(try simp only[go_sem,simprocAttr,cell_of au,Int.reduceBEq]);refine eK (b:=b) (off:=0) (v:=.iface T z) rfl rfl ake rfl (by simp) ?_;intro w2 az ai bU;(try simp only[go_sem,simprocAttr,aM,RV.ev,aN]);obtain⟨_,_,_,_,_,_,hh1⟩:=h.aI ak;have C1:=hu.up (aq ak (S:=S)) aW (br (aq ak)) (fun _ _ h=>h);have hR:=hh1.put (x:=x) hb ai az C1;have bo:Mod S w w2:=(aq ak).trans (ai.aU Sb);exact wx ⟨_,_,_,_,_,_,hR⟩ qz bo ⟨_,rfl,C1.up (ai.aU Sb) aW (br (ai.aU Sb)) (fun _ _ h=>h),hv⟩
 |app e nm=>
  obtain⟨ve,vn,rfl,⟨ae,re,rfl,kZ,hex⟩,hn⟩:=hf;obtain⟨vt,va,vb,vl,rfl,ht,ha,hb,hl⟩:=hex.parts;obtain⟨aa,ca,rfl⟩:=bq ha;unfold kK at a7;simp only at a7;refine γ Tryz.f63 ?_;(try simp only[go_sem,simprocAttr]);refine bZ rfl ?_;intro w1 au ak cw
  match db:e.args,a7 with
  |_::y::rest,a7=>
  have bg:1<e.args.length:=by rw[db];simp
  have C2:e.args[1]=y:=by simp[db]
  have b2:(0:Int)<=1/\(1:Int)<e.args.length:=by omega
  have Bc:=kZ.up (aq ak (S:=S)) aW (br (aq ak));have k4:w1.cell? ⟨ae.block,ae.off+4,none⟩=some (.slice aa e.args.length ca):=Bc.at (k:=4) (by simp);have ua:=ha.up (aq ak (S:=S)) aW (br (aq ak)) (fun _ _ h=>h.up (aq ak (S:=S)) aW (br (aq ak)));have pq:=hn.up (aq ak (S:=S)) aW (br (aq ak)) (fun _ _ h=>h);have iS:=pq.one;obtain⟨ad,c,e6,hp⟩:=Fs ua bg;obtain⟨rfl,-,-⟩:=cU e6;rw[C2,add_pos _ (by decide)]at hp;(try simp only[go_sem,simprocAttr,cell_of au,Int.reduceBEq]);have t1:Int.toNat 1=1:=rfl;(try simp only[go_sem,simprocAttr,bG,bH,Int.reduceBEq,cell_of au,k4,b2,iS,t1,Nat.one_mul]);refine bZ rfl ?_;intro w2 az zK bU;have ai:Mod (fun _=>False) w1 w2:=zK.dG;(try simp only[go_sem,simprocAttr]);refine bZ rfl ?_;intro w3 aS aw dU;have oz:=ai.trans aw;have bz:=ak.trans oz
  have mP:=(h.aI (ak.trans ai)).new (x:=.wait y nm) (v:=.iface 131 (ptr w1.heap.size)) aw aS (Nat.le_refl _) ⟨_,_,_,rfl,Z9 az aw (S:=aY S w2.heap.size) (by
   rintro(hx |hx)
   ·have:=hh.lt _ hx;have:=ak.size;omega
   ·have e:w1.drew.heap.size=w1.heap.size:=rfl
    omega),hp.up (aq oz (S:=S)) aW (fM (aq oz) (fZ (by have:=ai.size;omega))),pq.up (aq oz (S:=S)) aW (fM (aq oz) (fZ (by have:=ai.size;omega))) pB⟩
  have sq:fh S (aY S w2.heap.size) w:=⟨fun b hb=>.inl hb,fun b hb=>by
   rcases hb with h |h
   ·exact .inl h
   ·right;have:=(ak.trans ai).size;omega⟩
  have Il:=hu.up (aq bz (S:=S)) aW (fM (aq bz) (fZ (by have:=(ak.trans ai).size;omega))) (pB (b:=w2.heap.size));have pS:(bs++[w2.heap.size])[m.cells.length]?=some w2.heap.size:=by
   rw[<- hh.len,List.getElem?_append_right (Nat.le_refl _)];simp
  (try simp only[go_sem,simprocAttr]);refine aL (by rfl) ?_;refine(aab mP pS Il hv a7).mono ?_;rintro v w4 hR;obtain⟨_,_,_,_,rfl⟩:=hR.1.uG;(try simp only[go_sem,simprocAttr,aM,RV.ev,aN]);exact So sq pB (aq bz) hR
 |oE e nm=>
  have EM:=hf;obtain⟨ve,vn,rfl,he,hn⟩:=hf;refine γ Tryz.f63 ?_;(try simp only[go_sem,simprocAttr]);refine bZ rfl ?_;intro w1 au ak cw;have rP:qv w (Out S w) bs 2 e nm [I 2,.pointer none,ve,vn,I 0]:=EM;have rP:=rP.up (aq ak (S:=S)) aW (br (aq ak)) (fun _ _ h=>h);have C1:=hu.up (aq ak (S:=S)) aW (br (aq ak)) (fun _ _ h=>h);(try simp only[go_sem,simprocAttr,cell_of au,Int.reduceBEq,aE (n:=5) (cs:=[I 2,.pointer none,ve,vn,I 0]) au rfl]);refine aL (by rfl) ?_;refine(aj2 (h.aI ak) rP C1 hv a7).mono ?_;rintro v w4 hR;obtain⟨_,_,_,_,rfl⟩:=hR.1.uG;(try simp only[go_sem,simprocAttr,aM,RV.ev,aN]);exact So qz (fun _ _ h=>h) (aq ak) hR
 |fst e nm=>
  obtain⟨ve,vn,rfl,he,hn⟩:=hf;have uc:=he;obtain⟨ae,re,rfl,kZ,hex⟩:=he;obtain⟨vt,va,vb,vl,rfl,ht,ha,hb,hl⟩:=hex.parts;obtain⟨aa,ca,rfl⟩:=bq ha;unfold kK at a7;simp only at a7
  match db:e.args,a7 with
  |_::y::rest,a7=>
  cases a7;have bg:1<e.args.length:=by rw[db];simp
  have C2:e.args[1]=y:=by simp[db]
  have b2:(0:Int)<=1/\(1:Int)<e.args.length:=by omega
  have t1:Int.toNat 1=1:=rfl;refine γ Tryz.f63 ?_;(try simp only[go_sem,simprocAttr]);refine bZ rfl ?_;intro w1 au ak cw;obtain⟨Sp,Fu⟩:=aam hu hv;have tail:∀{w2:World} {S':Nat->Prop},dE w2 S' r md mf bs X (m.push (.snd e (numOf x)))->fh S S' w1->Mod S w1 w2->∃ad,aa=some ad/\w2.heap[w.heap.size]?=some (.cells [I 3,.pointer none,.pointer (some ae),vn,I 0].toArray 159 (0,0))/\w2.cell? ⟨ae.block,ae.off+4,none⟩=some (.slice (some ad) e.args.length ca)/\(qx w w2.drew S r md mf bs X (.tuple #[.pointer (some ⟨ad.block,ad.off+7,none⟩),vn,.nilIface,.bool true]) (some (.go y nm),m.push (.snd e (numOf x)))/\Mod S w w2.drew):=fun{w2 S'} hR hg hm=>by
   have CA:Mod (fun _=>False) w2 w2.drew:=(Mod.refl _ _).drew;have Sq:fh S S' w:=pD qz hg ak.size;have bo:Mod S w w2:=(aq ak).trans hm;have ga:=wo Sq bo.size;have ua:=ha.up bo aW ga (fun _ _ h=>h.up bo aW ga);obtain⟨ad,c,e6,hp⟩:=Fs ua bg;obtain⟨rfl,-,-⟩:=cU e6;rw[C2,add_pos _ (by decide)]at hp;refine⟨ad,rfl,hm.at au (fun hx=>by have:=hh.lt _ hx;omega),(kZ.up bo aW ga).at (k:=4) (by simp),?_⟩;have qy:=bo.trans (aq CA (S:=S));have akf:=wo Sq qy.size;exact wx (hR.aI CA) Sq qy ⟨_,_,rfl,hp.up (aq CA (S:=S')) aW (br (aq CA)),hn.up qy aW akf (fun _ _ h=>h)⟩
  have iS:=hn.one;have Ay:=uc.up (aq ak (S:=S)) aW (br (aq ak));(try simp only[go_sem,simprocAttr,cell_of au,Int.reduceBEq]);refine mN (D:=.int .i64) rfl rfl rfl (Tryz.zeroValue141 _) (fun hT=>?_) (fun hT=>?_)
  .have hz:=Sp hT;subst hz;(try simp only[go_sem,simprocAttr,cell_of au]);refine aL (by rfl) ?_;refine(A9 (f:=.snd e (numOf x)) (h.aI ak) ⟨_,rfl,Ay⟩ hlen).mono ?_;rintro _ w2 ⟨⟨S',hR,hg⟩,ai⟩;obtain⟨ad,rfl,az,k4,C3⟩:=tail hR hg ai;(try simp only[go_sem,simprocAttr,cell_of az]);(try simp only[go_sem,simprocAttr,bG,bH,cell_of az,k4,b2,t1,Nat.one_mul,aM,RV.ev,aN]);exact C3
  .have hz:=Fu hT;(try simp only[go_sem,simprocAttr,cell_of au]);refine aL (by rfl) ?_;refine(A9 (f:=.snd e (numOf x)) (cs:=[I 4,.pointer none,.pointer (some ae),.pointer none,I 0]) (h.aI ak) ⟨_,by rw[hz],Ay⟩ hlen).mono ?_;rintro _ w2 ⟨⟨S',hR,hg⟩,ai⟩;obtain⟨ad,rfl,az,k4,C3⟩:=tail hR hg ai;(try simp only[go_sem,simprocAttr,cell_of az]);(try simp only[go_sem,simprocAttr,bG,bH,cell_of az,k4,b2,t1,Nat.one_mul,aM,RV.ev,aN]);exact C3
 |snd e n=>
  obtain⟨ve,rfl,⟨ae,re,rfl,kZ,hex⟩⟩:=hf;obtain⟨vt,va,vb,vl,rfl,ht,ha,hb,hl⟩:=hex.parts;refine γ Tryz.f63 ?_;(try simp only[go_sem,simprocAttr]);refine bZ rfl ?_;intro w1 au ak cw;obtain⟨Sp,Fu⟩:=aam hu hv;have d1:Mod (fun _=>False) w1 w1.drew:=(Mod.refl _ _).drew;have C4:=ak.trans d1;have k1:w1.cell? ⟨ae.block,ae.off+1,none⟩=some (.string e.name):=(kZ.up (aq ak (S:=S)) aW (br (aq ak))).at (k:=1) (by simp);have fin:∀{w2:World} {v:Value},MJ w2 S r md mf bs X m v (rn e.name n (numOf x))/\Mod S w1.drew w2->∃a b,v=.tuple #[a,b]/\(qx w w2 S r md mf bs X (.tuple #[.pointer none,.pointer none,a,b]) dx/\Mod S w w2):=fun{w2 v} ⟨hO,ai⟩=>by
   have bo:Mod S w w2:=(aq C4).trans ai;unfold kK at a7;simp only at a7;cases ho:rn e.name n (numOf x)with
   |none=>
    rw[ho]at hO a7;cases a7;obtain⟨rfl,hR⟩:=hO;exact⟨_,_,rfl,wx hR qz bo rfl⟩
   |some y=>
    rw[ho]at hO a7;cases a7;obtain⟨⟨u,rfl,q1,q2⟩,hR⟩:=hO;exact⟨_,_,rfl,wx hR qz bo ⟨_,rfl,q1,q2⟩⟩
  (try simp only[go_sem,simprocAttr,cell_of au,Int.reduceBEq]);refine mN (D:=.int .i64) rfl rfl rfl (Tryz.zeroValue141 _) (fun hT=>?_) (fun hT=>?_)
  .have hz:=Sp hT;subst hz;(try simp only[go_sem,simprocAttr,cell_of au,k1]);refine aL (by rfl) ?_;refine(aaa (h.aI C4)).mono ?_;rintro v w2 hO;obtain⟨a,b,rfl,C3⟩:=fin hO;(try simp only[go_sem,simprocAttr,aM,RV.ev,aN]);exact C3
  .have hz:=Fu hT;rw[hz]at fin;(try simp only[go_sem,simprocAttr,cell_of au,k1]);refine aL (by rfl) ?_;refine(aaa (h.aI C4)).mono ?_;rintro v w2 hO;obtain⟨a,b,rfl,C3⟩:=fin hO;(try simp only[go_sem,simprocAttr,aM,RV.ev,aN]);exact C3
 |seq e nm=>
  obtain⟨ve,vn,rfl,⟨ae,re,rfl,kZ,hex⟩,hn⟩:=hf;obtain⟨vt,va,vb,vl,rfl,ht,ha,hb,hl⟩:=hex.parts;obtain⟨aa,ca,rfl⟩:=bq ha;unfold kK at a7;simp only at a7
  match db:e.args,a7 with
  |_::y::rest,a7=>
  cases a7;have bg:1<e.args.length:=by rw[db];simp
  have C2:e.args[1]=y:=by simp[db]
  have b2:(0:Int)<=1/\(1:Int)<e.args.length:=by omega
  have t1:Int.toNat 1=1:=rfl;refine γ Tryz.f63 ?_;(try simp only[go_sem,simprocAttr]);refine bZ rfl ?_;intro w1 au ak cw;have d1:Mod (fun _=>False) w1 w1.drew:=(Mod.refl _ _).drew;have C4:=ak.trans d1;have ua:=ha.up (aq ak (S:=S)) aW (br (aq ak)) (fun _ _ h=>h.up (aq ak (S:=S)) aW (br (aq ak)));obtain⟨ad,c,e6,hp⟩:=Fs ua bg;obtain⟨rfl,-,-⟩:=cU e6;rw[C2,add_pos _ (by decide)]at hp;have k4:w1.cell? ⟨ae.block,ae.off+4,none⟩=some (.slice (some ad) e.args.length ca):=(kZ.up (aq ak (S:=S)) aW (br (aq ak))).at (k:=4) (by simp);(try simp only[go_sem,simprocAttr,cell_of au,Int.reduceBEq]);(try simp only[go_sem,simprocAttr,bG,bH,cell_of au,k4,b2,t1,Nat.one_mul,Int.reduceBEq,aM,RV.ev,aN]);exact Ij h C4 ⟨_,_,rfl,hp.up (aq d1 (S:=S)) aW (br (aq d1)),hn.up (aq C4 (S:=S)) aW (br (aq C4)) (fun _ _ h=>h)⟩
 |nO e nm=>
  obtain⟨ve,vn,rfl,⟨ae,re,rfl,kZ,hex⟩,hn⟩:=hf;obtain⟨vt,va,vb,vl,rfl,ht,ha,hb,hl⟩:=hex.parts;obtain⟨aa,ca,rfl⟩:=bq ha;obtain⟨ab,cb,rfl⟩:=bq hb;unfold kK at a7;simp only at a7
  match db:e.args,uE:e.binds,a7 with
  |y::rest,bd::bl,a7=>
  cases a7;have la:0<e.args.length:=by rw[db];simp
  have lb:0<e.binds.length:=by rw[uE];simp
  have CZ:e.args[0]=y:=by simp[db]
  have iK:e.binds[0]=bd:=by simp[uE]
  have b1:(0:Int)<=0/\(0:Int)<e.args.length:=by omega
  have b2:(0:Int)<=0/\(0:Int)<e.binds.length:=by omega
  refine γ Tryz.f63 ?_;(try simp only[go_sem,simprocAttr]);refine bZ rfl ?_;intro w1 au ak cw;have Bc:=kZ.up (aq ak (S:=S)) aW (br (aq ak));have ua:=ha.up (aq ak (S:=S)) aW (br (aq ak)) (fun _ _ h=>h.up (aq ak (S:=S)) aW (br (aq ak)));have ub:=hb.up (aq ak (S:=S)) aW (br (aq ak)) (fun _ _ h=>h.up (aq ak (S:=S)) aW (br (aq ak)));obtain⟨ad,c,e6,hp⟩:=Fs ua la;obtain⟨rfl,-,-⟩:=cU e6;obtain⟨EZ,c,e6,mE,sQ,_⟩:=MP ub lb;obtain⟨rfl,-,-⟩:=cU e6;rw[CZ,Nat.zero_mul,add_zero']at hp;rw[iK,Nat.zero_mul,add_zero']at mE;have k4:w1.cell? ⟨ae.block,ae.off+4,none⟩=some (.slice (some ad) e.args.length ca):=Bc.at (k:=4) (by simp);have k5:w1.cell? ⟨ae.block,ae.off+5,none⟩=some (.slice (some EZ) e.binds.length cb):=Bc.at (k:=5) (by simp);have pq:=hn.up (aq ak (S:=S)) aW (br (aq ak)) (fun _ _ h=>h);have iS:=pq.one;(try simp only[go_sem,simprocAttr,cell_of au,Int.reduceBEq]);(try simp only[go_sem,simprocAttr,bG,bH,cell_of au,k4,k5,mE,b1,b2,Nat.zero_mul,add_zero',Int.reduceBEq,iS]);have l4:(⟨ae.block,ae.off+4,none⟩:Addr).block<w1.heap.size:=np k4;have l5:EZ.block<w1.heap.size:=np mE;have l1:=bP au;refine bZ rfl ?_;intro w2 az zK bU;have ai:Mod (fun _=>False) w1 w2:=zK.dG;refine⟨⟨ai.bO _ l1 Ψ,ai.bO _ l5 Ψ,ai.bO _ l4 Ψ,ai.bO _ l1 Ψ,ai.bO _ l4 Ψ,ai.bO _ l1 Ψ⟩,?_⟩;(try simp only[go_sem,simprocAttr,iS]);refine bZ rfl ?_;intro w3 aS aw dU;have l4:ae.block<w1.heap.size:=l4;have z12:=ai.size;have z2:w2.heap.size=w1.heap.size+1:=bU;refine⟨⟨aw.bO _ (by omega) Ψ,aw.bO _ (by omega) Ψ⟩,?_⟩;have bo:=ak.trans ai;have oz:=ai.trans aw;have bz:=ak.trans oz;have kV:∀b,b<w.heap.size->aY S w1.heap.size b->S b:=fZ (by have:=ak.size;omega);have aan:∀b,b<w1.heap.size->aY S w1.heap.size b->S b:=fZ (Nat.le_refl _);have gy:=(h.aI ak).new (x:=x) (v:=.iface T z) ai az (Nat.le_refl _) (hu.up (aq bo (S:=S)) aW (fM (aq bo) kV) pB)
  have hg:fh S (aY S w1.heap.size) w:=⟨fun b hb=>.inl hb,fun b hb=>by
   rcases hb with h |h
   ·exact .inl h
   ·right;have:=ak.size;omega⟩
  refine So hg (pB (b:=w1.heap.size)) (aq bo) (w':=w2) ?_;refine Ij gy aw ⟨_,_,rfl,hp.up (aq oz (S:=S)) aW (fM (aq oz) aan),⟨_,w1.heap.size,vn,rfl,?_,MH (cs:=[.string bd.name,ptr w1.heap.size,vn]) aS ?_,pq.up (aq oz (S:=S)) aW (fM (aq oz) aan) pB⟩⟩
  .rw[<- hh.len,List.getElem?_append_right (Nat.le_refl _)];simp
  .rintro(hx |hx)
   .have:=hh.lt _ hx;have:=ak.size;omega
   .omega
end
section
open Go Go.W
section
variable {α:Type}
theorem aao(k:ByteArray):gq ([]:List (ByteArray×α)) k=[]:=by simp[gq]
theorem aap(p:ByteArray×α)(l:List (ByteArray×α))(k:ByteArray):gq (p::l) k=if p.1=k then l else p::gq l k:=by
 unfold gq;rw[List.findIdx?_cons];by_cases h:p.1=k
 .simp[h]
 .simp only[h,decide_false,if_false];cases l.findIdx? (fun p=>decide (p.1=k))<;>simp
abbrev Uq(l:List (ByteArray×α)):Prop:=(l.map (·.1)).Nodup
theorem Ss(l:List (ByteArray×α))(k:ByteArray):aJ l k=none↔k∉l.map (·.1):=by
 induction l with
 |nil=>simp[Mx]
 |cons p l ih=>
  rw[tg];by_cases h:p.1=k
  .simp[h]
  .rw[if_neg h,ih];simp only[List.map_cons,List.mem_cons,not_or];exact⟨fun hh=>⟨fun e=>h e.symm,hh⟩,fun hh=>hh.2⟩
theorem akg(l:List (ByteArray×α))(k:ByteArray)(v:α):∀x,x∈(bS l k v).map (·.1)->x=k\/x∈l.map (·.1):=by
 intro x hx;by_cases h:k=x
 .exact .inl h.symm
 .right
  apply Classical.byContradiction;intro hn;have h1:=(Ss l x).2 hn;have h2:aJ (bS l k v) x=none:=by rw[jg,if_neg h];exact h1
  exact(Ss _ _).1 h2 hx
theorem Im{l:List (ByteArray×α)}(h:Uq l)(k:ByteArray)(v:α):Uq (bS l k v):=by
 induction l with
 |nil=>rw[ZC];simp[Uq]
 |cons p l ih=>
  rw[ZD];have h1:p.1∉l.map (·.1)/\Uq l:=by simpa[Uq]using h
  split
  .rename_i e;have:k∉l.map (·.1)/\Uq l:=by rw[<- e];exact h1
   simpa[Uq]using this
  .rename_i e
   have:p.1∉(bS l k v).map (·.1)/\Uq (bS l k v):=⟨fun hm=>by
    rcases akg l k v _ hm with h2 |h2
    ·exact e h2
    ·exact h1.1 h2,ih h1.2⟩
   simpa[Uq]using this
theorem akh(l:List (ByteArray×α))(k:ByteArray):∀x,x∈(gq l k).map (·.1)->x∈l.map (·.1):=by
 intro x hx;obtain⟨p,hp,rfl⟩:=List.mem_map.1 hx;exact List.mem_map_of_mem (Ye hp)
theorem Io{l:List (ByteArray×α)}(h:Uq l)(k:ByteArray):Uq (gq l k):=by
 induction l with
 |nil=>rw[aao];simp[Uq]
 |cons p l ih=>
  rw[aap];have h1:p.1∉l.map (·.1)/\Uq l:=by simpa[Uq]using h
  split
  .exact h1.2
  .have:p.1∉(gq l k).map (·.1)/\Uq (gq l k):=⟨fun hm=>h1.1 (akh l k _ hm),ih h1.2⟩
   simpa[Uq]using this
theorem MS{l:List (ByteArray×α)}(h:Uq l)(k x:ByteArray):aJ (gq l k) x=if k=x then none else aJ l x:=by
 induction l with
 |nil=>rw[aao];simp[Mx]
 |cons p l ih=>
  have h1:p.1∉l.map (·.1)/\Uq l:=by simpa[Uq]using h
  rw[aap];by_cases e:p.1=k
  .rw[if_pos e];by_cases e2:k=x
   .rw[if_pos e2,(Ss l x).2 (by rw[<- e2,<- e];exact h1.1)]
   .rw[if_neg e2,tg,if_neg (by rw[e];exact e2)]
  .rw[if_neg e,tg,ih h1.2,tg];by_cases e2:p.1=x
   .rw[if_pos e2,if_neg (fun h=>e (by rw[h,e2])),if_pos e2]
   .rw[if_neg e2,if_neg e2]
end
structure jP (E:Env) (st:St):Prop where
 gZ:dX E st.2
 uq:Uq st.2
 jt:∀x,has st.1 x=false->aJ st.2 x=none
structure Kp (E:Env) (st eP:St):Prop where
 ok:jP E eP
 same:∀x,aJ eP.2 x=aJ st.2 x
 more:∀x,has eP.1 x=false->has st.1 x=false
theorem Kp.refl{E:Env}{st:St}(h:jP E st):Kp E st st:=⟨h,fun _=>rfl,fun _ h=>h⟩
theorem Kp.trans{E:Env}{a b c:St}(h:Kp E a b)(k:Kp E b c):Kp E a c:=⟨k.ok,fun x=>(k.same x).trans (h.same x),fun x hx=>h.more x (k.more x hx)⟩
theorem wz(l:cE)(n x:ByteArray):has (bS l n 1) x=(decide (n=x)||has l x):=by
 unfold has;rw[jg];by_cases h:n=x<;>simp[h]
theorem Su{E:Env}{b:Bd}{bd eZ:cE}(h:lE E b bd=.ok eZ):has bd b.name=false/\eZ=bS bd b.name 1:=by
 unfold lE at h
 split at h
 .cases h
 .rename_i hn
  split at h
  .cases h;simp only[Bool.or_eq_true,not_or]at hn;exact⟨by simpa using hn.2,rfl⟩
  .cases h
theorem Ip{E:Env}:∀(l:List Bd) (bd eZ:cE),lX E l bd=.ok eZ->(∀b∈l,has bd b.name=false/\Good E b.type)/\(∀x,has eZ x=false->has bd x=false/\∀b∈l,b.name≠x)
 |[],bd,eZ,h=>by rw[lX]at h;cases h;exact⟨fun b hb=>(by cases hb),fun x hx=>⟨hx,fun b hb=>(by cases hb)⟩⟩
 |b::l,bd,eZ,h=>by
  rw[lX]at h
  split at h
  .cases h
  .rename_i bd1 h1;obtain⟨a1,a2⟩:=Su h1;obtain⟨b1,b2⟩:=Ip l bd1 eZ h;subst a2;refine⟨fun c hc=>?_,fun x hx=>?_⟩
   .rcases List.mem_cons.1 hc with rfl |hc
    .exact⟨a1,EV h1⟩
    .have:=(b1 c hc).1;rw[wz]at this;simp only[Bool.or_eq_false_iff]at this;exact⟨this.2,(b1 c hc).2⟩
   .obtain⟨c1,c2⟩:=b2 x hx;rw[wz]at c1;simp only[Bool.or_eq_false_iff,decide_eq_false_iff_not]at c1;refine⟨c1.2,fun c hc=>?_⟩;rcases List.mem_cons.1 hc with rfl |hc
    .exact c1.1
    .exact c2 c hc
abbrev Gm:=ByteArray->Option Ty
def xY(Γ:Gm)(n:ByteArray)(t:Ty):Gm:=fun x=>if n=x then some t else Γ x
def pE:List Bd->Gm->Gm
 |[],Γ=>Γ
 |b::l,Γ=>pE l (xY Γ b.name b.type)
theorem zP:∀(l:List Bd) (lc:Loc) (x:ByteArray),aJ (dA l lc) x=pE l (aJ lc) x
 |[],lc,x=>rfl
 |b::l,lc,x=>by
  rw[dA,zP l,pE];have:aJ (bS lc b.name b.type)=xY (aJ lc) b.name b.type:=by
   funext y;rw[jg];try rfl
  rw[this]
theorem Be:∀(l:List Bd) (Γ:Gm) (x:ByteArray),(∀b∈l,b.name≠x)->pE l Γ x=Γ x
 |[],Γ,x,_=>rfl
 |b::l,Γ,x,h=>by
  rw[pE,Be l _ x (fun c hc=>h c (by simp[hc]))];exact if_neg (h b (by simp))
theorem aki:∀(l:List Bd) (Γ:Gm) (x:ByteArray),pE l (pE l Γ) x=pE l Γ x:=by
 have key:∀(l:List Bd) (Γ MT:Gm) (x:ByteArray),Γ x=MT x\/(∃b∈l,b.name=x)->pE l Γ x=pE l MT x:=by
  intro l
  induction l with
  | nil => intro Γ MT x h; rcases h with h | ⟨b, hb, _⟩
           .exact h
           .cases hb
  |cons b l ih=>
   intro Γ MT x h;rw[pE,pE];apply ih;by_cases hn:b.name=x
   .left;unfold xY;rw[if_pos hn,if_pos hn]
   .rcases h with h |⟨c,hc,h⟩
    .left;unfold xY;rw[if_neg hn,if_neg hn];exact h
    .rcases List.mem_cons.1 hc with rfl |hc
     .exact absurd h hn
     .exact .inr ⟨c,hc,h⟩
 intro l Γ x;apply key;by_cases h:∃b∈l,b.name=x
 .exact .inr h
 .left
  exact Be l Γ x (fun b hb e=>h ⟨b,hb,e⟩)
theorem MU:∀(l:List Bd) {lc:Loc},Uq lc->Uq (dA l lc)
 |[],_,h=>h
 |b::l,_,h=>MU l (Im h _ _)
theorem Sv:∀(l:List ByteArray) {lc:Loc},Uq lc->Uq (kF l lc)
 |[],_,h=>h
 |s::l,_,h=>Sv l (Io h _)
theorem Iq:∀(l:List ByteArray) {lc:Loc},Uq lc->∀x,(x∈l->aJ (kF l lc) x=none)/\(x∉l->aJ (kF l lc) x=aJ lc x)
 |[],_,_,x=>⟨fun h=>(by cases h),fun _=>rfl⟩
 |s::l,lc,h,x=>by
  obtain⟨h1,h2⟩:=Iq l (Io h s) x;rw[kF];rw[MS h]at h2;by_cases hm:x∈l
  .exact⟨fun _=>h1 hm,fun hn=>absurd (List.mem_cons_of_mem _ hm) hn⟩
  .by_cases hs:s=x
   .rw[if_pos hs]at h2;exact⟨fun _=>h2 hm,fun hn=>absurd (by rw[hs];simp) hn⟩
   .rw[if_neg hs]at h2;refine⟨fun hc=>?_,fun _=>h2 hm⟩;rcases List.mem_cons.1 hc with e |e
    .exact absurd e.symm hs
    .exact absurd e hm
def MV(E:Env)(e:Ex):Prop:=∀st y,jP E st->cM E e st=.ok y->Kp E st y.2
section
variable {E:Env}
theorem C5:∀(l:List Ex),(∀u∈l,MV E u)->∀st y,jP E st->dy E l st=.ok y->Kp E st y.2
 |[],_,st,y,hs,h=>by rw[dy]at h;cases h;exact .refl hs
 |e::l,hg,st,y,hs,h=>by
  rw[dy]at h
  split at h
  .cases h
  .rename_i y1 h1;have k1:=hg e (by simp) st y1 hs h1
   split at h
   .cases h
   .rename_i z h2;cases h;exact k1.trans (C5 l (fun u hu=>hg u (by simp[hu])) _ z k1.ok h2)
theorem Sw:∀(l:List Bd),(∀b∈l,MV E b.value)->∀st y,jP E st->lF E l st=.ok y->Kp E st y
 |[],_,st,y,hs,h=>by rw[lF]at h;cases h;exact .refl hs
 |b::l,hg,st,y,hs,h=>by
  rw[Hu]at h
  split at h
  .cases h
  .rename_i y1 h1;have k1:=hg b (by simp) st y1 hs h1
   split at h
   .exact k1.trans (Sw l (fun u hu=>hg u (by simp[hu])) _ _ k1.ok h)
   .cases h
def tv(ps:List ByteArray)(bs:List Ty):List ByteArray->List Ty->Gm->Gm
 |s::l,f::fs,Γ=>tv ps bs l fs (xY Γ s (iv ps bs f).1)
 |_,_,Γ=>Γ
theorem aaq{ps:List ByteArray}{bs:List Ty}:∀(vs:List ByteArray) (fs:List Ty) (lc ju:Loc),ke ps bs vs fs lc=.ok ju->(∀x,aJ ju x=tv ps bs vs fs (aJ lc) x)/\(Uq lc->Uq ju)
 |s::l,f::fs,lc,ju,h=>by
  rw[ke]at h
  split at h
  .obtain ⟨h1,h2⟩:=aaq l fs _ _ h;refine ⟨fun x=>?_,fun hu=>h2 (Im hu _ _)⟩;rw [h1,tv];have:aJ (bS lc s (iv ps bs f).1)=xY (aJ lc) s (iv ps bs f).1:=by
    funext y;rw[jg];try rfl
   rw[this]
  .cases h
 |[],_,lc,ju,h=>by
  rw[ke]at h
  .cases h;exact⟨fun x=>(by rw[tv];simp),fun h=>h⟩
  .simp
 |s::l,[],lc,ju,h=>by
  rw[ke]at h
  .cases h;exact⟨fun x=>(by rw[tv];simp),fun h=>h⟩
  .simp
theorem Sy{ps:List ByteArray}{bs:List Ty}:∀(vs:List ByteArray) (fs:List Ty) (Γ:Gm) (x:ByteArray),x∉vs->tv ps bs vs fs Γ x=Γ x
 |s::l,f::fs,Γ,x,h=>by
  rw[tv,Sy l fs _ x (fun hh=>h (by simp[hh]))];exact if_neg (fun e=>h (by simp[e]))
 |[],_,Γ,x,h=>by rw[tv];simp
 |s::l,[],Γ,x,h=>by rw[tv];simp
theorem aar:∀(l:List ByteArray) (bd eZ:cE),qW l bd=.ok eZ->(∀s∈l,has bd s=false)/\(∀x,has eZ x=false->has bd x=false/\x∉l)
 |[],bd,eZ,h=>by rw[qW]at h;cases h;exact⟨fun b hb=>(by cases hb),fun x hx=>⟨hx,by simp⟩⟩
 |s::l,bd,eZ,h=>by
  rw[qW]at h
  split at h
  .cases h
  .rename_i hn;simp only[Bool.or_eq_true,not_or]at hn;obtain⟨b1,b2⟩:=aar l _ eZ h;refine⟨fun c hc=>?_,fun x hx=>?_⟩
   .rcases List.mem_cons.1 hc with rfl |hc
    .simpa using hn.2
    .have:=b1 c hc;rw[wz]at this;simp only[Bool.or_eq_false_iff]at this;exact this.2
   .obtain⟨c1,c2⟩:=b2 x hx;rw[wz]at c1;simp only[Bool.or_eq_false_iff,decide_eq_false_iff_not]at c1
    exact⟨c1.2,fun hc=>by
     rcases List.mem_cons.1 hc with rfl |hc
     ·exact c1.1 rfl
     ·exact c2 hc⟩
theorem aas{of:Ty}(hE:nC E)(eU:Good E of){a:Al}(hk:a.kind=1→of.kind=4){st:St}{y:Ty×St}(hs:jP E st)(h:qg E of a.kind a.bE a.vars (cM E a.body) st = .ok y) :
   (a.kind≠1/\cM E a.body st=.ok y) \/
   (a.kind=1/\∃x eL y1,aJ E.cons a.bE=some x/\x.1.name=of.name/\(gg x.1 x.2).length=a.vars.length/\jP E eL/\(∀s,aJ eL.2 s=tv x.1.params of.args a.vars (gg x.1 x.2) (aJ st.2) s) /\
    cM E a.body eL=.ok y1/\y1.1=y.1/\(Kp E eL y1.2->Kp E st y.2)/\ke x.1.params of.args a.vars (gg x.1 x.2) st.2=.ok eL.2):=by
 unfold qg at h
 split at h
 .rename_i bJ;exact .inl ⟨by simpa using bJ,h⟩
 .rename_i bJ;have jv:a.kind=1:=by simpa using bJ
  right
  refine⟨jv,?_⟩
  split at h
  .cases h
  .rename_i x hx
   split at h
   .cases h
   .rename_i hn;have kR:x.1.name=of.name:=by
     have h1:bw x.1.name of.name=true:=by simpa using hn
     rw[y5]at h1
     simpa using h1
    split at h
    .cases h
    .rename_i hl;have hlen:(gg x.1 x.2).length=a.vars.length:=by
      have:((gg x.1 x.2).length:Int)=a.vars.length:=by simpa using hl
      omega
     split at h
     .cases h
     .rename_i bd eV
      split at h
      .cases h
      .rename_i lc uf
       split at h
       .cases h
       .rename_i y1 CD;cases h;obtain⟨v1,v2⟩:=aar _ _ _ eV;obtain⟨p1,p2⟩:=aaq _ _ _ _ uf;obtain⟨⟨d,BT,GD⟩,hw⟩:=hE.cons _ _ hx;have hb:∀b∈of.args,Good E b:=fun b hb=>Lp eU hb
        have hle:x.1.params.length<=of.args.length:=by
         have:=eU.1;rw[of.vN,hk jv,Bool.and_eq_true,Bool.and_eq_true]at this;have h3:=this.1.2;have h4:eR E of.name of.args.length=false:=by simpa using h3
         unfold eR at h4;rw[<- kR,BT]at h4;have h5:(d.params.length:Int)=of.args.length:=by simpa using h4
         omega
        have mH:jP E (bd,lc):=⟨QH hb hle _ _ hw _ _ hs.gZ uf,p2 hs.uq,fun z hz=>by
         obtain⟨q1,q2⟩:=v2 z hz;show aJ lc z=none;rw[p1,Sy _ _ _ _ q2]
         exact hs.jt z q1⟩
        refine⟨x,(bd,lc),y1,hx,kR,hlen,mH,p1,CD,rfl,fun B5=>?_,uf⟩;have ry:∀z,aJ (kF a.vars y1.2.2) z=aJ st.2 z:=fun z=>by
         by_cases hz:z∈a.vars
         .rw[(Iq _ B5.ok.uq z).1 hz];exact(hs.jt z (v1 z hz)).symm
         .rw[(Iq _ B5.ok.uq z).2 hz,B5.same];show aJ lc z=_;rw[p1,Sy _ _ _ _ hz]
        have Bf:∀z,has y1.2.1 z=false->has st.1 z=false:=fun z hz=>(v2 z (B5.more z hz)).1
        exact⟨⟨B5.ok.gZ.kF _,Sv _ B5.ok.uq,fun z hz=>by rw[ry];exact hs.jt z (Bf z hz)⟩,ry,Bf⟩
theorem Sz(hE:nC E){all:List Al}{of:Ty}(eU:Good E of):∀(l:List Al) (i:Nat),all.drop i=l->(∀a∈l,MV E a.body)->∀(first:Ty) (st:St) (y:Ty×St),jP E st->iJ E all of l i first st=.ok y->Kp E st y.2
 |[],i,_,_,first,st,y,hs,h=>by rw[iJ]at h;cases h;exact .refl hs
 |a::l,i,hd,hg,first,st,y,hs,h=>by
  have hi:i<all.length:=by
   apply Classical.byContradiction;intro hn;rw[List.drop_eq_nil_of_le (by omega)]at hd;cases hd
  rw[Ω hi]at hd
  injection hd with ha ja
  rw[Ht]at h
  split at h
  .cases h
  .rename_i qh;have qh:pi all i of=true:=by simpa using qh
   have hk:a.kind=1->of.kind=4:=fun hk=>Lq (a:=a) (by rw[Ξ hi,ha]) qh hk
   split at h
   .cases h
   .rename_i y1 h1;have k1:Kp E st y1.2:=by
     rcases aas hE eU hk hs h1 with⟨_,h2⟩ |⟨_,x,eL,y2,_,_,_,Fv,_,h2,_,h3,_⟩
     .exact hg a (by simp) _ _ hs h2
     .exact h3 (hg a (by simp) _ _ Fv h2)
    split at h
    .exact k1.trans (Sz hE eU l (i+1) ja (fun b hb=>hg b (by simp[hb])) _ _ _ k1.ok h)
    .split at h
     .exact k1.trans (Sz hE eU l (i+1) ja (fun b hb=>hg b (by simp[hb])) _ _ _ k1.ok h)
     .cases h
theorem jP.dA{st:St}(hs:jP E st){l:List Bd}{bd:cE}(h:lX E l st.1=.ok bd){eZ:cE}(hm:∀x,has eZ x=false->has bd x=false):jP E (eZ,dA l st.2):=by
 obtain⟨b1,b2⟩:=Ip _ _ _ h;refine⟨hs.gZ.dA l (fun b hb=>(b1 b hb).2),MU l hs.uq,fun x hx=>?_⟩;obtain⟨c1,c2⟩:=b2 x (hm x hx);show aJ (Go.Proofs.YtekkkjbjnhipkaaGreatDoor.dA l st.2) x=none;rw[zP,Be _ _ _ c2];exact hs.jt x c1
theorem Kp.ow{st Bg:St}(hs:jP E st){l:List Bd}{bd:cE}(h:lX E l st.1=.ok bd)(h3:jP E Bg)(ry:∀x,(∀b∈l,b.name≠x)->aJ Bg.2 x=aJ st.2 x)(hm:∀x,has Bg.1 x=false->has bd x=false):Kp E st (Bg.1,ow l Bg.2):=by
 obtain⟨b1,b2⟩:=Ip _ _ _ h;have bU:∀x,aJ (Go.Proofs.YtekkkjbjnhipkaaGreatDoor.ow l Bg.2) x=aJ st.2 x:=fun x=>by
  unfold Go.Proofs.YtekkkjbjnhipkaaGreatDoor.ow;by_cases hx:x∈l.map Bd.name
  .rw[(Iq _ h3.uq x).1 hx];obtain⟨b,hb,rfl⟩:=List.mem_map.1 hx;exact(hs.jt _ (b1 b hb).1).symm
  .rw[(Iq _ h3.uq x).2 hx];exact ry x (fun b hb e=>hx (by rw[<- e];exact List.mem_map_of_mem hb))
 have Bf:∀x,has Bg.1 x=false->has st.1 x=false:=fun x hx=>(b2 x (hm x hx)).1
 exact⟨⟨h3.gZ.kF _,Sv _ h3.uq,fun x hx=>by
  show aJ (Go.Proofs.YtekkkjbjnhipkaaGreatDoor.ow l Bg.2) x=none
  rw[bU];exact hs.jt x (Bf x hx)⟩,bU,Bf⟩
end
end
section
open Go Go.W
section
variable {E:Env}
theorem Fw(hE:nC E)(hb:eR E jq 0=false)(e:Ex):MV E e:=by
 induction e using Ex.ind with
 |h e dK hM gT=>
 intro st y hs h;have aqS:=(xC hE hb e st y hs.gZ h).2;rw[ox]at h;by_cases hf:lB e=false
 .rw[if_pos hf]at h;cases h
 rw[if_neg hf]at h;have F:=EW (by simpa using hf);by_cases hk:e.kind=1
 .rw[if_pos hk]at h
  split at h
  .cases h
  .cases h;exact .refl hs
 rw[if_neg hk]at h;by_cases hk:e.kind=2
 .rw[if_pos hk]at h;cases h;exact .refl hs
 rw[if_neg hk]at h;by_cases hk:e.kind=3
 .rw[if_pos hk]at h
  split at h
  .cases h
  .obtain⟨t,ht,rfl⟩:=qX h;exact .refl hs
 rw[if_neg hk]at h;by_cases hk:e.kind=4
 .rw[if_pos hk]at h
  split at h
  .cases h
  .obtain⟨t,ht,rfl⟩:=qX h;exact .refl hs
 rw[if_neg hk]at h;by_cases hk:e.kind=12
 .rw[if_pos hk]at h
  split at h
  .cases h
  .split at h
   .cases h;exact .refl hs
   .cases h
 rw[if_neg hk]at h;by_cases hk:e.kind=5
 .rw[if_pos hk]at h
  split at h
  .cases h
  .rename_i y1 h1;obtain⟨t,ht,rfl⟩:=qX h;exact C5 _ dK _ _ hs h1
 rw[if_neg hk]at h;by_cases hk:e.kind=9
 .rw[if_pos hk]at h
  split at h
  .cases h
  .rename_i y1 h1;obtain⟨t,ht,rfl⟩:=qX h;exact C5 _ dK _ _ hs h1
 rw[if_neg hk]at h;by_cases hk:e.kind=10
 .rw[if_pos hk]at h
  split at h
  .cases h
  .rename_i y1 h1;cases h;exact C5 _ dK _ _ hs h1
 rw[if_neg hk]at h;by_cases hk:e.kind=6
 .rw[if_pos hk]at h
  split at h
  .cases h
  .rename_i b bs eN
   split at h
   .cases h
   .rename_i bd h1
    split at h
    .cases h
    .rename_i y1 h2;obtain⟨t,ht,rfl⟩:=qX h;obtain⟨a1,a2⟩:=Su h1
     have mH:jP E (bd,bS st.2 b.name b.type):=⟨hs.gZ.put (EV h1),Im hs.uq _ _,fun x hx=>by
      have hx:has bd x=false:=hx;rw[a2,wz,Bool.or_eq_false_iff,decide_eq_false_iff_not]at hx;show aJ (bS st.2 b.name b.type) x=none
      rw[jg,if_neg hx.1];exact hs.jt x hx.2⟩
     have k:=C5 _ dK _ _ mH h2;have ry:∀x,aJ (gq y1.2.2 b.name) x=aJ st.2 x:=fun x=>by
      rw[MS k.ok.uq];by_cases hx:b.name=x
      .rw[if_pos hx];subst hx;exact(hs.jt _ a1).symm
      .rw[if_neg hx,k.same];show aJ (bS st.2 b.name b.type) x=_;rw[jg,if_neg hx]
     have Bf:∀x,has y1.2.1 x=false->has st.1 x=false:=fun x hx=>by
      have:=k.more x hx;have this:has bd x=false:=this;rw[a2,wz,Bool.or_eq_false_iff]at this;exact this.2
     exact⟨⟨k.ok.gZ.del _,Io k.ok.uq _,fun x hx=>by rw[ry];exact hs.jt x (Bf x hx)⟩,ry,Bf⟩
 rw[if_neg hk]at h;by_cases hk:e.kind=7\/e.kind=11
 .rw[if_pos hk]at h
  split at h
  .cases h
  .rename_i bd h1
   split at h
   .cases h
   .rename_i cQ h2
    split at h
    .cases h
    .rename_i y1 h3;cases h;obtain ⟨b1,b2⟩:=Ip _ _ _ h1;have tP:jP E (bd,st.2):=⟨hs.gZ,hs.uq,fun x hx=>hs.jt x (b2 x hx).1⟩;have mH:jP E (bd,if e.kind=7 then dA e.binds st.2 else st.2):=by
      by_cases h7:e.kind=7
      .rw[if_pos h7];exact hs.dA h1 (fun _ h=>h)
      .rw[if_neg h7];exact tP
     have k1:=Sw _ hM _ _ mH h2;have aat:∀x,(∀b∈e.binds,b.name≠x)->aJ cQ.2 x=aJ st.2 x:=fun x hx=>by
      rw[k1.same];show aJ (if e.kind=7 then dA e.binds st.2 else st.2) x=_;by_cases h7:e.kind=7
      .rw[if_pos h7,zP,Be _ _ _ hx]
      .rw[if_neg h7]
     have akj:jP E (cQ.1,dA e.binds cQ.2):=⟨k1.ok.gZ.dA _ (fun b hb=>(b1 b hb).2),MU _ k1.ok.uq,fun x hx=>by
      obtain⟨c1,c2⟩:=b2 x (k1.more x hx);show aJ (dA e.binds cQ.2) x=none;rw[zP,Be _ _ _ c2,aat x c2]
      exact hs.jt x c1⟩
     have k2:=C5 _ dK _ _ akj h3;refine Kp.ow hs h1 k2.ok (fun x hx=>?_) (fun x hx=>k1.more x (k2.more x hx));rw[k2.same];show aJ (dA e.binds cQ.2) x=_;rw[zP,Be _ _ _ hx];exact aat x hx
 rw[if_neg hk]at h
 split at h
 .cases h
 .rename_i y1 h1;have k1:=C5 _ dK _ _ hs h1
  split at h
  .cases h
  .have hl:e.args.length=1:=F.a1 (by have:=F.xk;omega);obtain ⟨g1,g2,g3⟩:=AP e.args (fun u _=>xC hE hb u) _ _ hs.gZ h1;have eU:Good E (y1.1.headD default):=by
    cases hy:y1.1 with
    |nil=>rw[hy]at g3;simp at g3;omega
    |cons t ts=>exact g1 t (by rw[hy];simp)
   exact k1.trans (Sz hE eU e.alts 0 rfl gT _ _ _ k1.ok h)
def gJ(E:Env)(Γ:Gm)(e:Ex)(T:Ty):Prop:=∃st y,jP E st/\(∀x,aJ st.2 x=Γ x)/\cM E e st=.ok y/\y.1=T
theorem aau{st:St}{Γ:Gm}(h:∀x,aJ st.2 x=Γ x):aJ st.2=Γ:=funext h
variable {Γ:Gm} {e:Ex} {T:Ty}
theorem MW(h:gJ E Γ e T):lB e=true:=by
 obtain⟨st,y,_,_,h,_⟩:=h;rw[ox]at h;by_cases hf:lB e=false
 .rw[if_pos hf]at h;cases h
 .simpa using hf
theorem zQ{k:Int}(h:gJ E Γ e T)(hk:e.kind=k):∃ st y,jP E st∧(∀ x,aJ st.2 x=Γ x)∧y.1=T∧Yj e∧cM E e st = .ok y∧((Except.ok y:Except Int (Ty×St)) =
   if k=1 then(match aJ st.2 e.name with |none=>.error 82 |some t=>.ok (t,st))
   else if k=2 then .ok (.mk 1 bM [],st)
   else if k=3 then(match aJ E.aj e.name with |none=>.error 82 |some d=>(j' E d.type d.params e.types).map (fun t=>(t,st)))
   else if k=4 then(match aJ E.cons e.name with |none=>.error 82 |some x=>(j' E (vJ x.1 x.2) x.1.params e.types).map (fun t=>(t,st)))
   else if k=12 then(match e.types with |[]=>.error 84 |t::_=>if iT E t=true then .ok (t,st)else .error 83)
   else if k=5 then(match dy E e.args st with |.error x=>.error x |.ok y=>(qe E y.1).map (fun t=>(t,y.2)))
   else if k=9 then(match dy E e.args st with |.error x=>.error x |.ok y=>(sV e.name y.1).map (fun t=>(t,y.2)))
   else if k=10 then(match dy E e.args st with |.error x=>.error x |.ok y=>.ok (y.1.getLastD default,y.2))
   else if k=6 then(match e.binds with
    |[]=>.error 84
    |b::_=>match lE E b st.1 with
     |.error x=>.error x
     |.ok bd=>match dy E e.args (bd,bS st.2 b.name b.type)with
      |.error x=>.error x
      |.ok y=>(sW b y.1).map (fun t=>(t,(y.2.1,gq y.2.2 b.name))))
   else if k=7\/k=11 then(match lX E e.binds st.1 with
    |.error x=>.error x
    |.ok bd=>match lF E e.binds (bd,if k=7 then dA e.binds st.2 else st.2)with
     |.error x=>.error x
     |.ok cQ=>match dy E e.args (cQ.1,dA e.binds cQ.2)with
      |.error x=>.error x
      |.ok y=>.ok (y.1.headD default,(y.2.1,ow e.binds y.2.2)))
   else match dy E e.args st with
    |.error x=>.error x
    |.ok y=>if((y.1.headD default).kind != 1&&(y.1.headD default).kind != 4)=true then .error 83 else iJ E e.alts (y.1.headD default) e.alts 0 default y.2):=by
 have hf:=MW h;obtain⟨st,y,hs,hg,hx,hT⟩:=h;refine⟨st,y,hs,hg,hT,EW hf,hx,?_⟩;rw[ox,if_neg (by rw[hf];simp),hk]at hx;exact hx.symm
theorem akk(h:gJ E Γ e T)(hk:e.kind=1):Γ e.name=some T:=by
 obtain⟨st,y,hs,hg,rfl,F,_,hx⟩:=zQ h hk;rw[if_pos rfl]at hx
 split at hx
 .cases hx
 .rename_i t ht;cases hx;rw[<- hg,ht]
theorem aav(h:gJ E Γ e T)(hk:e.kind=3):∃d,aJ E.aj e.name=some d/\j' E d.type d.params e.types=.ok T:=by
 obtain⟨st,y,hs,hg,rfl,F,_,hx⟩:=zQ h hk;rw[if_neg (by decide),if_neg (by decide),if_pos rfl]at hx
 split at hx
 .cases hx
 .rename_i d hd;obtain⟨t,ht,rfl⟩:=qX hx.symm;exact⟨d,hd,ht⟩
theorem akl(h:gJ E Γ e T)(hk:e.kind=4):∃x,aJ E.cons e.name=some x/\j' E (vJ x.1 x.2) x.1.params e.types=.ok T:=by
 obtain⟨st,y,hs,hg,rfl,F,_,hx⟩:=zQ h hk;rw[if_neg (by decide),if_neg (by decide),if_neg (by decide),if_pos rfl]at hx
 split at hx
 .cases hx
 .rename_i d hd;obtain⟨t,ht,rfl⟩:=qX hx.symm;exact⟨d,hd,ht⟩
theorem MX{α:Type}{l:List α}(h:l.length=2):∃a b,l=[a,b]:=by
 match l,h with
 |[a,b],_=>exact⟨a,b,rfl⟩
theorem Ir{α:Type}{l:List α}(h:l.length=1):∃a,l=[a]:=by
 match l,h with
 |[a],_=>exact⟨a,rfl⟩
theorem akm{a b:Ex}{st:St}{y:List Ty×St}(h:dy E [a,b] st=.ok y):∃y1 y2,cM E a st=.ok y1/\cM E b y1.2=.ok y2/\y=([y1.1,y2.1],y2.2):=by
 rw[dy]at h
 split at h
 .cases h
 .rename_i y1 h1;rw[dy]at h
  split at h
  .cases h
  .rename_i z h2
   split at h2
   .cases h2
   .rename_i y2 h3;rw[dy]at h2;cases h2;cases h;exact⟨y1,y2,h1,h3,rfl⟩
theorem SB{a:Ex}{st:St}{y:List Ty×St}(h:dy E [a] st=.ok y):∃y1,cM E a st=.ok y1/\y=([y1.1],y1.2):=by
 rw[dy]at h
 split at h
 .cases h
 .rename_i y1 h1;rw[dy]at h;cases h;exact⟨y1,h1,rfl⟩
variable (hE:nC E) (hb:eR E jq 0=false)
include hE hb
theorem aaw(h:gJ E Γ e T):Good E T:=by
 obtain⟨st,y,hs,hg,hx,rfl⟩:=h;exact(xC hE hb e st y hs.gZ hx).1
theorem SC{st:St}{a b:Ex}(hs:jP E st)(hg:∀x,aJ st.2 x=Γ x){y:List Ty×St}(h:dy E [a,b] st=.ok y):∃A B,gJ E Γ a A/\gJ E Γ b B/\y.1=[A,B]:=by
 obtain⟨y1,y2,h1,h2,rfl⟩:=akm h;have k:=Fw hE hb a st y1 hs h1;exact⟨y1.1,y2.1,⟨st,y1,hs,hg,h1,rfl⟩,⟨y1.2,y2,k.ok,fun x=>(k.same x).trans (hg x),h2,rfl⟩,rfl⟩
theorem aax(h:gJ E Γ e T)(hk:e.kind=5):∃f x F A,e.args=[f,x]/\gJ E Γ f F/\F.kind=3/\F.args=[A,T]/\gJ E Γ x A:=by
 obtain⟨st,y,hs,hg,rfl,F,_,hx⟩:=zQ h hk;obtain⟨f,x,ha⟩:=MX (F.a2 (.inl hk));simp only[show ¬(5:Int)=1 by decide,show ¬(5:Int)=2 by decide,show ¬(5:Int)=3 by decide,show ¬(5:Int)=4 by decide,show ¬(5:Int)=12 by decide,if_false,if_true]at hx;rw[ha]at hx
 split at hx
 .cases hx
 .rename_i y1 h1;obtain⟨A,B,c1,c2,e1⟩:=SC hE hb hs hg h1;obtain⟨t,ht,rfl⟩:=qX hx.symm;rw[e1]at ht;unfold qe at ht;simp only at ht
  split at ht
  .cases ht
  .rename_i rZ;have rZ:A.kind=3:=by simpa using rZ
   split at ht
   .rename_i p q r db
    split at ht
    .rename_i ry;cases ht;have hl:=QF (aaw hE hb c1).1 rZ;rw[db]at hl;have hr:r=[]:=by simpa using hl
     subst hr;have hp:p=B:=by simpa[fY]using ry
     subst hp;exact⟨f,x,A,p,ha,c1,rZ,db,c2⟩
    .cases ht
   .cases ht
theorem aay(h:gJ E Γ e T)(hk:e.kind=9):∃a b A B,e.args=[a,b]/\gJ E Γ a A/\gJ E Γ b B/\A.kind=1/\B.kind=1/\lV e.name=some T:=by
 obtain⟨st,y,hs,hg,rfl,F,_,hx⟩:=zQ h hk;obtain⟨f,x,ha⟩:=MX (F.a2 (.inr (.inl hk)));simp only[show ¬(9:Int)=1 by decide,show ¬(9:Int)=2 by decide,show ¬(9:Int)=3 by decide,show ¬(9:Int)=4 by decide,show ¬(9:Int)=12 by decide,show ¬(9:Int)=5 by decide,if_false,if_true]at hx;rw[ha]at hx
 split at hx
 .cases hx
 .rename_i y1 h1;obtain⟨A,B,c1,c2,e1⟩:=SC hE hb hs hg h1;obtain⟨t,ht,rfl⟩:=qX hx.symm;rw[e1]at ht;unfold sV at ht;simp only at ht
  split at ht
  .cases ht
  .rename_i rZ;cases ht;simp only[Bool.or_eq_true,not_or]at rZ;have ho:=F.op hk;refine⟨f,x,A,B,ha,c1,c2,by simpa using rZ.1,by simpa using rZ.2,?_⟩;cases hq:lV e.name with
   |none=>rw[hq]at ho;cases ho
   |some u=>rfl
theorem aaz(h:gJ E Γ e T)(hk:e.kind=10):∃a b A,e.args=[a,b]/\gJ E Γ a A/\gJ E Γ b T:=by
 obtain⟨st,y,hs,hg,rfl,F,_,hx⟩:=zQ h hk;obtain⟨f,x,ha⟩:=MX (F.a2 (.inr (.inr hk)));simp only[show ¬(10:Int)=1 by decide,show ¬(10:Int)=2 by decide,show ¬(10:Int)=3 by decide,show ¬(10:Int)=4 by decide,show ¬(10:Int)=12 by decide,show ¬(10:Int)=5 by decide,show ¬(10:Int)=9 by decide,if_false,if_true]at hx;rw[ha]at hx
 split at hx
 .cases hx
 .rename_i y1 h1;obtain⟨A,B,c1,c2,e1⟩:=SC hE hb hs hg h1;cases hx;rw[e1];exact⟨f,x,A,ha,c1,c2⟩
omit hE hb in
theorem aaA(h:gJ E Γ e T)(hk:e.kind=6):∃b x t,e.binds=[b]/\e.args=[x]/\T=lA b.type t/\gJ E (xY Γ b.name b.type) x t:=by
 obtain⟨st,y,hs,hg,rfl,F,_,hx⟩:=zQ h hk;obtain⟨x,ha⟩:=Ir (F.a1 (.inl hk));obtain⟨b,eV⟩:=Ir (F.b1 (.inl hk));simp only[show ¬(6:Int)=1 by decide,show ¬(6:Int)=2 by decide,show ¬(6:Int)=3 by decide,show ¬(6:Int)=4 by decide,show ¬(6:Int)=12 by decide,show ¬(6:Int)=5 by decide,show ¬(6:Int)=9 by decide,show ¬(6:Int)=10 by decide,if_false,if_true]at hx;rw[ha,eV]at hx;simp only at hx
 split at hx
 .cases hx
 .rename_i bd h1
  split at hx
  .cases hx
  .rename_i y1 h2;obtain⟨t,ht,rfl⟩:=qX hx.symm;obtain⟨a1,a2⟩:=Su h1;obtain⟨y2,h3,rfl⟩:=SB h2
   have mH:jP E (bd,bS st.2 b.name b.type):=⟨hs.gZ.put (EV h1),Im hs.uq _ _,fun x hx=>by
    have hx:has bd x=false:=hx;rw[a2,wz,Bool.or_eq_false_iff,decide_eq_false_iff_not]at hx;show aJ (bS st.2 b.name b.type) x=none
    rw[jg,if_neg hx.1];exact hs.jt x hx.2⟩
   unfold sW at ht;simp only at ht
   split at ht
   .cases ht
   .cases ht;refine⟨b,x,y2.1,eV,ha,rfl,_,y2,mH,fun z=>?_,h3,rfl⟩;show aJ (bS st.2 b.name b.type) z=_;rw[jg,hg];try rfl
theorem aaB:∀(l:List Bd) {st cQ:St},jP E st->(∀x,aJ st.2 x=Γ x)->lF E l st=.ok cQ->(∀b∈l,gJ E Γ b.value b.type)
 |[],st,cQ,hs,hg,h=>fun b hb=>(by cases hb)
 |b::l,st,cQ,hs,hg,h=>by
  rw[Hu]at h
  split at h
  .cases h
  .rename_i y1 h1;have k:=Fw hE hb b.value st y1 hs h1
   split at h
   .rename_i ry;have:y1.1=b.type:=by simpa[fY]using ry
    intro c hc;rcases List.mem_cons.1 hc with rfl |hc
    .exact⟨st,y1,hs,hg,h1,this⟩
    .exact aaB l k.ok (fun x=>(k.same x).trans (hg x)) h c hc
   .cases h
theorem SD(h:gJ E Γ e T)(hk:e.kind=7\/e.kind=11):∃x,e.args=[x]/\(∀b∈e.binds,gJ E (if e.kind=7 then pE e.binds Γ else Γ) b.value b.type)/\gJ E (pE e.binds Γ) x T:=by
 obtain⟨st,y,hs,hg,rfl,F,_,hx⟩:=zQ h rfl;obtain⟨x,ha⟩:=Ir (F.a1 (by omega));have n:∀k:Int,k≠7->k≠11->¬e.kind=k:=fun k h1 h2=>by omega
 simp only[n 1 (by decide) (by decide),n 2 (by decide) (by decide),n 3 (by decide) (by decide),n 4 (by decide) (by decide),n 12 (by decide) (by decide),n 5 (by decide) (by decide),n 9 (by decide) (by decide),n 10 (by decide) (by decide),n 6 (by decide) (by decide),if_false,if_pos hk]at hx;rw[ha]at hx
 split at hx
 .cases hx
 .rename_i bd h1
  split at hx
  .cases hx
  .rename_i cQ h2
   split at hx
   .cases hx
   .rename_i y1 h3;cases hx;obtain ⟨y2,h4,rfl⟩:=SB h3;obtain ⟨b1,b2⟩:=Ip _ _ _ h1;have tP:jP E (bd,st.2):=⟨hs.gZ,hs.uq,fun x hx=>hs.jt x (b2 x hx).1⟩;have mH:jP E (bd,if e.kind=7 then dA e.binds st.2 else st.2):=by
     by_cases h7:e.kind=7
     .rw[if_pos h7];exact hs.dA h1 (fun _ h=>h)
     .rw[if_neg h7];exact tP
    have k1:=Sw _ (fun b _=>Fw hE hb b.value) _ _ mH h2;have fE:∀x,aJ (if e.kind=7 then dA e.binds st.2 else st.2) x=(if e.kind=7 then pE e.binds Γ else Γ) x:=fun x=>by
     by_cases h7:e.kind=7
     .rw[if_pos h7,if_pos h7,zP,aau hg]
     .rw[if_neg h7,if_neg h7,hg]
    refine⟨x,ha,aaB hE hb _ mH fE h2,_,y2,?_,fun z=>?_,h4,rfl⟩
    .refine⟨k1.ok.gZ.dA _ (fun b hb=>(b1 b hb).2),MU _ k1.ok.uq,fun x hx=>?_⟩;obtain⟨c1,c2⟩:=b2 x (k1.more x hx);show aJ (dA e.binds cQ.2) x=none;rw[zP,Be _ _ _ c2,k1.same];show aJ (if e.kind=7 then dA e.binds st.2 else st.2) x=none;by_cases h7:e.kind=7
     .rw[if_pos h7,zP,Be _ _ _ c2];exact hs.jt x c1
     .rw[if_neg h7];exact hs.jt x c1
    .show aJ (dA e.binds cQ.2) z=_;rw[zP];have e1:aJ cQ.2=if e.kind=7 then pE e.binds Γ else Γ:=funext fun x=>by rw[k1.same];exact fE x
     rw[e1];by_cases h7:e.kind=7
     .rw[if_pos h7];exact aki _ _ _
     .rw[if_neg h7]
def Is(E:Env)(Γ:Gm)(of T:Ty)(a:Al):Prop:=
 (a.kind=3/\gJ E Γ a.body T)\/(a.kind=2/\of.kind=1/\gJ E Γ a.body T) \/
 (a.kind=1/\of.kind=4/\∃x,aJ E.cons a.bE=some x/\x.1.name=of.name/\(gg x.1 x.2).length=a.vars.length/\(∀f∈gg x.1 x.2,(iv x.1.params of.args f).2>=0)/\gJ E (tv x.1.params of.args a.vars (gg x.1 x.2) Γ) a.body T)
omit hE hb in
theorem aaC{ps:List ByteArray}{bs:List Ty}:∀(vs:List ByteArray) (fs:List Ty) (lc ju:Loc),fs.length=vs.length->ke ps bs vs fs lc=.ok ju->∀f∈fs,(iv ps bs f).2>=0
 |s::l,f::fs,lc,ju,hl,h=>by
  rw[ke]at h
  split at h
  .rename_i h1;intro g hg;rcases List.mem_cons.1 hg with rfl |hg
   .exact h1
   .exact aaC l fs _ _ (by simpa using hl) h g hg
  .cases h
 |[],[],lc,ju,_,h=>fun f hf=>by cases hf
 |[],_::_,_,_,hl,_=>by simp at hl
 |_::_,[],_,_,hl,_=>by simp at hl
omit hE hb in
theorem akn{all:List Al}{i:Nat}{of:Ty}{a:Al}(ha:all[i]?=some a)(h:pi all i of=true):(a.kind=1/\of.kind=4)\/(a.kind=2/\of.kind=1)\/a.kind=3:=by
 unfold pi at h;rw[ha]at h;simp only at h
 split at h
 .rename_i h1
  split at h
  .cases h
  .rename_i h2;simp only[Bool.or_eq_true,not_or]at h2;exact .inl ⟨by simpa using h1,by simpa using h2.2⟩
 .split at h
  .rename_i h1
   split at h
   .cases h
   .rename_i h2;simp only[Bool.or_eq_true,not_or]at h2;exact .inr (.inl ⟨by simpa using h1,by simpa using h2.1.1.2⟩)
  .split at h
   .rename_i h1;exact .inr (.inr (by simpa using h1))
   .cases h
theorem SE{all:List Al}{of:Ty}(eU:Good E of):∀ (l:List Al) (i:Nat),all.drop i=l→∀ (first:Ty) (st:St) (y:Ty×St),jP E st→(∀ x,aJ st.2 x=Γ x)→iJ E all of l i first st = .ok y →
   (i≠0->y.1=first)/\∀a∈l,Is E Γ of y.1 a
 |[],i,_,first,st,y,hs,hg,h=>by rw[iJ]at h;cases h;exact⟨fun _=>rfl,fun a ha=>(by cases ha)⟩
 |a::l,i,hd,first,st,y,hs,hg,h=>by
  have hi:i<all.length:=by
   apply Classical.byContradiction;intro hn;rw[List.drop_eq_nil_of_le (by omega)]at hd;cases hd
  rw[Ω hi]at hd
  injection hd with ha ja
  have AX:all[i]?=some a:=by rw[Ξ hi,ha]
  rw[Ht]at h
  split at h
  .cases h
  .rename_i qh;have qh:pi all i of=true:=by simpa using qh
   have wV:=akn AX qh;have hk:a.kind=1->of.kind=4:=fun hk=>Lq AX qh hk
   split at h
   .cases h
   .rename_i y1 h1;have hc:Is E Γ of y1.1 a∧Kp E st y1.2:=by
     rcases aas hE eU hk hs h1 with⟨hn,h2⟩ |⟨jv,x,eL,y2,hx,kR,hlen,Fv,hgg,h2,bL,h3,se⟩
     .refine⟨?_,Fw hE hb a.body _ _ hs h2⟩;have c:gJ E Γ a.body y1.1:=⟨st,y1,hs,hg,h2,rfl⟩;rcases wV with⟨h,_⟩ |⟨h,h'⟩ |h
      .exact absurd h hn
      .exact .inr (.inl ⟨h,h',c⟩)
      .exact .inl ⟨h,c⟩
     .refine⟨.inr (.inr ⟨jv,hk jv,x,hx,kR,hlen,aaC _ _ _ _ hlen se,eL,y2,Fv,fun z=>?_,h2,bL⟩),h3 (Fw hE hb a.body _ _ Fv h2)⟩;rw[hgg,aau hg]
    obtain⟨hc,k1⟩:=hc;have dR:∀x,aJ y1.2.2 x=Γ x:=fun x=>(k1.same x).trans (hg x)
    split at h
    .rename_i h0;obtain⟨r1,r2⟩:=SE eU l (i+1) ja _ _ _ k1.ok dR h;have e:=r1 (by omega);refine⟨fun hn=>absurd h0 hn,fun b rz=>?_⟩;rcases List.mem_cons.1 rz with rfl |rz
     .rw[e];exact hc
     .exact r2 b rz
    .split at h
     .rename_i ry;have ry:y1.1=first:=by simpa[fY]using ry
      obtain⟨r1,r2⟩:=SE eU l (i+1) ja _ _ _ k1.ok dR h;have e:=r1 (by omega);refine⟨fun _=>e,fun b rz=>?_⟩;rcases List.mem_cons.1 rz with rfl |rz
      .rw[e,<- ry];exact hc
      .exact r2 b rz
     .cases h
theorem aaD(h:gJ E Γ e T)(hk:e.kind=8):∃x of,e.args=[x]/\gJ E Γ x of/\(of.kind=1\/of.kind=4)/\∀a∈e.alts,Is E Γ of T a:=by
 obtain⟨st,y,hs,hg,rfl,F,_,hx⟩:=zQ h rfl;obtain⟨x,ha⟩:=Ir (F.a1 (by omega));have n:∀k:Int,k≠8->¬e.kind=k:=fun k h1=>by omega
 simp only[n 1 (by decide),n 2 (by decide),n 3 (by decide),n 4 (by decide),n 12 (by decide),n 5 (by decide),n 9 (by decide),n 10 (by decide),n 6 (by decide),n 7 (by decide),n 11 (by decide),if_false,or_self]at hx;rw[ha]at hx
 split at hx
 .cases hx
 .rename_i y1 h1;obtain⟨y2,h2,rfl⟩:=SB h1;have k1:=Fw hE hb x _ _ hs h2
  split at hx
  .cases hx
  .rename_i eU;have eU:((y2.1).kind != 1&&(y2.1).kind != 4)=false:=by simpa using eU
   have eU:y2.1.kind=1\/y2.1.kind=4:=by
    simp only[Bool.and_eq_false_iff]at eU;rcases eU with h |h
    .exact .inl (by simpa using h)
    .exact .inr (by simpa using h)
   have hc:gJ E Γ x y2.1:=⟨st,y2,hs,hg,h2,rfl⟩;exact⟨x,y2.1,ha,hc,eU,(SE hE hb (aaw hE hb hc) e.alts 0 rfl _ _ _ k1.ok (fun z=>(k1.same z).trans (hg z)) hx.symm).2⟩
end
end
section
open Go Go.W
abbrev Sb:=ByteArray->Ty
mutual
def Ty.sub(σ:Sb):Ty->Ty
 |.mk k n l=>if k=2 then σ n else .mk k n (aaE σ l)
def aaE(σ:Sb):List Ty->List Ty
 |[]=>[]
 |t::l=>t.sub σ::aaE σ l
end
mutual
def Ty.C6(ps:List ByteArray):Ty->Bool
 |.mk k n l=>if k=2 then ps.any (fun s=>decide (s=n))else MY ps l
def MY(ps:List ByteArray):List Ty->Bool
 |[]=>true
 |t::l=>t.C6 ps&&MY ps l
end
theorem ako(ps:List ByteArray)(l:List Ty):MY ps l=l.all (Ty.C6 ps):=by
 induction l with
 |nil=>rfl
 |cons t l ih=>rw[MY,ih,List.all_cons]
theorem Ty.akp(ps:List ByteArray)(t:Ty):t.C6 ps=if t.kind=2 then ps.any (fun s=>decide (s=t.name))else t.args.all (Ty.C6 ps):=by
 cases t;rw[Ty.C6,ako];try rfl
def lk(ps:List ByteArray)(us:List Ty):Sb:=fun n=>us.getD ((pV ps n).getD us.length) default
section
variable {E:Env} {ps:List ByteArray} {bs:List Ty}
theorem akq{E:Env}(h:∀n,has E.params n=true->n∈ps)(t:Ty):t.fits E=true->t.C6 ps=true:=by
 induction t using Ty.ind with
 |h t ih=>
 intro hf;rw[t.QA]at hf;rw[t.akp];by_cases hk:t.kind=2
 .rw[if_pos hk];rw[if_pos (by simpa using hk)]at hf
  simpa using h _ hf
 .rw [if_neg hk];rw [if_neg (by simpa using hk)] at hf;have:ue E t.args=true:=by
   split at hf
   .split at hf
    .cases hf
    .exact hf
   .exact hf
  rw[QB,List.all_eq_true]at this;rw[List.all_eq_true];exact fun u hu=>ih u hu (this u hu)
end
theorem aaF:∀(ps:List ByteArray) (m:cE) (n:ByteArray),has (oC ps m) n=true->n∈ps\/has m n=true
 |[],m,n,h=>.inr h
 |s::l,m,n,h=>by
  rw[oC]at h;rcases aaF l _ n h with h |h
  .exact .inl (by simp[h])
  .rw[wz]at h;simp only[Bool.or_eq_true,decide_eq_true_eq]at h;rcases h with h |h
   .exact .inl (by simp[h])
   .exact .inr h
end
section
open Go Go.W
abbrev Sg:=Nat->Ty->Prop
abbrev Ts:=Ty->Prop
section
variable {Q:Env} {S S':Sg}
theorem aaG{α β:Type}{P P':α->β->Prop}(Ia:∀a b,P a b->P' a b):∀{l:List α} {m:List β},kH P l m->kH P' l m
 |[],[],_=>trivial
 |a::l,b::m,h=>⟨Ia _ _ h.1,aaG Ia h.2⟩
 |[],_::_,h=>h.elim
 |_::_,[],h=>h.elim
end
end
section
open Go Go.W
section
variable {Q:Env} {S:Sg} {X:Cx} {Z:Ts}
end
end
section
open Go Go.W
section
variable {Q:Env} {S:Sg} {X:Cx} {Z:Ts}
end
end
section
open Go Go.W
structure zR (m:Rn) (r:R3):Prop where
 told:r.2.told=m.told
 steps:r.2.steps=m.steps
 fl:r.2.bA.length<=m.bA.length+1
 flv:∀x,r.1=some (.val x)->r.2.bA.length<=m.bA.length
 go:∀md,r.1=some md->r.2.kind=m.kind/\r.2.stuck=m.stuck
 stop:r.1=none->r.2.kind=3
theorem wC{m:Rn}{md:Md}:zR m (some md,m):=⟨rfl,rfl,Nat.le_succ _,fun _ _=>Nat.le_refl _,fun _ _=>⟨rfl,rfl⟩,fun h=>by cases h⟩
theorem Fx{m:Rn}{k:Int}:zR m (none,m.stop k):=⟨rfl,rfl,Nat.le_succ _,fun _ _=>Nat.le_refl _,fun _ h=>by(cases h),fun _=>rfl⟩
theorem Fy{m:Rn}{e:Ex}{v:dS}{f:Fm}:zR m (some (.go e v),m.push f):=⟨rfl,rfl,by simp[Rn.push],fun _ h=>(by cases h),fun _ _=>⟨rfl,rfl⟩,fun h=>by cases h⟩
theorem Fz(m:Rn)(c:Nat):zR m (jO m c):=by
 unfold jO;cases m.cells[c]? with
 |none=>exact Fx
 |some x=>cases x<;>first |exact wC |exact Fx |exact⟨rfl,rfl,by simp[Rn.push,Rn.put],fun _ h=>(by cases h),fun _ _=>⟨rfl,rfl⟩,fun h=>by cases h⟩
theorem MZ{X:Cx}{e:Ex}{v:dS}{m:Rn}{r:R3}(h:sk X e v m=some r):zR m r:=by
 unfold sk at h;by_cases k1:e.kind=1
 .rw[if_pos k1]at h;obtain⟨c,_,rfl⟩:=Δ.1 h;exact Fz m c
 rw[if_neg k1]at h;by_cases k3:e.kind=3
 .rw[if_pos k3]at h;obtain⟨c,_,rfl⟩:=Δ.1 h;exact Fz m c
 rw[if_neg k3]at h;by_cases k2:e.kind=2
 .rw[if_pos k2]at h;cases h;exact wC
 rw[if_neg k2]at h;by_cases k4:e.kind=4
 .rw[if_pos k4]at h;cases h;exact wC
 rw[if_neg k4]at h;by_cases k6:e.kind=6
 .rw[if_pos k6]at h;cases h;exact wC
 rw[if_neg k6]at h;by_cases Bh:e.kind=12
 .rw[if_pos Bh]at h;cases h;exact Fx
 rw[if_neg Bh]at h;by_cases k7:e.kind=7
 .rw[if_pos k7]at h
  split at h
  .cases h
  .cases h;exact⟨rfl,rfl,Nat.le_succ _,fun _ _=>Nat.le_refl _,fun _ _=>⟨rfl,rfl⟩,fun h=>by cases h⟩
 rw[if_neg k7]at h;by_cases It:e.kind=11
 .rw[if_pos It]at h
  split at h
  .cases h
  .cases h;exact Fy
 rw[if_neg It]at h
 split at h
 .cases h
 .cases h;by_cases k5:e.kind=5
  .rw[if_pos k5];exact Fy
  by_cases k8:e.kind=8
  .rw[if_neg k5,if_pos k8];exact Fy
  by_cases k9:e.kind=9
  .rw[if_neg k5,if_neg k8,if_pos k9];exact Fy
  by_cases zS:e.kind=10
  .rw[if_neg k5,if_neg k8,if_neg k9,if_pos zS];exact Fy
  .rw[if_neg k5,if_neg k8,if_neg k9,if_neg zS];exact wC
theorem M4{m:Rn}{f:Cl}{c:Nat}{r:R3}(h:qt m f c=some r):zR m r:=by
 unfold qt at h
 split at h
 .split at h
  .cases h;exact wC
  .cases h
 .split at h
  .cases h;exact wC
  .cases h
 .cases h;exact Fx
theorem SG{m:Rn}{v:dS}{x:Cl}:∀(l:List Al) {r:R3},iM m v x l=some r->zR m r
 |[],r,h=>by rw[iM]at h;cases h;exact Fx
 |a::l,r,h=>by
  rw[iM]at h
  split at h
  .cases h;exact wC
  .split at h
   .split at h
    .obtain⟨c,_,rfl⟩:=Δ.1 h;exact wC
    .exact SG l h
   .exact SG l h
theorem M5{f:Fm}{x:Cl}{m:Rn}{r:R3}(h:kK f x m=some r):zR m r:=by
 unfold kK at h
 split at h
 .cases h;exact⟨rfl,rfl,Nat.le_succ _,fun _ _=>Nat.le_refl _,fun _ _=>⟨rfl,rfl⟩,fun h=>by cases h⟩
 .split at h
  .have k:=M4 h;exact⟨k.told,k.steps,k.fl,k.flv,k.go,k.stop⟩
  .cases h
 .exact SG _ h
 .split at h
  .cases h;exact Fy
  .cases h
 .split at h
  .cases h;exact wC
  .cases h;exact Fx
 .split at h
  .cases h;exact wC
  .cases h
 .split at h
  .cases h;exact⟨rfl,rfl,Nat.le_succ _,fun _ _=>Nat.le_refl _,fun _ _=>⟨rfl,rfl⟩,fun h=>by cases h⟩
  .cases h
theorem C7(X:Cx)(m:Rn):(m.steps=X.fuel/\ix X m=(false,{ m with kind:=4}))\/(m.steps≠X.fuel/\ix X m=(true,{ m with steps:=m.steps+1})):=by
 unfold ix
 split
 .exact .inl ⟨by assumption,rfl⟩
 .exact .inr ⟨by assumption,rfl⟩
structure C8 (X:Cx) (m:Rn) (r:Option Cl×Rn):Prop where
 told:r.2.told=m.told
 steps:m.steps<=r.2.steps
 fuel:m.steps<=X.fuel->r.2.steps<=X.fuel
 val:∀x,r.1=some x->r.2.kind=m.kind/\r.2.stuck=m.stuck/\r.2.bA=[]
 stop:r.1=none->(r.2.kind=4/\r.2.steps=X.fuel/\r.2.stuck=m.stuck)\/r.2.kind=3
theorem C8.from{X:Cx}{m m':Rn}{r:Option Cl×Rn}(h:C8 X m' r)(h1:m'.told=m.told)(h2:m.steps<=m'.steps)(h3:m.steps<=X.fuel->m'.steps<=X.fuel)(h4:m'.kind=m.kind/\m'.stuck=m.stuck):C8 X m r:=
 ⟨h.told.trans h1,Int.le_trans h2 h.steps,fun hh=>h.fuel (h3 hh),fun x hx=>by obtain⟨a,b,c⟩:=h.val x hx;exact⟨a.trans h4.1,b.trans h4.2,c⟩,fun hn=>by
  rcases h.stop hn with⟨a,b,c⟩ |a
  ·exact .inl ⟨a,b,c.trans h4.2⟩
  ·exact .inr a⟩
theorem xZ{X:Cx}:∀(n:Nat) {md:Md} {m:Rn} {r:Option Cl×Rn},fQ X n md m=some r->C8 X m r
 |0,md,m,r,h=>by cases md<;>(rw[fQ]at h;cases h)
 |n+1,.go e v,m,r,h=>by
  rw[fQ]at h;rcases C7 X m with⟨h1,h2⟩ |⟨h1,h2⟩
  .rw[h2]at h;simp only[if_true]at h;cases h;exact⟨rfl,Int.le_refl _,fun h=>h,fun x hx=>by(cases hx),fun _=>.inl ⟨rfl,h1,rfl⟩⟩
  .rw[h2]at h;simp only[Bool.true_eq_false,if_false]at h
   split at h
   .cases h
   .rename_i m' hb;cases h;have k:=MZ hb;have ks:m'.steps=m.steps+1:=k.steps;exact⟨k.told,by show m.steps<=m'.steps;omega,fun hh=>by show m'.steps<=_;omega,fun x hx=>by(cases hx),fun _=>.inr (k.stop rfl)⟩
   .rename_i sr m' hb;have k:=MZ hb;have ks:m'.steps=m.steps+1:=k.steps;exact(xZ n h).from k.told (by omega) (fun hh=>by omega) (k.go _ rfl)
 |n+1,.val x,m,r,h=>by
  rw[fQ]at h
  split at h
  .rename_i hl;cases h;exact⟨rfl,Int.le_refl _,fun h=>h,fun x hx=>⟨rfl,rfl,List.getLast?_eq_none_iff.1 hl⟩,fun hn=>by cases hn⟩
  .split at h
   .cases h
   .rename_i m' hb;cases h;have k:=M5 hb;have ks:m'.steps=m.steps:=k.steps;exact⟨k.told,by show m.steps<=m'.steps;omega,fun hh=>by show m'.steps<=_;omega,fun x hx=>by(cases hx),fun _=>.inr (k.stop rfl)⟩
   .rename_i sr m' hb;have k:=M5 hb;have ks:m'.steps=m.steps:=k.steps;exact(xZ n h).from k.told (by omega) (fun hh=>by omega) (k.go _ rfl)
def FA(X:Cx):Md->Rn->Nat
 |.go _ _,m=>3*(X.fuel-m.steps).toNat+m.bA.length
 |.val _,m=>3*(X.fuel-m.steps).toNat+m.bA.length+1
end
section
open Go Go.W
theorem aaH(a:Option Addr)(c:Nat):(if c=0 then a else Option.map (fun x=>x) a)=a:=by
 split
 .rfl
 .cases a<;>rfl
theorem aaI{w:World}{T sz n c:Nat}{a:Option Addr}{xs:List Value}{fp:Option Nat}(h:dP w T sz (.slice a n c) xs n fp){k:Nat}(hk:k<=n):dP w T sz (.slice a k c) (xs.take (k*sz)) k fp:=by
 obtain⟨h1,h2⟩:=h;refine⟨by rw[List.length_take,h1];exact Nat.min_eq_left (Nat.mul_le_mul_right _ hk),?_⟩;rcases h2 with⟨e,rfl,rfl⟩ |⟨b,c',sp,e,rfl,h3,h4,h5⟩
 .cases e;obtain rfl:k=0:=by omega
  exact .inl ⟨rfl,rfl,rfl⟩
 .cases e;refine .inr ⟨b,c,xs.drop (k*sz)++sp,rfl,rfl,?_,?_,by omega⟩
  .rw[<- List.append_assoc,List.take_append_drop];exact h3
  .rw[<- List.append_assoc,List.take_append_drop];exact h4
def M6(w:World)(B:Nat->Prop)(bs:List Nat)(v:Value):Option Cl->Prop
 |some x=>∃u,v=.tuple #[u,.bool true]/\kL w B bs x u/\x.rm=true
 |none=>v=.tuple #[.nilIface,.bool false]
def Bi(w w':World)(S:Nat->Prop)(r md mf:Nat)(bs:List Nat)(X:Cx)(v:Value)(x:Option Cl×Rn):Prop:=
 ∃S' du,dE w' S' r md mf du X x.2/\fh S S' w/\(∀(c b:Nat),bs[c]?=some b->du[c]?=some b)/\M6 w' (Out S' w') du v x.1
theorem Bi.uG{w w':World}{S:Nat->Prop}{r md mf:Nat}{bs:List Nat}{X:Cx}{v:Value}{x:Option Cl×Rn}(h:Bi w w' S r md mf bs X v x):∃a b,v=.tuple #[a,b]:=by
 obtain⟨S',du,_,_,_,h⟩:=h
 match x,h with
 |(some x,m),⟨u,e,_⟩=>exact⟨_,_,e⟩
 |(none,m),e=>exact⟨_,_,e⟩
theorem aaJ{w w' eI:World}{S S':Nat->Prop}{r md mf:Nat}{bs du:List Nat}{X:Cx}{v:Value}{x:Option Cl×Rn}(hg:fh S S' w)(hb:∀(c b:Nat),bs[c]?=some b->du[c]?=some b)(hm:Mod S w w')(h:Bi w' eI S' r md mf du X v x/\Mod S' w' eI):Bi w eI S r md mf bs X v x/\Mod S w eI:=by
 obtain⟨⟨S2,wy,h1,h2,h3,h4⟩,h5⟩:=h;exact⟨⟨S2,wy,h1,pD hg h2 hm.size,fun c b hc=>h3 c b (hb c b hc),h4⟩,oH hm hg h5⟩
theorem dE.pop{w w':World}{S:Nat→Prop}{r md mf:Nat}{bs:List Nat}{X:Cx}{m:Rn}{vt:Value}{af:Option Addr}{cf:Nat}{dY cO:List (List Value)}{dm dv:Option Nat}(h:km w S r md mf bs X m vt (.slice af cO.length cf) dY cO dm dv)(hm:Mod (· = r) w w')
   (hb:w'.heap[r]?=some (.cells (MD X m md mf vt (.slice af (cO.length-1) cf)).toArray MC (0,0))):dE w' S r md mf bs X { m with bA:=m.bA.dropLast}:=by
 obtain⟨n1,n2,n3,n4,n5,n6,n7,n8,n9⟩:=h.ne;have Sr:∀b,b=r->S b:=fun b hb=>by rw[hb];exact h.aT _ (by simp)
 have cA:=hm.aU Sr;have hlen:=h.bA.at.1;have hrow:∀x∈cO,x.length=5:=fun x hx=>by
  obtain⟨i,hi,rfl⟩:=List.getElem_of_mem hx;exact(h.bA.at.2 i _ _ (Ξ hi) (Ξ (by omega))).len
 have akr:∀(l:List (List Value)) (k:Nat),(∀x∈l,x.length=5)->(l.flatMap id).take (k*5)=(l.take k).flatMap id:=by
  intro l
  induction l with
  |nil=>intro k _;simp
  |cons x l ih=>
   intro k hx;cases k with
   |zero=>simp
   |succ k=>
    have zN:=hx x (by simp);rw[List.flatMap_cons,List.take_succ_cons,List.flatMap_cons,<- ih k (fun y hy=>hx y (by simp[hy])),Nat.add_mul,Nat.one_mul];rw[List.take_append,show(id x).length=5 from zN,Nat.add_sub_cancel,List.take_of_length_le (by rw[show(id x).length=5 from zN];omega)]
 have aaK:=aaI (h.tm.mod hm (fun b hb e=>(n5 b hb).1 e.symm)) (k:=cO.length-1) (by omega);rw[akr cO _ hrow]at aaK;have gX:(cO.take (cO.length-1)).length=cO.length-1:=by rw[List.length_take];omega
 have zT:m.bA.dropLast=m.bA.take (m.bA.length-1):=List.dropLast_eq_take;have aks:kH (qw w' (Out S w') bs) (cO.take (cO.length-1)) m.bA.dropLast:=by
  rw[zT,<- hlen];have key:∀(l:List (List Value)) (fs:List Fm) (k:Nat),kH (qw w (Out S w) bs) l fs->kH (qw w' (Out S w') bs) (l.take k) (fs.take k):=by
   intro l
   induction l with
   | nil => intro fs k ha; cases fs with
            |nil=>simp;trivial
            |cons _ _=>exact ha.elim
   |cons x l ih=>
    intro fs k ha;cases fs with
    |nil=>exact ha.elim
    |cons f fs=>
     cases k with
     |zero=>trivial
     |succ k=>exact⟨ha.1.up cA aW (br cA) (fun _ _ h=>h),ih fs k ha.2⟩
  exact key _ _ _ h.bA
 refine⟨vt,.slice af (cO.length-1) cf,dY,cO.take (cO.length-1),dm,dv,hb,h.told.mod hm (fun b hb e=>(n4 b hb).1 e.symm),h.items,by rw[gX];exact aaK,aks,h.blocks,h.aT,fun b hb=>Nat.lt_of_lt_of_le (h.lt b hb) hm.size,h.len,?_,
  h.aj.mod hm (fun e=>n1 e.symm) (fun _ _ x=>x),h.fields.mod hm (fun e=>n2 e.symm) (fun _ _ x=>x),h.steps,fun p hp=>by
   obtain⟨a1,a2,a3⟩:=h.kept p hp
   exact⟨hm.at a1 (fun e=>a3 (by rw[e];simp)),a2,a3⟩⟩
 intro i b x hi hx;obtain⟨v,h1,h2⟩:=h.cell i b x hi hx;exact⟨v,hm.at h1 (fun e=>(n6 b (List.mem_of_getElem? hi)).1 e.symm),h2.up cA aW (br cA) (fun _ _ h=>h)⟩
theorem SH{n:Nat}{w:World}{S:Nat→Prop}{r md mf:Nat}{bs:List Nat}{X:Cx}{m:Rn}{e:Ex}{nm:dS}{ve vn:Value}{dx:Option Cl×Rn}(h:dE w S r md mf bs X m)(he:qu w (Out S w) ve e)(hn:jz w (Out S w) bs nm vn)(hlen:(m.bA.length:Int)≤m.steps+1)(a7:fQ X n (.go e nm) m=some dx) :
   bu Tryz.prog 44 [ptr r,ve,vn] w fun v w'=>Bi w w' S r md mf bs X v dx/\Mod S w w':=by
 refine γ Tryz.f44 ?_;refine σ ?_
 refine io (fun z ρ w'=>Mod S w w'/\∃(S':Nat->Prop) (du:List Nat) (m':Rn) (d:Md) (v1 v2 v8:Value),dE w' S' r md mf du X m'/\fh S S' w/\(∀(c b:Nat),bs[c]?=some b->du[c]?=some b)/\Fl w' (Out S' w') du (.tuple #[v1,v2,v8,.bool true]) (some d)/\(m'.bA.length:Int)<=m'.steps+1/\fQ X z d m'=some dx /\
  ρ.get 0=some (ptr r)/\ρ.get 1=some v1/\ρ.get 2=some v2/\ρ.get 8=some v8) n ⟨.refl _ _,S,bs,m,.go e nm,ve,vn,.nilIface,h,qz,fun _ _ h=>h,⟨ve,vn,rfl,he,hn⟩,hlen,a7,rfl,rfl,rfl,rfl⟩ ?_
 rintro z ρ w1 ⟨ak,S1,gk,m1,d,v1,v2,v8,iy,fE,pC,qy,oh,dN,g0,g1,g2,g8⟩;have akt:m1.steps<=1048576/\0<=m1.steps:=by
  obtain⟨_,_,_,_,_,_,hh⟩:=iy;have:=hh.steps;omega
 match z,d,qy,dN with
 |0,.go _ _,_,dN=>rw[fQ]at dN;cases dN
 |0,.val _,_,dN=>rw[fQ]at dN;cases dN
 |z+1,.go e nm,⟨ve,vn,ee,he,hn⟩,dN=>
  obtain⟨rfl,rfl,rfl⟩:v1=ve/\v2=vn/\v8=.nilIface:=by
   simp only[Value.tuple.injEq,Array.mk.injEq,List.cons.injEq]at ee;exact⟨ee.1,ee.2.1,ee.2.2.1⟩
  have hp:∃a,v1=.pointer (some a):=by obtain⟨a,_,rfl,_⟩:=he;exact⟨a,rfl⟩
  obtain⟨ap,rfl⟩:=hp;rw[fQ]at dN;simp only[go_sem,simprocAttr,g0,g1,g2,g8];refine δ (by rfl) (Z4 iy) ?_;rintro _ w2 ⟨rfl,gy,ai⟩;have Sr:∀y,y=r->S1 y:=fun y hy=>by obtain⟨_,_,_,_,_,_,hx⟩:=iy;rw[hy];exact hx.aT _ (by simp)
  have wD:=ai.aU Sr;have bo:=oH ak fE wD;rcases C7 X m1 with⟨q1,q2⟩ |⟨q1,q2⟩
  .rw[q2,if_pos rfl]at dN;rw[q2]at gy ⊢;cases dN;simp only[go_sem,simprocAttr,aM,RV.ev,aN];exact⟨⟨S1,gk,gy,fE,pC,rfl⟩,bo⟩
  .rw[q2,if_neg (by simp)]at dN;rw[q2]at gy ⊢;simp only at dN;have xi:=he.up wD aW (br wD) (B':=Out S1 w2);have vz:=hn.up wD aW (br wD) (fun _ _ h=>h);cases hb:sk X e nm { m1 with steps:=m1.steps+1}with
   |none=>rw[hb]at dN;cases dN
   |some rr=>
   rw[hb]at dN;have dO:=MZ hb;refine σ ?_;refine δ (by rfl) (aj9 gy xi vz (show m1.bA.length<=2097152 by omega) hb) ?_;rintro v w3 ⟨⟨S3,C9,mP,sq,SI,nP⟩,aw⟩;have Iu:=pD fE sq bo.size;have bz:=oH bo fE aw;have Iv:∀(c b:Nat),bs[c]?=some b->C9[c]?=some b:=fun c b h=>SI c b (pC c b h)
   match rr,dN,nP,dO,mP with
   |(none,m'),dN,nP,dO,mP=>
    have nP:v=_:=nP;subst nP;cases dN;simp only[go_sem,simprocAttr,aM,RV.ev,aN];exact⟨⟨S3,C9,mP,Iu,Iv,rfl⟩,bz⟩
   |(some sr,m'),dN,nP,dO,mP=>
    obtain⟨a,b,c,d,rfl⟩:=nP.uG;have hd:d=.bool true:=by
     match sr,nP with
     |.go _ _,⟨_,_,e1,_⟩=>cases e1;rfl
     |.val _,⟨_,e1,_⟩=>cases e1;rfl
    subst hd;have ks:m'.steps=m1.steps+1:=dO.steps;have kf:m'.bA.length<=m1.bA.length+1:=dO.fl;refine σ ?_;exact⟨_,Nat.lt_succ_self z,bz,S3,C9,m',sr,a,b,c,mP,Iu,Iv,nP,by omega,dN,rfl,rfl,rfl⟩
 |z+1,.val x,⟨u,ee,hu,hv⟩,dN=>
  obtain⟨rfl,rfl,rfl⟩:v1=.pointer none/\v2=.pointer none/\v8=u:=by
   simp only[Value.tuple.injEq,Array.mk.injEq,List.cons.injEq]at ee;exact⟨ee.1,ee.2.1,ee.2.2.1⟩
  rw[fQ]at dN;obtain⟨vt,vf,dY,cO,dm,dv,hh⟩:=iy;have nL:=hh.bA.at.1;cases hl:m1.bA.getLast? with
  |none=>
   rw[hl]at dN;cases dN;have h0:=List.getLast?_eq_none_iff.1 hl;have b0:((cO.length:Int)==0)=true:=by rw[nL,h0];try rfl
   obtain⟨af,cf,rfl,rX,_⟩:=hh.tm.val;simp only[go_sem,simprocAttr,Option.isNone_none,Bool.not_true,g0,g1,g2,g8,cell_of hh.box,b0,aM,RV.ev,aN];exact⟨⟨S1,gk,⟨_,_,_,_,_,_,hh⟩,fE,pC,(show M6 w1 (Out S1 w1) gk _ (some x)from⟨_,rfl,hu,hv⟩)⟩,ak⟩
  |some f=>
   rw[hl]at dN;simp only at dN;have bJ:m1.bA≠[]:=fun e=>by rw[e]at hl;cases hl
   have BY:0<cO.length:=by rw[nL];exact List.length_pos_iff.2 bJ
   have b0:((cO.length:Int)==0)=false:=by
    have:¬(cO.length:Int)=0:=by omega
    simpa using this
   have e1:IntKind.i64.wrap ((cO.length:Int)-1)=((cO.length-1:Nat):Int):=by rw[dJ (by omega) (by omega)];omega
   have b1:(0:Int)<=((cO.length-1:Nat):Int)/\((cO.length-1:Nat):Int)<cO.length:=by omega
   obtain⟨bF,cf,sp,rfl,Hi,MO,rX,_⟩:=hh.tm.pos BY;have b3:(0:Int)<=((cO.length-1:Nat):Int)/\((cO.length-1:Nat):Int)<=cf:=by omega
   have hrow:∀x∈cO,x.length=5:=fun x hx=>by
    obtain⟨i,hi,rfl⟩:=List.getElem_of_mem hx;exact(hh.bA.at.2 i _ _ (Ξ hi) (Ξ (by omega))).len
   have hk:cO.length-1<cO.length:=by omega
   have iu:(cO.flatMap id).length=cO.length*5:=hh.tm.1;have cR:f' w1 5 (.pointer (some ⟨bF,(cO.length-1)*5,none⟩))=some (.agg (cO[cO.length-1]).toArray):=by
    rw[jm MO (by rw[List.length_append,iu];omega),List.drop_append_of_le_length (by rw[iu];omega),List.take_append_of_le_length (by rw[List.length_drop,iu];omega),Qg hrow hk]
   have zU:qw w1 (Out S1 w1) gk cO[cO.length-1] f:=hh.bA.at.2 _ _ _ (Ξ hk) (by rw[nL,<- List.getLast?_eq_getElem?];exact hl);generalize cO[cO.length-1]=row at cR zU;simp only[go_sem,simprocAttr,Option.isNone_none,Bool.not_true,g0,g1,g2,g8,cell_of hh.box,b0,e1];simp only[go_sem,simprocAttr,bG,bH,b1,oa,Nat.zero_add,cR];have aaL:=zU.len;have xn:=bP hh.box;have hlF:=bP MO;refine cX ?_;intro w2 az ai bU;have ai:Mod (fun _=>False) w1 w2:=ai.dG;refine⟨⟨ai.bO _ hlF Ψ,ai.bO _ xn Ψ⟩,?_⟩;have az:w2.heap[w1.heap.size]?=some (.cells [I 0,.pointer none,.pointer none,.pointer none,I 0].toArray 159 (0,0)):=az;refine bN (vs:=row) (cs:=[I 0,.pointer none,.pointer none,.pointer none,I 0]) rfl rfl az aaL rfl zU.one ?_;intro w3 aS aw dU;have gH:Mod (fun _=>False) w1 w3:=ai.step aw (fun b hb hl=>by have e:b=w1.heap.size:=hb;omega);have zL:=gH.at hh.box Ψ;simp only[go_sem,simprocAttr,cell_of zL,e1];simp only[go_sem,simprocAttr,bG,bH,cell_of zL,e1,b3,aaH,ite_self];have aku:w3.drew.heap[r]?=_:=zL;refine eK (b:=r) (off:=11) (v:=.slice (some ⟨bF,0,none⟩) (cO.length-1) cf) rfl rfl aku rfl (by simp) ?_;intro w4 bm aD dL;have aD:Mod (· = r) w3 w4:=aD.dG;have tq:=dE.pop (hh.aI gH) aD bm;have Sr:∀y,y=r->S1 y:=fun y hy=>by rw[hy];exact hh.aT _ (by simp)
   have gj:Mod S1 w1 w4:=(aq gH).trans (aD.aU Sr);have SJ:w4.heap[w1.heap.size]?=some (.cells row.toArray 159 (0,0)):=aD.at aS (fun e=>by have:=xn;omega);have akv:=zU.up gj aW (br gj) (fun _ _ h=>h);have C':=hu.up gj aW (br gj) (fun _ _ h=>h);cases hb:kK f x { m1 with bA:=m1.bA.dropLast}with
   |none=>rw[hb]at dN;cases dN
   |some rr=>
   rw[hb]at dN;have dO:=M5 hb;have zT:m1.bA.dropLast.length=m1.bA.length-1:=List.length_dropLast;simp only[go_sem,simprocAttr,aE (n:=5) (cs:=row) SJ aaL];refine δ (by rfl) (akd tq akv C' hv (show m1.bA.dropLast.length<=2097152 by omega) hb) ?_;rintro v w5 ⟨⟨S3,C9,mP,sq,SI,nP⟩,aH⟩;have eX:=oH ak fE gj;have Iu:=pD fE sq eX.size;have jd:=oH eX fE aH;have Iv:∀(c b:Nat),bs[c]?=some b->C9[c]?=some b:=fun c b h=>SI c b (pC c b h)
   match rr,dN,nP,dO,mP with
   |(none,m'),dN,nP,dO,mP=>
    have nP:v=_:=nP;subst nP;cases dN;simp only[go_sem,simprocAttr,aM,RV.ev,aN];exact⟨⟨S3,C9,mP,Iu,Iv,rfl⟩,jd⟩
   |(some sr,m'),dN,nP,dO,mP=>
    obtain⟨a,b,c,d,rfl⟩:=nP.uG;have hd:d=.bool true:=by
     match sr,nP with
     |.go _ _,⟨_,_,e1,_⟩=>cases e1;rfl
     |.val _,⟨_,e1,_⟩=>cases e1;rfl
    subst hd;have ks:m'.steps=m1.steps:=dO.steps;have kf:m'.bA.length<=m1.bA.dropLast.length+1:=dO.fl;refine σ ?_;exact⟨_,Nat.lt_succ_self z,jd,S3,C9,m',sr,a,b,c,mP,Iu,Iv,nP,by omega,dN,rfl,rfl,rfl⟩
theorem akw{n:Nat}{w:World}{S:Nat→Prop}{r md mf:Nat}{bs:List Nat}{X:Cx}{m:Rn}{e:Ex}{nm:dS}{ve vn:Value}{dx:Option Cl×Rn}(h:dE w S r md mf bs X m)(he:qu w (Out S w) ve e)(hn:jz w (Out S w) bs nm vn)(hlen:(m.bA.length:Int)≤m.steps+1)(a7:fQ X n (.go e nm) m=some dx) :
   bu Tryz.prog 20 [ptr r,ve,vn] w fun v w'=>Bi w w' S r md mf bs X v dx/\Mod S w w':=by
 refine γ Tryz.f20 ?_;refine σ ?_;refine δ (by rfl) (SH h he hn hlen a7) ?_;rintro v w1 hR;obtain⟨a,b,rfl⟩:=hR.1.uG;simp only[go_sem,simprocAttr,aM,RV.ev,aN];exact hR
theorem akx{n c b:Nat}{w:World}{S:Nat→Prop}{r md mf:Nat}{bs:List Nat}{X:Cx}{m:Rn}{dx:Option Cl×Rn}(h:dE w S r md mf bs X m)(hc:bs[c]? = some b)(hlen:(m.bA.length:Int)≤m.steps)(a7:rp X n c m=some dx) :
   bu Tryz.prog 47 [ptr r,ptr b] w fun v w'=>Bi w w' S r md mf bs X v dx/\Mod S w w':=by
 have eH:m.steps<=1048576:=by obtain⟨_,_,_,_,_,_,hh⟩:=h;have:=hh.steps;omega
 have dO:=Fz m c;unfold rp at a7;refine γ Tryz.f47 ?_;refine σ ?_;refine δ (by rfl) (R8 h hc (by omega)) ?_;rintro v w1 ⟨⟨S1,gk,iy,fE,pC,uI⟩,ak⟩;generalize jO m c=rr at a7 dO iy uI
 match rr,a7,dO,iy,uI with
 |(none,m'),a7,dO,iy,uI=>
  have uI:v=_:=uI;subst uI;cases a7;simp only[go_sem,simprocAttr,aM,RV.ev,aN];exact⟨⟨S1,gk,iy,fE,pC,rfl⟩,ak⟩
 |(some (.val x),m'),a7,dO,iy,⟨u,e1,hu,hv⟩=>
  subst e1;cases a7;simp only[go_sem,simprocAttr,Option.isNone_none,aM,RV.ev,aN];exact⟨⟨S1,gk,iy,fE,pC,(show M6 w1 (Out S1 w1) gk _ (some x)from⟨_,rfl,hu,hv⟩)⟩,ak⟩
 |(some (.go e nm),m'),a7,dO,iy,⟨ve,vn,e1,he,hn⟩=>
  subst e1;have hp:∃a,ve=.pointer (some a):=by obtain⟨a,_,rfl,_⟩:=he;exact⟨a,rfl⟩
  obtain⟨ap,rfl⟩:=hp;have ks:m'.steps=m.steps:=dO.steps;have kf:m'.bA.length<=m.bA.length+1:=dO.fl;refine σ ?_;refine δ (by rfl) (SH iy he hn (show(m'.bA.length:Int)<=m'.steps+1 by omega) a7) ?_;rintro v w2 hR;obtain⟨a,b,rfl⟩:=hR.1.uG;simp only[go_sem,simprocAttr,aM,RV.ev,aN];exact aaJ fE pC ak hR
theorem aky{n c b:Nat}{w:World}{S:Nat→Prop}{r md mf:Nat}{bs:List Nat}{X:Cx}{m:Rn}{f:Cl}{u:Value}{dx:Option Cl×Rn}(h:dE w S r md mf bs X m)(hc:bs[c]? = some b)(hu:kL w (Out S w) bs f u)(hv:f.rm=true)(hlen:(m.bA.length:Int)≤m.steps)(a7:uC X n f c m=some dx) :
   bu Tryz.prog 21 [ptr r,u,ptr b] w fun v w'=>Bi w w' S r md mf bs X v dx/\Mod S w w':=by
 unfold uC at a7;cases hg:qt m f c with
 |none=>rw[hg]at a7;cases a7
 |some rr=>
 rw[hg]at a7;have dO:=M4 hg;refine γ Tryz.f21 ?_;refine σ ?_;refine δ (by rfl) (aab h hc hu hv hg) ?_;rintro v w1 ⟨⟨S1,gk,iy,fE,pC,uI⟩,ak⟩
 match rr,a7,dO,iy,uI with
 |(none,m'),a7,dO,iy,uI=>
  have uI:v=_:=uI;subst uI;cases a7;simp only[go_sem,simprocAttr,aM,RV.ev,aN];exact⟨⟨S1,gk,iy,fE,pC,rfl⟩,ak⟩
 |(some (.val x),m'),a7,dO,iy,⟨u,e1,hu,hv⟩=>
  subst e1;cases a7;simp only[go_sem,simprocAttr,Option.isNone_none,aM,RV.ev,aN];exact⟨⟨S1,gk,iy,fE,pC,(show M6 w1 (Out S1 w1) gk _ (some x)from⟨_,rfl,hu,hv⟩)⟩,ak⟩
 |(some (.go e nm),m'),a7,dO,iy,⟨ve,vn,e1,he,hn⟩=>
  subst e1;have hp:∃a,ve=.pointer (some a):=by obtain⟨a,_,rfl,_⟩:=he;exact⟨a,rfl⟩
  obtain⟨ap,rfl⟩:=hp;have ks:m'.steps=m.steps:=dO.steps;have kf:m'.bA.length<=m.bA.length+1:=dO.fl;refine σ ?_;refine δ (by rfl) (SH iy he hn (show(m'.bA.length:Int)<=m'.steps+1 by omega) a7) ?_;rintro v w2 hR;obtain⟨a,b,rfl⟩:=hR.1.uG;simp only[go_sem,simprocAttr,aM,RV.ev,aN];exact aaJ fE pC ak hR
end
section
open Go Go.W
theorem km.tell{w w3 w4:World}{S:Nat→Prop}{r md mf:Nat}{bs:List Nat}{X:Cx}{m:Rn}{vt vf v3:Value}{dY cO:List (List Value)}{dm dv jh:Option Nat}{row:List Value}{it:ByteArray×Int}(h:km w S r md mf bs X m vt vf dY cO dm dv)(aw:Mod (fun b=>dm=some b) w w3)
   (uD:dP w3 100 2 v3 (dY.flatMap id++row) (dY.length+1) jh) (kW:∀b,jh=some b->dm=some b\/w.heap.size<=b) (hit:R4 row it) (aD:Mod (· = r) w3 w4) (bm:w4.heap[r]?=some (.cells (MD X m md mf v3 vf).toArray MC (0,0))) :
   ∃S',dE w4 S' r md mf bs X { m with told:=m.told++[it]}/\fh S S' w/\Mod S w w4:=by
 obtain⟨n1,n2,n3,n4,n5,n6,n7,n8,n9⟩:=h.ne;have Sr:∀b,b=r->S b:=fun b hb=>by rw[hb];exact h.aT _ (by simp)
 have St:∀b,dm=some b->S b:=fun b hb=>h.aT _ (by simp[hb])
 have cA:Mod S w w4:=(aw.aU St).trans (aD.aU Sr);have z3:=aw.size;have z4:=aD.size
 have hg:fh S (fun b=>S b\/jh=some b) w:=⟨fun b hb=>.inl hb,fun b hb=>by
  rcases hb with h |h
  ·exact .inl h
  ·rcases kW b h with h |h
   ·exact .inl (St b h)
   ·exact .inr h⟩
 have ga:=wo hg cA.size;have oG:∀b∈mn r md mf bs dm dv,b<w.heap.size:=fun b hb=>h.lt b (h.aT b hb)
 have lr:=oG r (by simp);have ld:=oG md (by simp);have lmf:=oG mf (by simp);have lf':∀b,dv=some b->b<w.heap.size:=fun b hb=>oG b (by simp[hb])
 have lb:∀b∈bs,b<w.heap.size:=fun b hb=>oG b (by simp[hb])
 refine⟨fun b=>S b\/jh=some b,⟨v3,vf,dY++[row],cO,jh,dv,?_⟩,hg,cA⟩;refine⟨bm,?_,h.items.snoc hit,?_,?_,?_,?_,?_,h.len,?_,?_,?_,h.steps,fun p hp=>?_⟩
 rotate_left 9
 .obtain⟨a1,a2,a3⟩:=h.kept p hp;have a4:=bP a1;simp only[mn,List.mem_cons,List.mem_append,Option.mem_toList,not_or]at a3 ⊢;obtain⟨c1,c2,c3,⟨c4,c5⟩,c6⟩:=a3
  exact⟨aD.at (aw.at a1 (fun e=>c4 (by rw[e]))) c1,.inl a2,c1,c2,c3,⟨fun e=>by
   rcases kW _ e with h |h
   ·exact c4 h
   ·omega,c5⟩,c6⟩
 .have sS:=uD.mod aD (fun b hb e=>by
   rcases kW b hb with h |h
   ·exact(n4 b h).1 e.symm
   ·omega)
  rw[Hj,List.length_append];exact sS
 .exact(h.tm.mod aw (fun b hb e=>n7 b b e hb rfl)).mod aD (fun b hb e=>(n5 b hb).1 e.symm)
 .exact h.bA.imp (fun _ _ x=>x.up cA aW ga (fun _ _ h=>h))
 .refine R6 h.MF ⟨n1,n2,n3⟩ (fun b hb=>?_) n5 n6 (fun a b ha hb=>?_) (fun a ha eO=>?_) n9
  .rcases kW b hb with h |h
   .exact n4 b h
   .exact⟨by omega,by omega,by omega⟩
  .rcases kW a ha with h |h
   .exact n7 a b h hb
   .have:=lf' b hb;omega
  .rcases kW a ha with h |h
   .exact n8 a h eO
   .have:=lb a eO;omega
 .intro b hb;simp only[mn,List.mem_cons,List.mem_append,Option.mem_toList]at hb;rcases hb with rfl |rfl |rfl |(h1 |h1) |h1
  .exact .inl (h.aT _ (by simp))
  .exact .inl (h.aT _ (by simp))
  .exact .inl (h.aT _ (by simp))
  .exact .inr h1
  .exact .inl (h.aT _ (by simp[h1]))
  .exact .inl (h.aT _ (by simp[h1]))
 .intro b hb;rcases hb with h1 |h1
  .have:=h.lt b h1;omega
  .have:=uD.lt h1;omega
 .intro i b x hi hx;obtain⟨v,h1,h2⟩:=h.cell i b x hi hx;have eO:=List.mem_of_getElem? hi;exact⟨v,aD.at (aw.at h1 (fun e=>n8 b e eO)) (fun e=>(n6 b eO).1 e.symm),h2.up cA aW ga (fun _ _ h=>h)⟩
 .exact(h.aj.mod aw (fun e=>(n4 md e).2.1 rfl) (fun _ _ x=>x)).mod aD (fun e=>n1 e.symm) (fun _ _ x=>x)
 .exact(h.fields.mod aw (fun e=>(n4 mf e).2.2 rfl) (fun _ _ x=>x)).mod aD (fun e=>n2 e.symm) (fun _ _ x=>x)
end
section
open Go Go.W
def Cx.kp(X:Cx)(l:List (Nat×Obj)):Cx:={ X with aI:=l}
theorem aaM(X:Cx)(l:List (Nat×Obj))(m:Rn):ix (X.kp l) m=ix X m:=rfl
theorem akz(X:Cx)(l:List (Nat×Obj))(e:Ex)(v:dS)(m:Rn):sk (X.kp l) e v m=sk X e v m:=rfl
theorem SL(X:Cx)(l:List (Nat×Obj)):∀(n:Nat) (md:Md) (m:Rn),fQ (X.kp l) n md m=fQ X n md m
 |0,md,m=>by cases md<;>rw[fQ,fQ]
 |n+1,.go e v,m=>by
  rw[fQ,fQ];simp only[aaM,akz,SL X l n]
 |n+1,.val x,m=>by
  rw[fQ,fQ];simp only[SL X l n]
theorem akA(X:Cx)(l:List (Nat×Obj))(n c:Nat)(m:Rn):rp (X.kp l) n c m=rp X n c m:=by
 unfold rp;simp only[SL]
theorem km.akB{w w':World}{S:Nat→Prop}{r md mf:Nat}{bs:List Nat}{X:Cx}{m:Rn}{vt vf:Value}{dY cO:List (List Value)}{dm dv fp dB:Option Nat}{K K':List (Nat×Obj)}(h:km w S r md mf bs (X.kp K) m vt vf dY cO dm dv)(hK:∀ b,fp=some b→∃ o,(b,o)∈K)
   (hm:Mod (fun b=>fp=some b) w w') (kV:∀b,dB=some b->fp=some b\/w.heap.size<=b) (bg:∀b,dB=some b->b<w'.heap.size) (hK':∀p∈K',dB=some p.1/\w'.heap[p.1]?=some p.2) :
   km w' (fun b=>S b\/dB=some b) r md mf bs (X.kp K') m vt vf dY cO dm dv:=by
 have SM:∀b,fp=some b->S b/\b∉mn r md mf bs dm dv:=fun b hb=>by
  obtain⟨o,ho⟩:=hK b hb;exact⟨(h.kept _ ho).2.1,(h.kept _ ho).2.2⟩
 have ne:∀b∈mn r md mf bs dm dv,¬fp=some b:=fun b hb e=>(SM b e).2 hb
 have ne':∀b∈mn r md mf bs dm dv,¬dB=some b:=fun b hb e=>by
  rcases kV b e with h1 |h1
  .exact ne b hb h1
  .have:=h.lt b (h.aT b hb);omega
 have cA:Mod S w w':=hm.aU (fun b hb=>(SM b hb).1)
 have ga:∀b,Out S w b->Out (fun b=>S b\/dB=some b) w' b:=fun b hb=>⟨Nat.lt_of_lt_of_le hb.1 hm.size,fun hh=>by
  rcases hh with h1 |h1
  ·exact hb.2 h1
  ·rcases kV b h1 with h2 |h2
   ·exact hb.2 (SM b h2).1
   ·have:=hb.1;omega⟩
 refine⟨hm.at h.box (ne r (by simp)),h.told.mod hm (fun b hb=>ne b (by simp[hb])),h.items,h.tm.mod hm (fun b hb=>ne b (by simp[hb])),h.bA.imp (fun _ _ x=>x.up cA aW ga (fun _ _ h=>h)),h.blocks,fun b hb=>.inl (h.aT b hb),?_,h.len,?_,
  h.aj.mod hm (ne md (by simp)) (fun _ _ x=>x),h.fields.mod hm (ne mf (by simp)) (fun _ _ x=>x),h.steps,fun p hp=>?_⟩
 .rintro b (hb |hb)
  .exact Nat.lt_of_lt_of_le (h.lt b hb) hm.size
  .exact bg b hb
 .intro i b x hi hx;obtain⟨v,h1,h2⟩:=h.cell i b x hi hx;exact⟨v,hm.at h1 (ne b (by simp[List.mem_of_getElem? hi])),h2.up cA aW ga (fun _ _ h=>h)⟩
 .obtain⟨h1,h2⟩:=hK' p hp;exact⟨h2,.inr h1,fun hh=>ne' _ hh h1⟩
theorem dE.drop{w:World}{S:Nat->Prop}{r md mf:Nat}{bs:List Nat}{X:Cx}{m:Rn}{K:List (Nat×Obj)}(h:dE w S r md mf bs (X.kp K) m):dE w S r md mf bs (X.kp []) m:=by
 obtain⟨vt,vf,dY,cO,dm,dv,h⟩:=h;exact⟨vt,vf,dY,cO,dm,dv,h.box,h.told,h.items,h.tm,h.bA,h.blocks,h.aT,h.lt,h.len,h.cell,h.aj,h.fields,h.steps,fun p hp=>by cases hp⟩
abbrev Iw:Nat:=88
structure tw (w w0:World) (bs:List Nat) (v:Value) (ws:List Nat) (rows:List Value) (fp:Option Nat) (K:List (Nat×Obj)):Prop where
 own:dP w Iw 1 v rows ws.length fp
 all:kH (H' bs) rows ws
 new:∀b,fp=some b->w0.heap.size<=b
 k1:∀b,fp=some b->∃o,(b,o)∈K
theorem tw.up{w w' w0:World}{S S':Nat->Prop}{r md mf:Nat}{bs bs0 du akC:List Nat}{X:Cx}{m m':Rn}{v:Value}{ws:List Nat}{rows:List Value}{fp:Option Nat}{K:List (Nat×Obj)}(h:tw w w0 bs v ws rows fp K)(hR:dE w S r md mf bs0 (X.kp K) m)(hR':dE w' S' r md mf akC (X.kp K) m')(hb:∀(c b:Nat),bs[c]?=some b->du[c]?=some b):tw w' w0 du v ws rows fp K:=by
 refine⟨⟨h.own.1,?_⟩,aaG (fun _ _ x=>by obtain⟨y,e,h⟩:=x;exact⟨y,e,hb _ _ h⟩) h.all,h.new,h.k1⟩;rcases h.own.2 with h1 |⟨b,c,sp,h1,h2,h3,h4⟩
 .exact .inl h1
 .refine .inr ⟨b,c,sp,h1,h2,?_,h4⟩;obtain⟨o,ho⟩:=h.k1 b h2;obtain⟨_,_,_,_,_,_,hh⟩:=hR;obtain⟨_,_,_,_,_,_,wX⟩:=hR';have e1:=(hh.kept _ ho).1;have e2:=(wX.kept _ ho).1;simp only at e1 e2;rw[h3]at e1;rw[e2,<- e1]
theorem tw.push{w w' eI w0:World}{S:Nat→Prop}{r md mf:Nat}{bs:List Nat}{X:Cx}{m:Rn}{v v':Value}{ws:List Nat}{rows:List Value}{fp dB:Option Nat}{K:List (Nat×Obj)}{c b:Nat}(h:tw w w0 bs v ws rows fp K)(hR:dE w S r md mf bs (X.kp K) m)(hc:bs[c]? = some b)(kQ:Mod (fun _=>False) w w')(hz:w0.heap.size≤w.heap.size)
   (ho:dP eI Iw 1 v' (rows++[ptr b]) (ws.length+1) dB) (hm:Mod (fun b=>fp=some b) w' eI) (hf:∀b,dB=some b->fp=some b\/b=w'.heap.size/\b<eI.heap.size) :
   ∃S' K',dE eI S' r md mf bs (X.kp K') m/\fh S S' w/\Mod S w eI/\tw eI w0 bs v' (ws++[c]) (rows++[ptr b]) dB K':=by
 obtain⟨vt,vf,dY,cO,dm,dv,hh⟩:=hR.aI kQ;have hfS:∀b,fp=some b->S b:=fun b hb=>by
  obtain⟨o,ho⟩:=h.k1 b hb;exact(hh.kept _ ho).2.1
 have z0:=kQ.size;have kV:∀b,dB=some b->fp=some b\/w'.heap.size<=b:=fun b hb=>by
  rcases hf b hb with h1 |⟨h1,_⟩
  .exact .inl h1
  .exact .inr (by omega)
 have bg:∀b,dB=some b->b<eI.heap.size:=fun b hb=>ho.lt hb
 have akD:kH (H' bs) (rows++[ptr b]) (ws++[c]):=h.all.snoc ⟨b,rfl,hc⟩;have akE:dP eI Iw 1 v' (rows++[ptr b]) (ws++[c]).length dB:=by rw[List.length_append];exact ho
 have akF:∀b,dB=some b->w0.heap.size<=b:=fun b hb=>by
  rcases kV b hb with h1 |h1
  .exact h.new b h1
  .omega
 have hg:fh S (fun b=>S b\/dB=some b) w:=⟨fun b hb=>.inl hb,fun b hb=>by
  rcases hb with h1 |h1
  ·exact .inl h1
  ·rcases kV b h1 with h2 |h2
   ·exact .inl (hfS b h2)
   ·exact .inr (by omega)⟩
 obtain⟨b',cap,sp,e1,e2,e3,_⟩:=ho.pos (by omega);refine⟨_,[(b',.cells (rows++[ptr b]++sp).toArray Iw (0,0))],⟨vt,vf,dY,cO,dm,dv,hh.akB (K':=[(b',.cells (rows++[ptr b]++sp).toArray Iw (0,0))]) h.k1 hm kV bg (fun p hp=>by rw[List.mem_singleton.1 hp];exact⟨e2,e3⟩)⟩,hg,(aq kQ).trans (hm.aU hfS),akE,akD,akF,fun b hb=>?_⟩;rw[e2]at hb;cases hb;exact⟨_,List.mem_singleton.2 rfl⟩
end
section
open Go Go.W
theorem akG{P:Program}{N id:Nat}{a:IR}{Q:Post}{ρ:Go.W.Env}{w:World}(h:dD P N a (mB id Q) ρ w):dD P N (.block id a) Q ρ w:=h
theorem akH{m m':Rn}{c:Nat}{x:Cl}(h:jO m c=(some (.val x),m')):m'=m/\x.rm=true:=by
 unfold jO at h;cases hx:m.cells[c]? with
 |none=>rw[hx]at h;cases h
 |some y=>
  rw[hx]at h;cases y<;>first |(cases h;exact⟨rfl,rfl⟩) |cases h
theorem FB{X:Cx}{n c:Nat}{m:Rn}{r:Option Cl×Rn}(h:rp X n c m=some r)(hf:m.bA=[]):C8 X m r:=by
 unfold rp at h;have k:=Fz m c;have kv:∀x m',jO m c=(some (.val x),m')->m'=m/\x.rm=true:=fun x m'=>akH
 generalize jO m c=rr at h k kv
 match rr,h,k,kv with
 |(none,m'),h,k,kv=>
  cases h;have ks:m'.steps=m.steps:=k.steps;exact⟨k.told,by show m.steps<=m'.steps;omega,fun hh=>by show m'.steps<=_;omega,fun x hx=>by(cases hx),fun _=>.inr (k.stop rfl)⟩
 |(some (.val x),m'),h,k,kv=>
  cases h;obtain⟨rfl,_⟩:=kv x m' rfl;exact⟨rfl,Int.le_refl _,fun h=>h,fun _ _=>⟨rfl,rfl,hf⟩,fun hn=>by cases hn⟩
 |(some (.go e v),m'),h,k,kv=>
  have ks:m'.steps=m.steps:=k.steps;exact(xZ n h).from k.told (by omega) (fun hh=>by omega) (k.go _ rfl)
theorem aaN{α β:Type}{P:α->β->Prop}:∀{l:List α} {m:List β} (k:Nat),kH P l m->kH P (l.take k) (m.take k)
 |_,_,0,_=>trivial
 |[],[],k+1,_=>trivial
 |a::l,b::m,k+1,h=>⟨h.1,aaN k h.2⟩
 |[],_::_,k+1,h=>h.elim
 |_::_,[],k+1,h=>h.elim
theorem aaO{n:Nat}{w:World}{S:Nat→Prop}{r md mf:Nat}{bs:List Nat}{X:Cx}{m mF:Rn}{x:Cl}{u:Value}(h:dE w S r md mf bs (X.kp []) m)(hu:kL w (Out S w) bs x u)(hv:x.rm=true)(fo:m.bA=[])(rR:(m.told.length:Int)≤m.steps)(a7:kY X n x [] m=some mF) :
   bu Tryz.prog 23 [ptr r,u] w fun _ w'=>(∃S' du,dE w' S' r md mf du (X.kp []) mF/\fh S S' w)/\Mod S w w':=by
 refine γ Tryz.f23 ?_;(try simp only[go_sem,Nat.reduceAdd,Nat.reduceEqDiff,Nat.reduceLT,Nat.reduceLeDiff,Nat.reduceMul,reduceCtorEq,↓reduceIte])
 refine io (fun z ρ w'=>Mod S w w'/\∃(S':Nat->Prop) (du:List Nat) (m':Rn) (x:Cl) (u:Value) (ws:List Nat) (vw:Value) (rows:List Value) (fp:Option Nat) (K:List (Nat×Obj)),dE w' S' r md mf du (X.kp K) m'/\fh S S' w/\kL w' (Out S' w') du x u/\x.rm=true/\tw w' w du vw ws rows fp K/\m'.bA=[]/\(m'.told.length:Int)<=m'.steps/\kY X z x ws m'=some mF /\
  ρ.get 0=some (ptr r)/\ρ.get 1=some u/\ρ.get 4=some vw) n ⟨.refl _ _,S,bs,m,x,u,[],.slice none 0 0,[],none,[],h,qz,hu,hv,⟨dP.nil _ _ _,trivial,fun b hb=>(by cases hb),fun b hb=>(by cases hb)⟩,fo,rR,a7,rfl,rfl,rfl⟩ ?_
 rintro z ρ w1 ⟨ak,S1,gk,m1,x,u,ws,vw,rows,fp,K,iy,fE,C1,AJ,GY,Ix,aqT,jY,g0,g1,g4⟩;clear h hu hv fo rR a7;have akt:m1.steps<=1048576/\0<=m1.steps:=by
  obtain⟨_,_,_,_,_,_,hh⟩:=iy;have:=hh.steps;omega
 have Sr:∀y,y=r->S1 y:=fun y hy=>by obtain⟨_,_,_,_,_,_,hx⟩:=iy;rw[hy];exact hx.aT _ (by simp)
 match z,jY with
 |0,jY=>rw[kY]at jY;cases jY
 |z+1,jY=>
 rw[kY]at jY;obtain⟨T,zz,rfl,_⟩:=Fo C1 AJ;have kP:gW ρ [.t 0]=some [ptr r]:=by simp only[gW,O.ev,g0]
 refine akG (eA (fun ρ w2=>dE w2 S1 r md mf gk (X.kp K) { m1 with steps:=m1.steps+1}/\Mod (· = r) w1 w2/\m1.steps≠X.fuel/\ρ.get 0=some (ptr r)/\ρ.get 1=some (.iface T zz)/\ρ.get 4=some vw) ?_ ?_)
 ·(try simp only[go_sem,Nat.reduceAdd,Nat.reduceEqDiff,Nat.reduceLT,Nat.reduceLeDiff,Nat.reduceMul,reduceCtorEq,↓reduceIte,g0,g1,g4]);refine aL kP ?_;refine(Z4 iy).mono ?_;rintro _ w2 ⟨rfl,gy,ai⟩;have wD:=ai.aU Sr;have bo:=oH ak fE wD;rw[aaM]at gy ⊢;rcases C7 X m1 with⟨q1,q2⟩ |⟨q1,q2⟩
  .rw[q2,if_pos rfl]at jY;rw[q2]at gy ⊢;cases jY;(try simp only[go_sem,Nat.reduceAdd,Nat.reduceEqDiff,Nat.reduceLT,Nat.reduceLeDiff,Nat.reduceMul,reduceCtorEq,↓reduceIte,g0,g1,g4,aM,RV.ev,aN]);exact⟨⟨S1,gk,gy.drop,fE⟩,bo⟩
  .rw[q2]at gy ⊢;(try simp only[go_sem,Nat.reduceAdd,Nat.reduceEqDiff,Nat.reduceLT,Nat.reduceLeDiff,Nat.reduceMul,reduceCtorEq,↓reduceIte,g0,g1,g4]);exact⟨gy,ai,q1⟩
 rintro ρ w2 ⟨gy,ai,q1,g0,g1,g4⟩;have wD:=ai.aU Sr;have bo:=oH ak fE wD;have q2:ix X m1=(true,{ m1 with steps:=m1.steps+1}):=by unfold ix;rw[if_neg q1]
 rw[q2,if_neg (by simp)]at jY;simp only at jY;have tx:=C1.up wD aW (br wD) (fun _ _ h=>h);have Bj:tw w2 w gk vw ws rows fp K:=GY.up iy gy (fun _ _ h=>h)
 refine eA (fun ρ w3=>∃(S3:Nat->Prop) (m3:Rn) (fi:List Nat) (Bk:Value) (x7:List Value) (jh:Option Nat) (K3:List (Nat×Obj)),dE w3 S3 r md mf gk (X.kp K3) m3/\fh S S3 w/\Mod S w w3/\tw w3 w gk Bk fi x7 jh K3/\m3.bA=[]/\(m3.told.length:Int)<=m3.steps/\m3.steps=m1.steps+1/\ρ.get 0=some (ptr r)/\ρ.get 4=some Bk /\
  (if 16777216<fi.length then none else match fi.getLast? with
   |none=>some { m3 with kind:=2}
   |some c=>match rp X z c m3 with
    |none=>none
    |some (none,m3)=>some m3
    |some (some y,m3)=>kY X z y fi.dropLast m3)=some mF) ?_ ?_
 .have M7 : ∀ {w3 : World} {S3 : Nat → Prop} {Bk : Value} {fi : List Nat} {x7 : List Value} {jh : Option Nat} {K3 : List (Nat × Obj)} {m3 : Rn}, dE w3 S3 r md mf gk (X.kp K3) m3 → fh S S3 w → Mod S w w3 → tw w3 w gk Bk fi x7 jh K3 → m3 = { m1 with steps := m1.steps + 1, told := m1.told ++ rq x } → fi = ws ++ (fieldsOf x).reverse →
      (∃(S3:Nat->Prop) (m3:Rn) (fi:List Nat) (aaP:Value) (x7:List Value) (jh:Option Nat) (K3:List (Nat×Obj)),dE w3 S3 r md mf gk (X.kp K3) m3/\fh S S3 w/\Mod S w w3/\tw w3 w gk aaP fi x7 jh K3/\m3.bA=[]/\(m3.told.length:Int)<=m3.steps/\m3.steps=m1.steps+1/\Bk=aaP /\
       (if 16777216<fi.length then none else match fi.getLast? with
        |none=>some { m3 with kind:=2}
        |some c=>match rp X z c m3 with
         |none=>none
         |some (none,m3)=>some m3
         |some (some y,m3)=>kY X z y fi.dropLast m3)=some mF):=fun{w3 S3 Bk fi x7 jh K3 m3} a1 a2 a3 a4 a5 a6=>by
   subst a5 a6;have Cc:(rq x).length<=1:=by cases x<;>simp[rq]
   exact⟨S3,_,_,Bk,x7,jh,K3,a1,a2,a3,a4,Ix,by simp;omega,rfl,rfl,jY⟩
  obtain⟨vt,vf,dY,cO,dm,dv,hh⟩:=gy;have rR:dY.length=m1.told.length:=hh.items.at.1;obtain⟨avt,cvt,rfl,_,_⟩:=hh.told.val;have eN:∀{w3:World} {row:List Value},Mod (fun _=>False) w2 w3->True:=fun _=>trivial
  cases x with
  |num n=>
   cases tx;(try simp only[go_sem,Nat.reduceAdd,Nat.reduceEqDiff,Nat.reduceLT,Nat.reduceLeDiff,Nat.reduceMul,reduceCtorEq,↓reduceIte,g0,g1,g4]);refine mN (D:=.int .i64) rfl rfl rfl (Tryz.zeroValue141 _) (fun _=>?_) (fun h=>absurd rfl h);(try simp only[go_sem,Nat.reduceAdd,Nat.reduceEqDiff,Nat.reduceLT,Nat.reduceLeDiff,Nat.reduceMul,reduceCtorEq,↓reduceIte,cell_of hh.box]);refine ez (cs:=#[.string bM,I n]) rfl rfl ?_;intro w3 aS aw dU;have zL:=aw.at hh.box Ψ;(try simp only[go_sem,Nat.reduceAdd,Nat.reduceEqDiff,Nat.reduceLT,Nat.reduceLeDiff,Nat.reduceMul,reduceCtorEq,↓reduceIte]);refine sN (m:=1) (news:=[.string bM,I n]) rfl (hh.told.mod aw (fun _ _ h=>h)) rfl (fun h=>by cases h) (mD (xs:=[.string bM,I n]) aS) (aP rfl (aP rfl dq)) rfl (by omega) (by omega) ?_;intro v4 w4 uJ sS aD zV;obtain⟨n1,n2,n3,n4,n5,n6,n7,n8,n9⟩:=hh.ne;have SO:=aD.at zL (fun e=>(n4 r e).1 rfl);obtain⟨SP,SQ,rfl,_,_⟩:=sS.val;(try simp only[go_sem,Nat.reduceAdd,Nat.reduceEqDiff,Nat.reduceLT,Nat.reduceLeDiff,Nat.reduceMul,reduceCtorEq,↓reduceIte]);refine eK (b:=r) (off:=1) (v:=.slice SP (dY.length+1) SQ) rfl rfl SO rfl (by simp) ?_;intro w5 bY aH eY
   obtain⟨S5,Bl,kg,sY⟩:=(hh.aI aw).tell (it:=(bM,n)) (row:=[.string bM,I n]) aD sS (fun b hb=>by
    rcases zV b hb with h |⟨h,_⟩
    ·exact .inl h
    ·exact .inr (by rw[h];exact Nat.le_refl _)) rfl aH bY
   have FC:Mod S1 w2 w5:=(aq aw).trans sY;have M8:fh S1 S5 w2:=pD qz kg aw.size;(try simp only[go_sem,Nat.reduceAdd,Nat.reduceEqDiff,Nat.reduceLT,Nat.reduceLeDiff,Nat.reduceMul,reduceCtorEq,↓reduceIte]);exact M7 Bl (pD fE M8 bo.size) (oH bo fE FC) (Bj.up ⟨_,_,_,_,_,_,hh⟩ Bl (fun _ _ h=>h)) rfl (by simp[fieldsOf])
  |bE k fs=>
   obtain⟨a,vs,e1,bT,iR⟩:=tx;cases e1;obtain⟨af,cf,rfl⟩:=bq iR;have nL:=dI iR;have k0:w2.cell? a=some (.string k):=bT.c0 (by simp);have xn:=bP hh.box;(try simp only[go_sem,Nat.reduceAdd,Nat.reduceEqDiff,Nat.reduceLT,Nat.reduceLeDiff,Nat.reduceMul,reduceCtorEq,↓reduceIte,g0,g1,g4]);refine mN (D:=.int .i64) rfl rfl rfl (Tryz.zeroValue141 _) (fun h=>by cases h) (fun _=>?_);(try simp only[go_sem,Nat.reduceAdd,Nat.reduceEqDiff,Nat.reduceLT,Nat.reduceLeDiff,Nat.reduceMul,reduceCtorEq,↓reduceIte]);refine mN (D:=.pointer 140) rfl rfl rfl (Tryz.zeroValue137 _) (fun _=>?_) (fun h=>absurd rfl h);(try simp only[go_sem,Nat.reduceAdd,Nat.reduceEqDiff,Nat.reduceLT,Nat.reduceLeDiff,Nat.reduceMul,reduceCtorEq,↓reduceIte,cell_of hh.box,k0]);refine ez (cs:=#[.string k,I 0]) rfl rfl ?_;intro w3 aS aw dU;have aw:Mod (fun _=>False) w2 w3:=aw.dG;have zL:=aw.at hh.box Ψ;refine⟨aw.bO _ xn Ψ,?_⟩;refine sN (m:=1) (news:=[.string k,I 0]) rfl (hh.told.mod aw (fun _ _ h=>h)) rfl (fun h=>by cases h) (mD (xs:=[.string k,I 0]) aS) (aP rfl (aP rfl dq)) rfl (by omega) (by omega) ?_;intro v4 w4 uJ sS aD zV;obtain⟨n1,n2,n3,n4,n5,n6,n7,n8,n9⟩:=hh.ne;have SO:=aD.at zL (fun e=>(n4 r e).1 rfl);obtain⟨SP,SQ,rfl,_,_⟩:=sS.val;(try simp only[go_sem,Nat.reduceAdd,Nat.reduceEqDiff,Nat.reduceLT,Nat.reduceLeDiff,Nat.reduceMul,reduceCtorEq,↓reduceIte]);refine eK (b:=r) (off:=1) (v:=.slice SP (dY.length+1) SQ) rfl rfl SO rfl (by simp) ?_;intro w5 bY aH eY
   obtain⟨S5,Bl,kg,sY⟩:=(hh.aI aw).tell (it:=(k,0)) (row:=[.string k,I 0]) aD sS (fun b hb=>by
    rcases zV b hb with h |⟨h,_⟩
    ·exact .inl h
    ·exact .inr (by rw[h];exact Nat.le_refl _)) rfl aH bY
   have FC:Mod S1 w2 w5:=(aq aw).trans sY;have M8:fh S1 S5 w2:=pD qz kg aw.size;have aaQ:=pD fE M8 bo.size;have jd:=oH bo fE FC;have hw5:=Bj.up ⟨_,_,_,_,_,_,hh⟩ Bl (fun _ _ h=>h);have aaR:=wo M8 FC.size;have aaS:=bT.up FC aW aaR;have akI:=iR.up FC aW aaR (fun _ _ h=>h);have k1:w5.cell? ⟨a.block,a.off+1,none⟩=some (.slice af fs.length cf):=aaS.at (k:=1) (by simp);have e1:IntKind.i64.wrap ((fs.length:Int)-1)=(fs.length:Int)-1:=dJ (by omega) (by omega);have SR:ws.length+fs.length<=16777216:=by
    apply Classical.byContradiction;intro hn;rw[if_pos (by simp[fieldsOf];omega)]at jY;cases jY
   (try simp only[go_sem,Nat.reduceAdd,Nat.reduceEqDiff,Nat.reduceLT,Nat.reduceLeDiff,Nat.reduceMul,reduceCtorEq,↓reduceIte,k1,e1])
   refine io (fun z' ρ w'=>z'<=fs.length/\∃(S':Nat->Prop) (K':List (Nat×Obj)) (vk:Value) (akJ:List Value) (dB:Option Nat),dE w' S' r md mf gk (X.kp K') { m1 with steps:=m1.steps+1,told:=m1.told++[(k,0)]}/\fh S5 S' w5/\Mod S5 w5 w'/\tw w' w gk vk (ws++(fs.drop z').reverse) akJ dB K' /\
    ρ=[(0,ptr r),(4,vk),(6,.pointer (some a)),(7,I ((z':Int)-1))]) fs.length ⟨Nat.le_refl _,S5,K,vw,rows,fp,Bl,qz,.refl _ _,by rw[List.drop_length,List.reverse_nil,List.append_nil];exact hw5,rfl⟩ ?_
   .rintro q _ w6 ⟨hq,S6,K6,v6,aqU,XQ,M9,M',pt,zi,rfl⟩
    match q,hq,zi with
    |0,hq,zi=>
     have b0:decide (((0:Nat):Int)-1>=0)=false:=by decide
     (try simp only[go_sem,Nat.reduceAdd,Nat.reduceEqDiff,Nat.reduceLT,Nat.reduceLeDiff,Nat.reduceMul,reduceCtorEq,↓reduceIte,b0]);exact M7 M9 (pD aaQ M' jd.size) (oH jd aaQ pt) zi rfl (by simp[fieldsOf])
    |q+1,hq,zi=>
     have e2:((q+1:Nat):Int)-1=(q:Int):=by omega
     have e3:IntKind.i64.wrap ((q:Int)-1)=(q:Int)-1:=dJ (by omega) (by omega);have b0:decide ((q:Int)>=0)=true:=by simp
     have aaT:=wo M' pt.size;have akK:=akI.up pt aW aaT (fun _ _ h=>h);have akL:=aaS.up pt aW aaT;have k6:w6.cell? ⟨a.block,a.off+1,none⟩=some (.slice af fs.length cf):=akL.at (k:=1) (by simp);have Bm:q<fs.length:=by omega
     obtain⟨pY,c2,r2,e4,⟨b,rfl,fN⟩,_,rX⟩:=kI akK Bm;obtain⟨rfl,-,-⟩:=cU e4;have f0:w6.cell? (pY.add q)=some (ptr b):=by have:=rX.c0 (by simp);rwa[Nat.mul_one]at this
     have p3:(0:Int)<=q/\(q:Int)<fs.length:=by omega
     (try simp only[go_sem,Nat.reduceAdd,Nat.reduceEqDiff,Nat.reduceLT,Nat.reduceLeDiff,Nat.reduceMul,reduceCtorEq,↓reduceIte,e2,b0,k6]);(try simp only[go_sem,Nat.reduceAdd,Nat.reduceEqDiff,Nat.reduceLT,Nat.reduceLeDiff,Nat.reduceMul,reduceCtorEq,↓reduceIte,bG,bH,e2,b0,k6,p3,f0]);refine ez (cs:=#[ptr b]) rfl rfl ?_;intro w7 dh aO jn;have SS:=zi.own.mod aO (fun _ _ h=>h);(try simp only[go_sem,Nat.reduceAdd,Nat.reduceEqDiff,Nat.reduceLT,Nat.reduceLeDiff,Nat.reduceMul,reduceCtorEq,↓reduceIte]);refine sN (m:=1) (news:=[ptr b]) rfl SS rfl (fun h=>by cases h) (mD (xs:=[ptr b]) dh) (aP rfl dq) rfl (by simp;omega) (by simp;omega) ?_;intro v8 w8 wE SU aZ hf8;obtain⟨S8,K8,x8,oy,uy,Na⟩:=zi.push M9 fN aO (by have:=jd.size;have:=pt.size;omega) SU aZ hf8;have e5:ws++(fs.drop (q+1)).reverse++[fs[q]]=ws++(fs.drop q).reverse:=by
      rw[Ω Bm,List.reverse_cons,List.append_assoc]
     rw[e5]at Na;(try simp only[go_sem,Nat.reduceAdd,Nat.reduceEqDiff,Nat.reduceLT,Nat.reduceLeDiff,Nat.reduceMul,reduceCtorEq,↓reduceIte,e3]);exact⟨q,Nat.lt_succ_self q,by omega,S8,K8,v8,_,wE,x8,pD M' oy pt.size,oH pt M' uy,Na,rfl⟩
  |jN e nm=>
   obtain⟨a,_,_,e1,_⟩:=tx;cases e1;(try simp only[go_sem,Nat.reduceAdd,Nat.reduceEqDiff,Nat.reduceLT,Nat.reduceLeDiff,Nat.reduceMul,reduceCtorEq,↓reduceIte,g0,g1,g4]);refine mN (D:=.int .i64) rfl rfl rfl (Tryz.zeroValue141 _) (fun h=>by cases h) (fun _=>?_);(try simp only[go_sem,Nat.reduceAdd,Nat.reduceEqDiff,Nat.reduceLT,Nat.reduceLeDiff,Nat.reduceMul,reduceCtorEq,↓reduceIte]);refine mN (D:=.pointer 140) rfl rfl rfl (Tryz.zeroValue137 _) (fun h=>by cases h) (fun _=>?_);(try simp only[go_sem,Nat.reduceAdd,Nat.reduceEqDiff,Nat.reduceLT,Nat.reduceLeDiff,Nat.reduceMul,reduceCtorEq,↓reduceIte]);exact M7 ⟨_,_,_,_,_,_,hh⟩ fE bo Bj (by simp[rq]) (by simp[fieldsOf])
  |iL k l fs=>
   obtain⟨a,_,e1,_⟩:=tx;cases e1;(try simp only[go_sem,Nat.reduceAdd,Nat.reduceEqDiff,Nat.reduceLT,Nat.reduceLeDiff,Nat.reduceMul,reduceCtorEq,↓reduceIte,g0,g1,g4]);refine mN (D:=.int .i64) rfl rfl rfl (Tryz.zeroValue141 _) (fun h=>by cases h) (fun _=>?_);(try simp only[go_sem,Nat.reduceAdd,Nat.reduceEqDiff,Nat.reduceLT,Nat.reduceLeDiff,Nat.reduceMul,reduceCtorEq,↓reduceIte]);refine mN (D:=.pointer 140) rfl rfl rfl (Tryz.zeroValue137 _) (fun h=>by cases h) (fun _=>?_);(try simp only[go_sem,Nat.reduceAdd,Nat.reduceEqDiff,Nat.reduceLT,Nat.reduceLeDiff,Nat.reduceMul,reduceCtorEq,↓reduceIte]);exact M7 ⟨_,_,_,_,_,_,hh⟩ fE bo Bj (by simp[rq]) (by simp[fieldsOf])
  |wait e nm=>cases AJ
  |busy=>cases AJ
  |emp=>cases AJ
 .rintro ρ w3 ⟨S3,m3,fi,Bk,x7,jh,K3,mP,sq,bz,x9,Nb,aqV,aqW,g0,g4,jY⟩;obtain⟨a3,c3,rfl,cT,_⟩:=x9.own.val
  have hq:(if 16777216<fi.length then none else match fi.getLast? with
   |none=>some { m3 with kind:=2}
   |some c=>match rp X z c m3 with
    |none=>none
    |some (none,m3)=>some m3
    |some (some y,m3)=>kY X z y fi.dropLast m3)=some mF:=jY
  have hlw:fi.length<=16777216:=by
   apply Classical.byContradiction;intro hn;rw[if_pos (by omega)]at hq;cases hq
  rw[if_neg (by omega)]at hq;have Sr3:∀y,y=r->S3 y:=fun y hy=>by obtain⟨_,_,_,_,_,_,hx⟩:=mP;rw[hy];exact hx.aT _ (by simp)
  cases hl:fi.getLast? with
  |none=>
   rw[hl]at hq;cases hq;have h0:=List.getLast?_eq_none_iff.1 hl;have b0:((fi.length:Int)==0)=true:=by rw[h0];try rfl
   obtain⟨vt,vf,dY,cO,dm,dv,hh⟩:=mP.drop;(try simp only[go_sem,Nat.reduceAdd,Nat.reduceEqDiff,Nat.reduceLT,Nat.reduceLeDiff,Nat.reduceMul,reduceCtorEq,↓reduceIte,g0,g4,b0]);refine eK (b:=r) (off:=0) (v:=I 2) rfl rfl hh.box rfl (by simp) ?_;intro w4 bm aD dL;(try simp only[go_sem,Nat.reduceAdd,Nat.reduceEqDiff,Nat.reduceLT,Nat.reduceLeDiff,Nat.reduceMul,reduceCtorEq,↓reduceIte,aM,RV.ev,aN]);exact⟨⟨S3,gk,⟨_,_,_,_,_,_,hh.ME (m':={ m3 with kind:=2}) aD bm rfl rfl rfl ⟨hh.steps.1,hh.steps.2.1⟩⟩,sq⟩,oH bz sq (aD.aU Sr3)⟩
  |some c=>
   rw[hl]at hq;simp only at hq;have bJ:fi≠[]:=fun e=>by rw[e]at hl;cases hl
   have BY:0<fi.length:=List.length_pos_iff.2 bJ;have b0:((fi.length:Int)==0)=false:=by
    have:¬(fi.length:Int)=0:=by omega
    simpa using this
   have e1:IntKind.i64.wrap ((fi.length:Int)-1)=((fi.length-1:Nat):Int):=by rw[dJ (by omega) (by omega)];omega
   have b1:(0:Int)<=((fi.length-1:Nat):Int)/\((fi.length-1:Nat):Int)<fi.length:=by omega
   have b3:(0:Int)<=((fi.length-1:Nat):Int)/\((fi.length-1:Nat):Int)<=c3:=by omega
   have xn:=x9.all.at.1;obtain⟨bW,cW,sp,e2,Hi,Qn,_,_⟩:=x9.own.pos BY;cases e2;have SW:fi[fi.length-1]?=some c:=by rw[<- List.getLast?_eq_getElem?];exact hl
   have hk:fi.length-1<x7.length:=by omega
   obtain⟨b,hrb,fN⟩:=x9.all.at.2 _ _ _ (Ξ hk) SW;have akM:w3.cell? ⟨bW,fi.length-1,none⟩=some (ptr b):=by
    rw[cell_of Qn];simp only[List.getElem?_toArray];rw[List.getElem?_append_left hk,Ξ hk,hrb]
   (try simp only[go_sem,Nat.reduceAdd,Nat.reduceEqDiff,Nat.reduceLT,Nat.reduceLeDiff,Nat.reduceMul,reduceCtorEq,↓reduceIte,g0,g4,b0,e1]);(try simp only[go_sem,Nat.reduceAdd,Nat.reduceEqDiff,Nat.reduceLT,Nat.reduceLeDiff,Nat.reduceMul,reduceCtorEq,↓reduceIte,bG,bH,g0,g4,b0,e1,b1,b3,aaH,ite_self,Nat.mul_one,oa,Nat.zero_add,akM]);have zT:fi.dropLast=fi.take (fi.length-1):=List.dropLast_eq_take;have lP:tw w3 w gk (.slice (some ⟨bW,0,none⟩) (fi.length-1) c3) fi.dropLast (x7.take (fi.length-1)) jh K3:=by
    refine⟨?_,by rw[zT];exact aaN _ x9.all,x9.new,x9.k1⟩;have:=aaI x9.own (k:=fi.length-1) (by omega);rw[Nat.mul_one]at this;rw[List.length_dropLast];exact this
   cases pR:rp X z c m3 with
   |none=>rw[pR]at hq;cases hq
   |some rr=>
   rw[pR]at hq;have dN:=FB pR Nb;have akN:0<=m3.steps:=by omega
   refine aL (by rfl) ?_;refine(akx mP fN (by rw[Nb];exact akN) (by rw[akA];exact pR)).mono ?_;rintro v w4 ⟨⟨S4,bs4,tq,xW,akO,lK⟩,aD⟩;have aaU:=pD sq xW bz.size;have eX:=oH bz sq aD
   match rr,hq,dN,tq,lK with
   |(none,m4),hq,dN,tq,lK=>
    have lK:v=_:=lK;subst lK;cases hq;(try simp only[go_sem,Nat.reduceAdd,Nat.reduceEqDiff,Nat.reduceLT,Nat.reduceLeDiff,Nat.reduceMul,reduceCtorEq,↓reduceIte,aM,RV.ev,aN]);exact⟨⟨S4,bs4,tq.drop,aaU⟩,eX⟩
   |(some y,m4),hq,dN,tq,⟨u4,e4,C',SX⟩=>
    subst e4;have ht4:m4.told=m3.told:=dN.told;have dL:m3.steps<=m4.steps:=dN.steps;obtain⟨_,_,zV⟩:=dN.val y rfl;have hw4:=lP.up mP tq akO;(try simp only[go_sem,Nat.reduceAdd,Nat.reduceEqDiff,Nat.reduceLT,Nat.reduceLeDiff,Nat.reduceMul,reduceCtorEq,↓reduceIte]);exact⟨_,Nat.lt_succ_self z,eX,S4,bs4,m4,y,u4,_,_,_,_,K3,tq,aaU,C',SX,hw4,zV,by rw[ht4];omega,hq,rfl,rfl⟩
end
section
open Go Go.W
theorem SY{P:Program}{w:World}{ρ:Go.W.Env}{K:Value->World->Prop}{d:Option Nat}{t:TypeId}{m x y:Operand}{ty:TypeId}{pos:String}{af:Array Edge}(h:Go.W.E.wp P w ρ K (.raw ⟨d,.mapUpdate t m x y,ty,pos,af,none⟩)):Go.W.E.wp P w ρ K (.raw ⟨d,.insert t m x y,ty,pos,af,none⟩):=h
theorem km.upm{w w':World}{S:Nat→Prop}{r md mf:Nat}{bs:List Nat}{X:Cx}{m:Rn}{vt vf:Value}{dY cO:List (List Value)}{dm dv:Option Nat}{ds:List (ByteArray×Nat)}{fs:List (ByteArray×Int)}(h:km w S r md mf bs X m vt vf dY cO dm dv)(hm:Mod (fun b=>b=md∨b=mf) w w')(hd:bQ w' md (H' bs) ds)(hf:bQ w' mf RI fs) :
   km w' S r md mf bs { X with aj:=ds,fields:=fs} m vt vf dY cO dm dv:=by
 obtain⟨n1,n2,n3,n4,n5,n6,n7,n8,n9⟩:=h.ne;have Sm:∀b,(b=md\/b=mf)->S b:=fun b hb=>by
  rcases hb with rfl |rfl<;>exact h.aT _ (by simp)
 have cA:=hm.aU Sm;refine⟨hm.at h.box (fun e=>by rcases e with e |e;exact n1 e;exact n2 e),h.told.mod hm (fun b hb e=>by rcases e with e |e;exact(n4 b hb).2.1 e.symm;exact(n4 b hb).2.2 e.symm),h.items,h.tm.mod hm (fun b hb e=>by rcases e with e |e;exact(n5 b hb).2.1 e.symm;exact(n5 b hb).2.2 e.symm),h.bA.imp (fun _ _ x=>x.up cA aW (br cA) (fun _ _ h=>h)),h.blocks,h.aT,fun b hb=>Nat.lt_of_lt_of_le (h.lt b hb) hm.size,h.len,?_,hd,hf,h.steps,fun p hp=>?_⟩
 .intro i b x hi hx;obtain⟨v,h1,h2⟩:=h.cell i b x hi hx;have eO:=List.mem_of_getElem? hi;exact⟨v,hm.at h1 (fun e=>by rcases e with e |e;exact(n6 b eO).2.1 e.symm;exact(n6 b eO).2.2 e.symm),h2.up cA aW (br cA) (fun _ _ h=>h)⟩
 .obtain⟨a1,a2,a3⟩:=h.kept p hp;exact⟨hm.at a1 (fun e=>by rcases e with e |e<;>exact a3 (by rw[e];simp)),a2,a3⟩
def fR:List Df->Nat->List (ByteArray×Nat)->List (ByteArray×Nat)
 |[],_,l=>l
 |d::ds,i,l=>fR ds (i+1) (bS l d.name i)
def uK:List Cn->List (ByteArray×Int)->List (ByteArray×Int)
 |[],l=>l
 |k::ks,l=>uK ks (bS l k.name k.fields.length)
def wF:List Dt->List (ByteArray×Int)->List (ByteArray×Int)
 |[],l=>l
 |d::ds,l=>wF ds (uK d.cons l)
abbrev Da:ByteArray:=⟨#[67,111,110,115]⟩
abbrev Iy:ByteArray:=⟨#[80,97,105,114]⟩
abbrev Iz:ByteArray:=⟨#[84,114,105,112,108,101]⟩
def wG:List (ByteArray×Int):=[(Da,2),(Iy,2),(Iz,3)]
def fH(p:Pg)(fuel:Int):Cx:={ fuel:=fuel,aj:=fR p.aj 0 [],fields:=wF p.aK wG}
def iO(p:Pg):Rn:={ cells:=p.aj.map (fun d=>Cl.wait d.body []),bA:=[],told:=[],steps:=0,kind:=0,stuck:=0}
theorem aaV{l:List Df}{i:Nat}(hi:i<l.length)(m:List (ByteArray×Nat)):fR (l.drop i) i m=fR (l.drop (i+1)) (i+1) (bS m l[i].name i):=by rw[Ω hi,fR]
theorem akP{l:List Cn}{i:Nat}(hi:i<l.length)(m:List (ByteArray×Int)):uK (l.drop i) m=uK (l.drop (i+1)) (bS m l[i].name l[i].fields.length):=by rw[Ω hi,uK]
theorem akQ{l:List Dt}{i:Nat}(hi:i<l.length)(m:List (ByteArray×Int)):wF (l.drop i) m=wF (l.drop (i+1)) (uK l[i].cons m):=by rw[Ω hi,wF]
theorem akR(p:Pg){fuel:Int}{w:World}{cs:List Value}(h:j0 w (Out (fun _=>False) w) cs p)(hf:0≤fuel∧fuel≤1048576) :
   bu Tryz.prog 19 [.agg cs.toArray,I fuel] w fun v w'=>(∃(r md mf:Nat) (S:Nat->Prop) (bs:List Nat),v=ptr r/\dE w' S r md mf bs (fH p fuel) (iO p)/\∀b,S b->w.heap.size<=b)/\Mod (fun _=>False) w w':=by
 obtain⟨vd,vf,rfl,hd,mQ⟩:=h;obtain⟨ad,cd,rfl⟩:=bq hd;obtain⟨af,cf,rfl⟩:=bq mQ;have nL:=dI mQ;have ZX:=dI hd;refine γ Tryz.f19 ?_;refine σ ?_;refine bZ rfl ?_;intro w1 au ak cw;refine σ ?_;refine pe (α:=Nat) (fun _ _=>False) ?_;intro w2 qP ai bU;refine σ ?_;refine pe (α:=Int) RI ?_;intro w3 sh aw dU;refine σ ?_;refine SY ?_;refine lW (kt:=9) (et:=3) (b:=w2.heap.size) (k:=Da) (v:=I 2) (a:=(2:Int)) rfl rfl rfl rfl rfl sh rfl ?_;intro w4 CM aD dL;refine σ ?_;refine SY ?_;refine lW (kt:=9) (et:=3) (b:=w2.heap.size) (k:=Iy) (v:=I 2) (a:=(2:Int)) rfl rfl rfl rfl rfl CM rfl ?_;intro w5 xO aH eY;refine σ ?_;refine SY ?_;refine lW (kt:=9) (et:=3) (b:=w2.heap.size) (k:=Iz) (v:=I 3) (a:=(3:Int)) rfl rfl rfl rfl rfl xO rfl ?_;intro w6 zW aG fw;refine σ ?_;refine bZ rfl ?_;intro w7 dh aO jn;have m13:Mod (fun _=>False) w w3:=(ak.trans ai).trans aw;have z1:w1.heap.size=w.heap.size+1:=cw;have z2:w2.heap.size=w1.heap.size+1:=bU;have z3:w3.heap.size=w2.heap.size+1:=dU;have z6:w6.heap.size=w3.heap.size:=by omega
 have Db:Mod (· = w2.heap.size) w3 w6:=(aD.trans aH).trans aG;have ya:Mod (fun _=>False) w w7:=(m13.step Db (fun b hb hl=>by omega)).trans aO;have akS:=(((qP.mod aw Ψ (fun _ _ h=>h)).mod Db (fun e=>by omega) (fun _ _ h=>h)).mod aO Ψ (fun _ _ h=>h):bQ w7 w1.heap.size (fun _ _=>False) []);have akT:bQ w7 w2.heap.size RI wG:=zW.mod aO Ψ (fun _ _ h=>h);have hR0:km w7 (fun b=>b=w6.heap.size\/b=w1.heap.size\/b=w2.heap.size) w6.heap.size w1.heap.size w2.heap.size [] { fuel:=fuel,aj:=[],fields:=wG} { cells:=[],bA:=[],told:=[],steps:=0,kind:=0,stuck:=0} (.slice none 0 0) (.slice none 0 0) [] [] none none:=by
  refine⟨dh,dP.nil _ _ _,trivial,dP.nil _ _ _,trivial,?_,?_,?_,rfl,fun i b x hi=>by simp at hi,?_,akT,⟨Int.le_refl _,hf.1,hf.2⟩,fun p hp=>by cases hp⟩
  .simp[mn];omega
  .intro b hb;simp[mn]at hb;exact hb
  .have z7:w7.heap.size=w6.heap.size+1:=jn;rintro b (rfl |rfl |rfl)<;>omega
  .obtain⟨lv,hv,hp⟩:=akS;cases hp;exact⟨[],hv,.nil⟩
 have sg:w7.heap[w.heap.size]?=some (.cells [.slice ad p.aK.length cd,.slice af p.aj.length cf].toArray 25 (0,0)):=by
  refine aO.at (Db.at ((ai.trans aw).at au Ψ) (fun e=>by omega)) Ψ
 simp only[go_sem,simprocAttr,cell_of sg]
 refine io (fun z ρ w'=>∃(i:Nat) (S':Nat->Prop) (du:List Nat) (ds:List (ByteArray×Nat)),z=p.aj.length-i/\i<=p.aj.length/\dE w' S' w6.heap.size w1.heap.size w2.heap.size du { fuel:=fuel,aj:=ds,fields:=wG} { cells:=(p.aj.take i).map (fun d=>Cl.wait d.body []),bA:=[],told:=[],steps:=0,kind:=0,stuck:=0}/\(∀b,S' b->w1.heap.size<=b)/\Mod (fun _=>False) w w'/\w'.heap[w.heap.size]?=some (.cells [.slice ad p.aK.length cd,.slice af p.aj.length cf].toArray 25 (0,0))/\fR p.aj 0 []=fR (p.aj.drop i) i ds /\
  ρ=[(2,ptr w.heap.size),(5,ptr w6.heap.size),(19,I p.aj.length),(20,I i)]) p.aj.length ⟨0,_,[],[],by omega,by omega,⟨_,_,_,_,_,_,hR0⟩,?_,ya,sg,rfl,rfl⟩ ?_
 .rintro b (rfl |rfl |rfl)<;>omega
 rintro z _ w8 ⟨i,S8,zX,ds,rfl,hi,x8,Nc,aZ,dW,eT,rfl⟩;by_cases q:i<p.aj.length
 .have b1:decide ((i:Int)<p.aj.length)=true:=by simpa using q
  have p1:(0:Int)<=i/\(i:Int)<p.aj.length:=by omega
  have ga:∀{w':World} {S':Nat->Prop},Mod (fun _=>False) w w'->(∀b,S' b->w1.heap.size<=b)->∀b,Out (fun _=>False) w b->Out S' w' b:=fun hm hs b hb=>⟨Nat.lt_of_lt_of_le hb.1 hm.size,fun hh=>by have:=hs b hh;have:=hb.1;omega⟩
  have hd8:=mQ.up aZ aA (ga aZ Nc) (fun _ _ h=>h.up aZ aA (ga aZ Nc));obtain⟨pY,c2,rr,e1,SZ,xU,bT⟩:=kI hd8 q;obtain⟨rfl,-,-⟩:=cU e1;obtain⟨vp,tc,bc,rfl,uu,lbc,_,_,jl,_⟩:=SZ;have c0:w8.cell? (pY.add (i*12))=some (.string p.aj[i].name):=bT.c0 (by simp)
  have hbp:iU w8 (Out S8 w8) ⟨(pY.add (i*12)).block,(pY.add (i*12)).off+5,none⟩ bc:=bT.part (fun j hj=>by
   rw[show 5+j=(j+3)+1+1 by omega];simp only[List.getElem?_cons_succ];rw[List.getElem?_append_right (by omega),uu,Nat.add_sub_cancel]
   exact Ξ hj) (by decide)
  have lc:=np c0;obtain⟨Rk,rA,tr',gK,tf',ff',IA⟩:=x8;have ny:zX.length=i:=by rw[IA.len];simp;omega
  simp only[go_sem,simprocAttr,b1];simp only[go_sem,simprocAttr,bG,bH,cell_of dW,cell_of IA.box,p1,c0];have l8:=bP dW;have lr8:=bP IA.box;refine bZ rfl ?_;intro w9 di akU gx;have aQ:Mod (fun _=>False) w8 w9:=akU.dG;refine⟨⟨aQ.bO _ lc Ψ,aQ.bO _ l8 Ψ,aQ.bO _ lr8 Ψ⟩,?_⟩;have z9:w9.heap.size=w8.heap.size+1:=gx;have z8:=aZ.size;refine σ ?_;refine bZ rfl ?_;intro cD eM bD ou;refine⟨⟨bD.bO _ (by omega) Ψ,bD.bO _ (by omega) Ψ,bD.bO _ (by omega) Ψ⟩,?_⟩;have jK:=aQ.trans bD;have kV:∀b,b<w8.heap.size->aY S8 w9.heap.size b->S8 b:=fZ (by omega);have Em:¬aY S8 w9.heap.size w8.heap.size:=by
   rintro(hx |hx)
   .have:=IA.lt _ hx;omega
   .omega
  have Dc:=(dE.aI ⟨_,_,_,_,_,_,IA⟩ aQ).new (x:=.wait p.aj[i].body []) (v:=.iface 131 (ptr w8.heap.size)) bD eM (Nat.le_refl _) ⟨_,_,_,rfl,Z9 (S:=aY S8 w9.heap.size) (cs:=[.pointer (some ⟨(pY.add (i*12)).block,(pY.add (i*12)).off+5,none⟩),.pointer none]) di bD Em,⟨_,bc,rfl,hbp.up (aq jK (S:=S8)) aW (fM (aq jK) kV),jl.up (aq jK (S:=S8)) aW (fM (aq jK) kV)⟩,rfl⟩;obtain⟨vt,vf,trr,frr,dm,dv,Nf⟩:=Dc;have AX:(zX++[w9.heap.size])[i]?=some w9.heap.size:=by rw[<- ny,List.getElem?_append_right (Nat.le_refl _)];simp
  refine σ ?_;refine lW (kt:=9) (et:=88) (b:=w1.heap.size) (k:=p.aj[i].name) (v:=ptr w9.heap.size) (a:=i) rfl rfl rfl rfl rfl Nf.aj ⟨_,rfl,AX⟩ ?_;intro eE akV cI um;have e3:IntKind.i64.wrap ((i:Int)+1)=((i+1:Nat):Int):=by rw[dJ (by omega) (by omega)];omega
  have bJ:=Nf.ne;have akW:=Nf.upm (cI.aU (fun b hb=>.inl hb)) akV (Nf.fields.mod cI (fun e=>bJ.2.2.1 e.symm) (fun _ _ x=>x));have etk:(p.aj.take (i+1)).map (fun d=>Cl.wait d.body [])=(p.aj.take i).map (fun d=>Cl.wait d.body [])++[Cl.wait p.aj[i].body []]:=by
   rw[List.take_succ_eq_append_getElem q,List.map_append];try rfl
  simp only[go_sem,simprocAttr,e3];refine⟨_,by omega,i+1,_,_,_,rfl,q,⟨_,_,_,_,_,_,by rw[etk];exact akW⟩,?_,?_,?_,?_,rfl⟩
  .rintro b (hb |hb)
   .exact Nc b hb
   .omega
  .exact(aZ.trans jK).step cI (fun b hb hl=>by omega)
  .exact cI.at (jK.at dW Ψ) (fun e=>by omega)
  .rw[eT,aaV q]
 .have b1:decide ((i:Int)<p.aj.length)=false:=by simpa using q
  have hi2:i=p.aj.length:=by omega
  subst hi2;rw[List.drop_length,fR]at eT;rw[List.take_length]at x8;simp only[go_sem,simprocAttr,b1,cell_of dW];have ga:∀{w':World},Mod (fun _=>False) w w'->∀b,Out (fun _=>False) w b->Out (fun _=>False) w' b:=fun hm b hb=>⟨Nat.lt_of_lt_of_le hb.1 hm.size,hb.2⟩
  refine io (fun z ρ w'=>∃(i:Nat) (fs:List (ByteArray×Int)),z=p.aK.length-i/\i<=p.aK.length/\dE w' S8 w6.heap.size w1.heap.size w2.heap.size zX { fuel:=fuel,aj:=ds,fields:=fs} (iO p)/\Mod (fun _=>False) w w'/\wF p.aK wG=wF (p.aK.drop i) fs /\
   ρ=[(5,ptr w6.heap.size),(45,.slice ad p.aK.length cd),(46,I p.aK.length),(47,I i)]) p.aK.length ⟨0,wG,by omega,by omega,x8,aZ,rfl,rfl⟩ ?_
  rintro z _ w9 ⟨i,fs,rfl,hi3,Ng,aQ,iR,rfl⟩;by_cases q2:i<p.aK.length
  .have b2:decide ((i:Int)<p.aK.length)=true:=by simpa using q2
   have p2:(0:Int)<=i/\(i:Int)<p.aK.length:=by omega
   have e3:IntKind.i64.wrap ((i:Int)+1)=((i+1:Nat):Int):=by rw[dJ (by omega) (by omega)];omega
   obtain⟨pY,c2,rr,e1,⟨vp,vc,rfl,iw,Dd⟩,cG,bT⟩:=kI hd q2;obtain⟨rfl,-,-⟩:=cU e1;obtain⟨ac,cc,rfl⟩:=bq Dd;have uf:=dI Dd;obtain⟨ap,cp,rfl⟩:=bq iw;have cR:=vx cG (bT.up aQ aA (ga aQ)).2;simp only[go_sem,simprocAttr,b2];simp only[go_sem,simprocAttr,bG,bH,p2,cR];refine cX ?_;intro cD eM bD ou;refine σ ?_;refine bN (vs:=[.string p.aK[i].name,.slice ap p.aK[i].params.length cp,.slice ac p.aK[i].cons.length cc]) (cs:=[.string bM,.slice none 0 0,.slice none 0 0]) rfl rfl eM rfl rfl (aP rfl (aP rfl (aP rfl dq))) ?_;intro eE hZ cI um;have Fi:Mod (fun _=>False) w9 eE:=bD.step cI (fun b hb hl=>by have e:b=w9.heap.size:=hb;omega);simp only[go_sem,simprocAttr,cell_of hZ]
   refine io (fun z ρ w'=>∃(k:Nat) (IB:List (ByteArray×Int)),z=p.aK[i].cons.length-k/\k<=p.aK[i].cons.length/\dE w' S8 w6.heap.size w1.heap.size w2.heap.size zX { fuel:=fuel,aj:=ds,fields:=IB} (iO p)/\Mod (fun _=>False) w w'/\uK p.aK[i].cons fs=uK (p.aK[i].cons.drop k) IB /\
    ρ=[(5,ptr w6.heap.size),(45,.slice (some pY) p.aK.length cd),(46,I p.aK.length),(47,I i),(52,.slice ac p.aK[i].cons.length cc),(53,I p.aK[i].cons.length),(54,I k)]) p.aK[i].cons.length ⟨0,fs,by omega,by omega,Ng.aI Fi,aQ.trans Fi,rfl,rfl⟩ ?_
   rintro z _ dQ ⟨k,IB,rfl,rZ,aaW,ei,Ta,rfl⟩;by_cases q3:k<p.aK[i].cons.length
   .have b3:decide ((k:Int)<p.aK[i].cons.length)=true:=by simpa using q3
    have p3:(0:Int)<=k/\(k:Int)<p.aK[i].cons.length:=by omega
    have e4:IntKind.i64.wrap ((k:Int)+1)=((k+1:Nat):Int):=by rw[dJ (by omega) (by omega)];omega
    obtain⟨Yl,c3,rr3,e5,⟨vf3,rfl,iu,_⟩,gX,uB⟩:=kI Dd q3;obtain⟨rfl,-,-⟩:=cU e5;obtain⟨af3,cf3,rfl⟩:=bq iu;have Tb:=vx gX (uB.up ei aA (ga ei)).2;simp only[go_sem,simprocAttr,b3];simp only[go_sem,simprocAttr,bG,bH,p3,Tb];refine cX ?_;intro iP si gH De;refine σ ?_;refine bN (vs:=[.string p.aK[i].cons[k].name,.slice af3 p.aK[i].cons[k].fields.length cf3]) (cs:=[.string bM,.slice none 0 0]) rfl rfl si rfl rfl (aP rfl (aP rfl dq)) ?_;intro su gD gj aaX;have aaY:Mod (fun _=>False) dQ su:=gH.step gj (fun b hb hl=>by have e:b=dQ.heap.size:=hb;omega);obtain⟨vt,vf,trr,frr,dm,dv,IC⟩:=aaW.aI aaY;have d14:Mod (fun _=>False) su su.drew:=(Mod.refl _ _).drew;simp only[go_sem,simprocAttr,cell_of gD,cell_of IC.box];refine lW (kt:=9) (et:=3) (b:=w2.heap.size) (k:=p.aK[i].cons[k].name) (v:=I p.aK[i].cons[k].fields.length) (a:=(p.aK[i].cons[k].fields.length:Int)) rfl rfl rfl rfl rfl (IC.aI d14).fields rfl ?_;intro jA akX ki Td;have akY:=(IC.aI d14).upm (ki.aU (fun b hb=>.inr hb)) ((IC.aI d14).aj.mod ki (fun e=>IC.ne.2.2.1 e) (fun _ _ x=>x)) akX;simp only[go_sem,simprocAttr,e4];have aqX:w.heap.size<=w2.heap.size:=by omega
    exact⟨_,by omega,k+1,_,rfl,q3,⟨_,_,_,_,_,_,akY⟩,(ei.trans (aaY.trans d14)).step ki (fun b hb hl=>by have e:b=w2.heap.size:=hb;omega),by rw[Ta,akP q3],rfl⟩
   .have b3:decide ((k:Int)<p.aK[i].cons.length)=false:=by simpa using q3
    have pX:k=p.aK[i].cons.length:=by omega
    subst pX;rw[List.drop_length,uK]at Ta;simp only[go_sem,simprocAttr,b3,e3];exact⟨_,by omega,i+1,IB,rfl,q2,aaW,ei,by rw[iR,akQ q2,Ta],rfl⟩
  .have b2:decide ((i:Int)<p.aK.length)=false:=by simpa using q2
   have hi4:i=p.aK.length:=by omega
   subst hi4;rw[List.drop_length,wF]at iR;simp only[go_sem,simprocAttr,b2,aM,RV.ev,aN];have hX:fH p fuel = { fuel:=fuel,aj:=ds,fields:=fs}:=by unfold fH;rw[eT,iR]
   exact⟨⟨w6.heap.size,w1.heap.size,w2.heap.size,S8,zX,rfl,by rw[hX];exact Ng,fun b hb=>by have:=Nc b hb;omega⟩,aQ⟩
end
section
open Go Go.W
theorem akZ{w:World}{S:Nat->Prop}{bs:List Nat}{b T c i j x y:Nat}(hb:w.heap[b]?=some (.cells [ptr x,ptr y].toArray T (0,0)))(hS:¬S b)(hi:bs[i]?=some x)(hj:bs[j]?=some y):zJ w (Out S w) bs [i,j] (.slice (some ⟨b,0,none⟩) 2 c):=by
 refine⟨[[ptr x],[ptr y]],⟨⟨_,c,rfl,fun _ ad e=>by cases e;exact⟨bP hb,hS⟩,fun k hk=>⟨_,rfl,?_,?_⟩⟩,by simp⟩,rfl,?_⟩
 .match k,hk with
  |0,_=>rfl
  |1,_=>rfl
 .intro q hq;rw[oa,oa,cell_of hb]
  match k,hk,q,hq with
  |0,_,0,_=>rfl
  |1,_,0,_=>rfl
  |0,_,q+1,hq=>simp at hq
  |1,_,q+1,hq=>simp at hq
 .intro k r c hr hc
  match k with
  |0=>simp only[List.getElem?_cons_zero,Option.some.injEq]at hr hc;subst hr hc;exact⟨x,rfl,hi⟩
  |1=>simp only[List.getElem?_cons_succ,List.getElem?_cons_zero,Option.some.injEq]at hr hc;subst hr hc;exact⟨y,rfl,hj⟩
  |k+2=>simp at hr
def Rn.ls(m:Rn)(l:List Int):Rn:={ m with cells:=(kj l m.cells).2}
theorem aaZ(l:List Int)(cs:List Cl):∃n fs,(kj l cs).1=.bE n fs:=by
 cases l with
 |nil=>exact⟨_,_,rfl⟩
 |cons n l=>exact⟨_,_,rfl⟩
theorem aa0(m:Rn)(n:Int)(l:List Int):m.ls (n::l)=(((m.ls l).new (.num n)).new (kj l m.cells).1):=by
 unfold Rn.ls Rn.new;simp[kj]
theorem ak0{input:List Int}{v:Value}{w:World}{S:Nat→Prop}{r md mf:Nat}{bs:List Nat}{X:Cx}{m:Rn}(h:dE w S r md mf bs X m)(hi:yQ w v input) :
   bu Tryz.prog 22 [v] w fun u w'=>(∃S' du,dE w' S' r md mf du X (m.ls input)/\fh S S' w/\(∀(c b:Nat),bs[c]?=some b->du[c]?=some b)/\kL w' (Out S' w') du (kj input m.cells).1 u)/\Mod (fun _=>False) w w':=by
 obtain⟨av,cv,rfl,hle,_⟩:=hi;rename_i Te;refine γ Tryz.f22 ?_;refine φ ?_;refine bZ rfl ?_;intro w1 au ak cw;have e1:IntKind.i64.wrap ((input.length:Int)-1)=(input.length:Int)-1:=dJ (by omega) (by omega);simp only[go_sem,Nat.reduceAdd,Nat.reduceEqDiff,Nat.reduceLT,Nat.reduceLeDiff,Nat.reduceMul,reduceCtorEq,↓reduceIte,e1];have hS:=h;obtain⟨_,_,_,_,_,_,hh⟩:=hS
 refine io (fun k ρ w'=>k<=input.length/\∃(S':Nat->Prop) (du:List Nat) (u:Value),dE w' S' r md mf du X (m.ls (input.drop k))/\fh S S' w/\(∀(c b:Nat),bs[c]?=some b->du[c]?=some b)/\kL w' (Out S' w') du (kj (input.drop k) m.cells).1 u/\Mod (fun _=>False) w w' /\
  ρ=[(0,.slice av input.length cv),(3,u),(4,I ((k:Int)-1))]) input.length ⟨Nat.le_refl _,S,bs,.iface 137 (ptr w.heap.size),?_,qz,fun _ _ h=>h,?_,ak,rfl⟩ ?_
 .rw[List.drop_length];exact h.aI ak
 .rw[List.drop_length];exact⟨_,_,rfl,wq (cs:=[.string ⟨#[78,105,108]⟩,.slice none 0 0]) au (fun hx=>by have:=hh.lt _ hx;omega),eB _ _ _ _⟩
 .rintro k _ w2 ⟨hk,S2,wy,u,gy,iF,aa1,tx,ai,rfl⟩
  match k,hk,gy,tx with
  |0,hk,gy,tx=>
   have b0:decide (((0:Nat):Int)-1>=0)=false:=by decide
   simp only[go_sem,Nat.reduceAdd,Nat.reduceEqDiff,Nat.reduceLT,Nat.reduceLeDiff,Nat.reduceMul,reduceCtorEq,↓reduceIte,b0,aM,RV.ev,aN];exact⟨⟨S2,wy,gy,iF,aa1,tx⟩,ai⟩
  |k+1,hk,gy,tx=>
   have hkl:k<input.length:=by omega
   obtain⟨ad,rfl,hc⟩:=Te k hkl;have gv:=ai.cell hc Ψ;have e2:((k+1:Nat):Int)-1=(k:Int):=by omega
   have e3:IntKind.i64.wrap ((k:Int)-1)=(k:Int)-1:=dJ (by omega) (by omega);have b0:decide ((k:Int)>=0)=true:=by simp
   have p1:(0:Int)<=k/\(k:Int)<input.length:=by omega
   obtain⟨kn,kf,lC⟩:=aaZ (input.drop (k+1)) m.cells;obtain⟨T,z,Ik,_⟩:=Fo tx (by rw[lC];try rfl);subst Ik;simp only[go_sem,Nat.reduceAdd,Nat.reduceEqDiff,Nat.reduceLT,Nat.reduceLeDiff,Nat.reduceMul,reduceCtorEq,↓reduceIte,e2,b0];simp only[go_sem,Nat.reduceAdd,Nat.reduceEqDiff,Nat.reduceLT,Nat.reduceLeDiff,Nat.reduceMul,reduceCtorEq,↓reduceIte,bG,bH,e2,b0,p1,gv];refine bZ rfl ?_;intro w3 aS aw dU;have mP:=gy.new (x:=.num input[k]) (v:=.iface 141 (I input[k])) aw aS (Nat.le_refl _) rfl;have Il:=tx.up (aq aw (S:=S2)) aW (fM (aq aw) (fZ (Nat.le_refl _))) (pB (b:=w2.heap.size));refine φ ?_;refine bZ rfl ?_;intro w4 bm aD dL;have tq:=mP.new (x:=(kj (input.drop (k+1)) m.cells).1) (v:=.iface T z) aD bm (Nat.le_refl _) (Il.up (aq aD (S:=aY S2 w2.heap.size)) aW (fM (aq aD) (fZ (Nat.le_refl _))) pB);refine φ ?_;refine ez (cs:=#[ptr w2.heap.size,ptr w3.heap.size]) rfl rfl ?_;intro w5 bY aH eY;refine φ ?_;refine bZ rfl ?_;intro w6 cH aG fw;simp only[go_sem,Nat.reduceAdd,Nat.reduceEqDiff,Nat.reduceLT,Nat.reduceLeDiff,Nat.reduceMul,reduceCtorEq,↓reduceIte,e3];have aa2:input.drop k=input[k]::input.drop (k+1):=Ω hkl;have Tf:m.ls (input.drop k)=((m.ls (input.drop (k+1))).new (.num input[k])).new (kj (input.drop (k+1)) m.cells).1:=by rw[aa2,aa0]
   have z2:=ai.size;have Rj:w3.heap.size=w2.heap.size+1:=dU;have Ro:w4.heap.size=w3.heap.size+1:=dL;have z45:w5.heap.size=w4.heap.size+1:=eY
   have xW:fh S (aY (aY S2 w2.heap.size) w3.heap.size) w:=⟨fun b hb=>.inl (.inl (iF.1 b hb)),fun b hb=>by
    rcases hb with(h |h) |h
    ·exact iF.2 b h
    ·right;omega
    ·right;omega⟩
   have aa3:∀b,S2 b->b<w2.heap.size:=by obtain⟨_,_,_,_,_,_,hx⟩:=gy;exact hx.lt
   have Bb:wy.length=(m.ls (input.drop (k+1))).cells.length:=by obtain⟨_,_,_,_,_,_,hx⟩:=gy;exact hx.len
   have Em:∀x,w4.heap.size<=x->¬(aY (aY S2 w2.heap.size) w3.heap.size) x:=fun x hx hh=>by
    rcases hh with(h |h) |h
    .have:=aa3 _ h;omega
    .omega
    .omega
   refine⟨k,Nat.lt_succ_self k,by omega,aY (aY S2 w2.heap.size) w3.heap.size,wy++[w2.heap.size]++[w3.heap.size],_,?_,xW,fun c b h=>pB _ _ (pB _ _ (aa1 c b h)),?_,(ai.trans (aw.trans aD)).trans (aH.trans aG),rfl⟩
   .rw[Tf];exact(tq.aI aH).aI aG
   .rw[aa2];refine⟨_,_,rfl,wq (cs:=[.string ⟨#[67,111,110,115]⟩,.slice (some ⟨w4.heap.size,0,none⟩) 2 2]) cH (Em _ (by omega)),akZ (aG.at bY Ψ) (Em _ (Nat.le_refl _)) ?_ ?_⟩
    .show(wy++[w2.heap.size]++[w3.heap.size])[(kj (input.drop (k+1)) m.cells).2.length]?=_;have:(kj (input.drop (k+1)) m.cells).2.length=wy.length:=by rw[Bb];try rfl
     rw[this,List.append_assoc,List.getElem?_append_right (Nat.le_refl _)];simp
    .show(wy++[w2.heap.size]++[w3.heap.size])[(kj (input.drop (k+1)) m.cells).2.length+1]?=_;have:(kj (input.drop (k+1)) m.cells).2.length=wy.length:=by rw[Bb];try rfl
     rw[this,List.append_assoc,List.getElem?_append_right (by omega)];simp
end
section
open Go Go.W
abbrev wH:=Ty->cE->Option (Bool×cE)
def pF(f:wH):List Ty->cE->Option (Bool×cE)
 |[],s=>some (true,s)
 |t::l,s=>match f t s with
  |none=>none
  |some (false,s')=>some (false,s')
  |some (true,s')=>pF f l s'
def wI(f:wH):List Cn->cE->Option (Bool×cE)
 |[],s=>some (true,s)
 |k::l,s=>match pF f k.fields s with
  |none=>none
  |some (false,s')=>some (false,s')
  |some (true,s')=>wI f l s'
def sv(f:wH)(n:ByteArray):List Dt->cE->Option (Bool×cE)
 |[],s=>some (true,s)
 |d::l,s=>if d.name≠n then sv f n l s else match wI f d.cons s with
  |none=>none
  |some (false,s')=>some (false,s')
  |some (true,s')=>sv f n l s'
def lg(ds:List Dt):Nat->wH
 |0=>fun _ _=>none
 |n+1=>fun t s=>if t.kind=3 then some (false,s)else match pF (lg ds n) t.args s with
  |none=>none
  |some (false,s')=>some (false,s')
  |some (true,s')=>if t.kind≠4\/(aJ s' t.name).getD 0>0 then some (true,s')else sv (lg ds n) t.name ds (bS s' t.name 1)
theorem aa4{f:wH}{l:List Ty}{i:Nat}(hi:i < l.length)(s:cE):pF f (l.drop i) s=match f l[i] s with
   |none=>none
   |some (false,s')=>some (false,s')
   |some (true,s')=>pF f (l.drop (i+1)) s':=by rw[Ω hi,pF]
theorem ak1{f:wH}{l:List Cn}{i:Nat}(hi:i < l.length)(s:cE):wI f (l.drop i) s=match pF f l[i].fields s with
   |none=>none
   |some (false,s')=>some (false,s')
   |some (true,s')=>wI f (l.drop (i+1)) s':=by rw[Ω hi,wI]
theorem ak2{f:wH}{n:ByteArray}{l:List Dt}{i:Nat}(hi:i < l.length)(s:cE):sv f n (l.drop i) s=if l[i].name≠n then sv f n (l.drop (i+1)) s else match wI f l[i].cons s with
   |none=>none
   |some (false,s')=>some (false,s')
   |some (true,s')=>sv f n (l.drop (i+1)) s':=by rw[Ω hi,sv]
theorem Tg(p:Pg):∀ (n:Nat) (t:Ty) {s s':cE} {b:Bool} {w:World} {B:Nat→Prop} {cs ct:List Value} {sm:Nat},j0 w B cs p→aR w B ct t→bQ w sm RI s→¬ B sm→lg p.aK n t s=some (b,s') →
   bu Tryz.prog 43 [.agg cs.toArray,.agg ct.toArray,.map (some sm)] w fun v w'=>v=.bool b/\bQ w' sm RI s'/\Mod (· = sm) w w'
 |0,t,s,s',b,w,B,cs,ct,sm,hp,ht,hm,hB,h=>by rw[lg]at h;cases h
 |n+1,t,s,s',b,w,B,cs,ct,sm,hp,ht,hm,hB,h=>by
  have HT:=hp;have lts:sm<w.heap.size:=by obtain⟨lv,⟨es,c,h1,_⟩,_⟩:=hm;exact bP h1
  obtain⟨vd,vf,rfl,hd,_⟩:=hp;obtain⟨ad,cd,rfl⟩:=bq hd;have ZX:=dI hd;obtain⟨va,rfl,hl⟩:=ht.cells;obtain⟨aa,ca,rfl⟩:=bq hl;have EO:=dI hl;have Bn:∀b,B b->¬(b=sm):=fun b hb e=>hB (by rw[<- e];exact hb)
  have h:(if t.kind=3 then some (false,s)else match pF (lg p.aK n) t.args s with
   |none=>none
   |some (false,s')=>some (false,s')
   |some (true,s')=>if t.kind≠4\/(aJ s' t.name).getD 0>0 then some (true,s')else sv (lg p.aK n) t.name p.aK (bS s' t.name 1))=some (b,s'):=h
  refine γ Tryz.f43 ?_;refine eA (fun ρ w2=>∃b3 b4,w.heap.size<=b3/\w.heap.size<=b4/\w2.heap[b3]?=some (.cells [.slice ad p.aK.length cd,vf].toArray 25 (0,0))/\w2.heap[b4]?=some (.cells [I t.kind,.string t.name,.slice aa t.args.length ca].toArray 52 (0,0))/\Mod (fun _=>False) w w2/\ρ=[(2,.map (some sm)),(3,ptr b3),(4,ptr b4)]) ?_ ?_
  .refine σ ?_;refine bZ rfl ?_;intro w1 au ak cw;refine σ ?_;refine bZ rfl ?_;intro w2 az ai bU;refine σ ?_;exact⟨w.heap.size,w1.heap.size,Nat.le_refl _,ak.size,ai.at au Ψ,az,ak.trans ai,rfl⟩
  rintro _ w2 ⟨b3,b4,l3,l4,aS,bm,kN,rfl⟩;have m2:Mod (· = sm) w w2:=kN.aU (fun _ h=>h.elim);have Cm:=hm.mod kN Ψ (fun _ _ x=>x);have later:∀{w':World},Mod (· = sm) w w'->∀{w3:World},True:=fun _=>trivial
  have box:∀{w':World},Mod (· = sm) w2 w'->w'.heap[b3]?=some (.cells [.slice ad p.aK.length cd,vf].toArray 25 (0,0))/\w'.heap[b4]?=some (.cells [I t.kind,.string t.name,.slice aa t.args.length ca].toArray 52 (0,0))/\Mod (· = sm) w w':=fun hm=>⟨hm.at aS (fun e=>by omega),hm.at bm (fun e=>by omega),m2.trans hm⟩
  cases hk:t.kind == 3 with
  |true=>
   rw[if_pos (by simpa using hk)]at h;cases h;simp only[go_sem,simprocAttr,cell_of bm,hk,aM,RV.ev,aN];exact⟨Cm,m2⟩
  |false=>
   rw[if_neg (by simpa using hk)]at h;refine eA (fun ρ w'=>w2=w'/\ρ.get 2=some (.map (some sm))/\ρ.get 3=some (ptr b3)/\ρ.get 4=some (ptr b4)) ?_ ?_
   .simp only[go_sem,simprocAttr,cell_of bm,hk]
   rintro ρ _ ⟨rfl,g2,g3,g4⟩;cases ff:pF (lg p.aK n) t.args s with
   |none=>rw[ff]at h;cases h
   |some bs=>
   obtain⟨bb,ss⟩:=bs;rw[ff]at h;refine eA (fun ρ w'=>bb=true/\bQ w' sm RI ss/\Mod (· = sm) w2 w'/\ρ.get 2=some (.map (some sm))/\ρ.get 3=some (ptr b3)/\ρ.get 4=some (ptr b4)) ?_ ?_
   .simp only[go_sem,simprocAttr,g2,g3,g4,cell_of bm];refine io (fun z ρ w'=>∃(i:Nat) (s1:cE),z=t.args.length-i/\i<=t.args.length/\pF (lg p.aK n) (t.args.drop i) s1=some (bb,ss)/\bQ w' sm RI s1/\Mod (· = sm) w2 w'/\ρ.get 2=some (.map (some sm))/\ρ.get 3=some (ptr b3)/\ρ.get 4=some (ptr b4)/\ρ.get 19=some (.slice aa t.args.length ca)/\ρ.get 20=some (I t.args.length)/\ρ.get 21=some (I i)) t.args.length ⟨0,s,by omega,by omega,ff,Cm,.refl _ _,rfl,rfl,rfl,rfl,rfl,rfl⟩ ?_;rintro z ρ w3 ⟨i,s1,rfl,hi,fI,xw,m23,g2,g3,g4,g19,g20,g21⟩;by_cases q:i<t.args.length
    .have b1:decide ((i:Int)<t.args.length)=true:=by simpa using q
     have p1:(0:Int)<=i/\(i:Int)<t.args.length:=by omega
     obtain⟨ak3,Dg,m3⟩:=box m23;have cG:=hl.mod m3 Bn (fun _ _ h=>h.mod m3 Bn);obtain⟨uF,c1,r1,e1,Bo,xn,cR,_⟩:=dT cG q;obtain⟨rfl,-,-⟩:=cU e1;simp only[go_sem,simprocAttr,g2,g3,g4,g19,g20,g21,b1];simp only[go_sem,simprocAttr,bG,bH,p1,cR];rw[aa4 q]at fI;refine cX ?_;intro w4 Hz aD dL;have nu:=Bo.len;obtain⟨vr,er,aqY⟩:=Bo.cells;refine σ ?_;refine bN (vs:=r1) (cs:=[I 0,.string bM,.slice none 0 0]) rfl rfl Hz nu rfl Bo.one ?_;intro w5 bY aH eY;have Th:Mod (fun _=>False) w3 w5:=aD.step aH (fun b hb hl=>by have e:b=w3.heap.size:=hb;omega);have Bp:Mod (· = sm) w2 w5:=m23.trans (Th.aU (fun _ h=>h.elim));obtain⟨aa5,ak4,m5⟩:=box Bp;cases Dh:lg p.aK n t.args[i] s1 with
     |none=>rw[Dh]at fI;cases fI
     |some bs=>
     obtain⟨b6,s6⟩:=bs;rw[Dh]at fI;simp only[go_sem,simprocAttr,aE (n:=2) (cs:=[.slice ad p.aK.length cd,vf]) aa5 rfl,aE (n:=3) (cs:=r1) bY nu];refine δ (by rfl) (Tg p n t.args[i] (HT.mod m5 Bn) ((Bo.mod Th (fun _ _ h=>h))) (xw.mod Th Ψ (fun _ _ x=>x)) hB Dh) ?_;rintro _ w6 ⟨rfl,hM6,aG⟩;have m26:=Bp.trans aG;have e3:IntKind.i64.wrap ((i:Int)+1)=((i+1:Nat):Int):=by rw[dJ (by omega) (by omega)];omega
     cases b6 with
     |false=>
      cases fI;cases h;simp only[go_sem,simprocAttr,aM,RV.ev,aN];exact⟨hM6,m2.trans m26⟩
     |true=>
      simp only[go_sem,simprocAttr,e3];exact⟨_,by omega,i+1,s6,rfl,q,fI,hM6,m26,rfl⟩
    .have b1:decide ((i:Int)<t.args.length)=false:=by simpa using q
     rw[List.drop_eq_nil_of_le (by omega),pF]at fI;cases fI;simp only[go_sem,simprocAttr,g2,g3,g4,g19,g20,g21,b1];exact⟨xw,m23⟩
   rintro ρ w3 ⟨rfl,xw,m23,g2,g3,g4⟩;obtain⟨ak3,Dg,m3⟩:=box m23;have h:(if t.kind≠4\/(aJ ss t.name).getD 0>0 then some (true,ss)else sv (lg p.aK n) t.name p.aK (bS ss t.name 1))=some (b,s'):=h;refine eA (fun ρ w4=>t.kind=4/\¬(aJ ss t.name).getD 0>0/\w3=w4/\ρ.get 2=some (.map (some sm))/\ρ.get 3=some (ptr b3)/\ρ.get 4=some (ptr b4)) ?_ ?_
   .cases h4:(t.kind != 4)with
    |true=>
     have Ti:t.kind≠4:=by simpa using h4
     rw[if_pos (.inl Ti)]at h;cases h;simp only[go_sem,simprocAttr,g2,g3,g4,cell_of Dg,h4,aM,RV.ev,aN];exact⟨xw,m3⟩
    |false=>
     have Ti:t.kind=4:=by simpa using h4
     simp only[go_sem,simprocAttr,g2,g3,g4,cell_of Dg,h4];refine Cz ?_;refine AM (k:=t.name) (b:=sm) (kt:=9) (et:=3) rfl rfl rfl rfl (zI _) xw ?_;cases hs:decide ((aJ ss t.name).getD 0>0)with
     |true=>
      have fK:(aJ ss t.name).getD 0>0:=by simpa using hs
      rw[if_pos (.inr fK)]at h;cases h;simp only[go_sem,simprocAttr,hs,aM,RV.ev,aN];exact⟨xw,m3⟩
     |false=>
      have fK:¬(aJ ss t.name).getD 0>0:=by simpa using hs
      simp only[go_sem,simprocAttr,hs];exact⟨Ti,fK⟩
   rintro ρ _ ⟨h4,hs,rfl,g2,g3,g4⟩;rw[if_neg (by rintro(h |h);exact h h4;exact hs h)]at h;refine eA (fun ρ w4=>bQ w4 sm RI (bS ss t.name 1)/\Mod (· = sm) w3 w4/\ρ.get 2=some (.map (some sm))/\ρ.get 3=some (ptr b3)/\ρ.get 4=some (ptr b4)) ?_ ?_
   .simp only[go_sem,simprocAttr,g2,g3,g4,cell_of Dg];refine lW (kt:=9) (et:=3) (b:=sm) (k:=t.name) (v:=I 1) (a:=(1:Int)) rfl rfl rfl rfl rfl xw rfl ?_;intro w4 CM aD dL;refine σ ?_;exact⟨CM,aD⟩
   rintro ρ w4 ⟨hM4,Di,g2,g3,g4⟩;have m24:=m23.trans Di;obtain⟨SJ,aa6,m4⟩:=box m24;simp only[go_sem,simprocAttr,g2,g3,g4,cell_of SJ];refine io (fun z ρ w'=>∃(i:Nat) (s1:cE),z=p.aK.length-i/\i<=p.aK.length/\sv (lg p.aK n) t.name (p.aK.drop i) s1=some (b,s')/\bQ w' sm RI s1/\Mod (· = sm) w2 w'/\ρ.get 2=some (.map (some sm))/\ρ.get 3=some (ptr b3)/\ρ.get 4=some (ptr b4)/\ρ.get 45=some (.slice ad p.aK.length cd)/\ρ.get 46=some (I p.aK.length)/\ρ.get 47=some (I i)) p.aK.length ⟨0,_,by omega,by omega,h,hM4,m24,rfl,rfl,rfl,rfl,rfl,rfl⟩ ?_;rintro z ρ w5 ⟨i,s1,rfl,hi,fI,hM5,Bp,g2,g3,g4,Bq,Br,Bs⟩;obtain⟨aa5,ak4,m5⟩:=box Bp;by_cases q:i<p.aK.length
   .have b1:decide ((i:Int)<p.aK.length)=true:=by simpa using q
    have p1:(0:Int)<=i/\(i:Int)<p.aK.length:=by omega
    have e3:IntKind.i64.wrap ((i:Int)+1)=((i+1:Nat):Int):=by rw[dJ (by omega) (by omega)];omega
    obtain⟨uF,c1,r1,e1,⟨vp,vc,rfl,iw,Dd⟩,cG,bT⟩:=kI hd q;obtain⟨rfl,-,-⟩:=cU e1;obtain⟨ac,cc,rfl⟩:=bq Dd;have uf:=dI Dd;obtain⟨ap,cp,rfl⟩:=bq iw;have cR:=vx cG (bT.up m5 Bn (fun _ h=>h)).2;rw[ak2 q]at fI;simp only[go_sem,simprocAttr,g2,g3,g4,Bq,Br,Bs,b1];simp only[go_sem,simprocAttr,bG,bH,p1,cR];refine cX ?_;intro w6 cH aG fw;refine σ ?_;refine bN (vs:=[.string p.aK[i].name,.slice ap p.aK[i].params.length cp,.slice ac p.aK[i].cons.length cc]) (cs:=[.string bM,.slice none 0 0,.slice none 0 0]) rfl rfl cH rfl rfl (aP rfl (aP rfl (aP rfl dq))) ?_;intro w7 dh aO jn;have m57:Mod (fun _=>False) w5 w7:=aG.step aO (fun b hb hl=>by have e:b=w5.heap.size:=hb;omega);have Tj:Mod (· = sm) w2 w7:=Bp.trans (m57.aU (fun _ h=>h.elim));obtain⟨aqZ,aa7,m7⟩:=box Tj;have hM7:=hM5.mod m57 Ψ (fun _ _ x=>x);cases hn:bw p.aK[i].name t.name with
    |false=>
     have bJ:p.aK[i].name≠t.name:=by have:=hn;rw[y5]at this;simpa using this
     rw[if_pos bJ]at fI;rw[bw]at hn;simp only[go_sem,simprocAttr,cell_of dh,cell_of aa7,hn,e3];exact⟨_,by omega,i+1,s1,rfl,q,fI,hM7,Tj,rfl⟩
    |true=>
     have bJ:p.aK[i].name=t.name:=by have:=hn;rw[y5]at this;simpa using this
     rw[if_neg (by simpa using bJ)]at fI;rw[bw]at hn;cases GJ:wI (lg p.aK n) p.aK[i].cons s1 with
     |none=>rw[GJ]at fI;cases fI
     |some Fc=>
     obtain⟨bc,sc⟩:=Fc;rw[GJ]at fI;simp only[go_sem,simprocAttr,cell_of dh,cell_of aa7,hn]
     refine io (fun z ρ w'=>∃(k:Nat) (s2:cE),z=p.aK[i].cons.length-k/\k<=p.aK[i].cons.length/\wI (lg p.aK n) (p.aK[i].cons.drop k) s2=some (bc,sc)/\bQ w' sm RI s2/\Mod (· = sm) w2 w'/\ρ.get 2=some (.map (some sm))/\ρ.get 3=some (ptr b3)/\ρ.get 4=some (ptr b4)/\ρ.get 45=some (.slice (some uF) p.aK.length cd)/\ρ.get 46=some (I p.aK.length)/\ρ.get 47=some (I i) /\
      ρ.get 57=some (.slice ac p.aK[i].cons.length cc)/\ρ.get 58=some (I p.aK[i].cons.length)/\ρ.get 59=some (I k)) p.aK[i].cons.length ⟨0,s1,by omega,by omega,GJ,hM7,Tj,rfl,rfl,rfl,rfl,rfl,rfl,rfl,rfl,rfl⟩ ?_
     rintro z ρ w8 ⟨k,s2,rfl,hk,Bt,hM8,Tk,g2,g3,g4,Bq,Br,Bs,ID,IE,IF⟩;obtain⟨aq0,aq1,m8⟩:=box Tk;by_cases q2:k<p.aK[i].cons.length
     .have b2:decide ((k:Int)<p.aK[i].cons.length)=true:=by simpa using q2
      have p2:(0:Int)<=k/\(k:Int)<p.aK[i].cons.length:=by omega
      have e4:IntKind.i64.wrap ((k:Int)+1)=((k+1:Nat):Int):=by rw[dJ (by omega) (by omega)];omega
      obtain⟨pY,c2,r2,e2,⟨vf2,rfl,iu,_⟩,gX,ET⟩:=kI Dd q2;obtain⟨rfl,-,-⟩:=cU e2;obtain⟨af,cf,rfl⟩:=bq iu;have nL:=dI iu;have Cq:=vx gX (ET.up m8 Bn (fun _ h=>h)).2;rw[ak1 q2]at Bt;cases Tl:pF (lg p.aK n) p.aK[i].cons[k].fields s2 with
      |none=>rw[Tl]at Bt;cases Bt
      |some sw=>
      obtain⟨bf,sf⟩:=sw;rw[Tl]at Bt;simp only[go_sem,simprocAttr,g2,g3,g4,Bq,Br,Bs,ID,IE,IF,b2];simp only[go_sem,simprocAttr,bG,bH,p2,Cq];refine cX ?_;intro w9 di aQ gx;refine σ ?_;refine bN (vs:=[.string p.aK[i].cons[k].name,.slice af p.aK[i].cons[k].fields.length cf]) (cs:=[.string bM,.slice none 0 0]) rfl rfl di rfl rfl (aP rfl (aP rfl dq)) ?_;intro cD eM bD ou;have FD:Mod (fun _=>False) w8 cD:=aQ.step bD (fun b hb hl=>by have e:b=w8.heap.size:=hb;omega);have ak5:Mod (· = sm) w2 cD:=Tk.trans (FD.aU (fun _ h=>h.elim));have ak6:=hM8.mod FD Ψ (fun _ _ x=>x);simp only[go_sem,simprocAttr,cell_of eM]
      refine io (fun z ρ w'=>∃(j:Nat) (s3:cE),z=p.aK[i].cons[k].fields.length-j/\j<=p.aK[i].cons[k].fields.length/\pF (lg p.aK n) (p.aK[i].cons[k].fields.drop j) s3=some (bf,sf)/\bQ w' sm RI s3/\Mod (· = sm) w2 w'/\ρ.get 2=some (.map (some sm))/\ρ.get 3=some (ptr b3)/\ρ.get 4=some (ptr b4)/\ρ.get 45=some (.slice (some uF) p.aK.length cd)/\ρ.get 46=some (I p.aK.length)/\ρ.get 47=some (I i) /\
       ρ.get 57=some (.slice (some pY) p.aK[i].cons.length cc)/\ρ.get 58=some (I p.aK[i].cons.length)/\ρ.get 59=some (I k)/\ρ.get 64=some (.slice af p.aK[i].cons[k].fields.length cf)/\ρ.get 65=some (I p.aK[i].cons[k].fields.length)/\ρ.get 66=some (I j)) p.aK[i].cons[k].fields.length ⟨0,s2,by omega,by omega,Tl,ak6,ak5,rfl,rfl,rfl,rfl,rfl,rfl,rfl,rfl,rfl,rfl,rfl,rfl⟩ ?_
      rintro z ρ eE ⟨j,s3,rfl,hj,Bu,aa8,Tm,g2,g3,g4,Bq,Br,Bs,ID,IE,IF,g64,g65,g66⟩;obtain⟨aq2,aq3,m11⟩:=box Tm;by_cases q3:j<p.aK[i].cons[k].fields.length
      .have To:decide ((j:Int)<p.aK[i].cons[k].fields.length)=true:=by simpa using q3
       have p3:(0:Int)<=j/\(j:Int)<p.aK[i].cons[k].fields.length:=by omega
       have e5:IntKind.i64.wrap ((j:Int)+1)=((j+1:Nat):Int):=by rw[dJ (by omega) (by omega)];omega
       have ak7:=iu.mod m11 Bn (fun _ _ h=>h.mod m11 Bn);obtain⟨Yl,c3,r3,e6,Bo,xn,Tb,_⟩:=dT ak7 q3;obtain⟨rfl,-,-⟩:=cU e6;rw[aa4 q3]at Bu;cases Dh:lg p.aK n p.aK[i].cons[k].fields[j] s3 with
       |none=>rw[Dh]at Bu;cases Bu
       |some bs=>
       obtain⟨b6,s6⟩:=bs;rw[Dh]at Bu;simp only[go_sem,simprocAttr,g2,g3,g4,Bq,Br,Bs,ID,IE,IF,g64,g65,g66,To];simp only[go_sem,simprocAttr,bG,bH,p3,Tb];refine cX ?_;intro dQ je ei AV;have nu:=Bo.len;refine σ ?_;refine bN (vs:=r3) (cs:=[I 0,.string bM,.slice none 0 0]) rfl rfl je nu rfl Bo.one ?_;intro iP si gH De;have FE:Mod (fun _=>False) eE iP:=ei.step gH (fun b hb hl=>by have e:b=eE.heap.size:=hb;omega);have aa9:Mod (· = sm) w2 iP:=Tm.trans (FE.aU (fun _ h=>h.elim));obtain⟨ak8,aa',m13⟩:=box aa9;simp only[go_sem,simprocAttr,aE (n:=2) (cs:=[.slice (some uF) p.aK.length cd,vf]) ak8 rfl,aE (n:=3) (cs:=r3) si nu];refine δ (by rfl) (Tg p n p.aK[i].cons[k].fields[j] (HT.mod m13 Bn) (Bo.mod FE (fun _ _ h=>h)) (aa8.mod FE Ψ (fun _ _ x=>x)) hB Dh) ?_;rintro _ su ⟨rfl,aba,gj⟩;have abb:=aa9.trans gj;cases b6 with
       |false=>
        cases Bu;cases Bt;cases fI;simp only[go_sem,simprocAttr,aM,RV.ev,aN];exact⟨aba,m2.trans abb⟩
       |true=>
        simp only[go_sem,simprocAttr,e5];exact⟨_,by omega,j+1,s6,rfl,q3,Bu,aba,abb,rfl⟩
      .have To:decide ((j:Int)<p.aK[i].cons[k].fields.length)=false:=by simpa using q3
       rw[List.drop_eq_nil_of_le (by omega),pF]at Bu;cases Bu;simp only[go_sem,simprocAttr,g2,g3,g4,Bq,Br,Bs,ID,IE,IF,g64,g65,g66,To,e4];exact⟨_,by omega,k+1,_,rfl,q2,Bt,aa8,Tm,rfl⟩
     .have b2:decide ((k:Int)<p.aK[i].cons.length)=false:=by simpa using q2
      rw[List.drop_eq_nil_of_le (by omega),wI]at Bt;cases Bt;simp only[go_sem,simprocAttr,g2,g3,g4,Bq,Br,Bs,ID,IE,IF,b2,e3];exact⟨_,by omega,i+1,_,rfl,q,fI,hM8,Tk,rfl⟩
   .have b1:decide ((i:Int)<p.aK.length)=false:=by simpa using q
    rw[List.drop_eq_nil_of_le (by omega),sv]at fI;cases fI;simp only[go_sem,simprocAttr,g2,g3,g4,Bq,Br,Bs,b1,aM,RV.ev,aN];exact⟨hM5,m5⟩
end
section
open Go Go.W
def sx(d:Df):Ty×Bool:=if(d.type.kind == 3&&(match d.type.args with |a::_=>CW a |[]=>false))=true then(d.type.args.getD 1 default,true)else(d.type,false)
def tz(f:Ty->Option Bool)(n:ByteArray):List Df->Option (Bool×Bool)
 |[]=>some (false,false)
 |d::l=>if d.name≠n then tz f n l else if 0<d.params.length then some (false,false)else(f (sx d).1).map (fun b=>((sx d).2,b))
theorem ak9{f:Ty->Option Bool}{n:ByteArray}{l:List Df}{i:Nat}(hi:i<l.length):tz f n (l.drop i)=if l[i].name≠n then tz f n (l.drop (i+1))else if 0<l[i].params.length then some (false,false)else(f (sx l[i]).1).map (fun b=>((sx l[i]).2,b)):=by rw[Ω hi,tz]
def Dj(ds:List Dt)(n:Nat)(t:Ty):Option Bool:=(lg ds n t []).map (·.1)
def FF(p:Pg)(n:Nat)(name:ByteArray):Option (Bool×Bool):=tz (Dj p.aK n) name p.aj
def abc(t:Ty):Prop:=(t.kind=3->t.args.length=2)/\∀a,t.kind=3->t.args[0]?=some a->a.kind=4->a.name=Ig->0<a.args.length
theorem ak'(d:Df)(hk:d.type.kind=3)(h2:d.type.args.length=2):sx d=if CW d.type.args[0]=true then(d.type.args[1],true)else(d.type,false):=by
 obtain⟨x,y,iG⟩:=MX h2;have e0:d.type.args[0]=x:=by simp[iG]
 have e1:d.type.args[1]=y:=by simp[iG]
 unfold sx;rw[e0,e1,hk,iG];rfl
theorem ala(p:Pg){n:Nat}{name:ByteArray}{w:World}{cs:List Value}{dx:Bool×Bool}(h:j0 w (Out (fun _=>False) w) cs p)(mH:∀ d∈p.aj,abc d.type)(a7:FF p n name=some dx) :
   bu Tryz.prog 18 [.agg cs.toArray,.string name] w fun v w'=>v=.tuple #[.bool dx.1,.bool dx.2]/\Mod (fun _=>False) w w':=by
 have h0:=h;obtain⟨vd,vf,rfl,hd,hf⟩:=h;obtain⟨af,cf,rfl⟩:=bq hf;have nL:=dI hf;refine γ Tryz.f18 ?_;(try simp only[go_sem,simprocAttr]);refine bZ rfl ?_;intro w1 au ak cw;have z1:w1.heap.size=w.heap.size+1:=cw;(try simp only[go_sem,simprocAttr,cell_of au]);refine io (fun z ρ w'=>∃i:Nat,z=p.aj.length-i/\i<=p.aj.length/\tz (Dj p.aK n) name (p.aj.drop i)=some dx/\Mod (fun _=>False) w1 w'/\ρ.get 1=some (.string name)/\ρ.get 2=some (ptr w.heap.size)/\ρ.get 11=some (.slice af p.aj.length cf)/\ρ.get 12=some (I p.aj.length)/\ρ.get 13=some (I i)) p.aj.length ⟨0,by omega,by omega,a7,.refl _ _,rfl,rfl,rfl,rfl,rfl⟩ ?_;rintro z ρ w2 ⟨i,rfl,hi,he,ai,g1,g2,g11,g12,g13⟩;have bo:=ak.trans ai;have az:=ai.at au Ψ;by_cases q:i<p.aj.length
 .have b1:decide ((i:Int)<p.aj.length)=true:=by simpa using q
  have p1:(0:Int)<=i/\(i:Int)<p.aj.length:=by omega
  have e3:IntKind.i64.wrap ((i:Int)+1)=((i+1:Nat):Int):=by rw[dJ (by omega) (by omega)];omega
  obtain⟨uF,c1,r1,e1,mQ,xU,bT⟩:=kI hf q;obtain⟨rfl,-,-⟩:=cU e1;have iS:=mQ.one;obtain⟨vp,tc,bc,rfl,uu,lbc,iw,bL,jl,_⟩:=mQ;obtain⟨ap,cp,rfl⟩:=bq iw;have cR:=vx xU (bT.up bo aA (fun _ h=>h)).2;rw[ak9 q]at he;(try simp only[go_sem,simprocAttr,g1,g2,g11,g12,g13,b1]);(try simp only[go_sem,simprocAttr,bG,bH,p1,cR]);refine cX ?_;intro w3 aS aw dU;(try simp only[go_sem,simprocAttr]);refine bN (vs:=.string p.aj[i].name :: .slice ap p.aj[i].params.length cp::(tc++bc)) (cs:=[.string bM,.slice none 0 0,I 0,.string bM,.slice none 0 0,I 0,.string bM,I 0,.slice none 0 0,.slice none 0 0,.slice none 0 0,.slice none 0 0]) rfl rfl aS xU rfl iS ?_;intro w4 bm aD dL;have m24:Mod (fun _=>False) w2 w4:=aw.step aD (fun b hb hl=>by have e:b=w2.heap.size:=hb;omega);have eX:=bo.trans m24;cases hn:bw p.aj[i].name name with
  |false=>
   have bJ:p.aj[i].name≠name:=by have:=hn;rw[y5]at this;simpa using this
   rw[if_pos bJ]at he;rw[bw]at hn;(try simp only[go_sem,simprocAttr,cell_of bm,hn,e3]);exact⟨_,by omega,i+1,rfl,q,he,ai.trans m24,rfl⟩
  |true=>
   have bJ:p.aj[i].name=name:=by have:=hn;rw[y5]at this;simpa using this
   rw[if_neg (by simpa using bJ)]at he;rw[bw]at hn;by_cases hp:0<p.aj[i].params.length
   .rw[if_pos hp]at he;cases he;have b2:decide ((p.aj[i].params.length:Int)>0)=true:=decide_eq_true (by omega);(try simp only[go_sem,simprocAttr,cell_of bm,hn,b2,aM,RV.ev,aN]);exact eX
   .rw [if_neg hp] at he;have b2:decide ((p.aj[i].params.length:Int) > 0)=false:=decide_eq_false (by omega);have abd:=mH _ (List.getElem_mem q);obtain ⟨vt,rfl,Tp⟩:=bL.cells;obtain ⟨at',ct,rfl⟩:=bq Tp;have Cq:f' w4 3 (.pointer (some ⟨w2.heap.size,2,none⟩))=some (.agg [I p.aj[i].type.kind,.string p.aj[i].type.name,.slice at' p.aj[i].type.args.length ct].toArray):=by
     have:=jm (off:=2) (n:=3) bm (by simp)
     simpa using this
    cases Nh:Dj p.aK n (sx p.aj[i]).1 with
    |none=>rw[Nh]at he;cases he
    |some bp=>
    rw[Nh]at he;have FG:dx=((sx p.aj[i]).2,bp):=by cases he;rfl
    obtain⟨ss,fI⟩:∃ss,lg p.aK n (sx p.aj[i]).1 []=some (bp,ss):=by
     unfold Dj at Nh;obtain⟨x,h1,rfl⟩:=Δ.1 Nh;exact⟨x.2,h1⟩
    have z4:=eX.size;have Tq:∀ {w9:World} {ct:List Value} {tt:Ty} {sm:Nat},Mod (fun _=>False) w w9→w.heap.size≤sm→bQ w9 sm RI []→aR w9 (Out (fun _=>False) w) ct tt→lg p.aK n tt []=some (bp,ss) →
        bu Tryz.prog 43 [.agg [vd,.slice (some uF) p.aj.length cf].toArray,.agg ct.toArray,.map (some sm)] w9 fun v cD=>v=.bool bp/\Mod (fun _=>False) w cD:=fun{w9 ct tt sm} aQ dO mY bL fI=>by
     refine(Tg p n tt (h0.mod aQ aA) bL mY (fun hb=>by have:=hb.1;omega) fI).mono ?_;rintro _ cD ⟨rfl,_,bD⟩;exact⟨rfl,aQ.step bD (fun b hb hl=>by have e:b=sm:=hb;omega)⟩
    (try simp only[go_sem,simprocAttr,cell_of bm,hn,b2,Cq]);refine cX ?_;intro w5 bY aH eY;(try simp only[go_sem,simprocAttr]);refine bN (vs:=[I p.aj[i].type.kind,.string p.aj[i].type.name,.slice at' p.aj[i].type.args.length ct]) (cs:=[I 0,.string bM,.slice none 0 0]) rfl rfl bY rfl rfl (aP rfl (aP rfl (aP rfl dq))) ?_;intro w6 cH aG fw;have yb:Mod (fun _=>False) w4 w6:=aH.step aG (fun b hb hl=>by have e:b=w4.heap.size:=hb;omega);have hH:=eX.trans yb;have abe:w6.heap[w.heap.size]?=some (.cells [vd,.slice (some uF) p.aj.length cf].toArray 25 (0,0)):=(m24.trans yb).at az Ψ;cases hk:p.aj[i].type.kind == 3 with
    |false=>
     have FH:sx p.aj[i]=(p.aj[i].type,false):=by unfold sx;rw[hk];try rfl
     rw[FH]at fI FG;have IG:=aE (n:=2) (cs:=[vd,.slice (some uF) p.aj.length cf]) abe rfl;have IH:=aE (n:=3) (cs:=[I p.aj[i].type.kind,.string p.aj[i].type.name,.slice at' p.aj[i].type.args.length ct]) cH rfl;have Bv:=hH;(try simp only[go_sem,simprocAttr,cell_of cH,hk,IG,IH]);refine pe (α:=Int) RI ?_;intro w9 II aQ gx;have nv:=Bv.trans aQ;(try simp only[go_sem,simprocAttr]);refine aL (by rfl) ?_;refine(Tq nv Bv.size II (bL.mod nv aA) fI).mono ?_;rintro _ cD ⟨rfl,bD⟩;(try simp only[go_sem,simprocAttr,aM,RV.ev,aN]);rw[FG];exact⟨rfl,bD⟩
    |true=>
     have tY:p.aj[i].type.kind=3:=by simpa using hk
     have gX:=abd.1 tY;have p0:(0:Int)<=0/\(0:Int)<p.aj[i].type.args.length:=by omega
     have p1':(0:Int)<=1/\(1:Int)<p.aj[i].type.args.length:=by omega
     have t1:Int.toNat 1=1:=rfl;obtain⟨E7,cta,ra,ea,alb,alc,ald⟩:=kI Tp (show 0<p.aj[i].type.args.length by omega);obtain⟨rfl,-,-⟩:=cU ea;obtain⟨aq4,aq5,ra1,ea',Tr,ale,alf⟩:=kI Tp (show 1<p.aj[i].type.args.length by omega);obtain⟨ea9,-,-⟩:=cU ea';cases ea9;have CZ:p.aj[i].type.args[0]?=some p.aj[i].type.args[0]:=Ξ (by omega);have lna:=vx alc (ald.up hH aA (fun _ h=>h)).2;rw[Nat.zero_mul,add_zero']at lna;have FH:=ak' p.aj[i] tY gX;(try simp only[go_sem,simprocAttr,cell_of cH,hk]);(try simp only[go_sem,simprocAttr,bG,bH,p0,Nat.zero_mul,lna]);refine aL (by rfl) ?_;refine(ajN _ (alb.mod hH aA) (fun h1 h2=>abd.2 _ tY CZ h1 h2)).mono ?_;rintro _ w7 ⟨rfl,aO⟩;have qm:=hH.trans aO;have Ni:=aO.at abe Ψ;have Tt:=aO.at cH Ψ;have IG:=aE (n:=2) (cs:=[vd,.slice (some uF) p.aj.length cf]) Ni rfl;have IH:=aE (n:=3) (cs:=[I p.aj[i].type.kind,.string p.aj[i].type.name,.slice (some E7) p.aj[i].type.args.length ct]) Tt rfl;cases abf:CW p.aj[i].type.args[0]with
     |false=>
      rw[abf]at FH;rw[FH,if_neg (by simp)]at fI FG;have Bv:=qm;(try simp only[go_sem,simprocAttr,IG,IH]);refine pe (α:=Int) RI ?_;intro w9 II aQ gx;have nv:=Bv.trans aQ;(try simp only[go_sem,simprocAttr]);refine aL (by rfl) ?_;refine(Tq nv Bv.size II (bL.mod nv aA) fI).mono ?_;rintro _ cD ⟨rfl,bD⟩;(try simp only[go_sem,simprocAttr,aM,RV.ev,aN]);rw[FG];exact⟨rfl,bD⟩
     |true=>
      rw[abf]at FH;rw[FH,if_pos rfl]at fI FG;have abg:=vx ale (alf.up qm aA (fun _ h=>h)).2;have nu:=Tr.len;rw[Nat.one_mul,add_pos _ (by decide)]at abg;(try simp only[go_sem,simprocAttr,cell_of Tt]);(try simp only[go_sem,simprocAttr,bG,bH,p1',t1,Nat.one_mul,abg]);refine bN (vs:=ra1) (cs:=[I p.aj[i].type.kind,.string p.aj[i].type.name,.slice (some E7) p.aj[i].type.args.length ct]) rfl rfl Tt nu rfl Tr.one ?_;intro w8 dW aZ kD;have Bv:Mod (fun _=>False) w w8:=qm.step aZ (fun b hb hl=>by have e:b=w4.heap.size:=hb;have:=eX.size;omega);have Z7:w.heap.size<w4.heap.size:=by have:=ai.size;have:=m24.size;omega
      have Nj:=aZ.at Ni (fun e=>by have e':w.heap.size=w4.heap.size:=e;omega);have IG:=aE (n:=2) (cs:=[vd,.slice (some uF) p.aj.length cf]) Nj rfl;have IH:=aE (n:=3) (cs:=ra1) dW nu;(try simp only[go_sem,simprocAttr,IG,IH]);refine pe (α:=Int) RI ?_;intro w9 II aQ gx;have nv:=Bv.trans aQ;(try simp only[go_sem,simprocAttr]);refine aL (by rfl) ?_;refine(Tq nv Bv.size II (Tr.mod nv aA) fI).mono ?_;rintro _ cD ⟨rfl,bD⟩;(try simp only[go_sem,simprocAttr,aM,RV.ev,aN]);rw[FG];exact⟨rfl,bD⟩
 .have b1:decide ((i:Int)<p.aj.length)=false:=by simpa using q
  rw[List.drop_eq_nil_of_le (by omega),tz]at he;cases he;(try simp only[go_sem,simprocAttr,g1,g2,g11,g12,g13,b1,aM,RV.ev,aN]);exact bo
end
section
open Go Go.W
abbrev oI:Nat:=16777216
def pG(n:ByteArray):Ex:=.mk 3 n 0 [] [] [] []
def runM(p:Pg)(fuel:Int)(name:ByteArray)(gz:Bool)(input:List Int):Option Rn:=
 match fQ (fH p fuel) oI (.go (pG name) []) (iO p)with
 |none=>none
 |some (none,m)=>some m
 |some (some x,m)=>
  if gz=true then
   match uC (fH p fuel) oI x (m.ls input).cells.length ((m.ls input).new (kj input m.cells).1)with
   |none=>none
   |some (none,m)=>some m
   |some (some y,m)=>kY (fH p fuel) oI y [] m
  else kY (fH p fuel) oI x [] m
def Bw(input:List Int):Bool:=input.any (fun n=>decide (n < -4611686018427387904)||decide (n>4611686018427387903))
noncomputable def yc(p:Pg)(N:Nat)(name:ByteArray)(input:List Int)(fuel:Int):Option (Int×Option Rn):=
 if 10000<input.length then some (2,none)
 else if Bw input=true then some (1,none)
 else if fuel<0\/fuel>1048576 then some (1,none)
 else if fe p≠0 then some (fe p,none)
 else match FF p N name with
  |none=>none
  |some (_,false)=>some (100,none)
  |some (gz,true)=>(runM p fuel name gz input).map (fun m=>(0,some m))
theorem alg{E E':Env}{d:Df}(h:rj E d=.ok E'):E'.aK=E.aK/\d.type.wf E=true:=by
 unfold rj at h
 split at h
 .cases h
 .split at h
  .cases h
  .split at h
   .cases h
   .rename_i hr;cases h;refine⟨rfl,?_⟩;have:=(EU (by simpa using hr)).1;rw[<- CR (E:={ E with params:=oC d.params []}) (E':=E) rfl];exact this
theorem abh:∀(l:List Df) (E E':Env),gI l E=.ok E'->E'.aK=E.aK/\∀d∈l,d.type.wf E=true
 |[],E,E',h=>by rw[gI]at h;cases h;exact⟨rfl,fun d hd=>(by cases hd)⟩
 |d::l,E,E',h=>by
  rw[gI]at h
  split at h
  .cases h
  .rename_i E1 h1;obtain⟨a1,a2⟩:=alg h1;obtain⟨b1,b2⟩:=abh l E1 E' h;refine⟨b1.trans a1,fun x hx=>?_⟩;rcases List.mem_cons.1 hx with rfl |hx
   .exact a2
   .rw[<- CR a1];exact b2 x hx
theorem IJ{p:Pg}{E:Env}(h:mM p=.ok E):∃E1,oB jM p.aK=.ok E1/\gI p.aj E1=.ok E/\kJ E p.aj=0:=by
 unfold mM at h
 split at h
 .cases h
 .split at h
  .cases h
  .split at h
   .cases h
   .rename_i E1 h1
    split at h
    .cases h
    .rename_i E2 h2
     split at h
     .cases h
     .rename_i h3;cases h;exact⟨E1,h1,h2,by simpa using h3⟩
theorem Nk{p:Pg}(h:fe p=0):∃E,mM p=.ok E:=by
 unfold fe at h
 split at h
 .rename_i e he;exfalso;subst h;have key:∀ (x:Except Int Env),mM p=x→(∀ e,x = .error e→e≠0):=by
   intro x hx e uc h0;subst uc h0;unfold mM at hx
   split at hx
   .cases hx
   .split at hx
    .cases hx
    .split at hx
     .rename_i e1 h1;cases hx;unfold oB at h1
      split at h1
      .rename_i e2 h2;cases h1;have hd:∀ (l:List Dt) (E:Env),px l E≠.error 0:=by
        intro l
        induction l with
        |nil=>intro E h;rw[px]at h;cases h
        |cons d l ih=>
         intro E h;rw[px]at h
         split at h
         .rename_i hn
          injection h with h
          rw[h]at hn;simp at hn
         .exact ih _ h
       exact hd _ _ h2
      .split at h1
       .cases h1
       .cases h1
     .split at hx
      .rename_i e1 h1;cases hx;have hd:∀ (l:List Df) (E:Env),gI l E≠.error 0:=by
        intro l
        induction l with
        |nil=>intro E h;rw[gI]at h;cases h
        |cons d l ih=>
         intro E h;rw[gI]at h
         split at h
         .rename_i e3 h3;cases h;unfold rj at h3
          split at h3
          .cases h3
          .split at h3
           .cases h3
           .split at h3
            .cases h3
            .cases h3
         .exact ih _ h
       exact hd _ _ h1
      .split at hx
       .rename_i hn
        injection hx with hx
        rw[hx]at hn;simp at hn
       .cases hx
  exact key _ he 0 rfl rfl
 .rename_i E hE;exact⟨E,hE⟩
theorem alh{l:List Dt}{E:Env}(h:oB jM l=.ok E):aJ E.aK Ig=some dList:=by
 unfold oB at h
 split at h
 .cases h
 .rename_i E' th
  split at h
  .cases h;obtain⟨_,hk⟩:=RP l jM E mL RQ th;exact hk _ _ ZF
  .cases h
theorem ali{p:Pg}(h:fe p=0):∀d∈p.aj,abc d.type:=by
 obtain⟨E,hE⟩:=Nk h;obtain⟨E1,h1,h2,_⟩:=IJ hE;obtain⟨_,h3⟩:=abh _ _ _ h2;intro d hd;have hw:=h3 d hd;refine⟨fun hk=>QF hw hk,fun a hk ha pX hn=>?_⟩;have hwa:a.wf E1=true:=Yc hw (List.mem_of_getElem? ha);rw[a.vN,pX,Bool.and_eq_true,Bool.and_eq_true]at hwa;have hb:eR E1 a.name a.args.length=false:=by simpa using hwa.1.2
 unfold eR at hb;rw[hn,alh h1]at hb;have h5:(dList.params.length:Int)=a.args.length:=by simpa using hb
 have h6:dList.params.length=1:=rfl;omega
end
section
open Go Go.W
structure yd (X:Cx) (m m':Rn):Prop where
 told:∃l,m'.told=m.told++l/\(l.length:Int)<=m'.steps-m.steps
 steps:m.steps<=m'.steps
 fuel:m.steps<=X.fuel->m'.steps<=X.fuel
 CU:(m'.kind=2/\m'.stuck=m.stuck)\/(m'.kind=4/\m'.steps=X.fuel/\m'.stuck=m.stuck)\/m'.kind=3
theorem yd.from{X:Cx}{m m1 m':Rn}(h:yd X m1 m'){l:List (ByteArray×Int)}(h1:m1.told=m.told++l)(h2:(l.length:Int)<=m1.steps-m.steps)(h3:m.steps<=X.fuel->m1.steps<=X.fuel)(h4:m1.stuck=m.stuck):yd X m m':=by
 obtain⟨⟨l2,a1,a2⟩,b,c,d⟩:=h;refine⟨⟨l++l2,by rw[a1,h1,List.append_assoc],by rw[List.length_append];omega⟩,by omega,fun hh=>c (h3 hh),?_⟩;rcases d with⟨d1,d2⟩ |⟨d1,d2,d3⟩ |d
 .exact .inl ⟨d1,d2.trans h4⟩
 .exact .inr (.inl ⟨d1,d2,d3.trans h4⟩)
 .exact .inr (.inr d)
theorem yd.Tu{X:Cx}{m m':Rn}(h:C8 X m (none,m')):yd X m m':=by
 have h1:m'.told=m.told:=h.told;have h2:m.steps<=m'.steps:=h.steps;refine⟨⟨[],by rw[h1,List.append_nil],by simp;omega⟩,h2,h.fuel,?_⟩;rcases h.stop rfl with⟨a,b,c⟩ |a
 .exact .inr (.inl ⟨a,b,c⟩)
 .exact .inr (.inr a)
theorem alj(x:Cl):(rq x).length<=1:=by cases x<;>simp[rq]
theorem Tv{X:Cx}:∀(n:Nat) {x:Cl} {ws:List Nat} {m m':Rn},kY X n x ws m=some m'->m.bA=[]->yd X m m'
 |0,x,ws,m,m',h,_=>by rw[kY]at h;cases h
 |n+1,x,ws,m,m',h,hf=>by
  rw[kY]at h;have Cc:=alj x;rcases C7 X m with⟨h1,h2⟩ |⟨h1,h2⟩
  .rw[h2,if_pos rfl]at h;cases h;exact⟨⟨[],by simp,by simp⟩,Int.le_refl _,fun h=>h,.inr (.inl ⟨rfl,h1,rfl⟩)⟩
  .rw[h2,if_neg (by simp)]at h;simp only at h
   split at h
   .cases h
   .split at h
    .cases h;exact⟨⟨rq x,rfl,by simp;omega⟩,by simp;omega,fun hh=>by simp only;omega,.inl ⟨rfl,rfl⟩⟩
    .split at h
     .cases h
     .rename_i c m3 pR;cases h;have k:=yd.Tu (FB pR hf);exact k.from (m:=m) (l:=rq x) rfl (by simp only;omega) (fun hh=>by simp only;omega) rfl
     .rename_i c y m3 pR;have g:=FB pR hf;obtain⟨g1,g2,g3⟩:=g.val y rfl;have gt:m3.told=m.told++rq x:=g.told;have gs:m.steps+1<=m3.steps:=g.steps;have gf:m.steps+1<=X.fuel->m3.steps<=X.fuel:=g.fuel;exact(Tv n h g3).from (l:=rq x) gt (by omega) (fun hh=>gf (by omega)) g2
theorem FI{X:Cx}{n c:Nat}{f:Cl}{m:Rn}{r:Option Cl×Rn}(h:uC X n f c m=some r)(hf:m.bA=[]):C8 X m r:=by
 unfold uC at h;cases hg:qt m f c with
 |none=>rw[hg]at h;cases h
 |some rr=>
 rw[hg]at h;have k:=M4 hg
 match rr,h,k,hg with
 |(none,m'),h,k,hg=>
  cases h;have ks:m'.steps=m.steps:=k.steps;exact⟨k.told,by show m.steps<=m'.steps;omega,fun hh=>by show m'.steps<=_;omega,fun x hx=>by(cases hx),fun _=>.inr (k.stop rfl)⟩
 |(some (.val x),m'),h,k,hg=>
  cases h;have:m'=m:=by
   unfold qt at hg
   split at hg
   .split at hg<;>cases hg
   .split at hg
    .cases hg;rfl
    .cases hg
   .cases hg
  subst this;exact⟨rfl,Int.le_refl _,fun h=>h,fun _ _=>⟨rfl,rfl,hf⟩,fun hn=>by cases hn⟩
 |(some (.go e v),m'),h,k,hg=>
  have ks:m'.steps=m.steps:=k.steps;exact(xZ n h).from k.told (by omega) (fun hh=>by omega) (k.go _ rfl)
theorem alk{p:Pg}{fuel:Int}{name:ByteArray}{gz:Bool}{input:List Int}{m:Rn}(h:runM p fuel name gz input=some m):yd (fH p fuel) (iO p) m:=by
 unfold runM at h
 split at h
 .cases h
 .rename_i m1 hg;cases h;exact yd.Tu (xZ _ hg)
 .rename_i x m1 hg;have k:=xZ _ hg;obtain⟨k1,k2,k3⟩:=k.val x rfl;have kt:m1.told=(iO p).told:=k.told;have ks:(iO p).steps<=m1.steps:=k.steps;have kf:(iO p).steps<=(fH p fuel).fuel->m1.steps<=(fH p fuel).fuel:=k.fuel
  split at h
  .split at h
   .cases h
   .rename_i m2 ha;cases h;exact(yd.Tu (FI ha (show m1.bA=[]from k3))).from (l:=[]) (by rw[List.append_nil];exact kt) (by simp;exact ks) kf k2
   .rename_i y m2 ha;have g:=FI ha (show m1.bA=[]from k3);obtain⟨g1,g2,g3⟩:=g.val y rfl;have gt:m2.told=m1.told:=g.told;have gs:m1.steps<=m2.steps:=g.steps;have gf:m1.steps<=(fH p fuel).fuel->m2.steps<=(fH p fuel).fuel:=g.fuel;exact(Tv _ h g3).from (l:=[]) (by rw[gt,kt,List.append_nil]) (by simp;omega) (fun hh=>gf (kf hh)) (g2.trans k2)
  .exact(Tv _ h k3).from (l:=[]) (by rw[kt,List.append_nil]) (by simp;exact ks) kf k2
end
section
open Go Go.W
abbrev Nl:ByteArray:=⟨#[73,110,116]⟩
abbrev kz:ByteArray:=⟨#[40]⟩
abbrev ye:ByteArray:=⟨#[41]⟩
abbrev Dk:ByteArray:=⟨#[32,45,62,32]⟩
abbrev IK:ByteArray:=⟨#[32]⟩
def jQ:List ByteArray->ByteArray
 |[]=>⟨#[]⟩
 |s::l=>IK++s++jQ l
def zY(k:Int)(n:ByteArray)(l:List ByteArray):ByteArray:=
 if k=1 then Nl
 else if k=3 then(match l with
  |a::b::_=>kz++a++Dk++b++ye
  |_=>⟨#[]⟩)
 else if l.isEmpty=true then n else kz++n++jQ l++ye
mutual
def Ty.text:Ty->ByteArray
 |.mk k n l=>zY k n (iz l)
def iz:List Ty->List ByteArray
 |[]=>[]
 |t::l=>t.text::iz l
end
def yf(t:Ty):Option ByteArray:=if lS t≠0 then none else if 65536<t.text.size then none else some t.text
def uL:List Ty->Option (List ByteArray)
 |[]=>some []
 |t::l=>if 500<t.size then none else match yf t with
  |none=>none
  |some s=>(uL l).map (fun r=>s::r)
abbrev qA(l:List ByteArray):ByteArray:=⟨(Lib.join (l.map (·.data.toList)) [44]).toArray⟩
abbrev yg:ByteArray:=⟨#[123]⟩
abbrev Bx:ByteArray:=⟨#[125]⟩
def mo(n:ByteArray)(l:List Ty):ByteArray×Bool:=
 if l.isEmpty=true then(n,true)
 else match uL l with
  |none=>(⟨#[]⟩,false)
  |some ts=>(n++yg++qA ts++Bx,decide ((n++yg++qA ts++Bx).size<=4096))
abbrev Dl:Ty:=.mk 0 ⟨#[]⟩ []
abbrev fS:Ex:=.mk 0 ⟨#[]⟩ 0 [] [] [] []
mutual
def cZ(a8:List (ByteArray×Ty)):Ty->Int->Ty×Int
 |.mk k n l,left=>
  if Wr (left-1)<0 then(Dl,Wr (left-1))
  else match(if k=2 then aJ a8 n else none)with
   |some u=>if Wr (Wr (left-1)-Wr (u.size-1))<0 then(Dl,Wr (Wr (left-1)-Wr (u.size-1)))else(u,Wr (Wr (left-1)-Wr (u.size-1)))
   |none=>(.mk k n (dz a8 l (Wr (left-1))).1,(dz a8 l (Wr (left-1))).2)
def dz(a8:List (ByteArray×Ty)):List Ty->Int->List Ty×Int
 |[],left=>([],left)
 |t::l,left=>((cZ a8 t left).1::(dz a8 l (cZ a8 t left).2).1,(dz a8 l (cZ a8 t left).2).2)
end
theorem Tw(a8:List (ByteArray×Ty)):∀(l:List Ty) (left:Int),(dz a8 l left).1.length=l.length
 |[],left=>by rw[dz]
 |t::l,left=>by rw[dz];simp[Tw a8 l]
structure iQ where
 jR:Nat
 types:List Ty
 name:ByteArray
structure Tn where
 left:Int
 bR:List (Option iQ)
 seen:List (ByteArray×Nat)
structure Tc where
 aj:List Df
 D:List (ByteArray×Nat)
 a8:List (ByteArray×Ty)
def Tn.at(t:Tn)(left:Int):Tn:={ t with left:=left}
def wJ(a8:List (ByteArray×Ty)):List Ty->Option (List Ty)
 |[]=>some []
 |t::l=>if(cZ a8 t 500).2<0 then none else(wJ a8 l).map (fun r=>(cZ a8 t 500).1::r)
def Tc.nameOf(C:Tc)(d:Nat):ByteArray:=(C.aj[d]?.map Df.name).getD ⟨#[]⟩
def IL(a:Option (Option iQ))(d:Nat)(l:List Ty):Prop:=∃i,a=some (some i)/\i.jR=d/\i.types=l
open Classical in
noncomputable def mq(C:Tc)(name:ByteArray)(types:List Ty)(t:Tn):Ex×Tn:=match aJ C.D name with
 |none=>(fS,t)
 |some d=>match wJ C.a8 types with
  |none=>(.mk 3 ⟨#[]⟩ 0 [] [] [] [],{ t with bR:=t.bR++[none]})
  |some l=>
   let n:=(mo (C.nameOf d) l).1
   (.mk 3 n 0 [] [] [] [],if(∃i,aJ t.seen n=some i/\IL (t.bR[i]?) d l)then t else{ t with bR:=t.bR++[some ⟨d,l,n⟩],seen:=bS t.seen n t.bR.length})
def dj(C:Tc)(l:List Ty)(t:Tn):List Ty×Tn:=((dz C.a8 l t.left).1,t.at (dz C.a8 l t.left).2)
def fx:List Bd->List Ty
 |[]=>[]
 |b::l=>b.type::fx l
def fy:List Bd->List Ty->List Ex->List Bd
 |b::l,t::ts,e::es=>.mk b.name t e::fy l ts es
 |_,_,_=>[]
mutual
noncomputable def dp(C:Tc):Ex->Tn->Ex×Tn
 |.mk k n m ts xs bs al,t=>
  if Wr (t.left-1)<0 then(fS,t.at (Wr (t.left-1)))
  else if k=3 then mq C n ts (t.at (Wr (t.left-1)))
  else
   let a:=dj C ts (t.at (Wr (t.left-1)))
   let b:=dj C (fx bs) a.2
   let c:=if k=6 then(bs.map (fun _=>fS),b.2)else gm C bs b.2
   let d:=fT C xs c.2
   let e:=gL C al d.2
   (.mk k n m a.1 d.1 (fy bs b.1 c.1) e.1,e.2)
noncomputable def fT(C:Tc):List Ex->Tn->List Ex×Tn
 |[],t=>([],t)
 |x::l,t=>((dp C x t).1::(fT C l (dp C x t).2).1,(fT C l (dp C x t).2).2)
noncomputable def gm(C:Tc):List Bd->Tn->List Ex×Tn
 |[],t=>([],t)
 |.mk _ _ v::l,t=>((dp C v t).1::(gm C l (dp C v t).2).1,(gm C l (dp C v t).2).2)
noncomputable def gL(C:Tc):List Al->Tn->List Al×Tn
 |[],t=>([],t)
 |.mk k c m vs b::l,t=>(.mk k c m vs (dp C b t).1::(gL C l (dp C b t).2).1,(gL C l (dp C b t).2).2)
end
structure Mk where
 row:List iQ
 at_:List (ByteArray×Nat)
 waits:List (ByteArray×iQ)
 aj:List Df
 size:Int
open Classical in
noncomputable def qB(ds:List Df)(m:Mk)(d:Nat)(l:List Ty):Except Int Mk:=
 let r:=mo ((ds[d]?.map Df.name).getD ⟨#[]⟩) l
 if r.2=false then .error 4
 else match aJ m.at_ r.1 with
  |some i=>if IL (m.row[i]?.map some) d l then .ok m else .error 122
  |none=>if m.row.length=1000 then .error 121
   else .ok { m with row:=m.row++[⟨d,l,r.1⟩],at_:=bS m.at_ r.1 m.row.length,waits:=bS m.waits r.1 ⟨d,l,r.1⟩}
def pH:List ByteArray->List Ty->List (ByteArray×Ty)->List (ByteArray×Ty)
 |s::l,t::ts,m=>pH l ts (bS m s t)
 |_,_,m=>m
noncomputable def layAll(ds:List Df):List (Option iQ)->Mk->Except Int Mk
 |[],m=>.ok m
 |none::_,_=>.error 4
 |some n::l,m=>if n.name.size=0 then .error 4 else match qB ds m n.jR n.types with
  |.error e=>.error e
  |.ok m'=>layAll ds l m'
noncomputable def tA(p:Pg)(D:List (ByteArray×Nat))(m:Mk)(name:ByteArray):Option (Except Int Mk):=match aJ m.waits name with
 |none=>none
 |some x=>match p.aj[x.jR]? with
  |none=>none
  |some d0=>
   let C:Tc:=⟨p.aj,D,pH d0.params x.types []⟩
   let a:=dj C [d0.type] ⟨Wr (100000-m.size),[],[]⟩
   let b:=dp C d0.body a.2
   let d:Df:=⟨name,[],a.1.headD Dl,b.1⟩
   let size:=Wr (m.size+Pg.size ⟨[],[d]⟩)
   some (if b.2.left<0 then .error 4
   else if size>100000 then .error 4
   else layAll p.aj b.2.bR { m with waits:=gq m.waits name,aj:=m.aj++[d],size:=size})
noncomputable def qC(p:Pg)(D:List (ByteArray×Nat)):Nat->Nat->Mk->Option (Except Int Mk)
 |0,_,_=>none
 |n+1,i,m=>match m.row[i]? with
  |none=>some (.ok m)
  |some x=>match tA p D m x.name with
   |none=>none
   |some (.error e)=>some (.error e)
   |some (.ok m')=>qC p D n (i+1) m'
abbrev Tx:ByteArray:=⟨#[85,110,105,116]⟩
abbrev Dm:Ty:=.mk 4 Tx []
abbrev Dn:Pg:=⟨[],[]⟩
noncomputable def Dp(p:Pg)(entry:ByteArray):Option (Int×Pg):=
 if fe p≠0 then some (fe p,Dn)
 else match aJ (fR p.aj 0 []) entry with
  |none=>some (120,Dn)
  |some d=>match qB p.aj ⟨[],[],[],[],Pg.size ⟨p.aK,[]⟩⟩ d (((p.aj[d]?.map Df.params).getD []).map (fun _=>Dm))with
   |.error e=>some (e,Dn)
   |.ok m=>match qC p (fR p.aj 0 []) 1001 0 m with
    |none=>none
    |some (.error e)=>some (e,Dn)
    |some (.ok m')=>if fe ⟨p.aK,m'.aj⟩≠0 then some (4,Dn)else some (0,⟨p.aK,m'.aj⟩)
end
section
open Go Go.W
structure TA where
 tb:Nat
 pm:Nat
 md:Nat
 mb:Nat
 ms:Nat
 ad:Option Addr
def gM(w:World)(A:TA)(left:Int)(vn:Value):Prop:=w.heap[A.tb]?=some (.cells [ptr A.pm,.map (some A.mb),I left,vn,.map (some A.ms)].toArray 127 (0,0))
theorem alm(a8:List (ByteArray×Ty))(t:Ty)(left:Int):cZ a8 t left=if Wr (left - 1) < 0 then (Dl,Wr (left - 1)) else match (if t.kind=2 then aJ a8 t.name else none) with
   |some u=>if Wr (Wr (left-1)-Wr (u.size-1))<0 then(Dl,Wr (Wr (left-1)-Wr (u.size-1)))else(u,Wr (Wr (left-1)-Wr (u.size-1)))
   |none=>(.mk t.kind t.name (dz a8 t.args (Wr (left-1))).1,(dz a8 t.args (Wr (left-1))).2):=by cases t;rw[cZ];rfl
theorem abi(a8:List (ByteArray×Ty)){l:List Ty}{i:Nat}(hi:i<l.length)(L:Int):dz a8 (l.drop i) L=((cZ a8 l[i] L).1::(dz a8 (l.drop (i+1)) (cZ a8 l[i] L).2).1,(dz a8 (l.drop (i+1)) (cZ a8 l[i] L).2).2):=by
 rw[Ω hi,dz]
theorem abj(w:World)(B:Nat->Prop):aR w B cS Dl:=MN (eB _ _ _ _) 0 _
theorem Nn{a8:List (ByteArray×Ty)}{A:TA}{vn:Value}(t:Ty):∀ {w:World} {S:Nat→Prop} {cs:List Value} {left:Int},aR w (Out S w) cs t→gM w A left vn→bQ w A.mb (pd w (Out S w)) a8→S A.tb→A.mb≠A.tb→(∀ b,S b→b < w.heap.size) →
   bu Tryz.prog 40 [ptr A.tb,.agg cs.toArray] w fun r w'=>(∃fg:List Value,r=.agg fg.toArray/\aR w' (Out S w') fg (cZ a8 t left).1)/\gM w' A (cZ a8 t left).2 vn/\Mod (· = A.tb) w w':=by
 induction t using Ty.ind with
 |h t ih=>
 intro w S cs left h hT mY Dq FJ hS;obtain⟨v,rfl,hl⟩:=h.cells;obtain⟨a,c,rfl⟩:=bq hl;have No:=bP hT;have aq6:∀b,b=A.tb->S b:=fun b hb=>by rw[hb];exact Dq
 have hB:∀b,Out S w b->¬b=A.tb:=fun b hb e=>hb.2 (e ▸ Dq)
 refine γ Tryz.f40 ?_;rw[alm];(try simp only[go_sem,simprocAttr]);refine bZ rfl ?_;intro w1 au ak cw;(try simp only[go_sem,simprocAttr]);refine cX ?_;intro w2 az ai bU;have au:=ai.at au Ψ;have bo:=ak.trans ai;have Fu:gM w2 A left vn:=bo.at hT Ψ;(try simp only[go_sem,simprocAttr,cell_of Fu,Value.cells]);refine eK rfl rfl Fu rfl (by simp) ?_;intro w3 rB aw dU;have rB:gM w3 A (Wr (left-1)) vn:=rB;have au:=aw.at au (by omega);have az:=aw.at az (by omega);have bz:Mod (· = A.tb) w w3:=(aq bo).trans aw;(try simp only[go_sem,simprocAttr,cell_of rB,Value.cells]);cases pb:decide (Wr (left-1)<0)with
 |true=>
  have hn:=of_decide_eq_true pb;rw[if_pos hn];(try simp only[go_sem,simprocAttr]);refine bN (vs:=cS) (cs:=cS) rfl rfl az rfl rfl vF ?_;intro w4 bm aD dL;(try simp only[go_sem,simprocAttr,aM,RV.ev,aE (n:=3) bm rfl,aN]);exact⟨⟨_,rfl,abj _ _⟩,aD.at rB (by omega),bz.step aD (fun x hx hl=>by omega)⟩
 |false=>
 have hn:=of_decide_eq_false pb;rw[if_neg hn];(try simp only[go_sem,simprocAttr,cell_of au,Value.cells]);have bX:w3.heap.size=w.heap.size+2:=by omega
 refine Ca (fun ρ w'=>Mod (fun _=>False) w3 w'/\(if t.kind=2 then aJ a8 t.name else none)=none/\ρ.get 0=some (ptr A.tb)/\ρ.get 3=some (ptr w.heap.size)/\ρ.get 4=some (ptr w1.heap.size)) ?_ ?_
 .cases hk:t.kind == 2 with
  |false=>
   have tY:¬t.kind=2:=by simpa using hk
   (try simp only[go_sem,simprocAttr,if_neg tY]);exact .refl _ _
  |true=>
   have tY:t.kind=2:=by simpa using hk
   have aln:bQ w3.drew A.mb (pd w3.drew (Out S w)) a8:=bQ.mod mY bz.drew FJ (fun _ _ x=>x.up bz.drew hB (fun _ h=>h));(try simp only[go_sem,simprocAttr,cell_of rB,cell_of au,Value.cells]);refine HH (Rr:=pd w3.drew (Out S w)) (k:=t.name) (b0:=A.mb) (kt:=9) (et:=dH) (zc:=cS) rfl rfl rfl rfl (fun w=>Tryz.zeroValue52 w) ⟨rfl,vF⟩ rfl aln
    (fun v y hr=>by obtain⟨cs,rfl,bL⟩:=hr;exact⟨cs,rfl,bL.len,bL.one⟩) (fun p hp=>by
     have hd:w3.drew.heap.size=w3.heap.size:=rfl;simp only[List.mem_cons,List.not_mem_nil,or_false]at hp
     rcases hp with rfl |rfl |rfl<;>(simp only;omega)) (by decide) ?_
   intro w4 nJ cz u hold g5 g6 bY me abk cJ vH;have aD:Mod (fun _=>False) w3 w4:=me.dG;have g0:nJ.get 0=some (ptr A.tb):=(hold 0 (by decide)).trans rfl;have g3:nJ.get 3=some (ptr w.heap.size):=(hold 3 (by decide)).trans rfl;have g4:nJ.get 4=some (ptr w1.heap.size):=(hold 4 (by decide)).trans rfl;have Bz:gM w4 A (Wr (left-1)) vn:=aD.at rB Ψ;have az:=aD.at az Ψ;have g5:nJ.get 5=some (ptr w3.heap.size):=g5;have bY:w4.heap[w3.heap.size]?=some (.cells cz.toArray dH (0,0)):=bY;rcases vH with⟨jb,rfl⟩ |⟨x,hx,hr,rfl⟩
   ·(try simp only[go_sem,simprocAttr,g0,g3,g4,g5,g6]);exact⟨aD,by rw[if_pos tY,jb]⟩
   .obtain⟨fg,re,bL⟩:=hr;have re:cz=fg:=by have:=congrArg Array.toList (show cz.toArray=fg.toArray by cases re;rfl);simpa using this
    subst re;have PH:(if t.kind=2 then aJ a8 t.name else none)=some x:=by rw[if_pos tY,hx]
    rw[PH];simp only;have xJ:aR w4 (Out S w) cz x:=bL.up me aA (fun _ h=>h);(try simp only[go_sem,simprocAttr,g0,g3,g4,g5,g6,cell_of Bz,Value.cells,aE (n:=3) bY abk,cY]);refine aL (by rfl) ?_;refine(aaf x (xJ.mod (Mod.drew (.refl (fun _=>False) w4)) aA)).mono ?_;rintro _ w5 ⟨rfl,H3⟩;have aH:Mod (fun _=>False) w4 w5:=H3.dG;have pI:gM w5 A (Wr (left-1)) vn:=aH.at Bz Ψ;(try simp only[go_sem,simprocAttr,g0,g4,g5]);refine⟨aH.bO _ (bP Bz) Ψ,?_⟩;refine eK (b:=A.tb) (off:=2) (by(try simp only[go_sem,simprocAttr,g0])) rfl pI rfl (by simp) ?_;intro w6 lL aG fw;have lL:gM w6 A (Wr (Wr (left-1)-Wr (x.size-1))) vn:=lL;have z4:=aD.size;have z5:=aH.size;have az:=aG.at (aH.at az Ψ) (by omega);have bY:=aG.at (aH.at bY Ψ) (by omega);have hH:Mod (· = A.tb) w w6:=((bz.trans (aq aD)).trans (aq aH)).trans aG;(try simp only[go_sem,simprocAttr,g0,g4,g5,cell_of lL,Value.cells]);cases abl:decide (Wr (Wr (left-1)-Wr (x.size-1))<0)with
    |true=>
     rw[if_pos (of_decide_eq_true abl)];(try simp only[go_sem,simprocAttr,g4]);refine bN (vs:=cS) (cs:=cS) rfl rfl az rfl rfl vF ?_;intro w7 dh aO jn;(try simp only[go_sem,simprocAttr,aM,RV.ev,aE (n:=3) dh rfl,aN]);exact⟨⟨_,rfl,abj _ _⟩,aO.at lL (by omega),hH.step aO (fun x hx hl=>by omega)⟩
    |false=>
     rw[if_neg (of_decide_eq_false abl)];have HC:Mod (· = A.tb) w4 w6:=(aq aH).trans aG
     have xF:aR w6 (Out (fun b=>S b\/b=w1.heap.size) w6) cz x:=xJ.up HC hB (fun b hb=>⟨by have:=hb.1;omega,fun hh=>by
      rcases hh with h |h
      ·exact hb.2 h
      ·have:=hb.1;omega⟩)
     (try simp only[go_sem,simprocAttr,g4,g5,aE (n:=3) bY abk]);refine aL (by rfl) ?_
     refine(aah x xF (fun b hb=>by
      rcases hb with h |h
      ·have:=hS b h;omega
      ·omega)).mono ?_
     rintro _ w7 ⟨⟨cr,rfl,Np⟩,aO⟩;(try simp only[go_sem,simprocAttr,g4]);refine bN (vs:=cr) (cs:=cS) rfl rfl (aO.at az Ψ) Np.len rfl Np.one ?_;intro w8 dW aZ kD;(try simp only[go_sem,simprocAttr,aM,RV.ev,aE (n:=3) dW Np.len,aN]);have z7:=aO.size;refine⟨⟨_,rfl,?_⟩,aZ.at (aO.at lL Ψ) (by omega),(hH.trans (aq aO)).step aZ (fun x hx hl=>by omega)⟩;exact Np.up aZ (fun b hb e=>hb.2 (.inr e)) (fun b hb=>⟨by have:=hb.1;omega,fun h=>hb.2 (.inl h)⟩)
 rintro ρ w9 ⟨aQ,jb,g0,g3,g4⟩;rw[jb];simp only;have au:=aQ.at au Ψ;have az:=aQ.at az Ψ;have BA:gM w9 A (Wr (left-1)) vn:=aQ.at rB Ψ;have nv:Mod (· = A.tb) w w9:=bz.trans (aq aQ);(try simp only[go_sem,simprocAttr,g0,g3,g4,cell_of au,Value.cells]);refine eC (n:=3) (vs:=fG t.kind t.name) rfl rfl (oo _ _) ?_;intro cD eM bD ou;have au:=bD.at au Ψ;have az:=bD.at az Ψ;have IM:gM cD A (Wr (left-1)) vn:=bD.at BA Ψ;have Qy:Mod (· = A.tb) w cD:=nv.trans (aq bD);have z9:=aQ.size;have z10:=bD.size;have aq7:=bP eM;have hlen:=dI hl;have Tz:t.args.length<=1099511627776:=by
  obtain⟨Lc,ze,Ld,_⟩:=hl;have:=ze.2;omega
 obtain⟨S1,nA⟩:∃S1:Nat->Prop,S1=fun b=>S b\/b=w1.heap.size\/b=w9.heap.size:=⟨_,rfl⟩
 have q1:∀b,S1 b->b<cD.heap.size:=fun b hb=>by
  rw[nA]at hb;rcases hb with h |h |h
  .have:=hS b h;omega
  .omega
  .omega
 have s1t:S1 A.tb:=by rw[nA];exact .inl Dq
 have s1o:S1 w9.heap.size:=by rw[nA];exact .inr (.inr rfl)
 have alo:∀b,b<w.heap.size->S1 b->S b:=fun b hb h=>by
  rw[nA]at h;rcases h with h |h |h
  .exact h
  .omega
  .omega
 (try simp only[go_sem,simprocAttr,cell_of au,Value.cells]);refine og (fun ρ w'=>∃v fp,Mod (· = A.tb) w w'/\Gr S1 cD.heap.size w' dH 3 v (fun w B r t=>aR w B r t) (dz a8 t.args (Wr (left-1))).1 fp/\w'.heap[w9.heap.size]?=some (.cells [I t.kind,.string t.name,v].toArray dH (0,0))/\w'.heap[w1.heap.size]?=some (.cells cS.toArray dH (0,0))/\gM w' A (dz a8 t.args (Wr (left-1))).2 vn/\ρ.get 4=some (ptr w1.heap.size)/\ρ.get 7=some (ptr w9.heap.size)) ?_ ?_
 .refine j7 (PP:=fun w'=>aR w' (Out S w)) (l:=t.args) (B:=Out S w) (fun k ρ w'=>k≤t.args.length∧(∃ v fp lk L,Mod (· = A.tb) w w'∧Gr S1 cD.heap.size w' dH 3 v (fun w B r t=>aR w B r t) lk fp∧w'.heap[w9.heap.size]? = some (.cells [I t.kind,.string t.name,v].toArray dH (0,0))∧w'.heap[w1.heap.size]? = some (.cells cS.toArray dH (0,0))∧gM w' A L vn∧lk.length≤k∧dz a8 t.args (Wr (left - 1))=(lk++(dz a8 (t.args.drop k) L).1,(dz a8 (t.args.drop k) L).2))∧ρ=[(0,ptr A.tb),(4,ptr w1.heap.size),(7,ptr w9.heap.size),(61,.slice a t.args.length c),(62,I t.args.length),(63,I k)])
   ⟨by omega,⟨.slice none 0 0,none,[],_,Qy,wv,eM,az,IM,by simp,rfl⟩,rfl⟩ hl ?_ (fun _ _ _ h=>h.one) rfl ?_ ?_
  .rintro k _ w5 ⟨hk,⟨v,fp,lk,L,hi,_⟩,rfl⟩;exact⟨⟨hl.mod hi hB (fun _ _ h=>h.mod hi hB),hk⟩,rfl,rfl,rfl⟩
  .rintro k _ w5 hk w6 r js pv ⟨_,⟨v,fp,lk,L,aH,hg,ho,hz,pI,mR,cK⟩,rfl⟩ hr cG je aG ER;rw[abi a8 hk]at cK;have xu:=aG.at ho Ψ;have XM:=aG.at hz Ψ;have lL:gM w6 A L vn:=aG.at pI Ψ;have jx:=hg.mod gV aG (fun _ h=>h.elim) q1;have hH:Mod (· = A.tb) w w6:=aH.trans (aq aG);have z6:=aG.size;have z5:=aH.size;have l9:=bP ho;have l1:=bP hz;have dd:w6.drew.heap.size=w6.heap.size:=rfl
   have IN:∀b,Out S w b->Out (SF S1 fp) w6.drew b:=fun b hb=>⟨by have:=hb.1;have:=hH.size;omega,fun hh=>by
    rcases hh with h |h
    ·exact hb.2 (alo b hb.1 h)
    ·have:=hg.new b h;have:=hb.1;omega⟩
   (try simp only[go_sem,simprocAttr,cell_of xu,Value.cells,aE (n:=3) je cG,cY]);refine aL (by rfl) ?_
   refine(ih _ (List.getElem_mem hk) (S:=SF S1 fp) (hr.up aG.drew aA IN) lL (bQ.mod mY hH.drew FJ (fun _ _ x=>x.up hH.drew hB IN)) (.inl s1t) FJ (fun b hb=>by
    rcases hb with h |h
    ·have:=q1 b h;omega
    ·have:=jx.lt b h;omega)).mono ?_
   rintro _ w7 ⟨⟨fg,rfl,ud⟩,mS,alp⟩;have aO:Mod (· = A.tb) w6 w7:=alp.dG;have yX:=aO.at xu (by omega);have Lf:=aO.at XM (by omega);have mJ:=jx.mod gV aO (fun b hb=>by rw[hb];exact s1t) q1;(try simp only[go_sem,simprocAttr]);refine⟨aO.bO _ (bP xu) (by omega),?_⟩;refine ez (cs:=fg.toArray) rfl ?_ ?_
   ·(try simp only[go_sem,simprocAttr,ud.len])
   intro w8 dW aZ kD;(try simp only[go_sem,simprocAttr]);refine⟨by rw[aZ.bO _ (bP yX) Ψ,aO.bO _ (bP xu) (by omega)],?_⟩;have rd:=mD dW;rw[ud.len]at rd;have oy:=mJ.mod gV aZ (fun _ h=>h.elim) q1;have z7:=aO.size;have z8:=aZ.size;refine ww (a:=(cZ a8 t.args[k] L).1) gV rfl oy rfl (by simp) rd (ud.aI (aq aZ)) rfl (by have:=Tz;omega) (by have:=Tz;omega) (by omega) ?_;intro v9 eE xz pJ cI Le;have TB:=cI.at (aZ.at yX Ψ) (fun h=>by have:=hg.new _ h;omega);have alq:=cI.at (aZ.at Lf Ψ) (fun h=>by have:=hg.new _ h;omega);have sy:gM eE A _ vn:=cI.at (aZ.at mS Ψ) (fun h=>by have:=hg.new _ h;omega);obtain⟨a9,c9,rfl,_⟩:=pJ.val;(try simp only[go_sem,simprocAttr]);refine eK rfl rfl TB rfl (by simp) ?_;intro dQ si ei AV;have FK:=pJ.mod gV ei (fun b hb=>by rw[hb];exact s1o) q1;have TC:=cI.size;refine⟨hk,_,xz,_,_,((((hH.trans aO).trans (aq aZ)).step cI (fun b h bg=>by have:=hg.new b h;omega))).step ei (fun b h bg=>by omega),FK,si,ei.at alq (by omega),ei.at sy (by omega),by simp;omega,?_⟩;rw[cK,List.append_assoc];rfl
  .rintro _ w5 ⟨_,⟨v,fp,lk,L,aH,hg,ho,hz,pI,mR,cK⟩,rfl⟩;rw[List.drop_length,dz,List.append_nil]at cK;rw[cK];(try simp only[go_sem,simprocAttr]);exact⟨v,fp,aH,hg,ho,hz,pI⟩
 .rintro ρ w5 ⟨v,fp,aH,hg,ho,hz,pI,g4,g7⟩
  have kP:=hg.done gV q1 (by
   rw[Tw];obtain⟨Lc,ze,Ld,_⟩:=hl
   have:=ze.2;omega)
  have TD:=j6 kP;(try simp only[go_sem,simprocAttr,g4,g7,aE (n:=3) ho rfl]);refine bN (vs:=[I t.kind,.string t.name,v]) (cs:=cS) g4 rfl hz rfl rfl (aP rfl (aP rfl (aP TD dq))) ?_;intro w6 cH aG fw;have l1:=bP hz;have Ih:Mod S1 w5 w6:=aG.aU (fun b hb=>by rw[hb,nA];exact .inr (.inl rfl));have sub:∀b,Out S1 w5 b->Out S w6 b:=fun b hb=>⟨by have:=hb.1;omega,fun hh=>hb.2 (by rw[nA];exact .inl hh)⟩
  (try simp only[go_sem,simprocAttr,aM,RV.ev,aE (n:=3) cH rfl,aN]);exact⟨⟨_,rfl,MN (aX.up kP Ih aW sub (fun r t h=>aR.up h Ih aW sub)) _ _⟩,aG.at pI (by omega),aH.step aG (fun x hx hl=>by omega)⟩
theorem abm{a8:List (ByteArray×Ty)}{A:TA}{vn:Value}{l:List Ty}{w:World}{S:Nat→Prop}{v:Value}{left:Int}(hl:aX w v 3 (Out S w) (aR w (Out S w)) l)(hT:gM w A left vn)(mY:bQ w A.mb (pd w (Out S w)) a8)(Dq:S A.tb)(FJ:A.mb≠A.tb)(hS:∀ b,S b→b < w.heap.size) :
   bu Tryz.prog 61 [ptr A.tb,v] w fun r w'=>aX w' r 3 (Out S w') (aR w' (Out S w')) (dz a8 l left).1/\gM w' A (dz a8 l left).2 vn/\Mod (· = A.tb) w w':=by
 obtain⟨a,c,rfl⟩:=bq hl;have hB:∀b,Out S w b->¬b=A.tb:=fun b hb e=>hb.2 (e ▸ Dq)
 have No:=bP hT;have hlen:=dI hl;have Tz:l.length<=1099511627776:=by
  obtain⟨Lc,ze,Ld,_⟩:=hl;have:=ze.2;omega
 refine γ Tryz.f61 ?_;refine σ ?_;refine j7 (PP:=fun w'=>aR w' (Out S w)) (l:=l) (B:=Out S w) (fun k ρ w'=>k<=l.length/\(∃v fp lk L,Mod (· = A.tb) w w'/\Gr S w.heap.size w' dH 3 v (fun w B r t=>aR w B r t) lk fp/\gM w' A L vn/\lk.length<=k/\dz a8 l left=(lk++(dz a8 (l.drop k) L).1,(dz a8 (l.drop k) L).2)/\ρ=[(0,ptr A.tb),(5,v),(8,.slice a l.length c),(9,I l.length),(10,I k)]))
  ⟨by omega,.slice none 0 0,none,[],left,.refl _ _,wv,hT,by simp,rfl,rfl⟩ hl ?_ (fun _ _ _ h=>h.one) rfl ?_ ?_
 .rintro k _ w5 ⟨hk,v,fp,lk,L,hi,_,_,_,_,rfl⟩;exact⟨⟨hl.mod hi hB (fun _ _ h=>h.mod hi hB),hk⟩,rfl,rfl,rfl⟩
 .rintro k _ w5 hk w6 r js pv ⟨_,v,fp,lk,L,aH,hg,pI,mR,cK,rfl⟩ hr cG je aG ER;rw[abi a8 hk]at cK;have lL:gM w6 A L vn:=aG.at pI Ψ;have jx:=hg.mod gV aG (fun _ h=>h.elim) hS;have hH:Mod (· = A.tb) w w6:=aH.trans (aq aG);have z5:=aH.size;have z6:=aG.size
  have IN:∀b,Out S w b->Out (SF S fp) w6 b:=fun b hb=>⟨by have:=hb.1;omega,fun hh=>by
   rcases hh with h |h
   ·exact hb.2 h
   ·have:=hg.new b h;have:=hb.1;omega⟩
  simp only[go_sem,simprocAttr,aE (n:=3) je cG];refine aL (by rfl) ?_
  refine(Nn l[k] (S:=SF S fp) (hr.up aG aA IN) lL (bQ.mod mY hH FJ (fun _ _ x=>x.up hH hB IN)) (.inl Dq) FJ (fun b hb=>by
   rcases hb with h |h
   ·have:=hS b h;omega
   ·have:=jx.lt b h;omega)).mono ?_
  rintro _ w7 ⟨⟨fg,rfl,ud⟩,mS,aO⟩;have mJ:=jx.mod gV aO (fun b hb=>by rw[hb];exact Dq) hS;refine σ ?_;refine ez (cs:=fg.toArray) rfl ?_ ?_
  .simp only[go_sem,simprocAttr,ud.len]
  intro w8 dW aZ kD;have rd:=mD dW;rw[ud.len]at rd;have oy:=mJ.mod gV aZ (fun _ h=>h.elim) hS;have z7:=aO.size;have z8:=aZ.size;refine σ ?_;refine ww (a:=(cZ a8 l[k] L).1) gV rfl oy rfl (by simp) rd (ud.aI (aq aZ)) rfl (by omega) (by omega) (by omega) ?_;intro v9 eE xz pJ cI Le;have sy:gM eE A _ vn:=cI.at (aZ.at mS Ψ) (fun h=>by have:=hg.new _ h;omega);refine σ ?_;refine⟨hk,v9,xz,_,_,((hH.trans aO).trans (aq aZ)).step cI (fun b h bg=>by have:=hg.new b h;omega),pJ,sy,by simp;omega,?_,rfl⟩;rw[cK,List.append_assoc];rfl
 .rintro _ w5 ⟨_,v,fp,lk,L,aH,hg,pI,mR,cK,rfl⟩;rw[List.drop_length,dz,List.append_nil]at cK;rw[cK];refine σ ?_;exact⟨hg.done gV hS (by omega),pI,aH⟩
end
section
open Go Go.W
abbrev abn:Nat:=186
structure Nq (w:World) (b:Nat) (s:ByteArray) (pv vB:Value) (fB:Option Nat):Prop where
 cells:w.heap[b]?=some (.cells [pv,vB].toArray abn (0,0))
 pv:pv=.pointer none\/pv=ptr b
 buf:dP w 5 1 vB (Lib.strCells s) s.size fB
 fb:∀c,fB=some c->c≠b
def yh(w:World)(b:Nat)(s:ByteArray)(fB:Option Nat):Prop:=∃pv vB,Nq w b s pv vB fB
theorem alr(w:World)(a:Addr)(v:Value):Mod (· = a.block) w (w.setCell a v):=
 ⟨by simp[World.setCell],fun k _ hk=>by simp[World.setCell,Array.getElem?_modify,Ne.symm hk],rfl,rfl,rfl⟩
section
variable {w:World} {b:Nat} {s:ByteArray} {fB:Option Nat}
theorem yh.mod(h:yh w b s fB){w':World}{R:Nat->Prop}(hm:Mod R w w')(h1:¬R b)(h2:∀c,fB=some c->¬R c):yh w' b s fB:=by
 obtain⟨pv,vB,h⟩:=h;exact⟨pv,vB,hm.at h.cells h1,h.pv,h.buf.mod hm h2,h.fb⟩
theorem abo{pv vB:Value}(h:Nq w b s pv vB fB):bu Tryz.prog 110 [ptr b] w fun r w'=>Nq w' b s (ptr b) vB fB/\Mod (· = b) w w':=by
 rcases h.pv with rfl |rfl
 .refine Calls.mono (ajV b w ((cell_of h.cells 0).trans rfl) (by simp[World.shape?,h.cells]) (by simp[World.frozen?,h.cells])) ?_;rintro e w' ⟨rfl,rfl⟩;have hm:Mod (· = b) w (w.setCell ⟨b,0,none⟩ (.pointer (some ⟨b,0,none⟩))):=alr w ⟨b,0,none⟩ _;refine⟨_,rfl,⟨?_,.inr rfl,h.buf.mod hm (fun c hc hh=>h.fb c hc hh),h.fb⟩,hm⟩;have:=h.cells;simp[World.setCell,Array.getElem?_modify,this]
 .refine Calls.mono (ajU b w ((cell_of h.cells 0).trans rfl)) ?_;rintro e w' ⟨rfl,rfl⟩;exact⟨_,rfl,h,Mod.refl _ _⟩
abbrev nQ(w:World)(b:Nat)(s:ByteArray)(fB:Option Nat)(w':World):Prop:=∃IP,yh w' b s IP/\(∀c,IP=some c->fB=some c\/w.heap.size<=c)/\Mod (fun c=>c=b\/fB=some c) w w'
theorem Nr{t:ByteArray}(h:yh w b s fB)(bV:s.size+t.size<=140737488355328):bu Tryz.prog 86 [ptr b,.string t] w fun r w'=>nQ w b (s++t) fB w':=by
 obtain⟨pv,vB,h⟩:=h;refine γ Tryz.f86 ?_;refine σ ?_;refine δ (by rfl) (abo h) ?_;rintro r w1 ⟨h1,ak⟩;have gp:=h1.cells;simp only[go_sem,simprocAttr,cell_of gp];obtain⟨i,hi,hz,cw,au⟩:∃i,Tryz.prog.info? 5=some i/\i.zero=some (.int .u8 0)/\i.size=1/\i.bytes=1:=⟨_,rfl,rfl,rfl,rfl⟩;refine ajX rfl h1.buf rfl Tryz.underlying184 Tryz.underlying9 hi hz cw au bV ?_;intro v2 w2 xt xh ai ni;obtain⟨a2,c2,rfl,_,_⟩:=xh.val;have gv:=ai.at gp (fun hh=>h1.fb b hh rfl);refine σ ?_;refine eK (off:=1) rfl rfl gv rfl (by simp) ?_;intro w3 cT aw dU;refine σ ?_;have z1:=ak.size;have l1:=bP gp;have fb2:∀c,xt=some c->c≠b:=fun c hc=>by
  rcases ni c hc with h' |⟨h',_⟩
  .exact h1.fb c h'
  .omega
 refine⟨xt,⟨_,_,cT,.inr rfl,?_,fb2⟩,fun c hc=>?_,?_⟩
 .have e:(s++t).size=s.size+t.size:=ByteArray.size_append;have e2:Lib.strCells (s++t)=Lib.strCells s++Lib.strCells t:=by simp[Lib.strCells]
  rw[e,e2];exact xh.mod aw (fun c hc hh=>fb2 c hc hh)
 .rcases ni c hc with h' |⟨h',_⟩
  .exact .inl h'
  .exact .inr (by omega)
 .exact((ak.aU (fun c hc=>.inl hc)).trans (ai.aU (fun c hc=>.inr hc))).trans (aw.aU (fun c hc=>.inl hc))
theorem IQ{x:UInt8}(h:yh w b s fB)(bV:s.size+1<=140737488355328):bu Tryz.prog 109 [ptr b,.int .u8 x.toNat] w fun r w'=>nQ w b (s++⟨#[x]⟩) fB w':=by
 obtain⟨pv,vB,h⟩:=h;refine γ Tryz.f109 ?_;refine σ ?_;refine δ (by rfl) (abo h) ?_;rintro r w1 ⟨h1,ak⟩;have gp:=h1.cells;have l1:=bP gp;simp only[go_sem,simprocAttr,cell_of gp];refine ez (cs:=([.int .u8 x.toNat]:List Value).toArray) rfl (by rfl) ?_;intro w2 az ai bU;have gv:=ai.at gp Ψ;have rd:=mD az;have z1:=ak.size;refine σ ?_;refine sN (m:=1) (news:=[.int .u8 x.toNat]) rfl (h1.buf.mod ai (fun _ _ h=>h)) rfl (fun h=>by cases h) rd (aP rfl dq) rfl (by omega) (by omega) ?_;intro v3 w3 jh uD aw kW;obtain⟨a3,c3,rfl,_,_⟩:=uD.val;have cT:=aw.at gv (fun hh=>h1.fb b hh rfl);refine σ ?_;refine eK (off:=1) rfl rfl cT rfl (by simp) ?_;intro w4 lG aD dL;refine σ ?_;have fb3:∀c,jh=some c->c≠b:=fun c hc=>by
  rcases kW c hc with h' |⟨h',_⟩
  .exact h1.fb c h'
  .omega
 refine⟨jh,⟨_,_,lG,.inr rfl,?_,fb3⟩,fun c hc=>?_,?_⟩
 .have e:(s++⟨#[x]⟩).size=s.size+1:=ByteArray.size_append;have e2:Lib.strCells (s++⟨#[x]⟩)=Lib.strCells s++[.int .u8 x.toNat]:=by simp[Lib.strCells]
  rw[e,e2];exact uD.mod aD (fun c hc hh=>fb3 c hc hh)
 .rcases kW c hc with h' |⟨h',_⟩
  .exact .inl h'
  .exact .inr (by omega)
 .exact(((ak.aU (fun c hc=>.inl hc)).trans (aq ai)).trans (aw.aU (fun c hc=>.inr hc))).trans (aD.aU (fun c hc=>.inl hc))
theorem nQ.then{s2:ByteArray}{w1 w2:World}{TF:Option Nat}(h1:∀c,TF=some c->fB=some c\/w.heap.size<=c)(m1:Mod (fun c=>c=b\/fB=some c) w w1)(h2:nQ w1 b s2 TF w2):nQ w b s2 fB w2:=by
 obtain⟨fB2,k1,k2,k3⟩:=h2;refine⟨fB2,k1,fun c hc=>?_,m1.step k3 (fun c hc hl=>?_)⟩
 .rcases k2 c hc with h |h
  .exact h1 c h
  .exact .inr (by have:=m1.size;omega)
 .rcases hc with h |h
  .exact .inl h
  .rcases h1 c h with h |h
   .exact .inr h
   .omega
end
end
section
open Go Go.W
theorem Ty.abp(t:Ty):t.text=zY t.kind t.name (iz t.args):=by cases t;rw[Ty.text];rfl
theorem IS:∀(l:List Ty),iz l=l.map Ty.text
 |[]=>by rw[iz];rfl
 |t::l=>by rw[iz,IS l];rfl
theorem TG:∀(l m:List ByteArray),jQ (l++m)=jQ l++jQ m
 |[],m=>by show jQ m=ByteArray.empty++jQ m;rw[ByteArray.empty_append]
 |s::l,m=>by rw[List.cons_append,jQ,jQ,TG l m];simp only[ByteArray.append_assoc]
theorem abq{l:List Ty}{k:Nat}(h:k<l.length):jQ (iz (l.take (k+1)))=jQ (iz (l.take k))++IK++l[k].text:=by
 rw[IS,IS,List.take_succ_eq_append_getElem h,List.map_append,TG,ByteArray.append_assoc]
 congr 1
 show jQ [l[k].text]=_;rw[jQ,jQ];show IK++l[k].text++ByteArray.empty=_;rw[ByteArray.append_empty]
theorem alu(l:List Ty)(k:Nat):(jQ (iz (l.take k))).size<=(jQ (iz l)).size:=by
 conv=>rhs;rw[<- List.take_append_drop k l,IS,List.map_append,TG,ByteArray.size_append]
 rw[IS];omega
theorem abr{t:Ty}(h:t.may=true):(t.kind=3->t.args.length=2)/\(t.kind≠1->t.kind≠3->t.name.size<=4096/\1<=t.name.size)/\yW t.args=true:=by
 rw[t.Qe,Bool.and_eq_true]at h;obtain⟨h1,h2⟩:=h;refine⟨fun hk=>?_,fun k1 k3=>?_,h2⟩
 .unfold oY at h1;rw[hk]at h1;have:(bw t.name bM&&((t.args.length:Int)==2))=true:=h1;rw[Bool.and_eq_true]at this;have:=this.2;simp at this;omega
 .unfold oY at h1;rw[if_neg (by simpa using k1)]at h1;have emp:t.name.size=0->t.name=⟨#[]⟩:=fun h=>ByteArray.ext (Array.eq_empty_of_size_eq_zero h)
  split at h1
  .rw[Bool.and_eq_true]at h1;have:=h1.1;refine⟨?_,?_⟩
   .unfold xp at this;simp only[Bool.and_eq_true,decide_eq_true_eq]at this;omega
   .apply Classical.byContradiction;intro hn;rw[emp (by omega)]at this;exact absurd this (by decide +kernel)
  .rw[if_neg (by simpa using k3)]at h1
   split at h1
   .rw[Bool.and_eq_true]at h1;have:=h1.1;refine⟨?_,?_⟩
    .unfold xq at this;simp only[Bool.and_eq_true,Bool.not_eq_true',Bool.or_eq_false_iff,decide_eq_false_iff_not]at this;omega
    .apply Classical.byContradiction;intro hn;rw[emp (by omega)]at this;exact absurd this (by decide +kernel)
   .cases h1
theorem abt{l:List Ty}(h:yW l=true):∀t∈l,t.may=true:=by
 induction l with
 |nil=>intro t ht;cases ht
 |cons a l ih=>
  rw[yW,Bool.and_eq_true]at h;intro t ht;rcases List.mem_cons.1 ht with rfl |ht
  .exact h.1
  .exact ih h.2 t ht
theorem alv(t:Ty):t.may=true->t.text.size+1<=5000*t.cN/\1<=t.text.size:=by
 induction t using Ty.ind with
 |h t ih=>
 intro h;obtain⟨h1,h2,h3⟩:=abr h;have hm:=abt h3;rw[t.abp,t.AN];unfold zY;have sp:∀(l:List Ty),(∀u∈l,u.text.size+1<=5000*u.cN)->(jQ (iz l)).size<=5000*cj l:=by
  intro l
  induction l with
  |nil=>intro _;rw[iz,cj];exact Nat.zero_le _
  |cons a l jZ=>
   intro hu;have:=hu a (by simp);have:=jZ (fun u Qi=>hu u (by simp[Qi]));have e:IK.size=1:=rfl;rw[iz,jQ,cj,ByteArray.size_append,ByteArray.size_append,e];omega
 split
 .have:Nl.size=3:=rfl;omega
 .rename_i k1
  split
  .rename_i k3;obtain ⟨x,y,iG⟩:∃ x y,t.args=[x,y]:=by
    match t.args,h1 k3 with
    |[x,y],_=>exact⟨x,y,rfl⟩
   rw[iG,iz,iz,iz,cj,cj,cj];have hx:=(ih x (by rw[iG];simp) (hm x (by rw[iG];simp))).1;have hy:=(ih y (by rw[iG];simp) (hm y (by rw[iG];simp))).1;have e1:kz.size=1:=rfl;have e2:Dk.size=4:=rfl;have e3:ye.size=1:=rfl;simp only[ByteArray.size_append,e1,e2,e3];omega
  .rename_i k3;have hn:=h2 k1 k3
   split
   .omega
   .have:=sp t.args (fun u hu=>(ih u hu (hm u hu)).1);have e1:kz.size=1:=rfl;have e3:ye.size=1:=rfl;simp only[ByteArray.size_append,e1,e3];omega
theorem alw(t:Ty):∀ {w:World} {b:Nat} {s:ByteArray} {fB:Option Nat} {cs:List Value} {B:Nat→Prop},aR w B cs t→t.may=true→yh w b s fB→(∀ c,B c→c≠b∧fB≠some c∧c < w.heap.size)→s.size+t.text.size≤140737488355328 →
   bu Tryz.prog 82 [ptr b,.agg cs.toArray] w fun r w'=>nQ w b (s++t.text) fB w':=by
 induction t using Ty.ind with
 |h t ih=>
 intro w b s fB cs B h Ns IT hB bV;obtain⟨h2,_,h3⟩:=abr Ns;have hm:=abt h3;obtain⟨v,rfl,hl⟩:=h.cells;obtain⟨a,c,rfl⟩:=bq hl;have lb:b<w.heap.size:=by obtain⟨_,_,hx⟩:=IT;exact bP hx.cells
 have lf:∀c,fB=some c->c<w.heap.size:=fun c hc=>by obtain⟨_,_,hx⟩:=IT;exact hx.buf.lt hc
 refine γ Tryz.f82 ?_;(try simp only[go_sem,simprocAttr]);refine bZ rfl ?_;intro w1 au ak cw;have Nt:yh w1 b s fB:=IT.mod ak Ψ (fun _ _ h=>h);have aI:∀{w'},Mod (fun c=>c=b\/fB=some c) w1 w'->w'.heap[w.heap.size]?=some (.cells [I t.kind,.string t.name,.slice a t.args.length c].toArray dH (0,0))/\aX w' (.slice a t.args.length c) 3 B (aR w' B) t.args:=fun hm=>by
  have hn:∀b',B b'->¬(b'=b\/fB=some b'):=fun b' ky hh=>by
   rcases hh with h |h
   .exact(hB b' ky).1 h
   .exact(hB b' ky).2.1 h
  exact⟨hm.at au (fun hh=>by
   rcases hh with h |h
   ·omega
   ·have:=lf _ h;omega),(hl.mod ak aA (fun _ _ h=>h.mod ak aA)).mod hm hn (fun _ _ h=>h.mod hm hn)⟩
 have fin:∀{w'} {x:ByteArray},nQ w1 b x fB w'->nQ w b x fB w':=fun{w'} {x} hx=>nQ.then (TF:=fB) (fun _ h=>.inl h) (aq ak) hx
 have Nu:∀{IP:Option Nat} {w':World},(∀c,IP=some c->fB=some c\/w1.heap.size<=c)->w1.heap.size<=w'.heap.size->∀c,B c->c≠b/\IP≠some c/\c<w'.heap.size:=fun h1 h2 c hc=>by
  obtain⟨k1,k2,k3⟩:=hB c hc;refine⟨k1,fun e=>?_,by omega⟩;rcases h1 c e with h |h
  .exact k2 h
  .omega
 rw[t.abp]at bV ⊢;(try simp only[go_sem,simprocAttr,cell_of au,Value.cells]);cases k1:t.kind == 1 with
 |true=>
  have ht:zY t.kind t.name (iz t.args)=Nl:=by unfold zY;rw[if_pos (by simpa using k1)]
  rw[ht]at bV ⊢;(try simp only[go_sem,simprocAttr]);refine aL (by rfl) ?_;refine(Nr (t:=Nl) Nt bV).mono ?_;rintro r w2 hp;(try simp only[go_sem,simprocAttr,aM,aN]);exact fin hp
 |false=>
 (try simp only[go_sem,simprocAttr]);cases k3:t.kind == 3 with
 |true=>
  have hlen:=h2 (by simpa using k3);obtain⟨x,y,iG⟩:∃x y,t.args=[x,y]:=by
   match t.args,hlen with
   |[x,y],_=>exact⟨x,y,rfl⟩
  have ht:zY t.kind t.name (iz t.args)=kz++x.text++Dk++y.text++ye:=by
   unfold zY;rw[if_neg (by simpa using k1),if_pos (by simpa using k3),iG,iz,iz,iz]
  rw[ht]at bV ⊢;have z1:kz.size=1:=rfl;have z2:Dk.size=4:=rfl;have z3:ye.size=1:=rfl;simp only[ByteArray.size_append,z1,z2,z3]at bV;(try simp only[go_sem,simprocAttr]);refine aL (by rfl) ?_;refine(IQ (x:=40) Nt (by omega)).mono ?_;rintro r w2 ⟨f2,p2,n2,m2⟩;obtain⟨az,gX⟩:=aI m2;have h0:0<t.args.length:=by omega
  obtain⟨ad,cc,r0,e,o0,gi,pZ,_⟩:=dT gX h0;cases e;have b0:(0:Int)<=0/\(0:Int)<t.args.length:=by omega
  have hx:t.args[0]=x:=by simp[iG]
  have hy:t.args[1]=y:=by simp[iG]
  rw[Nat.zero_mul,add_zero']at pZ;(try simp only[go_sem,simprocAttr,bG,bH,cell_of az,Value.cells,b0,Nat.zero_mul,add_zero',pZ]);refine aL (by rfl) ?_;refine(ih _ (List.getElem_mem h0) o0 (hm _ (List.getElem_mem h0)) p2 (Nu n2 m2.size) (by rw[hx];simp only[ByteArray.size_append];have:ByteArray.size ⟨#[40]⟩=1:=rfl;omega)).mono ?_;rintro r3 w3 sh;obtain⟨f3,p3,n3,m3⟩:=nQ.then n2 m2 sh;rw[hx]at p3;(try simp only[go_sem,simprocAttr]);refine aL (by rfl) ?_;refine(Nr (t:=Dk) p3 (by simp only[ByteArray.size_append,z2];have:ByteArray.size ⟨#[40]⟩=1:=rfl;omega)).mono ?_;rintro r4 w4 CM;obtain⟨f4,p4,n4,m4⟩:=nQ.then n3 m3 CM;obtain⟨bm,ZZ⟩:=aI m4;have h1:1<t.args.length:=by omega
  obtain⟨ad4,cc4,r1,e4,nu,aq8,abu,_⟩:=dT ZZ h1;obtain⟨e5,-,-⟩:=cU e4;cases e5;have b1:(0:Int)<=1/\(1:Int)<t.args.length:=by omega
  rw[Nat.one_mul,add_pos _ (n:=3) (by decide)]at abu;(try simp only[go_sem,simprocAttr,bG,bH,cell_of bm,Value.cells,b1,show(1:Int).toNat=1 from rfl,abu]);refine aL (by rfl) ?_;refine(ih _ (List.getElem_mem h1) nu (hm _ (List.getElem_mem h1)) p4 (Nu n4 m4.size) (by rw[hy];simp only[ByteArray.size_append,z2];have:ByteArray.size ⟨#[40]⟩=1:=rfl;omega)).mono ?_;rintro r5 w5 xO;obtain⟨f5,p5,n5,m5⟩:=nQ.then n4 m4 xO;rw[hy]at p5;(try simp only[go_sem,simprocAttr]);refine aL (by rfl) ?_;refine(IQ (x:=41) p5 (by simp only[ByteArray.size_append,z2];have:ByteArray.size ⟨#[40]⟩=1:=rfl;omega)).mono ?_;rintro r6 w6 zW;have zW:=fin (nQ.then n5 m5 zW);(try simp only[go_sem,simprocAttr,aM,aN]);have e:s++(kz++x.text++Dk++y.text++ye)=s++⟨#[40]⟩++x.text++Dk++y.text++⟨#[41]⟩:=by simp only[ByteArray.append_assoc]
  rw[e];exact zW
 |false=>
 have ht:zY t.kind t.name (iz t.args)=if t.args.length=0 then t.name else kz++t.name++jQ (iz t.args)++ye:=by
  unfold zY;rw[if_neg (by simpa using k1),if_neg (by simpa using k3)];cases t.args with
  |nil=>rfl
  |cons u l=>rfl
 rw[ht]at bV ⊢;(try simp only[go_sem,simprocAttr,cell_of au,Value.cells]);cases k0:((t.args.length:Int)==0)with
 |true=>
  have CG:t.args.length=0:=by have:=beq_iff_eq.1 k0;omega
  rw[if_pos CG]at bV ⊢;(try simp only[go_sem,simprocAttr,cell_of au,Value.cells]);refine aL (by rfl) ?_;refine(Nr (t:=t.name) Nt bV).mono ?_;rintro r w2 hp;(try simp only[go_sem,simprocAttr,aM,aN]);exact fin hp
 |false=>
  have CG:¬t.args.length=0:=by have:=beq_eq_false_iff_ne.1 k0;omega
  rw[if_neg CG]at bV ⊢;have z1:kz.size=1:=rfl;have z3:ye.size=1:=rfl;have z4:IK.size=1:=rfl;simp only[ByteArray.size_append,z1,z3]at bV;(try simp only[go_sem,simprocAttr]);refine aL (by rfl) ?_;refine(IQ (x:=40) Nt (by omega)).mono ?_;rintro r w2 ⟨f2,p2,n2,m2⟩;obtain⟨az,_⟩:=aI m2;(try simp only[go_sem,simprocAttr,cell_of az,Value.cells]);refine aL (by rfl) ?_;refine(Nr (t:=t.name) p2 (by simp only[ByteArray.size_append];have:ByteArray.size ⟨#[40]⟩=1:=rfl;omega)).mono ?_;rintro r3 w3 sh;have sh:=nQ.then n2 m2 sh;have aw:Mod (fun c=>c=b\/fB=some c) w1 w3:=by obtain⟨_,_,_,h⟩:=sh;exact h
  obtain⟨aS,cG⟩:=aI aw;(try simp only[go_sem,simprocAttr,cell_of aS,Value.cells]);refine og (fun ρ w'=>nQ w1 b (s++(kz++t.name++jQ (iz t.args))) fB w'/\ρ.get 0=some (ptr b)) ?_ ?_
  .refine j7 (PP:=fun w'=>aR w' B) (l:=t.args) (B:=B) (fun k ρ w'=>k≤t.args.length∧nQ w1 b (s++(kz++t.name++jQ (iz (t.args.take k)))) fB w'∧ρ=[(0,ptr b),(23,.slice a t.args.length c),(24,I t.args.length),(25,I k)])
    ⟨by omega,by
     have e:s++(kz++t.name++jQ (iz (t.args.take 0)))=s++⟨#[40]⟩++t.name:=by
      rw[List.take_zero,iz];show s++(kz++t.name++ByteArray.empty)=_;simp only[ByteArray.append_empty,ByteArray.append_assoc]
     rw[e];exact sh,rfl⟩ cG ?_ (fun _ _ _ h=>h.one) rfl ?_ ?_
   .rintro k _ w5 ⟨hk,⟨_,_,_,tN⟩,rfl⟩;exact⟨⟨(aI tN).2,hk⟩,rfl,rfl,rfl⟩
   .rintro k _ w5 hk w6 r js pv ⟨_,⟨f5,p5,n5,m5⟩,rfl⟩ hr gi je aG ER;have p6:yh w6 b _ f5:=p5.mod aG Ψ (fun _ _ h=>h);have m6:Mod (fun c=>c=b∨fB=some c) w1 w6:=m5.trans (aq aG);have hle:=alu t.args (k+1);rw [abq hk] at hle;simp only [ByteArray.size_append,z4] at hle;have l5:=m5.size;(try simp only [go_sem,simprocAttr]);refine aL (by rfl) ?_;refine (IQ (x:=32) p6 (by simp only [ByteArray.size_append,z1];omega)).mono ?_;rintro r7 w7 TH;have dh:w7.heap[js]? = some (.cells r.toArray dH (0,0)):=by
     obtain⟨_,_,_,m7⟩:=TH
     exact m7.at je (fun hh=>by
      rcases hh with h |h
      ·omega
      ·have:js < w5.heap.size:=by
        obtain⟨_,_,hx⟩:=p5;exact hx.buf.lt h
       omega)
    have xI:aR w7 B r t.args[k]:=by
     obtain⟨_,_,_,m7⟩:=TH
     exact(hr.mod aG aA).mod m7 (fun c hc hh=>by
      obtain⟨k1,k2,k3⟩:=Nu n5 m6.size c hc;rcases hh with h |h
      ·exact k1 h
      ·exact k2 h)
    obtain⟨f7,p7,n7,m7⟩:=nQ.then n5 m6 TH;(try simp only[go_sem,simprocAttr,aE (n:=3) dh gi]);refine aL (by rfl) ?_;refine(ih _ (List.getElem_mem hk) xI (hm _ (List.getElem_mem hk)) p7 (Nu n7 m7.size) (by simp only[ByteArray.size_append,z1];have:ByteArray.size ⟨#[32]⟩=1:=rfl;omega)).mono ?_;rintro r8 w8 TI;have TI:=nQ.then n7 m7 TI;(try simp only[go_sem,simprocAttr]);refine⟨hk,?_⟩;have e:s++(kz++t.name++jQ (iz (t.args.take (k+1))))=s++(kz++t.name++jQ (iz (t.args.take k)))++⟨#[32]⟩++t.args[k].text:=by
     rw[abq hk];simp only[ByteArray.append_assoc]
    rw[e];exact TI
   .rintro _ w5 ⟨_,xO,rfl⟩;rw[List.take_length]at xO;(try simp only[go_sem,simprocAttr]);exact xO
  .rintro ρ w5 ⟨⟨f5,p5,n5,m5⟩,g0⟩;(try simp only[go_sem,simprocAttr,g0]);refine aL (vs:=[ptr b,.int .u8 41]) (by simp only[gW,O.ev,g0]) ?_;refine(IQ (x:=41) p5 (by simp only[ByteArray.size_append,z1];omega)).mono ?_;rintro r6 w6 zW;have zW:=fin (nQ.then n5 m5 zW);(try simp only[go_sem,simprocAttr,aM,aN]);have e:s++(kz++t.name++jQ (iz t.args)++ye)=s++(kz++t.name++jQ (iz t.args))++⟨#[41]⟩:=by simp only[ByteArray.append_assoc]
   rw[e];exact zW
theorem alx{w:World}{b n c:Nat}{pv:Value}{a:Option Addr}(h:w.heap[b]?=some (.cells [pv,.slice a n c].toArray abn (0,0))):bu Tryz.prog 83 [ptr b] w fun r w'=>r=I n/\w=w':=by
 refine γ Tryz.f83 ?_;simp only[go_sem,simprocAttr,cell_of h]
theorem aly{w:World}{b:Nat}{s:ByteArray}{pv vB:Value}{fB:Option Nat}(h:Nq w b s pv vB fB)(hs:s.size<=65536)(h0:1<=s.size):bu Tryz.prog 84 [ptr b] w fun r w'=>r=.string s/\Mod (fun c=>fB=some c) w w':=by
 obtain⟨g,c,tl,rfl,rfl,hg,hle,im⟩:=h.buf.pos h0;have hl:s.data.toList.length=s.size:=rfl;have Ax:=Lib.strCells_length s;refine Calls.mono (ajW b g c (Lib.strCells s++tl).toArray s.data.toList w ((cell_of h.cells 1).trans rfl) hg hle (by omega) (by rw[List.size_toArray,List.length_append,Ax,hl];omega) (fun j x hj=>?_) (fun e=>by rw[<- hl,e]at h0;simp at h0)) ?_
 .rw[oa];refine(cell_of hg _).trans ?_;rw[Nat.zero_add,List.getElem?_toArray,List.getElem?_append_left (by rw[Ax,<- hl];exact(List.getElem?_eq_some_iff.1 hj).1)];simp only[Lib.strCells,List.getElem?_map,hj,Option.map_some]
 .rintro e w' ⟨rfl,rfl⟩;refine⟨_,rfl,rfl,?_⟩;unfold World.freeze
  split
  .exact(Mod.refl _ _).drew
  .exact⟨by simp,fun b hb hn=>(by simp[Array.getElem?_modify,show ¬g=b from fun e=>hn (by rw[e])];rfl),rfl,rfl,rfl⟩
theorem alz(t:Ty){w:World}{B:Nat→Prop}{cs:List Value}(h:aR w B cs t)(hB:∀ c,B c→c < w.heap.size) :
   bu Tryz.prog 58 [.agg cs.toArray] w fun r w'=>(∃x:ByteArray,∃n:Int,r=.tuple #[.string x,I n]/\((yf t=none/\n≠0)\/(yf t=some x/\n=0)))/\Mod (fun _=>False) w w':=by
 refine γ Tryz.f58 ?_;(try simp only[go_sem,simprocAttr]);refine bZ rfl ?_;intro w1 au ak cw;(try simp only[go_sem,simprocAttr,aE (n:=3) (cs:=cs) au h.len]);refine aL (by rfl) ?_;refine(Xd t (h.mod ak aA)).mono ?_;rintro _ w2 ⟨rfl,ai⟩;have az:=ai.at au Ψ;have bo:=ak.trans ai;(try simp only[go_sem,simprocAttr]);cases hw:lS t != 0 with
 |true=>
  have tQ:lS t≠0:=by simpa using hw
  (try simp only[go_sem,simprocAttr,aM,RV.ev,aN]);exact⟨⟨_,_,rfl,.inl ⟨by unfold yf;rw[if_pos tQ],tQ⟩⟩,bo⟩
 |false=>
 have tQ:lS t=0:=by simpa using hw
 have Ns:t.may=true:=by
  unfold lS at tQ
  split at tQ
  .omega
  .rename_i h1;simpa using h1
 have IU:t.cN<=500:=by
  unfold lS at tQ
  split at tQ
  .omega
  .split at tQ
   .omega
   .rename_i h2;have:=XZ t (by omega);omega
 obtain⟨lu,alA⟩:=alv t Ns;(try simp only[go_sem,simprocAttr]);refine cX ?_;intro w3 aS aw dU;have az:=aw.at az Ψ;have bz:=bo.trans aw;have IT:yh w3 w2.heap.size ⟨#[]⟩ none:=⟨.pointer none,.slice none 0 0,aS,.inl rfl,dP.nil _ _ _,fun c h=>by cases h⟩;have z2:=bo.size;(try simp only[go_sem,simprocAttr,aE (n:=3) (cs:=cs) az h.len]);refine aL (by rfl) ?_;refine(alw t (h.mod bz aA) Ns IT (fun c hc=>⟨by have:=hB c hc;omega,(fun e=>by cases e),by have:=hB c hc;omega⟩) (by show 0+_<=_;omega)).mono ?_;rintro r4 w4 ⟨f4,p4,n4,m4⟩;rw[show(⟨#[]⟩:ByteArray)++t.text=t.text from ByteArray.empty_append]at p4;obtain⟨pv,vB,bf⟩:=p4;obtain⟨a4,c4,rfl,_,_⟩:=bf.buf.val
 have eX:Mod (fun _=>False) w w4:=bz.step m4 (fun c hc hl=>by
  rcases hc with h |h
  ·omega
  ·cases h)
 (try simp only[go_sem,simprocAttr]);refine aL (by rfl) ?_;refine(alx bf.cells).mono ?_;rintro _ _ ⟨rfl,rfl⟩;(try simp only[go_sem,simprocAttr]);cases sR:decide ((t.text.size:Int)>65536)with
 |true=>
  (try simp only[go_sem,simprocAttr,aM,RV.ev,aN]);have:=of_decide_eq_true sR;exact⟨⟨_,_,rfl,.inl ⟨by unfold yf;rw[if_neg (by simpa using tQ),if_pos (by omega)],by decide⟩⟩,eX⟩
 |false=>
  have hle:=of_decide_eq_false sR;have hpr:yf t=some t.text:=by unfold yf;rw[if_neg (by simpa using tQ),if_neg (by omega)]
  (try simp only[go_sem,simprocAttr]);refine aL (by rfl) ?_;refine(aly bf (by omega) alA).mono ?_;rintro _ w5 ⟨rfl,aH⟩;(try simp only[go_sem,simprocAttr,aM,RV.ev,aN]);refine⟨⟨_,_,rfl,.inr ⟨hpr,rfl⟩⟩,eX.step aH (fun c hc hl=>?_)⟩;rcases n4 c hc with h |h
  .cases h
  .omega
end
section
open Go Go.W
theorem join_le{M:Nat}:∀(xs:List (List UInt8)),(∀x∈xs,x.length<=M)->(Lib.join xs [44]).length<=xs.length*(M+1)
 |[],_=>by rw[Lib.join_nil];simp
 |x::r,h=>by
  rw[Lib.join_cons,List.length_append,Lib.joinTail_length];have h1:=h x (by simp);have h2:∀(r:List (List UInt8)),(∀y∈r,y.length<=M)->Lib.lens r<=r.length*M:=by
   intro r
   induction r with
   |nil=>intro _;simp[Lib.lens]
   |cons y r ih=>
    intro h;have:=ih (fun z hz=>h z (List.mem_cons_of_mem _ hz));have:=h y (by simp);simp only[Lib.lens,List.map_cons,List.sum_cons,List.length_cons]at *;rw[Nat.succ_mul];omega
  have:=h2 r (fun y hy=>h y (List.mem_cons_of_mem _ hy));simp only[List.length_cons,List.length_nil];have e:(r.length+1)*(M+1)=r.length*M+r.length+(M+1):=by rw[Nat.add_mul,Nat.mul_add];omega
  omega
theorem alB{l:List Ty}{k:Nat}(hk:k < l.length):uL (l.drop k)=if 500 < l[k].size then none else match yf l[k] with
   |none=>none
   |some s=>(uL (l.drop (k+1))).map (fun r=>s::r):=by
 rw[Ω hk,uL];try rfl
theorem abv{t:Ty}{s:ByteArray}(h:yf t=some s):s.size<=65536:=by
 unfold yf at h
 split at h
 .cases h
 .split at h
  .cases h
  .cases h;omega
theorem abw:∀(l:List Ty) (ts:List ByteArray),uL l=some ts->ts.length=l.length/\∀s∈ts,s.size<=65536
 |[],ts,h=>by cases h;exact⟨rfl,fun _ h=>by cases h⟩
 |t::l,ts,h=>by
  rw[uL]at h
  split at h
  .cases h
  .split at h
   .cases h
   .rename_i s hs;obtain⟨r,hr,rfl⟩:=Δ.1 h;obtain⟨h1,h2⟩:=abw l r hr;refine⟨by simp[h1],fun x hx=>?_⟩;rcases List.mem_cons.1 hx with rfl |hx
    .exact abv hs
    .exact h2 x hx
theorem TJ{n:ByteArray}{l:List Ty}(hn:n.size<=1048576)(hl:l.length<=1048576):Nm (mo n l).1:=by
 show _<4611686018427387904;unfold mo
 split
 .show n.size<_;omega
 .split
  .show(0:Nat)<_;decide
  .rename_i ts lu;obtain⟨h1,h2⟩:=abw l ts lu;have hj:=join_le (M:=65536) (ts.map (·.data.toList)) (fun y hy=>by obtain⟨s,hs,rfl⟩:=List.mem_map.1 hy;exact h2 s hs);rw[List.length_map]at hj;have tZ:(qA ts).size=(Lib.join (ts.map (·.data.toList)) [44]).length:=by show Array.size _=_;rw[List.size_toArray]
   show(n++yg++qA ts++Bx).size<_;rw[ED,ED,ED];show n.size+1+(qA ts).size+1<_;omega
theorem alC:Builder.Extra Tryz.prog Tryz.W7:={ sizeBuilder:=by kernel_rfl,liesBuilder:=by kernel_rfl,t5:=Tryz.underlying5,a5:=Tryz.isAgg5,z5:=Tryz.sizeOf5,v5:=Tryz.zeroValue5,infoByte:=by kernel_rfl,cellsByte:=by kernel_rfl,sizeByte:=by kernel_rfl,neB5:=by decide}
theorem abx{w:World}{B:Nat→Prop}{a:Addr}{n:ByteArray}{l:List Ty}{v:Value}(ha:w.cell? a=some (.string n))(hn:n.size≤1048576)(hl:aX w v 3 B (aR w B) l)(iH:l.length≤1048576)(hB:∀ c,B c→c < w.heap.size) :
   bu Tryz.prog 37 [.pointer (some a),v] w fun r w'=>r=.tuple #[.string (mo n l).1,.bool (mo n l).2]/\Mod (fun _=>False) w w':=by
 obtain⟨la,lc,rfl⟩:=bq hl;have bg:=np ha;refine γ Tryz.f37 ?_;refine σ ?_;cases h0:((l.length:Int)==0)with
 |true=>
  have:l=[]:=List.eq_nil_of_length_eq_zero (by simpa using h0);subst this;simp only[go_sem,simprocAttr,add_zero',ha,aM,RV.ev,aN];exact⟨rfl,.refl _ _⟩
 |false=>
 have Lb:¬l.isEmpty=true:=by
  cases l with
  |nil=>cases h0
  |cons _ _=>simp
 have IV:mo n l=match uL l with
  |none=>(⟨#[]⟩,false)
  |some ts=>(n++yg++qA ts++Bx,decide ((n++yg++qA ts++Bx).size<=4096)):=by unfold mo;rw[if_neg Lb];try rfl
 have aby:uL l=none->mo n l=(⟨#[]⟩,false):=fun h=>by rw[IV,h]
 refine σ ?_;refine j7 (PP:=fun w'=>aR w' B) (l:=l) (B:=B) (fun k ρ w'=>k<=l.length/\∃v fp ts,Mod (fun _=>False) w w'/\dP w' 9 1 v (ts.map Value.string) k fp/\(∀b,fp=some b->w.heap.size<=b)/\ts.length=k/\(∀s∈ts,s.size<=65536)/\uL l=(uL (l.drop k)).map (fun r=>ts++r)/\ρ=[(0,.pointer (some a)),(6,v),(19,.slice la l.length lc),(20,I l.length),(21,I k)])
  ⟨by omega,.slice none 0 0,none,[],.refl _ _,dP.nil _ _ _,(fun _ h=>by cases h),rfl,(fun _ h=>by cases h),by simp,rfl⟩ hl ?_ (fun _ _ _ h=>h.one) rfl ?_ ?_
 .rintro k _ w5 ⟨hk,v,fp,ts,hm,_,_,_,_,_,rfl⟩;exact⟨⟨hl.mod hm aA (fun _ _ h=>h.mod hm aA),hk⟩,rfl,rfl,rfl⟩
 .rintro k _ w5 hk w6 r b pv ⟨_,v,fp,ts,hm,ho,hf,hlen,bV,wK,rfl⟩ hr gi hb aG mE;rw[alB hk]at wK;have hH:=hm.trans aG;have qc:=hr.mod aG aA;simp only[go_sem,simprocAttr,aE (n:=3) hb gi];refine δ (by rfl) (aaf _ qc) ?_;rintro _ w7 ⟨rfl,aO⟩;have dh:=aO.at hb Ψ;have qm:=hH.trans aO;refine σ ?_;cases hg:decide ((l[k].size:Int)>500)with
  |true=>
   rw[if_pos (by have:=of_decide_eq_true hg;omega)]at wK;simp only[go_sem,simprocAttr,aM,RV.ev,aN];rw[aby (by rw[wK];rfl)];exact⟨rfl,qm⟩
  |false=>
  rw[if_neg (by have:=of_decide_eq_false hg;omega)]at wK;simp only[go_sem,simprocAttr,aE (n:=3) dh gi];refine δ (by rfl) (alz _ (qc.mod aO aA) (fun c hc=>Nat.lt_of_lt_of_le (hB c hc) qm.size)) ?_;rintro _ w8 ⟨⟨x,n8,rfl,hx⟩,aZ⟩;have zG:=qm.trans aZ;refine σ ?_;rcases hx with⟨hx,RF⟩ |⟨hx,rfl⟩
  .rw[hx]at wK;simp only[go_sem,simprocAttr,show(n8 != 0)=true by simpa using RF,aM,RV.ev,aN];rw[aby (by rw[wK];rfl)];exact⟨rfl,zG⟩
  rw[hx]at wK;have SU:=ho.mod ((aG.trans aO).trans aZ) (fun _ _ h=>h);refine σ ?_;refine ez (cs:=([.string x]:List Value).toArray) rfl (by rfl) ?_;intro w9 di aQ gx;refine σ ?_;refine sN (m:=1) (news:=[.string x]) rfl (SU.mod aQ (fun _ _ h=>h)) rfl (fun h=>by cases h) (mD di) (aP rfl dq) rfl (by omega) (by omega) ?_;intro v10 cD FL abz bD FM;have nv:=zG.trans aQ;refine σ ?_;refine⟨hk,v10,FL,ts++[x],nv.step bD (fun b h hl=>by have:=hf b h;omega),by simpa using abz,fun b h=>?_,by simp[hlen],?_,?_,rfl⟩
  .rcases FM b h with h |⟨h,_⟩
   .exact hf b h
   .rw[h];exact nv.size
  .intro s hs;rcases List.mem_append.1 hs with h |h
   .exact bV s h
   .rw[List.mem_singleton.1 h];exact abv hx
  .rw[wK,Option.map_map];congr 1;funext r;simp
 .rintro _ w5 ⟨_,v,fp,ts,hm,ho,hf,hlen,bV,wK,rfl⟩;rw[List.drop_length,uL,Option.map_some,List.append_nil]at wK;rw[wK]at IV;have IV:mo n l=(n++yg++qA ts++Bx,decide ((n++yg++qA ts++Bx).size<=4096)):=IV;have hj:=join_le (M:=65536) (ts.map (·.data.toList)) (fun y hy=>by obtain⟨s,hs,rfl⟩:=List.mem_map.1 hy;exact bV s hs);rw[List.length_map]at hj;have tZ:(qA ts).size=(Lib.join (ts.map (·.data.toList)) [44]).length:=by show Array.size _=_;rw[List.size_toArray]
  have BY:0<l.length:=by cases l with
   |nil=>cases h0
   |cons _ _=>simp
  obtain⟨b,c,sp,rfl,rfl,abA,hc,bT⟩:=ho.pos BY;have hdr:w5.cell? a=some (.string n):=hm.cell ha Ψ;have f1:¬(((n.size+(#[123]:Array UInt8).size:Nat):Int)>IntKind.i64.max):=by
   show ¬(((n.size+1:Nat):Int)>9223372036854775807);omega
  have e1:(n++yg).size=n.size+1:=ED _ _;have e2:(n++yg++qA ts).size=n.size+1+(qA ts).size:=by rw[ED,e1]
  have e3:(n++yg++qA ts++Bx).size=n.size+1+(qA ts).size+1:=by rw[ED,e2];rfl
  obtain⟨J,hJ⟩:∃J,J=Lib.join (ts.map (·.data.toList)) [44]:=⟨_,rfl⟩;have hJ2:J.toArray.size=J.length:=List.size_toArray;rw[<- hJ]at hj tZ;have f2:¬(((n.size+(#[123]:Array UInt8).size+J.toArray.size:Nat):Int)>IntKind.i64.max):=by
   show ¬(((n.size+1+J.toArray.size:Nat):Int)>9223372036854775807);omega
  have f3:¬(((n.size+(#[123]:Array UInt8).size+J.toArray.size+(#[125]:Array UInt8).size:Nat):Int)>IntKind.i64.max):=by
   show ¬(((n.size+1+J.toArray.size+1:Nat):Int)>9223372036854775807);omega
  simp only[go_sem,simprocAttr,add_zero',hdr,f1];refine aL (by rfl) ?_;have Qt:∀(j:Nat) x,ts[j]?=some x->w5.drew.cell? ⟨b,0+j,none⟩=some (.string x):=fun j x hj=>by
   refine(cell_of abA _).trans ?_;rw[Nat.zero_add,List.getElem?_toArray,List.getElem?_append_left (by rw[List.length_map];exact(List.getElem?_eq_some_iff.1 hj).1),List.getElem?_map,hj];rfl
  rw[<- hlen];refine bu.mono (R:=fun r w'=>r=.string (qA ts)/\Mod (fun _=>False) w5.drew w') (Calls.mono (Any.strings_Join Tryz.agm alC b 0 c ts ⟨#[44]⟩ w5.drew Qt (bP abA) (by omega) (by omega) (by show(Lib.join (ts.map (·.data.toList)) [44]).length<=_;rw[<- hJ];omega)) (fun e w' h=>⟨_,h.1,rfl,⟨h.2.size,fun b hb _=>h.2.block b hb,h.2.os,h.2.tape,h.2.output⟩⟩)) ?_;rintro _ w6 ⟨rfl,aG⟩;simp only[go_sem,simprocAttr,<- hJ,f2,f3,aM,RV.ev,aN];refine⟨aG.bO _ (np hdr) Ψ,?_⟩;rw[IV,e3];refine⟨?_,hm.trans aG.dG⟩;have ed:decide (((n.size+(#[123]:Array UInt8).size+J.toArray.size+(#[125]:Array UInt8).size:Nat):Int)<=4096)=decide (n.size+1+(qA ts).size+1<=4096):=by
   rw[decide_eq_decide];show((n.size+1+J.toArray.size+1:Nat):Int)<=4096↔_;omega
  rw[ed]
end
end Go.Proofs.YtekkkjbjnhipkaaGreatDoor