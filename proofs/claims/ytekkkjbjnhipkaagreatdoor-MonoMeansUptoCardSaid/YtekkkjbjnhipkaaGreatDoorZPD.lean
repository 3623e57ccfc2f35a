/- Texts that the last file stands on. -/
import Derived.Test.YtekkkjbjnhipkaaGreatDoorZPA
import Derived.Test.YtekkkjbjnhipkaaGreatDoorZPC
import Derived.Test.YtekkkjbjnhipkaaGreatDoorZPB
import Derived.KernelRfl
import Derived.Shelf.Abstract
import Derived.WalkKit
import Derived.Laws.Externs
import Derived.Lib.FrozenHead
import Derived.Shelf.RegionOpenPlain
import Derived.LaidEql
set_option linter.unusedSimpArgs false
set_option linter.unusedVariables false
set_option maxRecDepth 100000
namespace Go.Proofs.YtekkkjbjnhipkaaGreatDoor
section
open Go Go.W
theorem ai2:Fn 95:=⟨_,rfl,rfl,rfl⟩
theorem ai3:Fn 97:=⟨_,rfl,rfl,rfl⟩
theorem ai4(s:ByteArray){w:World}:bu Tryz.prog 95 [.string s] w fun r w'=>r=.bool (!vD s)/\Mod (fun _=>False) w w':=by
 refine γ Tryz.f95 ?_;refine σ ?_;refine δ (by rfl) (Xu s) ?_;rintro _ w1 ⟨rfl,hm⟩;simp only[go_sem,simprocAttr,aM,RV.ev,aN];exact hm
theorem ai5{k:Cn}{B:Nat->Prop}{cs:List Value}{w:World}(h:fj w B cs k):bu Tryz.prog 97 [.agg cs.toArray] w fun r w'=>r=.bool (!nr k.name)/\Mod (fun _=>False) w w':=by
 obtain⟨vf,rfl,hf,hn⟩:=h;refine γ Tryz.f97 ?_;refine σ ?_;refine bZ rfl ?_;intro w1 au ak cw;simp only[go_sem,simprocAttr,cell_of au];refine δ (by rfl) (KU k.name hn) ?_;rintro _ _ ⟨rfl,rfl⟩;simp only[go_sem,simprocAttr,aM,RV.ev,aN];exact ak
theorem ai6{E:Env}{d:Dt}{a:Addr}{w:World}{S:Nat→Prop}{c md mc mf:Nat}(hc:gU w S c md mc mf E)(hp:vK w (Out S w) a d) :
   bu Tryz.prog 69 [ptr c,.pointer (some a)] w fun r w'=>r=I (ri E d)/\Mod (fun _=>False) w w':=by
 obtain⟨cs,bT,nz,vc,rfl,iw,lC⟩:=hp;obtain⟨ap,cp,rfl⟩:=bq iw;obtain⟨ac,cc,rfl⟩:=bq lC;have RE:=dI iw;have uf:=dI lC;have cell:∀{w':World},Mod (fun _=>False) w w'->w'.cell? a=some (.string d.name)/\w'.cell? ⟨a.block,a.off+1,none⟩=some (.slice ap d.params.length cp)/\w'.cell? ⟨a.block,a.off+2,none⟩=some (.slice ac d.cons.length cc):=fun hm=>by
  have h:=bT.up hm aA (fun _ h=>h);exact⟨h.c0 (by simp),h.at (k:=1) (by simp),h.at (k:=2) (by simp)⟩
 refine γ Tryz.f69 ?_;obtain ⟨k0,k1,k2⟩:=cell (Mod.refl _ w);have eT:ri E d=if (!EN d.name||d.params.any (fun s=>!vD s)||d.cons.any (fun k=>!nr k.name))=true then 82
     else if(aJ E.aK d.name).isSome=true then 81
     else if tf E d.cons []=false then 81
     else if zE d.params []=false then 81
     else if(decide ((d.params.length:Int)>6)||(d.cons.length:Int)==0||decide ((d.cons.length:Int)>24))=true then 81 else 0:=rfl
 simp only[go_sem,simprocAttr,k0];refine δ (by rfl) (ag9 d.name) ?_;rintro _ w1 ⟨rfl,ak⟩;refine σ ?_;refine B6 (fun ρ w'=>Mod (fun _=>False) w w'/\ρ.get 33=some (.bool (!EN d.name||d.params.any (fun s=>!vD s)||d.cons.any (fun k=>!nr k.name)))/\ρ.get 0=some (ptr c)/\ρ.get 1=some (.pointer (some a))) ?_ ?_
 .cases h1:EN d.name with
  |false=>refine σ ?_;exact⟨ak,rfl⟩
  |true=>
   obtain⟨q0,q1,q2⟩:=cell ak;simp only[go_sem,simprocAttr,q1];refine δ (by rfl) (agy (p:=fun s=>!vD s) (iw.mod ak aA (fun _ _ h=>h)) ai2 (fun s _ _ w' _=>ai4 s)) ?_;rintro _ w2 ⟨rfl,ai⟩;cases h2:d.params.any (fun s=>!vD s)with
   |true=>refine σ ?_;exact⟨ak.trans ai,rfl⟩
   |false=>
    obtain⟨q0,q1,q2⟩:=cell (ak.trans ai);simp only[go_sem,simprocAttr,q2];refine δ (by rfl) (agu (PP:=fun w'=>fj w' (Out S w)) (p:=fun k=>!nr k.name) (lC.mod (ak.trans ai) aA (fun _ _ h=>h.mod (ak.trans ai) aA)) (fun _ _ _ _ h hm=>h.mod hm aA) ai3 ?_) ?_
    .intro w3 r3 u hu aw gi;exact ai5 gi
    rintro _ w3 ⟨rfl,aw⟩;refine σ ?_;exact⟨(ak.trans ai).trans aw,rfl⟩
 rintro ρ w2 ⟨ai,zy,g0,g1⟩;cases Mu:(!EN d.name||d.params.any (fun s=>!vD s)||d.cons.any (fun k=>!nr k.name))with
 |true=>
  rw[if_pos Mu]at eT;rw[Mu]at zy;simp only[go_sem,simprocAttr,zy,g0,g1,aM,RV.ev,aN];exact⟨by rw[eT],ai⟩
 |false=>
  rw[if_neg (by rw[Mu];simp)]at eT;rw[Mu]at zy;obtain⟨q0,q1,q2⟩:=cell ai;have gv:=hc.aI ai;obtain⟨Zf,vb2,vl2,_,_,_,HU⟩:=gv.box;simp only[go_sem,simprocAttr,zy,g0,g1,q0,cell_of HU];have d2:Mod (fun _=>False) w2 w2.drew:=(Mod.refl _ _).drew;have ai7:=gv.aI d2;refine Hp (R:=zg w2.drew (Out S w2.drew)) (k:=d.name) (b:=md) (kt:=9) (et:=173) rfl rfl rfl rfl (Tryz.zeroValue173 _) ai7.aK (fun hn=>?_) (fun v y hy hr=>?_)
  rotate_left
  .obtain⟨ad,rfl,_⟩:=hr;rw[hy,if_pos (by rfl)]at eT;simp only[go_sem,simprocAttr,aM,RV.ev,aN];exact⟨by rw[eT],ai.trans d2⟩
  .rw[hn,if_neg (by simp)]at eT;refine σ ?_;refine pe (α:=Int) RI ?_;intro w5 xO H3 eY;have aH:Mod (fun _=>False) w w5:=ai.trans (d2.trans H3);have zb:w.heap.size<=w2.heap.size:=ai.size;obtain⟨q0,q1,q2⟩:=cell aH;simp only[go_sem,simprocAttr,q2];have A7:∀{w':World},Mod (· = w2.heap.size) w5 w'->Mod (fun _=>False) w w':=fun hm=>aH.step hm (fun b hb hl=>by omega)
   refine eW d.cons.length (fun k ρ w'=>k<=d.cons.length/\Mod (· = w2.heap.size) w5 w'/\(∃m,bQ w' w2.heap.size RI m/\tf E (d.cons.drop k) m=tf E d.cons [])/\ρ=[(0,ptr c),(1,.pointer (some a)),(7,.map (some w2.heap.size)),(51,.slice ac d.cons.length cc),(52,I d.cons.length),(53,I k)])
    ⟨by omega,.refl _ _,⟨[],xO,rfl⟩,rfl⟩ uf ?_ ?_ (by decide) ?_
   .rintro k _ w6 ⟨hk,_,_,rfl⟩;exact⟨rfl,rfl,hk⟩
   .rintro k _ w6 ⟨_,aG,⟨m,vX,py⟩,rfl⟩ hk;rw[aiV hk]at py;have hH:=A7 aG;obtain⟨ad,c2,r,e,hr,gX,cR,_⟩:=dT (lC.mod hH aA (fun _ _ h=>h.mod hH aA)) hk;obtain⟨rfl,-,-⟩:=cU e;obtain⟨vf,rfl,hf,ph⟩:=hr;obtain⟨af,cf,rfl⟩:=bq hf;have bk:(0:Int)<=k/\(k:Int)<d.cons.length:=by omega
    have lY:=hc.aI hH;simp only[go_sem,simprocAttr,bG,bH,bk,cR];refine eC (n:=2) (vs:=[.string d.cons[k].name,.slice af d.cons[k].fields.length cf]) rfl rfl (aP rfl (aP rfl dq)) ?_;intro w7 di aO jn;have mI:=lY.aI aO;obtain⟨vp7,vb7,vl7,_,_,_,ai8⟩:=mI.box;have kn:w7.cell? ⟨w6.heap.size,0,none⟩=some (.string d.cons[k].name):=by rw[cell_of di];rfl
    have kf:∀{w':World},Mod (fun _=>False) w7 w'->w'.cell? ⟨w6.heap.size,0,none⟩=some (.string d.cons[k].name)/\w'.cell? ⟨w6.heap.size,1,none⟩=some (.slice af d.cons[k].fields.length cf):=fun hm=>by
     constructor<;>(rw[cell_of (hm.at di Ψ)];rfl)
    have d7:Mod (fun _=>False) w7 w7.drew:=(Mod.refl _ _).drew;have ai9:=mI.aI d7;have uu:c<w7.heap.size:=mI.lt c (mI.aT c (by simp));simp only[go_sem,simprocAttr,kn,cell_of ai8];refine HH (Rr:=vM w7.drew (Out S w7.drew)) (k:=d.cons[k].name) (b0:=mc) (kt:=9) (et:=179) (zc:=[.pointer none,I 0]) rfl rfl rfl rfl (fun w=>Tryz.zeroValue179 w) ⟨rfl,aP rfl (aP rfl dq)⟩ rfl ai9.cons
     (fun v y hr=>by obtain⟨ad,rfl,_⟩:=hr;exact⟨[.pointer (some ad),I y.2],rfl,rfl,aP rfl (aP rfl dq)⟩) (fun p hp=>by
      have e:w7.drew.heap.size=w7.heap.size:=rfl;simp only[List.mem_cons,List.not_mem_nil,or_false]at hp;rcases hp with rfl |rfl
      ·show w6.heap.size<_;omega
      ·show c<_;omega) (by decide) ?_
    intro w8 nM cz u hold g10 g11 eM nH y9 cJ vH;have aZ:Mod (fun _=>False) w7 w8:=nH.dG;have g0:nM.get 0=some (ptr c):=(hold 0 (by decide)).trans rfl;have g1:nM.get 1=some (.pointer (some a)):=(hold 1 (by decide)).trans rfl;have g7:nM.get 7=some (.map (some w2.heap.size)):=(hold 7 (by decide)).trans rfl;have g9:nM.get 9=some (ptr w6.heap.size):=(hold 9 (by decide)).trans rfl;have Zv:nM.get 51=some (.slice (some ad) d.cons.length cc):=(hold 51 (by decide)).trans rfl;have Zw:nM.get 52=some (I d.cons.length):=(hold 52 (by decide)).trans rfl;have Zx:nM.get 53=some (I k):=(hold 53 (by decide)).trans rfl;obtain⟨H4,kf8⟩:=kf aZ;have uy:=aO.trans aZ;have Zy:=vX.mod uy Ψ (fun _ _ x=>x);have zG:=hH.trans uy;have stop:((aJ E.cons d.cons[k].name).isSome||has m d.cons[k].name||decide ((d.cons[k].fields.length:Int)>8))=true->ri E d=81:=fun h=>by
     rw[if_pos h]at py;rw[eT,if_pos py.symm]
    have Mv:((aJ E.cons d.cons[k].name).isSome||has m d.cons[k].name||decide ((d.cons[k].fields.length:Int)>8))=false->tf E (d.cons.drop (k+1)) (bS m d.cons[k].name 1)=tf E d.cons []:=fun h=>by
     rw[if_neg (by rw[h];simp)]at py;exact py
    rcases vH with⟨RF,rfl⟩ |⟨x,hx8,_,rfl⟩
    .rw[RF]at stop Mv;simp only[go_sem,simprocAttr,g0,g1,g7,g9,g11,Zv,Zw,Zx,H4];refine Cz ?_;refine AM (k:=d.cons[k].name) (b:=w2.heap.size) (kt:=9) (et:=3) rfl rfl rfl rfl (zI _) Zy ?_;have kE:decide ((aJ m d.cons[k].name).getD 0>0)=has m d.cons[k].name:=rfl;cases hh:has m d.cons[k].name with
     |true=>
      rw[hh]at kE stop;simp only[go_sem,simprocAttr,kE,aM,RV.ev,aN];exact⟨by rw[stop rfl],zG⟩
     |false=>
      rw[hh]at kE stop Mv;simp only[go_sem,simprocAttr,kE,kf8];cases h8:decide ((d.cons[k].fields.length:Int)>8)with
      |true=>
       rw[h8]at stop;simp only[go_sem,simprocAttr,aM,RV.ev,aN];exact⟨by rw[stop rfl],zG⟩
      |false=>
       rw[h8]at Mv;simp only[go_sem,simprocAttr,H4];refine lW (R:=RI) (a:=(1:Int)) (k:=d.cons[k].name) (b:=w2.heap.size) (kt:=9) (et:=3) rfl rfl rfl rfl rfl Zy rfl ?_;intro w9 h9 aQ gx;refine σ ?_;exact⟨hk,(aG.trans (aq uy)).trans aQ,_,h9,Mv rfl⟩
    .rw[hx8]at stop;simp only[go_sem,simprocAttr,g0,g1,g7,g9,g11,Zv,Zw,Zx,aM,RV.ev,aN];exact⟨by rw[stop (by simp)],zG⟩
   .rintro _ w6 ⟨_,aG,⟨m,vX,py⟩,rfl⟩;rw [List.drop_length,tf] at py;rw [if_neg (by rw [← py];simp)] at eT;refine σ ?_;refine afV (kt:=9) (et:=3) rfl rfl rfl (Exists.choose_spec vX).1 ?_;intro w7 h7 aO jn;have ot:Mod (· = w2.heap.size) w5 w7:=aG.trans aO;obtain ⟨q0,q1,q2⟩:=cell (A7 ot);simp only [go_sem,simprocAttr,q1];refine eW d.params.length (fun k ρ w'=>k≤d.params.length∧Mod (· = w2.heap.size) w5 w'∧(∃ m,bQ w' w2.heap.size RI m∧zE (d.params.drop k) m=zE d.params [])∧ρ=[(1,.pointer (some a)),(7,.map (some w2.heap.size)),(89,.slice ap d.params.length cp),(90,I d.params.length),(91,I k)])
     ⟨by omega,ot,⟨[],⟨[],h7,.nil⟩,rfl⟩,rfl⟩ RE ?_ ?_ (by decide) ?_
    .rintro k _ w8 ⟨hk,_,_,rfl⟩;exact⟨rfl,rfl,hk⟩
    .rintro k _ w8 ⟨_,aZ,⟨m,vX,py⟩,rfl⟩ hk;rw[aiW hk]at py;have zG:=A7 aZ;obtain⟨ad,c2,e,ph,nf⟩:=xr (iw.mod zG aA (fun _ _ h=>h)) hk;obtain⟨rfl,-,-⟩:=cU e;have bk:(0:Int)<=k/\(k:Int)<d.params.length:=by omega
     simp only[go_sem,simprocAttr,bG,bH,bk,nf];refine AM (k:=d.params[k]) (b:=w2.heap.size) (kt:=9) (et:=3) rfl rfl rfl rfl (zI _) vX ?_;have kE:decide ((aJ m d.params[k]).getD 0>0)=has m d.params[k]:=rfl;cases hh:has m d.params[k]with
     |true=>
      rw[hh]at kE;rw[if_pos hh]at py;simp only[go_sem,simprocAttr,kE,aM,RV.ev,aN];exact⟨by rw[eT,if_pos py.symm],zG⟩
     |false=>
      rw[hh]at kE;rw[if_neg (by rw[hh];simp)]at py;simp only[go_sem,simprocAttr,kE];refine lW (R:=RI) (a:=(1:Int)) (k:=d.params[k]) (b:=w2.heap.size) (kt:=9) (et:=3) rfl rfl rfl rfl rfl vX rfl ?_;intro w9 h9 aQ gx;refine σ ?_;exact⟨hk,aZ.trans aQ,_,h9,py⟩
    .rintro _ w8 ⟨_,aZ,⟨m,vX,py⟩,rfl⟩;rw[List.drop_length,zE]at py;rw[if_neg (by rw[<- py];simp)]at eT;obtain⟨q0,q1,q2⟩:=cell (A7 aZ);simp only[go_sem,simprocAttr,q1];cases t1:decide ((d.params.length:Int)>6)with
     |true=>
      rw[t1]at eT;simp only[go_sem,simprocAttr,q2,aM,RV.ev,aN];exact⟨by rw[eT];rfl,A7 aZ⟩
     |false=>
      rw[t1]at eT;simp only[go_sem,simprocAttr,q2];cases t2:(d.cons.length:Int)==0 with
      |true=>
       rw[t2]at eT;simp only[go_sem,simprocAttr,q2,aM,RV.ev,aN];exact⟨by rw[eT];rfl,A7 aZ⟩
      |false=>
       rw[t2]at eT;simp only[go_sem,simprocAttr,q2];cases t3:decide ((d.cons.length:Int)>24)with
       |true=>
        rw[t3]at eT;simp only[go_sem,simprocAttr,aM,RV.ev,aN];exact⟨by rw[eT];rfl,A7 aZ⟩
       |false=>
        rw[t3]at eT;simp only[go_sem,simprocAttr,aM,RV.ev,aN];exact⟨by rw[eT];rfl,A7 aZ⟩
end
section
open Go Go.W
theorem RG{α:Type}{l:List α}{p:α->Bool}{i:Nat}(hi:i<l.length):(l.drop i).all p=(p l[i]&&(l.drop (i+1)).all p):=by rw[Ω hi,List.all_cons]
theorem gU.iL{w:World}{S:Nat->Prop}{c md mc mf:Nat}{E:Env}(h:gU w S c md mc mf E)(E':Env)(h1:E'.aK=E.aK)(h2:E'.cons=E.cons)(h3:E'.aj=E.aj):gU w S c md mc mf E':=
 ⟨h.box,h.nodup,h.aT,h.lt,by rw[h1];exact h.aK,by rw[h2];exact h.cons,by rw[h3];exact h.aj⟩
theorem Mw{S S':Nat->Prop}{w1 w':World}(bV:w1.heap.size<=w'.heap.size)(h:∀b,S' b->S b\/w1.heap.size<=b):∀b,Out S w1 b->Out S' w' b:=fun b hb=>⟨Nat.lt_of_lt_of_le hb.1 bV,fun hh=>by
 rcases h b hh with h |h
 ·exact hb.2 h
 ·have:=hb.1;omega⟩
theorem ai'{E:Env}{l:List Dt}{v:Value}{w:World}{S:Nat→Prop}{c md mc mf:Nat}(hc:gU w S c md mc mf E)(hl:aX w v 3 (Out S w) (gC w (Out S w)) l) :
   bu Tryz.prog 50 [ptr c,v] w fun r w'=>(match oB E l with
    |.error e=>r=I e/\e≠0
    |.ok E'=>r=I 0/\∃S',gU w' S' c md mc mf E'/\(∀b,S b->S' b)/\∀b,S' b->S b\/w.heap.size<=b)/\Mod (fun b=>b=c\/b=md\/b=mc) w w':=by
 obtain⟨al,cl,rfl⟩:=bq hl;have iH:=dI hl;have TS:∀b,(b=md\/b=mc)->S b:=fun b hb=>by rcases hb with rfl |rfl<;>exact hc.aT _ (by simp)
 have T3:∀b,(b=md\/b=mc)->(b=c\/b=md\/b=mc):=fun b hb=>.inr hb
 refine γ Tryz.f50 ?_;refine φ ?_;refine eW l.length (fun k ρ w'=>k<=l.length/\Mod (fun b=>b=md\/b=mc) w w'/\(∃Ek,gU w' S c md mc mf Ek/\px (l.drop k) Ek=px l E)/\ρ=[(0,ptr c),(1,.slice al l.length cl),(15,I l.length),(16,I k)])
  ⟨by omega,.refl _ _,⟨E,hc,rfl⟩,rfl⟩ iH ?_ ?_ (by decide) ?_
 .rintro k _ w1 ⟨hk,_,_,rfl⟩;exact⟨rfl,rfl,hk⟩
 .rintro k _ w1 ⟨_,ak,⟨Ek,bK,eT⟩,rfl⟩ hk;rw[aiX hk]at eT;have oh:=hl.up (ak.aU TS) aW (br (ak.aU TS)) (fun _ _ h=>h.up (ak.aU TS) aW (br (ak.aU TS)));obtain⟨ad,c2,rr,e,hd,cG,bT⟩:=kI oh hk;obtain⟨rfl,-,-⟩:=cU e;have bk:(0:Int)<=k/\(k:Int)<l.length:=by omega
  simp only[go_sem,Nat.reduceAdd,Nat.reduceEqDiff,Nat.reduceLT,Nat.reduceLeDiff,Nat.reduceMul,reduceCtorEq,↓reduceIte,bG,bH,bk];refine δ (by rfl) (ai6 bK ⟨rr,bT,hd⟩) ?_;rintro _ w2 ⟨rfl,ai⟩;cases bJ:ri Ek l[k]!=0 with
  |true=>
   rw[if_pos bJ]at eT;have hX:oB E l=.error (ri Ek l[k]):=by unfold oB;rw[<- eT]
   rw[hX];simp only[go_sem,Nat.reduceAdd,Nat.reduceEqDiff,Nat.reduceLT,Nat.reduceLeDiff,Nat.reduceMul,reduceCtorEq,↓reduceIte,bJ,aM,RV.ev,aN];exact⟨by simpa using bJ,(ak.trans (aq ai)).aU T3⟩
  |false=>
   rw[if_neg (by rw[bJ];simp)]at eT;simp only[go_sem,Nat.reduceAdd,Nat.reduceEqDiff,Nat.reduceLT,Nat.reduceLeDiff,Nat.reduceMul,reduceCtorEq,↓reduceIte,bJ];refine δ (by rfl) (Zd (bK.aI ai) ⟨rr,bT.up (aq ai) aW (br (aq ai)),hd.up (aq ai) aW (br (aq ai))⟩) ?_;rintro _ w3 ⟨RH,aw⟩;refine φ ?_;exact⟨hk,(ak.trans (aq ai)).trans aw,_,RH,eT⟩
 rintro _ w1 ⟨_,ak,⟨E1,RJ,eT⟩,rfl⟩;rw[List.drop_length,px]at eT;have oh:=hl.up (ak.aU TS) aW (br (ak.aU TS)) (fun _ _ h=>h.up (ak.aU TS) aW (br (ak.aU TS)));have z1:=ak.size;have Zz:=ak.aU T3;have Sc:∀b,b=c->S b:=fun b hb=>by rw[hb];exact hc.aT _ (by simp)
 have later:∀{w':World} {S':Nat->Prop},Mod (· = c) w1 w'->(∀b,S' b->S b\/w1.heap.size<=b)->aX w' (.slice al l.length cl) 3 (Out S' w') (gC w' (Out S' w')) l:=fun hm hs=>
  oh.up (hm.aU Sc) aW (Mw hm.size hs) (fun _ _ h=>h.up (hm.aU Sc) aW (Mw hm.size hs))
 have hX:oB E l=if CP E1 l=true then .ok E1 else .error 81:=by unfold oB;rw[<- eT]
 rw[hX]
 have bad:CP E1 l=false→(match (if CP E1 l=true then .ok E1 else .error 81:Except Int Env) with
     |.error e=>I 81=I e/\e≠0
     |.ok E'=>I 81=I 0/\∃S',gU w1 S' c md mc mf E'/\(∀b,S b->S' b)/\∀b,S' b->S b\/w.heap.size<=b):=fun h=>by
  rw[if_neg (by rw[h];simp)];exact⟨rfl,by decide⟩
 refine φ ?_;refine eW l.length (fun k ρ w'=>k<=l.length/\Mod (· = c) w1 w'/\(∃S',gU w' S' c md mc mf E1/\(∀b,S b->S' b)/\(∀b,S' b->S b\/w1.heap.size<=b)/\(l.drop k).all (H2 E1)=CP E1 l)/\ρ=[(0,ptr c),(32,.slice al l.length cl),(33,I l.length),(34,I k)])
  ⟨by omega,.refl _ _,⟨S,RJ,fun _ h=>h,fun _ h=>.inl h,rfl⟩,rfl⟩ iH ?_ ?_ (by decide) ?_
 .rintro k _ w2 ⟨hk,_,_,rfl⟩;exact⟨rfl,rfl,hk⟩
 .rintro k _ w2 ⟨_,ai,⟨S2,pr,RL,sU,ff⟩,rfl⟩ hk;rw[RG hk]at ff;have gX:=later ai sU;obtain⟨ad,c2,rr,e,hd,cG,cR,_⟩:=dT gX hk;obtain⟨rfl,-,-⟩:=cU e;have iS:=hd.one;obtain⟨vp,vc,rfl,iw,lC⟩:=hd;have bk:(0:Int)<=k/\(k:Int)<l.length:=by omega
  simp only[go_sem,Nat.reduceAdd,Nat.reduceEqDiff,Nat.reduceLT,Nat.reduceLeDiff,Nat.reduceMul,reduceCtorEq,↓reduceIte,bG,bH,bk,cR];refine eC (n:=3) (vs:=[.string l[k].name,vp,vc]) rfl rfl iS ?_;intro w3 di aw dU;have RH:=pr.aI aw;have kp:w3.cell? ⟨w2.heap.size,1,none⟩=some vp:=by rw[cell_of di];rfl
  simp only[go_sem,Nat.reduceAdd,Nat.reduceEqDiff,Nat.reduceLT,Nat.reduceLeDiff,Nat.reduceMul,reduceCtorEq,↓reduceIte,kp];refine δ (by rfl) (Ru RH (iw.up (aq aw) aW (br (aq aw)) (fun _ _ h=>h))) ?_;rintro _ w4 ⟨⟨M,rfl,rfl,rfl,rfl,pX,lp,lb,ll⟩,aD⟩;have gj:Mod (· = M.c) w1 w4:=(ai.trans (aq aw)).trans aD;have z12:=ai.size;have Rj:=aw.size;have CQ:∀b,Kn S2 M b->S b\/w1.heap.size<=b:=fun b hb=>by
   rcases hb with h |h |h |h
   .exact sU b h
   .right;omega
   .right;omega
   .right;omega
  have hkc:M.c<w2.heap.size:=pr.lt _ (pr.aT _ (by simp));have aja:=aD.at di (by omega);have ZA:∀b,b=M.c->S2 b:=fun b hb=>by rw[hb];exact pr.aT _ (by simp)
  have j9:Mod (· = M.c) w2 w4:=(aq aw).trans aD
  have ZB:∀b,Out S2 w2 b->Out (Kn S2 M) w4 b:=Mw j9.size (fun b hb=>by
   rcases hb with h |h |h |h
   ·exact .inl h
   ·right;omega
   ·right;omega
   ·right;omega)
  have RM:aX w4 vc 2 (Out (Kn S2 M) w4) (fj w4 (Out (Kn S2 M) w4)) l[k].cons:=lC.up (j9.aU ZA) aW ZB (fun _ _ h=>h.up (j9.aU ZA) aW ZB);obtain⟨ac,cc,rfl⟩:=bq RM;have uf:=dI RM;have kc:w4.cell? ⟨w2.heap.size,2,none⟩=some (.slice ac l[k].cons.length cc):=by rw[cell_of aja];rfl
  have aqN:H2 E1 l[k]=l[k].cons.all fun x=>x.fields.all (iT (iY E1 l[k].params)):=rfl
  simp only[go_sem,Nat.reduceAdd,Nat.reduceEqDiff,Nat.reduceLT,Nat.reduceLeDiff,Nat.reduceMul,reduceCtorEq,↓reduceIte,kc];refine eW l[k].cons.length (fun i ρ w'=>i<=l[k].cons.length/\Mod (fun _=>False) w4 w'/\((l[k].cons.drop i).all fun x=>x.fields.all (iT (iY E1 l[k].params)))=H2 E1 l[k]/\ρ=[(0,ptr M.c),(32,.slice (some ad) l.length cl),(33,I l.length),(34,I k),(43,.slice ac l[k].cons.length cc),(44,I l[k].cons.length),(45,I i)])
   ⟨by omega,.refl _ _,rfl,rfl⟩ uf ?_ ?_ (by decide) ?_
  .rintro i _ w5 ⟨hi,_,_,rfl⟩;exact⟨rfl,rfl,hi⟩
  .rintro i _ w5 ⟨_,aH,xQ,rfl⟩ hi;rw[RG hi]at xQ;have QC:=RM.up (aq aH) aW (br (aq aH)) (fun _ _ h=>h.up (aq aH) aW (br (aq aH)));obtain⟨adc,c5,rc,ec,⟨vf,rfl,hf,_⟩,gX,ajb,_⟩:=dT QC hi;obtain⟨rfl,-,-⟩:=cU ec;obtain⟨af,cf,rfl⟩:=bq hf;have nL:=dI hf;have bi:(0:Int)<=i/\(i:Int)<l[k].cons.length:=by omega
   simp only[go_sem,Nat.reduceAdd,Nat.reduceEqDiff,Nat.reduceLT,Nat.reduceLeDiff,Nat.reduceMul,reduceCtorEq,↓reduceIte,bG,bH,bi,ajb];refine eC (n:=2) (vs:=[.string l[k].cons[i].name,.slice af l[k].cons[i].fields.length cf]) rfl rfl (aP rfl (aP rfl dq)) ?_;intro w6 hZ aG fw;have kf:w6.cell? ⟨w5.heap.size,1,none⟩=some (.slice af l[k].cons[i].fields.length cf):=by rw[cell_of hZ];rfl
   have qV:=Co hf (aq aG);simp only[go_sem,Nat.reduceAdd,Nat.reduceEqDiff,Nat.reduceLT,Nat.reduceLeDiff,Nat.reduceMul,reduceCtorEq,↓reduceIte,kf];refine eW l[k].cons[i].fields.length (fun j ρ w'=>j<=l[k].cons[i].fields.length/\Mod (fun _=>False) w6 w'/\((l[k].cons[i].fields.drop j).all (iT (iY E1 l[k].params)))=l[k].cons[i].fields.all (iT (iY E1 l[k].params))/\ρ=[(0,ptr M.c),(32,.slice (some ad) l.length cl),(33,I l.length),(34,I k),(43,.slice (some adc) l[k].cons.length cc),(44,I l[k].cons.length),(45,I i),(50,.slice af l[k].cons[i].fields.length cf),(51,I l[k].cons[i].fields.length),(52,I j)])
    ⟨by omega,.refl _ _,rfl,rfl⟩ nL ?_ ?_ (by decide) ?_
   .rintro j _ w7 ⟨hj,_,_,rfl⟩;exact⟨rfl,rfl,hj⟩
   .rintro j _ w7 ⟨_,aO,xR,rfl⟩ hj;rw[RG hj]at xR;obtain⟨Lk,c7,rf,ef,zn,cG,ajc,_⟩:=dT (Co qV (aq aO)) hj;obtain⟨rfl,-,-⟩:=cU ef;have bj:(0:Int)<=j/\(j:Int)<l[k].cons[i].fields.length:=by omega
    simp only[go_sem,Nat.reduceAdd,Nat.reduceEqDiff,Nat.reduceLT,Nat.reduceLeDiff,Nat.reduceMul,reduceCtorEq,↓reduceIte,bG,bH,bj,ajc];refine eC (n:=3) (vs:=rf) rfl cG zn.one ?_;intro w8 si aZ kD;have Ly:Mod (fun _=>False) w4 w8:=aH.trans (aG.trans (aO.trans aZ));simp only[go_sem,Nat.reduceAdd,Nat.reduceEqDiff,Nat.reduceLT,Nat.reduceLeDiff,Nat.reduceMul,reduceCtorEq,↓reduceIte,aE (n:=3) si cG];refine δ (by rfl) (Hs l[k].cons[i].fields[j] (pX.aI Ly) (zn.aI (aq aZ))) ?_;rintro _ w9 ⟨rfl,aQ⟩;have ajd:=Ly.trans aQ;cases fO:iT (iY E1 l[k].params) l[k].cons[i].fields[j]with
    |false=>
     rw[fO,Bool.false_and]at xR;rw[<- xR,Bool.false_and]at xQ;rw[<- xQ,Bool.false_and]at ff;rw[if_neg (by rw[<- ff];simp)];simp only[go_sem,Nat.reduceAdd,Nat.reduceEqDiff,Nat.reduceLT,Nat.reduceLeDiff,Nat.reduceMul,reduceCtorEq,↓reduceIte,aM,RV.ev,aN];exact⟨by decide,Zz.trans ((gj.trans (aq ajd)).aU (fun b h=>.inl h))⟩
    |true=>
     rw[fO,Bool.true_and]at xR;refine φ ?_;exact⟨hj,(aO.trans aZ).trans aQ,xR⟩
   .rintro _ w7 ⟨_,aO,xR,rfl⟩;rw[List.drop_length]at xR;have xR:true=_:=xR;rw[<- xR,Bool.true_and]at xQ;refine φ ?_;exact⟨hi,aH.trans (aG.trans aO),xQ⟩
  .rintro _ w5 ⟨_,aH,xQ,rfl⟩;rw[List.drop_length]at xQ;have xQ:true=_:=xQ;rw[<- xQ,Bool.true_and]at ff;refine φ ?_;exact⟨hk,gj.trans (aq aH),Kn S2 M,((pX.aI aH).forget).iL E1 rfl rfl rfl,fun b hb=>.inl (RL b hb),CQ,ff⟩
 .rintro _ w2 ⟨_,ai,⟨S2,pr,RL,sU,ff⟩,rfl⟩;have ff:CP E1 l=true:=by rw[<- ff,List.drop_length];rfl
  rw[if_pos ff];simp only[go_sem,Nat.reduceAdd,Nat.reduceEqDiff,Nat.reduceLT,Nat.reduceLeDiff,Nat.reduceMul,reduceCtorEq,↓reduceIte,aM,RV.ev,aN]
  exact⟨⟨S2,pr,RL,fun b hb=>by
   rcases sU b hb with h |h
   ·exact .inl h
   ·right;omega⟩,Zz.trans (ai.aU (fun b h=>.inl h))⟩
end
section
open Go Go.W
section
variable {α:Type}
theorem ZC(k:ByteArray)(v:α):bS [] k v=[(k,v)]:=by simp[bS]
theorem ZD(p:ByteArray×α)(l:List (ByteArray×α))(k:ByteArray)(v:α):bS (p::l) k v=if p.1=k then(k,v)::l else p::bS l k v:=by
 unfold bS;rw[List.findIdx?_cons];by_cases h:p.1=k
 .simp[h]
 .simp only[h,decide_false,if_false];cases l.findIdx? (fun p=>decide (p.1=k))<;>simp
theorem Mx(k:ByteArray):aJ ([]:List (ByteArray×α)) k=none:=rfl
theorem tg(p:ByteArray×α)(l:List (ByteArray×α))(k:ByteArray):aJ (p::l) k=if p.1=k then some p.2 else aJ l k:=by
 unfold aJ;by_cases h:p.1=k<;>simp[h]
theorem jg(l:List (ByteArray×α))(k:ByteArray)(v:α)(k':ByteArray):aJ (bS l k v) k'=if k=k' then some v else aJ l k':=by
 induction l with
 |nil=>rw[ZC,tg]
 |cons p l ih=>
  rw[ZD];by_cases h:p.1=k
  .rw[if_pos h,tg,tg,h];by_cases h2:k=k'<;>simp[h2]
  .rw[if_neg h,tg,tg,ih];by_cases h2:k=k'
   .subst h2;simp[h]
   .simp[h2]
theorem aje(l:List (ByteArray×α))(k:ByteArray)(v:α):aJ (bS l k v) k=some v:=by rw[jg,if_pos rfl]
end
theorem CR{E E':Env}(h:E.aK=E'.aK)(t:Ty):t.wf E=t.wf E':=by
 induction t using Ty.ind with
 |h t ih=>
 rw[Ty.vN,Ty.vN,AO,AO];have e1:t.args.all (Ty.wf E)=t.args.all (Ty.wf E'):=by
  rw[Bool.eq_iff_iff,List.all_eq_true,List.all_eq_true];constructor
  .intro h x hx;rw[<- ih x hx];exact h x hx
  .intro h x hx;rw[ih x hx];exact h x hx
 rw[e1];have e2:eR E t.name t.args.length=eR E' t.name t.args.length:=by unfold eR;rw[h]
 rw[e2]
structure uz (E:Env) (l:List Dt):Prop where
 name:∀n d,aJ E.aK n=some d->d.name=n
 bE:∀n x,aJ E.cons n=some x->aJ E.aK x.1.name=some x.1
 mem:∀n d,aJ E.aK n=some d->d∈l
 aj:E.aj=[]
theorem RO{d:Dt}:∀(ks:List Cn) (i:Nat) (m:List (ByteArray×(Dt×Nat))) (n:ByteArray) (x:Dt×Nat),aJ (rh d ks i m) n=some x->aJ m n=some x\/x.1=d
 |[],_,m,n,x,h=>.inl h
 |k::ks,i,m,n,x,h=>by
  rw[rh]at h;rcases RO ks (i+1) _ n x h with h |h
  .rw[jg]at h
   split at h
   .cases h;exact .inr rfl
   .exact .inl h
  .exact .inr h
theorem uz.enter{E:Env}{l:List Dt}(h:uz E l){d:Dt}(hn:aJ E.aK d.name=none){l':List Dt}(hl:∀x∈l,x∈l')(hd:d∈l'):uz (ur E d) l':=by
 have get:∀n,aJ (ur E d).aK n=if d.name=n then some d else aJ E.aK n:=fun n=>jg _ _ _ _
 refine⟨fun n e he=>?_,fun n x hx=>?_,fun n e he=>?_,h.aj⟩
 .rw[get]at he
  split at he
  .cases he;assumption
  .exact h.name n e he
 .rw[get];rcases RO _ _ _ _ _ hx with h1 |h1
  .have h2:=h.bE n x h1;rw[if_neg (fun e=>by rw[e]at hn;rw[hn]at h2;cases h2)];exact h2
  .rw[h1,if_pos rfl]
 .rw[get]at he
  split at he
  .cases he;exact hd
  .exact hl _ (h.mem n e he)
theorem ajf{E:Env}{d:Dt}(hn:aJ E.aK d.name=none){n:ByteArray}{x:Dt}(h:aJ E.aK n=some x):aJ (ur E d).aK n=some x:=by
 show aJ (bS E.aK d.name d) n=some x;rw[jg,if_neg (fun e=>by rw[e]at hn;rw[hn]at h;cases h)];exact h
theorem ZE{E:Env}{d:Dt}(h:ri E d=0):aJ E.aK d.name=none:=by
 unfold ri at h
 split at h
 .cases h
 .split at h
  .cases h
  .rename_i h2;cases hx:aJ E.aK d.name with
   |none=>rfl
   |some y=>rw[hx]at h2;simp at h2
theorem RP:∀(l:List Dt) (E E':Env) (l0:List Dt),uz E l0->px l E=.ok E'->uz E' (l0++l)/\∀n d,aJ E.aK n=some d->aJ E'.aK n=some d
 |[],E,E',l0,h,hd=>by rw[px]at hd;cases hd;exact⟨by rw[List.append_nil];exact h,fun _ _ h=>h⟩
 |d::l,E,E',l0,h,hd=>by
  rw[px]at hd
  split at hd
  .cases hd
  .rename_i h0;have h0:ri E d=0:=by simpa using h0
   have hn:=ZE h0;have h1:uz (ur E d) (l0++[d]):=h.enter hn (fun x hx=>by simp[hx]) (by simp);obtain⟨h2,h3⟩:=RP l _ E' (l0++[d]) h1 hd;refine⟨by rw[List.append_assoc]at h2;exact h2,fun n x hx=>h3 n x (ajf hn hx)⟩
theorem RQ:uz jM mL:=by
 have e0:uz H0 []:=⟨fun n d h=>(by cases h),fun n d h=>(by cases h),fun n d h=>(by cases h),rfl⟩;have step:∀(l:List Dt) (E:Env) (l0:List Dt),uz E l0->(∀d∈l,aJ E.aK d.name=none)->(l.map Dt.name).Nodup->uz (A6 l E) (l0++l):=by
  intro l
  induction l with
  |nil=>intro E l0 h _ _;rw[List.append_nil];exact h
  |cons d l ih=>
   intro E l0 h hn gR;rw[List.map_cons,List.nodup_cons]at gR;have h1:uz (ur E d) (l0++[d]):=h.enter (hn d (by simp)) (fun x hx=>by simp[hx]) (by simp)
   have:=ih (ur E d) (l0++[d]) h1 (fun x hx=>by
    show aJ (bS E.aK d.name d) x.name=none;rw[jg,if_neg (fun e=>gR.1 (by rw[e];exact List.mem_map_of_mem hx))]
    exact hn x (by simp[hx])) gR.2
   rw[List.append_assoc]at this;exact this
 have:=step mL H0 [] e0 (fun d _=>rfl) (by decide);exact this
theorem ZF:aJ jM.aK dList.name=some dList:=by rfl
theorem ajg:aJ jM.aK mh.name=some mh:=by rfl
theorem My(E:Env)(s:ByteArray):Ty.wf E (.mk 2 s [])=true:=by rw[Ty.vN,AO];rfl
theorem ajh{E:Env}(h:aJ E.aK dList.name=some dList):∀d∈mL,∀k∈d.cons,∀f∈k.fields,f.wf E=true:=by
 have hL:Ty.wf E nN=true:=by
  rw[Ty.vN,AO];have:eR E dList.name 1=false:=by unfold eR;rw[h];rfl
  have e:eR E (Ty.name nN) (Ty.args nN).length=false:=this;rw[e];simp[Ty.args,Ty.kind,My]
 intro d hd k hk f hf;simp only[mL,List.mem_cons,List.not_mem_nil,or_false]at hd;rcases hd with rfl |rfl |rfl |rfl |rfl<;>simp only[List.mem_cons,List.not_mem_nil,or_false]at hk
 .rcases hk with rfl |rfl<;>cases hf
 .subst hk;cases hf
 .rcases hk with rfl |rfl
  .cases hf
  .simp only[List.mem_cons,List.not_mem_nil,or_false]at hf;rcases hf with rfl |rfl
   .exact My _ _
   .exact hL
 .subst hk;simp only[List.mem_cons,List.not_mem_nil,or_false]at hf;rcases hf with rfl |rfl<;>exact My _ _
 .subst hk;simp only[List.mem_cons,List.not_mem_nil,or_false]at hf;rcases hf with rfl |rfl |rfl<;>exact My _ _
theorem ZG{l:List Dt}{E:Env}(h:oB jM l=.ok E):(∀n x,aJ E.cons n=some x->(∃d,aJ E.aK x.1.name=some d/\d.params.length=x.1.params.length)/\∀f∈gg x.1 x.2,f.wf E=true)/\eR E jq 0=false/\E.aj=[]:=by
 unfold oB at h
 split at h
 .cases h
 .rename_i E' th
  split at h
  .rename_i ff;cases h;obtain⟨hi,hk⟩:=RP l jM E mL RQ th;refine⟨fun n x hx=>?_,?_,hi.aj⟩
   .have hd:=hi.bE n x hx;refine ⟨⟨x.1,hd,rfl⟩,fun f hf=>?_⟩;have ii:∃ k∈x.1.cons,f∈k.fields:=by
     unfold gg at hf;rw[List.getD_eq_getElem?_getD,List.getElem?_map]at hf;cases hg:x.1.cons[x.2]? with
     |none=>rw[hg]at hf;cases hf
     |some k=>rw[hg]at hf;exact⟨k,List.mem_of_getElem? hg,hf⟩
    obtain⟨k,jv,pW⟩:=ii;rcases List.mem_append.1 (hi.mem _ _ hd)with hm |hm
    .exact ajh (hk _ _ ZF) _ hm k jv f pW
    .unfold CP at ff;rw[List.all_eq_true]at ff;have:=ff _ hm;unfold H2 at this;rw[List.all_eq_true]at this;have:=this k jv;rw[List.all_eq_true]at this;have:=(EU (this f pW)).1;rw[<- CR (E:=iY E x.1.params) (E':=E) rfl];exact this
   .unfold eR;have:aJ E.aK jq=some mh:=hk _ _ ajg;rw[this];rfl
  .cases h
theorem aji{E E':Env}{d:Df}(h:rj E d=.ok E'):E'.aK=E.aK/\E'.cons=E.cons/\(∀n f,aJ E'.aj n=some f->aJ E.aj n=some f\/f.type.wf E=true):=by
 unfold rj at h
 split at h
 .cases h
 .split at h
  .cases h
  .split at h
   .cases h
   .rename_i hr;cases h;refine⟨rfl,rfl,fun n f hf=>?_⟩;have hf:aJ (bS E.aj d.name d) n=some f:=hf;rw[jg]at hf
    split at hf
    .cases hf
     right
     have:=(EU (by simpa using hr)).1;rw[<- CR (E:={ E with params:=oC d.params []}) (E':=E) rfl];exact this
    .exact .inl hf
theorem ZH:∀(l:List Df) (E E':Env),gI l E=.ok E'->E'.aK=E.aK/\E'.cons=E.cons/\(∀n f,aJ E'.aj n=some f->aJ E.aj n=some f\/f.type.wf E=true)
 |[],E,E',h=>by rw[gI]at h;cases h;exact⟨rfl,rfl,fun _ _ h=>.inl h⟩
 |d::l,E,E',h=>by
  rw[gI]at h
  split at h
  .cases h
  .rename_i E1 h1;obtain⟨a1,a2,a3⟩:=aji h1;obtain⟨b1,b2,b3⟩:=ZH l E1 E' h;refine⟨b1.trans a1,b2.trans a2,fun n f hf=>?_⟩;rcases b3 n f hf with h |h
   .exact a3 n f h
   .rw[CR a1]at h;exact .inr h
theorem RR{l:List Dt}{ds:List Df}{E1 E2:Env}(h1:oB jM l=.ok E1)(h2:gI ds E1=.ok E2)(ps:List ByteArray):nC (iY E2 ps)/\eR (iY E2 ps) jq 0=false:=by
 obtain⟨a1,a2,a3⟩:=ZG h1;obtain⟨b1,b2,b3⟩:=ZH ds E1 E2 h2;refine⟨⟨fun n x hx=>?_,fun n f hf=>?_⟩,?_⟩
 .have hx:aJ E2.cons n=some x:=hx;rw[b2]at hx;obtain⟨c1,c2⟩:=a1 n x hx;refine⟨?_,fun f hf=>?_⟩
  .show ∃d,aJ E2.aK x.1.name=some d/\_;rw[b1];exact c1
  .rw[CR (E:=iY E2 ps) (E':=E1) b1];exact c2 f hf
 .have hf:aJ E2.aj n=some f:=hf;rw[CR (E:=iY E2 ps) (E':=E1) b1];rcases b3 n f hf with h |h
  .rw[a3]at h;cases h
  .exact h
 .show eR (iY E2 ps) jq 0=false;unfold eR at *;have:(iY E2 ps).aK=E1.aK:=b1;rw[this];exact a2
end
section
open Go Go.W
theorem ajj(e:Ex):∀{w:World} {B:Nat->Prop} {cs:List Value},ci w B cs e->bu Tryz.prog 36 [.agg cs.toArray] w fun r w'=>r=I e.size/\Mod (fun _=>False) w w':=by
 induction e using Ex.ind with
 |h e dK hM gT=>
 intro w B cs h;obtain⟨vt,va,vb,vl,rfl,ht,ha,hb,hl⟩:=h.parts;obtain⟨aa,ca,rfl⟩:=bq ha;obtain⟨ab,cb,rfl⟩:=bq hb;obtain⟨al,cl,rfl⟩:=bq hl;refine γ Tryz.f36 ?_;refine σ ?_;refine bZ rfl ?_;intro w1 au ak _;simp only[go_sem,simprocAttr,cell_of au,Value.cells];refine δ (by rfl) (W4 (ht.mod ak aA (fun _ _ h=>h.mod ak aA))) ?_;rintro _ w2 ⟨rfl,ai⟩;simp only[go_sem,simprocAttr,cell_of (ai.at au Ψ),Value.cells];refine j7 (PP:=fun w=>ci w B) (l:=e.args) (B:=B) (fun k ρ w'=>Mod (fun _=>False) w1 w'/\k<=e.args.length/\∃n,e.size=oW e.alts (qS e.binds (rT (e.args.drop k) n))/\ρ=[(1,ptr w.heap.size),(3,I n),(15,.slice aa e.args.length ca),(16,I e.args.length),(17,I k)])
  ⟨ai,by omega,_,e.size_eq,rfl⟩ ha ?_ (fun _ _ _ h=>h.one) rfl ?_ ?_
 .rintro k _ w2 ⟨ai,hk,n,he,rfl⟩;have hm:=ak.trans ai;exact⟨⟨ha.mod hm aA (fun _ _ h=>h.mod hm aA),hk⟩,rfl,rfl,rfl⟩
 .rintro k _ w2 hk w3 r b pv ⟨ai,_,n,he,rfl⟩ hr cG aS aw _;simp only[go_sem,simprocAttr,aE aS cG];refine δ (by rfl) (dK _ (List.getElem_mem hk) (hr.mod aw aA)) ?_;rintro _ w4 ⟨rfl,aD⟩;refine σ ?_;exact⟨ai.trans (aw.trans aD),hk,_,he.trans (by rw[af2 n hk]),rfl⟩
 rintro _ w3 ⟨aw,_,n,he,rfl⟩;rw[List.drop_length]at he;simp only[go_sem,simprocAttr,cell_of (aw.at au Ψ),Value.cells];refine j7 (PP:=fun w=>eh w B) (l:=e.binds) (B:=B) (fun k ρ w'=>Mod (fun _=>False) w1 w'/\k<=e.binds.length/\∃n,e.size=oW e.alts (qS (e.binds.drop k) n)/\ρ=[(1,ptr w.heap.size),(3,I n),(27,.slice ab e.binds.length cb),(28,I e.binds.length),(29,I k)])
  ⟨aw,by omega,_,he,rfl⟩ hb ?_ (fun _ _ _ h=>h.one) rfl ?_ ?_
 .rintro k _ w2 ⟨ai,hk,n,he,rfl⟩;have hm:=ak.trans ai;exact⟨⟨hb.mod hm aA (fun _ _ h=>h.mod hm aA),hk⟩,rfl,rfl,rfl⟩
 .rintro k _ w2 hk w3 r b pv ⟨ai,_,n,he,rfl⟩ hr cG aS aw _;obtain⟨tc,ec,rfl,fO,iI,_⟩:=hr;have l1:=fO.len;have l2:=iI.len;have k1:=jm (off:=1) (n:=3) aS (by simp;omega);have k2:=jm (off:=4) (n:=7) aS (by simp;omega);rw[List.drop_succ_cons,List.drop_zero,List.take_left' l1]at k1;rw[List.drop_succ_cons,List.drop_left' l1,List.take_of_length_le (by omega)]at k2;simp only[go_sem,simprocAttr,cY,k1,k2];refine δ (by rfl) (EH _ (fO.mod aw.drew aA)) ?_;rintro _ w4 ⟨rfl,aD⟩;refine σ ?_;refine⟨aD.bO _ (bP aS) Ψ,?_⟩;refine δ (by rfl) (hM _ (List.getElem_mem hk) (iI.mod (aw.drew.trans aD) aA)) ?_;rintro _ w5 ⟨rfl,aH⟩;refine σ ?_;exact⟨ai.trans (aw.drew.trans (aD.trans aH)),hk,_,he.trans (by rw[af4 n hk]),rfl⟩
 rintro _ w4 ⟨aD,_,n,he,rfl⟩;rw[List.drop_length]at he;simp only[go_sem,simprocAttr,cell_of (aD.at au Ψ),Value.cells];refine j7 (PP:=fun w=>jc w B) (l:=e.alts) (B:=B) (fun k ρ w'=>Mod (fun _=>False) w1 w'/\k<=e.alts.length/\∃n,e.size=oW (e.alts.drop k) n/\ρ=[(3,I n),(45,.slice al e.alts.length cl),(46,I e.alts.length),(47,I k)])
  ⟨aD,by omega,_,he,rfl⟩ hl ?_ (fun _ _ _ h=>h.one) rfl ?_ ?_
 .rintro k _ w2 ⟨ai,hk,n,he,rfl⟩;have hm:=ak.trans ai;exact⟨⟨hl.mod hm aA (fun _ _ h=>h.mod hm aA),hk⟩,rfl,rfl,rfl⟩
 .rintro k _ w2 hk w3 r b pv ⟨ai,_,n,he,rfl⟩ hr cG aS aw _;obtain⟨vv,ec,rfl,ZI,iI⟩:=hr;obtain⟨av,cv,rfl⟩:=bq ZI;have l2:=iI.len;have k2:=jm (off:=4) (n:=7) aS (by simp;omega);simp only[List.drop_succ_cons,List.drop_zero]at k2;rw[List.take_of_length_le (by omega)]at k2;simp only[go_sem,simprocAttr,cY,cell_of aS,k2];refine δ (by rfl) (gT _ (List.getElem_mem hk) (iI.mod aw.drew aA)) ?_;rintro _ w5 ⟨rfl,aH⟩;refine σ ?_;exact⟨aH.bO _ (bP aS) Ψ,ai.trans (aw.drew.trans aH),hk,_,he.trans (by rw[af5 n hk]),rfl⟩
 .rintro _ w2 ⟨ai,_,n,he,rfl⟩;refine σ ?_;rw[he,List.drop_length];exact⟨rfl,ak.trans ai⟩
theorem ajk(e:Ex):∀{w:World} {B:Nat->Prop} {cs:List Value},ci w B cs e->bu Tryz.prog 48 [.agg cs.toArray] w fun r w'=>r=I e.deep/\Mod (fun _=>False) w w':=by
 induction e using Ex.ind with
 |h e dK hM gT=>
 intro w B cs h;obtain⟨vt,va,vb,vl,rfl,ht,ha,hb,hl⟩:=h.parts;obtain⟨aa,ca,rfl⟩:=bq ha;obtain⟨ab,cb,rfl⟩:=bq hb;obtain⟨al,cl,rfl⟩:=bq hl;refine γ Tryz.f48 ?_;refine σ ?_;refine bZ rfl ?_;intro w1 au ak _;simp only[go_sem,simprocAttr,cell_of au,Value.cells];refine j7 (PP:=fun w=>ci w B) (l:=e.args) (B:=B) (fun k ρ w'=>Mod (fun _=>False) w1 w'/\k<=e.args.length/\∃n,e.deep=Wr (yU e.alts (AE e.binds (Cf (e.args.drop k) n))+1)/\ρ=[(1,ptr w.heap.size),(3,I n),(11,.slice aa e.args.length ca),(12,I e.args.length),(13,I k)])
  ⟨.refl _ _,by omega,_,e.af0,rfl⟩ ha ?_ (fun _ _ _ h=>h.one) rfl ?_ ?_
 .rintro k _ w2 ⟨ai,hk,n,he,rfl⟩;have hm:=ak.trans ai;exact⟨⟨ha.mod hm aA (fun _ _ h=>h.mod hm aA),hk⟩,rfl,rfl,rfl⟩
 .rintro k _ w2 hk w3 r b pv ⟨ai,_,n,he,rfl⟩ hr cG aS aw _;simp only[go_sem,simprocAttr,aE aS cG];refine δ (by rfl) (dK _ (List.getElem_mem hk) (hr.mod aw aA)) ?_;rintro _ w4 ⟨rfl,aD⟩;refine σ ?_;exact⟨ai.trans (aw.trans aD),hk,_,he.trans (by rw[af6 n hk]),rfl⟩
 rintro _ w3 ⟨aw,_,n,he,rfl⟩;rw[List.drop_length]at he;simp only[go_sem,simprocAttr,cell_of (aw.at au Ψ),Value.cells];refine j7 (PP:=fun w=>eh w B) (l:=e.binds) (B:=B) (fun k ρ w'=>Mod (fun _=>False) w1 w'/\k<=e.binds.length/\∃n,e.deep=Wr (yU e.alts (AE (e.binds.drop k) n)+1)/\ρ=[(1,ptr w.heap.size),(3,I n),(23,.slice ab e.binds.length cb),(24,I e.binds.length),(25,I k)])
  ⟨aw,by omega,_,he,rfl⟩ hb ?_ (fun _ _ _ h=>h.one) rfl ?_ ?_
 .rintro k _ w2 ⟨ai,hk,n,he,rfl⟩;have hm:=ak.trans ai;exact⟨⟨hb.mod hm aA (fun _ _ h=>h.mod hm aA),hk⟩,rfl,rfl,rfl⟩
 .rintro k _ w2 hk w3 r b pv ⟨ai,_,n,he,rfl⟩ hr cG aS aw _;obtain⟨tc,ec,rfl,fO,iI,_⟩:=hr;have l1:=fO.len;have l2:=iI.len;have k2:=jm (off:=4) (n:=7) aS (by simp;omega);rw[List.drop_succ_cons,List.drop_left' l1,List.take_of_length_le (by omega)]at k2;simp only[go_sem,simprocAttr,k2];refine δ (by rfl) (hM _ (List.getElem_mem hk) (iI.mod aw aA)) ?_;rintro _ w5 ⟨rfl,aH⟩;refine σ ?_;exact⟨ai.trans (aw.trans aH),hk,_,he.trans (by rw[af7 n hk]),rfl⟩
 rintro _ w4 ⟨aD,_,n,he,rfl⟩;rw[List.drop_length]at he;simp only[go_sem,simprocAttr,cell_of (aD.at au Ψ),Value.cells];refine j7 (PP:=fun w=>jc w B) (l:=e.alts) (B:=B) (fun k ρ w'=>Mod (fun _=>False) w1 w'/\k<=e.alts.length/\∃n,e.deep=Wr (yU (e.alts.drop k) n+1)/\ρ=[(3,I n),(36,.slice al e.alts.length cl),(37,I e.alts.length),(38,I k)])
  ⟨aD,by omega,_,he,rfl⟩ hl ?_ (fun _ _ _ h=>h.one) rfl ?_ ?_
 .rintro k _ w2 ⟨ai,hk,n,he,rfl⟩;have hm:=ak.trans ai;exact⟨⟨hl.mod hm aA (fun _ _ h=>h.mod hm aA),hk⟩,rfl,rfl,rfl⟩
 .rintro k _ w2 hk w3 r b pv ⟨ai,_,n,he,rfl⟩ hr cG aS aw _;obtain⟨vv,ec,rfl,ZI,iI⟩:=hr;have l2:=iI.len;have k2:=jm (off:=4) (n:=7) aS (by simp;omega);simp only[List.drop_succ_cons,List.drop_zero]at k2;rw[List.take_of_length_le (by omega)]at k2;simp only[go_sem,simprocAttr,k2];refine δ (by rfl) (gT _ (List.getElem_mem hk) (iI.mod aw aA)) ?_;rintro _ w5 ⟨rfl,aH⟩;refine σ ?_;exact⟨ai.trans (aw.trans aH),hk,_,he.trans (by rw[af8 n hk]),rfl⟩
 .rintro _ w2 ⟨ai,_,n,he,rfl⟩;refine σ ?_;rw[he,List.drop_length];exact⟨rfl,ak.trans ai⟩
theorem RT(p:Pg){w:World}{B:Nat->Prop}{cs:List Value}(h:j0 w B cs p):bu Tryz.prog 15 [.agg cs.toArray] w fun r w'=>r=I p.size/\Mod (fun _=>False) w w':=by
 obtain⟨vd,vf,rfl,hd,hf⟩:=h;obtain⟨ad,cd,rfl⟩:=bq hd;obtain⟨af,cf,rfl⟩:=bq hf;refine γ Tryz.f15 ?_;refine σ ?_;refine bZ rfl ?_;intro w1 au ak _;simp only[go_sem,simprocAttr,cell_of au,Value.cells];refine j7 (PP:=fun w=>gC w B) (l:=p.aK) (B:=B) (fun k ρ w'=>Mod (fun _=>False) w1 w'/\k<=p.aK.length/\∃n,p.size=rU p.aj (qT (p.aK.drop k) n)/\ρ=[(1,ptr w.heap.size),(3,I n),(11,.slice ad p.aK.length cd),(12,I p.aK.length),(13,I k)])
  ⟨.refl _ _,by omega,_,rfl,rfl⟩ hd ?_ (fun _ _ _ h=>h.one) rfl ?_ ?_
 .rintro k _ w2 ⟨ai,hk,n,he,rfl⟩;have hm:=ak.trans ai;exact⟨⟨hd.mod hm aA (fun _ _ h=>h.mod hm aA),hk⟩,rfl,rfl,rfl⟩
 .rintro k _ w2 hk w3 r b pv ⟨ai,_,n,he,rfl⟩ hr cG aS aw _;obtain ⟨vp,vc,rfl,hp,hc⟩:=hr;obtain ⟨ac,cc,rfl⟩:=bq hc;simp only [go_sem,simprocAttr,cell_of aS];rw [af' n hk] at he;refine j7 (PP:=fun w=>fj w B) (l:=p.aK[k].cons) (B:=B) (fun j ρ w'=>Mod (fun _=>False) w1 w'∧Mod (fun _=>False) w3 w'∧j≤p.aK[k].cons.length∧∃ n,p.size=rU p.aj (qT (p.aK.drop (k+1)) (tT (p.aK[k].cons.drop j) n))∧ρ=[(1,ptr w.heap.size),(3,I n),(11,.slice ad p.aK.length cd),(12,I p.aK.length),(13,I k),(20,.slice ac p.aK[k].cons.length cc),(21,I p.aK[k].cons.length),(22,I j)])
   ⟨ai.trans aw,.refl _ _,by omega,_,he,rfl⟩ hc ?_ (fun _ _ _ h=>h.one) rfl ?_ ?_
  .rintro j _ w2 ⟨aD,aH,hj,n,he,rfl⟩;have hm:=aw.trans aH;exact⟨⟨hc.mod hm aA (fun _ _ h=>h.mod hm aA),hj⟩,rfl,rfl,rfl⟩
  .rintro j _ w4 hj w5 r b pv ⟨aD,aH,_,n,he,rfl⟩ hr cG aS aG _;obtain⟨vf,rfl,hf,_⟩:=hr;simp only[go_sem,simprocAttr,cell_of aS];refine δ (by rfl) (W4 (hf.mod aG aA (fun _ _ h=>h.mod aG aA))) ?_;rintro _ w7 ⟨rfl,aO⟩;refine σ ?_;exact⟨aD.trans (aG.trans aO),aH.trans (aG.trans aO),hj,_,he.trans (by rw[af9 n hj]),rfl⟩
  rintro _ w4 ⟨aD,aH,_,n,he,rfl⟩;rw[List.drop_length]at he;refine σ ?_;exact⟨aD,hk,n,he,rfl⟩
 rintro _ w4 ⟨aD,_,n,he,rfl⟩;rw[List.drop_length]at he;simp only[go_sem,simprocAttr,cell_of (aD.at au Ψ),Value.cells];refine j7 (PP:=fun w=>jE w B) (l:=p.aj) (B:=B) (fun k ρ w'=>Mod (fun _=>False) w1 w'/\k<=p.aj.length/\∃n,p.size=rU (p.aj.drop k) n/\ρ=[(3,I n),(35,.slice af p.aj.length cf),(36,I p.aj.length),(37,I k)])
  ⟨aD,by omega,_,he,rfl⟩ hf ?_ (fun _ _ _ h=>h.one) rfl ?_ ?_
 .rintro k _ w2 ⟨ai,hk,n,he,rfl⟩;have hm:=ak.trans ai;exact⟨⟨hf.mod hm aA (fun _ _ h=>h.mod hm aA),hk⟩,rfl,rfl,rfl⟩
 .rintro k _ w2 hk w3 r b pv ⟨ai,_,n,he,rfl⟩ hr cG aS aw _;obtain⟨vp,tc,ec,rfl,l1,l2,hp,fO,iI,_⟩:=hr;have k1:=jm (off:=2) (n:=3) aS (by simp;omega);have k2:=jm (off:=5) (n:=7) aS (by simp;omega);simp only[List.drop_succ_cons,List.drop_zero]at k1 k2;rw[List.take_left' l1]at k1;rw[List.drop_left' l1,List.take_of_length_le (by omega)]at k2;simp only[go_sem,simprocAttr,k1,k2];refine δ (by rfl) (EH _ (fO.mod aw.drew aA)) ?_;rintro _ w4 ⟨rfl,aD⟩;refine σ ?_;refine⟨aD.bO _ (bP aS) Ψ,?_⟩;refine δ (by rfl) (ajj _ (iI.mod (aw.drew.trans aD) aA)) ?_;rintro _ w5 ⟨rfl,aH⟩;refine σ ?_;exact⟨ai.trans (aw.drew.trans (aD.trans aH)),hk,_,he.trans (by rw[aga n hk]),rfl⟩
 .rintro _ w2 ⟨ai,_,n,he,rfl⟩;refine σ ?_;rw[he,List.drop_length];exact⟨rfl,ak.trans ai⟩
end
section
open Go Go.W
noncomputable def mM(p:Pg):Except Int Env:=
 if p.size>100000 then .error 4
 else if p.aj.any (fun d=>decide (d.body.deep>4000))=true then .error 3
 else match oB jM p.aK with
  |.error e=>.error e
  |.ok E1=>match gI p.aj E1 with
   |.error e=>.error e
   |.ok E2=>if(kJ E2 p.aj != 0)=true then .error (kJ E2 p.aj)else .ok E2
theorem ZJ{α:Type}{l:List α}{p:α->Bool}{i:Nat}(hi:i<l.length):(l.drop i).any p=(p l[i]||(l.drop (i+1)).any p):=by rw[Ω hi,List.any_cons]
def ajl(w1 w':World)(c:Nat)(E:Env):Prop:=∃md mc mf S,gU w' S c md mc mf E/\∀b,S b->w1.heap.size<=b
def ZK(w w':World)(r:Value)(x:Except Int Env):Prop:=match x with
 |.error e=>r=.tuple #[.pointer none,I e]/\e≠0
 |.ok E=>∃c,r=.tuple #[ptr c,I 0]/\ajl w w' c E
theorem cL.ajm{w w':World}{S:Nat->Prop}{M:Ms}{E:Env}{bd:cE}{lc:Loc}{ps:cE}(h:cL w S M E bd lc)(hm:Mod (· = M.mp) w w')(h1:bQ w' M.mp RI ps):cL w' S M { E with params:=ps} bd lc:=by
 obtain⟨⟨a1,a2,a3,a4,a5,a6⟩,⟨b1,b2,b3,b4,b5⟩,⟨c1,c2,c3,c4⟩,⟨d1,d2,d3⟩,⟨e1,e2⟩,f1⟩:=Ms.ne h.nodup;have hS:∀b,b=M.mp->S b:=fun b hb=>by rw[hb];exact h.aT _ (by simp[Ms.list])
 have cA:Mod S w w':=hm.aU hS
 exact⟨hm.at h.box a4,h.nodup,h.aT,fun b hb=>Nat.lt_of_lt_of_le (h.lt b hb) hm.size,
  h.aK.mod hm b3 (fun _ _ x=>x.up cA aW (br cA)),h.cons.mod hm c2 (fun _ _ x=>x.up cA aW (br cA)),
  h.aj.mod hm d1 (fun _ _ x=>x.up cA aW (br cA)),h1,h.jt.mod hm (fun e=>e1 e.symm) (fun _ _ x=>x),h.locals.mod hm (fun e=>e2 e.symm) (fun _ _ x=>x.up cA aW (br cA))⟩
theorem ajn(p:Pg){w:World}{cs:List Value}(h:j0 w (Out (fun _=>False) w) cs p) :
   bu Tryz.prog 28 [.agg cs.toArray] w fun r w'=>ZK w w' r (mM p)/\Mod (fun _=>False) w w':=by
 obtain⟨vd,vf,rfl,hd,hf⟩:=h;obtain⟨ad,cd,rfl⟩:=bq hd;obtain⟨af,cf,rfl⟩:=bq hf;have nL:=dI hf;refine γ Tryz.f28 ?_;refine σ ?_;refine bZ rfl ?_;intro w1 au ak cw;have z1:=ak.size;have lists:∀{w':World} {S:Nat->Prop},Mod (fun _=>False) w1 w'->(∀b,S b->w1.heap.size<=b)->aX w' (.slice ad p.aK.length cd) 3 (Out S w') (gC w' (Out S w')) p.aK/\aX w' (.slice af p.aj.length cf) 12 (Out S w') (jE w' (Out S w')) p.aj:=fun hm hs=>by
  have iD:=ak.trans hm;have ho:∀b,Out (fun _=>False) w b->Out _ _ b:=fun b hb=>⟨Nat.lt_of_lt_of_le hb.1 iD.size,fun hh=>by have:=hs b hh;have:=hb.1;omega⟩
  exact⟨hd.up iD aA ho (fun _ _ h=>h.up iD aA ho),hf.up iD aA ho (fun _ _ h=>h.up iD aA ho)⟩
 have ZL:∀b:Nat,(fun _=>False:Nat->Prop) b->w1.heap.size<=b:=fun _ h=>h.elim
 have fin:∀{w':World} {e:Int},Mod (fun _=>False) w1 w'->e≠0->mM p=.error e->ZK w w' (.tuple #[.pointer none,I e]) (mM p)/\Mod (fun _=>False) w w':=fun hm bJ he=>by
  rw[he];exact⟨⟨rfl,bJ⟩,ak.trans hm⟩
 have hX:mM p=if p.size>100000 then .error 4
  else if p.aj.any (fun d=>decide (d.body.deep>4000))=true then .error 3
  else match oB jM p.aK with
   |.error e=>.error e
   |.ok E1=>match gI p.aj E1 with
    |.error e=>.error e
    |.ok E2=>if(kJ E2 p.aj != 0)=true then .error (kJ E2 p.aj)else .ok E2:=rfl
 have kd:∀{w':World},Mod (fun _=>False) w1 w'->w'.cell? ⟨w.heap.size,0,none⟩=some (.slice ad p.aK.length cd)/\w'.cell? ⟨w.heap.size,1,none⟩=some (.slice af p.aj.length cf):=fun hm=>by
  constructor<;>(rw[cell_of (hm.at au Ψ)];rfl)
 simp only[go_sem,simprocAttr,aE (n:=2) au rfl];refine aL (by rfl) ?_;obtain⟨l1,l2⟩:=lists (Mod.refl _ w1) ZL;refine(RT p ⟨_,_,rfl,l1,l2⟩).mono ?_;rintro _ w2 ⟨rfl,ai⟩;by_cases bV:p.size>100000
 .rw[if_pos bV]at hX;have GI:decide (p.size>100000)=true:=by simpa using bV
  simp only[go_sem,simprocAttr,GI,aM,RV.ev,aN];exact fin ai (by decide) hX
 rw[if_neg bV]at hX;have GI:decide (p.size>100000)=false:=by simpa using bV
 obtain⟨q0,q1⟩:=kd ai;simp only[go_sem,simprocAttr,GI,q1];refine eW p.aj.length (fun k ρ w'=>k<=p.aj.length/\Mod (fun _=>False) w1 w'/\((p.aj.drop k).any (fun d=>decide (d.body.deep>4000)))=p.aj.any (fun d=>decide (d.body.deep>4000))/\ρ=[(1,ptr w.heap.size),(22,.slice af p.aj.length cf),(23,I p.aj.length),(24,I k)])
  ⟨by omega,ai,rfl,rfl⟩ nL ?_ ?_ (by decide) ?_
 .rintro k _ w3 ⟨hk,_,_,rfl⟩;exact⟨rfl,rfl,hk⟩
 .rintro k _ w3 ⟨_,aw,xS,rfl⟩ hk;rw[ZJ hk]at xS;obtain⟨_,l2⟩:=lists aw ZL;obtain⟨zA,c3,rr,e,hr,xU,cR,_⟩:=dT l2 hk;obtain⟨rfl,-,-⟩:=cU e;have bk:(0:Int)<=k/\(k:Int)<p.aj.length:=by omega
  have iS:=hr.one;obtain⟨vp,tc,bc,rfl,cG,kU,fJ,bL,iW,_⟩:=hr;simp only[go_sem,simprocAttr,bG,bH,bk,cR];refine eC (n:=12) (vs:=.string p.aj[k].name::vp::(tc++bc)) rfl xU iS ?_;intro w4 bY aD dL;have k5:=jm (off:=5) (n:=7) bY (by simp[Value.cells,cG,kU]);have e5:((Value.string p.aj[k].name::vp::(tc++bc)).drop 5).take 7=bc:=by
   match tc,cG with
   |[a,b,c],_=>simp[List.take_of_length_le (Nat.le_of_eq kU)]
  rw[e5]at k5;simp only[go_sem,simprocAttr,k5];refine δ (by rfl) (ajk p.aj[k].body (iW.aI (aq aD))) ?_;rintro _ w5 ⟨rfl,aH⟩;have ki:=aw.trans (aD.trans aH);cases AY:decide (p.aj[k].body.deep>4000)with
  |true=>
   rw[AY,Bool.true_or]at xS;rw[if_pos xS.symm]at hX;simp only[go_sem,simprocAttr,AY,aM,RV.ev,aN];exact fin ki (by decide) hX
  |false=>
   rw[AY,Bool.false_or]at xS;simp only[go_sem,simprocAttr,AY];exact⟨hk,ki,xS⟩
 rintro _ w3 ⟨_,aw,xS,rfl⟩;rw[List.drop_length]at xS;have xS:false=_:=xS;rw[if_neg (by rw[<- xS];simp)]at hX;refine σ ?_;refine aL (by rfl) ?_;refine aiU.mono ?_;rintro _ w4 ⟨⟨c,md,mc,mf,S0,rfl,ZM,CS⟩,aD⟩;have gj:=aw.trans aD;have RU:=aw.size;have RW:∀b,S0 b->w1.heap.size<=b:=fun b hb=>by have:=CS b hb;omega
 obtain⟨q0,q1⟩:=kd gj;obtain⟨l1,l2⟩:=lists gj RW;simp only[go_sem,simprocAttr,q0];refine δ (by rfl) (ai' ZM l1) ?_;rintro r5 w5 ⟨rY,aH⟩;have qp:∀b∈[c,md,mc,mf],w1.heap.size<=b:=fun b hb=>RW b (ZM.aT b hb)
 have n1:=qp c (by simp);have n2:=qp md (by simp);have n3:=qp mc (by simp);have n4:=qp mf (by simp);have ki:Mod (fun _=>False) w1 w5:=gj.step aH (fun b hb hl=>by rcases hb with h |h |h<;>omega);cases pf:oB jM p.aK with
 |error e=>
  rw[pf]at rY hX;obtain⟨rfl,bJ⟩:=rY;have jJ:(e != 0)=true:=by simpa using bJ
  simp only[go_sem,simprocAttr,jJ,aM,RV.ev,aN];exact fin ki bJ hX
 |ok E1=>
  rw[pf]at rY hX;obtain⟨rfl,S1,RJ,LF,nA⟩:=rY;have z14:=gj.size;have RX:∀b,S1 b->w1.heap.size<=b:=fun b hb=>by
   rcases nA b hb with h |h
   .exact RW b h
   .omega
  obtain ⟨q0,q1⟩:=kd ki;have hX:mM p=match gI p.aj E1 with
      |.error e=>.error e
      |.ok E2=>if(kJ E2 p.aj != 0)=true then .error (kJ E2 p.aj)else .ok E2:=hX
  simp only[go_sem,simprocAttr,q1];refine eW p.aj.length (fun k ρ w'=>k<=p.aj.length/\Mod (fun _=>False) w1 w'/\(∃S Ek,gU w' S c md mc mf Ek/\(∀b,S b->w1.heap.size<=b)/\gI (p.aj.drop k) Ek=gI p.aj E1)/\ρ=[(1,ptr w.heap.size),(6,ptr c),(42,.slice af p.aj.length cf),(43,I p.aj.length),(44,I k)])
   ⟨by omega,ki,⟨S1,E1,RJ,RX,rfl⟩,rfl⟩ nL ?_ ?_ (by decide) ?_
  .rintro k _ w6 ⟨hk,_,_,rfl⟩;exact⟨rfl,rfl,hk⟩
  .rintro k _ w6 ⟨_,aG,⟨S,Ek,bK,hS,wl⟩,rfl⟩ hk;rw[ai0 hk]at wl;obtain⟨_,l6⟩:=lists aG hS;obtain⟨zA,c6,rr,e6,hr,xU,cR,_⟩:=dT l6 hk;obtain⟨rfl,-,-⟩:=cU e6;have bk:(0:Int)<=k/\(k:Int)<p.aj.length:=by omega
   have iS:=hr.one;obtain⟨vp,tc,bc,rfl,cG,kU,fJ,bL,iW,ph⟩:=hr;obtain⟨app,po,rfl⟩:=bq fJ;have RE:=dI fJ;simp only[go_sem,simprocAttr,bG,bH,bk,cR];refine eC (n:=12) (vs:=.string p.aj[k].name :: .slice app p.aj[k].params.length po::(tc++bc)) rfl xU iS ?_;intro w7 di aO jn;have ZN:=aO.size;refine σ ?_;refine δ (by rfl) (Ru (ps:=[]) (bK.aI aO) (eB _ _ _ _)) ?_;rintro _ w8 ⟨⟨M,rfl,rfl,rfl,rfl,zk,lp,lb,ll⟩,aZ⟩;have uy:Mod (· = M.c) w6 w8:=(aq aO).trans aZ;have H5:Mod (fun _=>False) w1 w8:=aG.step uy (fun b hb hl=>by have:=qp M.c (by simp);omega);have ajo:=aZ.at di (show ¬w6.heap.size=M.c by have:=bK.lt M.c (bK.aT M.c (by simp));omega);have z16:=aG.size;have z8:=aZ.size;have CQ:∀b,Kn S M b->w1.heap.size<=b:=fun b hb=>by
    rcases hb with h |h |h |h
    .exact hS b h
    .omega
    .omega
    .omega
   have parts:∀{w':World},Mod (fun b=>b=M.mp) w8 w'->aX w' (.slice app p.aj[k].params.length po) 1 (Out (Kn S M) w') ft p.aj[k].params/\aR w' (Out (Kn S M) w') tc p.aj[k].type:=fun hm=>by
    have h1:Mod (Kn S M) w6 _:=(uy.aU (fun b hb=>by rw[hb];exact .inl (bK.aT _ (by simp)))).trans (hm.aU (fun b hb=>.inr (.inl hb)));have jb:∀b,Out S w6 b->¬Kn S M b:=fun b hb hh=>by
     rcases hh with h |h |h |h
     .exact hb.2 h
     .have:=hb.1;omega
     .have:=hb.1;omega
     .have:=hb.1;omega
    have ho:∀b,Out S w6 b->Out (Kn S M) _ b:=fun b hb=>⟨Nat.lt_of_lt_of_le hb.1 h1.size,jb b hb⟩
    exact⟨fJ.up h1 jb ho (fun _ _ h=>h),bL.up h1 jb ho⟩
   have hh:rj Ek p.aj[k]=if ((aJ Ek.aj p.aj[k].name).isSome || !nr p.aj[k].name)=true then .error 82
       else if zF p.aj[k].params []=false then .error 82
       else if iT { Ek with params:=oC p.aj[k].params []} p.aj[k].type=false then .error 83
       else .ok { Ek with aj:=bS Ek.aj p.aj[k].name p.aj[k],params:=oC p.aj[k].params []}:=rfl
   have stop:∀{e:Int},rj Ek p.aj[k]=.error e->mM p=.error e:=fun he=>by
    rw[he]at wl;rw[hX,<- wl]
   have kn:∀{w':World},Mod (fun b=>b=M.mp) w8 w'->w'.cell? ⟨w6.heap.size,0,none⟩=some (.string p.aj[k].name)/\w'.cell? ⟨w6.heap.size,1,none⟩=some (.slice app p.aj[k].params.length po)/\w'.heap[w6.heap.size]?=some (.cells (.string p.aj[k].name :: .slice app p.aj[k].params.length po::(tc++bc)).toArray 59 (0,0)):=fun hm=>by
    have h1:=hm.at ajo (show ¬w6.heap.size=M.mp by omega);refine⟨?_,?_,h1⟩<;>(rw[cell_of h1];rfl)
   have d8:Mod (fun _=>False) w8 w8.drew:=(Mod.refl _ _).drew;have ZO:=zk.aI d8;have ZP:=H5.trans d8;obtain⟨H4,kp8,_⟩:=kn (Mod.refl _ w8);simp only[go_sem,simprocAttr,cell_of zk.box,H4];refine Hp (R:=xA w8.drew (Out (Kn S M) w8.drew)) (k:=p.aj[k].name) (b:=M.mf) (kt:=9) (et:=70) rfl rfl rfl rfl (Tryz.zeroValue70 _) ZO.aj (fun hn=>?_) (fun v y hy hr=>?_)
   rotate_left
   .have hy:aJ Ek.aj p.aj[k].name=some y:=hy;rw[hy,if_pos (by simp)]at hh;obtain⟨LJ,rfl,_⟩:=hr;simp only[go_sem,simprocAttr,aM,RV.ev,aN];exact fin ZP (by decide) (stop hh)
   have hn:aJ Ek.aj p.aj[k].name=none:=hn;rw[hn]at hh;simp only[go_sem,simprocAttr,H4];refine δ (by rfl) (KU p.aj[k].name ph) ?_;rintro _ _ ⟨rfl,rfl⟩;cases ij:nr p.aj[k].name with
   |false=>
    rw[ij,if_pos (by rfl)]at hh;simp only[go_sem,simprocAttr,aM,RV.ev,aN];exact fin ZP (by decide) (stop hh)
   |true=>
   rw[ij,if_neg (by simp)]at hh;simp only[go_sem,simprocAttr,kp8];have Fg:∀{w':World},Mod (fun b=>b=M.mp) w8 w'->Mod (fun _=>False) w1 w':=fun hm=>H5.step hm (fun b hb hl=>by omega)
   refine eW p.aj[k].params.length (fun j ρ w'=>j<=p.aj[k].params.length/\Mod (fun b=>b=M.mp) w8 w'/\(∃m,cL w' (Kn S M) M { Ek with params:=m} [] []/\zF (p.aj[k].params.drop j) m=zF p.aj[k].params []/\oC (p.aj[k].params.drop j) m=oC p.aj[k].params [])/\ρ=[(1,ptr w.heap.size),(6,ptr M.c),(8,I k),(9,ptr w6.heap.size),(42,.slice (some zA) p.aj.length cf),(43,I p.aj.length),(44,I k),(69,.slice app p.aj[k].params.length po),(70,I p.aj[k].params.length),(71,I j)])
    ⟨by omega,aq d8,⟨[],ZO,rfl,rfl⟩,rfl⟩ RE ?_ ?_ (by decide) ?_
   .rintro j _ w9 ⟨hj,_,_,rfl⟩;exact⟨rfl,rfl,hj⟩
   .rintro j _ w9 ⟨_,aQ,⟨m,uA,kx,qP⟩,rfl⟩ hj;rw[aiY hj]at kx;rw[aiZ hj]at qP;obtain⟨adp,c9,ep,hnp,nf⟩:=xr (parts aQ).1 hj;obtain⟨rfl,-,-⟩:=cU ep;have bj:(0:Int)<=j/\(j:Int)<p.aj[k].params.length:=by omega
    simp only[go_sem,simprocAttr,bG,bH,bj,nf];refine δ (by rfl) (Xu p.aj[k].params[j]) ?_;rintro _ cD ⟨rfl,bD⟩;have wm:=uA.aI bD;have jK:=aQ.trans (aq bD);cases hv:vD p.aj[k].params[j]with
    |false=>
     rw[hv,if_pos (by rfl)]at kx;rw[if_pos kx.symm]at hh;simp only[go_sem,simprocAttr,aM,RV.ev,aN];exact fin (Fg jK) (by decide) (stop hh)
    |true=>
     rw[hv]at kx;simp only[go_sem,simprocAttr,cell_of wm.box];refine Cz ?_;refine AM (k:=p.aj[k].params[j]) (b:=M.mp) (kt:=9) (et:=3) rfl rfl rfl rfl (zI _) wm.params ?_;have kE:decide ((aJ m p.aj[k].params[j]).getD 0>0)=has m p.aj[k].params[j]:=rfl;cases hs:has m p.aj[k].params[j]with
     |true=>
      rw[hs]at kE;rw[if_pos (by rw[hs];rfl)]at kx;rw[if_pos kx.symm]at hh;simp only[go_sem,simprocAttr,kE,aM,RV.ev,aN];exact fin (Fg jK) (by decide) (stop hh)
     |false=>
      rw[hs]at kE;rw[if_neg (by rw[hs];simp)]at kx;simp only[go_sem,simprocAttr,kE,cell_of wm.box];refine lW (R:=RI) (a:=(1:Int)) (k:=p.aj[k].params[j]) (b:=M.mp) (kt:=9) (et:=3) rfl rfl rfl rfl rfl wm.params rfl ?_;intro eE jr cI um;refine σ ?_;exact⟨hj,jK.trans cI,_,wm.ajm cI jr,kx,qP⟩
   rintro _ w9 ⟨_,aQ,⟨m,uA,kx,qP⟩,rfl⟩;rw[List.drop_length,zF]at kx;rw[List.drop_length,oC]at qP;subst qP;rw[if_neg (by rw[<- kx];simp)]at hh;obtain⟨kn9,kp9,ajp⟩:=kn aQ;have k2:=jm (off:=2) (n:=3) ajp (by simp[Value.cells,cG,kU]);have e2:((Value.string p.aj[k].name :: .slice app p.aj[k].params.length po::(tc++bc)).drop 2).take 3=tc:=by
    simp[List.take_append_of_le_length,cG]
   rw[e2]at k2;simp only[go_sem,simprocAttr,k2];refine δ (by rfl) (Hs p.aj[k].type uA (parts aQ).2) ?_;rintro _ cD ⟨rfl,bD⟩;have wm:=uA.aI bD;have jK:=aQ.trans (aq bD);cases fO:iT { Ek with params:=oC p.aj[k].params []} p.aj[k].type with
   |false=>
    rw[fO,if_pos rfl]at hh;simp only[go_sem,simprocAttr,aM,RV.ev,aN];exact fin (Fg jK) (by decide) (stop hh)
   |true=>
    rw[fO,if_neg (by simp)]at hh;rw[hh]at wl;obtain⟨ajq,_,_⟩:=kn jK;obtain⟨_,s8⟩:=kd (Fg jK);obtain⟨_,l10⟩:=lists (Fg jK) CQ;obtain⟨aqO,AQ,ZQ,xG,Cv,Lh,ajr⟩:=kI l10 hk;obtain⟨e11,-,-⟩:=cU xG;cases e11;have d10:Mod (fun _=>False) cD cD.drew:=(Mod.refl _ _).drew;have ZR:=wm.aI d10;simp only[go_sem,simprocAttr,bG,bH,cell_of wm.box,ajq,s8,bk];refine lW (R:=xA cD.drew (Out (Kn S M) cD.drew)) (a:=p.aj[k]) (k:=p.aj[k].name) (b:=M.mf) (kt:=9) (et:=70) rfl rfl rfl rfl rfl ZR.aj ⟨_,rfl,ZQ,ajr.up (aq d10) aW (br (aq d10)),Cv.up (aq d10) aW (br (aq d10))⟩ ?_;intro eE jr cI um;have f10:=ZR.forget;have H6:∀b,b=M.mf->Kn S M b:=fun b hb=>by rw[hb];exact .inl (bK.aT _ (by simp))
    obtain⟨⟨a1,a2,a3⟩,⟨b2,b3⟩,c3⟩:=Rt f10.nodup;have jr:=bQ.mod jr (Mod.refl (fun _=>False) eE) Ψ (fun v y x=>x.up (cI.aU H6) aW (br (cI.aU H6)));refine σ ?_;refine⟨hk,((Fg jK).trans d10).step cI (fun b hb hl=>by have:=qp M.mf (by simp);omega),Kn S M,_,f10.fm (E':={ Ek with aj:=bS Ek.aj p.aj[k].name p.aj[k],params:=oC p.aj[k].params []}) cI H6 (fun e=>a3 e) (f10.xN cI H6 (fun e=>b3 e)) (f10.bE cI H6 (fun e=>c3 e)) jr,CQ,wl⟩
  rintro _ w6 ⟨_,aG,⟨S2,E2,pr,sU,wl⟩,rfl⟩;rw[List.drop_length,gI]at wl;rw[<- wl]at hX;have hX:mM p=if(kJ E2 p.aj != 0)=true then .error (kJ E2 p.aj)else .ok E2:=hX
  obtain⟨q0,q1⟩:=kd aG;simp only[go_sem,simprocAttr,q1];refine eW p.aj.length (fun k ρ w'=>k<=p.aj.length/\Mod (fun _=>False) w1 w'/\(∃S,gU w' S c md mc mf E2/\(∀b,S b->w1.heap.size<=b)/\kJ E2 (p.aj.drop k)=kJ E2 p.aj)/\ρ=[(6,ptr c),(110,.slice af p.aj.length cf),(111,I p.aj.length),(112,I k)])
   ⟨by omega,aG,⟨S2,pr,sU,rfl⟩,rfl⟩ nL ?_ ?_ (by decide) ?_
  .rintro k _ w7 ⟨hk,_,_,rfl⟩;exact⟨rfl,rfl,hk⟩
  .rintro k _ w7 ⟨_,aO,⟨S,bK,hS,eV⟩,rfl⟩ hk;rw[ai1 hk]at eV;obtain⟨_,l7⟩:=lists aO hS;obtain⟨zA,c7,rr,e7,hr,xU,cR,_⟩:=dT l7 hk;obtain⟨rfl,-,-⟩:=cU e7;have bk:(0:Int)<=k/\(k:Int)<p.aj.length:=by omega
   have iS:=hr.one;obtain⟨vp,tc,bc,rfl,cG,kU,fJ,bL,iW,ph⟩:=hr;obtain⟨app,po,rfl⟩:=bq fJ;simp only[go_sem,simprocAttr,bG,bH,bk,cR];refine eC (n:=12) (vs:=.string p.aj[k].name :: .slice app p.aj[k].params.length po::(tc++bc)) rfl xU iS ?_;intro w8 A0 aZ kD;have kp:w8.cell? ⟨w7.heap.size,1,none⟩=some (.slice app p.aj[k].params.length po):=by rw[cell_of A0];rfl
   simp only[go_sem,simprocAttr,kp];refine δ (by rfl) (Ru (ps:=p.aj[k].params) (bK.aI aZ) (fJ.up (aq aZ) aW (br (aq aZ)) (fun _ _ h=>h))) ?_;rintro _ w9 ⟨⟨M,rfl,rfl,rfl,rfl,uA,lp,lb,ll⟩,aQ⟩;have z17:=aO.size;have z8:=aZ.size;have z9:=aQ.size;have aqP:=bK.lt M.c (bK.aT M.c (by simp));have Fh:Mod (· = M.c) w7 w9:=(aq aZ).trans aQ;have CT:Mod (fun _=>False) w1 w9:=aO.step Fh (fun b hb hl=>by have:=qp M.c (by simp);omega);have ZS:=aQ.at A0 (show ¬w7.heap.size=M.c by omega);have CQ:∀b,Kn S M b->w1.heap.size<=b:=fun b hb=>by
    rcases hb with h |h |h |h
    .exact hS b h
    .omega
    .omega
    .omega
   have jb:∀b,Out S w7 b->¬Kn S M b:=fun b hb hh=>by
    rcases hh with h |h |h |h
    .exact hb.2 h
    .have:=hb.1;omega
    .have:=hb.1;omega
    .have:=hb.1;omega
   have parts:∀{w':World},Mod M.two w9 w'->aR w' (Out (Kn S M) w') tc p.aj[k].type/\ci w' (Out (Kn S M) w') bc p.aj[k].body:=fun hm=>by
    have h1:Mod (Kn S M) w7 _:=(Fh.aU (fun b hb=>by rw[hb];exact .inl (bK.aT _ (by simp)))).trans (hm.aU (uA.two));have ho:∀b,Out S w7 b->Out (Kn S M) _ b:=fun b hb=>⟨Nat.lt_of_lt_of_le hb.1 h1.size,jb b hb⟩
    exact⟨bL.up h1 jb ho,iW.up h1 jb ho⟩
   have k5:=jm (off:=5) (n:=7) ZS (by simp[Value.cells,cG,kU]);have e5:((Value.string p.aj[k].name :: .slice app p.aj[k].params.length po::(tc++bc)).drop 5).take 7=bc:=by
    match tc,cG with
    |[a,b,c],_=>simp[List.take_of_length_le (Nat.le_of_eq kU)]
   rw[e5]at k5;obtain⟨hG,hB⟩:=RR pf wl.symm p.aj[k].params
   have eN:lJ E2 p.aj[k]=(match cM (iY E2 p.aj[k].params) p.aj[k].body ([],[])with
    |.error e=>e
    |.ok y=>if fY y.1 p.aj[k].type=true then 0 else 83):=rfl
   have stop:∀{e:Int},lJ E2 p.aj[k]=e->e≠0->mM p=.error e:=fun he bJ=>by
    have h1:(lJ E2 p.aj[k]!=0)=true:=by rw[he];simpa using bJ
    rw[if_pos h1]at eV;have h2:(kJ E2 p.aj != 0)=true:=by rw[<- eV];exact h1
    rw[hX,if_pos h2,<- eV,he]
   simp only[go_sem,simprocAttr,k5];refine δ (by rfl) (aip hG hB p.aj[k].body (st:=([],[])) uA (fun q h=>by cases h) (parts (Mod.refl _ w9)).2) ?_;rintro ZQ cD ⟨Cv,bD⟩;obtain⟨cz,u,rfl,bX,cJ,dM⟩:=zx Cv;have ajs:∀b,M.two b->w1.heap.size<=b:=fun b hb=>CQ b (uA.two b hb)
   refine σ ?_;refine eC (n:=3) (vs:=cz) rfl bX cJ ?_;intro eE jy cI um;have Fi:Mod M.two w9 eE:=bD.trans (aq cI);have ZT:Mod (fun _=>False) w1 eE:=CT.step Fi (fun b hb hl=>by have:=ajs b hb;omega);cases cP:cM (iY E2 p.aj[k].params) p.aj[k].body ([],[])with
   |error e4=>
    rw[cP]at dM eN;obtain⟨rfl,E9,_⟩:=dM;have jJ:(e4 != 0)=true:=by simpa using E9
    simp only[go_sem,simprocAttr,jJ,aM,RV.ev,aN];exact fin ZT E9 (stop eN E9)
   |ok y1=>
    obtain⟨t1,eL⟩:=y1;rw[cP]at dM eN;obtain⟨rfl,QL,sZ⟩:=dM;have Q0:=sZ.aI cI
    have ajt:=Fi.at ZS (show ¬M.two w7.heap.size by
     intro h
     rcases h with h |h<;>omega)
    have k2:=jm (off:=2) (n:=3) ajt (by simp[Value.cells,cG,kU]);have e2:((Value.string p.aj[k].name :: .slice app p.aj[k].params.length po::(tc++bc)).drop 2).take 3=tc:=by
     simp[List.take_append_of_le_length,cG]
    rw[e2]at k2;simp only[go_sem,simprocAttr,k2,aE (n:=3) jy bX];refine δ (by rfl) (K9 t1 (QL.aI (aq cI)) (parts Fi).1) ?_;rintro _ dQ ⟨rfl,ei⟩;have ZU:=ZT.trans ei;cases eH:fY t1 p.aj[k].type with
    |false=>
     have eN:lJ E2 p.aj[k]=if fY t1 p.aj[k].type=true then 0 else 83:=eN
     rw[if_neg (by rw[eH];simp)]at eN;simp only[go_sem,simprocAttr,aM,RV.ev,aN];exact fin ZU (by decide) (stop eN (by decide))
    |true=>
     have eN:lJ E2 p.aj[k]=if fY t1 p.aj[k].type=true then 0 else 83:=eN
     rw[if_pos eH]at eN;rw[if_neg (by rw[eN];simp)]at eV;refine σ ?_;exact⟨hk,ZU,Kn S M,((Q0.aI ei).forget).iL E2 rfl rfl rfl,CQ,eV⟩
  .rintro _ w7 ⟨_,aO,⟨S,bK,hS,eV⟩,rfl⟩;rw[List.drop_length,kJ]at eV;rw[if_neg (by rw[<- eV];simp)]at hX;simp only[go_sem,simprocAttr,aM,RV.ev,aN];rw[hX];exact⟨⟨c,rfl,md,mc,mf,S,bK,fun b hb=>by have:=hS b hb;omega⟩,ak.trans aO⟩
end
section
open Go Go.W
noncomputable def fe(p:Pg):Int:=match mM p with |.error e=>e |.ok _=>0
theorem RY(p:Pg){w:World}{cs:List Value}(h:j0 w (Out (fun _=>False) w) cs p) :
   bu Tryz.prog 13 [.agg cs.toArray] w fun r w'=>r=I (fe p)/\Mod (fun _=>False) w w':=by
 have h':=h;obtain⟨vd,vf,rfl,hd,hf⟩:=h;refine γ Tryz.f13 ?_;refine σ ?_;refine bZ rfl ?_;intro w1 au ak cw;simp only[go_sem,simprocAttr,aE (n:=2) au rfl];refine aL (by rfl) ?_;have ho:∀b,Out (fun _=>False) w b->Out (fun _=>False) w1 b:=fun b hb=>⟨Nat.lt_of_lt_of_le hb.1 ak.size,hb.2⟩
 refine(ajn p (h'.up ak aA ho)).mono ?_;rintro r w2 ⟨hr,ai⟩;have hs:fe p=match mM p with |.error e=>e |.ok _=>0:=rfl
 cases hx:mM p with
 |error e=>
  rw[hx]at hr hs;obtain⟨rfl,_⟩:=hr;simp only[go_sem,simprocAttr,aM,RV.ev,aN];rw[hs];exact⟨rfl,ak.trans ai⟩
 |ok E=>
  rw[hx]at hr hs;obtain⟨c,rfl,_⟩:=hr;simp only[go_sem,simprocAttr,aM,RV.ev,aN];rw[hs];exact⟨rfl,ak.trans ai⟩
end
section
open Go Go.W
theorem RZ(t:Ty):∀{w:World} {B:Nat->Prop} {cs:List Value} {left deep:Int},aR w B cs t->bu Tryz.prog 10 [.agg cs.toArray,I left,I deep] w fun r w'=>(∃n,r=I n)/\Mod (fun _=>False) w w':=by
 induction t using Ty.ind with
 |h t ih=>
 intro w B cs left deep h;obtain⟨v,rfl,hl⟩:=h.cells;obtain⟨a,c,rfl⟩:=bq hl;have hlen:=dI hl;refine γ Tryz.f10 ?_;refine σ ?_;refine bZ rfl ?_;intro w1 au ak cw;refine σ ?_;cases h1:decide (deep<1)with
 |true=>simp only[go_sem,simprocAttr,aM,RV.ev,aN];exact⟨⟨_,rfl⟩,ak⟩
 |false=>
  refine σ ?_;refine io (fun z ρ w'=>∃k n,z=t.args.length-k/\k<=t.args.length/\Mod (fun _=>False) w1 w'/\ρ=[(1,I n),(2,I deep),(3,ptr w.heap.size),(7,I k)]) t.args.length ⟨0,_,rfl,by omega,.refl _ _,rfl⟩ ?_;rintro z _ w2 ⟨k,n,rfl,hk,ai,rfl⟩;have az:=ai.at au Ψ;have bo:=ak.trans ai;simp only[go_sem,simprocAttr,cell_of az,Value.cells];by_cases bg:k<t.args.length
  .have b1:decide ((k:Int)<t.args.length)=true:=by simpa using bg
   simp only[go_sem,simprocAttr,b1];cases h2:decide (n>=0)with
   |false=>
    simp only[go_sem,simprocAttr,aM,RV.ev,aN];exact⟨⟨_,rfl⟩,bo⟩
   |true=>
    obtain⟨ad,c2,r,e,hr,cG,cR,_⟩:=dT (hl.mod bo aA (fun _ _ h=>h.mod bo aA)) bg;obtain⟨rfl,-,-⟩:=cU e;have bk:(0:Int)<=k/\(k:Int)<t.args.length:=by omega
    simp only[go_sem,simprocAttr,bG,bH,cell_of az,Value.cells,bk,cR];refine δ (by rfl) (ih _ (List.getElem_mem bg) hr) ?_;rintro _ w3 ⟨⟨n',rfl⟩,aw⟩;have e1:IntKind.i64.wrap ((k:Int)+1)=((k+1:Nat):Int):=by rw[dJ (by omega) (by omega)];omega
    simp only[go_sem,simprocAttr,e1];exact⟨_,by omega,k+1,n',rfl,bg,ai.trans aw,rfl⟩
  .have b1:decide ((k:Int)<t.args.length)=false:=by simpa using bg
   simp only[go_sem,simprocAttr,b1,aM,RV.ev,aN];exact⟨⟨_,rfl⟩,bo⟩
theorem ZV{l:List Ty}{w:World}{B:Nat->Prop}{v:Value}{left deep:Int}(hl:aX w v 3 B (aR w B) l):bu Tryz.prog 9 [v,I left,I deep] w fun r w'=>(∃n,r=I n)/\Mod (fun _=>False) w w':=by
 obtain⟨a,c,rfl⟩:=bq hl;have hlen:=dI hl;refine γ Tryz.f9 ?_;refine σ ?_;refine io (fun z ρ w'=>∃k n,z=l.length-k/\k<=l.length/\Mod (fun _=>False) w w'/\ρ=[(0,.slice a l.length c),(1,I n),(2,I deep),(7,I k)]) l.length ⟨0,left,rfl,by omega,.refl _ _,rfl⟩ ?_;rintro z _ w2 ⟨k,n,rfl,hk,ai,rfl⟩;refine σ ?_;by_cases bg:k<l.length
 .have b1:decide ((k:Int)<l.length)=true:=by simpa using bg
  simp only[go_sem,simprocAttr,b1];cases h2:decide (n>=0)with
  |false=>
   simp only[go_sem,simprocAttr,aM,RV.ev,aN];exact⟨⟨_,rfl⟩,ai⟩
  |true=>
   obtain⟨ad,c2,r,e,hr,cG,cR,_⟩:=dT (hl.mod ai aA (fun _ _ h=>h.mod ai aA)) bg;obtain⟨rfl,-,-⟩:=cU e;have bk:(0:Int)<=k/\(k:Int)<l.length:=by omega
   simp only[go_sem,simprocAttr,bG,bH,bk,cR];refine δ (by rfl) (RZ _ hr) ?_;rintro _ w3 ⟨⟨n',rfl⟩,aw⟩;have e1:IntKind.i64.wrap ((k:Int)+1)=((k+1:Nat):Int):=by rw[dJ (by omega) (by omega)];omega
   simp only[go_sem,simprocAttr,e1];exact⟨_,by omega,k+1,n',rfl,bg,ai.trans aw,rfl⟩
 .have b1:decide ((k:Int)<l.length)=false:=by simpa using bg
  simp only[go_sem,simprocAttr,b1,aM,RV.ev,aN];exact⟨⟨_,rfl⟩,ai⟩
def ZW(e:Ex):Prop:=∀{w:World} {B:Nat->Prop} {cs:List Value} {left deep:Int},ci w B cs e->bu Tryz.prog 11 [.agg cs.toArray,I left,I deep] w fun r w'=>(∃n,r=I n)/\Mod (fun _=>False) w w'
theorem aju{l:List Bd}(ih:∀b∈l,ZW b.value){w:World}{B:Nat->Prop}{v:Value}{left deep:Int}(hl:aX w v 11 B (eh w B) l):bu Tryz.prog 24 [v,I left,I deep] w fun r w'=>(∃n,r=I n)/\Mod (fun _=>False) w w':=by
 obtain⟨a,c,rfl⟩:=bq hl;have hlen:=dI hl;refine γ Tryz.f24 ?_;refine σ ?_;refine io (fun z ρ w'=>∃k n,z=l.length-k/\k<=l.length/\Mod (fun _=>False) w w'/\ρ=[(0,.slice a l.length c),(1,I n),(2,I deep),(7,I k)]) l.length ⟨0,left,rfl,by omega,.refl _ _,rfl⟩ ?_;rintro z _ w2 ⟨k,n,rfl,hk,ai,rfl⟩;refine σ ?_;by_cases bg:k<l.length
 .have b1:decide ((k:Int)<l.length)=true:=by simpa using bg
  simp only[go_sem,simprocAttr,b1];cases h2:decide (n>=0)with
  |false=>
   simp only[go_sem,simprocAttr,aM,RV.ev,aN];exact⟨⟨_,rfl⟩,ai⟩
  |true=>
   obtain⟨ad,c2,r,e,hr,E5,bT⟩:=kI (hl.mod ai aA (fun _ _ h=>h.mod ai aA)) bg;obtain⟨rfl,-,-⟩:=cU e;obtain⟨tc,ec,rfl,bL,hex,_⟩:=hr;have Mz:=bL.len;have R0:=hex.len;have bk:(0:Int)<=k/\(k:Int)<l.length:=by omega
   have k1:=bT.ln (o:=1) (n:=3) (by omega);have vW:((Value.string l[k].name::(tc++ec)).drop 1).take 3=tc:=by simp[List.take_append_of_le_length,Mz]
   rw[vW]at k1;have e1:IntKind.i64.wrap ((k:Int)+1)=((k+1:Nat):Int):=by rw[dJ (by omega) (by omega)];omega
   simp only[go_sem,simprocAttr,bG,bH,bk,k1];refine δ (by rfl) (RZ _ bL) ?_;rintro _ w3 ⟨⟨n',rfl⟩,aw⟩;refine σ ?_;cases h3:decide (n'>=0)with
   |false=>
    simp only[go_sem,simprocAttr,e1];exact⟨_,by omega,k+1,n',rfl,bg,ai.trans aw,rfl⟩
   |true=>
    have uB:=bT.up aw aA (fun _ h=>h);have k4:=uB.ln (o:=4) (n:=7) (by omega);have e4:((Value.string l[k].name::(tc++ec)).drop 4).take 7=ec:=by
     match tc,Mz with
     |[a,b,c],_=>simp[List.take_of_length_le (Nat.le_of_eq R0)]
    rw[e4]at k4;simp only[go_sem,simprocAttr,bG,bH,bk,k4];refine δ (by rfl) (ih _ (List.getElem_mem bg) (hex.mod aw aA)) ?_;rintro _ w4 ⟨⟨n2,rfl⟩,aD⟩;simp only[go_sem,simprocAttr,e1];exact⟨_,by omega,k+1,n2,rfl,bg,ai.trans (aw.trans aD),rfl⟩
 .have b1:decide ((k:Int)<l.length)=false:=by simpa using bg
  simp only[go_sem,simprocAttr,b1,aM,RV.ev,aN];exact⟨⟨_,rfl⟩,ai⟩
theorem ajv(e:Ex):ZW e:=by
 induction e using Ex.ind with
 |h e dK hM gT=>
 intro w B cs left deep h;obtain⟨vt,va,vb,vl,rfl,ht,ha,hb,hl⟩:=h.parts;obtain⟨at',ct,rfl⟩:=bq ht;obtain⟨aa,ca,rfl⟩:=bq ha;obtain⟨ab,cb,rfl⟩:=bq hb;obtain⟨al,cl,rfl⟩:=bq hl;have aqQ:=dI ha;have aqR:=dI hl;refine γ Tryz.f11 ?_;(try simp only[go_sem,simprocAttr]);refine bZ rfl ?_;intro w1 au ak cw;(try simp only[go_sem,simprocAttr]);cases h1:decide (deep<1)with
 |true=>(try simp only[go_sem,simprocAttr,aM,RV.ev,aN]);exact⟨⟨_,rfl⟩,ak⟩
 |false=>
  (try simp only[go_sem,simprocAttr,cell_of au,Value.cells]);refine aL (by rfl) ?_;refine(ZV (ht.mod ak aA (fun _ _ h=>h.mod ak aA))).mono ?_;rintro _ w2 ⟨⟨n2,rfl⟩,ai⟩;(try simp only[go_sem,simprocAttr]);refine io (fun z ρ w'=>∃k n,z=e.args.length-k/\k<=e.args.length/\Mod (fun _=>False) w1 w'/\ρ=[(1,I n),(2,I deep),(3,ptr w.heap.size),(7,I k)]) e.args.length ⟨0,n2,rfl,by omega,ai,rfl⟩ ?_;rintro z _ w3 ⟨k,n,rfl,hk,aw,rfl⟩;have aS:=aw.at au Ψ;have bz:=ak.trans aw;(try simp only[go_sem,simprocAttr,cell_of aS,Value.cells]);have rest:∀(n:Int) (w3:World),Mod (fun _=>False) w1 w3->w3.heap[w.heap.size]?=some (.cells [I e.kind,.string e.name,I e.num,.slice at' e.types.length ct,.slice aa e.args.length ca,.slice ab e.binds.length cb,.slice al e.alts.length cl].toArray 57 (0,0))->True:=fun _ _ _ _=>trivial
  by_cases dN:k<e.args.length/\n>=0
  .obtain⟨bg,hn⟩:=dN;have b1:decide ((k:Int)<e.args.length)=true:=by simpa using bg
   have b2:decide (n>=0)=true:=by simpa using hn
   obtain⟨ad,c2,r,er,hr,cR⟩:=zm (ha.mod bz aA (fun _ _ h=>h.mod bz aA)) bg;obtain⟨rfl,-,-⟩:=cU er;have bk:(0:Int)<=k/\(k:Int)<e.args.length:=by omega
   have e1:IntKind.i64.wrap ((k:Int)+1)=((k+1:Nat):Int):=by rw[dJ (by omega) (by omega)];omega
   (try simp only[go_sem,simprocAttr,b1]);(try simp only[go_sem,simprocAttr,b2]);(try simp only[go_sem,simprocAttr,bG,bH,cell_of aS,Value.cells,bk,cR]);refine aL (by rfl) ?_;refine(dK _ (List.getElem_mem bg) hr).mono ?_;rintro _ w4 ⟨⟨n',rfl⟩,aD⟩;(try simp only[go_sem,simprocAttr,e1]);exact⟨_,by omega,k+1,n',rfl,bg,aw.trans aD,rfl⟩
  .have js:(decide ((k:Int) < e.args.length)&&decide (n≥0))=false:=by
    cases hA:decide ((k:Int)<e.args.length)<;>cases hB:decide (n>=0)<;>first |rfl |(exact absurd ⟨by simpa using hA,by simpa using hB⟩ dN)
   refine B6 (fun ρ w'=>w3=w'/\ρ.get 26=some (.bool false)/\ρ.get 1=some (I n)/\ρ.get 2=some (I deep)/\ρ.get 3=some (ptr w.heap.size)/\ρ.get 7=some (I k)) ?_ ?_
   .cases b1:decide ((k:Int)<e.args.length)with
    |false=>(try simp only[go_sem,simprocAttr])
    |true=>
     rw[b1,Bool.true_and]at js;(try simp only[go_sem,simprocAttr,js])
   rintro ρ _ ⟨rfl,Ff,g1,g2,g3,g7⟩;(try simp only[go_sem,simprocAttr,Ff,g1,g2,g3,g7,cell_of aS,Value.cells]);refine aL (by rfl) ?_;refine(aju (fun b hb=>hM b hb) (hb.mod bz aA (fun _ _ h=>h.mod bz aA))).mono ?_;rintro _ w5 ⟨⟨n5,rfl⟩,aH⟩;(try simp only[go_sem,simprocAttr]);refine io (fun z ρ w'=>∃k n,z=e.alts.length-k/\k<=e.alts.length/\Mod (fun _=>False) w1 w'/\ρ=[(1,I n),(2,I deep),(3,ptr w.heap.size),(8,I k)]) e.alts.length ⟨0,n5,rfl,by omega,aw.trans aH,rfl⟩ ?_;rintro z _ w6 ⟨k,n,rfl,hk,aG,rfl⟩;have cH:=aG.at au Ψ;have hH:=ak.trans aG;(try simp only[go_sem,simprocAttr,cell_of cH,Value.cells]);by_cases bg:k<e.alts.length
   .have b1:decide ((k:Int)<e.alts.length)=true:=by simpa using bg
    (try simp only[go_sem,simprocAttr,b1]);cases h2:decide (n>=0)with
    |false=>
     (try simp only[go_sem,simprocAttr,aM,RV.ev,aN]);exact⟨⟨_,rfl⟩,hH⟩
    |true=>
     obtain⟨ad,c2,r,er,hr,E5,bT⟩:=kI (hl.mod hH aA (fun _ _ h=>h.mod hH aA)) bg;obtain⟨rfl,-,-⟩:=cU er;obtain⟨vv,ec,rfl,mK,hex⟩:=hr;have R0:=hex.len;have bk:(0:Int)<=k/\(k:Int)<e.alts.length:=by omega
     have k4:=bT.ln (o:=4) (n:=7) (by omega);have e4:((I e.alts[k].kind :: .string e.alts[k].bE::I e.alts[k].num::vv::ec).drop 4).take 7=ec:=by
      simp[List.take_of_length_le (Nat.le_of_eq R0)]
     rw[e4]at k4;have e1:IntKind.i64.wrap ((k:Int)+1)=((k+1:Nat):Int):=by rw[dJ (by omega) (by omega)];omega
     (try simp only[go_sem,simprocAttr,bG,bH,cell_of cH,Value.cells,bk,k4]);refine aL (by rfl) ?_;refine(gT _ (List.getElem_mem bg) hex).mono ?_;rintro _ w7 ⟨⟨n7,rfl⟩,aO⟩;(try simp only[go_sem,simprocAttr,e1]);exact⟨_,by omega,k+1,n7,rfl,bg,aG.trans aO,rfl⟩
   .have b1:decide ((k:Int)<e.alts.length)=false:=by simpa using bg
    (try simp only[go_sem,simprocAttr,b1,aM,RV.ev,aN]);exact⟨⟨_,rfl⟩,hH⟩
theorem ajw(p:Pg){w:World}{B:Nat->Prop}{cs:List Value}(h:j0 w B cs p):bu Tryz.prog 4 [.agg cs.toArray] w fun r w'=>(∃b,r=.bool b)/\Mod (fun _=>False) w w':=by
 obtain⟨vd,vf,rfl,hd,hf⟩:=h;obtain⟨ad,cd,rfl⟩:=bq hd;obtain⟨af,cf,rfl⟩:=bq hf;have ZX:=dI hd;have nL:=dI hf;refine γ Tryz.f4 ?_;refine σ ?_;refine bZ rfl ?_;intro w1 au ak cw;refine σ ?_;refine io (fun z ρ w'=>∃k n,z=p.aK.length-k/\k<=p.aK.length/\Mod (fun _=>False) w1 w'/\ρ=[(1,ptr w.heap.size),(3,I n),(4,I k)]) p.aK.length ⟨0,_,rfl,by omega,.refl _ _,rfl⟩ ?_;rintro z _ w2 ⟨k,n,rfl,hk,ai,rfl⟩;have az:=ai.at au Ψ;have bo:=ak.trans ai;simp only[go_sem,simprocAttr,cell_of az,Value.cells];by_cases bg:k<p.aK.length
 .have b1:decide ((k:Int)<p.aK.length)=true:=by simpa using bg
  simp only[go_sem,simprocAttr,b1];obtain⟨zA,c2,r,er,hr,cG,bT⟩:=kI (hd.mod bo aA (fun _ _ h=>h.mod bo aA)) bg;obtain⟨rfl,-,-⟩:=cU er;obtain⟨vp,vc,rfl,hp,hc⟩:=hr;obtain⟨ac,cc,rfl⟩:=bq hc;have uf:=dI hc;have bk:(0:Int)<=k/\(k:Int)<p.aK.length:=by omega
  refine io (fun z ρ w'=>∃j n,z=p.aK[k].cons.length-j/\j<=p.aK[k].cons.length/\Mod (fun _=>False) w2 w'/\ρ=[(1,ptr w.heap.size),(3,I n),(4,I k),(5,I j)]) p.aK[k].cons.length ⟨0,n,rfl,by omega,.refl _ _,rfl⟩ ?_;rintro z _ w3 ⟨j,n3,rfl,hj,aw,rfl⟩;have aS:=aw.at az Ψ;have k2:=(bT.up aw aA (fun _ h=>h)).at (k:=2) (by simp);have k2:w3.cell? ⟨(zA.add (k*3)).block,(zA.add (k*3)).off+2,none⟩=some (.slice ac p.aK[k].cons.length cc):=k2;simp only[go_sem,simprocAttr,bG,bH,cell_of aS,Value.cells,bk,k2];by_cases MB:j<p.aK[k].cons.length
  .have b2:decide ((j:Int)<p.aK[k].cons.length)=true:=by simpa using MB
   obtain⟨ZY,c4,r4,e4,nE,ZZ,H7⟩:=kI (hc.mod aw aA (fun _ _ h=>h.mod aw aA)) MB;obtain⟨rfl,-,-⟩:=cU e4;obtain⟨vfl,rfl,iu,_⟩:=nE;have R1:=H7.at (k:=1) (by simp);have R1:w3.cell? ⟨(ZY.add (j*2)).block,(ZY.add (j*2)).off+1,none⟩=some vfl:=R1;have bj:(0:Int)<=j/\(j:Int)<p.aK[k].cons.length:=by omega
   have e1:IntKind.i64.wrap ((j:Int)+1)=((j+1:Nat):Int):=by rw[dJ (by omega) (by omega)];omega
   simp only[go_sem,simprocAttr,b2];simp only[go_sem,simprocAttr,bG,bH,cell_of aS,Value.cells,bk,k2,bj,R1];refine δ (by rfl) (ZV iu) ?_;rintro _ w5 ⟨⟨n5,rfl⟩,aH⟩;refine σ ?_;cases h5:decide (n5<0)with
   |true=>
    simp only[go_sem,simprocAttr,aM,RV.ev,aN];exact⟨⟨_,rfl⟩,bo.trans (aw.trans aH)⟩
   |false=>
    simp only[go_sem,simprocAttr,e1];exact⟨_,by omega,j+1,n5,rfl,MB,aw.trans aH,rfl⟩
  .have b2:decide ((j:Int)<p.aK[k].cons.length)=false:=by simpa using MB
   have e1:IntKind.i64.wrap ((k:Int)+1)=((k+1:Nat):Int):=by rw[dJ (by omega) (by omega)];omega
   simp only[go_sem,simprocAttr,b2];simp only[go_sem,simprocAttr,e1];exact⟨_,by omega,k+1,n3,rfl,bg,ai.trans aw,rfl⟩
 .have b1:decide ((k:Int)<p.aK.length)=false:=by simpa using bg
  simp only[go_sem,simprocAttr,b1];refine io (fun z ρ w'=>∃k n,z=p.aj.length-k/\k<=p.aj.length/\Mod (fun _=>False) w1 w'/\ρ=[(1,ptr w.heap.size),(3,I n),(6,I k)]) p.aj.length ⟨0,n,rfl,by omega,ai,rfl⟩ ?_;rintro z _ w3 ⟨k,n,rfl,hk,aw,rfl⟩;have aS:=aw.at au Ψ;have bz:=ak.trans aw;simp only[go_sem,simprocAttr,cell_of aS,Value.cells];by_cases bg:k<p.aj.length
  .have b1:decide ((k:Int)<p.aj.length)=true:=by simpa using bg
   simp only[go_sem,simprocAttr,b1];cases h2:decide (n>=0)with
   |false=>
    simp only[go_sem,simprocAttr,aM,RV.ev,aN];exact⟨⟨_,rfl⟩,bz⟩
   |true=>
    obtain⟨zA,c2,r,er,hr,xU,bT⟩:=kI (hf.mod bz aA (fun _ _ h=>h.mod bz aA)) bg;obtain⟨rfl,-,-⟩:=cU er;obtain⟨vp,tc,bc,rfl,cG,kU,fJ,bL,iW,_⟩:=hr;have bk:(0:Int)<=k/\(k:Int)<p.aj.length:=by omega
    have k2:=bT.ln (o:=2) (n:=3) (by omega);have e2:((Value.string p.aj[k].name::vp::(tc++bc)).drop 2).take 3=tc:=by simp[List.take_append_of_le_length,cG]
    rw[e2]at k2;have e1:IntKind.i64.wrap ((k:Int)+1)=((k+1:Nat):Int):=by rw[dJ (by omega) (by omega)];omega
    simp only[go_sem,simprocAttr,bG,bH,cell_of aS,Value.cells,bk,k2];refine δ (by rfl) (RZ _ bL) ?_;rintro _ w4 ⟨⟨n4,rfl⟩,aD⟩;refine σ ?_;cases h4:decide (n4>=0)with
    |false=>
     simp only[go_sem,simprocAttr,e1];exact⟨_,by omega,k+1,n4,rfl,bg,aw.trans aD,rfl⟩
    |true=>
     have bm:=aD.at aS Ψ;have k5:=(bT.up aD aA (fun _ h=>h)).ln (o:=5) (n:=7) (by omega);have e5:((Value.string p.aj[k].name::vp::(tc++bc)).drop 5).take 7=bc:=by
      match tc,cG with
      |[a,b,c],_=>simp[List.take_of_length_le (Nat.le_of_eq kU)]
     rw[e5]at k5;simp only[go_sem,simprocAttr,bG,bH,cell_of bm,Value.cells,bk,k5];refine δ (by rfl) (ajv _ (iW.mod aD aA)) ?_;rintro _ w5 ⟨⟨n5,rfl⟩,aH⟩;simp only[go_sem,simprocAttr,e1];exact⟨_,by omega,k+1,n5,rfl,bg,aw.trans (aD.trans aH),rfl⟩
  .have b1:decide ((k:Int)<p.aj.length)=false:=by simpa using bg
   simp only[go_sem,simprocAttr,b1,aM,RV.ev,aN];exact⟨⟨_,rfl⟩,bz⟩
end
section
open Go Go.W
section
variable {P:Program} {w:World} {ρ:Go.W.Env} {K:Value->World->Prop} {x:Operand} {xT tt T:TypeId} {v z u r:Value} {dst:Option Nat} {ty:TypeId} {pos:String} {af:Array Edge}
theorem H8(hx:(bI x).ev ρ=some u)(h:(Instr.typeAssert u xT tt true).run P w=.ok r w)(hk:K r w):Go.W.E.wp P w ρ K (.raw ⟨dst,.typeAssert x xT tt true,ty,pos,af,none⟩):=by
 refine mz fun act ha=>⟨_,w,?_,hk⟩
 simp only[execOp,ha x _ hx,Sem.run_bind,h,Result.andThen_ok,Sem.run_pure]
theorem H9{t:TypeId}{D:TypeDesc}(h:P.underlying t=some D):(underlying t).run P w=.ok D w:=oL (by rw[jC,h])
theorem Z0{t:TypeId}{i:TypeInfo}(h:P.info? t=some i):(typeInfo t).run P w=.ok i w:=oL (by rw[OW,h])
def isIface:TypeDesc->Bool
 |.interface _=>true
 |_=>false
theorem mN{D:TypeDesc}(hx:(bI x).ev ρ=some (.iface T v))(hu:P.underlying tt=some D)(hD:isIface D=false)(hz:(zeroValue tt).run P w = .ok z w)(h1:T=tt→K (.tuple #[v,.bool true]) w)(h2:T≠tt→K (.tuple #[z,.bool false]) w) :
   Go.W.E.wp P w ρ K (.raw ⟨dst,.typeAssert x xT tt true,ty,pos,af,none⟩):=by
 by_cases ht:T=tt
 .refine H8 hx ?_ (h1 ht);simp only[Instr.typeAssert,Sem.run_bind,H9 hu,Result.andThen_ok];cases D<;>first |(simp[isIface]at hD;done) |(simp[ht];done)
 .refine H8 hx ?_ (h2 ht);simp only[Instr.typeAssert,Sem.run_bind,H9 hu,Result.andThen_ok];cases D<;>first |(simp[isIface]at hD;done) |(simp[ht,hz,Sem.run_bind,Result.andThen_ok];done)
theorem R2{want:Array (String×TypeId)}{ti:TypeInfo}{b:Bool}(hx:(bI x).ev ρ=some (.iface T v))(hu:P.underlying tt=some (.interface want))(hi:P.info? T=some ti)(hb:(Instr.missingMethod want ti.methods).isNone=b)(hz:(zeroValue tt).run P w = .ok z w)
   (h1:b=true->K (.tuple #[.iface T v,.bool true]) w) (h2:b=false->K (.tuple #[z,.bool false]) w) :
   Go.W.E.wp P w ρ K (.raw ⟨dst,.typeAssert x xT tt true,ty,pos,af,none⟩):=by
 cases hm:Instr.missingMethod want ti.methods with
 |none=>
  rw[hm]at hb;refine H8 hx ?_ (h1 hb.symm);simp[Instr.typeAssert,Sem.run_bind,H9 hu,Z0 hi,Result.andThen_ok,hm]
 |some m=>
  rw[hm]at hb;refine H8 hx ?_ (h2 hb.symm);simp[Instr.typeAssert,Sem.run_bind,H9 hu,Z0 hi,Result.andThen_ok,hm,hz]
theorem Z1{D:TypeDesc}(hx:(bI x).ev ρ=some .nilIface)(hu:P.underlying tt=some D)(hz:(zeroValue tt).run P w = .ok z w)(hk:K (.tuple #[z,.bool false]) w) :
   Go.W.E.wp P w ρ K (.raw ⟨dst,.typeAssert x xT tt true,ty,pos,af,none⟩):=by
 refine H8 hx ?_ hk;simp only[Instr.typeAssert,Sem.run_bind,H9 hu,Result.andThen_ok];cases D<;>simp[hz,Sem.run_bind,Result.andThen_ok]
end
theorem Z2{want:Array (String×TypeId)}{oD:Array Method}(h:(want.toList.filter fun x=>!oD.any fun m=>m.name == x.1&&m.sig == x.2).isEmpty=false):(Instr.missingMethod want oD).isNone=false:=by
 unfold Instr.missingMethod;generalize hl:((want.toList.filter fun(name,sig)=>!oD.any fun m=>m.name == name&&m.sig == sig).map (·.1))=l;have qU:l≠[]:=fun e=>by
  subst hl;have e2:=List.map_eq_nil_iff.1 e;have e3:(want.toList.filter fun x=>!oD.any fun m=>m.name == x.1&&m.sig == x.2)=[]:=e2;rw[e3]at h;cases h
 simp only[List.partition_eq_filter_filter];cases h1:l.filter (fun x=>x.contains '.')with
 |nil=>
  cases h2:l.filter (not ∘ fun x=>x.contains '.')with
  |nil=>
   exfalso;cases l with
   |nil=>exact qU rfl
   |cons a l=>
    have m1:a∉(a::l).filter (fun x=>x.contains '.'):=by rw[h1];simp
    have m2:a∉(a::l).filter (not ∘ fun x=>x.contains '.'):=by rw[h2];simp
    simp only[List.mem_filter,List.mem_cons,true_or,true_and,Function.comp]at m1 m2;cases hc:a.contains '.'<;>simp[hc]at m1 m2
  |cons b m=>simp[Instr.least]
 |cons b m=>
  cases h2:l.filter (not ∘ fun x=>x.contains '.')with
  |nil=>simp[Instr.least]
  |cons c n=>simp[Instr.least]
theorem ajx:∃want ti,Tryz.prog.underlying 83=some (.interface want)/\Tryz.prog.info? 141=some ti/\(Instr.missingMethod want ti.methods).isNone=true:=⟨_,_,rfl,rfl,by kernel_rfl⟩
theorem ajy:∃want ti,Tryz.prog.underlying 83=some (.interface want)/\Tryz.prog.info? 137=some ti/\(Instr.missingMethod want ti.methods).isNone=true:=⟨_,_,rfl,rfl,by kernel_rfl⟩
theorem ajz:∃want ti,Tryz.prog.underlying 83=some (.interface want)/\Tryz.prog.info? 161=some ti/\(Instr.missingMethod want ti.methods).isNone=true:=⟨_,_,rfl,rfl,by kernel_rfl⟩
theorem ajA:∃want ti,Tryz.prog.underlying 83=some (.interface want)/\Tryz.prog.info? 165=some ti/\(Instr.missingMethod want ti.methods).isNone=true:=⟨_,_,rfl,rfl,by kernel_rfl⟩
theorem Z3:∃want ti,Tryz.prog.underlying 83=some (.interface want)/\Tryz.prog.info? 131=some ti/\(Instr.missingMethod want ti.methods).isNone=false:=⟨_,_,rfl,rfl,Z2 (by kernel_rfl)⟩
theorem ajB:∃want ti,Tryz.prog.underlying 83=some (.interface want)/\Tryz.prog.info? 199=some ti/\(Instr.missingMethod want ti.methods).isNone=false:=⟨_,_,rfl,rfl,Z2 (by kernel_rfl)⟩
end
section
open Go Go.W
abbrev dS:=List (ByteArray×Nat)
inductive Cl where
 |num (n:Int) |bE (n:ByteArray) (fs:List Nat) |jN (e:Ex) (v:dS) |iL (n:ByteArray) (mO:Int) (hv:List Nat)
 |wait (e:Ex) (v:dS) |busy |emp
def Cl.rm:Cl->Bool
 |.num _=>true |.bE _ _=>true |.jN _ _=>true |.iL _ _ _=>true |_=>false
inductive Fm where
 |fm (c:Nat) |app (e:Ex) (v:dS) |oE (e:Ex) (v:dS) |fst (e:Ex) (v:dS) |snd (e:Ex) (n:Int) |seq (e:Ex) (v:dS) |nO (e:Ex) (v:dS)
structure Rn where
 cells:List Cl
 bA:List Fm
 told:List (ByteArray×Int)
 steps:Int
 kind:Int
 stuck:Int
structure Cx where
 fuel:Int
 aj:List (ByteArray×Nat)
 fields:List (ByteArray×Int)
 aI:List (Nat×Obj):=[]
inductive Md where
 |go (e:Ex) (v:dS) |val (c:Cl)
abbrev R3:=Option Md×Rn
def Rn.put(m:Rn)(c:Nat)(x:Cl):Rn:={ m with cells:=m.cells.set c x}
def Rn.new(m:Rn)(x:Cl):Rn:={ m with cells:=m.cells++[x]}
def Rn.push(m:Rn)(f:Fm):Rn:={ m with bA:=m.bA++[f]}
def Rn.stop(m:Rn)(CU:Int):Rn:={ m with kind:=3,stuck:=CU}
def ix(X:Cx)(m:Rn):Bool×Rn:=if m.steps=X.fuel then(false,{ m with kind:=4})else(true,{ m with steps:=m.steps+1})
def Fj(v:dS)(n:ByteArray):Option Nat:=aJ v n
def jO(m:Rn)(c:Nat):R3:=match m.cells[c]? with
 |some (.wait e v)=>(some (.go e v),(m.put c .busy).push (.fm c))
 |some (.num n)=>(some (.val (.num n)),m)
 |some (.bE n fs)=>(some (.val (.bE n fs)),m)
 |some (.jN e v)=>(some (.val (.jN e v)),m)
 |some (.iL n l h)=>(some (.val (.iL n l h)),m)
 |_=>(none,m.stop 4)
def tj(n:ByteArray)(mO:Int)(hv:List Nat):Cl:=if mO=0 then .bE n hv else .iL n mO hv
def pz:List Bd->Nat->dS->dS
 |[],_,v=>v
 |b::l,i,v=>pz l (i+1) ((b.name,i)::v)
def sk(X:Cx)(e:Ex)(v:dS)(m:Rn):Option R3:=
 if e.kind=1 then(Fj v e.name).map (jO m)
 else if e.kind=3 then(aJ X.aj e.name).map (jO m)
 else if e.kind=2 then some (some (.val (.num e.num)),m)
 else if e.kind=4 then some (some (.val (tj e.name ((aJ X.fields e.name).getD 0) [])),m)
 else if e.kind=6 then some (some (.val (.jN e v)),m)
 else if e.kind=12 then some (none,m.stop e.num)
 else if e.kind=7 then(match e.args with
  |[]=>none
  |x::_=>some (some (.go x (pz e.binds m.cells.length v)),{ m with cells:=m.cells++e.binds.map (fun b=>Cl.wait b.value (pz e.binds m.cells.length v))}))
 else if e.kind=11 then(match e.binds with
  |[]=>none
  |b::_=>some (some (.go b.value v),m.push (.nO e v)))
 else match e.args with
  |[]=>none
  |x::_=>some (some (.go x v),if e.kind=5 then m.push (.app e v)else if e.kind=8 then m.push (.oE e v)else if e.kind=9 then m.push (.fst e v)else if e.kind=10 then m.push (.seq e v)else m)
def numOf:Cl->Int
 |.num n=>n
 |_=>0
def mj:Cl->Option (ByteArray×List Nat)
 |.bE n fs=>some (n,fs)
 |_=>none
def zH(n:Int):Int:=(IntKind.i64.wrap (n*2)).fdiv 2
abbrev tk:ByteArray:=⟨#[84,114,117,101]⟩
abbrev A8:ByteArray:=⟨#[70,97,108,115,101]⟩
def Fk(n:ByteArray)(a b:Int):Bool:=
 if bw n ⟨#[61,61]⟩then a == b
 else if bw n ⟨#[47,61]⟩then a != b
 else if bw n ⟨#[60]⟩then decide (a<b)
 else if bw n ⟨#[60,61]⟩then decide (a<=b)
 else if bw n ⟨#[62]⟩then decide (a>b)
 else if bw n ⟨#[62,61]⟩then decide (a>=b)
 else false
def rn(n:ByteArray)(a b:Int):Option Cl:=
 if bw n ⟨#[43]⟩then some (.num (zH (Wr (a+b))))
 else if bw n ⟨#[45]⟩then some (.num (zH (Wr (a-b))))
 else if bw n ⟨#[42]⟩then some (.num (zH (Wr (a*b))))
 else if bw n ⟨#[47]⟩||bw n ⟨#[37]⟩then(if b=0 then none else if bw n ⟨#[47]⟩then some (.num (zH (Wr (a.tdiv b))))else some (.num (a.tmod b)))
 else some (.bE (if Fk n a b then tk else A8) [])
def qt(m:Rn)(f:Cl)(c:Nat):Option R3:=match f with
 |.jN e v=>(match e.args,e.binds with
  |x::_,b::_=>some (some (.go x ((b.name,c)::v)),m)
  |_,_=>none)
 |.iL n l h=>if h.length<1099511627776 then some (some (.val (tj n (Wr (l-1)) (h++[c]))),m)else none
 |_=>some (none,m.stop 5)
def so:List ByteArray->List Nat->dS->Option dS
 |[],_,v=>some v
 |s::l,c::cs,v=>so l cs ((s,c)::v)
 |_::_,[],_=>none
def iM(m:Rn)(v:dS)(x:Cl):List Al->Option R3
 |[]=>some (none,m.stop 2)
 |a::l=>
  if(a.kind == 3||(a.kind == 2&&(mj x).isNone&&a.num == numOf x))=true then some (some (.go a.body v),m)
  else match mj x with
   |some k=>if(a.kind == 1&&bw a.bE k.1)=true then(so a.vars k.2 v).map (fun v'=>(some (.go a.body v'),m))else iM m v x l
   |none=>iM m v x l
def kK(f:Fm)(x:Cl)(m:Rn):Option R3:=match f with
 |.fm c=>some (some (.val x),m.put c x)
 |.app e v=>(match e.args with
  |_::y::_=>qt (m.new (.wait y v)) x m.cells.length
  |_=>none)
 |.oE e v=>iM m v x e.alts
 |.fst e v=>(match e.args with
  |_::y::_=>some (some (.go y v),m.push (.snd e (numOf x)))
  |_=>none)
 |.snd e n=>(match rn e.name n (numOf x)with
  |some y=>some (some (.val y),m)
  |none=>some (none,m.stop 3))
 |.seq e v=>(match e.args with
  |_::y::_=>some (some (.go y v),m)
  |_=>none)
 |.nO e v=>(match e.args,e.binds with
  |y::_,b::_=>some (some (.go y ((b.name,m.cells.length)::v)),m.new x)
  |_,_=>none)
def fQ(X:Cx):Nat->Md->Rn->Option (Option Cl×Rn)
 |0,_,_=>none
 |n+1,.go e v,m=>
  if(ix X m).1=false then some (none,(ix X m).2)
  else match sk X e v (ix X m).2 with
   |none=>none
   |some (none,m')=>some (none,m')
   |some (some md,m')=>fQ X n md m'
 |n+1,.val x,m=>match m.bA.getLast? with
  |none=>some (some x,m)
  |some f=>match kK f x { m with bA:=m.bA.dropLast}with
   |none=>none
   |some (none,m')=>some (none,m')
   |some (some md,m')=>fQ X n md m'
def rp(X:Cx)(n:Nat)(c:Nat)(m:Rn):Option (Option Cl×Rn):=match jO m c with
 |(none,m')=>some (none,m')
 |(some (.val x),m')=>some (some x,m')
 |(some (.go e v),m')=>fQ X n (.go e v) m'
def uC(X:Cx)(n:Nat)(f:Cl)(c:Nat)(m:Rn):Option (Option Cl×Rn):=match qt m f c with
 |none=>none
 |some (none,m')=>some (none,m')
 |some (some (.val x),m')=>some (some x,m')
 |some (some (.go e v),m')=>fQ X n (.go e v) m'
def rq:Cl->List (ByteArray×Int)
 |.num k=>[(bM,k)]
 |.bE k _=>[(k,0)]
 |_=>[]
def fieldsOf:Cl->List Nat
 |.bE _ fs=>fs
 |_=>[]
def kY(X:Cx):Nat->Cl->List Nat->Rn->Option Rn
 |0,_,_,_=>none
 |n+1,x,waiting,m=>
  if(ix X m).1=false then some (ix X m).2
  else
   let m2:Rn:={ (ix X m).2 with told:=(ix X m).2.told++rq x}
   let ws:=waiting++(fieldsOf x).reverse
   if 16777216<ws.length then none else
   match ws.getLast? with
   |none=>some { m2 with kind:=2}
   |some c=>match rp X n c m2 with
    |none=>none
    |some (none,m3)=>some m3
    |some (some y,m3)=>kY X n y ws.dropLast m3
def kj:List Int->List Cl->Cl×List Cl
 |[],cs=>(.bE ⟨#[78,105,108]⟩ [],cs)
 |n::l,cs=>let r:=kj l cs;(.bE ⟨#[67,111,110,115]⟩ [r.2.length,r.2.length+1],r.2++[.num n,r.1])
end
section
open Go Go.W
def qu(w:World)(B:Nat->Prop)(v:Value)(e:Ex):Prop:=∃a cs,v=.pointer (some a)/\iU w B a cs/\ci w B cs e
def Pl(w:World)(b:Nat):Prop:=∃cs T,w.heap[b]?=some (.cells cs T (0,0))
def xV(w:World)(B:Nat->Prop)(a:Addr)(cs:List Value):Prop:=iU w B a cs/\Pl w a.block
section
variable {w w':World} {B B' S:Nat->Prop} {a:Addr} {cs:List Value}
theorem xV.up(h:xV w B a cs)(hm:Mod S w w')(hd:∀b,B b->¬S b)(hB:∀b,B b->B' b):xV w' B' a cs:=by
 refine⟨h.1.up hm hd hB,?_⟩;obtain⟨h1,ds,T,h2⟩:=h;exact⟨ds,T,hm.at h2 (hd _ h1.1)⟩
theorem xV.c0(h:xV w B a cs)(hk:0<cs.length):w.cell? a=some cs[0]:=h.1.c0 hk
theorem xV.at(h:xV w B a cs){k:Nat}(hk:k<cs.length)(h0:k≠0:=by decide):w.cell? ⟨a.block,a.off+k,none⟩=some cs[k]:=h.1.at hk h0
end
def jz(w:World)(B:Nat->Prop)(bs:List Nat):dS->Value->Prop
 |[],v=>v=.pointer none
 |(n,c)::l,v=>∃a b nx,v=.pointer (some a)/\bs[c]?=some b/\xV w B a [.string n,ptr b,nx]/\jz w B bs l nx
def ajC(bs:List Nat)(r:List Value)(c:Nat):Prop:=∃b,r=[ptr b]/\bs[c]?=some b
def zJ(w:World)(B:Nat->Prop)(bs:List Nat)(fs:List Nat)(v:Value):Prop:=aX w v 1 B (ajC bs) fs
def kL(w:World)(B:Nat->Prop)(bs:List Nat):Cl->Value->Prop
 |.num n,v=>v=.iface 141 (I n)
 |.bE n fs,v=>∃a vs,v=.iface 137 (.pointer (some a))/\iU w B a [.string n,vs]/\zJ w B bs fs vs
 |.jN e nm,v=>∃a ve vn,v=.iface 161 (.pointer (some a))/\iU w B a [ve,vn]/\qu w B ve e/\jz w B bs nm vn
 |.iL n l fs,v=>∃a vs,v=.iface 165 (.pointer (some a))/\iU w B a [.string n,I l,vs]/\zJ w B bs fs vs
 |.wait e nm,v=>∃a ve vn,v=.iface 131 (.pointer (some a))/\iU w B a [ve,vn]/\qu w B ve e/\jz w B bs nm vn
 |.busy,v=>v=.iface 199 (.agg #[])
 |.emp,v=>v=.nilIface
def qv(w:World)(B:Nat->Prop)(bs:List Nat)(k:Int)(e:Ex)(nm:dS)(r:List Value):Prop:=∃ve vn,r=[I k,.pointer none,ve,vn,I 0]/\qu w B ve e/\jz w B bs nm vn
def qw(w:World)(B:Nat->Prop)(bs:List Nat)(r:List Value):Fm->Prop
 |.fm c=>∃b,r=[I 0,ptr b,.pointer none,.pointer none,I 0]/\bs[c]?=some b
 |.app e nm=>qv w B bs 1 e nm r
 |.oE e nm=>qv w B bs 2 e nm r
 |.fst e nm=>qv w B bs 3 e nm r
 |.snd e n=>∃ve,r=[I 4,.pointer none,ve,.pointer none,I n]/\qu w B ve e
 |.seq e nm=>qv w B bs 5 e nm r
 |.nO e nm=>qv w B bs 6 e nm r
def R4(r:List Value)(x:ByteArray×Int):Prop:=r=[.string x.1,I x.2]
section
variable {w w':World} {B B' S:Nat->Prop} {bs du:List Nat}
theorem qu.up{v:Value}{e:Ex}(h:qu w B v e)(hm:Mod S w w')(hd:∀b,B b->¬S b)(hB:∀b,B b->B' b):qu w' B' v e:=by
 obtain⟨a,cs,e,h1,h2⟩:=h;exact⟨a,cs,e,h1.up hm hd hB,h2.up hm hd hB⟩
theorem jz.up:∀{nm:dS} {v:Value},jz w B bs nm v->Mod S w w'->(∀b,B b->¬S b)->(∀b,B b->B' b)->(∀(c b:Nat),bs[c]?=some b->du[c]?=some b)->jz w' B' du nm v
 |[],v,h,_,_,_,_=>h
 |(n,c)::l,v,h,hm,hd,hB,hb=>by
  obtain⟨a,b,nx,e,h1,h2,h3⟩:=h;exact⟨a,b,nx,e,hb _ _ h1,h2.up hm hd hB,jz.up h3 hm hd hB hb⟩
theorem zJ.up{fs:List Nat}{v:Value}(h:zJ w B bs fs v)(hm:Mod S w w')(hd:∀b,B b->¬S b)(hB:∀b,B b->B' b)(hb:∀(c b:Nat),bs[c]?=some b->du[c]?=some b):zJ w' B' du fs v:=
 aX.up h hm hd hB (fun r c h=>by obtain⟨b,e,h⟩:=h;exact⟨b,e,hb _ _ h⟩)
theorem kL.up{x:Cl}{v:Value}(h:kL w B bs x v)(hm:Mod S w w')(hd:∀b,B b->¬S b)(hB:∀b,B b->B' b)(hb:∀(c b:Nat),bs[c]?=some b->du[c]?=some b):kL w' B' du x v:=by
 cases x with
 |num n=>exact h
 |bE n fs=>obtain⟨a,vs,e,h1,h2⟩:=h;exact⟨a,vs,e,h1.up hm hd hB,h2.up hm hd hB hb⟩
 |jN e nm=>obtain⟨a,ve,vn,e,h1,h2,h3⟩:=h;exact⟨a,ve,vn,e,h1.up hm hd hB,h2.up hm hd hB,h3.up hm hd hB hb⟩
 |iL n l fs=>obtain⟨a,vs,e,h1,h2⟩:=h;exact⟨a,vs,e,h1.up hm hd hB,h2.up hm hd hB hb⟩
 |wait e nm=>obtain⟨a,ve,vn,e,h1,h2,h3⟩:=h;exact⟨a,ve,vn,e,h1.up hm hd hB,h2.up hm hd hB,h3.up hm hd hB hb⟩
 |busy=>exact h
 |emp=>exact h
theorem qv.up{k:Int}{e:Ex}{nm:dS}{r:List Value}(h:qv w B bs k e nm r)(hm:Mod S w w')(hd:∀b,B b->¬S b)(hB:∀b,B b->B' b)(hb:∀(c b:Nat),bs[c]?=some b->du[c]?=some b):qv w' B' du k e nm r:=by
 obtain⟨ve,vn,e,h1,h2⟩:=h;exact⟨ve,vn,e,h1.up hm hd hB,h2.up hm hd hB hb⟩
theorem qw.up{f:Fm}{r:List Value}(h:qw w B bs r f)(hm:Mod S w w')(hd:∀b,B b->¬S b)(hB:∀b,B b->B' b)(hb:∀(c b:Nat),bs[c]?=some b->du[c]?=some b):qw w' B' du r f:=by
 cases f with
 |fm c=>obtain⟨b,e,h⟩:=h;exact⟨b,e,hb _ _ h⟩
 |snd e n=>obtain⟨ve,e,h⟩:=h;exact⟨ve,e,h.up hm hd hB⟩
 |app e nm=>exact qv.up h hm hd hB hb
 |oE e nm=>exact qv.up h hm hd hB hb
 |fst e nm=>exact qv.up h hm hd hB hb
 |seq e nm=>exact qv.up h hm hd hB hb
 |nO e nm=>exact qv.up h hm hd hB hb
theorem qw.len{f:Fm}{r:List Value}(h:qw w B bs r f):r.length=5:=by
 cases f with
 |fm c=>obtain⟨b,rfl,h⟩:=h;rfl
 |snd e n=>obtain⟨ve,rfl,h⟩:=h;rfl
 |app e nm=>obtain⟨ve,vn,rfl,_⟩:=h;rfl
 |oE e nm=>obtain⟨ve,vn,rfl,_⟩:=h;rfl
 |fst e nm=>obtain⟨ve,vn,rfl,_⟩:=h;rfl
 |seq e nm=>obtain⟨ve,vn,rfl,_⟩:=h;rfl
 |nO e nm=>obtain⟨ve,vn,rfl,_⟩:=h;rfl
end
theorem ajD:∀(nm:dS) {n:ByteArray} {c:Nat} {w:World} {B:Nat->Prop} {bs:List Nat} {v:Value},jz w B bs nm v->Fj nm n=some c->bu Tryz.prog 87 [v,.string n] w fun r w'=>(∃b,r=ptr b/\bs[c]?=some b)/\w=w':=by
 intro nm n c w B bs v h hf;refine γ Tryz.f87 ?_;refine σ ?_;refine io (fun z ρ w'=>w=w'/\∃ru v',z=ru.length/\jz w B bs ru v'/\Fj ru n=some c/\ρ=[(0,v'),(1,.string n)]) nm.length ⟨rfl,nm,v,rfl,h,hf,rfl⟩ ?_;rintro z _ _ ⟨rfl,ru,v',rfl,h',ii,rfl⟩
 match ru,h',ii with
 |[],h',ii=>cases ii
 |(s,k)::l,h',ii=>
  obtain⟨a,b,nx,rfl,hb,bT,hn⟩:=h';have k0:w.cell? a=some (.string s):=bT.c0 (by simp);have k1:w.cell? ⟨a.block,a.off+1,none⟩=some (ptr b):=bT.at (k:=1) (by simp);have k2:w.cell? ⟨a.block,a.off+2,none⟩=some nx:=bT.at (k:=2) (by simp);have ii:aJ ((s,k)::l) n=some c:=ii;rw[tg]at ii;simp only[go_sem,simprocAttr,k0];cases hs:s.toList == n.toList with
  |true=>
   have e:s=n:=by
    have h1:bw s n=true:=hs;rw[y5]at h1
    simpa using h1
   rw[if_pos e]at ii;cases ii;simp only[go_sem,simprocAttr,k1,aM,RV.ev,aN];exact⟨b,rfl,hb⟩
  |false=>
   have e:s≠n:=fun e=>by rw[e]at hs;simp at hs
   rw[if_neg e]at ii;simp only[go_sem,simprocAttr,k2];exact⟨_,by simp,l,nx,rfl,hn,ii,rfl⟩
end
section
open Go Go.W
abbrev MC:Nat:=98
abbrev R5:Nat:=93
abbrev ajE:Nat:=159
abbrev MD(X:Cx)(m:Rn)(md mf:Nat)(vt vf:Value):List Value:=[I m.kind,vt,I m.stuck,I m.steps,I 0,I 0,I 0,.string bM,I X.fuel,.map (some md),.map (some mf),vf]
def H'(bs:List Nat)(v:Value)(c:Nat):Prop:=∃b,v=ptr b/\bs[c]?=some b
abbrev mn(r md mf:Nat)(bs:List Nat)(dm dv:Option Nat):List Nat:=r::md::mf::(dm.toList++dv.toList++bs)
structure km (w:World) (S:Nat->Prop) (r md mf:Nat) (bs:List Nat) (X:Cx) (m:Rn) (vt vf:Value) (dY cO:List (List Value)) (dm dv:Option Nat):Prop where
 box:w.heap[r]?=some (.cells (MD X m md mf vt vf).toArray MC (0,0))
 told:dP w 100 2 vt (dY.flatMap id) dY.length dm
 items:kH R4 dY m.told
 tm:dP w ajE 5 vf (cO.flatMap id) cO.length dv
 bA:kH (qw w (Out S w) bs) cO m.bA
 blocks:(mn r md mf bs dm dv).Nodup
 aT:∀b∈mn r md mf bs dm dv,S b
 lt:∀b,S b->b<w.heap.size
 len:bs.length=m.cells.length
 cell:∀(i b:Nat) (x:Cl),bs[i]?=some b->m.cells[i]?=some x->∃v:Value,w.heap[b]?=some (Obj.cells [v].toArray R5 (0,0))/\kL w (Out S w) bs x v
 aj:bQ w md (H' bs) X.aj
 fields:bQ w mf RI X.fields
 steps:0<=m.steps/\m.steps<=X.fuel/\X.fuel<=1048576
 kept:∀p∈X.aI,w.heap[p.1]?=some p.2/\S p.1/\p.1∉mn r md mf bs dm dv
def dE(w:World)(S:Nat->Prop)(r md mf:Nat)(bs:List Nat)(X:Cx)(m:Rn):Prop:=∃vt vf dY cO dm dv,km w S r md mf bs X m vt vf dY cO dm dv
theorem kH.imp{α β:Type}{P Q:α->β->Prop}(Ia:∀a b,P a b->Q a b):∀{l:List α} {m:List β},kH P l m->kH Q l m
 |[],[],_=>trivial
 |a::l,b::m,h=>⟨Ia _ _ h.1,kH.imp Ia h.2⟩
 |[],_::_,h=>h.elim
 |_::_,[],h=>h.elim
section
variable {w w':World} {S:Nat->Prop} {r md mf:Nat} {bs:List Nat} {X:Cx} {m m':Rn} {vt vf:Value} {dY cO:List (List Value)} {dm dv:Option Nat}
theorem km.ne(h:km w S r md mf bs X m vt vf dY cO dm dv):r≠md/\r≠mf/\md≠mf/\(∀b,dm=some b->r≠b/\md≠b/\mf≠b)/\(∀b,dv=some b->r≠b/\md≠b/\mf≠b)/\(∀b∈bs,r≠b/\md≠b/\mf≠b)/\(∀a b,dm=some a->dv=some b->a≠b)/\(∀a,dm=some a->a∉bs)/\(∀a,dv=some a->a∉bs):=by
 have hn:=h.blocks;unfold mn at hn;simp only[List.nodup_cons,List.mem_cons,List.mem_append,Option.mem_toList,not_or]at hn;obtain⟨⟨a1,a2,⟨a3,a4⟩,a5⟩,⟨b1,⟨b2,b3⟩,b4⟩,⟨⟨c1,c2⟩,c3⟩,hn⟩:=hn;rw[List.nodup_append,List.nodup_append]at hn;obtain⟨⟨_,_,d1⟩,_,d2⟩:=hn
 refine⟨a1,a2,b1,fun b hb=>⟨fun e=>a3 (by rw[e];exact hb),fun e=>b2 (by rw[e];exact hb),fun e=>c1 (by rw[e];exact hb)⟩,fun b hb=>⟨fun e=>a4 (by rw[e];exact hb),fun e=>b3 (by rw[e];exact hb),fun e=>c2 (by rw[e];exact hb)⟩,
  fun b hb=>⟨fun e=>a5 (by rw[e];exact hb),fun e=>b4 (by rw[e];exact hb),fun e=>c3 (by rw[e];exact hb)⟩,fun a b ha hb=>d1 a (by simp[ha]) b (by simp[hb]),fun a ha hm=>d2 a (by simp[ha]) a hm rfl,fun a ha hm=>d2 a (by simp[ha]) a hm rfl⟩
theorem km.ME(h:km w S r md mf bs X m vt vf dY cO dm dv)(hm:Mod (· = r) w w')(hb:w'.heap[r]? = some (.cells (MD X m' md mf vt vf).toArray MC (0,0)))(e1:m'.told=m.told)(e2:m'.bA=m.bA)(e3:m'.cells=m.cells)(e4:0≤m'.steps∧m'.steps≤X.fuel) :
   km w' S r md mf bs X m' vt vf dY cO dm dv:=by
 obtain⟨n1,n2,n3,n4,n5,n6,n7,n8,n9⟩:=h.ne;have Sr:∀b,b=r->S b:=fun b hb=>by rw[hb];exact h.aT _ (by simp)
 have cA:=hm.aU Sr
 refine⟨hb,h.told.mod hm (fun b hb e=>(n4 b hb).1 e.symm),by rw[e1];exact h.items,h.tm.mod hm (fun b hb e=>(n5 b hb).1 e.symm),by rw[e2];exact h.bA.imp (fun _ _ x=>x.up cA aW (br cA) (fun _ _ h=>h)),h.blocks,h.aT,fun b hb=>Nat.lt_of_lt_of_le (h.lt b hb) hm.size,by rw[e3];exact h.len,?_,
  h.aj.mod hm (fun e=>n1 e.symm) (fun _ _ x=>x),h.fields.mod hm (fun e=>n2 e.symm) (fun _ _ x=>x),⟨e4.1,e4.2,h.steps.2.2⟩,fun p hp=>by
   obtain⟨a1,a2,a3⟩:=h.kept p hp
   exact⟨hm.at a1 (fun e=>a3 (by rw[e];simp)),a2,a3⟩⟩
 intro i b x hi hx;rw[e3]at hx;obtain⟨v,h1,h2⟩:=h.cell i b x hi hx;exact⟨v,hm.at h1 (fun e=>(n6 b (List.mem_of_getElem? hi)).1 e.symm),h2.up cA aW (br cA) (fun _ _ h=>h)⟩
end
theorem Z4{w:World}{S:Nat→Prop}{r md mf:Nat}{bs:List Nat}{X:Cx}{m:Rn}(h:dE w S r md mf bs X m) :
   bu Tryz.prog 46 [ptr r] w fun x w'=>x=.bool (ix X m).1/\dE w' S r md mf bs X (ix X m).2/\Mod (· = r) w w':=by
 obtain⟨vt,vf,dY,cO,dm,dv,h⟩:=h;refine γ Tryz.f46 ?_;(try simp only[go_sem,simprocAttr,cell_of h.box]);have hs:=h.steps;cases he:m.steps == X.fuel with
 |true=>
  have Ib:m.steps=X.fuel:=by simpa using he
  have eH:ix X m=(false,{ m with kind:=4}):=by unfold ix;rw[if_pos Ib]
  (try simp only[go_sem,simprocAttr]);refine eK (b:=r) (off:=0) (v:=I 4) rfl rfl h.box rfl (by simp) ?_;intro w1 au ak cw;have ak:=ak.dG;(try simp only[go_sem,simprocAttr,aM,RV.ev,aN]);rw[eH];exact⟨rfl,⟨_,_,_,_,_,_,h.ME (m':={ m with kind:=4}) ak au rfl rfl rfl ⟨hs.1,hs.2.1⟩⟩,ak⟩
 |false=>
  have Ib:m.steps≠X.fuel:=by simpa using he
  have eH:ix X m=(true,{ m with steps:=m.steps+1}):=by unfold ix;rw[if_neg Ib]
  have e1:IntKind.i64.wrap (m.steps+1)=m.steps+1:=dJ (by omega) (by omega);(try simp only[go_sem,simprocAttr,cell_of h.box,e1]);refine eK (b:=r) (off:=3) (v:=I (m.steps+1)) rfl rfl h.box rfl (by simp) ?_;intro w1 au ak cw;have ak:=ak.dG;(try simp only[go_sem,simprocAttr,aM,RV.ev,aN]);rw[eH];exact⟨rfl,⟨_,_,_,_,_,_,h.ME (m':={ m with steps:=m.steps+1}) ak au rfl rfl rfl ⟨by show 0<=m.steps+1;omega,by show m.steps+1<=X.fuel;omega⟩⟩,ak⟩
theorem Ic{w:World}{S:Nat→Prop}{r md mf:Nat}{bs:List Nat}{X:Cx}{m:Rn}{CU:Int}(h:dE w S r md mf bs X m) :
   bu Tryz.prog 65 [ptr r,I CU] w fun x w'=>dE w' S r md mf bs X (m.stop CU)/\Mod (· = r) w w':=by
 obtain⟨vt,vf,dY,cO,dm,dv,h⟩:=h;refine γ Tryz.f65 ?_;refine σ ?_;refine eK (b:=r) (off:=0) (v:=I 3) rfl rfl h.box rfl (by simp) ?_;intro w1 au ak cw;refine σ ?_;refine eK (b:=r) (off:=2) (v:=I CU) rfl rfl au rfl (by simp) ?_;intro w2 az ai bU;refine σ ?_;exact⟨⟨_,_,_,_,_,_,h.ME (m':=m.stop CU) (ak.trans ai) az rfl rfl rfl ⟨h.steps.1,h.steps.2.1⟩⟩,ak.trans ai⟩
end
section
open Go Go.W
theorem qw.one{w:World}{B:Nat->Prop}{bs:List Nat}{f:Fm}{r:List Value}(h:qw w B bs r f):∀u∈r,u.oneCell'=true:=by
 have nm:∀{l:dS} {v:Value},jz w B bs l v->v.oneCell'=true:=fun{l v} h=>by
  cases l with
  |nil=>cases h;rfl
  |cons p l=>obtain⟨a,b,nx,rfl,_⟩:=h;rfl
 have ev:∀{k:Int} {e:Ex} {l:dS} {r:List Value},qv w B bs k e l r->∀u∈r,u.oneCell'=true:=fun h=>by
  obtain⟨ve,vn,rfl,⟨a,cs,rfl,_⟩,h2⟩:=h;exact aP rfl (aP rfl (aP rfl (aP (nm h2) (aP rfl dq))))
 cases f with
 |fm c=>obtain⟨b,rfl,h⟩:=h;exact aP rfl (aP rfl (aP rfl (aP rfl (aP rfl dq))))
 |snd e n=>obtain⟨ve,rfl,⟨a,cs,rfl,_⟩⟩:=h;exact aP rfl (aP rfl (aP rfl (aP rfl (aP rfl dq))))
 |app e l=>exact ev h
 |oE e l=>exact ev h
 |fst e l=>exact ev h
 |seq e l=>exact ev h
 |nO e l=>exact ev h
theorem kH.snoc{α β:Type}{P:α->β->Prop}:∀{l:List α} {m:List β} {a:α} {b:β},kH P l m->P a b->kH P (l++[a]) (m++[b])
 |[],[],a,b,_,h=>⟨h,trivial⟩
 |x::l,y::m,a,b,h,hp=>⟨h.1,kH.snoc h.2 hp⟩
 |[],_::_,_,_,h,_=>h.elim
 |_::_,[],_,_,h,_=>h.elim
def fh(S S':Nat->Prop)(w:World):Prop:=(∀b,S b->S' b)/\∀b,S' b->S b\/w.heap.size<=b
theorem wo{S S':Nat->Prop}{w w':World}(hg:fh S S' w)(bV:w.heap.size<=w'.heap.size):∀b,Out S w b->Out S' w' b:=Mw bV hg.2
theorem R6{r md mf:Nat}{bs:List Nat}{dm dv:Option Nat}(eN:bs.Nodup)(h1:r≠md/\r≠mf/\md≠mf)(h2:∀b,dm=some b->r≠b/\md≠b/\mf≠b)(h3:∀b,dv=some b->r≠b/\md≠b/\mf≠b)(h4:∀b∈bs,r≠b/\md≠b/\mf≠b)(h5:∀a b,dm=some a->dv=some b->a≠b)(h6:∀a,dm=some a->a∉bs)(h7:∀a,dv=some a->a∉bs):(mn r md mf bs dm dv).Nodup:=by
 unfold mn;simp only[List.nodup_cons,List.mem_cons,List.mem_append,Option.mem_toList,not_or];refine⟨⟨h1.1,h1.2.1,⟨fun e=>(h2 _ e).1 rfl,fun e=>(h3 _ e).1 rfl⟩,fun e=>(h4 _ e).1 rfl⟩,⟨h1.2.2,⟨fun e=>(h2 _ e).2.1 rfl,fun e=>(h3 _ e).2.1 rfl⟩,fun e=>(h4 _ e).2.1 rfl⟩,⟨⟨fun e=>(h2 _ e).2.2 rfl,fun e=>(h3 _ e).2.2 rfl⟩,fun e=>(h4 _ e).2.2 rfl⟩,?_⟩;rw[List.nodup_append,List.nodup_append];refine⟨⟨?_,?_,fun a ha b hb=>h5 a b (by simpa using ha) (by simpa using hb)⟩,eN,fun a ha b hb=>?_⟩
 .cases dm<;>simp
 .cases dv<;>simp
 .rcases List.mem_append.1 ha with h |h
  .exact fun e=>h6 a (by simpa using h) (by rw[e];exact hb)
  .exact fun e=>h7 a (by simpa using h) (by rw[e];exact hb)
theorem km.MF{w:World}{S:Nat->Prop}{r md mf:Nat}{bs:List Nat}{X:Cx}{m:Rn}{vt vf:Value}{dY cO:List (List Value)}{dm dv:Option Nat}(h:km w S r md mf bs X m vt vf dY cO dm dv):bs.Nodup:=by
 have hn:=h.blocks;unfold mn at hn;simp only[List.nodup_cons]at hn;have h3:=hn.2.2.2;rw[List.nodup_append]at h3;exact h3.2.1
theorem A9{w:World}{S:Nat→Prop}{r md mf:Nat}{bs:List Nat}{X:Cx}{m:Rn}{f:Fm}{cs:List Value}(h:dE w S r md mf bs X m)(hf:qw w (Out S w) bs cs f)(hlen:m.bA.length≤2097152) :
   bu Tryz.prog 88 [ptr r,.agg cs.toArray] w fun x w'=>(∃S',dE w' S' r md mf bs X (m.push f)/\fh S S' w)/\Mod S w w':=by
 obtain⟨vt,vf,dY,cO,dm,dv,h⟩:=h;have lc:=hf.len;have iu:=h.bA.at.1;refine γ Tryz.f88 ?_;refine σ ?_;refine bZ rfl ?_;intro w1 au ak cw;have lD:=ak.at h.box Ψ;have hr:=bP lD;simp only[go_sem,simprocAttr,cell_of lD,aE (n:=5) (cs:=cs) au lc];refine ez (cs:=cs.toArray) (ps:=partsOf 5 0 [cs]) rfl (by have:=oA (sz:=5) [cs] [] _ ⟨lc,trivial⟩ (show[I 0,.pointer none,.pointer none,.pointer none,I 0].length=1*5 from rfl);simpa using this) ?_;intro w2 az ai bU;have zK:Mod (fun _=>False) w1 w2:=ai.dG;have bo:=ak.trans zK;refine σ ?_;refine⟨zK.bO _ hr Ψ,?_⟩;have eu:=mD az;rw[lc]at eu;refine sN (m:=1) (news:=cs) rfl (h.tm.mod bo (fun _ _ h=>h)) rfl (fun h=>by cases h) eu hf.one rfl (by omega) (by omega) ?_;intro v3 w3 jh uD aw kW;have HU:=zK.at lD Ψ;obtain⟨n1,n2,n3,n4,n5,n6,n7,n8,n9⟩:=h.ne;have Sr:∀b,b=r->S b:=fun b hb=>by rw[hb];exact h.aT _ (by simp)
 have Sf:∀b,dv=some b->S b:=fun b hb=>h.aT _ (by simp[hb])
 have zL:=aw.at HU (fun e=>(n5 r e).1 rfl);obtain⟨Z5,Z6,rfl,_,_⟩:=uD.val;refine eK (b:=r) (off:=11) (v:=.slice Z5 (cO.length+1) Z6) rfl rfl zL rfl (by simp) ?_;intro w4 bm aD dL;refine σ ?_;have z02:=bo.size;have Rj:=aw.size;have Ro:=aD.size;have zw1:w1.heap.size=w.heap.size+1:=cw;have zw2:w2.heap.size=w1.heap.size+1:=bU;have qp:∀b,jh=some b->dv=some b\/w.heap.size<=b:=fun b hb=>by
  rcases kW b hb with h |⟨h,_⟩
  .exact .inl h
  .right;omega
 have cA:Mod S w w4:=((aq bo).trans (aw.aU Sf)).trans (aD.aU Sr)
 have hg:fh S (fun b=>S b\/jh=some b) w:=⟨fun b hb=>.inl hb,fun b hb=>by
  rcases hb with h |h
  ·exact .inl h
  ·rcases qp b h with h |h
   ·exact .inl (Sf b h)
   ·exact .inr h⟩
 have ga:=wo hg cA.size;have up:∀{f:Fm} {row:List Value},qw w (Out S w) bs row f->qw w4 (Out (fun b=>S b\/jh=some b) w4) bs row f:=fun hx=>hx.up cA aW ga (fun _ _ h=>h)
 have oG:∀b∈mn r md mf bs dm dv,b<w.heap.size:=fun b hb=>h.lt b (h.aT b hb)
 have lr:=oG r (by simp);have ld:=oG md (by simp);have lmf:=oG mf (by simp);have lt':∀b,dm=some b->b<w.heap.size:=fun b hb=>oG b (by simp[hb])
 have lb:∀b∈bs,b<w.heap.size:=fun b hb=>oG b (by simp[hb])
 have Z7:∀b,jh=some b->b<w4.heap.size:=fun b hb=>Nat.lt_of_lt_of_le (uD.lt hb) Ro
 refine⟨⟨fun b=>S b\/jh=some b,⟨vt,.slice Z5 (cO.length+1) Z6,dY,cO++[cs],dm,jh,?_⟩,hg⟩,cA⟩;refine⟨bm,?_,h.items,?_,?_,?_,?_,?_,h.len,?_,?_,?_,h.steps,fun p hp=>?_⟩
 rotate_left 9
 .obtain⟨a1,a2,a3⟩:=h.kept p hp;have a4:=bP a1;simp only[mn,List.mem_cons,List.mem_append,Option.mem_toList,not_or]at a3 ⊢;obtain⟨c1,c2,c3,⟨c4,c5⟩,c6⟩:=a3
  exact⟨aD.at (aw.at (bo.at a1 Ψ) (fun e=>c5 (by rw[e]))) c1,.inl a2,c1,c2,c3,⟨c4,fun e=>by
   rcases qp _ e with h |h
   ·exact c5 h
   ·omega⟩,c6⟩
 .exact((h.told.mod bo (fun _ _ h=>h)).mod aw (fun b hb e=>n7 b b hb e rfl)).mod aD (fun b hb e=>(n4 b hb).1 e.symm)
 .have sS:=uD.mod aD (fun b hb e=>by
   rcases qp b hb with h |h
   ·exact(n5 b h).1 e.symm
   ·omega)
  rw[Hj,List.length_append];exact sS
 .exact(h.bA.imp (fun _ _ x=>up x)).snoc (up hf)
 .refine R6 h.MF ⟨n1,n2,n3⟩ n4 (fun b hb=>?_) n6 (fun a b ha hb=>?_) n8 (fun a ha eO=>?_)
  .rcases qp b hb with h |h
   .exact n5 b h
   .exact⟨by omega,by omega,by omega⟩
  .rcases qp b hb with h |h
   .exact n7 a b ha h
   .have:=lt' a ha;omega
  .rcases qp a ha with h |h
   .exact n9 a h eO
   .have:=lb a eO;omega
 .intro b hb;simp only[mn,List.mem_cons,List.mem_append,Option.mem_toList]at hb;rcases hb with rfl |rfl |rfl |(h1 |h1) |h1
  .exact .inl (h.aT _ (by simp))
  .exact .inl (h.aT _ (by simp))
  .exact .inl (h.aT _ (by simp))
  .exact .inl (h.aT _ (by simp[h1]))
  .exact .inr h1
  .exact .inl (h.aT _ (by simp[h1]))
 .intro b hb;rcases hb with h1 |h1
  .have:=h.lt b h1;have:=cA.size;omega
  .exact Z7 b h1
 .intro i b x hi hx;obtain⟨v,h1,h2⟩:=h.cell i b x hi hx;have eO:=List.mem_of_getElem? hi;exact⟨v,aD.at (aw.at (bo.at h1 Ψ) (fun e=>n9 b e eO)) (fun e=>(n6 b eO).1 e.symm),h2.up cA aW ga (fun _ _ h=>h)⟩
 .exact((h.aj.mod bo Ψ (fun _ _ x=>x)).mod aw (fun e=>(n5 md e).2.1 rfl) (fun _ _ x=>x)).mod aD (fun e=>n1 e.symm) (fun _ _ x=>x)
 .exact((h.fields.mod bo Ψ (fun _ _ x=>x)).mod aw (fun e=>(n5 mf e).2.2 rfl) (fun _ _ x=>x)).mod aD (fun e=>n2 e.symm) (fun _ _ x=>x)
end
section
open Go Go.W
section
variable {w w':World} {S:Nat->Prop} {r md mf:Nat} {bs:List Nat} {X:Cx} {m:Rn} {vt vf:Value} {dY cO:List (List Value)} {dm dv:Option Nat}
theorem km.aI(h:km w S r md mf bs X m vt vf dY cO dm dv)(hm:Mod (fun _=>False) w w'):km w' S r md mf bs X m vt vf dY cO dm dv:=by
 have cA:Mod S w w':=aq hm
 exact⟨hm.at h.box Ψ,h.told.mod hm (fun _ _ h=>h),h.items,h.tm.mod hm (fun _ _ h=>h),h.bA.imp (fun _ _ x=>x.up cA aW (br cA) (fun _ _ h=>h)),h.blocks,h.aT,fun b hb=>Nat.lt_of_lt_of_le (h.lt b hb) hm.size,h.len,
  fun i b x hi hx=>by obtain⟨v,h1,h2⟩:=h.cell i b x hi hx;exact⟨v,hm.at h1 Ψ,h2.up cA aW (br cA) (fun _ _ h=>h)⟩,h.aj.mod hm Ψ (fun _ _ x=>x),h.fields.mod hm Ψ (fun _ _ x=>x),h.steps,fun p hp=>by obtain⟨a1,a2,a3⟩:=h.kept p hp;exact⟨hm.at a1 Ψ,a2,a3⟩⟩
theorem dE.aI(h:dE w S r md mf bs X m)(hm:Mod (fun _=>False) w w'):dE w' S r md mf bs X m:=by
 obtain⟨vt,vf,dY,cO,dm,dv,h⟩:=h;exact⟨vt,vf,dY,cO,dm,dv,km.aI h hm⟩
theorem km.put(h:km w S r md mf bs X m vt vf dY cO dm dv){c b:Nat}{x:Cl}{v:Value}(hc:bs[c]? = some b)(hm:Mod (· = b) w w')(hb:w'.heap[b]? = some (.cells [v].toArray R5 (0,0)))(hv:kL w (Out S w) bs x v) :
   km w' S r md mf bs X (m.put c x) vt vf dY cO dm dv:=by
 obtain⟨n1,n2,n3,n4,n5,n6,n7,n8,n9⟩:=h.ne;have eO:=List.mem_of_getElem? hc;obtain⟨e1,e2,e3⟩:=n6 b eO;have Sb:∀y,y=b->S y:=fun y hy=>by rw[hy];exact h.aT _ (by simp[eO])
 have cA:=hm.aU Sb;have up:∀{y:Cl} {u:Value},kL w (Out S w) bs y u->kL w' (Out S w') bs y u:=fun hx=>hx.up cA aW (br cA) (fun _ _ h=>h)
 refine⟨hm.at h.box e1,h.told.mod hm (fun y hy e=>n8 y hy (by rw[e];exact eO)),h.items,h.tm.mod hm (fun y hy e=>n9 y hy (by rw[e];exact eO)),h.bA.imp (fun _ _ x=>x.up cA aW (br cA) (fun _ _ h=>h)),h.blocks,h.aT,fun y hy=>Nat.lt_of_lt_of_le (h.lt y hy) hm.size,by show bs.length=(m.cells.set c x).length;rw[List.length_set];exact h.len,?_,
  h.aj.mod hm e2 (fun _ _ x=>x),h.fields.mod hm e3 (fun _ _ x=>x),h.steps,fun p hp=>by
   obtain⟨a1,a2,a3⟩:=h.kept p hp
   exact⟨hm.at a1 (fun e=>a3 (by rw[e];simp[eO])),a2,a3⟩⟩
 intro i b' y hi hy;have hy:(m.cells.set c x)[i]?=some y:=hy;by_cases R7:c=i
 .subst R7;rw [hc] at hi;cases hi;have bg:c < m.cells.length:=by
   rw[<- h.len];exact(List.getElem?_eq_some_iff.1 hc).1
  rw[List.getElem?_set_self bg]at hy;cases hy;exact⟨v,hb,up hv⟩
 .rw [List.getElem?_set_ne R7] at hy;obtain ⟨u,h1,h2⟩:=h.cell i b' y hi hy;have bJ:b'≠b:=fun e=>by
   subst e;obtain⟨l1,q1⟩:=List.getElem?_eq_some_iff.1 hi;obtain⟨l2,q2⟩:=List.getElem?_eq_some_iff.1 hc;exact R7 (((List.getElem_inj h.MF).1 (q2.trans q1.symm)))
  exact⟨u,hm.at h1 bJ,up h2⟩
end
def Fl(w:World)(B:Nat->Prop)(bs:List Nat)(v:Value):Option Md->Prop
 |some (.go e nm)=>∃ve vn,v=.tuple #[ve,vn,.nilIface,.bool true]/\qu w B ve e/\jz w B bs nm vn
 |some (.val x)=>∃u,v=.tuple #[.pointer none,.pointer none,u,.bool true]/\kL w B bs x u/\x.rm=true
 |none=>v=.tuple #[.pointer none,.pointer none,.nilIface,.bool false]
def qx(w w':World)(S:Nat->Prop)(r md mf:Nat)(bs:List Nat)(X:Cx)(v:Value)(x:R3):Prop:=
 ∃S' du,dE w' S' r md mf du X x.2/\fh S S' w/\(∀(c b:Nat),bs[c]?=some b->du[c]?=some b)/\Fl w' (Out S' w') du v x.1
theorem Fo{w:World}{B:Nat->Prop}{bs:List Nat}{x:Cl}{u:Value}(h:kL w B bs x u):x.rm=true->∃T z,u=.iface T z/\∃want ti,Tryz.prog.underlying 83=some (.interface want)/\Tryz.prog.info? T=some ti/\(Instr.missingMethod want ti.methods).isNone=true:=by
 intro hv;cases x with
 |num n=>cases h;exact⟨_,_,rfl,ajx⟩
 |bE n fs=>obtain⟨a,vs,rfl,_⟩:=h;exact⟨_,_,rfl,ajy⟩
 |jN e nm=>obtain⟨a,ve,vn,rfl,_⟩:=h;exact⟨_,_,rfl,ajz⟩
 |iL n l fs=>obtain⟨a,vs,rfl,_⟩:=h;exact⟨_,_,rfl,ajA⟩
 |wait e nm=>cases hv
 |busy=>cases hv
 |emp=>cases hv
theorem R8{w:World}{S:Nat→Prop}{r md mf:Nat}{bs:List Nat}{X:Cx}{m:Rn}{c b:Nat}(h:dE w S r md mf bs X m)(hc:bs[c]? = some b)(hlen:m.bA.length≤2097152) :
   bu Tryz.prog 66 [ptr r,ptr b] w fun v w'=>qx w w' S r md mf bs X v (jO m c)/\Mod S w w':=by
 obtain⟨vt,vf,dY,cO,dm,dv,h⟩:=h;have R9:c<m.cells.length:=by rw[<- h.len];exact(List.getElem?_eq_some_iff.1 hc).1
 have hx:=Ξ R9;obtain⟨u,hb,hu⟩:=h.cell c b _ hc hx;generalize m.cells[c]=x at hx hu;have hE:jO m c=match some x with
  |some (.wait e v)=>(some (.go e v),(m.put c .busy).push (.fm c))
  |some (.num n)=>(some (.val (.num n)),m)
  |some (.bE n fs)=>(some (.val (.bE n fs)),m)
  |some (.jN e v)=>(some (.val (.jN e v)),m)
  |some (.iL n l h)=>(some (.val (.iL n l h)),m)
  |_=>(none,m.stop 4):=by unfold jO;rw[hx];try rfl
 refine γ Tryz.f66 ?_;(try simp only[go_sem,simprocAttr,cell_of hb]);cases hv:x.rm with
 |true=>
  obtain⟨T,z,rfl,want,ti,q1,q2,q3⟩:=Fo hu hv;have th:jO m c=(some (.val x),m):=by rw[hE];cases x<;>first |rfl |cases hv
  refine R2 rfl q1 q2 q3 (Tryz.zeroValue83 _) (fun _=>?_) (fun h=>by cases h);(try simp only[go_sem,simprocAttr,aM,RV.ev,aN]);rw[th];exact⟨⟨S,bs,⟨_,_,_,_,_,_,h⟩,⟨fun _ h=>h,fun _ h=>.inl h⟩,fun _ _ h=>h,_,rfl,hu,hv⟩,.refl _ _⟩
 |false=>
  have stop:∀(th:jO m c=(none,m.stop 4)),bu Tryz.prog 65 [ptr r,I 4] w fun _ w'=>qx w w' S r md mf bs X (.tuple #[.pointer none,.pointer none,.nilIface,.bool false]) (jO m c)/\Mod S w w':=fun th=>by
   refine(Ic ⟨_,_,_,_,_,_,h⟩).mono ?_;rintro _ w1 ⟨hR,ak⟩;rw[th];exact⟨⟨S,bs,hR,⟨fun _ h=>h,fun _ h=>.inl h⟩,fun _ _ h=>h,rfl⟩,ak.aU (fun y hy=>by rw[hy];exact h.aT _ (by simp))⟩
  cases x with
  |num n=>cases hv
  |bE n fs=>cases hv
  |jN e nm=>cases hv
  |iL n l fs=>cases hv
  |emp=>
   cases hu;obtain⟨want,ti,q1,q2,q3⟩:=Z3;refine Z1 rfl q1 (Tryz.zeroValue83 _) ?_;(try simp only[go_sem,simprocAttr]);refine Z1 (D:=.pointer 134) rfl rfl (Tryz.zeroValue131 _) ?_;(try simp only[go_sem,simprocAttr]);refine aL (by rfl) ?_;refine(stop hE).mono ?_;rintro _ w1 hR;(try simp only[go_sem,simprocAttr,aM,RV.ev,aN]);exact hR
  |busy=>
   cases hu;obtain⟨want,ti,q1,q2,q3⟩:=ajB;refine R2 rfl q1 q2 q3 (Tryz.zeroValue83 _) (fun h=>by cases h) (fun _=>?_);(try simp only[go_sem,simprocAttr]);refine mN (D:=.pointer 134) rfl rfl rfl (Tryz.zeroValue131 _) (fun h=>absurd h (by decide)) (fun _=>?_);(try simp only[go_sem,simprocAttr]);refine aL (by rfl) ?_;refine(stop hE).mono ?_;rintro _ w1 hR;(try simp only[go_sem,simprocAttr,aM,RV.ev,aN]);exact hR
  |wait e nm=>
   obtain⟨a,ve,vn,rfl,bT,he,hn⟩:=hu;obtain⟨want,ti,q1,q2,q3⟩:=Z3;refine R2 rfl q1 q2 q3 (Tryz.zeroValue83 _) (fun h=>by cases h) (fun _=>?_);(try simp only[go_sem,simprocAttr]);refine mN (D:=.pointer 134) rfl rfl rfl (Tryz.zeroValue131 _) (fun _=>?_) (fun h=>absurd rfl h);(try simp only[go_sem,simprocAttr]);refine eK (b:=b) (off:=0) (v:=.iface 199 (.agg #[])) rfl rfl hb rfl (by simp) ?_;intro w1 au ak cw;have Sb:∀y,y=b->S y:=fun y hy=>by rw[hy];exact h.aT _ (by simp[List.mem_of_getElem? hc])
   have h1:=h.put (x:=.busy) hc ak au rfl;have ajF:=ak.aU Sb;(try simp only[go_sem,simprocAttr]);refine aL (by rfl) ?_;refine(A9 (f:=.fm c) (cs:=[I 0,ptr b,.pointer none,.pointer none,I 0]) ⟨_,_,_,_,_,_,h1⟩ ⟨b,rfl,hc⟩ hlen).mono ?_;rintro _ w2 ⟨⟨S2,h2,iF⟩,ai⟩;have bo:Mod S w w2:=ajF.trans ai
   have hg:fh S S2 w:=⟨iF.1,fun y hy=>by
    rcases iF.2 y hy with h |h
    ·exact .inl h
    ·right;omega⟩
   have ga:=wo hg bo.size;have ET:=bT.up bo aW ga;have k0:w2.cell? a=some ve:=ET.c0 (by simp);have k1:w2.cell? ⟨a.block,a.off+1,none⟩=some vn:=ET.at (k:=1) (by simp);(try simp only[go_sem,simprocAttr,k0,k1,aM,RV.ev,aN]);rw[hE];have d2:Mod (fun _=>False) w2 w2.drew:=(Mod.refl _ _).drew;have MG:Mod S w w2.drew:=bo.trans (aq d2);have Z8:=wo hg MG.size;exact⟨⟨S2,bs,dE.aI h2 d2,hg,fun _ _ h=>h,ve,vn,rfl,he.up MG aW Z8,hn.up MG aW Z8 (fun _ _ h=>h)⟩,MG⟩
end
section
open Go Go.W
theorem wq{w:World}{S:Nat->Prop}{b T:Nat}{cs:List Value}(hb:w.heap[b]?=some (.cells cs.toArray T (0,0)))(hS:¬S b):iU w (Out S w) ⟨b,0,none⟩ cs:=
 ⟨⟨bP hb,hS⟩,fun k hk=>by rw[oa,cell_of hb];simp[Ξ hk]⟩
theorem Z9{w w':World}{S:Nat->Prop}{b T:Nat}{cs:List Value}(hb:w.heap[b]?=some (.cells cs.toArray T (0,0)))(hm:Mod (fun _=>False) w w')(hS:¬S b):iU w' (Out S w') ⟨b,0,none⟩ cs:=wq (hm.at hb Ψ) hS
theorem MH{w:World}{S:Nat->Prop}{b T:Nat}{cs:List Value}(hb:w.heap[b]?=some (.cells cs.toArray T (0,0)))(hS:¬S b):xV w (Out S w) ⟨b,0,none⟩ cs:=⟨wq hb hS,_,_,hb⟩
theorem Z'{w:World}{S:Nat→Prop}{bs hv:List Nat}{n:ByteArray}{mO:Int}{vs:Value}(hS:∀ b,S b→b < w.heap.size)(h:zJ w (Out S w) bs hv vs) :
   bu Tryz.prog 64 [.string n,I mO,vs] w fun v w'=>kL w' (Out S w') bs (tj n mO hv) v/\(tj n mO hv).rm=true/\Mod (fun _=>False) w w':=by
 obtain⟨a,c,rfl⟩:=bq h;refine γ Tryz.f64 ?_;(try simp only[go_sem,simprocAttr]);cases hl:mO == 0 with
 |true=>
  have wW:mO=0:=by simpa using hl
  have hg:tj n mO hv=.bE n hv:=by unfold tj;rw[if_pos wW]
  (try simp only[go_sem,simprocAttr]);refine bZ rfl ?_;intro w1 au ak cw;(try simp only[go_sem,simprocAttr,aM,RV.ev,aN]);rw[hg];exact⟨⟨_,_,rfl,wq (cs:=[.string n,.slice a hv.length c]) au (fun hh=>by have:=hS _ hh;omega),h.up (aq ak) aW (br (aq ak)) (fun _ _ h=>h)⟩,rfl,ak⟩
 |false=>
  have wW:mO≠0:=by simpa using hl
  have hg:tj n mO hv=.iL n mO hv:=by unfold tj;rw[if_neg wW]
  (try simp only[go_sem,simprocAttr]);refine bZ rfl ?_;intro w1 au ak cw;(try simp only[go_sem,simprocAttr,aM,RV.ev,aN]);rw[hg];exact⟨⟨_,_,rfl,wq (cs:=[.string n,I mO,.slice a hv.length c]) au (fun hh=>by have:=hS _ hh;omega),h.up (aq ak) aW (br (aq ak)) (fun _ _ h=>h)⟩,rfl,ak⟩
theorem MI(n:Int){w:World}:bu Tryz.prog 112 [I n] w fun r w'=>r=I (zH n)/\w=w':=by
 refine γ Tryz.f112 ?_;simp only[go_sem,Nat.reduceAdd,Nat.reduceEqDiff,Nat.reduceLT,Nat.reduceLeDiff,Nat.reduceMul,reduceCtorEq,↓reduceIte,aM,RV.ev,aN];exact⟨_,rfl,_,rfl,rfl⟩
end
section
open Go Go.W
def MJ(w':World)(S:Nat->Prop)(r md mf:Nat)(bs:List Nat)(X:Cx)(m:Rn)(v:Value):Option Cl->Prop
 |some x=>(∃u,v=.tuple #[u,.bool true]/\kL w' (Out S w') bs x u/\x.rm=true)/\dE w' S r md mf bs X m
 |none=>v=.tuple #[.nilIface,.bool false]/\dE w' S r md mf bs X (m.stop 3)
theorem aaa{n:ByteArray}{a b:Int}{w:World}{S:Nat→Prop}{r md mf:Nat}{bs:List Nat}{X:Cx}{m:Rn}(h:dE w S r md mf bs X m) :
   bu Tryz.prog 90 [ptr r,.string n,I a,I b] w fun v w'=>MJ w' S r md mf bs X m v (rn n a b)/\Mod S w w':=by
 have hO:rn n a b=if bw n ⟨#[43]⟩then some (.num (zH (Wr (a+b))))
  else if bw n ⟨#[45]⟩then some (.num (zH (Wr (a-b))))
  else if bw n ⟨#[42]⟩then some (.num (zH (Wr (a*b))))
  else if bw n ⟨#[47]⟩||bw n ⟨#[37]⟩then(if b=0 then none else if bw n ⟨#[47]⟩then some (.num (zH (Wr (a.tdiv b))))else some (.num (a.tmod b)))
  else some (.bE (if Fk n a b then tk else A8) []):=rfl
 have Ie:∀(k:Int),MJ w S r md mf bs X m (.tuple #[.iface 141 (I k),.bool true]) (some (.num k)):=fun k=>⟨⟨_,rfl,rfl,rfl⟩,h⟩
 refine γ Tryz.f90 ?_;(try simp only[go_sem,simprocAttr]);refine og (fun ρ w'=>w=w'/\rn n a b=some (.bE (if Fk n a b then tk else A8) [])/\ρ.get 10=some (.bool (Fk n a b))) ?_ ?_
 .cases h1:bw n ⟨#[43]⟩with
  |true=>
   rw[if_pos h1]at hO;rw[bw]at h1;(try simp only[go_sem,simprocAttr,h1]);refine aL (by rfl) ?_;refine(MI _).mono ?_;rintro _ _ ⟨rfl,rfl⟩;(try simp only[go_sem,simprocAttr,aM,RV.ev,aN]);rw[hO];exact⟨Ie _,.refl _ _⟩
  |false=>
  rw[if_neg (by rw[h1];simp)]at hO;rw[bw]at h1;(try simp only[go_sem,simprocAttr,h1]);cases h2:bw n ⟨#[45]⟩with
  |true=>
   rw[if_pos h2]at hO;rw[bw]at h2;(try simp only[go_sem,simprocAttr,h2]);refine aL (by rfl) ?_;refine(MI _).mono ?_;rintro _ _ ⟨rfl,rfl⟩;(try simp only[go_sem,simprocAttr,aM,RV.ev,aN]);rw[hO];exact⟨Ie _,.refl _ _⟩
  |false=>
  rw[if_neg (by rw[h2];simp)]at hO;rw[bw]at h2;(try simp only[go_sem,simprocAttr,h2]);cases h3:bw n ⟨#[42]⟩with
  |true=>
   rw[if_pos h3]at hO;rw[bw]at h3;(try simp only[go_sem,simprocAttr,h3]);refine aL (by rfl) ?_;refine(MI _).mono ?_;rintro _ _ ⟨rfl,rfl⟩;(try simp only[go_sem,simprocAttr,aM,RV.ev,aN]);rw[hO];exact⟨Ie _,.refl _ _⟩
  |false=>
  rw[if_neg (by rw[h3];simp)]at hO;rw[bw]at h3;(try simp only[go_sem,simprocAttr,h3]);have Sr:∀y,y=r->S y:=fun y hy=>by obtain⟨_,_,_,_,_,_,hh⟩:=h;rw[hy];exact hh.aT _ (by simp)
  have zero:∀(hO:rn n a b=none),bu Tryz.prog 65 [ptr r,I 3] w fun _ w'=>MJ w' S r md mf bs X m (.tuple #[.nilIface,.bool false]) (rn n a b)/\Mod S w w':=fun hO=>by
   refine(Ic h).mono ?_;rintro _ w1 ⟨hR,ak⟩;rw[hO];exact⟨⟨rfl,hR⟩,ak.aU Sr⟩
  cases h4:bw n ⟨#[47]⟩with
  |true=>
   rw[if_pos (by rw[h4];try rfl),if_pos h4]at hO;rw[bw]at h4;(try simp only[go_sem,simprocAttr,h4]);cases hb:b == 0 with
   |true=>
    rw[if_pos (by simpa using hb)]at hO;(try simp only[go_sem,simprocAttr]);refine aL (by rfl) ?_;refine(zero hO).mono ?_;rintro _ w1 hR;(try simp only[go_sem,simprocAttr,aM,RV.ev,aN]);exact hR
   |false=>
    have ky:b≠0:=by simpa using hb
    rw[if_neg ky]at hO;(try simp only[go_sem,simprocAttr,h4,ky]);refine aL (by rfl) ?_;refine(MI _).mono ?_;rintro _ _ ⟨rfl,rfl⟩;(try simp only[go_sem,simprocAttr,aM,RV.ev,aN]);rw[hO];exact⟨Ie _,.refl _ _⟩
  |false=>
  cases h5:bw n ⟨#[37]⟩with
  |true=>
   rw[if_pos (by rw[h5];simp),if_neg (show ¬bw n ⟨#[47]⟩=true by rw[h4];simp)]at hO;rw[bw]at h4 h5;(try simp only[go_sem,simprocAttr,h4,h5]);cases hb:b == 0 with
   |true=>
    rw[if_pos (by simpa using hb)]at hO;(try simp only[go_sem,simprocAttr]);refine aL (by rfl) ?_;refine(zero hO).mono ?_;rintro _ w1 hR;(try simp only[go_sem,simprocAttr,aM,RV.ev,aN]);exact hR
   |false=>
    have ky:b≠0:=by simpa using hb
    rw[if_neg ky]at hO;(try simp only[go_sem,simprocAttr,h4,ky,aM,RV.ev,aN]);rw[hO];exact⟨Ie _,.refl _ _⟩
  |false=>
  rw[if_neg (by rw[h4,h5];simp)]at hO;have hT:Fk n a b=if bw n ⟨#[61,61]⟩then a == b
   else if bw n ⟨#[47,61]⟩then a != b
   else if bw n ⟨#[60]⟩then decide (a<b)
   else if bw n ⟨#[60,61]⟩then decide (a<=b)
   else if bw n ⟨#[62]⟩then decide (a>b)
   else if bw n ⟨#[62,61]⟩then decide (a>=b)
   else false:=rfl
  rw[bw]at h4 h5;(try simp only[go_sem,simprocAttr,h4,h5]);cases c1:bw n ⟨#[61,61]⟩with
  |true=>
   rw[if_pos c1]at hT;rw[bw]at c1;(try simp only[go_sem,simprocAttr,c1]);exact⟨hO,congrArg _ hT.symm⟩
  |false=>
  rw[if_neg (by rw[c1];simp)]at hT;rw[bw]at c1;(try simp only[go_sem,simprocAttr,c1]);cases c2:bw n ⟨#[47,61]⟩with
  |true=>
   rw[if_pos c2]at hT;rw[bw]at c2;(try simp only[go_sem,simprocAttr,c2]);exact⟨hO,congrArg _ hT.symm⟩
  |false=>
  rw[if_neg (by rw[c2];simp)]at hT;rw[bw]at c2;(try simp only[go_sem,simprocAttr,c2]);cases c3:bw n ⟨#[60]⟩with
  |true=>
   rw[if_pos c3]at hT;rw[bw]at c3;(try simp only[go_sem,simprocAttr,c3]);exact⟨hO,congrArg _ hT.symm⟩
  |false=>
  rw[if_neg (by rw[c3];simp)]at hT;rw[bw]at c3;(try simp only[go_sem,simprocAttr,c3]);cases c4:bw n ⟨#[60,61]⟩with
  |true=>
   rw[if_pos c4]at hT;rw[bw]at c4;(try simp only[go_sem,simprocAttr,c4]);exact⟨hO,congrArg _ hT.symm⟩
  |false=>
  rw[if_neg (by rw[c4];simp)]at hT;rw[bw]at c4;(try simp only[go_sem,simprocAttr,c4]);cases c5:bw n ⟨#[62]⟩with
  |true=>
   rw[if_pos c5]at hT;rw[bw]at c5;(try simp only[go_sem,simprocAttr,c5]);exact⟨hO,congrArg _ hT.symm⟩
  |false=>
  rw[if_neg (by rw[c5];simp)]at hT;rw[bw]at c5;(try simp only[go_sem,simprocAttr,c5]);cases c6:bw n ⟨#[62,61]⟩with
  |true=>
   rw[if_pos c6]at hT;rw[bw]at c6;(try simp only[go_sem,simprocAttr,c6]);exact⟨hO,congrArg _ hT.symm⟩
  |false=>
  rw[if_neg (by rw[c6];simp)]at hT;rw[bw]at c6;(try simp only[go_sem,simprocAttr,c6]);exact⟨hO,congrArg _ hT.symm⟩
 .rintro ρ _ ⟨rfl,hc,g10⟩;have hS:=h;obtain⟨_,_,_,_,_,_,hh⟩:=hS;cases ht:Fk n a b with
  |true=>
   rw[ht]at g10 hc;(try simp only[go_sem,simprocAttr,g10]);refine bZ rfl ?_;intro w1 au ak cw;(try simp only[go_sem,simprocAttr,aM,RV.ev,aN]);rw[hc];exact⟨⟨⟨_,rfl,⟨_,_,rfl,wq (cs:=[.string tk,.slice none 0 0]) au (fun hx=>by have:=hh.lt _ hx;omega),eB _ _ _ _⟩,rfl⟩,h.aI ak⟩,aq ak⟩
  |false=>
   rw[ht]at g10 hc;(try simp only[go_sem,simprocAttr,g10]);refine bZ rfl ?_;intro w1 au ak cw;(try simp only[go_sem,simprocAttr,aM,RV.ev,aN]);rw[hc];exact⟨⟨⟨_,rfl,⟨_,_,rfl,wq (cs:=[.string A8,.slice none 0 0]) au (fun hx=>by have:=hh.lt _ hx;omega),eB _ _ _ _⟩,rfl⟩,h.aI ak⟩,aq ak⟩
end
section
open Go Go.W
theorem aab{w:World}{S:Nat→Prop}{r md mf:Nat}{bs:List Nat}{X:Cx}{m:Rn}{c b:Nat}{f:Cl}{u:Value}{dx:R3}(h:dE w S r md mf bs X m)(hc:bs[c]? = some b)(hu:kL w (Out S w) bs f u)(hv:f.rm=true)(a7:qt m f c=some dx) :
   bu Tryz.prog 45 [ptr r,u,ptr b] w fun v w'=>qx w w' S r md mf bs X v dx/\Mod S w w':=by
 have hS:=h;obtain⟨_,_,_,_,_,_,hh⟩:=hS;have Sr:∀y,y=r->S y:=fun y hy=>by rw[hy];exact hh.aT _ (by simp)
 have stop:∀(th:dx=(none,m.stop 5)),bu Tryz.prog 65 [ptr r,I 5] w fun _ w'=>qx w w' S r md mf bs X (.tuple #[.pointer none,.pointer none,.nilIface,.bool false]) dx/\Mod S w w':=fun th=>by
  refine(Ic h).mono ?_;rintro _ w1 ⟨hR,ak⟩;rw[th];exact⟨⟨S,bs,hR,⟨fun _ h=>h,fun _ h=>.inl h⟩,fun _ _ h=>h,rfl⟩,ak.aU Sr⟩
 refine γ Tryz.f45 ?_;(try simp only[go_sem,simprocAttr]);cases f with
 |wait e nm=>cases hv
 |busy=>cases hv
 |emp=>cases hv
 |num n=>
  cases hu;cases a7;refine mN (D:=.pointer 162) rfl rfl rfl (Tryz.zeroValue161 _) (fun h=>absurd h (by decide)) (fun _=>?_);(try simp only[go_sem,simprocAttr]);refine mN (D:=.pointer 167) rfl rfl rfl (Tryz.zeroValue165 _) (fun h=>absurd h (by decide)) (fun _=>?_);(try simp only[go_sem,simprocAttr]);refine aL (by rfl) ?_;refine(stop rfl).mono ?_;rintro _ w1 hR;(try simp only[go_sem,simprocAttr,aM,RV.ev,aN]);exact hR
 |bE n fs=>
  obtain⟨a,vs,rfl,_⟩:=hu;cases a7;refine mN (D:=.pointer 162) rfl rfl rfl (Tryz.zeroValue161 _) (fun h=>absurd h (by decide)) (fun _=>?_);(try simp only[go_sem,simprocAttr]);refine mN (D:=.pointer 167) rfl rfl rfl (Tryz.zeroValue165 _) (fun h=>absurd h (by decide)) (fun _=>?_);(try simp only[go_sem,simprocAttr]);refine aL (by rfl) ?_;refine(stop rfl).mono ?_;rintro _ w1 hR;(try simp only[go_sem,simprocAttr,aM,RV.ev,aN]);exact hR
 |jN e nm=>
  obtain⟨a,ve,vn,rfl,bT,⟨ae,re,rfl,kZ,hex⟩,hn⟩:=hu;obtain⟨vt,va,vb,vl,rfl,ht,ha,hb,hl⟩:=hex.parts;obtain⟨aa,ca,rfl⟩:=bq ha;obtain⟨ab,cb,rfl⟩:=bq hb
  have a7:(match e.args,e.binds with
   |x::_,b::_=>some (some (Md.go x ((b.name,c)::nm)),m)
   |_,_=>none)=some dx:=a7
  cases db:e.args with
  |nil=>rw[db]at a7;cases a7
  |cons x xs=>
  cases uE:e.binds with
  |nil=>rw[db,uE]at a7;cases a7
  |cons bd MK=>
  rw[db,uE]at a7;cases a7;have lx:0<e.args.length:=by rw[db];simp
  have lb:0<e.binds.length:=by rw[uE];simp
  obtain⟨E7,ca2,ra,ea,oM,kU,hca⟩:=kI ha lx;obtain⟨rfl,-,-⟩:=cU ea;obtain⟨EZ,cb2,rb,eb,hxb,E5,nh⟩:=kI hb lb;obtain⟨rfl,-,-⟩:=cU eb;have iq:e.args[0]=x:=by simp[db]
  have iK:e.binds[0]=bd:=by simp[uE]
  rw[iq]at oM;rw[iK]at hxb;rw[Nat.zero_mul,add_zero']at hca nh;obtain⟨tc,bc,rfl,_,_,_⟩:=hxb;have k0:w.cell? a=some (.pointer (some ae)):=bT.c0 (by simp);have k1:w.cell? ⟨a.block,a.off+1,none⟩=some vn:=bT.at (k:=1) (by simp);have k4:w.cell? ⟨ae.block,ae.off+4,none⟩=some (.slice (some E7) e.args.length ca):=kZ.at (k:=4) (by simp);have k5:w.cell? ⟨ae.block,ae.off+5,none⟩=some (.slice (some EZ) e.binds.length cb):=kZ.at (k:=5) (by simp);have kb:w.cell? EZ=some (.string bd.name):=nh.c0 (by simp);have b1:(0:Int)<=0/\(0:Int)<e.args.length:=by omega
  have b2:(0:Int)<=0/\(0:Int)<e.binds.length:=by omega
  refine mN (D:=.pointer 162) rfl rfl rfl (Tryz.zeroValue161 _) (fun _=>?_) (fun h=>absurd rfl h);have hvn:Go.W.One vn:=by
   cases nm with
   |nil=>cases hn;rfl
   |cons p l=>obtain⟨_,_,_,rfl,_⟩:=hn;rfl
  (try simp only[go_sem,simprocAttr,bG,bH,k0,k1,k4,k5,b1,b2,Nat.zero_mul,kb,hvn]);refine bZ rfl ?_;intro w1 au ajG cw;have ak:Mod (fun _=>False) w w1:=ajG.dG;have Sa:=np k0;have lte:=np k4;(try simp only[go_sem,simprocAttr,aM,RV.ev,aN]);refine⟨⟨ak.bO _ lte Ψ,ak.bO _ Sa Ψ⟩,⟨S,bs,h.aI ak,⟨fun _ h=>h,fun _ h=>.inl h⟩,fun _ _ h=>h,_,_,rfl,⟨E7,ra,rfl,hca.up (aq ak) aW (br (aq ak)),oM.up (aq ak) aW (br (aq ak))⟩,?_⟩,aq ak⟩;exact⟨_,b,vn,rfl,hc,MH (cs:=[.string bd.name,ptr b,vn]) au (fun hx=>by have:=hh.lt _ hx;have e:w.drew.heap.size=w.heap.size:=rfl;omega),hn.up (aq ak) aW (br (aq ak)) (fun _ _ h=>h)⟩
 |iL n l fs=>
  obtain⟨a,vs,rfl,bT,iR⟩:=hu;obtain⟨ah,ch,rfl⟩:=bq iR;have a7:(if fs.length<1099511627776 then some (some (Md.val (tj n (Wr (l-1)) (fs++[c]))),m)else none)=some dx:=a7;have hlen:fs.length<1099511627776:=by
   apply Classical.byContradiction;intro h;rw[if_neg h]at a7;cases a7
  rw[if_pos hlen]at a7;cases a7;have k0:w.cell? a=some (.string n):=bT.c0 (by simp);have k1:w.cell? ⟨a.block,a.off+1,none⟩=some (I l):=bT.at (k:=1) (by simp);have k2:w.cell? ⟨a.block,a.off+2,none⟩=some (.slice ah fs.length ch):=bT.at (k:=2) (by simp);have ajH:=iR;obtain⟨rows,lz,pZ,Hq⟩:=ajH;obtain⟨pq,eu,jb⟩:=Ha lz.1 (by decide);have iS:∀y∈rows.flatMap id,y.oneCell'=true:=fun y hy=>by
   rw[List.mem_flatMap]at hy;obtain⟨row,hrow,hy⟩:=hy;obtain⟨i,hi,rfl⟩:=List.getElem_of_mem hrow;obtain⟨b',e,_⟩:=Hq i _ _ (Ξ hi) (Ξ (by omega));have hy:y∈rows[i]:=hy;rw[e]at hy;simp only[List.mem_cons,List.not_mem_nil,or_false]at hy;subst hy;rfl
  refine mN (D:=.pointer 162) rfl rfl rfl (Tryz.zeroValue161 _) (fun h=>absurd h (by decide)) (fun _=>?_);(try simp only[go_sem,simprocAttr]);refine mN (D:=.pointer 167) rfl rfl rfl (Tryz.zeroValue165 _) (fun _=>?_) (fun h=>absurd rfl h);(try simp only[go_sem,simprocAttr,k2]);refine sN (m:=fs.length) (news:=rows.flatMap id) rfl (dP.nil w 88 1) rfl jb eu iS rfl (by omega) (by omega) ?_;intro v1 w1 CV tR ak rP;have ak:Mod (fun _=>False) w w1:=ak.aU (fun y hy=>by cases hy);(try simp only[go_sem,simprocAttr]);refine ez (cs:=#[ptr b]) rfl rfl ?_;intro w2 az ai bU;have bo:=ak.trans ai;have ajI:=mD (xs:=[ptr b]) az;(try simp only[go_sem,simprocAttr]);refine sN (m:=1) (news:=[ptr b]) rfl (tR.mod ai (fun _ _ h=>h)) rfl (fun h=>by cases h) ajI (aP rfl dq) rfl (by omega) (by omega) ?_;intro v3 w3 jh uD aw kW;have z02:=bo.size;have aac:∀y,CV=some y->w.heap.size<=y:=fun y hy=>by
   rcases rP y hy with h |⟨h,_⟩
   .cases h
   .omega
  have bz:Mod (fun _=>False) w w3:=bo.step aw (fun y hy hl=>by have:=aac y hy;omega);have qp:∀y,jh=some y->Out S w3 y:=fun y hy=>by
   have bg:=uD.lt hy;refine⟨bg,fun hs=>?_⟩;have:=hh.lt y hs;rcases kW y hy with h |⟨h,_⟩
   .have:=aac y h;omega
   .omega
  have nu:∀r∈rows++[[ptr b]],r.length=1:=fun row hrow=>by
   rcases List.mem_append.1 hrow with hrow |hrow
   .obtain⟨i,hi,rfl⟩:=List.getElem_of_mem hrow;obtain⟨b',e,_⟩:=Hq i _ _ (Ξ hi) (Ξ (by omega));rw[e];try rfl
   .rw[List.mem_singleton.1 hrow];try rfl
  have ajJ:dP w3 88 1 v3 ((rows++[[ptr b]]).flatMap id) (rows++[[ptr b]]).length jh:=by
   have e:(rows++[[ptr b]]).length=0+fs.length+1:=by simp[pZ]
   rw[Hj,e];exact uD
  have hFs:zJ w3 (Out S w3) bs (fs++[c]) v3:=by
   refine⟨rows++[[ptr b]],⟨(EC ajJ nu).mod (.refl (fun _=>False) w3) aA (fun y hy=>qp y hy),by rw[List.length_append];simp;omega⟩,by simp[pZ],fun i row x h1 h2=>?_⟩;rcases Nat.lt_or_ge i rows.length with hi |hi
   .rw[List.getElem?_append_left hi]at h1;rw[List.getElem?_append_left (by omega)]at h2;exact Hq i row x h1 h2
   .rw [List.getElem?_append_right hi] at h1;rw [List.getElem?_append_right (by omega)] at h2;have e0:i - rows.length=0:=by
     rcases Nat.eq_zero_or_pos (i-rows.length)with e |e
     .exact e
     .rw[List.getElem?_eq_none (by simp;omega)]at h1;cases h1
    have e1:i-fs.length=0:=by omega
    rw[e0]at h1;rw[e1]at h2;simp only[List.getElem?_cons_zero,Option.some.injEq]at h1 h2;subst h1 h2;exact⟨b,rfl,hc⟩
  have uB:=bT.up (aq bz (S:=S)) aW (br (aq bz));have k03:w3.cell? a=some (.string n):=uB.c0 (by simp);have k13:w3.cell? ⟨a.block,a.off+1,none⟩=some (I l):=uB.at (k:=1) (by simp);have d3:Mod (fun _=>False) w3 w3.drew:=(Mod.refl _ _).drew;have aad:=bz.trans d3;(try simp only[go_sem,simprocAttr,k03,k13]);refine aL (by rfl) ?_;refine(Z' (S:=S) (bs:=bs) (hv:=fs++[c]) (n:=n) (mO:=Wr (l-1)) (fun y hy=>by have:=hh.lt y hy;have:=aad.size;omega) (hFs.up (aq d3) aW (br (aq d3)) (fun _ _ h=>h))).mono ?_;rintro u5 w5 ⟨im,mK,aH⟩;have jd:=aad.trans aH;(try simp only[go_sem,simprocAttr,aM,RV.ev,aN]);exact⟨⟨S,bs,h.aI jd,⟨fun _ h=>h,fun _ h=>.inl h⟩,fun _ _ h=>h,u5,rfl,im,mK⟩,aq jd⟩
end
section
open Go Go.W
theorem ajK{l:List ByteArray}{fs:List Nat}{i:Nat}(hi:i<l.length)(v:dS):so (l.drop i) (fs.drop i) v=if h:i<fs.length then so (l.drop (i+1)) (fs.drop (i+1)) ((l[i],fs[i])::v)else none:=by
 rw[Ω hi]
 split
 .rename_i h;rw[Ω h,so]
 .rename_i h;rw[List.drop_eq_nil_of_le (show fs.length<=i by omega),so]
theorem ajL{m:Rn}{v:dS}{x:Cl}{l:List Al}{i:Nat}(hi:i < l.length):iM m v x (l.drop i) =
   if(l[i].kind == 3||(l[i].kind == 2&&(mj x).isNone&&l[i].num == numOf x))=true then some (some (.go l[i].body v),m)
   else match mj x with
    |some k=>if(l[i].kind == 1&&bw l[i].bE k.1)=true then(so l[i].vars k.2 v).map (fun v'=>(some (.go l[i].body v'),m))else iM m v x (l.drop (i+1))
    |none=>iM m v x (l.drop (i+1)):=by
 rw[Ω hi,iM];try rfl
theorem ajM{w:World}{B:Nat→Prop}{v:Value}{l:List Al}(hl:aX w v 11 B (jc w B) l){i:Nat}(hi:i < l.length) :
   ∃ad c vv ec,v=.slice (some ad) l.length c/\iU w B (ad.add (i*11)) (I l[i].kind :: .string l[i].bE::I l[i].num::vv::ec)/\aX w vv 1 B ft l[i].vars/\ci w B ec l[i].body/\ec.length=7:=by
 obtain⟨ad,c,r,e,⟨vv,ec,rfl,mK,hex⟩,_,bT⟩:=kI hl hi;exact⟨ad,c,vv,ec,e,bT,mK,hex,hex.len⟩
theorem iU.part{w:World}{B:Nat->Prop}{a:Addr}{cs ds:List Value}{k:Nat}(h:iU w B a cs)(hd:∀i (hi:i<ds.length),cs[k+i]?=some ds[i])(hk:k≠0):iU w B ⟨a.block,a.off+k,none⟩ ds:=by
 refine⟨h.1,fun i hi=>?_⟩;have h1:=hd i hi;obtain⟨bg,h2⟩:=List.getElem?_eq_some_iff.1 h1;have h3:=h.2 (k+i) bg;rw[h2,add_pos _ (by omega)]at h3;rw[oa,Nat.add_assoc];exact h3
end
section
open Go Go.W
abbrev Ig:ByteArray:=⟨#[76,105,115,116]⟩
def CW(t:Ty):Bool:=(t.kind == 4&&bw t.name Ig)&&(match t.args with |a::_=>a.kind == 1 |[]=>false)
theorem ajN(t:Ty){w:World}{B:Nat→Prop}{cs:List Value}(h:aR w B cs t)(ha:t.kind=4→t.name=Ig→0 < t.args.length) :
   bu Tryz.prog 42 [.agg cs.toArray] w fun r w'=>r=.bool (CW t)/\Mod (fun _=>False) w w':=by
 obtain⟨v,rfl,hl⟩:=h.cells;obtain⟨a,c,rfl⟩:=bq hl;refine γ Tryz.f42 ?_;refine σ ?_;refine bZ rfl ?_;intro w1 au ak cw;simp only[go_sem,simprocAttr,cell_of au,Value.cells];cases h1:t.kind == 4 with
 |false=>
  simp only[go_sem,simprocAttr,aM,RV.ev,aN];exact⟨congrArg _ (by rw[CW,h1];try rfl),ak⟩
 |true=>
  simp only[go_sem,simprocAttr,cell_of au,Value.cells];cases h2:bw t.name Ig with
  |false=>
   have jD:=h2;rw[bw]at jD;simp only[go_sem,simprocAttr,jD,aM,RV.ev,aN];exact⟨congrArg _ (by rw[CW,h1,h2];try rfl),ak⟩
  |true=>
   have jD:=h2;rw[bw]at jD;have bg:=ha (by simpa using h1) (by have:=h2;rw[y5]at this;simpa using this);obtain⟨ad,c2,r,e,hr,cG,bT⟩:=kI (hl.mod ak aA (fun _ _ h=>h.mod ak aA)) bg;obtain⟨rfl,-,-⟩:=cU e;obtain⟨vu,rfl,_⟩:=hr.cells;rw[Nat.zero_mul,add_zero']at bT;have k0:w1.cell? ad=some (I t.args[0].kind):=bT.c0 (by simp);have b1:(0:Int)<=0/\(0:Int)<t.args.length:=by omega
   have hk:(match t.args with |a::_=>a.kind == 1 |[]=>false)=(t.args[0].kind == 1):=by
    cases t with
    |mk k n l=>cases l with
     |nil=>simp[Ty.args]at bg
     |cons x l=>rfl
   simp only[go_sem,simprocAttr,jD,cell_of au,Value.cells];simp only[go_sem,simprocAttr,bG,bH,b1,Nat.zero_mul,k0,aM,RV.ev,aN];exact⟨congrArg _ (by rw[CW,h1,h2,hk];try rfl),ak⟩
end
section
open Go Go.W
abbrev Ba:=ByteArray×Int
def Fp(a b:Ba):Bool:=decide (a.1=b.1)&&decide (a.2=b.2)
def zM:List Ba->List Ba->Bool
 |[],_=>true
 |_,[]=>true
 |a::l,b::m=>Fp a b&&zM l m
theorem ajO{l m:List Ba}{i:Nat}(h1:i<l.length)(h2:i<m.length):zM (l.drop i) (m.drop i)=(Fp l[i] m[i]&&zM (l.drop (i+1)) (m.drop (i+1))):=by
 rw[Ω h1,Ω h2];try rfl
theorem aae{l m:List Ba}{i:Nat}(h:l.length<=i\/m.length<=i):zM (l.drop i) (m.drop i)=true:=by
 rcases h with h |h
 .rw[List.drop_eq_nil_of_le h];cases m.drop i<;>rfl
 .rw[List.drop_eq_nil_of_le h];cases l.drop i<;>rfl
abbrev ML(w:World)(B:Nat->Prop)(v:Value)(l:List Ba):Prop:=aX w v 2 B R4 l
abbrev ajP(k s n:Int)(v f1 f2 f3 f4:Value):List Value:=[I k,v,I s,I n,f1,f2,f3,f4]
abbrev eF(k s n:Int)(v:Value):List Value:=ajP k s n v (I 0) (I 0) (I 0) (.string bM)
end
section
open Go Go.W
def ajQ:IR:=.seq (.eJ false [] [0]) <|
 .seq (.seq (.eJ false [.r (some 4) (.eq .slice false (.t 0) (.c (.slice none 0 0)))] [0,4]) <|
 .cond (.t 4) (.seq (.eJ false [.r (some 2) (.mv (.c (.slice none 0 0)))] [2]) <|
 .ret) (.skip)) <|
 .seq (.eJ false [.e (some 5) (.raw ⟨(some 5),(.buildSlice 22 0 #[]),22, "slices.go:362",#[],none⟩),
.r (some 6) (.mv (.t 0)),
.e (some 7) (.ap 45 3 64 #[(.string ⟨#[]⟩),(.slice none 0 0),(.slice none 0 0)] (.t 5) (.t 6)),
.r (some 2) (.mv (.t 7))] [2]) <|
 .ret
theorem ajR:Fits Tryz.prog 29 1 [(0,[0],[]),(1,[0,4],[]),(2,[2],[]),(3,[2],[])] ajQ [.t 2] 8:=
 ⟨Tryz.f29,_,rfl,rfl,rfl,by decide,by kernel_rfl,by kernel_rfl⟩
def ajS:IR:=.seq (.eJ false [] [0]) <|
 .seq (.seq (.eJ false [.r (some 4) (.eq .slice false (.t 0) (.c (.slice none 0 0)))] [0,4]) <|
 .cond (.t 4) (.seq (.eJ false [.r (some 2) (.mv (.c (.slice none 0 0)))] [2]) <|
 .ret) (.skip)) <|
 .seq (.eJ false [.e (some 5) (.raw ⟨(some 5),(.buildSlice 43 0 #[]),43, "slices.go:362",#[],none⟩),
.r (some 6) (.mv (.t 0)),
.e (some 7) (.ap 49 2 40 #[(.string ⟨#[]⟩),(.slice none 0 0)] (.t 5) (.t 6)),
.r (some 2) (.mv (.t 7))] [2]) <|
 .ret
theorem ajT:Fits Tryz.prog 31 1 [(0,[0],[]),(1,[0,4],[]),(2,[2],[]),(3,[2],[])] ajS [.t 2] 8:=
 ⟨Tryz.f31,_,rfl,rfl,rfl,by decide,by kernel_rfl,by kernel_rfl⟩
end
end Go.Proofs.YtekkkjbjnhipkaaGreatDoor
section
namespace Go.Proofs.YtekkkjbjnhipkaaGreatDoor
open Go Go.RowKit Go.Shelf
set_option maxHeartbeats 1000000 in
set_option maxRecDepth 100000 in
theorem ajU(b:Nat)(w:World)(h0:w.cell? ⟨b,0,none⟩=some (.pointer (some ⟨b,0,none⟩))) :
   Calls Tryz.prog 110 #[.pointer (some ⟨b,0,none⟩)] w fun e w'=>e=.returned (.tuple #[])/\w'=w:=by
 obtain⟨j,hj,_⟩:∃j,Tryz.prog.info? 186=some j/\j.size=2:=⟨_,rfl,rfl⟩
 go_enter Tryz.func110,Tryz.ntmps110
 go_wp2
 rw[Lib.run_neq_ptr_same w _ Tryz.underlying183 hj]
 go_wp2
 go_end0
 exact⟨rfl,rfl⟩
set_option maxHeartbeats 1000000 in
set_option maxRecDepth 100000 in
theorem ajV(b:Nat)(w:World)(h0:w.cell? ⟨b,0,none⟩=some (.pointer none))(hsh:w.shape? b=some (186,2))(hfz:w.frozen? ⟨b,0,none⟩=false) :
   Calls Tryz.prog 110 #[.pointer (some ⟨b,0,none⟩)] w fun e w'=>e=.returned (.tuple #[])/\w'=w.setCell ⟨b,0,none⟩ (.pointer (some ⟨b,0,none⟩)):=by
 obtain⟨j,hj,Rv⟩:∃j,Tryz.prog.info? 186=some j/\j.size=2:=⟨_,rfl,rfl⟩
 go_enter Tryz.func110,Tryz.ntmps110
 go_wp2
 rw[Lib.run_to_unsafe w ⟨b,0,none⟩ Tryz.underlying183 Tryz.underlying231 hj (by rw[Rv];decide) hsh (show 0<2 by decide)];simp only[Result.andThen];rw[Oper.upon_value]
 go_wp2
 rw[run_callFunc_extern Tryz.func125 (by kernel_rfl) (by kernel_rfl) (by kernel_rfl) (e:=Extern.AbiNoEscape.same) (by kernel_rfl)];rw[Lib.run_noEscape];simp only[Result.andThen];rw[Oper.upon_value]
 go_wp2
 rw[Lib.run_from_unsafe w ⟨b,0,none⟩ Tryz.underlying231 Tryz.underlying183 hj hsh (by kernel_rfl)];simp only[Result.andThen];rw[Oper.upon_value]
 go_wp2
 go_end0
 exact⟨rfl,rfl⟩
set_option maxHeartbeats 1000000 in
theorem ajW(b g cap:Nat)(cur:Array Value)(l:List UInt8)(w:World)(hb:w.cell? ⟨b,1,none⟩=some (.slice (some ⟨g,0,none⟩) l.length cap))(hg:w.heap[g]? = some (.cells cur 5 (0,0)))(Xh:l.length≤cap)(hcm:l.length≤140737488355328)(bT:l.length≤cur.size)
   (hc:∀j x,l[j]?=some x->w.cell? ((⟨g,0,none⟩:Addr).add j)=some (.int .u8 x.toNat)) (h0:l≠[]) :
   Calls Tryz.prog 84 #[.pointer (some ⟨b,0,none⟩)] w fun e w'=>e=.returned (.string ⟨l.toArray⟩)/\w'=w.drew.freeze ⟨g,0,none⟩ l.length:=by
 have qU:l.length≠0:=by simpa using h0
 have c1:w.drew.cell? ⟨b,1,none⟩=some (.slice (some ⟨g,0,none⟩) l.length cap):=hb;have hSD:(Builtin.unsafeSliceData_ #[184] 215 #[.slice (some ⟨g,0,none⟩) l.length cap]).run Tryz.prog w.drew=.ok (.pointer (some ⟨g,0,none⟩)) w.drew:=
  Lib.run_unsafeSliceData_row _ _ _ _ _ _ (by omega)
 have hUS:(Builtin.unsafeString_ #[215,3] 9 #[.pointer (some ⟨g,0,none⟩),.int .i64 l.length]).run Tryz.prog w.drew=.ok (.string ⟨l.toArray⟩) (w.drew.freeze ⟨g,0,none⟩ l.length):=
  Lib.run_unsafeString_row w.drew 215 3 9 5 Tryz.underlying215 (by kernel_rfl) g cur.size (by have dR:w.drew.heap[g]?=some (.cells cur 5 (0,0)):=hg;simp[World.shape?,dR]) l h0 bT (by omega) hc
 have mixed:Tryz.prog.follows Departure.mixedOrders=true:=by kernel_rfl
 go_enter Tryz.func84,Tryz.ntmps84
 go_wp2
 go_region_o
 all_goals (go_wp2;go_ret;exact⟨rfl,rfl⟩)
end Go.Proofs.YtekkkjbjnhipkaaGreatDoor
namespace Go.W
open Go
section
variable {P:Program} {w:World} {ρ:Env} {K:Value->World->Prop} {d:Option Nat} {ty:TypeId} {pos:String} {af:Array Edge}
theorem ajX{t u e:TypeId}{i:TypeInfo}{sl x:Operand}{v:Value}{xs:List Value}{n:Nat}{fp:Option Nat}{s:ByteArray}(hs:(bI sl).ev ρ=some v)(ho:dP w e 1 v xs n fp)(hx:(bI x).ev ρ=some (.string s))
   (ht:P.underlying t=some (.slice e)) (hu:P.underlying u=some .string) (hi:P.info? e=some i) (hz:i.zero=some (.int .u8 0)) (bV:i.size=1) (rW:i.bytes=1) (hb:n+s.size<=140737488355328)
   (hk:∀v' w' dB,dP w' e 1 v' (xs++Lib.strCells s) (n+s.size) dB->Mod (fun b=>fp=some b) w w'->(∀b,dB=some b->fp=some b\/b=w.heap.size/\b<w'.heap.size)->K v' w') :
   E.wp P w ρ K (.raw ⟨d,.call { callee:=.builtin .append,args:=#[sl,x],argTypes:=#[t,u]},ty,pos,af,none⟩):=by
 obtain⟨v',w',hr,hK⟩:∃v' w',(Builtin.append_ #[t,u] ty #[v,.string s]).run P w=.ok v' w'/\K v' w':=by
  obtain⟨hlen,hv⟩:=ho;have zN:xs.length=n:=by simpa using hlen
  have Bb:(xs++Lib.strCells s).length=(n+s.size)*1:=by rw[List.length_append,zN,Lib.strCells_length,Nat.mul_one]
  have grown:∀nc,n+s.size<=nc->K (.slice (some ⟨w.heap.size,0,none⟩) (n+s.size) nc) (w.drew.alloc (.cells (xs.toArray++(Lib.strCells s).toArray++Builtin.zeroCells (Value.int .u8 0).cells (nc-(n+s.size))) e)):=by
   intro nc hle;refine hk _ _ (some w.heap.size) ⟨Bb,.inr ⟨w.heap.size,nc,(Builtin.zeroCells (Value.int .u8 0).cells (nc-(n+s.size))).toList,rfl,rfl,?_,?_,hle⟩⟩ (AB _ w.drew _).dG ?_
   .rw[show w.heap.size=w.drew.heap.size from rfl,heap_alloc_new w.drew]
    congr 2
    apply Array.ext';simp
   .have cJ:(Value.int IntKind.u8 0).cells.size=1:=rfl;rw[List.length_append,Bb,Array.length_toList,WB,cJ];omega
   .intro b hb;cases hb;exact .inr ⟨rfl,by simp⟩
  rcases hv with⟨rfl,rfl,rfl⟩ |⟨b,cap,rQ,rfl,rfl,hrow,oS,hle⟩
  .have iq:xs=[]:=List.eq_nil_of_length_eq_zero zN;subst iq;by_cases hm:s.size=0
   .have hn:Lib.strCells s=[]:=List.eq_nil_of_length_eq_zero (by rw[Lib.strCells_length];exact hm);have hf:=Lib.run_firstCells_string (P:=P) w 1 s;rw[hm]at hf;refine⟨.slice none 0 0,w,?_,hk _ _ none (by rw[hm,hn];exact dP.nil w e 1) (Mod.refl _ w) (fun b h=>by cases h)⟩;simp[Builtin.append_,run_underlying ht,run_underlying hu,sizeOf,typeInfo,hi,bV,Builtin.lenOf,hm,hf]
   .have hr:=run_append_nil_string (P:=P) w t u ty e i (.int .u8 0) ht hu hi hz s (by omega) (by omega) (by rw [rW];omega);have e1:(s.data.map fun b=>Value.int .u8 b.toNat)=(Lib.strCells s).toArray:=by
     apply Array.ext';simp[Lib.strCells]
    rw[e1]at hr;have MM:=grown (grownCap w s.size 0 e) (by have:=grownCap_ge w s.size 0 e;omega);simp only[Nat.zero_add,List.nil_append,Array.empty_append]at MM;exact⟨_,_,hr,MM⟩
  .have iu:((xs++rQ).toArray:Array Value).toList=xs++rQ:=rfl;have Sd:cap<=(xs++rQ).length:=by simpa using oS
   by_cases xb:n+s.size<=cap
   .have hr:=Lib.run_append_room_string (P:=P) w t u ty e i ht hu hi bV b n cap _ hrow s xb (by rw[List.size_toArray];omega);refine⟨_,_,hr,hk _ _ (some b) ⟨Bb,.inr ⟨b,cap,rQ.drop s.size,rfl,rfl,?_,?_,xb⟩⟩ ⟨by simp,fun k _ hk=>setRow_other w b k _ (fun e=>hk (by simp[e])),rfl,rfl,rfl⟩ (fun b hb=>.inl hb)⟩
    .rw[setRow_heap w b _ _ e _ hrow,iu]
     congr 2
     rw[List.take_left' zN,<- zN,List.drop_append,List.drop_of_length_le (by omega),List.nil_append,show xs.length+s.size-xs.length=s.size by omega]
    .rw[List.length_append,Bb,List.length_drop];have:cap<=xs.length+rQ.length:=by rw[<- List.length_append];exact Sd
     omega
   .have holds:∀ j u,xs[j]? = some u→w.cell? ((⟨b,0,none⟩:Addr).add j)=some u:=fun j u hj=>by
     rw[oa,cell_of hrow];simp only[Nat.zero_add,List.getElem?_toArray];rw[List.getElem?_append_left (List.getElem?_eq_some_iff.1 hj).1];exact hj
    have hr:=Lib.run_append_grow_string (P:=P) w t u ty e i (.int .u8 0) ht hu hi hz ⟨b,0,none⟩ n cap xs (by rw[bV];simpa using zN) holds s (by omega) (by omega) (by rw[rW];exact growslice_fits (by omega) (by omega));exact⟨_,_,hr,grown _ (grownCap_ge w (n+s.size) cap e)⟩
 refine mz fun a ha=>⟨v',w',?_,hK⟩
 simp only[execOp,resolve,invoke,builtin,Sem.run_bind,Sem.run_pure,Result.andThen_ok,List.map_toArray,List.map_cons,List.map_nil,ha sl _ hs,ha x _ hx,hr]
end
end Go.W
end
namespace Go.Proofs.YtekkkjbjnhipkaaGreatDoor
section
open Go Go.W
abbrev Rp(α:Type):=World->(Nat->Prop)->List Value->α->Prop
structure iN {α:Type} (sz:Nat) (Pr:Rp α):Prop where
 len:∀{w:World} {B:Nat->Prop} {r:List Value} {a:α},Pr w B r a->r.length=sz
 one:∀{w:World} {B:Nat->Prop} {r:List Value} {a:α},Pr w B r a->∀u∈r,u.oneCell'=true
 up:∀{w w':World} {S B B':Nat->Prop} {r:List Value} {a:α},Pr w B r a->Mod S w w'->(∀b,B b->¬S b)->(∀b,B b->B' b)->Pr w' B' r a
theorem Se:iN 1 (fun _ _ r s=>ft r s):=⟨fun h=>by rw[h.1];rfl,fun h=>h.one,fun h _ _ _=>h⟩
theorem pA:iN 7 (fun w B r e=>ci w B r e):=⟨fun h=>h.len,fun h=>h.one,fun h a b c=>h.up a b c⟩
theorem ie:iN 11 (fun w B r b=>eh w B r b):=⟨fun h=>by
   obtain⟨tc,ec,rfl,h1,h2,_⟩:=h;simp[h1.len,h2.len],fun h=>h.one,fun h a b c=>by
   obtain⟨tc,ec,e,h1,h2,hn⟩:=h
   exact⟨tc,ec,e,h1.up a b c,h2.up a b c,hn⟩⟩
theorem wu:iN 11 (fun w B r a=>jc w B r a):=⟨fun h=>by
   obtain⟨vv,ec,rfl,h1,h2⟩:=h;simp[h2.len],fun h=>h.one,fun h a b c=>by
   obtain⟨vv,ec,e,h1,h2⟩:=h
   exact⟨vv,ec,e,aX.up h1 a b c (fun _ _ h=>h),h2.up a b c⟩⟩
theorem tn:iN 12 (fun w B r d=>jE w B r d):=⟨fun h=>by
   obtain⟨vp,tc,bc,rfl,l1,l2,h1,h2,h3,_⟩:=h
   simp[l1,l2],fun h=>h.one,fun h a b c=>h.up a b c⟩
abbrev SF(S:Nat->Prop)(fp:Option Nat):Nat->Prop:=fun b=>S b\/fp=some b
structure Gr {α:Type} (S:Nat->Prop) (n0:Nat) (w:World) (T sz:Nat) (v:Value) (Pr:Rp α) (l:List α) (fp:Option Nat):Prop where
 ex:∃rows:List (List Value),dP w T sz v (rows.flatMap id) rows.length fp/\rows.length=l.length/\∀(i:Nat) (r:List Value) (a:α),rows[i]?=some r->l[i]?=some a->Pr w (Out (SF S fp) w) r a
 new:∀b,fp=some b->n0<=b
section
variable {α:Type} {S:Nat->Prop} {n0:Nat} {w w':World} {T sz:Nat} {v:Value} {Pr:Rp α} {l:List α} {fp:Option Nat}
theorem wv:Gr S n0 w T sz (.slice none 0 0) Pr [] none:=⟨⟨[],.nil _ _ _,rfl,fun i r a h=>by simp at h⟩,fun b h=>by cases h⟩
theorem Gr.val(h:Gr S n0 w T sz v Pr l fp):∃a c,v=.slice a l.length c/\l.length<=c:=by
 obtain⟨⟨rows,h1,h2,_⟩,_⟩:=h;obtain⟨a,c,e,h3,_⟩:=h1.val;exact⟨a,c,by rw[e,h2],by omega⟩
theorem Gr.lt(h:Gr S n0 w T sz v Pr l fp):∀b,fp=some b->b<w.heap.size:=by
 obtain⟨⟨rows,h1,_⟩,_⟩:=h;exact fun b hb=>h1.lt hb
theorem Gr.mod(hE:iN sz Pr)(h:Gr S n0 w T sz v Pr l fp){R:Nat->Prop}(hm:Mod R w w')(hR:∀b,R b->S b)(hS:∀b,S b->b<n0):Gr S n0 w' T sz v Pr l fp:=by
 obtain⟨⟨rows,h1,h2,h3⟩,h4⟩:=h;exact⟨⟨rows,h1.mod hm (fun b hb hr=>by have:=h4 b hb;have:=hS b (hR b hr);omega),h2,fun i r a x y=>hE.up (h3 i r a x y) hm (fun b hb hr=>hb.2 (.inl (hR b hr))) (br (hm.aU (fun b hb=>.inl (hR b hb))))⟩,h4⟩
theorem Gr.done(hE:iN sz Pr)(h:Gr S n0 w T sz v Pr l fp)(hS:∀b,S b->b<n0)(hl:l.length<=1099511627776):aX w v sz (Out S w) (Pr w (Out S w)) l:=by
 have bg:=h.lt;obtain⟨⟨rows,h1,h2,h3⟩,h4⟩:=h;have hz:Mod (fun _=>False) w w:=.refl _ _;refine⟨rows,⟨(EC h1 (fun r hr=>?_)).mod hz aA (fun b hb=>⟨bg b hb,fun hs=>by have:=hS b hs;have:=h4 b hb;omega⟩),by omega⟩,h2,fun i r a x y=>hE.up (h3 i r a x y) hz aA (fun b hb=>⟨hb.1,fun hs=>hb.2 (.inl hs)⟩)⟩;obtain⟨i,hi,rfl⟩:=List.getElem_of_mem hr;exact hE.len (h3 i _ _ (Ξ hi) (Ξ (by omega)))
theorem ww{P:Program}{ρ:Go.W.Env}{K:Value→World→Prop}{bytes c:Nat}{zero:Array Value}{s x:O}{r:List Value}{a:α}{xa:Option Addr}(hE:iN sz Pr)(hs:s.ev ρ=some v)(hg:Gr S n0 w T sz v Pr l fp)(hx:x.ev ρ=some (.slice xa 1 c))(oM:xa≠none)
   (hr:sG w xa sz r) (hp:Pr w (Out (SF S fp) w) r a) (hz:zero.size=sz) (hl:l.length<=1099511627776) (hm:(l.length+1)*bytes<=140737488355328) (hn:n0<=w.heap.size)
   (hk:∀v' w' dB,Gr S n0 w' T sz v' Pr (l++[a]) dB->Mod (fun b=>fp=some b) w w'->(∀b,dB=some b->fp=some b\/b=w.heap.size/\b<w'.heap.size)->K v' w'):Go.W.E.wp P w ρ K (.ap T sz bytes zero s x):=by
 obtain⟨⟨rows,h1,h2,h3⟩,h4⟩:=hg;rw[<- h2]at hm;refine sN (m:=1) (news:=r) hs h1 hx (fun h=>absurd h oM) (by rw[Nat.one_mul];exact hr) (hE.one hp) hz hm (by omega) ?_;intro v' w' dB ho yZ hf
 have up:∀b,Out (SF S fp) w b->Out (SF S dB) w' b:=fun b hb=>⟨Nat.lt_of_lt_of_le hb.1 yZ.size,fun hh=>by
  rcases hh with h |h
  ·exact hb.2 (.inl h)
  ·rcases hf b h with h |⟨h,_⟩
   ·exact hb.2 (.inr h)
   ·have:=hb.1;omega⟩
 have key:∀r a,Pr w (Out (SF S fp) w) r a->Pr w' (Out (SF S dB) w') r a:=fun r a h=>hE.up h yZ (fun b hb hh=>hb.2 (.inr hh)) up
 refine hk v' w' dB ⟨⟨rows++[r],by rw[Hj,List.length_append];exact ho,by simp[h2],fun i r' a' x y=>?_⟩,fun b hb=>?_⟩ yZ hf
 .rcases Nat.lt_or_ge i rows.length with h |h
  .rw[List.getElem?_append_left h]at x;rw[List.getElem?_append_left (by omega)]at y;exact key _ _ (h3 i _ _ x y)
  .rw [List.getElem?_append_right h] at x;rw [List.getElem?_append_right (by omega)] at y;have e1:i - rows.length=0:=by
    have:=(List.getElem?_eq_some_iff.1 x).1;simp at this;omega
   have e2:i-l.length=0:=by omega
   rw[e1]at x;rw[e2]at y;cases x;cases y;exact key _ _ hp
 .rcases hf b hb with h |⟨h,_⟩
  .exact h4 b h
  .omega
end
end
section
open Go Go.W
theorem gV:iN 3 (fun w B r t=>aR w B r t):=⟨fun h=>h.len,fun h=>h.one,fun h a b c=>h.up a b c⟩
theorem ajY{sz:Nat}{rows:List (List Value)}(hr:∀r∈rows,r.length=sz){k:Nat}(hk:k<rows.length){o n:Nat}(h:o+n<=sz):((rows.flatMap id).drop (k*sz+o)).take n=(rows[k].drop o).take n:=by
 have e:=Qg hr hk;rw[<- e,List.drop_take,List.take_take,List.drop_drop,Nat.min_eq_left (by omega)]
theorem Sh{sz:Nat}:∀ (rows:List (List Value)),(∀ r∈rows,r.length=sz)→∀ (k:Nat) (hk:k < rows.length) (o:Nat) (vs:List Value),o+vs.length≤sz →
   (rows.flatMap id).take (k*sz+o)++vs++(rows.flatMap id).drop (k*sz+o+vs.length)=(rows.set k (rows[k].take o++vs++rows[k].drop (o+vs.length))).flatMap id
 |[],_,k,hk,_,_,_=>absurd hk (by simp)
 |r::rows,hr,0,_,o,vs,h=>by
  have hl:=hr r (by simp);simp only[List.flatMap_cons,id_eq,Nat.zero_mul,Nat.zero_add,List.set_cons_zero,List.getElem_cons_zero];rw[List.take_append_of_le_length (by omega),List.drop_append_of_le_length (by omega)];simp
 |r::rows,hr,k+1,hk,o,vs,h=>by
  have hl:=hr r (by simp);have ih:=Sh rows (fun x hx=>hr x (by simp[hx])) k (by simpa using hk) o vs h;simp only[List.flatMap_cons,id_eq,List.set_cons_succ,List.getElem_cons_succ];rw[<- ih,show(k+1)*sz+o=r.length+(k*sz+o) by rw[Nat.succ_mul];omega,show r.length+(k*sz+o)+vs.length=r.length+(k*sz+o+vs.length) by omega,List.take_length_add_append,List.drop_append,List.drop_of_length_le (by omega),Nat.add_sub_cancel_left];simp
section
variable {α:Type} {S:Nat->Prop} {n0:Nat} {w w':World} {T sz:Nat} {v:Value} {Pr:Rp α} {l:List α} {fp:Option Nat}
theorem Gr.row(hE:iN sz Pr)(h:Gr S n0 w T sz v Pr l fp){i:Nat}(hi:i < l.length):∃ b c r,v = .slice (some ⟨b,0,none⟩) l.length c∧fp=some b∧r.length=sz∧Pr w (Out (SF S fp) w) r l[i] ∧
   (∀o n,o+n<=sz->f' w n (.pointer (some ⟨b,i*sz+o,none⟩))=some (.agg ((r.drop o).take n).toArray))/\(∀o (ho:o<r.length),w.cell? ⟨b,i*sz+o,none⟩=some r[o])/\∃T',∃cs:List Value,w.heap[b]?=some (.cells cs.toArray T' (0,0)):=by
 obtain⟨⟨rows,h1,h2,h3⟩,_⟩:=h;have hr:∀r∈rows,r.length=sz:=fun r hr=>by
  obtain⟨j,hj,rfl⟩:=List.getElem_of_mem hr;exact hE.len (h3 j _ _ (Ξ hj) (Ξ (by omega)))
 have dZ:i<rows.length:=by omega
 obtain⟨b,c,tl,rfl,hf,hb,_,_⟩:=h1.pos (by omega);have hlen:=h1.1;have bV:(i+1)*sz<=rows.length*sz:=Nat.mul_le_mul_right _ dZ;rw[Nat.succ_mul]at bV;refine⟨b,c,rows[i],by rw[h2],hf,hr _ (List.getElem_mem dZ),h3 i _ _ (Ξ dZ) (Ξ hi),fun o n Kr=>?_,fun o ho=>?_,T,_,hb⟩
 .have:=jm (off:=i*sz+o) (n:=n) hb (by rw[List.length_append];omega);rw[List.drop_append_of_le_length (by omega),List.take_append_of_le_length (by rw[List.length_drop];omega),ajY hr dZ Kr]at this;exact this
 .have hz:=hr _ (List.getElem_mem dZ);have e:=KR rows hr i dZ o (by omega);rw[Ξ ho]at e;rw[World.cell?_of_block rfl];show(match w.heap[b]? with |some (.cells cs _ _)=>_ |_=>none)=_;rw[hb];simp only[List.getElem?_toArray];rw[List.getElem?_append_left (by rw[hlen];omega),e];rfl
theorem Fq{P:Program}{ρ:Go.W.Env}{K:Value→World→Prop}{n i off:Nat}{x y:O}{b:Nat}{u:Value}{vs:List Value}{a:α}(hE:iN sz Pr)(hg:Gr S n0 w T sz v Pr l fp)(hi:i < l.length)(hf:fp=some b)
   (hx:x.ev ρ=some (.pointer (some ⟨b,i*sz+off,none⟩))) (hy:y.ev ρ=some u) (hu:u.cells=vs.toArray) (hn:vs.length=n) (ho:off+n<=sz)
   (hp:∀r,r.length=sz->Pr w (Out (SF S fp) w) r l[i]->Pr w (Out (SF S fp) w) (r.take off++vs++r.drop (off+n)) a)
   (hk:∀w',Gr S n0 w' T sz v Pr (l.set i a) fp->Mod (· = b) w w'->w'.heap.size=w.heap.size->K undef w'):Go.W.E.wp P w ρ K (.st n x y):=by
 obtain⟨⟨rows,h1,h2,h3⟩,h4⟩:=hg;subst hn;have hr:∀r∈rows,r.length=sz:=fun r hr=>by
  obtain⟨j,hj,rfl⟩:=List.getElem_of_mem hr;exact hE.len (h3 j _ _ (Ξ hj) (Ξ (by omega)))
 have dZ:i<rows.length:=by omega
 obtain⟨b',c,tl,rfl,ii,hb,gp,gv⟩:=h1.pos (by omega);rw[hf]at ii;cases ii;have hlen:=h1.1;have bV:(i+1)*sz<=rows.length*sz:=Nat.mul_le_mul_right _ dZ;rw[Nat.succ_mul]at bV;have kV:=hp rows[i] (hr _ (List.getElem_mem dZ)) (h3 i _ _ (Ξ dZ) (Ξ hi));have iS:=hE.one kV;refine KA hx hy hb (by rw[hu];simp) (by rw[List.size_toArray,List.length_append];omega) (fun z hz=>iS z (by rw[hu]at hz;simp at hz;simp[hz])) ?_;intro w' ky hm hs;rw[hu]at ky;simp only at ky;have e:sp (rows.flatMap id++tl).toArray (i*sz+off) vs=((rows.set i (rows[i].take off++vs++rows[i].drop (off+vs.length))).flatMap id++tl).toArray:=by
  rw[Qf (by omega),Sh rows hr i dZ off vs ho]
 rw[e]at ky;have gX:((rows.set i (rows[i].take off++vs++rows[i].drop (off+vs.length))).flatMap id).length=(rows.flatMap id).length:=by
  rw[<- Sh rows hr i dZ off vs ho];simp only[List.length_append,List.length_take,List.length_drop];omega
 have up:∀r a,Pr w (Out (SF S fp) w) r a->Pr w' (Out (SF S fp) w') r a:=fun r a h=>hE.up h hm (fun c hc hh=>hc.2 (.inr (by rw[hf,hh]))) (br (hm.aU (fun c hc=>.inr (by rw[hf,hc]))))
 refine hk w' ⟨⟨rows.set i (rows[i].take off++vs++rows[i].drop (off+vs.length)),?_,by simp[h2],fun j r a' p q=>?_⟩,h4⟩ hm hs
 .rw[List.length_set];refine⟨by rw[gX];exact hlen,.inr ⟨b,c,tl,rfl,hf,ky,?_,gp⟩⟩;rw[List.length_append,gX];rw[List.length_append]at gv;exact gv
 .rcases Nat.lt_trichotomy i j with h |h |h
  .rw[List.getElem?_set_ne (by omega)]at p q;exact up _ _ (h3 j _ _ p q)
  .subst h;rw[List.getElem?_set_self (by omega)]at p q;cases p;cases q;exact up _ _ kV
  .rw[List.getElem?_set_ne (by omega)]at p q;exact up _ _ (h3 j _ _ p q)
end
end
section
open Go Go.W
theorem aaf(t:Ty):∀{w:World} {B:Nat->Prop} {cs:List Value},aR w B cs t->bu Tryz.prog 57 [.agg cs.toArray] w fun r w'=>r=I t.size/\Mod (fun _=>False) w w':=by
 induction t using Ty.ind with
 |h t ih=>
 intro w B cs h;obtain⟨v,rfl,hl⟩:=h.cells;obtain⟨a,c,rfl⟩:=bq hl;refine γ Tryz.f57 ?_;refine σ ?_;refine bZ rfl ?_;intro w1 au ak _;simp only[go_sem,simprocAttr,cell_of au,Value.cells];refine eW t.args.length (fun k ρ w'=>Mod (fun _=>False) w w'/\k<=t.args.length/\∃n,t.size=ly (t.args.drop k) n/\ρ=[(3,I n),(7,.slice a t.args.length c),(8,I t.args.length),(9,I k)]) ⟨ak,by omega,1,t.size_eq,rfl⟩ (dI hl) ?_ ?_ (by decide) ?_
 .rintro k _ w2 ⟨ai,hk,n,he,rfl⟩;exact⟨rfl,rfl,hk⟩
 .rintro k _ w2 ⟨ai,_,n,he,rfl⟩ hk;obtain⟨ad,c,r,e,hr,cG,cR,_⟩:=dT (hl.mod ai aA (fun _ _ h=>h.mod ai aA)) hk;cases e;have b1:(0:Int)<=k/\(k:Int)<t.args.length:=by omega
  simp only[go_sem,simprocAttr,bG,bH,b1,cR];refine eC rfl cG hr.one ?_;intro w3 aS aw _;simp only[go_sem,simprocAttr,aE aS cG];refine δ (by rfl) (ih _ (List.getElem_mem hk) (hr.mod aw aA)) ?_;rintro _ w4 ⟨rfl,aD⟩;refine σ ?_;exact⟨ai.trans (aw.trans aD),hk,_,he.trans (Qb n hk),rfl⟩
 .rintro _ w2 ⟨ai,_,n,he,rfl⟩;refine σ ?_;rw[he,List.drop_length];exact⟨rfl,ai⟩
theorem Si:Fn 39:=⟨_,rfl,rfl,rfl⟩
open Classical in
theorem aag(a:Ty):∀{w:World} {B B':Nat->Prop} {cs ds:List Value} {t:Ty},aR w B cs a->aR w B' ds t->bu Tryz.prog 39 [.agg cs.toArray,.agg ds.toArray] w fun r w'=>r=.bool (fY a t)/\Mod (fun _=>False) w w':=by
 induction a using Ty.ind with
 |h a ih=>
 intro w B B' cs ds t ha ht;obtain⟨va,rfl,EO⟩:=ha.cells;obtain⟨vt,rfl,bg⟩:=ht.cells;refine γ Tryz.f39 ?_;refine σ ?_;refine bZ rfl ?_;intro w1 au ak cw;refine σ ?_;refine bZ rfl ?_;intro w2 az ai bU;have au:=ai.at au Ψ;have hm:=ak.trans ai;simp only[go_sem,simprocAttr,cell_of au,cell_of az,Value.cells];have bad:¬(a=t)->Value.bool false=Value.bool (fY a t):=fun h=>congrArg _ (Eq.symm (decide_eq_false h))
 cases h1:a.kind == t.kind with
 |false=>refine σ ?_;exact⟨bad (fun e=>by subst e;simp at h1),hm⟩
 |true=>
  simp only[go_sem,simprocAttr,cell_of au,cell_of az,Value.cells];cases h2:a.name.toList == t.name.toList with
  |false=>refine σ ?_;exact⟨bad (fun e=>by subst e;simp at h2),hm⟩
  |true=>
   simp only[go_sem,simprocAttr,cell_of au,cell_of az,Value.cells];refine δ (by rfl) (K7 Si ih (EO.mod hm aA (fun _ _ h=>h.mod hm aA)) (bg.mod hm aA (fun _ _ h=>h.mod hm aA))) ?_;rintro _ w3 ⟨rfl,aw⟩;refine σ ?_;refine⟨?_,hm.trans aw⟩;refine congrArg _ ?_;have kT:a.kind=t.kind:=by simpa using h1
   have jD:a.name=t.name:=by rw[EB]at h2;simpa using h2
   unfold fY;by_cases h3:a.args=t.args
   .rw[decide_eq_true h3,decide_eq_true (Xw kT jD h3)]
   .rw[decide_eq_false h3,decide_eq_false (fun e=>h3 (by rw[e]))]
theorem MN{w:World}{B:Nat->Prop}{v:Value}{l:List Ty}(h:aX w v 3 B (aR w B) l)(k:Int)(n:ByteArray):aR w B [I k,.string n,v] (.mk k n l):=by
 obtain⟨rows,h1,h2,h3⟩:=h;exact .mk h1 h2 h3
theorem ajZ(t:Ty):Ty.mk t.kind t.name t.args=t:=by cases t;rfl
theorem aj0{α:Type}{Pr:Rp α}{sz T:Nat}{S S1:Nat→Prop}{w w':World}{v v':Value}{rows:List (List Value)}{l:List α}{fp:Option Nat}(hE:iN sz Pr)(hl:rows.length=l.length)(he:∀ (i:Nat) (r:List Value) (t:α),rows[i]? = some r→l[i]? = some t→Pr w (Out S w) r t)
   (ho:dP w' T sz v' (rows.flatMap id) rows.length fp) (hf:∀b,fp=some b->w.heap.size<=b) (hm:Mod (fun _=>False) w w') (hs:∀b,b<w.heap.size->S1 b->S b):Gr S1 w.heap.size w' T sz v' Pr l fp:=
 ⟨⟨rows,ho,hl,fun i r t a b=>hE.up (he i r t a b) hm aA (fun c hc=>⟨Nat.lt_of_lt_of_le hc.1 hm.size,fun hh=>by
  rcases hh with h |h
  ·exact hc.2 (hs c hc.1 h)
  ·have:=hf c h;have:=hc.1;omega⟩)⟩,hf⟩
theorem aah(t:Ty):∀ {w:World} {S:Nat→Prop} {cs:List Value},aR w (Out S w) cs t→(∀ b,S b→b < w.heap.size) →
   bu Tryz.prog 33 [.agg cs.toArray] w fun r w'=>(∃fg,r=.agg (fg:List Value).toArray/\aR w' (Out S w') fg t)/\Mod (fun _=>False) w w':=by
 induction t using Ty.ind with
 |h t ih=>
 intro w S cs h hS;obtain⟨v,rfl,rows,lz,hl,he⟩:=h.cells;refine γ Tryz.f33 ?_;refine σ ?_;refine bZ rfl ?_;intro w1 au ak cw;refine σ ?_;refine cX ?_;intro w2 az ai bU;have au:=ai.at au Ψ;have bo:=ak.trans ai;simp only[go_sem,simprocAttr,cell_of au,Value.cells];refine δ (by rfl) (Qj (lz.mod bo aA) (He hl he)) ?_;rintro v3 w3 ⟨fp,ho,hf,aw⟩;have au:=aw.at au Ψ;have az:=aw.at az Ψ;have bz:=bo.trans aw;obtain⟨S1,nA⟩:∃S1:Nat->Prop,S1=fun b=>S b\/b=w.heap.size\/b=w1.heap.size:=⟨_,rfl⟩
 have q1:∀b,S1 b->b<w2.heap.size:=fun b hb=>by
  rw[nA]at hb;have:=bo.size;rcases hb with h |h |h
  .have:=hS b h;omega
  .omega
  .omega
 have hg:Gr S1 w2.heap.size w3 dH 3 v3 (fun w B r t=>aR w B r t) t.args fp:=aj0 (S:=S1) (w:=w2) (v:=v) gV hl (fun i r t a b=>(he i r t a b).up bo aA (fun c hc=>⟨by have:=hc.1;have:=bo.size;omega,fun hh=>by
  rw[nA]at hh;have:=hc.1;rcases hh with h |h |h
  ·exact hc.2 h
  ·omega
  ·omega⟩)) ho hf aw (fun _ _ h=>h)
 obtain⟨a3,c3,rfl,_⟩:=hg.val;refine σ ?_;refine eK rfl rfl au rfl (by simp) ?_;intro w4 bm aD dL;have az:=aD.at az (by omega);have xW:=hg.mod gV aD (fun b hb=>by rw[nA];exact .inr (.inl hb)) q1;have eX:Mod (fun _=>False) w w4:=bz.step aD (fun x hx hl=>by omega);have hlen:=dI (xW.done gV q1 (by have:=lz.2;omega));have z3:=aw.size;simp only[go_sem,simprocAttr,cell_of bm,Value.cells];refine eW t.args.length (fun k ρ w'=>Mod (fun _=>False) w w'/\k<=t.args.length/\Gr S1 w2.heap.size w' dH 3 (.slice a3 t.args.length c3) (fun w B r t=>aR w B r t) t.args fp/\w'.heap[w.heap.size]?=w4.heap[w.heap.size]?/\w'.heap[w1.heap.size]?=w4.heap[w1.heap.size]?/\ρ=[(1,ptr w.heap.size),(2,ptr w1.heap.size),(10,I t.args.length),(11,I k)]) ⟨eX,by omega,xW,rfl,rfl,rfl⟩ hlen ?_ ?_ (by decide) ?_
 .rintro k _ w2 ⟨_,hk,_,_,_,rfl⟩;exact⟨rfl,rfl,hk⟩
 .rintro k _ w5 ⟨aH,_,hh,cP,gS,rfl⟩ hk;obtain⟨b,c,r,e,rfl,gi,fO,eu,_⟩:=hh.row gV hk;cases e;have b1:(0:Int)<=k/\(k:Int)<t.args.length:=by omega
  have bY:=cP.trans bm;have eu:=eu 0 3 (by omega);rw[List.drop_zero,List.take_of_length_le (by omega),Nat.add_zero]at eu;simp only[go_sem,simprocAttr,bG,bH,cell_of bY,Value.cells,b1,cY,eu];refine aL (by rfl) ?_
  refine(ih _ (List.getElem_mem hk) (S:=SF S1 (some b)) (fO.up (Mod.drew (.refl (fun _=>False) w5)) aA (fun _ h=>h)) (fun x hx=>by
   have:w5.drew.heap.size=w5.heap.size:=rfl;rcases hx with h |h
   ·have:=q1 x h;have:=aH.size;have:=hh.lt b rfl;have:=hh.new b rfl;omega
   ·have:=hh.lt x h;omega)).mono ?_
  rintro _ w6 ⟨⟨cs,rfl,bT⟩,aG⟩;refine σ ?_;have hh6:=hh.mod gV aG.dG (fun _ h=>h.elim) q1;refine⟨aG.bO _ (bP bY) Ψ,?_⟩;refine Fq (u:=.agg cs.toArray) (vs:=cs) (off:=0) (i:=k) (a:=t.args[k]) gV hh6 hk rfl rfl rfl rfl bT.len (by omega) (fun r hr _=>?_) ?_
  .rw[List.take_zero,List.nil_append,List.drop_of_length_le (by omega),List.append_nil];exact bT
  intro w7 yX aO jn;rw[List.set_getElem_self]at yX;have EM:=hh.new b rfl;have bV:=aG.size;have hd:w5.drew.heap.size=w5.heap.size:=rfl;have l5:=bP bY;have l2:=bP (gS.trans az);refine⟨(aH.trans aG.dG).step aO (fun x hx hl=>by have:=bo.size;omega),hk,yX,?_,?_⟩
  .rw[aO.bO _ (by omega) (by omega),aG.bO _ l5 Ψ];exact cP
  .rw[aO.bO _ (by omega) (by omega),aG.bO _ l2 Ψ];exact gS
 .rintro _ w5 ⟨aH,_,hh,cP,gS,rfl⟩;have bY:w5.heap[w.heap.size]?=some (.cells [I t.kind,.string t.name,.slice a3 t.args.length c3].toArray dH (0,0)):=cP.trans bm;have kP:=hh.done gV q1 (by have:=lz.2;omega);simp only[go_sem,simprocAttr,aE (n:=3) bY rfl];refine bN (cs:=[I 0,.string bM,.slice none 0 0]) rfl rfl (gS.trans az) rfl rfl (aP rfl (aP rfl (aP rfl dq))) ?_;intro w6 cH aG fw;have Ih:Mod S1 w5 w6:=aG.aU (fun b hb=>by rw[nA];exact .inr (.inr hb));have aj1:aX w6 (.slice a3 t.args.length c3) 3 (Out S w6) (aR w6 (Out S w6)) t.args:=aX.up kP Ih aW (fun b hb=>⟨by have:=hb.1;omega,fun hh=>hb.2 (by rw[nA];exact .inl hh)⟩) (fun r t h=>aR.up h Ih aW (fun b hb=>⟨by have:=hb.1;omega,fun hh=>hb.2 (by rw[nA];exact .inl hh)⟩));simp only[go_sem,simprocAttr,aE (n:=3) cH rfl];refine⟨⟨_,rfl,?_⟩,aH.step aG (fun x hx hl=>by have:=ak.size;omega)⟩;have:=MN aj1 t.kind t.name;rw[ajZ]at this;exact this
end
section
open Go Go.W
theorem pB{bs:List Nat}{b:Nat}:∀(c d:Nat),bs[c]?=some d->(bs++[b])[c]?=some d:=fun c d h=>by
 rw[List.getElem?_append_left (List.getElem?_eq_some_iff.1 h).1];exact h
theorem dE.new{w0 w:World}{S:Nat→Prop}{r md mf b:Nat}{bs:List Nat}{X:Cx}{m:Rn}{x:Cl}{v:Value}(h:dE w0 S r md mf bs X m)(hm:Mod (fun _=>False) w0 w)(hb:w.heap[b]? = some (.cells [v].toArray R5 (0,0)))(kV:w0.heap.size≤b)(hv:kL w (Out (aY S b) w) (bs++[b]) x v) :
   dE w (aY S b) r md mf (bs++[b]) X (m.new x):=by
 obtain⟨vt,vf,dY,cO,dm,dv,h⟩:=h;obtain⟨n1,n2,n3,n4,n5,n6,n7,n8,n9⟩:=h.ne;have cA:Mod S w0 w:=aq hm;have ga:=fM cA (fZ (S:=S) kV);have oG:∀y∈mn r md mf bs dm dv,y<w0.heap.size:=fun y hy=>h.lt y (h.aT y hy)
 have ny:=bP hb
 refine⟨vt,vf,dY,cO,dm,dv,hm.at h.box Ψ,h.told.mod hm (fun _ _ h=>h),h.items,h.tm.mod hm (fun _ _ h=>h),h.bA.imp (fun _ _ x=>x.up cA aW ga pB),?_,?_,?_,?_,?_,
  h.aj.mod hm Ψ (fun _ _ x=>by obtain⟨y,e,h⟩:=x;exact⟨y,e,pB _ _ h⟩),h.fields.mod hm Ψ (fun _ _ x=>x),h.steps,fun p hp=>by
   obtain⟨a1,a2,a3⟩:=h.kept p hp;have a4:=bP a1;simp only[mn,List.mem_cons,List.mem_append,Option.mem_toList,not_or]at a3 ⊢;obtain⟨c1,c2,c3,⟨c4,c5⟩,c6⟩:=a3
   exact⟨hm.at a1 Ψ,.inl a2,c1,c2,c3,⟨c4,c5⟩,c6,fun e=>by omega,by simp⟩⟩
 .refine R6 ?_ ⟨n1,n2,n3⟩ n4 n5 (fun y hy=>?_) n7 (fun a ha eO=>?_) (fun a ha eO=>?_)
  .rw[List.nodup_append]
   exact⟨h.MF,by simp,fun a ha c hc e=>by
    rw[List.mem_singleton.1 hc]at e
    have:=oG a (by simp[ha]);omega⟩
  .rcases List.mem_append.1 hy with hy |hy
   .exact n6 y hy
   .rw[List.mem_singleton.1 hy];have:=oG r (by simp);have:=oG md (by simp);have:=oG mf (by simp);exact⟨by omega,by omega,by omega⟩
  .rcases List.mem_append.1 eO with hy |hy
   .exact n8 a ha hy
   .have:=oG a (by simp[ha]);have:=List.mem_singleton.1 hy;omega
  .rcases List.mem_append.1 eO with hy |hy
   .exact n9 a ha hy
   .have:=oG a (by simp[ha]);have:=List.mem_singleton.1 hy;omega
 .intro y hy;simp only[mn,List.mem_cons,List.mem_append,Option.mem_toList,List.not_mem_nil,or_false]at hy;rcases hy with rfl |rfl |rfl |(h1 |h1) |(h1 |h1)
  .exact .inl (h.aT _ (by simp))
  .exact .inl (h.aT _ (by simp))
  .exact .inl (h.aT _ (by simp))
  .exact .inl (h.aT _ (by simp[h1]))
  .exact .inl (h.aT _ (by simp[h1]))
  .exact .inl (h.aT _ (by simp[h1]))
  .exact .inr h1
 .intro y hy;rcases hy with h1 |h1
  .exact Nat.lt_of_lt_of_le (h.lt y h1) hm.size
  .omega
 .show(bs++[b]).length=(m.cells++[x]).length;rw[List.length_append,List.length_append,h.len];try rfl
 .intro i y z hi hz;have hz:(m.cells++[x])[i]?=some z:=hz;rcases Nat.lt_or_ge i bs.length with bg |hge
  .rw[List.getElem?_append_left bg]at hi;rw[List.getElem?_append_left (by rw[<- h.len];exact bg)]at hz;obtain⟨u,h1,h2⟩:=h.cell i y z hi hz;exact⟨u,hm.at h1 Ψ,h2.up cA aW ga pB⟩
  .rw [List.getElem?_append_right hge] at hi;rw [List.getElem?_append_right (by rw [← h.len];exact hge)] at hz;have e0:i - bs.length=0:=by
    rcases Nat.eq_zero_or_pos (i-bs.length)with e |e
    .exact e
    .rw[List.getElem?_eq_none (by simp;omega)]at hi;cases hi
   rw[e0]at hi;rw[<- h.len,e0]at hz;simp only[List.getElem?_cons_zero,Option.some.injEq]at hi hz;subst hi hz;exact⟨v,hb,hv⟩
end
section
open Go Go.W
theorem jz.one{w:World}{B:Nat->Prop}{bs:List Nat}{nm:dS}{v:Value}(h:jz w B bs nm v):Go.W.One v:=by
 cases nm with
 |nil=>cases h;rfl
 |cons p l=>obtain⟨_,_,_,rfl,_⟩:=h;rfl
theorem aj2{w:World}{S:Nat→Prop}{r md mf:Nat}{bs:List Nat}{X:Cx}{m:Rn}{e:Ex}{nm:dS}{x:Cl}{u:Value}{cs:List Value}{dx:R3}(h:dE w S r md mf bs X m)(hf:qv w (Out S w) bs 2 e nm cs)(hu:kL w (Out S w) bs x u)(hv:x.rm=true)(a7:iM m nm x e.alts=some dx) :
   bu Tryz.prog 89 [ptr r,.agg cs.toArray,u] w fun v w'=>qx w w' S r md mf bs X v dx/\Mod S w w':=by
 obtain⟨ve,vn,rfl,⟨ae,re,rfl,kZ,hex⟩,hn⟩:=hf;obtain⟨vt,va,vb,vl,rfl,ht,ha,hb,hl⟩:=hex.parts;obtain⟨al,cl,rfl⟩:=bq hl;have iH:=dI hl;have hS:=h;obtain⟨_,_,_,_,_,_,hh⟩:=hS;have Sr:∀y,y=r->S y:=fun y hy=>by rw[hy];exact hh.aT _ (by simp)
 obtain⟨T,z,rfl,_⟩:=Fo hu hv;refine γ Tryz.f89 ?_;refine eA (fun ρ w1=>ρ=[(0,ptr r),(2,.iface T z),(4,ptr w.heap.size)]/\w1.heap[w.heap.size]?=some (.cells [I 2,.pointer none,.pointer (some ae),vn,I 0].toArray 159 (0,0))/\Mod (fun _=>False) w w1) ?_ ?_
 ·(try simp only[go_sem,simprocAttr]);refine bZ rfl ?_;intro w1 au ak cw;(try simp only[go_sem,simprocAttr]);exact⟨au,ak⟩
 rintro _ w1 ⟨rfl,au,ak⟩;refine eA (fun ρ w'=>w1=w'/\∃t10,ρ=[(0,ptr r),(2,.iface T z),(4,ptr w.heap.size),(10,t10),(11,.bool (mj x).isSome)]/\∀k,mj x=some k->∃a vs,t10=.pointer (some a)/\iU w (Out S w) a [.string k.1,vs]/\zJ w (Out S w) bs k.2 vs) ?_ ?_
 ·(try simp only[go_sem,simprocAttr]);refine mN (D:=.pointer 140) rfl rfl rfl (Tryz.zeroValue137 _) (fun hT=>?_) (fun hT=>?_)
  ·(try simp only[go_sem,simprocAttr]);refine⟨z,?_,?_⟩
   .cases x with
    |bE k fs=>rfl
    |num n=>cases hu;cases hT
    |jN e' ru=>obtain⟨a,_,_,e,_⟩:=hu;cases e;cases hT
    |iL n l fs=>obtain⟨a,_,e,_⟩:=hu;cases e;cases hT
    |wait e' ru=>cases hv
    |busy=>cases hv
    |emp=>cases hv
   .intro k hk;cases x with
    |bE k' fs=>cases hk;obtain⟨a,vs,e,h1,h2⟩:=hu;cases e;exact⟨a,vs,rfl,h1,h2⟩
    |_=>cases hk
  ·(try simp only [go_sem,simprocAttr]);have aj3:mj x=none:=by
    cases x with
    |bE k fs=>obtain⟨a,_,e,_⟩:=hu;cases e;exact absurd rfl hT
    |_=>rfl
   rw[aj3];exact⟨_,rfl,fun k hk=>by cases hk⟩
 rintro _ _ ⟨rfl,t10,rfl,mG⟩;refine eA (fun ρ w'=>w1=w'/\ρ=[(0,ptr r),(4,ptr w.heap.size),(10,t10),(11,.bool (mj x).isSome),(12,I (numOf x))]) ?_ ?_
 ·(try simp only[go_sem,simprocAttr]);refine mN (D:=.int .i64) rfl rfl rfl (Tryz.zeroValue141 _) (fun hT=>?_) (fun hT=>?_)
  ·(try simp only[go_sem,simprocAttr]);cases x with
   |num n=>cases hu;rfl
   |bE k fs=>obtain⟨a,_,e,_⟩:=hu;cases e;cases hT
   |jN e' ru=>obtain⟨a,_,_,e,_⟩:=hu;cases e;cases hT
   |iL n l fs=>obtain⟨a,_,e,_⟩:=hu;cases e;cases hT
   |wait e' ru=>cases hv
   |busy=>cases hv
   |emp=>cases hv
  ·(try simp only[go_sem,simprocAttr]);cases x with
   |num n=>cases hu;exact absurd rfl hT
   |_=>rfl
 rintro _ _ ⟨rfl,rfl⟩;have k2:w1.cell? ⟨w.heap.size,2,none⟩=some (.pointer (some ae)):=by rw[cell_of au];try rfl
 have k3:w1.cell? ⟨w.heap.size,3,none⟩=some vn:=by rw[cell_of au];try rfl
 have aj4:=kZ.up (aq ak (S:=S)) aW (br (aq ak));have k6:w1.cell? ⟨ae.block,ae.off+6,none⟩=some (.slice al e.alts.length cl):=aj4.at (k:=6) (by simp);(try simp only[go_sem,simprocAttr,k2,k6])
 refine io (fun z' ρ w'=>Mod (fun _=>False) w1 w'/\∃i:Nat,z'=e.alts.length-i/\i<=e.alts.length/\iM m nm x (e.alts.drop i)=some dx /\
  ρ=[(0,ptr r),(4,ptr w.heap.size),(10,t10),(11,.bool (mj x).isSome),(12,I (numOf x)),(34,I e.alts.length),(35,I i)]) e.alts.length ⟨.refl _ _,0,by omega,by omega,a7,rfl⟩ ?_
 rintro z' _ w2 ⟨ai,i,rfl,hi,a7,rfl⟩;have bo:Mod (fun _=>False) w w2:=ak.trans ai;by_cases q:i<e.alts.length
 .have b1:decide ((i:Int)<e.alts.length)=true:=by simpa using q
  have k2:w2.cell? ⟨w.heap.size,2,none⟩=some (.pointer (some ae)):=by rw[cell_of (ai.at au Ψ)];try rfl
  have k3:w2.cell? ⟨w.heap.size,3,none⟩=some vn:=by rw[cell_of (ai.at au Ψ)];try rfl
  have Ii:=kZ.up (aq bo (S:=S)) aW (br (aq bo));have k6:w2.cell? ⟨ae.block,ae.off+6,none⟩=some (.slice al e.alts.length cl):=Ii.at (k:=6) (by simp);have gX:=hl.up (aq bo (S:=S)) aW (br (aq bo)) (fun _ _ h=>h.up (aq bo (S:=S)) aW (br (aq bo)));obtain⟨ad,c,vv,ec,e1,bT,mK,QP,xE⟩:=ajM gX q;obtain⟨rfl,-,-⟩:=cU e1;have gB:=ajL (m:=m) (v:=nm) (x:=x) q;have p1:(0:Int)<=i/\(i:Int)<e.alts.length:=by omega
  have n0:w2.cell? (ad.add (i*11))=some (I e.alts[i].kind):=bT.c0 (by simp);have n1:w2.cell? ⟨(ad.add (i*11)).block,(ad.add (i*11)).off+1,none⟩=some (.string e.alts[i].bE):=bT.at (k:=1) (by simp);have n2:w2.cell? ⟨(ad.add (i*11)).block,(ad.add (i*11)).off+2,none⟩=some (I e.alts[i].num):=bT.at (k:=2) (by simp);have n3:w2.cell? ⟨(ad.add (i*11)).block,(ad.add (i*11)).off+3,none⟩=some vv:=bT.at (k:=3) (by simp);have iS:=hn.one;have body:qu w2 (Out S w2) (.pointer (some ⟨(ad.add (i*11)).block,(ad.add (i*11)).off+4,none⟩)) e.alts[i].body:=⟨_,ec,rfl,bT.part (fun j hj=>by rw[show 4+j=j+1+1+1+1 by omega];simp only[List.getElem?_cons_succ];exact Ξ hj) (by decide),QP⟩;have gy:=h.aI bo;have vz:=hn.up (aq bo (S:=S)) aW (br (aq bo)) (fun _ _ h=>h);have here:iM m nm x (e.alts.drop i)=some (some (.go e.alts[i].body nm),m)->qx w w2.drew S r md mf bs X (.tuple #[.pointer (some ⟨(ad.add (i*11)).block,(ad.add (i*11)).off+4,none⟩),vn,.nilIface,.bool true]) dx/\Mod S w w2.drew:=fun hc=>by
   rw[hc]at a7;cases a7;have d2:Mod (fun _=>False) w2 w2.drew:=(Mod.refl _ _).drew;exact⟨⟨S,bs,gy.aI d2,⟨fun _ h=>h,fun _ h=>.inl h⟩,fun _ _ h=>h,_,_,rfl,body.up (aq d2 (S:=S)) aW (br (aq d2)),vz.up (aq d2 (S:=S)) aW (br (aq d2)) (fun _ _ h=>h)⟩,aq (bo.trans d2)⟩
  (try simp only[go_sem,simprocAttr,b1,k2,k6]);(try simp only[go_sem,simprocAttr,bG,bH,p1,n0]);refine Ca (fun ρ w'=>w2=w'/\ρ=[(0,ptr r),(4,ptr w.heap.size),(10,t10),(11,.bool (mj x).isSome),(12,I (numOf x)),(15,.pointer (some (ad.add (i*11)))),(34,I e.alts.length),(35,I i),(45,.bool (e.alts[i].kind == 3||(e.alts[i].kind == 2&&(mj x).isNone&&e.alts[i].num == numOf x)))]) ?_ ?_
  .cases h3:e.alts[i].kind == 3 with
   |true=>(try simp only[go_sem,simprocAttr,Bool.true_or])
   |false=>
    cases h2:e.alts[i].kind == 2 with
    |false=>(try simp only[go_sem,simprocAttr,n0,h2,Bool.false_or,Bool.false_and])
    |true=>
     cases hx:mj x with
     |some k=>(try simp only[go_sem,simprocAttr,n0,h2,hx,Option.isSome_some,Option.isNone_some,Bool.false_or,Bool.and_false,Bool.false_and,Bool.not_true])
     |none=>(try simp only[go_sem,simprocAttr,n0,n2,h2,hx,Option.isSome_none,Option.isNone_none,Bool.false_or,Bool.not_false])
  rintro _ _ ⟨rfl,rfl⟩;cases hc:(e.alts[i].kind == 3||(e.alts[i].kind == 2&&(mj x).isNone&&e.alts[i].num == numOf x))with
  |true=>
   rw[if_pos hc]at gB;(try simp only[go_sem,simprocAttr,k3,aM,RV.ev,aN]);exact here gB
  |false=>
   rw [if_neg (by rw [hc];simp)] at gB;have next:iM m nm x (e.alts.drop i)=iM m nm x (e.alts.drop (i+1))→∃ y:Nat,y < e.alts.length - i∧Mod (fun _=>False) w1 w2.drew∧∃ i':Nat,y=e.alts.length - i'∧i'≤e.alts.length∧iM m nm x (e.alts.drop i')=some dx ∧
       [(0,ptr r),(4,ptr w.heap.size),(10,t10),(11,Value.bool (mj x).isSome),(12,I (numOf x)),(34,I e.alts.length),(35,I (IntKind.i64.wrap ((i:Int)+1)))]=[(0,ptr r),(4,ptr w.heap.size),(10,t10),(11,.bool (mj x).isSome),(12,I (numOf x)),(34,I e.alts.length),(35,I i')]:=fun hn=>by
    have e3:IntKind.i64.wrap ((i:Int)+1)=((i+1:Nat):Int):=by rw[dJ (by omega) (by omega)];omega
    exact⟨_,by omega,ai.drew,i+1,rfl,q,by rw[<- hn];exact a7,by rw[e3]⟩
   (try simp only[go_sem,simprocAttr,n0]);cases h1:e.alts[i].kind == 1 with
   |false=>
    have hn:iM m nm x (e.alts.drop i)=iM m nm x (e.alts.drop (i+1)):=by
     rw[gB,h1];cases mj x<;>rfl
    (try simp only[go_sem,simprocAttr]);exact next hn
   |true=>
    cases hx:mj x with
    |none=>
     have hn:iM m nm x (e.alts.drop i)=iM m nm x (e.alts.drop (i+1)):=by rw[gB,hx]
     (try simp only[go_sem,simprocAttr,hx,Option.isSome_none]);have:=next hn;rw[hx]at this;exact this
    |some k=>
     obtain⟨a,vs,rfl,hac,iR⟩:=mG k hx;have acu:=hac.up (aq bo (S:=S)) aW (br (aq bo));have a0:w2.cell? a=some (.string k.1):=acu.c0 (by simp);rw[hx]at gB;cases hs:bw e.alts[i].bE k.1 with
     |false=>
      have hn:iM m nm x (e.alts.drop i)=iM m nm x (e.alts.drop (i+1)):=by
       rw[gB];simp only[hs,Bool.and_false,Bool.false_eq_true,if_false]
      have fK:=hs;rw[bw]at fK;(try simp only[go_sem,simprocAttr,hx,Option.isSome_some,n1,a0,fK]);have:=next hn;rw[hx]at this;exact this
     |true=>
      have fK:=hs;rw[bw]at fK;obtain⟨av,cv,rfl⟩:=bq mK;have Yn:=dI mK;have gB:iM m nm x (e.alts.drop i)=(so e.alts[i].vars k.2 nm).map (fun v'=>(some (.go e.alts[i].body v'),m)):=by
       rw[gB];simp only[h1,hs,Bool.and_self,if_true]
      rw[gB]at a7;obtain⟨nmF,MO,rfl⟩:=Δ.1 a7;have d2:Mod (fun _=>False) w2 w2.drew:=(Mod.refl _ _).drew;(try simp only[go_sem,simprocAttr,hx,Option.isSome_some,n1,n3,k3,a0,fK])
      refine io (fun z' ρ w'=>Mod (fun _=>False) w2 w'/\∃(j:Nat) (ru:dS) (v':Value),z'=e.alts[i].vars.length-j/\j<=e.alts[i].vars.length/\jz w' (Out S w') bs ru v'/\so (e.alts[i].vars.drop j) (k.2.drop j) ru=some nmF /\
       ρ=[(10,.pointer (some a)),(15,.pointer (some (ad.add (i*11)))),(16,v'),(98,.slice av e.alts[i].vars.length cv),(99,I e.alts[i].vars.length),(100,I j)]) e.alts[i].vars.length ⟨d2,0,nm,vn,by omega,by omega,vz.up (aq d2 (S:=S)) aW (br (aq d2)) (fun _ _ h=>h),MO,rfl⟩ ?_
      rintro z'' _ w3 ⟨aw,j,ru,v',rfl,hj,HY,CX,rfl⟩;have bz:Mod (fun _=>False) w w3:=bo.trans aw;by_cases qj:j<e.alts[i].vars.length
      .have b2:decide ((j:Int)<e.alts[i].vars.length)=true:=by simpa using qj
       rw[ajK qj]at CX;have hjf:j<k.2.length:=by
        apply Classical.byContradiction;intro hn;rw[dif_neg hn]at CX;cases CX
       rw[dif_pos hjf]at CX;have CY:=mK.up (aq aw (S:=S)) aW (br (aq aw)) (fun _ _ h=>h);have kW:=iR.up (aq bz (S:=S)) aW (br (aq bz)) (fun _ _ h=>h);have ac3:=hac.up (aq bz (S:=S)) aW (br (aq bz));obtain⟨uF,c1,e1,_,nf⟩:=xr CY qj;obtain⟨rfl,-,-⟩:=cU e1;obtain⟨pY,c2,r2,rfl,⟨b,rfl,fN⟩,_,rX⟩:=kI kW hjf;have f0:w3.cell? (pY.add j)=some (ptr b):=by have:=rX.c0 (by simp);rwa[Nat.mul_one]at this
       have a1:w3.cell? ⟨a.block,a.off+1,none⟩=some (.slice (some pY) k.2.length c2):=ac3.at (k:=1) (by simp);have p2:(0:Int)<=j/\(j:Int)<e.alts[i].vars.length:=by omega
       have p3:(0:Int)<=j/\(j:Int)<k.2.length:=by omega
       have aj5:=HY.one;(try simp only[go_sem,simprocAttr,b2]);(try simp only[go_sem,simprocAttr,bG,bH,p2,nf,a1,p3,f0,aj5]);refine bZ rfl ?_;intro w4 bm aD dL;have e3:IntKind.i64.wrap ((j:Int)+1)=((j+1:Nat):Int):=by rw[dJ (by omega) (by omega)];omega
       (try simp only[go_sem,simprocAttr,e3]);refine⟨_,by omega,aw.trans aD,j+1,_,_,rfl,qj,?_,CX,rfl⟩;refine⟨_,b,v',rfl,fN,MH (cs:=[.string e.alts[i].vars[j],ptr b,v']) bm (fun hx=>by have:=hh.lt _ hx;have:=bz.size;omega),HY.up (aq aD (S:=S)) aW (br (aq aD)) (fun _ _ h=>h)⟩
      .have b2:decide ((j:Int)<e.alts[i].vars.length)=false:=by simpa using qj
       rw[List.drop_eq_nil_of_le (by omega),so]at CX;cases CX;(try simp only[go_sem,simprocAttr,b2,aM,RV.ev,aN]);have xX:=body.up (aq aw (S:=S)) aW (br (aq aw));exact⟨⟨S,bs,h.aI bz,⟨fun _ h=>h,fun _ h=>.inl h⟩,fun _ _ h=>h,_,_,rfl,xX,HY⟩,aq bz⟩
 .have b1:decide ((i:Int)<e.alts.length)=false:=by simpa using q
  rw[List.drop_eq_nil_of_le (by omega),iM]at a7;cases a7;(try simp only[go_sem,simprocAttr,b1]);refine aL (by rfl) ?_;refine(Ic (h.aI bo)).mono ?_;rintro _ w3 ⟨hR,aw⟩;(try simp only[go_sem,simprocAttr,aM,RV.ev,aN]);have tN:Mod S w w3:=(aq bo).trans (aw.aU Sr);exact⟨⟨S,bs,hR,⟨fun _ h=>h,fun _ h=>.inl h⟩,fun _ _ h=>h,rfl⟩,tN⟩
end
section
open Go Go.W
theorem Fl.uG{w:World}{B:Nat->Prop}{bs:List Nat}{v:Value}{x:Option Md}(h:Fl w B bs v x):∃a b c d,v=.tuple #[a,b,c,d]:=by
 match x,h with
 |some (.go e nm),⟨ve,vn,e1,_⟩=>exact⟨_,_,_,_,e1⟩
 |some (.val x),⟨u,e1,_⟩=>exact⟨_,_,_,_,e1⟩
 |none,e1=>exact⟨_,_,_,_,e1⟩
theorem qx.uG{w w':World}{S:Nat->Prop}{r md mf:Nat}{bs:List Nat}{X:Cx}{v:Value}{x:R3}(h:qx w w' S r md mf bs X v x):∃a b c d,v=.tuple #[a,b,c,d]:=by
 obtain⟨S',du,_,_,_,h⟩:=h;exact h.uG
theorem aai{P:Program}{w:World}{ρ:Go.W.Env}{K:Value→World→Prop}{α:Type}{R:Value→α→Prop}{l:List (ByteArray×α)}{a:α}{t kt et:TypeId}{m x:Operand}{b:Nat}{k:ByteArray}{z:Value}{d:Option Nat}{ty:TypeId}{pos:String}{af:Array Edge}(hm:(bI m).ev ρ=some (.map (some b)))(hx:(bI x).ev ρ=some (.string k))(ht:P.underlying t=some (.map kt et))(gY:P.underlying kt=some .string)
   (hz:(zeroValue et).run P w=.ok z w) (h:bQ w b R l) (ha:aJ l k=some a) (hk:∀v,R v a->K v w):Go.W.E.wp P w ρ K (.raw ⟨d,.lookup t m x false,ty,pos,af,none⟩):=by
 obtain⟨lv,hv,hp⟩:=h;refine KP hm hx ht gY hz hv ?_;rcases hp.get k with⟨e1,e2⟩ |⟨v,a',e1,e2,hr⟩
 .rw[ha]at e2;cases e2
 .rw[ha]at e2;cases e2;rw[e1];exact hk _ hr
section
variable {w w':World} {S S':Nat->Prop} {r md mf:Nat} {bs:List Nat} {X:Cx} {m:Rn} {x:Option Md} {v:Value}
theorem Ij(h:dE w S r md mf bs X m)(hm:Mod (fun _=>False) w w')(qy:Fl w' (Out S w') bs v x):qx w w' S r md mf bs X v (x,m)/\Mod S w w':=
 ⟨⟨S,bs,h.aI hm,⟨fun _ h=>h,fun _ h=>.inl h⟩,fun _ _ h=>h,qy⟩,aq hm⟩
theorem wx(h:dE w' S' r md mf bs X m)(hg:fh S S' w)(hm:Mod S w w')(qy:Fl w' (Out S' w') bs v x):qx w w' S r md mf bs X v (x,m)/\Mod S w w':=
 ⟨⟨S',bs,h,hg,fun _ _ h=>h,qy⟩,hm⟩
theorem qz:fh S S w:=⟨fun _ h=>h,fun _ h=>.inl h⟩
end
theorem Fs{w:World}{B:Nat->Prop}{v:Value}{l:List Ex}(h:aX w v 7 B (ci w B) l){i:Nat}(hi:i<l.length):∃ad c,v=.slice (some ad) l.length c/\qu w B (.pointer (some (ad.add (i*7)))) l[i]:=by
 obtain⟨ad,c,r,e,hx,_,bT⟩:=kI h hi;exact⟨ad,c,e,_,r,rfl,bT,hx⟩
theorem MP{w:World}{B:Nat->Prop}{v:Value}{l:List Bd}(h:aX w v 11 B (eh w B) l){i:Nat}(hi:i<l.length):∃ad c,v=.slice (some ad) l.length c/\w.cell? (ad.add (i*11))=some (.string l[i].name)/\(ad.add (i*11)).block<w.heap.size/\qu w B (.pointer (some ⟨(ad.add (i*11)).block,(ad.add (i*11)).off+4,none⟩)) l[i].value:=by
 obtain⟨ad,c,r,e,⟨tc,ec,rfl,fO,iI,_⟩,_,bT⟩:=kI h hi;have k0:=bT.c0 (by simp);refine⟨ad,c,e,k0,np k0,_,ec,rfl,bT.part (fun j hj=>?_) (by decide),iI⟩;have hl:=fO.len;rw[show 4+j=(j+3)+1 by omega,List.getElem?_cons_succ,List.getElem?_append_right (by omega),hl,Nat.add_sub_cancel];exact Ξ hj
def Ch(w:World)(B:Nat->Prop)(bs:List Nat)(lo:Nat)(vn:Value)(l:List Bd)(n:Nat):Nat->Value->Prop
 |0,v=>v=vn
 |k+1,v=>∃a b nx s,v=.pointer (some a)/\lo<=a.block/\xV w B a [.string s,ptr b,nx]/\bs[n+k]?=some b/\l[k]?.map Bd.name=some s/\Ch w B bs lo vn l n k nx
theorem Ch.up{w w':World}{B B' S:Nat->Prop}{bs du:List Nat}{lo:Nat}{vn:Value}{l:List Bd}{n:Nat}:∀{k:Nat} {v:Value},Ch w B bs lo vn l n k v->Mod S w w'->(∀b,B b->¬S b)->(∀b,B b->B' b)->(∀(c b:Nat),bs[c]?=some b->du[c]?=some b)->Ch w' B' du lo vn l n k v
 |0,v,h,_,_,_,_=>h
 |k+1,v,h,hm,hd,hB,hb=>by
  obtain⟨a,b,nx,s,e,h0,h1,h2,h3,h4⟩:=h;exact⟨a,b,nx,s,e,h0,h1.up hm hd hB,hb _ _ h2,h3,Ch.up h4 hm hd hB hb⟩
theorem aaj:∀(l:List Bd) (b:Bd) (i:Nat) (v:dS),pz (l++[b]) i v=(b.name,i+l.length)::pz l i v
 |[],b,i,v=>rfl
 |c::l,b,i,v=>by
  rw[List.cons_append,pz,aaj l b (i+1),pz];simp only[List.length_cons];rw[show i+1+l.length=i+(l.length+1) by omega]
theorem Ch.nm{w:World}{B:Nat->Prop}{bs:List Nat}{lo:Nat}{vn:Value}{l:List Bd}{n:Nat}{nm:dS}(hn:jz w B bs nm vn):∀{k:Nat} {v:Value},Ch w B bs lo vn l n k v->k<=l.length->jz w B bs (pz (l.take k) n nm) v
 |0,v,h,_=>by
  have h:v=vn:=h;rw[h];exact hn
 |k+1,v,h,hk=>by
  obtain⟨a,b,nx,s,e,h0,h1,h2,h3,h4⟩:=h;have bg:k<l.length:=by omega
  have e1:l[k].name=s:=by
   rw[Ξ bg]at h3
   simpa using h3
  rw[List.take_succ_eq_append_getElem bg,aaj,List.length_take,Nat.min_eq_left (by omega),e1];exact⟨a,b,nx,e,h2,h1,Ch.nm hn h4 (by omega)⟩
def Rn.tp(m:Rn)(k:Nat)(l:List Cl):Rn:={ m with cells:=m.cells++(List.replicate k .emp++l)}
theorem aj6(m:Rn):m.tp 0 []=m:=by unfold Rn.tp;simp
theorem aj7(m:Rn)(k:Nat):(m.tp k []).new .emp=m.tp (k+1) []:=by
 unfold Rn.tp Rn.new;simp[List.replicate_succ']
theorem aj8(m:Rn)(k:Nat)(l:List Cl)(x:Cl):(m.tp (k+1) l).put (m.cells.length+k) x=m.tp k (x::l):=by
 unfold Rn.tp Rn.put;simp[List.replicate_succ',List.set_append]
theorem aak{P:Program}{w:World}{ρ:Go.W.Env}{K:Value→World→Prop}{t te:TypeId}{j:TypeInfo}{x y:Operand}{u v:Option Addr}{d:Option Nat}{ty:TypeId}{pos:String}{c:TypeId}{af:Array Edge}(hx:(bI x).ev ρ=some (.pointer u))(hy:(bI y).ev ρ=some (.pointer v))(hp:P.underlying t=some (.pointer te))(hj:P.info? te=some j)(bV:j.size≠0)
   (hu:∀a,u=some a->Pl w a.block) (hv:∀a,v=some a->Pl w a.block) {q:Bool} (hq:(!decide (u=v))=q) (hk:K (.bool q) w):Go.W.E.wp P w ρ K (.raw ⟨d,.binOp .neq t x y c,ty,pos,af,none⟩):=by
 have he:(Op.equal t (.pointer u) (.pointer v)).run P w=.ok (decide (u=v)) w:=by
  unfold Op.equal Op.maxDepth Op.equalIn;cases u with
  |none=>cases v<;>simp[run_underlying hp]
  |some a=>
   cases v with
   |none=>simp[run_underlying hp]
   |some b=>
    by_cases uj:a=b
    .subst uj;simp[run_underlying hp,sizeOf,typeInfo,hj,bV,run_sameAddr_same]
    .obtain⟨ca,ta,ha⟩:=hu a rfl;obtain⟨cb,tb,hb⟩:=hv b rfl;simp[run_underlying hp,sizeOf,typeInfo,hj,bV,run_sameAddr_other w uj ha hb,uj]
 rw[<- hq]at hk;refine mz fun act ha=>⟨_,w,?_,hk⟩
 simp only[execOp,ha x _ hx,ha y _ hy];have hg:(eqGuard .neq t x y (.pointer u) (.pointer v)).run P w=.ok () w:=rfl;simp only[Sem.run_bind,hg,Result.andThen_ok];simp only[binOp,Sem.run_bind,he,Result.andThen_ok,Sem.run_pure]
theorem jz.ptr{w:World}{B:Nat->Prop}{bs:List Nat}{nm:dS}{v:Value}(h:jz w B bs nm v):∃u,v=.pointer u/\∀a,u=some a->Pl w a.block/\B a.block:=by
 cases nm with
 |nil=>cases h;exact⟨none,rfl,fun a e=>by cases e⟩
 |cons p l=>obtain⟨a,b,nx,rfl,_,h,_⟩:=h;exact⟨some a,rfl,fun a e=>by cases e;exact⟨h.2,h.1.1⟩⟩
theorem aj9{w:World}{S:Nat→Prop}{r md mf:Nat}{bs:List Nat}{X:Cx}{m:Rn}{e:Ex}{nm:dS}{ve vn:Value}{dx:R3}(h:dE w S r md mf bs X m)(he:qu w (Out S w) ve e)(hn:jz w (Out S w) bs nm vn)(hlen:m.bA.length≤2097152)(a7:sk X e nm m=some dx) :
   bu Tryz.prog 62 [ptr r,ve,vn] w fun v w'=>qx w w' S r md mf bs X v dx/\Mod S w w':=by
 have uc:=he;obtain⟨ae,re,rfl,kZ,hex⟩:=he;obtain⟨vt,va,vb,vl,rfl,ht,ha,hb,hl⟩:=hex.parts;obtain⟨aa,ca,rfl⟩:=bq ha;obtain⟨ab,cb,rfl⟩:=bq hb;have ny:=dI hb;have hS:=h;obtain⟨_,_,_,_,_,_,hh⟩:=hS;have Sr:∀y,y=r->S y:=fun y hy=>by rw[hy];exact hh.aT _ (by simp)
 have k0:w.cell? ae=some (I e.kind):=kZ.c0 (by simp);have k1:w.cell? ⟨ae.block,ae.off+1,none⟩=some (.string e.name):=kZ.at (k:=1) (by simp);have k2:w.cell? ⟨ae.block,ae.off+2,none⟩=some (I e.num):=kZ.at (k:=2) (by simp);have k4:w.cell? ⟨ae.block,ae.off+4,none⟩=some (.slice aa e.args.length ca):=kZ.at (k:=4) (by simp);have k5:w.cell? ⟨ae.block,ae.off+5,none⟩=some (.slice ab e.binds.length cb):=kZ.at (k:=5) (by simp);have iS:=hn.one;have d2:Mod (fun _=>False) w w.drew:=(Mod.refl _ _).drew;have up:∀{w':World} {S':Nat->Prop},Mod S w w'->fh S S' w->iU w' (Out S' w') ae [I e.kind,.string e.name,I e.num,vt,.slice aa e.args.length ca,.slice ab e.binds.length cb,vl]/\ci w' (Out S' w') [I e.kind,.string e.name,I e.num,vt,.slice aa e.args.length ca,.slice ab e.binds.length cb,vl] e/\jz w' (Out S' w') bs nm vn:=fun hm hg=>by
  have ga:=wo hg hm.size;exact⟨kZ.up hm aW ga,hex.up hm aW ga,hn.up hm aW ga (fun _ _ h=>h)⟩
 refine γ Tryz.f62 ?_;unfold sk at a7;(try simp only[go_sem,simprocAttr,k0]);cases h1:e.kind == 1 with
 |true=>
  rw[if_pos (by simpa using h1)]at a7;obtain⟨c,hc,rfl⟩:=Δ.1 a7;(try simp only[go_sem,simprocAttr,k1]);refine aL (by rfl) ?_;refine(ajD nm hn hc).mono ?_;rintro _ _ ⟨⟨b,rfl,fN⟩,rfl⟩;(try simp only[go_sem,simprocAttr]);refine aL (by rfl) ?_;refine(R8 h fN hlen).mono ?_;rintro v w' hR;obtain⟨_,_,_,_,rfl⟩:=hR.1.uG;(try simp only[go_sem,simprocAttr,aM,RV.ev,aN]);exact hR
 |false=>
 rw[if_neg (by simpa using h1)]at a7;(try simp only[go_sem,simprocAttr]);cases h3:e.kind == 3 with
 |true=>
  rw[if_pos (by simpa using h3)]at a7;obtain⟨c,hc,rfl⟩:=Δ.1 a7;(try simp only[go_sem,simprocAttr,k1,cell_of hh.box]);refine aai (R:=H' bs) (l:=X.aj) (b:=md) (kt:=9) (et:=88) rfl rfl rfl rfl (Tryz.zeroValue88 _) hh.aj hc ?_;rintro _ ⟨b,rfl,fN⟩;(try simp only[go_sem,simprocAttr]);refine aL (by rfl) ?_;refine(R8 (h.aI d2) fN hlen).mono ?_;rintro v w' hR;obtain⟨_,_,_,_,rfl⟩:=hR.1.uG;(try simp only[go_sem,simprocAttr,aM,RV.ev,aN]);refine⟨?_,(aq d2).trans hR.2⟩;obtain⟨S',du,q1,q2,q3⟩:=hR.1;exact⟨S',du,q1,q2,q3⟩
 |false=>
 rw[if_neg (by simpa using h3)]at a7;(try simp only[go_sem,simprocAttr]);cases h2:e.kind == 2 with
 |true=>
  rw[if_pos (by simpa using h2)]at a7;cases a7;(try simp only[go_sem,simprocAttr,k2,aM,RV.ev,aN]);exact Ij h d2 ⟨_,rfl,rfl,rfl⟩
 |false=>
 rw[if_neg (by simpa using h2)]at a7;(try simp only[go_sem,simprocAttr]);cases h4:e.kind == 4 with
 |true=>
  rw[if_pos (by simpa using h4)]at a7;cases a7;(try simp only[go_sem,simprocAttr,k1,cell_of hh.box]);refine AM (b:=mf) (kt:=9) (et:=3) rfl rfl rfl rfl (zI _) hh.fields ?_;(try simp only[go_sem,simprocAttr]);refine aL (by rfl) ?_;refine(Z' (w:=w.drew) (S:=S) (bs:=bs) (hv:=[]) (n:=e.name) (mO:=(aJ X.fields e.name).getD 0) (fun y hy=>hh.lt y hy) (eB _ _ _ _)).mono ?_;rintro v w' ⟨im,mK,hm⟩;(try simp only[go_sem,simprocAttr,aM,RV.ev,aN]);exact Ij h (d2.trans hm) ⟨_,rfl,im,mK⟩
 |false=>
 rw[if_neg (by simpa using h4)]at a7;(try simp only[go_sem,simprocAttr]);cases h6:e.kind == 6 with
 |true=>
  rw[if_pos (by simpa using h6)]at a7;cases a7;(try simp only[go_sem,simprocAttr,iS]);refine bZ rfl ?_;intro w1 au ak cw;(try simp only[go_sem,simprocAttr,aM,RV.ev,aN]);exact Ij h ak ⟨_,rfl,⟨_,_,_,rfl,wq (cs:=[.pointer (some ae),vn]) au (fun hx=>by have:=hh.lt _ hx;omega),uc.up (aq ak) aW (br (aq ak)),hn.up (aq ak) aW (br (aq ak)) (fun _ _ h=>h)⟩,rfl⟩
 |false=>
 rw[if_neg (by simpa using h6)]at a7;(try simp only[go_sem,simprocAttr]);cases oq:e.kind == 12 with
 |true=>
  rw[if_pos (by simpa using oq)]at a7;cases a7;(try simp only[go_sem,simprocAttr,k2]);refine aL (by rfl) ?_;refine(Ic h).mono ?_;rintro _ w1 ⟨hR,ak⟩;(try simp only[go_sem,simprocAttr,aM,RV.ev,aN]);exact wx hR qz (ak.aU Sr) rfl
 |false=>
 rw[if_neg (by simpa using oq)]at a7;(try simp only[go_sem,simprocAttr]);cases h7:e.kind == 7 with
 |true=>
  rw[if_pos (by simpa using h7)]at a7;cases db:e.args with
  |nil=>rw[db]at a7;cases a7
  |cons y yl=>
  rw[db]at a7;cases a7;(try simp only[go_sem,simprocAttr,k5]);have ltn:∀{a:Addr},vn=.pointer (some a)->a.block<w.heap.size:=fun{a} e=>by
   cases nm with
   |nil=>cases hn;cases e
   |cons p l=>obtain⟨_,_,_,rfl,_,h,_⟩:=hn;cases e;exact h.1.1.1
  refine io (fun z' ρ w'=>Mod (fun _=>False) w w'/\∃(j:Nat) (S':Nat->Prop) (du:List Nat) (v':Value),z'=e.binds.length-j/\j<=e.binds.length/\dE w' S' r md mf du X (m.tp j [])/\fh S S' w/\(∀(c b:Nat),bs[c]?=some b->du[c]?=some b)/\Ch w' (Out S' w') du w.heap.size vn e.binds m.cells.length j v' /\
   ρ=[(1,.pointer (some ae)),(2,v'),(10,vn),(94,I e.binds.length),(95,I j)]) e.binds.length ⟨.refl _ _,0,S,bs,vn,by omega,by omega,(by rw[aj6];exact h),qz,fun _ _ h=>h,rfl,rfl⟩ ?_
  rintro z' _ w1 ⟨ak,j,S1,gk,v1,rfl,hj,iy,fE,pC,MQ,rfl⟩;have rv:=wo fE ak.size;have Bc:=kZ.up (aq ak (S:=S)) aW rv;have Hw:=hex.up (aq ak (S:=S)) aW rv;have pq:jz w1 (Out S1 w1) gk nm vn:=hn.up (aq ak (S:=S)) aW rv pC;have Ft:w1.cell? ⟨ae.block,ae.off+5,none⟩=some (.slice ab e.binds.length cb):=Bc.at (k:=5) (by simp);have uH:w1.cell? ⟨ae.block,ae.off+4,none⟩=some (.slice aa e.args.length ca):=Bc.at (k:=4) (by simp);have ub:aX w1 (.slice ab e.binds.length cb) 11 (Out S1 w1) (eh w1 (Out S1 w1)) e.binds:=hb.up (aq ak (S:=S)) aW rv (fun _ _ h=>h.up (aq ak (S:=S)) aW rv);have aj':=(Ch.nm pq MQ hj).one;by_cases q:j<e.binds.length
  .have b1:decide ((j:Int)<e.binds.length)=true:=by simpa using q
   have p1:(0:Int)<=j/\(j:Int)<e.binds.length:=by omega
   obtain⟨ad,c,e6,mE,sQ,hp⟩:=MP ub q;obtain⟨rfl,-,-⟩:=cU e6;have e3:IntKind.i64.wrap ((j:Int)+1)=((j+1:Nat):Int):=by rw[dJ (by omega) (by omega)];omega
   (try simp only[go_sem,simprocAttr,b1]);(try simp only[go_sem,simprocAttr,bG,bH,Ft,p1,mE]);refine bZ rfl ?_;intro w2 az ai bU;(try simp only[go_sem,simprocAttr,aj']);refine bZ rfl ?_;intro w3 aS aw dU;(try simp only[go_sem,simprocAttr,e3]);have gy:=iy.new (x:=.emp) ai az (Nat.le_refl _) rfl;rw[aj7]at gy;have oz:=ai.trans aw
   have sq:fh S (aY S1 w1.heap.size) w:=⟨fun b hb=>.inl (fE.1 b hb),fun b hb=>by
    rcases hb with h |h
    ·exact fE.2 b h
    ·right;have:=ak.size;omega⟩
   refine⟨_,by omega,ak.trans oz,j+1,_,_,_,rfl,q,gy.aI aw,sq,fun c b hc=>pB _ _ (pC c b hc),?_,rfl⟩;have aka:gk.length=m.cells.length+j:=by
    obtain⟨_,_,_,_,_,_,hx⟩:=iy;rw[hx.len];simp[Rn.tp]
   have akb:∀b,Out S1 w1 b->Out (aY S1 w1.heap.size) w3 b:=fM (aq oz) (fZ (Nat.le_refl _));refine⟨_,w1.heap.size,v1,e.binds[j].name,rfl,?_,MH (cs:=[.string e.binds[j].name,ptr w1.heap.size,v1]) aS ?_,?_,?_,MQ.up (aq oz (S:=S1)) aW akb pB⟩
   .have:=ak.size;have:=ai.size;show w.heap.size<=w2.heap.size;omega
   .rintro(hx |hx)
    .obtain⟨_,_,_,_,_,_,Sj⟩:=iy;have:=Sj.lt _ hx;omega
    .omega
   .rw[List.getElem?_append_right (by omega),aka];simp
   .rw[Ξ q];try rfl
  .have b1:decide ((j:Int)<e.binds.length)=false:=by simpa using q
   have tZ:j=e.binds.length:=by omega
   subst tZ;have lb:IntKind.i64.wrap ((e.binds.length:Int)-1)=(e.binds.length:Int)-1:=dJ (by omega) (by omega);(try simp only[go_sem,simprocAttr,b1,Ft,lb]);have hnF:jz w1 (Out S1 w1) gk (pz e.binds m.cells.length nm) v1:=by
    have:=Ch.nm pq MQ (Nat.le_refl _)
    rwa[List.take_length]at this
   refine io (fun z' ρ w'=>Mod S1 w1 w'/\∃vk:Value,z'<=e.binds.length/\dE w' S1 r md mf gk X (m.tp z' ((e.binds.drop z').map (fun b=>Cl.wait b.value (pz e.binds m.cells.length nm))))/\Ch w' (Out S1 w') gk w.heap.size vn e.binds m.cells.length z' vk /\
    ρ=[(1,.pointer (some ae)),(2,v1),(10,vn),(12,vk),(13,I ((z':Int)-1))]) e.binds.length ⟨.refl _ _,v1,Nat.le_refl _,by rw[List.drop_length];exact iy,MQ,rfl⟩ ?_
   rintro k _ w2 ⟨ai,vk,hk,gy,zO,rfl⟩;have aal:=Bc.up ai aW (br ai);have ex2:=Hw.up ai aW (br ai);have Sk:=hnF.up ai aW (br ai) (fun _ _ h=>h);have Ft:w2.cell? ⟨ae.block,ae.off+5,none⟩=some (.slice ab e.binds.length cb):=aal.at (k:=5) (by simp);have uH:w2.cell? ⟨ae.block,ae.off+4,none⟩=some (.slice aa e.args.length ca):=aal.at (k:=4) (by simp);have ub:aX w2 (.slice ab e.binds.length cb) 11 (Out S1 w2) (eh w2 (Out S1 w2)) e.binds:=hb.up ((aq ak).trans ai) (fun b hb=>aW b (rv b hb)) (fun b hb=>br ai b (rv b hb)) (fun _ _ h=>h.up ((aq ak).trans ai) (fun b hb=>aW b (rv b hb)) (fun b hb=>br ai b (rv b hb)));have ua:aX w2 (.slice aa e.args.length ca) 7 (Out S1 w2) (ci w2 (Out S1 w2)) e.args:=ha.up ((aq ak).trans ai) (fun b hb=>aW b (rv b hb)) (fun b hb=>br ai b (rv b hb)) (fun _ _ h=>h.up ((aq ak).trans ai) (fun b hb=>aW b (rv b hb)) (fun b hb=>br ai b (rv b hb)));obtain⟨u0,Ik,Sl⟩:=(hn.up ((aq ak).trans ai) (fun b hb=>aW b (rv b hb)) (fun b hb=>br ai b (rv b hb)) pC).ptr;subst Ik
   match k,vk,zO,hk,gy with
   |0,vk,zO,hk,gy=>
    have zO:vk=.pointer u0:=zO;subst zO;(try simp only[go_sem,simprocAttr]);refine aak (te:=164) rfl rfl rfl rfl (by decide) (fun a e=>(Sl a e).1) (fun a e=>(Sl a e).1) (q:=false) (by simp) ?_;have la:0<e.args.length:=by rw[db];simp
    have CZ:e.args[0]=y:=by simp[db]
    have b2:(0:Int)<=0/\(0:Int)<e.args.length:=by omega
    obtain⟨ad,c,e6,hp⟩:=Fs ua la;obtain⟨rfl,-,-⟩:=cU e6;rw[CZ,Nat.zero_mul,add_zero']at hp;(try simp only[go_sem,simprocAttr]);(try simp only[go_sem,simprocAttr,bG,bH,uH,b2,Nat.zero_mul,add_zero',aM,RV.ev,aN])
    have bo:Mod S w w2:=(aq ak).step ai (fun b hb hl=>by
     rcases fE.2 b hb with h |h
     ·exact h
     ·omega)
    exact⟨⟨S1,gk,gy,fE,pC,_,_,rfl,hp,Sk⟩,bo⟩
   |k+1,vk,zO,hk,gy=>
    obtain⟨a,b,nx,s,rfl,h0,bT,fN,hs,zO⟩:=zO;(try simp only[go_sem,simprocAttr])
    refine aak (te:=164) rfl rfl rfl rfl (by decide) (fun a e=>by cases e;exact bT.2) (fun a e=>(Sl a e).1) (q:=true) (by
     have:some a≠u0:=fun e=>by
      have:=ltn (a:=a) (by rw[e]);omega
     simp[this]) ?_
    (try simp only[go_sem,simprocAttr]);have e2:((k+1:Nat):Int)-1=(k:Int):=by omega
    have e3:IntKind.i64.wrap ((k:Int)-1)=(k:Int)-1:=dJ (by omega) (by omega);have q:k<e.binds.length:=by omega
    have p1:(0:Int)<=k/\(k:Int)<e.binds.length:=by omega
    obtain⟨ad,c,e6,mE,sQ,hp⟩:=MP ub q;obtain⟨rfl,-,-⟩:=cU e6;have a1:w2.cell? ⟨a.block,a.off+1,none⟩=some (ptr b):=bT.at (k:=1) (by simp);have akc:=Sk.one;(try simp only[go_sem,simprocAttr,e2]);(try simp only[go_sem,simprocAttr,bG,bH,a1,Ft,p1,akc]);refine bZ rfl ?_;intro w3 aS aw dU;have aw:Mod (fun _=>False) w2 w3:=aw.dG;obtain⟨_,_,_,_,_,_,gS⟩:=gy.aI aw;have Sn:gk[m.cells.length+k]?=some b:=fN;have AX:(m.tp (k+1) ((e.binds.drop (k+1)).map (fun b=>Cl.wait b.value (pz e.binds m.cells.length nm)))).cells[m.cells.length+k]?=some .emp:=by
     unfold Rn.tp;rw[List.getElem?_append_right (by omega),List.getElem?_append_left (by simp),show m.cells.length+k-m.cells.length=k by omega,List.getElem?_replicate,if_pos (by omega)]
    obtain⟨v0,iK,_⟩:=gS.cell _ b _ Sn AX;have Sa:=np a1;refine⟨aw.bO _ Sa Ψ,?_⟩;(try simp only[go_sem,simprocAttr]);refine eK (b:=b) (off:=0) (v:=.iface 131 (ptr w2.heap.size)) rfl rfl iK rfl (by simp) ?_;intro w4 bm aD dL;have Sb:∀y,y=b->S1 y:=fun y hy=>by rw[hy];exact gS.aT _ (by simp[List.mem_of_getElem? Sn])
    have j9:Mod S1 w2 w4:=(aq aw).trans (aD.aU Sb);have a2:w4.cell? ⟨a.block,a.off+2,none⟩=some nx:=(bT.up j9 aW (br j9)).at (k:=2) (by simp);have xX:∀{x:Cl} {v:Value},kL w3 (Out S1 w3) gk x v->kL w4 (Out S1 w4) gk x v:=fun h=>h.up (aD.aU Sb) aW (br (aD.aU Sb)) (fun _ _ h=>h)
    have tq:=gS.put (x:=.wait e.binds[k].value (pz e.binds m.cells.length nm)) (v:=.iface 131 (ptr w2.heap.size)) Sn aD bm ⟨_,_,_,rfl,wq (cs:=[.pointer (some ⟨(ad.add (k*11)).block,(ad.add (k*11)).off+4,none⟩),v1]) aS (fun hx=>by
     have:=gS.lt _ hx;have hl:∀b,S1 b->b<w2.heap.size:=by obtain⟨_,_,_,_,_,_,Sj⟩:=gy;exact Sj.lt
     have:=hl _ hx;omega),hp.up (aq aw (S:=S1)) aW (br (aq aw)),Sk.up (aq aw (S:=S1)) aW (br (aq aw)) (fun _ _ h=>h)⟩
    rw[aj8]at tq;have e5:e.binds.drop k=e.binds[k]::e.binds.drop (k+1):=Ω q;(try simp only[go_sem,simprocAttr,a2,e3]);refine⟨k,Nat.lt_succ_self k,ai.trans j9,nx,by omega,?_,zO.up j9 aW (br j9) (fun _ _ h=>h),rfl⟩;rw[e5,List.map_cons];exact⟨_,_,_,_,_,_,tq⟩
 |false=>
 rw[if_neg (by simpa using h7)]at a7;(try simp only[go_sem,simprocAttr]);cases jr:e.kind == 11 with
 |true=>
  rw[if_pos (by simpa using jr)]at a7;(try simp only[go_sem,simprocAttr,iS]);cases uE:e.binds with
  |nil=>rw[uE]at a7;cases a7
  |cons b bl=>
  rw[uE]at a7;cases a7;refine aL (by rfl) ?_;refine(A9 (f:=.nO e nm) h ⟨_,_,rfl,uc,hn⟩ hlen).mono ?_;rintro _ w1 ⟨⟨S',hR,hg⟩,ak⟩;obtain⟨u1,u2,u3⟩:=up ak hg;obtain⟨Rk,Rl,Rm,Y9,e1,_,_,ub,_⟩:=u2.parts;have e5:Rm=.slice ab e.binds.length cb:=by
   have:=congrArg (fun l=>l[5]?) e1
   simpa using this.symm
  subst e5;have lb:0<e.binds.length:=by rw[uE];simp
  obtain⟨ad,c,e6,_,_,hp⟩:=MP ub lb;obtain⟨rfl,-,-⟩:=cU e6;have Ft:w1.cell? ⟨ae.block,ae.off+5,none⟩=some (.slice (some ad) e.binds.length cb):=u1.at (k:=5) (by simp);have b2:(0:Int)<=0/\(0:Int)<e.binds.length:=by omega
  have iK:e.binds[0]=b:=by simp[uE]
  rw[iK,Nat.zero_mul,add_zero']at hp;(try simp only[go_sem,simprocAttr,bG,bH,Ft,b2,Nat.zero_mul,add_zero',aM,RV.ev,aN]);exact wx hR hg ak ⟨_,_,rfl,hp,u3⟩
 |false=>
 rw[if_neg (by simpa using jr)]at a7;cases db:e.args with
 |nil=>rw[db]at a7;cases a7
 |cons y yl=>
 rw[db]at a7;have la:0<e.args.length:=by rw[db];simp
 have CZ:e.args[0]=y:=by simp[db]
 have b2:(0:Int)<=0/\(0:Int)<e.args.length:=by omega
 have fst:∀{w':World} {S':Nat->Prop},Mod S w w'->fh S S' w->∃ad,aa=some ad/\w'.cell? ⟨ae.block,ae.off+4,none⟩=some (.slice (some ad) e.args.length ca)/\qu w' (Out S' w') (.pointer (some ad)) y/\jz w' (Out S' w') bs nm vn:=fun hm hg=>by
  obtain⟨u1,u2,u3⟩:=up hm hg;obtain⟨Rk,Rl,Rm,Y9,e1,_,ua,_,_⟩:=u2.parts;have e5:Rl=.slice aa e.args.length ca:=by
   have:=congrArg (fun l=>l[4]?) e1
   simpa using this.symm
  subst e5;obtain⟨ad,c,e6,hp⟩:=Fs ua la;obtain⟨rfl,-,-⟩:=cU e6;rw[CZ,Nat.zero_mul,add_zero']at hp;exact⟨ad,rfl,u1.at (k:=4) (by simp),hp,u3⟩
 (try simp only[go_sem,simprocAttr]);cases h5:e.kind == 5 with
 |true=>
  rw[if_pos (by simpa using h5)]at a7;cases a7;(try simp only[go_sem,simprocAttr,iS]);refine aL (by rfl) ?_;refine(A9 (f:=.app e nm) h ⟨_,_,rfl,uc,hn⟩ hlen).mono ?_;rintro _ w1 ⟨⟨S',hR,hg⟩,ak⟩;obtain⟨ad,rfl,uH,hp,u3⟩:=fst ak hg;(try simp only[go_sem,simprocAttr,bG,bH,uH,b2,Nat.zero_mul,add_zero',aM,RV.ev,aN]);exact wx hR hg ak ⟨_,_,rfl,hp,u3⟩
 |false=>
 rw[if_neg (by simpa using h5)]at a7;(try simp only[go_sem,simprocAttr]);cases h8:e.kind == 8 with
 |true=>
  rw[if_pos (by simpa using h8)]at a7;cases a7;(try simp only[go_sem,simprocAttr,iS]);refine aL (by rfl) ?_;refine(A9 (f:=.oE e nm) h ⟨_,_,rfl,uc,hn⟩ hlen).mono ?_;rintro _ w1 ⟨⟨S',hR,hg⟩,ak⟩;obtain⟨ad,rfl,uH,hp,u3⟩:=fst ak hg;(try simp only[go_sem,simprocAttr,bG,bH,uH,b2,Nat.zero_mul,add_zero',aM,RV.ev,aN]);exact wx hR hg ak ⟨_,_,rfl,hp,u3⟩
 |false=>
 rw[if_neg (by simpa using h8)]at a7;(try simp only[go_sem,simprocAttr]);cases h9:e.kind == 9 with
 |true=>
  rw[if_pos (by simpa using h9)]at a7;cases a7;(try simp only[go_sem,simprocAttr,iS]);refine aL (by rfl) ?_;refine(A9 (f:=.fst e nm) h ⟨_,_,rfl,uc,hn⟩ hlen).mono ?_;rintro _ w1 ⟨⟨S',hR,hg⟩,ak⟩;obtain⟨ad,rfl,uH,hp,u3⟩:=fst ak hg;(try simp only[go_sem,simprocAttr,bG,bH,uH,b2,Nat.zero_mul,add_zero',aM,RV.ev,aN]);exact wx hR hg ak ⟨_,_,rfl,hp,u3⟩
 |false=>
 rw[if_neg (by simpa using h9)]at a7;(try simp only[go_sem,simprocAttr]);cases mG:e.kind == 10 with
 |true=>
  rw[if_pos (by simpa using mG)]at a7;cases a7;(try simp only[go_sem,simprocAttr,iS]);refine aL (by rfl) ?_;refine(A9 (f:=.seq e nm) h ⟨_,_,rfl,uc,hn⟩ hlen).mono ?_;rintro _ w1 ⟨⟨S',hR,hg⟩,ak⟩;obtain⟨ad,rfl,uH,hp,u3⟩:=fst ak hg;(try simp only[go_sem,simprocAttr,bG,bH,uH,b2,Nat.zero_mul,add_zero',aM,RV.ev,aN]);exact wx hR hg ak ⟨_,_,rfl,hp,u3⟩
 |false=>
 rw[if_neg (by simpa using mG)]at a7;cases a7;obtain⟨ad,rfl,uH,hp,u3⟩:=fst (.refl S w) qz;(try simp only[go_sem,simprocAttr,bG,bH,uH,b2,Nat.zero_mul,add_zero',aM,RV.ev,aN]);exact wx h qz (.refl S w) ⟨_,_,rfl,hp,u3⟩
end
end Go.Proofs.YtekkkjbjnhipkaaGreatDoor