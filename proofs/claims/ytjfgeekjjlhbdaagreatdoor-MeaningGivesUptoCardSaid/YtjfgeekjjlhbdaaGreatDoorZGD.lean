/- Texts that the last file stands on: T27, T28, T29, T30, D9, T31, T32, P6, T33, T34, P7, T2, T35, T36, T37, E1, Q1, M1. -/
import Derived.Test.YtjfgeekjjlhbdaaGreatDoorZGC
import Derived.Test.YtjfgeekjjlhbdaaGreatDoorZGB
set_option linter.unusedSimpArgs false
set_option linter.unusedVariables false
set_option maxRecDepth 100000
namespace Go.Proofs.YtjfgeekjjlhbdaaGreatDoor
section
open Go Go.W
theorem acL {l:List ByteArray} {i:Nat} (hi:i < l.length) (bd:bM):nG (l.drop i) bd=if (!jU l[i]||has bd l[i])=true then .error 82 else nG (l.drop (i+1)) (bO bd l[i] 1):=by rw [List.drop_eq_getElem_cons hi,nG]
theorem acM {ps:List ByteArray} {bs:List Ty} {l:List ByteArray} {fs:List Ty} {i:Nat} (hi:i < l.length) (hf:i < fs.length) (lc:Loc):ij ps bs (l.drop i) (fs.drop i) lc=if (eX ps bs fs[i]).2≥0 then ij ps bs (l.drop (i+1)) (fs.drop (i+1)) (bO lc l[i] (eX ps bs fs[i]).1) else .error 83:=by
 rw [List.drop_eq_getElem_cons hi,List.drop_eq_getElem_cons hf,ij]
theorem acN {l:List ByteArray} {i:Nat} (hi:i < l.length) (lc:Loc):iH (l.drop i) lc=iH (l.drop (i+1)) (gO lc l[i]):=by rw [List.drop_eq_getElem_cons hi,iH]
theorem acO {ps:List ByteArray} {bs:List Ty} (fs:List Ty) (lc:Loc):ij ps bs [] fs lc = .ok lc:=by rw [ij];intros;simp_all
def ajO (w:World) (S:Nat→Prop) (E:Env) (n:ByteArray) (cz:List Value) (u:Value):Prop:=match aG E.cons n with
 | none=>u = .bool false
 | some x=>u = .bool true∧∃ ad,cz=[.pointer (some ad),I x.2]∧qZ w (Out S w) ad x.1∧x.2 < x.1.cons.length
theorem acP {E:Env} (hE:lq E) (gm:dy E iR 0=false) {a:Al} (ih:sU E a.body) {of:Ty} (eS:Good E of) (mP:a.kind=1→of.kind=4) {w:World} {S:Nat→Prop} {M:Ms} {st:St} {cs ct:List Value} (hc:bP w S M E st.1 st.2) (hg:df E st.2) (h:iO w (Out S w) cs a) (bw:aW w (Out S w) ct of) :
   a8 Tryz.prog 91 [ptr M.c,.agg cs.toArray,.agg ct.toArray] w fun r w'=>p7 w' S M E r (mT E of a.kind a.aZ a.vars (cj E a.body) st)∧Mod M.two w w':=by
 obtain ⟨vv,ec,rfl,mh,sV⟩:=h;obtain ⟨av,cv,rfl⟩:=a7 mh;obtain ⟨vo,rfl,Kq⟩:=bw.cells;obtain ⟨ao,co,rfl⟩:=a7 Kq;refine aag.calls rfl ?_;unfold I2;(try simp only [go_sem,simprocAttr]);refine bD rfl ?_;intro wa jA jB oZ;(try simp only [go_sem,simprocAttr]);refine bD rfl ?_;intro wb ey fQ yj;(try simp only [go_sem,simprocAttr]);refine cM ?_;intro w3 ci kG hsc;have bG:=kG.at ey _root_.id;have ba:=(fQ.trans kG).at jA _root_.id;have bn:=jB.trans (fQ.trans kG);have za:=jB.size;have zb:=fQ.size;have zw:w.heap.size≤wb.heap.size:=by omega
 have cA:bP w3 (aL S wb.heap.size) M E st.1 st.2:=hc.ext bn (eI zw) (fun b hb=>.inl hb) (fun b hb=>by
  rcases hb with h | h
  ·have:=hc.lt b h;omega
  ·omega)
 have S3:=cA.two;have n4:¬ M.two w.heap.size:=eP hc (Nat.le_refl _);have n5:¬ M.two wa.heap.size:=eP hc za;have n6:¬ M.two wb.heap.size:=eP hc zw;have lec:=sV.len;have QV:bE w3 (Out (aL S wb.heap.size) w3) ec a.body:=sV.ext (an bn) (eI zw);have acQ:aT w3 (.slice av a.vars.length cv) 1 (Out (aL S wb.heap.size) w3) gw a.vars:=mh.up bn aC (eH (an bn) (eI zw)) (fun _ _ h=>h);have acR:aT w3 (.slice ao of.args.length co) 3 (Out (aL S wb.heap.size) w3) (aW w3 (Out (aL S wb.heap.size) w3)) of.args:=Kq.up bn aC (eH (an bn) (eI zw)) (fun _ _ h=>h.ext (an bn) (eI zw));(try simp only [go_sem,simprocAttr,cell_of ba,Value.cells]);cases hk:a.kind != 1 with
 | true=>
  have hr:mT E of a.kind a.aZ a.vars (cj E a.body) st=cj E a.body st:=by rw [mT,if_pos hk]
  rw [hr];have k2:=iN (off:=4) (n:=7) ba (by simp [Value.cells];omega);simp only [List.drop_succ_cons,List.drop_zero] at k2;rw [List.take_of_length_le (by omega)] at k2;(try simp only [go_sem,simprocAttr,k2]);refine aI (by rfl) ?_;refine (ih cA hg QV).mono ?_;rintro r4 w4 ⟨mX,aA⟩;cases bX:cj E a.body st with
  | error e4=>
   rw [bX] at mX;obtain ⟨cz,bA,bS,rfl,bo,QD,lc4,jd⟩:=mX;(try simp only [go_sem,simprocAttr]);refine bL (cs:=cJ) rfl rfl (aA.at ci n6) bA rfl bS ?_;intro w5 hb aD eN;(try simp only [go_sem,simprocAttr,aE,RV.ev,az (n:=3) hb bA,aF]);exact ⟨⟨cz,bA,bS,rfl,bo,_,_,(jd.side aD (fun b hb=>.inr hb) (gQ hc zw)).sub (fun b hb=>.inl hb) hc.bt⟩,((an bn).trans aA).step aD (fun b hb hl=>by omega)⟩
  | ok y1=>
   rw [bX] at mX;obtain ⟨⟨cz,rfl,yn⟩,jd⟩:=mX;(try simp only [go_sem,simprocAttr]);refine bL (cs:=cJ) rfl rfl (aA.at ci n6) yn.len rfl yn.one ?_;intro w5 hb aD eN;(try simp only [go_sem,simprocAttr,aE,RV.ev,az (n:=3) hb yn.len,aF]);exact ⟨re jd yn aD hc.bt (gQ hc zw),((an bn).trans aA).step aD (fun b hb hl=>by omega)⟩
 | false=>
  have iI:a.kind=1:=by simpa using hk
  have d3:Mod (fun _=>False) w3 w3.drew:=(Mod.refl _ _).drew;have sX:=cA.aB d3;(try simp only [go_sem,simprocAttr,cell_of cA.box,cell_of ba,Value.cells]);have zr:∀ b∈[w.heap.size,M.c],b < w3.drew.heap.size:=fun b hb=>by
   have e:w3.drew.heap.size=w3.heap.size:=rfl;rcases List.mem_cons.1 hb with rfl | hb
   ·omega
   ·rw [List.mem_singleton.1 hb];have:=cA.lt _ (cA.bt M.c (by simp [Ms.list]));omega
  refine ES (Rr:=q8 w3.drew (Out (aL S wb.heap.size) w3.drew)) (k:=a.aZ) (b0:=M.mc) (kt:=9) (et:=158) (zc:=[.pointer none,I 0]) rfl rfl rfl rfl (fun w=>Tryz.zeroValue158 w) ⟨rfl,aS rfl (aS rfl dE)⟩ rfl sX.cons
   (fun v y hr=>by obtain ⟨ad,rfl,_⟩:=hr;exact ⟨[.pointer (some ad),I y.2],rfl,rfl,aS rfl (aS rfl dE)⟩) (fun p hp=>by
    simp only [List.mem_cons,List.not_mem_nil,or_false] at hp
    rcases hp with rfl | rfl<;>exact zr _ (by simp)) (by decide) ?_
  intro w4 po cz u hold g8 g9 dW oO BW bS uj;have aA:Mod (fun _=>False) w3 w4:=oO.eF;have dW:w4.heap[w3.heap.size]? = some (.cells cz.toArray 158 (0,0)):=dW;have g8:po.get 8=some (ptr w3.heap.size):=g8;have g0:po.get 0=some (ptr M.c):=(hold 0 (by decide)).trans rfl;have g4:po.get 4=some (ptr w.heap.size):=(hold 4 (by decide)).trans rfl;have g5:po.get 5=some (ptr wa.heap.size):=(hold 5 (by decide)).trans rfl;have g6:po.get 6=some (ptr wb.heap.size):=(hold 6 (by decide)).trans rfl;have z4:=aA.size;have ci:=aA.at ci _root_.id;have bG:=aA.at bG _root_.id;have ba:=aA.at ba _root_.id;have j7:=cA.aB aA
  have El:mT E of a.kind a.aZ a.vars (cj E a.body) st=(match aG E.cons a.aZ with
   | none=>.error 82
   | some x=>if (!aQ x.1.name of.name)=true then .error 82
    else if (((dk x.1 x.2).length:Int) != a.vars.length)=true then .error 84
    else match nG a.vars st.1 with
     | .error e=>.error e
     | .ok bd=>match ij x.1.params of.args a.vars (dk x.1 x.2) st.2 with
      | .error e=>.error e
      | .ok lc=>match cj E a.body (bd,lc) with
       | .error e=>.error e
       | .ok y=>.ok (y.1,(y.2.1,iH a.vars y.2.2))):=by rw [mT,if_neg (by rw [hk];simp)];rfl
  rw [El];rcases uj with ⟨hn,rfl⟩ | ⟨x,hx,⟨ad,yo,sY,iP⟩,rfl⟩
  ·rw [hn];(try simp only [go_sem,simprocAttr,g0,g4,g5,g6,g8,g9]);refine gz (w3:=w4.drew) hc zw ci ((an (bn.trans aA)).trans (Mod.refl _ _).drew) (j7.aB (Mod.refl _ _).drew) rfl rfl ?_;intro w5 hb aD bh;(try simp only [go_sem,simprocAttr,aE,RV.ev,az (n:=3) hb rfl,aF]);exact ⟨.bad (by decide) bh,aD⟩
  ·rw [hx];have yo:cz=[.pointer (some ad),I x.2]:=by
    have:cz.toArray = #[.pointer (some ad),I x.2]:=by cases yo;rfl
    have:=congrArg Array.toList this
    simpa using this
   subst yo;obtain ⟨cs,bH,vp,vc,rfl,gk,gP⟩:=sY;have d34:Mod (fun _=>False) w3.drew w4:=oO;have k0:w4.cell? ad=some (.string x.1.name):=(bH.up d34 aC (fun _ h=>h)).c0 (by simp);have kn:w4.cell? ⟨wa.heap.size,1,none⟩=some (.string of.name):=by rw [cell_of bG];rfl
   (try simp only [go_sem,simprocAttr,g0,g4,g5,g6,g8,g9,cell_of dW,k0,kn]);cases jw:x.1.name.toList == of.name.toList with
   | false=>
    rw [if_pos (by rw [aQ,jw];rfl)];(try simp only [go_sem,simprocAttr]);refine gz (w3:=w4.drew) hc zw ci ((an (bn.trans aA)).trans (Mod.refl _ _).drew) (j7.aB (Mod.refl _ _).drew) rfl rfl ?_;intro w5 hb aD bh;(try simp only [go_sem,simprocAttr,aE,RV.ev,az (n:=3) hb rfl,aF]);exact ⟨.bad (by decide) bh,aD⟩
   | true=>
    have Cq:aQ x.1.name of.name=true:=jw;rw [if_neg (by rw [Cq];simp)];have QW:=Qn hE hx Cq eS.1 (mP iI);obtain ⟨ac,cc,rfl⟩:=a7 gP;obtain ⟨app,mn,rfl⟩:=a7 gk;have data:∀ {w':World},Mod M.two w4 w'→gj w' (Out (aL S wb.heap.size) w') ad [.string x.1.name,.slice app x.1.params.length mn,.slice ac x.1.cons.length cc]∧aT w' (.slice app x.1.params.length mn) 1 (Out (aL S wb.heap.size) w') gw x.1.params∧aT w' (.slice ac x.1.cons.length cc) 2 (Out (aL S wb.heap.size) w') (eL w' (Out (aL S wb.heap.size) w')) x.1.cons:=fun hm=>by
     have bB:Mod (aL S wb.heap.size) w3.drew _:=(an d34).trans (hm.aU S3);exact ⟨bH.up bB aK (aX bB),gk.up bB aK (aX bB) (fun _ _ h=>h),gP.up bB aK (aX bB) (fun _ _ h=>h.up bB aK (aX bB))⟩
    obtain ⟨q1,q2,q3⟩:=data (Mod.refl _ w4);have k2:w4.cell? ⟨ad.block,ad.off+2,none⟩=some (.slice ac x.1.cons.length cc):=q1.at (k:=2) (by simp);obtain ⟨adc,cc2,rr,ee,⟨vf,rfl,jt,_⟩,_,_,ie⟩:=eh q3 iP;obtain ⟨rfl,-,-⟩:=bY ee;obtain ⟨af,cf,rfl⟩:=a7 jt;have kf:w4.cell? ((adc.add (x.2*2)).add 1)=some (.slice af x.1.cons[x.2].fields.length cf):=ie 1 (by simp);rw [add_pos _ (by decide)] at kf;have b1:(0:Int)≤x.2∧(x.2:Int) < x.1.cons.length:=by omega
    have gX:dk x.1 x.2=x.1.cons[x.2].fields:=by simp [dk,List.getD,iP]
    have QX:=(hE.cons _ _ hx).2;rw [gX] at QX;rw [gX];generalize ajP:x.1.cons[x.2].fields=fields at *;have kv:w4.cell? ⟨w.heap.size,3,none⟩=some (.slice av a.vars.length cv):=by rw [cell_of ba];rfl
    (try simp only [go_sem,simprocAttr,bq,br,cell_of dW,k2,b1,kf,kv]);cases bo:((fields.length:Int) != a.vars.length) with
    | true=>
     rw [if_pos rfl];(try simp only [go_sem,simprocAttr]);refine gz (w3:=w4.drew.drew) hc zw ci ((an (bn.trans aA)).trans (Mod.refl _ _).drew.drew) (j7.aB (Mod.refl _ _).drew.drew) rfl rfl ?_;intro w5 hb aD bh;(try simp only [go_sem,simprocAttr,aE,RV.ev,az (n:=3) hb rfl,aF]);exact ⟨.bad (by decide) bh,aD⟩
    | false=>
     rw [if_neg (by simp)];have hlen:fields.length=a.vars.length:=by
      have:(fields.length:Int)=a.vars.length:=by simpa using bo
      omega
     (try simp only [go_sem,simprocAttr,kv]);have gl:Mod (fun _=>False) w3 w4.drew.drew:=aA.drew.drew;have fg:=bn.trans gl;have je:=cA.aB gl;have Kr:=dB mh;have names:∀ {w':World},Mod M.two w4 w'→aT w' (.slice av a.vars.length cv) 1 (Out (aL S wb.heap.size) w3) gw a.vars:=fun hm=>
      acQ.up ((an aA).trans hm) (fun b hb hh=>hb.2 (S3 b hh)) (fun _ h=>h) (fun _ _ h=>h)
     have ET:∀ {w':World},Mod M.two w4 w'→w'.heap[wb.heap.size]? = some (.cells cJ.toArray dV (0,0)):=fun hm=>hm.at ci n6
     have EU:∀ {w':World},Mod M.two w4 w'→Mod M.two w w':=fun hm=>(an (bn.trans aA)).trans hm
     refine fe a.vars.length (fun k ρ w'=>k≤a.vars.length∧Mod M.two w4 w'∧(∃ ri,bP w' (aL S wb.heap.size) M E ri st.2∧nG (a.vars.drop k) ri=nG a.vars st.1)∧ρ=[(0,ptr M.c),(4,ptr w.heap.size),(5,ptr wa.heap.size),(6,ptr wb.heap.size),(8,ptr w3.heap.size),(10,.slice af fields.length cf),(71,.slice av a.vars.length cv),(72,I a.vars.length),(73,I k)])
      ⟨by omega,(Mod.refl _ _).drew.drew,⟨st.1,je,rfl⟩,rfl⟩ Kr ?_ ?_ (by decide) ?_
     ·rintro k _ w6 ⟨hk,_,_,rfl⟩;exact ⟨rfl,rfl,hk⟩
     ·rintro k _ w6 ⟨_,aJ,⟨ri,bh,mJ⟩,rfl⟩ hk;obtain ⟨EV,QY,ev,Ks,kq⟩:=sH (names aJ) hk;obtain ⟨rfl,-,-⟩:=bY ev;have bv:(0:Int)≤k∧(k:Int) < a.vars.length:=by omega
      rw [acL hk] at mJ;(try simp only [go_sem,simprocAttr,bq,br,bv,kq]);refine aI (by rfl) ?_;refine (Ee _ Ks).mono ?_;rintro _ _ ⟨rfl,rfl⟩;cases oP:jU a.vars[k] with
      | false=>
       rw [if_pos (by rw [oP];rfl)] at mJ;rw [← mJ];(try simp only [go_sem,simprocAttr]);refine gz hc zw (ET aJ) (EU aJ) bh rfl rfl ?_;intro w7 hb aN rq;(try simp only [go_sem,simprocAttr,aE,RV.ev,az (n:=3) hb rfl,aF]);exact ⟨.bad (by decide) rq,aN⟩
      | true=>
       (try simp only [go_sem,simprocAttr,cell_of bh.box]);refine yb ?_;refine vO (k:=a.vars[k]) (b:=M.mb) (kt:=9) (et:=3) rfl rfl rfl rfl (zI _) bh.gF ?_;have iG:decide ((aG ri a.vars[k]).getD 0 > 0)=has ri a.vars[k]:=rfl;cases hh:has ri a.vars[k] with
       | true=>
        rw [hh] at iG;rw [if_pos (by rw [hh];simp)] at mJ;rw [← mJ];(try simp only [go_sem,simprocAttr,iG]);refine gz hc zw (ET aJ) (EU aJ) bh rfl rfl ?_;intro w7 hb aN rq;(try simp only [go_sem,simprocAttr,aE,RV.ev,az (n:=3) hb rfl,aF]);exact ⟨.bad (by decide) rq,aN⟩
       | false=>
        rw [hh] at iG;rw [if_neg (by rw [oP,hh];simp)] at mJ;(try simp only [go_sem,simprocAttr,iG,cell_of bh.box]);refine acr (n:=a.vars[k]) bh rfl rfl rfl ?_;intro w7 jf aN jX;(try simp only [go_sem,simprocAttr]);exact ⟨hk,aJ.trans aN,_,jf,mJ⟩
     rintro _ w6 ⟨_,aJ,⟨bd,jz,mJ⟩,rfl⟩;rw [List.drop_length,nG] at mJ;rw [← mJ];have kv6:w6.cell? ⟨w.heap.size,3,none⟩=some (.slice av a.vars.length cv):=by rw [cell_of (aJ.at ba n4)];rfl
     (try simp only [go_sem,simprocAttr,kv6]);have n8:¬ M.two w3.heap.size:=eP hc (by have:=bn.size;omega);obtain ⟨rows,jW,mQ,eW⟩:=jt;refine fe a.vars.length (fun k ρ w'=>k≤a.vars.length∧Mod M.two w4 w'∧(∃ ik,bP w' (aL S wb.heap.size) M E bd ik∧df E ik∧ij x.1.params of.args (a.vars.drop k) (fields.drop k) ik=ij x.1.params of.args a.vars fields st.2)∧ρ=[(0,ptr M.c),(4,ptr w.heap.size),(5,ptr wa.heap.size),(6,ptr wb.heap.size),(8,ptr w3.heap.size),(10,.slice af fields.length cf),(97,.slice av a.vars.length cv),(98,I a.vars.length),(99,I k)])
      ⟨by omega,aJ,⟨st.2,jz,hg,rfl⟩,rfl⟩ Kr ?_ ?_ (by decide) ?_
     ·rintro k _ w7 ⟨hk,_,_,rfl⟩;exact ⟨rfl,rfl,hk⟩
     ·rintro k _ w7 ⟨_,aN,⟨ik,bh,kI,wj⟩,rfl⟩ hk;obtain ⟨EV,QY,ev,Ks,kq⟩:=sH (names aN) hk;obtain ⟨rfl,-,-⟩:=bY ev;have bv:(0:Int)≤k∧(k:Int) < a.vars.length:=by omega
      have Kt:k < fields.length:=by omega
      have bf:(0:Int)≤k∧(k:Int) < fields.length:=by omega
      have S4:∀ b,Out (aL S wb.heap.size) w4 b→¬ M.two b:=fun b hb hh=>hb.2 (S3 b hh)
      have EW:Mod (aL S wb.heap.size) w4 w7:=aN.aU S3;have acS:=jW.up EW aK (aX EW);obtain ⟨Ey,cf2,ef,acT,QZ⟩:=D7 acS.1 (i:=k) (by omega);have kJ:=pa acT QZ;have acU:(Ey.add (k*3)).block < w7.heap.size:=by have:=lU (QZ 0 (by omega));rwa [tO] at this
      obtain ⟨rfl,-,-⟩:=bY ef;have uv:aW w7 (Out (aL S wb.heap.size) w7) rows[k] fields[k]:=(eW k _ _ (List.getElem?_eq_getElem (by omega)) (List.getElem?_eq_getElem Kt)).aB EW;obtain ⟨Cr,Ku,q3'⟩:=data aN;have Q0:w7.cell? ⟨ad.block,ad.off+1,none⟩=some (.slice app x.1.params.length mn):=Cr.at (k:=1) (by simp);have Q1:w7.cell? ⟨w3.heap.size,0,none⟩=some (.pointer (some ad)):=by rw [cell_of (aN.at dW n8)];rfl
      have Q2:w7.cell? ⟨wa.heap.size,2,none⟩=some (.slice ao of.args.length co):=by rw [cell_of (aN.at bG n5)];rfl
      have acV:aT w7 (.slice ao of.args.length co) 3 (Out (aL S wb.heap.size) w7) (aW w7 (Out (aL S wb.heap.size) w7)) of.args:=by
       have bB:Mod (aL S wb.heap.size) w3 w7:=(an aA).trans EW;exact acR.up bB aK (aX bB) (fun _ _ h=>h.aB bB)
      rw [acM hk Kt] at wj;(try simp only [go_sem,simprocAttr,bq,br,bv,kq,bf,kJ,Q1,Q0,Q2,b9]);obtain ⟨zp1,zp2,zp3⟩:=data aN.drew;have Q3:x7 w7.drew (aL S wb.heap.size) (.slice app x.1.params.length mn) (.slice ao of.args.length co) x.1.params of.args:=⟨zp2,xX acV (Mod.refl (aL S wb.heap.size) _).drew,Nat.le_of_eq QW⟩;have Q4:aW w7.drew (Out (aL S wb.heap.size) w7.drew) rows[k] fields[k]:=uv.aB (Mod.refl _ _).drew;have Af:=lU Q2;have acW:=lU Q1;have acX:=lU Q0;have zd:w7.drew.heap.size=w7.heap.size:=rfl;have Kv:=bh.aB (Mod.refl (fun _=>False) w7).drew;have Q5:∀ b,aL S wb.heap.size b→b < w7.drew.heap.size:=Kv.lt;refine acK (Ms:=fun _=>False) (vs:=[.agg rows[k].toArray,.slice app x.1.params.length mn,.slice ao of.args.length co])
       (Post:=fun w' cz u=>u = .bool (decide ((eX x.1.params of.args fields[k]).2≥0))∧aW w' (Out (aL S wb.heap.size) w') cz (eX x.1.params of.args fields[k]).1)
       (PA:=fun w' cz u=>u = .bool (decide ((eX x.1.params of.args fields[k]).2≥0))∧aW w' (Out (aL S wb.heap.size) w') cz (eX x.1.params of.args fields[k]).1)
       (PB:=fun w' cz u=>u = .bool (decide ((eX x.1.params of.args fields[k]).2≥0))∧aW w' (Out (aL (aL S wb.heap.size) w7.drew.heap.size) w') cz (eX x.1.params of.args fields[k]).1)
       rfl (fun v=>rfl) rfl (fun _ _ h=>h) (fun p hp=>by
        simp only [List.mem_cons,List.not_mem_nil,or_false] at hp
        rcases hp with rfl | rfl | rfl | rfl<;>(rw [zd];first | exact Af | exact acX | exact acW | exact acU)) ?_ ?_ ?_ ?_ (by decide) ?_
      ·refine (JS fields[k] Q4 Q3 Q5).mono ?_;rintro _ w8 ⟨⟨cz,rfl,mg⟩,bg⟩;exact ⟨cz,_,rfl,mg.len,mg.one,⟨rfl,mg⟩,bg⟩
      ·intro w8 bg mR;have eE:∀ b,b < w7.drew.heap.size→aL (aL S wb.heap.size) w7.drew.heap.size b→aL S wb.heap.size b:=fun b hb hh=>by
        rcases hh with h | h
        ·exact h
        ·omega
       refine (JS fields[k] (Q4.ext (an bg) eE) (Q3.ext (an bg) eE) (fun b hb=>by
        rcases hb with h | h
        ·have:=Q5 b h;omega
        ·omega)).mono ?_
       rintro _ w9 ⟨⟨cz,rfl,mg⟩,aV⟩;exact ⟨cz,_,rfl,mg.len,mg.one,⟨rfl,mg⟩,aV⟩
      ·rintro w8 cz u w9 ⟨rfl,h8⟩ aV;exact ⟨rfl,h8.aB (an aV)⟩
      ·rintro w8 cz u w9 ⟨rfl,h8⟩ aV;exact ⟨rfl,(h8.aB (aV.aU (fun b hb=>.inr hb))).sub (fun b hb=>.inl hb)⟩
      intro w8 lz ru cz u hold wk uz pq ajQ rj bA bS acY;have bg:Mod (fun _=>False) w7 w8:=rj.eF;obtain ⟨rfl,mg⟩:=acY;have e0:lz.get 0=some (ptr M.c):=(hold 0 (by decide)).trans rfl;have e4:lz.get 4=some (ptr w.heap.size):=(hold 4 (by decide)).trans rfl;have e5:lz.get 5=some (ptr wa.heap.size):=(hold 5 (by decide)).trans rfl;have e6:lz.get 6=some (ptr wb.heap.size):=(hold 6 (by decide)).trans rfl;have e8:lz.get 8=some (ptr w3.heap.size):=(hold 8 (by decide)).trans rfl;have sW:lz.get 10=some (.slice (some Ey) fields.length cf):=(hold 10 (by decide)).trans rfl;have EX:lz.get 14=some (.string a.vars[k]):=(hold 14 (by decide)).trans rfl;have Q6:lz.get 97=some (.slice (some EV) a.vars.length cv):=(hold 97 (by decide)).trans rfl;have Q7:lz.get 98=some (I a.vars.length):=(hold 98 (by decide)).trans rfl;have Q8:lz.get 99=some (I k):=(hold 99 (by decide)).trans rfl;have me:=bh.aB bg;cases km:decide ((eX x.1.params of.args fields[k]).2≥0) with
      | false=>
       have EY:¬ (eX x.1.params of.args fields[k]).2≥0:=by simpa using km
       rw [if_neg EY] at wj;rw [← wj];rw [km] at uz;(try simp only [go_sem,simprocAttr,e0,e4,e5,e6,e8,sW,EX,Q6,Q7,Q8,wk,uz]);refine gz hc zw (ET (aN.trans (an bg))) (EU (aN.trans (an bg))) me rfl rfl ?_;intro w9 hb aV rq;(try simp only [go_sem,simprocAttr,aE,RV.ev,az (n:=3) hb rfl,aF]);exact ⟨.bad (by decide) rq,aV⟩
      | true=>
       have EY:(eX x.1.params of.args fields[k]).2≥0:=by simpa using km
       rw [if_pos EY] at wj;rw [km] at uz;have sE:Good E (eX x.1.params of.args fields[k]).1:=JZ (fun b hb=>B3 eS hb) (Nat.le_of_eq QW) (QX _ (List.getElem_mem Kt)) EY;(try simp only [go_sem,simprocAttr,e0,e4,e5,e6,e8,sW,EX,Q6,Q7,Q8,wk,uz,cell_of me.box,az (n:=3) pq bA]);refine Kc (n:=a.vars[k]) (me.aB (Mod.refl _ _).drew) rfl rfl rfl (mg.aB (Mod.refl _ _).drew) ?_;intro w9 Cs aV gA;(try simp only [go_sem,simprocAttr]);exact ⟨hk,(aN.trans (an bg)).trans aV.eF,_,Cs,kI.put sE,wj⟩
     ·rintro _ w7 ⟨_,aN,⟨ik,bh,kI,wj⟩,rfl⟩;rw [List.drop_length,acO] at wj;rw [← wj];have kb7:=aN.at ba n4;have k2:=iN (off:=4) (n:=7) kb7 (by simp [Value.cells];omega);simp only [List.drop_succ_cons,List.drop_zero] at k2;rw [List.take_of_length_le (by omega)] at k2;(try simp only [go_sem,simprocAttr,k2]);refine aI (by rfl) ?_;have acZ:bE w7 (Out (aL S wb.heap.size) w7) ec a.body:=(QV.aB (an aA)).aB (aN.aU S3);refine (ih (st:=(bd,ik)) bh kI acZ).mono ?_;rintro r8 w8 ⟨mY,bg⟩;have key:∃ cz u,r8 = .tuple #[.agg cz.toArray,u]∧cz.length=3∧(∀ u∈cz,u.oneCell'=true)∧Kept w8 (aL S wb.heap.size) M E cz u (cj E a.body (bd,ik)):=by
       cases bX:cj E a.body (bd,ik) with
       | error e4=>rw [bX] at mY;obtain ⟨cz,bA,bS,rfl,bo,bh⟩:=mY;exact ⟨cz,_,rfl,bA,bS,rfl,bo,bh⟩
       | ok y1=>rw [bX] at mY;obtain ⟨⟨cz,rfl,bw⟩,bh⟩:=mY;exact ⟨cz,_,rfl,bw.len,bw.one,rfl,bw,bh⟩
      obtain ⟨cz,u,rfl,bA,bS,cU⟩:=key;(try simp only [go_sem,simprocAttr]);refine cM ?_;intro w9 dL aV gA;(try simp only [go_sem,simprocAttr]);refine bL (cs:=cJ) rfl rfl dL bA rfl bS ?_;intro cT gy bJ pW;have gS:Mod (fun _=>False) w8 cT:=aV.step bJ (fun b hb hl=>by omega);have Kw:Mod M.two w4 cT:=(aN.trans bg).trans (an gS);have Q9:cT.cell? ⟨w.heap.size,3,none⟩=some (.slice av a.vars.length cv):=by rw [cell_of (Kw.at ba n4)];rfl
      have ajR:cT.cell? ((⟨w.heap.size,0,none⟩:Addr).add 3)=some (.slice av a.vars.length cv):=Q9;(try simp only [go_sem,simprocAttr,Q9]);have ac0:∃ dN gG,bP cT (aL S wb.heap.size) M E dN gG∧(∀ y,cj E a.body (bd,ik) = .ok y→dN=y.2.1∧gG=y.2.2):=by
       cases bX:cj E a.body (bd,ik) with
       | error e4=>rw [bX] at cU;obtain ⟨_,_,qa,nK,k3⟩:=cU;exact ⟨qa,nK,k3.aB gS,fun y h=>by cases h⟩
       | ok y1=>rw [bX] at cU;exact ⟨_,_,cU.2.2.aB gS,fun y h=>by cases h;exact ⟨rfl,rfl⟩⟩
      obtain ⟨qa,nK,pj,Km⟩:=ac0;have z7:=aN.size;have z8:=bg.size;have z3:=bn.size;have n17:¬ M.two w8.heap.size:=eP hc (by omega);refine fe a.vars.length (fun k ρ w'=>k≤a.vars.length∧Mod M.two cT w'∧(∃ ik,bP w' (aL S wb.heap.size) M E qa ik∧iH (a.vars.drop k) ik=iH a.vars nK)∧ρ=[(0,ptr M.c),(6,ptr wb.heap.size),(17,ptr w8.heap.size),(18,u),(137,.slice av a.vars.length cv),(138,I a.vars.length),(139,I k)])
       ⟨by omega,.refl _ _,⟨nK,pj,rfl⟩,rfl⟩ Kr ?_ ?_ (by decide) ?_
      ·rintro k _ fD ⟨hk,_,_,rfl⟩;exact ⟨rfl,rfl,hk⟩
      ·rintro k _ fD ⟨_,dO,⟨ac1,oQ,rm⟩,rfl⟩ hk;obtain ⟨EV,QY,ev,Ks,kq⟩:=sH (names (Kw.trans dO)) hk;obtain ⟨rfl,-,-⟩:=bY ev;have bv:(0:Int)≤k∧(k:Int) < a.vars.length:=by omega
       rw [acN hk] at rm;(try simp only [go_sem,simprocAttr,bq,br,bv,kq,cell_of oQ.box]);refine EJ (n:=a.vars[k]) rfl oQ rfl rfl ?_;intro p8 ac2 fU EM;(try simp only [go_sem,simprocAttr]);exact ⟨hk,dO.trans fU,_,ac2,rm⟩
      rintro _ fD ⟨_,dO,⟨ac1,oQ,rm⟩,rfl⟩;rw [List.drop_length,iH] at rm;subst rm;have nJ:=dO.at gy n17;have Ra:=Kw.trans dO;(try simp only [go_sem,simprocAttr,az (n:=3) nJ bA]);refine bL (cs:=cJ) rfl rfl (ET Ra) bA rfl bS ?_;intro p8 vN fU EM;have kH:Mod M.two w p8:=(EU Ra).step fU (fun b hb hl=>by omega);cases bX:cj E a.body (bd,ik) with
      | error e4=>
       rw [bX] at cU;obtain ⟨rfl,bo,_⟩:=cU;(try simp only [go_sem,simprocAttr,aE,RV.ev,az (n:=3) vN bA,aF]);exact ⟨⟨cz,bA,bS,rfl,bo,_,_,(oQ.side fU (fun b hb=>.inr hb) (gQ hc zw)).sub (fun b hb=>.inl hb) hc.bt⟩,kH⟩
      | ok y1=>
       obtain ⟨t1,dG⟩:=y1;obtain ⟨rfl,rfl⟩:=Km _ bX;rw [bX] at cU;obtain ⟨rfl,bw,_⟩:=cU;(try simp only [go_sem,simprocAttr,aE,RV.ev,az (n:=3) vN bA,aF]);exact ⟨re (st:=(dG.1,iH a.vars dG.2)) oQ ((bw.aB (an gS)).aB (dO.aU S3)) fU hc.bt (gQ hc zw),kH⟩
end
section
open Go Go.W
theorem ac4 {E:Env} {all:List Al} {of:Ty} {i:Nat} (hi:i < all.length) (first:Ty) (st:St):fV E all of (all.drop i) i first st =
   if l9 all i of=false then .error 84
   else match mT E of all[i].kind all[i].aZ all[i].vars (cj E all[i].body) st with
    | .error x=>.error x
    | .ok y=>if i=0 then fV E all of (all.drop (i+1)) (i+1) y.1 y.2 else if gg y.1 first=true then fV E all of (all.drop (i+1)) (i+1) first y.2 else .error 83:=by
 rw [List.drop_eq_getElem_cons hi,B4];rfl
theorem uA {w:World} {S:Nat→Prop} {M:Ms} {E:Env} {r:Value} {x:Except Int (Ty×St)} (h:p7 w S M E r x):∃ cz u,r = .tuple #[.agg cz.toArray,u]∧cz.length=3∧(∀ u∈cz,u.oneCell'=true)∧Kept w S M E cz u x:=by
 cases x with
 | error e4=>obtain ⟨cz,bA,bS,rfl,bo,bh⟩:=h;exact ⟨cz,_,rfl,bA,bS,rfl,bo,bh⟩
 | ok y1=>obtain ⟨⟨cz,rfl,bw⟩,bh⟩:=h;exact ⟨cz,_,rfl,bw.len,bw.one,rfl,bw,bh⟩
theorem ac5 {E:Env} (hE:lq E) (gm:dy E iR 0=false) {e x:Ex} (fr:e.args=[x]) (bo:e.alts≠[]) (iD:sU E x) (o8:∀ a∈e.alts,sU E a.body) {w:World} {S:Nat→Prop} {M:Ms} {st:St} {cs:List Value} (hc:bP w S M E st.1 st.2) (hg:df E st.2) (h:bE w (Out S w) cs e) :
   a8 Tryz.prog 70 [ptr M.c,.agg cs.toArray] w fun r w'=>p7 w' S M E r (match cG E e.args st with
    | .error x=>.error x
    | .ok y=>if ((y.1.headD default).kind != 1&&(y.1.headD default).kind != 4)=true then .error 83 else fV E e.alts (y.1.headD default) e.alts 0 default y.2)∧Mod M.two w w':=by
 obtain ⟨ajS,ac6,jQ⟩:=h.cap;obtain ⟨vt,va,vb,vl,rfl,ht,ha,hb,hl⟩:=h.parts;obtain ⟨aa,ca,rfl⟩:=a7 ha;obtain ⟨al,cl,rfl⟩:=a7 hl;have lV:=dB hl;cases ac6;refine ZS.calls rfl ?_;unfold IF;(try simp only [go_sem,simprocAttr]);refine bD rfl ?_;intro wa jA jB oZ;(try simp only [go_sem,simprocAttr]);refine cM ?_;intro wb ba fQ yj;have aM:=fQ.at jA _root_.id;have sZ:=jB.trans fQ;have za:=jB.size
 have kV:bP wb (aL S wa.heap.size) M E st.1 st.2:=hc.ext sZ (eI za) (fun b hb=>.inl hb) (fun b hb=>by
  rcases hb with h | h
  ·have:=hc.lt b h;omega
  ·omega)
 have Sb:=kV.two;have n3:¬ M.two w.heap.size:=eP hc (Nat.le_refl _);have n4:¬ M.two wa.heap.size:=eP hc za;have lx:e.args.length=1:=by rw [fr];rfl
 have rh:aT wb (.slice aa e.args.length ca) 7 (Out (aL S wa.heap.size) wb) (bE wb (Out (aL S wa.heap.size) wb)) e.args:=ha.up sZ aC (eH (an sZ) (eI za)) (fun _ _ h=>h.ext (an sZ) (eI za));have oA:aT wb (.slice al e.alts.length cl) 11 (Out (aL S wa.heap.size) wb) (iO wb (Out (aL S wa.heap.size) wb)) e.alts:=hl.up sZ aC (eH (an sZ) (eI za)) (fun _ _ h=>h.up sZ aC (eH (an sZ) (eI za)));obtain ⟨Ag,ca2,ra,ea,ny,Rb⟩:=uu rh (i:=0) (by omega);obtain ⟨rfl,-,-⟩:=bY ea;have ac7:e.args[0]'(by omega)=x:=by simp [fr]
 rw [ac7] at ny;have b1:(0:Int)≤0∧(0:Int) < e.args.length:=by omega
 rw [Nat.zero_mul,add_zero'] at Rb;have oN:cG E e.args st=(match cj E x st with | .error e=>.error e | .ok y=>.ok ([y.1],y.2)):=by
  rw [fr];simp only [cG];cases cj E x st<;>rfl
 rw [oN];(try simp only [go_sem,simprocAttr,bq,br,cell_of aM,Value.cells,b1,Nat.zero_mul,Rb]);refine aI (by rfl) ?_;refine (iD kV hg ny).mono ?_;rintro r3 wc ⟨mV,kG⟩;have zc:=kG.size;cases bX:cj E x st with
 | error e3=>
  rw [bX] at mV;obtain ⟨cz,bA,bS,rfl,gR,EH,B8,jd⟩:=mV;(try simp only [go_sem,simprocAttr]);refine dp (n:=3) (vs:=cz) rfl bA bS ?_;intro w4 ci aA eG;have gR:(e3 != 0)=true:=by simpa using gR
  (try simp only [go_sem,simprocAttr,gR]);refine gz hc za ((kG.trans (an aA)).at ba n4) ((an sZ).trans (kG.trans (an aA))) (jd.aB aA) rfl rfl ?_;intro w5 bG aD bh;(try simp only [go_sem,simprocAttr,aE,RV.ev,az (n:=3) bG rfl,aF]);exact ⟨.bad (by simpa using gR) bh,aD⟩
 | ok y1=>
  obtain ⟨of,dG⟩:=y1;have Kx:=sR hE gm x _ _ hg bX;rw [bX] at mV;obtain ⟨⟨ct,rfl,bw⟩,ie⟩:=mV;(try simp only [go_sem,simprocAttr]);refine dp (n:=3) (vs:=ct) rfl bw.len bw.one ?_;intro we ci EZ Cq;have wl:Mod M.two wb we:=kG.trans (an EZ);have Ky:=ie.aB EZ;obtain ⟨vo,rfl,Kq⟩:=bw.cells;have kk:we.cell? ⟨wc.heap.size,0,none⟩=some (I of.kind):=by rw [cell_of ci];rfl
  have bad:(of.kind != 1&&of.kind != 4)=true→(if (([of].headD default).kind != 1&&([of].headD default).kind != 4)=true then (.error 83:Except Int (Ty×St)) else fV E e.alts ([of].headD default) e.alts 0 default dG) = .error 83:=fun h=>if_pos h
  have dT:(of.kind != 1&&of.kind != 4)=false→(if (([of].headD default).kind != 1&&([of].headD default).kind != 4)=true then (.error 83:Except Int (Ty×St)) else fV E e.alts ([of].headD default) e.alts 0 default dG)=fV E e.alts of e.alts 0 default dG:=fun h=>if_neg (show ¬ (of.kind != 1&&of.kind != 4)=true by rw [h];simp)
  simp only [];(try simp only [go_sem,simprocAttr,kk]);refine Bz (fun ρ w'=>we=w'∧ρ.get 33=some (.bool (of.kind != 1&&of.kind != 4))∧ρ.get 0=some (ptr M.c)∧ρ.get 3=some (ptr w.heap.size)∧ρ.get 4=some (ptr wa.heap.size)∧ρ.get 6=some (ptr wc.heap.size)) ?_ ?_
  ·cases h1:of.kind != 1 with
   | false=>(try simp only [go_sem,simprocAttr]);rfl
   | true=>(try simp only [go_sem,simprocAttr,kk])
  rintro ρ _ ⟨rfl,uB,g0,g3,g4,g6⟩;have zwe:=EZ.size;have Rc:Mod M.two w we:=(an sZ).trans wl;cases sk:(of.kind != 1&&of.kind != 4) with
  | true=>
   rw [sk] at uB;rw [bad sk];(try simp only [go_sem,simprocAttr,uB,g0,g3,g4,g6]);refine gz hc za (wl.at ba n4) Rc Ky rfl rfl ?_;intro w5 bG aD bh;(try simp only [go_sem,simprocAttr,aE,RV.ev,az (n:=3) bG rfl,aF]);exact ⟨.bad (by decide) bh,aD⟩
  | false=>
   rw [sk] at uB;rw [dT sk];(try simp only [go_sem,simprocAttr,uB,g0,g3,g4,g6]);refine cM ?_;intro wf dW kH hsf;have zf:=kH.size;have Rd:=kH.at (wl.at aM n3) _root_.id;have E0:=kH.at (wl.at ba n4) _root_.id;have ac8:=kH.at ci _root_.id;have E3:∀ b,b < we.heap.size→aL (aL S wa.heap.size) we.heap.size b→aL S wa.heap.size b:=fun b hb hh=>by
    rcases hh with h | h
    ·exact h
    ·omega
   have oI:bP wf (aL (aL S wa.heap.size) we.heap.size) M E dG.1 dG.2:=Ky.ext kH E3 (fun b hb=>.inl hb) (fun b hb=>by
    rcases hb with h | h
    ·have:=Ky.lt b h;omega
    ·omega)
   have Sf:=oI.two;have no8:∀ b∈M.list,¬ b=we.heap.size:=gQ hc (by omega);have Ct:∀ b,aL S wa.heap.size b→aL (aL S wa.heap.size) we.heap.size b:=fun b hb=>.inl hb
   have E4:∀ b∈M.list,aL S wa.heap.size b:=fun b hb=>.inl (hc.bt b hb)
   have kJ:aT wf (.slice al e.alts.length cl) 11 (Out (aL (aL S wa.heap.size) we.heap.size) wf) (iO wf (Out (aL (aL S wa.heap.size) we.heap.size) wf)) e.alts:=
    (oA.up (wl.aU Sb) aK (aX (wl.aU Sb)) (fun _ _ h=>h.up (wl.aU Sb) aK (aX (wl.aU Sb)))).up kH aC (eH (an kH) E3) (fun _ _ h=>h.up kH aC (eH (an kH) E3))
   have ac9:aW wf (Out (aL (aL S wa.heap.size) we.heap.size) wf) [I of.kind,.string of.name,vo] of:=(bw.aB (an EZ)).ext (an kH) E3;have k3:wf.cell? ⟨w.heap.size,6,none⟩=some (.slice al e.alts.length cl):=by rw [cell_of Rd];rfl
   have uC:∀ {w':World},Mod (aL M.two we.heap.size) wf w'→Mod (aL (aL S wa.heap.size) we.heap.size) wf w':=fun hm=>hm.aU (fun b hb=>by
    rcases hb with h | h
    ·exact Sf b h
    ·exact .inr h)
   have back:∀ {w':World},Mod (aL M.two we.heap.size) wf w'→Mod M.two w w':=fun hm=>(Rc.trans (an kH)).step hm (fun b hb hl=>by
    rcases hb with h | h
    ·exact h
    ·omega)
   have E5:¬ aL M.two we.heap.size wa.heap.size:=fun h=>by
    rcases h with h | h
    ·exact n4 h
    ·omega
   have n38:¬ aL M.two we.heap.size w.heap.size:=fun h=>by
    rcases h with h | h
    ·exact n3 h
    ·omega
   have n68:¬ aL M.two we.heap.size wc.heap.size:=fun h=>by
    rcases h with h | h
    ·exact eP hc (by omega) h
    ·omega
   (try simp only [go_sem,simprocAttr,k3])
   refine fe e.alts.length (fun k ρ w'=>k≤e.alts.length∧Mod (aL M.two we.heap.size) wf w'∧(∃ (first:Ty) (dQ:St) (cf:List Value),w'.heap[we.heap.size]? = some (.cells cf.toArray dV (0,0))∧cf.length=3∧(∀ u∈cf,u.oneCell'=true)∧(k≠0→aW w' (Out (aL (aL S wa.heap.size) we.heap.size) w') cf first)∧bP w' (aL (aL S wa.heap.size) we.heap.size) M E dQ.1 dQ.2∧df E dQ.2 ∧
       fV E e.alts of (e.alts.drop k) k first dQ=fV E e.alts of e.alts 0 default dG)∧ρ=[(0,ptr M.c),(3,ptr w.heap.size),(4,ptr wa.heap.size),(6,ptr wc.heap.size),(8,ptr we.heap.size),(36,.slice al e.alts.length cl),(37,I e.alts.length),(38,I k)])
    ⟨by omega,.refl _ _,⟨default,dG,cJ,dW,rfl,vJ,fun h=>absurd rfl h,oI,Kx.2,rfl⟩,rfl⟩ lV ?_ ?_ (by decide) ?_
   ·rintro k _ w5 ⟨hk,_,_,rfl⟩;exact ⟨rfl,rfl,hk⟩
   ·rintro k _ w5 ⟨_,aD,⟨first,dQ,cf,Kz,j9,mM,KA,bh,kI,halt⟩,rfl⟩ hk;rw [ac4 hk] at halt;have bk:(0:Int)≤k∧(k:Int) < e.alts.length:=by omega
    have xR:=kJ.up (uC aD) aK (aX (uC aD)) (fun _ _ h=>h.up (uC aD) aK (aX (uC aD)));obtain ⟨uD,ck,rk,ek,zR,Re,ac',_⟩:=eh xR hk;obtain ⟨rfl,-,-⟩:=bY ek;(try simp only [go_sem,simprocAttr,bq,br,bk,ac']);refine dp (n:=11) (vs:=rk) rfl Re zR.one ?_;intro w6 gy aJ gN;have jg:Mod (aL M.two we.heap.size) wf w6:=aD.trans (an aJ);have Ev:=kJ.up (uC jg) aK (aX (uC jg)) (fun _ _ h=>h.up (uC jg) aK (aX (uC jg)));have vV:=ac9.aB (uC jg);have k36:w6.cell? ⟨w.heap.size,6,none⟩=some (.slice (some uD) e.alts.length cl):=by rw [cell_of (jg.at Rd n38)];rfl
    have Rf:=jg.at ac8 n68;have ade:=jg.at E0 E5;have KB:=aJ.at Kz _root_.id;have yp:=bh.aB aJ;have adg:bP w6 (aL S wa.heap.size) M E dQ.1 dQ.2:=yp.sub Ct E4;(try simp only [go_sem,simprocAttr,k36,az (n:=3) Rf rfl]);refine aI (by rfl) ?_;refine (acJ hk Ev jQ vV).mono ?_;rintro _ w7 ⟨rfl,aN⟩;have yq:=jg.trans (an aN);cases mU:l9 e.alts k of with
    | false=>
     rw [if_pos mU] at halt;rw [← halt];(try simp only [go_sem,simprocAttr]);refine gz hc za (aN.at ade _root_.id) (back yq) (adg.aB aN) rfl rfl ?_;intro w8 hb bg rq;(try simp only [go_sem,simprocAttr,aE,RV.ev,az (n:=3) hb rfl,aF]);exact ⟨.bad (by decide) rq,bg⟩
    | true=>
     rw [if_neg (by rw [mU];simp)] at halt;have EN:iO w7 (Out (aL (aL S wa.heap.size) we.heap.size) w7) rk e.alts[k]:=(zR.up (an aJ) aK (aX (an aJ))).up (an aN) aK (aX (an aN));have mP:e.alts[k].kind=1→of.kind=4:=fun h1=>ED (List.getElem?_eq_getElem hk) mU h1
     (try simp only [go_sem,simprocAttr,az (n:=11) (aN.at gy _root_.id) Re,az (n:=3) (aN.at Rf _root_.id) rfl]);refine aI (by rfl) ?_;refine (acP hE gm (o8 _ (List.getElem_mem hk)) Kx.1 mP (yp.aB aN) kI EN (vV.aB (an aN))).mono ?_;rintro r8 w8 ⟨mY,bg⟩;obtain ⟨cz,u,rfl,bA,bS,cU⟩:=uA mY;have adh:Mod (aL M.two we.heap.size) wf w8:=yq.trans (bg.aU (fun b hb=>.inl hb));have yr:∀ y,mT E of e.alts[k].kind e.alts[k].aZ e.alts[k].vars (cj E e.alts[k].body) dQ = .ok y→df E y.2.2:=fun y hy=>(Qr hE Kx.1 mP (sR hE gm e.alts[k].body) kI hy).2
     (try simp only [go_sem,simprocAttr]);refine dp (n:=3) (vs:=cz) rfl bA bS ?_;intro w9 nJ aV gA;have Ah:=adh.trans (an aV);have z57:=yq.size;have adi:¬ M.two we.heap.size:=eP hc (by omega);cases iP:mT E of e.alts[k].kind e.alts[k].aZ e.alts[k].vars (cj E e.alts[k].body) dQ with
     | error e4=>
      rw [iP] at cU halt;obtain ⟨rfl,Ai,qa,nK,me⟩:=cU;have gR:(e4 != 0)=true:=by simpa using Ai
      have halt:(Except.error e4:Except Int (Ty×St))=_:=halt;rw [← halt];(try simp only [go_sem,simprocAttr,gR]);refine gz hc za (Ah.at E0 E5) (back Ah) ((me.aB aV).sub Ct E4) rfl rfl ?_;intro cT hb bJ rq;(try simp only [go_sem,simprocAttr,aE,RV.ev,az (n:=3) hb rfl,aF]);exact ⟨.bad Ai rq,bJ⟩
     | ok y2=>
      obtain ⟨t2,bV⟩:=y2;have Rg:=yr _ iP;rw [iP] at cU halt;obtain ⟨rfl,B1,me⟩:=cU;have Rh:=B1.aB (an aV);have Cs:=me.aB aV;have KC:w9.heap[we.heap.size]? = some (.cells cf.toArray dV (0,0)):=aV.at (bg.at (aN.at KB _root_.id) adi) _root_.id;have halt:(if k=0 then fV E e.alts of (e.alts.drop (k+1)) (k+1) t2 bV else if gg t2 first=true then fV E e.alts of (e.alts.drop (k+1)) (k+1) first bV else .error 83)=fV E e.alts of e.alts 0 default dG:=halt;by_cases rp:k=0
      ·rw [if_pos rp] at halt;have zY:((k:Int) == 0)=true:=by simp [rp]
       (try simp only [go_sem,simprocAttr,zY,az (n:=3) nJ bA]);refine bL (cs:=cf) rfl rfl KC bA j9 bS ?_;intro cT adl bJ pW;(try simp only [go_sem,simprocAttr]);exact ⟨hk,Ah.trans (bJ.aU (fun b hb=>.inr hb)),t2,bV,cz,adl,bA,bS,fun _=>Rh.aB (bJ.aU (fun b hb=>.inr hb)),Cs.side bJ (fun b hb=>.inr hb) no8,Rg,halt⟩
      ·rw [if_neg rp] at halt;have zY:((k:Int) == 0)=false:=by simpa using rp
       have Ri:aW w9 (Out (aL (aL S wa.heap.size) we.heap.size) w9) cf first:=((((KA rp).aB (an aJ)).aB (an aN)).aB (bg.aU (fun b hb=>yp.two b hb))).aB (an aV);(try simp only [go_sem,simprocAttr,zY,az (n:=3) nJ bA,az (n:=3) KC j9]);refine aI (by rfl) ?_;refine (Ep t2 Rh Ri).mono ?_;rintro _ cT ⟨rfl,bJ⟩;cases bz:gg t2 first with
       | false=>
        rw [if_neg (by rw [bz];simp)] at halt;rw [← halt];(try simp only [go_sem,simprocAttr]);refine gz hc za (bJ.at (Ah.at E0 E5) _root_.id) (back (Ah.trans (an bJ))) ((Cs.aB bJ).sub Ct E4) rfl rfl ?_;intro fD hb dO rq;(try simp only [go_sem,simprocAttr,aE,RV.ev,az (n:=3) hb rfl,aF]);exact ⟨.bad (by decide) rq,dO⟩
       | true=>
        rw [if_pos bz] at halt;(try simp only [go_sem,simprocAttr]);exact ⟨hk,Ah.trans (an bJ),first,bV,cf,bJ.at KC _root_.id,j9,mM,fun _=>Ri.aB (an bJ),Cs.aB bJ,Rg,halt⟩
   ·rintro _ w5 ⟨_,aD,⟨first,dQ,cf,Kz,j9,mM,KA,bh,kI,halt⟩,rfl⟩;rw [List.drop_length,fV] at halt;rw [← halt];have hnz:e.alts.length≠0:=fun h=>bo (List.eq_nil_of_length_eq_zero h)
    have ma:=(KA hnz).sub Ct;(try simp only [go_sem,simprocAttr,az (n:=3) Kz j9]);refine bL (cs:=cJ) rfl rfl (aD.at E0 E5) j9 rfl mM ?_;intro w6 hb aJ gN;(try simp only [go_sem,simprocAttr,aE,RV.ev,az (n:=3) hb j9,aF]);exact ⟨re (bh.sub Ct E4) ma aJ hc.bt (gQ hc za),(back aD).step aJ (fun b hb hl=>by omega)⟩
end
section
open Go Go.W
theorem uE {w w':World} {S:Nat→Prop} {M:Ms} {E:Env} {cz:List Value} {u:Value} {x:Except Int (Ty×St)} {b4:Nat} (hk:Kept w (aL S b4) M E cz u x) (bA:cz.length=3) (bS:∀ u∈cz,u.oneCell'=true) (hm:Mod (· = b4) w w') (eT:∀ b∈M.list,S b) (ga:∀ b∈M.list,¬ b=b4) :
   p7 w' S M E (.tuple #[.agg cz.toArray,u]) x:=by
 cases x with
 | error e4=>
  obtain ⟨rfl,bo,bd,lc,hc⟩:=hk;exact ⟨cz,bA,bS,rfl,bo,_,_,(hc.side hm (fun b hb=>.inr hb) ga).sub (fun b hb=>.inl hb) eT⟩
 | ok y=>
  obtain ⟨rfl,bw,hc⟩:=hk;exact re hc bw hm eT ga
theorem Rj {w:World} {S:Nat→Prop} {M:Ms} {E:Env} {r:Value} {x:Except Int Ty} {st:St} (h:EA w S r x) (hc:bP w S M E st.1 st.2):∃ cz u,r = .tuple #[.agg cz.toArray,u]∧cz.length=3∧(∀ u∈cz,u.oneCell'=true)∧Kept w S M E cz u (x.map (fun t=>(t,st))):=by
 cases x with
 | error e4=>obtain ⟨cz,bA,bS,rfl,bo⟩:=h;exact ⟨cz,_,rfl,bA,bS,rfl,bo,_,_,hc⟩
 | ok y1=>obtain ⟨cz,rfl,bw⟩:=h;exact ⟨cz,_,rfl,bw.len,bw.one,rfl,bw,hc⟩
theorem adm {E:Env} (hE:lq E) (gm:dy E iR 0=false) (e:Ex):sU E e:=by
 induction e using Ex.ind with
 | h e fN oL pf=>
 intro w S M st cs hc hg he;obtain ⟨vt,va,vb,vl,rfl,ht,ha,hb,hl⟩:=he.parts;obtain ⟨at',ct,rfl⟩:=a7 ht;obtain ⟨aa,ca,rfl⟩:=a7 ha;refine Zi.calls rfl ?_;unfold Ij;(try simp only [go_sem,simprocAttr]);refine bD rfl ?_;intro wa jA jB oZ;(try simp only [go_sem,simprocAttr]);refine cM ?_;intro w2 ba fQ yj;have aM:=fQ.at jA _root_.id;have aY:=jB.trans fQ;have za:=jB.size
 have ju:bP w2 (aL S wa.heap.size) M E st.1 st.2:=hc.ext aY (eI za) (fun b hb=>.inl hb) (fun b hb=>by
  rcases hb with h | h
  ·have:=hc.lt b h;omega
  ·omega)
 have n4:¬ M.two wa.heap.size:=eP hc za;have sy:=he.ext (an aY) (eI za);(try simp only [go_sem,simprocAttr,az (n:=7) aM rfl]);refine aI (by rfl) ?_;refine (abT e sy).mono ?_;rintro _ w3 ⟨rfl,aq⟩;have bn:=aY.trans aq;have cA:=ju.aB aq;have p9:=sy.aB (an aq);have aM:=aq.at aM _root_.id;have ba:=aq.at ba _root_.id;have z3:=bn.size;have KD:=aq.size;have zh:w2.heap.size=wa.heap.size+1:=yj;by_cases hf:j5 e=false
 ·rw [lu,if_pos hf];(try simp only [go_sem,simprocAttr,hf]);refine gz hc za ba (an bn) cA rfl rfl ?_;intro w5 bG aD bh;(try simp only [go_sem,simprocAttr,aE,RV.ev,az (n:=3) bG rfl,aF]);exact ⟨.bad (by decide) bh,aD⟩
 have gu:j5 e=true:=by simpa using hf
 have F:=B6 gu;have kk:w3.cell? ⟨w.heap.size,0,none⟩=some (I e.kind):=by rw [cell_of aM];rfl
 have kn:w3.cell? ⟨w.heap.size,1,none⟩=some (.string e.name):=by rw [cell_of aM];rfl
 have kt:w3.cell? ⟨w.heap.size,3,none⟩=some (.slice at' e.types.length ct):=by rw [cell_of aM];rfl
 have ka:w3.cell? ⟨w.heap.size,4,none⟩=some (.slice aa e.args.length ca):=by rw [cell_of aM];rfl
 have Aj:=az (n:=7) aM rfl;have vB:=F.vB;obtain ⟨KE,KF,KG,Rk,rv,Ak,vQ,-,-⟩:=p9.parts
 injection rv with _ rv
 injection rv with _ rv
 injection rv with _ rv
 injection rv with e2' rv
 injection rv with e3' _
 subst e2' e3';have zr:∀ p∈[(5,w.heap.size),(3,M.c)],p.2 < w3.drew.heap.size:=fun p hp=>by
  have e:w3.drew.heap.size=w3.heap.size:=rfl;simp only [List.mem_cons,List.not_mem_nil,or_false] at hp;rcases hp with rfl | rfl
  ·show w.heap.size < _;omega
  ·have:=cA.lt _ (cA.bt M.c (by simp [Ms.list]));show M.c < _;omega
 (try simp only [go_sem,simprocAttr,gu]);have adn:e.kind=1∨e.kind=2∨e.kind=3∨e.kind=4∨e.kind=5∨e.kind=6∨e.kind=7∨e.kind=8∨e.kind=9∨e.kind=10∨e.kind=11∨e.kind=12:=by omega
 rcases adn with hk | hk | hk | hk | hk | hk | hk | hk | hk | hk | hk | hk
 ·
  rw [lu,if_neg hf];rw [if_pos hk];rw [hk] at kk;have q1:((1:Int) == 1)=true:=rfl;(try simp only [go_sem,simprocAttr,kk,q1,cell_of cA.box,kn]);have sX:=cA.aB (Mod.refl (fun _=>False) w3).drew;refine ES (Rr:=sO w3.drew (Out (aL S wa.heap.size) w3.drew)) (k:=e.name) (b0:=M.ml) (kt:=9) (et:=dV) (zc:=cJ) rfl rfl rfl rfl (fun w=>Tryz.zeroValue42 w) ⟨rfl,vJ⟩ rfl sX.locals
   (fun v y hr=>by obtain ⟨cs,rfl,bw⟩:=hr;exact ⟨cs,rfl,bw.len,bw.one⟩) zr (by decide) ?_
  intro w4 po cz u hold g6 g7 ci oO bA bS uj;have aA:Mod (fun _=>False) w3 w4:=oO.eF;have g4:po.get 4=some (ptr wa.heap.size):=(hold 4 (by decide)).trans rfl;have ba:=aA.at ba _root_.id;have j7:=cA.aB aA;have g6:po.get 6=some (ptr w3.heap.size):=g6;have ci:w4.heap[w3.heap.size]? = some (.cells cz.toArray dV (0,0)):=ci;have eM:=(an bn (S:=M.two)).trans (an aA);rcases uj with ⟨hn,rfl⟩ | ⟨x,hx,hr,rfl⟩
  ·rw [hn];(try simp only [go_sem,simprocAttr,g4,g6,g7]);refine gz hc za ba eM j7 rfl rfl ?_;intro w5 bG aD bh;(try simp only [go_sem,simprocAttr,aE,RV.ev,az (n:=3) bG rfl,aF]);exact ⟨.bad (by decide) bh,aD⟩
  ·rw [hx];obtain ⟨hM,ry,bw⟩:=hr;have ry:cz=hM:=by have:=congrArg Array.toList (show cz.toArray=hM.toArray by cases ry;rfl);simpa using this
   subst ry;(try simp only [go_sem,simprocAttr,g4,g6,g7,az (n:=3) ci bA]);refine bL (cs:=cJ) rfl rfl ba bA rfl bS ?_;intro w5 hb aD eN;(try simp only [go_sem,simprocAttr,aE,RV.ev,az (n:=3) hb bA,aF]);exact ⟨re j7 (bw.aB (an oO)) aD hc.bt (gQ hc za),eM.step aD (fun b hb hl=>by omega)⟩
 ·
  rw [lu,if_neg hf];rw [if_neg (show ¬ e.kind=1 by omega)];rw [if_pos hk];rw [hk] at kk;have q1:((2:Int) == 1)=false:=rfl;have q2:((2:Int) == 2)=true:=rfl;(try simp only [go_sem,simprocAttr,kk,q1,q2]);refine aI (by rfl) ?_;refine PV.mono ?_;rintro _ w4 ⟨rfl,aA⟩;(try simp only [go_sem,simprocAttr]);refine bL (cs:=cJ) (vs:=fR 1 bI) rfl rfl (aA.at ba _root_.id) rfl rfl (oG _ _) ?_;intro w5 hb aD eN;(try simp only [go_sem,simprocAttr,aE,RV.ev,az (n:=3) (cs:=fR 1 bI) hb rfl,aF]);exact ⟨re (cA.aB aA) (oC _ _ 1 bI) aD hc.bt (gQ hc za),((an bn).trans (an aA)).step aD (fun b hb hl=>by omega)⟩
 ·
  rw [lu,if_neg hf];rw [if_neg (show ¬ e.kind=1 by omega)];rw [if_neg (show ¬ e.kind=2 by omega)];rw [if_pos hk];rw [hk] at kk;have q1:((3:Int) == 1)=false:=rfl;have q2:((3:Int) == 2)=false:=rfl;have q3:((3:Int) == 3)=true:=rfl;(try simp only [go_sem,simprocAttr,kk,q1,q2,q3,cell_of cA.box,kn]);have sX:=cA.aB (Mod.refl (fun _=>False) w3).drew;refine BY (R:=sN w3.drew (Out (aL S wa.heap.size) w3.drew)) (k:=e.name) (b:=M.mf) (kt:=9) (et:=122) rfl rfl rfl rfl (Tryz.zeroValue122 _) sX.ak (fun hn=>?_) (fun v d hd hr=>?_)
  ·rw [hn];(try simp only [go_sem,simprocAttr]);refine gz (w3:=w3.drew) hc za ba ((an bn).trans (Mod.refl _ _).drew) sX rfl rfl ?_;intro w5 bG aD bh;(try simp only [go_sem,simprocAttr,aE,RV.ev,az (n:=3) bG rfl,aF]);exact ⟨.bad (by decide) bh,aD⟩
  ·rw [hd];obtain ⟨ad,rfl,vM⟩:=hr;obtain ⟨cf,oI,vp,tc,bc,rfl,bT,kC,gq,bw,ajT,_⟩:=vM;have hlen:(Value.string d.name::vp::(tc++bc)).length=12:=by simp [bT,kC]
   have k1:=oI.at (k:=1) (by omega);have k2:=oI.ln (o:=2) (n:=3) (by omega);have k1:w3.cell? ⟨ad.block,ad.off+1,none⟩=some vp:=k1;have k2:gp w3 3 (.pointer (some ⟨ad.block,ad.off+2,none⟩))=some (.agg tc.toArray):=by
    rw [← b9,k2];have:((Value.string d.name::vp::(tc++bc)).drop 2).take 3=tc:=by simp [List.take_append_of_le_length,bT]
    rw [this]
   (try simp only [go_sem,simprocAttr,k1,k2,kt]);have d1:Mod (aL S wa.heap.size) w3 w3.drew:=(Mod.refl _ _).drew;have d2:Mod (aL S wa.heap.size) w3.drew w3.drew.drew:=(Mod.refl _ _).drew;have d3:Mod (fun _=>False) w3.drew w3.drew.drew:=(Mod.refl _ _).drew;refine aI (by rfl) ?_;refine (Qg d.type (sX.aB d3) (bw.aB d2) (gq.up d2 aK (aX d2) (fun _ _ h=>h)) (xX Ak (d1.trans d2))).mono ?_;rintro r w5 ⟨hr,aD⟩;obtain ⟨cz,u,rfl,bA,bS,cU⟩:=Rj hr ((sX.aB d3).aB aD);(try simp only [go_sem,simprocAttr]);refine bL (cs:=cJ) rfl rfl (aD.at ba _root_.id) bA rfl bS ?_;intro w6 hb aJ gN;(try simp only [go_sem,simprocAttr,aE,RV.ev,az (n:=3) hb bA,aF]);exact ⟨uE cU bA bS aJ hc.bt (gQ hc za),(((an bn (S:=M.two)).trans (an ((Mod.refl (fun _=>False) w3).drew.trans d3))).trans (an aD)).step aJ (fun b hb hl=>by omega)⟩
 ·
  rw [lu,if_neg hf];rw [if_neg (show ¬ e.kind=1 by omega)];rw [if_neg (show ¬ e.kind=2 by omega)];rw [if_neg (show ¬ e.kind=3 by omega)];rw [if_pos hk];rw [hk] at kk;have q1:((4:Int) == 1)=false:=rfl;have q2:((4:Int) == 2)=false:=rfl;have q3:((4:Int) == 3)=false:=rfl;have q4:((4:Int) == 4)=true:=rfl;(try simp only [go_sem,simprocAttr,kk,q1,q2,q3,q4,cell_of cA.box,kn]);have sX:=cA.aB (Mod.refl (fun _=>False) w3).drew;refine ES (Rr:=q8 w3.drew (Out (aL S wa.heap.size) w3.drew)) (k:=e.name) (b0:=M.mc) (kt:=9) (et:=158) (zc:=[.pointer none,I 0]) rfl rfl rfl rfl (fun w=>Tryz.zeroValue158 w) ⟨rfl,aS rfl (aS rfl dE)⟩ rfl sX.cons
   (fun v y hr=>by obtain ⟨ad,rfl,_⟩:=hr;exact ⟨[.pointer (some ad),I y.2],rfl,rfl,aS rfl (aS rfl dE)⟩) zr (by decide) ?_
  intro w4 po cz u hold g10 g11 gy oO BW bS uj;have aA:Mod (fun _=>False) w3 w4:=oO.eF;have g0:po.get 0=some (ptr M.c):=(hold 0 (by decide)).trans rfl;have g3:po.get 3=some (ptr w.heap.size):=(hold 3 (by decide)).trans rfl;have g4:po.get 4=some (ptr wa.heap.size):=(hold 4 (by decide)).trans rfl;have ba:=aA.at ba _root_.id;have j7:=cA.aB aA;have g10:po.get 10=some (ptr w3.heap.size):=g10;have gy:w4.heap[w3.heap.size]? = some (.cells cz.toArray 158 (0,0)):=gy;have eM:=(an bn (S:=M.two)).trans (an aA);rcases uj with ⟨hn,rfl⟩ | ⟨x,hx,⟨ad,yo,sY,iP⟩,rfl⟩
  ·rw [hn];(try simp only [go_sem,simprocAttr,g0,g3,g4,g10,g11]);refine gz hc za ba eM j7 rfl rfl ?_;intro w5 bG aD bh;(try simp only [go_sem,simprocAttr,aE,RV.ev,az (n:=3) bG rfl,aF]);exact ⟨.bad (by decide) bh,aD⟩
  ·rw [hx];have yo:cz=[.pointer (some ad),I x.2]:=by
    have:cz.toArray = #[.pointer (some ad),I x.2]:=by cases yo;rfl
    have:=congrArg Array.toList this
    simpa using this
   subst yo;have Rm:qZ w4 (Out (aL S wa.heap.size) w4) ad x.1:=sY.up (an oO) aK (aX (an oO));have ado:=Rm;obtain ⟨cs,bH,vp,vc,rfl,gk,gP⟩:=Rm;have k1:w4.cell? ⟨ad.block,ad.off+1,none⟩=some vp:=bH.at (k:=1) (by simp);have kt4:=aA.cell kt _root_.id;have Ro:w4.cell? ⟨w3.heap.size,0,none⟩=some (.pointer (some ad)):=by rw [cell_of gy];rfl
   (try simp only [go_sem,simprocAttr,g0,g3,g4,g10,g11,Ro,k1,kt4,az (n:=2) gy rfl]);have dd:Mod (fun _=>False) w4 w4.drew:=(Mod.refl _ _).drew;have Ke:=j7.aB dd;have hS:∀ b,aL S wa.heap.size b→b < w4.drew.heap.size:=Ke.lt;refine aI (by rfl) ?_;refine (ab7 x.1 x.2 (ado.up (an dd) aK (aX (an dd))) iP hS).mono ?_;rintro _ w5' ⟨⟨cq,rfl,htq⟩,hmq⟩;have uF:Mod (fun _=>False) w4 w5':=dd.trans hmq;have adq:=lU k1;have KH:=aA.size;have adr:=lU Ro;(try simp only [go_sem,simprocAttr]);refine ⟨⟨uF.bN _ (by omega) _root_.id,uF.bN _ adq _root_.id,uF.bN _ adr _root_.id⟩,?_⟩;refine aI (by rfl) ?_;have ht5:=xX (xX Ak (an aA)) (an uF);have ads:=gk.up (an uF) aK (aX (an uF)) (fun _ _ h=>h);have je:=j7.aB uF;have ba:=uF.at ba _root_.id;have fg:=eM.trans (an uF);refine (Qg (qY x.1 x.2) je htq ads ht5).mono ?_;rintro r w7 ⟨hr,aN⟩;obtain ⟨cz,u,rfl,bA,bS,cU⟩:=Rj hr (je.aB aN);(try simp only [go_sem,simprocAttr]);refine bL (cs:=cJ) rfl rfl (aN.at ba _root_.id) bA rfl bS ?_;intro w6 hb aJ gN;(try simp only [go_sem,simprocAttr,aE,RV.ev,az (n:=3) hb bA,aF]);exact ⟨uE cU bA bS aJ hc.bt (gQ hc za),(fg.trans (an aN)).step aJ (fun b hb hl=>by omega)⟩
 ·
  rw [lu,if_neg hf];rw [if_neg (show ¬ e.kind=1 by omega)];rw [if_neg (show ¬ e.kind=2 by omega)];rw [if_neg (show ¬ e.kind=3 by omega)];rw [if_neg (show ¬ e.kind=4 by omega)];rw [if_neg (show ¬ e.kind=12 by omega)];rw [if_pos hk];rw [hk] at kk;have q1:((5:Int) == 1)=false:=rfl;have q2:((5:Int) == 2)=false:=rfl;have q3:((5:Int) == 3)=false:=rfl;have q4:((5:Int) == 4)=false:=rfl;have nL:((5:Int) == 12)=false:=rfl;have q5:((5:Int) == 5)=true:=rfl;obtain ⟨x,y,iZ⟩:=EG (F.a2 (by omega));(try simp only [go_sem,simprocAttr,kk,q1,q2,q3,q4,nL,q5,Aj]);refine aI (by rfl) ?_;refine (acn hE gm iZ (fN x (by simp [iZ])) (fN y (by simp [iZ])) cA hg p9).mono ?_;rintro r w4 ⟨hr,aA⟩;obtain ⟨cz,u,rfl,bA,bS,cU⟩:=uA hr;(try simp only [go_sem,simprocAttr]);refine bL (cs:=cJ) rfl rfl (aA.at ba n4) bA rfl bS ?_;intro w5 hb aD eN;(try simp only [go_sem,simprocAttr,aE,RV.ev,az (n:=3) hb bA,aF]);exact ⟨uE cU bA bS aD hc.bt (gQ hc za),((an bn).trans aA).step aD (fun b hb hl=>by omega)⟩
 ·
  rw [lu,if_neg hf];rw [if_neg (show ¬ e.kind=1 by omega)];rw [if_neg (show ¬ e.kind=2 by omega)];rw [if_neg (show ¬ e.kind=3 by omega)];rw [if_neg (show ¬ e.kind=4 by omega)];rw [if_neg (show ¬ e.kind=12 by omega)];rw [if_neg (show ¬ e.kind=5 by omega)];rw [if_neg (show ¬ e.kind=9 by omega)];rw [if_neg (show ¬ e.kind=10 by omega)];rw [if_pos hk];rw [hk] at kk;have q1:((6:Int) == 1)=false:=rfl;have q2:((6:Int) == 2)=false:=rfl;have q3:((6:Int) == 3)=false:=rfl;have q4:((6:Int) == 4)=false:=rfl;have nL:((6:Int) == 12)=false:=rfl;have q5:((6:Int) == 5)=false:=rfl;have q9:((6:Int) == 9)=false:=rfl;have rz:((6:Int) == 10)=false:=rfl;have q6:((6:Int) == 6)=true:=rfl;obtain ⟨x,fr⟩:=zX (F.a1 (by omega));obtain ⟨b,ly⟩:=zX (F.b1 (by omega));rw [ly];(try simp only [go_sem,simprocAttr,kk,q1,q2,q3,q4,nL,q5,q9,rz,q6,Aj]);refine aI (by rfl) ?_;refine (acs hE gm fr ly (fN x (by simp [fr])) cA hg p9).mono ?_;rintro r w4 ⟨hr,aA⟩;obtain ⟨cz,u,rfl,bA,bS,cU⟩:=uA hr;(try simp only [go_sem,simprocAttr]);refine bL (cs:=cJ) rfl rfl (aA.at ba n4) bA rfl bS ?_;intro w5 hb aD eN;(try simp only [go_sem,simprocAttr,aE,RV.ev,az (n:=3) hb bA,aF]);exact ⟨uE cU bA bS aD hc.bt (gQ hc za),((an bn).trans aA).step aD (fun b hb hl=>by omega)⟩
 ·
  rw [lu,if_neg hf];rw [if_neg (show ¬ e.kind=1 by omega)];rw [if_neg (show ¬ e.kind=2 by omega)];rw [if_neg (show ¬ e.kind=3 by omega)];rw [if_neg (show ¬ e.kind=4 by omega)];rw [if_neg (show ¬ e.kind=12 by omega)];rw [if_neg (show ¬ e.kind=5 by omega)];rw [if_neg (show ¬ e.kind=9 by omega)];rw [if_neg (show ¬ e.kind=10 by omega)];rw [if_neg (show ¬ e.kind=6 by omega)];rw [if_pos (show e.kind=7∨e.kind=11 by omega)];rw [hk] at kk;have q1:((7:Int) == 1)=false:=rfl;have q2:((7:Int) == 2)=false:=rfl;have q3:((7:Int) == 3)=false:=rfl;have q4:((7:Int) == 4)=false:=rfl;have nL:((7:Int) == 12)=false:=rfl;have q5:((7:Int) == 5)=false:=rfl;have q9:((7:Int) == 9)=false:=rfl;have rz:((7:Int) == 10)=false:=rfl;have q6:((7:Int) == 6)=false:=rfl;have q7:((7:Int) == 7)=true:=rfl;obtain ⟨x,fr⟩:=zX (F.a1 (by omega));(try simp only [go_sem,simprocAttr,kk,q1,q2,q3,q4,nL,q5,q9,rz,q6,q7,Aj]);refine aI (by rfl) ?_;refine (QL hE gm fr (fN x (by simp [fr])) oL cA hg p9).mono ?_;rintro r w4 ⟨hr,aA⟩;obtain ⟨cz,u,rfl,bA,bS,cU⟩:=uA hr;(try simp only [go_sem,simprocAttr]);refine bL (cs:=cJ) rfl rfl (aA.at ba n4) bA rfl bS ?_;intro w5 hb aD eN;(try simp only [go_sem,simprocAttr,aE,RV.ev,az (n:=3) hb bA,aF]);exact ⟨uE cU bA bS aD hc.bt (gQ hc za),((an bn).trans aA).step aD (fun b hb hl=>by omega)⟩
 ·
  rw [lu,if_neg hf];rw [if_neg (show ¬ e.kind=1 by omega)];rw [if_neg (show ¬ e.kind=2 by omega)];rw [if_neg (show ¬ e.kind=3 by omega)];rw [if_neg (show ¬ e.kind=4 by omega)];rw [if_neg (show ¬ e.kind=12 by omega)];rw [if_neg (show ¬ e.kind=5 by omega)];rw [if_neg (show ¬ e.kind=9 by omega)];rw [if_neg (show ¬ e.kind=10 by omega)];rw [if_neg (show ¬ e.kind=6 by omega)];rw [if_neg (show ¬ (e.kind=7∨e.kind=11) by omega)];rw [hk] at kk;have q1:((8:Int) == 1)=false:=rfl;have q2:((8:Int) == 2)=false:=rfl;have q3:((8:Int) == 3)=false:=rfl;have q4:((8:Int) == 4)=false:=rfl;have nL:((8:Int) == 12)=false:=rfl;have q5:((8:Int) == 5)=false:=rfl;have q9:((8:Int) == 9)=false:=rfl;have rz:((8:Int) == 10)=false:=rfl;have q6:((8:Int) == 6)=false:=rfl;have q7:((8:Int) == 7)=false:=rfl;have KI:((8:Int) == 11)=false:=rfl;obtain ⟨x,fr⟩:=zX (F.a1 (by omega));(try simp only [go_sem,simprocAttr,kk,q1,q2,q3,q4,nL,q5,q9,rz,q6,q7,KI,Aj]);refine aI (by rfl) ?_;refine (ac5 hE gm fr (fun h=>by have:=F.al hk;rw [h] at this;simp at this) (fN x (by simp [fr])) pf cA hg p9).mono ?_;rintro r w4 ⟨hr,aA⟩;obtain ⟨cz,u,rfl,bA,bS,cU⟩:=uA hr;(try simp only [go_sem,simprocAttr]);refine bL (cs:=cJ) rfl rfl (aA.at ba n4) bA rfl bS ?_;intro w5 hb aD eN;(try simp only [go_sem,simprocAttr,aE,RV.ev,az (n:=3) hb bA,aF]);exact ⟨uE cU bA bS aD hc.bt (gQ hc za),((an bn).trans aA).step aD (fun b hb hl=>by omega)⟩
 ·
  rw [lu,if_neg hf];rw [if_neg (show ¬ e.kind=1 by omega)];rw [if_neg (show ¬ e.kind=2 by omega)];rw [if_neg (show ¬ e.kind=3 by omega)];rw [if_neg (show ¬ e.kind=4 by omega)];rw [if_neg (show ¬ e.kind=12 by omega)];rw [if_neg (show ¬ e.kind=5 by omega)];rw [if_pos hk];rw [hk] at kk;have q1:((9:Int) == 1)=false:=rfl;have q2:((9:Int) == 2)=false:=rfl;have q3:((9:Int) == 3)=false:=rfl;have q4:((9:Int) == 4)=false:=rfl;have nL:((9:Int) == 12)=false:=rfl;have q5:((9:Int) == 5)=false:=rfl;have q9:((9:Int) == 9)=true:=rfl;(try simp only [go_sem,simprocAttr,kk,q1,q2,q3,q4,nL,q5,q9,Aj]);refine aI (by rfl) ?_;refine (acp hE gm (F.a2 (by omega)) (F.op hk) fN cA hg p9).mono ?_;rintro r w4 ⟨hr,aA⟩;obtain ⟨cz,u,rfl,bA,bS,cU⟩:=uA hr;(try simp only [go_sem,simprocAttr]);refine bL (cs:=cJ) rfl rfl (aA.at ba n4) bA rfl bS ?_;intro w5 hb aD eN;(try simp only [go_sem,simprocAttr,aE,RV.ev,az (n:=3) hb bA,aF]);exact ⟨uE cU bA bS aD hc.bt (gQ hc za),((an bn).trans aA).step aD (fun b hb hl=>by omega)⟩
 ·
  rw [lu,if_neg hf];rw [if_neg (show ¬ e.kind=1 by omega)];rw [if_neg (show ¬ e.kind=2 by omega)];rw [if_neg (show ¬ e.kind=3 by omega)];rw [if_neg (show ¬ e.kind=4 by omega)];rw [if_neg (show ¬ e.kind=12 by omega)];rw [if_neg (show ¬ e.kind=5 by omega)];rw [if_neg (show ¬ e.kind=9 by omega)];rw [if_pos hk];rw [hk] at kk;have q1:((10:Int) == 1)=false:=rfl;have q2:((10:Int) == 2)=false:=rfl;have q3:((10:Int) == 3)=false:=rfl;have q4:((10:Int) == 4)=false:=rfl;have nL:((10:Int) == 12)=false:=rfl;have q5:((10:Int) == 5)=false:=rfl;have q9:((10:Int) == 9)=false:=rfl;have rz:((10:Int) == 10)=true:=rfl;obtain ⟨x,y,iZ⟩:=EG (F.a2 (by omega));have fJ:e.args.length=2:=by rw [iZ];rfl
  have b1:(0:Int)≤0∧(0:Int) < e.args.length:=by omega
  have b2:(0:Int)≤1∧(1:Int) < e.args.length:=by omega
  obtain ⟨ad,c1,r1,e1,hx,ph⟩:=uu vQ (i:=0) (by omega);obtain ⟨rfl,-,-⟩:=bY e1;have yf:e.args[0]'(by omega)=x:=by simp [iZ]
  have B7:e.args[1]'(by omega)=y:=by simp [iZ]
  rw [yf] at hx;rw [Nat.zero_mul,add_zero'] at ph;rw [iZ];simp only [cG];(try simp only [go_sem,simprocAttr,bq,br,kk,q1,q2,q3,q4,nL,q5,q9,rz,ka,b1,Nat.zero_mul,ph]);refine aI (by rfl) ?_;refine (fN x (by simp [iZ]) cA hg hx).mono ?_;rintro r4 w4 ⟨mX,aA⟩;cases bX:cj E x st with
  | error e3=>
   rw [bX] at mX;obtain ⟨cz,bA,bS,rfl,bo,EH,B8,jd⟩:=mX;(try simp only [go_sem,simprocAttr]);refine dp (n:=3) (vs:=cz) rfl bA bS ?_;intro w5 bG aD eN;have gR:(e3 != 0)=true:=by simpa using bo
   (try simp only [go_sem,simprocAttr,gR]);refine gz hc za ((aA.trans (an aD)).at ba n4) ((an bn).trans (aA.trans (an aD))) (jd.aB aD) rfl rfl ?_;intro w6 ci aJ bh;(try simp only [go_sem,simprocAttr,aE,RV.ev,az (n:=3) ci rfl,aF]);exact ⟨.bad bo bh,aJ⟩
  | ok y1=>
   obtain ⟨t1,dG⟩:=y1;rw [bX] at mX;obtain ⟨⟨c4,rfl,yn⟩,j7⟩:=mX;have g1:=sR hE gm x st _ hg bX;(try simp only [go_sem,simprocAttr]);refine dp (n:=3) (vs:=c4) rfl yn.len yn.one ?_;intro w5 bG aD eN;have je:=j7.aB aD;have gl:=aA.trans (an aD);have S2:=cA.two;have aM:=gl.at aM (eP hc (Nat.le_refl _));have ka5:w5.cell? ⟨w.heap.size,4,none⟩=some (.slice (some ad) e.args.length ca):=by rw [cell_of aM];rfl
   have Kg:aT w5 (.slice (some ad) e.args.length ca) 7 (Out (aL S wa.heap.size) w5) (bE w5 (Out (aL S wa.heap.size) w5)) e.args:=vQ.up gl (fun b hb hh=>hb.2 (S2 b hh)) (aX (gl.aU S2)) (fun _ _ h=>h.aB (gl.aU S2));obtain ⟨D9,Ez,r2,e2,hy,B9⟩:=uu Kg (i:=1) (by omega);obtain ⟨e3,-,-⟩:=bY e2;cases e3;rw [B7] at hy;rw [Nat.one_mul,add_pos _ (n:=7) (by decide)] at B9;(try simp only [go_sem,simprocAttr,bq,br,ka5,b2,Int.toNat_one,Nat.one_mul,B9]);refine aI (by rfl) ?_;refine (fN y (by simp [iZ]) (st:=dG) je g1.2 hy).mono ?_;rintro r6 w6 ⟨pd,aJ⟩;obtain ⟨cz,u,rfl,bA,bS,cU⟩:=uA pd;have Ac:=gl.trans aJ;(try simp only [go_sem,simprocAttr]);refine bL (cs:=cJ) rfl rfl (Ac.at ba n4) bA rfl bS ?_;intro w7 hb aN jX;(try simp only [go_sem,simprocAttr,aE,RV.ev,az (n:=3) hb bA,aF]);have hX:(match (match cj E y dG with | .error x=>.error x | .ok y=>(match (.ok ([],y.2):Except Int (List Ty×St)) with | .error x=>.error x | .ok z=>.ok (y.1::z.1,z.2)):Except Int (List Ty×St)) with | .error x=>(.error x:Except Int (List Ty×St)) | .ok z=>.ok (t1::z.1,z.2))=(match cj E y dG with | .error x=>.error x | .ok y=>.ok ([t1,y.1],y.2)):=by
    cases cj E y dG<;>rfl
   refine ⟨?_,((an bn).trans Ac).step aN (fun b hb hl=>by omega)⟩;have hR:=uE cU bA bS aN hc.bt (gQ hc za);cases yg:cj E y dG with
   | error e=>rw [yg] at hR;exact hR
   | ok y2=>rw [yg] at hR;exact hR
 ·
  rw [lu,if_neg hf];rw [if_neg (show ¬ e.kind=1 by omega)];rw [if_neg (show ¬ e.kind=2 by omega)];rw [if_neg (show ¬ e.kind=3 by omega)];rw [if_neg (show ¬ e.kind=4 by omega)];rw [if_neg (show ¬ e.kind=12 by omega)];rw [if_neg (show ¬ e.kind=5 by omega)];rw [if_neg (show ¬ e.kind=9 by omega)];rw [if_neg (show ¬ e.kind=10 by omega)];rw [if_neg (show ¬ e.kind=6 by omega)];rw [if_pos (show e.kind=7∨e.kind=11 by omega)];rw [hk] at kk;have q1:((11:Int) == 1)=false:=rfl;have q2:((11:Int) == 2)=false:=rfl;have q3:((11:Int) == 3)=false:=rfl;have q4:((11:Int) == 4)=false:=rfl;have nL:((11:Int) == 12)=false:=rfl;have q5:((11:Int) == 5)=false:=rfl;have q9:((11:Int) == 9)=false:=rfl;have rz:((11:Int) == 10)=false:=rfl;have q6:((11:Int) == 6)=false:=rfl;have q7:((11:Int) == 7)=false:=rfl;have KI:((11:Int) == 11)=true:=rfl;obtain ⟨x,fr⟩:=zX (F.a1 (by omega));(try simp only [go_sem,simprocAttr,kk,q1,q2,q3,q4,nL,q5,q9,rz,q6,q7,KI,Aj]);refine aI (by rfl) ?_;refine (QL hE gm fr (fN x (by simp [fr])) oL cA hg p9).mono ?_;rintro r w4 ⟨hr,aA⟩;obtain ⟨cz,u,rfl,bA,bS,cU⟩:=uA hr;(try simp only [go_sem,simprocAttr]);refine bL (cs:=cJ) rfl rfl (aA.at ba n4) bA rfl bS ?_;intro w5 hb aD eN;(try simp only [go_sem,simprocAttr,aE,RV.ev,az (n:=3) hb bA,aF]);exact ⟨uE cU bA bS aD hc.bt (gQ hc za),((an bn).trans aA).step aD (fun b hb hl=>by omega)⟩
 ·
  rw [lu,if_neg hf];rw [if_neg (show ¬ e.kind=1 by omega)];rw [if_neg (show ¬ e.kind=2 by omega)];rw [if_neg (show ¬ e.kind=3 by omega)];rw [if_neg (show ¬ e.kind=4 by omega)];rw [if_pos hk];rw [hk] at kk;have q1:((12:Int) == 1)=false:=rfl;have q2:((12:Int) == 2)=false:=rfl;have q3:((12:Int) == 3)=false:=rfl;have q4:((12:Int) == 4)=false:=rfl;have nL:((12:Int) == 12)=true:=rfl;obtain ⟨t0,E6⟩:=zX (F.t1 hk);have Rq:e.types[0]'(by rw [E6];simp)=t0:=by simp [E6]
  rw [E6];have oB:e.types.length=1:=by rw [E6];rfl
  obtain ⟨ad,c1,r1,e1,bw,mV,aP,_⟩:=eh Ak (i:=0) (by omega);obtain ⟨rfl,-,-⟩:=bY e1;rw [Rq] at bw;rw [Nat.zero_mul,add_zero'] at aP;have b1:(0:Int)≤0∧(0:Int) < e.types.length:=by omega
  (try simp only [go_sem,simprocAttr,bq,br,kk,q1,q2,q3,q4,nL,kt,b1,Nat.zero_mul,aP]);refine aI (by rfl) ?_;refine (B2 t0 cA bw).mono ?_;rintro _ w5 ⟨rfl,aD⟩;have je:=cA.aB aD;have ba:=aD.at ba _root_.id;have ma:=bw.aB (an aD);have kt5:=aD.cell kt _root_.id;obtain ⟨ad5,c15,r5,e5,KJ,Rs,Af,_⟩:=eh (xX Ak (an aD)) (i:=0) (by omega);obtain ⟨e55,-,-⟩:=bY e5;cases e55;rw [Rq] at KJ;rw [Nat.zero_mul,add_zero'] at Af;cases fT:fB E t0 with
  | false=>
   (try simp only [go_sem,simprocAttr]);refine gz hc za ba ((an bn).trans (an aD)) je rfl rfl ?_;intro w6 bG aJ bh;(try simp only [go_sem,simprocAttr,aE,RV.ev,az (n:=3) bG rfl,aF]);exact ⟨.bad (by decide) bh,aJ⟩
  | true=>
   (try simp only [go_sem,simprocAttr,bq,br,kt5,b1,Nat.zero_mul,Af]);refine bL (cs:=cJ) rfl rfl ba Rs rfl KJ.one ?_;intro w6 hb aJ gN;(try simp only [go_sem,simprocAttr,aE,RV.ev,az (n:=3) hb Rs,aF]);exact ⟨re je KJ aJ hc.bt (gQ hc za),((an bn).trans (an aD)).step aJ (fun b hb hl=>by omega)⟩
end
section
open Go Go.W
structure fu (w:World) (S:Nat→Prop) (c md mc mf:Nat) (E:Env):Prop where
 box:∃ vp vb vl:Value,vp.oneCell'=true∧vb.oneCell'=true∧vl.oneCell'=true∧w.heap[c]? = some (.cells [.map (some md),.map (some mc),.map (some mf),vp,.bool false,vb,vl].toArray Qc (0,0))
 nodup:[c,md,mc,mf].Nodup
 bt:∀ b∈[c,md,mc,mf],S b
 lt:∀ b,S b→b < w.heap.size
 aH:cE w md (uk w (Out S w)) E.aH
 cons:cE w mc (q8 w (Out S w)) E.cons
 ak:cE w mf (sN w (Out S w)) E.ak
theorem KK {c md mc mf:Nat} (h:[c,md,mc,mf].Nodup):(c≠md∧c≠mc∧c≠mf)∧(md≠mc∧md≠mf)∧mc≠mf:=by
 simp only [List.nodup_cons,List.mem_cons,List.not_mem_nil,or_false,not_or,not_false_eq_true,List.nodup_nil,and_true] at h;exact h
section
variable {w w':World} {S S' T:Nat→Prop} {c md mc mf:Nat} {E:Env}
theorem bP.forget {M:Ms} {bd:bM} {lc:Loc} (h:bP w S M E bd lc):fu w S M.c M.md M.mc M.mf E:=by
 obtain ⟨⟨a1,a2,a3,_⟩,⟨b1,b2,_⟩,⟨c1,_⟩,_⟩:=Ms.ne h.nodup;refine ⟨⟨.map (some M.mp),.map (some M.mb),.map (some M.ml),rfl,rfl,rfl,h.box⟩,?_,fun b hb=>h.bt b ?_,h.lt,h.aH,h.cons,h.ak⟩
 ·simp [a1,a2,a3,b1,b2,c1]
 ·simp only [List.mem_cons,List.not_mem_nil,or_false] at hb;rcases hb with rfl | rfl | rfl | rfl<;>simp [Ms.list]
theorem fu.dz {E':Env} (h:fu w S c md mc mf E) (hm:Mod T w w') (hT:∀ b,T b→S b) (hc:¬ T c) (h1:cE w' md (uk w' (Out S w')) E'.aH) (h2:cE w' mc (q8 w' (Out S w')) E'.cons) (h3:cE w' mf (sN w' (Out S w')) E'.ak):fu w' S c md mc mf E':=by
 obtain ⟨vp,vb,vl,e1,e2,e3,hb⟩:=h.box;exact ⟨⟨vp,vb,vl,e1,e2,e3,hm.at hb hc⟩,h.nodup,h.bt,fun b hb=>Nat.lt_of_lt_of_le (h.lt b hb) hm.size,h1,h2,h3⟩
theorem fu.E7 (h:fu w S c md mc mf E) (hm:Mod T w w') (hT:∀ b,T b→S b) (hn:¬ T md):cE w' md (uk w' (Out S w')) E.aH:=
 h.aH.mod hm hn (fun _ _ x=>x.up (hm.aU hT) aK (aX (hm.aU hT)))
theorem fu.aZ (h:fu w S c md mc mf E) (hm:Mod T w w') (hT:∀ b,T b→S b) (hn:¬ T mc):cE w' mc (q8 w' (Out S w')) E.cons:=
 h.cons.mod hm hn (fun _ _ x=>x.up (hm.aU hT) aK (aX (hm.aU hT)))
theorem fu.def (h:fu w S c md mc mf E) (hm:Mod T w w') (hT:∀ b,T b→S b) (hn:¬ T mf):cE w' mf (sN w' (Out S w')) E.ak:=
 h.ak.mod hm hn (fun _ _ x=>x.up (hm.aU hT) aK (aX (hm.aU hT)))
theorem fu.aB (h:fu w S c md mc mf E) (hm:Mod (fun _=>False) w w'):fu w' S c md mc mf E:=
 h.dz hm (fun _ h=>h.elim) _root_.id (h.E7 hm (fun _ h=>h.elim) _root_.id) (h.aZ hm (fun _ h=>h.elim) _root_.id) (h.def hm (fun _ h=>h.elim) _root_.id)
end
def nM (d:Dt):List Cn→Nat→List (ByteArray×(Dt×Nat))→List (ByteArray×(Dt×Nat))
 | [],_,l=>l
 | k::ks,i,l=>nM d ks (i+1) (bO l k.name (d,i))
def qc (E:Env) (d:Dt):Env:={ E with aH:=bO E.aH d.name d,cons:=nM d d.cons 0 E.cons}
theorem adt {d:Dt} {l:List Cn} {i:Nat} (hi:i < l.length) (m:List (ByteArray×(Dt×Nat))):nM d (l.drop i) i m=nM d (l.drop (i+1)) (i+1) (bO m l[i].name (d,i)):=by rw [List.drop_eq_getElem_cons hi,nM]
theorem Rt {E:Env} {d:Dt} {a:Addr} {w:World} {S:Nat→Prop} {c md mc mf:Nat} (hc:fu w S c md mc mf E) (hp:qZ w (Out S w) a d) :
   a8 Tryz.prog 58 [ptr c,.pointer (some a)] w fun r w'=>fu w' S c md mc mf (qc E d)∧Mod (fun b=>b=md∨b=mc) w w':=by
 obtain ⟨⟨n1,n2,n3⟩,⟨n4,n5⟩,n6⟩:=KK hc.nodup;obtain ⟨vp,vb,vl,o1,o2,o3,jb⟩:=hc.box;have Cu:=hp;obtain ⟨cs,bH,kD,vc,rfl,gk,gP⟩:=hp;obtain ⟨ac,cc,rfl⟩:=a7 gP;refine Zx.calls rfl ?_;unfold It;have k0:w.cell? a=some (.string d.name):=bH.c0 (by simp);(try simp only [go_sem,simprocAttr,cell_of jb,k0]);have Cv:Mod (fun _=>False) w w.drew:=(Mod.refl _ _).drew;refine mS (R:=uk w.drew (Out S w.drew)) (a:=d) (k:=d.name) (b:=md) (kt:=9) (et:=152) rfl rfl rfl rfl rfl (hc.E7 Cv (fun _ h=>h.elim) _root_.id) ⟨a,rfl,Cu.up (an Cv) aK (aX (an Cv))⟩ ?_;intro w1 h1 aj bC;have S1:∀ b,b=md→S b:=fun b hb=>by rw [hb];exact hc.bt _ (by simp)
 have E8:Mod (· = md) w w1:=aj.eF;have h1:=cE.mod h1 (Mod.refl (fun _=>False) w1) _root_.id (fun v y x=>x.up (aj.aU S1) aK (aX (aj.aU S1)));have ig:fu w1 S c md mc mf { E with aH:=bO E.aH d.name d}:=hc.dz E8 S1 (fun h=>n1 h) h1 (hc.aZ E8 S1 (fun h=>n4 h.symm)) (hc.def E8 S1 (fun h=>n5 h.symm));have St:∀ b,(b=md∨b=mc)→S b:=fun b hb=>by rcases hb with rfl | rfl<;>exact hc.bt _ (by simp)
 have S2:∀ b,b=mc→S b:=fun b hb=>St b (.inr hb)
 have lV:=dB gP;have later:∀ {w':World},Mod (fun b=>b=md∨b=mc) w w'→gj w' (Out S w') a [.string d.name,kD,.slice ac d.cons.length cc]∧aT w' (.slice ac d.cons.length cc) 2 (Out S w') (eL w' (Out S w')) d.cons∧qZ w' (Out S w') a d:=fun hm=>
  ⟨bH.up (hm.aU St) aK (aX (hm.aU St)),gP.up (hm.aU St) aK (aX (hm.aU St)) (fun _ _ h=>h.up (hm.aU St) aK (aX (hm.aU St))),Cu.up (hm.aU St) aK (aX (hm.aU St))⟩
 have Ru:Mod (fun b=>b=md∨b=mc) w w1:=E8.aU (fun b h=>.inl h);have k2:w1.cell? ⟨a.block,a.off+2,none⟩=some (.slice ac d.cons.length cc):=(later Ru).1.at (k:=2) (by simp);(try simp only [go_sem,simprocAttr,k2]);refine fe d.cons.length (fun k ρ w'=>k≤d.cons.length∧Mod (fun b=>b=md∨b=mc) w w'∧(∃ m,fu w' S c md mc mf ⟨bO E.aH d.name d,m,E.ak,E.params⟩∧nM d (d.cons.drop k) k m=nM d d.cons 0 E.cons)∧ρ=[(0,ptr c),(1,.pointer (some a)),(18,.slice ac d.cons.length cc),(19,I d.cons.length),(20,I k)])
  ⟨by omega,Ru,⟨E.cons,ig,rfl⟩,rfl⟩ lV ?_ ?_ (by decide) ?_
 ·rintro k _ w2 ⟨hk,_,_,rfl⟩;exact ⟨rfl,rfl,hk⟩
 ·rintro k _ w2 ⟨_,ai,⟨m,bh,pr⟩,rfl⟩ hk;rw [adt hk] at pr;obtain ⟨q1,q2,q3⟩:=later ai;obtain ⟨ad,c2,r,e,hr,fJ,bU,_⟩:=eh q2 hk;obtain ⟨rfl,-,-⟩:=bY e;obtain ⟨vf,rfl,hf,hn⟩:=hr;have bk:(0:Int)≤k∧(k:Int) < d.cons.length:=by omega
  obtain ⟨vp2,vb2,vl2,_,_,_,Cw⟩:=bh.box;(try simp only [go_sem,simprocAttr,bq,br,bk,bU]);refine dp (n:=2) (vs:=[.string d.cons[k].name,vf]) rfl rfl (aS rfl (aS (mL hf) dE)) ?_;intro w3 aM aq eV;have cA:=bh.aB aq;have kn:w3.cell? ⟨w2.heap.size,0,none⟩=some (.string d.cons[k].name):=by rw [cell_of aM];rfl
  (try simp only [go_sem,simprocAttr,kn,cell_of (aq.at Cw _root_.id)]);have Rv:Mod (fun _=>False) w3 w3.drew:=(Mod.refl _ _).drew;have lA:=ai.trans (an aq);refine mS (R:=q8 w3.drew (Out S w3.drew)) (a:=(d,k)) (k:=d.cons[k].name) (b:=mc) (kt:=9) (et:=158) rfl rfl rfl rfl rfl (cA.aZ Rv (fun _ h=>h.elim) _root_.id) ⟨a,rfl,(later (lA.trans (an Rv))).2.2,hk⟩ ?_;intro w4 h4 aA eG;have oO:Mod (· = mc) w3 w4:=aA.eF;have h4:=cE.mod h4 (Mod.refl (fun _=>False) w4) _root_.id (fun v y x=>x.up (aA.aU S2) aK (aX (aA.aU S2)));(try simp only [go_sem,simprocAttr]);exact ⟨hk,lA.trans (oO.aU (fun b h=>.inr h)),_,cA.dz (E':=⟨bO E.aH d.name d,bO m d.cons[k].name (d,k),E.ak,E.params⟩) oO S2 (fun h=>n2 h) (cA.E7 oO S2 (fun h=>n4 h)) h4 (cA.def oO S2 (fun h=>n6 h.symm)),pr⟩
 ·rintro _ w2 ⟨_,ai,⟨m,bh,pr⟩,rfl⟩;rw [List.drop_length,nM] at pr;subst pr;(try simp only [go_sem,simprocAttr]);exact ⟨bh,ai⟩
def s7:List ByteArray→bM→bM
 | [],l=>l
 | s::ks,l=>s7 ks (bO l s 1)
theorem adu {l:List ByteArray} {i:Nat} (hi:i < l.length) (m:bM):s7 (l.drop i) m=s7 (l.drop (i+1)) (bO m l[i] 1):=by rw [List.drop_eq_getElem_cons hi,s7]
def eA (E:Env) (ps:List ByteArray):Env:={ E with params:=s7 ps []}
abbrev Kn (S:Nat→Prop) (M:Ms):Nat→Prop:=fun b=>S b∨b=M.mp∨b=M.mb∨b=M.ml
theorem KL {E:Env} {ps:List ByteArray} {w:World} {S:Nat→Prop} {c md mc mf:Nat} {v:Value} (hc:fu w S c md mc mf E) (gq:aT w v 1 (Out S w) gw ps) :
   a8 Tryz.prog 43 [ptr c,v] w fun r w'=>(∃ M:Ms,M.c=c∧M.md=md∧M.mc=mc∧M.mf=mf∧bP w' (Kn S M) M (eA E ps) [] []∧w.heap.size≤M.mp∧w.heap.size≤M.mb∧w.heap.size≤M.ml)∧Mod (· = c) w w':=by
 obtain ⟨⟨n1,n2,n3⟩,⟨n4,n5⟩,n6⟩:=KK hc.nodup;obtain ⟨vp,vb,vl,o1,o2,o3,jb⟩:=hc.box;obtain ⟨ap,cp,rfl⟩:=a7 gq;have lV:=dB gq;have s8:∀ b∈[c,md,mc,mf],b < w.heap.size:=fun b hb=>hc.lt b (hc.bt b hb)
 have Cg:=s8 c (by simp);have lc2:=s8 md (by simp);have B8:=s8 mc (by simp);have lc4:=s8 mf (by simp);refine Zd.calls rfl ?_;unfold Ie;(try simp only [go_sem,simprocAttr]);refine pY (α:=Int) RI ?_;intro w1 ja aj bC;(try simp only [go_sem,simprocAttr]);refine iY (b:=c) (off:=3) (v:=.map (some w.heap.size)) rfl rfl (aj.at jb _root_.id) rfl (by simp) ?_;intro w2 au ai bK;have nD:cE w2 w.heap.size RI ([]:bM):=ja.mod ai (by omega) (fun _ _ x=>x);have aY:Mod (· = c) w w2:=(an aj).trans ai;have Sc:∀ b,b=c→S b:=fun b hb=>by rw [hb];exact hc.bt _ (by simp)
 (try simp only [go_sem,simprocAttr]);refine fe ps.length (fun k ρ w'=>k≤ps.length∧Mod (· = c) w w'∧w'.heap.size=w2.heap.size∧w'.heap[c]? = w2.heap[c]?∧(∃ m,cE w' w.heap.size RI m∧s7 (ps.drop k) m=s7 ps [])∧ρ=[(0,ptr c),(10,.slice ap ps.length cp),(11,I ps.length),(12,I k)])
  ⟨by omega,aY,rfl,rfl,⟨[],nD,rfl⟩,rfl⟩ lV ?_ ?_ (by decide) ?_
 ·rintro k _ w3 ⟨hk,_,_,_,_,rfl⟩;exact ⟨rfl,rfl,hk⟩
 ·rintro k _ w3 ⟨_,aq,eV,aM,⟨m,rC,Cy⟩,rfl⟩ hk;rw [adu hk] at Cy;obtain ⟨ad,c2,e,hn,kq⟩:=sH (gq.up (aq.aU Sc) aK (aX (aq.aU Sc)) (fun _ _ h=>h)) hk;obtain ⟨rfl,-,-⟩:=bY e;have bk:(0:Int)≤k∧(k:Int) < ps.length:=by omega
  rw [au] at aM;(try simp only [go_sem,simprocAttr,bq,br,bk,kq,cell_of aM]);refine mS (R:=RI) (a:=(1:Int)) (k:=ps[k]) (b:=w.heap.size) (kt:=9) (et:=3) rfl rfl rfl rfl rfl rC rfl ?_;intro w4 h4 aA eG;(try simp only [go_sem,simprocAttr]);refine ⟨hk,aq.step aA (fun b hb hl=>by omega),eG.trans eV,?_,_,h4,Cy⟩;rw [aA.bN c (by have:=aq.size;omega) (by omega),aM,au]
 ·rintro _ w3 ⟨_,aq,eV,aM,⟨m,rC,Cy⟩,rfl⟩;rw [List.drop_length,s7] at Cy;subst Cy;rw [au] at aM;(try simp only [go_sem,simprocAttr]);refine pY (α:=Int) RI ?_;intro w4 Cz aA eG;(try simp only [go_sem,simprocAttr]);refine pY (α:=Ty) (sO w4 (Out S w4)) ?_;intro w5 CA aD eN;have adw:∀ R,cE w5 w4.heap.size R ([]:Loc):=fun R=>by
   obtain ⟨lv,q1,q2⟩:=CA;cases q2;exact ⟨[],q1,.nil⟩
  (try simp only [go_sem,simprocAttr]);refine iY (b:=c) (off:=5) (v:=.map (some w3.heap.size)) rfl rfl (aD.at (aA.at aM _root_.id) _root_.id) rfl (by simp) ?_;intro w6 ci aJ gN;(try simp only [go_sem,simprocAttr]);refine iY (b:=c) (off:=6) (v:=.map (some w4.heap.size)) rfl rfl ci rfl (by simp) ?_;intro w7 dq aN jX;have z3:=aq.size;have yq:Mod (· = c) w5 w7:=aJ.trans aN;have pn:Mod (· = c) w3 w7:=(an (aA.trans aD)).trans yq;have qd:Mod (· = c) w w7:=aq.trans pn;(try simp only [go_sem,simprocAttr]);refine ⟨⟨⟨c,md,mc,mf,w.heap.size,w3.heap.size,w4.heap.size⟩,rfl,rfl,rfl,rfl,?_,Nat.le_refl _,z3,by show w.heap.size≤w4.heap.size;omega⟩,qd⟩;have no:∀ b,b < w.heap.size→Kn S ⟨c,md,mc,mf,w.heap.size,w3.heap.size,w4.heap.size⟩ b→S b:=fun b hb hh=>by
   rcases hh with h | h | h | h
   ·exact h
   ·exact absurd h (by show ¬ b=w.heap.size;omega)
   ·exact absurd h (by show ¬ b=w3.heap.size;omega)
   ·exact absurd h (by show ¬ b=w4.heap.size;omega)
  have up:=eH (qd.aU Sc) no;refine ⟨dq,?_,fun b hb=>?_,fun b hb=>?_,?_,?_,?_,?_,?_,?_⟩
  ·simp only [Ms.list,List.nodup_cons,List.mem_cons,List.not_mem_nil,or_false,not_or,not_false_eq_true,List.nodup_nil,and_true];omega
  ·simp only [Ms.list,List.mem_cons,List.not_mem_nil,or_false] at hb;rcases hb with rfl | rfl | rfl | rfl | rfl | rfl | rfl
   ·exact .inl (hc.bt _ (by simp))
   ·exact .inl (hc.bt _ (by simp))
   ·exact .inl (hc.bt _ (by simp))
   ·exact .inl (hc.bt _ (by simp))
   ·exact .inr (.inl rfl)
   ·exact .inr (.inr (.inl rfl))
   ·exact .inr (.inr (.inr rfl))
  ·rcases hb with h | h | h | h
   ·have:=hc.lt b h;omega
   ·have h:b=w.heap.size:=h;omega
   ·have h:b=w3.heap.size:=h;omega
   ·have h:b=w4.heap.size:=h;omega
  ·exact hc.aH.mod qd (fun h=>n1 h.symm) (fun _ _ x=>x.up (qd.aU Sc) aK up)
  ·exact hc.cons.mod qd (fun h=>n2 h.symm) (fun _ _ x=>x.up (qd.aU Sc) aK up)
  ·exact hc.ak.mod qd (fun h=>n3 h.symm) (fun _ _ x=>x.up (qd.aU Sc) aK up)
  ·exact rC.mod pn (by show ¬ w.heap.size=c;omega) (fun _ _ x=>x)
  ·exact (Cz.mod aD _root_.id (fun _ _ x=>x)).mod yq (by show ¬ w3.heap.size=c;omega) (fun _ _ x=>x)
  ·exact (adw (sO w7 (Out _ w7))).mod yq (by show ¬ w4.heap.size=c;omega) (fun _ _ x=>x)
end
section
open Go Go.W
section
variable {P:Program} {N:Nat} {ops:Array Oper} {K:Go.W.Env→World→Prop} {dl:List Deferred} {w:World} {ds:List Nat} {Φ:Nat→Value→World→Prop} {mj:Go.W.Env}
theorem adx (dX:ops.toList.map (·.dst)=ds.map some) (lX:ds.Nodup)
   (aP:∀ i o,ops[i]? = some o→∀ e∈o.after,Region.binds .any e=true→e.on < i)
   (pt:∀ i v w w',Φ i v w→Mod (fun _=>False) w w'→Φ i v w')
   (iV:∀ i o,ops[i]? = some o→∃ st,iM P N ops [o]=some st∧∀ aw w',Mod (fun _=>False) w w'→(∀ e∈o.after,Region.binds .any e=true→∃ v,aw.get (ds.getD e.on 0)=some v∧Φ e.on v w')→(∀ t,t∉ds→aw.get t=mj.get t) →
    wpS P st aw w' (fun fj w2=>∃ v,fj=aw.put (some (ds.getD i 0)) v∧Mod (fun _=>False) w' w2∧Φ i v w2))
   (kX:∀ aw w',Mod (fun _=>False) w w'→(∀ i,i < ops.size→∃ v,aw.get (ds.getD i 0)=some v∧Φ i v w')→(∀ t,t∉ds→aw.get t=mj.get t)→K aw w') :
   ∀ (f:Nat) (listed:Array Bool) (aw:Go.W.Env) (a:Act) (w':World),listed.size=ops.size→listed.toList.count false≤f→Go.W.Good dl N aw a→Mod (fun _=>False) w w' →
    (∀ i,listed.getD i false=true→∃ v,aw.get (ds.getD i 0)=some v∧Φ i v w')→(∀ t,t∉ds→aw.get t=mj.get t)→lL P ops (fun _ _=>False) (pO dl N K) f listed a w':=by
 have hlen:ds.length=ops.size:=by
  have:=congrArg List.length dX
  simpa using this.symm
 have all:∀ (listed:Array Bool),listed.size=ops.size→Region.ready .any ops listed=[]→∀ i,i < ops.size→listed.getD i false=true:=by
  intro listed cZ hr i
  induction i using Nat.strongRecOn with
  | _ i ih=>
   intro hi;cases hl:listed.getD i false with
   | true=>rfl
   | false=>
    exfalso;have du:i∈Region.ready .any ops listed:=by
     rw [mem_ready];have eU:i < listed.size:=by omega
     refine ⟨by simpa [eU] using hl,ops[i],by simp [hi],fun e he hb=>?_⟩;have:=aP i _ (by simp [hi]) e he hb;exact ih _ this (by omega)
    rw [hr] at du;cases du
 intro f
 induction f with
 | zero=>
  intro listed aw a w' cZ KM hg hm hh hk;have hr:Region.ready .any ops listed=[]:=by
   refine List.eq_nil_iff_forall_not_mem.2 fun i hi=>?_
   obtain ⟨h0,o,ho,_⟩:=mem_ready.1 hi;have eU:i < listed.size:=by have:=(Array.getElem?_eq_some_iff.1 ho).1;omega
   have:false∈listed.toList:=by
    have h1:listed[i]=false:=by simpa [eU] using h0
    rw [← h1];exact Array.getElem_mem_toList eU
   have:=List.count_pos_iff.2 this;omega
  exact ⟨hr,aw,hg,kX aw w' hm (fun i hi=>hh i (all listed cZ hr i hi)) hk⟩
 | succ f ih=>
  intro listed aw a w' cZ KM hg hm hh hk;refine ⟨fun hr=>⟨aw,hg,kX aw w' hm (fun i hi=>hh i (all listed cZ hr i hi)) hk⟩,fun i hi=>?_⟩;obtain ⟨h0,o,ho,cN⟩:=mem_ready.1 hi;have hio:i < ops.size:=(Array.getElem?_eq_some_iff.1 ho).1;have eU:i < listed.size:=by omega
  obtain ⟨st,bz,jn⟩:=iV i o ho;have Oc:o.dst=some (ds.getD i 0):=by
   have h1:=congrArg (fun l=>l[i]?) dX;simp only [List.getElem?_map,Array.getElem?_toList,ho,Option.map_some] at h1;have h2:ds[i]? = some ds[i]:=List.getElem?_eq_getElem (by omega);rw [h2,Option.map_some] at h1;have:o.dst=some ds[i]:=by simpa using h1
   rw [this];simp [List.getD,h2]
  have kI:=zk (G:=fun a2 w2=>∃ fj v,Go.W.Good dl N fj a2∧fj=aw.put (some (ds.getD i 0)) v∧Mod (fun _=>False) w' w2∧Φ i v w2) [o] st aw a w' _ bz (jn aw w' hm (fun e he hb=>hh _ (cN e he hb)) hk) hg
   (fun fj a2 w2 gZ ⟨v,e1,e2,e3⟩=>⟨fj,v,gZ,e1,e2,e3⟩)
  have next:∀ a2 w2,(∃ fj v,Go.W.Good dl N fj a2∧fj=aw.put (some (ds.getD i 0)) v∧Mod (fun _=>False) w' w2∧Φ i v w2)→(fun a' dP=>Go.W.Kept ((fun _ _=>False:Nat→Nat→Prop) i) w' dP∧lL P ops (fun _ _=>False) (pO dl N K) f (listed.setIfInBounds i true) a' dP) a2 w2:=by
   rintro a2 w2 ⟨fj,v,gZ,rfl,ai,ady⟩;refine ⟨fun b hb=>hb.elim,ih _ _ a2 w2 (by simp [cZ]) ?_ gZ (hm.trans ai) ?_ ?_⟩
   ·have h1:listed.toList[i]'(by simpa using eU)=false:=by simpa [eU] using h0
    have bH:=List.count_set (a:=true) (b:=false) (l:=listed.toList) (i:=i) (by simpa using eU);rw [h1] at bH;simp only [Array.toList_setIfInBounds];rw [bH,if_pos (show (false == false)=true from rfl),if_neg (show ¬ (true == false)=true by decide)];omega
   ·intro j hj;by_cases lM:j=i
    ·subst lM;exact ⟨v,by simp [Env.put,Env.get],ady⟩
    ·rw [getD_set_ne false (Ne.symm lM)] at hj;obtain ⟨u,hu,hp⟩:=hh j hj;refine ⟨u,?_,pt _ _ _ _ hp ai⟩;have hjs:j < ds.length:=by
      rcases Nat.lt_or_ge j listed.size with h | h
      ·omega
      ·simp [Array.getElem?_eq_none h] at hj
     have bo:ds.getD i 0≠ds.getD j 0:=by
      have e1:ds.getD i 0=ds[i]'(by omega):=by simp [List.getD,List.getElem?_eq_getElem (show i < ds.length by omega)]
      have e2:ds.getD j 0=ds[j]:=by simp [List.getD,List.getElem?_eq_getElem hjs]
      rw [e1,e2];intro h;exact lM ((List.getElem_inj lX).1 h).symm
     simp only [Env.put,Env.get];rw [if_neg bo];exact hu
   ·intro t ht;have:ds.getD i 0∈ds:=by
     have e1:ds.getD i 0=ds[i]'(by omega):=by simp [List.getD,List.getElem?_eq_getElem (show i < ds.length by omega)]
     rw [e1];exact List.getElem_mem _
    simp only [Env.put,Env.get];rw [if_neg (fun h:ds.getD i 0=t=>ht (by rw [← h];exact this))];exact hk t ht
  refine ⟨o,ho,?_⟩;unfold jN at kI
  split
  ·rename_i hw;rw [if_pos hw] at kI;exact Oper.wp_mono (fun a2 w2 KN=>next a2 w2 KN) kI
  ·rename_i hw;rw [if_neg hw] at kI;exact next _ _ kI
theorem adz {id:Nat} {Q:Post} {ρ:Go.W.Env} (hm:P.follows .mixedOrders=true) (dX:ops.toList.map (·.dst)=ds.map some) (lX:ds.Nodup)
   (aP:∀ i o,ops[i]? = some o→∀ e∈o.after,Region.binds .any e=true→e.on < i)
   (pt:∀ i v w w',Φ i v w→Mod (fun _=>False) w w'→Φ i v w')
   (iV:∀ i o,ops[i]? = some o→∃ st,iM P N ops [o]=some st∧∀ aw w',Mod (fun _=>False) w w'→(∀ e∈o.after,Region.binds .any e=true→∃ v,aw.get (ds.getD e.on 0)=some v∧Φ e.on v w')→(∀ t,t∉ds→aw.get t=ρ.get t) →
    wpS P st aw w' (fun fj w2=>∃ v,fj=aw.put (some (ds.getD i 0)) v∧Mod (fun _=>False) w' w2∧Φ i v w2))
   (kX:∀ aw w',Mod (fun _=>False) w w'→(∀ i,i < ops.size→∃ v,aw.get (ds.getD i 0)=some v∧Φ i v w')→(∀ t,t∉ds→aw.get t=ρ.get t)→Q .normal aw w') :
   cH P N (.raw (.region id ops true)) Q ρ w:=by
 intro dl a hg;refine wp_region_any hm (G6 (B:=fun _ _=>False) (Q:=pO dl N (fun aw w'=>Q .normal aw w')) (fun a' w' ⟨aw,h1,h2⟩=>⟨aw,h1,h2⟩) _ _ _ _ ?_);refine adx (w:=w) (mj:=ρ) dX lX aP pt iV kX _ _ ρ a _ (by simp) ?_ hg (Mod.refl _ _).drew ?_ (fun _ _=>rfl)
 ·exact Nat.le_trans List.count_le_length (by simp)
 ·intro i hi;rcases Nat.lt_or_ge i ops.size with h | h
  ·simp [h] at hi
  ·simp [h] at hi
theorem KO:∀ (l:List Oper) (st:List Go.W.S) (i:Nat) (o:Oper),iM P N ops l=some st→l[i]? = some o→∃ s,st[i]? = some s∧iM P N ops [o]=some [s]
 | [],_,i,o,_,h=>by simp at h
 | o'::l,st,i,o,h,hi=>by
  simp only [iM] at h
  split at h
  ·rename_i s t hs ht;cases h;cases i with
   | zero=>
    simp only [List.getElem?_cons_zero,Option.some.injEq] at hi;subst hi;exact ⟨s,rfl,by simp only [iM,hs]⟩
   | succ i=>
    simp only [List.getElem?_cons_succ] at hi ⊢;exact KO l t i o ht hi
  ·cases h
def waits (o:Oper):List Nat:=(o.after.toList.filter (Region.binds .any)).map (·.on)
theorem adA {id:Nat} {Q:Post} {ρ:Go.W.Env} {deps:List (List Nat)} {wm:List Go.W.S} (hm:P.follows .mixedOrders=true) (dX:ops.toList.map (·.dst)=ds.map some) (lX:ds.Nodup)
   (KP:ops.toList.map waits=deps) (aP:(deps.zipIdx.all fun x=>x.1.all fun j=>decide (j < x.2))=true) (bz:iM P N ops ops.toList=some wm)
   (pt:∀ i v w w',Φ i v w→Mod (fun _=>False) w w'→Φ i v w')
   (iV:∀ i s,wm[i]? = some s→∀ aw w',Mod (fun _=>False) w w'→(∀ j∈deps.getD i [],∃ v,aw.get (ds.getD j 0)=some v∧Φ j v w')→(∀ t,t∉ds→aw.get t=ρ.get t) →
    wpS P [s] aw w' (fun fj w2=>∃ v,fj=aw.put (some (ds.getD i 0)) v∧Mod (fun _=>False) w' w2∧Φ i v w2))
   (kX:∀ aw w',Mod (fun _=>False) w w'→(∀ i,i < ops.size→∃ v,aw.get (ds.getD i 0)=some v∧Φ i v w')→(∀ t,t∉ds→aw.get t=ρ.get t)→Q .normal aw w') :
   cH P N (.raw (.region id ops true)) Q ρ w:=by
 have dep:∀ (i:Nat) (o:Oper),ops[i]? = some o→deps.getD i []=waits o:=by
  intro i o ho;rw [← KP];simp [List.getD,ho]
 have mem:∀ (o:Oper) (e:Edge),e∈o.after→Region.binds .any e=true→e.on∈waits o:=by
  intro o e he hb;unfold waits;exact List.mem_map_of_mem (List.mem_filter.2 ⟨Array.mem_toList_iff.2 he,hb⟩)
 refine adz (ds:=ds) (Φ:=Φ) hm dX lX ?_ pt ?_ kX
 ·intro i o ho e he hb;have h1:e.on∈deps.getD i []:=by rw [dep i o ho];exact mem o e he hb
  have hi:i < deps.length:=by
   rcases Nat.lt_or_ge i deps.length with h | h
   ·exact h
   ·simp [List.getD,List.getElem?_eq_none h] at h1
  rw [List.all_eq_true] at aP;have h2:(deps[i],i)∈deps.zipIdx:=by
   rw [List.mem_zipIdx_iff_getElem?];exact List.getElem?_eq_getElem hi
  have h3:=aP _ h2;rw [List.all_eq_true] at h3;have h4:deps.getD i []=deps[i]:=by simp [List.getD,List.getElem?_eq_getElem hi]
  rw [h4] at h1
  simpa using h3 _ h1
 ·intro i o ho;obtain ⟨s,hs,hr⟩:=KO (ops:=ops) ops.toList wm i o bz (by simpa using ho);refine ⟨_,hr,fun aw w' h1 h2 h3=>iV i s hs aw w' h1 (fun j hj=>?_) h3⟩;rw [dep i o ho] at hj;unfold waits at hj;obtain ⟨e,he,rfl⟩:=List.mem_map.1 hj;obtain ⟨vj,sy⟩:=List.mem_filter.1 he;exact h2 e (Array.mem_toList_iff.1 vj) sy
end
end
section
open Go Go.W
abbrev NB (n0:Nat) (w:World):Nat→Prop:=fun b=>n0≤b∧b < w.heap.size
theorem fE {n0:Nat} {w w':World} {S:Nat→Prop} (hm:Mod S w w'):∀ b,NB n0 w b→NB n0 w' b:=fun b h=>⟨h.1,Nat.lt_of_lt_of_le h.2 hm.size⟩
theorem pu {w w' w2:World} {S:Nat→Prop} (hm:Mod S w w') (hs:w2.heap.size=w'.heap.size+1):NB w.heap.size w2 w'.heap.size:=⟨hm.size,by omega⟩
def cX {α β:Type} (P:α→β→Prop):List α→List β→Prop
 | [],[]=>True
 | a::l,b::m=>P a b∧cX P l m
 | _,_=>False
theorem cX.at {α β:Type} {P:α→β→Prop}:∀ {l:List α} {m:List β},cX P l m→l.length=m.length∧∀ (i:Nat) (a:α) (b:β),l[i]? = some a→m[i]? = some b→P a b
 | [],[],_=>⟨rfl,fun i a b h=>by simp at h⟩
 | a::l,b::m,h=>by
  obtain ⟨h1,h2⟩:=h;obtain ⟨e,k⟩:=cX.at h2;refine ⟨by simp [e],fun i x y hx hy=>?_⟩;cases i with
  | zero=>simp only [List.getElem?_cons_zero,Option.some.injEq] at hx hy;subst hx hy;exact h1
  | succ i=>simp only [List.getElem?_cons_succ] at hx hy;exact k i x y hx hy
 | [],_::_,h=>h.elim
 | _::_,[],h=>h.elim
def yu (sz:Nat):List (List Value)→Prop
 | []=>True
 | r::l=>r.length=sz∧yu sz l
theorem yu.mem {sz:Nat}:∀ {l:List (List Value)},yu sz l→∀ r∈l,r.length=sz
 | [],_,r,h=>by cases h
 | x::l,h,r,hr=>by
  rcases List.mem_cons.1 hr with rfl | hr
  ·exact h.1
  ·exact yu.mem h.2 r hr
theorem KQ {sz:Nat}:∀ {l:List (List Value)},yu sz l→l.flatten.length=l.length*sz
 | [],_=>by simp
 | x::l,h=>by rw [List.flatten_cons,List.length_append,h.1,KQ h.2,List.length_cons,Nat.succ_mul];omega
def partsOf (sz:Nat):Nat→List (List Value)→List (Nat×Nat×Value)
 | _,[]=>[]
 | off,r::l=>(off,sz,.agg r.toArray)::partsOf sz (off+sz) l
theorem jC {sz:Nat}:∀ (rows:List (List Value)) (pre post:List Value),yu sz rows→post.length=rows.length*sz→jm (pre++post).toArray (partsOf sz pre.length rows)=some (pre++rows.flatten).toArray
 | [],pre,post,_,h=>by
  have:post=[]:=List.eq_nil_of_length_eq_zero (by simpa using h);subst this;simp [partsOf,jm]
 | r::l,pre,post,hl,h=>by
  rw [List.length_cons,Nat.succ_mul] at h;obtain ⟨h1,h2⟩:=hl;rw [partsOf,Of h1 (by rw [List.length_append];omega)];have e1:(pre++post).take pre.length=pre:=by simp
  have e2:(pre++post).drop (pre.length+sz)=post.drop sz:=by rw [List.drop_append];simp
  rw [e1,e2];have:=jC l (pre++r) (post.drop sz) h2 (by rw [List.length_drop];omega);rw [List.length_append,h1] at this;rw [this,List.flatten_cons,List.append_assoc]
theorem mo {α:Type} {w:World} {b T sz n:Nat} {B:Nat→Prop} {P:List Value→α→Prop} {rows:List (List Value)} {l:List α} (hb:w.heap[b]? = some (.cells rows.flatten.toArray T (0,0))) (hB:B b) (cZ:yu sz rows) (hle:rows.length≤1099511627776) (ha:cX P rows l) (hn:rows.length=n:=by rfl) :
   aT w (.slice (some ⟨b,0,none⟩) n n) sz B P l:=by
 subst hn;obtain ⟨e,h⟩:=ha.at;have ho:dx w T sz (.slice (some ⟨b,0,none⟩) rows.length rows.length) (rows.flatMap id) rows.length (some b):=by
  have hf:rows.flatMap id=rows.flatten:=by simp [List.flatMap]
  rw [hf];exact ⟨KQ cZ,.inr ⟨b,rows.length,[],rfl,rfl,by rw [List.append_nil];exact hb,by rw [List.append_nil,KQ cZ];omega,Nat.le_refl _⟩⟩
 exact ⟨rows,⟨(BI ho cZ.mem).mod (.refl (fun _=>False) w) aC (fun b' oq=>by cases oq;exact hB),hle⟩,e,h⟩
inductive GV where
 | aZ (k:Cn) | cons (l:List Cn) | dt (d:Dt) | E9 (l:List Dt) | strs (l:List ByteArray) | ty (t:Ty) | Am (l:List Ty)
def GV.At (n0:Nat) (w:World):GV→Value→Prop
 | .aZ k,v=>∃ cs:List Value,v = .agg cs.toArray∧eL w (NB n0 w) cs k
 | .cons l,v=>aT w v 2 (NB n0 w) (eL w (NB n0 w)) l
 | .dt d,v=>∃ cs:List Value,v = .agg cs.toArray∧gC w (NB n0 w) cs d
 | .E9 l,v=>aT w v 3 (NB n0 w) (gC w (NB n0 w)) l
 | .strs l,v=>aT w v 1 (NB n0 w) gw l
 | .ty t,v=>∃ cs:List Value,v = .agg cs.toArray∧aW w (NB n0 w) cs t
 | .Am l,v=>aT w v 3 (NB n0 w) (aW w (NB n0 w)) l
theorem GV.up {n0:Nat} {w w':World} (g:GV) {v:Value} (h:g.At n0 w v) (hm:Mod (fun _=>False) w w'):g.At n0 w' v:=by
 cases g with
 | aZ k=>obtain ⟨cs,e,h⟩:=h;exact ⟨cs,e,h.up hm aC (fE hm)⟩
 | cons l=>exact aT.up h hm aC (fE hm) (fun _ _ h=>h.up hm aC (fE hm))
 | dt d=>obtain ⟨cs,e,h⟩:=h;exact ⟨cs,e,h.up hm aC (fE hm)⟩
 | E9 l=>exact aT.up h hm aC (fE hm) (fun _ _ h=>h.up hm aC (fE hm))
 | strs l=>exact aT.up h hm aC (fE hm) (fun _ _ h=>h)
 | ty t=>obtain ⟨cs,e,h⟩:=h;exact ⟨cs,e,h.up hm aC (fE hm)⟩
 | Am l=>exact aT.up h hm aC (fE hm) (fun _ _ h=>h.up hm aC (fE hm))
abbrev cC:Ty:=.mk 2 ⟨#[97]⟩ []
abbrev fF:Ty:=.mk 2 ⟨#[98]⟩ []
abbrev mZ:Ty:=.mk 2 ⟨#[99]⟩ []
abbrev j':Ty:=.mk 4 ⟨#[76,105,115,116]⟩ [cC]
abbrev rD:Cn:=⟨⟨#[70,97,108,115,101]⟩,[]⟩
abbrev rE:Cn:=⟨⟨#[84,114,117,101]⟩,[]⟩
abbrev rF:Cn:=⟨⟨#[85,110,105,116]⟩,[]⟩
abbrev rG:Cn:=⟨⟨#[78,105,108]⟩,[]⟩
abbrev rH:Cn:=⟨⟨#[67,111,110,115]⟩,[cC,j']⟩
abbrev rI:Cn:=⟨⟨#[80,97,105,114]⟩,[cC,fF]⟩
abbrev rJ:Cn:=⟨⟨#[84,114,105,112,108,101]⟩,[cC,fF,mZ]⟩
abbrev jD:Dt:=⟨⟨#[66,111,111,108]⟩,[],[rD,rE]⟩
abbrev qe:Dt:=⟨⟨#[85,110,105,116]⟩,[],[rF]⟩
abbrev dList:Dt:=⟨⟨#[76,105,115,116]⟩,[⟨#[97]⟩],[rG,rH]⟩
abbrev qf:Dt:=⟨⟨#[80,97,105,114]⟩,[⟨#[97]⟩,⟨#[98]⟩],[rI]⟩
abbrev qg:Dt:=⟨⟨#[84,114,105,112,108,101]⟩,[⟨#[97]⟩,⟨#[98]⟩,⟨#[99]⟩],[rJ]⟩
def jh:List Dt:=[jD,qe,dList,qf,qg]
def wo (id:Nat):Code→Option (Array Oper)
 | .region i ops true=>if i == id then some ops else none
 | .seq a b=>(wo id a).orElse fun _=>wo id b
 | .cond _ a b=>(wo id a).orElse fun _=>wo id b
 | .block _ a=>wo id a
 | .loop a=>wo id a
 | _=>none
noncomputable def An:Array Oper:=((Tryz.f57.body.bind (wo 2)).getD #[])
noncomputable def Rw:IR:=.seq (.cS false [] []) <|
 .seq (.cS false [.e (some 4) (.call 76 [(.c (.string ⟨#[97]⟩))]),
.e (some 5) (.call 76 [(.c (.string ⟨#[98]⟩))]),
.e (some 6) (.call 76 [(.c (.string ⟨#[99]⟩))]),
.e (some 1) (.al 42 (.agg #[(.int .i64 0),(.string ⟨#[]⟩),(.slice none 0 0)])),
.e (some 2) (.al 42 (.agg #[(.int .i64 0),(.string ⟨#[]⟩),(.slice none 0 0)])),
.e (some 3) (.al 42 (.agg #[(.int .i64 0),(.string ⟨#[]⟩),(.slice none 0 0)])),
.e none (.st 3 (.t 1) (.t 4)),
.e none (.st 3 (.t 2) (.t 5)),
.e none (.st 3 (.t 3) (.t 6))] [1,2,3]) <|
 .seq (.raw (.region 2 An true)) <|
 .ret
def Rx:List Nat:=[7,8,9,10,11,12,13,14,15,16,17,18,19,20,21,22,23,24,25,26,27,28,29,30,31,32,33,34,35,36,37,38,39,0]
def Ry:List (List Nat):=[[],[],[0,1],[2],[],[4],[5],[],[],[],[],[10],[11],[9,12],[13],[8,14],[7,15],[],[],[],[18,19],[20],[21],[17,22],[],[],[],[],[25,26,27],[28],[29],[24,30],[3,6,16,23,31],[32,12,0,1,2,3,4,5,6,7,8,9,10,11,12,13,14,15,16,17,18,19,20,21,22,23,24,25,26,27,28,29,30,31,32]]
def gGv:List GV:=[.aZ rD,.aZ rE,.cons [rD,rE],.dt jD,.aZ rF,.cons [rF],.dt qe,.strs [⟨#[97]⟩],.aZ rG,.ty cC,.ty cC,.Am [cC],.ty j',.Am [cC,j'],.aZ rH,.cons [rG,rH],.dt dList,.strs [⟨#[97]⟩,⟨#[98]⟩],.ty cC,.ty fF,.Am [cC,fF],.aZ rI,.cons [rI],.dt qf,.strs [⟨#[97]⟩,⟨#[98]⟩,⟨#[99]⟩],.ty cC,.ty fF,.ty mZ,.Am [cC,fF,mZ],.aZ rJ,.cons [rJ],.dt qg,.E9 [jD,qe,dList,qf,qg],.E9 jh]
def KR:List Go.W.S:=[.r (some 7) (.bd #[(.string ⟨#[]⟩),(.slice none 0 0)] [(0,1,(.c (.string ⟨#[70,97,108,115,101]⟩)))]),
.r (some 8) (.bd #[(.string ⟨#[]⟩),(.slice none 0 0)] [(0,1,(.c (.string ⟨#[84,114,117,101]⟩)))]),
.e (some 9) (.bs 66 2 #[(.string ⟨#[]⟩),(.slice none 0 0),(.string ⟨#[]⟩),(.slice none 0 0)] [(0,2,(.t 7)),(2,2,(.t 8))]),
.r (some 10) (.bd #[(.string ⟨#[]⟩),(.slice none 0 0),(.slice none 0 0)] [(0,1,(.c (.string ⟨#[66,111,111,108]⟩))),(2,1,(.t 9))]),
.r (some 11) (.bd #[(.string ⟨#[]⟩),(.slice none 0 0)] [(0,1,(.c (.string ⟨#[85,110,105,116]⟩)))]),
.e (some 12) (.bs 66 1 #[(.string ⟨#[]⟩),(.slice none 0 0)] [(0,2,(.t 11))]),
.r (some 13) (.bd #[(.string ⟨#[]⟩),(.slice none 0 0),(.slice none 0 0)] [(0,1,(.c (.string ⟨#[85,110,105,116]⟩))),(2,1,(.t 12))]),
.e (some 14) (.bs 9 1 #[(.string ⟨#[]⟩)] [(0,1,(.c (.string ⟨#[97]⟩)))]),
.r (some 15) (.bd #[(.string ⟨#[]⟩),(.slice none 0 0)] [(0,1,(.c (.string ⟨#[78,105,108]⟩)))]),
.r (some 16) (.ln 3 (.t 1)),
.r (some 17) (.ln 3 (.t 1)),
.e (some 18) (.bs 42 1 #[(.int .i64 0),(.string ⟨#[]⟩),(.slice none 0 0)] [(0,3,(.t 17))]),
.e (some 19) (.call 77 [(.c (.string ⟨#[76,105,115,116]⟩)),(.t 18)]),
.e (some 20) (.bs 42 2 #[(.int .i64 0),(.string ⟨#[]⟩),(.slice none 0 0),(.int .i64 0),(.string ⟨#[]⟩),(.slice none 0 0)] [(0,3,(.t 16)),(3,3,(.t 19))]),
.r (some 21) (.bd #[(.string ⟨#[]⟩),(.slice none 0 0)] [(0,1,(.c (.string ⟨#[67,111,110,115]⟩))),(1,1,(.t 20))]),
.e (some 22) (.bs 66 2 #[(.string ⟨#[]⟩),(.slice none 0 0),(.string ⟨#[]⟩),(.slice none 0 0)] [(0,2,(.t 15)),(2,2,(.t 21))]),
.r (some 23) (.bd #[(.string ⟨#[]⟩),(.slice none 0 0),(.slice none 0 0)] [(0,1,(.c (.string ⟨#[76,105,115,116]⟩))),(1,1,(.t 14)),(2,1,(.t 22))]),
.e (some 24) (.bs 9 2 #[(.string ⟨#[]⟩),(.string ⟨#[]⟩)] [(0,1,(.c (.string ⟨#[97]⟩))),(1,1,(.c (.string ⟨#[98]⟩)))]),
.r (some 25) (.ln 3 (.t 1)),
.r (some 26) (.ln 3 (.t 2)),
.e (some 27) (.bs 42 2 #[(.int .i64 0),(.string ⟨#[]⟩),(.slice none 0 0),(.int .i64 0),(.string ⟨#[]⟩),(.slice none 0 0)] [(0,3,(.t 25)),(3,3,(.t 26))]),
.r (some 28) (.bd #[(.string ⟨#[]⟩),(.slice none 0 0)] [(0,1,(.c (.string ⟨#[80,97,105,114]⟩))),(1,1,(.t 27))]),
.e (some 29) (.bs 66 1 #[(.string ⟨#[]⟩),(.slice none 0 0)] [(0,2,(.t 28))]),
.r (some 30) (.bd #[(.string ⟨#[]⟩),(.slice none 0 0),(.slice none 0 0)] [(0,1,(.c (.string ⟨#[80,97,105,114]⟩))),(1,1,(.t 24)),(2,1,(.t 29))]),
.e (some 31) (.bs 9 3 #[(.string ⟨#[]⟩),(.string ⟨#[]⟩),(.string ⟨#[]⟩)] [(0,1,(.c (.string ⟨#[97]⟩))),(1,1,(.c (.string ⟨#[98]⟩))),(2,1,(.c (.string ⟨#[99]⟩)))]),
.r (some 32) (.ln 3 (.t 1)),
.r (some 33) (.ln 3 (.t 2)),
.r (some 34) (.ln 3 (.t 3)),
.e (some 35) (.bs 42 3 #[(.int .i64 0),(.string ⟨#[]⟩),(.slice none 0 0),(.int .i64 0),(.string ⟨#[]⟩),(.slice none 0 0),(.int .i64 0),(.string ⟨#[]⟩),(.slice none 0 0)] [(0,3,(.t 32)),(3,3,(.t 33)),(6,3,(.t 34))]),
.r (some 36) (.bd #[(.string ⟨#[]⟩),(.slice none 0 0)] [(0,1,(.c (.string ⟨#[84,114,105,112,108,101]⟩))),(1,1,(.t 35))]),
.e (some 37) (.bs 66 1 #[(.string ⟨#[]⟩),(.slice none 0 0)] [(0,2,(.t 36))]),
.r (some 38) (.bd #[(.string ⟨#[]⟩),(.slice none 0 0),(.slice none 0 0)] [(0,1,(.c (.string ⟨#[84,114,105,112,108,101]⟩))),(1,1,(.t 31)),(2,1,(.t 37))]),
.e (some 39) (.bs 63 5 #[(.string ⟨#[]⟩),(.slice none 0 0),(.slice none 0 0),(.string ⟨#[]⟩),(.slice none 0 0),(.slice none 0 0),(.string ⟨#[]⟩),(.slice none 0 0),(.slice none 0 0),(.string ⟨#[]⟩),(.slice none 0 0),(.slice none 0 0),(.string ⟨#[]⟩),(.slice none 0 0),(.slice none 0 0)] [(0,3,(.t 10)),(3,3,(.t 13)),(6,3,(.t 23)),(9,3,(.t 30)),(12,3,(.t 38))]),
.r (some 0) (.mv (.t 39))]
theorem adB:BR Tryz.prog 57 0 [(0,[],[]),(1,[1,2,3],[]),(2,[0],[])] [2] Rw [.t 0] 40:=
 ⟨Tryz.f57,_,rfl,rfl,rfl,by decide,by kernel_rfl,by kernel_rfl⟩
theorem adC:An.toList.map (·.dst)=Rx.map some:=by kernel_rfl
theorem adD:An.toList.map waits=Ry:=by kernel_rfl
theorem adE:iM Tryz.prog 40 An An.toList=some KR:=by kernel_rfl
theorem adF:An.size=34:=by kernel_rfl
set_option maxHeartbeats 1000000 in
theorem adG {w:World}:a8 Tryz.prog 57 [] w fun r w'=>aT w' r 3 (NB w.heap.size w') (gC w' (NB w.heap.size w')) jh∧Mod (fun _=>False) w w':=by
 refine adB.calls rfl ?_;unfold Rw;(try simp only [go_sem,simprocAttr]);refine aI (by rfl) ?_;refine (Er ⟨#[97]⟩).mono ?_;rintro _ wa ⟨rfl,jB⟩;(try simp only [go_sem,simprocAttr]);refine aI (by rfl) ?_;refine (Er ⟨#[98]⟩).mono ?_;rintro _ wb ⟨rfl,fQ⟩;(try simp only [go_sem,simprocAttr]);refine aI (by rfl) ?_;refine (Er ⟨#[99]⟩).mono ?_;rintro _ wc ⟨rfl,kG⟩;(try simp only [go_sem,simprocAttr]);refine cM ?_;intro w1 ar aj bC;(try simp only [go_sem,simprocAttr]);refine cM ?_;intro w2 au ai bK;(try simp only [go_sem,simprocAttr]);refine cM ?_;intro w3 aM aq eV;(try simp only [go_sem,simprocAttr]);refine bL (cs:=cJ) (vs:=fR 2 ⟨#[97]⟩) rfl rfl (aq.at (ai.at ar _root_.id) _root_.id) rfl rfl (oG _ _) ?_;intro w4 ar aA eG;(try simp only [go_sem,simprocAttr]);refine bL (cs:=cJ) (vs:=fR 2 ⟨#[98]⟩) rfl rfl (aA.at (aq.at au _root_.id) (by omega)) rfl rfl (oG _ _) ?_;intro w5 au aD eN;(try simp only [go_sem,simprocAttr]);refine bL (cs:=cJ) (vs:=fR 2 ⟨#[99]⟩) rfl rfl (aD.at (aA.at aM (by omega)) (by omega)) rfl rfl (oG _ _) ?_;intro w6 aM aJ gN;have au:=aJ.at au (by omega);have ar:=aJ.at (aD.at ar (by omega)) (by omega);have z0c:=(jB.trans (fQ.trans kG)).size;have bn:Mod (fun _=>False) w w6:=(((jB.trans (fQ.trans kG)).trans (aj.trans (ai.trans aq))).step aA (fun b hb hl=>by omega)).step aD (fun b hb hl=>by omega) |>.step aJ (fun b hb hl=>by omega);generalize oP:wc.heap.size=b1 at *;generalize jY:w1.heap.size=b2 at *;generalize CB:w2.heap.size=b3 at *;clear jB fQ kG aj ai aq aA aD aJ bC bK eV eG eN gN oP jY CB;(try simp only [go_sem,simprocAttr]);refine adA (w:=w6) (ds:=Rx) (deps:=Ry) (wm:=KR) (Φ:=fun i v w'=>(gGv.getD i (.strs [])).At w.heap.size w' v) rfl adC (by decide) adD (by decide) adE (fun i v w w' h hm=>GV.up _ h hm) ?_ ?_;intro i s hs aw w' hm hp hk
 match i,hs with
 | 0,hs=>
  obtain rfl:=Option.some.inj hs;(try simp only [go_sem,simprocAttr]);refine ⟨_,rfl,.refl _ _,?_⟩;exact ⟨_,rfl,_,rfl,ej _ _ _ _,by decide⟩
 | 1,hs=>
  obtain rfl:=Option.some.inj hs;(try simp only [go_sem,simprocAttr]);refine ⟨_,rfl,.refl _ _,?_⟩;exact ⟨_,rfl,_,rfl,ej _ _ _ _,by decide⟩
 | 2,hs=>
  obtain rfl:=Option.some.inj hs;obtain ⟨v0,g0,h0⟩:=hp 0 (by decide);have g0:aw.get 7=some v0:=g0;obtain ⟨v1,g1,h1⟩:=hp 1 (by decide);have g1:aw.get 8=some v1:=g1;obtain ⟨cs0,rfl,h0⟩:∃ cs:List Value,v0 = .agg cs.toArray∧eL w' (NB w.heap.size w') cs rD:=h0;obtain ⟨f0,e0⟩:∃ f,cs0=[.string rD.name,f]:=by obtain ⟨f,e,_⟩:=h0;exact ⟨f,e⟩
  subst e0;obtain ⟨KS,rfl,h1⟩:∃ cs:List Value,v1 = .agg cs.toArray∧eL w' (NB w.heap.size w') cs rE:=h1;obtain ⟨f1,e1⟩:∃ f,KS=[.string rE.name,f]:=by obtain ⟨f,e,_⟩:=h1;exact ⟨f,e⟩
  subst e1;(try simp only [go_sem,simprocAttr,g0,g1]);refine fA (cs:=([[.string rD.name,f0],[.string rE.name,f1]]:List (List Value)).flatten.toArray) (ps:=partsOf 2 0 [[.string rD.name,f0],[.string rE.name,f1]]) (by (try simp only [go_sem,simprocAttr,g0,g1]);rfl) (jC (sz:=2) [[.string rD.name,f0],[.string rE.name,f1]] [] _ ⟨rfl,rfl,trivial⟩ rfl) ?_;intro w2 au ai bK;(try simp only [go_sem,simprocAttr]);refine ⟨_,rfl,ai,?_⟩;have hr:aT w2 (.slice (some ⟨w'.heap.size,0,none⟩) 2 2) 2 (NB w.heap.size w2) (eL w2 (NB w.heap.size w2)) [rD,rE]:=by
   refine mo (rows:=[[.string rD.name,f0],[.string rE.name,f1]]) au (pu (bn.trans hm) bK) ⟨rfl,rfl,trivial⟩ (by simp) ⟨?_,?_,trivial⟩
   ·exact h0.up ai aC (fE ai)
   ·exact h1.up ai aC (fE ai)
  exact hr
 | 3,hs=>
  obtain rfl:=Option.some.inj hs;obtain ⟨v2,g2,h2⟩:=hp 2 (by decide);have g2:aw.get 9=some v2:=g2;have h2:aT w' v2 2 (NB w.heap.size w') (eL w' (NB w.heap.size w')) [rD,rE]:=h2;obtain ⟨ax,cx,rfl⟩:=a7 h2;(try simp only [go_sem,simprocAttr,g2]);refine ⟨_,rfl,.refl _ _,?_⟩;exact ⟨_,rfl,_,_,rfl,ej _ _ _ _,h2⟩
 | 4,hs=>
  obtain rfl:=Option.some.inj hs;(try simp only [go_sem,simprocAttr]);refine ⟨_,rfl,.refl _ _,?_⟩;exact ⟨_,rfl,_,rfl,ej _ _ _ _,by decide⟩
 | 5,hs=>
  obtain rfl:=Option.some.inj hs;obtain ⟨v4,g4,h4⟩:=hp 4 (by decide);have g4:aw.get 11=some v4:=g4;obtain ⟨cs4,rfl,h4⟩:∃ cs:List Value,v4 = .agg cs.toArray∧eL w' (NB w.heap.size w') cs rF:=h4;obtain ⟨f4,e4⟩:∃ f,cs4=[.string rF.name,f]:=by obtain ⟨f,e,_⟩:=h4;exact ⟨f,e⟩
  subst e4;(try simp only [go_sem,simprocAttr,g4]);refine fA (cs:=([[.string rF.name,f4]]:List (List Value)).flatten.toArray) (ps:=partsOf 2 0 [[.string rF.name,f4]]) (by (try simp only [go_sem,simprocAttr,g4]);rfl) (jC (sz:=2) [[.string rF.name,f4]] [] _ ⟨rfl,trivial⟩ rfl) ?_;intro w2 au ai bK;(try simp only [go_sem,simprocAttr]);refine ⟨_,rfl,ai,?_⟩;have hr:aT w2 (.slice (some ⟨w'.heap.size,0,none⟩) 1 1) 2 (NB w.heap.size w2) (eL w2 (NB w.heap.size w2)) [rF]:=by
   refine mo (rows:=[[.string rF.name,f4]]) au (pu (bn.trans hm) bK) ⟨rfl,trivial⟩ (by simp) ⟨?_,trivial⟩
   ·exact h4.up ai aC (fE ai)
  exact hr
 | 6,hs=>
  obtain rfl:=Option.some.inj hs;obtain ⟨v5,g5,h5⟩:=hp 5 (by decide);have g5:aw.get 12=some v5:=g5;have h5:aT w' v5 2 (NB w.heap.size w') (eL w' (NB w.heap.size w')) [rF]:=h5;obtain ⟨ax,cx,rfl⟩:=a7 h5;(try simp only [go_sem,simprocAttr,g5]);refine ⟨_,rfl,.refl _ _,?_⟩;exact ⟨_,rfl,_,_,rfl,ej _ _ _ _,h5⟩
 | 7,hs=>
  obtain rfl:=Option.some.inj hs;(try simp only [go_sem,simprocAttr]);refine fA (cs:=([[.string ⟨#[97]⟩]]:List (List Value)).flatten.toArray) rfl rfl ?_;intro w2 au ai bK;(try simp only [go_sem,simprocAttr]);refine ⟨_,rfl,ai,?_⟩;exact mo (P:=gw) (rows:=[[.string ⟨#[97]⟩]]) (l:=[⟨#[97]⟩]) (sz:=1) au (pu (bn.trans hm) bK) ⟨rfl,trivial⟩ (by simp) ⟨⟨rfl,by decide⟩,trivial⟩
 | 8,hs=>
  obtain rfl:=Option.some.inj hs;(try simp only [go_sem,simprocAttr]);refine ⟨_,rfl,.refl _ _,?_⟩;exact ⟨_,rfl,_,rfl,ej _ _ _ _,by decide⟩
 | 9,hs=>
  obtain rfl:=Option.some.inj hs;have gt:aw.get 1=some (ptr b1):=(hk 1 (by decide)).trans rfl;have hb:=hm.at ar _root_.id;(try simp only [go_sem,simprocAttr,gt,az (n:=3) hb rfl]);exact ⟨_,rfl,.refl _ _,_,rfl,oC _ _ 2 ⟨#[97]⟩⟩
 | 10,hs=>
  obtain rfl:=Option.some.inj hs;have gt:aw.get 1=some (ptr b1):=(hk 1 (by decide)).trans rfl;have hb:=hm.at ar _root_.id;(try simp only [go_sem,simprocAttr,gt,az (n:=3) hb rfl]);exact ⟨_,rfl,.refl _ _,_,rfl,oC _ _ 2 ⟨#[97]⟩⟩
 | 11,hs=>
  obtain rfl:=Option.some.inj hs;obtain ⟨v10,g10,lf⟩:=hp 10 (by decide);have g10:aw.get 17=some v10:=g10;obtain ⟨adH,rfl,lf⟩:∃ cs:List Value,v10 = .agg cs.toArray∧aW w' (NB w.heap.size w') cs cC:=lf;obtain ⟨f10,sW⟩:∃ f,adH=[I cC.kind,.string cC.name,f]:=by obtain ⟨f,e,_⟩:=lf.cells;exact ⟨f,e⟩
  subst sW;(try simp only [go_sem,simprocAttr,g10]);refine fA (cs:=([[I cC.kind,.string cC.name,f10]]:List (List Value)).flatten.toArray) (ps:=partsOf 3 0 [[I cC.kind,.string cC.name,f10]]) (by (try simp only [go_sem,simprocAttr,g10]);rfl) (jC (sz:=3) [[I cC.kind,.string cC.name,f10]] [] _ ⟨rfl,trivial⟩ rfl) ?_;intro w2 au ai bK;(try simp only [go_sem,simprocAttr]);refine ⟨_,rfl,ai,?_⟩;have hr:aT w2 (.slice (some ⟨w'.heap.size,0,none⟩) 1 1) 3 (NB w.heap.size w2) (aW w2 (NB w.heap.size w2)) [cC]:=by
   refine mo (rows:=[[I cC.kind,.string cC.name,f10]]) au (pu (bn.trans hm) bK) ⟨rfl,trivial⟩ (by simp) ⟨?_,trivial⟩
   ·exact lf.up ai aC (fE ai)
  exact hr
 | 12,hs=>
  obtain rfl:=Option.some.inj hs;obtain ⟨v11,g11,lg⟩:=hp 11 (by decide);have g11:aw.get 18=some v11:=g11;have lg:aT w' v11 3 (NB w.heap.size w') (aW w' (NB w.heap.size w')) [cC]:=lg;obtain ⟨ax,cx,rfl⟩:=a7 lg;(try simp only [go_sem,simprocAttr,g11]);refine aI (vs:=[.string ⟨#[76,105,115,116]⟩,.slice ax 1 cx]) (by (try simp only [go_sem,simprocAttr,g11])) ?_;refine (JG (v:=.slice ax 1 cx) ⟨#[76,105,115,116]⟩ rfl rfl).mono ?_;rintro _ w2 ⟨rfl,ai⟩;(try simp only [go_sem,simprocAttr]);refine ⟨_,rfl,ai,_,rfl,?_⟩;obtain ⟨rows,q1,q2,q3⟩:=lg.up ai aC (fE ai) (fun _ _ h=>h.up ai aC (fE ai));exact .mk q1 q2 q3
 | 13,hs=>
  obtain rfl:=Option.some.inj hs;obtain ⟨v9,g9,h9⟩:=hp 9 (by decide);have g9:aw.get 16=some v9:=g9;obtain ⟨v12,g12,pV⟩:=hp 12 (by decide);have g12:aw.get 19=some v12:=g12;obtain ⟨cs9,rfl,h9⟩:∃ cs:List Value,v9 = .agg cs.toArray∧aW w' (NB w.heap.size w') cs cC:=h9;obtain ⟨f9,e9⟩:∃ f,cs9=[I cC.kind,.string cC.name,f]:=by obtain ⟨f,e,_⟩:=h9.cells;exact ⟨f,e⟩
  subst e9;obtain ⟨adI,rfl,pV⟩:∃ cs:List Value,v12 = .agg cs.toArray∧aW w' (NB w.heap.size w') cs j':=pV;obtain ⟨f12,e12⟩:∃ f,adI=[I j'.kind,.string j'.name,f]:=by obtain ⟨f,e,_⟩:=pV.cells;exact ⟨f,e⟩
  subst e12;(try simp only [go_sem,simprocAttr,g9,g12]);refine fA (cs:=([[I cC.kind,.string cC.name,f9],[I j'.kind,.string j'.name,f12]]:List (List Value)).flatten.toArray) (ps:=partsOf 3 0 [[I cC.kind,.string cC.name,f9],[I j'.kind,.string j'.name,f12]]) (by (try simp only [go_sem,simprocAttr,g9,g12]);rfl) (jC (sz:=3) [[I cC.kind,.string cC.name,f9],[I j'.kind,.string j'.name,f12]] [] _ ⟨rfl,rfl,trivial⟩ rfl) ?_;intro w2 au ai bK;(try simp only [go_sem,simprocAttr]);refine ⟨_,rfl,ai,?_⟩;have hr:aT w2 (.slice (some ⟨w'.heap.size,0,none⟩) 2 2) 3 (NB w.heap.size w2) (aW w2 (NB w.heap.size w2)) [cC,j']:=by
   refine mo (rows:=[[I cC.kind,.string cC.name,f9],[I j'.kind,.string j'.name,f12]]) au (pu (bn.trans hm) bK) ⟨rfl,rfl,trivial⟩ (by simp) ⟨?_,?_,trivial⟩
   ·exact h9.up ai aC (fE ai)
   ·exact pV.up ai aC (fE ai)
  exact hr
 | 14,hs=>
  obtain rfl:=Option.some.inj hs;obtain ⟨Rz,g13,Fa⟩:=hp 13 (by decide);have g13:aw.get 20=some Rz:=g13;have Fa:aT w' Rz 3 (NB w.heap.size w') (aW w' (NB w.heap.size w')) [cC,j']:=Fa;obtain ⟨ax,cx,rfl⟩:=a7 Fa;(try simp only [go_sem,simprocAttr,g13]);refine ⟨_,rfl,.refl _ _,?_⟩;exact ⟨_,rfl,_,rfl,Fa,by decide⟩
 | 15,hs=>
  obtain rfl:=Option.some.inj hs;obtain ⟨v8,g8,h8⟩:=hp 8 (by decide);have g8:aw.get 15=some v8:=g8;obtain ⟨RA,g14,Fb⟩:=hp 14 (by decide);have g14:aw.get 21=some RA:=g14;obtain ⟨cs8,rfl,h8⟩:∃ cs:List Value,v8 = .agg cs.toArray∧eL w' (NB w.heap.size w') cs rG:=h8;obtain ⟨f8,e8⟩:∃ f,cs8=[.string rG.name,f]:=by obtain ⟨f,e,_⟩:=h8;exact ⟨f,e⟩
  subst e8;obtain ⟨adJ,rfl,Fb⟩:∃ cs:List Value,RA = .agg cs.toArray∧eL w' (NB w.heap.size w') cs rH:=Fb;obtain ⟨f14,EX⟩:∃ f,adJ=[.string rH.name,f]:=by obtain ⟨f,e,_⟩:=Fb;exact ⟨f,e⟩
  subst EX;(try simp only [go_sem,simprocAttr,g8,g14]);refine fA (cs:=([[.string rG.name,f8],[.string rH.name,f14]]:List (List Value)).flatten.toArray) (ps:=partsOf 2 0 [[.string rG.name,f8],[.string rH.name,f14]]) (by (try simp only [go_sem,simprocAttr,g8,g14]);rfl) (jC (sz:=2) [[.string rG.name,f8],[.string rH.name,f14]] [] _ ⟨rfl,rfl,trivial⟩ rfl) ?_;intro w2 au ai bK;(try simp only [go_sem,simprocAttr]);refine ⟨_,rfl,ai,?_⟩;have hr:aT w2 (.slice (some ⟨w'.heap.size,0,none⟩) 2 2) 2 (NB w.heap.size w2) (eL w2 (NB w.heap.size w2)) [rG,rH]:=by
   refine mo (rows:=[[.string rG.name,f8],[.string rH.name,f14]]) au (pu (bn.trans hm) bK) ⟨rfl,rfl,trivial⟩ (by simp) ⟨?_,?_,trivial⟩
   ·exact h8.up ai aC (fE ai)
   ·exact Fb.up ai aC (fE ai)
  exact hr
 | 16,hs=>
  obtain rfl:=Option.some.inj hs;obtain ⟨v7,g7,h7⟩:=hp 7 (by decide);have g7:aw.get 14=some v7:=g7;obtain ⟨RB,g15,wk⟩:=hp 15 (by decide);have g15:aw.get 22=some RB:=g15;have wk:aT w' RB 2 (NB w.heap.size w') (eL w' (NB w.heap.size w')) [rG,rH]:=wk;obtain ⟨ax,cx,rfl⟩:=a7 wk;have h7:aT w' v7 1 (NB w.heap.size w') gw [⟨#[97]⟩]:=h7;obtain ⟨ay,cy,rfl⟩:=a7 h7;(try simp only [go_sem,simprocAttr,g7,g15]);refine ⟨_,rfl,.refl _ _,?_⟩;exact ⟨_,rfl,_,_,rfl,h7,wk⟩
 | 17,hs=>
  obtain rfl:=Option.some.inj hs;(try simp only [go_sem,simprocAttr]);refine fA (cs:=([[.string ⟨#[97]⟩],[.string ⟨#[98]⟩]]:List (List Value)).flatten.toArray) rfl rfl ?_;intro w2 au ai bK;(try simp only [go_sem,simprocAttr]);refine ⟨_,rfl,ai,?_⟩;exact mo (P:=gw) (rows:=[[.string ⟨#[97]⟩],[.string ⟨#[98]⟩]]) (l:=[⟨#[97]⟩,⟨#[98]⟩]) (sz:=1) au (pu (bn.trans hm) bK) ⟨rfl,rfl,trivial⟩ (by simp) ⟨⟨rfl,by decide⟩,⟨rfl,by decide⟩,trivial⟩
 | 18,hs=>
  obtain rfl:=Option.some.inj hs;have gt:aw.get 1=some (ptr b1):=(hk 1 (by decide)).trans rfl;have hb:=hm.at ar _root_.id;(try simp only [go_sem,simprocAttr,gt,az (n:=3) hb rfl]);exact ⟨_,rfl,.refl _ _,_,rfl,oC _ _ 2 ⟨#[97]⟩⟩
 | 19,hs=>
  obtain rfl:=Option.some.inj hs;have gt:aw.get 2=some (ptr b2):=(hk 2 (by decide)).trans rfl;have hb:=hm.at au _root_.id;(try simp only [go_sem,simprocAttr,gt,az (n:=3) hb rfl]);exact ⟨_,rfl,.refl _ _,_,rfl,oC _ _ 2 ⟨#[98]⟩⟩
 | 20,hs=>
  obtain rfl:=Option.some.inj hs;obtain ⟨RC,g18,cI⟩:=hp 18 (by decide);have g18:aw.get 25=some RC:=g18;obtain ⟨RD,g19,Ao⟩:=hp 19 (by decide);have g19:aw.get 26=some RD:=g19;obtain ⟨adK,rfl,cI⟩:∃ cs:List Value,RC = .agg cs.toArray∧aW w' (NB w.heap.size w') cs cC:=cI;obtain ⟨f18,e18⟩:∃ f,adK=[I cC.kind,.string cC.name,f]:=by obtain ⟨f,e,_⟩:=cI.cells;exact ⟨f,e⟩
  subst e18;obtain ⟨adL,rfl,Ao⟩:∃ cs:List Value,RD = .agg cs.toArray∧aW w' (NB w.heap.size w') cs fF:=Ao;obtain ⟨f19,e19⟩:∃ f,adL=[I fF.kind,.string fF.name,f]:=by obtain ⟨f,e,_⟩:=Ao.cells;exact ⟨f,e⟩
  subst e19;(try simp only [go_sem,simprocAttr,g18,g19]);refine fA (cs:=([[I cC.kind,.string cC.name,f18],[I fF.kind,.string fF.name,f19]]:List (List Value)).flatten.toArray) (ps:=partsOf 3 0 [[I cC.kind,.string cC.name,f18],[I fF.kind,.string fF.name,f19]]) (by (try simp only [go_sem,simprocAttr,g18,g19]);rfl) (jC (sz:=3) [[I cC.kind,.string cC.name,f18],[I fF.kind,.string fF.name,f19]] [] _ ⟨rfl,rfl,trivial⟩ rfl) ?_;intro w2 au ai bK;(try simp only [go_sem,simprocAttr]);refine ⟨_,rfl,ai,?_⟩;have hr:aT w2 (.slice (some ⟨w'.heap.size,0,none⟩) 2 2) 3 (NB w.heap.size w2) (aW w2 (NB w.heap.size w2)) [cC,fF]:=by
   refine mo (rows:=[[I cC.kind,.string cC.name,f18],[I fF.kind,.string fF.name,f19]]) au (pu (bn.trans hm) bK) ⟨rfl,rfl,trivial⟩ (by simp) ⟨?_,?_,trivial⟩
   ·exact cI.up ai aC (fE ai)
   ·exact Ao.up ai aC (fE ai)
  exact hr
 | 21,hs=>
  obtain rfl:=Option.some.inj hs;obtain ⟨v20,g20,wq⟩:=hp 20 (by decide);have g20:aw.get 27=some v20:=g20;have wq:aT w' v20 3 (NB w.heap.size w') (aW w' (NB w.heap.size w')) [cC,fF]:=wq;obtain ⟨ax,cx,rfl⟩:=a7 wq;(try simp only [go_sem,simprocAttr,g20]);refine ⟨_,rfl,.refl _ _,?_⟩;exact ⟨_,rfl,_,rfl,wq,by decide⟩
 | 22,hs=>
  obtain rfl:=Option.some.inj hs;obtain ⟨v21,g21,Fc⟩:=hp 21 (by decide);have g21:aw.get 28=some v21:=g21;obtain ⟨adM,rfl,Fc⟩:∃ cs:List Value,v21 = .agg cs.toArray∧eL w' (NB w.heap.size w') cs rI:=Fc;obtain ⟨f21,e21⟩:∃ f,adM=[.string rI.name,f]:=by obtain ⟨f,e,_⟩:=Fc;exact ⟨f,e⟩
  subst e21;(try simp only [go_sem,simprocAttr,g21]);refine fA (cs:=([[.string rI.name,f21]]:List (List Value)).flatten.toArray) (ps:=partsOf 2 0 [[.string rI.name,f21]]) (by (try simp only [go_sem,simprocAttr,g21]);rfl) (jC (sz:=2) [[.string rI.name,f21]] [] _ ⟨rfl,trivial⟩ rfl) ?_;intro w2 au ai bK;(try simp only [go_sem,simprocAttr]);refine ⟨_,rfl,ai,?_⟩;have hr:aT w2 (.slice (some ⟨w'.heap.size,0,none⟩) 1 1) 2 (NB w.heap.size w2) (eL w2 (NB w.heap.size w2)) [rI]:=by
   refine mo (rows:=[[.string rI.name,f21]]) au (pu (bn.trans hm) bK) ⟨rfl,trivial⟩ (by simp) ⟨?_,trivial⟩
   ·exact Fc.up ai aC (fE ai)
  exact hr
 | 23,hs=>
  obtain rfl:=Option.some.inj hs;obtain ⟨RE,g17,Fe⟩:=hp 17 (by decide);have g17:aw.get 24=some RE:=g17;obtain ⟨RF,g22,Ff⟩:=hp 22 (by decide);have g22:aw.get 29=some RF:=g22;have Ff:aT w' RF 2 (NB w.heap.size w') (eL w' (NB w.heap.size w')) [rI]:=Ff;obtain ⟨ax,cx,rfl⟩:=a7 Ff;have Fe:aT w' RE 1 (NB w.heap.size w') gw [⟨#[97]⟩,⟨#[98]⟩]:=Fe;obtain ⟨ay,cy,rfl⟩:=a7 Fe;(try simp only [go_sem,simprocAttr,g17,g22]);refine ⟨_,rfl,.refl _ _,?_⟩;exact ⟨_,rfl,_,_,rfl,Fe,Ff⟩
 | 24,hs=>
  obtain rfl:=Option.some.inj hs;(try simp only [go_sem,simprocAttr]);refine fA (cs:=([[.string ⟨#[97]⟩],[.string ⟨#[98]⟩],[.string ⟨#[99]⟩]]:List (List Value)).flatten.toArray) rfl rfl ?_;intro w2 au ai bK;(try simp only [go_sem,simprocAttr]);refine ⟨_,rfl,ai,?_⟩;exact mo (P:=gw) (rows:=[[.string ⟨#[97]⟩],[.string ⟨#[98]⟩],[.string ⟨#[99]⟩]]) (l:=[⟨#[97]⟩,⟨#[98]⟩,⟨#[99]⟩]) (sz:=1) au (pu (bn.trans hm) bK) ⟨rfl,rfl,rfl,trivial⟩ (by simp) ⟨⟨rfl,by decide⟩,⟨rfl,by decide⟩,⟨rfl,by decide⟩,trivial⟩
 | 25,hs=>
  obtain rfl:=Option.some.inj hs;have gt:aw.get 1=some (ptr b1):=(hk 1 (by decide)).trans rfl;have hb:=hm.at ar _root_.id;(try simp only [go_sem,simprocAttr,gt,az (n:=3) hb rfl]);exact ⟨_,rfl,.refl _ _,_,rfl,oC _ _ 2 ⟨#[97]⟩⟩
 | 26,hs=>
  obtain rfl:=Option.some.inj hs;have gt:aw.get 2=some (ptr b2):=(hk 2 (by decide)).trans rfl;have hb:=hm.at au _root_.id;(try simp only [go_sem,simprocAttr,gt,az (n:=3) hb rfl]);exact ⟨_,rfl,.refl _ _,_,rfl,oC _ _ 2 ⟨#[98]⟩⟩
 | 27,hs=>
  obtain rfl:=Option.some.inj hs;have gt:aw.get 3=some (ptr b3):=(hk 3 (by decide)).trans rfl;have hb:=hm.at aM _root_.id;(try simp only [go_sem,simprocAttr,gt,az (n:=3) hb rfl]);exact ⟨_,rfl,.refl _ _,_,rfl,oC _ _ 2 ⟨#[99]⟩⟩
 | 28,hs=>
  obtain rfl:=Option.some.inj hs;obtain ⟨RG,qh,Fg⟩:=hp 25 (by decide);have qh:aw.get 32=some RG:=qh;obtain ⟨RH,Ap,Fh⟩:=hp 26 (by decide);have Ap:aw.get 33=some RH:=Ap;obtain ⟨RJ,wu,Fi⟩:=hp 27 (by decide);have wu:aw.get 34=some RJ:=wu;obtain ⟨adN,rfl,Fg⟩:∃ cs:List Value,RG = .agg cs.toArray∧aW w' (NB w.heap.size w') cs cC:=Fg;obtain ⟨f25,e25⟩:∃ f,adN=[I cC.kind,.string cC.name,f]:=by obtain ⟨f,e,_⟩:=Fg.cells;exact ⟨f,e⟩
  subst e25;obtain ⟨adO,rfl,Fh⟩:∃ cs:List Value,RH = .agg cs.toArray∧aW w' (NB w.heap.size w') cs fF:=Fh;obtain ⟨f26,e26⟩:∃ f,adO=[I fF.kind,.string fF.name,f]:=by obtain ⟨f,e,_⟩:=Fh.cells;exact ⟨f,e⟩
  subst e26;obtain ⟨adP,rfl,Fi⟩:∃ cs:List Value,RJ = .agg cs.toArray∧aW w' (NB w.heap.size w') cs mZ:=Fi;obtain ⟨f27,e27⟩:∃ f,adP=[I mZ.kind,.string mZ.name,f]:=by obtain ⟨f,e,_⟩:=Fi.cells;exact ⟨f,e⟩
  subst e27;(try simp only [go_sem,simprocAttr,qh,Ap,wu]);refine fA (cs:=([[I cC.kind,.string cC.name,f25],[I fF.kind,.string fF.name,f26],[I mZ.kind,.string mZ.name,f27]]:List (List Value)).flatten.toArray) (ps:=partsOf 3 0 [[I cC.kind,.string cC.name,f25],[I fF.kind,.string fF.name,f26],[I mZ.kind,.string mZ.name,f27]]) (by (try simp only [go_sem,simprocAttr,qh,Ap,wu]);rfl) (jC (sz:=3) [[I cC.kind,.string cC.name,f25],[I fF.kind,.string fF.name,f26],[I mZ.kind,.string mZ.name,f27]] [] _ ⟨rfl,rfl,rfl,trivial⟩ rfl) ?_;intro w2 au ai bK;(try simp only [go_sem,simprocAttr]);refine ⟨_,rfl,ai,?_⟩;have hr:aT w2 (.slice (some ⟨w'.heap.size,0,none⟩) 3 3) 3 (NB w.heap.size w2) (aW w2 (NB w.heap.size w2)) [cC,fF,mZ]:=by
   refine mo (rows:=[[I cC.kind,.string cC.name,f25],[I fF.kind,.string fF.name,f26],[I mZ.kind,.string mZ.name,f27]]) au (pu (bn.trans hm) bK) ⟨rfl,rfl,rfl,trivial⟩ (by simp) ⟨?_,?_,?_,trivial⟩
   ·exact Fg.up ai aC (fE ai)
   ·exact Fh.up ai aC (fE ai)
   ·exact Fi.up ai aC (fE ai)
  exact hr
 | 29,hs=>
  obtain rfl:=Option.some.inj hs;obtain ⟨v28,KT,Fj⟩:=hp 28 (by decide);have KT:aw.get 35=some v28:=KT;have Fj:aT w' v28 3 (NB w.heap.size w') (aW w' (NB w.heap.size w')) [cC,fF,mZ]:=Fj;obtain ⟨ax,cx,rfl⟩:=a7 Fj;(try simp only [go_sem,simprocAttr,KT]);refine ⟨_,rfl,.refl _ _,?_⟩;exact ⟨_,rfl,_,rfl,Fj,by decide⟩
 | 30,hs=>
  obtain rfl:=Option.some.inj hs;obtain ⟨RL,Fk,Fl⟩:=hp 29 (by decide);have Fk:aw.get 36=some RL:=Fk;obtain ⟨adQ,rfl,Fl⟩:∃ cs:List Value,RL = .agg cs.toArray∧eL w' (NB w.heap.size w') cs rJ:=Fl;obtain ⟨f29,e29⟩:∃ f,adQ=[.string rJ.name,f]:=by obtain ⟨f,e,_⟩:=Fl;exact ⟨f,e⟩
  subst e29;(try simp only [go_sem,simprocAttr,Fk]);refine fA (cs:=([[.string rJ.name,f29]]:List (List Value)).flatten.toArray) (ps:=partsOf 2 0 [[.string rJ.name,f29]]) (by (try simp only [go_sem,simprocAttr,Fk]);rfl) (jC (sz:=2) [[.string rJ.name,f29]] [] _ ⟨rfl,trivial⟩ rfl) ?_;intro w2 au ai bK;(try simp only [go_sem,simprocAttr]);refine ⟨_,rfl,ai,?_⟩;have hr:aT w2 (.slice (some ⟨w'.heap.size,0,none⟩) 1 1) 2 (NB w.heap.size w2) (eL w2 (NB w.heap.size w2)) [rJ]:=by
   refine mo (rows:=[[.string rJ.name,f29]]) au (pu (bn.trans hm) bK) ⟨rfl,trivial⟩ (by simp) ⟨?_,trivial⟩
   ·exact Fl.up ai aC (fE ai)
  exact hr
 | 31,hs=>
  obtain rfl:=Option.some.inj hs;obtain ⟨v24,g24,Fo⟩:=hp 24 (by decide);have g24:aw.get 31=some v24:=g24;obtain ⟨v30,KU,Fp⟩:=hp 30 (by decide);have KU:aw.get 37=some v30:=KU;have Fp:aT w' v30 2 (NB w.heap.size w') (eL w' (NB w.heap.size w')) [rJ]:=Fp;obtain ⟨ax,cx,rfl⟩:=a7 Fp;have Fo:aT w' v24 1 (NB w.heap.size w') gw [⟨#[97]⟩,⟨#[98]⟩,⟨#[99]⟩]:=Fo;obtain ⟨ay,cy,rfl⟩:=a7 Fo;(try simp only [go_sem,simprocAttr,g24,KU]);refine ⟨_,rfl,.refl _ _,?_⟩;exact ⟨_,rfl,_,_,rfl,Fo,Fp⟩
 | 32,hs=>
  obtain rfl:=Option.some.inj hs;obtain ⟨v3,g3,h3⟩:=hp 3 (by decide);have g3:aw.get 10=some v3:=g3;obtain ⟨v6,g6,h6⟩:=hp 6 (by decide);have g6:aw.get 13=some v6:=g6;obtain ⟨RM,g16,uz⟩:=hp 16 (by decide);have g16:aw.get 23=some RM:=g16;obtain ⟨RN,g23,Fq⟩:=hp 23 (by decide);have g23:aw.get 30=some RN:=g23;obtain ⟨v31,Fs,Ft⟩:=hp 31 (by decide);have Fs:aw.get 38=some v31:=Fs;obtain ⟨cs3,rfl,h3⟩:∃ cs:List Value,v3 = .agg cs.toArray∧gC w' (NB w.heap.size w') cs jD:=h3;obtain ⟨f3,k3,e3⟩:∃ f k,cs3=[.string jD.name,f,k]:=by obtain ⟨f,k,e,_⟩:=h3;exact ⟨f,k,e⟩
  subst e3;obtain ⟨cs6,rfl,h6⟩:∃ cs:List Value,v6 = .agg cs.toArray∧gC w' (NB w.heap.size w') cs qe:=h6;obtain ⟨f6,k6,e6⟩:∃ f k,cs6=[.string qe.name,f,k]:=by obtain ⟨f,k,e,_⟩:=h6;exact ⟨f,k,e⟩
  subst e6;obtain ⟨adR,rfl,uz⟩:∃ cs:List Value,RM = .agg cs.toArray∧gC w' (NB w.heap.size w') cs dList:=uz;obtain ⟨f16,Fu,e16⟩:∃ f k,adR=[.string dList.name,f,k]:=by obtain ⟨f,k,e,_⟩:=uz;exact ⟨f,k,e⟩
  subst e16;obtain ⟨adS,rfl,Fq⟩:∃ cs:List Value,RN = .agg cs.toArray∧gC w' (NB w.heap.size w') cs qf:=Fq;obtain ⟨f23,Aq,e23⟩:∃ f k,adS=[.string qf.name,f,k]:=by obtain ⟨f,k,e,_⟩:=Fq;exact ⟨f,k,e⟩
  subst e23;obtain ⟨adT,rfl,Ft⟩:∃ cs:List Value,v31 = .agg cs.toArray∧gC w' (NB w.heap.size w') cs qg:=Ft;obtain ⟨f31,Fv,e31⟩:∃ f k,adT=[.string qg.name,f,k]:=by obtain ⟨f,k,e,_⟩:=Ft;exact ⟨f,k,e⟩
  subst e31;(try simp only [go_sem,simprocAttr,g3,g6,g16,g23,Fs]);refine fA (cs:=([[.string jD.name,f3,k3],[.string qe.name,f6,k6],[.string dList.name,f16,Fu],[.string qf.name,f23,Aq],[.string qg.name,f31,Fv]]:List (List Value)).flatten.toArray) (ps:=partsOf 3 0 [[.string jD.name,f3,k3],[.string qe.name,f6,k6],[.string dList.name,f16,Fu],[.string qf.name,f23,Aq],[.string qg.name,f31,Fv]]) (by (try simp only [go_sem,simprocAttr,g3,g6,g16,g23,Fs]);rfl) (jC (sz:=3) [[.string jD.name,f3,k3],[.string qe.name,f6,k6],[.string dList.name,f16,Fu],[.string qf.name,f23,Aq],[.string qg.name,f31,Fv]] [] _ ⟨rfl,rfl,rfl,rfl,rfl,trivial⟩ rfl) ?_;intro w2 au ai bK;(try simp only [go_sem,simprocAttr]);refine ⟨_,rfl,ai,?_⟩;have hr:aT w2 (.slice (some ⟨w'.heap.size,0,none⟩) 5 5) 3 (NB w.heap.size w2) (gC w2 (NB w.heap.size w2)) [jD,qe,dList,qf,qg]:=by
   refine mo (rows:=[[.string jD.name,f3,k3],[.string qe.name,f6,k6],[.string dList.name,f16,Fu],[.string qf.name,f23,Aq],[.string qg.name,f31,Fv]]) au (pu (bn.trans hm) bK) ⟨rfl,rfl,rfl,rfl,rfl,trivial⟩ (by simp) ⟨?_,?_,?_,?_,?_,trivial⟩
   ·exact h3.up ai aC (fE ai)
   ·exact h6.up ai aC (fE ai)
   ·exact uz.up ai aC (fE ai)
   ·exact Fq.up ai aC (fE ai)
   ·exact Ft.up ai aC (fE ai)
  exact hr
 | 33,hs=>
  obtain rfl:=Option.some.inj hs;obtain ⟨v32,KV,h32⟩:=hp 32 (by decide);have KV:aw.get 39=some v32:=KV;(try simp only [go_sem,simprocAttr,KV]);exact ⟨_,rfl,.refl _ _,h32⟩
 | i+34,hs=>simp [KR] at hs
 rintro aw w' ai cN hk;obtain ⟨v,g,hv⟩:=cN 33 (by rw [adF];decide);have g:aw.get 0=some v:=g;have hv:aT w' v 3 (NB w.heap.size w') (gC w' (NB w.heap.size w')) jh:=hv;(try simp only [go_sem,simprocAttr,g,aE,RV.ev,aF]);exact ⟨hv,bn.trans ai⟩
end
section
open Go Go.W
theorem iJ {α:Type} {w:World} {v:Value} {sz:Nat} {B:Nat→Prop} {P:List Value→α→Prop} {l:List α} (h:aT w v sz B P l) {i:Nat} (hi:i < l.length) :
   ∃ ad c r,v = .slice (some ad) l.length c∧P r l[i]∧r.length=sz∧gj w B (ad.add (i*sz)) r:=by
 obtain ⟨rows,⟨⟨a,c,e,hb,hr⟩,_⟩,h2,h3⟩:=h;obtain ⟨ad,rfl,hl,hc⟩:=hr i (by omega);exact ⟨ad,c,rows[i]'(by omega),by rw [e,h2],h3 i _ _ (List.getElem?_eq_getElem (by omega)) (List.getElem?_eq_getElem hi),hl,by rw [tO];exact hb (by omega) ad rfl,hc⟩
def CC:Env:=⟨[],[],[],[]⟩
def wv:List Dt→Env→Env
 | [],E=>E
 | d::l,E=>wv l (qc E d)
theorem adU {l:List Dt} {i:Nat} (hi:i < l.length) (E:Env):wv (l.drop i) E=wv (l.drop (i+1)) (qc E l[i]):=by rw [List.drop_eq_getElem_cons hi,wv]
def il:Env:=wv jh CC
theorem adV {w:World}:a8 Tryz.prog 41 [] w fun r w'=>(∃ (c md mc mf:Nat) (S:Nat→Prop),r=ptr c∧fu w' S c md mc mf il∧∀ b,S b→w.heap.size≤b)∧Mod (fun _=>False) w w':=by
 refine Y7.calls rfl ?_;unfold Ib;(try simp only [go_sem,simprocAttr]);refine pY (α:=Dt) (fun v _=>False) ?_;intro w1 ja aj bC;(try simp only [go_sem,simprocAttr]);refine pY (α:=Dt×Nat) (fun v _=>False) ?_;intro w2 nD ai bK;(try simp only [go_sem,simprocAttr]);refine pY (α:=Df) (fun v _=>False) ?_;intro w3 KW aq eV;have emp:∀ {α:Type} {w:World} {b:Nat} {R R':Value→α→Prop},cE w b R []→cE w b R' []:=fun h=>by
  obtain ⟨lv,q1,q2⟩:=h;cases q2;exact ⟨[],q1,.nil⟩
 (try simp only [go_sem,simprocAttr]);refine bD rfl ?_;intro w4 ba aA eG;have eM:=aj.trans (ai.trans (aq.trans aA));have z4:=eM.size;(try simp only [go_sem,simprocAttr]);refine aI (by rfl) ?_;refine adG.mono ?_;rintro r w5 ⟨hg,aD⟩;obtain ⟨ag,cg,rfl⟩:=a7 hg;have z5:=aD.size;have bG:=aD.at ba _root_.id
 let S:Nat→Prop:=fun b=>b=w3.heap.size∨b=w.heap.size∨b=w1.heap.size∨b=w2.heap.size
 have JL:∀ b,S b→b < w4.heap.size:=fun b hb=>by
  rcases hb with h | h | h | h<;>omega
 have bh:fu w5 S w3.heap.size w.heap.size w1.heap.size w2.heap.size CC:=by
  refine ⟨⟨.map none,.map none,.map none,rfl,rfl,rfl,bG⟩,?_,fun b hb=>?_,fun b hb=>Nat.lt_of_lt_of_le (JL b hb) z5,?_,?_,?_⟩
  ·simp only [List.nodup_cons,List.mem_cons,List.not_mem_nil,or_false,not_or,not_false_eq_true,List.nodup_nil,and_true];omega
  ·simpa only [List.mem_cons,List.not_mem_nil,or_false] using hb
  ·exact emp (cE.mod ja (ai.trans (aq.trans (aA.trans aD))) _root_.id (fun _ _ x=>x))
  ·exact emp (cE.mod nD (aq.trans (aA.trans aD)) _root_.id (fun _ _ x=>x))
  ·exact emp (cE.mod KW (aA.trans aD) _root_.id (fun _ _ x=>x))
 have hgS:aT w5 (.slice ag jh.length cg) 3 (Out S w5) (gC w5 (Out S w5)) jh:=by
  have eJ:∀ b,NB w4.heap.size w5 b→Out S w5 b:=fun b hb=>⟨hb.2,fun hh=>by have:=JL b hh;have:=hb.1;omega⟩
  exact hg.up (.refl (fun _=>False) w5) aC eJ (fun _ _ h=>h.up (.refl (fun _=>False) w5) aC eJ)
 let T:Nat→Prop:=fun b=>b=w.heap.size∨b=w1.heap.size
 have TS:∀ b,T b→S b:=fun b hb=>by rcases hb with h | h;exact .inr (.inl h);exact .inr (.inr (.inl h))
 (try simp only [go_sem,simprocAttr]);refine fe jh.length (fun k ρ w'=>k≤jh.length∧Mod T w5 w'∧(∃ E,fu w' S w3.heap.size w.heap.size w1.heap.size w2.heap.size E∧wv (jh.drop k) E=il)∧ρ=[(1,ptr w3.heap.size),(2,.slice ag jh.length cg),(11,I jh.length),(12,I k)])
  ⟨by omega,.refl _ _,⟨CC,bh,rfl⟩,rfl⟩ (by decide) ?_ ?_ (by decide) ?_
 ·rintro k _ w6 ⟨hk,_,_,rfl⟩;exact ⟨rfl,rfl,hk⟩
 ·rintro k _ w6 ⟨_,aJ,⟨E,yp,pr⟩,rfl⟩ hk;rw [adU hk] at pr;have Kl:=hgS.up (aJ.aU TS) aK (aX (aJ.aU TS)) (fun _ _ h=>h.up (aJ.aU TS) aK (aX (aJ.aU TS)));obtain ⟨ad,c2,rr,e,hd,bT,bH⟩:=iJ Kl hk;obtain ⟨rfl,-,-⟩:=bY e;have bk:(0:Int)≤k∧(k:Int) < jh.length:=by omega
  (try simp only [go_sem,simprocAttr,bq,br,bk]);refine aI (by rfl) ?_;refine (Rt yp ⟨rr,bH,hd⟩).mono ?_;rintro _ w7 ⟨Kv,aN⟩;(try simp only [go_sem,simprocAttr]);exact ⟨hk,aJ.trans aN,_,Kv,pr⟩
 ·rintro _ w6 ⟨_,aJ,⟨E,yp,pr⟩,rfl⟩;rw [List.drop_length,wv] at pr;subst pr;(try simp only [go_sem,simprocAttr,aE,RV.ev,aF]);refine ⟨⟨_,_,_,_,S,rfl,yp,fun b hb=>?_⟩,(eM.trans aD).step aJ (fun b hb hl=>by rcases hb with h | h<;>omega)⟩;rcases hb with h | h | h | h<;>omega
end
section
open Go Go.W
def pw (E:Env):List Cn→bM→Bool
 | [],_=>true
 | k::ks,m=>if ((aG E.cons k.name).isSome||has m k.name||decide ((k.fields.length:Int) > 8))=true then false else pw E ks (bO m k.name 1)
def uG:List ByteArray→bM→Bool
 | [],_=>true
 | s::l,m=>if has m s=true then false else uG l (bO m s 1)
def nN (E:Env) (d:Dt):Int:=
 if (!zP d.name||d.params.any (fun s=>!qV s)||d.cons.any (fun k=>!jU k.name))=true then 82
 else if (aG E.aH d.name).isSome=true then 81
 else if pw E d.cons []=false then 81
 else if uG d.params []=false then 81
 else if (decide ((d.params.length:Int) > 6)||(d.cons.length:Int) == 0||decide ((d.cons.length:Int) > 24))=true then 81 else 0
theorem adW {E:Env} {l:List Cn} {i:Nat} (hi:i < l.length) (m:bM):pw E (l.drop i) m=if ((aG E.cons l[i].name).isSome||has m l[i].name||decide ((l[i].fields.length:Int) > 8))=true then false else pw E (l.drop (i+1)) (bO m l[i].name 1):=by rw [List.drop_eq_getElem_cons hi,pw]
theorem adX {l:List ByteArray} {i:Nat} (hi:i < l.length) (m:bM):uG (l.drop i) m=if has m l[i]=true then false else uG (l.drop (i+1)) (bO m l[i] 1):=by rw [List.drop_eq_getElem_cons hi,uG]
def mq:List Dt→Env→Except Int Env
 | [],E=>.ok E
 | d::l,E=>if (nN E d != 0)=true then .error (nN E d) else mq l (qc E d)
def Ar (E:Env) (d:Dt):Bool:=d.cons.all fun k=>k.fields.all (fB (eA E d.params))
def ww (E:Env) (l:List Dt):Bool:=l.all (Ar E)
def lB (E:Env) (l:List Dt):Except Int Env:=match mq l E with
 | .error e=>.error e
 | .ok E'=>if ww E' l=true then .ok E' else .error 81
theorem adY {l:List Dt} {i:Nat} (hi:i < l.length) (E:Env):mq (l.drop i) E=if (nN E l[i] != 0)=true then .error (nN E l[i]) else mq (l.drop (i+1)) (qc E l[i]):=by rw [List.drop_eq_getElem_cons hi,mq]
def s9:List ByteArray→bM→Bool
 | [],_=>true
 | s::l,m=>if (!qV s||has m s)=true then false else s9 l (bO m s 1)
def kK:List ByteArray→bM→bM
 | [],m=>m
 | s::l,m=>kK l (bO m s 1)
theorem adZ {l:List ByteArray} {i:Nat} (hi:i < l.length) (m:bM):s9 (l.drop i) m=if (!qV l[i]||has m l[i])=true then false else s9 (l.drop (i+1)) (bO m l[i] 1):=by rw [List.drop_eq_getElem_cons hi,s9]
theorem ad0 {l:List ByteArray} {i:Nat} (hi:i < l.length) (m:bM):kK (l.drop i) m=kK (l.drop (i+1)) (bO m l[i] 1):=by rw [List.drop_eq_getElem_cons hi,kK]
def nO (E:Env) (d:Df):Except Int Env:=
 if ((aG E.ak d.name).isSome || !jU d.name)=true then .error 82
 else if s9 d.params []=false then .error 82
 else if fB { E with params:=kK d.params []} d.type=false then .error 83
 else .ok { E with ak:=bO E.ak d.name d,params:=kK d.params []}
def fG:List Df→Env→Except Int Env
 | [],E=>.ok E
 | d::l,E=>match nO E d with
  | .error e=>.error e
  | .ok E'=>fG l E'
theorem ad6 {l:List Df} {i:Nat} (hi:i < l.length) (E:Env):fG (l.drop i) E=match nO E l[i] with
   | .error e=>.error e
   | .ok E'=>fG (l.drop (i+1)) E':=by rw [List.drop_eq_getElem_cons hi,fG]
noncomputable def oR (E:Env) (d:Df):Int:=match cj (eA E d.params) d.body ([],[]) with
 | .error e=>e
 | .ok y=>if gg y.1 d.type=true then 0 else 83
noncomputable def ke (E:Env):List Df→Int
 | []=>0
 | d::l=>if (oR E d != 0)=true then oR E d else ke E l
theorem ad7 {E:Env} {l:List Df} {i:Nat} (hi:i < l.length):ke E (l.drop i)=if (oR E l[i] != 0)=true then oR E l[i] else ke E (l.drop (i+1)):=by rw [List.drop_eq_getElem_cons hi,ke]
end
section
open Go Go.W
theorem ad8:Fn 80:=⟨_,rfl,rfl,rfl⟩
theorem ad9:Fn 82:=⟨_,rfl,rfl,rfl⟩
theorem aea (s:ByteArray) {w:World}:a8 Tryz.prog 80 [.string s] w fun r w'=>r = .bool (!qV s)∧Mod (fun _=>False) w w':=by
 refine Z3.calls rfl ?_;unfold IQ;(try simp only [go_sem,simprocAttr]);refine aI (by rfl) ?_;refine (PR s).mono ?_;rintro _ w1 ⟨rfl,hm⟩;(try simp only [go_sem,simprocAttr,aE,RV.ev,aF]);exact hm
theorem aeb {k:Cn} {B:Nat→Prop} {cs:List Value} {w:World} (h:eL w B cs k):a8 Tryz.prog 82 [.agg cs.toArray] w fun r w'=>r = .bool (!jU k.name)∧Mod (fun _=>False) w w':=by
 obtain ⟨vf,rfl,hf,hn⟩:=h;refine Z5.calls rfl ?_;unfold IT;(try simp only [go_sem,simprocAttr]);refine bD rfl ?_;intro w1 ar aj bC;(try simp only [go_sem,simprocAttr,cell_of ar]);refine aI (by rfl) ?_;refine (Ee k.name hn).mono ?_;rintro _ _ ⟨rfl,rfl⟩;(try simp only [go_sem,simprocAttr,aE,RV.ev,aF]);exact aj
theorem aec {E:Env} {d:Dt} {a:Addr} {w:World} {S:Nat→Prop} {c md mc mf:Nat} (hc:fu w S c md mc mf E) (hp:qZ w (Out S w) a d) :
   a8 Tryz.prog 59 [ptr c,.pointer (some a)] w fun r w'=>r=I (nN E d)∧Mod (fun _=>False) w w':=by
 obtain ⟨cs,bH,kD,vc,rfl,gk,gP⟩:=hp;obtain ⟨ap,cp,rfl⟩:=a7 gk;obtain ⟨ac,cc,rfl⟩:=a7 gP;have KX:=dB gk;have p6:=dB gP;have cell:∀ {w':World},Mod (fun _=>False) w w'→w'.cell? a=some (.string d.name)∧w'.cell? ⟨a.block,a.off+1,none⟩=some (.slice ap d.params.length cp)∧w'.cell? ⟨a.block,a.off+2,none⟩=some (.slice ac d.cons.length cc):=fun hm=>by
  have h:=bH.up hm aC (fun _ h=>h);exact ⟨h.c0 (by simp),h.at (k:=1) (by simp),h.at (k:=2) (by simp)⟩
 refine ZA.calls rfl ?_;unfold Iu;obtain ⟨k0,k1,k2⟩:=cell (Mod.refl _ w);have dX:nN E d=if (!zP d.name||d.params.any (fun s=>!qV s)||d.cons.any (fun k=>!jU k.name))=true then 82
     else if (aG E.aH d.name).isSome=true then 81
     else if pw E d.cons []=false then 81
     else if uG d.params []=false then 81
     else if (decide ((d.params.length:Int) > 6)||(d.cons.length:Int) == 0||decide ((d.cons.length:Int) > 24))=true then 81 else 0:=rfl
 (try simp only [go_sem,simprocAttr,k0]);refine aI (by rfl) ?_;refine (abN d.name).mono ?_;rintro _ w1 ⟨rfl,aj⟩;(try simp only [go_sem,simprocAttr]);refine Bz (fun ρ w'=>Mod (fun _=>False) w w'∧ρ.get 33=some (.bool (!zP d.name||d.params.any (fun s=>!qV s)||d.cons.any (fun k=>!jU k.name)))∧ρ.get 0=some (ptr c)∧ρ.get 1=some (.pointer (some a))) ?_ ?_
 ·cases h1:zP d.name with
  | false=>(try simp only [go_sem,simprocAttr]);exact ⟨aj,rfl⟩
  | true=>
   obtain ⟨q0,q1,q2⟩:=cell aj;(try simp only [go_sem,simprocAttr,q1]);refine aI (by rfl) ?_;refine (aa' (p:=fun s=>!qV s) (gk.mod aj aC (fun _ _ h=>h)) ad8 (fun s _ _ w' _=>aea s)).mono ?_;rintro _ w2 ⟨rfl,ai⟩;cases h2:d.params.any (fun s=>!qV s) with
   | true=>(try simp only [go_sem,simprocAttr]);exact ⟨aj.trans ai,rfl⟩
   | false=>
    obtain ⟨q0,q1,q2⟩:=cell (aj.trans ai);(try simp only [go_sem,simprocAttr,q2]);refine aI (by rfl) ?_;refine (aa6 (PP:=fun w'=>eL w' (Out S w)) (p:=fun k=>!jU k.name) (gP.mod (aj.trans ai) aC (fun _ _ h=>h.mod (aj.trans ai) aC)) (fun _ _ _ _ h hm=>h.mod hm aC) ad9 ?_).mono ?_
    ·intro w3 r3 u hu aq mV;exact aeb mV
    rintro _ w3 ⟨rfl,aq⟩;(try simp only [go_sem,simprocAttr]);exact ⟨(aj.trans ai).trans aq,rfl⟩
 rintro ρ w2 ⟨ai,uB,g0,g1⟩;cases Fw:(!zP d.name||d.params.any (fun s=>!qV s)||d.cons.any (fun k=>!jU k.name)) with
 | true=>
  rw [if_pos Fw] at dX;rw [Fw] at uB;(try simp only [go_sem,simprocAttr,uB,g0,g1,aE,RV.ev,aF]);exact ⟨by rw [dX],ai⟩
 | false=>
  rw [if_neg (by rw [Fw];simp)] at dX;rw [Fw] at uB;obtain ⟨q0,q1,q2⟩:=cell ai;have ju:=hc.aB ai;obtain ⟨vp2,vb2,vl2,_,_,_,Cw⟩:=ju.box;(try simp only [go_sem,simprocAttr,uB,g0,g1,q0,cell_of Cw]);have d2:Mod (fun _=>False) w2 w2.drew:=(Mod.refl _ _).drew;have aed:=ju.aB d2;refine BY (R:=uk w2.drew (Out S w2.drew)) (k:=d.name) (b:=md) (kt:=9) (et:=152) rfl rfl rfl rfl (Tryz.zeroValue152 _) aed.aH (fun hn=>?_) (fun v y hy hr=>?_)
  rotate_left
  ·obtain ⟨ad,rfl,_⟩:=hr;rw [hy,if_pos (by rfl)] at dX;(try simp only [go_sem,simprocAttr,aE,RV.ev,aF]);exact ⟨by rw [dX],ai.trans d2⟩
  ·rw [hn,if_neg (by simp)] at dX;(try simp only [go_sem,simprocAttr]);refine pY (α:=Int) RI ?_;intro w5 CA aee eN;have aD:Mod (fun _=>False) w w5:=ai.trans (d2.trans aee);have zb:w.heap.size≤w2.heap.size:=ai.size;obtain ⟨q0,q1,q2⟩:=cell aD;(try simp only [go_sem,simprocAttr,q2]);have wx:∀ {w':World},Mod (· = w2.heap.size) w5 w'→Mod (fun _=>False) w w':=fun hm=>aD.step hm (fun b hb hl=>by omega)
   refine fe d.cons.length (fun k ρ w'=>k≤d.cons.length∧Mod (· = w2.heap.size) w5 w'∧(∃ m,cE w' w2.heap.size RI m∧pw E (d.cons.drop k) m=pw E d.cons [])∧ρ=[(0,ptr c),(1,.pointer (some a)),(7,.map (some w2.heap.size)),(51,.slice ac d.cons.length cc),(52,I d.cons.length),(53,I k)])
    ⟨by omega,.refl _ _,⟨[],CA,rfl⟩,rfl⟩ p6 ?_ ?_ (by decide) ?_
   ·rintro k _ w6 ⟨hk,_,_,rfl⟩;exact ⟨rfl,rfl,hk⟩
   ·rintro k _ w6 ⟨_,aJ,⟨m,rC,mr⟩,rfl⟩ hk;rw [adW hk] at mr;have lh:=wx aJ;obtain ⟨ad,c2,r,e,hr,fJ,bU,_⟩:=eh (gP.mod lh aC (fun _ _ h=>h.mod lh aC)) hk;obtain ⟨rfl,-,-⟩:=bY e;obtain ⟨vf,rfl,hf,jw⟩:=hr;obtain ⟨af,cf,rfl⟩:=a7 hf;have bk:(0:Int)≤k∧(k:Int) < d.cons.length:=by omega
    have jz:=hc.aB lh;(try simp only [go_sem,simprocAttr,bq,br,bk,bU]);refine dp (n:=2) (vs:=[.string d.cons[k].name,.slice af d.cons[k].fields.length cf]) rfl rfl (aS rfl (aS rfl dE)) ?_;intro w7 dL aN jX;have jf:=jz.aB aN;obtain ⟨vp7,vb7,vl7,_,_,_,aef⟩:=jf.box;have kn:w7.cell? ⟨w6.heap.size,0,none⟩=some (.string d.cons[k].name):=by rw [cell_of dL];rfl
    have kf:∀ {w':World},Mod (fun _=>False) w7 w'→w'.cell? ⟨w6.heap.size,0,none⟩=some (.string d.cons[k].name)∧w'.cell? ⟨w6.heap.size,1,none⟩=some (.slice af d.cons[k].fields.length cf):=fun hm=>by
     constructor<;>(rw [cell_of (hm.at dL _root_.id)];rfl)
    have d7:Mod (fun _=>False) w7 w7.drew:=(Mod.refl _ _).drew;have aeg:=jf.aB d7;have s8:c < w7.heap.size:=jf.lt c (jf.bt c (by simp));(try simp only [go_sem,simprocAttr,kn,cell_of aef]);refine ES (Rr:=q8 w7.drew (Out S w7.drew)) (k:=d.cons[k].name) (b0:=mc) (kt:=9) (et:=158) (zc:=[.pointer none,I 0]) rfl rfl rfl rfl (fun w=>Tryz.zeroValue158 w) ⟨rfl,aS rfl (aS rfl dE)⟩ rfl aeg.cons
     (fun v y hr=>by obtain ⟨ad,rfl,_⟩:=hr;exact ⟨[.pointer (some ad),I y.2],rfl,rfl,aS rfl (aS rfl dE)⟩) (fun p hp=>by
      have e:w7.drew.heap.size=w7.heap.size:=rfl;simp only [List.mem_cons,List.not_mem_nil,or_false] at hp;rcases hp with rfl | rfl
      ·show w6.heap.size < _;omega
      ·show c < _;omega) (by decide) ?_
    intro w8 lz cz u hold g10 g11 gy rj BW bS uj;have bg:Mod (fun _=>False) w7 w8:=rj.eF;have g0:lz.get 0=some (ptr c):=(hold 0 (by decide)).trans rfl;have g1:lz.get 1=some (.pointer (some a)):=(hold 1 (by decide)).trans rfl;have g7:lz.get 7=some (.map (some w2.heap.size)):=(hold 7 (by decide)).trans rfl;have g9:lz.get 9=some (ptr w6.heap.size):=(hold 9 (by decide)).trans rfl;have RO:lz.get 51=some (.slice (some ad) d.cons.length cc):=(hold 51 (by decide)).trans rfl;have RP:lz.get 52=some (I d.cons.length):=(hold 52 (by decide)).trans rfl;have RQ:lz.get 53=some (I k):=(hold 53 (by decide)).trans rfl;obtain ⟨CD,kf8⟩:=kf bg;have na:=aN.trans bg;have RR:=rC.mod na _root_.id (fun _ _ x=>x);have As:=lh.trans na;have stop:((aG E.cons d.cons[k].name).isSome||has m d.cons[k].name||decide ((d.cons[k].fields.length:Int) > 8))=true→nN E d=81:=fun h=>by
     rw [if_pos h] at mr;rw [dX,if_pos mr.symm]
    have Fx:((aG E.cons d.cons[k].name).isSome||has m d.cons[k].name||decide ((d.cons[k].fields.length:Int) > 8))=false→pw E (d.cons.drop (k+1)) (bO m d.cons[k].name 1)=pw E d.cons []:=fun h=>by
     rw [if_neg (by rw [h];simp)] at mr;exact mr
    rcases uj with ⟨hn8,rfl⟩ | ⟨x,hx8,_,rfl⟩
    ·rw [hn8] at stop Fx;(try simp only [go_sem,simprocAttr,g0,g1,g7,g9,g11,RO,RP,RQ,CD]);refine yb ?_;refine vO (k:=d.cons[k].name) (b:=w2.heap.size) (kt:=9) (et:=3) rfl rfl rfl rfl (zI _) RR ?_;have iG:decide ((aG m d.cons[k].name).getD 0 > 0)=has m d.cons[k].name:=rfl;cases hh:has m d.cons[k].name with
     | true=>
      rw [hh] at iG stop;(try simp only [go_sem,simprocAttr,iG,aE,RV.ev,aF]);exact ⟨by rw [stop rfl],As⟩
     | false=>
      rw [hh] at iG stop Fx;(try simp only [go_sem,simprocAttr,iG,kf8]);cases h8:decide ((d.cons[k].fields.length:Int) > 8) with
      | true=>
       rw [h8] at stop;(try simp only [go_sem,simprocAttr,aE,RV.ev,aF]);exact ⟨by rw [stop rfl],As⟩
      | false=>
       rw [h8] at Fx;(try simp only [go_sem,simprocAttr,CD]);refine mS (R:=RI) (a:=(1:Int)) (k:=d.cons[k].name) (b:=w2.heap.size) (kt:=9) (et:=3) rfl rfl rfl rfl rfl RR rfl ?_;intro w9 h9 aV gA;(try simp only [go_sem,simprocAttr]);exact ⟨hk,(aJ.trans (an na)).trans aV,_,h9,Fx rfl⟩
    ·rw [hx8] at stop;(try simp only [go_sem,simprocAttr,g0,g1,g7,g9,g11,RO,RP,RQ,aE,RV.ev,aF]);exact ⟨by rw [stop (by simp)],As⟩
   ·rintro _ w6 ⟨_,aJ,⟨m,rC,mr⟩,rfl⟩;rw [List.drop_length,pw] at mr;rw [if_neg (by rw [← mr];simp)] at dX;(try simp only [go_sem,simprocAttr]);refine XQ (kt:=9) (et:=3) rfl rfl rfl (Exists.choose_spec rC).1 ?_;intro w7 h7 aN jX;have j6:Mod (· = w2.heap.size) w5 w7:=aJ.trans aN;obtain ⟨q0,q1,q2⟩:=cell (wx j6);(try simp only [go_sem,simprocAttr,q1]);refine fe d.params.length (fun k ρ w'=>k≤d.params.length∧Mod (· = w2.heap.size) w5 w'∧(∃ m,cE w' w2.heap.size RI m∧uG (d.params.drop k) m=uG d.params [])∧ρ=[(1,.pointer (some a)),(7,.map (some w2.heap.size)),(89,.slice ap d.params.length cp),(90,I d.params.length),(91,I k)])
     ⟨by omega,j6,⟨[],⟨[],h7,.nil⟩,rfl⟩,rfl⟩ KX ?_ ?_ (by decide) ?_
    ·rintro k _ w8 ⟨hk,_,_,rfl⟩;exact ⟨rfl,rfl,hk⟩
    ·rintro k _ w8 ⟨_,bg,⟨m,rC,mr⟩,rfl⟩ hk;rw [adX hk] at mr;have As:=wx bg;obtain ⟨ad,c2,e,jw,kq⟩:=sH (gk.mod As aC (fun _ _ h=>h)) hk;obtain ⟨rfl,-,-⟩:=bY e;have bk:(0:Int)≤k∧(k:Int) < d.params.length:=by omega
     (try simp only [go_sem,simprocAttr,bq,br,bk,kq]);refine vO (k:=d.params[k]) (b:=w2.heap.size) (kt:=9) (et:=3) rfl rfl rfl rfl (zI _) rC ?_;have iG:decide ((aG m d.params[k]).getD 0 > 0)=has m d.params[k]:=rfl;cases hh:has m d.params[k] with
     | true=>
      rw [hh] at iG;rw [if_pos hh] at mr;(try simp only [go_sem,simprocAttr,iG,aE,RV.ev,aF]);exact ⟨by rw [dX,if_pos mr.symm],As⟩
     | false=>
      rw [hh] at iG;rw [if_neg (by rw [hh];simp)] at mr;(try simp only [go_sem,simprocAttr,iG]);refine mS (R:=RI) (a:=(1:Int)) (k:=d.params[k]) (b:=w2.heap.size) (kt:=9) (et:=3) rfl rfl rfl rfl rfl rC rfl ?_;intro w9 h9 aV gA;(try simp only [go_sem,simprocAttr]);exact ⟨hk,bg.trans aV,_,h9,mr⟩
    ·rintro _ w8 ⟨_,bg,⟨m,rC,mr⟩,rfl⟩;rw [List.drop_length,uG] at mr;rw [if_neg (by rw [← mr];simp)] at dX;obtain ⟨q0,q1,q2⟩:=cell (wx bg);(try simp only [go_sem,simprocAttr,q1]);cases t1:decide ((d.params.length:Int) > 6) with
     | true=>
      rw [t1] at dX;(try simp only [go_sem,simprocAttr,q2,aE,RV.ev,aF]);exact ⟨by rw [dX];rfl,wx bg⟩
     | false=>
      rw [t1] at dX;(try simp only [go_sem,simprocAttr,q2]);cases t2:(d.cons.length:Int) == 0 with
      | true=>
       rw [t2] at dX;(try simp only [go_sem,simprocAttr,q2,aE,RV.ev,aF]);exact ⟨by rw [dX];rfl,wx bg⟩
      | false=>
       rw [t2] at dX;(try simp only [go_sem,simprocAttr,q2]);cases t3:decide ((d.cons.length:Int) > 24) with
       | true=>
        rw [t3] at dX;(try simp only [go_sem,simprocAttr,aE,RV.ev,aF]);exact ⟨by rw [dX];rfl,wx bg⟩
       | false=>
        rw [t3] at dX;(try simp only [go_sem,simprocAttr,aE,RV.ev,aF]);exact ⟨by rw [dX];rfl,wx bg⟩
end
section
open Go Go.W
theorem KY {α:Type} {l:List α} {p:α→Bool} {i:Nat} (hi:i < l.length):(l.drop i).all p=(p l[i]&&(l.drop (i+1)).all p):=by rw [List.drop_eq_getElem_cons hi,List.all_cons]
theorem fu.eB {w:World} {S:Nat→Prop} {c md mc mf:Nat} {E:Env} (h:fu w S c md mc mf E) (E':Env) (h1:E'.aH=E.aH) (h2:E'.cons=E.cons) (h3:E'.ak=E.ak):fu w S c md mc mf E':=
 ⟨h.box,h.nodup,h.bt,h.lt,by rw [h1];exact h.aH,by rw [h2];exact h.cons,by rw [h3];exact h.ak⟩
theorem Fy {S S':Nat→Prop} {w1 w':World} (cZ:w1.heap.size≤w'.heap.size) (h:∀ b,S' b→S b∨w1.heap.size≤b):∀ b,Out S w1 b→Out S' w' b:=fun b hb=>⟨Nat.lt_of_lt_of_le hb.1 cZ,fun hh=>by
 rcases h b hh with h | h
 ·exact hb.2 h
 ·have:=hb.1;omega⟩
theorem aeh {E:Env} {l:List Dt} {v:Value} {w:World} {S:Nat→Prop} {c md mc mf:Nat} (hc:fu w S c md mc mf E) (hl:aT w v 3 (Out S w) (gC w (Out S w)) l) :
   a8 Tryz.prog 42 [ptr c,v] w fun r w'=>(match lB E l with
    | .error e=>r=I e∧e≠0
    | .ok E'=>r=I 0∧∃ S',fu w' S' c md mc mf E'∧(∀ b,S b→S' b)∧∀ b,S' b→S b∨w.heap.size≤b)∧Mod (fun b=>b=c∨b=md∨b=mc) w w':=by
 obtain ⟨al,cl,rfl⟩:=a7 hl;have lV:=dB hl;have TS:∀ b,(b=md∨b=mc)→S b:=fun b hb=>by rcases hb with rfl | rfl<;>exact hc.bt _ (by simp)
 have T3:∀ b,(b=md∨b=mc)→(b=c∨b=md∨b=mc):=fun b hb=>.inr hb
 refine Zb.calls rfl ?_;unfold Ic;(try simp only [go_sem,Nat.reduceAdd,Nat.reduceEqDiff,Nat.reduceLT,Nat.reduceLeDiff,Nat.reduceMul,reduceCtorEq,↓reduceIte]);refine fe l.length (fun k ρ w'=>k≤l.length∧Mod (fun b=>b=md∨b=mc) w w'∧(∃ Ek,fu w' S c md mc mf Ek∧mq (l.drop k) Ek=mq l E)∧ρ=[(0,ptr c),(1,.slice al l.length cl),(15,I l.length),(16,I k)])
  ⟨by omega,.refl _ _,⟨E,hc,rfl⟩,rfl⟩ lV ?_ ?_ (by decide) ?_
 ·rintro k _ w1 ⟨hk,_,_,rfl⟩;exact ⟨rfl,rfl,hk⟩
 ·rintro k _ w1 ⟨_,aj,⟨Ek,bh,dX⟩,rfl⟩ hk;rw [adY hk] at dX;have oB:=hl.up (aj.aU TS) aK (aX (aj.aU TS)) (fun _ _ h=>h.up (aj.aU TS) aK (aX (aj.aU TS)));obtain ⟨ad,c2,rr,e,hd,bT,bH⟩:=iJ oB hk;obtain ⟨rfl,-,-⟩:=bY e;have bk:(0:Int)≤k∧(k:Int) < l.length:=by omega
  (try simp only [go_sem,Nat.reduceAdd,Nat.reduceEqDiff,Nat.reduceLT,Nat.reduceLeDiff,Nat.reduceMul,reduceCtorEq,↓reduceIte,bq,br,bk]);refine aI (by rfl) ?_;refine (aec bh ⟨rr,bH,hd⟩).mono ?_;rintro _ w2 ⟨rfl,ai⟩;cases bo:nN Ek l[k] != 0 with
  | true=>
   rw [if_pos bo] at dX;have hX:lB E l = .error (nN Ek l[k]):=by unfold lB;rw [← dX]
   rw [hX];(try simp only [go_sem,Nat.reduceAdd,Nat.reduceEqDiff,Nat.reduceLT,Nat.reduceLeDiff,Nat.reduceMul,reduceCtorEq,↓reduceIte,bo,aE,RV.ev,aF]);exact ⟨by simpa using bo,(aj.trans (an ai)).aU T3⟩
  | false=>
   rw [if_neg (by rw [bo];simp)] at dX;(try simp only [go_sem,Nat.reduceAdd,Nat.reduceEqDiff,Nat.reduceLT,Nat.reduceLeDiff,Nat.reduceMul,reduceCtorEq,↓reduceIte,bo]);refine aI (by rfl) ?_;refine (Rt (bh.aB ai) ⟨rr,bH.up (an ai) aK (aX (an ai)),hd.up (an ai) aK (aX (an ai))⟩).mono ?_;rintro _ w3 ⟨KZ,aq⟩;(try simp only [go_sem,Nat.reduceAdd,Nat.reduceEqDiff,Nat.reduceLT,Nat.reduceLeDiff,Nat.reduceMul,reduceCtorEq,↓reduceIte]);exact ⟨hk,(aj.trans (an ai)).trans aq,_,KZ,dX⟩
 rintro _ w1 ⟨_,aj,⟨E1,K1,dX⟩,rfl⟩;rw [List.drop_length,mq] at dX;have oB:=hl.up (aj.aU TS) aK (aX (aj.aU TS)) (fun _ _ h=>h.up (aj.aU TS) aK (aX (aj.aU TS)));have z1:=aj.size;have RT:=aj.aU T3;have Sc:∀ b,b=c→S b:=fun b hb=>by rw [hb];exact hc.bt _ (by simp)
 have later:∀ {w':World} {S':Nat→Prop},Mod (· = c) w1 w'→(∀ b,S' b→S b∨w1.heap.size≤b)→aT w' (.slice al l.length cl) 3 (Out S' w') (gC w' (Out S' w')) l:=fun hm hs=>
  oB.up (hm.aU Sc) aK (Fy hm.size hs) (fun _ _ h=>h.up (hm.aU Sc) aK (Fy hm.size hs))
 have hX:lB E l=if ww E1 l=true then .ok E1 else .error 81:=by unfold lB;rw [← dX]
 rw [hX]
 have bad:ww E1 l=false→(match (if ww E1 l=true then .ok E1 else .error 81:Except Int Env) with
     | .error e=>I 81=I e∧e≠0
     | .ok E'=>I 81=I 0∧∃ S',fu w1 S' c md mc mf E'∧(∀ b,S b→S' b)∧∀ b,S' b→S b∨w.heap.size≤b):=fun h=>by
  rw [if_neg (by rw [h];simp)];exact ⟨rfl,by decide⟩
 (try simp only [go_sem,Nat.reduceAdd,Nat.reduceEqDiff,Nat.reduceLT,Nat.reduceLeDiff,Nat.reduceMul,reduceCtorEq,↓reduceIte]);refine fe l.length (fun k ρ w'=>k≤l.length∧Mod (· = c) w1 w'∧(∃ S',fu w' S' c md mc mf E1∧(∀ b,S b→S' b)∧(∀ b,S' b→S b∨w1.heap.size≤b)∧(l.drop k).all (Ar E1)=ww E1 l)∧ρ=[(0,ptr c),(32,.slice al l.length cl),(33,I l.length),(34,I k)])
  ⟨by omega,.refl _ _,⟨S,K1,fun _ h=>h,fun _ h=>.inl h,rfl⟩,rfl⟩ lV ?_ ?_ (by decide) ?_
 ·rintro k _ w2 ⟨hk,_,_,rfl⟩;exact ⟨rfl,rfl,hk⟩
 ·rintro k _ w2 ⟨_,ai,⟨S2,oQ,K2,vI,cN⟩,rfl⟩ hk;rw [KY hk] at cN;have fJ:=later ai vI;obtain ⟨ad,c2,rr,e,hd,bT,bU,_⟩:=eh fJ hk;obtain ⟨rfl,-,-⟩:=bY e;have gD:=hd.one;obtain ⟨vp,vc,rfl,gk,gP⟩:=hd;have bk:(0:Int)≤k∧(k:Int) < l.length:=by omega
  (try simp only [go_sem,Nat.reduceAdd,Nat.reduceEqDiff,Nat.reduceLT,Nat.reduceLeDiff,Nat.reduceMul,reduceCtorEq,↓reduceIte,bq,br,bk,bU]);refine dp (n:=3) (vs:=[.string l[k].name,vp,vc]) rfl rfl gD ?_;intro w3 dL aq eV;have KZ:=oQ.aB aq;have kp:w3.cell? ⟨w2.heap.size,1,none⟩=some vp:=by rw [cell_of dL];rfl
  (try simp only [go_sem,Nat.reduceAdd,Nat.reduceEqDiff,Nat.reduceLT,Nat.reduceLeDiff,Nat.reduceMul,reduceCtorEq,↓reduceIte,kp]);refine aI (by rfl) ?_;refine (KL KZ (gk.up (an aq) aK (aX (an aq)) (fun _ _ h=>h))).mono ?_;rintro _ w4 ⟨⟨M,rfl,rfl,rfl,rfl,mP,lp,lb,ll⟩,aA⟩;have mu:Mod (· = M.c) w1 w4:=(ai.trans (an aq)).trans aA;have z12:=ai.size;have KD:=aq.size;have yv:∀ b,Kn S2 M b→S b∨w1.heap.size≤b:=fun b hb=>by
   rcases hb with h | h | h | h
   ·exact vI b h
   ·right;omega
   ·right;omega
   ·right;omega
  have hkc:M.c < w2.heap.size:=oQ.lt _ (oQ.bt _ (by simp));have aei:=aA.at dL (by omega);have RU:∀ b,b=M.c→S2 b:=fun b hb=>by rw [hb];exact oQ.bt _ (by simp)
  have ii:Mod (· = M.c) w2 w4:=(an aq).trans aA
  have RW:∀ b,Out S2 w2 b→Out (Kn S2 M) w4 b:=Fy ii.size (fun b hb=>by
   rcases hb with h | h | h | h
   ·exact .inl h
   ·right;omega
   ·right;omega
   ·right;omega)
  have K4:aT w4 vc 2 (Out (Kn S2 M) w4) (eL w4 (Out (Kn S2 M) w4)) l[k].cons:=gP.up (ii.aU RU) aK RW (fun _ _ h=>h.up (ii.aU RU) aK RW);obtain ⟨ac,cc,rfl⟩:=a7 K4;have p6:=dB K4;have kc:w4.cell? ⟨w2.heap.size,2,none⟩=some (.slice ac l[k].cons.length cc):=by rw [cell_of aei];rfl
  have ajU:Ar E1 l[k]=l[k].cons.all fun x=>x.fields.all (fB (eA E1 l[k].params)):=rfl
  (try simp only [go_sem,Nat.reduceAdd,Nat.reduceEqDiff,Nat.reduceLT,Nat.reduceLeDiff,Nat.reduceMul,reduceCtorEq,↓reduceIte,kc]);refine fe l[k].cons.length (fun i ρ w'=>i≤l[k].cons.length∧Mod (fun _=>False) w4 w'∧((l[k].cons.drop i).all fun x=>x.fields.all (fB (eA E1 l[k].params)))=Ar E1 l[k]∧ρ=[(0,ptr M.c),(32,.slice (some ad) l.length cl),(33,I l.length),(34,I k),(43,.slice ac l[k].cons.length cc),(44,I l[k].cons.length),(45,I i)])
   ⟨by omega,.refl _ _,rfl,rfl⟩ p6 ?_ ?_ (by decide) ?_
  ·rintro i _ w5 ⟨hi,_,_,rfl⟩;exact ⟨rfl,rfl,hi⟩
  ·rintro i _ w5 ⟨_,aD,td,rfl⟩ hi;rw [KY hi] at td;have JW:=K4.up (an aD) aK (aX (an aD)) (fun _ _ h=>h.up (an aD) aK (aX (an aD)));obtain ⟨adc,c5,rc,ec,⟨vf,rfl,hf,_⟩,fJ,aej,_⟩:=eh JW hi;obtain ⟨rfl,-,-⟩:=bY ec;obtain ⟨af,cf,rfl⟩:=a7 hf;have kJ:=dB hf;have bi:(0:Int)≤i∧(i:Int) < l[k].cons.length:=by omega
   (try simp only [go_sem,Nat.reduceAdd,Nat.reduceEqDiff,Nat.reduceLT,Nat.reduceLeDiff,Nat.reduceMul,reduceCtorEq,↓reduceIte,bq,br,bi,aej]);refine dp (n:=2) (vs:=[.string l[k].cons[i].name,.slice af l[k].cons[i].fields.length cf]) rfl rfl (aS rfl (aS rfl dE)) ?_;intro w6 nJ aJ gN;have kf:w6.cell? ⟨w5.heap.size,1,none⟩=some (.slice af l[k].cons[i].fields.length cf):=by rw [cell_of nJ];rfl
   have JV:=xX hf (an aJ);(try simp only [go_sem,Nat.reduceAdd,Nat.reduceEqDiff,Nat.reduceLT,Nat.reduceLeDiff,Nat.reduceMul,reduceCtorEq,↓reduceIte,kf]);refine fe l[k].cons[i].fields.length (fun j ρ w'=>j≤l[k].cons[i].fields.length∧Mod (fun _=>False) w6 w'∧((l[k].cons[i].fields.drop j).all (fB (eA E1 l[k].params)))=l[k].cons[i].fields.all (fB (eA E1 l[k].params))∧ρ=[(0,ptr M.c),(32,.slice (some ad) l.length cl),(33,I l.length),(34,I k),(43,.slice (some adc) l[k].cons.length cc),(44,I l[k].cons.length),(45,I i),(50,.slice af l[k].cons[i].fields.length cf),(51,I l[k].cons[i].fields.length),(52,I j)])
    ⟨by omega,.refl _ _,rfl,rfl⟩ kJ ?_ ?_ (by decide) ?_
   ·rintro j _ w7 ⟨hj,_,_,rfl⟩;exact ⟨rfl,rfl,hj⟩
   ·rintro j _ w7 ⟨_,aN,tf,rfl⟩ hj;rw [KY hj] at tf;obtain ⟨Ey,c7,rf,ef,uv,bT,aek,_⟩:=eh (xX JV (an aN)) hj;obtain ⟨rfl,-,-⟩:=bY ef;have bj:(0:Int)≤j∧(j:Int) < l[k].cons[i].fields.length:=by omega
    (try simp only [go_sem,Nat.reduceAdd,Nat.reduceEqDiff,Nat.reduceLT,Nat.reduceLeDiff,Nat.reduceMul,reduceCtorEq,↓reduceIte,bq,br,bj,aek]);refine dp (n:=3) (vs:=rf) rfl bT uv.one ?_;intro w8 fO bg mR;have EL:Mod (fun _=>False) w4 w8:=aD.trans (aJ.trans (aN.trans bg));(try simp only [go_sem,Nat.reduceAdd,Nat.reduceEqDiff,Nat.reduceLT,Nat.reduceLeDiff,Nat.reduceMul,reduceCtorEq,↓reduceIte,az (n:=3) fO bT]);refine aI (by rfl) ?_;refine (B2 l[k].cons[i].fields[j] (mP.aB EL) (uv.aB (an bg))).mono ?_;rintro _ w9 ⟨rfl,aV⟩;have ael:=EL.trans aV;cases fT:fB (eA E1 l[k].params) l[k].cons[i].fields[j] with
    | false=>
     rw [fT,Bool.false_and] at tf;rw [← tf,Bool.false_and] at td;rw [← td,Bool.false_and] at cN;rw [if_neg (by rw [← cN];simp)];(try simp only [go_sem,Nat.reduceAdd,Nat.reduceEqDiff,Nat.reduceLT,Nat.reduceLeDiff,Nat.reduceMul,reduceCtorEq,↓reduceIte,aE,RV.ev,aF]);exact ⟨by decide,RT.trans ((mu.trans (an ael)).aU (fun b h=>.inl h))⟩
    | true=>
     rw [fT,Bool.true_and] at tf;(try simp only [go_sem,Nat.reduceAdd,Nat.reduceEqDiff,Nat.reduceLT,Nat.reduceLeDiff,Nat.reduceMul,reduceCtorEq,↓reduceIte]);exact ⟨hj,(aN.trans bg).trans aV,tf⟩
   ·rintro _ w7 ⟨_,aN,tf,rfl⟩;rw [List.drop_length] at tf;have tf:true=_:=tf;rw [← tf,Bool.true_and] at td;(try simp only [go_sem,Nat.reduceAdd,Nat.reduceEqDiff,Nat.reduceLT,Nat.reduceLeDiff,Nat.reduceMul,reduceCtorEq,↓reduceIte]);exact ⟨hi,aD.trans (aJ.trans aN),td⟩
  ·rintro _ w5 ⟨_,aD,td,rfl⟩;rw [List.drop_length] at td;have td:true=_:=td;rw [← td,Bool.true_and] at cN;(try simp only [go_sem,Nat.reduceAdd,Nat.reduceEqDiff,Nat.reduceLT,Nat.reduceLeDiff,Nat.reduceMul,reduceCtorEq,↓reduceIte]);exact ⟨hk,mu.trans (an aD),Kn S2 M,((mP.aB aD).forget).eB E1 rfl rfl rfl,fun b hb=>.inl (K2 b hb),yv,cN⟩
 ·rintro _ w2 ⟨_,ai,⟨S2,oQ,K2,vI,cN⟩,rfl⟩;have cN:ww E1 l=true:=by rw [← cN,List.drop_length];rfl
  rw [if_pos cN];(try simp only [go_sem,Nat.reduceAdd,Nat.reduceEqDiff,Nat.reduceLT,Nat.reduceLeDiff,Nat.reduceMul,reduceCtorEq,↓reduceIte,aE,RV.ev,aF])
  exact ⟨⟨S2,oQ,K2,fun b hb=>by
   rcases vI b hb with h | h
   ·exact .inl h
   ·right;omega⟩,RT.trans (ai.aU (fun b h=>.inl h))⟩
end
section
open Go Go.W
section
variable {α:Type}
theorem RX (k:ByteArray) (v:α):bO [] k v=[(k,v)]:=by simp [bO]
theorem RY (p:ByteArray×α) (l:List (ByteArray×α)) (k:ByteArray) (v:α):bO (p::l) k v=if p.1=k then (k,v)::l else p::bO l k v:=by
 unfold bO;rw [List.findIdx?_cons];by_cases h:p.1=k
 ·simp [h]
 ·simp only [h,decide_false,if_false];cases l.findIdx? (fun p=>decide (p.1=k))<;>simp
theorem K5 (k:ByteArray):aG ([]:List (ByteArray×α)) k=none:=rfl
theorem px (p:ByteArray×α) (l:List (ByteArray×α)) (k:ByteArray):aG (p::l) k=if p.1=k then some p.2 else aG l k:=by
 unfold aG;by_cases h:p.1=k<;>simp [h]
theorem jE (l:List (ByteArray×α)) (k:ByteArray) (v:α) (k':ByteArray):aG (bO l k v) k'=if k=k' then some v else aG l k':=by
 induction l with
 | nil=>rw [RX,px]
 | cons p l ih=>
  rw [RY];by_cases h:p.1=k
  ·rw [if_pos h,px,px,h];by_cases h2:k=k'<;>simp [h2]
  ·rw [if_neg h,px,px,ih];by_cases h2:k=k'
   ·subst h2;simp [h]
   ·simp [h2]
theorem aem (l:List (ByteArray×α)) (k:ByteArray) (v:α):aG (bO l k v) k=some v:=by rw [jE,if_pos rfl]
end
theorem yw {E E':Env} (h:E.aH=E'.aH) (t:Ty):t.wf E=t.wf E':=by
 induction t using Ty.ind with
 | h t ih=>
 rw [Ty.oK,Ty.oK,ur,ur];have e1:t.args.all (Ty.wf E)=t.args.all (Ty.wf E'):=by
  rw [Bool.eq_iff_iff,List.all_eq_true,List.all_eq_true];constructor
  ·intro h x hx;rw [← ih x hx];exact h x hx
  ·intro h x hx;rw [ih x hx];exact h x hx
 rw [e1];have e2:dy E t.name t.args.length=dy E' t.name t.args.length:=by unfold dy;rw [h]
 rw [e2]
structure qi (E:Env) (l:List Dt):Prop where
 name:∀ n d,aG E.aH n=some d→d.name=n
 aZ:∀ n x,aG E.cons n=some x→aG E.aH x.1.name=some x.1
 mem:∀ n d,aG E.aH n=some d→d∈l
 ak:E.ak=[]
theorem K7 {d:Dt}:∀ (ks:List Cn) (i:Nat) (m:List (ByteArray×(Dt×Nat))) (n:ByteArray) (x:Dt×Nat),aG (nM d ks i m) n=some x→aG m n=some x∨x.1=d
 | [],_,m,n,x,h=>.inl h
 | k::ks,i,m,n,x,h=>by
  rw [nM] at h;rcases K7 ks (i+1) _ n x h with h | h
  ·rw [jE] at h
   split at h
   ·cases h;exact .inr rfl
   ·exact .inl h
  ·exact .inr h
theorem qi.enter {E:Env} {l:List Dt} (h:qi E l) {d:Dt} (hn:aG E.aH d.name=none) {l':List Dt} (hl:∀ x∈l,x∈l') (hd:d∈l'):qi (qc E d) l':=by
 have get:∀ n,aG (qc E d).aH n=if d.name=n then some d else aG E.aH n:=fun n=>jE _ _ _ _
 refine ⟨fun n e he=>?_,fun n x hx=>?_,fun n e he=>?_,h.ak⟩
 ·rw [get] at he
  split at he
  ·cases he;assumption
  ·exact h.name n e he
 ·rw [get];rcases K7 _ _ _ _ _ hx with h1 | h1
  ·have h2:=h.aZ n x h1;rw [if_neg (fun e=>by rw [e] at hn;rw [hn] at h2;cases h2)];exact h2
  ·rw [h1,if_pos rfl]
 ·rw [get] at he
  split at he
  ·cases he;exact hd
  ·exact hl _ (h.mem n e he)
theorem aen {E:Env} {d:Dt} (hn:aG E.aH d.name=none) {n:ByteArray} {x:Dt} (h:aG E.aH n=some x):aG (qc E d).aH n=some x:=by
 show aG (bO E.aH d.name d) n=some x;rw [jE,if_neg (fun e=>by rw [e] at hn;rw [hn] at h;cases h)];exact h
theorem RZ {E:Env} {d:Dt} (h:nN E d=0):aG E.aH d.name=none:=by
 unfold nN at h
 split at h
 ·cases h
 ·split at h
  ·cases h
  ·rename_i h2;cases hx:aG E.aH d.name with
   | none=>rfl
   | some y=>rw [hx] at h2;simp at h2
theorem K9:∀ (l:List Dt) (E E':Env) (l0:List Dt),qi E l0→mq l E = .ok E'→qi E' (l0++l)∧∀ n d,aG E.aH n=some d→aG E'.aH n=some d
 | [],E,E',l0,h,hd=>by rw [mq] at hd;cases hd;exact ⟨by rw [List.append_nil];exact h,fun _ _ h=>h⟩
 | d::l,E,E',l0,h,hd=>by
  rw [mq] at hd
  split at hd
  ·cases hd
  ·rename_i h0;have h0:nN E d=0:=by simpa using h0
   have hn:=RZ h0;have h1:qi (qc E d) (l0++[d]):=h.enter hn (fun x hx=>by simp [hx]) (by simp);obtain ⟨h2,h3⟩:=K9 l _ E' (l0++[d]) h1 hd;refine ⟨by rw [List.append_assoc] at h2;exact h2,fun n x hx=>h3 n x (aen hn hx)⟩
theorem La:qi il jh:=by
 have e0:qi CC []:=⟨fun n d h=>(by cases h),fun n d h=>(by cases h),fun n d h=>(by cases h),rfl⟩;have step:∀ (l:List Dt) (E:Env) (l0:List Dt),qi E l0→(∀ d∈l,aG E.aH d.name=none)→(l.map Dt.name).Nodup→qi (wv l E) (l0++l):=by
  intro l
  induction l with
  | nil=>intro E l0 h _ _;rw [List.append_nil];exact h
  | cons d l ih=>
   intro E l0 h hn lX;rw [List.map_cons,List.nodup_cons] at lX;have h1:qi (qc E d) (l0++[d]):=h.enter (hn d (by simp)) (fun x hx=>by simp [hx]) (by simp)
   have:=ih (qc E d) (l0++[d]) h1 (fun x hx=>by
    show aG (bO E.aH d.name d) x.name=none;rw [jE,if_neg (fun e=>lX.1 (by rw [e];exact List.mem_map_of_mem hx))]
    exact hn x (by simp [hx])) lX.2
   rw [List.append_assoc] at this;exact this
 have:=step jh CC [] e0 (fun d _=>rfl) (by decide);exact this
theorem R2:aG il.aH dList.name=some dList:=by rfl
theorem aeo:aG il.aH jD.name=some jD:=by rfl
theorem Fz (E:Env) (s:ByteArray):Ty.wf E (.mk 2 s [])=true:=by rw [Ty.oK,ur];rfl
theorem aep {E:Env} (h:aG E.aH dList.name=some dList):∀ d∈jh,∀ k∈d.cons,∀ f∈k.fields,f.wf E=true:=by
 have hL:Ty.wf E j'=true:=by
  rw [Ty.oK,ur];have:dy E dList.name 1=false:=by unfold dy;rw [h];rfl
  have e:dy E (Ty.name j') (Ty.args j').length=false:=this;rw [e];simp [Ty.args,Ty.kind,Fz]
 intro d hd k hk f hf;simp only [jh,List.mem_cons,List.not_mem_nil,or_false] at hd;rcases hd with rfl | rfl | rfl | rfl | rfl<;>simp only [List.mem_cons,List.not_mem_nil,or_false] at hk
 ·rcases hk with rfl | rfl<;>cases hf
 ·subst hk;cases hf
 ·rcases hk with rfl | rfl
  ·cases hf
  ·simp only [List.mem_cons,List.not_mem_nil,or_false] at hf;rcases hf with rfl | rfl
   ·exact Fz _ _
   ·exact hL
 ·subst hk;simp only [List.mem_cons,List.not_mem_nil,or_false] at hf;rcases hf with rfl | rfl<;>exact Fz _ _
 ·subst hk;simp only [List.mem_cons,List.not_mem_nil,or_false] at hf;rcases hf with rfl | rfl | rfl<;>exact Fz _ _
theorem R4 {l:List Dt} {E:Env} (h:lB il l = .ok E):(∀ n x,aG E.cons n=some x→(∃ d,aG E.aH x.1.name=some d∧d.params.length=x.1.params.length)∧∀ f∈dk x.1 x.2,f.wf E=true)∧dy E iR 0=false∧E.ak=[]:=by
 unfold lB at h
 split at h
 ·cases h
 ·rename_i E' py
  split at h
  ·rename_i cN;cases h;obtain ⟨hi,hk⟩:=K9 l il E jh La py;refine ⟨fun n x hx=>?_,?_,hi.ak⟩
   ·have hd:=hi.aZ n x hx;refine ⟨⟨x.1,hd,rfl⟩,fun f hf=>?_⟩;have gu:∃ k∈x.1.cons,f∈k.fields:=by
     unfold dk at hf;rw [List.getD_eq_getElem?_getD,List.getElem?_map] at hf;cases hg:x.1.cons[x.2]? with
     | none=>rw [hg] at hf;cases hf
     | some k=>rw [hg] at hf;exact ⟨k,List.mem_of_getElem? hg,hf⟩
    obtain ⟨k,iI,iQ⟩:=gu;rcases List.mem_append.1 (hi.mem _ _ hd) with hm | hm
    ·exact aep (hk _ _ R2) _ hm k iI f iQ
    ·unfold ww at cN;rw [List.all_eq_true] at cN;have:=cN _ hm;unfold Ar at this;rw [List.all_eq_true] at this;have:=this k iI;rw [List.all_eq_true] at this;have:=(yd (this f iQ)).1;rw [← yw (E:=eA E x.1.params) (E':=E) rfl];exact this
   ·unfold dy;have:aG E.aH iR=some jD:=hk _ _ aeo;rw [this];rfl
  ·cases h
theorem aeq {E E':Env} {d:Df} (h:nO E d = .ok E'):E'.aH=E.aH∧E'.cons=E.cons∧(∀ n f,aG E'.ak n=some f→aG E.ak n=some f∨f.type.wf E=true):=by
 unfold nO at h
 split at h
 ·cases h
 ·split at h
  ·cases h
  ·split at h
   ·cases h
   ·rename_i hr;cases h;refine ⟨rfl,rfl,fun n f hf=>?_⟩;have hf:aG (bO E.ak d.name d) n=some f:=hf;rw [jE] at hf
    split at hf
    ·cases hf
     right
     have:=(yd (by simpa using hr)).1;rw [← yw (E:={ E with params:=kK d.params []}) (E':=E) rfl];exact this
    ·exact .inl hf
theorem R5:∀ (l:List Df) (E E':Env),fG l E = .ok E'→E'.aH=E.aH∧E'.cons=E.cons∧(∀ n f,aG E'.ak n=some f→aG E.ak n=some f∨f.type.wf E=true)
 | [],E,E',h=>by rw [fG] at h;cases h;exact ⟨rfl,rfl,fun _ _ h=>.inl h⟩
 | d::l,E,E',h=>by
  rw [fG] at h
  split at h
  ·cases h
  ·rename_i E1 h1;obtain ⟨a1,a2,a3⟩:=aeq h1;obtain ⟨b1,b2,b3⟩:=R5 l E1 E' h;refine ⟨b1.trans a1,b2.trans a2,fun n f hf=>?_⟩;rcases b3 n f hf with h | h
   ·exact a3 n f h
   ·rw [yw a1] at h;exact .inr h
theorem Lb {l:List Dt} {ds:List Df} {E1 E2:Env} (h1:lB il l = .ok E1) (h2:fG ds E1 = .ok E2) (ps:List ByteArray):lq (eA E2 ps)∧dy (eA E2 ps) iR 0=false:=by
 obtain ⟨a1,a2,a3⟩:=R4 h1;obtain ⟨b1,b2,b3⟩:=R5 ds E1 E2 h2;refine ⟨⟨fun n x hx=>?_,fun n f hf=>?_⟩,?_⟩
 ·have hx:aG E2.cons n=some x:=hx;rw [b2] at hx;obtain ⟨c1,c2⟩:=a1 n x hx;refine ⟨?_,fun f hf=>?_⟩
  ·show ∃ d,aG E2.aH x.1.name=some d∧_;rw [b1];exact c1
  ·rw [yw (E:=eA E2 ps) (E':=E1) b1];exact c2 f hf
 ·have hf:aG E2.ak n=some f:=hf;rw [yw (E:=eA E2 ps) (E':=E1) b1];rcases b3 n f hf with h | h
  ·rw [a3] at h;cases h
  ·exact h
 ·show dy (eA E2 ps) iR 0=false;unfold dy at *;have:(eA E2 ps).aH=E1.aH:=b1;rw [this];exact a2
end
section
open Go Go.W
theorem aer (e:Ex):∀ {w:World} {B:Nat→Prop} {cs:List Value},bE w B cs e→a8 Tryz.prog 56 [.agg cs.toArray] w fun r w'=>r=I e.size∧Mod (fun _=>False) w w':=by
 induction e using Ex.ind with
 | h e fN oL pf=>
 intro w B cs h;obtain ⟨vt,va,vb,vl,rfl,ht,ha,hb,hl⟩:=h.parts;obtain ⟨aa,ca,rfl⟩:=a7 ha;obtain ⟨ab,cb,rfl⟩:=a7 hb;obtain ⟨al,cl,rfl⟩:=a7 hl;refine Zv.calls rfl ?_;unfold Is;(try simp only [go_sem,simprocAttr]);refine bD rfl ?_;intro w1 ar aj _;(try simp only [go_sem,simprocAttr,cell_of ar,Value.cells]);refine aI (by rfl) ?_;refine (Ph (ht.mod aj aC (fun _ _ h=>h.mod aj aC))).mono ?_;rintro _ w2 ⟨rfl,ai⟩;(try simp only [go_sem,simprocAttr,cell_of (ai.at ar _root_.id),Value.cells]);refine mO (PP:=fun w=>bE w B) (l:=e.args) (B:=B) (fun k ρ w'=>Mod (fun _=>False) w1 w'∧k≤e.args.length∧∃ n,e.size=tW e.alts (vy e.binds (xE (e.args.drop k) n))∧ρ=[(1,ptr w.heap.size),(3,I n),(15,.slice aa e.args.length ca),(16,I e.args.length),(17,I k)])
  ⟨ai,by omega,_,e.size_eq,rfl⟩ ha ?_ (fun _ _ _ h=>h.one) rfl ?_ ?_
 ·rintro k _ w2 ⟨ai,hk,n,he,rfl⟩;have hm:=aj.trans ai;exact ⟨⟨ha.mod hm aC (fun _ _ h=>h.mod hm aC),hk⟩,rfl,rfl,rfl⟩
 ·rintro k _ w2 hk w3 r b pv ⟨ai,_,n,he,rfl⟩ hr bT aM aq _;(try simp only [go_sem,simprocAttr,az aM bT]);refine aI (by rfl) ?_;refine (fN _ (List.getElem_mem hk) (hr.mod aq aC)).mono ?_;rintro _ w4 ⟨rfl,aA⟩;(try simp only [go_sem,simprocAttr]);exact ⟨ai.trans (aq.trans aA),hk,_,he.trans (by rw [XZ n hk]),rfl⟩
 rintro _ w3 ⟨aq,_,n,he,rfl⟩;rw [List.drop_length] at he;(try simp only [go_sem,simprocAttr,cell_of (aq.at ar _root_.id),Value.cells]);refine mO (PP:=fun w=>ff w B) (l:=e.binds) (B:=B) (fun k ρ w'=>Mod (fun _=>False) w1 w'∧k≤e.binds.length∧∃ n,e.size=tW e.alts (vy (e.binds.drop k) n)∧ρ=[(1,ptr w.heap.size),(3,I n),(27,.slice ab e.binds.length cb),(28,I e.binds.length),(29,I k)])
  ⟨aq,by omega,_,he,rfl⟩ hb ?_ (fun _ _ _ h=>h.one) rfl ?_ ?_
 ·rintro k _ w2 ⟨ai,hk,n,he,rfl⟩;have hm:=aj.trans ai;exact ⟨⟨hb.mod hm aC (fun _ _ h=>h.mod hm aC),hk⟩,rfl,rfl,rfl⟩
 ·rintro k _ w2 hk w3 r b pv ⟨ai,_,n,he,rfl⟩ hr bT aM aq _;obtain ⟨tc,ec,rfl,fT,eW,_⟩:=hr;have l1:=fT.len;have l2:=eW.len;have k1:=iN (off:=1) (n:=3) aM (by simp;omega);have k2:=iN (off:=4) (n:=7) aM (by simp;omega);rw [List.drop_succ_cons,List.drop_zero,List.take_left' l1] at k1;rw [List.drop_succ_cons,List.drop_left' l1,List.take_of_length_le (by omega)] at k2;(try simp only [go_sem,simprocAttr,b9,k1,k2]);refine aI (by rfl) ?_;refine (zG _ (fT.mod aq.drew aC)).mono ?_;rintro _ w4 ⟨rfl,aA⟩;(try simp only [go_sem,simprocAttr]);refine ⟨aA.bN _ (cO aM) _root_.id,?_⟩;refine aI (by rfl) ?_;refine (oL _ (List.getElem_mem hk) (eW.mod (aq.drew.trans aA) aC)).mono ?_;rintro _ w5 ⟨rfl,aD⟩;(try simp only [go_sem,simprocAttr]);exact ⟨ai.trans (aq.drew.trans (aA.trans aD)),hk,_,he.trans (by rw [X0 n hk]),rfl⟩
 rintro _ w4 ⟨aA,_,n,he,rfl⟩;rw [List.drop_length] at he;(try simp only [go_sem,simprocAttr,cell_of (aA.at ar _root_.id),Value.cells]);refine mO (PP:=fun w=>iO w B) (l:=e.alts) (B:=B) (fun k ρ w'=>Mod (fun _=>False) w1 w'∧k≤e.alts.length∧∃ n,e.size=tW (e.alts.drop k) n∧ρ=[(3,I n),(45,.slice al e.alts.length cl),(46,I e.alts.length),(47,I k)])
  ⟨aA,by omega,_,he,rfl⟩ hl ?_ (fun _ _ _ h=>h.one) rfl ?_ ?_
 ·rintro k _ w2 ⟨ai,hk,n,he,rfl⟩;have hm:=aj.trans ai;exact ⟨⟨hl.mod hm aC (fun _ _ h=>h.mod hm aC),hk⟩,rfl,rfl,rfl⟩
 ·rintro k _ w2 hk w3 r b pv ⟨ai,_,n,he,rfl⟩ hr bT aM aq _;obtain ⟨vv,ec,rfl,R6,eW⟩:=hr;obtain ⟨av,cv,rfl⟩:=a7 R6;have l2:=eW.len;have k2:=iN (off:=4) (n:=7) aM (by simp;omega);simp only [List.drop_succ_cons,List.drop_zero] at k2;rw [List.take_of_length_le (by omega)] at k2;(try simp only [go_sem,simprocAttr,b9,cell_of aM,k2]);refine aI (by rfl) ?_;refine (pf _ (List.getElem_mem hk) (eW.mod aq.drew aC)).mono ?_;rintro _ w5 ⟨rfl,aD⟩;(try simp only [go_sem,simprocAttr]);exact ⟨aD.bN _ (cO aM) _root_.id,ai.trans (aq.drew.trans aD),hk,_,he.trans (by rw [X1 n hk]),rfl⟩
 ·rintro _ w2 ⟨ai,_,n,he,rfl⟩;(try simp only [go_sem,simprocAttr]);rw [he,List.drop_length];exact ⟨rfl,aj.trans ai⟩
theorem aes (e:Ex):∀ {w:World} {B:Nat→Prop} {cs:List Value},bE w B cs e→a8 Tryz.prog 40 [.agg cs.toArray] w fun r w'=>r=I e.deep∧Mod (fun _=>False) w w':=by
 induction e using Ex.ind with
 | h e fN oL pf=>
 intro w B cs h;obtain ⟨vt,va,vb,vl,rfl,ht,ha,hb,hl⟩:=h.parts;obtain ⟨aa,ca,rfl⟩:=a7 ha;obtain ⟨ab,cb,rfl⟩:=a7 hb;obtain ⟨al,cl,rfl⟩:=a7 hl;refine Y5.calls rfl ?_;unfold Ia;(try simp only [go_sem,simprocAttr]);refine bD rfl ?_;intro w1 ar aj _;(try simp only [go_sem,simprocAttr,cell_of ar,Value.cells]);refine mO (PP:=fun w=>bE w B) (l:=e.args) (B:=B) (fun k ρ w'=>Mod (fun _=>False) w1 w'∧k≤e.args.length∧∃ n,e.deep=Wr (tX e.alts (vz e.binds (xF (e.args.drop k) n))+1)∧ρ=[(1,ptr w.heap.size),(3,I n),(11,.slice aa e.args.length ca),(12,I e.args.length),(13,I k)])
  ⟨.refl _ _,by omega,_,e.XX,rfl⟩ ha ?_ (fun _ _ _ h=>h.one) rfl ?_ ?_
 ·rintro k _ w2 ⟨ai,hk,n,he,rfl⟩;have hm:=aj.trans ai;exact ⟨⟨ha.mod hm aC (fun _ _ h=>h.mod hm aC),hk⟩,rfl,rfl,rfl⟩
 ·rintro k _ w2 hk w3 r b pv ⟨ai,_,n,he,rfl⟩ hr bT aM aq _;(try simp only [go_sem,simprocAttr,az aM bT]);refine aI (by rfl) ?_;refine (fN _ (List.getElem_mem hk) (hr.mod aq aC)).mono ?_;rintro _ w4 ⟨rfl,aA⟩;(try simp only [go_sem,simprocAttr]);exact ⟨ai.trans (aq.trans aA),hk,_,he.trans (by rw [X2 n hk]),rfl⟩
 rintro _ w3 ⟨aq,_,n,he,rfl⟩;rw [List.drop_length] at he;(try simp only [go_sem,simprocAttr,cell_of (aq.at ar _root_.id),Value.cells]);refine mO (PP:=fun w=>ff w B) (l:=e.binds) (B:=B) (fun k ρ w'=>Mod (fun _=>False) w1 w'∧k≤e.binds.length∧∃ n,e.deep=Wr (tX e.alts (vz (e.binds.drop k) n)+1)∧ρ=[(1,ptr w.heap.size),(3,I n),(23,.slice ab e.binds.length cb),(24,I e.binds.length),(25,I k)])
  ⟨aq,by omega,_,he,rfl⟩ hb ?_ (fun _ _ _ h=>h.one) rfl ?_ ?_
 ·rintro k _ w2 ⟨ai,hk,n,he,rfl⟩;have hm:=aj.trans ai;exact ⟨⟨hb.mod hm aC (fun _ _ h=>h.mod hm aC),hk⟩,rfl,rfl,rfl⟩
 ·rintro k _ w2 hk w3 r b pv ⟨ai,_,n,he,rfl⟩ hr bT aM aq _;obtain ⟨tc,ec,rfl,fT,eW,_⟩:=hr;have l1:=fT.len;have l2:=eW.len;have k2:=iN (off:=4) (n:=7) aM (by simp;omega);rw [List.drop_succ_cons,List.drop_left' l1,List.take_of_length_le (by omega)] at k2;(try simp only [go_sem,simprocAttr,k2]);refine aI (by rfl) ?_;refine (oL _ (List.getElem_mem hk) (eW.mod aq aC)).mono ?_;rintro _ w5 ⟨rfl,aD⟩;(try simp only [go_sem,simprocAttr]);exact ⟨ai.trans (aq.trans aD),hk,_,he.trans (by rw [X3 n hk]),rfl⟩
 rintro _ w4 ⟨aA,_,n,he,rfl⟩;rw [List.drop_length] at he;(try simp only [go_sem,simprocAttr,cell_of (aA.at ar _root_.id),Value.cells]);refine mO (PP:=fun w=>iO w B) (l:=e.alts) (B:=B) (fun k ρ w'=>Mod (fun _=>False) w1 w'∧k≤e.alts.length∧∃ n,e.deep=Wr (tX (e.alts.drop k) n+1)∧ρ=[(3,I n),(36,.slice al e.alts.length cl),(37,I e.alts.length),(38,I k)])
  ⟨aA,by omega,_,he,rfl⟩ hl ?_ (fun _ _ _ h=>h.one) rfl ?_ ?_
 ·rintro k _ w2 ⟨ai,hk,n,he,rfl⟩;have hm:=aj.trans ai;exact ⟨⟨hl.mod hm aC (fun _ _ h=>h.mod hm aC),hk⟩,rfl,rfl,rfl⟩
 ·rintro k _ w2 hk w3 r b pv ⟨ai,_,n,he,rfl⟩ hr bT aM aq _;obtain ⟨vv,ec,rfl,R6,eW⟩:=hr;have l2:=eW.len;have k2:=iN (off:=4) (n:=7) aM (by simp;omega);simp only [List.drop_succ_cons,List.drop_zero] at k2;rw [List.take_of_length_le (by omega)] at k2;(try simp only [go_sem,simprocAttr,k2]);refine aI (by rfl) ?_;refine (pf _ (List.getElem_mem hk) (eW.mod aq aC)).mono ?_;rintro _ w5 ⟨rfl,aD⟩;(try simp only [go_sem,simprocAttr]);exact ⟨ai.trans (aq.trans aD),hk,_,he.trans (by rw [X4 n hk]),rfl⟩
 ·rintro _ w2 ⟨ai,_,n,he,rfl⟩;(try simp only [go_sem,simprocAttr]);rw [he,List.drop_length];exact ⟨rfl,aj.trans ai⟩
theorem aet (p:Pg) {w:World} {B:Nat→Prop} {cs:List Value} (h:jR w B cs p):a8 Tryz.prog 39 [.agg cs.toArray] w fun r w'=>r=I p.size∧Mod (fun _=>False) w w':=by
 obtain ⟨vd,vf,rfl,hd,hf⟩:=h;obtain ⟨ad,cd,rfl⟩:=a7 hd;obtain ⟨af,cf,rfl⟩:=a7 hf;refine Y1.calls rfl ?_;unfold H';(try simp only [go_sem,simprocAttr]);refine bD rfl ?_;intro w1 ar aj _;(try simp only [go_sem,simprocAttr,cell_of ar,Value.cells]);refine mO (PP:=fun w=>gC w B) (l:=p.aH) (B:=B) (fun k ρ w'=>Mod (fun _=>False) w1 w'∧k≤p.aH.length∧∃ n,p.size=vA p.ak (xH (p.aH.drop k) n)∧ρ=[(1,ptr w.heap.size),(3,I n),(11,.slice ad p.aH.length cd),(12,I p.aH.length),(13,I k)])
  ⟨.refl _ _,by omega,_,rfl,rfl⟩ hd ?_ (fun _ _ _ h=>h.one) rfl ?_ ?_
 ·rintro k _ w2 ⟨ai,hk,n,he,rfl⟩;have hm:=aj.trans ai;exact ⟨⟨hd.mod hm aC (fun _ _ h=>h.mod hm aC),hk⟩,rfl,rfl,rfl⟩
 ·rintro k _ w2 hk w3 r b pv ⟨ai,_,n,he,rfl⟩ hr bT aM aq _;obtain ⟨vp,vc,rfl,hp,hc⟩:=hr;obtain ⟨ac,cc,rfl⟩:=a7 hc;(try simp only [go_sem,simprocAttr,cell_of aM]);rw [X6 n hk] at he;refine mO (PP:=fun w=>eL w B) (l:=p.aH[k].cons) (B:=B) (fun j ρ w'=>Mod (fun _=>False) w1 w'∧Mod (fun _=>False) w3 w'∧j≤p.aH[k].cons.length∧∃ n,p.size=vA p.ak (xH (p.aH.drop (k+1)) (xG (p.aH[k].cons.drop j) n))∧ρ=[(1,ptr w.heap.size),(3,I n),(11,.slice ad p.aH.length cd),(12,I p.aH.length),(13,I k),(20,.slice ac p.aH[k].cons.length cc),(21,I p.aH[k].cons.length),(22,I j)])
   ⟨ai.trans aq,.refl _ _,by omega,_,he,rfl⟩ hc ?_ (fun _ _ _ h=>h.one) rfl ?_ ?_
  ·rintro j _ w2 ⟨aA,aD,hj,n,he,rfl⟩;have hm:=aq.trans aD;exact ⟨⟨hc.mod hm aC (fun _ _ h=>h.mod hm aC),hj⟩,rfl,rfl,rfl⟩
  ·rintro j _ w4 hj w5 r b pv ⟨aA,aD,_,n,he,rfl⟩ hr bT aM aJ _;obtain ⟨vf,rfl,hf,_⟩:=hr;(try simp only [go_sem,simprocAttr,cell_of aM]);refine aI (by rfl) ?_;refine (Ph (hf.mod aJ aC (fun _ _ h=>h.mod aJ aC))).mono ?_;rintro _ w7 ⟨rfl,aN⟩;(try simp only [go_sem,simprocAttr]);exact ⟨aA.trans (aJ.trans aN),aD.trans (aJ.trans aN),hj,_,he.trans (by rw [X5 n hj]),rfl⟩
  rintro _ w4 ⟨aA,aD,_,n,he,rfl⟩;rw [List.drop_length] at he;(try simp only [go_sem,simprocAttr]);exact ⟨aA,hk,n,he,rfl⟩
 rintro _ w4 ⟨aA,_,n,he,rfl⟩;rw [List.drop_length] at he;(try simp only [go_sem,simprocAttr,cell_of (aA.at ar _root_.id),Value.cells]);refine mO (PP:=fun w=>ic w B) (l:=p.ak) (B:=B) (fun k ρ w'=>Mod (fun _=>False) w1 w'∧k≤p.ak.length∧∃ n,p.size=vA (p.ak.drop k) n∧ρ=[(3,I n),(35,.slice af p.ak.length cf),(36,I p.ak.length),(37,I k)])
  ⟨aA,by omega,_,he,rfl⟩ hf ?_ (fun _ _ _ h=>h.one) rfl ?_ ?_
 ·rintro k _ w2 ⟨ai,hk,n,he,rfl⟩;have hm:=aj.trans ai;exact ⟨⟨hf.mod hm aC (fun _ _ h=>h.mod hm aC),hk⟩,rfl,rfl,rfl⟩
 ·rintro k _ w2 hk w3 r b pv ⟨ai,_,n,he,rfl⟩ hr bT aM aq _;obtain ⟨vp,tc,ec,rfl,l1,l2,hp,fT,eW,_⟩:=hr;have k1:=iN (off:=2) (n:=3) aM (by simp;omega);have k2:=iN (off:=5) (n:=7) aM (by simp;omega);simp only [List.drop_succ_cons,List.drop_zero] at k1 k2;rw [List.take_left' l1] at k1;rw [List.drop_left' l1,List.take_of_length_le (by omega)] at k2;(try simp only [go_sem,simprocAttr,k1,k2]);refine aI (by rfl) ?_;refine (zG _ (fT.mod aq.drew aC)).mono ?_;rintro _ w4 ⟨rfl,aA⟩;(try simp only [go_sem,simprocAttr]);refine ⟨aA.bN _ (cO aM) _root_.id,?_⟩;refine aI (by rfl) ?_;refine (aer _ (eW.mod (aq.drew.trans aA) aC)).mono ?_;rintro _ w5 ⟨rfl,aD⟩;(try simp only [go_sem,simprocAttr]);exact ⟨ai.trans (aq.drew.trans (aA.trans aD)),hk,_,he.trans (by rw [X7 n hk]),rfl⟩
 ·rintro _ w2 ⟨ai,_,n,he,rfl⟩;(try simp only [go_sem,simprocAttr]);rw [he,List.drop_length];exact ⟨rfl,aj.trans ai⟩
end
section
open Go Go.W
noncomputable def kg (p:Pg):Except Int Env:=
 if p.size > 100000 then .error 4
 else if p.ak.any (fun d=>decide (d.body.deep > 4000))=true then .error 3
 else match lB il p.aH with
  | .error e=>.error e
  | .ok E1=>match fG p.ak E1 with
   | .error e=>.error e
   | .ok E2=>if (ke E2 p.ak != 0)=true then .error (ke E2 p.ak) else .ok E2
theorem R7 {α:Type} {l:List α} {p:α→Bool} {i:Nat} (hi:i < l.length):(l.drop i).any p=(p l[i]||(l.drop (i+1)).any p):=by rw [List.drop_eq_getElem_cons hi,List.any_cons]
def aeu (w1 w':World) (c:Nat) (E:Env):Prop:=∃ md mc mf S,fu w' S c md mc mf E∧∀ b,S b→w1.heap.size≤b
def R8 (w w':World) (r:Value) (x:Except Int Env):Prop:=match x with
 | .error e=>r = .tuple #[.pointer none,I e]∧e≠0
 | .ok E=>∃ c,r = .tuple #[ptr c,I 0]∧aeu w w' c E
theorem bP.aev {w w':World} {S:Nat→Prop} {M:Ms} {E:Env} {bd:bM} {lc:Loc} {ps:bM} (h:bP w S M E bd lc) (hm:Mod (· = M.mp) w w') (h1:cE w' M.mp RI ps):bP w' S M { E with params:=ps} bd lc:=by
 obtain ⟨⟨a1,a2,a3,a4,a5,a6⟩,⟨b1,b2,b3,b4,b5⟩,⟨c1,c2,c3,c4⟩,⟨d1,d2,d3⟩,⟨e1,e2⟩,f1⟩:=Ms.ne h.nodup;have hS:∀ b,b=M.mp→S b:=fun b hb=>by rw [hb];exact h.bt _ (by simp [Ms.list])
 have bB:Mod S w w':=hm.aU hS
 exact ⟨hm.at h.box a4,h.nodup,h.bt,fun b hb=>Nat.lt_of_lt_of_le (h.lt b hb) hm.size,
  h.aH.mod hm b3 (fun _ _ x=>x.up bB aK (aX bB)),h.cons.mod hm c2 (fun _ _ x=>x.up bB aK (aX bB)),
  h.ak.mod hm d1 (fun _ _ x=>x.up bB aK (aX bB)),h1,h.gF.mod hm (fun e=>e1 e.symm) (fun _ _ x=>x),h.locals.mod hm (fun e=>e2 e.symm) (fun _ _ x=>x.up bB aK (aX bB))⟩
theorem aew (p:Pg) {w:World} {cs:List Value} (h:jR w (Out (fun _=>False) w) cs p) :
   a8 Tryz.prog 31 [.agg cs.toArray] w fun r w'=>R8 w w' r (kg p)∧Mod (fun _=>False) w w':=by
 obtain ⟨vd,vf,rfl,hd,hf⟩:=h;obtain ⟨ad,cd,rfl⟩:=a7 hd;obtain ⟨af,cf,rfl⟩:=a7 hf;have kJ:=dB hf;refine YQ.calls rfl ?_;unfold H2;(try simp only [go_sem,simprocAttr]);refine bD rfl ?_;intro w1 ar aj bC;have z1:=aj.size;have lists:∀ {w':World} {S:Nat→Prop},Mod (fun _=>False) w1 w'→(∀ b,S b→w1.heap.size≤b)→aT w' (.slice ad p.aH.length cd) 3 (Out S w') (gC w' (Out S w')) p.aH∧aT w' (.slice af p.ak.length cf) 12 (Out S w') (ic w' (Out S w')) p.ak:=fun hm hs=>by
  have fP:=aj.trans hm;have ho:∀ b,Out (fun _=>False) w b→Out _ _ b:=fun b hb=>⟨Nat.lt_of_lt_of_le hb.1 fP.size,fun hh=>by have:=hs b hh;have:=hb.1;omega⟩
  exact ⟨hd.up fP aC ho (fun _ _ h=>h.up fP aC ho),hf.up fP aC ho (fun _ _ h=>h.up fP aC ho)⟩
 have R9:∀ b:Nat,(fun _=>False:Nat→Prop) b→w1.heap.size≤b:=fun _ h=>h.elim
 have fin:∀ {w':World} {e:Int},Mod (fun _=>False) w1 w'→e≠0→kg p = .error e→R8 w w' (.tuple #[.pointer none,I e]) (kg p)∧Mod (fun _=>False) w w':=fun hm bo he=>by
  rw [he];exact ⟨⟨rfl,bo⟩,aj.trans hm⟩
 have hX:kg p=if p.size > 100000 then .error 4
  else if p.ak.any (fun d=>decide (d.body.deep > 4000))=true then .error 3
  else match lB il p.aH with
   | .error e=>.error e
   | .ok E1=>match fG p.ak E1 with
    | .error e=>.error e
    | .ok E2=>if (ke E2 p.ak != 0)=true then .error (ke E2 p.ak) else .ok E2:=rfl
 have kd:∀ {w':World},Mod (fun _=>False) w1 w'→w'.cell? ⟨w.heap.size,0,none⟩=some (.slice ad p.aH.length cd)∧w'.cell? ⟨w.heap.size,1,none⟩=some (.slice af p.ak.length cf):=fun hm=>by
  constructor<;>(rw [cell_of (hm.at ar _root_.id)];rfl)
 (try simp only [go_sem,simprocAttr,az (n:=2) ar rfl]);refine aI (by rfl) ?_;obtain ⟨l1,l2⟩:=lists (Mod.refl _ w1) R9;refine (aet p ⟨_,_,rfl,l1,l2⟩).mono ?_;rintro _ w2 ⟨rfl,ai⟩;by_cases cZ:p.size > 100000
 ·rw [if_pos cZ] at hX;have Bi:decide (p.size > 100000)=true:=by simpa using cZ
  (try simp only [go_sem,simprocAttr,Bi,aE,RV.ev,aF]);exact fin ai (by decide) hX
 rw [if_neg cZ] at hX;have Bi:decide (p.size > 100000)=false:=by simpa using cZ
 obtain ⟨q0,q1⟩:=kd ai;(try simp only [go_sem,simprocAttr,Bi,q1]);refine fe p.ak.length (fun k ρ w'=>k≤p.ak.length∧Mod (fun _=>False) w1 w'∧((p.ak.drop k).any (fun d=>decide (d.body.deep > 4000)))=p.ak.any (fun d=>decide (d.body.deep > 4000))∧ρ=[(1,ptr w.heap.size),(22,.slice af p.ak.length cf),(23,I p.ak.length),(24,I k)])
  ⟨by omega,ai,rfl,rfl⟩ kJ ?_ ?_ (by decide) ?_
 ·rintro k _ w3 ⟨hk,_,_,rfl⟩;exact ⟨rfl,rfl,hk⟩
 ·rintro k _ w3 ⟨_,aq,tg,rfl⟩ hk;rw [R7 hk] at tg;obtain ⟨_,l2⟩:=lists aq R9;obtain ⟨uD,c3,rr,e,hr,th,bU,_⟩:=eh l2 hk;obtain ⟨rfl,-,-⟩:=bY e;have bk:(0:Int)≤k∧(k:Int) < p.ak.length:=by omega
  have gD:=hr.one;obtain ⟨vp,tc,bc,rfl,bT,kC,gq,bw,gm,_⟩:=hr;(try simp only [go_sem,simprocAttr,bq,br,bk,bU]);refine dp (n:=12) (vs:=.string p.ak[k].name::vp::(tc++bc)) rfl th gD ?_;intro w4 bG aA eG;have k5:=iN (off:=5) (n:=7) bG (by simp [Value.cells,bT,kC]);have e5:((Value.string p.ak[k].name::vp::(tc++bc)).drop 5).take 7=bc:=by
   match tc,bT with
   | [a,b,c],_=>simp [List.take_of_length_le (Nat.le_of_eq kC)]
  rw [e5] at k5;(try simp only [go_sem,simprocAttr,k5]);refine aI (by rfl) ?_;refine (aes p.ak[k].body (gm.aB (an aA))).mono ?_;rintro _ w5 ⟨rfl,aD⟩;have tj:=aq.trans (aA.trans aD);cases sY:decide (p.ak[k].body.deep > 4000) with
  | true=>
   rw [sY,Bool.true_or] at tg;rw [if_pos tg.symm] at hX;(try simp only [go_sem,simprocAttr,sY,aE,RV.ev,aF]);exact fin tj (by decide) hX
  | false=>
   rw [sY,Bool.false_or] at tg;(try simp only [go_sem,simprocAttr,sY]);exact ⟨hk,tj,tg⟩
 rintro _ w3 ⟨_,aq,tg,rfl⟩;rw [List.drop_length] at tg;have tg:false=_:=tg;rw [if_neg (by rw [← tg];simp)] at hX;(try simp only [go_sem,simprocAttr]);refine aI (by rfl) ?_;refine adV.mono ?_;rintro _ w4 ⟨⟨c,md,mc,mf,S0,rfl,Sa,hS0⟩,aA⟩;have mu:=aq.trans aA;have z13:=aq.size;have Lc:∀ b,S0 b→w1.heap.size≤b:=fun b hb=>by have:=hS0 b hb;omega
 obtain ⟨q0,q1⟩:=kd mu;obtain ⟨l1,l2⟩:=lists mu Lc;(try simp only [go_sem,simprocAttr,q0]);refine aI (by rfl) ?_;refine (aeh Sa l1).mono ?_;rintro r5 w5 ⟨oM,aD⟩;have nd:∀ b∈[c,md,mc,mf],w1.heap.size≤b:=fun b hb=>Lc b (Sa.bt b hb)
 have n1:=nd c (by simp);have n2:=nd md (by simp);have n3:=nd mc (by simp);have n4:=nd mf (by simp);have tj:Mod (fun _=>False) w1 w5:=mu.step aD (fun b hb hl=>by rcases hb with h | h | h<;>omega);cases uo:lB il p.aH with
 | error e=>
  rw [uo] at oM hX;obtain ⟨rfl,bo⟩:=oM;have gR:(e != 0)=true:=by simpa using bo
  (try simp only [go_sem,simprocAttr,gR,aE,RV.ev,aF]);exact fin tj bo hX
 | ok E1=>
  rw [uo] at oM hX;obtain ⟨rfl,S1,K1,EP,JP⟩:=oM;have z14:=mu.size;have aex:∀ b,S1 b→w1.heap.size≤b:=fun b hb=>by
   rcases JP b hb with h | h
   ·exact Lc b h
   ·omega
  obtain ⟨q0,q1⟩:=kd tj;have hX:kg p=match fG p.ak E1 with
      | .error e=>.error e
      | .ok E2=>if (ke E2 p.ak != 0)=true then .error (ke E2 p.ak) else .ok E2:=hX
  (try simp only [go_sem,simprocAttr,q1]);refine fe p.ak.length (fun k ρ w'=>k≤p.ak.length∧Mod (fun _=>False) w1 w'∧(∃ S Ek,fu w' S c md mc mf Ek∧(∀ b,S b→w1.heap.size≤b)∧fG (p.ak.drop k) Ek=fG p.ak E1)∧ρ=[(1,ptr w.heap.size),(6,ptr c),(42,.slice af p.ak.length cf),(43,I p.ak.length),(44,I k)])
   ⟨by omega,tj,⟨S1,E1,K1,aex,rfl⟩,rfl⟩ kJ ?_ ?_ (by decide) ?_
  ·rintro k _ w6 ⟨hk,_,_,rfl⟩;exact ⟨rfl,rfl,hk⟩
  ·rintro k _ w6 ⟨_,aJ,⟨S,Ek,bh,hS,qk⟩,rfl⟩ hk;rw [ad6 hk] at qk;obtain ⟨_,l6⟩:=lists aJ hS;obtain ⟨uD,c6,rr,e6,hr,th,bU,_⟩:=eh l6 hk;obtain ⟨rfl,-,-⟩:=bY e6;have bk:(0:Int)≤k∧(k:Int) < p.ak.length:=by omega
   have gD:=hr.one;obtain ⟨vp,tc,bc,rfl,bT,kC,gq,bw,gm,jw⟩:=hr;obtain ⟨app,mn,rfl⟩:=a7 gq;have KX:=dB gq;(try simp only [go_sem,simprocAttr,bq,br,bk,bU]);refine dp (n:=12) (vs:=.string p.ak[k].name :: .slice app p.ak[k].params.length mn::(tc++bc)) rfl th gD ?_;intro w7 dL aN jX;have z67:=aN.size;(try simp only [go_sem,simprocAttr]);refine aI (by rfl) ?_;refine (KL (ps:=[]) (bh.aB aN) (ej _ _ _ _)).mono ?_;rintro _ w8 ⟨⟨M,rfl,rfl,rfl,rfl,sS,lp,lb,ll⟩,bg⟩;have na:Mod (· = M.c) w6 w8:=(an aN).trans bg;have Sd:Mod (fun _=>False) w1 w8:=aJ.step na (fun b hb hl=>by have:=nd M.c (by simp);omega);have aey:=bg.at dL (show ¬ w6.heap.size=M.c by have:=bh.lt M.c (bh.bt M.c (by simp));omega);have z16:=aJ.size;have z8:=bg.size;have yv:∀ b,Kn S M b→w1.heap.size≤b:=fun b hb=>by
    rcases hb with h | h | h | h
    ·exact hS b h
    ·omega
    ·omega
    ·omega
   have parts:∀ {w':World},Mod (fun b=>b=M.mp) w8 w'→aT w' (.slice app p.ak[k].params.length mn) 1 (Out (Kn S M) w') gw p.ak[k].params∧aW w' (Out (Kn S M) w') tc p.ak[k].type:=fun hm=>by
    have h1:Mod (Kn S M) w6 _:=(na.aU (fun b hb=>by rw [hb];exact .inl (bh.bt _ (by simp)))).trans (hm.aU (fun b hb=>.inr (.inl hb)));have ga:∀ b,Out S w6 b→¬ Kn S M b:=fun b hb hh=>by
     rcases hh with h | h | h | h
     ·exact hb.2 h
     ·have:=hb.1;omega
     ·have:=hb.1;omega
     ·have:=hb.1;omega
    have ho:∀ b,Out S w6 b→Out (Kn S M) _ b:=fun b hb=>⟨Nat.lt_of_lt_of_le hb.1 h1.size,ga b hb⟩
    exact ⟨gq.up h1 ga ho (fun _ _ h=>h),bw.up h1 ga ho⟩
   have hh:nO Ek p.ak[k]=if ((aG Ek.ak p.ak[k].name).isSome || !jU p.ak[k].name)=true then .error 82
       else if s9 p.ak[k].params []=false then .error 82
       else if fB { Ek with params:=kK p.ak[k].params []} p.ak[k].type=false then .error 83
       else .ok { Ek with ak:=bO Ek.ak p.ak[k].name p.ak[k],params:=kK p.ak[k].params []}:=rfl
   have stop:∀ {e:Int},nO Ek p.ak[k] = .error e→kg p = .error e:=fun he=>by
    rw [he] at qk;rw [hX,← qk]
   have kn:∀ {w':World},Mod (fun b=>b=M.mp) w8 w'→w'.cell? ⟨w6.heap.size,0,none⟩=some (.string p.ak[k].name)∧w'.cell? ⟨w6.heap.size,1,none⟩=some (.slice app p.ak[k].params.length mn)∧w'.heap[w6.heap.size]? = some (.cells (.string p.ak[k].name :: .slice app p.ak[k].params.length mn::(tc++bc)).toArray 49 (0,0)):=fun hm=>by
    have h1:=hm.at aey (show ¬ w6.heap.size=M.mp by omega);refine ⟨?_,?_,h1⟩<;>(rw [cell_of h1];rfl)
   have d8:Mod (fun _=>False) w8 w8.drew:=(Mod.refl _ _).drew;have Se:=sS.aB d8;have Sh:=Sd.trans d8;obtain ⟨CD,kp8,_⟩:=kn (Mod.refl _ w8);(try simp only [go_sem,simprocAttr,cell_of sS.box,CD]);refine BY (R:=sN w8.drew (Out (Kn S M) w8.drew)) (k:=p.ak[k].name) (b:=M.mf) (kt:=9) (et:=122) rfl rfl rfl rfl (Tryz.zeroValue122 _) Se.ak (fun hn=>?_) (fun v y hy hr=>?_)
   rotate_left
   ·have hy:aG Ek.ak p.ak[k].name=some y:=hy;rw [hy,if_pos (by simp)] at hh;obtain ⟨EV,rfl,_⟩:=hr;(try simp only [go_sem,simprocAttr,aE,RV.ev,aF]);exact fin Sh (by decide) (stop hh)
   have hn:aG Ek.ak p.ak[k].name=none:=hn;rw [hn] at hh;(try simp only [go_sem,simprocAttr,CD]);refine aI (by rfl) ?_;refine (Ee p.ak[k].name jw).mono ?_;rintro _ _ ⟨rfl,rfl⟩;cases eT:jU p.ak[k].name with
   | false=>
    rw [eT,if_pos (by rfl)] at hh;(try simp only [go_sem,simprocAttr,aE,RV.ev,aF]);exact fin Sh (by decide) (stop hh)
   | true=>
   rw [eT,if_neg (by simp)] at hh;(try simp only [go_sem,simprocAttr,kp8]);have Au:∀ {w':World},Mod (fun b=>b=M.mp) w8 w'→Mod (fun _=>False) w1 w':=fun hm=>Sd.step hm (fun b hb hl=>by omega)
   refine fe p.ak[k].params.length (fun j ρ w'=>j≤p.ak[k].params.length∧Mod (fun b=>b=M.mp) w8 w'∧(∃ m,bP w' (Kn S M) M { Ek with params:=m} [] []∧s9 (p.ak[k].params.drop j) m=s9 p.ak[k].params []∧kK (p.ak[k].params.drop j) m=kK p.ak[k].params [])∧ρ=[(1,ptr w.heap.size),(6,ptr M.c),(8,I k),(9,ptr w6.heap.size),(42,.slice (some uD) p.ak.length cf),(43,I p.ak.length),(44,I k),(69,.slice app p.ak[k].params.length mn),(70,I p.ak[k].params.length),(71,I j)])
    ⟨by omega,an d8,⟨[],Se,rfl,rfl⟩,rfl⟩ KX ?_ ?_ (by decide) ?_
   ·rintro j _ w9 ⟨hj,_,_,rfl⟩;exact ⟨rfl,rfl,hj⟩
   ·rintro j _ w9 ⟨_,aV,⟨m,pz,ja,nD⟩,rfl⟩ hj;rw [adZ hj] at ja;rw [ad0 hj] at nD;obtain ⟨adp,c9,ep,hnp,kq⟩:=sH (parts aV).1 hj;obtain ⟨rfl,-,-⟩:=bY ep;have bj:(0:Int)≤j∧(j:Int) < p.ak[k].params.length:=by omega
    (try simp only [go_sem,simprocAttr,bq,br,bj,kq]);refine aI (by rfl) ?_;refine (PR p.ak[k].params[j]).mono ?_;rintro _ cT ⟨rfl,bJ⟩;have ql:=pz.aB bJ;have gS:=aV.trans (an bJ);cases hv:qV p.ak[k].params[j] with
    | false=>
     rw [hv,if_pos (by rfl)] at ja;rw [if_pos ja.symm] at hh;(try simp only [go_sem,simprocAttr,aE,RV.ev,aF]);exact fin (Au gS) (by decide) (stop hh)
    | true=>
     rw [hv] at ja;(try simp only [go_sem,simprocAttr,cell_of ql.box]);refine yb ?_;refine vO (k:=p.ak[k].params[j]) (b:=M.mp) (kt:=9) (et:=3) rfl rfl rfl rfl (zI _) ql.params ?_;have iG:decide ((aG m p.ak[k].params[j]).getD 0 > 0)=has m p.ak[k].params[j]:=rfl;cases hs:has m p.ak[k].params[j] with
     | true=>
      rw [hs] at iG;rw [if_pos (by rw [hs];rfl)] at ja;rw [if_pos ja.symm] at hh;(try simp only [go_sem,simprocAttr,iG,aE,RV.ev,aF]);exact fin (Au gS) (by decide) (stop hh)
     | false=>
      rw [hs] at iG;rw [if_neg (by rw [hs];simp)] at ja;(try simp only [go_sem,simprocAttr,iG,cell_of ql.box]);refine mS (R:=RI) (a:=(1:Int)) (k:=p.ak[k].params[j]) (b:=M.mp) (kt:=9) (et:=3) rfl rfl rfl rfl rfl ql.params rfl ?_;intro fD lg dO Cj;(try simp only [go_sem,simprocAttr]);exact ⟨hj,gS.trans dO,_,ql.aev dO lg,ja,nD⟩
   rintro _ w9 ⟨_,aV,⟨m,pz,ja,nD⟩,rfl⟩;rw [List.drop_length,s9] at ja;rw [List.drop_length,kK] at nD;subst nD;rw [if_neg (by rw [← ja];simp)] at hh;obtain ⟨kn9,kp9,aez⟩:=kn aV;have k2:=iN (off:=2) (n:=3) aez (by simp [Value.cells,bT,kC]);have e2:((Value.string p.ak[k].name :: .slice app p.ak[k].params.length mn::(tc++bc)).drop 2).take 3=tc:=by
    simp [List.take_append_of_le_length,bT]
   rw [e2] at k2;(try simp only [go_sem,simprocAttr,k2]);refine aI (by rfl) ?_;refine (B2 p.ak[k].type pz (parts aV).2).mono ?_;rintro _ cT ⟨rfl,bJ⟩;have ql:=pz.aB bJ;have gS:=aV.trans (an bJ);cases fT:fB { Ek with params:=kK p.ak[k].params []} p.ak[k].type with
   | false=>
    rw [fT,if_pos rfl] at hh;(try simp only [go_sem,simprocAttr,aE,RV.ev,aF]);exact fin (Au gS) (by decide) (stop hh)
   | true=>
    rw [fT,if_neg (by simp)] at hh;rw [hh] at qk;obtain ⟨aeA,_,_⟩:=kn gS;obtain ⟨_,rz⟩:=kd (Au gS);obtain ⟨_,l10⟩:=lists (Au gS) yv;obtain ⟨ajV,zW,Si,sW,x9,Qb,aeB⟩:=iJ l10 hk;obtain ⟨e11,-,-⟩:=bY sW;cases e11;have d10:Mod (fun _=>False) cT cT.drew:=(Mod.refl _ _).drew;have Sj:=ql.aB d10;(try simp only [go_sem,simprocAttr,bq,br,cell_of ql.box,aeA,rz,bk]);refine mS (R:=sN cT.drew (Out (Kn S M) cT.drew)) (a:=p.ak[k]) (k:=p.ak[k].name) (b:=M.mf) (kt:=9) (et:=122) rfl rfl rfl rfl rfl Sj.ak ⟨_,rfl,Si,aeB.up (an d10) aK (aX (an d10)),x9.up (an d10) aK (aX (an d10))⟩ ?_;intro fD lg dO Cj;have f10:=Sj.forget;have CE:∀ b,b=M.mf→Kn S M b:=fun b hb=>by rw [hb];exact .inl (bh.bt _ (by simp))
    obtain ⟨⟨a1,a2,a3⟩,⟨b2,b3⟩,c3⟩:=KK f10.nodup;have lg:=cE.mod lg (Mod.refl (fun _=>False) fD) _root_.id (fun v y x=>x.up (dO.aU CE) aK (aX (dO.aU CE)));(try simp only [go_sem,simprocAttr]);refine ⟨hk,((Au gS).trans d10).step dO (fun b hb hl=>by have:=nd M.mf (by simp);omega),Kn S M,_,f10.dz (E':={ Ek with ak:=bO Ek.ak p.ak[k].name p.ak[k],params:=kK p.ak[k].params []}) dO CE (fun e=>a3 e) (f10.E7 dO CE (fun e=>b3 e)) (f10.aZ dO CE (fun e=>c3 e)) lg,yv,qk⟩
  rintro _ w6 ⟨_,aJ,⟨S2,E2,oQ,vI,qk⟩,rfl⟩;rw [List.drop_length,fG] at qk;rw [← qk] at hX;have hX:kg p=if (ke E2 p.ak != 0)=true then .error (ke E2 p.ak) else .ok E2:=hX
  obtain ⟨q0,q1⟩:=kd aJ;(try simp only [go_sem,simprocAttr,q1]);refine fe p.ak.length (fun k ρ w'=>k≤p.ak.length∧Mod (fun _=>False) w1 w'∧(∃ S,fu w' S c md mc mf E2∧(∀ b,S b→w1.heap.size≤b)∧ke E2 (p.ak.drop k)=ke E2 p.ak)∧ρ=[(6,ptr c),(110,.slice af p.ak.length cf),(111,I p.ak.length),(112,I k)])
   ⟨by omega,aJ,⟨S2,oQ,vI,rfl⟩,rfl⟩ kJ ?_ ?_ (by decide) ?_
  ·rintro k _ w7 ⟨hk,_,_,rfl⟩;exact ⟨rfl,rfl,hk⟩
  ·rintro k _ w7 ⟨_,aN,⟨S,bh,hS,dF⟩,rfl⟩ hk;rw [ad7 hk] at dF;obtain ⟨_,l7⟩:=lists aN hS;obtain ⟨uD,c7,rr,e7,hr,th,bU,_⟩:=eh l7 hk;obtain ⟨rfl,-,-⟩:=bY e7;have bk:(0:Int)≤k∧(k:Int) < p.ak.length:=by omega
   have gD:=hr.one;obtain ⟨vp,tc,bc,rfl,bT,kC,gq,bw,gm,jw⟩:=hr;obtain ⟨app,mn,rfl⟩:=a7 gq;(try simp only [go_sem,simprocAttr,bq,br,bk,bU]);refine dp (n:=12) (vs:=.string p.ak[k].name :: .slice app p.ak[k].params.length mn::(tc++bc)) rfl th gD ?_;intro w8 pq bg mR;have kp:w8.cell? ⟨w7.heap.size,1,none⟩=some (.slice app p.ak[k].params.length mn):=by rw [cell_of pq];rfl
   (try simp only [go_sem,simprocAttr,kp]);refine aI (by rfl) ?_;refine (KL (ps:=p.ak[k].params) (bh.aB bg) (gq.up (an bg) aK (aX (an bg)) (fun _ _ h=>h))).mono ?_;rintro _ w9 ⟨⟨M,rfl,rfl,rfl,rfl,pz,lp,lb,ll⟩,aV⟩;have z17:=aN.size;have z8:=bg.size;have z9:=aV.size;have ajW:=bh.lt M.c (bh.bt M.c (by simp));have nP:Mod (· = M.c) w7 w9:=(an bg).trans aV;have yx:Mod (fun _=>False) w1 w9:=aN.step nP (fun b hb hl=>by have:=nd M.c (by simp);omega);have Sk:=aV.at pq (show ¬ w7.heap.size=M.c by omega);have yv:∀ b,Kn S M b→w1.heap.size≤b:=fun b hb=>by
    rcases hb with h | h | h | h
    ·exact hS b h
    ·omega
    ·omega
    ·omega
   have ga:∀ b,Out S w7 b→¬ Kn S M b:=fun b hb hh=>by
    rcases hh with h | h | h | h
    ·exact hb.2 h
    ·have:=hb.1;omega
    ·have:=hb.1;omega
    ·have:=hb.1;omega
   have parts:∀ {w':World},Mod M.two w9 w'→aW w' (Out (Kn S M) w') tc p.ak[k].type∧bE w' (Out (Kn S M) w') bc p.ak[k].body:=fun hm=>by
    have h1:Mod (Kn S M) w7 _:=(nP.aU (fun b hb=>by rw [hb];exact .inl (bh.bt _ (by simp)))).trans (hm.aU (pz.two));have ho:∀ b,Out S w7 b→Out (Kn S M) _ b:=fun b hb=>⟨Nat.lt_of_lt_of_le hb.1 h1.size,ga b hb⟩
    exact ⟨bw.up h1 ga ho,gm.up h1 ga ho⟩
   have k5:=iN (off:=5) (n:=7) Sk (by simp [Value.cells,bT,kC]);have e5:((Value.string p.ak[k].name :: .slice app p.ak[k].params.length mn::(tc++bc)).drop 5).take 7=bc:=by
    match tc,bT with
    | [a,b,c],_=>simp [List.take_of_length_le (Nat.le_of_eq kC)]
   rw [e5] at k5;obtain ⟨hG,hB⟩:=Lb uo qk.symm p.ak[k].params
   have dM:oR E2 p.ak[k]=(match cj (eA E2 p.ak[k].params) p.ak[k].body ([],[]) with
    | .error e=>e
    | .ok y=>if gg y.1 p.ak[k].type=true then 0 else 83):=rfl
   have stop:∀ {e:Int},oR E2 p.ak[k]=e→e≠0→kg p = .error e:=fun he bo=>by
    have h1:(oR E2 p.ak[k] != 0)=true:=by rw [he];simpa using bo
    rw [if_pos h1] at dF;have h2:(ke E2 p.ak != 0)=true:=by rw [← dF];exact h1
    rw [hX,if_pos h2,← dF,he]
   (try simp only [go_sem,simprocAttr,k5]);refine aI (by rfl) ?_;refine (adm hG hB p.ak[k].body (st:=([],[])) pz (fun q h=>by cases h) (parts (Mod.refl _ w9)).2).mono ?_;rintro Si cT ⟨x9,bJ⟩;obtain ⟨cz,u,rfl,bA,bS,cU⟩:=uA x9;have aeC:∀ b,M.two b→w1.heap.size≤b:=fun b hb=>yv b (pz.two b hb)
   (try simp only [go_sem,simprocAttr]);refine dp (n:=3) (vs:=cz) rfl bA bS ?_;intro fD aeD dO Cj;have Av:Mod M.two w9 fD:=bJ.trans (an dO);have Sl:Mod (fun _=>False) w1 fD:=yx.step Av (fun b hb hl=>by have:=aeC b hb;omega);cases bX:cj (eA E2 p.ak[k].params) p.ak[k].body ([],[]) with
   | error e4=>
    rw [bX] at cU dM;obtain ⟨rfl,Ai,_⟩:=cU;have gR:(e4 != 0)=true:=by simpa using Ai
    (try simp only [go_sem,simprocAttr,gR,aE,RV.ev,aF]);exact fin Sl Ai (stop dM Ai)
   | ok y1=>
    obtain ⟨t1,dG⟩:=y1;rw [bX] at cU dM;obtain ⟨rfl,J7,pj⟩:=cU;have Ko:=pj.aB dO
    have aeE:=Av.at Sk (show ¬ M.two w7.heap.size by
     intro h
     rcases h with h | h<;>omega)
    have k2:=iN (off:=2) (n:=3) aeE (by simp [Value.cells,bT,kC]);have e2:((Value.string p.ak[k].name :: .slice app p.ak[k].params.length mn::(tc++bc)).drop 2).take 3=tc:=by
     simp [List.take_append_of_le_length,bT]
    rw [e2] at k2;(try simp only [go_sem,simprocAttr,k2,az (n:=3) aeD bA]);refine aI (by rfl) ?_;refine (Ep t1 (J7.aB (an dO)) (parts Av).1).mono ?_;rintro _ p8 ⟨rfl,fU⟩;have Sn:=Sl.trans fU;cases bz:gg t1 p.ak[k].type with
    | false=>
     have dM:oR E2 p.ak[k]=if gg t1 p.ak[k].type=true then 0 else 83:=dM
     rw [if_neg (by rw [bz];simp)] at dM;(try simp only [go_sem,simprocAttr,aE,RV.ev,aF]);exact fin Sn (by decide) (stop dM (by decide))
    | true=>
     have dM:oR E2 p.ak[k]=if gg t1 p.ak[k].type=true then 0 else 83:=dM
     rw [if_pos bz] at dM;rw [if_neg (by rw [dM];simp)] at dF;(try simp only [go_sem,simprocAttr]);exact ⟨hk,Sn,Kn S M,((Ko.aB fU).forget).eB E2 rfl rfl rfl,yv,dF⟩
  ·rintro _ w7 ⟨_,aN,⟨S,bh,hS,dF⟩,rfl⟩;rw [List.drop_length,ke] at dF;rw [if_neg (by rw [← dF];simp)] at hX;(try simp only [go_sem,simprocAttr,aE,RV.ev,aF]);rw [hX];exact ⟨⟨c,rfl,md,mc,mf,S,bh,fun b hb=>by have:=hS b hb;omega⟩,aj.trans aN⟩
end
section
open Go Go.W
noncomputable def im (p:Pg):Int:=match kg p with | .error e=>e | .ok _=>0
theorem So (p:Pg) {w:World} {cs:List Value} (h:jR w (Out (fun _=>False) w) cs p) :
   a8 Tryz.prog 16 [.agg cs.toArray] w fun r w'=>r=I (im p)∧Mod (fun _=>False) w w':=by
 have h':=h;obtain ⟨vd,vf,rfl,hd,hf⟩:=h;refine Yz.calls rfl ?_;unfold HO;(try simp only [go_sem,simprocAttr]);refine bD rfl ?_;intro w1 ar aj bC;(try simp only [go_sem,simprocAttr,az (n:=2) ar rfl]);refine aI (by rfl) ?_;have ho:∀ b,Out (fun _=>False) w b→Out (fun _=>False) w1 b:=fun b hb=>⟨Nat.lt_of_lt_of_le hb.1 aj.size,hb.2⟩
 refine (aew p (h'.up aj aC ho)).mono ?_;rintro r w2 ⟨hr,ai⟩;have hs:im p=match kg p with | .error e=>e | .ok _=>0:=rfl
 cases hx:kg p with
 | error e=>
  rw [hx] at hr hs;obtain ⟨rfl,_⟩:=hr;(try simp only [go_sem,simprocAttr,aE,RV.ev,aF]);rw [hs];exact ⟨rfl,aj.trans ai⟩
 | ok E=>
  rw [hx] at hr hs;obtain ⟨c,rfl,_⟩:=hr;(try simp only [go_sem,simprocAttr,aE,RV.ev,aF]);rw [hs];exact ⟨rfl,aj.trans ai⟩
end
section
open Go Go.W
theorem Ld (t:Ty):∀ {w:World} {B:Nat→Prop} {cs:List Value} {left deep:Int},aW w B cs t→a8 Tryz.prog 21 [.agg cs.toArray,I left,I deep] w fun r w'=>(∃ n,r=I n)∧Mod (fun _=>False) w w':=by
 induction t using Ty.ind with
 | h t ih=>
 intro w B cs left deep h;obtain ⟨v,rfl,hl⟩:=h.cells;obtain ⟨a,c,rfl⟩:=a7 hl;have hlen:=dB hl;refine YC.calls rfl ?_;unfold HR;(try simp only [go_sem,simprocAttr]);refine bD rfl ?_;intro w1 ar aj bC;(try simp only [go_sem,simprocAttr]);cases h1:decide (deep < 1) with
 | true=>(try simp only [go_sem,simprocAttr,aE,RV.ev,aF]);exact ⟨⟨_,rfl⟩,aj⟩
 | false=>
  (try simp only [go_sem,simprocAttr]);refine fL (fun z ρ w'=>∃ k n,z=t.args.length - k∧k≤t.args.length∧Mod (fun _=>False) w1 w'∧ρ=[(1,I n),(2,I deep),(3,ptr w.heap.size),(7,I k)]) t.args.length ⟨0,_,rfl,by omega,.refl _ _,rfl⟩ ?_;rintro z _ w2 ⟨k,n,rfl,hk,ai,rfl⟩;have au:=ai.at ar _root_.id;have aY:=aj.trans ai;unfold OU;(try simp only [go_sem,simprocAttr,cell_of au,Value.cells]);by_cases aP:k < t.args.length
  ·have b1:decide ((k:Int) < t.args.length)=true:=by simpa using aP
   (try simp only [go_sem,simprocAttr,b1]);cases h2:decide (n≥0) with
   | false=>
    (try simp only [go_sem,simprocAttr,aE,RV.ev,aF]);exact ⟨⟨_,rfl⟩,aY⟩
   | true=>
    obtain ⟨ad,c2,r,e,hr,bT,bU,_⟩:=eh (hl.mod aY aC (fun _ _ h=>h.mod aY aC)) aP;obtain ⟨rfl,-,-⟩:=bY e;have bk:(0:Int)≤k∧(k:Int) < t.args.length:=by omega
    (try simp only [go_sem,simprocAttr,bq,br,cell_of au,Value.cells,bk,bU]);refine aI (by rfl) ?_;refine (ih _ (List.getElem_mem aP) hr).mono ?_;rintro _ w3 ⟨⟨n',rfl⟩,aq⟩;have e1:IntKind.i64.wrap ((k:Int)+1)=((k+1:Nat):Int):=by rw [dv (by omega) (by omega)];omega
    (try simp only [go_sem,simprocAttr,e1]);exact ⟨_,by omega,k+1,n',rfl,aP,ai.trans aq,rfl⟩
  ·have b1:decide ((k:Int) < t.args.length)=false:=by simpa using aP
   (try simp only [go_sem,simprocAttr,b1,aE,RV.ev,aF]);exact ⟨⟨_,rfl⟩,aY⟩
theorem Sp {l:List Ty} {w:World} {B:Nat→Prop} {v:Value} {left deep:Int} (hl:aT w v 3 B (aW w B) l):a8 Tryz.prog 20 [v,I left,I deep] w fun r w'=>(∃ n,r=I n)∧Mod (fun _=>False) w w':=by
 obtain ⟨a,c,rfl⟩:=a7 hl;have hlen:=dB hl;refine YB.calls rfl ?_;unfold HQ;(try simp only [go_sem,simprocAttr]);refine fL (fun z ρ w'=>∃ k n,z=l.length - k∧k≤l.length∧Mod (fun _=>False) w w'∧ρ=[(0,.slice a l.length c),(1,I n),(2,I deep),(7,I k)]) l.length ⟨0,left,rfl,by omega,.refl _ _,rfl⟩ ?_;rintro z _ w2 ⟨k,n,rfl,hk,ai,rfl⟩;unfold OT;(try simp only [go_sem,simprocAttr]);by_cases aP:k < l.length
 ·have b1:decide ((k:Int) < l.length)=true:=by simpa using aP
  (try simp only [go_sem,simprocAttr,b1]);cases h2:decide (n≥0) with
  | false=>
   (try simp only [go_sem,simprocAttr,aE,RV.ev,aF]);exact ⟨⟨_,rfl⟩,ai⟩
  | true=>
   obtain ⟨ad,c2,r,e,hr,bT,bU,_⟩:=eh (hl.mod ai aC (fun _ _ h=>h.mod ai aC)) aP;obtain ⟨rfl,-,-⟩:=bY e;have bk:(0:Int)≤k∧(k:Int) < l.length:=by omega
   (try simp only [go_sem,simprocAttr,bq,br,bk,bU]);refine aI (by rfl) ?_;refine (Ld _ hr).mono ?_;rintro _ w3 ⟨⟨n',rfl⟩,aq⟩;have e1:IntKind.i64.wrap ((k:Int)+1)=((k+1:Nat):Int):=by rw [dv (by omega) (by omega)];omega
   (try simp only [go_sem,simprocAttr,e1]);exact ⟨_,by omega,k+1,n',rfl,aP,ai.trans aq,rfl⟩
 ·have b1:decide ((k:Int) < l.length)=false:=by simpa using aP
  (try simp only [go_sem,simprocAttr,b1,aE,RV.ev,aF]);exact ⟨⟨_,rfl⟩,ai⟩
def Sq (e:Ex):Prop:=∀ {w:World} {B:Nat→Prop} {cs:List Value} {left deep:Int},bE w B cs e→a8 Tryz.prog 22 [.agg cs.toArray,I left,I deep] w fun r w'=>(∃ n,r=I n)∧Mod (fun _=>False) w w'
theorem aeF {l:List Bd} (ih:∀ b∈l,Sq b.value) {w:World} {B:Nat→Prop} {v:Value} {left deep:Int} (hl:aT w v 11 B (ff w B) l):a8 Tryz.prog 32 [v,I left,I deep] w fun r w'=>(∃ n,r=I n)∧Mod (fun _=>False) w w':=by
 obtain ⟨a,c,rfl⟩:=a7 hl;have hlen:=dB hl;refine YR.calls rfl ?_;unfold H3;(try simp only [go_sem,simprocAttr]);refine fL (fun z ρ w'=>∃ k n,z=l.length - k∧k≤l.length∧Mod (fun _=>False) w w'∧ρ=[(0,.slice a l.length c),(1,I n),(2,I deep),(7,I k)]) l.length ⟨0,left,rfl,by omega,.refl _ _,rfl⟩ ?_;rintro z _ w2 ⟨k,n,rfl,hk,ai,rfl⟩;unfold O4;(try simp only [go_sem,simprocAttr]);by_cases aP:k < l.length
 ·have b1:decide ((k:Int) < l.length)=true:=by simpa using aP
  (try simp only [go_sem,simprocAttr,b1]);cases h2:decide (n≥0) with
  | false=>
   (try simp only [go_sem,simprocAttr,aE,RV.ev,aF]);exact ⟨⟨_,rfl⟩,ai⟩
  | true=>
   obtain ⟨ad,c2,r,e,hr,EQ,bH⟩:=iJ (hl.mod ai aC (fun _ _ h=>h.mod ai aC)) aP;obtain ⟨rfl,-,-⟩:=bY e;obtain ⟨tc,ec,rfl,bw,hex,_⟩:=hr;have Ss:=bw.len;have Le:=hex.len;have bk:(0:Int)≤k∧(k:Int) < l.length:=by omega
   have k1:=bH.ln (o:=1) (n:=3) (by omega);have rv:((Value.string l[k].name::(tc++ec)).drop 1).take 3=tc:=by simp [List.take_append_of_le_length,Ss]
   rw [rv] at k1;have e1:IntKind.i64.wrap ((k:Int)+1)=((k+1:Nat):Int):=by rw [dv (by omega) (by omega)];omega
   (try simp only [go_sem,simprocAttr,bq,br,bk,k1]);refine aI (by rfl) ?_;refine (Ld _ bw).mono ?_;rintro _ w3 ⟨⟨n',rfl⟩,aq⟩;(try simp only [go_sem,simprocAttr]);cases h3:decide (n'≥0) with
   | false=>
    (try simp only [go_sem,simprocAttr,e1]);exact ⟨_,by omega,k+1,n',rfl,aP,ai.trans aq,rfl⟩
   | true=>
    have Aw:=bH.up aq aC (fun _ h=>h);have k4:=Aw.ln (o:=4) (n:=7) (by omega);have e4:((Value.string l[k].name::(tc++ec)).drop 4).take 7=ec:=by
     match tc,Ss with
     | [a,b,c],_=>simp [List.take_of_length_le (Nat.le_of_eq Le)]
    rw [e4] at k4;(try simp only [go_sem,simprocAttr,bq,br,bk,k4]);refine aI (by rfl) ?_;refine (ih _ (List.getElem_mem aP) (hex.mod aq aC)).mono ?_;rintro _ w4 ⟨⟨n2,rfl⟩,aA⟩;(try simp only [go_sem,simprocAttr,e1]);exact ⟨_,by omega,k+1,n2,rfl,aP,ai.trans (aq.trans aA),rfl⟩
 ·have b1:decide ((k:Int) < l.length)=false:=by simpa using aP
  (try simp only [go_sem,simprocAttr,b1,aE,RV.ev,aF]);exact ⟨⟨_,rfl⟩,ai⟩
theorem aeG (e:Ex):Sq e:=by
 induction e using Ex.ind with
 | h e fN oL pf=>
 intro w B cs left deep h;obtain ⟨vt,va,vb,vl,rfl,ht,ha,hb,hl⟩:=h.parts;obtain ⟨at',ct,rfl⟩:=a7 ht;obtain ⟨aa,ca,rfl⟩:=a7 ha;obtain ⟨ab,cb,rfl⟩:=a7 hb;obtain ⟨al,cl,rfl⟩:=a7 hl;have ajX:=dB ha;have ajY:=dB hl;refine YD.calls rfl ?_;unfold HS;(try simp only [go_sem,simprocAttr]);refine bD rfl ?_;intro w1 ar aj bC;(try simp only [go_sem,simprocAttr]);cases h1:decide (deep < 1) with
 | true=>(try simp only [go_sem,simprocAttr,aE,RV.ev,aF]);exact ⟨⟨_,rfl⟩,aj⟩
 | false=>
  (try simp only [go_sem,simprocAttr,cell_of ar,Value.cells]);refine aI (by rfl) ?_;refine (Sp (ht.mod aj aC (fun _ _ h=>h.mod aj aC))).mono ?_;rintro _ w2 ⟨⟨n2,rfl⟩,ai⟩;(try simp only [go_sem,simprocAttr]);refine fL (fun z ρ w'=>∃ k n,z=e.args.length - k∧k≤e.args.length∧Mod (fun _=>False) w1 w'∧ρ=[(1,I n),(2,I deep),(3,ptr w.heap.size),(7,I k)]) e.args.length ⟨0,n2,rfl,by omega,ai,rfl⟩ ?_;rintro z _ w3 ⟨k,n,rfl,hk,aq,rfl⟩;have aM:=aq.at ar _root_.id;have bn:=aj.trans aq;unfold OV;(try simp only [go_sem,simprocAttr,cell_of aM,Value.cells]);have rest:∀ (n:Int) (w3:World),Mod (fun _=>False) w1 w3→w3.heap[w.heap.size]? = some (.cells [I e.kind,.string e.name,I e.num,.slice at' e.types.length ct,.slice aa e.args.length ca,.slice ab e.binds.length cb,.slice al e.alts.length cl].toArray 47 (0,0))→True:=fun _ _ _ _=>trivial
  by_cases db:k < e.args.length∧n≥0
  ·obtain ⟨aP,hn⟩:=db;have b1:decide ((k:Int) < e.args.length)=true:=by simpa using aP
   have b2:decide (n≥0)=true:=by simpa using hn
   obtain ⟨ad,c2,r,er,hr,bU⟩:=uu (ha.mod bn aC (fun _ _ h=>h.mod bn aC)) aP;obtain ⟨rfl,-,-⟩:=bY er;have bk:(0:Int)≤k∧(k:Int) < e.args.length:=by omega
   have e1:IntKind.i64.wrap ((k:Int)+1)=((k+1:Nat):Int):=by rw [dv (by omega) (by omega)];omega
   (try simp only [go_sem,simprocAttr,b1]);(try simp only [go_sem,simprocAttr,b2]);(try simp only [go_sem,simprocAttr,bq,br,cell_of aM,Value.cells,bk,bU]);refine aI (by rfl) ?_;refine (fN _ (List.getElem_mem aP) hr).mono ?_;rintro _ w4 ⟨⟨n',rfl⟩,aA⟩;(try simp only [go_sem,simprocAttr,e1]);exact ⟨_,by omega,k+1,n',rfl,aP,aq.trans aA,rfl⟩
  ·have JM:(decide ((k:Int) < e.args.length)&&decide (n≥0))=false:=by
    cases hA:decide ((k:Int) < e.args.length)<;>cases hB:decide (n≥0)<;>first | rfl | (exact absurd ⟨by simpa using hA,by simpa using hB⟩ db)
   refine Bz (fun ρ w'=>w3=w'∧ρ.get 26=some (.bool false)∧ρ.get 1=some (I n)∧ρ.get 2=some (I deep)∧ρ.get 3=some (ptr w.heap.size)∧ρ.get 7=some (I k)) ?_ ?_
   ·cases b1:decide ((k:Int) < e.args.length) with
    | false=>(try simp only [go_sem,simprocAttr])
    | true=>
     rw [b1,Bool.true_and] at JM;(try simp only [go_sem,simprocAttr,JM])
   rintro ρ _ ⟨rfl,Ap,g1,g2,g3,g7⟩;(try simp only [go_sem,simprocAttr,Ap,g1,g2,g3,g7,cell_of aM,Value.cells]);refine aI (by rfl) ?_;refine (aeF (fun b hb=>oL b hb) (hb.mod bn aC (fun _ _ h=>h.mod bn aC))).mono ?_;rintro _ w5 ⟨⟨n5,rfl⟩,aD⟩;(try simp only [go_sem,simprocAttr]);refine fL (fun z ρ w'=>∃ k n,z=e.alts.length - k∧k≤e.alts.length∧Mod (fun _=>False) w1 w'∧ρ=[(1,I n),(2,I deep),(3,ptr w.heap.size),(8,I k)]) e.alts.length ⟨0,n5,rfl,by omega,aq.trans aD,rfl⟩ ?_;rintro z _ w6 ⟨k,n,rfl,hk,aJ,rfl⟩;have ci:=aJ.at ar _root_.id;have lh:=aj.trans aJ;unfold OW;(try simp only [go_sem,simprocAttr,cell_of ci,Value.cells]);by_cases aP:k < e.alts.length
   ·have b1:decide ((k:Int) < e.alts.length)=true:=by simpa using aP
    (try simp only [go_sem,simprocAttr,b1]);cases h2:decide (n≥0) with
    | false=>
     (try simp only [go_sem,simprocAttr,aE,RV.ev,aF]);exact ⟨⟨_,rfl⟩,lh⟩
    | true=>
     obtain ⟨ad,c2,r,er,hr,EQ,bH⟩:=iJ (hl.mod lh aC (fun _ _ h=>h.mod lh aC)) aP;obtain ⟨rfl,-,-⟩:=bY er;obtain ⟨vv,ec,rfl,mh,hex⟩:=hr;have Le:=hex.len;have bk:(0:Int)≤k∧(k:Int) < e.alts.length:=by omega
     have k4:=bH.ln (o:=4) (n:=7) (by omega);have e4:((I e.alts[k].kind :: .string e.alts[k].aZ::I e.alts[k].num::vv::ec).drop 4).take 7=ec:=by
      simp [List.take_of_length_le (Nat.le_of_eq Le)]
     rw [e4] at k4;have e1:IntKind.i64.wrap ((k:Int)+1)=((k+1:Nat):Int):=by rw [dv (by omega) (by omega)];omega
     (try simp only [go_sem,simprocAttr,bq,br,cell_of ci,Value.cells,bk,k4]);refine aI (by rfl) ?_;refine (pf _ (List.getElem_mem aP) hex).mono ?_;rintro _ w7 ⟨⟨n7,rfl⟩,aN⟩;(try simp only [go_sem,simprocAttr,e1]);exact ⟨_,by omega,k+1,n7,rfl,aP,aJ.trans aN,rfl⟩
   ·have b1:decide ((k:Int) < e.alts.length)=false:=by simpa using aP
    (try simp only [go_sem,simprocAttr,b1,aE,RV.ev,aF]);exact ⟨⟨_,rfl⟩,lh⟩
theorem aeH (p:Pg) {w:World} {B:Nat→Prop} {cs:List Value} (h:jR w B cs p):a8 Tryz.prog 7 [.agg cs.toArray] w fun r w'=>(∃ b,r = .bool b)∧Mod (fun _=>False) w w':=by
 obtain ⟨vd,vf,rfl,hd,hf⟩:=h;obtain ⟨ad,cd,rfl⟩:=a7 hd;obtain ⟨af,cf,rfl⟩:=a7 hf;have Su:=dB hd;have kJ:=dB hf;refine Yr.calls rfl ?_;unfold HF;(try simp only [go_sem,simprocAttr]);refine bD rfl ?_;intro w1 ar aj bC;(try simp only [go_sem,simprocAttr]);refine fL (fun z ρ w'=>∃ k n,z=p.aH.length - k∧k≤p.aH.length∧Mod (fun _=>False) w1 w'∧ρ=[(1,ptr w.heap.size),(3,I n),(4,I k)]) p.aH.length ⟨0,_,rfl,by omega,.refl _ _,rfl⟩ ?_;rintro z _ w2 ⟨k,n,rfl,hk,ai,rfl⟩;have au:=ai.at ar _root_.id;have aY:=aj.trans ai;unfold OO;(try simp only [go_sem,simprocAttr,cell_of au,Value.cells]);by_cases aP:k < p.aH.length
 ·have b1:decide ((k:Int) < p.aH.length)=true:=by simpa using aP
  (try simp only [go_sem,simprocAttr,b1]);obtain ⟨uD,c2,r,er,hr,bT,bH⟩:=iJ (hd.mod aY aC (fun _ _ h=>h.mod aY aC)) aP;obtain ⟨rfl,-,-⟩:=bY er;obtain ⟨vp,vc,rfl,hp,hc⟩:=hr;obtain ⟨ac,cc,rfl⟩:=a7 hc;have p6:=dB hc;have bk:(0:Int)≤k∧(k:Int) < p.aH.length:=by omega
  refine fL (fun z ρ w'=>∃ j n,z=p.aH[k].cons.length - j∧j≤p.aH[k].cons.length∧Mod (fun _=>False) w2 w'∧ρ=[(1,ptr w.heap.size),(3,I n),(4,I k),(5,I j)]) p.aH[k].cons.length ⟨0,n,rfl,by omega,.refl _ _,rfl⟩ ?_;rintro z _ w3 ⟨j,n3,rfl,hj,aq,rfl⟩;have aM:=aq.at au _root_.id;have k2:=(bH.up aq aC (fun _ h=>h)).at (k:=2) (by simp);have k2:w3.cell? ⟨(uD.add (k*3)).block,(uD.add (k*3)).off+2,none⟩=some (.slice ac p.aH[k].cons.length cc):=k2;unfold ON;(try simp only [go_sem,simprocAttr,bq,br,cell_of aM,Value.cells,bk,k2]);by_cases FA:j < p.aH[k].cons.length
  ·have b2:decide ((j:Int) < p.aH[k].cons.length)=true:=by simpa using FA
   obtain ⟨Sv,c4,r4,e4,mX,hl4,aeI⟩:=iJ (hc.mod aq aC (fun _ _ h=>h.mod aq aC)) FA;obtain ⟨rfl,-,-⟩:=bY e4;obtain ⟨vfl,rfl,jt,_⟩:=mX;have Lf:=aeI.at (k:=1) (by simp);have Lf:w3.cell? ⟨(Sv.add (j*2)).block,(Sv.add (j*2)).off+1,none⟩=some vfl:=Lf;have bj:(0:Int)≤j∧(j:Int) < p.aH[k].cons.length:=by omega
   have e1:IntKind.i64.wrap ((j:Int)+1)=((j+1:Nat):Int):=by rw [dv (by omega) (by omega)];omega
   (try simp only [go_sem,simprocAttr,b2]);(try simp only [go_sem,simprocAttr,bq,br,cell_of aM,Value.cells,bk,k2,bj,Lf]);refine aI (by rfl) ?_;refine (Sp jt).mono ?_;rintro _ w5 ⟨⟨n5,rfl⟩,aD⟩;(try simp only [go_sem,simprocAttr]);cases h5:decide (n5 < 0) with
   | true=>
    (try simp only [go_sem,simprocAttr,aE,RV.ev,aF]);exact ⟨⟨_,rfl⟩,aY.trans (aq.trans aD)⟩
   | false=>
    (try simp only [go_sem,simprocAttr,e1]);exact ⟨_,by omega,j+1,n5,rfl,FA,aq.trans aD,rfl⟩
  ·have b2:decide ((j:Int) < p.aH[k].cons.length)=false:=by simpa using FA
   have e1:IntKind.i64.wrap ((k:Int)+1)=((k+1:Nat):Int):=by rw [dv (by omega) (by omega)];omega
   (try simp only [go_sem,simprocAttr,b2]);(try simp only [go_sem,simprocAttr,e1]);exact ⟨_,by omega,k+1,n3,rfl,aP,ai.trans aq,rfl⟩
 ·have b1:decide ((k:Int) < p.aH.length)=false:=by simpa using aP
  (try simp only [go_sem,simprocAttr,b1]);refine fL (fun z ρ w'=>∃ k n,z=p.ak.length - k∧k≤p.ak.length∧Mod (fun _=>False) w1 w'∧ρ=[(1,ptr w.heap.size),(3,I n),(6,I k)]) p.ak.length ⟨0,n,rfl,by omega,ai,rfl⟩ ?_;rintro z _ w3 ⟨k,n,rfl,hk,aq,rfl⟩;have aM:=aq.at ar _root_.id;have bn:=aj.trans aq;unfold OP;(try simp only [go_sem,simprocAttr,cell_of aM,Value.cells]);by_cases aP:k < p.ak.length
  ·have b1:decide ((k:Int) < p.ak.length)=true:=by simpa using aP
   (try simp only [go_sem,simprocAttr,b1]);cases h2:decide (n≥0) with
   | false=>
    (try simp only [go_sem,simprocAttr,aE,RV.ev,aF]);exact ⟨⟨_,rfl⟩,bn⟩
   | true=>
    obtain ⟨uD,c2,r,er,hr,th,bH⟩:=iJ (hf.mod bn aC (fun _ _ h=>h.mod bn aC)) aP;obtain ⟨rfl,-,-⟩:=bY er;obtain ⟨vp,tc,bc,rfl,bT,kC,gq,bw,gm,_⟩:=hr;have bk:(0:Int)≤k∧(k:Int) < p.ak.length:=by omega
    have k2:=bH.ln (o:=2) (n:=3) (by omega);have e2:((Value.string p.ak[k].name::vp::(tc++bc)).drop 2).take 3=tc:=by simp [List.take_append_of_le_length,bT]
    rw [e2] at k2;have e1:IntKind.i64.wrap ((k:Int)+1)=((k+1:Nat):Int):=by rw [dv (by omega) (by omega)];omega
    (try simp only [go_sem,simprocAttr,bq,br,cell_of aM,Value.cells,bk,k2]);refine aI (by rfl) ?_;refine (Ld _ bw).mono ?_;rintro _ w4 ⟨⟨n4,rfl⟩,aA⟩;(try simp only [go_sem,simprocAttr]);cases h4:decide (n4≥0) with
    | false=>
     (try simp only [go_sem,simprocAttr,e1]);exact ⟨_,by omega,k+1,n4,rfl,aP,aq.trans aA,rfl⟩
    | true=>
     have ba:=aA.at aM _root_.id;have k5:=(bH.up aA aC (fun _ h=>h)).ln (o:=5) (n:=7) (by omega);have e5:((Value.string p.ak[k].name::vp::(tc++bc)).drop 5).take 7=bc:=by
      match tc,bT with
      | [a,b,c],_=>simp [List.take_of_length_le (Nat.le_of_eq kC)]
     rw [e5] at k5;(try simp only [go_sem,simprocAttr,bq,br,cell_of ba,Value.cells,bk,k5]);refine aI (by rfl) ?_;refine (aeG _ (gm.mod aA aC)).mono ?_;rintro _ w5 ⟨⟨n5,rfl⟩,aD⟩;(try simp only [go_sem,simprocAttr,e1]);exact ⟨_,by omega,k+1,n5,rfl,aP,aq.trans (aA.trans aD),rfl⟩
  ·have b1:decide ((k:Int) < p.ak.length)=false:=by simpa using aP
   (try simp only [go_sem,simprocAttr,b1,aE,RV.ev,aF]);exact ⟨⟨_,rfl⟩,bn⟩
end
section
open Go Go.W
section
variable {P:Program} {w:World} {ρ:Go.W.Env} {K:Value→World→Prop} {x:Operand} {xT tt T:TypeId} {v z u r:Value} {dst:Option Nat} {ty:TypeId} {pos:String} {af:Array Edge}
theorem CF (hx:(bm x).ev ρ=some u) (h:(Instr.typeAssert u xT tt true).run P w = .ok r w) (hk:K r w):Go.W.E.wp P w ρ K (.raw ⟨dst,.typeAssert x xT tt true,ty,pos,af,none⟩):=by
 refine kT fun act ha=>⟨_,w,?_,hk⟩
 simp only [execOp,ha x _ hx,Sem.run_bind,h,Result.andThen_ok,Sem.run_pure]
theorem CG {t:TypeId} {D:TypeDesc} (h:P.underlying t=some D):(underlying t).run P w = .ok D w:=lK (by rw [gK,h])
theorem Sw {t:TypeId} {i:TypeInfo} (h:P.info? t=some i):(typeInfo t).run P w = .ok i w:=lK (by rw [GF,h])
def isIface:TypeDesc→Bool
 | .interface _=>true
 | _=>false
theorem kh {D:TypeDesc} (hx:(bm x).ev ρ=some (.iface T v)) (hu:P.underlying tt=some D) (hD:isIface D=false) (hz:(zeroValue tt).run P w = .ok z w) (h1:T=tt→K (.tuple #[v,.bool true]) w) (h2:T≠tt→K (.tuple #[z,.bool false]) w) :
   Go.W.E.wp P w ρ K (.raw ⟨dst,.typeAssert x xT tt true,ty,pos,af,none⟩):=by
 by_cases ht:T=tt
 ·refine CF hx ?_ (h1 ht);simp only [Instr.typeAssert,Sem.run_bind,CG hu,Result.andThen_ok];cases D<;>first | (simp [isIface] at hD;done) | (simp [ht];done)
 ·refine CF hx ?_ (h2 ht);simp only [Instr.typeAssert,Sem.run_bind,CG hu,Result.andThen_ok];cases D<;>first | (simp [isIface] at hD;done) | (simp [ht,hz,Sem.run_bind,Result.andThen_ok];done)
theorem Lg {want:Array (String×TypeId)} {ti:TypeInfo} {b:Bool} (hx:(bm x).ev ρ=some (.iface T v)) (hu:P.underlying tt=some (.interface want)) (hi:P.info? T=some ti) (hb:(Instr.missingMethod want ti.methods).isNone=b) (hz:(zeroValue tt).run P w = .ok z w)
   (h1:b=true→K (.tuple #[.iface T v,.bool true]) w) (h2:b=false→K (.tuple #[z,.bool false]) w) :
   Go.W.E.wp P w ρ K (.raw ⟨dst,.typeAssert x xT tt true,ty,pos,af,none⟩):=by
 cases hm:Instr.missingMethod want ti.methods with
 | none=>
  rw [hm] at hb;refine CF hx ?_ (h1 hb.symm);simp [Instr.typeAssert,Sem.run_bind,CG hu,Sw hi,Result.andThen_ok,hm]
 | some m=>
  rw [hm] at hb;refine CF hx ?_ (h2 hb.symm);simp [Instr.typeAssert,Sem.run_bind,CG hu,Sw hi,Result.andThen_ok,hm,hz]
theorem Sx {D:TypeDesc} (hx:(bm x).ev ρ=some .nilIface) (hu:P.underlying tt=some D) (hz:(zeroValue tt).run P w = .ok z w) (hk:K (.tuple #[z,.bool false]) w) :
   Go.W.E.wp P w ρ K (.raw ⟨dst,.typeAssert x xT tt true,ty,pos,af,none⟩):=by
 refine CF hx ?_ hk;simp only [Instr.typeAssert,Sem.run_bind,CG hu,Result.andThen_ok];cases D<;>simp [hz,Sem.run_bind,Result.andThen_ok]
end
theorem Sy {want:Array (String×TypeId)} {jF:Array Method} (h:(want.toList.filter fun x=>!jF.any fun m=>m.name == x.1&&m.sig == x.2).isEmpty=false):(Instr.missingMethod want jF).isNone=false:=by
 unfold Instr.missingMethod;generalize hl:((want.toList.filter fun (name,sig)=>!jF.any fun m=>m.name == name&&m.sig == sig).map (·.1))=l;have zH:l≠[]:=fun e=>by
  subst hl;have e2:=List.map_eq_nil_iff.1 e;have e3:(want.toList.filter fun x=>!jF.any fun m=>m.name == x.1&&m.sig == x.2)=[]:=e2;rw [e3] at h;cases h
 simp only [List.partition_eq_filter_filter];cases h1:l.filter (fun x=>x.contains '.') with
 | nil=>
  cases h2:l.filter (not ∘ fun x=>x.contains '.') with
  | nil=>
   exfalso;cases l with
   | nil=>exact zH rfl
   | cons a l=>
    have m1:a∉(a::l).filter (fun x=>x.contains '.'):=by rw [h1];simp
    have m2:a∉(a::l).filter (not ∘ fun x=>x.contains '.'):=by rw [h2];simp
    simp only [List.mem_filter,List.mem_cons,true_or,true_and,Function.comp] at m1 m2;cases hc:a.contains '.'<;>simp [hc] at m1 m2
  | cons b m=>simp [Instr.least]
 | cons b m=>
  cases h2:l.filter (not ∘ fun x=>x.contains '.') with
  | nil=>simp [Instr.least]
  | cons c n=>simp [Instr.least]
theorem aeJ:∃ want ti,Tryz.prog.underlying 77=some (.interface want)∧Tryz.prog.info? 115=some ti∧(Instr.missingMethod want ti.methods).isNone=true:=⟨_,_,rfl,rfl,by kernel_rfl⟩
theorem aeK:∃ want ti,Tryz.prog.underlying 77=some (.interface want)∧Tryz.prog.info? 111=some ti∧(Instr.missingMethod want ti.methods).isNone=true:=⟨_,_,rfl,rfl,by kernel_rfl⟩
theorem aeL:∃ want ti,Tryz.prog.underlying 77=some (.interface want)∧Tryz.prog.info? 138=some ti∧(Instr.missingMethod want ti.methods).isNone=true:=⟨_,_,rfl,rfl,by kernel_rfl⟩
theorem aeM:∃ want ti,Tryz.prog.underlying 77=some (.interface want)∧Tryz.prog.info? 142=some ti∧(Instr.missingMethod want ti.methods).isNone=true:=⟨_,_,rfl,rfl,by kernel_rfl⟩
theorem Sz:∃ want ti,Tryz.prog.underlying 77=some (.interface want)∧Tryz.prog.info? 105=some ti∧(Instr.missingMethod want ti.methods).isNone=false:=⟨_,_,rfl,rfl,Sy (by kernel_rfl)⟩
theorem aeN:∃ want ti,Tryz.prog.underlying 77=some (.interface want)∧Tryz.prog.info? 167=some ti∧(Instr.missingMethod want ti.methods).isNone=false:=⟨_,_,rfl,rfl,Sy (by kernel_rfl)⟩
end
section
open Go Go.W
abbrev cr:=List (ByteArray×Nat)
inductive Cl where
 | num (n:Int) | aZ (n:ByteArray) (fs:List Nat) | fw (e:Ex) (v:cr) | eB (n:ByteArray) (nf:Int) (hv:List Nat)
 | wait (e:Ex) (v:cr) | busy | emp
def Cl.io:Cl→Bool
 | .num _=>true | .aZ _ _=>true | .fw _ _=>true | .eB _ _ _=>true | _=>false
inductive Fm where
 | dz (c:Nat) | app (e:Ex) (v:cr) | lC (e:Ex) (v:cr) | fst (e:Ex) (v:cr) | snd (e:Ex) (n:Int) | seq (e:Ex) (v:cr) | lD (e:Ex) (v:cr)
structure Rn where
 cells:List Cl
 aO:List Fm
 told:List (ByteArray×Int)
 steps:Int
 kind:Int
 stuck:Int
structure Cx where
 fuel:Int
 ak:List (ByteArray×Nat)
 fields:List (ByteArray×Int)
 aB:List (Nat×Obj):=[]
inductive Md where
 | go (e:Ex) (v:cr) | val (c:Cl)
abbrev R3:=Option Md×Rn
def Rn.put (m:Rn) (c:Nat) (x:Cl):Rn:={ m with cells:=m.cells.set c x}
def Rn.new (m:Rn) (x:Cl):Rn:={ m with cells:=m.cells++[x]}
def Rn.push (m:Rn) (f:Fm):Rn:={ m with aO:=m.aO++[f]}
def Rn.stop (m:Rn) (yy:Int):Rn:={ m with kind:=3,stuck:=yy}
def fi (X:Cx) (m:Rn):Bool×Rn:=if m.steps=X.fuel then (false,{ m with kind:=4}) else (true,{ m with steps:=m.steps+1})
def wy (v:cr) (n:ByteArray):Option Nat:=aG v n
def dC (m:Rn) (c:Nat):R3:=match m.cells[c]? with
 | some (.wait e v)=>(some (.go e v),(m.put c .busy).push (.dz c))
 | some (.num n)=>(some (.val (.num n)),m)
 | some (.aZ n fs)=>(some (.val (.aZ n fs)),m)
 | some (.fw e v)=>(some (.val (.fw e v)),m)
 | some (.eB n l h)=>(some (.val (.eB n l h)),m)
 | _=>(none,m.stop 4)
def kL (n:ByteArray) (nf:Int) (hv:List Nat):Cl:=if nf=0 then .aZ n hv else .eB n nf hv
def jG:List Bd→Nat→cr→cr
 | [],_,v=>v
 | b::l,i,v=>jG l (i+1) ((b.name,i)::v)
def iS (X:Cx) (e:Ex) (v:cr) (m:Rn):Option R3:=
 if e.kind=1 then (wy v e.name).map (dC m)
 else if e.kind=3 then (aG X.ak e.name).map (dC m)
 else if e.kind=2 then some (some (.val (.num e.num)),m)
 else if e.kind=4 then some (some (.val (kL e.name ((aG X.fields e.name).getD 0) [])),m)
 else if e.kind=6 then some (some (.val (.fw e v)),m)
 else if e.kind=12 then some (none,m.stop e.num)
 else if e.kind=7 then (match e.args with
  | []=>none
  | x::_=>some (some (.go x (jG e.binds m.cells.length v)),{ m with cells:=m.cells++e.binds.map (fun b=>Cl.wait b.value (jG e.binds m.cells.length v))}))
 else if e.kind=11 then (match e.binds with
  | []=>none
  | b::_=>some (some (.go b.value v),m.push (.lD e v)))
 else match e.args with
  | []=>none
  | x::_=>some (some (.go x v),if e.kind=5 then m.push (.app e v) else if e.kind=8 then m.push (.lC e v) else if e.kind=9 then m.push (.fst e v) else if e.kind=10 then m.push (.seq e v) else m)
def numOf:Cl→Int
 | .num n=>n
 | _=>0
def ji:Cl→Option (ByteArray×List Nat)
 | .aZ n fs=>some (n,fs)
 | _=>none
def uH (n:Int):Int:=(IntKind.i64.wrap (n*2)).fdiv 2
abbrev uI:ByteArray:=⟨#[84,114,117,101]⟩
abbrev uJ:ByteArray:=⟨#[70,97,108,115,101]⟩
def Ax (n:ByteArray) (a b:Int):Bool:=
 if aQ n ⟨#[61,61]⟩ then a == b
 else if aQ n ⟨#[47,61]⟩ then a != b
 else if aQ n ⟨#[60]⟩ then decide (a < b)
 else if aQ n ⟨#[60,61]⟩ then decide (a≤b)
 else if aQ n ⟨#[62]⟩ then decide (a > b)
 else if aQ n ⟨#[62,61]⟩ then decide (a≥b)
 else false
def qm (n:ByteArray) (a b:Int):Option Cl:=
 if aQ n ⟨#[43]⟩ then some (.num (uH (Wr (a+b))))
 else if aQ n ⟨#[45]⟩ then some (.num (uH (Wr (a - b))))
 else if aQ n ⟨#[42]⟩ then some (.num (uH (Wr (a*b))))
 else if aQ n ⟨#[47]⟩||aQ n ⟨#[37]⟩ then (if b=0 then none else if aQ n ⟨#[47]⟩ then some (.num (uH (Wr (a.tdiv b)))) else some (.num (a.tmod b)))
 else some (.aZ (if Ax n a b then uI else uJ) [])
def lE (m:Rn) (f:Cl) (c:Nat):Option R3:=match f with
 | .fw e v=>(match e.args,e.binds with
  | x::_,b::_=>some (some (.go x ((b.name,c)::v)),m)
  | _,_=>none)
 | .eB n l h=>if h.length < 1099511627776 then some (some (.val (kL n (Wr (l - 1)) (h++[c]))),m) else none
 | _=>some (none,m.stop 5)
def jH:List ByteArray→List Nat→cr→Option cr
 | [],_,v=>some v
 | s::l,c::cs,v=>jH l cs ((s,c)::v)
 | _::_,[],_=>none
def eQ (m:Rn) (v:cr) (x:Cl):List Al→Option R3
 | []=>some (none,m.stop 2)
 | a::l=>
  if (a.kind == 3||(a.kind == 2&&(ji x).isNone&&a.num == numOf x))=true then some (some (.go a.body v),m)
  else match ji x with
   | some k=>if (a.kind == 1&&aQ a.aZ k.1)=true then (jH a.vars k.2 v).map (fun v'=>(some (.go a.body v'),m)) else eQ m v x l
   | none=>eQ m v x l
def iT (f:Fm) (x:Cl) (m:Rn):Option R3:=match f with
 | .dz c=>some (some (.val x),m.put c x)
 | .app e v=>(match e.args with
  | _::y::_=>lE (m.new (.wait y v)) x m.cells.length
  | _=>none)
 | .lC e v=>eQ m v x e.alts
 | .fst e v=>(match e.args with
  | _::y::_=>some (some (.go y v),m.push (.snd e (numOf x)))
  | _=>none)
 | .snd e n=>(match qm e.name n (numOf x) with
  | some y=>some (some (.val y),m)
  | none=>some (none,m.stop 3))
 | .seq e v=>(match e.args with
  | _::y::_=>some (some (.go y v),m)
  | _=>none)
 | .lD e v=>(match e.args,e.binds with
  | y::_,b::_=>some (some (.go y ((b.name,m.cells.length)::v)),m.new x)
  | _,_=>none)
def cF (X:Cx):Nat→Md→Rn→Option (Option Cl×Rn)
 | 0,_,_=>none
 | n+1,.go e v,m=>
  if (fi X m).1=false then some (none,(fi X m).2)
  else match iS X e v (fi X m).2 with
   | none=>none
   | some (none,m')=>some (none,m')
   | some (some md,m')=>cF X n md m'
 | n+1,.val x,m=>match m.aO.getLast? with
  | none=>some (some x,m)
  | some f=>match iT f x { m with aO:=m.aO.dropLast} with
   | none=>none
   | some (none,m')=>some (none,m')
   | some (some md,m')=>cF X n md m'
def fW (X:Cx) (n:Nat) (c:Nat) (m:Rn):Option (Option Cl×Rn):=match dC m c with
 | (none,m')=>some (none,m')
 | (some (.val x),m')=>some (some x,m')
 | (some (.go e v),m')=>cF X n (.go e v) m'
def qn (X:Cx) (n:Nat) (f:Cl) (c:Nat) (m:Rn):Option (Option Cl×Rn):=match lE m f c with
 | none=>none
 | some (none,m')=>some (none,m')
 | some (some (.val x),m')=>some (some x,m')
 | some (some (.go e v),m')=>cF X n (.go e v) m'
def iK:Cl→List (ByteArray×Int)
 | .num k=>[(bI,k)]
 | .aZ k _=>[(k,0)]
 | _=>[]
def fieldsOf:Cl→List Nat
 | .aZ _ fs=>fs
 | _=>[]
def eC (X:Cx):Nat→Cl→List Nat→Rn→Option Rn
 | 0,_,_,_=>none
 | n+1,x,waiting,m=>
  if (fi X m).1=false then some (fi X m).2
  else
   let m2:Rn:={ (fi X m).2 with told:=(fi X m).2.told++iK x}
   let ws:=waiting++(fieldsOf x).reverse
   if 16777216 < ws.length then none else
   match ws.getLast? with
   | none=>some { m2 with kind:=2}
   | some c=>match fW X n c m2 with
    | none=>none
    | some (none,m3)=>some m3
    | some (some y,m3)=>eC X n y ws.dropLast m3
def cR:List Int→List Cl→Cl×List Cl
 | [],cs=>(.aZ ⟨#[78,105,108]⟩ [],cs)
 | n::l,cs=>let r:=cR l cs;(.aZ ⟨#[67,111,110,115]⟩ [r.2.length,r.2.length+1],r.2++[.num n,r.1])
end
section
open Go Go.W
def nh (w:World) (B:Nat→Prop) (v:Value) (e:Ex):Prop:=∃ a cs,v = .pointer (some a)∧gj w B a cs∧bE w B cs e
def Pl (w:World) (b:Nat):Prop:=∃ cs T,w.heap[b]? = some (.cells cs T (0,0))
def tk (w:World) (B:Nat→Prop) (a:Addr) (cs:List Value):Prop:=gj w B a cs∧Pl w a.block
section
variable {w w':World} {B B' S:Nat→Prop} {a:Addr} {cs:List Value}
theorem tk.up (h:tk w B a cs) (hm:Mod S w w') (hd:∀ b,B b→¬ S b) (hB:∀ b,B b→B' b):tk w' B' a cs:=by
 refine ⟨h.1.up hm hd hB,?_⟩;obtain ⟨h1,ds,T,h2⟩:=h;exact ⟨ds,T,hm.at h2 (hd _ h1.1)⟩
theorem tk.c0 (h:tk w B a cs) (hk:0 < cs.length):w.cell? a=some cs[0]:=h.1.c0 hk
theorem tk.at (h:tk w B a cs) {k:Nat} (hk:k < cs.length) (h0:k≠0:=by decide):w.cell? ⟨a.block,a.off+k,none⟩=some cs[k]:=h.1.at hk h0
end
def gH (w:World) (B:Nat→Prop) (bs:List Nat):cr→Value→Prop
 | [],v=>v = .pointer none
 | (n,c)::l,v=>∃ a b nx,v = .pointer (some a)∧bs[c]? = some b∧tk w B a [.string n,ptr b,nx]∧gH w B bs l nx
def aeO (bs:List Nat) (r:List Value) (c:Nat):Prop:=∃ b,r=[ptr b]∧bs[c]? = some b
def uK (w:World) (B:Nat→Prop) (bs:List Nat) (fs:List Nat) (v:Value):Prop:=aT w v 1 B (aeO bs) fs
def iL (w:World) (B:Nat→Prop) (bs:List Nat):Cl→Value→Prop
 | .num n,v=>v = .iface 115 (I n)
 | .aZ n fs,v=>∃ a vs,v = .iface 111 (.pointer (some a))∧gj w B a [.string n,vs]∧uK w B bs fs vs
 | .fw e nm,v=>∃ a ve vn,v = .iface 138 (.pointer (some a))∧gj w B a [ve,vn]∧nh w B ve e∧gH w B bs nm vn
 | .eB n l fs,v=>∃ a vs,v = .iface 142 (.pointer (some a))∧gj w B a [.string n,I l,vs]∧uK w B bs fs vs
 | .wait e nm,v=>∃ a ve vn,v = .iface 105 (.pointer (some a))∧gj w B a [ve,vn]∧nh w B ve e∧gH w B bs nm vn
 | .busy,v=>v = .iface 167 (.agg #[])
 | .emp,v=>v = .nilIface
def ni (w:World) (B:Nat→Prop) (bs:List Nat) (k:Int) (e:Ex) (nm:cr) (r:List Value):Prop:=∃ ve vn,r=[I k,.pointer none,ve,vn,I 0]∧nh w B ve e∧gH w B bs nm vn
def nj (w:World) (B:Nat→Prop) (bs:List Nat) (r:List Value):Fm→Prop
 | .dz c=>∃ b,r=[I 0,ptr b,.pointer none,.pointer none,I 0]∧bs[c]? = some b
 | .app e nm=>ni w B bs 1 e nm r
 | .lC e nm=>ni w B bs 2 e nm r
 | .fst e nm=>ni w B bs 3 e nm r
 | .snd e n=>∃ ve,r=[I 4,.pointer none,ve,.pointer none,I n]∧nh w B ve e
 | .seq e nm=>ni w B bs 5 e nm r
 | .lD e nm=>ni w B bs 6 e nm r
def Lh (r:List Value) (x:ByteArray×Int):Prop:=r=[.string x.1,I x.2]
section
variable {w w':World} {B B' S:Nat→Prop} {bs cP:List Nat}
theorem nh.up {v:Value} {e:Ex} (h:nh w B v e) (hm:Mod S w w') (hd:∀ b,B b→¬ S b) (hB:∀ b,B b→B' b):nh w' B' v e:=by
 obtain ⟨a,cs,e,h1,h2⟩:=h;exact ⟨a,cs,e,h1.up hm hd hB,h2.up hm hd hB⟩
theorem gH.up:∀ {nm:cr} {v:Value},gH w B bs nm v→Mod S w w'→(∀ b,B b→¬ S b)→(∀ b,B b→B' b)→(∀ (c b:Nat),bs[c]? = some b→cP[c]? = some b)→gH w' B' cP nm v
 | [],v,h,_,_,_,_=>h
 | (n,c)::l,v,h,hm,hd,hB,hb=>by
  obtain ⟨a,b,nx,e,h1,h2,h3⟩:=h;exact ⟨a,b,nx,e,hb _ _ h1,h2.up hm hd hB,gH.up h3 hm hd hB hb⟩
theorem uK.up {fs:List Nat} {v:Value} (h:uK w B bs fs v) (hm:Mod S w w') (hd:∀ b,B b→¬ S b) (hB:∀ b,B b→B' b) (hb:∀ (c b:Nat),bs[c]? = some b→cP[c]? = some b):uK w' B' cP fs v:=
 aT.up h hm hd hB (fun r c h=>by obtain ⟨b,e,h⟩:=h;exact ⟨b,e,hb _ _ h⟩)
theorem iL.up {x:Cl} {v:Value} (h:iL w B bs x v) (hm:Mod S w w') (hd:∀ b,B b→¬ S b) (hB:∀ b,B b→B' b) (hb:∀ (c b:Nat),bs[c]? = some b→cP[c]? = some b):iL w' B' cP x v:=by
 cases x with
 | num n=>exact h
 | aZ n fs=>obtain ⟨a,vs,e,h1,h2⟩:=h;exact ⟨a,vs,e,h1.up hm hd hB,h2.up hm hd hB hb⟩
 | fw e nm=>obtain ⟨a,ve,vn,e,h1,h2,h3⟩:=h;exact ⟨a,ve,vn,e,h1.up hm hd hB,h2.up hm hd hB,h3.up hm hd hB hb⟩
 | eB n l fs=>obtain ⟨a,vs,e,h1,h2⟩:=h;exact ⟨a,vs,e,h1.up hm hd hB,h2.up hm hd hB hb⟩
 | wait e nm=>obtain ⟨a,ve,vn,e,h1,h2,h3⟩:=h;exact ⟨a,ve,vn,e,h1.up hm hd hB,h2.up hm hd hB,h3.up hm hd hB hb⟩
 | busy=>exact h
 | emp=>exact h
theorem ni.up {k:Int} {e:Ex} {nm:cr} {r:List Value} (h:ni w B bs k e nm r) (hm:Mod S w w') (hd:∀ b,B b→¬ S b) (hB:∀ b,B b→B' b) (hb:∀ (c b:Nat),bs[c]? = some b→cP[c]? = some b):ni w' B' cP k e nm r:=by
 obtain ⟨ve,vn,e,h1,h2⟩:=h;exact ⟨ve,vn,e,h1.up hm hd hB,h2.up hm hd hB hb⟩
theorem nj.up {f:Fm} {r:List Value} (h:nj w B bs r f) (hm:Mod S w w') (hd:∀ b,B b→¬ S b) (hB:∀ b,B b→B' b) (hb:∀ (c b:Nat),bs[c]? = some b→cP[c]? = some b):nj w' B' cP r f:=by
 cases f with
 | dz c=>obtain ⟨b,e,h⟩:=h;exact ⟨b,e,hb _ _ h⟩
 | snd e n=>obtain ⟨ve,e,h⟩:=h;exact ⟨ve,e,h.up hm hd hB⟩
 | app e nm=>exact ni.up h hm hd hB hb
 | lC e nm=>exact ni.up h hm hd hB hb
 | fst e nm=>exact ni.up h hm hd hB hb
 | seq e nm=>exact ni.up h hm hd hB hb
 | lD e nm=>exact ni.up h hm hd hB hb
theorem nj.len {f:Fm} {r:List Value} (h:nj w B bs r f):r.length=5:=by
 cases f with
 | dz c=>obtain ⟨b,rfl,h⟩:=h;rfl
 | snd e n=>obtain ⟨ve,rfl,h⟩:=h;rfl
 | app e nm=>obtain ⟨ve,vn,rfl,_⟩:=h;rfl
 | lC e nm=>obtain ⟨ve,vn,rfl,_⟩:=h;rfl
 | fst e nm=>obtain ⟨ve,vn,rfl,_⟩:=h;rfl
 | seq e nm=>obtain ⟨ve,vn,rfl,_⟩:=h;rfl
 | lD e nm=>obtain ⟨ve,vn,rfl,_⟩:=h;rfl
end
theorem aeP:∀ (nm:cr) {n:ByteArray} {c:Nat} {w:World} {B:Nat→Prop} {bs:List Nat} {v:Value},gH w B bs nm v→wy nm n=some c→a8 Tryz.prog 72 [v,.string n] w fun r w'=>(∃ b,r=ptr b∧bs[c]? = some b)∧w=w':=by
 intro nm n c w B bs v h hf;refine ZV.calls rfl ?_;unfold IH;(try simp only [go_sem,simprocAttr]);refine fL (fun z ρ w'=>w=w'∧∃ nQ v',z=nQ.length∧gH w B bs nQ v'∧wy nQ n=some c∧ρ=[(0,v'),(1,.string n)]) nm.length ⟨rfl,nm,v,rfl,h,hf,rfl⟩ ?_;rintro z _ _ ⟨rfl,nQ,v',rfl,h',gu,rfl⟩;unfold Pd
 match nQ,h',gu with
 | [],h',gu=>cases gu
 | (s,k)::l,h',gu=>
  obtain ⟨a,b,nx,rfl,hb,bH,hn⟩:=h';have k0:w.cell? a=some (.string s):=bH.c0 (by simp);have k1:w.cell? ⟨a.block,a.off+1,none⟩=some (ptr b):=bH.at (k:=1) (by simp);have k2:w.cell? ⟨a.block,a.off+2,none⟩=some nx:=bH.at (k:=2) (by simp);have gu:aG ((s,k)::l) n=some c:=gu;rw [px] at gu;(try simp only [go_sem,simprocAttr,k0]);cases hs:s.toList == n.toList with
  | true=>
   have e:s=n:=by
    have h1:aQ s n=true:=hs;rw [oD] at h1
    simpa using h1
   rw [if_pos e] at gu;cases gu;(try simp only [go_sem,simprocAttr,k1,aE,RV.ev,aF]);exact ⟨b,rfl,hb⟩
  | false=>
   have e:s≠n:=fun e=>by rw [e] at hs;simp at hs
   rw [if_neg e] at gu;(try simp only [go_sem,simprocAttr,k2]);exact ⟨_,by simp,l,nx,rfl,hn,gu,rfl⟩
end
end Go.Proofs.YtjfgeekjjlhbdaaGreatDoor