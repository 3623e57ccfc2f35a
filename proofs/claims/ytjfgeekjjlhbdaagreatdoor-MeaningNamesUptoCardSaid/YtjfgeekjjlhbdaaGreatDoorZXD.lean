/- Texts that the last file stands on: T27, T28, T29, T30, D9, T31, T32, P6, T33, T34, P7, T2, T35, T36, T37, E1, Q1, M1. -/
import Derived.Test.YtjfgeekjjlhbdaaGreatDoorZXC
import Derived.Test.YtjfgeekjjlhbdaaGreatDoorZXB
set_option linter.unusedSimpArgs false
set_option linter.unusedVariables false
set_option maxRecDepth 100000
namespace Go.Proofs.YtjfgeekjjlhbdaaGreatDoor
section
open Go Go.W
theorem abG {l:List ByteArray} {i:Nat} (hi:i < l.length) (bd:bI):mQ (l.drop i) bd=if (!jv l[i]||has bd l[i])=true then .error 82 else mQ (l.drop (i+1)) (bK bd l[i] 1):=by rw [List.drop_eq_getElem_cons hi,mQ]
theorem abH {ps:List ByteArray} {bs:List Ty} {l:List ByteArray} {fs:List Ty} {i:Nat} (hi:i < l.length) (hf:i < fs.length) (lc:Loc):gX ps bs (l.drop i) (fs.drop i) lc=if (eL ps bs fs[i]).2≥0 then gX ps bs (l.drop (i+1)) (fs.drop (i+1)) (bK lc l[i] (eL ps bs fs[i]).1) else .error 83:=by
 rw [List.drop_eq_getElem_cons hi,List.drop_eq_getElem_cons hf,gX]
theorem abI {l:List ByteArray} {i:Nat} (hi:i < l.length) (lc:Loc):im (l.drop i) lc=im (l.drop (i+1)) (gH lc l[i]):=by rw [List.drop_eq_getElem_cons hi,im]
theorem abJ {ps:List ByteArray} {bs:List Ty} (fs:List Ty) (lc:Loc):gX ps bs [] fs lc = .ok lc:=by rw [gX];intros;simp_all
def aiy (w:World) (S:Nat→Prop) (E:Env) (n:ByteArray) (cz:List Value) (u:Value):Prop:=match aI E.cons n with
 | none=>u = .bool false
 | some x=>u = .bool true∧∃ ad,cz=[.pointer (some ad),I x.2]∧qs w (Out S w) ad x.1∧x.2 < x.1.cons.length
theorem abK {E:Env} (hE:kD E) (gz:dm E iA 0=false) {a:Al} (ih:rT E a.body) {of:Ty} (eK:Good E of) (ma:a.kind=1→of.kind=4) {w:World} {S:Nat→Prop} {M:Ms} {st:St} {cs ct:List Value} (hc:bL w S M E st.1 st.2) (hg:cZ E st.2) (h:gq w (Out S w) cs a) (bz:aX w (Out S w) ct of) :
   ba Tryz.prog 91 [ptr M.c,.agg cs.toArray,.agg ct.toArray] w fun r w'=>pu w' S M E r (mg E of a.kind a.bg a.vars (cj E a.body) st)∧Mod M.two w w':=by
 obtain ⟨vv,ec,rfl,lD,rV⟩:=h;obtain ⟨av,cv,rfl⟩:=a8 lD;obtain ⟨vo,rfl,JP⟩:=bz.cells;obtain ⟨ao,co,rfl⟩:=a8 JP;refine Ze.calls rfl ?_;unfold Iq;(try simp only [go_sem,simprocAttr]);refine bB rfl ?_;intro wa je jf ot;(try simp only [go_sem,simprocAttr]);refine bB rfl ?_;intro wb dV fI xk;(try simp only [go_sem,simprocAttr]);refine cQ ?_;intro w3 bU j0 hsc;have bT:=j0.at dV _root_.id;have aZ:=(fI.trans j0).at je _root_.id;have bo:=jf.trans (fI.trans j0);have za:=jf.size;have zb:=fI.size;have zw:w.heap.size≤wb.heap.size:=by omega
 have cr:bL w3 (aN S wb.heap.size) M E st.1 st.2:=hc.ext bo (eC zw) (fun b hb=>.inl hb) (fun b hb=>by
  rcases hb with h | h
  ·have:=hc.lt b h;omega
  ·omega)
 have S3:=cr.two;have n4:¬ M.two w.heap.size:=eI hc (Nat.le_refl _);have n5:¬ M.two wa.heap.size:=eI hc za;have n6:¬ M.two wb.heap.size:=eI hc zw;have lec:=rV.len;have P5:bH w3 (Out (aN S wb.heap.size) w3) ec a.body:=rV.ext (aj bo) (eC zw);have abL:aQ w3 (.slice av a.vars.length cv) 1 (Out (aN S wb.heap.size) w3) eP a.vars:=lD.up bo aC (eh (aj bo) (eC zw)) (fun _ _ h=>h);have abM:aQ w3 (.slice ao of.args.length co) 3 (Out (aN S wb.heap.size) w3) (aX w3 (Out (aN S wb.heap.size) w3)) of.args:=JP.up bo aC (eh (aj bo) (eC zw)) (fun _ _ h=>h.ext (aj bo) (eC zw));(try simp only [go_sem,simprocAttr,cell_of aZ,Value.cells]);cases hk:a.kind != 1 with
 | true=>
  have hr:mg E of a.kind a.bg a.vars (cj E a.body) st=cj E a.body st:=by rw [mg,if_pos hk]
  rw [hr];have k2:=gF (off:=4) (n:=7) aZ (by simp [Value.cells];omega);simp only [List.drop_succ_cons,List.drop_zero] at k2;rw [List.take_of_length_le (by omega)] at k2;(try simp only [go_sem,simprocAttr,k2]);refine aK (by rfl) ?_;refine (ih cr hg P5).mono ?_;rintro r4 w4 ⟨mo,aA⟩;cases bZ:cj E a.body st with
  | error e4=>
   rw [bZ] at mo;obtain ⟨cz,bA,bR,rfl,bw,PL,lc4,jZ⟩:=mo;(try simp only [go_sem,simprocAttr]);refine bN (cs:=cI) rfl rfl (aA.at bU n6) bA rfl bR ?_;intro w5 hb aD eB;(try simp only [go_sem,simprocAttr,aE,RV.ev,az (n:=3) hb bA,aF]);exact ⟨⟨cz,bA,bR,rfl,bw,_,_,(jZ.side aD (fun b hb=>.inr hb) (gK hc zw)).sub (fun b hb=>.inl hb) hc.bt⟩,((aj bo).trans aA).step aD (fun b hb hl=>by omega)⟩
  | ok y1=>
   rw [bZ] at mo;obtain ⟨⟨cz,rfl,xm⟩,jZ⟩:=mo;(try simp only [go_sem,simprocAttr]);refine bN (cs:=cI) rfl rfl (aA.at bU n6) xm.len rfl xm.one ?_;intro w5 hb aD eB;(try simp only [go_sem,simprocAttr,aE,RV.ev,az (n:=3) hb xm.len,aF]);exact ⟨qu jZ xm aD hc.bt (gK hc zw),((aj bo).trans aA).step aD (fun b hb hl=>by omega)⟩
 | false=>
  have jz:a.kind=1:=by simpa using hk
  have d3:Mod (fun _=>False) w3 w3.drew:=(Mod.refl _ _).drew;have rY:=cr.aB d3;(try simp only [go_sem,simprocAttr,cell_of cr.box,cell_of aZ,Value.cells]);have zr:∀ b∈[w.heap.size,M.c],b < w3.drew.heap.size:=fun b hb=>by
   have e:w3.drew.heap.size=w3.heap.size:=rfl;rcases List.mem_cons.1 hb with rfl | hb
   ·omega
   ·rw [List.mem_singleton.1 hb];have:=cr.lt _ (cr.bt M.c (by simp [Ms.list]));omega
  refine D3 (Rr:=qt w3.drew (Out (aN S wb.heap.size) w3.drew)) (k:=a.bg) (b0:=M.mc) (kt:=9) (et:=158) (zc:=[.pointer none,I 0]) rfl rfl rfl rfl (fun w=>Tryz.zeroValue158 w) ⟨rfl,aW rfl (aW rfl dy)⟩ rfl rY.cons
   (fun v y hr=>by obtain ⟨ad,rfl,_⟩:=hr;exact ⟨[.pointer (some ad),I y.2],rfl,rfl,aW rfl (aW rfl dy)⟩) (fun p hp=>by
    simp only [List.mem_cons,List.not_mem_nil,or_false] at hp
    rcases hp with rfl | rfl<;>exact zr _ (by simp)) (by decide) ?_
  intro w4 oO cz u hold g8 g9 cO nU Be bR tq;have aA:Mod (fun _=>False) w3 w4:=nU.ez;have cO:w4.heap[w3.heap.size]? = some (.cells cz.toArray 158 (0,0)):=cO;have g8:oO.get 8=some (ptr w3.heap.size):=g8;have g0:oO.get 0=some (ptr M.c):=(hold 0 (by decide)).trans rfl;have g4:oO.get 4=some (ptr w.heap.size):=(hold 4 (by decide)).trans rfl;have g5:oO.get 5=some (ptr wa.heap.size):=(hold 5 (by decide)).trans rfl;have g6:oO.get 6=some (ptr wb.heap.size):=(hold 6 (by decide)).trans rfl;have z4:=aA.size;have bU:=aA.at bU _root_.id;have bT:=aA.at bT _root_.id;have aZ:=aA.at aZ _root_.id;have jA:=cr.aB aA
  have Dx:mg E of a.kind a.bg a.vars (cj E a.body) st=(match aI E.cons a.bg with
   | none=>.error 82
   | some x=>if (!aR x.1.name of.name)=true then .error 82
    else if (((de x.1 x.2).length:Int) != a.vars.length)=true then .error 84
    else match mQ a.vars st.1 with
     | .error e=>.error e
     | .ok bd=>match gX x.1.params of.args a.vars (de x.1 x.2) st.2 with
      | .error e=>.error e
      | .ok lc=>match cj E a.body (bd,lc) with
       | .error e=>.error e
       | .ok y=>.ok (y.1,(y.2.1,im a.vars y.2.2))):=by rw [mg,if_neg (by rw [hk];simp)];rfl
  rw [Dx];rcases tq with ⟨hn,rfl⟩ | ⟨x,hx,⟨ad,xn,rZ,iz⟩,rfl⟩
  ·rw [hn];(try simp only [go_sem,simprocAttr,g0,g4,g5,g6,g8,g9]);refine gh (w3:=w4.drew) hc zw bU ((aj (bo.trans aA)).trans (Mod.refl _ _).drew) (jA.aB (Mod.refl _ _).drew) rfl rfl ?_;intro w5 hb aD bm;(try simp only [go_sem,simprocAttr,aE,RV.ev,az (n:=3) hb rfl,aF]);exact ⟨.bad (by decide) bm,aD⟩
  ·rw [hx];have xn:cz=[.pointer (some ad),I x.2]:=by
    have:cz.toArray = #[.pointer (some ad),I x.2]:=by cases xn;rfl
    have:=congrArg Array.toList this
    simpa using this
   subst xn;obtain ⟨cs,bJ,vp,vc,rfl,gg,gJ⟩:=rZ;have d34:Mod (fun _=>False) w3.drew w4:=nU;have k0:w4.cell? ad=some (.string x.1.name):=(bJ.up d34 aC (fun _ h=>h)).c0 (by simp);have kn:w4.cell? ⟨wa.heap.size,1,none⟩=some (.string of.name):=by rw [cell_of bT];rfl
   (try simp only [go_sem,simprocAttr,g0,g4,g5,g6,g8,g9,cell_of cO,k0,kn]);cases ja:x.1.name.toList == of.name.toList with
   | false=>
    rw [if_pos (by rw [aR,ja];rfl)];(try simp only [go_sem,simprocAttr]);refine gh (w3:=w4.drew) hc zw bU ((aj (bo.trans aA)).trans (Mod.refl _ _).drew) (jA.aB (Mod.refl _ _).drew) rfl rfl ?_;intro w5 hb aD bm;(try simp only [go_sem,simprocAttr,aE,RV.ev,az (n:=3) hb rfl,aF]);exact ⟨.bad (by decide) bm,aD⟩
   | true=>
    have BC:aR x.1.name of.name=true:=ja;rw [if_neg (by rw [BC];simp)];have P6:=Pt hE hx BC eK.1 (ma jz);obtain ⟨ac,cc,rfl⟩:=a8 gJ;obtain ⟨app,lE,rfl⟩:=a8 gg;have data:∀ {w':World},Mod M.two w4 w'→fT w' (Out (aN S wb.heap.size) w') ad [.string x.1.name,.slice app x.1.params.length lE,.slice ac x.1.cons.length cc]∧aQ w' (.slice app x.1.params.length lE) 1 (Out (aN S wb.heap.size) w') eP x.1.params∧aQ w' (.slice ac x.1.cons.length cc) 2 (Out (aN S wb.heap.size) w') (eF w' (Out (aN S wb.heap.size) w')) x.1.cons:=fun hm=>by
     have bC:Mod (aN S wb.heap.size) w3.drew _:=(aj d34).trans (hm.aT S3);exact ⟨bJ.up bC aM (aU bC),gg.up bC aM (aU bC) (fun _ _ h=>h),gJ.up bC aM (aU bC) (fun _ _ h=>h.up bC aM (aU bC))⟩
    obtain ⟨q1,q2,q3⟩:=data (Mod.refl _ w4);have k2:w4.cell? ⟨ad.block,ad.off+2,none⟩=some (.slice ac x.1.cons.length cc):=q1.at (k:=2) (by simp);obtain ⟨adc,cc2,rr,ee,⟨vf,rfl,iX,_⟩,_,_,lX⟩:=dL q3 iz;obtain ⟨rfl,-,-⟩:=b9 ee;obtain ⟨af,cf,rfl⟩:=a8 iX;have kf:w4.cell? ((adc.add (x.2*2)).add 1)=some (.slice af x.1.cons[x.2].fields.length cf):=lX 1 (by simp);rw [add_pos _ (by decide)] at kf;have b1:(0:Int)≤x.2∧(x.2:Int) < x.1.cons.length:=by omega
    have gR:de x.1 x.2=x.1.cons[x.2].fields:=by simp [de,List.getD,iz]
    have P7:=(hE.cons _ _ hx).2;rw [gR] at P7;rw [gR];generalize aiz:x.1.cons[x.2].fields=fields at *;have kv:w4.cell? ⟨w.heap.size,3,none⟩=some (.slice av a.vars.length cv):=by rw [cell_of aZ];rfl
    (try simp only [go_sem,simprocAttr,bq,br,cell_of cO,k2,b1,kf,kv]);cases bw:((fields.length:Int) != a.vars.length) with
    | true=>
     rw [if_pos rfl];(try simp only [go_sem,simprocAttr]);refine gh (w3:=w4.drew.drew) hc zw bU ((aj (bo.trans aA)).trans (Mod.refl _ _).drew.drew) (jA.aB (Mod.refl _ _).drew.drew) rfl rfl ?_;intro w5 hb aD bm;(try simp only [go_sem,simprocAttr,aE,RV.ev,az (n:=3) hb rfl,aF]);exact ⟨.bad (by decide) bm,aD⟩
    | false=>
     rw [if_neg (by simp)];have hlen:fields.length=a.vars.length:=by
      have:(fields.length:Int)=a.vars.length:=by simpa using bw
      omega
     (try simp only [go_sem,simprocAttr,kv]);have eT:Mod (fun _=>False) w3 w4.drew.drew:=aA.drew.drew;have eS:=bo.trans eT;have iO:=cr.aB eT;have y3:=du lD;have names:∀ {w':World},Mod M.two w4 w'→aQ w' (.slice av a.vars.length cv) 1 (Out (aN S wb.heap.size) w3) eP a.vars:=fun hm=>
      abL.up ((aj aA).trans hm) (fun b hb hh=>hb.2 (S3 b hh)) (fun _ h=>h) (fun _ _ h=>h)
     have D4:∀ {w':World},Mod M.two w4 w'→w'.heap[wb.heap.size]? = some (.cells cI.toArray dQ (0,0)):=fun hm=>hm.at bU n6
     have D5:∀ {w':World},Mod M.two w4 w'→Mod M.two w w':=fun hm=>(aj (bo.trans aA)).trans hm
     refine eQ a.vars.length (fun k ρ w'=>k≤a.vars.length∧Mod M.two w4 w'∧(∃ qx,bL w' (aN S wb.heap.size) M E qx st.2∧mQ (a.vars.drop k) qx=mQ a.vars st.1)∧ρ=[(0,ptr M.c),(4,ptr w.heap.size),(5,ptr wa.heap.size),(6,ptr wb.heap.size),(8,ptr w3.heap.size),(10,.slice af fields.length cf),(71,.slice av a.vars.length cv),(72,I a.vars.length),(73,I k)])
      ⟨by omega,(Mod.refl _ _).drew.drew,⟨st.1,iO,rfl⟩,rfl⟩ y3 ?_ ?_ (by decide) ?_
     ·rintro k _ w6 ⟨hk,_,_,rfl⟩;exact ⟨rfl,rfl,hk⟩
     ·rintro k _ w6 ⟨_,aJ,⟨qx,bm,lS⟩,rfl⟩ hk;obtain ⟨D6,P8,ev,JQ,jP⟩:=qi (names aJ) hk;obtain ⟨rfl,-,-⟩:=b9 ev;have bv:(0:Int)≤k∧(k:Int) < a.vars.length:=by omega
      rw [abG hk] at lS;(try simp only [go_sem,simprocAttr,bq,br,bv,jP]);refine aK (by rfl) ?_;refine (Dp _ JQ).mono ?_;rintro _ _ ⟨rfl,rfl⟩;cases nV:jv a.vars[k] with
      | false=>
       rw [if_pos (by rw [nV];rfl)] at lS;rw [← lS];(try simp only [go_sem,simprocAttr]);refine gh hc zw (D4 aJ) (D5 aJ) bm rfl rfl ?_;intro w7 hb aL qC;(try simp only [go_sem,simprocAttr,aE,RV.ev,az (n:=3) hb rfl,aF]);exact ⟨.bad (by decide) qC,aL⟩
      | true=>
       (try simp only [go_sem,simprocAttr,cell_of bm.box]);refine xd ?_;refine uL (k:=a.vars[k]) (b:=M.mb) (kt:=9) (et:=3) rfl rfl rfl rfl (zI _) bm.gx ?_;have il:decide ((aI qx a.vars[k]).getD 0 > 0)=has qx a.vars[k]:=rfl;cases hh:has qx a.vars[k] with
       | true=>
        rw [hh] at il;rw [if_pos (by rw [hh];simp)] at lS;rw [← lS];(try simp only [go_sem,simprocAttr,il]);refine gh hc zw (D4 aJ) (D5 aJ) bm rfl rfl ?_;intro w7 hb aL qC;(try simp only [go_sem,simprocAttr,aE,RV.ev,az (n:=3) hb rfl,aF]);exact ⟨.bad (by decide) qC,aL⟩
       | false=>
        rw [hh] at il;rw [if_neg (by rw [nV,hh];simp)] at lS;(try simp only [go_sem,simprocAttr,il,cell_of bm.box]);refine abo (n:=a.vars[k]) bm rfl rfl rfl ?_;intro w7 kF aL iL;(try simp only [go_sem,simprocAttr]);exact ⟨hk,aJ.trans aL,_,kF,lS⟩
     rintro _ w6 ⟨_,aJ,⟨bd,jd,lS⟩,rfl⟩;rw [List.drop_length,mQ] at lS;rw [← lS];have kv6:w6.cell? ⟨w.heap.size,3,none⟩=some (.slice av a.vars.length cv):=by rw [cell_of (aJ.at aZ n4)];rfl
     (try simp only [go_sem,simprocAttr,kv6]);have n8:¬ M.two w3.heap.size:=eI hc (by have:=bo.size;omega);obtain ⟨rows,ku,lu,ej⟩:=iX;refine eQ a.vars.length (fun k ρ w'=>k≤a.vars.length∧Mod M.two w4 w'∧(∃ gY,bL w' (aN S wb.heap.size) M E bd gY∧cZ E gY∧gX x.1.params of.args (a.vars.drop k) (fields.drop k) gY=gX x.1.params of.args a.vars fields st.2)∧ρ=[(0,ptr M.c),(4,ptr w.heap.size),(5,ptr wa.heap.size),(6,ptr wb.heap.size),(8,ptr w3.heap.size),(10,.slice af fields.length cf),(97,.slice av a.vars.length cv),(98,I a.vars.length),(99,I k)])
      ⟨by omega,aJ,⟨st.2,jd,hg,rfl⟩,rfl⟩ y3 ?_ ?_ (by decide) ?_
     ·rintro k _ w7 ⟨hk,_,_,rfl⟩;exact ⟨rfl,rfl,hk⟩
     ·rintro k _ w7 ⟨_,aL,⟨gY,bm,oP,u9⟩,rfl⟩ hk;obtain ⟨D6,P8,ev,JQ,jP⟩:=qi (names aL) hk;obtain ⟨rfl,-,-⟩:=b9 ev;have bv:(0:Int)≤k∧(k:Int) < a.vars.length:=by omega
      have JR:k < fields.length:=by omega
      have bf:(0:Int)≤k∧(k:Int) < fields.length:=by omega
      have S4:∀ b,Out (aN S wb.heap.size) w4 b→¬ M.two b:=fun b hb hh=>hb.2 (S3 b hh)
      have D7:Mod (aN S wb.heap.size) w4 w7:=aL.aT S3;have abN:=ku.up D7 aM (aU D7);obtain ⟨DG,cf2,ef,abO,P9⟩:=Dh abN.1 (i:=k) (by omega);have j6:=qg abO P9;have abP:(DG.add (k*3)).block < w7.heap.size:=by have:=lW (P9 0 (by omega));rwa [sN] at this
      obtain ⟨rfl,-,-⟩:=b9 ef;have tB:aX w7 (Out (aN S wb.heap.size) w7) rows[k] fields[k]:=(ej k _ _ (List.getElem?_eq_getElem (by omega)) (List.getElem?_eq_getElem JR)).aB D7;obtain ⟨BD,JS,q3'⟩:=data aL;have Qa:w7.cell? ⟨ad.block,ad.off+1,none⟩=some (.slice app x.1.params.length lE):=BD.at (k:=1) (by simp);have Qb:w7.cell? ⟨w3.heap.size,0,none⟩=some (.pointer (some ad)):=by rw [cell_of (aL.at cO n8)];rfl
      have Qc:w7.cell? ⟨wa.heap.size,2,none⟩=some (.slice ao of.args.length co):=by rw [cell_of (aL.at bT n5)];rfl
      have abQ:aQ w7 (.slice ao of.args.length co) 3 (Out (aN S wb.heap.size) w7) (aX w7 (Out (aN S wb.heap.size) w7)) of.args:=by
       have bC:Mod (aN S wb.heap.size) w3 w7:=(aj aA).trans D7;exact abM.up bC aM (aU bC) (fun _ _ h=>h.aB bC)
      rw [abH hk JR] at u9;(try simp only [go_sem,simprocAttr,bq,br,bv,jP,bf,j6,Qb,Qa,Qc,ci]);obtain ⟨zp1,zp2,zp3⟩:=data aL.drew;have Qd:wY w7.drew (aN S wb.heap.size) (.slice app x.1.params.length lE) (.slice ao of.args.length co) x.1.params of.args:=⟨zp2,wU abQ (Mod.refl (aN S wb.heap.size) _).drew,Nat.le_of_eq P6⟩;have Qe:aX w7.drew (Out (aN S wb.heap.size) w7.drew) rows[k] fields[k]:=tB.aB (Mod.refl _ _).drew;have y4:=lW Qc;have abR:=lW Qb;have abS:=lW Qa;have zd:w7.drew.heap.size=w7.heap.size:=rfl;have JT:=bm.aB (Mod.refl (fun _=>False) w7).drew;have Qf:∀ b,aN S wb.heap.size b→b < w7.drew.heap.size:=JT.lt;refine abF (Ms:=fun _=>False) (vs:=[.agg rows[k].toArray,.slice app x.1.params.length lE,.slice ao of.args.length co])
       (Post:=fun w' cz u=>u = .bool (decide ((eL x.1.params of.args fields[k]).2≥0))∧aX w' (Out (aN S wb.heap.size) w') cz (eL x.1.params of.args fields[k]).1)
       (PA:=fun w' cz u=>u = .bool (decide ((eL x.1.params of.args fields[k]).2≥0))∧aX w' (Out (aN S wb.heap.size) w') cz (eL x.1.params of.args fields[k]).1)
       (PB:=fun w' cz u=>u = .bool (decide ((eL x.1.params of.args fields[k]).2≥0))∧aX w' (Out (aN (aN S wb.heap.size) w7.drew.heap.size) w') cz (eL x.1.params of.args fields[k]).1)
       rfl (fun v=>rfl) rfl (fun _ _ h=>h) (fun p hp=>by
        simp only [List.mem_cons,List.not_mem_nil,or_false] at hp
        rcases hp with rfl | rfl | rfl | rfl<;>(rw [zd];first | exact y4 | exact abS | exact abR | exact abP)) ?_ ?_ ?_ ?_ (by decide) ?_
      ·refine (Jh fields[k] Qe Qd Qf).mono ?_;rintro _ w8 ⟨⟨cz,rfl,lC⟩,bh⟩;exact ⟨cz,_,rfl,lC.len,lC.one,⟨rfl,lC⟩,bh⟩
      ·intro w8 bh mP;have dZ:∀ b,b < w7.drew.heap.size→aN (aN S wb.heap.size) w7.drew.heap.size b→aN S wb.heap.size b:=fun b hb hh=>by
        rcases hh with h | h
        ·exact h
        ·omega
       refine (Jh fields[k] (Qe.ext (aj bh) dZ) (Qd.ext (aj bh) dZ) (fun b hb=>by
        rcases hb with h | h
        ·have:=Qf b h;omega
        ·omega)).mono ?_
       rintro _ w9 ⟨⟨cz,rfl,lC⟩,aV⟩;exact ⟨cz,_,rfl,lC.len,lC.one,⟨rfl,lC⟩,aV⟩
      ·rintro w8 cz u w9 ⟨rfl,h8⟩ aV;exact ⟨rfl,h8.aB (aj aV)⟩
      ·rintro w8 cz u w9 ⟨rfl,h8⟩ aV;exact ⟨rfl,(h8.aB (aV.aT (fun b hb=>.inr hb))).sub (fun b hb=>.inl hb)⟩
      intro w8 kH b15 cz u hold xo tG D8 aiA qy bA bR abT;have bh:Mod (fun _=>False) w7 w8:=qy.ez;obtain ⟨rfl,lC⟩:=abT;have e0:kH.get 0=some (ptr M.c):=(hold 0 (by decide)).trans rfl;have e4:kH.get 4=some (ptr w.heap.size):=(hold 4 (by decide)).trans rfl;have e5:kH.get 5=some (ptr wa.heap.size):=(hold 5 (by decide)).trans rfl;have e6:kH.get 6=some (ptr wb.heap.size):=(hold 6 (by decide)).trans rfl;have e8:kH.get 8=some (ptr w3.heap.size):=(hold 8 (by decide)).trans rfl;have rW:kH.get 10=some (.slice (some DG) fields.length cf):=(hold 10 (by decide)).trans rfl;have D9:kH.get 14=some (.string a.vars[k]):=(hold 14 (by decide)).trans rfl;have Qg:kH.get 97=some (.slice (some D6) a.vars.length cv):=(hold 97 (by decide)).trans rfl;have Qh:kH.get 98=some (I a.vars.length):=(hold 98 (by decide)).trans rfl;have Qi:kH.get 99=some (I k):=(hold 99 (by decide)).trans rfl;have lB:=bm.aB bh;cases jL:decide ((eL x.1.params of.args fields[k]).2≥0) with
      | false=>
       have Ea:¬ (eL x.1.params of.args fields[k]).2≥0:=by simpa using jL
       rw [if_neg Ea] at u9;rw [← u9];rw [jL] at tG;(try simp only [go_sem,simprocAttr,e0,e4,e5,e6,e8,rW,D9,Qg,Qh,Qi,xo,tG]);refine gh hc zw (D4 (aL.trans (aj bh))) (D5 (aL.trans (aj bh))) lB rfl rfl ?_;intro w9 hb aV qC;(try simp only [go_sem,simprocAttr,aE,RV.ev,az (n:=3) hb rfl,aF]);exact ⟨.bad (by decide) qC,aV⟩
      | true=>
       have Ea:(eL x.1.params of.args fields[k]).2≥0:=by simpa using jL
       rw [if_pos Ea] at u9;rw [jL] at tG;have rF:Good E (eL x.1.params of.args fields[k]).1:=Jo (fun b hb=>Bl eK hb) (Nat.le_of_eq P6) (P7 _ (List.getElem_mem JR)) Ea;(try simp only [go_sem,simprocAttr,e0,e4,e5,e6,e8,rW,D9,Qg,Qh,Qi,xo,tG,cell_of lB.box,az (n:=3) D8 bA]);refine JE (n:=a.vars[k]) (lB.aB (Mod.refl _ _).drew) rfl rfl rfl (lC.aB (Mod.refl _ _).drew) ?_;intro w9 BE aV gZ;(try simp only [go_sem,simprocAttr]);exact ⟨hk,(aL.trans (aj bh)).trans aV.ez,_,BE,oP.put rF,u9⟩
     ·rintro _ w7 ⟨_,aL,⟨gY,bm,oP,u9⟩,rfl⟩;rw [List.drop_length,abJ] at u9;rw [← u9];have kb7:=aL.at aZ n4;have k2:=gF (off:=4) (n:=7) kb7 (by simp [Value.cells];omega);simp only [List.drop_succ_cons,List.drop_zero] at k2;rw [List.take_of_length_le (by omega)] at k2;(try simp only [go_sem,simprocAttr,k2]);refine aK (by rfl) ?_;have abU:bH w7 (Out (aN S wb.heap.size) w7) ec a.body:=(P5.aB (aj aA)).aB (aL.aT S3);refine (ih (st:=(bd,gY)) bm oP abU).mono ?_;rintro r8 w8 ⟨mq,bh⟩;have key:∃ cz u,r8 = .tuple #[.agg cz.toArray,u]∧cz.length=3∧(∀ u∈cz,u.oneCell'=true)∧Kept w8 (aN S wb.heap.size) M E cz u (cj E a.body (bd,gY)):=by
       cases bZ:cj E a.body (bd,gY) with
       | error e4=>rw [bZ] at mq;obtain ⟨cz,bA,bR,rfl,bw,bm⟩:=mq;exact ⟨cz,_,rfl,bA,bR,rfl,bw,bm⟩
       | ok y1=>rw [bZ] at mq;obtain ⟨⟨cz,rfl,bz⟩,bm⟩:=mq;exact ⟨cz,_,rfl,bz.len,bz.one,rfl,bz,bm⟩
      obtain ⟨cz,u,rfl,bA,bR,cP⟩:=key;(try simp only [go_sem,simprocAttr]);refine cQ ?_;intro w9 dp aV gZ;(try simp only [go_sem,simprocAttr]);refine bN (cs:=cI) rfl rfl dp bA rfl bR ?_;intro cV ff bE qp;have gM:Mod (fun _=>False) w8 cV:=aV.step bE (fun b hb hl=>by omega);have JU:Mod M.two w4 cV:=(aL.trans bh).trans (aj gM);have Qj:cV.cell? ⟨w.heap.size,3,none⟩=some (.slice av a.vars.length cv):=by rw [cell_of (JU.at aZ n4)];rfl
      have aiB:cV.cell? ((⟨w.heap.size,0,none⟩:Addr).add 3)=some (.slice av a.vars.length cv):=Qj;(try simp only [go_sem,simprocAttr,Qj]);have abV:∃ dG gy,bL cV (aN S wb.heap.size) M E dG gy∧(∀ y,cj E a.body (bd,gY) = .ok y→dG=y.2.1∧gy=y.2.2):=by
       cases bZ:cj E a.body (bd,gY) with
       | error e4=>rw [bZ] at cP;obtain ⟨_,_,pz,mW,k3⟩:=cP;exact ⟨pz,mW,k3.aB gM,fun y h=>by cases h⟩
       | ok y1=>rw [bZ] at cP;exact ⟨_,_,cP.2.2.aB gM,fun y h=>by cases h;exact ⟨rfl,rfl⟩⟩
      obtain ⟨pz,mW,oM,JN⟩:=abV;have z7:=aL.size;have z8:=bh.size;have z3:=bo.size;have n17:¬ M.two w8.heap.size:=eI hc (by omega);refine eQ a.vars.length (fun k ρ w'=>k≤a.vars.length∧Mod M.two cV w'∧(∃ gY,bL w' (aN S wb.heap.size) M E pz gY∧im (a.vars.drop k) gY=im a.vars mW)∧ρ=[(0,ptr M.c),(6,ptr wb.heap.size),(17,ptr w8.heap.size),(18,u),(137,.slice av a.vars.length cv),(138,I a.vars.length),(139,I k)])
       ⟨by omega,.refl _ _,⟨mW,oM,rfl⟩,rfl⟩ y3 ?_ ?_ (by decide) ?_
      ·rintro k _ gA ⟨hk,_,_,rfl⟩;exact ⟨rfl,rfl,hk⟩
      ·rintro k _ gA ⟨_,cR,⟨abW,nW,qz⟩,rfl⟩ hk;obtain ⟨D6,P8,ev,JQ,jP⟩:=qi (names (JU.trans cR)) hk;obtain ⟨rfl,-,-⟩:=b9 ev;have bv:(0:Int)≤k∧(k:Int) < a.vars.length:=by omega
       rw [abI hk] at qz;(try simp only [go_sem,simprocAttr,bq,br,bv,jP,cell_of nW.box]);refine DR (n:=a.vars[k]) rfl nW rfl rfl ?_;intro px abX fK DU;(try simp only [go_sem,simprocAttr]);exact ⟨hk,cR.trans fK,_,abX,qz⟩
      rintro _ gA ⟨_,cR,⟨abW,nW,qz⟩,rfl⟩;rw [List.drop_length,im] at qz;subst qz;have fy:=cR.at ff n17;have Qk:=JU.trans cR;(try simp only [go_sem,simprocAttr,az (n:=3) fy bA]);refine bN (cs:=cI) rfl rfl (D4 Qk) bA rfl bR ?_;intro px pn fK DU;have j5:Mod M.two w px:=(D5 Qk).step fK (fun b hb hl=>by omega);cases bZ:cj E a.body (bd,gY) with
      | error e4=>
       rw [bZ] at cP;obtain ⟨rfl,bw,_⟩:=cP;(try simp only [go_sem,simprocAttr,aE,RV.ev,az (n:=3) pn bA,aF]);exact ⟨⟨cz,bA,bR,rfl,bw,_,_,(nW.side fK (fun b hb=>.inr hb) (gK hc zw)).sub (fun b hb=>.inl hb) hc.bt⟩,j5⟩
      | ok y1=>
       obtain ⟨t1,dA⟩:=y1;obtain ⟨rfl,rfl⟩:=JN _ bZ;rw [bZ] at cP;obtain ⟨rfl,bz,_⟩:=cP;(try simp only [go_sem,simprocAttr,aE,RV.ev,az (n:=3) pn bA,aF]);exact ⟨qu (st:=(dA.1,im a.vars dA.2)) nW ((bz.aB (aj gM)).aB (cR.aT S3)) fK hc.bt (gK hc zw),j5⟩
end
section
open Go Go.W
theorem abY {E:Env} {all:List Al} {of:Ty} {i:Nat} (hi:i < all.length) (first:Ty) (st:St):fL E all of (all.drop i) i first st =
   if ly all i of=false then .error 84
   else match mg E of all[i].kind all[i].bg all[i].vars (cj E all[i].body) st with
    | .error x=>.error x
    | .ok y=>if i=0 then fL E all of (all.drop (i+1)) (i+1) y.1 y.2 else if fQ y.1 first=true then fL E all of (all.drop (i+1)) (i+1) first y.2 else .error 83:=by
 rw [List.drop_eq_getElem_cons hi,Bm];rfl
theorem tH {w:World} {S:Nat→Prop} {M:Ms} {E:Env} {r:Value} {x:Except Int (Ty×St)} (h:pu w S M E r x):∃ cz u,r = .tuple #[.agg cz.toArray,u]∧cz.length=3∧(∀ u∈cz,u.oneCell'=true)∧Kept w S M E cz u x:=by
 cases x with
 | error e4=>obtain ⟨cz,bA,bR,rfl,bw,bm⟩:=h;exact ⟨cz,_,rfl,bA,bR,rfl,bw,bm⟩
 | ok y1=>obtain ⟨⟨cz,rfl,bz⟩,bm⟩:=h;exact ⟨cz,_,rfl,bz.len,bz.one,rfl,bz,bm⟩
theorem abZ {E:Env} (hE:kD E) (gz:dm E iA 0=false) {e x:Ex} (eX:e.args=[x]) (bw:e.alts≠[]) (ii:rT E x) (oA:∀ a∈e.alts,rT E a.body) {w:World} {S:Nat→Prop} {M:Ms} {st:St} {cs:List Value} (hc:bL w S M E st.1 st.2) (hg:cZ E st.2) (h:bH w (Out S w) cs e) :
   ba Tryz.prog 70 [ptr M.c,.agg cs.toArray] w fun r w'=>pu w' S M E r (match cG E e.args st with
    | .error x=>.error x
    | .ok y=>if ((y.1.headD default).kind != 1&&(y.1.headD default).kind != 4)=true then .error 83 else fL E e.alts (y.1.headD default) e.alts 0 default y.2)∧Mod M.two w w':=by
 obtain ⟨aiC,ab0,lV⟩:=h.cap;obtain ⟨vt,va,vb,vl,rfl,ht,ha,hb,hl⟩:=h.parts;obtain ⟨aa,ca,rfl⟩:=a8 ha;obtain ⟨al,cl,rfl⟩:=a8 hl;have kY:=du hl;cases ab0;refine YQ.calls rfl ?_;unfold H4;(try simp only [go_sem,simprocAttr]);refine bB rfl ?_;intro wa je jf ot;(try simp only [go_sem,simprocAttr]);refine cQ ?_;intro wb aZ fI xk;have aO:=fI.at je _root_.id;have sd:=jf.trans fI;have za:=jf.size
 have ko:bL wb (aN S wa.heap.size) M E st.1 st.2:=hc.ext sd (eC za) (fun b hb=>.inl hb) (fun b hb=>by
  rcases hb with h | h
  ·have:=hc.lt b h;omega
  ·omega)
 have Sb:=ko.two;have n3:¬ M.two w.heap.size:=eI hc (Nat.le_refl _);have n4:¬ M.two wa.heap.size:=eI hc za;have lx:e.args.length=1:=by rw [eX];rfl
 have qw:aQ wb (.slice aa e.args.length ca) 7 (Out (aN S wa.heap.size) wb) (bH wb (Out (aN S wa.heap.size) wb)) e.args:=ha.up sd aC (eh (aj sd) (eC za)) (fun _ _ h=>h.ext (aj sd) (eC za));have nK:aQ wb (.slice al e.alts.length cl) 11 (Out (aN S wa.heap.size) wb) (gq wb (Out (aN S wa.heap.size) wb)) e.alts:=hl.up sd aC (eh (aj sd) (eC za)) (fun _ _ h=>h.up sd aC (eh (aj sd) (eC za)));obtain ⟨y5,ca2,ra,ea,kR,Ql⟩:=tz qw (i:=0) (by omega);obtain ⟨rfl,-,-⟩:=b9 ea;have ab1:e.args[0]'(by omega)=x:=by simp [eX]
 rw [ab1] at kR;have b1:(0:Int)≤0∧(0:Int) < e.args.length:=by omega
 rw [Nat.zero_mul,add_zero'] at Ql;have pw:cG E e.args st=(match cj E x st with | .error e=>.error e | .ok y=>.ok ([y.1],y.2)):=by
  rw [eX];simp only [cG];cases cj E x st<;>rfl
 rw [pw];(try simp only [go_sem,simprocAttr,bq,br,cell_of aO,Value.cells,b1,Nat.zero_mul,Ql]);refine aK (by rfl) ?_;refine (ii ko hg kR).mono ?_;rintro r3 wc ⟨mn,j0⟩;have zc:=j0.size;cases bZ:cj E x st with
 | error e3=>
  rw [bZ] at mn;obtain ⟨cz,bA,bR,rfl,gL,DP,Bq,jZ⟩:=mn;(try simp only [go_sem,simprocAttr]);refine di (n:=3) (vs:=cz) rfl bA bR ?_;intro w4 bU aA eA;have gL:(e3 != 0)=true:=by simpa using gL
  (try simp only [go_sem,simprocAttr,gL]);refine gh hc za ((j0.trans (aj aA)).at aZ n4) ((aj sd).trans (j0.trans (aj aA))) (jZ.aB aA) rfl rfl ?_;intro w5 bT aD bm;(try simp only [go_sem,simprocAttr,aE,RV.ev,az (n:=3) bT rfl,aF]);exact ⟨.bad (by simpa using gL) bm,aD⟩
 | ok y1=>
  obtain ⟨of,dA⟩:=y1;have JV:=rR hE gz x _ _ hg bZ;rw [bZ] at mn;obtain ⟨⟨ct,rfl,bz⟩,lX⟩:=mn;(try simp only [go_sem,simprocAttr]);refine di (n:=3) (vs:=ct) rfl bz.len bz.one ?_;intro we bU Eb BC;have vg:Mod M.two wb we:=j0.trans (aj Eb);have JW:=lX.aB Eb;obtain ⟨vo,rfl,JP⟩:=bz.cells;have kk:we.cell? ⟨wc.heap.size,0,none⟩=some (I of.kind):=by rw [cell_of bU];rfl
  have bad:(of.kind != 1&&of.kind != 4)=true→(if (([of].headD default).kind != 1&&([of].headD default).kind != 4)=true then (.error 83:Except Int (Ty×St)) else fL E e.alts ([of].headD default) e.alts 0 default dA) = .error 83:=fun h=>if_pos h
  have dM:(of.kind != 1&&of.kind != 4)=false→(if (([of].headD default).kind != 1&&([of].headD default).kind != 4)=true then (.error 83:Except Int (Ty×St)) else fL E e.alts ([of].headD default) e.alts 0 default dA)=fL E e.alts of e.alts 0 default dA:=fun h=>if_neg (show ¬ (of.kind != 1&&of.kind != 4)=true by rw [h];simp)
  simp only [];(try simp only [go_sem,simprocAttr,kk]);refine AP (fun ρ w'=>we=w'∧ρ.get 33=some (.bool (of.kind != 1&&of.kind != 4))∧ρ.get 0=some (ptr M.c)∧ρ.get 3=some (ptr w.heap.size)∧ρ.get 4=some (ptr wa.heap.size)∧ρ.get 6=some (ptr wc.heap.size)) ?_ ?_
  ·cases h1:of.kind != 1 with
   | false=>(try simp only [go_sem,simprocAttr]);rfl
   | true=>(try simp only [go_sem,simprocAttr,kk])
  rintro ρ _ ⟨rfl,tI,g0,g3,g4,g6⟩;have zwe:=Eb.size;have Qm:Mod M.two w we:=(aj sd).trans vg;cases rp:(of.kind != 1&&of.kind != 4) with
  | true=>
   rw [rp] at tI;rw [bad rp];(try simp only [go_sem,simprocAttr,tI,g0,g3,g4,g6]);refine gh hc za (vg.at aZ n4) Qm JW rfl rfl ?_;intro w5 bT aD bm;(try simp only [go_sem,simprocAttr,aE,RV.ev,az (n:=3) bT rfl,aF]);exact ⟨.bad (by decide) bm,aD⟩
  | false=>
   rw [rp] at tI;rw [dM rp];(try simp only [go_sem,simprocAttr,tI,g0,g3,g4,g6]);refine cQ ?_;intro wf cO j5 hsf;have zf:=j5.size;have Qn:=j5.at (vg.at aO n3) _root_.id;have Ec:=j5.at (vg.at aZ n4) _root_.id;have ab2:=j5.at bU _root_.id;have Ed:∀ b,b < we.heap.size→aN (aN S wa.heap.size) we.heap.size b→aN S wa.heap.size b:=fun b hb hh=>by
    rcases hh with h | h
    ·exact h
    ·omega
   have nQ:bL wf (aN (aN S wa.heap.size) we.heap.size) M E dA.1 dA.2:=JW.ext j5 Ed (fun b hb=>.inl hb) (fun b hb=>by
    rcases hb with h | h
    ·have:=JW.lt b h;omega
    ·omega)
   have Sf:=nQ.two;have no8:∀ b∈M.list,¬ b=we.heap.size:=gK hc (by omega);have BF:∀ b,aN S wa.heap.size b→aN (aN S wa.heap.size) we.heap.size b:=fun b hb=>.inl hb
   have Ee:∀ b∈M.list,aN S wa.heap.size b:=fun b hb=>.inl (hc.bt b hb)
   have j6:aQ wf (.slice al e.alts.length cl) 11 (Out (aN (aN S wa.heap.size) we.heap.size) wf) (gq wf (Out (aN (aN S wa.heap.size) we.heap.size) wf)) e.alts:=
    (nK.up (vg.aT Sb) aM (aU (vg.aT Sb)) (fun _ _ h=>h.up (vg.aT Sb) aM (aU (vg.aT Sb)))).up j5 aC (eh (aj j5) Ed) (fun _ _ h=>h.up j5 aC (eh (aj j5) Ed))
   have ab3:aX wf (Out (aN (aN S wa.heap.size) we.heap.size) wf) [I of.kind,.string of.name,vo] of:=(bz.aB (aj Eb)).ext (aj j5) Ed;have k3:wf.cell? ⟨w.heap.size,6,none⟩=some (.slice al e.alts.length cl):=by rw [cell_of Qn];rfl
   have tJ:∀ {w':World},Mod (aN M.two we.heap.size) wf w'→Mod (aN (aN S wa.heap.size) we.heap.size) wf w':=fun hm=>hm.aT (fun b hb=>by
    rcases hb with h | h
    ·exact Sf b h
    ·exact .inr h)
   have back:∀ {w':World},Mod (aN M.two we.heap.size) wf w'→Mod M.two w w':=fun hm=>(Qm.trans (aj j5)).step hm (fun b hb hl=>by
    rcases hb with h | h
    ·exact h
    ·omega)
   have Ef:¬ aN M.two we.heap.size wa.heap.size:=fun h=>by
    rcases h with h | h
    ·exact n4 h
    ·omega
   have n38:¬ aN M.two we.heap.size w.heap.size:=fun h=>by
    rcases h with h | h
    ·exact n3 h
    ·omega
   have n68:¬ aN M.two we.heap.size wc.heap.size:=fun h=>by
    rcases h with h | h
    ·exact eI hc (by omega) h
    ·omega
   (try simp only [go_sem,simprocAttr,k3])
   refine eQ e.alts.length (fun k ρ w'=>k≤e.alts.length∧Mod (aN M.two we.heap.size) wf w'∧(∃ (first:Ty) (dH:St) (cf:List Value),w'.heap[we.heap.size]? = some (.cells cf.toArray dQ (0,0))∧cf.length=3∧(∀ u∈cf,u.oneCell'=true)∧(k≠0→aX w' (Out (aN (aN S wa.heap.size) we.heap.size) w') cf first)∧bL w' (aN (aN S wa.heap.size) we.heap.size) M E dH.1 dH.2∧cZ E dH.2 ∧
       fL E e.alts of (e.alts.drop k) k first dH=fL E e.alts of e.alts 0 default dA)∧ρ=[(0,ptr M.c),(3,ptr w.heap.size),(4,ptr wa.heap.size),(6,ptr wc.heap.size),(8,ptr we.heap.size),(36,.slice al e.alts.length cl),(37,I e.alts.length),(38,I k)])
    ⟨by omega,.refl _ _,⟨default,dA,cI,cO,rfl,uI,fun h=>absurd rfl h,nQ,JV.2,rfl⟩,rfl⟩ kY ?_ ?_ (by decide) ?_
   ·rintro k _ w5 ⟨hk,_,_,rfl⟩;exact ⟨rfl,rfl,hk⟩
   ·rintro k _ w5 ⟨_,aD,⟨first,dH,cf,JX,jC,pd,JY,bm,oP,halt⟩,rfl⟩ hk;rw [abY hk] at halt;have bk:(0:Int)≤k∧(k:Int) < e.alts.length:=by omega
    have wP:=j6.up (tJ aD) aM (aU (tJ aD)) (fun _ _ h=>h.up (tJ aD) aM (aU (tJ aD)));obtain ⟨tK,ck,rk,ek,yO,Qo,ab4,_⟩:=dL wP hk;obtain ⟨rfl,-,-⟩:=b9 ek;(try simp only [go_sem,simprocAttr,bq,br,bk,ab4]);refine di (n:=11) (vs:=rk) rfl Qo yO.one ?_;intro w6 ff aJ fY;have lF:Mod (aN M.two we.heap.size) wf w6:=aD.trans (aj aJ);have DE:=j6.up (tJ lF) aM (aU (tJ lF)) (fun _ _ h=>h.up (tJ lF) aM (aU (tJ lF)));have uS:=ab3.aB (tJ lF);have k36:w6.cell? ⟨w.heap.size,6,none⟩=some (.slice (some tK) e.alts.length cl):=by rw [cell_of (lF.at Qn n38)];rfl
    have Qp:=lF.at ab2 n68;have ab5:=lF.at Ec Ef;have JZ:=aJ.at JX _root_.id;have xp:=bm.aB aJ;have ab6:bL w6 (aN S wa.heap.size) M E dH.1 dH.2:=xp.sub BF Ee;(try simp only [go_sem,simprocAttr,k36,az (n:=3) Qp rfl]);refine aK (by rfl) ?_;refine (abE hk DE lV uS).mono ?_;rintro _ w7 ⟨rfl,aL⟩;have xq:=lF.trans (aj aL);cases mh:ly e.alts k of with
    | false=>
     rw [if_pos mh] at halt;rw [← halt];(try simp only [go_sem,simprocAttr]);refine gh hc za (aL.at ab5 _root_.id) (back xq) (ab6.aB aL) rfl rfl ?_;intro w8 hb bh qC;(try simp only [go_sem,simprocAttr,aE,RV.ev,az (n:=3) hb rfl,aF]);exact ⟨.bad (by decide) qC,bh⟩
    | true=>
     rw [if_neg (by rw [mh];simp)] at halt;have DW:gq w7 (Out (aN (aN S wa.heap.size) we.heap.size) w7) rk e.alts[k]:=(yO.up (aj aJ) aM (aU (aj aJ))).up (aj aL) aM (aU (aj aL));have ma:e.alts[k].kind=1→of.kind=4:=fun h1=>DL (List.getElem?_eq_getElem hk) mh h1
     (try simp only [go_sem,simprocAttr,az (n:=11) (aL.at ff _root_.id) Qo,az (n:=3) (aL.at Qp _root_.id) rfl]);refine aK (by rfl) ?_;refine (abK hE gz (oA _ (List.getElem_mem hk)) JV.1 ma (xp.aB aL) oP DW (uS.aB (aj aL))).mono ?_;rintro r8 w8 ⟨mq,bh⟩;obtain ⟨cz,u,rfl,bA,bR,cP⟩:=tH mq;have tL:Mod (aN M.two we.heap.size) wf w8:=xq.trans (bh.aT (fun b hb=>.inl hb));have xr:∀ y,mg E of e.alts[k].kind e.alts[k].bg e.alts[k].vars (cj E e.alts[k].body) dH = .ok y→cZ E y.2.2:=fun y hy=>(Px hE JV.1 ma (rR hE gz e.alts[k].body) oP hy).2
     (try simp only [go_sem,simprocAttr]);refine di (n:=3) (vs:=cz) rfl bA bR ?_;intro w9 fy aV gZ;have y6:=tL.trans (aj aV);have z57:=xq.size;have ab7:¬ M.two we.heap.size:=eI hc (by omega);cases iz:mg E of e.alts[k].kind e.alts[k].bg e.alts[k].vars (cj E e.alts[k].body) dH with
     | error e4=>
      rw [iz] at cP halt;obtain ⟨rfl,y7,pz,mW,lB⟩:=cP;have gL:(e4 != 0)=true:=by simpa using y7
      have halt:(Except.error e4:Except Int (Ty×St))=_:=halt;rw [← halt];(try simp only [go_sem,simprocAttr,gL]);refine gh hc za (y6.at Ec Ef) (back y6) ((lB.aB aV).sub BF Ee) rfl rfl ?_;intro cV hb bE qC;(try simp only [go_sem,simprocAttr,aE,RV.ev,az (n:=3) hb rfl,aF]);exact ⟨.bad y7 qC,bE⟩
     | ok y2=>
      obtain ⟨t2,bX⟩:=y2;have Qq:=xr _ iz;rw [iz] at cP halt;obtain ⟨rfl,Bj,lB⟩:=cP;have Qr:=Bj.aB (aj aV);have BE:=lB.aB aV;have J0:w9.heap[we.heap.size]? = some (.cells cf.toArray dQ (0,0)):=aV.at (bh.at (aL.at JZ _root_.id) ab7) _root_.id;have halt:(if k=0 then fL E e.alts of (e.alts.drop (k+1)) (k+1) t2 bX else if fQ t2 first=true then fL E e.alts of (e.alts.drop (k+1)) (k+1) first bX else .error 83)=fL E e.alts of e.alts 0 default dA:=halt;by_cases qB:k=0
      ·rw [if_pos qB] at halt;have yU:((k:Int) == 0)=true:=by simp [qB]
       (try simp only [go_sem,simprocAttr,yU,az (n:=3) fy bA]);refine bN (cs:=cf) rfl rfl J0 bA jC bR ?_;intro cV ab8 bE qp;(try simp only [go_sem,simprocAttr]);exact ⟨hk,y6.trans (bE.aT (fun b hb=>.inr hb)),t2,bX,cz,ab8,bA,bR,fun _=>Qr.aB (bE.aT (fun b hb=>.inr hb)),BE.side bE (fun b hb=>.inr hb) no8,Qq,halt⟩
      ·rw [if_neg qB] at halt;have yU:((k:Int) == 0)=false:=by simpa using qB
       have Qs:aX w9 (Out (aN (aN S wa.heap.size) we.heap.size) w9) cf first:=((((JY qB).aB (aj aJ)).aB (aj aL)).aB (bh.aT (fun b hb=>xp.two b hb))).aB (aj aV);(try simp only [go_sem,simprocAttr,yU,az (n:=3) fy bA,az (n:=3) J0 jC]);refine aK (by rfl) ?_;refine (DA t2 Qr Qs).mono ?_;rintro _ cV ⟨rfl,bE⟩;cases bG:fQ t2 first with
       | false=>
        rw [if_neg (by rw [bG];simp)] at halt;rw [← halt];(try simp only [go_sem,simprocAttr]);refine gh hc za (bE.at (y6.at Ec Ef) _root_.id) (back (y6.trans (aj bE))) ((BE.aB bE).sub BF Ee) rfl rfl ?_;intro gA hb cR qC;(try simp only [go_sem,simprocAttr,aE,RV.ev,az (n:=3) hb rfl,aF]);exact ⟨.bad (by decide) qC,cR⟩
       | true=>
        rw [if_pos bG] at halt;(try simp only [go_sem,simprocAttr]);exact ⟨hk,y6.trans (aj bE),first,bX,cf,bE.at J0 _root_.id,jC,pd,fun _=>Qs.aB (aj bE),BE.aB bE,Qq,halt⟩
   ·rintro _ w5 ⟨_,aD,⟨first,dH,cf,JX,jC,pd,JY,bm,oP,halt⟩,rfl⟩;rw [List.drop_length,fL] at halt;rw [← halt];have hnz:e.alts.length≠0:=fun h=>bw (List.eq_nil_of_length_eq_zero h)
    have lz:=(JY hnz).sub BF;(try simp only [go_sem,simprocAttr,az (n:=3) JX jC]);refine bN (cs:=cI) rfl rfl (aD.at Ec Ef) jC rfl pd ?_;intro w6 hb aJ fY;(try simp only [go_sem,simprocAttr,aE,RV.ev,az (n:=3) hb jC,aF]);exact ⟨qu (bm.sub BF Ee) lz aJ hc.bt (gK hc za),(back aD).step aJ (fun b hb hl=>by omega)⟩
end
section
open Go Go.W
theorem tM {w w':World} {S:Nat→Prop} {M:Ms} {E:Env} {cz:List Value} {u:Value} {x:Except Int (Ty×St)} {b4:Nat} (hk:Kept w (aN S b4) M E cz u x) (bA:cz.length=3) (bR:∀ u∈cz,u.oneCell'=true) (hm:Mod (· = b4) w w') (fE:∀ b∈M.list,S b) (iG:∀ b∈M.list,¬ b=b4) :
   pu w' S M E (.tuple #[.agg cz.toArray,u]) x:=by
 cases x with
 | error e4=>
  obtain ⟨rfl,bw,bd,lc,hc⟩:=hk;exact ⟨cz,bA,bR,rfl,bw,_,_,(hc.side hm (fun b hb=>.inr hb) iG).sub (fun b hb=>.inl hb) fE⟩
 | ok y=>
  obtain ⟨rfl,bz,hc⟩:=hk;exact qu hc bz hm fE iG
theorem Qt {w:World} {S:Nat→Prop} {M:Ms} {E:Env} {r:Value} {x:Except Int Ty} {st:St} (h:DI w S r x) (hc:bL w S M E st.1 st.2):∃ cz u,r = .tuple #[.agg cz.toArray,u]∧cz.length=3∧(∀ u∈cz,u.oneCell'=true)∧Kept w S M E cz u (x.map (fun t=>(t,st))):=by
 cases x with
 | error e4=>obtain ⟨cz,bA,bR,rfl,bw⟩:=h;exact ⟨cz,_,rfl,bA,bR,rfl,bw,_,_,hc⟩
 | ok y1=>obtain ⟨cz,rfl,bz⟩:=h;exact ⟨cz,_,rfl,bz.len,bz.one,rfl,bz,hc⟩
theorem ab9 {E:Env} (hE:kD E) (gz:dm E iA 0=false) (e:Ex):rT E e:=by
 induction e using Ex.ind with
 | h e eZ mj mT=>
 intro w S M st cs hc hg he;obtain ⟨vt,va,vb,vl,rfl,ht,ha,hb,hl⟩:=he.parts;obtain ⟨at',ct,rfl⟩:=a8 ht;obtain ⟨aa,ca,rfl⟩:=a8 ha;refine Yg.calls rfl ?_;unfold HH;(try simp only [go_sem,simprocAttr]);refine bB rfl ?_;intro wa je jf ot;(try simp only [go_sem,simprocAttr]);refine cQ ?_;intro w2 aZ fI xk;have aO:=fI.at je _root_.id;have aY:=jf.trans fI;have za:=jf.size
 have iY:bL w2 (aN S wa.heap.size) M E st.1 st.2:=hc.ext aY (eC za) (fun b hb=>.inl hb) (fun b hb=>by
  rcases hb with h | h
  ·have:=hc.lt b h;omega
  ·omega)
 have n4:¬ M.two wa.heap.size:=eI hc za;have ur:=he.ext (aj aY) (eC za);(try simp only [go_sem,simprocAttr,az (n:=7) aO rfl]);refine aK (by rfl) ?_;refine (aaR e ur).mono ?_;rintro _ w3 ⟨rfl,ar⟩;have bo:=aY.trans ar;have cr:=iY.aB ar;have rX:=ur.aB (aj ar);have aO:=ar.at aO _root_.id;have aZ:=ar.at aZ _root_.id;have z3:=bo.size;have J1:=ar.size;have zh:w2.heap.size=wa.heap.size+1:=xk;by_cases hf:jx e=false
 ·rw [kE,if_pos hf];(try simp only [go_sem,simprocAttr,hf]);refine gh hc za aZ (aj bo) cr rfl rfl ?_;intro w5 bT aD bm;(try simp only [go_sem,simprocAttr,aE,RV.ev,az (n:=3) bT rfl,aF]);exact ⟨.bad (by decide) bm,aD⟩
 have gS:jx e=true:=by simpa using hf
 have F:=Bo gS;have kk:w3.cell? ⟨w.heap.size,0,none⟩=some (I e.kind):=by rw [cell_of aO];rfl
 have kn:w3.cell? ⟨w.heap.size,1,none⟩=some (.string e.name):=by rw [cell_of aO];rfl
 have kt:w3.cell? ⟨w.heap.size,3,none⟩=some (.slice at' e.types.length ct):=by rw [cell_of aO];rfl
 have ka:w3.cell? ⟨w.heap.size,4,none⟩=some (.slice aa e.args.length ca):=by rw [cell_of aO];rfl
 have y8:=az (n:=7) aO rfl;have uB:=F.uB;obtain ⟨J2,kI,g',tN,oQ,y9,uN,-,-⟩:=rX.parts
 injection oQ with _ oQ
 injection oQ with _ oQ
 injection oQ with _ oQ
 injection oQ with e2' oQ
 injection oQ with e3' _
 subst e2' e3';have zr:∀ p∈[(5,w.heap.size),(3,M.c)],p.2 < w3.drew.heap.size:=fun p hp=>by
  have e:w3.drew.heap.size=w3.heap.size:=rfl;simp only [List.mem_cons,List.not_mem_nil,or_false] at hp;rcases hp with rfl | rfl
  ·show w.heap.size < _;omega
  ·have:=cr.lt _ (cr.bt M.c (by simp [Ms.list]));show M.c < _;omega
 (try simp only [go_sem,simprocAttr,gS]);have ab':e.kind=1∨e.kind=2∨e.kind=3∨e.kind=4∨e.kind=5∨e.kind=6∨e.kind=7∨e.kind=8∨e.kind=9∨e.kind=10∨e.kind=11∨e.kind=12:=by omega
 rcases ab' with hk | hk | hk | hk | hk | hk | hk | hk | hk | hk | hk | hk
 ·
  rw [kE,if_neg hf];rw [if_pos hk];rw [hk] at kk;have q1:((1:Int) == 1)=true:=rfl;(try simp only [go_sem,simprocAttr,kk,q1,cell_of cr.box,kn]);have rY:=cr.aB (Mod.refl (fun _=>False) w3).drew;refine D3 (Rr:=rO w3.drew (Out (aN S wa.heap.size) w3.drew)) (k:=e.name) (b0:=M.ml) (kt:=9) (et:=dQ) (zc:=cI) rfl rfl rfl rfl (fun w=>Tryz.zeroValue42 w) ⟨rfl,uI⟩ rfl rY.locals
   (fun v y hr=>by obtain ⟨cs,rfl,bz⟩:=hr;exact ⟨cs,rfl,bz.len,bz.one⟩) zr (by decide) ?_
  intro w4 oO cz u hold g6 g7 bU nU bA bR tq;have aA:Mod (fun _=>False) w3 w4:=nU.ez;have g4:oO.get 4=some (ptr wa.heap.size):=(hold 4 (by decide)).trans rfl;have aZ:=aA.at aZ _root_.id;have jA:=cr.aB aA;have g6:oO.get 6=some (ptr w3.heap.size):=g6;have bU:w4.heap[w3.heap.size]? = some (.cells cz.toArray dQ (0,0)):=bU;have eG:=(aj bo (S:=M.two)).trans (aj aA);rcases tq with ⟨hn,rfl⟩ | ⟨x,hx,hr,rfl⟩
  ·rw [hn];(try simp only [go_sem,simprocAttr,g4,g6,g7]);refine gh hc za aZ eG jA rfl rfl ?_;intro w5 bT aD bm;(try simp only [go_sem,simprocAttr,aE,RV.ev,az (n:=3) bT rfl,aF]);exact ⟨.bad (by decide) bm,aD⟩
  ·rw [hx];obtain ⟨iW,qD,bz⟩:=hr;have qD:cz=iW:=by have:=congrArg Array.toList (show cz.toArray=iW.toArray by cases qD;rfl);simpa using this
   subst qD;(try simp only [go_sem,simprocAttr,g4,g6,g7,az (n:=3) bU bA]);refine bN (cs:=cI) rfl rfl aZ bA rfl bR ?_;intro w5 hb aD eB;(try simp only [go_sem,simprocAttr,aE,RV.ev,az (n:=3) hb bA,aF]);exact ⟨qu jA (bz.aB (aj nU)) aD hc.bt (gK hc za),eG.step aD (fun b hb hl=>by omega)⟩
 ·
  rw [kE,if_neg hf];rw [if_neg (show ¬ e.kind=1 by omega)];rw [if_pos hk];rw [hk] at kk;have q1:((2:Int) == 1)=false:=rfl;have q2:((2:Int) == 2)=true:=rfl;(try simp only [go_sem,simprocAttr,kk,q1,q2]);refine aK (by rfl) ?_;refine O0.mono ?_;rintro _ w4 ⟨rfl,aA⟩;(try simp only [go_sem,simprocAttr]);refine bN (cs:=cI) (vs:=fZ 1 bD) rfl rfl (aA.at aZ _root_.id) rfl rfl (nO _ _) ?_;intro w5 hb aD eB;(try simp only [go_sem,simprocAttr,aE,RV.ev,az (n:=3) (cs:=fZ 1 bD) hb rfl,aF]);exact ⟨qu (cr.aB aA) (nM _ _ 1 bD) aD hc.bt (gK hc za),((aj bo).trans (aj aA)).step aD (fun b hb hl=>by omega)⟩
 ·
  rw [kE,if_neg hf];rw [if_neg (show ¬ e.kind=1 by omega)];rw [if_neg (show ¬ e.kind=2 by omega)];rw [if_pos hk];rw [hk] at kk;have q1:((3:Int) == 1)=false:=rfl;have q2:((3:Int) == 2)=false:=rfl;have q3:((3:Int) == 3)=true:=rfl;(try simp only [go_sem,simprocAttr,kk,q1,q2,q3,cell_of cr.box,kn]);have rY:=cr.aB (Mod.refl (fun _=>False) w3).drew;refine Bh (R:=rN w3.drew (Out (aN S wa.heap.size) w3.drew)) (k:=e.name) (b:=M.mf) (kt:=9) (et:=122) rfl rfl rfl rfl (Tryz.zeroValue122 _) rY.an (fun hn=>?_) (fun v d hd hr=>?_)
  ·rw [hn];(try simp only [go_sem,simprocAttr]);refine gh (w3:=w3.drew) hc za aZ ((aj bo).trans (Mod.refl _ _).drew) rY rfl rfl ?_;intro w5 bT aD bm;(try simp only [go_sem,simprocAttr,aE,RV.ev,az (n:=3) bT rfl,aF]);exact ⟨.bad (by decide) bm,aD⟩
  ·rw [hd];obtain ⟨ad,rfl,A9⟩:=hr;obtain ⟨cf,nQ,vp,tc,bc,rfl,bV,jW,fW,bz,aiD,_⟩:=A9;have hlen:(Value.string d.name::vp::(tc++bc)).length=12:=by simp [bV,jW]
   have k1:=nQ.at (k:=1) (by omega);have k2:=nQ.ln (o:=2) (n:=3) (by omega);have k1:w3.cell? ⟨ad.block,ad.off+1,none⟩=some vp:=k1;have k2:fV w3 3 (.pointer (some ⟨ad.block,ad.off+2,none⟩))=some (.agg tc.toArray):=by
    rw [← ci,k2];have:((Value.string d.name::vp::(tc++bc)).drop 2).take 3=tc:=by simp [List.take_append_of_le_length,bV]
    rw [this]
   (try simp only [go_sem,simprocAttr,k1,k2,kt]);have d1:Mod (aN S wa.heap.size) w3 w3.drew:=(Mod.refl _ _).drew;have d2:Mod (aN S wa.heap.size) w3.drew w3.drew.drew:=(Mod.refl _ _).drew;have d3:Mod (fun _=>False) w3.drew w3.drew.drew:=(Mod.refl _ _).drew;refine aK (by rfl) ?_;refine (Pk d.type (rY.aB d3) (bz.aB d2) (fW.up d2 aM (aU d2) (fun _ _ h=>h)) (wU y9 (d1.trans d2))).mono ?_;rintro r w5 ⟨hr,aD⟩;obtain ⟨cz,u,rfl,bA,bR,cP⟩:=Qt hr ((rY.aB d3).aB aD);(try simp only [go_sem,simprocAttr]);refine bN (cs:=cI) rfl rfl (aD.at aZ _root_.id) bA rfl bR ?_;intro w6 hb aJ fY;(try simp only [go_sem,simprocAttr,aE,RV.ev,az (n:=3) hb bA,aF]);exact ⟨tM cP bA bR aJ hc.bt (gK hc za),(((aj bo (S:=M.two)).trans (aj ((Mod.refl (fun _=>False) w3).drew.trans d3))).trans (aj aD)).step aJ (fun b hb hl=>by omega)⟩
 ·
  rw [kE,if_neg hf];rw [if_neg (show ¬ e.kind=1 by omega)];rw [if_neg (show ¬ e.kind=2 by omega)];rw [if_neg (show ¬ e.kind=3 by omega)];rw [if_pos hk];rw [hk] at kk;have q1:((4:Int) == 1)=false:=rfl;have q2:((4:Int) == 2)=false:=rfl;have q3:((4:Int) == 3)=false:=rfl;have q4:((4:Int) == 4)=true:=rfl;(try simp only [go_sem,simprocAttr,kk,q1,q2,q3,q4,cell_of cr.box,kn]);have rY:=cr.aB (Mod.refl (fun _=>False) w3).drew;refine D3 (Rr:=qt w3.drew (Out (aN S wa.heap.size) w3.drew)) (k:=e.name) (b0:=M.mc) (kt:=9) (et:=158) (zc:=[.pointer none,I 0]) rfl rfl rfl rfl (fun w=>Tryz.zeroValue158 w) ⟨rfl,aW rfl (aW rfl dy)⟩ rfl rY.cons
   (fun v y hr=>by obtain ⟨ad,rfl,_⟩:=hr;exact ⟨[.pointer (some ad),I y.2],rfl,rfl,aW rfl (aW rfl dy)⟩) zr (by decide) ?_
  intro w4 oO cz u hold g10 g11 ff nU Be bR tq;have aA:Mod (fun _=>False) w3 w4:=nU.ez;have g0:oO.get 0=some (ptr M.c):=(hold 0 (by decide)).trans rfl;have g3:oO.get 3=some (ptr w.heap.size):=(hold 3 (by decide)).trans rfl;have g4:oO.get 4=some (ptr wa.heap.size):=(hold 4 (by decide)).trans rfl;have aZ:=aA.at aZ _root_.id;have jA:=cr.aB aA;have g10:oO.get 10=some (ptr w3.heap.size):=g10;have ff:w4.heap[w3.heap.size]? = some (.cells cz.toArray 158 (0,0)):=ff;have eG:=(aj bo (S:=M.two)).trans (aj aA);rcases tq with ⟨hn,rfl⟩ | ⟨x,hx,⟨ad,xn,rZ,iz⟩,rfl⟩
  ·rw [hn];(try simp only [go_sem,simprocAttr,g0,g3,g4,g10,g11]);refine gh hc za aZ eG jA rfl rfl ?_;intro w5 bT aD bm;(try simp only [go_sem,simprocAttr,aE,RV.ev,az (n:=3) bT rfl,aF]);exact ⟨.bad (by decide) bm,aD⟩
  ·rw [hx];have xn:cz=[.pointer (some ad),I x.2]:=by
    have:cz.toArray = #[.pointer (some ad),I x.2]:=by cases xn;rfl
    have:=congrArg Array.toList this
    simpa using this
   subst xn;have Qu:qs w4 (Out (aN S wa.heap.size) w4) ad x.1:=rZ.up (aj nU) aM (aU (aj nU));have aca:=Qu;obtain ⟨cs,bJ,vp,vc,rfl,gg,gJ⟩:=Qu;have k1:w4.cell? ⟨ad.block,ad.off+1,none⟩=some vp:=bJ.at (k:=1) (by simp);have kt4:=aA.cell kt _root_.id;have Qv:w4.cell? ⟨w3.heap.size,0,none⟩=some (.pointer (some ad)):=by rw [cell_of ff];rfl
   (try simp only [go_sem,simprocAttr,g0,g3,g4,g10,g11,Qv,k1,kt4,az (n:=2) ff rfl]);have dd:Mod (fun _=>False) w4 w4.drew:=(Mod.refl _ _).drew;have JG:=jA.aB dd;have hS:∀ b,aN S wa.heap.size b→b < w4.drew.heap.size:=JG.lt;refine aK (by rfl) ?_;refine (aa6 x.1 x.2 (aca.up (aj dd) aM (aU (aj dd))) iz hS).mono ?_;rintro _ w5' ⟨⟨cq,rfl,htq⟩,hmq⟩;have tO:Mod (fun _=>False) w4 w5':=dd.trans hmq;have acb:=lW k1;have J3:=aA.size;have acd:=lW Qv;(try simp only [go_sem,simprocAttr]);refine ⟨⟨tO.bY _ (by omega) _root_.id,tO.bY _ acb _root_.id,tO.bY _ acd _root_.id⟩,?_⟩;refine aK (by rfl) ?_;have ht5:=wU (wU y9 (aj aA)) (aj tO);have ace:=gg.up (aj tO) aM (aU (aj tO)) (fun _ _ h=>h);have iO:=jA.aB tO;have aZ:=tO.at aZ _root_.id;have eS:=eG.trans (aj tO);refine (Pk (qq x.1 x.2) iO htq ace ht5).mono ?_;rintro r w7 ⟨hr,aL⟩;obtain ⟨cz,u,rfl,bA,bR,cP⟩:=Qt hr (iO.aB aL);(try simp only [go_sem,simprocAttr]);refine bN (cs:=cI) rfl rfl (aL.at aZ _root_.id) bA rfl bR ?_;intro w6 hb aJ fY;(try simp only [go_sem,simprocAttr,aE,RV.ev,az (n:=3) hb bA,aF]);exact ⟨tM cP bA bR aJ hc.bt (gK hc za),(eS.trans (aj aL)).step aJ (fun b hb hl=>by omega)⟩
 ·
  rw [kE,if_neg hf];rw [if_neg (show ¬ e.kind=1 by omega)];rw [if_neg (show ¬ e.kind=2 by omega)];rw [if_neg (show ¬ e.kind=3 by omega)];rw [if_neg (show ¬ e.kind=4 by omega)];rw [if_neg (show ¬ e.kind=12 by omega)];rw [if_pos hk];rw [hk] at kk;have q1:((5:Int) == 1)=false:=rfl;have q2:((5:Int) == 2)=false:=rfl;have q3:((5:Int) == 3)=false:=rfl;have q4:((5:Int) == 4)=false:=rfl;have mX:((5:Int) == 12)=false:=rfl;have q5:((5:Int) == 5)=true:=rfl;obtain ⟨x,y,jq⟩:=DO (F.a2 (by omega));(try simp only [go_sem,simprocAttr,kk,q1,q2,q3,q4,mX,q5,y8]);refine aK (by rfl) ?_;refine (abk hE gz jq (eZ x (by simp [jq])) (eZ y (by simp [jq])) cr hg rX).mono ?_;rintro r w4 ⟨hr,aA⟩;obtain ⟨cz,u,rfl,bA,bR,cP⟩:=tH hr;(try simp only [go_sem,simprocAttr]);refine bN (cs:=cI) rfl rfl (aA.at aZ n4) bA rfl bR ?_;intro w5 hb aD eB;(try simp only [go_sem,simprocAttr,aE,RV.ev,az (n:=3) hb bA,aF]);exact ⟨tM cP bA bR aD hc.bt (gK hc za),((aj bo).trans aA).step aD (fun b hb hl=>by omega)⟩
 ·
  rw [kE,if_neg hf];rw [if_neg (show ¬ e.kind=1 by omega)];rw [if_neg (show ¬ e.kind=2 by omega)];rw [if_neg (show ¬ e.kind=3 by omega)];rw [if_neg (show ¬ e.kind=4 by omega)];rw [if_neg (show ¬ e.kind=12 by omega)];rw [if_neg (show ¬ e.kind=5 by omega)];rw [if_neg (show ¬ e.kind=9 by omega)];rw [if_neg (show ¬ e.kind=10 by omega)];rw [if_pos hk];rw [hk] at kk;have q1:((6:Int) == 1)=false:=rfl;have q2:((6:Int) == 2)=false:=rfl;have q3:((6:Int) == 3)=false:=rfl;have q4:((6:Int) == 4)=false:=rfl;have mX:((6:Int) == 12)=false:=rfl;have q5:((6:Int) == 5)=false:=rfl;have q9:((6:Int) == 9)=false:=rfl;have qE:((6:Int) == 10)=false:=rfl;have q6:((6:Int) == 6)=true:=rfl;obtain ⟨x,eX⟩:=yT (F.a1 (by omega));obtain ⟨b,kG⟩:=yT (F.b1 (by omega));rw [kG];(try simp only [go_sem,simprocAttr,kk,q1,q2,q3,q4,mX,q5,q9,qE,q6,y8]);refine aK (by rfl) ?_;refine (abp hE gz eX kG (eZ x (by simp [eX])) cr hg rX).mono ?_;rintro r w4 ⟨hr,aA⟩;obtain ⟨cz,u,rfl,bA,bR,cP⟩:=tH hr;(try simp only [go_sem,simprocAttr]);refine bN (cs:=cI) rfl rfl (aA.at aZ n4) bA rfl bR ?_;intro w5 hb aD eB;(try simp only [go_sem,simprocAttr,aE,RV.ev,az (n:=3) hb bA,aF]);exact ⟨tM cP bA bR aD hc.bt (gK hc za),((aj bo).trans aA).step aD (fun b hb hl=>by omega)⟩
 ·
  rw [kE,if_neg hf];rw [if_neg (show ¬ e.kind=1 by omega)];rw [if_neg (show ¬ e.kind=2 by omega)];rw [if_neg (show ¬ e.kind=3 by omega)];rw [if_neg (show ¬ e.kind=4 by omega)];rw [if_neg (show ¬ e.kind=12 by omega)];rw [if_neg (show ¬ e.kind=5 by omega)];rw [if_neg (show ¬ e.kind=9 by omega)];rw [if_neg (show ¬ e.kind=10 by omega)];rw [if_neg (show ¬ e.kind=6 by omega)];rw [if_pos (show e.kind=7∨e.kind=11 by omega)];rw [hk] at kk;have q1:((7:Int) == 1)=false:=rfl;have q2:((7:Int) == 2)=false:=rfl;have q3:((7:Int) == 3)=false:=rfl;have q4:((7:Int) == 4)=false:=rfl;have mX:((7:Int) == 12)=false:=rfl;have q5:((7:Int) == 5)=false:=rfl;have q9:((7:Int) == 9)=false:=rfl;have qE:((7:Int) == 10)=false:=rfl;have q6:((7:Int) == 6)=false:=rfl;have q7:((7:Int) == 7)=true:=rfl;obtain ⟨x,eX⟩:=yT (F.a1 (by omega));(try simp only [go_sem,simprocAttr,kk,q1,q2,q3,q4,mX,q5,q9,qE,q6,q7,y8]);refine aK (by rfl) ?_;refine (PU hE gz eX (eZ x (by simp [eX])) mj cr hg rX).mono ?_;rintro r w4 ⟨hr,aA⟩;obtain ⟨cz,u,rfl,bA,bR,cP⟩:=tH hr;(try simp only [go_sem,simprocAttr]);refine bN (cs:=cI) rfl rfl (aA.at aZ n4) bA rfl bR ?_;intro w5 hb aD eB;(try simp only [go_sem,simprocAttr,aE,RV.ev,az (n:=3) hb bA,aF]);exact ⟨tM cP bA bR aD hc.bt (gK hc za),((aj bo).trans aA).step aD (fun b hb hl=>by omega)⟩
 ·
  rw [kE,if_neg hf];rw [if_neg (show ¬ e.kind=1 by omega)];rw [if_neg (show ¬ e.kind=2 by omega)];rw [if_neg (show ¬ e.kind=3 by omega)];rw [if_neg (show ¬ e.kind=4 by omega)];rw [if_neg (show ¬ e.kind=12 by omega)];rw [if_neg (show ¬ e.kind=5 by omega)];rw [if_neg (show ¬ e.kind=9 by omega)];rw [if_neg (show ¬ e.kind=10 by omega)];rw [if_neg (show ¬ e.kind=6 by omega)];rw [if_neg (show ¬ (e.kind=7∨e.kind=11) by omega)];rw [hk] at kk;have q1:((8:Int) == 1)=false:=rfl;have q2:((8:Int) == 2)=false:=rfl;have q3:((8:Int) == 3)=false:=rfl;have q4:((8:Int) == 4)=false:=rfl;have mX:((8:Int) == 12)=false:=rfl;have q5:((8:Int) == 5)=false:=rfl;have q9:((8:Int) == 9)=false:=rfl;have qE:((8:Int) == 10)=false:=rfl;have q6:((8:Int) == 6)=false:=rfl;have q7:((8:Int) == 7)=false:=rfl;have J4:((8:Int) == 11)=false:=rfl;obtain ⟨x,eX⟩:=yT (F.a1 (by omega));(try simp only [go_sem,simprocAttr,kk,q1,q2,q3,q4,mX,q5,q9,qE,q6,q7,J4,y8]);refine aK (by rfl) ?_;refine (abZ hE gz eX (fun h=>by have:=F.al hk;rw [h] at this;simp at this) (eZ x (by simp [eX])) mT cr hg rX).mono ?_;rintro r w4 ⟨hr,aA⟩;obtain ⟨cz,u,rfl,bA,bR,cP⟩:=tH hr;(try simp only [go_sem,simprocAttr]);refine bN (cs:=cI) rfl rfl (aA.at aZ n4) bA rfl bR ?_;intro w5 hb aD eB;(try simp only [go_sem,simprocAttr,aE,RV.ev,az (n:=3) hb bA,aF]);exact ⟨tM cP bA bR aD hc.bt (gK hc za),((aj bo).trans aA).step aD (fun b hb hl=>by omega)⟩
 ·
  rw [kE,if_neg hf];rw [if_neg (show ¬ e.kind=1 by omega)];rw [if_neg (show ¬ e.kind=2 by omega)];rw [if_neg (show ¬ e.kind=3 by omega)];rw [if_neg (show ¬ e.kind=4 by omega)];rw [if_neg (show ¬ e.kind=12 by omega)];rw [if_neg (show ¬ e.kind=5 by omega)];rw [if_pos hk];rw [hk] at kk;have q1:((9:Int) == 1)=false:=rfl;have q2:((9:Int) == 2)=false:=rfl;have q3:((9:Int) == 3)=false:=rfl;have q4:((9:Int) == 4)=false:=rfl;have mX:((9:Int) == 12)=false:=rfl;have q5:((9:Int) == 5)=false:=rfl;have q9:((9:Int) == 9)=true:=rfl;(try simp only [go_sem,simprocAttr,kk,q1,q2,q3,q4,mX,q5,q9,y8]);refine aK (by rfl) ?_;refine (abm hE gz (F.a2 (by omega)) (F.op hk) eZ cr hg rX).mono ?_;rintro r w4 ⟨hr,aA⟩;obtain ⟨cz,u,rfl,bA,bR,cP⟩:=tH hr;(try simp only [go_sem,simprocAttr]);refine bN (cs:=cI) rfl rfl (aA.at aZ n4) bA rfl bR ?_;intro w5 hb aD eB;(try simp only [go_sem,simprocAttr,aE,RV.ev,az (n:=3) hb bA,aF]);exact ⟨tM cP bA bR aD hc.bt (gK hc za),((aj bo).trans aA).step aD (fun b hb hl=>by omega)⟩
 ·
  rw [kE,if_neg hf];rw [if_neg (show ¬ e.kind=1 by omega)];rw [if_neg (show ¬ e.kind=2 by omega)];rw [if_neg (show ¬ e.kind=3 by omega)];rw [if_neg (show ¬ e.kind=4 by omega)];rw [if_neg (show ¬ e.kind=12 by omega)];rw [if_neg (show ¬ e.kind=5 by omega)];rw [if_neg (show ¬ e.kind=9 by omega)];rw [if_pos hk];rw [hk] at kk;have q1:((10:Int) == 1)=false:=rfl;have q2:((10:Int) == 2)=false:=rfl;have q3:((10:Int) == 3)=false:=rfl;have q4:((10:Int) == 4)=false:=rfl;have mX:((10:Int) == 12)=false:=rfl;have q5:((10:Int) == 5)=false:=rfl;have q9:((10:Int) == 9)=false:=rfl;have qE:((10:Int) == 10)=true:=rfl;obtain ⟨x,y,jq⟩:=DO (F.a2 (by omega));have fC:e.args.length=2:=by rw [jq];rfl
  have b1:(0:Int)≤0∧(0:Int) < e.args.length:=by omega
  have b2:(0:Int)≤1∧(1:Int) < e.args.length:=by omega
  obtain ⟨ad,c1,r1,e1,hx,oK⟩:=tz uN (i:=0) (by omega);obtain ⟨rfl,-,-⟩:=b9 e1;have xg:e.args[0]'(by omega)=x:=by simp [jq]
  have Bp:e.args[1]'(by omega)=y:=by simp [jq]
  rw [xg] at hx;rw [Nat.zero_mul,add_zero'] at oK;rw [jq];simp only [cG];(try simp only [go_sem,simprocAttr,bq,br,kk,q1,q2,q3,q4,mX,q5,q9,qE,ka,b1,Nat.zero_mul,oK]);refine aK (by rfl) ?_;refine (eZ x (by simp [jq]) cr hg hx).mono ?_;rintro r4 w4 ⟨mo,aA⟩;cases bZ:cj E x st with
  | error e3=>
   rw [bZ] at mo;obtain ⟨cz,bA,bR,rfl,bw,DP,Bq,jZ⟩:=mo;(try simp only [go_sem,simprocAttr]);refine di (n:=3) (vs:=cz) rfl bA bR ?_;intro w5 bT aD eB;have gL:(e3 != 0)=true:=by simpa using bw
   (try simp only [go_sem,simprocAttr,gL]);refine gh hc za ((aA.trans (aj aD)).at aZ n4) ((aj bo).trans (aA.trans (aj aD))) (jZ.aB aD) rfl rfl ?_;intro w6 bU aJ bm;(try simp only [go_sem,simprocAttr,aE,RV.ev,az (n:=3) bU rfl,aF]);exact ⟨.bad bw bm,aJ⟩
  | ok y1=>
   obtain ⟨t1,dA⟩:=y1;rw [bZ] at mo;obtain ⟨⟨c4,rfl,xm⟩,jA⟩:=mo;have g1:=rR hE gz x st _ hg bZ;(try simp only [go_sem,simprocAttr]);refine di (n:=3) (vs:=c4) rfl xm.len xm.one ?_;intro w5 bT aD eB;have iO:=jA.aB aD;have eT:=aA.trans (aj aD);have S2:=cr.two;have aO:=eT.at aO (eI hc (Nat.le_refl _));have ka5:w5.cell? ⟨w.heap.size,4,none⟩=some (.slice (some ad) e.args.length ca):=by rw [cell_of aO];rfl
   have JI:aQ w5 (.slice (some ad) e.args.length ca) 7 (Out (aN S wa.heap.size) w5) (bH w5 (Out (aN S wa.heap.size) w5)) e.args:=uN.up eT (fun b hb hh=>hb.2 (S2 b hh)) (aU (eT.aT S2)) (fun _ _ h=>h.aB (eT.aT S2));obtain ⟨Di,DH,r2,e2,hy,Br⟩:=tz JI (i:=1) (by omega);obtain ⟨e3,-,-⟩:=b9 e2;cases e3;rw [Bp] at hy;rw [Nat.one_mul,add_pos _ (n:=7) (by decide)] at Br;(try simp only [go_sem,simprocAttr,bq,br,ka5,b2,Int.toNat_one,Nat.one_mul,Br]);refine aK (by rfl) ?_;refine (eZ y (by simp [jq]) (st:=dA) iO g1.2 hy).mono ?_;rintro r6 w6 ⟨oJ,aJ⟩;obtain ⟨cz,u,rfl,bA,bR,cP⟩:=tH oJ;have yX:=eT.trans aJ;(try simp only [go_sem,simprocAttr]);refine bN (cs:=cI) rfl rfl (yX.at aZ n4) bA rfl bR ?_;intro w7 hb aL iL;(try simp only [go_sem,simprocAttr,aE,RV.ev,az (n:=3) hb bA,aF]);have hX:(match (match cj E y dA with | .error x=>.error x | .ok y=>(match (.ok ([],y.2):Except Int (List Ty×St)) with | .error x=>.error x | .ok z=>.ok (y.1::z.1,z.2)):Except Int (List Ty×St)) with | .error x=>(.error x:Except Int (List Ty×St)) | .ok z=>.ok (t1::z.1,z.2))=(match cj E y dA with | .error x=>.error x | .ok y=>.ok ([t1,y.1],y.2)):=by
    cases cj E y dA<;>rfl
   refine ⟨?_,((aj bo).trans yX).step aL (fun b hb hl=>by omega)⟩;have hR:=tM cP bA bR aL hc.bt (gK hc za);cases xh:cj E y dA with
   | error e=>rw [xh] at hR;exact hR
   | ok y2=>rw [xh] at hR;exact hR
 ·
  rw [kE,if_neg hf];rw [if_neg (show ¬ e.kind=1 by omega)];rw [if_neg (show ¬ e.kind=2 by omega)];rw [if_neg (show ¬ e.kind=3 by omega)];rw [if_neg (show ¬ e.kind=4 by omega)];rw [if_neg (show ¬ e.kind=12 by omega)];rw [if_neg (show ¬ e.kind=5 by omega)];rw [if_neg (show ¬ e.kind=9 by omega)];rw [if_neg (show ¬ e.kind=10 by omega)];rw [if_neg (show ¬ e.kind=6 by omega)];rw [if_pos (show e.kind=7∨e.kind=11 by omega)];rw [hk] at kk;have q1:((11:Int) == 1)=false:=rfl;have q2:((11:Int) == 2)=false:=rfl;have q3:((11:Int) == 3)=false:=rfl;have q4:((11:Int) == 4)=false:=rfl;have mX:((11:Int) == 12)=false:=rfl;have q5:((11:Int) == 5)=false:=rfl;have q9:((11:Int) == 9)=false:=rfl;have qE:((11:Int) == 10)=false:=rfl;have q6:((11:Int) == 6)=false:=rfl;have q7:((11:Int) == 7)=false:=rfl;have J4:((11:Int) == 11)=true:=rfl;obtain ⟨x,eX⟩:=yT (F.a1 (by omega));(try simp only [go_sem,simprocAttr,kk,q1,q2,q3,q4,mX,q5,q9,qE,q6,q7,J4,y8]);refine aK (by rfl) ?_;refine (PU hE gz eX (eZ x (by simp [eX])) mj cr hg rX).mono ?_;rintro r w4 ⟨hr,aA⟩;obtain ⟨cz,u,rfl,bA,bR,cP⟩:=tH hr;(try simp only [go_sem,simprocAttr]);refine bN (cs:=cI) rfl rfl (aA.at aZ n4) bA rfl bR ?_;intro w5 hb aD eB;(try simp only [go_sem,simprocAttr,aE,RV.ev,az (n:=3) hb bA,aF]);exact ⟨tM cP bA bR aD hc.bt (gK hc za),((aj bo).trans aA).step aD (fun b hb hl=>by omega)⟩
 ·
  rw [kE,if_neg hf];rw [if_neg (show ¬ e.kind=1 by omega)];rw [if_neg (show ¬ e.kind=2 by omega)];rw [if_neg (show ¬ e.kind=3 by omega)];rw [if_neg (show ¬ e.kind=4 by omega)];rw [if_pos hk];rw [hk] at kk;have q1:((12:Int) == 1)=false:=rfl;have q2:((12:Int) == 2)=false:=rfl;have q3:((12:Int) == 3)=false:=rfl;have q4:((12:Int) == 4)=false:=rfl;have mX:((12:Int) == 12)=true:=rfl;obtain ⟨t0,Eg⟩:=yT (F.t1 hk);have Qw:e.types[0]'(by rw [Eg];simp)=t0:=by simp [Eg]
  rw [Eg];have nL:e.types.length=1:=by rw [Eg];rfl
  obtain ⟨ad,c1,r1,e1,bz,mn,aP,_⟩:=dL y9 (i:=0) (by omega);obtain ⟨rfl,-,-⟩:=b9 e1;rw [Qw] at bz;rw [Nat.zero_mul,add_zero'] at aP;have b1:(0:Int)≤0∧(0:Int) < e.types.length:=by omega
  (try simp only [go_sem,simprocAttr,bq,br,kk,q1,q2,q3,q4,mX,kt,b1,Nat.zero_mul,aP]);refine aK (by rfl) ?_;refine (Bk t0 cr bz).mono ?_;rintro _ w5 ⟨rfl,aD⟩;have iO:=cr.aB aD;have aZ:=aD.at aZ _root_.id;have lz:=bz.aB (aj aD);have kt5:=aD.cell kt _root_.id;obtain ⟨ad5,c15,r5,e5,J5,Qx,y4,_⟩:=dL (wU y9 (aj aD)) (i:=0) (by omega);obtain ⟨e55,-,-⟩:=b9 e5;cases e55;rw [Qw] at J5;rw [Nat.zero_mul,add_zero'] at y4;cases gw:fg E t0 with
  | false=>
   (try simp only [go_sem,simprocAttr]);refine gh hc za aZ ((aj bo).trans (aj aD)) iO rfl rfl ?_;intro w6 bT aJ bm;(try simp only [go_sem,simprocAttr,aE,RV.ev,az (n:=3) bT rfl,aF]);exact ⟨.bad (by decide) bm,aJ⟩
  | true=>
   (try simp only [go_sem,simprocAttr,bq,br,kt5,b1,Nat.zero_mul,y4]);refine bN (cs:=cI) rfl rfl aZ Qx rfl J5.one ?_;intro w6 hb aJ fY;(try simp only [go_sem,simprocAttr,aE,RV.ev,az (n:=3) hb Qx,aF]);exact ⟨qu iO J5 aJ hc.bt (gK hc za),((aj bo).trans (aj aD)).step aJ (fun b hb hl=>by omega)⟩
end
section
open Go Go.W
structure fc (w:World) (S:Nat→Prop) (c md mc mf:Nat) (E:Env):Prop where
 box:∃ vp vb vl:Value,vp.oneCell'=true∧vb.oneCell'=true∧vl.oneCell'=true∧w.heap[c]? = some (.cells [.map (some md),.map (some mc),.map (some mf),vp,.bool false,vb,vl].toArray Pe (0,0))
 nodup:[c,md,mc,mf].Nodup
 bt:∀ b∈[c,md,mc,mf],S b
 lt:∀ b,S b→b < w.heap.size
 aG:cD w md (tr w (Out S w)) E.aG
 cons:cD w mc (qt w (Out S w)) E.cons
 an:cD w mf (rN w (Out S w)) E.an
theorem J6 {c md mc mf:Nat} (h:[c,md,mc,mf].Nodup):(c≠md∧c≠mc∧c≠mf)∧(md≠mc∧md≠mf)∧mc≠mf:=by
 simp only [List.nodup_cons,List.mem_cons,List.not_mem_nil,or_false,not_or,not_false_eq_true,List.nodup_nil,and_true] at h;exact h
section
variable {w w':World} {S S' T:Nat→Prop} {c md mc mf:Nat} {E:Env}
theorem bL.forget {M:Ms} {bd:bI} {lc:Loc} (h:bL w S M E bd lc):fc w S M.c M.md M.mc M.mf E:=by
 obtain ⟨⟨a1,a2,a3,_⟩,⟨b1,b2,_⟩,⟨c1,_⟩,_⟩:=Ms.ne h.nodup;refine ⟨⟨.map (some M.mp),.map (some M.mb),.map (some M.ml),rfl,rfl,rfl,h.box⟩,?_,fun b hb=>h.bt b ?_,h.lt,h.aG,h.cons,h.an⟩
 ·simp [a1,a2,a3,b1,b2,c1]
 ·simp only [List.mem_cons,List.not_mem_nil,or_false] at hb;rcases hb with rfl | rfl | rfl | rfl<;>simp [Ms.list]
theorem fc.gd {E':Env} (h:fc w S c md mc mf E) (hm:Mod T w w') (hT:∀ b,T b→S b) (hc:¬ T c) (h1:cD w' md (tr w' (Out S w')) E'.aG) (h2:cD w' mc (qt w' (Out S w')) E'.cons) (h3:cD w' mf (rN w' (Out S w')) E'.an):fc w' S c md mc mf E':=by
 obtain ⟨vp,vb,vl,e1,e2,e3,hb⟩:=h.box;exact ⟨⟨vp,vb,vl,e1,e2,e3,hm.at hb hc⟩,h.nodup,h.bt,fun b hb=>Nat.lt_of_lt_of_le (h.lt b hb) hm.size,h1,h2,h3⟩
theorem fc.Eh (h:fc w S c md mc mf E) (hm:Mod T w w') (hT:∀ b,T b→S b) (hn:¬ T md):cD w' md (tr w' (Out S w')) E.aG:=
 h.aG.mod hm hn (fun _ _ x=>x.up (hm.aT hT) aM (aU (hm.aT hT)))
theorem fc.bg (h:fc w S c md mc mf E) (hm:Mod T w w') (hT:∀ b,T b→S b) (hn:¬ T mc):cD w' mc (qt w' (Out S w')) E.cons:=
 h.cons.mod hm hn (fun _ _ x=>x.up (hm.aT hT) aM (aU (hm.aT hT)))
theorem fc.def (h:fc w S c md mc mf E) (hm:Mod T w w') (hT:∀ b,T b→S b) (hn:¬ T mf):cD w' mf (rN w' (Out S w')) E.an:=
 h.an.mod hm hn (fun _ _ x=>x.up (hm.aT hT) aM (aU (hm.aT hT)))
theorem fc.aB (h:fc w S c md mc mf E) (hm:Mod (fun _=>False) w w'):fc w' S c md mc mf E:=
 h.gd hm (fun _ h=>h.elim) _root_.id (h.Eh hm (fun _ h=>h.elim) _root_.id) (h.bg hm (fun _ h=>h.elim) _root_.id) (h.def hm (fun _ h=>h.elim) _root_.id)
end
def mY (d:Dt):List Cn→Nat→List (ByteArray×(Dt×Nat))→List (ByteArray×(Dt×Nat))
 | [],_,l=>l
 | k::ks,i,l=>mY d ks (i+1) (bK l k.name (d,i))
def pA (E:Env) (d:Dt):Env:={ E with aG:=bK E.aG d.name d,cons:=mY d d.cons 0 E.cons}
theorem acf {d:Dt} {l:List Cn} {i:Nat} (hi:i < l.length) (m:List (ByteArray×(Dt×Nat))):mY d (l.drop i) i m=mY d (l.drop (i+1)) (i+1) (bK m l[i].name (d,i)):=by rw [List.drop_eq_getElem_cons hi,mY]
theorem Qy {E:Env} {d:Dt} {a:Addr} {w:World} {S:Nat→Prop} {c md mc mf:Nat} (hc:fc w S c md mc mf E) (hp:qs w (Out S w) a d) :
   ba Tryz.prog 58 [ptr c,.pointer (some a)] w fun r w'=>fc w' S c md mc mf (pA E d)∧Mod (fun b=>b=md∨b=mc) w w':=by
 obtain ⟨⟨n1,n2,n3⟩,⟨n4,n5⟩,n6⟩:=J6 hc.nodup;obtain ⟨vp,vb,vl,o1,o2,o3,iM⟩:=hc.box;have BG:=hp;obtain ⟨cs,bJ,jX,vc,rfl,gg,gJ⟩:=hp;obtain ⟨ac,cc,rfl⟩:=a8 gJ;refine Yv.calls rfl ?_;unfold HR;have k0:w.cell? a=some (.string d.name):=bJ.c0 (by simp);(try simp only [go_sem,simprocAttr,cell_of iM,k0]);have J7:Mod (fun _=>False) w w.drew:=(Mod.refl _ _).drew;refine me (R:=tr w.drew (Out S w.drew)) (a:=d) (k:=d.name) (b:=md) (kt:=9) (et:=152) rfl rfl rfl rfl rfl (hc.Eh J7 (fun _ h=>h.elim) _root_.id) ⟨a,rfl,BG.up (aj J7) aM (aU (aj J7))⟩ ?_;intro w1 h1 ak bP;have S1:∀ b,b=md→S b:=fun b hb=>by rw [hb];exact hc.bt _ (by simp)
 have Ei:Mod (· = md) w w1:=ak.ez;have h1:=cD.mod h1 (Mod.refl (fun _=>False) w1) _root_.id (fun v y x=>x.up (ak.aT S1) aM (aU (ak.aT S1)));have gV:fc w1 S c md mc mf { E with aG:=bK E.aG d.name d}:=hc.gd Ei S1 (fun h=>n1 h) h1 (hc.bg Ei S1 (fun h=>n4 h.symm)) (hc.def Ei S1 (fun h=>n5 h.symm));have St:∀ b,(b=md∨b=mc)→S b:=fun b hb=>by rcases hb with rfl | rfl<;>exact hc.bt _ (by simp)
 have S2:∀ b,b=mc→S b:=fun b hb=>St b (.inr hb)
 have kY:=du gJ;have later:∀ {w':World},Mod (fun b=>b=md∨b=mc) w w'→fT w' (Out S w') a [.string d.name,jX,.slice ac d.cons.length cc]∧aQ w' (.slice ac d.cons.length cc) 2 (Out S w') (eF w' (Out S w')) d.cons∧qs w' (Out S w') a d:=fun hm=>
  ⟨bJ.up (hm.aT St) aM (aU (hm.aT St)),gJ.up (hm.aT St) aM (aU (hm.aT St)) (fun _ _ h=>h.up (hm.aT St) aM (aU (hm.aT St))),BG.up (hm.aT St) aM (aU (hm.aT St))⟩
 have Qz:Mod (fun b=>b=md∨b=mc) w w1:=Ei.aT (fun b h=>.inl h);have k2:w1.cell? ⟨a.block,a.off+2,none⟩=some (.slice ac d.cons.length cc):=(later Qz).1.at (k:=2) (by simp);(try simp only [go_sem,simprocAttr,k2]);refine eQ d.cons.length (fun k ρ w'=>k≤d.cons.length∧Mod (fun b=>b=md∨b=mc) w w'∧(∃ m,fc w' S c md mc mf ⟨bK E.aG d.name d,m,E.an,E.params⟩∧mY d (d.cons.drop k) k m=mY d d.cons 0 E.cons)∧ρ=[(0,ptr c),(1,.pointer (some a)),(18,.slice ac d.cons.length cc),(19,I d.cons.length),(20,I k)])
  ⟨by omega,Qz,⟨E.cons,gV,rfl⟩,rfl⟩ kY ?_ ?_ (by decide) ?_
 ·rintro k _ w2 ⟨hk,_,_,rfl⟩;exact ⟨rfl,rfl,hk⟩
 ·rintro k _ w2 ⟨_,ai,⟨m,bm,qF⟩,rfl⟩ hk;rw [acf hk] at qF;obtain ⟨q1,q2,q3⟩:=later ai;obtain ⟨ad,c2,r,e,hr,fC,bQ,_⟩:=dL q2 hk;obtain ⟨rfl,-,-⟩:=b9 e;obtain ⟨vf,rfl,hf,hn⟩:=hr;have bk:(0:Int)≤k∧(k:Int) < d.cons.length:=by omega
  obtain ⟨vp2,vb2,vl2,_,_,_,BH⟩:=bm.box;(try simp only [go_sem,simprocAttr,bq,br,bk,bQ]);refine di (n:=2) (vs:=[.string d.cons[k].name,vf]) rfl rfl (aW rfl (aW (js hf) dy)) ?_;intro w3 aO ar eR;have cr:=bm.aB ar;have kn:w3.cell? ⟨w2.heap.size,0,none⟩=some (.string d.cons[k].name):=by rw [cell_of aO];rfl
  (try simp only [go_sem,simprocAttr,kn,cell_of (ar.at BH _root_.id)]);have QA:Mod (fun _=>False) w3 w3.drew:=(Mod.refl _ _).drew;have kJ:=ai.trans (aj ar);refine me (R:=qt w3.drew (Out S w3.drew)) (a:=(d,k)) (k:=d.cons[k].name) (b:=mc) (kt:=9) (et:=158) rfl rfl rfl rfl rfl (cr.bg QA (fun _ h=>h.elim) _root_.id) ⟨a,rfl,(later (kJ.trans (aj QA))).2.2,hk⟩ ?_;intro w4 h4 aA eA;have nU:Mod (· = mc) w3 w4:=aA.ez;have h4:=cD.mod h4 (Mod.refl (fun _=>False) w4) _root_.id (fun v y x=>x.up (aA.aT S2) aM (aU (aA.aT S2)));(try simp only [go_sem,simprocAttr]);exact ⟨hk,kJ.trans (nU.aT (fun b h=>.inr h)),_,cr.gd (E':=⟨bK E.aG d.name d,bK m d.cons[k].name (d,k),E.an,E.params⟩) nU S2 (fun h=>n2 h) (cr.Eh nU S2 (fun h=>n4 h)) h4 (cr.def nU S2 (fun h=>n6 h.symm)),qF⟩
 ·rintro _ w2 ⟨_,ai,⟨m,bm,qF⟩,rfl⟩;rw [List.drop_length,mY] at qF;subst qF;(try simp only [go_sem,simprocAttr]);exact ⟨bm,ai⟩
def se:List ByteArray→bI→bI
 | [],l=>l
 | s::ks,l=>se ks (bK l s 1)
theorem acg {l:List ByteArray} {i:Nat} (hi:i < l.length) (m:bI):se (l.drop i) m=se (l.drop (i+1)) (bK m l[i] 1):=by rw [List.drop_eq_getElem_cons hi,se]
def dX (E:Env) (ps:List ByteArray):Env:={ E with params:=se ps []}
abbrev Kn (S:Nat→Prop) (M:Ms):Nat→Prop:=fun b=>S b∨b=M.mp∨b=M.mb∨b=M.ml
theorem J8 {E:Env} {ps:List ByteArray} {w:World} {S:Nat→Prop} {c md mc mf:Nat} {v:Value} (hc:fc w S c md mc mf E) (fW:aQ w v 1 (Out S w) eP ps) :
   ba Tryz.prog 43 [ptr c,v] w fun r w'=>(∃ M:Ms,M.c=c∧M.md=md∧M.mc=mc∧M.mf=mf∧bL w' (Kn S M) M (dX E ps) [] []∧w.heap.size≤M.mp∧w.heap.size≤M.mb∧w.heap.size≤M.ml)∧Mod (· = c) w w':=by
 obtain ⟨⟨n1,n2,n3⟩,⟨n4,n5⟩,n6⟩:=J6 hc.nodup;obtain ⟨vp,vb,vl,o1,o2,o3,iM⟩:=hc.box;obtain ⟨ap,cp,rfl⟩:=a8 fW;have kY:=du fW;have qG:∀ b∈[c,md,mc,mf],b < w.heap.size:=fun b hb=>hc.lt b (hc.bt b hb)
 have Bv:=qG c (by simp);have lc2:=qG md (by simp);have Bq:=qG mc (by simp);have lc4:=qG mf (by simp);refine Yb.calls rfl ?_;unfold HD;(try simp only [go_sem,simprocAttr]);refine pq (α:=Int) RI ?_;intro w1 iK ak bP;(try simp only [go_sem,simprocAttr]);refine fF (b:=c) (off:=3) (v:=.map (some w.heap.size)) rfl rfl (ak.at iM _root_.id) rfl (by simp) ?_;intro w2 aw ai bS;have mL:cD w2 w.heap.size RI ([]:bI):=iK.mod ai (by omega) (fun _ _ x=>x);have aY:Mod (· = c) w w2:=(aj ak).trans ai;have Sc:∀ b,b=c→S b:=fun b hb=>by rw [hb];exact hc.bt _ (by simp)
 (try simp only [go_sem,simprocAttr]);refine eQ ps.length (fun k ρ w'=>k≤ps.length∧Mod (· = c) w w'∧w'.heap.size=w2.heap.size∧w'.heap[c]? = w2.heap[c]?∧(∃ m,cD w' w.heap.size RI m∧se (ps.drop k) m=se ps [])∧ρ=[(0,ptr c),(10,.slice ap ps.length cp),(11,I ps.length),(12,I k)])
  ⟨by omega,aY,rfl,rfl,⟨[],mL,rfl⟩,rfl⟩ kY ?_ ?_ (by decide) ?_
 ·rintro k _ w3 ⟨hk,_,_,_,_,rfl⟩;exact ⟨rfl,rfl,hk⟩
 ·rintro k _ w3 ⟨_,ar,eR,aO,⟨m,qH,BI⟩,rfl⟩ hk;rw [acg hk] at BI;obtain ⟨ad,c2,e,hn,jP⟩:=qi (fW.up (ar.aT Sc) aM (aU (ar.aT Sc)) (fun _ _ h=>h)) hk;obtain ⟨rfl,-,-⟩:=b9 e;have bk:(0:Int)≤k∧(k:Int) < ps.length:=by omega
  rw [aw] at aO;(try simp only [go_sem,simprocAttr,bq,br,bk,jP,cell_of aO]);refine me (R:=RI) (a:=(1:Int)) (k:=ps[k]) (b:=w.heap.size) (kt:=9) (et:=3) rfl rfl rfl rfl rfl qH rfl ?_;intro w4 h4 aA eA;(try simp only [go_sem,simprocAttr]);refine ⟨hk,ar.step aA (fun b hb hl=>by omega),eA.trans eR,?_,_,h4,BI⟩;rw [aA.bY c (by have:=ar.size;omega) (by omega),aO,aw]
 ·rintro _ w3 ⟨_,ar,eR,aO,⟨m,qH,BI⟩,rfl⟩;rw [List.drop_length,se] at BI;subst BI;rw [aw] at aO;(try simp only [go_sem,simprocAttr]);refine pq (α:=Int) RI ?_;intro w4 BJ aA eA;(try simp only [go_sem,simprocAttr]);refine pq (α:=Ty) (rO w4 (Out S w4)) ?_;intro w5 BK aD eB;have ach:∀ R,cD w5 w4.heap.size R ([]:Loc):=fun R=>by
   obtain ⟨lv,q1,q2⟩:=BK;cases q2;exact ⟨[],q1,.nil⟩
  (try simp only [go_sem,simprocAttr]);refine fF (b:=c) (off:=5) (v:=.map (some w3.heap.size)) rfl rfl (aD.at (aA.at aO _root_.id) _root_.id) rfl (by simp) ?_;intro w6 bU aJ fY;(try simp only [go_sem,simprocAttr]);refine fF (b:=c) (off:=6) (v:=.map (some w4.heap.size)) rfl rfl bU rfl (by simp) ?_;intro w7 cH aL iL;have z3:=ar.size;have xq:Mod (· = c) w5 w7:=aJ.trans aL;have mV:Mod (· = c) w3 w7:=(aj (aA.trans aD)).trans xq;have pB:Mod (· = c) w w7:=ar.trans mV;(try simp only [go_sem,simprocAttr]);refine ⟨⟨⟨c,md,mc,mf,w.heap.size,w3.heap.size,w4.heap.size⟩,rfl,rfl,rfl,rfl,?_,Nat.le_refl _,z3,by show w.heap.size≤w4.heap.size;omega⟩,pB⟩;have no:∀ b,b < w.heap.size→Kn S ⟨c,md,mc,mf,w.heap.size,w3.heap.size,w4.heap.size⟩ b→S b:=fun b hb hh=>by
   rcases hh with h | h | h | h
   ·exact h
   ·exact absurd h (by show ¬ b=w.heap.size;omega)
   ·exact absurd h (by show ¬ b=w3.heap.size;omega)
   ·exact absurd h (by show ¬ b=w4.heap.size;omega)
  have up:=eh (pB.aT Sc) no;refine ⟨cH,?_,fun b hb=>?_,fun b hb=>?_,?_,?_,?_,?_,?_,?_⟩
  ·simp only [Ms.list,List.nodup_cons,List.mem_cons,List.not_mem_nil,or_false,not_or,not_false_eq_true,List.nodup_nil,and_true];omega
  ·simp only [Ms.list,List.mem_cons,List.not_mem_nil,or_false] at hb;rcases hb with rfl | rfl | rfl | rfl | rfl | rfl | rfl
   ·exact .inl (hc.bt _ (by simp))
   ·exact .inl (hc.bt _ (by simp))
   ·exact .inl (hc.bt _ (by simp))
   ·exact .inl (hc.bt _ (by simp))
   ·exact .inr (.inl rfl)
   ·exact .inr (.inr (.inl rfl))
   ·exact .inr (.inr (.inr rfl))
  ·rcases hb with h | h | h | h
   ·have:=hc.lt b h;omega
   ·have h:b=w.heap.size:=h;omega
   ·have h:b=w3.heap.size:=h;omega
   ·have h:b=w4.heap.size:=h;omega
  ·exact hc.aG.mod pB (fun h=>n1 h.symm) (fun _ _ x=>x.up (pB.aT Sc) aM up)
  ·exact hc.cons.mod pB (fun h=>n2 h.symm) (fun _ _ x=>x.up (pB.aT Sc) aM up)
  ·exact hc.an.mod pB (fun h=>n3 h.symm) (fun _ _ x=>x.up (pB.aT Sc) aM up)
  ·exact qH.mod mV (by show ¬ w.heap.size=c;omega) (fun _ _ x=>x)
  ·exact (BJ.mod aD _root_.id (fun _ _ x=>x)).mod xq (by show ¬ w3.heap.size=c;omega) (fun _ _ x=>x)
  ·exact (ach (rO w7 (Out _ w7))).mod xq (by show ¬ w4.heap.size=c;omega) (fun _ _ x=>x)
end
section
open Go Go.W
section
variable {P:Program} {N:Nat} {ops:Array Oper} {K:Go.W.Env→World→Prop} {dl:List Deferred} {w:World} {ds:List Nat} {Φ:Nat→Value→World→Prop} {tF:Go.W.Env}
theorem aci (dR:ops.toList.map (·.dst)=ds.map some) (lf:ds.Nodup)
   (aP:∀ i o,ops[i]? = some o→∀ e∈o.after,Region.binds .any e=true→e.on < i)
   (BL:∀ i v w w',Φ i v w→Mod (fun _=>False) w w'→Φ i v w')
   (ki:∀ i o,ops[i]? = some o→∃ st,jm P N ops [o]=some st∧∀ aH w',Mod (fun _=>False) w w'→(∀ e∈o.after,Region.binds .any e=true→∃ v,aH.get (ds.getD e.on 0)=some v∧Φ e.on v w')→(∀ t,t∉ds→aH.get t=tF.get t) →
    wpS P st aH w' (fun jn w2=>∃ v,jn=aH.put (some (ds.getD i 0)) v∧Mod (fun _=>False) w' w2∧Φ i v w2))
   (oD:∀ aH w',Mod (fun _=>False) w w'→(∀ i,i < ops.size→∃ v,aH.get (ds.getD i 0)=some v∧Φ i v w')→(∀ t,t∉ds→aH.get t=tF.get t)→K aH w') :
   ∀ (f:Nat) (listed:Array Bool) (aH:Go.W.Env) (a:Act) (w':World),listed.size=ops.size→listed.toList.count false≤f→Go.W.Good dl N aH a→Mod (fun _=>False) w w' →
    (∀ i,listed.getD i false=true→∃ v,aH.get (ds.getD i 0)=some v∧Φ i v w')→(∀ t,t∉ds→aH.get t=tF.get t)→mI P ops (fun _ _=>False) (sQ dl N K) f listed a w':=by
 have hlen:ds.length=ops.size:=by
  have:=congrArg List.length dR
  simpa using this.symm
 have all:∀ (listed:Array Bool),listed.size=ops.size→Region.ready .any ops listed=[]→∀ i,i < ops.size→listed.getD i false=true:=by
  intro listed dj hr i
  induction i using Nat.strongRecOn with
  | _ i ih=>
   intro hi;cases hl:listed.getD i false with
   | true=>rfl
   | false=>
    exfalso;have dK:i∈Region.ready .any ops listed:=by
     rw [mem_ready];have ix:i < listed.size:=by omega
     refine ⟨by simpa [ix] using hl,ops[i],by simp [hi],fun e he hb=>?_⟩;have:=aP i _ (by simp [hi]) e he hb;exact ih _ this (by omega)
    rw [hr] at dK;cases dK
 intro f
 induction f with
 | zero=>
  intro listed aH a w' dj acj hg hm hh hk;have hr:Region.ready .any ops listed=[]:=by
   refine List.eq_nil_iff_forall_not_mem.2 fun i hi=>?_
   obtain ⟨h0,o,ho,_⟩:=mem_ready.1 hi;have ix:i < listed.size:=by have:=(Array.getElem?_eq_some_iff.1 ho).1;omega
   have:false∈listed.toList:=by
    have h1:listed[i]=false:=by simpa [ix] using h0
    rw [← h1];exact Array.getElem_mem_toList ix
   have:=List.count_pos_iff.2 this;omega
  exact ⟨hr,aH,hg,oD aH w' hm (fun i hi=>hh i (all listed dj hr i hi)) hk⟩
 | succ f ih=>
  intro listed aH a w' dj acj hg hm hh hk;refine ⟨fun hr=>⟨aH,hg,oD aH w' hm (fun i hi=>hh i (all listed dj hr i hi)) hk⟩,fun i hi=>?_⟩;obtain ⟨h0,o,ho,dh⟩:=mem_ready.1 hi;have hio:i < ops.size:=(Array.getElem?_eq_some_iff.1 ho).1;have ix:i < listed.size:=by omega
  obtain ⟨st,bG,jO⟩:=ki i o ho;have Ni:o.dst=some (ds.getD i 0):=by
   have h1:=congrArg (fun l=>l[i]?) dR;simp only [List.getElem?_map,Array.getElem?_toList,ho,Option.map_some] at h1;have h2:ds[i]? = some ds[i]:=List.getElem?_eq_getElem (by omega);rw [h2,Option.map_some] at h1;have:o.dst=some ds[i]:=by simpa using h1
   rw [this];simp [List.getD,h2]
  have oP:=AA (G:=fun a2 w2=>∃ jn v,Go.W.Good dl N jn a2∧jn=aH.put (some (ds.getD i 0)) v∧Mod (fun _=>False) w' w2∧Φ i v w2) [o] st aH a w' _ bG (jO aH w' hm (fun e he hb=>hh _ (dh e he hb)) hk) hg
   (fun jn a2 w2 iU ⟨v,e1,e2,e3⟩=>⟨jn,v,iU,e1,e2,e3⟩)
  have next:∀ a2 w2,(∃ jn v,Go.W.Good dl N jn a2∧jn=aH.put (some (ds.getD i 0)) v∧Mod (fun _=>False) w' w2∧Φ i v w2)→(fun a' dT=>Go.W.Kept ((fun _ _=>False:Nat→Nat→Prop) i) w' dT∧mI P ops (fun _ _=>False) (sQ dl N K) f (listed.setIfInBounds i true) a' dT) a2 w2:=by
   rintro a2 w2 ⟨jn,v,iU,rfl,ai,ack⟩;refine ⟨fun b hb=>hb.elim,ih _ _ a2 w2 (by simp [dj]) ?_ iU (hm.trans ai) ?_ ?_⟩
   ·have h1:listed.toList[i]'(by simpa using ix)=false:=by simpa [ix] using h0
    have bJ:=List.count_set (a:=true) (b:=false) (l:=listed.toList) (i:=i) (by simpa using ix);rw [h1] at bJ;simp only [Array.toList_setIfInBounds];rw [bJ,if_pos (show (false == false)=true from rfl),if_neg (show ¬ (true == false)=true by decide)];omega
   ·intro j hj;by_cases ow:j=i
    ·subst ow;exact ⟨v,by simp [Env.put,Env.get],ack⟩
    ·rw [getD_set_ne false (Ne.symm ow)] at hj;obtain ⟨u,hu,hp⟩:=hh j hj;refine ⟨u,?_,BL _ _ _ _ hp ai⟩;have hjs:j < ds.length:=by
      rcases Nat.lt_or_ge j listed.size with h | h
      ·omega
      ·simp [Array.getElem?_eq_none h] at hj
     have bw:ds.getD i 0≠ds.getD j 0:=by
      have e1:ds.getD i 0=ds[i]'(by omega):=by simp [List.getD,List.getElem?_eq_getElem (show i < ds.length by omega)]
      have e2:ds.getD j 0=ds[j]:=by simp [List.getD,List.getElem?_eq_getElem hjs]
      rw [e1,e2];intro h;exact ow ((List.getElem_inj lf).1 h).symm
     simp only [Env.put,Env.get];rw [if_neg bw];exact hu
   ·intro t ht;have:ds.getD i 0∈ds:=by
     have e1:ds.getD i 0=ds[i]'(by omega):=by simp [List.getD,List.getElem?_eq_getElem (show i < ds.length by omega)]
     rw [e1];exact List.getElem_mem _
    simp only [Env.put,Env.get];rw [if_neg (fun h:ds.getD i 0=t=>ht (by rw [← h];exact this))];exact hk t ht
  refine ⟨o,ho,?_⟩;unfold jM at oP
  split
  ·rename_i hw;rw [if_pos hw] at oP;exact Oper.wp_mono (fun a2 w2 hh2=>next a2 w2 hh2) oP
  ·rename_i hw;rw [if_neg hw] at oP;exact next _ _ oP
theorem acm {id:Nat} {Q:Post} {ρ:Go.W.Env} (hm:P.follows .mixedOrders=true) (dR:ops.toList.map (·.dst)=ds.map some) (lf:ds.Nodup)
   (aP:∀ i o,ops[i]? = some o→∀ e∈o.after,Region.binds .any e=true→e.on < i)
   (BL:∀ i v w w',Φ i v w→Mod (fun _=>False) w w'→Φ i v w')
   (ki:∀ i o,ops[i]? = some o→∃ st,jm P N ops [o]=some st∧∀ aH w',Mod (fun _=>False) w w'→(∀ e∈o.after,Region.binds .any e=true→∃ v,aH.get (ds.getD e.on 0)=some v∧Φ e.on v w')→(∀ t,t∉ds→aH.get t=ρ.get t) →
    wpS P st aH w' (fun jn w2=>∃ v,jn=aH.put (some (ds.getD i 0)) v∧Mod (fun _=>False) w' w2∧Φ i v w2))
   (oD:∀ aH w',Mod (fun _=>False) w w'→(∀ i,i < ops.size→∃ v,aH.get (ds.getD i 0)=some v∧Φ i v w')→(∀ t,t∉ds→aH.get t=ρ.get t)→Q .normal aH w') :
   cL P N (.raw (.region id ops true)) Q ρ w:=by
 intro dl a hg;refine wp_region_any hm (MV (B:=fun _ _=>False) (Q:=sQ dl N (fun aH w'=>Q .normal aH w')) (fun a' w' ⟨aH,h1,h2⟩=>⟨aH,h1,h2⟩) _ _ _ _ ?_);refine aci (w:=w) (tF:=ρ) dR lf aP BL ki oD _ _ ρ a _ (by simp) ?_ hg (Mod.refl _ _).drew ?_ (fun _ _=>rfl)
 ·exact Nat.le_trans List.count_le_length (by simp)
 ·intro i hi;rcases Nat.lt_or_ge i ops.size with h | h
  ·simp [h] at hi
  ·simp [h] at hi
theorem QB:∀ (l:List Oper) (st:List Go.W.S) (i:Nat) (o:Oper),jm P N ops l=some st→l[i]? = some o→∃ s,st[i]? = some s∧jm P N ops [o]=some [s]
 | [],_,i,o,_,h=>by simp at h
 | o'::l,st,i,o,h,hi=>by
  simp only [jm] at h
  split at h
  ·rename_i s t hs ht;cases h;cases i with
   | zero=>
    simp only [List.getElem?_cons_zero,Option.some.injEq] at hi;subst hi;exact ⟨s,rfl,by simp only [jm,hs]⟩
   | succ i=>
    simp only [List.getElem?_cons_succ] at hi ⊢;exact QB l t i o ht hi
  ·cases h
def waits (o:Oper):List Nat:=(o.after.toList.filter (Region.binds .any)).map (·.on)
theorem acn {id:Nat} {Q:Post} {ρ:Go.W.Env} {deps:List (List Nat)} {Ej:List Go.W.S} (hm:P.follows .mixedOrders=true) (dR:ops.toList.map (·.dst)=ds.map some) (lf:ds.Nodup)
   (aco:ops.toList.map waits=deps) (aP:(deps.zipIdx.all fun x=>x.1.all fun j=>decide (j < x.2))=true) (bG:jm P N ops ops.toList=some Ej)
   (BL:∀ i v w w',Φ i v w→Mod (fun _=>False) w w'→Φ i v w')
   (ki:∀ i s,Ej[i]? = some s→∀ aH w',Mod (fun _=>False) w w'→(∀ j∈deps.getD i [],∃ v,aH.get (ds.getD j 0)=some v∧Φ j v w')→(∀ t,t∉ds→aH.get t=ρ.get t) →
    wpS P [s] aH w' (fun jn w2=>∃ v,jn=aH.put (some (ds.getD i 0)) v∧Mod (fun _=>False) w' w2∧Φ i v w2))
   (oD:∀ aH w',Mod (fun _=>False) w w'→(∀ i,i < ops.size→∃ v,aH.get (ds.getD i 0)=some v∧Φ i v w')→(∀ t,t∉ds→aH.get t=ρ.get t)→Q .normal aH w') :
   cL P N (.raw (.region id ops true)) Q ρ w:=by
 have dep:∀ (i:Nat) (o:Oper),ops[i]? = some o→deps.getD i []=waits o:=by
  intro i o ho;rw [← aco];simp [List.getD,ho]
 have mem:∀ (o:Oper) (e:Edge),e∈o.after→Region.binds .any e=true→e.on∈waits o:=by
  intro o e he hb;unfold waits;exact List.mem_map_of_mem (List.mem_filter.2 ⟨Array.mem_toList_iff.2 he,hb⟩)
 refine acm (ds:=ds) (Φ:=Φ) hm dR lf ?_ BL ?_ oD
 ·intro i o ho e he hb;have h1:e.on∈deps.getD i []:=by rw [dep i o ho];exact mem o e he hb
  have hi:i < deps.length:=by
   rcases Nat.lt_or_ge i deps.length with h | h
   ·exact h
   ·simp [List.getD,List.getElem?_eq_none h] at h1
  rw [List.all_eq_true] at aP;have h2:(deps[i],i)∈deps.zipIdx:=by
   rw [List.mem_zipIdx_iff_getElem?];exact List.getElem?_eq_getElem hi
  have h3:=aP _ h2;rw [List.all_eq_true] at h3;have h4:deps.getD i []=deps[i]:=by simp [List.getD,List.getElem?_eq_getElem hi]
  rw [h4] at h1
  simpa using h3 _ h1
 ·intro i o ho;obtain ⟨s,hs,hr⟩:=QB (ops:=ops) ops.toList Ej i o bG (by simpa using ho);refine ⟨_,hr,fun aH w' h1 h2 h3=>ki i s hs aH w' h1 (fun j hj=>?_) h3⟩;rw [dep i o ho] at hj;unfold waits at hj;obtain ⟨e,he,rfl⟩:=List.mem_map.1 hj;obtain ⟨yu,ur⟩:=List.mem_filter.1 he;exact h2 e (Array.mem_toList_iff.1 yu) ur
end
end
section
open Go Go.W
abbrev NB (n0:Nat) (w:World):Nat→Prop:=fun b=>n0≤b∧b < w.heap.size
theorem fi {n0:Nat} {w w':World} {S:Nat→Prop} (hm:Mod S w w'):∀ b,NB n0 w b→NB n0 w' b:=fun b h=>⟨h.1,Nat.lt_of_lt_of_le h.2 hm.size⟩
theorem oR {w w' w2:World} {S:Nat→Prop} (hm:Mod S w w') (hs:w2.heap.size=w'.heap.size+1):NB w.heap.size w2 w'.heap.size:=⟨hm.size,by omega⟩
def fM {α β:Type} (P:α→β→Prop):List α→List β→Prop
 | [],[]=>True
 | a::l,b::m=>P a b∧fM P l m
 | _,_=>False
theorem fM.at {α β:Type} {P:α→β→Prop}:∀ {l:List α} {m:List β},fM P l m→l.length=m.length∧∀ (i:Nat) (a:α) (b:β),l[i]? = some a→m[i]? = some b→P a b
 | [],[],_=>⟨rfl,fun i a b h=>by simp at h⟩
 | a::l,b::m,h=>by
  obtain ⟨h1,h2⟩:=h;obtain ⟨e,k⟩:=fM.at h2;refine ⟨by simp [e],fun i x y hx hy=>?_⟩;cases i with
  | zero=>simp only [List.getElem?_cons_zero,Option.some.injEq] at hx hy;subst hx hy;exact h1
  | succ i=>simp only [List.getElem?_cons_succ] at hx hy;exact k i x y hx hy
 | [],_::_,h=>h.elim
 | _::_,[],h=>h.elim
def xt (sz:Nat):List (List Value)→Prop
 | []=>True
 | r::l=>r.length=sz∧xt sz l
theorem xt.mem {sz:Nat}:∀ {l:List (List Value)},xt sz l→∀ r∈l,r.length=sz
 | [],_,r,h=>by cases h
 | x::l,h,r,hr=>by
  rcases List.mem_cons.1 hr with rfl | hr
  ·exact h.1
  ·exact xt.mem h.2 r hr
theorem J9 {sz:Nat}:∀ {l:List (List Value)},xt sz l→l.flatten.length=l.length*sz
 | [],_=>by simp
 | x::l,h=>by rw [List.flatten_cons,List.length_append,h.1,J9 h.2,List.length_cons,Nat.succ_mul];omega
def partsOf (sz:Nat):Nat→List (List Value)→List (Nat×Nat×Value)
 | _,[]=>[]
 | off,r::l=>(off,sz,.agg r.toArray)::partsOf sz (off+sz) l
theorem jD {sz:Nat}:∀ (rows:List (List Value)) (pre post:List Value),xt sz rows→post.length=rows.length*sz→jl (pre++post).toArray (partsOf sz pre.length rows)=some (pre++rows.flatten).toArray
 | [],pre,post,_,h=>by
  have:post=[]:=List.eq_nil_of_length_eq_zero (by simpa using h);subst this;simp [partsOf,jl]
 | r::l,pre,post,hl,h=>by
  rw [List.length_cons,Nat.succ_mul] at h;obtain ⟨h1,h2⟩:=hl;rw [partsOf,Wt h1 (by rw [List.length_append];omega)];have e1:(pre++post).take pre.length=pre:=by simp
  have e2:(pre++post).drop (pre.length+sz)=post.drop sz:=by rw [List.drop_append];simp
  rw [e1,e2];have:=jD l (pre++r) (post.drop sz) h2 (by rw [List.length_drop];omega);rw [List.length_append,h1] at this;rw [this,List.flatten_cons,List.append_assoc]
theorem mZ {α:Type} {w:World} {b T sz n:Nat} {B:Nat→Prop} {P:List Value→α→Prop} {rows:List (List Value)} {l:List α} (hb:w.heap[b]? = some (.cells rows.flatten.toArray T (0,0))) (hB:B b) (dj:xt sz rows) (hle:rows.length≤1099511627776) (ha:fM P rows l) (hn:rows.length=n:=by rfl) :
   aQ w (.slice (some ⟨b,0,none⟩) n n) sz B P l:=by
 subst hn;obtain ⟨e,h⟩:=ha.at;have ho:dE w T sz (.slice (some ⟨b,0,none⟩) rows.length rows.length) (rows.flatMap id) rows.length (some b):=by
  have hf:rows.flatMap id=rows.flatten:=by simp [List.flatMap]
  rw [hf];exact ⟨J9 dj,.inr ⟨b,rows.length,[],rfl,rfl,by rw [List.append_nil];exact hb,by rw [List.append_nil,J9 dj];omega,Nat.le_refl _⟩⟩
 exact ⟨rows,⟨(AZ ho dj.mem).mod (.refl (fun _=>False) w) aC (fun b' iJ=>by cases iJ;exact hB),hle⟩,e,h⟩
inductive GV where
 | bg (k:Cn) | cons (l:List Cn) | dt (d:Dt) | El (l:List Dt) | strs (l:List ByteArray) | ty (t:Ty) | ze (l:List Ty)
def GV.At (n0:Nat) (w:World):GV→Value→Prop
 | .bg k,v=>∃ cs:List Value,v = .agg cs.toArray∧eF w (NB n0 w) cs k
 | .cons l,v=>aQ w v 2 (NB n0 w) (eF w (NB n0 w)) l
 | .dt d,v=>∃ cs:List Value,v = .agg cs.toArray∧gp w (NB n0 w) cs d
 | .El l,v=>aQ w v 3 (NB n0 w) (gp w (NB n0 w)) l
 | .strs l,v=>aQ w v 1 (NB n0 w) eP l
 | .ty t,v=>∃ cs:List Value,v = .agg cs.toArray∧aX w (NB n0 w) cs t
 | .ze l,v=>aQ w v 3 (NB n0 w) (aX w (NB n0 w)) l
theorem GV.up {n0:Nat} {w w':World} (g:GV) {v:Value} (h:g.At n0 w v) (hm:Mod (fun _=>False) w w'):g.At n0 w' v:=by
 cases g with
 | bg k=>obtain ⟨cs,e,h⟩:=h;exact ⟨cs,e,h.up hm aC (fi hm)⟩
 | cons l=>exact aQ.up h hm aC (fi hm) (fun _ _ h=>h.up hm aC (fi hm))
 | dt d=>obtain ⟨cs,e,h⟩:=h;exact ⟨cs,e,h.up hm aC (fi hm)⟩
 | El l=>exact aQ.up h hm aC (fi hm) (fun _ _ h=>h.up hm aC (fi hm))
 | strs l=>exact aQ.up h hm aC (fi hm) (fun _ _ h=>h)
 | ty t=>obtain ⟨cs,e,h⟩:=h;exact ⟨cs,e,h.up hm aC (fi hm)⟩
 | ze l=>exact aQ.up h hm aC (fi hm) (fun _ _ h=>h.up hm aC (fi hm))
abbrev cA:Ty:=.mk 2 ⟨#[97]⟩ []
abbrev fj:Ty:=.mk 2 ⟨#[98]⟩ []
abbrev mr:Ty:=.mk 2 ⟨#[99]⟩ []
abbrev jE:Ty:=.mk 4 ⟨#[76,105,115,116]⟩ [cA]
abbrev qI:Cn:=⟨⟨#[70,97,108,115,101]⟩,[]⟩
abbrev qJ:Cn:=⟨⟨#[84,114,117,101]⟩,[]⟩
abbrev qK:Cn:=⟨⟨#[85,110,105,116]⟩,[]⟩
abbrev qL:Cn:=⟨⟨#[78,105,108]⟩,[]⟩
abbrev qM:Cn:=⟨⟨#[67,111,110,115]⟩,[cA,jE]⟩
abbrev qN:Cn:=⟨⟨#[80,97,105,114]⟩,[cA,fj]⟩
abbrev qO:Cn:=⟨⟨#[84,114,105,112,108,101]⟩,[cA,fj,mr]⟩
abbrev jg:Dt:=⟨⟨#[66,111,111,108]⟩,[],[qI,qJ]⟩
abbrev pC:Dt:=⟨⟨#[85,110,105,116]⟩,[],[qK]⟩
abbrev dList:Dt:=⟨⟨#[76,105,115,116]⟩,[⟨#[97]⟩],[qL,qM]⟩
abbrev pD:Dt:=⟨⟨#[80,97,105,114]⟩,[⟨#[97]⟩,⟨#[98]⟩],[qN]⟩
abbrev pE:Dt:=⟨⟨#[84,114,105,112,108,101]⟩,[⟨#[97]⟩,⟨#[98]⟩,⟨#[99]⟩],[qO]⟩
def iP:List Dt:=[jg,pC,dList,pD,pE]
def xu (id:Nat):Code→Option (Array Oper)
 | .region i ops true=>if i == id then some ops else none
 | .seq a b=>(xu id a).orElse fun _=>xu id b
 | .cond _ a b=>(xu id a).orElse fun _=>xu id b
 | .block _ a=>xu id a
 | .loop a=>xu id a
 | _=>none
noncomputable def zg:Array Oper:=((Tryz.f57.body.bind (xu 2)).getD #[])
noncomputable def QC:IR:=.seq (.iI false [] []) <|
 .seq (.iI false [.e (some 4) (.call 76 [(.c (.string ⟨#[97]⟩))]),
.e (some 5) (.call 76 [(.c (.string ⟨#[98]⟩))]),
.e (some 6) (.call 76 [(.c (.string ⟨#[99]⟩))]),
.e (some 1) (.al 42 (.agg #[(.int .i64 0),(.string ⟨#[]⟩),(.slice none 0 0)])),
.e (some 2) (.al 42 (.agg #[(.int .i64 0),(.string ⟨#[]⟩),(.slice none 0 0)])),
.e (some 3) (.al 42 (.agg #[(.int .i64 0),(.string ⟨#[]⟩),(.slice none 0 0)])),
.e none (.st 3 (.t 1) (.t 4)),
.e none (.st 3 (.t 2) (.t 5)),
.e none (.st 3 (.t 3) (.t 6))] [1,2,3]) <|
 .seq (.raw (.region 2 zg true)) <|
 .ret
def QD:List Nat:=[7,8,9,10,11,12,13,14,15,16,17,18,19,20,21,22,23,24,25,26,27,28,29,30,31,32,33,34,35,36,37,38,39,0]
def QE:List (List Nat):=[[],[],[0,1],[2],[],[4],[5],[],[],[],[],[10],[11],[9,12],[13],[8,14],[7,15],[],[],[],[18,19],[20],[21],[17,22],[],[],[],[],[25,26,27],[28],[29],[24,30],[3,6,16,23,31],[32,12,0,1,2,3,4,5,6,7,8,9,10,11,12,13,14,15,16,17,18,19,20,21,22,23,24,25,26,27,28,29,30,31,32]]
def gGv:List GV:=[.bg qI,.bg qJ,.cons [qI,qJ],.dt jg,.bg qK,.cons [qK],.dt pC,.strs [⟨#[97]⟩],.bg qL,.ty cA,.ty cA,.ze [cA],.ty jE,.ze [cA,jE],.bg qM,.cons [qL,qM],.dt dList,.strs [⟨#[97]⟩,⟨#[98]⟩],.ty cA,.ty fj,.ze [cA,fj],.bg qN,.cons [qN],.dt pD,.strs [⟨#[97]⟩,⟨#[98]⟩,⟨#[99]⟩],.ty cA,.ty fj,.ty mr,.ze [cA,fj,mr],.bg qO,.cons [qO],.dt pE,.El [jg,pC,dList,pD,pE],.El iP]
def J':List Go.W.S:=[.r (some 7) (.bd #[(.string ⟨#[]⟩),(.slice none 0 0)] [(0,1,(.c (.string ⟨#[70,97,108,115,101]⟩)))]),
.r (some 8) (.bd #[(.string ⟨#[]⟩),(.slice none 0 0)] [(0,1,(.c (.string ⟨#[84,114,117,101]⟩)))]),
.e (some 9) (.bs 66 2 #[(.string ⟨#[]⟩),(.slice none 0 0),(.string ⟨#[]⟩),(.slice none 0 0)] [(0,2,(.t 7)),(2,2,(.t 8))]),
.r (some 10) (.bd #[(.string ⟨#[]⟩),(.slice none 0 0),(.slice none 0 0)] [(0,1,(.c (.string ⟨#[66,111,111,108]⟩))),(2,1,(.t 9))]),
.r (some 11) (.bd #[(.string ⟨#[]⟩),(.slice none 0 0)] [(0,1,(.c (.string ⟨#[85,110,105,116]⟩)))]),
.e (some 12) (.bs 66 1 #[(.string ⟨#[]⟩),(.slice none 0 0)] [(0,2,(.t 11))]),
.r (some 13) (.bd #[(.string ⟨#[]⟩),(.slice none 0 0),(.slice none 0 0)] [(0,1,(.c (.string ⟨#[85,110,105,116]⟩))),(2,1,(.t 12))]),
.e (some 14) (.bs 9 1 #[(.string ⟨#[]⟩)] [(0,1,(.c (.string ⟨#[97]⟩)))]),
.r (some 15) (.bd #[(.string ⟨#[]⟩),(.slice none 0 0)] [(0,1,(.c (.string ⟨#[78,105,108]⟩)))]),
.r (some 16) (.ln 3 (.t 1)),
.r (some 17) (.ln 3 (.t 1)),
.e (some 18) (.bs 42 1 #[(.int .i64 0),(.string ⟨#[]⟩),(.slice none 0 0)] [(0,3,(.t 17))]),
.e (some 19) (.call 77 [(.c (.string ⟨#[76,105,115,116]⟩)),(.t 18)]),
.e (some 20) (.bs 42 2 #[(.int .i64 0),(.string ⟨#[]⟩),(.slice none 0 0),(.int .i64 0),(.string ⟨#[]⟩),(.slice none 0 0)] [(0,3,(.t 16)),(3,3,(.t 19))]),
.r (some 21) (.bd #[(.string ⟨#[]⟩),(.slice none 0 0)] [(0,1,(.c (.string ⟨#[67,111,110,115]⟩))),(1,1,(.t 20))]),
.e (some 22) (.bs 66 2 #[(.string ⟨#[]⟩),(.slice none 0 0),(.string ⟨#[]⟩),(.slice none 0 0)] [(0,2,(.t 15)),(2,2,(.t 21))]),
.r (some 23) (.bd #[(.string ⟨#[]⟩),(.slice none 0 0),(.slice none 0 0)] [(0,1,(.c (.string ⟨#[76,105,115,116]⟩))),(1,1,(.t 14)),(2,1,(.t 22))]),
.e (some 24) (.bs 9 2 #[(.string ⟨#[]⟩),(.string ⟨#[]⟩)] [(0,1,(.c (.string ⟨#[97]⟩))),(1,1,(.c (.string ⟨#[98]⟩)))]),
.r (some 25) (.ln 3 (.t 1)),
.r (some 26) (.ln 3 (.t 2)),
.e (some 27) (.bs 42 2 #[(.int .i64 0),(.string ⟨#[]⟩),(.slice none 0 0),(.int .i64 0),(.string ⟨#[]⟩),(.slice none 0 0)] [(0,3,(.t 25)),(3,3,(.t 26))]),
.r (some 28) (.bd #[(.string ⟨#[]⟩),(.slice none 0 0)] [(0,1,(.c (.string ⟨#[80,97,105,114]⟩))),(1,1,(.t 27))]),
.e (some 29) (.bs 66 1 #[(.string ⟨#[]⟩),(.slice none 0 0)] [(0,2,(.t 28))]),
.r (some 30) (.bd #[(.string ⟨#[]⟩),(.slice none 0 0),(.slice none 0 0)] [(0,1,(.c (.string ⟨#[80,97,105,114]⟩))),(1,1,(.t 24)),(2,1,(.t 29))]),
.e (some 31) (.bs 9 3 #[(.string ⟨#[]⟩),(.string ⟨#[]⟩),(.string ⟨#[]⟩)] [(0,1,(.c (.string ⟨#[97]⟩))),(1,1,(.c (.string ⟨#[98]⟩))),(2,1,(.c (.string ⟨#[99]⟩)))]),
.r (some 32) (.ln 3 (.t 1)),
.r (some 33) (.ln 3 (.t 2)),
.r (some 34) (.ln 3 (.t 3)),
.e (some 35) (.bs 42 3 #[(.int .i64 0),(.string ⟨#[]⟩),(.slice none 0 0),(.int .i64 0),(.string ⟨#[]⟩),(.slice none 0 0),(.int .i64 0),(.string ⟨#[]⟩),(.slice none 0 0)] [(0,3,(.t 32)),(3,3,(.t 33)),(6,3,(.t 34))]),
.r (some 36) (.bd #[(.string ⟨#[]⟩),(.slice none 0 0)] [(0,1,(.c (.string ⟨#[84,114,105,112,108,101]⟩))),(1,1,(.t 35))]),
.e (some 37) (.bs 66 1 #[(.string ⟨#[]⟩),(.slice none 0 0)] [(0,2,(.t 36))]),
.r (some 38) (.bd #[(.string ⟨#[]⟩),(.slice none 0 0),(.slice none 0 0)] [(0,1,(.c (.string ⟨#[84,114,105,112,108,101]⟩))),(1,1,(.t 31)),(2,1,(.t 37))]),
.e (some 39) (.bs 63 5 #[(.string ⟨#[]⟩),(.slice none 0 0),(.slice none 0 0),(.string ⟨#[]⟩),(.slice none 0 0),(.slice none 0 0),(.string ⟨#[]⟩),(.slice none 0 0),(.slice none 0 0),(.string ⟨#[]⟩),(.slice none 0 0),(.slice none 0 0),(.string ⟨#[]⟩),(.slice none 0 0),(.slice none 0 0)] [(0,3,(.t 10)),(3,3,(.t 13)),(6,3,(.t 23)),(9,3,(.t 30)),(12,3,(.t 38))]),
.r (some 0) (.mv (.t 39))]
theorem acp:Dv Tryz.prog 57 0 [(0,[],[]),(1,[1,2,3],[]),(2,[0],[])] [2] QC [.t 0] 40:=
 ⟨Tryz.f57,_,rfl,rfl,rfl,by decide,by kernel_rfl,by kernel_rfl⟩
theorem acq:zg.toList.map (·.dst)=QD.map some:=by kernel_rfl
theorem acr:zg.toList.map waits=QE:=by kernel_rfl
theorem acs:jm Tryz.prog 40 zg zg.toList=some J':=by kernel_rfl
theorem acv:zg.size=34:=by kernel_rfl
set_option maxHeartbeats 1000000 in
theorem acw {w:World}:ba Tryz.prog 57 [] w fun r w'=>aQ w' r 3 (NB w.heap.size w') (gp w' (NB w.heap.size w')) iP∧Mod (fun _=>False) w w':=by
 refine acp.calls rfl ?_;unfold QC;(try simp only [go_sem,simprocAttr]);refine aK (by rfl) ?_;refine (DB ⟨#[97]⟩).mono ?_;rintro _ wa ⟨rfl,jf⟩;(try simp only [go_sem,simprocAttr]);refine aK (by rfl) ?_;refine (DB ⟨#[98]⟩).mono ?_;rintro _ wb ⟨rfl,fI⟩;(try simp only [go_sem,simprocAttr]);refine aK (by rfl) ?_;refine (DB ⟨#[99]⟩).mono ?_;rintro _ wc ⟨rfl,j0⟩;(try simp only [go_sem,simprocAttr]);refine cQ ?_;intro w1 au ak bP;(try simp only [go_sem,simprocAttr]);refine cQ ?_;intro w2 aw ai bS;(try simp only [go_sem,simprocAttr]);refine cQ ?_;intro w3 aO ar eR;(try simp only [go_sem,simprocAttr]);refine bN (cs:=cI) (vs:=fZ 2 ⟨#[97]⟩) rfl rfl (ar.at (ai.at au _root_.id) _root_.id) rfl rfl (nO _ _) ?_;intro w4 au aA eA;(try simp only [go_sem,simprocAttr]);refine bN (cs:=cI) (vs:=fZ 2 ⟨#[98]⟩) rfl rfl (aA.at (ar.at aw _root_.id) (by omega)) rfl rfl (nO _ _) ?_;intro w5 aw aD eB;(try simp only [go_sem,simprocAttr]);refine bN (cs:=cI) (vs:=fZ 2 ⟨#[99]⟩) rfl rfl (aD.at (aA.at aO (by omega)) (by omega)) rfl rfl (nO _ _) ?_;intro w6 aO aJ fY;have aw:=aJ.at aw (by omega);have au:=aJ.at (aD.at au (by omega)) (by omega);have z0c:=(jf.trans (fI.trans j0)).size;have bo:Mod (fun _=>False) w w6:=(((jf.trans (fI.trans j0)).trans (ak.trans (ai.trans ar))).step aA (fun b hb hl=>by omega)).step aD (fun b hb hl=>by omega) |>.step aJ (fun b hb hl=>by omega);generalize nV:wc.heap.size=b1 at *;generalize ql:w1.heap.size=b2 at *;generalize BM:w2.heap.size=b3 at *;clear jf fI j0 ak ai ar aA aD aJ bP bS eR eA eB fY nV ql BM;(try simp only [go_sem,simprocAttr]);refine acn (w:=w6) (ds:=QD) (deps:=QE) (Ej:=J') (Φ:=fun i v w'=>(gGv.getD i (.strs [])).At w.heap.size w' v) rfl acq (by decide) acr (by decide) acs (fun i v w w' h hm=>GV.up _ h hm) ?_ ?_;intro i s hs aH w' hm hp hk
 match i,hs with
 | 0,hs=>
  obtain rfl:=Option.some.inj hs;(try simp only [go_sem,simprocAttr]);refine ⟨_,rfl,.refl _ _,?_⟩;exact ⟨_,rfl,_,rfl,fH _ _ _ _,by decide⟩
 | 1,hs=>
  obtain rfl:=Option.some.inj hs;(try simp only [go_sem,simprocAttr]);refine ⟨_,rfl,.refl _ _,?_⟩;exact ⟨_,rfl,_,rfl,fH _ _ _ _,by decide⟩
 | 2,hs=>
  obtain rfl:=Option.some.inj hs;obtain ⟨v0,g0,h0⟩:=hp 0 (by decide);have g0:aH.get 7=some v0:=g0;obtain ⟨v1,g1,h1⟩:=hp 1 (by decide);have g1:aH.get 8=some v1:=g1;obtain ⟨cs0,rfl,h0⟩:∃ cs:List Value,v0 = .agg cs.toArray∧eF w' (NB w.heap.size w') cs qI:=h0;obtain ⟨f0,e0⟩:∃ f,cs0=[.string qI.name,f]:=by obtain ⟨f,e,_⟩:=h0;exact ⟨f,e⟩
  subst e0;obtain ⟨Ka,rfl,h1⟩:∃ cs:List Value,v1 = .agg cs.toArray∧eF w' (NB w.heap.size w') cs qJ:=h1;obtain ⟨f1,e1⟩:∃ f,Ka=[.string qJ.name,f]:=by obtain ⟨f,e,_⟩:=h1;exact ⟨f,e⟩
  subst e1;(try simp only [go_sem,simprocAttr,g0,g1]);refine fG (cs:=([[.string qI.name,f0],[.string qJ.name,f1]]:List (List Value)).flatten.toArray) (ps:=partsOf 2 0 [[.string qI.name,f0],[.string qJ.name,f1]]) (by (try simp only [go_sem,simprocAttr,g0,g1]);rfl) (jD (sz:=2) [[.string qI.name,f0],[.string qJ.name,f1]] [] _ ⟨rfl,rfl,trivial⟩ rfl) ?_;intro w2 aw ai bS;(try simp only [go_sem,simprocAttr]);refine ⟨_,rfl,ai,?_⟩;have hr:aQ w2 (.slice (some ⟨w'.heap.size,0,none⟩) 2 2) 2 (NB w.heap.size w2) (eF w2 (NB w.heap.size w2)) [qI,qJ]:=by
   refine mZ (rows:=[[.string qI.name,f0],[.string qJ.name,f1]]) aw (oR (bo.trans hm) bS) ⟨rfl,rfl,trivial⟩ (by simp) ⟨?_,?_,trivial⟩
   ·exact h0.up ai aC (fi ai)
   ·exact h1.up ai aC (fi ai)
  exact hr
 | 3,hs=>
  obtain rfl:=Option.some.inj hs;obtain ⟨v2,g2,h2⟩:=hp 2 (by decide);have g2:aH.get 9=some v2:=g2;have h2:aQ w' v2 2 (NB w.heap.size w') (eF w' (NB w.heap.size w')) [qI,qJ]:=h2;obtain ⟨ax,cx,rfl⟩:=a8 h2;(try simp only [go_sem,simprocAttr,g2]);refine ⟨_,rfl,.refl _ _,?_⟩;exact ⟨_,rfl,_,_,rfl,fH _ _ _ _,h2⟩
 | 4,hs=>
  obtain rfl:=Option.some.inj hs;(try simp only [go_sem,simprocAttr]);refine ⟨_,rfl,.refl _ _,?_⟩;exact ⟨_,rfl,_,rfl,fH _ _ _ _,by decide⟩
 | 5,hs=>
  obtain rfl:=Option.some.inj hs;obtain ⟨v4,g4,h4⟩:=hp 4 (by decide);have g4:aH.get 11=some v4:=g4;obtain ⟨cs4,rfl,h4⟩:∃ cs:List Value,v4 = .agg cs.toArray∧eF w' (NB w.heap.size w') cs qK:=h4;obtain ⟨f4,e4⟩:∃ f,cs4=[.string qK.name,f]:=by obtain ⟨f,e,_⟩:=h4;exact ⟨f,e⟩
  subst e4;(try simp only [go_sem,simprocAttr,g4]);refine fG (cs:=([[.string qK.name,f4]]:List (List Value)).flatten.toArray) (ps:=partsOf 2 0 [[.string qK.name,f4]]) (by (try simp only [go_sem,simprocAttr,g4]);rfl) (jD (sz:=2) [[.string qK.name,f4]] [] _ ⟨rfl,trivial⟩ rfl) ?_;intro w2 aw ai bS;(try simp only [go_sem,simprocAttr]);refine ⟨_,rfl,ai,?_⟩;have hr:aQ w2 (.slice (some ⟨w'.heap.size,0,none⟩) 1 1) 2 (NB w.heap.size w2) (eF w2 (NB w.heap.size w2)) [qK]:=by
   refine mZ (rows:=[[.string qK.name,f4]]) aw (oR (bo.trans hm) bS) ⟨rfl,trivial⟩ (by simp) ⟨?_,trivial⟩
   ·exact h4.up ai aC (fi ai)
  exact hr
 | 6,hs=>
  obtain rfl:=Option.some.inj hs;obtain ⟨v5,g5,h5⟩:=hp 5 (by decide);have g5:aH.get 12=some v5:=g5;have h5:aQ w' v5 2 (NB w.heap.size w') (eF w' (NB w.heap.size w')) [qK]:=h5;obtain ⟨ax,cx,rfl⟩:=a8 h5;(try simp only [go_sem,simprocAttr,g5]);refine ⟨_,rfl,.refl _ _,?_⟩;exact ⟨_,rfl,_,_,rfl,fH _ _ _ _,h5⟩
 | 7,hs=>
  obtain rfl:=Option.some.inj hs;(try simp only [go_sem,simprocAttr]);refine fG (cs:=([[.string ⟨#[97]⟩]]:List (List Value)).flatten.toArray) rfl rfl ?_;intro w2 aw ai bS;(try simp only [go_sem,simprocAttr]);refine ⟨_,rfl,ai,?_⟩;exact mZ (P:=eP) (rows:=[[.string ⟨#[97]⟩]]) (l:=[⟨#[97]⟩]) (sz:=1) aw (oR (bo.trans hm) bS) ⟨rfl,trivial⟩ (by simp) ⟨⟨rfl,by decide⟩,trivial⟩
 | 8,hs=>
  obtain rfl:=Option.some.inj hs;(try simp only [go_sem,simprocAttr]);refine ⟨_,rfl,.refl _ _,?_⟩;exact ⟨_,rfl,_,rfl,fH _ _ _ _,by decide⟩
 | 9,hs=>
  obtain rfl:=Option.some.inj hs;have gt:aH.get 1=some (ptr b1):=(hk 1 (by decide)).trans rfl;have hb:=hm.at au _root_.id;(try simp only [go_sem,simprocAttr,gt,az (n:=3) hb rfl]);exact ⟨_,rfl,.refl _ _,_,rfl,nM _ _ 2 ⟨#[97]⟩⟩
 | 10,hs=>
  obtain rfl:=Option.some.inj hs;have gt:aH.get 1=some (ptr b1):=(hk 1 (by decide)).trans rfl;have hb:=hm.at au _root_.id;(try simp only [go_sem,simprocAttr,gt,az (n:=3) hb rfl]);exact ⟨_,rfl,.refl _ _,_,rfl,nM _ _ 2 ⟨#[97]⟩⟩
 | 11,hs=>
  obtain rfl:=Option.some.inj hs;obtain ⟨v10,g10,kz⟩:=hp 10 (by decide);have g10:aH.get 17=some v10:=g10;obtain ⟨acx,rfl,kz⟩:∃ cs:List Value,v10 = .agg cs.toArray∧aX w' (NB w.heap.size w') cs cA:=kz;obtain ⟨f10,rW⟩:∃ f,acx=[I cA.kind,.string cA.name,f]:=by obtain ⟨f,e,_⟩:=kz.cells;exact ⟨f,e⟩
  subst rW;(try simp only [go_sem,simprocAttr,g10]);refine fG (cs:=([[I cA.kind,.string cA.name,f10]]:List (List Value)).flatten.toArray) (ps:=partsOf 3 0 [[I cA.kind,.string cA.name,f10]]) (by (try simp only [go_sem,simprocAttr,g10]);rfl) (jD (sz:=3) [[I cA.kind,.string cA.name,f10]] [] _ ⟨rfl,trivial⟩ rfl) ?_;intro w2 aw ai bS;(try simp only [go_sem,simprocAttr]);refine ⟨_,rfl,ai,?_⟩;have hr:aQ w2 (.slice (some ⟨w'.heap.size,0,none⟩) 1 1) 3 (NB w.heap.size w2) (aX w2 (NB w.heap.size w2)) [cA]:=by
   refine mZ (rows:=[[I cA.kind,.string cA.name,f10]]) aw (oR (bo.trans hm) bS) ⟨rfl,trivial⟩ (by simp) ⟨?_,trivial⟩
   ·exact kz.up ai aC (fi ai)
  exact hr
 | 12,hs=>
  obtain rfl:=Option.some.inj hs;obtain ⟨v11,g11,kA⟩:=hp 11 (by decide);have g11:aH.get 18=some v11:=g11;have kA:aQ w' v11 3 (NB w.heap.size w') (aX w' (NB w.heap.size w')) [cA]:=kA;obtain ⟨ax,cx,rfl⟩:=a8 kA;(try simp only [go_sem,simprocAttr,g11]);refine aK (vs:=[.string ⟨#[76,105,115,116]⟩,.slice ax 1 cx]) (by (try simp only [go_sem,simprocAttr,g11])) ?_;refine (I7 (v:=.slice ax 1 cx) ⟨#[76,105,115,116]⟩ rfl rfl).mono ?_;rintro _ w2 ⟨rfl,ai⟩;(try simp only [go_sem,simprocAttr]);refine ⟨_,rfl,ai,_,rfl,?_⟩;obtain ⟨rows,q1,q2,q3⟩:=kA.up ai aC (fi ai) (fun _ _ h=>h.up ai aC (fi ai));exact .mk q1 q2 q3
 | 13,hs=>
  obtain rfl:=Option.some.inj hs;obtain ⟨v9,g9,h9⟩:=hp 9 (by decide);have g9:aH.get 16=some v9:=g9;obtain ⟨v12,g12,pj⟩:=hp 12 (by decide);have g12:aH.get 19=some v12:=g12;obtain ⟨cs9,rfl,h9⟩:∃ cs:List Value,v9 = .agg cs.toArray∧aX w' (NB w.heap.size w') cs cA:=h9;obtain ⟨f9,e9⟩:∃ f,cs9=[I cA.kind,.string cA.name,f]:=by obtain ⟨f,e,_⟩:=h9.cells;exact ⟨f,e⟩
  subst e9;obtain ⟨acy,rfl,pj⟩:∃ cs:List Value,v12 = .agg cs.toArray∧aX w' (NB w.heap.size w') cs jE:=pj;obtain ⟨f12,e12⟩:∃ f,acy=[I jE.kind,.string jE.name,f]:=by obtain ⟨f,e,_⟩:=pj.cells;exact ⟨f,e⟩
  subst e12;(try simp only [go_sem,simprocAttr,g9,g12]);refine fG (cs:=([[I cA.kind,.string cA.name,f9],[I jE.kind,.string jE.name,f12]]:List (List Value)).flatten.toArray) (ps:=partsOf 3 0 [[I cA.kind,.string cA.name,f9],[I jE.kind,.string jE.name,f12]]) (by (try simp only [go_sem,simprocAttr,g9,g12]);rfl) (jD (sz:=3) [[I cA.kind,.string cA.name,f9],[I jE.kind,.string jE.name,f12]] [] _ ⟨rfl,rfl,trivial⟩ rfl) ?_;intro w2 aw ai bS;(try simp only [go_sem,simprocAttr]);refine ⟨_,rfl,ai,?_⟩;have hr:aQ w2 (.slice (some ⟨w'.heap.size,0,none⟩) 2 2) 3 (NB w.heap.size w2) (aX w2 (NB w.heap.size w2)) [cA,jE]:=by
   refine mZ (rows:=[[I cA.kind,.string cA.name,f9],[I jE.kind,.string jE.name,f12]]) aw (oR (bo.trans hm) bS) ⟨rfl,rfl,trivial⟩ (by simp) ⟨?_,?_,trivial⟩
   ·exact h9.up ai aC (fi ai)
   ·exact pj.up ai aC (fi ai)
  exact hr
 | 14,hs=>
  obtain rfl:=Option.some.inj hs;obtain ⟨QF,g13,Em⟩:=hp 13 (by decide);have g13:aH.get 20=some QF:=g13;have Em:aQ w' QF 3 (NB w.heap.size w') (aX w' (NB w.heap.size w')) [cA,jE]:=Em;obtain ⟨ax,cx,rfl⟩:=a8 Em;(try simp only [go_sem,simprocAttr,g13]);refine ⟨_,rfl,.refl _ _,?_⟩;exact ⟨_,rfl,_,rfl,Em,by decide⟩
 | 15,hs=>
  obtain rfl:=Option.some.inj hs;obtain ⟨v8,g8,h8⟩:=hp 8 (by decide);have g8:aH.get 15=some v8:=g8;obtain ⟨QG,g14,En⟩:=hp 14 (by decide);have g14:aH.get 21=some QG:=g14;obtain ⟨cs8,rfl,h8⟩:∃ cs:List Value,v8 = .agg cs.toArray∧eF w' (NB w.heap.size w') cs qL:=h8;obtain ⟨f8,e8⟩:∃ f,cs8=[.string qL.name,f]:=by obtain ⟨f,e,_⟩:=h8;exact ⟨f,e⟩
  subst e8;obtain ⟨acz,rfl,En⟩:∃ cs:List Value,QG = .agg cs.toArray∧eF w' (NB w.heap.size w') cs qM:=En;obtain ⟨f14,D9⟩:∃ f,acz=[.string qM.name,f]:=by obtain ⟨f,e,_⟩:=En;exact ⟨f,e⟩
  subst D9;(try simp only [go_sem,simprocAttr,g8,g14]);refine fG (cs:=([[.string qL.name,f8],[.string qM.name,f14]]:List (List Value)).flatten.toArray) (ps:=partsOf 2 0 [[.string qL.name,f8],[.string qM.name,f14]]) (by (try simp only [go_sem,simprocAttr,g8,g14]);rfl) (jD (sz:=2) [[.string qL.name,f8],[.string qM.name,f14]] [] _ ⟨rfl,rfl,trivial⟩ rfl) ?_;intro w2 aw ai bS;(try simp only [go_sem,simprocAttr]);refine ⟨_,rfl,ai,?_⟩;have hr:aQ w2 (.slice (some ⟨w'.heap.size,0,none⟩) 2 2) 2 (NB w.heap.size w2) (eF w2 (NB w.heap.size w2)) [qL,qM]:=by
   refine mZ (rows:=[[.string qL.name,f8],[.string qM.name,f14]]) aw (oR (bo.trans hm) bS) ⟨rfl,rfl,trivial⟩ (by simp) ⟨?_,?_,trivial⟩
   ·exact h8.up ai aC (fi ai)
   ·exact En.up ai aC (fi ai)
  exact hr
 | 16,hs=>
  obtain rfl:=Option.some.inj hs;obtain ⟨v7,g7,h7⟩:=hp 7 (by decide);have g7:aH.get 14=some v7:=g7;obtain ⟨QH,g15,xo⟩:=hp 15 (by decide);have g15:aH.get 22=some QH:=g15;have xo:aQ w' QH 2 (NB w.heap.size w') (eF w' (NB w.heap.size w')) [qL,qM]:=xo;obtain ⟨ax,cx,rfl⟩:=a8 xo;have h7:aQ w' v7 1 (NB w.heap.size w') eP [⟨#[97]⟩]:=h7;obtain ⟨ay,cy,rfl⟩:=a8 h7;(try simp only [go_sem,simprocAttr,g7,g15]);refine ⟨_,rfl,.refl _ _,?_⟩;exact ⟨_,rfl,_,_,rfl,h7,xo⟩
 | 17,hs=>
  obtain rfl:=Option.some.inj hs;(try simp only [go_sem,simprocAttr]);refine fG (cs:=([[.string ⟨#[97]⟩],[.string ⟨#[98]⟩]]:List (List Value)).flatten.toArray) rfl rfl ?_;intro w2 aw ai bS;(try simp only [go_sem,simprocAttr]);refine ⟨_,rfl,ai,?_⟩;exact mZ (P:=eP) (rows:=[[.string ⟨#[97]⟩],[.string ⟨#[98]⟩]]) (l:=[⟨#[97]⟩,⟨#[98]⟩]) (sz:=1) aw (oR (bo.trans hm) bS) ⟨rfl,rfl,trivial⟩ (by simp) ⟨⟨rfl,by decide⟩,⟨rfl,by decide⟩,trivial⟩
 | 18,hs=>
  obtain rfl:=Option.some.inj hs;have gt:aH.get 1=some (ptr b1):=(hk 1 (by decide)).trans rfl;have hb:=hm.at au _root_.id;(try simp only [go_sem,simprocAttr,gt,az (n:=3) hb rfl]);exact ⟨_,rfl,.refl _ _,_,rfl,nM _ _ 2 ⟨#[97]⟩⟩
 | 19,hs=>
  obtain rfl:=Option.some.inj hs;have gt:aH.get 2=some (ptr b2):=(hk 2 (by decide)).trans rfl;have hb:=hm.at aw _root_.id;(try simp only [go_sem,simprocAttr,gt,az (n:=3) hb rfl]);exact ⟨_,rfl,.refl _ _,_,rfl,nM _ _ 2 ⟨#[98]⟩⟩
 | 20,hs=>
  obtain rfl:=Option.some.inj hs;obtain ⟨QI,g18,Eo⟩:=hp 18 (by decide);have g18:aH.get 25=some QI:=g18;obtain ⟨QJ,g19,Ep⟩:=hp 19 (by decide);have g19:aH.get 26=some QJ:=g19;obtain ⟨acA,rfl,Eo⟩:∃ cs:List Value,QI = .agg cs.toArray∧aX w' (NB w.heap.size w') cs cA:=Eo;obtain ⟨f18,e18⟩:∃ f,acA=[I cA.kind,.string cA.name,f]:=by obtain ⟨f,e,_⟩:=Eo.cells;exact ⟨f,e⟩
  subst e18;obtain ⟨acB,rfl,Ep⟩:∃ cs:List Value,QJ = .agg cs.toArray∧aX w' (NB w.heap.size w') cs fj:=Ep;obtain ⟨f19,e19⟩:∃ f,acB=[I fj.kind,.string fj.name,f]:=by obtain ⟨f,e,_⟩:=Ep.cells;exact ⟨f,e⟩
  subst e19;(try simp only [go_sem,simprocAttr,g18,g19]);refine fG (cs:=([[I cA.kind,.string cA.name,f18],[I fj.kind,.string fj.name,f19]]:List (List Value)).flatten.toArray) (ps:=partsOf 3 0 [[I cA.kind,.string cA.name,f18],[I fj.kind,.string fj.name,f19]]) (by (try simp only [go_sem,simprocAttr,g18,g19]);rfl) (jD (sz:=3) [[I cA.kind,.string cA.name,f18],[I fj.kind,.string fj.name,f19]] [] _ ⟨rfl,rfl,trivial⟩ rfl) ?_;intro w2 aw ai bS;(try simp only [go_sem,simprocAttr]);refine ⟨_,rfl,ai,?_⟩;have hr:aQ w2 (.slice (some ⟨w'.heap.size,0,none⟩) 2 2) 3 (NB w.heap.size w2) (aX w2 (NB w.heap.size w2)) [cA,fj]:=by
   refine mZ (rows:=[[I cA.kind,.string cA.name,f18],[I fj.kind,.string fj.name,f19]]) aw (oR (bo.trans hm) bS) ⟨rfl,rfl,trivial⟩ (by simp) ⟨?_,?_,trivial⟩
   ·exact Eo.up ai aC (fi ai)
   ·exact Ep.up ai aC (fi ai)
  exact hr
 | 21,hs=>
  obtain rfl:=Option.some.inj hs;obtain ⟨v20,g20,vh⟩:=hp 20 (by decide);have g20:aH.get 27=some v20:=g20;have vh:aQ w' v20 3 (NB w.heap.size w') (aX w' (NB w.heap.size w')) [cA,fj]:=vh;obtain ⟨ax,cx,rfl⟩:=a8 vh;(try simp only [go_sem,simprocAttr,g20]);refine ⟨_,rfl,.refl _ _,?_⟩;exact ⟨_,rfl,_,rfl,vh,by decide⟩
 | 22,hs=>
  obtain rfl:=Option.some.inj hs;obtain ⟨v21,g21,Er⟩:=hp 21 (by decide);have g21:aH.get 28=some v21:=g21;obtain ⟨acC,rfl,Er⟩:∃ cs:List Value,v21 = .agg cs.toArray∧eF w' (NB w.heap.size w') cs qN:=Er;obtain ⟨f21,e21⟩:∃ f,acC=[.string qN.name,f]:=by obtain ⟨f,e,_⟩:=Er;exact ⟨f,e⟩
  subst e21;(try simp only [go_sem,simprocAttr,g21]);refine fG (cs:=([[.string qN.name,f21]]:List (List Value)).flatten.toArray) (ps:=partsOf 2 0 [[.string qN.name,f21]]) (by (try simp only [go_sem,simprocAttr,g21]);rfl) (jD (sz:=2) [[.string qN.name,f21]] [] _ ⟨rfl,trivial⟩ rfl) ?_;intro w2 aw ai bS;(try simp only [go_sem,simprocAttr]);refine ⟨_,rfl,ai,?_⟩;have hr:aQ w2 (.slice (some ⟨w'.heap.size,0,none⟩) 1 1) 2 (NB w.heap.size w2) (eF w2 (NB w.heap.size w2)) [qN]:=by
   refine mZ (rows:=[[.string qN.name,f21]]) aw (oR (bo.trans hm) bS) ⟨rfl,trivial⟩ (by simp) ⟨?_,trivial⟩
   ·exact Er.up ai aC (fi ai)
  exact hr
 | 23,hs=>
  obtain rfl:=Option.some.inj hs;obtain ⟨QK,g17,Es⟩:=hp 17 (by decide);have g17:aH.get 24=some QK:=g17;obtain ⟨QL,g22,Et⟩:=hp 22 (by decide);have g22:aH.get 29=some QL:=g22;have Et:aQ w' QL 2 (NB w.heap.size w') (eF w' (NB w.heap.size w')) [qN]:=Et;obtain ⟨ax,cx,rfl⟩:=a8 Et;have Es:aQ w' QK 1 (NB w.heap.size w') eP [⟨#[97]⟩,⟨#[98]⟩]:=Es;obtain ⟨ay,cy,rfl⟩:=a8 Es;(try simp only [go_sem,simprocAttr,g17,g22]);refine ⟨_,rfl,.refl _ _,?_⟩;exact ⟨_,rfl,_,_,rfl,Es,Et⟩
 | 24,hs=>
  obtain rfl:=Option.some.inj hs;(try simp only [go_sem,simprocAttr]);refine fG (cs:=([[.string ⟨#[97]⟩],[.string ⟨#[98]⟩],[.string ⟨#[99]⟩]]:List (List Value)).flatten.toArray) rfl rfl ?_;intro w2 aw ai bS;(try simp only [go_sem,simprocAttr]);refine ⟨_,rfl,ai,?_⟩;exact mZ (P:=eP) (rows:=[[.string ⟨#[97]⟩],[.string ⟨#[98]⟩],[.string ⟨#[99]⟩]]) (l:=[⟨#[97]⟩,⟨#[98]⟩,⟨#[99]⟩]) (sz:=1) aw (oR (bo.trans hm) bS) ⟨rfl,rfl,rfl,trivial⟩ (by simp) ⟨⟨rfl,by decide⟩,⟨rfl,by decide⟩,⟨rfl,by decide⟩,trivial⟩
 | 25,hs=>
  obtain rfl:=Option.some.inj hs;have gt:aH.get 1=some (ptr b1):=(hk 1 (by decide)).trans rfl;have hb:=hm.at au _root_.id;(try simp only [go_sem,simprocAttr,gt,az (n:=3) hb rfl]);exact ⟨_,rfl,.refl _ _,_,rfl,nM _ _ 2 ⟨#[97]⟩⟩
 | 26,hs=>
  obtain rfl:=Option.some.inj hs;have gt:aH.get 2=some (ptr b2):=(hk 2 (by decide)).trans rfl;have hb:=hm.at aw _root_.id;(try simp only [go_sem,simprocAttr,gt,az (n:=3) hb rfl]);exact ⟨_,rfl,.refl _ _,_,rfl,nM _ _ 2 ⟨#[98]⟩⟩
 | 27,hs=>
  obtain rfl:=Option.some.inj hs;have gt:aH.get 3=some (ptr b3):=(hk 3 (by decide)).trans rfl;have hb:=hm.at aO _root_.id;(try simp only [go_sem,simprocAttr,gt,az (n:=3) hb rfl]);exact ⟨_,rfl,.refl _ _,_,rfl,nM _ _ 2 ⟨#[99]⟩⟩
 | 28,hs=>
  obtain rfl:=Option.some.inj hs;obtain ⟨QM,Eu,Ev⟩:=hp 25 (by decide);have Eu:aH.get 32=some QM:=Eu;obtain ⟨QN,zi,Ew⟩:=hp 26 (by decide);have zi:aH.get 33=some QN:=zi;obtain ⟨QO,Ey,Ez⟩:=hp 27 (by decide);have Ey:aH.get 34=some QO:=Ey;obtain ⟨acD,rfl,Ev⟩:∃ cs:List Value,QM = .agg cs.toArray∧aX w' (NB w.heap.size w') cs cA:=Ev;obtain ⟨f25,e25⟩:∃ f,acD=[I cA.kind,.string cA.name,f]:=by obtain ⟨f,e,_⟩:=Ev.cells;exact ⟨f,e⟩
  subst e25;obtain ⟨acE,rfl,Ew⟩:∃ cs:List Value,QN = .agg cs.toArray∧aX w' (NB w.heap.size w') cs fj:=Ew;obtain ⟨f26,e26⟩:∃ f,acE=[I fj.kind,.string fj.name,f]:=by obtain ⟨f,e,_⟩:=Ew.cells;exact ⟨f,e⟩
  subst e26;obtain ⟨acF,rfl,Ez⟩:∃ cs:List Value,QO = .agg cs.toArray∧aX w' (NB w.heap.size w') cs mr:=Ez;obtain ⟨f27,e27⟩:∃ f,acF=[I mr.kind,.string mr.name,f]:=by obtain ⟨f,e,_⟩:=Ez.cells;exact ⟨f,e⟩
  subst e27;(try simp only [go_sem,simprocAttr,Eu,zi,Ey]);refine fG (cs:=([[I cA.kind,.string cA.name,f25],[I fj.kind,.string fj.name,f26],[I mr.kind,.string mr.name,f27]]:List (List Value)).flatten.toArray) (ps:=partsOf 3 0 [[I cA.kind,.string cA.name,f25],[I fj.kind,.string fj.name,f26],[I mr.kind,.string mr.name,f27]]) (by (try simp only [go_sem,simprocAttr,Eu,zi,Ey]);rfl) (jD (sz:=3) [[I cA.kind,.string cA.name,f25],[I fj.kind,.string fj.name,f26],[I mr.kind,.string mr.name,f27]] [] _ ⟨rfl,rfl,rfl,trivial⟩ rfl) ?_;intro w2 aw ai bS;(try simp only [go_sem,simprocAttr]);refine ⟨_,rfl,ai,?_⟩;have hr:aQ w2 (.slice (some ⟨w'.heap.size,0,none⟩) 3 3) 3 (NB w.heap.size w2) (aX w2 (NB w.heap.size w2)) [cA,fj,mr]:=by
   refine mZ (rows:=[[I cA.kind,.string cA.name,f25],[I fj.kind,.string fj.name,f26],[I mr.kind,.string mr.name,f27]]) aw (oR (bo.trans hm) bS) ⟨rfl,rfl,rfl,trivial⟩ (by simp) ⟨?_,?_,?_,trivial⟩
   ·exact Ev.up ai aC (fi ai)
   ·exact Ew.up ai aC (fi ai)
   ·exact Ez.up ai aC (fi ai)
  exact hr
 | 29,hs=>
  obtain rfl:=Option.some.inj hs;obtain ⟨v28,Kb,EA⟩:=hp 28 (by decide);have Kb:aH.get 35=some v28:=Kb;have EA:aQ w' v28 3 (NB w.heap.size w') (aX w' (NB w.heap.size w')) [cA,fj,mr]:=EA;obtain ⟨ax,cx,rfl⟩:=a8 EA;(try simp only [go_sem,simprocAttr,Kb]);refine ⟨_,rfl,.refl _ _,?_⟩;exact ⟨_,rfl,_,rfl,EA,by decide⟩
 | 30,hs=>
  obtain rfl:=Option.some.inj hs;obtain ⟨QP,EB,EC⟩:=hp 29 (by decide);have EB:aH.get 36=some QP:=EB;obtain ⟨acG,rfl,EC⟩:∃ cs:List Value,QP = .agg cs.toArray∧eF w' (NB w.heap.size w') cs qO:=EC;obtain ⟨f29,e29⟩:∃ f,acG=[.string qO.name,f]:=by obtain ⟨f,e,_⟩:=EC;exact ⟨f,e⟩
  subst e29;(try simp only [go_sem,simprocAttr,EB]);refine fG (cs:=([[.string qO.name,f29]]:List (List Value)).flatten.toArray) (ps:=partsOf 2 0 [[.string qO.name,f29]]) (by (try simp only [go_sem,simprocAttr,EB]);rfl) (jD (sz:=2) [[.string qO.name,f29]] [] _ ⟨rfl,trivial⟩ rfl) ?_;intro w2 aw ai bS;(try simp only [go_sem,simprocAttr]);refine ⟨_,rfl,ai,?_⟩;have hr:aQ w2 (.slice (some ⟨w'.heap.size,0,none⟩) 1 1) 2 (NB w.heap.size w2) (eF w2 (NB w.heap.size w2)) [qO]:=by
   refine mZ (rows:=[[.string qO.name,f29]]) aw (oR (bo.trans hm) bS) ⟨rfl,trivial⟩ (by simp) ⟨?_,trivial⟩
   ·exact EC.up ai aC (fi ai)
  exact hr
 | 31,hs=>
  obtain rfl:=Option.some.inj hs;obtain ⟨v24,g24,ED⟩:=hp 24 (by decide);have g24:aH.get 31=some v24:=g24;obtain ⟨v30,Kc,EE⟩:=hp 30 (by decide);have Kc:aH.get 37=some v30:=Kc;have EE:aQ w' v30 2 (NB w.heap.size w') (eF w' (NB w.heap.size w')) [qO]:=EE;obtain ⟨ax,cx,rfl⟩:=a8 EE;have ED:aQ w' v24 1 (NB w.heap.size w') eP [⟨#[97]⟩,⟨#[98]⟩,⟨#[99]⟩]:=ED;obtain ⟨ay,cy,rfl⟩:=a8 ED;(try simp only [go_sem,simprocAttr,g24,Kc]);refine ⟨_,rfl,.refl _ _,?_⟩;exact ⟨_,rfl,_,_,rfl,ED,EE⟩
 | 32,hs=>
  obtain rfl:=Option.some.inj hs;obtain ⟨v3,g3,h3⟩:=hp 3 (by decide);have g3:aH.get 10=some v3:=g3;obtain ⟨v6,g6,h6⟩:=hp 6 (by decide);have g6:aH.get 13=some v6:=g6;obtain ⟨QQ,g16,tG⟩:=hp 16 (by decide);have g16:aH.get 23=some QQ:=g16;obtain ⟨QR,g23,EF⟩:=hp 23 (by decide);have g23:aH.get 30=some QR:=g23;obtain ⟨v31,EG,EH⟩:=hp 31 (by decide);have EG:aH.get 38=some v31:=EG;obtain ⟨cs3,rfl,h3⟩:∃ cs:List Value,v3 = .agg cs.toArray∧gp w' (NB w.heap.size w') cs jg:=h3;obtain ⟨f3,k3,e3⟩:∃ f k,cs3=[.string jg.name,f,k]:=by obtain ⟨f,k,e,_⟩:=h3;exact ⟨f,k,e⟩
  subst e3;obtain ⟨cs6,rfl,h6⟩:∃ cs:List Value,v6 = .agg cs.toArray∧gp w' (NB w.heap.size w') cs pC:=h6;obtain ⟨f6,k6,e6⟩:∃ f k,cs6=[.string pC.name,f,k]:=by obtain ⟨f,k,e,_⟩:=h6;exact ⟨f,k,e⟩
  subst e6;obtain ⟨acH,rfl,tG⟩:∃ cs:List Value,QQ = .agg cs.toArray∧gp w' (NB w.heap.size w') cs dList:=tG;obtain ⟨f16,EI,e16⟩:∃ f k,acH=[.string dList.name,f,k]:=by obtain ⟨f,k,e,_⟩:=tG;exact ⟨f,k,e⟩
  subst e16;obtain ⟨acI,rfl,EF⟩:∃ cs:List Value,QR = .agg cs.toArray∧gp w' (NB w.heap.size w') cs pD:=EF;obtain ⟨f23,EJ,e23⟩:∃ f k,acI=[.string pD.name,f,k]:=by obtain ⟨f,k,e,_⟩:=EF;exact ⟨f,k,e⟩
  subst e23;obtain ⟨acJ,rfl,EH⟩:∃ cs:List Value,v31 = .agg cs.toArray∧gp w' (NB w.heap.size w') cs pE:=EH;obtain ⟨f31,EK,e31⟩:∃ f k,acJ=[.string pE.name,f,k]:=by obtain ⟨f,k,e,_⟩:=EH;exact ⟨f,k,e⟩
  subst e31;(try simp only [go_sem,simprocAttr,g3,g6,g16,g23,EG]);refine fG (cs:=([[.string jg.name,f3,k3],[.string pC.name,f6,k6],[.string dList.name,f16,EI],[.string pD.name,f23,EJ],[.string pE.name,f31,EK]]:List (List Value)).flatten.toArray) (ps:=partsOf 3 0 [[.string jg.name,f3,k3],[.string pC.name,f6,k6],[.string dList.name,f16,EI],[.string pD.name,f23,EJ],[.string pE.name,f31,EK]]) (by (try simp only [go_sem,simprocAttr,g3,g6,g16,g23,EG]);rfl) (jD (sz:=3) [[.string jg.name,f3,k3],[.string pC.name,f6,k6],[.string dList.name,f16,EI],[.string pD.name,f23,EJ],[.string pE.name,f31,EK]] [] _ ⟨rfl,rfl,rfl,rfl,rfl,trivial⟩ rfl) ?_;intro w2 aw ai bS;(try simp only [go_sem,simprocAttr]);refine ⟨_,rfl,ai,?_⟩;have hr:aQ w2 (.slice (some ⟨w'.heap.size,0,none⟩) 5 5) 3 (NB w.heap.size w2) (gp w2 (NB w.heap.size w2)) [jg,pC,dList,pD,pE]:=by
   refine mZ (rows:=[[.string jg.name,f3,k3],[.string pC.name,f6,k6],[.string dList.name,f16,EI],[.string pD.name,f23,EJ],[.string pE.name,f31,EK]]) aw (oR (bo.trans hm) bS) ⟨rfl,rfl,rfl,rfl,rfl,trivial⟩ (by simp) ⟨?_,?_,?_,?_,?_,trivial⟩
   ·exact h3.up ai aC (fi ai)
   ·exact h6.up ai aC (fi ai)
   ·exact tG.up ai aC (fi ai)
   ·exact EF.up ai aC (fi ai)
   ·exact EH.up ai aC (fi ai)
  exact hr
 | 33,hs=>
  obtain rfl:=Option.some.inj hs;obtain ⟨v32,Kd,h32⟩:=hp 32 (by decide);have Kd:aH.get 39=some v32:=Kd;(try simp only [go_sem,simprocAttr,Kd]);exact ⟨_,rfl,.refl _ _,h32⟩
 | i+34,hs=>simp [J'] at hs
 rintro aH w' ai dh hk;obtain ⟨v,g,hv⟩:=dh 33 (by rw [acv];decide);have g:aH.get 0=some v:=g;have hv:aQ w' v 3 (NB w.heap.size w') (gp w' (NB w.heap.size w')) iP:=hv;(try simp only [go_sem,simprocAttr,g,aE,RV.ev,aF]);exact ⟨hv,bo.trans ai⟩
end
section
open Go Go.W
theorem io {α:Type} {w:World} {v:Value} {sz:Nat} {B:Nat→Prop} {P:List Value→α→Prop} {l:List α} (h:aQ w v sz B P l) {i:Nat} (hi:i < l.length) :
   ∃ ad c r,v = .slice (some ad) l.length c∧P r l[i]∧r.length=sz∧fT w B (ad.add (i*sz)) r:=by
 obtain ⟨rows,⟨⟨a,c,e,hb,hr⟩,_⟩,h2,h3⟩:=h;obtain ⟨ad,rfl,hl,hc⟩:=hr i (by omega);exact ⟨ad,c,rows[i]'(by omega),by rw [e,h2],h3 i _ _ (List.getElem?_eq_getElem (by omega)) (List.getElem?_eq_getElem hi),hl,by rw [sN];exact hb (by omega) ad rfl,hc⟩
def BN:Env:=⟨[],[],[],[]⟩
def vi:List Dt→Env→Env
 | [],E=>E
 | d::l,E=>vi l (pA E d)
theorem acK {l:List Dt} {i:Nat} (hi:i < l.length) (E:Env):vi (l.drop i) E=vi (l.drop (i+1)) (pA E l[i]):=by rw [List.drop_eq_getElem_cons hi,vi]
def hH:Env:=vi iP BN
theorem acL {w:World}:ba Tryz.prog 41 [] w fun r w'=>(∃ (c md mc mf:Nat) (S:Nat→Prop),r=ptr c∧fc w' S c md mc mf hH∧∀ b,S b→w.heap.size≤b)∧Mod (fun _=>False) w w':=by
 refine X4.calls rfl ?_;unfold HB;(try simp only [go_sem,simprocAttr]);refine pq (α:=Dt) (fun v _=>False) ?_;intro w1 iK ak bP;(try simp only [go_sem,simprocAttr]);refine pq (α:=Dt×Nat) (fun v _=>False) ?_;intro w2 mL ai bS;(try simp only [go_sem,simprocAttr]);refine pq (α:=Df) (fun v _=>False) ?_;intro w3 Ke ar eR;have emp:∀ {α:Type} {w:World} {b:Nat} {R R':Value→α→Prop},cD w b R []→cD w b R' []:=fun h=>by
  obtain ⟨lv,q1,q2⟩:=h;cases q2;exact ⟨[],q1,.nil⟩
 (try simp only [go_sem,simprocAttr]);refine bB rfl ?_;intro w4 aZ aA eA;have eG:=ak.trans (ai.trans (ar.trans aA));have z4:=eG.size;(try simp only [go_sem,simprocAttr]);refine aK (by rfl) ?_;refine acw.mono ?_;rintro r w5 ⟨hg,aD⟩;obtain ⟨ag,cg,rfl⟩:=a8 hg;have z5:=aD.size;have bT:=aD.at aZ _root_.id
 let S:Nat→Prop:=fun b=>b=w3.heap.size∨b=w.heap.size∨b=w1.heap.size∨b=w2.heap.size
 have Ja:∀ b,S b→b < w4.heap.size:=fun b hb=>by
  rcases hb with h | h | h | h<;>omega
 have bm:fc w5 S w3.heap.size w.heap.size w1.heap.size w2.heap.size BN:=by
  refine ⟨⟨.map none,.map none,.map none,rfl,rfl,rfl,bT⟩,?_,fun b hb=>?_,fun b hb=>Nat.lt_of_lt_of_le (Ja b hb) z5,?_,?_,?_⟩
  ·simp only [List.nodup_cons,List.mem_cons,List.not_mem_nil,or_false,not_or,not_false_eq_true,List.nodup_nil,and_true];omega
  ·simpa only [List.mem_cons,List.not_mem_nil,or_false] using hb
  ·exact emp (cD.mod iK (ai.trans (ar.trans (aA.trans aD))) _root_.id (fun _ _ x=>x))
  ·exact emp (cD.mod mL (ar.trans (aA.trans aD)) _root_.id (fun _ _ x=>x))
  ·exact emp (cD.mod Ke (aA.trans aD) _root_.id (fun _ _ x=>x))
 have hgS:aQ w5 (.slice ag iP.length cg) 3 (Out S w5) (gp w5 (Out S w5)) iP:=by
  have eD:∀ b,NB w4.heap.size w5 b→Out S w5 b:=fun b hb=>⟨hb.2,fun hh=>by have:=Ja b hh;have:=hb.1;omega⟩
  exact hg.up (.refl (fun _=>False) w5) aC eD (fun _ _ h=>h.up (.refl (fun _=>False) w5) aC eD)
 let T:Nat→Prop:=fun b=>b=w.heap.size∨b=w1.heap.size
 have TS:∀ b,T b→S b:=fun b hb=>by rcases hb with h | h;exact .inr (.inl h);exact .inr (.inr (.inl h))
 (try simp only [go_sem,simprocAttr]);refine eQ iP.length (fun k ρ w'=>k≤iP.length∧Mod T w5 w'∧(∃ E,fc w' S w3.heap.size w.heap.size w1.heap.size w2.heap.size E∧vi (iP.drop k) E=hH)∧ρ=[(1,ptr w3.heap.size),(2,.slice ag iP.length cg),(11,I iP.length),(12,I k)])
  ⟨by omega,.refl _ _,⟨BN,bm,rfl⟩,rfl⟩ (by decide) ?_ ?_ (by decide) ?_
 ·rintro k _ w6 ⟨hk,_,_,rfl⟩;exact ⟨rfl,rfl,hk⟩
 ·rintro k _ w6 ⟨_,aJ,⟨E,xp,qF⟩,rfl⟩ hk;rw [acK hk] at qF;have JM:=hgS.up (aJ.aT TS) aM (aU (aJ.aT TS)) (fun _ _ h=>h.up (aJ.aT TS) aM (aU (aJ.aT TS)));obtain ⟨ad,c2,rr,e,hd,bV,bJ⟩:=io JM hk;obtain ⟨rfl,-,-⟩:=b9 e;have bk:(0:Int)≤k∧(k:Int) < iP.length:=by omega
  (try simp only [go_sem,simprocAttr,bq,br,bk]);refine aK (by rfl) ?_;refine (Qy xp ⟨rr,bJ,hd⟩).mono ?_;rintro _ w7 ⟨JT,aL⟩;(try simp only [go_sem,simprocAttr]);exact ⟨hk,aJ.trans aL,_,JT,qF⟩
 ·rintro _ w6 ⟨_,aJ,⟨E,xp,qF⟩,rfl⟩;rw [List.drop_length,vi] at qF;subst qF;(try simp only [go_sem,simprocAttr,aE,RV.ev,aF]);refine ⟨⟨_,_,_,_,S,rfl,xp,fun b hb=>?_⟩,(eG.trans aD).step aJ (fun b hb hl=>by rcases hb with h | h<;>omega)⟩;rcases hb with h | h | h | h<;>omega
end
section
open Go Go.W
def oU (E:Env):List Cn→bI→Bool
 | [],_=>true
 | k::ks,m=>if ((aI E.cons k.name).isSome||has m k.name||decide ((k.fields.length:Int) > 8))=true then false else oU E ks (bK m k.name 1)
def tP:List ByteArray→bI→Bool
 | [],_=>true
 | s::l,m=>if has m s=true then false else tP l (bK m s 1)
def na (E:Env) (d:Dt):Int:=
 if (!yM d.name||d.params.any (fun s=>!qm s)||d.cons.any (fun k=>!jv k.name))=true then 82
 else if (aI E.aG d.name).isSome=true then 81
 else if oU E d.cons []=false then 81
 else if tP d.params []=false then 81
 else if (decide ((d.params.length:Int) > 6)||(d.cons.length:Int) == 0||decide ((d.cons.length:Int) > 24))=true then 81 else 0
theorem acM {E:Env} {l:List Cn} {i:Nat} (hi:i < l.length) (m:bI):oU E (l.drop i) m=if ((aI E.cons l[i].name).isSome||has m l[i].name||decide ((l[i].fields.length:Int) > 8))=true then false else oU E (l.drop (i+1)) (bK m l[i].name 1):=by rw [List.drop_eq_getElem_cons hi,oU]
theorem acN {l:List ByteArray} {i:Nat} (hi:i < l.length) (m:bI):tP (l.drop i) m=if has m l[i]=true then false else tP (l.drop (i+1)) (bK m l[i] 1):=by rw [List.drop_eq_getElem_cons hi,tP]
def lG:List Dt→Env→Except Int Env
 | [],E=>.ok E
 | d::l,E=>if (na E d != 0)=true then .error (na E d) else lG l (pA E d)
def zj (E:Env) (d:Dt):Bool:=d.cons.all fun k=>k.fields.all (fg (dX E d.params))
def vj (E:Env) (l:List Dt):Bool:=l.all (zj E)
def kK (E:Env) (l:List Dt):Except Int Env:=match lG l E with
 | .error e=>.error e
 | .ok E'=>if vj E' l=true then .ok E' else .error 81
theorem acO {l:List Dt} {i:Nat} (hi:i < l.length) (E:Env):lG (l.drop i) E=if (na E l[i] != 0)=true then .error (na E l[i]) else lG (l.drop (i+1)) (pA E l[i]):=by rw [List.drop_eq_getElem_cons hi,lG]
def sg:List ByteArray→bI→Bool
 | [],_=>true
 | s::l,m=>if (!qm s||has m s)=true then false else sg l (bK m s 1)
def j7:List ByteArray→bI→bI
 | [],m=>m
 | s::l,m=>j7 l (bK m s 1)
theorem acP {l:List ByteArray} {i:Nat} (hi:i < l.length) (m:bI):sg (l.drop i) m=if (!qm l[i]||has m l[i])=true then false else sg (l.drop (i+1)) (bK m l[i] 1):=by rw [List.drop_eq_getElem_cons hi,sg]
theorem acQ {l:List ByteArray} {i:Nat} (hi:i < l.length) (m:bI):j7 (l.drop i) m=j7 (l.drop (i+1)) (bK m l[i] 1):=by rw [List.drop_eq_getElem_cons hi,j7]
def nd (E:Env) (d:Df):Except Int Env:=
 if ((aI E.an d.name).isSome || !jv d.name)=true then .error 82
 else if sg d.params []=false then .error 82
 else if fg { E with params:=j7 d.params []} d.type=false then .error 83
 else .ok { E with an:=bK E.an d.name d,params:=j7 d.params []}
def fk:List Df→Env→Except Int Env
 | [],E=>.ok E
 | d::l,E=>match nd E d with
  | .error e=>.error e
  | .ok E'=>fk l E'
theorem acR {l:List Df} {i:Nat} (hi:i < l.length) (E:Env):fk (l.drop i) E=match nd E l[i] with
   | .error e=>.error e
   | .ok E'=>fk (l.drop (i+1)) E':=by rw [List.drop_eq_getElem_cons hi,fk]
noncomputable def nX (E:Env) (d:Df):Int:=match cj (dX E d.params) d.body ([],[]) with
 | .error e=>e
 | .ok y=>if fQ y.1 d.type=true then 0 else 83
noncomputable def jF (E:Env):List Df→Int
 | []=>0
 | d::l=>if (nX E d != 0)=true then nX E d else jF E l
theorem acS {E:Env} {l:List Df} {i:Nat} (hi:i < l.length):jF E (l.drop i)=if (nX E l[i] != 0)=true then nX E l[i] else jF E (l.drop (i+1)):=by rw [List.drop_eq_getElem_cons hi,jF]
end
section
open Go Go.W
theorem acT:Fn 80:=⟨_,rfl,rfl,rfl⟩
theorem acU:Fn 82:=⟨_,rfl,rfl,rfl⟩
theorem acV (s:ByteArray) {w:World}:ba Tryz.prog 80 [.string s] w fun r w'=>r = .bool (!qm s)∧Mod (fun _=>False) w w':=by
 refine Y1.calls rfl ?_;unfold Ie;(try simp only [go_sem,simprocAttr]);refine aK (by rfl) ?_;refine (OW s).mono ?_;rintro _ w1 ⟨rfl,hm⟩;(try simp only [go_sem,simprocAttr,aE,RV.ev,aF]);exact hm
theorem acW {k:Cn} {B:Nat→Prop} {cs:List Value} {w:World} (h:eF w B cs k):ba Tryz.prog 82 [.agg cs.toArray] w fun r w'=>r = .bool (!jv k.name)∧Mod (fun _=>False) w w':=by
 obtain ⟨vf,rfl,hf,hn⟩:=h;refine Y3.calls rfl ?_;unfold Ih;(try simp only [go_sem,simprocAttr]);refine bB rfl ?_;intro w1 au ak bP;(try simp only [go_sem,simprocAttr,cell_of au]);refine aK (by rfl) ?_;refine (Dp k.name hn).mono ?_;rintro _ _ ⟨rfl,rfl⟩;(try simp only [go_sem,simprocAttr,aE,RV.ev,aF]);exact ak
theorem acX {E:Env} {d:Dt} {a:Addr} {w:World} {S:Nat→Prop} {c md mc mf:Nat} (hc:fc w S c md mc mf E) (hp:qs w (Out S w) a d) :
   ba Tryz.prog 59 [ptr c,.pointer (some a)] w fun r w'=>r=I (na E d)∧Mod (fun _=>False) w w':=by
 obtain ⟨cs,bJ,jX,vc,rfl,gg,gJ⟩:=hp;obtain ⟨ap,cp,rfl⟩:=a8 gg;obtain ⟨ac,cc,rfl⟩:=a8 gJ;have Kf:=du gg;have pt:=du gJ;have cell:∀ {w':World},Mod (fun _=>False) w w'→w'.cell? a=some (.string d.name)∧w'.cell? ⟨a.block,a.off+1,none⟩=some (.slice ap d.params.length cp)∧w'.cell? ⟨a.block,a.off+2,none⟩=some (.slice ac d.cons.length cc):=fun hm=>by
  have h:=bJ.up hm aC (fun _ h=>h);exact ⟨h.c0 (by simp),h.at (k:=1) (by simp),h.at (k:=2) (by simp)⟩
 refine Yy.calls rfl ?_;unfold HS;obtain ⟨k0,k1,k2⟩:=cell (Mod.refl _ w);have dR:na E d=if (!yM d.name||d.params.any (fun s=>!qm s)||d.cons.any (fun k=>!jv k.name))=true then 82
     else if (aI E.aG d.name).isSome=true then 81
     else if oU E d.cons []=false then 81
     else if tP d.params []=false then 81
     else if (decide ((d.params.length:Int) > 6)||(d.cons.length:Int) == 0||decide ((d.cons.length:Int) > 24))=true then 81 else 0:=rfl
 (try simp only [go_sem,simprocAttr,k0]);refine aK (by rfl) ?_;refine (aaL d.name).mono ?_;rintro _ w1 ⟨rfl,ak⟩;(try simp only [go_sem,simprocAttr]);refine AP (fun ρ w'=>Mod (fun _=>False) w w'∧ρ.get 33=some (.bool (!yM d.name||d.params.any (fun s=>!qm s)||d.cons.any (fun k=>!jv k.name)))∧ρ.get 0=some (ptr c)∧ρ.get 1=some (.pointer (some a))) ?_ ?_
 ·cases h1:yM d.name with
  | false=>(try simp only [go_sem,simprocAttr]);exact ⟨ak,rfl⟩
  | true=>
   obtain ⟨q0,q1,q2⟩:=cell ak;(try simp only [go_sem,simprocAttr,q1]);refine aK (by rfl) ?_;refine (Z9 (p:=fun s=>!qm s) (gg.mod ak aC (fun _ _ h=>h)) acT (fun s _ _ w' _=>acV s)).mono ?_;rintro _ w2 ⟨rfl,ai⟩;cases h2:d.params.any (fun s=>!qm s) with
   | true=>(try simp only [go_sem,simprocAttr]);exact ⟨ak.trans ai,rfl⟩
   | false=>
    obtain ⟨q0,q1,q2⟩:=cell (ak.trans ai);(try simp only [go_sem,simprocAttr,q2]);refine aK (by rfl) ?_;refine (Z5 (PP:=fun w'=>eF w' (Out S w)) (p:=fun k=>!jv k.name) (gJ.mod (ak.trans ai) aC (fun _ _ h=>h.mod (ak.trans ai) aC)) (fun _ _ _ _ h hm=>h.mod hm aC) acU ?_).mono ?_
    ·intro w3 r3 u hu ar mn;exact acW mn
    rintro _ w3 ⟨rfl,ar⟩;(try simp only [go_sem,simprocAttr]);exact ⟨(ak.trans ai).trans ar,rfl⟩
 rintro ρ w2 ⟨ai,tI,g0,g1⟩;cases EL:(!yM d.name||d.params.any (fun s=>!qm s)||d.cons.any (fun k=>!jv k.name)) with
 | true=>
  rw [if_pos EL] at dR;rw [EL] at tI;(try simp only [go_sem,simprocAttr,tI,g0,g1,aE,RV.ev,aF]);exact ⟨by rw [dR],ai⟩
 | false=>
  rw [if_neg (by rw [EL];simp)] at dR;rw [EL] at tI;obtain ⟨q0,q1,q2⟩:=cell ai;have iY:=hc.aB ai;obtain ⟨vp2,vb2,vl2,_,_,_,BH⟩:=iY.box;(try simp only [go_sem,simprocAttr,tI,g0,g1,q0,cell_of BH]);have d2:Mod (fun _=>False) w2 w2.drew:=(Mod.refl _ _).drew;have acY:=iY.aB d2;refine Bh (R:=tr w2.drew (Out S w2.drew)) (k:=d.name) (b:=md) (kt:=9) (et:=152) rfl rfl rfl rfl (Tryz.zeroValue152 _) acY.aG (fun hn=>?_) (fun v y hy hr=>?_)
  rotate_left
  ·obtain ⟨ad,rfl,_⟩:=hr;rw [hy,if_pos (by rfl)] at dR;(try simp only [go_sem,simprocAttr,aE,RV.ev,aF]);exact ⟨by rw [dR],ai.trans d2⟩
  ·rw [hn,if_neg (by simp)] at dR;(try simp only [go_sem,simprocAttr]);refine pq (α:=Int) RI ?_;intro w5 BK acZ eB;have aD:Mod (fun _=>False) w w5:=ai.trans (d2.trans acZ);have zb:w.heap.size≤w2.heap.size:=ai.size;obtain ⟨q0,q1,q2⟩:=cell aD;(try simp only [go_sem,simprocAttr,q2]);have vm:∀ {w':World},Mod (· = w2.heap.size) w5 w'→Mod (fun _=>False) w w':=fun hm=>aD.step hm (fun b hb hl=>by omega)
   refine eQ d.cons.length (fun k ρ w'=>k≤d.cons.length∧Mod (· = w2.heap.size) w5 w'∧(∃ m,cD w' w2.heap.size RI m∧oU E (d.cons.drop k) m=oU E d.cons [])∧ρ=[(0,ptr c),(1,.pointer (some a)),(7,.map (some w2.heap.size)),(51,.slice ac d.cons.length cc),(52,I d.cons.length),(53,I k)])
    ⟨by omega,.refl _ _,⟨[],BK,rfl⟩,rfl⟩ pt ?_ ?_ (by decide) ?_
   ·rintro k _ w6 ⟨hk,_,_,rfl⟩;exact ⟨rfl,rfl,hk⟩
   ·rintro k _ w6 ⟨_,aJ,⟨m,qH,lH⟩,rfl⟩ hk;rw [acM hk] at lH;have kB:=vm aJ;obtain ⟨ad,c2,r,e,hr,fC,bQ,_⟩:=dL (gJ.mod kB aC (fun _ _ h=>h.mod kB aC)) hk;obtain ⟨rfl,-,-⟩:=b9 e;obtain ⟨vf,rfl,hf,ja⟩:=hr;obtain ⟨af,cf,rfl⟩:=a8 hf;have bk:(0:Int)≤k∧(k:Int) < d.cons.length:=by omega
    have jd:=hc.aB kB;(try simp only [go_sem,simprocAttr,bq,br,bk,bQ]);refine di (n:=2) (vs:=[.string d.cons[k].name,.slice af d.cons[k].fields.length cf]) rfl rfl (aW rfl (aW rfl dy)) ?_;intro w7 dp aL iL;have kF:=jd.aB aL;obtain ⟨vp7,vb7,vl7,_,_,_,ac0⟩:=kF.box;have kn:w7.cell? ⟨w6.heap.size,0,none⟩=some (.string d.cons[k].name):=by rw [cell_of dp];rfl
    have kf:∀ {w':World},Mod (fun _=>False) w7 w'→w'.cell? ⟨w6.heap.size,0,none⟩=some (.string d.cons[k].name)∧w'.cell? ⟨w6.heap.size,1,none⟩=some (.slice af d.cons[k].fields.length cf):=fun hm=>by
     constructor<;>(rw [cell_of (hm.at dp _root_.id)];rfl)
    have d7:Mod (fun _=>False) w7 w7.drew:=(Mod.refl _ _).drew;have ac1:=kF.aB d7;have qG:c < w7.heap.size:=kF.lt c (kF.bt c (by simp));(try simp only [go_sem,simprocAttr,kn,cell_of ac0]);refine D3 (Rr:=qt w7.drew (Out S w7.drew)) (k:=d.cons[k].name) (b0:=mc) (kt:=9) (et:=158) (zc:=[.pointer none,I 0]) rfl rfl rfl rfl (fun w=>Tryz.zeroValue158 w) ⟨rfl,aW rfl (aW rfl dy)⟩ rfl ac1.cons
     (fun v y hr=>by obtain ⟨ad,rfl,_⟩:=hr;exact ⟨[.pointer (some ad),I y.2],rfl,rfl,aW rfl (aW rfl dy)⟩) (fun p hp=>by
      have e:w7.drew.heap.size=w7.heap.size:=rfl;simp only [List.mem_cons,List.not_mem_nil,or_false] at hp;rcases hp with rfl | rfl
      ·show w6.heap.size < _;omega
      ·show c < _;omega) (by decide) ?_
    intro w8 kH cz u hold g10 g11 ff qy Be bR tq;have bh:Mod (fun _=>False) w7 w8:=qy.ez;have g0:kH.get 0=some (ptr c):=(hold 0 (by decide)).trans rfl;have g1:kH.get 1=some (.pointer (some a)):=(hold 1 (by decide)).trans rfl;have g7:kH.get 7=some (.map (some w2.heap.size)):=(hold 7 (by decide)).trans rfl;have g9:kH.get 9=some (ptr w6.heap.size):=(hold 9 (by decide)).trans rfl;have QS:kH.get 51=some (.slice (some ad) d.cons.length cc):=(hold 51 (by decide)).trans rfl;have QT:kH.get 52=some (I d.cons.length):=(hold 52 (by decide)).trans rfl;have QU:kH.get 53=some (I k):=(hold 53 (by decide)).trans rfl;obtain ⟨BO,kf8⟩:=kf bh;have qP:=aL.trans bh;have QV:=qH.mod qP _root_.id (fun _ _ x=>x);have zk:=kB.trans qP;have stop:((aI E.cons d.cons[k].name).isSome||has m d.cons[k].name||decide ((d.cons[k].fields.length:Int) > 8))=true→na E d=81:=fun h=>by
     rw [if_pos h] at lH;rw [dR,if_pos lH.symm]
    have EM:((aI E.cons d.cons[k].name).isSome||has m d.cons[k].name||decide ((d.cons[k].fields.length:Int) > 8))=false→oU E (d.cons.drop (k+1)) (bK m d.cons[k].name 1)=oU E d.cons []:=fun h=>by
     rw [if_neg (by rw [h];simp)] at lH;exact lH
    rcases tq with ⟨hn8,rfl⟩ | ⟨x,hx8,_,rfl⟩
    ·rw [hn8] at stop EM;(try simp only [go_sem,simprocAttr,g0,g1,g7,g9,g11,QS,QT,QU,BO]);refine xd ?_;refine uL (k:=d.cons[k].name) (b:=w2.heap.size) (kt:=9) (et:=3) rfl rfl rfl rfl (zI _) QV ?_;have il:decide ((aI m d.cons[k].name).getD 0 > 0)=has m d.cons[k].name:=rfl;cases hh:has m d.cons[k].name with
     | true=>
      rw [hh] at il stop;(try simp only [go_sem,simprocAttr,il,aE,RV.ev,aF]);exact ⟨by rw [stop rfl],zk⟩
     | false=>
      rw [hh] at il stop EM;(try simp only [go_sem,simprocAttr,il,kf8]);cases h8:decide ((d.cons[k].fields.length:Int) > 8) with
      | true=>
       rw [h8] at stop;(try simp only [go_sem,simprocAttr,aE,RV.ev,aF]);exact ⟨by rw [stop rfl],zk⟩
      | false=>
       rw [h8] at EM;(try simp only [go_sem,simprocAttr,BO]);refine me (R:=RI) (a:=(1:Int)) (k:=d.cons[k].name) (b:=w2.heap.size) (kt:=9) (et:=3) rfl rfl rfl rfl rfl QV rfl ?_;intro w9 h9 aV gZ;(try simp only [go_sem,simprocAttr]);exact ⟨hk,(aJ.trans (aj qP)).trans aV,_,h9,EM rfl⟩
    ·rw [hx8] at stop;(try simp only [go_sem,simprocAttr,g0,g1,g7,g9,g11,QS,QT,QU,aE,RV.ev,aF]);exact ⟨by rw [stop (by simp)],zk⟩
   ·rintro _ w6 ⟨_,aJ,⟨m,qH,lH⟩,rfl⟩;rw [List.drop_length,oU] at lH;rw [if_neg (by rw [← lH];simp)] at dR;(try simp only [go_sem,simprocAttr]);refine WI (kt:=9) (et:=3) rfl rfl rfl (Exists.choose_spec qH).1 ?_;intro w7 h7 aL iL;have jy:Mod (· = w2.heap.size) w5 w7:=aJ.trans aL;obtain ⟨q0,q1,q2⟩:=cell (vm jy);(try simp only [go_sem,simprocAttr,q1]);refine eQ d.params.length (fun k ρ w'=>k≤d.params.length∧Mod (· = w2.heap.size) w5 w'∧(∃ m,cD w' w2.heap.size RI m∧tP (d.params.drop k) m=tP d.params [])∧ρ=[(1,.pointer (some a)),(7,.map (some w2.heap.size)),(89,.slice ap d.params.length cp),(90,I d.params.length),(91,I k)])
     ⟨by omega,jy,⟨[],⟨[],h7,.nil⟩,rfl⟩,rfl⟩ Kf ?_ ?_ (by decide) ?_
    ·rintro k _ w8 ⟨hk,_,_,rfl⟩;exact ⟨rfl,rfl,hk⟩
    ·rintro k _ w8 ⟨_,bh,⟨m,qH,lH⟩,rfl⟩ hk;rw [acN hk] at lH;have zk:=vm bh;obtain ⟨ad,c2,e,ja,jP⟩:=qi (gg.mod zk aC (fun _ _ h=>h)) hk;obtain ⟨rfl,-,-⟩:=b9 e;have bk:(0:Int)≤k∧(k:Int) < d.params.length:=by omega
     (try simp only [go_sem,simprocAttr,bq,br,bk,jP]);refine uL (k:=d.params[k]) (b:=w2.heap.size) (kt:=9) (et:=3) rfl rfl rfl rfl (zI _) qH ?_;have il:decide ((aI m d.params[k]).getD 0 > 0)=has m d.params[k]:=rfl;cases hh:has m d.params[k] with
     | true=>
      rw [hh] at il;rw [if_pos hh] at lH;(try simp only [go_sem,simprocAttr,il,aE,RV.ev,aF]);exact ⟨by rw [dR,if_pos lH.symm],zk⟩
     | false=>
      rw [hh] at il;rw [if_neg (by rw [hh];simp)] at lH;(try simp only [go_sem,simprocAttr,il]);refine me (R:=RI) (a:=(1:Int)) (k:=d.params[k]) (b:=w2.heap.size) (kt:=9) (et:=3) rfl rfl rfl rfl rfl qH rfl ?_;intro w9 h9 aV gZ;(try simp only [go_sem,simprocAttr]);exact ⟨hk,bh.trans aV,_,h9,lH⟩
    ·rintro _ w8 ⟨_,bh,⟨m,qH,lH⟩,rfl⟩;rw [List.drop_length,tP] at lH;rw [if_neg (by rw [← lH];simp)] at dR;obtain ⟨q0,q1,q2⟩:=cell (vm bh);(try simp only [go_sem,simprocAttr,q1]);cases t1:decide ((d.params.length:Int) > 6) with
     | true=>
      rw [t1] at dR;(try simp only [go_sem,simprocAttr,q2,aE,RV.ev,aF]);exact ⟨by rw [dR];rfl,vm bh⟩
     | false=>
      rw [t1] at dR;(try simp only [go_sem,simprocAttr,q2]);cases t2:(d.cons.length:Int) == 0 with
      | true=>
       rw [t2] at dR;(try simp only [go_sem,simprocAttr,q2,aE,RV.ev,aF]);exact ⟨by rw [dR];rfl,vm bh⟩
      | false=>
       rw [t2] at dR;(try simp only [go_sem,simprocAttr,q2]);cases t3:decide ((d.cons.length:Int) > 24) with
       | true=>
        rw [t3] at dR;(try simp only [go_sem,simprocAttr,aE,RV.ev,aF]);exact ⟨by rw [dR];rfl,vm bh⟩
       | false=>
        rw [t3] at dR;(try simp only [go_sem,simprocAttr,aE,RV.ev,aF]);exact ⟨by rw [dR];rfl,vm bh⟩
end
section
open Go Go.W
theorem Kg {α:Type} {l:List α} {p:α→Bool} {i:Nat} (hi:i < l.length):(l.drop i).all p=(p l[i]&&(l.drop (i+1)).all p):=by rw [List.drop_eq_getElem_cons hi,List.all_cons]
theorem fc.fr {w:World} {S:Nat→Prop} {c md mc mf:Nat} {E:Env} (h:fc w S c md mc mf E) (E':Env) (h1:E'.aG=E.aG) (h2:E'.cons=E.cons) (h3:E'.an=E.an):fc w S c md mc mf E':=
 ⟨h.box,h.nodup,h.bt,h.lt,by rw [h1];exact h.aG,by rw [h2];exact h.cons,by rw [h3];exact h.an⟩
theorem EN {S S':Nat→Prop} {w1 w':World} (dj:w1.heap.size≤w'.heap.size) (h:∀ b,S' b→S b∨w1.heap.size≤b):∀ b,Out S w1 b→Out S' w' b:=fun b hb=>⟨Nat.lt_of_lt_of_le hb.1 dj,fun hh=>by
 rcases h b hh with h | h
 ·exact hb.2 h
 ·have:=hb.1;omega⟩
theorem ac2 {E:Env} {l:List Dt} {v:Value} {w:World} {S:Nat→Prop} {c md mc mf:Nat} (hc:fc w S c md mc mf E) (hl:aQ w v 3 (Out S w) (gp w (Out S w)) l) :
   ba Tryz.prog 42 [ptr c,v] w fun r w'=>(match kK E l with
    | .error e=>r=I e∧e≠0
    | .ok E'=>r=I 0∧∃ S',fc w' S' c md mc mf E'∧(∀ b,S b→S' b)∧∀ b,S' b→S b∨w.heap.size≤b)∧Mod (fun b=>b=c∨b=md∨b=mc) w w':=by
 obtain ⟨al,cl,rfl⟩:=a8 hl;have kY:=du hl;have TS:∀ b,(b=md∨b=mc)→S b:=fun b hb=>by rcases hb with rfl | rfl<;>exact hc.bt _ (by simp)
 have T3:∀ b,(b=md∨b=mc)→(b=c∨b=md∨b=mc):=fun b hb=>.inr hb
 refine X9.calls rfl ?_;unfold HC;(try simp only [go_sem,Nat.reduceAdd,Nat.reduceEqDiff,Nat.reduceLT,Nat.reduceLeDiff,Nat.reduceMul,reduceCtorEq,↓reduceIte]);refine eQ l.length (fun k ρ w'=>k≤l.length∧Mod (fun b=>b=md∨b=mc) w w'∧(∃ Ek,fc w' S c md mc mf Ek∧lG (l.drop k) Ek=lG l E)∧ρ=[(0,ptr c),(1,.slice al l.length cl),(15,I l.length),(16,I k)])
  ⟨by omega,.refl _ _,⟨E,hc,rfl⟩,rfl⟩ kY ?_ ?_ (by decide) ?_
 ·rintro k _ w1 ⟨hk,_,_,rfl⟩;exact ⟨rfl,rfl,hk⟩
 ·rintro k _ w1 ⟨_,ak,⟨Ek,bm,dR⟩,rfl⟩ hk;rw [acO hk] at dR;have nL:=hl.up (ak.aT TS) aM (aU (ak.aT TS)) (fun _ _ h=>h.up (ak.aT TS) aM (aU (ak.aT TS)));obtain ⟨ad,c2,rr,e,hd,bV,bJ⟩:=io nL hk;obtain ⟨rfl,-,-⟩:=b9 e;have bk:(0:Int)≤k∧(k:Int) < l.length:=by omega
  (try simp only [go_sem,Nat.reduceAdd,Nat.reduceEqDiff,Nat.reduceLT,Nat.reduceLeDiff,Nat.reduceMul,reduceCtorEq,↓reduceIte,bq,br,bk]);refine aK (by rfl) ?_;refine (acX bm ⟨rr,bJ,hd⟩).mono ?_;rintro _ w2 ⟨rfl,ai⟩;cases bw:na Ek l[k] != 0 with
  | true=>
   rw [if_pos bw] at dR;have hX:kK E l = .error (na Ek l[k]):=by unfold kK;rw [← dR]
   rw [hX];(try simp only [go_sem,Nat.reduceAdd,Nat.reduceEqDiff,Nat.reduceLT,Nat.reduceLeDiff,Nat.reduceMul,reduceCtorEq,↓reduceIte,bw,aE,RV.ev,aF]);exact ⟨by simpa using bw,(ak.trans (aj ai)).aT T3⟩
  | false=>
   rw [if_neg (by rw [bw];simp)] at dR;(try simp only [go_sem,Nat.reduceAdd,Nat.reduceEqDiff,Nat.reduceLT,Nat.reduceLeDiff,Nat.reduceMul,reduceCtorEq,↓reduceIte,bw]);refine aK (by rfl) ?_;refine (Qy (bm.aB ai) ⟨rr,bJ.up (aj ai) aM (aU (aj ai)),hd.up (aj ai) aM (aU (aj ai))⟩).mono ?_;rintro _ w3 ⟨Kh,ar⟩;(try simp only [go_sem,Nat.reduceAdd,Nat.reduceEqDiff,Nat.reduceLT,Nat.reduceLeDiff,Nat.reduceMul,reduceCtorEq,↓reduceIte]);exact ⟨hk,(ak.trans (aj ai)).trans ar,_,Kh,dR⟩
 rintro _ w1 ⟨_,ak,⟨E1,Ki,dR⟩,rfl⟩;rw [List.drop_length,lG] at dR;have nL:=hl.up (ak.aT TS) aM (aU (ak.aT TS)) (fun _ _ h=>h.up (ak.aT TS) aM (aU (ak.aT TS)));have z1:=ak.size;have QW:=ak.aT T3;have Sc:∀ b,b=c→S b:=fun b hb=>by rw [hb];exact hc.bt _ (by simp)
 have later:∀ {w':World} {S':Nat→Prop},Mod (· = c) w1 w'→(∀ b,S' b→S b∨w1.heap.size≤b)→aQ w' (.slice al l.length cl) 3 (Out S' w') (gp w' (Out S' w')) l:=fun hm hs=>
  nL.up (hm.aT Sc) aM (EN hm.size hs) (fun _ _ h=>h.up (hm.aT Sc) aM (EN hm.size hs))
 have hX:kK E l=if vj E1 l=true then .ok E1 else .error 81:=by unfold kK;rw [← dR]
 rw [hX]
 have bad:vj E1 l=false→(match (if vj E1 l=true then .ok E1 else .error 81:Except Int Env) with
     | .error e=>I 81=I e∧e≠0
     | .ok E'=>I 81=I 0∧∃ S',fc w1 S' c md mc mf E'∧(∀ b,S b→S' b)∧∀ b,S' b→S b∨w.heap.size≤b):=fun h=>by
  rw [if_neg (by rw [h];simp)];exact ⟨rfl,by decide⟩
 (try simp only [go_sem,Nat.reduceAdd,Nat.reduceEqDiff,Nat.reduceLT,Nat.reduceLeDiff,Nat.reduceMul,reduceCtorEq,↓reduceIte]);refine eQ l.length (fun k ρ w'=>k≤l.length∧Mod (· = c) w1 w'∧(∃ S',fc w' S' c md mc mf E1∧(∀ b,S b→S' b)∧(∀ b,S' b→S b∨w1.heap.size≤b)∧(l.drop k).all (zj E1)=vj E1 l)∧ρ=[(0,ptr c),(32,.slice al l.length cl),(33,I l.length),(34,I k)])
  ⟨by omega,.refl _ _,⟨S,Ki,fun _ h=>h,fun _ h=>.inl h,rfl⟩,rfl⟩ kY ?_ ?_ (by decide) ?_
 ·rintro k _ w2 ⟨hk,_,_,rfl⟩;exact ⟨rfl,rfl,hk⟩
 ·rintro k _ w2 ⟨_,ai,⟨S2,nW,Kj,uH,dh⟩,rfl⟩ hk;rw [Kg hk] at dh;have fC:=later ai uH;obtain ⟨ad,c2,rr,e,hd,bV,bQ,_⟩:=dL fC hk;obtain ⟨rfl,-,-⟩:=b9 e;have gu:=hd.one;obtain ⟨vp,vc,rfl,gg,gJ⟩:=hd;have bk:(0:Int)≤k∧(k:Int) < l.length:=by omega
  (try simp only [go_sem,Nat.reduceAdd,Nat.reduceEqDiff,Nat.reduceLT,Nat.reduceLeDiff,Nat.reduceMul,reduceCtorEq,↓reduceIte,bq,br,bk,bQ]);refine di (n:=3) (vs:=[.string l[k].name,vp,vc]) rfl rfl gu ?_;intro w3 dp ar eR;have Kh:=nW.aB ar;have kp:w3.cell? ⟨w2.heap.size,1,none⟩=some vp:=by rw [cell_of dp];rfl
  (try simp only [go_sem,Nat.reduceAdd,Nat.reduceEqDiff,Nat.reduceLT,Nat.reduceLeDiff,Nat.reduceMul,reduceCtorEq,↓reduceIte,kp]);refine aK (by rfl) ?_;refine (J8 Kh (gg.up (aj ar) aM (aU (aj ar)) (fun _ _ h=>h))).mono ?_;rintro _ w4 ⟨⟨M,rfl,rfl,rfl,rfl,ma,lp,lb,ll⟩,aA⟩;have lI:Mod (· = M.c) w1 w4:=(ai.trans (aj ar)).trans aA;have z12:=ai.size;have J1:=ar.size;have xv:∀ b,Kn S2 M b→S b∨w1.heap.size≤b:=fun b hb=>by
   rcases hb with h | h | h | h
   ·exact uH b h
   ·right;omega
   ·right;omega
   ·right;omega
  have hkc:M.c < w2.heap.size:=nW.lt _ (nW.bt _ (by simp));have ac4:=aA.at dp (by omega);have QX:∀ b,b=M.c→S2 b:=fun b hb=>by rw [hb];exact nW.bt _ (by simp)
  have gW:Mod (· = M.c) w2 w4:=(aj ar).trans aA
  have QY:∀ b,Out S2 w2 b→Out (Kn S2 M) w4 b:=EN gW.size (fun b hb=>by
   rcases hb with h | h | h | h
   ·exact .inl h
   ·right;omega
   ·right;omega
   ·right;omega)
  have Kk:aQ w4 vc 2 (Out (Kn S2 M) w4) (eF w4 (Out (Kn S2 M) w4)) l[k].cons:=gJ.up (gW.aT QX) aM QY (fun _ _ h=>h.up (gW.aT QX) aM QY);obtain ⟨ac,cc,rfl⟩:=a8 Kk;have pt:=du Kk;have kc:w4.cell? ⟨w2.heap.size,2,none⟩=some (.slice ac l[k].cons.length cc):=by rw [cell_of ac4];rfl
  have aiE:zj E1 l[k]=l[k].cons.all fun x=>x.fields.all (fg (dX E1 l[k].params)):=rfl
  (try simp only [go_sem,Nat.reduceAdd,Nat.reduceEqDiff,Nat.reduceLT,Nat.reduceLeDiff,Nat.reduceMul,reduceCtorEq,↓reduceIte,kc]);refine eQ l[k].cons.length (fun i ρ w'=>i≤l[k].cons.length∧Mod (fun _=>False) w4 w'∧((l[k].cons.drop i).all fun x=>x.fields.all (fg (dX E1 l[k].params)))=zj E1 l[k]∧ρ=[(0,ptr M.c),(32,.slice (some ad) l.length cl),(33,I l.length),(34,I k),(43,.slice ac l[k].cons.length cc),(44,I l[k].cons.length),(45,I i)])
   ⟨by omega,.refl _ _,rfl,rfl⟩ pt ?_ ?_ (by decide) ?_
  ·rintro i _ w5 ⟨hi,_,_,rfl⟩;exact ⟨rfl,rfl,hi⟩
  ·rintro i _ w5 ⟨_,aD,sh,rfl⟩ hi;rw [Kg hi] at sh;have Jl:=Kk.up (aj aD) aM (aU (aj aD)) (fun _ _ h=>h.up (aj aD) aM (aU (aj aD)));obtain ⟨adc,c5,rc,ec,⟨vf,rfl,hf,_⟩,fC,ac5,_⟩:=dL Jl hi;obtain ⟨rfl,-,-⟩:=b9 ec;obtain ⟨af,cf,rfl⟩:=a8 hf;have j6:=du hf;have bi:(0:Int)≤i∧(i:Int) < l[k].cons.length:=by omega
   (try simp only [go_sem,Nat.reduceAdd,Nat.reduceEqDiff,Nat.reduceLT,Nat.reduceLeDiff,Nat.reduceMul,reduceCtorEq,↓reduceIte,bq,br,bi,ac5]);refine di (n:=2) (vs:=[.string l[k].cons[i].name,.slice af l[k].cons[i].fields.length cf]) rfl rfl (aW rfl (aW rfl dy)) ?_;intro w6 fy aJ fY;have kf:w6.cell? ⟨w5.heap.size,1,none⟩=some (.slice af l[k].cons[i].fields.length cf):=by rw [cell_of fy];rfl
   have Jk:=wU hf (aj aJ);(try simp only [go_sem,Nat.reduceAdd,Nat.reduceEqDiff,Nat.reduceLT,Nat.reduceLeDiff,Nat.reduceMul,reduceCtorEq,↓reduceIte,kf]);refine eQ l[k].cons[i].fields.length (fun j ρ w'=>j≤l[k].cons[i].fields.length∧Mod (fun _=>False) w6 w'∧((l[k].cons[i].fields.drop j).all (fg (dX E1 l[k].params)))=l[k].cons[i].fields.all (fg (dX E1 l[k].params))∧ρ=[(0,ptr M.c),(32,.slice (some ad) l.length cl),(33,I l.length),(34,I k),(43,.slice (some adc) l[k].cons.length cc),(44,I l[k].cons.length),(45,I i),(50,.slice af l[k].cons[i].fields.length cf),(51,I l[k].cons[i].fields.length),(52,I j)])
    ⟨by omega,.refl _ _,rfl,rfl⟩ j6 ?_ ?_ (by decide) ?_
   ·rintro j _ w7 ⟨hj,_,_,rfl⟩;exact ⟨rfl,rfl,hj⟩
   ·rintro j _ w7 ⟨_,aL,si,rfl⟩ hj;rw [Kg hj] at si;obtain ⟨DG,c7,rf,ef,tB,bV,ac6,_⟩:=dL (wU Jk (aj aL)) hj;obtain ⟨rfl,-,-⟩:=b9 ef;have bj:(0:Int)≤j∧(j:Int) < l[k].cons[i].fields.length:=by omega
    (try simp only [go_sem,Nat.reduceAdd,Nat.reduceEqDiff,Nat.reduceLT,Nat.reduceLeDiff,Nat.reduceMul,reduceCtorEq,↓reduceIte,bq,br,bj,ac6]);refine di (n:=3) (vs:=rf) rfl bV tB.one ?_;intro w8 pF bh mP;have DT:Mod (fun _=>False) w4 w8:=aD.trans (aJ.trans (aL.trans bh));(try simp only [go_sem,Nat.reduceAdd,Nat.reduceEqDiff,Nat.reduceLT,Nat.reduceLeDiff,Nat.reduceMul,reduceCtorEq,↓reduceIte,az (n:=3) pF bV]);refine aK (by rfl) ?_;refine (Bk l[k].cons[i].fields[j] (ma.aB DT) (tB.aB (aj bh))).mono ?_;rintro _ w9 ⟨rfl,aV⟩;have ac7:=DT.trans aV;cases gw:fg (dX E1 l[k].params) l[k].cons[i].fields[j] with
    | false=>
     rw [gw,Bool.false_and] at si;rw [← si,Bool.false_and] at sh;rw [← sh,Bool.false_and] at dh;rw [if_neg (by rw [← dh];simp)];(try simp only [go_sem,Nat.reduceAdd,Nat.reduceEqDiff,Nat.reduceLT,Nat.reduceLeDiff,Nat.reduceMul,reduceCtorEq,↓reduceIte,aE,RV.ev,aF]);exact ⟨by decide,QW.trans ((lI.trans (aj ac7)).aT (fun b h=>.inl h))⟩
    | true=>
     rw [gw,Bool.true_and] at si;(try simp only [go_sem,Nat.reduceAdd,Nat.reduceEqDiff,Nat.reduceLT,Nat.reduceLeDiff,Nat.reduceMul,reduceCtorEq,↓reduceIte]);exact ⟨hj,(aL.trans bh).trans aV,si⟩
   ·rintro _ w7 ⟨_,aL,si,rfl⟩;rw [List.drop_length] at si;have si:true=_:=si;rw [← si,Bool.true_and] at sh;(try simp only [go_sem,Nat.reduceAdd,Nat.reduceEqDiff,Nat.reduceLT,Nat.reduceLeDiff,Nat.reduceMul,reduceCtorEq,↓reduceIte]);exact ⟨hi,aD.trans (aJ.trans aL),sh⟩
  ·rintro _ w5 ⟨_,aD,sh,rfl⟩;rw [List.drop_length] at sh;have sh:true=_:=sh;rw [← sh,Bool.true_and] at dh;(try simp only [go_sem,Nat.reduceAdd,Nat.reduceEqDiff,Nat.reduceLT,Nat.reduceLeDiff,Nat.reduceMul,reduceCtorEq,↓reduceIte]);exact ⟨hk,lI.trans (aj aD),Kn S2 M,((ma.aB aD).forget).fr E1 rfl rfl rfl,fun b hb=>.inl (Kj b hb),xv,dh⟩
 ·rintro _ w2 ⟨_,ai,⟨S2,nW,Kj,uH,dh⟩,rfl⟩;have dh:vj E1 l=true:=by rw [← dh,List.drop_length];rfl
  rw [if_pos dh];(try simp only [go_sem,Nat.reduceAdd,Nat.reduceEqDiff,Nat.reduceLT,Nat.reduceLeDiff,Nat.reduceMul,reduceCtorEq,↓reduceIte,aE,RV.ev,aF])
  exact ⟨⟨S2,nW,Kj,fun b hb=>by
   rcases uH b hb with h | h
   ·exact .inl h
   ·right;omega⟩,QW.trans (ai.aT (fun b h=>.inl h))⟩
end
section
open Go Go.W
section
variable {α:Type}
theorem QZ (k:ByteArray) (v:α):bK [] k v=[(k,v)]:=by simp [bK]
theorem Q0 (p:ByteArray×α) (l:List (ByteArray×α)) (k:ByteArray) (v:α):bK (p::l) k v=if p.1=k then (k,v)::l else p::bK l k v:=by
 unfold bK;rw [List.findIdx?_cons];by_cases h:p.1=k
 ·simp [h]
 ·simp only [h,decide_false,if_false];cases l.findIdx? (fun p=>decide (p.1=k))<;>simp
theorem Kl (k:ByteArray):aI ([]:List (ByteArray×α)) k=none:=rfl
theorem nY (p:ByteArray×α) (l:List (ByteArray×α)) (k:ByteArray):aI (p::l) k=if p.1=k then some p.2 else aI l k:=by
 unfold aI;by_cases h:p.1=k<;>simp [h]
theorem jh (l:List (ByteArray×α)) (k:ByteArray) (v:α) (k':ByteArray):aI (bK l k v) k'=if k=k' then some v else aI l k':=by
 induction l with
 | nil=>rw [QZ,nY]
 | cons p l ih=>
  rw [Q0];by_cases h:p.1=k
  ·rw [if_pos h,nY,nY,h];by_cases h2:k=k'<;>simp [h2]
  ·rw [if_neg h,nY,nY,ih];by_cases h2:k=k'
   ·subst h2;simp [h]
   ·simp [h2]
theorem ac8 (l:List (ByteArray×α)) (k:ByteArray) (v:α):aI (bK l k v) k=some v:=by rw [jh,if_pos rfl]
end
theorem xw {E E':Env} (h:E.aG=E'.aG) (t:Ty):t.wf E=t.wf E':=by
 induction t using Ty.ind with
 | h t ih=>
 rw [Ty.nS,Ty.nS,tx,tx];have e1:t.args.all (Ty.wf E)=t.args.all (Ty.wf E'):=by
  rw [Bool.eq_iff_iff,List.all_eq_true,List.all_eq_true];constructor
  ·intro h x hx;rw [← ih x hx];exact h x hx
  ·intro h x hx;rw [ih x hx];exact h x hx
 rw [e1];have e2:dm E t.name t.args.length=dm E' t.name t.args.length:=by unfold dm;rw [h]
 rw [e2]
structure pG (E:Env) (l:List Dt):Prop where
 name:∀ n d,aI E.aG n=some d→d.name=n
 bg:∀ n x,aI E.cons n=some x→aI E.aG x.1.name=some x.1
 mem:∀ n d,aI E.aG n=some d→d∈l
 an:E.an=[]
theorem Km {d:Dt}:∀ (ks:List Cn) (i:Nat) (m:List (ByteArray×(Dt×Nat))) (n:ByteArray) (x:Dt×Nat),aI (mY d ks i m) n=some x→aI m n=some x∨x.1=d
 | [],_,m,n,x,h=>.inl h
 | k::ks,i,m,n,x,h=>by
  rw [mY] at h;rcases Km ks (i+1) _ n x h with h | h
  ·rw [jh] at h
   split at h
   ·cases h;exact .inr rfl
   ·exact .inl h
  ·exact .inr h
theorem pG.enter {E:Env} {l:List Dt} (h:pG E l) {d:Dt} (hn:aI E.aG d.name=none) {l':List Dt} (hl:∀ x∈l,x∈l') (hd:d∈l'):pG (pA E d) l':=by
 have get:∀ n,aI (pA E d).aG n=if d.name=n then some d else aI E.aG n:=fun n=>jh _ _ _ _
 refine ⟨fun n e he=>?_,fun n x hx=>?_,fun n e he=>?_,h.an⟩
 ·rw [get] at he
  split at he
  ·cases he;assumption
  ·exact h.name n e he
 ·rw [get];rcases Km _ _ _ _ _ hx with h1 | h1
  ·have h2:=h.bg n x h1;rw [if_neg (fun e=>by rw [e] at hn;rw [hn] at h2;cases h2)];exact h2
  ·rw [h1,if_pos rfl]
 ·rw [get] at he
  split at he
  ·cases he;exact hd
  ·exact hl _ (h.mem n e he)
theorem ac9 {E:Env} {d:Dt} (hn:aI E.aG d.name=none) {n:ByteArray} {x:Dt} (h:aI E.aG n=some x):aI (pA E d).aG n=some x:=by
 show aI (bK E.aG d.name d) n=some x;rw [jh,if_neg (fun e=>by rw [e] at hn;rw [hn] at h;cases h)];exact h
theorem Q1 {E:Env} {d:Dt} (h:na E d=0):aI E.aG d.name=none:=by
 unfold na at h
 split at h
 ·cases h
 ·split at h
  ·cases h
  ·rename_i h2;cases hx:aI E.aG d.name with
   | none=>rfl
   | some y=>rw [hx] at h2;simp at h2
theorem Ko:∀ (l:List Dt) (E E':Env) (l0:List Dt),pG E l0→lG l E = .ok E'→pG E' (l0++l)∧∀ n d,aI E.aG n=some d→aI E'.aG n=some d
 | [],E,E',l0,h,hd=>by rw [lG] at hd;cases hd;exact ⟨by rw [List.append_nil];exact h,fun _ _ h=>h⟩
 | d::l,E,E',l0,h,hd=>by
  rw [lG] at hd
  split at hd
  ·cases hd
  ·rename_i h0;have h0:na E d=0:=by simpa using h0
   have hn:=Q1 h0;have h1:pG (pA E d) (l0++[d]):=h.enter hn (fun x hx=>by simp [hx]) (by simp);obtain ⟨h2,h3⟩:=Ko l _ E' (l0++[d]) h1 hd;refine ⟨by rw [List.append_assoc] at h2;exact h2,fun n x hx=>h3 n x (ac9 hn hx)⟩
theorem Kq:pG hH iP:=by
 have e0:pG BN []:=⟨fun n d h=>(by cases h),fun n d h=>(by cases h),fun n d h=>(by cases h),rfl⟩;have step:∀ (l:List Dt) (E:Env) (l0:List Dt),pG E l0→(∀ d∈l,aI E.aG d.name=none)→(l.map Dt.name).Nodup→pG (vi l E) (l0++l):=by
  intro l
  induction l with
  | nil=>intro E l0 h _ _;rw [List.append_nil];exact h
  | cons d l ih=>
   intro E l0 h hn lf;rw [List.map_cons,List.nodup_cons] at lf;have h1:pG (pA E d) (l0++[d]):=h.enter (hn d (by simp)) (fun x hx=>by simp [hx]) (by simp)
   have:=ih (pA E d) (l0++[d]) h1 (fun x hx=>by
    show aI (bK E.aG d.name d) x.name=none;rw [jh,if_neg (fun e=>lf.1 (by rw [e];exact List.mem_map_of_mem hx))]
    exact hn x (by simp [hx])) lf.2
   rw [List.append_assoc] at this;exact this
 have:=step iP BN [] e0 (fun d _=>rfl) (by decide);exact this
theorem Q2:aI hH.aG dList.name=some dList:=by rfl
theorem ac':aI hH.aG jg.name=some jg:=by rfl
theorem EO (E:Env) (s:ByteArray):Ty.wf E (.mk 2 s [])=true:=by rw [Ty.nS,tx];rfl
theorem ade {E:Env} (h:aI E.aG dList.name=some dList):∀ d∈iP,∀ k∈d.cons,∀ f∈k.fields,f.wf E=true:=by
 have hL:Ty.wf E jE=true:=by
  rw [Ty.nS,tx];have:dm E dList.name 1=false:=by unfold dm;rw [h];rfl
  have e:dm E (Ty.name jE) (Ty.args jE).length=false:=this;rw [e];simp [Ty.args,Ty.kind,EO]
 intro d hd k hk f hf;simp only [iP,List.mem_cons,List.not_mem_nil,or_false] at hd;rcases hd with rfl | rfl | rfl | rfl | rfl<;>simp only [List.mem_cons,List.not_mem_nil,or_false] at hk
 ·rcases hk with rfl | rfl<;>cases hf
 ·subst hk;cases hf
 ·rcases hk with rfl | rfl
  ·cases hf
  ·simp only [List.mem_cons,List.not_mem_nil,or_false] at hf;rcases hf with rfl | rfl
   ·exact EO _ _
   ·exact hL
 ·subst hk;simp only [List.mem_cons,List.not_mem_nil,or_false] at hf;rcases hf with rfl | rfl<;>exact EO _ _
 ·subst hk;simp only [List.mem_cons,List.not_mem_nil,or_false] at hf;rcases hf with rfl | rfl | rfl<;>exact EO _ _
theorem Q3 {l:List Dt} {E:Env} (h:kK hH l = .ok E):(∀ n x,aI E.cons n=some x→(∃ d,aI E.aG x.1.name=some d∧d.params.length=x.1.params.length)∧∀ f∈de x.1 x.2,f.wf E=true)∧dm E iA 0=false∧E.an=[]:=by
 unfold kK at h
 split at h
 ·cases h
 ·rename_i E' oV
  split at h
  ·rename_i dh;cases h;obtain ⟨hi,hk⟩:=Ko l hH E iP Kq oV;refine ⟨fun n x hx=>?_,?_,hi.an⟩
   ·have hd:=hi.bg n x hx;refine ⟨⟨x.1,hd,rfl⟩,fun f hf=>?_⟩;have gS:∃ k∈x.1.cons,f∈k.fields:=by
     unfold de at hf;rw [List.getD_eq_getElem?_getD,List.getElem?_map] at hf;cases hg:x.1.cons[x.2]? with
     | none=>rw [hg] at hf;cases hf
     | some k=>rw [hg] at hf;exact ⟨k,List.mem_of_getElem? hg,hf⟩
    obtain ⟨k,jz,jU⟩:=gS;rcases List.mem_append.1 (hi.mem _ _ hd) with hm | hm
    ·exact ade (hk _ _ Q2) _ hm k jz f jU
    ·unfold vj at dh;rw [List.all_eq_true] at dh;have:=dh _ hm;unfold zj at this;rw [List.all_eq_true] at this;have:=this k jz;rw [List.all_eq_true] at this;have:=(xf (this f jU)).1;rw [← xw (E:=dX E x.1.params) (E':=E) rfl];exact this
   ·unfold dm;have:aI E.aG iA=some jg:=hk _ _ ac';rw [this];rfl
  ·cases h
theorem adg {E E':Env} {d:Df} (h:nd E d = .ok E'):E'.aG=E.aG∧E'.cons=E.cons∧(∀ n f,aI E'.an n=some f→aI E.an n=some f∨f.type.wf E=true):=by
 unfold nd at h
 split at h
 ·cases h
 ·split at h
  ·cases h
  ·split at h
   ·cases h
   ·rename_i hr;cases h;refine ⟨rfl,rfl,fun n f hf=>?_⟩;have hf:aI (bK E.an d.name d) n=some f:=hf;rw [jh] at hf
    split at hf
    ·cases hf
     right
     have:=(xf (by simpa using hr)).1;rw [← xw (E:={ E with params:=j7 d.params []}) (E':=E) rfl];exact this
    ·exact .inl hf
theorem Q4:∀ (l:List Df) (E E':Env),fk l E = .ok E'→E'.aG=E.aG∧E'.cons=E.cons∧(∀ n f,aI E'.an n=some f→aI E.an n=some f∨f.type.wf E=true)
 | [],E,E',h=>by rw [fk] at h;cases h;exact ⟨rfl,rfl,fun _ _ h=>.inl h⟩
 | d::l,E,E',h=>by
  rw [fk] at h
  split at h
  ·cases h
  ·rename_i E1 h1;obtain ⟨a1,a2,a3⟩:=adg h1;obtain ⟨b1,b2,b3⟩:=Q4 l E1 E' h;refine ⟨b1.trans a1,b2.trans a2,fun n f hf=>?_⟩;rcases b3 n f hf with h | h
   ·exact a3 n f h
   ·rw [xw a1] at h;exact .inr h
theorem Kr {l:List Dt} {ds:List Df} {E1 E2:Env} (h1:kK hH l = .ok E1) (h2:fk ds E1 = .ok E2) (ps:List ByteArray):kD (dX E2 ps)∧dm (dX E2 ps) iA 0=false:=by
 obtain ⟨a1,a2,a3⟩:=Q3 h1;obtain ⟨b1,b2,b3⟩:=Q4 ds E1 E2 h2;refine ⟨⟨fun n x hx=>?_,fun n f hf=>?_⟩,?_⟩
 ·have hx:aI E2.cons n=some x:=hx;rw [b2] at hx;obtain ⟨c1,c2⟩:=a1 n x hx;refine ⟨?_,fun f hf=>?_⟩
  ·show ∃ d,aI E2.aG x.1.name=some d∧_;rw [b1];exact c1
  ·rw [xw (E:=dX E2 ps) (E':=E1) b1];exact c2 f hf
 ·have hf:aI E2.an n=some f:=hf;rw [xw (E:=dX E2 ps) (E':=E1) b1];rcases b3 n f hf with h | h
  ·rw [a3] at h;cases h
  ·exact h
 ·show dm (dX E2 ps) iA 0=false;unfold dm at *;have:(dX E2 ps).aG=E1.aG:=b1;rw [this];exact a2
end
section
open Go Go.W
theorem adh (e:Ex):∀ {w:World} {B:Nat→Prop} {cs:List Value},bH w B cs e→ba Tryz.prog 56 [.agg cs.toArray] w fun r w'=>r=I e.size∧Mod (fun _=>False) w w':=by
 induction e using Ex.ind with
 | h e eZ mj mT=>
 intro w B cs h;obtain ⟨vt,va,vb,vl,rfl,ht,ha,hb,hl⟩:=h.parts;obtain ⟨aa,ca,rfl⟩:=a8 ha;obtain ⟨ab,cb,rfl⟩:=a8 hb;obtain ⟨al,cl,rfl⟩:=a8 hl;refine Yt.calls rfl ?_;unfold HQ;(try simp only [go_sem,simprocAttr]);refine bB rfl ?_;intro w1 au ak _;(try simp only [go_sem,simprocAttr,cell_of au,Value.cells]);refine aK (by rfl) ?_;refine (Oo (ht.mod ak aC (fun _ _ h=>h.mod ak aC))).mono ?_;rintro _ w2 ⟨rfl,ai⟩;(try simp only [go_sem,simprocAttr,cell_of (ai.at au _root_.id),Value.cells]);refine lZ (PP:=fun w=>bH w B) (l:=e.args) (B:=B) (fun k ρ w'=>Mod (fun _=>False) w1 w'∧k≤e.args.length∧∃ n,e.size=sY e.alts (uy e.binds (wC (e.args.drop k) n))∧ρ=[(1,ptr w.heap.size),(3,I n),(15,.slice aa e.args.length ca),(16,I e.args.length),(17,I k)])
  ⟨ai,by omega,_,e.size_eq,rfl⟩ ha ?_ (fun _ _ _ h=>h.one) rfl ?_ ?_
 ·rintro k _ w2 ⟨ai,hk,n,he,rfl⟩;have hm:=ak.trans ai;exact ⟨⟨ha.mod hm aC (fun _ _ h=>h.mod hm aC),hk⟩,rfl,rfl,rfl⟩
 ·rintro k _ w2 hk w3 r b pv ⟨ai,_,n,he,rfl⟩ hr bV aO ar _;(try simp only [go_sem,simprocAttr,az aO bV]);refine aK (by rfl) ?_;refine (eZ _ (List.getElem_mem hk) (hr.mod ar aC)).mono ?_;rintro _ w4 ⟨rfl,aA⟩;(try simp only [go_sem,simprocAttr]);exact ⟨ai.trans (ar.trans aA),hk,_,he.trans (by rw [WR n hk]),rfl⟩
 rintro _ w3 ⟨ar,_,n,he,rfl⟩;rw [List.drop_length] at he;(try simp only [go_sem,simprocAttr,cell_of (ar.at au _root_.id),Value.cells]);refine lZ (PP:=fun w=>dP w B) (l:=e.binds) (B:=B) (fun k ρ w'=>Mod (fun _=>False) w1 w'∧k≤e.binds.length∧∃ n,e.size=sY e.alts (uy (e.binds.drop k) n)∧ρ=[(1,ptr w.heap.size),(3,I n),(27,.slice ab e.binds.length cb),(28,I e.binds.length),(29,I k)])
  ⟨ar,by omega,_,he,rfl⟩ hb ?_ (fun _ _ _ h=>h.one) rfl ?_ ?_
 ·rintro k _ w2 ⟨ai,hk,n,he,rfl⟩;have hm:=ak.trans ai;exact ⟨⟨hb.mod hm aC (fun _ _ h=>h.mod hm aC),hk⟩,rfl,rfl,rfl⟩
 ·rintro k _ w2 hk w3 r b pv ⟨ai,_,n,he,rfl⟩ hr bV aO ar _;obtain ⟨tc,ec,rfl,gw,ej,_⟩:=hr;have l1:=gw.len;have l2:=ej.len;have k1:=gF (off:=1) (n:=3) aO (by simp;omega);have k2:=gF (off:=4) (n:=7) aO (by simp;omega);rw [List.drop_succ_cons,List.drop_zero,List.take_left' l1] at k1;rw [List.drop_succ_cons,List.drop_left' l1,List.take_of_length_le (by omega)] at k2;(try simp only [go_sem,simprocAttr,ci,k1,k2]);refine aK (by rfl) ?_;refine (yF _ (gw.mod ar.drew aC)).mono ?_;rintro _ w4 ⟨rfl,aA⟩;(try simp only [go_sem,simprocAttr]);refine ⟨aA.bY _ (cC aO) _root_.id,?_⟩;refine aK (by rfl) ?_;refine (mj _ (List.getElem_mem hk) (ej.mod (ar.drew.trans aA) aC)).mono ?_;rintro _ w5 ⟨rfl,aD⟩;(try simp only [go_sem,simprocAttr]);exact ⟨ai.trans (ar.drew.trans (aA.trans aD)),hk,_,he.trans (by rw [WS n hk]),rfl⟩
 rintro _ w4 ⟨aA,_,n,he,rfl⟩;rw [List.drop_length] at he;(try simp only [go_sem,simprocAttr,cell_of (aA.at au _root_.id),Value.cells]);refine lZ (PP:=fun w=>gq w B) (l:=e.alts) (B:=B) (fun k ρ w'=>Mod (fun _=>False) w1 w'∧k≤e.alts.length∧∃ n,e.size=sY (e.alts.drop k) n∧ρ=[(3,I n),(45,.slice al e.alts.length cl),(46,I e.alts.length),(47,I k)])
  ⟨aA,by omega,_,he,rfl⟩ hl ?_ (fun _ _ _ h=>h.one) rfl ?_ ?_
 ·rintro k _ w2 ⟨ai,hk,n,he,rfl⟩;have hm:=ak.trans ai;exact ⟨⟨hl.mod hm aC (fun _ _ h=>h.mod hm aC),hk⟩,rfl,rfl,rfl⟩
 ·rintro k _ w2 hk w3 r b pv ⟨ai,_,n,he,rfl⟩ hr bV aO ar _;obtain ⟨vv,ec,rfl,BP,ej⟩:=hr;obtain ⟨av,cv,rfl⟩:=a8 BP;have l2:=ej.len;have k2:=gF (off:=4) (n:=7) aO (by simp;omega);simp only [List.drop_succ_cons,List.drop_zero] at k2;rw [List.take_of_length_le (by omega)] at k2;(try simp only [go_sem,simprocAttr,ci,cell_of aO,k2]);refine aK (by rfl) ?_;refine (mT _ (List.getElem_mem hk) (ej.mod ar.drew aC)).mono ?_;rintro _ w5 ⟨rfl,aD⟩;(try simp only [go_sem,simprocAttr]);exact ⟨aD.bY _ (cC aO) _root_.id,ai.trans (ar.drew.trans aD),hk,_,he.trans (by rw [WT n hk]),rfl⟩
 ·rintro _ w2 ⟨ai,_,n,he,rfl⟩;(try simp only [go_sem,simprocAttr]);rw [he,List.drop_length];exact ⟨rfl,ak.trans ai⟩
theorem adi (e:Ex):∀ {w:World} {B:Nat→Prop} {cs:List Value},bH w B cs e→ba Tryz.prog 40 [.agg cs.toArray] w fun r w'=>r=I e.deep∧Mod (fun _=>False) w w':=by
 induction e using Ex.ind with
 | h e eZ mj mT=>
 intro w B cs h;obtain ⟨vt,va,vb,vl,rfl,ht,ha,hb,hl⟩:=h.parts;obtain ⟨aa,ca,rfl⟩:=a8 ha;obtain ⟨ab,cb,rfl⟩:=a8 hb;obtain ⟨al,cl,rfl⟩:=a8 hl;refine X2.calls rfl ?_;unfold HA;(try simp only [go_sem,simprocAttr]);refine bB rfl ?_;intro w1 au ak _;(try simp only [go_sem,simprocAttr,cell_of au,Value.cells]);refine lZ (PP:=fun w=>bH w B) (l:=e.args) (B:=B) (fun k ρ w'=>Mod (fun _=>False) w1 w'∧k≤e.args.length∧∃ n,e.deep=Wr (sZ e.alts (uz e.binds (wD (e.args.drop k) n))+1)∧ρ=[(1,ptr w.heap.size),(3,I n),(11,.slice aa e.args.length ca),(12,I e.args.length),(13,I k)])
  ⟨.refl _ _,by omega,_,e.WO,rfl⟩ ha ?_ (fun _ _ _ h=>h.one) rfl ?_ ?_
 ·rintro k _ w2 ⟨ai,hk,n,he,rfl⟩;have hm:=ak.trans ai;exact ⟨⟨ha.mod hm aC (fun _ _ h=>h.mod hm aC),hk⟩,rfl,rfl,rfl⟩
 ·rintro k _ w2 hk w3 r b pv ⟨ai,_,n,he,rfl⟩ hr bV aO ar _;(try simp only [go_sem,simprocAttr,az aO bV]);refine aK (by rfl) ?_;refine (eZ _ (List.getElem_mem hk) (hr.mod ar aC)).mono ?_;rintro _ w4 ⟨rfl,aA⟩;(try simp only [go_sem,simprocAttr]);exact ⟨ai.trans (ar.trans aA),hk,_,he.trans (by rw [WU n hk]),rfl⟩
 rintro _ w3 ⟨ar,_,n,he,rfl⟩;rw [List.drop_length] at he;(try simp only [go_sem,simprocAttr,cell_of (ar.at au _root_.id),Value.cells]);refine lZ (PP:=fun w=>dP w B) (l:=e.binds) (B:=B) (fun k ρ w'=>Mod (fun _=>False) w1 w'∧k≤e.binds.length∧∃ n,e.deep=Wr (sZ e.alts (uz (e.binds.drop k) n)+1)∧ρ=[(1,ptr w.heap.size),(3,I n),(23,.slice ab e.binds.length cb),(24,I e.binds.length),(25,I k)])
  ⟨ar,by omega,_,he,rfl⟩ hb ?_ (fun _ _ _ h=>h.one) rfl ?_ ?_
 ·rintro k _ w2 ⟨ai,hk,n,he,rfl⟩;have hm:=ak.trans ai;exact ⟨⟨hb.mod hm aC (fun _ _ h=>h.mod hm aC),hk⟩,rfl,rfl,rfl⟩
 ·rintro k _ w2 hk w3 r b pv ⟨ai,_,n,he,rfl⟩ hr bV aO ar _;obtain ⟨tc,ec,rfl,gw,ej,_⟩:=hr;have l1:=gw.len;have l2:=ej.len;have k2:=gF (off:=4) (n:=7) aO (by simp;omega);rw [List.drop_succ_cons,List.drop_left' l1,List.take_of_length_le (by omega)] at k2;(try simp only [go_sem,simprocAttr,k2]);refine aK (by rfl) ?_;refine (mj _ (List.getElem_mem hk) (ej.mod ar aC)).mono ?_;rintro _ w5 ⟨rfl,aD⟩;(try simp only [go_sem,simprocAttr]);exact ⟨ai.trans (ar.trans aD),hk,_,he.trans (by rw [WV n hk]),rfl⟩
 rintro _ w4 ⟨aA,_,n,he,rfl⟩;rw [List.drop_length] at he;(try simp only [go_sem,simprocAttr,cell_of (aA.at au _root_.id),Value.cells]);refine lZ (PP:=fun w=>gq w B) (l:=e.alts) (B:=B) (fun k ρ w'=>Mod (fun _=>False) w1 w'∧k≤e.alts.length∧∃ n,e.deep=Wr (sZ (e.alts.drop k) n+1)∧ρ=[(3,I n),(36,.slice al e.alts.length cl),(37,I e.alts.length),(38,I k)])
  ⟨aA,by omega,_,he,rfl⟩ hl ?_ (fun _ _ _ h=>h.one) rfl ?_ ?_
 ·rintro k _ w2 ⟨ai,hk,n,he,rfl⟩;have hm:=ak.trans ai;exact ⟨⟨hl.mod hm aC (fun _ _ h=>h.mod hm aC),hk⟩,rfl,rfl,rfl⟩
 ·rintro k _ w2 hk w3 r b pv ⟨ai,_,n,he,rfl⟩ hr bV aO ar _;obtain ⟨vv,ec,rfl,BP,ej⟩:=hr;have l2:=ej.len;have k2:=gF (off:=4) (n:=7) aO (by simp;omega);simp only [List.drop_succ_cons,List.drop_zero] at k2;rw [List.take_of_length_le (by omega)] at k2;(try simp only [go_sem,simprocAttr,k2]);refine aK (by rfl) ?_;refine (mT _ (List.getElem_mem hk) (ej.mod ar aC)).mono ?_;rintro _ w5 ⟨rfl,aD⟩;(try simp only [go_sem,simprocAttr]);exact ⟨ai.trans (ar.trans aD),hk,_,he.trans (by rw [WW n hk]),rfl⟩
 ·rintro _ w2 ⟨ai,_,n,he,rfl⟩;(try simp only [go_sem,simprocAttr]);rw [he,List.drop_length];exact ⟨rfl,ak.trans ai⟩
theorem adl (p:Pg) {w:World} {B:Nat→Prop} {cs:List Value} (h:jr w B cs p):ba Tryz.prog 39 [.agg cs.toArray] w fun r w'=>r=I p.size∧Mod (fun _=>False) w w':=by
 obtain ⟨vd,vf,rfl,hd,hf⟩:=h;obtain ⟨ad,cd,rfl⟩:=a8 hd;obtain ⟨af,cf,rfl⟩:=a8 hf;refine XY.calls rfl ?_;unfold Hz;(try simp only [go_sem,simprocAttr]);refine bB rfl ?_;intro w1 au ak _;(try simp only [go_sem,simprocAttr,cell_of au,Value.cells]);refine lZ (PP:=fun w=>gp w B) (l:=p.aG) (B:=B) (fun k ρ w'=>Mod (fun _=>False) w1 w'∧k≤p.aG.length∧∃ n,p.size=uA p.an (wF (p.aG.drop k) n)∧ρ=[(1,ptr w.heap.size),(3,I n),(11,.slice ad p.aG.length cd),(12,I p.aG.length),(13,I k)])
  ⟨.refl _ _,by omega,_,rfl,rfl⟩ hd ?_ (fun _ _ _ h=>h.one) rfl ?_ ?_
 ·rintro k _ w2 ⟨ai,hk,n,he,rfl⟩;have hm:=ak.trans ai;exact ⟨⟨hd.mod hm aC (fun _ _ h=>h.mod hm aC),hk⟩,rfl,rfl,rfl⟩
 ·rintro k _ w2 hk w3 r b pv ⟨ai,_,n,he,rfl⟩ hr bV aO ar _;obtain ⟨vp,vc,rfl,hp,hc⟩:=hr;obtain ⟨ac,cc,rfl⟩:=a8 hc;(try simp only [go_sem,simprocAttr,cell_of aO]);rw [WY n hk] at he;refine lZ (PP:=fun w=>eF w B) (l:=p.aG[k].cons) (B:=B) (fun j ρ w'=>Mod (fun _=>False) w1 w'∧Mod (fun _=>False) w3 w'∧j≤p.aG[k].cons.length∧∃ n,p.size=uA p.an (wF (p.aG.drop (k+1)) (wE (p.aG[k].cons.drop j) n))∧ρ=[(1,ptr w.heap.size),(3,I n),(11,.slice ad p.aG.length cd),(12,I p.aG.length),(13,I k),(20,.slice ac p.aG[k].cons.length cc),(21,I p.aG[k].cons.length),(22,I j)])
   ⟨ai.trans ar,.refl _ _,by omega,_,he,rfl⟩ hc ?_ (fun _ _ _ h=>h.one) rfl ?_ ?_
  ·rintro j _ w2 ⟨aA,aD,hj,n,he,rfl⟩;have hm:=ar.trans aD;exact ⟨⟨hc.mod hm aC (fun _ _ h=>h.mod hm aC),hj⟩,rfl,rfl,rfl⟩
  ·rintro j _ w4 hj w5 r b pv ⟨aA,aD,_,n,he,rfl⟩ hr bV aO aJ _;obtain ⟨vf,rfl,hf,_⟩:=hr;(try simp only [go_sem,simprocAttr,cell_of aO]);refine aK (by rfl) ?_;refine (Oo (hf.mod aJ aC (fun _ _ h=>h.mod aJ aC))).mono ?_;rintro _ w7 ⟨rfl,aL⟩;(try simp only [go_sem,simprocAttr]);exact ⟨aA.trans (aJ.trans aL),aD.trans (aJ.trans aL),hj,_,he.trans (by rw [WX n hj]),rfl⟩
  rintro _ w4 ⟨aA,aD,_,n,he,rfl⟩;rw [List.drop_length] at he;(try simp only [go_sem,simprocAttr]);exact ⟨aA,hk,n,he,rfl⟩
 rintro _ w4 ⟨aA,_,n,he,rfl⟩;rw [List.drop_length] at he;(try simp only [go_sem,simprocAttr,cell_of (aA.at au _root_.id),Value.cells]);refine lZ (PP:=fun w=>jR w B) (l:=p.an) (B:=B) (fun k ρ w'=>Mod (fun _=>False) w1 w'∧k≤p.an.length∧∃ n,p.size=uA (p.an.drop k) n∧ρ=[(3,I n),(35,.slice af p.an.length cf),(36,I p.an.length),(37,I k)])
  ⟨aA,by omega,_,he,rfl⟩ hf ?_ (fun _ _ _ h=>h.one) rfl ?_ ?_
 ·rintro k _ w2 ⟨ai,hk,n,he,rfl⟩;have hm:=ak.trans ai;exact ⟨⟨hf.mod hm aC (fun _ _ h=>h.mod hm aC),hk⟩,rfl,rfl,rfl⟩
 ·rintro k _ w2 hk w3 r b pv ⟨ai,_,n,he,rfl⟩ hr bV aO ar _;obtain ⟨vp,tc,ec,rfl,l1,l2,hp,gw,ej,_⟩:=hr;have k1:=gF (off:=2) (n:=3) aO (by simp;omega);have k2:=gF (off:=5) (n:=7) aO (by simp;omega);simp only [List.drop_succ_cons,List.drop_zero] at k1 k2;rw [List.take_left' l1] at k1;rw [List.drop_left' l1,List.take_of_length_le (by omega)] at k2;(try simp only [go_sem,simprocAttr,k1,k2]);refine aK (by rfl) ?_;refine (yF _ (gw.mod ar.drew aC)).mono ?_;rintro _ w4 ⟨rfl,aA⟩;(try simp only [go_sem,simprocAttr]);refine ⟨aA.bY _ (cC aO) _root_.id,?_⟩;refine aK (by rfl) ?_;refine (adh _ (ej.mod (ar.drew.trans aA) aC)).mono ?_;rintro _ w5 ⟨rfl,aD⟩;(try simp only [go_sem,simprocAttr]);exact ⟨ai.trans (ar.drew.trans (aA.trans aD)),hk,_,he.trans (by rw [WZ n hk]),rfl⟩
 ·rintro _ w2 ⟨ai,_,n,he,rfl⟩;(try simp only [go_sem,simprocAttr]);rw [he,List.drop_length];exact ⟨rfl,ak.trans ai⟩
end
section
open Go Go.W
noncomputable def jG (p:Pg):Except Int Env:=
 if p.size > 100000 then .error 4
 else if p.an.any (fun d=>decide (d.body.deep > 4000))=true then .error 3
 else match kK hH p.aG with
  | .error e=>.error e
  | .ok E1=>match fk p.an E1 with
   | .error e=>.error e
   | .ok E2=>if (jF E2 p.an != 0)=true then .error (jF E2 p.an) else .ok E2
theorem Q5 {α:Type} {l:List α} {p:α→Bool} {i:Nat} (hi:i < l.length):(l.drop i).any p=(p l[i]||(l.drop (i+1)).any p):=by rw [List.drop_eq_getElem_cons hi,List.any_cons]
def adm (w1 w':World) (c:Nat) (E:Env):Prop:=∃ md mc mf S,fc w' S c md mc mf E∧∀ b,S b→w1.heap.size≤b
def Q6 (w w':World) (r:Value) (x:Except Int Env):Prop:=match x with
 | .error e=>r = .tuple #[.pointer none,I e]∧e≠0
 | .ok E=>∃ c,r = .tuple #[ptr c,I 0]∧adm w w' c E
theorem bL.adn {w w':World} {S:Nat→Prop} {M:Ms} {E:Env} {bd:bI} {lc:Loc} {ps:bI} (h:bL w S M E bd lc) (hm:Mod (· = M.mp) w w') (h1:cD w' M.mp RI ps):bL w' S M { E with params:=ps} bd lc:=by
 obtain ⟨⟨a1,a2,a3,a4,a5,a6⟩,⟨b1,b2,b3,b4,b5⟩,⟨c1,c2,c3,c4⟩,⟨d1,d2,d3⟩,⟨e1,e2⟩,f1⟩:=Ms.ne h.nodup;have hS:∀ b,b=M.mp→S b:=fun b hb=>by rw [hb];exact h.bt _ (by simp [Ms.list])
 have bC:Mod S w w':=hm.aT hS
 exact ⟨hm.at h.box a4,h.nodup,h.bt,fun b hb=>Nat.lt_of_lt_of_le (h.lt b hb) hm.size,
  h.aG.mod hm b3 (fun _ _ x=>x.up bC aM (aU bC)),h.cons.mod hm c2 (fun _ _ x=>x.up bC aM (aU bC)),
  h.an.mod hm d1 (fun _ _ x=>x.up bC aM (aU bC)),h1,h.gx.mod hm (fun e=>e1 e.symm) (fun _ _ x=>x),h.locals.mod hm (fun e=>e2 e.symm) (fun _ _ x=>x.up bC aM (aU bC))⟩
theorem ado (p:Pg) {w:World} {cs:List Value} (h:jr w (Out (fun _=>False) w) cs p) :
   ba Tryz.prog 31 [.agg cs.toArray] w fun r w'=>Q6 w w' r (jG p)∧Mod (fun _=>False) w w':=by
 obtain ⟨vd,vf,rfl,hd,hf⟩:=h;obtain ⟨ad,cd,rfl⟩:=a8 hd;obtain ⟨af,cf,rfl⟩:=a8 hf;have j6:=du hf;refine XM.calls rfl ?_;unfold Hr;(try simp only [go_sem,simprocAttr]);refine bB rfl ?_;intro w1 au ak bP;have z1:=ak.size;have lists:∀ {w':World} {S:Nat→Prop},Mod (fun _=>False) w1 w'→(∀ b,S b→w1.heap.size≤b)→aQ w' (.slice ad p.aG.length cd) 3 (Out S w') (gp w' (Out S w')) p.aG∧aQ w' (.slice af p.an.length cf) 12 (Out S w') (jR w' (Out S w')) p.an:=fun hm hs=>by
  have fD:=ak.trans hm;have ho:∀ b,Out (fun _=>False) w b→Out _ _ b:=fun b hb=>⟨Nat.lt_of_lt_of_le hb.1 fD.size,fun hh=>by have:=hs b hh;have:=hb.1;omega⟩
  exact ⟨hd.up fD aC ho (fun _ _ h=>h.up fD aC ho),hf.up fD aC ho (fun _ _ h=>h.up fD aC ho)⟩
 have Q7:∀ b:Nat,(fun _=>False:Nat→Prop) b→w1.heap.size≤b:=fun _ h=>h.elim
 have fin:∀ {w':World} {e:Int},Mod (fun _=>False) w1 w'→e≠0→jG p = .error e→Q6 w w' (.tuple #[.pointer none,I e]) (jG p)∧Mod (fun _=>False) w w':=fun hm bw he=>by
  rw [he];exact ⟨⟨rfl,bw⟩,ak.trans hm⟩
 have hX:jG p=if p.size > 100000 then .error 4
  else if p.an.any (fun d=>decide (d.body.deep > 4000))=true then .error 3
  else match kK hH p.aG with
   | .error e=>.error e
   | .ok E1=>match fk p.an E1 with
    | .error e=>.error e
    | .ok E2=>if (jF E2 p.an != 0)=true then .error (jF E2 p.an) else .ok E2:=rfl
 have kd:∀ {w':World},Mod (fun _=>False) w1 w'→w'.cell? ⟨w.heap.size,0,none⟩=some (.slice ad p.aG.length cd)∧w'.cell? ⟨w.heap.size,1,none⟩=some (.slice af p.an.length cf):=fun hm=>by
  constructor<;>(rw [cell_of (hm.at au _root_.id)];rfl)
 (try simp only [go_sem,simprocAttr,az (n:=2) au rfl]);refine aK (by rfl) ?_;obtain ⟨l1,l2⟩:=lists (Mod.refl _ w1) Q7;refine (adl p ⟨_,_,rfl,l1,l2⟩).mono ?_;rintro _ w2 ⟨rfl,ai⟩;by_cases dj:p.size > 100000
 ·rw [if_pos dj] at hX;have Aw:decide (p.size > 100000)=true:=by simpa using dj
  (try simp only [go_sem,simprocAttr,Aw,aE,RV.ev,aF]);exact fin ai (by decide) hX
 rw [if_neg dj] at hX;have Aw:decide (p.size > 100000)=false:=by simpa using dj
 obtain ⟨q0,q1⟩:=kd ai;(try simp only [go_sem,simprocAttr,Aw,q1]);refine eQ p.an.length (fun k ρ w'=>k≤p.an.length∧Mod (fun _=>False) w1 w'∧((p.an.drop k).any (fun d=>decide (d.body.deep > 4000)))=p.an.any (fun d=>decide (d.body.deep > 4000))∧ρ=[(1,ptr w.heap.size),(22,.slice af p.an.length cf),(23,I p.an.length),(24,I k)])
  ⟨by omega,ai,rfl,rfl⟩ j6 ?_ ?_ (by decide) ?_
 ·rintro k _ w3 ⟨hk,_,_,rfl⟩;exact ⟨rfl,rfl,hk⟩
 ·rintro k _ w3 ⟨_,ar,sk,rfl⟩ hk;rw [Q5 hk] at sk;obtain ⟨_,l2⟩:=lists ar Q7;obtain ⟨tK,c3,rr,e,hr,so,bQ,_⟩:=dL l2 hk;obtain ⟨rfl,-,-⟩:=b9 e;have bk:(0:Int)≤k∧(k:Int) < p.an.length:=by omega
  have gu:=hr.one;obtain ⟨vp,tc,bc,rfl,bV,jW,fW,bz,gz,_⟩:=hr;(try simp only [go_sem,simprocAttr,bq,br,bk,bQ]);refine di (n:=12) (vs:=.string p.an[k].name::vp::(tc++bc)) rfl so gu ?_;intro w4 bT aA eA;have k5:=gF (off:=5) (n:=7) bT (by simp [Value.cells,bV,jW]);have e5:((Value.string p.an[k].name::vp::(tc++bc)).drop 5).take 7=bc:=by
   match tc,bV with
   | [a,b,c],_=>simp [List.take_of_length_le (Nat.le_of_eq jW)]
  rw [e5] at k5;(try simp only [go_sem,simprocAttr,k5]);refine aK (by rfl) ?_;refine (adi p.an[k].body (gz.aB (aj aA))).mono ?_;rintro _ w5 ⟨rfl,aD⟩;have sq:=ar.trans (aA.trans aD);cases rZ:decide (p.an[k].body.deep > 4000) with
  | true=>
   rw [rZ,Bool.true_or] at sk;rw [if_pos sk.symm] at hX;(try simp only [go_sem,simprocAttr,rZ,aE,RV.ev,aF]);exact fin sq (by decide) hX
  | false=>
   rw [rZ,Bool.false_or] at sk;(try simp only [go_sem,simprocAttr,rZ]);exact ⟨hk,sq,sk⟩
 rintro _ w3 ⟨_,ar,sk,rfl⟩;rw [List.drop_length] at sk;have sk:false=_:=sk;rw [if_neg (by rw [← sk];simp)] at hX;(try simp only [go_sem,simprocAttr]);refine aK (by rfl) ?_;refine acL.mono ?_;rintro _ w4 ⟨⟨c,md,mc,mf,S0,rfl,Q8,hS0⟩,aA⟩;have lI:=ar.trans aA;have z13:=ar.size;have Ks:∀ b,S0 b→w1.heap.size≤b:=fun b hb=>by have:=hS0 b hb;omega
 obtain ⟨q0,q1⟩:=kd lI;obtain ⟨l1,l2⟩:=lists lI Ks;(try simp only [go_sem,simprocAttr,q0]);refine aK (by rfl) ?_;refine (ac2 Q8 l1).mono ?_;rintro r5 w5 ⟨nT,aD⟩;have mu:∀ b∈[c,md,mc,mf],w1.heap.size≤b:=fun b hb=>Ks b (Q8.bt b hb)
 have n1:=mu c (by simp);have n2:=mu md (by simp);have n3:=mu mc (by simp);have n4:=mu mf (by simp);have sq:Mod (fun _=>False) w1 w5:=lI.step aD (fun b hb hl=>by rcases hb with h | h | h<;>omega);cases tw:kK hH p.aG with
 | error e=>
  rw [tw] at nT hX;obtain ⟨rfl,bw⟩:=nT;have gL:(e != 0)=true:=by simpa using bw
  (try simp only [go_sem,simprocAttr,gL,aE,RV.ev,aF]);exact fin sq bw hX
 | ok E1=>
  rw [tw] at nT hX;obtain ⟨rfl,S1,Ki,DZ,Je⟩:=nT;have z14:=lI.size;have adq:∀ b,S1 b→w1.heap.size≤b:=fun b hb=>by
   rcases Je b hb with h | h
   ·exact Ks b h
   ·omega
  obtain ⟨q0,q1⟩:=kd sq;have hX:jG p=match fk p.an E1 with
      | .error e=>.error e
      | .ok E2=>if (jF E2 p.an != 0)=true then .error (jF E2 p.an) else .ok E2:=hX
  (try simp only [go_sem,simprocAttr,q1]);refine eQ p.an.length (fun k ρ w'=>k≤p.an.length∧Mod (fun _=>False) w1 w'∧(∃ S Ek,fc w' S c md mc mf Ek∧(∀ b,S b→w1.heap.size≤b)∧fk (p.an.drop k) Ek=fk p.an E1)∧ρ=[(1,ptr w.heap.size),(6,ptr c),(42,.slice af p.an.length cf),(43,I p.an.length),(44,I k)])
   ⟨by omega,sq,⟨S1,E1,Ki,adq,rfl⟩,rfl⟩ j6 ?_ ?_ (by decide) ?_
  ·rintro k _ w6 ⟨hk,_,_,rfl⟩;exact ⟨rfl,rfl,hk⟩
  ·rintro k _ w6 ⟨_,aJ,⟨S,Ek,bm,hS,tQ⟩,rfl⟩ hk;rw [acR hk] at tQ;obtain ⟨_,l6⟩:=lists aJ hS;obtain ⟨tK,c6,rr,e6,hr,so,bQ,_⟩:=dL l6 hk;obtain ⟨rfl,-,-⟩:=b9 e6;have bk:(0:Int)≤k∧(k:Int) < p.an.length:=by omega
   have gu:=hr.one;obtain ⟨vp,tc,bc,rfl,bV,jW,fW,bz,gz,ja⟩:=hr;obtain ⟨app,lE,rfl⟩:=a8 fW;have Kf:=du fW;(try simp only [go_sem,simprocAttr,bq,br,bk,bQ]);refine di (n:=12) (vs:=.string p.an[k].name :: .slice app p.an[k].params.length lE::(tc++bc)) rfl so gu ?_;intro w7 dp aL iL;have z67:=aL.size;(try simp only [go_sem,simprocAttr]);refine aK (by rfl) ?_;refine (J8 (ps:=[]) (bm.aB aL) (fH _ _ _ _)).mono ?_;rintro _ w8 ⟨⟨M,rfl,rfl,rfl,rfl,rS,lp,lb,ll⟩,bh⟩;have qP:Mod (· = M.c) w6 w8:=(aj aL).trans bh;have Q9:Mod (fun _=>False) w1 w8:=aJ.step qP (fun b hb hl=>by have:=mu M.c (by simp);omega);have adr:=bh.at dp (show ¬ w6.heap.size=M.c by have:=bm.lt M.c (bm.bt M.c (by simp));omega);have z16:=aJ.size;have z8:=bh.size;have xv:∀ b,Kn S M b→w1.heap.size≤b:=fun b hb=>by
    rcases hb with h | h | h | h
    ·exact hS b h
    ·omega
    ·omega
    ·omega
   have parts:∀ {w':World},Mod (fun b=>b=M.mp) w8 w'→aQ w' (.slice app p.an[k].params.length lE) 1 (Out (Kn S M) w') eP p.an[k].params∧aX w' (Out (Kn S M) w') tc p.an[k].type:=fun hm=>by
    have h1:Mod (Kn S M) w6 _:=(qP.aT (fun b hb=>by rw [hb];exact .inl (bm.bt _ (by simp)))).trans (hm.aT (fun b hb=>.inr (.inl hb)));have iG:∀ b,Out S w6 b→¬ Kn S M b:=fun b hb hh=>by
     rcases hh with h | h | h | h
     ·exact hb.2 h
     ·have:=hb.1;omega
     ·have:=hb.1;omega
     ·have:=hb.1;omega
    have ho:∀ b,Out S w6 b→Out (Kn S M) _ b:=fun b hb=>⟨Nat.lt_of_lt_of_le hb.1 h1.size,iG b hb⟩
    exact ⟨fW.up h1 iG ho (fun _ _ h=>h),bz.up h1 iG ho⟩
   have hh:nd Ek p.an[k]=if ((aI Ek.an p.an[k].name).isSome || !jv p.an[k].name)=true then .error 82
       else if sg p.an[k].params []=false then .error 82
       else if fg { Ek with params:=j7 p.an[k].params []} p.an[k].type=false then .error 83
       else .ok { Ek with an:=bK Ek.an p.an[k].name p.an[k],params:=j7 p.an[k].params []}:=rfl
   have stop:∀ {e:Int},nd Ek p.an[k] = .error e→jG p = .error e:=fun he=>by
    rw [he] at tQ;rw [hX,← tQ]
   have kn:∀ {w':World},Mod (fun b=>b=M.mp) w8 w'→w'.cell? ⟨w6.heap.size,0,none⟩=some (.string p.an[k].name)∧w'.cell? ⟨w6.heap.size,1,none⟩=some (.slice app p.an[k].params.length lE)∧w'.heap[w6.heap.size]? = some (.cells (.string p.an[k].name :: .slice app p.an[k].params.length lE::(tc++bc)).toArray 49 (0,0)):=fun hm=>by
    have h1:=hm.at adr (show ¬ w6.heap.size=M.mp by omega);refine ⟨?_,?_,h1⟩<;>(rw [cell_of h1];rfl)
   have d8:Mod (fun _=>False) w8 w8.drew:=(Mod.refl _ _).drew;have Ra:=rS.aB d8;have Rb:=Q9.trans d8;obtain ⟨BO,kp8,_⟩:=kn (Mod.refl _ w8);(try simp only [go_sem,simprocAttr,cell_of rS.box,BO]);refine Bh (R:=rN w8.drew (Out (Kn S M) w8.drew)) (k:=p.an[k].name) (b:=M.mf) (kt:=9) (et:=122) rfl rfl rfl rfl (Tryz.zeroValue122 _) Ra.an (fun hn=>?_) (fun v y hy hr=>?_)
   rotate_left
   ·have hy:aI Ek.an p.an[k].name=some y:=hy;rw [hy,if_pos (by simp)] at hh;obtain ⟨D6,rfl,_⟩:=hr;(try simp only [go_sem,simprocAttr,aE,RV.ev,aF]);exact fin Rb (by decide) (stop hh)
   have hn:aI Ek.an p.an[k].name=none:=hn;rw [hn] at hh;(try simp only [go_sem,simprocAttr,BO]);refine aK (by rfl) ?_;refine (Dp p.an[k].name ja).mono ?_;rintro _ _ ⟨rfl,rfl⟩;cases fE:jv p.an[k].name with
   | false=>
    rw [fE,if_pos (by rfl)] at hh;(try simp only [go_sem,simprocAttr,aE,RV.ev,aF]);exact fin Rb (by decide) (stop hh)
   | true=>
   rw [fE,if_neg (by simp)] at hh;(try simp only [go_sem,simprocAttr,kp8]);have zl:∀ {w':World},Mod (fun b=>b=M.mp) w8 w'→Mod (fun _=>False) w1 w':=fun hm=>Q9.step hm (fun b hb hl=>by omega)
   refine eQ p.an[k].params.length (fun j ρ w'=>j≤p.an[k].params.length∧Mod (fun b=>b=M.mp) w8 w'∧(∃ m,bL w' (Kn S M) M { Ek with params:=m} [] []∧sg (p.an[k].params.drop j) m=sg p.an[k].params []∧j7 (p.an[k].params.drop j) m=j7 p.an[k].params [])∧ρ=[(1,ptr w.heap.size),(6,ptr M.c),(8,I k),(9,ptr w6.heap.size),(42,.slice (some tK) p.an.length cf),(43,I p.an.length),(44,I k),(69,.slice app p.an[k].params.length lE),(70,I p.an[k].params.length),(71,I j)])
    ⟨by omega,aj d8,⟨[],Ra,rfl,rfl⟩,rfl⟩ Kf ?_ ?_ (by decide) ?_
   ·rintro j _ w9 ⟨hj,_,_,rfl⟩;exact ⟨rfl,rfl,hj⟩
   ·rintro j _ w9 ⟨_,aV,⟨m,oW,iK,mL⟩,rfl⟩ hj;rw [acP hj] at iK;rw [acQ hj] at mL;obtain ⟨adp,c9,ep,hnp,jP⟩:=qi (parts aV).1 hj;obtain ⟨rfl,-,-⟩:=b9 ep;have bj:(0:Int)≤j∧(j:Int) < p.an[k].params.length:=by omega
    (try simp only [go_sem,simprocAttr,bq,br,bj,jP]);refine aK (by rfl) ?_;refine (OW p.an[k].params[j]).mono ?_;rintro _ cV ⟨rfl,bE⟩;have pH:=oW.aB bE;have gM:=aV.trans (aj bE);cases hv:qm p.an[k].params[j] with
    | false=>
     rw [hv,if_pos (by rfl)] at iK;rw [if_pos iK.symm] at hh;(try simp only [go_sem,simprocAttr,aE,RV.ev,aF]);exact fin (zl gM) (by decide) (stop hh)
    | true=>
     rw [hv] at iK;(try simp only [go_sem,simprocAttr,cell_of pH.box]);refine xd ?_;refine uL (k:=p.an[k].params[j]) (b:=M.mp) (kt:=9) (et:=3) rfl rfl rfl rfl (zI _) pH.params ?_;have il:decide ((aI m p.an[k].params[j]).getD 0 > 0)=has m p.an[k].params[j]:=rfl;cases hs:has m p.an[k].params[j] with
     | true=>
      rw [hs] at il;rw [if_pos (by rw [hs];rfl)] at iK;rw [if_pos iK.symm] at hh;(try simp only [go_sem,simprocAttr,il,aE,RV.ev,aF]);exact fin (zl gM) (by decide) (stop hh)
     | false=>
      rw [hs] at il;rw [if_neg (by rw [hs];simp)] at iK;(try simp only [go_sem,simprocAttr,il,cell_of pH.box]);refine me (R:=RI) (a:=(1:Int)) (k:=p.an[k].params[j]) (b:=M.mp) (kt:=9) (et:=3) rfl rfl rfl rfl rfl pH.params rfl ?_;intro gA kA cR uX;(try simp only [go_sem,simprocAttr]);exact ⟨hj,gM.trans cR,_,pH.adn cR kA,iK,mL⟩
   rintro _ w9 ⟨_,aV,⟨m,oW,iK,mL⟩,rfl⟩;rw [List.drop_length,sg] at iK;rw [List.drop_length,j7] at mL;subst mL;rw [if_neg (by rw [← iK];simp)] at hh;obtain ⟨kn9,kp9,ads⟩:=kn aV;have k2:=gF (off:=2) (n:=3) ads (by simp [Value.cells,bV,jW]);have e2:((Value.string p.an[k].name :: .slice app p.an[k].params.length lE::(tc++bc)).drop 2).take 3=tc:=by
    simp [List.take_append_of_le_length,bV]
   rw [e2] at k2;(try simp only [go_sem,simprocAttr,k2]);refine aK (by rfl) ?_;refine (Bk p.an[k].type oW (parts aV).2).mono ?_;rintro _ cV ⟨rfl,bE⟩;have pH:=oW.aB bE;have gM:=aV.trans (aj bE);cases gw:fg { Ek with params:=j7 p.an[k].params []} p.an[k].type with
   | false=>
    rw [gw,if_pos rfl] at hh;(try simp only [go_sem,simprocAttr,aE,RV.ev,aF]);exact fin (zl gM) (by decide) (stop hh)
   | true=>
    rw [gw,if_neg (by simp)] at hh;rw [hh] at tQ;obtain ⟨adt,_,_⟩:=kn gM;obtain ⟨_,qE⟩:=kd (zl gM);obtain ⟨_,l10⟩:=lists (zl gM) xv;obtain ⟨aiF,yS,Rc,rW,xb,Pd,adu⟩:=io l10 hk;obtain ⟨e11,-,-⟩:=b9 rW;cases e11;have d10:Mod (fun _=>False) cV cV.drew:=(Mod.refl _ _).drew;have Rd:=pH.aB d10;(try simp only [go_sem,simprocAttr,bq,br,cell_of pH.box,adt,qE,bk]);refine me (R:=rN cV.drew (Out (Kn S M) cV.drew)) (a:=p.an[k]) (k:=p.an[k].name) (b:=M.mf) (kt:=9) (et:=122) rfl rfl rfl rfl rfl Rd.an ⟨_,rfl,Rc,adu.up (aj d10) aM (aU (aj d10)),xb.up (aj d10) aM (aU (aj d10))⟩ ?_;intro gA kA cR uX;have f10:=Rd.forget;have BQ:∀ b,b=M.mf→Kn S M b:=fun b hb=>by rw [hb];exact .inl (bm.bt _ (by simp))
    obtain ⟨⟨a1,a2,a3⟩,⟨b2,b3⟩,c3⟩:=J6 f10.nodup;have kA:=cD.mod kA (Mod.refl (fun _=>False) gA) _root_.id (fun v y x=>x.up (cR.aT BQ) aM (aU (cR.aT BQ)));(try simp only [go_sem,simprocAttr]);refine ⟨hk,((zl gM).trans d10).step cR (fun b hb hl=>by have:=mu M.mf (by simp);omega),Kn S M,_,f10.gd (E':={ Ek with an:=bK Ek.an p.an[k].name p.an[k],params:=j7 p.an[k].params []}) cR BQ (fun e=>a3 e) (f10.Eh cR BQ (fun e=>b3 e)) (f10.bg cR BQ (fun e=>c3 e)) kA,xv,tQ⟩
  rintro _ w6 ⟨_,aJ,⟨S2,E2,nW,uH,tQ⟩,rfl⟩;rw [List.drop_length,fk] at tQ;rw [← tQ] at hX;have hX:jG p=if (jF E2 p.an != 0)=true then .error (jF E2 p.an) else .ok E2:=hX
  obtain ⟨q0,q1⟩:=kd aJ;(try simp only [go_sem,simprocAttr,q1]);refine eQ p.an.length (fun k ρ w'=>k≤p.an.length∧Mod (fun _=>False) w1 w'∧(∃ S,fc w' S c md mc mf E2∧(∀ b,S b→w1.heap.size≤b)∧jF E2 (p.an.drop k)=jF E2 p.an)∧ρ=[(6,ptr c),(110,.slice af p.an.length cf),(111,I p.an.length),(112,I k)])
   ⟨by omega,aJ,⟨S2,nW,uH,rfl⟩,rfl⟩ j6 ?_ ?_ (by decide) ?_
  ·rintro k _ w7 ⟨hk,_,_,rfl⟩;exact ⟨rfl,rfl,hk⟩
  ·rintro k _ w7 ⟨_,aL,⟨S,bm,hS,dz⟩,rfl⟩ hk;rw [acS hk] at dz;obtain ⟨_,l7⟩:=lists aL hS;obtain ⟨tK,c7,rr,e7,hr,so,bQ,_⟩:=dL l7 hk;obtain ⟨rfl,-,-⟩:=b9 e7;have bk:(0:Int)≤k∧(k:Int) < p.an.length:=by omega
   have gu:=hr.one;obtain ⟨vp,tc,bc,rfl,bV,jW,fW,bz,gz,ja⟩:=hr;obtain ⟨app,lE,rfl⟩:=a8 fW;(try simp only [go_sem,simprocAttr,bq,br,bk,bQ]);refine di (n:=12) (vs:=.string p.an[k].name :: .slice app p.an[k].params.length lE::(tc++bc)) rfl so gu ?_;intro w8 D8 bh mP;have kp:w8.cell? ⟨w7.heap.size,1,none⟩=some (.slice app p.an[k].params.length lE):=by rw [cell_of D8];rfl
   (try simp only [go_sem,simprocAttr,kp]);refine aK (by rfl) ?_;refine (J8 (ps:=p.an[k].params) (bm.aB bh) (fW.up (aj bh) aM (aU (aj bh)) (fun _ _ h=>h))).mono ?_;rintro _ w9 ⟨⟨M,rfl,rfl,rfl,rfl,oW,lp,lb,ll⟩,aV⟩;have z17:=aL.size;have z8:=bh.size;have z9:=aV.size;have aiG:=bm.lt M.c (bm.bt M.c (by simp));have zm:Mod (· = M.c) w7 w9:=(aj bh).trans aV;have xx:Mod (fun _=>False) w1 w9:=aL.step zm (fun b hb hl=>by have:=mu M.c (by simp);omega);have Re:=aV.at D8 (show ¬ w7.heap.size=M.c by omega);have xv:∀ b,Kn S M b→w1.heap.size≤b:=fun b hb=>by
    rcases hb with h | h | h | h
    ·exact hS b h
    ·omega
    ·omega
    ·omega
   have iG:∀ b,Out S w7 b→¬ Kn S M b:=fun b hb hh=>by
    rcases hh with h | h | h | h
    ·exact hb.2 h
    ·have:=hb.1;omega
    ·have:=hb.1;omega
    ·have:=hb.1;omega
   have parts:∀ {w':World},Mod M.two w9 w'→aX w' (Out (Kn S M) w') tc p.an[k].type∧bH w' (Out (Kn S M) w') bc p.an[k].body:=fun hm=>by
    have h1:Mod (Kn S M) w7 _:=(zm.aT (fun b hb=>by rw [hb];exact .inl (bm.bt _ (by simp)))).trans (hm.aT (oW.two));have ho:∀ b,Out S w7 b→Out (Kn S M) _ b:=fun b hb=>⟨Nat.lt_of_lt_of_le hb.1 h1.size,iG b hb⟩
    exact ⟨bz.up h1 iG ho,gz.up h1 iG ho⟩
   have k5:=gF (off:=5) (n:=7) Re (by simp [Value.cells,bV,jW]);have e5:((Value.string p.an[k].name :: .slice app p.an[k].params.length lE::(tc++bc)).drop 5).take 7=bc:=by
    match tc,bV with
    | [a,b,c],_=>simp [List.take_of_length_le (Nat.le_of_eq jW)]
   rw [e5] at k5;obtain ⟨hG,hB⟩:=Kr tw tQ.symm p.an[k].params
   have dD:nX E2 p.an[k]=(match cj (dX E2 p.an[k].params) p.an[k].body ([],[]) with
    | .error e=>e
    | .ok y=>if fQ y.1 p.an[k].type=true then 0 else 83):=rfl
   have stop:∀ {e:Int},nX E2 p.an[k]=e→e≠0→jG p = .error e:=fun he bw=>by
    have h1:(nX E2 p.an[k] != 0)=true:=by rw [he];simpa using bw
    rw [if_pos h1] at dz;have h2:(jF E2 p.an != 0)=true:=by rw [← dz];exact h1
    rw [hX,if_pos h2,← dz,he]
   (try simp only [go_sem,simprocAttr,k5]);refine aK (by rfl) ?_;refine (ab9 hG hB p.an[k].body (st:=([],[])) oW (fun q h=>by cases h) (parts (Mod.refl _ w9)).2).mono ?_;rintro Rc cV ⟨xb,bE⟩;obtain ⟨cz,u,rfl,bA,bR,cP⟩:=tH xb;have adw:∀ b,M.two b→w1.heap.size≤b:=fun b hb=>xv b (oW.two b hb)
   (try simp only [go_sem,simprocAttr]);refine di (n:=3) (vs:=cz) rfl bA bR ?_;intro gA adx cR uX;have sr:Mod M.two w9 gA:=bE.trans (aj cR);have Rf:Mod (fun _=>False) w1 gA:=xx.step sr (fun b hb hl=>by have:=adw b hb;omega);cases bZ:cj (dX E2 p.an[k].params) p.an[k].body ([],[]) with
   | error e4=>
    rw [bZ] at cP dD;obtain ⟨rfl,y7,_⟩:=cP;have gL:(e4 != 0)=true:=by simpa using y7
    (try simp only [go_sem,simprocAttr,gL,aE,RV.ev,aF]);exact fin Rf y7 (stop dD y7)
   | ok y1=>
    obtain ⟨t1,dA⟩:=y1;rw [bZ] at cP dD;obtain ⟨rfl,Jw,oM⟩:=cP;have JO:=oM.aB cR
    have ady:=sr.at Re (show ¬ M.two w7.heap.size by
     intro h
     rcases h with h | h<;>omega)
    have k2:=gF (off:=2) (n:=3) ady (by simp [Value.cells,bV,jW]);have e2:((Value.string p.an[k].name :: .slice app p.an[k].params.length lE::(tc++bc)).drop 2).take 3=tc:=by
     simp [List.take_append_of_le_length,bV]
    rw [e2] at k2;(try simp only [go_sem,simprocAttr,k2,az (n:=3) adx bA]);refine aK (by rfl) ?_;refine (DA t1 (Jw.aB (aj cR)) (parts sr).1).mono ?_;rintro _ px ⟨rfl,fK⟩;have Rg:=Rf.trans fK;cases bG:fQ t1 p.an[k].type with
    | false=>
     have dD:nX E2 p.an[k]=if fQ t1 p.an[k].type=true then 0 else 83:=dD
     rw [if_neg (by rw [bG];simp)] at dD;(try simp only [go_sem,simprocAttr,aE,RV.ev,aF]);exact fin Rg (by decide) (stop dD (by decide))
    | true=>
     have dD:nX E2 p.an[k]=if fQ t1 p.an[k].type=true then 0 else 83:=dD
     rw [if_pos bG] at dD;rw [if_neg (by rw [dD];simp)] at dz;(try simp only [go_sem,simprocAttr]);exact ⟨hk,Rg,Kn S M,((JO.aB fK).forget).fr E2 rfl rfl rfl,xv,dz⟩
  ·rintro _ w7 ⟨_,aL,⟨S,bm,hS,dz⟩,rfl⟩;rw [List.drop_length,jF] at dz;rw [if_neg (by rw [← dz];simp)] at hX;(try simp only [go_sem,simprocAttr,aE,RV.ev,aF]);rw [hX];exact ⟨⟨c,rfl,md,mc,mf,S,bm,fun b hb=>by have:=hS b hb;omega⟩,ak.trans aL⟩
end
section
open Go Go.W
noncomputable def gB (p:Pg):Int:=match jG p with | .error e=>e | .ok _=>0
theorem Rh (p:Pg) {w:World} {cs:List Value} (h:jr w (Out (fun _=>False) w) cs p) :
   ba Tryz.prog 16 [.agg cs.toArray] w fun r w'=>r=I (gB p)∧Mod (fun _=>False) w w':=by
 have h':=h;obtain ⟨vd,vf,rfl,hd,hf⟩:=h;refine Xw.calls rfl ?_;unfold Hf;(try simp only [go_sem,simprocAttr]);refine bB rfl ?_;intro w1 au ak bP;(try simp only [go_sem,simprocAttr,az (n:=2) au rfl]);refine aK (by rfl) ?_;have ho:∀ b,Out (fun _=>False) w b→Out (fun _=>False) w1 b:=fun b hb=>⟨Nat.lt_of_lt_of_le hb.1 ak.size,hb.2⟩
 refine (ado p (h'.up ak aC ho)).mono ?_;rintro r w2 ⟨hr,ai⟩;have hs:gB p=match jG p with | .error e=>e | .ok _=>0:=rfl
 cases hx:jG p with
 | error e=>
  rw [hx] at hr hs;obtain ⟨rfl,_⟩:=hr;(try simp only [go_sem,simprocAttr,aE,RV.ev,aF]);rw [hs];exact ⟨rfl,ak.trans ai⟩
 | ok E=>
  rw [hx] at hr hs;obtain ⟨c,rfl,_⟩:=hr;(try simp only [go_sem,simprocAttr,aE,RV.ev,aF]);rw [hs];exact ⟨rfl,ak.trans ai⟩
end
section
open Go Go.W
theorem Kt (t:Ty):∀ {w:World} {B:Nat→Prop} {cs:List Value} {left deep:Int},aX w B cs t→ba Tryz.prog 21 [.agg cs.toArray,I left,I deep] w fun r w'=>(∃ n,r=I n)∧Mod (fun _=>False) w w':=by
 induction t using Ty.ind with
 | h t ih=>
 intro w B cs left deep h;obtain ⟨v,rfl,hl⟩:=h.cells;obtain ⟨a,c,rfl⟩:=a8 hl;have hlen:=du hl;refine Xy.calls rfl ?_;unfold Hh;(try simp only [go_sem,simprocAttr]);refine bB rfl ?_;intro w1 au ak bP;(try simp only [go_sem,simprocAttr]);cases h1:decide (deep < 1) with
 | true=>(try simp only [go_sem,simprocAttr,aE,RV.ev,aF]);exact ⟨⟨_,rfl⟩,ak⟩
 | false=>
  (try simp only [go_sem,simprocAttr]);refine fx (fun z ρ w'=>∃ k n,z=t.args.length - k∧k≤t.args.length∧Mod (fun _=>False) w1 w'∧ρ=[(1,I n),(2,I deep),(3,ptr w.heap.size),(7,I k)]) t.args.length ⟨0,_,rfl,by omega,.refl _ _,rfl⟩ ?_;rintro z _ w2 ⟨k,n,rfl,hk,ai,rfl⟩;have aw:=ai.at au _root_.id;have aY:=ak.trans ai;unfold NZ;(try simp only [go_sem,simprocAttr,cell_of aw,Value.cells]);by_cases aP:k < t.args.length
  ·have b1:decide ((k:Int) < t.args.length)=true:=by simpa using aP
   (try simp only [go_sem,simprocAttr,b1]);cases h2:decide (n≥0) with
   | false=>
    (try simp only [go_sem,simprocAttr,aE,RV.ev,aF]);exact ⟨⟨_,rfl⟩,aY⟩
   | true=>
    obtain ⟨ad,c2,r,e,hr,bV,bQ,_⟩:=dL (hl.mod aY aC (fun _ _ h=>h.mod aY aC)) aP;obtain ⟨rfl,-,-⟩:=b9 e;have bk:(0:Int)≤k∧(k:Int) < t.args.length:=by omega
    (try simp only [go_sem,simprocAttr,bq,br,cell_of aw,Value.cells,bk,bQ]);refine aK (by rfl) ?_;refine (ih _ (List.getElem_mem aP) hr).mono ?_;rintro _ w3 ⟨⟨n',rfl⟩,ar⟩;have e1:IntKind.i64.wrap ((k:Int)+1)=((k+1:Nat):Int):=by rw [dk (by omega) (by omega)];omega
    (try simp only [go_sem,simprocAttr,e1]);exact ⟨_,by omega,k+1,n',rfl,aP,ai.trans ar,rfl⟩
  ·have b1:decide ((k:Int) < t.args.length)=false:=by simpa using aP
   (try simp only [go_sem,simprocAttr,b1,aE,RV.ev,aF]);exact ⟨⟨_,rfl⟩,aY⟩
theorem Ri {l:List Ty} {w:World} {B:Nat→Prop} {v:Value} {left deep:Int} (hl:aQ w v 3 B (aX w B) l):ba Tryz.prog 20 [v,I left,I deep] w fun r w'=>(∃ n,r=I n)∧Mod (fun _=>False) w w':=by
 obtain ⟨a,c,rfl⟩:=a8 hl;have hlen:=du hl;refine Xx.calls rfl ?_;unfold Hg;(try simp only [go_sem,simprocAttr]);refine fx (fun z ρ w'=>∃ k n,z=l.length - k∧k≤l.length∧Mod (fun _=>False) w w'∧ρ=[(0,.slice a l.length c),(1,I n),(2,I deep),(7,I k)]) l.length ⟨0,left,rfl,by omega,.refl _ _,rfl⟩ ?_;rintro z _ w2 ⟨k,n,rfl,hk,ai,rfl⟩;unfold NY;(try simp only [go_sem,simprocAttr]);by_cases aP:k < l.length
 ·have b1:decide ((k:Int) < l.length)=true:=by simpa using aP
  (try simp only [go_sem,simprocAttr,b1]);cases h2:decide (n≥0) with
  | false=>
   (try simp only [go_sem,simprocAttr,aE,RV.ev,aF]);exact ⟨⟨_,rfl⟩,ai⟩
  | true=>
   obtain ⟨ad,c2,r,e,hr,bV,bQ,_⟩:=dL (hl.mod ai aC (fun _ _ h=>h.mod ai aC)) aP;obtain ⟨rfl,-,-⟩:=b9 e;have bk:(0:Int)≤k∧(k:Int) < l.length:=by omega
   (try simp only [go_sem,simprocAttr,bq,br,bk,bQ]);refine aK (by rfl) ?_;refine (Kt _ hr).mono ?_;rintro _ w3 ⟨⟨n',rfl⟩,ar⟩;have e1:IntKind.i64.wrap ((k:Int)+1)=((k+1:Nat):Int):=by rw [dk (by omega) (by omega)];omega
   (try simp only [go_sem,simprocAttr,e1]);exact ⟨_,by omega,k+1,n',rfl,aP,ai.trans ar,rfl⟩
 ·have b1:decide ((k:Int) < l.length)=false:=by simpa using aP
  (try simp only [go_sem,simprocAttr,b1,aE,RV.ev,aF]);exact ⟨⟨_,rfl⟩,ai⟩
def Rj (e:Ex):Prop:=∀ {w:World} {B:Nat→Prop} {cs:List Value} {left deep:Int},bH w B cs e→ba Tryz.prog 22 [.agg cs.toArray,I left,I deep] w fun r w'=>(∃ n,r=I n)∧Mod (fun _=>False) w w'
theorem adz {l:List Bd} (ih:∀ b∈l,Rj b.value) {w:World} {B:Nat→Prop} {v:Value} {left deep:Int} (hl:aQ w v 11 B (dP w B) l):ba Tryz.prog 32 [v,I left,I deep] w fun r w'=>(∃ n,r=I n)∧Mod (fun _=>False) w w':=by
 obtain ⟨a,c,rfl⟩:=a8 hl;have hlen:=du hl;refine XN.calls rfl ?_;unfold Hs;(try simp only [go_sem,simprocAttr]);refine fx (fun z ρ w'=>∃ k n,z=l.length - k∧k≤l.length∧Mod (fun _=>False) w w'∧ρ=[(0,.slice a l.length c),(1,I n),(2,I deep),(7,I k)]) l.length ⟨0,left,rfl,by omega,.refl _ _,rfl⟩ ?_;rintro z _ w2 ⟨k,n,rfl,hk,ai,rfl⟩;unfold Ob;(try simp only [go_sem,simprocAttr]);by_cases aP:k < l.length
 ·have b1:decide ((k:Int) < l.length)=true:=by simpa using aP
  (try simp only [go_sem,simprocAttr,b1]);cases h2:decide (n≥0) with
  | false=>
   (try simp only [go_sem,simprocAttr,aE,RV.ev,aF]);exact ⟨⟨_,rfl⟩,ai⟩
  | true=>
   obtain ⟨ad,c2,r,e,hr,D2,bJ⟩:=io (hl.mod ai aC (fun _ _ h=>h.mod ai aC)) aP;obtain ⟨rfl,-,-⟩:=b9 e;obtain ⟨tc,ec,rfl,bz,hex,_⟩:=hr;have EP:=bz.len;have xy:=hex.len;have bk:(0:Int)≤k∧(k:Int) < l.length:=by omega
   have k1:=bJ.ln (o:=1) (n:=3) (by omega);have oQ:((Value.string l[k].name::(tc++ec)).drop 1).take 3=tc:=by simp [List.take_append_of_le_length,EP]
   rw [oQ] at k1;have e1:IntKind.i64.wrap ((k:Int)+1)=((k+1:Nat):Int):=by rw [dk (by omega) (by omega)];omega
   (try simp only [go_sem,simprocAttr,bq,br,bk,k1]);refine aK (by rfl) ?_;refine (Kt _ bz).mono ?_;rintro _ w3 ⟨⟨n',rfl⟩,ar⟩;(try simp only [go_sem,simprocAttr]);cases h3:decide (n'≥0) with
   | false=>
    (try simp only [go_sem,simprocAttr,e1]);exact ⟨_,by omega,k+1,n',rfl,aP,ai.trans ar,rfl⟩
   | true=>
    have zn:=bJ.up ar aC (fun _ h=>h);have k4:=zn.ln (o:=4) (n:=7) (by omega);have e4:((Value.string l[k].name::(tc++ec)).drop 4).take 7=ec:=by
     match tc,EP with
     | [a,b,c],_=>simp [List.take_of_length_le (Nat.le_of_eq xy)]
    rw [e4] at k4;(try simp only [go_sem,simprocAttr,bq,br,bk,k4]);refine aK (by rfl) ?_;refine (ih _ (List.getElem_mem aP) (hex.mod ar aC)).mono ?_;rintro _ w4 ⟨⟨n2,rfl⟩,aA⟩;(try simp only [go_sem,simprocAttr,e1]);exact ⟨_,by omega,k+1,n2,rfl,aP,ai.trans (ar.trans aA),rfl⟩
 ·have b1:decide ((k:Int) < l.length)=false:=by simpa using aP
  (try simp only [go_sem,simprocAttr,b1,aE,RV.ev,aF]);exact ⟨⟨_,rfl⟩,ai⟩
theorem adA (e:Ex):Rj e:=by
 induction e using Ex.ind with
 | h e eZ mj mT=>
 intro w B cs left deep h;obtain ⟨vt,va,vb,vl,rfl,ht,ha,hb,hl⟩:=h.parts;obtain ⟨at',ct,rfl⟩:=a8 ht;obtain ⟨aa,ca,rfl⟩:=a8 ha;obtain ⟨ab,cb,rfl⟩:=a8 hb;obtain ⟨al,cl,rfl⟩:=a8 hl;have aiH:=du ha;have aiI:=du hl;refine Xz.calls rfl ?_;unfold Hi;(try simp only [go_sem,simprocAttr]);refine bB rfl ?_;intro w1 au ak bP;(try simp only [go_sem,simprocAttr]);cases h1:decide (deep < 1) with
 | true=>(try simp only [go_sem,simprocAttr,aE,RV.ev,aF]);exact ⟨⟨_,rfl⟩,ak⟩
 | false=>
  (try simp only [go_sem,simprocAttr,cell_of au,Value.cells]);refine aK (by rfl) ?_;refine (Ri (ht.mod ak aC (fun _ _ h=>h.mod ak aC))).mono ?_;rintro _ w2 ⟨⟨n2,rfl⟩,ai⟩;(try simp only [go_sem,simprocAttr]);refine fx (fun z ρ w'=>∃ k n,z=e.args.length - k∧k≤e.args.length∧Mod (fun _=>False) w1 w'∧ρ=[(1,I n),(2,I deep),(3,ptr w.heap.size),(7,I k)]) e.args.length ⟨0,n2,rfl,by omega,ai,rfl⟩ ?_;rintro z _ w3 ⟨k,n,rfl,hk,ar,rfl⟩;have aO:=ar.at au _root_.id;have bo:=ak.trans ar;unfold N3;(try simp only [go_sem,simprocAttr,cell_of aO,Value.cells]);have rest:∀ (n:Int) (w3:World),Mod (fun _=>False) w1 w3→w3.heap[w.heap.size]? = some (.cells [I e.kind,.string e.name,I e.num,.slice at' e.types.length ct,.slice aa e.args.length ca,.slice ab e.binds.length cb,.slice al e.alts.length cl].toArray 47 (0,0))→True:=fun _ _ _ _=>trivial
  by_cases cX:k < e.args.length∧n≥0
  ·obtain ⟨aP,hn⟩:=cX;have b1:decide ((k:Int) < e.args.length)=true:=by simpa using aP
   have b2:decide (n≥0)=true:=by simpa using hn
   obtain ⟨ad,c2,r,er,hr,bQ⟩:=tz (ha.mod bo aC (fun _ _ h=>h.mod bo aC)) aP;obtain ⟨rfl,-,-⟩:=b9 er;have bk:(0:Int)≤k∧(k:Int) < e.args.length:=by omega
   have e1:IntKind.i64.wrap ((k:Int)+1)=((k+1:Nat):Int):=by rw [dk (by omega) (by omega)];omega
   (try simp only [go_sem,simprocAttr,b1]);(try simp only [go_sem,simprocAttr,b2]);(try simp only [go_sem,simprocAttr,bq,br,cell_of aO,Value.cells,bk,bQ]);refine aK (by rfl) ?_;refine (eZ _ (List.getElem_mem aP) hr).mono ?_;rintro _ w4 ⟨⟨n',rfl⟩,aA⟩;(try simp only [go_sem,simprocAttr,e1]);exact ⟨_,by omega,k+1,n',rfl,aP,ar.trans aA,rfl⟩
  ·have Jb:(decide ((k:Int) < e.args.length)&&decide (n≥0))=false:=by
    cases hA:decide ((k:Int) < e.args.length)<;>cases hB:decide (n≥0)<;>first | rfl | (exact absurd ⟨by simpa using hA,by simpa using hB⟩ cX)
   refine AP (fun ρ w'=>w3=w'∧ρ.get 26=some (.bool false)∧ρ.get 1=some (I n)∧ρ.get 2=some (I deep)∧ρ.get 3=some (ptr w.heap.size)∧ρ.get 7=some (I k)) ?_ ?_
   ·cases b1:decide ((k:Int) < e.args.length) with
    | false=>(try simp only [go_sem,simprocAttr])
    | true=>
     rw [b1,Bool.true_and] at Jb;(try simp only [go_sem,simprocAttr,Jb])
   rintro ρ _ ⟨rfl,zi,g1,g2,g3,g7⟩;(try simp only [go_sem,simprocAttr,zi,g1,g2,g3,g7,cell_of aO,Value.cells]);refine aK (by rfl) ?_;refine (adz (fun b hb=>mj b hb) (hb.mod bo aC (fun _ _ h=>h.mod bo aC))).mono ?_;rintro _ w5 ⟨⟨n5,rfl⟩,aD⟩;(try simp only [go_sem,simprocAttr]);refine fx (fun z ρ w'=>∃ k n,z=e.alts.length - k∧k≤e.alts.length∧Mod (fun _=>False) w1 w'∧ρ=[(1,I n),(2,I deep),(3,ptr w.heap.size),(8,I k)]) e.alts.length ⟨0,n5,rfl,by omega,ar.trans aD,rfl⟩ ?_;rintro z _ w6 ⟨k,n,rfl,hk,aJ,rfl⟩;have bU:=aJ.at au _root_.id;have kB:=ak.trans aJ;unfold N4;(try simp only [go_sem,simprocAttr,cell_of bU,Value.cells]);by_cases aP:k < e.alts.length
   ·have b1:decide ((k:Int) < e.alts.length)=true:=by simpa using aP
    (try simp only [go_sem,simprocAttr,b1]);cases h2:decide (n≥0) with
    | false=>
     (try simp only [go_sem,simprocAttr,aE,RV.ev,aF]);exact ⟨⟨_,rfl⟩,kB⟩
    | true=>
     obtain ⟨ad,c2,r,er,hr,D2,bJ⟩:=io (hl.mod kB aC (fun _ _ h=>h.mod kB aC)) aP;obtain ⟨rfl,-,-⟩:=b9 er;obtain ⟨vv,ec,rfl,lD,hex⟩:=hr;have xy:=hex.len;have bk:(0:Int)≤k∧(k:Int) < e.alts.length:=by omega
     have k4:=bJ.ln (o:=4) (n:=7) (by omega);have e4:((I e.alts[k].kind :: .string e.alts[k].bg::I e.alts[k].num::vv::ec).drop 4).take 7=ec:=by
      simp [List.take_of_length_le (Nat.le_of_eq xy)]
     rw [e4] at k4;have e1:IntKind.i64.wrap ((k:Int)+1)=((k+1:Nat):Int):=by rw [dk (by omega) (by omega)];omega
     (try simp only [go_sem,simprocAttr,bq,br,cell_of bU,Value.cells,bk,k4]);refine aK (by rfl) ?_;refine (mT _ (List.getElem_mem aP) hex).mono ?_;rintro _ w7 ⟨⟨n7,rfl⟩,aL⟩;(try simp only [go_sem,simprocAttr,e1]);exact ⟨_,by omega,k+1,n7,rfl,aP,aJ.trans aL,rfl⟩
   ·have b1:decide ((k:Int) < e.alts.length)=false:=by simpa using aP
    (try simp only [go_sem,simprocAttr,b1,aE,RV.ev,aF]);exact ⟨⟨_,rfl⟩,kB⟩
theorem adB (p:Pg) {w:World} {B:Nat→Prop} {cs:List Value} (h:jr w B cs p):ba Tryz.prog 7 [.agg cs.toArray] w fun r w'=>(∃ b,r = .bool b)∧Mod (fun _=>False) w w':=by
 obtain ⟨vd,vf,rfl,hd,hf⟩:=h;obtain ⟨ad,cd,rfl⟩:=a8 hd;obtain ⟨af,cf,rfl⟩:=a8 hf;have Rk:=du hd;have j6:=du hf;refine Xn.calls rfl ?_;unfold G7;(try simp only [go_sem,simprocAttr]);refine bB rfl ?_;intro w1 au ak bP;(try simp only [go_sem,simprocAttr]);refine fx (fun z ρ w'=>∃ k n,z=p.aG.length - k∧k≤p.aG.length∧Mod (fun _=>False) w1 w'∧ρ=[(1,ptr w.heap.size),(3,I n),(4,I k)]) p.aG.length ⟨0,_,rfl,by omega,.refl _ _,rfl⟩ ?_;rintro z _ w2 ⟨k,n,rfl,hk,ai,rfl⟩;have aw:=ai.at au _root_.id;have aY:=ak.trans ai;unfold NQ;(try simp only [go_sem,simprocAttr,cell_of aw,Value.cells]);by_cases aP:k < p.aG.length
 ·have b1:decide ((k:Int) < p.aG.length)=true:=by simpa using aP
  (try simp only [go_sem,simprocAttr,b1]);obtain ⟨tK,c2,r,er,hr,bV,bJ⟩:=io (hd.mod aY aC (fun _ _ h=>h.mod aY aC)) aP;obtain ⟨rfl,-,-⟩:=b9 er;obtain ⟨vp,vc,rfl,hp,hc⟩:=hr;obtain ⟨ac,cc,rfl⟩:=a8 hc;have pt:=du hc;have bk:(0:Int)≤k∧(k:Int) < p.aG.length:=by omega
  refine fx (fun z ρ w'=>∃ j n,z=p.aG[k].cons.length - j∧j≤p.aG[k].cons.length∧Mod (fun _=>False) w2 w'∧ρ=[(1,ptr w.heap.size),(3,I n),(4,I k),(5,I j)]) p.aG[k].cons.length ⟨0,n,rfl,by omega,.refl _ _,rfl⟩ ?_;rintro z _ w3 ⟨j,n3,rfl,hj,ar,rfl⟩;have aO:=ar.at aw _root_.id;have k2:=(bJ.up ar aC (fun _ h=>h)).at (k:=2) (by simp);have k2:w3.cell? ⟨(tK.add (k*3)).block,(tK.add (k*3)).off+2,none⟩=some (.slice ac p.aG[k].cons.length cc):=k2;unfold NP;(try simp only [go_sem,simprocAttr,bq,br,cell_of aO,Value.cells,bk,k2]);by_cases EQ:j < p.aG[k].cons.length
  ·have b2:decide ((j:Int) < p.aG[k].cons.length)=true:=by simpa using EQ
   obtain ⟨Rl,c4,r4,e4,mo,hl4,adC⟩:=io (hc.mod ar aC (fun _ _ h=>h.mod ar aC)) EQ;obtain ⟨rfl,-,-⟩:=b9 e4;obtain ⟨vfl,rfl,iX,_⟩:=mo;have Ku:=adC.at (k:=1) (by simp);have Ku:w3.cell? ⟨(Rl.add (j*2)).block,(Rl.add (j*2)).off+1,none⟩=some vfl:=Ku;have bj:(0:Int)≤j∧(j:Int) < p.aG[k].cons.length:=by omega
   have e1:IntKind.i64.wrap ((j:Int)+1)=((j+1:Nat):Int):=by rw [dk (by omega) (by omega)];omega
   (try simp only [go_sem,simprocAttr,b2]);(try simp only [go_sem,simprocAttr,bq,br,cell_of aO,Value.cells,bk,k2,bj,Ku]);refine aK (by rfl) ?_;refine (Ri iX).mono ?_;rintro _ w5 ⟨⟨n5,rfl⟩,aD⟩;(try simp only [go_sem,simprocAttr]);cases h5:decide (n5 < 0) with
   | true=>
    (try simp only [go_sem,simprocAttr,aE,RV.ev,aF]);exact ⟨⟨_,rfl⟩,aY.trans (ar.trans aD)⟩
   | false=>
    (try simp only [go_sem,simprocAttr,e1]);exact ⟨_,by omega,j+1,n5,rfl,EQ,ar.trans aD,rfl⟩
  ·have b2:decide ((j:Int) < p.aG[k].cons.length)=false:=by simpa using EQ
   have e1:IntKind.i64.wrap ((k:Int)+1)=((k+1:Nat):Int):=by rw [dk (by omega) (by omega)];omega
   (try simp only [go_sem,simprocAttr,b2]);(try simp only [go_sem,simprocAttr,e1]);exact ⟨_,by omega,k+1,n3,rfl,aP,ai.trans ar,rfl⟩
 ·have b1:decide ((k:Int) < p.aG.length)=false:=by simpa using aP
  (try simp only [go_sem,simprocAttr,b1]);refine fx (fun z ρ w'=>∃ k n,z=p.an.length - k∧k≤p.an.length∧Mod (fun _=>False) w1 w'∧ρ=[(1,ptr w.heap.size),(3,I n),(6,I k)]) p.an.length ⟨0,n,rfl,by omega,ai,rfl⟩ ?_;rintro z _ w3 ⟨k,n,rfl,hk,ar,rfl⟩;have aO:=ar.at au _root_.id;have bo:=ak.trans ar;unfold NR;(try simp only [go_sem,simprocAttr,cell_of aO,Value.cells]);by_cases aP:k < p.an.length
  ·have b1:decide ((k:Int) < p.an.length)=true:=by simpa using aP
   (try simp only [go_sem,simprocAttr,b1]);cases h2:decide (n≥0) with
   | false=>
    (try simp only [go_sem,simprocAttr,aE,RV.ev,aF]);exact ⟨⟨_,rfl⟩,bo⟩
   | true=>
    obtain ⟨tK,c2,r,er,hr,so,bJ⟩:=io (hf.mod bo aC (fun _ _ h=>h.mod bo aC)) aP;obtain ⟨rfl,-,-⟩:=b9 er;obtain ⟨vp,tc,bc,rfl,bV,jW,fW,bz,gz,_⟩:=hr;have bk:(0:Int)≤k∧(k:Int) < p.an.length:=by omega
    have k2:=bJ.ln (o:=2) (n:=3) (by omega);have e2:((Value.string p.an[k].name::vp::(tc++bc)).drop 2).take 3=tc:=by simp [List.take_append_of_le_length,bV]
    rw [e2] at k2;have e1:IntKind.i64.wrap ((k:Int)+1)=((k+1:Nat):Int):=by rw [dk (by omega) (by omega)];omega
    (try simp only [go_sem,simprocAttr,bq,br,cell_of aO,Value.cells,bk,k2]);refine aK (by rfl) ?_;refine (Kt _ bz).mono ?_;rintro _ w4 ⟨⟨n4,rfl⟩,aA⟩;(try simp only [go_sem,simprocAttr]);cases h4:decide (n4≥0) with
    | false=>
     (try simp only [go_sem,simprocAttr,e1]);exact ⟨_,by omega,k+1,n4,rfl,aP,ar.trans aA,rfl⟩
    | true=>
     have aZ:=aA.at aO _root_.id;have k5:=(bJ.up aA aC (fun _ h=>h)).ln (o:=5) (n:=7) (by omega);have e5:((Value.string p.an[k].name::vp::(tc++bc)).drop 5).take 7=bc:=by
      match tc,bV with
      | [a,b,c],_=>simp [List.take_of_length_le (Nat.le_of_eq jW)]
     rw [e5] at k5;(try simp only [go_sem,simprocAttr,bq,br,cell_of aZ,Value.cells,bk,k5]);refine aK (by rfl) ?_;refine (adA _ (gz.mod aA aC)).mono ?_;rintro _ w5 ⟨⟨n5,rfl⟩,aD⟩;(try simp only [go_sem,simprocAttr,e1]);exact ⟨_,by omega,k+1,n5,rfl,aP,ar.trans (aA.trans aD),rfl⟩
  ·have b1:decide ((k:Int) < p.an.length)=false:=by simpa using aP
   (try simp only [go_sem,simprocAttr,b1,aE,RV.ev,aF]);exact ⟨⟨_,rfl⟩,bo⟩
end
section
open Go Go.W
section
variable {P:Program} {w:World} {ρ:Go.W.Env} {K:Value→World→Prop} {x:Operand} {xT tt T:TypeId} {v z u r:Value} {dst:Option Nat} {ty:TypeId} {pos:String} {af:Array Edge}
theorem BR (hx:(bn x).ev ρ=some u) (h:(Instr.typeAssert u xT tt true).run P w = .ok r w) (hk:K r w):Go.W.E.wp P w ρ K (.raw ⟨dst,.typeAssert x xT tt true,ty,pos,af,none⟩):=by
 refine kj fun act ha=>⟨_,w,?_,hk⟩
 simp only [execOp,ha x _ hx,Sem.run_bind,h,Result.andThen_ok,Sem.run_pure]
theorem BS {t:TypeId} {D:TypeDesc} (h:P.underlying t=some D):(underlying t).run P w = .ok D w:=kQ (by rw [gE,h])
theorem Rm {t:TypeId} {i:TypeInfo} (h:P.info? t=some i):(typeInfo t).run P w = .ok i w:=kQ (by rw [F1,h])
def isIface:TypeDesc→Bool
 | .interface _=>true
 | _=>false
theorem jH {D:TypeDesc} (hx:(bn x).ev ρ=some (.iface T v)) (hu:P.underlying tt=some D) (hD:isIface D=false) (hz:(zeroValue tt).run P w = .ok z w) (h1:T=tt→K (.tuple #[v,.bool true]) w) (h2:T≠tt→K (.tuple #[z,.bool false]) w) :
   Go.W.E.wp P w ρ K (.raw ⟨dst,.typeAssert x xT tt true,ty,pos,af,none⟩):=by
 by_cases ht:T=tt
 ·refine BR hx ?_ (h1 ht);simp only [Instr.typeAssert,Sem.run_bind,BS hu,Result.andThen_ok];cases D<;>first | (simp [isIface] at hD;done) | (simp [ht];done)
 ·refine BR hx ?_ (h2 ht);simp only [Instr.typeAssert,Sem.run_bind,BS hu,Result.andThen_ok];cases D<;>first | (simp [isIface] at hD;done) | (simp [ht,hz,Sem.run_bind,Result.andThen_ok];done)
theorem Kv {want:Array (String×TypeId)} {ti:TypeInfo} {b:Bool} (hx:(bn x).ev ρ=some (.iface T v)) (hu:P.underlying tt=some (.interface want)) (hi:P.info? T=some ti) (hb:(Instr.missingMethod want ti.methods).isNone=b) (hz:(zeroValue tt).run P w = .ok z w)
   (h1:b=true→K (.tuple #[.iface T v,.bool true]) w) (h2:b=false→K (.tuple #[z,.bool false]) w) :
   Go.W.E.wp P w ρ K (.raw ⟨dst,.typeAssert x xT tt true,ty,pos,af,none⟩):=by
 cases hm:Instr.missingMethod want ti.methods with
 | none=>
  rw [hm] at hb;refine BR hx ?_ (h1 hb.symm);simp [Instr.typeAssert,Sem.run_bind,BS hu,Rm hi,Result.andThen_ok,hm]
 | some m=>
  rw [hm] at hb;refine BR hx ?_ (h2 hb.symm);simp [Instr.typeAssert,Sem.run_bind,BS hu,Rm hi,Result.andThen_ok,hm,hz]
theorem Ro {D:TypeDesc} (hx:(bn x).ev ρ=some .nilIface) (hu:P.underlying tt=some D) (hz:(zeroValue tt).run P w = .ok z w) (hk:K (.tuple #[z,.bool false]) w) :
   Go.W.E.wp P w ρ K (.raw ⟨dst,.typeAssert x xT tt true,ty,pos,af,none⟩):=by
 refine BR hx ?_ hk;simp only [Instr.typeAssert,Sem.run_bind,BS hu,Result.andThen_ok];cases D<;>simp [hz,Sem.run_bind,Result.andThen_ok]
end
theorem Rq {want:Array (String×TypeId)} {ER:Array Method} (h:(want.toList.filter fun x=>!ER.any fun m=>m.name == x.1&&m.sig == x.2).isEmpty=false):(Instr.missingMethod want ER).isNone=false:=by
 unfold Instr.missingMethod;generalize hl:((want.toList.filter fun (name,sig)=>!ER.any fun m=>m.name == name&&m.sig == sig).map (·.1))=l;have yG:l≠[]:=fun e=>by
  subst hl;have e2:=List.map_eq_nil_iff.1 e;have e3:(want.toList.filter fun x=>!ER.any fun m=>m.name == x.1&&m.sig == x.2)=[]:=e2;rw [e3] at h;cases h
 simp only [List.partition_eq_filter_filter];cases h1:l.filter (fun x=>x.contains '.') with
 | nil=>
  cases h2:l.filter (not ∘ fun x=>x.contains '.') with
  | nil=>
   exfalso;cases l with
   | nil=>exact yG rfl
   | cons a l=>
    have m1:a∉(a::l).filter (fun x=>x.contains '.'):=by rw [h1];simp
    have m2:a∉(a::l).filter (not ∘ fun x=>x.contains '.'):=by rw [h2];simp
    simp only [List.mem_filter,List.mem_cons,true_or,true_and,Function.comp] at m1 m2;cases hc:a.contains '.'<;>simp [hc] at m1 m2
  | cons b m=>simp [Instr.least]
 | cons b m=>
  cases h2:l.filter (not ∘ fun x=>x.contains '.') with
  | nil=>simp [Instr.least]
  | cons c n=>simp [Instr.least]
theorem adD:∃ want ti,Tryz.prog.underlying 77=some (.interface want)∧Tryz.prog.info? 115=some ti∧(Instr.missingMethod want ti.methods).isNone=true:=⟨_,_,rfl,rfl,by kernel_rfl⟩
theorem adE:∃ want ti,Tryz.prog.underlying 77=some (.interface want)∧Tryz.prog.info? 111=some ti∧(Instr.missingMethod want ti.methods).isNone=true:=⟨_,_,rfl,rfl,by kernel_rfl⟩
theorem adF:∃ want ti,Tryz.prog.underlying 77=some (.interface want)∧Tryz.prog.info? 138=some ti∧(Instr.missingMethod want ti.methods).isNone=true:=⟨_,_,rfl,rfl,by kernel_rfl⟩
theorem adG:∃ want ti,Tryz.prog.underlying 77=some (.interface want)∧Tryz.prog.info? 142=some ti∧(Instr.missingMethod want ti.methods).isNone=true:=⟨_,_,rfl,rfl,by kernel_rfl⟩
theorem Rs:∃ want ti,Tryz.prog.underlying 77=some (.interface want)∧Tryz.prog.info? 105=some ti∧(Instr.missingMethod want ti.methods).isNone=false:=⟨_,_,rfl,rfl,Rq (by kernel_rfl)⟩
theorem adH:∃ want ti,Tryz.prog.underlying 77=some (.interface want)∧Tryz.prog.info? 167=some ti∧(Instr.missingMethod want ti.methods).isNone=false:=⟨_,_,rfl,rfl,Rq (by kernel_rfl)⟩
end
section
open Go Go.W
abbrev cN:=List (ByteArray×Nat)
inductive Cl where
 | num (n:Int) | bg (n:ByteArray) (fs:List Nat) | gi (e:Ex) (v:cN) | fr (n:ByteArray) (mw:Int) (hv:List Nat)
 | wait (e:Ex) (v:cN) | busy | emp
def Cl.iC:Cl→Bool
 | .num _=>true | .bg _ _=>true | .gi _ _=>true | .fr _ _ _=>true | _=>false
inductive Fm where
 | gd (c:Nat) | app (e:Ex) (v:cN) | nf (e:Ex) (v:cN) | fst (e:Ex) (v:cN) | snd (e:Ex) (n:Int) | seq (e:Ex) (v:cN) | nh (e:Ex) (v:cN)
structure Rn where
 cells:List Cl
 a7:List Fm
 told:List (ByteArray×Int)
 steps:Int
 kind:Int
 stuck:Int
structure Cx where
 fuel:Int
 an:List (ByteArray×Nat)
 fields:List (ByteArray×Int)
 aB:List (Nat×Obj):=[]
inductive Md where
 | go (e:Ex) (v:cN) | val (c:Cl)
abbrev R3:=Option Md×Rn
def Rn.put (m:Rn) (c:Nat) (x:Cl):Rn:={ m with cells:=m.cells.set c x}
def Rn.new (m:Rn) (x:Cl):Rn:={ m with cells:=m.cells++[x]}
def Rn.push (m:Rn) (f:Fm):Rn:={ m with a7:=m.a7++[f]}
def Rn.stop (m:Rn) (xz:Int):Rn:={ m with kind:=3,stuck:=xz}
def fA (X:Cx) (m:Rn):Bool×Rn:=if m.steps=X.fuel then (false,{ m with kind:=4}) else (true,{ m with steps:=m.steps+1})
def vx (v:cN) (n:ByteArray):Option Nat:=aI v n
def ft (m:Rn) (c:Nat):R3:=match m.cells[c]? with
 | some (.wait e v)=>(some (.go e v),(m.put c .busy).push (.gd c))
 | some (.num n)=>(some (.val (.num n)),m)
 | some (.bg n fs)=>(some (.val (.bg n fs)),m)
 | some (.gi e v)=>(some (.val (.gi e v)),m)
 | some (.fr n l h)=>(some (.val (.fr n l h)),m)
 | _=>(none,m.stop 4)
def lJ (n:ByteArray) (mw:Int) (hv:List Nat):Cl:=if mw=0 then .bg n hv else .fr n mw hv
def jI:List Bd→Nat→cN→cN
 | [],_,v=>v
 | b::l,i,v=>jI l (i+1) ((b.name,i)::v)
def lK (X:Cx) (e:Ex) (v:cN) (m:Rn):Option R3:=
 if e.kind=1 then (vx v e.name).map (ft m)
 else if e.kind=3 then (aI X.an e.name).map (ft m)
 else if e.kind=2 then some (some (.val (.num e.num)),m)
 else if e.kind=4 then some (some (.val (lJ e.name ((aI X.fields e.name).getD 0) [])),m)
 else if e.kind=6 then some (some (.val (.gi e v)),m)
 else if e.kind=12 then some (none,m.stop e.num)
 else if e.kind=7 then (match e.args with
  | []=>none
  | x::_=>some (some (.go x (jI e.binds m.cells.length v)),{ m with cells:=m.cells++e.binds.map (fun b=>Cl.wait b.value (jI e.binds m.cells.length v))}))
 else if e.kind=11 then (match e.binds with
  | []=>none
  | b::_=>some (some (.go b.value v),m.push (.nh e v)))
 else match e.args with
  | []=>none
  | x::_=>some (some (.go x v),if e.kind=5 then m.push (.app e v) else if e.kind=8 then m.push (.nf e v) else if e.kind=9 then m.push (.fst e v) else if e.kind=10 then m.push (.seq e v) else m)
def numOf:Cl→Int
 | .num n=>n
 | _=>0
def iQ:Cl→Option (ByteArray×List Nat)
 | .bg n fs=>some (n,fs)
 | _=>none
def tR (n:Int):Int:=(IntKind.i64.wrap (n*2)).fdiv 2
abbrev tS:ByteArray:=⟨#[84,114,117,101]⟩
abbrev tT:ByteArray:=⟨#[70,97,108,115,101]⟩
def zo (n:ByteArray) (a b:Int):Bool:=
 if aR n ⟨#[61,61]⟩ then a == b
 else if aR n ⟨#[47,61]⟩ then a != b
 else if aR n ⟨#[60]⟩ then decide (a < b)
 else if aR n ⟨#[60,61]⟩ then decide (a≤b)
 else if aR n ⟨#[62]⟩ then decide (a > b)
 else if aR n ⟨#[62,61]⟩ then decide (a≥b)
 else false
def nZ (n:ByteArray) (a b:Int):Option Cl:=
 if aR n ⟨#[43]⟩ then some (.num (tR (Wr (a+b))))
 else if aR n ⟨#[45]⟩ then some (.num (tR (Wr (a - b))))
 else if aR n ⟨#[42]⟩ then some (.num (tR (Wr (a*b))))
 else if aR n ⟨#[47]⟩||aR n ⟨#[37]⟩ then (if b=0 then none else if aR n ⟨#[47]⟩ then some (.num (tR (Wr (a.tdiv b)))) else some (.num (a.tmod b)))
 else some (.bg (if zo n a b then tS else tT) [])
def j8 (m:Rn) (f:Cl) (c:Nat):Option R3:=match f with
 | .gi e v=>(match e.args,e.binds with
  | x::_,b::_=>some (some (.go x ((b.name,c)::v)),m)
  | _,_=>none)
 | .fr n l h=>if h.length < 1099511627776 then some (some (.val (lJ n (Wr (l - 1)) (h++[c]))),m) else none
 | _=>some (none,m.stop 5)
def jJ:List ByteArray→List Nat→cN→Option cN
 | [],_,v=>some v
 | s::l,c::cs,v=>jJ l cs ((s,c)::v)
 | _::_,[],_=>none
def eu (m:Rn) (v:cN) (x:Cl):List Al→Option R3
 | []=>some (none,m.stop 2)
 | a::l=>
  if (a.kind == 3||(a.kind == 2&&(iQ x).isNone&&a.num == numOf x))=true then some (some (.go a.body v),m)
  else match iQ x with
   | some k=>if (a.kind == 1&&aR a.bg k.1)=true then (jJ a.vars k.2 v).map (fun v'=>(some (.go a.body v'),m)) else eu m v x l
   | none=>eu m v x l
def gO (f:Fm) (x:Cl) (m:Rn):Option R3:=match f with
 | .gd c=>some (some (.val x),m.put c x)
 | .app e v=>(match e.args with
  | _::y::_=>j8 (m.new (.wait y v)) x m.cells.length
  | _=>none)
 | .nf e v=>eu m v x e.alts
 | .fst e v=>(match e.args with
  | _::y::_=>some (some (.go y v),m.push (.snd e (numOf x)))
  | _=>none)
 | .snd e n=>(match nZ e.name n (numOf x) with
  | some y=>some (some (.val y),m)
  | none=>some (none,m.stop 3))
 | .seq e v=>(match e.args with
  | _::y::_=>some (some (.go y v),m)
  | _=>none)
 | .nh e v=>(match e.args,e.binds with
  | y::_,b::_=>some (some (.go y ((b.name,m.cells.length)::v)),m.new x)
  | _,_=>none)
def dB (X:Cx):Nat→Md→Rn→Option (Option Cl×Rn)
 | 0,_,_=>none
 | n+1,.go e v,m=>
  if (fA X m).1=false then some (none,(fA X m).2)
  else match lK X e v (fA X m).2 with
   | none=>none
   | some (none,m')=>some (none,m')
   | some (some md,m')=>dB X n md m'
 | n+1,.val x,m=>match m.a7.getLast? with
  | none=>some (some x,m)
  | some f=>match gO f x { m with a7:=m.a7.dropLast} with
   | none=>none
   | some (none,m')=>some (none,m')
   | some (some md,m')=>dB X n md m'
def j9 (X:Cx) (n:Nat) (c:Nat) (m:Rn):Option (Option Cl×Rn):=match ft m c with
 | (none,m')=>some (none,m')
 | (some (.val x),m')=>some (some x,m')
 | (some (.go e v),m')=>dB X n (.go e v) m'
def oX (X:Cx) (n:Nat) (f:Cl) (c:Nat) (m:Rn):Option (Option Cl×Rn):=match j8 m f c with
 | none=>none
 | some (none,m')=>some (none,m')
 | some (some (.val x),m')=>some (some x,m')
 | some (some (.go e v),m')=>dB X n (.go e v) m'
def lL:Cl→List (ByteArray×Int)
 | .num k=>[(bD,k)]
 | .bg k _=>[(k,0)]
 | _=>[]
def fieldsOf:Cl→List Nat
 | .bg _ fs=>fs
 | _=>[]
def iq (X:Cx):Nat→Cl→List Nat→Rn→Option Rn
 | 0,_,_,_=>none
 | n+1,x,waiting,m=>
  if (fA X m).1=false then some (fA X m).2
  else
   let m2:Rn:={ (fA X m).2 with told:=(fA X m).2.told++lL x}
   let ws:=waiting++(fieldsOf x).reverse
   if 16777216 < ws.length then none else
   match ws.getLast? with
   | none=>some { m2 with kind:=2}
   | some c=>match j9 X n c m2 with
    | none=>none
    | some (none,m3)=>some m3
    | some (some y,m3)=>iq X n y ws.dropLast m3
def dN:List Int→List Cl→Cl×List Cl
 | [],cs=>(.bg ⟨#[78,105,108]⟩ [],cs)
 | n::l,cs=>let r:=dN l cs;(.bg ⟨#[67,111,110,115]⟩ [r.2.length,r.2.length+1],r.2++[.num n,r.1])
end
section
open Go Go.W
def my (w:World) (B:Nat→Prop) (v:Value) (e:Ex):Prop:=∃ a cs,v = .pointer (some a)∧fT w B a cs∧bH w B cs e
def Pl (w:World) (b:Nat):Prop:=∃ cs T,w.heap[b]? = some (.cells cs T (0,0))
def su (w:World) (B:Nat→Prop) (a:Addr) (cs:List Value):Prop:=fT w B a cs∧Pl w a.block
section
variable {w w':World} {B B' S:Nat→Prop} {a:Addr} {cs:List Value}
theorem su.up (h:su w B a cs) (hm:Mod S w w') (hd:∀ b,B b→¬ S b) (hB:∀ b,B b→B' b):su w' B' a cs:=by
 refine ⟨h.1.up hm hd hB,?_⟩;obtain ⟨h1,ds,T,h2⟩:=h;exact ⟨ds,T,hm.at h2 (hd _ h1.1)⟩
theorem su.c0 (h:su w B a cs) (hk:0 < cs.length):w.cell? a=some cs[0]:=h.1.c0 hk
theorem su.at (h:su w B a cs) {k:Nat} (hk:k < cs.length) (h0:k≠0:=by decide):w.cell? ⟨a.block,a.off+k,none⟩=some cs[k]:=h.1.at hk h0
end
def gC (w:World) (B:Nat→Prop) (bs:List Nat):cN→Value→Prop
 | [],v=>v = .pointer none
 | (n,c)::l,v=>∃ a b nx,v = .pointer (some a)∧bs[c]? = some b∧su w B a [.string n,ptr b,nx]∧gC w B bs l nx
def adI (bs:List Nat) (r:List Value) (c:Nat):Prop:=∃ b,r=[ptr b]∧bs[c]? = some b
def tU (w:World) (B:Nat→Prop) (bs:List Nat) (fs:List Nat) (v:Value):Prop:=aQ w v 1 B (adI bs) fs
def iu (w:World) (B:Nat→Prop) (bs:List Nat):Cl→Value→Prop
 | .num n,v=>v = .iface 115 (I n)
 | .bg n fs,v=>∃ a vs,v = .iface 111 (.pointer (some a))∧fT w B a [.string n,vs]∧tU w B bs fs vs
 | .gi e nm,v=>∃ a ve vn,v = .iface 138 (.pointer (some a))∧fT w B a [ve,vn]∧my w B ve e∧gC w B bs nm vn
 | .fr n l fs,v=>∃ a vs,v = .iface 142 (.pointer (some a))∧fT w B a [.string n,I l,vs]∧tU w B bs fs vs
 | .wait e nm,v=>∃ a ve vn,v = .iface 105 (.pointer (some a))∧fT w B a [ve,vn]∧my w B ve e∧gC w B bs nm vn
 | .busy,v=>v = .iface 167 (.agg #[])
 | .emp,v=>v = .nilIface
def mz (w:World) (B:Nat→Prop) (bs:List Nat) (k:Int) (e:Ex) (nm:cN) (r:List Value):Prop:=∃ ve vn,r=[I k,.pointer none,ve,vn,I 0]∧my w B ve e∧gC w B bs nm vn
def mA (w:World) (B:Nat→Prop) (bs:List Nat) (r:List Value):Fm→Prop
 | .gd c=>∃ b,r=[I 0,ptr b,.pointer none,.pointer none,I 0]∧bs[c]? = some b
 | .app e nm=>mz w B bs 1 e nm r
 | .nf e nm=>mz w B bs 2 e nm r
 | .fst e nm=>mz w B bs 3 e nm r
 | .snd e n=>∃ ve,r=[I 4,.pointer none,ve,.pointer none,I n]∧my w B ve e
 | .seq e nm=>mz w B bs 5 e nm r
 | .nh e nm=>mz w B bs 6 e nm r
def Kw (r:List Value) (x:ByteArray×Int):Prop:=r=[.string x.1,I x.2]
section
variable {w w':World} {B B' S:Nat→Prop} {bs cM:List Nat}
theorem my.up {v:Value} {e:Ex} (h:my w B v e) (hm:Mod S w w') (hd:∀ b,B b→¬ S b) (hB:∀ b,B b→B' b):my w' B' v e:=by
 obtain ⟨a,cs,e,h1,h2⟩:=h;exact ⟨a,cs,e,h1.up hm hd hB,h2.up hm hd hB⟩
theorem gC.up:∀ {nm:cN} {v:Value},gC w B bs nm v→Mod S w w'→(∀ b,B b→¬ S b)→(∀ b,B b→B' b)→(∀ (c b:Nat),bs[c]? = some b→cM[c]? = some b)→gC w' B' cM nm v
 | [],v,h,_,_,_,_=>h
 | (n,c)::l,v,h,hm,hd,hB,hb=>by
  obtain ⟨a,b,nx,e,h1,h2,h3⟩:=h;exact ⟨a,b,nx,e,hb _ _ h1,h2.up hm hd hB,gC.up h3 hm hd hB hb⟩
theorem tU.up {fs:List Nat} {v:Value} (h:tU w B bs fs v) (hm:Mod S w w') (hd:∀ b,B b→¬ S b) (hB:∀ b,B b→B' b) (hb:∀ (c b:Nat),bs[c]? = some b→cM[c]? = some b):tU w' B' cM fs v:=
 aQ.up h hm hd hB (fun r c h=>by obtain ⟨b,e,h⟩:=h;exact ⟨b,e,hb _ _ h⟩)
theorem iu.up {x:Cl} {v:Value} (h:iu w B bs x v) (hm:Mod S w w') (hd:∀ b,B b→¬ S b) (hB:∀ b,B b→B' b) (hb:∀ (c b:Nat),bs[c]? = some b→cM[c]? = some b):iu w' B' cM x v:=by
 cases x with
 | num n=>exact h
 | bg n fs=>obtain ⟨a,vs,e,h1,h2⟩:=h;exact ⟨a,vs,e,h1.up hm hd hB,h2.up hm hd hB hb⟩
 | gi e nm=>obtain ⟨a,ve,vn,e,h1,h2,h3⟩:=h;exact ⟨a,ve,vn,e,h1.up hm hd hB,h2.up hm hd hB,h3.up hm hd hB hb⟩
 | fr n l fs=>obtain ⟨a,vs,e,h1,h2⟩:=h;exact ⟨a,vs,e,h1.up hm hd hB,h2.up hm hd hB hb⟩
 | wait e nm=>obtain ⟨a,ve,vn,e,h1,h2,h3⟩:=h;exact ⟨a,ve,vn,e,h1.up hm hd hB,h2.up hm hd hB,h3.up hm hd hB hb⟩
 | busy=>exact h
 | emp=>exact h
theorem mz.up {k:Int} {e:Ex} {nm:cN} {r:List Value} (h:mz w B bs k e nm r) (hm:Mod S w w') (hd:∀ b,B b→¬ S b) (hB:∀ b,B b→B' b) (hb:∀ (c b:Nat),bs[c]? = some b→cM[c]? = some b):mz w' B' cM k e nm r:=by
 obtain ⟨ve,vn,e,h1,h2⟩:=h;exact ⟨ve,vn,e,h1.up hm hd hB,h2.up hm hd hB hb⟩
theorem mA.up {f:Fm} {r:List Value} (h:mA w B bs r f) (hm:Mod S w w') (hd:∀ b,B b→¬ S b) (hB:∀ b,B b→B' b) (hb:∀ (c b:Nat),bs[c]? = some b→cM[c]? = some b):mA w' B' cM r f:=by
 cases f with
 | gd c=>obtain ⟨b,e,h⟩:=h;exact ⟨b,e,hb _ _ h⟩
 | snd e n=>obtain ⟨ve,e,h⟩:=h;exact ⟨ve,e,h.up hm hd hB⟩
 | app e nm=>exact mz.up h hm hd hB hb
 | nf e nm=>exact mz.up h hm hd hB hb
 | fst e nm=>exact mz.up h hm hd hB hb
 | seq e nm=>exact mz.up h hm hd hB hb
 | nh e nm=>exact mz.up h hm hd hB hb
theorem mA.len {f:Fm} {r:List Value} (h:mA w B bs r f):r.length=5:=by
 cases f with
 | gd c=>obtain ⟨b,rfl,h⟩:=h;rfl
 | snd e n=>obtain ⟨ve,rfl,h⟩:=h;rfl
 | app e nm=>obtain ⟨ve,vn,rfl,_⟩:=h;rfl
 | nf e nm=>obtain ⟨ve,vn,rfl,_⟩:=h;rfl
 | fst e nm=>obtain ⟨ve,vn,rfl,_⟩:=h;rfl
 | seq e nm=>obtain ⟨ve,vn,rfl,_⟩:=h;rfl
 | nh e nm=>obtain ⟨ve,vn,rfl,_⟩:=h;rfl
end
theorem adJ:∀ (nm:cN) {n:ByteArray} {c:Nat} {w:World} {B:Nat→Prop} {bs:List Nat} {v:Value},gC w B bs nm v→vx nm n=some c→ba Tryz.prog 72 [v,.string n] w fun r w'=>(∃ b,r=ptr b∧bs[c]? = some b)∧w=w':=by
 intro nm n c w B bs v h hf;refine YT.calls rfl ?_;unfold H6;(try simp only [go_sem,simprocAttr]);refine fx (fun z ρ w'=>w=w'∧∃ ni v',z=ni.length∧gC w B bs ni v'∧vx ni n=some c∧ρ=[(0,v'),(1,.string n)]) nm.length ⟨rfl,nm,v,rfl,h,hf,rfl⟩ ?_;rintro z _ _ ⟨rfl,ni,v',rfl,h',gS,rfl⟩;unfold Ol
 match ni,h',gS with
 | [],h',gS=>cases gS
 | (s,k)::l,h',gS=>
  obtain ⟨a,b,nx,rfl,hb,bJ,hn⟩:=h';have k0:w.cell? a=some (.string s):=bJ.c0 (by simp);have k1:w.cell? ⟨a.block,a.off+1,none⟩=some (ptr b):=bJ.at (k:=1) (by simp);have k2:w.cell? ⟨a.block,a.off+2,none⟩=some nx:=bJ.at (k:=2) (by simp);have gS:aI ((s,k)::l) n=some c:=gS;rw [nY] at gS;(try simp only [go_sem,simprocAttr,k0]);cases hs:s.toList == n.toList with
  | true=>
   have e:s=n:=by
    have h1:aR s n=true:=hs;rw [oH] at h1
    simpa using h1
   rw [if_pos e] at gS;cases gS;(try simp only [go_sem,simprocAttr,k1,aE,RV.ev,aF]);exact ⟨b,rfl,hb⟩
  | false=>
   have e:s≠n:=fun e=>by rw [e] at hs;simp at hs
   rw [if_neg e] at gS;(try simp only [go_sem,simprocAttr,k2]);exact ⟨_,by simp,l,nx,rfl,hn,gS,rfl⟩
end
end Go.Proofs.YtjfgeekjjlhbdaaGreatDoor