/- Texts that the last file stands on: T27, T28, T29, T30, D9, T31, T32, P6, T33, T34, P7, T2, T35, T36, T37, E1, Q1, M1, M2, M3. -/
import Derived.Test.YtjfgeekjjlhbdaaGreatDoorZNC
import Derived.Test.YtjfgeekjjlhbdaaGreatDoorZNB
set_option linter.unusedSimpArgs false
set_option linter.unusedVariables false
set_option maxRecDepth 100000
namespace Go.Proofs.YtjfgeekjjlhbdaaGreatDoor
section
open Go Go.W
theorem varsS_at {l:List ByteArray} {i:Nat} (hi:i < l.length) (bd:Cnt):varsS (l.drop i) bd=if (!isNameS l[i]||has bd l[i])=true then .error 82 else varsS (l.drop (i+1)) (aput bd l[i] 1):=by rw [List.drop_eq_getElem_cons hi,varsS]
theorem putVs_at {ps:List ByteArray} {bs:List Ty} {l:List ByteArray} {fs:List Ty} {i:Nat} (hi:i < l.length) (hf:i < fs.length) (lc:Loc):putVs ps bs (l.drop i) (fs.drop i) lc=if (putS ps bs fs[i]).2≥0 then putVs ps bs (l.drop (i+1)) (fs.drop (i+1)) (aput lc l[i] (putS ps bs fs[i]).1) else .error 83:=by
 rw [List.drop_eq_getElem_cons hi,List.drop_eq_getElem_cons hf,putVs]
theorem delN_at {l:List ByteArray} {i:Nat} (hi:i < l.length) (lc:Loc):delN (l.drop i) lc=delN (l.drop (i+1)) (adel lc l[i]):=by rw [List.drop_eq_getElem_cons hi,delN]
theorem putVs_nil {ps:List ByteArray} {bs:List Ty} (fs:List Ty) (lc:Loc):putVs ps bs [] fs lc = .ok lc:=by rw [putVs];intros;simp_all
def PlaceAt (w:World) (S:Nat→Prop) (E:Env) (n:ByteArray) (cz:List Value) (u:Value):Prop:=match aget E.cons n with
 | none=>u = .bool false
 | some x=>u = .bool true∧∃ ad,cz=[.pointer (some ad),I x.2]∧DPtr w (Out S w) ad x.1∧x.2 < x.1.cons.length
theorem f_alt {E:Env} (hE:GoodE E) (hbo:badData E boolN 0=false) {a:Al} (ih:ExprC E a.body) {of:Ty} (hof:Good E of) (hk4:a.kind=1→of.kind=4) {w:World} {S:Nat→Prop} {M:Ms} {st:St} {cs ct:List Value} (hc:CkAt w S M E st.1 st.2) (hg:GoodL E st.2) (h:AlAt w (Out S w) cs a) (hty:TyAt w (Out S w) ct of) :
   CallsR Tryz.prog 91 [ptr M.c,.agg cs.toArray,.agg ct.toArray] w fun r w'=>ResE w' S M E r (altR E of a.kind a.con a.vars (exprS E a.body) st)∧Mod M.two w w':=by
 obtain ⟨vv,ec,rfl,hvv,hec⟩:=h;obtain ⟨av,cv,rfl⟩:=each_sl hvv;obtain ⟨vo,rfl,hoa⟩:=hty.cells;obtain ⟨ao,co,rfl⟩:=each_sl hoa;refine fit91.calls rfl ?_;unfold ir91;(try simp only [go_sem,simprocAttr]);refine e_bx rfl ?_;intro wa hba hma hsa;(try simp only [go_sem,simprocAttr]);refine e_bx rfl ?_;intro wb hbb hmb hsb;(try simp only [go_sem,simprocAttr]);refine e_al ?_;intro w3 hb6 hmc hsc;have hb5:=hmc.at hbb _root_.id;have hb4:=(hmb.trans hmc).at hba _root_.id;have hm03:=hma.trans (hmb.trans hmc);have za:=hma.size;have zb:=hmb.size;have zw:w.heap.size≤wb.heap.size:=by omega
 have hc3:CkAt w3 (And1 S wb.heap.size) M E st.1 st.2:=hc.ext hm03 (and1_new zw) (fun b hb=>.inl hb) (fun b hb=>by
   rcases hb with h | h
   · have:=hc.lt b h;omega
   · omega)
 have S3:=hc3.two;have n4:¬ M.two w.heap.size:=two_no hc (Nat.le_refl _);have n5:¬ M.two wa.heap.size:=two_no hc za;have n6:¬ M.two wb.heap.size:=two_no hc zw;have lec:=hec.len;have hec3:ExAt w3 (Out (And1 S wb.heap.size) w3) ec a.body:=hec.ext (mod0 hm03) (and1_new zw);have hvv3:EachAt w3 (.slice av a.vars.length cv) 1 (Out (And1 S wb.heap.size) w3) StrAt a.vars:=hvv.up hm03 nof (out_ext (mod0 hm03) (and1_new zw)) (fun _ _ h=>h);have hoa3:EachAt w3 (.slice ao of.args.length co) 3 (Out (And1 S wb.heap.size) w3) (TyAt w3 (Out (And1 S wb.heap.size) w3)) of.args:=hoa.up hm03 nof (out_ext (mod0 hm03) (and1_new zw)) (fun _ _ h=>h.ext (mod0 hm03) (and1_new zw));(try simp only [go_sem,simprocAttr,cell_of hb4,Value.cells]);cases hk:a.kind != 1 with
 | true=>
   have hr:altR E of a.kind a.con a.vars (exprS E a.body) st=exprS E a.body st:=by rw [altR,if_pos hk]
   rw [hr];have k2:=ln_of (off:=4) (n:=7) hb4 (by simp [Value.cells];omega);simp only [List.drop_succ_cons,List.drop_zero] at k2;rw [List.take_of_length_le (by omega)] at k2;(try simp only [go_sem,simprocAttr,k2]);refine e_call (by rfl) ?_;refine (ih hc3 hg hec3).mono ?_;rintro r4 w4 ⟨hr4,hm4⟩;cases hx1:exprS E a.body st with
   | error e4=>
     rw [hx1] at hr4;obtain ⟨cz,hz3,hz1,rfl,hne,bd4,lc4,hcx⟩:=hr4;(try simp only [go_sem,simprocAttr]);refine e_sta (cs:=zTy) rfl rfl (hm4.at hb6 n6) hz3 rfl hz1 ?_;intro w5 hb hm5 hs5;(try simp only [go_sem,simprocAttr,rvs,RV.ev,ln_blk (n:=3) hb hz3,one?]);exact ⟨⟨cz,hz3,hz1,rfl,hne,_,_,(hcx.side hm5 (fun b hb=>.inr hb) (list_no hc zw)).sub (fun b hb=>.inl hb) hc.inS⟩,((mod0 hm03).trans hm4).step hm5 (fun b hb hl=>by omega)⟩
   | ok y1=>
     rw [hx1] at hr4;obtain ⟨⟨cz,rfl,hty4⟩,hcx⟩:=hr4;(try simp only [go_sem,simprocAttr]);refine e_sta (cs:=zTy) rfl rfl (hm4.at hb6 n6) hty4.len rfl hty4.one ?_;intro w5 hb hm5 hs5;(try simp only [go_sem,simprocAttr,rvs,RV.ev,ln_blk (n:=3) hb hty4.len,one?]);exact ⟨res_ok hcx hty4 hm5 hc.inS (list_no hc zw),((mod0 hm03).trans hm4).step hm5 (fun b hb hl=>by omega)⟩
 | false=>
   have hk1:a.kind=1:=by simpa using hk
   have d3:Mod (fun _=>False) w3 w3.drew:=(Mod.refl _ _).drew;have hc3d:=hc3.keep d3;(try simp only [go_sem,simprocAttr,cell_of hc3.box,cell_of hb4,Value.cells]);have zr:∀ b∈[w.heap.size,M.c],b < w3.drew.heap.size:=fun b hb=>by
     have e:w3.drew.heap.size=w3.heap.size:=rfl;rcases List.mem_cons.1 hb with rfl | hb
     · omega
     · rw [List.mem_singleton.1 hb];have:=hc3.lt _ (hc3.inS M.c (by simp [Ms.list]));omega
   refine d_look (Rr:=RPlace w3.drew (Out (And1 S wb.heap.size) w3.drew)) (k:=a.con) (b0:=M.mc) (kt:=9) (et:=158) (zc:=[.pointer none,I 0]) rfl rfl rfl rfl (fun w=>Tryz.zeroValue158 w) ⟨rfl,one_cons rfl (one_cons rfl one_nil)⟩ rfl hc3d.cons
     (fun v y hr=>by obtain ⟨ad,rfl,_⟩:=hr;exact ⟨[.pointer (some ad),I y.2],rfl,rfl,one_cons rfl (one_cons rfl one_nil)⟩) (fun p hp=>by
       simp only [List.mem_cons,List.not_mem_nil,or_false] at hp;rcases hp with rfl | rfl<;>exact zr _ (by simp)) (by decide) ?_
   intro w4 ρ4 cz u hold g8 g9 hb8 hm4' hz2 hz1 hcase;have hm4:Mod (fun _=>False) w3 w4:=hm4'.of_drew;have hb8:w4.heap[w3.heap.size]? = some (.cells cz.toArray 158 (0,0)):=hb8;have g8:ρ4.get 8=some (ptr w3.heap.size):=g8;have g0:ρ4.get 0=some (ptr M.c):=(hold 0 (by decide)).trans rfl;have g4:ρ4.get 4=some (ptr w.heap.size):=(hold 4 (by decide)).trans rfl;have g5:ρ4.get 5=some (ptr wa.heap.size):=(hold 5 (by decide)).trans rfl;have g6:ρ4.get 6=some (ptr wb.heap.size):=(hold 6 (by decide)).trans rfl;have z4:=hm4.size;have hb6:=hm4.at hb6 _root_.id;have hb5:=hm4.at hb5 _root_.id;have hb4:=hm4.at hb4 _root_.id;have hc4:=hc3.keep hm4;have hr0:altR E of a.kind a.con a.vars (exprS E a.body) st=(match aget E.cons a.con with
     | none=>.error 82
     | some x=>if (!strEq x.1.name of.name)=true then .error 82
       else if (((conFields x.1 x.2).length:Int) != a.vars.length)=true then .error 84
       else match varsS a.vars st.1 with
         | .error e=>.error e
         | .ok bd=>match putVs x.1.params of.args a.vars (conFields x.1 x.2) st.2 with
           | .error e=>.error e
           | .ok lc=>match exprS E a.body (bd,lc) with
             | .error e=>.error e
             | .ok y=>.ok (y.1,(y.2.1,delN a.vars y.2.2))):=by rw [altR,if_neg (by rw [hk];simp)];rfl
   rw [hr0];rcases hcase with ⟨hn,rfl⟩ | ⟨x,hx,⟨ad,hcz,hdp,hx2⟩,rfl⟩
   · rw [hn];(try simp only [go_sem,simprocAttr,g0,g4,g5,g6,g8,g9]);refine e_ref (w3:=w4.drew) hc zw hb6 ((mod0 (hm03.trans hm4)).trans (Mod.refl _ _).drew) (hc4.keep (Mod.refl _ _).drew) rfl rfl ?_;intro w5 hb hm5 hck;(try simp only [go_sem,simprocAttr,rvs,RV.ev,ln_blk (n:=3) hb rfl,one?]);exact ⟨.bad (by decide) hck,hm5⟩
   · rw [hx];have hcz:cz=[.pointer (some ad),I x.2]:=by
       have:cz.toArray = #[.pointer (some ad),I x.2]:=by cases hcz;rfl
       have:=congrArg Array.toList this
       simpa using this
     subst hcz;obtain ⟨cs,hcs,vp,vc,rfl,hpar,hcon⟩:=hdp;have d34:Mod (fun _=>False) w3.drew w4:=hm4';have k0:w4.cell? ad=some (.string x.1.name):=(hcs.up d34 nof (fun _ h=>h)).c0 (by simp);have kn:w4.cell? ⟨wa.heap.size,1,none⟩=some (.string of.name):=by rw [cell_of hb5];rfl
     (try simp only [go_sem,simprocAttr,g0,g4,g5,g6,g8,g9,cell_of hb8,k0,kn]);cases hnm:x.1.name.toList == of.name.toList with
     | false=>
       rw [if_pos (by rw [strEq,hnm];rfl)];(try simp only [go_sem,simprocAttr]);refine e_ref (w3:=w4.drew) hc zw hb6 ((mod0 (hm03.trans hm4)).trans (Mod.refl _ _).drew) (hc4.keep (Mod.refl _ _).drew) rfl rfl ?_;intro w5 hb hm5 hck;(try simp only [go_sem,simprocAttr,rvs,RV.ev,ln_blk (n:=3) hb rfl,one?]);exact ⟨.bad (by decide) hck,hm5⟩
     | true=>
       have hse:strEq x.1.name of.name=true:=hnm;rw [if_neg (by rw [hse];simp)];have hple:=alt_le hE hx hse hof.1 (hk4 hk1);obtain ⟨ac,cc,rfl⟩:=each_sl hcon;obtain ⟨app,cpp,rfl⟩:=each_sl hpar;have data:∀ {w':World},Mod M.two w4 w'→CellsAt w' (Out (And1 S wb.heap.size) w') ad [.string x.1.name,.slice app x.1.params.length cpp,.slice ac x.1.cons.length cc]∧EachAt w' (.slice app x.1.params.length cpp) 1 (Out (And1 S wb.heap.size) w') StrAt x.1.params∧EachAt w' (.slice ac x.1.cons.length cc) 2 (Out (And1 S wb.heap.size) w') (CnAt w' (Out (And1 S wb.heap.size) w')) x.1.cons:=fun hm=>by
         have hmS:Mod (And1 S wb.heap.size) w3.drew _:=(mod0 d34).trans (hm.weak S3);exact ⟨hcs.up hmS out_not (out_up hmS),hpar.up hmS out_not (out_up hmS) (fun _ _ h=>h),hcon.up hmS out_not (out_up hmS) (fun _ _ h=>h.up hmS out_not (out_up hmS))⟩
       obtain ⟨q1,q2,q3⟩:=data (Mod.refl _ w4);have k2:w4.cell? ⟨ad.block,ad.off+2,none⟩=some (.slice ac x.1.cons.length cc):=q1.at (k:=2) (by simp);obtain ⟨adc,cc2,rr,ee,⟨vf,rfl,hfl,_⟩,_,_,hcc⟩:=each_at q3 hx2;obtain ⟨rfl,-,-⟩:=tup_inj ee;obtain ⟨af,cf,rfl⟩:=each_sl hfl;have kf:w4.cell? ((adc.add (x.2*2)).add 1)=some (.slice af x.1.cons[x.2].fields.length cf):=hcc 1 (by simp);rw [add_pos _ (by decide)] at kf;have b1:(0:Int)≤x.2∧(x.2:Int) < x.1.cons.length:=by omega
       have hfs:conFields x.1 x.2=x.1.cons[x.2].fields:=by simp [conFields,List.getD,hx2]
       have fwf:=(hE.cons _ _ hx).2;rw [hfs] at fwf;rw [hfs];generalize hfields:x.1.cons[x.2].fields=fields at *;have kv:w4.cell? ⟨w.heap.size,3,none⟩=some (.slice av a.vars.length cv):=by rw [cell_of hb4];rfl
       (try simp only [go_sem,simprocAttr,zb4,zb6,cell_of hb8,k2,b1,kf,kv]);cases hne:((fields.length:Int) != a.vars.length) with
       | true=>
         rw [if_pos rfl];(try simp only [go_sem,simprocAttr]);refine e_ref (w3:=w4.drew.drew) hc zw hb6 ((mod0 (hm03.trans hm4)).trans (Mod.refl _ _).drew.drew) (hc4.keep (Mod.refl _ _).drew.drew) rfl rfl ?_;intro w5 hb hm5 hck;(try simp only [go_sem,simprocAttr,rvs,RV.ev,ln_blk (n:=3) hb rfl,one?]);exact ⟨.bad (by decide) hck,hm5⟩
       | false=>
         rw [if_neg (by simp)];have hlen:fields.length=a.vars.length:=by
           have:(fields.length:Int)=a.vars.length:=by simpa using hne
           omega
         (try simp only [go_sem,simprocAttr,kv]);have hm35:Mod (fun _=>False) w3 w4.drew.drew:=hm4.drew.drew;have hm05:=hm03.trans hm35;have hc5:=hc3.keep hm35;have hvl:=each_len hvv;have names:∀ {w':World},Mod M.two w4 w'→EachAt w' (.slice av a.vars.length cv) 1 (Out (And1 S wb.heap.size) w3) StrAt a.vars:=fun hm=>
           hvv3.up ((mod0 hm4).trans hm) (fun b hb hh=>hb.2 (S3 b hh)) (fun _ h=>h) (fun _ _ h=>h)
         have box6:∀ {w':World},Mod M.two w4 w'→w'.heap[wb.heap.size]? = some (.cells zTy.toArray tyT (0,0)):=fun hm=>hm.at hb6 n6
         have toW:∀ {w':World},Mod M.two w4 w'→Mod M.two w w':=fun hm=>(mod0 (hm03.trans hm4)).trans hm
         refine ir_range a.vars.length (fun k ρ w'=>k≤a.vars.length∧Mod M.two w4 w'∧(∃ bdk,CkAt w' (And1 S wb.heap.size) M E bdk st.2∧varsS (a.vars.drop k) bdk=varsS a.vars st.1)∧ρ=[(0,ptr M.c),(4,ptr w.heap.size),(5,ptr wa.heap.size),(6,ptr wb.heap.size),(8,ptr w3.heap.size),(10,.slice af fields.length cf),(71,.slice av a.vars.length cv),(72,I a.vars.length),(73,I k)])
           ⟨by omega,(Mod.refl _ _).drew.drew,⟨st.1,hc5,rfl⟩,rfl⟩ hvl ?_ ?_ (by decide) ?_
         · rintro k _ w6 ⟨hk,_,_,rfl⟩;exact ⟨rfl,rfl,hk⟩
         · rintro k _ w6 ⟨_,hm6,⟨bdk,hck,hvs⟩,rfl⟩ hk;obtain ⟨adv,cv2,ev,hnm',hcv⟩:=str_at (names hm6) hk;obtain ⟨rfl,-,-⟩:=tup_inj ev;have bv:(0:Int)≤k∧(k:Int) < a.vars.length:=by omega
           rw [varsS_at hk] at hvs;(try simp only [go_sem,simprocAttr,zb4,zb6,bv,hcv]);refine e_call (by rfl) ?_;refine (f_isName _ hnm').mono ?_;rintro _ _ ⟨rfl,rfl⟩;cases hn1:isNameS a.vars[k] with
           | false=>
             rw [if_pos (by rw [hn1];rfl)] at hvs;rw [← hvs];(try simp only [go_sem,simprocAttr]);refine e_ref hc zw (box6 hm6) (toW hm6) hck rfl rfl ?_;intro w7 hb hm7 hckk;(try simp only [go_sem,simprocAttr,rvs,RV.ev,ln_blk (n:=3) hb rfl,one?]);exact ⟨.bad (by decide) hckk,hm7⟩
           | true=>
             (try simp only [go_sem,simprocAttr,cell_of hck.box]);refine raw_g ?_;refine e_lkI (k:=a.vars[k]) (b:=M.mb) (kt:=9) (et:=3) rfl rfl rfl rfl (zI _) hck.bound ?_;have hhas:decide ((aget bdk a.vars[k]).getD 0 > 0)=has bdk a.vars[k]:=rfl;cases hh:has bdk a.vars[k] with
             | true=>
               rw [hh] at hhas;rw [if_pos (by rw [hh];simp)] at hvs;rw [← hvs];(try simp only [go_sem,simprocAttr,hhas]);refine e_ref hc zw (box6 hm6) (toW hm6) hck rfl rfl ?_;intro w7 hb hm7 hckk;(try simp only [go_sem,simprocAttr,rvs,RV.ev,ln_blk (n:=3) hb rfl,one?]);exact ⟨.bad (by decide) hckk,hm7⟩
             | false=>
               rw [hh] at hhas;rw [if_neg (by rw [hn1,hh];simp)] at hvs;(try simp only [go_sem,simprocAttr,hhas,cell_of hck.box]);refine e_putN (n:=a.vars[k]) hck rfl rfl rfl ?_;intro w7 hc7 hm7 hs7;(try simp only [go_sem,simprocAttr]);exact ⟨hk,hm6.trans hm7,_,hc7,hvs⟩
         rintro _ w6 ⟨_,hm6,⟨bd,hc6,hvs⟩,rfl⟩;rw [List.drop_length,varsS] at hvs;rw [← hvs];have kv6:w6.cell? ⟨w.heap.size,3,none⟩=some (.slice av a.vars.length cv):=by rw [cell_of (hm6.at hb4 n4)];rfl
         (try simp only [go_sem,simprocAttr,kv6]);have n8:¬ M.two w3.heap.size:=two_no hc (by have:=hm03.size;omega);obtain ⟨rows,hrows,hrl,hre⟩:=hfl;refine ir_range a.vars.length (fun k ρ w'=>k≤a.vars.length∧Mod M.two w4 w'∧(∃ lck,CkAt w' (And1 S wb.heap.size) M E bd lck∧GoodL E lck∧putVs x.1.params of.args (a.vars.drop k) (fields.drop k) lck=putVs x.1.params of.args a.vars fields st.2)∧ρ=[(0,ptr M.c),(4,ptr w.heap.size),(5,ptr wa.heap.size),(6,ptr wb.heap.size),(8,ptr w3.heap.size),(10,.slice af fields.length cf),(97,.slice av a.vars.length cv),(98,I a.vars.length),(99,I k)])
           ⟨by omega,hm6,⟨st.2,hc6,hg,rfl⟩,rfl⟩ hvl ?_ ?_ (by decide) ?_
         · rintro k _ w7 ⟨hk,_,_,rfl⟩;exact ⟨rfl,rfl,hk⟩
         · rintro k _ w7 ⟨_,hm7,⟨lck,hck,hgl,hpv⟩,rfl⟩ hk;obtain ⟨adv,cv2,ev,hnm',hcv⟩:=str_at (names hm7) hk;obtain ⟨rfl,-,-⟩:=tup_inj ev;have bv:(0:Int)≤k∧(k:Int) < a.vars.length:=by omega
           have hkf:k < fields.length:=by omega
           have bf:(0:Int)≤k∧(k:Int) < fields.length:=by omega
           have S4:∀ b,Out (And1 S wb.heap.size) w4 b→¬ M.two b:=fun b hb hh=>hb.2 (S3 b hh)
           have hm7S:Mod (And1 S wb.heap.size) w4 w7:=hm7.weak S3;have hrows7:=hrows.up hm7S out_not (out_up hm7S);obtain ⟨adf,cf2,ef,hk1',hk2'⟩:=row_at hrows7.1 (i:=k) (by omega);have hlf:=ln_cells hk1' hk2';have hlt3:(adf.add (k*3)).block < w7.heap.size:=by have:=cell_lt (hk2' 0 (by omega));rwa [add_block] at this
           obtain ⟨rfl,-,-⟩:=tup_inj ef;have htf:TyAt w7 (Out (And1 S wb.heap.size) w7) rows[k] fields[k]:=(hre k _ _ (List.getElem?_eq_getElem (by omega)) (List.getElem?_eq_getElem hkf)).keep hm7S;obtain ⟨q1',q2',q3'⟩:=data hm7;have kp7:w7.cell? ⟨ad.block,ad.off+1,none⟩=some (.slice app x.1.params.length cpp):=q1'.at (k:=1) (by simp);have k87:w7.cell? ⟨w3.heap.size,0,none⟩=some (.pointer (some ad)):=by rw [cell_of (hm7.at hb8 n8)];rfl
           have k57:w7.cell? ⟨wa.heap.size,2,none⟩=some (.slice ao of.args.length co):=by rw [cell_of (hm7.at hb5 n5)];rfl
           have hoa7:EachAt w7 (.slice ao of.args.length co) 3 (Out (And1 S wb.heap.size) w7) (TyAt w7 (Out (And1 S wb.heap.size) w7)) of.args:=by
             have hmS:Mod (And1 S wb.heap.size) w3 w7:=(mod0 hm4).trans hm7S;exact hoa3.up hmS out_not (out_up hmS) (fun _ _ h=>h.keep hmS)
           rw [putVs_at hk hkf] at hpv;(try simp only [go_sem,simprocAttr,zb4,zb6,bv,hcv,bf,hlf,k87,kp7,k57,drew_ln]);obtain ⟨zp1,zp2,zp3⟩:=data hm7.drew;have hin0:ReplIn w7.drew (And1 S wb.heap.size) (.slice app x.1.params.length cpp) (.slice ao of.args.length co) x.1.params of.args:=⟨zp2,each_keep hoa7 (Mod.refl (And1 S wb.heap.size) _).drew,Nat.le_of_eq hple⟩;have htf0:TyAt w7.drew (Out (And1 S wb.heap.size) w7.drew) rows[k] fields[k]:=htf.keep (Mod.refl _ _).drew;have hlt5:=cell_lt k57;have hlt8:=cell_lt k87;have hltp:=cell_lt kp7;have zd:w7.drew.heap.size=w7.heap.size:=rfl;have hck7:=hck.keep (Mod.refl (fun _=>False) w7).drew;have hSlt:∀ b,And1 S wb.heap.size b→b < w7.drew.heap.size:=hck7.lt;refine d_call (Ms:=fun _=>False) (vs:=[.agg rows[k].toArray,.slice app x.1.params.length cpp,.slice ao of.args.length co])
             (Post:=fun w' cz u=>u = .bool (decide ((putS x.1.params of.args fields[k]).2≥0))∧TyAt w' (Out (And1 S wb.heap.size) w') cz (putS x.1.params of.args fields[k]).1)
             (PA:=fun w' cz u=>u = .bool (decide ((putS x.1.params of.args fields[k]).2≥0))∧TyAt w' (Out (And1 S wb.heap.size) w') cz (putS x.1.params of.args fields[k]).1)
             (PB:=fun w' cz u=>u = .bool (decide ((putS x.1.params of.args fields[k]).2≥0))∧TyAt w' (Out (And1 (And1 S wb.heap.size) w7.drew.heap.size) w') cz (putS x.1.params of.args fields[k]).1)
             rfl (fun v=>rfl) rfl (fun _ _ h=>h) (fun p hp=>by
               simp only [List.mem_cons,List.not_mem_nil,or_false] at hp;rcases hp with rfl | rfl | rfl | rfl<;>(rw [zd];first | exact hlt5 | exact hltp | exact hlt8 | exact hlt3)) ?_ ?_ ?_ ?_ (by decide) ?_
           · refine (f_put fields[k] htf0 hin0 hSlt).mono ?_;rintro _ w8 ⟨⟨cz,rfl,hty8⟩,hm8⟩;exact ⟨cz,_,rfl,hty8.len,hty8.one,⟨rfl,hty8⟩,hm8⟩
           · intro w8 hm8 hs8;have hs':∀ b,b < w7.drew.heap.size→And1 (And1 S wb.heap.size) w7.drew.heap.size b→And1 S wb.heap.size b:=fun b hb hh=>by
               rcases hh with h | h
               · exact h
               · omega
             refine (f_put fields[k] (htf0.ext (mod0 hm8) hs') (hin0.ext (mod0 hm8) hs') (fun b hb=>by
               rcases hb with h | h
               · have:=hSlt b h;omega
               · omega)).mono ?_
             rintro _ w9 ⟨⟨cz,rfl,hty8⟩,hm9⟩;exact ⟨cz,_,rfl,hty8.len,hty8.one,⟨rfl,hty8⟩,hm9⟩
           · rintro w8 cz u w9 ⟨rfl,h8⟩ hm9;exact ⟨rfl,h8.keep (mod0 hm9)⟩
           · rintro w8 cz u w9 ⟨rfl,h8⟩ hm9;exact ⟨rfl,(h8.keep (hm9.weak (fun b hb=>.inr hb))).sub (fun b hb=>.inl hb)⟩
           intro w8 ρ8 b15 cz u hold h15 h16 hb15 hb15n hm8' hz3 hz1 hpost;have hm8:Mod (fun _=>False) w7 w8:=hm8'.of_drew;obtain ⟨rfl,hty8⟩:=hpost;have e0:ρ8.get 0=some (ptr M.c):=(hold 0 (by decide)).trans rfl;have e4:ρ8.get 4=some (ptr w.heap.size):=(hold 4 (by decide)).trans rfl;have e5:ρ8.get 5=some (ptr wa.heap.size):=(hold 5 (by decide)).trans rfl;have e6:ρ8.get 6=some (ptr wb.heap.size):=(hold 6 (by decide)).trans rfl;have e8:ρ8.get 8=some (ptr w3.heap.size):=(hold 8 (by decide)).trans rfl;have e10:ρ8.get 10=some (.slice (some adf) fields.length cf):=(hold 10 (by decide)).trans rfl;have e14:ρ8.get 14=some (.string a.vars[k]):=(hold 14 (by decide)).trans rfl;have e97:ρ8.get 97=some (.slice (some adv) a.vars.length cv):=(hold 97 (by decide)).trans rfl;have e98:ρ8.get 98=some (I a.vars.length):=(hold 98 (by decide)).trans rfl;have e99:ρ8.get 99=some (I k):=(hold 99 (by decide)).trans rfl;have hc8:=hck.keep hm8;cases hfit:decide ((putS x.1.params of.args fields[k]).2≥0) with
           | false=>
             have hfit':¬ (putS x.1.params of.args fields[k]).2≥0:=by simpa using hfit
             rw [if_neg hfit'] at hpv;rw [← hpv];rw [hfit] at h16;(try simp only [go_sem,simprocAttr,e0,e4,e5,e6,e8,e10,e14,e97,e98,e99,h15,h16]);refine e_ref hc zw (box6 (hm7.trans (mod0 hm8))) (toW (hm7.trans (mod0 hm8))) hc8 rfl rfl ?_;intro w9 hb hm9 hckk;(try simp only [go_sem,simprocAttr,rvs,RV.ev,ln_blk (n:=3) hb rfl,one?]);exact ⟨.bad (by decide) hckk,hm9⟩
           | true=>
             have hfit':(putS x.1.params of.args fields[k]).2≥0:=by simpa using hfit
             rw [if_pos hfit'] at hpv;rw [hfit] at h16;have hgt:Good E (putS x.1.params of.args fields[k]).1:=put_good (fun b hb=>good_mem hof hb) (Nat.le_of_eq hple) (fwf _ (List.getElem_mem hkf)) hfit';(try simp only [go_sem,simprocAttr,e0,e4,e5,e6,e8,e10,e14,e97,e98,e99,h15,h16,cell_of hc8.box,ln_blk (n:=3) hb15 hz3]);refine e_putL (n:=a.vars[k]) (hc8.keep (Mod.refl _ _).drew) rfl rfl rfl (hty8.keep (Mod.refl _ _).drew) ?_;intro w9 hc9 hm9 hs9;(try simp only [go_sem,simprocAttr]);exact ⟨hk,(hm7.trans (mod0 hm8)).trans hm9.of_drew,_,hc9,hgl.put hgt,hpv⟩
         · rintro _ w7 ⟨_,hm7,⟨lck,hck,hgl,hpv⟩,rfl⟩;rw [List.drop_length,putVs_nil] at hpv;rw [← hpv];have kb7:=hm7.at hb4 n4;have k2:=ln_of (off:=4) (n:=7) kb7 (by simp [Value.cells];omega);simp only [List.drop_succ_cons,List.drop_zero] at k2;rw [List.take_of_length_le (by omega)] at k2;(try simp only [go_sem,simprocAttr,k2]);refine e_call (by rfl) ?_;have hec7:ExAt w7 (Out (And1 S wb.heap.size) w7) ec a.body:=(hec3.keep (mod0 hm4)).keep (hm7.weak S3);refine (ih (st:=(bd,lck)) hck hgl hec7).mono ?_;rintro r8 w8 ⟨hr8,hm8⟩;have key:∃ cz u,r8 = .tuple #[.agg cz.toArray,u]∧cz.length=3∧(∀ u∈cz,u.oneCell'=true)∧Kept w8 (And1 S wb.heap.size) M E cz u (exprS E a.body (bd,lck)):=by
             cases hx1:exprS E a.body (bd,lck) with
             | error e4=>rw [hx1] at hr8;obtain ⟨cz,hz3,hz1,rfl,hne,hck⟩:=hr8;exact ⟨cz,_,rfl,hz3,hz1,rfl,hne,hck⟩
             | ok y1=>rw [hx1] at hr8;obtain ⟨⟨cz,rfl,hty⟩,hck⟩:=hr8;exact ⟨cz,_,rfl,hty.len,hty.one,rfl,hty,hck⟩
           obtain ⟨cz,u,rfl,hz3,hz1,hkept⟩:=key;(try simp only [go_sem,simprocAttr]);refine e_al ?_;intro w9 hb9 hm9 hs9;(try simp only [go_sem,simprocAttr]);refine e_sta (cs:=zTy) rfl rfl hb9 hz3 rfl hz1 ?_;intro w10 hb10 hm10 hs10;have hm810:Mod (fun _=>False) w8 w10:=hm9.step hm10 (fun b hb hl=>by omega);have hm4x:Mod M.two w4 w10:=(hm7.trans hm8).trans (mod0 hm810);have kv10:w10.cell? ⟨w.heap.size,3,none⟩=some (.slice av a.vars.length cv):=by rw [cell_of (hm4x.at hb4 n4)];rfl
           have kv10':w10.cell? ((⟨w.heap.size,0,none⟩:Addr).add 3)=some (.slice av a.vars.length cv):=kv10;(try simp only [go_sem,simprocAttr,kv10]);have hck10:∃ bd' lc',CkAt w10 (And1 S wb.heap.size) M E bd' lc'∧(∀ y,exprS E a.body (bd,lck) = .ok y→bd'=y.2.1∧lc'=y.2.2):=by
             cases hx1:exprS E a.body (bd,lck) with
             | error e4=>rw [hx1] at hkept;obtain ⟨_,_,bd8,lc8,k3⟩:=hkept;exact ⟨bd8,lc8,k3.keep hm810,fun y h=>by cases h⟩
             | ok y1=>rw [hx1] at hkept;exact ⟨_,_,hkept.2.2.keep hm810,fun y h=>by cases h;exact ⟨rfl,rfl⟩⟩
           obtain ⟨bd8,lc8,hc10,hok8⟩:=hck10;have z7:=hm7.size;have z8:=hm8.size;have z3:=hm03.size;have n17:¬ M.two w8.heap.size:=two_no hc (by omega);refine ir_range a.vars.length (fun k ρ w'=>k≤a.vars.length∧Mod M.two w10 w'∧(∃ lck,CkAt w' (And1 S wb.heap.size) M E bd8 lck∧delN (a.vars.drop k) lck=delN a.vars lc8)∧ρ=[(0,ptr M.c),(6,ptr wb.heap.size),(17,ptr w8.heap.size),(18,u),(137,.slice av a.vars.length cv),(138,I a.vars.length),(139,I k)])
             ⟨by omega,.refl _ _,⟨lc8,hc10,rfl⟩,rfl⟩ hvl ?_ ?_ (by decide) ?_
           · rintro k _ w11 ⟨hk,_,_,rfl⟩;exact ⟨rfl,rfl,hk⟩
           · rintro k _ w11 ⟨_,hm11,⟨lck2,hck2,hdel⟩,rfl⟩ hk;obtain ⟨adv,cv2,ev,hnm',hcv⟩:=str_at (names (hm4x.trans hm11)) hk;obtain ⟨rfl,-,-⟩:=tup_inj ev;have bv:(0:Int)≤k∧(k:Int) < a.vars.length:=by omega
             rw [delN_at hk] at hdel;(try simp only [go_sem,simprocAttr,zb4,zb6,bv,hcv,cell_of hck2.box]);refine e_delL (n:=a.vars[k]) rfl hck2 rfl rfl ?_;intro w12 hc12 hm12 hs12;(try simp only [go_sem,simprocAttr]);exact ⟨hk,hm11.trans hm12,_,hc12,hdel⟩
           rintro _ w11 ⟨_,hm11,⟨lck2,hck2,hdel⟩,rfl⟩;rw [List.drop_length,delN] at hdel;subst hdel;have hb11:=hm11.at hb10 n17;have hm4y:=hm4x.trans hm11;(try simp only [go_sem,simprocAttr,ln_blk (n:=3) hb11 hz3]);refine e_sta (cs:=zTy) rfl rfl (box6 hm4y) hz3 rfl hz1 ?_;intro w12 hb12 hm12 hs12;have hmf:Mod M.two w w12:=(toW hm4y).step hm12 (fun b hb hl=>by omega);cases hx1:exprS E a.body (bd,lck) with
           | error e4=>
             rw [hx1] at hkept;obtain ⟨rfl,hne,_⟩:=hkept;(try simp only [go_sem,simprocAttr,rvs,RV.ev,ln_blk (n:=3) hb12 hz3,one?]);exact ⟨⟨cz,hz3,hz1,rfl,hne,_,_,(hck2.side hm12 (fun b hb=>.inr hb) (list_no hc zw)).sub (fun b hb=>.inl hb) hc.inS⟩,hmf⟩
           | ok y1=>
             obtain ⟨t1,st1⟩:=y1;obtain ⟨rfl,rfl⟩:=hok8 _ hx1;rw [hx1] at hkept;obtain ⟨rfl,hty,_⟩:=hkept;(try simp only [go_sem,simprocAttr,rvs,RV.ev,ln_blk (n:=3) hb12 hz3,one?]);exact ⟨res_ok (st:=(st1.1,delN a.vars st1.2)) hck2 ((hty.keep (mod0 hm810)).keep (hm11.weak S3)) hm12 hc.inS (list_no hc zw),hmf⟩
end
section
open Go Go.W
theorem altsS_at {E:Env} {all:List Al} {of:Ty} {i:Nat} (hi:i < all.length) (first:Ty) (st:St):altsS E all of (all.drop i) i first st =
   if altFormedS all i of=false then .error 84
   else match altR E of all[i].kind all[i].con all[i].vars (exprS E all[i].body) st with
     | .error x=>.error x
     | .ok y=>if i=0 then altsS E all of (all.drop (i+1)) (i+1) y.1 y.2 else if sameT y.1 first=true then altsS E all of (all.drop (i+1)) (i+1) first y.2 else .error 83:=by
 rw [List.drop_eq_getElem_cons hi,altsS_cons];rfl
theorem kept_of {w:World} {S:Nat→Prop} {M:Ms} {E:Env} {r:Value} {x:Except Int (Ty×St)} (h:ResE w S M E r x):∃ cz u,r = .tuple #[.agg cz.toArray,u]∧cz.length=3∧(∀ u∈cz,u.oneCell'=true)∧Kept w S M E cz u x:=by
 cases x with
 | error e4=>obtain ⟨cz,hz3,hz1,rfl,hne,hck⟩:=h;exact ⟨cz,_,rfl,hz3,hz1,rfl,hne,hck⟩
 | ok y1=>obtain ⟨⟨cz,rfl,hty⟩,hck⟩:=h;exact ⟨cz,_,rfl,hty.len,hty.one,rfl,hty,hck⟩
theorem f_cased {E:Env} (hE:GoodE E) (hbo:badData E boolN 0=false) {e x:Ex} (hx0:e.args=[x]) (hne:e.alts≠[]) (ihx:ExprC E x) (iha:∀ a∈e.alts,ExprC E a.body) {w:World} {S:Nat→Prop} {M:Ms} {st:St} {cs:List Value} (hc:CkAt w S M E st.1 st.2) (hg:GoodL E st.2) (h:ExAt w (Out S w) cs e) :
   CallsR Tryz.prog 70 [ptr M.c,.agg cs.toArray] w fun r w'=>ResE w' S M E r (match exprsS E e.args st with
     | .error x=>.error x
     | .ok y=>if ((y.1.headD default).kind != 1&&(y.1.headD default).kind != 4)=true then .error 83 else altsS E e.alts (y.1.headD default) e.alts 0 default y.2)∧Mod M.two w w':=by
 obtain ⟨vcap,ecap,hcap⟩:=h.cap;obtain ⟨vt,va,vb,vl,rfl,ht,ha,hb,hl⟩:=h.parts;obtain ⟨aa,ca,rfl⟩:=each_sl ha;obtain ⟨al,cl,rfl⟩:=each_sl hl;have hll:=each_len hl;cases ecap;refine fit70.calls rfl ?_;unfold ir70;(try simp only [go_sem,simprocAttr]);refine e_bx rfl ?_;intro wa hba hma hsa;(try simp only [go_sem,simprocAttr]);refine e_al ?_;intro wb hb4 hmb hsb;have hb3:=hmb.at hba _root_.id;have hm0b:=hma.trans hmb;have za:=hma.size;have hcb:CkAt wb (And1 S wa.heap.size) M E st.1 st.2:=hc.ext hm0b (and1_new za) (fun b hb=>.inl hb) (fun b hb=>by
   rcases hb with h | h
   · have:=hc.lt b h;omega
   · omega)
 have Sb:=hcb.two;have n3:¬ M.two w.heap.size:=two_no hc (Nat.le_refl _);have n4:¬ M.two wa.heap.size:=two_no hc za;have lx:e.args.length=1:=by rw [hx0];rfl
 have hab:EachAt wb (.slice aa e.args.length ca) 7 (Out (And1 S wa.heap.size) wb) (ExAt wb (Out (And1 S wa.heap.size) wb)) e.args:=ha.up hm0b nof (out_ext (mod0 hm0b) (and1_new za)) (fun _ _ h=>h.ext (mod0 hm0b) (and1_new za));have hlb:EachAt wb (.slice al e.alts.length cl) 11 (Out (And1 S wa.heap.size) wb) (AlAt wb (Out (And1 S wa.heap.size) wb)) e.alts:=hl.up hm0b nof (out_ext (mod0 hm0b) (and1_new za)) (fun _ _ h=>h.up hm0b nof (out_ext (mod0 hm0b) (and1_new za)));obtain ⟨ada,ca2,ra,ea,hxa,hlna⟩:=arg_at hab (i:=0) (by omega);obtain ⟨rfl,-,-⟩:=tup_inj ea;have hx00:e.args[0]'(by omega)=x:=by simp [hx0]
 rw [hx00] at hxa;have b1:(0:Int)≤0∧(0:Int) < e.args.length:=by omega
 rw [Nat.zero_mul,add_zero'] at hlna;have hrun:exprsS E e.args st=(match exprS E x st with | .error e=>.error e | .ok y=>.ok ([y.1],y.2)):=by
   rw [hx0];simp only [exprsS];cases exprS E x st<;>rfl
 rw [hrun];(try simp only [go_sem,simprocAttr,zb4,zb6,cell_of hb3,Value.cells,b1,Nat.zero_mul,hlna]);refine e_call (by rfl) ?_;refine (ihx hcb hg hxa).mono ?_;rintro r3 wc ⟨hr3,hmc⟩;have zc:=hmc.size;cases hx1:exprS E x st with
 | error e3=>
   rw [hx1] at hr3;obtain ⟨cz,hz3,hz1,rfl,hne',bd3,lc3,hcx⟩:=hr3;(try simp only [go_sem,simprocAttr]);refine s_new (n:=3) (vs:=cz) rfl hz3 hz1 ?_;intro w4 hb6 hm4 hs4;have hne':(e3 != 0)=true:=by simpa using hne'
   (try simp only [go_sem,simprocAttr,hne']);refine e_ref hc za ((hmc.trans (mod0 hm4)).at hb4 n4) ((mod0 hm0b).trans (hmc.trans (mod0 hm4))) (hcx.keep hm4) rfl rfl ?_;intro w5 hb5 hm5 hck;(try simp only [go_sem,simprocAttr,rvs,RV.ev,ln_blk (n:=3) hb5 rfl,one?]);exact ⟨.bad (by simpa using hne') hck,hm5⟩
 | ok y1=>
   obtain ⟨of,st1⟩:=y1;have hgx:=expr_good hE hbo x _ _ hg hx1;rw [hx1] at hr3;obtain ⟨⟨ct,rfl,hty⟩,hcc⟩:=hr3;(try simp only [go_sem,simprocAttr]);refine s_new (n:=3) (vs:=ct) rfl hty.len hty.one ?_;intro we hb6 hme hse;have hmbe:Mod M.two wb we:=hmc.trans (mod0 hme);have hce:=hcc.keep hme;obtain ⟨vo,rfl,hoa⟩:=hty.cells;have kk:we.cell? ⟨wc.heap.size,0,none⟩=some (I of.kind):=by rw [cell_of hb6];rfl
   have bad:(of.kind != 1&&of.kind != 4)=true→(if (([of].headD default).kind != 1&&([of].headD default).kind != 4)=true then (.error 83:Except Int (Ty×St)) else altsS E e.alts ([of].headD default) e.alts 0 default st1) = .error 83:=fun h=>if_pos h
   have good:(of.kind != 1&&of.kind != 4)=false→(if (([of].headD default).kind != 1&&([of].headD default).kind != 4)=true then (.error 83:Except Int (Ty×St)) else altsS E e.alts ([of].headD default) e.alts 0 default st1)=altsS E e.alts of e.alts 0 default st1:=fun h=>if_neg (show ¬ (of.kind != 1&&of.kind != 4)=true by rw [h];simp)
   simp only [];(try simp only [go_sem,simprocAttr,kk]);refine wpS_cut (fun ρ w'=>we=w'∧ρ.get 33=some (.bool (of.kind != 1&&of.kind != 4))∧ρ.get 0=some (ptr M.c)∧ρ.get 3=some (ptr w.heap.size)∧ρ.get 4=some (ptr wa.heap.size)∧ρ.get 6=some (ptr wc.heap.size)) ?_ ?_
   · cases h1:of.kind != 1 with
     | false=>(try simp only [go_sem,simprocAttr]);rfl
     | true=>(try simp only [go_sem,simprocAttr,kk])
   rintro ρ _ ⟨rfl,g33,g0,g3,g4,g6⟩;have zwe:=hme.size;have hm0e:Mod M.two w we:=(mod0 hm0b).trans hmbe;cases hkk:(of.kind != 1&&of.kind != 4) with
   | true=>
     rw [hkk] at g33;rw [bad hkk];(try simp only [go_sem,simprocAttr,g33,g0,g3,g4,g6]);refine e_ref hc za (hmbe.at hb4 n4) hm0e hce rfl rfl ?_;intro w5 hb5 hm5 hck;(try simp only [go_sem,simprocAttr,rvs,RV.ev,ln_blk (n:=3) hb5 rfl,one?]);exact ⟨.bad (by decide) hck,hm5⟩
   | false=>
     rw [hkk] at g33;rw [good hkk];(try simp only [go_sem,simprocAttr,g33,g0,g3,g4,g6]);refine e_al ?_;intro wf hb8 hmf hsf;have zf:=hmf.size;have hb3f:=hmf.at (hmbe.at hb3 n3) _root_.id;have hb4f:=hmf.at (hmbe.at hb4 n4) _root_.id;have hb6f:=hmf.at hb6 _root_.id;have new8:∀ b,b < we.heap.size→And1 (And1 S wa.heap.size) we.heap.size b→And1 S wa.heap.size b:=fun b hb hh=>by
       rcases hh with h | h
       · exact h
       · omega
     have hcf:CkAt wf (And1 (And1 S wa.heap.size) we.heap.size) M E st1.1 st1.2:=hce.ext hmf new8 (fun b hb=>.inl hb) (fun b hb=>by
       rcases hb with h | h
       · have:=hce.lt b h;omega
       · omega)
     have Sf:=hcf.two;have no8:∀ b∈M.list,¬ b=we.heap.size:=list_no hc (by omega);have sub8:∀ b,And1 S wa.heap.size b→And1 (And1 S wa.heap.size) we.heap.size b:=fun b hb=>.inl hb
     have in4:∀ b∈M.list,And1 S wa.heap.size b:=fun b hb=>.inl (hc.inS b hb)
     have hlf:EachAt wf (.slice al e.alts.length cl) 11 (Out (And1 (And1 S wa.heap.size) we.heap.size) wf) (AlAt wf (Out (And1 (And1 S wa.heap.size) we.heap.size) wf)) e.alts:=
       (hlb.up (hmbe.weak Sb) out_not (out_up (hmbe.weak Sb)) (fun _ _ h=>h.up (hmbe.weak Sb) out_not (out_up (hmbe.weak Sb)))).up hmf nof (out_ext (mod0 hmf) new8) (fun _ _ h=>h.up hmf nof (out_ext (mod0 hmf) new8))
     have htyf:TyAt wf (Out (And1 (And1 S wa.heap.size) we.heap.size) wf) [I of.kind,.string of.name,vo] of:=(hty.keep (mod0 hme)).ext (mod0 hmf) new8;have k3:wf.cell? ⟨w.heap.size,6,none⟩=some (.slice al e.alts.length cl):=by rw [cell_of hb3f];rfl
     have up8:∀ {w':World},Mod (And1 M.two we.heap.size) wf w'→Mod (And1 (And1 S wa.heap.size) we.heap.size) wf w':=fun hm=>hm.weak (fun b hb=>by
       rcases hb with h | h
       · exact Sf b h
       · exact .inr h)
     have back:∀ {w':World},Mod (And1 M.two we.heap.size) wf w'→Mod M.two w w':=fun hm=>(hm0e.trans (mod0 hmf)).step hm (fun b hb hl=>by
       rcases hb with h | h
       · exact h
       · omega)
     have n48:¬ And1 M.two we.heap.size wa.heap.size:=fun h=>by
       rcases h with h | h
       · exact n4 h
       · omega
     have n38:¬ And1 M.two we.heap.size w.heap.size:=fun h=>by
       rcases h with h | h
       · exact n3 h
       · omega
     have n68:¬ And1 M.two we.heap.size wc.heap.size:=fun h=>by
       rcases h with h | h
       · exact two_no hc (by omega) h
       · omega
     (try simp only [go_sem,simprocAttr,k3]);refine ir_range e.alts.length (fun k ρ w'=>k≤e.alts.length∧Mod (And1 M.two we.heap.size) wf w'∧(∃ (first:Ty) (st':St) (cf:List Value),w'.heap[we.heap.size]? = some (.cells cf.toArray tyT (0,0))∧cf.length=3∧(∀ u∈cf,u.oneCell'=true)∧(k≠0→TyAt w' (Out (And1 (And1 S wa.heap.size) we.heap.size) w') cf first)∧CkAt w' (And1 (And1 S wa.heap.size) we.heap.size) M E st'.1 st'.2∧GoodL E st'.2 ∧
         altsS E e.alts of (e.alts.drop k) k first st'=altsS E e.alts of e.alts 0 default st1)∧ρ=[(0,ptr M.c),(3,ptr w.heap.size),(4,ptr wa.heap.size),(6,ptr wc.heap.size),(8,ptr we.heap.size),(36,.slice al e.alts.length cl),(37,I e.alts.length),(38,I k)])
       ⟨by omega,.refl _ _,⟨default,st1,zTy,hb8,rfl,zTy_one,fun h=>absurd rfl h,hcf,hgx.2,rfl⟩,rfl⟩ hll ?_ ?_ (by decide) ?_
     · rintro k _ w5 ⟨hk,_,_,rfl⟩;exact ⟨rfl,rfl,hk⟩
     · rintro k _ w5 ⟨_,hm5,⟨first,st',cf,hb8',hf3,hf1,hft,hck,hgl,halt⟩,rfl⟩ hk;rw [altsS_at hk] at halt;have bk:(0:Int)≤k∧(k:Int) < e.alts.length:=by omega
       have hl5:=hlf.up (up8 hm5) out_not (out_up (up8 hm5)) (fun _ _ h=>h.up (up8 hm5) out_not (out_up (up8 hm5)));obtain ⟨adk,ck,rk,ek,hrk,hr11,hlnk,_⟩:=each_at hl5 hk;obtain ⟨rfl,-,-⟩:=tup_inj ek;(try simp only [go_sem,simprocAttr,zb4,zb6,bk,hlnk]);refine s_new (n:=11) (vs:=rk) rfl hr11 hrk.one ?_;intro w6 hb10 hm6 hs6;have hm56:Mod (And1 M.two we.heap.size) wf w6:=hm5.trans (mod0 hm6);have hl6:=hlf.up (up8 hm56) out_not (out_up (up8 hm56)) (fun _ _ h=>h.up (up8 hm56) out_not (out_up (up8 hm56)));have hty6:=htyf.keep (up8 hm56);have k36:w6.cell? ⟨w.heap.size,6,none⟩=some (.slice (some adk) e.alts.length cl):=by rw [cell_of (hm56.at hb3f n38)];rfl
       have hb66:=hm56.at hb6f n68;have hb46:=hm56.at hb4f n48;have hb86:=hm6.at hb8' _root_.id;have hck6:=hck.keep hm6;have hck6':CkAt w6 (And1 S wa.heap.size) M E st'.1 st'.2:=hck6.sub sub8 in4;(try simp only [go_sem,simprocAttr,k36,ln_blk (n:=3) hb66 rfl]);refine e_call (by rfl) ?_;refine (f_altFormed hk hl6 hcap hty6).mono ?_;rintro _ w7 ⟨rfl,hm7⟩;have hm57:=hm56.trans (mod0 hm7);cases hform:altFormedS e.alts k of with
       | false=>
         rw [if_pos hform] at halt;rw [← halt];(try simp only [go_sem,simprocAttr]);refine e_ref hc za (hm7.at hb46 _root_.id) (back hm57) (hck6'.keep hm7) rfl rfl ?_;intro w8 hb hm8 hckk;(try simp only [go_sem,simprocAttr,rvs,RV.ev,ln_blk (n:=3) hb rfl,one?]);exact ⟨.bad (by decide) hckk,hm8⟩
       | true=>
         rw [if_neg (by rw [hform];simp)] at halt;have hr7:AlAt w7 (Out (And1 (And1 S wa.heap.size) we.heap.size) w7) rk e.alts[k]:=(hrk.up (mod0 hm6) out_not (out_up (mod0 hm6))).up (mod0 hm7) out_not (out_up (mod0 hm7));have hk4:e.alts[k].kind=1→of.kind=4:=fun h1=>altF_kind (List.getElem?_eq_getElem hk) hform h1
         (try simp only [go_sem,simprocAttr,ln_blk (n:=11) (hm7.at hb10 _root_.id) hr11,ln_blk (n:=3) (hm7.at hb66 _root_.id) rfl]);refine e_call (by rfl) ?_;refine (f_alt hE hbo (iha _ (List.getElem_mem hk)) hgx.1 hk4 (hck6.keep hm7) hgl hr7 (hty6.keep (mod0 hm7))).mono ?_;rintro r8 w8 ⟨hr8,hm8⟩;obtain ⟨cz,u,rfl,hz3,hz1,hkept⟩:=kept_of hr8;have hm58:Mod (And1 M.two we.heap.size) wf w8:=hm57.trans (hm8.weak (fun b hb=>.inl hb));have hg8:∀ y,altR E of e.alts[k].kind e.alts[k].con e.alts[k].vars (exprS E e.alts[k].body) st' = .ok y→GoodL E y.2.2:=fun y hy=>(altR_good hE hgx.1 hk4 (expr_good hE hbo e.alts[k].body) hgl hy).2
         (try simp only [go_sem,simprocAttr]);refine s_new (n:=3) (vs:=cz) rfl hz3 hz1 ?_;intro w9 hb11 hm9 hs9;have hm59:=hm58.trans (mod0 hm9);have z57:=hm57.size;have n8two:¬ M.two we.heap.size:=two_no hc (by omega);cases hx2:altR E of e.alts[k].kind e.alts[k].con e.alts[k].vars (exprS E e.alts[k].body) st' with
         | error e4=>
           rw [hx2] at hkept halt;obtain ⟨rfl,hne4,bd8,lc8,hc8⟩:=hkept;have hne':(e4 != 0)=true:=by simpa using hne4
           have halt:(Except.error e4:Except Int (Ty×St))=_:=halt;rw [← halt];(try simp only [go_sem,simprocAttr,hne']);refine e_ref hc za (hm59.at hb4f n48) (back hm59) ((hc8.keep hm9).sub sub8 in4) rfl rfl ?_;intro w10 hb hm10 hckk;(try simp only [go_sem,simprocAttr,rvs,RV.ev,ln_blk (n:=3) hb rfl,one?]);exact ⟨.bad hne4 hckk,hm10⟩
         | ok y2=>
           obtain ⟨t2,st2⟩:=y2;have hgl2:=hg8 _ hx2;rw [hx2] at hkept halt;obtain ⟨rfl,hty2,hc8⟩:=hkept;have hty9:=hty2.keep (mod0 hm9);have hc9:=hc8.keep hm9;have hb89:w9.heap[we.heap.size]? = some (.cells cf.toArray tyT (0,0)):=hm9.at (hm8.at (hm7.at hb86 _root_.id) n8two) _root_.id;have halt:(if k=0 then altsS E e.alts of (e.alts.drop (k+1)) (k+1) t2 st2 else if sameT t2 first=true then altsS E e.alts of (e.alts.drop (k+1)) (k+1) first st2 else .error 83)=altsS E e.alts of e.alts 0 default st1:=halt;by_cases hk0:k=0
           · rw [if_pos hk0] at halt;have hkb:((k:Int) == 0)=true:=by simp [hk0]
             (try simp only [go_sem,simprocAttr,hkb,ln_blk (n:=3) hb11 hz3]);refine e_sta (cs:=cf) rfl rfl hb89 hz3 hf3 hz1 ?_;intro w10 hb10' hm10 hs10;(try simp only [go_sem,simprocAttr]);exact ⟨hk,hm59.trans (hm10.weak (fun b hb=>.inr hb)),t2,st2,cz,hb10',hz3,hz1,fun _=>hty9.keep (hm10.weak (fun b hb=>.inr hb)),hc9.side hm10 (fun b hb=>.inr hb) no8,hgl2,halt⟩
           · rw [if_neg hk0] at halt;have hkb:((k:Int) == 0)=false:=by simpa using hk0
             have hft9:TyAt w9 (Out (And1 (And1 S wa.heap.size) we.heap.size) w9) cf first:=((((hft hk0).keep (mod0 hm6)).keep (mod0 hm7)).keep (hm8.weak (fun b hb=>hck6.two b hb))).keep (mod0 hm9);(try simp only [go_sem,simprocAttr,hkb,ln_blk (n:=3) hb11 hz3,ln_blk (n:=3) hb89 hf3]);refine e_call (by rfl) ?_;refine (f_sameType t2 hty9 hft9).mono ?_;rintro _ w10 ⟨rfl,hm10⟩;cases hst:sameT t2 first with
             | false=>
               rw [if_neg (by rw [hst];simp)] at halt;rw [← halt];(try simp only [go_sem,simprocAttr]);refine e_ref hc za (hm10.at (hm59.at hb4f n48) _root_.id) (back (hm59.trans (mod0 hm10))) ((hc9.keep hm10).sub sub8 in4) rfl rfl ?_;intro w11 hb hm11 hckk;(try simp only [go_sem,simprocAttr,rvs,RV.ev,ln_blk (n:=3) hb rfl,one?]);exact ⟨.bad (by decide) hckk,hm11⟩
             | true=>
               rw [if_pos hst] at halt;(try simp only [go_sem,simprocAttr]);exact ⟨hk,hm59.trans (mod0 hm10),first,st2,cf,hm10.at hb89 _root_.id,hf3,hf1,fun _=>hft9.keep (mod0 hm10),hc9.keep hm10,hgl2,halt⟩
     · rintro _ w5 ⟨_,hm5,⟨first,st',cf,hb8',hf3,hf1,hft,hck,hgl,halt⟩,rfl⟩;rw [List.drop_length,altsS] at halt;rw [← halt];have hnz:e.alts.length≠0:=fun h=>hne (List.eq_nil_of_length_eq_zero h)
       have hty5:=(hft hnz).sub sub8;(try simp only [go_sem,simprocAttr,ln_blk (n:=3) hb8' hf3]);refine e_sta (cs:=zTy) rfl rfl (hm5.at hb4f n48) hf3 rfl hf1 ?_;intro w6 hb hm6 hs6;(try simp only [go_sem,simprocAttr,rvs,RV.ev,ln_blk (n:=3) hb hf3,one?]);exact ⟨res_ok (hck.sub sub8 in4) hty5 hm6 hc.inS (list_no hc za),(back hm5).step hm6 (fun b hb hl=>by omega)⟩
end
section
open Go Go.W
theorem res_done {w w':World} {S:Nat→Prop} {M:Ms} {E:Env} {cz:List Value} {u:Value} {x:Except Int (Ty×St)} {b4:Nat} (hk:Kept w (And1 S b4) M E cz u x) (hz3:cz.length=3) (hz1:∀ u∈cz,u.oneCell'=true) (hm:Mod (· = b4) w w') (hin:∀ b∈M.list,S b) (hno:∀ b∈M.list,¬ b=b4) :
   ResE w' S M E (.tuple #[.agg cz.toArray,u]) x:=by
 cases x with
 | error e4=>
   obtain ⟨rfl,hne,bd,lc,hc⟩:=hk;exact ⟨cz,hz3,hz1,rfl,hne,_,_,(hc.side hm (fun b hb=>.inr hb) hno).sub (fun b hb=>.inl hb) hin⟩
 | ok y=>
   obtain ⟨rfl,hty,hc⟩:=hk;exact res_ok hc hty hm hin hno
theorem keptT {w:World} {S:Nat→Prop} {M:Ms} {E:Env} {r:Value} {x:Except Int Ty} {st:St} (h:ResTy w S r x) (hc:CkAt w S M E st.1 st.2):∃ cz u,r = .tuple #[.agg cz.toArray,u]∧cz.length=3∧(∀ u∈cz,u.oneCell'=true)∧Kept w S M E cz u (x.map (fun t=>(t,st))):=by
 cases x with
 | error e4=>obtain ⟨cz,hz3,hz1,rfl,hne⟩:=h;exact ⟨cz,_,rfl,hz3,hz1,rfl,hne,_,_,hc⟩
 | ok y1=>obtain ⟨cz,rfl,hty⟩:=h;exact ⟨cz,_,rfl,hty.len,hty.one,rfl,hty,hc⟩
theorem expr_c {E:Env} (hE:GoodE E) (hbo:badData E boolN 0=false) (e:Ex):ExprC E e:=by
 induction e using Ex.ind with
 | h e ih1 ih2 ih3=>
 intro w S M st cs hc hg he;obtain ⟨vt,va,vb,vl,rfl,ht,ha,hb,hl⟩:=he.parts;obtain ⟨at',ct,rfl⟩:=each_sl ht;obtain ⟨aa,ca,rfl⟩:=each_sl ha;refine fit47.calls rfl ?_;unfold ir47;(try simp only [go_sem,simprocAttr]);refine e_bx rfl ?_;intro wa hba hma hsa;(try simp only [go_sem,simprocAttr]);refine e_al ?_;intro w2 hb4 hmb hsb;have hb3:=hmb.at hba _root_.id;have hm02:=hma.trans hmb;have za:=hma.size;have hc2:CkAt w2 (And1 S wa.heap.size) M E st.1 st.2:=hc.ext hm02 (and1_new za) (fun b hb=>.inl hb) (fun b hb=>by
   rcases hb with h | h
   · have:=hc.lt b h;omega
   · omega)
 have n4:¬ M.two wa.heap.size:=two_no hc za;have he2:=he.ext (mod0 hm02) (and1_new za);(try simp only [go_sem,simprocAttr,ln_blk (n:=7) hb3 rfl]);refine e_call (by rfl) ?_;refine (f_formed e he2).mono ?_;rintro _ w3 ⟨rfl,hm3⟩;have hm03:=hm02.trans hm3;have hc3:=hc2.keep hm3;have he3:=he2.keep (mod0 hm3);have hb3:=hm3.at hb3 _root_.id;have hb4:=hm3.at hb4 _root_.id;have z3:=hm03.size;have z23:=hm3.size;have zh:w2.heap.size=wa.heap.size+1:=hsb;by_cases hf:formedS e=false
 · rw [exprS_eq,if_pos hf];(try simp only [go_sem,simprocAttr,hf]);refine e_ref hc za hb4 (mod0 hm03) hc3 rfl rfl ?_;intro w5 hb5 hm5 hck;(try simp only [go_sem,simprocAttr,rvs,RV.ev,ln_blk (n:=3) hb5 rfl,one?]);exact ⟨.bad (by decide) hck,hm5⟩
 have hf':formedS e=true:=by simpa using hf
 have F:=formed_of hf';have kk:w3.cell? ⟨w.heap.size,0,none⟩=some (I e.kind):=by rw [cell_of hb3];rfl
 have kn:w3.cell? ⟨w.heap.size,1,none⟩=some (.string e.name):=by rw [cell_of hb3];rfl
 have kt:w3.cell? ⟨w.heap.size,3,none⟩=some (.slice at' e.types.length ct):=by rw [cell_of hb3];rfl
 have ka:w3.cell? ⟨w.heap.size,4,none⟩=some (.slice aa e.args.length ca):=by rw [cell_of hb3];rfl
 have lnE:=ln_blk (n:=7) hb3 rfl;have rng:=F.rng;obtain ⟨vt',va',vb',vl',e1',ht3,ha3,-,-⟩:=he3.parts
 injection e1' with _ e1'
 injection e1' with _ e1'
 injection e1' with _ e1'
 injection e1' with e2' e1'
 injection e1' with e3' _
 subst e2' e3';have zr:∀ p∈[(5,w.heap.size),(3,M.c)],p.2 < w3.drew.heap.size:=fun p hp=>by
   have e:w3.drew.heap.size=w3.heap.size:=rfl;simp only [List.mem_cons,List.not_mem_nil,or_false] at hp;rcases hp with rfl | rfl
   · show w.heap.size < _;omega
   · have:=hc3.lt _ (hc3.inS M.c (by simp [Ms.list]));show M.c < _;omega
 (try simp only [go_sem,simprocAttr,hf']);have hkinds:e.kind=1∨e.kind=2∨e.kind=3∨e.kind=4∨e.kind=5∨e.kind=6∨e.kind=7∨e.kind=8∨e.kind=9∨e.kind=10∨e.kind=11∨e.kind=12:=by omega
 rcases hkinds with hk | hk | hk | hk | hk | hk | hk | hk | hk | hk | hk | hk
 ·
   rw [exprS_eq,if_neg hf];rw [if_pos hk];rw [hk] at kk;have q1:((1:Int) == 1)=true:=rfl;(try simp only [go_sem,simprocAttr,kk,q1,cell_of hc3.box,kn]);have hc3d:=hc3.keep (Mod.refl (fun _=>False) w3).drew;refine d_look (Rr:=RTy w3.drew (Out (And1 S wa.heap.size) w3.drew)) (k:=e.name) (b0:=M.ml) (kt:=9) (et:=tyT) (zc:=zTy) rfl rfl rfl rfl (fun w=>Tryz.zeroValue42 w) ⟨rfl,zTy_one⟩ rfl hc3d.locals
     (fun v y hr=>by obtain ⟨cs,rfl,hty⟩:=hr;exact ⟨cs,rfl,hty.len,hty.one⟩) zr (by decide) ?_
   intro w4 ρ4 cz u hold g6 g7 hb6 hm4' hz3 hz1 hcase;have hm4:Mod (fun _=>False) w3 w4:=hm4'.of_drew;have g4:ρ4.get 4=some (ptr wa.heap.size):=(hold 4 (by decide)).trans rfl;have hb4:=hm4.at hb4 _root_.id;have hc4:=hc3.keep hm4;have g6:ρ4.get 6=some (ptr w3.heap.size):=g6;have hb6:w4.heap[w3.heap.size]? = some (.cells cz.toArray tyT (0,0)):=hb6;have hm04:=(mod0 hm03 (S:=M.two)).trans (mod0 hm4);rcases hcase with ⟨hn,rfl⟩ | ⟨x,hx,hr,rfl⟩
   · rw [hn];(try simp only [go_sem,simprocAttr,g4,g6,g7]);refine e_ref hc za hb4 hm04 hc4 rfl rfl ?_;intro w5 hb5 hm5 hck;(try simp only [go_sem,simprocAttr,rvs,RV.ev,ln_blk (n:=3) hb5 rfl,one?]);exact ⟨.bad (by decide) hck,hm5⟩
   · rw [hx];obtain ⟨cs',ecs,hty⟩:=hr;have ecs:cz=cs':=by have:=congrArg Array.toList (show cz.toArray=cs'.toArray by cases ecs;rfl);simpa using this
     subst ecs;(try simp only [go_sem,simprocAttr,g4,g6,g7,ln_blk (n:=3) hb6 hz3]);refine e_sta (cs:=zTy) rfl rfl hb4 hz3 rfl hz1 ?_;intro w5 hb hm5 hs5;(try simp only [go_sem,simprocAttr,rvs,RV.ev,ln_blk (n:=3) hb hz3,one?]);exact ⟨res_ok hc4 (hty.keep (mod0 hm4')) hm5 hc.inS (list_no hc za),hm04.step hm5 (fun b hb hl=>by omega)⟩
 ·
   rw [exprS_eq,if_neg hf];rw [if_neg (show ¬ e.kind=1 by omega)];rw [if_pos hk];rw [hk] at kk;have q1:((2:Int) == 1)=false:=rfl;have q2:((2:Int) == 2)=true:=rfl;(try simp only [go_sem,simprocAttr,kk,q1,q2]);refine e_call (by rfl) ?_;refine f_intType.mono ?_;rintro _ w4 ⟨rfl,hm4⟩;(try simp only [go_sem,simprocAttr]);refine e_sta (cs:=zTy) (vs:=leafC 1 noStr) rfl rfl (hm4.at hb4 _root_.id) rfl rfl (leafC_one _ _) ?_;intro w5 hb hm5 hs5;(try simp only [go_sem,simprocAttr,rvs,RV.ev,ln_blk (n:=3) (cs:=leafC 1 noStr) hb rfl,one?]);exact ⟨res_ok (hc3.keep hm4) (leaf_at _ _ 1 noStr) hm5 hc.inS (list_no hc za),((mod0 hm03).trans (mod0 hm4)).step hm5 (fun b hb hl=>by omega)⟩
 ·
   rw [exprS_eq,if_neg hf];rw [if_neg (show ¬ e.kind=1 by omega)];rw [if_neg (show ¬ e.kind=2 by omega)];rw [if_pos hk];rw [hk] at kk;have q1:((3:Int) == 1)=false:=rfl;have q2:((3:Int) == 2)=false:=rfl;have q3:((3:Int) == 3)=true:=rfl;(try simp only [go_sem,simprocAttr,kk,q1,q2,q3,cell_of hc3.box,kn]);have hc3d:=hc3.keep (Mod.refl (fun _=>False) w3).drew;refine e_lkR (R:=RDef w3.drew (Out (And1 S wa.heap.size) w3.drew)) (k:=e.name) (b:=M.mf) (kt:=9) (et:=122) rfl rfl rfl rfl (Tryz.zeroValue122 _) hc3d.defs (fun hn=>?_) (fun v d hd hr=>?_)
   · rw [hn];(try simp only [go_sem,simprocAttr]);refine e_ref (w3:=w3.drew) hc za hb4 ((mod0 hm03).trans (Mod.refl _ _).drew) hc3d rfl rfl ?_;intro w5 hb5 hm5 hck;(try simp only [go_sem,simprocAttr,rvs,RV.ev,ln_blk (n:=3) hb5 rfl,one?]);exact ⟨.bad (by decide) hck,hm5⟩
   · rw [hd];obtain ⟨ad,rfl,hfp⟩:=hr;obtain ⟨cf,hcf,vp,tc,bc,rfl,hl3,hl7,hps,hty,hbo',_⟩:=hfp;have hlen:(Value.string d.name::vp::(tc++bc)).length=12:=by simp [hl3,hl7]
     have k1:=hcf.at (k:=1) (by omega);have k2:=hcf.ln (o:=2) (n:=3) (by omega);have k1:w3.cell? ⟨ad.block,ad.off+1,none⟩=some vp:=k1;have k2:vLN w3 3 (.pointer (some ⟨ad.block,ad.off+2,none⟩))=some (.agg tc.toArray):=by
       rw [← drew_ln,k2];have:((Value.string d.name::vp::(tc++bc)).drop 2).take 3=tc:=by simp [List.take_append_of_le_length,hl3]
       rw [this]
     (try simp only [go_sem,simprocAttr,k1,k2,kt]);have d1:Mod (And1 S wa.heap.size) w3 w3.drew:=(Mod.refl _ _).drew;have d2:Mod (And1 S wa.heap.size) w3.drew w3.drew.drew:=(Mod.refl _ _).drew;have d3:Mod (fun _=>False) w3.drew w3.drew.drew:=(Mod.refl _ _).drew;refine e_call (by rfl) ?_;refine (f_named d.type (hc3d.keep d3) (hty.keep d2) (hps.up d2 out_not (out_up d2) (fun _ _ h=>h)) (each_keep ht3 (d1.trans d2))).mono ?_;rintro r w5 ⟨hr,hm5⟩;obtain ⟨cz,u,rfl,hz3,hz1,hkept⟩:=keptT hr ((hc3d.keep d3).keep hm5);(try simp only [go_sem,simprocAttr]);refine e_sta (cs:=zTy) rfl rfl (hm5.at hb4 _root_.id) hz3 rfl hz1 ?_;intro w6 hb hm6 hs6;(try simp only [go_sem,simprocAttr,rvs,RV.ev,ln_blk (n:=3) hb hz3,one?]);exact ⟨res_done hkept hz3 hz1 hm6 hc.inS (list_no hc za),(((mod0 hm03 (S:=M.two)).trans (mod0 ((Mod.refl (fun _=>False) w3).drew.trans d3))).trans (mod0 hm5)).step hm6 (fun b hb hl=>by omega)⟩
 ·
   rw [exprS_eq,if_neg hf];rw [if_neg (show ¬ e.kind=1 by omega)];rw [if_neg (show ¬ e.kind=2 by omega)];rw [if_neg (show ¬ e.kind=3 by omega)];rw [if_pos hk];rw [hk] at kk;have q1:((4:Int) == 1)=false:=rfl;have q2:((4:Int) == 2)=false:=rfl;have q3:((4:Int) == 3)=false:=rfl;have q4:((4:Int) == 4)=true:=rfl;(try simp only [go_sem,simprocAttr,kk,q1,q2,q3,q4,cell_of hc3.box,kn]);have hc3d:=hc3.keep (Mod.refl (fun _=>False) w3).drew;refine d_look (Rr:=RPlace w3.drew (Out (And1 S wa.heap.size) w3.drew)) (k:=e.name) (b0:=M.mc) (kt:=9) (et:=158) (zc:=[.pointer none,I 0]) rfl rfl rfl rfl (fun w=>Tryz.zeroValue158 w) ⟨rfl,one_cons rfl (one_cons rfl one_nil)⟩ rfl hc3d.cons
     (fun v y hr=>by obtain ⟨ad,rfl,_⟩:=hr;exact ⟨[.pointer (some ad),I y.2],rfl,rfl,one_cons rfl (one_cons rfl one_nil)⟩) zr (by decide) ?_
   intro w4 ρ4 cz u hold g10 g11 hb10 hm4' hz2 hz1 hcase;have hm4:Mod (fun _=>False) w3 w4:=hm4'.of_drew;have g0:ρ4.get 0=some (ptr M.c):=(hold 0 (by decide)).trans rfl;have g3:ρ4.get 3=some (ptr w.heap.size):=(hold 3 (by decide)).trans rfl;have g4:ρ4.get 4=some (ptr wa.heap.size):=(hold 4 (by decide)).trans rfl;have hb4:=hm4.at hb4 _root_.id;have hc4:=hc3.keep hm4;have g10:ρ4.get 10=some (ptr w3.heap.size):=g10;have hb10:w4.heap[w3.heap.size]? = some (.cells cz.toArray 158 (0,0)):=hb10;have hm04:=(mod0 hm03 (S:=M.two)).trans (mod0 hm4);rcases hcase with ⟨hn,rfl⟩ | ⟨x,hx,⟨ad,hcz,hdp,hx2⟩,rfl⟩
   · rw [hn];(try simp only [go_sem,simprocAttr,g0,g3,g4,g10,g11]);refine e_ref hc za hb4 hm04 hc4 rfl rfl ?_;intro w5 hb5 hm5 hck;(try simp only [go_sem,simprocAttr,rvs,RV.ev,ln_blk (n:=3) hb5 rfl,one?]);exact ⟨.bad (by decide) hck,hm5⟩
   · rw [hx];have hcz:cz=[.pointer (some ad),I x.2]:=by
       have:cz.toArray = #[.pointer (some ad),I x.2]:=by cases hcz;rfl
       have:=congrArg Array.toList this
       simpa using this
     subst hcz;have hdp4:DPtr w4 (Out (And1 S wa.heap.size) w4) ad x.1:=hdp.up (mod0 hm4') out_not (out_up (mod0 hm4'));have hdp4':=hdp4;obtain ⟨cs,hcs,vp,vc,rfl,hpar,hcon⟩:=hdp4;have k1:w4.cell? ⟨ad.block,ad.off+1,none⟩=some vp:=hcs.at (k:=1) (by simp);have kt4:=hm4.cell kt _root_.id;have kb10:w4.cell? ⟨w3.heap.size,0,none⟩=some (.pointer (some ad)):=by rw [cell_of hb10];rfl
     (try simp only [go_sem,simprocAttr,g0,g3,g4,g10,g11,kb10,k1,kt4,ln_blk (n:=2) hb10 rfl]);have dd:Mod (fun _=>False) w4 w4.drew:=(Mod.refl _ _).drew;have hc4d:=hc4.keep dd;have hS:∀ b,And1 S wa.heap.size b→b < w4.drew.heap.size:=hc4d.lt;refine e_call (by rfl) ?_;refine (f_conType x.1 x.2 (hdp4'.up (mod0 dd) out_not (out_up (mod0 dd))) hx2 hS).mono ?_;rintro _ w5' ⟨⟨cq,rfl,htq⟩,hmq⟩;have hmq4:Mod (fun _=>False) w4 w5':=dd.trans hmq;have hlta:=cell_lt k1;have z34:=hm4.size;have hlt10:=cell_lt kb10;(try simp only [go_sem,simprocAttr]);refine ⟨⟨hmq4.old _ (by omega) _root_.id,hmq4.old _ hlta _root_.id,hmq4.old _ hlt10 _root_.id⟩,?_⟩;refine e_call (by rfl) ?_;have ht5:=each_keep (each_keep ht3 (mod0 hm4)) (mod0 hmq4);have hpar5:=hpar.up (mod0 hmq4) out_not (out_up (mod0 hmq4)) (fun _ _ h=>h);have hc5:=hc4.keep hmq4;have hb4:=hmq4.at hb4 _root_.id;have hm05:=hm04.trans (mod0 hmq4);refine (f_named (conT x.1 x.2) hc5 htq hpar5 ht5).mono ?_;rintro r w7 ⟨hr,hm7⟩;obtain ⟨cz,u,rfl,hz3,hz1,hkept⟩:=keptT hr (hc5.keep hm7);(try simp only [go_sem,simprocAttr]);refine e_sta (cs:=zTy) rfl rfl (hm7.at hb4 _root_.id) hz3 rfl hz1 ?_;intro w6 hb hm6 hs6;(try simp only [go_sem,simprocAttr,rvs,RV.ev,ln_blk (n:=3) hb hz3,one?]);exact ⟨res_done hkept hz3 hz1 hm6 hc.inS (list_no hc za),(hm05.trans (mod0 hm7)).step hm6 (fun b hb hl=>by omega)⟩
 ·
   rw [exprS_eq,if_neg hf];rw [if_neg (show ¬ e.kind=1 by omega)];rw [if_neg (show ¬ e.kind=2 by omega)];rw [if_neg (show ¬ e.kind=3 by omega)];rw [if_neg (show ¬ e.kind=4 by omega)];rw [if_neg (show ¬ e.kind=12 by omega)];rw [if_pos hk];rw [hk] at kk;have q1:((5:Int) == 1)=false:=rfl;have q2:((5:Int) == 2)=false:=rfl;have q3:((5:Int) == 3)=false:=rfl;have q4:((5:Int) == 4)=false:=rfl;have q12:((5:Int) == 12)=false:=rfl;have q5:((5:Int) == 5)=true:=rfl;obtain ⟨x,y,hxy⟩:=list_two (F.a2 (by omega));(try simp only [go_sem,simprocAttr,kk,q1,q2,q3,q4,q12,q5,lnE]);refine e_call (by rfl) ?_;refine (f_app hE hbo hxy (ih1 x (by simp [hxy])) (ih1 y (by simp [hxy])) hc3 hg he3).mono ?_;rintro r w4 ⟨hr,hm4⟩;obtain ⟨cz,u,rfl,hz3,hz1,hkept⟩:=kept_of hr;(try simp only [go_sem,simprocAttr]);refine e_sta (cs:=zTy) rfl rfl (hm4.at hb4 n4) hz3 rfl hz1 ?_;intro w5 hb hm5 hs5;(try simp only [go_sem,simprocAttr,rvs,RV.ev,ln_blk (n:=3) hb hz3,one?]);exact ⟨res_done hkept hz3 hz1 hm5 hc.inS (list_no hc za),((mod0 hm03).trans hm4).step hm5 (fun b hb hl=>by omega)⟩
 ·
   rw [exprS_eq,if_neg hf];rw [if_neg (show ¬ e.kind=1 by omega)];rw [if_neg (show ¬ e.kind=2 by omega)];rw [if_neg (show ¬ e.kind=3 by omega)];rw [if_neg (show ¬ e.kind=4 by omega)];rw [if_neg (show ¬ e.kind=12 by omega)];rw [if_neg (show ¬ e.kind=5 by omega)];rw [if_neg (show ¬ e.kind=9 by omega)];rw [if_neg (show ¬ e.kind=10 by omega)];rw [if_pos hk];rw [hk] at kk;have q1:((6:Int) == 1)=false:=rfl;have q2:((6:Int) == 2)=false:=rfl;have q3:((6:Int) == 3)=false:=rfl;have q4:((6:Int) == 4)=false:=rfl;have q12:((6:Int) == 12)=false:=rfl;have q5:((6:Int) == 5)=false:=rfl;have q9:((6:Int) == 9)=false:=rfl;have q10:((6:Int) == 10)=false:=rfl;have q6:((6:Int) == 6)=true:=rfl;obtain ⟨x,hx0⟩:=list_one (F.a1 (by omega));obtain ⟨b,hb0⟩:=list_one (F.b1 (by omega));rw [hb0];(try simp only [go_sem,simprocAttr,kk,q1,q2,q3,q4,q12,q5,q9,q10,q6,lnE]);refine e_call (by rfl) ?_;refine (f_lam hE hbo hx0 hb0 (ih1 x (by simp [hx0])) hc3 hg he3).mono ?_;rintro r w4 ⟨hr,hm4⟩;obtain ⟨cz,u,rfl,hz3,hz1,hkept⟩:=kept_of hr;(try simp only [go_sem,simprocAttr]);refine e_sta (cs:=zTy) rfl rfl (hm4.at hb4 n4) hz3 rfl hz1 ?_;intro w5 hb hm5 hs5;(try simp only [go_sem,simprocAttr,rvs,RV.ev,ln_blk (n:=3) hb hz3,one?]);exact ⟨res_done hkept hz3 hz1 hm5 hc.inS (list_no hc za),((mod0 hm03).trans hm4).step hm5 (fun b hb hl=>by omega)⟩
 ·
   rw [exprS_eq,if_neg hf];rw [if_neg (show ¬ e.kind=1 by omega)];rw [if_neg (show ¬ e.kind=2 by omega)];rw [if_neg (show ¬ e.kind=3 by omega)];rw [if_neg (show ¬ e.kind=4 by omega)];rw [if_neg (show ¬ e.kind=12 by omega)];rw [if_neg (show ¬ e.kind=5 by omega)];rw [if_neg (show ¬ e.kind=9 by omega)];rw [if_neg (show ¬ e.kind=10 by omega)];rw [if_neg (show ¬ e.kind=6 by omega)];rw [if_pos (show e.kind=7∨e.kind=11 by omega)];rw [hk] at kk;have q1:((7:Int) == 1)=false:=rfl;have q2:((7:Int) == 2)=false:=rfl;have q3:((7:Int) == 3)=false:=rfl;have q4:((7:Int) == 4)=false:=rfl;have q12:((7:Int) == 12)=false:=rfl;have q5:((7:Int) == 5)=false:=rfl;have q9:((7:Int) == 9)=false:=rfl;have q10:((7:Int) == 10)=false:=rfl;have q6:((7:Int) == 6)=false:=rfl;have q7:((7:Int) == 7)=true:=rfl;obtain ⟨x,hx0⟩:=list_one (F.a1 (by omega));(try simp only [go_sem,simprocAttr,kk,q1,q2,q3,q4,q12,q5,q9,q10,q6,q7,lnE]);refine e_call (by rfl) ?_;refine (f_let hE hbo hx0 (ih1 x (by simp [hx0])) ih2 hc3 hg he3).mono ?_;rintro r w4 ⟨hr,hm4⟩;obtain ⟨cz,u,rfl,hz3,hz1,hkept⟩:=kept_of hr;(try simp only [go_sem,simprocAttr]);refine e_sta (cs:=zTy) rfl rfl (hm4.at hb4 n4) hz3 rfl hz1 ?_;intro w5 hb hm5 hs5;(try simp only [go_sem,simprocAttr,rvs,RV.ev,ln_blk (n:=3) hb hz3,one?]);exact ⟨res_done hkept hz3 hz1 hm5 hc.inS (list_no hc za),((mod0 hm03).trans hm4).step hm5 (fun b hb hl=>by omega)⟩
 ·
   rw [exprS_eq,if_neg hf];rw [if_neg (show ¬ e.kind=1 by omega)];rw [if_neg (show ¬ e.kind=2 by omega)];rw [if_neg (show ¬ e.kind=3 by omega)];rw [if_neg (show ¬ e.kind=4 by omega)];rw [if_neg (show ¬ e.kind=12 by omega)];rw [if_neg (show ¬ e.kind=5 by omega)];rw [if_neg (show ¬ e.kind=9 by omega)];rw [if_neg (show ¬ e.kind=10 by omega)];rw [if_neg (show ¬ e.kind=6 by omega)];rw [if_neg (show ¬ (e.kind=7∨e.kind=11) by omega)];rw [hk] at kk;have q1:((8:Int) == 1)=false:=rfl;have q2:((8:Int) == 2)=false:=rfl;have q3:((8:Int) == 3)=false:=rfl;have q4:((8:Int) == 4)=false:=rfl;have q12:((8:Int) == 12)=false:=rfl;have q5:((8:Int) == 5)=false:=rfl;have q9:((8:Int) == 9)=false:=rfl;have q10:((8:Int) == 10)=false:=rfl;have q6:((8:Int) == 6)=false:=rfl;have q7:((8:Int) == 7)=false:=rfl;have q11:((8:Int) == 11)=false:=rfl;obtain ⟨x,hx0⟩:=list_one (F.a1 (by omega));(try simp only [go_sem,simprocAttr,kk,q1,q2,q3,q4,q12,q5,q9,q10,q6,q7,q11,lnE]);refine e_call (by rfl) ?_;refine (f_cased hE hbo hx0 (fun h=>by have:=F.al hk;rw [h] at this;simp at this) (ih1 x (by simp [hx0])) ih3 hc3 hg he3).mono ?_;rintro r w4 ⟨hr,hm4⟩;obtain ⟨cz,u,rfl,hz3,hz1,hkept⟩:=kept_of hr;(try simp only [go_sem,simprocAttr]);refine e_sta (cs:=zTy) rfl rfl (hm4.at hb4 n4) hz3 rfl hz1 ?_;intro w5 hb hm5 hs5;(try simp only [go_sem,simprocAttr,rvs,RV.ev,ln_blk (n:=3) hb hz3,one?]);exact ⟨res_done hkept hz3 hz1 hm5 hc.inS (list_no hc za),((mod0 hm03).trans hm4).step hm5 (fun b hb hl=>by omega)⟩
 ·
   rw [exprS_eq,if_neg hf];rw [if_neg (show ¬ e.kind=1 by omega)];rw [if_neg (show ¬ e.kind=2 by omega)];rw [if_neg (show ¬ e.kind=3 by omega)];rw [if_neg (show ¬ e.kind=4 by omega)];rw [if_neg (show ¬ e.kind=12 by omega)];rw [if_neg (show ¬ e.kind=5 by omega)];rw [if_pos hk];rw [hk] at kk;have q1:((9:Int) == 1)=false:=rfl;have q2:((9:Int) == 2)=false:=rfl;have q3:((9:Int) == 3)=false:=rfl;have q4:((9:Int) == 4)=false:=rfl;have q12:((9:Int) == 12)=false:=rfl;have q5:((9:Int) == 5)=false:=rfl;have q9:((9:Int) == 9)=true:=rfl;(try simp only [go_sem,simprocAttr,kk,q1,q2,q3,q4,q12,q5,q9,lnE]);refine e_call (by rfl) ?_;refine (f_op hE hbo (F.a2 (by omega)) (F.op hk) ih1 hc3 hg he3).mono ?_;rintro r w4 ⟨hr,hm4⟩;obtain ⟨cz,u,rfl,hz3,hz1,hkept⟩:=kept_of hr;(try simp only [go_sem,simprocAttr]);refine e_sta (cs:=zTy) rfl rfl (hm4.at hb4 n4) hz3 rfl hz1 ?_;intro w5 hb hm5 hs5;(try simp only [go_sem,simprocAttr,rvs,RV.ev,ln_blk (n:=3) hb hz3,one?]);exact ⟨res_done hkept hz3 hz1 hm5 hc.inS (list_no hc za),((mod0 hm03).trans hm4).step hm5 (fun b hb hl=>by omega)⟩
 ·
   rw [exprS_eq,if_neg hf];rw [if_neg (show ¬ e.kind=1 by omega)];rw [if_neg (show ¬ e.kind=2 by omega)];rw [if_neg (show ¬ e.kind=3 by omega)];rw [if_neg (show ¬ e.kind=4 by omega)];rw [if_neg (show ¬ e.kind=12 by omega)];rw [if_neg (show ¬ e.kind=5 by omega)];rw [if_neg (show ¬ e.kind=9 by omega)];rw [if_pos hk];rw [hk] at kk;have q1:((10:Int) == 1)=false:=rfl;have q2:((10:Int) == 2)=false:=rfl;have q3:((10:Int) == 3)=false:=rfl;have q4:((10:Int) == 4)=false:=rfl;have q12:((10:Int) == 12)=false:=rfl;have q5:((10:Int) == 5)=false:=rfl;have q9:((10:Int) == 9)=false:=rfl;have q10:((10:Int) == 10)=true:=rfl;obtain ⟨x,y,hxy⟩:=list_two (F.a2 (by omega));have hl2:e.args.length=2:=by rw [hxy];rfl
   have b1:(0:Int)≤0∧(0:Int) < e.args.length:=by omega
   have b2:(0:Int)≤1∧(1:Int) < e.args.length:=by omega
   obtain ⟨ad,c1,r1,e1,hx,hlnx⟩:=arg_at ha3 (i:=0) (by omega);obtain ⟨rfl,-,-⟩:=tup_inj e1;have ex0:e.args[0]'(by omega)=x:=by simp [hxy]
   have ex1:e.args[1]'(by omega)=y:=by simp [hxy]
   rw [ex0] at hx;rw [Nat.zero_mul,add_zero'] at hlnx;rw [hxy];simp only [exprsS];(try simp only [go_sem,simprocAttr,zb4,zb6,kk,q1,q2,q3,q4,q12,q5,q9,q10,ka,b1,Nat.zero_mul,hlnx]);refine e_call (by rfl) ?_;refine (ih1 x (by simp [hxy]) hc3 hg hx).mono ?_;rintro r4 w4 ⟨hr4,hm4⟩;cases hx1:exprS E x st with
   | error e3=>
     rw [hx1] at hr4;obtain ⟨cz,hz3,hz1,rfl,hne,bd3,lc3,hcx⟩:=hr4;(try simp only [go_sem,simprocAttr]);refine s_new (n:=3) (vs:=cz) rfl hz3 hz1 ?_;intro w5 hb5 hm5 hs5;have hne':(e3 != 0)=true:=by simpa using hne
     (try simp only [go_sem,simprocAttr,hne']);refine e_ref hc za ((hm4.trans (mod0 hm5)).at hb4 n4) ((mod0 hm03).trans (hm4.trans (mod0 hm5))) (hcx.keep hm5) rfl rfl ?_;intro w6 hb6 hm6 hck;(try simp only [go_sem,simprocAttr,rvs,RV.ev,ln_blk (n:=3) hb6 rfl,one?]);exact ⟨.bad hne hck,hm6⟩
   | ok y1=>
     obtain ⟨t1,st1⟩:=y1;rw [hx1] at hr4;obtain ⟨⟨c4,rfl,hty4⟩,hc4⟩:=hr4;have g1:=expr_good hE hbo x st _ hg hx1;(try simp only [go_sem,simprocAttr]);refine s_new (n:=3) (vs:=c4) rfl hty4.len hty4.one ?_;intro w5 hb5 hm5 hs5;have hc5:=hc4.keep hm5;have hm35:=hm4.trans (mod0 hm5);have S2:=hc3.two;have hb3:=hm35.at hb3 (two_no hc (Nat.le_refl _));have ka5:w5.cell? ⟨w.heap.size,4,none⟩=some (.slice (some ad) e.args.length ca):=by rw [cell_of hb3];rfl
     have ha5:EachAt w5 (.slice (some ad) e.args.length ca) 7 (Out (And1 S wa.heap.size) w5) (ExAt w5 (Out (And1 S wa.heap.size) w5)) e.args:=ha3.up hm35 (fun b hb hh=>hb.2 (S2 b hh)) (out_up (hm35.weak S2)) (fun _ _ h=>h.keep (hm35.weak S2));obtain ⟨ad',c1',r2,e2,hy,hlny⟩:=arg_at ha5 (i:=1) (by omega);obtain ⟨e3,-,-⟩:=tup_inj e2;cases e3;rw [ex1] at hy;rw [Nat.one_mul,add_pos _ (n:=7) (by decide)] at hlny;(try simp only [go_sem,simprocAttr,zb4,zb6,ka5,b2,Int.toNat_one,Nat.one_mul,hlny]);refine e_call (by rfl) ?_;refine (ih1 y (by simp [hxy]) (st:=st1) hc5 g1.2 hy).mono ?_;rintro r6 w6 ⟨hr6,hm6⟩;obtain ⟨cz,u,rfl,hz3,hz1,hkept⟩:=kept_of hr6;have hm36:=hm35.trans hm6;(try simp only [go_sem,simprocAttr]);refine e_sta (cs:=zTy) rfl rfl (hm36.at hb4 n4) hz3 rfl hz1 ?_;intro w7 hb hm7 hs7;(try simp only [go_sem,simprocAttr,rvs,RV.ev,ln_blk (n:=3) hb hz3,one?]);have hX:(match (match exprS E y st1 with | .error x=>.error x | .ok y=>(match (.ok ([],y.2):Except Int (List Ty×St)) with | .error x=>.error x | .ok z=>.ok (y.1::z.1,z.2)):Except Int (List Ty×St)) with | .error x=>(.error x:Except Int (List Ty×St)) | .ok z=>.ok (t1::z.1,z.2))=(match exprS E y st1 with | .error x=>.error x | .ok y=>.ok ([t1,y.1],y.2)):=by
       cases exprS E y st1<;>rfl
     refine ⟨?_,((mod0 hm03).trans hm36).step hm7 (fun b hb hl=>by omega)⟩;have hR:=res_done hkept hz3 hz1 hm7 hc.inS (list_no hc za);cases hy1:exprS E y st1 with
     | error e=>rw [hy1] at hR;exact hR
     | ok y2=>rw [hy1] at hR;exact hR
 ·
   rw [exprS_eq,if_neg hf];rw [if_neg (show ¬ e.kind=1 by omega)];rw [if_neg (show ¬ e.kind=2 by omega)];rw [if_neg (show ¬ e.kind=3 by omega)];rw [if_neg (show ¬ e.kind=4 by omega)];rw [if_neg (show ¬ e.kind=12 by omega)];rw [if_neg (show ¬ e.kind=5 by omega)];rw [if_neg (show ¬ e.kind=9 by omega)];rw [if_neg (show ¬ e.kind=10 by omega)];rw [if_neg (show ¬ e.kind=6 by omega)];rw [if_pos (show e.kind=7∨e.kind=11 by omega)];rw [hk] at kk;have q1:((11:Int) == 1)=false:=rfl;have q2:((11:Int) == 2)=false:=rfl;have q3:((11:Int) == 3)=false:=rfl;have q4:((11:Int) == 4)=false:=rfl;have q12:((11:Int) == 12)=false:=rfl;have q5:((11:Int) == 5)=false:=rfl;have q9:((11:Int) == 9)=false:=rfl;have q10:((11:Int) == 10)=false:=rfl;have q6:((11:Int) == 6)=false:=rfl;have q7:((11:Int) == 7)=false:=rfl;have q11:((11:Int) == 11)=true:=rfl;obtain ⟨x,hx0⟩:=list_one (F.a1 (by omega));(try simp only [go_sem,simprocAttr,kk,q1,q2,q3,q4,q12,q5,q9,q10,q6,q7,q11,lnE]);refine e_call (by rfl) ?_;refine (f_let hE hbo hx0 (ih1 x (by simp [hx0])) ih2 hc3 hg he3).mono ?_;rintro r w4 ⟨hr,hm4⟩;obtain ⟨cz,u,rfl,hz3,hz1,hkept⟩:=kept_of hr;(try simp only [go_sem,simprocAttr]);refine e_sta (cs:=zTy) rfl rfl (hm4.at hb4 n4) hz3 rfl hz1 ?_;intro w5 hb hm5 hs5;(try simp only [go_sem,simprocAttr,rvs,RV.ev,ln_blk (n:=3) hb hz3,one?]);exact ⟨res_done hkept hz3 hz1 hm5 hc.inS (list_no hc za),((mod0 hm03).trans hm4).step hm5 (fun b hb hl=>by omega)⟩
 ·
   rw [exprS_eq,if_neg hf];rw [if_neg (show ¬ e.kind=1 by omega)];rw [if_neg (show ¬ e.kind=2 by omega)];rw [if_neg (show ¬ e.kind=3 by omega)];rw [if_neg (show ¬ e.kind=4 by omega)];rw [if_pos hk];rw [hk] at kk;have q1:((12:Int) == 1)=false:=rfl;have q2:((12:Int) == 2)=false:=rfl;have q3:((12:Int) == 3)=false:=rfl;have q4:((12:Int) == 4)=false:=rfl;have q12:((12:Int) == 12)=true:=rfl;obtain ⟨t0,ht0⟩:=list_one (F.t1 hk);have t00:e.types[0]'(by rw [ht0];simp)=t0:=by simp [ht0]
   rw [ht0];have hl1:e.types.length=1:=by rw [ht0];rfl
   obtain ⟨ad,c1,r1,e1,hty,hr3,hlt,_⟩:=each_at ht3 (i:=0) (by omega);obtain ⟨rfl,-,-⟩:=tup_inj e1;rw [t00] at hty;rw [Nat.zero_mul,add_zero'] at hlt;have b1:(0:Int)≤0∧(0:Int) < e.types.length:=by omega
   (try simp only [go_sem,simprocAttr,zb4,zb6,kk,q1,q2,q3,q4,q12,kt,b1,Nat.zero_mul,hlt]);refine e_call (by rfl) ?_;refine (f_right t0 hc3 hty).mono ?_;rintro _ w5 ⟨rfl,hm5⟩;have hc5:=hc3.keep hm5;have hb4:=hm5.at hb4 _root_.id;have hty5:=hty.keep (mod0 hm5);have kt5:=hm5.cell kt _root_.id;obtain ⟨ad5,c15,r5,e5,hty5',hr35,hlt5,_⟩:=each_at (each_keep ht3 (mod0 hm5)) (i:=0) (by omega);obtain ⟨e55,-,-⟩:=tup_inj e5;cases e55;rw [t00] at hty5';rw [Nat.zero_mul,add_zero'] at hlt5;cases hrt:rightS E t0 with
   | false=>
     (try simp only [go_sem,simprocAttr]);refine e_ref hc za hb4 ((mod0 hm03).trans (mod0 hm5)) hc5 rfl rfl ?_;intro w6 hb5 hm6 hck;(try simp only [go_sem,simprocAttr,rvs,RV.ev,ln_blk (n:=3) hb5 rfl,one?]);exact ⟨.bad (by decide) hck,hm6⟩
   | true=>
     (try simp only [go_sem,simprocAttr,zb4,zb6,kt5,b1,Nat.zero_mul,hlt5]);refine e_sta (cs:=zTy) rfl rfl hb4 hr35 rfl hty5'.one ?_;intro w6 hb hm6 hs6;(try simp only [go_sem,simprocAttr,rvs,RV.ev,ln_blk (n:=3) hb hr35,one?]);exact ⟨res_ok hc5 hty5' hm6 hc.inS (list_no hc za),((mod0 hm03).trans (mod0 hm5)).step hm6 (fun b hb hl=>by omega)⟩
end
section
open Go Go.W
structure Ck0 (w:World) (S:Nat→Prop) (c md mc mf:Nat) (E:Env):Prop where
 box:∃ vp vb vl:Value,vp.oneCell'=true∧vb.oneCell'=true∧vl.oneCell'=true∧w.heap[c]? = some (.cells [.map (some md),.map (some mc),.map (some mf),vp,.bool false,vb,vl].toArray ckT (0,0))
 nodup:[c,md,mc,mf].Nodup
 inS:∀ b∈[c,md,mc,mf],S b
 lt:∀ b,S b→b < w.heap.size
 datas:MapR w md (RData w (Out S w)) E.datas
 cons:MapR w mc (RPlace w (Out S w)) E.cons
 defs:MapR w mf (RDef w (Out S w)) E.defs
theorem ck0_ne {c md mc mf:Nat} (h:[c,md,mc,mf].Nodup):(c≠md∧c≠mc∧c≠mf)∧(md≠mc∧md≠mf)∧mc≠mf:=by
 simp only [List.nodup_cons,List.mem_cons,List.not_mem_nil,or_false,not_or,not_false_eq_true,List.nodup_nil,and_true] at h;exact h
section
variable {w w':World} {S S' T:Nat→Prop} {c md mc mf:Nat} {E:Env}
theorem CkAt.forget {M:Ms} {bd:Cnt} {lc:Loc} (h:CkAt w S M E bd lc):Ck0 w S M.c M.md M.mc M.mf E:=by
 obtain ⟨⟨a1,a2,a3,_⟩,⟨b1,b2,_⟩,⟨c1,_⟩,_⟩:=Ms.ne h.nodup;refine ⟨⟨.map (some M.mp),.map (some M.mb),.map (some M.ml),rfl,rfl,rfl,h.box⟩,?_,fun b hb=>h.inS b ?_,h.lt,h.datas,h.cons,h.defs⟩
 · simp [a1,a2,a3,b1,b2,c1]
 · simp only [List.mem_cons,List.not_mem_nil,or_false] at hb;rcases hb with rfl | rfl | rfl | rfl<;>simp [Ms.list]
theorem Ck0.upd {E':Env} (h:Ck0 w S c md mc mf E) (hm:Mod T w w') (hT:∀ b,T b→S b) (hc:¬ T c) (h1:MapR w' md (RData w' (Out S w')) E'.datas) (h2:MapR w' mc (RPlace w' (Out S w')) E'.cons) (h3:MapR w' mf (RDef w' (Out S w')) E'.defs):Ck0 w' S c md mc mf E':=by
 obtain ⟨vp,vb,vl,e1,e2,e3,hb⟩:=h.box;exact ⟨⟨vp,vb,vl,e1,e2,e3,hm.at hb hc⟩,h.nodup,h.inS,fun b hb=>Nat.lt_of_lt_of_le (h.lt b hb) hm.size,h1,h2,h3⟩
theorem Ck0.dat (h:Ck0 w S c md mc mf E) (hm:Mod T w w') (hT:∀ b,T b→S b) (hn:¬ T md):MapR w' md (RData w' (Out S w')) E.datas:=
 h.datas.mod hm hn (fun _ _ x=>x.up (hm.weak hT) out_not (out_up (hm.weak hT)))
theorem Ck0.con (h:Ck0 w S c md mc mf E) (hm:Mod T w w') (hT:∀ b,T b→S b) (hn:¬ T mc):MapR w' mc (RPlace w' (Out S w')) E.cons:=
 h.cons.mod hm hn (fun _ _ x=>x.up (hm.weak hT) out_not (out_up (hm.weak hT)))
theorem Ck0.def (h:Ck0 w S c md mc mf E) (hm:Mod T w w') (hT:∀ b,T b→S b) (hn:¬ T mf):MapR w' mf (RDef w' (Out S w')) E.defs:=
 h.defs.mod hm hn (fun _ _ x=>x.up (hm.weak hT) out_not (out_up (hm.weak hT)))
theorem Ck0.keep (h:Ck0 w S c md mc mf E) (hm:Mod (fun _=>False) w w'):Ck0 w' S c md mc mf E:=
 h.upd hm (fun _ h=>h.elim) _root_.id (h.dat hm (fun _ h=>h.elim) _root_.id) (h.con hm (fun _ h=>h.elim) _root_.id) (h.def hm (fun _ h=>h.elim) _root_.id)
end
def enterC (d:Dt):List Cn→Nat→List (ByteArray×(Dt×Nat))→List (ByteArray×(Dt×Nat))
 | [],_,l=>l
 | k::ks,i,l=>enterC d ks (i+1) (aput l k.name (d,i))
def enterE (E:Env) (d:Dt):Env:={ E with datas:=aput E.datas d.name d,cons:=enterC d d.cons 0 E.cons}
theorem enterC_at {d:Dt} {l:List Cn} {i:Nat} (hi:i < l.length) (m:List (ByteArray×(Dt×Nat))):enterC d (l.drop i) i m=enterC d (l.drop (i+1)) (i+1) (aput m l[i].name (d,i)):=by rw [List.drop_eq_getElem_cons hi,enterC]
theorem f_enter {E:Env} {d:Dt} {a:Addr} {w:World} {S:Nat→Prop} {c md mc mf:Nat} (hc:Ck0 w S c md mc mf E) (hp:DPtr w (Out S w) a d) :
   CallsR Tryz.prog 58 [ptr c,.pointer (some a)] w fun r w'=>Ck0 w' S c md mc mf (enterE E d)∧Mod (fun b=>b=md∨b=mc) w w':=by
 obtain ⟨⟨n1,n2,n3⟩,⟨n4,n5⟩,n6⟩:=ck0_ne hc.nodup;obtain ⟨vp,vb,vl,o1,o2,o3,hbox⟩:=hc.box;have hp0:=hp;obtain ⟨cs,hcs,vps,vc,rfl,hpar,hcon⟩:=hp;obtain ⟨ac,cc,rfl⟩:=each_sl hcon;refine fit58.calls rfl ?_;unfold ir58;have k0:w.cell? a=some (.string d.name):=hcs.c0 (by simp);(try simp only [go_sem,simprocAttr,cell_of hbox,k0]);have hd0:Mod (fun _=>False) w w.drew:=(Mod.refl _ _).drew;refine e_muR (R:=RData w.drew (Out S w.drew)) (a:=d) (k:=d.name) (b:=md) (kt:=9) (et:=152) rfl rfl rfl rfl rfl (hc.dat hd0 (fun _ h=>h.elim) _root_.id) ⟨a,rfl,hp0.up (mod0 hd0) out_not (out_up (mod0 hd0))⟩ ?_;intro w1 h1 hm1 hs1;have S1:∀ b,b=md→S b:=fun b hb=>by rw [hb];exact hc.inS _ (by simp)
 have hm01:Mod (· = md) w w1:=hm1.of_drew;have h1:=MapR.mod h1 (Mod.refl (fun _=>False) w1) _root_.id (fun v y x=>x.up (hm1.weak S1) out_not (out_up (hm1.weak S1)));have hc1:Ck0 w1 S c md mc mf { E with datas:=aput E.datas d.name d}:=hc.upd hm01 S1 (fun h=>n1 h) h1 (hc.con hm01 S1 (fun h=>n4 h.symm)) (hc.def hm01 S1 (fun h=>n5 h.symm));have St:∀ b,(b=md∨b=mc)→S b:=fun b hb=>by rcases hb with rfl | rfl<;>exact hc.inS _ (by simp)
 have S2:∀ b,b=mc→S b:=fun b hb=>St b (.inr hb)
 have hll:=each_len hcon;have later:∀ {w':World},Mod (fun b=>b=md∨b=mc) w w'→CellsAt w' (Out S w') a [.string d.name,vps,.slice ac d.cons.length cc]∧EachAt w' (.slice ac d.cons.length cc) 2 (Out S w') (CnAt w' (Out S w')) d.cons∧DPtr w' (Out S w') a d:=fun hm=>
   ⟨hcs.up (hm.weak St) out_not (out_up (hm.weak St)),hcon.up (hm.weak St) out_not (out_up (hm.weak St)) (fun _ _ h=>h.up (hm.weak St) out_not (out_up (hm.weak St))),hp0.up (hm.weak St) out_not (out_up (hm.weak St))⟩
 have hm01':Mod (fun b=>b=md∨b=mc) w w1:=hm01.weak (fun b h=>.inl h);have k2:w1.cell? ⟨a.block,a.off+2,none⟩=some (.slice ac d.cons.length cc):=(later hm01').1.at (k:=2) (by simp);(try simp only [go_sem,simprocAttr,k2]);refine ir_range d.cons.length (fun k ρ w'=>k≤d.cons.length∧Mod (fun b=>b=md∨b=mc) w w'∧(∃ m,Ck0 w' S c md mc mf ⟨aput E.datas d.name d,m,E.defs,E.params⟩∧enterC d (d.cons.drop k) k m=enterC d d.cons 0 E.cons)∧ρ=[(0,ptr c),(1,.pointer (some a)),(18,.slice ac d.cons.length cc),(19,I d.cons.length),(20,I k)])
   ⟨by omega,hm01',⟨E.cons,hc1,rfl⟩,rfl⟩ hll ?_ ?_ (by decide) ?_
 · rintro k _ w2 ⟨hk,_,_,rfl⟩;exact ⟨rfl,rfl,hk⟩
 · rintro k _ w2 ⟨_,hm2,⟨m,hck,hen⟩,rfl⟩ hk;rw [enterC_at hk] at hen;obtain ⟨q1,q2,q3⟩:=later hm2;obtain ⟨ad,c2,r,e,hr,hl2,hln,_⟩:=each_at q2 hk;obtain ⟨rfl,-,-⟩:=tup_inj e;obtain ⟨vf,rfl,hf,hn⟩:=hr;have bk:(0:Int)≤k∧(k:Int) < d.cons.length:=by omega
   obtain ⟨vp2,vb2,vl2,_,_,_,hbox2⟩:=hck.box;(try simp only [go_sem,simprocAttr,zb4,zb6,bk,hln]);refine s_new (n:=2) (vs:=[.string d.cons[k].name,vf]) rfl rfl (one_cons rfl (one_cons (each_one hf) one_nil)) ?_;intro w3 hb3 hm3 hs3;have hc3:=hck.keep hm3;have kn:w3.cell? ⟨w2.heap.size,0,none⟩=some (.string d.cons[k].name):=by rw [cell_of hb3];rfl
   (try simp only [go_sem,simprocAttr,kn,cell_of (hm3.at hbox2 _root_.id)]);have hd3:Mod (fun _=>False) w3 w3.drew:=(Mod.refl _ _).drew;have hm23:=hm2.trans (mod0 hm3);refine e_muR (R:=RPlace w3.drew (Out S w3.drew)) (a:=(d,k)) (k:=d.cons[k].name) (b:=mc) (kt:=9) (et:=158) rfl rfl rfl rfl rfl (hc3.con hd3 (fun _ h=>h.elim) _root_.id) ⟨a,rfl,(later (hm23.trans (mod0 hd3))).2.2,hk⟩ ?_;intro w4 h4 hm4 hs4;have hm4':Mod (· = mc) w3 w4:=hm4.of_drew;have h4:=MapR.mod h4 (Mod.refl (fun _=>False) w4) _root_.id (fun v y x=>x.up (hm4.weak S2) out_not (out_up (hm4.weak S2)));(try simp only [go_sem,simprocAttr]);exact ⟨hk,hm23.trans (hm4'.weak (fun b h=>.inr h)),_,hc3.upd (E':=⟨aput E.datas d.name d,aput m d.cons[k].name (d,k),E.defs,E.params⟩) hm4' S2 (fun h=>n2 h) (hc3.dat hm4' S2 (fun h=>n4 h)) h4 (hc3.def hm4' S2 (fun h=>n6 h.symm)),hen⟩
 · rintro _ w2 ⟨_,hm2,⟨m,hck,hen⟩,rfl⟩;rw [List.drop_length,enterC] at hen;subst hen;(try simp only [go_sem,simprocAttr]);exact ⟨hck,hm2⟩
def knowL:List ByteArray→Cnt→Cnt
 | [],l=>l
 | s::ks,l=>knowL ks (aput l s 1)
theorem knowL_at {l:List ByteArray} {i:Nat} (hi:i < l.length) (m:Cnt):knowL (l.drop i) m=knowL (l.drop (i+1)) (aput m l[i] 1):=by rw [List.drop_eq_getElem_cons hi,knowL]
def knowE (E:Env) (ps:List ByteArray):Env:={ E with params:=knowL ps []}
abbrev Kn (S:Nat→Prop) (M:Ms):Nat→Prop:=fun b=>S b∨b=M.mp∨b=M.mb∨b=M.ml
theorem f_know {E:Env} {ps:List ByteArray} {w:World} {S:Nat→Prop} {c md mc mf:Nat} {v:Value} (hc:Ck0 w S c md mc mf E) (hps:EachAt w v 1 (Out S w) StrAt ps) :
   CallsR Tryz.prog 43 [ptr c,v] w fun r w'=>(∃ M:Ms,M.c=c∧M.md=md∧M.mc=mc∧M.mf=mf∧CkAt w' (Kn S M) M (knowE E ps) [] []∧w.heap.size≤M.mp∧w.heap.size≤M.mb∧w.heap.size≤M.ml)∧Mod (· = c) w w':=by
 obtain ⟨⟨n1,n2,n3⟩,⟨n4,n5⟩,n6⟩:=ck0_ne hc.nodup;obtain ⟨vp,vb,vl,o1,o2,o3,hbox⟩:=hc.box;obtain ⟨ap,cp,rfl⟩:=each_sl hps;have hll:=each_len hps;have ltc:∀ b∈[c,md,mc,mf],b < w.heap.size:=fun b hb=>hc.lt b (hc.inS b hb)
 have lc1:=ltc c (by simp);have lc2:=ltc md (by simp);have lc3:=ltc mc (by simp);have lc4:=ltc mf (by simp);refine fit43.calls rfl ?_;unfold ir43;(try simp only [go_sem,simprocAttr]);refine e_mmR (α:=Int) RI ?_;intro w1 hp1 hm1 hs1;(try simp only [go_sem,simprocAttr]);refine e_st1 (b:=c) (off:=3) (v:=.map (some w.heap.size)) rfl rfl (hm1.at hbox _root_.id) rfl (by simp) ?_;intro w2 hb2 hm2 hs2;have hp2:MapR w2 w.heap.size RI ([]:Cnt):=hp1.mod hm2 (by omega) (fun _ _ x=>x);have hm02:Mod (· = c) w w2:=(mod0 hm1).trans hm2;have Sc:∀ b,b=c→S b:=fun b hb=>by rw [hb];exact hc.inS _ (by simp)
 (try simp only [go_sem,simprocAttr]);refine ir_range ps.length (fun k ρ w'=>k≤ps.length∧Mod (· = c) w w'∧w'.heap.size=w2.heap.size∧w'.heap[c]? = w2.heap[c]?∧(∃ m,MapR w' w.heap.size RI m∧knowL (ps.drop k) m=knowL ps [])∧ρ=[(0,ptr c),(10,.slice ap ps.length cp),(11,I ps.length),(12,I k)])
   ⟨by omega,hm02,rfl,rfl,⟨[],hp2,rfl⟩,rfl⟩ hll ?_ ?_ (by decide) ?_
 · rintro k _ w3 ⟨hk,_,_,_,_,rfl⟩;exact ⟨rfl,rfl,hk⟩
 · rintro k _ w3 ⟨_,hm3,hs3,hb3,⟨m,hmp,hkn⟩,rfl⟩ hk;rw [knowL_at hk] at hkn;obtain ⟨ad,c2,e,hn,hcv⟩:=str_at (hps.up (hm3.weak Sc) out_not (out_up (hm3.weak Sc)) (fun _ _ h=>h)) hk;obtain ⟨rfl,-,-⟩:=tup_inj e;have bk:(0:Int)≤k∧(k:Int) < ps.length:=by omega
   rw [hb2] at hb3;(try simp only [go_sem,simprocAttr,zb4,zb6,bk,hcv,cell_of hb3]);refine e_muR (R:=RI) (a:=(1:Int)) (k:=ps[k]) (b:=w.heap.size) (kt:=9) (et:=3) rfl rfl rfl rfl rfl hmp rfl ?_;intro w4 h4 hm4 hs4;(try simp only [go_sem,simprocAttr]);refine ⟨hk,hm3.step hm4 (fun b hb hl=>by omega),hs4.trans hs3,?_,_,h4,hkn⟩;rw [hm4.old c (by have:=hm3.size;omega) (by omega),hb3,hb2]
 · rintro _ w3 ⟨_,hm3,hs3,hb3,⟨m,hmp,hkn⟩,rfl⟩;rw [List.drop_length,knowL] at hkn;subst hkn;rw [hb2] at hb3;(try simp only [go_sem,simprocAttr]);refine e_mmR (α:=Int) RI ?_;intro w4 hp4 hm4 hs4;(try simp only [go_sem,simprocAttr]);refine e_mmR (α:=Ty) (RTy w4 (Out S w4)) ?_;intro w5 hp5 hm5 hs5;have hp5':∀ R,MapR w5 w4.heap.size R ([]:Loc):=fun R=>by
     obtain ⟨lv,q1,q2⟩:=hp5;cases q2;exact ⟨[],q1,.nil⟩
   (try simp only [go_sem,simprocAttr]);refine e_st1 (b:=c) (off:=5) (v:=.map (some w3.heap.size)) rfl rfl (hm5.at (hm4.at hb3 _root_.id) _root_.id) rfl (by simp) ?_;intro w6 hb6 hm6 hs6;(try simp only [go_sem,simprocAttr]);refine e_st1 (b:=c) (off:=6) (v:=.map (some w4.heap.size)) rfl rfl hb6 rfl (by simp) ?_;intro w7 hb7 hm7 hs7;have z3:=hm3.size;have hm57:Mod (· = c) w5 w7:=hm6.trans hm7;have hm37:Mod (· = c) w3 w7:=(mod0 (hm4.trans hm5)).trans hm57;have hm07:Mod (· = c) w w7:=hm3.trans hm37;(try simp only [go_sem,simprocAttr]);refine ⟨⟨⟨c,md,mc,mf,w.heap.size,w3.heap.size,w4.heap.size⟩,rfl,rfl,rfl,rfl,?_,Nat.le_refl _,z3,by show w.heap.size≤w4.heap.size;omega⟩,hm07⟩;have no:∀ b,b < w.heap.size→Kn S ⟨c,md,mc,mf,w.heap.size,w3.heap.size,w4.heap.size⟩ b→S b:=fun b hb hh=>by
     rcases hh with h | h | h | h
     · exact h
     · exact absurd h (by show ¬ b=w.heap.size;omega)
     · exact absurd h (by show ¬ b=w3.heap.size;omega)
     · exact absurd h (by show ¬ b=w4.heap.size;omega)
   have up:=out_ext (hm07.weak Sc) no;refine ⟨hb7,?_,fun b hb=>?_,fun b hb=>?_,?_,?_,?_,?_,?_,?_⟩
   · simp only [Ms.list,List.nodup_cons,List.mem_cons,List.not_mem_nil,or_false,not_or,not_false_eq_true,List.nodup_nil,and_true];omega
   · simp only [Ms.list,List.mem_cons,List.not_mem_nil,or_false] at hb;rcases hb with rfl | rfl | rfl | rfl | rfl | rfl | rfl
     · exact .inl (hc.inS _ (by simp))
     · exact .inl (hc.inS _ (by simp))
     · exact .inl (hc.inS _ (by simp))
     · exact .inl (hc.inS _ (by simp))
     · exact .inr (.inl rfl)
     · exact .inr (.inr (.inl rfl))
     · exact .inr (.inr (.inr rfl))
   · rcases hb with h | h | h | h
     · have:=hc.lt b h;omega
     · have h:b=w.heap.size:=h;omega
     · have h:b=w3.heap.size:=h;omega
     · have h:b=w4.heap.size:=h;omega
   · exact hc.datas.mod hm07 (fun h=>n1 h.symm) (fun _ _ x=>x.up (hm07.weak Sc) out_not up)
   · exact hc.cons.mod hm07 (fun h=>n2 h.symm) (fun _ _ x=>x.up (hm07.weak Sc) out_not up)
   · exact hc.defs.mod hm07 (fun h=>n3 h.symm) (fun _ _ x=>x.up (hm07.weak Sc) out_not up)
   · exact hmp.mod hm37 (by show ¬ w.heap.size=c;omega) (fun _ _ x=>x)
   · exact (hp4.mod hm5 _root_.id (fun _ _ x=>x)).mod hm57 (by show ¬ w3.heap.size=c;omega) (fun _ _ x=>x)
   · exact (hp5' (RTy w7 (Out _ w7))).mod hm57 (by show ¬ w4.heap.size=c;omega) (fun _ _ x=>x)
end
section
open Go Go.W
section
variable {P:Program} {N:Nat} {ops:Array Oper} {K:Go.W.Env→World→Prop} {dl:List Deferred} {w:World} {ds:List Nat} {Φ:Nat→Value→World→Prop} {ρ0:Go.W.Env}
theorem pool_B (hds:ops.toList.map (·.dst)=ds.map some) (hnd:ds.Nodup)
   (hlt:∀ i o,ops[i]? = some o→∀ e∈o.after,Region.binds .any e=true→e.on < i)
   (hup:∀ i v w w',Φ i v w→Mod (fun _=>False) w w'→Φ i v w')
   (hop:∀ i o,ops[i]? = some o→∃ st,resAll P N ops [o]=some st∧∀ ρ' w',Mod (fun _=>False) w w'→(∀ e∈o.after,Region.binds .any e=true→∃ v,ρ'.get (ds.getD e.on 0)=some v∧Φ e.on v w')→(∀ t,t∉ds→ρ'.get t=ρ0.get t) →
     wpS P st ρ' w' (fun ρ2 w2=>∃ v,ρ2=ρ'.put (some (ds.getD i 0)) v∧Mod (fun _=>False) w' w2∧Φ i v w2))
   (hend:∀ ρ' w',Mod (fun _=>False) w w'→(∀ i,i < ops.size→∃ v,ρ'.get (ds.getD i 0)=some v∧Φ i v w')→(∀ t,t∉ds→ρ'.get t=ρ0.get t)→K ρ' w') :
   ∀ (f:Nat) (listed:Array Bool) (ρ':Go.W.Env) (a:Act) (w':World),listed.size=ops.size→listed.toList.count false≤f→Go.W.Good dl N ρ' a→Mod (fun _=>False) w w' →
     (∀ i,listed.getD i false=true→∃ v,ρ'.get (ds.getD i 0)=some v∧Φ i v w')→(∀ t,t∉ds→ρ'.get t=ρ0.get t)→wpAnyB P ops (fun _ _=>False) (GoodK dl N K) f listed a w':=by
 have hlen:ds.length=ops.size:=by
   have:=congrArg List.length hds
   simpa using this.symm
 have all:∀ (listed:Array Bool),listed.size=ops.size→Region.ready .any ops listed=[]→∀ i,i < ops.size→listed.getD i false=true:=by
   intro listed hsz hr i
   induction i using Nat.strongRecOn with
   | _ i ih=>
     intro hi;cases hl:listed.getD i false with
     | true=>rfl
     | false=>
       exfalso;have hmem:i∈Region.ready .any ops listed:=by
         rw [mem_ready];have hi':i < listed.size:=by omega
         refine ⟨by simpa [hi'] using hl,ops[i],by simp [hi],fun e he hb=>?_⟩;have:=hlt i _ (by simp [hi]) e he hb;exact ih _ this (by omega)
       rw [hr] at hmem;cases hmem
 intro f
 induction f with
 | zero=>
   intro listed ρ' a w' hsz hcnt hg hm hh hk;have hr:Region.ready .any ops listed=[]:=by
     refine List.eq_nil_iff_forall_not_mem.2 fun i hi=>?_
     obtain ⟨h0,o,ho,_⟩:=mem_ready.1 hi;have hi':i < listed.size:=by have:=(Array.getElem?_eq_some_iff.1 ho).1;omega
     have:false∈listed.toList:=by
       have h1:listed[i]=false:=by simpa [hi'] using h0
       rw [← h1];exact Array.getElem_mem_toList hi'
     have:=List.count_pos_iff.2 this;omega
   exact ⟨hr,ρ',hg,hend ρ' w' hm (fun i hi=>hh i (all listed hsz hr i hi)) hk⟩
 | succ f ih=>
   intro listed ρ' a w' hsz hcnt hg hm hh hk;refine ⟨fun hr=>⟨ρ',hg,hend ρ' w' hm (fun i hi=>hh i (all listed hsz hr i hi)) hk⟩,fun i hi=>?_⟩;obtain ⟨h0,o,ho,hall⟩:=mem_ready.1 hi;have hio:i < ops.size:=(Array.getElem?_eq_some_iff.1 ho).1;have hi':i < listed.size:=by omega
   obtain ⟨st,hst,hwp⟩:=hop i o ho;have hdst:o.dst=some (ds.getD i 0):=by
     have h1:=congrArg (fun l=>l[i]?) hds;simp only [List.getElem?_map,Array.getElem?_toList,ho,Option.map_some] at h1;have h2:ds[i]? = some ds[i]:=List.getElem?_eq_getElem (by omega);rw [h2,Option.map_some] at h1;have:o.dst=some ds[i]:=by simpa using h1
     rw [this];simp [List.getD,h2]
   have hgl:=resAll_sound (G:=fun a2 w2=>∃ ρ2 v,Go.W.Good dl N ρ2 a2∧ρ2=ρ'.put (some (ds.getD i 0)) v∧Mod (fun _=>False) w' w2∧Φ i v w2) [o] st ρ' a w' _ hst (hwp ρ' w' hm (fun e he hb=>hh _ (hall e he hb)) hk) hg
     (fun ρ2 a2 w2 hg2 ⟨v,e1,e2,e3⟩=>⟨ρ2,v,hg2,e1,e2,e3⟩)
   have next:∀ a2 w2,(∃ ρ2 v,Go.W.Good dl N ρ2 a2∧ρ2=ρ'.put (some (ds.getD i 0)) v∧Mod (fun _=>False) w' w2∧Φ i v w2)→(fun a' w''=>Go.W.Kept ((fun _ _=>False:Nat→Nat→Prop) i) w' w''∧wpAnyB P ops (fun _ _=>False) (GoodK dl N K) f (listed.setIfInBounds i true) a' w'') a2 w2:=by
     rintro a2 w2 ⟨ρ2,v,hg2,rfl,hm2,hphi⟩;refine ⟨fun b hb=>hb.elim,ih _ _ a2 w2 (by simp [hsz]) ?_ hg2 (hm.trans hm2) ?_ ?_⟩
     · have h1:listed.toList[i]'(by simpa using hi')=false:=by simpa [hi'] using h0
       have hcs:=List.count_set (a:=true) (b:=false) (l:=listed.toList) (i:=i) (by simpa using hi');rw [h1] at hcs;simp only [Array.toList_setIfInBounds];rw [hcs,if_pos (show (false == false)=true from rfl),if_neg (show ¬ (true == false)=true by decide)];omega
     · intro j hj;by_cases hij:j=i
       · subst hij;exact ⟨v,by simp [Env.put,Env.get],hphi⟩
       · rw [getD_set_ne false (Ne.symm hij)] at hj;obtain ⟨u,hu,hp⟩:=hh j hj;refine ⟨u,?_,hup _ _ _ _ hp hm2⟩;have hjs:j < ds.length:=by
           rcases Nat.lt_or_ge j listed.size with h | h
           · omega
           · simp [Array.getElem?_eq_none h] at hj
         have hne:ds.getD i 0≠ds.getD j 0:=by
           have e1:ds.getD i 0=ds[i]'(by omega):=by simp [List.getD,List.getElem?_eq_getElem (show i < ds.length by omega)]
           have e2:ds.getD j 0=ds[j]:=by simp [List.getD,List.getElem?_eq_getElem hjs]
           rw [e1,e2];intro h;exact hij ((List.getElem_inj hnd).1 h).symm
         simp only [Env.put,Env.get];rw [if_neg hne];exact hu
     · intro t ht;have:ds.getD i 0∈ds:=by
         have e1:ds.getD i 0=ds[i]'(by omega):=by simp [List.getD,List.getElem?_eq_getElem (show i < ds.length by omega)]
         rw [e1];exact List.getElem_mem _
       simp only [Env.put,Env.get];rw [if_neg (fun h:ds.getD i 0=t=>ht (by rw [← h];exact this))];exact hk t ht
   refine ⟨o,ho,?_⟩;unfold gList at hgl
   split
   · rename_i hw;rw [if_pos hw] at hgl;exact Oper.wp_mono (fun a2 w2 hh2=>next a2 w2 hh2) hgl
   · rename_i hw;rw [if_neg hw] at hgl;exact next _ _ hgl
theorem ir_pool {id:Nat} {Q:Post} {ρ:Go.W.Env} (hm:P.follows .mixedOrders=true) (hds:ops.toList.map (·.dst)=ds.map some) (hnd:ds.Nodup)
   (hlt:∀ i o,ops[i]? = some o→∀ e∈o.after,Region.binds .any e=true→e.on < i)
   (hup:∀ i v w w',Φ i v w→Mod (fun _=>False) w w'→Φ i v w')
   (hop:∀ i o,ops[i]? = some o→∃ st,resAll P N ops [o]=some st∧∀ ρ' w',Mod (fun _=>False) w w'→(∀ e∈o.after,Region.binds .any e=true→∃ v,ρ'.get (ds.getD e.on 0)=some v∧Φ e.on v w')→(∀ t,t∉ds→ρ'.get t=ρ.get t) →
     wpS P st ρ' w' (fun ρ2 w2=>∃ v,ρ2=ρ'.put (some (ds.getD i 0)) v∧Mod (fun _=>False) w' w2∧Φ i v w2))
   (hend:∀ ρ' w',Mod (fun _=>False) w w'→(∀ i,i < ops.size→∃ v,ρ'.get (ds.getD i 0)=some v∧Φ i v w')→(∀ t,t∉ds→ρ'.get t=ρ.get t)→Q .normal ρ' w') :
   irwp P N (.raw (.region id ops true)) Q ρ w:=by
 intro dl a hg;refine wp_region_any hm (wpAny_of_B (B:=fun _ _=>False) (Q:=GoodK dl N (fun ρ' w'=>Q .normal ρ' w')) (fun a' w' ⟨ρ',h1,h2⟩=>⟨ρ',h1,h2⟩) _ _ _ _ ?_);refine pool_B (w:=w) (ρ0:=ρ) hds hnd hlt hup hop hend _ _ ρ a _ (by simp) ?_ hg (Mod.refl _ _).drew ?_ (fun _ _=>rfl)
 · exact Nat.le_trans List.count_le_length (by simp)
 · intro i hi;rcases Nat.lt_or_ge i ops.size with h | h
   · simp [h] at hi
   · simp [h] at hi
theorem resAll_get:∀ (l:List Oper) (st:List Go.W.S) (i:Nat) (o:Oper),resAll P N ops l=some st→l[i]? = some o→∃ s,st[i]? = some s∧resAll P N ops [o]=some [s]
 | [],_,i,o,_,h=>by simp at h
 | o'::l,st,i,o,h,hi=>by
   simp only [resAll] at h
   split at h
   · rename_i s t hs ht;cases h;cases i with
     | zero=>
       simp only [List.getElem?_cons_zero,Option.some.injEq] at hi;subst hi;exact ⟨s,rfl,by simp only [resAll,hs]⟩
     | succ i=>
       simp only [List.getElem?_cons_succ] at hi ⊢;exact resAll_get l t i o ht hi
   · cases h
def waits (o:Oper):List Nat:=(o.after.toList.filter (Region.binds .any)).map (·.on)
theorem ir_pool2 {id:Nat} {Q:Post} {ρ:Go.W.Env} {deps:List (List Nat)} {sts:List Go.W.S} (hm:P.follows .mixedOrders=true) (hds:ops.toList.map (·.dst)=ds.map some) (hnd:ds.Nodup)
   (hdep:ops.toList.map waits=deps) (hlt:(deps.zipIdx.all fun x=>x.1.all fun j=>decide (j < x.2))=true) (hst:resAll P N ops ops.toList=some sts)
   (hup:∀ i v w w',Φ i v w→Mod (fun _=>False) w w'→Φ i v w')
   (hop:∀ i s,sts[i]? = some s→∀ ρ' w',Mod (fun _=>False) w w'→(∀ j∈deps.getD i [],∃ v,ρ'.get (ds.getD j 0)=some v∧Φ j v w')→(∀ t,t∉ds→ρ'.get t=ρ.get t) →
     wpS P [s] ρ' w' (fun ρ2 w2=>∃ v,ρ2=ρ'.put (some (ds.getD i 0)) v∧Mod (fun _=>False) w' w2∧Φ i v w2))
   (hend:∀ ρ' w',Mod (fun _=>False) w w'→(∀ i,i < ops.size→∃ v,ρ'.get (ds.getD i 0)=some v∧Φ i v w')→(∀ t,t∉ds→ρ'.get t=ρ.get t)→Q .normal ρ' w') :
   irwp P N (.raw (.region id ops true)) Q ρ w:=by
 have dep:∀ (i:Nat) (o:Oper),ops[i]? = some o→deps.getD i []=waits o:=by
   intro i o ho;rw [← hdep];simp [List.getD,ho]
 have mem:∀ (o:Oper) (e:Edge),e∈o.after→Region.binds .any e=true→e.on∈waits o:=by
   intro o e he hb;unfold waits;exact List.mem_map_of_mem (List.mem_filter.2 ⟨Array.mem_toList_iff.2 he,hb⟩)
 refine ir_pool (ds:=ds) (Φ:=Φ) hm hds hnd ?_ hup ?_ hend
 · intro i o ho e he hb;have h1:e.on∈deps.getD i []:=by rw [dep i o ho];exact mem o e he hb
   have hi:i < deps.length:=by
     rcases Nat.lt_or_ge i deps.length with h | h
     · exact h
     · simp [List.getD,List.getElem?_eq_none h] at h1
   rw [List.all_eq_true] at hlt;have h2:(deps[i],i)∈deps.zipIdx:=by
     rw [List.mem_zipIdx_iff_getElem?];exact List.getElem?_eq_getElem hi
   have h3:=hlt _ h2;rw [List.all_eq_true] at h3;have h4:deps.getD i []=deps[i]:=by simp [List.getD,List.getElem?_eq_getElem hi]
   rw [h4] at h1
   simpa using h3 _ h1
 · intro i o ho;obtain ⟨s,hs,hr⟩:=resAll_get (ops:=ops) ops.toList sts i o hst (by simpa using ho);refine ⟨_,hr,fun ρ' w' h1 h2 h3=>hop i s hs ρ' w' h1 (fun j hj=>?_) h3⟩;rw [dep i o ho] at hj;unfold waits at hj;obtain ⟨e,he,rfl⟩:=List.mem_map.1 hj;obtain ⟨he1,he2⟩:=List.mem_filter.1 he;exact h2 e (Array.mem_toList_iff.1 he1) he2
end
end
section
open Go Go.W
abbrev NB (n0:Nat) (w:World):Nat→Prop:=fun b=>n0≤b∧b < w.heap.size
theorem nb_up {n0:Nat} {w w':World} {S:Nat→Prop} (hm:Mod S w w'):∀ b,NB n0 w b→NB n0 w' b:=fun b h=>⟨h.1,Nat.lt_of_lt_of_le h.2 hm.size⟩
theorem nb_new {w w' w2:World} {S:Nat→Prop} (hm:Mod S w w') (hs:w2.heap.size=w'.heap.size+1):NB w.heap.size w2 w'.heap.size:=⟨hm.size,by omega⟩
def All2 {α β:Type} (P:α→β→Prop):List α→List β→Prop
 | [],[]=>True
 | a::l,b::m=>P a b∧All2 P l m
 | _,_=>False
theorem All2.at {α β:Type} {P:α→β→Prop}:∀ {l:List α} {m:List β},All2 P l m→l.length=m.length∧∀ (i:Nat) (a:α) (b:β),l[i]? = some a→m[i]? = some b→P a b
 | [],[],_=>⟨rfl,fun i a b h=>by simp at h⟩
 | a::l,b::m,h=>by
   obtain ⟨h1,h2⟩:=h;obtain ⟨e,k⟩:=All2.at h2;refine ⟨by simp [e],fun i x y hx hy=>?_⟩;cases i with
   | zero=>simp only [List.getElem?_cons_zero,Option.some.injEq] at hx hy;subst hx hy;exact h1
   | succ i=>simp only [List.getElem?_cons_succ] at hx hy;exact k i x y hx hy
 | [],_::_,h=>h.elim
 | _::_,[],h=>h.elim
def AllLen (sz:Nat):List (List Value)→Prop
 | []=>True
 | r::l=>r.length=sz∧AllLen sz l
theorem AllLen.mem {sz:Nat}:∀ {l:List (List Value)},AllLen sz l→∀ r∈l,r.length=sz
 | [],_,r,h=>by cases h
 | x::l,h,r,hr=>by
   rcases List.mem_cons.1 hr with rfl | hr
   · exact h.1
   · exact AllLen.mem h.2 r hr
theorem flat_length {sz:Nat}:∀ {l:List (List Value)},AllLen sz l→l.flatten.length=l.length*sz
 | [],_=>by simp
 | x::l,h=>by rw [List.flatten_cons,List.length_append,h.1,flat_length h.2,List.length_cons,Nat.succ_mul];omega
def partsOf (sz:Nat):Nat→List (List Value)→List (Nat×Nat×Value)
 | _,[]=>[]
 | off,r::l=>(off,sz,.agg r.toArray)::partsOf sz (off+sz) l
theorem fill_rows {sz:Nat}:∀ (rows:List (List Value)) (pre post:List Value),AllLen sz rows→post.length=rows.length*sz→fillAt (pre++post).toArray (partsOf sz pre.length rows)=some (pre++rows.flatten).toArray
 | [],pre,post,_,h=>by
   have:post=[]:=List.eq_nil_of_length_eq_zero (by simpa using h);subst this;simp [partsOf,fillAt]
 | r::l,pre,post,hl,h=>by
   rw [List.length_cons,Nat.succ_mul] at h;obtain ⟨h1,h2⟩:=hl;rw [partsOf,fillAt_n h1 (by rw [List.length_append];omega)];have e1:(pre++post).take pre.length=pre:=by simp
   have e2:(pre++post).drop (pre.length+sz)=post.drop sz:=by rw [List.drop_append];simp
   rw [e1,e2];have:=fill_rows l (pre++r) (post.drop sz) h2 (by rw [List.length_drop];omega);rw [List.length_append,h1] at this;rw [this,List.flatten_cons,List.append_assoc]
theorem each_new {α:Type} {w:World} {b T sz n:Nat} {B:Nat→Prop} {P:List Value→α→Prop} {rows:List (List Value)} {l:List α} (hb:w.heap[b]? = some (.cells rows.flatten.toArray T (0,0))) (hB:B b) (hsz:AllLen sz rows) (hle:rows.length≤1099511627776) (ha:All2 P rows l) (hn:rows.length=n:=by rfl) :
   EachAt w (.slice (some ⟨b,0,none⟩) n n) sz B P l:=by
 subst hn;obtain ⟨e,h⟩:=ha.at;have ho:OwnS w T sz (.slice (some ⟨b,0,none⟩) rows.length rows.length) (rows.flatMap id) rows.length (some b):=by
   have hf:rows.flatMap id=rows.flatten:=by simp [List.flatMap]
   rw [hf];exact ⟨flat_length hsz,.inr ⟨b,rows.length,[],rfl,rfl,by rw [List.append_nil];exact hb,by rw [List.append_nil,flat_length hsz];omega,Nat.le_refl _⟩⟩
 exact ⟨rows,⟨(own_rows ho hsz.mem).mod (.refl (fun _=>False) w) nof (fun b' hb'=>by cases hb';exact hB),hle⟩,e,h⟩
inductive GV where
 | con (k:Cn) | cons (l:List Cn) | dt (d:Dt) | dts (l:List Dt) | strs (l:List ByteArray) | ty (t:Ty) | tys (l:List Ty)
def GV.At (n0:Nat) (w:World):GV→Value→Prop
 | .con k,v=>∃ cs:List Value,v = .agg cs.toArray∧CnAt w (NB n0 w) cs k
 | .cons l,v=>EachAt w v 2 (NB n0 w) (CnAt w (NB n0 w)) l
 | .dt d,v=>∃ cs:List Value,v = .agg cs.toArray∧DtAt w (NB n0 w) cs d
 | .dts l,v=>EachAt w v 3 (NB n0 w) (DtAt w (NB n0 w)) l
 | .strs l,v=>EachAt w v 1 (NB n0 w) StrAt l
 | .ty t,v=>∃ cs:List Value,v = .agg cs.toArray∧TyAt w (NB n0 w) cs t
 | .tys l,v=>EachAt w v 3 (NB n0 w) (TyAt w (NB n0 w)) l
theorem GV.up {n0:Nat} {w w':World} (g:GV) {v:Value} (h:g.At n0 w v) (hm:Mod (fun _=>False) w w'):g.At n0 w' v:=by
 cases g with
 | con k=>obtain ⟨cs,e,h⟩:=h;exact ⟨cs,e,h.up hm nof (nb_up hm)⟩
 | cons l=>exact EachAt.up h hm nof (nb_up hm) (fun _ _ h=>h.up hm nof (nb_up hm))
 | dt d=>obtain ⟨cs,e,h⟩:=h;exact ⟨cs,e,h.up hm nof (nb_up hm)⟩
 | dts l=>exact EachAt.up h hm nof (nb_up hm) (fun _ _ h=>h.up hm nof (nb_up hm))
 | strs l=>exact EachAt.up h hm nof (nb_up hm) (fun _ _ h=>h)
 | ty t=>obtain ⟨cs,e,h⟩:=h;exact ⟨cs,e,h.up hm nof (nb_up hm)⟩
 | tys l=>exact EachAt.up h hm nof (nb_up hm) (fun _ _ h=>h.up hm nof (nb_up hm))
abbrev tvA:Ty:=.mk 2 ⟨#[97]⟩ []
abbrev tvB:Ty:=.mk 2 ⟨#[98]⟩ []
abbrev tvC:Ty:=.mk 2 ⟨#[99]⟩ []
abbrev tLA:Ty:=.mk 4 ⟨#[76,105,115,116]⟩ [tvA]
abbrev cFalse:Cn:=⟨⟨#[70,97,108,115,101]⟩,[]⟩
abbrev cTrue:Cn:=⟨⟨#[84,114,117,101]⟩,[]⟩
abbrev cUnit:Cn:=⟨⟨#[85,110,105,116]⟩,[]⟩
abbrev cNil:Cn:=⟨⟨#[78,105,108]⟩,[]⟩
abbrev cCons:Cn:=⟨⟨#[67,111,110,115]⟩,[tvA,tLA]⟩
abbrev cPair:Cn:=⟨⟨#[80,97,105,114]⟩,[tvA,tvB]⟩
abbrev cTriple:Cn:=⟨⟨#[84,114,105,112,108,101]⟩,[tvA,tvB,tvC]⟩
abbrev dBool:Dt:=⟨⟨#[66,111,111,108]⟩,[],[cFalse,cTrue]⟩
abbrev dUnit:Dt:=⟨⟨#[85,110,105,116]⟩,[],[cUnit]⟩
abbrev dList:Dt:=⟨⟨#[76,105,115,116]⟩,[⟨#[97]⟩],[cNil,cCons]⟩
abbrev dPair:Dt:=⟨⟨#[80,97,105,114]⟩,[⟨#[97]⟩,⟨#[98]⟩],[cPair]⟩
abbrev dTriple:Dt:=⟨⟨#[84,114,105,112,108,101]⟩,[⟨#[97]⟩,⟨#[98]⟩,⟨#[99]⟩],[cTriple]⟩
def givenS:List Dt:=[dBool,dUnit,dList,dPair,dTriple]
def regOfD (id:Nat):Code→Option (Array Oper)
 | .region i ops true=>if i == id then some ops else none
 | .seq a b=>(regOfD id a).orElse fun _=>regOfD id b
 | .cond _ a b=>(regOfD id a).orElse fun _=>regOfD id b
 | .block _ a=>regOfD id a
 | .loop a=>regOfD id a
 | _=>none
noncomputable def gOps:Array Oper:=((Tryz.f57.body.bind (regOfD 2)).getD #[])
noncomputable def irG:IR:=.seq (.reg false [] []) <|
 .seq (.reg false [.e (some 4) (.call 76 [(.c (.string ⟨#[97]⟩))]),
.e (some 5) (.call 76 [(.c (.string ⟨#[98]⟩))]),
.e (some 6) (.call 76 [(.c (.string ⟨#[99]⟩))]),
.e (some 1) (.al 42 (.agg #[(.int .i64 0),(.string ⟨#[]⟩),(.slice none 0 0)])),
.e (some 2) (.al 42 (.agg #[(.int .i64 0),(.string ⟨#[]⟩),(.slice none 0 0)])),
.e (some 3) (.al 42 (.agg #[(.int .i64 0),(.string ⟨#[]⟩),(.slice none 0 0)])),
.e none (.st 3 (.t 1) (.t 4)),
.e none (.st 3 (.t 2) (.t 5)),
.e none (.st 3 (.t 3) (.t 6))] [1,2,3]) <|
 .seq (.raw (.region 2 gOps true)) <|
 .ret
def gDs:List Nat:=[7,8,9,10,11,12,13,14,15,16,17,18,19,20,21,22,23,24,25,26,27,28,29,30,31,32,33,34,35,36,37,38,39,0]
def gDeps:List (List Nat):=[[],[],[0,1],[2],[],[4],[5],[],[],[],[],[10],[11],[9,12],[13],[8,14],[7,15],[],[],[],[18,19],[20],[21],[17,22],[],[],[],[],[25,26,27],[28],[29],[24,30],[3,6,16,23,31],[32,12,0,1,2,3,4,5,6,7,8,9,10,11,12,13,14,15,16,17,18,19,20,21,22,23,24,25,26,27,28,29,30,31,32]]
def gGv:List GV:=[.con cFalse,.con cTrue,.cons [cFalse,cTrue],.dt dBool,.con cUnit,.cons [cUnit],.dt dUnit,.strs [⟨#[97]⟩],.con cNil,.ty tvA,.ty tvA,.tys [tvA],.ty tLA,.tys [tvA,tLA],.con cCons,.cons [cNil,cCons],.dt dList,.strs [⟨#[97]⟩,⟨#[98]⟩],.ty tvA,.ty tvB,.tys [tvA,tvB],.con cPair,.cons [cPair],.dt dPair,.strs [⟨#[97]⟩,⟨#[98]⟩,⟨#[99]⟩],.ty tvA,.ty tvB,.ty tvC,.tys [tvA,tvB,tvC],.con cTriple,.cons [cTriple],.dt dTriple,.dts [dBool,dUnit,dList,dPair,dTriple],.dts givenS]
def gSts:List Go.W.S:=[.r (some 7) (.bd #[(.string ⟨#[]⟩),(.slice none 0 0)] [(0,1,(.c (.string ⟨#[70,97,108,115,101]⟩)))]),
.r (some 8) (.bd #[(.string ⟨#[]⟩),(.slice none 0 0)] [(0,1,(.c (.string ⟨#[84,114,117,101]⟩)))]),
.e (some 9) (.bs 66 2 #[(.string ⟨#[]⟩),(.slice none 0 0),(.string ⟨#[]⟩),(.slice none 0 0)] [(0,2,(.t 7)),(2,2,(.t 8))]),
.r (some 10) (.bd #[(.string ⟨#[]⟩),(.slice none 0 0),(.slice none 0 0)] [(0,1,(.c (.string ⟨#[66,111,111,108]⟩))),(2,1,(.t 9))]),
.r (some 11) (.bd #[(.string ⟨#[]⟩),(.slice none 0 0)] [(0,1,(.c (.string ⟨#[85,110,105,116]⟩)))]),
.e (some 12) (.bs 66 1 #[(.string ⟨#[]⟩),(.slice none 0 0)] [(0,2,(.t 11))]),
.r (some 13) (.bd #[(.string ⟨#[]⟩),(.slice none 0 0),(.slice none 0 0)] [(0,1,(.c (.string ⟨#[85,110,105,116]⟩))),(2,1,(.t 12))]),
.e (some 14) (.bs 9 1 #[(.string ⟨#[]⟩)] [(0,1,(.c (.string ⟨#[97]⟩)))]),
.r (some 15) (.bd #[(.string ⟨#[]⟩),(.slice none 0 0)] [(0,1,(.c (.string ⟨#[78,105,108]⟩)))]),
.r (some 16) (.ln 3 (.t 1)),
.r (some 17) (.ln 3 (.t 1)),
.e (some 18) (.bs 42 1 #[(.int .i64 0),(.string ⟨#[]⟩),(.slice none 0 0)] [(0,3,(.t 17))]),
.e (some 19) (.call 77 [(.c (.string ⟨#[76,105,115,116]⟩)),(.t 18)]),
.e (some 20) (.bs 42 2 #[(.int .i64 0),(.string ⟨#[]⟩),(.slice none 0 0),(.int .i64 0),(.string ⟨#[]⟩),(.slice none 0 0)] [(0,3,(.t 16)),(3,3,(.t 19))]),
.r (some 21) (.bd #[(.string ⟨#[]⟩),(.slice none 0 0)] [(0,1,(.c (.string ⟨#[67,111,110,115]⟩))),(1,1,(.t 20))]),
.e (some 22) (.bs 66 2 #[(.string ⟨#[]⟩),(.slice none 0 0),(.string ⟨#[]⟩),(.slice none 0 0)] [(0,2,(.t 15)),(2,2,(.t 21))]),
.r (some 23) (.bd #[(.string ⟨#[]⟩),(.slice none 0 0),(.slice none 0 0)] [(0,1,(.c (.string ⟨#[76,105,115,116]⟩))),(1,1,(.t 14)),(2,1,(.t 22))]),
.e (some 24) (.bs 9 2 #[(.string ⟨#[]⟩),(.string ⟨#[]⟩)] [(0,1,(.c (.string ⟨#[97]⟩))),(1,1,(.c (.string ⟨#[98]⟩)))]),
.r (some 25) (.ln 3 (.t 1)),
.r (some 26) (.ln 3 (.t 2)),
.e (some 27) (.bs 42 2 #[(.int .i64 0),(.string ⟨#[]⟩),(.slice none 0 0),(.int .i64 0),(.string ⟨#[]⟩),(.slice none 0 0)] [(0,3,(.t 25)),(3,3,(.t 26))]),
.r (some 28) (.bd #[(.string ⟨#[]⟩),(.slice none 0 0)] [(0,1,(.c (.string ⟨#[80,97,105,114]⟩))),(1,1,(.t 27))]),
.e (some 29) (.bs 66 1 #[(.string ⟨#[]⟩),(.slice none 0 0)] [(0,2,(.t 28))]),
.r (some 30) (.bd #[(.string ⟨#[]⟩),(.slice none 0 0),(.slice none 0 0)] [(0,1,(.c (.string ⟨#[80,97,105,114]⟩))),(1,1,(.t 24)),(2,1,(.t 29))]),
.e (some 31) (.bs 9 3 #[(.string ⟨#[]⟩),(.string ⟨#[]⟩),(.string ⟨#[]⟩)] [(0,1,(.c (.string ⟨#[97]⟩))),(1,1,(.c (.string ⟨#[98]⟩))),(2,1,(.c (.string ⟨#[99]⟩)))]),
.r (some 32) (.ln 3 (.t 1)),
.r (some 33) (.ln 3 (.t 2)),
.r (some 34) (.ln 3 (.t 3)),
.e (some 35) (.bs 42 3 #[(.int .i64 0),(.string ⟨#[]⟩),(.slice none 0 0),(.int .i64 0),(.string ⟨#[]⟩),(.slice none 0 0),(.int .i64 0),(.string ⟨#[]⟩),(.slice none 0 0)] [(0,3,(.t 32)),(3,3,(.t 33)),(6,3,(.t 34))]),
.r (some 36) (.bd #[(.string ⟨#[]⟩),(.slice none 0 0)] [(0,1,(.c (.string ⟨#[84,114,105,112,108,101]⟩))),(1,1,(.t 35))]),
.e (some 37) (.bs 66 1 #[(.string ⟨#[]⟩),(.slice none 0 0)] [(0,2,(.t 36))]),
.r (some 38) (.bd #[(.string ⟨#[]⟩),(.slice none 0 0),(.slice none 0 0)] [(0,1,(.c (.string ⟨#[84,114,105,112,108,101]⟩))),(1,1,(.t 31)),(2,1,(.t 37))]),
.e (some 39) (.bs 63 5 #[(.string ⟨#[]⟩),(.slice none 0 0),(.slice none 0 0),(.string ⟨#[]⟩),(.slice none 0 0),(.slice none 0 0),(.string ⟨#[]⟩),(.slice none 0 0),(.slice none 0 0),(.string ⟨#[]⟩),(.slice none 0 0),(.slice none 0 0),(.string ⟨#[]⟩),(.slice none 0 0),(.slice none 0 0)] [(0,3,(.t 10)),(3,3,(.t 13)),(6,3,(.t 23)),(9,3,(.t 30)),(12,3,(.t 38))]),
.r (some 0) (.mv (.t 39))]
theorem fitG:FitsX Tryz.prog 57 0 [(0,[],[]),(1,[1,2,3],[]),(2,[0],[])] [2] irG [.t 0] 40:=
 ⟨Tryz.f57,_,rfl,rfl,rfl,by decide,by kernel_rfl,by kernel_rfl⟩
theorem gOps_ds:gOps.toList.map (·.dst)=gDs.map some:=by kernel_rfl
theorem gOps_dep:gOps.toList.map waits=gDeps:=by kernel_rfl
theorem gOps_st:resAll Tryz.prog 40 gOps gOps.toList=some gSts:=by kernel_rfl
theorem gOps_n:gOps.size=34:=by kernel_rfl
set_option maxHeartbeats 1000000 in
theorem f_given {w:World}:CallsR Tryz.prog 57 [] w fun r w'=>EachAt w' r 3 (NB w.heap.size w') (DtAt w' (NB w.heap.size w')) givenS∧Mod (fun _=>False) w w':=by
 refine fitG.calls rfl ?_;unfold irG;(try simp only [go_sem,simprocAttr]);refine e_call (by rfl) ?_;refine (f_variable ⟨#[97]⟩).mono ?_;rintro _ wa ⟨rfl,hma⟩;(try simp only [go_sem,simprocAttr]);refine e_call (by rfl) ?_;refine (f_variable ⟨#[98]⟩).mono ?_;rintro _ wb ⟨rfl,hmb⟩;(try simp only [go_sem,simprocAttr]);refine e_call (by rfl) ?_;refine (f_variable ⟨#[99]⟩).mono ?_;rintro _ wc ⟨rfl,hmc⟩;(try simp only [go_sem,simprocAttr]);refine e_al ?_;intro w1 hb1 hm1 hs1;(try simp only [go_sem,simprocAttr]);refine e_al ?_;intro w2 hb2 hm2 hs2;(try simp only [go_sem,simprocAttr]);refine e_al ?_;intro w3 hb3 hm3 hs3;(try simp only [go_sem,simprocAttr]);refine e_sta (cs:=zTy) (vs:=leafC 2 ⟨#[97]⟩) rfl rfl (hm3.at (hm2.at hb1 _root_.id) _root_.id) rfl rfl (leafC_one _ _) ?_;intro w4 hb1 hm4 hs4;(try simp only [go_sem,simprocAttr]);refine e_sta (cs:=zTy) (vs:=leafC 2 ⟨#[98]⟩) rfl rfl (hm4.at (hm3.at hb2 _root_.id) (by omega)) rfl rfl (leafC_one _ _) ?_;intro w5 hb2 hm5 hs5;(try simp only [go_sem,simprocAttr]);refine e_sta (cs:=zTy) (vs:=leafC 2 ⟨#[99]⟩) rfl rfl (hm5.at (hm4.at hb3 (by omega)) (by omega)) rfl rfl (leafC_one _ _) ?_;intro w6 hb3 hm6 hs6;have hb2:=hm6.at hb2 (by omega);have hb1:=hm6.at (hm5.at hb1 (by omega)) (by omega);have z0c:=(hma.trans (hmb.trans hmc)).size;have hm03:Mod (fun _=>False) w w6:=(((hma.trans (hmb.trans hmc)).trans (hm1.trans (hm2.trans hm3))).step hm4 (fun b hb hl=>by omega)).step hm5 (fun b hb hl=>by omega) |>.step hm6 (fun b hb hl=>by omega);generalize hn1:wc.heap.size=b1 at *;generalize hn2:w1.heap.size=b2 at *;generalize hn3:w2.heap.size=b3 at *;clear hma hmb hmc hm1 hm2 hm3 hm4 hm5 hm6 hs1 hs2 hs3 hs4 hs5 hs6 hn1 hn2 hn3;(try simp only [go_sem,simprocAttr]);refine ir_pool2 (w:=w6) (ds:=gDs) (deps:=gDeps) (sts:=gSts) (Φ:=fun i v w'=>(gGv.getD i (.strs [])).At w.heap.size w' v) rfl gOps_ds (by decide) gOps_dep (by decide) gOps_st (fun i v w w' h hm=>GV.up _ h hm) ?_ ?_;intro i s hs ρ' w' hm hp hk
 match i,hs with
 | 0,hs=>
   obtain rfl:=Option.some.inj hs;(try simp only [go_sem,simprocAttr]);refine ⟨_,rfl,.refl _ _,?_⟩;exact ⟨_,rfl,_,rfl,each_nil _ _ _ _,by decide⟩
 | 1,hs=>
   obtain rfl:=Option.some.inj hs;(try simp only [go_sem,simprocAttr]);refine ⟨_,rfl,.refl _ _,?_⟩;exact ⟨_,rfl,_,rfl,each_nil _ _ _ _,by decide⟩
 | 2,hs=>
   obtain rfl:=Option.some.inj hs;obtain ⟨v0,g0,h0⟩:=hp 0 (by decide);have g0:ρ'.get 7=some v0:=g0;obtain ⟨v1,g1,h1⟩:=hp 1 (by decide);have g1:ρ'.get 8=some v1:=g1;obtain ⟨cs0,rfl,h0⟩:∃ cs:List Value,v0 = .agg cs.toArray∧CnAt w' (NB w.heap.size w') cs cFalse:=h0;obtain ⟨f0,e0⟩:∃ f,cs0=[.string cFalse.name,f]:=by obtain ⟨f,e,_⟩:=h0;exact ⟨f,e⟩
   subst e0;obtain ⟨cs1,rfl,h1⟩:∃ cs:List Value,v1 = .agg cs.toArray∧CnAt w' (NB w.heap.size w') cs cTrue:=h1;obtain ⟨f1,e1⟩:∃ f,cs1=[.string cTrue.name,f]:=by obtain ⟨f,e,_⟩:=h1;exact ⟨f,e⟩
   subst e1;(try simp only [go_sem,simprocAttr,g0,g1]);refine e_bs (cs:=([[.string cFalse.name,f0],[.string cTrue.name,f1]]:List (List Value)).flatten.toArray) (ps:=partsOf 2 0 [[.string cFalse.name,f0],[.string cTrue.name,f1]]) (by (try simp only [go_sem,simprocAttr,g0,g1]);rfl) (fill_rows (sz:=2) [[.string cFalse.name,f0],[.string cTrue.name,f1]] [] _ ⟨rfl,rfl,trivial⟩ rfl) ?_;intro w2 hb2 hm2 hs2;(try simp only [go_sem,simprocAttr]);refine ⟨_,rfl,hm2,?_⟩;have hr:EachAt w2 (.slice (some ⟨w'.heap.size,0,none⟩) 2 2) 2 (NB w.heap.size w2) (CnAt w2 (NB w.heap.size w2)) [cFalse,cTrue]:=by
     refine each_new (rows:=[[.string cFalse.name,f0],[.string cTrue.name,f1]]) hb2 (nb_new (hm03.trans hm) hs2) ⟨rfl,rfl,trivial⟩ (by simp) ⟨?_,?_,trivial⟩
     · exact h0.up hm2 nof (nb_up hm2)
     · exact h1.up hm2 nof (nb_up hm2)
   exact hr
 | 3,hs=>
   obtain rfl:=Option.some.inj hs;obtain ⟨v2,g2,h2⟩:=hp 2 (by decide);have g2:ρ'.get 9=some v2:=g2;have h2:EachAt w' v2 2 (NB w.heap.size w') (CnAt w' (NB w.heap.size w')) [cFalse,cTrue]:=h2;obtain ⟨ax,cx,rfl⟩:=each_sl h2;(try simp only [go_sem,simprocAttr,g2]);refine ⟨_,rfl,.refl _ _,?_⟩;exact ⟨_,rfl,_,_,rfl,each_nil _ _ _ _,h2⟩
 | 4,hs=>
   obtain rfl:=Option.some.inj hs;(try simp only [go_sem,simprocAttr]);refine ⟨_,rfl,.refl _ _,?_⟩;exact ⟨_,rfl,_,rfl,each_nil _ _ _ _,by decide⟩
 | 5,hs=>
   obtain rfl:=Option.some.inj hs;obtain ⟨v4,g4,h4⟩:=hp 4 (by decide);have g4:ρ'.get 11=some v4:=g4;obtain ⟨cs4,rfl,h4⟩:∃ cs:List Value,v4 = .agg cs.toArray∧CnAt w' (NB w.heap.size w') cs cUnit:=h4;obtain ⟨f4,e4⟩:∃ f,cs4=[.string cUnit.name,f]:=by obtain ⟨f,e,_⟩:=h4;exact ⟨f,e⟩
   subst e4;(try simp only [go_sem,simprocAttr,g4]);refine e_bs (cs:=([[.string cUnit.name,f4]]:List (List Value)).flatten.toArray) (ps:=partsOf 2 0 [[.string cUnit.name,f4]]) (by (try simp only [go_sem,simprocAttr,g4]);rfl) (fill_rows (sz:=2) [[.string cUnit.name,f4]] [] _ ⟨rfl,trivial⟩ rfl) ?_;intro w2 hb2 hm2 hs2;(try simp only [go_sem,simprocAttr]);refine ⟨_,rfl,hm2,?_⟩;have hr:EachAt w2 (.slice (some ⟨w'.heap.size,0,none⟩) 1 1) 2 (NB w.heap.size w2) (CnAt w2 (NB w.heap.size w2)) [cUnit]:=by
     refine each_new (rows:=[[.string cUnit.name,f4]]) hb2 (nb_new (hm03.trans hm) hs2) ⟨rfl,trivial⟩ (by simp) ⟨?_,trivial⟩
     · exact h4.up hm2 nof (nb_up hm2)
   exact hr
 | 6,hs=>
   obtain rfl:=Option.some.inj hs;obtain ⟨v5,g5,h5⟩:=hp 5 (by decide);have g5:ρ'.get 12=some v5:=g5;have h5:EachAt w' v5 2 (NB w.heap.size w') (CnAt w' (NB w.heap.size w')) [cUnit]:=h5;obtain ⟨ax,cx,rfl⟩:=each_sl h5;(try simp only [go_sem,simprocAttr,g5]);refine ⟨_,rfl,.refl _ _,?_⟩;exact ⟨_,rfl,_,_,rfl,each_nil _ _ _ _,h5⟩
 | 7,hs=>
   obtain rfl:=Option.some.inj hs;(try simp only [go_sem,simprocAttr]);refine e_bs (cs:=([[.string ⟨#[97]⟩]]:List (List Value)).flatten.toArray) rfl rfl ?_;intro w2 hb2 hm2 hs2;(try simp only [go_sem,simprocAttr]);refine ⟨_,rfl,hm2,?_⟩;exact each_new (P:=StrAt) (rows:=[[.string ⟨#[97]⟩]]) (l:=[⟨#[97]⟩]) (sz:=1) hb2 (nb_new (hm03.trans hm) hs2) ⟨rfl,trivial⟩ (by simp) ⟨⟨rfl,by decide⟩,trivial⟩
 | 8,hs=>
   obtain rfl:=Option.some.inj hs;(try simp only [go_sem,simprocAttr]);refine ⟨_,rfl,.refl _ _,?_⟩;exact ⟨_,rfl,_,rfl,each_nil _ _ _ _,by decide⟩
 | 9,hs=>
   obtain rfl:=Option.some.inj hs;have gt:ρ'.get 1=some (ptr b1):=(hk 1 (by decide)).trans rfl;have hb:=hm.at hb1 _root_.id;(try simp only [go_sem,simprocAttr,gt,ln_blk (n:=3) hb rfl]);exact ⟨_,rfl,.refl _ _,_,rfl,leaf_at _ _ 2 ⟨#[97]⟩⟩
 | 10,hs=>
   obtain rfl:=Option.some.inj hs;have gt:ρ'.get 1=some (ptr b1):=(hk 1 (by decide)).trans rfl;have hb:=hm.at hb1 _root_.id;(try simp only [go_sem,simprocAttr,gt,ln_blk (n:=3) hb rfl]);exact ⟨_,rfl,.refl _ _,_,rfl,leaf_at _ _ 2 ⟨#[97]⟩⟩
 | 11,hs=>
   obtain rfl:=Option.some.inj hs;obtain ⟨v10,g10,h10⟩:=hp 10 (by decide);have g10:ρ'.get 17=some v10:=g10;obtain ⟨cs10,rfl,h10⟩:∃ cs:List Value,v10 = .agg cs.toArray∧TyAt w' (NB w.heap.size w') cs tvA:=h10;obtain ⟨f10,e10⟩:∃ f,cs10=[I tvA.kind,.string tvA.name,f]:=by obtain ⟨f,e,_⟩:=h10.cells;exact ⟨f,e⟩
   subst e10;(try simp only [go_sem,simprocAttr,g10]);refine e_bs (cs:=([[I tvA.kind,.string tvA.name,f10]]:List (List Value)).flatten.toArray) (ps:=partsOf 3 0 [[I tvA.kind,.string tvA.name,f10]]) (by (try simp only [go_sem,simprocAttr,g10]);rfl) (fill_rows (sz:=3) [[I tvA.kind,.string tvA.name,f10]] [] _ ⟨rfl,trivial⟩ rfl) ?_;intro w2 hb2 hm2 hs2;(try simp only [go_sem,simprocAttr]);refine ⟨_,rfl,hm2,?_⟩;have hr:EachAt w2 (.slice (some ⟨w'.heap.size,0,none⟩) 1 1) 3 (NB w.heap.size w2) (TyAt w2 (NB w.heap.size w2)) [tvA]:=by
     refine each_new (rows:=[[I tvA.kind,.string tvA.name,f10]]) hb2 (nb_new (hm03.trans hm) hs2) ⟨rfl,trivial⟩ (by simp) ⟨?_,trivial⟩
     · exact h10.up hm2 nof (nb_up hm2)
   exact hr
 | 12,hs=>
   obtain rfl:=Option.some.inj hs;obtain ⟨v11,g11,h11⟩:=hp 11 (by decide);have g11:ρ'.get 18=some v11:=g11;have h11:EachAt w' v11 3 (NB w.heap.size w') (TyAt w' (NB w.heap.size w')) [tvA]:=h11;obtain ⟨ax,cx,rfl⟩:=each_sl h11;(try simp only [go_sem,simprocAttr,g11]);refine e_call (vs:=[.string ⟨#[76,105,115,116]⟩,.slice ax 1 cx]) (by (try simp only [go_sem,simprocAttr,g11])) ?_;refine (f_data (v:=.slice ax 1 cx) ⟨#[76,105,115,116]⟩ rfl rfl).mono ?_;rintro _ w2 ⟨rfl,hm2⟩;(try simp only [go_sem,simprocAttr]);refine ⟨_,rfl,hm2,_,rfl,?_⟩;obtain ⟨rows,q1,q2,q3⟩:=h11.up hm2 nof (nb_up hm2) (fun _ _ h=>h.up hm2 nof (nb_up hm2));exact .mk q1 q2 q3
 | 13,hs=>
   obtain rfl:=Option.some.inj hs;obtain ⟨v9,g9,h9⟩:=hp 9 (by decide);have g9:ρ'.get 16=some v9:=g9;obtain ⟨v12,g12,h12⟩:=hp 12 (by decide);have g12:ρ'.get 19=some v12:=g12;obtain ⟨cs9,rfl,h9⟩:∃ cs:List Value,v9 = .agg cs.toArray∧TyAt w' (NB w.heap.size w') cs tvA:=h9;obtain ⟨f9,e9⟩:∃ f,cs9=[I tvA.kind,.string tvA.name,f]:=by obtain ⟨f,e,_⟩:=h9.cells;exact ⟨f,e⟩
   subst e9;obtain ⟨cs12,rfl,h12⟩:∃ cs:List Value,v12 = .agg cs.toArray∧TyAt w' (NB w.heap.size w') cs tLA:=h12;obtain ⟨f12,e12⟩:∃ f,cs12=[I tLA.kind,.string tLA.name,f]:=by obtain ⟨f,e,_⟩:=h12.cells;exact ⟨f,e⟩
   subst e12;(try simp only [go_sem,simprocAttr,g9,g12]);refine e_bs (cs:=([[I tvA.kind,.string tvA.name,f9],[I tLA.kind,.string tLA.name,f12]]:List (List Value)).flatten.toArray) (ps:=partsOf 3 0 [[I tvA.kind,.string tvA.name,f9],[I tLA.kind,.string tLA.name,f12]]) (by (try simp only [go_sem,simprocAttr,g9,g12]);rfl) (fill_rows (sz:=3) [[I tvA.kind,.string tvA.name,f9],[I tLA.kind,.string tLA.name,f12]] [] _ ⟨rfl,rfl,trivial⟩ rfl) ?_;intro w2 hb2 hm2 hs2;(try simp only [go_sem,simprocAttr]);refine ⟨_,rfl,hm2,?_⟩;have hr:EachAt w2 (.slice (some ⟨w'.heap.size,0,none⟩) 2 2) 3 (NB w.heap.size w2) (TyAt w2 (NB w.heap.size w2)) [tvA,tLA]:=by
     refine each_new (rows:=[[I tvA.kind,.string tvA.name,f9],[I tLA.kind,.string tLA.name,f12]]) hb2 (nb_new (hm03.trans hm) hs2) ⟨rfl,rfl,trivial⟩ (by simp) ⟨?_,?_,trivial⟩
     · exact h9.up hm2 nof (nb_up hm2)
     · exact h12.up hm2 nof (nb_up hm2)
   exact hr
 | 14,hs=>
   obtain rfl:=Option.some.inj hs;obtain ⟨v13,g13,h13⟩:=hp 13 (by decide);have g13:ρ'.get 20=some v13:=g13;have h13:EachAt w' v13 3 (NB w.heap.size w') (TyAt w' (NB w.heap.size w')) [tvA,tLA]:=h13;obtain ⟨ax,cx,rfl⟩:=each_sl h13;(try simp only [go_sem,simprocAttr,g13]);refine ⟨_,rfl,.refl _ _,?_⟩;exact ⟨_,rfl,_,rfl,h13,by decide⟩
 | 15,hs=>
   obtain rfl:=Option.some.inj hs;obtain ⟨v8,g8,h8⟩:=hp 8 (by decide);have g8:ρ'.get 15=some v8:=g8;obtain ⟨v14,g14,h14⟩:=hp 14 (by decide);have g14:ρ'.get 21=some v14:=g14;obtain ⟨cs8,rfl,h8⟩:∃ cs:List Value,v8 = .agg cs.toArray∧CnAt w' (NB w.heap.size w') cs cNil:=h8;obtain ⟨f8,e8⟩:∃ f,cs8=[.string cNil.name,f]:=by obtain ⟨f,e,_⟩:=h8;exact ⟨f,e⟩
   subst e8;obtain ⟨cs14,rfl,h14⟩:∃ cs:List Value,v14 = .agg cs.toArray∧CnAt w' (NB w.heap.size w') cs cCons:=h14;obtain ⟨f14,e14⟩:∃ f,cs14=[.string cCons.name,f]:=by obtain ⟨f,e,_⟩:=h14;exact ⟨f,e⟩
   subst e14;(try simp only [go_sem,simprocAttr,g8,g14]);refine e_bs (cs:=([[.string cNil.name,f8],[.string cCons.name,f14]]:List (List Value)).flatten.toArray) (ps:=partsOf 2 0 [[.string cNil.name,f8],[.string cCons.name,f14]]) (by (try simp only [go_sem,simprocAttr,g8,g14]);rfl) (fill_rows (sz:=2) [[.string cNil.name,f8],[.string cCons.name,f14]] [] _ ⟨rfl,rfl,trivial⟩ rfl) ?_;intro w2 hb2 hm2 hs2;(try simp only [go_sem,simprocAttr]);refine ⟨_,rfl,hm2,?_⟩;have hr:EachAt w2 (.slice (some ⟨w'.heap.size,0,none⟩) 2 2) 2 (NB w.heap.size w2) (CnAt w2 (NB w.heap.size w2)) [cNil,cCons]:=by
     refine each_new (rows:=[[.string cNil.name,f8],[.string cCons.name,f14]]) hb2 (nb_new (hm03.trans hm) hs2) ⟨rfl,rfl,trivial⟩ (by simp) ⟨?_,?_,trivial⟩
     · exact h8.up hm2 nof (nb_up hm2)
     · exact h14.up hm2 nof (nb_up hm2)
   exact hr
 | 16,hs=>
   obtain rfl:=Option.some.inj hs;obtain ⟨v7,g7,h7⟩:=hp 7 (by decide);have g7:ρ'.get 14=some v7:=g7;obtain ⟨v15,g15,h15⟩:=hp 15 (by decide);have g15:ρ'.get 22=some v15:=g15;have h15:EachAt w' v15 2 (NB w.heap.size w') (CnAt w' (NB w.heap.size w')) [cNil,cCons]:=h15;obtain ⟨ax,cx,rfl⟩:=each_sl h15;have h7:EachAt w' v7 1 (NB w.heap.size w') StrAt [⟨#[97]⟩]:=h7;obtain ⟨ay,cy,rfl⟩:=each_sl h7;(try simp only [go_sem,simprocAttr,g7,g15]);refine ⟨_,rfl,.refl _ _,?_⟩;exact ⟨_,rfl,_,_,rfl,h7,h15⟩
 | 17,hs=>
   obtain rfl:=Option.some.inj hs;(try simp only [go_sem,simprocAttr]);refine e_bs (cs:=([[.string ⟨#[97]⟩],[.string ⟨#[98]⟩]]:List (List Value)).flatten.toArray) rfl rfl ?_;intro w2 hb2 hm2 hs2;(try simp only [go_sem,simprocAttr]);refine ⟨_,rfl,hm2,?_⟩;exact each_new (P:=StrAt) (rows:=[[.string ⟨#[97]⟩],[.string ⟨#[98]⟩]]) (l:=[⟨#[97]⟩,⟨#[98]⟩]) (sz:=1) hb2 (nb_new (hm03.trans hm) hs2) ⟨rfl,rfl,trivial⟩ (by simp) ⟨⟨rfl,by decide⟩,⟨rfl,by decide⟩,trivial⟩
 | 18,hs=>
   obtain rfl:=Option.some.inj hs;have gt:ρ'.get 1=some (ptr b1):=(hk 1 (by decide)).trans rfl;have hb:=hm.at hb1 _root_.id;(try simp only [go_sem,simprocAttr,gt,ln_blk (n:=3) hb rfl]);exact ⟨_,rfl,.refl _ _,_,rfl,leaf_at _ _ 2 ⟨#[97]⟩⟩
 | 19,hs=>
   obtain rfl:=Option.some.inj hs;have gt:ρ'.get 2=some (ptr b2):=(hk 2 (by decide)).trans rfl;have hb:=hm.at hb2 _root_.id;(try simp only [go_sem,simprocAttr,gt,ln_blk (n:=3) hb rfl]);exact ⟨_,rfl,.refl _ _,_,rfl,leaf_at _ _ 2 ⟨#[98]⟩⟩
 | 20,hs=>
   obtain rfl:=Option.some.inj hs;obtain ⟨v18,g18,h18⟩:=hp 18 (by decide);have g18:ρ'.get 25=some v18:=g18;obtain ⟨v19,g19,h19⟩:=hp 19 (by decide);have g19:ρ'.get 26=some v19:=g19;obtain ⟨cs18,rfl,h18⟩:∃ cs:List Value,v18 = .agg cs.toArray∧TyAt w' (NB w.heap.size w') cs tvA:=h18;obtain ⟨f18,e18⟩:∃ f,cs18=[I tvA.kind,.string tvA.name,f]:=by obtain ⟨f,e,_⟩:=h18.cells;exact ⟨f,e⟩
   subst e18;obtain ⟨cs19,rfl,h19⟩:∃ cs:List Value,v19 = .agg cs.toArray∧TyAt w' (NB w.heap.size w') cs tvB:=h19;obtain ⟨f19,e19⟩:∃ f,cs19=[I tvB.kind,.string tvB.name,f]:=by obtain ⟨f,e,_⟩:=h19.cells;exact ⟨f,e⟩
   subst e19;(try simp only [go_sem,simprocAttr,g18,g19]);refine e_bs (cs:=([[I tvA.kind,.string tvA.name,f18],[I tvB.kind,.string tvB.name,f19]]:List (List Value)).flatten.toArray) (ps:=partsOf 3 0 [[I tvA.kind,.string tvA.name,f18],[I tvB.kind,.string tvB.name,f19]]) (by (try simp only [go_sem,simprocAttr,g18,g19]);rfl) (fill_rows (sz:=3) [[I tvA.kind,.string tvA.name,f18],[I tvB.kind,.string tvB.name,f19]] [] _ ⟨rfl,rfl,trivial⟩ rfl) ?_;intro w2 hb2 hm2 hs2;(try simp only [go_sem,simprocAttr]);refine ⟨_,rfl,hm2,?_⟩;have hr:EachAt w2 (.slice (some ⟨w'.heap.size,0,none⟩) 2 2) 3 (NB w.heap.size w2) (TyAt w2 (NB w.heap.size w2)) [tvA,tvB]:=by
     refine each_new (rows:=[[I tvA.kind,.string tvA.name,f18],[I tvB.kind,.string tvB.name,f19]]) hb2 (nb_new (hm03.trans hm) hs2) ⟨rfl,rfl,trivial⟩ (by simp) ⟨?_,?_,trivial⟩
     · exact h18.up hm2 nof (nb_up hm2)
     · exact h19.up hm2 nof (nb_up hm2)
   exact hr
 | 21,hs=>
   obtain rfl:=Option.some.inj hs;obtain ⟨v20,g20,h20⟩:=hp 20 (by decide);have g20:ρ'.get 27=some v20:=g20;have h20:EachAt w' v20 3 (NB w.heap.size w') (TyAt w' (NB w.heap.size w')) [tvA,tvB]:=h20;obtain ⟨ax,cx,rfl⟩:=each_sl h20;(try simp only [go_sem,simprocAttr,g20]);refine ⟨_,rfl,.refl _ _,?_⟩;exact ⟨_,rfl,_,rfl,h20,by decide⟩
 | 22,hs=>
   obtain rfl:=Option.some.inj hs;obtain ⟨v21,g21,h21⟩:=hp 21 (by decide);have g21:ρ'.get 28=some v21:=g21;obtain ⟨cs21,rfl,h21⟩:∃ cs:List Value,v21 = .agg cs.toArray∧CnAt w' (NB w.heap.size w') cs cPair:=h21;obtain ⟨f21,e21⟩:∃ f,cs21=[.string cPair.name,f]:=by obtain ⟨f,e,_⟩:=h21;exact ⟨f,e⟩
   subst e21;(try simp only [go_sem,simprocAttr,g21]);refine e_bs (cs:=([[.string cPair.name,f21]]:List (List Value)).flatten.toArray) (ps:=partsOf 2 0 [[.string cPair.name,f21]]) (by (try simp only [go_sem,simprocAttr,g21]);rfl) (fill_rows (sz:=2) [[.string cPair.name,f21]] [] _ ⟨rfl,trivial⟩ rfl) ?_;intro w2 hb2 hm2 hs2;(try simp only [go_sem,simprocAttr]);refine ⟨_,rfl,hm2,?_⟩;have hr:EachAt w2 (.slice (some ⟨w'.heap.size,0,none⟩) 1 1) 2 (NB w.heap.size w2) (CnAt w2 (NB w.heap.size w2)) [cPair]:=by
     refine each_new (rows:=[[.string cPair.name,f21]]) hb2 (nb_new (hm03.trans hm) hs2) ⟨rfl,trivial⟩ (by simp) ⟨?_,trivial⟩
     · exact h21.up hm2 nof (nb_up hm2)
   exact hr
 | 23,hs=>
   obtain rfl:=Option.some.inj hs;obtain ⟨v17,g17,h17⟩:=hp 17 (by decide);have g17:ρ'.get 24=some v17:=g17;obtain ⟨v22,g22,h22⟩:=hp 22 (by decide);have g22:ρ'.get 29=some v22:=g22;have h22:EachAt w' v22 2 (NB w.heap.size w') (CnAt w' (NB w.heap.size w')) [cPair]:=h22;obtain ⟨ax,cx,rfl⟩:=each_sl h22;have h17:EachAt w' v17 1 (NB w.heap.size w') StrAt [⟨#[97]⟩,⟨#[98]⟩]:=h17;obtain ⟨ay,cy,rfl⟩:=each_sl h17;(try simp only [go_sem,simprocAttr,g17,g22]);refine ⟨_,rfl,.refl _ _,?_⟩;exact ⟨_,rfl,_,_,rfl,h17,h22⟩
 | 24,hs=>
   obtain rfl:=Option.some.inj hs;(try simp only [go_sem,simprocAttr]);refine e_bs (cs:=([[.string ⟨#[97]⟩],[.string ⟨#[98]⟩],[.string ⟨#[99]⟩]]:List (List Value)).flatten.toArray) rfl rfl ?_;intro w2 hb2 hm2 hs2;(try simp only [go_sem,simprocAttr]);refine ⟨_,rfl,hm2,?_⟩;exact each_new (P:=StrAt) (rows:=[[.string ⟨#[97]⟩],[.string ⟨#[98]⟩],[.string ⟨#[99]⟩]]) (l:=[⟨#[97]⟩,⟨#[98]⟩,⟨#[99]⟩]) (sz:=1) hb2 (nb_new (hm03.trans hm) hs2) ⟨rfl,rfl,rfl,trivial⟩ (by simp) ⟨⟨rfl,by decide⟩,⟨rfl,by decide⟩,⟨rfl,by decide⟩,trivial⟩
 | 25,hs=>
   obtain rfl:=Option.some.inj hs;have gt:ρ'.get 1=some (ptr b1):=(hk 1 (by decide)).trans rfl;have hb:=hm.at hb1 _root_.id;(try simp only [go_sem,simprocAttr,gt,ln_blk (n:=3) hb rfl]);exact ⟨_,rfl,.refl _ _,_,rfl,leaf_at _ _ 2 ⟨#[97]⟩⟩
 | 26,hs=>
   obtain rfl:=Option.some.inj hs;have gt:ρ'.get 2=some (ptr b2):=(hk 2 (by decide)).trans rfl;have hb:=hm.at hb2 _root_.id;(try simp only [go_sem,simprocAttr,gt,ln_blk (n:=3) hb rfl]);exact ⟨_,rfl,.refl _ _,_,rfl,leaf_at _ _ 2 ⟨#[98]⟩⟩
 | 27,hs=>
   obtain rfl:=Option.some.inj hs;have gt:ρ'.get 3=some (ptr b3):=(hk 3 (by decide)).trans rfl;have hb:=hm.at hb3 _root_.id;(try simp only [go_sem,simprocAttr,gt,ln_blk (n:=3) hb rfl]);exact ⟨_,rfl,.refl _ _,_,rfl,leaf_at _ _ 2 ⟨#[99]⟩⟩
 | 28,hs=>
   obtain rfl:=Option.some.inj hs;obtain ⟨v25,g25,h25⟩:=hp 25 (by decide);have g25:ρ'.get 32=some v25:=g25;obtain ⟨v26,g26,h26⟩:=hp 26 (by decide);have g26:ρ'.get 33=some v26:=g26;obtain ⟨v27,g27,h27⟩:=hp 27 (by decide);have g27:ρ'.get 34=some v27:=g27;obtain ⟨cs25,rfl,h25⟩:∃ cs:List Value,v25 = .agg cs.toArray∧TyAt w' (NB w.heap.size w') cs tvA:=h25;obtain ⟨f25,e25⟩:∃ f,cs25=[I tvA.kind,.string tvA.name,f]:=by obtain ⟨f,e,_⟩:=h25.cells;exact ⟨f,e⟩
   subst e25;obtain ⟨cs26,rfl,h26⟩:∃ cs:List Value,v26 = .agg cs.toArray∧TyAt w' (NB w.heap.size w') cs tvB:=h26;obtain ⟨f26,e26⟩:∃ f,cs26=[I tvB.kind,.string tvB.name,f]:=by obtain ⟨f,e,_⟩:=h26.cells;exact ⟨f,e⟩
   subst e26;obtain ⟨cs27,rfl,h27⟩:∃ cs:List Value,v27 = .agg cs.toArray∧TyAt w' (NB w.heap.size w') cs tvC:=h27;obtain ⟨f27,e27⟩:∃ f,cs27=[I tvC.kind,.string tvC.name,f]:=by obtain ⟨f,e,_⟩:=h27.cells;exact ⟨f,e⟩
   subst e27;(try simp only [go_sem,simprocAttr,g25,g26,g27]);refine e_bs (cs:=([[I tvA.kind,.string tvA.name,f25],[I tvB.kind,.string tvB.name,f26],[I tvC.kind,.string tvC.name,f27]]:List (List Value)).flatten.toArray) (ps:=partsOf 3 0 [[I tvA.kind,.string tvA.name,f25],[I tvB.kind,.string tvB.name,f26],[I tvC.kind,.string tvC.name,f27]]) (by (try simp only [go_sem,simprocAttr,g25,g26,g27]);rfl) (fill_rows (sz:=3) [[I tvA.kind,.string tvA.name,f25],[I tvB.kind,.string tvB.name,f26],[I tvC.kind,.string tvC.name,f27]] [] _ ⟨rfl,rfl,rfl,trivial⟩ rfl) ?_;intro w2 hb2 hm2 hs2;(try simp only [go_sem,simprocAttr]);refine ⟨_,rfl,hm2,?_⟩;have hr:EachAt w2 (.slice (some ⟨w'.heap.size,0,none⟩) 3 3) 3 (NB w.heap.size w2) (TyAt w2 (NB w.heap.size w2)) [tvA,tvB,tvC]:=by
     refine each_new (rows:=[[I tvA.kind,.string tvA.name,f25],[I tvB.kind,.string tvB.name,f26],[I tvC.kind,.string tvC.name,f27]]) hb2 (nb_new (hm03.trans hm) hs2) ⟨rfl,rfl,rfl,trivial⟩ (by simp) ⟨?_,?_,?_,trivial⟩
     · exact h25.up hm2 nof (nb_up hm2)
     · exact h26.up hm2 nof (nb_up hm2)
     · exact h27.up hm2 nof (nb_up hm2)
   exact hr
 | 29,hs=>
   obtain rfl:=Option.some.inj hs;obtain ⟨v28,g28,h28⟩:=hp 28 (by decide);have g28:ρ'.get 35=some v28:=g28;have h28:EachAt w' v28 3 (NB w.heap.size w') (TyAt w' (NB w.heap.size w')) [tvA,tvB,tvC]:=h28;obtain ⟨ax,cx,rfl⟩:=each_sl h28;(try simp only [go_sem,simprocAttr,g28]);refine ⟨_,rfl,.refl _ _,?_⟩;exact ⟨_,rfl,_,rfl,h28,by decide⟩
 | 30,hs=>
   obtain rfl:=Option.some.inj hs;obtain ⟨v29,g29,h29⟩:=hp 29 (by decide);have g29:ρ'.get 36=some v29:=g29;obtain ⟨cs29,rfl,h29⟩:∃ cs:List Value,v29 = .agg cs.toArray∧CnAt w' (NB w.heap.size w') cs cTriple:=h29;obtain ⟨f29,e29⟩:∃ f,cs29=[.string cTriple.name,f]:=by obtain ⟨f,e,_⟩:=h29;exact ⟨f,e⟩
   subst e29;(try simp only [go_sem,simprocAttr,g29]);refine e_bs (cs:=([[.string cTriple.name,f29]]:List (List Value)).flatten.toArray) (ps:=partsOf 2 0 [[.string cTriple.name,f29]]) (by (try simp only [go_sem,simprocAttr,g29]);rfl) (fill_rows (sz:=2) [[.string cTriple.name,f29]] [] _ ⟨rfl,trivial⟩ rfl) ?_;intro w2 hb2 hm2 hs2;(try simp only [go_sem,simprocAttr]);refine ⟨_,rfl,hm2,?_⟩;have hr:EachAt w2 (.slice (some ⟨w'.heap.size,0,none⟩) 1 1) 2 (NB w.heap.size w2) (CnAt w2 (NB w.heap.size w2)) [cTriple]:=by
     refine each_new (rows:=[[.string cTriple.name,f29]]) hb2 (nb_new (hm03.trans hm) hs2) ⟨rfl,trivial⟩ (by simp) ⟨?_,trivial⟩
     · exact h29.up hm2 nof (nb_up hm2)
   exact hr
 | 31,hs=>
   obtain rfl:=Option.some.inj hs;obtain ⟨v24,g24,h24⟩:=hp 24 (by decide);have g24:ρ'.get 31=some v24:=g24;obtain ⟨v30,g30,h30⟩:=hp 30 (by decide);have g30:ρ'.get 37=some v30:=g30;have h30:EachAt w' v30 2 (NB w.heap.size w') (CnAt w' (NB w.heap.size w')) [cTriple]:=h30;obtain ⟨ax,cx,rfl⟩:=each_sl h30;have h24:EachAt w' v24 1 (NB w.heap.size w') StrAt [⟨#[97]⟩,⟨#[98]⟩,⟨#[99]⟩]:=h24;obtain ⟨ay,cy,rfl⟩:=each_sl h24;(try simp only [go_sem,simprocAttr,g24,g30]);refine ⟨_,rfl,.refl _ _,?_⟩;exact ⟨_,rfl,_,_,rfl,h24,h30⟩
 | 32,hs=>
   obtain rfl:=Option.some.inj hs;obtain ⟨v3,g3,h3⟩:=hp 3 (by decide);have g3:ρ'.get 10=some v3:=g3;obtain ⟨v6,g6,h6⟩:=hp 6 (by decide);have g6:ρ'.get 13=some v6:=g6;obtain ⟨v16,g16,h16⟩:=hp 16 (by decide);have g16:ρ'.get 23=some v16:=g16;obtain ⟨v23,g23,h23⟩:=hp 23 (by decide);have g23:ρ'.get 30=some v23:=g23;obtain ⟨v31,g31,h31⟩:=hp 31 (by decide);have g31:ρ'.get 38=some v31:=g31;obtain ⟨cs3,rfl,h3⟩:∃ cs:List Value,v3 = .agg cs.toArray∧DtAt w' (NB w.heap.size w') cs dBool:=h3;obtain ⟨f3,k3,e3⟩:∃ f k,cs3=[.string dBool.name,f,k]:=by obtain ⟨f,k,e,_⟩:=h3;exact ⟨f,k,e⟩
   subst e3;obtain ⟨cs6,rfl,h6⟩:∃ cs:List Value,v6 = .agg cs.toArray∧DtAt w' (NB w.heap.size w') cs dUnit:=h6;obtain ⟨f6,k6,e6⟩:∃ f k,cs6=[.string dUnit.name,f,k]:=by obtain ⟨f,k,e,_⟩:=h6;exact ⟨f,k,e⟩
   subst e6;obtain ⟨cs16,rfl,h16⟩:∃ cs:List Value,v16 = .agg cs.toArray∧DtAt w' (NB w.heap.size w') cs dList:=h16;obtain ⟨f16,k16,e16⟩:∃ f k,cs16=[.string dList.name,f,k]:=by obtain ⟨f,k,e,_⟩:=h16;exact ⟨f,k,e⟩
   subst e16;obtain ⟨cs23,rfl,h23⟩:∃ cs:List Value,v23 = .agg cs.toArray∧DtAt w' (NB w.heap.size w') cs dPair:=h23;obtain ⟨f23,k23,e23⟩:∃ f k,cs23=[.string dPair.name,f,k]:=by obtain ⟨f,k,e,_⟩:=h23;exact ⟨f,k,e⟩
   subst e23;obtain ⟨cs31,rfl,h31⟩:∃ cs:List Value,v31 = .agg cs.toArray∧DtAt w' (NB w.heap.size w') cs dTriple:=h31;obtain ⟨f31,k31,e31⟩:∃ f k,cs31=[.string dTriple.name,f,k]:=by obtain ⟨f,k,e,_⟩:=h31;exact ⟨f,k,e⟩
   subst e31;(try simp only [go_sem,simprocAttr,g3,g6,g16,g23,g31]);refine e_bs (cs:=([[.string dBool.name,f3,k3],[.string dUnit.name,f6,k6],[.string dList.name,f16,k16],[.string dPair.name,f23,k23],[.string dTriple.name,f31,k31]]:List (List Value)).flatten.toArray) (ps:=partsOf 3 0 [[.string dBool.name,f3,k3],[.string dUnit.name,f6,k6],[.string dList.name,f16,k16],[.string dPair.name,f23,k23],[.string dTriple.name,f31,k31]]) (by (try simp only [go_sem,simprocAttr,g3,g6,g16,g23,g31]);rfl) (fill_rows (sz:=3) [[.string dBool.name,f3,k3],[.string dUnit.name,f6,k6],[.string dList.name,f16,k16],[.string dPair.name,f23,k23],[.string dTriple.name,f31,k31]] [] _ ⟨rfl,rfl,rfl,rfl,rfl,trivial⟩ rfl) ?_;intro w2 hb2 hm2 hs2;(try simp only [go_sem,simprocAttr]);refine ⟨_,rfl,hm2,?_⟩;have hr:EachAt w2 (.slice (some ⟨w'.heap.size,0,none⟩) 5 5) 3 (NB w.heap.size w2) (DtAt w2 (NB w.heap.size w2)) [dBool,dUnit,dList,dPair,dTriple]:=by
     refine each_new (rows:=[[.string dBool.name,f3,k3],[.string dUnit.name,f6,k6],[.string dList.name,f16,k16],[.string dPair.name,f23,k23],[.string dTriple.name,f31,k31]]) hb2 (nb_new (hm03.trans hm) hs2) ⟨rfl,rfl,rfl,rfl,rfl,trivial⟩ (by simp) ⟨?_,?_,?_,?_,?_,trivial⟩
     · exact h3.up hm2 nof (nb_up hm2)
     · exact h6.up hm2 nof (nb_up hm2)
     · exact h16.up hm2 nof (nb_up hm2)
     · exact h23.up hm2 nof (nb_up hm2)
     · exact h31.up hm2 nof (nb_up hm2)
   exact hr
 | 33,hs=>
   obtain rfl:=Option.some.inj hs;obtain ⟨v32,g32,h32⟩:=hp 32 (by decide);have g32:ρ'.get 39=some v32:=g32;(try simp only [go_sem,simprocAttr,g32]);exact ⟨_,rfl,.refl _ _,h32⟩
 | i+34,hs=>simp [gSts] at hs
 rintro ρ' w' hm2 hall hk;obtain ⟨v,g,hv⟩:=hall 33 (by rw [gOps_n];decide);have g:ρ'.get 0=some v:=g;have hv:EachAt w' v 3 (NB w.heap.size w') (DtAt w' (NB w.heap.size w')) givenS:=hv;(try simp only [go_sem,simprocAttr,g,rvs,RV.ev,one?]);exact ⟨hv,hm03.trans hm2⟩
end
section
open Go Go.W
theorem each_cells {α:Type} {w:World} {v:Value} {sz:Nat} {B:Nat→Prop} {P:List Value→α→Prop} {l:List α} (h:EachAt w v sz B P l) {i:Nat} (hi:i < l.length) :
   ∃ ad c r,v = .slice (some ad) l.length c∧P r l[i]∧r.length=sz∧CellsAt w B (ad.add (i*sz)) r:=by
 obtain ⟨rows,⟨⟨a,c,e,hb,hr⟩,_⟩,h2,h3⟩:=h;obtain ⟨ad,rfl,hl,hc⟩:=hr i (by omega);exact ⟨ad,c,rows[i]'(by omega),by rw [e,h2],h3 i _ _ (List.getElem?_eq_getElem (by omega)) (List.getElem?_eq_getElem hi),hl,by rw [add_block];exact hb (by omega) ad rfl,hc⟩
def emptyE:Env:=⟨[],[],[],[]⟩
def enterAll:List Dt→Env→Env
 | [],E=>E
 | d::l,E=>enterAll l (enterE E d)
theorem enterAll_at {l:List Dt} {i:Nat} (hi:i < l.length) (E:Env):enterAll (l.drop i) E=enterAll (l.drop (i+1)) (enterE E l[i]):=by rw [List.drop_eq_getElem_cons hi,enterAll]
def newE:Env:=enterAll givenS emptyE
theorem f_new {w:World}:CallsR Tryz.prog 41 [] w fun r w'=>(∃ (c md mc mf:Nat) (S:Nat→Prop),r=ptr c∧Ck0 w' S c md mc mf newE∧∀ b,S b→w.heap.size≤b)∧Mod (fun _=>False) w w':=by
 refine fit41.calls rfl ?_;unfold ir41;(try simp only [go_sem,simprocAttr]);refine e_mmR (α:=Dt) (fun v _=>False) ?_;intro w1 hp1 hm1 hs1;(try simp only [go_sem,simprocAttr]);refine e_mmR (α:=Dt×Nat) (fun v _=>False) ?_;intro w2 hp2 hm2 hs2;(try simp only [go_sem,simprocAttr]);refine e_mmR (α:=Df) (fun v _=>False) ?_;intro w3 hp3 hm3 hs3;have emp:∀ {α:Type} {w:World} {b:Nat} {R R':Value→α→Prop},MapR w b R []→MapR w b R' []:=fun h=>by
   obtain ⟨lv,q1,q2⟩:=h;cases q2;exact ⟨[],q1,.nil⟩
 (try simp only [go_sem,simprocAttr]);refine e_bx rfl ?_;intro w4 hb4 hm4 hs4;have hm04:=hm1.trans (hm2.trans (hm3.trans hm4));have z4:=hm04.size;(try simp only [go_sem,simprocAttr]);refine e_call (by rfl) ?_;refine f_given.mono ?_;rintro r w5 ⟨hg,hm5⟩;obtain ⟨ag,cg,rfl⟩:=each_sl hg;have z5:=hm5.size;have hb5:=hm5.at hb4 _root_.id
 let S:Nat→Prop:=fun b=>b=w3.heap.size∨b=w.heap.size∨b=w1.heap.size∨b=w2.heap.size
 have hS4:∀ b,S b→b < w4.heap.size:=fun b hb=>by
   rcases hb with h | h | h | h<;>omega
 have hck:Ck0 w5 S w3.heap.size w.heap.size w1.heap.size w2.heap.size emptyE:=by
   refine ⟨⟨.map none,.map none,.map none,rfl,rfl,rfl,hb5⟩,?_,fun b hb=>?_,fun b hb=>Nat.lt_of_lt_of_le (hS4 b hb) z5,?_,?_,?_⟩
   · simp only [List.nodup_cons,List.mem_cons,List.not_mem_nil,or_false,not_or,not_false_eq_true,List.nodup_nil,and_true];omega
   · simpa only [List.mem_cons,List.not_mem_nil,or_false] using hb
   · exact emp (MapR.mod hp1 (hm2.trans (hm3.trans (hm4.trans hm5))) _root_.id (fun _ _ x=>x))
   · exact emp (MapR.mod hp2 (hm3.trans (hm4.trans hm5)) _root_.id (fun _ _ x=>x))
   · exact emp (MapR.mod hp3 (hm4.trans hm5) _root_.id (fun _ _ x=>x))
 have hgS:EachAt w5 (.slice ag givenS.length cg) 3 (Out S w5) (DtAt w5 (Out S w5)) givenS:=by
   have hout:∀ b,NB w4.heap.size w5 b→Out S w5 b:=fun b hb=>⟨hb.2,fun hh=>by have:=hS4 b hh;have:=hb.1;omega⟩
   exact hg.up (.refl (fun _=>False) w5) nof hout (fun _ _ h=>h.up (.refl (fun _=>False) w5) nof hout)
 let T:Nat→Prop:=fun b=>b=w.heap.size∨b=w1.heap.size
 have TS:∀ b,T b→S b:=fun b hb=>by rcases hb with h | h;exact .inr (.inl h);exact .inr (.inr (.inl h))
 (try simp only [go_sem,simprocAttr]);refine ir_range givenS.length (fun k ρ w'=>k≤givenS.length∧Mod T w5 w'∧(∃ E,Ck0 w' S w3.heap.size w.heap.size w1.heap.size w2.heap.size E∧enterAll (givenS.drop k) E=newE)∧ρ=[(1,ptr w3.heap.size),(2,.slice ag givenS.length cg),(11,I givenS.length),(12,I k)])
   ⟨by omega,.refl _ _,⟨emptyE,hck,rfl⟩,rfl⟩ (by decide) ?_ ?_ (by decide) ?_
 · rintro k _ w6 ⟨hk,_,_,rfl⟩;exact ⟨rfl,rfl,hk⟩
 · rintro k _ w6 ⟨_,hm6,⟨E,hck6,hen⟩,rfl⟩ hk;rw [enterAll_at hk] at hen;have hg6:=hgS.up (hm6.weak TS) out_not (out_up (hm6.weak TS)) (fun _ _ h=>h.up (hm6.weak TS) out_not (out_up (hm6.weak TS)));obtain ⟨ad,c2,rr,e,hd,hl3,hcs⟩:=each_cells hg6 hk;obtain ⟨rfl,-,-⟩:=tup_inj e;have bk:(0:Int)≤k∧(k:Int) < givenS.length:=by omega
   (try simp only [go_sem,simprocAttr,zb4,zb6,bk]);refine e_call (by rfl) ?_;refine (f_enter hck6 ⟨rr,hcs,hd⟩).mono ?_;rintro _ w7 ⟨hck7,hm7⟩;(try simp only [go_sem,simprocAttr]);exact ⟨hk,hm6.trans hm7,_,hck7,hen⟩
 · rintro _ w6 ⟨_,hm6,⟨E,hck6,hen⟩,rfl⟩;rw [List.drop_length,enterAll] at hen;subst hen;(try simp only [go_sem,simprocAttr,rvs,RV.ev,one?]);refine ⟨⟨_,_,_,_,S,rfl,hck6,fun b hb=>?_⟩,(hm04.trans hm5).step hm6 (fun b hb hl=>by rcases hb with h | h<;>omega)⟩;rcases hb with h | h | h | h<;>omega
end
section
open Go Go.W
def seenC (E:Env):List Cn→Cnt→Bool
 | [],_=>true
 | k::ks,m=>if ((aget E.cons k.name).isSome||has m k.name||decide ((k.fields.length:Int) > 8))=true then false else seenC E ks (aput m k.name 1)
def seenP:List ByteArray→Cnt→Bool
 | [],_=>true
 | s::l,m=>if has m s=true then false else seenP l (aput m s 1)
def checkDataS (E:Env) (d:Dt):Int:=
 if (!isDataC d.name||d.params.any (fun s=>!isVarC s)||d.cons.any (fun k=>!isNameS k.name))=true then 82
 else if (aget E.datas d.name).isSome=true then 81
 else if seenC E d.cons []=false then 81
 else if seenP d.params []=false then 81
 else if (decide ((d.params.length:Int) > 6)||(d.cons.length:Int) == 0||decide ((d.cons.length:Int) > 24))=true then 81 else 0
theorem seenC_at {E:Env} {l:List Cn} {i:Nat} (hi:i < l.length) (m:Cnt):seenC E (l.drop i) m=if ((aget E.cons l[i].name).isSome||has m l[i].name||decide ((l[i].fields.length:Int) > 8))=true then false else seenC E (l.drop (i+1)) (aput m l[i].name 1):=by rw [List.drop_eq_getElem_cons hi,seenC]
theorem seenP_at {l:List ByteArray} {i:Nat} (hi:i < l.length) (m:Cnt):seenP (l.drop i) m=if has m l[i]=true then false else seenP (l.drop (i+1)) (aput m l[i] 1):=by rw [List.drop_eq_getElem_cons hi,seenP]
def datasS:List Dt→Env→Except Int Env
 | [],E=>.ok E
 | d::l,E=>if (checkDataS E d != 0)=true then .error (checkDataS E d) else datasS l (enterE E d)
def fieldsS (E:Env) (d:Dt):Bool:=d.cons.all fun k=>k.fields.all (rightS (knowE E d.params))
def datas2S (E:Env) (l:List Dt):Bool:=l.all (fieldsS E)
def checkDatasS (E:Env) (l:List Dt):Except Int Env:=match datasS l E with
 | .error e=>.error e
 | .ok E'=>if datas2S E' l=true then .ok E' else .error 81
theorem datasS_at {l:List Dt} {i:Nat} (hi:i < l.length) (E:Env):datasS (l.drop i) E=if (checkDataS E l[i] != 0)=true then .error (checkDataS E l[i]) else datasS (l.drop (i+1)) (enterE E l[i]):=by rw [List.drop_eq_getElem_cons hi,datasS]
def parsS:List ByteArray→Cnt→Bool
 | [],_=>true
 | s::l,m=>if (!isVarC s||has m s)=true then false else parsS l (aput m s 1)
def parsL:List ByteArray→Cnt→Cnt
 | [],m=>m
 | s::l,m=>parsL l (aput m s 1)
theorem parsS_at {l:List ByteArray} {i:Nat} (hi:i < l.length) (m:Cnt):parsS (l.drop i) m=if (!isVarC l[i]||has m l[i])=true then false else parsS (l.drop (i+1)) (aput m l[i] 1):=by rw [List.drop_eq_getElem_cons hi,parsS]
theorem parsL_at {l:List ByteArray} {i:Nat} (hi:i < l.length) (m:Cnt):parsL (l.drop i) m=parsL (l.drop (i+1)) (aput m l[i] 1):=by rw [List.drop_eq_getElem_cons hi,parsL]
def headS (E:Env) (d:Df):Except Int Env:=
 if ((aget E.defs d.name).isSome || !isNameS d.name)=true then .error 82
 else if parsS d.params []=false then .error 82
 else if rightS { E with params:=parsL d.params []} d.type=false then .error 83
 else .ok { E with defs:=aput E.defs d.name d,params:=parsL d.params []}
def headsS:List Df→Env→Except Int Env
 | [],E=>.ok E
 | d::l,E=>match headS E d with
   | .error e=>.error e
   | .ok E'=>headsS l E'
theorem headsS_at {l:List Df} {i:Nat} (hi:i < l.length) (E:Env):headsS (l.drop i) E=match headS E l[i] with
   | .error e=>.error e
   | .ok E'=>headsS (l.drop (i+1)) E':=by rw [List.drop_eq_getElem_cons hi,headsS]
noncomputable def bodyS (E:Env) (d:Df):Int:=match exprS (knowE E d.params) d.body ([],[]) with
 | .error e=>e
 | .ok y=>if sameT y.1 d.type=true then 0 else 83
noncomputable def bodiesS (E:Env):List Df→Int
 | []=>0
 | d::l=>if (bodyS E d != 0)=true then bodyS E d else bodiesS E l
theorem bodiesS_at {E:Env} {l:List Df} {i:Nat} (hi:i < l.length):bodiesS E (l.drop i)=if (bodyS E l[i] != 0)=true then bodyS E l[i] else bodiesS E (l.drop (i+1)):=by rw [List.drop_eq_getElem_cons hi,bodiesS]
end
section
open Go Go.W
theorem fn_cd1:Fn 80:=⟨_,rfl,rfl,rfl⟩
theorem fn_cd2:Fn 82:=⟨_,rfl,rfl,rfl⟩
theorem f_cd1 (s:ByteArray) {w:World}:CallsR Tryz.prog 80 [.string s] w fun r w'=>r = .bool (!isVarC s)∧Mod (fun _=>False) w w':=by
 refine fit80.calls rfl ?_;unfold ir80;(try simp only [go_sem,simprocAttr]);refine e_call (by rfl) ?_;refine (f_isVarC s).mono ?_;rintro _ w1 ⟨rfl,hm⟩;(try simp only [go_sem,simprocAttr,rvs,RV.ev,one?]);exact hm
theorem f_cd2 {k:Cn} {B:Nat→Prop} {cs:List Value} {w:World} (h:CnAt w B cs k):CallsR Tryz.prog 82 [.agg cs.toArray] w fun r w'=>r = .bool (!isNameS k.name)∧Mod (fun _=>False) w w':=by
 obtain ⟨vf,rfl,hf,hn⟩:=h;refine fit82.calls rfl ?_;unfold ir82;(try simp only [go_sem,simprocAttr]);refine e_bx rfl ?_;intro w1 hb1 hm1 hs1;(try simp only [go_sem,simprocAttr,cell_of hb1]);refine e_call (by rfl) ?_;refine (f_isName k.name hn).mono ?_;rintro _ _ ⟨rfl,rfl⟩;(try simp only [go_sem,simprocAttr,rvs,RV.ev,one?]);exact hm1
theorem f_checkData {E:Env} {d:Dt} {a:Addr} {w:World} {S:Nat→Prop} {c md mc mf:Nat} (hc:Ck0 w S c md mc mf E) (hp:DPtr w (Out S w) a d) :
   CallsR Tryz.prog 59 [ptr c,.pointer (some a)] w fun r w'=>r=I (checkDataS E d)∧Mod (fun _=>False) w w':=by
 obtain ⟨cs,hcs,vps,vc,rfl,hpar,hcon⟩:=hp;obtain ⟨ap,cp,rfl⟩:=each_sl hpar;obtain ⟨ac,cc,rfl⟩:=each_sl hcon;have hlp:=each_len hpar;have hlc:=each_len hcon;have cell:∀ {w':World},Mod (fun _=>False) w w'→w'.cell? a=some (.string d.name)∧w'.cell? ⟨a.block,a.off+1,none⟩=some (.slice ap d.params.length cp)∧w'.cell? ⟨a.block,a.off+2,none⟩=some (.slice ac d.cons.length cc):=fun hm=>by
   have h:=hcs.up hm nof (fun _ h=>h);exact ⟨h.c0 (by simp),h.at (k:=1) (by simp),h.at (k:=2) (by simp)⟩
 refine fit59.calls rfl ?_;unfold ir59;obtain ⟨k0,k1,k2⟩:=cell (Mod.refl _ w);have hds:checkDataS E d=if (!isDataC d.name||d.params.any (fun s=>!isVarC s)||d.cons.any (fun k=>!isNameS k.name))=true then 82
     else if (aget E.datas d.name).isSome=true then 81
     else if seenC E d.cons []=false then 81
     else if seenP d.params []=false then 81
     else if (decide ((d.params.length:Int) > 6)||(d.cons.length:Int) == 0||decide ((d.cons.length:Int) > 24))=true then 81 else 0:=rfl
 (try simp only [go_sem,simprocAttr,k0]);refine e_call (by rfl) ?_;refine (f_isDataC d.name).mono ?_;rintro _ w1 ⟨rfl,hm1⟩;(try simp only [go_sem,simprocAttr]);refine wpS_cut (fun ρ w'=>Mod (fun _=>False) w w'∧ρ.get 33=some (.bool (!isDataC d.name||d.params.any (fun s=>!isVarC s)||d.cons.any (fun k=>!isNameS k.name)))∧ρ.get 0=some (ptr c)∧ρ.get 1=some (.pointer (some a))) ?_ ?_
 · cases h1:isDataC d.name with
   | false=>(try simp only [go_sem,simprocAttr]);exact ⟨hm1,rfl⟩
   | true=>
     obtain ⟨q0,q1,q2⟩:=cell hm1;(try simp only [go_sem,simprocAttr,q1]);refine e_call (by rfl) ?_;refine (f_contains_str (p:=fun s=>!isVarC s) (hpar.mod hm1 nof (fun _ _ h=>h)) fn_cd1 (fun s _ _ w' _=>f_cd1 s)).mono ?_;rintro _ w2 ⟨rfl,hm2⟩;cases h2:d.params.any (fun s=>!isVarC s) with
     | true=>(try simp only [go_sem,simprocAttr]);exact ⟨hm1.trans hm2,rfl⟩
     | false=>
       obtain ⟨q0,q1,q2⟩:=cell (hm1.trans hm2);(try simp only [go_sem,simprocAttr,q2]);refine e_call (by rfl) ?_;refine (f_contains_con (PP:=fun w'=>CnAt w' (Out S w)) (p:=fun k=>!isNameS k.name) (hcon.mod (hm1.trans hm2) nof (fun _ _ h=>h.mod (hm1.trans hm2) nof)) (fun _ _ _ _ h hm=>h.mod hm nof) fn_cd2 ?_).mono ?_
       · intro w3 r3 u hu hm3 hr3;exact f_cd2 hr3
       rintro _ w3 ⟨rfl,hm3⟩;(try simp only [go_sem,simprocAttr]);exact ⟨(hm1.trans hm2).trans hm3,rfl⟩
 rintro ρ w2 ⟨hm2,g33,g0,g1⟩;cases hnames:(!isDataC d.name||d.params.any (fun s=>!isVarC s)||d.cons.any (fun k=>!isNameS k.name)) with
 | true=>
   rw [if_pos hnames] at hds;rw [hnames] at g33;(try simp only [go_sem,simprocAttr,g33,g0,g1,rvs,RV.ev,one?]);exact ⟨by rw [hds],hm2⟩
 | false=>
   rw [if_neg (by rw [hnames];simp)] at hds;rw [hnames] at g33;obtain ⟨q0,q1,q2⟩:=cell hm2;have hc2:=hc.keep hm2;obtain ⟨vp2,vb2,vl2,_,_,_,hbox2⟩:=hc2.box;(try simp only [go_sem,simprocAttr,g33,g0,g1,q0,cell_of hbox2]);have d2:Mod (fun _=>False) w2 w2.drew:=(Mod.refl _ _).drew;have hc2d:=hc2.keep d2;refine e_lkR (R:=RData w2.drew (Out S w2.drew)) (k:=d.name) (b:=md) (kt:=9) (et:=152) rfl rfl rfl rfl (Tryz.zeroValue152 _) hc2d.datas (fun hn=>?_) (fun v y hy hr=>?_)
   rotate_left
   · obtain ⟨ad,rfl,_⟩:=hr;rw [hy,if_pos (by rfl)] at hds;(try simp only [go_sem,simprocAttr,rvs,RV.ev,one?]);exact ⟨by rw [hds],hm2.trans d2⟩
   · rw [hn,if_neg (by simp)] at hds;(try simp only [go_sem,simprocAttr]);refine e_mmR (α:=Int) RI ?_;intro w5 hp5 hm5' hs5;have hm5:Mod (fun _=>False) w w5:=hm2.trans (d2.trans hm5');have zb:w.heap.size≤w2.heap.size:=hm2.size;obtain ⟨q0,q1,q2⟩:=cell hm5;(try simp only [go_sem,simprocAttr,q2]);have far:∀ {w':World},Mod (· = w2.heap.size) w5 w'→Mod (fun _=>False) w w':=fun hm=>hm5.step hm (fun b hb hl=>by omega)
     refine ir_range d.cons.length (fun k ρ w'=>k≤d.cons.length∧Mod (· = w2.heap.size) w5 w'∧(∃ m,MapR w' w2.heap.size RI m∧seenC E (d.cons.drop k) m=seenC E d.cons [])∧ρ=[(0,ptr c),(1,.pointer (some a)),(7,.map (some w2.heap.size)),(51,.slice ac d.cons.length cc),(52,I d.cons.length),(53,I k)])
       ⟨by omega,.refl _ _,⟨[],hp5,rfl⟩,rfl⟩ hlc ?_ ?_ (by decide) ?_
     · rintro k _ w6 ⟨hk,_,_,rfl⟩;exact ⟨rfl,rfl,hk⟩
     · rintro k _ w6 ⟨_,hm6,⟨m,hmp,hseen⟩,rfl⟩ hk;rw [seenC_at hk] at hseen;have hm06:=far hm6;obtain ⟨ad,c2,r,e,hr,hl2,hln,_⟩:=each_at (hcon.mod hm06 nof (fun _ _ h=>h.mod hm06 nof)) hk;obtain ⟨rfl,-,-⟩:=tup_inj e;obtain ⟨vf,rfl,hf,hnm⟩:=hr;obtain ⟨af,cf,rfl⟩:=each_sl hf;have bk:(0:Int)≤k∧(k:Int) < d.cons.length:=by omega
       have hc6:=hc.keep hm06;(try simp only [go_sem,simprocAttr,zb4,zb6,bk,hln]);refine s_new (n:=2) (vs:=[.string d.cons[k].name,.slice af d.cons[k].fields.length cf]) rfl rfl (one_cons rfl (one_cons rfl one_nil)) ?_;intro w7 hb9 hm7 hs7;have hc7:=hc6.keep hm7;obtain ⟨vp7,vb7,vl7,_,_,_,hbox7⟩:=hc7.box;have kn:w7.cell? ⟨w6.heap.size,0,none⟩=some (.string d.cons[k].name):=by rw [cell_of hb9];rfl
       have kf:∀ {w':World},Mod (fun _=>False) w7 w'→w'.cell? ⟨w6.heap.size,0,none⟩=some (.string d.cons[k].name)∧w'.cell? ⟨w6.heap.size,1,none⟩=some (.slice af d.cons[k].fields.length cf):=fun hm=>by
         constructor<;>(rw [cell_of (hm.at hb9 _root_.id)];rfl)
       have d7:Mod (fun _=>False) w7 w7.drew:=(Mod.refl _ _).drew;have hc7d:=hc7.keep d7;have ltc:c < w7.heap.size:=hc7.lt c (hc7.inS c (by simp));(try simp only [go_sem,simprocAttr,kn,cell_of hbox7]);refine d_look (Rr:=RPlace w7.drew (Out S w7.drew)) (k:=d.cons[k].name) (b0:=mc) (kt:=9) (et:=158) (zc:=[.pointer none,I 0]) rfl rfl rfl rfl (fun w=>Tryz.zeroValue158 w) ⟨rfl,one_cons rfl (one_cons rfl one_nil)⟩ rfl hc7d.cons
         (fun v y hr=>by obtain ⟨ad,rfl,_⟩:=hr;exact ⟨[.pointer (some ad),I y.2],rfl,rfl,one_cons rfl (one_cons rfl one_nil)⟩) (fun p hp=>by
           have e:w7.drew.heap.size=w7.heap.size:=rfl;simp only [List.mem_cons,List.not_mem_nil,or_false] at hp;rcases hp with rfl | rfl
           · show w6.heap.size < _;omega
           · show c < _;omega) (by decide) ?_
       intro w8 ρ8 cz u hold g10 g11 hb10 hm8' hz2 hz1 hcase;have hm8:Mod (fun _=>False) w7 w8:=hm8'.of_drew;have g0:ρ8.get 0=some (ptr c):=(hold 0 (by decide)).trans rfl;have g1:ρ8.get 1=some (.pointer (some a)):=(hold 1 (by decide)).trans rfl;have g7:ρ8.get 7=some (.map (some w2.heap.size)):=(hold 7 (by decide)).trans rfl;have g9:ρ8.get 9=some (ptr w6.heap.size):=(hold 9 (by decide)).trans rfl;have g51:ρ8.get 51=some (.slice (some ad) d.cons.length cc):=(hold 51 (by decide)).trans rfl;have g52:ρ8.get 52=some (I d.cons.length):=(hold 52 (by decide)).trans rfl;have g53:ρ8.get 53=some (I k):=(hold 53 (by decide)).trans rfl;obtain ⟨kn8,kf8⟩:=kf hm8;have hm68:=hm7.trans hm8;have hmp8:=hmp.mod hm68 _root_.id (fun _ _ x=>x);have hm08:=hm06.trans hm68;have stop:((aget E.cons d.cons[k].name).isSome||has m d.cons[k].name||decide ((d.cons[k].fields.length:Int) > 8))=true→checkDataS E d=81:=fun h=>by
         rw [if_pos h] at hseen;rw [hds,if_pos hseen.symm]
       have goon:((aget E.cons d.cons[k].name).isSome||has m d.cons[k].name||decide ((d.cons[k].fields.length:Int) > 8))=false→seenC E (d.cons.drop (k+1)) (aput m d.cons[k].name 1)=seenC E d.cons []:=fun h=>by
         rw [if_neg (by rw [h];simp)] at hseen;exact hseen
       rcases hcase with ⟨hn8,rfl⟩ | ⟨x,hx8,_,rfl⟩
       · rw [hn8] at stop goon;(try simp only [go_sem,simprocAttr,g0,g1,g7,g9,g11,g51,g52,g53,kn8]);refine raw_g ?_;refine e_lkI (k:=d.cons[k].name) (b:=w2.heap.size) (kt:=9) (et:=3) rfl rfl rfl rfl (zI _) hmp8 ?_;have hhas:decide ((aget m d.cons[k].name).getD 0 > 0)=has m d.cons[k].name:=rfl;cases hh:has m d.cons[k].name with
         | true=>
           rw [hh] at hhas stop;(try simp only [go_sem,simprocAttr,hhas,rvs,RV.ev,one?]);exact ⟨by rw [stop rfl],hm08⟩
         | false=>
           rw [hh] at hhas stop goon;(try simp only [go_sem,simprocAttr,hhas,kf8]);cases h8:decide ((d.cons[k].fields.length:Int) > 8) with
           | true=>
             rw [h8] at stop;(try simp only [go_sem,simprocAttr,rvs,RV.ev,one?]);exact ⟨by rw [stop rfl],hm08⟩
           | false=>
             rw [h8] at goon;(try simp only [go_sem,simprocAttr,kn8]);refine e_muR (R:=RI) (a:=(1:Int)) (k:=d.cons[k].name) (b:=w2.heap.size) (kt:=9) (et:=3) rfl rfl rfl rfl rfl hmp8 rfl ?_;intro w9 h9 hm9 hs9;(try simp only [go_sem,simprocAttr]);exact ⟨hk,(hm6.trans (mod0 hm68)).trans hm9,_,h9,goon rfl⟩
       · rw [hx8] at stop;(try simp only [go_sem,simprocAttr,g0,g1,g7,g9,g11,g51,g52,g53,rvs,RV.ev,one?]);exact ⟨by rw [stop (by simp)],hm08⟩
     · rintro _ w6 ⟨_,hm6,⟨m,hmp,hseen⟩,rfl⟩;rw [List.drop_length,seenC] at hseen;rw [if_neg (by rw [← hseen];simp)] at hds;(try simp only [go_sem,simprocAttr]);refine e_clV (kt:=9) (et:=3) rfl rfl rfl (Exists.choose_spec hmp).1 ?_;intro w7 h7 hm7 hs7;have hm67:Mod (· = w2.heap.size) w5 w7:=hm6.trans hm7;obtain ⟨q0,q1,q2⟩:=cell (far hm67);(try simp only [go_sem,simprocAttr,q1]);refine ir_range d.params.length (fun k ρ w'=>k≤d.params.length∧Mod (· = w2.heap.size) w5 w'∧(∃ m,MapR w' w2.heap.size RI m∧seenP (d.params.drop k) m=seenP d.params [])∧ρ=[(1,.pointer (some a)),(7,.map (some w2.heap.size)),(89,.slice ap d.params.length cp),(90,I d.params.length),(91,I k)])
         ⟨by omega,hm67,⟨[],⟨[],h7,.nil⟩,rfl⟩,rfl⟩ hlp ?_ ?_ (by decide) ?_
       · rintro k _ w8 ⟨hk,_,_,rfl⟩;exact ⟨rfl,rfl,hk⟩
       · rintro k _ w8 ⟨_,hm8,⟨m,hmp,hseen⟩,rfl⟩ hk;rw [seenP_at hk] at hseen;have hm08:=far hm8;obtain ⟨ad,c2,e,hnm,hcv⟩:=str_at (hpar.mod hm08 nof (fun _ _ h=>h)) hk;obtain ⟨rfl,-,-⟩:=tup_inj e;have bk:(0:Int)≤k∧(k:Int) < d.params.length:=by omega
         (try simp only [go_sem,simprocAttr,zb4,zb6,bk,hcv]);refine e_lkI (k:=d.params[k]) (b:=w2.heap.size) (kt:=9) (et:=3) rfl rfl rfl rfl (zI _) hmp ?_;have hhas:decide ((aget m d.params[k]).getD 0 > 0)=has m d.params[k]:=rfl;cases hh:has m d.params[k] with
         | true=>
           rw [hh] at hhas;rw [if_pos hh] at hseen;(try simp only [go_sem,simprocAttr,hhas,rvs,RV.ev,one?]);exact ⟨by rw [hds,if_pos hseen.symm],hm08⟩
         | false=>
           rw [hh] at hhas;rw [if_neg (by rw [hh];simp)] at hseen;(try simp only [go_sem,simprocAttr,hhas]);refine e_muR (R:=RI) (a:=(1:Int)) (k:=d.params[k]) (b:=w2.heap.size) (kt:=9) (et:=3) rfl rfl rfl rfl rfl hmp rfl ?_;intro w9 h9 hm9 hs9;(try simp only [go_sem,simprocAttr]);exact ⟨hk,hm8.trans hm9,_,h9,hseen⟩
       · rintro _ w8 ⟨_,hm8,⟨m,hmp,hseen⟩,rfl⟩;rw [List.drop_length,seenP] at hseen;rw [if_neg (by rw [← hseen];simp)] at hds;obtain ⟨q0,q1,q2⟩:=cell (far hm8);(try simp only [go_sem,simprocAttr,q1]);cases t1:decide ((d.params.length:Int) > 6) with
         | true=>
           rw [t1] at hds;(try simp only [go_sem,simprocAttr,q2,rvs,RV.ev,one?]);exact ⟨by rw [hds];rfl,far hm8⟩
         | false=>
           rw [t1] at hds;(try simp only [go_sem,simprocAttr,q2]);cases t2:(d.cons.length:Int) == 0 with
           | true=>
             rw [t2] at hds;(try simp only [go_sem,simprocAttr,q2,rvs,RV.ev,one?]);exact ⟨by rw [hds];rfl,far hm8⟩
           | false=>
             rw [t2] at hds;(try simp only [go_sem,simprocAttr,q2]);cases t3:decide ((d.cons.length:Int) > 24) with
             | true=>
               rw [t3] at hds;(try simp only [go_sem,simprocAttr,rvs,RV.ev,one?]);exact ⟨by rw [hds];rfl,far hm8⟩
             | false=>
               rw [t3] at hds;(try simp only [go_sem,simprocAttr,rvs,RV.ev,one?]);exact ⟨by rw [hds];rfl,far hm8⟩
end
section
open Go Go.W
theorem all_at {α:Type} {l:List α} {p:α→Bool} {i:Nat} (hi:i < l.length):(l.drop i).all p=(p l[i]&&(l.drop (i+1)).all p):=by rw [List.drop_eq_getElem_cons hi,List.all_cons]
theorem Ck0.par {w:World} {S:Nat→Prop} {c md mc mf:Nat} {E:Env} (h:Ck0 w S c md mc mf E) (E':Env) (h1:E'.datas=E.datas) (h2:E'.cons=E.cons) (h3:E'.defs=E.defs):Ck0 w S c md mc mf E':=
 ⟨h.box,h.nodup,h.inS,h.lt,by rw [h1];exact h.datas,by rw [h2];exact h.cons,by rw [h3];exact h.defs⟩
theorem out_more {S S':Nat→Prop} {w1 w':World} (hsz:w1.heap.size≤w'.heap.size) (h:∀ b,S' b→S b∨w1.heap.size≤b):∀ b,Out S w1 b→Out S' w' b:=fun b hb=>⟨Nat.lt_of_lt_of_le hb.1 hsz,fun hh=>by
 rcases h b hh with h | h
 · exact hb.2 h
 · have:=hb.1;omega⟩
theorem f_checkDatas {E:Env} {l:List Dt} {v:Value} {w:World} {S:Nat→Prop} {c md mc mf:Nat} (hc:Ck0 w S c md mc mf E) (hl:EachAt w v 3 (Out S w) (DtAt w (Out S w)) l) :
   CallsR Tryz.prog 42 [ptr c,v] w fun r w'=>(match checkDatasS E l with
     | .error e=>r=I e∧e≠0
     | .ok E'=>r=I 0∧∃ S',Ck0 w' S' c md mc mf E'∧(∀ b,S b→S' b)∧∀ b,S' b→S b∨w.heap.size≤b)∧Mod (fun b=>b=c∨b=md∨b=mc) w w':=by
 obtain ⟨al,cl,rfl⟩:=each_sl hl;have hll:=each_len hl;have TS:∀ b,(b=md∨b=mc)→S b:=fun b hb=>by rcases hb with rfl | rfl<;>exact hc.inS _ (by simp)
 have T3:∀ b,(b=md∨b=mc)→(b=c∨b=md∨b=mc):=fun b hb=>.inr hb
 refine fit42.calls rfl ?_;unfold ir42;(try simp only [go_sem,Nat.reduceAdd,Nat.reduceEqDiff,Nat.reduceLT,Nat.reduceLeDiff,Nat.reduceMul,reduceCtorEq,↓reduceIte]);refine ir_range l.length (fun k ρ w'=>k≤l.length∧Mod (fun b=>b=md∨b=mc) w w'∧(∃ Ek,Ck0 w' S c md mc mf Ek∧datasS (l.drop k) Ek=datasS l E)∧ρ=[(0,ptr c),(1,.slice al l.length cl),(15,I l.length),(16,I k)])
   ⟨by omega,.refl _ _,⟨E,hc,rfl⟩,rfl⟩ hll ?_ ?_ (by decide) ?_
 · rintro k _ w1 ⟨hk,_,_,rfl⟩;exact ⟨rfl,rfl,hk⟩
 · rintro k _ w1 ⟨_,hm1,⟨Ek,hck,hds⟩,rfl⟩ hk;rw [datasS_at hk] at hds;have hl1:=hl.up (hm1.weak TS) out_not (out_up (hm1.weak TS)) (fun _ _ h=>h.up (hm1.weak TS) out_not (out_up (hm1.weak TS)));obtain ⟨ad,c2,rr,e,hd,hl3,hcs⟩:=each_cells hl1 hk;obtain ⟨rfl,-,-⟩:=tup_inj e;have bk:(0:Int)≤k∧(k:Int) < l.length:=by omega
   (try simp only [go_sem,Nat.reduceAdd,Nat.reduceEqDiff,Nat.reduceLT,Nat.reduceLeDiff,Nat.reduceMul,reduceCtorEq,↓reduceIte,zb4,zb6,bk]);refine e_call (by rfl) ?_;refine (f_checkData hck ⟨rr,hcs,hd⟩).mono ?_;rintro _ w2 ⟨rfl,hm2⟩;cases hne:checkDataS Ek l[k] != 0 with
   | true=>
     rw [if_pos hne] at hds;have hX:checkDatasS E l = .error (checkDataS Ek l[k]):=by unfold checkDatasS;rw [← hds]
     rw [hX];(try simp only [go_sem,Nat.reduceAdd,Nat.reduceEqDiff,Nat.reduceLT,Nat.reduceLeDiff,Nat.reduceMul,reduceCtorEq,↓reduceIte,hne,rvs,RV.ev,one?]);exact ⟨by simpa using hne,(hm1.trans (mod0 hm2)).weak T3⟩
   | false=>
     rw [if_neg (by rw [hne];simp)] at hds;(try simp only [go_sem,Nat.reduceAdd,Nat.reduceEqDiff,Nat.reduceLT,Nat.reduceLeDiff,Nat.reduceMul,reduceCtorEq,↓reduceIte,hne]);refine e_call (by rfl) ?_;refine (f_enter (hck.keep hm2) ⟨rr,hcs.up (mod0 hm2) out_not (out_up (mod0 hm2)),hd.up (mod0 hm2) out_not (out_up (mod0 hm2))⟩).mono ?_;rintro _ w3 ⟨hck3,hm3⟩;(try simp only [go_sem,Nat.reduceAdd,Nat.reduceEqDiff,Nat.reduceLT,Nat.reduceLeDiff,Nat.reduceMul,reduceCtorEq,↓reduceIte]);exact ⟨hk,(hm1.trans (mod0 hm2)).trans hm3,_,hck3,hds⟩
 rintro _ w1 ⟨_,hm1,⟨E1,hck1,hds⟩,rfl⟩;rw [List.drop_length,datasS] at hds;have hl1:=hl.up (hm1.weak TS) out_not (out_up (hm1.weak TS)) (fun _ _ h=>h.up (hm1.weak TS) out_not (out_up (hm1.weak TS)));have z1:=hm1.size;have hm1c:=hm1.weak T3;have Sc:∀ b,b=c→S b:=fun b hb=>by rw [hb];exact hc.inS _ (by simp)
 have later:∀ {w':World} {S':Nat→Prop},Mod (· = c) w1 w'→(∀ b,S' b→S b∨w1.heap.size≤b)→EachAt w' (.slice al l.length cl) 3 (Out S' w') (DtAt w' (Out S' w')) l:=fun hm hs=>
   hl1.up (hm.weak Sc) out_not (out_more hm.size hs) (fun _ _ h=>h.up (hm.weak Sc) out_not (out_more hm.size hs))
 have hX:checkDatasS E l=if datas2S E1 l=true then .ok E1 else .error 81:=by unfold checkDatasS;rw [← hds]
 rw [hX];have bad:datas2S E1 l=false→(match (if datas2S E1 l=true then .ok E1 else .error 81:Except Int Env) with
     | .error e=>I 81=I e∧e≠0
     | .ok E'=>I 81=I 0∧∃ S',Ck0 w1 S' c md mc mf E'∧(∀ b,S b→S' b)∧∀ b,S' b→S b∨w.heap.size≤b):=fun h=>by
   rw [if_neg (by rw [h];simp)];exact ⟨rfl,by decide⟩
 (try simp only [go_sem,Nat.reduceAdd,Nat.reduceEqDiff,Nat.reduceLT,Nat.reduceLeDiff,Nat.reduceMul,reduceCtorEq,↓reduceIte]);refine ir_range l.length (fun k ρ w'=>k≤l.length∧Mod (· = c) w1 w'∧(∃ S',Ck0 w' S' c md mc mf E1∧(∀ b,S b→S' b)∧(∀ b,S' b→S b∨w1.heap.size≤b)∧(l.drop k).all (fieldsS E1)=datas2S E1 l)∧ρ=[(0,ptr c),(32,.slice al l.length cl),(33,I l.length),(34,I k)])
   ⟨by omega,.refl _ _,⟨S,hck1,fun _ h=>h,fun _ h=>.inl h,rfl⟩,rfl⟩ hll ?_ ?_ (by decide) ?_
 · rintro k _ w2 ⟨hk,_,_,rfl⟩;exact ⟨rfl,rfl,hk⟩
 · rintro k _ w2 ⟨_,hm2,⟨S2,hck2,hsub2,hS2,hall⟩,rfl⟩ hk;rw [all_at hk] at hall;have hl2:=later hm2 hS2;obtain ⟨ad,c2,rr,e,hd,hl3,hln,_⟩:=each_at hl2 hk;obtain ⟨rfl,-,-⟩:=tup_inj e;have hone:=hd.one;obtain ⟨vp,vc,rfl,hpar,hcon⟩:=hd;have bk:(0:Int)≤k∧(k:Int) < l.length:=by omega
   (try simp only [go_sem,Nat.reduceAdd,Nat.reduceEqDiff,Nat.reduceLT,Nat.reduceLeDiff,Nat.reduceMul,reduceCtorEq,↓reduceIte,zb4,zb6,bk,hln]);refine s_new (n:=3) (vs:=[.string l[k].name,vp,vc]) rfl rfl hone ?_;intro w3 hb9 hm3 hs3;have hck3:=hck2.keep hm3;have kp:w3.cell? ⟨w2.heap.size,1,none⟩=some vp:=by rw [cell_of hb9];rfl
   (try simp only [go_sem,Nat.reduceAdd,Nat.reduceEqDiff,Nat.reduceLT,Nat.reduceLeDiff,Nat.reduceMul,reduceCtorEq,↓reduceIte,kp]);refine e_call (by rfl) ?_;refine (f_know hck3 (hpar.up (mod0 hm3) out_not (out_up (mod0 hm3)) (fun _ _ h=>h))).mono ?_;rintro _ w4 ⟨⟨M,rfl,rfl,rfl,rfl,hk4,lp,lb,ll⟩,hm4⟩;have hm14:Mod (· = M.c) w1 w4:=(hm2.trans (mod0 hm3)).trans hm4;have z12:=hm2.size;have z23:=hm3.size;have hKn:∀ b,Kn S2 M b→S b∨w1.heap.size≤b:=fun b hb=>by
     rcases hb with h | h | h | h
     · exact hS2 b h
     · right;omega
     · right;omega
     · right;omega
   have hkc:M.c < w2.heap.size:=hck2.lt _ (hck2.inS _ (by simp));have hb94:=hm4.at hb9 (by omega);have S2c:∀ b,b=M.c→S2 b:=fun b hb=>by rw [hb];exact hck2.inS _ (by simp)
   have hm24:Mod (· = M.c) w2 w4:=(mod0 hm3).trans hm4;have hout24:∀ b,Out S2 w2 b→Out (Kn S2 M) w4 b:=out_more hm24.size (fun b hb=>by
     rcases hb with h | h | h | h
     · exact .inl h
     · right;omega
     · right;omega
     · right;omega)
   have hcon4:EachAt w4 vc 2 (Out (Kn S2 M) w4) (CnAt w4 (Out (Kn S2 M) w4)) l[k].cons:=hcon.up (hm24.weak S2c) out_not hout24 (fun _ _ h=>h.up (hm24.weak S2c) out_not hout24);obtain ⟨ac,cc,rfl⟩:=each_sl hcon4;have hlc:=each_len hcon4;have kc:w4.cell? ⟨w2.heap.size,2,none⟩=some (.slice ac l[k].cons.length cc):=by rw [cell_of hb94];rfl
   have hfld:fieldsS E1 l[k]=l[k].cons.all fun x=>x.fields.all (rightS (knowE E1 l[k].params)):=rfl
   (try simp only [go_sem,Nat.reduceAdd,Nat.reduceEqDiff,Nat.reduceLT,Nat.reduceLeDiff,Nat.reduceMul,reduceCtorEq,↓reduceIte,kc]);refine ir_range l[k].cons.length (fun i ρ w'=>i≤l[k].cons.length∧Mod (fun _=>False) w4 w'∧((l[k].cons.drop i).all fun x=>x.fields.all (rightS (knowE E1 l[k].params)))=fieldsS E1 l[k]∧ρ=[(0,ptr M.c),(32,.slice (some ad) l.length cl),(33,I l.length),(34,I k),(43,.slice ac l[k].cons.length cc),(44,I l[k].cons.length),(45,I i)])
     ⟨by omega,.refl _ _,rfl,rfl⟩ hlc ?_ ?_ (by decide) ?_
   · rintro i _ w5 ⟨hi,_,_,rfl⟩;exact ⟨rfl,rfl,hi⟩
   · rintro i _ w5 ⟨_,hm5,hal5,rfl⟩ hi;rw [all_at hi] at hal5;have hcon5:=hcon4.up (mod0 hm5) out_not (out_up (mod0 hm5)) (fun _ _ h=>h.up (mod0 hm5) out_not (out_up (mod0 hm5)));obtain ⟨adc,c5,rc,ec,⟨vf,rfl,hf,_⟩,hl2,hlnc,_⟩:=each_at hcon5 hi;obtain ⟨rfl,-,-⟩:=tup_inj ec;obtain ⟨af,cf,rfl⟩:=each_sl hf;have hlf:=each_len hf;have bi:(0:Int)≤i∧(i:Int) < l[k].cons.length:=by omega
     (try simp only [go_sem,Nat.reduceAdd,Nat.reduceEqDiff,Nat.reduceLT,Nat.reduceLeDiff,Nat.reduceMul,reduceCtorEq,↓reduceIte,zb4,zb6,bi,hlnc]);refine s_new (n:=2) (vs:=[.string l[k].cons[i].name,.slice af l[k].cons[i].fields.length cf]) rfl rfl (one_cons rfl (one_cons rfl one_nil)) ?_;intro w6 hb11 hm6 hs6;have kf:w6.cell? ⟨w5.heap.size,1,none⟩=some (.slice af l[k].cons[i].fields.length cf):=by rw [cell_of hb11];rfl
     have hf6:=each_keep hf (mod0 hm6);(try simp only [go_sem,Nat.reduceAdd,Nat.reduceEqDiff,Nat.reduceLT,Nat.reduceLeDiff,Nat.reduceMul,reduceCtorEq,↓reduceIte,kf]);refine ir_range l[k].cons[i].fields.length (fun j ρ w'=>j≤l[k].cons[i].fields.length∧Mod (fun _=>False) w6 w'∧((l[k].cons[i].fields.drop j).all (rightS (knowE E1 l[k].params)))=l[k].cons[i].fields.all (rightS (knowE E1 l[k].params))∧ρ=[(0,ptr M.c),(32,.slice (some ad) l.length cl),(33,I l.length),(34,I k),(43,.slice (some adc) l[k].cons.length cc),(44,I l[k].cons.length),(45,I i),(50,.slice af l[k].cons[i].fields.length cf),(51,I l[k].cons[i].fields.length),(52,I j)])
       ⟨by omega,.refl _ _,rfl,rfl⟩ hlf ?_ ?_ (by decide) ?_
     · rintro j _ w7 ⟨hj,_,_,rfl⟩;exact ⟨rfl,rfl,hj⟩
     · rintro j _ w7 ⟨_,hm7,hal7,rfl⟩ hj;rw [all_at hj] at hal7;obtain ⟨adf,c7,rf,ef,htf,hl3,hlnf,_⟩:=each_at (each_keep hf6 (mod0 hm7)) hj;obtain ⟨rfl,-,-⟩:=tup_inj ef;have bj:(0:Int)≤j∧(j:Int) < l[k].cons[i].fields.length:=by omega
       (try simp only [go_sem,Nat.reduceAdd,Nat.reduceEqDiff,Nat.reduceLT,Nat.reduceLeDiff,Nat.reduceMul,reduceCtorEq,↓reduceIte,zb4,zb6,bj,hlnf]);refine s_new (n:=3) (vs:=rf) rfl hl3 htf.one ?_;intro w8 hb13 hm8 hs8;have hm48:Mod (fun _=>False) w4 w8:=hm5.trans (hm6.trans (hm7.trans hm8));(try simp only [go_sem,Nat.reduceAdd,Nat.reduceEqDiff,Nat.reduceLT,Nat.reduceLeDiff,Nat.reduceMul,reduceCtorEq,↓reduceIte,ln_blk (n:=3) hb13 hl3]);refine e_call (by rfl) ?_;refine (f_right l[k].cons[i].fields[j] (hk4.keep hm48) (htf.keep (mod0 hm8))).mono ?_;rintro _ w9 ⟨rfl,hm9⟩;have hm49:=hm48.trans hm9;cases hrt:rightS (knowE E1 l[k].params) l[k].cons[i].fields[j] with
       | false=>
         rw [hrt,Bool.false_and] at hal7;rw [← hal7,Bool.false_and] at hal5;rw [← hal5,Bool.false_and] at hall;rw [if_neg (by rw [← hall];simp)];(try simp only [go_sem,Nat.reduceAdd,Nat.reduceEqDiff,Nat.reduceLT,Nat.reduceLeDiff,Nat.reduceMul,reduceCtorEq,↓reduceIte,rvs,RV.ev,one?]);exact ⟨by decide,hm1c.trans ((hm14.trans (mod0 hm49)).weak (fun b h=>.inl h))⟩
       | true=>
         rw [hrt,Bool.true_and] at hal7;(try simp only [go_sem,Nat.reduceAdd,Nat.reduceEqDiff,Nat.reduceLT,Nat.reduceLeDiff,Nat.reduceMul,reduceCtorEq,↓reduceIte]);exact ⟨hj,(hm7.trans hm8).trans hm9,hal7⟩
     · rintro _ w7 ⟨_,hm7,hal7,rfl⟩;rw [List.drop_length] at hal7;have hal7:true=_:=hal7;rw [← hal7,Bool.true_and] at hal5;(try simp only [go_sem,Nat.reduceAdd,Nat.reduceEqDiff,Nat.reduceLT,Nat.reduceLeDiff,Nat.reduceMul,reduceCtorEq,↓reduceIte]);exact ⟨hi,hm5.trans (hm6.trans hm7),hal5⟩
   · rintro _ w5 ⟨_,hm5,hal5,rfl⟩;rw [List.drop_length] at hal5;have hal5:true=_:=hal5;rw [← hal5,Bool.true_and] at hall;(try simp only [go_sem,Nat.reduceAdd,Nat.reduceEqDiff,Nat.reduceLT,Nat.reduceLeDiff,Nat.reduceMul,reduceCtorEq,↓reduceIte]);exact ⟨hk,hm14.trans (mod0 hm5),Kn S2 M,((hk4.keep hm5).forget).par E1 rfl rfl rfl,fun b hb=>.inl (hsub2 b hb),hKn,hall⟩
 · rintro _ w2 ⟨_,hm2,⟨S2,hck2,hsub2,hS2,hall⟩,rfl⟩;have hall:datas2S E1 l=true:=by rw [← hall,List.drop_length];rfl
   rw [if_pos hall];(try simp only [go_sem,Nat.reduceAdd,Nat.reduceEqDiff,Nat.reduceLT,Nat.reduceLeDiff,Nat.reduceMul,reduceCtorEq,↓reduceIte,rvs,RV.ev,one?]);exact ⟨⟨S2,hck2,hsub2,fun b hb=>by
     rcases hS2 b hb with h | h
     · exact .inl h
     · right;omega⟩,hm1c.trans (hm2.weak (fun b h=>.inl h))⟩
end
section
open Go Go.W
section
variable {α:Type}
theorem aput_nil (k:ByteArray) (v:α):aput [] k v=[(k,v)]:=by simp [aput]
theorem aput_cons (p:ByteArray×α) (l:List (ByteArray×α)) (k:ByteArray) (v:α):aput (p::l) k v=if p.1=k then (k,v)::l else p::aput l k v:=by
 unfold aput;rw [List.findIdx?_cons];by_cases h:p.1=k
 · simp [h]
 · simp only [h,decide_false,if_false];cases l.findIdx? (fun p=>decide (p.1=k))<;>simp
theorem aget_cons (p:ByteArray×α) (l:List (ByteArray×α)) (k:ByteArray):aget (p::l) k=if p.1=k then some p.2 else aget l k:=by
 unfold aget;by_cases h:p.1=k<;>simp [h]
theorem aget_aput (l:List (ByteArray×α)) (k:ByteArray) (v:α) (k':ByteArray):aget (aput l k v) k'=if k=k' then some v else aget l k':=by
 induction l with
 | nil=>rw [aput_nil,aget_cons]
 | cons p l ih=>
   rw [aput_cons];by_cases h:p.1=k
   · rw [if_pos h,aget_cons,aget_cons,h];by_cases h2:k=k'<;>simp [h2]
   · rw [if_neg h,aget_cons,aget_cons,ih];by_cases h2:k=k'
     · subst h2;simp [h]
     · simp [h2]
end
theorem wf_data {E E':Env} (h:E.datas=E'.datas) (t:Ty):t.wf E=t.wf E':=by
 induction t using Ty.ind with
 | h t ih=>
 rw [Ty.wf_eq,Ty.wf_eq,tysWf_all,tysWf_all];have e1:t.args.all (Ty.wf E)=t.args.all (Ty.wf E'):=by
   rw [Bool.eq_iff_iff,List.all_eq_true,List.all_eq_true];constructor
   · intro h x hx;rw [← ih x hx];exact h x hx
   · intro h x hx;rw [ih x hx];exact h x hx
 rw [e1];have e2:badData E t.name t.args.length=badData E' t.name t.args.length:=by unfold badData;rw [h]
 rw [e2]
structure DInv (E:Env) (l:List Dt):Prop where
 name:∀ n d,aget E.datas n=some d→d.name=n
 con:∀ n x,aget E.cons n=some x→aget E.datas x.1.name=some x.1
 mem:∀ n d,aget E.datas n=some d→d∈l
 defs:E.defs=[]
theorem enterC_get {d:Dt}:∀ (ks:List Cn) (i:Nat) (m:List (ByteArray×(Dt×Nat))) (n:ByteArray) (x:Dt×Nat),aget (enterC d ks i m) n=some x→aget m n=some x∨x.1=d
 | [],_,m,n,x,h=>.inl h
 | k::ks,i,m,n,x,h=>by
   rw [enterC] at h;rcases enterC_get ks (i+1) _ n x h with h | h
   · rw [aget_aput] at h
     split at h
     · cases h;exact .inr rfl
     · exact .inl h
   · exact .inr h
theorem DInv.enter {E:Env} {l:List Dt} (h:DInv E l) {d:Dt} (hn:aget E.datas d.name=none) {l':List Dt} (hl:∀ x∈l,x∈l') (hd:d∈l'):DInv (enterE E d) l':=by
 have get:∀ n,aget (enterE E d).datas n=if d.name=n then some d else aget E.datas n:=fun n=>aget_aput _ _ _ _
 refine ⟨fun n e he=>?_,fun n x hx=>?_,fun n e he=>?_,h.defs⟩
 · rw [get] at he
   split at he
   · cases he;assumption
   · exact h.name n e he
 · rw [get];rcases enterC_get _ _ _ _ _ hx with h1 | h1
   · have h2:=h.con n x h1;rw [if_neg (fun e=>by rw [e] at hn;rw [hn] at h2;cases h2)];exact h2
   · rw [h1,if_pos rfl]
 · rw [get] at he
   split at he
   · cases he;exact hd
   · exact hl _ (h.mem n e he)
theorem keep_enter {E:Env} {d:Dt} (hn:aget E.datas d.name=none) {n:ByteArray} {x:Dt} (h:aget E.datas n=some x):aget (enterE E d).datas n=some x:=by
 show aget (aput E.datas d.name d) n=some x;rw [aget_aput,if_neg (fun e=>by rw [e] at hn;rw [hn] at h;cases h)];exact h
theorem data_fresh {E:Env} {d:Dt} (h:checkDataS E d=0):aget E.datas d.name=none:=by
 unfold checkDataS at h
 split at h
 · cases h
 · split at h
   · cases h
   · rename_i h2;cases hx:aget E.datas d.name with
     | none=>rfl
     | some y=>rw [hx] at h2;simp at h2
theorem datasS_inv:∀ (l:List Dt) (E E':Env) (l0:List Dt),DInv E l0→datasS l E = .ok E'→DInv E' (l0++l)∧∀ n d,aget E.datas n=some d→aget E'.datas n=some d
 | [],E,E',l0,h,hd=>by rw [datasS] at hd;cases hd;exact ⟨by rw [List.append_nil];exact h,fun _ _ h=>h⟩
 | d::l,E,E',l0,h,hd=>by
   rw [datasS] at hd
   split at hd
   · cases hd
   · rename_i h0;have h0:checkDataS E d=0:=by simpa using h0
     have hn:=data_fresh h0;have h1:DInv (enterE E d) (l0++[d]):=h.enter hn (fun x hx=>by simp [hx]) (by simp);obtain ⟨h2,h3⟩:=datasS_inv l _ E' (l0++[d]) h1 hd;refine ⟨by rw [List.append_assoc] at h2;exact h2,fun n x hx=>h3 n x (keep_enter hn hx)⟩
theorem newE_inv:DInv newE givenS:=by
 have e0:DInv emptyE []:=⟨fun n d h=>(by cases h),fun n d h=>(by cases h),fun n d h=>(by cases h),rfl⟩;have step:∀ (l:List Dt) (E:Env) (l0:List Dt),DInv E l0→(∀ d∈l,aget E.datas d.name=none)→(l.map Dt.name).Nodup→DInv (enterAll l E) (l0++l):=by
   intro l
   induction l with
   | nil=>intro E l0 h _ _;rw [List.append_nil];exact h
   | cons d l ih=>
     intro E l0 h hn hnd;rw [List.map_cons,List.nodup_cons] at hnd;have h1:DInv (enterE E d) (l0++[d]):=h.enter (hn d (by simp)) (fun x hx=>by simp [hx]) (by simp);have:=ih (enterE E d) (l0++[d]) h1 (fun x hx=>by
       show aget (aput E.datas d.name d) x.name=none;rw [aget_aput,if_neg (fun e=>hnd.1 (by rw [e];exact List.mem_map_of_mem hx))];exact hn x (by simp [hx])) hnd.2
     rw [List.append_assoc] at this;exact this
 have:=step givenS emptyE [] e0 (fun d _=>rfl) (by decide);exact this
theorem newE_list:aget newE.datas dList.name=some dList:=by rfl
theorem newE_bool:aget newE.datas dBool.name=some dBool:=by rfl
theorem leaf_wf (E:Env) (s:ByteArray):Ty.wf E (.mk 2 s [])=true:=by rw [Ty.wf_eq,tysWf_all];rfl
theorem given_wf {E:Env} (h:aget E.datas dList.name=some dList):∀ d∈givenS,∀ k∈d.cons,∀ f∈k.fields,f.wf E=true:=by
 have hL:Ty.wf E tLA=true:=by
   rw [Ty.wf_eq,tysWf_all];have:badData E dList.name 1=false:=by unfold badData;rw [h];rfl
   have e:badData E (Ty.name tLA) (Ty.args tLA).length=false:=this;rw [e];simp [Ty.args,Ty.kind,leaf_wf]
 intro d hd k hk f hf;simp only [givenS,List.mem_cons,List.not_mem_nil,or_false] at hd;rcases hd with rfl | rfl | rfl | rfl | rfl<;>simp only [List.mem_cons,List.not_mem_nil,or_false] at hk
 · rcases hk with rfl | rfl<;>cases hf
 · subst hk;cases hf
 · rcases hk with rfl | rfl
   · cases hf
   · simp only [List.mem_cons,List.not_mem_nil,or_false] at hf;rcases hf with rfl | rfl
     · exact leaf_wf _ _
     · exact hL
 · subst hk;simp only [List.mem_cons,List.not_mem_nil,or_false] at hf;rcases hf with rfl | rfl<;>exact leaf_wf _ _
 · subst hk;simp only [List.mem_cons,List.not_mem_nil,or_false] at hf;rcases hf with rfl | rfl | rfl<;>exact leaf_wf _ _
theorem good_datas {l:List Dt} {E:Env} (h:checkDatasS newE l = .ok E):(∀ n x,aget E.cons n=some x→(∃ d,aget E.datas x.1.name=some d∧d.params.length=x.1.params.length)∧∀ f∈conFields x.1 x.2,f.wf E=true)∧badData E boolN 0=false∧E.defs=[]:=by
 unfold checkDatasS at h
 split at h
 · cases h
 · rename_i E' hE'
   split at h
   · rename_i hall;cases h;obtain ⟨hi,hk⟩:=datasS_inv l newE E givenS newE_inv hE';refine ⟨fun n x hx=>?_,?_,hi.defs⟩
     · have hd:=hi.con n x hx;refine ⟨⟨x.1,hd,rfl⟩,fun f hf=>?_⟩;have hf':∃ k∈x.1.cons,f∈k.fields:=by
         unfold conFields at hf;rw [List.getD_eq_getElem?_getD,List.getElem?_map] at hf;cases hg:x.1.cons[x.2]? with
         | none=>rw [hg] at hf;cases hf
         | some k=>rw [hg] at hf;exact ⟨k,List.mem_of_getElem? hg,hf⟩
       obtain ⟨k,hk1,hk2⟩:=hf';rcases List.mem_append.1 (hi.mem _ _ hd) with hm | hm
       · exact given_wf (hk _ _ newE_list) _ hm k hk1 f hk2
       · unfold datas2S at hall;rw [List.all_eq_true] at hall;have:=hall _ hm;unfold fieldsS at this;rw [List.all_eq_true] at this;have:=this k hk1;rw [List.all_eq_true] at this;have:=(right_good (this f hk2)).1;rw [← wf_data (E:=knowE E x.1.params) (E':=E) rfl];exact this
     · unfold badData;have:aget E.datas boolN=some dBool:=hk _ _ newE_bool;rw [this];rfl
   · cases h
theorem headS_same {E E':Env} {d:Df} (h:headS E d = .ok E'):E'.datas=E.datas∧E'.cons=E.cons∧(∀ n f,aget E'.defs n=some f→aget E.defs n=some f∨f.type.wf E=true):=by
 unfold headS at h
 split at h
 · cases h
 · split at h
   · cases h
   · split at h
     · cases h
     · rename_i hr;cases h;refine ⟨rfl,rfl,fun n f hf=>?_⟩;have hf:aget (aput E.defs d.name d) n=some f:=hf;rw [aget_aput] at hf
       split at hf
       · cases hf
         right
         have:=(right_good (by simpa using hr)).1;rw [← wf_data (E:={ E with params:=parsL d.params []}) (E':=E) rfl];exact this
       · exact .inl hf
theorem headsS_same:∀ (l:List Df) (E E':Env),headsS l E = .ok E'→E'.datas=E.datas∧E'.cons=E.cons∧(∀ n f,aget E'.defs n=some f→aget E.defs n=some f∨f.type.wf E=true)
 | [],E,E',h=>by rw [headsS] at h;cases h;exact ⟨rfl,rfl,fun _ _ h=>.inl h⟩
 | d::l,E,E',h=>by
   rw [headsS] at h
   split at h
   · cases h
   · rename_i E1 h1;obtain ⟨a1,a2,a3⟩:=headS_same h1;obtain ⟨b1,b2,b3⟩:=headsS_same l E1 E' h;refine ⟨b1.trans a1,b2.trans a2,fun n f hf=>?_⟩;rcases b3 n f hf with h | h
     · exact a3 n f h
     · rw [wf_data a1] at h;exact .inr h
theorem good_checked {l:List Dt} {ds:List Df} {E1 E2:Env} (h1:checkDatasS newE l = .ok E1) (h2:headsS ds E1 = .ok E2) (ps:List ByteArray):GoodE (knowE E2 ps)∧badData (knowE E2 ps) boolN 0=false:=by
 obtain ⟨a1,a2,a3⟩:=good_datas h1;obtain ⟨b1,b2,b3⟩:=headsS_same ds E1 E2 h2;refine ⟨⟨fun n x hx=>?_,fun n f hf=>?_⟩,?_⟩
 · have hx:aget E2.cons n=some x:=hx;rw [b2] at hx;obtain ⟨c1,c2⟩:=a1 n x hx;refine ⟨?_,fun f hf=>?_⟩
   · show ∃ d,aget E2.datas x.1.name=some d∧_;rw [b1];exact c1
   · rw [wf_data (E:=knowE E2 ps) (E':=E1) b1];exact c2 f hf
 · have hf:aget E2.defs n=some f:=hf;rw [wf_data (E:=knowE E2 ps) (E':=E1) b1];rcases b3 n f hf with h | h
   · rw [a3] at h;cases h
   · exact h
 · show badData (knowE E2 ps) boolN 0=false;unfold badData at *;have:(knowE E2 ps).datas=E1.datas:=b1;rw [this];exact a2
end
section
open Go Go.W
theorem f_sizeExpr (e:Ex):∀ {w:World} {B:Nat→Prop} {cs:List Value},ExAt w B cs e→CallsR Tryz.prog 56 [.agg cs.toArray] w fun r w'=>r=I e.size∧Mod (fun _=>False) w w':=by
 induction e using Ex.ind with
 | h e ih1 ih2 ih3=>
 intro w B cs h;obtain ⟨vt,va,vb,vl,rfl,ht,ha,hb,hl⟩:=h.parts;obtain ⟨aa,ca,rfl⟩:=each_sl ha;obtain ⟨ab,cb,rfl⟩:=each_sl hb;obtain ⟨al,cl,rfl⟩:=each_sl hl;refine fit56.calls rfl ?_;unfold ir56;(try simp only [go_sem,simprocAttr]);refine e_bx rfl ?_;intro w1 hb1 hm1 _;(try simp only [go_sem,simprocAttr,cell_of hb1,Value.cells]);refine e_call (by rfl) ?_;refine (f_sizeTypes (ht.mod hm1 nof (fun _ _ h=>h.mod hm1 nof))).mono ?_;rintro _ w2 ⟨rfl,hm2⟩;(try simp only [go_sem,simprocAttr,cell_of (hm2.at hb1 _root_.id),Value.cells]);refine ir_each (PP:=fun w=>ExAt w B) (l:=e.args) (B:=B) (fun k ρ w'=>Mod (fun _=>False) w1 w'∧k≤e.args.length∧∃ n,e.size=alsSize e.alts (bdsSize e.binds (exsSize (e.args.drop k) n))∧ρ=[(1,ptr w.heap.size),(3,I n),(15,.slice aa e.args.length ca),(16,I e.args.length),(17,I k)])
   ⟨hm2,by omega,_,e.size_eq,rfl⟩ ha ?_ (fun _ _ _ h=>h.one) rfl ?_ ?_
 · rintro k _ w2 ⟨hm2,hk,n,he,rfl⟩;have hm:=hm1.trans hm2;exact ⟨⟨ha.mod hm nof (fun _ _ h=>h.mod hm nof),hk⟩,rfl,rfl,rfl⟩
 · rintro k _ w2 hk w3 r b pv ⟨hm2,_,n,he,rfl⟩ hr hl3 hb3 hm3 _;(try simp only [go_sem,simprocAttr,ln_blk hb3 hl3]);refine e_call (by rfl) ?_;refine (ih1 _ (List.getElem_mem hk) (hr.mod hm3 nof)).mono ?_;rintro _ w4 ⟨rfl,hm4⟩;(try simp only [go_sem,simprocAttr]);exact ⟨hm2.trans (hm3.trans hm4),hk,_,he.trans (by rw [exsSize_at n hk]),rfl⟩
 rintro _ w3 ⟨hm3,_,n,he,rfl⟩;rw [List.drop_length] at he;(try simp only [go_sem,simprocAttr,cell_of (hm3.at hb1 _root_.id),Value.cells]);refine ir_each (PP:=fun w=>BdAt w B) (l:=e.binds) (B:=B) (fun k ρ w'=>Mod (fun _=>False) w1 w'∧k≤e.binds.length∧∃ n,e.size=alsSize e.alts (bdsSize (e.binds.drop k) n)∧ρ=[(1,ptr w.heap.size),(3,I n),(27,.slice ab e.binds.length cb),(28,I e.binds.length),(29,I k)])
   ⟨hm3,by omega,_,he,rfl⟩ hb ?_ (fun _ _ _ h=>h.one) rfl ?_ ?_
 · rintro k _ w2 ⟨hm2,hk,n,he,rfl⟩;have hm:=hm1.trans hm2;exact ⟨⟨hb.mod hm nof (fun _ _ h=>h.mod hm nof),hk⟩,rfl,rfl,rfl⟩
 · rintro k _ w2 hk w3 r b pv ⟨hm2,_,n,he,rfl⟩ hr hl3 hb3 hm3 _;obtain ⟨tc,ec,rfl,hrt,hre,_⟩:=hr;have l1:=hrt.len;have l2:=hre.len;have k1:=ln_of (off:=1) (n:=3) hb3 (by simp;omega);have k2:=ln_of (off:=4) (n:=7) hb3 (by simp;omega);rw [List.drop_succ_cons,List.drop_zero,List.take_left' l1] at k1;rw [List.drop_succ_cons,List.drop_left' l1,List.take_of_length_le (by omega)] at k2;(try simp only [go_sem,simprocAttr,drew_ln,k1,k2]);refine e_call (by rfl) ?_;refine (f_sizeType _ (hrt.mod hm3.drew nof)).mono ?_;rintro _ w4 ⟨rfl,hm4⟩;(try simp only [go_sem,simprocAttr]);refine ⟨hm4.old _ (lt_of_heap hb3) _root_.id,?_⟩;refine e_call (by rfl) ?_;refine (ih2 _ (List.getElem_mem hk) (hre.mod (hm3.drew.trans hm4) nof)).mono ?_;rintro _ w5 ⟨rfl,hm5⟩;(try simp only [go_sem,simprocAttr]);exact ⟨hm2.trans (hm3.drew.trans (hm4.trans hm5)),hk,_,he.trans (by rw [bdsSize_at n hk]),rfl⟩
 rintro _ w4 ⟨hm4,_,n,he,rfl⟩;rw [List.drop_length] at he;(try simp only [go_sem,simprocAttr,cell_of (hm4.at hb1 _root_.id),Value.cells]);refine ir_each (PP:=fun w=>AlAt w B) (l:=e.alts) (B:=B) (fun k ρ w'=>Mod (fun _=>False) w1 w'∧k≤e.alts.length∧∃ n,e.size=alsSize (e.alts.drop k) n∧ρ=[(3,I n),(45,.slice al e.alts.length cl),(46,I e.alts.length),(47,I k)])
   ⟨hm4,by omega,_,he,rfl⟩ hl ?_ (fun _ _ _ h=>h.one) rfl ?_ ?_
 · rintro k _ w2 ⟨hm2,hk,n,he,rfl⟩;have hm:=hm1.trans hm2;exact ⟨⟨hl.mod hm nof (fun _ _ h=>h.mod hm nof),hk⟩,rfl,rfl,rfl⟩
 · rintro k _ w2 hk w3 r b pv ⟨hm2,_,n,he,rfl⟩ hr hl3 hb3 hm3 _;obtain ⟨vv,ec,rfl,hrv,hre⟩:=hr;obtain ⟨av,cv,rfl⟩:=each_sl hrv;have l2:=hre.len;have k2:=ln_of (off:=4) (n:=7) hb3 (by simp;omega);simp only [List.drop_succ_cons,List.drop_zero] at k2;rw [List.take_of_length_le (by omega)] at k2;(try simp only [go_sem,simprocAttr,drew_ln,cell_of hb3,k2]);refine e_call (by rfl) ?_;refine (ih3 _ (List.getElem_mem hk) (hre.mod hm3.drew nof)).mono ?_;rintro _ w5 ⟨rfl,hm5⟩;(try simp only [go_sem,simprocAttr]);exact ⟨hm5.old _ (lt_of_heap hb3) _root_.id,hm2.trans (hm3.drew.trans hm5),hk,_,he.trans (by rw [alsSize_at n hk]),rfl⟩
 · rintro _ w2 ⟨hm2,_,n,he,rfl⟩;(try simp only [go_sem,simprocAttr]);rw [he,List.drop_length];exact ⟨rfl,hm1.trans hm2⟩
theorem f_deep (e:Ex):∀ {w:World} {B:Nat→Prop} {cs:List Value},ExAt w B cs e→CallsR Tryz.prog 40 [.agg cs.toArray] w fun r w'=>r=I e.deep∧Mod (fun _=>False) w w':=by
 induction e using Ex.ind with
 | h e ih1 ih2 ih3=>
 intro w B cs h;obtain ⟨vt,va,vb,vl,rfl,ht,ha,hb,hl⟩:=h.parts;obtain ⟨aa,ca,rfl⟩:=each_sl ha;obtain ⟨ab,cb,rfl⟩:=each_sl hb;obtain ⟨al,cl,rfl⟩:=each_sl hl;refine fit40.calls rfl ?_;unfold ir40;(try simp only [go_sem,simprocAttr]);refine e_bx rfl ?_;intro w1 hb1 hm1 _;(try simp only [go_sem,simprocAttr,cell_of hb1,Value.cells]);refine ir_each (PP:=fun w=>ExAt w B) (l:=e.args) (B:=B) (fun k ρ w'=>Mod (fun _=>False) w1 w'∧k≤e.args.length∧∃ n,e.deep=Wr (alsDeep e.alts (bdsDeep e.binds (exsDeep (e.args.drop k) n))+1)∧ρ=[(1,ptr w.heap.size),(3,I n),(11,.slice aa e.args.length ca),(12,I e.args.length),(13,I k)])
   ⟨.refl _ _,by omega,_,e.deep_eq,rfl⟩ ha ?_ (fun _ _ _ h=>h.one) rfl ?_ ?_
 · rintro k _ w2 ⟨hm2,hk,n,he,rfl⟩;have hm:=hm1.trans hm2;exact ⟨⟨ha.mod hm nof (fun _ _ h=>h.mod hm nof),hk⟩,rfl,rfl,rfl⟩
 · rintro k _ w2 hk w3 r b pv ⟨hm2,_,n,he,rfl⟩ hr hl3 hb3 hm3 _;(try simp only [go_sem,simprocAttr,ln_blk hb3 hl3]);refine e_call (by rfl) ?_;refine (ih1 _ (List.getElem_mem hk) (hr.mod hm3 nof)).mono ?_;rintro _ w4 ⟨rfl,hm4⟩;(try simp only [go_sem,simprocAttr]);exact ⟨hm2.trans (hm3.trans hm4),hk,_,he.trans (by rw [exsDeep_at n hk]),rfl⟩
 rintro _ w3 ⟨hm3,_,n,he,rfl⟩;rw [List.drop_length] at he;(try simp only [go_sem,simprocAttr,cell_of (hm3.at hb1 _root_.id),Value.cells]);refine ir_each (PP:=fun w=>BdAt w B) (l:=e.binds) (B:=B) (fun k ρ w'=>Mod (fun _=>False) w1 w'∧k≤e.binds.length∧∃ n,e.deep=Wr (alsDeep e.alts (bdsDeep (e.binds.drop k) n)+1)∧ρ=[(1,ptr w.heap.size),(3,I n),(23,.slice ab e.binds.length cb),(24,I e.binds.length),(25,I k)])
   ⟨hm3,by omega,_,he,rfl⟩ hb ?_ (fun _ _ _ h=>h.one) rfl ?_ ?_
 · rintro k _ w2 ⟨hm2,hk,n,he,rfl⟩;have hm:=hm1.trans hm2;exact ⟨⟨hb.mod hm nof (fun _ _ h=>h.mod hm nof),hk⟩,rfl,rfl,rfl⟩
 · rintro k _ w2 hk w3 r b pv ⟨hm2,_,n,he,rfl⟩ hr hl3 hb3 hm3 _;obtain ⟨tc,ec,rfl,hrt,hre,_⟩:=hr;have l1:=hrt.len;have l2:=hre.len;have k2:=ln_of (off:=4) (n:=7) hb3 (by simp;omega);rw [List.drop_succ_cons,List.drop_left' l1,List.take_of_length_le (by omega)] at k2;(try simp only [go_sem,simprocAttr,k2]);refine e_call (by rfl) ?_;refine (ih2 _ (List.getElem_mem hk) (hre.mod hm3 nof)).mono ?_;rintro _ w5 ⟨rfl,hm5⟩;(try simp only [go_sem,simprocAttr]);exact ⟨hm2.trans (hm3.trans hm5),hk,_,he.trans (by rw [bdsDeep_at n hk]),rfl⟩
 rintro _ w4 ⟨hm4,_,n,he,rfl⟩;rw [List.drop_length] at he;(try simp only [go_sem,simprocAttr,cell_of (hm4.at hb1 _root_.id),Value.cells]);refine ir_each (PP:=fun w=>AlAt w B) (l:=e.alts) (B:=B) (fun k ρ w'=>Mod (fun _=>False) w1 w'∧k≤e.alts.length∧∃ n,e.deep=Wr (alsDeep (e.alts.drop k) n+1)∧ρ=[(3,I n),(36,.slice al e.alts.length cl),(37,I e.alts.length),(38,I k)])
   ⟨hm4,by omega,_,he,rfl⟩ hl ?_ (fun _ _ _ h=>h.one) rfl ?_ ?_
 · rintro k _ w2 ⟨hm2,hk,n,he,rfl⟩;have hm:=hm1.trans hm2;exact ⟨⟨hl.mod hm nof (fun _ _ h=>h.mod hm nof),hk⟩,rfl,rfl,rfl⟩
 · rintro k _ w2 hk w3 r b pv ⟨hm2,_,n,he,rfl⟩ hr hl3 hb3 hm3 _;obtain ⟨vv,ec,rfl,hrv,hre⟩:=hr;have l2:=hre.len;have k2:=ln_of (off:=4) (n:=7) hb3 (by simp;omega);simp only [List.drop_succ_cons,List.drop_zero] at k2;rw [List.take_of_length_le (by omega)] at k2;(try simp only [go_sem,simprocAttr,k2]);refine e_call (by rfl) ?_;refine (ih3 _ (List.getElem_mem hk) (hre.mod hm3 nof)).mono ?_;rintro _ w5 ⟨rfl,hm5⟩;(try simp only [go_sem,simprocAttr]);exact ⟨hm2.trans (hm3.trans hm5),hk,_,he.trans (by rw [alsDeep_at n hk]),rfl⟩
 · rintro _ w2 ⟨hm2,_,n,he,rfl⟩;(try simp only [go_sem,simprocAttr]);rw [he,List.drop_length];exact ⟨rfl,hm1.trans hm2⟩
theorem f_Size (p:Pg) {w:World} {B:Nat→Prop} {cs:List Value} (h:PgAt w B cs p):CallsR Tryz.prog 39 [.agg cs.toArray] w fun r w'=>r=I p.size∧Mod (fun _=>False) w w':=by
 obtain ⟨vd,vf,rfl,hd,hf⟩:=h;obtain ⟨ad,cd,rfl⟩:=each_sl hd;obtain ⟨af,cf,rfl⟩:=each_sl hf;refine fit39.calls rfl ?_;unfold ir39;(try simp only [go_sem,simprocAttr]);refine e_bx rfl ?_;intro w1 hb1 hm1 _;(try simp only [go_sem,simprocAttr,cell_of hb1,Value.cells]);refine ir_each (PP:=fun w=>DtAt w B) (l:=p.datas) (B:=B) (fun k ρ w'=>Mod (fun _=>False) w1 w'∧k≤p.datas.length∧∃ n,p.size=dfsSize p.defs (dtsSize (p.datas.drop k) n)∧ρ=[(1,ptr w.heap.size),(3,I n),(11,.slice ad p.datas.length cd),(12,I p.datas.length),(13,I k)])
   ⟨.refl _ _,by omega,_,rfl,rfl⟩ hd ?_ (fun _ _ _ h=>h.one) rfl ?_ ?_
 · rintro k _ w2 ⟨hm2,hk,n,he,rfl⟩;have hm:=hm1.trans hm2;exact ⟨⟨hd.mod hm nof (fun _ _ h=>h.mod hm nof),hk⟩,rfl,rfl,rfl⟩
 · rintro k _ w2 hk w3 r b pv ⟨hm2,_,n,he,rfl⟩ hr hl3 hb3 hm3 _;obtain ⟨vp,vc,rfl,hp,hc⟩:=hr;obtain ⟨ac,cc,rfl⟩:=each_sl hc;(try simp only [go_sem,simprocAttr,cell_of hb3]);rw [dtsSize_at n hk] at he;refine ir_each (PP:=fun w=>CnAt w B) (l:=p.datas[k].cons) (B:=B) (fun j ρ w'=>Mod (fun _=>False) w1 w'∧Mod (fun _=>False) w3 w'∧j≤p.datas[k].cons.length∧∃ n,p.size=dfsSize p.defs (dtsSize (p.datas.drop (k+1)) (consSize (p.datas[k].cons.drop j) n))∧ρ=[(1,ptr w.heap.size),(3,I n),(11,.slice ad p.datas.length cd),(12,I p.datas.length),(13,I k),(20,.slice ac p.datas[k].cons.length cc),(21,I p.datas[k].cons.length),(22,I j)])
     ⟨hm2.trans hm3,.refl _ _,by omega,_,he,rfl⟩ hc ?_ (fun _ _ _ h=>h.one) rfl ?_ ?_
   · rintro j _ w2 ⟨hm4,hm5,hj,n,he,rfl⟩;have hm:=hm3.trans hm5;exact ⟨⟨hc.mod hm nof (fun _ _ h=>h.mod hm nof),hj⟩,rfl,rfl,rfl⟩
   · rintro j _ w4 hj w5 r b pv ⟨hm4,hm5,_,n,he,rfl⟩ hr hl3 hb3 hm6 _;obtain ⟨vf,rfl,hf,_⟩:=hr;(try simp only [go_sem,simprocAttr,cell_of hb3]);refine e_call (by rfl) ?_;refine (f_sizeTypes (hf.mod hm6 nof (fun _ _ h=>h.mod hm6 nof))).mono ?_;rintro _ w7 ⟨rfl,hm7⟩;(try simp only [go_sem,simprocAttr]);exact ⟨hm4.trans (hm6.trans hm7),hm5.trans (hm6.trans hm7),hj,_,he.trans (by rw [consSize_at n hj]),rfl⟩
   rintro _ w4 ⟨hm4,hm5,_,n,he,rfl⟩;rw [List.drop_length] at he;(try simp only [go_sem,simprocAttr]);exact ⟨hm4,hk,n,he,rfl⟩
 rintro _ w4 ⟨hm4,_,n,he,rfl⟩;rw [List.drop_length] at he;(try simp only [go_sem,simprocAttr,cell_of (hm4.at hb1 _root_.id),Value.cells]);refine ir_each (PP:=fun w=>DfAt w B) (l:=p.defs) (B:=B) (fun k ρ w'=>Mod (fun _=>False) w1 w'∧k≤p.defs.length∧∃ n,p.size=dfsSize (p.defs.drop k) n∧ρ=[(3,I n),(35,.slice af p.defs.length cf),(36,I p.defs.length),(37,I k)])
   ⟨hm4,by omega,_,he,rfl⟩ hf ?_ (fun _ _ _ h=>h.one) rfl ?_ ?_
 · rintro k _ w2 ⟨hm2,hk,n,he,rfl⟩;have hm:=hm1.trans hm2;exact ⟨⟨hf.mod hm nof (fun _ _ h=>h.mod hm nof),hk⟩,rfl,rfl,rfl⟩
 · rintro k _ w2 hk w3 r b pv ⟨hm2,_,n,he,rfl⟩ hr hl3 hb3 hm3 _;obtain ⟨vp,tc,ec,rfl,l1,l2,hp,hrt,hre,_⟩:=hr;have k1:=ln_of (off:=2) (n:=3) hb3 (by simp;omega);have k2:=ln_of (off:=5) (n:=7) hb3 (by simp;omega);simp only [List.drop_succ_cons,List.drop_zero] at k1 k2;rw [List.take_left' l1] at k1;rw [List.drop_left' l1,List.take_of_length_le (by omega)] at k2;(try simp only [go_sem,simprocAttr,k1,k2]);refine e_call (by rfl) ?_;refine (f_sizeType _ (hrt.mod hm3.drew nof)).mono ?_;rintro _ w4 ⟨rfl,hm4⟩;(try simp only [go_sem,simprocAttr]);refine ⟨hm4.old _ (lt_of_heap hb3) _root_.id,?_⟩;refine e_call (by rfl) ?_;refine (f_sizeExpr _ (hre.mod (hm3.drew.trans hm4) nof)).mono ?_;rintro _ w5 ⟨rfl,hm5⟩;(try simp only [go_sem,simprocAttr]);exact ⟨hm2.trans (hm3.drew.trans (hm4.trans hm5)),hk,_,he.trans (by rw [dfsSize_at n hk]),rfl⟩
 · rintro _ w2 ⟨hm2,_,n,he,rfl⟩;(try simp only [go_sem,simprocAttr]);rw [he,List.drop_length];exact ⟨rfl,hm1.trans hm2⟩
end
section
open Go Go.W
noncomputable def checkedS (p:Pg):Except Int Env:=
 if p.size > 100000 then .error 4
 else if p.defs.any (fun d=>decide (d.body.deep > 4000))=true then .error 3
 else match checkDatasS newE p.datas with
   | .error e=>.error e
   | .ok E1=>match headsS p.defs E1 with
     | .error e=>.error e
     | .ok E2=>if (bodiesS E2 p.defs != 0)=true then .error (bodiesS E2 p.defs) else .ok E2
theorem any_at {α:Type} {l:List α} {p:α→Bool} {i:Nat} (hi:i < l.length):(l.drop i).any p=(p l[i]||(l.drop (i+1)).any p):=by rw [List.drop_eq_getElem_cons hi,List.any_cons]
def NewC (w1 w':World) (c:Nat) (E:Env):Prop:=∃ md mc mf S,Ck0 w' S c md mc mf E∧∀ b,S b→w1.heap.size≤b
def ResC (w w':World) (r:Value) (x:Except Int Env):Prop:=match x with
 | .error e=>r = .tuple #[.pointer none,I e]∧e≠0
 | .ok E=>∃ c,r = .tuple #[ptr c,I 0]∧NewC w w' c E
theorem CkAt.updP {w w':World} {S:Nat→Prop} {M:Ms} {E:Env} {bd:Cnt} {lc:Loc} {ps:Cnt} (h:CkAt w S M E bd lc) (hm:Mod (· = M.mp) w w') (h1:MapR w' M.mp RI ps):CkAt w' S M { E with params:=ps} bd lc:=by
 obtain ⟨⟨a1,a2,a3,a4,a5,a6⟩,⟨b1,b2,b3,b4,b5⟩,⟨c1,c2,c3,c4⟩,⟨d1,d2,d3⟩,⟨e1,e2⟩,f1⟩:=Ms.ne h.nodup;have hS:∀ b,b=M.mp→S b:=fun b hb=>by rw [hb];exact h.inS _ (by simp [Ms.list])
 have hmS:Mod S w w':=hm.weak hS;exact ⟨hm.at h.box a4,h.nodup,h.inS,fun b hb=>Nat.lt_of_lt_of_le (h.lt b hb) hm.size,
   h.datas.mod hm b3 (fun _ _ x=>x.up hmS out_not (out_up hmS)),h.cons.mod hm c2 (fun _ _ x=>x.up hmS out_not (out_up hmS)),
   h.defs.mod hm d1 (fun _ _ x=>x.up hmS out_not (out_up hmS)),h1,h.bound.mod hm (fun e=>e1 e.symm) (fun _ _ x=>x),h.locals.mod hm (fun e=>e2 e.symm) (fun _ _ x=>x.up hmS out_not (out_up hmS))⟩
theorem f_checked (p:Pg) {w:World} {cs:List Value} (h:PgAt w (Out (fun _=>False) w) cs p) :
   CallsR Tryz.prog 31 [.agg cs.toArray] w fun r w'=>ResC w w' r (checkedS p)∧Mod (fun _=>False) w w':=by
 obtain ⟨vd,vf,rfl,hd,hf⟩:=h;obtain ⟨ad,cd,rfl⟩:=each_sl hd;obtain ⟨af,cf,rfl⟩:=each_sl hf;have hlf:=each_len hf;refine fit31.calls rfl ?_;unfold ir31;(try simp only [go_sem,simprocAttr]);refine e_bx rfl ?_;intro w1 hb1 hm1 hs1;have z1:=hm1.size;have lists:∀ {w':World} {S:Nat→Prop},Mod (fun _=>False) w1 w'→(∀ b,S b→w1.heap.size≤b)→EachAt w' (.slice ad p.datas.length cd) 3 (Out S w') (DtAt w' (Out S w')) p.datas∧EachAt w' (.slice af p.defs.length cf) 12 (Out S w') (DfAt w' (Out S w')) p.defs:=fun hm hs=>by
   have hm':=hm1.trans hm;have ho:∀ b,Out (fun _=>False) w b→Out _ _ b:=fun b hb=>⟨Nat.lt_of_lt_of_le hb.1 hm'.size,fun hh=>by have:=hs b hh;have:=hb.1;omega⟩
   exact ⟨hd.up hm' nof ho (fun _ _ h=>h.up hm' nof ho),hf.up hm' nof ho (fun _ _ h=>h.up hm' nof ho)⟩
 have nos:∀ b:Nat,(fun _=>False:Nat→Prop) b→w1.heap.size≤b:=fun _ h=>h.elim
 have fin:∀ {w':World} {e:Int},Mod (fun _=>False) w1 w'→e≠0→checkedS p = .error e→ResC w w' (.tuple #[.pointer none,I e]) (checkedS p)∧Mod (fun _=>False) w w':=fun hm hne he=>by
   rw [he];exact ⟨⟨rfl,hne⟩,hm1.trans hm⟩
 have hX:checkedS p=if p.size > 100000 then .error 4
   else if p.defs.any (fun d=>decide (d.body.deep > 4000))=true then .error 3
   else match checkDatasS newE p.datas with
     | .error e=>.error e
     | .ok E1=>match headsS p.defs E1 with
       | .error e=>.error e
       | .ok E2=>if (bodiesS E2 p.defs != 0)=true then .error (bodiesS E2 p.defs) else .ok E2:=rfl
 have kd:∀ {w':World},Mod (fun _=>False) w1 w'→w'.cell? ⟨w.heap.size,0,none⟩=some (.slice ad p.datas.length cd)∧w'.cell? ⟨w.heap.size,1,none⟩=some (.slice af p.defs.length cf):=fun hm=>by
   constructor<;>(rw [cell_of (hm.at hb1 _root_.id)];rfl)
 (try simp only [go_sem,simprocAttr,ln_blk (n:=2) hb1 rfl]);refine e_call (by rfl) ?_;obtain ⟨l1,l2⟩:=lists (Mod.refl _ w1) nos;refine (f_Size p ⟨_,_,rfl,l1,l2⟩).mono ?_;rintro _ w2 ⟨rfl,hm2⟩;by_cases hsz:p.size > 100000
 · rw [if_pos hsz] at hX;have hsz':decide (p.size > 100000)=true:=by simpa using hsz
   (try simp only [go_sem,simprocAttr,hsz',rvs,RV.ev,one?]);exact fin hm2 (by decide) hX
 rw [if_neg hsz] at hX;have hsz':decide (p.size > 100000)=false:=by simpa using hsz
 obtain ⟨q0,q1⟩:=kd hm2;(try simp only [go_sem,simprocAttr,hsz',q1]);refine ir_range p.defs.length (fun k ρ w'=>k≤p.defs.length∧Mod (fun _=>False) w1 w'∧((p.defs.drop k).any (fun d=>decide (d.body.deep > 4000)))=p.defs.any (fun d=>decide (d.body.deep > 4000))∧ρ=[(1,ptr w.heap.size),(22,.slice af p.defs.length cf),(23,I p.defs.length),(24,I k)])
   ⟨by omega,hm2,rfl,rfl⟩ hlf ?_ ?_ (by decide) ?_
 · rintro k _ w3 ⟨hk,_,_,rfl⟩;exact ⟨rfl,rfl,hk⟩
 · rintro k _ w3 ⟨_,hm3,hany,rfl⟩ hk;rw [any_at hk] at hany;obtain ⟨_,l2⟩:=lists hm3 nos;obtain ⟨adk,c3,rr,e,hr,hl12,hln,_⟩:=each_at l2 hk;obtain ⟨rfl,-,-⟩:=tup_inj e;have bk:(0:Int)≤k∧(k:Int) < p.defs.length:=by omega
   have hone:=hr.one;obtain ⟨vp,tc,bc,rfl,hl3,hl7,hps,hty,hbo,_⟩:=hr;(try simp only [go_sem,simprocAttr,zb4,zb6,bk,hln]);refine s_new (n:=12) (vs:=.string p.defs[k].name::vp::(tc++bc)) rfl hl12 hone ?_;intro w4 hb5 hm4 hs4;have k5:=ln_of (off:=5) (n:=7) hb5 (by simp [Value.cells,hl3,hl7]);have e5:((Value.string p.defs[k].name::vp::(tc++bc)).drop 5).take 7=bc:=by
     match tc,hl3 with
     | [a,b,c],_=>simp [List.take_of_length_le (Nat.le_of_eq hl7)]
   rw [e5] at k5;(try simp only [go_sem,simprocAttr,k5]);refine e_call (by rfl) ?_;refine (f_deep p.defs[k].body (hbo.keep (mod0 hm4))).mono ?_;rintro _ w5 ⟨rfl,hm5⟩;have hm15:=hm3.trans (hm4.trans hm5);cases hdp:decide (p.defs[k].body.deep > 4000) with
   | true=>
     rw [hdp,Bool.true_or] at hany;rw [if_pos hany.symm] at hX;(try simp only [go_sem,simprocAttr,hdp,rvs,RV.ev,one?]);exact fin hm15 (by decide) hX
   | false=>
     rw [hdp,Bool.false_or] at hany;(try simp only [go_sem,simprocAttr,hdp]);exact ⟨hk,hm15,hany⟩
 rintro _ w3 ⟨_,hm3,hany,rfl⟩;rw [List.drop_length] at hany;have hany:false=_:=hany;rw [if_neg (by rw [← hany];simp)] at hX;(try simp only [go_sem,simprocAttr]);refine e_call (by rfl) ?_;refine f_new.mono ?_;rintro _ w4 ⟨⟨c,md,mc,mf,S0,rfl,hck0,hS0⟩,hm4⟩;have hm14:=hm3.trans hm4;have z13:=hm3.size;have hS01:∀ b,S0 b→w1.heap.size≤b:=fun b hb=>by have:=hS0 b hb;omega
 obtain ⟨q0,q1⟩:=kd hm14;obtain ⟨l1,l2⟩:=lists hm14 hS01;(try simp only [go_sem,simprocAttr,q0]);refine e_call (by rfl) ?_;refine (f_checkDatas hck0 l1).mono ?_;rintro r5 w5 ⟨hr5,hm5⟩;have new3:∀ b∈[c,md,mc,mf],w1.heap.size≤b:=fun b hb=>hS01 b (hck0.inS b hb)
 have n1:=new3 c (by simp);have n2:=new3 md (by simp);have n3:=new3 mc (by simp);have n4:=new3 mf (by simp);have hm15:Mod (fun _=>False) w1 w5:=hm14.step hm5 (fun b hb hl=>by rcases hb with h | h | h<;>omega);cases hcd:checkDatasS newE p.datas with
 | error e=>
   rw [hcd] at hr5 hX;obtain ⟨rfl,hne⟩:=hr5;have hne':(e != 0)=true:=by simpa using hne
   (try simp only [go_sem,simprocAttr,hne',rvs,RV.ev,one?]);exact fin hm15 hne hX
 | ok E1=>
   rw [hcd] at hr5 hX;obtain ⟨rfl,S1,hck1,hsub1,hS1⟩:=hr5;have z14:=hm14.size;have hS11:∀ b,S1 b→w1.heap.size≤b:=fun b hb=>by
     rcases hS1 b hb with h | h
     · exact hS01 b h
     · omega
   obtain ⟨q0,q1⟩:=kd hm15;have hX:checkedS p=match headsS p.defs E1 with
       | .error e=>.error e
       | .ok E2=>if (bodiesS E2 p.defs != 0)=true then .error (bodiesS E2 p.defs) else .ok E2:=hX
   (try simp only [go_sem,simprocAttr,q1]);refine ir_range p.defs.length (fun k ρ w'=>k≤p.defs.length∧Mod (fun _=>False) w1 w'∧(∃ S Ek,Ck0 w' S c md mc mf Ek∧(∀ b,S b→w1.heap.size≤b)∧headsS (p.defs.drop k) Ek=headsS p.defs E1)∧ρ=[(1,ptr w.heap.size),(6,ptr c),(42,.slice af p.defs.length cf),(43,I p.defs.length),(44,I k)])
     ⟨by omega,hm15,⟨S1,E1,hck1,hS11,rfl⟩,rfl⟩ hlf ?_ ?_ (by decide) ?_
   · rintro k _ w6 ⟨hk,_,_,rfl⟩;exact ⟨rfl,rfl,hk⟩
   · rintro k _ w6 ⟨_,hm6,⟨S,Ek,hck,hS,hhd⟩,rfl⟩ hk;rw [headsS_at hk] at hhd;obtain ⟨_,l6⟩:=lists hm6 hS;obtain ⟨adk,c6,rr,e6,hr,hl12,hln,_⟩:=each_at l6 hk;obtain ⟨rfl,-,-⟩:=tup_inj e6;have bk:(0:Int)≤k∧(k:Int) < p.defs.length:=by omega
     have hone:=hr.one;obtain ⟨vp,tc,bc,rfl,hl3,hl7,hps,hty,hbo,hnm⟩:=hr;obtain ⟨app,cpp,rfl⟩:=each_sl hps;have hlp:=each_len hps;(try simp only [go_sem,simprocAttr,zb4,zb6,bk,hln]);refine s_new (n:=12) (vs:=.string p.defs[k].name :: .slice app p.defs[k].params.length cpp::(tc++bc)) rfl hl12 hone ?_;intro w7 hb9 hm7 hs7;have z67:=hm7.size;(try simp only [go_sem,simprocAttr]);refine e_call (by rfl) ?_;refine (f_know (ps:=[]) (hck.keep hm7) (each_nil _ _ _ _)).mono ?_;rintro _ w8 ⟨⟨M,rfl,rfl,rfl,rfl,hk8,lp,lb,ll⟩,hm8⟩;have hm68:Mod (· = M.c) w6 w8:=(mod0 hm7).trans hm8;have hm18:Mod (fun _=>False) w1 w8:=hm6.step hm68 (fun b hb hl=>by have:=new3 M.c (by simp);omega);have hb98:=hm8.at hb9 (show ¬ w6.heap.size=M.c by have:=hck.lt M.c (hck.inS M.c (by simp));omega);have z16:=hm6.size;have z8:=hm8.size;have hKn:∀ b,Kn S M b→w1.heap.size≤b:=fun b hb=>by
       rcases hb with h | h | h | h
       · exact hS b h
       · omega
       · omega
       · omega
     have parts:∀ {w':World},Mod (fun b=>b=M.mp) w8 w'→EachAt w' (.slice app p.defs[k].params.length cpp) 1 (Out (Kn S M) w') StrAt p.defs[k].params∧TyAt w' (Out (Kn S M) w') tc p.defs[k].type:=fun hm=>by
       have h1:Mod (Kn S M) w6 _:=(hm68.weak (fun b hb=>by rw [hb];exact .inl (hck.inS _ (by simp)))).trans (hm.weak (fun b hb=>.inr (.inl hb)));have hno:∀ b,Out S w6 b→¬ Kn S M b:=fun b hb hh=>by
         rcases hh with h | h | h | h
         · exact hb.2 h
         · have:=hb.1;omega
         · have:=hb.1;omega
         · have:=hb.1;omega
       have ho:∀ b,Out S w6 b→Out (Kn S M) _ b:=fun b hb=>⟨Nat.lt_of_lt_of_le hb.1 h1.size,hno b hb⟩
       exact ⟨hps.up h1 hno ho (fun _ _ h=>h),hty.up h1 hno ho⟩
     have hh:headS Ek p.defs[k]=if ((aget Ek.defs p.defs[k].name).isSome || !isNameS p.defs[k].name)=true then .error 82
         else if parsS p.defs[k].params []=false then .error 82
         else if rightS { Ek with params:=parsL p.defs[k].params []} p.defs[k].type=false then .error 83
         else .ok { Ek with defs:=aput Ek.defs p.defs[k].name p.defs[k],params:=parsL p.defs[k].params []}:=rfl
     have stop:∀ {e:Int},headS Ek p.defs[k] = .error e→checkedS p = .error e:=fun he=>by
       rw [he] at hhd;rw [hX,← hhd]
     have kn:∀ {w':World},Mod (fun b=>b=M.mp) w8 w'→w'.cell? ⟨w6.heap.size,0,none⟩=some (.string p.defs[k].name)∧w'.cell? ⟨w6.heap.size,1,none⟩=some (.slice app p.defs[k].params.length cpp)∧w'.heap[w6.heap.size]? = some (.cells (.string p.defs[k].name :: .slice app p.defs[k].params.length cpp::(tc++bc)).toArray 49 (0,0)):=fun hm=>by
       have h1:=hm.at hb98 (show ¬ w6.heap.size=M.mp by omega);refine ⟨?_,?_,h1⟩<;>(rw [cell_of h1];rfl)
     have d8:Mod (fun _=>False) w8 w8.drew:=(Mod.refl _ _).drew;have hk8d:=hk8.keep d8;have hm18d:=hm18.trans d8;obtain ⟨kn8,kp8,_⟩:=kn (Mod.refl _ w8);(try simp only [go_sem,simprocAttr,cell_of hk8.box,kn8]);refine e_lkR (R:=RDef w8.drew (Out (Kn S M) w8.drew)) (k:=p.defs[k].name) (b:=M.mf) (kt:=9) (et:=122) rfl rfl rfl rfl (Tryz.zeroValue122 _) hk8d.defs (fun hn=>?_) (fun v y hy hr=>?_)
     rotate_left
     · have hy:aget Ek.defs p.defs[k].name=some y:=hy;rw [hy,if_pos (by simp)] at hh;obtain ⟨adv,rfl,_⟩:=hr;(try simp only [go_sem,simprocAttr,rvs,RV.ev,one?]);exact fin hm18d (by decide) (stop hh)
     have hn:aget Ek.defs p.defs[k].name=none:=hn;rw [hn] at hh;(try simp only [go_sem,simprocAttr,kn8]);refine e_call (by rfl) ?_;refine (f_isName p.defs[k].name hnm).mono ?_;rintro _ _ ⟨rfl,rfl⟩;cases hin:isNameS p.defs[k].name with
     | false=>
       rw [hin,if_pos (by rfl)] at hh;(try simp only [go_sem,simprocAttr,rvs,RV.ev,one?]);exact fin hm18d (by decide) (stop hh)
     | true=>
     rw [hin,if_neg (by simp)] at hh;(try simp only [go_sem,simprocAttr,kp8]);have hm88:∀ {w':World},Mod (fun b=>b=M.mp) w8 w'→Mod (fun _=>False) w1 w':=fun hm=>hm18.step hm (fun b hb hl=>by omega)
     refine ir_range p.defs[k].params.length (fun j ρ w'=>j≤p.defs[k].params.length∧Mod (fun b=>b=M.mp) w8 w'∧(∃ m,CkAt w' (Kn S M) M { Ek with params:=m} [] []∧parsS (p.defs[k].params.drop j) m=parsS p.defs[k].params []∧parsL (p.defs[k].params.drop j) m=parsL p.defs[k].params [])∧ρ=[(1,ptr w.heap.size),(6,ptr M.c),(8,I k),(9,ptr w6.heap.size),(42,.slice (some adk) p.defs.length cf),(43,I p.defs.length),(44,I k),(69,.slice app p.defs[k].params.length cpp),(70,I p.defs[k].params.length),(71,I j)])
       ⟨by omega,mod0 d8,⟨[],hk8d,rfl,rfl⟩,rfl⟩ hlp ?_ ?_ (by decide) ?_
     · rintro j _ w9 ⟨hj,_,_,rfl⟩;exact ⟨rfl,rfl,hj⟩
     · rintro j _ w9 ⟨_,hm9,⟨m,hk9,hp1,hp2⟩,rfl⟩ hj;rw [parsS_at hj] at hp1;rw [parsL_at hj] at hp2;obtain ⟨adp,c9,ep,hnp,hcv⟩:=str_at (parts hm9).1 hj;obtain ⟨rfl,-,-⟩:=tup_inj ep;have bj:(0:Int)≤j∧(j:Int) < p.defs[k].params.length:=by omega
       (try simp only [go_sem,simprocAttr,zb4,zb6,bj,hcv]);refine e_call (by rfl) ?_;refine (f_isVarC p.defs[k].params[j]).mono ?_;rintro _ w10 ⟨rfl,hm10⟩;have hk10:=hk9.keep hm10;have hm810:=hm9.trans (mod0 hm10);cases hv:isVarC p.defs[k].params[j] with
       | false=>
         rw [hv,if_pos (by rfl)] at hp1;rw [if_pos hp1.symm] at hh;(try simp only [go_sem,simprocAttr,rvs,RV.ev,one?]);exact fin (hm88 hm810) (by decide) (stop hh)
       | true=>
         rw [hv] at hp1;(try simp only [go_sem,simprocAttr,cell_of hk10.box]);refine raw_g ?_;refine e_lkI (k:=p.defs[k].params[j]) (b:=M.mp) (kt:=9) (et:=3) rfl rfl rfl rfl (zI _) hk10.params ?_;have hhas:decide ((aget m p.defs[k].params[j]).getD 0 > 0)=has m p.defs[k].params[j]:=rfl;cases hs:has m p.defs[k].params[j] with
         | true=>
           rw [hs] at hhas;rw [if_pos (by rw [hs];rfl)] at hp1;rw [if_pos hp1.symm] at hh;(try simp only [go_sem,simprocAttr,hhas,rvs,RV.ev,one?]);exact fin (hm88 hm810) (by decide) (stop hh)
         | false=>
           rw [hs] at hhas;rw [if_neg (by rw [hs];simp)] at hp1;(try simp only [go_sem,simprocAttr,hhas,cell_of hk10.box]);refine e_muR (R:=RI) (a:=(1:Int)) (k:=p.defs[k].params[j]) (b:=M.mp) (kt:=9) (et:=3) rfl rfl rfl rfl rfl hk10.params rfl ?_;intro w11 h11 hm11 hs11;(try simp only [go_sem,simprocAttr]);exact ⟨hj,hm810.trans hm11,_,hk10.updP hm11 h11,hp1,hp2⟩
     rintro _ w9 ⟨_,hm9,⟨m,hk9,hp1,hp2⟩,rfl⟩;rw [List.drop_length,parsS] at hp1;rw [List.drop_length,parsL] at hp2;subst hp2;rw [if_neg (by rw [← hp1];simp)] at hh;obtain ⟨kn9,kp9,hb99⟩:=kn hm9;have k2:=ln_of (off:=2) (n:=3) hb99 (by simp [Value.cells,hl3,hl7]);have e2:((Value.string p.defs[k].name :: .slice app p.defs[k].params.length cpp::(tc++bc)).drop 2).take 3=tc:=by
       simp [List.take_append_of_le_length,hl3]
     rw [e2] at k2;(try simp only [go_sem,simprocAttr,k2]);refine e_call (by rfl) ?_;refine (f_right p.defs[k].type hk9 (parts hm9).2).mono ?_;rintro _ w10 ⟨rfl,hm10⟩;have hk10:=hk9.keep hm10;have hm810:=hm9.trans (mod0 hm10);cases hrt:rightS { Ek with params:=parsL p.defs[k].params []} p.defs[k].type with
     | false=>
       rw [hrt,if_pos rfl] at hh;(try simp only [go_sem,simprocAttr,rvs,RV.ev,one?]);exact fin (hm88 hm810) (by decide) (stop hh)
     | true=>
       rw [hrt,if_neg (by simp)] at hh;rw [hh] at hhd;obtain ⟨kn10,_,_⟩:=kn hm810;obtain ⟨_,q10⟩:=kd (hm88 hm810);obtain ⟨_,l10⟩:=lists (hm88 hm810) hKn;obtain ⟨ad10,c10,r10,e10,hr10,hl10,hcs10⟩:=each_cells l10 hk;obtain ⟨e11,-,-⟩:=tup_inj e10;cases e11;have d10:Mod (fun _=>False) w10 w10.drew:=(Mod.refl _ _).drew;have hk10d:=hk10.keep d10;(try simp only [go_sem,simprocAttr,zb4,zb6,cell_of hk10.box,kn10,q10,bk]);refine e_muR (R:=RDef w10.drew (Out (Kn S M) w10.drew)) (a:=p.defs[k]) (k:=p.defs[k].name) (b:=M.mf) (kt:=9) (et:=122) rfl rfl rfl rfl rfl hk10d.defs ⟨_,rfl,r10,hcs10.up (mod0 d10) out_not (out_up (mod0 d10)),hr10.up (mod0 d10) out_not (out_up (mod0 d10))⟩ ?_;intro w11 h11 hm11 hs11;have f10:=hk10d.forget;have hMf:∀ b,b=M.mf→Kn S M b:=fun b hb=>by rw [hb];exact .inl (hck.inS _ (by simp))
       obtain ⟨⟨a1,a2,a3⟩,⟨b2,b3⟩,c3⟩:=ck0_ne f10.nodup;have h11:=MapR.mod h11 (Mod.refl (fun _=>False) w11) _root_.id (fun v y x=>x.up (hm11.weak hMf) out_not (out_up (hm11.weak hMf)));(try simp only [go_sem,simprocAttr]);refine ⟨hk,((hm88 hm810).trans d10).step hm11 (fun b hb hl=>by have:=new3 M.mf (by simp);omega),Kn S M,_,f10.upd (E':={ Ek with defs:=aput Ek.defs p.defs[k].name p.defs[k],params:=parsL p.defs[k].params []}) hm11 hMf (fun e=>a3 e) (f10.dat hm11 hMf (fun e=>b3 e)) (f10.con hm11 hMf (fun e=>c3 e)) h11,hKn,hhd⟩
   rintro _ w6 ⟨_,hm6,⟨S2,E2,hck2,hS2,hhd⟩,rfl⟩;rw [List.drop_length,headsS] at hhd;rw [← hhd] at hX;have hX:checkedS p=if (bodiesS E2 p.defs != 0)=true then .error (bodiesS E2 p.defs) else .ok E2:=hX
   obtain ⟨q0,q1⟩:=kd hm6;(try simp only [go_sem,simprocAttr,q1]);refine ir_range p.defs.length (fun k ρ w'=>k≤p.defs.length∧Mod (fun _=>False) w1 w'∧(∃ S,Ck0 w' S c md mc mf E2∧(∀ b,S b→w1.heap.size≤b)∧bodiesS E2 (p.defs.drop k)=bodiesS E2 p.defs)∧ρ=[(6,ptr c),(110,.slice af p.defs.length cf),(111,I p.defs.length),(112,I k)])
     ⟨by omega,hm6,⟨S2,hck2,hS2,rfl⟩,rfl⟩ hlf ?_ ?_ (by decide) ?_
   · rintro k _ w7 ⟨hk,_,_,rfl⟩;exact ⟨rfl,rfl,hk⟩
   · rintro k _ w7 ⟨_,hm7,⟨S,hck,hS,hbd⟩,rfl⟩ hk;rw [bodiesS_at hk] at hbd;obtain ⟨_,l7⟩:=lists hm7 hS;obtain ⟨adk,c7,rr,e7,hr,hl12,hln,_⟩:=each_at l7 hk;obtain ⟨rfl,-,-⟩:=tup_inj e7;have bk:(0:Int)≤k∧(k:Int) < p.defs.length:=by omega
     have hone:=hr.one;obtain ⟨vp,tc,bc,rfl,hl3,hl7,hps,hty,hbo,hnm⟩:=hr;obtain ⟨app,cpp,rfl⟩:=each_sl hps;(try simp only [go_sem,simprocAttr,zb4,zb6,bk,hln]);refine s_new (n:=12) (vs:=.string p.defs[k].name :: .slice app p.defs[k].params.length cpp::(tc++bc)) rfl hl12 hone ?_;intro w8 hb15 hm8 hs8;have kp:w8.cell? ⟨w7.heap.size,1,none⟩=some (.slice app p.defs[k].params.length cpp):=by rw [cell_of hb15];rfl
     (try simp only [go_sem,simprocAttr,kp]);refine e_call (by rfl) ?_;refine (f_know (ps:=p.defs[k].params) (hck.keep hm8) (hps.up (mod0 hm8) out_not (out_up (mod0 hm8)) (fun _ _ h=>h))).mono ?_;rintro _ w9 ⟨⟨M,rfl,rfl,rfl,rfl,hk9,lp,lb,ll⟩,hm9⟩;have z17:=hm7.size;have z8:=hm8.size;have z9:=hm9.size;have hltc:=hck.lt M.c (hck.inS M.c (by simp));have hm79:Mod (· = M.c) w7 w9:=(mod0 hm8).trans hm9;have hm19:Mod (fun _=>False) w1 w9:=hm7.step hm79 (fun b hb hl=>by have:=new3 M.c (by simp);omega);have hb159:=hm9.at hb15 (show ¬ w7.heap.size=M.c by omega);have hKn:∀ b,Kn S M b→w1.heap.size≤b:=fun b hb=>by
       rcases hb with h | h | h | h
       · exact hS b h
       · omega
       · omega
       · omega
     have hno:∀ b,Out S w7 b→¬ Kn S M b:=fun b hb hh=>by
       rcases hh with h | h | h | h
       · exact hb.2 h
       · have:=hb.1;omega
       · have:=hb.1;omega
       · have:=hb.1;omega
     have parts:∀ {w':World},Mod M.two w9 w'→TyAt w' (Out (Kn S M) w') tc p.defs[k].type∧ExAt w' (Out (Kn S M) w') bc p.defs[k].body:=fun hm=>by
       have h1:Mod (Kn S M) w7 _:=(hm79.weak (fun b hb=>by rw [hb];exact .inl (hck.inS _ (by simp)))).trans (hm.weak (hk9.two));have ho:∀ b,Out S w7 b→Out (Kn S M) _ b:=fun b hb=>⟨Nat.lt_of_lt_of_le hb.1 h1.size,hno b hb⟩
       exact ⟨hty.up h1 hno ho,hbo.up h1 hno ho⟩
     have k5:=ln_of (off:=5) (n:=7) hb159 (by simp [Value.cells,hl3,hl7]);have e5:((Value.string p.defs[k].name :: .slice app p.defs[k].params.length cpp::(tc++bc)).drop 5).take 7=bc:=by
       match tc,hl3 with
       | [a,b,c],_=>simp [List.take_of_length_le (Nat.le_of_eq hl7)]
     rw [e5] at k5;obtain ⟨hG,hB⟩:=good_checked hcd hhd.symm p.defs[k].params;have hbs:bodyS E2 p.defs[k]=(match exprS (knowE E2 p.defs[k].params) p.defs[k].body ([],[]) with
       | .error e=>e
       | .ok y=>if sameT y.1 p.defs[k].type=true then 0 else 83):=rfl
     have stop:∀ {e:Int},bodyS E2 p.defs[k]=e→e≠0→checkedS p = .error e:=fun he hne=>by
       have h1:(bodyS E2 p.defs[k] != 0)=true:=by rw [he];simpa using hne
       rw [if_pos h1] at hbd;have h2:(bodiesS E2 p.defs != 0)=true:=by rw [← hbd];exact h1
       rw [hX,if_pos h2,← hbd,he]
     (try simp only [go_sem,simprocAttr,k5]);refine e_call (by rfl) ?_;refine (expr_c hG hB p.defs[k].body (st:=([],[])) hk9 (fun q h=>by cases h) (parts (Mod.refl _ w9)).2).mono ?_;rintro r10 w10 ⟨hr10,hm10⟩;obtain ⟨cz,u,rfl,hz3,hz1,hkept⟩:=kept_of hr10;have two1:∀ b,M.two b→w1.heap.size≤b:=fun b hb=>hKn b (hk9.two b hb)
     (try simp only [go_sem,simprocAttr]);refine s_new (n:=3) (vs:=cz) rfl hz3 hz1 ?_;intro w11 hb16 hm11 hs11;have hm911:Mod M.two w9 w11:=hm10.trans (mod0 hm11);have hm111:Mod (fun _=>False) w1 w11:=hm19.step hm911 (fun b hb hl=>by have:=two1 b hb;omega);cases hx1:exprS (knowE E2 p.defs[k].params) p.defs[k].body ([],[]) with
     | error e4=>
       rw [hx1] at hkept hbs;obtain ⟨rfl,hne4,_⟩:=hkept;have hne':(e4 != 0)=true:=by simpa using hne4
       (try simp only [go_sem,simprocAttr,hne',rvs,RV.ev,one?]);exact fin hm111 hne4 (stop hbs hne4)
     | ok y1=>
       obtain ⟨t1,st1⟩:=y1;rw [hx1] at hkept hbs;obtain ⟨rfl,hty1,hc10⟩:=hkept;have hc11:=hc10.keep hm11;have hb1511:=hm911.at hb159 (show ¬ M.two w7.heap.size by
         intro h;rcases h with h | h<;>omega)
       have k2:=ln_of (off:=2) (n:=3) hb1511 (by simp [Value.cells,hl3,hl7]);have e2:((Value.string p.defs[k].name :: .slice app p.defs[k].params.length cpp::(tc++bc)).drop 2).take 3=tc:=by
         simp [List.take_append_of_le_length,hl3]
       rw [e2] at k2;(try simp only [go_sem,simprocAttr,k2,ln_blk (n:=3) hb16 hz3]);refine e_call (by rfl) ?_;refine (f_sameType t1 (hty1.keep (mod0 hm11)) (parts hm911).1).mono ?_;rintro _ w12 ⟨rfl,hm12⟩;have hm112:=hm111.trans hm12;cases hst:sameT t1 p.defs[k].type with
       | false=>
         have hbs:bodyS E2 p.defs[k]=if sameT t1 p.defs[k].type=true then 0 else 83:=hbs
         rw [if_neg (by rw [hst];simp)] at hbs;(try simp only [go_sem,simprocAttr,rvs,RV.ev,one?]);exact fin hm112 (by decide) (stop hbs (by decide))
       | true=>
         have hbs:bodyS E2 p.defs[k]=if sameT t1 p.defs[k].type=true then 0 else 83:=hbs
         rw [if_pos hst] at hbs;rw [if_neg (by rw [hbs];simp)] at hbd;(try simp only [go_sem,simprocAttr]);exact ⟨hk,hm112,Kn S M,((hc11.keep hm12).forget).par E2 rfl rfl rfl,hKn,hbd⟩
   · rintro _ w7 ⟨_,hm7,⟨S,hck,hS,hbd⟩,rfl⟩;rw [List.drop_length,bodiesS] at hbd;rw [if_neg (by rw [← hbd];simp)] at hX;(try simp only [go_sem,simprocAttr,rvs,RV.ev,one?]);rw [hX];exact ⟨⟨c,rfl,md,mc,mf,S,hck,fun b hb=>by have:=hS b hb;omega⟩,hm1.trans hm7⟩
end
section
open Go Go.W
noncomputable def checkS (p:Pg):Int:=match checkedS p with | .error e=>e | .ok _=>0
theorem f_Check (p:Pg) {w:World} {cs:List Value} (h:PgAt w (Out (fun _=>False) w) cs p) :
   CallsR Tryz.prog 16 [.agg cs.toArray] w fun r w'=>r=I (checkS p)∧Mod (fun _=>False) w w':=by
 have h':=h;obtain ⟨vd,vf,rfl,hd,hf⟩:=h;refine fit16.calls rfl ?_;unfold ir16;(try simp only [go_sem,simprocAttr]);refine e_bx rfl ?_;intro w1 hb1 hm1 hs1;(try simp only [go_sem,simprocAttr,ln_blk (n:=2) hb1 rfl]);refine e_call (by rfl) ?_;have ho:∀ b,Out (fun _=>False) w b→Out (fun _=>False) w1 b:=fun b hb=>⟨Nat.lt_of_lt_of_le hb.1 hm1.size,hb.2⟩
 refine (f_checked p (h'.up hm1 nof ho)).mono ?_;rintro r w2 ⟨hr,hm2⟩;have hs:checkS p=match checkedS p with | .error e=>e | .ok _=>0:=rfl
 cases hx:checkedS p with
 | error e=>
   rw [hx] at hr hs;obtain ⟨rfl,_⟩:=hr;(try simp only [go_sem,simprocAttr,rvs,RV.ev,one?]);rw [hs];exact ⟨rfl,hm1.trans hm2⟩
 | ok E=>
   rw [hx] at hr hs;obtain ⟨c,rfl,_⟩:=hr;(try simp only [go_sem,simprocAttr,rvs,RV.ev,one?]);rw [hs];exact ⟨rfl,hm1.trans hm2⟩
end
section
open Go Go.W
end
section
open Go Go.W
section
variable {P:Program} {w:World} {ρ:Go.W.Env} {K:Value→World→Prop} {x:Operand} {xT tt T:TypeId} {v z u r:Value} {dst:Option Nat} {ty:TypeId} {pos:String} {af:Array Edge}
theorem e_ta (hx:(toO x).ev ρ=some u) (h:(Instr.typeAssert u xT tt true).run P w = .ok r w) (hk:K r w):Go.W.E.wp P w ρ K (.raw ⟨dst,.typeAssert x xT tt true,ty,pos,af,none⟩):=by
 refine opWp_of_run fun act ha=>⟨_,w,?_,hk⟩
 simp only [execOp,ha x _ hx,Sem.run_bind,h,Result.andThen_ok,Sem.run_pure]
theorem run_und {t:TypeId} {D:TypeDesc} (h:P.underlying t=some D):(underlying t).run P w = .ok D w:=ro_run (by rw [ro_underlying,h])
theorem run_inf {t:TypeId} {i:TypeInfo} (h:P.info? t=some i):(typeInfo t).run P w = .ok i w:=ro_run (by rw [ro_typeInfo,h])
def isIface:TypeDesc→Bool
 | .interface _=>true
 | _=>false
theorem e_taC {D:TypeDesc} (hx:(toO x).ev ρ=some (.iface T v)) (hu:P.underlying tt=some D) (hD:isIface D=false) (hz:(zeroValue tt).run P w = .ok z w) (h1:T=tt→K (.tuple #[v,.bool true]) w) (h2:T≠tt→K (.tuple #[z,.bool false]) w) :
   Go.W.E.wp P w ρ K (.raw ⟨dst,.typeAssert x xT tt true,ty,pos,af,none⟩):=by
 by_cases ht:T=tt
 · refine e_ta hx ?_ (h1 ht);simp only [Instr.typeAssert,Sem.run_bind,run_und hu,Result.andThen_ok];cases D<;>first | (simp [isIface] at hD;done) | (simp [ht];done)
 · refine e_ta hx ?_ (h2 ht);simp only [Instr.typeAssert,Sem.run_bind,run_und hu,Result.andThen_ok];cases D<;>first | (simp [isIface] at hD;done) | (simp [ht,hz,Sem.run_bind,Result.andThen_ok];done)
theorem e_taI {want:Array (String×TypeId)} {ti:TypeInfo} {b:Bool} (hx:(toO x).ev ρ=some (.iface T v)) (hu:P.underlying tt=some (.interface want)) (hi:P.info? T=some ti) (hb:(Instr.missingMethod want ti.methods).isNone=b) (hz:(zeroValue tt).run P w = .ok z w)
   (h1:b=true→K (.tuple #[.iface T v,.bool true]) w) (h2:b=false→K (.tuple #[z,.bool false]) w) :
   Go.W.E.wp P w ρ K (.raw ⟨dst,.typeAssert x xT tt true,ty,pos,af,none⟩):=by
 cases hm:Instr.missingMethod want ti.methods with
 | none=>
   rw [hm] at hb;refine e_ta hx ?_ (h1 hb.symm);simp [Instr.typeAssert,Sem.run_bind,run_und hu,run_inf hi,Result.andThen_ok,hm]
 | some m=>
   rw [hm] at hb;refine e_ta hx ?_ (h2 hb.symm);simp [Instr.typeAssert,Sem.run_bind,run_und hu,run_inf hi,Result.andThen_ok,hm,hz]
theorem e_taN {D:TypeDesc} (hx:(toO x).ev ρ=some .nilIface) (hu:P.underlying tt=some D) (hz:(zeroValue tt).run P w = .ok z w) (hk:K (.tuple #[z,.bool false]) w) :
   Go.W.E.wp P w ρ K (.raw ⟨dst,.typeAssert x xT tt true,ty,pos,af,none⟩):=by
 refine e_ta hx ?_ hk;simp only [Instr.typeAssert,Sem.run_bind,run_und hu,Result.andThen_ok];cases D<;>simp [hz,Sem.run_bind,Result.andThen_ok]
end
theorem missing_some {want:Array (String×TypeId)} {got:Array Method} (h:(want.toList.filter fun x=>!got.any fun m=>m.name == x.1&&m.sig == x.2).isEmpty=false):(Instr.missingMethod want got).isNone=false:=by
 unfold Instr.missingMethod;generalize hl:((want.toList.filter fun (name,sig)=>!got.any fun m=>m.name == name&&m.sig == sig).map (·.1))=l;have hl0:l≠[]:=fun e=>by
   subst hl;have e2:=List.map_eq_nil_iff.1 e;have e3:(want.toList.filter fun x=>!got.any fun m=>m.name == x.1&&m.sig == x.2)=[]:=e2;rw [e3] at h;cases h
 simp only [List.partition_eq_filter_filter];cases h1:l.filter (fun x=>x.contains '.') with
 | nil=>
   cases h2:l.filter (not ∘ fun x=>x.contains '.') with
   | nil=>
     exfalso;cases l with
     | nil=>exact hl0 rfl
     | cons a l=>
       have m1:a∉(a::l).filter (fun x=>x.contains '.'):=by rw [h1];simp
       have m2:a∉(a::l).filter (not ∘ fun x=>x.contains '.'):=by rw [h2];simp
       simp only [List.mem_filter,List.mem_cons,true_or,true_and,Function.comp] at m1 m2;cases hc:a.contains '.'<;>simp [hc] at m1 m2
   | cons b m=>simp [Instr.least]
 | cons b m=>
   cases h2:l.filter (not ∘ fun x=>x.contains '.') with
   | nil=>simp [Instr.least]
   | cons c n=>simp [Instr.least]
theorem val_num:∃ want ti,Tryz.prog.underlying 77=some (.interface want)∧Tryz.prog.info? 115=some ti∧(Instr.missingMethod want ti.methods).isNone=true:=⟨_,_,rfl,rfl,by kernel_rfl⟩
theorem val_con:∃ want ti,Tryz.prog.underlying 77=some (.interface want)∧Tryz.prog.info? 111=some ti∧(Instr.missingMethod want ti.methods).isNone=true:=⟨_,_,rfl,rfl,by kernel_rfl⟩
theorem val_lam:∃ want ti,Tryz.prog.underlying 77=some (.interface want)∧Tryz.prog.info? 138=some ti∧(Instr.missingMethod want ti.methods).isNone=true:=⟨_,_,rfl,rfl,by kernel_rfl⟩
theorem val_par:∃ want ti,Tryz.prog.underlying 77=some (.interface want)∧Tryz.prog.info? 142=some ti∧(Instr.missingMethod want ti.methods).isNone=true:=⟨_,_,rfl,rfl,by kernel_rfl⟩
theorem val_wait:∃ want ti,Tryz.prog.underlying 77=some (.interface want)∧Tryz.prog.info? 105=some ti∧(Instr.missingMethod want ti.methods).isNone=false:=⟨_,_,rfl,rfl,missing_some (by kernel_rfl)⟩
theorem val_busy:∃ want ti,Tryz.prog.underlying 77=some (.interface want)∧Tryz.prog.info? 167=some ti∧(Instr.missingMethod want ti.methods).isNone=false:=⟨_,_,rfl,rfl,missing_some (by kernel_rfl)⟩
end
section
open Go Go.W
abbrev Nms:=List (ByteArray×Nat)
inductive Cl where
 | num (n:Int) | con (n:ByteArray) (fs:List Nat) | lam (e:Ex) (v:Nms) | par (n:ByteArray) (lacks:Int) (hv:List Nat)
 | wait (e:Ex) (v:Nms) | busy | emp
def Cl.isV:Cl→Bool
 | .num _=>true | .con _ _=>true | .lam _ _=>true | .par _ _ _=>true | _=>false
inductive Fm where
 | upd (c:Nat) | app (e:Ex) (v:Nms) | cas (e:Ex) (v:Nms) | fst (e:Ex) (v:Nms) | snd (e:Ex) (n:Int) | seq (e:Ex) (v:Nms) | hard (e:Ex) (v:Nms)
structure Rn where
 cells:List Cl
 frames:List Fm
 told:List (ByteArray×Int)
 steps:Int
 kind:Int
 stuck:Int
structure Cx where
 fuel:Int
 defs:List (ByteArray×Nat)
 fields:List (ByteArray×Int)
 keep:List (Nat×Obj):=[]
inductive Md where
 | go (e:Ex) (v:Nms) | val (c:Cl)
abbrev R3:=Option Md×Rn
def Rn.put (m:Rn) (c:Nat) (x:Cl):Rn:={ m with cells:=m.cells.set c x}
def Rn.new (m:Rn) (x:Cl):Rn:={ m with cells:=m.cells++[x]}
def Rn.push (m:Rn) (f:Fm):Rn:={ m with frames:=m.frames++[f]}
def Rn.stop (m:Rn) (how:Int):Rn:={ m with kind:=3,stuck:=how}
def stepS (X:Cx) (m:Rn):Bool×Rn:=if m.steps=X.fuel then (false,{ m with kind:=4}) else (true,{ m with steps:=m.steps+1})
def findS (v:Nms) (n:ByteArray):Option Nat:=aget v n
def enterCl (m:Rn) (c:Nat):R3:=match m.cells[c]? with
 | some (.wait e v)=>(some (.go e v),(m.put c .busy).push (.upd c))
 | some (.num n)=>(some (.val (.num n)),m)
 | some (.con n fs)=>(some (.val (.con n fs)),m)
 | some (.lam e v)=>(some (.val (.lam e v)),m)
 | some (.par n l h)=>(some (.val (.par n l h)),m)
 | _=>(none,m.stop 4)
def growS (n:ByteArray) (lacks:Int) (hv:List Nat):Cl:=if lacks=0 then .con n hv else .par n lacks hv
def letN:List Bd→Nat→Nms→Nms
 | [],_,v=>v
 | b::l,i,v=>letN l (i+1) ((b.name,i)::v)
def beginS (X:Cx) (e:Ex) (v:Nms) (m:Rn):Option R3:=
 if e.kind=1 then (findS v e.name).map (enterCl m)
 else if e.kind=3 then (aget X.defs e.name).map (enterCl m)
 else if e.kind=2 then some (some (.val (.num e.num)),m)
 else if e.kind=4 then some (some (.val (growS e.name ((aget X.fields e.name).getD 0) [])),m)
 else if e.kind=6 then some (some (.val (.lam e v)),m)
 else if e.kind=12 then some (none,m.stop e.num)
 else if e.kind=7 then (match e.args with
   | []=>none
   | x::_=>some (some (.go x (letN e.binds m.cells.length v)),{ m with cells:=m.cells++e.binds.map (fun b=>Cl.wait b.value (letN e.binds m.cells.length v))}))
 else if e.kind=11 then (match e.binds with
   | []=>none
   | b::_=>some (some (.go b.value v),m.push (.hard e v)))
 else match e.args with
   | []=>none
   | x::_=>some (some (.go x v),if e.kind=5 then m.push (.app e v) else if e.kind=8 then m.push (.cas e v) else if e.kind=9 then m.push (.fst e v) else if e.kind=10 then m.push (.seq e v) else m)
def numOf:Cl→Int
 | .num n=>n
 | _=>0
def conOf:Cl→Option (ByteArray×List Nat)
 | .con n fs=>some (n,fs)
 | _=>none
def W63 (n:Int):Int:=(IntKind.i64.wrap (n*2)).fdiv 2
abbrev trueN:ByteArray:=⟨#[84,114,117,101]⟩
abbrev falseN:ByteArray:=⟨#[70,97,108,115,101]⟩
def truthS (n:ByteArray) (a b:Int):Bool:=
 if strEq n ⟨#[61,61]⟩ then a == b
 else if strEq n ⟨#[47,61]⟩ then a != b
 else if strEq n ⟨#[60]⟩ then decide (a < b)
 else if strEq n ⟨#[60,61]⟩ then decide (a≤b)
 else if strEq n ⟨#[62]⟩ then decide (a > b)
 else if strEq n ⟨#[62,61]⟩ then decide (a≥b)
 else false
def oprS (n:ByteArray) (a b:Int):Option Cl:=
 if strEq n ⟨#[43]⟩ then some (.num (W63 (Wr (a+b))))
 else if strEq n ⟨#[45]⟩ then some (.num (W63 (Wr (a - b))))
 else if strEq n ⟨#[42]⟩ then some (.num (W63 (Wr (a*b))))
 else if strEq n ⟨#[47]⟩||strEq n ⟨#[37]⟩ then (if b=0 then none else if strEq n ⟨#[47]⟩ then some (.num (W63 (Wr (a.tdiv b)))) else some (.num (a.tmod b)))
 else some (.con (if truthS n a b then trueN else falseN) [])
def givenR (m:Rn) (f:Cl) (c:Nat):Option R3:=match f with
 | .lam e v=>(match e.args,e.binds with
   | x::_,b::_=>some (some (.go x ((b.name,c)::v)),m)
   | _,_=>none)
 | .par n l h=>if h.length < 1099511627776 then some (some (.val (growS n (Wr (l - 1)) (h++[c]))),m) else none
 | _=>some (none,m.stop 5)
def bindF:List ByteArray→List Nat→Nms→Option Nms
 | [],_,v=>some v
 | s::l,c::cs,v=>bindF l cs ((s,c)::v)
 | _::_,[],_=>none
def chooseS (m:Rn) (v:Nms) (x:Cl):List Al→Option R3
 | []=>some (none,m.stop 2)
 | a::l=>
   if (a.kind == 3||(a.kind == 2&&(conOf x).isNone&&a.num == numOf x))=true then some (some (.go a.body v),m)
   else match conOf x with
     | some k=>if (a.kind == 1&&strEq a.con k.1)=true then (bindF a.vars k.2 v).map (fun v'=>(some (.go a.body v'),m)) else chooseS m v x l
     | none=>chooseS m v x l
def endS (f:Fm) (x:Cl) (m:Rn):Option R3:=match f with
 | .upd c=>some (some (.val x),m.put c x)
 | .app e v=>(match e.args with
   | _::y::_=>givenR (m.new (.wait y v)) x m.cells.length
   | _=>none)
 | .cas e v=>chooseS m v x e.alts
 | .fst e v=>(match e.args with
   | _::y::_=>some (some (.go y v),m.push (.snd e (numOf x)))
   | _=>none)
 | .snd e n=>(match oprS e.name n (numOf x) with
   | some y=>some (some (.val y),m)
   | none=>some (none,m.stop 3))
 | .seq e v=>(match e.args with
   | _::y::_=>some (some (.go y v),m)
   | _=>none)
 | .hard e v=>(match e.args,e.binds with
   | y::_,b::_=>some (some (.go y ((b.name,m.cells.length)::v)),m.new x)
   | _,_=>none)
def goOnS (X:Cx):Nat→Md→Rn→Option (Option Cl×Rn)
 | 0,_,_=>none
 | n+1,.go e v,m=>
   if (stepS X m).1=false then some (none,(stepS X m).2)
   else match beginS X e v (stepS X m).2 with
     | none=>none
     | some (none,m')=>some (none,m')
     | some (some md,m')=>goOnS X n md m'
 | n+1,.val x,m=>match m.frames.getLast? with
   | none=>some (some x,m)
   | some f=>match endS f x { m with frames:=m.frames.dropLast} with
     | none=>none
     | some (none,m')=>some (none,m')
     | some (some md,m')=>goOnS X n md m'
def forceS (X:Cx) (n:Nat) (c:Nat) (m:Rn):Option (Option Cl×Rn):=match enterCl m c with
 | (none,m')=>some (none,m')
 | (some (.val x),m')=>some (some x,m')
 | (some (.go e v),m')=>goOnS X n (.go e v) m'
def applyS (X:Cx) (n:Nat) (f:Cl) (c:Nat) (m:Rn):Option (Option Cl×Rn):=match givenR m f c with
 | none=>none
 | some (none,m')=>some (none,m')
 | some (some (.val x),m')=>some (some x,m')
 | some (some (.go e v),m')=>goOnS X n (.go e v) m'
def itemS:Cl→List (ByteArray×Int)
 | .num k=>[(noStr,k)]
 | .con k _=>[(k,0)]
 | _=>[]
def fieldsOf:Cl→List Nat
 | .con _ fs=>fs
 | _=>[]
def tellS (X:Cx):Nat→Cl→List Nat→Rn→Option Rn
 | 0,_,_,_=>none
 | n+1,x,waiting,m=>
   if (stepS X m).1=false then some (stepS X m).2
   else
     let m2:Rn:={ (stepS X m).2 with told:=(stepS X m).2.told++itemS x}
     let ws:=waiting++(fieldsOf x).reverse
     if 16777216 < ws.length then none else
     match ws.getLast? with
     | none=>some { m2 with kind:=2}
     | some c=>match forceS X n c m2 with
       | none=>none
       | some (none,m3)=>some m3
       | some (some y,m3)=>tellS X n y ws.dropLast m3
def listedS:List Int→List Cl→Cl×List Cl
 | [],cs=>(.con ⟨#[78,105,108]⟩ [],cs)
 | n::l,cs=>let r:=listedS l cs;(.con ⟨#[67,111,110,115]⟩ [r.2.length,r.2.length+1],r.2++[.num n,r.1])
end
section
open Go Go.W
def EPtr (w:World) (B:Nat→Prop) (v:Value) (e:Ex):Prop:=∃ a cs,v = .pointer (some a)∧CellsAt w B a cs∧ExAt w B cs e
def Pl (w:World) (b:Nat):Prop:=∃ cs T,w.heap[b]? = some (.cells cs T (0,0))
def NdAt (w:World) (B:Nat→Prop) (a:Addr) (cs:List Value):Prop:=CellsAt w B a cs∧Pl w a.block
section
variable {w w':World} {B B' S:Nat→Prop} {a:Addr} {cs:List Value}
theorem NdAt.up (h:NdAt w B a cs) (hm:Mod S w w') (hd:∀ b,B b→¬ S b) (hB:∀ b,B b→B' b):NdAt w' B' a cs:=by
 refine ⟨h.1.up hm hd hB,?_⟩;obtain ⟨h1,ds,T,h2⟩:=h;exact ⟨ds,T,hm.at h2 (hd _ h1.1)⟩
theorem NdAt.c0 (h:NdAt w B a cs) (hk:0 < cs.length):w.cell? a=some cs[0]:=h.1.c0 hk
theorem NdAt.at (h:NdAt w B a cs) {k:Nat} (hk:k < cs.length) (h0:k≠0:=by decide):w.cell? ⟨a.block,a.off+k,none⟩=some cs[k]:=h.1.at hk h0
end
def NmAt (w:World) (B:Nat→Prop) (bs:List Nat):Nms→Value→Prop
 | [],v=>v = .pointer none
 | (n,c)::l,v=>∃ a b nx,v = .pointer (some a)∧bs[c]? = some b∧NdAt w B a [.string n,ptr b,nx]∧NmAt w B bs l nx
def RowC (bs:List Nat) (r:List Value) (c:Nat):Prop:=∃ b,r=[ptr b]∧bs[c]? = some b
def FsAt (w:World) (B:Nat→Prop) (bs:List Nat) (fs:List Nat) (v:Value):Prop:=EachAt w v 1 B (RowC bs) fs
def ClAt (w:World) (B:Nat→Prop) (bs:List Nat):Cl→Value→Prop
 | .num n,v=>v = .iface 115 (I n)
 | .con n fs,v=>∃ a vs,v = .iface 111 (.pointer (some a))∧CellsAt w B a [.string n,vs]∧FsAt w B bs fs vs
 | .lam e nm,v=>∃ a ve vn,v = .iface 138 (.pointer (some a))∧CellsAt w B a [ve,vn]∧EPtr w B ve e∧NmAt w B bs nm vn
 | .par n l fs,v=>∃ a vs,v = .iface 142 (.pointer (some a))∧CellsAt w B a [.string n,I l,vs]∧FsAt w B bs fs vs
 | .wait e nm,v=>∃ a ve vn,v = .iface 105 (.pointer (some a))∧CellsAt w B a [ve,vn]∧EPtr w B ve e∧NmAt w B bs nm vn
 | .busy,v=>v = .iface 167 (.agg #[])
 | .emp,v=>v = .nilIface
def EvAt (w:World) (B:Nat→Prop) (bs:List Nat) (k:Int) (e:Ex) (nm:Nms) (r:List Value):Prop:=∃ ve vn,r=[I k,.pointer none,ve,vn,I 0]∧EPtr w B ve e∧NmAt w B bs nm vn
def FmAt (w:World) (B:Nat→Prop) (bs:List Nat) (r:List Value):Fm→Prop
 | .upd c=>∃ b,r=[I 0,ptr b,.pointer none,.pointer none,I 0]∧bs[c]? = some b
 | .app e nm=>EvAt w B bs 1 e nm r
 | .cas e nm=>EvAt w B bs 2 e nm r
 | .fst e nm=>EvAt w B bs 3 e nm r
 | .snd e n=>∃ ve,r=[I 4,.pointer none,ve,.pointer none,I n]∧EPtr w B ve e
 | .seq e nm=>EvAt w B bs 5 e nm r
 | .hard e nm=>EvAt w B bs 6 e nm r
def ItAt' (r:List Value) (x:ByteArray×Int):Prop:=r=[.string x.1,I x.2]
section
variable {w w':World} {B B' S:Nat→Prop} {bs bs':List Nat}
theorem EPtr.up {v:Value} {e:Ex} (h:EPtr w B v e) (hm:Mod S w w') (hd:∀ b,B b→¬ S b) (hB:∀ b,B b→B' b):EPtr w' B' v e:=by
 obtain ⟨a,cs,e,h1,h2⟩:=h;exact ⟨a,cs,e,h1.up hm hd hB,h2.up hm hd hB⟩
theorem NmAt.up:∀ {nm:Nms} {v:Value},NmAt w B bs nm v→Mod S w w'→(∀ b,B b→¬ S b)→(∀ b,B b→B' b)→(∀ (c b:Nat),bs[c]? = some b→bs'[c]? = some b)→NmAt w' B' bs' nm v
 | [],v,h,_,_,_,_=>h
 | (n,c)::l,v,h,hm,hd,hB,hb=>by
   obtain ⟨a,b,nx,e,h1,h2,h3⟩:=h;exact ⟨a,b,nx,e,hb _ _ h1,h2.up hm hd hB,NmAt.up h3 hm hd hB hb⟩
theorem FsAt.up {fs:List Nat} {v:Value} (h:FsAt w B bs fs v) (hm:Mod S w w') (hd:∀ b,B b→¬ S b) (hB:∀ b,B b→B' b) (hb:∀ (c b:Nat),bs[c]? = some b→bs'[c]? = some b):FsAt w' B' bs' fs v:=
 EachAt.up h hm hd hB (fun r c h=>by obtain ⟨b,e,h⟩:=h;exact ⟨b,e,hb _ _ h⟩)
theorem ClAt.up {x:Cl} {v:Value} (h:ClAt w B bs x v) (hm:Mod S w w') (hd:∀ b,B b→¬ S b) (hB:∀ b,B b→B' b) (hb:∀ (c b:Nat),bs[c]? = some b→bs'[c]? = some b):ClAt w' B' bs' x v:=by
 cases x with
 | num n=>exact h
 | con n fs=>obtain ⟨a,vs,e,h1,h2⟩:=h;exact ⟨a,vs,e,h1.up hm hd hB,h2.up hm hd hB hb⟩
 | lam e nm=>obtain ⟨a,ve,vn,e,h1,h2,h3⟩:=h;exact ⟨a,ve,vn,e,h1.up hm hd hB,h2.up hm hd hB,h3.up hm hd hB hb⟩
 | par n l fs=>obtain ⟨a,vs,e,h1,h2⟩:=h;exact ⟨a,vs,e,h1.up hm hd hB,h2.up hm hd hB hb⟩
 | wait e nm=>obtain ⟨a,ve,vn,e,h1,h2,h3⟩:=h;exact ⟨a,ve,vn,e,h1.up hm hd hB,h2.up hm hd hB,h3.up hm hd hB hb⟩
 | busy=>exact h
 | emp=>exact h
theorem EvAt.up {k:Int} {e:Ex} {nm:Nms} {r:List Value} (h:EvAt w B bs k e nm r) (hm:Mod S w w') (hd:∀ b,B b→¬ S b) (hB:∀ b,B b→B' b) (hb:∀ (c b:Nat),bs[c]? = some b→bs'[c]? = some b):EvAt w' B' bs' k e nm r:=by
 obtain ⟨ve,vn,e,h1,h2⟩:=h;exact ⟨ve,vn,e,h1.up hm hd hB,h2.up hm hd hB hb⟩
theorem FmAt.up {f:Fm} {r:List Value} (h:FmAt w B bs r f) (hm:Mod S w w') (hd:∀ b,B b→¬ S b) (hB:∀ b,B b→B' b) (hb:∀ (c b:Nat),bs[c]? = some b→bs'[c]? = some b):FmAt w' B' bs' r f:=by
 cases f with
 | upd c=>obtain ⟨b,e,h⟩:=h;exact ⟨b,e,hb _ _ h⟩
 | snd e n=>obtain ⟨ve,e,h⟩:=h;exact ⟨ve,e,h.up hm hd hB⟩
 | app e nm=>exact EvAt.up h hm hd hB hb
 | cas e nm=>exact EvAt.up h hm hd hB hb
 | fst e nm=>exact EvAt.up h hm hd hB hb
 | seq e nm=>exact EvAt.up h hm hd hB hb
 | hard e nm=>exact EvAt.up h hm hd hB hb
theorem FmAt.len {f:Fm} {r:List Value} (h:FmAt w B bs r f):r.length=5:=by
 cases f with
 | upd c=>obtain ⟨b,rfl,h⟩:=h;rfl
 | snd e n=>obtain ⟨ve,rfl,h⟩:=h;rfl
 | app e nm=>obtain ⟨ve,vn,rfl,_⟩:=h;rfl
 | cas e nm=>obtain ⟨ve,vn,rfl,_⟩:=h;rfl
 | fst e nm=>obtain ⟨ve,vn,rfl,_⟩:=h;rfl
 | seq e nm=>obtain ⟨ve,vn,rfl,_⟩:=h;rfl
 | hard e nm=>obtain ⟨ve,vn,rfl,_⟩:=h;rfl
end
theorem f_find:∀ (nm:Nms) {n:ByteArray} {c:Nat} {w:World} {B:Nat→Prop} {bs:List Nat} {v:Value},NmAt w B bs nm v→findS nm n=some c→CallsR Tryz.prog 72 [v,.string n] w fun r w'=>(∃ b,r=ptr b∧bs[c]? = some b)∧w=w':=by
 intro nm n c w B bs v h hf;refine fit72.calls rfl ?_;unfold ir72;(try simp only [go_sem,simprocAttr]);refine ir_loop (fun z ρ w'=>w=w'∧∃ nm' v',z=nm'.length∧NmAt w B bs nm' v'∧findS nm' n=some c∧ρ=[(0,v'),(1,.string n)]) nm.length ⟨rfl,nm,v,rfl,h,hf,rfl⟩ ?_;rintro z _ _ ⟨rfl,nm',v',rfl,h',hf',rfl⟩;unfold ir72L1
 match nm',h',hf' with
 | [],h',hf'=>cases hf'
 | (s,k)::l,h',hf'=>
   obtain ⟨a,b,nx,rfl,hb,hcs,hn⟩:=h';have k0:w.cell? a=some (.string s):=hcs.c0 (by simp);have k1:w.cell? ⟨a.block,a.off+1,none⟩=some (ptr b):=hcs.at (k:=1) (by simp);have k2:w.cell? ⟨a.block,a.off+2,none⟩=some nx:=hcs.at (k:=2) (by simp);have hf':aget ((s,k)::l) n=some c:=hf';rw [aget_cons] at hf';(try simp only [go_sem,simprocAttr,k0]);cases hs:s.toList == n.toList with
   | true=>
     have e:s=n:=by
       have h1:strEq s n=true:=hs;rw [strEq_iff] at h1
       simpa using h1
     rw [if_pos e] at hf';cases hf';(try simp only [go_sem,simprocAttr,k1,rvs,RV.ev,one?]);exact ⟨b,rfl,hb⟩
   | false=>
     have e:s≠n:=fun e=>by rw [e] at hs;simp at hs
     rw [if_neg e] at hf';(try simp only [go_sem,simprocAttr,k2]);exact ⟨_,by simp,l,nx,rfl,hn,hf',rfl⟩
end
section
open Go Go.W
abbrev tRun:Nat:=93
abbrev tCell:Nat:=87
abbrev tFrm:Nat:=136
abbrev rnCells (X:Cx) (m:Rn) (md mf:Nat) (vt vf:Value):List Value:=[I m.kind,vt,I m.stuck,I m.steps,I 0,I 0,I 0,.string noStr,I X.fuel,.map (some md),.map (some mf),vf]
def RCell (bs:List Nat) (v:Value) (c:Nat):Prop:=∃ b,v=ptr b∧bs[c]? = some b
abbrev rnList (r md mf:Nat) (bs:List Nat) (tfp ffp:Option Nat):List Nat:=r::md::mf::(tfp.toList++ffp.toList++bs)
structure RnIn (w:World) (S:Nat→Prop) (r md mf:Nat) (bs:List Nat) (X:Cx) (m:Rn) (vt vf:Value) (trows frows:List (List Value)) (tfp ffp:Option Nat):Prop where
 box:w.heap[r]? = some (.cells (rnCells X m md mf vt vf).toArray tRun (0,0))
 told:OwnS w 71 2 vt (trows.flatMap id) trows.length tfp
 items:All2 ItAt' trows m.told
 frms:OwnS w tFrm 5 vf (frows.flatMap id) frows.length ffp
 frames:All2 (FmAt w (Out S w) bs) frows m.frames
 blocks:(rnList r md mf bs tfp ffp).Nodup
 inS:∀ b∈rnList r md mf bs tfp ffp,S b
 lt:∀ b,S b→b < w.heap.size
 len:bs.length=m.cells.length
 cell:∀ (i b:Nat) (x:Cl),bs[i]? = some b→m.cells[i]? = some x→∃ v:Value,w.heap[b]? = some (Obj.cells [v].toArray tCell (0,0))∧ClAt w (Out S w) bs x v
 defs:MapR w md (RCell bs) X.defs
 fields:MapR w mf RI X.fields
 steps:0≤m.steps∧m.steps≤X.fuel∧X.fuel≤1048576
 kept:∀ p∈X.keep,w.heap[p.1]? = some p.2∧S p.1∧p.1∉rnList r md mf bs tfp ffp
def RnAt (w:World) (S:Nat→Prop) (r md mf:Nat) (bs:List Nat) (X:Cx) (m:Rn):Prop:=∃ vt vf trows frows tfp ffp,RnIn w S r md mf bs X m vt vf trows frows tfp ffp
theorem All2.imp {α β:Type} {P Q:α→β→Prop} (hpq:∀ a b,P a b→Q a b):∀ {l:List α} {m:List β},All2 P l m→All2 Q l m
 | [],[],_=>trivial
 | a::l,b::m,h=>⟨hpq _ _ h.1,All2.imp hpq h.2⟩
 | [],_::_,h=>h.elim
 | _::_,[],h=>h.elim
section
variable {w w':World} {S:Nat→Prop} {r md mf:Nat} {bs:List Nat} {X:Cx} {m m':Rn} {vt vf:Value} {trows frows:List (List Value)} {tfp ffp:Option Nat}
theorem RnIn.ne (h:RnIn w S r md mf bs X m vt vf trows frows tfp ffp):r≠md∧r≠mf∧md≠mf∧(∀ b,tfp=some b→r≠b∧md≠b∧mf≠b)∧(∀ b,ffp=some b→r≠b∧md≠b∧mf≠b)∧(∀ b∈bs,r≠b∧md≠b∧mf≠b)∧(∀ a b,tfp=some a→ffp=some b→a≠b)∧(∀ a,tfp=some a→a∉bs)∧(∀ a,ffp=some a→a∉bs):=by
 have hn:=h.blocks;unfold rnList at hn;simp only [List.nodup_cons,List.mem_cons,List.mem_append,Option.mem_toList,not_or] at hn;obtain ⟨⟨a1,a2,⟨a3,a4⟩,a5⟩,⟨b1,⟨b2,b3⟩,b4⟩,⟨⟨c1,c2⟩,c3⟩,hn⟩:=hn;rw [List.nodup_append,List.nodup_append] at hn;obtain ⟨⟨_,_,d1⟩,_,d2⟩:=hn;refine ⟨a1,a2,b1,fun b hb=>⟨fun e=>a3 (by rw [e];exact hb),fun e=>b2 (by rw [e];exact hb),fun e=>c1 (by rw [e];exact hb)⟩,fun b hb=>⟨fun e=>a4 (by rw [e];exact hb),fun e=>b3 (by rw [e];exact hb),fun e=>c2 (by rw [e];exact hb)⟩,
   fun b hb=>⟨fun e=>a5 (by rw [e];exact hb),fun e=>b4 (by rw [e];exact hb),fun e=>c3 (by rw [e];exact hb)⟩,fun a b ha hb=>d1 a (by simp [ha]) b (by simp [hb]),fun a ha hm=>d2 a (by simp [ha]) a hm rfl,fun a ha hm=>d2 a (by simp [ha]) a hm rfl⟩
theorem RnIn.upr (h:RnIn w S r md mf bs X m vt vf trows frows tfp ffp) (hm:Mod (· = r) w w') (hb:w'.heap[r]? = some (.cells (rnCells X m' md mf vt vf).toArray tRun (0,0))) (e1:m'.told=m.told) (e2:m'.frames=m.frames) (e3:m'.cells=m.cells) (e4:0≤m'.steps∧m'.steps≤X.fuel) :
   RnIn w' S r md mf bs X m' vt vf trows frows tfp ffp:=by
 obtain ⟨n1,n2,n3,n4,n5,n6,n7,n8,n9⟩:=h.ne;have Sr:∀ b,b=r→S b:=fun b hb=>by rw [hb];exact h.inS _ (by simp)
 have hmS:=hm.weak Sr;refine ⟨hb,h.told.mod hm (fun b hb e=>(n4 b hb).1 e.symm),by rw [e1];exact h.items,h.frms.mod hm (fun b hb e=>(n5 b hb).1 e.symm),by rw [e2];exact h.frames.imp (fun _ _ x=>x.up hmS out_not (out_up hmS) (fun _ _ h=>h)),h.blocks,h.inS,fun b hb=>Nat.lt_of_lt_of_le (h.lt b hb) hm.size,by rw [e3];exact h.len,?_,
   h.defs.mod hm (fun e=>n1 e.symm) (fun _ _ x=>x),h.fields.mod hm (fun e=>n2 e.symm) (fun _ _ x=>x),⟨e4.1,e4.2,h.steps.2.2⟩,fun p hp=>by
     obtain ⟨a1,a2,a3⟩:=h.kept p hp;exact ⟨hm.at a1 (fun e=>a3 (by rw [e];simp)),a2,a3⟩⟩
 intro i b x hi hx;rw [e3] at hx;obtain ⟨v,h1,h2⟩:=h.cell i b x hi hx;exact ⟨v,hm.at h1 (fun e=>(n6 b (List.mem_of_getElem? hi)).1 e.symm),h2.up hmS out_not (out_up hmS) (fun _ _ h=>h)⟩
end
theorem f_step {w:World} {S:Nat→Prop} {r md mf:Nat} {bs:List Nat} {X:Cx} {m:Rn} (h:RnAt w S r md mf bs X m) :
   CallsR Tryz.prog 37 [ptr r] w fun x w'=>x = .bool (stepS X m).1∧RnAt w' S r md mf bs X (stepS X m).2∧Mod (· = r) w w':=by
 obtain ⟨vt,vf,trows,frows,tfp,ffp,h⟩:=h;refine fit37.calls rfl ?_;unfold ir37;(try simp only [go_sem,simprocAttr,cell_of h.box]);have hs:=h.steps;cases he:m.steps == X.fuel with
 | true=>
   have he':m.steps=X.fuel:=by simpa using he
   have hst:stepS X m=(false,{ m with kind:=4}):=by unfold stepS;rw [if_pos he']
   (try simp only [go_sem,simprocAttr]);refine e_st1 (b:=r) (off:=0) (v:=I 4) rfl rfl h.box rfl (by simp) ?_;intro w1 hb1 hm1 hs1;have hm1:=hm1.of_drew;(try simp only [go_sem,simprocAttr,rvs,RV.ev,one?]);rw [hst];exact ⟨rfl,⟨_,_,_,_,_,_,h.upr (m':={ m with kind:=4}) hm1 hb1 rfl rfl rfl ⟨hs.1,hs.2.1⟩⟩,hm1⟩
 | false=>
   have he':m.steps≠X.fuel:=by simpa using he
   have hst:stepS X m=(true,{ m with steps:=m.steps+1}):=by unfold stepS;rw [if_neg he']
   have e1:IntKind.i64.wrap (m.steps+1)=m.steps+1:=wrap_in (by omega) (by omega);(try simp only [go_sem,simprocAttr,cell_of h.box,e1]);refine e_st1 (b:=r) (off:=3) (v:=I (m.steps+1)) rfl rfl h.box rfl (by simp) ?_;intro w1 hb1 hm1 hs1;have hm1:=hm1.of_drew;(try simp only [go_sem,simprocAttr,rvs,RV.ev,one?]);rw [hst];exact ⟨rfl,⟨_,_,_,_,_,_,h.upr (m':={ m with steps:=m.steps+1}) hm1 hb1 rfl rfl rfl ⟨by show 0≤m.steps+1;omega,by show m.steps+1≤X.fuel;omega⟩⟩,hm1⟩
theorem f_stuck {w:World} {S:Nat→Prop} {r md mf:Nat} {bs:List Nat} {X:Cx} {m:Rn} {how:Int} (h:RnAt w S r md mf bs X m) :
   CallsR Tryz.prog 52 [ptr r,I how] w fun x w'=>RnAt w' S r md mf bs X (m.stop how)∧Mod (· = r) w w':=by
 obtain ⟨vt,vf,trows,frows,tfp,ffp,h⟩:=h;refine fit52.calls rfl ?_;unfold ir52;(try simp only [go_sem,simprocAttr]);refine e_st1 (b:=r) (off:=0) (v:=I 3) rfl rfl h.box rfl (by simp) ?_;intro w1 hb1 hm1 hs1;(try simp only [go_sem,simprocAttr]);refine e_st1 (b:=r) (off:=2) (v:=I how) rfl rfl hb1 rfl (by simp) ?_;intro w2 hb2 hm2 hs2;(try simp only [go_sem,simprocAttr]);exact ⟨⟨_,_,_,_,_,_,h.upr (m':=m.stop how) (hm1.trans hm2) hb2 rfl rfl rfl ⟨h.steps.1,h.steps.2.1⟩⟩,hm1.trans hm2⟩
end
section
open Go Go.W
theorem FmAt.one {w:World} {B:Nat→Prop} {bs:List Nat} {f:Fm} {r:List Value} (h:FmAt w B bs r f):∀ u∈r,u.oneCell'=true:=by
 have nm:∀ {l:Nms} {v:Value},NmAt w B bs l v→v.oneCell'=true:=fun {l v} h=>by
   cases l with
   | nil=>cases h;rfl
   | cons p l=>obtain ⟨a,b,nx,rfl,_⟩:=h;rfl
 have ev:∀ {k:Int} {e:Ex} {l:Nms} {r:List Value},EvAt w B bs k e l r→∀ u∈r,u.oneCell'=true:=fun h=>by
   obtain ⟨ve,vn,rfl,⟨a,cs,rfl,_⟩,h2⟩:=h;exact one_cons rfl (one_cons rfl (one_cons rfl (one_cons (nm h2) (one_cons rfl one_nil))))
 cases f with
 | upd c=>obtain ⟨b,rfl,h⟩:=h;exact one_cons rfl (one_cons rfl (one_cons rfl (one_cons rfl (one_cons rfl one_nil))))
 | snd e n=>obtain ⟨ve,rfl,⟨a,cs,rfl,_⟩⟩:=h;exact one_cons rfl (one_cons rfl (one_cons rfl (one_cons rfl (one_cons rfl one_nil))))
 | app e l=>exact ev h
 | cas e l=>exact ev h
 | fst e l=>exact ev h
 | seq e l=>exact ev h
 | hard e l=>exact ev h
theorem All2.snoc {α β:Type} {P:α→β→Prop}:∀ {l:List α} {m:List β} {a:α} {b:β},All2 P l m→P a b→All2 P (l++[a]) (m++[b])
 | [],[],a,b,_,h=>⟨h,trivial⟩
 | x::l,y::m,a,b,h,hp=>⟨h.1,All2.snoc h.2 hp⟩
 | [],_::_,_,_,h,_=>h.elim
 | _::_,[],_,_,h,_=>h.elim
def Grew (S S':Nat→Prop) (w:World):Prop:=(∀ b,S b→S' b)∧∀ b,S' b→S b∨w.heap.size≤b
theorem grew_out {S S':Nat→Prop} {w w':World} (hg:Grew S S' w) (hsz:w.heap.size≤w'.heap.size):∀ b,Out S w b→Out S' w' b:=out_more hsz hg.2
theorem rn_nodup {r md mf:Nat} {bs:List Nat} {tfp ffp:Option Nat} (hbs:bs.Nodup) (h1:r≠md∧r≠mf∧md≠mf) (h2:∀ b,tfp=some b→r≠b∧md≠b∧mf≠b) (h3:∀ b,ffp=some b→r≠b∧md≠b∧mf≠b) (h4:∀ b∈bs,r≠b∧md≠b∧mf≠b) (h5:∀ a b,tfp=some a→ffp=some b→a≠b) (h6:∀ a,tfp=some a→a∉bs) (h7:∀ a,ffp=some a→a∉bs):(rnList r md mf bs tfp ffp).Nodup:=by
 unfold rnList;simp only [List.nodup_cons,List.mem_cons,List.mem_append,Option.mem_toList,not_or];refine ⟨⟨h1.1,h1.2.1,⟨fun e=>(h2 _ e).1 rfl,fun e=>(h3 _ e).1 rfl⟩,fun e=>(h4 _ e).1 rfl⟩,⟨h1.2.2,⟨fun e=>(h2 _ e).2.1 rfl,fun e=>(h3 _ e).2.1 rfl⟩,fun e=>(h4 _ e).2.1 rfl⟩,⟨⟨fun e=>(h2 _ e).2.2 rfl,fun e=>(h3 _ e).2.2 rfl⟩,fun e=>(h4 _ e).2.2 rfl⟩,?_⟩;rw [List.nodup_append,List.nodup_append];refine ⟨⟨?_,?_,fun a ha b hb=>h5 a b (by simpa using ha) (by simpa using hb)⟩,hbs,fun a ha b hb=>?_⟩
 · cases tfp<;>simp
 · cases ffp<;>simp
 · rcases List.mem_append.1 ha with h | h
   · exact fun e=>h6 a (by simpa using h) (by rw [e];exact hb)
   · exact fun e=>h7 a (by simpa using h) (by rw [e];exact hb)
theorem RnIn.bsn {w:World} {S:Nat→Prop} {r md mf:Nat} {bs:List Nat} {X:Cx} {m:Rn} {vt vf:Value} {trows frows:List (List Value)} {tfp ffp:Option Nat} (h:RnIn w S r md mf bs X m vt vf trows frows tfp ffp):bs.Nodup:=by
 have hn:=h.blocks;unfold rnList at hn;simp only [List.nodup_cons] at hn;have h3:=hn.2.2.2;rw [List.nodup_append] at h3;exact h3.2.1
theorem f_push {w:World} {S:Nat→Prop} {r md mf:Nat} {bs:List Nat} {X:Cx} {m:Rn} {f:Fm} {cs:List Value} (h:RnAt w S r md mf bs X m) (hf:FmAt w (Out S w) bs cs f) (hlen:m.frames.length≤2097152) :
   CallsR Tryz.prog 73 [ptr r,.agg cs.toArray] w fun x w'=>(∃ S',RnAt w' S' r md mf bs X (m.push f)∧Grew S S' w)∧Mod S w w':=by
 obtain ⟨vt,vf,trows,frows,tfp,ffp,h⟩:=h;have lc:=hf.len;have hfl:=h.frames.at.1;refine fit73.calls rfl ?_;unfold ir73;(try simp only [go_sem,simprocAttr]);refine e_bx rfl ?_;intro w1 hb1 hm1 hs1;have hbox:=hm1.at h.box _root_.id;have hr:=lt_of_heap hbox;(try simp only [go_sem,simprocAttr,cell_of hbox,ln_blk (n:=5) (cs:=cs) hb1 lc]);refine e_bs (cs:=cs.toArray) (ps:=partsOf 5 0 [cs]) rfl (by have:=fill_rows (sz:=5) [cs] [] _ ⟨lc,trivial⟩ (show [I 0,.pointer none,.pointer none,.pointer none,I 0].length=1*5 from rfl);simpa using this) ?_;intro w2 hb2 hm2 hs2;have hm2':Mod (fun _=>False) w1 w2:=hm2.of_drew;have hm02:=hm1.trans hm2';(try simp only [go_sem,simprocAttr]);refine ⟨hm2'.old _ hr _root_.id,?_⟩;have hrd:=rd_block hb2;rw [lc] at hrd;refine e_ap (m:=1) (news:=cs) rfl (h.frms.mod hm02 (fun _ _ h=>h)) rfl (fun h=>by cases h) hrd hf.one rfl (by omega) (by omega) ?_;intro v3 w3 fp3 ho3 hm3 hf3;have hbox2:=hm2'.at hbox _root_.id;obtain ⟨n1,n2,n3,n4,n5,n6,n7,n8,n9⟩:=h.ne;have Sr:∀ b,b=r→S b:=fun b hb=>by rw [hb];exact h.inS _ (by simp)
 have Sf:∀ b,ffp=some b→S b:=fun b hb=>h.inS _ (by simp [hb])
 have hbox3:=hm3.at hbox2 (fun e=>(n5 r e).1 rfl);obtain ⟨av3,cv3,rfl,_,_⟩:=ho3.val;refine e_st1 (b:=r) (off:=11) (v:=.slice av3 (frows.length+1) cv3) rfl rfl hbox3 rfl (by simp) ?_;intro w4 hb4 hm4 hs4;(try simp only [go_sem,simprocAttr]);have z02:=hm02.size;have z23:=hm3.size;have z34:=hm4.size;have zw1:w1.heap.size=w.heap.size+1:=hs1;have zw2:w2.heap.size=w1.heap.size+1:=hs2;have new3:∀ b,fp3=some b→ffp=some b∨w.heap.size≤b:=fun b hb=>by
   rcases hf3 b hb with h | ⟨h,_⟩
   · exact .inl h
   · right;omega
 have hmS:Mod S w w4:=((mod0 hm02).trans (hm3.weak Sf)).trans (hm4.weak Sr);have hg:Grew S (fun b=>S b∨fp3=some b) w:=⟨fun b hb=>.inl hb,fun b hb=>by
   rcases hb with h | h
   · exact .inl h
   · rcases new3 b h with h | h
     · exact .inl (Sf b h)
     · exact .inr h⟩
 have hout:=grew_out hg hmS.size;have up:∀ {f:Fm} {row:List Value},FmAt w (Out S w) bs row f→FmAt w4 (Out (fun b=>S b∨fp3=some b) w4) bs row f:=fun hx=>hx.up hmS out_not hout (fun _ _ h=>h)
 have ltl:∀ b∈rnList r md mf bs tfp ffp,b < w.heap.size:=fun b hb=>h.lt b (h.inS b hb)
 have lr:=ltl r (by simp);have ld:=ltl md (by simp);have lmf:=ltl mf (by simp);have lt':∀ b,tfp=some b→b < w.heap.size:=fun b hb=>ltl b (by simp [hb])
 have lb:∀ b∈bs,b < w.heap.size:=fun b hb=>ltl b (by simp [hb])
 have hlt4:∀ b,fp3=some b→b < w4.heap.size:=fun b hb=>Nat.lt_of_lt_of_le (ho3.lt hb) z34
 refine ⟨⟨fun b=>S b∨fp3=some b,⟨vt,.slice av3 (frows.length+1) cv3,trows,frows++[cs],tfp,fp3,?_⟩,hg⟩,hmS⟩;refine ⟨hb4,?_,h.items,?_,?_,?_,?_,?_,h.len,?_,?_,?_,h.steps,fun p hp=>?_⟩
 rotate_left 9
 · obtain ⟨a1,a2,a3⟩:=h.kept p hp;have a4:=lt_of_heap a1;simp only [rnList,List.mem_cons,List.mem_append,Option.mem_toList,not_or] at a3 ⊢;obtain ⟨c1,c2,c3,⟨c4,c5⟩,c6⟩:=a3;exact ⟨hm4.at (hm3.at (hm02.at a1 _root_.id) (fun e=>c5 (by rw [e]))) c1,.inl a2,c1,c2,c3,⟨c4,fun e=>by
     rcases new3 _ e with h | h
     · exact c5 h
     · omega⟩,c6⟩
 · exact ((h.told.mod hm02 (fun _ _ h=>h)).mod hm3 (fun b hb e=>n7 b b hb e rfl)).mod hm4 (fun b hb e=>(n4 b hb).1 e.symm)
 · have ho4:=ho3.mod hm4 (fun b hb e=>by
     rcases new3 b hb with h | h
     · exact (n5 b h).1 e.symm
     · omega)
   rw [flat_snoc,List.length_append];exact ho4
 · exact (h.frames.imp (fun _ _ x=>up x)).snoc (up hf)
 · refine rn_nodup h.bsn ⟨n1,n2,n3⟩ n4 (fun b hb=>?_) n6 (fun a b ha hb=>?_) n8 (fun a ha hmem=>?_)
   · rcases new3 b hb with h | h
     · exact n5 b h
     · exact ⟨by omega,by omega,by omega⟩
   · rcases new3 b hb with h | h
     · exact n7 a b ha h
     · have:=lt' a ha;omega
   · rcases new3 a ha with h | h
     · exact n9 a h hmem
     · have:=lb a hmem;omega
 · intro b hb;simp only [rnList,List.mem_cons,List.mem_append,Option.mem_toList] at hb;rcases hb with rfl | rfl | rfl | (h1 | h1) | h1
   · exact .inl (h.inS _ (by simp))
   · exact .inl (h.inS _ (by simp))
   · exact .inl (h.inS _ (by simp))
   · exact .inl (h.inS _ (by simp [h1]))
   · exact .inr h1
   · exact .inl (h.inS _ (by simp [h1]))
 · intro b hb;rcases hb with h1 | h1
   · have:=h.lt b h1;have:=hmS.size;omega
   · exact hlt4 b h1
 · intro i b x hi hx;obtain ⟨v,h1,h2⟩:=h.cell i b x hi hx;have hmem:=List.mem_of_getElem? hi;exact ⟨v,hm4.at (hm3.at (hm02.at h1 _root_.id) (fun e=>n9 b e hmem)) (fun e=>(n6 b hmem).1 e.symm),h2.up hmS out_not hout (fun _ _ h=>h)⟩
 · exact ((h.defs.mod hm02 _root_.id (fun _ _ x=>x)).mod hm3 (fun e=>(n5 md e).2.1 rfl) (fun _ _ x=>x)).mod hm4 (fun e=>n1 e.symm) (fun _ _ x=>x)
 · exact ((h.fields.mod hm02 _root_.id (fun _ _ x=>x)).mod hm3 (fun e=>(n5 mf e).2.2 rfl) (fun _ _ x=>x)).mod hm4 (fun e=>n2 e.symm) (fun _ _ x=>x)
end
end Go.Proofs.YtjfgeekjjlhbdaaGreatDoor