/- Texts that the last file stands on: G8, G9, G10, P11, G11, G12, G13, G14, G15, IRM, M0, Q1, M1, M2, M3, M4. -/
import Derived.Test.YtnjobkbblhaliaaGreatDoorZTB
import Derived.Test.YtnjobkbblhaliaaGreatDoorZTA
import Derived.KernelRfl
set_option linter.unusedSimpArgs false
set_option linter.unusedVariables false
set_option maxRecDepth 100000
namespace Go.Proofs.YtnjobkbblhaliaaGreatDoor
section
open Go Go.W
def si (fr:Nat) (out:List Nat):List (Int×Int):=(List.range out.length).map fun j=>((out.getD j 0:Int),((fr+j:Nat):Int))
theorem TA (fr:Nat) (out:List Nat) (x:Nat):si fr (out++[x])=si fr out++[((x:Int),((fr+out.length:Nat):Int))]:=by
 unfold si;rw [List.length_append,List.length_singleton,List.range_succ,List.map_append]
 congr 1
 ·apply List.map_congr_left;intro j hj;have:=List.mem_range.1 hj;simp [List.getD_eq_getElem?_getD,List.getElem?_append_left this]
 ·simp [List.getD_eq_getElem?_getD]
theorem TB {fr:Nat} {out:List Nat} {x:Nat} (h:x∉out):nG (si fr out) x=none∧∀ v,rJ (si fr out) x v=si fr out++[((x:Int),v)]:=by
 have hf:(si fr out).findIdx? (fun p=>p.1 == (x:Int))=none:=by
  rw [List.findIdx?_eq_none_iff];intro q hq;obtain ⟨j,hj,rfl⟩:=List.mem_map.1 hq;have qx:=List.mem_range.1 hj;have:out.getD j 0≠x:=fun hh=>h (by rw [← hh,List.getD_eq_getElem?_getD,List.getElem?_eq_getElem qx];exact List.getElem_mem qx)
  simp only [beq_eq_false_iff_ne,ne_eq];omega
 refine ⟨by rw [Jt,hf];rfl,fun v=>by unfold rJ;rw [hf]⟩
theorem aeu (fr:Nat):∀ (n:Nat) (out:List Nat) (x:Nat),out.length=n→x∈out→nG (si fr out) x=some ((fr+out.idxOf x:Nat):Int):=by
 intro n
 induction n with
 | zero=>intro out x h U;rw [List.eq_nil_of_length_eq_zero h] at U;cases U
 | succ n ih=>
  intro out x hl h;rcases List.eq_nil_or_concat out with rfl | ⟨out,y,rfl⟩
  ·cases h
  rw [List.concat_eq_append] at *;have kH:out.length=n:=by simpa using hl
  rw [TA];by_cases U:x∈out
  ·have h1:=ih out x kH U;unfold nG at h1 ⊢;rw [List.find?_append,List.idxOf_append,if_pos U];cases hq:(si fr out).find? (fun p=>p.1 == (x:Int)) with
   | none=>rw [hq] at h1;cases h1
   | some q=>rw [hq] at h1;simpa using h1
  ·have e:x=y:=by simpa [U] using h
   subst e;have h1:=(TB (fr:=fr) U).1;unfold nG at h1 ⊢;rw [List.find?_append,List.idxOf_append,if_neg U];cases hq:(si fr out).find? (fun p=>p.1 == (x:Int)) with
   | none=>simp
   | some q=>rw [hq] at h1;cases h1
structure mR (w:World) (bm a bo br bn:Nat) (ns:List Nd) (fr:Nat) (out:List Nat) (vm:Value) (fp:Option Nat):Prop where
 cells:w.heap[bm]? = some (.cells #[.pointer (some ⟨a,0,none⟩),.slice (some ⟨bo,0,none⟩) ns.length ns.length,.map (some br),I fr,.map (some bn),vm] 249 (0,0))
 of:w.heap[bo]? = some (.cells (((List.range ns.length).map fun i=>(over ns i:Int)).map I).toArray 3 (0,0))
 new:gi w bn (si fr out)
 met:ao w 3 1 vm (out.map fun x=>I (x:Nat)) out.length fp
 ne:fp≠some bo
theorem so {w w':World} {bm a bo br bn:Nat} {ns:List Nd} {fr:Nat} {out:List Nat} {vm:Value} {fp:Option Nat} {S:Nat→Prop} (h:mR w bm a bo br bn ns fr out vm fp) (hm:Mod S w w') (h1:¬ S bm) (h2:¬ S bo) (h3:¬ S bn) (h4:∀ x,fp=some x→¬ S x):mR w' bm a bo br bn ns fr out vm fp:=
 ⟨hm.at h.cells h1,hm.at h.of h2,dT h.new hm h3,h.met.mod hm h4,h.ne⟩
theorem TC (w:World) (bm a bo br bn:Nat) (ns:List Nd) (hw:WF ns) (hn:ns.length≤1048576) (fr:Nat) (bt:fr≤ns.length) (out:List Nat) (vm:Value) (fp:Option Nat) (h:mR w bm a bo br bn ns fr out vm fp) (hm:jW ns fr out) (p:Nat) (hp:p < ns.length) :
   aK Tryz.prog 204 [.pointer (some ⟨bm,0,none⟩),I p] w fun r w'=>r=I (dD ns fr (gj ns fr out p) p)∧∃ C4 gx,mR w' bm a bo br bn ns fr (gj ns fr out p) C4 gx∧Mod (fun x=>x=bm∨x=bn∨fp=some x) w w'∧∀ x,gx=some x→fp=some x∨w.heap.size≤x:=by
 obtain ⟨h1,h2,h3,h4,h5⟩:=h;have AU:over ns p < ns.length:=qv (fu hw) hp;have kN:=xt hm;have b1:(0:Int)≤p∧(p:Int) < ns.length:=by omega
 have U:=u9 h2 (i:=p) (by simp;exact hp);have fZ:((List.range ns.length).map fun i=>(over ns i:Int)).getD p 0=(over ns p:Nat):=by simp [List.getD_eq_getElem?_getD,hp]
 rw [fZ] at U;refine ab1.calls rfl ?_;unfold J0;simp only [go_sem,simprocAttr,an,bq,cell_of h1,b1,U];refine aY rfl (fun hc=>?_) (fun hc=>?_)
 ·have bz:over ns p < fr:=by simpa using hc
  refine σ ?_;have e:gj ns fr out p=out:=by simp [gj,bz]
  rw [e];refine ⟨by unfold dD;rw [Int.toNat_natCast,if_pos bz],vm,fp,⟨h1,h2,h3,h4,h5⟩,Mod.refl _ _,fun x U=>.inl U⟩
 ·have bz:¬ over ns p < fr:=by simpa using hc
  simp only [go_sem,simprocAttr,cell_of h1];refine Ju (t:=200) (kt:=3) (et:=3) rfl rfl Tryz.underlying200 Tryz.underlying3 (Tryz.zeroValue3 _) h3 ?_;by_cases dh:over ns p∈out
  ·rw [aeu fr _ out _ rfl dh];simp only [go_sem,simprocAttr,Option.getD_some,Option.isSome_some,Bool.not_true,Bool.not_false];have e:gj ns fr out p=out:=by simp [gj,dh]
   rw [e];refine ⟨by unfold dD;rw [Int.toNat_natCast,if_neg bz],vm,fp,⟨h1,h2,h3,h4,h5⟩,Mod.refl _ _,fun x U=>.inl U⟩
  ·have yU:=TB (fr:=fr) dh;rw [yU.1];obtain ⟨va,vc,rfl,_,_⟩:=h4.val;have F7:IntKind.i64.wrap ((fr:Int)+out.length)=((fr+out.length:Nat):Int):=by rw [cy]<;>omega
   simp only [go_sem,simprocAttr,Option.getD_none,Option.isSome_none,Bool.not_true,Bool.not_false,cell_of h1,F7];have jn:Mod (fun _=>False) w w.drew:=⟨Nat.le_refl _,fun _ _ _=>rfl,rfl,rfl,rfl⟩;have TD:bm≠bn:=fun hh=>by
    obtain ⟨es,c,q2,_⟩:=h3;rw [← hh,h1] at q2;cases q2
   have aev:bo≠bn:=fun hh=>by
    obtain ⟨es,c,q2,_⟩:=h3;rw [← hh,h2] at q2;cases q2
   have wX:bm≠bo:=fun hh=>mH h1 (hh ▸ h2) (by decide)
   have iZ:∀ x,fp=some x→x≠bn:=fun x U hh=>by
    obtain ⟨es,c,q2,_⟩:=h3;obtain ⟨cs,q3⟩:=tO h4 U;rw [hh,q2] at q3;cases q3
   have lj:fp≠some bm:=jA h4 h1 (by decide);refine Fq (t:=200) (kt:=3) (et:=3) rfl rfl rfl Tryz.underlying200 Tryz.underlying3 (dT h3 jn (fun h=>h)) ?_;intro w2 ae aew dq;rw [yU.2,← TA] at ae;have F9:=(jn.az (S':=fun x=>x=bn) (fun _ h=>h.elim)).trans aew;have tS:=F9.at h1 TD;have h22:=F9.at h2 aev;have h42:=h4.mod F9 iZ;simp only [go_sem,simprocAttr,cell_of tS];refine cd (by rfl) (by refine σ ?_;rfl) ?_;intro w3 aJ ab eP;have h43:=h42.mod ab (fun _ _ h=>h);refine σ ?_;refine eH (m:=1) (news:=[I (over ns p:Nat)]) rfl h43 rfl (fun h=>by cases h) (j9 aJ) (by simp [Value.oneCell']) rfl (by omega) (by omega) ?_;intro v4 w4 Ga gk ai gq;obtain ⟨rY,rZ,rfl,_,_⟩:=gk.val;have TE:=ai.at (ab.at tS (fun h=>h)) lj;have h24:=ai.at (ab.at h22 (fun h=>h)) h5;have KW:=dT (dT ae ab (fun h=>h)) ai (fun hh=>iZ bn hh rfl);have aex:w.heap.size=w2.heap.size:=dq.symm;have s3:=ab.size;have KX:=lt_of_heap h1;have KS:=lt_of_heap h2;have TF:∀ x,Ga=some x→fp=some x∨w.heap.size≤x:=fun x U=>(gq x U).imp (fun h=>h) (fun h=>by omega)
   refine σ ?_;refine bY (off:=5) rfl rfl TE rfl (by simp) ?_;intro w5 bZ aB fP;have bZ:w5.heap[bm]? = some (.cells #[.pointer (some ⟨a,0,none⟩),.slice (some ⟨bo,0,none⟩) ns.length ns.length,.map (some br),I fr,.map (some bn),.slice rY (out.length+1) rZ] 249 (0,0)):=bZ;refine σ ?_;have e:gj ns fr out p=out++[over ns p]:=by simp [gj,bz,dh]
   have aey:dD ns fr (gj ns fr out p) p=(fr+out.length:Nat):=aes bz dh;have aez:Ga≠some bm:=jA gk TE (by decide);refine ⟨by rw [aey],.slice rY (out.length+1) rZ,Ga,?_,?_,TF⟩
   ·rw [e];refine ⟨by simpa using bZ,aB.at h24 (fun hh=>wX hh.symm),dT KW aB (fun hh=>TD hh.symm),?_,?_⟩
    ·have:=gk.mod aB (fun x U hh=>aez (by rw [U,hh]))
     simpa using this
    ·intro hh;rcases TF bo hh with h | h
     ·exact h5 h
     ·omega
   ·exact (((F9.az (S':=fun x=>x=bm∨x=bn∨fp=some x) (fun x U=>.inr (.inl U))).step ab (fun _ h _=>h.elim)).step ai (fun x U _=>.inr (.inr U))).step aB (fun x U _=>.inl U)
end
section
open Go Go.W
theorem aeA {w:World} {v:Value} {xs:List Int} (h:Ints w v xs) (bj:xs≠[]):∀ b,jf v=some b→b < w.heap.size:=by
 obtain ⟨a,c,rfl,_,U⟩:=h;intro b hb;obtain ⟨ad,rfl,h0⟩:=U 0 (by cases xs with | nil=>exact absurd rfl bj | cons=>simp);have:=World.block_lt_of_cell? w _ h0;simp only [jf,Option.some.injEq] at hb;subst hb;have e:(ad.add 0).block=ad.block:=by simp [Addr.add]
 omega
theorem TG (a:Addr) (k:Nat):(a.add k).block=a.block:=by unfold Addr.add;split<;>rfl
theorem aeB {ns:List Nd} {fr:Nat} {out:List Nat} {l:List Int} {k:Nat} (hk:k < l.length):(l.take (k+1)).map (dD ns fr (dm ns fr out (l.take (k+1))))=(l.take k).map (dD ns fr (dm ns fr out (l.take k)))++[dD ns fr (dm ns fr out (l.take (k+1))) l[k]]:=by
 rw [List.take_succ_eq_append_getElem hk,List.map_append]
 congr 1
 apply List.map_congr_left;intro a ha;refine C2 ?_ (yW ns fr _ _ a ha);have:dm ns fr out (l.take k++[l[k]])=dm ns fr (dm ns fr out (l.take k)) [l[k]]:=by unfold dm;rw [List.foldl_append]
 rw [this];exact xu ns fr _ _
theorem KY (w:World) (bm a bo br bn:Nat) (ns:List Nd) (hw:WF ns) (hn:ns.length≤1048576) (fr:Nat) (bt:fr≤ns.length) (out:List Nat) (vm:Value) (fp:Option Nat) (h:mR w bm a bo br bn ns fr out vm fp) (hm:jW ns fr out) (v:Value) (l:List Int) (hl:Ints w v l) (ct:bJ ns.length l=true)
   (hlv:l≠[]→∀ x,jf v=some x→¬ (x=bm∨x=bn∨fp=some x)) (pK:l.length≤17592186044416) :
   aK Tryz.prog 200 [.pointer (some ⟨bm,0,none⟩),v] w fun r w'=>∃ C4 gx fq,mR w' bm a bo br bn ns fr (dm ns fr out l) C4 gx∧Mod (fun x=>x=bm∨x=bn∨fp=some x) w w'∧(∀ x,gx=some x→fp=some x∨w.heap.size≤x) ∧
    ao w' 3 1 r ((l.map (dD ns fr (dm ns fr out l))).map I) l.length fq∧∀ x,fq=some x→w.heap.size≤x∧gx≠some x:=by
 have TH:=hl;obtain ⟨va,vc,rfl,_,tT⟩:=TH;have KX:=lt_of_heap h.cells;have TI:bn < w.heap.size:=by obtain ⟨es,c,q,_⟩:=h.new;exact lt_of_heap q
 have KS:=lt_of_heap h.of;have lfp:∀ x,fp=some x→x < w.heap.size:=fun x U=>h.met.lt U
 refine abZ.calls rfl ?_;unfold JY;refine σ ?_
 refine dA (fun m ρ w'=>∃ (k:Nat) (vk vr:Value) (fk fq:Option Nat),m=l.length - k∧k≤l.length∧mR w' bm a bo br bn ns fr (dm ns fr out (l.take k)) vk fk∧Mod (fun x=>x=bm∨x=bn∨fp=some x) w w'∧(∀ x,fk=some x→fp=some x∨w.heap.size≤x) ∧
     ao w' 3 1 vr (((l.take k).map (dD ns fr (dm ns fr out (l.take k)))).map I) k fq∧(∀ x,fq=some x→w.heap.size≤x∧fk≠some x) ∧
     ρ=[(0,.pointer (some ⟨bm,0,none⟩)),(5,vr),(8,.slice va l.length vc),(9,I l.length),(10,I k)]) l.length
  ⟨0,vm,_,fp,none,rfl,Nat.zero_le _,by simpa [dm] using h,Mod.refl _ _,(fun x U=>.inl U),ao.nil _ _ _,(fun x U=>by cases U),rfl⟩ ?_
 rintro m ρ w1 ⟨k,vk,vr,fk,fq,rfl,hk,iF,ag,pL,lC,mS,rfl⟩;unfold RA;have s1:=ag.size;refine σ ?_;refine aY rfl (fun hc=>?_) (fun hc=>?_)
 ·have dX:k < l.length:=by simpa using hc
  have bj:l≠[]:=fun hh=>by rw [hh] at dX;simp at dX
  obtain ⟨ad,rfl,gC⟩:=tT k dX;have TJ:=ag.cell gC (fun hh=>hlv bj ad.block rfl (by rwa [TG] at hh));have b1:(0:Int)≤k∧(k:Int) < l.length:=by omega
  have sg:IntKind.i64.wrap ((k:Int)+1)=((k+1:Nat):Int):=by rw [cy]<;>omega
  have u':=List.all_eq_true.1 ct l[k] (List.getElem_mem dX);simp only [Bool.and_eq_true,decide_eq_true_eq] at u';obtain ⟨p,hp⟩:∃ p:Nat,l[k]=(p:Int):=⟨l[k].toNat,by omega⟩;rw [hp] at TJ;have qD:dm ns fr out (l.take (k+1))=gj ns fr (dm ns fr out (l.take k)) p:=by
   rw [aet ns fr l out (List.getElem?_eq_getElem dX),hp,Int.toNat_natCast]
  have jk:=aeB (ns:=ns) (fr:=fr) (out:=out) dX;rw [hp] at jk
  have mQ:jW ns fr (dm ns fr out (l.take k)):=qI hw _ hm (by
   rw [bJ,List.all_eq_true];intro y hy
   exact List.all_eq_true.1 ct y (List.mem_of_mem_take hy))
  simp only [go_sem,simprocAttr,an,bq,b1,TJ];refine δ (by rfl) (TC w1 bm a bo br bn ns hw hn fr bt _ vk fk iF mQ p (by omega)) ?_;rintro q w2 ⟨rfl,vk2,TK,TL,ae,TM⟩;rw [← qD] at TL ⊢
  have TN:=lC.mod ae (fun x U hh=>by
   have:=mS x U;rcases hh with hh | hh | hh
   ·omega
   ·omega
   ·exact this.2 hh)
  obtain ⟨ra,rc,rfl,_,_⟩:=TN.val;refine σ ?_;refine cd (by rfl) (by refine σ ?_;rfl) ?_;intro w3 aJ ab eP;have aeC:=TN.mod ab (fun _ _ h=>h);have Gb:=so TL ab (fun h=>h) (fun h=>h) (fun h=>h) (fun _ _ h=>h);refine σ ?_;refine eH (m:=1) (news:=[I (dD ns fr (dm ns fr out (l.take (k+1))) p)]) rfl aeC rfl (fun h=>by cases h) (j9 aJ) (by simp [Value.oneCell']) rfl (by omega) (by omega) ?_;intro v4 w4 fq4 gk ai gq;obtain ⟨v4a,v4c,rfl,_,_⟩:=gk.val;have s2:=ae.size;have s3:=ab.size;have C5:∀ x,fq=some x→x≠bm∧x≠bo∧x≠bn∧TK≠some x:=fun x U=>by
   have h1:=mS x U;refine ⟨by omega,by omega,by omega,fun hh=>?_⟩;rcases TM x hh with h | h
   ·exact h1.2 h
   ·have:=lC.lt U;omega
  have KZ:=so Gb ai (fun hh=>(C5 bm hh).1 rfl) (fun hh=>(C5 bo hh).2.1 rfl) (fun hh=>(C5 bn hh).2.2.1 rfl) (fun x U hh=>(C5 x hh).2.2.2 U);simp only [go_sem,simprocAttr,sg];refine ⟨_,?_,k+1,vk2,.slice v4a (k+1) v4c,TK,fq4,rfl,by omega,KZ,?_,fun x U=>?_,?_,fun x U=>?_,rfl⟩
  ·omega
  ·refine ((ag.step ae (fun x U ah=>?_)).step ab (fun _ h _=>h.elim)).step ai (fun x U ah=>?_)
   ·rcases U with U | U | U
    ·exact .inl U
    ·exact .inr (.inl U)
    ·exact .inr (.inr ((pL x U).elim (fun h=>h) (fun h=>by omega)))
   ·have:=mS x U;omega
  ·rcases TM x U with h | h
   ·exact pL x h
   ·exact .inr (by omega)
  ·rw [jk,List.map_append];exact gk
  ·rcases gq x U with h | h
   ·exact ⟨(mS x h).1,(C5 x h).2.2.2⟩
   ·refine ⟨by omega,fun hh=>?_⟩;have:=Gb.met.lt hh;omega
 ·have dX:k=l.length:=by simp at hc;omega
  subst dX;rw [List.take_length] at iF lC;refine σ ?_;exact ⟨vk,fk,fq,iF,ag,pL,lC,mS⟩
end
section
open Go Go.W
def nM (ns:List Nd) (fr:Nat) (out:List Nat) (x:Nat):Nd:=⟨(ak ns x).kind,(ak ns x).num,(ak ns x).args.map (dD ns fr out)⟩
theorem TO (w:World) (bm a bo br bn:Nat) (ns xw:List Nd) (hw:WF ns) (hn:ns.length≤1048576) (fr:Nat) (bt:fr≤ns.length) (out:List Nat) (vm:Value) (fp:Option Nat) (h:mR w bm a bo br bn ns fr out vm fp) (hm:jW ns fr out)
   (c0 c1 cv c3 c4 c5:Value) (F:Nat→Prop) (ha:w.heap[a]? = some (.cells #[c0,c1,cv,c3,c4,c5] 202 (0,0))) (TP:qy 104 w cv xw F) (hlen:xw.length=ns.length) (dL:∀ nd∈xw,nd.args.length≤8) (TQ:∀ x,fr≤x→x < ns.length→ak xw x=ak ns x)
   (Gc:∀ x,F x→¬ (x=bm∨x=bn∨fp=some x)) :
   aK Tryz.prog 201 [.pointer (some ⟨bm,0,none⟩)] w fun r w'=>∃ C4 gx fq ps nN,mR w' bm a bo br bn ns fr (gZ ns fr (ns.length+1) 0 out) C4 gx∧Mod (fun x=>x=bm∨x=bn∨fp=some x) w w' ∧
    ao w' 104 3 r (flat ps) (gZ ns fr (ns.length+1) 0 out).length fq∧(∀ x,fq=some x→w.heap.size≤x)∧kn w' ps nN (fun x=>w.heap.size≤x)∧ps.map Prod.fst=(gZ ns fr (ns.length+1) 0 out).map (nM ns fr (gZ ns fr (ns.length+1) 0 out)):=by
 generalize hO:gZ ns fr (ns.length+1) 0 out=O;have KX:=lt_of_heap h.cells;have TI:bn < w.heap.size:=by obtain ⟨es,c,q,_⟩:=h.new;exact lt_of_heap q
 have KS:=lt_of_heap h.of;have la:=lt_of_heap ha;have eD:∀ x,F x→x < w.heap.size:=by obtain ⟨_,_,_,_,_,_,q⟩:=TP;exact q
 refine ab0.calls rfl ?_;unfold JZ;refine σ ?_
 refine dA (fun m ρ w'=>∃ (i:Nat) (cur:List Nat) (vk vr:Value) (fk fq:Option Nat) (ps:List (Nd×Value)) (nN:Nat→Option Nat),m=O.length - i∧i≤cur.length∧jW ns fr cur∧gZ ns fr (ns.length+1 - i) i cur=O ∧
     mR w' bm a bo br bn ns fr cur vk fk∧Mod (fun x=>x=bm∨x=bn∨fp=some x) w w'∧(∀ x,fk=some x→fp=some x∨w.heap.size≤x) ∧
     ao w' 104 3 vr (flat ps) i fq∧(∀ x,fq=some x→w.heap.size≤x)∧kn w' ps nN (fun x=>w.heap.size≤x)∧ps.map Prod.fst=(cur.take i).map (nM ns fr O)∧(∀ j x,j < ps.length→nN j=some x→fk≠some x) ∧
     ρ=[(0,.pointer (some ⟨bm,0,none⟩)),(3,vr),(4,I i)]) O.length
  ⟨0,out,vm,_,fp,none,[],fun _=>none,rfl,Nat.zero_le _,hm,hO,h,Mod.refl _ _,(fun x U=>.inl U),ao.nil _ _ _,(fun x U=>by cases U),S1 _ _,rfl,(fun j x hj=>absurd hj (by simp)),rfl⟩ ?_
 rintro m ρ w1 ⟨i,cur,vk,vr,fk,fq,ps,nN,rfl,hi,l9,vt,iF,ag,pL,lC,mS,ep,jw,TR,rfl⟩;have qB:cur <+: O:=by rw [← vt];exact C1 ns fr _ _ _
 have ik:=xt l9;obtain ⟨vka,vkc,rfl,_,_⟩:=iF.met.val;unfold RB;simp only [go_sem,simprocAttr,cell_of iF.cells];refine aY rfl (fun hc=>?_) (fun hc=>?_)
 ·have bO:i < cur.length:=by simpa using hc
  obtain ⟨x,U⟩:∃ x,cur[i]=x:=⟨_,rfl⟩;have AX:=l9.2 x (by rw [← U];exact List.getElem_mem bO)
  have nI:=ag.at ha (fun hh=>by
   rcases hh with hh | hh | hh
   ·exact mH ha (by rw [hh];exact h.cells) (by decide)
   ·obtain ⟨es,c,q,_⟩:=h.new;rw [← hh,ha] at q;cases q
   ·exact jA h.met ha (by decide) hh)
  have aeD:=TP.mod ag Gc;obtain ⟨bc,cc,nv,rfl,d0,d1,d2,dx,db,_⟩:=yJ aeD dL (i:=x) (by rw [hlen];exact AX.1);rw [TQ x AX.2.2 AX.1] at d0 d1 dx;have dl:=Te d0 d1 d2;obtain ⟨bw,cw,ew,tw⟩:=KL iF.met bO (u:=I (x:Nat)) (by simp [bO,U]);simp only [Value.slice.injEq] at ew;obtain ⟨rfl,_,rfl⟩:=ew;have b1:(0:Int)≤i∧(i:Int) < cur.length:=by omega
  have b2:(0:Int)≤(x:Nat)∧((x:Nat):Int) < xw.length:=by omega
  have jn:Mod (fun _=>False) w1 w1.drew:=⟨Nat.le_refl _,fun _ _ _=>rfl,rfl,rfl,rfl⟩;have dld:cH w1.drew 3 (.pointer (some ⟨bc,x*3,none⟩))=some (.agg #[I (ak ns x).kind,I (ak ns x).num,nv]):=dl;simp only [go_sem,simprocAttr,an,bq,cell_of iF.cells,cell_of nI,b1,b2,tw,dl,dld];obtain ⟨na,nc',rfl,_,_⟩:=id dx;refine dk ?_;intro w2 aC ae dq;have aC:w2.heap[w1.heap.size]? = some (.cells #[I 0,I 0,.slice none 0 0] 104 (0,0)):=aC;have dq:w2.heap.size=w1.heap.size+1:=dq;have dG:=jn.trans ae;have lc:=World.block_lt_of_cell? w1 _ d0;have lw:=World.block_lt_of_cell? w1 _ tw;have TS:=lt_of_heap iF.cells;have la1:=lt_of_heap nI;refine ⟨⟨dG.old _ lc (fun h=>h),dG.old _ lw (fun h=>h),dG.old _ TS (fun h=>h),dG.old _ la1 (fun h=>h),dG.old _ TS (fun h=>h)⟩,?_⟩;refine σ ?_;refine cX rfl rfl aC rfl rfl (by simp [Value.oneCell']) ?_;intro w3 aJ ab eP;have dZ:Mod (fun _=>False) w1 w3:=dG.step ab (fun x U ah=>by omega);have s1:=ag.size;have Gb:=so iF dZ (fun h=>h) (fun h=>h) (fun h=>h) (fun _ _ h=>h);have dx3:=dx.mod dZ (fun _ _ h=>h);have bE:=(jh hw AX.1).2;have oN:(ak ns x).args.length≤8:=by
   rw [← TQ x AX.2.2 AX.1];have:ak xw x=xw[x]'(by omega):=by simp [ak,show x < xw.length by omega]
   rw [this];exact dL _ (List.getElem_mem _)
  have TT:ns.length+1 - i=(ns.length - i)+1:=by omega
  rw [TT,AW ns fr _ i cur bO,U] at vt;have aeE:dm ns fr cur (ak ns x).args <+: O:=by rw [← vt];exact C1 ns fr _ _ _
  simp only [go_sem,simprocAttr,cell_of aJ];refine aq (by rfl) ?_
  refine (KY w3 bm a bo br bn ns hw hn fr bt cur _ fk Gb l9 _ (ak ns x).args dx3 bE (fun _ b hb hh=>by
   have h1:=db b hb;have h2:=eD b h1;rcases hh with hh | hh | hh
   ·exact Gc b h1 (.inl hh)
   ·exact Gc b h1 (.inr (.inl hh))
   ·rcases pL b hh with h3 | h3
    ·exact Gc b h1 (.inr (.inr h3))
    ·omega) (by omega)).mono ?_
  rintro q w4 ⟨vm4,fk4,f4,KZ,ai,K0,o4,gq⟩;have aeF:(ak ns x).args.map (dD ns fr (dm ns fr cur (ak ns x).args))=(nM ns fr O x).args:=by
   simp only [nM];apply List.map_congr_left;intro y hy;exact (C2 aeE (yW ns fr _ _ y hy)).symm
  rw [aeF] at o4;have Kq:(nM ns fr O x).args.length=(ak ns x).args.length:=by simp [nM]
  obtain ⟨rY,rZ,rfl,_,_⟩:=o4.val;have s4:=ai.size;have TU:∀ y,fk=some y→y < w1.heap.size:=fun y hy=>iF.met.lt hy
  have hS4:∀ y,(y=bm∨y=bn∨fk=some y)→y < w1.heap.size:=fun y hy=>by
   rcases hy with hy | hy | hy
   ·omega
   ·have:bn < w1.heap.size:=by omega
    omega
   ·exact TU y hy
  have aH:=ai.at aJ (fun hh=>by have:=hS4 _ hh;omega);refine σ ?_;refine bY (off:=2) rfl rfl aH rfl (by simp) ?_;intro w5 bZ aB fP;have bZ:w5.heap[w1.heap.size]? = some (.cells #[I (ak ns x).kind,I (ak ns x).num,.slice rY (ak ns x).args.length rZ] 104 (0,0)):=bZ;have aeG:∀ y,fq=some y→y < w1.heap.size:=fun y hy=>lC.lt hy
  have K1:∀ j y,j < ps.length→nN j=some y→y < w1.heap.size:=fun j y hj hy=>(ep.1 j hj).1.lt hy
  have aeH:∀ y,fq=some y→¬ (y=bm∨y=bn∨fk=some y):=fun y hy hh=>by
   have:=mS y hy;rcases hh with hh | hh | hh
   ·omega
   ·omega
   ·exact tP lC iF.met (by decide) hy hh
  have aeI:∀ j y,j < ps.length→nN j=some y→¬ (y=bm∨y=bn∨fk=some y):=fun j y hj hy hh=>by
   have:=(ep.1 j hj).2 y hy;rcases hh with hh | hh | hh
   ·omega
   ·omega
   ·exact TR j y hj hy hh
  have aeJ:=((lC.mod dZ (fun _ _ h=>h)).mod ai aeH).mod aB (fun y hy hh=>by have:=aeG y hy;omega);have aeK:=jC (jC (jC ep dZ (fun _ _ _ _ h=>h)) ai aeI) aB (fun j y hj hy hh=>by have:=K1 j y hj hy;omega);have o5:=o4.mod aB (fun y hy hh=>by have:=(gq y hy).1;omega)
  have AY:=so KZ aB (by omega) (by omega) (by omega) (fun y hy hh=>by
   rcases K0 y hy with h | h
   ·have:=TU y h;omega
   ·omega)
  simp only [go_sem,simprocAttr,dM bZ (off:=0) (n:=3) (by simp)];refine cd (by rfl) (by refine σ ?_;rfl) ?_;intro w6 cN aD mK;have Gd:=aeJ.mod aD (fun _ _ h=>h);have xx:=jC aeK aD (fun _ _ _ _ h=>h);have o6:=o5.mod aD (fun _ _ h=>h);have Ge:=so AY aD (fun h=>h) (fun h=>h) (fun h=>h) (fun _ _ h=>h);have sg:IntKind.i64.wrap ((i:Int)+1)=((i+1:Nat):Int):=by rw [cy]<;>omega
  have aoX:ps.length=i:=by
   have:=congrArg List.length jw;rw [List.length_map,List.length_map,List.length_take] at this;omega
  refine σ ?_;refine eH (m:=1) (news:=nc (nM ns fr O x,.slice rY (ak ns x).args.length rZ)) rfl Gd rfl (fun h=>by cases h) (j9 cN) (by simp [nc,Value.oneCell']) rfl (by omega) (by omega) ?_;intro v7 w7 fq7 qE aX sb;obtain ⟨v7a,v7c,rfl,_,_⟩:=qE.val;have s6:=aD.size;have s7:=aX.size;simp only [go_sem,simprocAttr,sg];have aeL:=jC xx aX (fun j y hj hy hh=>tP (xx.1 j hj).1 Gd (by decide) hy hh);have o7:=o6.mod aX (fun y hy hh=>tP o6 Gd (by decide) hy hh);have Gf:=so Ge aX (fun hh=>by have:=mS _ hh;omega) (fun hh=>by have:=mS _ hh;omega) (fun hh=>by have:=mS _ hh;omega) (fun y hy hh=>tP Ge.met Gd (by decide) hy hh);have aeM:Mod (fun y=>y=bm∨y=bn∨fp=some y) w w7:=by
   refine (((((ag.step dZ (fun _ h _=>h.elim)).step ai (fun y hy ah=>?_)).step aB (fun y hy ah=>by omega)).step aD (fun _ h _=>h.elim)).step aX (fun y hy ah=>by have:=mS y hy;omega));rcases hy with hy | hy | hy
   ·exact .inl hy
   ·exact .inr (.inl hy)
   ·exact .inr (.inr ((pL y hy).elim (fun h=>h) (fun h=>by omega)))
  rw [← Kq] at o7;have aoY:=(xu ns fr (ak ns x).args cur).length_le;refine ⟨_,?_,i+1,dm ns fr cur (ak ns x).args,vm4,.slice v7a (i+1) v7c,fk4,fq7,ps++[(nM ns fr O x,.slice rY (ak ns x).args.length rZ)],_,rfl,by omega,qI hw _ l9 bE,?_,Gf,aeM,fun y hy=>?_,?_,fun y hy=>?_,S2 aeL (by rw [Kq] at o7 ⊢;exact o7) (fun y hy=>by have:=(gq y hy).1;omega) (fun j y hj hy hh=>?_),?_,fun j y hj hy hh=>?_,rfl⟩
  ·have:=qB.length_le;omega
  ·rw [← vt];congr 1;omega
  ·rcases K0 y hy with h | h
   ·exact pL y h
   ·exact .inr (by omega)
  ·rw [wS,FB];exact qE
  ·rcases sb y hy with h | h
   ·exact mS y h
   ·omega
  ·have:=K1 j y hj hy;have:=(gq y hh).1;omega
  ·rw [List.map_append,jw];have e1:(dm ns fr cur (ak ns x).args).take (i+1)=cur.take i++[x]:=by
    obtain ⟨t,ht⟩:=xu ns fr (ak ns x).args cur;rw [← ht,List.take_append_of_le_length (by omega),List.take_succ_eq_append_getElem bO,U]
   rw [e1,List.map_append];rfl
  ·simp only [List.length_append,List.length_cons,List.length_nil] at hj;by_cases jE:j < ps.length
   ·rw [if_pos jE] at hy;rcases K0 y hh with h | h
    ·exact TR j y jE hy h
    ·have:=K1 j y jE hy;omega
   ·rw [if_neg jE] at hy;exact (gq y hy).2 hh
 ·have bO:i=cur.length:=by simp at hc;omega
  have hce:cur=O:=by rw [← vt,xv _ _ _ _ _ (by omega)]
  subst hce;subst bO;rw [List.take_length] at jw;refine σ ?_;exact ⟨_,fk,fq,ps,nN,iF,ag,lC,mS,ep,jw⟩
end
section
open Go Go.W
theorem TV {ns:List Nd} {fr:Nat} {out:List Nat} (h:jW ns fr out) (bt:fr≤ns.length):fr+out.length≤ns.length:=by
 have bQ:(out.map (fun x=>x - fr)).Nodup:=by
  unfold List.Nodup;rw [List.pairwise_map];refine h.1.imp_of_mem ?_;intro a b ha hb gT hh;have:=(h.2 a ha).2.2;have:=(h.2 b hb).2.2;exact gT (by omega)
 have:=AA (ns.length - fr) _ bQ (fun x U=>by
  obtain ⟨y,hy,rfl⟩:=List.mem_map.1 U;have:=h.2 y hy
  omega)
 simp at this;omega
theorem aeN {ns:List Nd} (hw:WF ns) {fr:Nat}:∀ (f i:Nat) (out:List Nat),ns.length+1≤f+i→jW ns fr out→i≤out.length→(∀ j x,j < i→out[j]? = some x→∀ a∈(ak ns x).args,over ns a.toNat < fr∨over ns a.toNat∈out) →
   jW ns fr (gZ ns fr f i out)∧∀ x∈gZ ns fr f i out,∀ a∈(ak ns x).args,over ns a.toNat < fr∨over ns a.toNat∈gZ ns fr f i out:=by
 intro f
 induction f with
 | zero=>
  intro i out SD hm hi _;have:=xt hm;omega
 | succ f ih=>
  intro i out SD hm hi hc;rcases Nat.lt_or_ge i out.length with ah | hge
  ·rw [AW ns fr f i out ah];have U:=hm.2 _ (List.getElem_mem ah);have qB:=xu ns fr (ak ns out[i]).args out;refine ih (i+1) _ (by omega) (qI hw _ hm (jh hw U.1).2) (by have:=qB.length_le;omega) ?_;intro j x hj Gg a ha;rcases Nat.lt_or_ge j i with h | h
   ·have Gh:out[j]? = some x:=by
     obtain ⟨t,ht⟩:=qB;rw [← ht,List.getElem?_append_left (by omega)] at Gg;exact Gg
    exact (hc j x h Gh a ha).imp (fun h=>h) (fun h=>qB.subset h)
   ·obtain rfl:j=i:=by omega
    have Gh:out[j]? = some x:=by
     obtain ⟨t,ht⟩:=qB;rw [← ht,List.getElem?_append_left (by omega)] at Gg;exact Gg
    rw [List.getElem?_eq_getElem ah,Option.some.injEq] at Gh;subst Gh;exact yW ns fr _ _ a ha
  ·rw [xv ns fr _ _ _ hge];refine ⟨hm,fun x U a ha=>?_⟩;obtain ⟨j,hj,rfl⟩:=List.getElem_of_mem U;exact hc j _ (by omega) (List.getElem?_eq_getElem hj) a ha
def fL (fr:Nat) (q:Int):Bool:=decide (q≥(fr:Int))
def yX (ns:List Nd) (fr:Nat) (out:List Nat) (p:Nat):List Nat:=dm ns fr out ((ak ns p).args.filter (fL fr))
def lK (ns:List Nd) (fr k:Nat) (out:List Nat):List Nat:=(List.range k).foldl (yX ns fr) out
theorem Gi (ns:List Nd) (fr k:Nat) (out:List Nat):lK ns fr (k+1) out=yX ns fr (lK ns fr k out) k:=by simp [lK,List.range_succ]
def bK (ns:List Nd) (fr:Nat) (roots:List Int):List Nat:=gZ ns fr (ns.length+1) 0 (lK ns fr fr (dm ns fr [] roots))
def kO (ns:List Nd) (fr:Nat) (O:List Nat) (p:Nat):List Int:=(ak ns p).args.map fun q=>if fL fr q=true then dD ns fr O q else q
def nO (ns:List Nd) (fr:Nat) (O:List Nat) (p:Nat):Nd:=⟨(ak ns p).kind,(ak ns p).num,if ind ns p=true∧over ns p=p then [(p:Int)] else kO ns fr O p⟩
def b9 (ns:List Nd) (fr:Nat) (roots:List Int):List Nd:=(List.range fr).map (nO ns fr (bK ns fr roots))++(bK ns fr roots).map (nM ns fr (bK ns fr roots))
def fm (ns:List Nd) (fr:Nat) (roots:List Int):List Int:=roots.map (dD ns fr (bK ns fr roots))
theorem K2 {n:Nat} {l:List Int} (h:bJ n l=true) (p:Int→Bool):bJ n (l.filter p)=true:=by
 rw [bJ,List.all_eq_true] at h ⊢;intro x U;exact h x (List.mem_filter.1 U).1
theorem K3 (ns:List Nd) (fr:Nat) (out:List Nat) (p:Nat):out <+: yX ns fr out p:=xu ns fr _ _
theorem TW (ns:List Nd) (fr k:Nat) (out:List Nat):out <+: lK ns fr k out:=by
 induction k with
 | zero=>exact List.prefix_rfl
 | succ k ih=>rw [Gi];exact ih.trans (K3 ns fr _ k)
theorem aeO (ns:List Nd) (fr:Nat) (out:List Nat) {j k:Nat} (h:j≤k):lK ns fr j out <+: lK ns fr k out:=by
 induction k with
 | zero=>
  obtain rfl:j=0:=by omega
  exact List.prefix_rfl
 | succ k ih=>
  rcases Nat.lt_or_ge j (k+1) with h1 | h1
  ·rw [Gi];exact (ih (by omega)).trans (K3 ns fr _ k)
  ·obtain rfl:j=k+1:=by omega
   exact List.prefix_rfl
theorem TX {ns:List Nd} (hw:WF ns) {fr:Nat} (bt:fr≤ns.length) {out:List Nat} (h:jW ns fr out):∀ k,k≤fr→jW ns fr (lK ns fr k out):=by
 intro k
 induction k with
 | zero=>intro _;exact h
 | succ k ih=>
  intro hk;rw [Gi];exact qI hw _ (ih (by omega)) (K2 (jh hw (by omega)).2 _)
theorem aeP (ns:List Nd) (fr:Nat) (out:List Nat) {p k:Nat} (hp:p < k) {a:Int} (ha:a∈(ak ns p).args) (hy:fL fr a=true):over ns a.toNat < fr∨over ns a.toNat∈lK ns fr k out:=by
 have h1:=yW ns fr ((ak ns p).args.filter (fL fr)) (lK ns fr p out) a (List.mem_filter.2 ⟨ha,hy⟩);refine h1.imp (fun h=>h) (fun h=>(aeO ns fr out (show p+1≤k by omega)).subset ?_);rw [Gi];exact h
theorem sq {ns:List Nd} (hw:WF ns) {fr:Nat} (bt:fr≤ns.length) {roots:List Int} (ho:bJ ns.length roots=true) :
   jW ns fr (bK ns fr roots)∧(∀ x∈bK ns fr roots,∀ a∈(ak ns x).args,over ns a.toNat < fr∨over ns a.toNat∈bK ns fr roots) ∧
   (∀ a∈roots,over ns a.toNat < fr∨over ns a.toNat∈bK ns fr roots)∧∀ p,p < fr→∀ a∈(ak ns p).args,fL fr a=true→over ns a.toNat < fr∨over ns a.toNat∈bK ns fr roots:=by
 have h0:=qI hw roots (yV ns fr) ho;have h1:=TX hw bt h0 fr (Nat.le_refl _);obtain ⟨h2,h3⟩:=aeN hw (ns.length+1) 0 _ (by omega) h1 (Nat.zero_le _) (fun j x h=>by omega);have hp:=C1 ns fr (ns.length+1) 0 (lK ns fr fr (dm ns fr [] roots));refine ⟨h2,h3,fun a ha=>?_,fun p tJ a ha hy=>?_⟩
 ·exact (yW ns fr roots [] a ha).imp (fun h=>h) (fun h=>hp.subset ((TW ns fr fr _).subset h))
 ·exact (aeP ns fr _ tJ ha hy).imp (fun h=>h) (fun h=>hp.subset h)
theorem sr (ns:List Nd) (fr:Nat) (roots:List Int):(b9 ns fr roots).length=fr+(bK ns fr roots).length:=by simp [b9]
theorem K4 {ns:List Nd} (hw:WF ns) {fr:Nat} (bt:fr≤ns.length) {roots:List Int} (ho:bJ ns.length roots=true):(b9 ns fr roots).length≤ns.length:=by
 rw [sr];exact TV (sq hw bt ho).1 bt
theorem K5 {ns:List Nd} {fr:Nat} {O:List Nat} {a:Int} (h:over ns a.toNat < fr∨over ns a.toNat∈O):0≤dD ns fr O a∧dD ns fr O a < (fr+O.length:Nat):=by
 unfold dD
 split
 ·rename_i hh;omega
 ·rename_i hh;have:=List.idxOf_lt_length_iff.2 (h.resolve_left hh);omega
theorem C6 {ns:List Nd} (hw:WF ns) {fr:Nat} (bt:fr≤ns.length) {roots:List Int} (ho:bJ ns.length roots=true):WF (b9 ns fr roots):=by
 obtain ⟨h1,h2,h3,h4⟩:=sq hw bt ho;intro nd bQ;rw [sr];rcases List.mem_append.1 bQ with U | U
 ·obtain ⟨p,hp,rfl⟩:=List.mem_map.1 U;have tU:=List.mem_range.1 hp;have dN:=jh hw (show p < ns.length by omega);by_cases hr:ind ns p=true∧over ns p=p
  ·have hk:(ak ns p).kind=5:=by simpa [ind] using hr.1
   have hm:=dN.1;simp only [Nd.may,gU,hk,decide_eq_true_eq] at hm;refine ⟨?_,?_⟩
   ·simp only [nO,if_pos hr,Nd.may,gU,hk];simp;omega
   ·simp only [nO,if_pos hr,bJ];simp;omega
  ·refine ⟨?_,?_⟩
   ·have:=dN.1
    simpa [nO,if_neg hr,kO,Nd.may] using this
   ·simp only [nO,if_neg hr];rw [bJ,List.all_eq_true];intro y hy;obtain ⟨a,ha,rfl⟩:=List.mem_map.1 hy;have bE:=List.all_eq_true.1 dN.2 a ha;simp only [Bool.and_eq_true,decide_eq_true_eq] at bE ⊢
    split
    ·rename_i K6;have:=K5 (h4 p tU a ha K6);omega
    ·rename_i K6;simp [fL] at K6;omega
 ·obtain ⟨x,TY,rfl⟩:=List.mem_map.1 U;have dN:=jh hw (h1.2 x TY).1;refine ⟨by simpa [nM,Nd.may] using dN.1,?_⟩;rw [bJ,List.all_eq_true];intro y hy;obtain ⟨a,ha,rfl⟩:=List.mem_map.1 hy;have:=K5 (h2 x TY a ha);simp only [Bool.and_eq_true,decide_eq_true_eq];omega
theorem TZ {ns:List Nd} (hw:WF ns) {fr:Nat} (bt:fr≤ns.length) {roots:List Int} (ho:bJ ns.length roots=true):bJ (b9 ns fr roots).length (fm ns fr roots)=true:=by
 obtain ⟨h1,h2,h3,h4⟩:=sq hw bt ho;rw [sr,bJ,List.all_eq_true];intro y hy;obtain ⟨a,ha,rfl⟩:=List.mem_map.1 hy;have:=K5 (h3 a ha);simp only [Bool.and_eq_true,decide_eq_true_eq];omega
theorem T1 {ns:List Nd} (hw:WF ns):yR ns ns.length []:=by
 refine ⟨by simp,fun k=>⟨fun h=>by simp at h,fun ⟨p,_,hp,a,ha,hge⟩=>?_⟩⟩;have:=List.all_eq_true.1 (jh hw hp).2 a ha;simp only [Bool.and_eq_true,decide_eq_true_eq] at this;omega
end
section
open Go Go.W
theorem T3 {w:World} {cv:Value} {ns:List Nd} {F:Nat→Prop} (h:kL 104 w cv ns F) {a:Nat} {cs:Array Value} {fz:Nat×Nat} (ha:w.heap[a]? = some (.cells cs 202 fz)):kL 104 w cv ns (fun x=>F x∧x≠a):=by
 obtain ⟨dY,ps,fp,h1,h2,h3,h4,h5⟩:=h;exact ⟨dY,ps,fp,h1,fun b hb=>⟨h2 b hb,fun hh=>jA h1 ha (by decide) (by rw [hb,hh])⟩,⟨fun i hi=>⟨(h3.1 i hi).1,fun b hb=>⟨(h3.1 i hi).2 b hb,fun hh=>jA (h3.1 i hi).1 ha (by decide) (by rw [hb,hh])⟩⟩,h3.2⟩,h4,fun b hb=>h5 b hb.1⟩
def K7 (At:World→Nat→Int→Int→Nat→Int→List Nd→(Nat→Prop)→Prop) (w:World) (a:Nat) (size bp times:Int) (ns:List Nd) (fr:Nat) (roots:List Int) (F:Nat→Prop) (r:Value) (w':World):Prop:=
 ∃ fq F',ao w' 3 1 r ((fm ns fr roots).map I) roots.length fq∧At w' a size bp (b9 ns fr roots).length (IntKind.i64.wrap (times+1)) (b9 ns fr roots) F'∧Grow F F' w w'∧∀ x,fq=some x→w.heap.size≤x∧¬ F' x
theorem T5 {w:World} {v:Value} {l:List Int} (h:Ints w v l):l≠[]→∀ x,jf v=some x→x < w.heap.size:=fun bj x U=>aeA h bj x U
theorem T6 {w w':World} {v:Value} {l:List Int} {S:Nat→Prop} (h:Ints w v l) (hm:Mod S w w') (hs:l≠[]→∀ x,jf v=some x→¬ S x):Ints w' v l:=by
 obtain ⟨a,c,rfl,hl,U⟩:=h;refine ⟨a,c,rfl,hl,fun i hi=>?_⟩;obtain ⟨ad,rfl,h1⟩:=U i hi;refine ⟨ad,rfl,hm.cell h1 ?_⟩;have bj:l≠[]:=by rintro rfl;simp at hi
 rw [TG];exact hs bj _ rfl
theorem T8 (w:World) (a:Nat) (size bp:Int) (old:Nat) (times:Int) (ns:List Nd) (F:Nat→Prop) (h:jm w a size bp old times ns F) (hw:WF ns) (hn:ns.length≤1048576) (v:Value) (roots:List Int) (U:Ints w v roots) (ct:bJ ns.length roots=true)
   (hv:roots≠[]→∀ x,jf v=some x→¬ F x) (pK:roots.length≤17592186044416) :
   aK Tryz.prog 195 [.pointer (some ⟨a,0,none⟩),v] w (K7 jm w a size bp times ns 0 roots F):=by
 have eD:=AN h;obtain ⟨va,vc,rfl,_,_⟩:=id U;obtain ⟨cv,mb,ld,g1,g2,g3,g4,g5,g6⟩:=h;have dL:=CC hw;have la:=lt_of_heap g1;have lmb:mb < w.heap.size:=eD mb g5;have vu:a≠mb:=fun hh=>by
  obtain ⟨es,c,q,_⟩:=g4;rw [← hh,g1] at q;cases q
 refine abU.calls rfl ?_;unfold JT;simp only [go_sem,simprocAttr,cell_of g1];refine bY (off:=5) rfl rfl g1 rfl (by simp) ?_;intro w1 ax ag cL;have ax:w1.heap[a]? = some (.cells #[I size,I bp,cv,I old,.map (some mb),I (IntKind.i64.wrap (times+1))] 202 (0,0)):=ax;have AZ:=rX (T3 g3 g1) ag (fun b hb=>hb.2);have C7:=dT g4 ag (fun hh=>vu hh.symm);have fJ:=T6 U ag (fun bj x U hh=>hv bj x U (hh ▸ g2));have lL:=T5 U;have s1:=ag.size;refine σ ?_;refine δ (by rfl) (KV ns hw hn w1 a _ _ cv _ _ _ _ ax (AM AZ)) ?_;rintro q w2 ⟨bo,br,R,rfl,hT,lo,lr,lC,ae⟩;have s2:=ae.size;have tW:=lt_of_heap hT.of;refine σ ?_;refine Ap ?_;intro w3 aJ ab eP;refine σ ?_;refine cK rfl ?_;intro w4 aH ai eu;have aH:w4.heap[w3.heap.size]? = some (.cells #[.pointer (some ⟨a,0,none⟩),.slice (some ⟨bo,0,none⟩) ns.length ns.length,.map (some br),I 0,.map (some w2.heap.size),.slice none 0 0] 249 (0,0)):=aH;have s3:=ab.size;have s4:=ai.size;have du:=ab.trans ai;have iY:=ae.trans du;have iF:mR w4 w3.heap.size a bo br w2.heap.size ns 0 [] (.slice none 0 0) none:=⟨aH,du.at hT.of (fun h=>h),dT aJ ai (fun h=>h),ao.nil _ _ _,fun h=>by cases h⟩;have Kh:=fJ.mod iY (fun _ _ h=>h);refine σ ?_;refine aq (by rfl) ?_
 refine (KY w4 _ a bo br _ ns hw hn 0 (Nat.zero_le _) [] _ none iF (yV ns 0) _ roots Kh ct (fun bj x U hh=>by
  have:=lL bj x U;rcases hh with hh | hh | hh
  ·omega
  ·omega
  ·cases hh) pK).mono ?_
 rintro q w5 ⟨vm5,iV,A0,AY,aB,Gj,iW,yY⟩;obtain ⟨qq,qt,rfl,_,_⟩:=iW.val;have s5:=aB.size;have A1:=qI hw roots (yV ns 0) ct
 have gX:Mod (fun _=>False) w1 w5:=iY.step aB (fun x U ah=>by
  rcases U with U | U | U
  ·omega
  ·omega
  ·cases U)
 have bZ:=gX.at ax (fun h=>h);have g35:=rX AZ gX (fun _ _ h=>h);have K8:=dT C7 gX (fun h=>h);refine σ ?_;refine aq (by rfl) ?_
 refine (TO w5 _ a bo br _ ns ns hw hn 0 (Nat.zero_le _) _ _ _ AY A1 _ _ _ _ _ _ _ bZ (AM g35) rfl dL (fun _ _ _=>rfl) (fun x U hh=>by
  have:=eD x U.1;rcases hh with hh | hh | hh
  ·omega
  ·omega
  ·rcases Gj x hh with h | h
   ·cases h
   ·omega)).mono ?_
 rintro q w6 ⟨vm6,xp,T9,ps,nN,Ge,aD,gK,K9,xx,Ua⟩;have hO:gZ ns 0 (ns.length+1) 0 (dm ns 0 [] roots)=bK ns 0 roots:=rfl;rw [hO] at Ge gK Ua;obtain ⟨xi,xj,rfl,_,_⟩:=gK.val;have s6:=aD.size;have hS6:∀ x,x < w1.heap.size→¬ (x=w3.heap.size∨x=w2.heap.size∨iV=some x):=fun x U hh=>by
  rcases hh with hh | hh | hh
  ·omega
  ·omega
  ·rcases Gj x hh with h | h
   ·cases h
   ·omega
 have oL:Mod (fun _=>False) w1 w6:=gX.step aD (fun x U ah=>(hS6 x ah U).elim);have cN:=oL.at ax (fun h=>h);have g46:=dT C7 oL (fun h=>h);have aeQ:ao w6 3 1 (.slice qq roots.length qt) ((roots.map (dD ns 0 (bK ns 0 roots))).map I) roots.length A0:=by
  have e:roots.map (dD ns 0 (dm ns 0 [] roots))=roots.map (dD ns 0 (bK ns 0 roots)):=by
   apply List.map_congr_left;intro y hy;exact (C2 (C1 ns 0 _ _ _) (yW ns 0 _ _ y hy)).symm
  rw [← e];refine iW.mod aD (fun x U hh=>?_);have h1:=yY x U;rcases hh with hh | hh | hh
  ·omega
  ·omega
  ·cases kq:iV with
   | none=>rw [kq] at hh;cases hh
   | some y=>rw [hh] at h1;exact h1.2 rfl
 refine σ ?_;refine bY (off:=2) rfl rfl cN rfl (by simp) ?_;intro w7 cm aX mN;have cm:w7.heap[a]? = some (.cells #[I size,I bp,.slice xi (bK ns 0 roots).length xj,I old,.map (some mb),I (IntKind.i64.wrap (times+1))] 202 (0,0)):=cm;simp only [go_sem,simprocAttr,cell_of cm];refine bY (off:=3) rfl rfl cm rfl (by simp) ?_;intro w8 eB ch xf;have eB:w8.heap[a]? = some (.cells #[I size,I bp,.slice xi (bK ns 0 roots).length xj,I (bK ns 0 roots).length,.map (some mb),I (IntKind.i64.wrap (times+1))] 202 (0,0)):=eB;have g48:=dT (dT g46 aX (fun hh=>vu hh.symm)) ch (fun hh=>vu hh.symm);simp only [go_sem,simprocAttr,cell_of eB];refine Rk (t:=200) (kt:=3) (et:=3) rfl rfl Tryz.underlying200 g48 ?_;intro w9 lH dO CO;refine σ ?_;have aeR:=dO.at eB vu;have tX:Mod (fun x=>x=a) w6 w8:=aX.trans ch;have su:Mod (fun x=>x=a∨x=mb) w6 w9:=(tX.az (fun x U=>.inl U)).step dO (fun x U _=>.inr U);have vv:Mod (fun x=>x=a∨x=mb) w w9:=((ag.az (S':=fun x=>x=a∨x=mb) (fun x U=>.inl U)).step oL (fun _ h _=>h.elim)).step su (fun x U _=>U);have hlen:(b9 ns 0 roots).length=(bK ns 0 roots).length:=by rw [sr];omega
 have yw:b9 ns 0 roots=ps.map Prod.fst:=by rw [Ua];simp [b9]
 refine ⟨A0,fun x=>x=a∨x=mb∨T9=some x∨∃ j,j < ps.length∧nN j=some x,?_,?_,⟨vv.az (fun x U=>by rcases U with U | U<;>(subst U;assumption)),fun x U=>?_⟩,fun x U=>?_⟩
 ·exact aeQ.mod su (fun x U hh=>by have:=yY x U;omega)
 ·rw [hlen];refine ⟨_,mb,[],aeR,.inl rfl,⟨T9,ps,nN,?_,fun x U=>.inr (.inr (.inl U)),?_,yw.symm,fun x U=>?_⟩,lH,.inr (.inl rfl),?_⟩
  ·rw [hlen];exact gK.mod su (fun x U hh=>by have:=K9 x U;omega)
  ·have:=jC xx su (fun j x hj U hh=>by have:=(xx.1 j hj).2 x U;omega);exact ⟨fun j hj=>⟨(this.1 j hj).1,fun x U=>.inr (.inr (.inr ⟨j,hj,U⟩))⟩,this.2⟩
  ·have:=su.size;rcases U with U | U | U | ⟨j,hj,U⟩
   ·omega
   ·omega
   ·have:=gK.lt U;omega
   ·have:=(xx.1 j hj).1.lt U;omega
  ·rw [← hlen];exact T1 (C6 hw (Nat.zero_le _) ct)
 ·rcases U with U | U | U | ⟨j,hj,U⟩
  ·exact .inl (U ▸ g2)
  ·exact .inl (U ▸ g5)
  ·have:=K9 x U;exact .inr (by omega)
  ·have:=(xx.1 j hj).2 x U;exact .inr (by omega)
 ·have h1:=yY x U;refine ⟨by omega,fun hh=>?_⟩;have h2:=iW.lt U;rcases hh with hh | hh | hh | ⟨j,hj,hh⟩
  ·omega
  ·omega
  ·have:=K9 x hh;omega
  ·have:=(xx.1 j hj).2 x hh;omega
def aeS (At:World→Nat→Int→Int→Nat→Int→List Nd→(Nat→Prop)→Prop) (w:World) (a:Nat) (size bp:Int) (old:Nat) (times:Int) (ns:List Nd) (roots:List Int) (F:Nat→Prop) (r:Value) (w':World):Prop:=
 (bJ ns.length roots=false→r = .tuple #[.slice none 0 0,I 212]∧Mod (fun _=>False) w w') ∧
 (bJ ns.length roots=true→∃ v,r = .tuple #[v,I 0]∧K7 At w a size bp times ns 0 roots F v w')
theorem aeT (w:World) (a:Nat) (size bp:Int) (old:Nat) (times:Int) (ns:List Nd) (F:Nat→Prop) (h:jm w a size bp old times ns F) (hw:WF ns) (hn:ns.length≤1048576) (v:Value) (roots:List Int) (U:Ints w v roots)
   (hv:roots≠[]→∀ x,jf v=some x→¬ F x) (pK:roots.length≤17592186044416) :
   aK Tryz.prog 187 [.pointer (some ⟨a,0,none⟩),v] w (aeS jm w a size bp old times ns roots F):=by
 obtain ⟨va,vc,rfl,_,_⟩:=id U;refine abN.calls rfl ?_;unfold JM;refine σ ?_;refine δ (by rfl) (AO w a ns.length old _ roots (xg h) U) ?_;rintro r w1 ⟨rfl,ag⟩;refine σ ?_;refine aY rfl (fun hc=>?_) (fun hc=>?_)
 ·have bz:bJ ns.length roots=false:=by simpa using hc
  refine σ ?_;exact ⟨fun _=>⟨rfl,ag⟩,fun h=>by rw [bz] at h;cases h⟩
 have bz:bJ ns.length roots=true:=by simpa using hc
 refine σ ?_;refine δ (by rfl) (T8 w1 a size bp old times ns F (kM h ag (fun _ _ h=>h)) hw hn _ roots (U.mod ag (fun _ _ h=>h)) bz hv pK) ?_;rintro r w2 ⟨fq,F',o1,o2,o3,o4⟩;have s1:=ag.size;obtain ⟨qa,qc,rfl,_,_⟩:=o1.val;refine σ ?_;refine ⟨fun h=>(by rw [bz] at h;cases h),fun _=>⟨_,rfl,fq,F',o1,o2,⟨(ag.az (fun _ h=>h.elim)).trans o3.1,fun x U=>(o3.2 x U).imp (fun h=>h) (fun h=>by omega)⟩,fun x U=>⟨by have:=o4 x U;omega,(o4 x U).2⟩⟩⟩
end
section
open Go Go.W
theorem aeU {ps:List (Nd×Value)} {p:Nat} (hp:p < ps.length) {nd:Nd} (hk:nd.kind=ps[p].1.kind) (hn:nd.num=ps[p].1.num):flat (ps.set p (nd,ps[p].2))=flat ps:=by
 unfold flat;rw [List.flatMap_def,List.flatMap_def]
 congr 1
 apply List.ext_getElem?;intro j;simp only [List.getElem?_map,List.getElem?_set]
 split
 ·rename_i h;subst h;simp [nc,hk,hn,hp]
 ·rfl
theorem aeV {w:World} {ps:List (Nd×Value)} {fp:Nat→Option Nat} {F:Nat→Prop} (h:kn w ps fp F) (k:Nat):kn w (ps.take k) fp F:=
 ⟨fun i hi=>by
  have bO:i < ps.length:=by rw [List.length_take] at hi;omega
  rw [List.getElem_take];exact h.1 i bO,fun i j b hi hj=>h.2 i j b (by rw [List.length_take] at hi;omega) (by rw [List.length_take] at hj;omega)⟩
theorem aeW {w:World} {ps qs:List (Nd×Value)} {fp fq:Nat→Option Nat} {F:Nat→Prop} (h:kn w ps fp F) (k:kn w qs fq F) (hd:∀ i j b,i < ps.length→j < qs.length→fp i=some b→fq j≠some b) :
   kn w (ps++qs) (fun i=>if i < ps.length then fp i else fq (i - ps.length)) F:=by
 refine ⟨fun i hi=>?_,fun i j b hi hj eA h1 h2=>?_⟩
 ·by_cases jD:i < ps.length
  ·rw [List.getElem_append_left jD];simp only [if_pos jD];exact h.1 i jD
  ·rw [List.getElem_append_right (by omega)];simp only [if_neg jD];exact k.1 _ (by rw [List.length_append] at hi;omega)
 ·rw [List.length_append] at hi hj;simp only at h1 h2;by_cases jD:i < ps.length
  ·rw [if_pos jD] at h1;by_cases jE:j < ps.length
   ·rw [if_pos jE] at h2;exact h.2 i j b jD jE eA h1 h2
   ·rw [if_neg jE] at h2;exact hd i _ b jD (by omega) h1 h2
  ·rw [if_neg jD] at h1;by_cases jE:j < ps.length
   ·rw [if_pos jE] at h2;exact hd j _ b jE (by omega) h2 h1
   ·rw [if_neg jE] at h2;exact k.2 _ _ b (by omega) (by omega) (by omega) h1 h2
theorem Ub (ps:List (Nd×Value)):∀ k,(flat ps).take (k*3)=flat (ps.take k):=by
 induction ps with
 | nil=>intro k;simp [flat]
 | cons p ps ih=>
  intro k;cases k with
  | zero=>simp [flat]
  | succ k=>
   have e:flat (p::ps)=I p.1.kind::I p.1.num::p.2::flat ps:=by simp [flat,nc]
   have e':flat (p::ps.take k)=I p.1.kind::I p.1.num::p.2::flat (ps.take k):=by simp [flat,nc]
   rw [e,show (k+1)*3=k*3+3 by omega,List.take_succ_cons,List.take_succ_cons,List.take_succ_cons,ih,List.take_succ_cons,e']
theorem aeX {w:World} {b c n:Nat} {ps:List (Nd×Value)} {fp:Option Nat} (h:ao w 104 3 (.slice (some ⟨b,0,none⟩) n c) (flat ps) n fp) {k:Nat} (hk:k≤n):ao w 104 3 (.slice (some ⟨b,0,none⟩) k k) (flat (ps.take k)) k fp:=by
 have hl:=h.1;rw [mJ] at hl;have hn:ps.length=n:=by omega
 refine ⟨by rw [mJ,List.length_take];omega,?_⟩;rcases h.2 with ⟨h1,_⟩ | ⟨b',c',sp,h1,h2,h3,h4,h5⟩
 ·cases h1
 ·cases h1;refine .inr ⟨b,k,(flat ps).drop (k*3)++sp,rfl,h2,?_,?_,Nat.le_refl _⟩
  ·rw [← Ub,← List.append_assoc,List.take_append_drop];exact h3
  ·rw [← Ub,← List.append_assoc,List.take_append_drop,List.length_append,mJ];omega
def cZ (ns:List Nd) (old:Nat):List Nat:=(List.range old).filter fun p=>(ak ns p).args.any (fL old)
theorem C8 {ns:List Nd} {old p:Nat}:p∈cZ ns old↔p < old∧∃ a∈(ak ns p).args,(old:Int)≤a:=by
 simp [cZ,fL]
theorem Uc {ns:List Nd} {old:Nat} {ld:List (Int×Int)} (h:yR ns old ld):∀ k∈ld.map (fun q=>q.1),0≤k∧k < (old:Int):=by
 intro k hk;obtain ⟨p,rfl,hp,_⟩:=(h.2 k).1 hk;omega
theorem aeY {ns:List Nd} {old:Nat} {ld:List (Int×Int)} (h:yR ns old ld):ld.length≤old:=by
 have hr:=Uc h;have bQ:((ld.map (fun q=>q.1)).map Int.toNat).Nodup:=by
  unfold List.Nodup;rw [List.pairwise_map];refine List.Pairwise.imp_of_mem ?_ h.1;intro a b ha hb gT hh;have:=hr a ha;have:=hr b hb;exact gT (by omega)
 have:=AA old _ bQ (fun x U=>by
  obtain ⟨k,hk,rfl⟩:=List.mem_map.1 U;have:=hr k hk
  omega)
 simpa using this
theorem aeZ {ns:List Nd} {old:Nat} {ld:List (Int×Int)} (h:yR ns old ld):wR ld=(cZ ns old).map fun p:Nat=>(p:Int):=by
 have hs:=List.pairwise_mergeSort (le:=fun x y:Int=>decide (x≤y)) (by intro a b c;simp;omega) (by intro a b;simp;omega) (ld.map (fun q=>q.1));have bQ:((cZ ns old).map fun p:Nat=>(p:Int)).Nodup:=by
  unfold List.Nodup;rw [List.pairwise_map];refine ((List.nodup_range (n:=old)).sublist List.filter_sublist).imp ?_;intro a b gT hh;exact gT (by omega)
 refine List.Perm.eq_of_pairwise (le:=fun x y:Int=>x≤y) (fun a b _ _ h1 h2=>by omega) (hs.imp (by intro a b h;simpa using h)) ?_ ?_
 ·rw [List.pairwise_map];refine ((List.pairwise_lt_range (n:=old)).sublist List.filter_sublist).imp ?_;intro a b gT;omega
 ·refine (List.mergeSort_perm _ _).trans ?_;rw [List.perm_ext_iff_of_nodup h.1 bQ];intro k;rw [h.2 k];simp only [List.mem_map,C8];constructor
  ·rintro ⟨p,rfl,h1,h2⟩;exact ⟨p,⟨h1,h2⟩,rfl⟩
  ·rintro ⟨p,⟨h1,h2⟩,rfl⟩;exact ⟨p,rfl,h1,h2⟩
theorem ae0 {ns:List Nd} {old p:Nat} (h:(ak ns p).args.any (fL old)=false):(ak ns p).args.filter (fL old)=[]:=by
 rw [List.filter_eq_nil_iff];intro a ha hh;rw [List.any_eq_false] at h;exact h a ha hh
theorem ae1 (ns:List Nd) (old:Nat) (out:List Nat):(cZ ns old).foldl (yX ns old) out=lK ns old old out:=by
 unfold cZ lK;rw [List.foldl_filter]
 congr 1
 funext o p
 split
 ·rfl
 ·rename_i h;unfold yX;rw [ae0 (by simpa using h)];rfl
theorem ae2 {ns:List Nd} {old p:Nat} (h:p < old) (hn:p∉cZ ns old) (O:List Nat):kO ns old O p=(ak ns p).args:=by
 have hq:∀ q∈(ak ns p).args,¬ fL old q=true:=fun q hq hh=>hn (C8.2 ⟨h,q,hq,by simpa [fL] using hh⟩)
 unfold kO
 conv=>rhs;rw [← List.map_id' (ak ns p).args]
 apply List.map_congr_left;intro q hqm;rw [if_neg (hq q hqm)]
def eY (ns:List Nd) (old:Nat) (O:List Nat) (M:List Nat):List Nd:=(List.range ns.length).map fun p=>if p∈M then ⟨(ak ns p).kind,(ak ns p).num,kO ns old O p⟩ else ak ns p
theorem qJ (ns:List Nd) (old:Nat) (O M:List Nat):(eY ns old O M).length=ns.length:=by simp [eY]
theorem vx (ns:List Nd) (old:Nat) (O M:List Nat) {p:Nat} (hp:p < ns.length):ak (eY ns old O M) p=if p∈M then ⟨(ak ns p).kind,(ak ns p).num,kO ns old O p⟩ else ak ns p:=by
 simp [eY,ak,hp]
theorem yZ {l l':List Nd} (hl:l.length=l'.length) (h:∀ p,p < l.length→ak l p=ak l' p):l=l':=by
 apply List.ext_getElem hl;intro i h1 h2;have:=h i h1
 simpa [ak,h1,h2] using this
theorem tY (l:List Nd) (p i:Nat) (nd:Nd) (hp:p < l.length):ak (l.set p nd) i=if i=p then nd else ak l i:=by
 unfold ak;rw [List.getD_eq_getElem?_getD,List.getD_eq_getElem?_getD,List.getElem?_set];by_cases h:p=i
 ·subst h;simp [hp]
 ·rw [if_neg h,if_neg (fun hh=>h hh.symm)]
theorem ae3 (ns:List Nd) (old:Nat) (O:List Nat):eY ns old O []=ns:=by
 refine yZ (qJ _ _ _ _) (fun p hp=>?_);rw [qJ] at hp;rw [vx _ _ _ _ hp,if_neg (by simp)]
theorem ae4 (ns:List Nd) (old:Nat) (O M:List Nat) {p:Nat} (hp:p < ns.length):eY ns old O (M++[p])=(eY ns old O M).set p ⟨(ak ns p).kind,(ak ns p).num,kO ns old O p⟩:=by
 refine yZ (by rw [List.length_set,qJ,qJ]) (fun i hi=>?_);rw [qJ] at hi;rw [vx _ _ _ _ hi,tY _ _ _ _ (by rw [qJ];exact hp),vx _ _ _ _ hi];by_cases h:i=p
 ·subst h;simp
 ·simp [h]
def lM (ns l:List Nd) (old:Nat) (left R:List (Int×Int)):List Nd:=
 (List.range ns.length).map fun p=>if p < old∧(p:Int)∈R.map (fun q=>q.1)∧(p:Int)∉left.map (fun q=>q.1) then ⟨(ak ns p).kind,(ak ns p).num,[(p:Int)]⟩ else ak l p
theorem oO (ns l:List Nd) (old:Nat) (left R:List (Int×Int)):(lM ns l old left R).length=ns.length:=by simp [lM]
theorem vy (ns l:List Nd) (old:Nat) (left R:List (Int×Int)) {p:Nat} (hp:p < ns.length):ak (lM ns l old left R) p=if p < old∧(p:Int)∈R.map (fun q=>q.1)∧(p:Int)∉left.map (fun q=>q.1) then ⟨(ak ns p).kind,(ak ns p).num,[(p:Int)]⟩ else ak l p:=by
 conv=>lhs;unfold ak lM
 rw [List.getD_eq_getElem?_getD,List.getElem?_map,List.getElem?_range hp];rfl
theorem ae5 (ns l:List Nd) (hl:l.length=ns.length) (old:Nat) (R:List (Int×Int)):lM ns l old R R=l:=by
 refine yZ (by rw [oO,hl]) (fun p hp=>?_);rw [oO] at hp;rw [vy _ _ _ _ _ hp,if_neg (fun h=>h.2.2 h.2.1)]
end
section
open Go Go.W
def vz (w:World) (cv:Value) (ns:List Nd) (F:Nat→Prop) (p b c:Nat) (v:Value) (jH:Option Nat):Prop:=
 ∃ ps fp,cv = .slice (some ⟨b,0,none⟩) ns.length c∧ao w 104 3 cv (flat ps) ns.length (some b)∧F b∧kn w ps fp F∧ps.map Prod.fst=ns∧(∀ x,F x→x < w.heap.size)∧p < ps.length∧(∀ q,ps[p]? = some q→q.2=v)∧fp p=jH
theorem Ud {w:World} {cv:Value} {ns:List Nd} {F:Nat→Prop} (h:kL 104 w cv ns F) {p:Nat} (hp:p < ns.length):∃ b c v jH,vz w cv ns F p b c v jH:=by
 obtain ⟨dY,ps,fp,h1,h2,h3,h4,h5⟩:=h;have jw:ps.length=ns.length:=by rw [← h4];simp
 obtain ⟨bc,cc,uY,rfl,rfl,gc,fH,lY⟩:=h1.pos (by omega);have tU:p < ps.length:=by omega
 exact ⟨bc,cc,ps[p].2,fp p,ps,fp,rfl,h1,h2 _ rfl,h3,h4,h5,tU,fun q hq=>by rw [List.getElem?_eq_getElem tU] at hq;cases hq;rfl,rfl⟩
theorem Ue {w:World} {cv:Value} {ns:List Nd} {F:Nat→Prop} {p b c:Nat} {v:Value} {jH:Option Nat} (h:vz w cv ns F p b c v jH):kL 104 w cv ns F:=by
 obtain ⟨ps,fp,h1,h2,h3,h4,h5,h6,h7,h8,h9⟩:=h;exact ⟨some b,ps,fp,h2,fun x U=>by cases U;exact h3,h4,h5,h6⟩
theorem ae6 {w w':World} {cv:Value} {ns:List Nd} {F S:Nat→Prop} {p b c:Nat} {v:Value} {jH:Option Nat} (h:vz w cv ns F p b c v jH) (hm:Mod S w w') (hd:∀ x,F x→¬ S x):vz w' cv ns F p b c v jH:=by
 obtain ⟨ps,fp,h1,h2,h3,h4,h5,h6,h7,h8,h9⟩:=h;exact ⟨ps,fp,h1,h2.mod hm (fun x U=>by cases U;exact hd b h3),h3,jC h4 hm (fun i x hi U=>hd x ((h4.1 i hi).2 x U)),h5,fun x U=>Nat.lt_of_lt_of_le (h6 x U) hm.size,h7,h8,h9⟩
theorem La {w:World} {cv:Value} {ns:List Nd} {F:Nat→Prop} {p b c:Nat} {v:Value} {jH:Option Nat} (h:vz w cv ns F p b c v jH) :
   cv = .slice (some ⟨b,0,none⟩) ns.length c∧F b∧w.cell? ⟨b,p*3,none⟩=some (I (ak ns p).kind)∧w.cell? ⟨b,p*3+1,none⟩=some (I (ak ns p).num)∧w.cell? ⟨b,p*3+2,none⟩=some v ∧
    ao w 3 1 v ((ak ns p).args.map I) (ak ns p).args.length jH∧(∀ x,jH=some x→F x∧x≠b):=by
 obtain ⟨ps,fp,h1,h2,h3,h4,h5,h6,h7,h8,h9⟩:=h;have jw:ps.length=ns.length:=by rw [← h5];simp
 obtain ⟨bc,cc,uY,e1,e2,gc,fH,lY⟩:=h2.pos (by omega);cases e2;have bQ:ps[p].1=ak ns p:=by
  have e1:ak ns p=ns[p]'(by omega):=by simp [ak,show p < ns.length by omega]
  rw [e1];simp [← h5]
 have hv:=h8 _ (List.getElem?_eq_getElem h7);obtain ⟨o1,o2⟩:=h4.1 p h7;have c0:=tM gc h7 (k:=0) (by omega);have c1:=tM gc h7 (k:=1) (by omega);have c2:=tM gc h7 (k:=2) (by omega);simp only [nc,Nat.add_zero,bQ,hv] at c0 c1 c2;rw [bQ,hv,h9] at o1;rw [h9] at o2;exact ⟨h1,h3,c0,c1,c2,o1,fun x U=>⟨o2 x U,fun hh=>tP o1 h2 (by decide) U (by rw [hh])⟩⟩
theorem Uf {w w':World} {cv:Value} {ns:List Nd} {F:Nat→Prop} {p b c:Nat} {v:Value} {jH:Option Nat} (h:vz w cv ns F p b c v jH) {args':List Int} (hm:Mod (fun x=>jH=some x) w w') (ho:ao w' 3 1 v (args'.map I) args'.length jH) :
   vz w' cv (ns.set p ⟨(ak ns p).kind,(ak ns p).num,args'⟩) F p b c v jH:=by
 obtain ⟨ps,fp,h1,h2,h3,h4,h5,h6,h7,h8,h9⟩:=h;have jw:ps.length=ns.length:=by rw [← h5];simp
 have hv:=h8 _ (List.getElem?_eq_getElem h7);have bQ:ps[p].1=ak ns p:=by
  have e1:ak ns p=ns[p]'(by omega):=by simp [ak,show p < ns.length by omega]
  rw [e1];simp [← h5]
 obtain ⟨o1,o2⟩:=h4.1 p h7;rw [h9] at o1 o2;refine ⟨ps.set p (⟨(ak ns p).kind,(ak ns p).num,args'⟩,ps[p].2),fp,by rw [List.length_set];exact h1,?_,h3,⟨fun i hi=>?_,fun i j x hi hj=>h4.2 i j x (by simpa using hi) (by simpa using hj)⟩,?_,fun x U=>Nat.lt_of_lt_of_le (h6 x U) hm.size,by simpa using h7,fun q hq=>?_,h9⟩
 ·rw [aeU h7 (by rw [bQ]) (by rw [bQ]),List.length_set];exact h2.mod hm (fun x U hh=>tP o1 h2 (by decide) hh U)
 ·have bO:i < ps.length:=by simpa using hi
  rw [List.getElem_set];by_cases jD:p=i
  ·subst jD;rw [if_pos rfl,h9];rw [← hv] at ho;exact ⟨ho,o2⟩
  ·rw [if_neg jD];exact ⟨(h4.1 i bO).1.mod hm (fun x U hh=>h4.2 i p x bO h7 (fun e=>jD e.symm) U (by rw [h9];exact hh)),(h4.1 i bO).2⟩
 ·rw [List.map_set,h5]
 ·rw [List.getElem?_set,if_pos rfl] at hq;rw [if_pos h7] at hq;cases hq;exact hv
def lN (ns:List Nd) (old:Nat) (O:List Nat) (l:List Int) (i:Nat):List Int:=(l.take i).map (fun q=>if fL old q=true then dD ns old O q else q)++l.drop i
theorem Lb (ns:List Nd) (old:Nat) (O:List Nat) (l:List Int) (i:Nat) (h:i≤l.length):(lN ns old O l i).length=l.length:=by simp [lN];omega
theorem ae7 (ns:List Nd) (old:Nat) (O:List Nat) (l:List Int):lN ns old O l 0=l:=by simp [lN]
theorem ae8 (ns:List Nd) (old:Nat) (O:List Nat) (p:Nat):lN ns old O (ak ns p).args (ak ns p).args.length=kO ns old O p:=by simp [lN,kO]
theorem Ug (ns:List Nd) (old:Nat) (O:List Nat) (l:List Int) {i:Nat} (h:i < l.length):(lN ns old O l i)[i]? = some l[i]:=by
 unfold lN;rw [List.getElem?_append_right (by simp;omega)];have:i - ((l.take i).map (fun q=>if fL old q=true then dD ns old O q else q)).length=0:=by simp;omega
 rw [this,List.getElem?_drop];simp [h]
theorem Uh (ns:List Nd) (old:Nat) (O:List Nat) (l:List Int) {i:Nat} (h:i < l.length):(lN ns old O l i).set i (if fL old l[i]=true then dD ns old O l[i] else l[i])=lN ns old O l (i+1):=by
 unfold lN;have e1:((l.take i).map (fun q=>if fL old q=true then dD ns old O q else q)).length=i:=by simp;omega
 rw [List.set_append,if_neg (by omega),e1,Nat.sub_self,List.drop_eq_getElem_cons h,List.set_cons_zero,List.take_succ_eq_append_getElem h,List.map_append];simp
theorem ae9 (ns:List Nd) (old:Nat) (O:List Nat) (l:List Int) {i:Nat} (h:i < l.length) (hy:fL old l[i]=false):lN ns old O l (i+1)=lN ns old O l i:=by
 rw [← Uh ns old O l h,hy];have:=Ug ns old O l h;simp only [Bool.false_eq_true,if_false];apply List.ext_getElem?;intro j;rw [List.getElem?_set]
 split
 ·rename_i hj;subst hj;rw [this]
  split
  ·rfl
  ·rename_i hh;exact absurd (by rw [Lb _ _ _ _ _ (by omega)];exact h) hh
 ·rfl
theorem Ui {l:List Int} {i:Nat} (h:i < l.length) (p:Int→Bool):(l.take (i+1)).filter p=(l.take i).filter p++if p l[i]=true then [l[i]] else []:=by
 rw [List.take_succ_eq_append_getElem h,List.filter_append]
 congr 1
 simp [List.filter_cons]
theorem Uj (ns:List Nd) (fr:Nat) (out:List Nat) (a b:List Int):dm ns fr out (a++b)=dm ns fr (dm ns fr out a) b:=by unfold dm;rw [List.foldl_append]
theorem Gk {w:World} {v:Value} {xs:List Int} {n:Nat} {fp:Option Nat} (h:ao w 3 1 v (xs.map I) n fp) {i:Nat} (hi:i < n) :
   ∃ b c cs,v = .slice (some ⟨b,0,none⟩) n c∧fp=some b∧w.heap[b]? = some (.cells (cs:List Value).toArray 3 (0,0))∧i < cs.length∧(∀ (j:Nat) (y:Int),xs[j]? = some y→cs[j]? = some (I y)) ∧
    ∀ w' y,w'.heap[b]? = some (.cells (cs.set i (I y)).toArray 3 (0,0))→ao w' 3 1 v ((xs.set i y).map I) n fp:=by
 have hl:=h.1;rw [List.length_map] at hl;obtain ⟨b,c,cg,rfl,rfl,hb,fH,lY⟩:=h.pos (by omega);refine ⟨b,c,xs.map I++cg,rfl,rfl,hb,by simp;omega,fun j y hj=>?_,fun w' y hy=>⟨by simpa using hl,.inr ⟨b,c,cg,rfl,rfl,?_,?_,fH⟩⟩⟩
 ·rw [List.getElem?_append_left (by have:=(List.getElem?_eq_some_iff.1 hj).1;simpa using this),List.getElem?_map,hj];rfl
 ·rw [hy,List.set_append,if_pos (by simp;omega)];rw [List.map_set]
 ·simpa using lY
theorem ae' {w:World} {cv:Value} {ns:List Nd} {F:Nat→Prop} (h:kL 104 w cv ns F) {a:Nat} {l:List (Int×Int)} (ha:gi w a l):kL 104 w cv ns (fun x=>F x∧x≠a):=by
 obtain ⟨dY,ps,fp,h1,h2,h3,h4,h5⟩:=h;have bj:∀ {T sz n:Nat} {v:Value} {xs:List Value} {f:Option Nat},ao w T sz v xs n f→∀ b,f=some b→b≠a:=fun ho b hb hh=>by
  obtain ⟨cs,hc⟩:=tO ho hb;obtain ⟨es,c,q,_⟩:=ha;rw [hh,q] at hc;cases hc
 exact ⟨dY,ps,fp,h1,fun b hb=>⟨h2 b hb,bj h1 b hb⟩,⟨fun i hi=>⟨(h3.1 i hi).1,fun b hb=>⟨(h3.1 i hi).2 b hb,bj (h3.1 i hi).1 b hb⟩⟩,h3.2⟩,h4,fun b hb=>h5 b hb.1⟩
theorem Uk {w:World} {b x:Nat} {l:List (Int×Int)} {cs:Array Value} {T:Nat} {fz:Nat×Nat} (h:gi w b l) (U:w.heap[x]? = some (.cells cs T fz)):b≠x:=fun hh=>by
 obtain ⟨es,c,q,_⟩:=h;rw [hh,U] at q;cases q
theorem afa {P:Program} {N id nC:Nat} {a:IR} {next:Env→World→Prop} {Q:gI} {ρ:Env} {w:World} (j8:Env→World→Prop) (h:cM P N a (jz id (jz nC (lv j8 Q))) ρ w) (hk:∀ ρ w,j8 ρ w→next ρ w):cM P N a (jz id (jz nC (lv next Q))) ρ w:=
 yy a _ _ (Am (Am (Al hk (fun _ _ _ h=>h)))) ρ w h
theorem afb (ns:List Nd) (old:Nat):(cZ ns old).length≤old:=by
 have:=List.length_filter_le (fun p=>(ak ns p).args.any (fL old)) (List.range old);rw [List.length_range] at this;exact this
theorem afc (ns:List Nd) (old:Nat) (cur:List Nat) (l:List Int) (j:Nat):dm ns old cur ((l.take j).filter (fL old)) <+: dm ns old cur (l.filter (fL old)):=by
 conv=>rhs;rw [← List.take_append_drop j l,List.filter_append,Uj]
 exact xu ns old _ _
theorem afd {L:List Int} (hn:L.Nodup) {i:Nat} (hi:i < L.length) (x:Int):x∈L.eraseIdx i↔x∈L∧x≠L[i]:=by
 rw [List.mem_eraseIdx_iff_getElem];constructor
 ·rintro ⟨j,hj,bj,rfl⟩;exact ⟨List.getElem_mem hj,fun hh=>bj ((List.getElem_inj hn (h₀:=hj) (h₁:=hi)).1 hh)⟩
 ·rintro ⟨hm,bj⟩;obtain ⟨j,hj,rfl⟩:=List.getElem_of_mem hm;exact ⟨j,hj,fun hh=>bj (by subst hh;rfl),rfl⟩
theorem Ul {left:List (Int×Int)} (hn:(left.map (fun q=>q.1)).Nodup) {i:Nat} (hi:i < left.length):((left.eraseIdx i).map (fun q=>q.1)).Nodup∧∀ x:Int,x∈(left.eraseIdx i).map (fun q=>q.1)↔x∈left.map (fun q=>q.1)∧x≠left[i].1:=by
 have e:(left.eraseIdx i).map (fun q=>q.1)=(left.map (fun q=>q.1)).eraseIdx i:=Go.ChangeMaps.map_eraseIdx _ _ _;rw [e];refine ⟨hn.sublist (List.eraseIdx_sublist _ _),fun x=>?_⟩;rw [afd hn (by simpa using hi)];simp
theorem afe {ns l:List Nd} {old:Nat} {left R:List (Int×Int)} (hn:(left.map (fun q=>q.1)).Nodup) {i p:Nat} (hi:i < left.length) (hp:left[i].1=(p:Int)) (hR:(p:Int)∈R.map (fun q=>q.1)) (iZ:p < ns.length) :
   lM ns l old (left.eraseIdx i) R=if p < old then (lM ns l old left R).set p ⟨(ak ns p).kind,(ak ns p).num,[(p:Int)]⟩ else lM ns l old left R:=by
 obtain ⟨h1,h2⟩:=Ul hn hi;have hm:(p:Int)∈left.map (fun q=>q.1):=by rw [← hp];exact List.mem_map.2 ⟨_,List.getElem_mem hi,rfl⟩
 by_cases lE:p < old
 ·rw [if_pos lE];refine yZ (by simp [oO]) (fun j hj=>?_);rw [oO] at hj;rw [vy _ _ _ _ _ hj,tY _ _ _ _ (by rw [oO];exact iZ),vy _ _ _ _ _ hj];by_cases jE:j=p
  ·subst jE;rw [if_pos ⟨lE,hR,fun hh=>((h2 _).1 hh).2 hp.symm⟩,if_pos rfl]
  ·rw [if_neg jE];have e:(j < old∧(j:Int)∈R.map (fun q=>q.1)∧(j:Int)∉(left.eraseIdx i).map (fun q=>q.1))↔(j < old∧(j:Int)∈R.map (fun q=>q.1)∧(j:Int)∉left.map (fun q=>q.1)):=by
    rw [h2];have:(j:Int)≠left[i].1:=by rw [hp];omega
    simp [this]
   simp only [e]
 ·rw [if_neg lE];refine yZ (by simp [oO]) (fun j hj=>?_);rw [oO] at hj;rw [vy _ _ _ _ _ hj,vy _ _ _ _ _ hj];have e:(j < old∧(j:Int)∈R.map (fun q=>q.1)∧(j:Int)∉(left.eraseIdx i).map (fun q=>q.1))↔(j < old∧(j:Int)∈R.map (fun q=>q.1)∧(j:Int)∉left.map (fun q=>q.1)):=by
   rw [h2];constructor
   ·rintro ⟨c1,c2,c3⟩;exact ⟨c1,c2,fun hh=>c3 ⟨hh,by rw [hp];omega⟩⟩
   ·rintro ⟨c1,c2,c3⟩;exact ⟨c1,c2,fun hh=>c3 hh.1⟩
  simp only [e]
theorem aff {w:World} {ca:Option Addr} {c n:Nat} {ps:List (Nd×Value)} {fp:Option Nat} (h:ao w 104 3 (.slice ca n c) (flat ps) n fp) {k:Nat} (hk:k≤n):ao w 104 3 (.slice ca k k) (flat (ps.take k)) k fp:=by
 rcases h.2 with ⟨h1,h2,h3⟩ | ⟨b',c',sp,h1,h2,h3,h4,h5⟩
 ·cases h1;obtain rfl:k=0:=by omega
  subst h3;exact ao.nil _ _ _
 ·cases h1;exact aeX h hk
theorem afg {w:World} {ps:List (Nd×Value)} {fp:Nat→Option Nat} {F:Nat→Prop} (h:kn w ps fp F):∀ u∈flat ps,u.oneCell'=true:=by
 intro u hu;obtain ⟨q,hq,hu⟩:=List.mem_flatMap.1 hu;obtain ⟨i,hi,rfl⟩:=List.getElem_of_mem hq;obtain ⟨va,vc,hv,_⟩:=(h.1 i hi).1.val;simp only [nc,List.mem_cons,List.not_mem_nil,or_false] at hu;rcases hu with rfl | rfl | rfl
 ·rfl
 ·rfl
 ·rw [hv];rfl
theorem afh {l:List Nd} {P:Nd→Prop} (h:∀ p,p < l.length→P (ak l p)):∀ nd∈l,P nd:=by
 intro nd bQ;obtain ⟨i,hi,rfl⟩:=List.getElem_of_mem bQ;have:=h i hi
 simpa [ak,hi] using this
theorem afi {ns:List Nd} (hw:WF ns) {old:Nat} (ho:old≤ns.length) (O:List Nat) {w:World} {bo br:Nat} {R:List (Int×Int)} (hT:KU w bo br ns R):(lM ns (eY ns old O (cZ ns old)) old [] R).take old=(List.range old).map (nO ns old O):=by
 refine yZ (by simp [oO];omega) (fun p hp=>?_);rw [List.length_take,oO] at hp;have iZ:p < ns.length:=by omega
 have lE:p < old:=by omega
 have e1:ak ((lM ns (eY ns old O (cZ ns old)) old [] R).take old) p=ak (lM ns (eY ns old O (cZ ns old)) old [] R) p:=by
  unfold ak;rw [List.getD_eq_getElem?_getD,List.getD_eq_getElem?_getD,List.getElem?_take,if_pos lE]
 have e2:ak ((List.range old).map (nO ns old O)) p=nO ns old O p:=by simp [ak,lE]
 rw [e1,e2,vy _ _ _ _ _ iZ,vx _ _ _ _ iZ];have hk:=hT.keys (p:Int);by_cases hr:ind ns p=true∧over ns p=p
 ·rw [if_pos ⟨lE,hk.2 ⟨p,iZ,by rw [hr.2],by rw [hr.2];exact hr.1⟩,by simp⟩];simp [nO,hr]
 ·rw [if_neg]
  ·unfold nO;rw [if_neg hr]
   split
   ·rfl
   ·rename_i hl;rw [ae2 lE hl]
  ·rintro ⟨_,h2,_⟩;obtain ⟨j,hj,e,hi⟩:=hk.1 h2;have e':p=over ns j:=by omega
   rw [e'] at hr;exact hr ⟨hi,rP (fu hw) hj⟩
theorem afj {ns:List Nd} (dL:∀ nd∈ns,nd.args.length≤8) {old:Nat} (O:List Nat) (R:List (Int×Int)):∀ nd∈lM ns (eY ns old O (cZ ns old)) old [] R,nd.args.length≤8:=by
 refine afh (fun p hp=>?_);rw [oO] at hp;have:=dL (ak ns p) (by simp [ak,hp]);rw [vy _ _ _ _ _ hp,vx _ _ _ _ hp]
 split
 ·simp
 ·split
  ·simpa [kO] using this
  ·exact this
theorem afk {ns:List Nd} {old:Nat} (O:List Nat) (R:List (Int×Int)) {x:Nat} (U:old≤x) (CH:x < ns.length):ak (lM ns (eY ns old O (cZ ns old)) old [] R) x=ak ns x:=by
 rw [vy _ _ _ _ _ CH,if_neg (by omega),vx _ _ _ _ CH,if_neg (fun hh=>by have:=(C8.1 hh).1;omega)]
def ma (ns:List Nd) (old:Nat) (O1:List Nat) (k:Nat):List Nat:=((cZ ns old).take k).foldl (yX ns old) O1
theorem Um (ns:List Nd) (old:Nat) (O1:List Nat):ma ns old O1 0=O1:=by simp [ma]
theorem Lc (ns:List Nd) (old:Nat) (O1:List Nat) {k:Nat} (hk:k < (cZ ns old).length):ma ns old O1 (k+1)=dm ns old (ma ns old O1 k) ((ak ns (cZ ns old)[k]).args.filter (fL old)):=by
 unfold ma;rw [List.take_succ_eq_append_getElem hk,List.foldl_append];rfl
theorem Un (ns:List Nd) (old:Nat) (O1:List Nat):ma ns old O1 (cZ ns old).length=lK ns old old O1:=by
 unfold ma;rw [List.take_length];exact ae1 ns old O1
theorem afl (ns:List Nd) (old:Nat) (O1:List Nat) {k:Nat} (hk:k≤(cZ ns old).length):ma ns old O1 k <+: lK ns old old O1:=by
 have key:∀ (l:List Nat) (o:List Nat),o <+: l.foldl (yX ns old) o:=by
  intro l
  induction l with
  | nil=>intro o;exact List.prefix_rfl
  | cons x l ih=>intro o;exact (K3 ns old o x).trans (ih _)
 rw [← Un];unfold ma;rw [List.take_length]
 conv=>rhs;rw [← List.take_append_drop k (cZ ns old),List.foldl_append]
 exact key _ _
theorem afm {ns:List Nd} (hw:WF ns) {old:Nat} (ho:old≤ns.length) {O1:List Nat} (h:jW ns old O1):∀ k,k≤(cZ ns old).length→jW ns old (ma ns old O1 k):=by
 intro k
 induction k with
 | zero=>intro _;rw [Um];exact h
 | succ k ih=>
  intro hk;rw [Lc ns old O1 (by omega)];have hm:=(C8 (ns:=ns) (old:=old)).1 (List.getElem_mem (show k < (cZ ns old).length by omega));exact qI hw _ (ih (by omega)) (K2 (jh hw (by omega)).2 _)
end
section
open Go Go.W
theorem afn (w:World) (a:Nat) (size bp:Int) (old:Nat) (times:Int) (ns:List Nd) (F:Nat→Prop) (h:jm w a size bp old times ns F) (ho:old≤ns.length) (hw:WF ns) (hn:ns.length≤1048576) (v:Value) (roots:List Int) (U:Ints w v roots) (ct:bJ ns.length roots=true)
   (hv:roots≠[]→∀ x,jf v=some x→¬ F x) (pK:roots.length≤17592186044416) :
   aK Tryz.prog 196 [.pointer (some ⟨a,0,none⟩),v] w (K7 jm w a size bp times ns old roots F):=by
 have eD:=AN h;obtain ⟨va,vc,rfl,_,_⟩:=id U;obtain ⟨cv,mb,ld,g1,g2,g3,g4,g5,g6⟩:=h;have dL:=CC hw;have la:=lt_of_heap g1;have lmb:mb < w.heap.size:=eD mb g5;have vu:a≠mb:=fun hh=>by
  obtain ⟨es,c,q,_⟩:=g4;rw [← hh,g1] at q;cases q
 refine abV.calls rfl ?_;unfold JU;simp only [go_sem,simprocAttr,cell_of g1];refine bY (off:=5) rfl rfl g1 rfl (by simp) ?_;intro w1 ax ag cL;have ax:w1.heap[a]? = some (.cells #[I size,I bp,cv,I old,.map (some mb),I (IntKind.i64.wrap (times+1))] 202 (0,0)):=ax;have AZ:=rX (T3 g3 g1) ag (fun b hb=>hb.2);have C7:=dT g4 ag (fun hh=>vu hh.symm);have fJ:=T6 U ag (fun bj x U hh=>hv bj x U (hh ▸ g2));have lL:=T5 U;have s1:=ag.size;simp only [go_sem,simprocAttr,cell_of ax]
 refine Fp (fun ρ w'=>∃ bo br bn bm R,ρ.get 0=some (.pointer (some ⟨a,0,none⟩))∧ρ.get 1=some (.slice va roots.length vc)∧ρ.get 5=some (.pointer (some ⟨bm,0,none⟩)) ∧
  mR w' bm a bo br bn ns old [] (.slice none 0 0) none∧KU w' bo br ns R∧br≠bn∧w.heap.size≤bo∧w.heap.size≤br∧w.heap.size≤bn∧w.heap.size≤bm∧Mod (fun _=>False) w1 w') ?_ ?_
 ·rw [Fo];refine ⟨?_,?_⟩
  ·refine δ (by rfl) (KV ns hw hn w1.drew a _ _ cv _ _ _ _ ax (AM (rX AZ (⟨Nat.le_refl _,fun _ _ _=>rfl,rfl,rfl,rfl⟩:Mod (fun _=>False) w1 w1.drew) (fun _ _ h=>h)))) ?_;rintro q w2 ⟨bo,br,R,rfl,hT,lo,lr,lC,ae⟩;have ae:Mod (fun _=>False) w1 w2:=ae.dj;have lo:w1.heap.size≤bo:=lo;have lr:w1.heap.size≤br:=lr;have ka:=ae.old a (by omega) (fun h=>h);refine σ ?_;refine ⟨ka,?_⟩;refine Ap ?_;intro w3 aJ ab eP;have s2:=ae.size;have s3:=ab.size;have yQ:=ab.old a (by omega) (fun h=>h);refine σ ?_;refine ⟨yQ,?_⟩;refine cK rfl ?_;intro w4 aH ai eu;have aH:w4.heap[w3.heap.size]? = some (.cells #[.pointer (some ⟨a,0,none⟩),.slice (some ⟨bo,0,none⟩) ns.length ns.length,.map (some br),I old,.map (some w2.heap.size),.slice none 0 0] 249 (0,0)):=aH;have pH:=ab.trans ai;obtain ⟨jQ,rc,vt,_⟩:=id hT.ring;have lbr:=lt_of_heap vt;exact ⟨bo,br,w2.heap.size,w3.heap.size,R,rfl,⟨aH,pH.at hT.of (fun h=>h),dT aJ ai (fun h=>h),ao.nil _ _ _,fun h=>by cases h⟩,⟨pH.at hT.of (fun h=>h),dT hT.ring pH (fun h=>h),hT.nd,hT.keys⟩,by omega,by omega,by omega,by omega,by omega,ae.trans pH⟩
  ·refine Ap ?_;intro w2 aC ae dq;have ae:Mod (fun _=>False) w1 w2:=ae.dj;have dq:w2.heap.size=w1.heap.size+1:=dq;have aC:gi w2 w1.heap.size []:=aC;have ka:=ae.old a (by omega) (fun h=>h);refine σ ?_;refine ⟨by simp only [il,ka,and_self,implies_true],?_⟩;refine δ (by rfl) (KV ns hw hn w2 a _ _ cv _ _ _ _ (ae.at ax (fun h=>h)) (AM (rX AZ ae (fun _ _ h=>h)))) ?_;rintro q w3 ⟨bo,br,R,rfl,hT,lo,lr,lC,ab⟩;have s3:=ab.size;have yQ:=ab.old a (by omega) (fun h=>h);refine σ ?_;refine ⟨yQ,?_⟩;refine cK rfl ?_;intro w4 aH ai eu;have aH:w4.heap[w3.heap.size]? = some (.cells #[.pointer (some ⟨a,0,none⟩),.slice (some ⟨bo,0,none⟩) ns.length ns.length,.map (some br),I old,.map (some w1.heap.size),.slice none 0 0] 249 (0,0)):=aH;have pH:=ab.trans ai;exact ⟨bo,br,w1.heap.size,w3.heap.size,R,rfl,⟨aH,ai.at hT.of (fun h=>h),dT aC pH (fun h=>h),ao.nil _ _ _,fun h=>by cases h⟩,⟨ai.at hT.of (fun h=>h),dT hT.ring ai (fun h=>h),hT.nd,hT.keys⟩,by omega,by omega,by omega,by omega,by omega,ae.trans pH⟩
 rintro ρ w3 ⟨bo,br,bn,bm,R,r0,r1,r5,iF,hT,FP,lo,lr,TI,KX,ab⟩;simp only [go_sem,simprocAttr,r0,r1,r5];have wU:=fJ.mod ab (fun _ _ h=>h);have s3:=ab.size;refine aq (by rfl) ?_
 refine (KY w3 _ a bo br _ ns hw hn old ho [] _ none iF (yV ns old) _ roots wU ct (fun bj x U hh=>by
  have:=lL bj x U;rcases hh with hh | hh | hh
  ·omega
  ·omega
  ·cases hh) pK).mono ?_
 rintro q w5 ⟨vm5,iV,A0,AY,aB,Gj,iW,yY⟩;obtain ⟨qq,qt,rfl,_,_⟩:=iW.val;have s5:=aB.size
 have gX:Mod (fun _=>False) w1 w5:=ab.step aB (fun x U ah=>by
  rcases U with U | U | U
  ·omega
  ·omega
  ·cases U)
 have bZ:=gX.at ax (fun h=>h);have K8:=dT C7 gX (fun h=>h);simp only [go_sem,simprocAttr,cell_of bZ];refine δ (by rfl) (acj w5 (some mb)) ?_;rintro q w6 ⟨rfl,Gm⟩;have cN:w6.heap[w5.heap.size]? = some (.cells #[.map (some mb)] 200 (0,0)):=by rw [Gm];exact heap_alloc_new w5 _
 have aD:Mod (fun _=>False) w5 w6:=by rw [Gm];exact pA _ w5 _
 have s6:=aD.size;refine σ ?_;have hlr:=Uc g6;have As:=aeY g6;refine aq (by rfl) ?_
 refine (acn w6 w5.heap.size mb ld cN (dT K8 aD (fun h=>h)) g6.1 (fun p hp=>by
  have:=hlr p.1 (List.mem_map.2 ⟨p,hp,rfl⟩)
  omega) (by omega)).mono ?_
 rintro q w7 ⟨aX,fpL,Ld,hfL⟩;rw [aeZ g6,List.length_map] at Ld;obtain ⟨vaL,Le,rfl,_,_⟩:=Ld.val;have s7:=aX.size;have lI:=aD.trans aX;have CT:Mod (fun _=>False) w1 w7:=gX.trans lI;have cm:=lI.at bZ (fun h=>h);have Gf:=so AY lI (fun h=>h) (fun h=>h) (fun h=>h) (fun _ _ h=>h);have g37:kL 104 w7 cv ns (fun x=>(F x∧x≠a)∧x≠mb):=rX (ae' AZ C7) CT (fun _ _ h=>h);have tZ:∀ x,iV=some x→w3.heap.size≤x∧x < w5.heap.size:=fun x U=>by
  rcases Gj x U with h | h
  ·cases h
  ·exact ⟨h,AY.met.lt U⟩
 have hbm:=lt_of_heap iF.cells;have xn:=lt_of_heap iF.of;have hbn:bn < w3.heap.size:=by obtain ⟨es,c,q,_⟩:=iF.new;exact lt_of_heap q
 have AT:br < w3.heap.size:=by obtain ⟨es,c,q,_⟩:=hT.ring;exact lt_of_heap q
 have Uo:br≠bm:=Uk hT.ring iF.cells;obtain ⟨O,hO⟩:∃ O,bK ns old roots=O:=⟨_,rfl⟩;obtain ⟨O1,Gn⟩:∃ O1,dm ns old [] roots=O1:=⟨_,rfl⟩;have Up:jW ns old O1:=Gn ▸ qI hw roots (yV ns old) ct;have xy:gZ ns old (ns.length+1) 0 (lK ns old old O1)=O:=by rw [← Gn];exact hO
 have Uq:lK ns old old O1 <+: O:=by rw [← xy];exact C1 ns old _ _ _
 rw [Gn] at Gf;refine σ ?_
 refine KK (fun ρ w'=>∃ (vk:Value) (fk:Option Nat),mR w' bm a bo br bn ns old (lK ns old old O1) vk fk∧kL 104 w' cv (eY ns old O (cZ ns old)) (fun x=>(F x∧x≠a)∧x≠mb) ∧
     Mod (fun x=>((F x∧x≠a)∧x≠mb)∨x=bm∨x=bn∨iV=some x) w7 w'∧(∀ x,fk=some x→iV=some x∨w7.heap.size≤x) ∧
     ρ.get 0=some (.pointer (some ⟨a,0,none⟩))∧ρ.get 5=some (.pointer (some ⟨bm,0,none⟩))∧ρ.get 6=some (.slice qq roots.length qt)) ?_ ?_
 ·refine dA (fun m ρ w' => ∃ (k : Nat) (vk : Value) (fk : Option Nat), m = (cZ ns old).length - k ∧ k ≤ (cZ ns old).length ∧ mR w' bm a bo br bn ns old (ma ns old O1 k) vk fk ∧ kL 104 w' cv (eY ns old O ((cZ ns old).take k)) (fun x => (F x ∧ x ≠ a) ∧ x ≠ mb) ∧
      Mod (fun x=>((F x∧x≠a)∧x≠mb)∨x=bm∨x=bn∨iV=some x) w7 w'∧(∀ x,fk=some x→iV=some x∨w7.heap.size≤x) ∧
      ρ=[(0,.pointer (some ⟨a,0,none⟩)),(5,.pointer (some ⟨bm,0,none⟩)),(6,.slice qq roots.length qt),(39,.slice vaL (cZ ns old).length Le),(40,I (cZ ns old).length),(41,I k)]) (cZ ns old).length
   ⟨0,_,_,rfl,Nat.zero_le _,by rw [Um];exact Gf,by rw [List.take_zero,ae3];exact g37,Mod.refl _ _,(fun x U=>.inl U),rfl⟩ ?_
  rintro m ρ w8 ⟨k,vk,fk,rfl,hk,y0,C9,ch,pL,rfl⟩;unfold Rw;refine σ ?_;refine aY rfl (fun hc=>?_) (fun hc=>?_)
  ·have dX:k < (cZ ns old).length:=by simpa using hc
   obtain ⟨p,hp⟩:∃ p,(cZ ns old)[k]=p:=⟨_,rfl⟩;obtain ⟨lE,_⟩:=(C8 (ns:=ns) (old:=old)).1 (hp ▸ List.getElem_mem dX);have iZ:p < ns.length:=by omega
   have u':p∉(cZ ns old).take k:=fun hh=>by
    obtain ⟨j,hj,yP⟩:=List.getElem_of_mem hh;rw [List.getElem_take] at yP;have bQ:(cZ ns old).Nodup:=(List.nodup_range (n:=old)).sublist List.filter_sublist;rw [List.length_take] at hj;have:=(List.getElem_inj bQ (h₀:=by omega) (h₁:=dX)).1 (yP.trans hp.symm);omega
   have afo:=Ld.mod ch (fun x U hh=>by
    have h1:=hfL x U;rcases hh with hh | hh | hh | hh
    ·have:=eD x hh.1.1;omega
    ·omega
    ·omega
    ·have:=tZ x hh;omega)
   obtain ⟨bw,cw,ew,tw⟩:=KL afo dX (u:=I (p:Nat)) (by simp [dX,hp]);simp only [Value.slice.injEq] at ew;obtain ⟨rfl,_,rfl⟩:=ew
   have eB:=ch.at cm (fun hh=>by
    rcases hh with hh | hh | hh | hh
    ·exact hh.1.2 rfl
    ·omega
    ·omega
    ·have:=tZ a hh;omega)
   obtain ⟨b,c,v8,jH,C'⟩:=Ud C9 (p:=p) (by rw [qJ];exact iZ);obtain ⟨xq,KM,d0,d1,d2,oo,Ur⟩:=La C';subst xq;rw [vx _ _ _ _ iZ,if_neg u'] at d0 d1 oo;rw [qJ] at eB cm;obtain ⟨Lf,Lg,rfl,_,_⟩:=oo.val;have b1:(0:Int)≤k∧(k:Int) < (cZ ns old).length:=by omega
   have b2:(0:Int)≤(p:Nat)∧((p:Nat):Int) < ns.length:=by omega
   simp only [go_sem,simprocAttr,an,bq,b1,tw,cell_of eB,b2,d2];have afp:eY ns old O ((cZ ns old).take k)=(eY ns old O ((cZ ns old).take k)).set p ⟨(ak ns p).kind,(ak ns p).num,lN ns old O (ak ns p).args 0⟩:=by
    refine yZ (by rw [List.length_set]) (fun i hi=>?_);rw [tY _ _ _ _ (by rw [qJ];exact iZ)]
    split
    ·rename_i hh;subst hh;rw [vx _ _ _ _ iZ,if_neg u',ae7]
    ·rfl
   have afq:vz w8 (.slice (some ⟨b,0,none⟩) (eY ns old O ((cZ ns old).take k)).length c) ((eY ns old O ((cZ ns old).take k)).set p ⟨(ak ns p).kind,(ak ns p).num,lN ns old O (ak ns p).args 0⟩) (fun x=>(F x∧x≠a)∧x≠mb) p b c (.slice Lf (ak ns p).args.length Lg) jH:=by rw [← afp];exact C'
   have hLl:=afb ns old;have Us:ma ns old O1 (k+1) <+: O:=(afl ns old O1 dX).trans Uq;have sg:IntKind.i64.wrap ((k:Int)+1)=((k+1:Nat):Int):=by rw [cy]<;>omega
   have bE:=(jh hw iZ).2;have oN:=dL _ (show ak ns p∈ns by simp [ak,iZ]);have afr:=afm hw ho Up k hk
   refine afa (fun ρ w'=>∃ (vk:Value) (fk:Option Nat),mR w' bm a bo br bn ns old (ma ns old O1 (k+1)) vk fk∧kL 104 w' (.slice (some ⟨b,0,none⟩) (eY ns old O ((cZ ns old).take k)).length c) (eY ns old O ((cZ ns old).take (k+1))) (fun x=>(F x∧x≠a)∧x≠mb) ∧
       Mod (fun x=>((F x∧x≠a)∧x≠mb)∨x=bm∨x=bn∨iV=some x) w7 w'∧(∀ x,fk=some x→iV=some x∨w7.heap.size≤x) ∧
       ρ.get 0=some (.pointer (some ⟨a,0,none⟩))∧ρ.get 5=some (.pointer (some ⟨bm,0,none⟩))∧ρ.get 6=some (.slice qq roots.length qt)∧ρ.get 39=some (.slice (some ⟨bw,0,none⟩) (cZ ns old).length Le)∧ρ.get 40=some (I (cZ ns old).length)∧ρ.get 41=some (I k)) ?_ ?_
   ·refine dA (fun m ρ w' => ∃ (i : Nat) (vk : Value) (fk : Option Nat), m = (ak ns p).args.length - i ∧ i ≤ (ak ns p).args.length ∧ mR w' bm a bo br bn ns old (dm ns old (ma ns old O1 k) (((ak ns p).args.take i).filter (fL old))) vk fk ∧
        vz w' (.slice (some ⟨b,0,none⟩) (eY ns old O ((cZ ns old).take k)).length c) ((eY ns old O ((cZ ns old).take k)).set p ⟨(ak ns p).kind,(ak ns p).num,lN ns old O (ak ns p).args i⟩) (fun x=>(F x∧x≠a)∧x≠mb) p b c (.slice Lf (ak ns p).args.length Lg) jH ∧
        Mod (fun x=>((F x∧x≠a)∧x≠mb)∨x=bm∨x=bn∨iV=some x) w7 w'∧(∀ x,fk=some x→iV=some x∨w7.heap.size≤x) ∧
        ρ=[(0,.pointer (some ⟨a,0,none⟩)),(5,.pointer (some ⟨bm,0,none⟩)),(6,.slice qq roots.length qt),(9,.pointer (some ⟨b,p*3,none⟩)),(39,.slice (some ⟨bw,0,none⟩) (cZ ns old).length Le),(40,I (cZ ns old).length),(41,I k),(54,.slice Lf (ak ns p).args.length Lg),(55,I (ak ns p).args.length),(56,I i)]) (ak ns p).args.length
     ⟨0,_,_,rfl,Nat.zero_le _,by simpa [dm] using y0,afq,ch,pL,rfl⟩ ?_
    rintro m ρ w9 ⟨i,Da,vA,rfl,hi,vC,Db,dO,y6,rfl⟩;unfold Rv;refine σ ?_;refine aY rfl (fun cB=>?_) (fun cB=>?_)
    ·have bO:i < (ak ns p).args.length:=by simpa using cB
     obtain ⟨q,hq⟩:∃ q,(ak ns p).args[i]=q:=⟨_,rfl⟩;have Gp:=List.all_eq_true.1 bE q (by rw [← hq];exact List.getElem_mem bO);simp only [Bool.and_eq_true,decide_eq_true_eq] at Gp;obtain ⟨_,_,e0,e1,e2,Lh,Ut⟩:=La Db;rw [tY _ _ _ _ (by rw [qJ];exact iZ),if_pos rfl] at Lh;have hhl:=Lb ns old O (ak ns p).args i (by omega);simp only [hhl] at Lh;obtain ⟨bv,cvv,cs,ev,A2,Gq,ve,je,mP⟩:=Gk Lh bO;simp only [Value.slice.injEq] at ev;obtain ⟨rfl,_,rfl⟩:=ev;have AJ:cs[i]? = some (I q):=je i q (by rw [Ug _ _ _ _ bO,hq]);have gC:w9.cell? ⟨bv,i,none⟩=some (I q):=by rw [cell_of Gq,List.getElem?_toArray];exact AJ
     have b3:(0:Int)≤i∧(i:Int) < (ak ns p).args.length:=by omega
     have AK:IntKind.i64.wrap ((i:Int)+1)=((i+1:Nat):Int):=by rw [cy]<;>omega
     have lH:=dO.at cm (fun hh=>by
      rcases hh with hh | hh | hh | hh
      ·exact hh.1.2 rfl
      ·omega
      ·omega
      ·have:=tZ a hh;omega)
     have Uu:=Lc ns old O1 dX;rw [hp] at Uu;rw [Uu] at Us;have y7:∀ x,vA=some x→w3.heap.size≤x:=fun x U=>by
      rcases y6 x U with h | h
      ·exact (tZ x h).1
      ·omega
     have afs:∀ x,jH=some x→x < w.heap.size:=fun x U=>eD x (Ut x U).1.1.1
     have aoZ:b < w.heap.size:=eD b KM.1.1;simp only [go_sem,simprocAttr,an,bq,b3,gC,cell_of lH];refine aY rfl (fun ey=>?_) (fun ey=>?_)
     ·have hy:fL old q=true:=by simpa [fL] using ey
      obtain ⟨pq,rfl⟩:∃ pq:Nat,q=pq:=⟨q.toNat,by omega⟩;simp only [go_sem,simprocAttr,an,bq,b3,e2]
      have mQ:=qI hw (((ak ns p).args.take i).filter (fL old)) afr (K2 (by
       rw [bJ,List.all_eq_true] at bE ⊢
       exact fun x U=>bE x (List.mem_of_mem_take U)) _)
      have ua:dm ns old (ma ns old O1 k) (((ak ns p).args.take (i+1)).filter (fL old))=gj ns old (dm ns old (ma ns old O1 k) (((ak ns p).args.take i).filter (fL old))) pq:=by
       rw [Ui bO,hq,hy,if_pos rfl,Uj];rfl
      refine aq (by rfl) ?_;have jn:Mod (fun _=>False) w9 w9.drew:=⟨Nat.le_refl _,fun _ _ _=>rfl,rfl,rfl,rfl⟩;refine (TC w9.drew bm a bo br bn ns hw hn old ho _ Da vA (so vC jn (fun h=>h) (fun h=>h) (fun h=>h) (fun _ _ h=>h)) mQ pq (by omega)).mono ?_;rintro r eX ⟨rfl,aft,Li,Lj,dU,Lk⟩;have dU:Mod (fun x=>x=bm∨x=bn∨vA=some x) w9 eX:=dU.dj;have Lk:∀ x,Li=some x→vA=some x∨w9.heap.size≤x:=Lk
      have afu:eX.heap[b]? = w9.heap[b]?:=dU.old b (World.block_lt_of_cell? w9 _ e2) (fun hh=>by
       rcases hh with hh | hh | hh
       ·omega
       ·omega
       ·have:=y7 b hh;omega)
      have Uv:=dU.size;have s9:=dO.size;refine σ ?_;refine ⟨afu,?_⟩;have Uw:∀ x,x < w.heap.size→¬ (x=bm∨x=bn∨vA=some x):=fun x U hh=>by
       rcases hh with hh | hh | hh
       ·omega
       ·omega
       ·have:=y7 x hh;omega
      have afv:=ae6 Db dU (fun x U=>Uw x (eD x U.1.1));have Ux:=afs bv A2;have afw:=dU.at Gq (Uw bv Ux);refine bY (off:=i) rfl rfl afw rfl ve ?_;intro jU sw iq CV;have jk:dD ns old (gj ns old (dm ns old (ma ns old O1 k) (((ak ns p).args.take i).filter (fL old))) pq) pq=dD ns old O pq:=by
       refine (C2 ?_ (Tz ns old _ pq)).symm;rw [← ua];exact (afc ns old _ _ _).trans Us
      rw [jk] at sw;have xz:=mP jU _ sw
      have Uy:=Uf afv (args':=lN ns old O (ak ns p).args (i+1)) (iq.az (fun x U=>by rw [A2,U])) (by
       rw [Lb ns old O _ _ (by omega)];have e:=Uh ns old O (ak ns p).args bO;rw [hq,hy,if_pos rfl] at e;rw [← e]
       exact xz)
      rw [tY _ _ _ _ (by rw [qJ];exact iZ),if_pos rfl,List.set_set] at Uy;simp only [go_sem,simprocAttr,AK];have Uz:∀ x,Li=some x→iV=some x∨w7.heap.size≤x:=fun x U=>by
       rcases Lk x U with h | h
       ·exact y6 x h
       ·exact .inr (by omega)
      refine ⟨_,?_,i+1,aft,Li,rfl,bO,?_,Uy,(dO.step dU (fun x U ah=>?_)).step iq (fun x U _=>?_),Uz,rfl⟩
      ·omega
      ·rw [ua]
       exact so Lj iq (by omega) (by omega) (by omega) (fun x U hh=>by
        rcases Uz x U with h | h
        ·have:=tZ x h;omega
        ·omega)
      ·rcases U with U | U | U
       ·exact .inr (.inl U)
       ·exact .inr (.inr (.inl U))
       ·rcases y6 x U with h | h
        ·exact .inr (.inr (.inr h))
        ·omega
      ·subst U;exact .inl (Ut _ A2).1
     ·have hy:fL old q=false:=by simpa [fL] using ey
      simp only [go_sem,simprocAttr,AK];refine ⟨_,?_,i+1,Da,vA,rfl,bO,?_,?_,dO,y6,rfl⟩
      ·omega
      ·rw [Ui bO,hq,hy]
       simpa using vC
      ·rw [ae9 _ _ _ _ bO (by rw [hq];exact hy)];exact Db
    ·have bO:i=(ak ns p).args.length:=by simp at cB;omega
     subst bO;rw [List.take_length] at vC;have je:=Lc ns old O1 dX;rw [hp] at je;rw [← je] at vC;have KT:(eY ns old O ((cZ ns old).take k)).set p ⟨(ak ns p).kind,(ak ns p).num,lN ns old O (ak ns p).args (ak ns p).args.length⟩=eY ns old O ((cZ ns old).take (k+1)):=by
      rw [ae8,List.take_succ_eq_append_getElem dX,hp,ae4 _ _ _ _ iZ]
     rw [KT] at Db;refine σ ?_;exact ⟨Da,vA,vC,Ue Db,dO,y6⟩
   rintro ρ w9 ⟨Da,vA,vC,Ll,dO,y6,r0,r5,r6,Dc,Dd,r41⟩;simp only [go_sem,simprocAttr,r0,r5,r6,Dc,Dd,r41,sg];exact ⟨_,by omega,k+1,Da,vA,rfl,dX,vC,Ll,dO,y6,rfl⟩
  ·have dX:k=(cZ ns old).length:=by simp at hc;omega
   subst dX;rw [List.take_length] at C9;rw [Un] at y0;refine σ ?_;exact ⟨vk,fk,y0,C9,ch,pL⟩
 rintro ρ w8 ⟨vk,fk,y0,C9,ch,pL,r0,r5,r6⟩
 have eB:=ch.at cm (fun hh=>by
  rcases hh with hh | hh | hh | hh
  ·exact hh.1.2 rfl
  ·omega
  ·omega
  ·have:=tZ a hh;omega)
 have ao0:bo≠bm:=fun hh=>by
  have h:=iF.of;rw [hh] at h;exact mH h iF.cells (by decide)
 have afx:gi w7 br R:=by
  have h5:gi w5 br R:=dT hT.ring aB (fun hh=>by
   rcases hh with hh | hh | hh
   ·exact Uo hh
   ·exact FP hh
   ·cases hh)
  exact dT h5 lI (fun h=>h)
 have afy:gi w8 br R:=dT afx ch (fun hh=>by
  rcases hh with hh | hh | hh | hh
  ·have:=eD br hh.1.1;omega
  ·exact Uo hh
  ·exact FP hh
  ·have:=tZ br hh;omega)
 have s8:=ch.size;simp only [go_sem,simprocAttr,r0,r5,r6,cell_of y0.cells];refine abo (t:=200) (kt:=3) (et:=3) rfl Tryz.underlying200 afy ?_;intro w9 afz dO CO;have s9:=dO.size;have vC:=so y0 dO (fun h=>h) (fun h=>h) (fun h=>h) (fun _ _ h=>h);have Ll:=rX C9 dO (fun _ _ h=>h);have lH:=dO.at eB (fun h=>h);have y7:∀ x,fk=some x→w3.heap.size≤x:=fun x U=>by
  rcases pL x U with h | h
  ·exact (tZ x h).1
  ·omega
 have afA:∀ x,fk=some x→x < w8.heap.size:=fun x U=>y0.met.lt U
 refine σ ?_
 refine KK (fun ρ w'=>kL 104 w' cv (lM ns (eY ns old O (cZ ns old)) old [] R) (fun x=>(F x∧x≠a)∧x≠mb) ∧
     Mod (fun x=>((F x∧x≠a)∧x≠mb)∨x=w8.heap.size) w9 w' ∧
     ρ.get 0=some (.pointer (some ⟨a,0,none⟩))∧ρ.get 5=some (.pointer (some ⟨bm,0,none⟩))∧ρ.get 6=some (.slice qq roots.length qt)) ?_ ?_
 ·refine dA (fun m ρ w' => ∃ left : List (Int × Int), m = left.length ∧ (left.map (fun q => q.1)).Nodup ∧ (∀ q ∈ left, q ∈ R) ∧ Ar w' w8.heap.size br R left ∧ kL 104 w' cv (lM ns (eY ns old O (cZ ns old)) old left R) (fun x => (F x ∧ x ≠ a) ∧ x ≠ mb) ∧
      Mod (fun x=>((F x∧x≠a)∧x≠mb)∨x=w8.heap.size) w9 w' ∧
      ρ.get 0=some (.pointer (some ⟨a,0,none⟩))∧ρ.get 5=some (.pointer (some ⟨bm,0,none⟩))∧ρ.get 6=some (.slice qq roots.length qt)∧ρ.get 83=some (.pointer (some ⟨w8.heap.size,0,none⟩))) R.length
   ⟨R,rfl,hT.nd,(fun _ h=>h),afz,by rw [ae5 _ _ (qJ _ _ _ _)];exact Ll,Mod.refl _ _,rfl,rfl,rfl,rfl⟩ ?_
  rintro m ρ eX ⟨left,rfl,bQ,wQ,Jp,De,dU,r0,r5,r6,UA⟩;unfold Rx;simp only [go_sem,simprocAttr,r0,r5,r6,UA];refine abq UA Jp (by omega) (fun hl=>?_) (fun i hi jU UB afB iq CV=>?_)
  ·subst hl;refine σ ?_;exact ⟨De,dU⟩
  ·refine σ ?_;refine abr rfl afB ?_;have Uv:=dU.size;have UC:=wQ _ (List.getElem_mem hi);obtain ⟨j,hj,rR,xe⟩:=(hT.keys left[i].1).1 (List.mem_map.2 ⟨_,UC,rfl⟩);obtain ⟨p,hp⟩:∃ p,over ns j=p:=⟨_,rfl⟩;rw [hp] at rR xe;have iZ:p < ns.length:=hp ▸ qv (fu hw) hj;have ki:over ns p=p:=by rw [← hp];exact rP (fu hw) hj
   have hR:(p:Int)∈R.map (fun q=>q.1):=by rw [← rR];exact List.mem_map.2 ⟨_,UC,rfl⟩
   have qD:=afe (ns:=ns) (l:=eY ns old O (cZ ns old)) (old:=old) (R:=R) bQ hi rR hR iZ;have Lm:Mod (fun x=>((F x∧x≠a)∧x≠mb)∨x=w8.heap.size) w9 jU:=dU.step iq (fun x U _=>.inr U);have UD:=(Ul bQ hi).1;have UE:∀ q∈left.eraseIdx i,q∈R:=fun q hq=>wQ q (List.mem_of_mem_eraseIdx hq)
   have UF:(left.eraseIdx i).length < left.length:=by rw [List.length_eraseIdx,if_pos hi];omega
   have sw:=Lm.at lH (fun hh=>by
    rcases hh with hh | hh
    ·exact hh.1.2 rfl
    ·omega)
   have Gr:=rX De iq (fun x U hh=>by have:=eD x U.1.1;omega);simp only [go_sem,simprocAttr,cell_of sw,rR];refine aY rfl (fun hc=>?_) (fun hc=>?_)
   ·have lE:p < old:=by simpa using hc
    rw [if_pos lE] at qD;obtain ⟨b,c,v8,jH,C'⟩:=Ud Gr (p:=p) (by rw [oO];exact iZ);obtain ⟨xq,KM,d0,d1,d2,oo,Ur⟩:=La C';rw [oO] at xq;subst xq;have fE:(p:Int)∈left.map (fun q=>q.1):=by rw [← rR];exact List.mem_map.2 ⟨_,List.getElem_mem hi,rfl⟩
    have UG:ak (lM ns (eY ns old O (cZ ns old)) old left R) p=ak (eY ns old O (cZ ns old)) p:=by
     rw [vy _ _ _ _ _ iZ,if_neg (fun hh=>hh.2.2 fE)]
    have xA:(ak ns p).kind=5:=by simpa [ind] using xe
    have vD:=(jh hw iZ).1;simp only [Nd.may,gU,xA,decide_eq_true_eq] at vD;have UH:(ak ns p).args.length=1:=by omega
    have Gs:(ak (eY ns old O (cZ ns old)) p).args.length=1∧(ak (eY ns old O (cZ ns old)) p).kind=(ak ns p).kind∧(ak (eY ns old O (cZ ns old)) p).num=(ak ns p).num:=by
     rw [vx _ _ _ _ iZ]
     split
     ·exact ⟨by simp [kO,UH],rfl,rfl⟩
     ·exact ⟨UH,rfl,rfl⟩
    rw [UG] at oo d0 d1;rw [Gs.1] at oo;obtain ⟨bv,cvv,cs,rfl,A2,Gq,ve,je,mP⟩:=Gk oo (i:=0) (by omega);have b2:(0:Int)≤(p:Nat)∧((p:Nat):Int) < ns.length:=by omega
    have b3:(0:Int)≤0∧(0:Int) < ((1:Nat):Int):=by omega
    simp only [go_sem,simprocAttr,an,bq,cell_of sw,b2,d2,b3];refine bY (off:=0) rfl rfl Gq rfl ve ?_;intro sx dC dG Gt;have vE:=mP sx _ dC;have e1:(ak (eY ns old O (cZ ns old)) p).args.set 0 (p:Int)=[(p:Int)]:=by
     have:=Gs.1
     match h:(ak (eY ns old O (cZ ns old)) p).args with
     | [x]=>rfl
     | []=>rw [h] at this;simp at this
     | x::y::l=>rw [h] at this;simp at this
    rw [e1] at vE;have UI:=Uf C' (args':=[(p:Int)]) (dG.az (fun x U=>by rw [A2,U])) vE;rw [UG,Gs.2.1,Gs.2.2,← qD] at UI;have UJ:=Ur bv A2;have Ux:=eD bv UJ.1.1.1;refine σ ?_;refine ⟨_,UF,left.eraseIdx i,rfl,UD,UE,abn UB dG (by omega) (by omega),?_,Lm.step dG (fun x U _=>.inl (U ▸ UJ.1))⟩;have:=Ue UI;exact this
   ·have lE:¬ p < old:=by simpa using hc
    rw [if_neg lE] at qD;refine σ ?_;refine ⟨_,UF,left.eraseIdx i,rfl,UD,UE,UB,?_,Lm⟩;rw [qD];exact Gr
 rintro ρ eX ⟨De,dU,r0,r5,r6⟩;have Uv:=dU.size
 have sy:=dU.at lH (fun hh=>by
  rcases hh with hh | hh
  ·exact hh.1.2 rfl
  ·omega)
 have Lj:=so vC dU (fun hh=>by
  rcases hh with hh | hh
  ·have:=eD _ hh.1.1;omega
  ·omega) (fun hh=>by
  rcases hh with hh | hh
  ·have:=eD _ hh.1.1;omega
  ·omega) (fun hh=>by
  rcases hh with hh | hh
  ·have:=eD _ hh.1.1;omega
  ·omega) (fun x U hh=>by
  have h1:=y7 x U;have h2:=afA x U;rcases hh with hh | hh
  ·have:=eD _ hh.1.1;omega
  ·omega)
 have afC:=TX hw ho Up old (Nat.le_refl _);simp only [go_sem,simprocAttr,r0,r5,r6];refine aq (show fh ρ [.t 5]=some [.pointer (some ⟨bm,0,none⟩)] from by simp only [fh,W.O.ev,r5]) ?_
 refine (TO eX bm a bo br bn ns (lM ns (eY ns old O (cZ ns old)) old [] R) hw hn old ho _ vk fk Lj afC _ _ _ _ _ _ _ sy (AM De) (oO _ _ _ _ _) (afj dL O R) (fun x h1 h2=>afk O R h1 h2) (fun x U hh=>by
  have:=eD x U.1.1;rcases hh with hh | hh | hh
  ·omega
  ·omega
  ·have:=y7 x hh;omega)).mono ?_
 rintro q jU ⟨ao1,ao2,ao3,ps,nN,afD,iq,xz,ao4,Df,UK⟩;rw [xy] at afD xz UK;have Ln:∀ x,x < w3.heap.size→x≠bm→x≠bn→¬ (x=bm∨x=bn∨fk=some x):=fun x h1 h2 h3 hh=>by
  rcases hh with hh | hh | hh
  ·exact h2 hh
  ·exact h3 hh
  ·have:=y7 x hh;omega
 have s11:=iq.size;have sw:=iq.at sy (Ln a (by omega) (by omega) (by omega));have Gr:=rX De iq (fun x U=>by have:=eD x U.1.1;exact Ln x (by omega) (by omega) (by omega));obtain ⟨dY,qs,UL,c1,c2,c3,c4,c5⟩:=Gr;have fE:(lM ns (eY ns old O (cZ ns old)) old [] R).length=ns.length:=oO _ _ _ _ _;rw [fE] at c1;obtain ⟨ca,cc,rfl,fH,_⟩:=c1.val;obtain ⟨ao5,ao6,rfl,_,afE⟩:=xz.val;have b4:(0:Int)≤old∧(old:Int)≤cc:=by omega
 have b5:(0:Int)≤old∧(old:Int)≤old:=by omega
 have xq:(if old=0 then ca else Option.map (fun x=>x) ca)=ca:=by split<;>simp
 simp only [go_sem,simprocAttr,an,bq,cell_of sw,b4,b5,xq];have jn:Mod (fun _=>False) jU jU.drew:=⟨Nat.le_refl _,fun _ _ _=>rfl,rfl,rfl,rfl⟩;have UM:qs.length=ns.length:=by rw [← fE,← c4];simp
 have c1d:=(aff c1 ho).mod jn (fun _ _ h=>h);have afF:=xz.mod jn (fun _ _ h=>h);have UN:=sq hw ho ct;rw [hO] at UN;have hlen:=TV UN.1 ho;refine eH (m:=O.length) (news:=flat ps) rfl c1d rfl (fun h=>(afE h).1) afF.rd (afg Df) rfl (by omega) (by omega) ?_;intro v12 sx Lo vE dG y8;have dG:Mod (fun x=>dY=some x) jU sx:=dG.dj;have y8:∀ x,Lo=some x→dY=some x∨x=jU.heap.size∧x < sx.heap.size:=y8;obtain ⟨UO,UP,rfl,_,_⟩:=vE.val;have Ct:dY≠some a:=jA c1 sw (by decide);have dC:=dG.at sw Ct;have UQ:=dG.size;refine σ ?_;refine bY (off:=2) rfl rfl dC rfl (by simp) ?_;intro xB fT dZ ao7;have fT:xB.heap[a]? = some (.cells #[I size,I bp,.slice UO (old+O.length) UP,I old,.map (some mb),I (IntKind.i64.wrap (times+1))] 202 (0,0)):=fT;simp only [go_sem,simprocAttr,cell_of fT];refine bY (off:=3) rfl rfl fT rfl (by simp) ?_;intro y9 lJ iY ac8;have lJ:y9.heap[a]? = some (.cells #[I size,I bp,.slice UO (old+O.length) UP,I (old+O.length:Nat),.map (some mb),I (IntKind.i64.wrap (times+1))] 202 (0,0)):=lJ;have afG:∀ x,x < w3.heap.size→x≠bm→x≠bn→¬ ((F x∧x≠a)∧x≠mb)→¬ (((F x∧x≠a)∧x≠mb)∨x=bm∨x=bn∨iV=some x):=fun x h1 h2 h3 h4 hh=>by
  rcases hh with hh | hh | hh | hh
  ·exact h4 hh
  ·exact h2 hh
  ·exact h3 hh
  ·have:=tZ x hh;omega
 have UR:gi jU mb ld:=dT (dT (dT (dT (dT K8 lI (fun h=>h)) ch (afG mb (by omega) (by omega) (by omega) (fun hh=>hh.2 rfl))) dO (fun h=>h)) dU (fun hh=>by
  rcases hh with hh | hh
  ·exact hh.2 rfl
  ·omega)) iq (Ln mb (by omega) (by omega) (by omega))
 have US:∀ x,dY=some x→mb≠x:=fun x U=>by
  obtain ⟨cs,hc⟩:=tO c1 U;exact Uk UR hc
 have afH:gi y9 mb ld:=dT (dT (dT UR dG (fun hh=>US mb hh rfl)) dZ (fun hh=>vu hh.symm)) iY (fun hh=>vu hh.symm);simp only [go_sem,simprocAttr,cell_of lJ];refine Rk (t:=200) (kt:=3) (et:=3) rfl rfl Tryz.underlying200 afH ?_;intro A3 l0 Dg ao8;have afI:=Dg.at lJ vu;have Lp:Mod (fun x=>F x) jU A3:=(((dG.az (S':=fun x=>F x) (fun x U=>(c2 x U).1.1)).step dZ (fun x U _=>U ▸ g2)).step iY (fun x U _=>U ▸ g2)).step Dg (fun x U _=>U ▸ g5)
 have afJ:Mod (fun x=>F x∨w.heap.size≤x) w7 jU:=((((ch.az (S':=fun x=>F x∨w.heap.size≤x) (fun x U=>by
  rcases U with U | U | U | U
  ·exact .inl U.1.1
  ·exact .inr (by omega)
  ·exact .inr (by omega)
  ·have:=tZ x U;exact .inr (by omega)))).step dO (fun _ h _=>h.elim)).step dU (fun x U _=>by
  rcases U with U | U
  ·exact .inl U.1.1
  ·exact .inr (by omega))).step iq (fun x U _=>by
  rcases U with U | U | U
  ·exact .inr (by omega)
  ·exact .inr (by omega)
  ·have:=y7 x U;exact .inr (by omega))
 have hmF:Mod F w A3:=((((ag.az (S':=fun x=>F x) (fun x U=>U ▸ g2)).step CT (fun _ h _=>h.elim)).step afJ (fun x U ah=>U.elim (fun h=>h) (fun h=>by omega)))).step Lp (fun x U _=>U);have afK:ao A3 3 1 (.slice qq roots.length qt) ((roots.map (dD ns old O)).map I) roots.length A0:=by
  have e:roots.map (dD ns old (dm ns old [] roots))=roots.map (dD ns old O):=by
   apply List.map_congr_left;intro y hy;refine (C2 ?_ (yW ns old _ _ y hy)).symm;rw [Gn];exact (TW ns old old O1).trans Uq
  rw [← e];have hq:∀ x,A0=some x→w3.heap.size≤x∧iV≠some x∧x < w5.heap.size:=fun x U=>⟨(yY x U).1,(yY x U).2,iW.lt U⟩
  refine (((((iW.mod lI (fun _ _ h=>h)).mod ch (fun x U hh=>?_)).mod dO (fun _ _ h=>h)).mod dU (fun x U hh=>?_)).mod iq (fun x U hh=>?_)).mod Lp (fun x U hh=>?_)
  ·have:=hq x U;rcases hh with hh | hh | hh | hh
   ·have:=eD x hh.1.1;omega
   ·omega
   ·omega
   ·exact this.2.1 hh
  ·have:=hq x U;rcases hh with hh | hh
   ·have:=eD x hh.1.1;omega
   ·omega
  ·have:=hq x U;rcases hh with hh | hh | hh
   ·omega
   ·omega
   ·rcases pL x hh with h | h
    ·exact this.2.1 h
    ·omega
  ·have:=hq x U;have:=eD x hh;omega
 have pM:(b9 ns old roots).length=old+O.length:=by rw [sr,hO]
 have UT:fm ns old roots=roots.map (dD ns old O):=by unfold fm;rw [hO]
 have hqt:(qs.take old).length=old:=by rw [List.length_take];omega
 have yw:b9 ns old roots=(qs.take old++ps).map Prod.fst:=by
  unfold b9;rw [hO,List.map_append,UK,List.map_take,c4,afi hw ho O hT]
 have za:∀ j x,j < ps.length→nN j=some x→eX.heap.size≤x∧x < jU.heap.size:=fun j x hj U=>⟨(Df.1 j hj).2 x U,(Df.1 j hj).1.lt U⟩
 have Gu:∀ j x,j < qs.length→UL j=some x→F x∧x≠a∧x≠mb:=fun j x hj U=>⟨((c3.1 j hj).2 x U).1.1,((c3.1 j hj).2 x U).1.2,((c3.1 j hj).2 x U).2⟩
 refine ⟨A0,fun x=>F x∨Lo=some x∨∃ j,j < ps.length∧nN j=some x,?_,?_,⟨hmF,fun x U=>?_⟩,fun x U=>?_⟩
 ·rw [UT];exact afK
 ·rw [pM];refine ⟨_,mb,[],afI,.inl g2,⟨Lo,qs.take old++ps,_,?_,fun x U=>.inr (.inl U),aeW (aeV (fp:=UL) ?_ old) (fq:=nN) ?_ (fun i j x hi hj h1 h2=>?_),yw.symm,fun x U=>?_⟩,l0,.inl g5,?_⟩
  ·rw [wS,pM]
   exact ((vE.mod dZ (fun x U hh=>jA vE dC (by decide) (by rw [U,hh]))).mod iY (fun x U hh=>jA vE dC (by decide) (by rw [U,hh]))).mod Dg (fun x U hh=>by
    rcases y8 x U with h | h
    ·exact US x h hh.symm
    ·omega)
  ·have h1:=jC c3 dG (fun i x hi U hh=>tP (c3.1 i hi).1 c1 (by decide) U hh);have h2:=jC h1 dZ (fun i x hi U hh=>(Gu i x hi U).2.1 hh);have h3:=jC h2 iY (fun i x hi U hh=>(Gu i x hi U).2.1 hh);have h4:=jC h3 Dg (fun i x hi U hh=>(Gu i x hi U).2.2 hh);exact Kz h4 (fun x U=>.inl U.1.1)
  ·have h1:=jC Df dG (fun i x hi U hh=>tP (Df.1 i hi).1 c1 (by decide) U hh);have h2:=jC h1 dZ (fun i x hi U hh=>by have:=za i x hi U;omega);have h3:=jC h2 iY (fun i x hi U hh=>by have:=za i x hi U;omega);have h4:=jC h3 Dg (fun i x hi U hh=>by have:=za i x hi U;omega);exact ⟨fun i hi=>⟨(h4.1 i hi).1,fun x U=>.inr (.inr ⟨i,hi,U⟩)⟩,h4.2⟩
  ·have:=za j x hj h2;have:=eD x (Gu i x (by rw [hqt] at hi;omega) h1).1;omega
  ·have s15:=Lp.size;have ao9:=vE;rcases U with U | U | ⟨j,hj,U⟩
   ·have:=eD x U;omega
   ·have:=vE.lt U;omega
   ·have:=za j x hj U;omega
  ·rw [← pM];exact T1 (C6 hw ho ct)
 ·rcases U with U | U | ⟨j,hj,U⟩
  ·exact .inl U
  ·rcases y8 x U with h | h
   ·exact .inl (c2 x h).1.1
   ·exact .inr (by omega)
  ·have:=za j x hj U;exact .inr (by omega)
 ·have h1:=(yY x U).1;have h2:=iW.lt U;refine ⟨by omega,fun hh=>?_⟩;rcases hh with hh | hh | ⟨j,hj,hh⟩
  ·have:=eD x hh;omega
  ·rcases y8 x hh with h | h
   ·have:=eD x (c2 x h).1.1;omega
   ·omega
  ·have:=za j x hj hh;omega
end
section
open Go Go.W
structure Lq where
 jQ:Option (List Int)
 err:Int
 ns:List Nd
 old:Nat
 times:Int
def sA (size n:Int) (ns:List Nd) (roots:List Int) (times:Int):Lq:=if n > size - ns.length then ⟨none,211,ns,ns.length,times⟩ else ⟨some roots,0,ns,ns.length,times⟩
def ja (size bp:Int) (old:Nat) (times:Int) (ns:List Nd) (n:Int) (roots:List Int):Lq:=
 if n < 0 then ⟨none,1,ns,old,times⟩
 else if bJ ns.length roots=false then ⟨none,212,ns,old,times⟩
 else if n≤bp - (ns.length - old)∧n≤size - ns.length then ⟨some roots,0,ns,old,times⟩
 else if n > size - (b9 ns old roots).length then sA size n (b9 (b9 ns old roots) 0 (fm ns old roots)) (fm (b9 ns old roots) 0 (fm ns old roots)) (IntKind.i64.wrap (IntKind.i64.wrap (times+1)+1))
 else ⟨some (fm ns old roots),0,b9 ns old roots,(b9 ns old roots).length,IntKind.i64.wrap (times+1)⟩
def afL (At:World→Nat→Int→Int→Nat→Int→List Nd→(Nat→Prop)→Prop) (w:World) (a:Nat) (size bp:Int) (F:Nat→Prop) (s:Lq) (r:Value) (w':World):Prop:=
 ∃ v F',r = .tuple #[v,I s.err]∧At w' a size bp s.old s.times s.ns F'∧Grow F F' w w'∧(s.jQ=none→v = .slice none 0 0)∧∀ l,s.jQ=some l→∃ fq,ao w' 3 1 v (l.map I) l.length fq∧∀ x,fq=some x→w.heap.size≤x∧¬ F' x
theorem UU (ns:List Nd) (fr:Nat) (roots:List Int):(fm ns fr roots).length=roots.length:=by simp [fm]
theorem afM (w:World) (a:Nat) (size bp:Int) (old:Nat) (times:Int) (ns:List Nd) (F:Nat→Prop) (h:jm w a size bp old times ns F) (ho:old≤ns.length) (hw:WF ns) (hn:ns.length≤1048576) (hs:0≤size∧size≤1048576) (hy:0≤bp∧bp≤1048576) (n:Int) (v:Value) (roots:List Int) (U:Ints w v roots)
   (hv:roots≠[]→∀ x,jf v=some x→¬ F x) (pK:roots.length≤17592186044416) :
   aK Tryz.prog 190 [.pointer (some ⟨a,0,none⟩),I n,v] w (afL jm w a size bp F (ja size bp old times ns n roots)):=by
 obtain ⟨va,vc,rfl,_,_⟩:=id U;have same:∀ w',Mod (fun _=>False) w w'→jm w' a size bp old times ns F∧Grow F F w w':=fun w' hm=>
  ⟨kM h hm (fun _ _ h=>h),hm.az (fun _ h=>h.elim),fun b hb=>.inl hb⟩
 refine abP.calls rfl ?_;unfold JO;refine σ ?_;refine aY rfl (fun hc=>?_) (fun hc=>?_)
 ·have bz:n < 0:=by simpa using hc
  have e:ja size bp old times ns n roots=⟨none,1,ns,old,times⟩:=by unfold ja;rw [if_pos bz]
  rw [e];refine σ ?_;exact ⟨_,F,rfl,(same w (Mod.refl _ _)).1,(same w (Mod.refl _ _)).2,fun _=>rfl,fun l hl=>by cases hl⟩
 have cY:¬ n < 0:=by simpa using hc
 refine σ ?_;refine δ (by rfl) (AO w a ns.length old _ roots (xg h) U) ?_;rintro r w1 ⟨rfl,ag⟩;refine σ ?_;refine aY rfl (fun hc=>?_) (fun hc=>?_)
 ·have bz:bJ ns.length roots=false:=by simpa using hc
  have e:ja size bp old times ns n roots=⟨none,212,ns,old,times⟩:=by unfold ja;rw [if_neg cY,if_pos bz]
  rw [e];refine σ ?_;exact ⟨_,F,rfl,(same w1 ag).1,(same w1 ag).2,fun _=>rfl,fun l hl=>by cases hl⟩
 have cB:bJ ns.length roots=true:=by simpa using hc
 have h1:=kM h ag (fun _ _ h=>h);have fJ:=U.mod ag (fun _ _ h=>h);obtain ⟨cv,mb,ld,g1,g2,g3,g4,g5,g6⟩:=id h1;obtain ⟨ca,cc,rfl⟩:=CP g3;have k1:IntKind.i64.wrap ((ns.length:Int) - old)=ns.length - old:=by rw [cy]<;>omega
 have k2:IntKind.i64.wrap (bp - ((ns.length:Int) - old))=bp - (ns.length - old):=by rw [cy]<;>omega
 have k3:IntKind.i64.wrap (size - (ns.length:Int))=size - ns.length:=by rw [cy]<;>omega
 have jn:Mod (fun _=>False) w1 w1.drew:=⟨Nat.le_refl _,fun _ _ _=>rfl,rfl,rfl,rfl⟩;simp only [go_sem,simprocAttr,cell_of g1,k1,k2,k3];refine iG (fun ρ w'=>w1.drew=w'∧ρ.get 0=some (.pointer (some ⟨a,0,none⟩))∧ρ.get 1=some (I n)∧ρ.get 2=some (.slice va roots.length vc)∧ρ.get 44=some (.bool (decide (n≤bp - ((ns.length:Int) - old))&&decide (n≤size - (ns.length:Int))))) ?_ ?_
 ·refine uR rfl (fun hg=>?_) (fun hg=>?_)
  ·simp only [go_sem,simprocAttr,hg,cell_of g1,k3]
  ·simp only [go_sem,simprocAttr,hg,Bool.false_and]
 rintro ρ _ ⟨rfl,r0,r1,r2,A4⟩;simp only [go_sem,simprocAttr,r0,r1,r2,A4];refine aY rfl (fun hc=>?_) (fun hc=>?_)
 ·have ey:n≤bp - ((ns.length:Int) - old)∧n≤size - (ns.length:Int):=by simpa using hc
  have e:ja size bp old times ns n roots=⟨some roots,0,ns,old,times⟩:=by unfold ja;rw [if_neg cY,if_neg (by simp [cB]),if_pos ey]
  rw [e];refine σ ?_;refine δ (by rfl) (AL _ roots w1.drew (fJ.mod jn (fun _ _ h=>h))) ?_;rintro q w2 ⟨ae,f2,o2,n2⟩;obtain ⟨va2,vc2,rfl,_,_⟩:=o2.val;have vH:=jn.trans ae;have s1:=ag.size;have s2:=ae.size;have zb:w1.drew.heap.size=w1.heap.size:=rfl;refine σ ?_;refine ⟨_,F,rfl,(same w2 (ag.trans vH)).1,(same w2 (ag.trans vH)).2,fun h=>(by cases h),fun l hl=>?_⟩;cases hl;refine ⟨f2,o2,fun x U=>?_⟩;have:=n2 x U;exact ⟨by omega,fun hh=>by have:=AN h x hh;omega⟩
 have ey:¬ (n≤bp - ((ns.length:Int) - old)∧n≤size - (ns.length:Int)):=by simpa using hc
 have afN:=fJ.mod jn (fun _ _ h=>h);have Lr:=kM h1 jn (fun _ _ h=>h);have sw1:w1.drew.heap.size=w1.heap.size:=rfl;have s1:=ag.size;have afO:=ag.trans jn;refine σ ?_;refine δ (by rfl) (afn w1.drew a size bp old times ns F Lr ho hw hn _ roots afN cB hv pK) ?_;rintro q w2 ⟨UW,F2,o2,a2,UX,eO⟩;obtain ⟨va2,vc2,rfl,_,_⟩:=o2.val;have vh:=C6 hw ho cB;have fX:=K4 hw ho cB;obtain ⟨N1,Ls⟩:∃ N1,b9 ns old roots=N1:=⟨_,rfl⟩;obtain ⟨R1,Gv⟩:∃ R1,fm ns old roots=R1:=⟨_,rfl⟩;have UY:R1.length=roots.length:=by rw [← Gv];exact UU _ _ _
 have AV:=TZ hw ho cB;rw [Ls] at a2 vh fX AV;rw [Gv] at o2 AV;obtain ⟨cv2,mb2,ld2,j1,j2,j3,j4,j5,j6⟩:=id a2;obtain ⟨ca2,cc2,rfl⟩:=CP j3;have k4:IntKind.i64.wrap (size - (N1.length:Int))=size - N1.length:=by rw [cy]<;>omega
 have Lt:Mod (fun _=>False) w2 w2.drew:=⟨Nat.le_refl _,fun _ _ _=>rfl,rfl,rfl,rfl⟩;have A5:Grow F F2 w w2:=⟨(afO.az (fun _ h=>h.elim)).trans UX.1,fun x U=>(UX.2 x U).imp (fun h=>h) (fun h=>by omega)⟩;simp only [go_sem,simprocAttr,cell_of j1,k4];refine aY rfl (fun hc=>?_) (fun hc=>?_)
 ·have pN:n > size - (N1.length:Int):=by simpa using hc
  have e:ja size bp old times ns n roots=sA size n (b9 N1 0 R1) (fm N1 0 R1) (IntKind.i64.wrap (IntKind.i64.wrap (times+1)+1)):=by
   unfold ja;rw [if_neg cY,if_neg (by simp [cB]),if_neg ey,Ls,Gv,if_pos pN]
  rw [e];have o2d:=o2.mod Lt (fun _ _ h=>h);have fZ:=(o2d.ints (by omega)).1;refine σ ?_;refine δ (by rfl) (T8 w2.drew a size bp _ _ N1 F2 (kM a2 Lt (fun _ _ h=>h)) vh (by omega) _ R1 fZ AV (fun bj x U hh=>?_) (by omega)) ?_
  ·cases mS:UW with
   | none=>
    rcases o2.2 with ⟨_,h0,_⟩ | ⟨b',c',sp,e1,e2,_⟩
    ·rw [← UY] at h0;exact bj (List.eq_nil_of_length_eq_zero h0)
    ·rw [mS] at e2;cases e2
   | some y=>
    rcases o2.2 with ⟨_,_,e2⟩ | ⟨b',c',sp,e1,e2,_⟩
    ·rw [mS] at e2;cases e2
    ·rw [e1] at U;simp only [jf,Option.some.injEq] at U;exact (eO x (by rw [e2,U])).2 hh
  rintro q w3 ⟨fq3,F3,o3,a3,UZ,nP⟩;obtain ⟨va3,vc3,rfl,_,_⟩:=o3.val;have vJ:=K4 vh (Nat.zero_le _) AV;obtain ⟨N2,U0⟩:∃ N2,b9 N1 0 R1=N2:=⟨_,rfl⟩;obtain ⟨R2,xC⟩:∃ R2,fm N1 0 R1=R2:=⟨_,rfl⟩;have afP:R2.length=R1.length:=by rw [← xC];exact UU _ _ _
  rw [U0] at a3 vJ;rw [xC] at o3;rw [U0,xC];obtain ⟨cv3,mb3,ld3,i1,i2,i3,i4,i5,i6⟩:=id a3;obtain ⟨ca3,cc3,rfl⟩:=CP i3;have k5:IntKind.i64.wrap (size - (N2.length:Int))=size - N2.length:=by rw [cy]<;>omega
  have Dh:Mod (fun _=>False) w3 w3.drew:=⟨Nat.le_refl _,fun _ _ _=>rfl,rfl,rfl,rfl⟩;have sw2:w2.drew.heap.size=w2.heap.size:=rfl;have s2:=A5.1.size
  have Gw:Grow F F3 w w3:=⟨A5.1.step (Lt.az (S':=F2) (fun _ h=>h.elim) |>.trans UZ.1) (fun x U ah=>(A5.2 x U).elim (fun h=>h) (fun h=>by omega)),fun x U=>by
   rcases UZ.2 x U with h | h
   ·exact A5.2 x h
   ·exact .inr (by omega)⟩
  simp only [go_sem,simprocAttr,cell_of i1,k5];refine aY rfl (fun hc=>?_) (fun hc=>?_)
  ·have hP:n > size - (N2.length:Int):=by simpa using hc
   refine σ ?_;have e:sA size n N2 R2 (IntKind.i64.wrap (IntKind.i64.wrap (times+1)+1))=⟨none,211,N2,N2.length,IntKind.i64.wrap (IntKind.i64.wrap (times+1)+1)⟩:=by unfold sA;rw [if_pos hP]
   rw [e];exact ⟨_,F3,rfl,kM a3 Dh (fun _ _ h=>h),⟨Gw.1.trans (Dh.az (fun _ h=>h.elim)),Gw.2⟩,fun _=>rfl,fun l hl=>by cases hl⟩
  ·have hP:¬ n > size - (N2.length:Int):=by simpa using hc
   refine σ ?_;have e:sA size n N2 R2 (IntKind.i64.wrap (IntKind.i64.wrap (times+1)+1))=⟨some R2,0,N2,N2.length,IntKind.i64.wrap (IntKind.i64.wrap (times+1)+1)⟩:=by unfold sA;rw [if_neg hP]
   rw [e];refine ⟨_,F3,rfl,kM a3 Dh (fun _ _ h=>h),⟨Gw.1.trans (Dh.az (fun _ h=>h.elim)),Gw.2⟩,fun h=>(by cases h),fun l hl=>?_⟩;cases hl;refine ⟨fq3,?_,fun x U=>⟨by have:=(nP x U).1;omega,(nP x U).2⟩⟩;rw [afP];exact o3.mod Dh (fun _ _ h=>h)
 ·have pN:¬ n > size - (N1.length:Int):=by simpa using hc
  have e:ja size bp old times ns n roots=⟨some R1,0,N1,N1.length,IntKind.i64.wrap (times+1)⟩:=by
   unfold ja;rw [if_neg cY,if_neg (by simp [cB]),if_neg ey,Ls,Gv,if_neg pN]
  rw [e];have yl:Mod (fun _=>False) w2 w2.drew.drew:=⟨Nat.le_refl _,fun _ _ _=>rfl,rfl,rfl,rfl⟩;simp only [go_sem,simprocAttr,cell_of j1,k4];refine aY rfl (fun hc=>?_) (fun hc=>?_)
  ·exact absurd (by simpa using hc) pN
  refine σ ?_;refine ⟨_,F2,rfl,kM a2 yl (fun _ _ h=>h),⟨A5.1.trans (yl.az (fun _ h=>h.elim)),A5.2⟩,fun h=>(by cases h),fun l hl=>?_⟩;cases hl;refine ⟨UW,?_,fun x U=>⟨by have:=(eO x U).1;omega,(eO x U).2⟩⟩;rw [UY];exact o2.mod yl (fun _ _ h=>h)
end
section
open Go Go.W Go.W.Z
def U1:IR:=.seq (z [n 11 0,f 12 15 11,l 13 12,bk 14 .eql 13 0,m' 14 true 16 0,n' 14 true 17 16,f' 14 true 18 14 17,l' 14 true 19 18,m' 14 true 20 5,gJ 14 true 21 .sub 19 20,m' 14 true 22 1,gJ 14 true 23 .lss 21 22,a 24 14 23] [0,1,5,24] <| j 24 (.skip) ((.exit 0))) <| .block 1 (q [c 26 45 [0]] [0,1,5])
def Lu:IR:=z [] [0,1] <| z [n 7 0,f 8 14 7,l 9 8,m 5 9] [0,1,5] <| .seq (.block 0 (.loop U1)) <| z [n 28 0,f 29 14 28,l 30 29,bi 32 .sub 30 5,m 4 32] [4] <| .ret
theorem afQ:Fits Tryz.prog 24 2 (bf Tryz.f24 Lu) Lu [.t 4] 33:=.m Tryz.f24 _
def Lv:IR:=z [.e (some 2) (.al 37 (.agg #[(i 0),(.slice none 0 0),(i 0),(i 0),(i 0),(i 0),(i 0),(.string ⟨#[]⟩)]))] [0,2] <| .seq (.dr (r 0 4 (.mv (.t 0)) <| r 1 5 (.nn (.t 4)) <| r 2 6 (.fa 15 (.t 5)) <| r 3 7 (.l1 (.t 6)) <| r 4 8 (.mv (.t 0)) <| r 6 10 (.mv (.t 0)) <| r 7 11 (.nn (.t 10)) <| r 8 12 (.fa 16 (.t 11)) <| r 9 13 (.l1 (.t 12)) <| r 10 14 (.mv (.t 0)) <| r 11 15 (.nn (.t 14)) <| r 12 16 (.fa 14 (.t 15)) <| r 13 17 (.l1 (.t 16)) <| .e2 5 (some 9) (.call 41 [(.t 8)]) [3,9,13] (r 14 18 (.bd #[(i 0),(.slice none 0 0),(i 0),(i 0),(i 0),(i 0),(i 0),(.string ⟨#[]⟩)] [(0,1,(.t 7)),(1,1,(.t 9)),(2,1,(.t 13)),(3,1,(.t 17))]) <| .e 15 none (some 3) (.al 37 (.agg #[(i 0),(.slice none 0 0),(i 0),(i 0),(i 0),(i 0),(i 0),(.string ⟨#[]⟩)])) [3,9,13] <| .e 16 none none (.st 8 (.t 3) (.t 18)) [] <| .nil) 15 (some 3) (.al 37 (.agg #[(i 0),(.slice none 0 0),(i 0),(i 0),(i 0),(i 0),(i 0),(.string ⟨#[]⟩)])) [3,9,13]
   (.e 5 none (some 9) (.call 41 [(.t 8)]) [3,9,13] <| r 14 18 (.bd #[(i 0),(.slice none 0 0),(i 0),(i 0),(i 0),(i 0),(i 0),(.string ⟨#[]⟩)] [(0,1,(.t 7)),(1,1,(.t 9)),(2,1,(.t 13)),(3,1,(.t 17))]) <| .e 16 none none (.st 8 (.t 3) (.t 18)) [] <| .nil)) [0,2,3]) <| .seq (z [n 20 0,f 21 15 20,l 22 21,bk 23 .eql 22 0] [2,3,23] <| j 23 (q [f 24 0 3,.e none (.st 1 (.t 24) (k 4))] [2,3]) (.skip)) <| z [ln 25 8 3,s 8 2 25] [2] <| .ret
theorem afR:Fits Tryz.prog 25 1 (bf Tryz.f25 Lv) Lv [.n 2 8] 26:=.m Tryz.f25 _
def Lw:IR:=z [] [0] <| z [n 4 0,f 5 13 4,l 6 5,c 7 66 [6],c 8 65 [7],m 2 8] [2] <| .ret
theorem afS:Fits Tryz.prog 41 1 (bf Tryz.f41 Lw) Lw [.t 2] 9:=.m Tryz.f41 _
def U2:IR:=z [bi 69 .lss 68 67] [11,12,15,67,68,69] <| .seq (j 69 (.skip) ((.exit 1))) <| .seq (.block 2 (z [m 16 68] [11,12,15,16,67,68] <| z [m 72 12,m 73 16,.r (some 74) (.bd #[(i 0),(i 0),(.slice none 0 0)] [(0,1,(k 4)),(1,1,(.t 73))]),.e (some 75) (.raw ⟨(some 75),(.call { callee:=(.invoke (.tmp 72) "Add"),args:=#[(.tmp 74)],argTypes:=#[104]}),105, "machine.go:104",#[⟨0,.data⟩,⟨2,.data⟩],none⟩),m 71 75,ex 76 0 71,ex 77 1 71,m 17 76,m 18 77] [11,12,15,17,18,67,68] <| .seq (z [bk 79 .neq 18 0] [11,12,15,17,67,68,79] <| j 79 (z [n 82 15,f 83 15 82,.e none (.st 1 (.t 83) (k 5)),n 84 15,f 85 9 84,.e none (.st 1 (.t 85) (.c (.slice none 0 0)))] [15] <| z [m 8 15,mk 9 0] [8,9] <| .ret) (.skip)) <| q [n 89 15,f 90 9 89,l 91 90,.e (some 93) (.bs 3 1 #[(i 0)] [(0,1,(.t 17))]),.e (some 94) (.ap 3 1 8 #[(i 0)] (.t 91) (.t 93)),n 95 15,f 96 9 95,s 1 96 94] [11,12,15,67,68])) <| q [bk 97 .add 68 1,m 68 97] [11,12,15,67,68]
def Lx:IR:=z [.e (some 4) (.bx 25 (.t 0)),.e (some 5) (.bx 9 (.t 1)),.e (some 7) (.bx 28 (.t 3))] [2,4,5,7] <| .seq (.block 0 (z [le 21 2,bk 22 .gtr 21 10000,m 19 22] [2,4,5,7,19] <| j 19 (z [.r (some 8) (.mv (.c (.pointer none))),mk 9 2] [8,9] <| .ret) (.seq (z [.e (some 25) (.call 70 [(.t 2),(.c (.func (.func 71) #[] #[]))]),m 23 25] [2,4,5,7,23] <| j 23 (.skip) (z [f 26 0 7,l 27 26,bk 28 .lss 27 1,m 23 28] [2,4,5,7,23] <| j 23 (.skip) (z [f 29 0 7,l 30 29,bk 31 .gtr 30 1048576,m 23 31] [2,4,5,7,23] <| j 23 (.skip) (q [f 32 2 7,l 33 32,bk 34 .lss 33 0,m 23 34] [2,4,5,7,23])))) <| j 23 (z [.r (some 8) (.mv (.c (.pointer none))),mk 9 1] [8,9] <| .ret) (.skip)))) <| .seq (z [ln 35 2 4,c 36 73 [35],m 10 36] [2,4,5,7,10] <| z [bk 38 .neq 10 0] [2,4,5,7,10,38] <| j 38 (z [.r (some 8) (.mv (.c (.pointer none))),m 9 10] [8,9] <| .ret) (.skip)) <| z [f 40 1 4,l 41 40,.r (some 42) (.mf (.func 75) [] [(.t 5)]),c 43 74 [41,42],m 11 43] [2,4,7,11] <| .seq (z [bk 45 .lss 11 0] [2,4,7,11,45] <| j 45 (z [.r (some 8) (.mv (.c (.pointer none))),mk 9 220] [8,9] <| .ret) (.skip)) <| z [ln 47 3 7,c 48 76 [47],ex 49 0 48,ex 50 1 48,ex 51 2 48,m 12 49,m 13 50,m 14 51] [2,4,7,11,12,13,14] <| .seq (z [bk 53 .neq 14 0] [2,4,7,11,12,13,14,53] <| j 53 (z [.r (some 8) (.mv (.c (.pointer none))),m 9 14] [8,9] <| .ret) (.skip)) <| .seq (.dr (r 0 55 (.ln 2 (.t 4)) <| r 2 57 (.mv (.t 2)) <| r 4 59 (.ln 3 (.t 7)) <| r 5 60 (.mv (.t 12)) <| r 6 61 (.mv (.t 13)) <| .e 1 none (some 56) (.call 77 [(.t 55)]) [4] <| .e 3 none (some 58) (.call 39 [(.t 57)]) [4] <| .e 7 none (some 62) (.call 78 []) [4] <| r 8 63 (.bd #[(.slice none 0 0),(.slice none 0 0),(.slice none 0 0),(i 0),(.bool false),(i 0),.nilIface,(i 0),(i 0),(.slice none 0 0),(.slice none 0 0),(.slice none 0 0),(.bool false),(.slice none 0 0),(i 0),(i 0),(i 0),(i 0),(.slice none 0 0)] [(0,2,(.t 56)),(2,1,(.t 58)),(3,3,(.t 59)),(6,1,(.t 60)),(7,1,(.t 61)),(18,1,(.t 62))]) <| .e 9 none (some 64) (.bx 113 (.t 63)) [] <| r 10 15 (.mv (.t 64)) <| .nil) [4,11,12,15]) <| .seq (z [f 65 1 4,l 66 65,le 67 66,mk 68 0] [11,12,15,67,68] <| .block 1 (.loop U2)) <| z [n 100 15,f 101 9 100,l 102 101,ia 104 1 102 11,l 105 104,.e (some 106) (.bs 3 1 #[(i 0)] [(0,1,(.t 105))]),n 107 15,f 108 11 107,s 1 108 106] [15] <| z [m 8 15,mk 9 0] [8,9] <| .ret
theorem afT:Fits Tryz.prog 44 4 (bf Tryz.f44 Lx) Lx [.t 8,.t 9] 110:=.m Tryz.f44 _
def Ly:IR:=z [] [0] <| .seq (z [n 7 0,f 8 15 7,l 9 8,bk 10 .neq 9 0] [0,10] <| j 10 (z [mk 2 0,mk 3 221] [2,3] <| .ret) (.skip)) <| .seq (.block 0 (z [n 27 0,f 28 10 27,l 29 28,le 30 29,bk 31 .eql 30 0,m 25 31] [0,25] <| j 25 (q [c 33 79 [0]] [0]) (.seq (q' [m 35 0,n 36 35,f 37 10 36,l 38 37,m 39 0,n 40 39,f 41 10 40,l 42 41,le 43 42,bk 44 .sub 43 1,ia 45 1 38 44,l 46 45,n 47 46,f 48 0 47,l 49 48,m 34 49] [0,34]) <| j 34 (q' [m 50 0,m 51 0,n 52 51,f 53 10 52,l 54 53,m 55 0,n 56 55,f 57 10 56,l 58 57,le 59 58,bk 60 .sub 59 1,ia 61 1 54 60,l 62 61,c 63 80 [50,62]] [0]) (q' [m 11 0,m 12 0,n 13 12,f 14 10 13,l 15 14,m 16 0,n 17 16,f 18 10 17,l 19 18,le 20 19,bk 21 .sub 20 1,ia 22 1 15 21,l 23 22,c 24 81 [11,23]] [0])))) <| .seq (z [n 65 0,f 66 15 65,l 67 66,bk 68 .eql 67 5] [0,68] <| j 68 (z [n 70 0,f 71 15 70,l 72 71,m 2 72,mk 3 0] [2,3] <| .ret) (.skip)) <| z [n 74 0,f 75 14 74,l 76 75,bk 77 .add 76 1,n 78 0,f 79 14 78,s 1 79 77] [0] <| .seq (.seq (q' [m 80 0,n 81 80,f 82 3 81,f 83 2 82,l 84 83,bk 85 .gtr 84 0,m 86 85,m' 86 true 87 0,n' 86 true 88 87,f' 86 true 89 14 88,l' 86 true 90 89,m' 86 true 91 0,n' 86 true 92 91,f' 86 true 93 3 92,f' 86 true 94 2 93,l' 86 true 95 94,gJ 86 true 96 .rem 90 95,di 86 true 97 .eql 96 0,a 98 86 97] [0,98]) <| j 98 (.seq (.dr (r 0 100 (.mv (.t 0)) <| r 1 101 (.nn (.t 100)) <| r 2 102 (.fa 6 (.t 101)) <| r 3 103 (.l1 (.t 102)) <| r 4 104 (.mv (.t 0)) <| r 6 106 (.nn (.t 103)) <| r 7 107 (.mv (.t 103)) <| .e 5 none (some 105) (.call 82 [(.t 104)]) [3] <| .e 8 none (some 108) (.raw ⟨(some 108),(.call { callee:=(.invoke (.tmp 107) "Collect"),args:=#[(.tmp 105)],argTypes:=#[26]}),93, "machine.go:193",#[⟨7,.data⟩,⟨5,.data⟩,⟨5,.chain⟩],none⟩) [] <| r 9 99 (.mv (.t 108)) <| r 10 109 (.ex 0 (.t 99)) <| r 11 110 (.ex 1 (.t 99)) <| r 12 4 (.mv (.t 109)) <| r 13 5 (.mv (.t 110)) <| .nil) [0,4,5]) <| z [bk 112 .eql 5 0] [0,4,112] <| j 112 (z [c 115 83 [0,4]] [0] <| q [m 116 0,m 117 0,n 118 117,f 119 6 118,l 120 119,.e (some 121) (.raw ⟨(some 121),(.call { callee:=(.invoke (.tmp 120) "Used"),args:=#[],argTypes:=#[]}),3, "machine.go:195",#[⟨4,.data⟩],none⟩),n 122 116,f 123 8 122,s 1 123 121] [0]) (.skip)) (.skip)) <| z [n 125 0,f 126 15 125,l 127 126,m 2 127,mk 3 0] [2,3] <| .ret
theorem afU:Fits Tryz.prog 45 1 (bf Tryz.f45 Ly) Ly [.t 2,.t 3] 128:=.m Tryz.f45 _
def Lz:IR:=z [] [0] <| z [le 5 0,le 7 0,.r (some 8) (.sl 2 (.t 0) none (some (.t 5)) (some (.t 7))),m 2 8] [2] <| .ret
theorem afV:Fits Tryz.prog 65 1 (bf Tryz.f65 Lz) Lz [.t 2] 9:=.m Tryz.f65 _
def LA:IR:=z [] [0] <| .seq (z [.r (some 4) (.eq .slice false (.t 0) (.c (.slice none 0 0)))] [0,4] <| j 4 (z [.r (some 2) (.mv (.c (.slice none 0 0)))] [2] <| .ret) (.skip)) <| z [.e (some 5) (.raw ⟨(some 5),(.buildSlice 32 0 #[]),32, "slices.go:362",#[],none⟩),m 6 0,.e (some 7) (.ap 42 2 24 #[(.string ⟨#[]⟩),(i 0)] (.t 5) (.t 6)),m 2 7] [2] <| .ret
theorem afW:Fits Tryz.prog 66 1 (bf Tryz.f66 LA) LA [.t 2] 8:=.m Tryz.f66 _
def LB:IR:=z [] [0] <| z [c 4 72 [0],no 5 4,m 2 5] [2] <| .ret
theorem afX:Fits Tryz.prog 71 1 (bf Tryz.f71 LB) LB [.t 2] 6:=.m Tryz.f71 _
def LC:IR:=z [] [0] <| z [bk 4 .geq 0 (-4611686018427387904),m' 4 true 6 0,di 4 true 7 .leq 6 4611686018427387903,a 8 4 7,m 2 8] [2] <| .ret
theorem afY:Fits Tryz.prog 72 1 (bf Tryz.f72 LC) LC [.t 2] 9:=.m Tryz.f72 _
def LD:IR:=z [bi 20 .lss 19 18] [1,3,17,18,19,20] <| .seq (j 20 (.skip) ((.exit 0))) <| .seq (.block 1 (z [ia 21 2 17 19,ln 22 2 21,.e (some 5) (.al 47 (.agg #[(.string ⟨#[]⟩),(i 0)])),s 2 5 22] [1,3,5,17,18,19] <| .seq (z [f 23 0 5,l 24 23,c 25 104 [24],no 26 25,m 27 26,m' 27 false 28 3,f' 27 false 29 0 5,l' 27 false 30 29,.ge 27 false (some 31) (.raw ⟨(some 31),(.lookup 80 (.tmp 28) (.tmp 30) false),3, "check.go:69",#[⟨5,.data⟩,⟨7,.data⟩,⟨4,.guard⟩],some (4,false)⟩),di 27 false 32 .gtr 31 0,u 33 27 32,m 34 33,f' 34 false 35 1 5,l' 34 false 36 35,di 34 false 37 .lss 36 0,u 38 34 37,m 39 38,f' 39 false 40 1 5,l' 39 false 41 40,di 39 false 42 .gtr 41 8,u 43 39 42] [1,3,5,17,18,19,43] <| j 43 (z [mk 2 172] [2] <| .ret) (.skip)) <| q [m 44 3,f 45 0 5,l 46 45,.e none (.raw ⟨none,(.mapUpdate 80 (.tmp 44) (.tmp 46) (.const (i 1))),0, "check.go:72",#[⟨0,.data⟩,⟨2,.data⟩,⟨0,.phase⟩,⟨1,.phase⟩,⟨2,.phase⟩],none⟩)] [1,3,17,18,19])) <| q [bk 47 .add 19 1,m 19 47] [1,3,17,18,19]
def LF:IR:=z [bi 51 .lss 50 49] [1,3,48,49,50,51] <| .seq (j 51 (.skip) ((.exit 2))) <| .seq (.block 3 (z [ia 53 2 48 50,ln 54 2 53,.e (some 7) (.al 47 (.agg #[(.string ⟨#[]⟩),(i 0)])),m 6 50,s 2 7 54] [1,3,6,7,48,49,50] <| .seq (q' [m 55 6,f 56 0 1,l 57 56,le 58 57,bi 59 .geq 55 58,m 60 59,f' 60 false 61 0 1,l' 60 false 62 61,m' 60 false 63 6,uW 60 false 64 2 62 63,tL 60 false 65 2 64,tL 60 false 66 2 7,.gr 60 false (some 67) (.qj true [(0,.str),(1,.int)] (.t 65) (.t 66)),u 68 60 67] [1,3,48,49,50,68]) <| j 68 (z [mk 2 172] [2] <| .ret) (.skip))) <| q [bk 69 .add 50 1,m 50 69] [1,3,48,49,50]
def LG:IR:=z [bi 75 .lss 74 73] [1,3,72,73,74,75] <| .seq (j 75 (.skip) ((.exit 4))) <| .seq (.block 5 (z [ia 76 3 72 74,ln 77 3 76,.e (some 9) (.al 59 (.agg #[(.string ⟨#[]⟩),(i 0),(.slice none 0 0)])),s 3 9 77] [1,3,9,72,73,74] <| .seq (z [f 78 0 9,l 79 78,c 80 104 [79],no 81 80,m 82 81,m' 82 false 83 3,f' 82 false 84 0 9,l' 82 false 85 84,.ge 82 false (some 86) (.raw ⟨(some 86),(.lookup 80 (.tmp 83) (.tmp 85) false),3, "check.go:81",#[⟨5,.data⟩,⟨7,.data⟩,⟨4,.guard⟩],some (4,false)⟩),di 82 false 87 .gtr 86 0,u 88 82 87,m 89 88,f' 89 false 90 1 9,l' 89 false 91 90,di 89 false 92 .lss 91 0,u 93 89 92,m 94 93,f' 94 false 95 1 9,l' 94 false 96 95,di 94 false 97 .gtr 96 24,u 98 94 97] [1,3,9,72,73,74,98] <| j 98 (z [mk 2 172] [2] <| .ret) (.skip)) <| q [m 99 3,f 100 0 9,l 101 100,.e none (.raw ⟨none,(.mapUpdate 80 (.tmp 99) (.tmp 101) (.const (i 1))),0, "check.go:84",#[⟨0,.data⟩,⟨2,.data⟩,⟨0,.phase⟩,⟨1,.phase⟩,⟨2,.phase⟩],none⟩)] [1,3,72,73,74])) <| q [bk 102 .add 74 1,m 74 102] [1,3,72,73,74]
def LH:IR:=z [bi 107 .lss 106 105] [1,104,105,106,107] <| .seq (j 107 (.skip) ((.exit 6))) <| .seq (.block 7 (z [ia 108 3 104 106,ln 109 3 108,.e (some 11) (.al 59 (.agg #[(.string ⟨#[]⟩),(i 0),(.slice none 0 0)])),s 3 11 109] [1,11,104,105,106] <| z [ln 110 2 1,ln 111 3 11,c 112 106 [110,111],m 12 112] [1,12,104,105,106] <| z [bk 114 .neq 12 0] [1,12,104,105,106,114] <| j 114 (z [m 2 12] [2] <| .ret) (.skip))) <| q [bk 116 .add 106 1,m 106 116] [1,104,105,106]
def LI:IR:=z [.e (some 1) (.bx 25 (.t 0))] [1] <| .seq (z [ln 13 2 1,c 14 103 [13]] [1,14] <| j 14 (z [mk 2 4] [2] <| .ret) (.skip)) <| z [.e (some 15) (.raw ⟨(some 15),(.makeMap 80 none),80, "check.go:67",#[],none⟩),m 3 15] [1,3] <| .seq (z [f 16 0 1,l 17 16,le 18 17,mk 19 0] [1,3,17,18,19] <| .block 0 (.loop LD)) <| .seq (z [c 48 105 [],le 49 48,mk 50 0] [1,3,48,49,50] <| .block 2 (.loop LF)) <| z [m 70 3,.e none (.raw ⟨none,(.call { callee:=(.builtin .clear),args:=#[(.tmp 70)],argTypes:=#[80]}),0, "check.go:79",#[⟨0,.data⟩],none⟩)] [1,3] <| .seq (z [f 71 1 1,l 72 71,le 73 72,mk 74 0] [1,3,72,73,74] <| .block 4 (.loop LG)) <| .seq (z [f 103 1 1,l 104 103,le 105 104,mk 106 0] [1,104,105,106] <| .block 6 (.loop LH)) <| z [mk 2 0] [2] <| .ret
theorem afZ:Fits Tryz.prog 73 1 (bf Tryz.f73 LI) LI [.t 2] 117:=.m Tryz.f73 _
def U3:IR:=z [bi 9 .lss 8 7] [0,1,7,8,9] <| .seq (j 9 (.skip) ((.exit 0))) <| .seq (.block 1 (z [m 5 8] [0,1,5,7,8] <| z [m 11 1,m 12 0,m 13 5,ia 14 3 12 13,ln 15 3 14,.e (some 16) (.raw ⟨(some 16),(.call { callee:=(.value (.tmp 11)),args:=#[(.tmp 15)],argTypes:=#[59]}),4, "slices.go:109",#[⟨0,.data⟩,⟨4,.data⟩],none⟩)] [0,1,5,7,8,16] <| j 16 (z [m 4 5] [4] <| .ret) (.skip))) <| q [bk 18 .add 8 1,m 8 18] [0,1,7,8]
def LJ:IR:=z [] [0,1] <| .seq (z [le 7 0,mk 8 0] [0,1,7,8] <| .block 0 (.loop U3)) <| z [mk 4 (-1)] [4] <| .ret
theorem af0:Fits Tryz.prog 74 2 (bf Tryz.f74 LJ) LJ [.t 4] 19:=.m Tryz.f74 _
def LK:IR:=z [.e (some 2) (.bx 59 (.t 0))] [1,2] <| z [f 4 0 2,l 5 4,l 6 1,bi 7 .eql 5 6,m 3 7] [3] <| .ret
theorem af1:Fits Tryz.prog 75 2 (bf Tryz.f75 LK) LK [.t 3] 8:=.m Tryz.f75 _
def LL:IR:=z [.e (some 1) (.bx 28 (.t 0))] [1] <| .seq (z [f 10 1 1,l 11 10] [1,11] <| j 11 (z [f 12 0 1,l 13 12,bk 14 .quo 13 8,.r (some 15) (.mm true (k 1) (.t 14)),m 5 15] [1,5] <| z [f 17 0 1,l 18 17,c 20 107 [18,5],ex 21 0 20,ex 22 1 20,m 6 21,m 7 22] [5,6,7] <| z [.r (some 24) (.mi 169 (.t 6)),m 2 24,m 3 5,m 4 7] [2,3,4] <| .ret) (.skip)) <| z [f 28 0 1,l 29 28,c 30 108 [29],ex 31 0 30,ex 32 1 30,m 8 31,m 9 32] [1,8,9] <| .seq (q' [m 33 8,.r (some 34) (.mi 172 (.t 33)),f 35 0 1,l 36 35,m 37 9,m 2 34,m 3 36,m 4 37] [2,3,4]) <| .ret
theorem af2:Fits Tryz.prog 76 1 (bf Tryz.f76 LL) LL [.t 2,.t 3,.t 4] 38:=.m Tryz.f76 _
def U4:IR:=z [bi 14 .lss 13 12] [2,3,11,12,13,14] <| .seq (j 14 (.skip) ((.exit 0))) <| .seq (.block 1 (z [ia 15 3 11 13,ln 16 3 15,.e (some 5) (.al 59 (.agg #[(.string ⟨#[]⟩),(i 0),(.slice none 0 0)])),s 3 5 16] [2,3,5,11,12,13] <| .dr (r 0 17 (.fa 1 (.t 3)) <| r 1 18 (.l1 (.t 17)) <| r 2 19 (.fa 0 (.t 5)) <| r 3 20 (.l1 (.t 19)) <| r 4 21 (.fa 1 (.t 5)) <| r 5 22 (.l1 (.t 21)) <| r 6 23 (.fa 2 (.t 5)) <| r 7 24 (.l1 (.t 23)) <| .e 8 none (some 25) (.call 64 [(.t 24)]) [1,3,5] <| r 9 26 (.bd #[(.string ⟨#[]⟩),(i 0),(.slice none 0 0)] [(0,1,(.t 20)),(1,1,(.t 22)),(2,1,(.t 25))]) <| .e 10 none (some 27) (.bs 59 1 #[(.string ⟨#[]⟩),(i 0),(.slice none 0 0)] [(0,3,(.t 26))]) [1] <| .e 11 none (some 28) (.ap 59 3 48 #[(.string ⟨#[]⟩),(i 0),(.slice none 0 0)] (.t 18) (.t 27)) [] <| r 12 29 (.fa 1 (.t 3)) <| .e 13 none none (.st 1 (.t 29) (.t 28)) [] <| .nil) [2,3,11,12,13])) <| q [bk 30 .add 13 1,m 13 30] [2,3,11,12,13]
def LM:IR:=z [.e (some 1) (.bx 25 (.t 0)),.e (some 2) (.al 25 (.agg #[(.slice none 0 0),(.slice none 0 0)]))] [1,2] <| z [f 6 0 1,l 7 6,c 8 62 [7],.r (some 9) (.bd #[(.slice none 0 0),(.slice none 0 0)] [(0,1,(.t 8))]),.e (some 3) (.al 25 (.agg #[(.slice none 0 0),(.slice none 0 0)])),s 2 3 9] [1,2,3] <| .seq (z [f 10 1 1,l 11 10,le 12 11,mk 13 0] [2,3,11,12,13] <| .block 0 (.loop U4)) <| z [ln 31 2 3,s 2 2 31] [2] <| .ret
theorem af3:Fits Tryz.prog 77 1 (bf Tryz.f77 LM) LM [.n 2 2] 32:=.m Tryz.f77 _
def LN:IR:=z [] [] <| z [.r (some 1) (.bd #[.nilFunc,.nilFunc] [(0,1,(.c (.func (.func 109) #[] #[]))),(1,1,(.c (.func (.func 110) #[] #[])))]),.r (some 2) (.bd #[.nilFunc,.nilFunc] [(0,1,(.c (.func (.func 109) #[] #[]))),(1,1,(.c (.func (.func 113) #[] #[])))]),.r (some 3) (.bd #[.nilFunc,.nilFunc] [(0,1,(.c (.func (.func 114) #[] #[]))),(1,1,(.c (.func (.func 115) #[] #[])))]),.r (some 4) (.bd #[.nilFunc,.nilFunc] [(0,1,(.c (.func (.func 109) #[] #[]))),(1,1,(.c (.func (.func 117) #[] #[])))]),.r (some 5) (.bd #[.nilFunc,.nilFunc] [(0,1,(.c (.func (.func 109) #[] #[]))),(1,1,(.c (.func (.func 119) #[] #[])))]),.r (some 6) (.bd #[.nilFunc,.nilFunc] [(0,1,(.c (.func (.func 114) #[] #[]))),(1,1,(.c (.func (.func 120) #[] #[])))]),.r (some 7) (.bd #[.nilFunc,.nilFunc] [(0,1,(.c (.func (.func 109) #[] #[]))),(1,1,(.c (.func (.func 121) #[] #[])))]),.r (some 8) (.bd #[.nilFunc,.nilFunc] [(0,1,(.c (.func (.func 122) #[] #[]))),(1,1,(.c (.func (.func 123) #[] #[])))]),.r (some 9) (.bd #[.nilFunc,.nilFunc] [(0,1,(.c (.func (.func 114) #[] #[]))),(1,1,(.c (.func (.func 124) #[] #[])))]),.r (some 10) (.bd #[.nilFunc,.nilFunc] [(0,1,(.c (.func (.func 109) #[] #[]))),(1,1,(.c (.func (.func 125) #[] #[])))]),.r (some 11) (.bd #[.nilFunc,.nilFunc] [(0,1,(.c (.func (.func 109) #[] #[]))),(1,1,(.c (.func (.func 126) #[] #[])))]),.r (some 12) (.bd #[.nilFunc,.nilFunc] [(0,1,(.c (.func (.func 114) #[] #[]))),(1,1,(.c (.func (.func 127) #[] #[])))]),.r (some 13) (.bd #[.nilFunc,.nilFunc] [(0,1,(.c (.func (.func 109) #[] #[]))),(1,1,(.c (.func (.func 128) #[] #[])))]),.r (some 14) (.bd #[.nilFunc,.nilFunc] [(0,1,(.c (.func (.func 109) #[] #[]))),(1,1,(.c (.func (.func 129) #[] #[])))]),.r (some 15) (.bd #[.nilFunc,.nilFunc] [(0,1,(.c (.func (.func 109) #[] #[]))),(1,1,(.c (.func (.func 130) #[] #[])))]),.r (some 16) (.bd #[.nilFunc,.nilFunc] [(0,1,(.c (.func (.func 109) #[] #[]))),(1,1,(.c (.func (.func 131) #[] #[])))]),.r (some 17) (.bd #[.nilFunc,.nilFunc] [(0,1,(.c (.func (.func 109) #[] #[]))),(1,1,(.c (.func (.func 133) #[] #[])))]),.e (some 18) (.bs 177 18 #[.nilFunc,.nilFunc,.nilFunc,.nilFunc,.nilFunc,.nilFunc,.nilFunc,.nilFunc,.nilFunc,.nilFunc,.nilFunc,.nilFunc,.nilFunc,.nilFunc,.nilFunc,.nilFunc,.nilFunc,.nilFunc,.nilFunc,.nilFunc,.nilFunc,.nilFunc,.nilFunc,.nilFunc,.nilFunc,.nilFunc,.nilFunc,.nilFunc,.nilFunc,.nilFunc,.nilFunc,.nilFunc,.nilFunc,.nilFunc,.nilFunc,.nilFunc] [(2,2,(.t 1)),(4,2,(.t 2)),(6,2,(.t 3)),(8,2,(.t 4)),(10,2,(.t 5)),(12,2,(.t 6)),(14,2,(.t 7)),(16,2,(.t 8)),(18,2,(.t 9)),(20,2,(.t 10)),(22,2,(.t 11)),(24,2,(.t 12)),(26,2,(.t 13)),(28,2,(.t 14)),(30,2,(.t 15)),(32,2,(.t 16)),(34,2,(.t 17))]),m 0 18] [0] <| .ret
theorem af4:Fits Tryz.prog 78 0 (bf Tryz.f78 LN) LN [.t 0] 19:=.m Tryz.f78 _
def U5:IR:=.block 2 (.dr (r 0 95 (.l1 (.t 1)) <| r 1 96 (.l1 (.t 1)) <| r 2 97 (.nn (.t 96)) <| r 3 98 (.fa 11 (.t 97)) <| r 4 99 (.l1 (.t 98)) <| r 5 100 (.mv (.t 6)) <| .e 6 none (some 101) (.bs 3 1 #[(i 0)] [(0,1,(.t 100))]) [0,1,4] <| .e 7 none (some 102) (.ap 3 1 8 #[(i 0)] (.t 99) (.t 101)) [0] <| r 8 103 (.nn (.t 95)) <| r 9 104 (.fa 11 (.t 103)) <| .e 10 none none (.st 1 (.t 104) (.t 102)) [] <| .nil) [])
def U6:K:=.seq (.ir (q [.e (some 1) (.bx 68 (.t 0))] [1])) <| .seq (.ir (q [l 7 1,n 8 7,f 9 11 8,l 10 9,le 11 10,bk 12 .sub 11 1,m 2 12] [1,2])) <| .seq (.ir (.dr (r 0 14 (.l1 (.t 1)) <| r 1 15 (.l1 (.t 1)) <| r 2 16 (.nn (.t 15)) <| r 3 17 (.fa 11 (.t 16)) <| r 4 18 (.l1 (.t 17)) <| r 5 19 (.mv (.t 2)) <| r 6 20 (.ia 1 (.t 18) (.t 19)) <| r 7 21 (.l1 (.t 20)) <| .e2 8 (some 22) (.call 134 [(.t 14),(.t 21)]) [] (r 9 13 (.mv (.t 22)) <| r 10 23 (.ex 0 (.t 13)) <| r 11 24 (.ex 1 (.t 13)) <| .e 12 none (some 4) (.al 104 (.agg #[(i 0),(i 0),(.slice none 0 0)])) [0,1,4,7] <| r 13 3 (.mv (.t 23)) <| .e 14 none none (.st 3 (.t 4) (.t 24)) [] <| .nil) 12 (some 4) (.al 104 (.agg #[(i 0),(i 0),(.slice none 0 0)])) [0,1,4,7]
   (.e 8 none (some 22) (.call 134 [(.t 14),(.t 21)]) [] <| r 9 13 (.mv (.t 22)) <| r 10 23 (.ex 0 (.t 13)) <| r 11 24 (.ex 1 (.t 13)) <| r 13 3 (.mv (.t 23)) <| .e 14 none none (.st 3 (.t 4) (.t 24)) [] <| .nil)) [1,2,4])) <| .seq (.ir (z [f 25 0 4,l 26 25] [1,2,4,26] <| .block 0 (z [bk 46 .eql 26 1,m 45 46] [1,2,4,26,45] <| j 45 (.dr (r 0 47 (.l1 (.t 1)) <| r 1 48 (.l1 (.t 1)) <| r 2 49 (.nn (.t 48)) <| r 3 50 (.fa 13 (.t 49)) <| r 4 51 (.l1 (.t 50)) <| r 5 52 (.fa 1 (.t 4)) <| r 6 53 (.l1 (.t 52)) <| r 7 54 (.bd #[(.string ⟨#[]⟩),(i 0)] [(1,1,(.t 53))]) <| .e 8 none (some 55) (.bs 42 1 #[(.string ⟨#[]⟩),(i 0)] [(0,2,(.t 54))]) [0,1,4] <| .e 9 none (some 56) (.ap 42 2 24 #[(.string ⟨#[]⟩),(i 0)] (.t 51) (.t 55)) [0] <| r 10 57 (.nn (.t 47)) <| r 11 58 (.fa 13 (.t 57)) <| .e 12 none none (.st 1 (.t 58) (.t 56)) [] <| .nil) [1,2,4]) (z [bk 60 .eql 26 2,m 59 60] [1,2,4,59] <| j 59 (.dr (r 0 61 (.l1 (.t 1)) <| r 1 62 (.l1 (.t 1)) <| r 2 63 (.nn (.t 62)) <| r 3 64 (.fa 13 (.t 63)) <| r 4 65 (.l1 (.t 64)) <| r 5 66 (.l1 (.t 1)) <| r 6 67 (.nn (.t 66)) <| r 7 68 (.fa 0 (.t 67)) <| r 8 69 (.fa 0 (.t 68)) <| r 9 70 (.l1 (.t 69)) <| r 10 71 (.fa 1 (.t 4)) <| r 11 72 (.l1 (.t 71)) <| r 12 73 (.ia 2 (.t 70) (.t 72)) <| r 13 74 (.fa 0 (.t 73)) <| r 14 75 (.l1 (.t 74)) <| r 15 76 (.bd #[(.string ⟨#[]⟩),(i 0)] [(0,1,(.t 75))]) <| .e 16 none (some 77) (.bs 42 1 #[(.string ⟨#[]⟩),(i 0)] [(0,2,(.t 76))]) [0,1,4] <| .e 17 none (some 78) (.ap 42 2 24 #[(.string ⟨#[]⟩),(i 0)] (.t 65) (.t 77)) [0] <| r 18 79 (.nn (.t 61)) <| r 19 80 (.fa 13 (.t 79)) <| .e 20 none none (.st 1 (.t 80) (.t 78)) [] <| .nil) [1,2,4]) (.seq (.dr (r 0 27 (.l1 (.t 1)) <| r 1 28 (.l1 (.t 1)) <| r 2 29 (.nn (.t 28)) <| r 3 30 (.fa 10 (.t 29)) <| r 4 31 (.l1 (.t 30)) <| r 5 32 (.l1 (.t 1)) <| r 6 33 (.nn (.t 32)) <| r 7 34 (.fa 11 (.t 33)) <| r 8 35 (.l1 (.t 34)) <| r 9 36 (.mv (.t 2)) <| r 10 37 (.ia 1 (.t 35) (.t 36)) <| r 11 38 (.l1 (.t 37)) <| r 12 39 (.bd #[(.bool false),(i 0),(i 0),(.slice none 0 0),(.slice none 0 0),(i 0)] [(5,1,(.t 38))]) <| .e 13 none (some 40) (.bx 151 (.t 39)) [0,1,4] <| .e 14 none (some 41) (.bs 152 1 #[(.pointer none)] [(0,1,(.t 40))]) [0,1,4] <| .e 15 none (some 42) (.ap 152 1 8 #[(.pointer none)] (.t 31) (.t 41)) [0] <| r 16 43 (.nn (.t 27)) <| r 17 44 (.fa 10 (.t 43)) <| .e 18 none none (.st 1 (.t 44) (.t 42)) [] <| .nil) []) <| .ret))))) <| .seq (.ir (q' [l 81 1,l 82 1,n 83 82,f 84 11 83,l 85 84,m 86 2,.r (some 87) (.sl 1 (.t 85) none (some (.t 86)) none),n 88 81,f 89 11 88,s 1 89 87] [1,4])) <| .seq (.seq (.ir (q [f 90 2 4,l 91 90,c 92 135 [91]] [1,92])) <| .fO 1 (.Fx 92 93 94 6 U5)) <| .ir (z [l 105 1,n 106 105,f 107 11 106,l 108 107,le 109 108,bk 110 .eql 109 0] [1,110] <| j 110 (q [l 111 1,n 112 111,f 113 15 112,.e none (.st 1 (.t 113) (k 2))] []) (.skip))
theorem af5:Fy Tryz.prog 79 1 [(0,[1],[]),(1,[1,2],[]),(2,[1,2,4],[0,0,2,6,14,0,62,126,255,511,1023,1023,0,6143,16383]),(3,[1,2,4,26],[]),(4,[],[0,0,2,6,14,0,32,96,224,0,992,2016,4064,8160,16352,32766,65535,131071,262143]),(5,[1,2,4,26,45],[]),(6,[1,2,4],[0,0,2,6,14,0,32,96,224,510,1023,2047,4095]),(7,[1,2,4,59],[]),(8,[1,2,4],[0,0,2,6,14,0,32,96,224,480,0,1024,4064,8160,16352,32736,65504,131070,262143,524287,1048575]),(9,[1,4],[0,0,2,6,14,0,62,127,255,511]),(10,[1,92],[]),(12,[],[0,0,2,6,14,0,32,126,255,511,1023]),(13,[1,110],[]),(14,[],[])] U6 [] 114:=
 ⟨Tryz.f79,_,rfl,rfl,rfl,by decide,by kernel_rfl,by kernel_rfl⟩
def LO:IR:=.seq (.dr (r 0 7 (.mv (.t 0)) <| r 1 8 (.nn (.t 7)) <| r 2 9 (.fa 0 (.t 8)) <| r 3 10 (.fa 1 (.t 9)) <| r 4 11 (.l1 (.t 10)) <| r 5 12 (.mv (.t 1)) <| r 6 13 (.nn (.t 12)) <| r 7 14 (.fa 1 (.t 13)) <| r 8 15 (.l1 (.t 14)) <| r 9 16 (.ia 3 (.t 11) (.t 15)) <| r 10 17 (.fa 2 (.t 16)) <| r 11 18 (.l1 (.t 17)) <| r 12 19 (.mv (.t 1)) <| r 13 20 (.nn (.t 19)) <| r 14 21 (.fa 2 (.t 20)) <| r 15 22 (.l1 (.t 21)) <| r 16 23 (.ia 3 (.t 18) (.t 22)) <| r 17 24 (.ln 3 (.t 23)) <| .e 18 none (some 4) (.al 61 (.agg #[(i 0),(i 0),(i 0)])) [4,8,11,15,17] <| .e 19 none none (.st 3 (.t 4) (.t 24)) [] <| .nil) [0,1,4]) <| .seq (.dr (r 0 25 (.mv (.t 0)) <| r 1 26 (.nn (.t 25)) <| r 2 27 (.fa 18 (.t 26)) <| r 3 28 (.l1 (.t 27)) <| r 4 29 (.fa 0 (.t 4)) <| r 5 30 (.l1 (.t 29)) <| r 6 31 (.ia 2 (.t 28) (.t 30)) <| r 7 32 (.ln 2 (.t 31)) <| .e 8 none (some 5) (.al 177 (.agg #[.nilFunc,.nilFunc])) [3,5,7] <| .e 9 none none (.st 2 (.t 5) (.t 32)) [] <| .nil) [0,1,4,5]) <| .seq (z [f 33 0 5,l 34 33,ln 35 3 4,.e (some 36) (.raw ⟨(some 36),(.call { callee:=(.value (.tmp 34)),args:=#[(.tmp 35)],argTypes:=#[61]}),3, "run.go:58",#[⟨1,.data⟩,⟨2,.data⟩],none⟩),m 6 36] [0,1,4,5,6] <| z [bk 38 .gtr 6 0,m' 38 true 40 0,m' 38 true 41 6,.ge 38 true (some 42) (.call 136 [(.t 40),(.t 41)]),yD 38 true 43 42,a 44 38 43] [0,1,4,5,44] <| j 44 (.ret) (.skip)) <| z [n 46 1,f 47 2 46,l 48 47,bk 49 .add 48 1,n 50 1,f 51 2 50,s 1 51 49] [0,1,4,5] <| q [f 52 1 5,l 53 52,m 54 0,m 55 1,ln 56 3 4,.e (some 57) (.raw ⟨(some 57),(.call { callee:=(.value (.tmp 53)),args:=#[(.tmp 54),(.tmp 55),(.tmp 56)],argTypes:=#[68,152,61]}),0, "run.go:62",#[⟨1,.data⟩,⟨2,.data⟩,⟨3,.data⟩,⟨4,.data⟩],none⟩)] []
theorem af6:Fits Tryz.prog 80 2 (bf Tryz.f80 LO) LO [] 58:=.m Tryz.f80 _
def LP:IR:=z [n 9 1,f 10 5 9,l 11 10,c 12 134 [0,11],ex 13 0 12,ex 14 1 12,.e (some 5) (.al 104 (.agg #[(i 0),(i 0),(.slice none 0 0)])),m 4 13,s 3 5 14] [0,1,4,5] <| z [f 15 0 5,l 16 15] [0,1,4,5,16] <| .block 0 (z [bk 20 .eql 16 3,m 19 20] [0,1,4,5,16,19] <| j 19 (z [n 23 1,f 24 4 23,l 25 24,.e (some 27) (.bs 3 1 #[(i 0)] [(0,1,(.t 4))]),.e (some 28) (.ap 3 1 8 #[(i 0)] (.t 25) (.t 27)),n 29 1,f 30 4 29,s 1 30 28] [1,5] <| q [f 32 2 5,l 33 32,.r (some 34) (.ia 1 (.t 33) (k 0)),l 35 34,n 36 1,f 37 5 36,s 1 37 35] []) (z [bk 39 .eql 16 4,m 38 39] [0,1,4,5,16,38] <| j 38 (.seq (q' [m 40 1,n 41 40,f 42 4 41,l 43 42,le 44 43,m 45 0,n 46 45,f 47 0 46,f 48 1 47,l 49 48,f 50 1 5,l 51 50,ia 52 3 49 51,f 53 1 52,l 54 53,bi 55 .geq 44 54] [0,1,4,5,55]) <| j 55 (q [f 59 1 5,l 60 59,c 61 137 [0,1,4,60]] []) (q [c 64 138 [0,1]] [])) (.seq (z [bk 66 .eql 16 1,m 65 66] [0,1,5,16,65] <| j 65 (.skip) (q [bk 67 .eql 16 2,m 65 67] [0,1,5,16,65])) <| j 65 (z [n 69 1,f 70 4 69,l 71 70,le 72 71,bk 73 .gtr 72 0] [0,73] <| j 73 (q [.e (some 75) (.call 132 [(.t 0),(k 5)])] []) (q [c 77 139 [0]] [])) (z [bk 79 .eql 16 8,m 78 79] [0,1,5,16,78] <| j 78 (q [f 82 1 5,l 83 82,c 84 140 [0,1,83]] []) (z [bk 86 .eql 16 6,m 85 86] [0,85] <| j 85 (q [.e (some 88) (.call 132 [(.t 0),(k 5)])] []) (q [.e (some 18) (.call 132 [(.t 0),(k 4)])] []))))))
theorem af7:Fits Tryz.prog 81 2 (bf Tryz.f81 LP) LP [] 89:=.m Tryz.f81 _
def U7:IR:=z [bi 17 .lss 16 15] [0,3,14,15,16,17] <| .seq (j 17 (.skip) ((.exit 0))) <| .seq (.block 1 (z [ia 18 1 14 16,l 19 18,m 5 19] [0,3,5,14,15,16] <| z [n 22 5,f 23 4 22,l 24 23,.e (some 25) (.ap 3 1 8 #[(i 0)] (.t 3) (.t 24)),m 3 25] [0,3,5,14,15,16] <| z [n 28 5,f 29 3 28,l 30 29,.e (some 31) (.ap 3 1 8 #[(i 0)] (.t 3) (.t 30)),m 3 31] [0,3,5,14,15,16] <| q [n 34 5,f 35 5 34,l 36 35,.e (some 37) (.bs 3 1 #[(i 0)] [(0,1,(.t 36))]),.e (some 38) (.ap 3 1 8 #[(i 0)] (.t 3) (.t 37)),m 3 38] [0,3,14,15,16])) <| q [bk 39 .add 16 1,m 16 39] [0,3,14,15,16]
def LQ:IR:=z [] [0] <| z [n 7 0,f 8 9 7,l 9 8,c 10 39 [9],m 3 10] [0,3] <| .seq (z [n 12 0,f 13 10 12,l 14 13,le 15 14,mk 16 0] [0,3,14,15,16] <| .block 0 (.loop U7)) <| z [n 42 0,f 43 11 42,l 44 43,.e (some 45) (.ap 3 1 8 #[(i 0)] (.t 3) (.t 44)),m 2 45] [2] <| .ret
theorem af8:Fits Tryz.prog 82 1 (bf Tryz.f82 LQ) LQ [.t 2] 46:=.m Tryz.f82 _
def U8:IR:=z [bi 20 .lss 19 18] [0,1,17,18,19,20] <| .seq (j 20 (.skip) ((.exit 0))) <| .seq (.block 1 (z [ia 21 1 17 19,l 22 21,m 5 22] [0,1,5,17,18,19] <| z [n 25 5,f 26 4 25,l 27 26,.e (some 29) (.cp 1 (.t 27) (.t 1)),.r (some 30) (.sl 1 (.t 1) (some (.t 29)) none none),m 1 30] [0,1,5,17,18,19] <| z [n 33 5,f 34 3 33,l 35 34,.e (some 37) (.cp 1 (.t 35) (.t 1)),.r (some 38) (.sl 1 (.t 1) (some (.t 37)) none none),m 1 38] [0,1,5,17,18,19] <| q' [m 39 5,m 40 1,.r (some 41) (.ia 1 (.t 40) (k 0)),l 42 41,m 43 1,.r (some 44) (.sl 1 (.t 43) (some (k 1)) none none),n 45 39,f 46 5 45,s 1 46 42,m 1 44] [0,1,17,18,19])) <| q [bk 47 .add 19 1,m 19 47] [0,1,17,18,19]
def LS:IR:=z [n 8 0,f 9 9 8,l 10 9,.e (some 12) (.cp 1 (.t 10) (.t 1)),.r (some 13) (.sl 1 (.t 1) (some (.t 12)) none none),m 1 13] [0,1] <| .seq (z [n 15 0,f 16 10 15,l 17 16,le 18 17,mk 19 0] [0,1,17,18,19] <| .block 0 (.loop U8)) <| q [n 49 0,f 50 11 49,l 51 50,.e (some 53) (.cp 1 (.t 51) (.t 1))] []
theorem af9:Fits Tryz.prog 83 2 (bf Tryz.f83 LS) LS [] 54:=.m Tryz.f83 _
def U9:IR:=z [bi 10 .lss 9 8] [1,3,7,8,9,10] <| .seq (j 10 (.skip) ((.exit 0))) <| .seq (.block 1 (z [ia 11 3 7 9,ln 12 3 11,.e (some 5) (.al 59 (.agg #[(.string ⟨#[]⟩),(i 0),(.slice none 0 0)])),s 3 5 12] [1,3,5,7,8,9] <| z [f 14 2 5,l 15 14,le 16 15,bi 17 .add 3 16,m 3 17] [1,3,5,7,8,9] <| z [f 18 2 5,l 19 18,le 20 19,bk 21 .gtr 20 8000] [1,3,7,8,9,21] <| j 21 (z [.r (some 2) (.mv (.c (.bool true)))] [2] <| .ret) (.skip))) <| q [bk 22 .add 9 1,m 9 22] [1,3,7,8,9]
def LU:IR:=z [.e (some 1) (.bx 25 (.t 0))] [1] <| z [mk 3 0] [1,3] <| .seq (z [f 6 1 1,l 7 6,le 8 7,mk 9 0] [1,3,7,8,9] <| .block 0 (.loop U9)) <| z [f 23 0 1,l 24 23,le 25 24,bk 26 .gtr 25 2000,f' 26 false 28 1 1,l' 26 false 29 28,jS 26 false 30 29,di 26 false 31 .gtr 30 2000,u 32 26 31,m' 32 false 34 3,di 32 false 35 .gtr 34 200000,u 36 32 35,m 2 36] [2] <| .ret
theorem af':Fits Tryz.prog 103 1 (bf Tryz.f103 LU) LU [.t 2] 37:=.m Tryz.f103 _
def U':IR:=z [bi 7 .lss 6 5] [0,5,6,7] <| .seq (j 7 (.skip) ((.exit 0))) <| .seq (.block 1 (z [m 3 6] [0,3,5,6] <| z [.r (some 11) (.wC (.t 0) (.t 3)),.r (some 12) (.bi .lss (.t 11) (.c (.int .u8 32))),m' 12 false 14 0,m' 12 false 15 3,.gr 12 false (some 16) (.wC (.t 14) (.t 15)),.gr 12 false (some 17) (.bi .gtr (.t 16) (.c (.int .u8 126))),u 18 12 17] [0,5,6,18] <| j 18 (z [.r (some 2) (.mv (.c (.bool false)))] [2] <| .ret) (.skip))) <| q [bk 19 .add 6 1,m 6 19] [0,5,6]
def LV:IR:=z [] [0] <| .seq (z [.r (some 5) (.tA (.t 0)),mk 6 0] [0,5,6] <| .block 0 (.loop U')) <| z [.r (some 21) (.tA (.t 0)),bk 22 .geq 21 1,m' 22 true 24 0,.gr 22 true (some 25) (.tA (.t 24)),di 22 true 26 .leq 25 4096,a 27 22 26,m 2 27] [2] <| .ret
theorem aga:Fits Tryz.prog 104 1 (bf Tryz.f104 LV) LV [.t 2] 28:=.m Tryz.f104 _
def LW:IR:=z [] [] <| z [.r (some 1) (.bd #[(.string ⟨#[]⟩),(i 0)] [(0,1,(.c (.string ⟨#[70,97,108,115,101]⟩)))]),.r (some 2) (.bd #[(.string ⟨#[]⟩),(i 0)] [(0,1,(.c (.string ⟨#[84,114,117,101]⟩)))]),.r (some 3) (.bd #[(.string ⟨#[]⟩),(i 0)] [(0,1,(.c (.string ⟨#[85,110,105,116]⟩)))]),.r (some 4) (.bd #[(.string ⟨#[]⟩),(i 0)] [(0,1,(.c (.string ⟨#[78,105,108]⟩)))]),.r (some 5) (.bd #[(.string ⟨#[]⟩),(i 0)] [(0,1,(.c (.string ⟨#[67,111,110,115]⟩))),(1,1,(k 2))]),.r (some 6) (.bd #[(.string ⟨#[]⟩),(i 0)] [(0,1,(.c (.string ⟨#[80,97,105,114]⟩))),(1,1,(k 2))]),.r (some 7) (.bd #[(.string ⟨#[]⟩),(i 0)] [(0,1,(.c (.string ⟨#[84,114,105,112,108,101]⟩))),(1,1,(k 3))]),.e (some 8) (.bs 47 7 #[(.string ⟨#[]⟩),(i 0),(.string ⟨#[]⟩),(i 0),(.string ⟨#[]⟩),(i 0),(.string ⟨#[]⟩),(i 0),(.string ⟨#[]⟩),(i 0),(.string ⟨#[]⟩),(i 0),(.string ⟨#[]⟩),(i 0)] [(0,2,(.t 1)),(2,2,(.t 2)),(4,2,(.t 3)),(6,2,(.t 4)),(8,2,(.t 5)),(10,2,(.t 6)),(12,2,(.t 7))]),m 0 8] [0] <| .ret
theorem agb:Fits Tryz.prog 105 0 (bf Tryz.f105 LW) LW [.t 0] 9:=.m Tryz.f105 _
def LX:IR:=z [bi 23 .lss 22 21] [2,3,20,21,22,23] <| .seq (j 23 (.skip) ((.exit 0))) <| .seq (.block 1 (z [ia 25 3 20 22,ln 26 3 25,.e (some 6) (.al 61 (.agg #[(i 0),(i 0),(i 0)])),m 5 22,s 3 6 26] [2,3,5,6,20,21,22] <| z [f 28 0 6,l 29 28,c 30 147 [29],ex 31 0 30,ex 32 1 30,.e (some 7) (.al 194 (.agg #[(.string ⟨#[]⟩),(i 0),(i 0)])),s 3 7 31,m 8 32] [2,3,5,6,7,8,20,21,22] <| .seq (z [no 34 8] [2,3,5,6,7,20,21,22,34] <| j 34 (z [mk 4 172] [4] <| .ret) (.skip)) <| .seq (.dr (r 0 35 (.ln 2 (.t 2)) <| r 1 36 (.ln 3 (.t 3)) <| r 2 37 (.mv (.t 5)) <| r 3 38 (.fa 1 (.t 6)) <| r 4 39 (.l1 (.t 38)) <| r 5 40 (.fa 1 (.t 7)) <| r 6 41 (.l1 (.t 40)) <| r 8 43 (.ln 2 (.t 2)) <| r 9 44 (.ln 3 (.t 3)) <| r 10 45 (.mv (.t 5)) <| r 11 46 (.fa 2 (.t 6)) <| r 12 47 (.l1 (.t 46)) <| r 13 48 (.fa 2 (.t 7)) <| r 14 49 (.l1 (.t 48)) <| .e 7 none (some 42) (.call 148 [(.t 35),(.t 36),(.t 37),(.t 39),(.t 41)]) [8,9,12,14] <| .e 15 none (some 50) (.call 148 [(.t 43),(.t 44),(.t 45),(.t 47),(.t 49)]) [] <| r 16 9 (.mv (.t 42)) <| r 17 10 (.mv (.t 50)) <| .nil) [2,3,9,10,20,21,22]) <| .seq (z [bk 52 .eql 9 172,m' 52 false 54 10,di 52 false 55 .eql 54 172,u 56 52 55] [2,3,9,10,20,21,22,56] <| j 56 (z [mk 4 172] [4] <| .ret) (.skip)) <| z [bk 58 .neq 9 0,m' 58 false 60 10,di 58 false 61 .neq 60 0,u 62 58 61] [2,3,20,21,22,62] <| j 62 (z [mk 4 174] [4] <| .ret) (.skip))) <| q [bk 63 .add 22 1,m 22 63] [2,3,20,21,22]
def LY:IR:=z [bi 81 .lss 80 79] [2,3,11,78,79,80,81] <| .seq (j 81 (.skip) ((.exit 2))) <| .seq (.block 3 (z [ia 83 3 78 80,ln 84 3 83,.e (some 13) (.al 61 (.agg #[(i 0),(i 0),(i 0)])),m 12 80,s 3 13 84] [2,3,11,12,13,78,79,80] <| z [ia 87 1 11 12,l 88 87,m 14 88] [2,3,11,12,13,14,78,79,80] <| .seq (z [bk 90 .eql 14 0] [2,3,11,12,13,14,78,79,80,90] <| j 90 (z [mk 4 174] [4] <| .ret) (.skip)) <| z [ln 92 2 2,ln 93 3 13,c 95 149 [92,93,14],ex 96 0 95,ex 97 1 95,m 15 96,m 16 97] [2,3,11,12,13,15,16,78,79,80] <| .seq (z [no 99 16] [2,3,11,12,13,15,78,79,80,99] <| j 99 (z [mk 4 173] [4] <| .ret) (.skip)) <| z [f 100 0 13,l 101 100,bk 102 .neq 101 13,f' 102 true 104 0 13,l' 102 true 105 104,di 102 true 106 .neq 105 16,a 107 102 106,f' 107 true 109 0 13,l' 107 true 110 109,di 107 true 111 .neq 110 17,a 112 107 111,m 17 112] [2,3,11,12,13,15,17,78,79,80] <| .seq (z [m' 17 true 115 12,di 17 true 116 .add 115 1,f' 17 true 117 2 3,l' 17 true 118 117,jS 17 true 119 118,gJ 17 true 120 .eql 116 119,a 121 17 120] [2,3,11,12,13,15,17,78,79,80,121] <| j 121 (z [mk 4 174] [4] <| .ret) (.skip)) <| .seq (z [m' 17 true 124 11,m' 17 true 125 12,di 17 true 126 .add 125 1,m' 17 true 127 15,.ge 17 true (some 128) (.call 150 [(.t 124),(.t 126),(.t 127)]),yD 17 true 129 128,a 130 17 129] [2,3,11,13,15,78,79,80,130] <| j 130 (z [mk 4 173] [4] <| .ret) (.skip)) <| z [mk 18 0] [2,3,11,13,15,18,78,79,80] <| .seq (z [f 131 0 13,l 132 131] [2,3,11,13,15,18,78,79,80,132] <| .block 4 (z [bk 134 .eql 132 13,m 133 134] [2,3,11,13,15,18,78,79,80,132,133] <| j 133 (q [f 135 1 13,l 136 135,m 18 136] [2,3,11,15,18,78,79,80]) (.seq (z [bk 138 .eql 132 14,m 137 138] [2,3,11,13,15,18,78,79,80,132,137] <| j 137 (.skip) (q [bk 139 .eql 132 15,m 137 139] [2,3,11,13,15,18,78,79,80,137])) <| j 137 (q [f 140 2 13,l 141 140,m 18 141] [2,3,11,15,18,78,79,80]) (.skip)))) <| z [bk 143 .gtr 18 0,m' 143 true 145 11,m' 143 true 146 18,m' 143 true 147 15,.ge 143 true (some 148) (.call 150 [(.t 145),(.t 146),(.t 147)]),yD 143 true 149 148,a 150 143 149] [2,3,11,78,79,80,150] <| j 150 (z [mk 4 173] [4] <| .ret) (.skip))) <| q [bk 151 .add 80 1,m 80 151] [2,3,11,78,79,80]
def LZ:IR:=z [.e (some 2) (.bx 25 (.t 0)),.e (some 3) (.bx 59 (.t 1))] [2,3] <| .seq (z [f 19 2 3,l 20 19,le 21 20,mk 22 0] [2,3,20,21,22] <| .block 0 (.loop LX)) <| .seq (z [f 64 2 3,l 65 64,le 66 65,bk 67 .eql 66 0] [2,3,67] <| j 67 (z [mk 4 174] [4] <| .ret) (.skip)) <| z [f 68 2 3,l 69 68,le 70 69,.e (some 71) (.ms 3 1 8 #[(i 0)] (.t 70) (.t 70)),m 11 71] [2,3,11] <| z [f 73 1 3,l 74 73,bk 75 .add 74 1,.r (some 76) (.ia 1 (.t 11) (k 0)),s 1 76 75] [2,3,11] <| .seq (z [f 77 2 3,l 78 77,le 79 78,mk 80 0] [2,3,11,78,79,80] <| .block 2 (.loop LY)) <| z [mk 4 0] [4] <| .ret
theorem agc:Fits Tryz.prog 106 2 (bf Tryz.f106 LZ) LZ [.t 4] 152:=.m Tryz.f106 _
def L0:IR:=z [.e (some 1) (.bx 61 (.t 0))] [] <| z [mk 2 0] [2] <| .ret
theorem agd:Fits Tryz.prog 109 1 (bf Tryz.f109 L0) L0 [.t 2] 3:=.m Tryz.f109 _
def L1:IR:=z [.e (some 5) (.bx 61 (.t 2))] [1,5] <| q [f 8 1 5,l 9 8,c 10 112 [1,9],c 11 111 [1,10]] []
theorem age:Fits Tryz.prog 110 3 (bf Tryz.f110 L1) L1 [] 12:=.m Tryz.f110 _
def Gx:IR:=q [n 6 0,f 7 3 6,l 8 7,.e (some 10) (.bs 3 1 #[(i 0)] [(0,1,(.t 1))]),.e (some 11) (.ap 3 1 8 #[(i 0)] (.t 8) (.t 10)),n 12 0,f 13 3 12,s 1 13 11] []
theorem Va:Fits Tryz.prog 111 2 (bf Tryz.f111 Gx) Gx [] 14:=.m Tryz.f111 _
def L2:IR:=z [] [0,1] <| .seq (q' [m 5 0,n 6 5,f 7 3 6,l 8 7,m 9 0,n 10 9,f 11 3 10,l 12 11,le 13 12,bk 14 .sub 13 1,m 15 1,bi 16 .sub 14 15,ia 17 1 8 16,l 18 17,m 4 18] [4]) <| .ret
theorem agf:Fits Tryz.prog 112 2 (bf Tryz.f112 L2) L2 [.t 4] 19:=.m Tryz.f112 _
def L3:IR:=z [.e (some 5) (.bx 61 (.t 2))] [0,1,5] <| q' [m 6 1,m 7 0,n 8 7,f 9 9 8,l 10 9,f 11 1 5,l 12 11,ia 13 1 10 12,l 14 13,c 15 111 [6,14]] []
theorem agh:Fits Tryz.prog 113 3 (bf Tryz.f113 L3) L3 [] 16:=.m Tryz.f113 _
def L4:IR:=z [.e (some 1) (.bx 61 (.t 0))] [] <| z [mk 2 1] [2] <| .ret
theorem agi:Fits Tryz.prog 114 1 (bf Tryz.f114 L4) L4 [.t 2] 3:=.m Tryz.f114 _
def L5:IR:=z [.e (some 5) (.bx 61 (.t 2))] [0,1,5] <| q [f 8 1 5,l 9 8,.e (some 10) (.call 116 [(.t 0),(k 1),(.t 9),(.c (.slice none 0 0))]),c 11 111 [1,10]] []
theorem agj:Fits Tryz.prog 115 3 (bf Tryz.f115 L5) L5 [] 12:=.m Tryz.f115 _
def Gy:IR:=z [] [0,1,2,3] <| z [m 12 0,n 13 12,f 14 6 13,l 15 14,m 16 1,m 17 2,m 18 3,.r (some 19) (.bd #[(i 0),(i 0),(.slice none 0 0)] [(0,1,(.t 16)),(1,1,(.t 17)),(2,1,(.t 18))]),.e (some 20) (.raw ⟨(some 20),(.call { callee:=(.invoke (.tmp 15) "Add"),args:=#[(.tmp 19)],argTypes:=#[104]}),105, "machine.go:166",#[⟨3,.data⟩,⟨7,.data⟩],none⟩),m 11 20,ex 21 0 11,ex 22 1 11,m 9 21,m 10 22] [9] <| z [m 8 9] [8] <| .ret
theorem Vb:Fits Tryz.prog 116 4 (bf Tryz.f116 Gy) Gy [.t 8] 24:=.m Tryz.f116 _
def L6:IR:=z [.e (some 5) (.bx 61 (.t 2))] [1,5] <| q [f 7 1 5,l 8 7,c 9 118 [1,8]] []
theorem agk:Fits Tryz.prog 117 3 (bf Tryz.f117 L6) L6 [] 10:=.m Tryz.f117 _
def L7:IR:=q' [m 4 0,m 5 0,n 6 5,f 7 3 6,l 8 7,m 9 0,n 10 9,f 11 3 10,l 12 11,le 13 12,m 14 1,bi 15 .sub 13 14,.r (some 16) (.sl 1 (.t 8) none (some (.t 15)) none),n 17 4,f 18 3 17,s 1 18 16] []
theorem agl:Fits Tryz.prog 118 2 (bf Tryz.f118 L7) L7 [] 19:=.m Tryz.f118 _
def L8:IR:=z [.e (some 5) (.bx 61 (.t 2))] [1,5] <| z [.e (some 8) (.call 112 [(.t 1),(k 0)]),m 6 8] [1,5,6] <| z [f 10 1 5,l 11 10,bk 12 .add 11 1,c 13 118 [1,12]] [1,6] <| q [c 16 111 [1,6]] []
theorem agm:Fits Tryz.prog 119 3 (bf Tryz.f119 L8) L8 [] 17:=.m Tryz.f119 _
def L9:IR:=z [.e (some 5) (.bx 61 (.t 2))] [0,1] <| z [.e (some 9) (.call 112 [(.t 1),(k 0)]),.e (some 11) (.call 112 [(.t 1),(k 1)]),.e (some 12) (.bs 3 2 #[(i 0),(i 0)] [(0,1,(.t 9)),(1,1,(.t 11))]),.e (some 13) (.call 116 [(.t 0),(k 3),(k 0),(.t 12)]),m 6 13] [1,6] <| z [.e (some 15) (.call 118 [(.t 1),(k 2)])] [1,6] <| q [c 18 111 [1,6]] []
theorem agn:Fits Tryz.prog 120 3 (bf Tryz.f120 L9) L9 [] 19:=.m Tryz.f120 _
def L':IR:=z [.e (some 5) (.bx 61 (.t 2))] [0,1,5] <| z [f 13 1 5,l 14 13,c 15 112 [1,14],c 16 134 [0,15],ex 17 0 16,ex 18 1 16,.e (some 7) (.al 104 (.agg #[(i 0),(i 0),(.slice none 0 0)])),m 6 17,s 3 7 18] [0,1,6] <| z [.e (some 22) (.call 112 [(.t 1),(k 0)]),c 23 134 [0,22],ex 24 0 23,ex 25 1 23,.e (some 9) (.al 104 (.agg #[(i 0),(i 0),(.slice none 0 0)])),m 8 24,s 3 9 25] [0,1,6,8] <| z [m 26 0,n 27 26,f 28 6 27,l 29 28,m 30 6,m 31 8,.e (some 32) (.bs 3 1 #[(i 0)] [(0,1,(.t 31))]),.r (some 33) (.bd #[(i 0),(i 0),(.slice none 0 0)] [(0,1,(k 5)),(2,1,(.t 32))]),.e (some 34) (.raw ⟨(some 34),(.call { callee:=(.invoke (.tmp 29) "Set"),args:=#[(.tmp 30),(.tmp 33)],argTypes:=#[3,104]}),33, "run.go:80",#[⟨3,.data⟩,⟨4,.data⟩,⟨7,.data⟩],none⟩)] [1] <| q [.e (some 36) (.call 118 [(.t 1),(k 1)])] []
theorem ago:Fits Tryz.prog 121 3 (bf Tryz.f121 L') L' [] 37:=.m Tryz.f121 _
def Ma:IR:=z [.e (some 1) (.bx 61 (.t 0))] [1] <| z [f 3 1 1,l 4 3,m 2 4] [2] <| .ret
theorem agp:Fits Tryz.prog 122 1 (bf Tryz.f122 Ma) Ma [.t 2] 5:=.m Tryz.f122 _
def Vc:IR:=z [bi 9 .lss 8 7] [0,1,7,8,9] <| .seq (j 9 (.skip) ((.exit 0))) <| .seq (.block 1 (q [.e (some 12) (.call 116 [(.t 0),(k 6),(k 0),(.c (.slice none 0 0))]),c 13 111 [1,12]] [0,1,7,8])) <| q [bk 14 .add 8 1,m 8 14] [0,1,7,8]
def Mb:IR:=z [.e (some 5) (.bx 61 (.t 2))] [0,1,5] <| z [f 6 1 5,l 7 6,mk 8 0] [0,1,7,8] <| .block 0 (.loop Vc)
theorem agq:Fits Tryz.prog 123 3 (bf Tryz.f123 Mb) Mb [] 15:=.m Tryz.f123 _
def Vd:IR:=z [bi 23 .lss 22 21] [0,1,5,6,21,22,23] <| .seq (j 23 (.skip) ((.exit 0))) <| .seq (.block 1 (z [m 7 22] [0,1,5,6,7,21,22] <| q [c 29 112 [1,7],ia 30 1 6 7,s 1 30 29] [0,1,5,6,21,22])) <| q [bk 31 .add 22 1,m 22 31] [0,1,5,6,21,22]
def Md:IR:=z [.e (some 5) (.bx 61 (.t 2))] [0,1,5] <| .seq (q' [m 9 0,n 10 9,f 11 0 10,f 12 0 11,l 13 12,f 14 1 5,l 15 14,ia 16 2 13 15,f 17 1 16,l 18 17,.e (some 19) (.ms 3 1 8 #[(i 0)] (.t 18) (.t 18)),m 6 19] [0,1,5,6]) <| .seq (z [le 21 6,mk 22 0] [0,1,5,6,21,22] <| .block 0 (.loop Vd)) <| z [f 33 1 5,l 34 33,.e (some 36) (.call 116 [(.t 0),(k 2),(.t 34),(.t 6)]),m 8 36] [1,6,8] <| z [le 39 6,c 40 118 [1,39]] [1,8] <| q [c 43 111 [1,8]] []
theorem agr:Fits Tryz.prog 124 3 (bf Tryz.f124 Md) Md [] 44:=.m Tryz.f124 _
def Ve:IR:=.block 1 (q [l 52 4,c 54 111 [52,9]] [])
def Vf:K:=.seq (.ir (q [.e (some 4) (.bx 152 (.t 1)),.e (some 5) (.bx 61 (.t 2))] [0,4,5])) <| .seq (.ir (q [l 12 4,.e (some 13) (.call 112 [(.t 12),(k 0)]),c 14 134 [0,13],ex 15 0 14,ex 16 1 14,.e (some 7) (.al 104 (.agg #[(i 0),(i 0),(.slice none 0 0)])),s 3 7 16] [0,4,5,7])) <| .seq (.ir (.seq (q' [f 17 0 7,l 18 17,bk 19 .neq 18 2,m 20 19,f' 20 false 21 1 7,l' 20 false 22 21,f' 20 false 23 1 5,l' 20 false 24 23,gJ 20 false 25 .neq 22 24,u 26 20 25,m 27 26,f' 27 false 28 2 7,l' 27 false 29 28,jS 27 false 30 29,m' 27 false 31 0,n' 27 false 32 31,f' 27 false 33 0 32,f' 27 false 34 0 33,l' 27 false 35 34,f' 27 false 36 1 5,l' 27 false 37 36,uW 27 false 38 2 35 37,f' 27 false 39 1 38,l' 27 false 40 39,gJ 27 false 41 .neq 30 40,u 42 27 41] [0,4,7,42]) <| j 42 (z [.e (some 44) (.call 132 [(.t 0),(k 5)])] [] <| .ret) (.skip))) <| .seq (.ir (q [l 45 4,.e (some 46) (.call 118 [(.t 45),(k 1)])] [4,7])) <| .seq (.ir (q [f 47 2 7,l 48 47,c 49 135 [48]] [4,49])) <| .fO 0 (.Fx 49 50 51 9 Ve)
theorem ags:Fy Tryz.prog 125 3 [(0,[0,4,5],[]),(1,[0,4,5,7],[]),(2,[0,4,7,42],[0,1,3,7,15,31,15,79,255,511,1023,2047,4095,8191,2047,18431,51199,116735,247807,2047,526335,2082815,4179967,8374271,16777215,33554431]),(3,[],[]),(4,[4,7],[]),(5,[4,49],[]),(7,[],[])] Vf [] 55:=
 ⟨Tryz.f125,_,rfl,rfl,rfl,by decide,by kernel_rfl,by kernel_rfl⟩
def Me:IR:=z [.e (some 5) (.bx 61 (.t 2))] [0,1] <| z [.e (some 11) (.call 112 [(.t 1),(k 0)]),c 12 134 [0,11],ex 13 0 12,ex 14 1 12,.e (some 7) (.al 104 (.agg #[(i 0),(i 0),(.slice none 0 0)])),s 3 7 14] [0,1,7] <| z [f 15 0 7,l 16 15,bk 17 .neq 16 1,f' 17 true 19 0 7,l' 17 true 20 19,di 17 true 21 .neq 20 2,a 22 17 21] [0,1,22] <| j 22 (.dr (r 0 23 (.mv (.t 0)) <| r 1 24 (.mv (.t 0)) <| r 2 25 (.nn (.t 24)) <| r 3 26 (.fa 10 (.t 25)) <| r 4 27 (.l1 (.t 26)) <| r 5 28 (.mv (.t 1)) <| .e 6 none (some 29) (.call 112 [(.t 28),(k 0)]) [4] <| r 7 30 (.bd #[(.bool false),(i 0),(i 0),(.slice none 0 0),(.slice none 0 0),(i 0)] [(5,1,(.t 29))]) <| .e 8 none (some 31) (.bx 151 (.t 30)) [4] <| .e 9 none (some 32) (.bs 152 1 #[(.pointer none)] [(0,1,(.t 31))]) [4] <| .e 10 none (some 33) (.ap 152 1 8 #[(.pointer none)] (.t 27) (.t 32)) [] <| r 11 34 (.nn (.t 23)) <| r 12 35 (.fa 10 (.t 34)) <| .e 13 none none (.st 1 (.t 35) (.t 33)) [] <| .nil) []) (.skip)
theorem agt:Fits Tryz.prog 126 3 (bf Tryz.f126 Me) Me [] 36:=.m Tryz.f126 _
def Mg:IR:=z [.e (some 5) (.bx 61 (.t 2))] [0,1,5] <| z [.e (some 14) (.call 112 [(.t 1),(k 0)]),c 15 134 [0,14],ex 16 0 15,ex 17 1 15,.e (some 7) (.al 104 (.agg #[(i 0),(i 0),(.slice none 0 0)])),s 3 7 17] [0,1,5,7] <| z [.e (some 21) (.call 112 [(.t 1),(k 1)]),c 22 134 [0,21],ex 23 0 22,ex 24 1 22,.e (some 9) (.al 104 (.agg #[(i 0),(i 0),(.slice none 0 0)])),s 3 9 24] [0,1,5,7,9] <| z [mk 10 0] [0,1,5,7,9,10] <| .seq (.block 0 (z [f 28 0 7,l 29 28,bk 30 .neq 29 1,f' 30 false 32 0 9,l' 30 false 33 32,di 30 false 34 .neq 33 1,u 35 30 34,m 27 35] [0,1,5,7,9,10,27] <| j 27 (q [.e (some 37) (.call 132 [(.t 0),(k 5)])] [0,1,10]) (z [f 39 1 5,l 40 39,bk 41 .eql 40 4,f' 41 false 43 1 5,l' 41 false 44 43,di 41 false 45 .eql 44 5,u 46 41 45,f' 46 true 48 1 9,l' 46 true 49 48,di 46 true 50 .eql 49 0,a 51 46 50,m 38 51] [0,1,5,7,9,10,38] <| j 38 (q [.e (some 53) (.call 132 [(.t 0),(k 3)])] [0,1,10]) (z [f 55 1 5,l 56 55,bk 57 .eql 56 1,m 54 57] [0,1,5,7,9,54] <| j 54 (q [f 59 1 7,l 60 59,f 61 1 9,l 62 61,bi 63 .add 60 62,c 64 151 [63],.e (some 65) (.call 116 [(.t 0),(k 1),(.t 64),(.c (.slice none 0 0))]),m 10 65] [0,1,10]) (z [f 67 1 5,l 68 67,bk 69 .eql 68 2,m 66 69] [0,1,5,7,9,66] <| j 66 (q [f 71 1 7,l 72 71,f 73 1 9,l 74 73,bi 75 .sub 72 74,c 76 151 [75],.e (some 77) (.call 116 [(.t 0),(k 1),(.t 76),(.c (.slice none 0 0))]),m 10 77] [0,1,10]) (z [f 79 1 5,l 80 79,bk 81 .eql 80 3,m 78 81] [0,1,5,7,9,78] <| j 78 (q [f 83 1 7,l 84 83,f 85 1 9,l 86 85,bi 87 .mul 84 86,c 88 151 [87],.e (some 89) (.call 116 [(.t 0),(k 1),(.t 88),(.c (.slice none 0 0))]),m 10 89] [0,1,10]) (z [f 91 1 5,l 92 91,bk 93 .eql 92 4,m 90 93] [0,1,5,7,9,90] <| j 90 (q [f 95 1 7,l 96 95,f 97 1 9,l 98 97,bi 99 .quo 96 98,c 100 151 [99],.e (some 101) (.call 116 [(.t 0),(k 1),(.t 100),(.c (.slice none 0 0))]),m 10 101] [0,1,10]) (z [f 103 1 5,l 104 103,bk 105 .eql 104 5,m 102 105] [0,1,5,7,9,102] <| j 102 (q [f 107 1 7,l 108 107,f 109 1 9,l 110 109,bi 111 .rem 108 110,c 112 151 [111],.e (some 113) (.call 116 [(.t 0),(k 1),(.t 112),(.c (.slice none 0 0))]),m 10 113] [0,1,10]) (z [f 115 1 5,l 116 115,f 117 1 7,l 118 117,f 119 1 9,l 120 119,c 121 152 [116,118,120],m 114 121] [0,1,114] <| j 114 (q [.e (some 123) (.call 116 [(.t 0),(k 2),(k 1),(.c (.slice none 0 0))]),m 10 123] [0,1,10]) (q [.e (some 26) (.call 116 [(.t 0),(k 2),(k 0),(.c (.slice none 0 0))]),m 10 26] [0,1,10])))))))))) <| z [n 125 0,f 126 15 125,l 127 126,bk 128 .eql 127 0] [1,10,128] <| j 128 (z [.e (some 130) (.call 118 [(.t 1),(k 2)])] [1,10] <| q [c 133 111 [1,10]] []) (.skip)
theorem agu:Fits Tryz.prog 127 3 (bf Tryz.f127 Mg) Mg [] 134:=.m Tryz.f127 _
def Mh:IR:=z [.e (some 5) (.bx 61 (.t 2))] [1,5] <| q [f 7 1 5,l 8 7,n 9 1,f 10 2 9,s 1 10 8] []
theorem agv:Fits Tryz.prog 128 3 (bf Tryz.f128 Mh) Mh [] 11:=.m Tryz.f128 _
def Mi:IR:=z [.e (some 5) (.bx 61 (.t 2))] [0,1,5] <| z [.e (some 11) (.call 112 [(.t 1),(k 0)]),c 12 134 [0,11],ex 13 0 12,ex 14 1 12,.e (some 7) (.al 104 (.agg #[(i 0),(i 0),(.slice none 0 0)])),s 3 7 14] [0,1,5,7] <| .block 0 (z [f 16 0 7,l 17 16,bk 18 .neq 17 2,m 15 18] [0,1,5,7,15] <| j 15 (q [.e (some 20) (.call 132 [(.t 0),(k 5)])] []) (z [f 22 1 7,l 23 22,f 24 1 5,l 25 24,bi 26 .neq 23 25,m 21 26] [1,5,21] <| j 21 (q [f 28 2 5,l 29 28,n 30 1,f 31 2 30,s 1 31 29] []) (.skip)))
theorem agw:Fits Tryz.prog 129 3 (bf Tryz.f129 Mi) Mi [] 32:=.m Tryz.f129 _
def Mj:IR:=z [.e (some 5) (.bx 61 (.t 2))] [0,1,5] <| z [.e (some 11) (.call 112 [(.t 1),(k 0)]),c 12 134 [0,11],ex 13 0 12,ex 14 1 12,.e (some 7) (.al 104 (.agg #[(i 0),(i 0),(.slice none 0 0)])),s 3 7 14] [0,1,5,7] <| .block 0 (z [f 16 0 7,l 17 16,bk 18 .neq 17 1,m 15 18] [0,1,5,7,15] <| j 15 (q [.e (some 20) (.call 132 [(.t 0),(k 5)])] []) (z [f 22 1 7,l 23 22,f 24 1 5,l 25 24,bi 26 .neq 23 25,m 21 26] [1,5,21] <| j 21 (q [f 28 2 5,l 29 28,n 30 1,f 31 2 30,s 1 31 29] []) (.skip)))
theorem agx:Fits Tryz.prog 130 3 (bf Tryz.f130 Mj) Mj [] 32:=.m Tryz.f130 _
def Mk:IR:=z [.e (some 5) (.bx 61 (.t 2))] [0,5] <| q [f 7 1 5,l 8 7,c 9 132 [0,8]] []
theorem agy:Fits Tryz.prog 131 3 (bf Tryz.f131 Mk) Mk [] 10:=.m Tryz.f131 _
def Ml:IR:=q [n 7 0,f 8 15 7,.e none (.st 1 (.t 8) (k 3)),n 9 0,f 10 16 9,s 1 10 1] []
theorem agz:Fits Tryz.prog 132 2 (bf Tryz.f132 Ml) Ml [] 11:=.m Tryz.f132 _
def Mm:IR:=z [.e (some 5) (.bx 61 (.t 2))] [1] <| q [n 10 1,f 11 3 10,l 12 11,.r (some 13) (.ia 1 (.t 12) (k 0)),l 14 13,n 15 1,f 16 0 15,.e none (.st 1 (.t 16) (.c (.bool false))),n 17 1,f 18 5 17,s 1 18 14,n 19 1,f 20 3 19,.e none (.st 1 (.t 20) (.c (.slice none 0 0)))] []
theorem agA:Fits Tryz.prog 133 3 (bf Tryz.f133 Mm) Mm [] 21:=.m Tryz.f133 _
def Vg:IR:=.seq (z [f 17 0 6,l 18 17,bk 19 .eql 18 5,f' 19 true 21 2 6,l' 19 true 22 21,.gr 19 true (some 23) (.ia 1 (.t 22) (k 0)),l' 19 true 24 23,m' 19 true 25 1,gJ 19 true 26 .neq 24 25,a 27 19 26] [0,1,5,6,27] <| j 27 (.skip) ((.exit 0))) <| .block 1 (z [f 28 2 6,l 29 28,.r (some 30) (.ia 1 (.t 29) (k 0)),l 31 30,m 1 31] [0,1,5,6] <| q [m 33 0,n 34 33,f 35 6 34,l 36 35,m 37 1,.e (some 38) (.raw ⟨(some 38),(.call { callee:=(.invoke (.tmp 36) "Get"),args:=#[(.tmp 37)],argTypes:=#[3]}),208, "machine.go:159",#[⟨3,.data⟩,⟨4,.data⟩],none⟩),m 32 38,ex 39 0 32,ex 40 1 32,s 3 6 39] [0,1,5,6])
def Mn:IR:=z [.e (some 5) (.al 104 (.agg #[(i 0),(i 0),(.slice none 0 0)]))] [0,1,5] <| z [m 9 0,n 10 9,f 11 6 10,l 12 11,m 13 1,.e (some 14) (.raw ⟨(some 14),(.call { callee:=(.invoke (.tmp 12) "Get"),args:=#[(.tmp 13)],argTypes:=#[3]}),208, "machine.go:156",#[⟨3,.data⟩,⟨4,.data⟩],none⟩),m 8 14,ex 15 0 8,ex 16 1 8,.e (some 6) (.al 104 (.agg #[(i 0),(i 0),(.slice none 0 0)])),s 3 6 15,m 7 16] [0,1,5,6] <| .seq (.block 0 (.loop Vg)) <| .seq (q' [m 41 1,ln 42 3 6,m 4 41,s 3 5 42] [4,5]) <| .ret
theorem agB:Fits Tryz.prog 134 2 (bf Tryz.f134 Mn) Mn [.t 4,.n 5 3] 43:=.m Tryz.f134 _
def Mo:IR:=z [.e (some 1) (.bx 26 (.t 0))] [1] <| z [.r (some 3) (.mf (.func 153) [] [(.t 1)]),m 2 3] [2] <| .ret
theorem agC:Fits Tryz.prog 135 1 (bf Tryz.f135 Mo) Mo [.t 2] 4:=.m Tryz.f135 _
def Mp:IR:=z [] [0,1] <| z [m 8 0,n 9 8,f 10 6 9,l 11 10,.e (some 12) (.raw ⟨(some 12),(.call { callee:=(.invoke (.tmp 11) "Used"),args:=#[],argTypes:=#[]}),3, "machine.go:139",#[⟨3,.data⟩],none⟩),m 5 12] [0,1,5] <| .seq (.seq (q' [m 13 1,m 14 0,n 15 14,f 16 3 15,f 17 0 16,l 18 17,m 19 5,bi 20 .sub 18 19,bi 21 .leq 13 20,m 22 21,m' 22 true 23 0,n' 22 true 24 23,f' 22 true 25 3 24,f' 22 true 26 1 25,l' 22 true 27 26,yD 22 true 28 27,m' 22 true 29 28,m' 29 false 30 5,m' 29 false 31 0,n' 29 false 32 31,f' 29 false 33 8 32,l' 29 false 34 33,gJ 29 false 35 .sub 30 34,m' 29 false 36 1,gJ 29 false 37 .add 35 36,m' 29 false 38 0,n' 29 false 39 38,f' 29 false 40 7 39,l' 29 false 41 40,gJ 29 false 42 .leq 37 41,.gr 22 true (some 43) (.pk (.t 29) (.c (.bool true)) (.t 42)),a 44 22 43] [0,1,44]) <| j 44 (z [.r (some 4) (.mv (.c (.bool true)))] [4] <| .ret) (.skip)) <| .seq (.dr (r 0 46 (.mv (.t 0)) <| r 1 47 (.nn (.t 46)) <| r 2 48 (.fa 6 (.t 47)) <| r 3 49 (.l1 (.t 48)) <| r 4 50 (.mv (.t 1)) <| r 5 51 (.mv (.t 0)) <| r 7 53 (.nn (.t 49)) <| r 8 54 (.mv (.t 49)) <| .e 6 none (some 52) (.call 82 [(.t 51)]) [3] <| .e 9 none (some 55) (.raw ⟨(some 55),(.call { callee:=(.invoke (.tmp 54) "Room"),args:=#[(.tmp 50),(.tmp 52)],argTypes:=#[3,26]}),93, "machine.go:143",#[⟨8,.data⟩,⟨4,.data⟩,⟨6,.data⟩,⟨6,.chain⟩],none⟩) [] <| r 10 45 (.mv (.t 55)) <| r 11 56 (.ex 0 (.t 45)) <| r 12 57 (.ex 1 (.t 45)) <| r 13 6 (.mv (.t 56)) <| r 14 7 (.mv (.t 57)) <| .nil) [0,6,7]) <| .seq (z [bk 59 .neq 7 0] [0,6,59] <| j 59 (z [m 60 0,m 61 0,n 62 61,f 63 6 62,l 64 63,.e (some 65) (.raw ⟨(some 65),(.call { callee:=(.invoke (.tmp 64) "Used"),args:=#[],argTypes:=#[]}),3, "machine.go:145",#[⟨4,.data⟩],none⟩),n 66 60,f 67 17 66,s 1 67 65] [0] <| z [n 69 0,f 70 15 69,.e none (.st 1 (.t 70) (k 5))] [] <| z [.r (some 4) (.mv (.c (.bool false)))] [4] <| .ret) (.skip)) <| z [c 73 83 [0,6]] [0] <| z [m 74 0,m 75 0,n 76 75,f 77 6 76,l 78 77,.e (some 79) (.raw ⟨(some 79),(.call { callee:=(.invoke (.tmp 78) "Used"),args:=#[],argTypes:=#[]}),3, "machine.go:150",#[⟨4,.data⟩],none⟩),n 80 74,f 81 8 80,s 1 81 79] [] <| z [.r (some 4) (.mv (.c (.bool true)))] [4] <| .ret
theorem agD:Fits Tryz.prog 136 2 (bf Tryz.f136 Mp) Mp [.t 4] 82:=.m Tryz.f136 _
def Vh:IR:=z [bi 41 .lss 40 39] [0,1,3,8,10,38,39,40,41] <| .seq (j 41 (.skip) ((.exit 0))) <| .seq (.block 1 (z [ia 43 1 38 40,l 44 43,m 11 40,m 12 44] [0,1,3,8,10,11,12,38,39,40] <| z [c 48 134 [0,12],ex 49 0 48,ex 50 1 48,.e (some 14) (.al 104 (.agg #[(i 0),(i 0),(.slice none 0 0)])),m 13 49,s 3 14 50] [0,1,3,8,10,11,13,14,38,39,40] <| .seq (z [f 51 0 14,l 52 51,bk 53 .neq 52 3] [0,1,3,8,10,11,13,14,38,39,40,53] <| j 53 (z [.e (some 55) (.call 132 [(.t 0),(k 5)])] [] <| .ret) (.skip)) <| .seq (z [bk 57 .eql 11 0] [0,1,3,8,10,13,14,38,39,40,57] <| j 57 (q [.r (some 60) (.ia 1 (.t 10) (k 0)),s 1 60 13] [0,1,3,8,10,14,38,39,40]) (.skip)) <| q [f 62 2 14,l 63 62,.r (some 64) (.ia 1 (.t 63) (k 1)),l 65 64,.e (some 66) (.bs 3 1 #[(i 0)] [(0,1,(.t 65))]),.e (some 67) (.ap 3 1 8 #[(i 0)] (.t 10) (.t 66)),m 10 67] [0,1,3,8,10,38,39,40])) <| q [bk 68 .add 40 1,m 40 68] [0,1,3,8,10,38,39,40]
def Mq:IR:=z [n 16 0,f 17 0 16,f 18 1 17,l 19 18,ia 21 3 19 3,f 22 1 21,l 23 22,m 8 23] [0,1,2,3,8] <| .seq (q' [m 24 1,n 25 24,f 26 4 25,l 27 26,m 28 1,n 29 28,f 30 4 29,l 31 30,le 32 31,m 33 8,bi 34 .sub 32 33,.r (some 35) (.sl 1 (.t 27) (some (.t 34)) none none),m 9 35] [0,1,2,3,8,9]) <| z [.e (some 37) (.bs 3 1 #[(i 0)] [(0,1,(.t 2))]),m 10 37] [0,1,3,8,9,10] <| .seq (z [m 38 9,le 39 38,mk 40 0] [0,1,3,8,10,38,39,40] <| .block 0 (.loop Vh)) <| .seq (q' [m 69 0,n 70 69,f 71 6 70,l 72 71,m 73 10,.r (some 74) (.ia 1 (.t 73) (k 0)),l 75 74,.r (some 76) (.bd #[(i 0),(i 0),(.slice none 0 0)] [(0,1,(k 7))]),n 77 72,m 78 72,.e (some 79) (.raw ⟨(some 79),(.call { callee:=(.invoke (.tmp 78) "Set"),args:=#[(.tmp 75),(.tmp 76)],argTypes:=#[3,104]}),33, "machine.go:279",#[⟨9,.data⟩,⟨6,.data⟩,⟨7,.data⟩],none⟩)] [1,3,8,10]) <| .seq (q' [m 80 1,m 81 1,n 82 81,f 83 4 82,l 84 83,m 85 1,n 86 85,f 87 4 86,l 88 87,le 89 88,m 90 8,bi 91 .sub 89 90,.r (some 92) (.sl 1 (.t 84) none (some (.t 91)) none),n 93 80,f 94 4 93,s 1 94 92] [1,3,10]) <| q [n 101 1,f 102 0 101,.e none (.st 1 (.t 102) (.c (.bool true))),n 103 1,f 104 1 103,s 1 104 3,n 105 1,f 106 2 105,.e none (.st 1 (.t 106) (k 0)),n 107 1,f 108 3 107,s 1 108 10] []
theorem agE:Fits Tryz.prog 137 4 (bf Tryz.f137 Mq) Mq [] 109:=.m Tryz.f137 _
def Mr:IR:=.block 0 (z [n 8 0,f 9 10 8,l 10 9,le 11 10,bk 12 .gtr 11 1,m 6 12] [0,1,6] <| j 6 (q [c 14 139 [0]] []) (z [n 17 0,f 18 12 17,l 19 18,m' 19 false 21 0,n' 19 false 22 21,f' 19 false 23 13 22,l' 19 false 24 23,jS 19 false 25 24,di 19 false 26 .gtr 25 0,u 27 19 26,m 15 27] [0,1,15] <| j 15 (q [.e (some 29) (.call 132 [(.t 0),(k 5)])] []) (z [.e (some 32) (.call 136 [(.t 0),(k 2)]),m 30 32] [0,1,30] <| j 30 (z [n 34 0,f 35 12 34,.e none (.st 1 (.t 35) (.c (.bool true)))] [0,1] <| z [n 37 0,f 38 11 37,l 39 38,le 40 39,bk 41 .sub 40 1,m 4 41] [0,1,4] <| z [.e (some 43) (.call 116 [(.t 0),(k 8),(k 0),(.c (.slice none 0 0))]),m 5 43] [0,1,4,5] <| .seq (.dr (r 0 44 (.mv (.t 0)) <| r 1 45 (.nn (.t 44)) <| r 2 46 (.fa 11 (.t 45)) <| r 3 47 (.l1 (.t 46)) <| r 4 48 (.mv (.t 4)) <| r 5 49 (.mv (.t 0)) <| r 6 50 (.mv (.t 0)) <| r 7 51 (.nn (.t 50)) <| r 8 52 (.fa 11 (.t 51)) <| r 9 53 (.l1 (.t 52)) <| r 10 54 (.mv (.t 4)) <| r 11 55 (.ia 1 (.t 53) (.t 54)) <| r 12 56 (.l1 (.t 55)) <| r 13 57 (.mv (.t 5)) <| .e 14 none (some 58) (.bs 3 2 #[(i 0),(i 0)] [(0,1,(.t 56)),(1,1,(.t 57))]) [3] <| .e 15 none (some 59) (.call 116 [(.t 49),(k 3),(k 0),(.t 58)]) [3] <| r 16 60 (.ia 1 (.t 47) (.t 48)) <| .e 17 none none (.st 1 (.t 60) (.t 59)) [] <| .nil) [0,1,4]) <| q [n 64 0,f 65 11 64,l 66 65,ia 68 1 66 4,l 69 68,n 70 1,f 71 5 70,s 1 71 69,n 72 1,f 73 4 72,.e none (.st 1 (.t 73) (.c (.slice none 0 0)))] []) (.skip))))
theorem agF:Fits Tryz.prog 138 2 (bf Tryz.f138 Mr) Mr [] 74:=.m Tryz.f138 _
def Ms:IR:=q' [m 2 0,m 3 0,n 4 3,f 5 10 4,l 6 5,m 7 0,n 8 7,f 9 10 8,l 10 9,le 11 10,bk 12 .sub 11 1,.r (some 13) (.sl 1 (.t 6) none (some (.t 12)) none),n 14 2,f 15 10 14,s 1 15 13] []
theorem agG:Fits Tryz.prog 139 1 (bf Tryz.f139 Ms) Ms [] 16:=.m Tryz.f139 _
def Mu:IR:=.seq (z [n 14 0,f 15 2 14,l 16 15,le 17 16,bi 18 .geq 2 17] [0,1,2,18] <| j 18 (z [n 22 1,f 23 5 22,l 24 23,c 25 134 [0,24],ex 26 0 25,ex 27 1 25,.e (some 7) (.al 104 (.agg #[(i 0),(i 0),(.slice none 0 0)])),m 6 26,s 3 7 27] [0,6] <| z [m 28 0,n 29 28,f 30 6 29,l 31 30,m 32 6,.r (some 33) (.bd #[(i 0),(i 0),(.slice none 0 0)] [(0,1,(k 2)),(1,1,(k 3))]),.e (some 34) (.raw ⟨(some 34),(.call { callee:=(.invoke (.tmp 31) "Set"),args:=#[(.tmp 32),(.tmp 33)],argTypes:=#[3,104]}),33, "machine.go:304",#[⟨3,.data⟩,⟨4,.data⟩,⟨5,.data⟩],none⟩)] [] <| .ret) (.skip)) <| z [.e (some 36) (.call 136 [(.t 0),(k 2)])] [0,1,2,36] <| j 36 (z [n 40 1,f 41 5 40,l 42 41,c 43 134 [0,42],ex 44 0 43,ex 45 1 43,.e (some 9) (.al 104 (.agg #[(i 0),(i 0),(.slice none 0 0)])),m 8 44,s 3 9 45] [0,2,8] <| z [n 48 0,f 49 2 48,l 50 49,ia 52 1 50 2,l 53 52,.e (some 54) (.call 116 [(.t 0),(k 1),(.t 53),(.c (.slice none 0 0))]),m 10 54] [0,2,8,10] <| z [bk 57 .add 2 1,.e (some 58) (.call 116 [(.t 0),(k 8),(.t 57),(.c (.slice none 0 0))]),m 11 58] [0,8,10,11] <| q [m 59 0,n 60 59,f 61 6 60,l 62 61,m 63 8,m 64 10,m 65 11,.e (some 66) (.bs 3 2 #[(i 0),(i 0)] [(0,1,(.t 64)),(1,1,(.t 65))]),.r (some 67) (.bd #[(i 0),(i 0),(.slice none 0 0)] [(0,1,(k 2)),(1,1,(k 4)),(2,1,(.t 66))]),.e (some 68) (.raw ⟨(some 68),(.call { callee:=(.invoke (.tmp 62) "Set"),args:=#[(.tmp 63),(.tmp 67)],argTypes:=#[3,104]}),33, "machine.go:311",#[⟨3,.data⟩,⟨4,.data⟩,⟨8,.data⟩],none⟩)] []) (.skip)
theorem agH:Fits Tryz.prog 140 3 (bf Tryz.f140 Mu) Mu [] 69:=.m Tryz.f140 _
def Mv:IR:=z [.e (some 2) (.al 194 (.agg #[(.string ⟨#[]⟩),(i 0),(i 0)]))] [0,2] <| z [.r (some 5) (.bd #[(.string ⟨#[]⟩),(i 0),(i 0)] []),.r (some 6) (.bd #[(.string ⟨#[]⟩),(i 0),(i 0)] [(0,1,(.c (.string ⟨#[112,117,115,104]⟩))),(1,1,(k 1)),(2,1,(k 0))]),.r (some 7) (.bd #[(.string ⟨#[]⟩),(i 0),(i 0)] [(0,1,(.c (.string ⟨#[103,108,111,98]⟩))),(1,1,(k 4)),(2,1,(k 0))]),.r (some 8) (.bd #[(.string ⟨#[]⟩),(i 0),(i 0)] [(0,1,(.c (.string ⟨#[105,110,116]⟩))),(1,1,(k 3)),(2,1,(k 0))]),.r (some 9) (.bd #[(.string ⟨#[]⟩),(i 0),(i 0)] [(0,1,(.c (.string ⟨#[112,111,112]⟩))),(1,1,(k 1)),(2,1,(k 0))]),.r (some 10) (.bd #[(.string ⟨#[]⟩),(i 0),(i 0)] [(0,1,(.c (.string ⟨#[115,108,105,100,101]⟩))),(1,1,(k 1)),(2,1,(k 0))]),.r (some 11) (.bd #[(.string ⟨#[]⟩),(i 0),(i 0)] [(0,1,(.c (.string ⟨#[97,112,112,108,121]⟩))),(1,1,(k 0)),(2,1,(k 0))]),.r (some 12) (.bd #[(.string ⟨#[]⟩),(i 0),(i 0)] [(0,1,(.c (.string ⟨#[117,112,100,97,116,101]⟩))),(1,1,(k 2)),(2,1,(k 0))]),.r (some 13) (.bd #[(.string ⟨#[]⟩),(i 0),(i 0)] [(0,1,(.c (.string ⟨#[97,108,108,111,99]⟩))),(1,1,(k 1)),(2,1,(k 0))]),.r (some 14) (.bd #[(.string ⟨#[]⟩),(i 0),(i 0)] [(0,1,(.c (.string ⟨#[112,97,99,107]⟩))),(1,1,(k 5)),(2,1,(k 0))]),.r (some 15) (.bd #[(.string ⟨#[]⟩),(i 0),(i 0)] [(0,1,(.c (.string ⟨#[115,112,108,105,116]⟩))),(1,1,(k 5)),(2,1,(k 0))]),.r (some 16) (.bd #[(.string ⟨#[]⟩),(i 0),(i 0)] [(0,1,(.c (.string ⟨#[101,118,97,108]⟩))),(1,1,(k 0)),(2,1,(k 0))]),.r (some 17) (.bd #[(.string ⟨#[]⟩),(i 0),(i 0)] [(0,1,(.c (.string ⟨#[97,114,105,116,104]⟩))),(1,1,(k 6)),(2,1,(k 0))]),.r (some 18) (.bd #[(.string ⟨#[]⟩),(i 0),(i 0)] [(0,1,(.c (.string ⟨#[106,117,109,112]⟩))),(1,1,(k 8)),(2,1,(k 0))]),.r (some 19) (.bd #[(.string ⟨#[]⟩),(i 0),(i 0)] [(0,1,(.c (.string ⟨#[116,101,115,116,99,111,110]⟩))),(1,1,(k 5)),(2,1,(k 8))]),.r (some 20) (.bd #[(.string ⟨#[]⟩),(i 0),(i 0)] [(0,1,(.c (.string ⟨#[116,101,115,116,105,110,116]⟩))),(1,1,(k 3)),(2,1,(k 8))]),.r (some 21) (.bd #[(.string ⟨#[]⟩),(i 0),(i 0)] [(0,1,(.c (.string ⟨#[102,97,105,108]⟩))),(1,1,(k 7)),(2,1,(k 0))]),.r (some 22) (.bd #[(.string ⟨#[]⟩),(i 0),(i 0)] [(0,1,(.c (.string ⟨#[117,110,119,105,110,100]⟩))),(1,1,(k 0)),(2,1,(k 0))]),.e (some 23) (.raw ⟨(some 23),(.build 220 #[(0,(.tmp 5)),(1,(.tmp 6)),(2,(.tmp 7)),(3,(.tmp 8)),(4,(.tmp 9)),(5,(.tmp 10)),(6,(.tmp 11)),(7,(.tmp 12)),(8,(.tmp 13)),(9,(.tmp 14)),(10,(.tmp 15)),(11,(.tmp 16)),(12,(.tmp 17)),(13,(.tmp 18)),(14,(.tmp 19)),(15,(.tmp 20)),(16,(.tmp 21)),(17,(.tmp 22))]),220, "check.go:27",#[⟨0,.data⟩,⟨1,.data⟩,⟨2,.data⟩,⟨3,.data⟩,⟨4,.data⟩,⟨5,.data⟩,⟨6,.data⟩,⟨7,.data⟩,⟨8,.data⟩,⟨9,.data⟩,⟨10,.data⟩,⟨11,.data⟩,⟨12,.data⟩,⟨13,.data⟩,⟨14,.data⟩,⟨15,.data⟩,⟨16,.data⟩,⟨17,.data⟩],none⟩),.e (some 4) (.al 220 (.agg #[(.string ⟨#[]⟩),(i 0),(i 0),(.string ⟨#[]⟩),(i 0),(i 0),(.string ⟨#[]⟩),(i 0),(i 0),(.string ⟨#[]⟩),(i 0),(i 0),(.string ⟨#[]⟩),(i 0),(i 0),(.string ⟨#[]⟩),(i 0),(i 0),(.string ⟨#[]⟩),(i 0),(i 0),(.string ⟨#[]⟩),(i 0),(i 0),(.string ⟨#[]⟩),(i 0),(i 0),(.string ⟨#[]⟩),(i 0),(i 0),(.string ⟨#[]⟩),(i 0),(i 0),(.string ⟨#[]⟩),(i 0),(i 0),(.string ⟨#[]⟩),(i 0),(i 0),(.string ⟨#[]⟩),(i 0),(i 0),(.string ⟨#[]⟩),(i 0),(i 0),(.string ⟨#[]⟩),(i 0),(i 0),(.string ⟨#[]⟩),(i 0),(i 0),(.string ⟨#[]⟩),(i 0),(i 0)])),s 54 4 23] [0,2,4] <| .seq (z [bk 25 .lss 0 1,m' 25 false 27 0,di 25 false 28 .geq 27 18,u 29 25 28] [0,2,4,29] <| j 29 (z [.r (some 30) (.bd #[(.string ⟨#[]⟩),(i 0),(i 0)] []),s 3 2 30,.r (some 3) (.mv (.c (.bool false)))] [2,3] <| .ret) (.skip)) <| z [m 31 0,.e (some 32) (.raw ⟨(some 32),(.indexAddr 220 (.tmp 4) (.tmp 31)),0, "check.go:33",#[⟨0,.data⟩],none⟩),ln 33 3 32,s 3 2 33,.r (some 3) (.mv (.c (.bool true)))] [2,3] <| .ret
theorem agI:Fits Tryz.prog 147 1 (bf Tryz.f147 Mv) Mv [.n 2 3,.t 3] 34:=.m Tryz.f147 _
def Mw:IR:=z [.e (some 5) (.bx 25 (.t 0)),.e (some 6) (.bx 59 (.t 1))] [2,3,4,5,6] <| z [.r (some 11) (.mv (.c (.bool true)))] [2,3,4,5,6,11] <| .seq (z [m 12 4] [2,3,5,6,11,12] <| .block 0 (z [bk 14 .eql 12 0,m 13 14] [2,3,5,6,11,12,13] <| j 13 (q [bk 16 .eql 3 0,m 11 16] [11]) (z [bk 18 .eql 12 1,m 17 18] [2,3,5,6,11,12,17] <| j 17 (q [bk 20 .geq 3 0,m 11 20] [11]) (z [bk 22 .eql 12 2,m 21 22] [2,3,5,6,11,12,21] <| j 21 (q [bk 24 .geq 3 1,m 11 24] [11]) (z [bk 26 .eql 12 3,m 25 26] [2,3,5,6,11,12,25] <| j 25 (q [bk 28 .geq 3 (-4611686018427387904),m' 28 true 30 3,di 28 true 31 .leq 30 4611686018427387903,a 32 28 31,m 11 32] [11]) (z [bk 34 .eql 12 4,m 33 34] [2,3,5,6,11,12,33] <| j 33 (q [bk 36 .geq 3 0,m' 36 true 38 3,f' 36 true 39 1 5,l' 36 true 40 39,jS 36 true 41 40,gJ 36 true 42 .lss 38 41,a 43 36 42,m 11 43] [11]) (z [bk 45 .eql 12 5,m 44 45] [2,3,5,6,11,12,44] <| j 44 (q [bk 47 .geq 3 0,m' 47 true 49 3,f' 47 true 50 0 5,l' 47 true 51 50,jS 47 true 52 51,gJ 47 true 53 .lss 49 52,a 54 47 53,m 11 54] [11]) (z [bk 56 .eql 12 6,m 55 56] [2,3,6,11,12,55] <| j 55 (q [bk 58 .geq 3 1,m' 58 true 60 3,di 58 true 61 .leq 60 11,a 62 58 61,m 11 62] [11]) (z [bk 64 .eql 12 7,m 63 64] [2,3,6,11,12,63] <| j 63 (q [bk 66 .geq 3 1,m' 66 true 68 3,di 66 true 69 .leq 68 4,a 70 66 69,m 11 70] [11]) (z [bk 72 .eql 12 8,m 71 72] [2,3,6,11,71] <| j 71 (z [bi 75 .leq 3 2,m' 75 false 77 3,f' 75 false 78 2 6,l' 75 false 79 78,jS 75 false 80 79,gJ 75 false 81 .geq 77 80,u 82 75 81] [11,82] <| j 82 (z [mk 10 174] [10] <| .ret) (.skip)) (.skip))))))))))) <| .seq (z [no 84 11] [84] <| j 84 (z [mk 10 172] [10] <| .ret) (.skip)) <| z [mk 10 0] [10] <| .ret
theorem agJ:Fits Tryz.prog 148 5 (bf Tryz.f148 Mw) Mw [.t 10] 85:=.m Tryz.f148 _
def Mx:IR:=z [.e (some 3) (.bx 25 (.t 0)),.e (some 4) (.bx 61 (.t 1))] [2,3,4] <| z [.r (some 8) (.mv (.c (.bool true))),m 9 2] [2,3,4,8,9] <| .seq (z [f 12 0 4,l 13 12] [2,3,4,8,9,13] <| .block 0 (z [bk 15 .eql 13 1,m 14 15] [2,3,4,8,9,13,14] <| j 14 (q [f 16 1 4,l 17 16,bi 19 .lss 17 2,bk 21 .add 2 1,m 8 19,m 9 21] [8,9]) (.seq (z [bk 23 .eql 13 2,m 22 23] [2,3,4,8,9,13,22] <| j 22 (.skip) (q [bk 24 .eql 13 3,m 22 24] [2,3,4,8,9,13,22])) <| j 22 (q [bk 26 .add 2 1,m 9 26] [8,9]) (z [bk 28 .eql 13 4,m 27 28] [2,3,4,8,9,13,27] <| j 27 (q' [f 29 1 4,l 30 29,m 31 2,bi 32 .lss 30 31,m 33 2,f 34 1 4,l 35 34,bi 36 .sub 33 35,m 8 32,m 9 36] [8,9]) (z [bk 38 .eql 13 5,m 37 38] [2,3,4,8,9,13,37] <| j 37 (q' [f 39 1 4,l 40 39,m 41 2,bk 42 .sub 41 1,bi 43 .lss 40 42,m 44 2,f 45 1 4,l 46 45,bi 47 .sub 44 46,m 8 43,m 9 47] [8,9]) (.seq (z [bk 49 .eql 13 6,m 48 49] [2,3,4,8,9,13,48] <| j 48 (.skip) (q [bk 50 .eql 13 12,m 48 50] [2,3,4,8,9,13,48])) <| j 48 (q [bk 52 .gtr 2 2,bk 54 .sub 2 1,m 8 52,m 9 54] [8,9]) (z [bk 56 .eql 13 7,m 55 56] [2,3,4,8,9,13,55] <| j 55 (q [f 57 1 4,l 58 57,bi 60 .lss 58 2,bk 62 .sub 2 1,m 8 60,m 9 62] [8,9]) (z [bk 64 .eql 13 8,m 63 64] [2,3,4,8,9,13,63] <| j 63 (q' [f 65 1 4,l 66 65,bk 67 .leq 66 8000,m 68 2,f 69 1 4,l 70 69,.r (some 71) (.mm false (.t 70) (k 8000)),bi 72 .add 68 71,m 8 67,m 9 72] [8,9]) (z [bk 74 .eql 13 9,m 73 74] [2,3,4,8,9,13,73] <| j 73 (z [f 75 0 3,l 76 75,f 77 1 4,l 78 77,ia 79 2 76 78,f 80 1 79,l 81 80,m 10 81] [2,10] <| q [bi 84 .lss 10 2,bi 87 .sub 2 10,bk 88 .add 87 1,m 8 84,m 9 88] [8,9]) (z [bk 90 .eql 13 10,m 89 90] [2,3,4,8,9,13,89] <| j 89 (q' [m 91 2,bk 92 .gtr 91 1,m 93 2,bk 94 .sub 93 1,f 95 0 3,l 96 95,f 97 1 4,l 98 97,ia 99 2 96 98,f 100 1 99,l 101 100,bi 102 .add 94 101,m 8 92,m 9 102] [8,9]) (.seq (z [bk 104 .eql 13 11,m 103 104] [2,8,9,13,103] <| j 103 (.skip) (z [bk 105 .eql 13 14,m 103 105] [2,8,9,13,103] <| j 103 (.skip) (q [bk 106 .eql 13 15,m 103 106] [2,8,9,13,103]))) <| j 103 (q [bk 108 .gtr 2 1,m 8 108] [8,9]) (z [bk 110 .eql 13 17,m 109 110] [2,8,9,109] <| j 109 (q [bk 112 .eql 2 1,m 8 112] [8,9]) (.skip))))))))))))) <| z [m' 8 true 116 9,di 8 true 117 .leq 116 8000,a 118 8 117,m 6 9,m 7 118] [6,7] <| .ret
theorem agK:Fits Tryz.prog 149 3 (bf Tryz.f149 Mx) Mx [.t 6,.t 7] 119:=.m Tryz.f149 _
def My:IR:=z [] [0,1,2] <| .seq (z [ia 9 1 0 1,l 10 9,bk 11 .eql 10 0] [0,1,2,11] <| j 11 (q [ia 15 1 0 1,s 1 15 2] [0,1,2]) (.skip)) <| z [ia 18 1 0 1,l 19 18,bi 21 .eql 19 2,m 6 21] [6] <| .ret
theorem agL:Fits Tryz.prog 150 3 (bf Tryz.f150 My) My [.t 6] 22:=.m Tryz.f150 _
def Mz:IR:=z [] [0] <| z [.r (some 4) (.bi .shl (.t 0) (.c (.int .u64 1))),.r (some 5) (.bi .shr (.t 4) (.c (.int .u64 1))),m 2 5] [2] <| .ret
theorem agM:Fits Tryz.prog 151 1 (bf Tryz.f151 Mz) Mz [.t 2] 6:=.m Tryz.f151 _
def MA:IR:=z [] [0,1,2] <| .seq (z [m 7 0] [1,2,7] <| .block 0 (z [bk 9 .eql 7 6,m 8 9] [1,2,7,8] <| j 8 (z [bi 12 .eql 1 2,m 6 12] [6] <| .ret) (z [bk 14 .eql 7 7,m 13 14] [1,2,7,13] <| j 13 (z [bi 17 .neq 1 2,m 6 17] [6] <| .ret) (z [bk 19 .eql 7 8,m 18 19] [1,2,7,18] <| j 18 (z [bi 22 .lss 1 2,m 6 22] [6] <| .ret) (z [bk 24 .eql 7 9,m 23 24] [1,2,7,23] <| j 23 (z [bi 27 .leq 1 2,m 6 27] [6] <| .ret) (z [bk 29 .eql 7 10,m 28 29] [1,2,28] <| j 28 (z [bi 32 .gtr 1 2,m 6 32] [6] <| .ret) (.skip))))))) <| z [bi 35 .geq 1 2,m 6 35] [6] <| .ret
theorem agN:Fits Tryz.prog 152 3 (bf Tryz.f152 MA) MA [.t 6] 36:=.m Tryz.f152 _
end
section
open Go Go.W
theorem agO (a:Addr) (w:World):(method (Tryz.prog.types.size+Made.depth) 172 (.pointer (some a)) "Add").run Tryz.prog w = .ok (231,.pointer (some a)) w:=by kernel_rfl
theorem agP (a:Addr) (w:World):(method (Tryz.prog.types.size+Made.depth) 172 (.pointer (some a)) "Get").run Tryz.prog w = .ok (234,.pointer (some a)) w:=by kernel_rfl
theorem agQ (a:Addr) (w:World):(method (Tryz.prog.types.size+Made.depth) 172 (.pointer (some a)) "Set").run Tryz.prog w = .ok (236,.pointer (some a)) w:=by kernel_rfl
theorem agR (a:Addr) (w:World):(method (Tryz.prog.types.size+Made.depth) 172 (.pointer (some a)) "Room").run Tryz.prog w = .ok (235,.pointer (some a)) w:=by kernel_rfl
theorem agS (a:Addr) (w:World):(method (Tryz.prog.types.size+Made.depth) 172 (.pointer (some a)) "Collect").run Tryz.prog w = .ok (232,.pointer (some a)) w:=by kernel_rfl
theorem agT (a:Addr) (w:World):(method (Tryz.prog.types.size+Made.depth) 172 (.pointer (some a)) "Used").run Tryz.prog w = .ok (237,.pointer (some a)) w:=by kernel_rfl
theorem agU (a:Addr) (w:World):(method (Tryz.prog.types.size+Made.depth) 169 (.pointer (some a)) "Add").run Tryz.prog w = .ok (186,.pointer (some a)) w:=by kernel_rfl
theorem agV (a:Addr) (w:World):(method (Tryz.prog.types.size+Made.depth) 169 (.pointer (some a)) "Get").run Tryz.prog w = .ok (189,.pointer (some a)) w:=by kernel_rfl
theorem agW (a:Addr) (w:World):(method (Tryz.prog.types.size+Made.depth) 169 (.pointer (some a)) "Set").run Tryz.prog w = .ok (191,.pointer (some a)) w:=by kernel_rfl
theorem agX (a:Addr) (w:World):(method (Tryz.prog.types.size+Made.depth) 169 (.pointer (some a)) "Room").run Tryz.prog w = .ok (190,.pointer (some a)) w:=by kernel_rfl
theorem agY (a:Addr) (w:World):(method (Tryz.prog.types.size+Made.depth) 169 (.pointer (some a)) "Collect").run Tryz.prog w = .ok (187,.pointer (some a)) w:=by kernel_rfl
theorem agZ (a:Addr) (w:World):(method (Tryz.prog.types.size+Made.depth) 169 (.pointer (some a)) "Used").run Tryz.prog w = .ok (192,.pointer (some a)) w:=by kernel_rfl
inductive Kd where
 | hp (times:Int)
 | gn (bp:Int) (old:Nat) (times:Int)
 | ref
structure St where
 kd:Kd
 size:Int
 ns:List Nd
def Kd.ok (n:Nat):Kd→Prop
 | .gn y o _=>o≤n∧0≤y∧y≤1048576
 | _=>True
structure St.Ok (s:St):Prop where
 wf:WF s.ns
 len:(s.ns.length:Int)≤s.size
 lo:1≤s.size
 hi:s.size≤1048576
 kd:s.kd.ok s.ns.length
theorem St.Ok.n {s:St} (h:s.Ok):s.ns.length≤1048576:=by have:=h.len;have:=h.hi;omega
theorem Gz {ns:List Nd} (hw:WF ns):∀ nd∈ns,nd.args.length≤8:=by
 intro nd bQ;have h:=(hw nd bQ).1;simp only [Nd.may,gU,decide_eq_true_eq] at h;omega
def gM (w:World) (sv:Value) (s:St) (F:Nat→Prop):Prop:=
 match s.kd with
 | .hp t=>∃ a,sv = .iface 172 (.pointer (some ⟨a,0,none⟩))∧kg 205 277 w a s.size t s.ns F
 | .gn y o t=>∃ a,sv = .iface 169 (.pointer (some ⟨a,0,none⟩))∧jm w a s.size y o t s.ns F
 | .ref=>False
theorem gM.lt {w:World} {sv:Value} {s:St} {F:Nat→Prop} (h:gM w sv s F):∀ b,F b→b < w.heap.size:=by
 obtain ⟨kd,sz,ns⟩:=s;cases kd with
 | hp t=>obtain ⟨a,_,h⟩:=h;obtain ⟨_,_,_,_,_,_,_,_,_,h⟩:=h;exact h
 | gn y o t=>obtain ⟨a,_,h⟩:=h;exact AN h
 | ref=>exact h.elim
theorem gM.mod {w w':World} {sv:Value} {s:St} {F S:Nat→Prop} (h:gM w sv s F) (hm:Mod S w w') (hd:∀ b,F b→¬ S b):gM w' sv s F:=by
 obtain ⟨kd,sz,ns⟩:=s;cases kd with
 | hp t=>obtain ⟨a,e,h⟩:=h;exact ⟨a,e,h.mod hm hd⟩
 | gn y o t=>obtain ⟨a,e,h⟩:=h;exact ⟨a,e,kM h hm hd⟩
 | ref=>exact h.elim
def ei (s:St) (n:Int) (roots:List Int):Option (List Int)×St:=
 match s.kd with
 | .hp t=>((jl s.size t s.ns n roots).out,⟨.hp (jl s.size t s.ns n roots).times,s.size,(jl s.size t s.ns n roots).ns⟩)
 | .gn y o t=>((ja s.size y o t s.ns n roots).jQ,⟨.gn y (ja s.size y o t s.ns n roots).old (ja s.size y o t s.ns n roots).times,s.size,(ja s.size y o t s.ns n roots).ns⟩)
 | .ref=>if n > s.size - (jB s.ns roots).length then (none,s) else (some (mM s.ns roots),⟨.ref,s.size,jB s.ns roots⟩)
def mU (s:St) (roots:List Int):List Int×St:=
 match s.kd with
 | .hp t=>(mM s.ns roots,⟨.hp (IntKind.i64.wrap (t+1)),s.size,jB s.ns roots⟩)
 | .gn y o t=>(fm s.ns 0 roots,⟨.gn y (b9 s.ns 0 roots).length (IntKind.i64.wrap (t+1)),s.size,b9 s.ns 0 roots⟩)
 | .ref=>(mM s.ns roots,⟨.ref,s.size,jB s.ns roots⟩)
section
variable {d:Option Nat} {ty:TypeId} {pos:String} {af:Array Edge} {ρ:Env} {w:World} {K:Value→World→Prop} {x:Operand} {args:Array Operand} {at':Array TypeId} {sv:Value} {s:St} {F:Nat→Prop}
theorem GA (U:(a7 x).ev ρ=some sv) (h:gM w sv s F) (hk:K (I s.ns.length) w):E.wp Tryz.prog w ρ K (.raw ⟨d,.call { callee:=.invoke x "Used",args:=#[],argTypes:=at'},ty,pos,af,none⟩):=by
 obtain ⟨kd,sz,ns⟩:=s;cases kd with
 | ref=>exact h.elim
 | hp t=>
  obtain ⟨a,rfl,h⟩:=h;refine qn U rfl (agT _ _) Tryz.func237 rfl rfl ((acu a _ _ _ _ w h).mono ?_);rintro r _ ⟨rfl,rfl⟩;exact hk
 | gn y o t=>
  obtain ⟨a,rfl,h⟩:=h;refine qn U rfl (agZ _ _) Tryz.func192 rfl rfl ((adM w a _ _ _ _ _ _ h).mono ?_);rintro r _ ⟨rfl,rfl⟩;exact hk
theorem Vi {p:Int} (U:(a7 x).ev ρ=some sv) (ha:fh ρ (args.toList.map a7)=some [I p]) (h:gM w sv s F) (hw:WF s.ns) (hn:s.ns.length≤1048576) (hp:0≤p∧p < s.ns.length)
   (hk:∀ v w',yF w w' v (ak s.ns p.toNat).args→Mod (fun _=>False) w w'→K (.tuple #[.agg #[I (ak s.ns p.toNat).kind,I (ak s.ns p.toNat).num,v],I 0]) w') :
   E.wp Tryz.prog w ρ K (.raw ⟨d,.call { callee:=.invoke x "Get",args:=args,argTypes:=at'},ty,pos,af,none⟩):=by
 obtain ⟨i,rfl⟩:∃ i:Nat,p=i:=⟨p.toNat,by omega⟩;rw [Int.toNat_natCast] at hk;have hi:i < s.ns.length:=by omega
 obtain ⟨kd,sz,ns⟩:=s;cases kd with
 | ref=>exact h.elim
 | hp t=>
  obtain ⟨a,rfl,h⟩:=h;refine qn U ha (agP _ _) Tryz.func234 rfl rfl ((acC a _ _ _ _ _ w h hn (Gz hw)).mono ?_);rintro r w' ⟨h1,h2,_⟩;obtain ⟨v,rfl,h3⟩:=h2 i (ak ns i) rfl (by simp only [ak,List.getD_eq_getElem?_getD,List.getElem?_eq_getElem hi,Option.getD_some]);exact hk v w' h3 h1
 | gn y o t=>
  obtain ⟨a,rfl,h⟩:=h;refine qn U ha (agV _ _) Tryz.func189 rfl rfl ((adR w a _ _ _ _ _ _ _ h (Gz hw)).mono ?_);rintro r w' ⟨h1,v,fp,hr,h2,h3⟩;have e:CR ns (i:Int)=(ak ns i,0):=by simp only [CR,Int.toNat_natCast];rw [if_pos (by omega)]
  rw [e] at hr h2;subst hr;exact hk v w' ⟨fp,h2,h3⟩ h1
theorem GB {p:Int} {nd:Nd} {v:Value} (U:(a7 x).ev ρ=some sv) (ha:fh ρ (args.toList.map a7)=some [I p,.agg #[I nd.kind,I nd.num,v]]) (h:gM w sv s F) (ho:s.Ok) (hp:0≤p∧p < s.ns.length)
   (hm:nd.may=true) (bE:bJ s.ns.length nd.args=true) (hv:Ints w v nd.args)
   (hk:∀ w' F',gM w' sv { s with ns:=s.ns.set p.toNat nd} F'→Grow F F' w w'→K (I 0) w') :
   E.wp Tryz.prog w ρ K (.raw ⟨d,.call { callee:=.invoke x "Set",args:=args,argTypes:=at'},ty,pos,af,none⟩):=by
 have hn:=ho.n;have hw:=ho.wf;have kP:=ho.kd;obtain ⟨kd,sz,ns⟩:=s;have e1:rO ns p nd=(0,ns.set p.toNat nd):=by unfold rO;rw [if_neg (by simpa using hp),if_neg (by simp [hm]),if_neg (by simpa using bE)]
 have e2:qF ns p nd=(0,ns.set p.toNat nd):=by unfold qF;rw [if_neg (by simpa using hp),if_neg (by simp [hm]),if_neg (by simpa using bE)]
 cases kd with
 | ref=>exact h.elim
 | hp t=>
  obtain ⟨a,rfl,h⟩:=h;refine qn U ha (agQ _ _) Tryz.func236 rfl rfl ((acF a _ _ _ _ _ v _ w h hn (Gz hw) hv).mono ?_);rintro r w' ⟨rfl,F',h1,h2⟩;rw [e1] at h1 ⊢;exact hk w' F' ⟨a,rfl,h1⟩ h2
 | gn y o t=>
  obtain ⟨a,rfl,h⟩:=h;refine qn U ha (agW _ _) Tryz.func191 rfl rfl ((adT w a _ _ _ _ _ _ _ v _ h kP.1 hn (Gz hw) hv).mono ?_);rintro r w' ⟨rfl,F',h1,h2⟩;rw [e2] at h1 ⊢;exact hk w' F' ⟨a,rfl,h1⟩ h2
theorem MB {nd:Nd} {v:Value} (U:(a7 x).ev ρ=some sv) (ha:fh ρ (args.toList.map a7)=some [.agg #[I nd.kind,I nd.num,v]]) (h:gM w sv s F) (ho:s.Ok)
   (hm:nd.may=true) (bE:bJ s.ns.length nd.args=true) (hv:Ints w v nd.args)
   (hk:(s.ns.length:Int) < s.size→∀ w' F',gM w' sv { s with ns:=s.ns++[nd]} F'→Grow F F' w w'→K (.tuple #[I s.ns.length,I 0]) w')
   (dX:(s.ns.length:Int)=s.size→∀ w' F' e,e≠0→gM w' sv s F'→Grow F F' w w'→K (.tuple #[I 0,I e]) w') :
   E.wp Tryz.prog w ρ K (.raw ⟨d,.call { callee:=.invoke x "Add",args:=args,argTypes:=at'},ty,pos,af,none⟩):=by
 have hn:=ho.n;have hw:=ho.wf;have kP:=ho.kd;have hl:=ho.len;have GC:=ho.hi;obtain ⟨kd,sz,ns⟩:=s;cases kd with
 | ref=>exact h.elim
 | hp t=>
  obtain ⟨a,rfl,h⟩:=h;refine qn U ha (agO _ _) Tryz.func231 rfl rfl ((acy a _ _ _ _ v _ w h hl GC hv).mono ?_);rintro r w' ⟨rfl,F',h1,h2⟩;by_cases hs:(ns.length:Int)=sz
  ·have e:pD sz ns nd=(0,201,ns):=by unfold pD;rw [if_neg (by simp [hm]),if_neg (by simpa using bE),if_pos hs]
   rw [e] at h1 ⊢;exact dX hs w' F' 201 (by decide) ⟨a,rfl,h1⟩ h2
  ·have e:pD sz ns nd=((ns.length:Int),0,ns++[nd]):=by unfold pD;rw [if_neg (by simp [hm]),if_neg (by simpa using bE),if_neg hs]
   rw [e] at h1 ⊢;exact hk (show (ns.length:Int) < sz by have:(ns.length:Int)≤sz:=hl;omega) w' F' ⟨a,rfl,h1⟩ h2
 | gn y o t=>
  obtain ⟨a,rfl,h⟩:=h;refine qn U ha (agU _ _) Tryz.func186 rfl rfl ((adO w a _ _ _ _ _ _ v _ h kP.1 hn hv).mono ?_);rintro r w' ⟨rfl,F',h1,h2⟩;by_cases hs:(ns.length:Int)=sz
  ·have e:nJ sz ns nd=(0,211,ns):=by unfold nJ;rw [if_neg (by simp [hm]),if_neg (by simpa using bE),if_pos (by omega)]
   rw [e] at h1 ⊢;exact dX hs w' F' 211 (by decide) ⟨a,rfl,h1⟩ h2
  ·have e:nJ sz ns nd=((ns.length:Int),0,ns++[nd]):=by unfold nJ;rw [if_neg (by simp [hm]),if_neg (by simpa using bE),if_neg (by have:(ns.length:Int)≤sz:=hl;omega)]
   rw [e] at h1 ⊢;exact hk (show (ns.length:Int) < sz by have:(ns.length:Int)≤sz:=hl;omega) w' F' ⟨a,rfl,h1⟩ h2
def Vj (w w':World) (F':Nat→Prop) (v:Value) (l:List Int):Prop:=∃ fp,ao w' 3 1 v (l.map I) l.length fp∧∀ b,fp=some b→w.heap.size≤b∧¬ F' b
theorem Vk (size t:Int) (ns:List Nd) (n:Int) (roots:List Int):((jl size t ns n roots).out=none↔(jl size t ns n roots).err≠0):=by
 unfold jl;split
 ·simp
 split
 ·simp
 split
 ·simp
 split<;>simp
theorem Vm (size y:Int) (o:Nat) (t:Int) (ns:List Nd) (n:Int) (roots:List Int):((ja size y o t ns n roots).jQ=none↔(ja size y o t ns n roots).err≠0):=by
 unfold ja;split
 ·simp
 split
 ·simp
 split
 ·simp
 split
 ·unfold sA;split<;>simp
 ·simp
theorem ag0 {n:Int} {v:Value} {roots:List Int} (U:(a7 x).ev ρ=some sv) (ha:fh ρ (args.toList.map a7)=some [I n,v]) (h:gM w sv s F) (ho:s.Ok) (hr:Ints w v roots)
   (hv:roots≠[]→∀ x,jf v=some x→¬ F x) (pK:roots.length≤17592186044416)
   (oM:(ei s n roots).1=none→∀ w' F' e,e≠0→gM w' sv (ei s n roots).2 F'→Grow F F' w w'→K (.tuple #[.slice none 0 0,I e]) w')
   (eQ:∀ l,(ei s n roots).1=some l→∀ w' F' v',gM w' sv (ei s n roots).2 F'→Grow F F' w w'→Vj w w' F' v' l→K (.tuple #[v',I 0]) w') :
   E.wp Tryz.prog w ρ K (.raw ⟨d,.call { callee:=.invoke x "Room",args:=args,argTypes:=at'},ty,pos,af,none⟩):=by
 have hn:=ho.n;have hw:=ho.wf;have kP:=ho.kd;have pO:=ho.lo;have GC:=ho.hi;obtain ⟨kd,sz,ns⟩:=s;cases kd with
 | ref=>exact h.elim
 | hp t=>
  obtain ⟨a,rfl,h⟩:=h;refine qn U ha (agR _ _) Tryz.func235 rfl rfl ((adD a _ _ _ _ w n v roots h hn (by have:1≤sz:=pO;omega) GC hw hr).mono ?_);rintro r w' ⟨F',h1,h2,h3,h4⟩;cases ho:(jl sz t ns n roots).out with
  | none=>
   rw [h3 ho];exact oM ho w' F' _ ((Vk _ _ _ _ _).1 ho) ⟨a,rfl,h1⟩ h2
  | some l=>
   obtain ⟨v',fp,rfl,h5,h6⟩:=h4 l ho;have e:(jl sz t ns n roots).err=0:=by
    apply Classical.byContradiction;intro bj;rw [(Vk _ _ _ _ _).2 bj] at ho;cases ho
   rw [e];exact eQ l ho w' F' v' ⟨a,rfl,h1⟩ h2 ⟨fp,h5,h6⟩
 | gn y o t=>
  obtain ⟨a,rfl,h⟩:=h;refine qn U ha (agX _ _) Tryz.func190 rfl rfl ((afM w a _ _ _ _ _ _ h kP.1 hw hn ⟨by have:1≤sz:=pO;omega,GC⟩ kP.2 n v roots hr hv pK).mono ?_);rintro r w' ⟨v',F',rfl,h1,h2,h3,h4⟩;cases ho:(ja sz y o t ns n roots).jQ with
  | none=>
   rw [h3 ho];exact oM ho w' F' _ ((Vm _ _ _ _ _ _ _).1 ho) ⟨a,rfl,h1⟩ h2
  | some l=>
   have e:(ja sz y o t ns n roots).err=0:=by
    apply Classical.byContradiction;intro bj;rw [(Vm _ _ _ _ _ _ _).2 bj] at ho;cases ho
   rw [e];exact eQ l ho w' F' v' ⟨a,rfl,h1⟩ h2 (h4 l ho)
theorem ag1 {v:Value} {roots:List Int} (U:(a7 x).ev ρ=some sv) (ha:fh ρ (args.toList.map a7)=some [v]) (h:gM w sv s F) (ho:s.Ok) (hr:Ints w v roots) (ct:bJ s.ns.length roots=true)
   (hv:roots≠[]→∀ x,jf v=some x→¬ F x) (pK:roots.length≤17592186044416)
   (hk:∀ w' F' v',gM w' sv (mU s roots).2 F'→Grow F F' w w'→Vj w w' F' v' (mU s roots).1→K (.tuple #[v',I 0]) w') :
   E.wp Tryz.prog w ρ K (.raw ⟨d,.call { callee:=.invoke x "Collect",args:=args,argTypes:=at'},ty,pos,af,none⟩):=by
 have hn:=ho.n;have hw:=ho.wf;have kP:=ho.kd;obtain ⟨kd,sz,ns⟩:=s;cases kd with
 | ref=>exact h.elim
 | hp t=>
  obtain ⟨a,rfl,h⟩:=h;refine qn U ha (agS _ _) Tryz.func232 rfl rfl ((Sy a _ _ _ _ w v roots h hn hw hr).mono ?_);rintro r w' ⟨_,h1⟩;obtain ⟨v',fp,F',rfl,h2,h3,h4,h5⟩:=h1 ct;exact hk w' F' v' ⟨a,rfl,h3⟩ h4 ⟨fp,h2,h5⟩
 | gn y o t=>
  obtain ⟨a,rfl,h⟩:=h;refine qn U ha (agY _ _) Tryz.func187 rfl rfl ((aeT w a _ _ _ _ _ _ h hw hn v roots hr hv pK).mono ?_);rintro r w' ⟨_,h1⟩;obtain ⟨v',rfl,fq,F',h2,h3,h4,h5⟩:=h1 ct;refine hk w' F' v' ⟨a,rfl,h3⟩ h4 ⟨fq,?_,h5⟩;have e:(fm ns 0 roots).length=roots.length:=by simp [fm]
  show ao w' 3 1 v' ((fm ns 0 roots).map I) (fm ns 0 roots).length fq;rw [e];exact h2
end
end
section
open Go Go.W
structure Ins where
 op:Int
 a:Int
 b:Int
structure Gl where
 name:ByteArray
 arity:Int
 code:List Ins
structure gF where
 name:ByteArray
 fields:Int
 deriving DecidableEq
structure bH where
 au:List gF
 globals:List Gl
structure It where
 aj:ByteArray
 num:Int
structure Fr where
 runs:Bool
 jb:Int
 at':Int
 stack:List Int
 spine:List Int
 bC:Int
structure Mc where
 aZ:bH
 input:List Int
 b8:Bool
 every:Int
 bp:Int
 base:Int
 globals:List Int
 aE:List Fr
 wait:List Int
 given:Bool
 told:List It
 steps:Int
 ended:Int
 stuck:Int
 live:Int
 st:St
def bH.gl (t:bH) (g:Int):Gl:=t.globals.getD g.toNat ⟨⟨#[]⟩,0,[]⟩
def bH.sh (t:bH) (c:Int):gF:=t.au.getD c.toNat ⟨⟨#[]⟩,0⟩
def Gl.ins (g:Gl) (i:Int):Ins:=g.code.getD i.toNat ⟨0,0,0⟩
def St.ov (s:St) (p:Int):Nat:=over s.ns p.toNat
def St.nd (s:St) (p:Int):Nd:=ak s.ns (s.ov p)
def St.set (s:St) (p:Nat) (nd:Nd):St:={ s with ns:=s.ns.set p nd}
def St.add (s:St) (nd:Nd):St:={ s with ns:=s.ns++[nd]}
def Fr.eZ (g:Int→Int) (f:Fr):Fr:={ f with stack:=f.stack.map g,spine:=f.spine.map g,bC:=g f.bC}
def Mc.eZ (g:Int→Int) (M:Mc):Mc:={ M with globals:=M.globals.map g,aE:=M.aE.map (Fr.eZ g),wait:=M.wait.map g}
def Fr.roots (f:Fr):List Int:=f.spine++f.stack++[f.bC]
def Mc.roots (M:Mc):List Int:=M.globals++M.aE.flatMap Fr.roots++M.wait
def Fr.place (f:Fr) (n:Int):Int:=f.stack.getD (f.stack.length - 1 - n.toNat) 0
def Fr.push (f:Fr) (p:Int):Fr:={ f with stack:=f.stack++[p]}
def Fr.pop (f:Fr) (n:Int):Fr:={ f with stack:=f.stack.take (f.stack.length - n.toNat)}
def Mc.aa (M:Mc):Fr:=M.aE.getD (M.aE.length - 1) ⟨false,0,0,[],[],0⟩
def Mc.bU (M:Mc) (f:Fr):Mc:={ M with aE:=M.aE.set (M.aE.length - 1) f}
def Mc.ref (M:Mc):Bool:=match M.st.kd with | .ref=>true | _=>false
def Mc.nv (M:Mc) (p:Int):Int:=if M.ref then (M.st.ov p:Int) else p
def Mc.fail (M:Mc) (gY:Int):Mc:={ M with ended:=3,stuck:=gY}
def Mc.qK (M:Mc):Mc:={ M with aE:=M.aE.take (M.aE.length - 1)}
def zc (p:Int):Fr:=⟨false,0,0,[],[],p⟩
def Mc.enter (M:Mc) (p:Int):Mc:={ M with aE:=M.aE++[zc p]}
def Mc.quick (M:Mc) (n:Int):Bool:=decide (n≤M.st.size - M.st.ns.length)&&(M.ref || !M.b8||decide (M.st.ns.length - M.base+n≤M.bp))
def nQ (s:St) (n:Int) (roots:List Int):Int→Int:=
 match s.kd with
 | .hp _=>if n≤s.size - s.ns.length then id else num s.ns (iX s.ns roots)
 | .ref=>num s.ns (iX s.ns roots)
 | .gn y o _=>if n≤y - (s.ns.length - o)∧n≤s.size - s.ns.length then id
  else if n > s.size - (b9 s.ns o roots).length then fun p=>dD (b9 s.ns o roots) 0 (bK (b9 s.ns o roots) 0 (fm s.ns o roots)) (dD s.ns o (bK s.ns o roots) p)
  else dD s.ns o (bK s.ns o roots)
def Mc.after (M:Mc) (g:Int→Int) (s:St):Mc:={ M.eZ g with st:=s,base:=s.ns.length}
def Mc.room (M:Mc) (n:Int):Bool×Mc:=
 if M.quick n=true then (true,M) else
 match (ei M.st n M.roots).1 with
 | none=>(false,{ M with st:=(ei M.st n M.roots).2,live:=if M.ref then (iX M.st.ns M.roots).length else (ei M.st n M.roots).2.ns.length,ended:=5})
 | some _=>(true,M.after (nQ M.st n M.roots) (ei M.st n M.roots).2)
def Mc.item (M:Mc) (nd:Nd):It:=if nd.kind=1 then ⟨⟨#[]⟩,nd.num⟩ else ⟨(M.aZ.sh nd.num).name,0⟩
def Mc.last (M:Mc):Int:=M.wait.getD (M.wait.length - 1) 0
def Mc.tell (M:Mc):Mc:=
 if (M.st.nd M.last).kind=1∨(M.st.nd M.last).kind=2 then
  { M with told := M.told ++ [M.item (M.st.nd M.last)], wait := M.wait.take (M.wait.length - 1) ++ (M.st.nd M.last).args.reverse,
           ended:=if (M.wait.take (M.wait.length - 1)++(M.st.nd M.last).args.reverse).length=0 then 2 else M.ended}
 else M.enter (M.nv M.last)
def Fr.own (f:Fr) (ar:Int):List Int:=f.spine.drop (f.spine.length - ar.toNat)
def Mc.head (M:Mc) (f:Fr) (ar:Int):Int:=match f.own ar with
 | []=>M.st.ov f.bC
 | s::_=>if M.ref then s else M.st.ov s
def Mc.call (M:Mc) (f:Fr) (g:Int):Mc:=
 if (f.own (M.aZ.gl g).arity).all (fun s=>decide ((M.st.nd s).kind=3))=true then
  { M.bU { f with runs:=true,jb:=g,at':=0,stack:=M.head f (M.aZ.gl g).arity::(f.own (M.aZ.gl g).arity).map (fun s=>(M.st.nd s).args.getD 1 0),spine:=f.spine.take (f.spine.length - (M.aZ.gl g).arity.toNat)}
   with st:=M.st.set (M.st.ov (M.head f (M.aZ.gl g).arity)) ⟨7,0,[]⟩}
 else M.fail 5
def Mc.A6 (M:Mc):Mc:=
 { M.bU { M.aa with bC:=(M.st.ns.length:Int)+1,spine:=[]} with
  given:=true,wait:=M.wait.set (M.wait.length - 1) ((M.st.ns.length:Int)+1),st:=(M.st.add ⟨8,0,[]⟩).add ⟨3,0,[M.last,M.st.ns.length]⟩}
def Mc.pP (M:Mc):Mc:=
 if M.aE.length > 1 then M.qK
 else if M.given=true∨M.told.length > 0 then M.fail 5
 else if (M.room 2).1=true then (M.room 2).2.A6 else (M.room 2).2
def Mc.Di (M:Mc) (k:Int):Mc:=
 { M with st:=((M.st.add ⟨1,M.input.getD k.toNat 0,[]⟩).add ⟨8,k+1,[]⟩).set (M.st.ov M.aa.bC) ⟨2,4,[(M.st.ns.length:Int),(M.st.ns.length:Int)+1]⟩}
def Mc.read (M:Mc) (f:Fr) (k:Int):Mc:=
 if k≥M.input.length then { M with st:=M.st.set (M.st.ov f.bC) ⟨2,3,[]⟩}
 else if (M.room 2).1=true then (M.room 2).2.Di k else (M.room 2).2
def Mc.unwind (M:Mc) (f:Fr):Mc:=
 if (M.st.nd f.bC).kind=3 then M.bU { f with spine:=f.spine++[(M.st.ov f.bC:Int)],bC:=(M.st.nd f.bC).args.getD 0 0}
 else if (M.st.nd f.bC).kind=4 then (if (f.spine.length:Int)≥(M.aZ.gl (M.st.nd f.bC).num).arity then M.call f (M.st.nd f.bC).num else M.pP)
 else if (M.st.nd f.bC).kind=1∨(M.st.nd f.bC).kind=2 then (if f.spine.length > 0 then M.fail 5 else M.qK)
 else if (M.st.nd f.bC).kind=8 then M.read f (M.st.nd f.bC).num
 else if (M.st.nd f.bC).kind=6 then M.fail 5
 else M.fail 4
def cellsOf (x:Ins):Int:=if x.op=3∨x.op=6∨x.op=9∨x.op=12 then 1 else if x.op=8 then x.a else 0
def Mc.put (M:Mc) (nd:Nd) (drop:Int):Mc:={ M.bU ((M.aa.pop drop).push M.st.ns.length) with st:=M.st.add nd}
def GD (op a b:Int):Bool:=
 if op=6 then decide (a=b) else if op=7 then decide (a≠b) else if op=8 then decide (a < b) else if op=9 then decide (a≤b) else if op=10 then decide (a > b) else decide (a≥b)
def iK (n:Int):Int:=(n+4611686018427387904) % 9223372036854775808 - 4611686018427387904
def jI (op a b:Int):Nd:=
 if op=1 then ⟨1,iK (a+b),[]⟩ else if op=2 then ⟨1,iK (a - b),[]⟩ else if op=3 then ⟨1,iK (a*b),[]⟩ else if op=4 then ⟨1,iK (a.tdiv b),[]⟩ else if op=5 then ⟨1,iK (a.tmod b),[]⟩
 else if GD op a b=true then ⟨2,1,[]⟩ else ⟨2,0,[]⟩
def Mc.arith (M:Mc) (x:Ins):Mc:=
 if (M.st.nd (M.aa.place 0)).kind≠1∨(M.st.nd (M.aa.place 1)).kind≠1 then M.fail 5
 else if (x.a=4∨x.a=5)∧(M.st.nd (M.aa.place 1)).num=0 then M.fail 3
 else M.put (jI x.a (M.st.nd (M.aa.place 0)).num (M.st.nd (M.aa.place 1)).num) 2
def Mc.alloc (M:Mc) (n:Nat):Mc:=
 { M.bU { M.aa with stack:=M.aa.stack++(List.range n).map fun i=>((M.st.ns.length+i:Nat):Int)} with st:={ M.st with ns:=M.st.ns++List.replicate n ⟨6,0,[]⟩}}
def Mc.ku (M:Mc) (bad go:Bool) (b:Int):Mc:=if bad=true then M.fail 5 else if go=true then M.bU { M.aa with at':=b} else M
def Mc.exec (M:Mc) (x:Ins):Mc:=
 if x.op=1 then M.bU (M.aa.push (M.aa.place x.a))
 else if x.op=2 then M.bU (M.aa.push (M.globals.getD x.a.toNat 0))
 else if x.op=3 then M.put ⟨1,x.a,[]⟩ 0
 else if x.op=4 then M.bU (M.aa.pop x.a)
 else if x.op=5 then M.bU ((M.aa.pop (x.a+1)).push (M.aa.place 0))
 else if x.op=6 then M.put ⟨3,0,[M.aa.place 0,M.aa.place 1]⟩ 2
 else if x.op=7 then { M.bU (M.aa.pop 1) with st:=M.st.set (M.st.ov (M.aa.place x.a)) ⟨5,0,[(M.st.ov (M.aa.place 0):Int)]⟩}
 else if x.op=8 then M.alloc x.a.toNat
 else if x.op=9 then M.put ⟨2,x.a,(List.range (M.aZ.sh x.a).fields.toNat).map fun i:Nat=>M.aa.place (i:Int)⟩ (M.aZ.sh x.a).fields
 else if x.op=10 then
  (if (M.st.nd (M.aa.place 0)).kind≠2∨(M.st.nd (M.aa.place 0)).num≠x.a∨((M.st.nd (M.aa.place 0)).args.length:Int)≠(M.aZ.sh x.a).fields then M.fail 5
   else M.bU { M.aa.pop 1 with stack:=(M.aa.pop 1).stack++(M.st.nd (M.aa.place 0)).args.reverse})
 else if x.op=11 then (if (M.st.nd (M.aa.place 0)).kind≠1∧(M.st.nd (M.aa.place 0)).kind≠2 then M.enter (M.nv (M.aa.place 0)) else M)
 else if x.op=12 then M.arith x
 else if x.op=13 then M.bU { M.aa with at':=x.a}
 else if x.op=14 then M.ku (decide ((M.st.nd (M.aa.place 0)).kind≠2)) (decide ((M.st.nd (M.aa.place 0)).num≠x.a)) x.b
 else if x.op=15 then M.ku (decide ((M.st.nd (M.aa.place 0)).kind≠1)) (decide ((M.st.nd (M.aa.place 0)).num≠x.a)) x.b
 else if x.op=16 then M.fail x.a
 else M.bU { M.aa with runs:=false,bC:=M.aa.stack.getD 0 0,stack:=[]}
def Mc.dE (M:Mc):Ins:=(M.aZ.gl M.aa.jb).ins M.aa.at'
def Mc.next (M:Mc):Mc:=M.bU { M.aa with at':=M.aa.at'+1}
def Mc.run (M:Mc):Mc:=
 if cellsOf M.dE > 0∧(M.room (cellsOf M.dE)).1=false then (M.room (cellsOf M.dE)).2
 else if cellsOf M.dE > 0 then (M.room (cellsOf M.dE)).2.next.exec M.dE
 else M.next.exec M.dE
def Mc.work (M:Mc):Mc:=if M.aE.length=0 then M.tell else if M.aa.runs=true then M.run else M.unwind M.aa
def ub (s:St) (roots:List Int):Int→Int:=
 match s.kd with
 | .gn _ _ _=>dD s.ns 0 (bK s.ns 0 roots)
 | _=>num s.ns (iX s.ns roots)
def Mc.tidy (M:Mc):Mc:=if M.every > 0∧M.steps.tmod M.every=0 then M.after (ub M.st M.roots) (mU M.st M.roots).2 else M
def Mc.step (M:Mc):Mc:=
 if M.ended≠0 then M
 else if M.work.ended=5 then M.work
 else ({ M.work with steps:=M.work.steps+1}).tidy
end
section
open Go Go.W
inductive Tg where
 | no | tb | m | gl | fr | wt | tl | st
 | fb (i:Nat)
 | fs (i:Nat)
 | fp (i:Nat)
 deriving DecidableEq
abbrev Tag:=Nat→Tg
def Tag.is (τ:Tag) (fp:Option Nat) (t:Tg):Prop:=∀ b,fp=some b→τ b=t
def Tag.ext (τ bI:Tag) (w:World):Prop:=∀ b,b < w.heap.size→bI b=τ b
def Tag.wx (τ bI:Tag) (w:World):Prop:=∀ b,b < w.heap.size→τ b≠.no→bI b=τ b
theorem Tag.ext.wx {τ bI:Tag} {w:World} (h:τ.ext bI w):τ.wx bI w:=fun b hb _=>h b hb
theorem dV (τ:Tag) (w:World):τ.ext τ w:=fun _ _=>rfl
theorem GF {τ bI GG:Tag} {w w':World} (h:τ.ext bI w) (h':bI.ext GG w') (hs:w.heap.size≤w'.heap.size):τ.ext GG w:=
 fun b hb=>(h' b (Nat.lt_of_lt_of_le hb hs)).trans (h b hb)
def bL (τ:Tag) (w:World) (t:Tg):Tag:=fun b=>if b < w.heap.size then τ b else t
theorem eJ (τ:Tag) (w:World) (t:Tg):τ.ext (bL τ w t) w:=fun b hb=>by simp [bL,hb]
theorem oP {τ:Tag} {w:World} {t:Tg} {b:Nat} (h:w.heap.size≤b):bL τ w t b=t:=by simp [bL,Nat.not_lt.2 h]
theorem zd {τ bI:Tag} {w:World} {fp:Option Nat} {t:Tg} (h:τ.is fp t) (he:τ.wx bI w) (hl:∀ b,fp=some b→b < w.heap.size) (ht:t≠.no:=by decide):bI.is fp t:=
 fun b hb=>(he b (hl b hb) (by rw [h b hb];exact ht)).trans (h b hb)
theorem Dj {τ:Tag} {w:World} {fp gx:Option Nat} {t:Tg} (h:τ.is fp t) (hl:∀ b,fp=some b→b < w.heap.size) (hf:∀ b,gx=some b→fp=some b∨w.heap.size≤b):(bL τ w t).is gx t:=by
 intro b hb;rcases hf b hb with h1 | h1
 ·exact (eJ τ w t b (hl b h1)).trans (h b h1)
 ·exact oP h1
def cO (w:World) (v:Value) (sz:Nat) (rows:List (List Value)) (B:Nat→Prop):Prop:=
 ∃ a c,v = .slice a rows.length c∧(0 < rows.length→∀ ad,a=some ad→B ad.block)∧∀ i (h:i < rows.length),∃ ad,a=some ad∧rows[i].length=sz∧∀ k (hk:k < rows[i].length),w.cell? ((ad.add (i*sz)).add k)=some rows[i][k]
theorem cO.mod {w w':World} {v:Value} {sz:Nat} {rows:List (List Value)} {B B' S:Nat→Prop} (h:cO w v sz rows B) (hm:Mod S w w') (hd:∀ b,B b→¬ S b) (hB:∀ b,B b→B' b):cO w' v sz rows B':=by
 obtain ⟨a,c,rfl,hb,h⟩:=h;refine ⟨a,c,rfl,fun h0 ad h=>hB _ (hb h0 ad h),fun i hi=>?_⟩;obtain ⟨ad,rfl,hl,hc⟩:=h i hi;refine ⟨ad,rfl,hl,fun k hk=>hm.cell (hc k hk) ?_⟩;rw [rA,rA];exact hd _ (hb (by omega) _ rfl)
def nR (x:Ins):List Value:=[I x.op,I x.a,I x.b]
def fy (s:gF):List Value:=[.string s.name,I s.fields]
def fM (w:World) (cu ci:Value) (T:bH) (B:Nat→Prop):Prop:=
 cO w cu 2 (T.au.map fy) B∧∃ iv:List Value,iv.length=T.globals.length∧cO w ci 3 (List.zipWith (fun (g:Gl) (v:Value)=>[.string g.name,I g.arity,v]) T.globals iv) B ∧
  ∀ (i:Nat) (g:Gl) (v:Value),T.globals[i]? = some g→iv[i]? = some v→cO w v 3 (g.code.map nR) B
theorem fM.mod {w w':World} {cu ci:Value} {T:bH} {B B' S:Nat→Prop} (h:fM w cu ci T B) (hm:Mod S w w') (hd:∀ b,B b→¬ S b) (hB:∀ b,B b→B' b):fM w' cu ci T B':=by
 obtain ⟨h1,iv,h2,h3,h4⟩:=h;exact ⟨h1.mod hm hd hB,iv,h2,h3.mod hm hd hB,fun i g v hg hv=>(h4 i g v hg hv).mod hm hd hB⟩
def cC (f:Fr) (vs vp:Value):List Value:=[.bool f.runs,I f.jb,I f.at',vs,vp,I f.bC]
structure nS (w:World) (τ:Tag) (i k:Nat) (f:Fr) (vs vp:Value) (fs fp:Option Nat):Prop where
 cells:w.heap[k]? = some (.cells (cC f vs vp).toArray 151 (0,0))
 tk:τ k = .fb i
 stack:ao w 3 1 vs (f.stack.map I) f.stack.length fs
 ts:τ.is fs (.fs i)
 spine:ao w 3 1 vp (f.spine.map I) f.spine.length fp
 tp:τ.is fp (.fp i)
def nT (w:World) (τ:Tag) (i k:Nat) (f:Fr):Prop:=∃ vs vp fs fp,nS w τ i k f vs vp fs fp
def Tg.fo (i:Nat) (t:Tg):Prop:=t = .fb i∨t = .fs i∨t = .fp i
theorem nS.lt {w:World} {τ:Tag} {i k:Nat} {f:Fr} {vs vp:Value} {fs fp:Option Nat} (h:nS w τ i k f vs vp fs fp):k < w.heap.size∧(∀ b,fs=some b→b < w.heap.size)∧∀ b,fp=some b→b < w.heap.size:=
 ⟨lt_of_heap h.cells,fun b hb=>h.stack.lt hb,fun b hb=>h.spine.lt hb⟩
theorem nS.mod {w w':World} {τ bI:Tag} {i k:Nat} {f:Fr} {vs vp:Value} {fs fp:Option Nat} {S:Nat→Prop} (h:nS w τ i k f vs vp fs fp) (hm:Mod S w w') (he:τ.wx bI w) (hd:∀ b,b < w.heap.size→S b→¬ (τ b).fo i):nS w' bI i k f vs vp fs fp:=by
 obtain ⟨l1,l2,l3⟩:=h.lt
 exact ⟨hm.at h.cells (fun hs=>hd _ l1 hs (.inl h.tk)),(he _ l1 (by rw [h.tk];simp)).trans h.tk,h.stack.mod hm (fun b hb hs=>hd _ (l2 b hb) hs (.inr (.inl (h.ts b hb)))),zd h.ts he l2 (by simp),
  h.spine.mod hm (fun b hb hs=>hd _ (l3 b hb) hs (.inr (.inr (h.tp b hb)))),zd h.tp he l3 (by simp)⟩
theorem nT.mod {w w':World} {τ bI:Tag} {i k:Nat} {f:Fr} {S:Nat→Prop} (h:nT w τ i k f) (hm:Mod S w w') (he:τ.wx bI w) (hd:∀ b,b < w.heap.size→S b→¬ (τ b).fo i):nT w' bI i k f:=by
 obtain ⟨vs,vp,fs,fp,h⟩:=h;exact ⟨vs,vp,fs,fp,h.mod hm he hd⟩
def xD (w:World) (τ:Tag) (i k:Nat) (f':Fr) (w':World):Prop:=∃ bI,τ.ext bI w∧nT w' bI i k f'∧Mod (fun b=>(τ b).fo i) w w'
theorem Dk (a:Option Addr) (c:Nat):(if c=0 then a else Option.map (fun x=>x) a)=a:=by
 split
 ·rfl
 ·cases a<;>rfl
theorem GH {w:World} {T sz n c:Nat} {a:Option Addr} {xs:List Value} {fp:Option Nat} (h:ao w T sz (.slice a n c) xs n fp) {k:Nat} (hk:k≤n):ao w T sz (.slice a k c) (xs.take (k*sz)) k fp:=by
 obtain ⟨h1,h2⟩:=h;refine ⟨by rw [List.length_take,h1];exact Nat.min_eq_left (Nat.mul_le_mul_right _ hk),?_⟩;rcases h2 with ⟨e,rfl,rfl⟩ | ⟨b,c',sp,e,rfl,h3,h4,h5⟩
 ·cases e;obtain rfl:k=0:=by omega
  exact .inl ⟨rfl,rfl,rfl⟩
 ·cases e;refine .inr ⟨b,c,xs.drop (k*sz)++sp,rfl,rfl,?_,?_,by omega⟩
  ·rw [← List.append_assoc,List.take_append_drop];exact h3
  ·rw [← List.append_assoc,List.take_append_drop];exact h4
theorem kQ {w:World} {T n c:Nat} {a:Option Addr} {xs:List Value} {fp:Option Nat} (h:ao w T 1 (.slice a n c) xs n fp) {i:Nat} (hi:i < n):∃ b,a=some ⟨b,0,none⟩∧fp=some b∧w.cell? ⟨b,i,none⟩=xs[i]?:=by
 obtain ⟨b,c',sp,e,h1,h2,_⟩:=h.pos (by omega);cases e;refine ⟨b,rfl,h1,?_⟩;rw [cell_of h2];have:i < xs.length:=by rw [h.1];omega
 simp [List.getElem?_append_left this]
theorem oQ {w:World} {τ:Tag} {i k:Nat} {f:Fr} (h:nT w τ i k f) (hs:f.stack.length≤4294967296) {n:Int} (hn:0≤n∧n < f.stack.length) :
   aK Tryz.prog 112 [.pointer (some ⟨k,0,none⟩),I n] w fun r w'=>r=I (f.place n)∧w'=w.drew:=by
 obtain ⟨vs,vp,fs,fp,h⟩:=h;obtain ⟨n,rfl⟩:∃ m:Nat,n=m:=⟨n.toNat,by omega⟩;obtain ⟨a,c,rfl,hc,_⟩:=h.stack.val;have hl:=h.stack.1;have gO:=h.cells;refine agf.calls rfl ?_;unfold L2;obtain ⟨b,rfl,_,e⟩:=kQ h.stack (i:=f.stack.length - 1 - n) (by omega);have e1:IntKind.i64.wrap (IntKind.i64.wrap ((f.stack.length:Int) - 1) - n)=((f.stack.length - 1 - n:Nat):Int):=by
  rw [cy (n:=(f.stack.length:Int) - 1) (by omega) (by omega),cy (by omega) (by omega)];omega
 have e2:(0:Int)≤((f.stack.length - 1 - n:Nat):Int)∧((f.stack.length - 1 - n:Nat):Int) < f.stack.length:=by omega
 have e3:w.cell? ⟨b,f.stack.length - 1 - n,none⟩=some (I (f.place n)):=by
  rw [e,List.getElem?_map,List.getElem?_eq_getElem (by omega:f.stack.length - 1 - n < f.stack.length)];simp only [Fr.place,Int.toNat_natCast,List.getD_eq_getElem?_getD,List.getElem?_eq_getElem (by omega:f.stack.length - 1 - n < f.stack.length),Option.getD_some,Option.map_some]
 simp only [go_sem,simprocAttr,an,bq,cell_of gO,cC,e1,e2,e3,dB]
theorem Dl {w:World} {τ:Tag} {i k:Nat} {f:Fr} {vs vp:Value} {fs fp:Option Nat} (h:nS w τ i k f vs vp fs fp):fs≠some k∧fp≠some k∧∀ b,fs=some b→fp≠some b:=by
 refine ⟨fun e=>?_,fun e=>?_,fun b e e'=>?_⟩
 ·have:=h.ts k e;rw [h.tk] at this;cases this
 ·have:=h.tp k e;rw [h.tk] at this;cases this
 ·have:=h.ts b e;rw [h.tp b e'] at this;cases this
theorem GI {w w2 w3:World} {τ:Tag} {i k:Nat} {f f':Fr} {vs vp vs':Value} {fs fp fs':Option Nat} (h:nS w τ i k f vs vp fs fp) (ho:ao w2 3 1 vs' (f'.stack.map I) f'.stack.length fs') (e:f'.spine=f.spine)
   (hb:w3.heap[k]? = some (.cells (cC f' vs' vp).toArray 151 (0,0))) (ae:Mod (fun b=>fs=some b) w w2) (ab:Mod (· = k) w2 w3) (hf:∀ b,fs'=some b→fs=some b∨w.heap.size≤b):xD w τ i k f' w3:=by
 obtain ⟨l1,l2,l3⟩:=h.lt;obtain ⟨a1,a2,a3⟩:=Dl h;have hm:Mod (fun b=>fs=some b∨b=k) w w3:=(ae.az (fun _ h=>.inl h)).step (ab.az (fun _ h=>.inr h)) (fun x U _=>U);have hk:fs'≠some k:=fun e=>by
  rcases hf k e with h1 | h1
  ·exact a1 h1
  ·omega
 have ht:=eJ τ w (.fs i);refine ⟨bL τ w (.fs i),ht,⟨vs',vp,fs',fp,hb,(ht k l1).trans h.tk,ho.mod ab (fun b hb hh=>hk (by rw [hb,hh])),Dj h.ts l2 hf,?_,zd h.tp ht.wx l3 (by simp)⟩,hm.az ?_⟩
 ·rw [e];refine h.spine.mod hm (fun b aC hh=>?_);rcases hh with hh | hh
  ·exact a3 b hh aC
  ·exact a2 (hh ▸ aC)
 ·rintro b (hh | rfl)
  ·exact .inr (.inl (h.ts b hh))
  ·exact .inl h.tk
theorem Vn {w w2 w3:World} {τ:Tag} {i k:Nat} {f f':Fr} {vs vp xE:Value} {fs fp gx:Option Nat} (h:nS w τ i k f vs vp fs fp) (ho:ao w2 3 1 xE (f'.spine.map I) f'.spine.length gx) (e:f'.stack=f.stack)
   (hb:w3.heap[k]? = some (.cells (cC f' vs xE).toArray 151 (0,0))) (ae:Mod (fun b=>fp=some b) w w2) (ab:Mod (· = k) w2 w3) (hf:∀ b,gx=some b→fp=some b∨w.heap.size≤b):xD w τ i k f' w3:=by
 obtain ⟨l1,l2,l3⟩:=h.lt;obtain ⟨a1,a2,a3⟩:=Dl h;have hm:Mod (fun b=>fp=some b∨b=k) w w3:=(ae.az (fun _ h=>.inl h)).step (ab.az (fun _ h=>.inr h)) (fun x U _=>U);have hk:gx≠some k:=fun e=>by
  rcases hf k e with h1 | h1
  ·exact a2 h1
  ·omega
 have ht:=eJ τ w (.fp i);refine ⟨bL τ w (.fp i),ht,⟨vs,xE,fs,gx,hb,(ht k l1).trans h.tk,?_,zd h.ts ht.wx l2 (by simp),ho.mod ab (fun b hb hh=>hk (by rw [hb,hh])),Dj h.tp l3 hf⟩,hm.az ?_⟩
 ·rw [e];refine h.stack.mod hm (fun b aC hh=>?_);rcases hh with hh | hh
  ·exact a3 b aC hh
  ·exact a1 (hh ▸ aC)
 ·rintro b (hh | rfl)
  ·exact .inr (.inr (h.tp b hh))
  ·exact .inl h.tk
theorem GJ {w w3:World} {τ:Tag} {i k:Nat} {f f':Fr} {vs vp:Value} {fs fp:Option Nat} (h:nS w τ i k f vs vp fs fp) (e:f'.stack=f.stack) (e':f'.spine=f.spine)
   (hb:w3.heap[k]? = some (.cells (cC f' vs vp).toArray 151 (0,0))) (ab:Mod (· = k) w w3):xD w τ i k f' w3:=
 GI h (by rw [e];exact h.stack) e' hb (Mod.refl _ w) ab (fun b hb=>.inl hb)
theorem xF {w:World} {τ:Tag} {i k:Nat} {f:Fr} (h:nT w τ i k f) (hs:f.stack.length≤4294967296) (p:Int) :
   aK Tryz.prog 111 [.pointer (some ⟨k,0,none⟩),I p] w fun _ w'=>xD w τ i k (f.push p) w':=by
 obtain ⟨vs,vp,fs,fp,h⟩:=h;obtain ⟨a,c,rfl,hc,_⟩:=h.stack.val;have gO:=h.cells;obtain ⟨l1,l2,l3⟩:=h.lt;refine Va.calls rfl ?_;unfold Gx;simp only [go_sem,simprocAttr,cell_of gO,cC];refine cd (by rfl) (by rfl) ?_;intro w1 ax ag cL;refine σ ?_;refine eH (v:=.slice a f.stack.length c) (news:=[I p]) rfl (h.stack.mod ag (fun _ _ h=>h)) rfl (fun h=>by cases h) (j9 (xs:=[I p]) ax) (pB [p]) rfl (by omega) (by omega) ?_;intro v2 w2 xG dR ae eO;have dG:Mod (fun b=>fs=some b) w w2:=(ag.az (fun _ h=>h.elim)).step ae (fun x U _=>U);have cB:=dG.at gO (fun hh=>im h.stack hh gO (by decide));obtain ⟨va,vc,rfl,_,_⟩:=dR.val;refine σ ?_;refine bY (cs:=cC f (.slice a f.stack.length c) vp) rfl rfl cB rfl (by simp [cC]) ?_;intro w3 aJ ab eP;refine σ ?_;refine GI (f':=f.push p) h (by simpa [Fr.push] using dR) rfl aJ dG ab (fun b hb=>(eO b hb).imp id (fun hh=>by have:=ag.size;omega))
theorem ze {w:World} {τ:Tag} {i k:Nat} {f:Fr} (h:nT w τ i k f) (hs:f.stack.length≤4294967296) {n:Int} (hn:0≤n∧n≤f.stack.length) :
   aK Tryz.prog 118 [.pointer (some ⟨k,0,none⟩),I n] w fun _ w'=>xD w τ i k (f.pop n) w':=by
 obtain ⟨vs,vp,fs,fp,h⟩:=h;obtain ⟨n,rfl⟩:∃ m:Nat,n=m:=⟨n.toNat,by omega⟩;obtain ⟨a,c,rfl,hc,_⟩:=h.stack.val;have hl:=h.stack.1;have gO:=h.cells;refine agl.calls rfl ?_;unfold L7;have e1:IntKind.i64.wrap ((f.stack.length:Int) - n)=((f.stack.length - n:Nat):Int):=by rw [cy (by omega) (by omega)];omega
 have e2:(0:Int)≤((f.stack.length - n:Nat):Int)∧((f.stack.length - n:Nat):Int)≤c:=by omega
 simp only [go_sem,simprocAttr,an,bq,cell_of gO,cC,e1,e2,Dk];refine bY (cs:=cC f (.slice a f.stack.length c) vp) (off:=3) rfl rfl gO rfl (by simp [cC]) ?_;intro w3 aJ ab eP;refine σ ?_;exact GI (w2:=w.drew) (fs':=fs) (f':=f.pop n) h (by have h2:ao w.drew 3 1 _ _ _ _:=GH h.stack (k:=f.stack.length - n) (by omega);simpa [Fr.pop,List.map_take] using h2) rfl (by simpa [cC,Fr.pop] using aJ) ((Mod.refl _ w).drew) ab (fun b hb=>.inl hb)
end
section
open Go Go.W
structure SV where
 cu:Value
 ci:Value
 lO:Value
 vR:Value
 sv:Value
def bb (S:SV) (M:Mc) (vG vF vW vT:Value):List Value:=
 [S.cu,S.ci,S.lO,I M.st.size,.bool M.b8,I M.every,S.sv,I M.bp,I M.base,vG,vF,vW,.bool M.given,vT,I M.steps,I M.ended,I M.stuck,I M.live,S.vR]
def ec (x:It):List Value:=[.string x.aj,I x.num]
def ej (f:Nat):Value:=.func (.func f) #[] #[]
def mc:List (List Value):=[[.nilFunc,.nilFunc],[ej 109,ej 110],[ej 109,ej 113],[ej 114,ej 115],[ej 109,ej 117],
 [ej 109,ej 119],[ej 114,ej 120],[ej 109,ej 121],[ej 122,ej 123],
 [ej 114,ej 124],[ej 109,ej 125],[ej 109,ej 126],[ej 114,ej 127],
 [ej 109,ej 128],[ej 109,ej 129],[ej 109,ej 130],[ej 109,ej 131],[ej 109,ej 133]]
@[go_sem] def ptr (k:Nat):Value:=.pointer (some ⟨k,0,none⟩)
def Tag.aZ (τ:Tag) (w:World):Nat→Prop:=fun b=>b < w.heap.size∧τ b = .tb
structure ek (w:World) (τ:Tag) (m:Nat) (S:SV) (M:Mc) (vG vF vW vT:Value) (fg ff fw ft:Option Nat) (F:Nat→Prop) (ks:List Nat):Prop where
 cells:w.heap[m]? = some (.cells (bb S M vG vF vW vT).toArray 113 (0,0))
 tm:τ m = .m
 gl:ao w 3 1 vG (M.globals.map I) M.globals.length fg
 tg:τ.is fg .gl
 fr:ao w 152 1 vF (ks.map ptr) ks.length ff
 tf:τ.is ff .fr
 wt:ao w 3 1 vW (M.wait.map I) M.wait.length fw
 tw:τ.is fw .wt
 tl:ao w 42 2 vT (M.told.flatMap ec) M.told.length ft
 tt:τ.is ft .tl
 st:gM w S.sv M.st F
 tF:∀ b,F b→τ b = .st
 len:ks.length=M.aE.length
 jJ:∀ (i k:Nat) (f:Fr),ks[i]? = some k→M.aE[i]? = some f→nT w τ i k f
 aZ:fM w S.cu S.ci M.aZ (τ.aZ w)
 jo:Ints w S.lO M.input
 Vo:∀ b,jf S.lO=some b→τ.aZ w b
 rows:cO w S.vR 2 mc (τ.aZ w)
def iL (w:World) (τ:Tag) (m:Nat) (S:SV) (M:Mc) (ks:List Nat):Prop:=∃ vG vF vW vT fg ff fw ft F,ek w τ m S M vG vF vW vT fg ff fw ft F ks
def Tg.own (t:Tg):Prop:=t≠.no∧t≠.tb
def aU (w:World) (τ:Tag) (m:Nat) (S:SV) (M':Mc) (ks:List Nat) (w':World):Prop:=∃ bI,τ.ext bI w∧iL w' bI m S M' ks∧Mod (fun b=>(τ b).own) w w'
section
variable {w w':World} {τ bI:Tag} {m:Nat} {S:SV} {M:Mc} {vG vF vW vT:Value} {fg ff fw ft:Option Nat} {F:Nat→Prop} {ks:List Nat} {X:Nat→Prop}
theorem ek.lt (h:ek w τ m S M vG vF vW vT fg ff fw ft F ks):m < w.heap.size:=lt_of_heap h.cells
theorem ek.GK (h:ek w τ m S M vG vF vW vT fg ff fw ft F ks) (hm:Mod X w w') (he:τ.wx bI w) (hd:∀ b,b < w.heap.size→X b→τ b≠.m) :
   w'.heap[m]? = some (.cells (bb S M vG vF vW vT).toArray 113 (0,0))∧bI m = .m:=
 ⟨hm.at h.cells (fun U=>hd _ h.lt U h.tm),(he _ h.lt (by rw [h.tm];simp)).trans h.tm⟩
theorem gP {T sz n:Nat} {v:Value} {xs:List Value} {fp:Option Nat} {t:Tg} (h:ao w T sz v xs n fp) (ht:τ.is fp t) (hm:Mod X w w') (he:τ.wx bI w) (hd:∀ b,b < w.heap.size→X b→τ b≠t) (hn:t≠.no:=by decide) :
   ao w' T sz v xs n fp∧bI.is fp t:=
 ⟨h.mod hm (fun b hb U=>hd b (h.lt hb) U (ht b hb)),zd ht he (fun b hb=>h.lt hb) hn⟩
theorem ek.jy (h:ek w τ m S M vG vF vW vT fg ff fw ft F ks) (hm:Mod X w w') (he:τ.wx bI w) (hd:∀ b,b < w.heap.size→X b→τ b≠.st):gM w' S.sv M.st F∧∀ b,F b→bI b = .st:=
 ⟨h.st.mod hm (fun b hb U=>hd b (h.st.lt b hb) U (h.tF b hb)),fun b hb=>(he b (h.st.lt b hb) (by rw [h.tF b hb];simp)).trans (h.tF b hb)⟩
theorem ek.xH (h:ek w τ m S M vG vF vW vT fg ff fw ft F ks) (hm:Mod X w w') (he:τ.wx bI w) {i k:Nat} {f:Fr} (hk:ks[i]? = some k) (hf:M.aE[i]? = some f) (hd:∀ b,b < w.heap.size→X b→¬ (τ b).fo i):nT w' bI i k f:=
 (h.jJ i k f hk hf).mod hm he hd
theorem MC (he:τ.wx bI w) (hs:w.heap.size≤w'.heap.size) (b:Nat) (h:τ.aZ w b):bI.aZ w' b:=⟨Nat.lt_of_lt_of_le h.1 hs,(he b h.1 (by rw [h.2];simp)).trans h.2⟩
theorem ek.xI (h:ek w τ m S M vG vF vW vT fg ff fw ft F ks) (hm:Mod X w w') (he:τ.wx bI w) (hd:∀ b,b < w.heap.size→X b→τ b≠.tb) :
   fM w' S.cu S.ci M.aZ (bI.aZ w')∧Ints w' S.lO M.input∧(∀ b,jf S.lO=some b→bI.aZ w' b)∧cO w' S.vR 2 mc (bI.aZ w'):=by
 have U:∀ b,τ.aZ w b→¬ X b:=fun b hb U=>hd b hb.1 U hb.2
 exact ⟨h.aZ.mod hm U (MC he hm.size),h.jo.mod hm (fun b hb=>U b (h.Vo b hb)),fun b hb=>MC he hm.size b (h.Vo b hb),h.rows.mod hm U (MC he hm.size)⟩
theorem ek.mod (h:ek w τ m S M vG vF vW vT fg ff fw ft F ks) (hm:Mod X w w') (he:τ.wx bI w) (hd:∀ b,b < w.heap.size→X b→τ b = .no):ek w' bI m S M vG vF vW vT fg ff fw ft F ks:=by
 have cz:∀ {t:Tg},t≠.no→∀ b,b < w.heap.size→X b→τ b≠t:=fun ht b hb U e=>ht (e.symm.trans (hd b hb U))
 obtain ⟨c1,c2⟩:=h.GK hm he (cz (by simp));obtain ⟨g1,g2⟩:=gP h.gl h.tg hm he (cz (by simp));obtain ⟨f1,f2⟩:=gP h.fr h.tf hm he (cz (by simp));obtain ⟨w1,w2⟩:=gP h.wt h.tw hm he (cz (by simp));obtain ⟨t1,t2⟩:=gP h.tl h.tt hm he (cz (by simp));obtain ⟨s1,s2⟩:=h.jy hm he (cz (by simp));obtain ⟨b1,b2,b3,b4⟩:=h.xI hm he (cz (by simp));refine ⟨c1,c2,g1,g2,f1,f2,w1,w2,t1,t2,s1,s2,h.len,fun i k f hk hf=>h.xH hm he hk hf (fun b hb U=>?_),b1,b2,b3,b4⟩;rw [hd b hb U];rintro (h | h | h)<;>cases h
theorem iL.mod (h:iL w τ m S M ks) (hm:Mod X w w') (he:τ.wx bI w) (hd:∀ b,b < w.heap.size→X b→τ b = .no):iL w' bI m S M ks:=by
 obtain ⟨vG,vF,vW,vT,fg,ff,fw,ft,F,h⟩:=h;exact ⟨vG,vF,vW,vT,fg,ff,fw,ft,F,h.mod hm he hd⟩
theorem ek.frame (h:ek w τ m S M vG vF vW vT fg ff fw ft F ks) {i k:Nat} {f':Fr} (hk:ks[i]? = some k) (hm:Mod (fun b=>(τ b).fo i) w w') (he:τ.wx bI w) (hf:nT w' bI i k f') :
   ek w' bI m S { M with aE:=M.aE.set i f'} vG vF vW vT fg ff fw ft F ks:=by
 have cz:∀ {t:Tg},¬ t.fo i→∀ b,b < w.heap.size→(τ b).fo i→τ b≠t:=fun ht b hb U e=>ht (e ▸ U)
 obtain ⟨c1,c2⟩:=h.GK hm he (cz (by simp [Tg.fo]));obtain ⟨g1,g2⟩:=gP h.gl h.tg hm he (cz (by simp [Tg.fo]));obtain ⟨f1,f2⟩:=gP h.fr h.tf hm he (cz (by simp [Tg.fo]));obtain ⟨w1,w2⟩:=gP h.wt h.tw hm he (cz (by simp [Tg.fo]));obtain ⟨t1,t2⟩:=gP h.tl h.tt hm he (cz (by simp [Tg.fo]));obtain ⟨s1,s2⟩:=h.jy hm he (cz (by simp [Tg.fo]));obtain ⟨b1,b2,b3,b4⟩:=h.xI hm he (cz (by simp [Tg.fo]));refine ⟨c1,c2,g1,g2,f1,f2,w1,w2,t1,t2,s1,s2,by simpa using h.len,fun j k' f dX iD=>?_,b1,b2,b3,b4⟩;simp only [List.getElem?_set] at iD
 split at iD
 ·rename_i eA;subst eA
  split at iD
  ·cases iD;rw [hk] at dX;cases dX;exact hf
  ·cases iD
 ·rename_i eA;refine h.xH hm he dX iD (fun b hb U=>?_);rintro (h1 | h1 | h1)<;>rw [h1] at U<;>(rcases U with U | U | U<;>simp at U<;>exact eA U.symm)
end
open Classical in
noncomputable def mV (τ:Tag) (w:World) (F:Nat→Prop):Tag:=fun b=>if b < w.heap.size then τ b else if F b then .st else .no
theorem nU (τ:Tag) (w:World) (F:Nat→Prop):τ.ext (mV τ w F) w:=fun b hb=>by simp [mV,hb]
theorem ag2 {τ:Tag} {w:World} {F:Nat→Prop} {b:Nat} (h:w.heap.size≤b) (hF:F b):mV τ w F b = .st:=by simp [mV,Nat.not_lt.2 h,hF]
theorem Vp {τ:Tag} {w:World} {F:Nat→Prop} {b:Nat} (h:w.heap.size≤b) (hF:¬ F b):mV τ w F b = .no:=by simp [mV,Nat.not_lt.2 h,hF]
section
variable {w w':World} {τ bI:Tag} {m:Nat} {S:SV} {M:Mc} {vG vF vW vT:Value} {fg ff fw ft:Option Nat} {F:Nat→Prop} {ks:List Nat} {X:Nat→Prop}
theorem ek.store (h:ek w τ m S M vG vF vW vT fg ff fw ft F ks) {s:St} {F':Nat→Prop} (hg:Grow F F' w w') (hs:gM w' S.sv s F') (hz:s.size=M.st.size) :
   ek w' (mV τ w F') m S { M with st:=s} vG vF vW vT fg ff fw ft F' ks:=by
 obtain ⟨hm,GL⟩:=hg;have he:=(nU τ w F').wx;have cz:∀ {t:Tg},t≠.st→∀ b,b < w.heap.size→F b→τ b≠t:=fun ht b hb U e=>ht (e.symm.trans (h.tF b U))
 obtain ⟨c1,c2⟩:=h.GK hm he (cz (by simp));obtain ⟨g1,g2⟩:=gP h.gl h.tg hm he (cz (by simp));obtain ⟨f1,f2⟩:=gP h.fr h.tf hm he (cz (by simp));obtain ⟨w1,w2⟩:=gP h.wt h.tw hm he (cz (by simp));obtain ⟨t1,t2⟩:=gP h.tl h.tt hm he (cz (by simp));obtain ⟨b1,b2,b3,b4⟩:=h.xI hm he (cz (by simp));refine ⟨?_,c2,g1,g2,f1,f2,w1,w2,t1,t2,hs,fun b hb=>?_,h.len,fun i k f hk hf=>h.xH hm he hk hf (fun b hb U=>?_),b1,b2,b3,b4⟩
 ·rw [c1];simp only [bb,hz]
 ·rcases GL b hb with h1 | h1
  ·exact (nU τ w F' b (h.st.lt b h1)).trans (h.tF b h1)
  ·exact ag2 h1 hb
 ·rw [h.tF b U];rintro (h | h | h)<;>cases h
theorem ek.A7 (h:ek w τ m S M vG vF vW vT fg ff fw ft F ks) {M':Mc} (hm:Mod (· = m) w w') (hc:w'.heap[m]? = some (.cells (bb S M' vG vF vW vT).toArray 113 (0,0)))
   (e1:M'.globals=M.globals) (e2:M'.aE=M.aE) (e3:M'.wait=M.wait) (e4:M'.told=M.told) (e5:M'.st=M.st) (e6:M'.aZ=M.aZ) (e7:M'.input=M.input):ek w' τ m S M' vG vF vW vT fg ff fw ft F ks:=by
 have he:τ.wx τ w:=(dV τ w).wx;have cz:∀ {t:Tg},t≠.m→∀ b,b < w.heap.size→b=m→τ b≠t:=fun ht b hb U e=>by subst U;exact ht (e.symm.trans h.tm)
 obtain ⟨g1,g2⟩:=gP h.gl h.tg hm he (cz (by simp));obtain ⟨f1,f2⟩:=gP h.fr h.tf hm he (cz (by simp));obtain ⟨w1,w2⟩:=gP h.wt h.tw hm he (cz (by simp));obtain ⟨t1,t2⟩:=gP h.tl h.tt hm he (cz (by simp));obtain ⟨s1,s2⟩:=h.jy hm he (cz (by simp));obtain ⟨b1,b2,b3,b4⟩:=h.xI hm he (cz (by simp))
 refine ⟨hc,h.tm,by rw [e1];exact g1,g2,f1,f2,by rw [e3];exact w1,w2,by rw [e4];exact t1,t2,by rw [e5];exact s1,s2,by rw [e2];exact h.len,fun i k f hk hf=>h.xH hm he hk (by rw [← e2];exact hf) (fun b hb U=>?_),
  by rw [e6];exact b1,by rw [e7];exact b2,b3,b4⟩
 subst U;rw [h.tm];rintro (h | h | h)<;>cases h
theorem ek.waits (h:ek w τ m S M vG vF vW vT fg ff fw ft F ks) {M':Mc} {l:List Int} {v:Value} {A8:Option Nat} (he:τ.wx bI w) (hm:Mod (fun b=>fw=some b∨b=m) w w')
   (hc:w'.heap[m]? = some (.cells (bb S M' vG vF v vT).toArray 113 (0,0))) (ho:ao w' 3 1 v (l.map I) l.length A8) (ht:bI.is A8 .wt)
   (e1:M'.globals=M.globals) (e2:M'.aE=M.aE) (e3:M'.wait=l) (e4:M'.told=M.told) (e5:M'.st=M.st) (e6:M'.aZ=M.aZ) (e7:M'.input=M.input):ek w' bI m S M' vG vF v vT fg ff A8 ft F ks:=by
 have qp:∀ b,fw=some b∨b=m→τ b = .wt∨τ b = .m:=fun b hb=>hb.imp (fun h'=>h.tw b h') (fun h'=>by subst h';exact h.tm)
 have cz:∀ {t:Tg},t≠.m→t≠.wt→∀ b,b < w.heap.size→(fw=some b∨b=m)→τ b≠t:=fun ht iS b hb U e=>by
  rcases qp b U with h1 | h1
  ·exact iS (e.symm.trans h1)
  ·exact ht (e.symm.trans h1)
 obtain ⟨g1,g2⟩:=gP h.gl h.tg hm he (cz (by simp) (by simp));obtain ⟨f1,f2⟩:=gP h.fr h.tf hm he (cz (by simp) (by simp));obtain ⟨t1,t2⟩:=gP h.tl h.tt hm he (cz (by simp) (by simp));obtain ⟨s1,s2⟩:=h.jy hm he (cz (by simp) (by simp));obtain ⟨b1,b2,b3,b4⟩:=h.xI hm he (cz (by simp) (by simp))
 refine ⟨hc,(he m h.lt (by rw [h.tm];simp)).trans h.tm,by rw [e1];exact g1,g2,f1,f2,by rw [e3];exact ho,ht,by rw [e4];exact t1,t2,by rw [e5];exact s1,s2,by rw [e2];exact h.len,
  fun i k f hk hf=>h.xH hm he hk (by rw [← e2];exact hf) (fun b hb U=>?_),by rw [e6];exact b1,by rw [e7];exact b2,b3,b4⟩
 rcases qp b U with h1 | h1<;>rw [h1]<;>rintro (h | h | h)<;>cases h
theorem ek.ag3 (h:ek w τ m S M vG vF vW vT fg ff fw ft F ks) {M':Mc} {l:List It} {v:Value} {zf:Option Nat} (he:τ.wx bI w) (hm:Mod (fun b=>ft=some b∨b=m) w w')
   (hc:w'.heap[m]? = some (.cells (bb S M' vG vF vW v).toArray 113 (0,0))) (ho:ao w' 42 2 v (l.flatMap ec) l.length zf) (ht:bI.is zf .tl)
   (e1:M'.globals=M.globals) (e2:M'.aE=M.aE) (e3:M'.wait=M.wait) (e4:M'.told=l) (e5:M'.st=M.st) (e6:M'.aZ=M.aZ) (e7:M'.input=M.input):ek w' bI m S M' vG vF vW v fg ff fw zf F ks:=by
 have qp:∀ b,ft=some b∨b=m→τ b = .tl∨τ b = .m:=fun b hb=>hb.imp (fun h'=>h.tt b h') (fun h'=>by subst h';exact h.tm)
 have cz:∀ {t:Tg},t≠.m→t≠.tl→∀ b,b < w.heap.size→(ft=some b∨b=m)→τ b≠t:=fun ht iS b hb U e=>by
  rcases qp b U with h1 | h1
  ·exact iS (e.symm.trans h1)
  ·exact ht (e.symm.trans h1)
 obtain ⟨g1,g2⟩:=gP h.gl h.tg hm he (cz (by simp) (by simp));obtain ⟨f1,f2⟩:=gP h.fr h.tf hm he (cz (by simp) (by simp));obtain ⟨w1,w2⟩:=gP h.wt h.tw hm he (cz (by simp) (by simp));obtain ⟨s1,s2⟩:=h.jy hm he (cz (by simp) (by simp));obtain ⟨b1,b2,b3,b4⟩:=h.xI hm he (cz (by simp) (by simp))
 refine ⟨hc,(he m h.lt (by rw [h.tm];simp)).trans h.tm,by rw [e1];exact g1,g2,f1,f2,by rw [e3];exact w1,w2,by rw [e4];exact ho,ht,by rw [e5];exact s1,s2,by rw [e2];exact h.len,
  fun i k f hk hf=>h.xH hm he hk (by rw [← e2];exact hf) (fun b hb U=>?_),by rw [e6];exact b1,by rw [e7];exact b2,b3,b4⟩
 rcases qp b U with h1 | h1<;>rw [h1]<;>rintro (h | h | h)<;>cases h
theorem ek.aE (h:ek w τ m S M vG vF vW vT fg ff fw ft F ks) {M':Mc} {v:Value} {zg:Option Nat} {dt:List Nat} (he:τ.wx bI w) (hm:Mod (fun b=>ff=some b∨b=m) w w')
   (hc:w'.heap[m]? = some (.cells (bb S M' vG v vW vT).toArray 113 (0,0))) (ho:ao w' 152 1 v (dt.map ptr) dt.length zg) (ht:bI.is zg .fr) (hl:dt.length=M'.aE.length)
   (hf:∀ (i k:Nat) (f:Fr),dt[i]? = some k→M'.aE[i]? = some f→(ks[i]? = some k∧M.aE[i]? = some f)∨nT w' bI i k f)
   (e1:M'.globals=M.globals) (e3:M'.wait=M.wait) (e4:M'.told=M.told) (e5:M'.st=M.st) (e6:M'.aZ=M.aZ) (e7:M'.input=M.input):ek w' bI m S M' vG v vW vT fg zg fw ft F dt:=by
 have qp:∀ b,ff=some b∨b=m→τ b = .fr∨τ b = .m:=fun b hb=>hb.imp (fun h'=>h.tf b h') (fun h'=>by subst h';exact h.tm)
 have cz:∀ {t:Tg},t≠.m→t≠.fr→∀ b,b < w.heap.size→(ff=some b∨b=m)→τ b≠t:=fun ht iS b hb U e=>by
  rcases qp b U with h1 | h1
  ·exact iS (e.symm.trans h1)
  ·exact ht (e.symm.trans h1)
 obtain ⟨g1,g2⟩:=gP h.gl h.tg hm he (cz (by simp) (by simp));obtain ⟨w1,w2⟩:=gP h.wt h.tw hm he (cz (by simp) (by simp));obtain ⟨t1,t2⟩:=gP h.tl h.tt hm he (cz (by simp) (by simp));obtain ⟨s1,s2⟩:=h.jy hm he (cz (by simp) (by simp));obtain ⟨b1,b2,b3,b4⟩:=h.xI hm he (cz (by simp) (by simp))
 refine ⟨hc,(he m h.lt (by rw [h.tm];simp)).trans h.tm,by rw [e1];exact g1,g2,ho,ht,by rw [e3];exact w1,w2,by rw [e4];exact t1,t2,by rw [e5];exact s1,s2,hl,
  fun i k f hk iD=>?_,by rw [e6];exact b1,by rw [e7];exact b2,b3,b4⟩
 rcases hf i k f hk iD with ⟨k1,k2⟩ | k1
 ·refine h.xH hm he k1 k2 (fun b hb U=>?_);rcases qp b U with h1 | h1<;>rw [h1]<;>rintro (h | h | h)<;>cases h
 ·exact k1
end
theorem aU.cat {w w' ql:World} {τ bI:Tag} {m:Nat} {S:SV} {M2:Mc} {ks:List Nat} (h1:τ.ext bI w) (h3:Mod (fun b=>(τ b).own) w w') (k:aU w' bI m S M2 ks ql):aU w τ m S M2 ks ql:=by
 obtain ⟨GG,k1,k2,k3⟩:=k;exact ⟨GG,GF h1 k1 h3.size,k2,h3.step k3 (fun i hi hl=>by rw [h1 i hl] at hi;exact hi)⟩
end
section
open Go Go.W
theorem Dm {w:World} {τ:Tag} {m:Nat} {S:SV} {M:Mc} {ks:List Nat} (h:iL w τ m S M ks) (ho:M.st.Ok) {nd:Nd} {v:Value} (hm:nd.may=true) (hp:bJ M.st.ns.length nd.args=true) (hv:Ints w v nd.args) (hr:(M.st.ns.length:Int) < M.st.size) :
   aK Tryz.prog 116 [ptr m,I nd.kind,I nd.num,v] w fun r w'=>r=I M.st.ns.length∧aU w τ m S { M with st:=M.st.add nd} ks w':=by
 obtain ⟨vG,vF,vW,vT,fg,ff,fw,ft,F,h⟩:=h;have hc:=h.cells;obtain ⟨a,c,rfl,pQ,MD⟩:=hv;refine Vb.calls rfl ?_;unfold Gy ptr;simp only [go_sem,simprocAttr,cell_of hc,bb];refine MB (nd:=nd) (v:=.slice a nd.args.length c) rfl rfl h.st ho hm hp ⟨a,c,rfl,pQ,MD⟩ ?_ (fun e=>by omega);intro _ w1 F1 cL oR;refine σ ?_;refine ⟨_,nU τ w F1,⟨vG,vF,vW,vT,fg,ff,fw,ft,F1,?_⟩,oR.1.az (fun b hb=>?_)⟩
 ·exact h.store (s:=M.st.add nd) oR cL rfl
 ·rw [h.tF b hb];simp [Tg.own]
def Ends (ns:List Nd):Prop:=∀ p,p < ns.length→ay ns (over ns p)=over ns p
theorem sB {w:World} {τ:Tag} {m:Nat} {S:SV} {M:Mc} {ks:List Nat} (h:iL w τ m S M ks) (gY:Int):aK Tryz.prog 132 [ptr m,I gY] w fun _ w'=>aU w τ m S (M.fail gY) ks w':=by
 obtain ⟨vG,vF,vW,vT,fg,ff,fw,ft,F,h⟩:=h;have hc:=h.cells;refine agz.calls rfl ?_;unfold Ml ptr;refine σ ?_;refine bY (off:=15) rfl rfl hc rfl (by simp [bb]) ?_;intro w1 ax ag cL;refine σ ?_;refine bY (off:=16) rfl rfl ax rfl (by simp [bb]) ?_;intro w2 aC ae dq;refine σ ?_;refine ⟨τ,dV τ w,⟨vG,vF,vW,vT,fg,ff,fw,ft,F,h.A7 (M':=M.fail gY) (ag.trans ae) (by simpa [bb,Mc.fail] using aC) rfl rfl rfl rfl rfl rfl rfl⟩,(ag.trans ae).az (fun b hb=>by subst hb;rw [h.tm];simp [Tg.own])⟩
theorem Vq {w:World} {τ:Tag} {m:Nat} {S:SV} {M:Mc} {ks:List Nat} (h:iL w τ m S M ks) (hn:0 < M.aE.length) (hs:M.aE.length≤4294967296):aK Tryz.prog 139 [ptr m] w fun _ w'=>aU w τ m S M.qK (ks.take (ks.length - 1)) w':=by
 obtain ⟨vG,vF,vW,vT,fg,ff,fw,ft,F,h⟩:=h;have hc:=h.cells;have hl:=h.len;obtain ⟨a,c,rfl,fH,_⟩:=h.fr.val;refine agG.calls rfl ?_;unfold Ms ptr;have e1:IntKind.i64.wrap ((ks.length:Int) - 1)=((ks.length - 1:Nat):Int):=by rw [cy (by omega) (by omega)];omega
 have e2:(0:Int)≤((ks.length - 1:Nat):Int)∧((ks.length - 1:Nat):Int)≤c:=by omega
 simp only [go_sem,simprocAttr,an,bq,cell_of hc,bb,e1,e2,Dk];refine bY (off:=10) rfl rfl hc rfl (by simp [bb]) ?_;intro w1 ax ag cL;refine σ ?_;have oI:Mod (fun b=>ff=some b∨b=m) w w1:=(Mod.dj ag).az (fun b hb=>.inr hb)
 refine ⟨τ,dV τ w,⟨vG,.slice a (ks.length - 1) c,vW,vT,fg,ff,fw,ft,F,h.aE (dV τ w).wx oI (by simpa [bb,Mc.qK] using ax) ?_ h.tf (by simp [Mc.qK,hl]) ?_ rfl rfl rfl rfl rfl rfl⟩,
  oI.az ?_⟩
 ·have:=(GH h.fr (k:=ks.length - 1) (by omega)).mod (Mod.dj ag) (fun b hb hh=>by subst hh;have:=h.tf b hb;rw [h.tm] at this;cases this)
  simpa [List.map_take] using this
 ·intro i k f hk hf;simp only [Mc.qK,List.getElem?_take] at hk hf
  split at hk
  ·split at hf
   ·exact .inl ⟨hk,hf⟩
   ·cases hf
  ·cases hk
 ·rintro b (hb | rfl)
  ·rw [h.tf b hb];simp [Tg.own]
  ·rw [h.tm];simp [Tg.own]
end
section
open Go Go.W
theorem Vr {ns:List Nd} (hw:WF ns) (he:Ends ns) {p:Nat} (hp:p < ns.length):∃ k,∀ j,k≤j→fit (ay ns) j p=over ns p:=by
 obtain ⟨k,_,h⟩:=oJ (ay ns) ns.length p;refine ⟨k+ns.length,fun j hj=>?_⟩;have h:over ns p=fit (ay ns) (k+ns.length) p:=h;obtain ⟨d,rfl⟩:∃ d,j=d+(k+ns.length):=⟨j - (k+ns.length),by omega⟩;rw [kh,← h];exact CB (he p hp) d
theorem ag4 {ns:List Nd} (hw:WF ns) {p:Nat} (hp:p < ns.length):(ak ns p).args.length≤8∧(∀ a∈(ak ns p).args,0≤a∧a < ns.length)∧(ind ns p=true→∃ q:Nat,(ak ns p).args=[(q:Int)]∧ay ns p=q):=by
 refine ⟨?_,fun a ha=>?_,fun hi=>?_⟩
 ·have h:=(jh hw hp).1;simp only [Nd.may,gU,decide_eq_true_eq] at h;omega
 ·have:=List.all_eq_true.1 (jh hw hp).2 a ha
  simpa using this
 ·obtain ⟨q,_,h1,h2⟩:=qw hw hp hi;exact ⟨q,h1,h2⟩
theorem oS {w:World} {τ:Tag} {m:Nat} {S:SV} {M:Mc} {ks:List Nat} (h:iL w τ m S M ks) (ho:M.st.Ok) (he:Ends M.st.ns) {p:Int} (hp:0≤p∧p < M.st.ns.length) :
   aK Tryz.prog 134 [ptr m,I p] w fun r w'=>∃ v,r = .tuple #[I (M.st.ov p),.agg #[I (M.st.nd p).kind,I (M.st.nd p).num,v]]∧yF w w' v (M.st.nd p).args∧Mod (fun _=>False) w w':=by
 obtain ⟨vG,vF,vW,vT,fg,ff,fw,ft,F,h⟩:=h;have hc:=h.cells;have kN:=h.lt;obtain ⟨p,rfl⟩:∃ q:Nat,p=q:=⟨p.toNat,by omega⟩;have tU:p < M.st.ns.length:=by omega
 have hw:=ho.wf;obtain ⟨K,hK⟩:=Vr hw he tU;have ah:∀ k,fit (ay M.st.ns) k p < M.st.ns.length:=fun k=>yH (fu hw) k tU
 refine agB.calls rfl ?_;unfold Mn ptr;refine σ ?_;refine dk ?_;intro w1 ax ag cL;have cY:=ag.at hc (fun h=>h);have A9:=h.st.mod ag (fun _ _ h=>h);simp only [go_sem,simprocAttr,cell_of cY,bb];refine Vi (p:=(p:Int)) rfl rfl A9 hw ho.n hp ?_;intro v2 w2 gD ae;refine σ ?_;refine dk ?_;intro w3 aJ ab eP;refine σ ?_;refine cX (cs:=[I 0,I 0,.slice none 0 0]) rfl rfl aJ rfl rfl ?_ ?_
 ·obtain ⟨fp,gD,_⟩:=gD;obtain ⟨va,vc,rfl,_⟩:=gD.val;simp [Value.oneCell']
 intro w4 aH ai eu;refine σ ?_;have eh:Mod (fun _=>False) w w4:=((ag.trans ae).trans ab).step ai (fun x U hl=>by subst U;have:=ag.size;have:=ae.size;omega);have Gt:=ag.size;have ao':=ae.size;have lJ:w4.heap[w.heap.size]? = some (.cells #[I 0,I 0,.slice none 0 0] 104 (0,0)):=ai.at (ab.at (ae.at ax (fun h=>h)) (fun h=>h)) (fun hh=>by omega)
 refine dA (fun n ρ w'=>∃ (j:Nat) (v:Value) (fp:Option Nat),n=K - j∧Mod (fun _=>False) w w'∧w'.heap[w.heap.size]? = some (.cells #[I 0,I 0,.slice none 0 0] 104 (0,0)) ∧
  w'.heap[w2.heap.size]? = some (.cells #[I (ak M.st.ns (fit (ay M.st.ns) j p)).kind,I (ak M.st.ns (fit (ay M.st.ns) j p)).num,v] 104 (0,0)) ∧
  ao w' 3 1 v ((ak M.st.ns (fit (ay M.st.ns) j p)).args.map I) (ak M.st.ns (fit (ay M.st.ns) j p)).args.length fp∧(∀ b,fp=some b→w.heap.size≤b) ∧
  ρ=[(0,ptr m),(1,I (fit (ay M.st.ns) j p:Nat)),(5,ptr w.heap.size),(6,ptr w2.heap.size)]) K ⟨0,v2,?_⟩ ?_
 ·obtain ⟨fp,gD,eO⟩:=gD;refine ⟨fp,rfl,eh,lJ,aH,?_,fun b hb=>Nat.le_trans (by omega) (eO b hb),rfl⟩;exact (gD.mod ab (fun _ _ h=>h)).mod ai (fun b hb hh=>by subst hh;have:=gD.lt hb;omega)
 rintro n ρ w5 ⟨j,v,fp,rfl,aB,g1,g2,g3,g4,rfl⟩;unfold Vg ptr;obtain ⟨n1,n2,n3⟩:=ag4 hw (ah j);obtain ⟨va,vc,rfl,_⟩:=g3.val;have z:(0:Int)≤0∧(0:Int) < 1:=by omega
 have xJ:=aB.at hc (fun h=>h);have zh:=h.st.mod aB (fun _ _ h=>h);have stop:ay M.st.ns (fit (ay M.st.ns) j p)=fit (ay M.st.ns) j p→over M.st.ns p=fit (ay M.st.ns) j p:=by
  intro U;have h1:=hK (K+j) (by omega);rw [kh] at h1;rw [← h1];exact CB U K
 have xA:((ak M.st.ns (fit (ay M.st.ns) j p)).kind == 5)=ind M.st.ns (fit (ay M.st.ns) j p):=by simp [ind,BEq.beq]
 simp only [go_sem,simprocAttr,cell_of g2,xA]
 refine iG (fun ρ w'=>w5=w'∧∃ t:Bool,(t=true→∃ q:Nat,(ak M.st.ns (fit (ay M.st.ns) j p)).args=[(q:Int)]∧ay M.st.ns (fit (ay M.st.ns) j p)=q∧q≠fit (ay M.st.ns) j p)∧(t=false→ay M.st.ns (fit (ay M.st.ns) j p)=fit (ay M.st.ns) j p) ∧
  ρ.get 0=some (ptr m)∧ρ.get 1=some (I (fit (ay M.st.ns) j p:Nat))∧ρ.get 5=some (ptr w.heap.size)∧ρ.get 6=some (ptr w2.heap.size)∧ρ.get 27=some (.bool t)) ?_ ?_
 ·cases hi:ind M.st.ns (fit (ay M.st.ns) j p) with
  | false=>
   refine σ ?_;exact ⟨false,(fun h=>by cases h),fun _=>oK hi,rfl⟩
  | true=>
   obtain ⟨q,a1,a2⟩:=n3 hi;have Dn:=g3;rw [a1] at Dn;obtain ⟨b,rfl,rfl,gC⟩:=kQ Dn (i:=0) (by simp);have zl:(0:Int)≤0∧(0:Int) < (ak M.st.ns (fit (ay M.st.ns) j p)).args.length:=by rw [a1];simp
   simp only [List.map_cons,List.map_nil,List.getElem?_cons_zero] at gC;simp only [go_sem,simprocAttr,an,bq,cell_of g2,zl,gC,dB];refine ⟨_,fun hh=>⟨q,a1,a2,?_⟩,fun hh=>?_,rfl⟩
   ·simp only [aL,aM,aN,an,aQ] at hh;omega
   ·simp only [aL,aM,aN,an,aQ] at hh;rw [a2];omega
 rintro ρ _ ⟨rfl,t,ht,hf,r0,r1,r5,r6,ME⟩;simp only [go_sem,simprocAttr,r0,r1,r5,r6,ME];refine aY rfl (fun hh=>?_) (fun hh=>?_)
 ·subst hh;obtain ⟨q,a1,a2,a3⟩:=ht rfl;have hjK:j < K:=by
   rcases Nat.lt_or_ge j K with h1 | h1
   ·exact h1
   ·exfalso;have e1:=hK j h1;have e2:=hK (j+1) (by omega);rw [qu,a2] at e2;exact a3 (e2.trans e1.symm)
  refine σ ?_;have zl:(0:Int)≤0∧(0:Int) < (ak M.st.ns (fit (ay M.st.ns) j p)).args.length:=by rw [a1];simp
  have Dn:=g3;rw [a1] at Dn;obtain ⟨b,rfl,rfl,gC⟩:=kQ Dn (i:=0) (by simp);simp only [List.map_cons,List.map_nil,List.getElem?_cons_zero] at gC;simp only [go_sem,simprocAttr,an,bq,cell_of g2,zl,gC,dB,cell_of xJ,bb];have hq:q < M.st.ns.length:=by rw [← a2];exact fu hw _ (ah j)
  refine Vi (p:=(q:Int)) rfl rfl zh hw ho.n (by simp only at *;omega) ?_;intro v6 w6 uc aD;obtain ⟨xp,uc,iu⟩:=uc;obtain ⟨xi,xj,rfl,_⟩:=uc.val;refine σ ?_;refine cX (cs:=[I (ak M.st.ns (fit (ay M.st.ns) j p)).kind,I (ak M.st.ns (fit (ay M.st.ns) j p)).num,.slice (some ⟨b,0,none⟩) (ak M.st.ns (fit (ay M.st.ns) j p)).args.length vc]) rfl rfl (aD.at g2 (fun h=>h)) rfl rfl ?_ ?_
  ·simp [Value.oneCell']
  intro w7 cm aX mN;refine σ ?_;have mK:=aD.size;have fP:=aB.size;rw [Int.toNat_natCast] at uc cm;have MF:fit (ay M.st.ns) (j+1) p=q:=by rw [qu,a2]
  refine ⟨_,by omega,j+1,.slice xi (ak M.st.ns q).args.length xj,xp,rfl,?_,?_,?_,?_,fun b hb=>Nat.le_trans fP (iu b hb),?_⟩
  ·exact (aB.trans aD).step aX (fun x U hl=>by subst U;omega)
  ·exact aX.at (aD.at g1 (fun h=>h)) (fun hh=>by omega)
  ·rw [MF];exact cm
  ·rw [MF];exact uc.mod aX (fun b hb hh=>by subst hh;have:=iu _ hb;have:=lt_of_heap g2;omega)
  ·rw [MF]
 ·subst hh;have ki:=stop (hf rfl);have hd:w5.drew.heap[w2.heap.size]? = _:=g2;simp only [go_sem,simprocAttr,dM (cs:=[_,_,_]) (off:=0) (n:=3) hd (by simp)];refine cX (cs:=[I 0,I 0,.slice none 0 0]) rfl rfl g1 rfl rfl ?_ ?_
  ·simp [Value.oneCell']
  intro w7 cm aX mN;simp only [go_sem,simprocAttr,dM (cs:=[_,_,_]) (off:=0) (n:=3) cm (by simp)];have e1:M.st.ov (p:Int)=fit (ay M.st.ns) j p:=by simp only [St.ov,Int.toNat_natCast];exact ki
  have e2:M.st.nd (p:Int)=ak M.st.ns (fit (ay M.st.ns) j p):=by unfold St.nd;rw [e1]
  rw [e1,e2];have lI:=Mod.dj aX;refine ⟨_,rfl,⟨fp,g3.mod lI (fun b hb hh=>im g3 hb (hh ▸ g1) (by decide)),g4⟩,aB.step lI (fun x U hl=>by subst U;omega)⟩
end
end Go.Proofs.YtnjobkbblhaliaaGreatDoor