/- Texts that the last file stands on: G8, G9, G10, P11, G11, G12, G13, G14, G15, IRM, M0, Q1, M1, M2, M3, M4. -/
import Derived.Test.YtnjobkbblhaliaaGreatDoorZRB
import Derived.Test.YtnjobkbblhaliaaGreatDoorZRA
import Derived.KernelRfl
set_option linter.unusedSimpArgs false
set_option linter.unusedVariables false
set_option maxRecDepth 100000
namespace Go.Proofs.YtnjobkbblhaliaaGreatDoor
section
open Go Go.W
def rk (fr:Nat) (out:List Nat):List (Int×Int):=(List.range out.length).map fun j=>((out.getD j 0:Int),((fr+j:Nat):Int))
theorem RY (fr:Nat) (out:List Nat) (x:Nat):rk fr (out++[x])=rk fr out++[((x:Int),((fr+out.length:Nat):Int))]:=by
 unfold rk;rw [List.length_append,List.length_singleton,List.range_succ,List.map_append]
 congr 1
 ·apply List.map_congr_left;intro j hj;have:=List.mem_range.1 hj;simp [List.getD_eq_getElem?_getD,List.getElem?_append_left this]
 ·simp [List.getD_eq_getElem?_getD]
theorem RZ {fr:Nat} {out:List Nat} {x:Nat} (h:x∉out):mS (rk fr out) x=none∧∀ v,qO (rk fr out) x v=rk fr out++[((x:Int),v)]:=by
 have hf:(rk fr out).findIdx? (fun p=>p.1 == (x:Int))=none:=by
  rw [List.findIdx?_eq_none_iff];intro q hq;obtain ⟨j,hj,rfl⟩:=List.mem_map.1 hq;have pY:=List.mem_range.1 hj;have:out.getD j 0≠x:=fun hh=>h (by rw [← hh,List.getD_eq_getElem?_getD,List.getElem?_eq_getElem pY];exact List.getElem_mem pY)
  simp only [beq_eq_false_iff_ne,ne_eq];omega
 refine ⟨by rw [Ir,hf];rfl,fun v=>by unfold qO;rw [hf]⟩
theorem acS (fr:Nat):∀ (n:Nat) (out:List Nat) (x:Nat),out.length=n→x∈out→mS (rk fr out) x=some ((fr+out.idxOf x:Nat):Int):=by
 intro n
 induction n with
 | zero=>intro out x h U;rw [List.eq_nil_of_length_eq_zero h] at U;cases U
 | succ n ih=>
  intro out x hl h;rcases List.eq_nil_or_concat out with rfl | ⟨out,y,rfl⟩
  ·cases h
  rw [List.concat_eq_append] at *;have kg:out.length=n:=by simpa using hl
  rw [RY];by_cases U:x∈out
  ·have h1:=ih out x kg U;unfold mS at h1 ⊢;rw [List.find?_append,List.idxOf_append,if_pos U];cases hq:(rk fr out).find? (fun p=>p.1 == (x:Int)) with
   | none=>rw [hq] at h1;cases h1
   | some q=>rw [hq] at h1;simpa using h1
  ·have e:x=y:=by simpa [U] using h
   subst e;have h1:=(RZ (fr:=fr) U).1;unfold mS at h1 ⊢;rw [List.find?_append,List.idxOf_append,if_neg U];cases hq:(rk fr out).find? (fun p=>p.1 == (x:Int)) with
   | none=>simp
   | some q=>rw [hq] at h1;cases h1
structure my (w:World) (bm a bo br bn:Nat) (ns:List Nd) (fr:Nat) (out:List Nat) (vm:Value) (fp:Option Nat):Prop where
 cells:w.heap[bm]? = some (.cells #[.pointer (some ⟨a,0,none⟩),.slice (some ⟨bo,0,none⟩) ns.length ns.length,.map (some br),I fr,.map (some bn),vm] 249 (0,0))
 of:w.heap[bo]? = some (.cells (((List.range ns.length).map fun i=>(over ns i:Int)).map I).toArray 3 (0,0))
 new:gi w bn (rk fr out)
 met:ax w 3 1 vm (out.map fun x=>I (x:Nat)) out.length fp
 ne:fp≠some bo
theorem rl {w w':World} {bm a bo br bn:Nat} {ns:List Nd} {fr:Nat} {out:List Nat} {vm:Value} {fp:Option Nat} {S:Nat→Prop} (h:my w bm a bo br bn ns fr out vm fp) (hm:Mod S w w') (h1:¬ S bm) (h2:¬ S bo) (h3:¬ S bn) (h4:∀ x,fp=some x→¬ S x):my w' bm a bo br bn ns fr out vm fp:=
 ⟨hm.at h.cells h1,hm.at h.of h2,dO h.new hm h3,h.met.mod hm h4,h.ne⟩
theorem R3 (w:World) (bm a bo br bn:Nat) (ns:List Nd) (hw:WF ns) (hn:ns.length≤1048576) (fr:Nat) (bC:fr≤ns.length) (out:List Nat) (vm:Value) (fp:Option Nat) (h:my w bm a bo br bn ns fr out vm fp) (hm:jK ns fr out) (p:Nat) (hp:p < ns.length) :
   aD Tryz.prog 204 [.pointer (some ⟨bm,0,none⟩),I p] w fun r w'=>r=I (dD ns fr (gk ns fr out p) p)∧∃ Ci gA,my w' bm a bo br bn ns fr (gk ns fr out p) Ci gA∧Mod (fun x=>x=bm∨x=bn∨fp=some x) w w'∧∀ x,gA=some x→fp=some x∨w.heap.size≤x:=by
 obtain ⟨h1,h2,h3,h4,h5⟩:=h;have zY:over ns p < ns.length:=pW (eX hw) hp;have kr:=vN hm;have b1:(0:Int)≤p∧(p:Int) < ns.length:=by omega
 have U:=oW h2 (i:=p) (by simp;exact hp);have im:((List.range ns.length).map fun i=>(over ns i:Int)).getD p 0=(over ns p:Nat):=by simp [List.getD_eq_getElem?_getD,hp]
 rw [im] at U;refine aar.calls rfl ?_;unfold IZ;simp only [go_sem,simprocAttr,ak,bh,cell_of h1,b1,U];refine aX rfl (fun hc=>?_) (fun hc=>?_)
 ·have bE:over ns p < fr:=by simpa using hc
  refine σ ?_;have e:gk ns fr out p=out:=by simp [gk,bE]
  rw [e];refine ⟨by unfold dD;rw [Int.toNat_natCast,if_pos bE],vm,fp,⟨h1,h2,h3,h4,h5⟩,Mod.refl _ _,fun x U=>.inl U⟩
 ·have bE:¬ over ns p < fr:=by simpa using hc
  simp only [go_sem,simprocAttr,cell_of h1];refine Is (t:=200) (kt:=3) (et:=3) rfl rfl Tryz.underlying200 Tryz.underlying3 (Tryz.zeroValue3 _) h3 ?_;by_cases cK:over ns p∈out
  ·rw [acS fr _ out _ rfl cK];simp only [go_sem,simprocAttr,Option.getD_some,Option.isSome_some,Bool.not_true,Bool.not_false];have e:gk ns fr out p=out:=by simp [gk,cK]
   rw [e];refine ⟨by unfold dD;rw [Int.toNat_natCast,if_neg bE],vm,fp,⟨h1,h2,h3,h4,h5⟩,Mod.refl _ _,fun x U=>.inl U⟩
  ·have xS:=RZ (fr:=fr) cK;rw [xS.1];obtain ⟨va,vc,rfl,_,_⟩:=h4.val;have hws:IntKind.i64.wrap ((fr:Int)+out.length)=((fr+out.length:Nat):Int):=by rw [bU]<;>omega
   simp only [go_sem,simprocAttr,Option.getD_none,Option.isSome_none,Bool.not_true,Bool.not_false,cell_of h1,hws];have ja:Mod (fun _=>False) w w.drew:=⟨Nat.le_refl _,fun _ _ _=>rfl,rfl,rfl,rfl⟩;have R4:bm≠bn:=fun hh=>by
    obtain ⟨es,c,q2,_⟩:=h3;rw [← hh,h1] at q2;cases q2
   have acT:bo≠bn:=fun hh=>by
    obtain ⟨es,c,q2,_⟩:=h3;rw [← hh,h2] at q2;cases q2
   have vt:bm≠bo:=fun hh=>mc h1 (hh ▸ h2) (by decide)
   have iK:∀ x,fp=some x→x≠bn:=fun x U hh=>by
    obtain ⟨es,c,q2,_⟩:=h3;obtain ⟨cs,q3⟩:=su h4 U;rw [hh,q2] at q3;cases q3
   have kL:fp≠some bm:=jk h4 h1 (by decide);refine Ek (t:=200) (kt:=3) (et:=3) rfl rfl rfl Tryz.underlying200 Tryz.underlying3 (dO h3 ja (fun h=>h)) ?_;intro w2 ae acU dh;rw [xS.2,← RY] at ae;have EU:=(ja.aB (S':=fun x=>x=bn) (fun _ h=>h.elim)).trans acU;have sA:=EU.at h1 R4;have h22:=EU.at h2 acT;have h42:=h4.mod EU iK;simp only [go_sem,simprocAttr,cell_of sA];refine dL (by rfl) (by refine σ ?_;rfl) ?_;intro w3 aE ab gj;have h43:=h42.mod ab (fun _ _ h=>h);refine σ ?_;refine gN (m:=1) (news:=[I (over ns p:Nat)]) rfl h43 rfl (fun h=>by cases h) (jR aE) (by simp [Value.oneCell']) rfl (by omega) (by omega) ?_;intro v4 w4 EV j9 aj ke;obtain ⟨rb,re,rfl,_,_⟩:=j9.val;have R5:=aj.at (ab.at sA (fun h=>h)) kL;have h24:=aj.at (ab.at h22 (fun h=>h)) h5;have JT:=dO (dO ae ab (fun h=>h)) aj (fun hh=>iK bn hh rfl);have acV:w.heap.size=w2.heap.size:=dh.symm;have s3:=ab.size;have JU:=lt_of_heap h1;have JO:=lt_of_heap h2;have R6:∀ x,EV=some x→fp=some x∨w.heap.size≤x:=fun x U=>(ke x U).imp (fun h=>h) (fun h=>by omega)
   refine σ ?_;refine bL (off:=5) rfl rfl R5 rfl (by simp) ?_;intro w5 cd ay iq;have cd:w5.heap[bm]? = some (.cells #[.pointer (some ⟨a,0,none⟩),.slice (some ⟨bo,0,none⟩) ns.length ns.length,.map (some br),I fr,.map (some bn),.slice rb (out.length+1) re] 249 (0,0)):=cd;refine σ ?_;have e:gk ns fr out p=out++[over ns p]:=by simp [gk,bE,cK]
   have acW:dD ns fr (gk ns fr out p) p=(fr+out.length:Nat):=acQ bE cK;have acX:EV≠some bm:=jk j9 R5 (by decide);refine ⟨by rw [acW],.slice rb (out.length+1) re,EV,?_,?_,R6⟩
   ·rw [e];refine ⟨by simpa using cd,ay.at h24 (fun hh=>vt hh.symm),dO JT ay (fun hh=>R4 hh.symm),?_,?_⟩
    ·have:=j9.mod ay (fun x U hh=>acX (by rw [U,hh]))
     simpa using this
    ·intro hh;rcases R6 bo hh with h | h
     ·exact h5 h
     ·omega
   ·exact (((EU.aB (S':=fun x=>x=bm∨x=bn∨fp=some x) (fun x U=>.inr (.inl U))).step ab (fun _ h _=>h.elim)).step aj (fun x U _=>.inr (.inr U))).step ay (fun x U _=>.inl U)
end
section
open Go Go.W
theorem acY {w:World} {v:Value} {xs:List Int} (h:Ints w v xs) (bq:xs≠[]):∀ b,jS v=some b→b < w.heap.size:=by
 obtain ⟨a,c,rfl,_,U⟩:=h;intro b hb;obtain ⟨ad,rfl,h0⟩:=U 0 (by cases xs with | nil=>exact absurd rfl bq | cons=>simp);have:=World.block_lt_of_cell? w _ h0;simp only [jS,Option.some.injEq] at hb;subst hb;have e:(ad.add 0).block=ad.block:=by simp [Addr.add]
 omega
theorem R7 (a:Addr) (k:Nat):(a.add k).block=a.block:=by unfold Addr.add;split<;>rfl
theorem acZ {ns:List Nd} {fr:Nat} {out:List Nat} {l:List Int} {k:Nat} (hk:k < l.length):(l.take (k+1)).map (dD ns fr (di ns fr out (l.take (k+1))))=(l.take k).map (dD ns fr (di ns fr out (l.take k)))++[dD ns fr (di ns fr out (l.take (k+1))) l[k]]:=by
 rw [List.take_succ_eq_append_getElem hk,List.map_append]
 congr 1
 apply List.map_congr_left;intro a ha;refine Cg ?_ (xU ns fr _ _ a ha);have:di ns fr out (l.take k++[l[k]])=di ns fr (di ns fr out (l.take k)) [l[k]]:=by unfold di;rw [List.foldl_append]
 rw [this];exact vO ns fr _ _
theorem JV (w:World) (bm a bo br bn:Nat) (ns:List Nd) (hw:WF ns) (hn:ns.length≤1048576) (fr:Nat) (bC:fr≤ns.length) (out:List Nat) (vm:Value) (fp:Option Nat) (h:my w bm a bo br bn ns fr out vm fp) (hm:jK ns fr out) (v:Value) (l:List Int) (hl:Ints w v l) (ct:bK ns.length l=true)
   (hlv:l≠[]→∀ x,jS v=some x→¬ (x=bm∨x=bn∨fp=some x)) (pc:l.length≤17592186044416) :
   aD Tryz.prog 200 [.pointer (some ⟨bm,0,none⟩),v] w fun r w'=>∃ Ci gA fq,my w' bm a bo br bn ns fr (di ns fr out l) Ci gA∧Mod (fun x=>x=bm∨x=bn∨fp=some x) w w'∧(∀ x,gA=some x→fp=some x∨w.heap.size≤x) ∧
    ax w' 3 1 r ((l.map (dD ns fr (di ns fr out l))).map I) l.length fq∧∀ x,fq=some x→w.heap.size≤x∧gA≠some x:=by
 have R9:=hl;obtain ⟨va,vc,rfl,_,hlx⟩:=R9;have JU:=lt_of_heap h.cells;have Sa:bn < w.heap.size:=by obtain ⟨es,c,q,_⟩:=h.new;exact lt_of_heap q
 have JO:=lt_of_heap h.of;have lfp:∀ x,fp=some x→x < w.heap.size:=fun x U=>h.met.lt U
 refine aap.calls rfl ?_;unfold IX;refine σ ?_
 refine dz (fun m ρ w'=>∃ (k:Nat) (vk vr:Value) (fk fq:Option Nat),m=l.length - k∧k≤l.length∧my w' bm a bo br bn ns fr (di ns fr out (l.take k)) vk fk∧Mod (fun x=>x=bm∨x=bn∨fp=some x) w w'∧(∀ x,fk=some x→fp=some x∨w.heap.size≤x) ∧
     ax w' 3 1 vr (((l.take k).map (dD ns fr (di ns fr out (l.take k)))).map I) k fq∧(∀ x,fq=some x→w.heap.size≤x∧fk≠some x) ∧
     ρ=[(0,.pointer (some ⟨bm,0,none⟩)),(5,vr),(8,.slice va l.length vc),(9,I l.length),(10,I k)]) l.length
  ⟨0,vm,_,fp,none,rfl,Nat.zero_le _,by simpa [di] using h,Mod.refl _ _,(fun x U=>.inl U),ax.nil _ _ _,(fun x U=>by cases U),rfl⟩ ?_
 rintro m ρ w1 ⟨k,vk,vr,fk,fq,rfl,hk,ik,ag,pe,kR,mz,rfl⟩;unfold Qb;have s1:=ag.size;refine σ ?_;refine aX rfl (fun hc=>?_) (fun hc=>?_)
 ·have dS:k < l.length:=by simpa using hc
  have bq:l≠[]:=fun hh=>by rw [hh] at dS;simp at dS
  obtain ⟨ad,rfl,fP⟩:=hlx k dS;have Sb:=ag.cell fP (fun hh=>hlv bq ad.block rfl (by rwa [R7] at hh));have b1:(0:Int)≤k∧(k:Int) < l.length:=by omega
  have rj:IntKind.i64.wrap ((k:Int)+1)=((k+1:Nat):Int):=by rw [bU]<;>omega
  have tO:=List.all_eq_true.1 ct l[k] (List.getElem_mem dS);simp only [Bool.and_eq_true,decide_eq_true_eq] at tO;obtain ⟨p,hp⟩:∃ p:Nat,l[k]=(p:Int):=⟨l[k].toNat,by omega⟩;rw [hp] at Sb;have vz:di ns fr out (l.take (k+1))=gk ns fr (di ns fr out (l.take k)) p:=by
   rw [acR ns fr l out (List.getElem?_eq_getElem dS),hp,Int.toNat_natCast]
  have iu:=acZ (ns:=ns) (fr:=fr) (out:=out) dS;rw [hp] at iu
  have mq:jK ns fr (di ns fr out (l.take k)):=qg hw _ hm (by
   rw [bK,List.all_eq_true];intro y hy
   exact List.all_eq_true.1 ct y (List.mem_of_mem_take hy))
  simp only [go_sem,simprocAttr,ak,bh,b1,Sb];refine δ (by rfl) (R3 w1 bm a bo br bn ns hw hn fr bC _ vk fk ik mq p (by omega)) ?_;rintro q w2 ⟨rfl,vk2,Sc,Sd,ae,Se⟩;rw [← vz] at Sd ⊢
  have Sf:=kR.mod ae (fun x U hh=>by
   have:=mz x U;rcases hh with hh | hh | hh
   ·omega
   ·omega
   ·exact this.2 hh)
  obtain ⟨ra,rc,rfl,_,_⟩:=Sf.val;refine σ ?_;refine dL (by rfl) (by refine σ ?_;rfl) ?_;intro w3 aE ab gj;have ac0:=Sf.mod ab (fun _ _ h=>h);have EW:=rl Sd ab (fun h=>h) (fun h=>h) (fun h=>h) (fun _ _ h=>h);refine σ ?_;refine gN (m:=1) (news:=[I (dD ns fr (di ns fr out (l.take (k+1))) p)]) rfl ac0 rfl (fun h=>by cases h) (jR aE) (by simp [Value.oneCell']) rfl (by omega) (by omega) ?_;intro v4 w4 fq4 j9 aj ke;obtain ⟨v4a,v4c,rfl,_,_⟩:=j9.val;have s2:=ae.size;have s3:=ab.size;have Cj:∀ x,fq=some x→x≠bm∧x≠bo∧x≠bn∧Sc≠some x:=fun x U=>by
   have h1:=mz x U;refine ⟨by omega,by omega,by omega,fun hh=>?_⟩;rcases Se x hh with h | h
   ·exact h1.2 h
   ·have:=kR.lt U;omega
  have JW:=rl EW aj (fun hh=>(Cj bm hh).1 rfl) (fun hh=>(Cj bo hh).2.1 rfl) (fun hh=>(Cj bn hh).2.2.1 rfl) (fun x U hh=>(Cj x hh).2.2.2 U);simp only [go_sem,simprocAttr,rj];refine ⟨_,?_,k+1,vk2,.slice v4a (k+1) v4c,Sc,fq4,rfl,by omega,JW,?_,fun x U=>?_,?_,fun x U=>?_,rfl⟩
  ·omega
  ·refine ((ag.step ae (fun x U ah=>?_)).step ab (fun _ h _=>h.elim)).step aj (fun x U ah=>?_)
   ·rcases U with U | U | U
    ·exact .inl U
    ·exact .inr (.inl U)
    ·exact .inr (.inr ((pe x U).elim (fun h=>h) (fun h=>by omega)))
   ·have:=mz x U;omega
  ·rcases Se x U with h | h
   ·exact pe x h
   ·exact .inr (by omega)
  ·rw [iu,List.map_append];exact j9
  ·rcases ke x U with h | h
   ·exact ⟨(mz x h).1,(Cj x h).2.2.2⟩
   ·refine ⟨by omega,fun hh=>?_⟩;have:=EW.met.lt hh;omega
 ·have dS:k=l.length:=by simp at hc;omega
  subst dS;rw [List.take_length] at ik kR;refine σ ?_;exact ⟨vk,fk,fq,ik,ag,pe,kR,mz⟩
end
section
open Go Go.W
def nj (ns:List Nd) (fr:Nat) (out:List Nat) (x:Nat):Nd:=⟨(ai ns x).kind,(ai ns x).num,(ai ns x).args.map (dD ns fr out)⟩
theorem Sg (w:World) (bm a bo br bn:Nat) (ns vQ:List Nd) (hw:WF ns) (hn:ns.length≤1048576) (fr:Nat) (bC:fr≤ns.length) (out:List Nat) (vm:Value) (fp:Option Nat) (h:my w bm a bo br bn ns fr out vm fp) (hm:jK ns fr out)
   (c0 c1 cv c3 c4 c5:Value) (F:Nat→Prop) (ha:w.heap[a]? = some (.cells #[c0,c1,cv,c3,c4,c5] 202 (0,0))) (Sh:pZ 104 w cv vQ F) (hlen:vQ.length=ns.length) (dJ:∀ nd∈vQ,nd.args.length≤8) (Si:∀ x,fr≤x→x < ns.length→ai vQ x=ai ns x)
   (EX:∀ x,F x→¬ (x=bm∨x=bn∨fp=some x)) :
   aD Tryz.prog 201 [.pointer (some ⟨bm,0,none⟩)] w fun r w'=>∃ Ci gA fq ps np,my w' bm a bo br bn ns fr (gT ns fr (ns.length+1) 0 out) Ci gA∧Mod (fun x=>x=bm∨x=bn∨fp=some x) w w' ∧
    ax w' 104 3 r (flat ps) (gT ns fr (ns.length+1) 0 out).length fq∧(∀ x,fq=some x→w.heap.size≤x)∧jY w' ps np (fun x=>w.heap.size≤x)∧ps.map Prod.fst=(gT ns fr (ns.length+1) 0 out).map (nj ns fr (gT ns fr (ns.length+1) 0 out)):=by
 generalize hO:gT ns fr (ns.length+1) 0 out=O;have JU:=lt_of_heap h.cells;have Sa:bn < w.heap.size:=by obtain ⟨es,c,q,_⟩:=h.new;exact lt_of_heap q
 have JO:=lt_of_heap h.of;have la:=lt_of_heap ha;have eu:∀ x,F x→x < w.heap.size:=by obtain ⟨_,_,_,_,_,_,q⟩:=Sh;exact q
 refine aaq.calls rfl ?_;unfold IY;refine σ ?_
 refine dz (fun m ρ w'=>∃ (i:Nat) (cur:List Nat) (vk vr:Value) (fk fq:Option Nat) (ps:List (Nd×Value)) (np:Nat→Option Nat),m=O.length - i∧i≤cur.length∧jK ns fr cur∧gT ns fr (ns.length+1 - i) i cur=O ∧
     my w' bm a bo br bn ns fr cur vk fk∧Mod (fun x=>x=bm∨x=bn∨fp=some x) w w'∧(∀ x,fk=some x→fp=some x∨w.heap.size≤x) ∧
     ax w' 104 3 vr (flat ps) i fq∧(∀ x,fq=some x→w.heap.size≤x)∧jY w' ps np (fun x=>w.heap.size≤x)∧ps.map Prod.fst=(cur.take i).map (nj ns fr O)∧(∀ j x,j < ps.length→np j=some x→fk≠some x) ∧
     ρ=[(0,.pointer (some ⟨bm,0,none⟩)),(3,vr),(4,I i)]) O.length
  ⟨0,out,vm,_,fp,none,[],fun _=>none,rfl,Nat.zero_le _,hm,hO,h,Mod.refl _ _,(fun x U=>.inl U),ax.nil _ _ _,(fun x U=>by cases U),Rr _ _,rfl,(fun j x hj=>absurd hj (by simp)),rfl⟩ ?_
 rintro m ρ w1 ⟨i,cur,vk,vr,fk,fq,ps,np,rfl,hi,sB,xV,ik,ag,pe,kR,mz,ef,jg,Sj,rfl⟩;have p7:cur <+: O:=by rw [← xV];exact Cf ns fr _ _ _
 have gh:=vN sB;obtain ⟨vka,vkc,rfl,_,_⟩:=ik.met.val;unfold Qc;simp only [go_sem,simprocAttr,cell_of ik.cells];refine aX rfl (fun hc=>?_) (fun hc=>?_)
 ·have bS:i < cur.length:=by simpa using hc
  obtain ⟨x,U⟩:∃ x,cur[i]=x:=⟨_,rfl⟩;have z8:=sB.2 x (by rw [← U];exact List.getElem_mem bS)
  have mY:=ag.at ha (fun hh=>by
   rcases hh with hh | hh | hh
   ·exact mc ha (by rw [hh];exact h.cells) (by decide)
   ·obtain ⟨es,c,q,_⟩:=h.new;rw [← hh,ha] at q;cases q
   ·exact jk h.met ha (by decide) hh)
  have ac1:=Sh.mod ag EX;obtain ⟨bc,cc,nv,rfl,d0,d1,d2,dx,db,_⟩:=xG ac1 dJ (i:=x) (by rw [hlen];exact z8.1);rw [Si x z8.2.2 z8.1] at d0 d1 dx;have dl:=RB d0 d1 d2;obtain ⟨bw,cw,ew,tw⟩:=JH ik.met bS (u:=I (x:Nat)) (by simp [bS,U]);simp only [Value.slice.injEq] at ew;obtain ⟨rfl,_,rfl⟩:=ew;have b1:(0:Int)≤i∧(i:Int) < cur.length:=by omega
  have b2:(0:Int)≤(x:Nat)∧((x:Nat):Int) < vQ.length:=by omega
  have ja:Mod (fun _=>False) w1 w1.drew:=⟨Nat.le_refl _,fun _ _ _=>rfl,rfl,rfl,rfl⟩;have dld:cB w1.drew 3 (.pointer (some ⟨bc,x*3,none⟩))=some (.agg #[I (ai ns x).kind,I (ai ns x).num,nv]):=dl;simp only [go_sem,simprocAttr,ak,bh,cell_of ik.cells,cell_of mY,b1,b2,tw,dl,dld];obtain ⟨na,nc',rfl,_,_⟩:=id dx;refine de ?_;intro w2 an ae dh;have an:w2.heap[w1.heap.size]? = some (.cells #[I 0,I 0,.slice none 0 0] 104 (0,0)):=an;have dh:w2.heap.size=w1.heap.size+1:=dh;have dG:=ja.trans ae;have lc:=World.block_lt_of_cell? w1 _ d0;have lw:=World.block_lt_of_cell? w1 _ tw;have Sk:=lt_of_heap ik.cells;have la1:=lt_of_heap mY;refine ⟨⟨dG.old _ lc (fun h=>h),dG.old _ lw (fun h=>h),dG.old _ Sk (fun h=>h),dG.old _ la1 (fun h=>h),dG.old _ Sk (fun h=>h)⟩,?_⟩;refine σ ?_;refine cu rfl rfl an rfl rfl (by simp [Value.oneCell']) ?_;intro w3 aE ab gj;have dU:Mod (fun _=>False) w1 w3:=dG.step ab (fun x U ah=>by omega);have s1:=ag.size;have EW:=rl ik dU (fun h=>h) (fun h=>h) (fun h=>h) (fun _ _ h=>h);have dx3:=dx.mod dU (fun _ _ h=>h);have bQ:=(iW hw z8.1).2;have EY:(ai ns x).args.length≤8:=by
   rw [← Si x z8.2.2 z8.1];have:ai vQ x=vQ[x]'(by omega):=by simp [ai,show x < vQ.length by omega]
   rw [this];exact dJ _ (List.getElem_mem _)
  have EZ:ns.length+1 - i=(ns.length - i)+1:=by omega
  rw [EZ,z7 ns fr _ i cur bS,U] at xV;have ac2:di ns fr cur (ai ns x).args <+: O:=by rw [← xV];exact Cf ns fr _ _ _
  simp only [go_sem,simprocAttr,cell_of aE];refine ao (by rfl) ?_
  refine (JV w3 bm a bo br bn ns hw hn fr bC cur _ fk EW sB _ (ai ns x).args dx3 bQ (fun _ b hb hh=>by
   have h1:=db b hb;have h2:=eu b h1;rcases hh with hh | hh | hh
   ·exact EX b h1 (.inl hh)
   ·exact EX b h1 (.inr (.inl hh))
   ·rcases pe b hh with h3 | h3
    ·exact EX b h1 (.inr (.inr h3))
    ·omega) (by omega)).mono ?_
  rintro q w4 ⟨vm4,fk4,f4,JW,aj,JX,o4,ke⟩;have ac3:(ai ns x).args.map (dD ns fr (di ns fr cur (ai ns x).args))=(nj ns fr O x).args:=by
   simp only [nj];apply List.map_congr_left;intro y hy;exact (Cg ac2 (xU ns fr _ _ y hy)).symm
  rw [ac3] at o4;have Jo:(nj ns fr O x).args.length=(ai ns x).args.length:=by simp [nj]
  obtain ⟨rb,re,rfl,_,_⟩:=o4.val;have s4:=aj.size;have Sl:∀ y,fk=some y→y < w1.heap.size:=fun y hy=>ik.met.lt hy
  have hS4:∀ y,(y=bm∨y=bn∨fk=some y)→y < w1.heap.size:=fun y hy=>by
   rcases hy with hy | hy | hy
   ·omega
   ·have:bn < w1.heap.size:=by omega
    omega
   ·exact Sl y hy
  have aJ:=aj.at aE (fun hh=>by have:=hS4 _ hh;omega);refine σ ?_;refine bL (off:=2) rfl rfl aJ rfl (by simp) ?_;intro w5 cd ay iq;have cd:w5.heap[w1.heap.size]? = some (.cells #[I (ai ns x).kind,I (ai ns x).num,.slice rb (ai ns x).args.length re] 104 (0,0)):=cd;have ac4:∀ y,fq=some y→y < w1.heap.size:=fun y hy=>kR.lt hy
  have JY:∀ j y,j < ps.length→np j=some y→y < w1.heap.size:=fun j y hj hy=>(ef.1 j hj).1.lt hy
  have ac5:∀ y,fq=some y→¬ (y=bm∨y=bn∨fk=some y):=fun y hy hh=>by
   have:=mz y hy;rcases hh with hh | hh | hh
   ·omega
   ·omega
   ·exact sw kR ik.met (by decide) hy hh
  have ac6:∀ j y,j < ps.length→np j=some y→¬ (y=bm∨y=bn∨fk=some y):=fun j y hj hy hh=>by
   have:=(ef.1 j hj).2 y hy;rcases hh with hh | hh | hh
   ·omega
   ·omega
   ·exact Sj j y hj hy hh
  have ac7:=((kR.mod dU (fun _ _ h=>h)).mod aj ac5).mod ay (fun y hy hh=>by have:=ac4 y hy;omega);have ac8:=jm (jm (jm ef dU (fun _ _ _ _ h=>h)) aj ac6) ay (fun j y hj hy hh=>by have:=JY j y hj hy;omega);have o5:=o4.mod ay (fun y hy hh=>by have:=(ke y hy).1;omega)
  have Aa:=rl JW ay (by omega) (by omega) (by omega) (fun y hy hh=>by
   rcases JX y hy with h | h
   ·have:=Sl y h;omega
   ·omega)
  simp only [go_sem,simprocAttr,dK cd (off:=0) (n:=3) (by simp)];refine dL (by rfl) (by refine σ ?_;rfl) ?_;intro w6 cO aH mV;have E0:=ac7.mod aH (fun _ _ h=>h);have vU:=jm ac8 aH (fun _ _ _ _ h=>h);have o6:=o5.mod aH (fun _ _ h=>h);have E1:=rl Aa aH (fun h=>h) (fun h=>h) (fun h=>h) (fun _ _ h=>h);have rj:IntKind.i64.wrap ((i:Int)+1)=((i+1:Nat):Int):=by rw [bU]<;>omega
  have anR:ps.length=i:=by
   have:=congrArg List.length jg;rw [List.length_map,List.length_map,List.length_take] at this;omega
  refine σ ?_;refine gN (m:=1) (news:=nc (nj ns fr O x,.slice rb (ai ns x).args.length re)) rfl E0 rfl (fun h=>by cases h) (jR cO) (by simp [nc,Value.oneCell']) rfl (by omega) (by omega) ?_;intro v7 w7 fq7 xR aZ tR;obtain ⟨v7a,v7c,rfl,_,_⟩:=xR.val;have s6:=aH.size;have s7:=aZ.size;simp only [go_sem,simprocAttr,rj];have ac9:=jm vU aZ (fun j y hj hy hh=>sw (vU.1 j hj).1 E0 (by decide) hy hh);have o7:=o6.mod aZ (fun y hy hh=>sw o6 E0 (by decide) hy hh);have E2:=rl E1 aZ (fun hh=>by have:=mz _ hh;omega) (fun hh=>by have:=mz _ hh;omega) (fun hh=>by have:=mz _ hh;omega) (fun y hy hh=>sw E1.met E0 (by decide) hy hh);have ada:Mod (fun y=>y=bm∨y=bn∨fp=some y) w w7:=by
   refine (((((ag.step dU (fun _ h _=>h.elim)).step aj (fun y hy ah=>?_)).step ay (fun y hy ah=>by omega)).step aH (fun _ h _=>h.elim)).step aZ (fun y hy ah=>by have:=mz y hy;omega));rcases hy with hy | hy | hy
   ·exact .inl hy
   ·exact .inr (.inl hy)
   ·exact .inr (.inr ((pe y hy).elim (fun h=>h) (fun h=>by omega)))
  rw [← Jo] at o7;have anS:=(vO ns fr (ai ns x).args cur).length_le;refine ⟨_,?_,i+1,di ns fr cur (ai ns x).args,vm4,.slice v7a (i+1) v7c,fk4,fq7,ps++[(nj ns fr O x,.slice rb (ai ns x).args.length re)],_,rfl,by omega,qg hw _ sB bQ,?_,E2,ada,fun y hy=>?_,?_,fun y hy=>?_,Rs ac9 (by rw [Jo] at o7 ⊢;exact o7) (fun y hy=>by have:=(ke y hy).1;omega) (fun j y hj hy hh=>?_),?_,fun j y hj hy hh=>?_,rfl⟩
  ·have:=p7.length_le;omega
  ·rw [← xV];congr 1;omega
  ·rcases JX y hy with h | h
   ·exact pe y h
   ·exact .inr (by omega)
  ·rw [vj,Ev];exact xR
  ·rcases tR y hy with h | h
   ·exact mz y h
   ·omega
  ·have:=JY j y hj hy;have:=(ke y hh).1;omega
  ·rw [List.map_append,jg];have e1:(di ns fr cur (ai ns x).args).take (i+1)=cur.take i++[x]:=by
    obtain ⟨t,ht⟩:=vO ns fr (ai ns x).args cur;rw [← ht,List.take_append_of_le_length (by omega),List.take_succ_eq_append_getElem bS,U]
   rw [e1,List.map_append];rfl
  ·simp only [List.length_append,List.length_cons,List.length_nil] at hj;by_cases jo:j < ps.length
   ·rw [if_pos jo] at hy;rcases JX y hh with h | h
    ·exact Sj j y jo hy h
    ·have:=JY j y jo hy;omega
   ·rw [if_neg jo] at hy;exact (ke y hy).2 hh
 ·have bS:i=cur.length:=by simp at hc;omega
  have hce:cur=O:=by rw [← xV,vP _ _ _ _ _ (by omega)]
  subst hce;subst bS;rw [List.take_length] at jg;refine σ ?_;exact ⟨_,fk,fq,ps,np,ik,ag,kR,mz,ef,jg⟩
end
section
open Go Go.W
theorem Sm {ns:List Nd} {fr:Nat} {out:List Nat} (h:jK ns fr out) (bC:fr≤ns.length):fr+out.length≤ns.length:=by
 have b9:(out.map (fun x=>x - fr)).Nodup:=by
  unfold List.Nodup;rw [List.pairwise_map];refine h.1.imp_of_mem ?_;intro a b ha hb gO hh;have:=(h.2 a ha).2.2;have:=(h.2 b hb).2.2;exact gO (by omega)
 have:=zF (ns.length - fr) _ b9 (fun x U=>by
  obtain ⟨y,hy,rfl⟩:=List.mem_map.1 U;have:=h.2 y hy
  omega)
 simp at this;omega
theorem adb {ns:List Nd} (hw:WF ns) {fr:Nat}:∀ (f i:Nat) (out:List Nat),ns.length+1≤f+i→jK ns fr out→i≤out.length→(∀ j x,j < i→out[j]? = some x→∀ a∈(ai ns x).args,over ns a.toNat < fr∨over ns a.toNat∈out) →
   jK ns fr (gT ns fr f i out)∧∀ x∈gT ns fr f i out,∀ a∈(ai ns x).args,over ns a.toNat < fr∨over ns a.toNat∈gT ns fr f i out:=by
 intro f
 induction f with
 | zero=>
  intro i out Q4 hm hi _;have:=vN hm;omega
 | succ f ih=>
  intro i out Q4 hm hi hc;rcases Nat.lt_or_ge i out.length with ah | hge
  ·rw [z7 ns fr f i out ah];have U:=hm.2 _ (List.getElem_mem ah);have p7:=vO ns fr (ai ns out[i]).args out;refine ih (i+1) _ (by omega) (qg hw _ hm (iW hw U.1).2) (by have:=p7.length_le;omega) ?_;intro j x hj E3 a ha;rcases Nat.lt_or_ge j i with h | h
   ·have E4:out[j]? = some x:=by
     obtain ⟨t,ht⟩:=p7;rw [← ht,List.getElem?_append_left (by omega)] at E3;exact E3
    exact (hc j x h E4 a ha).imp (fun h=>h) (fun h=>p7.subset h)
   ·obtain rfl:j=i:=by omega
    have E4:out[j]? = some x:=by
     obtain ⟨t,ht⟩:=p7;rw [← ht,List.getElem?_append_left (by omega)] at E3;exact E3
    rw [List.getElem?_eq_getElem ah,Option.some.injEq] at E4;subst E4;exact xU ns fr _ _ a ha
  ·rw [vP ns fr _ _ _ hge];refine ⟨hm,fun x U a ha=>?_⟩;obtain ⟨j,hj,rfl⟩:=List.getElem_of_mem U;exact hc j _ (by omega) (List.getElem?_eq_getElem hj) a ha
def fy (fr:Nat) (q:Int):Bool:=decide (q≥(fr:Int))
def xW (ns:List Nd) (fr:Nat) (out:List Nat) (p:Nat):List Nat:=di ns fr out ((ai ns p).args.filter (fy fr))
def kV (ns:List Nd) (fr k:Nat) (out:List Nat):List Nat:=(List.range k).foldl (xW ns fr) out
theorem E5 (ns:List Nd) (fr k:Nat) (out:List Nat):kV ns fr (k+1) out=xW ns fr (kV ns fr k out) k:=by simp [kV,List.range_succ]
def bN (ns:List Nd) (fr:Nat) (roots:List Int):List Nat:=gT ns fr (ns.length+1) 0 (kV ns fr fr (di ns fr [] roots))
def ku (ns:List Nd) (fr:Nat) (O:List Nat) (p:Nat):List Int:=(ai ns p).args.map fun q=>if fy fr q=true then dD ns fr O q else q
def nq (ns:List Nd) (fr:Nat) (O:List Nat) (p:Nat):Nd:=⟨(ai ns p).kind,(ai ns p).num,if ind ns p=true∧over ns p=p then [(p:Int)] else ku ns fr O p⟩
def ch (ns:List Nd) (fr:Nat) (roots:List Int):List Nd:=(List.range fr).map (nq ns fr (bN ns fr roots))++(bN ns fr roots).map (nj ns fr (bN ns fr roots))
def eR (ns:List Nd) (fr:Nat) (roots:List Int):List Int:=roots.map (dD ns fr (bN ns fr roots))
theorem JZ {n:Nat} {l:List Int} (h:bK n l=true) (p:Int→Bool):bK n (l.filter p)=true:=by
 rw [bK,List.all_eq_true] at h ⊢;intro x U;exact h x (List.mem_filter.1 U).1
theorem J0 (ns:List Nd) (fr:Nat) (out:List Nat) (p:Nat):out <+: xW ns fr out p:=vO ns fr _ _
theorem Sn (ns:List Nd) (fr k:Nat) (out:List Nat):out <+: kV ns fr k out:=by
 induction k with
 | zero=>exact List.prefix_rfl
 | succ k ih=>rw [E5];exact ih.trans (J0 ns fr _ k)
theorem ade (ns:List Nd) (fr:Nat) (out:List Nat) {j k:Nat} (h:j≤k):kV ns fr j out <+: kV ns fr k out:=by
 induction k with
 | zero=>
  obtain rfl:j=0:=by omega
  exact List.prefix_rfl
 | succ k ih=>
  rcases Nat.lt_or_ge j (k+1) with h1 | h1
  ·rw [E5];exact (ih (by omega)).trans (J0 ns fr _ k)
  ·obtain rfl:j=k+1:=by omega
   exact List.prefix_rfl
theorem Sp {ns:List Nd} (hw:WF ns) {fr:Nat} (bC:fr≤ns.length) {out:List Nat} (h:jK ns fr out):∀ k,k≤fr→jK ns fr (kV ns fr k out):=by
 intro k
 induction k with
 | zero=>intro _;exact h
 | succ k ih=>
  intro hk;rw [E5];exact qg hw _ (ih (by omega)) (JZ (iW hw (by omega)).2 _)
theorem adf (ns:List Nd) (fr:Nat) (out:List Nat) {p k:Nat} (hp:p < k) {a:Int} (ha:a∈(ai ns p).args) (hy:fy fr a=true):over ns a.toNat < fr∨over ns a.toNat∈kV ns fr k out:=by
 have h1:=xU ns fr ((ai ns p).args.filter (fy fr)) (kV ns fr p out) a (List.mem_filter.2 ⟨ha,hy⟩);refine h1.imp (fun h=>h) (fun h=>(ade ns fr out (show p+1≤k by omega)).subset ?_);rw [E5];exact h
theorem rm {ns:List Nd} (hw:WF ns) {fr:Nat} (bC:fr≤ns.length) {roots:List Int} (ho:bK ns.length roots=true) :
   jK ns fr (bN ns fr roots)∧(∀ x∈bN ns fr roots,∀ a∈(ai ns x).args,over ns a.toNat < fr∨over ns a.toNat∈bN ns fr roots) ∧
   (∀ a∈roots,over ns a.toNat < fr∨over ns a.toNat∈bN ns fr roots)∧∀ p,p < fr→∀ a∈(ai ns p).args,fy fr a=true→over ns a.toNat < fr∨over ns a.toNat∈bN ns fr roots:=by
 have h0:=qg hw roots (xT ns fr) ho;have h1:=Sp hw bC h0 fr (Nat.le_refl _);obtain ⟨h2,h3⟩:=adb hw (ns.length+1) 0 _ (by omega) h1 (Nat.zero_le _) (fun j x h=>by omega);have hp:=Cf ns fr (ns.length+1) 0 (kV ns fr fr (di ns fr [] roots));refine ⟨h2,h3,fun a ha=>?_,fun p sg a ha hy=>?_⟩
 ·exact (xU ns fr roots [] a ha).imp (fun h=>h) (fun h=>hp.subset ((Sn ns fr fr _).subset h))
 ·exact (adf ns fr _ sg ha hy).imp (fun h=>h) (fun h=>hp.subset h)
theorem rp (ns:List Nd) (fr:Nat) (roots:List Int):(ch ns fr roots).length=fr+(bN ns fr roots).length:=by simp [ch]
theorem J1 {ns:List Nd} (hw:WF ns) {fr:Nat} (bC:fr≤ns.length) {roots:List Int} (ho:bK ns.length roots=true):(ch ns fr roots).length≤ns.length:=by
 rw [rp];exact Sm (rm hw bC ho).1 bC
theorem J2 {ns:List Nd} {fr:Nat} {O:List Nat} {a:Int} (h:over ns a.toNat < fr∨over ns a.toNat∈O):0≤dD ns fr O a∧dD ns fr O a < (fr+O.length:Nat):=by
 unfold dD
 split
 ·rename_i hh;omega
 ·rename_i hh;have:=List.idxOf_lt_length_iff.2 (h.resolve_left hh);omega
theorem Ck {ns:List Nd} (hw:WF ns) {fr:Nat} (bC:fr≤ns.length) {roots:List Int} (ho:bK ns.length roots=true):WF (ch ns fr roots):=by
 obtain ⟨h1,h2,h3,h4⟩:=rm hw bC ho;intro nd b9;rw [rp];rcases List.mem_append.1 b9 with U | U
 ·obtain ⟨p,hp,rfl⟩:=List.mem_map.1 U;have sC:=List.mem_range.1 hp;have cr:=iW hw (show p < ns.length by omega);by_cases hr:ind ns p=true∧over ns p=p
  ·have hk:(ai ns p).kind=5:=by simpa [ind] using hr.1
   have hm:=cr.1;simp only [Nd.may,gP,hk,decide_eq_true_eq] at hm;refine ⟨?_,?_⟩
   ·simp only [nq,if_pos hr,Nd.may,gP,hk];simp;omega
   ·simp only [nq,if_pos hr,bK];simp;omega
  ·refine ⟨?_,?_⟩
   ·have:=cr.1
    simpa [nq,if_neg hr,ku,Nd.may] using this
   ·simp only [nq,if_neg hr];rw [bK,List.all_eq_true];intro y hy;obtain ⟨a,ha,rfl⟩:=List.mem_map.1 hy;have bQ:=List.all_eq_true.1 cr.2 a ha;simp only [Bool.and_eq_true,decide_eq_true_eq] at bQ ⊢
    split
    ·rename_i J3;have:=J2 (h4 p sC a ha J3);omega
    ·rename_i J3;simp [fy] at J3;omega
 ·obtain ⟨x,Sq,rfl⟩:=List.mem_map.1 U;have cr:=iW hw (h1.2 x Sq).1;refine ⟨by simpa [nj,Nd.may] using cr.1,?_⟩;rw [bK,List.all_eq_true];intro y hy;obtain ⟨a,ha,rfl⟩:=List.mem_map.1 hy;have:=J2 (h2 x Sq a ha);simp only [Bool.and_eq_true,decide_eq_true_eq];omega
theorem Sr {ns:List Nd} (hw:WF ns) {fr:Nat} (bC:fr≤ns.length) {roots:List Int} (ho:bK ns.length roots=true):bK (ch ns fr roots).length (eR ns fr roots)=true:=by
 obtain ⟨h1,h2,h3,h4⟩:=rm hw bC ho;rw [rp,bK,List.all_eq_true];intro y hy;obtain ⟨a,ha,rfl⟩:=List.mem_map.1 hy;have:=J2 (h3 a ha);simp only [Bool.and_eq_true,decide_eq_true_eq];omega
theorem Ss {ns:List Nd} (hw:WF ns):xP ns ns.length []:=by
 refine ⟨by simp,fun k=>⟨fun h=>by simp at h,fun ⟨p,_,hp,a,ha,hge⟩=>?_⟩⟩;have:=List.all_eq_true.1 (iW hw hp).2 a ha;simp only [Bool.and_eq_true,decide_eq_true_eq] at this;omega
end
section
open Go Go.W
theorem Su {w:World} {cv:Value} {ns:List Nd} {F:Nat→Prop} (h:ko 104 w cv ns F) {a:Nat} {cs:Array Value} {fz:Nat×Nat} (ha:w.heap[a]? = some (.cells cs 202 fz)):ko 104 w cv ns (fun x=>F x∧x≠a):=by
 obtain ⟨dT,ps,fp,h1,h2,h3,h4,h5⟩:=h;exact ⟨dT,ps,fp,h1,fun b hb=>⟨h2 b hb,fun hh=>jk h1 ha (by decide) (by rw [hb,hh])⟩,⟨fun i hi=>⟨(h3.1 i hi).1,fun b hb=>⟨(h3.1 i hi).2 b hb,fun hh=>jk (h3.1 i hi).1 ha (by decide) (by rw [hb,hh])⟩⟩,h3.2⟩,h4,fun b hb=>h5 b hb.1⟩
def J4 (At:World→Nat→Int→Int→Nat→Int→List Nd→(Nat→Prop)→Prop) (w:World) (a:Nat) (size bB times:Int) (ns:List Nd) (fr:Nat) (roots:List Int) (F:Nat→Prop) (r:Value) (w':World):Prop:=
 ∃ fq F',ax w' 3 1 r ((eR ns fr roots).map I) roots.length fq∧At w' a size bB (ch ns fr roots).length (IntKind.i64.wrap (times+1)) (ch ns fr roots) F'∧Grow F F' w w'∧∀ x,fq=some x→w.heap.size≤x∧¬ F' x
theorem Sv {w:World} {v:Value} {l:List Int} (h:Ints w v l):l≠[]→∀ x,jS v=some x→x < w.heap.size:=fun bq x U=>acY h bq x U
theorem Sw {w w':World} {v:Value} {l:List Int} {S:Nat→Prop} (h:Ints w v l) (hm:Mod S w w') (hs:l≠[]→∀ x,jS v=some x→¬ S x):Ints w' v l:=by
 obtain ⟨a,c,rfl,hl,U⟩:=h;refine ⟨a,c,rfl,hl,fun i hi=>?_⟩;obtain ⟨ad,rfl,h1⟩:=U i hi;refine ⟨ad,rfl,hm.cell h1 ?_⟩;have bq:l≠[]:=by rintro rfl;simp at hi
 rw [R7];exact hs bq _ rfl
theorem Sx (w:World) (a:Nat) (size bB:Int) (old:Nat) (times:Int) (ns:List Nd) (F:Nat→Prop) (h:iZ w a size bB old times ns F) (hw:WF ns) (hn:ns.length≤1048576) (v:Value) (roots:List Int) (U:Ints w v roots) (ct:bK ns.length roots=true)
   (hv:roots≠[]→∀ x,jS v=some x→¬ F x) (pc:roots.length≤17592186044416) :
   aD Tryz.prog 195 [.pointer (some ⟨a,0,none⟩),v] w (J4 iZ w a size bB times ns 0 roots F):=by
 have eu:=zR h;obtain ⟨va,vc,rfl,_,_⟩:=id U;obtain ⟨cv,mb,ld,g1,g2,g3,g4,g5,g6⟩:=h;have dJ:=BO hw;have la:=lt_of_heap g1;have lmb:mb < w.heap.size:=eu mb g5;have tX:a≠mb:=fun hh=>by
  obtain ⟨es,c,q,_⟩:=g4;rw [← hh,g1] at q;cases q
 refine aak.calls rfl ?_;unfold IS;simp only [go_sem,simprocAttr,cell_of g1];refine bL (off:=5) rfl rfl g1 rfl (by simp) ?_;intro w1 aq ag cL;have aq:w1.heap[a]? = some (.cells #[I size,I bB,cv,I old,.map (some mb),I (IntKind.i64.wrap (times+1))] 202 (0,0)):=aq;have Ab:=q9 (Su g3 g1) ag (fun b hb=>hb.2);have Cl:=dO g4 ag (fun hh=>tX hh.symm);have hU:=Sw U ag (fun bq x U hh=>hv bq x U (hh ▸ g2));have mA:=Sv U;have s1:=ag.size;refine σ ?_;refine δ (by rfl) (JR ns hw hn w1 a _ _ cv _ _ _ _ aq (zQ Ab)) ?_;rintro q w2 ⟨bo,br,R,rfl,hT,lo,lr,kR,ae⟩;have s2:=ae.size;have sD:=lt_of_heap hT.of;refine σ ?_;refine zt ?_;intro w3 aE ab gj;refine σ ?_;refine b8 rfl ?_;intro w4 aJ aj eA;have aJ:w4.heap[w3.heap.size]? = some (.cells #[.pointer (some ⟨a,0,none⟩),.slice (some ⟨bo,0,none⟩) ns.length ns.length,.map (some br),I 0,.map (some w2.heap.size),.slice none 0 0] 249 (0,0)):=aJ;have s3:=ab.size;have s4:=aj.size;have dm:=ab.trans aj;have iJ:=ae.trans dm;have ik:my w4 w3.heap.size a bo br w2.heap.size ns 0 [] (.slice none 0 0) none:=⟨aJ,dm.at hT.of (fun h=>h),dO aE aj (fun h=>h),ax.nil _ _ _,fun h=>by cases h⟩;have Jg:=hU.mod iJ (fun _ _ h=>h);refine σ ?_;refine ao (by rfl) ?_
 refine (JV w4 _ a bo br _ ns hw hn 0 (Nat.zero_le _) [] _ none ik (xT ns 0) _ roots Jg ct (fun bq x U hh=>by
  have:=mA bq x U;rcases hh with hh | hh | hh
  ·omega
  ·omega
  ·cases hh) pc).mono ?_
 rintro q w5 ⟨vm5,iF,Ac,Aa,ay,E6,iG,xX⟩;obtain ⟨pS,pU,rfl,_,_⟩:=iG.val;have s5:=ay.size;have Ad:=qg hw roots (xT ns 0) ct
 have mr:Mod (fun _=>False) w1 w5:=iJ.step ay (fun x U ah=>by
  rcases U with U | U | U
  ·omega
  ·omega
  ·cases U)
 have cd:=mr.at aq (fun h=>h);have g35:=q9 Ab mr (fun _ _ h=>h);have J5:=dO Cl mr (fun h=>h);refine σ ?_;refine ao (by rfl) ?_
 refine (Sg w5 _ a bo br _ ns ns hw hn 0 (Nat.zero_le _) _ _ _ Aa Ad _ _ _ _ _ _ _ cd (zQ g35) rfl dJ (fun _ _ _=>rfl) (fun x U hh=>by
  have:=eu x U.1;rcases hh with hh | hh | hh
  ·omega
  ·omega
  ·rcases E6 x hh with h | h
   ·cases h
   ·omega)).mono ?_
 rintro q w6 ⟨vm6,vL,Sy,ps,np,E1,aH,jr,J6,vU,Sz⟩;have hO:gT ns 0 (ns.length+1) 0 (di ns 0 [] roots)=bN ns 0 roots:=rfl;rw [hO] at E1 jr Sz;obtain ⟨vC,vD,rfl,_,_⟩:=jr.val;have s6:=aH.size;have hS6:∀ x,x < w1.heap.size→¬ (x=w3.heap.size∨x=w2.heap.size∨iF=some x):=fun x U hh=>by
  rcases hh with hh | hh | hh
  ·omega
  ·omega
  ·rcases E6 x hh with h | h
   ·cases h
   ·omega
 have oc:Mod (fun _=>False) w1 w6:=mr.step aH (fun x U ah=>(hS6 x ah U).elim);have cO:=oc.at aq (fun h=>h);have g46:=dO Cl oc (fun h=>h);have adg:ax w6 3 1 (.slice pS roots.length pU) ((roots.map (dD ns 0 (bN ns 0 roots))).map I) roots.length Ac:=by
  have e:roots.map (dD ns 0 (di ns 0 [] roots))=roots.map (dD ns 0 (bN ns 0 roots)):=by
   apply List.map_congr_left;intro y hy;exact (Cg (Cf ns 0 _ _ _) (xU ns 0 _ _ y hy)).symm
  rw [← e];refine iG.mod aH (fun x U hh=>?_);have h1:=xX x U;rcases hh with hh | hh | hh
  ·omega
  ·omega
  ·cases j0:iF with
   | none=>rw [j0] at hh;cases hh
   | some y=>rw [hh] at h1;exact h1.2 rfl
 refine σ ?_;refine bL (off:=2) rfl rfl cO rfl (by simp) ?_;intro w7 cj aZ mX;have cj:w7.heap[a]? = some (.cells #[I size,I bB,.slice vC (bN ns 0 roots).length vD,I old,.map (some mb),I (IntKind.i64.wrap (times+1))] 202 (0,0)):=cj;simp only [go_sem,simprocAttr,cell_of cj];refine bL (off:=3) rfl rfl cj rfl (by simp) ?_;intro w8 en bY qZ;have en:w8.heap[a]? = some (.cells #[I size,I bB,.slice vC (bN ns 0 roots).length vD,I (bN ns 0 roots).length,.map (some mb),I (IntKind.i64.wrap (times+1))] 202 (0,0)):=en;have g48:=dO (dO g46 aZ (fun hh=>tX hh.symm)) bY (fun hh=>tX hh.symm);simp only [go_sem,simprocAttr,cell_of en];refine PX (t:=200) (kt:=3) (et:=3) rfl rfl Tryz.underlying200 g48 ?_;intro w9 kn dq zN;refine σ ?_;have adh:=dq.at en tX;have Ae:Mod (fun x=>x=a) w6 w8:=aZ.trans bY;have tY:Mod (fun x=>x=a∨x=mb) w6 w9:=(Ae.aB (fun x U=>.inl U)).step dq (fun x U _=>.inr U);have rq:Mod (fun x=>x=a∨x=mb) w w9:=((ag.aB (S':=fun x=>x=a∨x=mb) (fun x U=>.inl U)).step oc (fun _ h _=>h.elim)).step tY (fun x U _=>U);have hlen:(ch ns 0 roots).length=(bN ns 0 roots).length:=by rw [rp];omega
 have xt:ch ns 0 roots=ps.map Prod.fst:=by rw [Sz];simp [ch]
 refine ⟨Ac,fun x=>x=a∨x=mb∨Sy=some x∨∃ j,j < ps.length∧np j=some x,?_,?_,⟨rq.aB (fun x U=>by rcases U with U | U<;>(subst U;assumption)),fun x U=>?_⟩,fun x U=>?_⟩
 ·exact adg.mod tY (fun x U hh=>by have:=xX x U;omega)
 ·rw [hlen];refine ⟨_,mb,[],adh,.inl rfl,⟨Sy,ps,np,?_,fun x U=>.inr (.inr (.inl U)),?_,xt.symm,fun x U=>?_⟩,kn,.inr (.inl rfl),?_⟩
  ·rw [hlen];exact jr.mod tY (fun x U hh=>by have:=J6 x U;omega)
  ·have:=jm vU tY (fun j x hj U hh=>by have:=(vU.1 j hj).2 x U;omega);exact ⟨fun j hj=>⟨(this.1 j hj).1,fun x U=>.inr (.inr (.inr ⟨j,hj,U⟩))⟩,this.2⟩
  ·have:=tY.size;rcases U with U | U | U | ⟨j,hj,U⟩
   ·omega
   ·omega
   ·have:=jr.lt U;omega
   ·have:=(vU.1 j hj).1.lt U;omega
  ·rw [← hlen];exact Ss (Ck hw (Nat.zero_le _) ct)
 ·rcases U with U | U | U | ⟨j,hj,U⟩
  ·exact .inl (U ▸ g2)
  ·exact .inl (U ▸ g5)
  ·have:=J6 x U;exact .inr (by omega)
  ·have:=(vU.1 j hj).2 x U;exact .inr (by omega)
 ·have h1:=xX x U;refine ⟨by omega,fun hh=>?_⟩;have h2:=iG.lt U;rcases hh with hh | hh | hh | ⟨j,hj,hh⟩
  ·omega
  ·omega
  ·have:=J6 x hh;omega
  ·have:=(vU.1 j hj).2 x hh;omega
def adi (At:World→Nat→Int→Int→Nat→Int→List Nd→(Nat→Prop)→Prop) (w:World) (a:Nat) (size bB:Int) (old:Nat) (times:Int) (ns:List Nd) (roots:List Int) (F:Nat→Prop) (r:Value) (w':World):Prop:=
 (bK ns.length roots=false→r = .tuple #[.slice none 0 0,I 212]∧Mod (fun _=>False) w w') ∧
 (bK ns.length roots=true→∃ v,r = .tuple #[v,I 0]∧J4 At w a size bB times ns 0 roots F v w')
theorem adj (w:World) (a:Nat) (size bB:Int) (old:Nat) (times:Int) (ns:List Nd) (F:Nat→Prop) (h:iZ w a size bB old times ns F) (hw:WF ns) (hn:ns.length≤1048576) (v:Value) (roots:List Int) (U:Ints w v roots)
   (hv:roots≠[]→∀ x,jS v=some x→¬ F x) (pc:roots.length≤17592186044416) :
   aD Tryz.prog 187 [.pointer (some ⟨a,0,none⟩),v] w (adi iZ w a size bB old times ns roots F):=by
 obtain ⟨va,vc,rfl,_,_⟩:=id U;refine aad.calls rfl ?_;unfold IJ;refine σ ?_;refine δ (by rfl) (zS w a ns.length old _ roots (vA h) U) ?_;rintro r w1 ⟨rfl,ag⟩;refine σ ?_;refine aX rfl (fun hc=>?_) (fun hc=>?_)
 ·have bE:bK ns.length roots=false:=by simpa using hc
  refine σ ?_;exact ⟨fun _=>⟨rfl,ag⟩,fun h=>by rw [bE] at h;cases h⟩
 have bE:bK ns.length roots=true:=by simpa using hc
 refine σ ?_;refine δ (by rfl) (Sx w1 a size bB old times ns F (kq h ag (fun _ _ h=>h)) hw hn _ roots (U.mod ag (fun _ _ h=>h)) bE hv pc) ?_;rintro r w2 ⟨fq,F',o1,o2,o3,o4⟩;have s1:=ag.size;obtain ⟨qa,qc,rfl,_,_⟩:=o1.val;refine σ ?_;refine ⟨fun h=>(by rw [bE] at h;cases h),fun _=>⟨_,rfl,fq,F',o1,o2,⟨(ag.aB (fun _ h=>h.elim)).trans o3.1,fun x U=>(o3.2 x U).imp (fun h=>h) (fun h=>by omega)⟩,fun x U=>⟨by have:=o4 x U;omega,(o4 x U).2⟩⟩⟩
end
section
open Go Go.W
theorem adk {ps:List (Nd×Value)} {p:Nat} (hp:p < ps.length) {nd:Nd} (hk:nd.kind=ps[p].1.kind) (hn:nd.num=ps[p].1.num):flat (ps.set p (nd,ps[p].2))=flat ps:=by
 unfold flat;rw [List.flatMap_def,List.flatMap_def]
 congr 1
 apply List.ext_getElem?;intro j;simp only [List.getElem?_map,List.getElem?_set]
 split
 ·rename_i h;subst h;simp [nc,hk,hn,hp]
 ·rfl
theorem adl {w:World} {ps:List (Nd×Value)} {fp:Nat→Option Nat} {F:Nat→Prop} (h:jY w ps fp F) (k:Nat):jY w (ps.take k) fp F:=
 ⟨fun i hi=>by
  have bS:i < ps.length:=by rw [List.length_take] at hi;omega
  rw [List.getElem_take];exact h.1 i bS,fun i j b hi hj=>h.2 i j b (by rw [List.length_take] at hi;omega) (by rw [List.length_take] at hj;omega)⟩
theorem adm {w:World} {ps qs:List (Nd×Value)} {fp fq:Nat→Option Nat} {F:Nat→Prop} (h:jY w ps fp F) (k:jY w qs fq F) (hd:∀ i j b,i < ps.length→j < qs.length→fp i=some b→fq j≠some b) :
   jY w (ps++qs) (fun i=>if i < ps.length then fp i else fq (i - ps.length)) F:=by
 refine ⟨fun i hi=>?_,fun i j b hi hj ek h1 h2=>?_⟩
 ·by_cases jn:i < ps.length
  ·rw [List.getElem_append_left jn];simp only [if_pos jn];exact h.1 i jn
  ·rw [List.getElem_append_right (by omega)];simp only [if_neg jn];exact k.1 _ (by rw [List.length_append] at hi;omega)
 ·rw [List.length_append] at hi hj;simp only at h1 h2;by_cases jn:i < ps.length
  ·rw [if_pos jn] at h1;by_cases jo:j < ps.length
   ·rw [if_pos jo] at h2;exact h.2 i j b jn jo ek h1 h2
   ·rw [if_neg jo] at h2;exact hd i _ b jn (by omega) h1 h2
  ·rw [if_neg jn] at h1;by_cases jo:j < ps.length
   ·rw [if_pos jo] at h2;exact hd j _ b jo (by omega) h2 h1
   ·rw [if_neg jo] at h2;exact k.2 _ _ b (by omega) (by omega) (by omega) h1 h2
theorem SA (ps:List (Nd×Value)):∀ k,(flat ps).take (k*3)=flat (ps.take k):=by
 induction ps with
 | nil=>intro k;simp [flat]
 | cons p ps ih=>
  intro k;cases k with
  | zero=>simp [flat]
  | succ k=>
   have e:flat (p::ps)=I p.1.kind::I p.1.num::p.2::flat ps:=by simp [flat,nc]
   have e':flat (p::ps.take k)=I p.1.kind::I p.1.num::p.2::flat (ps.take k):=by simp [flat,nc]
   rw [e,show (k+1)*3=k*3+3 by omega,List.take_succ_cons,List.take_succ_cons,List.take_succ_cons,ih,List.take_succ_cons,e']
theorem adn {w:World} {b c n:Nat} {ps:List (Nd×Value)} {fp:Option Nat} (h:ax w 104 3 (.slice (some ⟨b,0,none⟩) n c) (flat ps) n fp) {k:Nat} (hk:k≤n):ax w 104 3 (.slice (some ⟨b,0,none⟩) k k) (flat (ps.take k)) k fp:=by
 have hl:=h.1;rw [mg] at hl;have hn:ps.length=n:=by omega
 refine ⟨by rw [mg,List.length_take];omega,?_⟩;rcases h.2 with ⟨h1,_⟩ | ⟨b',c',sp,h1,h2,h3,h4,h5⟩
 ·cases h1
 ·cases h1;refine .inr ⟨b,k,(flat ps).drop (k*3)++sp,rfl,h2,?_,?_,Nat.le_refl _⟩
  ·rw [← SA,← List.append_assoc,List.take_append_drop];exact h3
  ·rw [← SA,← List.append_assoc,List.take_append_drop,List.length_append,mg];omega
def cU (ns:List Nd) (old:Nat):List Nat:=(List.range old).filter fun p=>(ai ns p).args.any (fy old)
theorem Cm {ns:List Nd} {old p:Nat}:p∈cU ns old↔p < old∧∃ a∈(ai ns p).args,(old:Int)≤a:=by
 simp [cU,fy]
theorem SB {ns:List Nd} {old:Nat} {ld:List (Int×Int)} (h:xP ns old ld):∀ k∈ld.map (fun q=>q.1),0≤k∧k < (old:Int):=by
 intro k hk;obtain ⟨p,rfl,hp,_⟩:=(h.2 k).1 hk;omega
theorem ado {ns:List Nd} {old:Nat} {ld:List (Int×Int)} (h:xP ns old ld):ld.length≤old:=by
 have hr:=SB h;have b9:((ld.map (fun q=>q.1)).map Int.toNat).Nodup:=by
  unfold List.Nodup;rw [List.pairwise_map];refine List.Pairwise.imp_of_mem ?_ h.1;intro a b ha hb gO hh;have:=hr a ha;have:=hr b hb;exact gO (by omega)
 have:=zF old _ b9 (fun x U=>by
  obtain ⟨k,hk,rfl⟩:=List.mem_map.1 U;have:=hr k hk
  omega)
 simpa using this
theorem adp {ns:List Nd} {old:Nat} {ld:List (Int×Int)} (h:xP ns old ld):vi ld=(cU ns old).map fun p:Nat=>(p:Int):=by
 have hs:=List.pairwise_mergeSort (le:=fun x y:Int=>decide (x≤y)) (by intro a b c;simp;omega) (by intro a b;simp;omega) (ld.map (fun q=>q.1));have b9:((cU ns old).map fun p:Nat=>(p:Int)).Nodup:=by
  unfold List.Nodup;rw [List.pairwise_map];refine ((List.nodup_range (n:=old)).sublist List.filter_sublist).imp ?_;intro a b gO hh;exact gO (by omega)
 refine List.Perm.eq_of_pairwise (le:=fun x y:Int=>x≤y) (fun a b _ _ h1 h2=>by omega) (hs.imp (by intro a b h;simpa using h)) ?_ ?_
 ·rw [List.pairwise_map];refine ((List.pairwise_lt_range (n:=old)).sublist List.filter_sublist).imp ?_;intro a b gO;omega
 ·refine (List.mergeSort_perm _ _).trans ?_;rw [List.perm_ext_iff_of_nodup h.1 b9];intro k;rw [h.2 k];simp only [List.mem_map,Cm];constructor
  ·rintro ⟨p,rfl,h1,h2⟩;exact ⟨p,⟨h1,h2⟩,rfl⟩
  ·rintro ⟨p,⟨h1,h2⟩,rfl⟩;exact ⟨p,rfl,h1,h2⟩
theorem adq {ns:List Nd} {old p:Nat} (h:(ai ns p).args.any (fy old)=false):(ai ns p).args.filter (fy old)=[]:=by
 rw [List.filter_eq_nil_iff];intro a ha hh;rw [List.any_eq_false] at h;exact h a ha hh
theorem adr (ns:List Nd) (old:Nat) (out:List Nat):(cU ns old).foldl (xW ns old) out=kV ns old old out:=by
 unfold cU kV;rw [List.foldl_filter]
 congr 1
 funext o p
 split
 ·rfl
 ·rename_i h;unfold xW;rw [adq (by simpa using h)];rfl
theorem ads {ns:List Nd} {old p:Nat} (h:p < old) (hn:p∉cU ns old) (O:List Nat):ku ns old O p=(ai ns p).args:=by
 have hq:∀ q∈(ai ns p).args,¬ fy old q=true:=fun q hq hh=>hn (Cm.2 ⟨h,q,hq,by simpa [fy] using hh⟩)
 unfold ku
 conv=>rhs;rw [← List.map_id' (ai ns p).args]
 apply List.map_congr_left;intro q hqm;rw [if_neg (hq q hqm)]
def eL (ns:List Nd) (old:Nat) (O:List Nat) (M:List Nat):List Nd:=(List.range ns.length).map fun p=>if p∈M then ⟨(ai ns p).kind,(ai ns p).num,ku ns old O p⟩ else ai ns p
theorem qh (ns:List Nd) (old:Nat) (O M:List Nat):(eL ns old O M).length=ns.length:=by simp [eL]
theorem tZ (ns:List Nd) (old:Nat) (O M:List Nat) {p:Nat} (hp:p < ns.length):ai (eL ns old O M) p=if p∈M then ⟨(ai ns p).kind,(ai ns p).num,ku ns old O p⟩ else ai ns p:=by
 simp [eL,ai,hp]
theorem xY {l l':List Nd} (hl:l.length=l'.length) (h:∀ p,p < l.length→ai l p=ai l' p):l=l':=by
 apply List.ext_getElem hl;intro i h1 h2;have:=h i h1
 simpa [ai,h1,h2] using this
theorem sE (l:List Nd) (p i:Nat) (nd:Nd) (hp:p < l.length):ai (l.set p nd) i=if i=p then nd else ai l i:=by
 unfold ai;rw [List.getD_eq_getElem?_getD,List.getD_eq_getElem?_getD,List.getElem?_set];by_cases h:p=i
 ·subst h;simp [hp]
 ·rw [if_neg h,if_neg (fun hh=>h hh.symm)]
theorem adt (ns:List Nd) (old:Nat) (O:List Nat):eL ns old O []=ns:=by
 refine xY (qh _ _ _ _) (fun p hp=>?_);rw [qh] at hp;rw [tZ _ _ _ _ hp,if_neg (by simp)]
theorem adu (ns:List Nd) (old:Nat) (O M:List Nat) {p:Nat} (hp:p < ns.length):eL ns old O (M++[p])=(eL ns old O M).set p ⟨(ai ns p).kind,(ai ns p).num,ku ns old O p⟩:=by
 refine xY (by rw [List.length_set,qh,qh]) (fun i hi=>?_);rw [qh] at hi;rw [tZ _ _ _ _ hi,sE _ _ _ _ (by rw [qh];exact hp),tZ _ _ _ _ hi];by_cases h:i=p
 ·subst h;simp
 ·simp [h]
def kW (ns l:List Nd) (old:Nat) (left R:List (Int×Int)):List Nd:=
 (List.range ns.length).map fun p=>if p < old∧(p:Int)∈R.map (fun q=>q.1)∧(p:Int)∉left.map (fun q=>q.1) then ⟨(ai ns p).kind,(ai ns p).num,[(p:Int)]⟩ else ai l p
theorem og (ns l:List Nd) (old:Nat) (left R:List (Int×Int)):(kW ns l old left R).length=ns.length:=by simp [kW]
theorem ua (ns l:List Nd) (old:Nat) (left R:List (Int×Int)) {p:Nat} (hp:p < ns.length):ai (kW ns l old left R) p=if p < old∧(p:Int)∈R.map (fun q=>q.1)∧(p:Int)∉left.map (fun q=>q.1) then ⟨(ai ns p).kind,(ai ns p).num,[(p:Int)]⟩ else ai l p:=by
 conv=>lhs;unfold ai kW
 rw [List.getD_eq_getElem?_getD,List.getElem?_map,List.getElem?_range hp];rfl
theorem adv (ns l:List Nd) (hl:l.length=ns.length) (old:Nat) (R:List (Int×Int)):kW ns l old R R=l:=by
 refine xY (by rw [og,hl]) (fun p hp=>?_);rw [og] at hp;rw [ua _ _ _ _ _ hp,if_neg (fun h=>h.2.2 h.2.1)]
end
section
open Go Go.W
def ub (w:World) (cv:Value) (ns:List Nd) (F:Nat→Prop) (p b c:Nat) (v:Value) (js:Option Nat):Prop:=
 ∃ ps fp,cv = .slice (some ⟨b,0,none⟩) ns.length c∧ax w 104 3 cv (flat ps) ns.length (some b)∧F b∧jY w ps fp F∧ps.map Prod.fst=ns∧(∀ x,F x→x < w.heap.size)∧p < ps.length∧(∀ q,ps[p]? = some q→q.2=v)∧fp p=js
theorem SC {w:World} {cv:Value} {ns:List Nd} {F:Nat→Prop} (h:ko 104 w cv ns F) {p:Nat} (hp:p < ns.length):∃ b c v js,ub w cv ns F p b c v js:=by
 obtain ⟨dT,ps,fp,h1,h2,h3,h4,h5⟩:=h;have jg:ps.length=ns.length:=by rw [← h4];simp
 obtain ⟨bc,cc,tL,rfl,rfl,gc,fo,me⟩:=h1.pos (by omega);have sC:p < ps.length:=by omega
 exact ⟨bc,cc,ps[p].2,fp p,ps,fp,rfl,h1,h2 _ rfl,h3,h4,h5,sC,fun q hq=>by rw [List.getElem?_eq_getElem sC] at hq;cases hq;rfl,rfl⟩
theorem SD {w:World} {cv:Value} {ns:List Nd} {F:Nat→Prop} {p b c:Nat} {v:Value} {js:Option Nat} (h:ub w cv ns F p b c v js):ko 104 w cv ns F:=by
 obtain ⟨ps,fp,h1,h2,h3,h4,h5,h6,h7,h8,h9⟩:=h;exact ⟨some b,ps,fp,h2,fun x U=>by cases U;exact h3,h4,h5,h6⟩
theorem adw {w w':World} {cv:Value} {ns:List Nd} {F S:Nat→Prop} {p b c:Nat} {v:Value} {js:Option Nat} (h:ub w cv ns F p b c v js) (hm:Mod S w w') (hd:∀ x,F x→¬ S x):ub w' cv ns F p b c v js:=by
 obtain ⟨ps,fp,h1,h2,h3,h4,h5,h6,h7,h8,h9⟩:=h;exact ⟨ps,fp,h1,h2.mod hm (fun x U=>by cases U;exact hd b h3),h3,jm h4 hm (fun i x hi U=>hd x ((h4.1 i hi).2 x U)),h5,fun x U=>Nat.lt_of_lt_of_le (h6 x U) hm.size,h7,h8,h9⟩
theorem J7 {w:World} {cv:Value} {ns:List Nd} {F:Nat→Prop} {p b c:Nat} {v:Value} {js:Option Nat} (h:ub w cv ns F p b c v js) :
   cv = .slice (some ⟨b,0,none⟩) ns.length c∧F b∧w.cell? ⟨b,p*3,none⟩=some (I (ai ns p).kind)∧w.cell? ⟨b,p*3+1,none⟩=some (I (ai ns p).num)∧w.cell? ⟨b,p*3+2,none⟩=some v ∧
    ax w 3 1 v ((ai ns p).args.map I) (ai ns p).args.length js∧(∀ x,js=some x→F x∧x≠b):=by
 obtain ⟨ps,fp,h1,h2,h3,h4,h5,h6,h7,h8,h9⟩:=h;have jg:ps.length=ns.length:=by rw [← h5];simp
 obtain ⟨bc,cc,tL,e1,e2,gc,fo,me⟩:=h2.pos (by omega);cases e2;have b9:ps[p].1=ai ns p:=by
  have e1:ai ns p=ns[p]'(by omega):=by simp [ai,show p < ns.length by omega]
  rw [e1];simp [← h5]
 have hv:=h8 _ (List.getElem?_eq_getElem h7);obtain ⟨o1,o2⟩:=h4.1 p h7;have c0:=so gc h7 (k:=0) (by omega);have c1:=so gc h7 (k:=1) (by omega);have c2:=so gc h7 (k:=2) (by omega);simp only [nc,Nat.add_zero,b9,hv] at c0 c1 c2;rw [b9,hv,h9] at o1;rw [h9] at o2;exact ⟨h1,h3,c0,c1,c2,o1,fun x U=>⟨o2 x U,fun hh=>sw o1 h2 (by decide) U (by rw [hh])⟩⟩
theorem SE {w w':World} {cv:Value} {ns:List Nd} {F:Nat→Prop} {p b c:Nat} {v:Value} {js:Option Nat} (h:ub w cv ns F p b c v js) {args':List Int} (hm:Mod (fun x=>js=some x) w w') (ho:ax w' 3 1 v (args'.map I) args'.length js) :
   ub w' cv (ns.set p ⟨(ai ns p).kind,(ai ns p).num,args'⟩) F p b c v js:=by
 obtain ⟨ps,fp,h1,h2,h3,h4,h5,h6,h7,h8,h9⟩:=h;have jg:ps.length=ns.length:=by rw [← h5];simp
 have hv:=h8 _ (List.getElem?_eq_getElem h7);have b9:ps[p].1=ai ns p:=by
  have e1:ai ns p=ns[p]'(by omega):=by simp [ai,show p < ns.length by omega]
  rw [e1];simp [← h5]
 obtain ⟨o1,o2⟩:=h4.1 p h7;rw [h9] at o1 o2;refine ⟨ps.set p (⟨(ai ns p).kind,(ai ns p).num,args'⟩,ps[p].2),fp,by rw [List.length_set];exact h1,?_,h3,⟨fun i hi=>?_,fun i j x hi hj=>h4.2 i j x (by simpa using hi) (by simpa using hj)⟩,?_,fun x U=>Nat.lt_of_lt_of_le (h6 x U) hm.size,by simpa using h7,fun q hq=>?_,h9⟩
 ·rw [adk h7 (by rw [b9]) (by rw [b9]),List.length_set];exact h2.mod hm (fun x U hh=>sw o1 h2 (by decide) hh U)
 ·have bS:i < ps.length:=by simpa using hi
  rw [List.getElem_set];by_cases jn:p=i
  ·subst jn;rw [if_pos rfl,h9];rw [← hv] at ho;exact ⟨ho,o2⟩
  ·rw [if_neg jn];exact ⟨(h4.1 i bS).1.mod hm (fun x U hh=>h4.2 i p x bS h7 (fun e=>jn e.symm) U (by rw [h9];exact hh)),(h4.1 i bS).2⟩
 ·rw [List.map_set,h5]
 ·rw [List.getElem?_set,if_pos rfl] at hq;rw [if_pos h7] at hq;cases hq;exact hv
def kX (ns:List Nd) (old:Nat) (O:List Nat) (l:List Int) (i:Nat):List Int:=(l.take i).map (fun q=>if fy old q=true then dD ns old O q else q)++l.drop i
theorem J8 (ns:List Nd) (old:Nat) (O:List Nat) (l:List Int) (i:Nat) (h:i≤l.length):(kX ns old O l i).length=l.length:=by simp [kX];omega
theorem adx (ns:List Nd) (old:Nat) (O:List Nat) (l:List Int):kX ns old O l 0=l:=by simp [kX]
theorem ady (ns:List Nd) (old:Nat) (O:List Nat) (p:Nat):kX ns old O (ai ns p).args (ai ns p).args.length=ku ns old O p:=by simp [kX,ku]
theorem SF (ns:List Nd) (old:Nat) (O:List Nat) (l:List Int) {i:Nat} (h:i < l.length):(kX ns old O l i)[i]? = some l[i]:=by
 unfold kX;rw [List.getElem?_append_right (by simp;omega)];have:i - ((l.take i).map (fun q=>if fy old q=true then dD ns old O q else q)).length=0:=by simp;omega
 rw [this,List.getElem?_drop];simp [h]
theorem SG (ns:List Nd) (old:Nat) (O:List Nat) (l:List Int) {i:Nat} (h:i < l.length):(kX ns old O l i).set i (if fy old l[i]=true then dD ns old O l[i] else l[i])=kX ns old O l (i+1):=by
 unfold kX;have e1:((l.take i).map (fun q=>if fy old q=true then dD ns old O q else q)).length=i:=by simp;omega
 rw [List.set_append,if_neg (by omega),e1,Nat.sub_self,List.drop_eq_getElem_cons h,List.set_cons_zero,List.take_succ_eq_append_getElem h,List.map_append];simp
theorem adz (ns:List Nd) (old:Nat) (O:List Nat) (l:List Int) {i:Nat} (h:i < l.length) (hy:fy old l[i]=false):kX ns old O l (i+1)=kX ns old O l i:=by
 rw [← SG ns old O l h,hy];have:=SF ns old O l h;simp only [Bool.false_eq_true,if_false];apply List.ext_getElem?;intro j;rw [List.getElem?_set]
 split
 ·rename_i hj;subst hj;rw [this]
  split
  ·rfl
  ·rename_i hh;exact absurd (by rw [J8 _ _ _ _ _ (by omega)];exact h) hh
 ·rfl
theorem SH {l:List Int} {i:Nat} (h:i < l.length) (p:Int→Bool):(l.take (i+1)).filter p=(l.take i).filter p++if p l[i]=true then [l[i]] else []:=by
 rw [List.take_succ_eq_append_getElem h,List.filter_append]
 congr 1
 simp [List.filter_cons]
theorem SI (ns:List Nd) (fr:Nat) (out:List Nat) (a b:List Int):di ns fr out (a++b)=di ns fr (di ns fr out a) b:=by unfold di;rw [List.foldl_append]
theorem E7 {w:World} {v:Value} {xs:List Int} {n:Nat} {fp:Option Nat} (h:ax w 3 1 v (xs.map I) n fp) {i:Nat} (hi:i < n) :
   ∃ b c cs,v = .slice (some ⟨b,0,none⟩) n c∧fp=some b∧w.heap[b]? = some (.cells (cs:List Value).toArray 3 (0,0))∧i < cs.length∧(∀ (j:Nat) (y:Int),xs[j]? = some y→cs[j]? = some (I y)) ∧
    ∀ w' y,w'.heap[b]? = some (.cells (cs.set i (I y)).toArray 3 (0,0))→ax w' 3 1 v ((xs.set i y).map I) n fp:=by
 have hl:=h.1;rw [List.length_map] at hl;obtain ⟨b,c,cN,rfl,rfl,hb,fo,me⟩:=h.pos (by omega);refine ⟨b,c,xs.map I++cN,rfl,rfl,hb,by simp;omega,fun j y hj=>?_,fun w' y hy=>⟨by simpa using hl,.inr ⟨b,c,cN,rfl,rfl,?_,?_,fo⟩⟩⟩
 ·rw [List.getElem?_append_left (by have:=(List.getElem?_eq_some_iff.1 hj).1;simpa using this),List.getElem?_map,hj];rfl
 ·rw [hy,List.set_append,if_pos (by simp;omega)];rw [List.map_set]
 ·simpa using me
theorem adA {w:World} {cv:Value} {ns:List Nd} {F:Nat→Prop} (h:ko 104 w cv ns F) {a:Nat} {l:List (Int×Int)} (ha:gi w a l):ko 104 w cv ns (fun x=>F x∧x≠a):=by
 obtain ⟨dT,ps,fp,h1,h2,h3,h4,h5⟩:=h;have bq:∀ {T sz n:Nat} {v:Value} {xs:List Value} {f:Option Nat},ax w T sz v xs n f→∀ b,f=some b→b≠a:=fun ho b hb hh=>by
  obtain ⟨cs,hc⟩:=su ho hb;obtain ⟨es,c,q,_⟩:=ha;rw [hh,q] at hc;cases hc
 exact ⟨dT,ps,fp,h1,fun b hb=>⟨h2 b hb,bq h1 b hb⟩,⟨fun i hi=>⟨(h3.1 i hi).1,fun b hb=>⟨(h3.1 i hi).2 b hb,bq (h3.1 i hi).1 b hb⟩⟩,h3.2⟩,h4,fun b hb=>h5 b hb.1⟩
theorem SJ {w:World} {b x:Nat} {l:List (Int×Int)} {cs:Array Value} {T:Nat} {fz:Nat×Nat} (h:gi w b l) (U:w.heap[x]? = some (.cells cs T fz)):b≠x:=fun hh=>by
 obtain ⟨es,c,q,_⟩:=h;rw [hh,U] at q;cases q
theorem adB {P:Program} {N id mQ:Nat} {a:IR} {next:Env→World→Prop} {Q:gy} {ρ:Env} {w:World} (jP:Env→World→Prop) (h:cD P N a (ji id (ji mQ (kO jP Q))) ρ w) (hk:∀ ρ w,jP ρ w→next ρ w):cD P N a (ji id (ji mQ (kO next Q))) ρ w:=
 xv a _ _ (zp (zp (zo hk (fun _ _ _ h=>h)))) ρ w h
theorem adC (ns:List Nd) (old:Nat):(cU ns old).length≤old:=by
 have:=List.length_filter_le (fun p=>(ai ns p).args.any (fy old)) (List.range old);rw [List.length_range] at this;exact this
theorem adD (ns:List Nd) (old:Nat) (cur:List Nat) (l:List Int) (j:Nat):di ns old cur ((l.take j).filter (fy old)) <+: di ns old cur (l.filter (fy old)):=by
 conv=>rhs;rw [← List.take_append_drop j l,List.filter_append,SI]
 exact vO ns old _ _
theorem adE {L:List Int} (hn:L.Nodup) {i:Nat} (hi:i < L.length) (x:Int):x∈L.eraseIdx i↔x∈L∧x≠L[i]:=by
 rw [List.mem_eraseIdx_iff_getElem];constructor
 ·rintro ⟨j,hj,bq,rfl⟩;exact ⟨List.getElem_mem hj,fun hh=>bq ((List.getElem_inj hn (h₀:=hj) (h₁:=hi)).1 hh)⟩
 ·rintro ⟨hm,bq⟩;obtain ⟨j,hj,rfl⟩:=List.getElem_of_mem hm;exact ⟨j,hj,fun hh=>bq (by subst hh;rfl),rfl⟩
theorem SK {left:List (Int×Int)} (hn:(left.map (fun q=>q.1)).Nodup) {i:Nat} (hi:i < left.length):((left.eraseIdx i).map (fun q=>q.1)).Nodup∧∀ x:Int,x∈(left.eraseIdx i).map (fun q=>q.1)↔x∈left.map (fun q=>q.1)∧x≠left[i].1:=by
 have e:(left.eraseIdx i).map (fun q=>q.1)=(left.map (fun q=>q.1)).eraseIdx i:=Go.ChangeMaps.map_eraseIdx _ _ _;rw [e];refine ⟨hn.sublist (List.eraseIdx_sublist _ _),fun x=>?_⟩;rw [adE hn (by simpa using hi)];simp
theorem adF {ns l:List Nd} {old:Nat} {left R:List (Int×Int)} (hn:(left.map (fun q=>q.1)).Nodup) {i p:Nat} (hi:i < left.length) (hp:left[i].1=(p:Int)) (hR:(p:Int)∈R.map (fun q=>q.1)) (iK:p < ns.length) :
   kW ns l old (left.eraseIdx i) R=if p < old then (kW ns l old left R).set p ⟨(ai ns p).kind,(ai ns p).num,[(p:Int)]⟩ else kW ns l old left R:=by
 obtain ⟨h1,h2⟩:=SK hn hi;have hm:(p:Int)∈left.map (fun q=>q.1):=by rw [← hp];exact List.mem_map.2 ⟨_,List.getElem_mem hi,rfl⟩
 by_cases kS:p < old
 ·rw [if_pos kS];refine xY (by simp [og]) (fun j hj=>?_);rw [og] at hj;rw [ua _ _ _ _ _ hj,sE _ _ _ _ (by rw [og];exact iK),ua _ _ _ _ _ hj];by_cases jo:j=p
  ·subst jo;rw [if_pos ⟨kS,hR,fun hh=>((h2 _).1 hh).2 hp.symm⟩,if_pos rfl]
  ·rw [if_neg jo];have e:(j < old∧(j:Int)∈R.map (fun q=>q.1)∧(j:Int)∉(left.eraseIdx i).map (fun q=>q.1))↔(j < old∧(j:Int)∈R.map (fun q=>q.1)∧(j:Int)∉left.map (fun q=>q.1)):=by
    rw [h2];have:(j:Int)≠left[i].1:=by rw [hp];omega
    simp [this]
   simp only [e]
 ·rw [if_neg kS];refine xY (by simp [og]) (fun j hj=>?_);rw [og] at hj;rw [ua _ _ _ _ _ hj,ua _ _ _ _ _ hj];have e:(j < old∧(j:Int)∈R.map (fun q=>q.1)∧(j:Int)∉(left.eraseIdx i).map (fun q=>q.1))↔(j < old∧(j:Int)∈R.map (fun q=>q.1)∧(j:Int)∉left.map (fun q=>q.1)):=by
   rw [h2];constructor
   ·rintro ⟨c1,c2,c3⟩;exact ⟨c1,c2,fun hh=>c3 ⟨hh,by rw [hp];omega⟩⟩
   ·rintro ⟨c1,c2,c3⟩;exact ⟨c1,c2,fun hh=>c3 hh.1⟩
  simp only [e]
theorem adG {w:World} {ca:Option Addr} {c n:Nat} {ps:List (Nd×Value)} {fp:Option Nat} (h:ax w 104 3 (.slice ca n c) (flat ps) n fp) {k:Nat} (hk:k≤n):ax w 104 3 (.slice ca k k) (flat (ps.take k)) k fp:=by
 rcases h.2 with ⟨h1,h2,h3⟩ | ⟨b',c',sp,h1,h2,h3,h4,h5⟩
 ·cases h1;obtain rfl:k=0:=by omega
  subst h3;exact ax.nil _ _ _
 ·cases h1;exact adn h hk
theorem adH {w:World} {ps:List (Nd×Value)} {fp:Nat→Option Nat} {F:Nat→Prop} (h:jY w ps fp F):∀ u∈flat ps,u.oneCell'=true:=by
 intro u hu;obtain ⟨q,hq,hu⟩:=List.mem_flatMap.1 hu;obtain ⟨i,hi,rfl⟩:=List.getElem_of_mem hq;obtain ⟨va,vc,hv,_⟩:=(h.1 i hi).1.val;simp only [nc,List.mem_cons,List.not_mem_nil,or_false] at hu;rcases hu with rfl | rfl | rfl
 ·rfl
 ·rfl
 ·rw [hv];rfl
theorem adI {l:List Nd} {P:Nd→Prop} (h:∀ p,p < l.length→P (ai l p)):∀ nd∈l,P nd:=by
 intro nd b9;obtain ⟨i,hi,rfl⟩:=List.getElem_of_mem b9;have:=h i hi
 simpa [ai,hi] using this
theorem adJ {ns:List Nd} (hw:WF ns) {old:Nat} (ho:old≤ns.length) (O:List Nat) {w:World} {bo br:Nat} {R:List (Int×Int)} (hT:JQ w bo br ns R):(kW ns (eL ns old O (cU ns old)) old [] R).take old=(List.range old).map (nq ns old O):=by
 refine xY (by simp [og];omega) (fun p hp=>?_);rw [List.length_take,og] at hp;have iK:p < ns.length:=by omega
 have kS:p < old:=by omega
 have e1:ai ((kW ns (eL ns old O (cU ns old)) old [] R).take old) p=ai (kW ns (eL ns old O (cU ns old)) old [] R) p:=by
  unfold ai;rw [List.getD_eq_getElem?_getD,List.getD_eq_getElem?_getD,List.getElem?_take,if_pos kS]
 have e2:ai ((List.range old).map (nq ns old O)) p=nq ns old O p:=by simp [ai,kS]
 rw [e1,e2,ua _ _ _ _ _ iK,tZ _ _ _ _ iK];have hk:=hT.keys (p:Int);by_cases hr:ind ns p=true∧over ns p=p
 ·rw [if_pos ⟨kS,hk.2 ⟨p,iK,by rw [hr.2],by rw [hr.2];exact hr.1⟩,by simp⟩];simp [nq,hr]
 ·rw [if_neg]
  ·unfold nq;rw [if_neg hr]
   split
   ·rfl
   ·rename_i hl;rw [ads kS hl]
  ·rintro ⟨_,h2,_⟩;obtain ⟨j,hj,e,hi⟩:=hk.1 h2;have e':p=over ns j:=by omega
   rw [e'] at hr;exact hr ⟨hi,qT (eX hw) hj⟩
theorem adK {ns:List Nd} (dJ:∀ nd∈ns,nd.args.length≤8) {old:Nat} (O:List Nat) (R:List (Int×Int)):∀ nd∈kW ns (eL ns old O (cU ns old)) old [] R,nd.args.length≤8:=by
 refine adI (fun p hp=>?_);rw [og] at hp;have:=dJ (ai ns p) (by simp [ai,hp]);rw [ua _ _ _ _ _ hp,tZ _ _ _ _ hp]
 split
 ·simp
 ·split
  ·simpa [ku] using this
  ·exact this
theorem adL {ns:List Nd} {old:Nat} (O:List Nat) (R:List (Int×Int)) {x:Nat} (U:old≤x) (BU:x < ns.length):ai (kW ns (eL ns old O (cU ns old)) old [] R) x=ai ns x:=by
 rw [ua _ _ _ _ _ BU,if_neg (by omega),tZ _ _ _ _ BU,if_neg (fun hh=>by have:=(Cm.1 hh).1;omega)]
def ly (ns:List Nd) (old:Nat) (O1:List Nat) (k:Nat):List Nat:=((cU ns old).take k).foldl (xW ns old) O1
theorem SL (ns:List Nd) (old:Nat) (O1:List Nat):ly ns old O1 0=O1:=by simp [ly]
theorem J9 (ns:List Nd) (old:Nat) (O1:List Nat) {k:Nat} (hk:k < (cU ns old).length):ly ns old O1 (k+1)=di ns old (ly ns old O1 k) ((ai ns (cU ns old)[k]).args.filter (fy old)):=by
 unfold ly;rw [List.take_succ_eq_append_getElem hk,List.foldl_append];rfl
theorem SM (ns:List Nd) (old:Nat) (O1:List Nat):ly ns old O1 (cU ns old).length=kV ns old old O1:=by
 unfold ly;rw [List.take_length];exact adr ns old O1
theorem adM (ns:List Nd) (old:Nat) (O1:List Nat) {k:Nat} (hk:k≤(cU ns old).length):ly ns old O1 k <+: kV ns old old O1:=by
 have key:∀ (l:List Nat) (o:List Nat),o <+: l.foldl (xW ns old) o:=by
  intro l
  induction l with
  | nil=>intro o;exact List.prefix_rfl
  | cons x l ih=>intro o;exact (J0 ns old o x).trans (ih _)
 rw [← SM];unfold ly;rw [List.take_length]
 conv=>rhs;rw [← List.take_append_drop k (cU ns old),List.foldl_append]
 exact key _ _
theorem adN {ns:List Nd} (hw:WF ns) {old:Nat} (ho:old≤ns.length) {O1:List Nat} (h:jK ns old O1):∀ k,k≤(cU ns old).length→jK ns old (ly ns old O1 k):=by
 intro k
 induction k with
 | zero=>intro _;rw [SL];exact h
 | succ k ih=>
  intro hk;rw [J9 ns old O1 (by omega)];have hm:=(Cm (ns:=ns) (old:=old)).1 (List.getElem_mem (show k < (cU ns old).length by omega));exact qg hw _ (ih (by omega)) (JZ (iW hw (by omega)).2 _)
end
section
open Go Go.W
theorem adO (w:World) (a:Nat) (size bB:Int) (old:Nat) (times:Int) (ns:List Nd) (F:Nat→Prop) (h:iZ w a size bB old times ns F) (ho:old≤ns.length) (hw:WF ns) (hn:ns.length≤1048576) (v:Value) (roots:List Int) (U:Ints w v roots) (ct:bK ns.length roots=true)
   (hv:roots≠[]→∀ x,jS v=some x→¬ F x) (pc:roots.length≤17592186044416) :
   aD Tryz.prog 196 [.pointer (some ⟨a,0,none⟩),v] w (J4 iZ w a size bB times ns old roots F):=by
 have eu:=zR h;obtain ⟨va,vc,rfl,_,_⟩:=id U;obtain ⟨cv,mb,ld,g1,g2,g3,g4,g5,g6⟩:=h;have dJ:=BO hw;have la:=lt_of_heap g1;have lmb:mb < w.heap.size:=eu mb g5;have tX:a≠mb:=fun hh=>by
  obtain ⟨es,c,q,_⟩:=g4;rw [← hh,g1] at q;cases q
 refine aal.calls rfl ?_;unfold IT;simp only [go_sem,simprocAttr,cell_of g1];refine bL (off:=5) rfl rfl g1 rfl (by simp) ?_;intro w1 aq ag cL;have aq:w1.heap[a]? = some (.cells #[I size,I bB,cv,I old,.map (some mb),I (IntKind.i64.wrap (times+1))] 202 (0,0)):=aq;have Ab:=q9 (Su g3 g1) ag (fun b hb=>hb.2);have Cl:=dO g4 ag (fun hh=>tX hh.symm);have hU:=Sw U ag (fun bq x U hh=>hv bq x U (hh ▸ g2));have mA:=Sv U;have s1:=ag.size;simp only [go_sem,simprocAttr,cell_of aq]
 refine Ej (fun ρ w'=>∃ bo br bn bm R,ρ.get 0=some (.pointer (some ⟨a,0,none⟩))∧ρ.get 1=some (.slice va roots.length vc)∧ρ.get 5=some (.pointer (some ⟨bm,0,none⟩)) ∧
  my w' bm a bo br bn ns old [] (.slice none 0 0) none∧JQ w' bo br ns R∧br≠bn∧w.heap.size≤bo∧w.heap.size≤br∧w.heap.size≤bn∧w.heap.size≤bm∧Mod (fun _=>False) w1 w') ?_ ?_
 ·rw [Ei];refine ⟨?_,?_⟩
  ·refine δ (by rfl) (JR ns hw hn w1.drew a _ _ cv _ _ _ _ aq (zQ (q9 Ab (⟨Nat.le_refl _,fun _ _ _=>rfl,rfl,rfl,rfl⟩:Mod (fun _=>False) w1 w1.drew) (fun _ _ h=>h)))) ?_;rintro q w2 ⟨bo,br,R,rfl,hT,lo,lr,kR,ae⟩;have ae:Mod (fun _=>False) w1 w2:=ae.dj;have lo:w1.heap.size≤bo:=lo;have lr:w1.heap.size≤br:=lr;have ka:=ae.old a (by omega) (fun h=>h);refine σ ?_;refine ⟨ka,?_⟩;refine zt ?_;intro w3 aE ab gj;have s2:=ae.size;have s3:=ab.size;have xO:=ab.old a (by omega) (fun h=>h);refine σ ?_;refine ⟨xO,?_⟩;refine b8 rfl ?_;intro w4 aJ aj eA;have aJ:w4.heap[w3.heap.size]? = some (.cells #[.pointer (some ⟨a,0,none⟩),.slice (some ⟨bo,0,none⟩) ns.length ns.length,.map (some br),I old,.map (some w2.heap.size),.slice none 0 0] 249 (0,0)):=aJ;have oZ:=ab.trans aj;obtain ⟨jD,rc,xV,_⟩:=id hT.ring;have lbr:=lt_of_heap xV;exact ⟨bo,br,w2.heap.size,w3.heap.size,R,rfl,⟨aJ,oZ.at hT.of (fun h=>h),dO aE aj (fun h=>h),ax.nil _ _ _,fun h=>by cases h⟩,⟨oZ.at hT.of (fun h=>h),dO hT.ring oZ (fun h=>h),hT.nd,hT.keys⟩,by omega,by omega,by omega,by omega,by omega,ae.trans oZ⟩
  ·refine zt ?_;intro w2 an ae dh;have ae:Mod (fun _=>False) w1 w2:=ae.dj;have dh:w2.heap.size=w1.heap.size+1:=dh;have an:gi w2 w1.heap.size []:=an;have ka:=ae.old a (by omega) (fun h=>h);refine σ ?_;refine ⟨by simp only [gZ,ka,and_self,implies_true],?_⟩;refine δ (by rfl) (JR ns hw hn w2 a _ _ cv _ _ _ _ (ae.at aq (fun h=>h)) (zQ (q9 Ab ae (fun _ _ h=>h)))) ?_;rintro q w3 ⟨bo,br,R,rfl,hT,lo,lr,kR,ab⟩;have s3:=ab.size;have xO:=ab.old a (by omega) (fun h=>h);refine σ ?_;refine ⟨xO,?_⟩;refine b8 rfl ?_;intro w4 aJ aj eA;have aJ:w4.heap[w3.heap.size]? = some (.cells #[.pointer (some ⟨a,0,none⟩),.slice (some ⟨bo,0,none⟩) ns.length ns.length,.map (some br),I old,.map (some w1.heap.size),.slice none 0 0] 249 (0,0)):=aJ;have oZ:=ab.trans aj;exact ⟨bo,br,w1.heap.size,w3.heap.size,R,rfl,⟨aJ,aj.at hT.of (fun h=>h),dO an oZ (fun h=>h),ax.nil _ _ _,fun h=>by cases h⟩,⟨aj.at hT.of (fun h=>h),dO hT.ring aj (fun h=>h),hT.nd,hT.keys⟩,by omega,by omega,by omega,by omega,by omega,ae.trans oZ⟩
 rintro ρ w3 ⟨bo,br,bn,bm,R,r0,r1,r5,ik,hT,EJ,lo,lr,Sa,JU,ab⟩;simp only [go_sem,simprocAttr,r0,r1,r5];have vo:=hU.mod ab (fun _ _ h=>h);have s3:=ab.size;refine ao (by rfl) ?_
 refine (JV w3 _ a bo br _ ns hw hn old ho [] _ none ik (xT ns old) _ roots vo ct (fun bq x U hh=>by
  have:=mA bq x U;rcases hh with hh | hh | hh
  ·omega
  ·omega
  ·cases hh) pc).mono ?_
 rintro q w5 ⟨vm5,iF,Ac,Aa,ay,E6,iG,xX⟩;obtain ⟨pS,pU,rfl,_,_⟩:=iG.val;have s5:=ay.size
 have mr:Mod (fun _=>False) w1 w5:=ab.step ay (fun x U ah=>by
  rcases U with U | U | U
  ·omega
  ·omega
  ·cases U)
 have cd:=mr.at aq (fun h=>h);have J5:=dO Cl mr (fun h=>h);simp only [go_sem,simprocAttr,cell_of cd];refine δ (by rfl) (aaJ w5 (some mb)) ?_;rintro q w6 ⟨rfl,E8⟩;have cO:w6.heap[w5.heap.size]? = some (.cells #[.map (some mb)] 200 (0,0)):=by rw [E8];exact heap_alloc_new w5 _
 have aH:Mod (fun _=>False) w5 w6:=by rw [E8];exact pN _ w5 _
 have s6:=aH.size;refine σ ?_;have hlr:=SB g6;have zw:=ado g6;refine ao (by rfl) ?_
 refine (aaM w6 w5.heap.size mb ld cO (dO J5 aH (fun h=>h)) g6.1 (fun p hp=>by
  have:=hlr p.1 (List.mem_map.2 ⟨p,hp,rfl⟩)
  omega) (by omega)).mono ?_
 rintro q w7 ⟨aZ,fpL,J',hfL⟩;rw [adp g6,List.length_map] at J';obtain ⟨vaL,Ka,rfl,_,_⟩:=J'.val;have s7:=aZ.size;have iI:=aH.trans aZ;have B7:Mod (fun _=>False) w1 w7:=mr.trans iI;have cj:=iI.at cd (fun h=>h);have E2:=rl Aa iI (fun h=>h) (fun h=>h) (fun h=>h) (fun _ _ h=>h);have g37:ko 104 w7 cv ns (fun x=>(F x∧x≠a)∧x≠mb):=q9 (adA Ab Cl) B7 (fun _ _ h=>h);have sF:∀ x,iF=some x→w3.heap.size≤x∧x < w5.heap.size:=fun x U=>by
  rcases E6 x U with h | h
  ·cases h
  ·exact ⟨h,Aa.met.lt U⟩
 have hbm:=lt_of_heap ik.cells;have vJ:=lt_of_heap ik.of;have hbn:bn < w3.heap.size:=by obtain ⟨es,c,q,_⟩:=ik.new;exact lt_of_heap q
 have zX:br < w3.heap.size:=by obtain ⟨es,c,q,_⟩:=hT.ring;exact lt_of_heap q
 have SN:br≠bm:=SJ hT.ring ik.cells;obtain ⟨O,hO⟩:∃ O,bN ns old roots=O:=⟨_,rfl⟩;obtain ⟨O1,E9⟩:∃ O1,di ns old [] roots=O1:=⟨_,rfl⟩;have SO:jK ns old O1:=E9 ▸ qg hw roots (xT ns old) ct;have vV:gT ns old (ns.length+1) 0 (kV ns old old O1)=O:=by rw [← E9];exact hO
 have SP:kV ns old old O1 <+: O:=by rw [← vV];exact Cf ns old _ _ _
 rw [E9] at E2;refine σ ?_
 refine JG (fun ρ w'=>∃ (vk:Value) (fk:Option Nat),my w' bm a bo br bn ns old (kV ns old old O1) vk fk∧ko 104 w' cv (eL ns old O (cU ns old)) (fun x=>(F x∧x≠a)∧x≠mb) ∧
     Mod (fun x=>((F x∧x≠a)∧x≠mb)∨x=bm∨x=bn∨iF=some x) w7 w'∧(∀ x,fk=some x→iF=some x∨w7.heap.size≤x) ∧
     ρ.get 0=some (.pointer (some ⟨a,0,none⟩))∧ρ.get 5=some (.pointer (some ⟨bm,0,none⟩))∧ρ.get 6=some (.slice pS roots.length pU)) ?_ ?_
 ·refine dz (fun m ρ w' => ∃ (k : Nat) (vk : Value) (fk : Option Nat), m = (cU ns old).length - k ∧ k ≤ (cU ns old).length ∧ my w' bm a bo br bn ns old (ly ns old O1 k) vk fk ∧ ko 104 w' cv (eL ns old O ((cU ns old).take k)) (fun x => (F x ∧ x ≠ a) ∧ x ≠ mb) ∧
      Mod (fun x=>((F x∧x≠a)∧x≠mb)∨x=bm∨x=bn∨iF=some x) w7 w'∧(∀ x,fk=some x→iF=some x∨w7.heap.size≤x) ∧
      ρ=[(0,.pointer (some ⟨a,0,none⟩)),(5,.pointer (some ⟨bm,0,none⟩)),(6,.slice pS roots.length pU),(39,.slice vaL (cU ns old).length Ka),(40,I (cU ns old).length),(41,I k)]) (cU ns old).length
   ⟨0,_,_,rfl,Nat.zero_le _,by rw [SL];exact E2,by rw [List.take_zero,adt];exact g37,Mod.refl _ _,(fun x U=>.inl U),rfl⟩ ?_
  rintro m ρ w8 ⟨k,vk,fk,rfl,hk,xZ,Cn,bY,pe,rfl⟩;unfold P8;refine σ ?_;refine aX rfl (fun hc=>?_) (fun hc=>?_)
  ·have dS:k < (cU ns old).length:=by simpa using hc
   obtain ⟨p,hp⟩:∃ p,(cU ns old)[k]=p:=⟨_,rfl⟩;obtain ⟨kS,_⟩:=(Cm (ns:=ns) (old:=old)).1 (hp ▸ List.getElem_mem dS);have iK:p < ns.length:=by omega
   have tO:p∉(cU ns old).take k:=fun hh=>by
    obtain ⟨j,hj,xN⟩:=List.getElem_of_mem hh;rw [List.getElem_take] at xN;have b9:(cU ns old).Nodup:=(List.nodup_range (n:=old)).sublist List.filter_sublist;rw [List.length_take] at hj;have:=(List.getElem_inj b9 (h₀:=by omega) (h₁:=dS)).1 (xN.trans hp.symm);omega
   have adP:=J'.mod bY (fun x U hh=>by
    have h1:=hfL x U;rcases hh with hh | hh | hh | hh
    ·have:=eu x hh.1.1;omega
    ·omega
    ·omega
    ·have:=sF x hh;omega)
   obtain ⟨bw,cw,ew,tw⟩:=JH adP dS (u:=I (p:Nat)) (by simp [dS,hp]);simp only [Value.slice.injEq] at ew;obtain ⟨rfl,_,rfl⟩:=ew
   have en:=bY.at cj (fun hh=>by
    rcases hh with hh | hh | hh | hh
    ·exact hh.1.2 rfl
    ·omega
    ·omega
    ·have:=sF a hh;omega)
   obtain ⟨b,c,v8,js,Co⟩:=SC Cn (p:=p) (by rw [qh];exact iK);obtain ⟨vM,JI,d0,d1,d2,oo,SQ⟩:=J7 Co;subst vM;rw [tZ _ _ _ _ iK,if_neg tO] at d0 d1 oo;rw [qh] at en cj;obtain ⟨Kb,Kc,rfl,_,_⟩:=oo.val;have b1:(0:Int)≤k∧(k:Int) < (cU ns old).length:=by omega
   have b2:(0:Int)≤(p:Nat)∧((p:Nat):Int) < ns.length:=by omega
   simp only [go_sem,simprocAttr,ak,bh,b1,tw,cell_of en,b2,d2];have adQ:eL ns old O ((cU ns old).take k)=(eL ns old O ((cU ns old).take k)).set p ⟨(ai ns p).kind,(ai ns p).num,kX ns old O (ai ns p).args 0⟩:=by
    refine xY (by rw [List.length_set]) (fun i hi=>?_);rw [sE _ _ _ _ (by rw [qh];exact iK)]
    split
    ·rename_i hh;subst hh;rw [tZ _ _ _ _ iK,if_neg tO,adx]
    ·rfl
   have adR:ub w8 (.slice (some ⟨b,0,none⟩) (eL ns old O ((cU ns old).take k)).length c) ((eL ns old O ((cU ns old).take k)).set p ⟨(ai ns p).kind,(ai ns p).num,kX ns old O (ai ns p).args 0⟩) (fun x=>(F x∧x≠a)∧x≠mb) p b c (.slice Kb (ai ns p).args.length Kc) js:=by rw [← adQ];exact Co
   have hLl:=adC ns old;have SR:ly ns old O1 (k+1) <+: O:=(adM ns old O1 dS).trans SP;have rj:IntKind.i64.wrap ((k:Int)+1)=((k+1:Nat):Int):=by rw [bU]<;>omega
   have bQ:=(iW hw iK).2;have EY:=dJ _ (show ai ns p∈ns by simp [ai,iK]);have adS:=adN hw ho SO k hk
   refine adB (fun ρ w'=>∃ (vk:Value) (fk:Option Nat),my w' bm a bo br bn ns old (ly ns old O1 (k+1)) vk fk∧ko 104 w' (.slice (some ⟨b,0,none⟩) (eL ns old O ((cU ns old).take k)).length c) (eL ns old O ((cU ns old).take (k+1))) (fun x=>(F x∧x≠a)∧x≠mb) ∧
       Mod (fun x=>((F x∧x≠a)∧x≠mb)∨x=bm∨x=bn∨iF=some x) w7 w'∧(∀ x,fk=some x→iF=some x∨w7.heap.size≤x) ∧
       ρ.get 0=some (.pointer (some ⟨a,0,none⟩))∧ρ.get 5=some (.pointer (some ⟨bm,0,none⟩))∧ρ.get 6=some (.slice pS roots.length pU)∧ρ.get 39=some (.slice (some ⟨bw,0,none⟩) (cU ns old).length Ka)∧ρ.get 40=some (I (cU ns old).length)∧ρ.get 41=some (I k)) ?_ ?_
   ·refine dz (fun m ρ w' => ∃ (i : Nat) (vk : Value) (fk : Option Nat), m = (ai ns p).args.length - i ∧ i ≤ (ai ns p).args.length ∧ my w' bm a bo br bn ns old (di ns old (ly ns old O1 k) (((ai ns p).args.take i).filter (fy old))) vk fk ∧
        ub w' (.slice (some ⟨b,0,none⟩) (eL ns old O ((cU ns old).take k)).length c) ((eL ns old O ((cU ns old).take k)).set p ⟨(ai ns p).kind,(ai ns p).num,kX ns old O (ai ns p).args i⟩) (fun x=>(F x∧x≠a)∧x≠mb) p b c (.slice Kb (ai ns p).args.length Kc) js ∧
        Mod (fun x=>((F x∧x≠a)∧x≠mb)∨x=bm∨x=bn∨iF=some x) w7 w'∧(∀ x,fk=some x→iF=some x∨w7.heap.size≤x) ∧
        ρ=[(0,.pointer (some ⟨a,0,none⟩)),(5,.pointer (some ⟨bm,0,none⟩)),(6,.slice pS roots.length pU),(9,.pointer (some ⟨b,p*3,none⟩)),(39,.slice (some ⟨bw,0,none⟩) (cU ns old).length Ka),(40,I (cU ns old).length),(41,I k),(54,.slice Kb (ai ns p).args.length Kc),(55,I (ai ns p).args.length),(56,I i)]) (ai ns p).args.length
     ⟨0,_,_,rfl,Nat.zero_le _,by simpa [di] using xZ,adR,bY,pe,rfl⟩ ?_
    rintro m ρ w9 ⟨i,Cq,uc,rfl,hi,ud,Cr,dq,x9,rfl⟩;unfold P7;refine σ ?_;refine aX rfl (fun cy=>?_) (fun cy=>?_)
    ·have bS:i < (ai ns p).args.length:=by simpa using cy
     obtain ⟨q,hq⟩:∃ q,(ai ns p).args[i]=q:=⟨_,rfl⟩;have E':=List.all_eq_true.1 bQ q (by rw [← hq];exact List.getElem_mem bS);simp only [Bool.and_eq_true,decide_eq_true_eq] at E';obtain ⟨_,_,e0,e1,e2,Ke,SS⟩:=J7 Cr;rw [sE _ _ _ _ (by rw [qh];exact iK),if_pos rfl] at Ke;have hhl:=J8 ns old O (ai ns p).args i (by omega);simp only [hhl] at Ke;obtain ⟨bv,cvv,cs,ev,Af,Fa,tQ,iT,mn⟩:=E7 Ke bS;simp only [Value.slice.injEq] at ev;obtain ⟨rfl,_,rfl⟩:=ev;have sr:cs[i]? = some (I q):=iT i q (by rw [SF _ _ _ _ bS,hq]);have fP:w9.cell? ⟨bv,i,none⟩=some (I q):=by rw [cell_of Fa,List.getElem?_toArray];exact sr
     have b3:(0:Int)≤i∧(i:Int) < (ai ns p).args.length:=by omega
     have zO:IntKind.i64.wrap ((i:Int)+1)=((i+1:Nat):Int):=by rw [bU]<;>omega
     have kn:=dq.at cj (fun hh=>by
      rcases hh with hh | hh | hh | hh
      ·exact hh.1.2 rfl
      ·omega
      ·omega
      ·have:=sF a hh;omega)
     have SU:=J9 ns old O1 dS;rw [hp] at SU;rw [SU] at SR;have yb:∀ x,uc=some x→w3.heap.size≤x:=fun x U=>by
      rcases x9 x U with h | h
      ·exact (sF x h).1
      ·omega
     have adT:∀ x,js=some x→x < w.heap.size:=fun x U=>eu x (SS x U).1.1.1
     have anT:b < w.heap.size:=eu b JI.1.1;simp only [go_sem,simprocAttr,ak,bh,b3,fP,cell_of kn];refine aX rfl (fun eh=>?_) (fun eh=>?_)
     ·have hy:fy old q=true:=by simpa [fy] using eh
      obtain ⟨pq,rfl⟩:∃ pq:Nat,q=pq:=⟨q.toNat,by omega⟩;simp only [go_sem,simprocAttr,ak,bh,b3,e2]
      have mq:=qg hw (((ai ns p).args.take i).filter (fy old)) adS (JZ (by
       rw [bK,List.all_eq_true] at bQ ⊢
       exact fun x U=>bQ x (List.mem_of_mem_take U)) _)
      have yd:di ns old (ly ns old O1 k) (((ai ns p).args.take (i+1)).filter (fy old))=gk ns old (di ns old (ly ns old O1 k) (((ai ns p).args.take i).filter (fy old))) pq:=by
       rw [SH bS,hq,hy,if_pos rfl,SI];rfl
      refine ao (by rfl) ?_;have ja:Mod (fun _=>False) w9 w9.drew:=⟨Nat.le_refl _,fun _ _ _=>rfl,rfl,rfl,rfl⟩;refine (R3 w9.drew bm a bo br bn ns hw hn old ho _ Cq uc (rl ud ja (fun h=>h) (fun h=>h) (fun h=>h) (fun _ _ h=>h)) mq pq (by omega)).mono ?_;rintro r fM ⟨rfl,adU,Kf,Kg,ep,Kh⟩;have ep:Mod (fun x=>x=bm∨x=bn∨uc=some x) w9 fM:=ep.dj;have Kh:∀ x,Kf=some x→uc=some x∨w9.heap.size≤x:=Kh
      have adV:fM.heap[b]? = w9.heap[b]?:=ep.old b (World.block_lt_of_cell? w9 _ e2) (fun hh=>by
       rcases hh with hh | hh | hh
       ·omega
       ·omega
       ·have:=yb b hh;omega)
      have SW:=ep.size;have s9:=dq.size;refine σ ?_;refine ⟨adV,?_⟩;have SX:∀ x,x < w.heap.size→¬ (x=bm∨x=bn∨uc=some x):=fun x U hh=>by
       rcases hh with hh | hh | hh
       ·omega
       ·omega
       ·have:=yb x hh;omega
      have adW:=adw Cr ep (fun x U=>SX x (eu x U.1.1));have SY:=adT bv Af;have adX:=ep.at Fa (SX bv SY);refine bL (off:=i) rfl rfl adX rfl tQ ?_;intro jI ru hZ B9;have iu:dD ns old (gk ns old (di ns old (ly ns old O1 k) (((ai ns p).args.take i).filter (fy old))) pq) pq=dD ns old O pq:=by
       refine (Cg ?_ (RX ns old _ pq)).symm;rw [← yd];exact (adD ns old _ _ _).trans SR
      rw [iu] at ru;have vX:=mn jI _ ru
      have SZ:=SE adW (args':=kX ns old O (ai ns p).args (i+1)) (hZ.aB (fun x U=>by rw [Af,U])) (by
       rw [J8 ns old O _ _ (by omega)];have e:=SG ns old O (ai ns p).args bS;rw [hq,hy,if_pos rfl] at e;rw [← e]
       exact vX)
      rw [sE _ _ _ _ (by rw [qh];exact iK),if_pos rfl,List.set_set] at SZ;simp only [go_sem,simprocAttr,zO];have S0:∀ x,Kf=some x→iF=some x∨w7.heap.size≤x:=fun x U=>by
       rcases Kh x U with h | h
       ·exact x9 x h
       ·exact .inr (by omega)
      refine ⟨_,?_,i+1,adU,Kf,rfl,bS,?_,SZ,(dq.step ep (fun x U ah=>?_)).step hZ (fun x U _=>?_),S0,rfl⟩
      ·omega
      ·rw [yd]
       exact rl Kg hZ (by omega) (by omega) (by omega) (fun x U hh=>by
        rcases S0 x U with h | h
        ·have:=sF x h;omega
        ·omega)
      ·rcases U with U | U | U
       ·exact .inr (.inl U)
       ·exact .inr (.inr (.inl U))
       ·rcases x9 x U with h | h
        ·exact .inr (.inr (.inr h))
        ·omega
      ·subst U;exact .inl (SS _ Af).1
     ·have hy:fy old q=false:=by simpa [fy] using eh
      simp only [go_sem,simprocAttr,zO];refine ⟨_,?_,i+1,Cq,uc,rfl,bS,?_,?_,dq,x9,rfl⟩
      ·omega
      ·rw [SH bS,hq,hy]
       simpa using ud
      ·rw [adz _ _ _ _ bS (by rw [hq];exact hy)];exact Cr
    ·have bS:i=(ai ns p).args.length:=by simp at cy;omega
     subst bS;rw [List.take_length] at ud;have iT:=J9 ns old O1 dS;rw [hp] at iT;rw [← iT] at ud;have JP:(eL ns old O ((cU ns old).take k)).set p ⟨(ai ns p).kind,(ai ns p).num,kX ns old O (ai ns p).args (ai ns p).args.length⟩=eL ns old O ((cU ns old).take (k+1)):=by
      rw [ady,List.take_succ_eq_append_getElem dS,hp,adu _ _ _ _ iK]
     rw [JP] at Cr;refine σ ?_;exact ⟨Cq,uc,ud,SD Cr,dq,x9⟩
   rintro ρ w9 ⟨Cq,uc,ud,Ki,dq,x9,r0,r5,r6,Cs,Ct,r41⟩;simp only [go_sem,simprocAttr,r0,r5,r6,Cs,Ct,r41,rj];exact ⟨_,by omega,k+1,Cq,uc,rfl,dS,ud,Ki,dq,x9,rfl⟩
  ·have dS:k=(cU ns old).length:=by simp at hc;omega
   subst dS;rw [List.take_length] at Cn;rw [SM] at xZ;refine σ ?_;exact ⟨vk,fk,xZ,Cn,bY,pe⟩
 rintro ρ w8 ⟨vk,fk,xZ,Cn,bY,pe,r0,r5,r6⟩
 have en:=bY.at cj (fun hh=>by
  rcases hh with hh | hh | hh | hh
  ·exact hh.1.2 rfl
  ·omega
  ·omega
  ·have:=sF a hh;omega)
 have anU:bo≠bm:=fun hh=>by
  have h:=ik.of;rw [hh] at h;exact mc h ik.cells (by decide)
 have adY:gi w7 br R:=by
  have h5:gi w5 br R:=dO hT.ring ay (fun hh=>by
   rcases hh with hh | hh | hh
   ·exact SN hh
   ·exact EJ hh
   ·cases hh)
  exact dO h5 iI (fun h=>h)
 have adZ:gi w8 br R:=dO adY bY (fun hh=>by
  rcases hh with hh | hh | hh | hh
  ·have:=eu br hh.1.1;omega
  ·exact SN hh
  ·exact EJ hh
  ·have:=sF br hh;omega)
 have s8:=bY.size;simp only [go_sem,simprocAttr,r0,r5,r6,cell_of xZ.cells];refine ZJ (t:=200) (kt:=3) (et:=3) rfl Tryz.underlying200 adZ ?_;intro w9 ad0 dq zN;have s9:=dq.size;have ud:=rl xZ dq (fun h=>h) (fun h=>h) (fun h=>h) (fun _ _ h=>h);have Ki:=q9 Cn dq (fun _ _ h=>h);have kn:=dq.at en (fun h=>h);have yb:∀ x,fk=some x→w3.heap.size≤x:=fun x U=>by
  rcases pe x U with h | h
  ·exact (sF x h).1
  ·omega
 have ad1:∀ x,fk=some x→x < w8.heap.size:=fun x U=>xZ.met.lt U
 refine σ ?_
 refine JG (fun ρ w'=>ko 104 w' cv (kW ns (eL ns old O (cU ns old)) old [] R) (fun x=>(F x∧x≠a)∧x≠mb) ∧
     Mod (fun x=>((F x∧x≠a)∧x≠mb)∨x=w8.heap.size) w9 w' ∧
     ρ.get 0=some (.pointer (some ⟨a,0,none⟩))∧ρ.get 5=some (.pointer (some ⟨bm,0,none⟩))∧ρ.get 6=some (.slice pS roots.length pU)) ?_ ?_
 ·refine dz (fun m ρ w' => ∃ left : List (Int × Int), m = left.length ∧ (left.map (fun q => q.1)).Nodup ∧ (∀ q ∈ left, q ∈ R) ∧ zv w' w8.heap.size br R left ∧ ko 104 w' cv (kW ns (eL ns old O (cU ns old)) old left R) (fun x => (F x ∧ x ≠ a) ∧ x ≠ mb) ∧
      Mod (fun x=>((F x∧x≠a)∧x≠mb)∨x=w8.heap.size) w9 w' ∧
      ρ.get 0=some (.pointer (some ⟨a,0,none⟩))∧ρ.get 5=some (.pointer (some ⟨bm,0,none⟩))∧ρ.get 6=some (.slice pS roots.length pU)∧ρ.get 83=some (.pointer (some ⟨w8.heap.size,0,none⟩))) R.length
   ⟨R,rfl,hT.nd,(fun _ h=>h),ad0,by rw [adv _ _ (qh _ _ _ _)];exact Ki,Mod.refl _ _,rfl,rfl,rfl,rfl⟩ ?_
  rintro m ρ fM ⟨left,rfl,b9,vh,Io,Cu,ep,r0,r5,r6,S1⟩;unfold P9;simp only [go_sem,simprocAttr,r0,r5,r6,S1];refine ZL S1 Io (by omega) (fun hl=>?_) (fun i hi jI S2 ad4 hZ B9=>?_)
  ·subst hl;refine σ ?_;exact ⟨Cu,ep⟩
  ·refine σ ?_;refine ZN rfl ad4 ?_;have SW:=ep.size;have S3:=vh _ (List.getElem_mem hi);obtain ⟨j,hj,qU,vx⟩:=(hT.keys left[i].1).1 (List.mem_map.2 ⟨_,S3,rfl⟩);obtain ⟨p,hp⟩:∃ p,over ns j=p:=⟨_,rfl⟩;rw [hp] at qU vx;have iK:p < ns.length:=hp ▸ pW (eX hw) hj;have jW:over ns p=p:=by rw [← hp];exact qT (eX hw) hj
   have hR:(p:Int)∈R.map (fun q=>q.1):=by rw [← qU];exact List.mem_map.2 ⟨_,S3,rfl⟩
   have vz:=adF (ns:=ns) (l:=eL ns old O (cU ns old)) (old:=old) (R:=R) b9 hi qU hR iK;have Kj:Mod (fun x=>((F x∧x≠a)∧x≠mb)∨x=w8.heap.size) w9 jI:=ep.step hZ (fun x U _=>.inr U);have S4:=(SK b9 hi).1;have S5:∀ q∈left.eraseIdx i,q∈R:=fun q hq=>vh q (List.mem_of_mem_eraseIdx hq)
   have S6:(left.eraseIdx i).length < left.length:=by rw [List.length_eraseIdx,if_pos hi];omega
   have ru:=Kj.at kn (fun hh=>by
    rcases hh with hh | hh
    ·exact hh.1.2 rfl
    ·omega)
   have Fb:=q9 Cu hZ (fun x U hh=>by have:=eu x U.1.1;omega);simp only [go_sem,simprocAttr,cell_of ru,qU];refine aX rfl (fun hc=>?_) (fun hc=>?_)
   ·have kS:p < old:=by simpa using hc
    rw [if_pos kS] at vz;obtain ⟨b,c,v8,js,Co⟩:=SC Fb (p:=p) (by rw [og];exact iK);obtain ⟨vM,JI,d0,d1,d2,oo,SQ⟩:=J7 Co;rw [og] at vM;subst vM;have lY:(p:Int)∈left.map (fun q=>q.1):=by rw [← qU];exact List.mem_map.2 ⟨_,List.getElem_mem hi,rfl⟩
    have S7:ai (kW ns (eL ns old O (cU ns old)) old left R) p=ai (eL ns old O (cU ns old)) p:=by
     rw [ua _ _ _ _ _ iK,if_neg (fun hh=>hh.2.2 lY)]
    have vY:(ai ns p).kind=5:=by simpa [ind] using vx
    have Ag:=(iW hw iK).1;simp only [Nd.may,gP,vY,decide_eq_true_eq] at Ag;have S8:(ai ns p).args.length=1:=by omega
    have Fc:(ai (eL ns old O (cU ns old)) p).args.length=1∧(ai (eL ns old O (cU ns old)) p).kind=(ai ns p).kind∧(ai (eL ns old O (cU ns old)) p).num=(ai ns p).num:=by
     rw [tZ _ _ _ _ iK]
     split
     ·exact ⟨by simp [ku,S8],rfl,rfl⟩
     ·exact ⟨S8,rfl,rfl⟩
    rw [S7] at oo d0 d1;rw [Fc.1] at oo;obtain ⟨bv,cvv,cs,rfl,Af,Fa,tQ,iT,mn⟩:=E7 oo (i:=0) (by omega);have b2:(0:Int)≤(p:Nat)∧((p:Nat):Int) < ns.length:=by omega
    have b3:(0:Int)≤0∧(0:Int) < ((1:Nat):Int):=by omega
    simp only [go_sem,simprocAttr,ak,bh,cell_of ru,b2,d2,b3];refine bL (off:=0) rfl rfl Fa rfl tQ ?_;intro ry a7 dG Fe;have ue:=mn ry _ a7;have e1:(ai (eL ns old O (cU ns old)) p).args.set 0 (p:Int)=[(p:Int)]:=by
     have:=Fc.1
     match h:(ai (eL ns old O (cU ns old)) p).args with
     | [x]=>rfl
     | []=>rw [h] at this;simp at this
     | x::y::l=>rw [h] at this;simp at this
    rw [e1] at ue;have S9:=SE Co (args':=[(p:Int)]) (dG.aB (fun x U=>by rw [Af,U])) ue;rw [S7,Fc.2.1,Fc.2.2,← vz] at S9;have Tb:=SQ bv Af;have SY:=eu bv Tb.1.1.1;refine σ ?_;refine ⟨_,S6,left.eraseIdx i,rfl,S4,S5,ZI S2 dG (by omega) (by omega),?_,Kj.step dG (fun x U _=>.inl (U ▸ Tb.1))⟩;have:=SD S9;exact this
   ·have kS:¬ p < old:=by simpa using hc
    rw [if_neg kS] at vz;refine σ ?_;refine ⟨_,S6,left.eraseIdx i,rfl,S4,S5,S2,?_,Kj⟩;rw [vz];exact Fb
 rintro ρ fM ⟨Cu,ep,r0,r5,r6⟩;have SW:=ep.size
 have vZ:=ep.at kn (fun hh=>by
  rcases hh with hh | hh
  ·exact hh.1.2 rfl
  ·omega)
 have Kg:=rl ud ep (fun hh=>by
  rcases hh with hh | hh
  ·have:=eu _ hh.1.1;omega
  ·omega) (fun hh=>by
  rcases hh with hh | hh
  ·have:=eu _ hh.1.1;omega
  ·omega) (fun hh=>by
  rcases hh with hh | hh
  ·have:=eu _ hh.1.1;omega
  ·omega) (fun x U hh=>by
  have h1:=yb x U;have h2:=ad1 x U;rcases hh with hh | hh
  ·have:=eu _ hh.1.1;omega
  ·omega)
 have ad5:=Sp hw ho SO old (Nat.le_refl _);simp only [go_sem,simprocAttr,r0,r5,r6];refine ao (show eP ρ [.t 5]=some [.pointer (some ⟨bm,0,none⟩)] from by simp only [eP,W.O.ev,r5]) ?_
 refine (Sg fM bm a bo br bn ns (kW ns (eL ns old O (cU ns old)) old [] R) hw hn old ho _ vk fk Kg ad5 _ _ _ _ _ _ _ vZ (zQ Cu) (og _ _ _ _ _) (adK dJ O R) (fun x h1 h2=>adL O R h1 h2) (fun x U hh=>by
  have:=eu x U.1.1;rcases hh with hh | hh | hh
  ·omega
  ·omega
  ·have:=yb x hh;omega)).mono ?_
 rintro q jI ⟨anV,anW,anX,ps,np,ad6,hZ,vX,anY,Cv,Te⟩;rw [vV] at ad6 vX Te;have Kk:∀ x,x < w3.heap.size→x≠bm→x≠bn→¬ (x=bm∨x=bn∨fk=some x):=fun x h1 h2 h3 hh=>by
  rcases hh with hh | hh | hh
  ·exact h2 hh
  ·exact h3 hh
  ·have:=yb x hh;omega
 have s11:=hZ.size;have ru:=hZ.at vZ (Kk a (by omega) (by omega) (by omega));have Fb:=q9 Cu hZ (fun x U=>by have:=eu x U.1.1;exact Kk x (by omega) (by omega) (by omega));obtain ⟨dT,qs,Tf,c1,c2,c3,c4,c5⟩:=Fb;have lY:(kW ns (eL ns old O (cU ns old)) old [] R).length=ns.length:=og _ _ _ _ _;rw [lY] at c1;obtain ⟨ca,cc,rfl,fo,_⟩:=c1.val;obtain ⟨anZ,an0,rfl,_,ad7⟩:=vX.val;have b4:(0:Int)≤old∧(old:Int)≤cc:=by omega
 have b5:(0:Int)≤old∧(old:Int)≤old:=by omega
 have vM:(if old=0 then ca else Option.map (fun x=>x) ca)=ca:=by split<;>simp
 simp only [go_sem,simprocAttr,ak,bh,cell_of ru,b4,b5,vM];have ja:Mod (fun _=>False) jI jI.drew:=⟨Nat.le_refl _,fun _ _ _=>rfl,rfl,rfl,rfl⟩;have Th:qs.length=ns.length:=by rw [← lY,← c4];simp
 have c1d:=(adG c1 ho).mod ja (fun _ _ h=>h);have ad8:=vX.mod ja (fun _ _ h=>h);have Ti:=rm hw ho ct;rw [hO] at Ti;have hlen:=Sm Ti.1 ho;refine gN (m:=O.length) (news:=flat ps) rfl c1d rfl (fun h=>(ad7 h).1) ad8.rd (adH Cv) rfl (by omega) (by omega) ?_;intro v12 ry Kl ue dG ye;have dG:Mod (fun x=>dT=some x) jI ry:=dG.dj;have ye:∀ x,Kl=some x→dT=some x∨x=jI.heap.size∧x < ry.heap.size:=ye;obtain ⟨Tj,Tk,rfl,_,_⟩:=ue.val;have vl:dT≠some a:=jk c1 ru (by decide);have a7:=dG.at ru vl;have Tm:=dG.size;refine σ ?_;refine bL (off:=2) rfl rfl a7 rfl (by simp) ?_;intro wg eS dU an1;have eS:wg.heap[a]? = some (.cells #[I size,I bB,.slice Tj (old+O.length) Tk,I old,.map (some mb),I (IntKind.i64.wrap (times+1))] 202 (0,0)):=eS;simp only [go_sem,simprocAttr,cell_of eS];refine bL (off:=3) rfl rfl eS rfl (by simp) ?_;intro yf kU iJ abx;have kU:yf.heap[a]? = some (.cells #[I size,I bB,.slice Tj (old+O.length) Tk,I (old+O.length:Nat),.map (some mb),I (IntKind.i64.wrap (times+1))] 202 (0,0)):=kU;have ad9:∀ x,x < w3.heap.size→x≠bm→x≠bn→¬ ((F x∧x≠a)∧x≠mb)→¬ (((F x∧x≠a)∧x≠mb)∨x=bm∨x=bn∨iF=some x):=fun x h1 h2 h3 h4 hh=>by
  rcases hh with hh | hh | hh | hh
  ·exact h4 hh
  ·exact h2 hh
  ·exact h3 hh
  ·have:=sF x hh;omega
 have Tn:gi jI mb ld:=dO (dO (dO (dO (dO J5 iI (fun h=>h)) bY (ad9 mb (by omega) (by omega) (by omega) (fun hh=>hh.2 rfl))) dq (fun h=>h)) ep (fun hh=>by
  rcases hh with hh | hh
  ·exact hh.2 rfl
  ·omega)) hZ (Kk mb (by omega) (by omega) (by omega))
 have To:∀ x,dT=some x→mb≠x:=fun x U=>by
  obtain ⟨cs,hc⟩:=su c1 U;exact SJ Tn hc
 have aea:gi yf mb ld:=dO (dO (dO Tn dG (fun hh=>To mb hh rfl)) dU (fun hh=>tX hh.symm)) iJ (fun hh=>tX hh.symm);simp only [go_sem,simprocAttr,cell_of kU];refine PX (t:=200) (kt:=3) (et:=3) rfl rfl Tryz.underlying200 aea ?_;intro Ah jZ Cw an2;have aeb:=Cw.at kU tX;have Km:Mod (fun x=>F x) jI Ah:=(((dG.aB (S':=fun x=>F x) (fun x U=>(c2 x U).1.1)).step dU (fun x U _=>U ▸ g2)).step iJ (fun x U _=>U ▸ g2)).step Cw (fun x U _=>U ▸ g5)
 have aec:Mod (fun x=>F x∨w.heap.size≤x) w7 jI:=((((bY.aB (S':=fun x=>F x∨w.heap.size≤x) (fun x U=>by
  rcases U with U | U | U | U
  ·exact .inl U.1.1
  ·exact .inr (by omega)
  ·exact .inr (by omega)
  ·have:=sF x U;exact .inr (by omega)))).step dq (fun _ h _=>h.elim)).step ep (fun x U _=>by
  rcases U with U | U
  ·exact .inl U.1.1
  ·exact .inr (by omega))).step hZ (fun x U _=>by
  rcases U with U | U | U
  ·exact .inr (by omega)
  ·exact .inr (by omega)
  ·have:=yb x U;exact .inr (by omega))
 have hmF:Mod F w Ah:=((((ag.aB (S':=fun x=>F x) (fun x U=>U ▸ g2)).step B7 (fun _ h _=>h.elim)).step aec (fun x U ah=>U.elim (fun h=>h) (fun h=>by omega)))).step Km (fun x U _=>U);have aed:ax Ah 3 1 (.slice pS roots.length pU) ((roots.map (dD ns old O)).map I) roots.length Ac:=by
  have e:roots.map (dD ns old (di ns old [] roots))=roots.map (dD ns old O):=by
   apply List.map_congr_left;intro y hy;refine (Cg ?_ (xU ns old _ _ y hy)).symm;rw [E9];exact (Sn ns old old O1).trans SP
  rw [← e];have hq:∀ x,Ac=some x→w3.heap.size≤x∧iF≠some x∧x < w5.heap.size:=fun x U=>⟨(xX x U).1,(xX x U).2,iG.lt U⟩
  refine (((((iG.mod iI (fun _ _ h=>h)).mod bY (fun x U hh=>?_)).mod dq (fun _ _ h=>h)).mod ep (fun x U hh=>?_)).mod hZ (fun x U hh=>?_)).mod Km (fun x U hh=>?_)
  ·have:=hq x U;rcases hh with hh | hh | hh | hh
   ·have:=eu x hh.1.1;omega
   ·omega
   ·omega
   ·exact this.2.1 hh
  ·have:=hq x U;rcases hh with hh | hh
   ·have:=eu x hh.1.1;omega
   ·omega
  ·have:=hq x U;rcases hh with hh | hh | hh
   ·omega
   ·omega
   ·rcases pe x hh with h | h
    ·exact this.2.1 h
    ·omega
  ·have:=hq x U;have:=eu x hh;omega
 have pg:(ch ns old roots).length=old+O.length:=by rw [rp,hO]
 have Tp:eR ns old roots=roots.map (dD ns old O):=by unfold eR;rw [hO]
 have hqt:(qs.take old).length=old:=by rw [List.length_take];omega
 have xt:ch ns old roots=(qs.take old++ps).map Prod.fst:=by
  unfold ch;rw [hO,List.map_append,Te,List.map_take,c4,adJ hw ho O hT]
 have yg:∀ j x,j < ps.length→np j=some x→fM.heap.size≤x∧x < jI.heap.size:=fun j x hj U=>⟨(Cv.1 j hj).2 x U,(Cv.1 j hj).1.lt U⟩
 have Ff:∀ j x,j < qs.length→Tf j=some x→F x∧x≠a∧x≠mb:=fun j x hj U=>⟨((c3.1 j hj).2 x U).1.1,((c3.1 j hj).2 x U).1.2,((c3.1 j hj).2 x U).2⟩
 refine ⟨Ac,fun x=>F x∨Kl=some x∨∃ j,j < ps.length∧np j=some x,?_,?_,⟨hmF,fun x U=>?_⟩,fun x U=>?_⟩
 ·rw [Tp];exact aed
 ·rw [pg];refine ⟨_,mb,[],aeb,.inl g2,⟨Kl,qs.take old++ps,_,?_,fun x U=>.inr (.inl U),adm (adl (fp:=Tf) ?_ old) (fq:=np) ?_ (fun i j x hi hj h1 h2=>?_),xt.symm,fun x U=>?_⟩,jZ,.inl g5,?_⟩
  ·rw [vj,pg]
   exact ((ue.mod dU (fun x U hh=>jk ue a7 (by decide) (by rw [U,hh]))).mod iJ (fun x U hh=>jk ue a7 (by decide) (by rw [U,hh]))).mod Cw (fun x U hh=>by
    rcases ye x U with h | h
    ·exact To x h hh.symm
    ·omega)
  ·have h1:=jm c3 dG (fun i x hi U hh=>sw (c3.1 i hi).1 c1 (by decide) U hh);have h2:=jm h1 dU (fun i x hi U hh=>(Ff i x hi U).2.1 hh);have h3:=jm h2 iJ (fun i x hi U hh=>(Ff i x hi U).2.1 hh);have h4:=jm h3 Cw (fun i x hi U hh=>(Ff i x hi U).2.2 hh);exact Jw h4 (fun x U=>.inl U.1.1)
  ·have h1:=jm Cv dG (fun i x hi U hh=>sw (Cv.1 i hi).1 c1 (by decide) U hh);have h2:=jm h1 dU (fun i x hi U hh=>by have:=yg i x hi U;omega);have h3:=jm h2 iJ (fun i x hi U hh=>by have:=yg i x hi U;omega);have h4:=jm h3 Cw (fun i x hi U hh=>by have:=yg i x hi U;omega);exact ⟨fun i hi=>⟨(h4.1 i hi).1,fun x U=>.inr (.inr ⟨i,hi,U⟩)⟩,h4.2⟩
  ·have:=yg j x hj h2;have:=eu x (Ff i x (by rw [hqt] at hi;omega) h1).1;omega
  ·have s15:=Km.size;have an3:=ue;rcases U with U | U | ⟨j,hj,U⟩
   ·have:=eu x U;omega
   ·have:=ue.lt U;omega
   ·have:=yg j x hj U;omega
  ·rw [← pg];exact Ss (Ck hw ho ct)
 ·rcases U with U | U | ⟨j,hj,U⟩
  ·exact .inl U
  ·rcases ye x U with h | h
   ·exact .inl (c2 x h).1.1
   ·exact .inr (by omega)
  ·have:=yg j x hj U;exact .inr (by omega)
 ·have h1:=(xX x U).1;have h2:=iG.lt U;refine ⟨by omega,fun hh=>?_⟩;rcases hh with hh | hh | ⟨j,hj,hh⟩
  ·have:=eu x hh;omega
  ·rcases ye x hh with h | h
   ·have:=eu x (c2 x h).1.1;omega
   ·omega
  ·have:=yg j x hj hh;omega
end
section
open Go Go.W
structure Kn where
 jD:Option (List Int)
 err:Int
 ns:List Nd
 old:Nat
 times:Int
def rz (size n:Int) (ns:List Nd) (roots:List Int) (times:Int):Kn:=if n > size - ns.length then ⟨none,211,ns,ns.length,times⟩ else ⟨some roots,0,ns,ns.length,times⟩
def iL (size bB:Int) (old:Nat) (times:Int) (ns:List Nd) (n:Int) (roots:List Int):Kn:=
 if n < 0 then ⟨none,1,ns,old,times⟩
 else if bK ns.length roots=false then ⟨none,212,ns,old,times⟩
 else if n≤bB - (ns.length - old)∧n≤size - ns.length then ⟨some roots,0,ns,old,times⟩
 else if n > size - (ch ns old roots).length then rz size n (ch (ch ns old roots) 0 (eR ns old roots)) (eR (ch ns old roots) 0 (eR ns old roots)) (IntKind.i64.wrap (IntKind.i64.wrap (times+1)+1))
 else ⟨some (eR ns old roots),0,ch ns old roots,(ch ns old roots).length,IntKind.i64.wrap (times+1)⟩
def aee (At:World→Nat→Int→Int→Nat→Int→List Nd→(Nat→Prop)→Prop) (w:World) (a:Nat) (size bB:Int) (F:Nat→Prop) (s:Kn) (r:Value) (w':World):Prop:=
 ∃ v F',r = .tuple #[v,I s.err]∧At w' a size bB s.old s.times s.ns F'∧Grow F F' w w'∧(s.jD=none→v = .slice none 0 0)∧∀ l,s.jD=some l→∃ fq,ax w' 3 1 v (l.map I) l.length fq∧∀ x,fq=some x→w.heap.size≤x∧¬ F' x
theorem Tq (ns:List Nd) (fr:Nat) (roots:List Int):(eR ns fr roots).length=roots.length:=by simp [eR]
theorem aef (w:World) (a:Nat) (size bB:Int) (old:Nat) (times:Int) (ns:List Nd) (F:Nat→Prop) (h:iZ w a size bB old times ns F) (ho:old≤ns.length) (hw:WF ns) (hn:ns.length≤1048576) (hs:0≤size∧size≤1048576) (hy:0≤bB∧bB≤1048576) (n:Int) (v:Value) (roots:List Int) (U:Ints w v roots)
   (hv:roots≠[]→∀ x,jS v=some x→¬ F x) (pc:roots.length≤17592186044416) :
   aD Tryz.prog 190 [.pointer (some ⟨a,0,none⟩),I n,v] w (aee iZ w a size bB F (iL size bB old times ns n roots)):=by
 obtain ⟨va,vc,rfl,_,_⟩:=id U;have same:∀ w',Mod (fun _=>False) w w'→iZ w' a size bB old times ns F∧Grow F F w w':=fun w' hm=>
  ⟨kq h hm (fun _ _ h=>h),hm.aB (fun _ h=>h.elim),fun b hb=>.inl hb⟩
 refine aaf.calls rfl ?_;unfold IL;refine σ ?_;refine aX rfl (fun hc=>?_) (fun hc=>?_)
 ·have bE:n < 0:=by simpa using hc
  have e:iL size bB old times ns n roots=⟨none,1,ns,old,times⟩:=by unfold iL;rw [if_pos bE]
  rw [e];refine σ ?_;exact ⟨_,F,rfl,(same w (Mod.refl _ _)).1,(same w (Mod.refl _ _)).2,fun _=>rfl,fun l hl=>by cases hl⟩
 have dk:¬ n < 0:=by simpa using hc
 refine σ ?_;refine δ (by rfl) (zS w a ns.length old _ roots (vA h) U) ?_;rintro r w1 ⟨rfl,ag⟩;refine σ ?_;refine aX rfl (fun hc=>?_) (fun hc=>?_)
 ·have bE:bK ns.length roots=false:=by simpa using hc
  have e:iL size bB old times ns n roots=⟨none,212,ns,old,times⟩:=by unfold iL;rw [if_neg dk,if_pos bE]
  rw [e];refine σ ?_;exact ⟨_,F,rfl,(same w1 ag).1,(same w1 ag).2,fun _=>rfl,fun l hl=>by cases hl⟩
 have cy:bK ns.length roots=true:=by simpa using hc
 have h1:=kq h ag (fun _ _ h=>h);have hU:=U.mod ag (fun _ _ h=>h);obtain ⟨cv,mb,ld,g1,g2,g3,g4,g5,g6⟩:=id h1;obtain ⟨ca,cc,rfl⟩:=B0 g3;have k1:IntKind.i64.wrap ((ns.length:Int) - old)=ns.length - old:=by rw [bU]<;>omega
 have k2:IntKind.i64.wrap (bB - ((ns.length:Int) - old))=bB - (ns.length - old):=by rw [bU]<;>omega
 have k3:IntKind.i64.wrap (size - (ns.length:Int))=size - ns.length:=by rw [bU]<;>omega
 have ja:Mod (fun _=>False) w1 w1.drew:=⟨Nat.le_refl _,fun _ _ _=>rfl,rfl,rfl,rfl⟩;simp only [go_sem,simprocAttr,cell_of g1,k1,k2,k3];refine gz (fun ρ w'=>w1.drew=w'∧ρ.get 0=some (.pointer (some ⟨a,0,none⟩))∧ρ.get 1=some (I n)∧ρ.get 2=some (.slice va roots.length vc)∧ρ.get 44=some (.bool (decide (n≤bB - ((ns.length:Int) - old))&&decide (n≤size - (ns.length:Int))))) ?_ ?_
 ·refine tG rfl (fun hg=>?_) (fun hg=>?_)
  ·simp only [go_sem,simprocAttr,hg,cell_of g1,k3]
  ·simp only [go_sem,simprocAttr,hg,Bool.false_and]
 rintro ρ _ ⟨rfl,r0,r1,r2,Ai⟩;simp only [go_sem,simprocAttr,r0,r1,r2,Ai];refine aX rfl (fun hc=>?_) (fun hc=>?_)
 ·have eh:n≤bB - ((ns.length:Int) - old)∧n≤size - (ns.length:Int):=by simpa using hc
  have e:iL size bB old times ns n roots=⟨some roots,0,ns,old,times⟩:=by unfold iL;rw [if_neg dk,if_neg (by simp [cy]),if_pos eh]
  rw [e];refine σ ?_;refine δ (by rfl) (zP _ roots w1.drew (hU.mod ja (fun _ _ h=>h))) ?_;rintro q w2 ⟨ae,f2,o2,n2⟩;obtain ⟨va2,vc2,rfl,_,_⟩:=o2.val;have uf:=ja.trans ae;have s1:=ag.size;have s2:=ae.size;have Aj:w1.drew.heap.size=w1.heap.size:=rfl;refine σ ?_;refine ⟨_,F,rfl,(same w2 (ag.trans uf)).1,(same w2 (ag.trans uf)).2,fun h=>(by cases h),fun l hl=>?_⟩;cases hl;refine ⟨f2,o2,fun x U=>?_⟩;have:=n2 x U;exact ⟨by omega,fun hh=>by have:=zR h x hh;omega⟩
 have eh:¬ (n≤bB - ((ns.length:Int) - old)∧n≤size - (ns.length:Int)):=by simpa using hc
 have aeg:=hU.mod ja (fun _ _ h=>h);have Ko:=kq h1 ja (fun _ _ h=>h);have sw1:w1.drew.heap.size=w1.heap.size:=rfl;have s1:=ag.size;have aeh:=ag.trans ja;refine σ ?_;refine δ (by rfl) (adO w1.drew a size bB old times ns F Ko ho hw hn _ roots aeg cy hv pc) ?_;rintro q w2 ⟨Tr,F2,o2,a2,Ts,fQ⟩;obtain ⟨va2,vc2,rfl,_,_⟩:=o2.val;have q0:=Ck hw ho cy;have gv:=J1 hw ho cy;obtain ⟨N1,Kq⟩:∃ N1,ch ns old roots=N1:=⟨_,rfl⟩;obtain ⟨R1,Fg⟩:∃ R1,eR ns old roots=R1:=⟨_,rfl⟩;have Tt:R1.length=roots.length:=by rw [← Fg];exact Tq _ _ _
 have zZ:=Sr hw ho cy;rw [Kq] at a2 q0 gv zZ;rw [Fg] at o2 zZ;obtain ⟨cv2,mb2,ld2,j1,j2,j3,j4,j5,j6⟩:=id a2;obtain ⟨ca2,cc2,rfl⟩:=B0 j3;have k4:IntKind.i64.wrap (size - (N1.length:Int))=size - N1.length:=by rw [bU]<;>omega
 have Kr:Mod (fun _=>False) w2 w2.drew:=⟨Nat.le_refl _,fun _ _ _=>rfl,rfl,rfl,rfl⟩;have Ak:Grow F F2 w w2:=⟨(aeh.aB (fun _ h=>h.elim)).trans Ts.1,fun x U=>(Ts.2 x U).imp (fun h=>h) (fun h=>by omega)⟩;simp only [go_sem,simprocAttr,cell_of j1,k4];refine aX rfl (fun hc=>?_) (fun hc=>?_)
 ·have ph:n > size - (N1.length:Int):=by simpa using hc
  have e:iL size bB old times ns n roots=rz size n (ch N1 0 R1) (eR N1 0 R1) (IntKind.i64.wrap (IntKind.i64.wrap (times+1)+1)):=by
   unfold iL;rw [if_neg dk,if_neg (by simp [cy]),if_neg eh,Kq,Fg,if_pos ph]
  rw [e];have o2d:=o2.mod Kr (fun _ _ h=>h);have im:=(o2d.ints (by omega)).1;refine σ ?_;refine δ (by rfl) (Sx w2.drew a size bB _ _ N1 F2 (kq a2 Kr (fun _ _ h=>h)) q0 (by omega) _ R1 im zZ (fun bq x U hh=>?_) (by omega)) ?_
  ·cases mz:Tr with
   | none=>
    rcases o2.2 with ⟨_,h0,_⟩ | ⟨b',c',sp,e1,e2,_⟩
    ·rw [← Tt] at h0;exact bq (List.eq_nil_of_length_eq_zero h0)
    ·rw [mz] at e2;cases e2
   | some y=>
    rcases o2.2 with ⟨_,_,e2⟩ | ⟨b',c',sp,e1,e2,_⟩
    ·rw [mz] at e2;cases e2
    ·rw [e1] at U;simp only [jS,Option.some.injEq] at U;exact (fQ x (by rw [e2,U])).2 hh
  rintro q w3 ⟨fq3,F3,o3,a3,Tu,nt⟩;obtain ⟨va3,vc3,rfl,_,_⟩:=o3.val;have lA:=J1 q0 (Nat.zero_le _) zZ;obtain ⟨N2,Tv⟩:∃ N2,ch N1 0 R1=N2:=⟨_,rfl⟩;obtain ⟨R2,wh⟩:∃ R2,eR N1 0 R1=R2:=⟨_,rfl⟩;have aei:R2.length=R1.length:=by rw [← wh];exact Tq _ _ _
  rw [Tv] at a3 lA;rw [wh] at o3;rw [Tv,wh];obtain ⟨cv3,mb3,ld3,i1,i2,i3,i4,i5,i6⟩:=id a3;obtain ⟨ca3,cc3,rfl⟩:=B0 i3;have k5:IntKind.i64.wrap (size - (N2.length:Int))=size - N2.length:=by rw [bU]<;>omega
  have Cx:Mod (fun _=>False) w3 w3.drew:=⟨Nat.le_refl _,fun _ _ _=>rfl,rfl,rfl,rfl⟩;have sw2:w2.drew.heap.size=w2.heap.size:=rfl;have s2:=Ak.1.size
  have Fh:Grow F F3 w w3:=⟨Ak.1.step (Kr.aB (S':=F2) (fun _ h=>h.elim) |>.trans Tu.1) (fun x U ah=>(Ak.2 x U).elim (fun h=>h) (fun h=>by omega)),fun x U=>by
   rcases Tu.2 x U with h | h
   ·exact Ak.2 x h
   ·exact .inr (by omega)⟩
  simp only [go_sem,simprocAttr,cell_of i1,k5];refine aX rfl (fun hc=>?_) (fun hc=>?_)
  ·have gU:n > size - (N2.length:Int):=by simpa using hc
   refine σ ?_;have e:rz size n N2 R2 (IntKind.i64.wrap (IntKind.i64.wrap (times+1)+1))=⟨none,211,N2,N2.length,IntKind.i64.wrap (IntKind.i64.wrap (times+1)+1)⟩:=by unfold rz;rw [if_pos gU]
   rw [e];exact ⟨_,F3,rfl,kq a3 Cx (fun _ _ h=>h),⟨Fh.1.trans (Cx.aB (fun _ h=>h.elim)),Fh.2⟩,fun _=>rfl,fun l hl=>by cases hl⟩
  ·have gU:¬ n > size - (N2.length:Int):=by simpa using hc
   refine σ ?_;have e:rz size n N2 R2 (IntKind.i64.wrap (IntKind.i64.wrap (times+1)+1))=⟨some R2,0,N2,N2.length,IntKind.i64.wrap (IntKind.i64.wrap (times+1)+1)⟩:=by unfold rz;rw [if_neg gU]
   rw [e];refine ⟨_,F3,rfl,kq a3 Cx (fun _ _ h=>h),⟨Fh.1.trans (Cx.aB (fun _ h=>h.elim)),Fh.2⟩,fun h=>(by cases h),fun l hl=>?_⟩;cases hl;refine ⟨fq3,?_,fun x U=>⟨by have:=(nt x U).1;omega,(nt x U).2⟩⟩;rw [aei];exact o3.mod Cx (fun _ _ h=>h)
 ·have ph:¬ n > size - (N1.length:Int):=by simpa using hc
  have e:iL size bB old times ns n roots=⟨some R1,0,N1,N1.length,IntKind.i64.wrap (times+1)⟩:=by
   unfold iL;rw [if_neg dk,if_neg (by simp [cy]),if_neg eh,Kq,Fg,if_neg ph]
  rw [e];have qF:Mod (fun _=>False) w2 w2.drew.drew:=⟨Nat.le_refl _,fun _ _ _=>rfl,rfl,rfl,rfl⟩;simp only [go_sem,simprocAttr,cell_of j1,k4];refine aX rfl (fun hc=>?_) (fun hc=>?_)
  ·exact absurd (by simpa using hc) ph
  refine σ ?_;refine ⟨_,F2,rfl,kq a2 qF (fun _ _ h=>h),⟨Ak.1.trans (qF.aB (fun _ h=>h.elim)),Ak.2⟩,fun h=>(by cases h),fun l hl=>?_⟩;cases hl;refine ⟨Tr,?_,fun x U=>⟨by have:=(fQ x U).1;omega,(fQ x U).2⟩⟩;rw [Tt];exact o2.mod qF (fun _ _ h=>h)
end
section
open Go Go.W Go.W.Z
def Tw:IR:=.seq (z [n 11 0,f 12 15 11,l 13 12,bk 14 .eql 13 0,m' 14 true 16 0,n' 14 true 17 16,f' 14 true 18 14 17,l' 14 true 19 18,m' 14 true 20 5,eW 14 true 21 .sub 19 20,m' 14 true 22 1,eW 14 true 23 .lss 21 22,a 24 14 23] [0,1,5,24] <| j 24 (.skip) ((.exit 0))) <| .block 1 (q [c 26 45 [0]] [0,1,5])
def Ks:IR:=z [] [0,1] <| z [n 7 0,f 8 14 7,l 9 8,m 5 9] [0,1,5] <| .seq (.block 0 (.loop Tw)) <| z [n 28 0,f 29 14 28,l 30 29,bi 32 .sub 30 5,m 4 32] [4] <| .ret
theorem aej:Fits Tryz.prog 24 2 (bb Tryz.f24 Ks) Ks [.t 4] 33:=.m Tryz.f24 _
def Kt:IR:=z [.e (some 2) (.al 37 (.agg #[(i 0),(.slice none 0 0),(i 0),(i 0),(i 0),(i 0),(i 0),(.string ⟨#[]⟩)]))] [0,2] <| .seq (.dr (r 0 4 (.mv (.t 0)) <| r 1 5 (.nn (.t 4)) <| r 2 6 (.fa 15 (.t 5)) <| r 3 7 (.l1 (.t 6)) <| r 4 8 (.mv (.t 0)) <| r 6 10 (.mv (.t 0)) <| r 7 11 (.nn (.t 10)) <| r 8 12 (.fa 16 (.t 11)) <| r 9 13 (.l1 (.t 12)) <| r 10 14 (.mv (.t 0)) <| r 11 15 (.nn (.t 14)) <| r 12 16 (.fa 14 (.t 15)) <| r 13 17 (.l1 (.t 16)) <| .e2 5 (some 9) (.call 41 [(.t 8)]) [3,9,13] (r 14 18 (.bd #[(i 0),(.slice none 0 0),(i 0),(i 0),(i 0),(i 0),(i 0),(.string ⟨#[]⟩)] [(0,1,(.t 7)),(1,1,(.t 9)),(2,1,(.t 13)),(3,1,(.t 17))]) <| .e 15 none (some 3) (.al 37 (.agg #[(i 0),(.slice none 0 0),(i 0),(i 0),(i 0),(i 0),(i 0),(.string ⟨#[]⟩)])) [3,9,13] <| .e 16 none none (.st 8 (.t 3) (.t 18)) [] <| .nil) 15 (some 3) (.al 37 (.agg #[(i 0),(.slice none 0 0),(i 0),(i 0),(i 0),(i 0),(i 0),(.string ⟨#[]⟩)])) [3,9,13]
   (.e 5 none (some 9) (.call 41 [(.t 8)]) [3,9,13] <| r 14 18 (.bd #[(i 0),(.slice none 0 0),(i 0),(i 0),(i 0),(i 0),(i 0),(.string ⟨#[]⟩)] [(0,1,(.t 7)),(1,1,(.t 9)),(2,1,(.t 13)),(3,1,(.t 17))]) <| .e 16 none none (.st 8 (.t 3) (.t 18)) [] <| .nil)) [0,2,3]) <| .seq (z [n 20 0,f 21 15 20,l 22 21,bk 23 .eql 22 0] [2,3,23] <| j 23 (q [f 24 0 3,.e none (.st 1 (.t 24) (k 4))] [2,3]) (.skip)) <| z [ln 25 8 3,s 8 2 25] [2] <| .ret
theorem aek:Fits Tryz.prog 25 1 (bb Tryz.f25 Kt) Kt [.n 2 8] 26:=.m Tryz.f25 _
def Ku:IR:=z [] [0] <| z [n 4 0,f 5 13 4,l 6 5,c 7 66 [6],c 8 65 [7],m 2 8] [2] <| .ret
theorem ael:Fits Tryz.prog 41 1 (bb Tryz.f41 Ku) Ku [.t 2] 9:=.m Tryz.f41 _
def Tx:IR:=z [bi 69 .lss 68 67] [11,12,15,67,68,69] <| .seq (j 69 (.skip) ((.exit 1))) <| .seq (.block 2 (z [m 16 68] [11,12,15,16,67,68] <| z [m 72 12,m 73 16,.r (some 74) (.bd #[(i 0),(i 0),(.slice none 0 0)] [(0,1,(k 4)),(1,1,(.t 73))]),.e (some 75) (.raw ⟨(some 75),(.call { callee:=(.invoke (.tmp 72) "Add"),args:=#[(.tmp 74)],argTypes:=#[104]}),105, "machine.go:104",#[⟨0,.data⟩,⟨2,.data⟩],none⟩),m 71 75,ex 76 0 71,ex 77 1 71,m 17 76,m 18 77] [11,12,15,17,18,67,68] <| .seq (z [bk 79 .neq 18 0] [11,12,15,17,67,68,79] <| j 79 (z [n 82 15,f 83 15 82,.e none (.st 1 (.t 83) (k 5)),n 84 15,f 85 9 84,.e none (.st 1 (.t 85) (.c (.slice none 0 0)))] [15] <| z [m 8 15,mk 9 0] [8,9] <| .ret) (.skip)) <| q [n 89 15,f 90 9 89,l 91 90,.e (some 93) (.bs 3 1 #[(i 0)] [(0,1,(.t 17))]),.e (some 94) (.ap 3 1 8 #[(i 0)] (.t 91) (.t 93)),n 95 15,f 96 9 95,s 1 96 94] [11,12,15,67,68])) <| q [bk 97 .add 68 1,m 68 97] [11,12,15,67,68]
def Kv:IR:=z [.e (some 4) (.bx 25 (.t 0)),.e (some 5) (.bx 9 (.t 1)),.e (some 7) (.bx 28 (.t 3))] [2,4,5,7] <| .seq (.block 0 (z [le 21 2,bk 22 .gtr 21 10000,m 19 22] [2,4,5,7,19] <| j 19 (z [.r (some 8) (.mv (.c (.pointer none))),mk 9 2] [8,9] <| .ret) (.seq (z [.e (some 25) (.call 70 [(.t 2),(.c (.func (.func 71) #[] #[]))]),m 23 25] [2,4,5,7,23] <| j 23 (.skip) (z [f 26 0 7,l 27 26,bk 28 .lss 27 1,m 23 28] [2,4,5,7,23] <| j 23 (.skip) (z [f 29 0 7,l 30 29,bk 31 .gtr 30 1048576,m 23 31] [2,4,5,7,23] <| j 23 (.skip) (q [f 32 2 7,l 33 32,bk 34 .lss 33 0,m 23 34] [2,4,5,7,23])))) <| j 23 (z [.r (some 8) (.mv (.c (.pointer none))),mk 9 1] [8,9] <| .ret) (.skip)))) <| .seq (z [ln 35 2 4,c 36 73 [35],m 10 36] [2,4,5,7,10] <| z [bk 38 .neq 10 0] [2,4,5,7,10,38] <| j 38 (z [.r (some 8) (.mv (.c (.pointer none))),m 9 10] [8,9] <| .ret) (.skip)) <| z [f 40 1 4,l 41 40,.r (some 42) (.mf (.func 75) [] [(.t 5)]),c 43 74 [41,42],m 11 43] [2,4,7,11] <| .seq (z [bk 45 .lss 11 0] [2,4,7,11,45] <| j 45 (z [.r (some 8) (.mv (.c (.pointer none))),mk 9 220] [8,9] <| .ret) (.skip)) <| z [ln 47 3 7,c 48 76 [47],ex 49 0 48,ex 50 1 48,ex 51 2 48,m 12 49,m 13 50,m 14 51] [2,4,7,11,12,13,14] <| .seq (z [bk 53 .neq 14 0] [2,4,7,11,12,13,14,53] <| j 53 (z [.r (some 8) (.mv (.c (.pointer none))),m 9 14] [8,9] <| .ret) (.skip)) <| .seq (.dr (r 0 55 (.ln 2 (.t 4)) <| r 2 57 (.mv (.t 2)) <| r 4 59 (.ln 3 (.t 7)) <| r 5 60 (.mv (.t 12)) <| r 6 61 (.mv (.t 13)) <| .e 1 none (some 56) (.call 77 [(.t 55)]) [4] <| .e 3 none (some 58) (.call 39 [(.t 57)]) [4] <| .e 7 none (some 62) (.call 78 []) [4] <| r 8 63 (.bd #[(.slice none 0 0),(.slice none 0 0),(.slice none 0 0),(i 0),(.bool false),(i 0),.nilIface,(i 0),(i 0),(.slice none 0 0),(.slice none 0 0),(.slice none 0 0),(.bool false),(.slice none 0 0),(i 0),(i 0),(i 0),(i 0),(.slice none 0 0)] [(0,2,(.t 56)),(2,1,(.t 58)),(3,3,(.t 59)),(6,1,(.t 60)),(7,1,(.t 61)),(18,1,(.t 62))]) <| .e 9 none (some 64) (.bx 113 (.t 63)) [] <| r 10 15 (.mv (.t 64)) <| .nil) [4,11,12,15]) <| .seq (z [f 65 1 4,l 66 65,le 67 66,mk 68 0] [11,12,15,67,68] <| .block 1 (.loop Tx)) <| z [n 100 15,f 101 9 100,l 102 101,ia 104 1 102 11,l 105 104,.e (some 106) (.bs 3 1 #[(i 0)] [(0,1,(.t 105))]),n 107 15,f 108 11 107,s 1 108 106] [15] <| z [m 8 15,mk 9 0] [8,9] <| .ret
theorem aem:Fits Tryz.prog 44 4 (bb Tryz.f44 Kv) Kv [.t 8,.t 9] 110:=.m Tryz.f44 _
def Kw:IR:=z [] [0] <| .seq (z [n 7 0,f 8 15 7,l 9 8,bk 10 .neq 9 0] [0,10] <| j 10 (z [mk 2 0,mk 3 221] [2,3] <| .ret) (.skip)) <| .seq (.block 0 (z [n 27 0,f 28 10 27,l 29 28,le 30 29,bk 31 .eql 30 0,m 25 31] [0,25] <| j 25 (q [c 33 79 [0]] [0]) (.seq (q' [m 35 0,n 36 35,f 37 10 36,l 38 37,m 39 0,n 40 39,f 41 10 40,l 42 41,le 43 42,bk 44 .sub 43 1,ia 45 1 38 44,l 46 45,n 47 46,f 48 0 47,l 49 48,m 34 49] [0,34]) <| j 34 (q' [m 50 0,m 51 0,n 52 51,f 53 10 52,l 54 53,m 55 0,n 56 55,f 57 10 56,l 58 57,le 59 58,bk 60 .sub 59 1,ia 61 1 54 60,l 62 61,c 63 80 [50,62]] [0]) (q' [m 11 0,m 12 0,n 13 12,f 14 10 13,l 15 14,m 16 0,n 17 16,f 18 10 17,l 19 18,le 20 19,bk 21 .sub 20 1,ia 22 1 15 21,l 23 22,c 24 81 [11,23]] [0])))) <| .seq (z [n 65 0,f 66 15 65,l 67 66,bk 68 .eql 67 5] [0,68] <| j 68 (z [n 70 0,f 71 15 70,l 72 71,m 2 72,mk 3 0] [2,3] <| .ret) (.skip)) <| z [n 74 0,f 75 14 74,l 76 75,bk 77 .add 76 1,n 78 0,f 79 14 78,s 1 79 77] [0] <| .seq (.seq (q' [m 80 0,n 81 80,f 82 3 81,f 83 2 82,l 84 83,bk 85 .gtr 84 0,m 86 85,m' 86 true 87 0,n' 86 true 88 87,f' 86 true 89 14 88,l' 86 true 90 89,m' 86 true 91 0,n' 86 true 92 91,f' 86 true 93 3 92,f' 86 true 94 2 93,l' 86 true 95 94,eW 86 true 96 .rem 90 95,bX 86 true 97 .eql 96 0,a 98 86 97] [0,98]) <| j 98 (.seq (.dr (r 0 100 (.mv (.t 0)) <| r 1 101 (.nn (.t 100)) <| r 2 102 (.fa 6 (.t 101)) <| r 3 103 (.l1 (.t 102)) <| r 4 104 (.mv (.t 0)) <| r 6 106 (.nn (.t 103)) <| r 7 107 (.mv (.t 103)) <| .e 5 none (some 105) (.call 82 [(.t 104)]) [3] <| .e 8 none (some 108) (.raw ⟨(some 108),(.call { callee:=(.invoke (.tmp 107) "Collect"),args:=#[(.tmp 105)],argTypes:=#[26]}),93, "machine.go:193",#[⟨7,.data⟩,⟨5,.data⟩,⟨5,.chain⟩],none⟩) [] <| r 9 99 (.mv (.t 108)) <| r 10 109 (.ex 0 (.t 99)) <| r 11 110 (.ex 1 (.t 99)) <| r 12 4 (.mv (.t 109)) <| r 13 5 (.mv (.t 110)) <| .nil) [0,4,5]) <| z [bk 112 .eql 5 0] [0,4,112] <| j 112 (z [c 115 83 [0,4]] [0] <| q [m 116 0,m 117 0,n 118 117,f 119 6 118,l 120 119,.e (some 121) (.raw ⟨(some 121),(.call { callee:=(.invoke (.tmp 120) "Used"),args:=#[],argTypes:=#[]}),3, "machine.go:195",#[⟨4,.data⟩],none⟩),n 122 116,f 123 8 122,s 1 123 121] [0]) (.skip)) (.skip)) <| z [n 125 0,f 126 15 125,l 127 126,m 2 127,mk 3 0] [2,3] <| .ret
theorem aen:Fits Tryz.prog 45 1 (bb Tryz.f45 Kw) Kw [.t 2,.t 3] 128:=.m Tryz.f45 _
def Kx:IR:=z [] [0] <| z [le 5 0,le 7 0,.r (some 8) (.sl 2 (.t 0) none (some (.t 5)) (some (.t 7))),m 2 8] [2] <| .ret
theorem aeo:Fits Tryz.prog 65 1 (bb Tryz.f65 Kx) Kx [.t 2] 9:=.m Tryz.f65 _
def Ky:IR:=z [] [0] <| .seq (z [.r (some 4) (.eq .slice false (.t 0) (.c (.slice none 0 0)))] [0,4] <| j 4 (z [.r (some 2) (.mv (.c (.slice none 0 0)))] [2] <| .ret) (.skip)) <| z [.e (some 5) (.raw ⟨(some 5),(.buildSlice 32 0 #[]),32, "slices.go:362",#[],none⟩),m 6 0,.e (some 7) (.ap 42 2 24 #[(.string ⟨#[]⟩),(i 0)] (.t 5) (.t 6)),m 2 7] [2] <| .ret
theorem aep:Fits Tryz.prog 66 1 (bb Tryz.f66 Ky) Ky [.t 2] 8:=.m Tryz.f66 _
def Kz:IR:=z [] [0] <| z [c 4 72 [0],no 5 4,m 2 5] [2] <| .ret
theorem aeq:Fits Tryz.prog 71 1 (bb Tryz.f71 Kz) Kz [.t 2] 6:=.m Tryz.f71 _
def KA:IR:=z [] [0] <| z [bk 4 .geq 0 (-4611686018427387904),m' 4 true 6 0,bX 4 true 7 .leq 6 4611686018427387903,a 8 4 7,m 2 8] [2] <| .ret
theorem aer:Fits Tryz.prog 72 1 (bb Tryz.f72 KA) KA [.t 2] 9:=.m Tryz.f72 _
def KB:IR:=z [bi 20 .lss 19 18] [1,3,17,18,19,20] <| .seq (j 20 (.skip) ((.exit 0))) <| .seq (.block 1 (z [ia 21 2 17 19,ln 22 2 21,.e (some 5) (.al 47 (.agg #[(.string ⟨#[]⟩),(i 0)])),s 2 5 22] [1,3,5,17,18,19] <| .seq (z [f 23 0 5,l 24 23,c 25 104 [24],no 26 25,m 27 26,m' 27 false 28 3,f' 27 false 29 0 5,l' 27 false 30 29,.ge 27 false (some 31) (.raw ⟨(some 31),(.lookup 80 (.tmp 28) (.tmp 30) false),3, "check.go:69",#[⟨5,.data⟩,⟨7,.data⟩,⟨4,.guard⟩],some (4,false)⟩),bX 27 false 32 .gtr 31 0,u 33 27 32,m 34 33,f' 34 false 35 1 5,l' 34 false 36 35,bX 34 false 37 .lss 36 0,u 38 34 37,m 39 38,f' 39 false 40 1 5,l' 39 false 41 40,bX 39 false 42 .gtr 41 8,u 43 39 42] [1,3,5,17,18,19,43] <| j 43 (z [mk 2 172] [2] <| .ret) (.skip)) <| q [m 44 3,f 45 0 5,l 46 45,.e none (.raw ⟨none,(.mapUpdate 80 (.tmp 44) (.tmp 46) (.const (i 1))),0, "check.go:72",#[⟨0,.data⟩,⟨2,.data⟩,⟨0,.phase⟩,⟨1,.phase⟩,⟨2,.phase⟩],none⟩)] [1,3,17,18,19])) <| q [bk 47 .add 19 1,m 19 47] [1,3,17,18,19]
def KC:IR:=z [bi 51 .lss 50 49] [1,3,48,49,50,51] <| .seq (j 51 (.skip) ((.exit 2))) <| .seq (.block 3 (z [ia 53 2 48 50,ln 54 2 53,.e (some 7) (.al 47 (.agg #[(.string ⟨#[]⟩),(i 0)])),m 6 50,s 2 7 54] [1,3,6,7,48,49,50] <| .seq (q' [m 55 6,f 56 0 1,l 57 56,le 58 57,bi 59 .geq 55 58,m 60 59,f' 60 false 61 0 1,l' 60 false 62 61,m' 60 false 63 6,mU 60 false 64 2 62 63,xA 60 false 65 2 64,xA 60 false 66 2 7,.gr 60 false (some 67) (.oK true [(0,.str),(1,.int)] (.t 65) (.t 66)),u 68 60 67] [1,3,48,49,50,68]) <| j 68 (z [mk 2 172] [2] <| .ret) (.skip))) <| q [bk 69 .add 50 1,m 50 69] [1,3,48,49,50]
def KD:IR:=z [bi 75 .lss 74 73] [1,3,72,73,74,75] <| .seq (j 75 (.skip) ((.exit 4))) <| .seq (.block 5 (z [ia 76 3 72 74,ln 77 3 76,.e (some 9) (.al 59 (.agg #[(.string ⟨#[]⟩),(i 0),(.slice none 0 0)])),s 3 9 77] [1,3,9,72,73,74] <| .seq (z [f 78 0 9,l 79 78,c 80 104 [79],no 81 80,m 82 81,m' 82 false 83 3,f' 82 false 84 0 9,l' 82 false 85 84,.ge 82 false (some 86) (.raw ⟨(some 86),(.lookup 80 (.tmp 83) (.tmp 85) false),3, "check.go:81",#[⟨5,.data⟩,⟨7,.data⟩,⟨4,.guard⟩],some (4,false)⟩),bX 82 false 87 .gtr 86 0,u 88 82 87,m 89 88,f' 89 false 90 1 9,l' 89 false 91 90,bX 89 false 92 .lss 91 0,u 93 89 92,m 94 93,f' 94 false 95 1 9,l' 94 false 96 95,bX 94 false 97 .gtr 96 24,u 98 94 97] [1,3,9,72,73,74,98] <| j 98 (z [mk 2 172] [2] <| .ret) (.skip)) <| q [m 99 3,f 100 0 9,l 101 100,.e none (.raw ⟨none,(.mapUpdate 80 (.tmp 99) (.tmp 101) (.const (i 1))),0, "check.go:84",#[⟨0,.data⟩,⟨2,.data⟩,⟨0,.phase⟩,⟨1,.phase⟩,⟨2,.phase⟩],none⟩)] [1,3,72,73,74])) <| q [bk 102 .add 74 1,m 74 102] [1,3,72,73,74]
def KE:IR:=z [bi 107 .lss 106 105] [1,104,105,106,107] <| .seq (j 107 (.skip) ((.exit 6))) <| .seq (.block 7 (z [ia 108 3 104 106,ln 109 3 108,.e (some 11) (.al 59 (.agg #[(.string ⟨#[]⟩),(i 0),(.slice none 0 0)])),s 3 11 109] [1,11,104,105,106] <| z [ln 110 2 1,ln 111 3 11,c 112 106 [110,111],m 12 112] [1,12,104,105,106] <| z [bk 114 .neq 12 0] [1,12,104,105,106,114] <| j 114 (z [m 2 12] [2] <| .ret) (.skip))) <| q [bk 116 .add 106 1,m 106 116] [1,104,105,106]
def KF:IR:=z [.e (some 1) (.bx 25 (.t 0))] [1] <| .seq (z [ln 13 2 1,c 14 103 [13]] [1,14] <| j 14 (z [mk 2 4] [2] <| .ret) (.skip)) <| z [.e (some 15) (.raw ⟨(some 15),(.makeMap 80 none),80, "check.go:67",#[],none⟩),m 3 15] [1,3] <| .seq (z [f 16 0 1,l 17 16,le 18 17,mk 19 0] [1,3,17,18,19] <| .block 0 (.loop KB)) <| .seq (z [c 48 105 [],le 49 48,mk 50 0] [1,3,48,49,50] <| .block 2 (.loop KC)) <| z [m 70 3,.e none (.raw ⟨none,(.call { callee:=(.builtin .clear),args:=#[(.tmp 70)],argTypes:=#[80]}),0, "check.go:79",#[⟨0,.data⟩],none⟩)] [1,3] <| .seq (z [f 71 1 1,l 72 71,le 73 72,mk 74 0] [1,3,72,73,74] <| .block 4 (.loop KD)) <| .seq (z [f 103 1 1,l 104 103,le 105 104,mk 106 0] [1,104,105,106] <| .block 6 (.loop KE)) <| z [mk 2 0] [2] <| .ret
theorem aes:Fits Tryz.prog 73 1 (bb Tryz.f73 KF) KF [.t 2] 117:=.m Tryz.f73 _
def Ty:IR:=z [bi 9 .lss 8 7] [0,1,7,8,9] <| .seq (j 9 (.skip) ((.exit 0))) <| .seq (.block 1 (z [m 5 8] [0,1,5,7,8] <| z [m 11 1,m 12 0,m 13 5,ia 14 3 12 13,ln 15 3 14,.e (some 16) (.raw ⟨(some 16),(.call { callee:=(.value (.tmp 11)),args:=#[(.tmp 15)],argTypes:=#[59]}),4, "slices.go:109",#[⟨0,.data⟩,⟨4,.data⟩],none⟩)] [0,1,5,7,8,16] <| j 16 (z [m 4 5] [4] <| .ret) (.skip))) <| q [bk 18 .add 8 1,m 8 18] [0,1,7,8]
def KG:IR:=z [] [0,1] <| .seq (z [le 7 0,mk 8 0] [0,1,7,8] <| .block 0 (.loop Ty)) <| z [mk 4 (-1)] [4] <| .ret
theorem aet:Fits Tryz.prog 74 2 (bb Tryz.f74 KG) KG [.t 4] 19:=.m Tryz.f74 _
def KH:IR:=z [.e (some 2) (.bx 59 (.t 0))] [1,2] <| z [f 4 0 2,l 5 4,l 6 1,bi 7 .eql 5 6,m 3 7] [3] <| .ret
theorem aeu:Fits Tryz.prog 75 2 (bb Tryz.f75 KH) KH [.t 3] 8:=.m Tryz.f75 _
def KJ:IR:=z [.e (some 1) (.bx 28 (.t 0))] [1] <| .seq (z [f 10 1 1,l 11 10] [1,11] <| j 11 (z [f 12 0 1,l 13 12,bk 14 .quo 13 8,.r (some 15) (.mm true (k 1) (.t 14)),m 5 15] [1,5] <| z [f 17 0 1,l 18 17,c 20 107 [18,5],ex 21 0 20,ex 22 1 20,m 6 21,m 7 22] [5,6,7] <| z [.r (some 24) (.mi 169 (.t 6)),m 2 24,m 3 5,m 4 7] [2,3,4] <| .ret) (.skip)) <| z [f 28 0 1,l 29 28,c 30 108 [29],ex 31 0 30,ex 32 1 30,m 8 31,m 9 32] [1,8,9] <| .seq (q' [m 33 8,.r (some 34) (.mi 172 (.t 33)),f 35 0 1,l 36 35,m 37 9,m 2 34,m 3 36,m 4 37] [2,3,4]) <| .ret
theorem aev:Fits Tryz.prog 76 1 (bb Tryz.f76 KJ) KJ [.t 2,.t 3,.t 4] 38:=.m Tryz.f76 _
def Tz:IR:=z [bi 14 .lss 13 12] [2,3,11,12,13,14] <| .seq (j 14 (.skip) ((.exit 0))) <| .seq (.block 1 (z [ia 15 3 11 13,ln 16 3 15,.e (some 5) (.al 59 (.agg #[(.string ⟨#[]⟩),(i 0),(.slice none 0 0)])),s 3 5 16] [2,3,5,11,12,13] <| .dr (r 0 17 (.fa 1 (.t 3)) <| r 1 18 (.l1 (.t 17)) <| r 2 19 (.fa 0 (.t 5)) <| r 3 20 (.l1 (.t 19)) <| r 4 21 (.fa 1 (.t 5)) <| r 5 22 (.l1 (.t 21)) <| r 6 23 (.fa 2 (.t 5)) <| r 7 24 (.l1 (.t 23)) <| .e 8 none (some 25) (.call 64 [(.t 24)]) [1,3,5] <| r 9 26 (.bd #[(.string ⟨#[]⟩),(i 0),(.slice none 0 0)] [(0,1,(.t 20)),(1,1,(.t 22)),(2,1,(.t 25))]) <| .e 10 none (some 27) (.bs 59 1 #[(.string ⟨#[]⟩),(i 0),(.slice none 0 0)] [(0,3,(.t 26))]) [1] <| .e 11 none (some 28) (.ap 59 3 48 #[(.string ⟨#[]⟩),(i 0),(.slice none 0 0)] (.t 18) (.t 27)) [] <| r 12 29 (.fa 1 (.t 3)) <| .e 13 none none (.st 1 (.t 29) (.t 28)) [] <| .nil) [2,3,11,12,13])) <| q [bk 30 .add 13 1,m 13 30] [2,3,11,12,13]
def KK:IR:=z [.e (some 1) (.bx 25 (.t 0)),.e (some 2) (.al 25 (.agg #[(.slice none 0 0),(.slice none 0 0)]))] [1,2] <| z [f 6 0 1,l 7 6,c 8 62 [7],.r (some 9) (.bd #[(.slice none 0 0),(.slice none 0 0)] [(0,1,(.t 8))]),.e (some 3) (.al 25 (.agg #[(.slice none 0 0),(.slice none 0 0)])),s 2 3 9] [1,2,3] <| .seq (z [f 10 1 1,l 11 10,le 12 11,mk 13 0] [2,3,11,12,13] <| .block 0 (.loop Tz)) <| z [ln 31 2 3,s 2 2 31] [2] <| .ret
theorem aew:Fits Tryz.prog 77 1 (bb Tryz.f77 KK) KK [.n 2 2] 32:=.m Tryz.f77 _
def KL:IR:=z [] [] <| z [.r (some 1) (.bd #[.nilFunc,.nilFunc] [(0,1,(.c (.func (.func 109) #[] #[]))),(1,1,(.c (.func (.func 110) #[] #[])))]),.r (some 2) (.bd #[.nilFunc,.nilFunc] [(0,1,(.c (.func (.func 109) #[] #[]))),(1,1,(.c (.func (.func 113) #[] #[])))]),.r (some 3) (.bd #[.nilFunc,.nilFunc] [(0,1,(.c (.func (.func 114) #[] #[]))),(1,1,(.c (.func (.func 115) #[] #[])))]),.r (some 4) (.bd #[.nilFunc,.nilFunc] [(0,1,(.c (.func (.func 109) #[] #[]))),(1,1,(.c (.func (.func 117) #[] #[])))]),.r (some 5) (.bd #[.nilFunc,.nilFunc] [(0,1,(.c (.func (.func 109) #[] #[]))),(1,1,(.c (.func (.func 119) #[] #[])))]),.r (some 6) (.bd #[.nilFunc,.nilFunc] [(0,1,(.c (.func (.func 114) #[] #[]))),(1,1,(.c (.func (.func 120) #[] #[])))]),.r (some 7) (.bd #[.nilFunc,.nilFunc] [(0,1,(.c (.func (.func 109) #[] #[]))),(1,1,(.c (.func (.func 121) #[] #[])))]),.r (some 8) (.bd #[.nilFunc,.nilFunc] [(0,1,(.c (.func (.func 122) #[] #[]))),(1,1,(.c (.func (.func 123) #[] #[])))]),.r (some 9) (.bd #[.nilFunc,.nilFunc] [(0,1,(.c (.func (.func 114) #[] #[]))),(1,1,(.c (.func (.func 124) #[] #[])))]),.r (some 10) (.bd #[.nilFunc,.nilFunc] [(0,1,(.c (.func (.func 109) #[] #[]))),(1,1,(.c (.func (.func 125) #[] #[])))]),.r (some 11) (.bd #[.nilFunc,.nilFunc] [(0,1,(.c (.func (.func 109) #[] #[]))),(1,1,(.c (.func (.func 126) #[] #[])))]),.r (some 12) (.bd #[.nilFunc,.nilFunc] [(0,1,(.c (.func (.func 114) #[] #[]))),(1,1,(.c (.func (.func 127) #[] #[])))]),.r (some 13) (.bd #[.nilFunc,.nilFunc] [(0,1,(.c (.func (.func 109) #[] #[]))),(1,1,(.c (.func (.func 128) #[] #[])))]),.r (some 14) (.bd #[.nilFunc,.nilFunc] [(0,1,(.c (.func (.func 109) #[] #[]))),(1,1,(.c (.func (.func 129) #[] #[])))]),.r (some 15) (.bd #[.nilFunc,.nilFunc] [(0,1,(.c (.func (.func 109) #[] #[]))),(1,1,(.c (.func (.func 130) #[] #[])))]),.r (some 16) (.bd #[.nilFunc,.nilFunc] [(0,1,(.c (.func (.func 109) #[] #[]))),(1,1,(.c (.func (.func 131) #[] #[])))]),.r (some 17) (.bd #[.nilFunc,.nilFunc] [(0,1,(.c (.func (.func 109) #[] #[]))),(1,1,(.c (.func (.func 133) #[] #[])))]),.e (some 18) (.bs 177 18 #[.nilFunc,.nilFunc,.nilFunc,.nilFunc,.nilFunc,.nilFunc,.nilFunc,.nilFunc,.nilFunc,.nilFunc,.nilFunc,.nilFunc,.nilFunc,.nilFunc,.nilFunc,.nilFunc,.nilFunc,.nilFunc,.nilFunc,.nilFunc,.nilFunc,.nilFunc,.nilFunc,.nilFunc,.nilFunc,.nilFunc,.nilFunc,.nilFunc,.nilFunc,.nilFunc,.nilFunc,.nilFunc,.nilFunc,.nilFunc,.nilFunc,.nilFunc] [(2,2,(.t 1)),(4,2,(.t 2)),(6,2,(.t 3)),(8,2,(.t 4)),(10,2,(.t 5)),(12,2,(.t 6)),(14,2,(.t 7)),(16,2,(.t 8)),(18,2,(.t 9)),(20,2,(.t 10)),(22,2,(.t 11)),(24,2,(.t 12)),(26,2,(.t 13)),(28,2,(.t 14)),(30,2,(.t 15)),(32,2,(.t 16)),(34,2,(.t 17))]),m 0 18] [0] <| .ret
theorem aex:Fits Tryz.prog 78 0 (bb Tryz.f78 KL) KL [.t 0] 19:=.m Tryz.f78 _
def TA:IR:=.block 2 (.dr (r 0 95 (.l1 (.t 1)) <| r 1 96 (.l1 (.t 1)) <| r 2 97 (.nn (.t 96)) <| r 3 98 (.fa 11 (.t 97)) <| r 4 99 (.l1 (.t 98)) <| r 5 100 (.mv (.t 6)) <| .e 6 none (some 101) (.bs 3 1 #[(i 0)] [(0,1,(.t 100))]) [0,1,4] <| .e 7 none (some 102) (.ap 3 1 8 #[(i 0)] (.t 99) (.t 101)) [0] <| r 8 103 (.nn (.t 95)) <| r 9 104 (.fa 11 (.t 103)) <| .e 10 none none (.st 1 (.t 104) (.t 102)) [] <| .nil) [])
def TB:K:=.seq (.ir (q [.e (some 1) (.bx 68 (.t 0))] [1])) <| .seq (.ir (q [l 7 1,n 8 7,f 9 11 8,l 10 9,le 11 10,bk 12 .sub 11 1,m 2 12] [1,2])) <| .seq (.ir (.dr (r 0 14 (.l1 (.t 1)) <| r 1 15 (.l1 (.t 1)) <| r 2 16 (.nn (.t 15)) <| r 3 17 (.fa 11 (.t 16)) <| r 4 18 (.l1 (.t 17)) <| r 5 19 (.mv (.t 2)) <| r 6 20 (.ia 1 (.t 18) (.t 19)) <| r 7 21 (.l1 (.t 20)) <| .e2 8 (some 22) (.call 134 [(.t 14),(.t 21)]) [] (r 9 13 (.mv (.t 22)) <| r 10 23 (.ex 0 (.t 13)) <| r 11 24 (.ex 1 (.t 13)) <| .e 12 none (some 4) (.al 104 (.agg #[(i 0),(i 0),(.slice none 0 0)])) [0,1,4,7] <| r 13 3 (.mv (.t 23)) <| .e 14 none none (.st 3 (.t 4) (.t 24)) [] <| .nil) 12 (some 4) (.al 104 (.agg #[(i 0),(i 0),(.slice none 0 0)])) [0,1,4,7]
   (.e 8 none (some 22) (.call 134 [(.t 14),(.t 21)]) [] <| r 9 13 (.mv (.t 22)) <| r 10 23 (.ex 0 (.t 13)) <| r 11 24 (.ex 1 (.t 13)) <| r 13 3 (.mv (.t 23)) <| .e 14 none none (.st 3 (.t 4) (.t 24)) [] <| .nil)) [1,2,4])) <| .seq (.ir (z [f 25 0 4,l 26 25] [1,2,4,26] <| .block 0 (z [bk 46 .eql 26 1,m 45 46] [1,2,4,26,45] <| j 45 (.dr (r 0 47 (.l1 (.t 1)) <| r 1 48 (.l1 (.t 1)) <| r 2 49 (.nn (.t 48)) <| r 3 50 (.fa 13 (.t 49)) <| r 4 51 (.l1 (.t 50)) <| r 5 52 (.fa 1 (.t 4)) <| r 6 53 (.l1 (.t 52)) <| r 7 54 (.bd #[(.string ⟨#[]⟩),(i 0)] [(1,1,(.t 53))]) <| .e 8 none (some 55) (.bs 42 1 #[(.string ⟨#[]⟩),(i 0)] [(0,2,(.t 54))]) [0,1,4] <| .e 9 none (some 56) (.ap 42 2 24 #[(.string ⟨#[]⟩),(i 0)] (.t 51) (.t 55)) [0] <| r 10 57 (.nn (.t 47)) <| r 11 58 (.fa 13 (.t 57)) <| .e 12 none none (.st 1 (.t 58) (.t 56)) [] <| .nil) [1,2,4]) (z [bk 60 .eql 26 2,m 59 60] [1,2,4,59] <| j 59 (.dr (r 0 61 (.l1 (.t 1)) <| r 1 62 (.l1 (.t 1)) <| r 2 63 (.nn (.t 62)) <| r 3 64 (.fa 13 (.t 63)) <| r 4 65 (.l1 (.t 64)) <| r 5 66 (.l1 (.t 1)) <| r 6 67 (.nn (.t 66)) <| r 7 68 (.fa 0 (.t 67)) <| r 8 69 (.fa 0 (.t 68)) <| r 9 70 (.l1 (.t 69)) <| r 10 71 (.fa 1 (.t 4)) <| r 11 72 (.l1 (.t 71)) <| r 12 73 (.ia 2 (.t 70) (.t 72)) <| r 13 74 (.fa 0 (.t 73)) <| r 14 75 (.l1 (.t 74)) <| r 15 76 (.bd #[(.string ⟨#[]⟩),(i 0)] [(0,1,(.t 75))]) <| .e 16 none (some 77) (.bs 42 1 #[(.string ⟨#[]⟩),(i 0)] [(0,2,(.t 76))]) [0,1,4] <| .e 17 none (some 78) (.ap 42 2 24 #[(.string ⟨#[]⟩),(i 0)] (.t 65) (.t 77)) [0] <| r 18 79 (.nn (.t 61)) <| r 19 80 (.fa 13 (.t 79)) <| .e 20 none none (.st 1 (.t 80) (.t 78)) [] <| .nil) [1,2,4]) (.seq (.dr (r 0 27 (.l1 (.t 1)) <| r 1 28 (.l1 (.t 1)) <| r 2 29 (.nn (.t 28)) <| r 3 30 (.fa 10 (.t 29)) <| r 4 31 (.l1 (.t 30)) <| r 5 32 (.l1 (.t 1)) <| r 6 33 (.nn (.t 32)) <| r 7 34 (.fa 11 (.t 33)) <| r 8 35 (.l1 (.t 34)) <| r 9 36 (.mv (.t 2)) <| r 10 37 (.ia 1 (.t 35) (.t 36)) <| r 11 38 (.l1 (.t 37)) <| r 12 39 (.bd #[(.bool false),(i 0),(i 0),(.slice none 0 0),(.slice none 0 0),(i 0)] [(5,1,(.t 38))]) <| .e 13 none (some 40) (.bx 151 (.t 39)) [0,1,4] <| .e 14 none (some 41) (.bs 152 1 #[(.pointer none)] [(0,1,(.t 40))]) [0,1,4] <| .e 15 none (some 42) (.ap 152 1 8 #[(.pointer none)] (.t 31) (.t 41)) [0] <| r 16 43 (.nn (.t 27)) <| r 17 44 (.fa 10 (.t 43)) <| .e 18 none none (.st 1 (.t 44) (.t 42)) [] <| .nil) []) <| .ret))))) <| .seq (.ir (q' [l 81 1,l 82 1,n 83 82,f 84 11 83,l 85 84,m 86 2,.r (some 87) (.sl 1 (.t 85) none (some (.t 86)) none),n 88 81,f 89 11 88,s 1 89 87] [1,4])) <| .seq (.seq (.ir (q [f 90 2 4,l 91 90,c 92 135 [91]] [1,92])) <| .iC 1 (.Er 92 93 94 6 TA)) <| .ir (z [l 105 1,n 106 105,f 107 11 106,l 108 107,le 109 108,bk 110 .eql 109 0] [1,110] <| j 110 (q [l 111 1,n 112 111,f 113 15 112,.e none (.st 1 (.t 113) (k 2))] []) (.skip))
theorem aey:Es Tryz.prog 79 1 [(0,[1],[]),(1,[1,2],[]),(2,[1,2,4],[0,0,2,6,14,0,62,126,255,511,1023,1023,0,6143,16383]),(3,[1,2,4,26],[]),(4,[],[0,0,2,6,14,0,32,96,224,0,992,2016,4064,8160,16352,32766,65535,131071,262143]),(5,[1,2,4,26,45],[]),(6,[1,2,4],[0,0,2,6,14,0,32,96,224,510,1023,2047,4095]),(7,[1,2,4,59],[]),(8,[1,2,4],[0,0,2,6,14,0,32,96,224,480,0,1024,4064,8160,16352,32736,65504,131070,262143,524287,1048575]),(9,[1,4],[0,0,2,6,14,0,62,127,255,511]),(10,[1,92],[]),(12,[],[0,0,2,6,14,0,32,126,255,511,1023]),(13,[1,110],[]),(14,[],[])] TB [] 114:=
 ⟨Tryz.f79,_,rfl,rfl,rfl,by decide,by kernel_rfl,by kernel_rfl⟩
def KM:IR:=.seq (.dr (r 0 7 (.mv (.t 0)) <| r 1 8 (.nn (.t 7)) <| r 2 9 (.fa 0 (.t 8)) <| r 3 10 (.fa 1 (.t 9)) <| r 4 11 (.l1 (.t 10)) <| r 5 12 (.mv (.t 1)) <| r 6 13 (.nn (.t 12)) <| r 7 14 (.fa 1 (.t 13)) <| r 8 15 (.l1 (.t 14)) <| r 9 16 (.ia 3 (.t 11) (.t 15)) <| r 10 17 (.fa 2 (.t 16)) <| r 11 18 (.l1 (.t 17)) <| r 12 19 (.mv (.t 1)) <| r 13 20 (.nn (.t 19)) <| r 14 21 (.fa 2 (.t 20)) <| r 15 22 (.l1 (.t 21)) <| r 16 23 (.ia 3 (.t 18) (.t 22)) <| r 17 24 (.ln 3 (.t 23)) <| .e 18 none (some 4) (.al 61 (.agg #[(i 0),(i 0),(i 0)])) [4,8,11,15,17] <| .e 19 none none (.st 3 (.t 4) (.t 24)) [] <| .nil) [0,1,4]) <| .seq (.dr (r 0 25 (.mv (.t 0)) <| r 1 26 (.nn (.t 25)) <| r 2 27 (.fa 18 (.t 26)) <| r 3 28 (.l1 (.t 27)) <| r 4 29 (.fa 0 (.t 4)) <| r 5 30 (.l1 (.t 29)) <| r 6 31 (.ia 2 (.t 28) (.t 30)) <| r 7 32 (.ln 2 (.t 31)) <| .e 8 none (some 5) (.al 177 (.agg #[.nilFunc,.nilFunc])) [3,5,7] <| .e 9 none none (.st 2 (.t 5) (.t 32)) [] <| .nil) [0,1,4,5]) <| .seq (z [f 33 0 5,l 34 33,ln 35 3 4,.e (some 36) (.raw ⟨(some 36),(.call { callee:=(.value (.tmp 34)),args:=#[(.tmp 35)],argTypes:=#[61]}),3, "run.go:58",#[⟨1,.data⟩,⟨2,.data⟩],none⟩),m 6 36] [0,1,4,5,6] <| z [bk 38 .gtr 6 0,m' 38 true 40 0,m' 38 true 41 6,.ge 38 true (some 42) (.call 136 [(.t 40),(.t 41)]),zC 38 true 43 42,a 44 38 43] [0,1,4,5,44] <| j 44 (.ret) (.skip)) <| z [n 46 1,f 47 2 46,l 48 47,bk 49 .add 48 1,n 50 1,f 51 2 50,s 1 51 49] [0,1,4,5] <| q [f 52 1 5,l 53 52,m 54 0,m 55 1,ln 56 3 4,.e (some 57) (.raw ⟨(some 57),(.call { callee:=(.value (.tmp 53)),args:=#[(.tmp 54),(.tmp 55),(.tmp 56)],argTypes:=#[68,152,61]}),0, "run.go:62",#[⟨1,.data⟩,⟨2,.data⟩,⟨3,.data⟩,⟨4,.data⟩],none⟩)] []
theorem aez:Fits Tryz.prog 80 2 (bb Tryz.f80 KM) KM [] 58:=.m Tryz.f80 _
def KN:IR:=z [n 9 1,f 10 5 9,l 11 10,c 12 134 [0,11],ex 13 0 12,ex 14 1 12,.e (some 5) (.al 104 (.agg #[(i 0),(i 0),(.slice none 0 0)])),m 4 13,s 3 5 14] [0,1,4,5] <| z [f 15 0 5,l 16 15] [0,1,4,5,16] <| .block 0 (z [bk 20 .eql 16 3,m 19 20] [0,1,4,5,16,19] <| j 19 (z [n 23 1,f 24 4 23,l 25 24,.e (some 27) (.bs 3 1 #[(i 0)] [(0,1,(.t 4))]),.e (some 28) (.ap 3 1 8 #[(i 0)] (.t 25) (.t 27)),n 29 1,f 30 4 29,s 1 30 28] [1,5] <| q [f 32 2 5,l 33 32,.r (some 34) (.ia 1 (.t 33) (k 0)),l 35 34,n 36 1,f 37 5 36,s 1 37 35] []) (z [bk 39 .eql 16 4,m 38 39] [0,1,4,5,16,38] <| j 38 (.seq (q' [m 40 1,n 41 40,f 42 4 41,l 43 42,le 44 43,m 45 0,n 46 45,f 47 0 46,f 48 1 47,l 49 48,f 50 1 5,l 51 50,ia 52 3 49 51,f 53 1 52,l 54 53,bi 55 .geq 44 54] [0,1,4,5,55]) <| j 55 (q [f 59 1 5,l 60 59,c 61 137 [0,1,4,60]] []) (q [c 64 138 [0,1]] [])) (.seq (z [bk 66 .eql 16 1,m 65 66] [0,1,5,16,65] <| j 65 (.skip) (q [bk 67 .eql 16 2,m 65 67] [0,1,5,16,65])) <| j 65 (z [n 69 1,f 70 4 69,l 71 70,le 72 71,bk 73 .gtr 72 0] [0,73] <| j 73 (q [.e (some 75) (.call 132 [(.t 0),(k 5)])] []) (q [c 77 139 [0]] [])) (z [bk 79 .eql 16 8,m 78 79] [0,1,5,16,78] <| j 78 (q [f 82 1 5,l 83 82,c 84 140 [0,1,83]] []) (z [bk 86 .eql 16 6,m 85 86] [0,85] <| j 85 (q [.e (some 88) (.call 132 [(.t 0),(k 5)])] []) (q [.e (some 18) (.call 132 [(.t 0),(k 4)])] []))))))
theorem aeA:Fits Tryz.prog 81 2 (bb Tryz.f81 KN) KN [] 89:=.m Tryz.f81 _
def TC:IR:=z [bi 17 .lss 16 15] [0,3,14,15,16,17] <| .seq (j 17 (.skip) ((.exit 0))) <| .seq (.block 1 (z [ia 18 1 14 16,l 19 18,m 5 19] [0,3,5,14,15,16] <| z [n 22 5,f 23 4 22,l 24 23,.e (some 25) (.ap 3 1 8 #[(i 0)] (.t 3) (.t 24)),m 3 25] [0,3,5,14,15,16] <| z [n 28 5,f 29 3 28,l 30 29,.e (some 31) (.ap 3 1 8 #[(i 0)] (.t 3) (.t 30)),m 3 31] [0,3,5,14,15,16] <| q [n 34 5,f 35 5 34,l 36 35,.e (some 37) (.bs 3 1 #[(i 0)] [(0,1,(.t 36))]),.e (some 38) (.ap 3 1 8 #[(i 0)] (.t 3) (.t 37)),m 3 38] [0,3,14,15,16])) <| q [bk 39 .add 16 1,m 16 39] [0,3,14,15,16]
def KO:IR:=z [] [0] <| z [n 7 0,f 8 9 7,l 9 8,c 10 39 [9],m 3 10] [0,3] <| .seq (z [n 12 0,f 13 10 12,l 14 13,le 15 14,mk 16 0] [0,3,14,15,16] <| .block 0 (.loop TC)) <| z [n 42 0,f 43 11 42,l 44 43,.e (some 45) (.ap 3 1 8 #[(i 0)] (.t 3) (.t 44)),m 2 45] [2] <| .ret
theorem aeB:Fits Tryz.prog 82 1 (bb Tryz.f82 KO) KO [.t 2] 46:=.m Tryz.f82 _
def TD:IR:=z [bi 20 .lss 19 18] [0,1,17,18,19,20] <| .seq (j 20 (.skip) ((.exit 0))) <| .seq (.block 1 (z [ia 21 1 17 19,l 22 21,m 5 22] [0,1,5,17,18,19] <| z [n 25 5,f 26 4 25,l 27 26,.e (some 29) (.cp 1 (.t 27) (.t 1)),.r (some 30) (.sl 1 (.t 1) (some (.t 29)) none none),m 1 30] [0,1,5,17,18,19] <| z [n 33 5,f 34 3 33,l 35 34,.e (some 37) (.cp 1 (.t 35) (.t 1)),.r (some 38) (.sl 1 (.t 1) (some (.t 37)) none none),m 1 38] [0,1,5,17,18,19] <| q' [m 39 5,m 40 1,.r (some 41) (.ia 1 (.t 40) (k 0)),l 42 41,m 43 1,.r (some 44) (.sl 1 (.t 43) (some (k 1)) none none),n 45 39,f 46 5 45,s 1 46 42,m 1 44] [0,1,17,18,19])) <| q [bk 47 .add 19 1,m 19 47] [0,1,17,18,19]
def KP:IR:=z [n 8 0,f 9 9 8,l 10 9,.e (some 12) (.cp 1 (.t 10) (.t 1)),.r (some 13) (.sl 1 (.t 1) (some (.t 12)) none none),m 1 13] [0,1] <| .seq (z [n 15 0,f 16 10 15,l 17 16,le 18 17,mk 19 0] [0,1,17,18,19] <| .block 0 (.loop TD)) <| q [n 49 0,f 50 11 49,l 51 50,.e (some 53) (.cp 1 (.t 51) (.t 1))] []
theorem aeC:Fits Tryz.prog 83 2 (bb Tryz.f83 KP) KP [] 54:=.m Tryz.f83 _
def TE:IR:=z [bi 10 .lss 9 8] [1,3,7,8,9,10] <| .seq (j 10 (.skip) ((.exit 0))) <| .seq (.block 1 (z [ia 11 3 7 9,ln 12 3 11,.e (some 5) (.al 59 (.agg #[(.string ⟨#[]⟩),(i 0),(.slice none 0 0)])),s 3 5 12] [1,3,5,7,8,9] <| z [f 14 2 5,l 15 14,le 16 15,bi 17 .add 3 16,m 3 17] [1,3,5,7,8,9] <| z [f 18 2 5,l 19 18,le 20 19,bk 21 .gtr 20 8000] [1,3,7,8,9,21] <| j 21 (z [.r (some 2) (.mv (.c (.bool true)))] [2] <| .ret) (.skip))) <| q [bk 22 .add 9 1,m 9 22] [1,3,7,8,9]
def KQ:IR:=z [.e (some 1) (.bx 25 (.t 0))] [1] <| z [mk 3 0] [1,3] <| .seq (z [f 6 1 1,l 7 6,le 8 7,mk 9 0] [1,3,7,8,9] <| .block 0 (.loop TE)) <| z [f 23 0 1,l 24 23,le 25 24,bk 26 .gtr 25 2000,f' 26 false 28 1 1,l' 26 false 29 28,jF 26 false 30 29,bX 26 false 31 .gtr 30 2000,u 32 26 31,m' 32 false 34 3,bX 32 false 35 .gtr 34 200000,u 36 32 35,m 2 36] [2] <| .ret
theorem aeD:Fits Tryz.prog 103 1 (bb Tryz.f103 KQ) KQ [.t 2] 37:=.m Tryz.f103 _
def TF:IR:=z [bi 7 .lss 6 5] [0,5,6,7] <| .seq (j 7 (.skip) ((.exit 0))) <| .seq (.block 1 (z [m 3 6] [0,3,5,6] <| z [.r (some 11) (.rR (.t 0) (.t 3)),.r (some 12) (.bi .lss (.t 11) (.c (.int .u8 32))),m' 12 false 14 0,m' 12 false 15 3,.gr 12 false (some 16) (.rR (.t 14) (.t 15)),.gr 12 false (some 17) (.bi .gtr (.t 16) (.c (.int .u8 126))),u 18 12 17] [0,5,6,18] <| j 18 (z [.r (some 2) (.mv (.c (.bool false)))] [2] <| .ret) (.skip))) <| q [bk 19 .add 6 1,m 6 19] [0,5,6]
def KR:IR:=z [] [0] <| .seq (z [.r (some 5) (.oJ (.t 0)),mk 6 0] [0,5,6] <| .block 0 (.loop TF)) <| z [.r (some 21) (.oJ (.t 0)),bk 22 .geq 21 1,m' 22 true 24 0,.gr 22 true (some 25) (.oJ (.t 24)),bX 22 true 26 .leq 25 4096,a 27 22 26,m 2 27] [2] <| .ret
theorem aeE:Fits Tryz.prog 104 1 (bb Tryz.f104 KR) KR [.t 2] 28:=.m Tryz.f104 _
def KS:IR:=z [] [] <| z [.r (some 1) (.bd #[(.string ⟨#[]⟩),(i 0)] [(0,1,(.c (.string ⟨#[70,97,108,115,101]⟩)))]),.r (some 2) (.bd #[(.string ⟨#[]⟩),(i 0)] [(0,1,(.c (.string ⟨#[84,114,117,101]⟩)))]),.r (some 3) (.bd #[(.string ⟨#[]⟩),(i 0)] [(0,1,(.c (.string ⟨#[85,110,105,116]⟩)))]),.r (some 4) (.bd #[(.string ⟨#[]⟩),(i 0)] [(0,1,(.c (.string ⟨#[78,105,108]⟩)))]),.r (some 5) (.bd #[(.string ⟨#[]⟩),(i 0)] [(0,1,(.c (.string ⟨#[67,111,110,115]⟩))),(1,1,(k 2))]),.r (some 6) (.bd #[(.string ⟨#[]⟩),(i 0)] [(0,1,(.c (.string ⟨#[80,97,105,114]⟩))),(1,1,(k 2))]),.r (some 7) (.bd #[(.string ⟨#[]⟩),(i 0)] [(0,1,(.c (.string ⟨#[84,114,105,112,108,101]⟩))),(1,1,(k 3))]),.e (some 8) (.bs 47 7 #[(.string ⟨#[]⟩),(i 0),(.string ⟨#[]⟩),(i 0),(.string ⟨#[]⟩),(i 0),(.string ⟨#[]⟩),(i 0),(.string ⟨#[]⟩),(i 0),(.string ⟨#[]⟩),(i 0),(.string ⟨#[]⟩),(i 0)] [(0,2,(.t 1)),(2,2,(.t 2)),(4,2,(.t 3)),(6,2,(.t 4)),(8,2,(.t 5)),(10,2,(.t 6)),(12,2,(.t 7))]),m 0 8] [0] <| .ret
theorem aeF:Fits Tryz.prog 105 0 (bb Tryz.f105 KS) KS [.t 0] 9:=.m Tryz.f105 _
def KT:IR:=z [bi 23 .lss 22 21] [2,3,20,21,22,23] <| .seq (j 23 (.skip) ((.exit 0))) <| .seq (.block 1 (z [ia 25 3 20 22,ln 26 3 25,.e (some 6) (.al 61 (.agg #[(i 0),(i 0),(i 0)])),m 5 22,s 3 6 26] [2,3,5,6,20,21,22] <| z [f 28 0 6,l 29 28,c 30 147 [29],ex 31 0 30,ex 32 1 30,.e (some 7) (.al 194 (.agg #[(.string ⟨#[]⟩),(i 0),(i 0)])),s 3 7 31,m 8 32] [2,3,5,6,7,8,20,21,22] <| .seq (z [no 34 8] [2,3,5,6,7,20,21,22,34] <| j 34 (z [mk 4 172] [4] <| .ret) (.skip)) <| .seq (.dr (r 0 35 (.ln 2 (.t 2)) <| r 1 36 (.ln 3 (.t 3)) <| r 2 37 (.mv (.t 5)) <| r 3 38 (.fa 1 (.t 6)) <| r 4 39 (.l1 (.t 38)) <| r 5 40 (.fa 1 (.t 7)) <| r 6 41 (.l1 (.t 40)) <| r 8 43 (.ln 2 (.t 2)) <| r 9 44 (.ln 3 (.t 3)) <| r 10 45 (.mv (.t 5)) <| r 11 46 (.fa 2 (.t 6)) <| r 12 47 (.l1 (.t 46)) <| r 13 48 (.fa 2 (.t 7)) <| r 14 49 (.l1 (.t 48)) <| .e 7 none (some 42) (.call 148 [(.t 35),(.t 36),(.t 37),(.t 39),(.t 41)]) [8,9,12,14] <| .e 15 none (some 50) (.call 148 [(.t 43),(.t 44),(.t 45),(.t 47),(.t 49)]) [] <| r 16 9 (.mv (.t 42)) <| r 17 10 (.mv (.t 50)) <| .nil) [2,3,9,10,20,21,22]) <| .seq (z [bk 52 .eql 9 172,m' 52 false 54 10,bX 52 false 55 .eql 54 172,u 56 52 55] [2,3,9,10,20,21,22,56] <| j 56 (z [mk 4 172] [4] <| .ret) (.skip)) <| z [bk 58 .neq 9 0,m' 58 false 60 10,bX 58 false 61 .neq 60 0,u 62 58 61] [2,3,20,21,22,62] <| j 62 (z [mk 4 174] [4] <| .ret) (.skip))) <| q [bk 63 .add 22 1,m 22 63] [2,3,20,21,22]
def KU:IR:=z [bi 81 .lss 80 79] [2,3,11,78,79,80,81] <| .seq (j 81 (.skip) ((.exit 2))) <| .seq (.block 3 (z [ia 83 3 78 80,ln 84 3 83,.e (some 13) (.al 61 (.agg #[(i 0),(i 0),(i 0)])),m 12 80,s 3 13 84] [2,3,11,12,13,78,79,80] <| z [ia 87 1 11 12,l 88 87,m 14 88] [2,3,11,12,13,14,78,79,80] <| .seq (z [bk 90 .eql 14 0] [2,3,11,12,13,14,78,79,80,90] <| j 90 (z [mk 4 174] [4] <| .ret) (.skip)) <| z [ln 92 2 2,ln 93 3 13,c 95 149 [92,93,14],ex 96 0 95,ex 97 1 95,m 15 96,m 16 97] [2,3,11,12,13,15,16,78,79,80] <| .seq (z [no 99 16] [2,3,11,12,13,15,78,79,80,99] <| j 99 (z [mk 4 173] [4] <| .ret) (.skip)) <| z [f 100 0 13,l 101 100,bk 102 .neq 101 13,f' 102 true 104 0 13,l' 102 true 105 104,bX 102 true 106 .neq 105 16,a 107 102 106,f' 107 true 109 0 13,l' 107 true 110 109,bX 107 true 111 .neq 110 17,a 112 107 111,m 17 112] [2,3,11,12,13,15,17,78,79,80] <| .seq (z [m' 17 true 115 12,bX 17 true 116 .add 115 1,f' 17 true 117 2 3,l' 17 true 118 117,jF 17 true 119 118,eW 17 true 120 .eql 116 119,a 121 17 120] [2,3,11,12,13,15,17,78,79,80,121] <| j 121 (z [mk 4 174] [4] <| .ret) (.skip)) <| .seq (z [m' 17 true 124 11,m' 17 true 125 12,bX 17 true 126 .add 125 1,m' 17 true 127 15,.ge 17 true (some 128) (.call 150 [(.t 124),(.t 126),(.t 127)]),zC 17 true 129 128,a 130 17 129] [2,3,11,13,15,78,79,80,130] <| j 130 (z [mk 4 173] [4] <| .ret) (.skip)) <| z [mk 18 0] [2,3,11,13,15,18,78,79,80] <| .seq (z [f 131 0 13,l 132 131] [2,3,11,13,15,18,78,79,80,132] <| .block 4 (z [bk 134 .eql 132 13,m 133 134] [2,3,11,13,15,18,78,79,80,132,133] <| j 133 (q [f 135 1 13,l 136 135,m 18 136] [2,3,11,15,18,78,79,80]) (.seq (z [bk 138 .eql 132 14,m 137 138] [2,3,11,13,15,18,78,79,80,132,137] <| j 137 (.skip) (q [bk 139 .eql 132 15,m 137 139] [2,3,11,13,15,18,78,79,80,137])) <| j 137 (q [f 140 2 13,l 141 140,m 18 141] [2,3,11,15,18,78,79,80]) (.skip)))) <| z [bk 143 .gtr 18 0,m' 143 true 145 11,m' 143 true 146 18,m' 143 true 147 15,.ge 143 true (some 148) (.call 150 [(.t 145),(.t 146),(.t 147)]),zC 143 true 149 148,a 150 143 149] [2,3,11,78,79,80,150] <| j 150 (z [mk 4 173] [4] <| .ret) (.skip))) <| q [bk 151 .add 80 1,m 80 151] [2,3,11,78,79,80]
def KV:IR:=z [.e (some 2) (.bx 25 (.t 0)),.e (some 3) (.bx 59 (.t 1))] [2,3] <| .seq (z [f 19 2 3,l 20 19,le 21 20,mk 22 0] [2,3,20,21,22] <| .block 0 (.loop KT)) <| .seq (z [f 64 2 3,l 65 64,le 66 65,bk 67 .eql 66 0] [2,3,67] <| j 67 (z [mk 4 174] [4] <| .ret) (.skip)) <| z [f 68 2 3,l 69 68,le 70 69,.e (some 71) (.ms 3 1 8 #[(i 0)] (.t 70) (.t 70)),m 11 71] [2,3,11] <| z [f 73 1 3,l 74 73,bk 75 .add 74 1,.r (some 76) (.ia 1 (.t 11) (k 0)),s 1 76 75] [2,3,11] <| .seq (z [f 77 2 3,l 78 77,le 79 78,mk 80 0] [2,3,11,78,79,80] <| .block 2 (.loop KU)) <| z [mk 4 0] [4] <| .ret
theorem aeG:Fits Tryz.prog 106 2 (bb Tryz.f106 KV) KV [.t 4] 152:=.m Tryz.f106 _
def KW:IR:=z [.e (some 1) (.bx 61 (.t 0))] [] <| z [mk 2 0] [2] <| .ret
theorem aeH:Fits Tryz.prog 109 1 (bb Tryz.f109 KW) KW [.t 2] 3:=.m Tryz.f109 _
def KX:IR:=z [.e (some 5) (.bx 61 (.t 2))] [1,5] <| q [f 8 1 5,l 9 8,c 10 112 [1,9],c 11 111 [1,10]] []
theorem aeI:Fits Tryz.prog 110 3 (bb Tryz.f110 KX) KX [] 12:=.m Tryz.f110 _
def Fi:IR:=q [n 6 0,f 7 3 6,l 8 7,.e (some 10) (.bs 3 1 #[(i 0)] [(0,1,(.t 1))]),.e (some 11) (.ap 3 1 8 #[(i 0)] (.t 8) (.t 10)),n 12 0,f 13 3 12,s 1 13 11] []
theorem TG:Fits Tryz.prog 111 2 (bb Tryz.f111 Fi) Fi [] 14:=.m Tryz.f111 _
def KY:IR:=z [] [0,1] <| .seq (q' [m 5 0,n 6 5,f 7 3 6,l 8 7,m 9 0,n 10 9,f 11 3 10,l 12 11,le 13 12,bk 14 .sub 13 1,m 15 1,bi 16 .sub 14 15,ia 17 1 8 16,l 18 17,m 4 18] [4]) <| .ret
theorem aeJ:Fits Tryz.prog 112 2 (bb Tryz.f112 KY) KY [.t 4] 19:=.m Tryz.f112 _
def KZ:IR:=z [.e (some 5) (.bx 61 (.t 2))] [0,1,5] <| q' [m 6 1,m 7 0,n 8 7,f 9 9 8,l 10 9,f 11 1 5,l 12 11,ia 13 1 10 12,l 14 13,c 15 111 [6,14]] []
theorem aeK:Fits Tryz.prog 113 3 (bb Tryz.f113 KZ) KZ [] 16:=.m Tryz.f113 _
def K0:IR:=z [.e (some 1) (.bx 61 (.t 0))] [] <| z [mk 2 1] [2] <| .ret
theorem aeL:Fits Tryz.prog 114 1 (bb Tryz.f114 K0) K0 [.t 2] 3:=.m Tryz.f114 _
def K1:IR:=z [.e (some 5) (.bx 61 (.t 2))] [0,1,5] <| q [f 8 1 5,l 9 8,.e (some 10) (.call 116 [(.t 0),(k 1),(.t 9),(.c (.slice none 0 0))]),c 11 111 [1,10]] []
theorem aeM:Fits Tryz.prog 115 3 (bb Tryz.f115 K1) K1 [] 12:=.m Tryz.f115 _
def Fj:IR:=z [] [0,1,2,3] <| z [m 12 0,n 13 12,f 14 6 13,l 15 14,m 16 1,m 17 2,m 18 3,.r (some 19) (.bd #[(i 0),(i 0),(.slice none 0 0)] [(0,1,(.t 16)),(1,1,(.t 17)),(2,1,(.t 18))]),.e (some 20) (.raw ⟨(some 20),(.call { callee:=(.invoke (.tmp 15) "Add"),args:=#[(.tmp 19)],argTypes:=#[104]}),105, "machine.go:166",#[⟨3,.data⟩,⟨7,.data⟩],none⟩),m 11 20,ex 21 0 11,ex 22 1 11,m 9 21,m 10 22] [9] <| z [m 8 9] [8] <| .ret
theorem TH:Fits Tryz.prog 116 4 (bb Tryz.f116 Fj) Fj [.t 8] 24:=.m Tryz.f116 _
def K2:IR:=z [.e (some 5) (.bx 61 (.t 2))] [1,5] <| q [f 7 1 5,l 8 7,c 9 118 [1,8]] []
theorem aeN:Fits Tryz.prog 117 3 (bb Tryz.f117 K2) K2 [] 10:=.m Tryz.f117 _
def K3:IR:=q' [m 4 0,m 5 0,n 6 5,f 7 3 6,l 8 7,m 9 0,n 10 9,f 11 3 10,l 12 11,le 13 12,m 14 1,bi 15 .sub 13 14,.r (some 16) (.sl 1 (.t 8) none (some (.t 15)) none),n 17 4,f 18 3 17,s 1 18 16] []
theorem aeO:Fits Tryz.prog 118 2 (bb Tryz.f118 K3) K3 [] 19:=.m Tryz.f118 _
def K4:IR:=z [.e (some 5) (.bx 61 (.t 2))] [1,5] <| z [.e (some 8) (.call 112 [(.t 1),(k 0)]),m 6 8] [1,5,6] <| z [f 10 1 5,l 11 10,bk 12 .add 11 1,c 13 118 [1,12]] [1,6] <| q [c 16 111 [1,6]] []
theorem aeP:Fits Tryz.prog 119 3 (bb Tryz.f119 K4) K4 [] 17:=.m Tryz.f119 _
def K5:IR:=z [.e (some 5) (.bx 61 (.t 2))] [0,1] <| z [.e (some 9) (.call 112 [(.t 1),(k 0)]),.e (some 11) (.call 112 [(.t 1),(k 1)]),.e (some 12) (.bs 3 2 #[(i 0),(i 0)] [(0,1,(.t 9)),(1,1,(.t 11))]),.e (some 13) (.call 116 [(.t 0),(k 3),(k 0),(.t 12)]),m 6 13] [1,6] <| z [.e (some 15) (.call 118 [(.t 1),(k 2)])] [1,6] <| q [c 18 111 [1,6]] []
theorem aeQ:Fits Tryz.prog 120 3 (bb Tryz.f120 K5) K5 [] 19:=.m Tryz.f120 _
def K6:IR:=z [.e (some 5) (.bx 61 (.t 2))] [0,1,5] <| z [f 13 1 5,l 14 13,c 15 112 [1,14],c 16 134 [0,15],ex 17 0 16,ex 18 1 16,.e (some 7) (.al 104 (.agg #[(i 0),(i 0),(.slice none 0 0)])),m 6 17,s 3 7 18] [0,1,6] <| z [.e (some 22) (.call 112 [(.t 1),(k 0)]),c 23 134 [0,22],ex 24 0 23,ex 25 1 23,.e (some 9) (.al 104 (.agg #[(i 0),(i 0),(.slice none 0 0)])),m 8 24,s 3 9 25] [0,1,6,8] <| z [m 26 0,n 27 26,f 28 6 27,l 29 28,m 30 6,m 31 8,.e (some 32) (.bs 3 1 #[(i 0)] [(0,1,(.t 31))]),.r (some 33) (.bd #[(i 0),(i 0),(.slice none 0 0)] [(0,1,(k 5)),(2,1,(.t 32))]),.e (some 34) (.raw ⟨(some 34),(.call { callee:=(.invoke (.tmp 29) "Set"),args:=#[(.tmp 30),(.tmp 33)],argTypes:=#[3,104]}),33, "run.go:80",#[⟨3,.data⟩,⟨4,.data⟩,⟨7,.data⟩],none⟩)] [1] <| q [.e (some 36) (.call 118 [(.t 1),(k 1)])] []
theorem aeR:Fits Tryz.prog 121 3 (bb Tryz.f121 K6) K6 [] 37:=.m Tryz.f121 _
def K7:IR:=z [.e (some 1) (.bx 61 (.t 0))] [1] <| z [f 3 1 1,l 4 3,m 2 4] [2] <| .ret
theorem aeS:Fits Tryz.prog 122 1 (bb Tryz.f122 K7) K7 [.t 2] 5:=.m Tryz.f122 _
def TI:IR:=z [bi 9 .lss 8 7] [0,1,7,8,9] <| .seq (j 9 (.skip) ((.exit 0))) <| .seq (.block 1 (q [.e (some 12) (.call 116 [(.t 0),(k 6),(k 0),(.c (.slice none 0 0))]),c 13 111 [1,12]] [0,1,7,8])) <| q [bk 14 .add 8 1,m 8 14] [0,1,7,8]
def K8:IR:=z [.e (some 5) (.bx 61 (.t 2))] [0,1,5] <| z [f 6 1 5,l 7 6,mk 8 0] [0,1,7,8] <| .block 0 (.loop TI)
theorem aeT:Fits Tryz.prog 123 3 (bb Tryz.f123 K8) K8 [] 15:=.m Tryz.f123 _
def TJ:IR:=z [bi 23 .lss 22 21] [0,1,5,6,21,22,23] <| .seq (j 23 (.skip) ((.exit 0))) <| .seq (.block 1 (z [m 7 22] [0,1,5,6,7,21,22] <| q [c 29 112 [1,7],ia 30 1 6 7,s 1 30 29] [0,1,5,6,21,22])) <| q [bk 31 .add 22 1,m 22 31] [0,1,5,6,21,22]
def K9:IR:=z [.e (some 5) (.bx 61 (.t 2))] [0,1,5] <| .seq (q' [m 9 0,n 10 9,f 11 0 10,f 12 0 11,l 13 12,f 14 1 5,l 15 14,ia 16 2 13 15,f 17 1 16,l 18 17,.e (some 19) (.ms 3 1 8 #[(i 0)] (.t 18) (.t 18)),m 6 19] [0,1,5,6]) <| .seq (z [le 21 6,mk 22 0] [0,1,5,6,21,22] <| .block 0 (.loop TJ)) <| z [f 33 1 5,l 34 33,.e (some 36) (.call 116 [(.t 0),(k 2),(.t 34),(.t 6)]),m 8 36] [1,6,8] <| z [le 39 6,c 40 118 [1,39]] [1,8] <| q [c 43 111 [1,8]] []
theorem aeU:Fits Tryz.prog 124 3 (bb Tryz.f124 K9) K9 [] 44:=.m Tryz.f124 _
def TK:IR:=.block 1 (q [l 52 4,c 54 111 [52,9]] [])
def TL:K:=.seq (.ir (q [.e (some 4) (.bx 152 (.t 1)),.e (some 5) (.bx 61 (.t 2))] [0,4,5])) <| .seq (.ir (q [l 12 4,.e (some 13) (.call 112 [(.t 12),(k 0)]),c 14 134 [0,13],ex 15 0 14,ex 16 1 14,.e (some 7) (.al 104 (.agg #[(i 0),(i 0),(.slice none 0 0)])),s 3 7 16] [0,4,5,7])) <| .seq (.ir (.seq (q' [f 17 0 7,l 18 17,bk 19 .neq 18 2,m 20 19,f' 20 false 21 1 7,l' 20 false 22 21,f' 20 false 23 1 5,l' 20 false 24 23,eW 20 false 25 .neq 22 24,u 26 20 25,m 27 26,f' 27 false 28 2 7,l' 27 false 29 28,jF 27 false 30 29,m' 27 false 31 0,n' 27 false 32 31,f' 27 false 33 0 32,f' 27 false 34 0 33,l' 27 false 35 34,f' 27 false 36 1 5,l' 27 false 37 36,mU 27 false 38 2 35 37,f' 27 false 39 1 38,l' 27 false 40 39,eW 27 false 41 .neq 30 40,u 42 27 41] [0,4,7,42]) <| j 42 (z [.e (some 44) (.call 132 [(.t 0),(k 5)])] [] <| .ret) (.skip))) <| .seq (.ir (q [l 45 4,.e (some 46) (.call 118 [(.t 45),(k 1)])] [4,7])) <| .seq (.ir (q [f 47 2 7,l 48 47,c 49 135 [48]] [4,49])) <| .iC 0 (.Er 49 50 51 9 TK)
theorem aeV:Es Tryz.prog 125 3 [(0,[0,4,5],[]),(1,[0,4,5,7],[]),(2,[0,4,7,42],[0,1,3,7,15,31,15,79,255,511,1023,2047,4095,8191,2047,18431,51199,116735,247807,2047,526335,2082815,4179967,8374271,16777215,33554431]),(3,[],[]),(4,[4,7],[]),(5,[4,49],[]),(7,[],[])] TL [] 55:=
 ⟨Tryz.f125,_,rfl,rfl,rfl,by decide,by kernel_rfl,by kernel_rfl⟩
def La:IR:=z [.e (some 5) (.bx 61 (.t 2))] [0,1] <| z [.e (some 11) (.call 112 [(.t 1),(k 0)]),c 12 134 [0,11],ex 13 0 12,ex 14 1 12,.e (some 7) (.al 104 (.agg #[(i 0),(i 0),(.slice none 0 0)])),s 3 7 14] [0,1,7] <| z [f 15 0 7,l 16 15,bk 17 .neq 16 1,f' 17 true 19 0 7,l' 17 true 20 19,bX 17 true 21 .neq 20 2,a 22 17 21] [0,1,22] <| j 22 (.dr (r 0 23 (.mv (.t 0)) <| r 1 24 (.mv (.t 0)) <| r 2 25 (.nn (.t 24)) <| r 3 26 (.fa 10 (.t 25)) <| r 4 27 (.l1 (.t 26)) <| r 5 28 (.mv (.t 1)) <| .e 6 none (some 29) (.call 112 [(.t 28),(k 0)]) [4] <| r 7 30 (.bd #[(.bool false),(i 0),(i 0),(.slice none 0 0),(.slice none 0 0),(i 0)] [(5,1,(.t 29))]) <| .e 8 none (some 31) (.bx 151 (.t 30)) [4] <| .e 9 none (some 32) (.bs 152 1 #[(.pointer none)] [(0,1,(.t 31))]) [4] <| .e 10 none (some 33) (.ap 152 1 8 #[(.pointer none)] (.t 27) (.t 32)) [] <| r 11 34 (.nn (.t 23)) <| r 12 35 (.fa 10 (.t 34)) <| .e 13 none none (.st 1 (.t 35) (.t 33)) [] <| .nil) []) (.skip)
theorem aeW:Fits Tryz.prog 126 3 (bb Tryz.f126 La) La [] 36:=.m Tryz.f126 _
def Lb:IR:=z [.e (some 5) (.bx 61 (.t 2))] [0,1,5] <| z [.e (some 14) (.call 112 [(.t 1),(k 0)]),c 15 134 [0,14],ex 16 0 15,ex 17 1 15,.e (some 7) (.al 104 (.agg #[(i 0),(i 0),(.slice none 0 0)])),s 3 7 17] [0,1,5,7] <| z [.e (some 21) (.call 112 [(.t 1),(k 1)]),c 22 134 [0,21],ex 23 0 22,ex 24 1 22,.e (some 9) (.al 104 (.agg #[(i 0),(i 0),(.slice none 0 0)])),s 3 9 24] [0,1,5,7,9] <| z [mk 10 0] [0,1,5,7,9,10] <| .seq (.block 0 (z [f 28 0 7,l 29 28,bk 30 .neq 29 1,f' 30 false 32 0 9,l' 30 false 33 32,bX 30 false 34 .neq 33 1,u 35 30 34,m 27 35] [0,1,5,7,9,10,27] <| j 27 (q [.e (some 37) (.call 132 [(.t 0),(k 5)])] [0,1,10]) (z [f 39 1 5,l 40 39,bk 41 .eql 40 4,f' 41 false 43 1 5,l' 41 false 44 43,bX 41 false 45 .eql 44 5,u 46 41 45,f' 46 true 48 1 9,l' 46 true 49 48,bX 46 true 50 .eql 49 0,a 51 46 50,m 38 51] [0,1,5,7,9,10,38] <| j 38 (q [.e (some 53) (.call 132 [(.t 0),(k 3)])] [0,1,10]) (z [f 55 1 5,l 56 55,bk 57 .eql 56 1,m 54 57] [0,1,5,7,9,54] <| j 54 (q [f 59 1 7,l 60 59,f 61 1 9,l 62 61,bi 63 .add 60 62,c 64 151 [63],.e (some 65) (.call 116 [(.t 0),(k 1),(.t 64),(.c (.slice none 0 0))]),m 10 65] [0,1,10]) (z [f 67 1 5,l 68 67,bk 69 .eql 68 2,m 66 69] [0,1,5,7,9,66] <| j 66 (q [f 71 1 7,l 72 71,f 73 1 9,l 74 73,bi 75 .sub 72 74,c 76 151 [75],.e (some 77) (.call 116 [(.t 0),(k 1),(.t 76),(.c (.slice none 0 0))]),m 10 77] [0,1,10]) (z [f 79 1 5,l 80 79,bk 81 .eql 80 3,m 78 81] [0,1,5,7,9,78] <| j 78 (q [f 83 1 7,l 84 83,f 85 1 9,l 86 85,bi 87 .mul 84 86,c 88 151 [87],.e (some 89) (.call 116 [(.t 0),(k 1),(.t 88),(.c (.slice none 0 0))]),m 10 89] [0,1,10]) (z [f 91 1 5,l 92 91,bk 93 .eql 92 4,m 90 93] [0,1,5,7,9,90] <| j 90 (q [f 95 1 7,l 96 95,f 97 1 9,l 98 97,bi 99 .quo 96 98,c 100 151 [99],.e (some 101) (.call 116 [(.t 0),(k 1),(.t 100),(.c (.slice none 0 0))]),m 10 101] [0,1,10]) (z [f 103 1 5,l 104 103,bk 105 .eql 104 5,m 102 105] [0,1,5,7,9,102] <| j 102 (q [f 107 1 7,l 108 107,f 109 1 9,l 110 109,bi 111 .rem 108 110,c 112 151 [111],.e (some 113) (.call 116 [(.t 0),(k 1),(.t 112),(.c (.slice none 0 0))]),m 10 113] [0,1,10]) (z [f 115 1 5,l 116 115,f 117 1 7,l 118 117,f 119 1 9,l 120 119,c 121 152 [116,118,120],m 114 121] [0,1,114] <| j 114 (q [.e (some 123) (.call 116 [(.t 0),(k 2),(k 1),(.c (.slice none 0 0))]),m 10 123] [0,1,10]) (q [.e (some 26) (.call 116 [(.t 0),(k 2),(k 0),(.c (.slice none 0 0))]),m 10 26] [0,1,10])))))))))) <| z [n 125 0,f 126 15 125,l 127 126,bk 128 .eql 127 0] [1,10,128] <| j 128 (z [.e (some 130) (.call 118 [(.t 1),(k 2)])] [1,10] <| q [c 133 111 [1,10]] []) (.skip)
theorem aeX:Fits Tryz.prog 127 3 (bb Tryz.f127 Lb) Lb [] 134:=.m Tryz.f127 _
def Lc:IR:=z [.e (some 5) (.bx 61 (.t 2))] [1,5] <| q [f 7 1 5,l 8 7,n 9 1,f 10 2 9,s 1 10 8] []
theorem aeY:Fits Tryz.prog 128 3 (bb Tryz.f128 Lc) Lc [] 11:=.m Tryz.f128 _
def Ld:IR:=z [.e (some 5) (.bx 61 (.t 2))] [0,1,5] <| z [.e (some 11) (.call 112 [(.t 1),(k 0)]),c 12 134 [0,11],ex 13 0 12,ex 14 1 12,.e (some 7) (.al 104 (.agg #[(i 0),(i 0),(.slice none 0 0)])),s 3 7 14] [0,1,5,7] <| .block 0 (z [f 16 0 7,l 17 16,bk 18 .neq 17 2,m 15 18] [0,1,5,7,15] <| j 15 (q [.e (some 20) (.call 132 [(.t 0),(k 5)])] []) (z [f 22 1 7,l 23 22,f 24 1 5,l 25 24,bi 26 .neq 23 25,m 21 26] [1,5,21] <| j 21 (q [f 28 2 5,l 29 28,n 30 1,f 31 2 30,s 1 31 29] []) (.skip)))
theorem aeZ:Fits Tryz.prog 129 3 (bb Tryz.f129 Ld) Ld [] 32:=.m Tryz.f129 _
def Le:IR:=z [.e (some 5) (.bx 61 (.t 2))] [0,1,5] <| z [.e (some 11) (.call 112 [(.t 1),(k 0)]),c 12 134 [0,11],ex 13 0 12,ex 14 1 12,.e (some 7) (.al 104 (.agg #[(i 0),(i 0),(.slice none 0 0)])),s 3 7 14] [0,1,5,7] <| .block 0 (z [f 16 0 7,l 17 16,bk 18 .neq 17 1,m 15 18] [0,1,5,7,15] <| j 15 (q [.e (some 20) (.call 132 [(.t 0),(k 5)])] []) (z [f 22 1 7,l 23 22,f 24 1 5,l 25 24,bi 26 .neq 23 25,m 21 26] [1,5,21] <| j 21 (q [f 28 2 5,l 29 28,n 30 1,f 31 2 30,s 1 31 29] []) (.skip)))
theorem ae0:Fits Tryz.prog 130 3 (bb Tryz.f130 Le) Le [] 32:=.m Tryz.f130 _
def Lf:IR:=z [.e (some 5) (.bx 61 (.t 2))] [0,5] <| q [f 7 1 5,l 8 7,c 9 132 [0,8]] []
theorem ae1:Fits Tryz.prog 131 3 (bb Tryz.f131 Lf) Lf [] 10:=.m Tryz.f131 _
def Lg:IR:=q [n 7 0,f 8 15 7,.e none (.st 1 (.t 8) (k 3)),n 9 0,f 10 16 9,s 1 10 1] []
theorem ae2:Fits Tryz.prog 132 2 (bb Tryz.f132 Lg) Lg [] 11:=.m Tryz.f132 _
def Lh:IR:=z [.e (some 5) (.bx 61 (.t 2))] [1] <| q [n 10 1,f 11 3 10,l 12 11,.r (some 13) (.ia 1 (.t 12) (k 0)),l 14 13,n 15 1,f 16 0 15,.e none (.st 1 (.t 16) (.c (.bool false))),n 17 1,f 18 5 17,s 1 18 14,n 19 1,f 20 3 19,.e none (.st 1 (.t 20) (.c (.slice none 0 0)))] []
theorem ae3:Fits Tryz.prog 133 3 (bb Tryz.f133 Lh) Lh [] 21:=.m Tryz.f133 _
def TM:IR:=.seq (z [f 17 0 6,l 18 17,bk 19 .eql 18 5,f' 19 true 21 2 6,l' 19 true 22 21,.gr 19 true (some 23) (.ia 1 (.t 22) (k 0)),l' 19 true 24 23,m' 19 true 25 1,eW 19 true 26 .neq 24 25,a 27 19 26] [0,1,5,6,27] <| j 27 (.skip) ((.exit 0))) <| .block 1 (z [f 28 2 6,l 29 28,.r (some 30) (.ia 1 (.t 29) (k 0)),l 31 30,m 1 31] [0,1,5,6] <| q [m 33 0,n 34 33,f 35 6 34,l 36 35,m 37 1,.e (some 38) (.raw ⟨(some 38),(.call { callee:=(.invoke (.tmp 36) "Get"),args:=#[(.tmp 37)],argTypes:=#[3]}),208, "machine.go:159",#[⟨3,.data⟩,⟨4,.data⟩],none⟩),m 32 38,ex 39 0 32,ex 40 1 32,s 3 6 39] [0,1,5,6])
def Li:IR:=z [.e (some 5) (.al 104 (.agg #[(i 0),(i 0),(.slice none 0 0)]))] [0,1,5] <| z [m 9 0,n 10 9,f 11 6 10,l 12 11,m 13 1,.e (some 14) (.raw ⟨(some 14),(.call { callee:=(.invoke (.tmp 12) "Get"),args:=#[(.tmp 13)],argTypes:=#[3]}),208, "machine.go:156",#[⟨3,.data⟩,⟨4,.data⟩],none⟩),m 8 14,ex 15 0 8,ex 16 1 8,.e (some 6) (.al 104 (.agg #[(i 0),(i 0),(.slice none 0 0)])),s 3 6 15,m 7 16] [0,1,5,6] <| .seq (.block 0 (.loop TM)) <| .seq (q' [m 41 1,ln 42 3 6,m 4 41,s 3 5 42] [4,5]) <| .ret
theorem ae4:Fits Tryz.prog 134 2 (bb Tryz.f134 Li) Li [.t 4,.n 5 3] 43:=.m Tryz.f134 _
def Lj:IR:=z [.e (some 1) (.bx 26 (.t 0))] [1] <| z [.r (some 3) (.mf (.func 153) [] [(.t 1)]),m 2 3] [2] <| .ret
theorem ae5:Fits Tryz.prog 135 1 (bb Tryz.f135 Lj) Lj [.t 2] 4:=.m Tryz.f135 _
def Lk:IR:=z [] [0,1] <| z [m 8 0,n 9 8,f 10 6 9,l 11 10,.e (some 12) (.raw ⟨(some 12),(.call { callee:=(.invoke (.tmp 11) "Used"),args:=#[],argTypes:=#[]}),3, "machine.go:139",#[⟨3,.data⟩],none⟩),m 5 12] [0,1,5] <| .seq (.seq (q' [m 13 1,m 14 0,n 15 14,f 16 3 15,f 17 0 16,l 18 17,m 19 5,bi 20 .sub 18 19,bi 21 .leq 13 20,m 22 21,m' 22 true 23 0,n' 22 true 24 23,f' 22 true 25 3 24,f' 22 true 26 1 25,l' 22 true 27 26,zC 22 true 28 27,m' 22 true 29 28,m' 29 false 30 5,m' 29 false 31 0,n' 29 false 32 31,f' 29 false 33 8 32,l' 29 false 34 33,eW 29 false 35 .sub 30 34,m' 29 false 36 1,eW 29 false 37 .add 35 36,m' 29 false 38 0,n' 29 false 39 38,f' 29 false 40 7 39,l' 29 false 41 40,eW 29 false 42 .leq 37 41,.gr 22 true (some 43) (.pk (.t 29) (.c (.bool true)) (.t 42)),a 44 22 43] [0,1,44]) <| j 44 (z [.r (some 4) (.mv (.c (.bool true)))] [4] <| .ret) (.skip)) <| .seq (.dr (r 0 46 (.mv (.t 0)) <| r 1 47 (.nn (.t 46)) <| r 2 48 (.fa 6 (.t 47)) <| r 3 49 (.l1 (.t 48)) <| r 4 50 (.mv (.t 1)) <| r 5 51 (.mv (.t 0)) <| r 7 53 (.nn (.t 49)) <| r 8 54 (.mv (.t 49)) <| .e 6 none (some 52) (.call 82 [(.t 51)]) [3] <| .e 9 none (some 55) (.raw ⟨(some 55),(.call { callee:=(.invoke (.tmp 54) "Room"),args:=#[(.tmp 50),(.tmp 52)],argTypes:=#[3,26]}),93, "machine.go:143",#[⟨8,.data⟩,⟨4,.data⟩,⟨6,.data⟩,⟨6,.chain⟩],none⟩) [] <| r 10 45 (.mv (.t 55)) <| r 11 56 (.ex 0 (.t 45)) <| r 12 57 (.ex 1 (.t 45)) <| r 13 6 (.mv (.t 56)) <| r 14 7 (.mv (.t 57)) <| .nil) [0,6,7]) <| .seq (z [bk 59 .neq 7 0] [0,6,59] <| j 59 (z [m 60 0,m 61 0,n 62 61,f 63 6 62,l 64 63,.e (some 65) (.raw ⟨(some 65),(.call { callee:=(.invoke (.tmp 64) "Used"),args:=#[],argTypes:=#[]}),3, "machine.go:145",#[⟨4,.data⟩],none⟩),n 66 60,f 67 17 66,s 1 67 65] [0] <| z [n 69 0,f 70 15 69,.e none (.st 1 (.t 70) (k 5))] [] <| z [.r (some 4) (.mv (.c (.bool false)))] [4] <| .ret) (.skip)) <| z [c 73 83 [0,6]] [0] <| z [m 74 0,m 75 0,n 76 75,f 77 6 76,l 78 77,.e (some 79) (.raw ⟨(some 79),(.call { callee:=(.invoke (.tmp 78) "Used"),args:=#[],argTypes:=#[]}),3, "machine.go:150",#[⟨4,.data⟩],none⟩),n 80 74,f 81 8 80,s 1 81 79] [] <| z [.r (some 4) (.mv (.c (.bool true)))] [4] <| .ret
theorem ae6:Fits Tryz.prog 136 2 (bb Tryz.f136 Lk) Lk [.t 4] 82:=.m Tryz.f136 _
def TN:IR:=z [bi 41 .lss 40 39] [0,1,3,8,10,38,39,40,41] <| .seq (j 41 (.skip) ((.exit 0))) <| .seq (.block 1 (z [ia 43 1 38 40,l 44 43,m 11 40,m 12 44] [0,1,3,8,10,11,12,38,39,40] <| z [c 48 134 [0,12],ex 49 0 48,ex 50 1 48,.e (some 14) (.al 104 (.agg #[(i 0),(i 0),(.slice none 0 0)])),m 13 49,s 3 14 50] [0,1,3,8,10,11,13,14,38,39,40] <| .seq (z [f 51 0 14,l 52 51,bk 53 .neq 52 3] [0,1,3,8,10,11,13,14,38,39,40,53] <| j 53 (z [.e (some 55) (.call 132 [(.t 0),(k 5)])] [] <| .ret) (.skip)) <| .seq (z [bk 57 .eql 11 0] [0,1,3,8,10,13,14,38,39,40,57] <| j 57 (q [.r (some 60) (.ia 1 (.t 10) (k 0)),s 1 60 13] [0,1,3,8,10,14,38,39,40]) (.skip)) <| q [f 62 2 14,l 63 62,.r (some 64) (.ia 1 (.t 63) (k 1)),l 65 64,.e (some 66) (.bs 3 1 #[(i 0)] [(0,1,(.t 65))]),.e (some 67) (.ap 3 1 8 #[(i 0)] (.t 10) (.t 66)),m 10 67] [0,1,3,8,10,38,39,40])) <| q [bk 68 .add 40 1,m 40 68] [0,1,3,8,10,38,39,40]
def Ll:IR:=z [n 16 0,f 17 0 16,f 18 1 17,l 19 18,ia 21 3 19 3,f 22 1 21,l 23 22,m 8 23] [0,1,2,3,8] <| .seq (q' [m 24 1,n 25 24,f 26 4 25,l 27 26,m 28 1,n 29 28,f 30 4 29,l 31 30,le 32 31,m 33 8,bi 34 .sub 32 33,.r (some 35) (.sl 1 (.t 27) (some (.t 34)) none none),m 9 35] [0,1,2,3,8,9]) <| z [.e (some 37) (.bs 3 1 #[(i 0)] [(0,1,(.t 2))]),m 10 37] [0,1,3,8,9,10] <| .seq (z [m 38 9,le 39 38,mk 40 0] [0,1,3,8,10,38,39,40] <| .block 0 (.loop TN)) <| .seq (q' [m 69 0,n 70 69,f 71 6 70,l 72 71,m 73 10,.r (some 74) (.ia 1 (.t 73) (k 0)),l 75 74,.r (some 76) (.bd #[(i 0),(i 0),(.slice none 0 0)] [(0,1,(k 7))]),n 77 72,m 78 72,.e (some 79) (.raw ⟨(some 79),(.call { callee:=(.invoke (.tmp 78) "Set"),args:=#[(.tmp 75),(.tmp 76)],argTypes:=#[3,104]}),33, "machine.go:279",#[⟨9,.data⟩,⟨6,.data⟩,⟨7,.data⟩],none⟩)] [1,3,8,10]) <| .seq (q' [m 80 1,m 81 1,n 82 81,f 83 4 82,l 84 83,m 85 1,n 86 85,f 87 4 86,l 88 87,le 89 88,m 90 8,bi 91 .sub 89 90,.r (some 92) (.sl 1 (.t 84) none (some (.t 91)) none),n 93 80,f 94 4 93,s 1 94 92] [1,3,10]) <| q [n 101 1,f 102 0 101,.e none (.st 1 (.t 102) (.c (.bool true))),n 103 1,f 104 1 103,s 1 104 3,n 105 1,f 106 2 105,.e none (.st 1 (.t 106) (k 0)),n 107 1,f 108 3 107,s 1 108 10] []
theorem ae7:Fits Tryz.prog 137 4 (bb Tryz.f137 Ll) Ll [] 109:=.m Tryz.f137 _
def Lm:IR:=.block 0 (z [n 8 0,f 9 10 8,l 10 9,le 11 10,bk 12 .gtr 11 1,m 6 12] [0,1,6] <| j 6 (q [c 14 139 [0]] []) (z [n 17 0,f 18 12 17,l 19 18,m' 19 false 21 0,n' 19 false 22 21,f' 19 false 23 13 22,l' 19 false 24 23,jF 19 false 25 24,bX 19 false 26 .gtr 25 0,u 27 19 26,m 15 27] [0,1,15] <| j 15 (q [.e (some 29) (.call 132 [(.t 0),(k 5)])] []) (z [.e (some 32) (.call 136 [(.t 0),(k 2)]),m 30 32] [0,1,30] <| j 30 (z [n 34 0,f 35 12 34,.e none (.st 1 (.t 35) (.c (.bool true)))] [0,1] <| z [n 37 0,f 38 11 37,l 39 38,le 40 39,bk 41 .sub 40 1,m 4 41] [0,1,4] <| z [.e (some 43) (.call 116 [(.t 0),(k 8),(k 0),(.c (.slice none 0 0))]),m 5 43] [0,1,4,5] <| .seq (.dr (r 0 44 (.mv (.t 0)) <| r 1 45 (.nn (.t 44)) <| r 2 46 (.fa 11 (.t 45)) <| r 3 47 (.l1 (.t 46)) <| r 4 48 (.mv (.t 4)) <| r 5 49 (.mv (.t 0)) <| r 6 50 (.mv (.t 0)) <| r 7 51 (.nn (.t 50)) <| r 8 52 (.fa 11 (.t 51)) <| r 9 53 (.l1 (.t 52)) <| r 10 54 (.mv (.t 4)) <| r 11 55 (.ia 1 (.t 53) (.t 54)) <| r 12 56 (.l1 (.t 55)) <| r 13 57 (.mv (.t 5)) <| .e 14 none (some 58) (.bs 3 2 #[(i 0),(i 0)] [(0,1,(.t 56)),(1,1,(.t 57))]) [3] <| .e 15 none (some 59) (.call 116 [(.t 49),(k 3),(k 0),(.t 58)]) [3] <| r 16 60 (.ia 1 (.t 47) (.t 48)) <| .e 17 none none (.st 1 (.t 60) (.t 59)) [] <| .nil) [0,1,4]) <| q [n 64 0,f 65 11 64,l 66 65,ia 68 1 66 4,l 69 68,n 70 1,f 71 5 70,s 1 71 69,n 72 1,f 73 4 72,.e none (.st 1 (.t 73) (.c (.slice none 0 0)))] []) (.skip))))
theorem ae8:Fits Tryz.prog 138 2 (bb Tryz.f138 Lm) Lm [] 74:=.m Tryz.f138 _
def Ln:IR:=q' [m 2 0,m 3 0,n 4 3,f 5 10 4,l 6 5,m 7 0,n 8 7,f 9 10 8,l 10 9,le 11 10,bk 12 .sub 11 1,.r (some 13) (.sl 1 (.t 6) none (some (.t 12)) none),n 14 2,f 15 10 14,s 1 15 13] []
theorem ae9:Fits Tryz.prog 139 1 (bb Tryz.f139 Ln) Ln [] 16:=.m Tryz.f139 _
def Lo:IR:=.seq (z [n 14 0,f 15 2 14,l 16 15,le 17 16,bi 18 .geq 2 17] [0,1,2,18] <| j 18 (z [n 22 1,f 23 5 22,l 24 23,c 25 134 [0,24],ex 26 0 25,ex 27 1 25,.e (some 7) (.al 104 (.agg #[(i 0),(i 0),(.slice none 0 0)])),m 6 26,s 3 7 27] [0,6] <| z [m 28 0,n 29 28,f 30 6 29,l 31 30,m 32 6,.r (some 33) (.bd #[(i 0),(i 0),(.slice none 0 0)] [(0,1,(k 2)),(1,1,(k 3))]),.e (some 34) (.raw ⟨(some 34),(.call { callee:=(.invoke (.tmp 31) "Set"),args:=#[(.tmp 32),(.tmp 33)],argTypes:=#[3,104]}),33, "machine.go:304",#[⟨3,.data⟩,⟨4,.data⟩,⟨5,.data⟩],none⟩)] [] <| .ret) (.skip)) <| z [.e (some 36) (.call 136 [(.t 0),(k 2)])] [0,1,2,36] <| j 36 (z [n 40 1,f 41 5 40,l 42 41,c 43 134 [0,42],ex 44 0 43,ex 45 1 43,.e (some 9) (.al 104 (.agg #[(i 0),(i 0),(.slice none 0 0)])),m 8 44,s 3 9 45] [0,2,8] <| z [n 48 0,f 49 2 48,l 50 49,ia 52 1 50 2,l 53 52,.e (some 54) (.call 116 [(.t 0),(k 1),(.t 53),(.c (.slice none 0 0))]),m 10 54] [0,2,8,10] <| z [bk 57 .add 2 1,.e (some 58) (.call 116 [(.t 0),(k 8),(.t 57),(.c (.slice none 0 0))]),m 11 58] [0,8,10,11] <| q [m 59 0,n 60 59,f 61 6 60,l 62 61,m 63 8,m 64 10,m 65 11,.e (some 66) (.bs 3 2 #[(i 0),(i 0)] [(0,1,(.t 64)),(1,1,(.t 65))]),.r (some 67) (.bd #[(i 0),(i 0),(.slice none 0 0)] [(0,1,(k 2)),(1,1,(k 4)),(2,1,(.t 66))]),.e (some 68) (.raw ⟨(some 68),(.call { callee:=(.invoke (.tmp 62) "Set"),args:=#[(.tmp 63),(.tmp 67)],argTypes:=#[3,104]}),33, "machine.go:311",#[⟨3,.data⟩,⟨4,.data⟩,⟨8,.data⟩],none⟩)] []) (.skip)
theorem ae':Fits Tryz.prog 140 3 (bb Tryz.f140 Lo) Lo [] 69:=.m Tryz.f140 _
def Lp:IR:=z [.e (some 2) (.al 194 (.agg #[(.string ⟨#[]⟩),(i 0),(i 0)]))] [0,2] <| z [.r (some 5) (.bd #[(.string ⟨#[]⟩),(i 0),(i 0)] []),.r (some 6) (.bd #[(.string ⟨#[]⟩),(i 0),(i 0)] [(0,1,(.c (.string ⟨#[112,117,115,104]⟩))),(1,1,(k 1)),(2,1,(k 0))]),.r (some 7) (.bd #[(.string ⟨#[]⟩),(i 0),(i 0)] [(0,1,(.c (.string ⟨#[103,108,111,98]⟩))),(1,1,(k 4)),(2,1,(k 0))]),.r (some 8) (.bd #[(.string ⟨#[]⟩),(i 0),(i 0)] [(0,1,(.c (.string ⟨#[105,110,116]⟩))),(1,1,(k 3)),(2,1,(k 0))]),.r (some 9) (.bd #[(.string ⟨#[]⟩),(i 0),(i 0)] [(0,1,(.c (.string ⟨#[112,111,112]⟩))),(1,1,(k 1)),(2,1,(k 0))]),.r (some 10) (.bd #[(.string ⟨#[]⟩),(i 0),(i 0)] [(0,1,(.c (.string ⟨#[115,108,105,100,101]⟩))),(1,1,(k 1)),(2,1,(k 0))]),.r (some 11) (.bd #[(.string ⟨#[]⟩),(i 0),(i 0)] [(0,1,(.c (.string ⟨#[97,112,112,108,121]⟩))),(1,1,(k 0)),(2,1,(k 0))]),.r (some 12) (.bd #[(.string ⟨#[]⟩),(i 0),(i 0)] [(0,1,(.c (.string ⟨#[117,112,100,97,116,101]⟩))),(1,1,(k 2)),(2,1,(k 0))]),.r (some 13) (.bd #[(.string ⟨#[]⟩),(i 0),(i 0)] [(0,1,(.c (.string ⟨#[97,108,108,111,99]⟩))),(1,1,(k 1)),(2,1,(k 0))]),.r (some 14) (.bd #[(.string ⟨#[]⟩),(i 0),(i 0)] [(0,1,(.c (.string ⟨#[112,97,99,107]⟩))),(1,1,(k 5)),(2,1,(k 0))]),.r (some 15) (.bd #[(.string ⟨#[]⟩),(i 0),(i 0)] [(0,1,(.c (.string ⟨#[115,112,108,105,116]⟩))),(1,1,(k 5)),(2,1,(k 0))]),.r (some 16) (.bd #[(.string ⟨#[]⟩),(i 0),(i 0)] [(0,1,(.c (.string ⟨#[101,118,97,108]⟩))),(1,1,(k 0)),(2,1,(k 0))]),.r (some 17) (.bd #[(.string ⟨#[]⟩),(i 0),(i 0)] [(0,1,(.c (.string ⟨#[97,114,105,116,104]⟩))),(1,1,(k 6)),(2,1,(k 0))]),.r (some 18) (.bd #[(.string ⟨#[]⟩),(i 0),(i 0)] [(0,1,(.c (.string ⟨#[106,117,109,112]⟩))),(1,1,(k 8)),(2,1,(k 0))]),.r (some 19) (.bd #[(.string ⟨#[]⟩),(i 0),(i 0)] [(0,1,(.c (.string ⟨#[116,101,115,116,99,111,110]⟩))),(1,1,(k 5)),(2,1,(k 8))]),.r (some 20) (.bd #[(.string ⟨#[]⟩),(i 0),(i 0)] [(0,1,(.c (.string ⟨#[116,101,115,116,105,110,116]⟩))),(1,1,(k 3)),(2,1,(k 8))]),.r (some 21) (.bd #[(.string ⟨#[]⟩),(i 0),(i 0)] [(0,1,(.c (.string ⟨#[102,97,105,108]⟩))),(1,1,(k 7)),(2,1,(k 0))]),.r (some 22) (.bd #[(.string ⟨#[]⟩),(i 0),(i 0)] [(0,1,(.c (.string ⟨#[117,110,119,105,110,100]⟩))),(1,1,(k 0)),(2,1,(k 0))]),.e (some 23) (.raw ⟨(some 23),(.build 220 #[(0,(.tmp 5)),(1,(.tmp 6)),(2,(.tmp 7)),(3,(.tmp 8)),(4,(.tmp 9)),(5,(.tmp 10)),(6,(.tmp 11)),(7,(.tmp 12)),(8,(.tmp 13)),(9,(.tmp 14)),(10,(.tmp 15)),(11,(.tmp 16)),(12,(.tmp 17)),(13,(.tmp 18)),(14,(.tmp 19)),(15,(.tmp 20)),(16,(.tmp 21)),(17,(.tmp 22))]),220, "check.go:27",#[⟨0,.data⟩,⟨1,.data⟩,⟨2,.data⟩,⟨3,.data⟩,⟨4,.data⟩,⟨5,.data⟩,⟨6,.data⟩,⟨7,.data⟩,⟨8,.data⟩,⟨9,.data⟩,⟨10,.data⟩,⟨11,.data⟩,⟨12,.data⟩,⟨13,.data⟩,⟨14,.data⟩,⟨15,.data⟩,⟨16,.data⟩,⟨17,.data⟩],none⟩),.e (some 4) (.al 220 (.agg #[(.string ⟨#[]⟩),(i 0),(i 0),(.string ⟨#[]⟩),(i 0),(i 0),(.string ⟨#[]⟩),(i 0),(i 0),(.string ⟨#[]⟩),(i 0),(i 0),(.string ⟨#[]⟩),(i 0),(i 0),(.string ⟨#[]⟩),(i 0),(i 0),(.string ⟨#[]⟩),(i 0),(i 0),(.string ⟨#[]⟩),(i 0),(i 0),(.string ⟨#[]⟩),(i 0),(i 0),(.string ⟨#[]⟩),(i 0),(i 0),(.string ⟨#[]⟩),(i 0),(i 0),(.string ⟨#[]⟩),(i 0),(i 0),(.string ⟨#[]⟩),(i 0),(i 0),(.string ⟨#[]⟩),(i 0),(i 0),(.string ⟨#[]⟩),(i 0),(i 0),(.string ⟨#[]⟩),(i 0),(i 0),(.string ⟨#[]⟩),(i 0),(i 0),(.string ⟨#[]⟩),(i 0),(i 0)])),s 54 4 23] [0,2,4] <| .seq (z [bk 25 .lss 0 1,m' 25 false 27 0,bX 25 false 28 .geq 27 18,u 29 25 28] [0,2,4,29] <| j 29 (z [.r (some 30) (.bd #[(.string ⟨#[]⟩),(i 0),(i 0)] []),s 3 2 30,.r (some 3) (.mv (.c (.bool false)))] [2,3] <| .ret) (.skip)) <| z [m 31 0,.e (some 32) (.raw ⟨(some 32),(.indexAddr 220 (.tmp 4) (.tmp 31)),0, "check.go:33",#[⟨0,.data⟩],none⟩),ln 33 3 32,s 3 2 33,.r (some 3) (.mv (.c (.bool true)))] [2,3] <| .ret
theorem afa:Fits Tryz.prog 147 1 (bb Tryz.f147 Lp) Lp [.n 2 3,.t 3] 34:=.m Tryz.f147 _
def Lq:IR:=z [.e (some 5) (.bx 25 (.t 0)),.e (some 6) (.bx 59 (.t 1))] [2,3,4,5,6] <| z [.r (some 11) (.mv (.c (.bool true)))] [2,3,4,5,6,11] <| .seq (z [m 12 4] [2,3,5,6,11,12] <| .block 0 (z [bk 14 .eql 12 0,m 13 14] [2,3,5,6,11,12,13] <| j 13 (q [bk 16 .eql 3 0,m 11 16] [11]) (z [bk 18 .eql 12 1,m 17 18] [2,3,5,6,11,12,17] <| j 17 (q [bk 20 .geq 3 0,m 11 20] [11]) (z [bk 22 .eql 12 2,m 21 22] [2,3,5,6,11,12,21] <| j 21 (q [bk 24 .geq 3 1,m 11 24] [11]) (z [bk 26 .eql 12 3,m 25 26] [2,3,5,6,11,12,25] <| j 25 (q [bk 28 .geq 3 (-4611686018427387904),m' 28 true 30 3,bX 28 true 31 .leq 30 4611686018427387903,a 32 28 31,m 11 32] [11]) (z [bk 34 .eql 12 4,m 33 34] [2,3,5,6,11,12,33] <| j 33 (q [bk 36 .geq 3 0,m' 36 true 38 3,f' 36 true 39 1 5,l' 36 true 40 39,jF 36 true 41 40,eW 36 true 42 .lss 38 41,a 43 36 42,m 11 43] [11]) (z [bk 45 .eql 12 5,m 44 45] [2,3,5,6,11,12,44] <| j 44 (q [bk 47 .geq 3 0,m' 47 true 49 3,f' 47 true 50 0 5,l' 47 true 51 50,jF 47 true 52 51,eW 47 true 53 .lss 49 52,a 54 47 53,m 11 54] [11]) (z [bk 56 .eql 12 6,m 55 56] [2,3,6,11,12,55] <| j 55 (q [bk 58 .geq 3 1,m' 58 true 60 3,bX 58 true 61 .leq 60 11,a 62 58 61,m 11 62] [11]) (z [bk 64 .eql 12 7,m 63 64] [2,3,6,11,12,63] <| j 63 (q [bk 66 .geq 3 1,m' 66 true 68 3,bX 66 true 69 .leq 68 4,a 70 66 69,m 11 70] [11]) (z [bk 72 .eql 12 8,m 71 72] [2,3,6,11,71] <| j 71 (z [bi 75 .leq 3 2,m' 75 false 77 3,f' 75 false 78 2 6,l' 75 false 79 78,jF 75 false 80 79,eW 75 false 81 .geq 77 80,u 82 75 81] [11,82] <| j 82 (z [mk 10 174] [10] <| .ret) (.skip)) (.skip))))))))))) <| .seq (z [no 84 11] [84] <| j 84 (z [mk 10 172] [10] <| .ret) (.skip)) <| z [mk 10 0] [10] <| .ret
theorem afb:Fits Tryz.prog 148 5 (bb Tryz.f148 Lq) Lq [.t 10] 85:=.m Tryz.f148 _
def Lr:IR:=z [.e (some 3) (.bx 25 (.t 0)),.e (some 4) (.bx 61 (.t 1))] [2,3,4] <| z [.r (some 8) (.mv (.c (.bool true))),m 9 2] [2,3,4,8,9] <| .seq (z [f 12 0 4,l 13 12] [2,3,4,8,9,13] <| .block 0 (z [bk 15 .eql 13 1,m 14 15] [2,3,4,8,9,13,14] <| j 14 (q [f 16 1 4,l 17 16,bi 19 .lss 17 2,bk 21 .add 2 1,m 8 19,m 9 21] [8,9]) (.seq (z [bk 23 .eql 13 2,m 22 23] [2,3,4,8,9,13,22] <| j 22 (.skip) (q [bk 24 .eql 13 3,m 22 24] [2,3,4,8,9,13,22])) <| j 22 (q [bk 26 .add 2 1,m 9 26] [8,9]) (z [bk 28 .eql 13 4,m 27 28] [2,3,4,8,9,13,27] <| j 27 (q' [f 29 1 4,l 30 29,m 31 2,bi 32 .lss 30 31,m 33 2,f 34 1 4,l 35 34,bi 36 .sub 33 35,m 8 32,m 9 36] [8,9]) (z [bk 38 .eql 13 5,m 37 38] [2,3,4,8,9,13,37] <| j 37 (q' [f 39 1 4,l 40 39,m 41 2,bk 42 .sub 41 1,bi 43 .lss 40 42,m 44 2,f 45 1 4,l 46 45,bi 47 .sub 44 46,m 8 43,m 9 47] [8,9]) (.seq (z [bk 49 .eql 13 6,m 48 49] [2,3,4,8,9,13,48] <| j 48 (.skip) (q [bk 50 .eql 13 12,m 48 50] [2,3,4,8,9,13,48])) <| j 48 (q [bk 52 .gtr 2 2,bk 54 .sub 2 1,m 8 52,m 9 54] [8,9]) (z [bk 56 .eql 13 7,m 55 56] [2,3,4,8,9,13,55] <| j 55 (q [f 57 1 4,l 58 57,bi 60 .lss 58 2,bk 62 .sub 2 1,m 8 60,m 9 62] [8,9]) (z [bk 64 .eql 13 8,m 63 64] [2,3,4,8,9,13,63] <| j 63 (q' [f 65 1 4,l 66 65,bk 67 .leq 66 8000,m 68 2,f 69 1 4,l 70 69,.r (some 71) (.mm false (.t 70) (k 8000)),bi 72 .add 68 71,m 8 67,m 9 72] [8,9]) (z [bk 74 .eql 13 9,m 73 74] [2,3,4,8,9,13,73] <| j 73 (z [f 75 0 3,l 76 75,f 77 1 4,l 78 77,ia 79 2 76 78,f 80 1 79,l 81 80,m 10 81] [2,10] <| q [bi 84 .lss 10 2,bi 87 .sub 2 10,bk 88 .add 87 1,m 8 84,m 9 88] [8,9]) (z [bk 90 .eql 13 10,m 89 90] [2,3,4,8,9,13,89] <| j 89 (q' [m 91 2,bk 92 .gtr 91 1,m 93 2,bk 94 .sub 93 1,f 95 0 3,l 96 95,f 97 1 4,l 98 97,ia 99 2 96 98,f 100 1 99,l 101 100,bi 102 .add 94 101,m 8 92,m 9 102] [8,9]) (.seq (z [bk 104 .eql 13 11,m 103 104] [2,8,9,13,103] <| j 103 (.skip) (z [bk 105 .eql 13 14,m 103 105] [2,8,9,13,103] <| j 103 (.skip) (q [bk 106 .eql 13 15,m 103 106] [2,8,9,13,103]))) <| j 103 (q [bk 108 .gtr 2 1,m 8 108] [8,9]) (z [bk 110 .eql 13 17,m 109 110] [2,8,9,109] <| j 109 (q [bk 112 .eql 2 1,m 8 112] [8,9]) (.skip))))))))))))) <| z [m' 8 true 116 9,bX 8 true 117 .leq 116 8000,a 118 8 117,m 6 9,m 7 118] [6,7] <| .ret
theorem afc:Fits Tryz.prog 149 3 (bb Tryz.f149 Lr) Lr [.t 6,.t 7] 119:=.m Tryz.f149 _
def Ls:IR:=z [] [0,1,2] <| .seq (z [ia 9 1 0 1,l 10 9,bk 11 .eql 10 0] [0,1,2,11] <| j 11 (q [ia 15 1 0 1,s 1 15 2] [0,1,2]) (.skip)) <| z [ia 18 1 0 1,l 19 18,bi 21 .eql 19 2,m 6 21] [6] <| .ret
theorem afd:Fits Tryz.prog 150 3 (bb Tryz.f150 Ls) Ls [.t 6] 22:=.m Tryz.f150 _
def Lt:IR:=z [] [0] <| z [.r (some 4) (.bi .shl (.t 0) (.c (.int .u64 1))),.r (some 5) (.bi .shr (.t 4) (.c (.int .u64 1))),m 2 5] [2] <| .ret
theorem afe:Fits Tryz.prog 151 1 (bb Tryz.f151 Lt) Lt [.t 2] 6:=.m Tryz.f151 _
def Lu:IR:=z [] [0,1,2] <| .seq (z [m 7 0] [1,2,7] <| .block 0 (z [bk 9 .eql 7 6,m 8 9] [1,2,7,8] <| j 8 (z [bi 12 .eql 1 2,m 6 12] [6] <| .ret) (z [bk 14 .eql 7 7,m 13 14] [1,2,7,13] <| j 13 (z [bi 17 .neq 1 2,m 6 17] [6] <| .ret) (z [bk 19 .eql 7 8,m 18 19] [1,2,7,18] <| j 18 (z [bi 22 .lss 1 2,m 6 22] [6] <| .ret) (z [bk 24 .eql 7 9,m 23 24] [1,2,7,23] <| j 23 (z [bi 27 .leq 1 2,m 6 27] [6] <| .ret) (z [bk 29 .eql 7 10,m 28 29] [1,2,28] <| j 28 (z [bi 32 .gtr 1 2,m 6 32] [6] <| .ret) (.skip))))))) <| z [bi 35 .geq 1 2,m 6 35] [6] <| .ret
theorem aff:Fits Tryz.prog 152 3 (bb Tryz.f152 Lu) Lu [.t 6] 36:=.m Tryz.f152 _
end
section
open Go Go.W
theorem afg (a:Addr) (w:World):(method (Tryz.prog.types.size+Made.depth) 172 (.pointer (some a)) "Add").run Tryz.prog w = .ok (231,.pointer (some a)) w:=by kernel_rfl
theorem afh (a:Addr) (w:World):(method (Tryz.prog.types.size+Made.depth) 172 (.pointer (some a)) "Get").run Tryz.prog w = .ok (234,.pointer (some a)) w:=by kernel_rfl
theorem afi (a:Addr) (w:World):(method (Tryz.prog.types.size+Made.depth) 172 (.pointer (some a)) "Set").run Tryz.prog w = .ok (236,.pointer (some a)) w:=by kernel_rfl
theorem afj (a:Addr) (w:World):(method (Tryz.prog.types.size+Made.depth) 172 (.pointer (some a)) "Room").run Tryz.prog w = .ok (235,.pointer (some a)) w:=by kernel_rfl
theorem afk (a:Addr) (w:World):(method (Tryz.prog.types.size+Made.depth) 172 (.pointer (some a)) "Collect").run Tryz.prog w = .ok (232,.pointer (some a)) w:=by kernel_rfl
theorem afl (a:Addr) (w:World):(method (Tryz.prog.types.size+Made.depth) 172 (.pointer (some a)) "Used").run Tryz.prog w = .ok (237,.pointer (some a)) w:=by kernel_rfl
theorem afm (a:Addr) (w:World):(method (Tryz.prog.types.size+Made.depth) 169 (.pointer (some a)) "Add").run Tryz.prog w = .ok (186,.pointer (some a)) w:=by kernel_rfl
theorem afn (a:Addr) (w:World):(method (Tryz.prog.types.size+Made.depth) 169 (.pointer (some a)) "Get").run Tryz.prog w = .ok (189,.pointer (some a)) w:=by kernel_rfl
theorem afo (a:Addr) (w:World):(method (Tryz.prog.types.size+Made.depth) 169 (.pointer (some a)) "Set").run Tryz.prog w = .ok (191,.pointer (some a)) w:=by kernel_rfl
theorem afp (a:Addr) (w:World):(method (Tryz.prog.types.size+Made.depth) 169 (.pointer (some a)) "Room").run Tryz.prog w = .ok (190,.pointer (some a)) w:=by kernel_rfl
theorem afq (a:Addr) (w:World):(method (Tryz.prog.types.size+Made.depth) 169 (.pointer (some a)) "Collect").run Tryz.prog w = .ok (187,.pointer (some a)) w:=by kernel_rfl
theorem afr (a:Addr) (w:World):(method (Tryz.prog.types.size+Made.depth) 169 (.pointer (some a)) "Used").run Tryz.prog w = .ok (192,.pointer (some a)) w:=by kernel_rfl
inductive Kd where
 | hp (times:Int)
 | gn (bB:Int) (old:Nat) (times:Int)
 | ref
structure St where
 kd:Kd
 size:Int
 ns:List Nd
def Kd.ok (n:Nat):Kd→Prop
 | .gn y o _=>o≤n∧0≤y∧y≤1048576
 | _=>True
structure St.Ok (s:St):Prop where
 wf:WF s.ns
 len:(s.ns.length:Int)≤s.size
 lo:1≤s.size
 hi:s.size≤1048576
 kd:s.kd.ok s.ns.length
theorem St.Ok.n {s:St} (h:s.Ok):s.ns.length≤1048576:=by have:=h.len;have:=h.hi;omega
theorem Fk {ns:List Nd} (hw:WF ns):∀ nd∈ns,nd.args.length≤8:=by
 intro nd b9;have h:=(hw nd b9).1;simp only [Nd.may,gP,decide_eq_true_eq] at h;omega
def gJ (w:World) (sv:Value) (s:St) (F:Nat→Prop):Prop:=
 match s.kd with
 | .hp t=>∃ a,sv = .iface 172 (.pointer (some ⟨a,0,none⟩))∧jU 205 277 w a s.size t s.ns F
 | .gn y o t=>∃ a,sv = .iface 169 (.pointer (some ⟨a,0,none⟩))∧iZ w a s.size y o t s.ns F
 | .ref=>False
theorem gJ.lt {w:World} {sv:Value} {s:St} {F:Nat→Prop} (h:gJ w sv s F):∀ b,F b→b < w.heap.size:=by
 obtain ⟨kd,sz,ns⟩:=s;cases kd with
 | hp t=>obtain ⟨a,_,h⟩:=h;obtain ⟨_,_,_,_,_,_,_,_,_,h⟩:=h;exact h
 | gn y o t=>obtain ⟨a,_,h⟩:=h;exact zR h
 | ref=>exact h.elim
theorem gJ.mod {w w':World} {sv:Value} {s:St} {F S:Nat→Prop} (h:gJ w sv s F) (hm:Mod S w w') (hd:∀ b,F b→¬ S b):gJ w' sv s F:=by
 obtain ⟨kd,sz,ns⟩:=s;cases kd with
 | hp t=>obtain ⟨a,e,h⟩:=h;exact ⟨a,e,h.mod hm hd⟩
 | gn y o t=>obtain ⟨a,e,h⟩:=h;exact ⟨a,e,kq h hm hd⟩
 | ref=>exact h.elim
def dX (s:St) (n:Int) (roots:List Int):Option (List Int)×St:=
 match s.kd with
 | .hp t=>((iY s.size t s.ns n roots).out,⟨.hp (iY s.size t s.ns n roots).times,s.size,(iY s.size t s.ns n roots).ns⟩)
 | .gn y o t=>((iL s.size y o t s.ns n roots).jD,⟨.gn y (iL s.size y o t s.ns n roots).old (iL s.size y o t s.ns n roots).times,s.size,(iL s.size y o t s.ns n roots).ns⟩)
 | .ref=>if n > s.size - (jl s.ns roots).length then (none,s) else (some (mj s.ns roots),⟨.ref,s.size,jl s.ns roots⟩)
def mB (s:St) (roots:List Int):List Int×St:=
 match s.kd with
 | .hp t=>(mj s.ns roots,⟨.hp (IntKind.i64.wrap (t+1)),s.size,jl s.ns roots⟩)
 | .gn y o t=>(eR s.ns 0 roots,⟨.gn y (ch s.ns 0 roots).length (IntKind.i64.wrap (t+1)),s.size,ch s.ns 0 roots⟩)
 | .ref=>(mj s.ns roots,⟨.ref,s.size,jl s.ns roots⟩)
section
variable {d:Option Nat} {ty:TypeId} {pos:String} {af:Array Edge} {ρ:Env} {w:World} {K:Value→World→Prop} {x:Operand} {args:Array Operand} {at':Array TypeId} {sv:Value} {s:St} {F:Nat→Prop}
theorem Fl (U:(bf x).ev ρ=some sv) (h:gJ w sv s F) (hk:K (I s.ns.length) w):E.wp Tryz.prog w ρ K (.raw ⟨d,.call { callee:=.invoke x "Used",args:=#[],argTypes:=at'},ty,pos,af,none⟩):=by
 obtain ⟨kd,sz,ns⟩:=s;cases kd with
 | ref=>exact h.elim
 | hp t=>
  obtain ⟨a,rfl,h⟩:=h;refine pO U rfl (afl _ _) Tryz.func237 rfl rfl ((aaS a _ _ _ _ w h).mono ?_);rintro r _ ⟨rfl,rfl⟩;exact hk
 | gn y o t=>
  obtain ⟨a,rfl,h⟩:=h;refine pO U rfl (afr _ _) Tryz.func192 rfl rfl ((ab9 w a _ _ _ _ _ _ h).mono ?_);rintro r _ ⟨rfl,rfl⟩;exact hk
theorem TO {p:Int} (U:(bf x).ev ρ=some sv) (ha:eP ρ (args.toList.map bf)=some [I p]) (h:gJ w sv s F) (hw:WF s.ns) (hn:s.ns.length≤1048576) (hp:0≤p∧p < s.ns.length)
   (hk:∀ v w',xC w w' v (ai s.ns p.toNat).args→Mod (fun _=>False) w w'→K (.tuple #[.agg #[I (ai s.ns p.toNat).kind,I (ai s.ns p.toNat).num,v],I 0]) w') :
   E.wp Tryz.prog w ρ K (.raw ⟨d,.call { callee:=.invoke x "Get",args:=args,argTypes:=at'},ty,pos,af,none⟩):=by
 obtain ⟨i,rfl⟩:∃ i:Nat,p=i:=⟨p.toNat,by omega⟩;rw [Int.toNat_natCast] at hk;have hi:i < s.ns.length:=by omega
 obtain ⟨kd,sz,ns⟩:=s;cases kd with
 | ref=>exact h.elim
 | hp t=>
  obtain ⟨a,rfl,h⟩:=h;refine pO U ha (afh _ _) Tryz.func234 rfl rfl ((aaZ a _ _ _ _ _ w h hn (Fk hw)).mono ?_);rintro r w' ⟨h1,h2,_⟩;obtain ⟨v,rfl,h3⟩:=h2 i (ai ns i) rfl (by simp only [ai,List.getD_eq_getElem?_getD,List.getElem?_eq_getElem hi,Option.getD_some]);exact hk v w' h3 h1
 | gn y o t=>
  obtain ⟨a,rfl,h⟩:=h;refine pO U ha (afn _ _) Tryz.func189 rfl rfl ((ace w a _ _ _ _ _ _ _ h (Fk hw)).mono ?_);rintro r w' ⟨h1,v,fp,hr,h2,h3⟩;have e:B5 ns (i:Int)=(ai ns i,0):=by simp only [B5,Int.toNat_natCast];rw [if_pos (by omega)]
  rw [e] at hr h2;subst hr;exact hk v w' ⟨fp,h2,h3⟩ h1
theorem Fm {p:Int} {nd:Nd} {v:Value} (U:(bf x).ev ρ=some sv) (ha:eP ρ (args.toList.map bf)=some [I p,.agg #[I nd.kind,I nd.num,v]]) (h:gJ w sv s F) (ho:s.Ok) (hp:0≤p∧p < s.ns.length)
   (hm:nd.may=true) (bQ:bK s.ns.length nd.args=true) (hv:Ints w v nd.args)
   (hk:∀ w' F',gJ w' sv { s with ns:=s.ns.set p.toNat nd} F'→Grow F F' w w'→K (I 0) w') :
   E.wp Tryz.prog w ρ K (.raw ⟨d,.call { callee:=.invoke x "Set",args:=args,argTypes:=at'},ty,pos,af,none⟩):=by
 have hn:=ho.n;have hw:=ho.wf;have ky:=ho.kd;obtain ⟨kd,sz,ns⟩:=s;have e1:qS ns p nd=(0,ns.set p.toNat nd):=by unfold qS;rw [if_neg (by simpa using hp),if_neg (by simp [hm]),if_neg (by simpa using bQ)]
 have e2:p8 ns p nd=(0,ns.set p.toNat nd):=by unfold p8;rw [if_neg (by simpa using hp),if_neg (by simp [hm]),if_neg (by simpa using bQ)]
 cases kd with
 | ref=>exact h.elim
 | hp t=>
  obtain ⟨a,rfl,h⟩:=h;refine pO U ha (afi _ _) Tryz.func236 rfl rfl ((aa2 a _ _ _ _ _ v _ w h hn (Fk hw) hv).mono ?_);rintro r w' ⟨rfl,F',h1,h2⟩;rw [e1] at h1 ⊢;exact hk w' F' ⟨a,rfl,h1⟩ h2
 | gn y o t=>
  obtain ⟨a,rfl,h⟩:=h;refine pO U ha (afo _ _) Tryz.func191 rfl rfl ((acg w a _ _ _ _ _ _ _ v _ h ky.1 hn (Fk hw) hv).mono ?_);rintro r w' ⟨rfl,F',h1,h2⟩;rw [e2] at h1 ⊢;exact hk w' F' ⟨a,rfl,h1⟩ h2
theorem Lv {nd:Nd} {v:Value} (U:(bf x).ev ρ=some sv) (ha:eP ρ (args.toList.map bf)=some [.agg #[I nd.kind,I nd.num,v]]) (h:gJ w sv s F) (ho:s.Ok)
   (hm:nd.may=true) (bQ:bK s.ns.length nd.args=true) (hv:Ints w v nd.args)
   (hk:(s.ns.length:Int) < s.size→∀ w' F',gJ w' sv { s with ns:=s.ns++[nd]} F'→Grow F F' w w'→K (.tuple #[I s.ns.length,I 0]) w')
   (dS:(s.ns.length:Int)=s.size→∀ w' F' e,e≠0→gJ w' sv s F'→Grow F F' w w'→K (.tuple #[I 0,I e]) w') :
   E.wp Tryz.prog w ρ K (.raw ⟨d,.call { callee:=.invoke x "Add",args:=args,argTypes:=at'},ty,pos,af,none⟩):=by
 have hn:=ho.n;have hw:=ho.wf;have ky:=ho.kd;have hl:=ho.len;have Fo:=ho.hi;obtain ⟨kd,sz,ns⟩:=s;cases kd with
 | ref=>exact h.elim
 | hp t=>
  obtain ⟨a,rfl,h⟩:=h;refine pO U ha (afg _ _) Tryz.func231 rfl rfl ((aaV a _ _ _ _ v _ w h hl Fo hv).mono ?_);rintro r w' ⟨rfl,F',h1,h2⟩;by_cases hs:(ns.length:Int)=sz
  ·have e:oU sz ns nd=(0,201,ns):=by unfold oU;rw [if_neg (by simp [hm]),if_neg (by simpa using bQ),if_pos hs]
   rw [e] at h1 ⊢;exact dS hs w' F' 201 (by decide) ⟨a,rfl,h1⟩ h2
  ·have e:oU sz ns nd=((ns.length:Int),0,ns++[nd]):=by unfold oU;rw [if_neg (by simp [hm]),if_neg (by simpa using bQ),if_neg hs]
   rw [e] at h1 ⊢;exact hk (show (ns.length:Int) < sz by have:(ns.length:Int)≤sz:=hl;omega) w' F' ⟨a,rfl,h1⟩ h2
 | gn y o t=>
  obtain ⟨a,rfl,h⟩:=h;refine pO U ha (afm _ _) Tryz.func186 rfl rfl ((aca w a _ _ _ _ _ _ v _ h ky.1 hn hv).mono ?_);rintro r w' ⟨rfl,F',h1,h2⟩;by_cases hs:(ns.length:Int)=sz
  ·have e:nf sz ns nd=(0,211,ns):=by unfold nf;rw [if_neg (by simp [hm]),if_neg (by simpa using bQ),if_pos (by omega)]
   rw [e] at h1 ⊢;exact dS hs w' F' 211 (by decide) ⟨a,rfl,h1⟩ h2
  ·have e:nf sz ns nd=((ns.length:Int),0,ns++[nd]):=by unfold nf;rw [if_neg (by simp [hm]),if_neg (by simpa using bQ),if_neg (by have:(ns.length:Int)≤sz:=hl;omega)]
   rw [e] at h1 ⊢;exact hk (show (ns.length:Int) < sz by have:(ns.length:Int)≤sz:=hl;omega) w' F' ⟨a,rfl,h1⟩ h2
def TP (w w':World) (F':Nat→Prop) (v:Value) (l:List Int):Prop:=∃ fp,ax w' 3 1 v (l.map I) l.length fp∧∀ b,fp=some b→w.heap.size≤b∧¬ F' b
theorem TQ (size t:Int) (ns:List Nd) (n:Int) (roots:List Int):((iY size t ns n roots).out=none↔(iY size t ns n roots).err≠0):=by
 unfold iY;split
 ·simp
 split
 ·simp
 split
 ·simp
 split<;>simp
theorem TR (size y:Int) (o:Nat) (t:Int) (ns:List Nd) (n:Int) (roots:List Int):((iL size y o t ns n roots).jD=none↔(iL size y o t ns n roots).err≠0):=by
 unfold iL;split
 ·simp
 split
 ·simp
 split
 ·simp
 split
 ·unfold rz;split<;>simp
 ·simp
theorem afs {n:Int} {v:Value} {roots:List Int} (U:(bf x).ev ρ=some sv) (ha:eP ρ (args.toList.map bf)=some [I n,v]) (h:gJ w sv s F) (ho:s.Ok) (hr:Ints w v roots)
   (hv:roots≠[]→∀ x,jS v=some x→¬ F x) (pc:roots.length≤17592186044416)
   (qf:(dX s n roots).1=none→∀ w' F' e,e≠0→gJ w' sv (dX s n roots).2 F'→Grow F F' w w'→K (.tuple #[.slice none 0 0,I e]) w')
   (eZ:∀ l,(dX s n roots).1=some l→∀ w' F' v',gJ w' sv (dX s n roots).2 F'→Grow F F' w w'→TP w w' F' v' l→K (.tuple #[v',I 0]) w') :
   E.wp Tryz.prog w ρ K (.raw ⟨d,.call { callee:=.invoke x "Room",args:=args,argTypes:=at'},ty,pos,af,none⟩):=by
 have hn:=ho.n;have hw:=ho.wf;have ky:=ho.kd;have wi:=ho.lo;have Fo:=ho.hi;obtain ⟨kd,sz,ns⟩:=s;cases kd with
 | ref=>exact h.elim
 | hp t=>
  obtain ⟨a,rfl,h⟩:=h;refine pO U ha (afj _ _) Tryz.func235 rfl rfl ((ab0 a _ _ _ _ w n v roots h hn (by have:1≤sz:=wi;omega) Fo hw hr).mono ?_);rintro r w' ⟨F',h1,h2,h3,h4⟩;cases ho:(iY sz t ns n roots).out with
  | none=>
   rw [h3 ho];exact qf ho w' F' _ ((TQ _ _ _ _ _).1 ho) ⟨a,rfl,h1⟩ h2
  | some l=>
   obtain ⟨v',fp,rfl,h5,h6⟩:=h4 l ho;have e:(iY sz t ns n roots).err=0:=by
    apply Classical.byContradiction;intro bq;rw [(TQ _ _ _ _ _).2 bq] at ho;cases ho
   rw [e];exact eZ l ho w' F' v' ⟨a,rfl,h1⟩ h2 ⟨fp,h5,h6⟩
 | gn y o t=>
  obtain ⟨a,rfl,h⟩:=h;refine pO U ha (afp _ _) Tryz.func190 rfl rfl ((aef w a _ _ _ _ _ _ h ky.1 hw hn ⟨by have:1≤sz:=wi;omega,Fo⟩ ky.2 n v roots hr hv pc).mono ?_);rintro r w' ⟨v',F',rfl,h1,h2,h3,h4⟩;cases ho:(iL sz y o t ns n roots).jD with
  | none=>
   rw [h3 ho];exact qf ho w' F' _ ((TR _ _ _ _ _ _ _).1 ho) ⟨a,rfl,h1⟩ h2
  | some l=>
   have e:(iL sz y o t ns n roots).err=0:=by
    apply Classical.byContradiction;intro bq;rw [(TR _ _ _ _ _ _ _).2 bq] at ho;cases ho
   rw [e];exact eZ l ho w' F' v' ⟨a,rfl,h1⟩ h2 (h4 l ho)
theorem aft {v:Value} {roots:List Int} (U:(bf x).ev ρ=some sv) (ha:eP ρ (args.toList.map bf)=some [v]) (h:gJ w sv s F) (ho:s.Ok) (hr:Ints w v roots) (ct:bK s.ns.length roots=true)
   (hv:roots≠[]→∀ x,jS v=some x→¬ F x) (pc:roots.length≤17592186044416)
   (hk:∀ w' F' v',gJ w' sv (mB s roots).2 F'→Grow F F' w w'→TP w w' F' v' (mB s roots).1→K (.tuple #[v',I 0]) w') :
   E.wp Tryz.prog w ρ K (.raw ⟨d,.call { callee:=.invoke x "Collect",args:=args,argTypes:=at'},ty,pos,af,none⟩):=by
 have hn:=ho.n;have hw:=ho.wf;have ky:=ho.kd;obtain ⟨kd,sz,ns⟩:=s;cases kd with
 | ref=>exact h.elim
 | hp t=>
  obtain ⟨a,rfl,h⟩:=h;refine pO U ha (afk _ _) Tryz.func232 rfl rfl ((QZ a _ _ _ _ w v roots h hn hw hr).mono ?_);rintro r w' ⟨_,h1⟩;obtain ⟨v',fp,F',rfl,h2,h3,h4,h5⟩:=h1 ct;exact hk w' F' v' ⟨a,rfl,h3⟩ h4 ⟨fp,h2,h5⟩
 | gn y o t=>
  obtain ⟨a,rfl,h⟩:=h;refine pO U ha (afq _ _) Tryz.func187 rfl rfl ((adj w a _ _ _ _ _ _ h hw hn v roots hr hv pc).mono ?_);rintro r w' ⟨_,h1⟩;obtain ⟨v',rfl,fq,F',h2,h3,h4,h5⟩:=h1 ct;refine hk w' F' v' ⟨a,rfl,h3⟩ h4 ⟨fq,?_,h5⟩;have e:(eR ns 0 roots).length=roots.length:=by simp [eR]
  show ax w' 3 1 v' ((eR ns 0 roots).map I) (eR ns 0 roots).length fq;rw [e];exact h2
end
end
section
open Go Go.W
structure Ins where
 op:Int
 a:Int
 b:Int
structure Gl where
 name:ByteArray
 arity:Int
 code:List Ins
structure kz where
 name:ByteArray
 fields:Int
 deriving DecidableEq
structure bl where
 aC:List kz
 globals:List Gl
structure It where
 aQ:ByteArray
 num:Int
structure Fr where
 runs:Bool
 iM:Int
 at':Int
 stack:List Int
 spine:List Int
 bI:Int
structure Mc where
 a8:bl
 input:List Int
 bj:Bool
 every:Int
 bB:Int
 base:Int
 globals:List Int
 aA:List Fr
 wait:List Int
 given:Bool
 told:List It
 steps:Int
 ended:Int
 stuck:Int
 live:Int
 st:St
def bl.gl (t:bl) (g:Int):Gl:=t.globals.getD g.toNat ⟨⟨#[]⟩,0,[]⟩
def bl.sh (t:bl) (c:Int):kz:=t.aC.getD c.toNat ⟨⟨#[]⟩,0⟩
def Gl.ins (g:Gl) (i:Int):Ins:=g.code.getD i.toNat ⟨0,0,0⟩
def St.ov (s:St) (p:Int):Nat:=over s.ns p.toNat
def St.nd (s:St) (p:Int):Nd:=ai s.ns (s.ov p)
def St.set (s:St) (p:Nat) (nd:Nd):St:={ s with ns:=s.ns.set p nd}
def St.add (s:St) (nd:Nd):St:={ s with ns:=s.ns++[nd]}
def Fr.eM (g:Int→Int) (f:Fr):Fr:={ f with stack:=f.stack.map g,spine:=f.spine.map g,bI:=g f.bI}
def Mc.eM (g:Int→Int) (M:Mc):Mc:={ M with globals:=M.globals.map g,aA:=M.aA.map (Fr.eM g),wait:=M.wait.map g}
def Fr.roots (f:Fr):List Int:=f.spine++f.stack++[f.bI]
def Mc.roots (M:Mc):List Int:=M.globals++M.aA.flatMap Fr.roots++M.wait
def Fr.place (f:Fr) (n:Int):Int:=f.stack.getD (f.stack.length - 1 - n.toNat) 0
def Fr.push (f:Fr) (p:Int):Fr:={ f with stack:=f.stack++[p]}
def Fr.pop (f:Fr) (n:Int):Fr:={ f with stack:=f.stack.take (f.stack.length - n.toNat)}
def Mc.aa (M:Mc):Fr:=M.aA.getD (M.aA.length - 1) ⟨false,0,0,[],[],0⟩
def Mc.bZ (M:Mc) (f:Fr):Mc:={ M with aA:=M.aA.set (M.aA.length - 1) f}
def Mc.ref (M:Mc):Bool:=match M.st.kd with | .ref=>true | _=>false
def Mc.nv (M:Mc) (p:Int):Int:=if M.ref then (M.st.ov p:Int) else p
def Mc.fail (M:Mc) (gS:Int):Mc:={ M with ended:=3,stuck:=gS}
def Mc.qi (M:Mc):Mc:={ M with aA:=M.aA.take (M.aA.length - 1)}
def yh (p:Int):Fr:=⟨false,0,0,[],[],p⟩
def Mc.enter (M:Mc) (p:Int):Mc:={ M with aA:=M.aA++[yh p]}
def Mc.quick (M:Mc) (n:Int):Bool:=decide (n≤M.st.size - M.st.ns.length)&&(M.ref || !M.bj||decide (M.st.ns.length - M.base+n≤M.bB))
def nu (s:St) (n:Int) (roots:List Int):Int→Int:=
 match s.kd with
 | .hp _=>if n≤s.size - s.ns.length then id else num s.ns (iH s.ns roots)
 | .ref=>num s.ns (iH s.ns roots)
 | .gn y o _=>if n≤y - (s.ns.length - o)∧n≤s.size - s.ns.length then id
  else if n > s.size - (ch s.ns o roots).length then fun p=>dD (ch s.ns o roots) 0 (bN (ch s.ns o roots) 0 (eR s.ns o roots)) (dD s.ns o (bN s.ns o roots) p)
  else dD s.ns o (bN s.ns o roots)
def Mc.after (M:Mc) (g:Int→Int) (s:St):Mc:={ M.eM g with st:=s,base:=s.ns.length}
def Mc.room (M:Mc) (n:Int):Bool×Mc:=
 if M.quick n=true then (true,M) else
 match (dX M.st n M.roots).1 with
 | none=>(false,{ M with st:=(dX M.st n M.roots).2,live:=if M.ref then (iH M.st.ns M.roots).length else (dX M.st n M.roots).2.ns.length,ended:=5})
 | some _=>(true,M.after (nu M.st n M.roots) (dX M.st n M.roots).2)
def Mc.item (M:Mc) (nd:Nd):It:=if nd.kind=1 then ⟨⟨#[]⟩,nd.num⟩ else ⟨(M.a8.sh nd.num).name,0⟩
def Mc.last (M:Mc):Int:=M.wait.getD (M.wait.length - 1) 0
def Mc.tell (M:Mc):Mc:=
 if (M.st.nd M.last).kind=1∨(M.st.nd M.last).kind=2 then
  { M with told := M.told ++ [M.item (M.st.nd M.last)], wait := M.wait.take (M.wait.length - 1) ++ (M.st.nd M.last).args.reverse,
           ended:=if (M.wait.take (M.wait.length - 1)++(M.st.nd M.last).args.reverse).length=0 then 2 else M.ended}
 else M.enter (M.nv M.last)
def Fr.own (f:Fr) (ar:Int):List Int:=f.spine.drop (f.spine.length - ar.toNat)
def Mc.head (M:Mc) (f:Fr) (ar:Int):Int:=match f.own ar with
 | []=>M.st.ov f.bI
 | s::_=>if M.ref then s else M.st.ov s
def Mc.call (M:Mc) (f:Fr) (g:Int):Mc:=
 if (f.own (M.a8.gl g).arity).all (fun s=>decide ((M.st.nd s).kind=3))=true then
  { M.bZ { f with runs:=true,iM:=g,at':=0,stack:=M.head f (M.a8.gl g).arity::(f.own (M.a8.gl g).arity).map (fun s=>(M.st.nd s).args.getD 1 0),spine:=f.spine.take (f.spine.length - (M.a8.gl g).arity.toNat)}
   with st:=M.st.set (M.st.ov (M.head f (M.a8.gl g).arity)) ⟨7,0,[]⟩}
 else M.fail 5
def Mc.Al (M:Mc):Mc:=
 { M.bZ { M.aa with bI:=(M.st.ns.length:Int)+1,spine:=[]} with
  given:=true,wait:=M.wait.set (M.wait.length - 1) ((M.st.ns.length:Int)+1),st:=(M.st.add ⟨8,0,[]⟩).add ⟨3,0,[M.last,M.st.ns.length]⟩}
def Mc.nw (M:Mc):Mc:=
 if M.aA.length > 1 then M.qi
 else if M.given=true∨M.told.length > 0 then M.fail 5
 else if (M.room 2).1=true then (M.room 2).2.Al else (M.room 2).2
def Mc.Cy (M:Mc) (k:Int):Mc:=
 { M with st:=((M.st.add ⟨1,M.input.getD k.toNat 0,[]⟩).add ⟨8,k+1,[]⟩).set (M.st.ov M.aa.bI) ⟨2,4,[(M.st.ns.length:Int),(M.st.ns.length:Int)+1]⟩}
def Mc.read (M:Mc) (f:Fr) (k:Int):Mc:=
 if k≥M.input.length then { M with st:=M.st.set (M.st.ov f.bI) ⟨2,3,[]⟩}
 else if (M.room 2).1=true then (M.room 2).2.Cy k else (M.room 2).2
def Mc.unwind (M:Mc) (f:Fr):Mc:=
 if (M.st.nd f.bI).kind=3 then M.bZ { f with spine:=f.spine++[(M.st.ov f.bI:Int)],bI:=(M.st.nd f.bI).args.getD 0 0}
 else if (M.st.nd f.bI).kind=4 then (if (f.spine.length:Int)≥(M.a8.gl (M.st.nd f.bI).num).arity then M.call f (M.st.nd f.bI).num else M.nw)
 else if (M.st.nd f.bI).kind=1∨(M.st.nd f.bI).kind=2 then (if f.spine.length > 0 then M.fail 5 else M.qi)
 else if (M.st.nd f.bI).kind=8 then M.read f (M.st.nd f.bI).num
 else if (M.st.nd f.bI).kind=6 then M.fail 5
 else M.fail 4
def cellsOf (x:Ins):Int:=if x.op=3∨x.op=6∨x.op=9∨x.op=12 then 1 else if x.op=8 then x.a else 0
def Mc.put (M:Mc) (nd:Nd) (drop:Int):Mc:={ M.bZ ((M.aa.pop drop).push M.st.ns.length) with st:=M.st.add nd}
def Fp (op a b:Int):Bool:=
 if op=6 then decide (a=b) else if op=7 then decide (a≠b) else if op=8 then decide (a < b) else if op=9 then decide (a≤b) else if op=10 then decide (a > b) else decide (a≥b)
def iv (n:Int):Int:=(n+4611686018427387904) % 9223372036854775808 - 4611686018427387904
def jt (op a b:Int):Nd:=
 if op=1 then ⟨1,iv (a+b),[]⟩ else if op=2 then ⟨1,iv (a - b),[]⟩ else if op=3 then ⟨1,iv (a*b),[]⟩ else if op=4 then ⟨1,iv (a.tdiv b),[]⟩ else if op=5 then ⟨1,iv (a.tmod b),[]⟩
 else if Fp op a b=true then ⟨2,1,[]⟩ else ⟨2,0,[]⟩
def Mc.arith (M:Mc) (x:Ins):Mc:=
 if (M.st.nd (M.aa.place 0)).kind≠1∨(M.st.nd (M.aa.place 1)).kind≠1 then M.fail 5
 else if (x.a=4∨x.a=5)∧(M.st.nd (M.aa.place 1)).num=0 then M.fail 3
 else M.put (jt x.a (M.st.nd (M.aa.place 0)).num (M.st.nd (M.aa.place 1)).num) 2
def Mc.alloc (M:Mc) (n:Nat):Mc:=
 { M.bZ { M.aa with stack:=M.aa.stack++(List.range n).map fun i=>((M.st.ns.length+i:Nat):Int)} with st:={ M.st with ns:=M.st.ns++List.replicate n ⟨6,0,[]⟩}}
def Mc.ju (M:Mc) (bad go:Bool) (b:Int):Mc:=if bad=true then M.fail 5 else if go=true then M.bZ { M.aa with at':=b} else M
def Mc.exec (M:Mc) (x:Ins):Mc:=
 if x.op=1 then M.bZ (M.aa.push (M.aa.place x.a))
 else if x.op=2 then M.bZ (M.aa.push (M.globals.getD x.a.toNat 0))
 else if x.op=3 then M.put ⟨1,x.a,[]⟩ 0
 else if x.op=4 then M.bZ (M.aa.pop x.a)
 else if x.op=5 then M.bZ ((M.aa.pop (x.a+1)).push (M.aa.place 0))
 else if x.op=6 then M.put ⟨3,0,[M.aa.place 0,M.aa.place 1]⟩ 2
 else if x.op=7 then { M.bZ (M.aa.pop 1) with st:=M.st.set (M.st.ov (M.aa.place x.a)) ⟨5,0,[(M.st.ov (M.aa.place 0):Int)]⟩}
 else if x.op=8 then M.alloc x.a.toNat
 else if x.op=9 then M.put ⟨2,x.a,(List.range (M.a8.sh x.a).fields.toNat).map fun i:Nat=>M.aa.place (i:Int)⟩ (M.a8.sh x.a).fields
 else if x.op=10 then
  (if (M.st.nd (M.aa.place 0)).kind≠2∨(M.st.nd (M.aa.place 0)).num≠x.a∨((M.st.nd (M.aa.place 0)).args.length:Int)≠(M.a8.sh x.a).fields then M.fail 5
   else M.bZ { M.aa.pop 1 with stack:=(M.aa.pop 1).stack++(M.st.nd (M.aa.place 0)).args.reverse})
 else if x.op=11 then (if (M.st.nd (M.aa.place 0)).kind≠1∧(M.st.nd (M.aa.place 0)).kind≠2 then M.enter (M.nv (M.aa.place 0)) else M)
 else if x.op=12 then M.arith x
 else if x.op=13 then M.bZ { M.aa with at':=x.a}
 else if x.op=14 then M.ju (decide ((M.st.nd (M.aa.place 0)).kind≠2)) (decide ((M.st.nd (M.aa.place 0)).num≠x.a)) x.b
 else if x.op=15 then M.ju (decide ((M.st.nd (M.aa.place 0)).kind≠1)) (decide ((M.st.nd (M.aa.place 0)).num≠x.a)) x.b
 else if x.op=16 then M.fail x.a
 else M.bZ { M.aa with runs:=false,bI:=M.aa.stack.getD 0 0,stack:=[]}
def Mc.dA (M:Mc):Ins:=(M.a8.gl M.aa.iM).ins M.aa.at'
def Mc.next (M:Mc):Mc:=M.bZ { M.aa with at':=M.aa.at'+1}
def Mc.run (M:Mc):Mc:=
 if cellsOf M.dA > 0∧(M.room (cellsOf M.dA)).1=false then (M.room (cellsOf M.dA)).2
 else if cellsOf M.dA > 0 then (M.room (cellsOf M.dA)).2.next.exec M.dA
 else M.next.exec M.dA
def Mc.work (M:Mc):Mc:=if M.aA.length=0 then M.tell else if M.aa.runs=true then M.run else M.unwind M.aa
def sG (s:St) (roots:List Int):Int→Int:=
 match s.kd with
 | .gn _ _ _=>dD s.ns 0 (bN s.ns 0 roots)
 | _=>num s.ns (iH s.ns roots)
def Mc.tidy (M:Mc):Mc:=if M.every > 0∧M.steps.tmod M.every=0 then M.after (sG M.st M.roots) (mB M.st M.roots).2 else M
def Mc.step (M:Mc):Mc:=
 if M.ended≠0 then M
 else if M.work.ended=5 then M.work
 else ({ M.work with steps:=M.work.steps+1}).tidy
end
section
open Go Go.W
inductive Tg where
 | no | tb | m | gl | fr | wt | tl | st
 | fb (i:Nat)
 | fs (i:Nat)
 | fp (i:Nat)
 deriving DecidableEq
abbrev Tag:=Nat→Tg
def Tag.is (τ:Tag) (fp:Option Nat) (t:Tg):Prop:=∀ b,fp=some b→τ b=t
def Tag.ext (τ bJ:Tag) (w:World):Prop:=∀ b,b < w.heap.size→bJ b=τ b
def Tag.wx (τ bJ:Tag) (w:World):Prop:=∀ b,b < w.heap.size→τ b≠.no→bJ b=τ b
theorem Tag.ext.wx {τ bJ:Tag} {w:World} (h:τ.ext bJ w):τ.wx bJ w:=fun b hb _=>h b hb
theorem dP (τ:Tag) (w:World):τ.ext τ w:=fun _ _=>rfl
theorem Fq {τ bJ Fs:Tag} {w w':World} (h:τ.ext bJ w) (h':bJ.ext Fs w') (hs:w.heap.size≤w'.heap.size):τ.ext Fs w:=
 fun b hb=>(h' b (Nat.lt_of_lt_of_le hb hs)).trans (h b hb)
def bO (τ:Tag) (w:World) (t:Tg):Tag:=fun b=>if b < w.heap.size then τ b else t
theorem eB (τ:Tag) (w:World) (t:Tg):τ.ext (bO τ w t) w:=fun b hb=>by simp [bO,hb]
theorem oh {τ:Tag} {w:World} {t:Tg} {b:Nat} (h:w.heap.size≤b):bO τ w t b=t:=by simp [bO,Nat.not_lt.2 h]
theorem yi {τ bJ:Tag} {w:World} {fp:Option Nat} {t:Tg} (h:τ.is fp t) (he:τ.wx bJ w) (hl:∀ b,fp=some b→b < w.heap.size) (ht:t≠.no:=by decide):bJ.is fp t:=
 fun b hb=>(he b (hl b hb) (by rw [h b hb];exact ht)).trans (h b hb)
theorem Cz {τ:Tag} {w:World} {fp gA:Option Nat} {t:Tg} (h:τ.is fp t) (hl:∀ b,fp=some b→b < w.heap.size) (hf:∀ b,gA=some b→fp=some b∨w.heap.size≤b):(bO τ w t).is gA t:=by
 intro b hb;rcases hf b hb with h1 | h1
 ·exact (eB τ w t b (hl b h1)).trans (h b h1)
 ·exact oh h1
def dB (w:World) (v:Value) (sz:Nat) (rows:List (List Value)) (B:Nat→Prop):Prop:=
 ∃ a c,v = .slice a rows.length c∧(0 < rows.length→∀ ad,a=some ad→B ad.block)∧∀ i (h:i < rows.length),∃ ad,a=some ad∧rows[i].length=sz∧∀ k (hk:k < rows[i].length),w.cell? ((ad.add (i*sz)).add k)=some rows[i][k]
theorem dB.mod {w w':World} {v:Value} {sz:Nat} {rows:List (List Value)} {B B' S:Nat→Prop} (h:dB w v sz rows B) (hm:Mod S w w') (hd:∀ b,B b→¬ S b) (hB:∀ b,B b→B' b):dB w' v sz rows B':=by
 obtain ⟨a,c,rfl,hb,h⟩:=h;refine ⟨a,c,rfl,fun h0 ad h=>hB _ (hb h0 ad h),fun i hi=>?_⟩;obtain ⟨ad,rfl,hl,hc⟩:=h i hi;refine ⟨ad,rfl,hl,fun k hk=>hm.cell (hc k hk) ?_⟩;rw [rT,rT];exact hd _ (hb (by omega) _ rfl)
def jb (x:Ins):List Value:=[I x.op,I x.a,I x.b]
def jc (s:kz):List Value:=[.string s.name,I s.fields]
def dE (w:World) (bt bp:Value) (T:bl) (B:Nat→Prop):Prop:=
 dB w bt 2 (T.aC.map jc) B∧∃ ic:List Value,ic.length=T.globals.length∧dB w bp 3 (List.zipWith (fun (g:Gl) (v:Value)=>[.string g.name,I g.arity,v]) T.globals ic) B ∧
  ∀ (i:Nat) (g:Gl) (v:Value),T.globals[i]? = some g→ic[i]? = some v→dB w v 3 (g.code.map jb) B
theorem dE.mod {w w':World} {bt bp:Value} {T:bl} {B B' S:Nat→Prop} (h:dE w bt bp T B) (hm:Mod S w w') (hd:∀ b,B b→¬ S b) (hB:∀ b,B b→B' b):dE w' bt bp T B':=by
 obtain ⟨h1,ic,h2,h3,h4⟩:=h;exact ⟨h1.mod hm hd hB,ic,h2,h3.mod hm hd hB,fun i g v hg hv=>(h4 i g v hg hv).mod hm hd hB⟩
def cz (f:Fr) (vs vp:Value):List Value:=[.bool f.runs,I f.iM,I f.at',vs,vp,I f.bI]
structure nx (w:World) (τ:Tag) (i k:Nat) (f:Fr) (vs vp:Value) (fs fp:Option Nat):Prop where
 cells:w.heap[k]? = some (.cells (cz f vs vp).toArray 151 (0,0))
 tk:τ k = .fb i
 stack:ax w 3 1 vs (f.stack.map I) f.stack.length fs
 ts:τ.is fs (.fs i)
 spine:ax w 3 1 vp (f.spine.map I) f.spine.length fp
 tp:τ.is fp (.fp i)
def nC (w:World) (τ:Tag) (i k:Nat) (f:Fr):Prop:=∃ vs vp fs fp,nx w τ i k f vs vp fs fp
def Tg.eT (i:Nat) (t:Tg):Prop:=t = .fb i∨t = .fs i∨t = .fp i
theorem nx.lt {w:World} {τ:Tag} {i k:Nat} {f:Fr} {vs vp:Value} {fs fp:Option Nat} (h:nx w τ i k f vs vp fs fp):k < w.heap.size∧(∀ b,fs=some b→b < w.heap.size)∧∀ b,fp=some b→b < w.heap.size:=
 ⟨lt_of_heap h.cells,fun b hb=>h.stack.lt hb,fun b hb=>h.spine.lt hb⟩
theorem nx.mod {w w':World} {τ bJ:Tag} {i k:Nat} {f:Fr} {vs vp:Value} {fs fp:Option Nat} {S:Nat→Prop} (h:nx w τ i k f vs vp fs fp) (hm:Mod S w w') (he:τ.wx bJ w) (hd:∀ b,b < w.heap.size→S b→¬ (τ b).eT i):nx w' bJ i k f vs vp fs fp:=by
 obtain ⟨l1,l2,l3⟩:=h.lt
 exact ⟨hm.at h.cells (fun hs=>hd _ l1 hs (.inl h.tk)),(he _ l1 (by rw [h.tk];simp)).trans h.tk,h.stack.mod hm (fun b hb hs=>hd _ (l2 b hb) hs (.inr (.inl (h.ts b hb)))),yi h.ts he l2 (by simp),
  h.spine.mod hm (fun b hb hs=>hd _ (l3 b hb) hs (.inr (.inr (h.tp b hb)))),yi h.tp he l3 (by simp)⟩
theorem nC.mod {w w':World} {τ bJ:Tag} {i k:Nat} {f:Fr} {S:Nat→Prop} (h:nC w τ i k f) (hm:Mod S w w') (he:τ.wx bJ w) (hd:∀ b,b < w.heap.size→S b→¬ (τ b).eT i):nC w' bJ i k f:=by
 obtain ⟨vs,vp,fs,fp,h⟩:=h;exact ⟨vs,vp,fs,fp,h.mod hm he hd⟩
def wj (w:World) (τ:Tag) (i k:Nat) (f':Fr) (w':World):Prop:=∃ bJ,τ.ext bJ w∧nC w' bJ i k f'∧Mod (fun b=>(τ b).eT i) w w'
theorem CA (a:Option Addr) (c:Nat):(if c=0 then a else Option.map (fun x=>x) a)=a:=by
 split
 ·rfl
 ·cases a<;>rfl
theorem Ft {w:World} {T sz n c:Nat} {a:Option Addr} {xs:List Value} {fp:Option Nat} (h:ax w T sz (.slice a n c) xs n fp) {k:Nat} (hk:k≤n):ax w T sz (.slice a k c) (xs.take (k*sz)) k fp:=by
 obtain ⟨h1,h2⟩:=h;refine ⟨by rw [List.length_take,h1];exact Nat.min_eq_left (Nat.mul_le_mul_right _ hk),?_⟩;rcases h2 with ⟨e,rfl,rfl⟩ | ⟨b,c',sp,e,rfl,h3,h4,h5⟩
 ·cases e;obtain rfl:k=0:=by omega
  exact .inl ⟨rfl,rfl,rfl⟩
 ·cases e;refine .inr ⟨b,c,xs.drop (k*sz)++sp,rfl,rfl,?_,?_,by omega⟩
  ·rw [← List.append_assoc,List.take_append_drop];exact h3
  ·rw [← List.append_assoc,List.take_append_drop];exact h4
theorem kA {w:World} {T n c:Nat} {a:Option Addr} {xs:List Value} {fp:Option Nat} (h:ax w T 1 (.slice a n c) xs n fp) {i:Nat} (hi:i < n):∃ b,a=some ⟨b,0,none⟩∧fp=some b∧w.cell? ⟨b,i,none⟩=xs[i]?:=by
 obtain ⟨b,c',sp,e,h1,h2,_⟩:=h.pos (by omega);cases e;refine ⟨b,rfl,h1,?_⟩;rw [cell_of h2];have:i < xs.length:=by rw [h.1];omega
 simp [List.getElem?_append_left this]
theorem om {w:World} {τ:Tag} {i k:Nat} {f:Fr} (h:nC w τ i k f) (hs:f.stack.length≤4294967296) {n:Int} (hn:0≤n∧n < f.stack.length) :
   aD Tryz.prog 112 [.pointer (some ⟨k,0,none⟩),I n] w fun r w'=>r=I (f.place n)∧w'=w.drew:=by
 obtain ⟨vs,vp,fs,fp,h⟩:=h;obtain ⟨n,rfl⟩:∃ m:Nat,n=m:=⟨n.toNat,by omega⟩;obtain ⟨a,c,rfl,hc,_⟩:=h.stack.val;have hl:=h.stack.1;have kY:=h.cells;refine aeJ.calls rfl ?_;unfold KY;obtain ⟨b,rfl,_,e⟩:=kA h.stack (i:=f.stack.length - 1 - n) (by omega);have e1:IntKind.i64.wrap (IntKind.i64.wrap ((f.stack.length:Int) - 1) - n)=((f.stack.length - 1 - n:Nat):Int):=by
  rw [bU (n:=(f.stack.length:Int) - 1) (by omega) (by omega),bU (by omega) (by omega)];omega
 have e2:(0:Int)≤((f.stack.length - 1 - n:Nat):Int)∧((f.stack.length - 1 - n:Nat):Int) < f.stack.length:=by omega
 have e3:w.cell? ⟨b,f.stack.length - 1 - n,none⟩=some (I (f.place n)):=by
  rw [e,List.getElem?_map,List.getElem?_eq_getElem (by omega:f.stack.length - 1 - n < f.stack.length)];simp only [Fr.place,Int.toNat_natCast,List.getD_eq_getElem?_getD,List.getElem?_eq_getElem (by omega:f.stack.length - 1 - n < f.stack.length),Option.getD_some,Option.map_some]
 simp only [go_sem,simprocAttr,ak,bh,cell_of kY,cz,e1,e2,e3,c8]
theorem CB {w:World} {τ:Tag} {i k:Nat} {f:Fr} {vs vp:Value} {fs fp:Option Nat} (h:nx w τ i k f vs vp fs fp):fs≠some k∧fp≠some k∧∀ b,fs=some b→fp≠some b:=by
 refine ⟨fun e=>?_,fun e=>?_,fun b e e'=>?_⟩
 ·have:=h.ts k e;rw [h.tk] at this;cases this
 ·have:=h.tp k e;rw [h.tk] at this;cases this
 ·have:=h.ts b e;rw [h.tp b e'] at this;cases this
theorem Fu {w w2 w3:World} {τ:Tag} {i k:Nat} {f f':Fr} {vs vp vs':Value} {fs fp fs':Option Nat} (h:nx w τ i k f vs vp fs fp) (ho:ax w2 3 1 vs' (f'.stack.map I) f'.stack.length fs') (e:f'.spine=f.spine)
   (hb:w3.heap[k]? = some (.cells (cz f' vs' vp).toArray 151 (0,0))) (ae:Mod (fun b=>fs=some b) w w2) (ab:Mod (· = k) w2 w3) (hf:∀ b,fs'=some b→fs=some b∨w.heap.size≤b):wj w τ i k f' w3:=by
 obtain ⟨l1,l2,l3⟩:=h.lt;obtain ⟨a1,a2,a3⟩:=CB h;have hm:Mod (fun b=>fs=some b∨b=k) w w3:=(ae.aB (fun _ h=>.inl h)).step (ab.aB (fun _ h=>.inr h)) (fun x U _=>U);have hk:fs'≠some k:=fun e=>by
  rcases hf k e with h1 | h1
  ·exact a1 h1
  ·omega
 have ht:=eB τ w (.fs i);refine ⟨bO τ w (.fs i),ht,⟨vs',vp,fs',fp,hb,(ht k l1).trans h.tk,ho.mod ab (fun b hb hh=>hk (by rw [hb,hh])),Cz h.ts l2 hf,?_,yi h.tp ht.wx l3 (by simp)⟩,hm.aB ?_⟩
 ·rw [e];refine h.spine.mod hm (fun b an hh=>?_);rcases hh with hh | hh
  ·exact a3 b hh an
  ·exact a2 (hh ▸ an)
 ·rintro b (hh | rfl)
  ·exact .inr (.inl (h.ts b hh))
  ·exact .inl h.tk
theorem TS {w w2 w3:World} {τ:Tag} {i k:Nat} {f f':Fr} {vs vp wk:Value} {fs fp gA:Option Nat} (h:nx w τ i k f vs vp fs fp) (ho:ax w2 3 1 wk (f'.spine.map I) f'.spine.length gA) (e:f'.stack=f.stack)
   (hb:w3.heap[k]? = some (.cells (cz f' vs wk).toArray 151 (0,0))) (ae:Mod (fun b=>fp=some b) w w2) (ab:Mod (· = k) w2 w3) (hf:∀ b,gA=some b→fp=some b∨w.heap.size≤b):wj w τ i k f' w3:=by
 obtain ⟨l1,l2,l3⟩:=h.lt;obtain ⟨a1,a2,a3⟩:=CB h;have hm:Mod (fun b=>fp=some b∨b=k) w w3:=(ae.aB (fun _ h=>.inl h)).step (ab.aB (fun _ h=>.inr h)) (fun x U _=>U);have hk:gA≠some k:=fun e=>by
  rcases hf k e with h1 | h1
  ·exact a2 h1
  ·omega
 have ht:=eB τ w (.fp i);refine ⟨bO τ w (.fp i),ht,⟨vs,wk,fs,gA,hb,(ht k l1).trans h.tk,?_,yi h.ts ht.wx l2 (by simp),ho.mod ab (fun b hb hh=>hk (by rw [hb,hh])),Cz h.tp l3 hf⟩,hm.aB ?_⟩
 ·rw [e];refine h.stack.mod hm (fun b an hh=>?_);rcases hh with hh | hh
  ·exact a3 b an hh
  ·exact a1 (hh ▸ an)
 ·rintro b (hh | rfl)
  ·exact .inr (.inr (h.tp b hh))
  ·exact .inl h.tk
theorem Fv {w w3:World} {τ:Tag} {i k:Nat} {f f':Fr} {vs vp:Value} {fs fp:Option Nat} (h:nx w τ i k f vs vp fs fp) (e:f'.stack=f.stack) (e':f'.spine=f.spine)
   (hb:w3.heap[k]? = some (.cells (cz f' vs vp).toArray 151 (0,0))) (ab:Mod (· = k) w w3):wj w τ i k f' w3:=
 Fu h (by rw [e];exact h.stack) e' hb (Mod.refl _ w) ab (fun b hb=>.inl hb)
theorem wl {w:World} {τ:Tag} {i k:Nat} {f:Fr} (h:nC w τ i k f) (hs:f.stack.length≤4294967296) (p:Int) :
   aD Tryz.prog 111 [.pointer (some ⟨k,0,none⟩),I p] w fun _ w'=>wj w τ i k (f.push p) w':=by
 obtain ⟨vs,vp,fs,fp,h⟩:=h;obtain ⟨a,c,rfl,hc,_⟩:=h.stack.val;have kY:=h.cells;obtain ⟨l1,l2,l3⟩:=h.lt;refine TG.calls rfl ?_;unfold Fi;simp only [go_sem,simprocAttr,cell_of kY,cz];refine dL (by rfl) (by rfl) ?_;intro w1 aq ag cL;refine σ ?_;refine gN (v:=.slice a f.stack.length c) (news:=[I p]) rfl (h.stack.mod ag (fun _ _ h=>h)) rfl (fun h=>by cases h) (jR (xs:=[I p]) aq) (oQ [p]) rfl (by omega) (by omega) ?_;intro v2 w2 Am dR ae fQ;have dG:Mod (fun b=>fs=some b) w w2:=(ag.aB (fun _ h=>h.elim)).step ae (fun x U _=>U);have cy:=dG.at kY (fun hh=>hP h.stack hh kY (by decide));obtain ⟨va,vc,rfl,_,_⟩:=dR.val;refine σ ?_;refine bL (cs:=cz f (.slice a f.stack.length c) vp) rfl rfl cy rfl (by simp [cz]) ?_;intro w3 aE ab gj;refine σ ?_;refine Fu (f':=f.push p) h (by simpa [Fr.push] using dR) rfl aE dG ab (fun b hb=>(fQ b hb).imp id (fun hh=>by have:=ag.size;omega))
theorem yj {w:World} {τ:Tag} {i k:Nat} {f:Fr} (h:nC w τ i k f) (hs:f.stack.length≤4294967296) {n:Int} (hn:0≤n∧n≤f.stack.length) :
   aD Tryz.prog 118 [.pointer (some ⟨k,0,none⟩),I n] w fun _ w'=>wj w τ i k (f.pop n) w':=by
 obtain ⟨vs,vp,fs,fp,h⟩:=h;obtain ⟨n,rfl⟩:∃ m:Nat,n=m:=⟨n.toNat,by omega⟩;obtain ⟨a,c,rfl,hc,_⟩:=h.stack.val;have hl:=h.stack.1;have kY:=h.cells;refine aeO.calls rfl ?_;unfold K3;have e1:IntKind.i64.wrap ((f.stack.length:Int) - n)=((f.stack.length - n:Nat):Int):=by rw [bU (by omega) (by omega)];omega
 have e2:(0:Int)≤((f.stack.length - n:Nat):Int)∧((f.stack.length - n:Nat):Int)≤c:=by omega
 simp only [go_sem,simprocAttr,ak,bh,cell_of kY,cz,e1,e2,CA];refine bL (cs:=cz f (.slice a f.stack.length c) vp) (off:=3) rfl rfl kY rfl (by simp [cz]) ?_;intro w3 aE ab gj;refine σ ?_;exact Fu (w2:=w.drew) (fs':=fs) (f':=f.pop n) h (by have h2:ax w.drew 3 1 _ _ _ _:=Ft h.stack (k:=f.stack.length - n) (by omega);simpa [Fr.pop,List.map_take] using h2) rfl (by simpa [cz,Fr.pop] using aE) ((Mod.refl _ w).drew) ab (fun b hb=>.inl hb)
end
section
open Go Go.W
structure SV where
 bt:Value
 bp:Value
 jv:Value
 vR:Value
 sv:Value
def bg (S:SV) (M:Mc) (vG vF vW vT:Value):List Value:=
 [S.bt,S.bp,S.jv,I M.st.size,.bool M.bj,I M.every,S.sv,I M.bB,I M.base,vG,vF,vW,.bool M.given,vT,I M.steps,I M.ended,I M.stuck,I M.live,S.vR]
def fe (x:It):List Value:=[.string x.aQ,I x.num]
def dY (f:Nat):Value:=.func (.func f) #[] #[]
def lC:List (List Value):=[[.nilFunc,.nilFunc],[dY 109,dY 110],[dY 109,dY 113],[dY 114,dY 115],[dY 109,dY 117],
 [dY 109,dY 119],[dY 114,dY 120],[dY 109,dY 121],[dY 122,dY 123],
 [dY 114,dY 124],[dY 109,dY 125],[dY 109,dY 126],[dY 114,dY 127],
 [dY 109,dY 128],[dY 109,dY 129],[dY 109,dY 130],[dY 109,dY 131],[dY 109,dY 133]]
@[go_sem] def ptr (k:Nat):Value:=.pointer (some ⟨k,0,none⟩)
def Tag.a8 (τ:Tag) (w:World):Nat→Prop:=fun b=>b < w.heap.size∧τ b = .tb
structure dZ (w:World) (τ:Tag) (m:Nat) (S:SV) (M:Mc) (vG vF vW vT:Value) (fg ff fw ft:Option Nat) (F:Nat→Prop) (ks:List Nat):Prop where
 cells:w.heap[m]? = some (.cells (bg S M vG vF vW vT).toArray 113 (0,0))
 tm:τ m = .m
 gl:ax w 3 1 vG (M.globals.map I) M.globals.length fg
 tg:τ.is fg .gl
 fr:ax w 152 1 vF (ks.map ptr) ks.length ff
 tf:τ.is ff .fr
 wt:ax w 3 1 vW (M.wait.map I) M.wait.length fw
 tw:τ.is fw .wt
 tl:ax w 42 2 vT (M.told.flatMap fe) M.told.length ft
 tt:τ.is ft .tl
 st:gJ w S.sv M.st F
 tF:∀ b,F b→τ b = .st
 len:ks.length=M.aA.length
 jw:∀ (i k:Nat) (f:Fr),ks[i]? = some k→M.aA[i]? = some f→nC w τ i k f
 a8:dE w S.bt S.bp M.a8 (τ.a8 w)
 jd:Ints w S.jv M.input
 TT:∀ b,jS S.jv=some b→τ.a8 w b
 rows:dB w S.vR 2 lC (τ.a8 w)
def iw (w:World) (τ:Tag) (m:Nat) (S:SV) (M:Mc) (ks:List Nat):Prop:=∃ vG vF vW vT fg ff fw ft F,dZ w τ m S M vG vF vW vT fg ff fw ft F ks
def Tg.own (t:Tg):Prop:=t≠.no∧t≠.tb
def aU (w:World) (τ:Tag) (m:Nat) (S:SV) (M':Mc) (ks:List Nat) (w':World):Prop:=∃ bJ,τ.ext bJ w∧iw w' bJ m S M' ks∧Mod (fun b=>(τ b).own) w w'
section
variable {w w':World} {τ bJ:Tag} {m:Nat} {S:SV} {M:Mc} {vG vF vW vT:Value} {fg ff fw ft:Option Nat} {F:Nat→Prop} {ks:List Nat} {X:Nat→Prop}
theorem dZ.lt (h:dZ w τ m S M vG vF vW vT fg ff fw ft F ks):m < w.heap.size:=lt_of_heap h.cells
theorem dZ.Fw (h:dZ w τ m S M vG vF vW vT fg ff fw ft F ks) (hm:Mod X w w') (he:τ.wx bJ w) (hd:∀ b,b < w.heap.size→X b→τ b≠.m) :
   w'.heap[m]? = some (.cells (bg S M vG vF vW vT).toArray 113 (0,0))∧bJ m = .m:=
 ⟨hm.at h.cells (fun U=>hd _ h.lt U h.tm),(he _ h.lt (by rw [h.tm];simp)).trans h.tm⟩
theorem gK {T sz n:Nat} {v:Value} {xs:List Value} {fp:Option Nat} {t:Tg} (h:ax w T sz v xs n fp) (ht:τ.is fp t) (hm:Mod X w w') (he:τ.wx bJ w) (hd:∀ b,b < w.heap.size→X b→τ b≠t) (hn:t≠.no:=by decide) :
   ax w' T sz v xs n fp∧bJ.is fp t:=
 ⟨h.mod hm (fun b hb U=>hd b (h.lt hb) U (ht b hb)),yi ht he (fun b hb=>h.lt hb) hn⟩
theorem dZ.jh (h:dZ w τ m S M vG vF vW vT fg ff fw ft F ks) (hm:Mod X w w') (he:τ.wx bJ w) (hd:∀ b,b < w.heap.size→X b→τ b≠.st):gJ w' S.sv M.st F∧∀ b,F b→bJ b = .st:=
 ⟨h.st.mod hm (fun b hb U=>hd b (h.st.lt b hb) U (h.tF b hb)),fun b hb=>(he b (h.st.lt b hb) (by rw [h.tF b hb];simp)).trans (h.tF b hb)⟩
theorem dZ.wm (h:dZ w τ m S M vG vF vW vT fg ff fw ft F ks) (hm:Mod X w w') (he:τ.wx bJ w) {i k:Nat} {f:Fr} (hk:ks[i]? = some k) (hf:M.aA[i]? = some f) (hd:∀ b,b < w.heap.size→X b→¬ (τ b).eT i):nC w' bJ i k f:=
 (h.jw i k f hk hf).mod hm he hd
theorem Lw (he:τ.wx bJ w) (hs:w.heap.size≤w'.heap.size) (b:Nat) (h:τ.a8 w b):bJ.a8 w' b:=⟨Nat.lt_of_lt_of_le h.1 hs,(he b h.1 (by rw [h.2];simp)).trans h.2⟩
theorem dZ.wo (h:dZ w τ m S M vG vF vW vT fg ff fw ft F ks) (hm:Mod X w w') (he:τ.wx bJ w) (hd:∀ b,b < w.heap.size→X b→τ b≠.tb) :
   dE w' S.bt S.bp M.a8 (bJ.a8 w')∧Ints w' S.jv M.input∧(∀ b,jS S.jv=some b→bJ.a8 w' b)∧dB w' S.vR 2 lC (bJ.a8 w'):=by
 have U:∀ b,τ.a8 w b→¬ X b:=fun b hb U=>hd b hb.1 U hb.2
 exact ⟨h.a8.mod hm U (Lw he hm.size),h.jd.mod hm (fun b hb=>U b (h.TT b hb)),fun b hb=>Lw he hm.size b (h.TT b hb),h.rows.mod hm U (Lw he hm.size)⟩
theorem dZ.mod (h:dZ w τ m S M vG vF vW vT fg ff fw ft F ks) (hm:Mod X w w') (he:τ.wx bJ w) (hd:∀ b,b < w.heap.size→X b→τ b = .no):dZ w' bJ m S M vG vF vW vT fg ff fw ft F ks:=by
 have ci:∀ {t:Tg},t≠.no→∀ b,b < w.heap.size→X b→τ b≠t:=fun ht b hb U e=>ht (e.symm.trans (hd b hb U))
 obtain ⟨c1,c2⟩:=h.Fw hm he (ci (by simp));obtain ⟨g1,g2⟩:=gK h.gl h.tg hm he (ci (by simp));obtain ⟨f1,f2⟩:=gK h.fr h.tf hm he (ci (by simp));obtain ⟨w1,w2⟩:=gK h.wt h.tw hm he (ci (by simp));obtain ⟨t1,t2⟩:=gK h.tl h.tt hm he (ci (by simp));obtain ⟨s1,s2⟩:=h.jh hm he (ci (by simp));obtain ⟨b1,b2,b3,b4⟩:=h.wo hm he (ci (by simp));refine ⟨c1,c2,g1,g2,f1,f2,w1,w2,t1,t2,s1,s2,h.len,fun i k f hk hf=>h.wm hm he hk hf (fun b hb U=>?_),b1,b2,b3,b4⟩;rw [hd b hb U];rintro (h | h | h)<;>cases h
theorem iw.mod (h:iw w τ m S M ks) (hm:Mod X w w') (he:τ.wx bJ w) (hd:∀ b,b < w.heap.size→X b→τ b = .no):iw w' bJ m S M ks:=by
 obtain ⟨vG,vF,vW,vT,fg,ff,fw,ft,F,h⟩:=h;exact ⟨vG,vF,vW,vT,fg,ff,fw,ft,F,h.mod hm he hd⟩
theorem dZ.frame (h:dZ w τ m S M vG vF vW vT fg ff fw ft F ks) {i k:Nat} {f':Fr} (hk:ks[i]? = some k) (hm:Mod (fun b=>(τ b).eT i) w w') (he:τ.wx bJ w) (hf:nC w' bJ i k f') :
   dZ w' bJ m S { M with aA:=M.aA.set i f'} vG vF vW vT fg ff fw ft F ks:=by
 have ci:∀ {t:Tg},¬ t.eT i→∀ b,b < w.heap.size→(τ b).eT i→τ b≠t:=fun ht b hb U e=>ht (e ▸ U)
 obtain ⟨c1,c2⟩:=h.Fw hm he (ci (by simp [Tg.eT]));obtain ⟨g1,g2⟩:=gK h.gl h.tg hm he (ci (by simp [Tg.eT]));obtain ⟨f1,f2⟩:=gK h.fr h.tf hm he (ci (by simp [Tg.eT]));obtain ⟨w1,w2⟩:=gK h.wt h.tw hm he (ci (by simp [Tg.eT]));obtain ⟨t1,t2⟩:=gK h.tl h.tt hm he (ci (by simp [Tg.eT]));obtain ⟨s1,s2⟩:=h.jh hm he (ci (by simp [Tg.eT]));obtain ⟨b1,b2,b3,b4⟩:=h.wo hm he (ci (by simp [Tg.eT]));refine ⟨c1,c2,g1,g2,f1,f2,w1,w2,t1,t2,s1,s2,by simpa using h.len,fun j k' f dS jO=>?_,b1,b2,b3,b4⟩;simp only [List.getElem?_set] at jO
 split at jO
 ·rename_i ek;subst ek
  split at jO
  ·cases jO;rw [hk] at dS;cases dS;exact hf
  ·cases jO
 ·rename_i ek;refine h.wm hm he dS jO (fun b hb U=>?_);rintro (h1 | h1 | h1)<;>rw [h1] at U<;>(rcases U with U | U | U<;>simp at U<;>exact ek U.symm)
end
open Classical in
noncomputable def mC (τ:Tag) (w:World) (F:Nat→Prop):Tag:=fun b=>if b < w.heap.size then τ b else if F b then .st else .no
theorem nD (τ:Tag) (w:World) (F:Nat→Prop):τ.ext (mC τ w F) w:=fun b hb=>by simp [mC,hb]
theorem afu {τ:Tag} {w:World} {F:Nat→Prop} {b:Nat} (h:w.heap.size≤b) (hF:F b):mC τ w F b = .st:=by simp [mC,Nat.not_lt.2 h,hF]
theorem TU {τ:Tag} {w:World} {F:Nat→Prop} {b:Nat} (h:w.heap.size≤b) (hF:¬ F b):mC τ w F b = .no:=by simp [mC,Nat.not_lt.2 h,hF]
section
variable {w w':World} {τ bJ:Tag} {m:Nat} {S:SV} {M:Mc} {vG vF vW vT:Value} {fg ff fw ft:Option Nat} {F:Nat→Prop} {ks:List Nat} {X:Nat→Prop}
theorem dZ.store (h:dZ w τ m S M vG vF vW vT fg ff fw ft F ks) {s:St} {F':Nat→Prop} (hg:Grow F F' w w') (hs:gJ w' S.sv s F') (hz:s.size=M.st.size) :
   dZ w' (mC τ w F') m S { M with st:=s} vG vF vW vT fg ff fw ft F' ks:=by
 obtain ⟨hm,Fx⟩:=hg;have he:=(nD τ w F').wx;have ci:∀ {t:Tg},t≠.st→∀ b,b < w.heap.size→F b→τ b≠t:=fun ht b hb U e=>ht (e.symm.trans (h.tF b U))
 obtain ⟨c1,c2⟩:=h.Fw hm he (ci (by simp));obtain ⟨g1,g2⟩:=gK h.gl h.tg hm he (ci (by simp));obtain ⟨f1,f2⟩:=gK h.fr h.tf hm he (ci (by simp));obtain ⟨w1,w2⟩:=gK h.wt h.tw hm he (ci (by simp));obtain ⟨t1,t2⟩:=gK h.tl h.tt hm he (ci (by simp));obtain ⟨b1,b2,b3,b4⟩:=h.wo hm he (ci (by simp));refine ⟨?_,c2,g1,g2,f1,f2,w1,w2,t1,t2,hs,fun b hb=>?_,h.len,fun i k f hk hf=>h.wm hm he hk hf (fun b hb U=>?_),b1,b2,b3,b4⟩
 ·rw [c1];simp only [bg,hz]
 ·rcases Fx b hb with h1 | h1
  ·exact (nD τ w F' b (h.st.lt b h1)).trans (h.tF b h1)
  ·exact afu h1 hb
 ·rw [h.tF b U];rintro (h | h | h)<;>cases h
theorem dZ.An (h:dZ w τ m S M vG vF vW vT fg ff fw ft F ks) {M':Mc} (hm:Mod (· = m) w w') (hc:w'.heap[m]? = some (.cells (bg S M' vG vF vW vT).toArray 113 (0,0)))
   (e1:M'.globals=M.globals) (e2:M'.aA=M.aA) (e3:M'.wait=M.wait) (e4:M'.told=M.told) (e5:M'.st=M.st) (e6:M'.a8=M.a8) (e7:M'.input=M.input):dZ w' τ m S M' vG vF vW vT fg ff fw ft F ks:=by
 have he:τ.wx τ w:=(dP τ w).wx;have ci:∀ {t:Tg},t≠.m→∀ b,b < w.heap.size→b=m→τ b≠t:=fun ht b hb U e=>by subst U;exact ht (e.symm.trans h.tm)
 obtain ⟨g1,g2⟩:=gK h.gl h.tg hm he (ci (by simp));obtain ⟨f1,f2⟩:=gK h.fr h.tf hm he (ci (by simp));obtain ⟨w1,w2⟩:=gK h.wt h.tw hm he (ci (by simp));obtain ⟨t1,t2⟩:=gK h.tl h.tt hm he (ci (by simp));obtain ⟨s1,s2⟩:=h.jh hm he (ci (by simp));obtain ⟨b1,b2,b3,b4⟩:=h.wo hm he (ci (by simp))
 refine ⟨hc,h.tm,by rw [e1];exact g1,g2,f1,f2,by rw [e3];exact w1,w2,by rw [e4];exact t1,t2,by rw [e5];exact s1,s2,by rw [e2];exact h.len,fun i k f hk hf=>h.wm hm he hk (by rw [← e2];exact hf) (fun b hb U=>?_),
  by rw [e6];exact b1,by rw [e7];exact b2,b3,b4⟩
 subst U;rw [h.tm];rintro (h | h | h)<;>cases h
theorem dZ.waits (h:dZ w τ m S M vG vF vW vT fg ff fw ft F ks) {M':Mc} {l:List Int} {v:Value} {Ao:Option Nat} (he:τ.wx bJ w) (hm:Mod (fun b=>fw=some b∨b=m) w w')
   (hc:w'.heap[m]? = some (.cells (bg S M' vG vF v vT).toArray 113 (0,0))) (ho:ax w' 3 1 v (l.map I) l.length Ao) (ht:bJ.is Ao .wt)
   (e1:M'.globals=M.globals) (e2:M'.aA=M.aA) (e3:M'.wait=l) (e4:M'.told=M.told) (e5:M'.st=M.st) (e6:M'.a8=M.a8) (e7:M'.input=M.input):dZ w' bJ m S M' vG vF v vT fg ff Ao ft F ks:=by
 have pR:∀ b,fw=some b∨b=m→τ b = .wt∨τ b = .m:=fun b hb=>hb.imp (fun h'=>h.tw b h') (fun h'=>by subst h';exact h.tm)
 have ci:∀ {t:Tg},t≠.m→t≠.wt→∀ b,b < w.heap.size→(fw=some b∨b=m)→τ b≠t:=fun ht jE b hb U e=>by
  rcases pR b U with h1 | h1
  ·exact jE (e.symm.trans h1)
  ·exact ht (e.symm.trans h1)
 obtain ⟨g1,g2⟩:=gK h.gl h.tg hm he (ci (by simp) (by simp));obtain ⟨f1,f2⟩:=gK h.fr h.tf hm he (ci (by simp) (by simp));obtain ⟨t1,t2⟩:=gK h.tl h.tt hm he (ci (by simp) (by simp));obtain ⟨s1,s2⟩:=h.jh hm he (ci (by simp) (by simp));obtain ⟨b1,b2,b3,b4⟩:=h.wo hm he (ci (by simp) (by simp))
 refine ⟨hc,(he m h.lt (by rw [h.tm];simp)).trans h.tm,by rw [e1];exact g1,g2,f1,f2,by rw [e3];exact ho,ht,by rw [e4];exact t1,t2,by rw [e5];exact s1,s2,by rw [e2];exact h.len,
  fun i k f hk hf=>h.wm hm he hk (by rw [← e2];exact hf) (fun b hb U=>?_),by rw [e6];exact b1,by rw [e7];exact b2,b3,b4⟩
 rcases pR b U with h1 | h1<;>rw [h1]<;>rintro (h | h | h)<;>cases h
theorem dZ.afv (h:dZ w τ m S M vG vF vW vT fg ff fw ft F ks) {M':Mc} {l:List It} {v:Value} {yk:Option Nat} (he:τ.wx bJ w) (hm:Mod (fun b=>ft=some b∨b=m) w w')
   (hc:w'.heap[m]? = some (.cells (bg S M' vG vF vW v).toArray 113 (0,0))) (ho:ax w' 42 2 v (l.flatMap fe) l.length yk) (ht:bJ.is yk .tl)
   (e1:M'.globals=M.globals) (e2:M'.aA=M.aA) (e3:M'.wait=M.wait) (e4:M'.told=l) (e5:M'.st=M.st) (e6:M'.a8=M.a8) (e7:M'.input=M.input):dZ w' bJ m S M' vG vF vW v fg ff fw yk F ks:=by
 have pR:∀ b,ft=some b∨b=m→τ b = .tl∨τ b = .m:=fun b hb=>hb.imp (fun h'=>h.tt b h') (fun h'=>by subst h';exact h.tm)
 have ci:∀ {t:Tg},t≠.m→t≠.tl→∀ b,b < w.heap.size→(ft=some b∨b=m)→τ b≠t:=fun ht jE b hb U e=>by
  rcases pR b U with h1 | h1
  ·exact jE (e.symm.trans h1)
  ·exact ht (e.symm.trans h1)
 obtain ⟨g1,g2⟩:=gK h.gl h.tg hm he (ci (by simp) (by simp));obtain ⟨f1,f2⟩:=gK h.fr h.tf hm he (ci (by simp) (by simp));obtain ⟨w1,w2⟩:=gK h.wt h.tw hm he (ci (by simp) (by simp));obtain ⟨s1,s2⟩:=h.jh hm he (ci (by simp) (by simp));obtain ⟨b1,b2,b3,b4⟩:=h.wo hm he (ci (by simp) (by simp))
 refine ⟨hc,(he m h.lt (by rw [h.tm];simp)).trans h.tm,by rw [e1];exact g1,g2,f1,f2,by rw [e3];exact w1,w2,by rw [e4];exact ho,ht,by rw [e5];exact s1,s2,by rw [e2];exact h.len,
  fun i k f hk hf=>h.wm hm he hk (by rw [← e2];exact hf) (fun b hb U=>?_),by rw [e6];exact b1,by rw [e7];exact b2,b3,b4⟩
 rcases pR b U with h1 | h1<;>rw [h1]<;>rintro (h | h | h)<;>cases h
theorem dZ.aA (h:dZ w τ m S M vG vF vW vT fg ff fw ft F ks) {M':Mc} {v:Value} {yl:Option Nat} {dv:List Nat} (he:τ.wx bJ w) (hm:Mod (fun b=>ff=some b∨b=m) w w')
   (hc:w'.heap[m]? = some (.cells (bg S M' vG v vW vT).toArray 113 (0,0))) (ho:ax w' 152 1 v (dv.map ptr) dv.length yl) (ht:bJ.is yl .fr) (hl:dv.length=M'.aA.length)
   (hf:∀ (i k:Nat) (f:Fr),dv[i]? = some k→M'.aA[i]? = some f→(ks[i]? = some k∧M.aA[i]? = some f)∨nC w' bJ i k f)
   (e1:M'.globals=M.globals) (e3:M'.wait=M.wait) (e4:M'.told=M.told) (e5:M'.st=M.st) (e6:M'.a8=M.a8) (e7:M'.input=M.input):dZ w' bJ m S M' vG v vW vT fg yl fw ft F dv:=by
 have pR:∀ b,ff=some b∨b=m→τ b = .fr∨τ b = .m:=fun b hb=>hb.imp (fun h'=>h.tf b h') (fun h'=>by subst h';exact h.tm)
 have ci:∀ {t:Tg},t≠.m→t≠.fr→∀ b,b < w.heap.size→(ff=some b∨b=m)→τ b≠t:=fun ht jE b hb U e=>by
  rcases pR b U with h1 | h1
  ·exact jE (e.symm.trans h1)
  ·exact ht (e.symm.trans h1)
 obtain ⟨g1,g2⟩:=gK h.gl h.tg hm he (ci (by simp) (by simp));obtain ⟨w1,w2⟩:=gK h.wt h.tw hm he (ci (by simp) (by simp));obtain ⟨t1,t2⟩:=gK h.tl h.tt hm he (ci (by simp) (by simp));obtain ⟨s1,s2⟩:=h.jh hm he (ci (by simp) (by simp));obtain ⟨b1,b2,b3,b4⟩:=h.wo hm he (ci (by simp) (by simp))
 refine ⟨hc,(he m h.lt (by rw [h.tm];simp)).trans h.tm,by rw [e1];exact g1,g2,ho,ht,by rw [e3];exact w1,w2,by rw [e4];exact t1,t2,by rw [e5];exact s1,s2,hl,
  fun i k f hk jO=>?_,by rw [e6];exact b1,by rw [e7];exact b2,b3,b4⟩
 rcases hf i k f hk jO with ⟨k1,k2⟩ | k1
 ·refine h.wm hm he k1 k2 (fun b hb U=>?_);rcases pR b U with h1 | h1<;>rw [h1]<;>rintro (h | h | h)<;>cases h
 ·exact k1
end
theorem aU.cat {w w' pK:World} {τ bJ:Tag} {m:Nat} {S:SV} {M2:Mc} {ks:List Nat} (h1:τ.ext bJ w) (h3:Mod (fun b=>(τ b).own) w w') (k:aU w' bJ m S M2 ks pK):aU w τ m S M2 ks pK:=by
 obtain ⟨Fs,k1,k2,k3⟩:=k;exact ⟨Fs,Fq h1 k1 h3.size,k2,h3.step k3 (fun i hi hl=>by rw [h1 i hl] at hi;exact hi)⟩
end
section
open Go Go.W
theorem CC {w:World} {τ:Tag} {m:Nat} {S:SV} {M:Mc} {ks:List Nat} (h:iw w τ m S M ks) (ho:M.st.Ok) {nd:Nd} {v:Value} (hm:nd.may=true) (hp:bK M.st.ns.length nd.args=true) (hv:Ints w v nd.args) (hr:(M.st.ns.length:Int) < M.st.size) :
   aD Tryz.prog 116 [ptr m,I nd.kind,I nd.num,v] w fun r w'=>r=I M.st.ns.length∧aU w τ m S { M with st:=M.st.add nd} ks w':=by
 obtain ⟨vG,vF,vW,vT,fg,ff,fw,ft,F,h⟩:=h;have hc:=h.cells;obtain ⟨a,c,rfl,Lx,Ly⟩:=hv;refine TH.calls rfl ?_;unfold Fj ptr;simp only [go_sem,simprocAttr,cell_of hc,bg];refine Lv (nd:=nd) (v:=.slice a nd.args.length c) rfl rfl h.st ho hm hp ⟨a,c,rfl,Lx,Ly⟩ ?_ (fun e=>by omega);intro _ w1 F1 cL oq;refine σ ?_;refine ⟨_,nD τ w F1,⟨vG,vF,vW,vT,fg,ff,fw,ft,F1,?_⟩,oq.1.aB (fun b hb=>?_)⟩
 ·exact h.store (s:=M.st.add nd) oq cL rfl
 ·rw [h.tF b hb];simp [Tg.own]
def Ends (ns:List Nd):Prop:=∀ p,p < ns.length→au ns (over ns p)=over ns p
theorem rA {w:World} {τ:Tag} {m:Nat} {S:SV} {M:Mc} {ks:List Nat} (h:iw w τ m S M ks) (gS:Int):aD Tryz.prog 132 [ptr m,I gS] w fun _ w'=>aU w τ m S (M.fail gS) ks w':=by
 obtain ⟨vG,vF,vW,vT,fg,ff,fw,ft,F,h⟩:=h;have hc:=h.cells;refine ae2.calls rfl ?_;unfold Lg ptr;refine σ ?_;refine bL (off:=15) rfl rfl hc rfl (by simp [bg]) ?_;intro w1 aq ag cL;refine σ ?_;refine bL (off:=16) rfl rfl aq rfl (by simp [bg]) ?_;intro w2 an ae dh;refine σ ?_;refine ⟨τ,dP τ w,⟨vG,vF,vW,vT,fg,ff,fw,ft,F,h.An (M':=M.fail gS) (ag.trans ae) (by simpa [bg,Mc.fail] using an) rfl rfl rfl rfl rfl rfl rfl⟩,(ag.trans ae).aB (fun b hb=>by subst hb;rw [h.tm];simp [Tg.own])⟩
theorem TV {w:World} {τ:Tag} {m:Nat} {S:SV} {M:Mc} {ks:List Nat} (h:iw w τ m S M ks) (hn:0 < M.aA.length) (hs:M.aA.length≤4294967296):aD Tryz.prog 139 [ptr m] w fun _ w'=>aU w τ m S M.qi (ks.take (ks.length - 1)) w':=by
 obtain ⟨vG,vF,vW,vT,fg,ff,fw,ft,F,h⟩:=h;have hc:=h.cells;have hl:=h.len;obtain ⟨a,c,rfl,fo,_⟩:=h.fr.val;refine ae9.calls rfl ?_;unfold Ln ptr;have e1:IntKind.i64.wrap ((ks.length:Int) - 1)=((ks.length - 1:Nat):Int):=by rw [bU (by omega) (by omega)];omega
 have e2:(0:Int)≤((ks.length - 1:Nat):Int)∧((ks.length - 1:Nat):Int)≤c:=by omega
 simp only [go_sem,simprocAttr,ak,bh,cell_of hc,bg,e1,e2,CA];refine bL (off:=10) rfl rfl hc rfl (by simp [bg]) ?_;intro w1 aq ag cL;refine σ ?_;have nZ:Mod (fun b=>ff=some b∨b=m) w w1:=(Mod.dj ag).aB (fun b hb=>.inr hb)
 refine ⟨τ,dP τ w,⟨vG,.slice a (ks.length - 1) c,vW,vT,fg,ff,fw,ft,F,h.aA (dP τ w).wx nZ (by simpa [bg,Mc.qi] using aq) ?_ h.tf (by simp [Mc.qi,hl]) ?_ rfl rfl rfl rfl rfl rfl⟩,
  nZ.aB ?_⟩
 ·have:=(Ft h.fr (k:=ks.length - 1) (by omega)).mod (Mod.dj ag) (fun b hb hh=>by subst hh;have:=h.tf b hb;rw [h.tm] at this;cases this)
  simpa [List.map_take] using this
 ·intro i k f hk hf;simp only [Mc.qi,List.getElem?_take] at hk hf
  split at hk
  ·split at hf
   ·exact .inl ⟨hk,hf⟩
   ·cases hf
  ·cases hk
 ·rintro b (hb | rfl)
  ·rw [h.tf b hb];simp [Tg.own]
  ·rw [h.tm];simp [Tg.own]
end
section
open Go Go.W
theorem TW {ns:List Nd} (hw:WF ns) (he:Ends ns) {p:Nat} (hp:p < ns.length):∃ k,∀ j,k≤j→fit (au ns) j p=over ns p:=by
 obtain ⟨k,_,h⟩:=oa (au ns) ns.length p;refine ⟨k+ns.length,fun j hj=>?_⟩;have h:over ns p=fit (au ns) (k+ns.length) p:=h;obtain ⟨d,rfl⟩:∃ d,j=d+(k+ns.length):=⟨j - (k+ns.length),by omega⟩;rw [jV,← h];exact BN (he p hp) d
theorem afw {ns:List Nd} (hw:WF ns) {p:Nat} (hp:p < ns.length):(ai ns p).args.length≤8∧(∀ a∈(ai ns p).args,0≤a∧a < ns.length)∧(ind ns p=true→∃ q:Nat,(ai ns p).args=[(q:Int)]∧au ns p=q):=by
 refine ⟨?_,fun a ha=>?_,fun hi=>?_⟩
 ·have h:=(iW hw hp).1;simp only [Nd.may,gP,decide_eq_true_eq] at h;omega
 ·have:=List.all_eq_true.1 (iW hw hp).2 a ha
  simpa using this
 ·obtain ⟨q,_,h1,h2⟩:=pX hw hp hi;exact ⟨q,h1,h2⟩
theorem ot {w:World} {τ:Tag} {m:Nat} {S:SV} {M:Mc} {ks:List Nat} (h:iw w τ m S M ks) (ho:M.st.Ok) (he:Ends M.st.ns) {p:Int} (hp:0≤p∧p < M.st.ns.length) :
   aD Tryz.prog 134 [ptr m,I p] w fun r w'=>∃ v,r = .tuple #[I (M.st.ov p),.agg #[I (M.st.nd p).kind,I (M.st.nd p).num,v]]∧xC w w' v (M.st.nd p).args∧Mod (fun _=>False) w w':=by
 obtain ⟨vG,vF,vW,vT,fg,ff,fw,ft,F,h⟩:=h;have hc:=h.cells;have kr:=h.lt;obtain ⟨p,rfl⟩:∃ q:Nat,p=q:=⟨p.toNat,by omega⟩;have sC:p < M.st.ns.length:=by omega
 have hw:=ho.wf;obtain ⟨K,hK⟩:=TW hw he sC;have ah:∀ k,fit (au M.st.ns) k p < M.st.ns.length:=fun k=>xE (eX hw) k sC
 refine ae4.calls rfl ?_;unfold Li ptr;refine σ ?_;refine de ?_;intro w1 aq ag cL;have dk:=ag.at hc (fun h=>h);have ug:=h.st.mod ag (fun _ _ h=>h);simp only [go_sem,simprocAttr,cell_of dk,bg];refine TO (p:=(p:Int)) rfl rfl ug hw ho.n hp ?_;intro v2 w2 fK ae;refine σ ?_;refine de ?_;intro w3 aE ab gj;refine σ ?_;refine cu (cs:=[I 0,I 0,.slice none 0 0]) rfl rfl aE rfl rfl ?_ ?_
 ·obtain ⟨fp,fK,_⟩:=fK;obtain ⟨va,vc,rfl,_⟩:=fK.val;simp [Value.oneCell']
 intro w4 aJ aj eA;refine σ ?_;have ey:Mod (fun _=>False) w w4:=((ag.trans ae).trans ab).step aj (fun x U hl=>by subst U;have:=ag.size;have:=ae.size;omega);have Fe:=ag.size;have an4:=ae.size;have kU:w4.heap[w.heap.size]? = some (.cells #[I 0,I 0,.slice none 0 0] 104 (0,0)):=aj.at (ab.at (ae.at aq (fun h=>h)) (fun h=>h)) (fun hh=>by omega)
 refine dz (fun n ρ w'=>∃ (j:Nat) (v:Value) (fp:Option Nat),n=K - j∧Mod (fun _=>False) w w'∧w'.heap[w.heap.size]? = some (.cells #[I 0,I 0,.slice none 0 0] 104 (0,0)) ∧
  w'.heap[w2.heap.size]? = some (.cells #[I (ai M.st.ns (fit (au M.st.ns) j p)).kind,I (ai M.st.ns (fit (au M.st.ns) j p)).num,v] 104 (0,0)) ∧
  ax w' 3 1 v ((ai M.st.ns (fit (au M.st.ns) j p)).args.map I) (ai M.st.ns (fit (au M.st.ns) j p)).args.length fp∧(∀ b,fp=some b→w.heap.size≤b) ∧
  ρ=[(0,ptr m),(1,I (fit (au M.st.ns) j p:Nat)),(5,ptr w.heap.size),(6,ptr w2.heap.size)]) K ⟨0,v2,?_⟩ ?_
 ·obtain ⟨fp,fK,fQ⟩:=fK;refine ⟨fp,rfl,ey,kU,aJ,?_,fun b hb=>Nat.le_trans (by omega) (fQ b hb),rfl⟩;exact (fK.mod ab (fun _ _ h=>h)).mod aj (fun b hb hh=>by subst hh;have:=fK.lt hb;omega)
 rintro n ρ w5 ⟨j,v,fp,rfl,ay,g1,g2,g3,g4,rfl⟩;unfold TM ptr;obtain ⟨n1,n2,n3⟩:=afw hw (ah j);obtain ⟨va,vc,rfl,_⟩:=g3.val;have z:(0:Int)≤0∧(0:Int) < 1:=by omega
 have wq:=ay.at hc (fun h=>h);have afx:=h.st.mod ay (fun _ _ h=>h);have stop:au M.st.ns (fit (au M.st.ns) j p)=fit (au M.st.ns) j p→over M.st.ns p=fit (au M.st.ns) j p:=by
  intro U;have h1:=hK (K+j) (by omega);rw [jV] at h1;rw [← h1];exact BN U K
 have vY:((ai M.st.ns (fit (au M.st.ns) j p)).kind == 5)=ind M.st.ns (fit (au M.st.ns) j p):=by simp [ind,BEq.beq]
 simp only [go_sem,simprocAttr,cell_of g2,vY]
 refine gz (fun ρ w'=>w5=w'∧∃ t:Bool,(t=true→∃ q:Nat,(ai M.st.ns (fit (au M.st.ns) j p)).args=[(q:Int)]∧au M.st.ns (fit (au M.st.ns) j p)=q∧q≠fit (au M.st.ns) j p)∧(t=false→au M.st.ns (fit (au M.st.ns) j p)=fit (au M.st.ns) j p) ∧
  ρ.get 0=some (ptr m)∧ρ.get 1=some (I (fit (au M.st.ns) j p:Nat))∧ρ.get 5=some (ptr w.heap.size)∧ρ.get 6=some (ptr w2.heap.size)∧ρ.get 27=some (.bool t)) ?_ ?_
 ·cases hi:ind M.st.ns (fit (au M.st.ns) j p) with
  | false=>
   refine σ ?_;exact ⟨false,(fun h=>by cases h),fun _=>ob hi,rfl⟩
  | true=>
   obtain ⟨q,a1,a2⟩:=n3 hi;have CD:=g3;rw [a1] at CD;obtain ⟨b,rfl,rfl,fP⟩:=kA CD (i:=0) (by simp);have zl:(0:Int)≤0∧(0:Int) < (ai M.st.ns (fit (au M.st.ns) j p)).args.length:=by rw [a1];simp
   simp only [List.map_cons,List.map_nil,List.getElem?_cons_zero] at fP;simp only [go_sem,simprocAttr,ak,bh,cell_of g2,zl,fP,c8];refine ⟨_,fun hh=>⟨q,a1,a2,?_⟩,fun hh=>?_,rfl⟩
   ·simp only [aK,aL,aM,ak,aN] at hh;omega
   ·simp only [aK,aL,aM,ak,aN] at hh;rw [a2];omega
 rintro ρ _ ⟨rfl,t,ht,hf,r0,r1,r5,r6,Lz⟩;simp only [go_sem,simprocAttr,r0,r1,r5,r6,Lz];refine aX rfl (fun hh=>?_) (fun hh=>?_)
 ·subst hh;obtain ⟨q,a1,a2,a3⟩:=ht rfl;have hjK:j < K:=by
   rcases Nat.lt_or_ge j K with h1 | h1
   ·exact h1
   ·exfalso;have e1:=hK j h1;have e2:=hK (j+1) (by omega);rw [pV,a2] at e2;exact a3 (e2.trans e1.symm)
  refine σ ?_;have zl:(0:Int)≤0∧(0:Int) < (ai M.st.ns (fit (au M.st.ns) j p)).args.length:=by rw [a1];simp
  have CD:=g3;rw [a1] at CD;obtain ⟨b,rfl,rfl,fP⟩:=kA CD (i:=0) (by simp);simp only [List.map_cons,List.map_nil,List.getElem?_cons_zero] at fP;simp only [go_sem,simprocAttr,ak,bh,cell_of g2,zl,fP,c8,cell_of wq,bg];have hq:q < M.st.ns.length:=by rw [← a2];exact eX hw _ (ah j)
  refine TO (p:=(q:Int)) rfl rfl afx hw ho.n (by simp only at *;omega) ?_;intro v6 w6 sH aH;obtain ⟨vL,sH,jJ⟩:=sH;obtain ⟨vC,vD,rfl,_⟩:=sH.val;refine σ ?_;refine cu (cs:=[I (ai M.st.ns (fit (au M.st.ns) j p)).kind,I (ai M.st.ns (fit (au M.st.ns) j p)).num,.slice (some ⟨b,0,none⟩) (ai M.st.ns (fit (au M.st.ns) j p)).args.length vc]) rfl rfl (aH.at g2 (fun h=>h)) rfl rfl ?_ ?_
  ·simp [Value.oneCell']
  intro w7 cj aZ mX;refine σ ?_;have mV:=aH.size;have iq:=ay.size;rw [Int.toNat_natCast] at sH cj;have LA:fit (au M.st.ns) (j+1) p=q:=by rw [pV,a2]
  refine ⟨_,by omega,j+1,.slice vC (ai M.st.ns q).args.length vD,vL,rfl,?_,?_,?_,?_,fun b hb=>Nat.le_trans iq (jJ b hb),?_⟩
  ·exact (ay.trans aH).step aZ (fun x U hl=>by subst U;omega)
  ·exact aZ.at (aH.at g1 (fun h=>h)) (fun hh=>by omega)
  ·rw [LA];exact cj
  ·rw [LA];exact sH.mod aZ (fun b hb hh=>by subst hh;have:=jJ _ hb;have:=lt_of_heap g2;omega)
  ·rw [LA]
 ·subst hh;have jW:=stop (hf rfl);have hd:w5.drew.heap[w2.heap.size]? = _:=g2;simp only [go_sem,simprocAttr,dK (cs:=[_,_,_]) (off:=0) (n:=3) hd (by simp)];refine cu (cs:=[I 0,I 0,.slice none 0 0]) rfl rfl g1 rfl rfl ?_ ?_
  ·simp [Value.oneCell']
  intro w7 cj aZ mX;simp only [go_sem,simprocAttr,dK (cs:=[_,_,_]) (off:=0) (n:=3) cj (by simp)];have e1:M.st.ov (p:Int)=fit (au M.st.ns) j p:=by simp only [St.ov,Int.toNat_natCast];exact jW
  have e2:M.st.nd (p:Int)=ai M.st.ns (fit (au M.st.ns) j p):=by unfold St.nd;rw [e1]
  rw [e1,e2];have iI:=Mod.dj aZ;refine ⟨_,rfl,⟨fp,g3.mod iI (fun b hb hh=>hP g3 hb (hh ▸ g1) (by decide)),g4⟩,ay.step iI (fun x U hl=>by subst U;omega)⟩
end
end Go.Proofs.YtnjobkbblhaliaaGreatDoor