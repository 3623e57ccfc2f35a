/- Texts that the last file stands on: G8, G9, G10, P11, G11, G12, G13, G14, G15, IRM, M0, Q1, M1, M2, M3, M4. -/
import Derived.Test.YtnjobkbblhaliaaGreatDoorZSB
import Derived.Test.YtnjobkbblhaliaaGreatDoorZSA
import Derived.KernelRfl
set_option linter.unusedSimpArgs false
set_option linter.unusedVariables false
set_option maxRecDepth 100000
namespace Go.Proofs.YtnjobkbblhaliaaGreatDoor
section
open Go Go.W
def newMap (fr:Nat) (out:List Nat):List (Int×Int):=(List.range out.length).map fun j=>((out.getD j 0:Int),((fr+j:Nat):Int))
theorem newMap_app (fr:Nat) (out:List Nat) (x:Nat):newMap fr (out++[x])=newMap fr out++[((x:Int),((fr+out.length:Nat):Int))]:=by
 unfold newMap;rw [List.length_append,List.length_singleton,List.range_succ,List.map_append]
 congr 1
 · apply List.map_congr_left;intro j hj;have:=List.mem_range.1 hj;simp [List.getD_eq_getElem?_getD,List.getElem?_append_left this]
 · simp [List.getD_eq_getElem?_getD]
theorem newMap_none {fr:Nat} {out:List Nat} {x:Nat} (h:x∉out):lget (newMap fr out) x=none∧∀ v,lput (newMap fr out) x v=newMap fr out++[((x:Int),v)]:=by
 have hf:(newMap fr out).findIdx? (fun p=>p.1 == (x:Int))=none:=by
   rw [List.findIdx?_eq_none_iff];intro q hq;obtain ⟨j,hj,rfl⟩:=List.mem_map.1 hq;have hj':=List.mem_range.1 hj;have:out.getD j 0≠x:=fun hh=>h (by rw [← hh,List.getD_eq_getElem?_getD,List.getElem?_eq_getElem hj'];exact List.getElem_mem hj')
   simp only [beq_eq_false_iff_ne,ne_eq];omega
 refine ⟨by rw [lget_idx,hf];rfl,fun v=>by unfold lput;rw [hf]⟩
theorem newMap_some (fr:Nat):∀ (n:Nat) (out:List Nat) (x:Nat),out.length=n→x∈out→lget (newMap fr out) x=some ((fr+out.idxOf x:Nat):Int):=by
 intro n
 induction n with
 | zero=>intro out x h hx;rw [List.eq_nil_of_length_eq_zero h] at hx;cases hx
 | succ n ih=>
   intro out x hl h;rcases List.eq_nil_or_concat out with rfl | ⟨out,y,rfl⟩
   · cases h
   rw [List.concat_eq_append] at *;have hl':out.length=n:=by simpa using hl
   rw [newMap_app];by_cases hx:x∈out
   · have h1:=ih out x hl' hx;unfold lget at h1 ⊢;rw [List.find?_append,List.idxOf_append,if_pos hx];cases hq:(newMap fr out).find? (fun p=>p.1 == (x:Int)) with
     | none=>rw [hq] at h1;cases h1
     | some q=>rw [hq] at h1;simpa using h1
   · have e:x=y:=by simpa [hx] using h
     subst e;have h1:=(newMap_none (fr:=fr) hx).1;unfold lget at h1 ⊢;rw [List.find?_append,List.idxOf_append,if_neg hx];cases hq:(newMap fr out).find? (fun p=>p.1 == (x:Int)) with
     | none=>simp
     | some q=>rw [hq] at h1;cases h1
structure MvAt (w:World) (bm a bo br bn:Nat) (ns:List Nd) (fr:Nat) (out:List Nat) (vm:Value) (fp:Option Nat):Prop where
 cells:w.heap[bm]? = some (.cells #[.pointer (some ⟨a,0,none⟩),.slice (some ⟨bo,0,none⟩) ns.length ns.length,.map (some br),I fr,.map (some bn),vm] 249 (0,0))
 of:w.heap[bo]? = some (.cells (((List.range ns.length).map fun i=>(over ns i:Int)).map I).toArray 3 (0,0))
 new:MapAt w bn (newMap fr out)
 met:OwnS w 3 1 vm (out.map fun x=>I (x:Nat)) out.length fp
 ne:fp≠some bo
theorem mv_mod {w w':World} {bm a bo br bn:Nat} {ns:List Nd} {fr:Nat} {out:List Nat} {vm:Value} {fp:Option Nat} {S:Nat→Prop} (h:MvAt w bm a bo br bn ns fr out vm fp) (hm:Mod S w w') (h1:¬ S bm) (h2:¬ S bo) (h3:¬ S bn) (h4:∀ x,fp=some x→¬ S x):MvAt w' bm a bo br bn ns fr out vm fp:=
 ⟨hm.at h.cells h1,hm.at h.of h2,map_mod h.new hm h3,h.met.mod hm h4,h.ne⟩
theorem place_ok (w:World) (bm a bo br bn:Nat) (ns:List Nd) (hw:WF ns) (hn:ns.length≤1048576) (fr:Nat) (hfr:fr≤ns.length) (out:List Nat) (vm:Value) (fp:Option Nat) (h:MvAt w bm a bo br bn ns fr out vm fp) (hm:MetF ns fr out) (p:Nat) (hp:p < ns.length) :
   CallsR Tryz.prog 204 [.pointer (some ⟨bm,0,none⟩),I p] w fun r w'=>r=I (numF ns fr (meetF ns fr out p) p)∧∃ vm' fp',MvAt w' bm a bo br bn ns fr (meetF ns fr out p) vm' fp'∧Mod (fun x=>x=bm∨x=bn∨fp=some x) w w'∧∀ x,fp'=some x→fp=some x∨w.heap.size≤x:=by
 obtain ⟨h1,h2,h3,h4,h5⟩:=h;have hol:over ns p < ns.length:=ov_lt (wf_nxt_lt hw) hp;have hml:=metF_len hm;have b1:(0:Int)≤p∧(p:Int) < ns.length:=by omega
 have hx:=ints_at h2 (i:=p) (by simp;exact hp);have hx2:((List.range ns.length).map fun i=>(over ns i:Int)).getD p 0=(over ns p:Nat):=by simp [List.getD_eq_getElem?_getD,hp]
 rw [hx2] at hx;refine fit204.calls rfl ?_;unfold ir204;(try simp only [go_sem,simprocAttr,zb4,zb6,cell_of h1,b1,hx]);refine ir_cond rfl (fun hc=>?_) (fun hc=>?_)
 · have hc':over ns p < fr:=by simpa using hc
   (try simp only [go_sem,simprocAttr]);have e:meetF ns fr out p=out:=by simp [meetF,hc']
   rw [e];refine ⟨by unfold numF;rw [Int.toNat_natCast,if_pos hc'],vm,fp,⟨h1,h2,h3,h4,h5⟩,Mod.refl _ _,fun x hx=>.inl hx⟩
 · have hc':¬ over ns p < fr:=by simpa using hc
   (try simp only [go_sem,simprocAttr,cell_of h1]);refine e_lk (t:=200) (kt:=3) (et:=3) rfl rfl Tryz.underlying200 Tryz.underlying3 (Tryz.zeroValue3 _) h3 ?_;by_cases hin:over ns p∈out
   · rw [newMap_some fr _ out _ rfl hin];(try simp only [go_sem,simprocAttr,Option.getD_some,Option.isSome_some,Bool.not_true,Bool.not_false]);have e:meetF ns fr out p=out:=by simp [meetF,hin]
     rw [e];refine ⟨by unfold numF;rw [Int.toNat_natCast,if_neg hc'],vm,fp,⟨h1,h2,h3,h4,h5⟩,Mod.refl _ _,fun x hx=>.inl hx⟩
   · have hnone:=newMap_none (fr:=fr) hin;rw [hnone.1];obtain ⟨va,vc,rfl,_,_⟩:=h4.val;have hws:IntKind.i64.wrap ((fr:Int)+out.length)=((fr+out.length:Nat):Int):=by rw [wrap_in]<;>omega
     (try simp only [go_sem,simprocAttr,Option.getD_none,Option.isSome_none,Bool.not_true,Bool.not_false,cell_of h1,hws]);have hwd:Mod (fun _=>False) w w.drew:=⟨Nat.le_refl _,fun _ _ _=>rfl,rfl,rfl,rfl⟩;have hbne:bm≠bn:=fun hh=>by
       obtain ⟨es,c,q2,_⟩:=h3;rw [← hh,h1] at q2;cases q2
     have hbon:bo≠bn:=fun hh=>by
       obtain ⟨es,c,q2,_⟩:=h3;rw [← hh,h2] at q2;cases q2
     have hbmo:bm≠bo:=fun hh=>kind_ne h1 (hh ▸ h2) (by decide)
     have hpn:∀ x,fp=some x→x≠bn:=fun x hx hh=>by
       obtain ⟨es,c,q2,_⟩:=h3;obtain ⟨cs,q3⟩:=own_cells h4 hx;rw [hh,q2] at q3;cases q3
     have hpm:fp≠some bm:=own_ne h4 h1 (by decide);refine e_mu (t:=200) (kt:=3) (et:=3) rfl rfl rfl Tryz.underlying200 Tryz.underlying3 (map_mod h3 hwd (fun h=>h)) ?_;intro w2 hm2 hmm2 hs2;rw [hnone.2,← newMap_app] at hm2;have hmm02:=(hwd.weak (S':=fun x=>x=bn) (fun _ h=>h.elim)).trans hmm2;have h12:=hmm02.at h1 hbne;have h22:=hmm02.at h2 hbon;have h42:=h4.mod hmm02 hpn;(try simp only [go_sem,simprocAttr,cell_of h12]);refine e_bs (by rfl) (by (try simp only [go_sem,simprocAttr]);rfl) ?_;intro w3 hb3 hm3 hs3;have h43:=h42.mod hm3 (fun _ _ h=>h);(try simp only [go_sem,simprocAttr]);refine e_ap (m:=1) (news:=[I (over ns p:Nat)]) rfl h43 rfl (fun h=>by cases h) (rd_block hb3) (by simp [Value.oneCell']) rfl (by omega) (by omega) ?_;intro v4 w4 fp4 ho4 hm4 hf4;obtain ⟨va4,vc4,rfl,_,_⟩:=ho4.val;have h14:=hm4.at (hm3.at h12 (fun h=>h)) hpm;have h24:=hm4.at (hm3.at h22 (fun h=>h)) h5;have hn4:=map_mod (map_mod hm2 hm3 (fun h=>h)) hm4 (fun hh=>hpn bn hh rfl);have hs02:w.heap.size=w2.heap.size:=hs2.symm;have s3:=hm3.size;have lbm:=lt_of_heap h1;have lbo:=lt_of_heap h2;have hf4':∀ x,fp4=some x→fp=some x∨w.heap.size≤x:=fun x hx=>(hf4 x hx).imp (fun h=>h) (fun h=>by omega)
     (try simp only [go_sem,simprocAttr]);refine e_st1 (off:=5) rfl rfl h14 rfl (by simp) ?_;intro w5 hb5 hm5 hs5;have hb5:w5.heap[bm]? = some (.cells #[.pointer (some ⟨a,0,none⟩),.slice (some ⟨bo,0,none⟩) ns.length ns.length,.map (some br),I fr,.map (some bn),.slice va4 (out.length+1) vc4] 249 (0,0)):=hb5;(try simp only [go_sem,simprocAttr]);have e:meetF ns fr out p=out++[over ns p]:=by simp [meetF,hc',hin]
     have enum:numF ns fr (meetF ns fr out p) p=(fr+out.length:Nat):=numF_meet hc' hin;have hp4m:fp4≠some bm:=own_ne ho4 h14 (by decide);refine ⟨by rw [enum],.slice va4 (out.length+1) vc4,fp4,?_,?_,hf4'⟩
     · rw [e];refine ⟨by simpa using hb5,hm5.at h24 (fun hh=>hbmo hh.symm),map_mod hn4 hm5 (fun hh=>hbne hh.symm),?_,?_⟩
       · have:=ho4.mod hm5 (fun x hx hh=>hp4m (by rw [hx,hh]))
         simpa using this
       · intro hh;rcases hf4' bo hh with h | h
         · exact h5 h
         · omega
     · exact (((hmm02.weak (S':=fun x=>x=bm∨x=bn∨fp=some x) (fun x hx=>.inr (.inl hx))).step hm3 (fun _ h _=>h.elim)).step hm4 (fun x hx _=>.inr (.inr hx))).step hm5 (fun x hx _=>.inl hx)
end
section
open Go Go.W
theorem ints_lt0 {w:World} {v:Value} {xs:List Int} (h:Ints w v xs) (hne:xs≠[]):∀ b,vblk v=some b→b < w.heap.size:=by
 obtain ⟨a,c,rfl,_,hx⟩:=h;intro b hb;obtain ⟨ad,rfl,h0⟩:=hx 0 (by cases xs with | nil=>exact absurd rfl hne | cons=>simp);have:=World.block_lt_of_cell? w _ h0;simp only [vblk,Option.some.injEq] at hb;subst hb;have e:(ad.add 0).block=ad.block:=by simp [Addr.add]
 omega
theorem addr_block (a:Addr) (k:Nat):(a.add k).block=a.block:=by unfold Addr.add;split<;>rfl
theorem nums_take {ns:List Nd} {fr:Nat} {out:List Nat} {l:List Int} {k:Nat} (hk:k < l.length):(l.take (k+1)).map (numF ns fr (meetsF ns fr out (l.take (k+1))))=(l.take k).map (numF ns fr (meetsF ns fr out (l.take k)))++[numF ns fr (meetsF ns fr out (l.take (k+1))) l[k]]:=by
 rw [List.take_succ_eq_append_getElem hk,List.map_append]
 congr 1
 apply List.map_congr_left;intro a ha;refine numF_pre ?_ (meetsF_in ns fr _ _ a ha);have:meetsF ns fr out (l.take k++[l[k]])=meetsF ns fr (meetsF ns fr out (l.take k)) [l[k]]:=by unfold meetsF;rw [List.foldl_append]
 rw [this];exact meetsF_pre ns fr _ _
theorem mplaces_ok (w:World) (bm a bo br bn:Nat) (ns:List Nd) (hw:WF ns) (hn:ns.length≤1048576) (fr:Nat) (hfr:fr≤ns.length) (out:List Nat) (vm:Value) (fp:Option Nat) (h:MvAt w bm a bo br bn ns fr out vm fp) (hm:MetF ns fr out) (v:Value) (l:List Int) (hl:Ints w v l) (hok:okPl ns.length l=true)
   (hlv:l≠[]→∀ x,vblk v=some x→¬ (x=bm∨x=bn∨fp=some x)) (hsm:l.length≤17592186044416) :
   CallsR Tryz.prog 200 [.pointer (some ⟨bm,0,none⟩),v] w fun r w'=>∃ vm' fp' fq,MvAt w' bm a bo br bn ns fr (meetsF ns fr out l) vm' fp'∧Mod (fun x=>x=bm∨x=bn∨fp=some x) w w'∧(∀ x,fp'=some x→fp=some x∨w.heap.size≤x) ∧
     OwnS w' 3 1 r ((l.map (numF ns fr (meetsF ns fr out l))).map I) l.length fq∧∀ x,fq=some x→w.heap.size≤x∧fp'≠some x:=by
 have hl0:=hl;obtain ⟨va,vc,rfl,_,hlx⟩:=hl0;have lbm:=lt_of_heap h.cells;have lbn:bn < w.heap.size:=by obtain ⟨es,c,q,_⟩:=h.new;exact lt_of_heap q
 have lbo:=lt_of_heap h.of;have lfp:∀ x,fp=some x→x < w.heap.size:=fun x hx=>h.met.lt hx
 refine fit200.calls rfl ?_;unfold ir200;(try simp only [go_sem,simprocAttr])
 refine ir_loop (fun m ρ w'=>∃ (k:Nat) (vk vr:Value) (fk fq:Option Nat),m=l.length - k∧k≤l.length∧MvAt w' bm a bo br bn ns fr (meetsF ns fr out (l.take k)) vk fk∧Mod (fun x=>x=bm∨x=bn∨fp=some x) w w'∧(∀ x,fk=some x→fp=some x∨w.heap.size≤x) ∧
     OwnS w' 3 1 vr (((l.take k).map (numF ns fr (meetsF ns fr out (l.take k)))).map I) k fq∧(∀ x,fq=some x→w.heap.size≤x∧fk≠some x) ∧
     ρ=[(0,.pointer (some ⟨bm,0,none⟩)),(5,vr),(8,.slice va l.length vc),(9,I l.length),(10,I k)]) l.length
   ⟨0,vm,_,fp,none,rfl,Nat.zero_le _,by simpa [meetsF] using h,Mod.refl _ _,(fun x hx=>.inl hx),OwnS.nil _ _ _,(fun x hx=>by cases hx),rfl⟩ ?_
 rintro m ρ w1 ⟨k,vk,vr,fk,fq,rfl,hk,hmv,hm1,hfk,hor,hfq,rfl⟩;unfold ir200L1;have s1:=hm1.size;(try simp only [go_sem,simprocAttr]);refine ir_cond rfl (fun hc=>?_) (fun hc=>?_)
 · have hk':k < l.length:=by simpa using hc
   have hne:l≠[]:=fun hh=>by rw [hh] at hk';simp at hk'
   obtain ⟨ad,rfl,hcell⟩:=hlx k hk';have hcell1:=hm1.cell hcell (fun hh=>hlv hne ad.block rfl (by rwa [addr_block] at hh));have b1:(0:Int)≤k∧(k:Int) < l.length:=by omega
   have hwk:IntKind.i64.wrap ((k:Int)+1)=((k+1:Nat):Int):=by rw [wrap_in]<;>omega
   have hpk:=List.all_eq_true.1 hok l[k] (List.getElem_mem hk');simp only [Bool.and_eq_true,decide_eq_true_eq] at hpk;obtain ⟨p,hp⟩:∃ p:Nat,l[k]=(p:Int):=⟨l[k].toNat,by omega⟩;rw [hp] at hcell1;have hstep:meetsF ns fr out (l.take (k+1))=meetF ns fr (meetsF ns fr out (l.take k)) p:=by
     rw [meetsF_take ns fr l out (List.getElem?_eq_getElem hk'),hp,Int.toNat_natCast]
   have hnum:=nums_take (ns:=ns) (fr:=fr) (out:=out) hk';rw [hp] at hnum
   have hmk:MetF ns fr (meetsF ns fr out (l.take k)):=metF_meets hw _ hm (by
     rw [okPl,List.all_eq_true];intro y hy
     exact List.all_eq_true.1 hok y (List.mem_of_mem_take hy))
   (try simp only [go_sem,simprocAttr,zb4,zb6,b1,hcell1]);refine e_call (by rfl) ?_;refine (place_ok w1 bm a bo br bn ns hw hn fr hfr _ vk fk hmv hmk p (by omega)).mono ?_;rintro q w2 ⟨rfl,vk2,fk2,hmv2,hm2,hfk2⟩;rw [← hstep] at hmv2 ⊢
   have hor2:=hor.mod hm2 (fun x hx hh=>by
     have:=hfq x hx;rcases hh with hh | hh | hh
     · omega
     · omega
     · exact this.2 hh)
   obtain ⟨ra,rc,rfl,_,_⟩:=hor2.val;(try simp only [go_sem,simprocAttr]);refine e_bs (by rfl) (by (try simp only [go_sem,simprocAttr]);rfl) ?_;intro w3 hb3 hm3 hs3;have hor3:=hor2.mod hm3 (fun _ _ h=>h);have hmv3:=mv_mod hmv2 hm3 (fun h=>h) (fun h=>h) (fun h=>h) (fun _ _ h=>h);(try simp only [go_sem,simprocAttr]);refine e_ap (m:=1) (news:=[I (numF ns fr (meetsF ns fr out (l.take (k+1))) p)]) rfl hor3 rfl (fun h=>by cases h) (rd_block hb3) (by simp [Value.oneCell']) rfl (by omega) (by omega) ?_;intro v4 w4 fq4 ho4 hm4 hf4;obtain ⟨v4a,v4c,rfl,_,_⟩:=ho4.val;have s2:=hm2.size;have s3:=hm3.size;have hfqn:∀ x,fq=some x→x≠bm∧x≠bo∧x≠bn∧fk2≠some x:=fun x hx=>by
     have h1:=hfq x hx;refine ⟨by omega,by omega,by omega,fun hh=>?_⟩;rcases hfk2 x hh with h | h
     · exact h1.2 h
     · have:=hor.lt hx;omega
   have hmv4:=mv_mod hmv3 hm4 (fun hh=>(hfqn bm hh).1 rfl) (fun hh=>(hfqn bo hh).2.1 rfl) (fun hh=>(hfqn bn hh).2.2.1 rfl) (fun x hx hh=>(hfqn x hh).2.2.2 hx);(try simp only [go_sem,simprocAttr,hwk]);refine ⟨_,?_,k+1,vk2,.slice v4a (k+1) v4c,fk2,fq4,rfl,by omega,hmv4,?_,fun x hx=>?_,?_,fun x hx=>?_,rfl⟩
   · omega
   · refine ((hm1.step hm2 (fun x hx hlt=>?_)).step hm3 (fun _ h _=>h.elim)).step hm4 (fun x hx hlt=>?_)
     · rcases hx with hx | hx | hx
       · exact .inl hx
       · exact .inr (.inl hx)
       · exact .inr (.inr ((hfk x hx).elim (fun h=>h) (fun h=>by omega)))
     · have:=hfq x hx;omega
   · rcases hfk2 x hx with h | h
     · exact hfk x h
     · exact .inr (by omega)
   · rw [hnum,List.map_append];exact ho4
   · rcases hf4 x hx with h | h
     · exact ⟨(hfq x h).1,(hfqn x h).2.2.2⟩
     · refine ⟨by omega,fun hh=>?_⟩;have:=hmv3.met.lt hh;omega
 · have hk':k=l.length:=by simp at hc;omega
   subst hk';rw [List.take_length] at hmv hor;(try simp only [go_sem,simprocAttr]);exact ⟨vk,fk,fq,hmv,hm1,hfk,hor,hfq⟩
end
section
open Go Go.W
def movedF (ns:List Nd) (fr:Nat) (out:List Nat) (x:Nat):Nd:=⟨(ndAt ns x).kind,(ndAt ns x).num,(ndAt ns x).args.map (numF ns fr out)⟩
theorem moved_ok (w:World) (bm a bo br bn:Nat) (ns nsM:List Nd) (hw:WF ns) (hn:ns.length≤1048576) (fr:Nat) (hfr:fr≤ns.length) (out:List Nat) (vm:Value) (fp:Option Nat) (h:MvAt w bm a bo br bn ns fr out vm fp) (hm:MetF ns fr out)
   (c0 c1 cv c3 c4 c5:Value) (F:Nat→Prop) (ha:w.heap[a]? = some (.cells #[c0,c1,cv,c3,c4,c5] 202 (0,0))) (hfm:FromAt 104 w cv nsM F) (hlen:nsM.length=ns.length) (hargs:∀ nd∈nsM,nd.args.length≤8) (hsame:∀ x,fr≤x→x < ns.length→ndAt nsM x=ndAt ns x)
   (hFd:∀ x,F x→¬ (x=bm∨x=bn∨fp=some x)) :
   CallsR Tryz.prog 201 [.pointer (some ⟨bm,0,none⟩)] w fun r w'=>∃ vm' fp' fq ps fps,MvAt w' bm a bo br bn ns fr (reachF ns fr (ns.length+1) 0 out) vm' fp'∧Mod (fun x=>x=bm∨x=bn∨fp=some x) w w' ∧
     OwnS w' 104 3 r (flat ps) (reachF ns fr (ns.length+1) 0 out).length fq∧(∀ x,fq=some x→w.heap.size≤x)∧ArgsD w' ps fps (fun x=>w.heap.size≤x)∧ps.map Prod.fst=(reachF ns fr (ns.length+1) 0 out).map (movedF ns fr (reachF ns fr (ns.length+1) 0 out)):=by
 generalize hO:reachF ns fr (ns.length+1) 0 out=O;have lbm:=lt_of_heap h.cells;have lbn:bn < w.heap.size:=by obtain ⟨es,c,q,_⟩:=h.new;exact lt_of_heap q
 have lbo:=lt_of_heap h.of;have la:=lt_of_heap ha;have hFl:∀ x,F x→x < w.heap.size:=by obtain ⟨_,_,_,_,_,_,q⟩:=hfm;exact q
 refine fit201.calls rfl ?_;unfold ir201;(try simp only [go_sem,simprocAttr])
 refine ir_loop (fun m ρ w'=>∃ (i:Nat) (cur:List Nat) (vk vr:Value) (fk fq:Option Nat) (ps:List (Nd×Value)) (fps:Nat→Option Nat),m=O.length - i∧i≤cur.length∧MetF ns fr cur∧reachF ns fr (ns.length+1 - i) i cur=O ∧
     MvAt w' bm a bo br bn ns fr cur vk fk∧Mod (fun x=>x=bm∨x=bn∨fp=some x) w w'∧(∀ x,fk=some x→fp=some x∨w.heap.size≤x) ∧
     OwnS w' 104 3 vr (flat ps) i fq∧(∀ x,fq=some x→w.heap.size≤x)∧ArgsD w' ps fps (fun x=>w.heap.size≤x)∧ps.map Prod.fst=(cur.take i).map (movedF ns fr O)∧(∀ j x,j < ps.length→fps j=some x→fk≠some x) ∧
     ρ=[(0,.pointer (some ⟨bm,0,none⟩)),(3,vr),(4,I i)]) O.length
   ⟨0,out,vm,_,fp,none,[],fun _=>none,rfl,Nat.zero_le _,hm,hO,h,Mod.refl _ _,(fun x hx=>.inl hx),OwnS.nil _ _ _,(fun x hx=>by cases hx),argsD_nil _ _,rfl,(fun j x hj=>absurd hj (by simp)),rfl⟩ ?_
 rintro m ρ w1 ⟨i,cur,vk,vr,fk,fq,ps,fps,rfl,hi,hmc,hre,hmv,hm1,hfk,hor,hfq,had,hps,hdis,rfl⟩;have hpre:cur <+: O:=by rw [← hre];exact reachF_pre ns fr _ _ _
 have hcl:=metF_len hmc;obtain ⟨vka,vkc,rfl,_,_⟩:=hmv.met.val;unfold ir201L1;(try simp only [go_sem,simprocAttr,cell_of hmv.cells]);refine ir_cond rfl (fun hc=>?_) (fun hc=>?_)
 · have hi':i < cur.length:=by simpa using hc
   obtain ⟨x,hx⟩:∃ x,cur[i]=x:=⟨_,rfl⟩;have hxm:=hmc.2 x (by rw [← hx];exact List.getElem_mem hi')
   have ha1:=hm1.at ha (fun hh=>by
     rcases hh with hh | hh | hh
     · exact kind_ne ha (by rw [hh];exact h.cells) (by decide)
     · obtain ⟨es,c,q,_⟩:=h.new;rw [← hh,ha] at q;cases q
     · exact own_ne h.met ha (by decide) hh)
   have hfm1:=hfm.mod hm1 hFd;obtain ⟨bc,cc,nv,rfl,d0,d1,d2,dx,db,_⟩:=from_at hfm1 hargs (i:=x) (by rw [hlen];exact hxm.1);rw [hsame x hxm.2.2 hxm.1] at d0 d1 dx;have dl:=ln3 d0 d1 d2;obtain ⟨bw,cw,ew,tw⟩:=own_at' hmv.met hi' (u:=I (x:Nat)) (by simp [hi',hx]);simp only [Value.slice.injEq] at ew;obtain ⟨rfl,_,rfl⟩:=ew;have b1:(0:Int)≤i∧(i:Int) < cur.length:=by omega
   have b2:(0:Int)≤(x:Nat)∧((x:Nat):Int) < nsM.length:=by omega
   have hwd:Mod (fun _=>False) w1 w1.drew:=⟨Nat.le_refl _,fun _ _ _=>rfl,rfl,rfl,rfl⟩;have dld:vLN w1.drew 3 (.pointer (some ⟨bc,x*3,none⟩))=some (.agg #[I (ndAt ns x).kind,I (ndAt ns x).num,nv]):=dl;(try simp only [go_sem,simprocAttr,zb4,zb6,cell_of hmv.cells,cell_of ha1,b1,b2,tw,dl,dld]);obtain ⟨na,nc',rfl,_,_⟩:=id dx;refine e_al ?_;intro w2 hb2 hm2 hs2;have hb2:w2.heap[w1.heap.size]? = some (.cells #[I 0,I 0,.slice none 0 0] 104 (0,0)):=hb2;have hs2:w2.heap.size=w1.heap.size+1:=hs2;have hm12:=hwd.trans hm2;have lc:=World.block_lt_of_cell? w1 _ d0;have lw:=World.block_lt_of_cell? w1 _ tw;have lbm1:=lt_of_heap hmv.cells;have la1:=lt_of_heap ha1;refine ⟨⟨hm12.old _ lc (fun h=>h),hm12.old _ lw (fun h=>h),hm12.old _ lbm1 (fun h=>h),hm12.old _ la1 (fun h=>h),hm12.old _ lbm1 (fun h=>h)⟩,?_⟩;(try simp only [go_sem,simprocAttr]);refine e_sta rfl rfl hb2 rfl rfl (by simp [Value.oneCell']) ?_;intro w3 hb3 hm3 hs3;have hm13:Mod (fun _=>False) w1 w3:=hm12.step hm3 (fun x hx hlt=>by omega);have s1:=hm1.size;have hmv3:=mv_mod hmv hm13 (fun h=>h) (fun h=>h) (fun h=>h) (fun _ _ h=>h);have dx3:=dx.mod hm13 (fun _ _ h=>h);have hpl:=(wf_at hw hxm.1).2;have hal:(ndAt ns x).args.length≤8:=by
     rw [← hsame x hxm.2.2 hxm.1];have:ndAt nsM x=nsM[x]'(by omega):=by simp [ndAt,show x < nsM.length by omega]
     rw [this];exact hargs _ (List.getElem_mem _)
   have hfu:ns.length+1 - i=(ns.length - i)+1:=by omega
   rw [hfu,reachF_step ns fr _ i cur hi',hx] at hre;have hpre2:meetsF ns fr cur (ndAt ns x).args <+: O:=by rw [← hre];exact reachF_pre ns fr _ _ _
   (try simp only [go_sem,simprocAttr,cell_of hb3]);refine e_call (by rfl) ?_
   refine (mplaces_ok w3 bm a bo br bn ns hw hn fr hfr cur _ fk hmv3 hmc _ (ndAt ns x).args dx3 hpl (fun _ b hb hh=>by
     have h1:=db b hb;have h2:=hFl b h1;rcases hh with hh | hh | hh
     · exact hFd b h1 (.inl hh)
     · exact hFd b h1 (.inr (.inl hh))
     · rcases hfk b hh with h3 | h3
       · exact hFd b h1 (.inr (.inr h3))
       · omega) (by omega)).mono ?_
   rintro q w4 ⟨vm4,fk4,f4,hmv4,hm4,hfk4,o4,hf4⟩;have hnums:(ndAt ns x).args.map (numF ns fr (meetsF ns fr cur (ndAt ns x).args))=(movedF ns fr O x).args:=by
     simp only [movedF];apply List.map_congr_left;intro y hy;exact (numF_pre hpre2 (meetsF_in ns fr _ _ y hy)).symm
   rw [hnums] at o4;have hmlen:(movedF ns fr O x).args.length=(ndAt ns x).args.length:=by simp [movedF]
   obtain ⟨va4,vc4,rfl,_,_⟩:=o4.val;have s4:=hm4.size;have lfk:∀ y,fk=some y→y < w1.heap.size:=fun y hy=>hmv.met.lt hy
   have hS4:∀ y,(y=bm∨y=bn∨fk=some y)→y < w1.heap.size:=fun y hy=>by
     rcases hy with hy | hy | hy
     · omega
     · have:bn < w1.heap.size:=by omega
       omega
     · exact lfk y hy
   have hb4:=hm4.at hb3 (fun hh=>by have:=hS4 _ hh;omega);(try simp only [go_sem,simprocAttr]);refine e_st1 (off:=2) rfl rfl hb4 rfl (by simp) ?_;intro w5 hb5 hm5 hs5;have hb5:w5.heap[w1.heap.size]? = some (.cells #[I (ndAt ns x).kind,I (ndAt ns x).num,.slice va4 (ndAt ns x).args.length vc4] 104 (0,0)):=hb5;have hfq':∀ y,fq=some y→y < w1.heap.size:=fun y hy=>hor.lt hy
   have hfps':∀ j y,j < ps.length→fps j=some y→y < w1.heap.size:=fun j y hj hy=>(had.1 j hj).1.lt hy
   have keepq:∀ y,fq=some y→¬ (y=bm∨y=bn∨fk=some y):=fun y hy hh=>by
     have:=hfq y hy;rcases hh with hh | hh | hh
     · omega
     · omega
     · exact own_apart hor hmv.met (by decide) hy hh
   have keepp:∀ j y,j < ps.length→fps j=some y→¬ (y=bm∨y=bn∨fk=some y):=fun j y hj hy hh=>by
     have:=(had.1 j hj).2 y hy;rcases hh with hh | hh | hh
     · omega
     · omega
     · exact hdis j y hj hy hh
   have hor5:=((hor.mod hm13 (fun _ _ h=>h)).mod hm4 keepq).mod hm5 (fun y hy hh=>by have:=hfq' y hy;omega);have had5:=argsD_mod (argsD_mod (argsD_mod had hm13 (fun _ _ _ _ h=>h)) hm4 keepp) hm5 (fun j y hj hy hh=>by have:=hfps' j y hj hy;omega);have o5:=o4.mod hm5 (fun y hy hh=>by have:=(hf4 y hy).1;omega)
   have hmv5:=mv_mod hmv4 hm5 (by omega) (by omega) (by omega) (fun y hy hh=>by
     rcases hfk4 y hy with h | h
     · have:=lfk y h;omega
     · omega)
   (try simp only [go_sem,simprocAttr,ln_of hb5 (off:=0) (n:=3) (by simp)]);refine e_bs (by rfl) (by (try simp only [go_sem,simprocAttr]);rfl) ?_;intro w6 hb6 hm6 hs6;have hor6:=hor5.mod hm6 (fun _ _ h=>h);have had6:=argsD_mod had5 hm6 (fun _ _ _ _ h=>h);have o6:=o5.mod hm6 (fun _ _ h=>h);have hmv6:=mv_mod hmv5 hm6 (fun h=>h) (fun h=>h) (fun h=>h) (fun _ _ h=>h);have hwk:IntKind.i64.wrap ((i:Int)+1)=((i+1:Nat):Int):=by rw [wrap_in]<;>omega
   have hpsl:ps.length=i:=by
     have:=congrArg List.length hps;rw [List.length_map,List.length_map,List.length_take] at this;omega
   (try simp only [go_sem,simprocAttr]);refine e_ap (m:=1) (news:=nc (movedF ns fr O x,.slice va4 (ndAt ns x).args.length vc4)) rfl hor6 rfl (fun h=>by cases h) (rd_block hb6) (by simp [nc,Value.oneCell']) rfl (by omega) (by omega) ?_;intro v7 w7 fq7 ho7 hm7 hf7;obtain ⟨v7a,v7c,rfl,_,_⟩:=ho7.val;have s6:=hm6.size;have s7:=hm7.size;(try simp only [go_sem,simprocAttr,hwk]);have had7:=argsD_mod had6 hm7 (fun j y hj hy hh=>own_apart (had6.1 j hj).1 hor6 (by decide) hy hh);have o7:=o6.mod hm7 (fun y hy hh=>own_apart o6 hor6 (by decide) hy hh);have hmv7:=mv_mod hmv6 hm7 (fun hh=>by have:=hfq _ hh;omega) (fun hh=>by have:=hfq _ hh;omega) (fun hh=>by have:=hfq _ hh;omega) (fun y hy hh=>own_apart hmv6.met hor6 (by decide) hy hh);have hS13:Mod (fun y=>y=bm∨y=bn∨fp=some y) w w7:=by
     refine (((((hm1.step hm13 (fun _ h _=>h.elim)).step hm4 (fun y hy hlt=>?_)).step hm5 (fun y hy hlt=>by omega)).step hm6 (fun _ h _=>h.elim)).step hm7 (fun y hy hlt=>by have:=hfq y hy;omega));rcases hy with hy | hy | hy
     · exact .inl hy
     · exact .inr (.inl hy)
     · exact .inr (.inr ((hfk y hy).elim (fun h=>h) (fun h=>by omega)))
   rw [← hmlen] at o7;have hpre3:=(meetsF_pre ns fr (ndAt ns x).args cur).length_le;refine ⟨_,?_,i+1,meetsF ns fr cur (ndAt ns x).args,vm4,.slice v7a (i+1) v7c,fk4,fq7,ps++[(movedF ns fr O x,.slice va4 (ndAt ns x).args.length vc4)],_,rfl,by omega,metF_meets hw _ hmc hpl,?_,hmv7,hS13,fun y hy=>?_,?_,fun y hy=>?_,argsD_app had7 (by rw [hmlen] at o7 ⊢;exact o7) (fun y hy=>by have:=(hf4 y hy).1;omega) (fun j y hj hy hh=>?_),?_,fun j y hj hy hh=>?_,rfl⟩
   · have:=hpre.length_le;omega
   · rw [← hre];congr 1;omega
   · rcases hfk4 y hy with h | h
     · exact hfk y h
     · exact .inr (by omega)
   · rw [flat_app,flat_one];exact ho7
   · rcases hf7 y hy with h | h
     · exact hfq y h
     · omega
   · have:=hfps' j y hj hy;have:=(hf4 y hh).1;omega
   · rw [List.map_append,hps];have e1:(meetsF ns fr cur (ndAt ns x).args).take (i+1)=cur.take i++[x]:=by
       obtain ⟨t,ht⟩:=meetsF_pre ns fr (ndAt ns x).args cur;rw [← ht,List.take_append_of_le_length (by omega),List.take_succ_eq_append_getElem hi',hx]
     rw [e1,List.map_append];rfl
   · simp only [List.length_append,List.length_cons,List.length_nil] at hj;by_cases hjp:j < ps.length
     · rw [if_pos hjp] at hy;rcases hfk4 y hh with h | h
       · exact hdis j y hjp hy h
       · have:=hfps' j y hjp hy;omega
     · rw [if_neg hjp] at hy;exact (hf4 y hy).2 hh
 · have hi':i=cur.length:=by simp at hc;omega
   have hce:cur=O:=by rw [← hre,reachF_end _ _ _ _ _ (by omega)]
   subst hce;subst hi';rw [List.take_length] at hps;(try simp only [go_sem,simprocAttr]);exact ⟨_,fk,fq,ps,fps,hmv,hm1,hor,hfq,had,hps⟩
end
section
open Go Go.W
theorem metF_len' {ns:List Nd} {fr:Nat} {out:List Nat} (h:MetF ns fr out) (hfr:fr≤ns.length):fr+out.length≤ns.length:=by
 have hnd:(out.map (fun x=>x - fr)).Nodup:=by
   unfold List.Nodup;rw [List.pairwise_map];refine h.1.imp_of_mem ?_;intro a b ha hb hab hh;have:=(h.2 a ha).2.2;have:=(h.2 b hb).2.2;exact hab (by omega)
 have:=nodup_le (ns.length - fr) _ hnd (fun x hx=>by
   obtain ⟨y,hy,rfl⟩:=List.mem_map.1 hx;have:=h.2 y hy
   omega)
 simp at this;omega
theorem reachF_args {ns:List Nd} (hw:WF ns) {fr:Nat}:∀ (f i:Nat) (out:List Nat),ns.length+1≤f+i→MetF ns fr out→i≤out.length→(∀ j x,j < i→out[j]? = some x→∀ a∈(ndAt ns x).args,over ns a.toNat < fr∨over ns a.toNat∈out) →
   MetF ns fr (reachF ns fr f i out)∧∀ x∈reachF ns fr f i out,∀ a∈(ndAt ns x).args,over ns a.toNat < fr∨over ns a.toNat∈reachF ns fr f i out:=by
 intro f
 induction f with
 | zero=>
   intro i out hfi hm hi _;have:=metF_len hm;omega
 | succ f ih=>
   intro i out hfi hm hi hc;rcases Nat.lt_or_ge i out.length with hlt | hge
   · rw [reachF_step ns fr f i out hlt];have hx:=hm.2 _ (List.getElem_mem hlt);have hpre:=meetsF_pre ns fr (ndAt ns out[i]).args out;refine ih (i+1) _ (by omega) (metF_meets hw _ hm (wf_at hw hx.1).2) (by have:=hpre.length_le;omega) ?_;intro j x hj hjx a ha;rcases Nat.lt_or_ge j i with h | h
     · have hjx':out[j]? = some x:=by
         obtain ⟨t,ht⟩:=hpre;rw [← ht,List.getElem?_append_left (by omega)] at hjx;exact hjx
       exact (hc j x h hjx' a ha).imp (fun h=>h) (fun h=>hpre.subset h)
     · obtain rfl:j=i:=by omega
       have hjx':out[j]? = some x:=by
         obtain ⟨t,ht⟩:=hpre;rw [← ht,List.getElem?_append_left (by omega)] at hjx;exact hjx
       rw [List.getElem?_eq_getElem hlt,Option.some.injEq] at hjx';subst hjx';exact meetsF_in ns fr _ _ a ha
   · rw [reachF_end ns fr _ _ _ hge];refine ⟨hm,fun x hx a ha=>?_⟩;obtain ⟨j,hj,rfl⟩:=List.getElem_of_mem hx;exact hc j _ (by omega) (List.getElem?_eq_getElem hj) a ha
def isY (fr:Nat) (q:Int):Bool:=decide (q≥(fr:Int))
def oldStep (ns:List Nd) (fr:Nat) (out:List Nat) (p:Nat):List Nat:=meetsF ns fr out ((ndAt ns p).args.filter (isY fr))
def oldMeets (ns:List Nd) (fr k:Nat) (out:List Nat):List Nat:=(List.range k).foldl (oldStep ns fr) out
theorem oldMeets_succ (ns:List Nd) (fr k:Nat) (out:List Nat):oldMeets ns fr (k+1) out=oldStep ns fr (oldMeets ns fr k out) k:=by simp [oldMeets,List.range_succ]
def smallO (ns:List Nd) (fr:Nat) (roots:List Int):List Nat:=reachF ns fr (ns.length+1) 0 (oldMeets ns fr fr (meetsF ns fr [] roots))
def oldArgs (ns:List Nd) (fr:Nat) (O:List Nat) (p:Nat):List Int:=(ndAt ns p).args.map fun q=>if isY fr q=true then numF ns fr O q else q
def oldNd (ns:List Nd) (fr:Nat) (O:List Nat) (p:Nat):Nd:=⟨(ndAt ns p).kind,(ndAt ns p).num,if ind ns p=true∧over ns p=p then [(p:Int)] else oldArgs ns fr O p⟩
def smallNs (ns:List Nd) (fr:Nat) (roots:List Int):List Nd:=(List.range fr).map (oldNd ns fr (smallO ns fr roots))++(smallO ns fr roots).map (movedF ns fr (smallO ns fr roots))
def smallRoots (ns:List Nd) (fr:Nat) (roots:List Int):List Int:=roots.map (numF ns fr (smallO ns fr roots))
theorem okPl_filter {n:Nat} {l:List Int} (h:okPl n l=true) (p:Int→Bool):okPl n (l.filter p)=true:=by
 rw [okPl,List.all_eq_true] at h ⊢;intro x hx;exact h x (List.mem_filter.1 hx).1
theorem oldStep_pre (ns:List Nd) (fr:Nat) (out:List Nat) (p:Nat):out <+: oldStep ns fr out p:=meetsF_pre ns fr _ _
theorem oldMeets_pre (ns:List Nd) (fr k:Nat) (out:List Nat):out <+: oldMeets ns fr k out:=by
 induction k with
 | zero=>exact List.prefix_rfl
 | succ k ih=>rw [oldMeets_succ];exact ih.trans (oldStep_pre ns fr _ k)
theorem oldMeets_pre' (ns:List Nd) (fr:Nat) (out:List Nat) {j k:Nat} (h:j≤k):oldMeets ns fr j out <+: oldMeets ns fr k out:=by
 induction k with
 | zero=>
   obtain rfl:j=0:=by omega
   exact List.prefix_rfl
 | succ k ih=>
   rcases Nat.lt_or_ge j (k+1) with h1 | h1
   · rw [oldMeets_succ];exact (ih (by omega)).trans (oldStep_pre ns fr _ k)
   · obtain rfl:j=k+1:=by omega
     exact List.prefix_rfl
theorem metF_old {ns:List Nd} (hw:WF ns) {fr:Nat} (hfr:fr≤ns.length) {out:List Nat} (h:MetF ns fr out):∀ k,k≤fr→MetF ns fr (oldMeets ns fr k out):=by
 intro k
 induction k with
 | zero=>intro _;exact h
 | succ k ih=>
   intro hk;rw [oldMeets_succ];exact metF_meets hw _ (ih (by omega)) (okPl_filter (wf_at hw (by omega)).2 _)
theorem old_in (ns:List Nd) (fr:Nat) (out:List Nat) {p k:Nat} (hp:p < k) {a:Int} (ha:a∈(ndAt ns p).args) (hy:isY fr a=true):over ns a.toNat < fr∨over ns a.toNat∈oldMeets ns fr k out:=by
 have h1:=meetsF_in ns fr ((ndAt ns p).args.filter (isY fr)) (oldMeets ns fr p out) a (List.mem_filter.2 ⟨ha,hy⟩);refine h1.imp (fun h=>h) (fun h=>(oldMeets_pre' ns fr out (show p+1≤k by omega)).subset ?_);rw [oldMeets_succ];exact h
theorem small_met {ns:List Nd} (hw:WF ns) {fr:Nat} (hfr:fr≤ns.length) {roots:List Int} (ho:okPl ns.length roots=true) :
   MetF ns fr (smallO ns fr roots)∧(∀ x∈smallO ns fr roots,∀ a∈(ndAt ns x).args,over ns a.toNat < fr∨over ns a.toNat∈smallO ns fr roots) ∧
   (∀ a∈roots,over ns a.toNat < fr∨over ns a.toNat∈smallO ns fr roots)∧∀ p,p < fr→∀ a∈(ndAt ns p).args,isY fr a=true→over ns a.toNat < fr∨over ns a.toNat∈smallO ns fr roots:=by
 have h0:=metF_meets hw roots (metF_nil ns fr) ho;have h1:=metF_old hw hfr h0 fr (Nat.le_refl _);obtain ⟨h2,h3⟩:=reachF_args hw (ns.length+1) 0 _ (by omega) h1 (Nat.zero_le _) (fun j x h=>by omega);have hp:=reachF_pre ns fr (ns.length+1) 0 (oldMeets ns fr fr (meetsF ns fr [] roots));refine ⟨h2,h3,fun a ha=>?_,fun p hp1 a ha hy=>?_⟩
 · exact (meetsF_in ns fr roots [] a ha).imp (fun h=>h) (fun h=>hp.subset ((oldMeets_pre ns fr fr _).subset h))
 · exact (old_in ns fr _ hp1 ha hy).imp (fun h=>h) (fun h=>hp.subset h)
theorem small_length (ns:List Nd) (fr:Nat) (roots:List Int):(smallNs ns fr roots).length=fr+(smallO ns fr roots).length:=by simp [smallNs]
theorem small_len {ns:List Nd} (hw:WF ns) {fr:Nat} (hfr:fr≤ns.length) {roots:List Int} (ho:okPl ns.length roots=true):(smallNs ns fr roots).length≤ns.length:=by
 rw [small_length];exact metF_len' (small_met hw hfr ho).1 hfr
theorem numF_lt {ns:List Nd} {fr:Nat} {O:List Nat} {a:Int} (h:over ns a.toNat < fr∨over ns a.toNat∈O):0≤numF ns fr O a∧numF ns fr O a < (fr+O.length:Nat):=by
 unfold numF
 split
 · rename_i hh;omega
 · rename_i hh;have:=List.idxOf_lt_length_iff.2 (h.resolve_left hh);omega
theorem small_wf {ns:List Nd} (hw:WF ns) {fr:Nat} (hfr:fr≤ns.length) {roots:List Int} (ho:okPl ns.length roots=true):WF (smallNs ns fr roots):=by
 obtain ⟨h1,h2,h3,h4⟩:=small_met hw hfr ho;intro nd hnd;rw [small_length];rcases List.mem_append.1 hnd with hx | hx
 · obtain ⟨p,hp,rfl⟩:=List.mem_map.1 hx;have hp':=List.mem_range.1 hp;have hat:=wf_at hw (show p < ns.length by omega);by_cases hr:ind ns p=true∧over ns p=p
   · have hk:(ndAt ns p).kind=5:=by simpa [ind] using hr.1
     have hm:=hat.1;simp only [Nd.may,mayB,hk,decide_eq_true_eq] at hm;refine ⟨?_,?_⟩
     · simp only [oldNd,if_pos hr,Nd.may,mayB,hk];simp;omega
     · simp only [oldNd,if_pos hr,okPl];simp;omega
   · refine ⟨?_,?_⟩
     · have:=hat.1
       simpa [oldNd,if_neg hr,oldArgs,Nd.may] using this
     · simp only [oldNd,if_neg hr];rw [okPl,List.all_eq_true];intro y hy;obtain ⟨a,ha,rfl⟩:=List.mem_map.1 hy;have hpl:=List.all_eq_true.1 hat.2 a ha;simp only [Bool.and_eq_true,decide_eq_true_eq] at hpl ⊢
       split
       · rename_i hyy;have:=numF_lt (h4 p hp' a ha hyy);omega
       · rename_i hyy;simp [isY] at hyy;omega
 · obtain ⟨x,hxO,rfl⟩:=List.mem_map.1 hx;have hat:=wf_at hw (h1.2 x hxO).1;refine ⟨by simpa [movedF,Nd.may] using hat.1,?_⟩;rw [okPl,List.all_eq_true];intro y hy;obtain ⟨a,ha,rfl⟩:=List.mem_map.1 hy;have:=numF_lt (h2 x hxO a ha);simp only [Bool.and_eq_true,decide_eq_true_eq];omega
theorem small_roots_ok {ns:List Nd} (hw:WF ns) {fr:Nat} (hfr:fr≤ns.length) {roots:List Int} (ho:okPl ns.length roots=true):okPl (smallNs ns fr roots).length (smallRoots ns fr roots)=true:=by
 obtain ⟨h1,h2,h3,h4⟩:=small_met hw hfr ho;rw [small_length,okPl,List.all_eq_true];intro y hy;obtain ⟨a,ha,rfl⟩:=List.mem_map.1 hy;have:=numF_lt (h3 a ha);simp only [Bool.and_eq_true,decide_eq_true_eq];omega
theorem leadOk_full {ns:List Nd} (hw:WF ns):LeadOk ns ns.length []:=by
 refine ⟨by simp,fun k=>⟨fun h=>by simp at h,fun ⟨p,_,hp,a,ha,hge⟩=>?_⟩⟩;have:=List.all_eq_true.1 (wf_at hw hp).2 a ha;simp only [Bool.and_eq_true,decide_eq_true_eq] at this;omega
end
section
open Go Go.W
theorem fromD_ne {w:World} {cv:Value} {ns:List Nd} {F:Nat→Prop} (h:FromD 104 w cv ns F) {a:Nat} {cs:Array Value} {fz:Nat×Nat} (ha:w.heap[a]? = some (.cells cs 202 fz)):FromD 104 w cv ns (fun x=>F x∧x≠a):=by
 obtain ⟨fpc,ps,fp,h1,h2,h3,h4,h5⟩:=h;exact ⟨fpc,ps,fp,h1,fun b hb=>⟨h2 b hb,fun hh=>own_ne h1 ha (by decide) (by rw [hb,hh])⟩,⟨fun i hi=>⟨(h3.1 i hi).1,fun b hb=>⟨(h3.1 i hi).2 b hb,fun hh=>own_ne (h3.1 i hi).1 ha (by decide) (by rw [hb,hh])⟩⟩,h3.2⟩,h4,fun b hb=>h5 b hb.1⟩
def SmallPost (At:World→Nat→Int→Int→Nat→Int→List Nd→(Nat→Prop)→Prop) (w:World) (a:Nat) (size young times:Int) (ns:List Nd) (fr:Nat) (roots:List Int) (F:Nat→Prop) (r:Value) (w':World):Prop:=
 ∃ fq F',OwnS w' 3 1 r ((smallRoots ns fr roots).map I) roots.length fq∧At w' a size young (smallNs ns fr roots).length (IntKind.i64.wrap (times+1)) (smallNs ns fr roots) F'∧Grow F F' w w'∧∀ x,fq=some x→w.heap.size≤x∧¬ F' x
theorem ints_lt1 {w:World} {v:Value} {l:List Int} (h:Ints w v l):l≠[]→∀ x,vblk v=some x→x < w.heap.size:=fun hne x hx=>ints_lt0 h hne x hx
theorem ints_mod' {w w':World} {v:Value} {l:List Int} {S:Nat→Prop} (h:Ints w v l) (hm:Mod S w w') (hs:l≠[]→∀ x,vblk v=some x→¬ S x):Ints w' v l:=by
 obtain ⟨a,c,rfl,hl,hx⟩:=h;refine ⟨a,c,rfl,hl,fun i hi=>?_⟩;obtain ⟨ad,rfl,h1⟩:=hx i hi;refine ⟨ad,rfl,hm.cell h1 ?_⟩;have hne:l≠[]:=by rintro rfl;simp at hi
 rw [addr_block];exact hs hne _ rfl
theorem gall_ok (w:World) (a:Nat) (size young:Int) (old:Nat) (times:Int) (ns:List Nd) (F:Nat→Prop) (h:GAt w a size young old times ns F) (hw:WF ns) (hn:ns.length≤1048576) (v:Value) (roots:List Int) (hx:Ints w v roots) (hok:okPl ns.length roots=true)
   (hv:roots≠[]→∀ x,vblk v=some x→¬ F x) (hsm:roots.length≤17592186044416) :
   CallsR Tryz.prog 195 [.pointer (some ⟨a,0,none⟩),v] w (SmallPost GAt w a size young times ns 0 roots F):=by
 have hFl:=gat_lt h;obtain ⟨va,vc,rfl,_,_⟩:=id hx;obtain ⟨cv,mb,ld,g1,g2,g3,g4,g5,g6⟩:=h;have hargs:=wf_args_le hw;have la:=lt_of_heap g1;have lmb:mb < w.heap.size:=hFl mb g5;have hamb:a≠mb:=fun hh=>by
   obtain ⟨es,c,q,_⟩:=g4;rw [← hh,g1] at q;cases q
 refine fit195.calls rfl ?_;unfold ir195;(try simp only [go_sem,simprocAttr,cell_of g1]);refine e_st1 (off:=5) rfl rfl g1 rfl (by simp) ?_;intro w1 hb1 hm1 hs1;have hb1:w1.heap[a]? = some (.cells #[I size,I young,cv,I old,.map (some mb),I (IntKind.i64.wrap (times+1))] 202 (0,0)):=hb1;have g31:=fromD_mod (fromD_ne g3 g1) hm1 (fun b hb=>hb.2);have g41:=map_mod g4 hm1 (fun hh=>hamb hh.symm);have hx1:=ints_mod' hx hm1 (fun hne x hx hh=>hv hne x hx (hh ▸ g2));have hv1:=ints_lt1 hx;have s1:=hm1.size;(try simp only [go_sem,simprocAttr]);refine e_call (by rfl) ?_;refine (gpassed_ok ns hw hn w1 a _ _ cv _ _ _ _ hb1 (fromD_from g31)).mono ?_;rintro q w2 ⟨bo,br,R,rfl,hT,lo,lr,hor,hm2⟩;have s2:=hm2.size;have hT1:=lt_of_heap hT.of;(try simp only [go_sem,simprocAttr]);refine e_mm ?_;intro w3 hb3 hm3 hs3;(try simp only [go_sem,simprocAttr]);refine e_bx rfl ?_;intro w4 hb4 hm4 hs4;have hb4:w4.heap[w3.heap.size]? = some (.cells #[.pointer (some ⟨a,0,none⟩),.slice (some ⟨bo,0,none⟩) ns.length ns.length,.map (some br),I 0,.map (some w2.heap.size),.slice none 0 0] 249 (0,0)):=hb4;have s3:=hm3.size;have s4:=hm4.size;have hm24:=hm3.trans hm4;have hm14:=hm2.trans hm24;have hmv:MvAt w4 w3.heap.size a bo br w2.heap.size ns 0 [] (.slice none 0 0) none:=⟨hb4,hm24.at hT.of (fun h=>h),map_mod hb3 hm4 (fun h=>h),OwnS.nil _ _ _,fun h=>by cases h⟩;have hx4:=hx1.mod hm14 (fun _ _ h=>h);(try simp only [go_sem,simprocAttr]);refine e_call (by rfl) ?_
 refine (mplaces_ok w4 _ a bo br _ ns hw hn 0 (Nat.zero_le _) [] _ none hmv (metF_nil ns 0) _ roots hx4 hok (fun hne x hx hh=>by
   have:=hv1 hne x hx;rcases hh with hh | hh | hh
   · omega
   · omega
   · cases hh) hsm).mono ?_
 rintro q w5 ⟨vm5,fp5,fq5,hmv5,hm5,hfp5,ho5,hfq5⟩;obtain ⟨va5,vc5,rfl,_,_⟩:=ho5.val;have s5:=hm5.size;have hmet:=metF_meets hw roots (metF_nil ns 0) hok
 have hm15:Mod (fun _=>False) w1 w5:=hm14.step hm5 (fun x hx hlt=>by
   rcases hx with hx | hx | hx
   · omega
   · omega
   · cases hx)
 have hb5:=hm15.at hb1 (fun h=>h);have g35:=fromD_mod g31 hm15 (fun _ _ h=>h);have g45:=map_mod g41 hm15 (fun h=>h);(try simp only [go_sem,simprocAttr]);refine e_call (by rfl) ?_
 refine (moved_ok w5 _ a bo br _ ns ns hw hn 0 (Nat.zero_le _) _ _ _ hmv5 hmet _ _ _ _ _ _ _ hb5 (fromD_from g35) rfl hargs (fun _ _ _=>rfl) (fun x hx hh=>by
   have:=hFl x hx.1;rcases hh with hh | hh | hh
   · omega
   · omega
   · rcases hfp5 x hh with h | h
     · cases h
     · omega)).mono ?_
 rintro q w6 ⟨vm6,fp6,fq6,ps,fps,hmv6,hm6,ho6,hfq6,had6,hps6⟩;have hO:reachF ns 0 (ns.length+1) 0 (meetsF ns 0 [] roots)=smallO ns 0 roots:=rfl;rw [hO] at hmv6 ho6 hps6;obtain ⟨va6,vc6,rfl,_,_⟩:=ho6.val;have s6:=hm6.size;have hS6:∀ x,x < w1.heap.size→¬ (x=w3.heap.size∨x=w2.heap.size∨fp5=some x):=fun x hx hh=>by
   rcases hh with hh | hh | hh
   · omega
   · omega
   · rcases hfp5 x hh with h | h
     · cases h
     · omega
 have hm16:Mod (fun _=>False) w1 w6:=hm15.step hm6 (fun x hx hlt=>(hS6 x hlt hx).elim);have hb6:=hm16.at hb1 (fun h=>h);have g46:=map_mod g41 hm16 (fun h=>h);have ho56:OwnS w6 3 1 (.slice va5 roots.length vc5) ((roots.map (numF ns 0 (smallO ns 0 roots))).map I) roots.length fq5:=by
   have e:roots.map (numF ns 0 (meetsF ns 0 [] roots))=roots.map (numF ns 0 (smallO ns 0 roots)):=by
     apply List.map_congr_left;intro y hy;exact (numF_pre (reachF_pre ns 0 _ _ _) (meetsF_in ns 0 _ _ y hy)).symm
   rw [← e];refine ho5.mod hm6 (fun x hx hh=>?_);have h1:=hfq5 x hx;rcases hh with hh | hh | hh
   · omega
   · omega
   · cases hfp:fp5 with
     | none=>rw [hfp] at hh;cases hh
     | some y=>rw [hh] at h1;exact h1.2 rfl
 (try simp only [go_sem,simprocAttr]);refine e_st1 (off:=2) rfl rfl hb6 rfl (by simp) ?_;intro w7 hb7 hm7 hs7;have hb7:w7.heap[a]? = some (.cells #[I size,I young,.slice va6 (smallO ns 0 roots).length vc6,I old,.map (some mb),I (IntKind.i64.wrap (times+1))] 202 (0,0)):=hb7;(try simp only [go_sem,simprocAttr,cell_of hb7]);refine e_st1 (off:=3) rfl rfl hb7 rfl (by simp) ?_;intro w8 hb8 hm8 hs8;have hb8:w8.heap[a]? = some (.cells #[I size,I young,.slice va6 (smallO ns 0 roots).length vc6,I (smallO ns 0 roots).length,.map (some mb),I (IntKind.i64.wrap (times+1))] 202 (0,0)):=hb8;have g48:=map_mod (map_mod g46 hm7 (fun hh=>hamb hh.symm)) hm8 (fun hh=>hamb hh.symm);(try simp only [go_sem,simprocAttr,cell_of hb8]);refine e_cl (t:=200) (kt:=3) (et:=3) rfl rfl Tryz.underlying200 g48 ?_;intro w9 hb9 hm9 hs9;(try simp only [go_sem,simprocAttr]);have hb99:=hm9.at hb8 hamb;have hm68:Mod (fun x=>x=a) w6 w8:=hm7.trans hm8;have hm69:Mod (fun x=>x=a∨x=mb) w6 w9:=(hm68.weak (fun x hx=>.inl hx)).step hm9 (fun x hx _=>.inr hx);have hm09:Mod (fun x=>x=a∨x=mb) w w9:=((hm1.weak (S':=fun x=>x=a∨x=mb) (fun x hx=>.inl hx)).step hm16 (fun _ h _=>h.elim)).step hm69 (fun x hx _=>hx);have hlen:(smallNs ns 0 roots).length=(smallO ns 0 roots).length:=by rw [small_length];omega
 have hns:smallNs ns 0 roots=ps.map Prod.fst:=by rw [hps6];simp [smallNs]
 refine ⟨fq5,fun x=>x=a∨x=mb∨fq6=some x∨∃ j,j < ps.length∧fps j=some x,?_,?_,⟨hm09.weak (fun x hx=>by rcases hx with hx | hx<;>(subst hx;assumption)),fun x hx=>?_⟩,fun x hx=>?_⟩
 · exact ho56.mod hm69 (fun x hx hh=>by have:=hfq5 x hx;omega)
 · rw [hlen];refine ⟨_,mb,[],hb99,.inl rfl,⟨fq6,ps,fps,?_,fun x hx=>.inr (.inr (.inl hx)),?_,hns.symm,fun x hx=>?_⟩,hb9,.inr (.inl rfl),?_⟩
   · rw [hlen];exact ho6.mod hm69 (fun x hx hh=>by have:=hfq6 x hx;omega)
   · have:=argsD_mod had6 hm69 (fun j x hj hx hh=>by have:=(had6.1 j hj).2 x hx;omega);exact ⟨fun j hj=>⟨(this.1 j hj).1,fun x hx=>.inr (.inr (.inr ⟨j,hj,hx⟩))⟩,this.2⟩
   · have:=hm69.size;rcases hx with hx | hx | hx | ⟨j,hj,hx⟩
     · omega
     · omega
     · have:=ho6.lt hx;omega
     · have:=(had6.1 j hj).1.lt hx;omega
   · rw [← hlen];exact leadOk_full (small_wf hw (Nat.zero_le _) hok)
 · rcases hx with hx | hx | hx | ⟨j,hj,hx⟩
   · exact .inl (hx ▸ g2)
   · exact .inl (hx ▸ g5)
   · have:=hfq6 x hx;exact .inr (by omega)
   · have:=(had6.1 j hj).2 x hx;exact .inr (by omega)
 · have h1:=hfq5 x hx;refine ⟨by omega,fun hh=>?_⟩;have h2:=ho5.lt hx;rcases hh with hh | hh | hh | ⟨j,hj,hh⟩
   · omega
   · omega
   · have:=hfq6 x hh;omega
   · have:=(had6.1 j hj).2 x hh;omega
def GColPost (At:World→Nat→Int→Int→Nat→Int→List Nd→(Nat→Prop)→Prop) (w:World) (a:Nat) (size young:Int) (old:Nat) (times:Int) (ns:List Nd) (roots:List Int) (F:Nat→Prop) (r:Value) (w':World):Prop:=
 (okPl ns.length roots=false→r = .tuple #[.slice none 0 0,I 212]∧Mod (fun _=>False) w w') ∧
 (okPl ns.length roots=true→∃ v,r = .tuple #[v,I 0]∧SmallPost At w a size young times ns 0 roots F v w')
theorem gcol_ok (w:World) (a:Nat) (size young:Int) (old:Nat) (times:Int) (ns:List Nd) (F:Nat→Prop) (h:GAt w a size young old times ns F) (hw:WF ns) (hn:ns.length≤1048576) (v:Value) (roots:List Int) (hx:Ints w v roots)
   (hv:roots≠[]→∀ x,vblk v=some x→¬ F x) (hsm:roots.length≤17592186044416) :
   CallsR Tryz.prog 187 [.pointer (some ⟨a,0,none⟩),v] w (GColPost GAt w a size young old times ns roots F):=by
 obtain ⟨va,vc,rfl,_,_⟩:=id hx;refine fit187.calls rfl ?_;unfold ir187;(try simp only [go_sem,simprocAttr]);refine e_call (by rfl) ?_;refine (gplaces_ok w a ns.length old _ roots (gat_has h) hx).mono ?_;rintro r w1 ⟨rfl,hm1⟩;(try simp only [go_sem,simprocAttr]);refine ir_cond rfl (fun hc=>?_) (fun hc=>?_)
 · have hc':okPl ns.length roots=false:=by simpa using hc
   (try simp only [go_sem,simprocAttr]);exact ⟨fun _=>⟨rfl,hm1⟩,fun h=>by rw [hc'] at h;cases h⟩
 have hc':okPl ns.length roots=true:=by simpa using hc
 (try simp only [go_sem,simprocAttr]);refine e_call (by rfl) ?_;refine (gall_ok w1 a size young old times ns F (gat_mod h hm1 (fun _ _ h=>h)) hw hn _ roots (hx.mod hm1 (fun _ _ h=>h)) hc' hv hsm).mono ?_;rintro r w2 ⟨fq,F',o1,o2,o3,o4⟩;have s1:=hm1.size;obtain ⟨qa,qc,rfl,_,_⟩:=o1.val;(try simp only [go_sem,simprocAttr]);refine ⟨fun h=>(by rw [hc'] at h;cases h),fun _=>⟨_,rfl,fq,F',o1,o2,⟨(hm1.weak (fun _ h=>h.elim)).trans o3.1,fun x hx=>(o3.2 x hx).imp (fun h=>h) (fun h=>by omega)⟩,fun x hx=>⟨by have:=o4 x hx;omega,(o4 x hx).2⟩⟩⟩
end
section
open Go Go.W
theorem flat_same {ps:List (Nd×Value)} {p:Nat} (hp:p < ps.length) {nd:Nd} (hk:nd.kind=ps[p].1.kind) (hn:nd.num=ps[p].1.num):flat (ps.set p (nd,ps[p].2))=flat ps:=by
 unfold flat;rw [List.flatMap_def,List.flatMap_def]
 congr 1
 apply List.ext_getElem?;intro j;simp only [List.getElem?_map,List.getElem?_set]
 split
 · rename_i h;subst h;simp [nc,hk,hn,hp]
 · rfl
theorem argsD_take {w:World} {ps:List (Nd×Value)} {fp:Nat→Option Nat} {F:Nat→Prop} (h:ArgsD w ps fp F) (k:Nat):ArgsD w (ps.take k) fp F:=
 ⟨fun i hi=>by
   have hi':i < ps.length:=by rw [List.length_take] at hi;omega
   rw [List.getElem_take];exact h.1 i hi',fun i j b hi hj=>h.2 i j b (by rw [List.length_take] at hi;omega) (by rw [List.length_take] at hj;omega)⟩
theorem argsD_join {w:World} {ps qs:List (Nd×Value)} {fp fq:Nat→Option Nat} {F:Nat→Prop} (h:ArgsD w ps fp F) (k:ArgsD w qs fq F) (hd:∀ i j b,i < ps.length→j < qs.length→fp i=some b→fq j≠some b) :
   ArgsD w (ps++qs) (fun i=>if i < ps.length then fp i else fq (i - ps.length)) F:=by
 refine ⟨fun i hi=>?_,fun i j b hi hj hij h1 h2=>?_⟩
 · by_cases hip:i < ps.length
   · rw [List.getElem_append_left hip];simp only [if_pos hip];exact h.1 i hip
   · rw [List.getElem_append_right (by omega)];simp only [if_neg hip];exact k.1 _ (by rw [List.length_append] at hi;omega)
 · rw [List.length_append] at hi hj;simp only at h1 h2;by_cases hip:i < ps.length
   · rw [if_pos hip] at h1;by_cases hjp:j < ps.length
     · rw [if_pos hjp] at h2;exact h.2 i j b hip hjp hij h1 h2
     · rw [if_neg hjp] at h2;exact hd i _ b hip (by omega) h1 h2
   · rw [if_neg hip] at h1;by_cases hjp:j < ps.length
     · rw [if_pos hjp] at h2;exact hd j _ b hjp (by omega) h2 h1
     · rw [if_neg hjp] at h2;exact k.2 _ _ b (by omega) (by omega) (by omega) h1 h2
theorem flat_take (ps:List (Nd×Value)):∀ k,(flat ps).take (k*3)=flat (ps.take k):=by
 induction ps with
 | nil=>intro k;simp [flat]
 | cons p ps ih=>
   intro k;cases k with
   | zero=>simp [flat]
   | succ k=>
     have e:flat (p::ps)=I p.1.kind::I p.1.num::p.2::flat ps:=by simp [flat,nc]
     have e':flat (p::ps.take k)=I p.1.kind::I p.1.num::p.2::flat (ps.take k):=by simp [flat,nc]
     rw [e,show (k+1)*3=k*3+3 by omega,List.take_succ_cons,List.take_succ_cons,List.take_succ_cons,ih,List.take_succ_cons,e']
theorem own_take {w:World} {b c n:Nat} {ps:List (Nd×Value)} {fp:Option Nat} (h:OwnS w 104 3 (.slice (some ⟨b,0,none⟩) n c) (flat ps) n fp) {k:Nat} (hk:k≤n):OwnS w 104 3 (.slice (some ⟨b,0,none⟩) k k) (flat (ps.take k)) k fp:=by
 have hl:=h.1;rw [flat_len] at hl;have hn:ps.length=n:=by omega
 refine ⟨by rw [flat_len,List.length_take];omega,?_⟩;rcases h.2 with ⟨h1,_⟩ | ⟨b',c',sp,h1,h2,h3,h4,h5⟩
 · cases h1
 · cases h1;refine .inr ⟨b,k,(flat ps).drop (k*3)++sp,rfl,h2,?_,?_,Nat.le_refl _⟩
   · rw [← flat_take,← List.append_assoc,List.take_append_drop];exact h3
   · rw [← flat_take,← List.append_assoc,List.take_append_drop,List.length_append,flat_len];omega
def leadsN (ns:List Nd) (old:Nat):List Nat:=(List.range old).filter fun p=>(ndAt ns p).args.any (isY old)
theorem mem_leadsN {ns:List Nd} {old p:Nat}:p∈leadsN ns old↔p < old∧∃ a∈(ndAt ns p).args,(old:Int)≤a:=by
 simp [leadsN,isY]
theorem leads_range {ns:List Nd} {old:Nat} {ld:List (Int×Int)} (h:LeadOk ns old ld):∀ k∈ld.map (fun q=>q.1),0≤k∧k < (old:Int):=by
 intro k hk;obtain ⟨p,rfl,hp,_⟩:=(h.2 k).1 hk;omega
theorem leads_len {ns:List Nd} {old:Nat} {ld:List (Int×Int)} (h:LeadOk ns old ld):ld.length≤old:=by
 have hr:=leads_range h;have hnd:((ld.map (fun q=>q.1)).map Int.toNat).Nodup:=by
   unfold List.Nodup;rw [List.pairwise_map];refine List.Pairwise.imp_of_mem ?_ h.1;intro a b ha hb hab hh;have:=hr a ha;have:=hr b hb;exact hab (by omega)
 have:=nodup_le old _ hnd (fun x hx=>by
   obtain ⟨k,hk,rfl⟩:=List.mem_map.1 hx;have:=hr k hk
   omega)
 simpa using this
theorem sortedKeys_leads {ns:List Nd} {old:Nat} {ld:List (Int×Int)} (h:LeadOk ns old ld):sortedKeys ld=(leadsN ns old).map fun p:Nat=>(p:Int):=by
 have hs:=List.pairwise_mergeSort (le:=fun x y:Int=>decide (x≤y)) (by intro a b c;simp;omega) (by intro a b;simp;omega) (ld.map (fun q=>q.1));have hnd:((leadsN ns old).map fun p:Nat=>(p:Int)).Nodup:=by
   unfold List.Nodup;rw [List.pairwise_map];refine ((List.nodup_range (n:=old)).sublist List.filter_sublist).imp ?_;intro a b hab hh;exact hab (by omega)
 refine List.Perm.eq_of_pairwise (le:=fun x y:Int=>x≤y) (fun a b _ _ h1 h2=>by omega) (hs.imp (by intro a b h;simpa using h)) ?_ ?_
 · rw [List.pairwise_map];refine ((List.pairwise_lt_range (n:=old)).sublist List.filter_sublist).imp ?_;intro a b hab;omega
 · refine (List.mergeSort_perm _ _).trans ?_;rw [List.perm_ext_iff_of_nodup h.1 hnd];intro k;rw [h.2 k];simp only [List.mem_map,mem_leadsN];constructor
   · rintro ⟨p,rfl,h1,h2⟩;exact ⟨p,⟨h1,h2⟩,rfl⟩
   · rintro ⟨p,⟨h1,h2⟩,rfl⟩;exact ⟨p,rfl,h1,h2⟩
theorem old_filter_nil {ns:List Nd} {old p:Nat} (h:(ndAt ns p).args.any (isY old)=false):(ndAt ns p).args.filter (isY old)=[]:=by
 rw [List.filter_eq_nil_iff];intro a ha hh;rw [List.any_eq_false] at h;exact h a ha hh
theorem leads_fold (ns:List Nd) (old:Nat) (out:List Nat):(leadsN ns old).foldl (oldStep ns old) out=oldMeets ns old old out:=by
 unfold leadsN oldMeets;rw [List.foldl_filter]
 congr 1
 funext o p
 split
 · rfl
 · rename_i h;unfold oldStep;rw [old_filter_nil (by simpa using h)];rfl
theorem oldArgs_same {ns:List Nd} {old p:Nat} (h:p < old) (hn:p∉leadsN ns old) (O:List Nat):oldArgs ns old O p=(ndAt ns p).args:=by
 have hq:∀ q∈(ndAt ns p).args,¬ isY old q=true:=fun q hq hh=>hn (mem_leadsN.2 ⟨h,q,hq,by simpa [isY] using hh⟩)
 unfold oldArgs
 conv=>rhs;rw [← List.map_id' (ndAt ns p).args]
 apply List.map_congr_left;intro q hqm;rw [if_neg (hq q hqm)]
def rewN (ns:List Nd) (old:Nat) (O:List Nat) (M:List Nat):List Nd:=(List.range ns.length).map fun p=>if p∈M then ⟨(ndAt ns p).kind,(ndAt ns p).num,oldArgs ns old O p⟩ else ndAt ns p
theorem rewN_len (ns:List Nd) (old:Nat) (O M:List Nat):(rewN ns old O M).length=ns.length:=by simp [rewN]
theorem rewN_at (ns:List Nd) (old:Nat) (O M:List Nat) {p:Nat} (hp:p < ns.length):ndAt (rewN ns old O M) p=if p∈M then ⟨(ndAt ns p).kind,(ndAt ns p).num,oldArgs ns old O p⟩ else ndAt ns p:=by
 simp [rewN,ndAt,hp]
theorem nd_ext {l l':List Nd} (hl:l.length=l'.length) (h:∀ p,p < l.length→ndAt l p=ndAt l' p):l=l':=by
 apply List.ext_getElem hl;intro i h1 h2;have:=h i h1
 simpa [ndAt,h1,h2] using this
theorem ndAt_set' (l:List Nd) (p i:Nat) (nd:Nd) (hp:p < l.length):ndAt (l.set p nd) i=if i=p then nd else ndAt l i:=by
 unfold ndAt;rw [List.getD_eq_getElem?_getD,List.getD_eq_getElem?_getD,List.getElem?_set];by_cases h:p=i
 · subst h;simp [hp]
 · rw [if_neg h,if_neg (fun hh=>h hh.symm)]
theorem rewN_nil (ns:List Nd) (old:Nat) (O:List Nat):rewN ns old O []=ns:=by
 refine nd_ext (rewN_len _ _ _ _) (fun p hp=>?_);rw [rewN_len] at hp;rw [rewN_at _ _ _ _ hp,if_neg (by simp)]
theorem rewN_snoc (ns:List Nd) (old:Nat) (O M:List Nat) {p:Nat} (hp:p < ns.length):rewN ns old O (M++[p])=(rewN ns old O M).set p ⟨(ndAt ns p).kind,(ndAt ns p).num,oldArgs ns old O p⟩:=by
 refine nd_ext (by rw [List.length_set,rewN_len,rewN_len]) (fun i hi=>?_);rw [rewN_len] at hi;rw [rewN_at _ _ _ _ hi,ndAt_set' _ _ _ _ (by rw [rewN_len];exact hp),rewN_at _ _ _ _ hi];by_cases h:i=p
 · subst h;simp
 · simp [h]
def ringN (ns l:List Nd) (old:Nat) (left R:List (Int×Int)):List Nd:=
 (List.range ns.length).map fun p=>if p < old∧(p:Int)∈R.map (fun q=>q.1)∧(p:Int)∉left.map (fun q=>q.1) then ⟨(ndAt ns p).kind,(ndAt ns p).num,[(p:Int)]⟩ else ndAt l p
theorem ringN_len (ns l:List Nd) (old:Nat) (left R:List (Int×Int)):(ringN ns l old left R).length=ns.length:=by simp [ringN]
theorem ringN_at (ns l:List Nd) (old:Nat) (left R:List (Int×Int)) {p:Nat} (hp:p < ns.length):ndAt (ringN ns l old left R) p=if p < old∧(p:Int)∈R.map (fun q=>q.1)∧(p:Int)∉left.map (fun q=>q.1) then ⟨(ndAt ns p).kind,(ndAt ns p).num,[(p:Int)]⟩ else ndAt l p:=by
 conv=>lhs;unfold ndAt ringN
 rw [List.getD_eq_getElem?_getD,List.getElem?_map,List.getElem?_range hp];rfl
theorem ringN_all (ns l:List Nd) (hl:l.length=ns.length) (old:Nat) (R:List (Int×Int)):ringN ns l old R R=l:=by
 refine nd_ext (by rw [ringN_len,hl]) (fun p hp=>?_);rw [ringN_len] at hp;rw [ringN_at _ _ _ _ _ hp,if_neg (fun h=>h.2.2 h.2.1)]
end
section
open Go Go.W
def Foc (w:World) (cv:Value) (ns:List Nd) (F:Nat→Prop) (p b c:Nat) (v:Value) (fpv:Option Nat):Prop:=
 ∃ ps fp,cv = .slice (some ⟨b,0,none⟩) ns.length c∧OwnS w 104 3 cv (flat ps) ns.length (some b)∧F b∧ArgsD w ps fp F∧ps.map Prod.fst=ns∧(∀ x,F x→x < w.heap.size)∧p < ps.length∧(∀ q,ps[p]? = some q→q.2=v)∧fp p=fpv
theorem foc_of {w:World} {cv:Value} {ns:List Nd} {F:Nat→Prop} (h:FromD 104 w cv ns F) {p:Nat} (hp:p < ns.length):∃ b c v fpv,Foc w cv ns F p b c v fpv:=by
 obtain ⟨fpc,ps,fp,h1,h2,h3,h4,h5⟩:=h;have hps:ps.length=ns.length:=by rw [← h4];simp
 obtain ⟨bc,cc,spc,rfl,rfl,gc,hcc,hcap⟩:=h1.pos (by omega);have hp':p < ps.length:=by omega
 exact ⟨bc,cc,ps[p].2,fp p,ps,fp,rfl,h1,h2 _ rfl,h3,h4,h5,hp',fun q hq=>by rw [List.getElem?_eq_getElem hp'] at hq;cases hq;rfl,rfl⟩
theorem foc_from {w:World} {cv:Value} {ns:List Nd} {F:Nat→Prop} {p b c:Nat} {v:Value} {fpv:Option Nat} (h:Foc w cv ns F p b c v fpv):FromD 104 w cv ns F:=by
 obtain ⟨ps,fp,h1,h2,h3,h4,h5,h6,h7,h8,h9⟩:=h;exact ⟨some b,ps,fp,h2,fun x hx=>by cases hx;exact h3,h4,h5,h6⟩
theorem foc_mod {w w':World} {cv:Value} {ns:List Nd} {F S:Nat→Prop} {p b c:Nat} {v:Value} {fpv:Option Nat} (h:Foc w cv ns F p b c v fpv) (hm:Mod S w w') (hd:∀ x,F x→¬ S x):Foc w' cv ns F p b c v fpv:=by
 obtain ⟨ps,fp,h1,h2,h3,h4,h5,h6,h7,h8,h9⟩:=h;exact ⟨ps,fp,h1,h2.mod hm (fun x hx=>by cases hx;exact hd b h3),h3,argsD_mod h4 hm (fun i x hi hx=>hd x ((h4.1 i hi).2 x hx)),h5,fun x hx=>Nat.lt_of_lt_of_le (h6 x hx) hm.size,h7,h8,h9⟩
theorem foc_cells {w:World} {cv:Value} {ns:List Nd} {F:Nat→Prop} {p b c:Nat} {v:Value} {fpv:Option Nat} (h:Foc w cv ns F p b c v fpv) :
   cv = .slice (some ⟨b,0,none⟩) ns.length c∧F b∧w.cell? ⟨b,p*3,none⟩=some (I (ndAt ns p).kind)∧w.cell? ⟨b,p*3+1,none⟩=some (I (ndAt ns p).num)∧w.cell? ⟨b,p*3+2,none⟩=some v ∧
     OwnS w 3 1 v ((ndAt ns p).args.map I) (ndAt ns p).args.length fpv∧(∀ x,fpv=some x→F x∧x≠b):=by
 obtain ⟨ps,fp,h1,h2,h3,h4,h5,h6,h7,h8,h9⟩:=h;have hps:ps.length=ns.length:=by rw [← h5];simp
 obtain ⟨bc,cc,spc,e1,e2,gc,hcc,hcap⟩:=h2.pos (by omega);cases e2;have hnd:ps[p].1=ndAt ns p:=by
   have e1:ndAt ns p=ns[p]'(by omega):=by simp [ndAt,show p < ns.length by omega]
   rw [e1];simp [← h5]
 have hv:=h8 _ (List.getElem?_eq_getElem h7);obtain ⟨o1,o2⟩:=h4.1 p h7;have c0:=node_cell gc h7 (k:=0) (by omega);have c1:=node_cell gc h7 (k:=1) (by omega);have c2:=node_cell gc h7 (k:=2) (by omega);simp only [nc,Nat.add_zero,hnd,hv] at c0 c1 c2;rw [hnd,hv,h9] at o1;rw [h9] at o2;exact ⟨h1,h3,c0,c1,c2,o1,fun x hx=>⟨o2 x hx,fun hh=>own_apart o1 h2 (by decide) hx (by rw [hh])⟩⟩
theorem foc_write {w w':World} {cv:Value} {ns:List Nd} {F:Nat→Prop} {p b c:Nat} {v:Value} {fpv:Option Nat} (h:Foc w cv ns F p b c v fpv) {args':List Int} (hm:Mod (fun x=>fpv=some x) w w') (ho:OwnS w' 3 1 v (args'.map I) args'.length fpv) :
   Foc w' cv (ns.set p ⟨(ndAt ns p).kind,(ndAt ns p).num,args'⟩) F p b c v fpv:=by
 obtain ⟨ps,fp,h1,h2,h3,h4,h5,h6,h7,h8,h9⟩:=h;have hps:ps.length=ns.length:=by rw [← h5];simp
 have hv:=h8 _ (List.getElem?_eq_getElem h7);have hnd:ps[p].1=ndAt ns p:=by
   have e1:ndAt ns p=ns[p]'(by omega):=by simp [ndAt,show p < ns.length by omega]
   rw [e1];simp [← h5]
 obtain ⟨o1,o2⟩:=h4.1 p h7;rw [h9] at o1 o2;refine ⟨ps.set p (⟨(ndAt ns p).kind,(ndAt ns p).num,args'⟩,ps[p].2),fp,by rw [List.length_set];exact h1,?_,h3,⟨fun i hi=>?_,fun i j x hi hj=>h4.2 i j x (by simpa using hi) (by simpa using hj)⟩,?_,fun x hx=>Nat.lt_of_lt_of_le (h6 x hx) hm.size,by simpa using h7,fun q hq=>?_,h9⟩
 · rw [flat_same h7 (by rw [hnd]) (by rw [hnd]),List.length_set];exact h2.mod hm (fun x hx hh=>own_apart o1 h2 (by decide) hh hx)
 · have hi':i < ps.length:=by simpa using hi
   rw [List.getElem_set];by_cases hip:p=i
   · subst hip;rw [if_pos rfl,h9];rw [← hv] at ho;exact ⟨ho,o2⟩
   · rw [if_neg hip];exact ⟨(h4.1 i hi').1.mod hm (fun x hx hh=>h4.2 i p x hi' h7 (fun e=>hip e.symm) hx (by rw [h9];exact hh)),(h4.1 i hi').2⟩
 · rw [List.map_set,h5]
 · rw [List.getElem?_set,if_pos rfl] at hq;rw [if_pos h7] at hq;cases hq;exact hv
def halfA (ns:List Nd) (old:Nat) (O:List Nat) (l:List Int) (i:Nat):List Int:=(l.take i).map (fun q=>if isY old q=true then numF ns old O q else q)++l.drop i
theorem halfA_len (ns:List Nd) (old:Nat) (O:List Nat) (l:List Int) (i:Nat) (h:i≤l.length):(halfA ns old O l i).length=l.length:=by simp [halfA];omega
theorem halfA_zero (ns:List Nd) (old:Nat) (O:List Nat) (l:List Int):halfA ns old O l 0=l:=by simp [halfA]
theorem halfA_full (ns:List Nd) (old:Nat) (O:List Nat) (p:Nat):halfA ns old O (ndAt ns p).args (ndAt ns p).args.length=oldArgs ns old O p:=by simp [halfA,oldArgs]
theorem halfA_at (ns:List Nd) (old:Nat) (O:List Nat) (l:List Int) {i:Nat} (h:i < l.length):(halfA ns old O l i)[i]? = some l[i]:=by
 unfold halfA;rw [List.getElem?_append_right (by simp;omega)];have:i - ((l.take i).map (fun q=>if isY old q=true then numF ns old O q else q)).length=0:=by simp;omega
 rw [this,List.getElem?_drop];simp [h]
theorem halfA_set (ns:List Nd) (old:Nat) (O:List Nat) (l:List Int) {i:Nat} (h:i < l.length):(halfA ns old O l i).set i (if isY old l[i]=true then numF ns old O l[i] else l[i])=halfA ns old O l (i+1):=by
 unfold halfA;have e1:((l.take i).map (fun q=>if isY old q=true then numF ns old O q else q)).length=i:=by simp;omega
 rw [List.set_append,if_neg (by omega),e1,Nat.sub_self,List.drop_eq_getElem_cons h,List.set_cons_zero,List.take_succ_eq_append_getElem h,List.map_append];simp
theorem halfA_same (ns:List Nd) (old:Nat) (O:List Nat) (l:List Int) {i:Nat} (h:i < l.length) (hy:isY old l[i]=false):halfA ns old O l (i+1)=halfA ns old O l i:=by
 rw [← halfA_set ns old O l h,hy];have:=halfA_at ns old O l h;simp only [Bool.false_eq_true,if_false];apply List.ext_getElem?;intro j;rw [List.getElem?_set]
 split
 · rename_i hj;subst hj;rw [this]
   split
   · rfl
   · rename_i hh;exact absurd (by rw [halfA_len _ _ _ _ _ (by omega)];exact h) hh
 · rfl
theorem filter_take {l:List Int} {i:Nat} (h:i < l.length) (p:Int→Bool):(l.take (i+1)).filter p=(l.take i).filter p++if p l[i]=true then [l[i]] else []:=by
 rw [List.take_succ_eq_append_getElem h,List.filter_append]
 congr 1
 simp [List.filter_cons]
theorem meetsF_app (ns:List Nd) (fr:Nat) (out:List Nat) (a b:List Int):meetsF ns fr out (a++b)=meetsF ns fr (meetsF ns fr out a) b:=by unfold meetsF;rw [List.foldl_append]
theorem own_set {w:World} {v:Value} {xs:List Int} {n:Nat} {fp:Option Nat} (h:OwnS w 3 1 v (xs.map I) n fp) {i:Nat} (hi:i < n) :
   ∃ b c cs,v = .slice (some ⟨b,0,none⟩) n c∧fp=some b∧w.heap[b]? = some (.cells (cs:List Value).toArray 3 (0,0))∧i < cs.length∧(∀ (j:Nat) (y:Int),xs[j]? = some y→cs[j]? = some (I y)) ∧
     ∀ w' y,w'.heap[b]? = some (.cells (cs.set i (I y)).toArray 3 (0,0))→OwnS w' 3 1 v ((xs.set i y).map I) n fp:=by
 have hl:=h.1;rw [List.length_map] at hl;obtain ⟨b,c,sp',rfl,rfl,hb,hcc,hcap⟩:=h.pos (by omega);refine ⟨b,c,xs.map I++sp',rfl,rfl,hb,by simp;omega,fun j y hj=>?_,fun w' y hy=>⟨by simpa using hl,.inr ⟨b,c,sp',rfl,rfl,?_,?_,hcc⟩⟩⟩
 · rw [List.getElem?_append_left (by have:=(List.getElem?_eq_some_iff.1 hj).1;simpa using this),List.getElem?_map,hj];rfl
 · rw [hy,List.set_append,if_pos (by simp;omega)];rw [List.map_set]
 · simpa using hcap
theorem fromD_ne2 {w:World} {cv:Value} {ns:List Nd} {F:Nat→Prop} (h:FromD 104 w cv ns F) {a:Nat} {l:List (Int×Int)} (ha:MapAt w a l):FromD 104 w cv ns (fun x=>F x∧x≠a):=by
 obtain ⟨fpc,ps,fp,h1,h2,h3,h4,h5⟩:=h;have hne:∀ {T sz n:Nat} {v:Value} {xs:List Value} {f:Option Nat},OwnS w T sz v xs n f→∀ b,f=some b→b≠a:=fun ho b hb hh=>by
   obtain ⟨cs,hc⟩:=own_cells ho hb;obtain ⟨es,c,q,_⟩:=ha;rw [hh,q] at hc;cases hc
 exact ⟨fpc,ps,fp,h1,fun b hb=>⟨h2 b hb,hne h1 b hb⟩,⟨fun i hi=>⟨(h3.1 i hi).1,fun b hb=>⟨(h3.1 i hi).2 b hb,hne (h3.1 i hi).1 b hb⟩⟩,h3.2⟩,h4,fun b hb=>h5 b hb.1⟩
theorem map_ne {w:World} {b x:Nat} {l:List (Int×Int)} {cs:Array Value} {T:Nat} {fz:Nat×Nat} (h:MapAt w b l) (hx:w.heap[x]? = some (.cells cs T fz)):b≠x:=fun hh=>by
 obtain ⟨es,c,q,_⟩:=h;rw [hh,hx] at q;cases q
theorem ir_bbthen {P:Program} {N id id':Nat} {a:IR} {next:Env→World→Prop} {Q:Post} {ρ:Env} {w:World} (Mid:Env→World→Prop) (h:irwp P N a (blkQ id (blkQ id' (thenQ Mid Q))) ρ w) (hk:∀ ρ w,Mid ρ w→next ρ w):irwp P N a (blkQ id (blkQ id' (thenQ next Q))) ρ w:=
 irwp_mono a _ _ (blkQ_le (blkQ_le (thenQ_le hk (fun _ _ _ h=>h)))) ρ w h
theorem leadsN_len (ns:List Nd) (old:Nat):(leadsN ns old).length≤old:=by
 have:=List.length_filter_le (fun p=>(ndAt ns p).args.any (isY old)) (List.range old);rw [List.length_range] at this;exact this
theorem half_pre (ns:List Nd) (old:Nat) (cur:List Nat) (l:List Int) (j:Nat):meetsF ns old cur ((l.take j).filter (isY old)) <+: meetsF ns old cur (l.filter (isY old)):=by
 conv=>rhs;rw [← List.take_append_drop j l,List.filter_append,meetsF_app]
 exact meetsF_pre ns old _ _
theorem erase_mem {L:List Int} (hn:L.Nodup) {i:Nat} (hi:i < L.length) (x:Int):x∈L.eraseIdx i↔x∈L∧x≠L[i]:=by
 rw [List.mem_eraseIdx_iff_getElem];constructor
 · rintro ⟨j,hj,hne,rfl⟩;exact ⟨List.getElem_mem hj,fun hh=>hne ((List.getElem_inj hn (h₀:=hj) (h₁:=hi)).1 hh)⟩
 · rintro ⟨hm,hne⟩;obtain ⟨j,hj,rfl⟩:=List.getElem_of_mem hm;exact ⟨j,hj,fun hh=>hne (by subst hh;rfl),rfl⟩
theorem left_erase {left:List (Int×Int)} (hn:(left.map (fun q=>q.1)).Nodup) {i:Nat} (hi:i < left.length):((left.eraseIdx i).map (fun q=>q.1)).Nodup∧∀ x:Int,x∈(left.eraseIdx i).map (fun q=>q.1)↔x∈left.map (fun q=>q.1)∧x≠left[i].1:=by
 have e:(left.eraseIdx i).map (fun q=>q.1)=(left.map (fun q=>q.1)).eraseIdx i:=Go.ChangeMaps.map_eraseIdx _ _ _;rw [e];refine ⟨hn.sublist (List.eraseIdx_sublist _ _),fun x=>?_⟩;rw [erase_mem hn (by simpa using hi)];simp
theorem ringN_step {ns l:List Nd} {old:Nat} {left R:List (Int×Int)} (hn:(left.map (fun q=>q.1)).Nodup) {i p:Nat} (hi:i < left.length) (hp:left[i].1=(p:Int)) (hR:(p:Int)∈R.map (fun q=>q.1)) (hpn:p < ns.length) :
   ringN ns l old (left.eraseIdx i) R=if p < old then (ringN ns l old left R).set p ⟨(ndAt ns p).kind,(ndAt ns p).num,[(p:Int)]⟩ else ringN ns l old left R:=by
 obtain ⟨h1,h2⟩:=left_erase hn hi;have hm:(p:Int)∈left.map (fun q=>q.1):=by rw [← hp];exact List.mem_map.2 ⟨_,List.getElem_mem hi,rfl⟩
 by_cases hpo:p < old
 · rw [if_pos hpo];refine nd_ext (by simp [ringN_len]) (fun j hj=>?_);rw [ringN_len] at hj;rw [ringN_at _ _ _ _ _ hj,ndAt_set' _ _ _ _ (by rw [ringN_len];exact hpn),ringN_at _ _ _ _ _ hj];by_cases hjp:j=p
   · subst hjp;rw [if_pos ⟨hpo,hR,fun hh=>((h2 _).1 hh).2 hp.symm⟩,if_pos rfl]
   · rw [if_neg hjp];have e:(j < old∧(j:Int)∈R.map (fun q=>q.1)∧(j:Int)∉(left.eraseIdx i).map (fun q=>q.1))↔(j < old∧(j:Int)∈R.map (fun q=>q.1)∧(j:Int)∉left.map (fun q=>q.1)):=by
       rw [h2];have:(j:Int)≠left[i].1:=by rw [hp];omega
       simp [this]
     simp only [e]
 · rw [if_neg hpo];refine nd_ext (by simp [ringN_len]) (fun j hj=>?_);rw [ringN_len] at hj;rw [ringN_at _ _ _ _ _ hj,ringN_at _ _ _ _ _ hj];have e:(j < old∧(j:Int)∈R.map (fun q=>q.1)∧(j:Int)∉(left.eraseIdx i).map (fun q=>q.1))↔(j < old∧(j:Int)∈R.map (fun q=>q.1)∧(j:Int)∉left.map (fun q=>q.1)):=by
     rw [h2];constructor
     · rintro ⟨c1,c2,c3⟩;exact ⟨c1,c2,fun hh=>c3 ⟨hh,by rw [hp];omega⟩⟩
     · rintro ⟨c1,c2,c3⟩;exact ⟨c1,c2,fun hh=>c3 hh.1⟩
   simp only [e]
theorem own_take' {w:World} {ca:Option Addr} {c n:Nat} {ps:List (Nd×Value)} {fp:Option Nat} (h:OwnS w 104 3 (.slice ca n c) (flat ps) n fp) {k:Nat} (hk:k≤n):OwnS w 104 3 (.slice ca k k) (flat (ps.take k)) k fp:=by
 rcases h.2 with ⟨h1,h2,h3⟩ | ⟨b',c',sp,h1,h2,h3,h4,h5⟩
 · cases h1;obtain rfl:k=0:=by omega
   subst h3;exact OwnS.nil _ _ _
 · cases h1;exact own_take h hk
theorem flat_cells {w:World} {ps:List (Nd×Value)} {fp:Nat→Option Nat} {F:Nat→Prop} (h:ArgsD w ps fp F):∀ u∈flat ps,u.oneCell'=true:=by
 intro u hu;obtain ⟨q,hq,hu⟩:=List.mem_flatMap.1 hu;obtain ⟨i,hi,rfl⟩:=List.getElem_of_mem hq;obtain ⟨va,vc,hv,_⟩:=(h.1 i hi).1.val;simp only [nc,List.mem_cons,List.not_mem_nil,or_false] at hu;rcases hu with rfl | rfl | rfl
 · rfl
 · rfl
 · rw [hv];rfl
theorem nd_mem {l:List Nd} {P:Nd→Prop} (h:∀ p,p < l.length→P (ndAt l p)):∀ nd∈l,P nd:=by
 intro nd hnd;obtain ⟨i,hi,rfl⟩:=List.getElem_of_mem hnd;have:=h i hi
 simpa [ndAt,hi] using this
theorem ringN_old {ns:List Nd} (hw:WF ns) {old:Nat} (ho:old≤ns.length) (O:List Nat) {w:World} {bo br:Nat} {R:List (Int×Int)} (hT:Things w bo br ns R):(ringN ns (rewN ns old O (leadsN ns old)) old [] R).take old=(List.range old).map (oldNd ns old O):=by
 refine nd_ext (by simp [ringN_len];omega) (fun p hp=>?_);rw [List.length_take,ringN_len] at hp;have hpn:p < ns.length:=by omega
 have hpo:p < old:=by omega
 have e1:ndAt ((ringN ns (rewN ns old O (leadsN ns old)) old [] R).take old) p=ndAt (ringN ns (rewN ns old O (leadsN ns old)) old [] R) p:=by
   unfold ndAt;rw [List.getD_eq_getElem?_getD,List.getD_eq_getElem?_getD,List.getElem?_take,if_pos hpo]
 have e2:ndAt ((List.range old).map (oldNd ns old O)) p=oldNd ns old O p:=by simp [ndAt,hpo]
 rw [e1,e2,ringN_at _ _ _ _ _ hpn,rewN_at _ _ _ _ hpn];have hk:=hT.keys (p:Int);by_cases hr:ind ns p=true∧over ns p=p
 · rw [if_pos ⟨hpo,hk.2 ⟨p,hpn,by rw [hr.2],by rw [hr.2];exact hr.1⟩,by simp⟩];simp [oldNd,hr]
 · rw [if_neg]
   · unfold oldNd;rw [if_neg hr]
     split
     · rfl
     · rename_i hl;rw [oldArgs_same hpo hl]
   · rintro ⟨_,h2,_⟩;obtain ⟨j,hj,e,hi⟩:=hk.1 h2;have e':p=over ns j:=by omega
     rw [e'] at hr;exact hr ⟨hi,ov_ov (wf_nxt_lt hw) hj⟩
theorem ringN_args {ns:List Nd} (hargs:∀ nd∈ns,nd.args.length≤8) {old:Nat} (O:List Nat) (R:List (Int×Int)):∀ nd∈ringN ns (rewN ns old O (leadsN ns old)) old [] R,nd.args.length≤8:=by
 refine nd_mem (fun p hp=>?_);rw [ringN_len] at hp;have:=hargs (ndAt ns p) (by simp [ndAt,hp]);rw [ringN_at _ _ _ _ _ hp,rewN_at _ _ _ _ hp]
 split
 · simp
 · split
   · simpa [oldArgs] using this
   · exact this
theorem ringN_young {ns:List Nd} {old:Nat} (O:List Nat) (R:List (Int×Int)) {x:Nat} (hx:old≤x) (hxn:x < ns.length):ndAt (ringN ns (rewN ns old O (leadsN ns old)) old [] R) x=ndAt ns x:=by
 rw [ringN_at _ _ _ _ _ hxn,if_neg (by omega),rewN_at _ _ _ _ hxn,if_neg (fun hh=>by have:=(mem_leadsN.1 hh).1;omega)]
def curK (ns:List Nd) (old:Nat) (O1:List Nat) (k:Nat):List Nat:=((leadsN ns old).take k).foldl (oldStep ns old) O1
theorem curK_zero (ns:List Nd) (old:Nat) (O1:List Nat):curK ns old O1 0=O1:=by simp [curK]
theorem curK_succ (ns:List Nd) (old:Nat) (O1:List Nat) {k:Nat} (hk:k < (leadsN ns old).length):curK ns old O1 (k+1)=meetsF ns old (curK ns old O1 k) ((ndAt ns (leadsN ns old)[k]).args.filter (isY old)):=by
 unfold curK;rw [List.take_succ_eq_append_getElem hk,List.foldl_append];rfl
theorem curK_all (ns:List Nd) (old:Nat) (O1:List Nat):curK ns old O1 (leadsN ns old).length=oldMeets ns old old O1:=by
 unfold curK;rw [List.take_length];exact leads_fold ns old O1
theorem curK_pre (ns:List Nd) (old:Nat) (O1:List Nat) {k:Nat} (hk:k≤(leadsN ns old).length):curK ns old O1 k <+: oldMeets ns old old O1:=by
 have key:∀ (l:List Nat) (o:List Nat),o <+: l.foldl (oldStep ns old) o:=by
   intro l
   induction l with
   | nil=>intro o;exact List.prefix_rfl
   | cons x l ih=>intro o;exact (oldStep_pre ns old o x).trans (ih _)
 rw [← curK_all];unfold curK;rw [List.take_length]
 conv=>rhs;rw [← List.take_append_drop k (leadsN ns old),List.foldl_append]
 exact key _ _
theorem curK_met {ns:List Nd} (hw:WF ns) {old:Nat} (ho:old≤ns.length) {O1:List Nat} (h:MetF ns old O1):∀ k,k≤(leadsN ns old).length→MetF ns old (curK ns old O1 k):=by
 intro k
 induction k with
 | zero=>intro _;rw [curK_zero];exact h
 | succ k ih=>
   intro hk;rw [curK_succ ns old O1 (by omega)];have hm:=(mem_leadsN (ns:=ns) (old:=old)).1 (List.getElem_mem (show k < (leadsN ns old).length by omega));exact metF_meets hw _ (ih (by omega)) (okPl_filter (wf_at hw (by omega)).2 _)
end
section
open Go Go.W
theorem gsmall_ok (w:World) (a:Nat) (size young:Int) (old:Nat) (times:Int) (ns:List Nd) (F:Nat→Prop) (h:GAt w a size young old times ns F) (ho:old≤ns.length) (hw:WF ns) (hn:ns.length≤1048576) (v:Value) (roots:List Int) (hx:Ints w v roots) (hok:okPl ns.length roots=true)
   (hv:roots≠[]→∀ x,vblk v=some x→¬ F x) (hsm:roots.length≤17592186044416) :
   CallsR Tryz.prog 196 [.pointer (some ⟨a,0,none⟩),v] w (SmallPost GAt w a size young times ns old roots F):=by
 have hFl:=gat_lt h;obtain ⟨va,vc,rfl,_,_⟩:=id hx;obtain ⟨cv,mb,ld,g1,g2,g3,g4,g5,g6⟩:=h;have hargs:=wf_args_le hw;have la:=lt_of_heap g1;have lmb:mb < w.heap.size:=hFl mb g5;have hamb:a≠mb:=fun hh=>by
   obtain ⟨es,c,q,_⟩:=g4;rw [← hh,g1] at q;cases q
 refine fit196.calls rfl ?_;unfold ir196;(try simp only [go_sem,simprocAttr,cell_of g1]);refine e_st1 (off:=5) rfl rfl g1 rfl (by simp) ?_;intro w1 hb1 hm1 hs1;have hb1:w1.heap[a]? = some (.cells #[I size,I young,cv,I old,.map (some mb),I (IntKind.i64.wrap (times+1))] 202 (0,0)):=hb1;have g31:=fromD_mod (fromD_ne g3 g1) hm1 (fun b hb=>hb.2);have g41:=map_mod g4 hm1 (fun hh=>hamb hh.symm);have hx1:=ints_mod' hx hm1 (fun hne x hx hh=>hv hne x hx (hh ▸ g2));have hv1:=ints_lt1 hx;have s1:=hm1.size;(try simp only [go_sem,simprocAttr,cell_of hb1])
 refine wpD_cut (fun ρ w'=>∃ bo br bn bm R,ρ.get 0=some (.pointer (some ⟨a,0,none⟩))∧ρ.get 1=some (.slice va roots.length vc)∧ρ.get 5=some (.pointer (some ⟨bm,0,none⟩)) ∧
   MvAt w' bm a bo br bn ns old [] (.slice none 0 0) none∧Things w' bo br ns R∧br≠bn∧w.heap.size≤bo∧w.heap.size≤br∧w.heap.size≤bn∧w.heap.size≤bm∧Mod (fun _=>False) w1 w') ?_ ?_
 · rw [wpD_e2];refine ⟨?_,?_⟩
   · refine e_call (by rfl) ?_;refine (gpassed_ok ns hw hn w1.drew a _ _ cv _ _ _ _ hb1 (fromD_from (fromD_mod g31 (⟨Nat.le_refl _,fun _ _ _=>rfl,rfl,rfl,rfl⟩:Mod (fun _=>False) w1 w1.drew) (fun _ _ h=>h)))).mono ?_;rintro q w2 ⟨bo,br,R,rfl,hT,lo,lr,hor,hm2⟩;have hm2:Mod (fun _=>False) w1 w2:=hm2.of_drew;have lo:w1.heap.size≤bo:=lo;have lr:w1.heap.size≤br:=lr;have ka:=hm2.old a (by omega) (fun h=>h);(try simp only [go_sem,simprocAttr]);refine ⟨ka,?_⟩;refine e_mm ?_;intro w3 hb3 hm3 hs3;have s2:=hm2.size;have s3:=hm3.size;have ka2:=hm3.old a (by omega) (fun h=>h);(try simp only [go_sem,simprocAttr]);refine ⟨ka2,?_⟩;refine e_bx rfl ?_;intro w4 hb4 hm4 hs4;have hb4:w4.heap[w3.heap.size]? = some (.cells #[.pointer (some ⟨a,0,none⟩),.slice (some ⟨bo,0,none⟩) ns.length ns.length,.map (some br),I old,.map (some w2.heap.size),.slice none 0 0] 249 (0,0)):=hb4;have hm34:=hm3.trans hm4;obtain ⟨res,rc,hre,_⟩:=id hT.ring;have lbr:=lt_of_heap hre;exact ⟨bo,br,w2.heap.size,w3.heap.size,R,rfl,⟨hb4,hm34.at hT.of (fun h=>h),map_mod hb3 hm4 (fun h=>h),OwnS.nil _ _ _,fun h=>by cases h⟩,⟨hm34.at hT.of (fun h=>h),map_mod hT.ring hm34 (fun h=>h),hT.nd,hT.keys⟩,by omega,by omega,by omega,by omega,by omega,hm2.trans hm34⟩
   · refine e_mm ?_;intro w2 hb2 hm2 hs2;have hm2:Mod (fun _=>False) w1 w2:=hm2.of_drew;have hs2:w2.heap.size=w1.heap.size+1:=hs2;have hb2:MapAt w2 w1.heap.size []:=hb2;have ka:=hm2.old a (by omega) (fun h=>h);(try simp only [go_sem,simprocAttr]);refine ⟨by simp only [drew_heap,ka,and_self,implies_true],?_⟩;refine e_call (by rfl) ?_;refine (gpassed_ok ns hw hn w2 a _ _ cv _ _ _ _ (hm2.at hb1 (fun h=>h)) (fromD_from (fromD_mod g31 hm2 (fun _ _ h=>h)))).mono ?_;rintro q w3 ⟨bo,br,R,rfl,hT,lo,lr,hor,hm3⟩;have s3:=hm3.size;have ka2:=hm3.old a (by omega) (fun h=>h);(try simp only [go_sem,simprocAttr]);refine ⟨ka2,?_⟩;refine e_bx rfl ?_;intro w4 hb4 hm4 hs4;have hb4:w4.heap[w3.heap.size]? = some (.cells #[.pointer (some ⟨a,0,none⟩),.slice (some ⟨bo,0,none⟩) ns.length ns.length,.map (some br),I old,.map (some w1.heap.size),.slice none 0 0] 249 (0,0)):=hb4;have hm34:=hm3.trans hm4;exact ⟨bo,br,w1.heap.size,w3.heap.size,R,rfl,⟨hb4,hm4.at hT.of (fun h=>h),map_mod hb2 hm34 (fun h=>h),OwnS.nil _ _ _,fun h=>by cases h⟩,⟨hm4.at hT.of (fun h=>h),map_mod hT.ring hm4 (fun h=>h),hT.nd,hT.keys⟩,by omega,by omega,by omega,by omega,by omega,hm2.trans hm34⟩
 rintro ρ w3 ⟨bo,br,bn,bm,R,r0,r1,r5,hmv,hT,hrn,lo,lr,lbn,lbm,hm3⟩;(try simp only [go_sem,simprocAttr,r0,r1,r5]);have hx3:=hx1.mod hm3 (fun _ _ h=>h);have s3:=hm3.size;refine e_call (by rfl) ?_
 refine (mplaces_ok w3 _ a bo br _ ns hw hn old ho [] _ none hmv (metF_nil ns old) _ roots hx3 hok (fun hne x hx hh=>by
   have:=hv1 hne x hx;rcases hh with hh | hh | hh
   · omega
   · omega
   · cases hh) hsm).mono ?_
 rintro q w5 ⟨vm5,fp5,fq5,hmv5,hm5,hfp5,ho5,hfq5⟩;obtain ⟨va5,vc5,rfl,_,_⟩:=ho5.val;have s5:=hm5.size
 have hm15:Mod (fun _=>False) w1 w5:=hm3.step hm5 (fun x hx hlt=>by
   rcases hx with hx | hx | hx
   · omega
   · omega
   · cases hx)
 have hb5:=hm15.at hb1 (fun h=>h);have g45:=map_mod g41 hm15 (fun h=>h);(try simp only [go_sem,simprocAttr,cell_of hb5]);refine e_call (by rfl) ?_;refine (keys_ok w5 (some mb)).mono ?_;rintro q w6 ⟨rfl,hw6⟩;have hb6:w6.heap[w5.heap.size]? = some (.cells #[.map (some mb)] 200 (0,0)):=by rw [hw6];exact heap_alloc_new w5 _
 have hm6:Mod (fun _=>False) w5 w6:=by rw [hw6];exact mod_alloc _ w5 _
 have s6:=hm6.size;(try simp only [go_sem,simprocAttr]);have hlr:=leads_range g6;have hll:=leads_len g6;refine e_call (by rfl) ?_
 refine (sorted_ok w6 w5.heap.size mb ld hb6 (map_mod g45 hm6 (fun h=>h)) g6.1 (fun p hp=>by
   have:=hlr p.1 (List.mem_map.2 ⟨p,hp,rfl⟩)
   omega) (by omega)).mono ?_
 rintro q w7 ⟨hm7,fpL,hoL,hfL⟩;rw [sortedKeys_leads g6,List.length_map] at hoL;obtain ⟨vaL,vcL,rfl,_,_⟩:=hoL.val;have s7:=hm7.size;have hm57:=hm6.trans hm7;have hm17:Mod (fun _=>False) w1 w7:=hm15.trans hm57;have hb7:=hm57.at hb5 (fun h=>h);have hmv7:=mv_mod hmv5 hm57 (fun h=>h) (fun h=>h) (fun h=>h) (fun _ _ h=>h);have g37:FromD 104 w7 cv ns (fun x=>(F x∧x≠a)∧x≠mb):=fromD_mod (fromD_ne2 g31 g41) hm17 (fun _ _ h=>h);have lfp5:∀ x,fp5=some x→w3.heap.size≤x∧x < w5.heap.size:=fun x hx=>by
   rcases hfp5 x hx with h | h
   · cases h
   · exact ⟨h,hmv5.met.lt hx⟩
 have hbm:=lt_of_heap hmv.cells;have hbo:=lt_of_heap hmv.of;have hbn:bn < w3.heap.size:=by obtain ⟨es,c,q,_⟩:=hmv.new;exact lt_of_heap q
 have hbr:br < w3.heap.size:=by obtain ⟨es,c,q,_⟩:=hT.ring;exact lt_of_heap q
 have hbrm:br≠bm:=map_ne hT.ring hmv.cells;obtain ⟨O,hO⟩:∃ O,smallO ns old roots=O:=⟨_,rfl⟩;obtain ⟨O1,hO1⟩:∃ O1,meetsF ns old [] roots=O1:=⟨_,rfl⟩;have hmO1:MetF ns old O1:=hO1 ▸ metF_meets hw roots (metF_nil ns old) hok;have hreach:reachF ns old (ns.length+1) 0 (oldMeets ns old old O1)=O:=by rw [← hO1];exact hO
 have hpreO:oldMeets ns old old O1 <+: O:=by rw [← hreach];exact reachF_pre ns old _ _ _
 rw [hO1] at hmv7;(try simp only [go_sem,simprocAttr])
 refine ir_bthen (fun ρ w'=>∃ (vk:Value) (fk:Option Nat),MvAt w' bm a bo br bn ns old (oldMeets ns old old O1) vk fk∧FromD 104 w' cv (rewN ns old O (leadsN ns old)) (fun x=>(F x∧x≠a)∧x≠mb) ∧
     Mod (fun x=>((F x∧x≠a)∧x≠mb)∨x=bm∨x=bn∨fp5=some x) w7 w'∧(∀ x,fk=some x→fp5=some x∨w7.heap.size≤x) ∧
     ρ.get 0=some (.pointer (some ⟨a,0,none⟩))∧ρ.get 5=some (.pointer (some ⟨bm,0,none⟩))∧ρ.get 6=some (.slice va5 roots.length vc5)) ?_ ?_
 · refine ir_loop (fun m ρ w' => ∃ (k : Nat) (vk : Value) (fk : Option Nat), m = (leadsN ns old).length - k ∧ k ≤ (leadsN ns old).length ∧ MvAt w' bm a bo br bn ns old (curK ns old O1 k) vk fk ∧ FromD 104 w' cv (rewN ns old O ((leadsN ns old).take k)) (fun x => (F x ∧ x ≠ a) ∧ x ≠ mb) ∧
       Mod (fun x=>((F x∧x≠a)∧x≠mb)∨x=bm∨x=bn∨fp5=some x) w7 w'∧(∀ x,fk=some x→fp5=some x∨w7.heap.size≤x) ∧
       ρ=[(0,.pointer (some ⟨a,0,none⟩)),(5,.pointer (some ⟨bm,0,none⟩)),(6,.slice va5 roots.length vc5),(39,.slice vaL (leadsN ns old).length vcL),(40,I (leadsN ns old).length),(41,I k)]) (leadsN ns old).length
     ⟨0,_,_,rfl,Nat.zero_le _,by rw [curK_zero];exact hmv7,by rw [List.take_zero,rewN_nil];exact g37,Mod.refl _ _,(fun x hx=>.inl hx),rfl⟩ ?_
   rintro m ρ w8 ⟨k,vk,fk,rfl,hk,hmv8,g38,hm8,hfk,rfl⟩;unfold ir196L2;(try simp only [go_sem,simprocAttr]);refine ir_cond rfl (fun hc=>?_) (fun hc=>?_)
   · have hk':k < (leadsN ns old).length:=by simpa using hc
     obtain ⟨p,hp⟩:∃ p,(leadsN ns old)[k]=p:=⟨_,rfl⟩;obtain ⟨hpo,_⟩:=(mem_leadsN (ns:=ns) (old:=old)).1 (hp ▸ List.getElem_mem hk');have hpn:p < ns.length:=by omega
     have hpk:p∉(leadsN ns old).take k:=fun hh=>by
       obtain ⟨j,hj,hje⟩:=List.getElem_of_mem hh;rw [List.getElem_take] at hje;have hnd:(leadsN ns old).Nodup:=(List.nodup_range (n:=old)).sublist List.filter_sublist;rw [List.length_take] at hj;have:=(List.getElem_inj hnd (h₀:=by omega) (h₁:=hk')).1 (hje.trans hp.symm);omega
     have hoL8:=hoL.mod hm8 (fun x hx hh=>by
       have h1:=hfL x hx;rcases hh with hh | hh | hh | hh
       · have:=hFl x hh.1.1;omega
       · omega
       · omega
       · have:=lfp5 x hh;omega)
     obtain ⟨bw,cw,ew,tw⟩:=own_at' hoL8 hk' (u:=I (p:Nat)) (by simp [hk',hp]);simp only [Value.slice.injEq] at ew;obtain ⟨rfl,_,rfl⟩:=ew
     have hb8:=hm8.at hb7 (fun hh=>by
       rcases hh with hh | hh | hh | hh
       · exact hh.1.2 rfl
       · omega
       · omega
       · have:=lfp5 a hh;omega)
     obtain ⟨b,c,v8,fpv,hfoc⟩:=foc_of g38 (p:=p) (by rw [rewN_len];exact hpn);obtain ⟨ecv,hFb,d0,d1,d2,oo,hfpv⟩:=foc_cells hfoc;subst ecv;rw [rewN_at _ _ _ _ hpn,if_neg hpk] at d0 d1 oo;rw [rewN_len] at hb8 hb7;obtain ⟨va8,vc8,rfl,_,_⟩:=oo.val;have b1:(0:Int)≤k∧(k:Int) < (leadsN ns old).length:=by omega
     have b2:(0:Int)≤(p:Nat)∧((p:Nat):Int) < ns.length:=by omega
     (try simp only [go_sem,simprocAttr,zb4,zb6,b1,tw,cell_of hb8,b2,d2]);have hset0:rewN ns old O ((leadsN ns old).take k)=(rewN ns old O ((leadsN ns old).take k)).set p ⟨(ndAt ns p).kind,(ndAt ns p).num,halfA ns old O (ndAt ns p).args 0⟩:=by
       refine nd_ext (by rw [List.length_set]) (fun i hi=>?_);rw [ndAt_set' _ _ _ _ (by rw [rewN_len];exact hpn)]
       split
       · rename_i hh;subst hh;rw [rewN_at _ _ _ _ hpn,if_neg hpk,halfA_zero]
       · rfl
     have hfoc0:Foc w8 (.slice (some ⟨b,0,none⟩) (rewN ns old O ((leadsN ns old).take k)).length c) ((rewN ns old O ((leadsN ns old).take k)).set p ⟨(ndAt ns p).kind,(ndAt ns p).num,halfA ns old O (ndAt ns p).args 0⟩) (fun x=>(F x∧x≠a)∧x≠mb) p b c (.slice va8 (ndAt ns p).args.length vc8) fpv:=by rw [← hset0];exact hfoc
     have hLl:=leadsN_len ns old;have hpre1:curK ns old O1 (k+1) <+: O:=(curK_pre ns old O1 hk').trans hpreO;have hwk:IntKind.i64.wrap ((k:Int)+1)=((k+1:Nat):Int):=by rw [wrap_in]<;>omega
     have hpl:=(wf_at hw hpn).2;have hal:=hargs _ (show ndAt ns p∈ns by simp [ndAt,hpn]);have hmk0:=curK_met hw ho hmO1 k hk
     refine ir_bbthen (fun ρ w'=>∃ (vk:Value) (fk:Option Nat),MvAt w' bm a bo br bn ns old (curK ns old O1 (k+1)) vk fk∧FromD 104 w' (.slice (some ⟨b,0,none⟩) (rewN ns old O ((leadsN ns old).take k)).length c) (rewN ns old O ((leadsN ns old).take (k+1))) (fun x=>(F x∧x≠a)∧x≠mb) ∧
         Mod (fun x=>((F x∧x≠a)∧x≠mb)∨x=bm∨x=bn∨fp5=some x) w7 w'∧(∀ x,fk=some x→fp5=some x∨w7.heap.size≤x) ∧
         ρ.get 0=some (.pointer (some ⟨a,0,none⟩))∧ρ.get 5=some (.pointer (some ⟨bm,0,none⟩))∧ρ.get 6=some (.slice va5 roots.length vc5)∧ρ.get 39=some (.slice (some ⟨bw,0,none⟩) (leadsN ns old).length vcL)∧ρ.get 40=some (I (leadsN ns old).length)∧ρ.get 41=some (I k)) ?_ ?_
     · refine ir_loop (fun m ρ w' => ∃ (i : Nat) (vk : Value) (fk : Option Nat), m = (ndAt ns p).args.length - i ∧ i ≤ (ndAt ns p).args.length ∧ MvAt w' bm a bo br bn ns old (meetsF ns old (curK ns old O1 k) (((ndAt ns p).args.take i).filter (isY old))) vk fk ∧
           Foc w' (.slice (some ⟨b,0,none⟩) (rewN ns old O ((leadsN ns old).take k)).length c) ((rewN ns old O ((leadsN ns old).take k)).set p ⟨(ndAt ns p).kind,(ndAt ns p).num,halfA ns old O (ndAt ns p).args i⟩) (fun x=>(F x∧x≠a)∧x≠mb) p b c (.slice va8 (ndAt ns p).args.length vc8) fpv ∧
           Mod (fun x=>((F x∧x≠a)∧x≠mb)∨x=bm∨x=bn∨fp5=some x) w7 w'∧(∀ x,fk=some x→fp5=some x∨w7.heap.size≤x) ∧
           ρ=[(0,.pointer (some ⟨a,0,none⟩)),(5,.pointer (some ⟨bm,0,none⟩)),(6,.slice va5 roots.length vc5),(9,.pointer (some ⟨b,p*3,none⟩)),(39,.slice (some ⟨bw,0,none⟩) (leadsN ns old).length vcL),(40,I (leadsN ns old).length),(41,I k),(54,.slice va8 (ndAt ns p).args.length vc8),(55,I (ndAt ns p).args.length),(56,I i)]) (ndAt ns p).args.length
         ⟨0,_,_,rfl,Nat.zero_le _,by simpa [meetsF] using hmv8,hfoc0,hm8,hfk,rfl⟩ ?_
       rintro m ρ w9 ⟨i,vk9,fk9,rfl,hi,hmv9,hfoc9,hm9,hfk9,rfl⟩;unfold ir196L1;(try simp only [go_sem,simprocAttr]);refine ir_cond rfl (fun hc2=>?_) (fun hc2=>?_)
       · have hi':i < (ndAt ns p).args.length:=by simpa using hc2
         obtain ⟨q,hq⟩:∃ q,(ndAt ns p).args[i]=q:=⟨_,rfl⟩;have hqp:=List.all_eq_true.1 hpl q (by rw [← hq];exact List.getElem_mem hi');simp only [Bool.and_eq_true,decide_eq_true_eq] at hqp;obtain ⟨_,_,e0,e1,e2,oo9,hfpv9⟩:=foc_cells hfoc9;rw [ndAt_set' _ _ _ _ (by rw [rewN_len];exact hpn),if_pos rfl] at oo9;have hhl:=halfA_len ns old O (ndAt ns p).args i (by omega);simp only [hhl] at oo9;obtain ⟨bv,cvv,cs,ev,efp,hbv,hilt,hcs,hset⟩:=own_set oo9 hi';simp only [Value.slice.injEq] at ev;obtain ⟨rfl,_,rfl⟩:=ev;have hci:cs[i]? = some (I q):=hcs i q (by rw [halfA_at _ _ _ _ hi',hq]);have hcell:w9.cell? ⟨bv,i,none⟩=some (I q):=by rw [cell_of hbv,List.getElem?_toArray];exact hci
         have b3:(0:Int)≤i∧(i:Int) < (ndAt ns p).args.length:=by omega
         have hwi:IntKind.i64.wrap ((i:Int)+1)=((i+1:Nat):Int):=by rw [wrap_in]<;>omega
         have hb9:=hm9.at hb7 (fun hh=>by
           rcases hh with hh | hh | hh | hh
           · exact hh.1.2 rfl
           · omega
           · omega
           · have:=lfp5 a hh;omega)
         have hcs1:=curK_succ ns old O1 hk';rw [hp] at hcs1;rw [hcs1] at hpre1;have hlfk:∀ x,fk9=some x→w3.heap.size≤x:=fun x hx=>by
           rcases hfk9 x hx with h | h
           · exact (lfp5 x h).1
           · omega
         have hfpv3:∀ x,fpv=some x→x < w.heap.size:=fun x hx=>hFl x (hfpv9 x hx).1.1.1
         have hFb':b < w.heap.size:=hFl b hFb.1.1;(try simp only [go_sem,simprocAttr,zb4,zb6,b3,hcell,cell_of hb9]);refine ir_cond rfl (fun hc3=>?_) (fun hc3=>?_)
         · have hy:isY old q=true:=by simpa [isY] using hc3
           obtain ⟨pq,rfl⟩:∃ pq:Nat,q=pq:=⟨q.toNat,by omega⟩;(try simp only [go_sem,simprocAttr,zb4,zb6,b3,e2])
           have hmk:=metF_meets hw (((ndAt ns p).args.take i).filter (isY old)) hmk0 (okPl_filter (by
             rw [okPl,List.all_eq_true] at hpl ⊢
             exact fun x hx=>hpl x (List.mem_of_mem_take hx)) _)
           have hnext:meetsF ns old (curK ns old O1 k) (((ndAt ns p).args.take (i+1)).filter (isY old))=meetF ns old (meetsF ns old (curK ns old O1 k) (((ndAt ns p).args.take i).filter (isY old))) pq:=by
             rw [filter_take hi',hq,hy,if_pos rfl,meetsF_app];rfl
           refine e_call (by rfl) ?_;have hwd:Mod (fun _=>False) w9 w9.drew:=⟨Nat.le_refl _,fun _ _ _=>rfl,rfl,rfl,rfl⟩;refine (place_ok w9.drew bm a bo br bn ns hw hn old ho _ vk9 fk9 (mv_mod hmv9 hwd (fun h=>h) (fun h=>h) (fun h=>h) (fun _ _ h=>h)) hmk pq (by omega)).mono ?_;rintro r w10 ⟨rfl,vk10,fk10,hmv10,hm10,hfk10⟩;have hm10:Mod (fun x=>x=bm∨x=bn∨fk9=some x) w9 w10:=hm10.of_drew;have hfk10:∀ x,fk10=some x→fk9=some x∨w9.heap.size≤x:=hfk10
           have hk10:w10.heap[b]? = w9.heap[b]?:=hm10.old b (World.block_lt_of_cell? w9 _ e2) (fun hh=>by
             rcases hh with hh | hh | hh
             · omega
             · omega
             · have:=hlfk b hh;omega)
           have s10:=hm10.size;have s9:=hm9.size;(try simp only [go_sem,simprocAttr]);refine ⟨hk10,?_⟩;have hnb:∀ x,x < w.heap.size→¬ (x=bm∨x=bn∨fk9=some x):=fun x hx hh=>by
             rcases hh with hh | hh | hh
             · omega
             · omega
             · have:=hlfk x hh;omega
           have hfoc10:=foc_mod hfoc9 hm10 (fun x hx=>hnb x (hFl x hx.1.1));have lbv:=hfpv3 bv efp;have hbv10:=hm10.at hbv (hnb bv lbv);refine e_st1 (off:=i) rfl rfl hbv10 rfl hilt ?_;intro w11 hb11 hm11 hs11;have hnum:numF ns old (meetF ns old (meetsF ns old (curK ns old O1 k) (((ndAt ns p).args.take i).filter (isY old))) pq) pq=numF ns old O pq:=by
             refine (numF_pre ?_ (metF_in ns old _ pq)).symm;rw [← hnext];exact (half_pre ns old _ _ _).trans hpre1
           rw [hnum] at hb11;have ho11:=hset w11 _ hb11
           have hw11:=foc_write hfoc10 (args':=halfA ns old O (ndAt ns p).args (i+1)) (hm11.weak (fun x hx=>by rw [efp,hx])) (by
             rw [halfA_len ns old O _ _ (by omega)];have e:=halfA_set ns old O (ndAt ns p).args hi';rw [hq,hy,if_pos rfl] at e;rw [← e]
             exact ho11)
           rw [ndAt_set' _ _ _ _ (by rw [rewN_len];exact hpn),if_pos rfl,List.set_set] at hw11;(try simp only [go_sem,simprocAttr,hwi]);have hfk10':∀ x,fk10=some x→fp5=some x∨w7.heap.size≤x:=fun x hx=>by
             rcases hfk10 x hx with h | h
             · exact hfk9 x h
             · exact .inr (by omega)
           refine ⟨_,?_,i+1,vk10,fk10,rfl,hi',?_,hw11,(hm9.step hm10 (fun x hx hlt=>?_)).step hm11 (fun x hx _=>?_),hfk10',rfl⟩
           · omega
           · rw [hnext]
             exact mv_mod hmv10 hm11 (by omega) (by omega) (by omega) (fun x hx hh=>by
               rcases hfk10' x hx with h | h
               · have:=lfp5 x h;omega
               · omega)
           · rcases hx with hx | hx | hx
             · exact .inr (.inl hx)
             · exact .inr (.inr (.inl hx))
             · rcases hfk9 x hx with h | h
               · exact .inr (.inr (.inr h))
               · omega
           · subst hx;exact .inl (hfpv9 _ efp).1
         · have hy:isY old q=false:=by simpa [isY] using hc3
           (try simp only [go_sem,simprocAttr,hwi]);refine ⟨_,?_,i+1,vk9,fk9,rfl,hi',?_,?_,hm9,hfk9,rfl⟩
           · omega
           · rw [filter_take hi',hq,hy]
             simpa using hmv9
           · rw [halfA_same _ _ _ _ hi' (by rw [hq];exact hy)];exact hfoc9
       · have hi':i=(ndAt ns p).args.length:=by simp at hc2;omega
         subst hi';rw [List.take_length] at hmv9;have hcs:=curK_succ ns old O1 hk';rw [hp] at hcs;rw [← hcs] at hmv9;have hset1:(rewN ns old O ((leadsN ns old).take k)).set p ⟨(ndAt ns p).kind,(ndAt ns p).num,halfA ns old O (ndAt ns p).args (ndAt ns p).args.length⟩=rewN ns old O ((leadsN ns old).take (k+1)):=by
           rw [halfA_full,List.take_succ_eq_append_getElem hk',hp,rewN_snoc _ _ _ _ hpn]
         rw [hset1] at hfoc9;(try simp only [go_sem,simprocAttr]);exact ⟨vk9,fk9,hmv9,foc_from hfoc9,hm9,hfk9⟩
     rintro ρ w9 ⟨vk9,fk9,hmv9,g39,hm9,hfk9,r0,r5,r6,r39,r40,r41⟩;(try simp only [go_sem,simprocAttr,r0,r5,r6,r39,r40,r41,hwk]);exact ⟨_,by omega,k+1,vk9,fk9,rfl,hk',hmv9,g39,hm9,hfk9,rfl⟩
   · have hk':k=(leadsN ns old).length:=by simp at hc;omega
     subst hk';rw [List.take_length] at g38;rw [curK_all] at hmv8;(try simp only [go_sem,simprocAttr]);exact ⟨vk,fk,hmv8,g38,hm8,hfk⟩
 rintro ρ w8 ⟨vk,fk,hmv8,g38,hm8,hfk,r0,r5,r6⟩
 have hb8:=hm8.at hb7 (fun hh=>by
   rcases hh with hh | hh | hh | hh
   · exact hh.1.2 rfl
   · omega
   · omega
   · have:=lfp5 a hh;omega)
 have hbo':bo≠bm:=fun hh=>by
   have h:=hmv.of;rw [hh] at h;exact kind_ne h hmv.cells (by decide)
 have hring7:MapAt w7 br R:=by
   have h5:MapAt w5 br R:=map_mod hT.ring hm5 (fun hh=>by
     rcases hh with hh | hh | hh
     · exact hbrm hh
     · exact hrn hh
     · cases hh)
   exact map_mod h5 hm57 (fun h=>h)
 have hring8:MapAt w8 br R:=map_mod hring7 hm8 (fun hh=>by
   rcases hh with hh | hh | hh | hh
   · have:=hFl br hh.1.1;omega
   · exact hbrm hh
   · exact hrn hh
   · have:=lfp5 br hh;omega)
 have s8:=hm8.size;(try simp only [go_sem,simprocAttr,r0,r5,r6,cell_of hmv8.cells]);refine e_rg (t:=200) (kt:=3) (et:=3) rfl Tryz.underlying200 hring8 ?_;intro w9 hit9 hm9 hs9;have s9:=hm9.size;have hmv9:=mv_mod hmv8 hm9 (fun h=>h) (fun h=>h) (fun h=>h) (fun _ _ h=>h);have g39:=fromD_mod g38 hm9 (fun _ _ h=>h);have hb9:=hm9.at hb8 (fun h=>h);have hlfk:∀ x,fk=some x→w3.heap.size≤x:=fun x hx=>by
   rcases hfk x hx with h | h
   · exact (lfp5 x h).1
   · omega
 have hlfk8:∀ x,fk=some x→x < w8.heap.size:=fun x hx=>hmv8.met.lt hx
 (try simp only [go_sem,simprocAttr])
 refine ir_bthen (fun ρ w'=>FromD 104 w' cv (ringN ns (rewN ns old O (leadsN ns old)) old [] R) (fun x=>(F x∧x≠a)∧x≠mb) ∧
     Mod (fun x=>((F x∧x≠a)∧x≠mb)∨x=w8.heap.size) w9 w' ∧
     ρ.get 0=some (.pointer (some ⟨a,0,none⟩))∧ρ.get 5=some (.pointer (some ⟨bm,0,none⟩))∧ρ.get 6=some (.slice va5 roots.length vc5)) ?_ ?_
 · refine ir_loop (fun m ρ w' => ∃ left : List (Int × Int), m = left.length ∧ (left.map (fun q => q.1)).Nodup ∧ (∀ q ∈ left, q ∈ R) ∧ ItAt w' w8.heap.size br R left ∧ FromD 104 w' cv (ringN ns (rewN ns old O (leadsN ns old)) old left R) (fun x => (F x ∧ x ≠ a) ∧ x ≠ mb) ∧
       Mod (fun x=>((F x∧x≠a)∧x≠mb)∨x=w8.heap.size) w9 w' ∧
       ρ.get 0=some (.pointer (some ⟨a,0,none⟩))∧ρ.get 5=some (.pointer (some ⟨bm,0,none⟩))∧ρ.get 6=some (.slice va5 roots.length vc5)∧ρ.get 83=some (.pointer (some ⟨w8.heap.size,0,none⟩))) R.length
     ⟨R,rfl,hT.nd,(fun _ h=>h),hit9,by rw [ringN_all _ _ (rewN_len _ _ _ _)];exact g39,Mod.refl _ _,rfl,rfl,rfl,rfl⟩ ?_
   rintro m ρ w10 ⟨left,rfl,hnd,hsub,hit,g310,hm10,r0,r5,r6,r83⟩;unfold ir196L3;(try simp only [go_sem,simprocAttr,r0,r5,r6,r83]);refine e_nx r83 hit (by omega) (fun hl=>?_) (fun i hi w11 hit11 hcur hm11 hs11=>?_)
   · subst hl;(try simp only [go_sem,simprocAttr]);exact ⟨g310,hm10⟩
   · (try simp only [go_sem,simprocAttr]);refine e_en rfl hcur ?_;have s10:=hm10.size;have hmemR:=hsub _ (List.getElem_mem hi);obtain ⟨j,hj,hkj,hind⟩:=(hT.keys left[i].1).1 (List.mem_map.2 ⟨_,hmemR,rfl⟩);obtain ⟨p,hp⟩:∃ p,over ns j=p:=⟨_,rfl⟩;rw [hp] at hkj hind;have hpn:p < ns.length:=hp ▸ ov_lt (wf_nxt_lt hw) hj;have hov:over ns p=p:=by rw [← hp];exact ov_ov (wf_nxt_lt hw) hj
     have hR:(p:Int)∈R.map (fun q=>q.1):=by rw [← hkj];exact List.mem_map.2 ⟨_,hmemR,rfl⟩
     have hstep:=ringN_step (ns:=ns) (l:=rewN ns old O (leadsN ns old)) (old:=old) (R:=R) hnd hi hkj hR hpn;have hm11':Mod (fun x=>((F x∧x≠a)∧x≠mb)∨x=w8.heap.size) w9 w11:=hm10.step hm11 (fun x hx _=>.inr hx);have hnd':=(left_erase hnd hi).1;have hsub':∀ q∈left.eraseIdx i,q∈R:=fun q hq=>hsub q (List.mem_of_mem_eraseIdx hq)
     have hlen':(left.eraseIdx i).length < left.length:=by rw [List.length_eraseIdx,if_pos hi];omega
     have hb11:=hm11'.at hb9 (fun hh=>by
       rcases hh with hh | hh
       · exact hh.1.2 rfl
       · omega)
     have g311:=fromD_mod g310 hm11 (fun x hx hh=>by have:=hFl x hx.1.1;omega);(try simp only [go_sem,simprocAttr,cell_of hb11,hkj]);refine ir_cond rfl (fun hc=>?_) (fun hc=>?_)
     · have hpo:p < old:=by simpa using hc
       rw [if_pos hpo] at hstep;obtain ⟨b,c,v8,fpv,hfoc⟩:=foc_of g311 (p:=p) (by rw [ringN_len];exact hpn);obtain ⟨ecv,hFb,d0,d1,d2,oo,hfpv⟩:=foc_cells hfoc;rw [ringN_len] at ecv;subst ecv;have hnl:(p:Int)∈left.map (fun q=>q.1):=by rw [← hkj];exact List.mem_map.2 ⟨_,List.getElem_mem hi,rfl⟩
       have hndp:ndAt (ringN ns (rewN ns old O (leadsN ns old)) old left R) p=ndAt (rewN ns old O (leadsN ns old)) p:=by
         rw [ringN_at _ _ _ _ _ hpn,if_neg (fun hh=>hh.2.2 hnl)]
       have hk5:(ndAt ns p).kind=5:=by simpa [ind] using hind
       have hm5':=(wf_at hw hpn).1;simp only [Nd.may,mayB,hk5,decide_eq_true_eq] at hm5';have hal1:(ndAt ns p).args.length=1:=by omega
       have hrw:(ndAt (rewN ns old O (leadsN ns old)) p).args.length=1∧(ndAt (rewN ns old O (leadsN ns old)) p).kind=(ndAt ns p).kind∧(ndAt (rewN ns old O (leadsN ns old)) p).num=(ndAt ns p).num:=by
         rw [rewN_at _ _ _ _ hpn]
         split
         · exact ⟨by simp [oldArgs,hal1],rfl,rfl⟩
         · exact ⟨hal1,rfl,rfl⟩
       rw [hndp] at oo d0 d1;rw [hrw.1] at oo;obtain ⟨bv,cvv,cs,rfl,efp,hbv,hilt,hcs,hset⟩:=own_set oo (i:=0) (by omega);have b2:(0:Int)≤(p:Nat)∧((p:Nat):Int) < ns.length:=by omega
       have b3:(0:Int)≤0∧(0:Int) < ((1:Nat):Int):=by omega
       (try simp only [go_sem,simprocAttr,zb4,zb6,cell_of hb11,b2,d2,b3]);refine e_st1 (off:=0) rfl rfl hbv rfl hilt ?_;intro w12 hb12 hm12 hs12;have ho12:=hset w12 _ hb12;have e1:(ndAt (rewN ns old O (leadsN ns old)) p).args.set 0 (p:Int)=[(p:Int)]:=by
         have:=hrw.1
         match h:(ndAt (rewN ns old O (leadsN ns old)) p).args with
         | [x]=>rfl
         | []=>rw [h] at this;simp at this
         | x::y::l=>rw [h] at this;simp at this
       rw [e1] at ho12;have hw12:=foc_write hfoc (args':=[(p:Int)]) (hm12.weak (fun x hx=>by rw [efp,hx])) ho12;rw [hndp,hrw.2.1,hrw.2.2,← hstep] at hw12;have hFbv:=hfpv bv efp;have lbv:=hFl bv hFbv.1.1.1;(try simp only [go_sem,simprocAttr]);refine ⟨_,hlen',left.eraseIdx i,rfl,hnd',hsub',it_mod hit11 hm12 (by omega) (by omega),?_,hm11'.step hm12 (fun x hx _=>.inl (hx ▸ hFbv.1))⟩;have:=foc_from hw12;exact this
     · have hpo:¬ p < old:=by simpa using hc
       rw [if_neg hpo] at hstep;(try simp only [go_sem,simprocAttr]);refine ⟨_,hlen',left.eraseIdx i,rfl,hnd',hsub',hit11,?_,hm11'⟩;rw [hstep];exact g311
 rintro ρ w10 ⟨g310,hm10,r0,r5,r6⟩;have s10:=hm10.size
 have hb10:=hm10.at hb9 (fun hh=>by
   rcases hh with hh | hh
   · exact hh.1.2 rfl
   · omega)
 have hmv10:=mv_mod hmv9 hm10 (fun hh=>by
   rcases hh with hh | hh
   · have:=hFl _ hh.1.1;omega
   · omega) (fun hh=>by
   rcases hh with hh | hh
   · have:=hFl _ hh.1.1;omega
   · omega) (fun hh=>by
   rcases hh with hh | hh
   · have:=hFl _ hh.1.1;omega
   · omega) (fun x hx hh=>by
   have h1:=hlfk x hx;have h2:=hlfk8 x hx;rcases hh with hh | hh
   · have:=hFl _ hh.1.1;omega
   · omega)
 have hmO2:=metF_old hw ho hmO1 old (Nat.le_refl _);(try simp only [go_sem,simprocAttr,r0,r5,r6]);refine e_call (show evs ρ [.t 5]=some [.pointer (some ⟨bm,0,none⟩)] from by simp only [evs,W.O.ev,r5]) ?_
 refine (moved_ok w10 bm a bo br bn ns (ringN ns (rewN ns old O (leadsN ns old)) old [] R) hw hn old ho _ vk fk hmv10 hmO2 _ _ _ _ _ _ _ hb10 (fromD_from g310) (ringN_len _ _ _ _ _) (ringN_args hargs O R) (fun x h1 h2=>ringN_young O R h1 h2) (fun x hx hh=>by
   have:=hFl x hx.1.1;rcases hh with hh | hh | hh
   · omega
   · omega
   · have:=hlfk x hh;omega)).mono ?_
 rintro q w11 ⟨vm11,fp11,fq11,ps,fps,hmv11,hm11,ho11,hfq11,had11,hps11⟩;rw [hreach] at hmv11 ho11 hps11;have hS11:∀ x,x < w3.heap.size→x≠bm→x≠bn→¬ (x=bm∨x=bn∨fk=some x):=fun x h1 h2 h3 hh=>by
   rcases hh with hh | hh | hh
   · exact h2 hh
   · exact h3 hh
   · have:=hlfk x hh;omega
 have s11:=hm11.size;have hb11:=hm11.at hb10 (hS11 a (by omega) (by omega) (by omega));have g311:=fromD_mod g310 hm11 (fun x hx=>by have:=hFl x hx.1.1;exact hS11 x (by omega) (by omega) (by omega));obtain ⟨fpc,qs,fqs,c1,c2,c3,c4,c5⟩:=g311;have hnl:(ringN ns (rewN ns old O (leadsN ns old)) old [] R).length=ns.length:=ringN_len _ _ _ _ _;rw [hnl] at c1;obtain ⟨ca,cc,rfl,hcc,_⟩:=c1.val;obtain ⟨va11,vc11,rfl,_,hva11⟩:=ho11.val;have b4:(0:Int)≤old∧(old:Int)≤cc:=by omega
 have b5:(0:Int)≤old∧(old:Int)≤old:=by omega
 have ecv:(if old=0 then ca else Option.map (fun x=>x) ca)=ca:=by split<;>simp
 (try simp only [go_sem,simprocAttr,zb4,zb6,cell_of hb11,b4,b5,ecv]);have hwd:Mod (fun _=>False) w11 w11.drew:=⟨Nat.le_refl _,fun _ _ _=>rfl,rfl,rfl,rfl⟩;have hqs:qs.length=ns.length:=by rw [← hnl,← c4];simp
 have c1d:=(own_take' c1 ho).mod hwd (fun _ _ h=>h);have ho11d:=ho11.mod hwd (fun _ _ h=>h);have hsmall:=small_met hw ho hok;rw [hO] at hsmall;have hlen:=metF_len' hsmall.1 ho;refine e_ap (m:=O.length) (news:=flat ps) rfl c1d rfl (fun h=>(hva11 h).1) ho11d.rd (flat_cells had11) rfl (by omega) (by omega) ?_;intro v12 w12 fp12 ho12 hm12 hf12;have hm12:Mod (fun x=>fpc=some x) w11 w12:=hm12.of_drew;have hf12:∀ x,fp12=some x→fpc=some x∨x=w11.heap.size∧x < w12.heap.size:=hf12;obtain ⟨va12,vc12,rfl,_,_⟩:=ho12.val;have hca:fpc≠some a:=own_ne c1 hb11 (by decide);have hb12:=hm12.at hb11 hca;have s12:=hm12.size;(try simp only [go_sem,simprocAttr]);refine e_st1 (off:=2) rfl rfl hb12 rfl (by simp) ?_;intro w13 hb13 hm13 hs13;have hb13:w13.heap[a]? = some (.cells #[I size,I young,.slice va12 (old+O.length) vc12,I old,.map (some mb),I (IntKind.i64.wrap (times+1))] 202 (0,0)):=hb13;(try simp only [go_sem,simprocAttr,cell_of hb13]);refine e_st1 (off:=3) rfl rfl hb13 rfl (by simp) ?_;intro w14 hb14 hm14 hs14;have hb14:w14.heap[a]? = some (.cells #[I size,I young,.slice va12 (old+O.length) vc12,I (old+O.length:Nat),.map (some mb),I (IntKind.i64.wrap (times+1))] 202 (0,0)):=hb14;have hne8:∀ x,x < w3.heap.size→x≠bm→x≠bn→¬ ((F x∧x≠a)∧x≠mb)→¬ (((F x∧x≠a)∧x≠mb)∨x=bm∨x=bn∨fp5=some x):=fun x h1 h2 h3 h4 hh=>by
   rcases hh with hh | hh | hh | hh
   · exact h4 hh
   · exact h2 hh
   · exact h3 hh
   · have:=lfp5 x hh;omega
 have g411:MapAt w11 mb ld:=map_mod (map_mod (map_mod (map_mod (map_mod g45 hm57 (fun h=>h)) hm8 (hne8 mb (by omega) (by omega) (by omega) (fun hh=>hh.2 rfl))) hm9 (fun h=>h)) hm10 (fun hh=>by
   rcases hh with hh | hh
   · exact hh.2 rfl
   · omega)) hm11 (hS11 mb (by omega) (by omega) (by omega))
 have hfpcm:∀ x,fpc=some x→mb≠x:=fun x hx=>by
   obtain ⟨cs,hc⟩:=own_cells c1 hx;exact map_ne g411 hc
 have g414:MapAt w14 mb ld:=map_mod (map_mod (map_mod g411 hm12 (fun hh=>hfpcm mb hh rfl)) hm13 (fun hh=>hamb hh.symm)) hm14 (fun hh=>hamb hh.symm);(try simp only [go_sem,simprocAttr,cell_of hb14]);refine e_cl (t:=200) (kt:=3) (et:=3) rfl rfl Tryz.underlying200 g414 ?_;intro w15 hb15 hm15' hs15;have hb155:=hm15'.at hb14 hamb;have hmt:Mod (fun x=>F x) w11 w15:=(((hm12.weak (S':=fun x=>F x) (fun x hx=>(c2 x hx).1.1)).step hm13 (fun x hx _=>hx ▸ g2)).step hm14 (fun x hx _=>hx ▸ g2)).step hm15' (fun x hx _=>hx ▸ g5)
 have hm811:Mod (fun x=>F x∨w.heap.size≤x) w7 w11:=((((hm8.weak (S':=fun x=>F x∨w.heap.size≤x) (fun x hx=>by
   rcases hx with hx | hx | hx | hx
   · exact .inl hx.1.1
   · exact .inr (by omega)
   · exact .inr (by omega)
   · have:=lfp5 x hx;exact .inr (by omega)))).step hm9 (fun _ h _=>h.elim)).step hm10 (fun x hx _=>by
   rcases hx with hx | hx
   · exact .inl hx.1.1
   · exact .inr (by omega))).step hm11 (fun x hx _=>by
   rcases hx with hx | hx | hx
   · exact .inr (by omega)
   · exact .inr (by omega)
   · have:=hlfk x hx;exact .inr (by omega))
 have hmF:Mod F w w15:=((((hm1.weak (S':=fun x=>F x) (fun x hx=>hx ▸ g2)).step hm17 (fun _ h _=>h.elim)).step hm811 (fun x hx hlt=>hx.elim (fun h=>h) (fun h=>by omega)))).step hmt (fun x hx _=>hx);have ho515:OwnS w15 3 1 (.slice va5 roots.length vc5) ((roots.map (numF ns old O)).map I) roots.length fq5:=by
   have e:roots.map (numF ns old (meetsF ns old [] roots))=roots.map (numF ns old O):=by
     apply List.map_congr_left;intro y hy;refine (numF_pre ?_ (meetsF_in ns old _ _ y hy)).symm;rw [hO1];exact (oldMeets_pre ns old old O1).trans hpreO
   rw [← e];have hq:∀ x,fq5=some x→w3.heap.size≤x∧fp5≠some x∧x < w5.heap.size:=fun x hx=>⟨(hfq5 x hx).1,(hfq5 x hx).2,ho5.lt hx⟩
   refine (((((ho5.mod hm57 (fun _ _ h=>h)).mod hm8 (fun x hx hh=>?_)).mod hm9 (fun _ _ h=>h)).mod hm10 (fun x hx hh=>?_)).mod hm11 (fun x hx hh=>?_)).mod hmt (fun x hx hh=>?_)
   · have:=hq x hx;rcases hh with hh | hh | hh | hh
     · have:=hFl x hh.1.1;omega
     · omega
     · omega
     · exact this.2.1 hh
   · have:=hq x hx;rcases hh with hh | hh
     · have:=hFl x hh.1.1;omega
     · omega
   · have:=hq x hx;rcases hh with hh | hh | hh
     · omega
     · omega
     · rcases hfk x hh with h | h
       · exact this.2.1 h
       · omega
   · have:=hq x hx;have:=hFl x hh;omega
 have hlen2:(smallNs ns old roots).length=old+O.length:=by rw [small_length,hO]
 have hroots:smallRoots ns old roots=roots.map (numF ns old O):=by unfold smallRoots;rw [hO]
 have hqt:(qs.take old).length=old:=by rw [List.length_take];omega
 have hns:smallNs ns old roots=(qs.take old++ps).map Prod.fst:=by
   unfold smallNs;rw [hO,List.map_append,hps11,List.map_take,c4,ringN_old hw ho O hT]
 have hfps:∀ j x,j < ps.length→fps j=some x→w10.heap.size≤x∧x < w11.heap.size:=fun j x hj hx=>⟨(had11.1 j hj).2 x hx,(had11.1 j hj).1.lt hx⟩
 have hfqs:∀ j x,j < qs.length→fqs j=some x→F x∧x≠a∧x≠mb:=fun j x hj hx=>⟨((c3.1 j hj).2 x hx).1.1,((c3.1 j hj).2 x hx).1.2,((c3.1 j hj).2 x hx).2⟩
 refine ⟨fq5,fun x=>F x∨fp12=some x∨∃ j,j < ps.length∧fps j=some x,?_,?_,⟨hmF,fun x hx=>?_⟩,fun x hx=>?_⟩
 · rw [hroots];exact ho515
 · rw [hlen2];refine ⟨_,mb,[],hb155,.inl g2,⟨fp12,qs.take old++ps,_,?_,fun x hx=>.inr (.inl hx),argsD_join (argsD_take (fp:=fqs) ?_ old) (fq:=fps) ?_ (fun i j x hi hj h1 h2=>?_),hns.symm,fun x hx=>?_⟩,hb15,.inl g5,?_⟩
   · rw [flat_app,hlen2]
     exact ((ho12.mod hm13 (fun x hx hh=>own_ne ho12 hb12 (by decide) (by rw [hx,hh]))).mod hm14 (fun x hx hh=>own_ne ho12 hb12 (by decide) (by rw [hx,hh]))).mod hm15' (fun x hx hh=>by
       rcases hf12 x hx with h | h
       · exact hfpcm x h hh.symm
       · omega)
   · have h1:=argsD_mod c3 hm12 (fun i x hi hx hh=>own_apart (c3.1 i hi).1 c1 (by decide) hx hh);have h2:=argsD_mod h1 hm13 (fun i x hi hx hh=>(hfqs i x hi hx).2.1 hh);have h3:=argsD_mod h2 hm14 (fun i x hi hx hh=>(hfqs i x hi hx).2.1 hh);have h4:=argsD_mod h3 hm15' (fun i x hi hx hh=>(hfqs i x hi hx).2.2 hh);exact argsD_weak h4 (fun x hx=>.inl hx.1.1)
   · have h1:=argsD_mod had11 hm12 (fun i x hi hx hh=>own_apart (had11.1 i hi).1 c1 (by decide) hx hh);have h2:=argsD_mod h1 hm13 (fun i x hi hx hh=>by have:=hfps i x hi hx;omega);have h3:=argsD_mod h2 hm14 (fun i x hi hx hh=>by have:=hfps i x hi hx;omega);have h4:=argsD_mod h3 hm15' (fun i x hi hx hh=>by have:=hfps i x hi hx;omega);exact ⟨fun i hi=>⟨(h4.1 i hi).1,fun x hx=>.inr (.inr ⟨i,hi,hx⟩)⟩,h4.2⟩
   · have:=hfps j x hj h2;have:=hFl x (hfqs i x (by rw [hqt] at hi;omega) h1).1;omega
   · have s15:=hmt.size;have s12':=ho12;rcases hx with hx | hx | ⟨j,hj,hx⟩
     · have:=hFl x hx;omega
     · have:=ho12.lt hx;omega
     · have:=hfps j x hj hx;omega
   · rw [← hlen2];exact leadOk_full (small_wf hw ho hok)
 · rcases hx with hx | hx | ⟨j,hj,hx⟩
   · exact .inl hx
   · rcases hf12 x hx with h | h
     · exact .inl (c2 x h).1.1
     · exact .inr (by omega)
   · have:=hfps j x hj hx;exact .inr (by omega)
 · have h1:=(hfq5 x hx).1;have h2:=ho5.lt hx;refine ⟨by omega,fun hh=>?_⟩;rcases hh with hh | hh | ⟨j,hj,hh⟩
   · have:=hFl x hh;omega
   · rcases hf12 x hh with h | h
     · have:=hFl x (c2 x h).1.1;omega
     · omega
   · have:=hfps j x hj hh;omega
end
section
open Go Go.W
structure GSt where
 res:Option (List Int)
 err:Int
 ns:List Nd
 old:Nat
 times:Int
def endS (size n:Int) (ns:List Nd) (roots:List Int) (times:Int):GSt:=if n > size - ns.length then ⟨none,211,ns,ns.length,times⟩ else ⟨some roots,0,ns,ns.length,times⟩
def groomS (size young:Int) (old:Nat) (times:Int) (ns:List Nd) (n:Int) (roots:List Int):GSt:=
 if n < 0 then ⟨none,1,ns,old,times⟩
 else if okPl ns.length roots=false then ⟨none,212,ns,old,times⟩
 else if n≤young - (ns.length - old)∧n≤size - ns.length then ⟨some roots,0,ns,old,times⟩
 else if n > size - (smallNs ns old roots).length then endS size n (smallNs (smallNs ns old roots) 0 (smallRoots ns old roots)) (smallRoots (smallNs ns old roots) 0 (smallRoots ns old roots)) (IntKind.i64.wrap (IntKind.i64.wrap (times+1)+1))
 else ⟨some (smallRoots ns old roots),0,smallNs ns old roots,(smallNs ns old roots).length,IntKind.i64.wrap (times+1)⟩
def GRoomPost (At:World→Nat→Int→Int→Nat→Int→List Nd→(Nat→Prop)→Prop) (w:World) (a:Nat) (size young:Int) (F:Nat→Prop) (s:GSt) (r:Value) (w':World):Prop:=
 ∃ v F',r = .tuple #[v,I s.err]∧At w' a size young s.old s.times s.ns F'∧Grow F F' w w'∧(s.res=none→v = .slice none 0 0)∧∀ l,s.res=some l→∃ fq,OwnS w' 3 1 v (l.map I) l.length fq∧∀ x,fq=some x→w.heap.size≤x∧¬ F' x
theorem small_roots_len (ns:List Nd) (fr:Nat) (roots:List Int):(smallRoots ns fr roots).length=roots.length:=by simp [smallRoots]
theorem groom_ok (w:World) (a:Nat) (size young:Int) (old:Nat) (times:Int) (ns:List Nd) (F:Nat→Prop) (h:GAt w a size young old times ns F) (ho:old≤ns.length) (hw:WF ns) (hn:ns.length≤1048576) (hs:0≤size∧size≤1048576) (hy:0≤young∧young≤1048576) (n:Int) (v:Value) (roots:List Int) (hx:Ints w v roots)
   (hv:roots≠[]→∀ x,vblk v=some x→¬ F x) (hsm:roots.length≤17592186044416) :
   CallsR Tryz.prog 190 [.pointer (some ⟨a,0,none⟩),I n,v] w (GRoomPost GAt w a size young F (groomS size young old times ns n roots)):=by
 obtain ⟨va,vc,rfl,_,_⟩:=id hx;have same:∀ w',Mod (fun _=>False) w w'→GAt w' a size young old times ns F∧Grow F F w w':=fun w' hm=>
   ⟨gat_mod h hm (fun _ _ h=>h),hm.weak (fun _ h=>h.elim),fun b hb=>.inl hb⟩
 refine fit190.calls rfl ?_;unfold ir190;(try simp only [go_sem,simprocAttr]);refine ir_cond rfl (fun hc=>?_) (fun hc=>?_)
 · have hc':n < 0:=by simpa using hc
   have e:groomS size young old times ns n roots=⟨none,1,ns,old,times⟩:=by unfold groomS;rw [if_pos hc']
   rw [e];(try simp only [go_sem,simprocAttr]);exact ⟨_,F,rfl,(same w (Mod.refl _ _)).1,(same w (Mod.refl _ _)).2,fun _=>rfl,fun l hl=>by cases hl⟩
 have hc1:¬ n < 0:=by simpa using hc
 (try simp only [go_sem,simprocAttr]);refine e_call (by rfl) ?_;refine (gplaces_ok w a ns.length old _ roots (gat_has h) hx).mono ?_;rintro r w1 ⟨rfl,hm1⟩;(try simp only [go_sem,simprocAttr]);refine ir_cond rfl (fun hc=>?_) (fun hc=>?_)
 · have hc':okPl ns.length roots=false:=by simpa using hc
   have e:groomS size young old times ns n roots=⟨none,212,ns,old,times⟩:=by unfold groomS;rw [if_neg hc1,if_pos hc']
   rw [e];(try simp only [go_sem,simprocAttr]);exact ⟨_,F,rfl,(same w1 hm1).1,(same w1 hm1).2,fun _=>rfl,fun l hl=>by cases hl⟩
 have hc2:okPl ns.length roots=true:=by simpa using hc
 have h1:=gat_mod h hm1 (fun _ _ h=>h);have hx1:=hx.mod hm1 (fun _ _ h=>h);obtain ⟨cv,mb,ld,g1,g2,g3,g4,g5,g6⟩:=id h1;obtain ⟨ca,cc,rfl⟩:=fromD_val g3;have k1:IntKind.i64.wrap ((ns.length:Int) - old)=ns.length - old:=by rw [wrap_in]<;>omega
 have k2:IntKind.i64.wrap (young - ((ns.length:Int) - old))=young - (ns.length - old):=by rw [wrap_in]<;>omega
 have k3:IntKind.i64.wrap (size - (ns.length:Int))=size - ns.length:=by rw [wrap_in]<;>omega
 have hwd:Mod (fun _=>False) w1 w1.drew:=⟨Nat.le_refl _,fun _ _ _=>rfl,rfl,rfl,rfl⟩;(try simp only [go_sem,simprocAttr,cell_of g1,k1,k2,k3]);refine wpS_cut (fun ρ w'=>w1.drew=w'∧ρ.get 0=some (.pointer (some ⟨a,0,none⟩))∧ρ.get 1=some (I n)∧ρ.get 2=some (.slice va roots.length vc)∧ρ.get 44=some (.bool (decide (n≤young - ((ns.length:Int) - old))&&decide (n≤size - (ns.length:Int))))) ?_ ?_
 · refine wpS_gr rfl (fun hg=>?_) (fun hg=>?_)
   · (try simp only [go_sem,simprocAttr,hg,cell_of g1,k3])
   · (try simp only [go_sem,simprocAttr,hg,Bool.false_and])
 rintro ρ _ ⟨rfl,r0,r1,r2,r44⟩;(try simp only [go_sem,simprocAttr,r0,r1,r2,r44]);refine ir_cond rfl (fun hc=>?_) (fun hc=>?_)
 · have hc3:n≤young - ((ns.length:Int) - old)∧n≤size - (ns.length:Int):=by simpa using hc
   have e:groomS size young old times ns n roots=⟨some roots,0,ns,old,times⟩:=by unfold groomS;rw [if_neg hc1,if_neg (by simp [hc2]),if_pos hc3]
   rw [e];(try simp only [go_sem,simprocAttr]);refine e_call (by rfl) ?_;refine (clone_ok _ roots w1.drew (hx1.mod hwd (fun _ _ h=>h))).mono ?_;rintro q w2 ⟨hm2,f2,o2,n2⟩;obtain ⟨va2,vc2,rfl,_,_⟩:=o2.val;have hm2':=hwd.trans hm2;have s1:=hm1.size;have s2:=hm2.size;have hw0:w1.drew.heap.size=w1.heap.size:=rfl;(try simp only [go_sem,simprocAttr]);refine ⟨_,F,rfl,(same w2 (hm1.trans hm2')).1,(same w2 (hm1.trans hm2')).2,fun h=>(by cases h),fun l hl=>?_⟩;cases hl;refine ⟨f2,o2,fun x hx=>?_⟩;have:=n2 x hx;exact ⟨by omega,fun hh=>by have:=gat_lt h x hh;omega⟩
 have hc3:¬ (n≤young - ((ns.length:Int) - old)∧n≤size - (ns.length:Int)):=by simpa using hc
 have hx1d:=hx1.mod hwd (fun _ _ h=>h);have h1d:=gat_mod h1 hwd (fun _ _ h=>h);have sw1:w1.drew.heap.size=w1.heap.size:=rfl;have s1:=hm1.size;have hm1d:=hm1.trans hwd;(try simp only [go_sem,simprocAttr]);refine e_call (by rfl) ?_;refine (gsmall_ok w1.drew a size young old times ns F h1d ho hw hn _ roots hx1d hc2 hv hsm).mono ?_;rintro q w2 ⟨fq2,F2,o2,a2,gr2,hf2⟩;obtain ⟨va2,vc2,rfl,_,_⟩:=o2.val;have hw2:=small_wf hw ho hc2;have hl2:=small_len hw ho hc2;obtain ⟨N1,hN1⟩:∃ N1,smallNs ns old roots=N1:=⟨_,rfl⟩;obtain ⟨R1,hR1⟩:∃ R1,smallRoots ns old roots=R1:=⟨_,rfl⟩;have hR1l:R1.length=roots.length:=by rw [← hR1];exact small_roots_len _ _ _
 have hok1:=small_roots_ok hw ho hc2;rw [hN1] at a2 hw2 hl2 hok1;rw [hR1] at o2 hok1;obtain ⟨cv2,mb2,ld2,j1,j2,j3,j4,j5,j6⟩:=id a2;obtain ⟨ca2,cc2,rfl⟩:=fromD_val j3;have k4:IntKind.i64.wrap (size - (N1.length:Int))=size - N1.length:=by rw [wrap_in]<;>omega
 have hwd2:Mod (fun _=>False) w2 w2.drew:=⟨Nat.le_refl _,fun _ _ _=>rfl,rfl,rfl,rfl⟩;have gr02:Grow F F2 w w2:=⟨(hm1d.weak (fun _ h=>h.elim)).trans gr2.1,fun x hx=>(gr2.2 x hx).imp (fun h=>h) (fun h=>by omega)⟩;(try simp only [go_sem,simprocAttr,cell_of j1,k4]);refine ir_cond rfl (fun hc=>?_) (fun hc=>?_)
 · have hc4:n > size - (N1.length:Int):=by simpa using hc
   have e:groomS size young old times ns n roots=endS size n (smallNs N1 0 R1) (smallRoots N1 0 R1) (IntKind.i64.wrap (IntKind.i64.wrap (times+1)+1)):=by
     unfold groomS;rw [if_neg hc1,if_neg (by simp [hc2]),if_neg hc3,hN1,hR1,if_pos hc4]
   rw [e];have o2d:=o2.mod hwd2 (fun _ _ h=>h);have hx2:=(o2d.ints (by omega)).1;(try simp only [go_sem,simprocAttr]);refine e_call (by rfl) ?_;refine (gall_ok w2.drew a size young _ _ N1 F2 (gat_mod a2 hwd2 (fun _ _ h=>h)) hw2 (by omega) _ R1 hx2 hok1 (fun hne x hx hh=>?_) (by omega)).mono ?_
   · cases hfq:fq2 with
     | none=>
       rcases o2.2 with ⟨_,h0,_⟩ | ⟨b',c',sp,e1,e2,_⟩
       · rw [← hR1l] at h0;exact hne (List.eq_nil_of_length_eq_zero h0)
       · rw [hfq] at e2;cases e2
     | some y=>
       rcases o2.2 with ⟨_,_,e2⟩ | ⟨b',c',sp,e1,e2,_⟩
       · rw [hfq] at e2;cases e2
       · rw [e1] at hx;simp only [vblk,Option.some.injEq] at hx;exact (hf2 x (by rw [e2,hx])).2 hh
   rintro q w3 ⟨fq3,F3,o3,a3,gr3,hf3⟩;obtain ⟨va3,vc3,rfl,_,_⟩:=o3.val;have hl3:=small_len hw2 (Nat.zero_le _) hok1;obtain ⟨N2,hN2⟩:∃ N2,smallNs N1 0 R1=N2:=⟨_,rfl⟩;obtain ⟨R2,hR2⟩:∃ R2,smallRoots N1 0 R1=R2:=⟨_,rfl⟩;have hR2l:R2.length=R1.length:=by rw [← hR2];exact small_roots_len _ _ _
   rw [hN2] at a3 hl3;rw [hR2] at o3;rw [hN2,hR2];obtain ⟨cv3,mb3,ld3,i1,i2,i3,i4,i5,i6⟩:=id a3;obtain ⟨ca3,cc3,rfl⟩:=fromD_val i3;have k5:IntKind.i64.wrap (size - (N2.length:Int))=size - N2.length:=by rw [wrap_in]<;>omega
   have hwd3:Mod (fun _=>False) w3 w3.drew:=⟨Nat.le_refl _,fun _ _ _=>rfl,rfl,rfl,rfl⟩;have sw2:w2.drew.heap.size=w2.heap.size:=rfl;have s2:=gr02.1.size
   have gr03:Grow F F3 w w3:=⟨gr02.1.step (hwd2.weak (S':=F2) (fun _ h=>h.elim) |>.trans gr3.1) (fun x hx hlt=>(gr02.2 x hx).elim (fun h=>h) (fun h=>by omega)),fun x hx=>by
     rcases gr3.2 x hx with h | h
     · exact gr02.2 x h
     · exact .inr (by omega)⟩
   (try simp only [go_sem,simprocAttr,cell_of i1,k5]);refine ir_cond rfl (fun hc=>?_) (fun hc=>?_)
   · have hc5:n > size - (N2.length:Int):=by simpa using hc
     (try simp only [go_sem,simprocAttr]);have e:endS size n N2 R2 (IntKind.i64.wrap (IntKind.i64.wrap (times+1)+1))=⟨none,211,N2,N2.length,IntKind.i64.wrap (IntKind.i64.wrap (times+1)+1)⟩:=by unfold endS;rw [if_pos hc5]
     rw [e];exact ⟨_,F3,rfl,gat_mod a3 hwd3 (fun _ _ h=>h),⟨gr03.1.trans (hwd3.weak (fun _ h=>h.elim)),gr03.2⟩,fun _=>rfl,fun l hl=>by cases hl⟩
   · have hc5:¬ n > size - (N2.length:Int):=by simpa using hc
     (try simp only [go_sem,simprocAttr]);have e:endS size n N2 R2 (IntKind.i64.wrap (IntKind.i64.wrap (times+1)+1))=⟨some R2,0,N2,N2.length,IntKind.i64.wrap (IntKind.i64.wrap (times+1)+1)⟩:=by unfold endS;rw [if_neg hc5]
     rw [e];refine ⟨_,F3,rfl,gat_mod a3 hwd3 (fun _ _ h=>h),⟨gr03.1.trans (hwd3.weak (fun _ h=>h.elim)),gr03.2⟩,fun h=>(by cases h),fun l hl=>?_⟩;cases hl;refine ⟨fq3,?_,fun x hx=>⟨by have:=(hf3 x hx).1;omega,(hf3 x hx).2⟩⟩;rw [hR2l];exact o3.mod hwd3 (fun _ _ h=>h)
 · have hc4:¬ n > size - (N1.length:Int):=by simpa using hc
   have e:groomS size young old times ns n roots=⟨some R1,0,N1,N1.length,IntKind.i64.wrap (times+1)⟩:=by
     unfold groomS;rw [if_neg hc1,if_neg (by simp [hc2]),if_neg hc3,hN1,hR1,if_neg hc4]
   rw [e];have hdd:Mod (fun _=>False) w2 w2.drew.drew:=⟨Nat.le_refl _,fun _ _ _=>rfl,rfl,rfl,rfl⟩;(try simp only [go_sem,simprocAttr,cell_of j1,k4]);refine ir_cond rfl (fun hc=>?_) (fun hc=>?_)
   · exact absurd (by simpa using hc) hc4
   (try simp only [go_sem,simprocAttr]);refine ⟨_,F2,rfl,gat_mod a2 hdd (fun _ _ h=>h),⟨gr02.1.trans (hdd.weak (fun _ h=>h.elim)),gr02.2⟩,fun h=>(by cases h),fun l hl=>?_⟩;cases hl;refine ⟨fq2,?_,fun x hx=>⟨by have:=(hf2 x hx).1;omega,(hf2 x hx).2⟩⟩;rw [hR1l];exact o2.mod hdd (fun _ _ h=>h)
end
section
open Go Go.W Go.W.Z
def ir24L1:IR:=.seq (z [n 11 0,f 12 15 11,l 13 12,bk 14 .eql 13 0,m' 14 true 16 0,n' 14 true 17 16,f' 14 true 18 14 17,l' 14 true 19 18,m' 14 true 20 5,bi' 14 true 21 .sub 19 20,m' 14 true 22 1,bi' 14 true 23 .lss 21 22,a 24 14 23] [0,1,5,24] <| j 24 (.skip) ((.exit 0))) <| .block 1 (q [c 26 45 [0]] [0,1,5])
def ir24:IR:=z [] [0,1] <| z [n 7 0,f 8 14 7,l 9 8,m 5 9] [0,1,5] <| .seq (.block 0 (.loop ir24L1)) <| z [n 28 0,f 29 14 28,l 30 29,bi 32 .sub 30 5,m 4 32] [4] <| .ret
theorem fit24:Fits Tryz.prog 24 2 (hOf Tryz.f24 ir24) ir24 [.t 4] 33:=.m Tryz.f24 _
def ir25:IR:=z [.e (some 2) (.al 37 (.agg #[(i 0),(.slice none 0 0),(i 0),(i 0),(i 0),(i 0),(i 0),(.string ⟨#[]⟩)]))] [0,2] <| .seq (.dr (r 0 4 (.mv (.t 0)) <| r 1 5 (.nn (.t 4)) <| r 2 6 (.fa 15 (.t 5)) <| r 3 7 (.l1 (.t 6)) <| r 4 8 (.mv (.t 0)) <| r 6 10 (.mv (.t 0)) <| r 7 11 (.nn (.t 10)) <| r 8 12 (.fa 16 (.t 11)) <| r 9 13 (.l1 (.t 12)) <| r 10 14 (.mv (.t 0)) <| r 11 15 (.nn (.t 14)) <| r 12 16 (.fa 14 (.t 15)) <| r 13 17 (.l1 (.t 16)) <| .e2 5 (some 9) (.call 41 [(.t 8)]) [3,9,13] (r 14 18 (.bd #[(i 0),(.slice none 0 0),(i 0),(i 0),(i 0),(i 0),(i 0),(.string ⟨#[]⟩)] [(0,1,(.t 7)),(1,1,(.t 9)),(2,1,(.t 13)),(3,1,(.t 17))]) <| .e 15 none (some 3) (.al 37 (.agg #[(i 0),(.slice none 0 0),(i 0),(i 0),(i 0),(i 0),(i 0),(.string ⟨#[]⟩)])) [3,9,13] <| .e 16 none none (.st 8 (.t 3) (.t 18)) [] <| .nil) 15 (some 3) (.al 37 (.agg #[(i 0),(.slice none 0 0),(i 0),(i 0),(i 0),(i 0),(i 0),(.string ⟨#[]⟩)])) [3,9,13]
   (.e 5 none (some 9) (.call 41 [(.t 8)]) [3,9,13] <| r 14 18 (.bd #[(i 0),(.slice none 0 0),(i 0),(i 0),(i 0),(i 0),(i 0),(.string ⟨#[]⟩)] [(0,1,(.t 7)),(1,1,(.t 9)),(2,1,(.t 13)),(3,1,(.t 17))]) <| .e 16 none none (.st 8 (.t 3) (.t 18)) [] <| .nil)) [0,2,3]) <| .seq (z [n 20 0,f 21 15 20,l 22 21,bk 23 .eql 22 0] [2,3,23] <| j 23 (q [f 24 0 3,.e none (.st 1 (.t 24) (k 4))] [2,3]) (.skip)) <| z [ln 25 8 3,s 8 2 25] [2] <| .ret
theorem fit25:Fits Tryz.prog 25 1 (hOf Tryz.f25 ir25) ir25 [.n 2 8] 26:=.m Tryz.f25 _
def ir41:IR:=z [] [0] <| z [n 4 0,f 5 13 4,l 6 5,c 7 66 [6],c 8 65 [7],m 2 8] [2] <| .ret
theorem fit41:Fits Tryz.prog 41 1 (hOf Tryz.f41 ir41) ir41 [.t 2] 9:=.m Tryz.f41 _
def ir44L1:IR:=z [bi 69 .lss 68 67] [11,12,15,67,68,69] <| .seq (j 69 (.skip) ((.exit 1))) <| .seq (.block 2 (z [m 16 68] [11,12,15,16,67,68] <| z [m 72 12,m 73 16,.r (some 74) (.bd #[(i 0),(i 0),(.slice none 0 0)] [(0,1,(k 4)),(1,1,(.t 73))]),.e (some 75) (.raw ⟨(some 75),(.call { callee:=(.invoke (.tmp 72) "Add"),args:=#[(.tmp 74)],argTypes:=#[104]}),105, "machine.go:104",#[⟨0,.data⟩,⟨2,.data⟩],none⟩),m 71 75,ex 76 0 71,ex 77 1 71,m 17 76,m 18 77] [11,12,15,17,18,67,68] <| .seq (z [bk 79 .neq 18 0] [11,12,15,17,67,68,79] <| j 79 (z [n 82 15,f 83 15 82,.e none (.st 1 (.t 83) (k 5)),n 84 15,f 85 9 84,.e none (.st 1 (.t 85) (.c (.slice none 0 0)))] [15] <| z [m 8 15,mk 9 0] [8,9] <| .ret) (.skip)) <| q [n 89 15,f 90 9 89,l 91 90,.e (some 93) (.bs 3 1 #[(i 0)] [(0,1,(.t 17))]),.e (some 94) (.ap 3 1 8 #[(i 0)] (.t 91) (.t 93)),n 95 15,f 96 9 95,s 1 96 94] [11,12,15,67,68])) <| q [bk 97 .add 68 1,m 68 97] [11,12,15,67,68]
def ir44:IR:=z [.e (some 4) (.bx 25 (.t 0)),.e (some 5) (.bx 9 (.t 1)),.e (some 7) (.bx 28 (.t 3))] [2,4,5,7] <| .seq (.block 0 (z [le 21 2,bk 22 .gtr 21 10000,m 19 22] [2,4,5,7,19] <| j 19 (z [.r (some 8) (.mv (.c (.pointer none))),mk 9 2] [8,9] <| .ret) (.seq (z [.e (some 25) (.call 70 [(.t 2),(.c (.func (.func 71) #[] #[]))]),m 23 25] [2,4,5,7,23] <| j 23 (.skip) (z [f 26 0 7,l 27 26,bk 28 .lss 27 1,m 23 28] [2,4,5,7,23] <| j 23 (.skip) (z [f 29 0 7,l 30 29,bk 31 .gtr 30 1048576,m 23 31] [2,4,5,7,23] <| j 23 (.skip) (q [f 32 2 7,l 33 32,bk 34 .lss 33 0,m 23 34] [2,4,5,7,23])))) <| j 23 (z [.r (some 8) (.mv (.c (.pointer none))),mk 9 1] [8,9] <| .ret) (.skip)))) <| .seq (z [ln 35 2 4,c 36 73 [35],m 10 36] [2,4,5,7,10] <| z [bk 38 .neq 10 0] [2,4,5,7,10,38] <| j 38 (z [.r (some 8) (.mv (.c (.pointer none))),m 9 10] [8,9] <| .ret) (.skip)) <| z [f 40 1 4,l 41 40,.r (some 42) (.mf (.func 75) [] [(.t 5)]),c 43 74 [41,42],m 11 43] [2,4,7,11] <| .seq (z [bk 45 .lss 11 0] [2,4,7,11,45] <| j 45 (z [.r (some 8) (.mv (.c (.pointer none))),mk 9 220] [8,9] <| .ret) (.skip)) <| z [ln 47 3 7,c 48 76 [47],ex 49 0 48,ex 50 1 48,ex 51 2 48,m 12 49,m 13 50,m 14 51] [2,4,7,11,12,13,14] <| .seq (z [bk 53 .neq 14 0] [2,4,7,11,12,13,14,53] <| j 53 (z [.r (some 8) (.mv (.c (.pointer none))),m 9 14] [8,9] <| .ret) (.skip)) <| .seq (.dr (r 0 55 (.ln 2 (.t 4)) <| r 2 57 (.mv (.t 2)) <| r 4 59 (.ln 3 (.t 7)) <| r 5 60 (.mv (.t 12)) <| r 6 61 (.mv (.t 13)) <| .e 1 none (some 56) (.call 77 [(.t 55)]) [4] <| .e 3 none (some 58) (.call 39 [(.t 57)]) [4] <| .e 7 none (some 62) (.call 78 []) [4] <| r 8 63 (.bd #[(.slice none 0 0),(.slice none 0 0),(.slice none 0 0),(i 0),(.bool false),(i 0),.nilIface,(i 0),(i 0),(.slice none 0 0),(.slice none 0 0),(.slice none 0 0),(.bool false),(.slice none 0 0),(i 0),(i 0),(i 0),(i 0),(.slice none 0 0)] [(0,2,(.t 56)),(2,1,(.t 58)),(3,3,(.t 59)),(6,1,(.t 60)),(7,1,(.t 61)),(18,1,(.t 62))]) <| .e 9 none (some 64) (.bx 113 (.t 63)) [] <| r 10 15 (.mv (.t 64)) <| .nil) [4,11,12,15]) <| .seq (z [f 65 1 4,l 66 65,le 67 66,mk 68 0] [11,12,15,67,68] <| .block 1 (.loop ir44L1)) <| z [n 100 15,f 101 9 100,l 102 101,ia 104 1 102 11,l 105 104,.e (some 106) (.bs 3 1 #[(i 0)] [(0,1,(.t 105))]),n 107 15,f 108 11 107,s 1 108 106] [15] <| z [m 8 15,mk 9 0] [8,9] <| .ret
theorem fit44:Fits Tryz.prog 44 4 (hOf Tryz.f44 ir44) ir44 [.t 8,.t 9] 110:=.m Tryz.f44 _
def ir45:IR:=z [] [0] <| .seq (z [n 7 0,f 8 15 7,l 9 8,bk 10 .neq 9 0] [0,10] <| j 10 (z [mk 2 0,mk 3 221] [2,3] <| .ret) (.skip)) <| .seq (.block 0 (z [n 27 0,f 28 10 27,l 29 28,le 30 29,bk 31 .eql 30 0,m 25 31] [0,25] <| j 25 (q [c 33 79 [0]] [0]) (.seq (q' [m 35 0,n 36 35,f 37 10 36,l 38 37,m 39 0,n 40 39,f 41 10 40,l 42 41,le 43 42,bk 44 .sub 43 1,ia 45 1 38 44,l 46 45,n 47 46,f 48 0 47,l 49 48,m 34 49] [0,34]) <| j 34 (q' [m 50 0,m 51 0,n 52 51,f 53 10 52,l 54 53,m 55 0,n 56 55,f 57 10 56,l 58 57,le 59 58,bk 60 .sub 59 1,ia 61 1 54 60,l 62 61,c 63 80 [50,62]] [0]) (q' [m 11 0,m 12 0,n 13 12,f 14 10 13,l 15 14,m 16 0,n 17 16,f 18 10 17,l 19 18,le 20 19,bk 21 .sub 20 1,ia 22 1 15 21,l 23 22,c 24 81 [11,23]] [0])))) <| .seq (z [n 65 0,f 66 15 65,l 67 66,bk 68 .eql 67 5] [0,68] <| j 68 (z [n 70 0,f 71 15 70,l 72 71,m 2 72,mk 3 0] [2,3] <| .ret) (.skip)) <| z [n 74 0,f 75 14 74,l 76 75,bk 77 .add 76 1,n 78 0,f 79 14 78,s 1 79 77] [0] <| .seq (.seq (q' [m 80 0,n 81 80,f 82 3 81,f 83 2 82,l 84 83,bk 85 .gtr 84 0,m 86 85,m' 86 true 87 0,n' 86 true 88 87,f' 86 true 89 14 88,l' 86 true 90 89,m' 86 true 91 0,n' 86 true 92 91,f' 86 true 93 3 92,f' 86 true 94 2 93,l' 86 true 95 94,bi' 86 true 96 .rem 90 95,bk' 86 true 97 .eql 96 0,a 98 86 97] [0,98]) <| j 98 (.seq (.dr (r 0 100 (.mv (.t 0)) <| r 1 101 (.nn (.t 100)) <| r 2 102 (.fa 6 (.t 101)) <| r 3 103 (.l1 (.t 102)) <| r 4 104 (.mv (.t 0)) <| r 6 106 (.nn (.t 103)) <| r 7 107 (.mv (.t 103)) <| .e 5 none (some 105) (.call 82 [(.t 104)]) [3] <| .e 8 none (some 108) (.raw ⟨(some 108),(.call { callee:=(.invoke (.tmp 107) "Collect"),args:=#[(.tmp 105)],argTypes:=#[26]}),93, "machine.go:193",#[⟨7,.data⟩,⟨5,.data⟩,⟨5,.chain⟩],none⟩) [] <| r 9 99 (.mv (.t 108)) <| r 10 109 (.ex 0 (.t 99)) <| r 11 110 (.ex 1 (.t 99)) <| r 12 4 (.mv (.t 109)) <| r 13 5 (.mv (.t 110)) <| .nil) [0,4,5]) <| z [bk 112 .eql 5 0] [0,4,112] <| j 112 (z [c 115 83 [0,4]] [0] <| q [m 116 0,m 117 0,n 118 117,f 119 6 118,l 120 119,.e (some 121) (.raw ⟨(some 121),(.call { callee:=(.invoke (.tmp 120) "Used"),args:=#[],argTypes:=#[]}),3, "machine.go:195",#[⟨4,.data⟩],none⟩),n 122 116,f 123 8 122,s 1 123 121] [0]) (.skip)) (.skip)) <| z [n 125 0,f 126 15 125,l 127 126,m 2 127,mk 3 0] [2,3] <| .ret
theorem fit45:Fits Tryz.prog 45 1 (hOf Tryz.f45 ir45) ir45 [.t 2,.t 3] 128:=.m Tryz.f45 _
def ir65:IR:=z [] [0] <| z [le 5 0,le 7 0,.r (some 8) (.sl 2 (.t 0) none (some (.t 5)) (some (.t 7))),m 2 8] [2] <| .ret
theorem fit65:Fits Tryz.prog 65 1 (hOf Tryz.f65 ir65) ir65 [.t 2] 9:=.m Tryz.f65 _
def ir66:IR:=z [] [0] <| .seq (z [.r (some 4) (.eq .slice false (.t 0) (.c (.slice none 0 0)))] [0,4] <| j 4 (z [.r (some 2) (.mv (.c (.slice none 0 0)))] [2] <| .ret) (.skip)) <| z [.e (some 5) (.raw ⟨(some 5),(.buildSlice 32 0 #[]),32, "slices.go:362",#[],none⟩),m 6 0,.e (some 7) (.ap 42 2 24 #[(.string ⟨#[]⟩),(i 0)] (.t 5) (.t 6)),m 2 7] [2] <| .ret
theorem fit66:Fits Tryz.prog 66 1 (hOf Tryz.f66 ir66) ir66 [.t 2] 8:=.m Tryz.f66 _
def ir71:IR:=z [] [0] <| z [c 4 72 [0],no 5 4,m 2 5] [2] <| .ret
theorem fit71:Fits Tryz.prog 71 1 (hOf Tryz.f71 ir71) ir71 [.t 2] 6:=.m Tryz.f71 _
def ir72:IR:=z [] [0] <| z [bk 4 .geq 0 (-4611686018427387904),m' 4 true 6 0,bk' 4 true 7 .leq 6 4611686018427387903,a 8 4 7,m 2 8] [2] <| .ret
theorem fit72:Fits Tryz.prog 72 1 (hOf Tryz.f72 ir72) ir72 [.t 2] 9:=.m Tryz.f72 _
def ir73L1:IR:=z [bi 20 .lss 19 18] [1,3,17,18,19,20] <| .seq (j 20 (.skip) ((.exit 0))) <| .seq (.block 1 (z [ia 21 2 17 19,ln 22 2 21,.e (some 5) (.al 47 (.agg #[(.string ⟨#[]⟩),(i 0)])),s 2 5 22] [1,3,5,17,18,19] <| .seq (z [f 23 0 5,l 24 23,c 25 104 [24],no 26 25,m 27 26,m' 27 false 28 3,f' 27 false 29 0 5,l' 27 false 30 29,.ge 27 false (some 31) (.raw ⟨(some 31),(.lookup 80 (.tmp 28) (.tmp 30) false),3, "check.go:69",#[⟨5,.data⟩,⟨7,.data⟩,⟨4,.guard⟩],some (4,false)⟩),bk' 27 false 32 .gtr 31 0,u 33 27 32,m 34 33,f' 34 false 35 1 5,l' 34 false 36 35,bk' 34 false 37 .lss 36 0,u 38 34 37,m 39 38,f' 39 false 40 1 5,l' 39 false 41 40,bk' 39 false 42 .gtr 41 8,u 43 39 42] [1,3,5,17,18,19,43] <| j 43 (z [mk 2 172] [2] <| .ret) (.skip)) <| q [m 44 3,f 45 0 5,l 46 45,.e none (.raw ⟨none,(.mapUpdate 80 (.tmp 44) (.tmp 46) (.const (i 1))),0, "check.go:72",#[⟨0,.data⟩,⟨2,.data⟩,⟨0,.phase⟩,⟨1,.phase⟩,⟨2,.phase⟩],none⟩)] [1,3,17,18,19])) <| q [bk 47 .add 19 1,m 19 47] [1,3,17,18,19]
def ir73L2:IR:=z [bi 51 .lss 50 49] [1,3,48,49,50,51] <| .seq (j 51 (.skip) ((.exit 2))) <| .seq (.block 3 (z [ia 53 2 48 50,ln 54 2 53,.e (some 7) (.al 47 (.agg #[(.string ⟨#[]⟩),(i 0)])),m 6 50,s 2 7 54] [1,3,6,7,48,49,50] <| .seq (q' [m 55 6,f 56 0 1,l 57 56,le 58 57,bi 59 .geq 55 58,m 60 59,f' 60 false 61 0 1,l' 60 false 62 61,m' 60 false 63 6,ia' 60 false 64 2 62 63,ln' 60 false 65 2 64,ln' 60 false 66 2 7,.gr 60 false (some 67) (.eqa true [(0,.str),(1,.int)] (.t 65) (.t 66)),u 68 60 67] [1,3,48,49,50,68]) <| j 68 (z [mk 2 172] [2] <| .ret) (.skip))) <| q [bk 69 .add 50 1,m 50 69] [1,3,48,49,50]
def ir73L3:IR:=z [bi 75 .lss 74 73] [1,3,72,73,74,75] <| .seq (j 75 (.skip) ((.exit 4))) <| .seq (.block 5 (z [ia 76 3 72 74,ln 77 3 76,.e (some 9) (.al 59 (.agg #[(.string ⟨#[]⟩),(i 0),(.slice none 0 0)])),s 3 9 77] [1,3,9,72,73,74] <| .seq (z [f 78 0 9,l 79 78,c 80 104 [79],no 81 80,m 82 81,m' 82 false 83 3,f' 82 false 84 0 9,l' 82 false 85 84,.ge 82 false (some 86) (.raw ⟨(some 86),(.lookup 80 (.tmp 83) (.tmp 85) false),3, "check.go:81",#[⟨5,.data⟩,⟨7,.data⟩,⟨4,.guard⟩],some (4,false)⟩),bk' 82 false 87 .gtr 86 0,u 88 82 87,m 89 88,f' 89 false 90 1 9,l' 89 false 91 90,bk' 89 false 92 .lss 91 0,u 93 89 92,m 94 93,f' 94 false 95 1 9,l' 94 false 96 95,bk' 94 false 97 .gtr 96 24,u 98 94 97] [1,3,9,72,73,74,98] <| j 98 (z [mk 2 172] [2] <| .ret) (.skip)) <| q [m 99 3,f 100 0 9,l 101 100,.e none (.raw ⟨none,(.mapUpdate 80 (.tmp 99) (.tmp 101) (.const (i 1))),0, "check.go:84",#[⟨0,.data⟩,⟨2,.data⟩,⟨0,.phase⟩,⟨1,.phase⟩,⟨2,.phase⟩],none⟩)] [1,3,72,73,74])) <| q [bk 102 .add 74 1,m 74 102] [1,3,72,73,74]
def ir73L4:IR:=z [bi 107 .lss 106 105] [1,104,105,106,107] <| .seq (j 107 (.skip) ((.exit 6))) <| .seq (.block 7 (z [ia 108 3 104 106,ln 109 3 108,.e (some 11) (.al 59 (.agg #[(.string ⟨#[]⟩),(i 0),(.slice none 0 0)])),s 3 11 109] [1,11,104,105,106] <| z [ln 110 2 1,ln 111 3 11,c 112 106 [110,111],m 12 112] [1,12,104,105,106] <| z [bk 114 .neq 12 0] [1,12,104,105,106,114] <| j 114 (z [m 2 12] [2] <| .ret) (.skip))) <| q [bk 116 .add 106 1,m 106 116] [1,104,105,106]
def ir73:IR:=z [.e (some 1) (.bx 25 (.t 0))] [1] <| .seq (z [ln 13 2 1,c 14 103 [13]] [1,14] <| j 14 (z [mk 2 4] [2] <| .ret) (.skip)) <| z [.e (some 15) (.raw ⟨(some 15),(.makeMap 80 none),80, "check.go:67",#[],none⟩),m 3 15] [1,3] <| .seq (z [f 16 0 1,l 17 16,le 18 17,mk 19 0] [1,3,17,18,19] <| .block 0 (.loop ir73L1)) <| .seq (z [c 48 105 [],le 49 48,mk 50 0] [1,3,48,49,50] <| .block 2 (.loop ir73L2)) <| z [m 70 3,.e none (.raw ⟨none,(.call { callee:=(.builtin .clear),args:=#[(.tmp 70)],argTypes:=#[80]}),0, "check.go:79",#[⟨0,.data⟩],none⟩)] [1,3] <| .seq (z [f 71 1 1,l 72 71,le 73 72,mk 74 0] [1,3,72,73,74] <| .block 4 (.loop ir73L3)) <| .seq (z [f 103 1 1,l 104 103,le 105 104,mk 106 0] [1,104,105,106] <| .block 6 (.loop ir73L4)) <| z [mk 2 0] [2] <| .ret
theorem fit73:Fits Tryz.prog 73 1 (hOf Tryz.f73 ir73) ir73 [.t 2] 117:=.m Tryz.f73 _
def ir74L1:IR:=z [bi 9 .lss 8 7] [0,1,7,8,9] <| .seq (j 9 (.skip) ((.exit 0))) <| .seq (.block 1 (z [m 5 8] [0,1,5,7,8] <| z [m 11 1,m 12 0,m 13 5,ia 14 3 12 13,ln 15 3 14,.e (some 16) (.raw ⟨(some 16),(.call { callee:=(.value (.tmp 11)),args:=#[(.tmp 15)],argTypes:=#[59]}),4, "slices.go:109",#[⟨0,.data⟩,⟨4,.data⟩],none⟩)] [0,1,5,7,8,16] <| j 16 (z [m 4 5] [4] <| .ret) (.skip))) <| q [bk 18 .add 8 1,m 8 18] [0,1,7,8]
def ir74:IR:=z [] [0,1] <| .seq (z [le 7 0,mk 8 0] [0,1,7,8] <| .block 0 (.loop ir74L1)) <| z [mk 4 (-1)] [4] <| .ret
theorem fit74:Fits Tryz.prog 74 2 (hOf Tryz.f74 ir74) ir74 [.t 4] 19:=.m Tryz.f74 _
def ir75:IR:=z [.e (some 2) (.bx 59 (.t 0))] [1,2] <| z [f 4 0 2,l 5 4,l 6 1,bi 7 .eql 5 6,m 3 7] [3] <| .ret
theorem fit75:Fits Tryz.prog 75 2 (hOf Tryz.f75 ir75) ir75 [.t 3] 8:=.m Tryz.f75 _
def ir76:IR:=z [.e (some 1) (.bx 28 (.t 0))] [1] <| .seq (z [f 10 1 1,l 11 10] [1,11] <| j 11 (z [f 12 0 1,l 13 12,bk 14 .quo 13 8,.r (some 15) (.mm true (k 1) (.t 14)),m 5 15] [1,5] <| z [f 17 0 1,l 18 17,c 20 107 [18,5],ex 21 0 20,ex 22 1 20,m 6 21,m 7 22] [5,6,7] <| z [.r (some 24) (.mi 169 (.t 6)),m 2 24,m 3 5,m 4 7] [2,3,4] <| .ret) (.skip)) <| z [f 28 0 1,l 29 28,c 30 108 [29],ex 31 0 30,ex 32 1 30,m 8 31,m 9 32] [1,8,9] <| .seq (q' [m 33 8,.r (some 34) (.mi 172 (.t 33)),f 35 0 1,l 36 35,m 37 9,m 2 34,m 3 36,m 4 37] [2,3,4]) <| .ret
theorem fit76:Fits Tryz.prog 76 1 (hOf Tryz.f76 ir76) ir76 [.t 2,.t 3,.t 4] 38:=.m Tryz.f76 _
def ir77L1:IR:=z [bi 14 .lss 13 12] [2,3,11,12,13,14] <| .seq (j 14 (.skip) ((.exit 0))) <| .seq (.block 1 (z [ia 15 3 11 13,ln 16 3 15,.e (some 5) (.al 59 (.agg #[(.string ⟨#[]⟩),(i 0),(.slice none 0 0)])),s 3 5 16] [2,3,5,11,12,13] <| .dr (r 0 17 (.fa 1 (.t 3)) <| r 1 18 (.l1 (.t 17)) <| r 2 19 (.fa 0 (.t 5)) <| r 3 20 (.l1 (.t 19)) <| r 4 21 (.fa 1 (.t 5)) <| r 5 22 (.l1 (.t 21)) <| r 6 23 (.fa 2 (.t 5)) <| r 7 24 (.l1 (.t 23)) <| .e 8 none (some 25) (.call 64 [(.t 24)]) [1,3,5] <| r 9 26 (.bd #[(.string ⟨#[]⟩),(i 0),(.slice none 0 0)] [(0,1,(.t 20)),(1,1,(.t 22)),(2,1,(.t 25))]) <| .e 10 none (some 27) (.bs 59 1 #[(.string ⟨#[]⟩),(i 0),(.slice none 0 0)] [(0,3,(.t 26))]) [1] <| .e 11 none (some 28) (.ap 59 3 48 #[(.string ⟨#[]⟩),(i 0),(.slice none 0 0)] (.t 18) (.t 27)) [] <| r 12 29 (.fa 1 (.t 3)) <| .e 13 none none (.st 1 (.t 29) (.t 28)) [] <| .nil) [2,3,11,12,13])) <| q [bk 30 .add 13 1,m 13 30] [2,3,11,12,13]
def ir77:IR:=z [.e (some 1) (.bx 25 (.t 0)),.e (some 2) (.al 25 (.agg #[(.slice none 0 0),(.slice none 0 0)]))] [1,2] <| z [f 6 0 1,l 7 6,c 8 62 [7],.r (some 9) (.bd #[(.slice none 0 0),(.slice none 0 0)] [(0,1,(.t 8))]),.e (some 3) (.al 25 (.agg #[(.slice none 0 0),(.slice none 0 0)])),s 2 3 9] [1,2,3] <| .seq (z [f 10 1 1,l 11 10,le 12 11,mk 13 0] [2,3,11,12,13] <| .block 0 (.loop ir77L1)) <| z [ln 31 2 3,s 2 2 31] [2] <| .ret
theorem fit77:Fits Tryz.prog 77 1 (hOf Tryz.f77 ir77) ir77 [.n 2 2] 32:=.m Tryz.f77 _
def ir78:IR:=z [] [] <| z [.r (some 1) (.bd #[.nilFunc,.nilFunc] [(0,1,(.c (.func (.func 109) #[] #[]))),(1,1,(.c (.func (.func 110) #[] #[])))]),.r (some 2) (.bd #[.nilFunc,.nilFunc] [(0,1,(.c (.func (.func 109) #[] #[]))),(1,1,(.c (.func (.func 113) #[] #[])))]),.r (some 3) (.bd #[.nilFunc,.nilFunc] [(0,1,(.c (.func (.func 114) #[] #[]))),(1,1,(.c (.func (.func 115) #[] #[])))]),.r (some 4) (.bd #[.nilFunc,.nilFunc] [(0,1,(.c (.func (.func 109) #[] #[]))),(1,1,(.c (.func (.func 117) #[] #[])))]),.r (some 5) (.bd #[.nilFunc,.nilFunc] [(0,1,(.c (.func (.func 109) #[] #[]))),(1,1,(.c (.func (.func 119) #[] #[])))]),.r (some 6) (.bd #[.nilFunc,.nilFunc] [(0,1,(.c (.func (.func 114) #[] #[]))),(1,1,(.c (.func (.func 120) #[] #[])))]),.r (some 7) (.bd #[.nilFunc,.nilFunc] [(0,1,(.c (.func (.func 109) #[] #[]))),(1,1,(.c (.func (.func 121) #[] #[])))]),.r (some 8) (.bd #[.nilFunc,.nilFunc] [(0,1,(.c (.func (.func 122) #[] #[]))),(1,1,(.c (.func (.func 123) #[] #[])))]),.r (some 9) (.bd #[.nilFunc,.nilFunc] [(0,1,(.c (.func (.func 114) #[] #[]))),(1,1,(.c (.func (.func 124) #[] #[])))]),.r (some 10) (.bd #[.nilFunc,.nilFunc] [(0,1,(.c (.func (.func 109) #[] #[]))),(1,1,(.c (.func (.func 125) #[] #[])))]),.r (some 11) (.bd #[.nilFunc,.nilFunc] [(0,1,(.c (.func (.func 109) #[] #[]))),(1,1,(.c (.func (.func 126) #[] #[])))]),.r (some 12) (.bd #[.nilFunc,.nilFunc] [(0,1,(.c (.func (.func 114) #[] #[]))),(1,1,(.c (.func (.func 127) #[] #[])))]),.r (some 13) (.bd #[.nilFunc,.nilFunc] [(0,1,(.c (.func (.func 109) #[] #[]))),(1,1,(.c (.func (.func 128) #[] #[])))]),.r (some 14) (.bd #[.nilFunc,.nilFunc] [(0,1,(.c (.func (.func 109) #[] #[]))),(1,1,(.c (.func (.func 129) #[] #[])))]),.r (some 15) (.bd #[.nilFunc,.nilFunc] [(0,1,(.c (.func (.func 109) #[] #[]))),(1,1,(.c (.func (.func 130) #[] #[])))]),.r (some 16) (.bd #[.nilFunc,.nilFunc] [(0,1,(.c (.func (.func 109) #[] #[]))),(1,1,(.c (.func (.func 131) #[] #[])))]),.r (some 17) (.bd #[.nilFunc,.nilFunc] [(0,1,(.c (.func (.func 109) #[] #[]))),(1,1,(.c (.func (.func 133) #[] #[])))]),.e (some 18) (.bs 177 18 #[.nilFunc,.nilFunc,.nilFunc,.nilFunc,.nilFunc,.nilFunc,.nilFunc,.nilFunc,.nilFunc,.nilFunc,.nilFunc,.nilFunc,.nilFunc,.nilFunc,.nilFunc,.nilFunc,.nilFunc,.nilFunc,.nilFunc,.nilFunc,.nilFunc,.nilFunc,.nilFunc,.nilFunc,.nilFunc,.nilFunc,.nilFunc,.nilFunc,.nilFunc,.nilFunc,.nilFunc,.nilFunc,.nilFunc,.nilFunc,.nilFunc,.nilFunc] [(2,2,(.t 1)),(4,2,(.t 2)),(6,2,(.t 3)),(8,2,(.t 4)),(10,2,(.t 5)),(12,2,(.t 6)),(14,2,(.t 7)),(16,2,(.t 8)),(18,2,(.t 9)),(20,2,(.t 10)),(22,2,(.t 11)),(24,2,(.t 12)),(26,2,(.t 13)),(28,2,(.t 14)),(30,2,(.t 15)),(32,2,(.t 16)),(34,2,(.t 17))]),m 0 18] [0] <| .ret
theorem fit78:Fits Tryz.prog 78 0 (hOf Tryz.f78 ir78) ir78 [.t 0] 19:=.m Tryz.f78 _
def ir79B1:IR:=.block 2 (.dr (r 0 95 (.l1 (.t 1)) <| r 1 96 (.l1 (.t 1)) <| r 2 97 (.nn (.t 96)) <| r 3 98 (.fa 11 (.t 97)) <| r 4 99 (.l1 (.t 98)) <| r 5 100 (.mv (.t 6)) <| .e 6 none (some 101) (.bs 3 1 #[(i 0)] [(0,1,(.t 100))]) [0,1,4] <| .e 7 none (some 102) (.ap 3 1 8 #[(i 0)] (.t 99) (.t 101)) [0] <| r 8 103 (.nn (.t 95)) <| r 9 104 (.fa 11 (.t 103)) <| .e 10 none none (.st 1 (.t 104) (.t 102)) [] <| .nil) [])
def ir79:K:=.seq (.ir (q [.e (some 1) (.bx 68 (.t 0))] [1])) <| .seq (.ir (q [l 7 1,n 8 7,f 9 11 8,l 10 9,le 11 10,bk 12 .sub 11 1,m 2 12] [1,2])) <| .seq (.ir (.dr (r 0 14 (.l1 (.t 1)) <| r 1 15 (.l1 (.t 1)) <| r 2 16 (.nn (.t 15)) <| r 3 17 (.fa 11 (.t 16)) <| r 4 18 (.l1 (.t 17)) <| r 5 19 (.mv (.t 2)) <| r 6 20 (.ia 1 (.t 18) (.t 19)) <| r 7 21 (.l1 (.t 20)) <| .e2 8 (some 22) (.call 134 [(.t 14),(.t 21)]) [] (r 9 13 (.mv (.t 22)) <| r 10 23 (.ex 0 (.t 13)) <| r 11 24 (.ex 1 (.t 13)) <| .e 12 none (some 4) (.al 104 (.agg #[(i 0),(i 0),(.slice none 0 0)])) [0,1,4,7] <| r 13 3 (.mv (.t 23)) <| .e 14 none none (.st 3 (.t 4) (.t 24)) [] <| .nil) 12 (some 4) (.al 104 (.agg #[(i 0),(i 0),(.slice none 0 0)])) [0,1,4,7]
   (.e 8 none (some 22) (.call 134 [(.t 14),(.t 21)]) [] <| r 9 13 (.mv (.t 22)) <| r 10 23 (.ex 0 (.t 13)) <| r 11 24 (.ex 1 (.t 13)) <| r 13 3 (.mv (.t 23)) <| .e 14 none none (.st 3 (.t 4) (.t 24)) [] <| .nil)) [1,2,4])) <| .seq (.ir (z [f 25 0 4,l 26 25] [1,2,4,26] <| .block 0 (z [bk 46 .eql 26 1,m 45 46] [1,2,4,26,45] <| j 45 (.dr (r 0 47 (.l1 (.t 1)) <| r 1 48 (.l1 (.t 1)) <| r 2 49 (.nn (.t 48)) <| r 3 50 (.fa 13 (.t 49)) <| r 4 51 (.l1 (.t 50)) <| r 5 52 (.fa 1 (.t 4)) <| r 6 53 (.l1 (.t 52)) <| r 7 54 (.bd #[(.string ⟨#[]⟩),(i 0)] [(1,1,(.t 53))]) <| .e 8 none (some 55) (.bs 42 1 #[(.string ⟨#[]⟩),(i 0)] [(0,2,(.t 54))]) [0,1,4] <| .e 9 none (some 56) (.ap 42 2 24 #[(.string ⟨#[]⟩),(i 0)] (.t 51) (.t 55)) [0] <| r 10 57 (.nn (.t 47)) <| r 11 58 (.fa 13 (.t 57)) <| .e 12 none none (.st 1 (.t 58) (.t 56)) [] <| .nil) [1,2,4]) (z [bk 60 .eql 26 2,m 59 60] [1,2,4,59] <| j 59 (.dr (r 0 61 (.l1 (.t 1)) <| r 1 62 (.l1 (.t 1)) <| r 2 63 (.nn (.t 62)) <| r 3 64 (.fa 13 (.t 63)) <| r 4 65 (.l1 (.t 64)) <| r 5 66 (.l1 (.t 1)) <| r 6 67 (.nn (.t 66)) <| r 7 68 (.fa 0 (.t 67)) <| r 8 69 (.fa 0 (.t 68)) <| r 9 70 (.l1 (.t 69)) <| r 10 71 (.fa 1 (.t 4)) <| r 11 72 (.l1 (.t 71)) <| r 12 73 (.ia 2 (.t 70) (.t 72)) <| r 13 74 (.fa 0 (.t 73)) <| r 14 75 (.l1 (.t 74)) <| r 15 76 (.bd #[(.string ⟨#[]⟩),(i 0)] [(0,1,(.t 75))]) <| .e 16 none (some 77) (.bs 42 1 #[(.string ⟨#[]⟩),(i 0)] [(0,2,(.t 76))]) [0,1,4] <| .e 17 none (some 78) (.ap 42 2 24 #[(.string ⟨#[]⟩),(i 0)] (.t 65) (.t 77)) [0] <| r 18 79 (.nn (.t 61)) <| r 19 80 (.fa 13 (.t 79)) <| .e 20 none none (.st 1 (.t 80) (.t 78)) [] <| .nil) [1,2,4]) (.seq (.dr (r 0 27 (.l1 (.t 1)) <| r 1 28 (.l1 (.t 1)) <| r 2 29 (.nn (.t 28)) <| r 3 30 (.fa 10 (.t 29)) <| r 4 31 (.l1 (.t 30)) <| r 5 32 (.l1 (.t 1)) <| r 6 33 (.nn (.t 32)) <| r 7 34 (.fa 11 (.t 33)) <| r 8 35 (.l1 (.t 34)) <| r 9 36 (.mv (.t 2)) <| r 10 37 (.ia 1 (.t 35) (.t 36)) <| r 11 38 (.l1 (.t 37)) <| r 12 39 (.bd #[(.bool false),(i 0),(i 0),(.slice none 0 0),(.slice none 0 0),(i 0)] [(5,1,(.t 38))]) <| .e 13 none (some 40) (.bx 151 (.t 39)) [0,1,4] <| .e 14 none (some 41) (.bs 152 1 #[(.pointer none)] [(0,1,(.t 40))]) [0,1,4] <| .e 15 none (some 42) (.ap 152 1 8 #[(.pointer none)] (.t 31) (.t 41)) [0] <| r 16 43 (.nn (.t 27)) <| r 17 44 (.fa 10 (.t 43)) <| .e 18 none none (.st 1 (.t 44) (.t 42)) [] <| .nil) []) <| .ret))))) <| .seq (.ir (q' [l 81 1,l 82 1,n 83 82,f 84 11 83,l 85 84,m 86 2,.r (some 87) (.sl 1 (.t 85) none (some (.t 86)) none),n 88 81,f 89 11 88,s 1 89 87] [1,4])) <| .seq (.seq (.ir (q [f 90 2 4,l 91 90,c 92 135 [91]] [1,92])) <| .blk 1 (.rng 92 93 94 6 ir79B1)) <| .ir (z [l 105 1,n 106 105,f 107 11 106,l 108 107,le 109 108,bk 110 .eql 109 0] [1,110] <| j 110 (q [l 111 1,n 112 111,f 113 15 112,.e none (.st 1 (.t 113) (k 2))] []) (.skip))
theorem fit79:FitsK Tryz.prog 79 1 [(0,[1],[]),(1,[1,2],[]),(2,[1,2,4],[0,0,2,6,14,0,62,126,255,511,1023,1023,0,6143,16383]),(3,[1,2,4,26],[]),(4,[],[0,0,2,6,14,0,32,96,224,0,992,2016,4064,8160,16352,32766,65535,131071,262143]),(5,[1,2,4,26,45],[]),(6,[1,2,4],[0,0,2,6,14,0,32,96,224,510,1023,2047,4095]),(7,[1,2,4,59],[]),(8,[1,2,4],[0,0,2,6,14,0,32,96,224,480,0,1024,4064,8160,16352,32736,65504,131070,262143,524287,1048575]),(9,[1,4],[0,0,2,6,14,0,62,127,255,511]),(10,[1,92],[]),(12,[],[0,0,2,6,14,0,32,126,255,511,1023]),(13,[1,110],[]),(14,[],[])] ir79 [] 114:=
 ⟨Tryz.f79,_,rfl,rfl,rfl,by decide,by kernel_rfl,by kernel_rfl⟩
def ir80:IR:=.seq (.dr (r 0 7 (.mv (.t 0)) <| r 1 8 (.nn (.t 7)) <| r 2 9 (.fa 0 (.t 8)) <| r 3 10 (.fa 1 (.t 9)) <| r 4 11 (.l1 (.t 10)) <| r 5 12 (.mv (.t 1)) <| r 6 13 (.nn (.t 12)) <| r 7 14 (.fa 1 (.t 13)) <| r 8 15 (.l1 (.t 14)) <| r 9 16 (.ia 3 (.t 11) (.t 15)) <| r 10 17 (.fa 2 (.t 16)) <| r 11 18 (.l1 (.t 17)) <| r 12 19 (.mv (.t 1)) <| r 13 20 (.nn (.t 19)) <| r 14 21 (.fa 2 (.t 20)) <| r 15 22 (.l1 (.t 21)) <| r 16 23 (.ia 3 (.t 18) (.t 22)) <| r 17 24 (.ln 3 (.t 23)) <| .e 18 none (some 4) (.al 61 (.agg #[(i 0),(i 0),(i 0)])) [4,8,11,15,17] <| .e 19 none none (.st 3 (.t 4) (.t 24)) [] <| .nil) [0,1,4]) <| .seq (.dr (r 0 25 (.mv (.t 0)) <| r 1 26 (.nn (.t 25)) <| r 2 27 (.fa 18 (.t 26)) <| r 3 28 (.l1 (.t 27)) <| r 4 29 (.fa 0 (.t 4)) <| r 5 30 (.l1 (.t 29)) <| r 6 31 (.ia 2 (.t 28) (.t 30)) <| r 7 32 (.ln 2 (.t 31)) <| .e 8 none (some 5) (.al 177 (.agg #[.nilFunc,.nilFunc])) [3,5,7] <| .e 9 none none (.st 2 (.t 5) (.t 32)) [] <| .nil) [0,1,4,5]) <| .seq (z [f 33 0 5,l 34 33,ln 35 3 4,.e (some 36) (.raw ⟨(some 36),(.call { callee:=(.value (.tmp 34)),args:=#[(.tmp 35)],argTypes:=#[61]}),3, "run.go:58",#[⟨1,.data⟩,⟨2,.data⟩],none⟩),m 6 36] [0,1,4,5,6] <| z [bk 38 .gtr 6 0,m' 38 true 40 0,m' 38 true 41 6,.ge 38 true (some 42) (.call 136 [(.t 40),(.t 41)]),no' 38 true 43 42,a 44 38 43] [0,1,4,5,44] <| j 44 (.ret) (.skip)) <| z [n 46 1,f 47 2 46,l 48 47,bk 49 .add 48 1,n 50 1,f 51 2 50,s 1 51 49] [0,1,4,5] <| q [f 52 1 5,l 53 52,m 54 0,m 55 1,ln 56 3 4,.e (some 57) (.raw ⟨(some 57),(.call { callee:=(.value (.tmp 53)),args:=#[(.tmp 54),(.tmp 55),(.tmp 56)],argTypes:=#[68,152,61]}),0, "run.go:62",#[⟨1,.data⟩,⟨2,.data⟩,⟨3,.data⟩,⟨4,.data⟩],none⟩)] []
theorem fit80:Fits Tryz.prog 80 2 (hOf Tryz.f80 ir80) ir80 [] 58:=.m Tryz.f80 _
def ir81:IR:=z [n 9 1,f 10 5 9,l 11 10,c 12 134 [0,11],ex 13 0 12,ex 14 1 12,.e (some 5) (.al 104 (.agg #[(i 0),(i 0),(.slice none 0 0)])),m 4 13,s 3 5 14] [0,1,4,5] <| z [f 15 0 5,l 16 15] [0,1,4,5,16] <| .block 0 (z [bk 20 .eql 16 3,m 19 20] [0,1,4,5,16,19] <| j 19 (z [n 23 1,f 24 4 23,l 25 24,.e (some 27) (.bs 3 1 #[(i 0)] [(0,1,(.t 4))]),.e (some 28) (.ap 3 1 8 #[(i 0)] (.t 25) (.t 27)),n 29 1,f 30 4 29,s 1 30 28] [1,5] <| q [f 32 2 5,l 33 32,.r (some 34) (.ia 1 (.t 33) (k 0)),l 35 34,n 36 1,f 37 5 36,s 1 37 35] []) (z [bk 39 .eql 16 4,m 38 39] [0,1,4,5,16,38] <| j 38 (.seq (q' [m 40 1,n 41 40,f 42 4 41,l 43 42,le 44 43,m 45 0,n 46 45,f 47 0 46,f 48 1 47,l 49 48,f 50 1 5,l 51 50,ia 52 3 49 51,f 53 1 52,l 54 53,bi 55 .geq 44 54] [0,1,4,5,55]) <| j 55 (q [f 59 1 5,l 60 59,c 61 137 [0,1,4,60]] []) (q [c 64 138 [0,1]] [])) (.seq (z [bk 66 .eql 16 1,m 65 66] [0,1,5,16,65] <| j 65 (.skip) (q [bk 67 .eql 16 2,m 65 67] [0,1,5,16,65])) <| j 65 (z [n 69 1,f 70 4 69,l 71 70,le 72 71,bk 73 .gtr 72 0] [0,73] <| j 73 (q [.e (some 75) (.call 132 [(.t 0),(k 5)])] []) (q [c 77 139 [0]] [])) (z [bk 79 .eql 16 8,m 78 79] [0,1,5,16,78] <| j 78 (q [f 82 1 5,l 83 82,c 84 140 [0,1,83]] []) (z [bk 86 .eql 16 6,m 85 86] [0,85] <| j 85 (q [.e (some 88) (.call 132 [(.t 0),(k 5)])] []) (q [.e (some 18) (.call 132 [(.t 0),(k 4)])] []))))))
theorem fit81:Fits Tryz.prog 81 2 (hOf Tryz.f81 ir81) ir81 [] 89:=.m Tryz.f81 _
def ir82L1:IR:=z [bi 17 .lss 16 15] [0,3,14,15,16,17] <| .seq (j 17 (.skip) ((.exit 0))) <| .seq (.block 1 (z [ia 18 1 14 16,l 19 18,m 5 19] [0,3,5,14,15,16] <| z [n 22 5,f 23 4 22,l 24 23,.e (some 25) (.ap 3 1 8 #[(i 0)] (.t 3) (.t 24)),m 3 25] [0,3,5,14,15,16] <| z [n 28 5,f 29 3 28,l 30 29,.e (some 31) (.ap 3 1 8 #[(i 0)] (.t 3) (.t 30)),m 3 31] [0,3,5,14,15,16] <| q [n 34 5,f 35 5 34,l 36 35,.e (some 37) (.bs 3 1 #[(i 0)] [(0,1,(.t 36))]),.e (some 38) (.ap 3 1 8 #[(i 0)] (.t 3) (.t 37)),m 3 38] [0,3,14,15,16])) <| q [bk 39 .add 16 1,m 16 39] [0,3,14,15,16]
def ir82:IR:=z [] [0] <| z [n 7 0,f 8 9 7,l 9 8,c 10 39 [9],m 3 10] [0,3] <| .seq (z [n 12 0,f 13 10 12,l 14 13,le 15 14,mk 16 0] [0,3,14,15,16] <| .block 0 (.loop ir82L1)) <| z [n 42 0,f 43 11 42,l 44 43,.e (some 45) (.ap 3 1 8 #[(i 0)] (.t 3) (.t 44)),m 2 45] [2] <| .ret
theorem fit82:Fits Tryz.prog 82 1 (hOf Tryz.f82 ir82) ir82 [.t 2] 46:=.m Tryz.f82 _
def ir83L1:IR:=z [bi 20 .lss 19 18] [0,1,17,18,19,20] <| .seq (j 20 (.skip) ((.exit 0))) <| .seq (.block 1 (z [ia 21 1 17 19,l 22 21,m 5 22] [0,1,5,17,18,19] <| z [n 25 5,f 26 4 25,l 27 26,.e (some 29) (.cp 1 (.t 27) (.t 1)),.r (some 30) (.sl 1 (.t 1) (some (.t 29)) none none),m 1 30] [0,1,5,17,18,19] <| z [n 33 5,f 34 3 33,l 35 34,.e (some 37) (.cp 1 (.t 35) (.t 1)),.r (some 38) (.sl 1 (.t 1) (some (.t 37)) none none),m 1 38] [0,1,5,17,18,19] <| q' [m 39 5,m 40 1,.r (some 41) (.ia 1 (.t 40) (k 0)),l 42 41,m 43 1,.r (some 44) (.sl 1 (.t 43) (some (k 1)) none none),n 45 39,f 46 5 45,s 1 46 42,m 1 44] [0,1,17,18,19])) <| q [bk 47 .add 19 1,m 19 47] [0,1,17,18,19]
def ir83:IR:=z [n 8 0,f 9 9 8,l 10 9,.e (some 12) (.cp 1 (.t 10) (.t 1)),.r (some 13) (.sl 1 (.t 1) (some (.t 12)) none none),m 1 13] [0,1] <| .seq (z [n 15 0,f 16 10 15,l 17 16,le 18 17,mk 19 0] [0,1,17,18,19] <| .block 0 (.loop ir83L1)) <| q [n 49 0,f 50 11 49,l 51 50,.e (some 53) (.cp 1 (.t 51) (.t 1))] []
theorem fit83:Fits Tryz.prog 83 2 (hOf Tryz.f83 ir83) ir83 [] 54:=.m Tryz.f83 _
def ir103L1:IR:=z [bi 10 .lss 9 8] [1,3,7,8,9,10] <| .seq (j 10 (.skip) ((.exit 0))) <| .seq (.block 1 (z [ia 11 3 7 9,ln 12 3 11,.e (some 5) (.al 59 (.agg #[(.string ⟨#[]⟩),(i 0),(.slice none 0 0)])),s 3 5 12] [1,3,5,7,8,9] <| z [f 14 2 5,l 15 14,le 16 15,bi 17 .add 3 16,m 3 17] [1,3,5,7,8,9] <| z [f 18 2 5,l 19 18,le 20 19,bk 21 .gtr 20 8000] [1,3,7,8,9,21] <| j 21 (z [.r (some 2) (.mv (.c (.bool true)))] [2] <| .ret) (.skip))) <| q [bk 22 .add 9 1,m 9 22] [1,3,7,8,9]
def ir103:IR:=z [.e (some 1) (.bx 25 (.t 0))] [1] <| z [mk 3 0] [1,3] <| .seq (z [f 6 1 1,l 7 6,le 8 7,mk 9 0] [1,3,7,8,9] <| .block 0 (.loop ir103L1)) <| z [f 23 0 1,l 24 23,le 25 24,bk 26 .gtr 25 2000,f' 26 false 28 1 1,l' 26 false 29 28,le' 26 false 30 29,bk' 26 false 31 .gtr 30 2000,u 32 26 31,m' 32 false 34 3,bk' 32 false 35 .gtr 34 200000,u 36 32 35,m 2 36] [2] <| .ret
theorem fit103:Fits Tryz.prog 103 1 (hOf Tryz.f103 ir103) ir103 [.t 2] 37:=.m Tryz.f103 _
def ir104L1:IR:=z [bi 7 .lss 6 5] [0,5,6,7] <| .seq (j 7 (.skip) ((.exit 0))) <| .seq (.block 1 (z [m 3 6] [0,3,5,6] <| z [.r (some 11) (.ixs (.t 0) (.t 3)),.r (some 12) (.bi .lss (.t 11) (.c (.int .u8 32))),m' 12 false 14 0,m' 12 false 15 3,.gr 12 false (some 16) (.ixs (.t 14) (.t 15)),.gr 12 false (some 17) (.bi .gtr (.t 16) (.c (.int .u8 126))),u 18 12 17] [0,5,6,18] <| j 18 (z [.r (some 2) (.mv (.c (.bool false)))] [2] <| .ret) (.skip))) <| q [bk 19 .add 6 1,m 6 19] [0,5,6]
def ir104:IR:=z [] [0] <| .seq (z [.r (some 5) (.lns (.t 0)),mk 6 0] [0,5,6] <| .block 0 (.loop ir104L1)) <| z [.r (some 21) (.lns (.t 0)),bk 22 .geq 21 1,m' 22 true 24 0,.gr 22 true (some 25) (.lns (.t 24)),bk' 22 true 26 .leq 25 4096,a 27 22 26,m 2 27] [2] <| .ret
theorem fit104:Fits Tryz.prog 104 1 (hOf Tryz.f104 ir104) ir104 [.t 2] 28:=.m Tryz.f104 _
def ir105:IR:=z [] [] <| z [.r (some 1) (.bd #[(.string ⟨#[]⟩),(i 0)] [(0,1,(.c (.string ⟨#[70,97,108,115,101]⟩)))]),.r (some 2) (.bd #[(.string ⟨#[]⟩),(i 0)] [(0,1,(.c (.string ⟨#[84,114,117,101]⟩)))]),.r (some 3) (.bd #[(.string ⟨#[]⟩),(i 0)] [(0,1,(.c (.string ⟨#[85,110,105,116]⟩)))]),.r (some 4) (.bd #[(.string ⟨#[]⟩),(i 0)] [(0,1,(.c (.string ⟨#[78,105,108]⟩)))]),.r (some 5) (.bd #[(.string ⟨#[]⟩),(i 0)] [(0,1,(.c (.string ⟨#[67,111,110,115]⟩))),(1,1,(k 2))]),.r (some 6) (.bd #[(.string ⟨#[]⟩),(i 0)] [(0,1,(.c (.string ⟨#[80,97,105,114]⟩))),(1,1,(k 2))]),.r (some 7) (.bd #[(.string ⟨#[]⟩),(i 0)] [(0,1,(.c (.string ⟨#[84,114,105,112,108,101]⟩))),(1,1,(k 3))]),.e (some 8) (.bs 47 7 #[(.string ⟨#[]⟩),(i 0),(.string ⟨#[]⟩),(i 0),(.string ⟨#[]⟩),(i 0),(.string ⟨#[]⟩),(i 0),(.string ⟨#[]⟩),(i 0),(.string ⟨#[]⟩),(i 0),(.string ⟨#[]⟩),(i 0)] [(0,2,(.t 1)),(2,2,(.t 2)),(4,2,(.t 3)),(6,2,(.t 4)),(8,2,(.t 5)),(10,2,(.t 6)),(12,2,(.t 7))]),m 0 8] [0] <| .ret
theorem fit105:Fits Tryz.prog 105 0 (hOf Tryz.f105 ir105) ir105 [.t 0] 9:=.m Tryz.f105 _
def ir106L1:IR:=z [bi 23 .lss 22 21] [2,3,20,21,22,23] <| .seq (j 23 (.skip) ((.exit 0))) <| .seq (.block 1 (z [ia 25 3 20 22,ln 26 3 25,.e (some 6) (.al 61 (.agg #[(i 0),(i 0),(i 0)])),m 5 22,s 3 6 26] [2,3,5,6,20,21,22] <| z [f 28 0 6,l 29 28,c 30 147 [29],ex 31 0 30,ex 32 1 30,.e (some 7) (.al 194 (.agg #[(.string ⟨#[]⟩),(i 0),(i 0)])),s 3 7 31,m 8 32] [2,3,5,6,7,8,20,21,22] <| .seq (z [no 34 8] [2,3,5,6,7,20,21,22,34] <| j 34 (z [mk 4 172] [4] <| .ret) (.skip)) <| .seq (.dr (r 0 35 (.ln 2 (.t 2)) <| r 1 36 (.ln 3 (.t 3)) <| r 2 37 (.mv (.t 5)) <| r 3 38 (.fa 1 (.t 6)) <| r 4 39 (.l1 (.t 38)) <| r 5 40 (.fa 1 (.t 7)) <| r 6 41 (.l1 (.t 40)) <| r 8 43 (.ln 2 (.t 2)) <| r 9 44 (.ln 3 (.t 3)) <| r 10 45 (.mv (.t 5)) <| r 11 46 (.fa 2 (.t 6)) <| r 12 47 (.l1 (.t 46)) <| r 13 48 (.fa 2 (.t 7)) <| r 14 49 (.l1 (.t 48)) <| .e 7 none (some 42) (.call 148 [(.t 35),(.t 36),(.t 37),(.t 39),(.t 41)]) [8,9,12,14] <| .e 15 none (some 50) (.call 148 [(.t 43),(.t 44),(.t 45),(.t 47),(.t 49)]) [] <| r 16 9 (.mv (.t 42)) <| r 17 10 (.mv (.t 50)) <| .nil) [2,3,9,10,20,21,22]) <| .seq (z [bk 52 .eql 9 172,m' 52 false 54 10,bk' 52 false 55 .eql 54 172,u 56 52 55] [2,3,9,10,20,21,22,56] <| j 56 (z [mk 4 172] [4] <| .ret) (.skip)) <| z [bk 58 .neq 9 0,m' 58 false 60 10,bk' 58 false 61 .neq 60 0,u 62 58 61] [2,3,20,21,22,62] <| j 62 (z [mk 4 174] [4] <| .ret) (.skip))) <| q [bk 63 .add 22 1,m 22 63] [2,3,20,21,22]
def ir106L2:IR:=z [bi 81 .lss 80 79] [2,3,11,78,79,80,81] <| .seq (j 81 (.skip) ((.exit 2))) <| .seq (.block 3 (z [ia 83 3 78 80,ln 84 3 83,.e (some 13) (.al 61 (.agg #[(i 0),(i 0),(i 0)])),m 12 80,s 3 13 84] [2,3,11,12,13,78,79,80] <| z [ia 87 1 11 12,l 88 87,m 14 88] [2,3,11,12,13,14,78,79,80] <| .seq (z [bk 90 .eql 14 0] [2,3,11,12,13,14,78,79,80,90] <| j 90 (z [mk 4 174] [4] <| .ret) (.skip)) <| z [ln 92 2 2,ln 93 3 13,c 95 149 [92,93,14],ex 96 0 95,ex 97 1 95,m 15 96,m 16 97] [2,3,11,12,13,15,16,78,79,80] <| .seq (z [no 99 16] [2,3,11,12,13,15,78,79,80,99] <| j 99 (z [mk 4 173] [4] <| .ret) (.skip)) <| z [f 100 0 13,l 101 100,bk 102 .neq 101 13,f' 102 true 104 0 13,l' 102 true 105 104,bk' 102 true 106 .neq 105 16,a 107 102 106,f' 107 true 109 0 13,l' 107 true 110 109,bk' 107 true 111 .neq 110 17,a 112 107 111,m 17 112] [2,3,11,12,13,15,17,78,79,80] <| .seq (z [m' 17 true 115 12,bk' 17 true 116 .add 115 1,f' 17 true 117 2 3,l' 17 true 118 117,le' 17 true 119 118,bi' 17 true 120 .eql 116 119,a 121 17 120] [2,3,11,12,13,15,17,78,79,80,121] <| j 121 (z [mk 4 174] [4] <| .ret) (.skip)) <| .seq (z [m' 17 true 124 11,m' 17 true 125 12,bk' 17 true 126 .add 125 1,m' 17 true 127 15,.ge 17 true (some 128) (.call 150 [(.t 124),(.t 126),(.t 127)]),no' 17 true 129 128,a 130 17 129] [2,3,11,13,15,78,79,80,130] <| j 130 (z [mk 4 173] [4] <| .ret) (.skip)) <| z [mk 18 0] [2,3,11,13,15,18,78,79,80] <| .seq (z [f 131 0 13,l 132 131] [2,3,11,13,15,18,78,79,80,132] <| .block 4 (z [bk 134 .eql 132 13,m 133 134] [2,3,11,13,15,18,78,79,80,132,133] <| j 133 (q [f 135 1 13,l 136 135,m 18 136] [2,3,11,15,18,78,79,80]) (.seq (z [bk 138 .eql 132 14,m 137 138] [2,3,11,13,15,18,78,79,80,132,137] <| j 137 (.skip) (q [bk 139 .eql 132 15,m 137 139] [2,3,11,13,15,18,78,79,80,137])) <| j 137 (q [f 140 2 13,l 141 140,m 18 141] [2,3,11,15,18,78,79,80]) (.skip)))) <| z [bk 143 .gtr 18 0,m' 143 true 145 11,m' 143 true 146 18,m' 143 true 147 15,.ge 143 true (some 148) (.call 150 [(.t 145),(.t 146),(.t 147)]),no' 143 true 149 148,a 150 143 149] [2,3,11,78,79,80,150] <| j 150 (z [mk 4 173] [4] <| .ret) (.skip))) <| q [bk 151 .add 80 1,m 80 151] [2,3,11,78,79,80]
def ir106:IR:=z [.e (some 2) (.bx 25 (.t 0)),.e (some 3) (.bx 59 (.t 1))] [2,3] <| .seq (z [f 19 2 3,l 20 19,le 21 20,mk 22 0] [2,3,20,21,22] <| .block 0 (.loop ir106L1)) <| .seq (z [f 64 2 3,l 65 64,le 66 65,bk 67 .eql 66 0] [2,3,67] <| j 67 (z [mk 4 174] [4] <| .ret) (.skip)) <| z [f 68 2 3,l 69 68,le 70 69,.e (some 71) (.ms 3 1 8 #[(i 0)] (.t 70) (.t 70)),m 11 71] [2,3,11] <| z [f 73 1 3,l 74 73,bk 75 .add 74 1,.r (some 76) (.ia 1 (.t 11) (k 0)),s 1 76 75] [2,3,11] <| .seq (z [f 77 2 3,l 78 77,le 79 78,mk 80 0] [2,3,11,78,79,80] <| .block 2 (.loop ir106L2)) <| z [mk 4 0] [4] <| .ret
theorem fit106:Fits Tryz.prog 106 2 (hOf Tryz.f106 ir106) ir106 [.t 4] 152:=.m Tryz.f106 _
def ir109:IR:=z [.e (some 1) (.bx 61 (.t 0))] [] <| z [mk 2 0] [2] <| .ret
theorem fit109:Fits Tryz.prog 109 1 (hOf Tryz.f109 ir109) ir109 [.t 2] 3:=.m Tryz.f109 _
def ir110:IR:=z [.e (some 5) (.bx 61 (.t 2))] [1,5] <| q [f 8 1 5,l 9 8,c 10 112 [1,9],c 11 111 [1,10]] []
theorem fit110:Fits Tryz.prog 110 3 (hOf Tryz.f110 ir110) ir110 [] 12:=.m Tryz.f110 _
def ir111:IR:=q [n 6 0,f 7 3 6,l 8 7,.e (some 10) (.bs 3 1 #[(i 0)] [(0,1,(.t 1))]),.e (some 11) (.ap 3 1 8 #[(i 0)] (.t 8) (.t 10)),n 12 0,f 13 3 12,s 1 13 11] []
theorem fit111:Fits Tryz.prog 111 2 (hOf Tryz.f111 ir111) ir111 [] 14:=.m Tryz.f111 _
def ir112:IR:=z [] [0,1] <| .seq (q' [m 5 0,n 6 5,f 7 3 6,l 8 7,m 9 0,n 10 9,f 11 3 10,l 12 11,le 13 12,bk 14 .sub 13 1,m 15 1,bi 16 .sub 14 15,ia 17 1 8 16,l 18 17,m 4 18] [4]) <| .ret
theorem fit112:Fits Tryz.prog 112 2 (hOf Tryz.f112 ir112) ir112 [.t 4] 19:=.m Tryz.f112 _
def ir113:IR:=z [.e (some 5) (.bx 61 (.t 2))] [0,1,5] <| q' [m 6 1,m 7 0,n 8 7,f 9 9 8,l 10 9,f 11 1 5,l 12 11,ia 13 1 10 12,l 14 13,c 15 111 [6,14]] []
theorem fit113:Fits Tryz.prog 113 3 (hOf Tryz.f113 ir113) ir113 [] 16:=.m Tryz.f113 _
def ir114:IR:=z [.e (some 1) (.bx 61 (.t 0))] [] <| z [mk 2 1] [2] <| .ret
theorem fit114:Fits Tryz.prog 114 1 (hOf Tryz.f114 ir114) ir114 [.t 2] 3:=.m Tryz.f114 _
def ir115:IR:=z [.e (some 5) (.bx 61 (.t 2))] [0,1,5] <| q [f 8 1 5,l 9 8,.e (some 10) (.call 116 [(.t 0),(k 1),(.t 9),(.c (.slice none 0 0))]),c 11 111 [1,10]] []
theorem fit115:Fits Tryz.prog 115 3 (hOf Tryz.f115 ir115) ir115 [] 12:=.m Tryz.f115 _
def ir116:IR:=z [] [0,1,2,3] <| z [m 12 0,n 13 12,f 14 6 13,l 15 14,m 16 1,m 17 2,m 18 3,.r (some 19) (.bd #[(i 0),(i 0),(.slice none 0 0)] [(0,1,(.t 16)),(1,1,(.t 17)),(2,1,(.t 18))]),.e (some 20) (.raw ⟨(some 20),(.call { callee:=(.invoke (.tmp 15) "Add"),args:=#[(.tmp 19)],argTypes:=#[104]}),105, "machine.go:166",#[⟨3,.data⟩,⟨7,.data⟩],none⟩),m 11 20,ex 21 0 11,ex 22 1 11,m 9 21,m 10 22] [9] <| z [m 8 9] [8] <| .ret
theorem fit116:Fits Tryz.prog 116 4 (hOf Tryz.f116 ir116) ir116 [.t 8] 24:=.m Tryz.f116 _
def ir117:IR:=z [.e (some 5) (.bx 61 (.t 2))] [1,5] <| q [f 7 1 5,l 8 7,c 9 118 [1,8]] []
theorem fit117:Fits Tryz.prog 117 3 (hOf Tryz.f117 ir117) ir117 [] 10:=.m Tryz.f117 _
def ir118:IR:=q' [m 4 0,m 5 0,n 6 5,f 7 3 6,l 8 7,m 9 0,n 10 9,f 11 3 10,l 12 11,le 13 12,m 14 1,bi 15 .sub 13 14,.r (some 16) (.sl 1 (.t 8) none (some (.t 15)) none),n 17 4,f 18 3 17,s 1 18 16] []
theorem fit118:Fits Tryz.prog 118 2 (hOf Tryz.f118 ir118) ir118 [] 19:=.m Tryz.f118 _
def ir119:IR:=z [.e (some 5) (.bx 61 (.t 2))] [1,5] <| z [.e (some 8) (.call 112 [(.t 1),(k 0)]),m 6 8] [1,5,6] <| z [f 10 1 5,l 11 10,bk 12 .add 11 1,c 13 118 [1,12]] [1,6] <| q [c 16 111 [1,6]] []
theorem fit119:Fits Tryz.prog 119 3 (hOf Tryz.f119 ir119) ir119 [] 17:=.m Tryz.f119 _
def ir120:IR:=z [.e (some 5) (.bx 61 (.t 2))] [0,1] <| z [.e (some 9) (.call 112 [(.t 1),(k 0)]),.e (some 11) (.call 112 [(.t 1),(k 1)]),.e (some 12) (.bs 3 2 #[(i 0),(i 0)] [(0,1,(.t 9)),(1,1,(.t 11))]),.e (some 13) (.call 116 [(.t 0),(k 3),(k 0),(.t 12)]),m 6 13] [1,6] <| z [.e (some 15) (.call 118 [(.t 1),(k 2)])] [1,6] <| q [c 18 111 [1,6]] []
theorem fit120:Fits Tryz.prog 120 3 (hOf Tryz.f120 ir120) ir120 [] 19:=.m Tryz.f120 _
def ir121:IR:=z [.e (some 5) (.bx 61 (.t 2))] [0,1,5] <| z [f 13 1 5,l 14 13,c 15 112 [1,14],c 16 134 [0,15],ex 17 0 16,ex 18 1 16,.e (some 7) (.al 104 (.agg #[(i 0),(i 0),(.slice none 0 0)])),m 6 17,s 3 7 18] [0,1,6] <| z [.e (some 22) (.call 112 [(.t 1),(k 0)]),c 23 134 [0,22],ex 24 0 23,ex 25 1 23,.e (some 9) (.al 104 (.agg #[(i 0),(i 0),(.slice none 0 0)])),m 8 24,s 3 9 25] [0,1,6,8] <| z [m 26 0,n 27 26,f 28 6 27,l 29 28,m 30 6,m 31 8,.e (some 32) (.bs 3 1 #[(i 0)] [(0,1,(.t 31))]),.r (some 33) (.bd #[(i 0),(i 0),(.slice none 0 0)] [(0,1,(k 5)),(2,1,(.t 32))]),.e (some 34) (.raw ⟨(some 34),(.call { callee:=(.invoke (.tmp 29) "Set"),args:=#[(.tmp 30),(.tmp 33)],argTypes:=#[3,104]}),33, "run.go:80",#[⟨3,.data⟩,⟨4,.data⟩,⟨7,.data⟩],none⟩)] [1] <| q [.e (some 36) (.call 118 [(.t 1),(k 1)])] []
theorem fit121:Fits Tryz.prog 121 3 (hOf Tryz.f121 ir121) ir121 [] 37:=.m Tryz.f121 _
def ir122:IR:=z [.e (some 1) (.bx 61 (.t 0))] [1] <| z [f 3 1 1,l 4 3,m 2 4] [2] <| .ret
theorem fit122:Fits Tryz.prog 122 1 (hOf Tryz.f122 ir122) ir122 [.t 2] 5:=.m Tryz.f122 _
def ir123L1:IR:=z [bi 9 .lss 8 7] [0,1,7,8,9] <| .seq (j 9 (.skip) ((.exit 0))) <| .seq (.block 1 (q [.e (some 12) (.call 116 [(.t 0),(k 6),(k 0),(.c (.slice none 0 0))]),c 13 111 [1,12]] [0,1,7,8])) <| q [bk 14 .add 8 1,m 8 14] [0,1,7,8]
def ir123:IR:=z [.e (some 5) (.bx 61 (.t 2))] [0,1,5] <| z [f 6 1 5,l 7 6,mk 8 0] [0,1,7,8] <| .block 0 (.loop ir123L1)
theorem fit123:Fits Tryz.prog 123 3 (hOf Tryz.f123 ir123) ir123 [] 15:=.m Tryz.f123 _
def ir124L1:IR:=z [bi 23 .lss 22 21] [0,1,5,6,21,22,23] <| .seq (j 23 (.skip) ((.exit 0))) <| .seq (.block 1 (z [m 7 22] [0,1,5,6,7,21,22] <| q [c 29 112 [1,7],ia 30 1 6 7,s 1 30 29] [0,1,5,6,21,22])) <| q [bk 31 .add 22 1,m 22 31] [0,1,5,6,21,22]
def ir124:IR:=z [.e (some 5) (.bx 61 (.t 2))] [0,1,5] <| .seq (q' [m 9 0,n 10 9,f 11 0 10,f 12 0 11,l 13 12,f 14 1 5,l 15 14,ia 16 2 13 15,f 17 1 16,l 18 17,.e (some 19) (.ms 3 1 8 #[(i 0)] (.t 18) (.t 18)),m 6 19] [0,1,5,6]) <| .seq (z [le 21 6,mk 22 0] [0,1,5,6,21,22] <| .block 0 (.loop ir124L1)) <| z [f 33 1 5,l 34 33,.e (some 36) (.call 116 [(.t 0),(k 2),(.t 34),(.t 6)]),m 8 36] [1,6,8] <| z [le 39 6,c 40 118 [1,39]] [1,8] <| q [c 43 111 [1,8]] []
theorem fit124:Fits Tryz.prog 124 3 (hOf Tryz.f124 ir124) ir124 [] 44:=.m Tryz.f124 _
def ir125B1:IR:=.block 1 (q [l 52 4,c 54 111 [52,9]] [])
def ir125:K:=.seq (.ir (q [.e (some 4) (.bx 152 (.t 1)),.e (some 5) (.bx 61 (.t 2))] [0,4,5])) <| .seq (.ir (q [l 12 4,.e (some 13) (.call 112 [(.t 12),(k 0)]),c 14 134 [0,13],ex 15 0 14,ex 16 1 14,.e (some 7) (.al 104 (.agg #[(i 0),(i 0),(.slice none 0 0)])),s 3 7 16] [0,4,5,7])) <| .seq (.ir (.seq (q' [f 17 0 7,l 18 17,bk 19 .neq 18 2,m 20 19,f' 20 false 21 1 7,l' 20 false 22 21,f' 20 false 23 1 5,l' 20 false 24 23,bi' 20 false 25 .neq 22 24,u 26 20 25,m 27 26,f' 27 false 28 2 7,l' 27 false 29 28,le' 27 false 30 29,m' 27 false 31 0,n' 27 false 32 31,f' 27 false 33 0 32,f' 27 false 34 0 33,l' 27 false 35 34,f' 27 false 36 1 5,l' 27 false 37 36,ia' 27 false 38 2 35 37,f' 27 false 39 1 38,l' 27 false 40 39,bi' 27 false 41 .neq 30 40,u 42 27 41] [0,4,7,42]) <| j 42 (z [.e (some 44) (.call 132 [(.t 0),(k 5)])] [] <| .ret) (.skip))) <| .seq (.ir (q [l 45 4,.e (some 46) (.call 118 [(.t 45),(k 1)])] [4,7])) <| .seq (.ir (q [f 47 2 7,l 48 47,c 49 135 [48]] [4,49])) <| .blk 0 (.rng 49 50 51 9 ir125B1)
theorem fit125:FitsK Tryz.prog 125 3 [(0,[0,4,5],[]),(1,[0,4,5,7],[]),(2,[0,4,7,42],[0,1,3,7,15,31,15,79,255,511,1023,2047,4095,8191,2047,18431,51199,116735,247807,2047,526335,2082815,4179967,8374271,16777215,33554431]),(3,[],[]),(4,[4,7],[]),(5,[4,49],[]),(7,[],[])] ir125 [] 55:=
 ⟨Tryz.f125,_,rfl,rfl,rfl,by decide,by kernel_rfl,by kernel_rfl⟩
def ir126:IR:=z [.e (some 5) (.bx 61 (.t 2))] [0,1] <| z [.e (some 11) (.call 112 [(.t 1),(k 0)]),c 12 134 [0,11],ex 13 0 12,ex 14 1 12,.e (some 7) (.al 104 (.agg #[(i 0),(i 0),(.slice none 0 0)])),s 3 7 14] [0,1,7] <| z [f 15 0 7,l 16 15,bk 17 .neq 16 1,f' 17 true 19 0 7,l' 17 true 20 19,bk' 17 true 21 .neq 20 2,a 22 17 21] [0,1,22] <| j 22 (.dr (r 0 23 (.mv (.t 0)) <| r 1 24 (.mv (.t 0)) <| r 2 25 (.nn (.t 24)) <| r 3 26 (.fa 10 (.t 25)) <| r 4 27 (.l1 (.t 26)) <| r 5 28 (.mv (.t 1)) <| .e 6 none (some 29) (.call 112 [(.t 28),(k 0)]) [4] <| r 7 30 (.bd #[(.bool false),(i 0),(i 0),(.slice none 0 0),(.slice none 0 0),(i 0)] [(5,1,(.t 29))]) <| .e 8 none (some 31) (.bx 151 (.t 30)) [4] <| .e 9 none (some 32) (.bs 152 1 #[(.pointer none)] [(0,1,(.t 31))]) [4] <| .e 10 none (some 33) (.ap 152 1 8 #[(.pointer none)] (.t 27) (.t 32)) [] <| r 11 34 (.nn (.t 23)) <| r 12 35 (.fa 10 (.t 34)) <| .e 13 none none (.st 1 (.t 35) (.t 33)) [] <| .nil) []) (.skip)
theorem fit126:Fits Tryz.prog 126 3 (hOf Tryz.f126 ir126) ir126 [] 36:=.m Tryz.f126 _
def ir127:IR:=z [.e (some 5) (.bx 61 (.t 2))] [0,1,5] <| z [.e (some 14) (.call 112 [(.t 1),(k 0)]),c 15 134 [0,14],ex 16 0 15,ex 17 1 15,.e (some 7) (.al 104 (.agg #[(i 0),(i 0),(.slice none 0 0)])),s 3 7 17] [0,1,5,7] <| z [.e (some 21) (.call 112 [(.t 1),(k 1)]),c 22 134 [0,21],ex 23 0 22,ex 24 1 22,.e (some 9) (.al 104 (.agg #[(i 0),(i 0),(.slice none 0 0)])),s 3 9 24] [0,1,5,7,9] <| z [mk 10 0] [0,1,5,7,9,10] <| .seq (.block 0 (z [f 28 0 7,l 29 28,bk 30 .neq 29 1,f' 30 false 32 0 9,l' 30 false 33 32,bk' 30 false 34 .neq 33 1,u 35 30 34,m 27 35] [0,1,5,7,9,10,27] <| j 27 (q [.e (some 37) (.call 132 [(.t 0),(k 5)])] [0,1,10]) (z [f 39 1 5,l 40 39,bk 41 .eql 40 4,f' 41 false 43 1 5,l' 41 false 44 43,bk' 41 false 45 .eql 44 5,u 46 41 45,f' 46 true 48 1 9,l' 46 true 49 48,bk' 46 true 50 .eql 49 0,a 51 46 50,m 38 51] [0,1,5,7,9,10,38] <| j 38 (q [.e (some 53) (.call 132 [(.t 0),(k 3)])] [0,1,10]) (z [f 55 1 5,l 56 55,bk 57 .eql 56 1,m 54 57] [0,1,5,7,9,54] <| j 54 (q [f 59 1 7,l 60 59,f 61 1 9,l 62 61,bi 63 .add 60 62,c 64 151 [63],.e (some 65) (.call 116 [(.t 0),(k 1),(.t 64),(.c (.slice none 0 0))]),m 10 65] [0,1,10]) (z [f 67 1 5,l 68 67,bk 69 .eql 68 2,m 66 69] [0,1,5,7,9,66] <| j 66 (q [f 71 1 7,l 72 71,f 73 1 9,l 74 73,bi 75 .sub 72 74,c 76 151 [75],.e (some 77) (.call 116 [(.t 0),(k 1),(.t 76),(.c (.slice none 0 0))]),m 10 77] [0,1,10]) (z [f 79 1 5,l 80 79,bk 81 .eql 80 3,m 78 81] [0,1,5,7,9,78] <| j 78 (q [f 83 1 7,l 84 83,f 85 1 9,l 86 85,bi 87 .mul 84 86,c 88 151 [87],.e (some 89) (.call 116 [(.t 0),(k 1),(.t 88),(.c (.slice none 0 0))]),m 10 89] [0,1,10]) (z [f 91 1 5,l 92 91,bk 93 .eql 92 4,m 90 93] [0,1,5,7,9,90] <| j 90 (q [f 95 1 7,l 96 95,f 97 1 9,l 98 97,bi 99 .quo 96 98,c 100 151 [99],.e (some 101) (.call 116 [(.t 0),(k 1),(.t 100),(.c (.slice none 0 0))]),m 10 101] [0,1,10]) (z [f 103 1 5,l 104 103,bk 105 .eql 104 5,m 102 105] [0,1,5,7,9,102] <| j 102 (q [f 107 1 7,l 108 107,f 109 1 9,l 110 109,bi 111 .rem 108 110,c 112 151 [111],.e (some 113) (.call 116 [(.t 0),(k 1),(.t 112),(.c (.slice none 0 0))]),m 10 113] [0,1,10]) (z [f 115 1 5,l 116 115,f 117 1 7,l 118 117,f 119 1 9,l 120 119,c 121 152 [116,118,120],m 114 121] [0,1,114] <| j 114 (q [.e (some 123) (.call 116 [(.t 0),(k 2),(k 1),(.c (.slice none 0 0))]),m 10 123] [0,1,10]) (q [.e (some 26) (.call 116 [(.t 0),(k 2),(k 0),(.c (.slice none 0 0))]),m 10 26] [0,1,10])))))))))) <| z [n 125 0,f 126 15 125,l 127 126,bk 128 .eql 127 0] [1,10,128] <| j 128 (z [.e (some 130) (.call 118 [(.t 1),(k 2)])] [1,10] <| q [c 133 111 [1,10]] []) (.skip)
theorem fit127:Fits Tryz.prog 127 3 (hOf Tryz.f127 ir127) ir127 [] 134:=.m Tryz.f127 _
def ir128:IR:=z [.e (some 5) (.bx 61 (.t 2))] [1,5] <| q [f 7 1 5,l 8 7,n 9 1,f 10 2 9,s 1 10 8] []
theorem fit128:Fits Tryz.prog 128 3 (hOf Tryz.f128 ir128) ir128 [] 11:=.m Tryz.f128 _
def ir129:IR:=z [.e (some 5) (.bx 61 (.t 2))] [0,1,5] <| z [.e (some 11) (.call 112 [(.t 1),(k 0)]),c 12 134 [0,11],ex 13 0 12,ex 14 1 12,.e (some 7) (.al 104 (.agg #[(i 0),(i 0),(.slice none 0 0)])),s 3 7 14] [0,1,5,7] <| .block 0 (z [f 16 0 7,l 17 16,bk 18 .neq 17 2,m 15 18] [0,1,5,7,15] <| j 15 (q [.e (some 20) (.call 132 [(.t 0),(k 5)])] []) (z [f 22 1 7,l 23 22,f 24 1 5,l 25 24,bi 26 .neq 23 25,m 21 26] [1,5,21] <| j 21 (q [f 28 2 5,l 29 28,n 30 1,f 31 2 30,s 1 31 29] []) (.skip)))
theorem fit129:Fits Tryz.prog 129 3 (hOf Tryz.f129 ir129) ir129 [] 32:=.m Tryz.f129 _
def ir130:IR:=z [.e (some 5) (.bx 61 (.t 2))] [0,1,5] <| z [.e (some 11) (.call 112 [(.t 1),(k 0)]),c 12 134 [0,11],ex 13 0 12,ex 14 1 12,.e (some 7) (.al 104 (.agg #[(i 0),(i 0),(.slice none 0 0)])),s 3 7 14] [0,1,5,7] <| .block 0 (z [f 16 0 7,l 17 16,bk 18 .neq 17 1,m 15 18] [0,1,5,7,15] <| j 15 (q [.e (some 20) (.call 132 [(.t 0),(k 5)])] []) (z [f 22 1 7,l 23 22,f 24 1 5,l 25 24,bi 26 .neq 23 25,m 21 26] [1,5,21] <| j 21 (q [f 28 2 5,l 29 28,n 30 1,f 31 2 30,s 1 31 29] []) (.skip)))
theorem fit130:Fits Tryz.prog 130 3 (hOf Tryz.f130 ir130) ir130 [] 32:=.m Tryz.f130 _
def ir131:IR:=z [.e (some 5) (.bx 61 (.t 2))] [0,5] <| q [f 7 1 5,l 8 7,c 9 132 [0,8]] []
theorem fit131:Fits Tryz.prog 131 3 (hOf Tryz.f131 ir131) ir131 [] 10:=.m Tryz.f131 _
def ir132:IR:=q [n 7 0,f 8 15 7,.e none (.st 1 (.t 8) (k 3)),n 9 0,f 10 16 9,s 1 10 1] []
theorem fit132:Fits Tryz.prog 132 2 (hOf Tryz.f132 ir132) ir132 [] 11:=.m Tryz.f132 _
def ir133:IR:=z [.e (some 5) (.bx 61 (.t 2))] [1] <| q [n 10 1,f 11 3 10,l 12 11,.r (some 13) (.ia 1 (.t 12) (k 0)),l 14 13,n 15 1,f 16 0 15,.e none (.st 1 (.t 16) (.c (.bool false))),n 17 1,f 18 5 17,s 1 18 14,n 19 1,f 20 3 19,.e none (.st 1 (.t 20) (.c (.slice none 0 0)))] []
theorem fit133:Fits Tryz.prog 133 3 (hOf Tryz.f133 ir133) ir133 [] 21:=.m Tryz.f133 _
def ir134L1:IR:=.seq (z [f 17 0 6,l 18 17,bk 19 .eql 18 5,f' 19 true 21 2 6,l' 19 true 22 21,.gr 19 true (some 23) (.ia 1 (.t 22) (k 0)),l' 19 true 24 23,m' 19 true 25 1,bi' 19 true 26 .neq 24 25,a 27 19 26] [0,1,5,6,27] <| j 27 (.skip) ((.exit 0))) <| .block 1 (z [f 28 2 6,l 29 28,.r (some 30) (.ia 1 (.t 29) (k 0)),l 31 30,m 1 31] [0,1,5,6] <| q [m 33 0,n 34 33,f 35 6 34,l 36 35,m 37 1,.e (some 38) (.raw ⟨(some 38),(.call { callee:=(.invoke (.tmp 36) "Get"),args:=#[(.tmp 37)],argTypes:=#[3]}),208, "machine.go:159",#[⟨3,.data⟩,⟨4,.data⟩],none⟩),m 32 38,ex 39 0 32,ex 40 1 32,s 3 6 39] [0,1,5,6])
def ir134:IR:=z [.e (some 5) (.al 104 (.agg #[(i 0),(i 0),(.slice none 0 0)]))] [0,1,5] <| z [m 9 0,n 10 9,f 11 6 10,l 12 11,m 13 1,.e (some 14) (.raw ⟨(some 14),(.call { callee:=(.invoke (.tmp 12) "Get"),args:=#[(.tmp 13)],argTypes:=#[3]}),208, "machine.go:156",#[⟨3,.data⟩,⟨4,.data⟩],none⟩),m 8 14,ex 15 0 8,ex 16 1 8,.e (some 6) (.al 104 (.agg #[(i 0),(i 0),(.slice none 0 0)])),s 3 6 15,m 7 16] [0,1,5,6] <| .seq (.block 0 (.loop ir134L1)) <| .seq (q' [m 41 1,ln 42 3 6,m 4 41,s 3 5 42] [4,5]) <| .ret
theorem fit134:Fits Tryz.prog 134 2 (hOf Tryz.f134 ir134) ir134 [.t 4,.n 5 3] 43:=.m Tryz.f134 _
def ir135:IR:=z [.e (some 1) (.bx 26 (.t 0))] [1] <| z [.r (some 3) (.mf (.func 153) [] [(.t 1)]),m 2 3] [2] <| .ret
theorem fit135:Fits Tryz.prog 135 1 (hOf Tryz.f135 ir135) ir135 [.t 2] 4:=.m Tryz.f135 _
def ir136:IR:=z [] [0,1] <| z [m 8 0,n 9 8,f 10 6 9,l 11 10,.e (some 12) (.raw ⟨(some 12),(.call { callee:=(.invoke (.tmp 11) "Used"),args:=#[],argTypes:=#[]}),3, "machine.go:139",#[⟨3,.data⟩],none⟩),m 5 12] [0,1,5] <| .seq (.seq (q' [m 13 1,m 14 0,n 15 14,f 16 3 15,f 17 0 16,l 18 17,m 19 5,bi 20 .sub 18 19,bi 21 .leq 13 20,m 22 21,m' 22 true 23 0,n' 22 true 24 23,f' 22 true 25 3 24,f' 22 true 26 1 25,l' 22 true 27 26,no' 22 true 28 27,m' 22 true 29 28,m' 29 false 30 5,m' 29 false 31 0,n' 29 false 32 31,f' 29 false 33 8 32,l' 29 false 34 33,bi' 29 false 35 .sub 30 34,m' 29 false 36 1,bi' 29 false 37 .add 35 36,m' 29 false 38 0,n' 29 false 39 38,f' 29 false 40 7 39,l' 29 false 41 40,bi' 29 false 42 .leq 37 41,.gr 22 true (some 43) (.pk (.t 29) (.c (.bool true)) (.t 42)),a 44 22 43] [0,1,44]) <| j 44 (z [.r (some 4) (.mv (.c (.bool true)))] [4] <| .ret) (.skip)) <| .seq (.dr (r 0 46 (.mv (.t 0)) <| r 1 47 (.nn (.t 46)) <| r 2 48 (.fa 6 (.t 47)) <| r 3 49 (.l1 (.t 48)) <| r 4 50 (.mv (.t 1)) <| r 5 51 (.mv (.t 0)) <| r 7 53 (.nn (.t 49)) <| r 8 54 (.mv (.t 49)) <| .e 6 none (some 52) (.call 82 [(.t 51)]) [3] <| .e 9 none (some 55) (.raw ⟨(some 55),(.call { callee:=(.invoke (.tmp 54) "Room"),args:=#[(.tmp 50),(.tmp 52)],argTypes:=#[3,26]}),93, "machine.go:143",#[⟨8,.data⟩,⟨4,.data⟩,⟨6,.data⟩,⟨6,.chain⟩],none⟩) [] <| r 10 45 (.mv (.t 55)) <| r 11 56 (.ex 0 (.t 45)) <| r 12 57 (.ex 1 (.t 45)) <| r 13 6 (.mv (.t 56)) <| r 14 7 (.mv (.t 57)) <| .nil) [0,6,7]) <| .seq (z [bk 59 .neq 7 0] [0,6,59] <| j 59 (z [m 60 0,m 61 0,n 62 61,f 63 6 62,l 64 63,.e (some 65) (.raw ⟨(some 65),(.call { callee:=(.invoke (.tmp 64) "Used"),args:=#[],argTypes:=#[]}),3, "machine.go:145",#[⟨4,.data⟩],none⟩),n 66 60,f 67 17 66,s 1 67 65] [0] <| z [n 69 0,f 70 15 69,.e none (.st 1 (.t 70) (k 5))] [] <| z [.r (some 4) (.mv (.c (.bool false)))] [4] <| .ret) (.skip)) <| z [c 73 83 [0,6]] [0] <| z [m 74 0,m 75 0,n 76 75,f 77 6 76,l 78 77,.e (some 79) (.raw ⟨(some 79),(.call { callee:=(.invoke (.tmp 78) "Used"),args:=#[],argTypes:=#[]}),3, "machine.go:150",#[⟨4,.data⟩],none⟩),n 80 74,f 81 8 80,s 1 81 79] [] <| z [.r (some 4) (.mv (.c (.bool true)))] [4] <| .ret
theorem fit136:Fits Tryz.prog 136 2 (hOf Tryz.f136 ir136) ir136 [.t 4] 82:=.m Tryz.f136 _
def ir137L1:IR:=z [bi 41 .lss 40 39] [0,1,3,8,10,38,39,40,41] <| .seq (j 41 (.skip) ((.exit 0))) <| .seq (.block 1 (z [ia 43 1 38 40,l 44 43,m 11 40,m 12 44] [0,1,3,8,10,11,12,38,39,40] <| z [c 48 134 [0,12],ex 49 0 48,ex 50 1 48,.e (some 14) (.al 104 (.agg #[(i 0),(i 0),(.slice none 0 0)])),m 13 49,s 3 14 50] [0,1,3,8,10,11,13,14,38,39,40] <| .seq (z [f 51 0 14,l 52 51,bk 53 .neq 52 3] [0,1,3,8,10,11,13,14,38,39,40,53] <| j 53 (z [.e (some 55) (.call 132 [(.t 0),(k 5)])] [] <| .ret) (.skip)) <| .seq (z [bk 57 .eql 11 0] [0,1,3,8,10,13,14,38,39,40,57] <| j 57 (q [.r (some 60) (.ia 1 (.t 10) (k 0)),s 1 60 13] [0,1,3,8,10,14,38,39,40]) (.skip)) <| q [f 62 2 14,l 63 62,.r (some 64) (.ia 1 (.t 63) (k 1)),l 65 64,.e (some 66) (.bs 3 1 #[(i 0)] [(0,1,(.t 65))]),.e (some 67) (.ap 3 1 8 #[(i 0)] (.t 10) (.t 66)),m 10 67] [0,1,3,8,10,38,39,40])) <| q [bk 68 .add 40 1,m 40 68] [0,1,3,8,10,38,39,40]
def ir137:IR:=z [n 16 0,f 17 0 16,f 18 1 17,l 19 18,ia 21 3 19 3,f 22 1 21,l 23 22,m 8 23] [0,1,2,3,8] <| .seq (q' [m 24 1,n 25 24,f 26 4 25,l 27 26,m 28 1,n 29 28,f 30 4 29,l 31 30,le 32 31,m 33 8,bi 34 .sub 32 33,.r (some 35) (.sl 1 (.t 27) (some (.t 34)) none none),m 9 35] [0,1,2,3,8,9]) <| z [.e (some 37) (.bs 3 1 #[(i 0)] [(0,1,(.t 2))]),m 10 37] [0,1,3,8,9,10] <| .seq (z [m 38 9,le 39 38,mk 40 0] [0,1,3,8,10,38,39,40] <| .block 0 (.loop ir137L1)) <| .seq (q' [m 69 0,n 70 69,f 71 6 70,l 72 71,m 73 10,.r (some 74) (.ia 1 (.t 73) (k 0)),l 75 74,.r (some 76) (.bd #[(i 0),(i 0),(.slice none 0 0)] [(0,1,(k 7))]),n 77 72,m 78 72,.e (some 79) (.raw ⟨(some 79),(.call { callee:=(.invoke (.tmp 78) "Set"),args:=#[(.tmp 75),(.tmp 76)],argTypes:=#[3,104]}),33, "machine.go:279",#[⟨9,.data⟩,⟨6,.data⟩,⟨7,.data⟩],none⟩)] [1,3,8,10]) <| .seq (q' [m 80 1,m 81 1,n 82 81,f 83 4 82,l 84 83,m 85 1,n 86 85,f 87 4 86,l 88 87,le 89 88,m 90 8,bi 91 .sub 89 90,.r (some 92) (.sl 1 (.t 84) none (some (.t 91)) none),n 93 80,f 94 4 93,s 1 94 92] [1,3,10]) <| q [n 101 1,f 102 0 101,.e none (.st 1 (.t 102) (.c (.bool true))),n 103 1,f 104 1 103,s 1 104 3,n 105 1,f 106 2 105,.e none (.st 1 (.t 106) (k 0)),n 107 1,f 108 3 107,s 1 108 10] []
theorem fit137:Fits Tryz.prog 137 4 (hOf Tryz.f137 ir137) ir137 [] 109:=.m Tryz.f137 _
def ir138:IR:=.block 0 (z [n 8 0,f 9 10 8,l 10 9,le 11 10,bk 12 .gtr 11 1,m 6 12] [0,1,6] <| j 6 (q [c 14 139 [0]] []) (z [n 17 0,f 18 12 17,l 19 18,m' 19 false 21 0,n' 19 false 22 21,f' 19 false 23 13 22,l' 19 false 24 23,le' 19 false 25 24,bk' 19 false 26 .gtr 25 0,u 27 19 26,m 15 27] [0,1,15] <| j 15 (q [.e (some 29) (.call 132 [(.t 0),(k 5)])] []) (z [.e (some 32) (.call 136 [(.t 0),(k 2)]),m 30 32] [0,1,30] <| j 30 (z [n 34 0,f 35 12 34,.e none (.st 1 (.t 35) (.c (.bool true)))] [0,1] <| z [n 37 0,f 38 11 37,l 39 38,le 40 39,bk 41 .sub 40 1,m 4 41] [0,1,4] <| z [.e (some 43) (.call 116 [(.t 0),(k 8),(k 0),(.c (.slice none 0 0))]),m 5 43] [0,1,4,5] <| .seq (.dr (r 0 44 (.mv (.t 0)) <| r 1 45 (.nn (.t 44)) <| r 2 46 (.fa 11 (.t 45)) <| r 3 47 (.l1 (.t 46)) <| r 4 48 (.mv (.t 4)) <| r 5 49 (.mv (.t 0)) <| r 6 50 (.mv (.t 0)) <| r 7 51 (.nn (.t 50)) <| r 8 52 (.fa 11 (.t 51)) <| r 9 53 (.l1 (.t 52)) <| r 10 54 (.mv (.t 4)) <| r 11 55 (.ia 1 (.t 53) (.t 54)) <| r 12 56 (.l1 (.t 55)) <| r 13 57 (.mv (.t 5)) <| .e 14 none (some 58) (.bs 3 2 #[(i 0),(i 0)] [(0,1,(.t 56)),(1,1,(.t 57))]) [3] <| .e 15 none (some 59) (.call 116 [(.t 49),(k 3),(k 0),(.t 58)]) [3] <| r 16 60 (.ia 1 (.t 47) (.t 48)) <| .e 17 none none (.st 1 (.t 60) (.t 59)) [] <| .nil) [0,1,4]) <| q [n 64 0,f 65 11 64,l 66 65,ia 68 1 66 4,l 69 68,n 70 1,f 71 5 70,s 1 71 69,n 72 1,f 73 4 72,.e none (.st 1 (.t 73) (.c (.slice none 0 0)))] []) (.skip))))
theorem fit138:Fits Tryz.prog 138 2 (hOf Tryz.f138 ir138) ir138 [] 74:=.m Tryz.f138 _
def ir139:IR:=q' [m 2 0,m 3 0,n 4 3,f 5 10 4,l 6 5,m 7 0,n 8 7,f 9 10 8,l 10 9,le 11 10,bk 12 .sub 11 1,.r (some 13) (.sl 1 (.t 6) none (some (.t 12)) none),n 14 2,f 15 10 14,s 1 15 13] []
theorem fit139:Fits Tryz.prog 139 1 (hOf Tryz.f139 ir139) ir139 [] 16:=.m Tryz.f139 _
def ir140:IR:=.seq (z [n 14 0,f 15 2 14,l 16 15,le 17 16,bi 18 .geq 2 17] [0,1,2,18] <| j 18 (z [n 22 1,f 23 5 22,l 24 23,c 25 134 [0,24],ex 26 0 25,ex 27 1 25,.e (some 7) (.al 104 (.agg #[(i 0),(i 0),(.slice none 0 0)])),m 6 26,s 3 7 27] [0,6] <| z [m 28 0,n 29 28,f 30 6 29,l 31 30,m 32 6,.r (some 33) (.bd #[(i 0),(i 0),(.slice none 0 0)] [(0,1,(k 2)),(1,1,(k 3))]),.e (some 34) (.raw ⟨(some 34),(.call { callee:=(.invoke (.tmp 31) "Set"),args:=#[(.tmp 32),(.tmp 33)],argTypes:=#[3,104]}),33, "machine.go:304",#[⟨3,.data⟩,⟨4,.data⟩,⟨5,.data⟩],none⟩)] [] <| .ret) (.skip)) <| z [.e (some 36) (.call 136 [(.t 0),(k 2)])] [0,1,2,36] <| j 36 (z [n 40 1,f 41 5 40,l 42 41,c 43 134 [0,42],ex 44 0 43,ex 45 1 43,.e (some 9) (.al 104 (.agg #[(i 0),(i 0),(.slice none 0 0)])),m 8 44,s 3 9 45] [0,2,8] <| z [n 48 0,f 49 2 48,l 50 49,ia 52 1 50 2,l 53 52,.e (some 54) (.call 116 [(.t 0),(k 1),(.t 53),(.c (.slice none 0 0))]),m 10 54] [0,2,8,10] <| z [bk 57 .add 2 1,.e (some 58) (.call 116 [(.t 0),(k 8),(.t 57),(.c (.slice none 0 0))]),m 11 58] [0,8,10,11] <| q [m 59 0,n 60 59,f 61 6 60,l 62 61,m 63 8,m 64 10,m 65 11,.e (some 66) (.bs 3 2 #[(i 0),(i 0)] [(0,1,(.t 64)),(1,1,(.t 65))]),.r (some 67) (.bd #[(i 0),(i 0),(.slice none 0 0)] [(0,1,(k 2)),(1,1,(k 4)),(2,1,(.t 66))]),.e (some 68) (.raw ⟨(some 68),(.call { callee:=(.invoke (.tmp 62) "Set"),args:=#[(.tmp 63),(.tmp 67)],argTypes:=#[3,104]}),33, "machine.go:311",#[⟨3,.data⟩,⟨4,.data⟩,⟨8,.data⟩],none⟩)] []) (.skip)
theorem fit140:Fits Tryz.prog 140 3 (hOf Tryz.f140 ir140) ir140 [] 69:=.m Tryz.f140 _
def ir147:IR:=z [.e (some 2) (.al 194 (.agg #[(.string ⟨#[]⟩),(i 0),(i 0)]))] [0,2] <| z [.r (some 5) (.bd #[(.string ⟨#[]⟩),(i 0),(i 0)] []),.r (some 6) (.bd #[(.string ⟨#[]⟩),(i 0),(i 0)] [(0,1,(.c (.string ⟨#[112,117,115,104]⟩))),(1,1,(k 1)),(2,1,(k 0))]),.r (some 7) (.bd #[(.string ⟨#[]⟩),(i 0),(i 0)] [(0,1,(.c (.string ⟨#[103,108,111,98]⟩))),(1,1,(k 4)),(2,1,(k 0))]),.r (some 8) (.bd #[(.string ⟨#[]⟩),(i 0),(i 0)] [(0,1,(.c (.string ⟨#[105,110,116]⟩))),(1,1,(k 3)),(2,1,(k 0))]),.r (some 9) (.bd #[(.string ⟨#[]⟩),(i 0),(i 0)] [(0,1,(.c (.string ⟨#[112,111,112]⟩))),(1,1,(k 1)),(2,1,(k 0))]),.r (some 10) (.bd #[(.string ⟨#[]⟩),(i 0),(i 0)] [(0,1,(.c (.string ⟨#[115,108,105,100,101]⟩))),(1,1,(k 1)),(2,1,(k 0))]),.r (some 11) (.bd #[(.string ⟨#[]⟩),(i 0),(i 0)] [(0,1,(.c (.string ⟨#[97,112,112,108,121]⟩))),(1,1,(k 0)),(2,1,(k 0))]),.r (some 12) (.bd #[(.string ⟨#[]⟩),(i 0),(i 0)] [(0,1,(.c (.string ⟨#[117,112,100,97,116,101]⟩))),(1,1,(k 2)),(2,1,(k 0))]),.r (some 13) (.bd #[(.string ⟨#[]⟩),(i 0),(i 0)] [(0,1,(.c (.string ⟨#[97,108,108,111,99]⟩))),(1,1,(k 1)),(2,1,(k 0))]),.r (some 14) (.bd #[(.string ⟨#[]⟩),(i 0),(i 0)] [(0,1,(.c (.string ⟨#[112,97,99,107]⟩))),(1,1,(k 5)),(2,1,(k 0))]),.r (some 15) (.bd #[(.string ⟨#[]⟩),(i 0),(i 0)] [(0,1,(.c (.string ⟨#[115,112,108,105,116]⟩))),(1,1,(k 5)),(2,1,(k 0))]),.r (some 16) (.bd #[(.string ⟨#[]⟩),(i 0),(i 0)] [(0,1,(.c (.string ⟨#[101,118,97,108]⟩))),(1,1,(k 0)),(2,1,(k 0))]),.r (some 17) (.bd #[(.string ⟨#[]⟩),(i 0),(i 0)] [(0,1,(.c (.string ⟨#[97,114,105,116,104]⟩))),(1,1,(k 6)),(2,1,(k 0))]),.r (some 18) (.bd #[(.string ⟨#[]⟩),(i 0),(i 0)] [(0,1,(.c (.string ⟨#[106,117,109,112]⟩))),(1,1,(k 8)),(2,1,(k 0))]),.r (some 19) (.bd #[(.string ⟨#[]⟩),(i 0),(i 0)] [(0,1,(.c (.string ⟨#[116,101,115,116,99,111,110]⟩))),(1,1,(k 5)),(2,1,(k 8))]),.r (some 20) (.bd #[(.string ⟨#[]⟩),(i 0),(i 0)] [(0,1,(.c (.string ⟨#[116,101,115,116,105,110,116]⟩))),(1,1,(k 3)),(2,1,(k 8))]),.r (some 21) (.bd #[(.string ⟨#[]⟩),(i 0),(i 0)] [(0,1,(.c (.string ⟨#[102,97,105,108]⟩))),(1,1,(k 7)),(2,1,(k 0))]),.r (some 22) (.bd #[(.string ⟨#[]⟩),(i 0),(i 0)] [(0,1,(.c (.string ⟨#[117,110,119,105,110,100]⟩))),(1,1,(k 0)),(2,1,(k 0))]),.e (some 23) (.raw ⟨(some 23),(.build 220 #[(0,(.tmp 5)),(1,(.tmp 6)),(2,(.tmp 7)),(3,(.tmp 8)),(4,(.tmp 9)),(5,(.tmp 10)),(6,(.tmp 11)),(7,(.tmp 12)),(8,(.tmp 13)),(9,(.tmp 14)),(10,(.tmp 15)),(11,(.tmp 16)),(12,(.tmp 17)),(13,(.tmp 18)),(14,(.tmp 19)),(15,(.tmp 20)),(16,(.tmp 21)),(17,(.tmp 22))]),220, "check.go:27",#[⟨0,.data⟩,⟨1,.data⟩,⟨2,.data⟩,⟨3,.data⟩,⟨4,.data⟩,⟨5,.data⟩,⟨6,.data⟩,⟨7,.data⟩,⟨8,.data⟩,⟨9,.data⟩,⟨10,.data⟩,⟨11,.data⟩,⟨12,.data⟩,⟨13,.data⟩,⟨14,.data⟩,⟨15,.data⟩,⟨16,.data⟩,⟨17,.data⟩],none⟩),.e (some 4) (.al 220 (.agg #[(.string ⟨#[]⟩),(i 0),(i 0),(.string ⟨#[]⟩),(i 0),(i 0),(.string ⟨#[]⟩),(i 0),(i 0),(.string ⟨#[]⟩),(i 0),(i 0),(.string ⟨#[]⟩),(i 0),(i 0),(.string ⟨#[]⟩),(i 0),(i 0),(.string ⟨#[]⟩),(i 0),(i 0),(.string ⟨#[]⟩),(i 0),(i 0),(.string ⟨#[]⟩),(i 0),(i 0),(.string ⟨#[]⟩),(i 0),(i 0),(.string ⟨#[]⟩),(i 0),(i 0),(.string ⟨#[]⟩),(i 0),(i 0),(.string ⟨#[]⟩),(i 0),(i 0),(.string ⟨#[]⟩),(i 0),(i 0),(.string ⟨#[]⟩),(i 0),(i 0),(.string ⟨#[]⟩),(i 0),(i 0),(.string ⟨#[]⟩),(i 0),(i 0),(.string ⟨#[]⟩),(i 0),(i 0)])),s 54 4 23] [0,2,4] <| .seq (z [bk 25 .lss 0 1,m' 25 false 27 0,bk' 25 false 28 .geq 27 18,u 29 25 28] [0,2,4,29] <| j 29 (z [.r (some 30) (.bd #[(.string ⟨#[]⟩),(i 0),(i 0)] []),s 3 2 30,.r (some 3) (.mv (.c (.bool false)))] [2,3] <| .ret) (.skip)) <| z [m 31 0,.e (some 32) (.raw ⟨(some 32),(.indexAddr 220 (.tmp 4) (.tmp 31)),0, "check.go:33",#[⟨0,.data⟩],none⟩),ln 33 3 32,s 3 2 33,.r (some 3) (.mv (.c (.bool true)))] [2,3] <| .ret
theorem fit147:Fits Tryz.prog 147 1 (hOf Tryz.f147 ir147) ir147 [.n 2 3,.t 3] 34:=.m Tryz.f147 _
def ir148:IR:=z [.e (some 5) (.bx 25 (.t 0)),.e (some 6) (.bx 59 (.t 1))] [2,3,4,5,6] <| z [.r (some 11) (.mv (.c (.bool true)))] [2,3,4,5,6,11] <| .seq (z [m 12 4] [2,3,5,6,11,12] <| .block 0 (z [bk 14 .eql 12 0,m 13 14] [2,3,5,6,11,12,13] <| j 13 (q [bk 16 .eql 3 0,m 11 16] [11]) (z [bk 18 .eql 12 1,m 17 18] [2,3,5,6,11,12,17] <| j 17 (q [bk 20 .geq 3 0,m 11 20] [11]) (z [bk 22 .eql 12 2,m 21 22] [2,3,5,6,11,12,21] <| j 21 (q [bk 24 .geq 3 1,m 11 24] [11]) (z [bk 26 .eql 12 3,m 25 26] [2,3,5,6,11,12,25] <| j 25 (q [bk 28 .geq 3 (-4611686018427387904),m' 28 true 30 3,bk' 28 true 31 .leq 30 4611686018427387903,a 32 28 31,m 11 32] [11]) (z [bk 34 .eql 12 4,m 33 34] [2,3,5,6,11,12,33] <| j 33 (q [bk 36 .geq 3 0,m' 36 true 38 3,f' 36 true 39 1 5,l' 36 true 40 39,le' 36 true 41 40,bi' 36 true 42 .lss 38 41,a 43 36 42,m 11 43] [11]) (z [bk 45 .eql 12 5,m 44 45] [2,3,5,6,11,12,44] <| j 44 (q [bk 47 .geq 3 0,m' 47 true 49 3,f' 47 true 50 0 5,l' 47 true 51 50,le' 47 true 52 51,bi' 47 true 53 .lss 49 52,a 54 47 53,m 11 54] [11]) (z [bk 56 .eql 12 6,m 55 56] [2,3,6,11,12,55] <| j 55 (q [bk 58 .geq 3 1,m' 58 true 60 3,bk' 58 true 61 .leq 60 11,a 62 58 61,m 11 62] [11]) (z [bk 64 .eql 12 7,m 63 64] [2,3,6,11,12,63] <| j 63 (q [bk 66 .geq 3 1,m' 66 true 68 3,bk' 66 true 69 .leq 68 4,a 70 66 69,m 11 70] [11]) (z [bk 72 .eql 12 8,m 71 72] [2,3,6,11,71] <| j 71 (z [bi 75 .leq 3 2,m' 75 false 77 3,f' 75 false 78 2 6,l' 75 false 79 78,le' 75 false 80 79,bi' 75 false 81 .geq 77 80,u 82 75 81] [11,82] <| j 82 (z [mk 10 174] [10] <| .ret) (.skip)) (.skip))))))))))) <| .seq (z [no 84 11] [84] <| j 84 (z [mk 10 172] [10] <| .ret) (.skip)) <| z [mk 10 0] [10] <| .ret
theorem fit148:Fits Tryz.prog 148 5 (hOf Tryz.f148 ir148) ir148 [.t 10] 85:=.m Tryz.f148 _
def ir149:IR:=z [.e (some 3) (.bx 25 (.t 0)),.e (some 4) (.bx 61 (.t 1))] [2,3,4] <| z [.r (some 8) (.mv (.c (.bool true))),m 9 2] [2,3,4,8,9] <| .seq (z [f 12 0 4,l 13 12] [2,3,4,8,9,13] <| .block 0 (z [bk 15 .eql 13 1,m 14 15] [2,3,4,8,9,13,14] <| j 14 (q [f 16 1 4,l 17 16,bi 19 .lss 17 2,bk 21 .add 2 1,m 8 19,m 9 21] [8,9]) (.seq (z [bk 23 .eql 13 2,m 22 23] [2,3,4,8,9,13,22] <| j 22 (.skip) (q [bk 24 .eql 13 3,m 22 24] [2,3,4,8,9,13,22])) <| j 22 (q [bk 26 .add 2 1,m 9 26] [8,9]) (z [bk 28 .eql 13 4,m 27 28] [2,3,4,8,9,13,27] <| j 27 (q' [f 29 1 4,l 30 29,m 31 2,bi 32 .lss 30 31,m 33 2,f 34 1 4,l 35 34,bi 36 .sub 33 35,m 8 32,m 9 36] [8,9]) (z [bk 38 .eql 13 5,m 37 38] [2,3,4,8,9,13,37] <| j 37 (q' [f 39 1 4,l 40 39,m 41 2,bk 42 .sub 41 1,bi 43 .lss 40 42,m 44 2,f 45 1 4,l 46 45,bi 47 .sub 44 46,m 8 43,m 9 47] [8,9]) (.seq (z [bk 49 .eql 13 6,m 48 49] [2,3,4,8,9,13,48] <| j 48 (.skip) (q [bk 50 .eql 13 12,m 48 50] [2,3,4,8,9,13,48])) <| j 48 (q [bk 52 .gtr 2 2,bk 54 .sub 2 1,m 8 52,m 9 54] [8,9]) (z [bk 56 .eql 13 7,m 55 56] [2,3,4,8,9,13,55] <| j 55 (q [f 57 1 4,l 58 57,bi 60 .lss 58 2,bk 62 .sub 2 1,m 8 60,m 9 62] [8,9]) (z [bk 64 .eql 13 8,m 63 64] [2,3,4,8,9,13,63] <| j 63 (q' [f 65 1 4,l 66 65,bk 67 .leq 66 8000,m 68 2,f 69 1 4,l 70 69,.r (some 71) (.mm false (.t 70) (k 8000)),bi 72 .add 68 71,m 8 67,m 9 72] [8,9]) (z [bk 74 .eql 13 9,m 73 74] [2,3,4,8,9,13,73] <| j 73 (z [f 75 0 3,l 76 75,f 77 1 4,l 78 77,ia 79 2 76 78,f 80 1 79,l 81 80,m 10 81] [2,10] <| q [bi 84 .lss 10 2,bi 87 .sub 2 10,bk 88 .add 87 1,m 8 84,m 9 88] [8,9]) (z [bk 90 .eql 13 10,m 89 90] [2,3,4,8,9,13,89] <| j 89 (q' [m 91 2,bk 92 .gtr 91 1,m 93 2,bk 94 .sub 93 1,f 95 0 3,l 96 95,f 97 1 4,l 98 97,ia 99 2 96 98,f 100 1 99,l 101 100,bi 102 .add 94 101,m 8 92,m 9 102] [8,9]) (.seq (z [bk 104 .eql 13 11,m 103 104] [2,8,9,13,103] <| j 103 (.skip) (z [bk 105 .eql 13 14,m 103 105] [2,8,9,13,103] <| j 103 (.skip) (q [bk 106 .eql 13 15,m 103 106] [2,8,9,13,103]))) <| j 103 (q [bk 108 .gtr 2 1,m 8 108] [8,9]) (z [bk 110 .eql 13 17,m 109 110] [2,8,9,109] <| j 109 (q [bk 112 .eql 2 1,m 8 112] [8,9]) (.skip))))))))))))) <| z [m' 8 true 116 9,bk' 8 true 117 .leq 116 8000,a 118 8 117,m 6 9,m 7 118] [6,7] <| .ret
theorem fit149:Fits Tryz.prog 149 3 (hOf Tryz.f149 ir149) ir149 [.t 6,.t 7] 119:=.m Tryz.f149 _
def ir150:IR:=z [] [0,1,2] <| .seq (z [ia 9 1 0 1,l 10 9,bk 11 .eql 10 0] [0,1,2,11] <| j 11 (q [ia 15 1 0 1,s 1 15 2] [0,1,2]) (.skip)) <| z [ia 18 1 0 1,l 19 18,bi 21 .eql 19 2,m 6 21] [6] <| .ret
theorem fit150:Fits Tryz.prog 150 3 (hOf Tryz.f150 ir150) ir150 [.t 6] 22:=.m Tryz.f150 _
def ir151:IR:=z [] [0] <| z [.r (some 4) (.bi .shl (.t 0) (.c (.int .u64 1))),.r (some 5) (.bi .shr (.t 4) (.c (.int .u64 1))),m 2 5] [2] <| .ret
theorem fit151:Fits Tryz.prog 151 1 (hOf Tryz.f151 ir151) ir151 [.t 2] 6:=.m Tryz.f151 _
def ir152:IR:=z [] [0,1,2] <| .seq (z [m 7 0] [1,2,7] <| .block 0 (z [bk 9 .eql 7 6,m 8 9] [1,2,7,8] <| j 8 (z [bi 12 .eql 1 2,m 6 12] [6] <| .ret) (z [bk 14 .eql 7 7,m 13 14] [1,2,7,13] <| j 13 (z [bi 17 .neq 1 2,m 6 17] [6] <| .ret) (z [bk 19 .eql 7 8,m 18 19] [1,2,7,18] <| j 18 (z [bi 22 .lss 1 2,m 6 22] [6] <| .ret) (z [bk 24 .eql 7 9,m 23 24] [1,2,7,23] <| j 23 (z [bi 27 .leq 1 2,m 6 27] [6] <| .ret) (z [bk 29 .eql 7 10,m 28 29] [1,2,28] <| j 28 (z [bi 32 .gtr 1 2,m 6 32] [6] <| .ret) (.skip))))))) <| z [bi 35 .geq 1 2,m 6 35] [6] <| .ret
theorem fit152:Fits Tryz.prog 152 3 (hOf Tryz.f152 ir152) ir152 [.t 6] 36:=.m Tryz.f152 _
end
section
open Go Go.W
theorem mhAdd (a:Addr) (w:World):(method (Tryz.prog.types.size+Made.depth) 172 (.pointer (some a)) "Add").run Tryz.prog w = .ok (231,.pointer (some a)) w:=by kernel_rfl
theorem mhGet (a:Addr) (w:World):(method (Tryz.prog.types.size+Made.depth) 172 (.pointer (some a)) "Get").run Tryz.prog w = .ok (234,.pointer (some a)) w:=by kernel_rfl
theorem mhSet (a:Addr) (w:World):(method (Tryz.prog.types.size+Made.depth) 172 (.pointer (some a)) "Set").run Tryz.prog w = .ok (236,.pointer (some a)) w:=by kernel_rfl
theorem mhRoom (a:Addr) (w:World):(method (Tryz.prog.types.size+Made.depth) 172 (.pointer (some a)) "Room").run Tryz.prog w = .ok (235,.pointer (some a)) w:=by kernel_rfl
theorem mhCollect (a:Addr) (w:World):(method (Tryz.prog.types.size+Made.depth) 172 (.pointer (some a)) "Collect").run Tryz.prog w = .ok (232,.pointer (some a)) w:=by kernel_rfl
theorem mhUsed (a:Addr) (w:World):(method (Tryz.prog.types.size+Made.depth) 172 (.pointer (some a)) "Used").run Tryz.prog w = .ok (237,.pointer (some a)) w:=by kernel_rfl
theorem mgAdd (a:Addr) (w:World):(method (Tryz.prog.types.size+Made.depth) 169 (.pointer (some a)) "Add").run Tryz.prog w = .ok (186,.pointer (some a)) w:=by kernel_rfl
theorem mgGet (a:Addr) (w:World):(method (Tryz.prog.types.size+Made.depth) 169 (.pointer (some a)) "Get").run Tryz.prog w = .ok (189,.pointer (some a)) w:=by kernel_rfl
theorem mgSet (a:Addr) (w:World):(method (Tryz.prog.types.size+Made.depth) 169 (.pointer (some a)) "Set").run Tryz.prog w = .ok (191,.pointer (some a)) w:=by kernel_rfl
theorem mgRoom (a:Addr) (w:World):(method (Tryz.prog.types.size+Made.depth) 169 (.pointer (some a)) "Room").run Tryz.prog w = .ok (190,.pointer (some a)) w:=by kernel_rfl
theorem mgCollect (a:Addr) (w:World):(method (Tryz.prog.types.size+Made.depth) 169 (.pointer (some a)) "Collect").run Tryz.prog w = .ok (187,.pointer (some a)) w:=by kernel_rfl
theorem mgUsed (a:Addr) (w:World):(method (Tryz.prog.types.size+Made.depth) 169 (.pointer (some a)) "Used").run Tryz.prog w = .ok (192,.pointer (some a)) w:=by kernel_rfl
inductive Kd where
 | hp (times:Int)
 | gn (young:Int) (old:Nat) (times:Int)
 | ref
structure St where
 kd:Kd
 size:Int
 ns:List Nd
def Kd.ok (n:Nat):Kd→Prop
 | .gn y o _=>o≤n∧0≤y∧y≤1048576
 | _=>True
structure St.Ok (s:St):Prop where
 wf:WF s.ns
 len:(s.ns.length:Int)≤s.size
 lo:1≤s.size
 hi:s.size≤1048576
 kd:s.kd.ok s.ns.length
theorem St.Ok.n {s:St} (h:s.Ok):s.ns.length≤1048576:=by have:=h.len;have:=h.hi;omega
theorem wf_args8 {ns:List Nd} (hw:WF ns):∀ nd∈ns,nd.args.length≤8:=by
 intro nd hnd;have h:=(hw nd hnd).1;simp only [Nd.may,mayB,decide_eq_true_eq] at h;omega
def StAt (w:World) (sv:Value) (s:St) (F:Nat→Prop):Prop:=
 match s.kd with
 | .hp t=>∃ a,sv = .iface 172 (.pointer (some ⟨a,0,none⟩))∧ArenaAt 205 277 w a s.size t s.ns F
 | .gn y o t=>∃ a,sv = .iface 169 (.pointer (some ⟨a,0,none⟩))∧GAt w a s.size y o t s.ns F
 | .ref=>False
theorem StAt.lt {w:World} {sv:Value} {s:St} {F:Nat→Prop} (h:StAt w sv s F):∀ b,F b→b < w.heap.size:=by
 obtain ⟨kd,sz,ns⟩:=s;cases kd with
 | hp t=>obtain ⟨a,_,h⟩:=h;obtain ⟨_,_,_,_,_,_,_,_,_,h⟩:=h;exact h
 | gn y o t=>obtain ⟨a,_,h⟩:=h;exact gat_lt h
 | ref=>exact h.elim
theorem StAt.mod {w w':World} {sv:Value} {s:St} {F S:Nat→Prop} (h:StAt w sv s F) (hm:Mod S w w') (hd:∀ b,F b→¬ S b):StAt w' sv s F:=by
 obtain ⟨kd,sz,ns⟩:=s;cases kd with
 | hp t=>obtain ⟨a,e,h⟩:=h;exact ⟨a,e,h.mod hm hd⟩
 | gn y o t=>obtain ⟨a,e,h⟩:=h;exact ⟨a,e,gat_mod h hm hd⟩
 | ref=>exact h.elim
def stRoom (s:St) (n:Int) (roots:List Int):Option (List Int)×St:=
 match s.kd with
 | .hp t=>((roomS s.size t s.ns n roots).out,⟨.hp (roomS s.size t s.ns n roots).times,s.size,(roomS s.size t s.ns n roots).ns⟩)
 | .gn y o t=>((groomS s.size y o t s.ns n roots).res,⟨.gn y (groomS s.size y o t s.ns n roots).old (groomS s.size y o t s.ns n roots).times,s.size,(groomS s.size y o t s.ns n roots).ns⟩)
 | .ref=>if n > s.size - (colNs s.ns roots).length then (none,s) else (some (colRoots s.ns roots),⟨.ref,s.size,colNs s.ns roots⟩)
def stCol (s:St) (roots:List Int):List Int×St:=
 match s.kd with
 | .hp t=>(colRoots s.ns roots,⟨.hp (IntKind.i64.wrap (t+1)),s.size,colNs s.ns roots⟩)
 | .gn y o t=>(smallRoots s.ns 0 roots,⟨.gn y (smallNs s.ns 0 roots).length (IntKind.i64.wrap (t+1)),s.size,smallNs s.ns 0 roots⟩)
 | .ref=>(colRoots s.ns roots,⟨.ref,s.size,colNs s.ns roots⟩)
section
variable {d:Option Nat} {ty:TypeId} {pos:String} {af:Array Edge} {ρ:Env} {w:World} {K:Value→World→Prop} {x:Operand} {args:Array Operand} {at':Array TypeId} {sv:Value} {s:St} {F:Nat→Prop}
theorem s_used (hx:(toO x).ev ρ=some sv) (h:StAt w sv s F) (hk:K (I s.ns.length) w):E.wp Tryz.prog w ρ K (.raw ⟨d,.call { callee:=.invoke x "Used",args:=#[],argTypes:=at'},ty,pos,af,none⟩):=by
 obtain ⟨kd,sz,ns⟩:=s;cases kd with
 | ref=>exact h.elim
 | hp t=>
   obtain ⟨a,rfl,h⟩:=h;refine e_iv hx rfl (mhUsed _ _) Tryz.func237 rfl rfl ((used_ok a _ _ _ _ w h).mono ?_);rintro r _ ⟨rfl,rfl⟩;exact hk
 | gn y o t=>
   obtain ⟨a,rfl,h⟩:=h;refine e_iv hx rfl (mgUsed _ _) Tryz.func192 rfl rfl ((gused_ok w a _ _ _ _ _ _ h).mono ?_);rintro r _ ⟨rfl,rfl⟩;exact hk
theorem s_get {p:Int} (hx:(toO x).ev ρ=some sv) (ha:evs ρ (args.toList.map toO)=some [I p]) (h:StAt w sv s F) (hw:WF s.ns) (hn:s.ns.length≤1048576) (hp:0≤p∧p < s.ns.length)
   (hk:∀ v w',NewOwn w w' v (ndAt s.ns p.toNat).args→Mod (fun _=>False) w w'→K (.tuple #[.agg #[I (ndAt s.ns p.toNat).kind,I (ndAt s.ns p.toNat).num,v],I 0]) w') :
   E.wp Tryz.prog w ρ K (.raw ⟨d,.call { callee:=.invoke x "Get",args:=args,argTypes:=at'},ty,pos,af,none⟩):=by
 obtain ⟨i,rfl⟩:∃ i:Nat,p=i:=⟨p.toNat,by omega⟩;rw [Int.toNat_natCast] at hk;have hi:i < s.ns.length:=by omega
 obtain ⟨kd,sz,ns⟩:=s;cases kd with
 | ref=>exact h.elim
 | hp t=>
   obtain ⟨a,rfl,h⟩:=h;refine e_iv hx ha (mhGet _ _) Tryz.func234 rfl rfl ((get_ok a _ _ _ _ _ w h hn (wf_args8 hw)).mono ?_);rintro r w' ⟨h1,h2,_⟩;obtain ⟨v,rfl,h3⟩:=h2 i (ndAt ns i) rfl (by simp only [ndAt,List.getD_eq_getElem?_getD,List.getElem?_eq_getElem hi,Option.getD_some]);exact hk v w' h3 h1
 | gn y o t=>
   obtain ⟨a,rfl,h⟩:=h;refine e_iv hx ha (mgGet _ _) Tryz.func189 rfl rfl ((gget_ok w a _ _ _ _ _ _ _ h (wf_args8 hw)).mono ?_);rintro r w' ⟨h1,v,fp,hr,h2,h3⟩;have e:ggetS ns (i:Int)=(ndAt ns i,0):=by simp only [ggetS,Int.toNat_natCast];rw [if_pos (by omega)]
   rw [e] at hr h2;subst hr;exact hk v w' ⟨fp,h2,h3⟩ h1
theorem s_set {p:Int} {nd:Nd} {v:Value} (hx:(toO x).ev ρ=some sv) (ha:evs ρ (args.toList.map toO)=some [I p,.agg #[I nd.kind,I nd.num,v]]) (h:StAt w sv s F) (ho:s.Ok) (hp:0≤p∧p < s.ns.length)
   (hm:nd.may=true) (hpl:okPl s.ns.length nd.args=true) (hv:Ints w v nd.args)
   (hk:∀ w' F',StAt w' sv { s with ns:=s.ns.set p.toNat nd} F'→Grow F F' w w'→K (I 0) w') :
   E.wp Tryz.prog w ρ K (.raw ⟨d,.call { callee:=.invoke x "Set",args:=args,argTypes:=at'},ty,pos,af,none⟩):=by
 have hn:=ho.n;have hw:=ho.wf;have hkd:=ho.kd;obtain ⟨kd,sz,ns⟩:=s;have e1:setS ns p nd=(0,ns.set p.toNat nd):=by unfold setS;rw [if_neg (by simpa using hp),if_neg (by simp [hm]),if_neg (by simpa using hpl)]
 have e2:gsetS ns p nd=(0,ns.set p.toNat nd):=by unfold gsetS;rw [if_neg (by simpa using hp),if_neg (by simp [hm]),if_neg (by simpa using hpl)]
 cases kd with
 | ref=>exact h.elim
 | hp t=>
   obtain ⟨a,rfl,h⟩:=h;refine e_iv hx ha (mhSet _ _) Tryz.func236 rfl rfl ((set_ok a _ _ _ _ _ v _ w h hn (wf_args8 hw) hv).mono ?_);rintro r w' ⟨rfl,F',h1,h2⟩;rw [e1] at h1 ⊢;exact hk w' F' ⟨a,rfl,h1⟩ h2
 | gn y o t=>
   obtain ⟨a,rfl,h⟩:=h;refine e_iv hx ha (mgSet _ _) Tryz.func191 rfl rfl ((gset_ok w a _ _ _ _ _ _ _ v _ h hkd.1 hn (wf_args8 hw) hv).mono ?_);rintro r w' ⟨rfl,F',h1,h2⟩;rw [e2] at h1 ⊢;exact hk w' F' ⟨a,rfl,h1⟩ h2
theorem s_add {nd:Nd} {v:Value} (hx:(toO x).ev ρ=some sv) (ha:evs ρ (args.toList.map toO)=some [.agg #[I nd.kind,I nd.num,v]]) (h:StAt w sv s F) (ho:s.Ok)
   (hm:nd.may=true) (hpl:okPl s.ns.length nd.args=true) (hv:Ints w v nd.args)
   (hk:(s.ns.length:Int) < s.size→∀ w' F',StAt w' sv { s with ns:=s.ns++[nd]} F'→Grow F F' w w'→K (.tuple #[I s.ns.length,I 0]) w')
   (hk':(s.ns.length:Int)=s.size→∀ w' F' e,e≠0→StAt w' sv s F'→Grow F F' w w'→K (.tuple #[I 0,I e]) w') :
   E.wp Tryz.prog w ρ K (.raw ⟨d,.call { callee:=.invoke x "Add",args:=args,argTypes:=at'},ty,pos,af,none⟩):=by
 have hn:=ho.n;have hw:=ho.wf;have hkd:=ho.kd;have hl:=ho.len;have hhi:=ho.hi;obtain ⟨kd,sz,ns⟩:=s;cases kd with
 | ref=>exact h.elim
 | hp t=>
   obtain ⟨a,rfl,h⟩:=h;refine e_iv hx ha (mhAdd _ _) Tryz.func231 rfl rfl ((add_ok a _ _ _ _ v _ w h hl hhi hv).mono ?_);rintro r w' ⟨rfl,F',h1,h2⟩;by_cases hs:(ns.length:Int)=sz
   · have e:addS sz ns nd=(0,201,ns):=by unfold addS;rw [if_neg (by simp [hm]),if_neg (by simpa using hpl),if_pos hs]
     rw [e] at h1 ⊢;exact hk' hs w' F' 201 (by decide) ⟨a,rfl,h1⟩ h2
   · have e:addS sz ns nd=((ns.length:Int),0,ns++[nd]):=by unfold addS;rw [if_neg (by simp [hm]),if_neg (by simpa using hpl),if_neg hs]
     rw [e] at h1 ⊢;exact hk (show (ns.length:Int) < sz by have:(ns.length:Int)≤sz:=hl;omega) w' F' ⟨a,rfl,h1⟩ h2
 | gn y o t=>
   obtain ⟨a,rfl,h⟩:=h;refine e_iv hx ha (mgAdd _ _) Tryz.func186 rfl rfl ((gadd_ok w a _ _ _ _ _ _ v _ h hkd.1 hn hv).mono ?_);rintro r w' ⟨rfl,F',h1,h2⟩;by_cases hs:(ns.length:Int)=sz
   · have e:gaddS sz ns nd=(0,211,ns):=by unfold gaddS;rw [if_neg (by simp [hm]),if_neg (by simpa using hpl),if_pos (by omega)]
     rw [e] at h1 ⊢;exact hk' hs w' F' 211 (by decide) ⟨a,rfl,h1⟩ h2
   · have e:gaddS sz ns nd=((ns.length:Int),0,ns++[nd]):=by unfold gaddS;rw [if_neg (by simp [hm]),if_neg (by simpa using hpl),if_neg (by have:(ns.length:Int)≤sz:=hl;omega)]
     rw [e] at h1 ⊢;exact hk (show (ns.length:Int) < sz by have:(ns.length:Int)≤sz:=hl;omega) w' F' ⟨a,rfl,h1⟩ h2
def OutAt (w w':World) (F':Nat→Prop) (v:Value) (l:List Int):Prop:=∃ fp,OwnS w' 3 1 v (l.map I) l.length fp∧∀ b,fp=some b→w.heap.size≤b∧¬ F' b
theorem room_err (size t:Int) (ns:List Nd) (n:Int) (roots:List Int):((roomS size t ns n roots).out=none↔(roomS size t ns n roots).err≠0):=by
 unfold roomS;split
 · simp
 split
 · simp
 split
 · simp
 split<;>simp
theorem groom_err (size y:Int) (o:Nat) (t:Int) (ns:List Nd) (n:Int) (roots:List Int):((groomS size y o t ns n roots).res=none↔(groomS size y o t ns n roots).err≠0):=by
 unfold groomS;split
 · simp
 split
 · simp
 split
 · simp
 split
 · unfold endS;split<;>simp
 · simp
theorem s_room {n:Int} {v:Value} {roots:List Int} (hx:(toO x).ev ρ=some sv) (ha:evs ρ (args.toList.map toO)=some [I n,v]) (h:StAt w sv s F) (ho:s.Ok) (hr:Ints w v roots)
   (hv:roots≠[]→∀ x,vblk v=some x→¬ F x) (hsm:roots.length≤17592186044416)
   (hk0:(stRoom s n roots).1=none→∀ w' F' e,e≠0→StAt w' sv (stRoom s n roots).2 F'→Grow F F' w w'→K (.tuple #[.slice none 0 0,I e]) w')
   (hk1:∀ l,(stRoom s n roots).1=some l→∀ w' F' v',StAt w' sv (stRoom s n roots).2 F'→Grow F F' w w'→OutAt w w' F' v' l→K (.tuple #[v',I 0]) w') :
   E.wp Tryz.prog w ρ K (.raw ⟨d,.call { callee:=.invoke x "Room",args:=args,argTypes:=at'},ty,pos,af,none⟩):=by
 have hn:=ho.n;have hw:=ho.wf;have hkd:=ho.kd;have hlo:=ho.lo;have hhi:=ho.hi;obtain ⟨kd,sz,ns⟩:=s;cases kd with
 | ref=>exact h.elim
 | hp t=>
   obtain ⟨a,rfl,h⟩:=h;refine e_iv hx ha (mhRoom _ _) Tryz.func235 rfl rfl ((room_ok a _ _ _ _ w n v roots h hn (by have:1≤sz:=hlo;omega) hhi hw hr).mono ?_);rintro r w' ⟨F',h1,h2,h3,h4⟩;cases ho:(roomS sz t ns n roots).out with
   | none=>
     rw [h3 ho];exact hk0 ho w' F' _ ((room_err _ _ _ _ _).1 ho) ⟨a,rfl,h1⟩ h2
   | some l=>
     obtain ⟨v',fp,rfl,h5,h6⟩:=h4 l ho;have e:(roomS sz t ns n roots).err=0:=by
       apply Classical.byContradiction;intro hne;rw [(room_err _ _ _ _ _).2 hne] at ho;cases ho
     rw [e];exact hk1 l ho w' F' v' ⟨a,rfl,h1⟩ h2 ⟨fp,h5,h6⟩
 | gn y o t=>
   obtain ⟨a,rfl,h⟩:=h;refine e_iv hx ha (mgRoom _ _) Tryz.func190 rfl rfl ((groom_ok w a _ _ _ _ _ _ h hkd.1 hw hn ⟨by have:1≤sz:=hlo;omega,hhi⟩ hkd.2 n v roots hr hv hsm).mono ?_);rintro r w' ⟨v',F',rfl,h1,h2,h3,h4⟩;cases ho:(groomS sz y o t ns n roots).res with
   | none=>
     rw [h3 ho];exact hk0 ho w' F' _ ((groom_err _ _ _ _ _ _ _).1 ho) ⟨a,rfl,h1⟩ h2
   | some l=>
     have e:(groomS sz y o t ns n roots).err=0:=by
       apply Classical.byContradiction;intro hne;rw [(groom_err _ _ _ _ _ _ _).2 hne] at ho;cases ho
     rw [e];exact hk1 l ho w' F' v' ⟨a,rfl,h1⟩ h2 (h4 l ho)
theorem s_col {v:Value} {roots:List Int} (hx:(toO x).ev ρ=some sv) (ha:evs ρ (args.toList.map toO)=some [v]) (h:StAt w sv s F) (ho:s.Ok) (hr:Ints w v roots) (hok:okPl s.ns.length roots=true)
   (hv:roots≠[]→∀ x,vblk v=some x→¬ F x) (hsm:roots.length≤17592186044416)
   (hk:∀ w' F' v',StAt w' sv (stCol s roots).2 F'→Grow F F' w w'→OutAt w w' F' v' (stCol s roots).1→K (.tuple #[v',I 0]) w') :
   E.wp Tryz.prog w ρ K (.raw ⟨d,.call { callee:=.invoke x "Collect",args:=args,argTypes:=at'},ty,pos,af,none⟩):=by
 have hn:=ho.n;have hw:=ho.wf;have hkd:=ho.kd;obtain ⟨kd,sz,ns⟩:=s;cases kd with
 | ref=>exact h.elim
 | hp t=>
   obtain ⟨a,rfl,h⟩:=h;refine e_iv hx ha (mhCollect _ _) Tryz.func232 rfl rfl ((col_ok a _ _ _ _ w v roots h hn hw hr).mono ?_);rintro r w' ⟨_,h1⟩;obtain ⟨v',fp,F',rfl,h2,h3,h4,h5⟩:=h1 hok;exact hk w' F' v' ⟨a,rfl,h3⟩ h4 ⟨fp,h2,h5⟩
 | gn y o t=>
   obtain ⟨a,rfl,h⟩:=h;refine e_iv hx ha (mgCollect _ _) Tryz.func187 rfl rfl ((gcol_ok w a _ _ _ _ _ _ h hw hn v roots hr hv hsm).mono ?_);rintro r w' ⟨_,h1⟩;obtain ⟨v',rfl,fq,F',h2,h3,h4,h5⟩:=h1 hok;refine hk w' F' v' ⟨a,rfl,h3⟩ h4 ⟨fq,?_,h5⟩;have e:(smallRoots ns 0 roots).length=roots.length:=by simp [smallRoots]
   show OwnS w' 3 1 v' ((smallRoots ns 0 roots).map I) (smallRoots ns 0 roots).length fq;rw [e];exact h2
end
end
section
open Go Go.W
structure Ins where
 op:Int
 a:Int
 b:Int
structure Gl where
 name:ByteArray
 arity:Int
 code:List Ins
structure Shp where
 name:ByteArray
 fields:Int
 deriving DecidableEq
structure Tab where
 shapes:List Shp
 globals:List Gl
structure It where
 con:ByteArray
 num:Int
structure Fr where
 runs:Bool
 glob:Int
 at':Int
 stack:List Int
 spine:List Int
 stands:Int
structure Mc where
 tab:Tab
 input:List Int
 gens:Bool
 every:Int
 young:Int
 base:Int
 globals:List Int
 frames:List Fr
 wait:List Int
 given:Bool
 told:List It
 steps:Int
 ended:Int
 stuck:Int
 live:Int
 st:St
def Tab.gl (t:Tab) (g:Int):Gl:=t.globals.getD g.toNat ⟨⟨#[]⟩,0,[]⟩
def Tab.sh (t:Tab) (c:Int):Shp:=t.shapes.getD c.toNat ⟨⟨#[]⟩,0⟩
def Gl.ins (g:Gl) (i:Int):Ins:=g.code.getD i.toNat ⟨0,0,0⟩
def St.ov (s:St) (p:Int):Nat:=over s.ns p.toNat
def St.nd (s:St) (p:Int):Nd:=ndAt s.ns (s.ov p)
def St.set (s:St) (p:Nat) (nd:Nd):St:={ s with ns:=s.ns.set p nd}
def St.add (s:St) (nd:Nd):St:={ s with ns:=s.ns++[nd]}
def Fr.mapP (g:Int→Int) (f:Fr):Fr:={ f with stack:=f.stack.map g,spine:=f.spine.map g,stands:=g f.stands}
def Mc.mapP (g:Int→Int) (M:Mc):Mc:={ M with globals:=M.globals.map g,frames:=M.frames.map (Fr.mapP g),wait:=M.wait.map g}
def Fr.roots (f:Fr):List Int:=f.spine++f.stack++[f.stands]
def Mc.roots (M:Mc):List Int:=M.globals++M.frames.flatMap Fr.roots++M.wait
def Fr.place (f:Fr) (n:Int):Int:=f.stack.getD (f.stack.length - 1 - n.toNat) 0
def Fr.push (f:Fr) (p:Int):Fr:={ f with stack:=f.stack++[p]}
def Fr.pop (f:Fr) (n:Int):Fr:={ f with stack:=f.stack.take (f.stack.length - n.toNat)}
def Mc.top (M:Mc):Fr:=M.frames.getD (M.frames.length - 1) ⟨false,0,0,[],[],0⟩
def Mc.setTop (M:Mc) (f:Fr):Mc:={ M with frames:=M.frames.set (M.frames.length - 1) f}
def Mc.ref (M:Mc):Bool:=match M.st.kd with | .ref=>true | _=>false
def Mc.nv (M:Mc) (p:Int):Int:=if M.ref then (M.st.ov p:Int) else p
def Mc.fail (M:Mc) (how:Int):Mc:={ M with ended:=3,stuck:=how}
def Mc.leave (M:Mc):Mc:={ M with frames:=M.frames.take (M.frames.length - 1)}
def newFr (p:Int):Fr:=⟨false,0,0,[],[],p⟩
def Mc.enter (M:Mc) (p:Int):Mc:={ M with frames:=M.frames++[newFr p]}
def Mc.quick (M:Mc) (n:Int):Bool:=decide (n≤M.st.size - M.st.ns.length)&&(M.ref || !M.gens||decide (M.st.ns.length - M.base+n≤M.young))
def stRen (s:St) (n:Int) (roots:List Int):Int→Int:=
 match s.kd with
 | .hp _=>if n≤s.size - s.ns.length then id else num s.ns (reached s.ns roots)
 | .ref=>num s.ns (reached s.ns roots)
 | .gn y o _=>if n≤y - (s.ns.length - o)∧n≤s.size - s.ns.length then id
   else if n > s.size - (smallNs s.ns o roots).length then fun p=>numF (smallNs s.ns o roots) 0 (smallO (smallNs s.ns o roots) 0 (smallRoots s.ns o roots)) (numF s.ns o (smallO s.ns o roots) p)
   else numF s.ns o (smallO s.ns o roots)
def Mc.after (M:Mc) (g:Int→Int) (s:St):Mc:={ M.mapP g with st:=s,base:=s.ns.length}
def Mc.room (M:Mc) (n:Int):Bool×Mc:=
 if M.quick n=true then (true,M) else
 match (stRoom M.st n M.roots).1 with
 | none=>(false,{ M with st:=(stRoom M.st n M.roots).2,live:=if M.ref then (reached M.st.ns M.roots).length else (stRoom M.st n M.roots).2.ns.length,ended:=5})
 | some _=>(true,M.after (stRen M.st n M.roots) (stRoom M.st n M.roots).2)
def Mc.item (M:Mc) (nd:Nd):It:=if nd.kind=1 then ⟨⟨#[]⟩,nd.num⟩ else ⟨(M.tab.sh nd.num).name,0⟩
def Mc.last (M:Mc):Int:=M.wait.getD (M.wait.length - 1) 0
def Mc.tell (M:Mc):Mc:=
 if (M.st.nd M.last).kind=1∨(M.st.nd M.last).kind=2 then
   { M with told := M.told ++ [M.item (M.st.nd M.last)], wait := M.wait.take (M.wait.length - 1) ++ (M.st.nd M.last).args.reverse,
            ended:=if (M.wait.take (M.wait.length - 1)++(M.st.nd M.last).args.reverse).length=0 then 2 else M.ended}
 else M.enter (M.nv M.last)
def Fr.own (f:Fr) (ar:Int):List Int:=f.spine.drop (f.spine.length - ar.toNat)
def Mc.head (M:Mc) (f:Fr) (ar:Int):Int:=match f.own ar with
 | []=>M.st.ov f.stands
 | s::_=>if M.ref then s else M.st.ov s
def Mc.call (M:Mc) (f:Fr) (g:Int):Mc:=
 if (f.own (M.tab.gl g).arity).all (fun s=>decide ((M.st.nd s).kind=3))=true then
   { M.setTop { f with runs:=true,glob:=g,at':=0,stack:=M.head f (M.tab.gl g).arity::(f.own (M.tab.gl g).arity).map (fun s=>(M.st.nd s).args.getD 1 0),spine:=f.spine.take (f.spine.length - (M.tab.gl g).arity.toNat)}
     with st:=M.st.set (M.st.ov (M.head f (M.tab.gl g).arity)) ⟨7,0,[]⟩}
 else M.fail 5
def Mc.lacks2 (M:Mc):Mc:=
 { M.setTop { M.top with stands:=(M.st.ns.length:Int)+1,spine:=[]} with
   given:=true,wait:=M.wait.set (M.wait.length - 1) ((M.st.ns.length:Int)+1),st:=(M.st.add ⟨8,0,[]⟩).add ⟨3,0,[M.last,M.st.ns.length]⟩}
def Mc.lacks (M:Mc):Mc:=
 if M.frames.length > 1 then M.leave
 else if M.given=true∨M.told.length > 0 then M.fail 5
 else if (M.room 2).1=true then (M.room 2).2.lacks2 else (M.room 2).2
def Mc.read2 (M:Mc) (k:Int):Mc:=
 { M with st:=((M.st.add ⟨1,M.input.getD k.toNat 0,[]⟩).add ⟨8,k+1,[]⟩).set (M.st.ov M.top.stands) ⟨2,4,[(M.st.ns.length:Int),(M.st.ns.length:Int)+1]⟩}
def Mc.read (M:Mc) (f:Fr) (k:Int):Mc:=
 if k≥M.input.length then { M with st:=M.st.set (M.st.ov f.stands) ⟨2,3,[]⟩}
 else if (M.room 2).1=true then (M.room 2).2.read2 k else (M.room 2).2
def Mc.unwind (M:Mc) (f:Fr):Mc:=
 if (M.st.nd f.stands).kind=3 then M.setTop { f with spine:=f.spine++[(M.st.ov f.stands:Int)],stands:=(M.st.nd f.stands).args.getD 0 0}
 else if (M.st.nd f.stands).kind=4 then (if (f.spine.length:Int)≥(M.tab.gl (M.st.nd f.stands).num).arity then M.call f (M.st.nd f.stands).num else M.lacks)
 else if (M.st.nd f.stands).kind=1∨(M.st.nd f.stands).kind=2 then (if f.spine.length > 0 then M.fail 5 else M.leave)
 else if (M.st.nd f.stands).kind=8 then M.read f (M.st.nd f.stands).num
 else if (M.st.nd f.stands).kind=6 then M.fail 5
 else M.fail 4
def cellsOf (x:Ins):Int:=if x.op=3∨x.op=6∨x.op=9∨x.op=12 then 1 else if x.op=8 then x.a else 0
def Mc.put (M:Mc) (nd:Nd) (drop:Int):Mc:={ M.setTop ((M.top.pop drop).push M.st.ns.length) with st:=M.st.add nd}
def cmpI (op a b:Int):Bool:=
 if op=6 then decide (a=b) else if op=7 then decide (a≠b) else if op=8 then decide (a < b) else if op=9 then decide (a≤b) else if op=10 then decide (a > b) else decide (a≥b)
def wrap63 (n:Int):Int:=(n+4611686018427387904) % 9223372036854775808 - 4611686018427387904
def arithNd (op a b:Int):Nd:=
 if op=1 then ⟨1,wrap63 (a+b),[]⟩ else if op=2 then ⟨1,wrap63 (a - b),[]⟩ else if op=3 then ⟨1,wrap63 (a*b),[]⟩ else if op=4 then ⟨1,wrap63 (a.tdiv b),[]⟩ else if op=5 then ⟨1,wrap63 (a.tmod b),[]⟩
 else if cmpI op a b=true then ⟨2,1,[]⟩ else ⟨2,0,[]⟩
def Mc.arith (M:Mc) (x:Ins):Mc:=
 if (M.st.nd (M.top.place 0)).kind≠1∨(M.st.nd (M.top.place 1)).kind≠1 then M.fail 5
 else if (x.a=4∨x.a=5)∧(M.st.nd (M.top.place 1)).num=0 then M.fail 3
 else M.put (arithNd x.a (M.st.nd (M.top.place 0)).num (M.st.nd (M.top.place 1)).num) 2
def Mc.alloc (M:Mc) (n:Nat):Mc:=
 { M.setTop { M.top with stack:=M.top.stack++(List.range n).map fun i=>((M.st.ns.length+i:Nat):Int)} with st:={ M.st with ns:=M.st.ns++List.replicate n ⟨6,0,[]⟩}}
def Mc.jumpIf (M:Mc) (bad go:Bool) (b:Int):Mc:=if bad=true then M.fail 5 else if go=true then M.setTop { M.top with at':=b} else M
def Mc.exec (M:Mc) (x:Ins):Mc:=
 if x.op=1 then M.setTop (M.top.push (M.top.place x.a))
 else if x.op=2 then M.setTop (M.top.push (M.globals.getD x.a.toNat 0))
 else if x.op=3 then M.put ⟨1,x.a,[]⟩ 0
 else if x.op=4 then M.setTop (M.top.pop x.a)
 else if x.op=5 then M.setTop ((M.top.pop (x.a+1)).push (M.top.place 0))
 else if x.op=6 then M.put ⟨3,0,[M.top.place 0,M.top.place 1]⟩ 2
 else if x.op=7 then { M.setTop (M.top.pop 1) with st:=M.st.set (M.st.ov (M.top.place x.a)) ⟨5,0,[(M.st.ov (M.top.place 0):Int)]⟩}
 else if x.op=8 then M.alloc x.a.toNat
 else if x.op=9 then M.put ⟨2,x.a,(List.range (M.tab.sh x.a).fields.toNat).map fun i:Nat=>M.top.place (i:Int)⟩ (M.tab.sh x.a).fields
 else if x.op=10 then
   (if (M.st.nd (M.top.place 0)).kind≠2∨(M.st.nd (M.top.place 0)).num≠x.a∨((M.st.nd (M.top.place 0)).args.length:Int)≠(M.tab.sh x.a).fields then M.fail 5
     else M.setTop { M.top.pop 1 with stack:=(M.top.pop 1).stack++(M.st.nd (M.top.place 0)).args.reverse})
 else if x.op=11 then (if (M.st.nd (M.top.place 0)).kind≠1∧(M.st.nd (M.top.place 0)).kind≠2 then M.enter (M.nv (M.top.place 0)) else M)
 else if x.op=12 then M.arith x
 else if x.op=13 then M.setTop { M.top with at':=x.a}
 else if x.op=14 then M.jumpIf (decide ((M.st.nd (M.top.place 0)).kind≠2)) (decide ((M.st.nd (M.top.place 0)).num≠x.a)) x.b
 else if x.op=15 then M.jumpIf (decide ((M.st.nd (M.top.place 0)).kind≠1)) (decide ((M.st.nd (M.top.place 0)).num≠x.a)) x.b
 else if x.op=16 then M.fail x.a
 else M.setTop { M.top with runs:=false,stands:=M.top.stack.getD 0 0,stack:=[]}
def Mc.insOf (M:Mc):Ins:=(M.tab.gl M.top.glob).ins M.top.at'
def Mc.next (M:Mc):Mc:=M.setTop { M.top with at':=M.top.at'+1}
def Mc.run (M:Mc):Mc:=
 if cellsOf M.insOf > 0∧(M.room (cellsOf M.insOf)).1=false then (M.room (cellsOf M.insOf)).2
 else if cellsOf M.insOf > 0 then (M.room (cellsOf M.insOf)).2.next.exec M.insOf
 else M.next.exec M.insOf
def Mc.work (M:Mc):Mc:=if M.frames.length=0 then M.tell else if M.top.runs=true then M.run else M.unwind M.top
def colRen (s:St) (roots:List Int):Int→Int:=
 match s.kd with
 | .gn _ _ _=>numF s.ns 0 (smallO s.ns 0 roots)
 | _=>num s.ns (reached s.ns roots)
def Mc.tidy (M:Mc):Mc:=if M.every > 0∧M.steps.tmod M.every=0 then M.after (colRen M.st M.roots) (stCol M.st M.roots).2 else M
def Mc.step (M:Mc):Mc:=
 if M.ended≠0 then M
 else if M.work.ended=5 then M.work
 else ({ M.work with steps:=M.work.steps+1}).tidy
end
section
open Go Go.W
inductive Tg where
 | no | tb | m | gl | fr | wt | tl | st
 | fb (i:Nat)
 | fs (i:Nat)
 | fp (i:Nat)
 deriving DecidableEq
abbrev Tag:=Nat→Tg
def Tag.is (τ:Tag) (fp:Option Nat) (t:Tg):Prop:=∀ b,fp=some b→τ b=t
def Tag.ext (τ τ':Tag) (w:World):Prop:=∀ b,b < w.heap.size→τ' b=τ b
def Tag.wx (τ τ':Tag) (w:World):Prop:=∀ b,b < w.heap.size→τ b≠.no→τ' b=τ b
theorem Tag.ext.wx {τ τ':Tag} {w:World} (h:τ.ext τ' w):τ.wx τ' w:=fun b hb _=>h b hb
theorem ext_refl (τ:Tag) (w:World):τ.ext τ w:=fun _ _=>rfl
theorem ext_trans {τ τ' τ'':Tag} {w w':World} (h:τ.ext τ' w) (h':τ'.ext τ'' w') (hs:w.heap.size≤w'.heap.size):τ.ext τ'' w:=
 fun b hb=>(h' b (Nat.lt_of_lt_of_le hb hs)).trans (h b hb)
def newTag (τ:Tag) (w:World) (t:Tg):Tag:=fun b=>if b < w.heap.size then τ b else t
theorem newTag_ext (τ:Tag) (w:World) (t:Tg):τ.ext (newTag τ w t) w:=fun b hb=>by simp [newTag,hb]
theorem newTag_new {τ:Tag} {w:World} {t:Tg} {b:Nat} (h:w.heap.size≤b):newTag τ w t b=t:=by simp [newTag,Nat.not_lt.2 h]
theorem is_ext {τ τ':Tag} {w:World} {fp:Option Nat} {t:Tg} (h:τ.is fp t) (he:τ.wx τ' w) (hl:∀ b,fp=some b→b < w.heap.size) (ht:t≠.no:=by decide):τ'.is fp t:=
 fun b hb=>(he b (hl b hb) (by rw [h b hb];exact ht)).trans (h b hb)
theorem is_new {τ:Tag} {w:World} {fp fp':Option Nat} {t:Tg} (h:τ.is fp t) (hl:∀ b,fp=some b→b < w.heap.size) (hf:∀ b,fp'=some b→fp=some b∨w.heap.size≤b):(newTag τ w t).is fp' t:=by
 intro b hb;rcases hf b hb with h1 | h1
 · exact (newTag_ext τ w t b (hl b h1)).trans (h b h1)
 · exact newTag_new h1
def RowsAt (w:World) (v:Value) (sz:Nat) (rows:List (List Value)) (B:Nat→Prop):Prop:=
 ∃ a c,v = .slice a rows.length c∧(0 < rows.length→∀ ad,a=some ad→B ad.block)∧∀ i (h:i < rows.length),∃ ad,a=some ad∧rows[i].length=sz∧∀ k (hk:k < rows[i].length),w.cell? ((ad.add (i*sz)).add k)=some rows[i][k]
theorem RowsAt.mod {w w':World} {v:Value} {sz:Nat} {rows:List (List Value)} {B B' S:Nat→Prop} (h:RowsAt w v sz rows B) (hm:Mod S w w') (hd:∀ b,B b→¬ S b) (hB:∀ b,B b→B' b):RowsAt w' v sz rows B':=by
 obtain ⟨a,c,rfl,hb,h⟩:=h;refine ⟨a,c,rfl,fun h0 ad h=>hB _ (hb h0 ad h),fun i hi=>?_⟩;obtain ⟨ad,rfl,hl,hc⟩:=h i hi;refine ⟨ad,rfl,hl,fun k hk=>hm.cell (hc k hk) ?_⟩;rw [add_block,add_block];exact hd _ (hb (by omega) _ rfl)
def insRow (x:Ins):List Value:=[I x.op,I x.a,I x.b]
def shRow (s:Shp):List Value:=[.string s.name,I s.fields]
def TabAt (w:World) (vsh vgl:Value) (T:Tab) (B:Nat→Prop):Prop:=
 RowsAt w vsh 2 (T.shapes.map shRow) B∧∃ codes:List Value,codes.length=T.globals.length∧RowsAt w vgl 3 (List.zipWith (fun (g:Gl) (v:Value)=>[.string g.name,I g.arity,v]) T.globals codes) B ∧
   ∀ (i:Nat) (g:Gl) (v:Value),T.globals[i]? = some g→codes[i]? = some v→RowsAt w v 3 (g.code.map insRow) B
theorem TabAt.mod {w w':World} {vsh vgl:Value} {T:Tab} {B B' S:Nat→Prop} (h:TabAt w vsh vgl T B) (hm:Mod S w w') (hd:∀ b,B b→¬ S b) (hB:∀ b,B b→B' b):TabAt w' vsh vgl T B':=by
 obtain ⟨h1,codes,h2,h3,h4⟩:=h;exact ⟨h1.mod hm hd hB,codes,h2,h3.mod hm hd hB,fun i g v hg hv=>(h4 i g v hg hv).mod hm hd hB⟩
def frCells (f:Fr) (vs vp:Value):List Value:=[.bool f.runs,I f.glob,I f.at',vs,vp,I f.stands]
structure FrIn (w:World) (τ:Tag) (i k:Nat) (f:Fr) (vs vp:Value) (fs fp:Option Nat):Prop where
 cells:w.heap[k]? = some (.cells (frCells f vs vp).toArray 151 (0,0))
 tk:τ k = .fb i
 stack:OwnS w 3 1 vs (f.stack.map I) f.stack.length fs
 ts:τ.is fs (.fs i)
 spine:OwnS w 3 1 vp (f.spine.map I) f.spine.length fp
 tp:τ.is fp (.fp i)
def FrAt (w:World) (τ:Tag) (i k:Nat) (f:Fr):Prop:=∃ vs vp fs fp,FrIn w τ i k f vs vp fs fp
def Tg.frm (i:Nat) (t:Tg):Prop:=t = .fb i∨t = .fs i∨t = .fp i
theorem FrIn.lt {w:World} {τ:Tag} {i k:Nat} {f:Fr} {vs vp:Value} {fs fp:Option Nat} (h:FrIn w τ i k f vs vp fs fp):k < w.heap.size∧(∀ b,fs=some b→b < w.heap.size)∧∀ b,fp=some b→b < w.heap.size:=
 ⟨lt_of_heap h.cells,fun b hb=>h.stack.lt hb,fun b hb=>h.spine.lt hb⟩
theorem FrIn.mod {w w':World} {τ τ':Tag} {i k:Nat} {f:Fr} {vs vp:Value} {fs fp:Option Nat} {S:Nat→Prop} (h:FrIn w τ i k f vs vp fs fp) (hm:Mod S w w') (he:τ.wx τ' w) (hd:∀ b,b < w.heap.size→S b→¬ (τ b).frm i):FrIn w' τ' i k f vs vp fs fp:=by
 obtain ⟨l1,l2,l3⟩:=h.lt
 exact ⟨hm.at h.cells (fun hs=>hd _ l1 hs (.inl h.tk)),(he _ l1 (by rw [h.tk];simp)).trans h.tk,h.stack.mod hm (fun b hb hs=>hd _ (l2 b hb) hs (.inr (.inl (h.ts b hb)))),is_ext h.ts he l2 (by simp),
   h.spine.mod hm (fun b hb hs=>hd _ (l3 b hb) hs (.inr (.inr (h.tp b hb)))),is_ext h.tp he l3 (by simp)⟩
theorem FrAt.mod {w w':World} {τ τ':Tag} {i k:Nat} {f:Fr} {S:Nat→Prop} (h:FrAt w τ i k f) (hm:Mod S w w') (he:τ.wx τ' w) (hd:∀ b,b < w.heap.size→S b→¬ (τ b).frm i):FrAt w' τ' i k f:=by
 obtain ⟨vs,vp,fs,fp,h⟩:=h;exact ⟨vs,vp,fs,fp,h.mod hm he hd⟩
def FrOp (w:World) (τ:Tag) (i k:Nat) (f':Fr) (w':World):Prop:=∃ τ',τ.ext τ' w∧FrAt w' τ' i k f'∧Mod (fun b=>(τ b).frm i) w w'
theorem sl_same (a:Option Addr) (c:Nat):(if c=0 then a else Option.map (fun x=>x) a)=a:=by
 split
 · rfl
 · cases a<;>rfl
theorem own_pre {w:World} {T sz n c:Nat} {a:Option Addr} {xs:List Value} {fp:Option Nat} (h:OwnS w T sz (.slice a n c) xs n fp) {k:Nat} (hk:k≤n):OwnS w T sz (.slice a k c) (xs.take (k*sz)) k fp:=by
 obtain ⟨h1,h2⟩:=h;refine ⟨by rw [List.length_take,h1];exact Nat.min_eq_left (Nat.mul_le_mul_right _ hk),?_⟩;rcases h2 with ⟨e,rfl,rfl⟩ | ⟨b,c',sp,e,rfl,h3,h4,h5⟩
 · cases e;obtain rfl:k=0:=by omega
   exact .inl ⟨rfl,rfl,rfl⟩
 · cases e;refine .inr ⟨b,c,xs.drop (k*sz)++sp,rfl,rfl,?_,?_,by omega⟩
   · rw [← List.append_assoc,List.take_append_drop];exact h3
   · rw [← List.append_assoc,List.take_append_drop];exact h4
theorem own_cell {w:World} {T n c:Nat} {a:Option Addr} {xs:List Value} {fp:Option Nat} (h:OwnS w T 1 (.slice a n c) xs n fp) {i:Nat} (hi:i < n):∃ b,a=some ⟨b,0,none⟩∧fp=some b∧w.cell? ⟨b,i,none⟩=xs[i]?:=by
 obtain ⟨b,c',sp,e,h1,h2,_⟩:=h.pos (by omega);cases e;refine ⟨b,rfl,h1,?_⟩;rw [cell_of h2];have:i < xs.length:=by rw [h.1];omega
 simp [List.getElem?_append_left this]
theorem f_place {w:World} {τ:Tag} {i k:Nat} {f:Fr} (h:FrAt w τ i k f) (hs:f.stack.length≤4294967296) {n:Int} (hn:0≤n∧n < f.stack.length) :
   CallsR Tryz.prog 112 [.pointer (some ⟨k,0,none⟩),I n] w fun r w'=>r=I (f.place n)∧w'=w.drew:=by
 obtain ⟨vs,vp,fs,fp,h⟩:=h;obtain ⟨n,rfl⟩:∃ m:Nat,n=m:=⟨n.toNat,by omega⟩;obtain ⟨a,c,rfl,hc,_⟩:=h.stack.val;have hl:=h.stack.1;have hc0:=h.cells;refine fit112.calls rfl ?_;unfold ir112;obtain ⟨b,rfl,_,e⟩:=own_cell h.stack (i:=f.stack.length - 1 - n) (by omega);have e1:IntKind.i64.wrap (IntKind.i64.wrap ((f.stack.length:Int) - 1) - n)=((f.stack.length - 1 - n:Nat):Int):=by
   rw [wrap_in (n:=(f.stack.length:Int) - 1) (by omega) (by omega),wrap_in (by omega) (by omega)];omega
 have e2:(0:Int)≤((f.stack.length - 1 - n:Nat):Int)∧((f.stack.length - 1 - n:Nat):Int) < f.stack.length:=by omega
 have e3:w.cell? ⟨b,f.stack.length - 1 - n,none⟩=some (I (f.place n)):=by
   rw [e,List.getElem?_map,List.getElem?_eq_getElem (by omega:f.stack.length - 1 - n < f.stack.length)];simp only [Fr.place,Int.toNat_natCast,List.getD_eq_getElem?_getD,List.getElem?_eq_getElem (by omega:f.stack.length - 1 - n < f.stack.length),Option.getD_some,Option.map_some]
 (try simp only [go_sem,simprocAttr,zb4,zb6,cell_of hc0,frCells,e1,e2,e3,add_at])
theorem fr_apart {w:World} {τ:Tag} {i k:Nat} {f:Fr} {vs vp:Value} {fs fp:Option Nat} (h:FrIn w τ i k f vs vp fs fp):fs≠some k∧fp≠some k∧∀ b,fs=some b→fp≠some b:=by
 refine ⟨fun e=>?_,fun e=>?_,fun b e e'=>?_⟩
 · have:=h.ts k e;rw [h.tk] at this;cases this
 · have:=h.tp k e;rw [h.tk] at this;cases this
 · have:=h.ts b e;rw [h.tp b e'] at this;cases this
theorem fr_stack {w w2 w3:World} {τ:Tag} {i k:Nat} {f f':Fr} {vs vp vs':Value} {fs fp fs':Option Nat} (h:FrIn w τ i k f vs vp fs fp) (ho:OwnS w2 3 1 vs' (f'.stack.map I) f'.stack.length fs') (e:f'.spine=f.spine)
   (hb:w3.heap[k]? = some (.cells (frCells f' vs' vp).toArray 151 (0,0))) (hm2:Mod (fun b=>fs=some b) w w2) (hm3:Mod (· = k) w2 w3) (hf:∀ b,fs'=some b→fs=some b∨w.heap.size≤b):FrOp w τ i k f' w3:=by
 obtain ⟨l1,l2,l3⟩:=h.lt;obtain ⟨a1,a2,a3⟩:=fr_apart h;have hm:Mod (fun b=>fs=some b∨b=k) w w3:=(hm2.weak (fun _ h=>.inl h)).step (hm3.weak (fun _ h=>.inr h)) (fun x hx _=>hx);have hk:fs'≠some k:=fun e=>by
   rcases hf k e with h1 | h1
   · exact a1 h1
   · omega
 have ht:=newTag_ext τ w (.fs i);refine ⟨newTag τ w (.fs i),ht,⟨vs',vp,fs',fp,hb,(ht k l1).trans h.tk,ho.mod hm3 (fun b hb hh=>hk (by rw [hb,hh])),is_new h.ts l2 hf,?_,is_ext h.tp ht.wx l3 (by simp)⟩,hm.weak ?_⟩
 · rw [e];refine h.spine.mod hm (fun b hb2 hh=>?_);rcases hh with hh | hh
   · exact a3 b hh hb2
   · exact a2 (hh ▸ hb2)
 · rintro b (hh | rfl)
   · exact .inr (.inl (h.ts b hh))
   · exact .inl h.tk
theorem fr_spine {w w2 w3:World} {τ:Tag} {i k:Nat} {f f':Fr} {vs vp vp':Value} {fs fp fp':Option Nat} (h:FrIn w τ i k f vs vp fs fp) (ho:OwnS w2 3 1 vp' (f'.spine.map I) f'.spine.length fp') (e:f'.stack=f.stack)
   (hb:w3.heap[k]? = some (.cells (frCells f' vs vp').toArray 151 (0,0))) (hm2:Mod (fun b=>fp=some b) w w2) (hm3:Mod (· = k) w2 w3) (hf:∀ b,fp'=some b→fp=some b∨w.heap.size≤b):FrOp w τ i k f' w3:=by
 obtain ⟨l1,l2,l3⟩:=h.lt;obtain ⟨a1,a2,a3⟩:=fr_apart h;have hm:Mod (fun b=>fp=some b∨b=k) w w3:=(hm2.weak (fun _ h=>.inl h)).step (hm3.weak (fun _ h=>.inr h)) (fun x hx _=>hx);have hk:fp'≠some k:=fun e=>by
   rcases hf k e with h1 | h1
   · exact a2 h1
   · omega
 have ht:=newTag_ext τ w (.fp i);refine ⟨newTag τ w (.fp i),ht,⟨vs,vp',fs,fp',hb,(ht k l1).trans h.tk,?_,is_ext h.ts ht.wx l2 (by simp),ho.mod hm3 (fun b hb hh=>hk (by rw [hb,hh])),is_new h.tp l3 hf⟩,hm.weak ?_⟩
 · rw [e];refine h.stack.mod hm (fun b hb2 hh=>?_);rcases hh with hh | hh
   · exact a3 b hb2 hh
   · exact a1 (hh ▸ hb2)
 · rintro b (hh | rfl)
   · exact .inr (.inr (h.tp b hh))
   · exact .inl h.tk
theorem fr_cells {w w3:World} {τ:Tag} {i k:Nat} {f f':Fr} {vs vp:Value} {fs fp:Option Nat} (h:FrIn w τ i k f vs vp fs fp) (e:f'.stack=f.stack) (e':f'.spine=f.spine)
   (hb:w3.heap[k]? = some (.cells (frCells f' vs vp).toArray 151 (0,0))) (hm3:Mod (· = k) w w3):FrOp w τ i k f' w3:=
 fr_stack h (by rw [e];exact h.stack) e' hb (Mod.refl _ w) hm3 (fun b hb=>.inl hb)
theorem f_push {w:World} {τ:Tag} {i k:Nat} {f:Fr} (h:FrAt w τ i k f) (hs:f.stack.length≤4294967296) (p:Int) :
   CallsR Tryz.prog 111 [.pointer (some ⟨k,0,none⟩),I p] w fun _ w'=>FrOp w τ i k (f.push p) w':=by
 obtain ⟨vs,vp,fs,fp,h⟩:=h;obtain ⟨a,c,rfl,hc,_⟩:=h.stack.val;have hc0:=h.cells;obtain ⟨l1,l2,l3⟩:=h.lt;refine fit111.calls rfl ?_;unfold ir111;(try simp only [go_sem,simprocAttr,cell_of hc0,frCells]);refine e_bs (by rfl) (by rfl) ?_;intro w1 hb1 hm1 hs1;(try simp only [go_sem,simprocAttr]);refine e_ap (v:=.slice a f.stack.length c) (news:=[I p]) rfl (h.stack.mod hm1 (fun _ _ h=>h)) rfl (fun h=>by cases h) (rd_block (xs:=[I p]) hb1) (oneI [p]) rfl (by omega) (by omega) ?_;intro v2 w2 fs2 ho2 hm2 hf2;have hm12:Mod (fun b=>fs=some b) w w2:=(hm1.weak (fun _ h=>h.elim)).step hm2 (fun x hx _=>hx);have hc2:=hm12.at hc0 (fun hh=>own_kind h.stack hh hc0 (by decide));obtain ⟨va,vc,rfl,_,_⟩:=ho2.val;(try simp only [go_sem,simprocAttr]);refine e_st1 (cs:=frCells f (.slice a f.stack.length c) vp) rfl rfl hc2 rfl (by simp [frCells]) ?_;intro w3 hb3 hm3 hs3;(try simp only [go_sem,simprocAttr]);refine fr_stack (f':=f.push p) h (by simpa [Fr.push] using ho2) rfl hb3 hm12 hm3 (fun b hb=>(hf2 b hb).imp id (fun hh=>by have:=hm1.size;omega))
theorem f_pop {w:World} {τ:Tag} {i k:Nat} {f:Fr} (h:FrAt w τ i k f) (hs:f.stack.length≤4294967296) {n:Int} (hn:0≤n∧n≤f.stack.length) :
   CallsR Tryz.prog 118 [.pointer (some ⟨k,0,none⟩),I n] w fun _ w'=>FrOp w τ i k (f.pop n) w':=by
 obtain ⟨vs,vp,fs,fp,h⟩:=h;obtain ⟨n,rfl⟩:∃ m:Nat,n=m:=⟨n.toNat,by omega⟩;obtain ⟨a,c,rfl,hc,_⟩:=h.stack.val;have hl:=h.stack.1;have hc0:=h.cells;refine fit118.calls rfl ?_;unfold ir118;have e1:IntKind.i64.wrap ((f.stack.length:Int) - n)=((f.stack.length - n:Nat):Int):=by rw [wrap_in (by omega) (by omega)];omega
 have e2:(0:Int)≤((f.stack.length - n:Nat):Int)∧((f.stack.length - n:Nat):Int)≤c:=by omega
 (try simp only [go_sem,simprocAttr,zb4,zb6,cell_of hc0,frCells,e1,e2,sl_same]);refine e_st1 (cs:=frCells f (.slice a f.stack.length c) vp) (off:=3) rfl rfl hc0 rfl (by simp [frCells]) ?_;intro w3 hb3 hm3 hs3;(try simp only [go_sem,simprocAttr]);exact fr_stack (w2:=w.drew) (fs':=fs) (f':=f.pop n) h (by have h2:OwnS w.drew 3 1 _ _ _ _:=own_pre h.stack (k:=f.stack.length - n) (by omega);simpa [Fr.pop,List.map_take] using h2) rfl (by simpa [frCells,Fr.pop] using hb3) ((Mod.refl _ w).drew) hm3 (fun b hb=>.inl hb)
end
section
open Go Go.W
structure SV where
 vsh:Value
 vgl:Value
 vin:Value
 vR:Value
 sv:Value
def mcCells (S:SV) (M:Mc) (vG vF vW vT:Value):List Value:=
 [S.vsh,S.vgl,S.vin,I M.st.size,.bool M.gens,I M.every,S.sv,I M.young,I M.base,vG,vF,vW,.bool M.given,vT,I M.steps,I M.ended,I M.stuck,I M.live,S.vR]
def itRow (x:It):List Value:=[.string x.con,I x.num]
def fnv (f:Nat):Value:=.func (.func f) #[] #[]
def rowsV:List (List Value):=[[.nilFunc,.nilFunc],[fnv 109,fnv 110],[fnv 109,fnv 113],[fnv 114,fnv 115],[fnv 109,fnv 117],
 [fnv 109,fnv 119],[fnv 114,fnv 120],[fnv 109,fnv 121],[fnv 122,fnv 123],
 [fnv 114,fnv 124],[fnv 109,fnv 125],[fnv 109,fnv 126],[fnv 114,fnv 127],
 [fnv 109,fnv 128],[fnv 109,fnv 129],[fnv 109,fnv 130],[fnv 109,fnv 131],[fnv 109,fnv 133]]
@[go_sem] def ptr (k:Nat):Value:=.pointer (some ⟨k,0,none⟩)
def Tag.tab (τ:Tag) (w:World):Nat→Prop:=fun b=>b < w.heap.size∧τ b = .tb
structure MIn (w:World) (τ:Tag) (m:Nat) (S:SV) (M:Mc) (vG vF vW vT:Value) (fg ff fw ft:Option Nat) (F:Nat→Prop) (ks:List Nat):Prop where
 cells:w.heap[m]? = some (.cells (mcCells S M vG vF vW vT).toArray 113 (0,0))
 tm:τ m = .m
 gl:OwnS w 3 1 vG (M.globals.map I) M.globals.length fg
 tg:τ.is fg .gl
 fr:OwnS w 152 1 vF (ks.map ptr) ks.length ff
 tf:τ.is ff .fr
 wt:OwnS w 3 1 vW (M.wait.map I) M.wait.length fw
 tw:τ.is fw .wt
 tl:OwnS w 42 2 vT (M.told.flatMap itRow) M.told.length ft
 tt:τ.is ft .tl
 st:StAt w S.sv M.st F
 tF:∀ b,F b→τ b = .st
 len:ks.length=M.frames.length
 frs:∀ (i k:Nat) (f:Fr),ks[i]? = some k→M.frames[i]? = some f→FrAt w τ i k f
 tab:TabAt w S.vsh S.vgl M.tab (τ.tab w)
 inp:Ints w S.vin M.input
 tin:∀ b,vblk S.vin=some b→τ.tab w b
 rows:RowsAt w S.vR 2 rowsV (τ.tab w)
def MAt (w:World) (τ:Tag) (m:Nat) (S:SV) (M:Mc) (ks:List Nat):Prop:=∃ vG vF vW vT fg ff fw ft F,MIn w τ m S M vG vF vW vT fg ff fw ft F ks
def Tg.own (t:Tg):Prop:=t≠.no∧t≠.tb
def MOp (w:World) (τ:Tag) (m:Nat) (S:SV) (M':Mc) (ks:List Nat) (w':World):Prop:=∃ τ',τ.ext τ' w∧MAt w' τ' m S M' ks∧Mod (fun b=>(τ b).own) w w'
section
variable {w w':World} {τ τ':Tag} {m:Nat} {S:SV} {M:Mc} {vG vF vW vT:Value} {fg ff fw ft:Option Nat} {F:Nat→Prop} {ks:List Nat} {X:Nat→Prop}
theorem MIn.lt (h:MIn w τ m S M vG vF vW vT fg ff fw ft F ks):m < w.heap.size:=lt_of_heap h.cells
theorem MIn.cells' (h:MIn w τ m S M vG vF vW vT fg ff fw ft F ks) (hm:Mod X w w') (he:τ.wx τ' w) (hd:∀ b,b < w.heap.size→X b→τ b≠.m) :
   w'.heap[m]? = some (.cells (mcCells S M vG vF vW vT).toArray 113 (0,0))∧τ' m = .m:=
 ⟨hm.at h.cells (fun hx=>hd _ h.lt hx h.tm),(he _ h.lt (by rw [h.tm];simp)).trans h.tm⟩
theorem own' {T sz n:Nat} {v:Value} {xs:List Value} {fp:Option Nat} {t:Tg} (h:OwnS w T sz v xs n fp) (ht:τ.is fp t) (hm:Mod X w w') (he:τ.wx τ' w) (hd:∀ b,b < w.heap.size→X b→τ b≠t) (hn:t≠.no:=by decide) :
   OwnS w' T sz v xs n fp∧τ'.is fp t:=
 ⟨h.mod hm (fun b hb hx=>hd b (h.lt hb) hx (ht b hb)),is_ext ht he (fun b hb=>h.lt hb) hn⟩
theorem MIn.st' (h:MIn w τ m S M vG vF vW vT fg ff fw ft F ks) (hm:Mod X w w') (he:τ.wx τ' w) (hd:∀ b,b < w.heap.size→X b→τ b≠.st):StAt w' S.sv M.st F∧∀ b,F b→τ' b = .st:=
 ⟨h.st.mod hm (fun b hb hx=>hd b (h.st.lt b hb) hx (h.tF b hb)),fun b hb=>(he b (h.st.lt b hb) (by rw [h.tF b hb];simp)).trans (h.tF b hb)⟩
theorem MIn.frs' (h:MIn w τ m S M vG vF vW vT fg ff fw ft F ks) (hm:Mod X w w') (he:τ.wx τ' w) {i k:Nat} {f:Fr} (hk:ks[i]? = some k) (hf:M.frames[i]? = some f) (hd:∀ b,b < w.heap.size→X b→¬ (τ b).frm i):FrAt w' τ' i k f:=
 (h.frs i k f hk hf).mod hm he hd
theorem tab_ext (he:τ.wx τ' w) (hs:w.heap.size≤w'.heap.size) (b:Nat) (h:τ.tab w b):τ'.tab w' b:=⟨Nat.lt_of_lt_of_le h.1 hs,(he b h.1 (by rw [h.2];simp)).trans h.2⟩
theorem MIn.tabs' (h:MIn w τ m S M vG vF vW vT fg ff fw ft F ks) (hm:Mod X w w') (he:τ.wx τ' w) (hd:∀ b,b < w.heap.size→X b→τ b≠.tb) :
   TabAt w' S.vsh S.vgl M.tab (τ'.tab w')∧Ints w' S.vin M.input∧(∀ b,vblk S.vin=some b→τ'.tab w' b)∧RowsAt w' S.vR 2 rowsV (τ'.tab w'):=by
 have hx:∀ b,τ.tab w b→¬ X b:=fun b hb hx=>hd b hb.1 hx hb.2
 exact ⟨h.tab.mod hm hx (tab_ext he hm.size),h.inp.mod hm (fun b hb=>hx b (h.tin b hb)),fun b hb=>tab_ext he hm.size b (h.tin b hb),h.rows.mod hm hx (tab_ext he hm.size)⟩
theorem MIn.mod (h:MIn w τ m S M vG vF vW vT fg ff fw ft F ks) (hm:Mod X w w') (he:τ.wx τ' w) (hd:∀ b,b < w.heap.size→X b→τ b = .no):MIn w' τ' m S M vG vF vW vT fg ff fw ft F ks:=by
 have hd':∀ {t:Tg},t≠.no→∀ b,b < w.heap.size→X b→τ b≠t:=fun ht b hb hx e=>ht (e.symm.trans (hd b hb hx))
 obtain ⟨c1,c2⟩:=h.cells' hm he (hd' (by simp));obtain ⟨g1,g2⟩:=own' h.gl h.tg hm he (hd' (by simp));obtain ⟨f1,f2⟩:=own' h.fr h.tf hm he (hd' (by simp));obtain ⟨w1,w2⟩:=own' h.wt h.tw hm he (hd' (by simp));obtain ⟨t1,t2⟩:=own' h.tl h.tt hm he (hd' (by simp));obtain ⟨s1,s2⟩:=h.st' hm he (hd' (by simp));obtain ⟨b1,b2,b3,b4⟩:=h.tabs' hm he (hd' (by simp));refine ⟨c1,c2,g1,g2,f1,f2,w1,w2,t1,t2,s1,s2,h.len,fun i k f hk hf=>h.frs' hm he hk hf (fun b hb hx=>?_),b1,b2,b3,b4⟩;rw [hd b hb hx];rintro (h | h | h)<;>cases h
theorem MAt.mod (h:MAt w τ m S M ks) (hm:Mod X w w') (he:τ.wx τ' w) (hd:∀ b,b < w.heap.size→X b→τ b = .no):MAt w' τ' m S M ks:=by
 obtain ⟨vG,vF,vW,vT,fg,ff,fw,ft,F,h⟩:=h;exact ⟨vG,vF,vW,vT,fg,ff,fw,ft,F,h.mod hm he hd⟩
theorem MIn.frame (h:MIn w τ m S M vG vF vW vT fg ff fw ft F ks) {i k:Nat} {f':Fr} (hk:ks[i]? = some k) (hm:Mod (fun b=>(τ b).frm i) w w') (he:τ.wx τ' w) (hf:FrAt w' τ' i k f') :
   MIn w' τ' m S { M with frames:=M.frames.set i f'} vG vF vW vT fg ff fw ft F ks:=by
 have hd':∀ {t:Tg},¬ t.frm i→∀ b,b < w.heap.size→(τ b).frm i→τ b≠t:=fun ht b hb hx e=>ht (e ▸ hx)
 obtain ⟨c1,c2⟩:=h.cells' hm he (hd' (by simp [Tg.frm]));obtain ⟨g1,g2⟩:=own' h.gl h.tg hm he (hd' (by simp [Tg.frm]));obtain ⟨f1,f2⟩:=own' h.fr h.tf hm he (hd' (by simp [Tg.frm]));obtain ⟨w1,w2⟩:=own' h.wt h.tw hm he (hd' (by simp [Tg.frm]));obtain ⟨t1,t2⟩:=own' h.tl h.tt hm he (hd' (by simp [Tg.frm]));obtain ⟨s1,s2⟩:=h.st' hm he (hd' (by simp [Tg.frm]));obtain ⟨b1,b2,b3,b4⟩:=h.tabs' hm he (hd' (by simp [Tg.frm]));refine ⟨c1,c2,g1,g2,f1,f2,w1,w2,t1,t2,s1,s2,by simpa using h.len,fun j k' f hk' hf'=>?_,b1,b2,b3,b4⟩;simp only [List.getElem?_set] at hf'
 split at hf'
 · rename_i hij;subst hij
   split at hf'
   · cases hf';rw [hk] at hk';cases hk';exact hf
   · cases hf'
 · rename_i hij;refine h.frs' hm he hk' hf' (fun b hb hx=>?_);rintro (h1 | h1 | h1)<;>rw [h1] at hx<;>(rcases hx with hx | hx | hx<;>simp at hx<;>exact hij hx.symm)
end
open Classical in
noncomputable def stTag (τ:Tag) (w:World) (F:Nat→Prop):Tag:=fun b=>if b < w.heap.size then τ b else if F b then .st else .no
theorem stTag_ext (τ:Tag) (w:World) (F:Nat→Prop):τ.ext (stTag τ w F) w:=fun b hb=>by simp [stTag,hb]
theorem stTag_st {τ:Tag} {w:World} {F:Nat→Prop} {b:Nat} (h:w.heap.size≤b) (hF:F b):stTag τ w F b = .st:=by simp [stTag,Nat.not_lt.2 h,hF]
theorem stTag_no {τ:Tag} {w:World} {F:Nat→Prop} {b:Nat} (h:w.heap.size≤b) (hF:¬ F b):stTag τ w F b = .no:=by simp [stTag,Nat.not_lt.2 h,hF]
section
variable {w w':World} {τ τ':Tag} {m:Nat} {S:SV} {M:Mc} {vG vF vW vT:Value} {fg ff fw ft:Option Nat} {F:Nat→Prop} {ks:List Nat} {X:Nat→Prop}
theorem MIn.store (h:MIn w τ m S M vG vF vW vT fg ff fw ft F ks) {s:St} {F':Nat→Prop} (hg:Grow F F' w w') (hs:StAt w' S.sv s F') (hz:s.size=M.st.size) :
   MIn w' (stTag τ w F') m S { M with st:=s} vG vF vW vT fg ff fw ft F' ks:=by
 obtain ⟨hm,hgr⟩:=hg;have he:=(stTag_ext τ w F').wx;have hd':∀ {t:Tg},t≠.st→∀ b,b < w.heap.size→F b→τ b≠t:=fun ht b hb hx e=>ht (e.symm.trans (h.tF b hx))
 obtain ⟨c1,c2⟩:=h.cells' hm he (hd' (by simp));obtain ⟨g1,g2⟩:=own' h.gl h.tg hm he (hd' (by simp));obtain ⟨f1,f2⟩:=own' h.fr h.tf hm he (hd' (by simp));obtain ⟨w1,w2⟩:=own' h.wt h.tw hm he (hd' (by simp));obtain ⟨t1,t2⟩:=own' h.tl h.tt hm he (hd' (by simp));obtain ⟨b1,b2,b3,b4⟩:=h.tabs' hm he (hd' (by simp));refine ⟨?_,c2,g1,g2,f1,f2,w1,w2,t1,t2,hs,fun b hb=>?_,h.len,fun i k f hk hf=>h.frs' hm he hk hf (fun b hb hx=>?_),b1,b2,b3,b4⟩
 · rw [c1];simp only [mcCells,hz]
 · rcases hgr b hb with h1 | h1
   · exact (stTag_ext τ w F' b (h.st.lt b h1)).trans (h.tF b h1)
   · exact stTag_st h1 hb
 · rw [h.tF b hx];rintro (h | h | h)<;>cases h
theorem MIn.scal (h:MIn w τ m S M vG vF vW vT fg ff fw ft F ks) {M':Mc} (hm:Mod (· = m) w w') (hc:w'.heap[m]? = some (.cells (mcCells S M' vG vF vW vT).toArray 113 (0,0)))
   (e1:M'.globals=M.globals) (e2:M'.frames=M.frames) (e3:M'.wait=M.wait) (e4:M'.told=M.told) (e5:M'.st=M.st) (e6:M'.tab=M.tab) (e7:M'.input=M.input):MIn w' τ m S M' vG vF vW vT fg ff fw ft F ks:=by
 have he:τ.wx τ w:=(ext_refl τ w).wx;have hd':∀ {t:Tg},t≠.m→∀ b,b < w.heap.size→b=m→τ b≠t:=fun ht b hb hx e=>by subst hx;exact ht (e.symm.trans h.tm)
 obtain ⟨g1,g2⟩:=own' h.gl h.tg hm he (hd' (by simp));obtain ⟨f1,f2⟩:=own' h.fr h.tf hm he (hd' (by simp));obtain ⟨w1,w2⟩:=own' h.wt h.tw hm he (hd' (by simp));obtain ⟨t1,t2⟩:=own' h.tl h.tt hm he (hd' (by simp));obtain ⟨s1,s2⟩:=h.st' hm he (hd' (by simp));obtain ⟨b1,b2,b3,b4⟩:=h.tabs' hm he (hd' (by simp))
 refine ⟨hc,h.tm,by rw [e1];exact g1,g2,f1,f2,by rw [e3];exact w1,w2,by rw [e4];exact t1,t2,by rw [e5];exact s1,s2,by rw [e2];exact h.len,fun i k f hk hf=>h.frs' hm he hk (by rw [← e2];exact hf) (fun b hb hx=>?_),
   by rw [e6];exact b1,by rw [e7];exact b2,b3,b4⟩
 subst hx;rw [h.tm];rintro (h | h | h)<;>cases h
theorem MIn.waits (h:MIn w τ m S M vG vF vW vT fg ff fw ft F ks) {M':Mc} {l:List Int} {v:Value} {fw':Option Nat} (he:τ.wx τ' w) (hm:Mod (fun b=>fw=some b∨b=m) w w')
   (hc:w'.heap[m]? = some (.cells (mcCells S M' vG vF v vT).toArray 113 (0,0))) (ho:OwnS w' 3 1 v (l.map I) l.length fw') (ht:τ'.is fw' .wt)
   (e1:M'.globals=M.globals) (e2:M'.frames=M.frames) (e3:M'.wait=l) (e4:M'.told=M.told) (e5:M'.st=M.st) (e6:M'.tab=M.tab) (e7:M'.input=M.input):MIn w' τ' m S M' vG vF v vT fg ff fw' ft F ks:=by
 have hx':∀ b,fw=some b∨b=m→τ b = .wt∨τ b = .m:=fun b hb=>hb.imp (fun h'=>h.tw b h') (fun h'=>by subst h';exact h.tm)
 have hd':∀ {t:Tg},t≠.m→t≠.wt→∀ b,b < w.heap.size→(fw=some b∨b=m)→τ b≠t:=fun ht ht' b hb hx e=>by
   rcases hx' b hx with h1 | h1
   · exact ht' (e.symm.trans h1)
   · exact ht (e.symm.trans h1)
 obtain ⟨g1,g2⟩:=own' h.gl h.tg hm he (hd' (by simp) (by simp));obtain ⟨f1,f2⟩:=own' h.fr h.tf hm he (hd' (by simp) (by simp));obtain ⟨t1,t2⟩:=own' h.tl h.tt hm he (hd' (by simp) (by simp));obtain ⟨s1,s2⟩:=h.st' hm he (hd' (by simp) (by simp));obtain ⟨b1,b2,b3,b4⟩:=h.tabs' hm he (hd' (by simp) (by simp))
 refine ⟨hc,(he m h.lt (by rw [h.tm];simp)).trans h.tm,by rw [e1];exact g1,g2,f1,f2,by rw [e3];exact ho,ht,by rw [e4];exact t1,t2,by rw [e5];exact s1,s2,by rw [e2];exact h.len,
   fun i k f hk hf=>h.frs' hm he hk (by rw [← e2];exact hf) (fun b hb hx=>?_),by rw [e6];exact b1,by rw [e7];exact b2,b3,b4⟩
 rcases hx' b hx with h1 | h1<;>rw [h1]<;>rintro (h | h | h)<;>cases h
theorem MIn.tolds (h:MIn w τ m S M vG vF vW vT fg ff fw ft F ks) {M':Mc} {l:List It} {v:Value} {ft':Option Nat} (he:τ.wx τ' w) (hm:Mod (fun b=>ft=some b∨b=m) w w')
   (hc:w'.heap[m]? = some (.cells (mcCells S M' vG vF vW v).toArray 113 (0,0))) (ho:OwnS w' 42 2 v (l.flatMap itRow) l.length ft') (ht:τ'.is ft' .tl)
   (e1:M'.globals=M.globals) (e2:M'.frames=M.frames) (e3:M'.wait=M.wait) (e4:M'.told=l) (e5:M'.st=M.st) (e6:M'.tab=M.tab) (e7:M'.input=M.input):MIn w' τ' m S M' vG vF vW v fg ff fw ft' F ks:=by
 have hx':∀ b,ft=some b∨b=m→τ b = .tl∨τ b = .m:=fun b hb=>hb.imp (fun h'=>h.tt b h') (fun h'=>by subst h';exact h.tm)
 have hd':∀ {t:Tg},t≠.m→t≠.tl→∀ b,b < w.heap.size→(ft=some b∨b=m)→τ b≠t:=fun ht ht' b hb hx e=>by
   rcases hx' b hx with h1 | h1
   · exact ht' (e.symm.trans h1)
   · exact ht (e.symm.trans h1)
 obtain ⟨g1,g2⟩:=own' h.gl h.tg hm he (hd' (by simp) (by simp));obtain ⟨f1,f2⟩:=own' h.fr h.tf hm he (hd' (by simp) (by simp));obtain ⟨w1,w2⟩:=own' h.wt h.tw hm he (hd' (by simp) (by simp));obtain ⟨s1,s2⟩:=h.st' hm he (hd' (by simp) (by simp));obtain ⟨b1,b2,b3,b4⟩:=h.tabs' hm he (hd' (by simp) (by simp))
 refine ⟨hc,(he m h.lt (by rw [h.tm];simp)).trans h.tm,by rw [e1];exact g1,g2,f1,f2,by rw [e3];exact w1,w2,by rw [e4];exact ho,ht,by rw [e5];exact s1,s2,by rw [e2];exact h.len,
   fun i k f hk hf=>h.frs' hm he hk (by rw [← e2];exact hf) (fun b hb hx=>?_),by rw [e6];exact b1,by rw [e7];exact b2,b3,b4⟩
 rcases hx' b hx with h1 | h1<;>rw [h1]<;>rintro (h | h | h)<;>cases h
theorem MIn.frames (h:MIn w τ m S M vG vF vW vT fg ff fw ft F ks) {M':Mc} {v:Value} {ff':Option Nat} {ks':List Nat} (he:τ.wx τ' w) (hm:Mod (fun b=>ff=some b∨b=m) w w')
   (hc:w'.heap[m]? = some (.cells (mcCells S M' vG v vW vT).toArray 113 (0,0))) (ho:OwnS w' 152 1 v (ks'.map ptr) ks'.length ff') (ht:τ'.is ff' .fr) (hl:ks'.length=M'.frames.length)
   (hf:∀ (i k:Nat) (f:Fr),ks'[i]? = some k→M'.frames[i]? = some f→(ks[i]? = some k∧M.frames[i]? = some f)∨FrAt w' τ' i k f)
   (e1:M'.globals=M.globals) (e3:M'.wait=M.wait) (e4:M'.told=M.told) (e5:M'.st=M.st) (e6:M'.tab=M.tab) (e7:M'.input=M.input):MIn w' τ' m S M' vG v vW vT fg ff' fw ft F ks':=by
 have hx':∀ b,ff=some b∨b=m→τ b = .fr∨τ b = .m:=fun b hb=>hb.imp (fun h'=>h.tf b h') (fun h'=>by subst h';exact h.tm)
 have hd':∀ {t:Tg},t≠.m→t≠.fr→∀ b,b < w.heap.size→(ff=some b∨b=m)→τ b≠t:=fun ht ht' b hb hx e=>by
   rcases hx' b hx with h1 | h1
   · exact ht' (e.symm.trans h1)
   · exact ht (e.symm.trans h1)
 obtain ⟨g1,g2⟩:=own' h.gl h.tg hm he (hd' (by simp) (by simp));obtain ⟨w1,w2⟩:=own' h.wt h.tw hm he (hd' (by simp) (by simp));obtain ⟨t1,t2⟩:=own' h.tl h.tt hm he (hd' (by simp) (by simp));obtain ⟨s1,s2⟩:=h.st' hm he (hd' (by simp) (by simp));obtain ⟨b1,b2,b3,b4⟩:=h.tabs' hm he (hd' (by simp) (by simp))
 refine ⟨hc,(he m h.lt (by rw [h.tm];simp)).trans h.tm,by rw [e1];exact g1,g2,ho,ht,by rw [e3];exact w1,w2,by rw [e4];exact t1,t2,by rw [e5];exact s1,s2,hl,
   fun i k f hk hf'=>?_,by rw [e6];exact b1,by rw [e7];exact b2,b3,b4⟩
 rcases hf i k f hk hf' with ⟨k1,k2⟩ | k1
 · refine h.frs' hm he k1 k2 (fun b hb hx=>?_);rcases hx' b hx with h1 | h1<;>rw [h1]<;>rintro (h | h | h)<;>cases h
 · exact k1
end
theorem MOp.cat {w w' w'':World} {τ τ':Tag} {m:Nat} {S:SV} {M2:Mc} {ks:List Nat} (h1:τ.ext τ' w) (h3:Mod (fun b=>(τ b).own) w w') (k:MOp w' τ' m S M2 ks w''):MOp w τ m S M2 ks w'':=by
 obtain ⟨τ'',k1,k2,k3⟩:=k;exact ⟨τ'',ext_trans h1 k1 h3.size,k2,h3.step k3 (fun i hi hl=>by rw [h1 i hl] at hi;exact hi)⟩
end
section
open Go Go.W
theorem m_add {w:World} {τ:Tag} {m:Nat} {S:SV} {M:Mc} {ks:List Nat} (h:MAt w τ m S M ks) (ho:M.st.Ok) {nd:Nd} {v:Value} (hm:nd.may=true) (hp:okPl M.st.ns.length nd.args=true) (hv:Ints w v nd.args) (hr:(M.st.ns.length:Int) < M.st.size) :
   CallsR Tryz.prog 116 [ptr m,I nd.kind,I nd.num,v] w fun r w'=>r=I M.st.ns.length∧MOp w τ m S { M with st:=M.st.add nd} ks w':=by
 obtain ⟨vG,vF,vW,vT,fg,ff,fw,ft,F,h⟩:=h;have hc:=h.cells;obtain ⟨a,c,rfl,hvl,hvx⟩:=hv;refine fit116.calls rfl ?_;unfold ir116 ptr;(try simp only [go_sem,simprocAttr,cell_of hc,mcCells]);refine s_add (nd:=nd) (v:=.slice a nd.args.length c) rfl rfl h.st ho hm hp ⟨a,c,rfl,hvl,hvx⟩ ?_ (fun e=>by omega);intro _ w1 F1 hs1 hg1;(try simp only [go_sem,simprocAttr]);refine ⟨_,stTag_ext τ w F1,⟨vG,vF,vW,vT,fg,ff,fw,ft,F1,?_⟩,hg1.1.weak (fun b hb=>?_)⟩
 · exact h.store (s:=M.st.add nd) hg1 hs1 rfl
 · rw [h.tF b hb];simp [Tg.own]
def Ends (ns:List Nd):Prop:=∀ p,p < ns.length→nxt ns (over ns p)=over ns p
theorem m_fail {w:World} {τ:Tag} {m:Nat} {S:SV} {M:Mc} {ks:List Nat} (h:MAt w τ m S M ks) (how:Int):CallsR Tryz.prog 132 [ptr m,I how] w fun _ w'=>MOp w τ m S (M.fail how) ks w':=by
 obtain ⟨vG,vF,vW,vT,fg,ff,fw,ft,F,h⟩:=h;have hc:=h.cells;refine fit132.calls rfl ?_;unfold ir132 ptr;(try simp only [go_sem,simprocAttr]);refine e_st1 (off:=15) rfl rfl hc rfl (by simp [mcCells]) ?_;intro w1 hb1 hm1 hs1;(try simp only [go_sem,simprocAttr]);refine e_st1 (off:=16) rfl rfl hb1 rfl (by simp [mcCells]) ?_;intro w2 hb2 hm2 hs2;(try simp only [go_sem,simprocAttr]);refine ⟨τ,ext_refl τ w,⟨vG,vF,vW,vT,fg,ff,fw,ft,F,h.scal (M':=M.fail how) (hm1.trans hm2) (by simpa [mcCells,Mc.fail] using hb2) rfl rfl rfl rfl rfl rfl rfl⟩,(hm1.trans hm2).weak (fun b hb=>by subst hb;rw [h.tm];simp [Tg.own])⟩
theorem m_leave {w:World} {τ:Tag} {m:Nat} {S:SV} {M:Mc} {ks:List Nat} (h:MAt w τ m S M ks) (hn:0 < M.frames.length) (hs:M.frames.length≤4294967296):CallsR Tryz.prog 139 [ptr m] w fun _ w'=>MOp w τ m S M.leave (ks.take (ks.length - 1)) w':=by
 obtain ⟨vG,vF,vW,vT,fg,ff,fw,ft,F,h⟩:=h;have hc:=h.cells;have hl:=h.len;obtain ⟨a,c,rfl,hcc,_⟩:=h.fr.val;refine fit139.calls rfl ?_;unfold ir139 ptr;have e1:IntKind.i64.wrap ((ks.length:Int) - 1)=((ks.length - 1:Nat):Int):=by rw [wrap_in (by omega) (by omega)];omega
 have e2:(0:Int)≤((ks.length - 1:Nat):Int)∧((ks.length - 1:Nat):Int)≤c:=by omega
 (try simp only [go_sem,simprocAttr,zb4,zb6,cell_of hc,mcCells,e1,e2,sl_same]);refine e_st1 (off:=10) rfl rfl hc rfl (by simp [mcCells]) ?_;intro w1 hb1 hm1 hs1;(try simp only [go_sem,simprocAttr]);have hm1':Mod (fun b=>ff=some b∨b=m) w w1:=(Mod.of_drew hm1).weak (fun b hb=>.inr hb)
 refine ⟨τ,ext_refl τ w,⟨vG,.slice a (ks.length - 1) c,vW,vT,fg,ff,fw,ft,F,h.frames (ext_refl τ w).wx hm1' (by simpa [mcCells,Mc.leave] using hb1) ?_ h.tf (by simp [Mc.leave,hl]) ?_ rfl rfl rfl rfl rfl rfl⟩,
   hm1'.weak ?_⟩
 · have:=(own_pre h.fr (k:=ks.length - 1) (by omega)).mod (Mod.of_drew hm1) (fun b hb hh=>by subst hh;have:=h.tf b hb;rw [h.tm] at this;cases this)
   simpa [List.map_take] using this
 · intro i k f hk hf;simp only [Mc.leave,List.getElem?_take] at hk hf
   split at hk
   · split at hf
     · exact .inl ⟨hk,hf⟩
     · cases hf
   · cases hk
 · rintro b (hb | rfl)
   · rw [h.tf b hb];simp [Tg.own]
   · rw [h.tm];simp [Tg.own]
end
section
open Go Go.W
theorem ends_fit {ns:List Nd} (hw:WF ns) (he:Ends ns) {p:Nat} (hp:p < ns.length):∃ k,∀ j,k≤j→fit (nxt ns) j p=over ns p:=by
 obtain ⟨k,_,h⟩:=ov_mem (nxt ns) ns.length p;refine ⟨k+ns.length,fun j hj=>?_⟩;have h:over ns p=fit (nxt ns) (k+ns.length) p:=h;obtain ⟨d,rfl⟩:∃ d,j=d+(k+ns.length):=⟨j - (k+ns.length),by omega⟩;rw [fit_add,← h];exact fit_fix (he p hp) d
theorem ndAt_args {ns:List Nd} (hw:WF ns) {p:Nat} (hp:p < ns.length):(ndAt ns p).args.length≤8∧(∀ a∈(ndAt ns p).args,0≤a∧a < ns.length)∧(ind ns p=true→∃ q:Nat,(ndAt ns p).args=[(q:Int)]∧nxt ns p=q):=by
 refine ⟨?_,fun a ha=>?_,fun hi=>?_⟩
 · have h:=(wf_at hw hp).1;simp only [Nd.may,mayB,decide_eq_true_eq] at h;omega
 · have:=List.all_eq_true.1 (wf_at hw hp).2 a ha
   simpa using this
 · obtain ⟨q,_,h1,h2⟩:=wf_ind hw hp hi;exact ⟨q,h1,h2⟩
theorem m_over {w:World} {τ:Tag} {m:Nat} {S:SV} {M:Mc} {ks:List Nat} (h:MAt w τ m S M ks) (ho:M.st.Ok) (he:Ends M.st.ns) {p:Int} (hp:0≤p∧p < M.st.ns.length) :
   CallsR Tryz.prog 134 [ptr m,I p] w fun r w'=>∃ v,r = .tuple #[I (M.st.ov p),.agg #[I (M.st.nd p).kind,I (M.st.nd p).num,v]]∧NewOwn w w' v (M.st.nd p).args∧Mod (fun _=>False) w w':=by
 obtain ⟨vG,vF,vW,vT,fg,ff,fw,ft,F,h⟩:=h;have hc:=h.cells;have hml:=h.lt;obtain ⟨p,rfl⟩:∃ q:Nat,p=q:=⟨p.toNat,by omega⟩;have hp':p < M.st.ns.length:=by omega
 have hw:=ho.wf;obtain ⟨K,hK⟩:=ends_fit hw he hp';have hlt:∀ k,fit (nxt M.st.ns) k p < M.st.ns.length:=fun k=>fit_lt (wf_nxt_lt hw) k hp'
 refine fit134.calls rfl ?_;unfold ir134 ptr;(try simp only [go_sem,simprocAttr]);refine e_al ?_;intro w1 hb1 hm1 hs1;have hc1:=hm1.at hc (fun h=>h);have hst1:=h.st.mod hm1 (fun _ _ h=>h);(try simp only [go_sem,simprocAttr,cell_of hc1,mcCells]);refine s_get (p:=(p:Int)) rfl rfl hst1 hw ho.n hp ?_;intro v2 w2 hv2 hm2;(try simp only [go_sem,simprocAttr]);refine e_al ?_;intro w3 hb3 hm3 hs3;(try simp only [go_sem,simprocAttr]);refine e_sta (cs:=[I 0,I 0,.slice none 0 0]) rfl rfl hb3 rfl rfl ?_ ?_
 · obtain ⟨fp,hv2,_⟩:=hv2;obtain ⟨va,vc,rfl,_⟩:=hv2.val;simp [Value.oneCell']
 intro w4 hb4 hm4 hs4;(try simp only [go_sem,simprocAttr]);have hm04:Mod (fun _=>False) w w4:=((hm1.trans hm2).trans hm3).step hm4 (fun x hx hl=>by subst hx;have:=hm1.size;have:=hm2.size;omega);have hs12:=hm1.size;have hs22:=hm2.size;have hb14:w4.heap[w.heap.size]? = some (.cells #[I 0,I 0,.slice none 0 0] 104 (0,0)):=hm4.at (hm3.at (hm2.at hb1 (fun h=>h)) (fun h=>h)) (fun hh=>by omega)
 refine ir_loop (fun n ρ w'=>∃ (j:Nat) (v:Value) (fp:Option Nat),n=K - j∧Mod (fun _=>False) w w'∧w'.heap[w.heap.size]? = some (.cells #[I 0,I 0,.slice none 0 0] 104 (0,0)) ∧
   w'.heap[w2.heap.size]? = some (.cells #[I (ndAt M.st.ns (fit (nxt M.st.ns) j p)).kind,I (ndAt M.st.ns (fit (nxt M.st.ns) j p)).num,v] 104 (0,0)) ∧
   OwnS w' 3 1 v ((ndAt M.st.ns (fit (nxt M.st.ns) j p)).args.map I) (ndAt M.st.ns (fit (nxt M.st.ns) j p)).args.length fp∧(∀ b,fp=some b→w.heap.size≤b) ∧
   ρ=[(0,ptr m),(1,I (fit (nxt M.st.ns) j p:Nat)),(5,ptr w.heap.size),(6,ptr w2.heap.size)]) K ⟨0,v2,?_⟩ ?_
 · obtain ⟨fp,hv2,hf2⟩:=hv2;refine ⟨fp,rfl,hm04,hb14,hb4,?_,fun b hb=>Nat.le_trans (by omega) (hf2 b hb),rfl⟩;exact (hv2.mod hm3 (fun _ _ h=>h)).mod hm4 (fun b hb hh=>by subst hh;have:=hv2.lt hb;omega)
 rintro n ρ w5 ⟨j,v,fp,rfl,hm5,g1,g2,g3,g4,rfl⟩;unfold ir134L1 ptr;obtain ⟨n1,n2,n3⟩:=ndAt_args hw (hlt j);obtain ⟨va,vc,rfl,_⟩:=g3.val;have z:(0:Int)≤0∧(0:Int) < 1:=by omega
 have hcm:=hm5.at hc (fun h=>h);have hst5:=h.st.mod hm5 (fun _ _ h=>h);have stop:nxt M.st.ns (fit (nxt M.st.ns) j p)=fit (nxt M.st.ns) j p→over M.st.ns p=fit (nxt M.st.ns) j p:=by
   intro hx;have h1:=hK (K+j) (by omega);rw [fit_add] at h1;rw [← h1];exact fit_fix hx K
 have hk5:((ndAt M.st.ns (fit (nxt M.st.ns) j p)).kind == 5)=ind M.st.ns (fit (nxt M.st.ns) j p):=by simp [ind,BEq.beq]
 (try simp only [go_sem,simprocAttr,cell_of g2,hk5])
 refine wpS_cut (fun ρ w'=>w5=w'∧∃ t:Bool,(t=true→∃ q:Nat,(ndAt M.st.ns (fit (nxt M.st.ns) j p)).args=[(q:Int)]∧nxt M.st.ns (fit (nxt M.st.ns) j p)=q∧q≠fit (nxt M.st.ns) j p)∧(t=false→nxt M.st.ns (fit (nxt M.st.ns) j p)=fit (nxt M.st.ns) j p) ∧
   ρ.get 0=some (ptr m)∧ρ.get 1=some (I (fit (nxt M.st.ns) j p:Nat))∧ρ.get 5=some (ptr w.heap.size)∧ρ.get 6=some (ptr w2.heap.size)∧ρ.get 27=some (.bool t)) ?_ ?_
 · cases hi:ind M.st.ns (fit (nxt M.st.ns) j p) with
   | false=>
     (try simp only [go_sem,simprocAttr]);exact ⟨false,(fun h=>by cases h),fun _=>nxt_fix hi,rfl⟩
   | true=>
     obtain ⟨q,a1,a2⟩:=n3 hi;have g3':=g3;rw [a1] at g3';obtain ⟨b,rfl,rfl,hcell⟩:=own_cell g3' (i:=0) (by simp);have zl:(0:Int)≤0∧(0:Int) < (ndAt M.st.ns (fit (nxt M.st.ns) j p)).args.length:=by rw [a1];simp
     simp only [List.map_cons,List.map_nil,List.getElem?_cons_zero] at hcell;(try simp only [go_sem,simprocAttr,zb4,zb6,cell_of g2,zl,hcell,add_at]);refine ⟨_,fun hh=>⟨q,a1,a2,?_⟩,fun hh=>?_,rfl⟩
     · simp only [zb1,zb2,zb3,zb4,zb5] at hh;omega
     · simp only [zb1,zb2,zb3,zb4,zb5] at hh;rw [a2];omega
 rintro ρ _ ⟨rfl,t,ht,hf,r0,r1,r5,r6,r27⟩;(try simp only [go_sem,simprocAttr,r0,r1,r5,r6,r27]);refine ir_cond rfl (fun hh=>?_) (fun hh=>?_)
 · subst hh;obtain ⟨q,a1,a2,a3⟩:=ht rfl;have hjK:j < K:=by
     rcases Nat.lt_or_ge j K with h1 | h1
     · exact h1
     · exfalso;have e1:=hK j h1;have e2:=hK (j+1) (by omega);rw [fit_succ,a2] at e2;exact a3 (e2.trans e1.symm)
   (try simp only [go_sem,simprocAttr]);have zl:(0:Int)≤0∧(0:Int) < (ndAt M.st.ns (fit (nxt M.st.ns) j p)).args.length:=by rw [a1];simp
   have g3':=g3;rw [a1] at g3';obtain ⟨b,rfl,rfl,hcell⟩:=own_cell g3' (i:=0) (by simp);simp only [List.map_cons,List.map_nil,List.getElem?_cons_zero] at hcell;(try simp only [go_sem,simprocAttr,zb4,zb6,cell_of g2,zl,hcell,add_at,cell_of hcm,mcCells]);have hq:q < M.st.ns.length:=by rw [← a2];exact wf_nxt_lt hw _ (hlt j)
   refine s_get (p:=(q:Int)) rfl rfl hst5 hw ho.n (by simp only at *;omega) ?_;intro v6 w6 hv6 hm6;obtain ⟨fp6,hv6,hf6⟩:=hv6;obtain ⟨va6,vc6,rfl,_⟩:=hv6.val;(try simp only [go_sem,simprocAttr]);refine e_sta (cs:=[I (ndAt M.st.ns (fit (nxt M.st.ns) j p)).kind,I (ndAt M.st.ns (fit (nxt M.st.ns) j p)).num,.slice (some ⟨b,0,none⟩) (ndAt M.st.ns (fit (nxt M.st.ns) j p)).args.length vc]) rfl rfl (hm6.at g2 (fun h=>h)) rfl rfl ?_ ?_
   · simp [Value.oneCell']
   intro w7 hb7 hm7 hs7;(try simp only [go_sem,simprocAttr]);have hs6:=hm6.size;have hs5:=hm5.size;rw [Int.toNat_natCast] at hv6 hb7;have eq':fit (nxt M.st.ns) (j+1) p=q:=by rw [fit_succ,a2]
   refine ⟨_,by omega,j+1,.slice va6 (ndAt M.st.ns q).args.length vc6,fp6,rfl,?_,?_,?_,?_,fun b hb=>Nat.le_trans hs5 (hf6 b hb),?_⟩
   · exact (hm5.trans hm6).step hm7 (fun x hx hl=>by subst hx;omega)
   · exact hm7.at (hm6.at g1 (fun h=>h)) (fun hh=>by omega)
   · rw [eq'];exact hb7
   · rw [eq'];exact hv6.mod hm7 (fun b hb hh=>by subst hh;have:=hf6 _ hb;have:=lt_of_heap g2;omega)
   · rw [eq']
 · subst hh;have hov:=stop (hf rfl);have hd:w5.drew.heap[w2.heap.size]? = _:=g2;(try simp only [go_sem,simprocAttr,ln_of (cs:=[_,_,_]) (off:=0) (n:=3) hd (by simp)]);refine e_sta (cs:=[I 0,I 0,.slice none 0 0]) rfl rfl g1 rfl rfl ?_ ?_
   · simp [Value.oneCell']
   intro w7 hb7 hm7 hs7;(try simp only [go_sem,simprocAttr,ln_of (cs:=[_,_,_]) (off:=0) (n:=3) hb7 (by simp)]);have e1:M.st.ov (p:Int)=fit (nxt M.st.ns) j p:=by simp only [St.ov,Int.toNat_natCast];exact hov
   have e2:M.st.nd (p:Int)=ndAt M.st.ns (fit (nxt M.st.ns) j p):=by unfold St.nd;rw [e1]
   rw [e1,e2];have hm57:=Mod.of_drew hm7;refine ⟨_,rfl,⟨fp,g3.mod hm57 (fun b hb hh=>own_kind g3 hb (hh ▸ g1) (by decide)),g4⟩,hm5.step hm57 (fun x hx hl=>by subst hx;omega)⟩
end
end Go.Proofs.YtnjobkbblhaliaaGreatDoor