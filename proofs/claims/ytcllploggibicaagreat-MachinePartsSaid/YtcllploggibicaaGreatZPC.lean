/- Texts that the last file stands on: G5, G6, G7, P10, G8, G9, G10, P11, G11, G12, G13, G14, G15. -/
import Derived.Test.YtcllploggibicaaGreatZPB
set_option linter.unusedSimpArgs false
set_option linter.unusedVariables false
set_option maxRecDepth 100000
namespace Go.Proofs.YtcllploggibicaaGreat
section
open Go Go.W
def IsMin (m:Int) (xs:List Int):Prop:=m∈xs∧∀ y∈xs,m≤y
theorem min_ok (v:Value) (xs:List Int) (w:World) (hx:Ints w v xs) (hne:xs≠[]):CallsR Tryz.prog 178 [v] w fun r w'=>(∃ m,r=I m∧IsMin m xs)∧w=w':=by
 have hx0:=hx
 obtain ⟨a,c,rfl,hl,hxx⟩:=hx
 have hpos:0 < xs.length:=by cases xs with | nil=>exact absurd rfl hne | cons y l=>simp
 refine fit178.calls rfl ?_
 unfold ir178
 obtain ⟨ad,rfl,h0⟩:=hxx 0 hpos
 rw [add_zero'] at h0
 have e1:decide ((xs.length:Int) < 1)=false:=by simp;omega
 have c1:(0:Int)≤0∧(0:Int) < xs.length:=by omega
 (try simp only [go_sem,simprocAttr,zb4,zb6,e1,c1,h0])
 refine ir_loop (fun m ρ w'=>∃ (k:Nat) (q:Int),m=xs.length - k∧1≤k∧k≤xs.length∧w=w'∧IsMin q (xs.take k)∧ρ=[(0,.slice (some ad) xs.length c),(3,I q),(4,I k)]) (xs.length - 1)
   ⟨1,xs[0],rfl,Nat.le_refl _,hpos,rfl,?_,rfl⟩ ?_
 · have e:xs.take 1=[xs[0]]:=by rw [List.take_succ_eq_append_getElem hpos];simp
   rw [e]
   exact ⟨by simp,fun y hy=>by simp at hy;omega⟩
 rintro m ρ _ ⟨k,q,rfl,hk1,hk,rfl,hq,rfl⟩
 unfold ir178L1
 (try simp only [go_sem,simprocAttr])
 refine ir_cond rfl (fun h=>?_) (fun h=>?_)
 · have hlt:k < xs.length:=by simpa using h
   obtain ⟨ad',he,hc⟩:=hxx k hlt
   cases he
   have c2:(0:Int)≤k∧(k:Int) < xs.length:=by omega
   have hw:IntKind.i64.wrap ((k:Int)+1)=((k+1:Nat):Int):=by rw [wrap_in]<;>omega
   (try simp only [go_sem,simprocAttr,zb4,zb6,c2,hc,hw])
   refine ⟨_,?_,k+1,_,rfl,by omega,hlt,?_,rfl⟩
   · omega
   · rw [List.take_succ_eq_append_getElem hlt]
     obtain ⟨q1,q2⟩:=hq
     by_cases hlq:xs[k] < q
     · rw [if_pos hlq]
       refine ⟨List.mem_append_right _ (by simp),fun y hy=>?_⟩
       rcases List.mem_append.1 hy with hy | hy
       · have:=q2 y hy;omega
       · simp at hy;omega
     · rw [if_neg hlq]
       refine ⟨List.mem_append_left _ q1,fun y hy=>?_⟩
       rcases List.mem_append.1 hy with hy | hy
       · exact q2 y hy
       · simp at hy;omega
 · have hk':k=xs.length:=by simp at h;omega
   subst hk'
   rw [List.take_length] at hq
   (try simp only [go_sem,simprocAttr])
   exact ⟨_,rfl,hq⟩
theorem one_ok (pv v:Value) (xs:List Int) (w:World) (hx:Ints w v xs) (hne:xs≠[]):CallsR Tryz.prog 174 [pv,v] w fun r w'=>(∃ m,r=I m∧IsMin m xs)∧w=w':=by
 refine fit174.calls rfl ?_
 unfold ir174
 (try simp only [go_sem,simprocAttr])
 refine e_call (by rfl) ?_
 refine (min_ok v xs w hx hne).mono ?_
 rintro q _ ⟨⟨m,rfl,hm⟩,rfl⟩
 (try simp only [go_sem,simprocAttr])
 exact ⟨_,rfl,hm⟩
structure OfOk (ns:List Nd) (l:List Int) (R:List (Int×Int)):Prop where
 len:l.length=ns.length
 val:∀ i,i < ns.length→l.getD i 0 = -1∨l.getD i 0=over ns i
 nd:(R.map (fun q=>q.1)).Nodup
 ring:∀ k:Int,k∈R.map (fun q=>q.1)↔∃ i,i < ns.length∧k=over ns i∧l.getD i 0 ≠ -1∧ind ns (over ns i)=true
theorem ofOk_set {ns:List Nd} (hw:WF ns) {l:List Int} {R:List (Int×Int)} (h:OfOk ns l R) {q p:Nat} (hq:q < ns.length) (hp:p < ns.length) (he:over ns q=over ns p) (hk:l.getD p 0 ≠ -1∨ind ns (over ns p)=false):OfOk ns (l.set q (over ns p:Nat)) R:=by
 have hql:q < l.length:=by rw [h.len];exact hq
 refine ⟨by simpa using h.len,fun i hi=>?_,h.nd,fun k=>?_⟩
 · rw [getD_set l q i _ hql]
   split
   · rename_i e;subst e;exact .inr (by rw [he])
   · exact h.val i hi
 · rw [h.ring]
   constructor
   · rintro ⟨i,h1,h2,h3,h4⟩
     refine ⟨i,h1,h2,?_,h4⟩
     rw [getD_set l q i _ hql]
     split
     · omega
     · exact h3
   · rintro ⟨i,h1,h2,h3,h4⟩
     rw [getD_set l q i _ hql] at h3
     split at h3
     · rename_i e;subst e
       rcases hk with hk | hk
       · exact ⟨p,hp,by rw [h2,he],hk,by rw [← he];exact h4⟩
       · rw [he,hk] at h4;cases h4
     · exact ⟨i,h1,h2,h3,h4⟩
theorem ofOk_ring {ns:List Nd} (hw:WF ns) {l:List Int} {R:List (Int×Int)} (h:OfOk ns l R) {p:Nat} (hp:p < ns.length) (he:over ns p=p) (hi:ind ns p=true):OfOk ns (l.set p (p:Nat)) (lput R p 1):=by
 have hql:p < l.length:=by rw [h.len];exact hp
 obtain ⟨k1,k2⟩:=lput_keys h.nd (p:Int) 1
 refine ⟨by simpa using h.len,fun i hi=>?_,k1,fun k=>?_⟩
 · rw [getD_set l p i _ hql]
   split
   · rename_i e;subst e;exact .inr (by rw [he])
   · exact h.val i hi
 · rw [k2,h.ring]
   constructor
   · rintro (⟨i,h1,h2,h3,h4⟩ | rfl)
     · refine ⟨i,h1,h2,?_,h4⟩
       rw [getD_set l p i _ hql]
       split
       · omega
       · exact h3
     · refine ⟨p,hp,by rw [he],?_,by rw [he];exact hi⟩
       rw [getD_set l p p _ hql,if_pos rfl];omega
   · rintro ⟨i,h1,h2,h3,h4⟩
     rw [getD_set l p i _ hql] at h3
     split at h3
     · rename_i e;subst e;exact .inr (by rw [h2,he])
     · exact .inl ⟨i,h1,h2,h3,h4⟩
theorem fit_mul {f:Nat→Nat} {c d:Nat} (h:fit f d c=c):∀ t,fit f (d*t) c=c:=by
 intro t
 induction t with
 | zero=>rfl
 | succ t ih=>rw [Nat.mul_succ,fit_add,h,ih]
theorem ring_min {f:Nat→Nat} {n x j k:Nat} (hf:∀ x,x < n→f x < n) (hx:x < n) (hjk:j < k) (hc:fit f k x=fit f j x) {m:Int} (hm:IsMin m (((List.range k).map (fun i=>(fit f i x:Int))).drop j)):m=(ov f n x:Nat):=by
 have hmem:∀ y:Int,y∈((List.range k).map (fun i=>(fit f i x:Int))).drop j↔∃ i,j≤i∧i < k∧y=(fit f i x:Nat):=by
   intro y
   rw [List.mem_iff_getElem?]
   constructor
   · rintro ⟨i,hi⟩
     rw [List.getElem?_drop,List.getElem?_map] at hi
     cases hr:(List.range k)[j+i]? with
     | none=>rw [hr] at hi;cases hi
     | some t=>
       rw [hr] at hi
       have ht:j+i < k∧t=j+i:=by
         have:=List.getElem?_eq_some_iff.1 hr
         obtain ⟨h1,h2⟩:=this
         simp at h1 h2
         exact ⟨h1,h2.symm⟩
       simp only [Option.map_some,Option.some.injEq] at hi
       exact ⟨j+i,by omega,ht.1,by rw [← hi,ht.2]⟩
   · rintro ⟨i,h1,h2,rfl⟩
     refine ⟨i - j,?_⟩
     rw [List.getElem?_drop,List.getElem?_map,show j+(i - j)=i by omega,List.getElem?_range h2]
     rfl
 obtain ⟨hm1,hm2⟩:=hm
 obtain ⟨i,hi1,hi2,rfl⟩:=(hmem m).1 hm1
 have hd:fit f (k - j) (fit f j x)=fit f j x:=by rw [← fit_add,show k - j+j=k by omega,hc]
 have h1:ov f n x≤fit f i x:=by
   have hkj:1≤k - j:=by omega
   have hmul:=Nat.mul_le_mul_right n hkj
   have:=ov_le' hf hx (i+(k - j)*n) (by omega)
   have e:fit f (i+(k - j)*n) x=fit f i x:=by
     rw [show i+(k - j)*n=(i - j)+((k - j)*n+j) by omega,fit_add,fit_add f ((k - j)*n) j,fit_mul hd,← fit_add]
     congr 1;omega
   rwa [e] at this
 have h2:(fit f i x:Int)≤(ov f n x:Nat):=by
   obtain ⟨M,_,hM⟩:=ov_mem f n (fit f j x)
   rw [ov_fit hf hx j] at hM
   refine hm2 _ ((hmem _).2 ⟨j+(M+n) % (k - j),by omega,by have:=Nat.mod_lt (M+n) (show 0 < k - j by omega);omega,?_⟩)
   rw [hM]
   have e:fit f (M+n) (fit f j x)=fit f ((M+n) % (k - j)) (fit f j x):=by
     conv=>lhs;rw [← Nat.mod_add_div (M+n) (k - j)]
     rw [fit_add,fit_mul hd]
   rw [e,← fit_add]
   congr 2;omega
 omega
def wayMap (g:Nat→Nat) (k:Nat):List (Int×Int):=(List.range k).map fun j=>((g j:Int),(j:Int))
theorem wayMap_succ (g:Nat→Nat) (k:Nat):wayMap g (k+1)=wayMap g k++[((g k:Int),(k:Int))]:=by simp [wayMap,List.range_succ]
theorem wayMap_none {g:Nat→Nat} {k:Nat} {c:Nat} (h:∀ j,j < k→g j≠c):lget (wayMap g k) c=none∧∀ v,lput (wayMap g k) c v=wayMap g k++[((c:Int),v)]:=by
 have hf:(wayMap g k).findIdx? (fun p=>p.1 == (c:Int))=none:=by
   rw [List.findIdx?_eq_none_iff]
   intro q hq
   obtain ⟨j,hj,rfl⟩:=List.mem_map.1 hq
   have:=h j (List.mem_range.1 hj)
   simp;omega
 refine ⟨by rw [lget_idx,hf];rfl,fun v=>by unfold lput;rw [hf]⟩
theorem wayMap_some {g:Nat→Nat}:∀ (k:Nat),(∀ i j,i < k→j < k→g i=g j→i=j)→∀ j,j < k→lget (wayMap g k) (g j)=some (j:Int):=by
 intro k
 induction k with
 | zero=>intro _ j hj;omega
 | succ k ih=>
   intro hd j hj
   rw [wayMap_succ]
   unfold lget
   rw [List.find?_append]
   by_cases hjk:j < k
   · have:=ih (fun i j hi hj=>hd i j (by omega) (by omega)) j hjk
     unfold lget at this
     cases hq:(wayMap g k).find? (fun p=>p.1 == (g j:Int)) with
     | none=>rw [hq] at this;cases this
     | some q=>rw [hq] at this;simpa using this
   · have e:j=k:=by omega
     subst e
     have hn:(wayMap g j).find? (fun p=>p.1 == (g j:Int))=none:=by
       rw [List.find?_eq_none]
       intro q hq
       obtain ⟨i,hi,rfl⟩:=List.mem_map.1 hq
       have hi':=List.mem_range.1 hi
       have:g i≠g j:=fun hh=>by have:=hd i j (by omega) (by omega) hh;omega
       simp;omega
     rw [hn]
     simp
end
section
open Go Go.W
theorem ir_bthen {P:Program} {N id:Nat} {a:IR} {next:Env→World→Prop} {Q:Post} {ρ:Env} {w:World} (Mid:Env→World→Prop) (h:irwp P N a (blkQ id (thenQ Mid Q)) ρ w) (hk:∀ ρ w,Mid ρ w→next ρ w):irwp P N a (blkQ id (thenQ next Q)) ρ w:=
 irwp_mono a _ _ (blkQ_le (thenQ_le hk (fun _ _ _ h=>h))) ρ w h
def wayL (g:Nat→Nat) (k:Nat):List Int:=(List.range k).map fun i=>(g i:Int)
theorem wayL_succ (g:Nat→Nat) (k:Nat):wayL g (k+1)=wayL g k++[(g k:Int)]:=by simp [wayL,List.range_succ]
theorem wayL_len (g:Nat→Nat) (k:Nat):(wayL g k).length=k:=by simp [wayL]
theorem leads' {w:World} {va:Option Addr} {n vc:Nat} {xs:List Int} {q:Int} (h:Ints w (.slice va n vc) xs) (hx:xs=[q]):∃ ad,va=some ad∧w.cell? ad=some (I q):=by
 subst hx
 obtain ⟨xb,xd,ev,_,hxx⟩:=h
 obtain ⟨ad,h1,had⟩:=hxx 0 (by simp)
 cases ev
 rw [add_zero'] at had
 exact ⟨ad,h1,had⟩
theorem own_at' {w:World} {T n:Nat} {v:Value} {xs:List Value} {fp:Option Nat} (h:OwnS w T 1 v xs n fp) {i:Nat} (hi:i < n) {u:Value} (hu:xs[i]? = some u):∃ b c,v = .slice (some ⟨b,0,none⟩) n c∧w.cell? ⟨b,i,none⟩=some u:=by
 have hl:=h.1
 obtain ⟨b,c,sp',hv,_,hb,_,_⟩:=h.pos (by omega)
 refine ⟨b,c,hv,?_⟩
 rw [cell_of hb,List.getElem?_toArray,List.getElem?_append_left (by omega)]
 exact hu
theorem own_drop {w:World} {xs:List Int} {fp:Option Nat} {a:Option Addr} {c j:Nat} (h:OwnS w 3 1 (.slice a xs.length c) (xs.map I) xs.length fp) (hj:j < xs.length) (hl:xs.length≤17592186044416) :
   Ints w (.slice (if c=j then a else a.map (fun x=>x.add j)) (xs.length - j) (c - j)) (xs.drop j):=by
 obtain ⟨b,c',sp',he,_,hb,hc,hcap⟩:=h.pos (by omega)
 cases he
 have hcj:¬ c=j:=by omega
 rw [if_neg hcj]
 refine ⟨_,c - j,by rw [List.length_drop];rfl,by rw [List.length_drop];omega,fun i hi=>⟨_,rfl,?_⟩⟩
 rw [List.length_drop] at hi
 show w.cell? ((Addr.add ⟨b,0,none⟩ j).add i)=_
 rw [add_at,add_at,cell_of hb]
 rw [List.getElem?_toArray,List.getElem?_append_left (by simp;omega)]
 simp [Nat.mul_one,show j+i < xs.length by omega]
def GPassPost (ns:List Nd) (w:World) (bo br:Nat) (l:List Int) (p:Nat) (w':World):Prop:=
 ∃ l' R',OfOk ns l' R'∧l'.getD p 0=over ns p∧(∀ i,i < ns.length→l.getD i 0 ≠ -1→l'.getD i 0 ≠ -1)∧w'.heap[bo]? = some (.cells (l'.map I).toArray 3 (0,0))∧MapAt w' br R'∧Mod (fun x=>x=bo∨x=br) w w'
theorem gpass_ok (ns:List Nd) (hw:WF ns) (hn:ns.length≤1048576) (w:World) (a bo br:Nat) (c0 c1 cv c3 c4 c5:Value) (l:List Int) (R:List (Int×Int)) (F:Nat→Prop)
   (ha:w.heap[a]? = some (.cells #[c0,c1,cv,c3,c4,c5] 162 (0,0))) (hfr:FromAt 87 w cv ns F) (hb:w.heap[bo]? = some (.cells (l.map I).toArray 3 (0,0))) (hr:MapAt w br R) (hok:OfOk ns l R) (hFb:∀ x,F x→x≠bo∧x≠br) (p:Nat) (hp:p < ns.length) :
   CallsR Tryz.prog 170 [.pointer (some ⟨a,0,none⟩),I p,.agg #[.slice (some ⟨bo,0,none⟩) ns.length ns.length,.map (some br)]] w fun r w'=>GPassPost ns w bo br l p w':=by
 have hargs:=wf_args_le hw
 have hf:=wf_nxt_lt hw
 have hlt:∀ j,fit (nxt ns) j p < ns.length:=fun j=>fit_lt hf j hp
 have lb:=lt_of_heap hb
 obtain ⟨res,crs,hrs,_⟩:=id hr
 have lr:=lt_of_heap hrs
 refine fit170.calls rfl ?_
 unfold ir170
 (try simp only [go_sem,simprocAttr])
 refine e_bx rfl ?_
 intro w1 hb1 hm1 hs1
 have hb1:w1.heap[w.heap.size]? = some (.cells #[.slice (some ⟨bo,0,none⟩) ns.length ns.length,.map (some br)] 200 (0,0)):=hb1
 (try simp only [go_sem,simprocAttr])
 refine e_mm ?_
 intro w2 hb2 hm2 hs2
 have hb12:=hm2.at hb1 (fun h=>h)
 (try simp only [go_sem,simprocAttr])
 refine ir_bthen (fun ρ w'=>∃ (k pf:Nat) (l1:List Int) (R1:List (Int×Int)) (v:Value) (fp:Option Nat),k≤ns.length∧pf < ns.length∧OfOk ns l1 R1∧l1.getD pf 0=over ns p∧over ns pf=over ns p∧(k=0→pf=p)∧(∀ i,i < ns.length→l.getD i 0 ≠ -1→l1.getD i 0 ≠ -1) ∧
     w'.heap[bo]? = some (.cells (l1.map I).toArray 3 (0,0))∧MapAt w' br R1∧Mod (fun x=>x=bo∨x=br) w w'∧w'.heap[w.heap.size]? = some (.cells #[.slice (some ⟨bo,0,none⟩) ns.length ns.length,.map (some br)] 200 (0,0)) ∧
     OwnS w' 3 1 v ((wayL (fun i=>fit (nxt ns) i p) k).map I) k fp∧(∀ b,fp=some b→w.heap.size < b) ∧
     ρ.get 1=some (I pf)∧ρ.get 5=some (.pointer (some ⟨w.heap.size,0,none⟩))∧ρ.get 7=some v) ?_ ?_
 · refine ir_loop (fun m ρ w' => ∃ (k : Nat) (v : Value) (fp : Option Nat), m = ns.length - k ∧ k ≤ ns.length ∧ (∀ j, j < k → ind ns (fit (nxt ns) j p) = true ∧ l.getD (fit (nxt ns) j p) 0 = -1) ∧ (∀ i j, i < k → j < k → fit (nxt ns) i p = fit (nxt ns) j p → i = j) ∧
       Mod (fun _=>False) w w'∧w'.heap[w.heap.size]? = some (.cells #[.slice (some ⟨bo,0,none⟩) ns.length ns.length,.map (some br)] 200 (0,0))∧MapAt w' w1.heap.size (wayMap (fun i=>fit (nxt ns) i p) k) ∧
       OwnS w' 3 1 v ((wayL (fun i=>fit (nxt ns) i p) k).map I) k fp∧(∀ b,fp=some b→w1.heap.size < b) ∧
       ρ=[(0,.pointer (some ⟨a,0,none⟩)),(1,I (fit (nxt ns) k p:Nat)),(5,.pointer (some ⟨w.heap.size,0,none⟩)),(6,.map (some w1.heap.size)),(7,v)]) ns.length
     ⟨0,_,none,rfl,Nat.zero_le _,(fun j hj=>by omega),(fun i j hi=>by omega),hm1.trans hm2,hb12,hb2,OwnS.nil _ _ _,(fun b hb=>by cases hb),rfl⟩ ?_
   rintro m ρ w3 ⟨k,v,fp,rfl,hk,hway,hdist,hm3,hb3,hmap,how,hfp,rfl⟩
   have hbo:=hm3.at hb (fun h=>h)
   have hbr:=map_mod hr hm3 (fun h=>h)
   have ha3:=hm3.at ha (fun h=>h)
   have hfr3:=hfr.mod hm3 (fun _ _ h=>h)
   obtain ⟨bc,cc,nv,rfl,d0,d1,d2,dx,db,_⟩:=from_at hfr3 hargs (hlt k)
   have hx:=ints_at hbo (i:=fit (nxt ns) k p) (by rw [hok.len];exact hlt k)
   have b1:(0:Int)≤(fit (nxt ns) k p:Nat)∧((fit (nxt ns) k p:Nat):Int) < ns.length:=by have:=hlt k;omega
   have hov:over ns (fit (nxt ns) k p)=over ns p:=ov_fit hf hp k
   obtain ⟨va,vc,rfl,_,_⟩:=how.val
   unfold ir170L1
   (try simp only [go_sem,simprocAttr,zb4,zb6,cell_of hb3,b1,hx])
   refine ir_cond rfl (fun hc=>?_) (fun hc=>?_)
   · have hc':l.getD (fit (nxt ns) k p) 0 = -1:=by
       have h1:l.getD (fit (nxt ns) k p) 0 < 0:=by simpa using hc
       rcases hok.val _ (hlt k) with h | h
       · exact h
       · omega
     (try simp only [go_sem,simprocAttr,zb4,zb6,cell_of ha3,b1,d0])
     refine ir_cond rfl (fun hi=>?_) (fun hi=>?_)
     · have hi':ind ns (fit (nxt ns) k p)=false:=by simpa [ind] using hi
       (try simp only [go_sem,simprocAttr,zb4,zb6,cell_of hb3,b1])
       refine e_st1 (off:=fit (nxt ns) k p) rfl rfl hbo rfl (by simp;rw [hok.len];exact hlt k) ?_
       intro w4 hb4 hm4 hs4
       rw [map_set] at hb4
       have hovk:over ns (fit (nxt ns) k p)=fit (nxt ns) k p:=ov_fix (nxt_fix hi')
       have hokk:OfOk ns (l.set (fit (nxt ns) k p) (fit (nxt ns) k p:Nat)) R:=by
         have:=ofOk_set hw hok (hlt k) (hlt k) rfl (.inr (by rw [hovk];exact hi'))
         rwa [hovk] at this
       have hne:bo≠br:=fun hh=>by rw [hh,hrs] at hb;cases hb
       (try simp only [go_sem,simprocAttr])
       refine ⟨k,fit (nxt ns) k p,_,R,_,fp,hk,hlt k,hokk,?_,hov,(fun h=>by subst h;rfl),fun i hi2 h=>?_,hb4,map_mod hbr hm4 (fun hh=>hne hh.symm),(hm3.weak (fun _ h=>h.elim)).step hm4 (fun x hx _=>.inl hx),hm4.at hb3 (fun hh=>by omega),how.mod hm4 (fun b hb hh=>by have:=hfp b hb;have:=hm1.size;omega),fun b hb=>by have:=hfp b hb;omega,rfl,rfl⟩
       · rw [getD_set _ _ _ _ (by rw [hok.len];exact hlt k),if_pos rfl,← hov,hovk]
       · rw [getD_set _ _ _ _ (by rw [hok.len];exact hlt k)]
         split
         · omega
         · exact h
     · have hi':ind ns (fit (nxt ns) k p)=true:=by simpa [ind] using hi
       obtain ⟨q',hq',haq,hnx⟩:=wf_ind hw (hlt k) hi'
       by_cases hseen:∃ j,j < k∧fit (nxt ns) j p=fit (nxt ns) k p
       · obtain ⟨j,hjk,hje⟩:=hseen
         have hget:lget (wayMap (fun i=>fit (nxt ns) i p) k) (fit (nxt ns) k p:Nat)=some (j:Int):=by
           rw [← hje];exact wayMap_some k hdist j hjk
         (try simp only [go_sem,simprocAttr])
         refine e_lk (t:=160) (kt:=3) (et:=3) rfl rfl Tryz.underlying160 Tryz.underlying3 (Tryz.zeroValue3 _) hmap ?_
         rw [hget]
         have b2:(0:Int)≤j∧(j:Int)≤k:=by omega
         have hwl:=wayL_len (fun i=>fit (nxt ns) i p) k
         (try simp only [go_sem,simprocAttr,zb4,zb6,Option.getD_some,Option.isSome_some,b2])
         have hdrop:=own_drop (xs:=wayL (fun i=>fit (nxt ns) i p) k) (a:=va) (c:=vc) (j:=j) (by rw [hwl];exact how) (by rw [hwl];exact hjk) (by rw [hwl];omega)
         rw [hwl] at hdrop
         have hdne:(wayL (fun i=>fit (nxt ns) i p) k).drop j≠[]:=fun hh=>by
           have:=congrArg List.length hh
           rw [List.length_drop,hwl] at this
           simp at this;omega
         refine e_call (by rfl) ?_
         refine (one_ok _ _ _ w3 hdrop hdne).mono ?_
         rintro q _ ⟨⟨mm,rfl,hmin⟩,rfl⟩
         have hmo:mm=(over ns p:Nat):=ring_min hf hp hjk hje.symm hmin
         have hol:over ns p < ns.length:=ov_lt hf hp
         have hoo:over ns (over ns p)=over ns p:=ov_ov hf hp
         have hoi:ind ns (over ns p)=true:=by
           have h1:=List.mem_of_mem_drop hmin.1
           obtain ⟨i,hi3,hi4⟩:=List.mem_map.1 h1
           have hi5:=List.mem_range.1 hi3
           have hi6:((fit (nxt ns) i p:Nat):Int)=mm:=hi4
           have:over ns p=fit (nxt ns) i p:=by rw [hmo] at hi6;omega
           rw [this];exact (hway i hi5).1
         subst hmo
         (try simp only [go_sem,simprocAttr,cell_of hb3])
         refine e_mu (t:=160) (kt:=3) (et:=3) rfl rfl rfl Tryz.underlying160 Tryz.underlying3 hbr ?_
         intro w4 hbr4 hm4 hs4
         have hne:bo≠br:=fun hh=>by rw [hh,hrs] at hb;cases hb
         have hbo4:=hm4.at hbo hne
         have hb4:=hm4.at hb3 (fun hh=>by omega)
         have b3:(0:Int)≤(over ns p:Nat)∧((over ns p:Nat):Int) < ns.length:=by omega
         (try simp only [go_sem,simprocAttr,zb4,zb6,cell_of hb4,b3])
         refine e_st1 (off:=over ns p) rfl rfl hbo4 rfl (by simp;rw [hok.len];exact hol) ?_
         intro w5 hb5 hm5 hs5
         rw [map_set] at hb5
         (try simp only [go_sem,simprocAttr])
         have s1:=hm1.size;have s3:=hm3.size
         have hm45:Mod (fun x=>x=bo∨x=br) w3 w5:=(hm4.weak (S':=fun x=>x=bo∨x=br) (fun x hx=>.inr hx)).step hm5 (fun x hx _=>.inl hx)
         refine ⟨k,over ns p,_,_,_,fp,hk,hol,ofOk_ring hw hok hol hoo hoi,?_,hoo,(fun h=>by omega),fun i hi2 h=>?_,hb5,map_mod hbr4 hm5 (fun hh=>hne hh.symm),(hm3.weak (fun _ h=>h.elim)).trans hm45,hm45.at hb3 (fun hh=>by omega),how.mod hm45 (fun b hb hh=>by have:=hfp b hb;omega),fun b hb=>by have:=hfp b hb;omega,rfl,rfl⟩
         · rw [getD_set _ _ _ _ (by rw [hok.len];exact hol),if_pos rfl]
         · rw [getD_set _ _ _ _ (by rw [hok.len];exact hol)]
           split
           · omega
           · exact h
       · have hnone:=wayMap_none (g:=fun i=>fit (nxt ns) i p) (k:=k) (c:=fit (nxt ns) k p) (fun j hj hh=>hseen ⟨j,hj,hh⟩)
         (try simp only [go_sem,simprocAttr])
         refine e_lk (t:=160) (kt:=3) (et:=3) rfl rfl Tryz.underlying160 Tryz.underlying3 (Tryz.zeroValue3 _) hmap ?_
         rw [hnone.1]
         (try simp only [go_sem,simprocAttr,zb4,zb6,Option.getD_none,Option.isSome_none])
         refine e_mu (t:=160) (kt:=3) (et:=3) rfl rfl rfl Tryz.underlying160 Tryz.underlying3 hmap ?_
         intro w4 hmap4 hm4 hs4
         rw [hnone.2,← wayMap_succ (fun i=>fit (nxt ns) i p) k] at hmap4
         have s1:=hm1.size;have s3:=hm3.size
         have lm:=(by obtain ⟨es,c,h,_⟩:=hmap;exact lt_of_heap h:w1.heap.size < w3.heap.size)
         have hm04:Mod (fun _=>False) w w4:=hm3.step hm4 (fun x hx hlt=>by omega)
         have hb4:=hm4.at hb3 (fun hh=>by omega)
         have how4:=how.mod hm4 (fun b hb hh=>by have:=hfp b hb;omega)
         (try simp only [go_sem,simprocAttr])
         refine e_bs (by rfl) (by (try simp only [go_sem,simprocAttr]);rfl) ?_
         intro w5 hb5 hm5 hs5
         have how5:=how4.mod hm5 (fun _ _ h=>h)
         (try simp only [go_sem,simprocAttr])
         refine e_ap (m:=1) (news:=[I (fit (nxt ns) k p:Nat)]) rfl how5 rfl (fun h=>by cases h) (rd_block hb5) (by simp [Value.oneCell']) rfl (by omega) (by omega) ?_
         intro v6 w6 fp6 ho6 hm6 hf6
         obtain ⟨va6,vc6,rfl,_,_⟩:=ho6.val
         have s4:=hm4.size;have s5:=hm5.size;have s6:=hm6.size
         have hm06:Mod (fun _=>False) w w6:=(hm04.trans hm5).step hm6 (fun x hx hlt=>by have:=hfp x hx;omega)
         have ha6:=hm06.at ha (fun h=>h)
         obtain ⟨bc',cc',nv',ecv,e0,e1,e2,ex,eb,_⟩:=from_at (hfr.mod hm06 (fun _ _ h=>h)) hargs (hlt k)
         cases ecv
         obtain ⟨xa,xc,rfl,_,_⟩:=id ex
         obtain ⟨ad,rfl,had⟩:=leads' ex haq
         have hl1:(ndAt ns (fit (nxt ns) k p)).args.length=1:=by rw [haq];rfl
         have z3:(0:Int)≤0∧(0:Int) < ((1:Nat):Int):=by omega
         (try simp only [go_sem,simprocAttr,zb4,zb6,cell_of ha6,b1,e2,hl1,z3,had])
         have hk1:k+1≤ns.length:=by
           have hnd:((List.range (k+1)).map (fun i=>fit (nxt ns) i p)).Nodup:=by
             rw [List.range_succ,List.map_append,List.nodup_append]
             refine ⟨?_,by simp,fun x hx y hy hxy=>?_⟩
             · unfold List.Nodup
               rw [List.pairwise_map]
               refine List.Pairwise.imp_of_mem ?_ (List.nodup_range (n:=k))
               intro i j hi hj hij hh
               exact hij (hdist i j (List.mem_range.1 hi) (List.mem_range.1 hj) hh)
             · obtain ⟨i,hi,rfl⟩:=List.mem_map.1 hx
               simp at hy
               exact hseen ⟨i,List.mem_range.1 hi,by rw [hxy,hy]⟩
           have:=nodup_le ns.length _ hnd (fun x hx=>by obtain ⟨i,_,rfl⟩:=List.mem_map.1 hx;exact hlt i)
           simpa using this
         have hfpne:∀ b,fp=some b→w1.heap.size < b:=hfp
         have hb6:=hm6.at (hm5.at hb4 (fun h=>h)) (fun hh=>by have:=hfp _ hh;omega)
         have hmap6:=map_mod (map_mod hmap4 hm5 (fun h=>h)) hm6 (fun hh=>by have:=hfp _ hh;omega)
         refine ⟨_,?_,k+1,.slice va6 (k+1) vc6,fp6,rfl,hk1,fun j hj=>?_,fun i j hi hj hij=>?_,hm06,hb6,hmap6,?_,fun b hb=>?_,?_⟩
         · omega
         · rcases Nat.lt_or_ge j k with h | h
           · exact hway j h
           · obtain rfl:j=k:=by omega
             exact ⟨hi',hc'⟩
         · rcases Nat.lt_or_ge i k with h1 | h1
           · rcases Nat.lt_or_ge j k with h2 | h2
             · exact hdist i j h1 h2 hij
             · obtain rfl:j=k:=by omega
               exact absurd ⟨i,h1,hij⟩ hseen
           · obtain rfl:i=k:=by omega
             rcases Nat.lt_or_ge j i with h2 | h2
             · exact absurd ⟨j,h2,hij.symm⟩ hseen
             · omega
         · rw [wayL_succ,List.map_append];exact ho6
         · rcases hf6 b hb with h | h
           · exact hfp b h
           · omega
         · rw [fit_succ,hnx]
   · have hc':l.getD (fit (nxt ns) k p) 0 ≠ -1:=fun h=>by rw [h] at hc;simp at hc
     (try simp only [go_sem,simprocAttr])
     refine ⟨k,fit (nxt ns) k p,l,R,_,fp,hk,hlt k,hok,?_,hov,(fun h=>by subst h;rfl),fun i _ h=>h,hbo,hbr,hm3.weak (fun _ h=>h.elim),hb3,how,fun b hb=>by have:=hfp b hb;omega,rfl,rfl⟩
     rcases hok.val _ (hlt k) with h | h
     · exact absurd h hc'
     · rw [h,hov]
 · rintro ρ w3 ⟨k,pf,l1,R1,v,fp,hk,hpf,hok1,hval,hov,hk0,hmono,hbo,hbr,hm,hb3,how,hfp,r1,r5,r7⟩
   obtain ⟨va,vc,rfl,_,_⟩:=how.val
   (try simp only [go_sem,simprocAttr,r1,r5,r7])
   have lbo:=lt_of_heap hbo
   have s1:=hm1.size
   refine ir_loop (fun m ρ w'=>∃ (t:Nat) (l2:List Int),m=k - t∧t≤k∧OfOk ns l2 R1∧l2.getD pf 0=over ns p∧(∀ j,j < t→l2.getD (fit (nxt ns) j p) 0=over ns p)∧(∀ i,i < ns.length→l1.getD i 0 ≠ -1→l2.getD i 0 ≠ -1) ∧
       w'.heap[bo]? = some (.cells (l2.map I).toArray 3 (0,0))∧Mod (fun x=>x=bo) w3 w' ∧
       ρ=[(1,I pf),(5,.pointer (some ⟨w.heap.size,0,none⟩)),(71,.slice va k vc),(72,I k),(73,I t)]) k
     ⟨0,l1,rfl,Nat.zero_le _,hok1,hval,(fun j hj=>by omega),(fun i _ h=>h),hbo,Mod.refl _ _,rfl⟩ ?_
   rintro m ρ w4 ⟨t,l2,rfl,ht,hok2,hval2,hset,hmono2,hbo4,hm4,rfl⟩
   unfold ir170L2
   have hne:bo≠br:=fun hh=>by rw [hh,hrs] at hb;cases hb
   have how4:=how.mod hm4 (fun b hb' hh=>by have:=hfp b hb';omega)
   have hb4:=hm4.at hb3 (fun hh=>by omega)
   (try simp only [go_sem,simprocAttr])
   refine ir_cond rfl (fun hc=>?_) (fun hc=>?_)
   · have htk:t < k:=by simpa using hc
     have b1:(0:Int)≤t∧(t:Int) < k:=by omega
     obtain ⟨bw,cw,ew,tw⟩:=own_at' how4 htk (u:=I (fit (nxt ns) t p:Nat)) (by simp [wayL,htk])
     cases ew
     have hwk:IntKind.i64.wrap ((t:Int)+1)=((t+1:Nat):Int):=by rw [wrap_in]<;>omega
     have b2:(0:Int)≤(fit (nxt ns) t p:Nat)∧((fit (nxt ns) t p:Nat):Int) < ns.length:=by have:=hlt t;omega
     have b3:(0:Int)≤(pf:Nat)∧((pf:Nat):Int) < ns.length:=by omega
     have hxp:=ints_at hbo4 (i:=pf) (by rw [hok2.len];exact hpf)
     have hwd:Mod (fun _=>False) w4 w4.drew:=⟨Nat.le_refl _,fun _ _ _=>rfl,rfl,rfl,rfl⟩
     (try simp only [go_sem,simprocAttr,zb4,zb6,b1,tw,cell_of hb4,b2,b3,hxp])
     refine e_st1 (off:=fit (nxt ns) t p) rfl rfl (hwd.at hbo4 (fun h=>h)) rfl (by simp;rw [hok2.len];exact hlt t) ?_
     intro w5 hb5 hm5 hs5
     rw [map_set,hval2] at hb5
     (try simp only [go_sem,simprocAttr,hwk])
     have hovt:over ns (fit (nxt ns) t p)=over ns p:=ov_fit hf hp t
     have hset1:OfOk ns (l2.set (fit (nxt ns) t p) (over ns p:Nat)) R1:=by
       have:=ofOk_set hw hok2 (hlt t) hpf (by rw [hovt,hov]) (.inl (by rw [hval2];omega))
       rwa [hov] at this
     have hql:fit (nxt ns) t p < l2.length:=by rw [hok2.len];exact hlt t
     refine ⟨_,?_,t+1,_,rfl,htk,hset1,?_,fun j hj=>?_,fun i hi h=>?_,hb5,hm4.trans ((hwd.weak (fun _ h=>h.elim)).step hm5 (fun x hx _=>hx)),rfl⟩
     · omega
     · rw [getD_set _ _ _ _ hql]
       split
       · rfl
       · exact hval2
     · rw [getD_set _ _ _ _ hql]
       split
       · rfl
       · rename_i hne2
         rcases Nat.lt_or_ge j t with h | h
         · exact hset j h
         · obtain rfl:j=t:=by omega
           exact absurd rfl hne2
     · rw [getD_set _ _ _ _ hql]
       split
       · omega
       · exact hmono2 i hi h
   · have htk:t=k:=by simp at hc;omega
     subst htk
     (try simp only [go_sem,simprocAttr])
     refine ⟨l2,R1,hok2,?_,fun i hi h=>hmono2 i hi (hmono i hi h),hbo4,map_mod hbr hm4 (fun hh=>hne hh.symm),hm.step hm4 (fun x hx _=>.inl hx)⟩
     rcases Nat.eq_zero_or_pos t with h0 | h0
     · have e:=hk0 h0
       rw [e] at hval2
       exact hval2
     · exact hset 0 h0
end
section
open Go Go.W
structure Things (w:World) (bo br:Nat) (ns:List Nd) (R:List (Int×Int)):Prop where
 of:w.heap[bo]? = some (.cells (((List.range ns.length).map fun i=>(over ns i:Int)).map I).toArray 3 (0,0))
 ring:MapAt w br R
 nd:(R.map (fun q=>q.1)).Nodup
 keys:∀ k:Int,k∈R.map (fun q=>q.1)↔∃ i,i < ns.length∧k=over ns i∧ind ns (over ns i)=true
theorem over_list {ns:List Nd} {l:List Int} (hl:l.length=ns.length) (h:∀ i,i < ns.length→l.getD i 0=over ns i):l=(List.range ns.length).map fun i=>(over ns i:Int):=by
 apply List.ext_getElem?
 intro i
 by_cases hi:i < ns.length
 · have:=h i hi
   rw [List.getD_eq_getElem?_getD,List.getElem?_eq_getElem (by omega)] at this
   rw [List.getElem?_eq_getElem (by omega),List.getElem?_map,List.getElem?_range hi]
   simpa using this
 · rw [List.getElem?_eq_none (by omega),List.getElem?_eq_none (by simp;omega)]
theorem gpassed_ok (ns:List Nd) (hw:WF ns) (hn:ns.length≤1048576) (w:World) (a:Nat) (c0 c1 cv c3 c4 c5:Value) (F:Nat→Prop) (ha:w.heap[a]? = some (.cells #[c0,c1,cv,c3,c4,c5] 162 (0,0))) (hfr:FromAt 87 w cv ns F) :
   CallsR Tryz.prog 164 [.pointer (some ⟨a,0,none⟩)] w fun r w'=>∃ bo br R,r = .agg #[.slice (some ⟨bo,0,none⟩) ns.length ns.length,.map (some br)]∧Things w' bo br ns R∧w.heap.size≤bo∧w.heap.size≤br∧bo≠br∧Mod (fun _=>False) w w':=by
 obtain ⟨_,_,hown,_,_,_,hFl⟩:=id hfr
 obtain ⟨ca,cc,rfl,_,_⟩:=hown.val
 refine fit164.calls rfl ?_
 unfold ir164
 (try simp only [go_sem,simprocAttr])
 refine e_al ?_
 intro w1 hb1 hm1 hs1
 have hb1:w1.heap[w.heap.size]? = some (.cells #[.slice none 0 0,.map none] 200 (0,0)):=hb1
 have ha1:=hm1.at ha (fun h=>h)
 (try simp only [go_sem,simprocAttr,cell_of ha1])
 refine e_ms1 (n:=ns.length) rfl (by omega) (by omega) ?_
 intro w2 hb2 hm2 hs2
 have hb2:w2.heap[w1.heap.size]? = some (.cells ((List.replicate ns.length (0:Int)).map I).toArray 3 (0,0)):=by simpa using hb2
 (try simp only [go_sem,simprocAttr])
 refine e_mm ?_
 intro w3 hb3 hm3 hs3
 (try simp only [go_sem,simprocAttr])
 refine e_al ?_
 intro w4 hb4 hm4 hs4
 have hb4:w4.heap[w3.heap.size]? = some (.cells #[.slice none 0 0,.map none] 200 (0,0)):=hb4
 (try simp only [go_sem,simprocAttr])
 refine e_sta rfl rfl hb4 rfl rfl (by simp [Value.oneCell']) ?_
 intro w5 hb5 hm5 hs5
 have s1:=hm1.size;have s2:=hm2.size;have s3:=hm3.size;have s4:=hm4.size
 have l2:=lt_of_heap hb2
 have hm25:Mod (fun _=>False) w2 w5:=(hm3.trans hm4).step hm5 (fun x hx hlt=>by omega)
 have hm05:Mod (fun _=>False) w w5:=(hm1.trans hm2).trans hm25
 have hb25:=hm25.at hb2 (fun h=>h)
 have hmap5:MapAt w5 w2.heap.size []:=map_mod (map_mod hb3 hm4 (fun h=>h)) hm5 (by omega)
 have hb15:=(hm2.trans hm25).at hb1 (fun h=>h)
 (try simp only [go_sem,simprocAttr,cell_of hb5])
 refine ir_loop (fun m ρ w'=>∃ k:Nat,m=ns.length - k∧k≤ns.length∧w'.heap[w1.heap.size]? = some (.cells ((List.replicate k (-1:Int)++List.replicate (ns.length - k) 0).map I).toArray 3 (0,0))∧Mod (fun x=>x=w1.heap.size) w5 w'∧w'.heap.size=w5.heap.size ∧
     ρ=[(0,.pointer (some ⟨a,0,none⟩)),(2,.pointer (some ⟨w.heap.size,0,none⟩)),(3,.pointer (some ⟨w3.heap.size,0,none⟩)),(16,I ns.length),(17,I k)]) ns.length
   ⟨0,rfl,Nat.zero_le _,by simpa using hb25,Mod.refl _ _,rfl,rfl⟩ ?_
 rintro m ρ w6 ⟨k,rfl,hk,hb6,hm6,hs6,rfl⟩
 have hb56:=hm6.at hb5 (by omega)
 unfold ir164L1
 (try simp only [go_sem,simprocAttr])
 refine ir_cond rfl (fun hc=>?_) (fun hc=>?_)
 · have hk':k < ns.length:=by simpa using hc
   have b1:(0:Int)≤k∧(k:Int) < ns.length:=by omega
   have hwk:IntKind.i64.wrap ((k:Int)+1)=((k+1:Nat):Int):=by rw [wrap_in]<;>omega
   (try simp only [go_sem,simprocAttr,zb4,zb6,cell_of hb56,b1])
   refine e_st1 (off:=k) rfl rfl hb6 rfl (by simp;omega) ?_
   intro w7 hb7 hm7 hs7
   rw [map_set] at hb7
   (try simp only [go_sem,simprocAttr,hwk])
   refine ⟨_,?_,k+1,rfl,hk',?_,hm6.trans hm7,by omega,rfl⟩
   · omega
   · have e:(List.replicate k (-1:Int)++List.replicate (ns.length - k) 0).set k (-1)=List.replicate (k+1) (-1)++List.replicate (ns.length - (k+1)) 0:=by
       rw [List.set_append,if_neg (by simp),List.length_replicate,Nat.sub_self,show ns.length - k=(ns.length - (k+1))+1 by omega,List.replicate_succ,List.set_cons_zero,List.replicate_succ' (n:=k)]
       simp
     rw [e] at hb7;exact hb7
 have hk':k=ns.length:=by simp at hc;omega
 subst hk'
 rw [Nat.sub_self,List.replicate_zero,List.append_nil] at hb6
 have hmap6:=map_mod hmap5 hm6 (by omega)
 have hm06:Mod (fun _=>False) w w6:=hm05.step hm6 (fun x hx hlt=>by omega)
 have ha6:=hm06.at ha (fun h=>h)
 have hok0:OfOk ns (List.replicate ns.length (-1)) []:=by
   refine ⟨by simp,fun i hi=>.inl (by simp [List.getElem?_replicate,hi]),by simp,fun k=>⟨fun h=>by simp at h,fun ⟨i,h1,_,h3,_⟩=>absurd (by simp [List.getElem?_replicate,h1]) h3⟩⟩
 (try simp only [go_sem,simprocAttr,cell_of ha6])
 refine ir_loop (fun m ρ w'=>∃ (k:Nat) (l:List Int) (R:List (Int×Int)),m=ns.length - k∧k≤ns.length∧OfOk ns l R∧(∀ i,i < k→l.getD i 0=over ns i)∧w'.heap[w1.heap.size]? = some (.cells (l.map I).toArray 3 (0,0))∧MapAt w' w2.heap.size R ∧
     Mod (fun x=>x=w1.heap.size∨x=w2.heap.size) w6 w' ∧
     ρ=[(0,.pointer (some ⟨a,0,none⟩)),(2,.pointer (some ⟨w.heap.size,0,none⟩)),(3,.pointer (some ⟨w3.heap.size,0,none⟩)),(29,I ns.length),(30,I k)]) ns.length
   ⟨0,_,[],rfl,Nat.zero_le _,hok0,(fun i hi=>by omega),hb6,hmap6,Mod.refl _ _,rfl⟩ ?_
 rintro m ρ w7 ⟨k,l,R,rfl,hk,hok,hall,hb7,hmap7,hm7,rfl⟩
 have hb57:=hm7.at hb56 (by omega)
 have hm07:Mod (fun _=>False) w w7:=hm06.step hm7 (fun x hx hlt=>by omega)
 unfold ir164L2
 (try simp only [go_sem,simprocAttr])
 refine ir_cond rfl (fun hc=>?_) (fun hc=>?_)
 · have hk':k < ns.length:=by simpa using hc
   have hwk:IntKind.i64.wrap ((k:Int)+1)=((k+1:Nat):Int):=by rw [wrap_in]<;>omega
   (try simp only [go_sem,simprocAttr,ln_of hb57 (off:=0) (n:=2) (by simp)])
   refine e_call (by rfl) ?_
   refine (gpass_ok ns hw hn w7 a w1.heap.size w2.heap.size c0 c1 _ c3 c4 c5 l R F (hm07.at ha (fun h=>h)) (hfr.mod hm07 (fun _ _ h=>h)) hb7 hmap7 hok (fun x hx=>by have:=hFl x hx;omega) k hk').mono ?_
   rintro q w8 ⟨l8,R8,hok8,hv8,hmono8,hb8,hmap8,hm8⟩
   (try simp only [go_sem,simprocAttr,hwk])
   refine ⟨_,?_,k+1,l8,R8,rfl,hk',hok8,fun i hi=>?_,hb8,hmap8,hm7.trans hm8,rfl⟩
   · omega
   · rcases Nat.lt_or_ge i k with h | h
     · rcases hok8.val i (by omega) with h2 | h2
       · exact absurd h2 (hmono8 i (by omega) (by rw [hall i h];omega))
       · exact h2
     · obtain rfl:i=k:=by omega
       exact hv8
 · have hk':k=ns.length:=by simp at hc;omega
   subst hk'
   have el:=over_list hok.len hall
   have hb17:=(hm6.weak (S':=fun x=>x=w1.heap.size∨x=w2.heap.size) (fun x hx=>.inl hx)).trans hm7 |>.at hb15 (by omega)
   (try simp only [go_sem,simprocAttr,ln_of hb57 (off:=0) (n:=2) (by simp)])
   refine e_sta rfl rfl hb17 rfl rfl (by simp [Value.oneCell']) ?_
   intro w8 hb8 hm8 hs8
   (try simp only [go_sem,simprocAttr,ln_of hb8 (off:=0) (n:=2) (by simp)])
   refine ⟨_,_,R,rfl,⟨?_,map_mod hmap7 hm8 (by omega),hok.nd,fun k=>?_⟩,by omega,by omega,by omega,hm07.step hm8 (fun x hx hlt=>by omega)⟩
   · rw [← el];exact hm8.at hb7 (by omega)
   · rw [hok.ring]
     exact ⟨fun ⟨i,h1,h2,_,h4⟩=>⟨i,h1,h2,h4⟩,fun ⟨i,h1,h2,h4⟩=>⟨i,h1,h2,by rw [hall i h1];omega,h4⟩⟩
end
section
open Go Go.W
def meetF (ns:List Nd) (fr:Nat) (out:List Nat) (p:Nat):List Nat:=if over ns p < fr∨over ns p∈out then out else out++[over ns p]
def meetsF (ns:List Nd) (fr:Nat) (out:List Nat) (l:List Int):List Nat:=l.foldl (fun o (p:Int)=>meetF ns fr o p.toNat) out
def numF (ns:List Nd) (fr:Nat) (out:List Nat) (p:Int):Int:=if over ns p.toNat < fr then over ns p.toNat else (fr+out.idxOf (over ns p.toNat):Nat)
def reachF (ns:List Nd) (fr:Nat):Nat→Nat→List Nat→List Nat
 | 0,_,out=>out
 | f+1,i,out=>match out[i]? with
   | some x=>reachF ns fr f (i+1) (meetsF ns fr out (ndAt ns x).args)
   | none=>out
def MetF (ns:List Nd) (fr:Nat) (out:List Nat):Prop:=out.Nodup∧∀ x∈out,x < ns.length∧over ns x=x∧fr≤x
theorem metF_nil (ns:List Nd) (fr:Nat):MetF ns fr []:=⟨List.nodup_nil,fun x h=>by cases h⟩
theorem metF_len {ns:List Nd} {fr:Nat} {out:List Nat} (h:MetF ns fr out):out.length≤ns.length:=nodup_le _ _ h.1 (fun x hx=>(h.2 x hx).1)
theorem metF_meet {ns:List Nd} (hw:WF ns) {fr:Nat} {out:List Nat} (h:MetF ns fr out) {p:Nat} (hp:p < ns.length):MetF ns fr (meetF ns fr out p):=by
 unfold meetF
 split
 · exact h
 · rename_i hn
   refine ⟨?_,?_⟩
   · rw [List.nodup_append]
     refine ⟨h.1,by simp,?_⟩
     intro a ha b hb hab
     simp at hb
     exact hn (.inr (hb ▸ hab ▸ ha))
   · intro x hx
     rcases List.mem_append.1 hx with hx | hx
     · exact h.2 x hx
     · simp at hx;subst hx
       exact ⟨ov_lt (wf_nxt_lt hw) hp,ov_ov (wf_nxt_lt hw) hp,by omega⟩
theorem meetF_pre (ns:List Nd) (fr:Nat) (out:List Nat) (p:Nat):out <+: meetF ns fr out p:=by
 unfold meetF;split
 · exact List.prefix_rfl
 · exact List.prefix_append _ _
theorem meetsF_pre (ns:List Nd) (fr:Nat) (l:List Int):∀ out,out <+: meetsF ns fr out l:=by
 induction l with
 | nil=>intro out;exact List.prefix_rfl
 | cons a l ih=>intro out;exact (meetF_pre ns fr out a.toNat).trans (ih _)
theorem reachF_pre (ns:List Nd) (fr:Nat):∀ f i out,out <+: reachF ns fr f i out:=by
 intro f
 induction f with
 | zero=>intro i out;exact List.prefix_rfl
 | succ f ih=>
   intro i out
   unfold reachF
   split
   · exact (meetsF_pre ns fr _ _).trans (ih _ _)
   · exact List.prefix_rfl
theorem reachF_end (ns:List Nd) (fr f i:Nat) (out:List Nat) (h:out.length≤i):reachF ns fr f i out=out:=by
 cases f with
 | zero=>rfl
 | succ f=>simp [reachF,List.getElem?_eq_none h]
theorem reachF_step (ns:List Nd) (fr f i:Nat) (out:List Nat) (h:i < out.length):reachF ns fr (f+1) i out=reachF ns fr f (i+1) (meetsF ns fr out (ndAt ns out[i]).args):=by
 simp [reachF,h]
theorem metF_meets {ns:List Nd} (hw:WF ns) {fr:Nat}:∀ (l:List Int) {out:List Nat},MetF ns fr out→okPl ns.length l=true→MetF ns fr (meetsF ns fr out l):=by
 intro l
 induction l with
 | nil=>intro out h _;exact h
 | cons a l ih=>
   intro out h ho
   simp only [okPl,List.all_cons,Bool.and_eq_true,decide_eq_true_eq] at ho
   exact ih (metF_meet hw h (by omega)) (by simpa [okPl] using ho.2)
theorem memF_meet (ns:List Nd) (fr:Nat) (out:List Nat) (p:Nat) (h:fr≤over ns p):over ns p∈meetF ns fr out p:=by
 unfold meetF;split
 · rename_i hh;exact hh.resolve_left (by omega)
 · simp
theorem numF_pre {ns:List Nd} {fr:Nat} {a b:List Nat} (h:a <+: b) {p:Int} (hx:over ns p.toNat < fr∨over ns p.toNat∈a):numF ns fr b p=numF ns fr a p:=by
 unfold numF
 split
 · rfl
 · rename_i hn
   rw [idx_pre h (hx.resolve_left hn)]
theorem metF_in (ns:List Nd) (fr:Nat) (out:List Nat) (p:Nat):over ns p < fr∨over ns p∈meetF ns fr out p:=by
 rcases Nat.lt_or_ge (over ns p) fr with h | h
 · exact .inl h
 · exact .inr (memF_meet ns fr out p h)
theorem numF_meet {ns:List Nd} {fr:Nat} {out:List Nat} {p:Nat} (hn:¬ over ns p < fr) (hno:over ns p∉out):numF ns fr (meetF ns fr out p) p=(fr+out.length:Nat):=by
 unfold numF meetF
 rw [Int.toNat_natCast,if_neg hn,if_neg (by simp [hn,hno]),List.idxOf_append,if_neg hno]
 simp
theorem meetsF_cons (ns:List Nd) (fr:Nat) (out:List Nat) (a:Int) (l:List Int):meetsF ns fr out (a::l)=meetsF ns fr (meetF ns fr out a.toNat) l:=rfl
theorem meetsF_take (ns:List Nd) (fr:Nat) (l:List Int) (out:List Nat) {k:Nat} {a:Int} (h:l[k]? = some a):meetsF ns fr out (l.take (k+1))=meetF ns fr (meetsF ns fr out (l.take k)) a.toNat:=by
 obtain ⟨hk,rfl⟩:=List.getElem?_eq_some_iff.1 h
 rw [List.take_succ_eq_append_getElem hk]
 unfold meetsF
 rw [List.foldl_append]
 rfl
theorem meetsF_in (ns:List Nd) (fr:Nat):∀ (l:List Int) (out:List Nat) (a:Int),a∈l→over ns a.toNat < fr∨over ns a.toNat∈meetsF ns fr out l:=by
 intro l
 induction l with
 | nil=>intro out a h;cases h
 | cons b l ih=>
   intro out a h
   rw [meetsF_cons]
   rcases List.mem_cons.1 h with rfl | h
   · exact (metF_in ns fr out a.toNat).imp (fun h=>h) (fun h=>(meetsF_pre ns fr l _).subset h)
   · exact ih _ a h
end
section
open Go Go.W
def newMap (fr:Nat) (out:List Nat):List (Int×Int):=(List.range out.length).map fun j=>((out.getD j 0:Int),((fr+j:Nat):Int))
theorem newMap_app (fr:Nat) (out:List Nat) (x:Nat):newMap fr (out++[x])=newMap fr out++[((x:Int),((fr+out.length:Nat):Int))]:=by
 unfold newMap
 rw [List.length_append,List.length_singleton,List.range_succ,List.map_append]
 congr 1
 · apply List.map_congr_left
   intro j hj
   have:=List.mem_range.1 hj
   simp [List.getD_eq_getElem?_getD,List.getElem?_append_left this]
 · simp [List.getD_eq_getElem?_getD]
theorem newMap_none {fr:Nat} {out:List Nat} {x:Nat} (h:x∉out):lget (newMap fr out) x=none∧∀ v,lput (newMap fr out) x v=newMap fr out++[((x:Int),v)]:=by
 have hf:(newMap fr out).findIdx? (fun p=>p.1 == (x:Int))=none:=by
   rw [List.findIdx?_eq_none_iff]
   intro q hq
   obtain ⟨j,hj,rfl⟩:=List.mem_map.1 hq
   have hj':=List.mem_range.1 hj
   have:out.getD j 0≠x:=fun hh=>h (by rw [← hh,List.getD_eq_getElem?_getD,List.getElem?_eq_getElem hj'];exact List.getElem_mem hj')
   simp only [beq_eq_false_iff_ne,ne_eq]
   omega
 refine ⟨by rw [lget_idx,hf];rfl,fun v=>by unfold lput;rw [hf]⟩
theorem newMap_some (fr:Nat):∀ (n:Nat) (out:List Nat) (x:Nat),out.length=n→x∈out→lget (newMap fr out) x=some ((fr+out.idxOf x:Nat):Int):=by
 intro n
 induction n with
 | zero=>intro out x h hx;rw [List.eq_nil_of_length_eq_zero h] at hx;cases hx
 | succ n ih=>
   intro out x hl h
   rcases List.eq_nil_or_concat out with rfl | ⟨out,y,rfl⟩
   · cases h
   rw [List.concat_eq_append] at *
   have hl':out.length=n:=by simpa using hl
   rw [newMap_app]
   by_cases hx:x∈out
   · have h1:=ih out x hl' hx
     unfold lget at h1 ⊢
     rw [List.find?_append,List.idxOf_append,if_pos hx]
     cases hq:(newMap fr out).find? (fun p=>p.1 == (x:Int)) with
     | none=>rw [hq] at h1;cases h1
     | some q=>rw [hq] at h1;simpa using h1
   · have e:x=y:=by simpa [hx] using h
     subst e
     have h1:=(newMap_none (fr:=fr) hx).1
     unfold lget at h1 ⊢
     rw [List.find?_append,List.idxOf_append,if_neg hx]
     cases hq:(newMap fr out).find? (fun p=>p.1 == (x:Int)) with
     | none=>simp
     | some q=>rw [hq] at h1;cases h1
structure MvAt (w:World) (bm a bo br bn:Nat) (ns:List Nd) (fr:Nat) (out:List Nat) (vm:Value) (fp:Option Nat):Prop where
 cells:w.heap[bm]? = some (.cells #[.pointer (some ⟨a,0,none⟩),.slice (some ⟨bo,0,none⟩) ns.length ns.length,.map (some br),I fr,.map (some bn),vm] 203 (0,0))
 of:w.heap[bo]? = some (.cells (((List.range ns.length).map fun i=>(over ns i:Int)).map I).toArray 3 (0,0))
 new:MapAt w bn (newMap fr out)
 met:OwnS w 3 1 vm (out.map fun x=>I (x:Nat)) out.length fp
 ne:fp≠some bo
theorem mv_mod {w w':World} {bm a bo br bn:Nat} {ns:List Nd} {fr:Nat} {out:List Nat} {vm:Value} {fp:Option Nat} {S:Nat→Prop} (h:MvAt w bm a bo br bn ns fr out vm fp) (hm:Mod S w w') (h1:¬ S bm) (h2:¬ S bo) (h3:¬ S bn) (h4:∀ x,fp=some x→¬ S x):MvAt w' bm a bo br bn ns fr out vm fp:=
 ⟨hm.at h.cells h1,hm.at h.of h2,map_mod h.new hm h3,h.met.mod hm h4,h.ne⟩
theorem place_ok (w:World) (bm a bo br bn:Nat) (ns:List Nd) (hw:WF ns) (hn:ns.length≤1048576) (fr:Nat) (hfr:fr≤ns.length) (out:List Nat) (vm:Value) (fp:Option Nat) (h:MvAt w bm a bo br bn ns fr out vm fp) (hm:MetF ns fr out) (p:Nat) (hp:p < ns.length) :
   CallsR Tryz.prog 169 [.pointer (some ⟨bm,0,none⟩),I p] w fun r w'=>r=I (numF ns fr (meetF ns fr out p) p)∧∃ vm' fp',MvAt w' bm a bo br bn ns fr (meetF ns fr out p) vm' fp'∧Mod (fun x=>x=bm∨x=bn∨fp=some x) w w'∧∀ x,fp'=some x→fp=some x∨w.heap.size≤x:=by
 obtain ⟨h1,h2,h3,h4,h5⟩:=h
 have hol:over ns p < ns.length:=ov_lt (wf_nxt_lt hw) hp
 have hml:=metF_len hm
 have b1:(0:Int)≤p∧(p:Int) < ns.length:=by omega
 have hx:=ints_at h2 (i:=p) (by simp;exact hp)
 have hx2:((List.range ns.length).map fun i=>(over ns i:Int)).getD p 0=(over ns p:Nat):=by simp [List.getD_eq_getElem?_getD,hp]
 rw [hx2] at hx
 refine fit169.calls rfl ?_
 unfold ir169
 (try simp only [go_sem,simprocAttr,zb4,zb6,cell_of h1,b1,hx])
 refine ir_cond rfl (fun hc=>?_) (fun hc=>?_)
 · have hc':over ns p < fr:=by simpa using hc
   (try simp only [go_sem,simprocAttr])
   have e:meetF ns fr out p=out:=by simp [meetF,hc']
   rw [e]
   refine ⟨by unfold numF;rw [Int.toNat_natCast,if_pos hc'],vm,fp,⟨h1,h2,h3,h4,h5⟩,Mod.refl _ _,fun x hx=>.inl hx⟩
 · have hc':¬ over ns p < fr:=by simpa using hc
   (try simp only [go_sem,simprocAttr,cell_of h1])
   refine e_lk (t:=160) (kt:=3) (et:=3) rfl rfl Tryz.underlying160 Tryz.underlying3 (Tryz.zeroValue3 _) h3 ?_
   by_cases hin:over ns p∈out
   · rw [newMap_some fr _ out _ rfl hin]
     (try simp only [go_sem,simprocAttr,Option.getD_some,Option.isSome_some,Bool.not_true,Bool.not_false])
     have e:meetF ns fr out p=out:=by simp [meetF,hin]
     rw [e]
     refine ⟨by unfold numF;rw [Int.toNat_natCast,if_neg hc'],vm,fp,⟨h1,h2,h3,h4,h5⟩,Mod.refl _ _,fun x hx=>.inl hx⟩
   · have hnone:=newMap_none (fr:=fr) hin
     rw [hnone.1]
     obtain ⟨va,vc,rfl,_,_⟩:=h4.val
     have hws:IntKind.i64.wrap ((fr:Int)+out.length)=((fr+out.length:Nat):Int):=by rw [wrap_in]<;>omega
     (try simp only [go_sem,simprocAttr,Option.getD_none,Option.isSome_none,Bool.not_true,Bool.not_false,cell_of h1,hws])
     have hwd:Mod (fun _=>False) w w.drew:=⟨Nat.le_refl _,fun _ _ _=>rfl,rfl,rfl,rfl⟩
     have hbne:bm≠bn:=fun hh=>by
       obtain ⟨es,c,q2,_⟩:=h3
       rw [← hh,h1] at q2;cases q2
     have hbon:bo≠bn:=fun hh=>by
       obtain ⟨es,c,q2,_⟩:=h3
       rw [← hh,h2] at q2;cases q2
     have hbmo:bm≠bo:=fun hh=>kind_ne h1 (hh ▸ h2) (by decide)
     have hpn:∀ x,fp=some x→x≠bn:=fun x hx hh=>by
       obtain ⟨es,c,q2,_⟩:=h3
       obtain ⟨cs,q3⟩:=own_cells h4 hx
       rw [hh,q2] at q3;cases q3
     have hpm:fp≠some bm:=own_ne h4 h1 (by decide)
     refine e_mu (t:=160) (kt:=3) (et:=3) rfl rfl rfl Tryz.underlying160 Tryz.underlying3 (map_mod h3 hwd (fun h=>h)) ?_
     intro w2 hm2 hmm2 hs2
     rw [hnone.2,← newMap_app] at hm2
     have hmm02:=(hwd.weak (S':=fun x=>x=bn) (fun _ h=>h.elim)).trans hmm2
     have h12:=hmm02.at h1 hbne
     have h22:=hmm02.at h2 hbon
     have h42:=h4.mod hmm02 hpn
     (try simp only [go_sem,simprocAttr,cell_of h12])
     refine e_bs (by rfl) (by (try simp only [go_sem,simprocAttr]);rfl) ?_
     intro w3 hb3 hm3 hs3
     have h43:=h42.mod hm3 (fun _ _ h=>h)
     (try simp only [go_sem,simprocAttr])
     refine e_ap (m:=1) (news:=[I (over ns p:Nat)]) rfl h43 rfl (fun h=>by cases h) (rd_block hb3) (by simp [Value.oneCell']) rfl (by omega) (by omega) ?_
     intro v4 w4 fp4 ho4 hm4 hf4
     obtain ⟨va4,vc4,rfl,_,_⟩:=ho4.val
     have h14:=hm4.at (hm3.at h12 (fun h=>h)) hpm
     have h24:=hm4.at (hm3.at h22 (fun h=>h)) h5
     have hn4:=map_mod (map_mod hm2 hm3 (fun h=>h)) hm4 (fun hh=>hpn bn hh rfl)
     have hs02:w.heap.size=w2.heap.size:=hs2.symm
     have s3:=hm3.size
     have lbm:=lt_of_heap h1;have lbo:=lt_of_heap h2
     have hf4':∀ x,fp4=some x→fp=some x∨w.heap.size≤x:=fun x hx=>(hf4 x hx).imp (fun h=>h) (fun h=>by omega)
     (try simp only [go_sem,simprocAttr])
     refine e_st1 (off:=5) rfl rfl h14 rfl (by simp) ?_
     intro w5 hb5 hm5 hs5
     have hb5:w5.heap[bm]? = some (.cells #[.pointer (some ⟨a,0,none⟩),.slice (some ⟨bo,0,none⟩) ns.length ns.length,.map (some br),I fr,.map (some bn),.slice va4 (out.length+1) vc4] 203 (0,0)):=hb5
     (try simp only [go_sem,simprocAttr])
     have e:meetF ns fr out p=out++[over ns p]:=by simp [meetF,hc',hin]
     have enum:numF ns fr (meetF ns fr out p) p=(fr+out.length:Nat):=numF_meet hc' hin
     have hp4m:fp4≠some bm:=own_ne ho4 h14 (by decide)
     refine ⟨by rw [enum],.slice va4 (out.length+1) vc4,fp4,?_,?_,hf4'⟩
     · rw [e]
       refine ⟨by simpa using hb5,hm5.at h24 (fun hh=>hbmo hh.symm),map_mod hn4 hm5 (fun hh=>hbne hh.symm),?_,?_⟩
       · have:=ho4.mod hm5 (fun x hx hh=>hp4m (by rw [hx,hh]))
         simpa using this
       · intro hh
         rcases hf4' bo hh with h | h
         · exact h5 h
         · omega
     · exact (((hmm02.weak (S':=fun x=>x=bm∨x=bn∨fp=some x) (fun x hx=>.inr (.inl hx))).step hm3 (fun _ h _=>h.elim)).step hm4 (fun x hx _=>.inr (.inr hx))).step hm5 (fun x hx _=>.inl hx)
end
section
open Go Go.W
theorem ints_lt0 {w:World} {v:Value} {xs:List Int} (h:Ints w v xs) (hne:xs≠[]):∀ b,vblk v=some b→b < w.heap.size:=by
 obtain ⟨a,c,rfl,_,hx⟩:=h
 intro b hb
 obtain ⟨ad,rfl,h0⟩:=hx 0 (by cases xs with | nil=>exact absurd rfl hne | cons=>simp)
 have:=World.block_lt_of_cell? w _ h0
 simp only [vblk,Option.some.injEq] at hb
 subst hb
 have e:(ad.add 0).block=ad.block:=by simp [Addr.add]
 omega
theorem addr_block (a:Addr) (k:Nat):(a.add k).block=a.block:=by unfold Addr.add;split<;>rfl
theorem nums_take {ns:List Nd} {fr:Nat} {out:List Nat} {l:List Int} {k:Nat} (hk:k < l.length):(l.take (k+1)).map (numF ns fr (meetsF ns fr out (l.take (k+1))))=(l.take k).map (numF ns fr (meetsF ns fr out (l.take k)))++[numF ns fr (meetsF ns fr out (l.take (k+1))) l[k]]:=by
 rw [List.take_succ_eq_append_getElem hk,List.map_append]
 congr 1
 apply List.map_congr_left
 intro a ha
 refine numF_pre ?_ (meetsF_in ns fr _ _ a ha)
 have:meetsF ns fr out (l.take k++[l[k]])=meetsF ns fr (meetsF ns fr out (l.take k)) [l[k]]:=by unfold meetsF;rw [List.foldl_append]
 rw [this]
 exact meetsF_pre ns fr _ _
theorem mplaces_ok (w:World) (bm a bo br bn:Nat) (ns:List Nd) (hw:WF ns) (hn:ns.length≤1048576) (fr:Nat) (hfr:fr≤ns.length) (out:List Nat) (vm:Value) (fp:Option Nat) (h:MvAt w bm a bo br bn ns fr out vm fp) (hm:MetF ns fr out) (v:Value) (l:List Int) (hl:Ints w v l) (hok:okPl ns.length l=true)
   (hlv:l≠[]→∀ x,vblk v=some x→¬ (x=bm∨x=bn∨fp=some x)) (hsm:l.length≤17592186044416) :
   CallsR Tryz.prog 165 [.pointer (some ⟨bm,0,none⟩),v] w fun r w'=>∃ vm' fp' fq,MvAt w' bm a bo br bn ns fr (meetsF ns fr out l) vm' fp'∧Mod (fun x=>x=bm∨x=bn∨fp=some x) w w'∧(∀ x,fp'=some x→fp=some x∨w.heap.size≤x) ∧
     OwnS w' 3 1 r ((l.map (numF ns fr (meetsF ns fr out l))).map I) l.length fq∧∀ x,fq=some x→w.heap.size≤x∧fp'≠some x:=by
 have hl0:=hl
 obtain ⟨va,vc,rfl,_,hlx⟩:=hl0
 have lbm:=lt_of_heap h.cells
 have lbn:bn < w.heap.size:=by obtain ⟨es,c,q,_⟩:=h.new;exact lt_of_heap q
 have lbo:=lt_of_heap h.of
 have lfp:∀ x,fp=some x→x < w.heap.size:=fun x hx=>h.met.lt hx
 refine fit165.calls rfl ?_
 unfold ir165
 (try simp only [go_sem,simprocAttr])
 refine ir_loop (fun m ρ w'=>∃ (k:Nat) (vk vr:Value) (fk fq:Option Nat),m=l.length - k∧k≤l.length∧MvAt w' bm a bo br bn ns fr (meetsF ns fr out (l.take k)) vk fk∧Mod (fun x=>x=bm∨x=bn∨fp=some x) w w'∧(∀ x,fk=some x→fp=some x∨w.heap.size≤x) ∧
     OwnS w' 3 1 vr (((l.take k).map (numF ns fr (meetsF ns fr out (l.take k)))).map I) k fq∧(∀ x,fq=some x→w.heap.size≤x∧fk≠some x) ∧
     ρ=[(0,.pointer (some ⟨bm,0,none⟩)),(5,vr),(8,.slice va l.length vc),(9,I l.length),(10,I k)]) l.length
   ⟨0,vm,_,fp,none,rfl,Nat.zero_le _,by simpa [meetsF] using h,Mod.refl _ _,(fun x hx=>.inl hx),OwnS.nil _ _ _,(fun x hx=>by cases hx),rfl⟩ ?_
 rintro m ρ w1 ⟨k,vk,vr,fk,fq,rfl,hk,hmv,hm1,hfk,hor,hfq,rfl⟩
 unfold ir165L1
 have s1:=hm1.size
 (try simp only [go_sem,simprocAttr])
 refine ir_cond rfl (fun hc=>?_) (fun hc=>?_)
 · have hk':k < l.length:=by simpa using hc
   have hne:l≠[]:=fun hh=>by rw [hh] at hk';simp at hk'
   obtain ⟨ad,rfl,hcell⟩:=hlx k hk'
   have hcell1:=hm1.cell hcell (fun hh=>hlv hne ad.block rfl (by rwa [addr_block] at hh))
   have b1:(0:Int)≤k∧(k:Int) < l.length:=by omega
   have hwk:IntKind.i64.wrap ((k:Int)+1)=((k+1:Nat):Int):=by rw [wrap_in]<;>omega
   have hpk:=List.all_eq_true.1 hok l[k] (List.getElem_mem hk')
   simp only [Bool.and_eq_true,decide_eq_true_eq] at hpk
   obtain ⟨p,hp⟩:∃ p:Nat,l[k]=(p:Int):=⟨l[k].toNat,by omega⟩
   rw [hp] at hcell1
   have hstep:meetsF ns fr out (l.take (k+1))=meetF ns fr (meetsF ns fr out (l.take k)) p:=by
     rw [meetsF_take ns fr l out (List.getElem?_eq_getElem hk'),hp,Int.toNat_natCast]
   have hnum:=nums_take (ns:=ns) (fr:=fr) (out:=out) hk'
   rw [hp] at hnum
   have hmk:MetF ns fr (meetsF ns fr out (l.take k)):=metF_meets hw _ hm (by
     rw [okPl,List.all_eq_true]
     intro y hy
     exact List.all_eq_true.1 hok y (List.mem_of_mem_take hy))
   (try simp only [go_sem,simprocAttr,zb4,zb6,b1,hcell1])
   refine e_call (by rfl) ?_
   refine (place_ok w1 bm a bo br bn ns hw hn fr hfr _ vk fk hmv hmk p (by omega)).mono ?_
   rintro q w2 ⟨rfl,vk2,fk2,hmv2,hm2,hfk2⟩
   rw [← hstep] at hmv2 ⊢
   have hor2:=hor.mod hm2 (fun x hx hh=>by
     have:=hfq x hx
     rcases hh with hh | hh | hh
     · omega
     · omega
     · exact this.2 hh)
   obtain ⟨ra,rc,rfl,_,_⟩:=hor2.val
   (try simp only [go_sem,simprocAttr])
   refine e_bs (by rfl) (by (try simp only [go_sem,simprocAttr]);rfl) ?_
   intro w3 hb3 hm3 hs3
   have hor3:=hor2.mod hm3 (fun _ _ h=>h)
   have hmv3:=mv_mod hmv2 hm3 (fun h=>h) (fun h=>h) (fun h=>h) (fun _ _ h=>h)
   (try simp only [go_sem,simprocAttr])
   refine e_ap (m:=1) (news:=[I (numF ns fr (meetsF ns fr out (l.take (k+1))) p)]) rfl hor3 rfl (fun h=>by cases h) (rd_block hb3) (by simp [Value.oneCell']) rfl (by omega) (by omega) ?_
   intro v4 w4 fq4 ho4 hm4 hf4
   obtain ⟨v4a,v4c,rfl,_,_⟩:=ho4.val
   have s2:=hm2.size;have s3:=hm3.size
   have hfqn:∀ x,fq=some x→x≠bm∧x≠bo∧x≠bn∧fk2≠some x:=fun x hx=>by
     have h1:=hfq x hx
     refine ⟨by omega,by omega,by omega,fun hh=>?_⟩
     rcases hfk2 x hh with h | h
     · exact h1.2 h
     · have:=hor.lt hx;omega
   have hmv4:=mv_mod hmv3 hm4 (fun hh=>(hfqn bm hh).1 rfl) (fun hh=>(hfqn bo hh).2.1 rfl) (fun hh=>(hfqn bn hh).2.2.1 rfl) (fun x hx hh=>(hfqn x hh).2.2.2 hx)
   (try simp only [go_sem,simprocAttr,hwk])
   refine ⟨_,?_,k+1,vk2,.slice v4a (k+1) v4c,fk2,fq4,rfl,by omega,hmv4,?_,fun x hx=>?_,?_,fun x hx=>?_,rfl⟩
   · omega
   · refine ((hm1.step hm2 (fun x hx hlt=>?_)).step hm3 (fun _ h _=>h.elim)).step hm4 (fun x hx hlt=>?_)
     · rcases hx with hx | hx | hx
       · exact .inl hx
       · exact .inr (.inl hx)
       · exact .inr (.inr ((hfk x hx).elim (fun h=>h) (fun h=>by omega)))
     · have:=hfq x hx;omega
   · rcases hfk2 x hx with h | h
     · exact hfk x h
     · exact .inr (by omega)
   · rw [hnum,List.map_append];exact ho4
   · rcases hf4 x hx with h | h
     · exact ⟨(hfq x h).1,(hfqn x h).2.2.2⟩
     · refine ⟨by omega,fun hh=>?_⟩
       have:=hmv3.met.lt hh
       omega
 · have hk':k=l.length:=by simp at hc;omega
   subst hk'
   rw [List.take_length] at hmv hor
   (try simp only [go_sem,simprocAttr])
   exact ⟨vk,fk,fq,hmv,hm1,hfk,hor,hfq⟩
end
section
open Go Go.W
def movedF (ns:List Nd) (fr:Nat) (out:List Nat) (x:Nat):Nd:=⟨(ndAt ns x).kind,(ndAt ns x).num,(ndAt ns x).args.map (numF ns fr out)⟩
theorem moved_ok (w:World) (bm a bo br bn:Nat) (ns nsM:List Nd) (hw:WF ns) (hn:ns.length≤1048576) (fr:Nat) (hfr:fr≤ns.length) (out:List Nat) (vm:Value) (fp:Option Nat) (h:MvAt w bm a bo br bn ns fr out vm fp) (hm:MetF ns fr out)
   (c0 c1 cv c3 c4 c5:Value) (F:Nat→Prop) (ha:w.heap[a]? = some (.cells #[c0,c1,cv,c3,c4,c5] 162 (0,0))) (hfm:FromAt 87 w cv nsM F) (hlen:nsM.length=ns.length) (hargs:∀ nd∈nsM,nd.args.length≤8) (hsame:∀ x,fr≤x→x < ns.length→ndAt nsM x=ndAt ns x)
   (hFd:∀ x,F x→¬ (x=bm∨x=bn∨fp=some x)) :
   CallsR Tryz.prog 166 [.pointer (some ⟨bm,0,none⟩)] w fun r w'=>∃ vm' fp' fq ps fps,MvAt w' bm a bo br bn ns fr (reachF ns fr (ns.length+1) 0 out) vm' fp'∧Mod (fun x=>x=bm∨x=bn∨fp=some x) w w' ∧
     OwnS w' 87 3 r (flat ps) (reachF ns fr (ns.length+1) 0 out).length fq∧(∀ x,fq=some x→w.heap.size≤x)∧ArgsD w' ps fps (fun x=>w.heap.size≤x)∧ps.map Prod.fst=(reachF ns fr (ns.length+1) 0 out).map (movedF ns fr (reachF ns fr (ns.length+1) 0 out)):=by
 generalize hO:reachF ns fr (ns.length+1) 0 out=O
 have lbm:=lt_of_heap h.cells
 have lbn:bn < w.heap.size:=by obtain ⟨es,c,q,_⟩:=h.new;exact lt_of_heap q
 have lbo:=lt_of_heap h.of
 have la:=lt_of_heap ha
 have hFl:∀ x,F x→x < w.heap.size:=by obtain ⟨_,_,_,_,_,_,q⟩:=hfm;exact q
 refine fit166.calls rfl ?_
 unfold ir166
 (try simp only [go_sem,simprocAttr])
 refine ir_loop (fun m ρ w'=>∃ (i:Nat) (cur:List Nat) (vk vr:Value) (fk fq:Option Nat) (ps:List (Nd×Value)) (fps:Nat→Option Nat),m=O.length - i∧i≤cur.length∧MetF ns fr cur∧reachF ns fr (ns.length+1 - i) i cur=O ∧
     MvAt w' bm a bo br bn ns fr cur vk fk∧Mod (fun x=>x=bm∨x=bn∨fp=some x) w w'∧(∀ x,fk=some x→fp=some x∨w.heap.size≤x) ∧
     OwnS w' 87 3 vr (flat ps) i fq∧(∀ x,fq=some x→w.heap.size≤x)∧ArgsD w' ps fps (fun x=>w.heap.size≤x)∧ps.map Prod.fst=(cur.take i).map (movedF ns fr O)∧(∀ j x,j < ps.length→fps j=some x→fk≠some x) ∧
     ρ=[(0,.pointer (some ⟨bm,0,none⟩)),(3,vr),(4,I i)]) O.length
   ⟨0,out,vm,_,fp,none,[],fun _=>none,rfl,Nat.zero_le _,hm,hO,h,Mod.refl _ _,(fun x hx=>.inl hx),OwnS.nil _ _ _,(fun x hx=>by cases hx),argsD_nil _ _,rfl,(fun j x hj=>absurd hj (by simp)),rfl⟩ ?_
 rintro m ρ w1 ⟨i,cur,vk,vr,fk,fq,ps,fps,rfl,hi,hmc,hre,hmv,hm1,hfk,hor,hfq,had,hps,hdis,rfl⟩
 have hpre:cur <+: O:=by rw [← hre];exact reachF_pre ns fr _ _ _
 have hcl:=metF_len hmc
 obtain ⟨vka,vkc,rfl,_,_⟩:=hmv.met.val
 unfold ir166L1
 (try simp only [go_sem,simprocAttr,cell_of hmv.cells])
 refine ir_cond rfl (fun hc=>?_) (fun hc=>?_)
 · have hi':i < cur.length:=by simpa using hc
   obtain ⟨x,hx⟩:∃ x,cur[i]=x:=⟨_,rfl⟩
   have hxm:=hmc.2 x (by rw [← hx];exact List.getElem_mem hi')
   have ha1:=hm1.at ha (fun hh=>by
     rcases hh with hh | hh | hh
     · exact kind_ne ha (by rw [hh];exact h.cells) (by decide)
     · obtain ⟨es,c,q,_⟩:=h.new;rw [← hh,ha] at q;cases q
     · exact own_ne h.met ha (by decide) hh)
   have hfm1:=hfm.mod hm1 hFd
   obtain ⟨bc,cc,nv,rfl,d0,d1,d2,dx,db,_⟩:=from_at hfm1 hargs (i:=x) (by rw [hlen];exact hxm.1)
   rw [hsame x hxm.2.2 hxm.1] at d0 d1 dx
   have dl:=ln3 d0 d1 d2
   obtain ⟨bw,cw,ew,tw⟩:=own_at' hmv.met hi' (u:=I (x:Nat)) (by simp [hi',hx])
   simp only [Value.slice.injEq] at ew
   obtain ⟨rfl,_,rfl⟩:=ew
   have b1:(0:Int)≤i∧(i:Int) < cur.length:=by omega
   have b2:(0:Int)≤(x:Nat)∧((x:Nat):Int) < nsM.length:=by omega
   have hwd:Mod (fun _=>False) w1 w1.drew:=⟨Nat.le_refl _,fun _ _ _=>rfl,rfl,rfl,rfl⟩
   have dld:vLN w1.drew 3 (.pointer (some ⟨bc,x*3,none⟩))=some (.agg #[I (ndAt ns x).kind,I (ndAt ns x).num,nv]):=dl
   (try simp only [go_sem,simprocAttr,zb4,zb6,cell_of hmv.cells,cell_of ha1,b1,b2,tw,dl,dld])
   obtain ⟨na,nc',rfl,_,_⟩:=id dx
   refine e_al ?_
   intro w2 hb2 hm2 hs2
   have hb2:w2.heap[w1.heap.size]? = some (.cells #[I 0,I 0,.slice none 0 0] 87 (0,0)):=hb2
   have hs2:w2.heap.size=w1.heap.size+1:=hs2
   have hm12:=hwd.trans hm2
   have lc:=World.block_lt_of_cell? w1 _ d0
   have lw:=World.block_lt_of_cell? w1 _ tw
   have lbm1:=lt_of_heap hmv.cells
   have la1:=lt_of_heap ha1
   refine ⟨⟨hm12.old _ lc (fun h=>h),hm12.old _ lw (fun h=>h),hm12.old _ lbm1 (fun h=>h),hm12.old _ la1 (fun h=>h),hm12.old _ lbm1 (fun h=>h)⟩,?_⟩
   (try simp only [go_sem,simprocAttr])
   refine e_sta rfl rfl hb2 rfl rfl (by simp [Value.oneCell']) ?_
   intro w3 hb3 hm3 hs3
   have hm13:Mod (fun _=>False) w1 w3:=hm12.step hm3 (fun x hx hlt=>by omega)
   have s1:=hm1.size
   have hmv3:=mv_mod hmv hm13 (fun h=>h) (fun h=>h) (fun h=>h) (fun _ _ h=>h)
   have dx3:=dx.mod hm13 (fun _ _ h=>h)
   have hpl:=(wf_at hw hxm.1).2
   have hal:(ndAt ns x).args.length≤8:=by
     rw [← hsame x hxm.2.2 hxm.1]
     have:ndAt nsM x=nsM[x]'(by omega):=by simp [ndAt,show x < nsM.length by omega]
     rw [this]
     exact hargs _ (List.getElem_mem _)
   have hfu:ns.length+1 - i=(ns.length - i)+1:=by omega
   rw [hfu,reachF_step ns fr _ i cur hi',hx] at hre
   have hpre2:meetsF ns fr cur (ndAt ns x).args <+: O:=by rw [← hre];exact reachF_pre ns fr _ _ _
   (try simp only [go_sem,simprocAttr,cell_of hb3])
   refine e_call (by rfl) ?_
   refine (mplaces_ok w3 bm a bo br bn ns hw hn fr hfr cur _ fk hmv3 hmc _ (ndAt ns x).args dx3 hpl (fun _ b hb hh=>by
     have h1:=db b hb
     have h2:=hFl b h1
     rcases hh with hh | hh | hh
     · exact hFd b h1 (.inl hh)
     · exact hFd b h1 (.inr (.inl hh))
     · rcases hfk b hh with h3 | h3
       · exact hFd b h1 (.inr (.inr h3))
       · omega) (by omega)).mono ?_
   rintro q w4 ⟨vm4,fk4,f4,hmv4,hm4,hfk4,o4,hf4⟩
   have hnums:(ndAt ns x).args.map (numF ns fr (meetsF ns fr cur (ndAt ns x).args))=(movedF ns fr O x).args:=by
     simp only [movedF]
     apply List.map_congr_left
     intro y hy
     exact (numF_pre hpre2 (meetsF_in ns fr _ _ y hy)).symm
   rw [hnums] at o4
   have hmlen:(movedF ns fr O x).args.length=(ndAt ns x).args.length:=by simp [movedF]
   obtain ⟨va4,vc4,rfl,_,_⟩:=o4.val
   have s4:=hm4.size
   have lfk:∀ y,fk=some y→y < w1.heap.size:=fun y hy=>hmv.met.lt hy
   have hS4:∀ y,(y=bm∨y=bn∨fk=some y)→y < w1.heap.size:=fun y hy=>by
     rcases hy with hy | hy | hy
     · omega
     · have:bn < w1.heap.size:=by omega
       omega
     · exact lfk y hy
   have hb4:=hm4.at hb3 (fun hh=>by have:=hS4 _ hh;omega)
   (try simp only [go_sem,simprocAttr])
   refine e_st1 (off:=2) rfl rfl hb4 rfl (by simp) ?_
   intro w5 hb5 hm5 hs5
   have hb5:w5.heap[w1.heap.size]? = some (.cells #[I (ndAt ns x).kind,I (ndAt ns x).num,.slice va4 (ndAt ns x).args.length vc4] 87 (0,0)):=hb5
   have hfq':∀ y,fq=some y→y < w1.heap.size:=fun y hy=>hor.lt hy
   have hfps':∀ j y,j < ps.length→fps j=some y→y < w1.heap.size:=fun j y hj hy=>(had.1 j hj).1.lt hy
   have keepq:∀ y,fq=some y→¬ (y=bm∨y=bn∨fk=some y):=fun y hy hh=>by
     have:=hfq y hy
     rcases hh with hh | hh | hh
     · omega
     · omega
     · exact own_apart hor hmv.met (by decide) hy hh
   have keepp:∀ j y,j < ps.length→fps j=some y→¬ (y=bm∨y=bn∨fk=some y):=fun j y hj hy hh=>by
     have:=(had.1 j hj).2 y hy
     rcases hh with hh | hh | hh
     · omega
     · omega
     · exact hdis j y hj hy hh
   have hor5:=((hor.mod hm13 (fun _ _ h=>h)).mod hm4 keepq).mod hm5 (fun y hy hh=>by have:=hfq' y hy;omega)
   have had5:=argsD_mod (argsD_mod (argsD_mod had hm13 (fun _ _ _ _ h=>h)) hm4 keepp) hm5 (fun j y hj hy hh=>by have:=hfps' j y hj hy;omega)
   have o5:=o4.mod hm5 (fun y hy hh=>by have:=(hf4 y hy).1;omega)
   have hmv5:=mv_mod hmv4 hm5 (by omega) (by omega) (by omega) (fun y hy hh=>by
     rcases hfk4 y hy with h | h
     · have:=lfk y h;omega
     · omega)
   (try simp only [go_sem,simprocAttr,ln_of hb5 (off:=0) (n:=3) (by simp)])
   refine e_bs (by rfl) (by (try simp only [go_sem,simprocAttr]);rfl) ?_
   intro w6 hb6 hm6 hs6
   have hor6:=hor5.mod hm6 (fun _ _ h=>h)
   have had6:=argsD_mod had5 hm6 (fun _ _ _ _ h=>h)
   have o6:=o5.mod hm6 (fun _ _ h=>h)
   have hmv6:=mv_mod hmv5 hm6 (fun h=>h) (fun h=>h) (fun h=>h) (fun _ _ h=>h)
   have hwk:IntKind.i64.wrap ((i:Int)+1)=((i+1:Nat):Int):=by rw [wrap_in]<;>omega
   have hpsl:ps.length=i:=by
     have:=congrArg List.length hps
     rw [List.length_map,List.length_map,List.length_take] at this
     omega
   (try simp only [go_sem,simprocAttr])
   refine e_ap (m:=1) (news:=nc (movedF ns fr O x,.slice va4 (ndAt ns x).args.length vc4)) rfl hor6 rfl (fun h=>by cases h) (rd_block hb6) (by simp [nc,Value.oneCell']) rfl (by omega) (by omega) ?_
   intro v7 w7 fq7 ho7 hm7 hf7
   obtain ⟨v7a,v7c,rfl,_,_⟩:=ho7.val
   have s6:=hm6.size;have s7:=hm7.size
   (try simp only [go_sem,simprocAttr,hwk])
   have had7:=argsD_mod had6 hm7 (fun j y hj hy hh=>own_apart (had6.1 j hj).1 hor6 (by decide) hy hh)
   have o7:=o6.mod hm7 (fun y hy hh=>own_apart o6 hor6 (by decide) hy hh)
   have hmv7:=mv_mod hmv6 hm7 (fun hh=>by have:=hfq _ hh;omega) (fun hh=>by have:=hfq _ hh;omega) (fun hh=>by have:=hfq _ hh;omega) (fun y hy hh=>own_apart hmv6.met hor6 (by decide) hy hh)
   have hS13:Mod (fun y=>y=bm∨y=bn∨fp=some y) w w7:=by
     refine (((((hm1.step hm13 (fun _ h _=>h.elim)).step hm4 (fun y hy hlt=>?_)).step hm5 (fun y hy hlt=>by omega)).step hm6 (fun _ h _=>h.elim)).step hm7 (fun y hy hlt=>by have:=hfq y hy;omega))
     rcases hy with hy | hy | hy
     · exact .inl hy
     · exact .inr (.inl hy)
     · exact .inr (.inr ((hfk y hy).elim (fun h=>h) (fun h=>by omega)))
   rw [← hmlen] at o7
   have hpre3:=(meetsF_pre ns fr (ndAt ns x).args cur).length_le
   refine ⟨_,?_,i+1,meetsF ns fr cur (ndAt ns x).args,vm4,.slice v7a (i+1) v7c,fk4,fq7,ps++[(movedF ns fr O x,.slice va4 (ndAt ns x).args.length vc4)],_,rfl,by omega,metF_meets hw _ hmc hpl,?_,hmv7,hS13,fun y hy=>?_,?_,fun y hy=>?_,argsD_app had7 (by rw [hmlen] at o7 ⊢;exact o7) (fun y hy=>by have:=(hf4 y hy).1;omega) (fun j y hj hy hh=>?_),?_,fun j y hj hy hh=>?_,rfl⟩
   · have:=hpre.length_le;omega
   · rw [← hre];congr 1;omega
   · rcases hfk4 y hy with h | h
     · exact hfk y h
     · exact .inr (by omega)
   · rw [flat_app,flat_one];exact ho7
   · rcases hf7 y hy with h | h
     · exact hfq y h
     · omega
   · have:=hfps' j y hj hy
     have:=(hf4 y hh).1
     omega
   · rw [List.map_append,hps]
     have e1:(meetsF ns fr cur (ndAt ns x).args).take (i+1)=cur.take i++[x]:=by
       obtain ⟨t,ht⟩:=meetsF_pre ns fr (ndAt ns x).args cur
       rw [← ht,List.take_append_of_le_length (by omega),List.take_succ_eq_append_getElem hi',hx]
     rw [e1,List.map_append]
     rfl
   · simp only [List.length_append,List.length_cons,List.length_nil] at hj
     by_cases hjp:j < ps.length
     · rw [if_pos hjp] at hy
       rcases hfk4 y hh with h | h
       · exact hdis j y hjp hy h
       · have:=hfps' j y hjp hy;omega
     · rw [if_neg hjp] at hy
       exact (hf4 y hy).2 hh
 · have hi':i=cur.length:=by simp at hc;omega
   have hce:cur=O:=by rw [← hre,reachF_end _ _ _ _ _ (by omega)]
   subst hce
   subst hi'
   rw [List.take_length] at hps
   (try simp only [go_sem,simprocAttr])
   exact ⟨_,fk,fq,ps,fps,hmv,hm1,hor,hfq,had,hps⟩
end
section
open Go Go.W
theorem metF_len' {ns:List Nd} {fr:Nat} {out:List Nat} (h:MetF ns fr out) (hfr:fr≤ns.length):fr+out.length≤ns.length:=by
 have hnd:(out.map (fun x=>x - fr)).Nodup:=by
   unfold List.Nodup
   rw [List.pairwise_map]
   refine h.1.imp_of_mem ?_
   intro a b ha hb hab hh
   have:=(h.2 a ha).2.2;have:=(h.2 b hb).2.2
   exact hab (by omega)
 have:=nodup_le (ns.length - fr) _ hnd (fun x hx=>by
   obtain ⟨y,hy,rfl⟩:=List.mem_map.1 hx
   have:=h.2 y hy
   omega)
 simp at this
 omega
theorem reachF_args {ns:List Nd} (hw:WF ns) {fr:Nat}:∀ (f i:Nat) (out:List Nat),ns.length+1≤f+i→MetF ns fr out→i≤out.length→(∀ j x,j < i→out[j]? = some x→∀ a∈(ndAt ns x).args,over ns a.toNat < fr∨over ns a.toNat∈out) →
   MetF ns fr (reachF ns fr f i out)∧∀ x∈reachF ns fr f i out,∀ a∈(ndAt ns x).args,over ns a.toNat < fr∨over ns a.toNat∈reachF ns fr f i out:=by
 intro f
 induction f with
 | zero=>
   intro i out hfi hm hi _
   have:=metF_len hm
   omega
 | succ f ih=>
   intro i out hfi hm hi hc
   rcases Nat.lt_or_ge i out.length with hlt | hge
   · rw [reachF_step ns fr f i out hlt]
     have hx:=hm.2 _ (List.getElem_mem hlt)
     have hpre:=meetsF_pre ns fr (ndAt ns out[i]).args out
     refine ih (i+1) _ (by omega) (metF_meets hw _ hm (wf_at hw hx.1).2) (by have:=hpre.length_le;omega) ?_
     intro j x hj hjx a ha
     rcases Nat.lt_or_ge j i with h | h
     · have hjx':out[j]? = some x:=by
         obtain ⟨t,ht⟩:=hpre
         rw [← ht,List.getElem?_append_left (by omega)] at hjx
         exact hjx
       exact (hc j x h hjx' a ha).imp (fun h=>h) (fun h=>hpre.subset h)
     · obtain rfl:j=i:=by omega
       have hjx':out[j]? = some x:=by
         obtain ⟨t,ht⟩:=hpre
         rw [← ht,List.getElem?_append_left (by omega)] at hjx
         exact hjx
       rw [List.getElem?_eq_getElem hlt,Option.some.injEq] at hjx'
       subst hjx'
       exact meetsF_in ns fr _ _ a ha
   · rw [reachF_end ns fr _ _ _ hge]
     refine ⟨hm,fun x hx a ha=>?_⟩
     obtain ⟨j,hj,rfl⟩:=List.getElem_of_mem hx
     exact hc j _ (by omega) (List.getElem?_eq_getElem hj) a ha
def isY (fr:Nat) (q:Int):Bool:=decide (q≥(fr:Int))
def oldStep (ns:List Nd) (fr:Nat) (out:List Nat) (p:Nat):List Nat:=meetsF ns fr out ((ndAt ns p).args.filter (isY fr))
def oldMeets (ns:List Nd) (fr k:Nat) (out:List Nat):List Nat:=(List.range k).foldl (oldStep ns fr) out
theorem oldMeets_succ (ns:List Nd) (fr k:Nat) (out:List Nat):oldMeets ns fr (k+1) out=oldStep ns fr (oldMeets ns fr k out) k:=by simp [oldMeets,List.range_succ]
def smallO (ns:List Nd) (fr:Nat) (roots:List Int):List Nat:=reachF ns fr (ns.length+1) 0 (oldMeets ns fr fr (meetsF ns fr [] roots))
def oldArgs (ns:List Nd) (fr:Nat) (O:List Nat) (p:Nat):List Int:=(ndAt ns p).args.map fun q=>if isY fr q=true then numF ns fr O q else q
def oldNd (ns:List Nd) (fr:Nat) (O:List Nat) (p:Nat):Nd:=⟨(ndAt ns p).kind,(ndAt ns p).num,if ind ns p=true∧over ns p=p then [(p:Int)] else oldArgs ns fr O p⟩
def smallNs (ns:List Nd) (fr:Nat) (roots:List Int):List Nd:=(List.range fr).map (oldNd ns fr (smallO ns fr roots))++(smallO ns fr roots).map (movedF ns fr (smallO ns fr roots))
def smallRoots (ns:List Nd) (fr:Nat) (roots:List Int):List Int:=roots.map (numF ns fr (smallO ns fr roots))
theorem okPl_filter {n:Nat} {l:List Int} (h:okPl n l=true) (p:Int→Bool):okPl n (l.filter p)=true:=by
 rw [okPl,List.all_eq_true] at h ⊢
 intro x hx
 exact h x (List.mem_filter.1 hx).1
theorem oldStep_pre (ns:List Nd) (fr:Nat) (out:List Nat) (p:Nat):out <+: oldStep ns fr out p:=meetsF_pre ns fr _ _
theorem oldMeets_pre (ns:List Nd) (fr k:Nat) (out:List Nat):out <+: oldMeets ns fr k out:=by
 induction k with
 | zero=>exact List.prefix_rfl
 | succ k ih=>rw [oldMeets_succ];exact ih.trans (oldStep_pre ns fr _ k)
theorem oldMeets_pre' (ns:List Nd) (fr:Nat) (out:List Nat) {j k:Nat} (h:j≤k):oldMeets ns fr j out <+: oldMeets ns fr k out:=by
 induction k with
 | zero => obtain rfl : j = 0 := by omega
           exact List.prefix_rfl
 | succ k ih=>
   rcases Nat.lt_or_ge j (k+1) with h1 | h1
   · rw [oldMeets_succ];exact (ih (by omega)).trans (oldStep_pre ns fr _ k)
   · obtain rfl:j=k+1:=by omega
     exact List.prefix_rfl
theorem metF_old {ns:List Nd} (hw:WF ns) {fr:Nat} (hfr:fr≤ns.length) {out:List Nat} (h:MetF ns fr out):∀ k,k≤fr→MetF ns fr (oldMeets ns fr k out):=by
 intro k
 induction k with
 | zero=>intro _;exact h
 | succ k ih=>
   intro hk
   rw [oldMeets_succ]
   exact metF_meets hw _ (ih (by omega)) (okPl_filter (wf_at hw (by omega)).2 _)
theorem old_in (ns:List Nd) (fr:Nat) (out:List Nat) {p k:Nat} (hp:p < k) {a:Int} (ha:a∈(ndAt ns p).args) (hy:isY fr a=true):over ns a.toNat < fr∨over ns a.toNat∈oldMeets ns fr k out:=by
 have h1:=meetsF_in ns fr ((ndAt ns p).args.filter (isY fr)) (oldMeets ns fr p out) a (List.mem_filter.2 ⟨ha,hy⟩)
 refine h1.imp (fun h=>h) (fun h=>(oldMeets_pre' ns fr out (show p+1≤k by omega)).subset ?_)
 rw [oldMeets_succ];exact h
theorem small_met {ns:List Nd} (hw:WF ns) {fr:Nat} (hfr:fr≤ns.length) {roots:List Int} (ho:okPl ns.length roots=true) :
   MetF ns fr (smallO ns fr roots)∧(∀ x∈smallO ns fr roots,∀ a∈(ndAt ns x).args,over ns a.toNat < fr∨over ns a.toNat∈smallO ns fr roots) ∧
   (∀ a∈roots,over ns a.toNat < fr∨over ns a.toNat∈smallO ns fr roots)∧∀ p,p < fr→∀ a∈(ndAt ns p).args,isY fr a=true→over ns a.toNat < fr∨over ns a.toNat∈smallO ns fr roots:=by
 have h0:=metF_meets hw roots (metF_nil ns fr) ho
 have h1:=metF_old hw hfr h0 fr (Nat.le_refl _)
 obtain ⟨h2,h3⟩:=reachF_args hw (ns.length+1) 0 _ (by omega) h1 (Nat.zero_le _) (fun j x h=>by omega)
 have hp:=reachF_pre ns fr (ns.length+1) 0 (oldMeets ns fr fr (meetsF ns fr [] roots))
 refine ⟨h2,h3,fun a ha=>?_,fun p hp1 a ha hy=>?_⟩
 · exact (meetsF_in ns fr roots [] a ha).imp (fun h=>h) (fun h=>hp.subset ((oldMeets_pre ns fr fr _).subset h))
 · exact (old_in ns fr _ hp1 ha hy).imp (fun h=>h) (fun h=>hp.subset h)
theorem small_length (ns:List Nd) (fr:Nat) (roots:List Int):(smallNs ns fr roots).length=fr+(smallO ns fr roots).length:=by simp [smallNs]
theorem small_len {ns:List Nd} (hw:WF ns) {fr:Nat} (hfr:fr≤ns.length) {roots:List Int} (ho:okPl ns.length roots=true):(smallNs ns fr roots).length≤ns.length:=by
 rw [small_length];exact metF_len' (small_met hw hfr ho).1 hfr
theorem numF_lt {ns:List Nd} {fr:Nat} {O:List Nat} {a:Int} (h:over ns a.toNat < fr∨over ns a.toNat∈O):0≤numF ns fr O a∧numF ns fr O a < (fr+O.length:Nat):=by
 unfold numF
 split
 · rename_i hh;omega
 · rename_i hh
   have:=List.idxOf_lt_length_iff.2 (h.resolve_left hh)
   omega
theorem small_wf {ns:List Nd} (hw:WF ns) {fr:Nat} (hfr:fr≤ns.length) {roots:List Int} (ho:okPl ns.length roots=true):WF (smallNs ns fr roots):=by
 obtain ⟨h1,h2,h3,h4⟩:=small_met hw hfr ho
 intro nd hnd
 rw [small_length]
 rcases List.mem_append.1 hnd with hx | hx
 · obtain ⟨p,hp,rfl⟩:=List.mem_map.1 hx
   have hp':=List.mem_range.1 hp
   have hat:=wf_at hw (show p < ns.length by omega)
   by_cases hr:ind ns p=true∧over ns p=p
   · have hk:(ndAt ns p).kind=5:=by simpa [ind] using hr.1
     have hm:=hat.1
     simp only [Nd.may,mayB,hk,decide_eq_true_eq] at hm
     refine ⟨?_,?_⟩
     · simp only [oldNd,if_pos hr,Nd.may,mayB,hk]
       simp
       omega
     · simp only [oldNd,if_pos hr,okPl]
       simp
       omega
   · refine ⟨?_,?_⟩
     · have:=hat.1
       simpa [oldNd,if_neg hr,oldArgs,Nd.may] using this
     · simp only [oldNd,if_neg hr]
       rw [okPl,List.all_eq_true]
       intro y hy
       obtain ⟨a,ha,rfl⟩:=List.mem_map.1 hy
       have hpl:=List.all_eq_true.1 hat.2 a ha
       simp only [Bool.and_eq_true,decide_eq_true_eq] at hpl ⊢
       split
       · rename_i hyy
         have:=numF_lt (h4 p hp' a ha hyy)
         omega
       · rename_i hyy
         simp [isY] at hyy
         omega
 · obtain ⟨x,hxO,rfl⟩:=List.mem_map.1 hx
   have hat:=wf_at hw (h1.2 x hxO).1
   refine ⟨by simpa [movedF,Nd.may] using hat.1,?_⟩
   rw [okPl,List.all_eq_true]
   intro y hy
   obtain ⟨a,ha,rfl⟩:=List.mem_map.1 hy
   have:=numF_lt (h2 x hxO a ha)
   simp only [Bool.and_eq_true,decide_eq_true_eq]
   omega
theorem small_roots_ok {ns:List Nd} (hw:WF ns) {fr:Nat} (hfr:fr≤ns.length) {roots:List Int} (ho:okPl ns.length roots=true):okPl (smallNs ns fr roots).length (smallRoots ns fr roots)=true:=by
 obtain ⟨h1,h2,h3,h4⟩:=small_met hw hfr ho
 rw [small_length,okPl,List.all_eq_true]
 intro y hy
 obtain ⟨a,ha,rfl⟩:=List.mem_map.1 hy
 have:=numF_lt (h3 a ha)
 simp only [Bool.and_eq_true,decide_eq_true_eq]
 omega
theorem leadOk_full {ns:List Nd} (hw:WF ns):LeadOk ns ns.length []:=by
 refine ⟨by simp,fun k=>⟨fun h=>by simp at h,fun ⟨p,_,hp,a,ha,hge⟩=>?_⟩⟩
 have:=List.all_eq_true.1 (wf_at hw hp).2 a ha
 simp only [Bool.and_eq_true,decide_eq_true_eq] at this
 omega
end
section
open Go Go.W
theorem fromD_ne {w:World} {cv:Value} {ns:List Nd} {F:Nat→Prop} (h:FromD 87 w cv ns F) {a:Nat} {cs:Array Value} {fz:Nat×Nat} (ha:w.heap[a]? = some (.cells cs 162 fz)):FromD 87 w cv ns (fun x=>F x∧x≠a):=by
 obtain ⟨fpc,ps,fp,h1,h2,h3,h4,h5⟩:=h
 exact ⟨fpc,ps,fp,h1,fun b hb=>⟨h2 b hb,fun hh=>own_ne h1 ha (by decide) (by rw [hb,hh])⟩,⟨fun i hi=>⟨(h3.1 i hi).1,fun b hb=>⟨(h3.1 i hi).2 b hb,fun hh=>own_ne (h3.1 i hi).1 ha (by decide) (by rw [hb,hh])⟩⟩,h3.2⟩,h4,fun b hb=>h5 b hb.1⟩
def SmallPost (At:World→Nat→Int→Int→Nat→Int→List Nd→(Nat→Prop)→Prop) (w:World) (a:Nat) (size young times:Int) (ns:List Nd) (fr:Nat) (roots:List Int) (F:Nat→Prop) (r:Value) (w':World):Prop:=
 ∃ fq F',OwnS w' 3 1 r ((smallRoots ns fr roots).map I) roots.length fq∧At w' a size young (smallNs ns fr roots).length (IntKind.i64.wrap (times+1)) (smallNs ns fr roots) F'∧Grow F F' w w'∧∀ x,fq=some x→w.heap.size≤x∧¬ F' x
theorem ints_lt1 {w:World} {v:Value} {l:List Int} (h:Ints w v l):l≠[]→∀ x,vblk v=some x→x < w.heap.size:=fun hne x hx=>ints_lt0 h hne x hx
theorem ints_mod' {w w':World} {v:Value} {l:List Int} {S:Nat→Prop} (h:Ints w v l) (hm:Mod S w w') (hs:l≠[]→∀ x,vblk v=some x→¬ S x):Ints w' v l:=by
 obtain ⟨a,c,rfl,hl,hx⟩:=h
 refine ⟨a,c,rfl,hl,fun i hi=>?_⟩
 obtain ⟨ad,rfl,h1⟩:=hx i hi
 refine ⟨ad,rfl,hm.cell h1 ?_⟩
 have hne:l≠[]:=by rintro rfl;simp at hi
 rw [addr_block]
 exact hs hne _ rfl
theorem gall_ok (w:World) (a:Nat) (size young:Int) (old:Nat) (times:Int) (ns:List Nd) (F:Nat→Prop) (h:GAt w a size young old times ns F) (hw:WF ns) (hn:ns.length≤1048576) (v:Value) (roots:List Int) (hx:Ints w v roots) (hok:okPl ns.length roots=true)
   (hv:roots≠[]→∀ x,vblk v=some x→¬ F x) (hsm:roots.length≤17592186044416) :
   CallsR Tryz.prog 160 [.pointer (some ⟨a,0,none⟩),v] w (SmallPost GAt w a size young times ns 0 roots F):=by
 have hFl:=gat_lt h
 obtain ⟨va,vc,rfl,_,_⟩:=id hx
 obtain ⟨cv,mb,ld,g1,g2,g3,g4,g5,g6⟩:=h
 have hargs:=wf_args_le hw
 have la:=lt_of_heap g1
 have lmb:mb < w.heap.size:=hFl mb g5
 have hamb:a≠mb:=fun hh=>by
   obtain ⟨es,c,q,_⟩:=g4
   rw [← hh,g1] at q;cases q
 refine fit160.calls rfl ?_
 unfold ir160
 (try simp only [go_sem,simprocAttr,cell_of g1])
 refine e_st1 (off:=5) rfl rfl g1 rfl (by simp) ?_
 intro w1 hb1 hm1 hs1
 have hb1:w1.heap[a]? = some (.cells #[I size,I young,cv,I old,.map (some mb),I (IntKind.i64.wrap (times+1))] 162 (0,0)):=hb1
 have g31:=fromD_mod (fromD_ne g3 g1) hm1 (fun b hb=>hb.2)
 have g41:=map_mod g4 hm1 (fun hh=>hamb hh.symm)
 have hx1:=ints_mod' hx hm1 (fun hne x hx hh=>hv hne x hx (hh ▸ g2))
 have hv1:=ints_lt1 hx
 have s1:=hm1.size
 (try simp only [go_sem,simprocAttr])
 refine e_call (by rfl) ?_
 refine (gpassed_ok ns hw hn w1 a _ _ cv _ _ _ _ hb1 (fromD_from g31)).mono ?_
 rintro q w2 ⟨bo,br,R,rfl,hT,lo,lr,hor,hm2⟩
 have s2:=hm2.size
 have hT1:=lt_of_heap hT.of
 (try simp only [go_sem,simprocAttr])
 refine e_mm ?_
 intro w3 hb3 hm3 hs3
 (try simp only [go_sem,simprocAttr])
 refine e_bx rfl ?_
 intro w4 hb4 hm4 hs4
 have hb4:w4.heap[w3.heap.size]? = some (.cells #[.pointer (some ⟨a,0,none⟩),.slice (some ⟨bo,0,none⟩) ns.length ns.length,.map (some br),I 0,.map (some w2.heap.size),.slice none 0 0] 203 (0,0)):=hb4
 have s3:=hm3.size
 have s4:=hm4.size
 have hm24:=hm3.trans hm4
 have hm14:=hm2.trans hm24
 have hmv:MvAt w4 w3.heap.size a bo br w2.heap.size ns 0 [] (.slice none 0 0) none:=⟨hb4,hm24.at hT.of (fun h=>h),map_mod hb3 hm4 (fun h=>h),OwnS.nil _ _ _,fun h=>by cases h⟩
 have hx4:=hx1.mod hm14 (fun _ _ h=>h)
 (try simp only [go_sem,simprocAttr])
 refine e_call (by rfl) ?_
 refine (mplaces_ok w4 _ a bo br _ ns hw hn 0 (Nat.zero_le _) [] _ none hmv (metF_nil ns 0) _ roots hx4 hok (fun hne x hx hh=>by
   have:=hv1 hne x hx
   rcases hh with hh | hh | hh
   · omega
   · omega
   · cases hh) hsm).mono ?_
 rintro q w5 ⟨vm5,fp5,fq5,hmv5,hm5,hfp5,ho5,hfq5⟩
 obtain ⟨va5,vc5,rfl,_,_⟩:=ho5.val
 have s5:=hm5.size
 have hmet:=metF_meets hw roots (metF_nil ns 0) hok
 have hm15:Mod (fun _=>False) w1 w5:=hm14.step hm5 (fun x hx hlt=>by
   rcases hx with hx | hx | hx
   · omega
   · omega
   · cases hx)
 have hb5:=hm15.at hb1 (fun h=>h)
 have g35:=fromD_mod g31 hm15 (fun _ _ h=>h)
 have g45:=map_mod g41 hm15 (fun h=>h)
 (try simp only [go_sem,simprocAttr])
 refine e_call (by rfl) ?_
 refine (moved_ok w5 _ a bo br _ ns ns hw hn 0 (Nat.zero_le _) _ _ _ hmv5 hmet _ _ _ _ _ _ _ hb5 (fromD_from g35) rfl hargs (fun _ _ _=>rfl) (fun x hx hh=>by
   have:=hFl x hx.1
   rcases hh with hh | hh | hh
   · omega
   · omega
   · rcases hfp5 x hh with h | h
     · cases h
     · omega)).mono ?_
 rintro q w6 ⟨vm6,fp6,fq6,ps,fps,hmv6,hm6,ho6,hfq6,had6,hps6⟩
 have hO:reachF ns 0 (ns.length+1) 0 (meetsF ns 0 [] roots)=smallO ns 0 roots:=rfl
 rw [hO] at hmv6 ho6 hps6
 obtain ⟨va6,vc6,rfl,_,_⟩:=ho6.val
 have s6:=hm6.size
 have hS6:∀ x,x < w1.heap.size→¬ (x=w3.heap.size∨x=w2.heap.size∨fp5=some x):=fun x hx hh=>by
   rcases hh with hh | hh | hh
   · omega
   · omega
   · rcases hfp5 x hh with h | h
     · cases h
     · omega
 have hm16:Mod (fun _=>False) w1 w6:=hm15.step hm6 (fun x hx hlt=>(hS6 x hlt hx).elim)
 have hb6:=hm16.at hb1 (fun h=>h)
 have g46:=map_mod g41 hm16 (fun h=>h)
 have ho56:OwnS w6 3 1 (.slice va5 roots.length vc5) ((roots.map (numF ns 0 (smallO ns 0 roots))).map I) roots.length fq5:=by
   have e:roots.map (numF ns 0 (meetsF ns 0 [] roots))=roots.map (numF ns 0 (smallO ns 0 roots)):=by
     apply List.map_congr_left
     intro y hy
     exact (numF_pre (reachF_pre ns 0 _ _ _) (meetsF_in ns 0 _ _ y hy)).symm
   rw [← e]
   refine ho5.mod hm6 (fun x hx hh=>?_)
   have h1:=hfq5 x hx
   rcases hh with hh | hh | hh
   · omega
   · omega
   · cases hfp:fp5 with
     | none=>rw [hfp] at hh;cases hh
     | some y=>rw [hh] at h1;exact h1.2 rfl
 (try simp only [go_sem,simprocAttr])
 refine e_st1 (off:=2) rfl rfl hb6 rfl (by simp) ?_
 intro w7 hb7 hm7 hs7
 have hb7:w7.heap[a]? = some (.cells #[I size,I young,.slice va6 (smallO ns 0 roots).length vc6,I old,.map (some mb),I (IntKind.i64.wrap (times+1))] 162 (0,0)):=hb7
 (try simp only [go_sem,simprocAttr,cell_of hb7])
 refine e_st1 (off:=3) rfl rfl hb7 rfl (by simp) ?_
 intro w8 hb8 hm8 hs8
 have hb8:w8.heap[a]? = some (.cells #[I size,I young,.slice va6 (smallO ns 0 roots).length vc6,I (smallO ns 0 roots).length,.map (some mb),I (IntKind.i64.wrap (times+1))] 162 (0,0)):=hb8
 have g48:=map_mod (map_mod g46 hm7 (fun hh=>hamb hh.symm)) hm8 (fun hh=>hamb hh.symm)
 (try simp only [go_sem,simprocAttr,cell_of hb8])
 refine e_cl (t:=160) (kt:=3) (et:=3) rfl rfl Tryz.underlying160 g48 ?_
 intro w9 hb9 hm9 hs9
 (try simp only [go_sem,simprocAttr])
 have hb99:=hm9.at hb8 hamb
 have hm68:Mod (fun x=>x=a) w6 w8:=hm7.trans hm8
 have hm69:Mod (fun x=>x=a∨x=mb) w6 w9:=(hm68.weak (fun x hx=>.inl hx)).step hm9 (fun x hx _=>.inr hx)
 have hm09:Mod (fun x=>x=a∨x=mb) w w9:=((hm1.weak (S':=fun x=>x=a∨x=mb) (fun x hx=>.inl hx)).step hm16 (fun _ h _=>h.elim)).step hm69 (fun x hx _=>hx)
 have hlen:(smallNs ns 0 roots).length=(smallO ns 0 roots).length:=by rw [small_length];omega
 have hns:smallNs ns 0 roots=ps.map Prod.fst:=by rw [hps6];simp [smallNs]
 refine ⟨fq5,fun x=>x=a∨x=mb∨fq6=some x∨∃ j,j < ps.length∧fps j=some x,?_,?_,⟨hm09.weak (fun x hx=>by rcases hx with hx | hx<;>(subst hx;assumption)),fun x hx=>?_⟩,fun x hx=>?_⟩
 · exact ho56.mod hm69 (fun x hx hh=>by have:=hfq5 x hx;omega)
 · rw [hlen]
   refine ⟨_,mb,[],hb99,.inl rfl,⟨fq6,ps,fps,?_,fun x hx=>.inr (.inr (.inl hx)),?_,hns.symm,fun x hx=>?_⟩,hb9,.inr (.inl rfl),?_⟩
   · rw [hlen];exact ho6.mod hm69 (fun x hx hh=>by have:=hfq6 x hx;omega)
   · have:=argsD_mod had6 hm69 (fun j x hj hx hh=>by have:=(had6.1 j hj).2 x hx;omega)
     exact ⟨fun j hj=>⟨(this.1 j hj).1,fun x hx=>.inr (.inr (.inr ⟨j,hj,hx⟩))⟩,this.2⟩
   · have:=hm69.size
     rcases hx with hx | hx | hx | ⟨j,hj,hx⟩
     · omega
     · omega
     · have:=ho6.lt hx;omega
     · have:=(had6.1 j hj).1.lt hx;omega
   · rw [← hlen];exact leadOk_full (small_wf hw (Nat.zero_le _) hok)
 · rcases hx with hx | hx | hx | ⟨j,hj,hx⟩
   · exact .inl (hx ▸ g2)
   · exact .inl (hx ▸ g5)
   · have:=hfq6 x hx;exact .inr (by omega)
   · have:=(had6.1 j hj).2 x hx;exact .inr (by omega)
 · have h1:=hfq5 x hx
   refine ⟨by omega,fun hh=>?_⟩
   have h2:=ho5.lt hx
   rcases hh with hh | hh | hh | ⟨j,hj,hh⟩
   · omega
   · omega
   · have:=hfq6 x hh;omega
   · have:=(had6.1 j hj).2 x hh;omega
def GColPost (At:World→Nat→Int→Int→Nat→Int→List Nd→(Nat→Prop)→Prop) (w:World) (a:Nat) (size young:Int) (old:Nat) (times:Int) (ns:List Nd) (roots:List Int) (F:Nat→Prop) (r:Value) (w':World):Prop:=
 (okPl ns.length roots=false→r = .tuple #[.slice none 0 0,I 212]∧Mod (fun _=>False) w w') ∧
 (okPl ns.length roots=true→∃ v,r = .tuple #[v,I 0]∧SmallPost At w a size young times ns 0 roots F v w')
theorem gcol_ok (w:World) (a:Nat) (size young:Int) (old:Nat) (times:Int) (ns:List Nd) (F:Nat→Prop) (h:GAt w a size young old times ns F) (hw:WF ns) (hn:ns.length≤1048576) (v:Value) (roots:List Int) (hx:Ints w v roots)
   (hv:roots≠[]→∀ x,vblk v=some x→¬ F x) (hsm:roots.length≤17592186044416) :
   CallsR Tryz.prog 152 [.pointer (some ⟨a,0,none⟩),v] w (GColPost GAt w a size young old times ns roots F):=by
 obtain ⟨va,vc,rfl,_,_⟩:=id hx
 refine fit152.calls rfl ?_
 unfold ir152
 (try simp only [go_sem,simprocAttr])
 refine e_call (by rfl) ?_
 refine (gplaces_ok w a ns.length old _ roots (gat_has h) hx).mono ?_
 rintro r w1 ⟨rfl,hm1⟩
 (try simp only [go_sem,simprocAttr])
 refine ir_cond rfl (fun hc=>?_) (fun hc=>?_)
 · have hc':okPl ns.length roots=false:=by simpa using hc
   (try simp only [go_sem,simprocAttr])
   exact ⟨fun _=>⟨rfl,hm1⟩,fun h=>by rw [hc'] at h;cases h⟩
 have hc':okPl ns.length roots=true:=by simpa using hc
 (try simp only [go_sem,simprocAttr])
 refine e_call (by rfl) ?_
 refine (gall_ok w1 a size young old times ns F (gat_mod h hm1 (fun _ _ h=>h)) hw hn _ roots (hx.mod hm1 (fun _ _ h=>h)) hc' hv hsm).mono ?_
 rintro r w2 ⟨fq,F',o1,o2,o3,o4⟩
 have s1:=hm1.size
 obtain ⟨qa,qc,rfl,_,_⟩:=o1.val
 (try simp only [go_sem,simprocAttr])
 refine ⟨fun h=>(by rw [hc'] at h;cases h),fun _=>⟨_,rfl,fq,F',o1,o2,⟨(hm1.weak (fun _ h=>h.elim)).trans o3.1,fun x hx=>(o3.2 x hx).imp (fun h=>h) (fun h=>by omega)⟩,fun x hx=>⟨by have:=o4 x hx;omega,(o4 x hx).2⟩⟩⟩
end
section
open Go Go.W
theorem flat_same {ps:List (Nd×Value)} {p:Nat} (hp:p < ps.length) {nd:Nd} (hk:nd.kind=ps[p].1.kind) (hn:nd.num=ps[p].1.num):flat (ps.set p (nd,ps[p].2))=flat ps:=by
 unfold flat
 rw [List.flatMap_def,List.flatMap_def]
 congr 1
 apply List.ext_getElem?
 intro j
 simp only [List.getElem?_map,List.getElem?_set]
 split
 · rename_i h;subst h
   simp [nc,hk,hn,hp]
 · rfl
theorem argsD_take {w:World} {ps:List (Nd×Value)} {fp:Nat→Option Nat} {F:Nat→Prop} (h:ArgsD w ps fp F) (k:Nat):ArgsD w (ps.take k) fp F:=
 ⟨fun i hi=>by
   have hi':i < ps.length:=by rw [List.length_take] at hi;omega
   rw [List.getElem_take];exact h.1 i hi',fun i j b hi hj=>h.2 i j b (by rw [List.length_take] at hi;omega) (by rw [List.length_take] at hj;omega)⟩
theorem argsD_join {w:World} {ps qs:List (Nd×Value)} {fp fq:Nat→Option Nat} {F:Nat→Prop} (h:ArgsD w ps fp F) (k:ArgsD w qs fq F) (hd:∀ i j b,i < ps.length→j < qs.length→fp i=some b→fq j≠some b) :
   ArgsD w (ps++qs) (fun i=>if i < ps.length then fp i else fq (i - ps.length)) F:=by
 refine ⟨fun i hi=>?_,fun i j b hi hj hij h1 h2=>?_⟩
 · by_cases hip:i < ps.length
   · rw [List.getElem_append_left hip];simp only [if_pos hip];exact h.1 i hip
   · rw [List.getElem_append_right (by omega)];simp only [if_neg hip]
     exact k.1 _ (by rw [List.length_append] at hi;omega)
 · rw [List.length_append] at hi hj
   simp only at h1 h2
   by_cases hip:i < ps.length
   · rw [if_pos hip] at h1
     by_cases hjp:j < ps.length
     · rw [if_pos hjp] at h2;exact h.2 i j b hip hjp hij h1 h2
     · rw [if_neg hjp] at h2;exact hd i _ b hip (by omega) h1 h2
   · rw [if_neg hip] at h1
     by_cases hjp:j < ps.length
     · rw [if_pos hjp] at h2;exact hd j _ b hjp (by omega) h2 h1
     · rw [if_neg hjp] at h2;exact k.2 _ _ b (by omega) (by omega) (by omega) h1 h2
theorem flat_take (ps:List (Nd×Value)):∀ k,(flat ps).take (k*3)=flat (ps.take k):=by
 induction ps with
 | nil=>intro k;simp [flat]
 | cons p ps ih=>
   intro k
   cases k with
   | zero=>simp [flat]
   | succ k=>
     have e:flat (p::ps)=I p.1.kind::I p.1.num::p.2::flat ps:=by simp [flat,nc]
     have e':flat (p::ps.take k)=I p.1.kind::I p.1.num::p.2::flat (ps.take k):=by simp [flat,nc]
     rw [e,show (k+1)*3=k*3+3 by omega,List.take_succ_cons,List.take_succ_cons,List.take_succ_cons,ih,List.take_succ_cons,e']
theorem own_take {w:World} {b c n:Nat} {ps:List (Nd×Value)} {fp:Option Nat} (h:OwnS w 87 3 (.slice (some ⟨b,0,none⟩) n c) (flat ps) n fp) {k:Nat} (hk:k≤n):OwnS w 87 3 (.slice (some ⟨b,0,none⟩) k k) (flat (ps.take k)) k fp:=by
 have hl:=h.1
 rw [flat_len] at hl
 have hn:ps.length=n:=by omega
 refine ⟨by rw [flat_len,List.length_take];omega,?_⟩
 rcases h.2 with ⟨h1,_⟩ | ⟨b',c',sp,h1,h2,h3,h4,h5⟩
 · cases h1
 · cases h1
   refine .inr ⟨b,k,(flat ps).drop (k*3)++sp,rfl,h2,?_,?_,Nat.le_refl _⟩
   · rw [← flat_take,← List.append_assoc,List.take_append_drop];exact h3
   · rw [← flat_take,← List.append_assoc,List.take_append_drop,List.length_append,flat_len];omega
def leadsN (ns:List Nd) (old:Nat):List Nat:=(List.range old).filter fun p=>(ndAt ns p).args.any (isY old)
theorem mem_leadsN {ns:List Nd} {old p:Nat}:p∈leadsN ns old↔p < old∧∃ a∈(ndAt ns p).args,(old:Int)≤a:=by
 simp [leadsN,isY]
theorem leads_range {ns:List Nd} {old:Nat} {ld:List (Int×Int)} (h:LeadOk ns old ld):∀ k∈ld.map (fun q=>q.1),0≤k∧k < (old:Int):=by
 intro k hk
 obtain ⟨p,rfl,hp,_⟩:=(h.2 k).1 hk
 omega
theorem leads_len {ns:List Nd} {old:Nat} {ld:List (Int×Int)} (h:LeadOk ns old ld):ld.length≤old:=by
 have hr:=leads_range h
 have hnd:((ld.map (fun q=>q.1)).map Int.toNat).Nodup:=by
   unfold List.Nodup
   rw [List.pairwise_map]
   refine List.Pairwise.imp_of_mem ?_ h.1
   intro a b ha hb hab hh
   have:=hr a ha;have:=hr b hb
   exact hab (by omega)
 have:=nodup_le old _ hnd (fun x hx=>by
   obtain ⟨k,hk,rfl⟩:=List.mem_map.1 hx
   have:=hr k hk
   omega)
 simpa using this
theorem sortedKeys_leads {ns:List Nd} {old:Nat} {ld:List (Int×Int)} (h:LeadOk ns old ld):sortedKeys ld=(leadsN ns old).map fun p:Nat=>(p:Int):=by
 have hs:=List.pairwise_mergeSort (le:=fun x y:Int=>decide (x≤y)) (by intro a b c;simp;omega) (by intro a b;simp;omega) (ld.map (fun q=>q.1))
 have hnd:((leadsN ns old).map fun p:Nat=>(p:Int)).Nodup:=by
   unfold List.Nodup
   rw [List.pairwise_map]
   refine ((List.nodup_range (n:=old)).sublist List.filter_sublist).imp ?_
   intro a b hab hh
   exact hab (by omega)
 refine List.Perm.eq_of_pairwise (le:=fun x y:Int=>x≤y) (fun a b _ _ h1 h2=>by omega) (hs.imp (by intro a b h;simpa using h)) ?_ ?_
 · rw [List.pairwise_map]
   refine ((List.pairwise_lt_range (n:=old)).sublist List.filter_sublist).imp ?_
   intro a b hab
   omega
 · refine (List.mergeSort_perm _ _).trans ?_
   rw [List.perm_ext_iff_of_nodup h.1 hnd]
   intro k
   rw [h.2 k]
   simp only [List.mem_map,mem_leadsN]
   constructor
   · rintro ⟨p,rfl,h1,h2⟩;exact ⟨p,⟨h1,h2⟩,rfl⟩
   · rintro ⟨p,⟨h1,h2⟩,rfl⟩;exact ⟨p,rfl,h1,h2⟩
theorem old_filter_nil {ns:List Nd} {old p:Nat} (h:(ndAt ns p).args.any (isY old)=false):(ndAt ns p).args.filter (isY old)=[]:=by
 rw [List.filter_eq_nil_iff]
 intro a ha hh
 rw [List.any_eq_false] at h
 exact h a ha hh
theorem leads_fold (ns:List Nd) (old:Nat) (out:List Nat):(leadsN ns old).foldl (oldStep ns old) out=oldMeets ns old old out:=by
 unfold leadsN oldMeets
 rw [List.foldl_filter]
 congr 1
 funext o p
 split
 · rfl
 · rename_i h
   unfold oldStep
   rw [old_filter_nil (by simpa using h)]
   rfl
theorem oldArgs_same {ns:List Nd} {old p:Nat} (h:p < old) (hn:p∉leadsN ns old) (O:List Nat):oldArgs ns old O p=(ndAt ns p).args:=by
 have hq:∀ q∈(ndAt ns p).args,¬ isY old q=true:=fun q hq hh=>hn (mem_leadsN.2 ⟨h,q,hq,by simpa [isY] using hh⟩)
 unfold oldArgs
 conv=>rhs;rw [← List.map_id' (ndAt ns p).args]
 apply List.map_congr_left
 intro q hqm
 rw [if_neg (hq q hqm)]
def rewN (ns:List Nd) (old:Nat) (O:List Nat) (M:List Nat):List Nd:=(List.range ns.length).map fun p=>if p∈M then ⟨(ndAt ns p).kind,(ndAt ns p).num,oldArgs ns old O p⟩ else ndAt ns p
theorem rewN_len (ns:List Nd) (old:Nat) (O M:List Nat):(rewN ns old O M).length=ns.length:=by simp [rewN]
theorem rewN_at (ns:List Nd) (old:Nat) (O M:List Nat) {p:Nat} (hp:p < ns.length):ndAt (rewN ns old O M) p=if p∈M then ⟨(ndAt ns p).kind,(ndAt ns p).num,oldArgs ns old O p⟩ else ndAt ns p:=by
 simp [rewN,ndAt,hp]
theorem nd_ext {l l':List Nd} (hl:l.length=l'.length) (h:∀ p,p < l.length→ndAt l p=ndAt l' p):l=l':=by
 apply List.ext_getElem hl
 intro i h1 h2
 have:=h i h1
 simpa [ndAt,h1,h2] using this
theorem ndAt_set' (l:List Nd) (p i:Nat) (nd:Nd) (hp:p < l.length):ndAt (l.set p nd) i=if i=p then nd else ndAt l i:=by
 unfold ndAt
 rw [List.getD_eq_getElem?_getD,List.getD_eq_getElem?_getD,List.getElem?_set]
 by_cases h:p=i
 · subst h;simp [hp]
 · rw [if_neg h,if_neg (fun hh=>h hh.symm)]
theorem rewN_nil (ns:List Nd) (old:Nat) (O:List Nat):rewN ns old O []=ns:=by
 refine nd_ext (rewN_len _ _ _ _) (fun p hp=>?_)
 rw [rewN_len] at hp
 rw [rewN_at _ _ _ _ hp,if_neg (by simp)]
theorem rewN_snoc (ns:List Nd) (old:Nat) (O M:List Nat) {p:Nat} (hp:p < ns.length):rewN ns old O (M++[p])=(rewN ns old O M).set p ⟨(ndAt ns p).kind,(ndAt ns p).num,oldArgs ns old O p⟩:=by
 refine nd_ext (by rw [List.length_set,rewN_len,rewN_len]) (fun i hi=>?_)
 rw [rewN_len] at hi
 rw [rewN_at _ _ _ _ hi,ndAt_set' _ _ _ _ (by rw [rewN_len];exact hp),rewN_at _ _ _ _ hi]
 by_cases h:i=p
 · subst h;simp
 · simp [h]
def ringN (ns l:List Nd) (old:Nat) (left R:List (Int×Int)):List Nd:=
 (List.range ns.length).map fun p=>if p < old∧(p:Int)∈R.map (fun q=>q.1)∧(p:Int)∉left.map (fun q=>q.1) then ⟨(ndAt ns p).kind,(ndAt ns p).num,[(p:Int)]⟩ else ndAt l p
theorem ringN_len (ns l:List Nd) (old:Nat) (left R:List (Int×Int)):(ringN ns l old left R).length=ns.length:=by simp [ringN]
theorem ringN_at (ns l:List Nd) (old:Nat) (left R:List (Int×Int)) {p:Nat} (hp:p < ns.length):ndAt (ringN ns l old left R) p=if p < old∧(p:Int)∈R.map (fun q=>q.1)∧(p:Int)∉left.map (fun q=>q.1) then ⟨(ndAt ns p).kind,(ndAt ns p).num,[(p:Int)]⟩ else ndAt l p:=by
 conv=>lhs;unfold ndAt ringN
 rw [List.getD_eq_getElem?_getD,List.getElem?_map,List.getElem?_range hp]
 rfl
theorem ringN_all (ns l:List Nd) (hl:l.length=ns.length) (old:Nat) (R:List (Int×Int)):ringN ns l old R R=l:=by
 refine nd_ext (by rw [ringN_len,hl]) (fun p hp=>?_)
 rw [ringN_len] at hp
 rw [ringN_at _ _ _ _ _ hp,if_neg (fun h=>h.2.2 h.2.1)]
end
section
open Go Go.W
def Foc (w:World) (cv:Value) (ns:List Nd) (F:Nat→Prop) (p b c:Nat) (v:Value) (fpv:Option Nat):Prop:=
 ∃ ps fp,cv = .slice (some ⟨b,0,none⟩) ns.length c∧OwnS w 87 3 cv (flat ps) ns.length (some b)∧F b∧ArgsD w ps fp F∧ps.map Prod.fst=ns∧(∀ x,F x→x < w.heap.size)∧p < ps.length∧(∀ q,ps[p]? = some q→q.2=v)∧fp p=fpv
theorem foc_of {w:World} {cv:Value} {ns:List Nd} {F:Nat→Prop} (h:FromD 87 w cv ns F) {p:Nat} (hp:p < ns.length):∃ b c v fpv,Foc w cv ns F p b c v fpv:=by
 obtain ⟨fpc,ps,fp,h1,h2,h3,h4,h5⟩:=h
 have hps:ps.length=ns.length:=by rw [← h4];simp
 obtain ⟨bc,cc,spc,rfl,rfl,gc,hcc,hcap⟩:=h1.pos (by omega)
 have hp':p < ps.length:=by omega
 exact ⟨bc,cc,ps[p].2,fp p,ps,fp,rfl,h1,h2 _ rfl,h3,h4,h5,hp',fun q hq=>by rw [List.getElem?_eq_getElem hp'] at hq;cases hq;rfl,rfl⟩
theorem foc_from {w:World} {cv:Value} {ns:List Nd} {F:Nat→Prop} {p b c:Nat} {v:Value} {fpv:Option Nat} (h:Foc w cv ns F p b c v fpv):FromD 87 w cv ns F:=by
 obtain ⟨ps,fp,h1,h2,h3,h4,h5,h6,h7,h8,h9⟩:=h
 exact ⟨some b,ps,fp,h2,fun x hx=>by cases hx;exact h3,h4,h5,h6⟩
theorem foc_mod {w w':World} {cv:Value} {ns:List Nd} {F S:Nat→Prop} {p b c:Nat} {v:Value} {fpv:Option Nat} (h:Foc w cv ns F p b c v fpv) (hm:Mod S w w') (hd:∀ x,F x→¬ S x):Foc w' cv ns F p b c v fpv:=by
 obtain ⟨ps,fp,h1,h2,h3,h4,h5,h6,h7,h8,h9⟩:=h
 exact ⟨ps,fp,h1,h2.mod hm (fun x hx=>by cases hx;exact hd b h3),h3,argsD_mod h4 hm (fun i x hi hx=>hd x ((h4.1 i hi).2 x hx)),h5,fun x hx=>Nat.lt_of_lt_of_le (h6 x hx) hm.size,h7,h8,h9⟩
theorem foc_cells {w:World} {cv:Value} {ns:List Nd} {F:Nat→Prop} {p b c:Nat} {v:Value} {fpv:Option Nat} (h:Foc w cv ns F p b c v fpv) :
   cv = .slice (some ⟨b,0,none⟩) ns.length c∧F b∧w.cell? ⟨b,p*3,none⟩=some (I (ndAt ns p).kind)∧w.cell? ⟨b,p*3+1,none⟩=some (I (ndAt ns p).num)∧w.cell? ⟨b,p*3+2,none⟩=some v ∧
     OwnS w 3 1 v ((ndAt ns p).args.map I) (ndAt ns p).args.length fpv∧(∀ x,fpv=some x→F x∧x≠b):=by
 obtain ⟨ps,fp,h1,h2,h3,h4,h5,h6,h7,h8,h9⟩:=h
 have hps:ps.length=ns.length:=by rw [← h5];simp
 obtain ⟨bc,cc,spc,e1,e2,gc,hcc,hcap⟩:=h2.pos (by omega)
 cases e2
 have hnd:ps[p].1=ndAt ns p:=by
   have e1:ndAt ns p=ns[p]'(by omega):=by simp [ndAt,show p < ns.length by omega]
   rw [e1];simp [← h5]
 have hv:=h8 _ (List.getElem?_eq_getElem h7)
 obtain ⟨o1,o2⟩:=h4.1 p h7
 have c0:=node_cell gc h7 (k:=0) (by omega)
 have c1:=node_cell gc h7 (k:=1) (by omega)
 have c2:=node_cell gc h7 (k:=2) (by omega)
 simp only [nc,Nat.add_zero,hnd,hv] at c0 c1 c2
 rw [hnd,hv,h9] at o1
 rw [h9] at o2
 exact ⟨h1,h3,c0,c1,c2,o1,fun x hx=>⟨o2 x hx,fun hh=>own_apart o1 h2 (by decide) hx (by rw [hh])⟩⟩
theorem foc_write {w w':World} {cv:Value} {ns:List Nd} {F:Nat→Prop} {p b c:Nat} {v:Value} {fpv:Option Nat} (h:Foc w cv ns F p b c v fpv) {args':List Int} (hm:Mod (fun x=>fpv=some x) w w') (ho:OwnS w' 3 1 v (args'.map I) args'.length fpv) :
   Foc w' cv (ns.set p ⟨(ndAt ns p).kind,(ndAt ns p).num,args'⟩) F p b c v fpv:=by
 obtain ⟨ps,fp,h1,h2,h3,h4,h5,h6,h7,h8,h9⟩:=h
 have hps:ps.length=ns.length:=by rw [← h5];simp
 have hv:=h8 _ (List.getElem?_eq_getElem h7)
 have hnd:ps[p].1=ndAt ns p:=by
   have e1:ndAt ns p=ns[p]'(by omega):=by simp [ndAt,show p < ns.length by omega]
   rw [e1];simp [← h5]
 obtain ⟨o1,o2⟩:=h4.1 p h7
 rw [h9] at o1 o2
 refine ⟨ps.set p (⟨(ndAt ns p).kind,(ndAt ns p).num,args'⟩,ps[p].2),fp,by rw [List.length_set];exact h1,?_,h3,⟨fun i hi=>?_,fun i j x hi hj=>h4.2 i j x (by simpa using hi) (by simpa using hj)⟩,?_,fun x hx=>Nat.lt_of_lt_of_le (h6 x hx) hm.size,by simpa using h7,fun q hq=>?_,h9⟩
 · rw [flat_same h7 (by rw [hnd]) (by rw [hnd]),List.length_set]
   exact h2.mod hm (fun x hx hh=>own_apart o1 h2 (by decide) hh hx)
 · have hi':i < ps.length:=by simpa using hi
   rw [List.getElem_set]
   by_cases hip:p=i
   · subst hip
     rw [if_pos rfl,h9]
     rw [← hv] at ho
     exact ⟨ho,o2⟩
   · rw [if_neg hip]
     exact ⟨(h4.1 i hi').1.mod hm (fun x hx hh=>h4.2 i p x hi' h7 (fun e=>hip e.symm) hx (by rw [h9];exact hh)),(h4.1 i hi').2⟩
 · rw [List.map_set,h5]
 · rw [List.getElem?_set,if_pos rfl] at hq
   rw [if_pos h7] at hq
   cases hq
   exact hv
def halfA (ns:List Nd) (old:Nat) (O:List Nat) (l:List Int) (i:Nat):List Int:=(l.take i).map (fun q=>if isY old q=true then numF ns old O q else q)++l.drop i
theorem halfA_len (ns:List Nd) (old:Nat) (O:List Nat) (l:List Int) (i:Nat) (h:i≤l.length):(halfA ns old O l i).length=l.length:=by simp [halfA];omega
theorem halfA_zero (ns:List Nd) (old:Nat) (O:List Nat) (l:List Int):halfA ns old O l 0=l:=by simp [halfA]
theorem halfA_full (ns:List Nd) (old:Nat) (O:List Nat) (p:Nat):halfA ns old O (ndAt ns p).args (ndAt ns p).args.length=oldArgs ns old O p:=by simp [halfA,oldArgs]
theorem halfA_at (ns:List Nd) (old:Nat) (O:List Nat) (l:List Int) {i:Nat} (h:i < l.length):(halfA ns old O l i)[i]? = some l[i]:=by
 unfold halfA
 rw [List.getElem?_append_right (by simp;omega)]
 have:i - ((l.take i).map (fun q=>if isY old q=true then numF ns old O q else q)).length=0:=by simp;omega
 rw [this,List.getElem?_drop]
 simp [h]
theorem halfA_set (ns:List Nd) (old:Nat) (O:List Nat) (l:List Int) {i:Nat} (h:i < l.length):(halfA ns old O l i).set i (if isY old l[i]=true then numF ns old O l[i] else l[i])=halfA ns old O l (i+1):=by
 unfold halfA
 have e1:((l.take i).map (fun q=>if isY old q=true then numF ns old O q else q)).length=i:=by simp;omega
 rw [List.set_append,if_neg (by omega),e1,Nat.sub_self,List.drop_eq_getElem_cons h,List.set_cons_zero,List.take_succ_eq_append_getElem h,List.map_append]
 simp
theorem halfA_same (ns:List Nd) (old:Nat) (O:List Nat) (l:List Int) {i:Nat} (h:i < l.length) (hy:isY old l[i]=false):halfA ns old O l (i+1)=halfA ns old O l i:=by
 rw [← halfA_set ns old O l h,hy]
 have:=halfA_at ns old O l h
 simp only [Bool.false_eq_true,if_false]
 apply List.ext_getElem?
 intro j
 rw [List.getElem?_set]
 split
 · rename_i hj;subst hj
   rw [this]
   split
   · rfl
   · rename_i hh;exact absurd (by rw [halfA_len _ _ _ _ _ (by omega)];exact h) hh
 · rfl
theorem filter_take {l:List Int} {i:Nat} (h:i < l.length) (p:Int→Bool):(l.take (i+1)).filter p=(l.take i).filter p++if p l[i]=true then [l[i]] else []:=by
 rw [List.take_succ_eq_append_getElem h,List.filter_append]
 congr 1
 simp [List.filter_cons]
theorem meetsF_app (ns:List Nd) (fr:Nat) (out:List Nat) (a b:List Int):meetsF ns fr out (a++b)=meetsF ns fr (meetsF ns fr out a) b:=by unfold meetsF;rw [List.foldl_append]
theorem own_set {w:World} {v:Value} {xs:List Int} {n:Nat} {fp:Option Nat} (h:OwnS w 3 1 v (xs.map I) n fp) {i:Nat} (hi:i < n) :
   ∃ b c cs,v = .slice (some ⟨b,0,none⟩) n c∧fp=some b∧w.heap[b]? = some (.cells (cs:List Value).toArray 3 (0,0))∧i < cs.length∧(∀ (j:Nat) (y:Int),xs[j]? = some y→cs[j]? = some (I y)) ∧
     ∀ w' y,w'.heap[b]? = some (.cells (cs.set i (I y)).toArray 3 (0,0))→OwnS w' 3 1 v ((xs.set i y).map I) n fp:=by
 have hl:=h.1
 rw [List.length_map] at hl
 obtain ⟨b,c,sp',rfl,rfl,hb,hcc,hcap⟩:=h.pos (by omega)
 refine ⟨b,c,xs.map I++sp',rfl,rfl,hb,by simp;omega,fun j y hj=>?_,fun w' y hy=>⟨by simpa using hl,.inr ⟨b,c,sp',rfl,rfl,?_,?_,hcc⟩⟩⟩
 · rw [List.getElem?_append_left (by have:=(List.getElem?_eq_some_iff.1 hj).1;simpa using this),List.getElem?_map,hj];rfl
 · rw [hy,List.set_append,if_pos (by simp;omega)]
   rw [List.map_set]
 · simpa using hcap
theorem fromD_ne2 {w:World} {cv:Value} {ns:List Nd} {F:Nat→Prop} (h:FromD 87 w cv ns F) {a:Nat} {l:List (Int×Int)} (ha:MapAt w a l):FromD 87 w cv ns (fun x=>F x∧x≠a):=by
 obtain ⟨fpc,ps,fp,h1,h2,h3,h4,h5⟩:=h
 have hne:∀ {T sz n:Nat} {v:Value} {xs:List Value} {f:Option Nat},OwnS w T sz v xs n f→∀ b,f=some b→b≠a:=fun ho b hb hh=>by
   obtain ⟨cs,hc⟩:=own_cells ho hb
   obtain ⟨es,c,q,_⟩:=ha
   rw [hh,q] at hc;cases hc
 exact ⟨fpc,ps,fp,h1,fun b hb=>⟨h2 b hb,hne h1 b hb⟩,⟨fun i hi=>⟨(h3.1 i hi).1,fun b hb=>⟨(h3.1 i hi).2 b hb,hne (h3.1 i hi).1 b hb⟩⟩,h3.2⟩,h4,fun b hb=>h5 b hb.1⟩
theorem map_ne {w:World} {b x:Nat} {l:List (Int×Int)} {cs:Array Value} {T:Nat} {fz:Nat×Nat} (h:MapAt w b l) (hx:w.heap[x]? = some (.cells cs T fz)):b≠x:=fun hh=>by
 obtain ⟨es,c,q,_⟩:=h
 rw [hh,hx] at q;cases q
theorem ir_bbthen {P:Program} {N id id':Nat} {a:IR} {next:Env→World→Prop} {Q:Post} {ρ:Env} {w:World} (Mid:Env→World→Prop) (h:irwp P N a (blkQ id (blkQ id' (thenQ Mid Q))) ρ w) (hk:∀ ρ w,Mid ρ w→next ρ w):irwp P N a (blkQ id (blkQ id' (thenQ next Q))) ρ w:=
 irwp_mono a _ _ (blkQ_le (blkQ_le (thenQ_le hk (fun _ _ _ h=>h)))) ρ w h
theorem leadsN_len (ns:List Nd) (old:Nat):(leadsN ns old).length≤old:=by
 have:=List.length_filter_le (fun p=>(ndAt ns p).args.any (isY old)) (List.range old)
 rw [List.length_range] at this
 exact this
theorem half_pre (ns:List Nd) (old:Nat) (cur:List Nat) (l:List Int) (j:Nat):meetsF ns old cur ((l.take j).filter (isY old)) <+: meetsF ns old cur (l.filter (isY old)):=by
 conv=>rhs;rw [← List.take_append_drop j l,List.filter_append,meetsF_app]
 exact meetsF_pre ns old _ _
theorem erase_mem {L:List Int} (hn:L.Nodup) {i:Nat} (hi:i < L.length) (x:Int):x∈L.eraseIdx i↔x∈L∧x≠L[i]:=by
 rw [List.mem_eraseIdx_iff_getElem]
 constructor
 · rintro ⟨j,hj,hne,rfl⟩
   exact ⟨List.getElem_mem hj,fun hh=>hne ((List.getElem_inj hn (h₀:=hj) (h₁:=hi)).1 hh)⟩
 · rintro ⟨hm,hne⟩
   obtain ⟨j,hj,rfl⟩:=List.getElem_of_mem hm
   exact ⟨j,hj,fun hh=>hne (by subst hh;rfl),rfl⟩
theorem left_erase {left:List (Int×Int)} (hn:(left.map (fun q=>q.1)).Nodup) {i:Nat} (hi:i < left.length):((left.eraseIdx i).map (fun q=>q.1)).Nodup∧∀ x:Int,x∈(left.eraseIdx i).map (fun q=>q.1)↔x∈left.map (fun q=>q.1)∧x≠left[i].1:=by
 have e:(left.eraseIdx i).map (fun q=>q.1)=(left.map (fun q=>q.1)).eraseIdx i:=Go.ChangeMaps.map_eraseIdx _ _ _
 rw [e]
 refine ⟨hn.sublist (List.eraseIdx_sublist _ _),fun x=>?_⟩
 rw [erase_mem hn (by simpa using hi)]
 simp
theorem ringN_step {ns l:List Nd} {old:Nat} {left R:List (Int×Int)} (hn:(left.map (fun q=>q.1)).Nodup) {i p:Nat} (hi:i < left.length) (hp:left[i].1=(p:Int)) (hR:(p:Int)∈R.map (fun q=>q.1)) (hpn:p < ns.length) :
   ringN ns l old (left.eraseIdx i) R=if p < old then (ringN ns l old left R).set p ⟨(ndAt ns p).kind,(ndAt ns p).num,[(p:Int)]⟩ else ringN ns l old left R:=by
 obtain ⟨h1,h2⟩:=left_erase hn hi
 have hm:(p:Int)∈left.map (fun q=>q.1):=by rw [← hp];exact List.mem_map.2 ⟨_,List.getElem_mem hi,rfl⟩
 by_cases hpo:p < old
 · rw [if_pos hpo]
   refine nd_ext (by simp [ringN_len]) (fun j hj=>?_)
   rw [ringN_len] at hj
   rw [ringN_at _ _ _ _ _ hj,ndAt_set' _ _ _ _ (by rw [ringN_len];exact hpn),ringN_at _ _ _ _ _ hj]
   by_cases hjp:j=p
   · subst hjp
     rw [if_pos ⟨hpo,hR,fun hh=>((h2 _).1 hh).2 hp.symm⟩,if_pos rfl]
   · rw [if_neg hjp]
     have e:(j < old∧(j:Int)∈R.map (fun q=>q.1)∧(j:Int)∉(left.eraseIdx i).map (fun q=>q.1))↔(j < old∧(j:Int)∈R.map (fun q=>q.1)∧(j:Int)∉left.map (fun q=>q.1)):=by
       rw [h2]
       have:(j:Int)≠left[i].1:=by rw [hp];omega
       simp [this]
     simp only [e]
 · rw [if_neg hpo]
   refine nd_ext (by simp [ringN_len]) (fun j hj=>?_)
   rw [ringN_len] at hj
   rw [ringN_at _ _ _ _ _ hj,ringN_at _ _ _ _ _ hj]
   have e:(j < old∧(j:Int)∈R.map (fun q=>q.1)∧(j:Int)∉(left.eraseIdx i).map (fun q=>q.1))↔(j < old∧(j:Int)∈R.map (fun q=>q.1)∧(j:Int)∉left.map (fun q=>q.1)):=by
     rw [h2]
     constructor
     · rintro ⟨c1,c2,c3⟩
       exact ⟨c1,c2,fun hh=>c3 ⟨hh,by rw [hp];omega⟩⟩
     · rintro ⟨c1,c2,c3⟩
       exact ⟨c1,c2,fun hh=>c3 hh.1⟩
   simp only [e]
theorem own_take' {w:World} {ca:Option Addr} {c n:Nat} {ps:List (Nd×Value)} {fp:Option Nat} (h:OwnS w 87 3 (.slice ca n c) (flat ps) n fp) {k:Nat} (hk:k≤n):OwnS w 87 3 (.slice ca k k) (flat (ps.take k)) k fp:=by
 rcases h.2 with ⟨h1,h2,h3⟩ | ⟨b',c',sp,h1,h2,h3,h4,h5⟩
 · cases h1
   obtain rfl:k=0:=by omega
   subst h3
   exact OwnS.nil _ _ _
 · cases h1
   exact own_take h hk
theorem flat_cells {w:World} {ps:List (Nd×Value)} {fp:Nat→Option Nat} {F:Nat→Prop} (h:ArgsD w ps fp F):∀ u∈flat ps,u.oneCell'=true:=by
 intro u hu
 obtain ⟨q,hq,hu⟩:=List.mem_flatMap.1 hu
 obtain ⟨i,hi,rfl⟩:=List.getElem_of_mem hq
 obtain ⟨va,vc,hv,_⟩:=(h.1 i hi).1.val
 simp only [nc,List.mem_cons,List.not_mem_nil,or_false] at hu
 rcases hu with rfl | rfl | rfl
 · rfl
 · rfl
 · rw [hv];rfl
theorem nd_mem {l:List Nd} {P:Nd→Prop} (h:∀ p,p < l.length→P (ndAt l p)):∀ nd∈l,P nd:=by
 intro nd hnd
 obtain ⟨i,hi,rfl⟩:=List.getElem_of_mem hnd
 have:=h i hi
 simpa [ndAt,hi] using this
theorem ringN_old {ns:List Nd} (hw:WF ns) {old:Nat} (ho:old≤ns.length) (O:List Nat) {w:World} {bo br:Nat} {R:List (Int×Int)} (hT:Things w bo br ns R):(ringN ns (rewN ns old O (leadsN ns old)) old [] R).take old=(List.range old).map (oldNd ns old O):=by
 refine nd_ext (by simp [ringN_len];omega) (fun p hp=>?_)
 rw [List.length_take,ringN_len] at hp
 have hpn:p < ns.length:=by omega
 have hpo:p < old:=by omega
 have e1:ndAt ((ringN ns (rewN ns old O (leadsN ns old)) old [] R).take old) p=ndAt (ringN ns (rewN ns old O (leadsN ns old)) old [] R) p:=by
   unfold ndAt
   rw [List.getD_eq_getElem?_getD,List.getD_eq_getElem?_getD,List.getElem?_take,if_pos hpo]
 have e2:ndAt ((List.range old).map (oldNd ns old O)) p=oldNd ns old O p:=by simp [ndAt,hpo]
 rw [e1,e2,ringN_at _ _ _ _ _ hpn,rewN_at _ _ _ _ hpn]
 have hk:=hT.keys (p:Int)
 by_cases hr:ind ns p=true∧over ns p=p
 · rw [if_pos ⟨hpo,hk.2 ⟨p,hpn,by rw [hr.2],by rw [hr.2];exact hr.1⟩,by simp⟩]
   simp [oldNd,hr]
 · rw [if_neg]
   · unfold oldNd
     rw [if_neg hr]
     split
     · rfl
     · rename_i hl
       rw [oldArgs_same hpo hl]
   · rintro ⟨_,h2,_⟩
     obtain ⟨j,hj,e,hi⟩:=hk.1 h2
     have e':p=over ns j:=by omega
     rw [e'] at hr
     exact hr ⟨hi,ov_ov (wf_nxt_lt hw) hj⟩
theorem ringN_args {ns:List Nd} (hargs:∀ nd∈ns,nd.args.length≤8) {old:Nat} (O:List Nat) (R:List (Int×Int)):∀ nd∈ringN ns (rewN ns old O (leadsN ns old)) old [] R,nd.args.length≤8:=by
 refine nd_mem (fun p hp=>?_)
 rw [ringN_len] at hp
 have:=hargs (ndAt ns p) (by simp [ndAt,hp])
 rw [ringN_at _ _ _ _ _ hp,rewN_at _ _ _ _ hp]
 split
 · simp
 · split
   · simpa [oldArgs] using this
   · exact this
theorem ringN_young {ns:List Nd} {old:Nat} (O:List Nat) (R:List (Int×Int)) {x:Nat} (hx:old≤x) (hxn:x < ns.length):ndAt (ringN ns (rewN ns old O (leadsN ns old)) old [] R) x=ndAt ns x:=by
 rw [ringN_at _ _ _ _ _ hxn,if_neg (by omega),rewN_at _ _ _ _ hxn,if_neg (fun hh=>by have:=(mem_leadsN.1 hh).1;omega)]
def curK (ns:List Nd) (old:Nat) (O1:List Nat) (k:Nat):List Nat:=((leadsN ns old).take k).foldl (oldStep ns old) O1
theorem curK_zero (ns:List Nd) (old:Nat) (O1:List Nat):curK ns old O1 0=O1:=by simp [curK]
theorem curK_succ (ns:List Nd) (old:Nat) (O1:List Nat) {k:Nat} (hk:k < (leadsN ns old).length):curK ns old O1 (k+1)=meetsF ns old (curK ns old O1 k) ((ndAt ns (leadsN ns old)[k]).args.filter (isY old)):=by
 unfold curK
 rw [List.take_succ_eq_append_getElem hk,List.foldl_append]
 rfl
theorem curK_all (ns:List Nd) (old:Nat) (O1:List Nat):curK ns old O1 (leadsN ns old).length=oldMeets ns old old O1:=by
 unfold curK
 rw [List.take_length]
 exact leads_fold ns old O1
theorem curK_pre (ns:List Nd) (old:Nat) (O1:List Nat) {k:Nat} (hk:k≤(leadsN ns old).length):curK ns old O1 k <+: oldMeets ns old old O1:=by
 have key:∀ (l:List Nat) (o:List Nat),o <+: l.foldl (oldStep ns old) o:=by
   intro l
   induction l with
   | nil=>intro o;exact List.prefix_rfl
   | cons x l ih=>intro o;exact (oldStep_pre ns old o x).trans (ih _)
 rw [← curK_all]
 unfold curK
 rw [List.take_length]
 conv=>rhs;rw [← List.take_append_drop k (leadsN ns old),List.foldl_append]
 exact key _ _
theorem curK_met {ns:List Nd} (hw:WF ns) {old:Nat} (ho:old≤ns.length) {O1:List Nat} (h:MetF ns old O1):∀ k,k≤(leadsN ns old).length→MetF ns old (curK ns old O1 k):=by
 intro k
 induction k with
 | zero=>intro _;rw [curK_zero];exact h
 | succ k ih=>
   intro hk
   rw [curK_succ ns old O1 (by omega)]
   have hm:=(mem_leadsN (ns:=ns) (old:=old)).1 (List.getElem_mem (show k < (leadsN ns old).length by omega))
   exact metF_meets hw _ (ih (by omega)) (okPl_filter (wf_at hw (by omega)).2 _)
end
section
open Go Go.W
theorem gsmall_ok (w:World) (a:Nat) (size young:Int) (old:Nat) (times:Int) (ns:List Nd) (F:Nat→Prop) (h:GAt w a size young old times ns F) (ho:old≤ns.length) (hw:WF ns) (hn:ns.length≤1048576) (v:Value) (roots:List Int) (hx:Ints w v roots) (hok:okPl ns.length roots=true)
   (hv:roots≠[]→∀ x,vblk v=some x→¬ F x) (hsm:roots.length≤17592186044416) :
   CallsR Tryz.prog 161 [.pointer (some ⟨a,0,none⟩),v] w (SmallPost GAt w a size young times ns old roots F):=by
 have hFl:=gat_lt h
 obtain ⟨va,vc,rfl,_,_⟩:=id hx
 obtain ⟨cv,mb,ld,g1,g2,g3,g4,g5,g6⟩:=h
 have hargs:=wf_args_le hw
 have la:=lt_of_heap g1
 have lmb:mb < w.heap.size:=hFl mb g5
 have hamb:a≠mb:=fun hh=>by
   obtain ⟨es,c,q,_⟩:=g4
   rw [← hh,g1] at q;cases q
 refine fit161.calls rfl ?_
 unfold ir161
 (try simp only [go_sem,simprocAttr,cell_of g1])
 refine e_st1 (off:=5) rfl rfl g1 rfl (by simp) ?_
 intro w1 hb1 hm1 hs1
 have hb1:w1.heap[a]? = some (.cells #[I size,I young,cv,I old,.map (some mb),I (IntKind.i64.wrap (times+1))] 162 (0,0)):=hb1
 have g31:=fromD_mod (fromD_ne g3 g1) hm1 (fun b hb=>hb.2)
 have g41:=map_mod g4 hm1 (fun hh=>hamb hh.symm)
 have hx1:=ints_mod' hx hm1 (fun hne x hx hh=>hv hne x hx (hh ▸ g2))
 have hv1:=ints_lt1 hx
 have s1:=hm1.size
 (try simp only [go_sem,simprocAttr,cell_of hb1])
 refine wpD_cut (fun ρ w'=>∃ bo br bn bm R,ρ.get 0=some (.pointer (some ⟨a,0,none⟩))∧ρ.get 1=some (.slice va roots.length vc)∧ρ.get 5=some (.pointer (some ⟨bm,0,none⟩)) ∧
   MvAt w' bm a bo br bn ns old [] (.slice none 0 0) none∧Things w' bo br ns R∧br≠bn∧w.heap.size≤bo∧w.heap.size≤br∧w.heap.size≤bn∧w.heap.size≤bm∧Mod (fun _=>False) w1 w') ?_ ?_
 · rw [wpD_e2]
   refine ⟨?_,?_⟩
   · refine e_call (by rfl) ?_
     refine (gpassed_ok ns hw hn w1.drew a _ _ cv _ _ _ _ hb1 (fromD_from (fromD_mod g31 (⟨Nat.le_refl _,fun _ _ _=>rfl,rfl,rfl,rfl⟩:Mod (fun _=>False) w1 w1.drew) (fun _ _ h=>h)))).mono ?_
     rintro q w2 ⟨bo,br,R,rfl,hT,lo,lr,hor,hm2⟩
     have hm2:Mod (fun _=>False) w1 w2:=hm2.of_drew
     have lo:w1.heap.size≤bo:=lo
     have lr:w1.heap.size≤br:=lr
     have ka:=hm2.old a (by omega) (fun h=>h)
     (try simp only [go_sem,simprocAttr])
     refine ⟨ka,?_⟩
     refine e_mm ?_
     intro w3 hb3 hm3 hs3
     have s2:=hm2.size
     have s3:=hm3.size
     have ka2:=hm3.old a (by omega) (fun h=>h)
     (try simp only [go_sem,simprocAttr])
     refine ⟨ka2,?_⟩
     refine e_bx rfl ?_
     intro w4 hb4 hm4 hs4
     have hb4:w4.heap[w3.heap.size]? = some (.cells #[.pointer (some ⟨a,0,none⟩),.slice (some ⟨bo,0,none⟩) ns.length ns.length,.map (some br),I old,.map (some w2.heap.size),.slice none 0 0] 203 (0,0)):=hb4
     have hm34:=hm3.trans hm4
     obtain ⟨res,rc,hre,_⟩:=id hT.ring
     have lbr:=lt_of_heap hre
     exact ⟨bo,br,w2.heap.size,w3.heap.size,R,rfl,⟨hb4,hm34.at hT.of (fun h=>h),map_mod hb3 hm4 (fun h=>h),OwnS.nil _ _ _,fun h=>by cases h⟩,⟨hm34.at hT.of (fun h=>h),map_mod hT.ring hm34 (fun h=>h),hT.nd,hT.keys⟩,by omega,by omega,by omega,by omega,by omega,hm2.trans hm34⟩
   · refine e_mm ?_
     intro w2 hb2 hm2 hs2
     have hm2:Mod (fun _=>False) w1 w2:=hm2.of_drew
     have hs2:w2.heap.size=w1.heap.size+1:=hs2
     have hb2:MapAt w2 w1.heap.size []:=hb2
     have ka:=hm2.old a (by omega) (fun h=>h)
     (try simp only [go_sem,simprocAttr])
     refine ⟨by simp only [drew_heap,ka,and_self,implies_true],?_⟩
     refine e_call (by rfl) ?_
     refine (gpassed_ok ns hw hn w2 a _ _ cv _ _ _ _ (hm2.at hb1 (fun h=>h)) (fromD_from (fromD_mod g31 hm2 (fun _ _ h=>h)))).mono ?_
     rintro q w3 ⟨bo,br,R,rfl,hT,lo,lr,hor,hm3⟩
     have s3:=hm3.size
     have ka2:=hm3.old a (by omega) (fun h=>h)
     (try simp only [go_sem,simprocAttr])
     refine ⟨ka2,?_⟩
     refine e_bx rfl ?_
     intro w4 hb4 hm4 hs4
     have hb4:w4.heap[w3.heap.size]? = some (.cells #[.pointer (some ⟨a,0,none⟩),.slice (some ⟨bo,0,none⟩) ns.length ns.length,.map (some br),I old,.map (some w1.heap.size),.slice none 0 0] 203 (0,0)):=hb4
     have hm34:=hm3.trans hm4
     exact ⟨bo,br,w1.heap.size,w3.heap.size,R,rfl,⟨hb4,hm4.at hT.of (fun h=>h),map_mod hb2 hm34 (fun h=>h),OwnS.nil _ _ _,fun h=>by cases h⟩,⟨hm4.at hT.of (fun h=>h),map_mod hT.ring hm4 (fun h=>h),hT.nd,hT.keys⟩,by omega,by omega,by omega,by omega,by omega,hm2.trans hm34⟩
 rintro ρ w3 ⟨bo,br,bn,bm,R,r0,r1,r5,hmv,hT,hrn,lo,lr,lbn,lbm,hm3⟩
 (try simp only [go_sem,simprocAttr,r0,r1,r5])
 have hx3:=hx1.mod hm3 (fun _ _ h=>h)
 have s3:=hm3.size
 refine e_call (by rfl) ?_
 refine (mplaces_ok w3 _ a bo br _ ns hw hn old ho [] _ none hmv (metF_nil ns old) _ roots hx3 hok (fun hne x hx hh=>by
   have:=hv1 hne x hx
   rcases hh with hh | hh | hh
   · omega
   · omega
   · cases hh) hsm).mono ?_
 rintro q w5 ⟨vm5,fp5,fq5,hmv5,hm5,hfp5,ho5,hfq5⟩
 obtain ⟨va5,vc5,rfl,_,_⟩:=ho5.val
 have s5:=hm5.size
 have hm15:Mod (fun _=>False) w1 w5:=hm3.step hm5 (fun x hx hlt=>by
   rcases hx with hx | hx | hx
   · omega
   · omega
   · cases hx)
 have hb5:=hm15.at hb1 (fun h=>h)
 have g45:=map_mod g41 hm15 (fun h=>h)
 (try simp only [go_sem,simprocAttr,cell_of hb5])
 refine e_call (by rfl) ?_
 refine (keys_ok w5 (some mb)).mono ?_
 rintro q w6 ⟨rfl,hw6⟩
 have hb6:w6.heap[w5.heap.size]? = some (.cells #[.map (some mb)] 160 (0,0)):=by rw [hw6];exact heap_alloc_new w5 _
 have hm6:Mod (fun _=>False) w5 w6:=by rw [hw6];exact mod_alloc _ w5 _
 have s6:=hm6.size
 (try simp only [go_sem,simprocAttr])
 have hlr:=leads_range g6
 have hll:=leads_len g6
 refine e_call (by rfl) ?_
 refine (sorted_ok w6 w5.heap.size mb ld hb6 (map_mod g45 hm6 (fun h=>h)) g6.1 (fun p hp=>by
   have:=hlr p.1 (List.mem_map.2 ⟨p,hp,rfl⟩)
   omega) (by omega)).mono ?_
 rintro q w7 ⟨hm7,fpL,hoL,hfL⟩
 rw [sortedKeys_leads g6,List.length_map] at hoL
 obtain ⟨vaL,vcL,rfl,_,_⟩:=hoL.val
 have s7:=hm7.size
 have hm57:=hm6.trans hm7
 have hm17:Mod (fun _=>False) w1 w7:=hm15.trans hm57
 have hb7:=hm57.at hb5 (fun h=>h)
 have hmv7:=mv_mod hmv5 hm57 (fun h=>h) (fun h=>h) (fun h=>h) (fun _ _ h=>h)
 have g37:FromD 87 w7 cv ns (fun x=>(F x∧x≠a)∧x≠mb):=fromD_mod (fromD_ne2 g31 g41) hm17 (fun _ _ h=>h)
 have lfp5:∀ x,fp5=some x→w3.heap.size≤x∧x < w5.heap.size:=fun x hx=>by
   rcases hfp5 x hx with h | h
   · cases h
   · exact ⟨h,hmv5.met.lt hx⟩
 have hbm:=lt_of_heap hmv.cells
 have hbo:=lt_of_heap hmv.of
 have hbn:bn < w3.heap.size:=by obtain ⟨es,c,q,_⟩:=hmv.new;exact lt_of_heap q
 have hbr:br < w3.heap.size:=by obtain ⟨es,c,q,_⟩:=hT.ring;exact lt_of_heap q
 have hbrm:br≠bm:=map_ne hT.ring hmv.cells
 obtain ⟨O,hO⟩:∃ O,smallO ns old roots=O:=⟨_,rfl⟩
 obtain ⟨O1,hO1⟩:∃ O1,meetsF ns old [] roots=O1:=⟨_,rfl⟩
 have hmO1:MetF ns old O1:=hO1 ▸ metF_meets hw roots (metF_nil ns old) hok
 have hreach:reachF ns old (ns.length+1) 0 (oldMeets ns old old O1)=O:=by rw [← hO1];exact hO
 have hpreO:oldMeets ns old old O1 <+: O:=by rw [← hreach];exact reachF_pre ns old _ _ _
 rw [hO1] at hmv7
 (try simp only [go_sem,simprocAttr])
 refine ir_bthen (fun ρ w'=>∃ (vk:Value) (fk:Option Nat),MvAt w' bm a bo br bn ns old (oldMeets ns old old O1) vk fk∧FromD 87 w' cv (rewN ns old O (leadsN ns old)) (fun x=>(F x∧x≠a)∧x≠mb) ∧
     Mod (fun x=>((F x∧x≠a)∧x≠mb)∨x=bm∨x=bn∨fp5=some x) w7 w'∧(∀ x,fk=some x→fp5=some x∨w7.heap.size≤x) ∧
     ρ.get 0=some (.pointer (some ⟨a,0,none⟩))∧ρ.get 5=some (.pointer (some ⟨bm,0,none⟩))∧ρ.get 6=some (.slice va5 roots.length vc5)) ?_ ?_
 · refine ir_loop (fun m ρ w' => ∃ (k : Nat) (vk : Value) (fk : Option Nat), m = (leadsN ns old).length - k ∧ k ≤ (leadsN ns old).length ∧ MvAt w' bm a bo br bn ns old (curK ns old O1 k) vk fk ∧ FromD 87 w' cv (rewN ns old O ((leadsN ns old).take k)) (fun x => (F x ∧ x ≠ a) ∧ x ≠ mb) ∧
       Mod (fun x=>((F x∧x≠a)∧x≠mb)∨x=bm∨x=bn∨fp5=some x) w7 w'∧(∀ x,fk=some x→fp5=some x∨w7.heap.size≤x) ∧
       ρ=[(0,.pointer (some ⟨a,0,none⟩)),(5,.pointer (some ⟨bm,0,none⟩)),(6,.slice va5 roots.length vc5),(39,.slice vaL (leadsN ns old).length vcL),(40,I (leadsN ns old).length),(41,I k)]) (leadsN ns old).length
     ⟨0,_,_,rfl,Nat.zero_le _,by rw [curK_zero];exact hmv7,by rw [List.take_zero,rewN_nil];exact g37,Mod.refl _ _,(fun x hx=>.inl hx),rfl⟩ ?_
   rintro m ρ w8 ⟨k,vk,fk,rfl,hk,hmv8,g38,hm8,hfk,rfl⟩
   unfold ir161L2
   (try simp only [go_sem,simprocAttr])
   refine ir_cond rfl (fun hc=>?_) (fun hc=>?_)
   · have hk':k < (leadsN ns old).length:=by simpa using hc
     obtain ⟨p,hp⟩:∃ p,(leadsN ns old)[k]=p:=⟨_,rfl⟩
     obtain ⟨hpo,_⟩:=(mem_leadsN (ns:=ns) (old:=old)).1 (hp ▸ List.getElem_mem hk')
     have hpn:p < ns.length:=by omega
     have hpk:p∉(leadsN ns old).take k:=fun hh=>by
       obtain ⟨j,hj,hje⟩:=List.getElem_of_mem hh
       rw [List.getElem_take] at hje
       have hnd:(leadsN ns old).Nodup:=(List.nodup_range (n:=old)).sublist List.filter_sublist
       rw [List.length_take] at hj
       have:=(List.getElem_inj hnd (h₀:=by omega) (h₁:=hk')).1 (hje.trans hp.symm)
       omega
     have hoL8:=hoL.mod hm8 (fun x hx hh=>by
       have h1:=hfL x hx
       rcases hh with hh | hh | hh | hh
       · have:=hFl x hh.1.1;omega
       · omega
       · omega
       · have:=lfp5 x hh;omega)
     obtain ⟨bw,cw,ew,tw⟩:=own_at' hoL8 hk' (u:=I (p:Nat)) (by simp [hk',hp])
     simp only [Value.slice.injEq] at ew
     obtain ⟨rfl,_,rfl⟩:=ew
     have hb8:=hm8.at hb7 (fun hh=>by
       rcases hh with hh | hh | hh | hh
       · exact hh.1.2 rfl
       · omega
       · omega
       · have:=lfp5 a hh;omega)
     obtain ⟨b,c,v8,fpv,hfoc⟩:=foc_of g38 (p:=p) (by rw [rewN_len];exact hpn)
     obtain ⟨ecv,hFb,d0,d1,d2,oo,hfpv⟩:=foc_cells hfoc
     subst ecv
     rw [rewN_at _ _ _ _ hpn,if_neg hpk] at d0 d1 oo
     rw [rewN_len] at hb8 hb7
     obtain ⟨va8,vc8,rfl,_,_⟩:=oo.val
     have b1:(0:Int)≤k∧(k:Int) < (leadsN ns old).length:=by omega
     have b2:(0:Int)≤(p:Nat)∧((p:Nat):Int) < ns.length:=by omega
     (try simp only [go_sem,simprocAttr,zb4,zb6,b1,tw,cell_of hb8,b2,d2])
     have hset0:rewN ns old O ((leadsN ns old).take k)=(rewN ns old O ((leadsN ns old).take k)).set p ⟨(ndAt ns p).kind,(ndAt ns p).num,halfA ns old O (ndAt ns p).args 0⟩:=by
       refine nd_ext (by rw [List.length_set]) (fun i hi=>?_)
       rw [ndAt_set' _ _ _ _ (by rw [rewN_len];exact hpn)]
       split
       · rename_i hh;subst hh
         rw [rewN_at _ _ _ _ hpn,if_neg hpk,halfA_zero]
       · rfl
     have hfoc0:Foc w8 (.slice (some ⟨b,0,none⟩) (rewN ns old O ((leadsN ns old).take k)).length c) ((rewN ns old O ((leadsN ns old).take k)).set p ⟨(ndAt ns p).kind,(ndAt ns p).num,halfA ns old O (ndAt ns p).args 0⟩) (fun x=>(F x∧x≠a)∧x≠mb) p b c (.slice va8 (ndAt ns p).args.length vc8) fpv:=by rw [← hset0];exact hfoc
     have hLl:=leadsN_len ns old
     have hpre1:curK ns old O1 (k+1) <+: O:=(curK_pre ns old O1 hk').trans hpreO
     have hwk:IntKind.i64.wrap ((k:Int)+1)=((k+1:Nat):Int):=by rw [wrap_in]<;>omega
     have hpl:=(wf_at hw hpn).2
     have hal:=hargs _ (show ndAt ns p∈ns by simp [ndAt,hpn])
     have hmk0:=curK_met hw ho hmO1 k hk
     refine ir_bbthen (fun ρ w'=>∃ (vk:Value) (fk:Option Nat),MvAt w' bm a bo br bn ns old (curK ns old O1 (k+1)) vk fk∧FromD 87 w' (.slice (some ⟨b,0,none⟩) (rewN ns old O ((leadsN ns old).take k)).length c) (rewN ns old O ((leadsN ns old).take (k+1))) (fun x=>(F x∧x≠a)∧x≠mb) ∧
         Mod (fun x=>((F x∧x≠a)∧x≠mb)∨x=bm∨x=bn∨fp5=some x) w7 w'∧(∀ x,fk=some x→fp5=some x∨w7.heap.size≤x) ∧
         ρ.get 0=some (.pointer (some ⟨a,0,none⟩))∧ρ.get 5=some (.pointer (some ⟨bm,0,none⟩))∧ρ.get 6=some (.slice va5 roots.length vc5)∧ρ.get 39=some (.slice (some ⟨bw,0,none⟩) (leadsN ns old).length vcL)∧ρ.get 40=some (I (leadsN ns old).length)∧ρ.get 41=some (I k)) ?_ ?_
     · refine ir_loop (fun m ρ w' => ∃ (i : Nat) (vk : Value) (fk : Option Nat), m = (ndAt ns p).args.length - i ∧ i ≤ (ndAt ns p).args.length ∧ MvAt w' bm a bo br bn ns old (meetsF ns old (curK ns old O1 k) (((ndAt ns p).args.take i).filter (isY old))) vk fk ∧
           Foc w' (.slice (some ⟨b,0,none⟩) (rewN ns old O ((leadsN ns old).take k)).length c) ((rewN ns old O ((leadsN ns old).take k)).set p ⟨(ndAt ns p).kind,(ndAt ns p).num,halfA ns old O (ndAt ns p).args i⟩) (fun x=>(F x∧x≠a)∧x≠mb) p b c (.slice va8 (ndAt ns p).args.length vc8) fpv ∧
           Mod (fun x=>((F x∧x≠a)∧x≠mb)∨x=bm∨x=bn∨fp5=some x) w7 w'∧(∀ x,fk=some x→fp5=some x∨w7.heap.size≤x) ∧
           ρ=[(0,.pointer (some ⟨a,0,none⟩)),(5,.pointer (some ⟨bm,0,none⟩)),(6,.slice va5 roots.length vc5),(9,.pointer (some ⟨b,p*3,none⟩)),(39,.slice (some ⟨bw,0,none⟩) (leadsN ns old).length vcL),(40,I (leadsN ns old).length),(41,I k),(54,.slice va8 (ndAt ns p).args.length vc8),(55,I (ndAt ns p).args.length),(56,I i)]) (ndAt ns p).args.length
         ⟨0,_,_,rfl,Nat.zero_le _,by simpa [meetsF] using hmv8,hfoc0,hm8,hfk,rfl⟩ ?_
       rintro m ρ w9 ⟨i,vk9,fk9,rfl,hi,hmv9,hfoc9,hm9,hfk9,rfl⟩
       unfold ir161L1
       (try simp only [go_sem,simprocAttr])
       refine ir_cond rfl (fun hc2=>?_) (fun hc2=>?_)
       · have hi':i < (ndAt ns p).args.length:=by simpa using hc2
         obtain ⟨q,hq⟩:∃ q,(ndAt ns p).args[i]=q:=⟨_,rfl⟩
         have hqp:=List.all_eq_true.1 hpl q (by rw [← hq];exact List.getElem_mem hi')
         simp only [Bool.and_eq_true,decide_eq_true_eq] at hqp
         obtain ⟨_,_,e0,e1,e2,oo9,hfpv9⟩:=foc_cells hfoc9
         rw [ndAt_set' _ _ _ _ (by rw [rewN_len];exact hpn),if_pos rfl] at oo9
         have hhl:=halfA_len ns old O (ndAt ns p).args i (by omega)
         simp only [hhl] at oo9
         obtain ⟨bv,cvv,cs,ev,efp,hbv,hilt,hcs,hset⟩:=own_set oo9 hi'
         simp only [Value.slice.injEq] at ev
         obtain ⟨rfl,_,rfl⟩:=ev
         have hci:cs[i]? = some (I q):=hcs i q (by rw [halfA_at _ _ _ _ hi',hq])
         have hcell:w9.cell? ⟨bv,i,none⟩=some (I q):=by rw [cell_of hbv,List.getElem?_toArray];exact hci
         have b3:(0:Int)≤i∧(i:Int) < (ndAt ns p).args.length:=by omega
         have hwi:IntKind.i64.wrap ((i:Int)+1)=((i+1:Nat):Int):=by rw [wrap_in]<;>omega
         have hb9:=hm9.at hb7 (fun hh=>by
           rcases hh with hh | hh | hh | hh
           · exact hh.1.2 rfl
           · omega
           · omega
           · have:=lfp5 a hh;omega)
         have hcs1:=curK_succ ns old O1 hk'
         rw [hp] at hcs1
         rw [hcs1] at hpre1
         have hlfk:∀ x,fk9=some x→w3.heap.size≤x:=fun x hx=>by
           rcases hfk9 x hx with h | h
           · exact (lfp5 x h).1
           · omega
         have hfpv3:∀ x,fpv=some x→x < w.heap.size:=fun x hx=>hFl x (hfpv9 x hx).1.1.1
         have hFb':b < w.heap.size:=hFl b hFb.1.1
         (try simp only [go_sem,simprocAttr,zb4,zb6,b3,hcell,cell_of hb9])
         refine ir_cond rfl (fun hc3=>?_) (fun hc3=>?_)
         · have hy:isY old q=true:=by simpa [isY] using hc3
           obtain ⟨pq,rfl⟩:∃ pq:Nat,q=pq:=⟨q.toNat,by omega⟩
           (try simp only [go_sem,simprocAttr,zb4,zb6,b3,e2])
           have hmk:=metF_meets hw (((ndAt ns p).args.take i).filter (isY old)) hmk0 (okPl_filter (by
             rw [okPl,List.all_eq_true] at hpl ⊢
             exact fun x hx=>hpl x (List.mem_of_mem_take hx)) _)
           have hnext:meetsF ns old (curK ns old O1 k) (((ndAt ns p).args.take (i+1)).filter (isY old))=meetF ns old (meetsF ns old (curK ns old O1 k) (((ndAt ns p).args.take i).filter (isY old))) pq:=by
             rw [filter_take hi',hq,hy,if_pos rfl,meetsF_app]
             rfl
           refine e_call (by rfl) ?_
           have hwd:Mod (fun _=>False) w9 w9.drew:=⟨Nat.le_refl _,fun _ _ _=>rfl,rfl,rfl,rfl⟩
           refine (place_ok w9.drew bm a bo br bn ns hw hn old ho _ vk9 fk9 (mv_mod hmv9 hwd (fun h=>h) (fun h=>h) (fun h=>h) (fun _ _ h=>h)) hmk pq (by omega)).mono ?_
           rintro r w10 ⟨rfl,vk10,fk10,hmv10,hm10,hfk10⟩
           have hm10:Mod (fun x=>x=bm∨x=bn∨fk9=some x) w9 w10:=hm10.of_drew
           have hfk10:∀ x,fk10=some x→fk9=some x∨w9.heap.size≤x:=hfk10
           have hk10:w10.heap[b]? = w9.heap[b]?:=hm10.old b (World.block_lt_of_cell? w9 _ e2) (fun hh=>by
             rcases hh with hh | hh | hh
             · omega
             · omega
             · have:=hlfk b hh;omega)
           have s10:=hm10.size
           have s9:=hm9.size
           (try simp only [go_sem,simprocAttr])
           refine ⟨hk10,?_⟩
           have hnb:∀ x,x < w.heap.size→¬ (x=bm∨x=bn∨fk9=some x):=fun x hx hh=>by
             rcases hh with hh | hh | hh
             · omega
             · omega
             · have:=hlfk x hh;omega
           have hfoc10:=foc_mod hfoc9 hm10 (fun x hx=>hnb x (hFl x hx.1.1))
           have lbv:=hfpv3 bv efp
           have hbv10:=hm10.at hbv (hnb bv lbv)
           refine e_st1 (off:=i) rfl rfl hbv10 rfl hilt ?_
           intro w11 hb11 hm11 hs11
           have hnum:numF ns old (meetF ns old (meetsF ns old (curK ns old O1 k) (((ndAt ns p).args.take i).filter (isY old))) pq) pq=numF ns old O pq:=by
             refine (numF_pre ?_ (metF_in ns old _ pq)).symm
             rw [← hnext]
             exact (half_pre ns old _ _ _).trans hpre1
           rw [hnum] at hb11
           have ho11:=hset w11 _ hb11
           have hw11:=foc_write hfoc10 (args':=halfA ns old O (ndAt ns p).args (i+1)) (hm11.weak (fun x hx=>by rw [efp,hx])) (by
             rw [halfA_len ns old O _ _ (by omega)]
             have e:=halfA_set ns old O (ndAt ns p).args hi'
             rw [hq,hy,if_pos rfl] at e
             rw [← e]
             exact ho11)
           rw [ndAt_set' _ _ _ _ (by rw [rewN_len];exact hpn),if_pos rfl,List.set_set] at hw11
           (try simp only [go_sem,simprocAttr,hwi])
           have hfk10':∀ x,fk10=some x→fp5=some x∨w7.heap.size≤x:=fun x hx=>by
             rcases hfk10 x hx with h | h
             · exact hfk9 x h
             · exact .inr (by omega)
           refine ⟨_,?_,i+1,vk10,fk10,rfl,hi',?_,hw11,(hm9.step hm10 (fun x hx hlt=>?_)).step hm11 (fun x hx _=>?_),hfk10',rfl⟩
           · omega
           · rw [hnext]
             exact mv_mod hmv10 hm11 (by omega) (by omega) (by omega) (fun x hx hh=>by
               rcases hfk10' x hx with h | h
               · have:=lfp5 x h;omega
               · omega)
           · rcases hx with hx | hx | hx
             · exact .inr (.inl hx)
             · exact .inr (.inr (.inl hx))
             · rcases hfk9 x hx with h | h
               · exact .inr (.inr (.inr h))
               · omega
           · subst hx
             exact .inl (hfpv9 _ efp).1
         · have hy:isY old q=false:=by simpa [isY] using hc3
           (try simp only [go_sem,simprocAttr,hwi])
           refine ⟨_,?_,i+1,vk9,fk9,rfl,hi',?_,?_,hm9,hfk9,rfl⟩
           · omega
           · rw [filter_take hi',hq,hy]
             simpa using hmv9
           · rw [halfA_same _ _ _ _ hi' (by rw [hq];exact hy)]
             exact hfoc9
       · have hi':i=(ndAt ns p).args.length:=by simp at hc2;omega
         subst hi'
         rw [List.take_length] at hmv9
         have hcs:=curK_succ ns old O1 hk'
         rw [hp] at hcs
         rw [← hcs] at hmv9
         have hset1:(rewN ns old O ((leadsN ns old).take k)).set p ⟨(ndAt ns p).kind,(ndAt ns p).num,halfA ns old O (ndAt ns p).args (ndAt ns p).args.length⟩=rewN ns old O ((leadsN ns old).take (k+1)):=by
           rw [halfA_full,List.take_succ_eq_append_getElem hk',hp,rewN_snoc _ _ _ _ hpn]
         rw [hset1] at hfoc9
         (try simp only [go_sem,simprocAttr])
         exact ⟨vk9,fk9,hmv9,foc_from hfoc9,hm9,hfk9⟩
     rintro ρ w9 ⟨vk9,fk9,hmv9,g39,hm9,hfk9,r0,r5,r6,r39,r40,r41⟩
     (try simp only [go_sem,simprocAttr,r0,r5,r6,r39,r40,r41,hwk])
     exact ⟨_,by omega,k+1,vk9,fk9,rfl,hk',hmv9,g39,hm9,hfk9,rfl⟩
   · have hk':k=(leadsN ns old).length:=by simp at hc;omega
     subst hk'
     rw [List.take_length] at g38
     rw [curK_all] at hmv8
     (try simp only [go_sem,simprocAttr])
     exact ⟨vk,fk,hmv8,g38,hm8,hfk⟩
 rintro ρ w8 ⟨vk,fk,hmv8,g38,hm8,hfk,r0,r5,r6⟩
 have hb8:=hm8.at hb7 (fun hh=>by
   rcases hh with hh | hh | hh | hh
   · exact hh.1.2 rfl
   · omega
   · omega
   · have:=lfp5 a hh;omega)
 have hbo':bo≠bm:=fun hh=>by
   have h:=hmv.of
   rw [hh] at h
   exact kind_ne h hmv.cells (by decide)
 have hring7:MapAt w7 br R:=by
   have h5:MapAt w5 br R:=map_mod hT.ring hm5 (fun hh=>by
     rcases hh with hh | hh | hh
     · exact hbrm hh
     · exact hrn hh
     · cases hh)
   exact map_mod h5 hm57 (fun h=>h)
 have hring8:MapAt w8 br R:=map_mod hring7 hm8 (fun hh=>by
   rcases hh with hh | hh | hh | hh
   · have:=hFl br hh.1.1;omega
   · exact hbrm hh
   · exact hrn hh
   · have:=lfp5 br hh;omega)
 have s8:=hm8.size
 (try simp only [go_sem,simprocAttr,r0,r5,r6,cell_of hmv8.cells])
 refine e_rg (t:=160) (kt:=3) (et:=3) rfl Tryz.underlying160 hring8 ?_
 intro w9 hit9 hm9 hs9
 have s9:=hm9.size
 have hmv9:=mv_mod hmv8 hm9 (fun h=>h) (fun h=>h) (fun h=>h) (fun _ _ h=>h)
 have g39:=fromD_mod g38 hm9 (fun _ _ h=>h)
 have hb9:=hm9.at hb8 (fun h=>h)
 have hlfk:∀ x,fk=some x→w3.heap.size≤x:=fun x hx=>by
   rcases hfk x hx with h | h
   · exact (lfp5 x h).1
   · omega
 have hlfk8:∀ x,fk=some x→x < w8.heap.size:=fun x hx=>hmv8.met.lt hx
 (try simp only [go_sem,simprocAttr])
 refine ir_bthen (fun ρ w'=>FromD 87 w' cv (ringN ns (rewN ns old O (leadsN ns old)) old [] R) (fun x=>(F x∧x≠a)∧x≠mb) ∧
     Mod (fun x=>((F x∧x≠a)∧x≠mb)∨x=w8.heap.size) w9 w' ∧
     ρ.get 0=some (.pointer (some ⟨a,0,none⟩))∧ρ.get 5=some (.pointer (some ⟨bm,0,none⟩))∧ρ.get 6=some (.slice va5 roots.length vc5)) ?_ ?_
 · refine ir_loop (fun m ρ w' => ∃ left : List (Int × Int), m = left.length ∧ (left.map (fun q => q.1)).Nodup ∧ (∀ q ∈ left, q ∈ R) ∧ ItAt w' w8.heap.size br R left ∧ FromD 87 w' cv (ringN ns (rewN ns old O (leadsN ns old)) old left R) (fun x => (F x ∧ x ≠ a) ∧ x ≠ mb) ∧
       Mod (fun x=>((F x∧x≠a)∧x≠mb)∨x=w8.heap.size) w9 w' ∧
       ρ.get 0=some (.pointer (some ⟨a,0,none⟩))∧ρ.get 5=some (.pointer (some ⟨bm,0,none⟩))∧ρ.get 6=some (.slice va5 roots.length vc5)∧ρ.get 83=some (.pointer (some ⟨w8.heap.size,0,none⟩))) R.length
     ⟨R,rfl,hT.nd,(fun _ h=>h),hit9,by rw [ringN_all _ _ (rewN_len _ _ _ _)];exact g39,Mod.refl _ _,rfl,rfl,rfl,rfl⟩ ?_
   rintro m ρ w10 ⟨left,rfl,hnd,hsub,hit,g310,hm10,r0,r5,r6,r83⟩
   unfold ir161L3
   (try simp only [go_sem,simprocAttr,r0,r5,r6,r83])
   refine e_nx r83 hit (by omega) (fun hl=>?_) (fun i hi w11 hit11 hcur hm11 hs11=>?_)
   · subst hl
     (try simp only [go_sem,simprocAttr])
     exact ⟨g310,hm10⟩
   · (try simp only [go_sem,simprocAttr])
     refine e_en rfl hcur ?_
     have s10:=hm10.size
     have hmemR:=hsub _ (List.getElem_mem hi)
     obtain ⟨j,hj,hkj,hind⟩:=(hT.keys left[i].1).1 (List.mem_map.2 ⟨_,hmemR,rfl⟩)
     obtain ⟨p,hp⟩:∃ p,over ns j=p:=⟨_,rfl⟩
     rw [hp] at hkj hind
     have hpn:p < ns.length:=hp ▸ ov_lt (wf_nxt_lt hw) hj
     have hov:over ns p=p:=by rw [← hp];exact ov_ov (wf_nxt_lt hw) hj
     have hR:(p:Int)∈R.map (fun q=>q.1):=by rw [← hkj];exact List.mem_map.2 ⟨_,hmemR,rfl⟩
     have hstep:=ringN_step (ns:=ns) (l:=rewN ns old O (leadsN ns old)) (old:=old) (R:=R) hnd hi hkj hR hpn
     have hm11':Mod (fun x=>((F x∧x≠a)∧x≠mb)∨x=w8.heap.size) w9 w11:=hm10.step hm11 (fun x hx _=>.inr hx)
     have hnd':=(left_erase hnd hi).1
     have hsub':∀ q∈left.eraseIdx i,q∈R:=fun q hq=>hsub q (List.mem_of_mem_eraseIdx hq)
     have hlen':(left.eraseIdx i).length < left.length:=by rw [List.length_eraseIdx,if_pos hi];omega
     have hb11:=hm11'.at hb9 (fun hh=>by
       rcases hh with hh | hh
       · exact hh.1.2 rfl
       · omega)
     have g311:=fromD_mod g310 hm11 (fun x hx hh=>by have:=hFl x hx.1.1;omega)
     (try simp only [go_sem,simprocAttr,cell_of hb11,hkj])
     refine ir_cond rfl (fun hc=>?_) (fun hc=>?_)
     · have hpo:p < old:=by simpa using hc
       rw [if_pos hpo] at hstep
       obtain ⟨b,c,v8,fpv,hfoc⟩:=foc_of g311 (p:=p) (by rw [ringN_len];exact hpn)
       obtain ⟨ecv,hFb,d0,d1,d2,oo,hfpv⟩:=foc_cells hfoc
       rw [ringN_len] at ecv
       subst ecv
       have hnl:(p:Int)∈left.map (fun q=>q.1):=by rw [← hkj];exact List.mem_map.2 ⟨_,List.getElem_mem hi,rfl⟩
       have hndp:ndAt (ringN ns (rewN ns old O (leadsN ns old)) old left R) p=ndAt (rewN ns old O (leadsN ns old)) p:=by
         rw [ringN_at _ _ _ _ _ hpn,if_neg (fun hh=>hh.2.2 hnl)]
       have hk5:(ndAt ns p).kind=5:=by simpa [ind] using hind
       have hm5':=(wf_at hw hpn).1
       simp only [Nd.may,mayB,hk5,decide_eq_true_eq] at hm5'
       have hal1:(ndAt ns p).args.length=1:=by omega
       have hrw:(ndAt (rewN ns old O (leadsN ns old)) p).args.length=1∧(ndAt (rewN ns old O (leadsN ns old)) p).kind=(ndAt ns p).kind∧(ndAt (rewN ns old O (leadsN ns old)) p).num=(ndAt ns p).num:=by
         rw [rewN_at _ _ _ _ hpn]
         split
         · exact ⟨by simp [oldArgs,hal1],rfl,rfl⟩
         · exact ⟨hal1,rfl,rfl⟩
       rw [hndp] at oo d0 d1
       rw [hrw.1] at oo
       obtain ⟨bv,cvv,cs,rfl,efp,hbv,hilt,hcs,hset⟩:=own_set oo (i:=0) (by omega)
       have b2:(0:Int)≤(p:Nat)∧((p:Nat):Int) < ns.length:=by omega
       have b3:(0:Int)≤0∧(0:Int) < ((1:Nat):Int):=by omega
       (try simp only [go_sem,simprocAttr,zb4,zb6,cell_of hb11,b2,d2,b3])
       refine e_st1 (off:=0) rfl rfl hbv rfl hilt ?_
       intro w12 hb12 hm12 hs12
       have ho12:=hset w12 _ hb12
       have e1:(ndAt (rewN ns old O (leadsN ns old)) p).args.set 0 (p:Int)=[(p:Int)]:=by
         have:=hrw.1
         match h:(ndAt (rewN ns old O (leadsN ns old)) p).args with
         | [x]=>rfl
         | []=>rw [h] at this;simp at this
         | x::y::l=>rw [h] at this;simp at this
       rw [e1] at ho12
       have hw12:=foc_write hfoc (args':=[(p:Int)]) (hm12.weak (fun x hx=>by rw [efp,hx])) ho12
       rw [hndp,hrw.2.1,hrw.2.2,← hstep] at hw12
       have hFbv:=hfpv bv efp
       have lbv:=hFl bv hFbv.1.1.1
       (try simp only [go_sem,simprocAttr])
       refine ⟨_,hlen',left.eraseIdx i,rfl,hnd',hsub',it_mod hit11 hm12 (by omega) (by omega),?_,hm11'.step hm12 (fun x hx _=>.inl (hx ▸ hFbv.1))⟩
       have:=foc_from hw12
       exact this
     · have hpo:¬ p < old:=by simpa using hc
       rw [if_neg hpo] at hstep
       (try simp only [go_sem,simprocAttr])
       refine ⟨_,hlen',left.eraseIdx i,rfl,hnd',hsub',hit11,?_,hm11'⟩
       rw [hstep];exact g311
 rintro ρ w10 ⟨g310,hm10,r0,r5,r6⟩
 have s10:=hm10.size
 have hb10:=hm10.at hb9 (fun hh=>by
   rcases hh with hh | hh
   · exact hh.1.2 rfl
   · omega)
 have hmv10:=mv_mod hmv9 hm10 (fun hh=>by
   rcases hh with hh | hh
   · have:=hFl _ hh.1.1;omega
   · omega) (fun hh=>by
   rcases hh with hh | hh
   · have:=hFl _ hh.1.1;omega
   · omega) (fun hh=>by
   rcases hh with hh | hh
   · have:=hFl _ hh.1.1;omega
   · omega) (fun x hx hh=>by
   have h1:=hlfk x hx
   have h2:=hlfk8 x hx
   rcases hh with hh | hh
   · have:=hFl _ hh.1.1;omega
   · omega)
 have hmO2:=metF_old hw ho hmO1 old (Nat.le_refl _)
 (try simp only [go_sem,simprocAttr,r0,r5,r6])
 refine e_call (show evs ρ [.t 5]=some [.pointer (some ⟨bm,0,none⟩)] from by simp only [evs,W.O.ev,r5]) ?_
 refine (moved_ok w10 bm a bo br bn ns (ringN ns (rewN ns old O (leadsN ns old)) old [] R) hw hn old ho _ vk fk hmv10 hmO2 _ _ _ _ _ _ _ hb10 (fromD_from g310) (ringN_len _ _ _ _ _) (ringN_args hargs O R) (fun x h1 h2=>ringN_young O R h1 h2) (fun x hx hh=>by
   have:=hFl x hx.1.1
   rcases hh with hh | hh | hh
   · omega
   · omega
   · have:=hlfk x hh;omega)).mono ?_
 rintro q w11 ⟨vm11,fp11,fq11,ps,fps,hmv11,hm11,ho11,hfq11,had11,hps11⟩
 rw [hreach] at hmv11 ho11 hps11
 have hS11:∀ x,x < w3.heap.size→x≠bm→x≠bn→¬ (x=bm∨x=bn∨fk=some x):=fun x h1 h2 h3 hh=>by
   rcases hh with hh | hh | hh
   · exact h2 hh
   · exact h3 hh
   · have:=hlfk x hh;omega
 have s11:=hm11.size
 have hb11:=hm11.at hb10 (hS11 a (by omega) (by omega) (by omega))
 have g311:=fromD_mod g310 hm11 (fun x hx=>by have:=hFl x hx.1.1;exact hS11 x (by omega) (by omega) (by omega))
 obtain ⟨fpc,qs,fqs,c1,c2,c3,c4,c5⟩:=g311
 have hnl:(ringN ns (rewN ns old O (leadsN ns old)) old [] R).length=ns.length:=ringN_len _ _ _ _ _
 rw [hnl] at c1
 obtain ⟨ca,cc,rfl,hcc,_⟩:=c1.val
 obtain ⟨va11,vc11,rfl,_,hva11⟩:=ho11.val
 have b4:(0:Int)≤old∧(old:Int)≤cc:=by omega
 have b5:(0:Int)≤old∧(old:Int)≤old:=by omega
 have ecv:(if old=0 then ca else Option.map (fun x=>x) ca)=ca:=by split<;>simp
 (try simp only [go_sem,simprocAttr,zb4,zb6,cell_of hb11,b4,b5,ecv])
 have hwd:Mod (fun _=>False) w11 w11.drew:=⟨Nat.le_refl _,fun _ _ _=>rfl,rfl,rfl,rfl⟩
 have hqs:qs.length=ns.length:=by rw [← hnl,← c4];simp
 have c1d:=(own_take' c1 ho).mod hwd (fun _ _ h=>h)
 have ho11d:=ho11.mod hwd (fun _ _ h=>h)
 have hsmall:=small_met hw ho hok
 rw [hO] at hsmall
 have hlen:=metF_len' hsmall.1 ho
 refine e_ap (m:=O.length) (news:=flat ps) rfl c1d rfl (fun h=>(hva11 h).1) ho11d.rd (flat_cells had11) rfl (by omega) (by omega) ?_
 intro v12 w12 fp12 ho12 hm12 hf12
 have hm12:Mod (fun x=>fpc=some x) w11 w12:=hm12.of_drew
 have hf12:∀ x,fp12=some x→fpc=some x∨x=w11.heap.size∧x < w12.heap.size:=hf12
 obtain ⟨va12,vc12,rfl,_,_⟩:=ho12.val
 have hca:fpc≠some a:=own_ne c1 hb11 (by decide)
 have hb12:=hm12.at hb11 hca
 have s12:=hm12.size
 (try simp only [go_sem,simprocAttr])
 refine e_st1 (off:=2) rfl rfl hb12 rfl (by simp) ?_
 intro w13 hb13 hm13 hs13
 have hb13:w13.heap[a]? = some (.cells #[I size,I young,.slice va12 (old+O.length) vc12,I old,.map (some mb),I (IntKind.i64.wrap (times+1))] 162 (0,0)):=hb13
 (try simp only [go_sem,simprocAttr,cell_of hb13])
 refine e_st1 (off:=3) rfl rfl hb13 rfl (by simp) ?_
 intro w14 hb14 hm14 hs14
 have hb14:w14.heap[a]? = some (.cells #[I size,I young,.slice va12 (old+O.length) vc12,I (old+O.length:Nat),.map (some mb),I (IntKind.i64.wrap (times+1))] 162 (0,0)):=hb14
 have hne8:∀ x,x < w3.heap.size→x≠bm→x≠bn→¬ ((F x∧x≠a)∧x≠mb)→¬ (((F x∧x≠a)∧x≠mb)∨x=bm∨x=bn∨fp5=some x):=fun x h1 h2 h3 h4 hh=>by
   rcases hh with hh | hh | hh | hh
   · exact h4 hh
   · exact h2 hh
   · exact h3 hh
   · have:=lfp5 x hh;omega
 have g411:MapAt w11 mb ld:=map_mod (map_mod (map_mod (map_mod (map_mod g45 hm57 (fun h=>h)) hm8 (hne8 mb (by omega) (by omega) (by omega) (fun hh=>hh.2 rfl))) hm9 (fun h=>h)) hm10 (fun hh=>by
   rcases hh with hh | hh
   · exact hh.2 rfl
   · omega)) hm11 (hS11 mb (by omega) (by omega) (by omega))
 have hfpcm:∀ x,fpc=some x→mb≠x:=fun x hx=>by
   obtain ⟨cs,hc⟩:=own_cells c1 hx
   exact map_ne g411 hc
 have g414:MapAt w14 mb ld:=map_mod (map_mod (map_mod g411 hm12 (fun hh=>hfpcm mb hh rfl)) hm13 (fun hh=>hamb hh.symm)) hm14 (fun hh=>hamb hh.symm)
 (try simp only [go_sem,simprocAttr,cell_of hb14])
 refine e_cl (t:=160) (kt:=3) (et:=3) rfl rfl Tryz.underlying160 g414 ?_
 intro w15 hb15 hm15' hs15
 have hb155:=hm15'.at hb14 hamb
 have hmt:Mod (fun x=>F x) w11 w15:=(((hm12.weak (S':=fun x=>F x) (fun x hx=>(c2 x hx).1.1)).step hm13 (fun x hx _=>hx ▸ g2)).step hm14 (fun x hx _=>hx ▸ g2)).step hm15' (fun x hx _=>hx ▸ g5)
 have hm811:Mod (fun x=>F x∨w.heap.size≤x) w7 w11:=((((hm8.weak (S':=fun x=>F x∨w.heap.size≤x) (fun x hx=>by
   rcases hx with hx | hx | hx | hx
   · exact .inl hx.1.1
   · exact .inr (by omega)
   · exact .inr (by omega)
   · have:=lfp5 x hx;exact .inr (by omega)))).step hm9 (fun _ h _=>h.elim)).step hm10 (fun x hx _=>by
   rcases hx with hx | hx
   · exact .inl hx.1.1
   · exact .inr (by omega))).step hm11 (fun x hx _=>by
   rcases hx with hx | hx | hx
   · exact .inr (by omega)
   · exact .inr (by omega)
   · have:=hlfk x hx;exact .inr (by omega))
 have hmF:Mod F w w15:=((((hm1.weak (S':=fun x=>F x) (fun x hx=>hx ▸ g2)).step hm17 (fun _ h _=>h.elim)).step hm811 (fun x hx hlt=>hx.elim (fun h=>h) (fun h=>by omega)))).step hmt (fun x hx _=>hx)
 have ho515:OwnS w15 3 1 (.slice va5 roots.length vc5) ((roots.map (numF ns old O)).map I) roots.length fq5:=by
   have e:roots.map (numF ns old (meetsF ns old [] roots))=roots.map (numF ns old O):=by
     apply List.map_congr_left
     intro y hy
     refine (numF_pre ?_ (meetsF_in ns old _ _ y hy)).symm
     rw [hO1]
     exact (oldMeets_pre ns old old O1).trans hpreO
   rw [← e]
   have hq:∀ x,fq5=some x→w3.heap.size≤x∧fp5≠some x∧x < w5.heap.size:=fun x hx=>⟨(hfq5 x hx).1,(hfq5 x hx).2,ho5.lt hx⟩
   refine (((((ho5.mod hm57 (fun _ _ h=>h)).mod hm8 (fun x hx hh=>?_)).mod hm9 (fun _ _ h=>h)).mod hm10 (fun x hx hh=>?_)).mod hm11 (fun x hx hh=>?_)).mod hmt (fun x hx hh=>?_)
   · have:=hq x hx
     rcases hh with hh | hh | hh | hh
     · have:=hFl x hh.1.1;omega
     · omega
     · omega
     · exact this.2.1 hh
   · have:=hq x hx
     rcases hh with hh | hh
     · have:=hFl x hh.1.1;omega
     · omega
   · have:=hq x hx
     rcases hh with hh | hh | hh
     · omega
     · omega
     · rcases hfk x hh with h | h
       · exact this.2.1 h
       · omega
   · have:=hq x hx
     have:=hFl x hh;omega
 have hlen2:(smallNs ns old roots).length=old+O.length:=by rw [small_length,hO]
 have hroots:smallRoots ns old roots=roots.map (numF ns old O):=by unfold smallRoots;rw [hO]
 have hqt:(qs.take old).length=old:=by rw [List.length_take];omega
 have hns:smallNs ns old roots=(qs.take old++ps).map Prod.fst:=by
   unfold smallNs
   rw [hO,List.map_append,hps11,List.map_take,c4,ringN_old hw ho O hT]
 have hfps:∀ j x,j < ps.length→fps j=some x→w10.heap.size≤x∧x < w11.heap.size:=fun j x hj hx=>⟨(had11.1 j hj).2 x hx,(had11.1 j hj).1.lt hx⟩
 have hfqs:∀ j x,j < qs.length→fqs j=some x→F x∧x≠a∧x≠mb:=fun j x hj hx=>⟨((c3.1 j hj).2 x hx).1.1,((c3.1 j hj).2 x hx).1.2,((c3.1 j hj).2 x hx).2⟩
 refine ⟨fq5,fun x=>F x∨fp12=some x∨∃ j,j < ps.length∧fps j=some x,?_,?_,⟨hmF,fun x hx=>?_⟩,fun x hx=>?_⟩
 · rw [hroots];exact ho515
 · rw [hlen2]
   refine ⟨_,mb,[],hb155,.inl g2,⟨fp12,qs.take old++ps,_,?_,fun x hx=>.inr (.inl hx),argsD_join (argsD_take (fp:=fqs) ?_ old) (fq:=fps) ?_ (fun i j x hi hj h1 h2=>?_),hns.symm,fun x hx=>?_⟩,hb15,.inl g5,?_⟩
   · rw [flat_app,hlen2]
     exact ((ho12.mod hm13 (fun x hx hh=>own_ne ho12 hb12 (by decide) (by rw [hx,hh]))).mod hm14 (fun x hx hh=>own_ne ho12 hb12 (by decide) (by rw [hx,hh]))).mod hm15' (fun x hx hh=>by
       rcases hf12 x hx with h | h
       · exact hfpcm x h hh.symm
       · omega)
   · have h1:=argsD_mod c3 hm12 (fun i x hi hx hh=>own_apart (c3.1 i hi).1 c1 (by decide) hx hh)
     have h2:=argsD_mod h1 hm13 (fun i x hi hx hh=>(hfqs i x hi hx).2.1 hh)
     have h3:=argsD_mod h2 hm14 (fun i x hi hx hh=>(hfqs i x hi hx).2.1 hh)
     have h4:=argsD_mod h3 hm15' (fun i x hi hx hh=>(hfqs i x hi hx).2.2 hh)
     exact argsD_weak h4 (fun x hx=>.inl hx.1.1)
   · have h1:=argsD_mod had11 hm12 (fun i x hi hx hh=>own_apart (had11.1 i hi).1 c1 (by decide) hx hh)
     have h2:=argsD_mod h1 hm13 (fun i x hi hx hh=>by have:=hfps i x hi hx;omega)
     have h3:=argsD_mod h2 hm14 (fun i x hi hx hh=>by have:=hfps i x hi hx;omega)
     have h4:=argsD_mod h3 hm15' (fun i x hi hx hh=>by have:=hfps i x hi hx;omega)
     exact ⟨fun i hi=>⟨(h4.1 i hi).1,fun x hx=>.inr (.inr ⟨i,hi,hx⟩)⟩,h4.2⟩
   · have:=hfps j x hj h2
     have:=hFl x (hfqs i x (by rw [hqt] at hi;omega) h1).1
     omega
   · have s15:=hmt.size
     have s12':=ho12
     rcases hx with hx | hx | ⟨j,hj,hx⟩
     · have:=hFl x hx;omega
     · have:=ho12.lt hx;omega
     · have:=hfps j x hj hx;omega
   · rw [← hlen2];exact leadOk_full (small_wf hw ho hok)
 · rcases hx with hx | hx | ⟨j,hj,hx⟩
   · exact .inl hx
   · rcases hf12 x hx with h | h
     · exact .inl (c2 x h).1.1
     · exact .inr (by omega)
   · have:=hfps j x hj hx;exact .inr (by omega)
 · have h1:=(hfq5 x hx).1
   have h2:=ho5.lt hx
   refine ⟨by omega,fun hh=>?_⟩
   rcases hh with hh | hh | ⟨j,hj,hh⟩
   · have:=hFl x hh;omega
   · rcases hf12 x hh with h | h
     · have:=hFl x (c2 x h).1.1;omega
     · omega
   · have:=hfps j x hj hh;omega
end
section
open Go Go.W
structure GSt where
 res:Option (List Int)
 err:Int
 ns:List Nd
 old:Nat
 times:Int
def endS (size n:Int) (ns:List Nd) (roots:List Int) (times:Int):GSt:=if n > size - ns.length then ⟨none,211,ns,ns.length,times⟩ else ⟨some roots,0,ns,ns.length,times⟩
def groomS (size young:Int) (old:Nat) (times:Int) (ns:List Nd) (n:Int) (roots:List Int):GSt:=
 if n < 0 then ⟨none,1,ns,old,times⟩
 else if okPl ns.length roots=false then ⟨none,212,ns,old,times⟩
 else if n≤young - (ns.length - old)∧n≤size - ns.length then ⟨some roots,0,ns,old,times⟩
 else if n > size - (smallNs ns old roots).length then endS size n (smallNs (smallNs ns old roots) 0 (smallRoots ns old roots)) (smallRoots (smallNs ns old roots) 0 (smallRoots ns old roots)) (IntKind.i64.wrap (IntKind.i64.wrap (times+1)+1))
 else ⟨some (smallRoots ns old roots),0,smallNs ns old roots,(smallNs ns old roots).length,IntKind.i64.wrap (times+1)⟩
def GRoomPost (At:World→Nat→Int→Int→Nat→Int→List Nd→(Nat→Prop)→Prop) (w:World) (a:Nat) (size young:Int) (F:Nat→Prop) (s:GSt) (r:Value) (w':World):Prop:=
 ∃ v F',r = .tuple #[v,I s.err]∧At w' a size young s.old s.times s.ns F'∧Grow F F' w w'∧(s.res=none→v = .slice none 0 0)∧∀ l,s.res=some l→∃ fq,OwnS w' 3 1 v (l.map I) l.length fq∧∀ x,fq=some x→w.heap.size≤x∧¬ F' x
theorem small_roots_len (ns:List Nd) (fr:Nat) (roots:List Int):(smallRoots ns fr roots).length=roots.length:=by simp [smallRoots]
theorem groom_ok (w:World) (a:Nat) (size young:Int) (old:Nat) (times:Int) (ns:List Nd) (F:Nat→Prop) (h:GAt w a size young old times ns F) (ho:old≤ns.length) (hw:WF ns) (hn:ns.length≤1048576) (hs:0≤size∧size≤1048576) (hy:0≤young∧young≤1048576) (n:Int) (v:Value) (roots:List Int) (hx:Ints w v roots)
   (hv:roots≠[]→∀ x,vblk v=some x→¬ F x) (hsm:roots.length≤17592186044416) :
   CallsR Tryz.prog 155 [.pointer (some ⟨a,0,none⟩),I n,v] w (GRoomPost GAt w a size young F (groomS size young old times ns n roots)):=by
 obtain ⟨va,vc,rfl,_,_⟩:=id hx
 have same:∀ w',Mod (fun _=>False) w w'→GAt w' a size young old times ns F∧Grow F F w w':=fun w' hm=>
   ⟨gat_mod h hm (fun _ _ h=>h),hm.weak (fun _ h=>h.elim),fun b hb=>.inl hb⟩
 refine fit155.calls rfl ?_
 unfold ir155
 (try simp only [go_sem,simprocAttr])
 refine ir_cond rfl (fun hc=>?_) (fun hc=>?_)
 · have hc':n < 0:=by simpa using hc
   have e:groomS size young old times ns n roots=⟨none,1,ns,old,times⟩:=by unfold groomS;rw [if_pos hc']
   rw [e]
   (try simp only [go_sem,simprocAttr])
   exact ⟨_,F,rfl,(same w (Mod.refl _ _)).1,(same w (Mod.refl _ _)).2,fun _=>rfl,fun l hl=>by cases hl⟩
 have hc1:¬ n < 0:=by simpa using hc
 (try simp only [go_sem,simprocAttr])
 refine e_call (by rfl) ?_
 refine (gplaces_ok w a ns.length old _ roots (gat_has h) hx).mono ?_
 rintro r w1 ⟨rfl,hm1⟩
 (try simp only [go_sem,simprocAttr])
 refine ir_cond rfl (fun hc=>?_) (fun hc=>?_)
 · have hc':okPl ns.length roots=false:=by simpa using hc
   have e:groomS size young old times ns n roots=⟨none,212,ns,old,times⟩:=by unfold groomS;rw [if_neg hc1,if_pos hc']
   rw [e]
   (try simp only [go_sem,simprocAttr])
   exact ⟨_,F,rfl,(same w1 hm1).1,(same w1 hm1).2,fun _=>rfl,fun l hl=>by cases hl⟩
 have hc2:okPl ns.length roots=true:=by simpa using hc
 have h1:=gat_mod h hm1 (fun _ _ h=>h)
 have hx1:=hx.mod hm1 (fun _ _ h=>h)
 obtain ⟨cv,mb,ld,g1,g2,g3,g4,g5,g6⟩:=id h1
 obtain ⟨ca,cc,rfl⟩:=fromD_val g3
 have k1:IntKind.i64.wrap ((ns.length:Int) - old)=ns.length - old:=by rw [wrap_in]<;>omega
 have k2:IntKind.i64.wrap (young - ((ns.length:Int) - old))=young - (ns.length - old):=by rw [wrap_in]<;>omega
 have k3:IntKind.i64.wrap (size - (ns.length:Int))=size - ns.length:=by rw [wrap_in]<;>omega
 have hwd:Mod (fun _=>False) w1 w1.drew:=⟨Nat.le_refl _,fun _ _ _=>rfl,rfl,rfl,rfl⟩
 (try simp only [go_sem,simprocAttr,cell_of g1,k1,k2,k3])
 refine wpS_cut (fun ρ w'=>w1.drew=w'∧ρ.get 0=some (.pointer (some ⟨a,0,none⟩))∧ρ.get 1=some (I n)∧ρ.get 2=some (.slice va roots.length vc)∧ρ.get 44=some (.bool (decide (n≤young - ((ns.length:Int) - old))&&decide (n≤size - (ns.length:Int))))) ?_ ?_
 · refine wpS_gr rfl (fun hg=>?_) (fun hg=>?_)
   · (try simp only [go_sem,simprocAttr,hg,cell_of g1,k3])
   · (try simp only [go_sem,simprocAttr,hg,Bool.false_and])
 rintro ρ _ ⟨rfl,r0,r1,r2,r44⟩
 (try simp only [go_sem,simprocAttr,r0,r1,r2,r44])
 refine ir_cond rfl (fun hc=>?_) (fun hc=>?_)
 · have hc3:n≤young - ((ns.length:Int) - old)∧n≤size - (ns.length:Int):=by simpa using hc
   have e:groomS size young old times ns n roots=⟨some roots,0,ns,old,times⟩:=by unfold groomS;rw [if_neg hc1,if_neg (by simp [hc2]),if_pos hc3]
   rw [e]
   (try simp only [go_sem,simprocAttr])
   refine e_call (by rfl) ?_
   refine (clone_ok _ roots w1.drew (hx1.mod hwd (fun _ _ h=>h))).mono ?_
   rintro q w2 ⟨hm2,f2,o2,n2⟩
   obtain ⟨va2,vc2,rfl,_,_⟩:=o2.val
   have hm2':=hwd.trans hm2
   have s1:=hm1.size
   have s2:=hm2.size
   have hw0:w1.drew.heap.size=w1.heap.size:=rfl
   (try simp only [go_sem,simprocAttr])
   refine ⟨_,F,rfl,(same w2 (hm1.trans hm2')).1,(same w2 (hm1.trans hm2')).2,fun h=>(by cases h),fun l hl=>?_⟩
   cases hl
   refine ⟨f2,o2,fun x hx=>?_⟩
   have:=n2 x hx
   exact ⟨by omega,fun hh=>by have:=gat_lt h x hh;omega⟩
 have hc3:¬ (n≤young - ((ns.length:Int) - old)∧n≤size - (ns.length:Int)):=by simpa using hc
 have hx1d:=hx1.mod hwd (fun _ _ h=>h)
 have h1d:=gat_mod h1 hwd (fun _ _ h=>h)
 have sw1:w1.drew.heap.size=w1.heap.size:=rfl
 have s1:=hm1.size
 have hm1d:=hm1.trans hwd
 (try simp only [go_sem,simprocAttr])
 refine e_call (by rfl) ?_
 refine (gsmall_ok w1.drew a size young old times ns F h1d ho hw hn _ roots hx1d hc2 hv hsm).mono ?_
 rintro q w2 ⟨fq2,F2,o2,a2,gr2,hf2⟩
 obtain ⟨va2,vc2,rfl,_,_⟩:=o2.val
 have hw2:=small_wf hw ho hc2
 have hl2:=small_len hw ho hc2
 obtain ⟨N1,hN1⟩:∃ N1,smallNs ns old roots=N1:=⟨_,rfl⟩
 obtain ⟨R1,hR1⟩:∃ R1,smallRoots ns old roots=R1:=⟨_,rfl⟩
 have hR1l:R1.length=roots.length:=by rw [← hR1];exact small_roots_len _ _ _
 have hok1:=small_roots_ok hw ho hc2
 rw [hN1] at a2 hw2 hl2 hok1
 rw [hR1] at o2 hok1
 obtain ⟨cv2,mb2,ld2,j1,j2,j3,j4,j5,j6⟩:=id a2
 obtain ⟨ca2,cc2,rfl⟩:=fromD_val j3
 have k4:IntKind.i64.wrap (size - (N1.length:Int))=size - N1.length:=by rw [wrap_in]<;>omega
 have hwd2:Mod (fun _=>False) w2 w2.drew:=⟨Nat.le_refl _,fun _ _ _=>rfl,rfl,rfl,rfl⟩
 have gr02:Grow F F2 w w2:=⟨(hm1d.weak (fun _ h=>h.elim)).trans gr2.1,fun x hx=>(gr2.2 x hx).imp (fun h=>h) (fun h=>by omega)⟩
 (try simp only [go_sem,simprocAttr,cell_of j1,k4])
 refine ir_cond rfl (fun hc=>?_) (fun hc=>?_)
 · have hc4:n > size - (N1.length:Int):=by simpa using hc
   have e:groomS size young old times ns n roots=endS size n (smallNs N1 0 R1) (smallRoots N1 0 R1) (IntKind.i64.wrap (IntKind.i64.wrap (times+1)+1)):=by
     unfold groomS;rw [if_neg hc1,if_neg (by simp [hc2]),if_neg hc3,hN1,hR1,if_pos hc4]
   rw [e]
   have o2d:=o2.mod hwd2 (fun _ _ h=>h)
   have hx2:=(o2d.ints (by omega)).1
   (try simp only [go_sem,simprocAttr])
   refine e_call (by rfl) ?_
   refine (gall_ok w2.drew a size young _ _ N1 F2 (gat_mod a2 hwd2 (fun _ _ h=>h)) hw2 (by omega) _ R1 hx2 hok1 (fun hne x hx hh=>?_) (by omega)).mono ?_
   · cases hfq:fq2 with
     | none=>
       rcases o2.2 with ⟨_,h0,_⟩ | ⟨b',c',sp,e1,e2,_⟩
       · rw [← hR1l] at h0
         exact hne (List.eq_nil_of_length_eq_zero h0)
       · rw [hfq] at e2;cases e2
     | some y=>
       rcases o2.2 with ⟨_,_,e2⟩ | ⟨b',c',sp,e1,e2,_⟩
       · rw [hfq] at e2;cases e2
       · rw [e1] at hx
         simp only [vblk,Option.some.injEq] at hx
         exact (hf2 x (by rw [e2,hx])).2 hh
   rintro q w3 ⟨fq3,F3,o3,a3,gr3,hf3⟩
   obtain ⟨va3,vc3,rfl,_,_⟩:=o3.val
   have hl3:=small_len hw2 (Nat.zero_le _) hok1
   obtain ⟨N2,hN2⟩:∃ N2,smallNs N1 0 R1=N2:=⟨_,rfl⟩
   obtain ⟨R2,hR2⟩:∃ R2,smallRoots N1 0 R1=R2:=⟨_,rfl⟩
   have hR2l:R2.length=R1.length:=by rw [← hR2];exact small_roots_len _ _ _
   rw [hN2] at a3 hl3
   rw [hR2] at o3
   rw [hN2,hR2]
   obtain ⟨cv3,mb3,ld3,i1,i2,i3,i4,i5,i6⟩:=id a3
   obtain ⟨ca3,cc3,rfl⟩:=fromD_val i3
   have k5:IntKind.i64.wrap (size - (N2.length:Int))=size - N2.length:=by rw [wrap_in]<;>omega
   have hwd3:Mod (fun _=>False) w3 w3.drew:=⟨Nat.le_refl _,fun _ _ _=>rfl,rfl,rfl,rfl⟩
   have sw2:w2.drew.heap.size=w2.heap.size:=rfl
   have s2:=gr02.1.size
   have gr03:Grow F F3 w w3:=⟨gr02.1.step (hwd2.weak (S':=F2) (fun _ h=>h.elim) |>.trans gr3.1) (fun x hx hlt=>(gr02.2 x hx).elim (fun h=>h) (fun h=>by omega)),fun x hx=>by
     rcases gr3.2 x hx with h | h
     · exact gr02.2 x h
     · exact .inr (by omega)⟩
   (try simp only [go_sem,simprocAttr,cell_of i1,k5])
   refine ir_cond rfl (fun hc=>?_) (fun hc=>?_)
   · have hc5:n > size - (N2.length:Int):=by simpa using hc
     (try simp only [go_sem,simprocAttr])
     have e:endS size n N2 R2 (IntKind.i64.wrap (IntKind.i64.wrap (times+1)+1))=⟨none,211,N2,N2.length,IntKind.i64.wrap (IntKind.i64.wrap (times+1)+1)⟩:=by unfold endS;rw [if_pos hc5]
     rw [e]
     exact ⟨_,F3,rfl,gat_mod a3 hwd3 (fun _ _ h=>h),⟨gr03.1.trans (hwd3.weak (fun _ h=>h.elim)),gr03.2⟩,fun _=>rfl,fun l hl=>by cases hl⟩
   · have hc5:¬ n > size - (N2.length:Int):=by simpa using hc
     (try simp only [go_sem,simprocAttr])
     have e:endS size n N2 R2 (IntKind.i64.wrap (IntKind.i64.wrap (times+1)+1))=⟨some R2,0,N2,N2.length,IntKind.i64.wrap (IntKind.i64.wrap (times+1)+1)⟩:=by unfold endS;rw [if_neg hc5]
     rw [e]
     refine ⟨_,F3,rfl,gat_mod a3 hwd3 (fun _ _ h=>h),⟨gr03.1.trans (hwd3.weak (fun _ h=>h.elim)),gr03.2⟩,fun h=>(by cases h),fun l hl=>?_⟩
     cases hl
     refine ⟨fq3,?_,fun x hx=>⟨by have:=(hf3 x hx).1;omega,(hf3 x hx).2⟩⟩
     rw [hR2l]
     exact o3.mod hwd3 (fun _ _ h=>h)
 · have hc4:¬ n > size - (N1.length:Int):=by simpa using hc
   have e:groomS size young old times ns n roots=⟨some R1,0,N1,N1.length,IntKind.i64.wrap (times+1)⟩:=by
     unfold groomS;rw [if_neg hc1,if_neg (by simp [hc2]),if_neg hc3,hN1,hR1,if_neg hc4]
   rw [e]
   have hdd:Mod (fun _=>False) w2 w2.drew.drew:=⟨Nat.le_refl _,fun _ _ _=>rfl,rfl,rfl,rfl⟩
   (try simp only [go_sem,simprocAttr,cell_of j1,k4])
   refine ir_cond rfl (fun hc=>?_) (fun hc=>?_)
   · exact absurd (by simpa using hc) hc4
   (try simp only [go_sem,simprocAttr])
   refine ⟨_,F2,rfl,gat_mod a2 hdd (fun _ _ h=>h),⟨gr02.1.trans (hdd.weak (fun _ h=>h.elim)),gr02.2⟩,fun h=>(by cases h),fun l hl=>?_⟩
   cases hl
   refine ⟨fq2,?_,fun x hx=>⟨by have:=(hf2 x hx).1;omega,(hf2 x hx).2⟩⟩
   rw [hR1l]
   exact o2.mod hdd (fun _ _ h=>h)
end
end Go.Proofs.YtcllploggibicaaGreat