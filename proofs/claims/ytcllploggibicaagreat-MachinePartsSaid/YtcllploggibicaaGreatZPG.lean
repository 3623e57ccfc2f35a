/- MachineParts: whatever table, entry, input and setting, and whatever two numbers of steps are handed in, the law answers true, and what was handed in reads as it did. No condition. -/
import Derived.Test.YtcllploggibicaaGreatZPF
import Derived.Test.YtcllploggibicaaGreatZPA
import Derived.KernelRfl
set_option linter.unusedSimpArgs false
set_option linter.unusedVariables false
set_option maxRecDepth 100000
namespace Go.Proofs.YtcllploggibicaaGreat
section
open Go Go.W
def newErr (T:Tab) (entry:ByteArray) (input:List Int) (heap every:Int):Int:=
 if input.length > 10000 then 2
 else if input.any (fun n=>!numB n)=true∨heap < 1∨heap > 1048576∨every < 0 then 1
 else if checkS T≠0 then checkS T
 else if entryS entry T.globals 0=none then 220 else 0
def firstNs (n:Nat):List Nd:=(List.range n).map fun i:Nat=>⟨4,(i:Int),[]⟩
def newI (T:Tab) (input:List Int) (heap:Int) (gens:Bool) (every:Int) (i:Nat):Mc:=
 ⟨T,input,gens,every,newY gens heap,0,(List.range i).map (fun i:Nat=>(i:Int)),[],[],false,[],0,0,0,0,⟨newKd gens heap,heap,firstNs i⟩⟩
def newM (T:Tab) (entry:ByteArray) (input:List Int) (heap:Int) (gens:Bool) (every:Int):Mc:=
 if (T.globals.length:Int)≤heap then { newI T input heap gens every T.globals.length with wait:=[entryI entry T]}
 else { newI T input heap gens every heap.toNat with globals:=[],ended:=5}
theorem firstNs_len (n:Nat):(firstNs n).length=n:=by simp [firstNs]
theorem firstNs_succ (n:Nat):firstNs (n+1)=firstNs n++[⟨4,(n:Int),[]⟩]:=by simp [firstNs,List.range_succ]
theorem firstNs_ok (n:Nat):WF (firstNs n):=by
 intro nd hnd
 obtain ⟨i,hi,rfl⟩:=List.mem_map.1 hnd
 exact ⟨by simp [Nd.may,mayB],rfl⟩
theorem newSt_ok {gens:Bool} {heap:Int} (hh:1≤heap∧heap≤1048576) {i:Nat} (hi:(i:Int)≤heap):St.Ok ⟨newKd gens heap,heap,firstNs i⟩:=by
 refine ⟨firstNs_ok i,by rw [firstNs_len];exact hi,hh.1,hh.2,?_⟩
 show (newKd gens heap).ok _
 unfold newKd
 cases gens with
 | false=>exact trivial
 | true=>
   have:newY true heap=if heap.tdiv 8 > 1 then heap.tdiv 8 else 1:=rfl
   have h8:heap.tdiv 8≤heap:=by rw [Int.tdiv_eq_ediv_of_nonneg (by omega)];omega
   refine ⟨Nat.zero_le _,?_,?_⟩<;>rw [this]<;>split<;>omega
open Classical in
theorem new_pack {w w6 w9 w':World} {m:Nat} {S:SV} {M:Mc} {vG vW:Value} {fg fw:Option Nat} {F:Nat→Prop} (hm:m=w9.heap.size) (h06:w.heap.size≤w6.heap.size) (h69:w6.heap.size≤w9.heap.size)
   (hc:w'.heap[m]? = some (.cells (mcCells S M vG (.slice none 0 0) vW (.slice none 0 0)).toArray 78 (0,0))) (hG:OwnS w' 3 1 vG (M.globals.map I) M.globals.length fg) (hW:OwnS w' 3 1 vW (M.wait.map I) M.wait.length fw)
   (hfr:M.frames=[]) (htl:M.told=[]) (hst:StAt w' S.sv M.st F) (hF:∀ b,F b→w.heap.size≤b∧(b < w6.heap.size∨m < b)) (hfg:∀ b,fg=some b→m < b∧¬ F b) (hfw:∀ b,fw=some b→m < b∧¬ F b∧fg≠some b)
   (htab:TabAt w' S.vsh S.vgl M.tab (fun b=>w6.heap.size≤b∧b < w9.heap.size)) (hin:Ints w' S.vin M.input) (hvin:∀ b,vblk S.vin=some b→w6.heap.size≤b∧b < w9.heap.size) (hrow:RowsAt w' S.vR 2 rowsV (fun b=>w6.heap.size≤b∧b < w9.heap.size)) :
   ∃ τ:Tag,MAt w' τ m S M []∧∀ b,b < w.heap.size→τ b = .no:=by
 have lm:=lt_of_heap hc
 refine ⟨fun b=>if b < w.heap.size then .no else if b=m then .m else if fg=some b then .gl else if fw=some b then .wt else if F b then .st else if w6.heap.size≤b∧b < w9.heap.size then .tb else .no,?_,fun b hb=>by simp only [if_pos hb]⟩
 have tb:∀ b,w6.heap.size≤b∧b < w9.heap.size→b < w'.heap.size∧(if b < w.heap.size then Tg.no else if b=m then .m else if fg=some b then .gl else if fw=some b then .wt else if F b then .st else if w6.heap.size≤b∧b < w9.heap.size then .tb else .no) = .tb:=by
   intro b hb
   have n1:¬ b < w.heap.size:=by omega
   have n2:b≠m:=by omega
   have n3:fg≠some b:=fun e=>by have:=(hfg b e).1;omega
   have n4:fw≠some b:=fun e=>by have:=(hfw b e).1;omega
   have n5:¬ F b:=fun e=>by have:=(hF b e).2;omega
   exact ⟨by omega,by rw [if_neg n1,if_neg n2,if_neg n3,if_neg n4,if_neg n5,if_pos hb]⟩
 refine ⟨vG,.slice none 0 0,vW,.slice none 0 0,fg,none,fw,none,F,hc,?_,hG,?_,?_,(fun b hb=>by cases hb),hW,?_,?_,(fun b hb=>by cases hb),hst,?_,by rw [hfr];rfl,?_,htab.mod (Mod.refl (fun _=>False) w') (fun _ _ h=>h) (fun b hb=>tb b hb),hin,fun b hb=>tb b (hvin b hb),hrow.mod (Mod.refl (fun _=>False) w') (fun _ _ h=>h) (fun b hb=>tb b hb)⟩
 · simp only [if_neg (show ¬ m < w.heap.size by omega),if_pos]
 · intro b hb
   have:=(hfg b hb).1
   simp only [if_neg (show ¬ b < w.heap.size by omega),if_neg (show b≠m by omega),if_pos hb]
 · exact OwnS.nil _ _ _
 · intro b hb
   have h1:=hfw b hb
   simp only [if_neg (show ¬ b < w.heap.size by omega),if_neg (show b≠m by omega),if_neg h1.2.2,if_pos hb]
 · rw [htl];exact OwnS.nil _ _ _
 · intro b hb
   have h1:=hF b hb
   have n2:b≠m:=by omega
   have n3:fg≠some b:=fun e=>(hfg b e).2 hb
   have n4:fw≠some b:=fun e=>(hfw b e).2.1 hb
   simp only [if_neg (show ¬ b < w.heap.size by omega),if_neg n2,if_neg n3,if_neg n4,if_pos hb]
 · intro i k f hk _
   simp at hk
section
variable {w:World} {vsh vgl vin:Value} {T:Tab} {B:Nat→Prop} {entry:ByteArray} {input:List Int} {heap every:Int} {gens:Bool}
def NewAt (w w':World) (M:Mc) (r:Value):Prop:=∃ τ m S,r = .tuple #[ptr m,I 0]∧MAt w' τ m S M []∧(∀ b,b < w.heap.size→τ b = .no)
theorem m_new (h:TabAt w vsh vgl T B) (hT:TabFit T) (hBl:∀ b,B b→b < w.heap.size) (hin:Ints w vin input) :
   CallsR Tryz.prog 15 [tabV vsh vgl,.string entry,vin,setV heap gens every] w fun r w'=>Mod (fun _=>False) w w' ∧
     (newErr T entry input heap every≠0→r = .tuple #[.pointer none,I (newErr T entry input heap every)])∧(newErr T entry input heap every=0→NewAt w w' (newM T entry input heap gens every) r):=by
 have h0:=h
 have hin0:=hin
 obtain ⟨⟨aS,cS,rfl⟩,aG,cG,rfl⟩:=tab_sl h
 obtain ⟨aI,cI,rfl,hIl,_⟩:=hin
 refine fit15.calls rfl ?_
 unfold ir15 tabV setV
 (try simp only [go_sem,simprocAttr])
 refine e_bx rfl ?_
 intro w1 hb1 hm1 hs1
 (try simp only [go_sem,simprocAttr])
 refine e_bx rfl ?_
 intro w2 hb2 hm2 hs2
 (try simp only [go_sem,simprocAttr])
 refine e_bx rfl ?_
 intro w3 hb3 hm3 hs3
 have hm03:=(hm1.trans hm2).trans hm3
 have hb13:=(hm2.trans hm3).at hb1 (fun h=>h)
 have hb23:=hm3.at hb2 (fun h=>h)
 have hb1:w3.heap[w.heap.size]? = some (.cells #[.slice aS T.shapes.length cS,.slice aG T.globals.length cG] 25 (0,0)):=hb13
 have hb2:w3.heap[w1.heap.size]? = some (.cells #[.string entry] 9 (0,0)):=hb23
 have hb3:w3.heap[w2.heap.size]? = some (.cells #[I heap,.bool gens,I every] 28 (0,0)):=hb3
 have bad:∀ e w',e≠0→newErr T entry input heap every=e→Mod (fun _=>False) w w'→(Mod (fun _=>False) w w'∧(newErr T entry input heap every≠0→Value.tuple #[.pointer none,I e] = .tuple #[.pointer none,I (newErr T entry input heap every)])∧(newErr T entry input heap every=0→NewAt w w' (newM T entry input heap gens every) (.tuple #[.pointer none,I e]))):=by
   intro e w' he h1 hm
   rw [h1]
   exact ⟨hm,fun _=>rfl,fun h=>absurd h he⟩
 have hE:newErr T entry input heap every=if input.length > 10000 then 2 else if input.any (fun n=>!numB n)=true∨heap < 1∨heap > 1048576∨every < 0 then 1 else if checkS T≠0 then checkS T else if entryS entry T.globals 0=none then 220 else 0:=rfl
 (try simp only [go_sem,simprocAttr])
 refine ir_blk (fun ρ w'=>w3=w'∧ρ.get 2=some (.slice aI input.length cI)∧ρ.get 4=some (ptr w.heap.size)∧ρ.get 5=some (ptr w1.heap.size)∧ρ.get 7=some (ptr w2.heap.size)∧¬ input.length > 10000∧¬ (input.any (fun n=>!numB n)=true∨heap < 1∨heap > 1048576∨every < 0)) ?_ ?_
 · refine ir_cond rfl (fun hl=>?_) (fun hl=>?_)
   · simp only [zb1,zb2,zb3,zb4,zb5] at hl
     rw [if_pos (by omega)] at hE
     (try simp only [go_sem,simprocAttr])
     exact bad 2 w3 (by decide) hE hm03
   simp only [zb1,zb2,zb3,zb4,zb5] at hl
   have hl:¬ input.length > 10000:=by omega
   rw [if_neg hl] at hE
   (try simp only [go_sem,simprocAttr])
   refine e_call (by rfl) ?_
   refine (contains_ok _ input w3 (hin0.mod hm03 (fun _ _ h=>h)) 30 _ #[] (fun n=>!numB n) rfl rfl rfl (fun x _=>by simpa using f_new1 w3 x)).mono ?_
   rintro _ _ ⟨rfl,rfl⟩
   (try simp only [go_sem,simprocAttr])
   cases hA:input.any (fun n=>!numB n) with
   | true=>
     rw [hA,if_pos (.inl rfl)] at hE
     (try simp only [go_sem,simprocAttr])
     exact bad 1 w3 (by decide) hE hm03
   | false=>
     cases h1:decide (heap < 1) with
     | true=>
       rw [if_pos (.inr (.inl (of_decide_eq_true h1)))] at hE
       (try simp only [go_sem,simprocAttr,cell_of hb3,h1])
       exact bad 1 w3 (by decide) hE hm03
     | false=>
       cases h2:decide (heap > 1048576) with
       | true=>
         rw [if_pos (.inr (.inr (.inl (of_decide_eq_true h2))))] at hE
         (try simp only [go_sem,simprocAttr,cell_of hb3,h1,h2])
         exact bad 1 w3 (by decide) hE hm03
       | false=>
         cases h3:decide (every < 0) with
         | true=>
           rw [if_pos (.inr (.inr (.inr (of_decide_eq_true h3))))] at hE
           (try simp only [go_sem,simprocAttr,cell_of hb3,h1,h2,h3])
           exact bad 1 w3 (by decide) hE hm03
         | false=>
           have q1:=of_decide_eq_false h1
           have q2:=of_decide_eq_false h2
           have q3:=of_decide_eq_false h3
           (try simp only [go_sem,simprocAttr,cell_of hb3,h1,h2,h3])
           exact ⟨by omega,by simp;omega⟩
 rintro ρ _ ⟨rfl,r2,r4,r5,r7,hl,hbad⟩
 rw [if_neg hl,if_neg hbad] at hE
 have hheap:1≤heap∧heap≤1048576:=by
   constructor
   · apply Classical.byContradiction;intro hh;exact hbad (.inr (.inl (by omega)))
   · apply Classical.byContradiction;intro hh;exact hbad (.inr (.inr (.inl (by omega))))
 have h3:=h0.mod hm03 (fun _ _ h=>h) (fun _ h=>h)
 (try simp only [go_sem,simprocAttr,r2,r4,r5,r7,ln_of (cs:=[_,_]) (off:=0) (n:=2) hb1 (by simp)])
 refine e_call (by rfl) ?_
 refine (f_Check h3 hT (fun b hb=>by have:=hBl b hb;have:=hm03.size;omega)).mono ?_
 rintro _ w4 ⟨rfl,hm4⟩
 have hm04:=hm03.trans hm4
 have hb14:=hm4.at hb1 (fun h=>h)
 have hb24:=hm4.at hb2 (fun h=>h)
 have hb34:=hm4.at hb3 (fun h=>h)
 (try simp only [go_sem,simprocAttr])
 refine ir_cond rfl (fun hc=>?_) (fun hc=>?_)
 · simp only [zb1,zb2,zb3,zb4,zb5] at hc
   rw [if_pos hc] at hE
   (try simp only [go_sem,simprocAttr])
   exact bad _ w4 hc hE hm04
 simp only [zb1,zb2,zb3,zb4,zb5] at hc
 rw [if_neg (by simpa using hc)] at hE
 obtain ⟨hTok,_⟩:=check_ok hc
 have h4:=h0.mod hm04 (fun _ _ h=>h) (fun _ h=>h)
 (try simp only [go_sem,simprocAttr,cell_of hb14])
 refine e_call (by rfl) ?_
 refine (f_entry h4 hT hb24).mono ?_
 rintro _ w5 ⟨rfl,hm5⟩
 have hm05:=hm04.trans hm5
 have hb15:=hm5.at hb14 (fun h=>h)
 have hb35:=hm5.at hb34 (fun h=>h)
 (try simp only [go_sem,simprocAttr])
 refine ir_cond rfl (fun he=>?_) (fun he=>?_)
 · simp only [zb1,zb2,zb3,zb4,zb5] at he
   have hn:entryS entry T.globals 0=none:=by
     unfold entryI at he
     split at he
     · omega
     · assumption
   rw [if_pos hn] at hE
   (try simp only [go_sem,simprocAttr])
   exact bad 220 w5 (by decide) hE hm05
 simp only [zb1,zb2,zb3,zb4,zb5] at he
 have hn:entryS entry T.globals 0≠none:=fun hn=>by
   have:entryI entry T = -1:=by unfold entryI;rw [hn]
   omega
 rw [if_neg hn] at hE
 obtain ⟨at',hat,hatl⟩:∃ j:Nat,entryI entry T=j∧j < T.globals.length:=by
   unfold entryI
   cases hx:entryS entry T.globals 0 with
   | none=>exact absurd hx hn
   | some j=>exact ⟨j,rfl,by have:=entryS_lt _ _ hx;omega⟩
 rw [hat]
 (try simp only [go_sem,simprocAttr,ln_of (cs:=[_,_,_]) (off:=0) (n:=3) hb35 (by simp)])
 refine e_call (by rfl) ?_
 refine (f_newStore w5 gens every hheap).mono ?_
 rintro _ w6 ⟨sv,F,rfl,hst,hm6,hF⟩
 obtain ⟨ti,ui,rfl⟩:=hst.iface
 have hm06:=hm05.trans hm6
 have hb16:=hm6.at hb15 (fun h=>h)
 have hb36:=hm6.at hb35 (fun h=>h)
 (try simp only [go_sem,simprocAttr,show ((0:Int) != 0)=false from rfl])
 have hb16d:w6.drew.heap[w.heap.size]? = _:=hb16
 have hb36d:w6.drew.heap[w2.heap.size]? = _:=hb36
 have l3:=lt_of_heap hb36
 have h6d:=h0.mod hm06.drew (fun _ _ h=>h) (fun _ h=>h)
 (try simp only [go_sem,simprocAttr,ln_of (cs:=[_,_]) (off:=0) (n:=2) hb16d (by simp),ln_of (cs:=[_,_,_]) (off:=0) (n:=3) hb36d (by simp)])
 refine e_call (by rfl) ?_
 refine (f_copied h6d hTok).mono ?_
 rintro _ w7 ⟨vsh',vgl',rfl,htab,hm7⟩
 have hm67:Mod (fun _=>False) w6 w7:=Mod.of_drew hm7
 have htab':TabAt w7 vsh' vgl' T (fun b=>w6.heap.size≤b∧b < w7.heap.size):=htab
 obtain ⟨⟨aS',cS',rfl⟩,aG',cG',rfl⟩:=tab_sl htab
 have k7:=hm7.old w2.heap.size l3 (fun h=>h)
 have s67:=hm67.size
 (try simp only [go_sem,simprocAttr,tabV])
 refine ⟨by simp only [drew_heap,k7,and_self,implies_true],?_⟩
 refine e_call (by rfl) ?_
 refine (clone_ok _ input w7 (hin0.mod (hm06.trans hm67) (fun _ _ h=>h))).mono ?_
 rintro vI w8 ⟨hm8,fI,hoI,hfI⟩
 obtain ⟨aI',cI',rfl,_⟩:=hoI.val
 have k8:=hm8.old w2.heap.size (by omega) (fun h=>h)
 have s78:=hm8.size
 (try simp only [go_sem,simprocAttr])
 refine ⟨by simp only [drew_heap,k8,and_self,implies_true],?_⟩
 refine e_call (by rfl) ?_
 refine (f_rows w8).mono ?_
 rintro vR w9 ⟨bR,⟨lR,lR9⟩,hrows,hm9⟩
 obtain ⟨aR,cR,rfl⟩:=rows_sl hrows
 have k9:=hm9.old w2.heap.size (by omega) (fun h=>h)
 have s89:=hm9.size
 (try simp only [go_sem,simprocAttr])
 refine ⟨by simp only [drew_heap,k9,and_self,implies_true],?_⟩
 refine e_bx rfl ?_
 intro w10 hb10 hm10 hs10
 have hm69:Mod (fun _=>False) w6 w9:=(hm67.trans hm8).trans hm9
 have hm6_10:=hm69.trans hm10
 have hb1_10:=hm6_10.at hb16 (fun h=>h)
 obtain ⟨S,hS⟩:∃ S:SV,S=⟨.slice aS' T.shapes.length cS',.slice aG' T.globals.length cG',.slice aI' input.length cI',.slice aR rowsV.length cR,.iface ti (.pointer (some ui))⟩:=⟨_,rfl⟩
 have hc10:w10.heap[w9.heap.size]? = some (.cells (mcCells S (newI T input heap gens every 0) (.slice none 0 0) (.slice none 0 0) (.slice none 0 0) (.slice none 0 0)).toArray 78 (0,0)):=by rw [hS];exact hb10
 (try simp only [go_sem,simprocAttr,cell_of hb1_10])
 have s9:w9.heap.size < w10.heap.size:=lt_of_heap hc10
 have h06:=hm06.size
 have h69:=hm69.size
 have s05:=hm05.size
 have s56:=hm6.size
 have hm9_10:Mod (fun _=>False) w9 w10:=hm10
 have htab10:TabAt w10 S.vsh S.vgl T (fun b=>w6.heap.size≤b∧b < w9.heap.size):=by
   rw [hS]
   exact htab'.mod ((hm8.trans hm9).trans hm10) (fun _ _ h=>h) (fun b hb=>⟨hb.1,by omega⟩)
 have hin10:Ints w10 S.vin input:=by
   rw [hS]
   exact ((hoI.ints (by omega)).1).mod (hm9.trans hm10) (fun _ _ h=>h)
 have hvin10:∀ b,vblk S.vin=some b→w6.heap.size≤b∧b < w9.heap.size:=by
   rw [hS]
   intro b hb
   obtain ⟨_,h2⟩:=hoI
   rcases h2 with ⟨e,_,_⟩ | ⟨b',c',sp,e,hf,hbb,_⟩
   · simp only [Value.slice.injEq] at e
     obtain ⟨rfl,_,_⟩:=e
     cases hb
   · simp only [Value.slice.injEq] at e
     obtain ⟨rfl,_,_⟩:=e
     have hbb':b'=b:=Option.some.inj hb
     subst hbb'
     have:=hfI b' hf
     have:=lt_of_heap hbb
     omega
 have hrow10:RowsAt w10 S.vR 2 rowsV (fun b=>w6.heap.size≤b∧b < w9.heap.size):=by
   rw [hS]
   exact hrows.mod hm10 (fun _ _ h=>h) (fun b hb=>by subst hb;exact ⟨by omega,lR9⟩)
 have hst10:StAt w10 S.sv ⟨newKd gens heap,heap,firstNs 0⟩ F:=by
   rw [hS]
   exact (hst.mod hm69 (fun _ _ h=>h)).mod hm10 (fun _ _ h=>h)
 have hF':∀ b,F b→w.heap.size≤b∧(b < w6.heap.size∨w9.heap.size < b):=fun b hb=>by
   have h1:=hF b hb
   have h2:=hst.lt b hb
   omega
 have hsvS:(Value.iface ti (.pointer (some ui)))=S.sv:=by rw [hS]
 rw [hsvS]
 have nwR:newErr T entry input heap every=0:=hE
 refine ir_loop (fun z ρ w'=>∃ (i:Nat) (vG:Value) (fg:Option Nat) (F:Nat→Prop),z=T.globals.length - i∧i≤T.globals.length∧(i:Int)≤heap ∧
   w'.heap[w9.heap.size]? = some (.cells (mcCells S (newI T input heap gens every i) vG (.slice none 0 0) (.slice none 0 0) (.slice none 0 0)).toArray 78 (0,0))∧StAt w' S.sv ⟨newKd gens heap,heap,firstNs i⟩ F ∧
   OwnS w' 3 1 vG (((List.range i).map (fun i:Nat=>(i:Int))).map I) i fg∧(∀ b,F b→w.heap.size≤b∧(b < w6.heap.size∨w9.heap.size < b))∧(∀ b,fg=some b→w9.heap.size < b∧¬ F b)∧Mod (fun b=>(w.heap.size≤b∧b < w6.heap.size)∨w9.heap.size≤b) w10 w' ∧
   ρ=[(11,I at'),(12,S.sv),(15,ptr w9.heap.size),(67,I T.globals.length),(68,I i)]) T.globals.length
   ⟨0,.slice none 0 0,none,F,rfl,by omega,by omega,hc10,hst10,OwnS.nil _ _ _,hF',(fun b hb=>by cases hb),Mod.refl _ _,rfl⟩ ?_
 rintro z ρ w11 ⟨i,vG,fg,F1,rfl,hi,hih,hc11,hst11,hoG,hF1,hfg1,hm11,rfl⟩
 have s11:=hm11.size
 have rest:∀ w':World,Mod (fun b=>(w.heap.size≤b∧b < w6.heap.size)∨w9.heap.size≤b) w10 w'→TabAt w' S.vsh S.vgl T (fun b=>w6.heap.size≤b∧b < w9.heap.size)∧Ints w' S.vin input∧RowsAt w' S.vR 2 rowsV (fun b=>w6.heap.size≤b∧b < w9.heap.size)∧Mod (fun _=>False) w w':=by
   intro w' hm
   refine ⟨htab10.mod hm (fun b hb hx=>by omega) (fun _ h=>h),hin10.mod hm (fun b hb hx=>by have:=hvin10 b hb;omega),hrow10.mod hm (fun b hb hx=>by omega) (fun _ h=>h),?_⟩
   have h9:Mod (fun _=>False) w w10:=hm06.trans hm6_10
   exact h9.step hm (fun b hb hl=>by omega)
 unfold ir15L1
 (try simp only [go_sem,simprocAttr])
 refine ir_cond rfl (fun hlt=>?_) (fun hlt=>?_)
 · have hlt:i < T.globals.length:=by simpa using hlt
   have hok:=newSt_ok (gens:=gens) hheap hih
   (try simp only [go_sem,simprocAttr])
   have e1:IntKind.i64.wrap ((i:Int)+1)=((i+1:Nat):Int):=by rw [wrap_in (by omega) (by omega)];omega
   refine s_add (nd:=⟨4,(i:Int),[]⟩) rfl (by rfl) hst11 hok (by simp [Nd.may,mayB]) rfl (ints_nil _) ?_ ?_
   · intro hroom w12 F2 hst12 hg12
     have hroom:((firstNs i).length:Int) < heap:=hroom
     rw [firstNs_len] at hroom
     have hst12:StAt w12 S.sv ⟨newKd gens heap,heap,firstNs (i+1)⟩ F2:=by rw [firstNs_succ];exact hst12
     have nF9:¬ F1 w9.heap.size:=fun e=>by have:=hF1 _ e;omega
     have hc12:=hg12.1.at hc11 nF9
     obtain ⟨aV,cV,rfl,_⟩:=hoG.val
     have s12:=hg12.1.size
     rw [show ((⟨newKd gens heap,heap,firstNs i⟩:St).ns.length:Int)=(i:Int) by show ((firstNs i).length:Int)=_;rw [firstNs_len]]
     (try simp only [go_sem,simprocAttr,show ((0:Int) != 0)=false from rfl,cell_of hc12,mcCells])
     refine e_bs (by rfl) (by rfl) ?_
     intro w13 hb13 hm13 _
     have hfg1':∀ b,fg=some b→¬ F1 b:=fun b hb=>(hfg1 b hb).2
     (try simp only [go_sem,simprocAttr])
     refine e_ap (m:=1) (news:=[I (i:Int)]) rfl ((hoG.mod hg12.1 hfg1').mod hm13 (fun _ _ h=>h)) rfl (fun h=>by cases h) (rd_block (xs:=[I (i:Int)]) hb13) (oneI [(i:Int)]) rfl (by omega) (by omega) ?_
     intro v14 w14 fg14 ho14 hm14 hf14
     obtain ⟨a14,c14,rfl,_⟩:=ho14.val
     have fg9:fg≠some w9.heap.size:=fun e=>by have:=(hfg1 _ e).1;omega
     have hc14:=hm14.at (hm13.at hc12 (fun h=>h)) fg9
     (try simp only [go_sem,simprocAttr])
     refine e_st1 (off:=9) rfl rfl hc14 rfl (by simp [mcCells]) ?_
     intro w15 hb15 hm15 _
     (try simp only [go_sem,simprocAttr,e1])
     have s13:=hm13.size
     have s14:=hm14.size
     have hst15:StAt w15 S.sv ⟨newKd gens heap,heap,firstNs (i+1)⟩ F2:=by
       refine ((hst12.mod hm13 (fun _ _ h=>h)).mod hm14 (fun b hb e=>?_)).mod hm15 (fun b hb e=>?_)
       · rcases hg12.2 b hb with h1 | h1
         · exact hfg1' b e h1
         · have:=hoG.lt e;omega
       · subst e
         rcases hg12.2 _ hb with h1 | h1
         · exact nF9 h1
         · have:=lt_of_heap hc11;omega
     have hX:Mod (fun b=>(w.heap.size≤b∧b < w6.heap.size)∨w9.heap.size≤b) w10 w15:=by
       refine (((hm11.step hg12.1 (fun b hb _=>by have:=hF1 b hb;omega)).step hm13 (fun _ h _=>h.elim)).step hm14 (fun b hb _=>by have:=hfg1 b hb;omega)).step hm15 (fun b hb _=>by subst hb;exact .inr (Nat.le_refl _))
     refine ⟨_,by omega,i+1,.slice a14 (i+1) c14,fg14,F2,rfl,by omega,by omega,by simpa [mcCells,newI] using hb15,hst15,?_,fun b hb=>?_,fun b hb=>?_,hX,rfl⟩
     · have e:(List.range (i+1)).map (fun i:Nat=>(i:Int))=(List.range i).map (fun i:Nat=>(i:Int))++[(i:Int)]:=by simp [List.range_succ]
       rw [e,List.map_append]
       exact ho14.mod hm15 (fun b hb e=>by
         subst e
         rcases hf14 _ hb with h3 | h3
         · exact fg9 h3
         · have:=lt_of_heap hc11;omega)
     · rcases hg12.2 b hb with h1 | h1
       · exact hF1 b h1
       · omega
     · rcases hf14 b hb with h1 | h1
       · refine ⟨(hfg1 b h1).1,fun h2=>?_⟩
         rcases hg12.2 b h2 with h3 | h3
         · exact hfg1' b h1 h3
         · have:=hoG.lt h1;omega
       · refine ⟨by omega,fun h2=>?_⟩
         have:=hst12.lt b h2
         omega
   · intro hfull w12 F2 e he hst12 hg12
     have hfull:((firstNs i).length:Int)=heap:=hfull
     rw [firstNs_len] at hfull
     have nF9:¬ F1 w9.heap.size:=fun e=>by have:=hF1 _ e;omega
     have hc12:=hg12.1.at hc11 nF9
     have he':(e != 0)=true:=by simpa using he
     (try simp only [go_sem,simprocAttr,he'])
     refine e_st1 (off:=15) rfl rfl hc12 rfl (by simp [mcCells]) ?_
     intro w13 hb13 hm13 _
     (try simp only [go_sem,simprocAttr])
     refine e_st1 (off:=9) rfl rfl hb13 rfl (by simp [mcCells]) ?_
     intro w14 hb14 hm14 _
     (try simp only [go_sem,simprocAttr])
     have hM:newM T entry input heap gens every = { newI T input heap gens every heap.toNat with globals:=[],ended:=5}:=by unfold newM;rw [if_neg (by omega)]
     have hi':heap.toNat=i:=by omega
     have hX:Mod (fun b=>(w.heap.size≤b∧b < w6.heap.size)∨w9.heap.size≤b) w10 w14:=by
       refine ((hm11.step hg12.1 (fun b hb _=>by have:=hF1 b hb;omega)).step hm13 (fun b hb _=>by subst hb;exact .inr (Nat.le_refl _))).step hm14 (fun b hb _=>by subst hb;exact .inr (Nat.le_refl _))
     obtain ⟨r1,r2,r3,r4⟩:=rest w14 hX
     have nF9':¬ F2 w9.heap.size:=fun e=>by
       rcases hg12.2 _ e with h1 | h1
       · exact nF9 h1
       · have:=lt_of_heap hc11;omega
     refine ⟨r4,fun h=>absurd nwR h,fun _=>?_⟩
     rw [hM,hi']
     obtain ⟨τ,hA,hτ⟩:=new_pack (w:=w) (w6:=w6) (w9:=w9) (w':=w14) (m:=w9.heap.size) (S:=S) (M:={ newI T input heap gens every i with globals:=[],ended:=5}) (vG:=.slice none 0 0) (vW:=.slice none 0 0) (fg:=none) (fw:=none) (F:=F2) rfl h06 h69 (by simpa [mcCells,newI] using hb14) (OwnS.nil _ _ _) (OwnS.nil _ _ _) rfl rfl
       ((hst12.mod hm13 (fun b hb e=>by subst e;exact nF9' hb)).mod hm14 (fun b hb e=>by subst e;exact nF9' hb)) (fun b hb=>by
         rcases hg12.2 b hb with h1 | h1
         · exact hF1 b h1
         · omega) (fun b hb=>by cases hb) (fun b hb=>by cases hb) r1 r2 hvin10 r3
     exact ⟨τ,_,S,rfl,hA,hτ⟩
 · have hlt:¬ i < T.globals.length:=by simpa using hlt
   obtain rfl:i=T.globals.length:=by omega
   obtain ⟨bG,cG2,sp,rfl,rfl,_⟩:=hoG.pos (by omega)
   obtain ⟨bG',eG,_,hcell⟩:=own_cell hoG (i:=at') hatl
   cases eG
   have hcell:w11.cell? ⟨bG,at',none⟩=some (I at'):=by
     rw [hcell]
     simp [hatl]
   have b1:(0:Int)≤at'∧(at':Int) < T.globals.length:=by omega
   (try simp only [go_sem,simprocAttr,zb4,zb6,cell_of hc11,mcCells,newI,b1,add_at,hcell])
   refine e_bs (by rfl) (by rfl) ?_
   intro w12 hb12 hm12 _
   (try simp only [go_sem,simprocAttr])
   refine e_st1 (off:=11) rfl rfl (hm12.at hc11 (fun h=>h)) rfl (by simp [mcCells]) ?_
   intro w13 hb13 hm13 _
   (try simp only [go_sem,simprocAttr])
   have s12:=hm12.size
   have hM:newM T entry input heap gens every = { newI T input heap gens every T.globals.length with wait:=[(at':Int)]}:=by unfold newM;rw [if_pos hih,hat]
   have hX:Mod (fun b=>(w.heap.size≤b∧b < w6.heap.size)∨w9.heap.size≤b) w10 w13:=(hm11.step hm12 (fun _ h _=>h.elim)).step hm13 (fun b hb _=>by subst hb;exact .inr (Nat.le_refl _))
   obtain ⟨r1,r2,r3,r4⟩:=rest w13 hX
   have nF9:¬ F1 w9.heap.size:=fun e=>by have:=hF1 _ e;omega
   have l11:=lt_of_heap hc11
   refine ⟨r4,fun h=>absurd nwR h,fun _=>?_⟩
   rw [hM]
   have hoW:OwnS w13 3 1 (.slice (some ⟨w11.heap.size,0,none⟩) 1 1) [I (at':Int)] 1 (some w11.heap.size):=(OwnS.of_block (xs:=[I (at':Int)]) hb12 rfl).mod hm13 (fun b hb e=>by have:=Option.some.inj hb;omega)
   obtain ⟨τ,hA,hτ⟩:=new_pack (w:=w) (w6:=w6) (w9:=w9) (w':=w13) (m:=w9.heap.size) (S:=S) (M:={ newI T input heap gens every T.globals.length with wait:=[(at':Int)]}) (fg:=some bG) (fw:=some w11.heap.size) (F:=F1) rfl h06 h69 (by simpa [mcCells,newI] using hb13)
     (by
       have:=(hoG.mod hm12 (fun _ _ h=>h)).mod hm13 (fun b hb e=>by subst e;have:=(hfg1 _ hb).1;omega)
       simpa [newI] using this) hoW rfl rfl ((hst11.mod hm12 (fun _ _ h=>h)).mod hm13 (fun b hb e=>by subst e;exact nF9 hb)) hF1 hfg1 (fun b hb=>by
         cases hb
         refine ⟨by omega,fun h2=>by have:=hst11.lt _ h2;omega,fun e=>by have:=hoG.lt rfl;cases e;omega⟩) r1 r2 hvin10 r3
   exact ⟨τ,_,S,rfl,hA,hτ⟩
end
end
section
open Go Go.W
section
variable {T:Tab} {entry:ByteArray} {input:List Int} {heap every:Int} {gens:Bool}
structure NewFacts (T:Tab) (entry:ByteArray) (input:List Int) (heap every:Int):Prop where
 chk:checkS T=0
 inl:input.length≤10000
 inp:∀ a∈input,isNum a
 hp:1≤heap∧heap≤1048576
 ev:0≤every
 ent:0≤entryI entry T∧entryI entry T < T.globals.length
theorem new_facts (h:newErr T entry input heap every=0):NewFacts T entry input heap every:=by
 unfold newErr at h
 split at h
 · cases h
 rename_i h1
 split at h
 · cases h
 rename_i h2
 split at h
 · rename_i h3;exact absurd h h3
 rename_i h3
 split at h
 · cases h
 rename_i h4
 have h2:¬ input.any (fun n=>!numB n)=true∧¬ heap < 1∧¬ heap > 1048576∧¬ every < 0:=by
   refine ⟨fun e=>h2 (.inl e),fun e=>h2 (.inr (.inl e)),fun e=>h2 (.inr (.inr (.inl e))),fun e=>h2 (.inr (.inr (.inr e)))⟩
 refine ⟨Classical.not_not.1 h3,by omega,fun a ha=>?_,by omega,by omega,?_⟩
 · have:=h2.1
   rw [List.any_eq_true] at this
   have h5:numB a=true:=by
     cases hb:numB a
     · exact absurd ⟨a,ha,by rw [hb];rfl⟩ this
     · rfl
   unfold numB at h5
   rw [decide_eq_true_eq] at h5
   unfold isNum
   omega
 · unfold entryI
   cases he:entryS entry T.globals 0 with
   | none=>exact absurd he h4
   | some j=>
     have:=entryS_lt _ _ he
     simp only
     omega
theorem firstNs_at {n i:Nat} (h:i < n):(firstNs n)[i]? = some ⟨4,(i:Int),[]⟩:=by
 unfold firstNs
 rw [List.getElem?_map,List.getElem?_range h]
 rfl
theorem firstNs_ndAt {n i:Nat} (h:i < n):ndAt (firstNs n) i=⟨4,(i:Int),[]⟩:=by
 unfold ndAt
 rw [List.getD_eq_getElem?_getD,firstNs_at h]
 rfl
theorem firstNs_ends (n:Nat):Ends (firstNs n):=by
 intro p hp
 rw [firstNs_len] at hp
 have h1:nxt (firstNs n) p=p:=by
   apply nxt_fix
   unfold ind
   rw [firstNs_ndAt hp]
   rfl
 have h2:over (firstNs n) p=p:=by
   unfold over
   obtain ⟨k,_,e⟩:=ov_mem (nxt (firstNs n)) (firstNs n).length p
   rw [e,fit_fix h1]
 rw [h2,h1]
theorem newM_ok (h:newErr T entry input heap every=0) (hroom:(T.globals.length:Int)≤heap):MOk 0 (newM T entry input heap gens every):=by
 have hf:=new_facts h
 have hh:=hf.hp
 have he:=hf.ent
 unfold newM
 rw [if_pos hroom]
 have hy:0≤newY gens heap∧newY gens heap≤1048576:=by
   unfold newY
   split
   · rw [Int.tdiv_eq_ediv_of_nonneg (by omega)];split<;>omega
   · omega
 have hIn:∀ a:Int,0≤a→a < T.globals.length→St.In ⟨newKd gens heap,heap,firstNs T.globals.length⟩ a:=fun a h1 h2=>⟨h1,by show a < ((firstNs _).length:Int);rw [firstNs_len];exact h2⟩
 exact
   { tab:=(check_ok hf.chk).1
     g:=⟨newSt_ok hh hroom,firstNs_ends _,fun nd hnd=>by
       obtain ⟨i,hi,rfl⟩:=List.mem_map.1 hnd
       have:=List.mem_range.1 hi
       exact ⟨fun _=>by show (i:Int) < T.globals.length;omega,fun e=>by cases e⟩⟩
     gls:=fun a ha=>by
       obtain ⟨i,hi,rfl⟩:=List.mem_map.1 ha
       have:=List.mem_range.1 hi
       exact hIn _ (by omega) (by omega)
     gln:=by simp [newI]
     wts:=fun a ha=>by
       obtain rfl:=List.mem_singleton.1 ha
       exact hIn _ he.1 he.2
     wpos:=fun _=>by simp
     frs:=fun f hf=>by cases hf
     run:=fun _ f hf=>by cases hf
     base:=by show (0:Int)≤0∧(0:Int)≤1048576;omega
     young:=hy
     inp:=hf.inp
     ln:=Int.le_refl _
     lf:=by simp [newI]
     lw:=by simp [newI]
     lt:=by simp [newI]
     ne5:=by simp [newI]}
theorem new_alive (h:newErr T entry input heap every=0):Alive 0 (newM T entry input heap gens every):=by
 by_cases hroom:(T.globals.length:Int)≤heap
 · exact .inl (newM_ok h hroom)
 · refine .inr ?_
   unfold newM
   rw [if_neg hroom]
theorem new_kd:(newM T entry input heap gens every).st.kd≠.ref:=by
 unfold newM newI newKd
 split<;>(cases gens<;>exact fun h=>by cases h)
theorem new_steps:(newM T entry input heap gens every).steps=0:=by unfold newM newI;split<;>rfl
theorem new_told:(newM T entry input heap gens every).told=[]:=by unfold newM newI;split<;>rfl
theorem new_frames:(newM T entry input heap gens every).frames=[]:=by unfold newM newI;split<;>rfl
structure Good (n:Int) (M:Mc):Prop where
 al:Alive n M
 kd:M.st.kd≠.ref
 gl:M.ended=0→0 < M.globals.length
 lf:(M.frames.length:Int)≤n
 lt:(M.told.length:Int)≤n
 st:0≤M.steps∧M.steps≤n
theorem newM_good (h:newErr T entry input heap every=0):Good 0 (newM T entry input heap gens every):=by
 refine ⟨new_alive h,new_kd,fun he=>?_,by rw [new_frames];exact Int.le_refl _,by rw [new_told];exact Int.le_refl _,by rw [new_steps];omega⟩
 rcases new_alive (gens:=gens) h with hk | hk
 · rw [hk.gln]
   have:=(new_facts h).ent
   have e:(newM T entry input heap gens every).tab=T:=by unfold newM newI;split<;>rfl
   rw [e]
   omega
 · omega
theorem Good.step {n:Int} {M:Mc} (h:Good n M):Good (n+1) M.step:=by
 have hst:=step_steps M
 have hs:0≤M.step.steps∧M.step.steps≤n+1:=by have:=h.st;rw [hst];split<;>omega
 have hk:=step_kd h.kd
 by_cases he:M.ended=0
 · have hok:=h.al.ok he
   have hgl:0 < M.step.globals.length:=by rw [(stat_step M).gl];exact h.gl he
   refine ⟨h.al.step,hk,fun _=>hgl,?_,?_,hs⟩
   all_goals rcases hok.step he with ⟨hw,e⟩ | ⟨_,hw,_⟩
   · rw [e,(out_of hok hw).frames];have:=h.lf;omega
   · exact hw.lf
   · rw [e,(out_of hok hw).told];have:=h.lt;omega
   · exact hw.lt
 · have e:=step_end he
   rw [e]
   have h1:=h.lf
   have h2:=h.lt
   have h3:=h.st
   have h4:=h.al.step
   rw [e] at h4
   exact ⟨h4,h.kd,h.gl,by omega,by omega,by omega⟩
theorem Good.steps {n:Int} {M:Mc} (h:Good n M) (k:Nat):Good (n+k) (M.steps' k):=by
 induction k with
 | zero=>
   have e:n+((0:Nat):Int)=n:=by simp
   rw [e];exact h
 | succ k ih=>
   have:=ih.step
   have e:n+(k:Int)+1=n+((k+1:Nat):Int):=by omega
   rw [e] at this
   exact this
end
end
section
open Go Go.W
structure Mcn where
 m:Nat
 S:SV
 M:Mc
 n:Int
def Crew (w:World) (l:List Mcn) (N:Nat→Prop):Prop:=
 ∃ (τ:Nat→Tag) (ks:Nat→List Nat),(∀ i p,l[i]? = some p→MAt w (τ i) p.m p.S p.M (ks i)∧Good p.n p.M)∧(∀ i j,i≠j→∀ b,b < w.heap.size→τ i b = .no∨τ j b = .no)∧(∀ i b,N b→τ i b = .no)∧∀ b,N b→b < w.heap.size
section
variable {w w':World} {l:List Mcn} {N:Nat→Prop}
theorem crew_nil (hN:∀ b,N b→b < w.heap.size):Crew w [] N:=
 ⟨fun _ _=>.no,fun _=>[],(fun i p h=>by cases h),(fun _ _ _ _ _=>.inl rfl),(fun _ _ _=>rfl),hN⟩
theorem crew_less (h:Crew w l N) {N':Nat→Prop} (hN:∀ b,N' b→N b):Crew w l N':=by
 obtain ⟨τ,ks,h1,h2,h3,h4⟩:=h
 exact ⟨τ,ks,h1,h2,fun i b hb=>h3 i b (hN b hb),fun b hb=>h4 b (hN b hb)⟩
theorem crew_mod (h:Crew w l N) {X:Nat→Prop} (hm:Mod X w w') (hX:∀ b,X b→b < w.heap.size→N b):Crew w' l (fun b=>N b∨(w.heap.size≤b∧b < w'.heap.size)):=by
 obtain ⟨τ,ks,h1,h2,h3,h4⟩:=h
 have hs:=hm.size
 refine ⟨fun i=>newTag (τ i) w .no,ks,fun i p hp=>?_,fun i j hij b hb=>?_,fun i b hb=>?_,fun b hb=>?_⟩
 · obtain ⟨k1,k2⟩:=h1 i p hp
   exact ⟨k1.mod hm (newTag_ext (τ i) w .no).wx (fun b hb hx=>h3 i b (hX b hx hb)),k2⟩
 · by_cases hlt:b < w.heap.size
   · simp only [newTag,if_pos hlt];exact h2 i j hij b hlt
   · exact .inl (newTag_new (by omega))
 · by_cases hlt:b < w.heap.size
   · simp only [newTag,if_pos hlt]
     rcases hb with hb | hb
     · exact h3 i b hb
     · omega
   · exact newTag_new (by omega)
 · rcases hb with hb | hb
   · have:=h4 b hb;omega
   · exact hb.2
theorem crew_later (h:Crew w l N) (hm:Mod (fun _=>False) w w'):Crew w' l (fun b=>N b∨(w.heap.size≤b∧b < w'.heap.size)):=crew_mod h hm (fun _ h=>h.elim)
theorem crew_new (h:Crew w l N) (hm:Mod (fun _=>False) w w') {M:Mc} {m:Nat} {S:SV} {τ0:Tag} (hA:MAt w' τ0 m S M []) (h0:∀ b,b < w.heap.size→τ0 b = .no) {n:Int} (hg:Good n M):Crew w' (l++[⟨m,S,M,n⟩]) N:=by
 obtain ⟨τ,ks,h1,h2,h3,h4⟩:=h
 have hs:=hm.size
 refine ⟨fun i=>if i=l.length then τ0 else newTag (τ i) w .no,fun i=>if i=l.length then [] else ks i,fun i p hp=>?_,fun i j hij b hb=>?_,fun i b hb=>?_,fun b hb=>?_⟩
 · by_cases hi:i=l.length
   · subst hi
     simp at hp
     subst hp
     simp only [if_pos]
     exact ⟨hA,hg⟩
   · have hlt:i < l.length:=by
       have:=(List.getElem?_eq_some_iff.1 hp).1
       simp at this
       omega
     rw [List.getElem?_append_left hlt] at hp
     obtain ⟨k1,k2⟩:=h1 i p hp
     simp only [if_neg hi]
     exact ⟨k1.mod hm (newTag_ext (τ i) w .no).wx (fun _ _ h=>h.elim),k2⟩
 · have key:∀ k,k≠l.length→(w.heap.size≤b→newTag (τ k) w .no b = .no):=fun k _ hb=>newTag_new hb
   by_cases hi:i=l.length
   · have hj:j≠l.length:=fun e=>hij (hi.trans e.symm)
     simp only [if_pos hi,if_neg hj]
     by_cases hlt:b < w.heap.size
     · exact .inl (h0 b hlt)
     · exact .inr (key j hj (by omega))
   · simp only [if_neg hi]
     by_cases hlt:b < w.heap.size
     · by_cases hj:j=l.length
       · simp only [if_pos hj];exact .inr (h0 b hlt)
       · simp only [if_neg hj,newTag,if_pos hlt];exact h2 i j hij b hlt
     · exact .inl (key i hi (by omega))
 · have hb4:=h4 b hb
   by_cases hi:i=l.length
   · simp only [if_pos hi];exact h0 b hb4
   · simp only [if_neg hi,newTag,if_pos hb4];exact h3 i b hb
 · have:=h4 b hb;omega
theorem crew_do (h:Crew w l N) {i:Nat} {p:Mcn} (hi:l[i]? = some p):∃ τ ks,MAt w τ p.m p.S p.M ks∧Good p.n p.M ∧
   ∀ {w':World} {M':Mc} {ks':List Nat} {n':Int},MOp w τ p.m p.S M' ks' w'→Good n' M'→Crew w' (l.set i ⟨p.m,p.S,M',n'⟩) N∧Mod (fun b=>¬ N b) w w':=by
 obtain ⟨τ,ks,h1,h2,h3,h4⟩:=h
 obtain ⟨k1,k2⟩:=h1 i p hi
 refine ⟨τ i,ks i,k1,k2,fun {w' M' ks' n'} hop hg=>?_⟩
 obtain ⟨τ',j1,j2,j3⟩:=hop
 have hs:=j3.size
 have hil:=(List.getElem?_eq_some_iff.1 hi).1
 refine ⟨⟨fun j=>if j=i then τ' else newTag (τ j) w .no,fun j=>if j=i then ks' else ks j,fun j q hq=>?_,fun j k hjk b hb=>?_,fun j b hb=>?_,fun b hb=>?_⟩,j3.weak (fun b hb hN=>?_)⟩
 · by_cases hj:j=i
   · subst hj
     rw [List.getElem?_set_self (by omega)] at hq
     obtain rfl:=Option.some.inj hq
     simp only [if_pos]
     exact ⟨j2,hg⟩
   · rw [List.getElem?_set_ne (by omega)] at hq
     obtain ⟨q1,q2⟩:=h1 j q hq
     simp only [if_neg hj]
     refine ⟨q1.mod j3 (newTag_ext (τ j) w .no).wx (fun b hb hx=>?_),q2⟩
     rcases h2 i j (fun e=>hj e.symm) b hb with e | e
     · exact absurd e hx.1
     · exact e
 · by_cases hlt:b < w.heap.size
   · have e:∀ x,(if x=i then τ' else newTag (τ x) w .no) b=τ x b:=by
       intro x
       by_cases hx:x=i
       · subst hx;simp only [if_pos];exact j1 b hlt
       · simp only [if_neg hx,newTag,if_pos hlt]
     show (if j=i then τ' else newTag (τ j) w .no) b = .no∨(if k=i then τ' else newTag (τ k) w .no) b = .no
     rw [e,e]
     exact h2 j k hjk b hlt
   · by_cases hj:j=i
     · have hk:k≠i:=fun e=>hjk (hj.trans e.symm)
       simp only [if_neg hk];exact .inr (newTag_new (by omega))
     · simp only [if_neg hj];exact .inl (newTag_new (by omega))
 · have hb4:=h4 b hb
   by_cases hj:j=i
   · subst hj;simp only [if_pos];rw [j1 b hb4];exact h3 j b hb
   · simp only [if_neg hj,newTag,if_pos hb4];exact h3 j b hb
 · have:=h4 b hb;omega
 · exact hb.1 (h3 i b hN)
variable {i:Nat} {m:Nat} {S:SV} {M:Mc} {n:Int}
theorem g_run (h:Crew w l N) (hi:l[i]? = some ⟨m,S,M,n⟩) (hn:n≤400000) {c:Int} (hc:c≤400000):CallsR Tryz.prog 18 [ptr m,I c] w fun r w'=>
   r=I ((M.steps' c.toNat).steps - M.steps)∧Crew w' (l.set i ⟨m,S,M.steps' c.toNat,n+c.toNat⟩) N∧Mod (fun b=>¬ N b) w w':=by
 obtain ⟨τ,ks,h1,h2,h3⟩:=crew_do h hi
 have h2:Good n M:=h2
 have h1:MAt w τ m S M ks:=h1
 have hst:=h2.st
 refine (m_run h1 h2.al (by omega) (by have:=h2.lf;omega) h2.kd ⟨hst.1,by omega⟩ h2.gl hc).mono ?_
 rintro r w' ⟨rfl,ks',hop⟩
 exact ⟨rfl,h3 hop (h2.steps _)⟩
theorem m_step' {τ:Tag} {ks:List Nat} (h:MAt w τ m S M ks) (hg:Good n M) (hn:n≤400000) :
   CallsR Tryz.prog 24 [ptr m] w fun r w'=>r = .tuple #[I (stepR M).1,I (stepR M).2]∧∃ ks',MOp w τ m S M.step ks' w':=by
 by_cases he:M.ended=0
 · have hst:=hg.st
   exact m_step h (hg.al.ok he) (by omega) hg.kd ⟨hst.1,by omega⟩ (hg.gl he)
 · obtain ⟨vG,vF,vW,vT,fg,ff,fw,ft,F,hh⟩:=id h
   have hc:=hh.cells
   refine fit24.calls rfl ?_
   unfold ir24
   (try simp only [go_sem,simprocAttr,cell_of hc,mcCells,ptr])
   refine ir_cond rfl (fun he=>?_) (fun h0=>?_)
   · simp only [zb1,zb2,zb3,zb4,zb5] at he
     have e1:stepR M=(0,221):=by unfold stepR;rw [if_pos he]
     have e2:M.step=M:=by unfold Mc.step;rw [if_pos he]
     rw [e1,e2]
     (try simp only [go_sem,simprocAttr])
     exact ⟨ks,τ,ext_refl _ _,h,Mod.refl _ _⟩
   · simp only [zb1,zb2,zb3,zb4,zb5] at h0
     exact absurd h0 he
theorem g_step (h:Crew w l N) (hi:l[i]? = some ⟨m,S,M,n⟩) (hn:n≤400000):CallsR Tryz.prog 24 [ptr m] w fun r w'=>
   r = .tuple #[I (stepR M).1,I (stepR M).2]∧Crew w' (l.set i ⟨m,S,M.step,n+1⟩) N∧Mod (fun b=>¬ N b) w w':=by
 obtain ⟨τ,ks,h1,h2,h3⟩:=crew_do h hi
 have h2:Good n M:=h2
 have h1:MAt w τ m S M ks:=h1
 refine (m_step' h1 h2 hn).mono ?_
 rintro r w' ⟨rfl,ks',hop⟩
 exact ⟨rfl,h3 hop h2.step⟩
theorem g_outcome (h:Crew w l N) (hi:l[i]? = some ⟨m,S,M,n⟩) (hn:n≤400000):CallsR Tryz.prog 11 [ptr m] w fun r w'=>
   (∃ v,r=outV (outKind M) v M.stuck M.steps∧ToldAt w w' v M.told)∧Crew w' l (fun b=>N b∨(w.heap.size≤b∧b < w'.heap.size))∧Mod (fun _=>False) w w':=by
 obtain ⟨τ,ks,h1,h2,h3⟩:=crew_do h hi
 have h2:Good n M:=h2
 have h1:MAt w τ m S M ks:=h1
 refine (m_outcome h1 (by have:=h2.lt;omega)).mono ?_
 rintro r w' ⟨v,e,ht,hm⟩
 exact ⟨⟨v,e,ht⟩,crew_later h hm,hm⟩
theorem g_sight (h:Crew w l N) (hi:l[i]? = some ⟨m,S,M,n⟩) (hn:n≤400000):CallsR Tryz.prog 22 [ptr m] w fun r w'=>
   SightV w w' M r∧Crew w' l (fun b=>N b∨(w.heap.size≤b∧b < w'.heap.size))∧Mod (fun _=>False) w w':=by
 obtain ⟨τ,ks,h1,h2,h3⟩:=crew_do h hi
 have h2:Good n M:=h2
 have h1:MAt w τ m S M ks:=h1
 refine (m_sight h1 h2.al (by omega) (by have:=h2.lf;omega)).mono ?_
 rintro r w' ⟨e,hm⟩
 exact ⟨e,crew_later h hm,hm⟩
end
end
section
open Go Go.W
def ir6L1:IR:=.seq (.seq (.reg false [.r (some 95) (.bi .add (.t 4) (.t 5)),
.r (some 96) (.bi .lss (.t 22) (.t 95)),
.gr 96 true (some 98) (.mv (.t 21)),
.gr 96 true (some 99) (.no (.t 98)),
.r (some 100) (.pk (.t 96) (.t 99) (.c (.bool false)))] [4,5,14,15,16,17,18,19,20,22,100]) <|
 .cond (.t 100) (.skip) ((.exit 0))) <|
 .seq (.block 1 (.seq (.reg false [.e (some 104) (.call 11 [(.t 16)]),
.e (some 23) (.al 39 (.agg #[(.int .i64 0),(.slice none 0 0),(.int .i64 0),(.int .i64 0),(.int .i64 0),(.int .i64 0),(.int .i64 0),(.string ⟨#[]⟩)])),
.e none (.st 8 (.t 23) (.t 104))] [4,5,14,15,16,17,18,19,22,23]) <|
 .seq (.reg false [.e (some 107) (.call 24 [(.t 16)]),
.r (some 108) (.ex 0 (.t 107)),
.r (some 109) (.ex 1 (.t 107)),
.r (some 24) (.mv (.t 108)),
.r (some 25) (.mv (.t 109))] [4,5,14,15,16,17,18,19,22,23,24,25]) <|
 .seq (.reg false [.e (some 111) (.call 11 [(.t 16)]),
.e (some 26) (.al 39 (.agg #[(.int .i64 0),(.slice none 0 0),(.int .i64 0),(.int .i64 0),(.int .i64 0),(.int .i64 0),(.int .i64 0),(.string ⟨#[]⟩)])),
.e none (.st 8 (.t 26) (.t 111))] [4,5,14,15,16,17,18,19,22,23,24,25,26]) <|
 .seq (.reg false [.r (some 113) (.bi .neq (.t 25) (.c (.int .i64 0))),
.gr 113 false (some 115) (.mv (.t 24)),
.gr 113 false (some 116) (.bi .neq (.t 115) (.c (.int .i64 0))),
.r (some 117) (.pk (.t 113) (.c (.bool true)) (.t 116)),
.r (some 21) (.mv (.t 117))] [4,5,14,15,16,17,18,19,21,22,23,24,25,26]) <|
 .seq (.reg false [.r (some 118) (.fa 3 (.t 26)),
.r (some 119) (.l1 (.t 118)),
.r (some 20) (.mv (.t 119))] [4,5,14,15,16,17,18,19,20,21,22,23,24,25,26]) <|
 .seq (.reg false [.r (some 120) (.fa 0 (.t 23)),
.r (some 121) (.l1 (.t 120)),
.r (some 122) (.bi .neq (.t 121) (.c (.int .i64 4))),
.r (some 27) (.mv (.t 122))] [4,5,14,15,16,17,18,19,20,21,22,24,25,26,27]) <|
 .seq (.reg false [.r (some 125) (.bi .eql (.t 25) (.c (.int .i64 221))),
.r (some 126) (.eq .bool true (.t 27) (.t 125)),
.gr 126 false (some 128) (.mv (.t 27)),
.gr 126 false (some 129) (.mv (.t 128)),
.gr 129 true (some 130) (.mv (.t 24)),
.gr 129 true (some 131) (.bi .neq (.t 130) (.c (.int .i64 0))),
.gr 126 false (some 132) (.pk (.t 129) (.t 131) (.c (.bool false))),
.r (some 133) (.pk (.t 126) (.c (.bool true)) (.t 132)),
.gr 133 false (some 135) (.mv (.t 27)),
.gr 133 false (some 136) (.no (.t 135)),
.gr 133 false (some 137) (.mv (.t 136)),
.gr 137 true (some 138) (.mv (.t 25)),
.gr 137 true (some 139) (.bi .neq (.t 138) (.c (.int .i64 0))),
.gr 137 true (some 140) (.mv (.t 139)),
.gr 140 false (some 141) (.mv (.t 24)),
.gr 140 false (some 142) (.bi .neq (.t 141) (.c (.int .i64 0))),
.gr 140 false (some 143) (.mv (.t 142)),
.gr 143 true (some 144) (.mv (.t 24)),
.gr 143 true (some 145) (.fa 0 (.t 26)),
.gr 143 true (some 146) (.l1 (.t 145)),
.gr 143 true (some 147) (.bi .neq (.t 144) (.t 146)),
.gr 140 false (some 148) (.pk (.t 143) (.t 147) (.c (.bool false))),
.gr 137 true (some 149) (.pk (.t 140) (.c (.bool true)) (.t 148)),
.gr 137 true (some 150) (.mv (.t 149)),
.gr 150 false (some 151) (.mv (.t 24)),
.gr 150 false (some 152) (.bi .eql (.t 151) (.c (.int .i64 0))),
.gr 150 false (some 153) (.mv (.t 152)),
.gr 153 true (some 154) (.fa 0 (.t 26)),
.gr 153 true (some 155) (.l1 (.t 154)),
.gr 153 true (some 156) (.bi .neq (.t 155) (.c (.int .i64 4))),
.gr 150 false (some 157) (.pk (.t 153) (.t 156) (.c (.bool false))),
.gr 137 true (some 158) (.pk (.t 150) (.c (.bool true)) (.t 157)),
.gr 133 false (some 159) (.pk (.t 137) (.t 158) (.c (.bool false))),
.r (some 160) (.pk (.t 133) (.c (.bool true)) (.t 159))] [4,5,14,15,16,17,18,19,20,21,22,160]) <|
 .cond (.t 160) (.seq (.reg false [.r (some 12) (.mv (.c (.bool false)))] [12]) <|
 .ret) (.skip))) <|
 .reg false [.r (some 102) (.bi .add (.t 22) (.c (.int .i64 1))),
.r (some 22) (.mv (.t 102))] [4,5,14,15,16,17,18,19,20,21,22]
def ir6:IR:=.seq (.reg false [.e (some 6) (.bx 25 (.t 0)),
.e (some 9) (.bx 28 (.t 3))] [1,2,4,5,6,9]) <|
 .seq (.reg false [.e (some 32) (.call 7 []),
.r (some 13) (.mv (.t 32))] [1,2,4,5,6,9,13]) <|
 .seq (.reg false [.r (some 34) (.mm false (.t 4) (.c (.int .i64 5000))),
.r (some 35) (.mm true (.t 34) (.c (.int .i64 0))),
.r (some 4) (.mv (.t 35))] [1,2,4,5,6,9,13]) <|
 .seq (.reg false [.r (some 37) (.mm false (.t 5) (.c (.int .i64 5000))),
.r (some 38) (.mm true (.t 37) (.c (.int .i64 0))),
.r (some 5) (.mv (.t 38))] [1,2,4,5,6,9,13]) <|
 .seq (.reg false [.r (some 39) (.ln 2 (.t 6)),
.r (some 42) (.ln 3 (.t 9)),
.e (some 43) (.call 8 [(.t 39),(.t 1),(.t 2),(.t 42),(.c (.int .i64 0))]),
.r (some 14) (.mv (.t 43))] [1,2,4,5,6,9,13,14]) <|
 .seq (.reg false [.r (some 44) (.ln 2 (.t 6)),
.r (some 47) (.ln 3 (.t 9)),
.e (some 48) (.call 8 [(.t 44),(.t 1),(.t 2),(.t 47),(.c (.int .i64 0))]),
.r (some 15) (.mv (.t 48))] [1,2,4,5,6,9,13,14,15]) <|
 .seq (.reg false [.r (some 49) (.ln 2 (.t 6)),
.r (some 52) (.ln 3 (.t 9)),
.e (some 53) (.call 8 [(.t 49),(.t 1),(.t 2),(.t 52),(.c (.int .i64 0))]),
.r (some 16) (.mv (.t 53))] [4,5,13,14,15,16]) <|
 .seq (.seq (.reg false [.r (some 55) (.no (.t 13)),
.gr 55 false (some 57) (.mv (.t 14)),
.gr 55 false (some 58) (.eq .ptr false (.t 57) (.c (.pointer none))),
.r (some 59) (.pk (.t 55) (.c (.bool true)) (.t 58)),
.gr 59 false (some 61) (.mv (.t 15)),
.gr 59 false (some 62) (.eq .ptr false (.t 61) (.c (.pointer none))),
.r (some 63) (.pk (.t 59) (.c (.bool true)) (.t 62)),
.gr 63 false (some 65) (.mv (.t 16)),
.gr 63 false (some 66) (.eq .ptr false (.t 65) (.c (.pointer none))),
.r (some 67) (.pk (.t 63) (.c (.bool true)) (.t 66))] [4,5,13,14,15,16,67]) <|
 .cond (.t 67) (.seq (.reg false [.gr 13 true (some 70) (.mv (.t 14)),
.gr 13 true (some 71) (.eq .ptr false (.t 70) (.c (.pointer none))),
.r (some 72) (.pk (.t 13) (.t 71) (.c (.bool false))),
.gr 72 true (some 74) (.mv (.t 15)),
.gr 72 true (some 75) (.eq .ptr false (.t 74) (.c (.pointer none))),
.r (some 76) (.pk (.t 72) (.t 75) (.c (.bool false))),
.gr 76 true (some 78) (.mv (.t 16)),
.gr 76 true (some 79) (.eq .ptr false (.t 78) (.c (.pointer none))),
.r (some 80) (.pk (.t 76) (.t 79) (.c (.bool false))),
.r (some 12) (.mv (.t 80))] [12]) <|
 .ret) (.skip)) <|
 .seq (.reg false [.e (some 83) (.call 18 [(.t 14),(.t 4)]),
.r (some 17) (.mv (.t 83))] [4,5,14,15,16,17]) <|
 .seq (.reg false [.e (some 86) (.call 18 [(.t 14),(.t 5)]),
.r (some 18) (.mv (.t 86))] [4,5,14,15,16,17,18]) <|
 .seq (.reg false [.r (some 90) (.bi .add (.t 4) (.t 5)),
.e (some 91) (.call 18 [(.t 15),(.t 90)]),
.r (some 19) (.mv (.t 91))] [4,5,14,15,16,17,18,19]) <|
 .seq (.reg false [.r (some 20) (.mv (.c (.int .i64 0)))] [4,5,14,15,16,17,18,19,20]) <|
 .seq (.reg false [.r (some 21) (.mv (.c (.bool false)))] [4,5,14,15,16,17,18,19,20,21]) <|
 .seq (.seq (.reg false [.r (some 22) (.mv (.c (.int .i64 0)))] [4,5,14,15,16,17,18,19,20,21,22]) <|
 .block 0 (.loop ir6L1)) <|
 .seq (.reg false [.e (some 162) (.call 11 [(.t 14)]),
.e (some 164) (.call 11 [(.t 15)]),
.e (some 165) (.call 12 [(.t 162),(.t 164)]),
.r (some 28) (.mv (.t 165))] [14,15,16,17,18,19,20,28]) <|
 .seq (.reg false [.e (some 167) (.call 11 [(.t 14)]),
.e (some 169) (.call 11 [(.t 16)]),
.e (some 170) (.call 12 [(.t 167),(.t 169)]),
.r (some 29) (.mv (.t 170))] [14,15,16,17,18,19,20,28,29]) <|
 .seq (.reg false [.e (some 172) (.call 22 [(.t 14)]),
.e (some 174) (.call 22 [(.t 15)]),
.e (some 175) (.call 21 [(.t 172),(.t 174)]),
.r (some 30) (.mv (.t 175))] [14,16,17,18,19,20,28,29,30]) <|
 .seq (.reg false [.e (some 177) (.call 22 [(.t 14)]),
.e (some 179) (.call 22 [(.t 16)]),
.e (some 180) (.call 21 [(.t 177),(.t 179)]),
.r (some 31) (.mv (.t 180))] [17,18,19,20,28,29,30,31]) <|
 .seq (.reg false [.r (some 183) (.bi .add (.t 17) (.t 18)),
.r (some 185) (.bi .eql (.t 183) (.t 19)),
.gr 185 true (some 187) (.mv (.t 19)),
.gr 185 true (some 188) (.mv (.t 20)),
.gr 185 true (some 189) (.bi .eql (.t 187) (.t 188)),
.r (some 190) (.pk (.t 185) (.t 189) (.c (.bool false))),
.gr 190 true (some 192) (.mv (.t 28)),
.r (some 193) (.pk (.t 190) (.t 192) (.c (.bool false))),
.gr 193 true (some 195) (.mv (.t 29)),
.r (some 196) (.pk (.t 193) (.t 195) (.c (.bool false))),
.gr 196 true (some 198) (.mv (.t 30)),
.r (some 199) (.pk (.t 196) (.t 198) (.c (.bool false))),
.gr 199 true (some 201) (.mv (.t 31)),
.r (some 202) (.pk (.t 199) (.t 201) (.c (.bool false))),
.r (some 12) (.mv (.t 202))] [12]) <|
 .ret
theorem fit6:Fits Tryz.prog 6 6 (hOf Tryz.f6 ir6) ir6 [.t 12] 203:=⟨Tryz.f6,_,rfl,rfl,rfl,by decide,by kernel_rfl,by kernel_rfl⟩
def ir7:IR:=.seq (.reg false [] []) <|
 .seq (.reg false [.r (some 9) (.bd #[(.int .i64 0),(.int .i64 0),(.int .i64 0)] [(0,1,(.c (.int .i64 3))),(1,1,(.c (.int .i64 1)))]),
.r (some 10) (.bd #[(.int .i64 0),(.int .i64 0),(.int .i64 0)] [(0,1,(.c (.int .i64 3))),(1,1,(.c (.int .i64 2)))]),
.r (some 11) (.bd #[(.int .i64 0),(.int .i64 0),(.int .i64 0)] [(0,1,(.c (.int .i64 12))),(1,1,(.c (.int .i64 1)))]),
.r (some 12) (.bd #[(.int .i64 0),(.int .i64 0),(.int .i64 0)] [(0,1,(.c (.int .i64 7))),(1,1,(.c (.int .i64 1)))]),
.r (some 13) (.bd #[(.int .i64 0),(.int .i64 0),(.int .i64 0)] [(0,1,(.c (.int .i64 17)))]),
.e (some 14) (.bs 66 5 #[(.int .i64 0),(.int .i64 0),(.int .i64 0),(.int .i64 0),(.int .i64 0),(.int .i64 0),(.int .i64 0),(.int .i64 0),(.int .i64 0),(.int .i64 0),(.int .i64 0),(.int .i64 0),(.int .i64 0),(.int .i64 0),(.int .i64 0)] [(0,3,(.t 9)),(3,3,(.t 10)),(6,3,(.t 11)),(9,3,(.t 12)),(12,3,(.t 13))]),
.r (some 1) (.mv (.t 14))] [1]) <|
 .seq (.reg false [.e (some 16) (.call 25 []),
.r (some 18) (.bd #[(.string ⟨#[]⟩),(.int .i64 0),(.slice none 0 0)] [(0,1,(.c (.string ⟨#[109]⟩))),(2,1,(.t 1))]),
.e (some 19) (.bs 70 1 #[(.string ⟨#[]⟩),(.int .i64 0),(.slice none 0 0)] [(0,3,(.t 18))]),
.r (some 20) (.bd #[(.slice none 0 0),(.slice none 0 0)] [(0,1,(.t 16)),(1,1,(.t 19))]),
.r (some 21) (.bd #[(.int .i64 0),(.bool false),(.int .i64 0)] [(0,1,(.c (.int .i64 100)))]),
.e (some 22) (.call 15 [(.t 20),(.c (.string ⟨#[109]⟩)),(.c (.slice none 0 0)),(.t 21)]),
.r (some 23) (.ex 0 (.t 22)),
.r (some 24) (.ex 1 (.t 22)),
.r (some 2) (.mv (.t 23)),
.r (some 3) (.mv (.t 24))] [2,3]) <|
 .seq (.seq (.reg false [.r (some 26) (.eq .ptr false (.t 2) (.c (.pointer none))),
.gr 26 false (some 28) (.mv (.t 3)),
.gr 26 false (some 29) (.bi .neq (.t 28) (.c (.int .i64 0))),
.r (some 30) (.pk (.t 26) (.c (.bool true)) (.t 29))] [2,30]) <|
 .cond (.t 30) (.seq (.reg false [.r (some 0) (.mv (.c (.bool false)))] [0]) <|
 .ret) (.skip)) <|
 .seq (.reg false [.e (some 33) (.call 24 [(.t 2)]),
.r (some 34) (.ex 0 (.t 33)),
.r (some 35) (.ex 1 (.t 33)),
.r (some 4) (.mv (.t 34)),
.r (some 5) (.mv (.t 35))] [2,4,5]) <|
 .seq (.reg false [.e (some 37) (.call 11 [(.t 2)]),
.e (some 6) (.al 39 (.agg #[(.int .i64 0),(.slice none 0 0),(.int .i64 0),(.int .i64 0),(.int .i64 0),(.int .i64 0),(.int .i64 0),(.string ⟨#[]⟩)])),
.e none (.st 8 (.t 6) (.t 37))] [2,4,5,6]) <|
 .seq (.seq (.reg false [.r (some 39) (.bi .neq (.t 4) (.c (.int .i64 0))),
.gr 39 false (some 41) (.mv (.t 5)),
.gr 39 false (some 42) (.bi .neq (.t 41) (.c (.int .i64 0))),
.r (some 43) (.pk (.t 39) (.c (.bool true)) (.t 42)),
.gr 43 false (some 45) (.fa 3 (.t 6)),
.gr 43 false (some 46) (.l1 (.t 45)),
.gr 43 false (some 47) (.bi .neq (.t 46) (.c (.int .i64 1))),
.r (some 48) (.pk (.t 43) (.c (.bool true)) (.t 47))] [2,48]) <|
 .cond (.t 48) (.seq (.reg false [.r (some 0) (.mv (.c (.bool false)))] [0]) <|
 .ret) (.skip)) <|
 .seq (.reg false [.e (some 50) (.call 18 [(.t 2),(.c (.int .i64 50))]),
.r (some 7) (.mv (.t 50))] [2,7]) <|
 .seq (.reg false [.e (some 52) (.call 11 [(.t 2)]),
.e (some 8) (.al 39 (.agg #[(.int .i64 0),(.slice none 0 0),(.int .i64 0),(.int .i64 0),(.int .i64 0),(.int .i64 0),(.int .i64 0),(.string ⟨#[]⟩)])),
.e none (.st 8 (.t 8) (.t 52))] [7,8]) <|
 .seq (.reg false [.r (some 54) (.bi .eql (.t 7) (.c (.int .i64 8))),
.gr 54 true (some 56) (.fa 3 (.t 8)),
.gr 54 true (some 57) (.l1 (.t 56)),
.gr 54 true (some 58) (.bi .eql (.t 57) (.c (.int .i64 9))),
.r (some 59) (.pk (.t 54) (.t 58) (.c (.bool false))),
.gr 59 true (some 61) (.fa 0 (.t 8)),
.gr 59 true (some 62) (.l1 (.t 61)),
.gr 59 true (some 63) (.bi .eql (.t 62) (.c (.int .i64 2))),
.r (some 64) (.pk (.t 59) (.t 63) (.c (.bool false))),
.gr 64 true (some 66) (.fa 1 (.t 8)),
.gr 64 true (some 67) (.l1 (.t 66)),
.gr 64 true (some 68) (.len (.t 67)),
.gr 64 true (some 69) (.bi .eql (.t 68) (.c (.int .i64 1))),
.r (some 70) (.pk (.t 64) (.t 69) (.c (.bool false))),
.gr 70 true (some 72) (.fa 1 (.t 8)),
.gr 70 true (some 73) (.l1 (.t 72)),
.gr 70 true (some 74) (.ia 2 (.t 73) (.c (.int .i64 0))),
.gr 70 true (some 75) (.ln 2 (.t 74)),
.gr 70 true (some 76) (.bd #[(.string ⟨#[]⟩),(.int .i64 0)] [(1,1,(.c (.int .i64 3)))]),
.gr 70 true (some 77) (.eqa false [(0,.str),(1,.int)] (.t 75) (.t 76)),
.r (some 78) (.pk (.t 70) (.t 77) (.c (.bool false))),
.r (some 0) (.mv (.t 78))] [0]) <|
 .ret
theorem fit7:Fits Tryz.prog 7 0 (hOf Tryz.f7 ir7) ir7 [.t 0] 79:=⟨Tryz.f7,_,rfl,rfl,rfl,by decide,by kernel_rfl,by kernel_rfl⟩
def ir8:IR:=.seq (.reg false [.e (some 5) (.bx 25 (.t 0)),
.e (some 8) (.bx 28 (.t 3))] [1,2,4,5,8]) <|
 .seq (.reg false [.r (some 14) (.ln 2 (.t 5)),
.r (some 17) (.ln 3 (.t 8)),
.e (some 18) (.call 15 [(.t 14),(.t 1),(.t 2),(.t 17)]),
.r (some 19) (.ex 0 (.t 18)),
.r (some 20) (.ex 1 (.t 18)),
.r (some 11) (.mv (.t 19)),
.r (some 12) (.mv (.t 20))] [4,11,12]) <|
 .seq (.seq (.reg false [.r (some 22) (.eq .ptr false (.t 11) (.c (.pointer none))),
.gr 22 false (some 24) (.mv (.t 12)),
.gr 22 false (some 25) (.bi .neq (.t 24) (.c (.int .i64 0))),
.r (some 26) (.pk (.t 22) (.c (.bool true)) (.t 25))] [4,11,26]) <|
 .cond (.t 26) (.seq (.reg false [.r (some 10) (.mv (.c (.pointer none)))] [10]) <|
 .ret) (.skip)) <|
 .seq (.reg false [.r (some 29) (.mm false (.t 4) (.c (.int .i64 20000))),
.e (some 30) (.call 18 [(.t 11),(.t 29)])] [11]) <|
 .seq (.reg false [.r (some 10) (.mv (.t 11))] [10]) <|
 .ret
theorem fit8:Fits Tryz.prog 8 5 (hOf Tryz.f8 ir8) ir8 [.t 10] 32:=⟨Tryz.f8,_,rfl,rfl,rfl,by decide,by kernel_rfl,by kernel_rfl⟩
def ir12:IR:=.seq (.reg false [.e (some 2) (.bx 39 (.t 0)),
.e (some 3) (.bx 39 (.t 1))] [2,3]) <|
 .seq (.reg false [.r (some 6) (.fa 1 (.t 2)),
.r (some 7) (.l1 (.t 6)),
.r (some 8) (.fa 1 (.t 3)),
.r (some 9) (.l1 (.t 8)),
.e (some 10) (.call 19 [(.t 7),(.t 9)]),
.r (some 5) (.mv (.t 10))] [2,3,5]) <|
 .seq (.reg false [.r (some 11) (.fa 0 (.t 2)),
.r (some 12) (.l1 (.t 11)),
.r (some 13) (.fa 0 (.t 3)),
.r (some 14) (.l1 (.t 13)),
.r (some 15) (.bi .eql (.t 12) (.t 14)),
.gr 15 true (some 17) (.fa 2 (.t 2)),
.gr 15 true (some 18) (.l1 (.t 17)),
.gr 15 true (some 19) (.fa 2 (.t 3)),
.gr 15 true (some 20) (.l1 (.t 19)),
.gr 15 true (some 21) (.bi .eql (.t 18) (.t 20)),
.r (some 22) (.pk (.t 15) (.t 21) (.c (.bool false))),
.gr 22 true (some 24) (.fa 3 (.t 2)),
.gr 22 true (some 25) (.l1 (.t 24)),
.gr 22 true (some 26) (.fa 3 (.t 3)),
.gr 22 true (some 27) (.l1 (.t 26)),
.gr 22 true (some 28) (.bi .eql (.t 25) (.t 27)),
.r (some 29) (.pk (.t 22) (.t 28) (.c (.bool false))),
.gr 29 true (some 31) (.fa 4 (.t 2)),
.gr 29 true (some 32) (.ln 4 (.t 31)),
.gr 29 true (some 33) (.fa 4 (.t 3)),
.gr 29 true (some 34) (.ln 4 (.t 33)),
.gr 29 true (some 35) (.eqa false [(0,.int),(1,.int),(2,.int),(3,.str)] (.t 32) (.t 34)),
.r (some 36) (.pk (.t 29) (.t 35) (.c (.bool false))),
.gr 36 true (some 38) (.mv (.t 5)),
.r (some 39) (.pk (.t 36) (.t 38) (.c (.bool false))),
.r (some 4) (.mv (.t 39))] [4]) <|
 .ret
theorem fit12:Fits Tryz.prog 12 2 (hOf Tryz.f12 ir12) ir12 [.t 4] 40:=⟨Tryz.f12,_,rfl,rfl,rfl,by decide,by kernel_rfl,by kernel_rfl⟩
def ir19:IR:=.seq (.reg false [] [0,1]) <|
 .seq (.reg false [.e (some 8) (.call 23 [(.t 0),(.t 1)]),
.r (some 5) (.mv (.t 8))] [0,1,5]) <|
 .seq (.reg false [.gr 5 true (some 11) (.mv (.t 0)),
.gr 5 true (some 12) (.len (.t 11)),
.gr 5 true (some 13) (.mv (.t 1)),
.gr 5 true (some 14) (.len (.t 13)),
.gr 5 true (some 15) (.bi .eql (.t 12) (.t 14)),
.r (some 16) (.pk (.t 5) (.t 15) (.c (.bool false))),
.r (some 4) (.mv (.t 16))] [4]) <|
 .ret
theorem fit19:Fits Tryz.prog 19 2 (hOf Tryz.f19 ir19) ir19 [.t 4] 17:=⟨Tryz.f19,_,rfl,rfl,rfl,by decide,by kernel_rfl,by kernel_rfl⟩
def ir21L1:IR:=.seq (.seq (.reg false [.r (some 35) (.fa 1 (.t 2)),
.r (some 36) (.l1 (.t 35)),
.r (some 37) (.len (.t 36)),
.r (some 38) (.bi .lss (.t 5) (.t 37))] [2,3,5,38]) <|
 .cond (.t 38) (.skip) ((.exit 0))) <|
 .seq (.block 1 (.seq (.reg true [.r (some 41) (.fa 1 (.t 2)),
.r (some 42) (.l1 (.t 41)),
.r (some 43) (.mv (.t 5)),
.r (some 44) (.ia 3 (.t 42) (.t 43)),
.r (some 45) (.ln 3 (.t 44)),
.r (some 46) (.fa 1 (.t 3)),
.r (some 47) (.l1 (.t 46)),
.r (some 48) (.mv (.t 5)),
.r (some 49) (.ia 3 (.t 47) (.t 48)),
.r (some 50) (.ln 3 (.t 49)),
.r (some 51) (.eqa true [(0,.int),(1,.int),(2,.int)] (.t 45) (.t 50))] [2,3,5,51]) <|
 .cond (.t 51) (.seq (.reg false [.r (some 4) (.mv (.c (.bool false)))] [4]) <|
 .ret) (.skip))) <|
 .reg false [.r (some 40) (.bi .add (.t 5) (.c (.int .i64 1))),
.r (some 5) (.mv (.t 40))] [2,3,5]
def ir21:IR:=.seq (.reg false [.e (some 2) (.bx 59 (.t 0)),
.e (some 3) (.bx 59 (.t 1))] [2,3]) <|
 .seq (.seq (.reg false [.r (some 6) (.fa 0 (.t 2)),
.r (some 7) (.l1 (.t 6)),
.r (some 8) (.fa 0 (.t 3)),
.r (some 9) (.l1 (.t 8)),
.r (some 10) (.bi .neq (.t 7) (.t 9)),
.gr 10 false (some 12) (.fa 2 (.t 2)),
.gr 10 false (some 13) (.l1 (.t 12)),
.gr 10 false (some 14) (.fa 2 (.t 3)),
.gr 10 false (some 15) (.l1 (.t 14)),
.gr 10 false (some 16) (.bi .neq (.t 13) (.t 15)),
.r (some 17) (.pk (.t 10) (.c (.bool true)) (.t 16)),
.gr 17 false (some 19) (.fa 3 (.t 2)),
.gr 17 false (some 20) (.l1 (.t 19)),
.gr 17 false (some 21) (.fa 3 (.t 3)),
.gr 17 false (some 22) (.l1 (.t 21)),
.gr 17 false (some 23) (.bi .neq (.t 20) (.t 22)),
.r (some 24) (.pk (.t 17) (.c (.bool true)) (.t 23)),
.gr 24 false (some 26) (.fa 1 (.t 2)),
.gr 24 false (some 27) (.l1 (.t 26)),
.gr 24 false (some 28) (.len (.t 27)),
.gr 24 false (some 29) (.fa 1 (.t 3)),
.gr 24 false (some 30) (.l1 (.t 29)),
.gr 24 false (some 31) (.len (.t 30)),
.gr 24 false (some 32) (.bi .neq (.t 28) (.t 31)),
.r (some 33) (.pk (.t 24) (.c (.bool true)) (.t 32))] [2,3,33]) <|
 .cond (.t 33) (.seq (.reg false [.r (some 4) (.mv (.c (.bool false)))] [4]) <|
 .ret) (.skip)) <|
 .seq (.seq (.reg false [.r (some 5) (.mv (.c (.int .i64 0)))] [2,3,5]) <|
 .block 0 (.loop ir21L1)) <|
 .seq (.reg false [.r (some 4) (.mv (.c (.bool true)))] [4]) <|
 .ret
theorem fit21:Fits Tryz.prog 21 2 (hOf Tryz.f21 ir21) ir21 [.t 4] 52:=⟨Tryz.f21,_,rfl,rfl,rfl,by decide,by kernel_rfl,by kernel_rfl⟩
def ir23L1:IR:=.seq (.seq (.reg false [.r (some 8) (.len (.t 0)),
.r (some 9) (.bi .lss (.t 5) (.t 8)),
.gr 9 true (some 11) (.mv (.t 5)),
.gr 9 true (some 12) (.mv (.t 1)),
.gr 9 true (some 13) (.len (.t 12)),
.gr 9 true (some 14) (.bi .lss (.t 11) (.t 13)),
.r (some 15) (.pk (.t 9) (.t 14) (.c (.bool false)))] [0,1,5,15]) <|
 .cond (.t 15) (.skip) ((.exit 0))) <|
 .seq (.block 1 (.seq (.reg true [.r (some 18) (.mv (.t 0)),
.r (some 19) (.mv (.t 5)),
.r (some 20) (.ia 2 (.t 18) (.t 19)),
.r (some 21) (.ln 2 (.t 20)),
.r (some 22) (.mv (.t 1)),
.r (some 23) (.mv (.t 5)),
.r (some 24) (.ia 2 (.t 22) (.t 23)),
.r (some 25) (.ln 2 (.t 24)),
.r (some 26) (.eqa true [(0,.str),(1,.int)] (.t 21) (.t 25))] [0,1,5,26]) <|
 .cond (.t 26) (.seq (.reg false [.r (some 4) (.mv (.c (.bool false)))] [4]) <|
 .ret) (.skip))) <|
 .reg false [.r (some 17) (.bi .add (.t 5) (.c (.int .i64 1))),
.r (some 5) (.mv (.t 17))] [0,1,5]
def ir23:IR:=.seq (.reg false [] [0,1]) <|
 .seq (.seq (.reg false [.r (some 5) (.mv (.c (.int .i64 0)))] [0,1,5]) <|
 .block 0 (.loop ir23L1)) <|
 .seq (.reg false [.r (some 4) (.mv (.c (.bool true)))] [4]) <|
 .ret
theorem fit23:Fits Tryz.prog 23 2 (hOf Tryz.f23 ir23) ir23 [.t 4] 27:=⟨Tryz.f23,_,rfl,rfl,rfl,by decide,by kernel_rfl,by kernel_rfl⟩
def ir25:IR:=.seq (.reg false [] []) <|
 .seq (.reg false [.r (some 1) (.bd #[(.string ⟨#[]⟩),(.int .i64 0)] [(0,1,(.c (.string ⟨#[70,97,108,115,101]⟩)))]),
.r (some 2) (.bd #[(.string ⟨#[]⟩),(.int .i64 0)] [(0,1,(.c (.string ⟨#[84,114,117,101]⟩)))]),
.r (some 3) (.bd #[(.string ⟨#[]⟩),(.int .i64 0)] [(0,1,(.c (.string ⟨#[85,110,105,116]⟩)))]),
.r (some 4) (.bd #[(.string ⟨#[]⟩),(.int .i64 0)] [(0,1,(.c (.string ⟨#[78,105,108]⟩)))]),
.r (some 5) (.bd #[(.string ⟨#[]⟩),(.int .i64 0)] [(0,1,(.c (.string ⟨#[67,111,110,115]⟩))),(1,1,(.c (.int .i64 2)))]),
.r (some 6) (.bd #[(.string ⟨#[]⟩),(.int .i64 0)] [(0,1,(.c (.string ⟨#[80,97,105,114]⟩))),(1,1,(.c (.int .i64 2)))]),
.r (some 7) (.bd #[(.string ⟨#[]⟩),(.int .i64 0)] [(0,1,(.c (.string ⟨#[84,114,105,112,108,101]⟩))),(1,1,(.c (.int .i64 3)))]),
.e (some 8) (.bs 89 7 #[(.string ⟨#[]⟩),(.int .i64 0),(.string ⟨#[]⟩),(.int .i64 0),(.string ⟨#[]⟩),(.int .i64 0),(.string ⟨#[]⟩),(.int .i64 0),(.string ⟨#[]⟩),(.int .i64 0),(.string ⟨#[]⟩),(.int .i64 0),(.string ⟨#[]⟩),(.int .i64 0)] [(0,2,(.t 1)),(2,2,(.t 2)),(4,2,(.t 3)),(6,2,(.t 4)),(8,2,(.t 5)),(10,2,(.t 6)),(12,2,(.t 7))]),
.r (some 0) (.mv (.t 8))] [0]) <|
 .ret
theorem fit25:Fits Tryz.prog 25 0 (hOf Tryz.f25 ir25) ir25 [.t 0] 9:=⟨Tryz.f25,_,rfl,rfl,rfl,by decide,by kernel_rfl,by kernel_rfl⟩
end
section
open Go Go.W
def itEq (a b:It):Bool:=decide (a.con=b.con)&&decide (a.num=b.num)
theorem itEq_iff (a b:It):itEq a b=true↔a=b:=by
 unfold itEq
 simp only [Bool.and_eq_true,decide_eq_true_eq]
 constructor
 · rintro ⟨h1,h2⟩;cases a;cases b;simp_all
 · rintro rfl;exact ⟨rfl,rfl⟩
def begS:List It→List It→Bool
 | [],_=>true
 | _,[]=>true
 | a::l,b::m=>itEq a b&&begS l m
theorem begS_at {l m:List It} {i:Nat} (h1:i < l.length) (h2:i < m.length):begS (l.drop i) (m.drop i)=(itEq l[i] m[i]&&begS (l.drop (i+1)) (m.drop (i+1))):=by
 rw [List.drop_eq_getElem_cons h1,List.drop_eq_getElem_cons h2];rfl
theorem begS_end {l m:List It} {i:Nat} (h:l.length≤i∨m.length≤i):begS (l.drop i) (m.drop i)=true:=by
 rcases h with h | h
 · rw [List.drop_eq_nil_of_le h];cases m.drop i<;>rfl
 · rw [List.drop_eq_nil_of_le h];cases l.drop i<;>rfl
theorem begS_same:∀ (l m:List It),(begS l m&&decide (l.length=m.length))=true↔l=m:=by
 intro l
 induction l with
 | nil=>
   intro m
   cases m with
   | nil=>simp [begS]
   | cons b m=>simp [begS]
 | cons a l ih=>
   intro m
   cases m with
   | nil=>simp [begS]
   | cons b m=>
     have:=ih m
     simp only [begS,Bool.and_eq_true,decide_eq_true_eq,List.length_cons,List.cons.injEq,itEq_iff] at this ⊢
     constructor
     · rintro ⟨⟨h1,h2⟩,h3⟩;exact ⟨h1,this.1 ⟨h2,by omega⟩⟩
     · rintro ⟨h1,h2⟩;have:=this.2 h2;exact ⟨⟨h1,this.1⟩,by omega⟩
def ItsAt (w:World) (v:Value) (l:List It):Prop:=∃ B,RowsAt w v 2 (l.map itRow) B
theorem ItsAt.mod {w w':World} {v:Value} {l:List It} (h:ItsAt w v l) (hm:Mod (fun _=>False) w w'):ItsAt w' v l:=by
 obtain ⟨B,h⟩:=h
 exact ⟨B,h.mod hm (fun _ _ h=>h) (fun _ h=>h)⟩
theorem itRow_len (l:List It):∀ r∈l.map itRow,r.length=2:=by
 intro r hr
 obtain ⟨x,_,rfl⟩:=List.mem_map.1 hr
 rfl
theorem ToldAt.its {w w':World} {v:Value} {l:List It} (h:ToldAt w w' v l):ItsAt w' v l:=by
 obtain ⟨fp,h1,_⟩:=h
 refine ⟨_,own_rows (rows:=l.map itRow) (fp:=fp) (T:=72) ?_ (itRow_len l)⟩
 rw [List.length_map,List.flatMap_map]
 exact h1
theorem its_sl {w:World} {v:Value} {l:List It} (h:ItsAt w v l):∃ a c,v = .slice a l.length c:=by
 obtain ⟨B,h⟩:=h
 obtain ⟨a,c,e⟩:=rows_sl h
 exact ⟨a,c,by rw [e,List.length_map]⟩
theorem its_ln {w:World} {v:Value} {l:List It} (h:ItsAt w v l) {i:Nat} (hi:i < l.length):∃ ad c,v = .slice (some ad) l.length c∧vLN w 2 (.pointer (some (ad.add (i*2))))=some (.agg #[.string l[i].con,I l[i].num]):=by
 obtain ⟨B,h⟩:=h
 obtain ⟨ad,c,e,h1,h2⟩:=row_at h (i:=i) (by simpa using hi)
 refine ⟨ad,c,by rw [e,List.length_map],ln_2 ?_ ?_⟩
 · rw [h2 0 (by rw [h1];omega)];simp [itRow]
 · rw [h2 1 (by rw [h1];omega)];simp [itRow]
section
variable {w:World} {v1 v2:Value} {l1 l2:List It}
theorem f_begins (h1:ItsAt w v1 l1) (h2:ItsAt w v2 l2) (hb:l1.length≤4611686018427387904):CallsR Tryz.prog 23 [v1,v2] w fun r w'=>r = .bool (begS l1 l2)∧Mod (fun _=>False) w w':=by
 obtain ⟨a1,c1,rfl⟩:=its_sl h1
 obtain ⟨a2,c2,rfl⟩:=its_sl h2
 refine fit23.calls rfl ?_
 unfold ir23
 (try simp only [go_sem,simprocAttr])
 refine ir_loop (fun z ρ w'=>∃ i:Nat,z=l1.length - i∧i≤l1.length∧Mod (fun _=>False) w w'∧begS l1 l2=begS (l1.drop i) (l2.drop i) ∧
   ρ=[(0,.slice a1 l1.length c1),(1,.slice a2 l2.length c2),(5,I i)]) l1.length ⟨0,rfl,by omega,Mod.refl _ _,rfl,rfl⟩ ?_
 rintro z ρ w2 ⟨i,rfl,hi,hm2,heq,rfl⟩
 unfold ir23L1
 (try simp only [go_sem,simprocAttr])
 refine wpS_cut (fun ρ w'=>w2=w'∧ρ.get 0=some (.slice a1 l1.length c1)∧ρ.get 1=some (.slice a2 l2.length c2)∧ρ.get 5=some (I i)∧ρ.get 15=some (.bool (decide (i < l1.length∧i < l2.length)))) ?_ ?_
 · cases q:decide ((i:Int) < l1.length)<;>(try simp only [go_sem,simprocAttr,q])<;>(simp only [zb1,zb2,zb3,zb4,zb5] at q;simp [q];try omega)
 rintro ρ _ ⟨rfl,r0,r1,r5,r15⟩
 (try simp only [go_sem,simprocAttr,r0,r1,r5,r15])
 refine ir_cond rfl (fun hlt=>?_) (fun hlt=>?_)
 · simp only [zb1,zb2,zb3,zb4,zb5] at hlt
   have hat:=begS_at hlt.1 hlt.2
   have hm2d:=hm2.drew
   obtain ⟨ad1,c1',e1,hl1⟩:=its_ln (h1.mod hm2d) hlt.1
   obtain ⟨ad2,c2',e2,hl2⟩:=its_ln (h2.mod hm2d) hlt.2
   cases e1;cases e2
   have b1:(0:Int)≤i∧(i:Int) < l1.length:=by omega
   have b2:(0:Int)≤i∧(i:Int) < l2.length:=by omega
   have e3:IntKind.i64.wrap ((i:Int)+1)=((i+1:Nat):Int):=by rw [wrap_in (by omega) (by omega)];omega
   (try simp only [go_sem,simprocAttr,zb4,zb6,b1,b2,hl1,hl2,ba_leq,ieq])
   have e4:(decide (l1[i].con=l2[i].con)&&decide (l1[i].num=l2[i].num))=itEq l1[i] l2[i]:=rfl
   rw [e4]
   refine ir_cond rfl (fun hz=>?_) (fun hz=>?_)
   · (try simp only [go_sem,simprocAttr])
     rw [heq,hat,show itEq l1[i] l2[i]=false by simpa using hz]
     exact ⟨rfl,hm2d⟩
   · (try simp only [go_sem,simprocAttr,e3])
     exact ⟨_,by omega,i+1,rfl,by omega,hm2d,by rw [heq,hat,show itEq l1[i] l2[i]=true by simpa using hz];rfl,rfl⟩
 · simp only [zb1,zb2,zb3,zb4,zb5] at hlt
   (try simp only [go_sem,simprocAttr])
   rw [heq,begS_end (by omega)]
   exact ⟨rfl,hm2⟩
theorem f_sameTold (h1:ItsAt w v1 l1) (h2:ItsAt w v2 l2) (hb:l1.length≤4611686018427387904):CallsR Tryz.prog 19 [v1,v2] w fun r w'=>(∃ t:Bool,r = .bool t∧(t=true↔l1=l2))∧Mod (fun _=>False) w w':=by
 have h1':=h1
 have h2':=h2
 obtain ⟨a1,c1,rfl⟩:=its_sl h1
 obtain ⟨a2,c2,rfl⟩:=its_sl h2
 refine fit19.calls rfl ?_
 unfold ir19
 (try simp only [go_sem,simprocAttr])
 refine e_call (by rfl) ?_
 refine (f_begins h1' h2' hb).mono ?_
 rintro _ w1 ⟨rfl,hm1⟩
 have hs:=begS_same l1 l2
 have e:((l1.length:Int) == (l2.length:Int))=decide (l1.length=l2.length):=by rw [ieq];exact decide_eq_decide.2 (by omega)
 cases hb:begS l1 l2
 · rw [hb] at hs
   (try simp only [go_sem,simprocAttr])
   exact ⟨⟨_,rfl,hs⟩,hm1⟩
 · rw [hb,Bool.true_and] at hs
   (try simp only [go_sem,simprocAttr,e])
   exact ⟨⟨_,rfl,hs⟩,hm1⟩
theorem f_same {k1 k2 s1 s2 n1 n2:Int} (h1:ItsAt w v1 l1) (h2:ItsAt w v2 l2) (hb:l1.length≤4611686018427387904) :
   CallsR Tryz.prog 12 [outV k1 v1 s1 n1,outV k2 v2 s2 n2] w fun r w'=>(∃ t:Bool,r = .bool t∧(t=true↔k1=k2∧s1=s2∧n1=n2∧l1=l2))∧Mod (fun _=>False) w w':=by
 have h1':=h1
 have h2':=h2
 obtain ⟨a1,c1,rfl⟩:=its_sl h1
 obtain ⟨a2,c2,rfl⟩:=its_sl h2
 refine fit12.calls rfl ?_
 unfold ir12 outV
 (try simp only [go_sem,simprocAttr])
 refine e_bx rfl ?_
 intro w1 hb1 hm1 hs1
 (try simp only [go_sem,simprocAttr])
 refine e_bx rfl ?_
 intro w2 hb2 hm2 hs2
 have hb12:=hm2.at hb1 (fun h=>h)
 have hm02:=hm1.trans hm2
 (try simp only [go_sem,simprocAttr,cell_of hb12,cell_of hb2,Value.cells])
 refine e_call (by rfl) ?_
 refine (f_sameTold (h1'.mod hm02) (h2'.mod hm02) hb).mono ?_
 rintro _ w3 ⟨⟨t,rfl,ht⟩,hm3⟩
 have hm03:=hm02.trans hm3
 have hb13:=hm3.at hb12 (fun h=>h)
 have hb23:=hm3.at hb2 (fun h=>h)
 have hb13':w3.heap[w.heap.size]? = some (.cells [I k1,.slice a1 l1.length c1,I s1,I n1,I 0,I 0,I 0,.string ⟨#[]⟩].toArray 39 (0,0)):=hb13
 have hb23':w3.heap[w1.heap.size]? = some (.cells [I k2,.slice a2 l2.length c2,I s2,I n2,I 0,I 0,I 0,.string ⟨#[]⟩].toArray 39 (0,0)):=hb23
 have ln1:=ln_of (off:=4) (n:=4) hb13' (by simp)
 have ln2:=ln_of (off:=4) (n:=4) hb23' (by simp)
 cases q1:(k1 == k2)<;>cases q2:(s1 == s2)<;>cases q3:(n1 == n2)<;>(try simp only [go_sem,simprocAttr,cell_of hb13',cell_of hb23',q1,q2,q3,ln1,ln2,List.drop_succ_cons,List.drop_zero,List.take_succ_cons,List.take_zero,Int.reduceBEq,beq_self_eq_true,Bool.and_true,Bool.and_self,Bool.true_and])<;>(rw [ieq] at q1 q2 q3;simp only [zb1,zb2,zb3,zb4,zb5] at q1;simp only [zb1,zb2,zb3,zb4,zb5] at q2;simp only [zb1,zb2,zb3,zb4,zb5] at q3;refine ⟨⟨_,rfl,?_⟩,hm03⟩;simp [q1,q2,q3,ht])
end
end
section
open Go Go.W
structure Tri where
 a:Int
 b:Int
 c:Int
def triRow (t:Tri):List Value:=[I t.a,I t.b,I t.c]
def seeT (f:Fr):Tri:=if f.runs=true then ⟨f.glob,f.at',f.stack.length⟩ else ⟨-1,0,f.spine.length⟩
theorem seeT_row (f:Fr):triRow (seeT f)=seeRow f:=by unfold seeT seeRow triRow;split<;>rfl
def triEq (x y:Tri):Bool:=decide (x.a=y.a)&&(decide (x.b=y.b)&&decide (x.c=y.c))
theorem triEq_iff (x y:Tri):triEq x y=true↔x=y:=by
 unfold triEq
 simp only [Bool.and_eq_true,decide_eq_true_eq]
 constructor
 · rintro ⟨h1,h2,h3⟩;cases x;cases y;simp_all
 · rintro rfl;exact ⟨rfl,rfl,rfl⟩
def TrisAt (w:World) (v:Value) (l:List Tri):Prop:=∃ B,RowsAt w v 3 (l.map triRow) B
theorem TrisAt.mod {w w':World} {v:Value} {l:List Tri} (h:TrisAt w v l) (hm:Mod (fun _=>False) w w'):TrisAt w' v l:=by
 obtain ⟨B,h⟩:=h
 exact ⟨B,h.mod hm (fun _ _ h=>h) (fun _ h=>h)⟩
theorem triRow_len (l:List Tri):∀ r∈l.map triRow,r.length=3:=by
 intro r hr
 obtain ⟨x,_,rfl⟩:=List.mem_map.1 hr
 rfl
structure Vis where
 steps:Int
 live:Int
 ended:Int
 fr:List Tri
def visOf (M:Mc):Vis:=⟨M.steps,liveOf M,M.ended,M.frames.reverse.map seeT⟩
def VisAt (w:World) (r:Value) (V:Vis):Prop:=∃ v,r = .agg #[I V.steps,v,I V.live,I V.ended]∧TrisAt w v V.fr
theorem VisAt.mod {w w':World} {r:Value} {V:Vis} (h:VisAt w r V) (hm:Mod (fun _=>False) w w'):VisAt w' r V:=by
 obtain ⟨v,e,h⟩:=h
 exact ⟨v,e,h.mod hm⟩
theorem SightV.vis {w w':World} {M:Mc} {r:Value} (h:SightV w w' M r):VisAt w' r (visOf M):=by
 obtain ⟨v,fp,e,h1,_⟩:=h
 refine ⟨v,e,_,own_rows (rows:=(M.frames.reverse.map seeT).map triRow) (fp:=fp) (T:=100) ?_ (triRow_len _)⟩
 have e1:((M.frames.reverse.map seeT).map triRow).flatMap id=M.frames.reverse.flatMap seeRow:=by
   rw [List.map_map,List.flatMap_map]
   congr 1
   funext f
   exact seeT_row f
 rw [e1]
 simpa using h1
theorem tri_sl {w:World} {v:Value} {l:List Tri} (h:TrisAt w v l):∃ a c,v = .slice a l.length c:=by
 obtain ⟨B,h⟩:=h
 obtain ⟨a,c,e⟩:=rows_sl h
 exact ⟨a,c,by rw [e,List.length_map]⟩
theorem tri_ln {w:World} {v:Value} {l:List Tri} (h:TrisAt w v l) {i:Nat} (hi:i < l.length):∃ ad c,v = .slice (some ad) l.length c∧vLN w 3 (.pointer (some (ad.add (i*3))))=some (.agg #[I l[i].a,I l[i].b,I l[i].c]):=by
 obtain ⟨B,h⟩:=h
 obtain ⟨ad,c,e,h1,h2⟩:=row_at h (i:=i) (by simpa using hi)
 refine ⟨ad,c,by rw [e,List.length_map],ln_3 ?_ ?_ ?_⟩
 · rw [h2 0 (by rw [h1];omega)];simp [triRow]
 · rw [h2 1 (by rw [h1];omega)];simp [triRow]
 · rw [h2 2 (by rw [h1];omega)];simp [triRow]
theorem tri_all {l m:List Tri} (hl:l.length=m.length) (h:∀ i (h1:i < l.length) (h2:i < m.length),l[i]=m[i]):l=m:=List.ext_getElem hl h
section
variable {w:World} {r1 r2:Value} {V1 V2:Vis}
theorem f_sameSight (h1:VisAt w r1 V1) (h2:VisAt w r2 V2) (hb:V1.fr.length≤4611686018427387904) :
   CallsR Tryz.prog 21 [r1,r2] w fun r w'=>(∃ t:Bool,r = .bool t∧(t=true↔V1=V2))∧Mod (fun _=>False) w w':=by
 obtain ⟨v1,rfl,h1⟩:=h1
 obtain ⟨v2,rfl,h2⟩:=h2
 have h1':=h1
 have h2':=h2
 obtain ⟨a1,c1,rfl⟩:=tri_sl h1
 obtain ⟨a2,c2,rfl⟩:=tri_sl h2
 refine fit21.calls rfl ?_
 unfold ir21
 (try simp only [go_sem,simprocAttr])
 refine e_bx rfl ?_
 intro w1 hb1 hm1 hs1
 (try simp only [go_sem,simprocAttr])
 refine e_bx rfl ?_
 intro w2 hb2 hm2 hs2
 have hb12:=hm2.at hb1 (fun h=>h)
 have hm02:=hm1.trans hm2
 obtain ⟨s1,l1,e1,f1⟩:=V1
 obtain ⟨s2,l2,e2,f2⟩:=V2
 have fin:∀ {w3:World} {t:Bool},Mod (fun _=>False) w2 w3→(t=true↔Vis.mk s1 l1 e1 f1=Vis.mk s2 l2 e2 f2)→(∃ u:Bool,Value.bool t = .bool u∧(u=true↔Vis.mk s1 l1 e1 f1=Vis.mk s2 l2 e2 f2))∧Mod (fun _=>False) w w3:=fun hm ht=>⟨⟨_,rfl,ht⟩,hm02.trans hm⟩
 have hb12':w2.heap[w.heap.size]? = some (.cells #[I s1,.slice a1 f1.length c1,I l1,I e1] 59 (0,0)):=hb12
 have hb2':w2.heap[w1.heap.size]? = some (.cells #[I s2,.slice a2 f2.length c2,I l2,I e2] 59 (0,0)):=hb2
 cases q1:(s1 == s2)
 · (try simp only [go_sem,simprocAttr,cell_of hb12',cell_of hb2',q1,bne,Bool.not_false])
   exact fin (Mod.refl _ _) ⟨fun h=>(nomatch h),fun h=>by cases h;simp at q1⟩
 cases q2:(l1 == l2)
 · (try simp only [go_sem,simprocAttr,cell_of hb12',cell_of hb2',q1,q2,bne,Bool.not_false,Bool.not_true])
   exact fin (Mod.refl _ _) ⟨fun h=>(nomatch h),fun h=>by cases h;simp at q2⟩
 cases q3:(e1 == e2)
 · (try simp only [go_sem,simprocAttr,cell_of hb12',cell_of hb2',q1,q2,q3,bne,Bool.not_false,Bool.not_true])
   exact fin (Mod.refl _ _) ⟨fun h=>(nomatch h),fun h=>by cases h;simp at q3⟩
 cases q4:((f1.length:Int) == (f2.length:Int))
 · (try simp only [go_sem,simprocAttr,cell_of hb12',cell_of hb2',q1,q2,q3,q4,bne,Bool.not_false,Bool.not_true])
   exact fin (Mod.refl _ _) ⟨fun h=>(nomatch h),fun h=>by cases h;simp at q4⟩
 (try simp only [go_sem,simprocAttr,cell_of hb12',cell_of hb2',q1,q2,q3,q4,bne,Bool.not_false,Bool.not_true])
 rw [beq_iff_eq] at q1 q2 q3 q4
 subst q1 q2 q3
 have q4:f1.length=f2.length:=by omega
 refine ir_loop (fun z ρ w'=>∃ i:Nat,z=f1.length - i∧i≤f1.length∧Mod (fun _=>False) w2 w'∧(∀ k (h1:k < f1.length) (h2:k < f2.length),k < i→f1[k]=f2[k]) ∧
   ρ=[(2,ptr w.heap.size),(3,ptr w1.heap.size),(5,I i)]) f1.length ⟨0,rfl,by omega,Mod.refl _ _,(fun k _ _ h=>by omega),rfl⟩ ?_
 rintro z ρ w3 ⟨i,rfl,hi,hm3,heq,rfl⟩
 unfold ir21L1
 have hb13:=hm3.at hb12' (fun h=>h)
 have hb23:=hm3.at hb2' (fun h=>h)
 (try simp only [go_sem,simprocAttr,cell_of hb13,cell_of hb23,ptr])
 refine ir_cond rfl (fun hlt=>?_) (fun hlt=>?_)
 · simp only [zb1,zb2,zb3,zb4,zb5] at hlt
   have hlt1:i < f1.length:=by omega
   have hlt2:i < f2.length:=by omega
   have hm3d:=hm3.drew
   have hb13d:=hm3d.at hb12' (fun h=>h)
   have hb23d:=hm3d.at hb2' (fun h=>h)
   obtain ⟨ad1,c1',k1,hl1⟩:=tri_ln (h1.mod (hm02.trans hm3d)) hlt1
   obtain ⟨ad2,c2',k2,hl2⟩:=tri_ln (h2.mod (hm02.trans hm3d)) hlt2
   cases k1;cases k2
   have b1:(0:Int)≤i∧(i:Int) < f1.length:=by omega
   have b2:(0:Int)≤i∧(i:Int) < f2.length:=by omega
   have e3:IntKind.i64.wrap ((i:Int)+1)=((i+1:Nat):Int):=by
     simp only at hb
     rw [wrap_in (by omega) (by omega)];omega
   have hti:=triEq_iff f1[i] f2[i]
   (try simp only [go_sem,simprocAttr,zb4,zb6,cell_of hb13,cell_of hb23,b1,b2,hl1,hl2,ieq])
   have e4:(!(decide (f1[i].a=f2[i].a)&&(decide (f1[i].b=f2[i].b)&&decide (f1[i].c=f2[i].c)))) = !triEq f1[i] f2[i]:=rfl
   rw [e4]
   refine ir_cond rfl (fun hz=>?_) (fun hz=>?_)
   · (try simp only [go_sem,simprocAttr])
     refine fin hm3d ⟨fun h=>(nomatch h),fun h=>?_⟩
     exfalso
     cases h
     have:=hti.2 rfl
     rw [this] at hz
     exact nomatch hz
   · (try simp only [go_sem,simprocAttr,e3])
     have hz':f1[i]=f2[i]:=hti.1 (by simpa using hz)
     refine ⟨_,by omega,i+1,rfl,by omega,hm3d,(fun k h1 h2 hk=>?_),rfl⟩
     rcases Nat.lt_succ_iff_lt_or_eq.1 hk with hk | rfl
     · exact heq k h1 h2 hk
     · exact hz'
 · simp only [zb1,zb2,zb3,zb4,zb5] at hlt
   (try simp only [go_sem,simprocAttr])
   exact fin hm3 ⟨fun _=>by rw [show f1=f2 from tri_all q4 (fun k h1 h2=>heq k h1 h2 (by omega))],fun _=>rfl⟩
end
end
section
open Go Go.W
structure Yard (w0 w:World) (l:List Mcn) (N:Nat→Prop):Prop where
 mod:Mod (fun _=>False) w0 w
 crew:Crew w l N
 old:∀ b,b < w0.heap.size→N b
section
variable {w0 w w':World} {l:List Mcn} {N:Nat→Prop}
theorem yard_nil (w:World):Yard w w [] (· < w.heap.size):=⟨Mod.refl _ _,crew_nil (fun _ h=>h),fun _ h=>h⟩
theorem yard_less (h:Yard w0 w l N) {N':Nat→Prop} (hN:∀ b,N' b→N b) (ho:∀ b,b < w0.heap.size→N' b):Yard w0 w l N':=⟨h.mod,crew_less h.crew hN,ho⟩
theorem yard_base (h:Yard w0 w l N):Yard w0 w l (· < w0.heap.size):=yard_less h h.old (fun _ h=>h)
theorem yard_later (h:Yard w0 w l N) (hm:Mod (fun _=>False) w w'):Yard w0 w' l (fun b=>N b∨(w.heap.size≤b∧b < w'.heap.size)):=
 ⟨h.mod.trans hm,crew_later h.crew hm,fun b hb=>.inl (h.old b hb)⟩
theorem yard_same (h:Yard w0 w l N) (hm:Mod (fun _=>False) w w'):Yard w0 w' l (· < w0.heap.size):=yard_base (yard_later h hm)
theorem yard_trans {l':List Mcn} {N':Nat→Prop} (h:Yard w0 w l N) (hc:Crew w' l' N') (hm:Mod (fun b=>¬ N b) w w') (hN:∀ b,b < w0.heap.size→N' b):Yard w0 w' l' N':=
 ⟨h.mod.step hm (fun b hb hl=>hb (h.old b hl)),hc,hN⟩
theorem yard_new (h:Yard w0 w l N) (hm:Mod (fun _=>False) w w') {M:Mc} {m:Nat} {S:SV} {τ0:Tag} (hA:MAt w' τ0 m S M []) (h0:∀ b,b < w.heap.size→τ0 b = .no) {n:Int} (hg:Good n M):Yard w0 w' (l++[⟨m,S,M,n⟩]) N:=
 ⟨h.mod.trans hm,crew_new h.crew hm hA h0 hg,h.old⟩
variable {i:Nat} {m:Nat} {S:SV} {M:Mc} {n:Int}
theorem y_run (h:Yard w0 w l N) (hi:l[i]? = some ⟨m,S,M,n⟩) (hn:n≤400000) {c:Int} (hc:c≤400000):CallsR Tryz.prog 18 [ptr m,I c] w fun r w'=>
   r=I ((M.steps' c.toNat).steps - M.steps)∧Yard w0 w' (l.set i ⟨m,S,M.steps' c.toNat,n+c.toNat⟩) N∧Mod (fun b=>¬ N b) w w':=by
 refine (g_run h.crew hi hn hc).mono ?_
 rintro r w' ⟨rfl,hc,hm⟩
 exact ⟨rfl,yard_trans h hc hm h.old,hm⟩
theorem y_step (h:Yard w0 w l N) (hi:l[i]? = some ⟨m,S,M,n⟩) (hn:n≤400000):CallsR Tryz.prog 24 [ptr m] w fun r w'=>
   r = .tuple #[I (stepR M).1,I (stepR M).2]∧Yard w0 w' (l.set i ⟨m,S,M.step,n+1⟩) N∧Mod (fun b=>¬ N b) w w':=by
 refine (g_step h.crew hi hn).mono ?_
 rintro r w' ⟨rfl,hc,hm⟩
 exact ⟨rfl,yard_trans h hc hm h.old,hm⟩
theorem y_outcome (h:Yard w0 w l N) (hi:l[i]? = some ⟨m,S,M,n⟩) (hn:n≤400000):CallsR Tryz.prog 11 [ptr m] w fun r w'=>
   (∃ v,r=outV (outKind M) v M.stuck M.steps∧ToldAt w w' v M.told)∧Yard w0 w' l (fun b=>N b∨(w.heap.size≤b∧b < w'.heap.size))∧Mod (fun _=>False) w w':=by
 refine (g_outcome h.crew hi hn).mono ?_
 rintro r w' ⟨hv,hc,hm⟩
 exact ⟨hv,⟨h.mod.trans hm,hc,fun b hb=>.inl (h.old b hb)⟩,hm⟩
theorem y_sight (h:Yard w0 w l N) (hi:l[i]? = some ⟨m,S,M,n⟩) (hn:n≤400000):CallsR Tryz.prog 22 [ptr m] w fun r w'=>
   SightV w w' M r∧Yard w0 w' l (fun b=>N b∨(w.heap.size≤b∧b < w'.heap.size))∧Mod (fun _=>False) w w':=by
 refine (g_sight h.crew hi hn).mono ?_
 rintro r w' ⟨hv,hc,hm⟩
 exact ⟨hv,⟨h.mod.trans hm,hc,fun b hb=>.inl (h.old b hb)⟩,hm⟩
end
theorem f_shapes (w:World):CallsR Tryz.prog 25 [] w fun r w'=>r = .slice (some ⟨w.heap.size,0,none⟩) 7 7∧w'.heap[w.heap.size]? = some (.cells (givenS.flatMap shRow).toArray 89 (0,0))∧Mod (fun _=>False) w w':=by
 refine fit25.calls rfl ?_
 unfold ir25
 (try simp only [go_sem,simprocAttr])
 refine e_bs (by rfl) (by rfl) ?_
 intro w1 hb1 hm1 _
 (try simp only [go_sem,simprocAttr])
 exact ⟨hb1,hm1⟩
def awC:List Ins:=[⟨3,1,0⟩,⟨3,2,0⟩,⟨12,1,0⟩,⟨7,1,0⟩,⟨17,0,0⟩]
def awT:Tab:=⟨givenS,[⟨⟨#[109]⟩,0,awC⟩]⟩
def awM:Mc:=newM awT ⟨#[109]⟩ [] 100 false 0
theorem aw_new:newErr awT ⟨#[109]⟩ [] 100 0=0:=by kernel_rfl
theorem aw_step:stepR awM=(0,0):=by kernel_rfl
theorem aw_steps1:awM.step.steps=1:=by kernel_rfl
theorem aw_steps2:(awM.step.steps' 50).steps=9:=by kernel_rfl
theorem aw_kind:outKind (awM.step.steps' 50)=2:=by kernel_rfl
theorem aw_told:(awM.step.steps' 50).told=[⟨⟨#[]⟩,3⟩]:=by kernel_rfl
theorem aw_fit:TabFit awT:=by
 refine ⟨by decide,by decide,?_,?_,?_,?_⟩
 all_goals decide
theorem out_one {w w':World} {v:Value} {l:List It} (hv:ToldAt w w' v l) (k st n:Int):∀ u∈[I k,v,I st,I n,I 0,I 0,I 0,.string ⟨#[]⟩],u.oneCell'=true:=by
 obtain ⟨fp,h,_⟩:=hv
 obtain ⟨a,c,rfl,_⟩:=h.val
 intro u hu
 simp only [List.mem_cons,List.not_mem_nil,or_false] at hu
 rcases hu with rfl | rfl | rfl | rfl | rfl | rfl | rfl | rfl<;>rfl
theorem nil_ints (w:World):Ints w (.slice none 0 0) []:=⟨none,0,rfl,by simp,fun i hi=>absurd hi (by simp)⟩
theorem f_awake (w:World):CallsR Tryz.prog 7 [] w fun r w'=>r = .bool true∧Mod (fun _=>False) w w':=by
 refine fit7.calls rfl ?_
 unfold ir7
 (try simp only [go_sem,Nat.reduceAdd,Nat.reduceEqDiff,Nat.reduceLT,Nat.reduceLeDiff,Nat.reduceMul,reduceCtorEq,↓reduceIte])
 refine e_bs (by rfl) (by rfl) ?_
 intro w1 hb1 hm1 hs1
 (try simp only [go_sem,Nat.reduceAdd,Nat.reduceEqDiff,Nat.reduceLT,Nat.reduceLeDiff,Nat.reduceMul,reduceCtorEq,↓reduceIte])
 refine e_call (by rfl) ?_
 refine (f_shapes w1).mono ?_
 rintro _ w2 ⟨rfl,hb2,hm2⟩
 (try simp only [go_sem,Nat.reduceAdd,Nat.reduceEqDiff,Nat.reduceLT,Nat.reduceLeDiff,Nat.reduceMul,reduceCtorEq,↓reduceIte])
 refine e_bs (by rfl) (by rfl) ?_
 intro w3 hb3 hm3 hs3
 have hT:TabAt w3 (.slice (some ⟨w1.heap.size,0,none⟩) 7 7) (.slice (some ⟨w2.heap.size,0,none⟩) 1 1) awT (· < w3.heap.size):=by
   have hb13:=(hm2.trans hm3).at hb1 (fun h=>h)
   have hb23:=hm3.at hb2 (fun h=>h)
   refine ⟨(own_rows (rows:=givenS.map shRow) (T:=89) (fp:=some w1.heap.size) (OwnS.of_block hb23 (by rfl)) (by decide)).mod (Mod.refl (fun _=>False) _) (fun _ _ h=>h) (fun b e=>by cases e;exact lt_of_heap hb23),[.slice (some ⟨w.heap.size,0,none⟩) 5 5],rfl,?_,?_⟩
   · exact (own_rows (rows:=[[.string ⟨#[109]⟩,I 0,.slice (some ⟨w.heap.size,0,none⟩) 5 5]]) (T:=70) (fp:=some w2.heap.size) (OwnS.of_block hb3 (by rfl)) (by intro r hr;cases hr with | head=>rfl | tail _ h=>cases h)).mod (Mod.refl (fun _=>False) _) (fun _ _ h=>h) (fun b e=>by cases e;exact lt_of_heap hb3)
   · intro i g v hg hv
     cases i with
     | zero=>
       cases hg;cases hv
       exact (own_rows (rows:=awC.map insRow) (T:=66) (fp:=some w.heap.size) (OwnS.of_block hb13 (by rfl)) (by intro r hr;obtain ⟨x,_,rfl⟩:=List.mem_map.1 hr;rfl)).mod (Mod.refl (fun _=>False) _) (fun _ _ h=>h) (fun b e=>by cases e;exact lt_of_heap hb13)
     | succ i=>cases hg
 have hm03:=(hm1.trans hm2).trans hm3
 have hY3:=yard_same (yard_nil w) hm03
 (try simp only [go_sem,Nat.reduceAdd,Nat.reduceEqDiff,Nat.reduceLT,Nat.reduceLeDiff,Nat.reduceMul,reduceCtorEq,↓reduceIte])
 refine e_call (by rfl) ?_
 refine (m_new (entry:=⟨#[109]⟩) (input:=[]) (heap:=100) (gens:=false) (every:=0) hT aw_fit (fun b h=>h) (nil_ints _)).mono ?_
 rintro _ w4 ⟨hm4,_,hn⟩
 obtain ⟨τ,m,S,rfl,hA,h0⟩:=hn aw_new
 have hY4:=yard_new hY3 hm4 hA h0 (newM_good (gens:=false) aw_new)
 (try simp only [go_sem,Nat.reduceAdd,Nat.reduceEqDiff,Nat.reduceLT,Nat.reduceLeDiff,Nat.reduceMul,reduceCtorEq,↓reduceIte,ptr])
 refine ir_cond rfl (fun hh=>absurd hh (by decide)) (fun _=>?_)
 (try simp only [go_sem,Nat.reduceAdd,Nat.reduceEqDiff,Nat.reduceLT,Nat.reduceLeDiff,Nat.reduceMul,reduceCtorEq,↓reduceIte])
 refine e_call (by rfl) ?_
 refine (y_step hY4 (i:=0) rfl (by decide)).mono ?_
 rintro _ w5 ⟨rfl,hY5,_⟩
 have e1:stepR (newM awT ⟨#[109]⟩ [] 100 false 0)=(0,0):=aw_step
 rw [e1]
 (try simp only [go_sem,Nat.reduceAdd,Nat.reduceEqDiff,Nat.reduceLT,Nat.reduceLeDiff,Nat.reduceMul,reduceCtorEq,↓reduceIte])
 refine e_call (by rfl) ?_
 refine (y_outcome hY5 (i:=0) rfl (by decide)).mono ?_
 rintro _ w6 ⟨⟨v1,rfl,hv1⟩,hY6,hm6⟩
 have hY6:=yard_base hY6
 have e2:(newM awT ⟨#[109]⟩ [] 100 false 0).step.steps=1:=aw_steps1
 rw [e2]
 (try simp only [go_sem,Nat.reduceAdd,Nat.reduceEqDiff,Nat.reduceLT,Nat.reduceLeDiff,Nat.reduceMul,reduceCtorEq,↓reduceIte])
 refine e_al ?_
 intro w7 hb7 hm7 hs7
 (try simp only [go_sem,Nat.reduceAdd,Nat.reduceEqDiff,Nat.reduceLT,Nat.reduceLeDiff,Nat.reduceMul,reduceCtorEq,↓reduceIte])
 refine e_sta (cs:=[I 0,.slice none 0 0,I 0,I 0,I 0,I 0,I 0,.string ⟨#[]⟩]) rfl rfl hb7 rfl rfl (out_one hv1 _ _ _) ?_
 intro w8 hb8 hm8 hs8
 have hm68:Mod (fun _=>False) w6 w8:=hm7.step hm8 (fun b hb hl=>by subst hb;omega)
 have hY8:=yard_same hY6 hm68
 (try simp only [go_sem,Nat.reduceAdd,Nat.reduceEqDiff,Nat.reduceLT,Nat.reduceLeDiff,Nat.reduceMul,reduceCtorEq,↓reduceIte,cell_of hb8,bne_self_eq_false,Int.reduceBNe,Bool.not_false])
 refine e_call (by rfl) ?_
 refine (y_run hY8 (i:=0) rfl (by decide) (c:=50) (by decide)).mono ?_
 rintro _ w9 ⟨rfl,hY9,_⟩
 have e3:((newM awT ⟨#[109]⟩ [] 100 false 0).step.steps' (50:Int).toNat).steps=9:=aw_steps2
 rw [e2,e3]
 (try simp only [go_sem,Nat.reduceAdd,Nat.reduceEqDiff,Nat.reduceLT,Nat.reduceLeDiff,Nat.reduceMul,reduceCtorEq,↓reduceIte])
 refine e_call (by rfl) ?_
 refine (y_outcome hY9 (i:=0) rfl (by decide)).mono ?_
 rintro _ w10 ⟨⟨v2,rfl,hv2⟩,hY10,hm10⟩
 have e4:((newM awT ⟨#[109]⟩ [] 100 false 0).step.steps' (50:Int).toNat).told=[⟨⟨#[]⟩,3⟩]:=aw_told
 have e5:outKind ((newM awT ⟨#[109]⟩ [] 100 false 0).step.steps' (50:Int).toNat)=2:=aw_kind
 rw [e4] at hv2
 rw [e3,e5]
 (try simp only [go_sem,Nat.reduceAdd,Nat.reduceEqDiff,Nat.reduceLT,Nat.reduceLeDiff,Nat.reduceMul,reduceCtorEq,↓reduceIte])
 refine e_al ?_
 intro w11 hb11 hm11 hs11
 (try simp only [go_sem,Nat.reduceAdd,Nat.reduceEqDiff,Nat.reduceLT,Nat.reduceLeDiff,Nat.reduceMul,reduceCtorEq,↓reduceIte])
 refine e_sta (cs:=[I 0,.slice none 0 0,I 0,I 0,I 0,I 0,I 0,.string ⟨#[]⟩]) rfl rfl hb11 rfl rfl (out_one hv2 _ _ _) ?_
 intro w12 hb12 hm12 hs12
 have hm1012:Mod (fun _=>False) w10 w12:=hm11.step hm12 (fun b hb hl=>by subst hb;omega)
 have hY12:=yard_same hY10 hm1012
 obtain ⟨ad,c,rfl,hl⟩:=its_ln (hv2.its.mod hm1012) (i:=0) (by decide)
 rw [Nat.zero_mul,add_zero'] at hl
 have b1:(0:Int)≤0∧(0:Int) < 1:=by decide
 (try simp only [go_sem,Nat.reduceAdd,Nat.reduceEqDiff,Nat.reduceLT,Nat.reduceLeDiff,Nat.reduceMul,reduceCtorEq,↓reduceIte,zb4,zb6,cell_of hb12,hl,b1,Int.natCast_one,ba_leq,ieq,decide_true,List.getElem_cons_zero,beq_self_eq_true,Int.reduceBEq,Int.reduceSub,Int.reduceLE,Int.reduceLT])
 exact hY12.mod
def cutF (fuel:Int):Int:=if 20000 < fuel then 20000 else fuel
theorem cutF_le (fuel:Int):cutF fuel≤20000:=by unfold cutF;split<;>omega
section
variable {w0 w:World} {l:List Mcn} {N:Nat→Prop} {vsh vgl vin:Value} {T:Tab} {B:Nat→Prop} {entry:ByteArray} {input:List Int} {heap every fuel:Int} {gens:Bool}
theorem f_run (h:Yard w0 w l N) (ht:TabAt w vsh vgl T B) (hT:TabFit T) (hBl:∀ b,B b→b < w.heap.size) (hin:Ints w vin input) :
   CallsR Tryz.prog 8 [tabV vsh vgl,.string entry,vin,setV heap gens every,I fuel] w fun r w'=>
     (newErr T entry input heap every≠0→r = .pointer none∧Yard w0 w' l (· < w0.heap.size)) ∧
     (newErr T entry input heap every=0→∃ m S,r=ptr m∧Yard w0 w' (l++[⟨m,S,(newM T entry input heap gens every).steps' (cutF fuel).toNat,(cutF fuel).toNat⟩]) (· < w0.heap.size)):=by
 have ht0:=ht
 have hin0:=hin
 obtain ⟨⟨aS,cS,rfl⟩,aG,cG,rfl⟩:=tab_sl ht
 obtain ⟨aI,cI,rfl,_⟩:=hin
 refine fit8.calls rfl ?_
 unfold ir8 tabV setV
 (try simp only [go_sem,simprocAttr])
 refine e_bx rfl ?_
 intro w1 hb1 hm1 hs1
 (try simp only [go_sem,simprocAttr])
 refine e_bx rfl ?_
 intro w2 hb2 hm2 hs2
 have hb12:=hm2.at hb1 (fun h=>h)
 have hm02:=hm1.trans hm2
 have hY2:=yard_same h hm02
 have hb12':w2.heap[w.heap.size]? = some (.cells [.slice aS T.shapes.length cS,.slice aG T.globals.length cG].toArray 25 (0,0)):=hb12
 have hb2':w2.heap[w1.heap.size]? = some (.cells [I heap,.bool gens,I every].toArray 28 (0,0)):=hb2
 have ln1:=ln_of (off:=0) (n:=2) hb12' (by simp)
 have ln2:=ln_of (off:=0) (n:=3) hb2' (by simp)
 (try simp only [go_sem,simprocAttr,ln1,ln2])
 refine e_call (by rfl) ?_
 refine (m_new (T:=T) (B:=B) (entry:=entry) (input:=input) (heap:=heap) (gens:=gens) (every:=every) (ht0.mod hm02 (fun _ _ h=>h) (fun _ h=>h)) hT (fun b hb=>Nat.lt_of_lt_of_le (hBl b hb) hm02.size) (hin0.mod hm02 (fun _ _ h=>h))).mono ?_
 rintro r w3 ⟨hm3,hno,hyes⟩
 by_cases he:newErr T entry input heap every=0
 · obtain ⟨τ,m,S,rfl,hA,h0⟩:=hyes he
   have hY3:=yard_new hY2 hm3 hA h0 (newM_good (gens:=gens) he)
   (try simp only [go_sem,simprocAttr,ptr,bne_self_eq_false,Bool.not_false])
   refine e_call (by rfl) ?_
   refine (y_run (m:=m) (S:=S) (M:=newM T entry input heap gens every) (n:=0) hY3 (i:=l.length) (by simp) (by decide) (c:=cutF fuel) (by have:=cutF_le fuel;omega)).mono ?_
   rintro _ w4 ⟨rfl,hY4,_⟩
   (try simp only [go_sem,simprocAttr])
   refine ⟨fun hh=>absurd he hh,fun _=>⟨m,S,rfl,?_⟩⟩
   have e:(l++[(⟨m,S,newM T entry input heap gens every,0⟩:Mcn)]).set l.length ⟨m,S,(newM T entry input heap gens every).steps' (cutF fuel).toNat,0+(cutF fuel).toNat⟩=l++[⟨m,S,(newM T entry input heap gens every).steps' (cutF fuel).toNat,(cutF fuel).toNat⟩]:=by simp
   rw [e] at hY4
   exact hY4
 · obtain rfl:=hno he
   (try simp only [go_sem,simprocAttr,Option.isNone_none])
   exact ⟨fun _=>yard_same hY2 hm3,fun hh=>absurd hh he⟩
end
end
section
open Go Go.W
structure Tl (M M':Mc):Prop where
 e:M.ended≠4→M'.ended≠4
 t:∃ l,M'.told=M.told++l
theorem Tl.refl (M:Mc):Tl M M:=⟨fun h=>h,[],(List.append_nil _).symm⟩
theorem Tl.trans {M M' M'':Mc} (h:Tl M M') (k:Tl M' M''):Tl M M'':=by
 obtain ⟨e1,l1,t1⟩:=h
 obtain ⟨e2,l2,t2⟩:=k
 exact ⟨fun h=>e2 (e1 h),l1++l2,by rw [t2,t1,List.append_assoc]⟩
theorem tl0 {M M':Mc} (h:M'.ended=M.ended) (k:M'.told=M.told):Tl M M':=⟨fun e=>by rw [h];exact e,[],by rw [k,List.append_nil]⟩
theorem tl3 {M M':Mc} (h:M'.ended=3) (k:M'.told=M.told):Tl M M':=⟨fun e=>by rw [h];decide,[],by rw [k,List.append_nil]⟩
theorem tl5 {M M':Mc} (h:M'.ended=5) (k:M'.told=M.told):Tl M M':=⟨fun e=>by rw [h];decide,[],by rw [k,List.append_nil]⟩
theorem tl_room (M:Mc) (k:Int):Tl M (M.room k).2:=by
 unfold Mc.room
 split
 · exact Tl.refl M
 · split
   · exact tl5 rfl rfl
   · exact tl0 rfl rfl
theorem tl_tell (M:Mc):Tl M M.tell:=by
 unfold Mc.tell
 split
 · refine ⟨fun h=>?_,_,rfl⟩
   show (if _ then (2:Int) else M.ended)≠4
   split
   · decide
   · exact h
 · exact tl0 rfl rfl
theorem tl_exec (M:Mc) (x:Ins):Tl M (M.exec x):=by
 have ha:Tl M (M.arith x):=by
   unfold Mc.arith
   split
   · (first | exact tl0 rfl rfl | exact tl3 rfl rfl)
   split<;>first | exact tl0 rfl rfl | exact tl3 rfl rfl
 have hj:∀ p q b,Tl M (M.jumpIf p q b):=by
   intro p q b
   unfold Mc.jumpIf
   split
   · (first | exact tl0 rfl rfl | exact tl3 rfl rfl)
   split<;>first | exact tl0 rfl rfl | exact tl3 rfl rfl
 by_cases e1:x.op=1
 · rw [exec1 e1];(first | exact tl0 rfl rfl | exact tl3 rfl rfl)
 by_cases e2:x.op=2
 · rw [exec2 e2];(first | exact tl0 rfl rfl | exact tl3 rfl rfl)
 by_cases e3:x.op=3
 · rw [exec3 e3];(first | exact tl0 rfl rfl | exact tl3 rfl rfl)
 by_cases e4:x.op=4
 · rw [exec4 e4];(first | exact tl0 rfl rfl | exact tl3 rfl rfl)
 by_cases e5:x.op=5
 · rw [exec5 e5];(first | exact tl0 rfl rfl | exact tl3 rfl rfl)
 by_cases e6:x.op=6
 · rw [exec6 e6];(first | exact tl0 rfl rfl | exact tl3 rfl rfl)
 by_cases e7:x.op=7
 · rw [exec7 e7];(first | exact tl0 rfl rfl | exact tl3 rfl rfl)
 by_cases e8:x.op=8
 · rw [exec8 e8];(first | exact tl0 rfl rfl | exact tl3 rfl rfl)
 by_cases e9:x.op=9
 · rw [exec9 e9];(first | exact tl0 rfl rfl | exact tl3 rfl rfl)
 by_cases e10:x.op=10
 · rw [exec10 e10];split<;>first | exact tl0 rfl rfl | exact tl3 rfl rfl
 by_cases e11:x.op=11
 · rw [exec11 e11];split<;>first | exact tl0 rfl rfl | exact tl3 rfl rfl
 by_cases e12:x.op=12
 · rw [exec12 e12];exact ha
 by_cases e13:x.op=13
 · rw [exec13 e13];(first | exact tl0 rfl rfl | exact tl3 rfl rfl)
 by_cases e14:x.op=14
 · rw [exec14 e14];exact hj _ _ _
 by_cases e15:x.op=15
 · rw [exec15 e15];exact hj _ _ _
 by_cases e16:x.op=16
 · rw [exec16 e16];(first | exact tl0 rfl rfl | exact tl3 rfl rfl)
 unfold Mc.exec
 rw [if_neg e1,if_neg e2,if_neg e3,if_neg e4,if_neg e5,if_neg e6,if_neg e7,if_neg e8,if_neg e9,if_neg e10,if_neg e11,if_neg e12,if_neg e13,if_neg e14,if_neg e15,if_neg e16]
 (first | exact tl0 rfl rfl | exact tl3 rfl rfl)
theorem tl_run (M:Mc):Tl M M.run:=by
 unfold Mc.run
 split
 · exact tl_room _ _
 split
 · exact (tl_room _ _).trans ((show Tl (M.room (cellsOf M.insOf)).2 (M.room (cellsOf M.insOf)).2.next from (tl0 rfl rfl)).trans (tl_exec _ _))
 · exact (show Tl M M.next from (tl0 rfl rfl)).trans (tl_exec _ _)
theorem tl_work (M:Mc):Tl M M.work:=by
 have hl:Tl M M.lacks:=by
   unfold Mc.lacks
   split
   · (first | exact tl0 rfl rfl | exact tl3 rfl rfl)
   split
   · (first | exact tl0 rfl rfl | exact tl3 rfl rfl)
   split
   · exact (tl_room _ _).trans (tl0 rfl rfl)
   · exact tl_room _ _
 have hr:∀ f k,Tl M (M.read f k):=by
   intro f k
   unfold Mc.read
   split
   · (first | exact tl0 rfl rfl | exact tl3 rfl rfl)
   split
   · exact (tl_room _ _).trans (tl0 rfl rfl)
   · exact tl_room _ _
 unfold Mc.work
 split
 · exact tl_tell M
 split
 · exact tl_run M
 · unfold Mc.unwind Mc.call
   repeat' split
   all_goals first | exact hl | exact hr _ _ | (first | exact tl0 rfl rfl | exact tl3 rfl rfl)
theorem tl_tidy (M:Mc):Tl M M.tidy:=by
 unfold Mc.tidy
 split
 · exact tl0 rfl rfl
 · (first | exact tl0 rfl rfl | exact tl3 rfl rfl)
theorem tl_step (M:Mc):Tl M M.step:=by
 unfold Mc.step
 split
 · exact Tl.refl M
 split
 · exact tl_work M
 · exact (tl_work M).trans ((show Tl M.work { M.work with steps:=M.work.steps+1} from tl0 rfl rfl).trans (tl_tidy _))
theorem tl_steps (M:Mc) (k:Nat):Tl M (M.steps' k):=by
 induction k with
 | zero=>exact Tl.refl M
 | succ k ih=>exact ih.trans (tl_step _)
end
section
open Go Go.W
theorem new_ne4 {T:Tab} {entry:ByteArray} {input:List Int} {heap every:Int} {gens:Bool}:(newM T entry input heap gens every).ended≠4:=by
 unfold newM newI
 split
 · exact (by decide:(0:Int)≠4)
 · exact (by decide:(5:Int)≠4)
theorem steps_ne4 {T:Tab} {entry:ByteArray} {input:List Int} {heap every:Int} {gens:Bool} (k:Nat):((newM T entry input heap gens every).steps' k).ended≠4:=(tl_steps _ k).e new_ne4
theorem yard_good {w0 w:World} {l:List Mcn} {N:Nat→Prop} (h:Yard w0 w l N) {i:Nat} {p:Mcn} (hi:l[i]? = some p):Good p.n p.M:=by
 obtain ⟨_,_,_,h2,_⟩:=crew_do h.crew hi
 exact h2
section
variable {w:World} {vsh vgl vin:Value} {T:Tab} {B:Nat→Prop} {entry:ByteArray} {input:List Int} {heap every a b:Int} {gens:Bool}
theorem clampN (a:Int):∃ A:Nat,(if (0:Int) > if 5000 < a then 5000 else a then 0 else if 5000 < a then 5000 else a)=(A:Int)∧A≤5000:=by
 refine ⟨(if (0:Int) > if 5000 < a then 5000 else a then 0 else if 5000 < a then 5000 else a).toNat,?_,?_⟩
 all_goals repeat' split
 all_goals omega
theorem parts_ok (ht:TabAt w vsh vgl T B) (hT:TabFit T) (hBl:∀ b,B b→b < w.heap.size) (hin:Ints w vin input) :
   CallsR Tryz.prog 6 [tabV vsh vgl,.string entry,vin,setV heap gens every,I a,I b] w fun r w'=>r = .bool true∧Mod (fun _=>False) w w':=by
 have ht0:=ht
 have hin0:=hin
 obtain ⟨⟨aS,cS,rfl⟩,aG,cG,rfl⟩:=tab_sl ht
 obtain ⟨aI,cI,rfl,_⟩:=hin
 refine fit6.calls rfl ?_
 unfold ir6 tabV setV
 (try simp only [go_sem,simprocAttr])
 refine e_bx rfl ?_
 intro w1 hb1 hm1 hs1
 (try simp only [go_sem,simprocAttr])
 refine e_bx rfl ?_
 intro w2 hb2 hm2 hs2
 have hb12:=hm2.at hb1 (fun h=>h)
 have hm02:=hm1.trans hm2
 have hb12':w2.heap[w.heap.size]? = some (.cells [.slice aS T.shapes.length cS,.slice aG T.globals.length cG].toArray 25 (0,0)):=hb12
 have hb2':w2.heap[w1.heap.size]? = some (.cells [I heap,.bool gens,I every].toArray 28 (0,0)):=hb2
 have ht2:=ht0.mod hm02 (fun _ _ h=>h) (fun _ h=>h)
 have hin2:=hin0.mod hm02 (fun _ _ h=>h)
 have hBl2:∀ b,B b→b < w2.heap.size:=fun b hb=>Nat.lt_of_lt_of_le (hBl b hb) hm02.size
 have key:∀ {w':World} {l:List Mcn} {N:Nat→Prop} {fuel:Int},Yard w2 w' l N→CallsR Tryz.prog 8 [tabV (.slice aS T.shapes.length cS) (.slice aG T.globals.length cG),.string entry,.slice aI input.length cI,setV heap gens every,I fuel] w' fun r w''=>
     (newErr T entry input heap every≠0→r = .pointer none∧Yard w2 w'' l (· < w2.heap.size)) ∧
     (newErr T entry input heap every=0→∃ m S,r=ptr m∧Yard w2 w'' (l++[⟨m,S,(newM T entry input heap gens every).steps' (cutF fuel).toNat,(cutF fuel).toNat⟩]) (· < w2.heap.size)):=by
   intro w' l N fuel hY
   exact f_run hY (ht2.mod hY.mod (fun _ _ h=>h) (fun _ h=>h)) hT (fun b hb=>Nat.lt_of_lt_of_le (hBl2 b hb) hY.mod.size) (hin2.mod hY.mod (fun _ _ h=>h))
 have lnT:∀ {w':World},Mod (fun _=>False) w2 w'→vLN w' 2 (.pointer (some ⟨w.heap.size,0,none⟩))=some (.agg #[.slice aS T.shapes.length cS,.slice aG T.globals.length cG]):=fun hm=>ln_of (off:=0) (n:=2) (hm.at hb12' (fun h=>h)) (by simp)
 have lnS:∀ {w':World},Mod (fun _=>False) w2 w'→vLN w' 3 (.pointer (some ⟨w1.heap.size,0,none⟩))=some (.agg #[I heap,.bool gens,I every]):=fun hm=>ln_of (off:=0) (n:=3) (hm.at hb2' (fun h=>h)) (by simp)
 (try simp only [go_sem,simprocAttr])
 refine e_call (by rfl) ?_
 refine (f_awake w2).mono ?_
 rintro _ w3 ⟨rfl,hm3⟩
 have hY3:=yard_same (yard_nil w2) hm3
 (try simp only [go_sem,simprocAttr,lnT hm3,lnS hm3])
 obtain ⟨A,eA,hA⟩:=clampN a
 obtain ⟨C,eC,hC⟩:=clampN b
 rw [eA,eC]
 have c0:(cutF 0).toNat=0:=rfl
 refine e_call (by rfl) ?_
 refine (key (fuel:=0) hY3).mono ?_
 rintro r1 w4 ⟨hno,hyes⟩
 by_cases he:newErr T entry input heap every=0
 · obtain ⟨m1,S1,rfl,hY4⟩:=hyes he
   (try simp only [go_sem,simprocAttr,lnT hY4.mod,lnS hY4.mod])
   refine e_call (by rfl) ?_
   refine (key (fuel:=0) hY4).mono ?_
   rintro r2 w5 ⟨_,hyes⟩
   obtain ⟨m2,S2,rfl,hY5⟩:=hyes he
   (try simp only [go_sem,simprocAttr,lnT hY5.mod,lnS hY5.mod])
   refine e_call (by rfl) ?_
   refine (key (fuel:=0) hY5).mono ?_
   rintro r3 w6 ⟨_,hyes⟩
   obtain ⟨m3,S3,rfl,hY6⟩:=hyes he
   clear hyes hno
   generalize hM:newM T entry input heap gens every=M at hY6
   have hM0:M.steps=0:=by rw [← hM];exact new_steps
   have h4:∀ k,(M.steps' k).ended≠4:=fun k=>by rw [← hM];exact steps_ne4 k
   have e0:M.steps' 0=M:=rfl
   simp only [List.nil_append,List.cons_append,c0,e0] at hY6
   (try simp only [go_sem,simprocAttr,ptr,Bool.not_true])
   refine e_call (by rfl) ?_
   refine (y_run hY6 (i:=0) rfl (by decide) (c:=A) (by omega)).mono ?_
   rintro _ w7 ⟨rfl,hY7,_⟩
   (try simp only [go_sem,simprocAttr])
   refine e_call (by rfl) ?_
   refine (y_run hY7 (i:=0) rfl (by omega) (c:=C) (by omega)).mono ?_
   rintro _ w8 ⟨rfl,hY8,_⟩
   have eAC:IntKind.i64.wrap ((A:Int)+C)=((A+C:Nat):Int):=by rw [wrap_in (by omega) (by omega)];omega
   (try simp only [go_sem,simprocAttr,eAC])
   refine e_call (by rfl) ?_
   refine (y_run hY8 (i:=1) rfl (by decide) (c:=((A+C:Nat):Int)) (by omega)).mono ?_
   rintro _ w9 ⟨rfl,hY9,_⟩
   simp only [Int.toNat_natCast,steps_add,List.set_cons_zero,List.set_cons_succ] at hY9
   have hY9:Yard w2 w9 [⟨m1,S1,M.steps' (A+C),((A+C:Nat):Int)⟩,⟨m2,S2,M.steps' (A+C),((A+C:Nat):Int)⟩,⟨m3,S3,M.steps' 0,((0:Nat):Int)⟩] (· < w2.heap.size):=by
     have a1:((0:Nat):Int)+(A:Int)+(C:Int)=((A+C:Nat):Int):=by omega
     have a2:((0:Nat):Int)+((A+C:Nat):Int)=((A+C:Nat):Int):=by omega
     rw [a1,a2] at hY9
     exact hY9
   simp only [hM0,Int.sub_zero,Int.toNat_natCast,steps_add]
   refine ir_loop (fun z ρ w'=>∃ (i:Nat) (e:Bool),z=A+C - i∧i≤A+C∧(e=true→(M.steps' i).ended≠0) ∧
     Yard w2 w' [⟨m1,S1,M.steps' (A+C),((A+C:Nat):Int)⟩,⟨m2,S2,M.steps' (A+C),((A+C:Nat):Int)⟩,⟨m3,S3,M.steps' i,(i:Int)⟩] (· < w2.heap.size) ∧
     ρ=[(4,I A),(5,I C),(14,.pointer (some ⟨m1,0,none⟩)),(15,.pointer (some ⟨m2,0,none⟩)),(16,.pointer (some ⟨m3,0,none⟩)),(17,I (M.steps' A).steps),(18,I ((M.steps' (A+C)).steps - (M.steps' A).steps)),(19,I (M.steps' (A+C)).steps),(20,I (M.steps' i).steps),(21,.bool e),(22,I i)]) (A+C) ⟨0,false,rfl,by omega,(fun h=>by cases h),hY9,by rw [show (M.steps' 0).steps=0 from hM0];rfl⟩ ?_
   rintro z ρ w' ⟨i,e,rfl,hi,hend,hY,rfl⟩
   have hgd:=yard_good hY9 (i:=0) rfl
   have hst:0≤(M.steps' (A+C)).steps∧(M.steps' (A+C)).steps≤((A+C:Nat):Int):=hgd.st
   unfold ir6L1
   by_cases hgo:i < A+C∧e=false
   · obtain ⟨hlt,rfl⟩:=hgo
     have q:decide ((i:Int) < ((A+C:Nat):Int))=true:=by simp;omega
     (try simp only [go_sem,simprocAttr,eAC,q,Bool.not_false])
     refine e_call (by rfl) ?_
     refine (y_outcome hY (i:=2) rfl (by omega)).mono ?_
     rintro _ wa ⟨⟨v1,rfl,hv1⟩,hYa,hma⟩
     have hYa:=yard_base hYa
     (try simp only [go_sem,simprocAttr])
     refine e_al ?_
     intro wb hbb hmb hsb
     (try simp only [go_sem,simprocAttr])
     refine e_sta (cs:=[I 0,.slice none 0 0,I 0,I 0,I 0,I 0,I 0,.string ⟨#[]⟩]) rfl rfl hbb rfl rfl (out_one hv1 _ _ _) ?_
     intro wc hbc hmc hsc
     have hmac:Mod (fun _=>False) wa wc:=hmb.step hmc (fun b hb hl=>by subst hb;omega)
     have hYc:=yard_later hYa hmac
     (try simp only [go_sem,simprocAttr])
     refine e_call (by rfl) ?_
     refine (y_step hYc (i:=2) rfl (by omega)).mono ?_
     rintro _ wd ⟨rfl,hYd,hmd⟩
     have hbd:=hmd.at hbc (fun h=>h (.inr ⟨Nat.le_refl _,lt_of_heap hbc⟩))
     (try simp only [go_sem,simprocAttr])
     refine e_call (by rfl) ?_
     refine (y_outcome hYd (i:=2) rfl (by omega)).mono ?_
     rintro _ we ⟨⟨v2,rfl,hv2⟩,hYe,hme⟩
     have hbe:=hme.at hbd (fun h=>h)
     have hYe:=yard_base hYe
     (try simp only [go_sem,simprocAttr])
     refine e_al ?_
     intro wf hbf hmf hsf
     (try simp only [go_sem,simprocAttr])
     refine e_sta (cs:=[I 0,.slice none 0 0,I 0,I 0,I 0,I 0,I 0,.string ⟨#[]⟩]) rfl rfl hbf rfl rfl (out_one hv2 _ _ _) ?_
     intro wg hbg hmg hsg
     have hmeg:Mod (fun _=>False) we wg:=hmf.step hmg (fun b hb hl=>by subst hb;omega)
     have hYg:=yard_same hYe hmeg
     have hbeg:=hmeg.at hbe (fun h=>h)
     have e1:IntKind.i64.wrap ((i:Int)+1)=((i+1:Nat):Int):=by rw [wrap_in (by omega) (by omega)];omega
     by_cases he0:(M.steps' i).ended=0
     · have hR:stepR (M.steps' i)=((M.steps' i).step.ended,0):=by unfold stepR;rw [if_neg (fun hh=>hh he0)]
       have k1:outKind (M.steps' i)=4:=by unfold outKind;rw [if_pos he0]
       rw [k1] at hbeg
       rw [hR]
       by_cases hs0:(M.steps' i).step.ended=0
       · have k2:outKind (M.steps' i).step=4:=by unfold outKind;rw [if_pos hs0]
         rw [k2] at hbg
         rw [hs0]
         (try simp only [go_sem,simprocAttr,cell_of hbg,cell_of hbeg,bne_self_eq_false,beq_self_eq_true,Int.reduceBEq,Int.reduceBNe,Bool.not_false,Bool.not_true,e1])
         exact ⟨_,by omega,i+1,false,rfl,by omega,(fun h=>by cases h),hYg,rfl⟩
       · have k2:outKind (M.steps' i).step=(M.steps' i).step.ended:=by unfold outKind;rw [if_neg hs0]
         rw [k2] at hbg
         have q1:((M.steps' i).step.ended != 0)=true:=by simpa using hs0
         have q2:((M.steps' i).step.ended == 0)=false:=by simpa using hs0
         (try simp only [go_sem,simprocAttr,cell_of hbg,cell_of hbeg,bne_self_eq_false,beq_self_eq_true,Int.reduceBEq,Int.reduceBNe,Bool.not_false,Bool.not_true,e1,q1,q2])
         exact ⟨_,by omega,i+1,true,rfl,by omega,fun _=>hs0,hYg,rfl⟩
     · have hR:stepR (M.steps' i)=(0,221):=by unfold stepR;rw [if_pos he0]
       have k1:outKind (M.steps' i)=(M.steps' i).ended:=by unfold outKind;rw [if_neg he0]
       rw [k1] at hbeg
       rw [hR]
       have q1:((M.steps' i).ended != 4)=true:=by simpa using h4 i
       have hs0:(M.steps' (i+1)).ended≠0:=by rw [show M.steps' (i+1)=(M.steps' i).step from rfl,step_end he0];exact he0
       (try simp only [go_sem,simprocAttr,cell_of hbg,cell_of hbeg,bne_self_eq_false,beq_self_eq_true,Int.reduceBEq,Int.reduceBNe,Bool.not_false,Bool.not_true,e1,q1])
       exact ⟨_,by omega,i+1,true,rfl,by omega,fun _=>hs0,hYg,rfl⟩
   · have hstop:M.steps' i=M.steps' (A+C):=by
       by_cases hlt:i < A+C
       · cases e with
         | false=>exact absurd ⟨hlt,rfl⟩ hgo
         | true=>exact (steps_end' (hend rfl) hi).symm
       · rw [show i=A+C by omega]
     rw [hstop] at hY ⊢
     have hlt:=hgd.lt
     have hcase:decide ((i:Int) < ((A+C:Nat):Int))=false∨(decide ((i:Int) < ((A+C:Nat):Int))=true∧e=true):=by
       by_cases hq:i < A+C
       · refine .inr ⟨by simp;omega,?_⟩
         cases e with
         | false=>exact absurd ⟨hq,rfl⟩ hgo
         | true=>rfl
       · exact .inl (by simp;omega)
     have hlf:=hgd.lf
     rcases hcase with q | ⟨q,rfl⟩
     all_goals
       (try simp only [go_sem,simprocAttr,eAC,q,Bool.not_true])
       refine e_call (by rfl) ?_
       refine (y_outcome hY (i:=0) rfl (by omega)).mono ?_
       rintro _ wa ⟨⟨v1,rfl,hv1⟩,hYa,hma⟩
       have hYa:=yard_base hYa
       (try simp only [go_sem,simprocAttr])
       refine e_call (by rfl) ?_
       refine (y_outcome hYa (i:=1) rfl (by omega)).mono ?_
       rintro _ wb ⟨⟨v2,rfl,hv2⟩,hYb,hmb⟩
       have hYb:=yard_base hYb
       (try simp only [go_sem,simprocAttr])
       refine e_call (by rfl) ?_
       refine (f_same (hv1.its.mod hmb) hv2.its (by have hlt:((M.steps' (A+C)).told.length:Int)≤((A+C:Nat):Int):=hlt;omega)).mono ?_
       rintro _ wc ⟨⟨t1,rfl,ht1⟩,hmc⟩
       have hYc:=yard_same hYb hmc
       obtain rfl:t1=true:=ht1.2 ⟨rfl,rfl,rfl,rfl⟩
       (try simp only [go_sem,simprocAttr])
       refine e_call (by rfl) ?_
       refine (y_outcome hYc (i:=0) rfl (by omega)).mono ?_
       rintro _ wd ⟨⟨v3,rfl,hv3⟩,hYd,hmd⟩
       have hYd:=yard_base hYd
       (try simp only [go_sem,simprocAttr])
       refine e_call (by rfl) ?_
       refine (y_outcome hYd (i:=2) rfl (by omega)).mono ?_
       rintro _ we ⟨⟨v4,rfl,hv4⟩,hYe,hme⟩
       have hYe:=yard_base hYe
       (try simp only [go_sem,simprocAttr])
       refine e_call (by rfl) ?_
       refine (f_same (hv3.its.mod hme) hv4.its (by have hlt:((M.steps' (A+C)).told.length:Int)≤((A+C:Nat):Int):=hlt;omega)).mono ?_
       rintro _ wf ⟨⟨t2,rfl,ht2⟩,hmf⟩
       have hYf:=yard_same hYe hmf
       obtain rfl:t2=true:=ht2.2 ⟨rfl,rfl,rfl,rfl⟩
       (try simp only [go_sem,simprocAttr])
       refine e_call (by rfl) ?_
       refine (y_sight hYf (i:=0) rfl (by omega)).mono ?_
       rintro r5 wg ⟨hv5,hYg,hmg⟩
       have hYg:=yard_base hYg
       (try simp only [go_sem,simprocAttr])
       refine e_call (by rfl) ?_
       refine (y_sight hYg (i:=1) rfl (by omega)).mono ?_
       rintro r6 wh ⟨hv6,hYh,hmh⟩
       have hYh:=yard_base hYh
       (try simp only [go_sem,simprocAttr])
       refine e_call (by rfl) ?_
       refine (f_sameSight (hv5.vis.mod hmh) hv6.vis (by have hlf:((M.steps' (A+C)).frames.length:Int)≤((A+C:Nat):Int):=hlf;simp [visOf];omega)).mono ?_
       rintro _ wi ⟨⟨t3,rfl,ht3⟩,hmi⟩
       have hYi:=yard_same hYh hmi
       obtain rfl:t3=true:=ht3.2 rfl
       (try simp only [go_sem,simprocAttr])
       refine e_call (by rfl) ?_
       refine (y_sight hYi (i:=0) rfl (by omega)).mono ?_
       rintro r7 wj ⟨hv7,hYj,hmj⟩
       have hYj:=yard_base hYj
       (try simp only [go_sem,simprocAttr])
       refine e_call (by rfl) ?_
       refine (y_sight hYj (i:=2) rfl (by omega)).mono ?_
       rintro r8 wk ⟨hv8,hYk,hmk⟩
       have hYk:=yard_base hYk
       (try simp only [go_sem,simprocAttr])
       refine e_call (by rfl) ?_
       refine (f_sameSight (hv7.vis.mod hmk) hv8.vis (by have hlf:((M.steps' (A+C)).frames.length:Int)≤((A+C:Nat):Int):=hlf;simp [visOf];omega)).mono ?_
       rintro _ wl ⟨⟨t4,rfl,ht4⟩,hml⟩
       have hYl:=yard_same hYk hml
       obtain rfl:t4=true:=ht4.2 rfl
       have ew:IntKind.i64.wrap ((M.steps' A).steps+((M.steps' (A+C)).steps - (M.steps' A).steps))=(M.steps' (A+C)).steps:=by rw [wrap_in (by omega) (by omega)];omega
       (try simp only [go_sem,simprocAttr,ew,beq_self_eq_true])
       exact hm02.trans hYl.mod
 · obtain ⟨rfl,hY4⟩:=hno he
   (try simp only [go_sem,simprocAttr,lnT hY4.mod,lnS hY4.mod])
   refine e_call (by rfl) ?_
   refine (key (fuel:=0) hY4).mono ?_
   rintro r2 w5 ⟨hno,_⟩
   obtain ⟨rfl,hY5⟩:=hno he
   (try simp only [go_sem,simprocAttr,lnT hY5.mod,lnS hY5.mod])
   refine e_call (by rfl) ?_
   refine (key (fuel:=0) hY5).mono ?_
   rintro r3 w6 ⟨hno,_⟩
   obtain ⟨rfl,hY6⟩:=hno he
   (try simp only [go_sem,simprocAttr,Option.isNone_none,Bool.not_true])
   exact hm02.trans hY6.mod
end
end
section
open Go Go.W Go.ChangeShapes Go.WideShapes Go.ChangeAt Go.RowKit Go.Deep
theorem parts_lifted (os:Os) (started:os.Started) (H:Type) (enc:TypeId×Value→H) :
   ReturnsInHanded {} Tryz.checked os 6 .any (Rows.machinePartsSpec.pre6 enc Tryz.prog Tryz.f6 Rows.machinePartsRow.domain false) (Rows.machinePartsSpec.post enc Tryz.prog Tryz.f6 false true false false):=by
 refine law_row (C:=Tryz.checked) Tryz.own started (by kernel_rfl) Tryz.func6
   (ChangeSpec.witness6 (enc:=enc) (C:=Tryz.checked) false ⟨#[],#[.agg #[.slice none 0 0,.slice none 0 0],.string ⟨#[]⟩,.slice none 0 0,.agg #[.int .i64 0,.bool false,.int .i64 0],.int .i64 0,.int .i64 0],[]⟩ 8 (by kernel_rfl) (by kernel_rfl) (by kernel_rfl) (by kernel_rfl))
   Tryz.laidOut (by kernel_rfl) (tb:=4) (by kernel_rfl) Tryz.underlying4 rfl ?_ ?_
 · intro ds hd
   rw [Tryz.params6] at hd
   match ds,hd with
   | [_,_,_,_,_,_],_=>rfl
 · intro W args ds h
   rw [Tryz.params6] at h
   obtain ⟨vsh,vgl,T,args1,_,_,rfl,rfl,ht,hT,_,h1⟩:=in_tab h
   obtain ⟨entry,args2,_,_,rfl,rfl,_,_,h2⟩:=in_str h1
   obtain ⟨vin,input,args3,_,_,rfl,rfl,hin,_,h3⟩:=in_ints h2
   obtain ⟨heap,gens,every,args4,_,_,rfl,rfl,h4⟩:=in_set h3
   obtain ⟨a,args5,_,_,rfl,rfl,h5⟩:=in_int h4
   obtain ⟨b,args6,_,_,rfl,rfl,h6⟩:=in_int h5
   obtain ⟨rfl,rfl⟩:=lawIn_nil h6
   exact parts_ok ht hT (fun _ h=>h) hin
theorem machineParts_holds:Rows.MachinePartsSaid:=
 OpenClaim.holds_of_wide 6 Tryz.f6 rfl rfl rfl rfl rfl rfl rfl ⟨rfl,rfl,rfl,rfl,rfl⟩ rfl rfl rfl rfl rfl (by kernel_rfl) Tryz.func6 (by kernel_rfl)
   (of_decide_eq_true (by kernel_rfl)) (by unfold Func.isWrapper;rw [if_neg (of_decide_eq_false (by kernel_rfl))];exact ⟨rfl,rfl⟩)
   (fun os started H enc _=>parts_lifted os started H enc)
#print axioms machineParts_holds
end
end Go.Proofs.YtcllploggibicaaGreat