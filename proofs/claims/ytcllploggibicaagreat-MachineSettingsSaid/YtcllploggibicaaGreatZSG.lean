/- MachineSettings: whatever table, entry, input, setting, other setting and fuel are handed in, the law answers true, and what was handed in reads as it did. No condition. -/
import Derived.Test.YtcllploggibicaaGreatZSF
set_option linter.unusedSimpArgs false
set_option linter.unusedVariables false
set_option maxRecDepth 100000
namespace Go.Proofs.YtcllploggibicaaGreat
section
open Go Go.W
structure Yard (w0 w:World) (l:List Mcn) (N:Nat→Prop):Prop where
 mod:Mod (fun _=>False) w0 w
 crew:Crew w l N
 old:∀ b,b < w0.heap.size→N b
section
variable {w0 w w':World} {l:List Mcn} {N:Nat→Prop}
theorem yard_nil (w:World):Yard w w [] (· < w.heap.size):=⟨Mod.refl _ _,crew_nil (fun _ h=>h),fun _ h=>h⟩
theorem yard_less (h:Yard w0 w l N) {N':Nat→Prop} (hN:∀ b,N' b→N b) (ho:∀ b,b < w0.heap.size→N' b):Yard w0 w l N':=⟨h.mod,crew_less h.crew hN,ho⟩
theorem yard_base (h:Yard w0 w l N):Yard w0 w l (· < w0.heap.size):=yard_less h h.old (fun _ h=>h)
theorem yard_later (h:Yard w0 w l N) (hm:Mod (fun _=>False) w w'):Yard w0 w' l (fun b=>N b∨(w.heap.size≤b∧b < w'.heap.size)):=
 ⟨h.mod.trans hm,crew_later h.crew hm,fun b hb=>.inl (h.old b hb)⟩
theorem yard_same (h:Yard w0 w l N) (hm:Mod (fun _=>False) w w'):Yard w0 w' l (· < w0.heap.size):=yard_base (yard_later h hm)
theorem yard_trans {l':List Mcn} {N':Nat→Prop} (h:Yard w0 w l N) (hc:Crew w' l' N') (hm:Mod (fun b=>¬ N b) w w') (hN:∀ b,b < w0.heap.size→N' b):Yard w0 w' l' N':=
 ⟨h.mod.step hm (fun b hb hl=>hb (h.old b hl)),hc,hN⟩
theorem yard_new (h:Yard w0 w l N) (hm:Mod (fun _=>False) w w') {M:Mc} {m:Nat} {S:SV} {τ0:Tag} (hA:MAt w' τ0 m S M []) (h0:∀ b,b < w.heap.size→τ0 b = .no) {n:Int} (hg:Good n M):Yard w0 w' (l++[⟨m,S,M,n⟩]) N:=
 ⟨h.mod.trans hm,crew_new h.crew hm hA h0 hg,h.old⟩
variable {i:Nat} {m:Nat} {S:SV} {M:Mc} {n:Int}
theorem y_run (h:Yard w0 w l N) (hi:l[i]? = some ⟨m,S,M,n⟩) (hn:n≤400000) {c:Int} (hc:c≤400000):CallsR Tryz.prog 18 [ptr m,I c] w fun r w'=>
   r=I ((M.steps' c.toNat).steps - M.steps)∧Yard w0 w' (l.set i ⟨m,S,M.steps' c.toNat,n+c.toNat⟩) N∧Mod (fun b=>¬ N b) w w':=by
 refine (g_run h.crew hi hn hc).mono ?_
 rintro r w' ⟨rfl,hc,hm⟩
 exact ⟨rfl,yard_trans h hc hm h.old,hm⟩
theorem y_step (h:Yard w0 w l N) (hi:l[i]? = some ⟨m,S,M,n⟩) (hn:n≤400000):CallsR Tryz.prog 24 [ptr m] w fun r w'=>
   r = .tuple #[I (stepR M).1,I (stepR M).2]∧Yard w0 w' (l.set i ⟨m,S,M.step,n+1⟩) N∧Mod (fun b=>¬ N b) w w':=by
 refine (g_step h.crew hi hn).mono ?_
 rintro r w' ⟨rfl,hc,hm⟩
 exact ⟨rfl,yard_trans h hc hm h.old,hm⟩
theorem y_outcome (h:Yard w0 w l N) (hi:l[i]? = some ⟨m,S,M,n⟩) (hn:n≤400000):CallsR Tryz.prog 11 [ptr m] w fun r w'=>
   (∃ v,r=outV (outKind M) v M.stuck M.steps∧ToldAt w w' v M.told)∧Yard w0 w' l (fun b=>N b∨(w.heap.size≤b∧b < w'.heap.size))∧Mod (fun _=>False) w w':=by
 refine (g_outcome h.crew hi hn).mono ?_
 rintro r w' ⟨hv,hc,hm⟩
 exact ⟨hv,⟨h.mod.trans hm,hc,fun b hb=>.inl (h.old b hb)⟩,hm⟩
theorem y_sight (h:Yard w0 w l N) (hi:l[i]? = some ⟨m,S,M,n⟩) (hn:n≤400000):CallsR Tryz.prog 22 [ptr m] w fun r w'=>
   SightV w w' M r∧Yard w0 w' l (fun b=>N b∨(w.heap.size≤b∧b < w'.heap.size))∧Mod (fun _=>False) w w':=by
 refine (g_sight h.crew hi hn).mono ?_
 rintro r w' ⟨hv,hc,hm⟩
 exact ⟨hv,⟨h.mod.trans hm,hc,fun b hb=>.inl (h.old b hb)⟩,hm⟩
end
theorem f_shapes (w:World):CallsR Tryz.prog 25 [] w fun r w'=>r = .slice (some ⟨w.heap.size,0,none⟩) 7 7∧w'.heap[w.heap.size]? = some (.cells (givenS.flatMap shRow).toArray 89 (0,0))∧Mod (fun _=>False) w w':=by
 refine fit25.calls rfl ?_
 unfold ir25
 (try simp only [go_sem,simprocAttr])
 refine e_bs (by rfl) (by rfl) ?_
 intro w1 hb1 hm1 _
 (try simp only [go_sem,simprocAttr])
 exact ⟨hb1,hm1⟩
def awC:List Ins:=[⟨3,1,0⟩,⟨3,2,0⟩,⟨12,1,0⟩,⟨7,1,0⟩,⟨17,0,0⟩]
def awT:Tab:=⟨givenS,[⟨⟨#[109]⟩,0,awC⟩]⟩
def awM:Mc:=newM awT ⟨#[109]⟩ [] 100 false 0
theorem aw_new:newErr awT ⟨#[109]⟩ [] 100 0=0:=by kernel_rfl
theorem aw_step:stepR awM=(0,0):=by kernel_rfl
theorem aw_steps1:awM.step.steps=1:=by kernel_rfl
theorem aw_steps2:(awM.step.steps' 50).steps=9:=by kernel_rfl
theorem aw_kind:outKind (awM.step.steps' 50)=2:=by kernel_rfl
theorem aw_told:(awM.step.steps' 50).told=[⟨⟨#[]⟩,3⟩]:=by kernel_rfl
theorem aw_fit:TabFit awT:=by
 refine ⟨by decide,by decide,?_,?_,?_,?_⟩
 all_goals decide
theorem out_one {w w':World} {v:Value} {l:List It} (hv:ToldAt w w' v l) (k st n:Int):∀ u∈[I k,v,I st,I n,I 0,I 0,I 0,.string ⟨#[]⟩],u.oneCell'=true:=by
 obtain ⟨fp,h,_⟩:=hv
 obtain ⟨a,c,rfl,_⟩:=h.val
 intro u hu
 simp only [List.mem_cons,List.not_mem_nil,or_false] at hu
 rcases hu with rfl | rfl | rfl | rfl | rfl | rfl | rfl | rfl<;>rfl
theorem nil_ints (w:World):Ints w (.slice none 0 0) []:=⟨none,0,rfl,by simp,fun i hi=>absurd hi (by simp)⟩
theorem f_awake (w:World):CallsR Tryz.prog 7 [] w fun r w'=>r = .bool true∧Mod (fun _=>False) w w':=by
 refine fit7.calls rfl ?_
 unfold ir7
 (try simp only [go_sem,Nat.reduceAdd,Nat.reduceEqDiff,Nat.reduceLT,Nat.reduceLeDiff,Nat.reduceMul,reduceCtorEq,↓reduceIte])
 refine e_bs (by rfl) (by rfl) ?_
 intro w1 hb1 hm1 hs1
 (try simp only [go_sem,Nat.reduceAdd,Nat.reduceEqDiff,Nat.reduceLT,Nat.reduceLeDiff,Nat.reduceMul,reduceCtorEq,↓reduceIte])
 refine e_call (by rfl) ?_
 refine (f_shapes w1).mono ?_
 rintro _ w2 ⟨rfl,hb2,hm2⟩
 (try simp only [go_sem,Nat.reduceAdd,Nat.reduceEqDiff,Nat.reduceLT,Nat.reduceLeDiff,Nat.reduceMul,reduceCtorEq,↓reduceIte])
 refine e_bs (by rfl) (by rfl) ?_
 intro w3 hb3 hm3 hs3
 have hT:TabAt w3 (.slice (some ⟨w1.heap.size,0,none⟩) 7 7) (.slice (some ⟨w2.heap.size,0,none⟩) 1 1) awT (· < w3.heap.size):=by
   have hb13:=(hm2.trans hm3).at hb1 (fun h=>h)
   have hb23:=hm3.at hb2 (fun h=>h)
   refine ⟨(own_rows (rows:=givenS.map shRow) (T:=89) (fp:=some w1.heap.size) (OwnS.of_block hb23 (by rfl)) (by decide)).mod (Mod.refl (fun _=>False) _) (fun _ _ h=>h) (fun b e=>by cases e;exact lt_of_heap hb23),[.slice (some ⟨w.heap.size,0,none⟩) 5 5],rfl,?_,?_⟩
   · exact (own_rows (rows:=[[.string ⟨#[109]⟩,I 0,.slice (some ⟨w.heap.size,0,none⟩) 5 5]]) (T:=70) (fp:=some w2.heap.size) (OwnS.of_block hb3 (by rfl)) (by intro r hr;cases hr with | head=>rfl | tail _ h=>cases h)).mod (Mod.refl (fun _=>False) _) (fun _ _ h=>h) (fun b e=>by cases e;exact lt_of_heap hb3)
   · intro i g v hg hv
     cases i with
     | zero=>
       cases hg;cases hv
       exact (own_rows (rows:=awC.map insRow) (T:=66) (fp:=some w.heap.size) (OwnS.of_block hb13 (by rfl)) (by intro r hr;obtain ⟨x,_,rfl⟩:=List.mem_map.1 hr;rfl)).mod (Mod.refl (fun _=>False) _) (fun _ _ h=>h) (fun b e=>by cases e;exact lt_of_heap hb13)
     | succ i=>cases hg
 have hm03:=(hm1.trans hm2).trans hm3
 have hY3:=yard_same (yard_nil w) hm03
 (try simp only [go_sem,Nat.reduceAdd,Nat.reduceEqDiff,Nat.reduceLT,Nat.reduceLeDiff,Nat.reduceMul,reduceCtorEq,↓reduceIte])
 refine e_call (by rfl) ?_
 refine (m_new (entry:=⟨#[109]⟩) (input:=[]) (heap:=100) (gens:=false) (every:=0) hT aw_fit (fun b h=>h) (nil_ints _)).mono ?_
 rintro _ w4 ⟨hm4,_,hn⟩
 obtain ⟨τ,m,S,rfl,hA,h0⟩:=hn aw_new
 have hY4:=yard_new hY3 hm4 hA h0 (newM_good (gens:=false) aw_new)
 (try simp only [go_sem,Nat.reduceAdd,Nat.reduceEqDiff,Nat.reduceLT,Nat.reduceLeDiff,Nat.reduceMul,reduceCtorEq,↓reduceIte,ptr])
 refine ir_cond rfl (fun hh=>absurd hh (by decide)) (fun _=>?_)
 (try simp only [go_sem,Nat.reduceAdd,Nat.reduceEqDiff,Nat.reduceLT,Nat.reduceLeDiff,Nat.reduceMul,reduceCtorEq,↓reduceIte])
 refine e_call (by rfl) ?_
 refine (y_step hY4 (i:=0) rfl (by decide)).mono ?_
 rintro _ w5 ⟨rfl,hY5,_⟩
 have e1:stepR (newM awT ⟨#[109]⟩ [] 100 false 0)=(0,0):=aw_step
 rw [e1]
 (try simp only [go_sem,Nat.reduceAdd,Nat.reduceEqDiff,Nat.reduceLT,Nat.reduceLeDiff,Nat.reduceMul,reduceCtorEq,↓reduceIte])
 refine e_call (by rfl) ?_
 refine (y_outcome hY5 (i:=0) rfl (by decide)).mono ?_
 rintro _ w6 ⟨⟨v1,rfl,hv1⟩,hY6,hm6⟩
 have hY6:=yard_base hY6
 have e2:(newM awT ⟨#[109]⟩ [] 100 false 0).step.steps=1:=aw_steps1
 rw [e2]
 (try simp only [go_sem,Nat.reduceAdd,Nat.reduceEqDiff,Nat.reduceLT,Nat.reduceLeDiff,Nat.reduceMul,reduceCtorEq,↓reduceIte])
 refine e_al ?_
 intro w7 hb7 hm7 hs7
 (try simp only [go_sem,Nat.reduceAdd,Nat.reduceEqDiff,Nat.reduceLT,Nat.reduceLeDiff,Nat.reduceMul,reduceCtorEq,↓reduceIte])
 refine e_sta (cs:=[I 0,.slice none 0 0,I 0,I 0,I 0,I 0,I 0,.string ⟨#[]⟩]) rfl rfl hb7 rfl rfl (out_one hv1 _ _ _) ?_
 intro w8 hb8 hm8 hs8
 have hm68:Mod (fun _=>False) w6 w8:=hm7.step hm8 (fun b hb hl=>by subst hb;omega)
 have hY8:=yard_same hY6 hm68
 (try simp only [go_sem,Nat.reduceAdd,Nat.reduceEqDiff,Nat.reduceLT,Nat.reduceLeDiff,Nat.reduceMul,reduceCtorEq,↓reduceIte,cell_of hb8,bne_self_eq_false,Int.reduceBNe,Bool.not_false])
 refine e_call (by rfl) ?_
 refine (y_run hY8 (i:=0) rfl (by decide) (c:=50) (by decide)).mono ?_
 rintro _ w9 ⟨rfl,hY9,_⟩
 have e3:((newM awT ⟨#[109]⟩ [] 100 false 0).step.steps' (50:Int).toNat).steps=9:=aw_steps2
 rw [e2,e3]
 (try simp only [go_sem,Nat.reduceAdd,Nat.reduceEqDiff,Nat.reduceLT,Nat.reduceLeDiff,Nat.reduceMul,reduceCtorEq,↓reduceIte])
 refine e_call (by rfl) ?_
 refine (y_outcome hY9 (i:=0) rfl (by decide)).mono ?_
 rintro _ w10 ⟨⟨v2,rfl,hv2⟩,hY10,hm10⟩
 have e4:((newM awT ⟨#[109]⟩ [] 100 false 0).step.steps' (50:Int).toNat).told=[⟨⟨#[]⟩,3⟩]:=aw_told
 have e5:outKind ((newM awT ⟨#[109]⟩ [] 100 false 0).step.steps' (50:Int).toNat)=2:=aw_kind
 rw [e4] at hv2
 rw [e3,e5]
 (try simp only [go_sem,Nat.reduceAdd,Nat.reduceEqDiff,Nat.reduceLT,Nat.reduceLeDiff,Nat.reduceMul,reduceCtorEq,↓reduceIte])
 refine e_al ?_
 intro w11 hb11 hm11 hs11
 (try simp only [go_sem,Nat.reduceAdd,Nat.reduceEqDiff,Nat.reduceLT,Nat.reduceLeDiff,Nat.reduceMul,reduceCtorEq,↓reduceIte])
 refine e_sta (cs:=[I 0,.slice none 0 0,I 0,I 0,I 0,I 0,I 0,.string ⟨#[]⟩]) rfl rfl hb11 rfl rfl (out_one hv2 _ _ _) ?_
 intro w12 hb12 hm12 hs12
 have hm1012:Mod (fun _=>False) w10 w12:=hm11.step hm12 (fun b hb hl=>by subst hb;omega)
 have hY12:=yard_same hY10 hm1012
 obtain ⟨ad,c,rfl,hl⟩:=its_ln (hv2.its.mod hm1012) (i:=0) (by decide)
 rw [Nat.zero_mul,add_zero'] at hl
 have b1:(0:Int)≤0∧(0:Int) < 1:=by decide
 (try simp only [go_sem,Nat.reduceAdd,Nat.reduceEqDiff,Nat.reduceLT,Nat.reduceLeDiff,Nat.reduceMul,reduceCtorEq,↓reduceIte,zb4,zb6,cell_of hb12,hl,b1,Int.natCast_one,ba_leq,ieq,decide_true,List.getElem_cons_zero,beq_self_eq_true,Int.reduceBEq,Int.reduceSub,Int.reduceLE,Int.reduceLT])
 exact hY12.mod
def cutF (fuel:Int):Int:=if 20000 < fuel then 20000 else fuel
theorem cutF_le (fuel:Int):cutF fuel≤20000:=by unfold cutF;split<;>omega
section
variable {w0 w:World} {l:List Mcn} {N:Nat→Prop} {vsh vgl vin:Value} {T:Tab} {B:Nat→Prop} {entry:ByteArray} {input:List Int} {heap every fuel:Int} {gens:Bool}
theorem f_run (h:Yard w0 w l N) (ht:TabAt w vsh vgl T B) (hT:TabFit T) (hBl:∀ b,B b→b < w.heap.size) (hin:Ints w vin input) :
   CallsR Tryz.prog 8 [tabV vsh vgl,.string entry,vin,setV heap gens every,I fuel] w fun r w'=>
     (newErr T entry input heap every≠0→r = .pointer none∧Yard w0 w' l (· < w0.heap.size)) ∧
     (newErr T entry input heap every=0→∃ m S,r=ptr m∧Yard w0 w' (l++[⟨m,S,(newM T entry input heap gens every).steps' (cutF fuel).toNat,(cutF fuel).toNat⟩]) (· < w0.heap.size)):=by
 have ht0:=ht
 have hin0:=hin
 obtain ⟨⟨aS,cS,rfl⟩,aG,cG,rfl⟩:=tab_sl ht
 obtain ⟨aI,cI,rfl,_⟩:=hin
 refine fit8.calls rfl ?_
 unfold ir8 tabV setV
 (try simp only [go_sem,simprocAttr])
 refine e_bx rfl ?_
 intro w1 hb1 hm1 hs1
 (try simp only [go_sem,simprocAttr])
 refine e_bx rfl ?_
 intro w2 hb2 hm2 hs2
 have hb12:=hm2.at hb1 (fun h=>h)
 have hm02:=hm1.trans hm2
 have hY2:=yard_same h hm02
 have hb12':w2.heap[w.heap.size]? = some (.cells [.slice aS T.shapes.length cS,.slice aG T.globals.length cG].toArray 25 (0,0)):=hb12
 have hb2':w2.heap[w1.heap.size]? = some (.cells [I heap,.bool gens,I every].toArray 28 (0,0)):=hb2
 have ln1:=ln_of (off:=0) (n:=2) hb12' (by simp)
 have ln2:=ln_of (off:=0) (n:=3) hb2' (by simp)
 (try simp only [go_sem,simprocAttr,ln1,ln2])
 refine e_call (by rfl) ?_
 refine (m_new (T:=T) (B:=B) (entry:=entry) (input:=input) (heap:=heap) (gens:=gens) (every:=every) (ht0.mod hm02 (fun _ _ h=>h) (fun _ h=>h)) hT (fun b hb=>Nat.lt_of_lt_of_le (hBl b hb) hm02.size) (hin0.mod hm02 (fun _ _ h=>h))).mono ?_
 rintro r w3 ⟨hm3,hno,hyes⟩
 by_cases he:newErr T entry input heap every=0
 · obtain ⟨τ,m,S,rfl,hA,h0⟩:=hyes he
   have hY3:=yard_new hY2 hm3 hA h0 (newM_good (gens:=gens) he)
   (try simp only [go_sem,simprocAttr,ptr,bne_self_eq_false,Bool.not_false])
   refine e_call (by rfl) ?_
   refine (y_run (m:=m) (S:=S) (M:=newM T entry input heap gens every) (n:=0) hY3 (i:=l.length) (by simp) (by decide) (c:=cutF fuel) (by have:=cutF_le fuel;omega)).mono ?_
   rintro _ w4 ⟨rfl,hY4,_⟩
   (try simp only [go_sem,simprocAttr])
   refine ⟨fun hh=>absurd he hh,fun _=>⟨m,S,rfl,?_⟩⟩
   have e:(l++[(⟨m,S,newM T entry input heap gens every,0⟩:Mcn)]).set l.length ⟨m,S,(newM T entry input heap gens every).steps' (cutF fuel).toNat,0+(cutF fuel).toNat⟩=l++[⟨m,S,(newM T entry input heap gens every).steps' (cutF fuel).toNat,(cutF fuel).toNat⟩]:=by simp
   rw [e] at hY4
   exact hY4
 · obtain rfl:=hno he
   (try simp only [go_sem,simprocAttr,Option.isNone_none])
   exact ⟨fun _=>yard_same hY2 hm3,fun hh=>absurd hh he⟩
end
end
section
open Go Go.W
structure Tl (M M':Mc):Prop where
 e:M.ended≠4→M'.ended≠4
 t:∃ l,M'.told=M.told++l
theorem Tl.refl (M:Mc):Tl M M:=⟨fun h=>h,[],(List.append_nil _).symm⟩
theorem Tl.trans {M M' M'':Mc} (h:Tl M M') (k:Tl M' M''):Tl M M'':=by
 obtain ⟨e1,l1,t1⟩:=h
 obtain ⟨e2,l2,t2⟩:=k
 exact ⟨fun h=>e2 (e1 h),l1++l2,by rw [t2,t1,List.append_assoc]⟩
theorem tl0 {M M':Mc} (h:M'.ended=M.ended) (k:M'.told=M.told):Tl M M':=⟨fun e=>by rw [h];exact e,[],by rw [k,List.append_nil]⟩
theorem tl3 {M M':Mc} (h:M'.ended=3) (k:M'.told=M.told):Tl M M':=⟨fun e=>by rw [h];decide,[],by rw [k,List.append_nil]⟩
theorem tl5 {M M':Mc} (h:M'.ended=5) (k:M'.told=M.told):Tl M M':=⟨fun e=>by rw [h];decide,[],by rw [k,List.append_nil]⟩
theorem tl_room (M:Mc) (k:Int):Tl M (M.room k).2:=by
 unfold Mc.room
 split
 · exact Tl.refl M
 · split
   · exact tl5 rfl rfl
   · exact tl0 rfl rfl
theorem tl_tell (M:Mc):Tl M M.tell:=by
 unfold Mc.tell
 split
 · refine ⟨fun h=>?_,_,rfl⟩
   show (if _ then (2:Int) else M.ended)≠4
   split
   · decide
   · exact h
 · exact tl0 rfl rfl
theorem tl_exec (M:Mc) (x:Ins):Tl M (M.exec x):=by
 have ha:Tl M (M.arith x):=by
   unfold Mc.arith
   split
   · (first | exact tl0 rfl rfl | exact tl3 rfl rfl)
   split<;>first | exact tl0 rfl rfl | exact tl3 rfl rfl
 have hj:∀ p q b,Tl M (M.jumpIf p q b):=by
   intro p q b
   unfold Mc.jumpIf
   split
   · (first | exact tl0 rfl rfl | exact tl3 rfl rfl)
   split<;>first | exact tl0 rfl rfl | exact tl3 rfl rfl
 by_cases e1:x.op=1
 · rw [exec1 e1];(first | exact tl0 rfl rfl | exact tl3 rfl rfl)
 by_cases e2:x.op=2
 · rw [exec2 e2];(first | exact tl0 rfl rfl | exact tl3 rfl rfl)
 by_cases e3:x.op=3
 · rw [exec3 e3];(first | exact tl0 rfl rfl | exact tl3 rfl rfl)
 by_cases e4:x.op=4
 · rw [exec4 e4];(first | exact tl0 rfl rfl | exact tl3 rfl rfl)
 by_cases e5:x.op=5
 · rw [exec5 e5];(first | exact tl0 rfl rfl | exact tl3 rfl rfl)
 by_cases e6:x.op=6
 · rw [exec6 e6];(first | exact tl0 rfl rfl | exact tl3 rfl rfl)
 by_cases e7:x.op=7
 · rw [exec7 e7];(first | exact tl0 rfl rfl | exact tl3 rfl rfl)
 by_cases e8:x.op=8
 · rw [exec8 e8];(first | exact tl0 rfl rfl | exact tl3 rfl rfl)
 by_cases e9:x.op=9
 · rw [exec9 e9];(first | exact tl0 rfl rfl | exact tl3 rfl rfl)
 by_cases e10:x.op=10
 · rw [exec10 e10];split<;>first | exact tl0 rfl rfl | exact tl3 rfl rfl
 by_cases e11:x.op=11
 · rw [exec11 e11];split<;>first | exact tl0 rfl rfl | exact tl3 rfl rfl
 by_cases e12:x.op=12
 · rw [exec12 e12];exact ha
 by_cases e13:x.op=13
 · rw [exec13 e13];(first | exact tl0 rfl rfl | exact tl3 rfl rfl)
 by_cases e14:x.op=14
 · rw [exec14 e14];exact hj _ _ _
 by_cases e15:x.op=15
 · rw [exec15 e15];exact hj _ _ _
 by_cases e16:x.op=16
 · rw [exec16 e16];(first | exact tl0 rfl rfl | exact tl3 rfl rfl)
 unfold Mc.exec
 rw [if_neg e1,if_neg e2,if_neg e3,if_neg e4,if_neg e5,if_neg e6,if_neg e7,if_neg e8,if_neg e9,if_neg e10,if_neg e11,if_neg e12,if_neg e13,if_neg e14,if_neg e15,if_neg e16]
 (first | exact tl0 rfl rfl | exact tl3 rfl rfl)
theorem tl_run (M:Mc):Tl M M.run:=by
 unfold Mc.run
 split
 · exact tl_room _ _
 split
 · exact (tl_room _ _).trans ((show Tl (M.room (cellsOf M.insOf)).2 (M.room (cellsOf M.insOf)).2.next from (tl0 rfl rfl)).trans (tl_exec _ _))
 · exact (show Tl M M.next from (tl0 rfl rfl)).trans (tl_exec _ _)
theorem tl_work (M:Mc):Tl M M.work:=by
 have hl:Tl M M.lacks:=by
   unfold Mc.lacks
   split
   · (first | exact tl0 rfl rfl | exact tl3 rfl rfl)
   split
   · (first | exact tl0 rfl rfl | exact tl3 rfl rfl)
   split
   · exact (tl_room _ _).trans (tl0 rfl rfl)
   · exact tl_room _ _
 have hr:∀ f k,Tl M (M.read f k):=by
   intro f k
   unfold Mc.read
   split
   · (first | exact tl0 rfl rfl | exact tl3 rfl rfl)
   split
   · exact (tl_room _ _).trans (tl0 rfl rfl)
   · exact tl_room _ _
 unfold Mc.work
 split
 · exact tl_tell M
 split
 · exact tl_run M
 · unfold Mc.unwind Mc.call
   repeat' split
   all_goals first | exact hl | exact hr _ _ | (first | exact tl0 rfl rfl | exact tl3 rfl rfl)
theorem tl_tidy (M:Mc):Tl M M.tidy:=by
 unfold Mc.tidy
 split
 · exact tl0 rfl rfl
 · (first | exact tl0 rfl rfl | exact tl3 rfl rfl)
theorem tl_step (M:Mc):Tl M M.step:=by
 unfold Mc.step
 split
 · exact Tl.refl M
 split
 · exact tl_work M
 · exact (tl_work M).trans ((show Tl M.work { M.work with steps:=M.work.steps+1} from tl0 rfl rfl).trans (tl_tidy _))
end
section
open Go Go.W
theorem yard_good {w0 w:World} {l:List Mcn} {N:Nat→Prop} (h:Yard w0 w l N) {i:Nat} {p:Mcn} (hi:l[i]? = some p):Good p.n p.M:=by
 obtain ⟨_,_,_,h2,_⟩:=crew_do h.crew hi
 exact h2
section
variable {w:World} {vsh vgl vin:Value} {T:Tab} {B:Nat→Prop} {entry:ByteArray} {input:List Int} {heap every a b:Int} {gens:Bool}
end
end
section
open Go Go.W
theorem firstNs_over {n p:Nat} (hp:p < n):over (firstNs n) p=p:=by
 have h1:nxt (firstNs n) p=p:=by
   apply nxt_fix
   unfold ind
   rw [firstNs_ndAt hp]
   rfl
 unfold over
 obtain ⟨k,_,e⟩:=ov_mem (nxt (firstNs n)) (firstNs n).length p
 rw [e,fit_fix h1]
section
variable {ρ:Int→Int} {E:List Nat} {T1 T2:Tab} {entry:ByteArray} {input:List Int} {heap1 heap2 every1 every2:Int} {gens1 gens2:Bool}
theorem range_getD {n:Nat} {g:Int} (h:0≤g∧g < n):((List.range n).map (fun i:Nat=>(i:Int))).getD g.toNat 0=g:=by
 have hlt:g.toNat < n:=by omega
 rw [List.getD_eq_getElem?_getD,List.getElem?_map,List.getElem?_range hlt]
 show ((g.toNat:Nat):Int)=g
 omega
theorem new_twin (h1:newErr T1 entry input heap1 every1=0) (h2:newErr T2 entry input heap2 every2=0) (r1:(T1.globals.length:Int)≤heap1) (r2:(T2.globals.length:Int)≤heap2)
   (ht:TabSim ρ T1 T2) (hρ:∀ g,0≤g→0≤ρ g) (hinj:∀ g g':Int,0≤g→g < T1.globals.length→0≤g'→g' < T1.globals.length→ρ g=ρ g'→g=g') (he:entryI entry T2=ρ (entryI entry T1))
   (hE:∀ i∈E,i < T2.globals.length∧∀ g:Int,0≤g→g < T1.globals.length→ρ g≠i) (cov:Covers ρ E T1.globals.length T2.globals.length) (cap:heap1+E.length≤heap2) :
   Twin ρ E 0 (newM T1 entry input heap1 gens1 every1) (newM T2 entry input heap2 gens2 every2):=by
 have k1:=newM_ok (gens:=gens1) h1 r1
 have k2:=newM_ok (gens:=gens2) h2 r2
 have e1:newM T1 entry input heap1 gens1 every1 = { newI T1 input heap1 gens1 every1 T1.globals.length with wait:=[entryI entry T1]}:=by unfold newM;rw [if_pos r1]
 have e2:newM T2 entry input heap2 gens2 every2 = { newI T2 input heap2 gens2 every2 T2.globals.length with wait:=[entryI entry T2]}:=by unfold newM;rw [if_pos r2]
 have hent:=(new_facts h1).ent
 rw [e1] at k1 ⊢
 rw [e2] at k2 ⊢
 have hR:∀ g:Int,0≤g→g < T1.globals.length→over (firstNs T1.globals.length) g.toNat < T1.globals.length∧((over (firstNs T2.globals.length) (ρ g).toNat:Nat):Int)=ρ ((over (firstNs T1.globals.length) g.toNat:Nat):Int):=by
   intro g g0 g1
   obtain ⟨n0,n1⟩:=ht.nn g g0 g1
   rw [firstNs_over (by omega),firstNs_over (by omega)]
   refine ⟨by omega,?_⟩
   rw [show ((g.toNat:Nat):Int)=g by omega]
   omega
 refine ⟨⟨fun p q=>p < T1.globals.length∧(q:Int)=ρ (p:Int),?_⟩,⟨k1,k2,hρ,?_,cap⟩⟩
 · refine ⟨⟨?_,?_,?_,?_,?_⟩,ht,rfl,rfl,rfl,rfl,rfl,rfl,?_,?_,L2.nil,?_⟩
   · rintro x y ⟨hx,hy⟩
     obtain ⟨n0,n1⟩:=ht.nn (x:Int) (by omega) (by omega)
     have hy':y < T2.globals.length:=by omega
     refine ⟨by rw [ren_len];show x < (firstNs _).length;rw [firstNs_len];exact hx,by show y < (firstNs _).length;rw [firstNs_len];exact hy',?_,firstNs_over hy'⟩
     rw [ren_over]
     exact firstNs_over hx
   · rintro x y y' ⟨_,a⟩ ⟨_,b⟩
     omega
   · rintro x x' y ⟨a,b⟩ ⟨c,d⟩
     have:=hinj x x' (by omega) (by omega) (by omega) (by omega) (by rw [← b,← d])
     omega
   · rintro x y ⟨hx,hy⟩
     obtain ⟨n0,n1⟩:=ht.nn (x:Int) (by omega) (by omega)
     have f1:ndAt (newI T1 input heap1 gens1 every1 T1.globals.length).st.ns x=⟨4,(x:Int),[]⟩:=firstNs_ndAt hx
     have f2:ndAt (newI T2 input heap2 gens2 every2 T2.globals.length).st.ns y=⟨4,(y:Int),[]⟩:=firstNs_ndAt (by omega)
     rw [ren_at]
     show (renNd ρ (ndAt (newI T1 input heap1 gens1 every1 T1.globals.length).st.ns x)).kind=(ndAt (newI T2 input heap2 gens2 every2 T2.globals.length).st.ns y).kind∧(renNd ρ (ndAt (newI T1 input heap1 gens1 every1 T1.globals.length).st.ns x)).num=(ndAt (newI T2 input heap2 gens2 every2 T2.globals.length).st.ns y).num∧(renNd ρ (ndAt (newI T1 input heap1 gens1 every1 T1.globals.length).st.ns x)).args.length=(ndAt (newI T2 input heap2 gens2 every2 T2.globals.length).st.ns y).args.length
     rw [f1,f2]
     exact ⟨rfl,hy.symm,rfl⟩
   · rintro x y ⟨hx,hy⟩ _ i a b hi
     have f1:ndAt (newI T1 input heap1 gens1 every1 T1.globals.length).st.ns x=⟨4,(x:Int),[]⟩:=firstNs_ndAt hx
     rw [ren_at] at hi
     have hi':(renNd ρ (ndAt (newI T1 input heap1 gens1 every1 T1.globals.length).st.ns x)).args[i]? = some a:=hi
     rw [f1] at hi'
     cases hi'
   · intro g g0 g1
     have g1:g < T1.globals.length:=g1
     obtain ⟨n0,n1⟩:=ht.nn g g0 g1
     show (over (firstNs T1.globals.length) (((List.range T1.globals.length).map (fun i:Nat=>(i:Int))).getD g.toNat 0).toNat < T1.globals.length∧_=_)
     have s1:((List.range T1.globals.length).map (fun i:Nat=>(i:Int))).getD g.toNat 0=g:=range_getD ⟨g0,g1⟩
     have s2:((List.range T2.globals.length).map (fun i:Nat=>(i:Int))).getD (ρ g).toNat 0=ρ g:=range_getD ⟨n0,n1⟩
     show (over (firstNs T1.globals.length) (((List.range T1.globals.length).map (fun i:Nat=>(i:Int))).getD g.toNat 0).toNat < T1.globals.length∧((over (firstNs T2.globals.length) (((List.range T2.globals.length).map (fun i:Nat=>(i:Int))).getD (ρ g).toNat 0).toNat:Nat):Int)=ρ ((over (firstNs T1.globals.length) (((List.range T1.globals.length).map (fun i:Nat=>(i:Int))).getD g.toNat 0).toNat:Nat):Int))
     rw [s1,s2]
     exact hR g g0 g1
   · intro i hi
     obtain ⟨i1,i2⟩:=hE i hi
     have s2:((List.range T2.globals.length).map (fun i:Nat=>(i:Int))).getD i 0=(i:Int):=by
       have:=range_getD (n:=T2.globals.length) (g:=(i:Int)) ⟨by omega,by omega⟩
       rw [Int.toNat_natCast] at this
       exact this
     refine ⟨by show i < ((List.range T2.globals.length).map (fun i:Nat=>(i:Int))).length;simp;exact i1,?_⟩
     show Alone _ _ (((List.range T2.globals.length).map (fun i:Nat=>(i:Int))).getD i 0)
     rw [s2]
     refine ⟨⟨by omega,by show (i:Int) < (firstNs _).length;rw [firstNs_len];omega⟩,?_,?_⟩
     · show (ndAt (firstNs _) (over (firstNs _) ((i:Int)).toNat)).kind=4
       rw [Int.toNat_natCast,firstNs_over i1,firstNs_ndAt i1]
     · rintro x ⟨hx,hx2⟩
       have hx2:((over (firstNs T2.globals.length) ((i:Int)).toNat:Nat):Int)=ρ (x:Int):=hx2
       rw [Int.toNat_natCast,firstNs_over i1] at hx2
       exact i2 x (by omega) (by omega) hx2.symm
   · refine L2.one ?_
     show (over (firstNs T1.globals.length) (entryI entry T1).toNat < T1.globals.length∧((over (firstNs T2.globals.length) (entryI entry T2).toNat:Nat):Int)=ρ ((over (firstNs T1.globals.length) (entryI entry T1).toNat:Nat):Int))
     rw [he]
     exact hR _ hent.1 hent.2
 · have:Covers ρ E ((List.range T1.globals.length).map (fun i:Nat=>(i:Int))).length ((List.range T2.globals.length).map (fun i:Nat=>(i:Int))).length:=by simpa using cov
   exact this
theorem renIns_id (l:List Ins):l.map (renIns id)=l:=by
 have:renIns id=id:=by funext x;unfold renIns;split<;>rfl
 rw [this,List.map_id]
theorem tabSim_id (T:Tab):TabSim id T T:=⟨fun g a b=>⟨a,b⟩,rfl,fun g _ _=>rfl,fun g _ _=>(renIns_id _).symm⟩
theorem newErr_other {T:Tab} (h:newErr T entry input heap1 every1=0) (hh:1≤heap2∧heap2≤1048576) (he:0≤every2):newErr T entry input heap2 every2=0:=by
 unfold newErr at h ⊢
 split at h
 · cases h
 rename_i c1
 rw [if_neg c1]
 split at h
 · cases h
 rename_i c2
 have c3:¬ (input.any (fun n=>!numB n)=true∨heap2 < 1∨heap2 > 1048576∨every2 < 0):=by
   rintro (e | e | e | e)
   · exact c2 (.inl e)
   · omega
   · omega
   · omega
 rw [if_neg c3]
 exact h
theorem new_same {T:Tab} (h1:newErr T entry input heap1 every1=0) (h2:newErr T entry input heap2 every2=0) (r1:(T.globals.length:Int)≤heap1) (hle:heap1≤heap2) :
   Twin id [] 0 (newM T entry input heap1 gens1 every1) (newM T entry input heap2 gens2 every2):=
 new_twin h1 h2 r1 (by omega) (tabSim_id T) (fun _ h=>h) (fun g g' _ _ _ _ h=>h) rfl (fun i hi=>by cases hi) ⟨fun j hj=>.inr ⟨j,hj,rfl⟩,.inl rfl⟩ (by simpa using hle)
theorem new_full {T:Tab} (r:¬ (T.globals.length:Int)≤heap1):newM T entry input heap1 gens1 every1 = { newI T input heap1 gens1 every1 heap1.toNat with globals:=[],ended:=5}:=by unfold newM;rw [if_neg r]
theorem new_pair {T:Tab} (h1:newErr T entry input heap1 every1=0) (h2:newErr T entry input heap1 every2=0):Pair id [] 0 (newM T entry input heap1 gens1 every1) (newM T entry input heap1 gens2 every2):=by
 by_cases r:(T.globals.length:Int)≤heap1
 · exact .inl (new_same h1 h2 r (Int.le_refl _))
 · rw [new_full r,new_full r]
   exact .inr ⟨rfl,⟨rfl,rfl,rfl,rfl,L2.nil⟩,rfl⟩
theorem new_size {T:Tab}:(newM T entry input heap1 gens1 every1).st.size=heap1:=by unfold newM newI;split<;>rfl
theorem pair_vis {n:Int} {M1 M2:Mc} (h:Pair id [] n M1 M2):visOf M2=visOf M1:=by
 have hl:=h.look
 have hv:liveOf M2=liveOf M1:=by
   unfold liveOf
   rw [hl.ended]
   rcases h with h | ⟨h5,_,hv⟩
   · have:=h.live
     have e:liveS M2=liveS M1:=by simpa using this
     have n5:=h.side.k1.ne5
     rw [if_pos n5,if_pos n5,e]
   · rw [if_neg (fun hh=>hh h5),if_neg (fun hh=>hh h5),hv]
     simp
 have hf:M2.frames.map seeT=M1.frames.map seeT:=by
   apply List.ext_getElem?
   intro i
   rw [List.getElem?_map,List.getElem?_map]
   cases h1:M1.frames[i]? with
   | none=>
     have:M2.frames[i]? = none:=by
       rw [List.getElem?_eq_none_iff] at h1 ⊢
       have:=hl.fr.1
       omega
     rw [this]
   | some f1=>
     have hlt:=(List.getElem?_eq_some_iff.1 h1).1
     have h2:M2.frames[i]? = some (M2.frames[i]'(by have:=hl.fr.1;omega)):=List.getElem?_eq_getElem _
     have hp:=hl.fr.2 i _ _ h1 h2
     rw [h2]
     show some (seeT _)=some (seeT _)
     obtain ⟨a,b,c,d,e⟩:=hp
     unfold seeT
     rw [a]
     cases hr:f1.runs
     · simp [e]
     · have:=b hr
       simp only [id] at this
       simp [this,c,d]
 unfold visOf
 rw [hl.steps,hl.ended,hv,List.map_reverse,List.map_reverse,hf]
theorem more_steps {M1 M2:Mc} (h:Twin id [] 0 M1 M2) (k:Nat):Twin id [] k (M1.steps' k) (M2.steps' k)∨((M1.steps' k).ended=5∧∃ l,(M2.steps' k).told=(M1.steps' k).told++l):=by
 induction k with
 | zero=>exact .inl h
 | succ k ih=>
   rcases ih with ih | ⟨h5,l,hl⟩
   · rcases ih.step with hs | ⟨h0,ho,_⟩
     · exact .inl hs
     · obtain ⟨R,hlk⟩:=ih.link
       obtain ⟨l,hl⟩:=(tl_step (M2.steps' k)).t
       exact .inr ⟨ho.ended,l,by rw [show M2.steps' (k+1)=(M2.steps' k).step from rfl,hl,hlk.told,show M1.steps' (k+1)=(M1.steps' k).step from rfl,ho.told]⟩
   · have e:M1.steps' (k+1)=M1.steps' k:=step_end (by omega)
     obtain ⟨l',hl'⟩:=(tl_step (M2.steps' k)).t
     exact .inr ⟨by rw [e];exact h5,l++l',by rw [e,show M2.steps' (k+1)=(M2.steps' k).step from rfl,hl',hl,List.append_assoc]⟩
theorem more_told {T:Tab} (h1:newErr T entry input heap1 every1=0) (h2:newErr T entry input heap2 every2=0) (hle:heap1≤heap2) (k:Nat) :
   let x:=(newM T entry input heap1 gens1 every1).steps' k
   let z:=(newM T entry input heap2 gens2 every2).steps' k
   (outKind z=outKind x∧z.stuck=x.stuck∧z.steps=x.steps∧z.told=x.told)∨(outKind x=5∧∃ l,z.told=x.told++l):=by
 intro x z
 by_cases r:(T.globals.length:Int)≤heap1
 · rcases more_steps (new_same (gens1:=gens1) (gens2:=gens2) h1 h2 r hle) k with h | ⟨h5,l,hl⟩
   · obtain ⟨R,hlk⟩:=h.link
     exact .inl ⟨by unfold outKind;rw [hlk.ended],hlk.stuck,hlk.steps,hlk.told⟩
   · have h5:x.ended=5:=h5
     exact .inr ⟨by unfold outKind;rw [h5];rfl,l,hl⟩
 · have e5:(newM T entry input heap1 gens1 every1).ended=5:=by rw [new_full r]
   have ex:x=newM T entry input heap1 gens1 every1:=steps_end' (i:=0) (j:=k) (show ((newM T entry input heap1 gens1 every1).steps' 0).ended≠0 by show (newM T entry input heap1 gens1 every1).ended≠0;omega) (Nat.zero_le _)
   refine .inr ⟨by rw [ex];unfold outKind;rw [if_neg (show ¬ (newM T entry input heap1 gens1 every1).ended=0 by rw [e5];decide)];exact e5,z.told,?_⟩
   rw [ex,new_told,List.nil_append]
theorem begS_pre:∀ (l m:List It),begS l (l++m)=true:=by
 intro l
 induction l with
 | nil=>intro m;cases m<;>rfl
 | cons a l ih=>
   intro m
   show (itEq a a&&begS l (l++m))=true
   rw [ih m,(itEq_iff a a).2 rfl]
   rfl
end
end
section
open Go Go.W
section
variable {w:World} {vsh vgl vin:Value} {T:Tab} {B:Nat→Prop} {entry:ByteArray} {input:List Int} {heap every ev more fuel:Int} {gens:Bool}
theorem settings_ok (ht:TabAt w vsh vgl T B) (hT:TabFit T) (hBl:∀ b,B b→b < w.heap.size) (hin:Ints w vin input) (hmore : -9223372036854775808≤more∧more≤9223372036854775807) :
   CallsR Tryz.prog 5 [tabV vsh vgl,.string entry,vin,setV heap gens every,I ev,I more,I fuel] w fun r w'=>r = .bool true∧Mod (fun _=>False) w w':=by
 have ht0:=ht
 have hin0:=hin
 obtain ⟨⟨aS,cS,rfl⟩,aG,cG,rfl⟩:=tab_sl ht
 obtain ⟨aI,cI,rfl,_⟩:=hin
 refine fit5.calls rfl ?_
 unfold ir5 tabV setV
 (try simp only [go_sem,simprocAttr])
 refine e_bx rfl ?_
 intro w1 hb1 hm1 hs1
 (try simp only [go_sem,simprocAttr])
 refine e_bx rfl ?_
 intro w2 hb2 hm2 hs2
 have hb12:=hm2.at hb1 (fun h=>h)
 have hm02:=hm1.trans hm2
 have hb12':w2.heap[w.heap.size]? = some (.cells [.slice aS T.shapes.length cS,.slice aG T.globals.length cG].toArray 25 (0,0)):=hb12
 have hb2':w2.heap[w1.heap.size]? = some (.cells [I heap,.bool gens,I every].toArray 28 (0,0)):=hb2
 have ht2:=ht0.mod hm02 (fun _ _ h=>h) (fun _ h=>h)
 have hin2:=hin0.mod hm02 (fun _ _ h=>h)
 have hBl2:∀ b,B b→b < w2.heap.size:=fun b hb=>Nat.lt_of_lt_of_le (hBl b hb) hm02.size
 have key:∀ {w':World} {l:List Mcn} {N:Nat→Prop} {heap every:Int} {gens:Bool},Yard w2 w' l N→CallsR Tryz.prog 8 [tabV (.slice aS T.shapes.length cS) (.slice aG T.globals.length cG),.string entry,.slice aI input.length cI,setV heap gens every,I fuel] w' fun r w''=>
     (newErr T entry input heap every≠0→r = .pointer none∧Yard w2 w'' l (· < w2.heap.size)) ∧
     (newErr T entry input heap every=0→∃ m S,r=ptr m∧Yard w2 w'' (l++[⟨m,S,(newM T entry input heap gens every).steps' (cutF fuel).toNat,(cutF fuel).toNat⟩]) (· < w2.heap.size)):=by
   intro w' l N heap every gens hY
   exact f_run hY (ht2.mod hY.mod (fun _ _ h=>h) (fun _ h=>h)) hT (fun b hb=>Nat.lt_of_lt_of_le (hBl2 b hb) hY.mod.size) (hin2.mod hY.mod (fun _ _ h=>h))
 have lnT:∀ {w':World},Mod (fun _=>False) w2 w'→vLN w' 2 (.pointer (some ⟨w.heap.size,0,none⟩))=some (.agg #[.slice aS T.shapes.length cS,.slice aG T.globals.length cG]):=fun hm=>ln_of (off:=0) (n:=2) (hm.at hb12' (fun h=>h)) (by simp)
 have lnS:∀ {w':World},Mod (fun _=>False) w2 w'→vLN w' 3 (.pointer (some ⟨w1.heap.size,0,none⟩))=some (.agg #[I heap,.bool gens,I every]):=fun hm=>ln_of (off:=0) (n:=3) (hm.at hb2' (fun h=>h)) (by simp)
 have ceS:∀ {w':World},Mod (fun _=>False) w2 w'→w'.heap[w1.heap.size]? = some (.cells [I heap,.bool gens,I every].toArray 28 (0,0)):=fun hm=>hm.at hb2' (fun h=>h)
 (try simp only [go_sem,simprocAttr])
 refine e_call (by rfl) ?_
 refine (f_awake w2).mono ?_
 rintro _ w3 ⟨rfl,hm3⟩
 have hY3:=yard_same (yard_nil w2) hm3
 (try simp only [go_sem,simprocAttr,lnT hm3,lnS hm3])
 refine e_call (by rfl) ?_
 refine (key hY3).mono ?_
 rintro r1 w4 ⟨hno,hyes⟩
 by_cases he:newErr T entry input heap every=0
 · obtain ⟨m1,S1,rfl,hY4⟩:=hyes he
   have hhp:=(new_facts he).hp
   (try simp only [go_sem,simprocAttr,cell_of (ceS hY4.mod),ptr,Bool.not_true,Option.isNone_none])
   refine e_al ?_
   intro w5 hb5 hm5 hs5
   (try simp only [go_sem,simprocAttr])
   have one5:∀ u∈[I heap,.bool !gens,.int .i64 (if 0 > ev then 0 else ev)],u.oneCell'=true:=by
     intro u hu
     simp only [List.mem_cons,List.not_mem_nil,or_false] at hu
     rcases hu with rfl | rfl | rfl<;>rfl
   refine e_sta (cs:=[I 0,.bool false,I 0]) rfl rfl hb5 rfl rfl one5 ?_
   intro w6 hb6 hm6 hs6
   have hm46:Mod (fun _=>False) w4 w6:=hm5.step hm6 (fun b hb hl=>by subst hb;omega)
   have hY6:=yard_same hY4 hm46
   obtain ⟨ev',eev,hev⟩:∃ ev':Int,(if 0 > ev then 0 else ev)=ev'∧0≤ev':=⟨_,rfl,by split<;>omega⟩
   rw [eev] at hb6
   have hb6':w6.heap[w4.heap.size]? = some (.cells [I heap,.bool !gens,I ev'].toArray 28 (0,0)):=hb6
   have ln6:=ln_of (off:=0) (n:=3) hb6' (by simp)
   have he2:=newErr_other (every2:=ev') he hhp hev
   (try simp only [go_sem,simprocAttr,lnT hY6.mod,ln6])
   refine e_call (by rfl) ?_
   refine (key (gens:=!gens) (every:=ev') hY6).mono ?_
   rintro r2 w7 ⟨_,hyes⟩
   obtain ⟨m2,S2,rfl,hY7⟩:=hyes he2
   (try simp only [go_sem,simprocAttr])
   refine ir_then (fun ρ w'=>∃ mo:Int,0≤mo∧mo≤9223372036854775807∧w7=w'∧ρ.get 1=some (.string entry)∧ρ.get 2=some (.slice aI input.length cI)∧ρ.get 5=some (I mo)∧ρ.get 6=some (I fuel)∧ρ.get 7=some (.pointer (some ⟨w.heap.size,0,none⟩))∧ρ.get 10=some (.pointer (some ⟨w1.heap.size,0,none⟩))∧ρ.get 16=some (.pointer (some ⟨m1,0,none⟩))∧ρ.get 18=some (.pointer (some ⟨m2,0,none⟩))) ?_ ?_
   · refine ir_cond rfl (fun hz=>?_) (fun hz=>?_)
     · simp only [zb1,zb2,zb3,zb4,zb5] at hz
       have e1:IntKind.i64.wrap (more+1)=more+1:=wrap_in (by omega) (by omega)
       have e2:IntKind.i64.wrap (0 - (more+1)) = -(more+1):=by rw [wrap_in (by omega) (by omega)];omega
       (try simp only [go_sem,simprocAttr,e1,e2])
       exact ⟨-(more+1),by omega,by omega,rfl⟩
     · simp only [zb1,zb2,zb3,zb4,zb5] at hz
       (try simp only [go_sem,simprocAttr])
       exact ⟨more,by omega,by omega,rfl⟩
   rintro ρ _ ⟨mo,hmo0,hmo1,rfl,q1,q2,q5,q6,q7,q10,q16,q18⟩
   have c7:=ceS hY7.mod
   have e3:IntKind.i64.wrap (mo.tmod 100000)=mo.tmod 100000:=wrap_in (by have:=Int.tmod_nonneg 100000 hmo0;omega) (by have:=Int.tmod_lt_of_pos mo (show (0:Int) < 100000 by decide);omega)
   have e4:IntKind.i64.wrap (heap+mo.tmod 100000)=heap+mo.tmod 100000:=wrap_in (by have:=Int.tmod_nonneg 100000 hmo0;omega) (by have:=Int.tmod_lt_of_pos mo (show (0:Int) < 100000 by decide);omega)
   (try simp only [go_sem,simprocAttr,q1,q2,q5,q6,q7,q10,q16,q18,lnT hY7.mod,cell_of c7,Int.reduceEq,e3,e4])
   obtain ⟨hp3,eh3,hh3⟩:∃ hp3:Int,(if 1048576 < heap+mo.tmod 100000 then 1048576 else heap+mo.tmod 100000)=hp3∧heap≤hp3∧hp3≤1048576:=⟨_,rfl,by have:=Int.tmod_nonneg 100000 hmo0;split<;>omega⟩
   rw [eh3]
   have he3:=newErr_other (heap2:=hp3) (every2:=every) he (by omega) ((new_facts he).ev)
   refine e_call (vs:=[tabV (.slice aS T.shapes.length cS) (.slice aG T.globals.length cG),.string entry,.slice aI input.length cI,setV hp3 gens every,I fuel]) (by (try simp only [go_sem,simprocAttr,q1,q2,q6,Option.map_some,Option.bind_some]);rfl) ?_
   refine (key (gens:=gens) (every:=every) (heap:=hp3) hY7).mono ?_
   rintro r3 w8 ⟨_,hyes⟩
   obtain ⟨m3,S3,rfl,hY8⟩:=hyes he3
   (try simp only [go_sem,simprocAttr,ptr,Option.isNone_none,q16,q18])
   generalize hk:(cutF fuel).toNat=k at hY8
   have hk2:(k:Int)≤20000:=by have:=cutF_le fuel;omega
   simp only [List.nil_append,List.cons_append] at hY8
   have hpair:Pair id [] (0+(k:Int)) ((newM T entry input heap gens every).steps' k) ((newM T entry input heap (!gens) ev').steps' k):=(new_pair he he2).steps (by rw [new_size,new_size];simp) k
   have hvis:=pair_vis hpair
   have hlook:=hpair.look
   have hmt:=more_told (gens1:=gens) (gens2:=gens) he he3 hh3.1 k
   have hg1:=yard_good hY8 (i:=0) rfl
   generalize (newM T entry input heap gens every).steps' k=X at hY8 hvis hlook hmt hg1
   generalize (newM T entry input heap (!gens) ev').steps' k=Y at hY8 hvis hlook
   generalize (newM T entry input hp3 gens every).steps' k=Z at hY8 hmt
   have hlt:(X.told.length:Int)≤(k:Int):=hg1.lt
   have hlf:(X.frames.length:Int)≤(k:Int):=hg1.lf
   refine e_call (by rfl) ?_
   refine (y_outcome hY8 (i:=0) rfl (by omega)).mono ?_
   rintro _ wa ⟨⟨v1,rfl,hv1⟩,hYa,hma⟩
   have hYa:=yard_base hYa
   (try simp only [go_sem,simprocAttr])
   refine e_al ?_
   intro wb hbb hmb hsb
   (try simp only [go_sem,simprocAttr])
   refine e_sta (cs:=[I 0,.slice none 0 0,I 0,I 0,I 0,I 0,I 0,.string ⟨#[]⟩]) rfl rfl hbb rfl rfl (out_one hv1 _ _ _) ?_
   intro wc hbc hmc hsc
   have hmac:Mod (fun _=>False) wa wc:=hmb.step hmc (fun b hb hl=>by subst hb;omega)
   have hYc:=yard_same hYa hmac
   (try simp only [go_sem,simprocAttr])
   refine e_call (by rfl) ?_
   refine (y_outcome hYc (i:=1) rfl (by omega)).mono ?_
   rintro _ wd ⟨⟨v2,rfl,hv2⟩,hYd,hmd⟩
   have hYd:=yard_base hYd
   (try simp only [go_sem,simprocAttr])
   refine e_al ?_
   intro we hbe hme hse
   (try simp only [go_sem,simprocAttr])
   refine e_sta (cs:=[I 0,.slice none 0 0,I 0,I 0,I 0,I 0,I 0,.string ⟨#[]⟩]) rfl rfl hbe rfl rfl (out_one hv2 _ _ _) ?_
   intro wf hbf hmf hsf
   have hmdf:Mod (fun _=>False) wd wf:=hme.step hmf (fun b hb hl=>by subst hb;omega)
   have hYf:=yard_same hYd hmdf
   (try simp only [go_sem,simprocAttr])
   refine e_call (by rfl) ?_
   refine (y_outcome hYf (i:=2) rfl (by omega)).mono ?_
   rintro _ wg ⟨⟨v3,rfl,hv3⟩,hYg,hmg⟩
   have hYg:=yard_base hYg
   (try simp only [go_sem,simprocAttr])
   refine e_al ?_
   intro wh hbh hmh hsh
   (try simp only [go_sem,simprocAttr])
   refine e_sta (cs:=[I 0,.slice none 0 0,I 0,I 0,I 0,I 0,I 0,.string ⟨#[]⟩]) rfl rfl hbh rfl rfl (out_one hv3 _ _ _) ?_
   intro wi hbi hmi hsi
   have hmgi:Mod (fun _=>False) wg wi:=hmh.step hmi (fun b hb hl=>by subst hb;omega)
   have hYi:=yard_same hYg hmgi
   have hmfi:=hmg.trans hmgi
   have hmdi:=hmdf.trans hmfi
   have hmci:=hmd.trans hmdi
   have b1:=hmci.at hbc (fun h=>h)
   have b2:=hmfi.at hbf (fun h=>h)
   have l1:=ln_of (off:=0) (n:=8) b1 (by simp)
   have l2:=ln_of (off:=0) (n:=8) b2 (by simp)
   have l3:=ln_of (off:=0) (n:=8) hbi (by simp)
   have hi1:=hv1.its.mod (hmac.trans hmci)
   have hi2:=hv2.its.mod hmdi
   have hi3:=hv3.its.mod hmgi
   (try simp only [go_sem,simprocAttr,l1,l2])
   refine e_call (by rfl) ?_
   refine (f_same hi1 hi2 (by omega)).mono ?_
   rintro _ wj ⟨⟨t1,rfl,ht1⟩,hmj⟩
   have hYj:=yard_same hYi hmj
   obtain rfl:t1=true:=ht1.2 ⟨by unfold outKind;rw [hlook.ended],hlook.stuck.symm,hlook.steps.symm,hlook.told.symm⟩
   (try simp only [go_sem,simprocAttr])
   refine e_call (by rfl) ?_
   refine (y_sight hYj (i:=0) rfl (by omega)).mono ?_
   rintro r5 wk ⟨hv5,hYk,hmk⟩
   have hYk:=yard_base hYk
   (try simp only [go_sem,simprocAttr])
   refine e_call (by rfl) ?_
   refine (y_sight hYk (i:=1) rfl (by omega)).mono ?_
   rintro r6 wl ⟨hv6,hYl,hml⟩
   have hYl:=yard_base hYl
   (try simp only [go_sem,simprocAttr])
   refine e_call (by rfl) ?_
   refine (f_sameSight (hv5.vis.mod hml) hv6.vis (by simp [visOf];omega)).mono ?_
   rintro _ wm ⟨⟨t2,rfl,ht2⟩,hmm⟩
   have hYm:=yard_same hYl hmm
   obtain rfl:t2=true:=ht2.2 hvis.symm
   have hmim:=((hmj.trans hmk).trans hml).trans hmm
   (try simp only [go_sem,simprocAttr,cell_of (hmim.at b1 (fun h=>h)),cell_of (hmim.at hbi (fun h=>h))])
   refine e_call (by rfl) ?_
   refine (f_begins (hi1.mod hmim) (hi3.mod hmim) (by omega)).mono ?_
   rintro _ wn ⟨rfl,hmn⟩
   have hYn:=yard_same hYm hmn
   have hmin:=hmim.trans hmn
   have hbeg:begS X.told Z.told=true:=by
     rcases hmt with ⟨_,_,_,e⟩ | ⟨_,l,e⟩
     · have:=begS_pre X.told []
       rw [List.append_nil] at this
       rw [e];exact this
     · rw [e];exact begS_pre _ _
   have hlen:X.told.length≤Z.told.length:=by
     rcases hmt with ⟨_,_,_,e⟩ | ⟨_,l,e⟩
     · rw [e];exact Nat.le_refl _
     · rw [e];simp
   rw [hbeg]
   have l1':=ln_of (off:=0) (n:=8) (hmin.at b1 (fun h=>h)) (by simp)
   have l3':=ln_of (off:=0) (n:=8) (hmin.at hbi (fun h=>h)) (by simp)
   (try simp only [go_sem,simprocAttr,l1',l3'])
   refine e_call (by rfl) ?_
   refine (f_same (hi1.mod hmin) (hi3.mod hmin) (by omega)).mono ?_
   rintro _ wo ⟨⟨t3,rfl,ht3⟩,hmo⟩
   have hYo:=yard_same hYn hmo
   have hmio:=hmin.trans hmo
   have b1':=hmio.at b1 (fun h=>h)
   have b3':=hmio.at hbi (fun h=>h)
   obtain ⟨a1,c1,rfl⟩:=its_sl hi1
   obtain ⟨a3,c3,rfl⟩:=its_sl hi3
   have q:decide ((X.told.length:Int)≤(Z.told.length:Int))=true:=by simp;omega
   rcases hmt with ⟨z1,z2,z3,z4⟩ | ⟨z1,_⟩
   · obtain rfl:t3=true:=ht3.2 ⟨z1.symm,z2.symm,z3.symm,z4.symm⟩
     (try simp only [go_sem,simprocAttr,cell_of b1',cell_of b3',q])
     exact hm02.trans hYo.mod
   · rw [z1] at b1'
     cases t3<;>(try simp only [go_sem,simprocAttr,cell_of b1',cell_of b3',q,beq_self_eq_true])<;>exact hm02.trans hYo.mod
 · obtain ⟨rfl,hY4⟩:=hno he
   (try simp only [go_sem,simprocAttr,Option.isNone_none,Bool.not_true])
   exact hm02.trans hY4.mod
end
end
section
open Go Go.W Go.ChangeShapes Go.WideShapes Go.ChangeAt Go.RowKit Go.Deep
theorem in_intB {H:Type} {enc:TypeId×Value→H} {w:World} {ts:List TypeId} {args:List Value} {ds:List (DataW H)} (h:LawIn enc Tryz.prog (3::ts) w args ds):∃ n args' d ds',args=I n::args'∧ds=d::ds'∧(-9223372036854775808≤n∧n≤9223372036854775807)∧LawIn enc Tryz.prog ts w args' ds':=by
 obtain ⟨v,args',d,ds',base,p,rfl,rfl,h',hval,hd,_⟩:=lawIn_cons h
 obtain ⟨n,rfl,_,_,hw⟩:=open_int Tryz.underlying3 hval hd
 refine ⟨n,args',d,ds',rfl,rfl,⟨?_,int_hi hw⟩,h'⟩
 have e:IntKind.min .i64 = -9223372036854775808:=by decide
 simp only [Lit.wf,Bool.and_eq_true,decide_eq_true_eq] at hw
 rw [e] at hw
 exact hw.1
theorem settings_lifted (os:Os) (started:os.Started) (H:Type) (enc:TypeId×Value→H) :
   ReturnsInHanded {} Tryz.checked os 5 .any (Rows.machineSettingsSpec.pre6 enc Tryz.prog Tryz.f5 Rows.machineSettingsRow.domain false) (Rows.machineSettingsSpec.post enc Tryz.prog Tryz.f5 false true false false):=by
 refine law_row (C:=Tryz.checked) Tryz.own started (by kernel_rfl) Tryz.func5
   (ChangeSpec.witness6 (enc:=enc) (C:=Tryz.checked) false ⟨#[],#[.agg #[.slice none 0 0,.slice none 0 0],.string ⟨#[]⟩,.slice none 0 0,.agg #[.int .i64 0,.bool false,.int .i64 0],.int .i64 0,.int .i64 0,.int .i64 0],[]⟩ 8 (by kernel_rfl) (by kernel_rfl) (by kernel_rfl) (by kernel_rfl))
   Tryz.laidOut (by kernel_rfl) (tb:=4) (by kernel_rfl) Tryz.underlying4 rfl ?_ ?_
 · intro ds hd
   rw [Tryz.params5] at hd
   match ds,hd with
   | [_,_,_,_,_,_,_],_=>rfl
 · intro W args ds h
   rw [Tryz.params5] at h
   obtain ⟨vsh,vgl,T,args1,_,_,rfl,rfl,ht,hT,_,h1⟩:=in_tab h
   obtain ⟨entry,args2,_,_,rfl,rfl,_,_,h2⟩:=in_str h1
   obtain ⟨vin,input,args3,_,_,rfl,rfl,hin,_,h3⟩:=in_ints h2
   obtain ⟨heap,gens,every,args4,_,_,rfl,rfl,h4⟩:=in_set h3
   obtain ⟨ev,args5,_,_,rfl,rfl,h5⟩:=in_int h4
   obtain ⟨more,args6,_,_,rfl,rfl,hm,h6⟩:=in_intB h5
   obtain ⟨fuel,args7,_,_,rfl,rfl,h7⟩:=in_int h6
   obtain ⟨rfl,rfl⟩:=lawIn_nil h7
   exact settings_ok ht hT (fun _ h=>h) hin hm
theorem machineSettings_holds:Rows.MachineSettingsSaid:=
 OpenClaim.holds_of_wide 5 Tryz.f5 rfl rfl rfl rfl rfl rfl rfl ⟨rfl,rfl,rfl,rfl,rfl⟩ rfl rfl rfl rfl rfl (by kernel_rfl) Tryz.func5 (by kernel_rfl)
   (of_decide_eq_true (by kernel_rfl)) (by unfold Func.isWrapper;rw [if_neg (of_decide_eq_false (by kernel_rfl))];exact ⟨rfl,rfl⟩)
   (fun os started H enc _=>settings_lifted os started H enc)
#print axioms machineSettings_holds
end
end Go.Proofs.YtcllploggibicaaGreat