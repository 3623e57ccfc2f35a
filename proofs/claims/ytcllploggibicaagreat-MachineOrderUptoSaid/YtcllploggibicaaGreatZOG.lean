/- MachineOrder, the second form: whatever table, entry, input, setting and fuel are handed in, the law answers true, and what was handed in reads as it did. Condition: what is handed in is of bulk at most 1048576. -/
import Derived.Test.YtcllploggibicaaGreatZOF
import Derived.Deep.CondSized
set_option linter.unusedSimpArgs false
set_option linter.unusedVariables false
set_option maxRecDepth 100000
namespace Go.Proofs.YtcllploggibicaaGreat
section
open Go Go.W
def nmSum (l:List Gl):Nat:=(l.map (·.name.size)).sum
def Tab.big (T:Tab):Nat:=nmSum T.globals+codeSum T.globals+T.globals.length
theorem sums_take (l:List Gl) (i:Nat):nmSum (l.take i)≤nmSum l∧codeSum (l.take i)≤codeSum l:=by
 have e:=List.take_append_drop i l
 have h1:nmSum l=nmSum (l.take i)+nmSum (l.drop i):=by
   conv=>lhs;rw [← e]
   unfold nmSum;rw [List.map_append,List.sum_append]
 have h2:codeSum l=codeSum (l.take i)+codeSum (l.drop i):=by
   conv=>lhs;rw [← e]
   unfold codeSum;rw [List.map_append,List.sum_append]
 omega
theorem sums_succ {l:List Gl} {i:Nat} (h:i < l.length):nmSum (l.take (i+1))=nmSum (l.take i)+l[i].name.size∧codeSum (l.take (i+1))=codeSum (l.take i)+l[i].code.length:=by
 rw [List.take_succ_eq_append_getElem h]
 unfold nmSum codeSum
 simp only [List.map_append,List.sum_append,List.map_cons,List.map_nil,List.sum_cons,List.sum_nil]
 omega
section
variable {w:World} {vsh vgl:Value} {T:Tab} {B:Nat→Prop}
theorem f_long (h:TabAt w vsh vgl T B) (hb:T.big≤1048576):CallsR Tryz.prog 10 [tabV vsh vgl] w fun r w'=>r = .bool (decide (nmSum T.globals > 2000∨codeSum T.globals≥200000))∧Mod (fun _=>False) w w':=by
 obtain ⟨⟨aS,cS,rfl⟩,aG,cG,rfl⟩:=tab_sl h
 unfold Tab.big at hb
 refine fit10.calls rfl ?_
 unfold ir10 tabV
 (try simp only [go_sem,simprocAttr])
 refine e_bx rfl ?_
 intro w1 hb1 hm1 hs1
 (try simp only [go_sem,simprocAttr])
 refine ir_loop (fun z ρ w'=>∃ i:Nat,z=T.globals.length - i∧i≤T.globals.length∧Mod (fun _=>False) w w'∧w'.heap[w.heap.size]? = some (.cells #[.slice aS T.shapes.length cS,.slice aG T.globals.length cG] 25 (0,0)) ∧
   ρ=[(1,.pointer (some ⟨w.heap.size,0,none⟩)),(3,I (nmSum (T.globals.take i):Nat)),(4,I (codeSum (T.globals.take i):Nat)),(5,I i)]) T.globals.length ⟨0,rfl,by omega,hm1,hb1,rfl⟩ ?_
 rintro z ρ w2 ⟨i,rfl,hi,hm2,hb2,rfl⟩
 unfold ir10L1
 (try simp only [go_sem,simprocAttr,cell_of hb2])
 have hst:=sums_take T.globals i
 refine ir_cond rfl (fun hlt=>?_) (fun hlt=>?_)
 · have hlt:i < T.globals.length:=by simpa using hlt
   have hsu:=sums_succ hlt
   have hst2:=sums_take T.globals (i+1)
   have b1:(0:Int)≤i∧(i:Int) < T.globals.length:=by omega
   obtain ⟨ad,c,cv,e',_,h2,h3,h4,hrows⟩:=glob_at (h.mod hm2 (fun _ _ h=>h) (fun _ h=>h)) hlt
   cases e'
   rw [gl_idx hlt] at h2 h3 hrows
   obtain ⟨acv,ccv,hcv⟩:=rows_sl hrows
   rw [List.length_map] at hcv
   subst hcv
   rw [add_zero'] at h2
   have h4':w2.cell? ⟨(ad.add (i*3)).block,(ad.add (i*3)).off+2,none⟩=_:=h4
   have e1:IntKind.i64.wrap ((nmSum (T.globals.take i):Int)+T.globals[i].name.size)=(nmSum (T.globals.take (i+1)):Nat):=by rw [wrap_in (by omega) (by omega)];omega
   have e2:IntKind.i64.wrap ((codeSum (T.globals.take i):Int)+T.globals[i].code.length)=(codeSum (T.globals.take (i+1)):Nat):=by rw [wrap_in (by omega) (by omega)];omega
   have e3:IntKind.i64.wrap ((i:Int)+1)=((i+1:Nat):Int):=by rw [wrap_in (by omega) (by omega)];omega
   (try simp only [go_sem,simprocAttr,zb4,zb6,b1,cell_of hb2,h2,h4',e1,e2,e3])
   exact ⟨_,by omega,i+1,rfl,by omega,hm2,hb2,rfl⟩
 · have hlt:¬ i < T.globals.length:=by simpa using hlt
   obtain rfl:i=T.globals.length:=by omega
   rw [List.take_length]
   have c1:decide ((nmSum T.globals:Int) > 2000)=decide (nmSum T.globals > 2000):=decide_eq_decide.2 (by omega)
   have c2:decide ((codeSum T.globals:Int)≥200000)=decide (codeSum T.globals≥200000):=decide_eq_decide.2 (by omega)
   have c3:decide (nmSum T.globals > 2000∨codeSum T.globals≥200000)=(decide (nmSum T.globals > 2000)||decide (codeSum T.globals≥200000)):=by simp
   rw [c3,← c1,← c2]
   cases h1:decide ((nmSum T.globals:Int) > 2000)<;>(try simp only [go_sem,simprocAttr,h1,Bool.true_or,Bool.false_or])<;>exact hm2
theorem ins_one (x:Ins):∀ u∈insRow x,u.oneCell'=true:=by
 intro u hu
 simp only [insRow,List.mem_cons,List.not_mem_nil,or_false] at hu
 rcases hu with rfl | rfl | rfl<;>rfl
theorem f_orderIn {Q:Post} {b1 b2 b4 b8 n:Nat} {i:Int} {g:Gl} {acv:Option Addr} {ccv:Nat} {B:Nat→Prop} (hcv:RowsAt w (.slice acv g.code.length ccv) 3 (g.code.map insRow) B)
   (hb8:w.heap[b8]? = some (.cells [.string g.name,I g.arity,.slice acv g.code.length ccv].toArray 70 (0,0))) (hn:n≤1048576) (hc:g.code.length≤1048576) (hop:∀ x∈g.code,x.op=2→0≤x.a∧x.a < n)
   (hk:∀ (v:Value) (f:Option Nat) (w':World),OwnS w' 66 3 v (((g.code.map (renIns (rhoO n))).map insRow).flatMap id) g.code.length f→(∀ b,f=some b→w.heap.size≤b)→Mod (fun _=>False) w w' →
     Q .normal [(1,ptr b1),(2,ptr b2),(3,I n),(4,ptr b4),(7,I i),(8,ptr b8),(9,v),(10,I g.code.length),(65,.bool false)] w') :
   irwp Tryz.prog 94 (.block 4 (.loop ir9L2)) Q [(1,ptr b1),(2,ptr b2),(3,I n),(4,ptr b4),(7,I i),(8,ptr b8),(9,.slice none 0 0),(10,I 0)] w:=by
 (try simp only [go_sem,simprocAttr])
 refine ir_loop (fun z ρ w'=>∃ (k:Nat) (v:Value) (f:Option Nat),z=g.code.length - k∧k≤g.code.length∧Mod (fun _=>False) w w'∧OwnS w' 66 3 v ((((g.code.take k).map (renIns (rhoO n))).map insRow).flatMap id) k f∧(∀ b,f=some b→w.heap.size≤b) ∧
   ρ=[(1,ptr b1),(2,ptr b2),(3,I n),(4,ptr b4),(7,I i),(8,ptr b8),(9,v),(10,I k)]) g.code.length ⟨0,.slice none 0 0,none,rfl,by omega,Mod.refl _ _,OwnS.nil _ _ _,(fun b hb=>by cases hb),rfl⟩ ?_
 rintro z ρ w2 ⟨k,v,f,rfl,hi,hm2,ho,hf,rfl⟩
 obtain ⟨aV,cV,rfl,_⟩:=ho.val
 have hb82:=hm2.at hb8 (fun h=>h)
 unfold ir9L2
 (try simp only [go_sem,simprocAttr,cell_of hb82,ptr])
 refine ir_cond rfl (fun hlt=>?_) (fun hlt=>?_)
 · have hlt:k < g.code.length:=by simpa using hlt
   have hop':=hop _ (List.getElem_mem hlt)
   have htk:=List.take_succ_eq_append_getElem hlt
   obtain ⟨ad,c,e',_,hln⟩:=ins_at (hcv.mod hm2 (fun _ _ h=>h) (fun _ h=>h)) hlt
   cases e'
   rw [ins_idx hlt] at hln
   generalize g.code[k]=x at *
   have b1':(0:Int)≤k∧(k:Int) < g.code.length:=by omega
   (try simp only [go_sem,simprocAttr,zb4,zb6,b1',hln,cell_of hb82])
   refine e_al ?_
   intro w3 hb3 hm3 _
   refine e_sta (cs:=[I 0,I 0,I 0]) rfl rfl hb3 rfl rfl (ins_one x) ?_
   intro w4 hb4 hm4 _
   have hm24:Mod (fun _=>False) w2 w4:=hm3.step hm4 (fun y hy hl=>by subst hy;omega)
   (try simp only [go_sem,simprocAttr,cell_of hb4])
   refine ir_then (fun ρ w'=>Mod (fun _=>False) w2 w'∧w'.heap[w2.heap.size]? = some (.cells (insRow (renIns (rhoO n) x)).toArray 66 (0,0))∧ρ.get 1=some (ptr b1)∧ρ.get 2=some (ptr b2)∧ρ.get 3=some (I n)∧ρ.get 4=some (ptr b4)∧ρ.get 7=some (I i)∧ρ.get 8=some (ptr b8) ∧
     ρ.get 9=some (.slice aV k cV)∧ρ.get 10=some (I k)∧ρ.get 11=some (ptr w2.heap.size)) ?_ ?_
   · refine ir_cond rfl (fun h2=>?_) (fun h2=>?_)
     · have h2:x.op=2:=by simpa using h2
       have ha:=hop' h2
       have e1:IntKind.i64.wrap ((n:Int) - x.a)=(n:Int) - x.a:=wrap_in (by omega) (by omega)
       (try simp only [go_sem,simprocAttr,cell_of hb4,e1])
       refine e_st1 (off:=1) rfl rfl hb4 rfl (by simp) ?_
       intro w5 hb5 hm5 _
       (try simp only [go_sem,simprocAttr])
       have e2:renIns (rhoO n) x=⟨x.op,(n:Int) - x.a,x.b⟩:=by unfold renIns rhoO;rw [if_pos h2,show max ((n:Int) - x.a) 0=n - x.a by omega]
       refine ⟨hm24.step hm5 (fun y hy hl=>by subst hy;omega),?_⟩
       rw [e2]
       exact hb5
     · have h2:¬ x.op=2:=by simpa using h2
       (try simp only [go_sem,simprocAttr])
       refine ⟨hm24,?_⟩
       rw [ren_ne h2]
       exact hb4
   rintro ρ w5 ⟨hm5,hb5,q1,q2,q3,q4,q7,q8,q9,q10,q11⟩
   have ln5:=ln_of (off:=0) (n:=3) hb5 (by simp [insRow])
   have e3:IntKind.i64.wrap ((k:Int)+1)=((k+1:Nat):Int):=by rw [wrap_in (by omega) (by omega)];omega
   generalize hy:renIns (rhoO n) x=y at *
   (try simp only [go_sem,simprocAttr,q1,q2,q3,q4,q7,q8,q9,q10,q11,ptr,ln5,insRow])
   refine e_bs (ps:=[(0,3,.agg #[I y.op,I y.a,I y.b])]) (by (try simp only [go_sem,simprocAttr,Option.map_some,Option.bind_some])) (by rfl) ?_
   intro w6 hb6 hm6 _
   (try simp only [go_sem,simprocAttr])
   have hm26:=hm5.trans hm6
   refine e_ap (v:=.slice aV k cV) (m:=1) (news:=insRow y) (by (try simp only [go_sem,simprocAttr,q9])) (ho.mod hm26 (fun _ _ h=>h)) rfl (fun h=>by cases h) (rd_block (xs:=insRow y) hb6) (ins_one y) rfl (by omega) (by omega) ?_
   intro v7 w7 f7 ho7 hm7 hf7
   (try simp only [go_sem,simprocAttr,q1,q2,q3,q4,q7,q8,q10,e3])
   have fw:∀ b,f=some b→¬ b < w.heap.size:=fun b hb=>by have:=hf b hb;omega
   refine ⟨_,by omega,k+1,v7,f7,rfl,by omega,(hm2.trans hm26).step hm7 (fun b hb hl=>absurd hl (fw b hb)),?_,fun b hb=>?_,rfl⟩
   · rw [htk]
     simp only [List.map_append,List.map_cons,List.map_nil,List.flatMap_append,List.flatMap_cons,List.flatMap_nil,id,List.append_nil,hy]
     exact ho7
   · rcases hf7 b hb with h1 | h1
     · exact hf b h1
     · have:=hm2.size;have:=hm26.size;omega
 · have hlt:¬ k < g.code.length:=by simpa using hlt
   obtain rfl:k=g.code.length:=by omega
   rw [List.take_length] at ho
   have q:decide ((g.code.length:Int) < g.code.length)=false:=by simp
   (try simp only [go_sem,simprocAttr,q])
   exact hk _ _ _ ho hf hm2
theorem nmS_drop {l:List Gl} {i:Nat} (h:i < l.length) (b:ByteArray):nmS (l.drop i) b=nmS (l.drop (i+1)) (if l[i].name.size≥b.size then b++l[i].name else b):=by
 rw [List.drop_eq_getElem_cons h];rfl
theorem f_order (h:TabAt w vsh vgl T B) (hBl:∀ b,B b→b < w.heap.size) (hb:T.big≤1048576) (hop:∀ g∈T.globals,∀ x∈g.code,x.op=2→0≤x.a∧x.a < T.globals.length) :
   CallsR Tryz.prog 9 [tabV vsh vgl] w fun r w'=>∃ vsh' vgl',r=tabV vsh' vgl'∧TabAt w' vsh' vgl' (orderT T) (· < w'.heap.size)∧Mod (fun _=>False) w w':=by
 have h0:=h
 obtain ⟨⟨aS,cS,rfl⟩,aG,cG,rfl⟩:=tab_sl h
 unfold Tab.big at hb
 refine fit9.calls rfl ?_
 unfold ir9 tabV
 (try simp only [go_sem,simprocAttr])
 refine e_bx rfl ?_
 intro w1 hb1 hm1 hs1
 (try simp only [go_sem,simprocAttr])
 refine e_al ?_
 intro w2 hb2 hm2 hs2
 have hm02:=hm1.trans hm2
 have hb12:=hm2.at hb1 (fun h=>h)
 (try simp only [go_sem,simprocAttr,cell_of hb12,Value.cells])
 refine e_al ?_
 intro w3 hb3 hm3 hs3
 refine e_sta (cs:=[.slice none 0 0,.slice none 0 0]) rfl rfl hb3 rfl rfl (by simp [Value.oneCell']) ?_
 intro w4 hb4 hm4 _
 have hm24:Mod (fun _=>False) w2 w4:=hm3.step hm4 (fun x hx hl=>by subst hx;omega)
 have hm04:=hm02.trans hm24
 have hb14:=hm24.at hb12 (fun h=>h)
 have hb24:=hm24.at hb2 (fun h=>h)
 have h4:=h0.mod hm04 (fun _ _ h=>h) (fun _ h=>h)
 (try simp only [go_sem,simprocAttr])
 refine ir_loop (fun z ρ w'=>∃ (i:Nat) (nm:ByteArray),z=T.globals.length - i∧i≤T.globals.length∧w4=w'∧nmS (T.globals.drop i) nm=nmS T.globals nobody∧nm.size≤8+nmSum (T.globals.take i) ∧
   ρ=[(1,.pointer (some ⟨w.heap.size,0,none⟩)),(2,.pointer (some ⟨w1.heap.size,0,none⟩)),(3,I T.globals.length),(4,.pointer (some ⟨w2.heap.size,0,none⟩)),(5,.string nm),(6,I i)]) T.globals.length ⟨0,nobody,rfl,by omega,rfl,rfl,by show 8≤_;omega,rfl⟩ ?_
 rintro z ρ _ ⟨i,nm,rfl,hi,rfl,hnm,hns,rfl⟩
 have hst:=sums_take T.globals i
 unfold ir9L1
 (try simp only [go_sem,simprocAttr])
 refine ir_cond rfl (fun hlt=>?_) (fun hlt=>?_)
 · have hlt:i < T.globals.length:=by simpa using hlt
   have hsu:=sums_succ hlt
   have hst2:=sums_take T.globals (i+1)
   have b1:(0:Int)≤i∧(i:Int) < T.globals.length:=by omega
   obtain ⟨ad,c,cv,e',_,k2,k3,k4,hrows⟩:=glob_at h4 hlt
   cases e'
   rw [gl_idx hlt] at k2 k3 hrows
   rw [add_zero'] at k2
   rw [nmS_drop hlt] at hnm
   have e3:IntKind.i64.wrap ((i:Int)+1)=((i+1:Nat):Int):=by rw [wrap_in (by omega) (by omega)];omega
   have eM:IntKind.max .i64=9223372036854775807:=by decide
   (try simp only [go_sem,simprocAttr,zb4,zb6,b1,cell_of hb14,k2])
   refine ir_cond rfl (fun hz=>?_) (fun hz=>?_)
   · have hz:nm.size≤T.globals[i].name.size:=by simpa using hz
     have e4:(((nm.size+T.globals[i].name.size:Nat):Int) > IntKind.max .i64)=False:=eq_false (by rw [eM];omega)
     rw [if_pos hz] at hnm
     (try simp only [go_sem,simprocAttr,zb4,zb6,b1,cell_of hb14,k2,e4,e3])
     exact ⟨_,by omega,i+1,_,rfl,by omega,hnm,by rw [ba_app_size];omega,rfl⟩
   · have hz:¬ nm.size≤T.globals[i].name.size:=by simpa using hz
     rw [if_neg hz] at hnm
     (try simp only [go_sem,simprocAttr,e3])
     exact ⟨_,by omega,i+1,_,rfl,by omega,hnm,by omega,rfl⟩
 · have hlt:¬ i < T.globals.length:=by simpa using hlt
   obtain rfl:i=T.globals.length:=by omega
   rw [List.drop_length] at hnm
   have hnm:nm=nmS T.globals nobody:=hnm
   subst hnm
   have hb44:w4.heap[w2.heap.size]? = some (.cells [.slice aS T.shapes.length cS,.slice none 0 0].toArray 25 (0,0)):=hb4
   (try simp only [go_sem,simprocAttr,cell_of hb44])
   refine e_bs (by rfl) (by rfl) ?_
   intro w5 hb5 hm5 hs5
   have hoc5:OwnS w5 66 3 (.slice (some ⟨w4.heap.size,0,none⟩) 1 1) (((nobG T).code.map insRow).flatMap id) 1 (some w4.heap.size):=OwnS.of_block hb5 rfl
   (try simp only [go_sem,simprocAttr])
   refine e_bs (by rfl) (by rfl) ?_
   intro w6 hb6 hm6 hs6
   have hb6':w6.heap[w5.heap.size]? = some (.cells (glRow (nobG T) (.slice (some ⟨w4.heap.size,0,none⟩) 1 1)).toArray 70 (0,0)):=hb6
   have hm46:=hm5.trans hm6
   have hb46:=hm46.at hb44 (fun h=>h)
   have hoc6:=hoc5.mod hm6 (fun _ _ h=>h)
   (try simp only [go_sem,simprocAttr])
   refine e_ap (m:=1) (xs:=[]) (n:=0) (fp:=none) (news:=glRow (nobG T) (.slice (some ⟨w4.heap.size,0,none⟩) 1 1)) rfl (OwnS.nil _ _ _) rfl (fun h=>by cases h) (rd_block (xs:=glRow (nobG T) (.slice (some ⟨w4.heap.size,0,none⟩) 1 1)) hb6') (by simp [glRow,Value.oneCell']) rfl (by omega) (by omega) ?_
   intro v7 w7 f7 ho7 hm7 hf7
   obtain ⟨a7,c7,rfl,_⟩:=ho7.val
   have hm47:Mod (fun _=>False) w4 w7:=hm46.step hm7 (fun b hb hl=>by cases hb)
   have hb47:=hm47.at hb44 (fun h=>h)
   (try simp only [go_sem,simprocAttr])
   refine e_st1 (off:=1) rfl rfl hb47 rfl (by simp) ?_
   intro w8 hb8 hm8 _
   have hm08:Mod (fun _=>False) w w8:=(hm04.trans hm47).step hm8 (fun b hb hl=>by have:=hm02.size;omega)
   have l2:=lt_of_heap hb44
   have l1:=lt_of_heap hb24
   have s01:=hm1.size
   have s12:=hm2.size
   have s24:=hm24.size
   have s46:=hm46.size
   have e1:IntKind.i64.wrap ((T.globals.length:Int) - 1)=(T.globals.length:Int) - 1:=wrap_in (by omega) (by omega)
   (try simp only [go_sem,simprocAttr,e1])
   refine ir_loop (fun z ρ w'=>∃ (m:Nat) (codes:List Value) (vg:Value) (f:Option Nat),z=T.globals.length - m∧m≤T.globals.length∧codes.length=m+1∧Mod (fun _=>False) w w'∧w'.heap[w.heap.size]? = w4.heap[w.heap.size]?∧w'.heap[w1.heap.size]? = w4.heap[w1.heap.size]? ∧
     w'.heap[w2.heap.size]? = some (.cells #[.slice aS T.shapes.length cS,vg] 25 (0,0)) ∧
     OwnS w' 70 3 vg ((List.zipWith glRow ((orderT T).globals.take (m+1)) codes).flatMap id) (m+1) f∧(∀ b,f=some b→w2.heap.size < b)∧CodesAt w w' ((orderT T).globals.take (m+1)) codes ∧
     ρ=[(1,ptr w.heap.size),(2,ptr w1.heap.size),(3,I T.globals.length),(4,ptr w2.heap.size),(7,I ((T.globals.length:Int) - 1 - m))]) T.globals.length
     ⟨0,[.slice (some ⟨w4.heap.size,0,none⟩) 1 1],.slice a7 1 c7,f7,rfl,by omega,rfl,hm08,?_,?_,hb8,?_,fun b hb=>?_,?_,?_⟩ ?_
   · rw [hm8.old _ (by have:=hm47.size;omega) (fun e=>by omega),hm47.old _ (by omega) (fun h=>h)]
   · rw [hm8.old _ (by have:=hm47.size;omega) (fun e=>by omega),hm47.old _ (by omega) (fun h=>h)]
   · exact ho7.mod hm8 (fun b hb e=>by
       subst e
       rcases hf7 _ hb with h1 | h1
       · cases h1
       · omega)
   · rcases hf7 b hb with h1 | h1
     · cases h1
     · omega
   · intro j g' v' hg' hv'
     have hj:j=0:=by
       have:=(List.getElem?_eq_some_iff.1 hv').1
       simpa using this
     subst hj
     cases hg';cases hv'
     have hX:Mod (fun b=>b=w2.heap.size) w6 w8:=(hm7.weak (fun b hb=>by cases hb)).step hm8 (fun b hb _=>hb)
     refine ⟨_,hoc6.mod hX (fun b hb e=>?_),fun b hb=>by cases hb;omega⟩
     cases hb
     omega
   · have e9:((T.globals.length:Int) - 1 - ((0:Nat):Int))=(T.globals.length:Int) - 1:=by omega
     rw [e9];rfl
   rintro z ρ w9 ⟨m,codes,vg,f,rfl,hi,hcl,hm9,hk1,hk2,hb9,hoG,hfG,hcd,rfl⟩
   obtain ⟨aV,cV,rfl,_⟩:=hoG.val
   have hb19:w9.heap[w.heap.size]? = _:=hk1.trans hb14
   have hb29:w9.heap[w1.heap.size]? = _:=hk2.trans hb24
   unfold ir9L3
   (try simp only [go_sem,simprocAttr])
   refine ir_cond rfl (fun hlt=>?_) (fun hlt=>?_)
   · have hlt:m < T.globals.length:=by
       have:(T.globals.length:Int) - 1 - m≥0:=by simpa using hlt
       omega
     obtain ⟨q,hq⟩:∃ q:Nat,q=T.globals.length - 1 - m:=⟨_,rfl⟩
     have hql:q < T.globals.length:=by omega
     have eq1:(T.globals.length:Int) - 1 - m=(q:Nat):=by omega
     rw [eq1]
     have hgm:(orderT T).globals[m+1]? = some (orderG T.globals.length T.globals[q]):=by
       show (nobG T::T.globals.reverse.map (orderG T.globals.length))[_+1]? = _
       rw [List.getElem?_cons_succ,List.getElem?_map,List.getElem?_reverse (by omega),← hq,List.getElem?_eq_getElem hql]
       rfl
     have htk:(orderT T).globals.take (m+1+1)=(orderT T).globals.take (m+1)++[orderG T.globals.length T.globals[q]]:=by
       rw [List.take_add_one (i:=m+1),hgm];rfl
     have h9:=h0.mod hm9 (fun _ _ h=>h) (fun _ h=>h)
     obtain ⟨ad,c,cv,e',hln,hcv⟩:=glob_ln h9 hql
     cases e'
     have hopq:=hop _ (List.getElem_mem hql)
     have hcq:T.globals[q].code.length≤1048576:=by
       have h1:=sums_succ hql
       have h2:=sums_take T.globals (q+1)
       omega
     generalize T.globals[q]=g at *
     obtain ⟨acv,ccv,rfl⟩:=rows_sl hcv
     rw [List.length_map] at *
     have b1':(0:Int)≤(q:Nat)∧((q:Nat):Int) < T.globals.length:=by omega
     unfold glV at hln
     (try simp only [go_sem,simprocAttr,zb4,zb6,b1',hln,cell_of hb19,ptr])
     refine e_al ?_
     intro w10 hb100 hm10 _
     refine e_sta (cs:=[.string ⟨#[]⟩,I 0,.slice none 0 0]) rfl rfl hb100 rfl rfl (by simp [Value.oneCell']) ?_
     intro w11 hb11 hm11 _
     have hm911:Mod (fun _=>False) w9 w11:=hm10.step hm11 (fun x hx hl=>by subst hx;omega)
     have hb11':w11.heap[w9.heap.size]? = some (.cells [.string g.name,I g.arity,.slice acv g.code.length ccv].toArray 70 (0,0)):=hb11
     (try simp only [go_sem,simprocAttr])
     refine f_orderIn (b1:=w.heap.size) (b2:=w1.heap.size) (b4:=w2.heap.size) (b8:=w9.heap.size) (n:=T.globals.length) (i:=(q:Nat)) (hcv.mod hm911 (fun _ _ h=>h) (fun _ h=>h)) hb11' (by omega) hcq hopq ?_
     intro vc fc w12 hoc hfc hm12
     have hb12':=hm12.at hb11' (fun h=>h)
     obtain ⟨ac',cc',rfl,_⟩:=hoc.val
     (try simp only [go_sem,simprocAttr,ptr])
     refine e_st1 (off:=2) rfl rfl hb12' rfl (by simp) ?_
     intro w13 hb13 hm13 _
     have hb13':w13.heap[w9.heap.size]? = some (.cells [.string g.name,I g.arity,.slice ac' g.code.length cc'].toArray 70 (0,0)):=hb13
     have s911:=hm911.size
     have s1112:=hm12.size
     have hm912:=hm911.trans hm12
     have hm913:Mod (fun _=>False) w9 w13:=hm912.step hm13 (fun x hx hl=>by subst hx;omega)
     have hoc13:=hoc.mod hm13 (fun b hb e=>by
       subst e
       have:=hfc _ hb
       have:=lt_of_heap hb11'
       omega)
     have hb913:=hm913.at hb9 (fun h=>h)
     have ln13:=ln_of (off:=0) (n:=3) hb13' (by simp)
     (try simp only [go_sem,simprocAttr,cell_of hb913,ln13])
     refine e_bs (by rfl) (by rfl) ?_
     intro w14 hb14x hm14 _
     have hm914:=hm913.trans hm14
     (try simp only [go_sem,simprocAttr])
     refine e_ap (m:=1) (news:=glRow g (.slice ac' g.code.length cc')) rfl (hoG.mod hm914 (fun _ _ h=>h)) rfl (fun h=>by cases h) (rd_block (xs:=glRow g (.slice ac' g.code.length cc')) hb14x) (by simp [glRow,Value.oneCell']) rfl (by omega) (by omega) ?_
     intro v15 w15 f15 ho15 hm15 hf15
     obtain ⟨a15,c15,rfl,_⟩:=ho15.val
     have fb3:f≠some w2.heap.size:=fun e=>by have:=hfG _ e;omega
     have hb15:=hm15.at (hm914.at hb9 (fun h=>h)) fb3
     (try simp only [go_sem,simprocAttr])
     refine e_st1 (off:=1) rfl rfl hb15 rfl (by simp) ?_
     intro w16 hb16 hm16 _
     have e2:IntKind.i64.wrap (((q:Nat):Int) - 1)=(T.globals.length:Int) - 1 - ((m+1:Nat):Int):=by rw [wrap_in (by omega) (by omega)];omega
     (try simp only [go_sem,simprocAttr,e2])
     have s914:=hm914.size
     have l9:=lt_of_heap hb9
     have hX:Mod (fun b=>f=some b∨b=w2.heap.size) w14 w16:=(hm15.weak (fun b hb=>.inl hb)).step hm16 (fun b hb _=>.inr hb)
     have hX':∀ b,(f=some b∨b=w2.heap.size)→∃ cs T0,w14.heap[b]? = some (.cells cs T0 (0,0))∧T0≠66:=by
       rintro b (hb | rfl)
       · obtain ⟨cs,hcs⟩:=own_cells2 (hoG.mod hm914 (fun _ _ h=>h)) hb
         exact ⟨cs,_,hcs,by decide⟩
       · exact ⟨_,_,hm914.at hb9 (fun h=>h),by decide⟩
     have fw:∀ b,f=some b→¬ b < w.heap.size:=fun b hb=>by have:=hfG b hb;have:=hm02.size;omega
     refine ⟨_,by omega,m+1,codes++[.slice ac' g.code.length cc'],.slice a15 (m+1+1) c15,f15,rfl,by omega,by simp [hcl],?_,?_,?_,hb16,?_,fun b hb=>?_,?_,rfl⟩
     · exact (hm9.trans hm914).step hX (fun b hb hl=>by
         rcases hb with hb | rfl
         · exact absurd hl (fw b hb)
         · have:=hm02.size;omega)
     · rw [← hk1]
       rw [hX.old w.heap.size (by omega) (fun hb=>by
         rcases hb with hb | hb
         · have:=hfG _ hb;omega
         · omega),hm914.old _ (by omega) (fun h=>h)]
     · rw [← hk2]
       rw [hX.old w1.heap.size (by omega) (fun hb=>by
         rcases hb with hb | hb
         · have:=hfG _ hb;omega
         · omega),hm914.old _ (by omega) (fun h=>h)]
     · have hz:(List.zipWith glRow ((orderT T).globals.take (m+1+1)) (codes++[.slice ac' g.code.length cc'])).flatMap id=(List.zipWith glRow ((orderT T).globals.take (m+1)) codes).flatMap id++glRow g (.slice ac' g.code.length cc'):=by
         rw [htk,List.zipWith_append (by rw [List.length_take,hcl,orderT_len];omega),List.flatMap_append]
         simp [glRow,orderG]
       rw [hz]
       exact ho15.mod hm16 (fun b hb e=>by
         subst e
         rcases hf15 _ hb with h1 | h1
         · exact fb3 h1
         · omega)
     · rcases hf15 b hb with h1 | h1
       · exact hfG b h1
       · omega
     · intro j g' v' hg' hv'
       rw [htk] at hg'
       by_cases hj:j < m+1
       · rw [List.getElem?_append_left (by rw [List.length_take,orderT_len];omega)] at hg'
         rw [List.getElem?_append_left (by omega)] at hv'
         exact (hcd.mod hm914 (fun _ h=>h.elim)).mod hX hX' j g' v' hg' hv'
       · have hj2:j < ((orderT T).globals.take (m+1)++[orderG T.globals.length g]).length:=(List.getElem?_eq_some_iff.1 hg').1
         rw [List.length_append,List.length_take,orderT_len] at hj2
         simp at hj2
         obtain rfl:j=m+1:=by omega
         rw [List.getElem?_append_right (by rw [List.length_take,orderT_len];omega)] at hg'
         rw [List.getElem?_append_right (by omega)] at hv'
         rw [List.length_take,orderT_len,show m+1 - min (m+1) (T.globals.length+1)=0 by omega] at hg'
         rw [hcl,Nat.sub_self] at hv'
         simp at hg' hv'
         subst hg';subst hv'
         have hoc14:=hoc13.mod hm14 (fun _ _ h=>h)
         have hlg:(orderG T.globals.length g).code.length=g.code.length:=by simp [orderG]
         rw [hlg]
         refine ⟨fc,hoc14.mod hX (fun b hb hx=>?_),fun b hb=>by have:=hfc b hb;have:=hm9.size;omega⟩
         obtain ⟨cs,T0,h3,h4⟩:=hX' b hx
         exact own_kind hoc14 hb h3 (fun e=>h4 e.symm)
   · have hlt:¬ m < T.globals.length:=by
       have:¬ (T.globals.length:Int) - 1 - m≥0:=by simpa using hlt
       omega
     obtain rfl:m=T.globals.length:=by omega
     rw [← orderT_len,List.take_length] at hoG hcd
     rw [← orderT_len] at hcl
     (try simp only [go_sem,simprocAttr,ptr,ln_of (cs:=[_,_]) (off:=0) (n:=2) hb9 (by simp)])
     refine e_sta (cs:=[.slice none 0 0,.slice none 0 0]) rfl rfl hb29 rfl rfl (by simp [Value.oneCell']) ?_
     intro w10 hb10 hm10 _
     (try simp only [go_sem,simprocAttr,ln_of (cs:=[_,_]) (off:=0) (n:=2) hb10 (by simp)])
     have hm010:Mod (fun _=>False) w w10:=hm9.step hm10 (fun x hx hl=>by subst hx;omega)
     have hoG7:=hoG.mod hm10 (fun b hb e=>by subst e;exact own_kind hoG hb hb29 (by decide))
     have hcd7:=hcd.mod hm10 (fun b hb=>by subst hb;exact ⟨_,_,hb29,by decide⟩)
     refine ⟨_,_,rfl,⟨h0.1.mod hm010 (fun _ _ h=>h) (fun b hb=>Nat.lt_of_lt_of_le (hBl b hb) hm010.size),codes,hcl,?_,?_⟩,hm010⟩
     · have hzl:(List.zipWith glRow (orderT T).globals codes).length=(orderT T).globals.length:=by simp [hcl]
       obtain ⟨a,c,e,hB,hx⟩:=own_rows (rows:=List.zipWith glRow (orderT T).globals codes) (by rw [hzl];exact hoG7) (fun r hr=>by
         obtain ⟨j,hj,rfl⟩:=List.getElem_of_mem hr
         simp [glRow])
       refine ⟨a,c,?_,fun hz ad had=>hoG7.lt (hB hz ad had),hx⟩
       rw [orderT_len] at e
       exact e
     · intro j g v hg hv
       obtain ⟨fc,h1,h2⟩:=hcd7 j g v hg hv
       obtain ⟨a,c,e,hB,hx⟩:=own_rows (by rw [List.length_map];exact h1) (insRow_len g.code)
       exact ⟨a,c,e,fun hz ad had=>h1.lt (hB hz ad had),hx⟩
end
end
section
open Go Go.W
theorem order_fit {T:Tab} (h:TabFit T) (hb:T.big≤1048576) (hop:∀ g∈T.globals,∀ x∈g.code,x.op=2→0≤x.a∧x.a < T.globals.length):TabFit (orderT T):=by
 unfold Tab.big at hb
 have hz:nobody.size=8:=rfl
 have hn:=nmS_size T.globals nobody
 have hs:(T.globals.map (·.name.size)).sum=nmSum T.globals:=rfl
 refine ⟨by rw [orderT_len];omega,h.sn,fun g hg=>?_,fun g hg=>?_,h.sname,fun g hg x hx=>?_⟩
 all_goals rcases List.mem_cons.1 hg with rfl | hg
 · show 1≤17592186044416;omega
 · obtain ⟨g0,hg0,rfl⟩:=List.mem_map.1 hg
   have:=h.code g0 (List.mem_reverse.1 hg0)
   simpa [orderG] using this
 · show (nmS T.globals nobody).size≤_;omega
 · obtain ⟨g0,hg0,rfl⟩:=List.mem_map.1 hg
   exact h.gname g0 (List.mem_reverse.1 hg0)
 · obtain rfl:=List.mem_singleton.1 hx
   show (1:Int)≤_;omega
 · obtain ⟨g0,hg0,rfl⟩:=List.mem_map.1 hg
   obtain ⟨x0,hx0,rfl⟩:=List.mem_map.1 hx
   have:=h.xa g0 (List.mem_reverse.1 hg0) x0 hx0
   unfold renIns
   split
   · rename_i h2
     have:=hop g0 (List.mem_reverse.1 hg0) x0 hx0 h2
     show rhoO T.globals.length x0.a≤_
     unfold rhoO;omega
   · exact this
theorem check_ops {T:Tab} (h:checkS T=0):∀ g∈T.globals,∀ x∈g.code,x.op=2→0≤x.a∧x.a < T.globals.length:=by
 intro g hg x hx h2
 obtain ⟨i,hi⟩:=List.getElem?_of_mem hx
 exact (((check_ok h).1.gls g hg).1.each i x hi).nums.c2 h2
section
variable {w:World} {vsh vgl vin:Value} {T:Tab} {B:Nat→Prop} {entry:ByteArray} {input:List Int} {heap every fuel:Int} {gens:Bool}
theorem order_ok (ht:TabAt w vsh vgl T B) (hT:TabFit T) (hBl:∀ b,B b→b < w.heap.size) (hin:Ints w vin input) (hbig:T.big≤1048576) :
   CallsR Tryz.prog 3 [tabV vsh vgl,.string entry,vin,setV heap gens every,I fuel] w fun r w'=>r = .bool true∧Mod (fun _=>False) w w':=by
 have ht0:=ht
 have hin0:=hin
 obtain ⟨⟨aS,cS,rfl⟩,aG,cG,rfl⟩:=tab_sl ht
 obtain ⟨aI,cI,rfl,_⟩:=hin
 refine fit3.calls rfl ?_
 unfold ir3 tabV setV
 (try simp only [go_sem,simprocAttr])
 refine e_bx rfl ?_
 intro w1 hb1 hm1 hs1
 (try simp only [go_sem,simprocAttr])
 refine e_bx rfl ?_
 intro w2 hb2 hm2 hs2
 have hb12:=hm2.at hb1 (fun h=>h)
 have hm02:=hm1.trans hm2
 have hb12':w2.heap[w.heap.size]? = some (.cells [.slice aS T.shapes.length cS,.slice aG T.globals.length cG].toArray 25 (0,0)):=hb12
 have hb2':w2.heap[w1.heap.size]? = some (.cells [I heap,.bool gens,I every].toArray 28 (0,0)):=hb2
 have ht2:=ht0.mod hm02 (fun _ _ h=>h) (fun _ h=>h)
 have hin2:=hin0.mod hm02 (fun _ _ h=>h)
 have hBl2:∀ b,B b→b < w2.heap.size:=fun b hb=>Nat.lt_of_lt_of_le (hBl b hb) hm02.size
 have ceT:∀ {w':World},Mod (fun _=>False) w2 w'→w'.heap[w.heap.size]? = some (.cells [.slice aS T.shapes.length cS,.slice aG T.globals.length cG].toArray 25 (0,0)):=fun hm=>hm.at hb12' (fun h=>h)
 have ceS:∀ {w':World},Mod (fun _=>False) w2 w'→w'.heap[w1.heap.size]? = some (.cells [I heap,.bool gens,I every].toArray 28 (0,0)):=fun hm=>hm.at hb2' (fun h=>h)
 have lnT:∀ {w':World},Mod (fun _=>False) w2 w'→vLN w' 2 (.pointer (some ⟨w.heap.size,0,none⟩))=some (.agg #[.slice aS T.shapes.length cS,.slice aG T.globals.length cG]):=fun hm=>ln_of (off:=0) (n:=2) (ceT hm) (by simp)
 have lnS:∀ {w':World},Mod (fun _=>False) w2 w'→vLN w' 3 (.pointer (some ⟨w1.heap.size,0,none⟩))=some (.agg #[I heap,.bool gens,I every]):=fun hm=>ln_of (off:=0) (n:=3) (ceS hm) (by simp)
 (try simp only [go_sem,simprocAttr])
 refine e_call (by rfl) ?_
 refine (f_awake w2).mono ?_
 rintro _ w3 ⟨rfl,hm3⟩
 have hY3:=yard_same (yard_nil w2) hm3
 (try simp only [go_sem,simprocAttr,lnT hm3,lnS hm3])
 refine e_call (by rfl) ?_
 refine (f_run (fuel:=fuel) (entry:=entry) (heap:=heap) (every:=every) (gens:=gens) hY3 (ht2.mod hY3.mod (fun _ _ h=>h) (fun _ h=>h)) hT (fun b hb=>Nat.lt_of_lt_of_le (hBl2 b hb) hY3.mod.size) (hin2.mod hY3.mod (fun _ _ h=>h))).mono ?_
 rintro r1 w4 ⟨hno,hyes⟩
 by_cases he:newErr T entry input heap every=0
 · obtain ⟨m1,S1,rfl,hY4⟩:=hyes he
   have hf:=new_facts he
   have hop:=check_ops hf.chk
   by_cases hh:heap < 1048576
   · have q1:decide (heap≥1048576)=false:=by simp;omega
     (try simp only [go_sem,simprocAttr,cell_of (ceS hY4.mod),ptr,Bool.not_true,Option.isNone_none,q1])
     have hd:=hY4.mod.drew
     have e1:IntKind.i64.wrap (heap+1)=heap+1:=wrap_in (by have:=hf.hp;omega) (by omega)
     (try simp only [go_sem,simprocAttr,lnT hd,cell_of (ceS hd),e1])
     refine e_call (by rfl) ?_
     have hYd:=yard_drew hY4
     refine (f_order (ht2.mod hd (fun _ _ h=>h) (fun _ h=>h)) (fun b hb=>Nat.lt_of_lt_of_le (hBl2 b hb) hd.size) hbig hop).mono ?_
     rintro _ w5 ⟨vsh',vgl',rfl,ht5,hm5⟩
     have hY5:=yard_same hYd hm5
     have kk:=hm5.old w1.heap.size (lt_of_heap (ceS hd)) (fun h=>h)
     (try simp only [go_sem,simprocAttr])
     refine ⟨kk,?_⟩
     refine e_call (by rfl) ?_
     refine (f_run (fuel:=fuel) (entry:=entry) (heap:=heap+1) (every:=every) (gens:=gens) hY5 ht5 (order_fit hT hbig hop) (fun b hb=>hb) (hin2.mod hY5.mod (fun _ _ h=>h))).mono ?_
     rintro r2 w6 ⟨hno2,hyes2⟩
     by_cases he2:newErr (orderT T) entry input (heap+1) every=0
     · obtain ⟨m2,S2,rfl,hY6⟩:=hyes2 he2
       generalize hk:(cutF fuel).toNat=k at hY6
       have hk2:(k:Int)≤20000:=by have:=cutF_le fuel;omega
       simp only [List.nil_append,List.cons_append] at hY6
       have hent:entryI entry (orderT T)=rhoO T.globals.length (entryI entry T):=by
         have hen:entryS entry T.globals 0≠none:=by
           have h':=he
           unfold newErr at h'
           split at h'
           · cases h'
           split at h'
           · cases h'
           split at h'
           · rename_i hx;exact absurd h' hx
           split at h'
           · cases h'
           · rename_i hx;exact hx
         obtain ⟨j,hj,e1,e2⟩:=order_entry hf.chk hen
         unfold entryI
         rw [e1,e2]
         unfold rhoO
         simp only
         omega
       obtain ⟨z1,z2,z3,z4⟩:=order_same (gens:=gens) he he2 hent k
       have hg1:=yard_good hY6 (i:=0) rfl
       generalize (newM T entry input heap gens every).steps' k=X at hY6 z1 z2 z3 z4 hg1
       generalize (newM (orderT T) entry input (heap+1) gens every).steps' k=Y at hY6 z1 z2 z3 z4
       have hlt:(X.told.length:Int)≤(k:Int):=hg1.lt
       (try simp only [go_sem,simprocAttr,ptr])
       refine e_call (by rfl) ?_
       refine (y_outcome hY6 (i:=0) rfl (by omega)).mono ?_
       rintro _ wa ⟨⟨v1,rfl,hv1⟩,hYa,hma⟩
       have hYa:=yard_base hYa
       (try simp only [go_sem,simprocAttr])
       refine e_al ?_
       intro wb hbb hmb hsb
       (try simp only [go_sem,simprocAttr])
       refine e_sta (cs:=[I 0,.slice none 0 0,I 0,I 0,I 0,I 0,I 0,.string ⟨#[]⟩]) rfl rfl hbb rfl rfl (out_one hv1 _ _ _) ?_
       intro wc hbc hmc hsc
       have hmac:Mod (fun _=>False) wa wc:=hmb.step hmc (fun b hb hl=>by subst hb;omega)
       have hYc:=yard_same hYa hmac
       (try simp only [go_sem,simprocAttr])
       refine e_call (by rfl) ?_
       refine (y_outcome hYc (i:=1) rfl (by omega)).mono ?_
       rintro _ wd ⟨⟨v2,rfl,hv2⟩,hYd,hmd⟩
       have hYd:=yard_base hYd
       (try simp only [go_sem,simprocAttr])
       refine e_al ?_
       intro we hbe hme hse
       (try simp only [go_sem,simprocAttr])
       refine e_sta (cs:=[I 0,.slice none 0 0,I 0,I 0,I 0,I 0,I 0,.string ⟨#[]⟩]) rfl rfl hbe rfl rfl (out_one hv2 _ _ _) ?_
       intro wf hbf hmf hsf
       have hmdf:Mod (fun _=>False) wd wf:=hme.step hmf (fun b hb hl=>by subst hb;omega)
       have hYf:=yard_same hYd hmdf
       have hmcf:=hmd.trans hmdf
       have l1:=ln_of (off:=0) (n:=8) (hmcf.at hbc (fun h=>h)) (by simp)
       have l2:=ln_of (off:=0) (n:=8) hbf (by simp)
       (try simp only [go_sem,simprocAttr,l1,l2])
       refine e_call (by rfl) ?_
       refine (f_same (hv1.its.mod (hmac.trans hmcf)) (hv2.its.mod hmdf) (by omega)).mono ?_
       rintro _ wg ⟨⟨t1,rfl,ht1⟩,hmg⟩
       have hYg:=yard_same hYf hmg
       obtain rfl:t1=true:=ht1.2 ⟨z1.symm,z2.symm,z3.symm,z4.symm⟩
       (try simp only [go_sem,simprocAttr])
       exact hm02.trans hYg.mod
     · obtain ⟨rfl,hY6⟩:=hno2 he2
       have hnot:¬ (T.globals.length < 2000∧nmSum T.globals≤2000∧codeSum T.globals < 200000):=fun ⟨a,b,c⟩=>he2 (order_new he hh a b c).1
       have q2:decide ((T.globals.length:Int)≥2000)=decide (T.globals.length≥2000):=decide_eq_decide.2 (by omega)
       by_cases hn:T.globals.length≥2000
       · have q3:decide ((T.globals.length:Int)≥2000)=true:=by rw [q2];simpa using hn
         (try simp only [go_sem,simprocAttr,Option.isNone_none,cell_of (ceT hY6.mod),q3])
         exact hm02.trans hY6.mod
       · have q3:decide ((T.globals.length:Int)≥2000)=false:=by rw [q2];simpa using hn
         (try simp only [go_sem,simprocAttr,Option.isNone_none,cell_of (ceT hY6.mod),lnT hY6.mod,q3])
         refine e_call (by rfl) ?_
         refine (f_long (ht2.mod hY6.mod (fun _ _ h=>h) (fun _ h=>h)) hbig).mono ?_
         rintro _ w7 ⟨rfl,hm7⟩
         have q4:decide (nmSum T.globals > 2000∨codeSum T.globals≥200000)=true:=by
           rw [decide_eq_true_eq]
           omega
         rw [q4]
         (try simp only [go_sem,simprocAttr])
         exact hm02.trans (hY6.mod.trans hm7)
   · have q1:decide (heap≥1048576)=true:=by simp;omega
     (try simp only [go_sem,simprocAttr,cell_of (ceS hY4.mod),ptr,Bool.not_true,Option.isNone_none,q1])
     exact hm02.trans hY4.mod
 · obtain ⟨rfl,hY4⟩:=hno he
   (try simp only [go_sem,simprocAttr,Option.isNone_none,Bool.not_true])
   exact hm02.trans hY4.mod
end
end
section
open Go Go.W Go.ChangeShapes Go.WideShapes Go.ChangeAt Go.RowKit Go.Deep
theorem law_rowU {H:Type} {enc:TypeId×Value→H} {C:Checked} {os:Os} {f:FuncId} {fn:Func} {s:ChangeSpec} {tb:TypeId} {F:Stop.Interp} (own:ownKnob C.prog.godebug=none) (started:os.Started) (noInit:C.prog.inits.idxOf? f=none) (hfn:C.prog.funcs[f]? = some fn)
   (witness:∃ (w:World) (tape:Tape) (i:Input),w.os=os∧(w.forCall tape i).Shaped C.prog∧i.vars=[]∧Input.okWide C.prog (w.forCall tape i) .any w.heap.size f i ∧
     (Rows.OpenSpec.upto s).pre6 enc C.prog fn [] false (w.forCall tape i).memory i.args∧({}:Assume).holds C.prog (lone (Frame.enter C.prog f i.args .normal) [] (w.forCall tape i)))
   (laid:laidOutB C.prog=true) (hpar:fn.params.toList.all (fun t=>C.prog.readableRec t&&decide (t < C.prog.types.size))=true)
   (hres:fn.resultTypes = #[tb]) (hb:C.prog.underlying tb=some .bool) (hvars:s.vars=[])
   (hs:∀ ds:List (DataW H),ds.length=fn.params.toList.length→s.fn H ds = { results:=[.lit (.bool true)],args:=ds})
   (walk:∀ (W:World) (args:List Value) (ds:List (DataW H)),LawIn enc C.prog fn.params.toList W args ds→Rows.uptoBulkAll ds≤1048576→CallsR C.prog f args W fun q w'=>q = .bool true∧Mod (fun _=>False) W w') :
   ReturnsInHanded {} C os f .any ((Rows.OpenSpec.upto s).pre6 enc C.prog fn [] false) (((Rows.OpenSpec.upto s).at F).post enc C.prog fn false true false false):=by
 refine returnsInHanded_of_cond_sized (s:=Rows.OpenSpec.upto s) (k:=Rows.uptoSmall) rfl own started noInit hfn witness ?_
 intro W base args ds gs before hval hW _ hk hsz _
 have hW:DataW.Whole enc C.prog fn.params.toList s.vars false W args.toList ds gs before:=hW
 have hW':=hW
 obtain ⟨p,q,hA,hV,rfl,_,_⟩:=hW
 rw [hvars] at hV
 obtain ⟨rfl,rfl⟩:=trodVars_none hV
 simp only [List.append_nil] at hW' hsz hk
 have hsz2:(DataW.weightsEach C.prog fn.params.toList ds).all (·≤reachBytes)=true:=by
   have e:(Rows.OpenSpec.upto s).bare.plain.varTypes C.prog=[]:=by
     show (s.plain).varTypes C.prog=[]
     simp [DataSpec.varTypes,ChangeSpec.plain,hvars]
   rw [e,List.append_nil] at hsz
   exact hsz
 have hk2:Rows.uptoBulkAll ds≤1048576:=of_decide_eq_true hk
 have key:=walk W args.toList ds ⟨⟨base,fun j t v ht hv=>hval j t v (by simpa using ht) (by simpa using hv)⟩,⟨p,hA⟩,hsz2⟩ hk2
 have e:args.toList.toArray=args:=by simp
 unfold CallsR at key
 rw [e] at key
 refine key.mono ?_
 rintro _ W' ⟨_,rfl,rfl,hm⟩
 have hbel:=mod_below hm
 have hlt:∀ x∈p,x.block < W.heap.size:=fun x hx=>by simpa using hW'.lt x hx
 have hf:=hs ds (trodAll_len hA)
 have hf':((Rows.OpenSpec.upto s).at F).fn H ds = { results:=[.lit (.bool true)],args:=ds}:=hf
 refine ⟨_,rfl,ds,[],_,[],p,[],hW',?_,?_,?_,hbel.frame _,fun h=>by cases h⟩
 · rw [List.append_nil,hf',hres]
   exact trodAll_mk1 (shut_bool hb true)
 · rw [List.append_nil,hf']
   exact trodAll_below laid hbel hpar hlt hA
 · have hv':((Rows.OpenSpec.upto s).at F).vars=[]:=hvars
   rw [List.append_nil,hf',hv']
   rfl
theorem big_le (T:Tab):T.big≤T.bulk:=by
 have:∀ l:List Gl,nmSum l+codeSum l+l.length=(l.map fun g=>g.name.size+g.code.length+1).sum:=by
   intro l
   induction l with
   | nil=>rfl
   | cons g l ih=>
     simp only [nmSum,codeSum,List.map_cons,List.sum_cons,List.length_cons] at ih ⊢
     omega
 unfold Tab.big Tab.bulk
 rw [this]
 omega
theorem order_lifted (os:Os) (started:os.Started) (H:Type) (enc:TypeId×Value→H) (F:Stop.Interp) :
   ReturnsInHanded {} Tryz.checked os 3 .any ((Rows.OpenSpec.upto Rows.machineOrderSpec).pre6 enc Tryz.prog Tryz.f3 Rows.machineOrderUptoRow.domain false) (((Rows.OpenSpec.upto Rows.machineOrderSpec).at F).post enc Tryz.prog Tryz.f3 false true false false):=by
 refine law_rowU (C:=Tryz.checked) Tryz.own started (by kernel_rfl) Tryz.func3
   (OpenSpec.witness (enc:=enc) (C:=Tryz.checked) (s:=Rows.OpenSpec.upto Rows.machineOrderSpec) (k:=Rows.uptoSmall) rfl false ⟨#[],#[.agg #[.slice none 0 0,.slice none 0 0],.string ⟨#[]⟩,.slice none 0 0,.agg #[.int .i64 0,.bool false,.int .i64 0],.int .i64 0],[]⟩ 8 (by kernel_rfl) (by kernel_rfl) (by kernel_rfl)
     (x:=([.agg [.nil,.nil],.lit (.string []),.nil,.agg [.lit (.int .i64 0),.lit (.bool false),.lit (.int .i64 0)],.lit (.int .i64 0)],[],[])) (by kernel_rfl) rfl (by kernel_rfl))
   Tryz.laidOut (by kernel_rfl) (tb:=4) (by kernel_rfl) Tryz.underlying4 rfl ?_ ?_
 · intro ds hd
   rw [Tryz.params3] at hd
   match ds,hd with
   | [_,_,_,_,_],_=>rfl
 · intro W args ds h hk
   rw [Tryz.params3] at h
   obtain ⟨vsh,vgl,T,args1,d1,ds1,rfl,rfl,ht,hT,hbulk,h1⟩:=in_tab h
   obtain ⟨entry,args2,_,_,rfl,rfl,_,_,h2⟩:=in_str h1
   obtain ⟨vin,input,args3,_,_,rfl,rfl,hin,_,h3⟩:=in_ints h2
   obtain ⟨heap,gens,every,args4,_,_,rfl,rfl,h4⟩:=in_set h3
   obtain ⟨fuel,args5,_,_,rfl,rfl,h5⟩:=in_int h4
   obtain ⟨rfl,rfl⟩:=lawIn_nil h5
   refine order_ok ht hT (fun _ h=>h) hin ?_
   have:=big_le T
   simp only [Rows.uptoBulkAll] at hk
   omega
theorem machineOrder_holds:Rows.MachineOrderUptoSaid:=
 OpenClaim.holds_of_cond 3 Tryz.f3 rfl rfl rfl rfl rfl rfl rfl ⟨rfl,rfl,rfl,rfl,rfl⟩ rfl rfl rfl rfl rfl (by kernel_rfl) Tryz.func3 (by kernel_rfl)
   (of_decide_eq_true (by kernel_rfl)) (by unfold Func.isWrapper;rw [if_neg (of_decide_eq_false (by kernel_rfl))];exact ⟨rfl,rfl⟩)
   (fun os started H enc _ F=>order_lifted os started H enc F)
#print axioms machineOrder_holds
end
end Go.Proofs.YtcllploggibicaaGreat