/- Texts that the last file stands on: C9, M26, M29, V6, V7, M20, M19, M21, M22, M23, M24, Q16, M27, Q15, M28, M25, M30, M31, Q17, N3, IRL, N1, N2. -/
import Derived.Test.YtcllploggibicaaGreatZSE
import Derived.Test.YtcllploggibicaaGreatZSD
import Derived.Test.YtcllploggibicaaGreatZSA
import Derived.Test.YtcllploggibicaaGreatRows
import Derived.Deep.Slices
import Derived.Deep.CondSized
import Derived.KernelRfl
set_option linter.unusedSimpArgs false
set_option linter.unusedVariables false
set_option maxRecDepth 100000
namespace Go.Proofs.YtcllploggibicaaGreat
section
open Go Go.W
theorem ba_loop (a:ByteArray):∀ (n i:Nat) (r:List UInt8),a.size - i=n→ByteArray.toList.loop a i r=r.reverse++a.data.toList.drop i:=by
 have hs:a.data.toList.length=a.size:=by
   show a.data.toList.length=a.data.size
   exact Array.length_toList
 intro n
 induction n with
 | zero=>
   intro i r h
   rw [ByteArray.toList.loop,if_neg (by omega),List.drop_eq_nil_of_le (by omega),List.append_nil]
 | succ n ih=>
   intro i r h
   have hi:i < a.data.toList.length:=by omega
   rw [ByteArray.toList.loop,if_pos (by omega),ih (i+1) _ (by omega),List.drop_eq_getElem_cons hi]
   have e:a.get! i=a.data.toList[i]:=by
     show a.data[i]! = _
     rw [getElem!_pos a.data i (by simpa using hi)]
     simp
   rw [e];simp
theorem ba_toList (a:ByteArray):a.toList=a.data.toList:=by
 show ByteArray.toList.loop a 0 []=_
 rw [ba_loop a _ 0 [] rfl];rfl
theorem ba_inj {a b:ByteArray} (h:a.toList=b.toList):a=b:=by
 rw [ba_toList,ba_toList] at h
 cases a;cases b
 rename_i x y
 have:x=y:=Array.ext' h
 rw [this]
theorem ba_leq (a b:ByteArray):(a.toList == b.toList)=decide (a=b):=by
 by_cases h:a=b
 · subst h;simp
 · have:a.toList≠b.toList:=fun e=>h (ba_inj e)
   simp [h,this]
theorem upto7 {i:Nat} (h:i < 7):i=0∨i=1∨i=2∨i=3∨i=4∨i=5∨i=6:=by omega
theorem givenS_len:givenS.length=7:=rfl
theorem given_ln {w:World} {b:Nat} (h:w.heap[b]? = some (.cells (givenS.flatMap shRow).toArray 89 (0,0))) {i:Nat} (hi:i < 7):vLN w 2 (.pointer (some ⟨b,i*2,none⟩))=some (.agg #[.string (givenS[i]'(by rw [givenS_len];exact hi)).name,I (givenS[i]'(by rw [givenS_len];exact hi)).fields]):=by
 have hl:(givenS.flatMap shRow).length=14:=rfl
 have:=ln_of (off:=i*2) (n:=2) h (by rw [hl];omega)
 rcases upto7 hi with rfl | rfl | rfl | rfl | rfl | rfl | rfl<;>exact this
theorem shp_eq (a b:Shp):a=b↔a.name=b.name∧a.fields=b.fields:=by
 constructor
 · rintro rfl;exact ⟨rfl,rfl⟩
 · rintro ⟨h1,h2⟩;cases a;cases b;simp_all
section
variable {w:World} {vsh vgl:Value} {T:Tab} {B:Nat→Prop}
theorem f_given7 (h:TabAt w vsh vgl T B) (hT:TabFit T) {b1 bM bG:Nat} (hb1:w.heap[b1]? = some (.cells #[vsh,vgl] 25 (0,0))) (hG:w.heap[bG]? = some (.cells (givenS.flatMap shRow).toArray 89 (0,0)))
   {Q:Post} (hret:∀ w',¬ (T.shapes.take 7=givenS)→Mod (fun _=>False) w w'→Q .ret [(2,I 172)] w')
   (hend:∀ w' t,T.shapes.take 7=givenS→Mod (fun _=>False) w w'→Q .normal [(1,ptr b1),(3,.map (some bM)),(48,.slice (some ⟨bG,0,none⟩) 7 7),(49,I 7),(50,I 7),(51,t)] w') :
   irwp Tryz.prog 117 (.block 2 (.loop ir32L2)) Q [(1,ptr b1),(3,.map (some bM)),(48,.slice (some ⟨bG,0,none⟩) 7 7),(49,I 7),(50,I 0)] w:=by
 obtain ⟨⟨aS,cS,rfl⟩,aG,cG,rfl⟩:=tab_sl h
 have hsn:=hT.sn
 (try simp only [go_sem,Nat.reduceAdd,Nat.reduceEqDiff,Nat.reduceLT,Nat.reduceLeDiff,Nat.reduceMul,reduceCtorEq,↓reduceIte])
 refine ir_loop (fun z ρ w'=>∃ i:Nat,z=7 - i∧i≤7∧Mod (fun _=>False) w w'∧T.shapes.take i=givenS.take i ∧
   ρ=[(1,ptr b1),(3,.map (some bM)),(48,.slice (some ⟨bG,0,none⟩) 7 7),(49,I 7),(50,I i)]) 7 ⟨0,rfl,by omega,Mod.refl _ _,rfl,rfl⟩ ?_
 rintro z ρ w2 ⟨i,rfl,hi,hm2,heq,rfl⟩
 unfold ir32L2
 (try simp only [go_sem,Nat.reduceAdd,Nat.reduceEqDiff,Nat.reduceLT,Nat.reduceLeDiff,Nat.reduceMul,reduceCtorEq,↓reduceIte])
 refine ir_cond rfl (fun hlt=>?_) (fun hlt=>?_)
 · have hlt:i < 7:=by
     simp only [zb1,zb2,zb3,zb4,zb5] at hlt
     omega
   have b0:(0:Int)≤i∧(i:Int) < ((7:Nat):Int):=by omega
   have hgl:=given_ln (hm2.at hG (fun h=>h)) hlt
   have hgi:i < givenS.length:=by rw [givenS_len];exact hlt
   generalize hgv:givenS[i]=gs at *
   have hgt:givenS.take (i+1)=givenS.take i++[gs]:=by rw [List.take_succ_eq_append_getElem hgi,hgv]
   have hg7:givenS[i]? = some gs:=by rw [List.getElem?_eq_getElem hgi,hgv]
   have h2:=h.mod hm2 (fun _ _ h=>h) (fun _ h=>h)
   have hb12:=hm2.at hb1 (fun h=>h)
   (try simp only [go_sem,Nat.reduceAdd,Nat.reduceEqDiff,Nat.reduceLT,Nat.reduceLeDiff,Nat.reduceMul,reduceCtorEq,↓reduceIte,zb4,zb6,b0,add_at,hgl])
   refine e_al ?_
   intro w3 hb30 hm3 _
   refine e_sta (cs:=[.string ⟨#[]⟩,I 0]) rfl rfl hb30 rfl rfl (by simp [Value.oneCell']) ?_
   intro w4 hb4 hm4 _
   have hm24:Mod (fun _=>False) w2 w4:=hm3.step hm4 (fun x hx hl=>by subst hx;omega)
   have hm04:=hm2.trans hm24
   have hb14:=hm24.at hb12 (fun h=>h)
   have e1:IntKind.i64.wrap ((i:Int)+1)=((i+1:Nat):Int):=by rw [wrap_in (by omega) (by omega)];omega
   have h4d:=h2.mod hm24.drew (fun _ _ h=>h) (fun _ h=>h)
   have hb4d:w4.drew.heap[w2.heap.size]? = _:=hb4
   have hl4:=ln_of (cs:=[_,_]) (off:=0) (n:=2) hb4d (by simp)
   (try simp only [go_sem,Nat.reduceAdd,Nat.reduceEqDiff,Nat.reduceLT,Nat.reduceLeDiff,Nat.reduceMul,reduceCtorEq,↓reduceIte,cell_of hb14])
   refine wpS_cut (fun ρ w'=>w'=w4.drew∧ρ.get 1=some (ptr b1)∧ρ.get 3=some (.map (some bM))∧ρ.get 48=some (.slice (some ⟨bG,0,none⟩) 7 7)∧ρ.get 49=some (I 7)∧ρ.get 50=some (I i)∧ρ.get 68=some (.bool (decide (T.shapes[i]?≠some gs)))) ?_ ?_
   · by_cases hil:i < T.shapes.length
     · have hge:decide ((i:Int)≥T.shapes.length)=false:=decide_eq_false (by omega)
       obtain ⟨ad,c,e',hln⟩:=shape_ln h4d hil
       cases e'
       have b1':(0:Int)≤i∧(i:Int) < T.shapes.length:=by omega
       (try simp only [go_sem,Nat.reduceAdd,Nat.reduceEqDiff,Nat.reduceLT,Nat.reduceLeDiff,Nat.reduceMul,reduceCtorEq,↓reduceIte,zb4,zb6,hge,cell_of hb14,b1',hln,hl4])
       rw [ba_leq,ieq,List.getElem?_eq_getElem hil]
       congr 1
       by_cases q:T.shapes[i]=gs
       · simp [q]
       · have:¬ (T.shapes[i].name=gs.name∧T.shapes[i].fields=gs.fields):=fun hh=>q ((shp_eq _ _).2 hh)
         rw [← Bool.decide_and,decide_eq_false this]
         simp [q]
     · have hge:decide ((i:Int)≥T.shapes.length)=true:=decide_eq_true (by omega)
       (try simp only [go_sem,Nat.reduceAdd,Nat.reduceEqDiff,Nat.reduceLT,Nat.reduceLeDiff,Nat.reduceMul,reduceCtorEq,↓reduceIte,hge])
       rw [List.getElem?_eq_none (by omega)]
       simp
   rintro ρ _ ⟨rfl,r1,r3,r48,r49,r50,r68⟩
   (try simp only [go_sem,Nat.reduceAdd,Nat.reduceEqDiff,Nat.reduceLT,Nat.reduceLeDiff,Nat.reduceMul,reduceCtorEq,↓reduceIte,r1,r3,r48,r49,r50,r68])
   refine ir_cond rfl (fun hbad=>?_) (fun hbad=>?_)
   · simp only [zb1,zb2,zb3,zb4,zb5] at hbad
     (try simp only [go_sem,Nat.reduceAdd,Nat.reduceEqDiff,Nat.reduceLT,Nat.reduceLeDiff,Nat.reduceMul,reduceCtorEq,↓reduceIte])
     refine hret _ (fun e=>hbad ?_) hm04.drew
     rw [← hg7,← e,List.getElem?_take,if_pos hlt]
   · have hok:T.shapes[i]? = some gs:=by simpa using hbad
     (try simp only [go_sem,Nat.reduceAdd,Nat.reduceEqDiff,Nat.reduceLT,Nat.reduceLeDiff,Nat.reduceMul,reduceCtorEq,↓reduceIte,e1])
     refine ⟨_,by omega,i+1,rfl,by omega,hm04.drew,?_,rfl⟩
     obtain ⟨hil,hv⟩:=List.getElem?_eq_some_iff.1 hok
     rw [hgt,List.take_succ_eq_append_getElem hil,hv,heq]
 · have hlt:¬ i < 7:=by
     simp only [zb1,zb2,zb3,zb4,zb5] at hlt
     omega
   obtain rfl:i=7:=by omega
   (try simp only [go_sem,Nat.reduceAdd,Nat.reduceEqDiff,Nat.reduceLT,Nat.reduceLeDiff,Nat.reduceMul,reduceCtorEq,↓reduceIte])
   refine hend w2 _ ?_ hm2
   rw [heq];rfl
theorem codesS_at {l:List Gl} {i:Nat} (h:i < l.length):codesS T (l.drop i)=if checkCodeS T l[i]=0 then codesS T (l.drop (i+1)) else checkCodeS T l[i]:=by
 rw [List.drop_eq_getElem_cons h];rfl
theorem f_codes (h:TabAt w vsh vgl T B) (hT:TabFit T) (hBl:∀ b,B b→b < w.heap.size) (hsh:∀ s∈T.shapes,0≤s.fields∧s.fields≤8) (har:∀ g∈T.globals,0≤g.arity∧g.arity≤24) (hcl:∀ g∈T.globals,g.code.length≤8000) {b1:Nat} (hb1:w.heap[b1]? = some (.cells #[vsh,vgl] 25 (0,0)))
   {Q:Post} (hret:∀ w' e,e≠0→codesS T T.globals=e→Mod (fun _=>False) w w'→Q .ret [(2,I e)] w')
   (hend:∀ w' t,codesS T T.globals=0→Mod (fun _=>False) w w'→Q .normal [(1,ptr b1),(104,vgl),(105,I T.globals.length),(106,I T.globals.length),(107,t)] w') :
   irwp Tryz.prog 117 (.block 6 (.loop ir32L4)) Q [(1,ptr b1),(104,vgl),(105,I T.globals.length),(106,I 0)] w:=by
 have h0:=h
 obtain ⟨⟨aS,cS,rfl⟩,aG,cG,rfl⟩:=tab_sl h
 have hgn:=hT.gn
 (try simp only [go_sem,simprocAttr])
 refine ir_loop (fun z ρ w'=>∃ i:Nat,z=T.globals.length - i∧i≤T.globals.length∧Mod (fun _=>False) w w'∧codesS T T.globals=codesS T (T.globals.drop i) ∧
   ρ=[(1,ptr b1),(104,.slice aG T.globals.length cG),(105,I T.globals.length),(106,I i)]) T.globals.length ⟨0,rfl,by omega,Mod.refl _ _,rfl,rfl⟩ ?_
 rintro z ρ w2 ⟨i,rfl,hi,hm2,heq,rfl⟩
 unfold ir32L4
 (try simp only [go_sem,simprocAttr])
 refine ir_cond rfl (fun hlt=>?_) (fun hlt=>?_)
 · have hlt:i < T.globals.length:=by simpa using hlt
   have h2:=h.mod hm2 (fun _ _ h=>h) (fun _ h=>h)
   obtain ⟨ad,c,cv,e',hln,hcv⟩:=glob_ln h2 hlt
   cases e'
   have hgm:=List.getElem_mem hlt
   have hat:=codesS_at (T:=T) hlt
   generalize hgv:T.globals[i]=g at *
   have b1':(0:Int)≤i∧(i:Int) < T.globals.length:=by omega
   unfold glV at hln
   (try simp only [go_sem,simprocAttr,zb4,zb6,b1',hln])
   refine e_al ?_
   intro w3 hb30 hm3 _
   refine e_sta (cs:=[.string ⟨#[]⟩,I 0,.slice none 0 0]) rfl rfl hb30 rfl rfl (by obtain ⟨acv,ccv,rfl⟩:=rows_sl hcv;simp [Value.oneCell']) ?_
   intro w4 hb4 hm4 _
   have hm24:Mod (fun _=>False) w2 w4:=hm3.step hm4 (fun x hx hl=>by subst hx;omega)
   have hm04:=hm2.trans hm24
   have hb14:=hm04.at hb1 (fun h=>h)
   have hl1:=ln_of (cs:=[_,_]) (off:=0) (n:=2) hb14 (by simp)
   have hl4:=ln_of (cs:=[_,_,_]) (off:=0) (n:=3) hb4 (by simp)
   have e1:IntKind.i64.wrap ((i:Int)+1)=((i+1:Nat):Int):=by rw [wrap_in (by omega) (by omega)];omega
   (try simp only [go_sem,simprocAttr,hl1,hl4])
   refine e_call (by rfl) ?_
   refine (f_checkCode (g:=g) (h0.mod hm04 (fun _ _ h=>h) (fun _ h=>h)) (hcv.mod hm24 (fun _ _ h=>h) (fun _ h=>h)) (fun b hb=>by have:=hBl b hb;have:=hm04.size;omega) hsh (har g hgm) (hcl g hgm) (hT.xa g hgm)).mono ?_
   rintro _ w5 ⟨rfl,hm5⟩
   have hm05:=hm04.trans hm5
   (try simp only [go_sem,simprocAttr])
   refine ir_cond rfl (fun hz=>?_) (fun hz=>?_)
   · simp only [zb1,zb2,zb3,zb4,zb5] at hz
     (try simp only [go_sem,simprocAttr])
     exact hret _ _ hz (by rw [heq,hat,if_neg hz]) hm05
   · simp only [zb1,zb2,zb3,zb4,zb5] at hz
     (try simp only [go_sem,simprocAttr,e1])
     exact ⟨_,by omega,i+1,rfl,by omega,hm05,by rw [heq,hat,if_pos hz],rfl⟩
 · have hlt:¬ i < T.globals.length:=by simpa using hlt
   obtain rfl:i=T.globals.length:=by omega
   (try simp only [go_sem,simprocAttr])
   refine hend w2 _ ?_ hm2
   rw [heq,List.drop_length];rfl
theorem f_Check (h:TabAt w vsh vgl T B) (hT:TabFit T) (hBl:∀ b,B b→b < w.heap.size):CallsR Tryz.prog 32 [tabV vsh vgl] w fun r w'=>r=I (checkS T)∧Mod (fun _=>False) w w':=by
 have h0:=h
 obtain ⟨⟨aS,cS,rfl⟩,aG,cG,rfl⟩:=tab_sl h
 refine fit32.calls rfl ?_
 unfold ir32 tabV
 (try simp only [go_sem,simprocAttr])
 refine e_bx rfl ?_
 intro w1 hb1 hm1 hs1
 have hb1:w1.heap[w.heap.size]? = some (.cells #[.slice aS T.shapes.length cS,.slice aG T.globals.length cG] 25 (0,0)):=hb1
 have h1:=h0.mod hm1 (fun _ _ h=>h) (fun _ h=>h)
 have hl1:=ln_of (cs:=[_,_]) (off:=0) (n:=2) hb1 (by simp)
 (try simp only [go_sem,simprocAttr,hl1])
 refine e_call (by rfl) ?_
 refine (f_great h1 hT).mono ?_
 rintro _ w2 ⟨rfl,hm2⟩
 have hm02:=hm1.trans hm2
 have hb2:=hm2.at hb1 (fun h=>h)
 (try simp only [go_sem,simprocAttr])
 refine ir_cond rfl (fun hg=>?_) (fun hg=>?_)
 · (try simp only [go_sem,simprocAttr])
   have e:checkS T=4:=by unfold checkS;rw [if_pos hg]
   rw [e]
   exact ⟨rfl,hm02⟩
 have e0:checkS T=if namesS 8 [] (shPairs T)=false then 172 else if ¬ (T.shapes.take 7=givenS) then 172 else if namesS 24 [] (glPairs T)=false then 172 else codesS T T.globals:=by
   unfold checkS;rw [if_neg (by rw [hg];simp)]
 (try simp only [go_sem,simprocAttr])
 refine e_mmS ?_
 intro w3 hM3 hm3 _
 have hm03:=hm02.trans hm3
 have hb3:=hm3.at hb2 (fun h=>h)
 have lB:∀ b,B b→b < w2.heap.size:=fun b hb=>by have:=hBl b hb;have:=hm02.size;omega
 have lb:=lt_of_heap hb2
 (try simp only [go_sem,simprocAttr,cell_of hb3])
 refine f_names1 (b1:=w.heap.size) (bM:=w2.heap.size) (h0.mod hm03 (fun _ _ h=>h) (fun _ h=>h)) hT (fun b hb e=>by have:=lB b hb;omega) hM3 ?_ ?_
 · intro w4 hn hm4
   (try simp only [go_sem,simprocAttr])
   rw [e0,if_pos hn]
   exact ⟨rfl,hm03.step hm4 (fun x hx hl=>by subst hx;have:=hm02.size;omega)⟩
 intro w4 t4 l4 hn1 hM4 hm4
 rw [if_neg (by rw [hn1];simp)] at e0
 have hm04:=hm03.step hm4 (fun x hx hl=>by subst hx;have:=hm02.size;omega)
 have hb4:=hm4.at hb3 (fun e=>by omega)
 (try simp only [go_sem,simprocAttr])
 refine e_call (by rfl) ?_
 refine (f_given w4).mono ?_
 rintro _ w5 ⟨rfl,hG5,hm5⟩
 have hm05:=hm04.trans hm5
 have hb5:=hm5.at hb4 (fun h=>h)
 have hM5:=maps_mod hM4 hm5 (fun h=>h)
 (try simp only [go_sem,simprocAttr])
 refine f_given7 (b1:=w.heap.size) (bM:=w2.heap.size) (bG:=w4.heap.size) (h0.mod hm05 (fun _ _ h=>h) (fun _ h=>h)) hT hb5 hG5 ?_ ?_
 · intro w6 hn hm6
   (try simp only [go_sem,simprocAttr])
   rw [e0,if_pos hn]
   exact ⟨rfl,hm05.trans hm6⟩
 intro w6 t6 hn2 hm6
 rw [if_neg (by simpa using hn2)] at e0
 have hm06:=hm05.trans hm6
 have hb6:=hm6.at hb5 (fun h=>h)
 have hM6:=maps_mod hM5 hm6 (fun h=>h)
 (try simp only [go_sem,simprocAttr])
 refine e_clS (t:=119) (kt:=9) (et:=3) rfl (by rfl) Tryz.underlying119 hM6 ?_
 intro w7 hM7 hm7 _
 have hm07:=hm06.step hm7 (fun x hx hl=>by subst hx;have:=hm02.size;omega)
 have hb7:=hm7.at hb6 (fun e=>by omega)
 (try simp only [go_sem,simprocAttr,cell_of hb7])
 refine f_names3 (b1:=w.heap.size) (bM:=w2.heap.size) (h0.mod hm07 (fun _ _ h=>h) (fun _ h=>h)) hT (fun b hb e=>by have:=lB b hb;omega) hM7 ?_ ?_
 · intro w8 hn hm8
   (try simp only [go_sem,simprocAttr])
   rw [e0,if_pos hn]
   exact ⟨rfl,hm07.step hm8 (fun x hx hl=>by subst hx;have:=hm02.size;omega)⟩
 intro w8 t8 l8 hn3 hM8 hm8
 rw [if_neg (by rw [hn3];simp)] at e0
 have hm08:=hm07.step hm8 (fun x hx hl=>by subst hx;have:=hm02.size;omega)
 have hb8:=hm8.at hb7 (fun e=>by omega)
 obtain ⟨s1,_⟩:=namesS_ok _ _ hn1
 obtain ⟨g1,_⟩:=namesS_ok _ _ hn3
 have hsh:∀ s∈T.shapes,0≤s.fields∧s.fields≤8:=fun s hs=>(s1 (s.name,s.fields) (List.mem_map.2 ⟨s,hs,rfl⟩)).2.2
 have har:∀ g∈T.globals,0≤g.arity∧g.arity≤24:=fun g hg=>(g1 (g.name,g.arity) (List.mem_map.2 ⟨g,hg,rfl⟩)).2.2
 have hcl:∀ g∈T.globals,g.code.length≤8000:=fun g hg'=>by
   rw [greatS_mid,Bool.or_eq_false_iff,List.any_eq_false] at hg
   have:=hg.1 g hg'
   simp at this;omega
 (try simp only [go_sem,simprocAttr,cell_of hb8])
 refine f_codes (b1:=w.heap.size) (h0.mod hm08 (fun _ _ h=>h) (fun _ h=>h)) hT (fun b hb=>by have:=hBl b hb;have:=hm08.size;omega) hsh har hcl hb8 ?_ ?_
 · intro w9 e he hn hm9
   (try simp only [go_sem,simprocAttr])
   rw [e0,hn]
   exact ⟨rfl,hm08.trans hm9⟩
 · intro w9 t hn hm9
   (try simp only [go_sem,simprocAttr])
   rw [e0,hn]
   exact ⟨rfl,hm08.trans hm9⟩
end
end
section
open Go Go.W
theorem szItem:szOf Tryz.prog 72=some 2:=by kernel_rfl
theorem cloneItem {w:World} {a:Option Addr} {n c:Nat} {xs:List Value} (hr:RdCells w a (n*2) xs) (h1:∀ u∈xs,u.oneCell'=true) (hn:a=none→n=0) (hb:n≤4294967296) :
   CallsR Tryz.prog 50 [.slice a n c] w fun r w'=>∃ fp,OwnS w' 72 2 r xs n fp∧(∀ b,fp=some b→w.heap.size≤b)∧Mod (fun _=>False) w w':=by
 refine fit50.calls rfl ?_
 unfold ir50
 cases a with
 | none=>
   obtain rfl:=hn rfl
   have e:xs=[]:=List.eq_nil_of_length_eq_zero (by have:=hr.1;simpa using this)
   subst e
   (try simp only [go_sem,simprocAttr,Option.isNone_none])
   exact ⟨none,OwnS.nil _ _ _,(fun b hb=>by cases hb),Mod.refl _ _⟩
 | some ad=>
   (try simp only [go_sem,simprocAttr,Option.isNone_some])
   refine e_b0 (t:=34) (el:=72) (n:=2) Tryz.underlying34 szItem ?_
   intro w1 hb1 hm1 hs1
   have ho1:OwnS w1 72 2 (.slice (some ⟨w.heap.size,0,none⟩) 0 0) [] 0 (some w.heap.size):=OwnS.of_block (xs:=[]) hb1 (by simp)
   have hr1:RdCells w1 (some ad) (n*2) xs:=⟨hr.1,fun ad' h j v hv=>hm1.cell (hr.2 ad' h j v hv) (fun h=>h)⟩
   (try simp only [go_sem,simprocAttr])
   refine e_ap (m:=n) (news:=xs) rfl ho1 rfl (fun h=>by cases h) hr1 h1 rfl (by omega) (by omega) ?_
   intro v2 w2 fp2 ho2 hm2 hf2
   obtain ⟨va,vc,rfl,_,_⟩:=ho2.val
   (try simp only [go_sem,simprocAttr])
   refine ⟨fp2,by simpa using ho2,fun b hb=>?_,hm1.step hm2 (fun x hx hlt=>by cases hx;omega)⟩
   rcases hf2 b hb with h | h
   · cases h;omega
   · omega
theorem szShape:szOf Tryz.prog 89=some 2:=by kernel_rfl
theorem cloneShape {w:World} {a:Option Addr} {n c:Nat} {xs:List Value} (hr:RdCells w a (n*2) xs) (h1:∀ u∈xs,u.oneCell'=true) (hn:a=none→n=0) (hb:n≤4294967296) :
   CallsR Tryz.prog 63 [.slice a n c] w fun r w'=>∃ fp,OwnS w' 89 2 r xs n fp∧(∀ b,fp=some b→w.heap.size≤b)∧Mod (fun _=>False) w w':=by
 refine fit63.calls rfl ?_
 unfold ir63
 cases a with
 | none=>
   obtain rfl:=hn rfl
   have e:xs=[]:=List.eq_nil_of_length_eq_zero (by have:=hr.1;simpa using this)
   subst e
   (try simp only [go_sem,simprocAttr,Option.isNone_none])
   exact ⟨none,OwnS.nil _ _ _,(fun b hb=>by cases hb),Mod.refl _ _⟩
 | some ad=>
   (try simp only [go_sem,simprocAttr,Option.isNone_some])
   refine e_b0 (t:=22) (el:=89) (n:=2) Tryz.underlying22 szShape ?_
   intro w1 hb1 hm1 hs1
   have ho1:OwnS w1 89 2 (.slice (some ⟨w.heap.size,0,none⟩) 0 0) [] 0 (some w.heap.size):=OwnS.of_block (xs:=[]) hb1 (by simp)
   have hr1:RdCells w1 (some ad) (n*2) xs:=⟨hr.1,fun ad' h j v hv=>hm1.cell (hr.2 ad' h j v hv) (fun h=>h)⟩
   (try simp only [go_sem,simprocAttr])
   refine e_ap (m:=n) (news:=xs) rfl ho1 rfl (fun h=>by cases h) hr1 h1 rfl (by omega) (by omega) ?_
   intro v2 w2 fp2 ho2 hm2 hf2
   obtain ⟨va,vc,rfl,_,_⟩:=ho2.val
   (try simp only [go_sem,simprocAttr])
   refine ⟨fp2,by simpa using ho2,fun b hb=>?_,hm1.step hm2 (fun x hx hlt=>by cases hx;omega)⟩
   rcases hf2 b hb with h | h
   · cases h;omega
   · omega
theorem szInstr:szOf Tryz.prog 66=some 3:=by kernel_rfl
theorem cloneInstr {w:World} {a:Option Addr} {n c:Nat} {xs:List Value} (hr:RdCells w a (n*3) xs) (h1:∀ u∈xs,u.oneCell'=true) (hn:a=none→n=0) (hb:n≤4294967296) :
   CallsR Tryz.prog 64 [.slice a n c] w fun r w'=>∃ fp,OwnS w' 66 3 r xs n fp∧(∀ b,fp=some b→w.heap.size≤b)∧Mod (fun _=>False) w w':=by
 refine fit64.calls rfl ?_
 unfold ir64
 cases a with
 | none=>
   obtain rfl:=hn rfl
   have e:xs=[]:=List.eq_nil_of_length_eq_zero (by have:=hr.1;simpa using this)
   subst e
   (try simp only [go_sem,simprocAttr,Option.isNone_none])
   exact ⟨none,OwnS.nil _ _ _,(fun b hb=>by cases hb),Mod.refl _ _⟩
 | some ad=>
   (try simp only [go_sem,simprocAttr,Option.isNone_some])
   refine e_b0 (t:=67) (el:=66) (n:=3) Tryz.underlying67 szInstr ?_
   intro w1 hb1 hm1 hs1
   have ho1:OwnS w1 66 3 (.slice (some ⟨w.heap.size,0,none⟩) 0 0) [] 0 (some w.heap.size):=OwnS.of_block (xs:=[]) hb1 (by simp)
   have hr1:RdCells w1 (some ad) (n*3) xs:=⟨hr.1,fun ad' h j v hv=>hm1.cell (hr.2 ad' h j v hv) (fun h=>h)⟩
   (try simp only [go_sem,simprocAttr])
   refine e_ap (m:=n) (news:=xs) rfl ho1 rfl (fun h=>by cases h) hr1 h1 rfl (by omega) (by omega) ?_
   intro v2 w2 fp2 ho2 hm2 hf2
   obtain ⟨va,vc,rfl,_,_⟩:=ho2.val
   (try simp only [go_sem,simprocAttr])
   refine ⟨fp2,by simpa using ho2,fun b hb=>?_,hm1.step hm2 (fun x hx hlt=>by cases hx;omega)⟩
   rcases hf2 b hb with h | h
   · cases h;omega
   · omega
theorem clip_ok {w:World} {v:Value} {xs:List Value} {n:Nat} {fp:Option Nat} (h:OwnS w 72 2 v xs n fp):CallsR Tryz.prog 49 [v] w fun r w'=>OwnS w' 72 2 r xs n fp∧w=w':=by
 obtain ⟨a,c,rfl,hc,_⟩:=h.val
 refine fit49.calls rfl ?_
 unfold ir49
 have b1:(0:Int)≤n∧(n:Int)≤c:=by omega
 have b2:(0:Int)≤n∧(n:Int)≤n:=by omega
 (try simp only [go_sem,simprocAttr,zb4,zb6,b1,b2,sl_same])
 obtain ⟨h1,h2⟩:=h
 refine ⟨h1,?_⟩
 rcases h2 with ⟨e,h3,h4⟩ | ⟨b,c',sp,e,h3,h4,h5,h6⟩
 · cases e;exact .inl ⟨rfl,h3,h4⟩
 · cases e
   exact .inr ⟨b,n,sp,rfl,h3,h4,by rw [List.length_append,h1];omega,Nat.le_refl _⟩
theorem items_one (l:List It):∀ u∈l.flatMap itRow,u.oneCell'=true:=by
 intro u hu
 obtain ⟨x,_,hx⟩:=List.mem_flatMap.1 hu
 simp only [itRow,List.mem_cons,List.not_mem_nil,or_false] at hx
 rcases hx with rfl | rfl<;>rfl
section
variable {w:World} {τ:Tag} {m:Nat} {S:SV} {M:Mc} {ks:List Nat}
def ToldAt (w w':World) (v:Value) (l:List It):Prop:=∃ fp,OwnS w' 72 2 v (l.flatMap itRow) l.length fp∧∀ b,fp=some b→w.heap.size≤b
theorem m_told (h:MAt w τ m S M ks) (hl:M.told.length≤4294967296):CallsR Tryz.prog 26 [ptr m] w fun r w'=>ToldAt w w' r M.told∧Mod (fun _=>False) w w':=by
 obtain ⟨vG,vF,vW,vT,fg,ff,fw,ft,F,hh⟩:=id h
 have hc:=hh.cells
 have ht:=hh.tl
 obtain ⟨a,c,rfl,_,hn⟩:=ht.val
 refine fit26.calls rfl ?_
 unfold ir26
 (try simp only [go_sem,simprocAttr,cell_of hc,mcCells,ptr])
 refine e_call (by rfl) ?_
 refine (cloneItem ht.rd (items_one _) (fun e=>(hn e).1) hl).mono ?_
 rintro v w1 ⟨fp,ho,hf,hm⟩
 (try simp only [go_sem,simprocAttr])
 refine e_call (by rfl) ?_
 refine (clip_ok ho).mono ?_
 rintro r _ ⟨ho2,rfl⟩
 (try simp only [go_sem,simprocAttr])
 exact ⟨⟨fp,ho2,hf⟩,hm⟩
def outKind (M:Mc):Int:=if M.ended=0 then 4 else M.ended
def outV (k:Int) (v:Value) (st n:Int):Value:=.agg #[I k,v,I st,I n,I 0,I 0,I 0,.string ⟨#[]⟩]
theorem m_outcome (h:MAt w τ m S M ks) (hl:M.told.length≤4294967296):CallsR Tryz.prog 11 [ptr m] w fun r w'=>∃ v,r=outV (outKind M) v M.stuck M.steps∧ToldAt w w' v M.told∧Mod (fun _=>False) w w':=by
 refine fit11.calls rfl ?_
 unfold ir11
 (try simp only [go_sem,simprocAttr])
 refine e_al ?_
 intro w1 hb1 hm1 _
 have h1:=h.mod hm1 (newTag_ext τ w .no).wx (fun _ _ h=>h.elim)
 have h1d:=h1.mod (Mod.refl (fun _=>False) w1).drew (ext_refl _ _).wx (fun _ _ h=>h.elim)
 obtain ⟨vG,vF,vW,vT,fg,ff,fw,ft,F,hh⟩:=id h1
 have hc:=hh.cells
 have lm:=hh.lt
 (try simp only [go_sem,simprocAttr,cell_of hc,mcCells,ptr])
 refine wpD_cut (fun ρ w'=>∃ b v,ρ.get 0=some (ptr m)∧ρ.get 2=some (ptr w.heap.size)∧ρ.get 3=some (ptr b)∧w'.heap[b]? = some (.cells #[I M.ended,v,I M.stuck,I M.steps,I 0,I 0,I 0,.string ⟨#[]⟩] 39 (0,0))∧w1.heap.size≤b∧ToldAt w1 w' v M.told∧Mod (fun _=>False) w1 w') ?_ ?_
 · rw [wpD_e2]
   refine ⟨?_,?_⟩
   · refine e_call (by rfl) ?_
     refine (m_told h1d hl).mono ?_
     rintro v w2 ⟨⟨fp,ho,hf⟩,hm2⟩
     have hm2':Mod (fun _=>False) w1 w2:=Mod.of_drew hm2
     have k2:=hm2.old m lm (fun h=>h)
     obtain ⟨va,vc,rfl,_⟩:=ho.val
     (try simp only [go_sem,simprocAttr])
     refine ⟨by simp only [drew_heap,k2,and_self,implies_true],?_⟩
     refine e_al ?_
     intro w3 hb3 hm3 _
     have k3:=hm3.old m (by have:=hm2.size;exact Nat.lt_of_lt_of_le lm this) (fun h=>h)
     (try simp only [go_sem,simprocAttr])
     refine ⟨by simp only [drew_heap,k3,and_self,implies_true],?_⟩
     refine e_sta (cs:=[I 0,.slice none 0 0,I 0,I 0,I 0,I 0,I 0,.string ⟨#[]⟩]) rfl rfl hb3 rfl rfl (by simp [Value.oneCell']) ?_
     intro w4 hb4 hm4 _
     (try simp only [go_sem,simprocAttr])
     have hm24:Mod (fun _=>False) w2 w4:=hm3.step hm4 (fun x hx hl=>by subst hx;omega)
     exact ⟨w2.heap.size,_,rfl,hb4,hm2'.size,⟨fp,ho.mod hm24 (fun _ _ h=>h),hf⟩,hm2'.trans hm24⟩
   · refine e_al ?_
     intro w3 hb3 hm3 _
     have k3:=hm3.old m lm (fun h=>h)
     have hm3':Mod (fun _=>False) w1 w3:=Mod.of_drew hm3
     (try simp only [go_sem,simprocAttr])
     refine ⟨by simp only [drew_heap,k3,and_self,implies_true],?_⟩
     refine e_call (by rfl) ?_
     refine (m_told (h1.mod hm3' (newTag_ext _ w1 .no).wx (fun _ _ h=>h.elim)) hl).mono ?_
     rintro v w2 ⟨⟨fp,ho,hf⟩,hm2⟩
     have k2:=hm2.old m (by have:=hm3.size;exact Nat.lt_of_lt_of_le lm this) (fun h=>h)
     obtain ⟨va,vc,rfl,_⟩:=ho.val
     (try simp only [go_sem,simprocAttr])
     refine ⟨by simp only [drew_heap,k2,and_self,implies_true],?_⟩
     have hb2:=hm2.at hb3 (fun h=>h)
     have e1:w1.drew.heap.size=w1.heap.size:=rfl
     refine e_sta (cs:=[I 0,.slice none 0 0,I 0,I 0,I 0,I 0,I 0,.string ⟨#[]⟩]) rfl rfl hb2 rfl rfl (by simp [Value.oneCell']) ?_
     intro w4 hb4 hm4 _
     (try simp only [go_sem,simprocAttr])
     have l3:=lt_of_heap hb3
     exact ⟨w1.heap.size,_,rfl,hb4,Nat.le_refl _,⟨fp,ho.mod hm4 (fun b hb e=>by have:=hf b hb;omega),fun b hb=>Nat.le_trans hm3'.size (hf b hb)⟩,(hm3'.trans hm2).step hm4 (fun x hx hl=>by subst hx;omega)⟩
 rintro ρ w2 ⟨b,v,r0,r2,r3,hb2,lb,⟨fp,ho,hf⟩,hm2⟩
 have hc2:=hm2.at hc (fun h=>h)
 have hb12:=hm2.at hb1 (fun h=>h)
 have l1:=lt_of_heap hb1
 obtain ⟨va,vc,rfl,_⟩:=ho.val
 have hm02:=hm1.trans hm2
 have hs01:=hm1.size
 have hE:outKind M=if M.ended=0 then 4 else M.ended:=rfl
 (try simp only [go_sem,simprocAttr,r0,r2,r3,cell_of hc2,mcCells,ptr])
 refine ir_cond rfl (fun hz=>?_) (fun hz=>?_)
 · simp only [zb1,zb2,zb3,zb4,zb5] at hz
   rw [if_pos hz] at hE
   (try simp only [go_sem,simprocAttr])
   refine e_st1 (off:=0) (cs:=[I M.ended,_,I M.stuck,I M.steps,I 0,I 0,I 0,.string ⟨#[]⟩]) rfl rfl hb2 rfl (by simp) ?_
   intro w3 hb3 hm3 _
   have hb3':w3.heap[b]? = some (.cells [I 4,.slice va M.told.length vc,I M.stuck,I M.steps,I 0,I 0,I 0,.string ⟨#[]⟩].toArray 39 (0,0)):=hb3
   (try simp only [go_sem,simprocAttr,ln_of (cs:=[_,_,_,_,_,_,_,_]) (off:=0) (n:=8) hb3' (by simp)])
   have hb13:=hm3.at hb12 (fun e=>by omega)
   refine e_sta (cs:=[I 0,.slice none 0 0,I 0,I 0,I 0,I 0,I 0,.string ⟨#[]⟩]) rfl rfl hb13 rfl rfl (by simp [Value.oneCell']) ?_
   intro w4 hb4 hm4 _
   (try simp only [go_sem,simprocAttr,ln_of (cs:=[_,_,_,_,_,_,_,_]) (off:=0) (n:=8) hb4 (by simp)])
   refine ⟨_,by rw [hE];rfl,⟨fp,(ho.mod hm3 (fun c hc e=>?_)).mod hm4 (fun c hc e=>?_),fun c hc=>Nat.le_trans hs01 (hf c hc)⟩,(hm02.step hm3 (fun x hx hl=>by subst hx;omega)).step hm4 (fun x hx hl=>by subst hx;omega)⟩
   · subst e;exact own_kind ho hc hb2 (by decide)
   · subst e;have:=hf _ hc;omega
 · simp only [zb1,zb2,zb3,zb4,zb5] at hz
   rw [if_neg hz] at hE
   (try simp only [go_sem,simprocAttr,ln_of (cs:=[_,_,_,_,_,_,_,_]) (off:=0) (n:=8) hb2 (by simp)])
   refine e_sta (cs:=[I 0,.slice none 0 0,I 0,I 0,I 0,I 0,I 0,.string ⟨#[]⟩]) rfl rfl hb12 rfl rfl (by simp [Value.oneCell']) ?_
   intro w4 hb4 hm4 _
   (try simp only [go_sem,simprocAttr,ln_of (cs:=[_,_,_,_,_,_,_,_]) (off:=0) (n:=8) hb4 (by simp)])
   refine ⟨_,by rw [hE];rfl,⟨fp,ho.mod hm4 (fun c hc e=>?_),fun c hc=>Nat.le_trans hs01 (hf c hc)⟩,hm02.step hm4 (fun x hx hl=>by subst hx;omega)⟩
   subst e;have:=hf _ hc;omega
end
end
section
open Go Go.W
def numB (n:Int):Bool:=decide (n ≥ -4611686018427387904∧n≤4611686018427387903)
theorem f_num (w:World) (n:Int):CallsR Tryz.prog 31 [I n] w fun r w'=>r = .bool (numB n)∧w=w':=by
 refine fit31.calls rfl ?_
 unfold ir31 numB
 cases h1:decide (n ≥ -4611686018427387904)<;>(try simp only [go_sem,simprocAttr,h1])<;>(simp only [zb1,zb2,zb3,zb4,zb5] at h1;simp [h1])
theorem f_new1 (w:World) (n:Int):CallsR Tryz.prog 30 [I n] w fun r w'=>r = .bool (!numB n)∧w=w':=by
 refine fit30.calls rfl ?_
 unfold ir30
 (try simp only [go_sem,simprocAttr])
 refine e_call (by rfl) ?_
 refine (f_num w n).mono ?_
 rintro _ _ ⟨rfl,rfl⟩
 (try simp only [go_sem,simprocAttr])
theorem f_new2 (w:World) {b:Nat} {e:ByteArray} {T0:Nat} (hb:w.heap[b]? = some (.cells #[.string e] T0 (0,0))) (g:Gl) (a:Option Addr) (n c:Nat):CallsR Tryz.prog 34 [glV g (.slice a n c),ptr b] w fun r w'=>r = .bool (decide (g.name=e))∧Mod (fun _=>False) w w':=by
 refine fit34.calls rfl ?_
 unfold ir34 glV
 (try simp only [go_sem,simprocAttr])
 refine e_bx rfl ?_
 intro w1 hb1 hm1 _
 have hb':=hm1.at hb (fun h=>h)
 (try simp only [go_sem,simprocAttr,cell_of hb1,cell_of hb',Value.cells,ba_leq])
 exact hm1
def entryS (e:ByteArray):List Gl→Nat→Option Nat
 | [],_=>none
 | g::l,i=>if g.name=e then some i else entryS e l (i+1)
theorem entryS_at {e:ByteArray} {l:List Gl} {i:Nat} (h:i < l.length):entryS e (l.drop i) i=if l[i].name=e then some i else entryS e (l.drop (i+1)) (i+1):=by
 rw [List.drop_eq_getElem_cons h];rfl
theorem entryS_lt {e:ByteArray}:∀ (l:List Gl) (k:Nat) {j:Nat},entryS e l k=some j→k≤j∧j < k+l.length:=by
 intro l
 induction l with
 | nil=>intro k j h;cases h
 | cons g l ih=>
   intro k j h
   unfold entryS at h
   split at h
   · cases h;simp
   · have:=ih (k+1) h
     simp only [List.length_cons];omega
def entryI (e:ByteArray) (T:Tab):Int:=match entryS e T.globals 0 with
 | some j=>j
 | none => -1
theorem f_entry {w:World} {vsh vgl:Value} {T:Tab} {B:Nat→Prop} (h:TabAt w vsh vgl T B) (hT:TabFit T) {b:Nat} {e:ByteArray} {T0:Nat} (hb:w.heap[b]? = some (.cells #[.string e] T0 (0,0))) :
   CallsR Tryz.prog 33 [vgl,.func (.func 34) #[] #[ptr b]] w fun r w'=>r=I (entryI e T)∧Mod (fun _=>False) w w':=by
 have h0:=h
 obtain ⟨⟨aS,cS,rfl⟩,aG,cG,rfl⟩:=tab_sl h
 have hgn:=hT.gn
 refine fit33.calls rfl ?_
 unfold ir33
 (try simp only [go_sem,simprocAttr])
 refine ir_loop (fun z ρ w'=>∃ i:Nat,z=T.globals.length - i∧i≤T.globals.length∧Mod (fun _=>False) w w'∧entryS e T.globals 0=entryS e (T.globals.drop i) i ∧
   ρ=[(0,.slice aG T.globals.length cG),(1,.func (.func 34) #[] #[ptr b]),(7,I T.globals.length),(8,I i)]) T.globals.length ⟨0,rfl,by omega,Mod.refl _ _,rfl,rfl⟩ ?_
 rintro z ρ w2 ⟨i,rfl,hi,hm2,heq,rfl⟩
 unfold ir33L1
 (try simp only [go_sem,simprocAttr])
 refine ir_cond rfl (fun hlt=>?_) (fun hlt=>?_)
 · have hlt:i < T.globals.length:=by simpa using hlt
   have h2:=h.mod hm2 (fun _ _ h=>h) (fun _ h=>h)
   obtain ⟨ad,c,cv,e',hln,hcv⟩:=glob_ln h2 hlt
   cases e'
   have hat:=entryS_at (e:=e) hlt
   obtain ⟨acv,ccv,rfl⟩:=rows_sl hcv
   generalize T.globals[i]=g at *
   have b1':(0:Int)≤i∧(i:Int) < T.globals.length:=by omega
   have e1:IntKind.i64.wrap ((i:Int)+1)=((i+1:Nat):Int):=by rw [wrap_in (by omega) (by omega)];omega
   unfold glV at hln
   (try simp only [go_sem,simprocAttr,zb4,zb6,b1',hln])
   refine e_cv (f:=34) (cap:=#[ptr b]) rfl rfl rfl rfl rfl ?_
   refine (f_new2 w2 (hm2.at hb (fun h=>h)) g acv _ ccv).mono ?_
   rintro _ w3 ⟨rfl,hm3⟩
   have hm03:=hm2.trans hm3
   (try simp only [go_sem,simprocAttr])
   refine ir_cond rfl (fun hz=>?_) (fun hz=>?_)
   · simp only [zb1,zb2,zb3,zb4,zb5] at hz
     (try simp only [go_sem,simprocAttr])
     have:entryI e T=i:=by unfold entryI;rw [heq,hat,if_pos hz]
     rw [this]
     exact ⟨rfl,hm03⟩
   · simp only [zb1,zb2,zb3,zb4,zb5] at hz
     (try simp only [go_sem,simprocAttr,e1])
     exact ⟨_,by omega,i+1,rfl,by omega,hm03,by rw [heq,hat,if_neg hz],rfl⟩
 · have hlt:¬ i < T.globals.length:=by simpa using hlt
   obtain rfl:i=T.globals.length:=by omega
   (try simp only [go_sem,simprocAttr])
   have:entryI e T = -1:=by unfold entryI;rw [heq,List.drop_length];rfl
   rw [this]
   exact ⟨rfl,hm2⟩
def newY (gens:Bool) (heap:Int):Int:=if gens=true then (if heap.tdiv 8 > 1 then heap.tdiv 8 else 1) else heap
def newKd (gens:Bool) (heap:Int):Kd:=if gens=true then .gn (newY true heap) 0 0 else .hp 0
def setV (heap:Int) (gens:Bool) (every:Int):Value:=.agg #[I heap,.bool gens,I every]
theorem f_newStore (w:World) {heap:Int} (gens:Bool) (every:Int) (hh:1≤heap∧heap≤1048576) :
   CallsR Tryz.prog 35 [setV heap gens every] w fun r w'=>∃ sv F,r = .tuple #[sv,I (newY gens heap),I 0]∧StAt w' sv ⟨newKd gens heap,heap,[]⟩ F∧Mod (fun _=>False) w w'∧∀ b,F b→w.heap.size≤b:=by
 refine fit35.calls rfl ?_
 unfold ir35 setV
 (try simp only [go_sem,simprocAttr])
 refine e_bx rfl ?_
 intro w1 hb1 hm1 _
 have s1:=hm1.size
 cases gens with
 | true=>
   have e1:IntKind.i64.wrap (heap.tdiv 8)=heap.tdiv 8:=by
     have:=Int.tdiv_nonneg (a:=heap) (b:=8) (by omega) (by omega)
     have:heap.tdiv 8≤heap:=by rw [Int.tdiv_eq_ediv_of_nonneg (by omega)];omega
     exact wrap_in (by omega) (by omega)
   have hy:newY true heap=if heap.tdiv 8 > 1 then heap.tdiv 8 else 1:=rfl
   have hyb:1≤newY true heap∧newY true heap≤heap:=by
     rw [hy]
     have:heap.tdiv 8≤heap:=by rw [Int.tdiv_eq_ediv_of_nonneg (by omega)];omega
     split<;>omega
   (try simp only [go_sem,simprocAttr,cell_of hb1,Value.cells,show ((8:Int)=0)=False from eq_false (by decide),e1,← hy])
   refine e_call (by rfl) ?_
   refine (gnew_ok heap (newY true heap) w1).mono ?_
   rintro r w2 ⟨k1,_⟩
   obtain ⟨a,F,rfl,hG,hm2,hF⟩:=k1 ⟨by omega,by omega,hyb.1,hyb.2⟩
   (try simp only [go_sem,simprocAttr])
   refine ⟨_,F,rfl,⟨a,rfl,hG⟩,hm1.trans hm2,fun b hb=>Nat.le_trans s1 (hF b hb)⟩
 | false=>
   (try simp only [go_sem,simprocAttr,cell_of hb1,Value.cells])
   refine e_call (by rfl) ?_
   refine (new_ok heap w1).mono ?_
   rintro r w2 ⟨k1,_⟩
   obtain ⟨rfl,hA,hm2,_⟩:=k1 ⟨by omega,by omega⟩
   have hb12:=hm2.at hb1 (fun h=>h)
   (try simp only [go_sem,simprocAttr,cell_of hb12,Value.cells])
   refine ⟨_,(· = w1.heap.size),rfl,⟨_,rfl,hA.mod (Mod.refl (fun _=>False) w2).drew (fun _ _ h=>h)⟩,(hm1.trans hm2).drew,fun b hb=>by subst hb;exact s1⟩
theorem flat_rows {sz:Nat}:∀ (rows:List (List Value)),(∀ r∈rows,r.length=sz)→∀ (i:Nat) (h:i < rows.length) (k:Nat),k < sz→(rows.flatMap id)[i*sz+k]? = (rows[i]'h)[k]?:=by
 intro rows
 induction rows with
 | nil=>intro _ i h;simp at h
 | cons r rows ih=>
   intro hr i h k hk
   have h0:=hr r (by simp)
   simp only [List.flatMap_cons,id]
   cases i with
   | zero=>rw [List.getElem?_append_left (by omega)];simp
   | succ i=>
     rw [List.getElem?_append_right (by rw [h0,Nat.add_mul];omega),h0]
     have e:(i+1)*sz+k - sz=i*sz+k:=by rw [Nat.add_mul];omega
     rw [e]
     exact ih (fun r hr'=>hr r (by simp [hr'])) i (by simpa using h) k hk
theorem own_rows {w:World} {T sz:Nat} {v:Value} {rows:List (List Value)} {fp:Option Nat} (h:OwnS w T sz v (rows.flatMap id) rows.length fp) (hr:∀ r∈rows,r.length=sz):RowsAt w v sz rows (fun b=>fp=some b):=by
 obtain ⟨h1,⟨rfl,h2,rfl⟩ | ⟨b,c,sp,rfl,rfl,h3,_⟩⟩:=h
 · refine ⟨none,0,by rw [h2],(fun _ ad e=>by cases e),fun i hi=>?_⟩
   omega
 · refine ⟨some ⟨b,0,none⟩,c,rfl,(fun _ ad e=>by cases e;rfl),fun i hi=>⟨_,rfl,hr _ (List.getElem_mem hi),fun k hk=>?_⟩⟩
   have hl:=hr _ (List.getElem_mem hi)
   have hf:=flat_rows rows hr i hi k (by omega)
   rw [List.getElem?_eq_getElem hk] at hf
   have hlt:i*sz+k < (rows.flatMap id).length:=(List.getElem?_eq_some_iff.1 hf).1
   rw [add_at,add_at,cell_of h3]
   simp only [Nat.zero_add,List.getElem?_toArray]
   rw [List.getElem?_append_left hlt]
   exact hf
theorem f_rows (w:World):CallsR Tryz.prog 38 [] w fun r w'=>∃ b,(w.heap.size≤b∧b < w'.heap.size)∧RowsAt w' r 2 rowsV (· = b)∧Mod (fun _=>False) w w':=by
 refine fit38.calls rfl ?_
 unfold ir38
 (try simp only [go_sem,simprocAttr])
 refine e_bs (by rfl) (by rfl) ?_
 intro w1 hb1 hm1 _
 (try simp only [go_sem,simprocAttr])
 have hb1':w1.heap[w.heap.size]? = some (.cells (rowsV.flatMap id).toArray 134 (0,0)):=hb1
 have ho:OwnS w1 134 2 (.slice (some ⟨w.heap.size,0,none⟩) 18 18) (rowsV.flatMap id) rowsV.length (some w.heap.size):=OwnS.of_block (xs:=rowsV.flatMap id) hb1' rfl
 have h2:∀ r∈rowsV,r.length=2:=by
   intro r hr
   simp only [rowsV,List.mem_cons,List.not_mem_nil,or_false] at hr
   rcases hr with rfl | rfl | rfl | rfl | rfl | rfl | rfl | rfl | rfl | rfl | rfl | rfl | rfl | rfl | rfl | rfl | rfl | rfl<;>rfl
 obtain ⟨a,c,e,hB,hx⟩:=own_rows ho h2
 exact ⟨w.heap.size,⟨Nat.le_refl _,lt_of_heap hb1'⟩,⟨a,c,e,(fun h0 ad had=>(Option.some.inj (hB h0 ad had)).symm),hx⟩,hm1⟩
end
section
open Go Go.W Go.ChangeShapes Go.WideShapes Go.ChangeAt Go.RowKit Go.Deep
theorem Tryz.cells25:Tryz.prog.cellsOf 25=2:=by kernel_rfl
theorem Tryz.cells28:Tryz.prog.cellsOf 28=3:=by kernel_rfl
theorem Tryz.cells22:Tryz.prog.cellsOf 22=1:=by kernel_rfl
theorem Tryz.cells23:Tryz.prog.cellsOf 23=1:=by kernel_rfl
theorem Tryz.cells67:Tryz.prog.cellsOf 67=1:=by kernel_rfl
theorem Tryz.cells89:Tryz.prog.cellsOf 89=2:=by kernel_rfl
theorem Tryz.cells70:Tryz.prog.cellsOf 70=3:=by kernel_rfl
theorem Tryz.cells66:Tryz.prog.cellsOf 66=3:=by kernel_rfl
theorem Tryz.cells9:Tryz.prog.cellsOf 9=1:=by kernel_rfl
theorem Tryz.cells3:Tryz.prog.cellsOf 3=1:=by kernel_rfl
theorem Tryz.cells4:Tryz.prog.cellsOf 4=1:=by kernel_rfl
theorem Tryz.bytes89:Tryz.prog.bytesOf 89=24:=by kernel_rfl
theorem Tryz.bytes70:Tryz.prog.bytesOf 70=48:=by kernel_rfl
theorem Tryz.bytes66:Tryz.prog.bytesOf 66=24:=by kernel_rfl
theorem Tryz.bytes3:Tryz.prog.bytesOf 3=8:=by kernel_rfl
theorem Tryz.own:ownKnob Tryz.prog.godebug=none:=by kernel_rfl
theorem Tryz.laidOut:laidOutB Tryz.prog=true:=by kernel_rfl
theorem all_app {p:Nat→Bool} {l m:List Nat} (h:(l++m).all p=true):l.all p=true∧m.all p=true:=by
 simpa using h
section
variable {H:Type} {enc:TypeId×Value→H} {P:Program}
theorem cell_lt {w:World} {a:Addr} {v:Value} (h:w.cell? a=some v):a.block < w.heap.size:=by
 unfold World.cell? at h
 cases hb:w.heap[a.block]? with
 | none=>rw [hb] at h;cases h
 | some o=>exact lt_of_heap hb
theorem open_rows {α:Type} [Inhabited α] {t e:TypeId} {k bytes n:Nat} (cellsA:α→List Value) (okA:α→Prop) (μ:α→Nat) {w:World} {base:Nat} {held:Bool} {cs:List Value} {x:DataW H×List MemPlace}
   (ht:P.underlying t=some (.slice e)) (hk:P.cellsOf e=k) (hby:P.bytesOf e=bytes) (hlen:∀ a,(cellsA a).length=k) (hk0:0 < k)
   (each:∀ n cs y,DataW.trod enc P w base (fun _=>true) held n e cs=some y→(y.1.weights P e).all (·≤reachBytes)=true→∃ o,cs=cellsA o∧okA o∧μ o≤Rows.uptoBulk y.1)
   (h:DataW.trod enc P w base (fun _=>true) held n t cs=some x) (hw:(x.1.weights P t).all (·≤reachBytes)=true) :
   ∃ (v:Value) (os:List α),cs=[v]∧RowsAt w v k (os.map cellsA) (· < w.heap.size)∧(∀ o∈os,okA o)∧os.length*bytes≤reachBytes∧(os.map μ).sum+1≤Rows.uptoBulk x.1:=by
 rcases open_slice ht h with ⟨rfl,rfl⟩ | ⟨a,len,cap,m,k',D,Pl,rfl,_,hl,_,hm,rfl,hel⟩
 · exact ⟨_,[],rfl,⟨none,0,rfl,(fun _ ad e=>by cases e),fun i hi=>absurd hi (by simp)⟩,(fun o ho=>by cases ho),by simp,by simp [Rows.uptoBulk]⟩
 · simp only [if_true] at hm
   subst hm
   simp only [DataW.weights,ht,hby,List.length_map,List.length_range,List.all_cons,Bool.and_eq_true,decide_eq_true_eq] at hw
   obtain ⟨hw1,hw2⟩:=hw
   obtain ⟨hw2,_⟩:=all_app hw2
   have all:∀ i,i < len→∃ o:α,(∀ j,j < k→w.cell? ((a.add (i*k)).add j)=(cellsA o)[j]?)∧okA o∧μ o≤Rows.uptoBulk (D i):=by
     intro i hi
     obtain ⟨cs,h3,h4⟩:=hel i (by omega)
     have hwi:((D i).weights P e).all (·≤reachBytes)=true:=by
       have key:∀ (l:List (DataW H)) d,d∈l→(DataW.weightsAll P e l).all (·≤reachBytes)=true→(d.weights P e).all (·≤reachBytes)=true:=by
         intro l
         induction l with
         | nil=>intro d hd;cases hd
         | cons y l ih=>
           intro d hd hh
           rw [DataW.weightsAll] at hh
           obtain ⟨z1,z2⟩:=all_app hh
           rcases List.mem_cons.1 hd with rfl | hd
           · exact z1
           · exact ih d hd z2
       exact key _ _ (List.mem_map.2 ⟨i,List.mem_range.2 hi,rfl⟩) hw2
     obtain ⟨o,rfl,ho,hμ⟩:=each _ _ _ h4 hwi
     obtain ⟨_,_,h5⟩:=World.cells?_some h3
     rw [hk] at h5
     exact ⟨o,fun j hj=>h5 j hj,ho,hμ⟩
   obtain ⟨f,hf⟩:=choose_lt (α:=α) (h:=all)
   refine ⟨_,(List.range len).map f,rfl,⟨some a,m,by simp,fun h0 ad e=>?_,?_⟩,?_,by simpa using Nat.le_trans (Nat.mul_le_mul_right _ (by omega)) hw1,?_⟩
   · cases e
     have h0':0 < len:=by simpa using h0
     have hc:=(hf 0 h0').1 0 hk0
     have e1:(cellsA (f 0))[0]? = some ((cellsA (f 0))[0]'(by rw [hlen];exact hk0)):=List.getElem?_eq_getElem _
     rw [e1] at hc
     simp only [Nat.zero_mul,add_zero'] at hc
     exact cell_lt hc
   · intro i hi
     have hi':i < len:=by simpa using hi
     refine ⟨a,rfl,by simp [hlen],fun j hj=>?_⟩
     have:=(hf i hi').1 j (by simpa [hlen] using hj)
     rw [this]
     simp only [List.getElem_map,List.getElem_range]
     exact List.getElem?_eq_getElem _
   · intro o ho
     obtain ⟨i,hi,rfl⟩:=List.mem_map.1 ho
     exact (hf i (List.mem_range.1 hi)).2.1
   · have key:∀ l:List Nat,(∀ i∈l,i < len)→((l.map f).map μ).sum≤Rows.uptoBulkAll (l.map D):=by
       intro l
       induction l with
       | nil=>intro _;simp [Rows.uptoBulkAll]
       | cons i l ih=>
         intro hl
         have h1:=(hf i (hl i (by simp))).2.2
         have h2:=ih (fun j hj=>hl j (by simp [hj]))
         simp only [List.map_cons,List.sum_cons,Rows.uptoBulkAll]
         omega
     have:=key (List.range len) (fun i hi=>List.mem_range.1 hi)
     show _+1≤Rows.uptoBulkAll _+Rows.uptoBulkAll _+1
     omega
instance:Inhabited Ins:=⟨⟨0,0,0⟩⟩
instance:Inhabited Shp:=⟨⟨⟨#[]⟩,0⟩⟩
structure GlIn where
 g:Gl
 v:Value
instance:Inhabited GlIn:=⟨⟨⟨⟨#[]⟩,0,[]⟩,.slice none 0 0⟩⟩
def GlIn.row (o:GlIn):List Value:=[.string o.g.name,I o.g.arity,o.v]
theorem reach_is:reachBytes=140737488351232:=by decide
theorem int_hi {n:Int} (h:(Lit.int .i64 n).wf=true):n≤9223372036854775807:=by
 have e:IntKind.max .i64=9223372036854775807:=by decide
 simp only [Lit.wf,Bool.and_eq_true,decide_eq_true_eq] at h
 rw [e] at h
 exact h.2
variable {w:World} {base:Nat} {held:Bool}
theorem ins_in (n:Nat) (cs:List Value) (y:DataW H×List MemPlace) (h:DataW.trod enc Tryz.prog w base (fun _=>true) held n 66 cs=some y) (hw:(y.1.weights Tryz.prog 66).all (·≤reachBytes)=true) :
   ∃ x:Ins,cs=insRow x∧x.a≤9223372036854775807∧1≤Rows.uptoBulk y.1:=by
 obtain ⟨xs,m,rfl,rfl,hl,hxs,hf⟩:=DataW.trod_struct Tryz.underlying66 h
 rw [Tryz.cells66] at hl
 match cs,hl,xs,hxs with
 | [c0,c1,c2],_,[x0,x1,x2],_=>
 have f0:=hf 0 _ rfl
 have f1:=hf 1 _ rfl
 have f2:=hf 2 _ rfl
 simp only [Tryz.cells3,List.drop_zero,List.drop_succ_cons,List.take_succ_cons,List.take_zero,List.getElem?_cons_zero,List.getElem?_cons_succ] at f0 f1 f2
 obtain ⟨i0,e0,rfl,_⟩:=DataW.trod_int Tryz.underlying3 f0
 obtain ⟨i1,e1,rfl,w1⟩:=DataW.trod_int Tryz.underlying3 f1
 obtain ⟨i2,e2,rfl,_⟩:=DataW.trod_int Tryz.underlying3 f2
 cases e0;cases e1;cases e2
 exact ⟨⟨i0,i1,i2⟩,rfl,int_hi w1,Nat.le_add_left 1 _⟩
theorem str_in {n:Nat} {c:Value} {y:DataW H×List MemPlace} (h:DataW.trod enc Tryz.prog w base (fun _=>true) held n 9 [c]=some y) (hw:(y.1.weights Tryz.prog 9).all (·≤reachBytes)=true) :
   ∃ s:ByteArray,c = .string s∧s.size≤140737488351232∧s.size+1=Rows.uptoBulk y.1:=by
 obtain ⟨s,e,rfl,_⟩:=DataW.trod_string Tryz.underlying9 h
 cases e
 have h1:s.data.toList.length=s.size:=Array.length_toList
 refine ⟨s,rfl,?_,by simp only [Rows.uptoBulk];omega⟩
 simp only [DataW.weights,List.all_cons,Bool.and_eq_true,decide_eq_true_eq,reach_is] at hw
 omega
theorem shp_in (n:Nat) (cs:List Value) (y:DataW H×List MemPlace) (h:DataW.trod enc Tryz.prog w base (fun _=>true) held n 89 cs=some y) (hw:(y.1.weights Tryz.prog 89).all (·≤reachBytes)=true) :
   ∃ x:Shp,cs=shRow x∧x.name.size≤140737488351232∧x.name.size+1≤Rows.uptoBulk y.1:=by
 obtain ⟨xs,m,rfl,rfl,hl,hxs,hf⟩:=DataW.trod_struct Tryz.underlying89 h
 rw [Tryz.cells89] at hl
 match cs,hl,xs,hxs with
 | [c0,c1],_,[x0,x1],_=>
 have f0:=hf 0 _ rfl
 have f1:=hf 1 _ rfl
 simp only [Tryz.cells3,Tryz.cells9,List.drop_zero,List.drop_succ_cons,List.take_succ_cons,List.take_zero,List.getElem?_cons_zero,List.getElem?_cons_succ] at f0 f1
 simp only [DataW.weights,Tryz.underlying89,List.map_cons,List.map_nil,DataW.weightsEach] at hw
 obtain ⟨hw0,_⟩:=all_app hw
 obtain ⟨s,rfl,hs,hb⟩:=str_in f0 hw0
 obtain ⟨i1,e1,rfl,_⟩:=DataW.trod_int Tryz.underlying3 f1
 cases e1
 refine ⟨⟨s,i1⟩,rfl,hs,?_⟩
 simp only [Rows.uptoBulk,Rows.uptoBulkAll,List.map_cons,List.map_nil,← hb]
 omega
theorem gl_in (n:Nat) (cs:List Value) (y:DataW H×List MemPlace) (h:DataW.trod enc Tryz.prog w base (fun _=>true) held n 70 cs=some y) (hw:(y.1.weights Tryz.prog 70).all (·≤reachBytes)=true) :
   ∃ x:GlIn,cs=x.row∧(RowsAt w x.v 3 (x.g.code.map insRow) (· < w.heap.size)∧(∀ i∈x.g.code,i.a≤9223372036854775807)∧x.g.name.size≤140737488351232∧x.g.code.length≤17592186044416)∧x.g.name.size+x.g.code.length+1≤Rows.uptoBulk y.1:=by
 obtain ⟨xs,m,rfl,rfl,hl,hxs,hf⟩:=DataW.trod_struct Tryz.underlying70 h
 rw [Tryz.cells70] at hl
 match cs,hl,xs,hxs with
 | [c0,c1,c2],_,[x0,x1,x2],_=>
 have f0:=hf 0 _ rfl
 have f1:=hf 1 _ rfl
 have f2:=hf 2 _ rfl
 simp only [Tryz.cells3,Tryz.cells9,Tryz.cells67,List.drop_zero,List.drop_succ_cons,List.take_succ_cons,List.take_zero,List.getElem?_cons_zero,List.getElem?_cons_succ] at f0 f1 f2
 simp only [DataW.weights,Tryz.underlying70,List.map_cons,List.map_nil,DataW.weightsEach] at hw
 obtain ⟨hw0,hw⟩:=all_app hw
 obtain ⟨_,hw⟩:=all_app hw
 obtain ⟨hw2,_⟩:=all_app hw
 obtain ⟨s,rfl,hs,hb⟩:=str_in f0 hw0
 obtain ⟨i1,e1,rfl,_⟩:=DataW.trod_int Tryz.underlying3 f1
 obtain ⟨v,os,e2,hr,ho,hlen,hμ⟩:=open_rows insRow (fun x=>x.a≤9223372036854775807) (fun _=>1) Tryz.underlying67 Tryz.cells66 Tryz.bytes66 (fun _=>rfl) (by decide) (ins_in (H:=H)) f2 hw2
 cases e1;cases e2
 rw [reach_is] at hlen
 have h1:(os.map fun _=>1).sum=os.length:=by
   clear hμ hlen ho hr
   induction os with
   | nil=>rfl
   | cons a l ih=>simp only [List.map_cons,List.sum_cons,List.length_cons,ih];omega
 rw [h1] at hμ
 refine ⟨⟨⟨s,i1,os⟩,c2⟩,rfl,⟨hr,ho,hs,by show os.length≤_;omega⟩,?_⟩
 show s.size+os.length+1≤_
 simp only [Rows.uptoBulk,Rows.uptoBulkAll,List.map_cons,List.map_nil,← hb]
 omega
def Tab.bulk (T:Tab):Nat:=(T.shapes.map fun s=>s.name.size+1).sum+(T.globals.map fun g=>g.name.size+g.code.length+1).sum
theorem tab_in {n:Nat} {cs:List Value} {y:DataW H×List MemPlace} (h:DataW.trod enc Tryz.prog w base (fun _=>true) held n 25 cs=some y) (hw:(y.1.weights Tryz.prog 25).all (·≤reachBytes)=true) :
   ∃ vsh vgl T,cs=[vsh,vgl]∧TabAt w vsh vgl T (· < w.heap.size)∧TabFit T∧T.bulk≤Rows.uptoBulk y.1:=by
 obtain ⟨xs,m,rfl,rfl,hl,hxs,hf⟩:=DataW.trod_struct Tryz.underlying25 h
 rw [Tryz.cells25] at hl
 match cs,hl,xs,hxs with
 | [c0,c1],_,[x0,x1],_=>
 have f0:=hf 0 _ rfl
 have f1:=hf 1 _ rfl
 simp only [Tryz.cells22,Tryz.cells23,List.drop_zero,List.drop_succ_cons,List.take_succ_cons,List.take_zero,List.getElem?_cons_zero,List.getElem?_cons_succ] at f0 f1
 simp only [DataW.weights,Tryz.underlying25,List.map_cons,List.map_nil,DataW.weightsEach] at hw
 obtain ⟨hw0,hw⟩:=all_app hw
 obtain ⟨hw1,_⟩:=all_app hw
 obtain ⟨v0,ss,e0,hr0,ho0,hlen0,hμ0⟩:=open_rows shRow (fun x=>x.name.size≤140737488351232) (fun x=>x.name.size+1) Tryz.underlying22 Tryz.cells89 Tryz.bytes89 (fun _=>rfl) (by decide) (shp_in (H:=H)) f0 hw0
 obtain ⟨v1,gs,e1,hr1,ho1,hlen1,hμ1⟩:=open_rows GlIn.row (fun x=>RowsAt w x.v 3 (x.g.code.map insRow) (· < w.heap.size)∧(∀ i∈x.g.code,i.a≤9223372036854775807)∧x.g.name.size≤140737488351232∧x.g.code.length≤17592186044416) (fun x=>x.g.name.size+x.g.code.length+1) Tryz.underlying23 Tryz.cells70 Tryz.bytes70 (fun _=>rfl) (by decide) (gl_in (H:=H)) f1 hw1
 cases e0;cases e1
 rw [reach_is] at hlen0 hlen1
 have hz:∀ l:List GlIn,List.zipWith (fun (g:Gl) (v:Value)=>[.string g.name,I g.arity,v]) (l.map (·.g)) (l.map (·.v))=l.map GlIn.row:=by
   intro l
   induction l with
   | nil=>rfl
   | cons a l ih=>simp only [List.map_cons,List.zipWith_cons_cons,ih];rfl
 refine ⟨c0,c1,⟨ss,gs.map (·.g)⟩,rfl,⟨hr0,gs.map (·.v),by simp,?_,?_⟩,⟨by simp;omega,by show ss.length≤_;omega,?_,?_,?_,?_⟩,?_⟩
 · rw [hz];exact hr1
 · intro i g v hg hv
   rw [List.getElem?_map] at hg hv
   cases ho:gs[i]? with
   | none=>rw [ho] at hg;cases hg
   | some o=>
     rw [ho] at hg hv
     cases hg;cases hv
     exact (ho1 o (List.mem_of_getElem? ho)).1
 · intro g hg
   obtain ⟨o,ho,rfl⟩:=List.mem_map.1 hg
   exact (ho1 o ho).2.2.2
 · intro g hg
   obtain ⟨o,ho,rfl⟩:=List.mem_map.1 hg
   have:=(ho1 o ho).2.2.1
   omega
 · intro s hs
   have:=ho0 s hs
   omega
 · intro g hg
   obtain ⟨o,ho,rfl⟩:=List.mem_map.1 hg
   exact (ho1 o ho).2.1
 · simp only [Rows.uptoBulk,Rows.uptoBulkAll,List.map_cons,List.map_nil,Tab.bulk,List.map_map]
   have e:(gs.map ((fun g:Gl=>g.name.size+g.code.length+1) ∘ fun x=>x.g)).sum=(gs.map fun x=>x.g.name.size+x.g.code.length+1).sum:=rfl
   rw [e]
   omega
theorem set_in {n:Nat} {cs:List Value} {y:DataW H×List MemPlace} (h:DataW.trod enc Tryz.prog w base (fun _=>true) held n 28 cs=some y):∃ heap gens every,cs=[I heap,.bool gens,I every]:=by
 obtain ⟨xs,m,rfl,rfl,hl,hxs,hf⟩:=DataW.trod_struct Tryz.underlying28 h
 rw [Tryz.cells28] at hl
 match cs,hl,xs,hxs with
 | [c0,c1,c2],_,[x0,x1,x2],_=>
 have f0:=hf 0 _ rfl
 have f1:=hf 1 _ rfl
 have f2:=hf 2 _ rfl
 simp only [Tryz.cells3,Tryz.cells4,List.drop_zero,List.drop_succ_cons,List.take_succ_cons,List.take_zero,List.getElem?_cons_zero,List.getElem?_cons_succ] at f0 f1 f2
 obtain ⟨i0,e0,rfl,_⟩:=DataW.trod_int Tryz.underlying3 f0
 obtain ⟨i1,e1,rfl⟩:=DataW.trod_bool Tryz.underlying4 f1
 obtain ⟨i2,e2,rfl,_⟩:=DataW.trod_int Tryz.underlying3 f2
 cases e0;cases e1;cases e2
 exact ⟨i0,i1,i2,rfl⟩
end
end
section
open Go Go.W Go.ChangeShapes Go.WideShapes Go.ChangeAt Go.RowKit Go.Deep
section
variable {H:Type} {enc:TypeId×Value→H} {w:World} {ts:List TypeId} {args:List Value} {ds:List (DataW H)}
theorem lawIn_cons {P:Program} {t:TypeId} (h:LawIn enc P (t::ts) w args ds):∃ v args' d ds' base p,args=v::args'∧ds=d::ds'∧LawIn enc P ts w args' ds'∧Value.okWide P w .any base t v∧DataW.Trod enc P w 0 (fun _=>true) true t v d p∧(d.weights P t).all (·≤reachBytes)=true:=by
 obtain ⟨⟨base,hval⟩,⟨ps,hA⟩,hsz⟩:=h
 obtain ⟨v,vs,d,ds',p,q,rfl,rfl,rfl,hd,hrest⟩:=trodAll_cons hA
 rw [DataW.weightsEach] at hsz
 obtain ⟨h1,h2⟩:=all_app hsz
 exact ⟨v,vs,d,ds',base,p,rfl,rfl,⟨⟨base,fun j t' v' ht hv=>hval (j+1) t' v' ht hv⟩,⟨q,hrest⟩,h2⟩,hval 0 t v rfl rfl,hd,h1⟩
theorem lawIn_nil {P:Program} (h:LawIn enc P [] w args ds):args=[]∧ds=[]:=by
 obtain ⟨_,⟨ps,hA⟩,_⟩:=h
 obtain ⟨rfl,rfl,_⟩:=trodAll_nil hA
 exact ⟨rfl,rfl⟩
theorem in_int (h:LawIn enc Tryz.prog (3::ts) w args ds):∃ n args' d ds',args=I n::args'∧ds=d::ds'∧LawIn enc Tryz.prog ts w args' ds':=by
 obtain ⟨v,args',d,ds',base,p,rfl,rfl,h',hval,hd,_⟩:=lawIn_cons h
 obtain ⟨n,rfl,_⟩:=open_int Tryz.underlying3 hval hd
 exact ⟨n,args',d,ds',rfl,rfl,h'⟩
theorem in_tab (h:LawIn enc Tryz.prog (25::ts) w args ds):∃ vsh vgl T args' d ds',args=tabV vsh vgl::args'∧ds=d::ds'∧TabAt w vsh vgl T (· < w.heap.size)∧TabFit T∧T.bulk≤Rows.uptoBulk d∧LawIn enc Tryz.prog ts w args' ds':=by
 obtain ⟨v,args',d,ds',base,p,rfl,rfl,h',hval,hd,hw⟩:=lawIn_cons h
 obtain ⟨cs,rfl,_⟩:=okWide_struct Tryz.underlying25 hval
 obtain ⟨fuel,hf⟩:=hd
 obtain ⟨vsh,vgl,T,e,h1,h2,h3⟩:=tab_in (y:=(d,p)) (by simpa [Value.cells] using hf) hw
 have e':cs = #[vsh,vgl]:=Array.ext' e
 subst e'
 exact ⟨vsh,vgl,T,args',d,ds',rfl,rfl,h1,h2,h3,h'⟩
theorem in_set (h:LawIn enc Tryz.prog (28::ts) w args ds):∃ heap gens every args' d ds',args=setV heap gens every::args'∧ds=d::ds'∧LawIn enc Tryz.prog ts w args' ds':=by
 obtain ⟨v,args',d,ds',base,p,rfl,rfl,h',hval,hd,hw⟩:=lawIn_cons h
 obtain ⟨cs,rfl,_⟩:=okWide_struct Tryz.underlying28 hval
 obtain ⟨fuel,hf⟩:=hd
 obtain ⟨heap,gens,every,e⟩:=set_in (y:=(d,p)) (by simpa [Value.cells] using hf)
 have e':cs = #[I heap,.bool gens,I every]:=Array.ext' e
 subst e'
 exact ⟨heap,gens,every,args',d,ds',rfl,rfl,h'⟩
theorem in_str (h:LawIn enc Tryz.prog (9::ts) w args ds):∃ (s:ByteArray) (args':List Value) (d:DataW H) (ds':List (DataW H)),args = .string s::args'∧ds=d::ds'∧s.size≤140737488351232∧s.size+1=Rows.uptoBulk d∧LawIn enc Tryz.prog ts w args' ds':=by
 obtain ⟨v,args',d,ds',base,p,rfl,rfl,h',hval,hd,hw⟩:=lawIn_cons h
 obtain ⟨s,rfl⟩:=okWide_string Tryz.underlying9 hval
 obtain ⟨fuel,hf⟩:=hd
 obtain ⟨s',e,h1,h2⟩:=str_in (y:=(d,p)) (by simpa [Value.cells] using hf) hw
 cases e
 exact ⟨s,args',d,ds',rfl,rfl,h1,h2,h'⟩
theorem in_ints (h:LawIn enc Tryz.prog (26::ts) w args ds):∃ v input args' d ds',args=v::args'∧ds=d::ds'∧Ints w v input∧input.length+5≤17592186044416∧LawIn enc Tryz.prog ts w args' ds':=by
 obtain ⟨v,args',d,ds',base,p,rfl,rfl,h',hval,hd,hw⟩:=lawIn_cons h
 obtain ⟨a0,len,cap,rfl⟩:=okWide_slice Tryz.underlying26 hval
 obtain ⟨fuel,hf⟩:=hd
 obtain ⟨c,xs,e,h1,h2⟩:=tr_ints (x:=(d,p)) Tryz.underlying26 Tryz.underlying3 Tryz.cells3 Tryz.bytes3 (by simpa [Value.cells] using hf) hw
 cases e
 exact ⟨_,xs,args',d,ds',rfl,rfl,h1,h2,h'⟩
end
end
section
open Go Go.W
theorem fr_both {w w3:World} {τ τ':Tag} {i k:Nat} {f f':Fr} {vs vp vs' vp':Value} {fs fp fs':Option Nat} (h:FrIn w τ i k f vs vp fs fp) (hs:OwnS w3 3 1 vs' (f'.stack.map I) f'.stack.length fs') (hsp:OwnS w3 3 1 vp' (f'.spine.map I) f'.spine.length fp)
   (hb:w3.heap[k]? = some (.cells (frCells f' vs' vp').toArray 106 (0,0))) (hw:τ.wx τ' w) (ht:τ'.is fs' (.fs i)):FrAt w3 τ' i k f':=by
 obtain ⟨l1,l2,l3⟩:=h.lt
 exact ⟨vs',vp',fs',fp,hb,(hw k l1 (by rw [h.tk];simp)).trans h.tk,hs,ht,hsp,is_ext h.tp hw l3 (by simp)⟩
section
variable {w:World} {τ:Tag} {m:Nat} {S:SV} {M:Mc} {ks:List Nat} {k:Nat} {x:Ins} {n:Int}
theorem x_call (hT:TopAt w τ m S M ks k) (hM:MOk n M) (he:M.ended=0) (h4:(M.st.nd M.top.stands).kind=4) (href:M.st.kd≠.ref) (hsp:M.top.spine.length≤4294967295)
   (har:(M.top.spine.length:Int)≥(M.tab.gl (M.st.nd M.top.stands).num).arity) :
   CallsR Tryz.prog 98 [ptr m,ptr k,I (M.st.ov M.top.stands),I (M.st.nd M.top.stands).num] w fun _ w'=>MOp w τ m S (M.call M.top (M.st.nd M.top.stands).num) ks w':=by
 have hG:=hM.topG hT.pos
 have hmk:=hM.g.nd hG.sd
 have hgl:=hmk.2.2.1 h4
 have hg0:=((may_kind hmk.1).2.2.2.1 h4).2
 generalize hnum:(M.st.nd M.top.stands).num=num at *
 obtain ⟨g,rfl⟩:∃ g:Nat,num=g:=⟨num.toNat,by omega⟩
 have hgok:=hM.tab.gls _ (gl_mem (c:=(g:Int)) (by omega))
 obtain ⟨ar,har'⟩:∃ ar:Nat,(M.tab.gl g).arity=ar:=⟨(M.tab.gl g).arity.toNat,by omega⟩
 rw [har'] at har hgok
 obtain ⟨vG,vF,vW,vT,fg,ff,fw,ft,F,hh⟩:=hT.at'
 obtain ⟨vs,vp,fs,fp,hF⟩:=hT.fr
 have hc:=hh.cells
 have hcf:=hF.cells
 obtain ⟨ad,c,cv,hvgl,B1,_,hari,hcv,hrows⟩:=glob_at hh.tab (i:=g) (by omega)
 rw [har'] at hari
 have hari:w.cell? ⟨(ad.add (g*3)).block,(ad.add (g*3)).off+1,none⟩=some (I ar):=hari
 have b1:(0:Int)≤g∧(g:Int) < M.tab.globals.length:=by omega
 obtain ⟨d,hd⟩:∃ d:Nat,d+ar=M.top.spine.length:=⟨M.top.spine.length - ar,by omega⟩
 obtain ⟨aP,cP,rfl,hcP,_⟩:=hF.spine.val
 have e1:IntKind.i64.wrap ((M.top.spine.length:Int) - ar)=d:=by rw [wrap_in (by omega) (by omega)];omega
 have b2:(0:Int)≤d∧(d:Int)≤M.top.spine.length:=by omega
 refine fit98.calls rfl ?_
 unfold ir98
 (try simp only [go_sem,simprocAttr,zb4,zb6,cell_of hc,ptr,mcCells,hvgl,b1,hari,cell_of hcf,frCells,e1,b2])
 have hlen:M.top.spine.length - d=ar:=by omega
 generalize haO:(if cP=d then aP else Option.map (fun x=>x.add d) aP)=aO
 obtain ⟨O,hO⟩:∃ O:List Int,O=M.top.own ar:=⟨_,rfl⟩
 have hO':O=M.top.spine.drop d:=by rw [hO];unfold Fr.own;rw [Int.toNat_natCast,show M.top.spine.length - ar=d by omega]
 have hOl:O.length=ar:=by rw [hO',List.length_drop];omega
 have hOin:∀ s∈O,M.st.In s:=fun s hs=>hG.sp s (by rw [hO'] at hs;exact List.mem_of_mem_drop hs)
 have hOg:∀ i,i < ar→∃ bP,aO=some ⟨bP,d,none⟩∧fp=some bP∧w.cell? ⟨bP,d+i,none⟩=some (I (O.getD i 0))∧O.getD i 0∈O:=by
   intro i hi
   obtain ⟨bP,rfl,hfp,hcell⟩:=own_cell hF.spine (i:=d+i) (by omega)
   refine ⟨bP,?_,hfp,?_,getD_mem (by omega)⟩
   · rw [← haO,if_neg (by omega)]
     simp [Addr.add]
     intro h;exact h.symm
   · have e:O.getD i 0=M.top.spine.getD (d+i) 0:=by rw [hO'];simp [List.getD_eq_getElem?_getD,List.getElem?_drop]
     rw [e,hcell,List.getElem?_map,List.getElem?_eq_getElem (by omega),List.getD_eq_getElem?_getD,List.getElem?_eq_getElem (by omega)];rfl
 rw [hlen]
 have hfl:M.top.stands=M.top.stands:=rfl
 have hcallF:∀ s∈O,(M.st.nd s).kind≠3→M.call M.top g=M.fail 5:=by
   intro s hs hk
   unfold Mc.call
   rw [har',← hO,if_neg]
   intro hh
   rw [List.all_eq_true] at hh
   exact hk (by simpa using hh s hs)
 refine e_bs (by rfl) (by rfl) ?_
 intro w1 hb1 hm1 _
 have hm1':Mod (fun _=>False) w w1:=hm1.of_drew
 have hbw:w.drew.heap.size=w.heap.size:=rfl
 (try simp only [go_sem,simprocAttr])
 refine ir_loop (fun z ρ w'=>∃ (i:Nat) (v:Value) (f:Option Nat),z=ar - i∧i≤ar∧Mod (fun _=>False) w w'∧(∀ s∈O.take i,(M.st.nd s).kind=3) ∧
   OwnS w' 3 1 v (((if i=0 then (M.st.ov M.top.stands:Int) else (M.st.ov (O.getD 0 0):Int))::(O.take i).map (fun s=>(M.st.nd s).args.getD 1 0)).map I) (i+1) f∧(∀ b,f=some b→w.heap.size≤b) ∧
   ρ=[(0,ptr m),(1,ptr k),(3,I g),(8,I ar),(10,v),(38,.slice aO ar (cP - d)),(39,I ar),(40,I i)]) ar ⟨0,_,some w.heap.size,rfl,by omega,hm1',(by simp),OwnS.of_block (xs:=[I (M.st.ov M.top.stands:Int)]) hb1 rfl,(fun b hb=>by cases hb;omega),rfl⟩ ?_
 rintro z ρ w2 ⟨i,v,f,rfl,hi,hm2,hall,hv,hf,rfl⟩
 have h2:=hT.later hm2
 unfold ir98L1
 (try simp only [go_sem,simprocAttr])
 refine ir_cond rfl (fun hlt0=>?_) (fun hlt0=>?_)
 · have hlt:i < ar:=by simpa using hlt0
   obtain ⟨bP,haO',hfp,hcell,hmem⟩:=hOg i hlt
   have hiO:i < O.length:=by omega
   have hin:=hOin _ hmem
   generalize hs:O.getD i 0=s at *
   have hcell2:=hm2.cell hcell (fun h=>h)
   have b3:(0:Int)≤i∧(i:Int) < ar:=by omega
   subst haO'
   (try simp only [go_sem,simprocAttr,zb4,zb6,b3,add_at,hcell2])
   refine e_call (by rfl) ?_
   refine (m_over h2.at' hM.g.st hM.g.ends hin).mono ?_
   rintro _ w3 ⟨v3,rfl,hv3,hm3⟩
   (try simp only [go_sem,simprocAttr])
   refine e_al ?_
   intro w4 hb4 hm4 _
   refine e_sta (cs:=[I 0,I 0,.slice none 0 0]) rfl rfl hb4 rfl rfl (node_one hv3 _ _) ?_
   intro w5 hb5 hm5 hs5
   have hsz:=hm2.size
   have hsz3:=hm3.size
   have hm35:Mod (fun _=>False) w3 w5:=hm4.step hm5 (fun x hx hl=>by subst hx;omega)
   have hm05:Mod (fun _=>False) w w5:=(hm2.trans hm3).trans hm35
   have h5:=hT.later hm05
   have hmk3:=hM.g.nd hin
   obtain ⟨fp3,hv3,hf3⟩:=hv3
   obtain ⟨va3,vc3,rfl,_⟩:=hv3.val
   have hk3:((M.st.nd s).kind != 3)=decide ((M.st.nd s).kind≠3):=by by_cases hh:(M.st.nd s).kind=3<;>simp [hh]
   (try simp only [go_sem,simprocAttr,cell_of hb5,hk3])
   refine ir_cond rfl (fun hk=>?_) (fun hk=>?_)
   · simp only [zb1,zb2,zb3,zb4,zb5] at hk
     (try simp only [go_sem,simprocAttr])
     refine e_call (by rfl) ?_
     refine (m_fail h5.at' 5).mono ?_
     rintro _ w6 hop
     (try simp only [go_sem,simprocAttr])
     rw [hcallF s hmem hk]
     exact MOp.boxed hm05 hop
   · simp only [zb1,zb2,zb3,zb4,zb5] at hk
     have hvv:=(hv.mod hm3 (fun _ _ h=>h)).mod hm35 (fun _ _ h=>h)
     have hv3':=hv3.mod hm35 (fun _ _ h=>h)
     have ha2:=(may_kind hmk3.1).2.2.1 hk
     rw [ha2] at hv3'
     obtain ⟨b6,rfl,_,hc6⟩:=own_cell hv3' (i:=1) (by omega)
     have hc6:w5.cell? ⟨b6,1,none⟩=some (I ((M.st.nd s).args.getD 1 0)):=by
       rw [hc6,List.getElem?_map,List.getElem?_eq_getElem (by omega),List.getD_eq_getElem?_getD,List.getElem?_eq_getElem (by omega)];rfl
     have hs5:w3.heap.size < w5.heap.size:=lt_of_heap hb5
     (try simp only [go_sem,simprocAttr])
     refine ir_then (fun ρ w'=>ρ.get 0=some (ptr m)∧ρ.get 1=some (ptr k)∧ρ.get 3=some (I g)∧ρ.get 8=some (I ar)∧ρ.get 10=some v∧ρ.get 14=some (ptr w3.heap.size)∧ρ.get 38=some (.slice (some ⟨bP,d,none⟩) ar (cP - d))∧ρ.get 39=some (I ar)∧ρ.get 40=some (I i) ∧
       Mod (fun b=>f=some b) w5 w'∧OwnS w' 3 1 v (((M.st.ov (O.getD 0 0):Int)::(O.take i).map (fun s=>(M.st.nd s).args.getD 1 0)).map I) (i+1) f) ?_ ?_
     · refine ir_cond rfl (fun hz=>?_) (fun hz=>?_)
       · have hz:i=0:=by simpa using hz
         obtain ⟨bV,cV,cs,rfl,rfl,hbV,hcs,_,hset⟩:=own_set hvv (i:=0) (by omega)
         have b4:(0:Int)≤0∧(0:Int) < ((i+1:Nat):Int):=by omega
         (try simp only [go_sem,simprocAttr,zb4,zb6,b4,add_at])
         refine e_st1 (off:=0) rfl rfl hbV rfl hcs ?_
         intro w6 hb6 hm6 _
         (try simp only [go_sem,simprocAttr])
         refine ⟨hm6.weak (fun b hb=>by rw [hb]),?_⟩
         have:=hset w6 _ hb6
         rw [if_pos hz] at this
         simp only [List.set_cons_zero] at this
         have e:O.getD 0 0=s:=by rw [← hs,hz]
         rw [e];exact this
       · have hz:i≠0:=by simpa using hz
         (try simp only [go_sem,simprocAttr])
         rw [if_neg hz] at hvv
         exact ⟨Mod.refl _ _,hvv⟩
     rintro ρ w6 ⟨r0,r1,r3,r8,r10,r14,r38,r39,r40,hm6,hv6⟩
     have nf3:f≠some w3.heap.size:=fun e=>by have:=hv.lt e;omega
     have nf6:f≠some b6:=fun e=>by
       have h1:=hv.lt e
       have h2:=hf3 b6 (by assumption)
       omega
     have hb56:=hm6.at hb5 (fun e=>nf3 e)
     have hc66:=hm6.cell hc6 (fun e=>nf6 e)
     have b5:(0:Int)≤1∧(1:Int) < ((M.st.nd s).args.length:Int):=by omega
     obtain ⟨av6,cv6,rfl,_⟩:=hv6.val
     have e40:IntKind.i64.wrap ((i:Int)+1)=((i+1:Nat):Int):=by rw [wrap_in (by omega) (by omega)];omega
     (try simp only [go_sem,simprocAttr,zb4,zb6,r0,r1,r3,r8,r10,r14,r38,r39,r40,cell_of hb56,b5,add_at,hc66,show Int.toNat 1=1 from rfl])
     refine e_bs (by rfl) (by rfl) ?_
     intro w7 hb7 hm7 _
     (try simp only [go_sem,simprocAttr,r0,r1,r3,r8,r10,r14,r38,r39,r40])
     refine e_ap (m:=1) (news:=[I ((M.st.nd s).args.getD 1 0)]) (by (try simp only [go_sem,simprocAttr,r10])) (hv6.mod hm7 (fun _ _ h=>h)) rfl (fun h=>by cases h) (rd_block (xs:=[I ((M.st.nd s).args.getD 1 0)]) hb7) (oneI [(M.st.nd s).args.getD 1 0]) rfl (by omega) (by omega) ?_
     intro v8 w8 f8 ho8 hm8 hf8
     (try simp only [go_sem,simprocAttr,r0,r1,r3,r8,r38,r39,r40,e40])
     have fnew:∀ b,f=some b→¬ b < w.heap.size:=fun b hb=>by have:=hf b hb;omega
     have s67:=hm7.size
     have s56:=hm6.size
     have s05:=hm05.size
     refine ⟨_,by omega,i+1,v8,f8,rfl,by omega,((hm05.step hm6 (fun b hb hl=>absurd hl (fnew b hb))).trans hm7).step hm8 (fun b hb hl=>absurd hl (fnew b hb)),fun s' hs'=>?_,?_,fun b hb=>?_,rfl⟩
     · rw [List.take_succ_eq_append_getElem hiO] at hs'
       rcases List.mem_append.1 hs' with h1 | h1
       · exact hall s' h1
       · obtain rfl:=List.mem_singleton.1 h1
         have e:O[i]=s:=by rw [← hs,List.getD_eq_getElem?_getD,List.getElem?_eq_getElem hiO];rfl
         rw [e];exact hk
     · rw [if_neg (by omega)]
       have e:O[i]=s:=by rw [← hs,List.getD_eq_getElem?_getD,List.getElem?_eq_getElem hiO];rfl
       rw [List.take_succ_eq_append_getElem hiO,List.map_append,e]
       simpa using ho8
     · rcases hf8 b hb with h1 | h1
       · exact hf b h1
       · omega
 · have hlt:¬ i < ar:=by simpa using hlt0
   obtain rfl:i=ar:=by omega
   obtain ⟨H,hH⟩:∃ H:Int,H=if i=0 then (M.st.ov M.top.stands:Int) else (M.st.ov (O.getD 0 0):Int):=⟨_,rfl⟩
   rw [← hH] at hv
   have htk:O.take i=O:=List.take_of_length_le (by omega)
   rw [htk] at hall hv
   have hHe:M.head M.top i=H:=by
     unfold Mc.head
     rw [← hO,hH]
     have hr:M.ref=false:=by unfold Mc.ref;split<;>simp_all
     cases O with
     | nil=>simp at hOl;rw [if_pos hOl.symm]
     | cons a l=>simp at hOl;rw [if_neg (by omega),hr];rfl
   have hHin:M.st.In H∧M.st.ov H=H.toNat:=by
     rw [hH]
     split
     · exact ⟨hM.g.ovIn hG.sd,by rw [Int.toNat_natCast];exact (St.nd_ov hM.g hG.sd).1⟩
     · have:=hOin _ (getD_mem (l:=O) (i:=0) (by omega))
       exact ⟨hM.g.ovIn this,by rw [Int.toNat_natCast];exact (St.nd_ov hM.g this).1⟩
   have hcall:M.call M.top g = { M.setTop { M.top with runs:=true,glob:=g,at':=0,stack:=H::O.map (fun s=>(M.st.nd s).args.getD 1 0),spine:=M.top.spine.take d} with st:=M.st.set H.toNat ⟨7,0,[]⟩}:=by
     unfold Mc.call
     rw [har',← hO,if_pos (List.all_eq_true.2 (fun s hs=>by simpa using hall s hs)),hHe,hHin.2,Int.toNat_natCast,show M.top.spine.length - i=d by omega]
   have h2d:TopAt w2.drew (newTag τ w .no) m S M ks k:=h2.mod (Mod.refl (fun _=>False) w2).drew (ext_refl _ _).wx (fun _ _ h=>h.elim)
   obtain ⟨vG2,vF2,vW2,vT2,fg2,ff2,fw2,ft2,F2,hh2⟩:=h2d.at'
   have hc2:w2.heap[m]? = _:=hh2.cells
   obtain ⟨ti,ui,hsv⟩:=hh2.st.iface
   obtain ⟨aV,cV,rfl,_⟩:=hv.val
   obtain ⟨bV,rfl,hfV,hcV⟩:=own_cell hv (i:=0) (by omega)
   have hcV:w2.cell? ⟨bV,0,none⟩=some (I H):=hcV
   have b6:(0:Int)≤0∧(0:Int) < ((i+1:Nat):Int):=by omega
   (try simp only [go_sem,simprocAttr,zb4,zb6,cell_of hc2,mcCells,hsv,b6,add_at,hcV])
   refine s_set (p:=H) (nd:=⟨7,0,[]⟩) (by rw [hsv];rfl) (by rfl) hh2.st hM.g.st hHin.1 rfl rfl (ints_nil _) ?_
   intro w3 F3 hst3 hg3
   have h3:=hh2.store (s:=M.st.set H.toNat ⟨7,0,[]⟩) hg3 hst3 rfl
   obtain ⟨vs3,vp3,fs3,fp3,hF3⟩:FrAt w3 (stTag (newTag τ w .no) w2.drew F3) (M.frames.length - 1) k M.top:=h3.frs _ _ _ hT.hk (top_get hT.pos)
   have hc3:w3.heap[k]? = _:=hF3.cells
   obtain ⟨aP3,cP3,rfl,hcP3,_⟩:=hF3.spine.val
   have b7:(0:Int)≤d∧(d:Int)≤cP3:=by omega
   (try simp only [go_sem,simprocAttr,zb4,zb6,cell_of hc3,frCells,e1,b7,sl_same])
   refine e_st1 (off:=4) rfl rfl hc3 rfl (by simp [frCells]) ?_
   intro w4 hb4 hm4 _
   (try simp only [go_sem,simprocAttr])
   refine e_st1 (off:=0) rfl rfl hb4 rfl (by simp [frCells]) ?_
   intro w5 hb5 hm5 _
   (try simp only [go_sem,simprocAttr])
   refine e_st1 (off:=1) rfl rfl hb5 rfl (by simp [frCells]) ?_
   intro w6 hb6 hm6 _
   (try simp only [go_sem,simprocAttr])
   refine e_st1 (off:=2) rfl rfl hb6 rfl (by simp [frCells]) ?_
   intro w7 hb7 hm7 _
   (try simp only [go_sem,simprocAttr])
   refine e_st1 (off:=3) rfl rfl hb7 rfl (by simp [frCells]) ?_
   intro w8 hb8 hm8 _
   (try simp only [go_sem,simprocAttr])
   have hm38:Mod (· = k) w3 w8:=((((Mod.of_drew hm4).trans hm5).trans hm6).trans hm7).trans hm8
   have lV:=hv.lt hfV
   have nV:newTag τ w .no bV = .no:=newTag_new (hf _ hfV)
   have tV:stTag (newTag τ w .no) w2.drew F3 bV = .no:=by rw [stTag_ext (newTag τ w .no) w2.drew F3 bV lV];exact nV
   have nVF:¬ F2 bV:=fun e=>by have:=hh2.tF _ e;rw [nV] at this;cases this
   have nVk:bV≠k:=fun e=>by have:=hF3.tk;rw [← e,tV] at this;cases this
   have hv8:OwnS w8 3 1 (.slice (some ⟨bV,0,none⟩) (i+1) cV) ((H::O.map (fun s=>(M.st.nd s).args.getD 1 0)).map I) (i+1) f:=by
     refine ((hv.mod (Mod.refl (fun _=>False) w2).drew (fun _ _ h=>h)).mod hg3.1 (fun b hb=>?_)).mod hm38 (fun b hb e=>?_)
     · rw [hfV] at hb;cases hb;exact nVF
     · rw [hfV] at hb;cases hb;exact nVk e
   have fp3k:fp3≠some k:=fun e=>by have:=hF3.tp k e;rw [hF3.tk] at this;cases this
   have hsp8:=(own_pre hF3.spine (k:=d) (by omega)).mod hm38 (fun b hb e=>by subst e;exact fp3k hb)
   rw [hcall]
   have hwx:(stTag (newTag τ w .no) w2.drew F3).wx (fun b=>if b=bV then .fs (M.frames.length - 1) else stTag (newTag τ w .no) w2.drew F3 b) w3:=by
     intro b hb hne
     by_cases hbV:b=bV
     · subst hbV;exact absurd tV hne
     · simp only [if_neg hbV]
   have hfr:=fr_both (f':={ M.top with runs:=true,glob:=(g:Int),at':=0,stack:=H::O.map (fun s=>(M.st.nd s).args.getD 1 0),spine:=M.top.spine.take d}) hF3 (vs':=.slice (some ⟨bV,0,none⟩) (i+1) cV) (fs':=f) (vp':=.slice aP3 d cP3) (w3:=w8)
     (by rw [show (H::O.map (fun s=>(M.st.nd s).args.getD 1 0)).length=i+1 by simp [hOl]];exact hv8)
     (by
       have el:(M.top.spine.take d).length=d:=by rw [List.length_take];omega
       rw [el,List.map_take]
       simpa using hsp8)
     (by simpa [frCells] using hb8) hwx (fun b hb=>by rw [hfV] at hb;cases hb;simp)
   have hfin:=h3.frame hT.hk (hm38.weak (fun b hb=>by subst hb;exact .inl hF3.tk)) hwx hfr
   refine ⟨_,fun b hb=>?_,⟨_,_,_,_,_,_,_,_,_,hfin⟩,?_⟩
   · have hbV:b≠bV:=fun e=>by subst e;have:=hf _ hfV;omega
     simp only [if_neg hbV]
     rw [stTag_ext (newTag τ w .no) w2.drew F3 b (Nat.lt_of_lt_of_le hb hm2.size),newTag_ext τ w .no b hb]
   · refine ((hm2.weak (fun _ h=>h.elim)).step (Mod.of_drew hg3.1) (fun b hb hl=>?_)).step hm38 (fun b hb hl=>?_)
     · have:=hh2.tF b hb
       rw [newTag_ext τ w .no b hl] at this
       rw [this];simp [Tg.own]
     · subst hb
       rw [hF.tk];simp [Tg.own]
end
end
section
open Go Go.W
theorem MAt.later {w w':World} {τ:Tag} {m:Nat} {S:SV} {M:Mc} {ks:List Nat} (h:MAt w τ m S M ks) (hm:Mod (fun _=>False) w w'):MAt w' (newTag τ w .no) m S M ks:=h.mod hm (newTag_ext τ w .no).wx (fun _ _ h=>h.elim)
structure Waits (w:World) (m:Nat) (S:SV) (M:Mc) (vG vF vT:Value) (fw:Option Nat) (l:List Int) (W:World):Prop where
 ex:∃ v fw',W.heap[m]? = some (.cells (mcCells S M vG vF v vT).toArray 78 (0,0))∧OwnS W 3 1 v ((M.wait++l).map I) (M.wait++l).length fw'∧∀ b,fw'=some b→fw=some b∨w.heap.size≤b
 mod:Mod (fun b=>fw=some b∨b=m) w W
theorem Waits.quiet {w:World} {m:Nat} {S:SV} {M:Mc} {vG vF vT:Value} {fw:Option Nat} {l:List Int}:Quiet w.heap.size (Waits w m S M vG vF vT fw l):=by
 rintro W W' X ⟨⟨v,fs',h1,h2,h3⟩,h4⟩ hm hs
 have hs':∀ b,X b→∃ o:Obj,W.heap[b]? = some o∧o.isCells=false:=fun b hb=>(hs b hb).2
 refine ⟨⟨v,fs',quiet_at hm hs' h1,quiet_ownS hm hs' h2,h3⟩,h4.step hm (fun b hb hl=>?_)⟩
 have:=(hs b hb).1;omega
theorem ir_blkD {P:Program} {N:Nat} {a:IR} {id:Nat} {next:List Nat→Env→World→Prop} {Q:PostD} {ρ:Env} {w:World} (Mid:Env→World→Prop) (h:irwp P N a (blkQ id (thenQ Mid (fun e ρ w=>Q e [] ρ w))) ρ w) (hk:∀ ρ w,Mid ρ w→next [] ρ w) :
   irwp P N a (blkQ id (fun e ρ w=>thenQD next Q e [] ρ w)) ρ w:=
 irwp_mono a _ _ (blkQ_le (fun e ρ w h=>by
   cases e with
   | normal=>exact hk _ _ h
   | _=>exact h)) ρ w h
theorem told_done {w:World} {τ:Tag} {m:Nat} {S:SV} {M:Mc} {vG vF vW vT:Value} {fg ff fw ft:Option Nat} {F:Nat→Prop} {ks:List Nat} (h:MIn w τ m S M vG vF vW vT fg ff fw ft F ks) (it:It) {w4:World} {v:Value} {ft':Option Nat} (hm:Mod (fun b=>ft=some b∨b=m) w w4)
   (hb:w4.heap[m]? = some (.cells (mcCells S M vG vF vW v).toArray 78 (0,0))) (ho:OwnS w4 72 2 v ((M.told++[it]).flatMap itRow) (M.told++[it]).length ft') (hf:∀ b,ft'=some b→ft=some b∨w.heap.size≤b) :
   MOp w τ m S { M with told:=M.told++[it]} ks w4:=by
 refine ⟨newTag τ w .tl,newTag_ext τ w .tl,⟨vG,vF,vW,v,fg,ff,fw,ft',F,h.tolds (newTag_ext τ w .tl).wx hm hb ho (is_new h.tt (fun b hb=>h.tl.lt hb) hf) rfl rfl rfl rfl rfl rfl rfl⟩,hm.weak ?_⟩
 rintro b (hb | rfl)
 · rw [h.tt b hb];simp [Tg.own]
 · rw [h.tm];simp [Tg.own]
section
variable {w:World} {τ:Tag} {m:Nat} {S:SV} {M:Mc} {ks:List Nat} {k:Nat} {x:Ins} {n:Int}
theorem x_tell (h:MAt w τ m S M ks) (hM:MOk n M) (he:M.ended=0) (href:M.st.kd≠.ref) (hw:M.wait.length≤4294967295) (ht:M.told.length≤4294967295) (hf:M.frames.length≤4294967295) :
   CallsR Tryz.prog 44 [ptr m] w fun _ w'=>∃ ks',MOp w τ m S M.tell ks' w':=by
 have hwp:=hM.wpos he
 have hin:=hM.wts _ (last_mem hwp)
 have hmk:=hM.g.nd hin
 have hA8:(M.st.nd M.last).args.length≤8:=by
   have:=hmk.1
   simp only [Nd.may,mayB,decide_eq_true_eq] at this
   omega
 obtain ⟨j,hj⟩:∃ j:Nat,j+1=M.wait.length:=⟨M.wait.length - 1,by omega⟩
 have hlast:M.last=M.wait.getD j 0:=by unfold Mc.last;rw [← hj];rfl
 refine fit44.calls rfl ?_
 unfold ir44
 (try simp only [go_sem,simprocAttr])
 refine e_bx rfl ?_
 intro w1 hb1 hm1 _
 have h1:=h.later hm1
 obtain ⟨vG,vF,vW,vT,fg,ff,fw,ft,F,hh⟩:=h1
 have hc:=hh.cells
 obtain ⟨aW,cW,rfl,_⟩:=hh.wt.val
 obtain ⟨bW,rfl,hfw,hcw⟩:=own_cell hh.wt (i:=j) (by omega)
 have hcw:w1.cell? ⟨bW,j,none⟩=some (I M.last):=by
   rw [hcw,hlast,List.getElem?_map,List.getElem?_eq_getElem (by omega),List.getD_eq_getElem?_getD,List.getElem?_eq_getElem (by omega)];rfl
 have e1:IntKind.i64.wrap ((M.wait.length:Int) - 1)=j:=by rw [wrap_in (by omega) (by omega)];omega
 have b1:(0:Int)≤j∧(j:Int) < M.wait.length:=by omega
 have lb1:=lt_of_heap hb1
 have lm:=hh.lt
 have lW:=hh.wt.lt hfw
 (try simp only [go_sem,simprocAttr,zb4,zb6,cell_of hb1,ptr,Value.cells,cell_of hc,mcCells,e1,b1,add_at,hcw])
 refine wpD_cut (fun ρ w'=>∃ b4 v,ρ.get 1=some (ptr w.heap.size)∧ρ.get 2=some (I j)∧ρ.get 4=some (ptr b4)∧w1.heap.size≤b4∧w'.heap[b4]? = some (.cells #[I (M.st.nd M.last).kind,I (M.st.nd M.last).num,v] 87 (0,0))∧NewOwn w1 w' v (M.st.nd M.last).args∧Mod (fun _=>False) w1 w') ?_ ?_
 · rw [wpD_e2]
   refine ⟨?_,?_⟩
   · refine e_call (by rfl) ?_
     refine (m_over ((h.later hm1).mod (Mod.refl (fun _=>False) w1).drew (ext_refl _ _).wx (fun _ _ h=>h.elim)) hM.g.st hM.g.ends hin).mono ?_
     rintro _ w2 ⟨v,rfl,hv,hm2⟩
     (try simp only [go_sem,simprocAttr])
     refine e_al ?_
     intro w3 hb3 hm3 _
     have k1:=hm3.old m (by have:=hm2.size;exact Nat.lt_of_lt_of_le lm this) (fun h=>h)
     have k2:=hm3.old w.heap.size (by have:=hm2.size;exact Nat.lt_of_lt_of_le lb1 this) (fun h=>h)
     have k3:=hm3.old bW (by have:=hm2.size;exact Nat.lt_of_lt_of_le lW this) (fun h=>h)
     (try simp only [go_sem,simprocAttr])
     refine ⟨by simp only [drew_heap,k1,k2,k3,and_self,implies_true],?_⟩
     refine e_sta (cs:=[I 0,I 0,.slice none 0 0]) rfl rfl hb3 rfl rfl (node_one hv _ _) ?_
     intro w4 hb4 hm4 hs4
     (try simp only [go_sem,simprocAttr])
     have hm2':Mod (fun _=>False) w1 w2:=Mod.of_drew hm2
     have hm24:Mod (fun _=>False) w2 w4:=hm3.step hm4 (fun x hx hl=>by subst hx;omega)
     obtain ⟨fp,hv,hf⟩:=hv
     exact ⟨w2.heap.size,v,rfl,hm2'.size,hb4,⟨fp,hv.mod hm24 (fun _ _ h=>h),hf⟩,hm2'.trans hm24⟩
   · refine e_al ?_
     intro w3 hb3 hm3 _
     have k1:=hm3.old m lm (fun h=>h)
     have k2:=hm3.old w.heap.size lb1 (fun h=>h)
     have k3:=hm3.old bW lW (fun h=>h)
     (try simp only [go_sem,simprocAttr])
     refine ⟨by simp only [drew_heap,k1,k2,k3,and_self,implies_true],?_⟩
     have hm3':Mod (fun _=>False) w1 w3:=Mod.of_drew hm3
     refine e_call (by rfl) ?_
     refine (m_over ((h.later hm1).later hm3') hM.g.st hM.g.ends hin).mono ?_
     rintro _ w2 ⟨v,rfl,hv,hm2⟩
     (try simp only [go_sem,simprocAttr])
     have hb2:=hm2.at hb3 (fun h=>h)
     refine e_sta (cs:=[I 0,I 0,.slice none 0 0]) rfl rfl hb2 rfl rfl (node_one hv _ _) ?_
     intro w4 hb4 hm4 hs4
     (try simp only [go_sem,simprocAttr])
     obtain ⟨fp,hv,hf⟩:=hv
     refine ⟨w1.heap.size,v,rfl,Nat.le_refl _,hb4,⟨fp,hv.mod hm4 (fun b hb hh=>by subst hh;have:=hf _ hb;have:=lt_of_heap hb3;have e:w1.drew.heap.size=w1.heap.size:=rfl;omega),fun b hb=>Nat.le_trans hm3'.size (hf b hb)⟩,(hm3'.trans hm2).step hm4 (fun x hx hl=>by subst hx;have e:w1.drew.heap.size=w1.heap.size:=rfl;omega)⟩
 rintro ρ w2 ⟨b4,v,r1,r2,r4,lb4,hb4,hv4,hm2⟩
 have hb12:=hm2.at hb1 (fun h=>h)
 (try simp only [go_sem,simprocAttr,r1,r2,r4,cell_of hb4])
 have hm2d:=hm2.drew
 have h2:MAt w2.drew (newTag (newTag τ w .no) w1 .no) m S M ks:=(h.later hm1).later hm2d
 obtain ⟨vG2,vF2,vW2,vT2,fg2,ff2,fw2,ft2,F2,hh2⟩:=h2
 have hc2:w2.heap[m]? = _:=hh2.cells
 have lm2:=hh2.lt
 have lb2:=lt_of_heap hb12
 have lb42:=lt_of_heap hb4
 have no1:∀ b,w1.heap.size≤b→newTag (newTag τ w .no) w1 .no b = .no:=fun b hb=>newTag_new hb
 have noB:newTag (newTag τ w .no) w1 .no w.heap.size = .no:=by
   rw [newTag_ext _ w1 .no _ lb1];exact newTag_new (Nat.le_refl _)
 have bT:ft2≠some w.heap.size:=fun e=>by have:=hh2.tt _ e;rw [noB] at this;cases this
 have mT:ft2≠some m:=fun e=>by have:=hh2.tt _ e;rw [hh2.tm] at this;cases this
 have bF:ff2≠some w.heap.size:=fun e=>by have:=hh2.tf _ e;rw [noB] at this;cases this
 have mF:ff2≠some m:=fun e=>by have:=hh2.tf _ e;rw [hh2.tm] at this;cases this
 generalize hA:M.st.nd M.last=A at *
 refine ir_blkD (fun ρ w'=>ρ.get 1=some (ptr w.heap.size)∧ρ.get 2=some (I j)∧ρ.get 4=some (ptr b4)∧(A.kind=1∨A.kind=2)∧MOp w2.drew (newTag (newTag τ w .no) w1 .no) m S { M with told:=M.told++[M.item A]} ks w') ?_ ?_
 · refine ir_cond rfl (fun hk=>?_) (fun hk=>?_)
   · simp only [zb1,zb2,zb3,zb4,zb5] at hk
     obtain ⟨aT,cT,rfl,_⟩:=hh2.tl.val
     (try simp only [go_sem,simprocAttr,zb4,zb6,cell_of hb12,ptr,Value.cells,cell_of hc2,mcCells,cell_of hb4])
     refine e_bs (by rfl) (by rfl) ?_
     intro w3 hb3 hm3 _
     have k1:=hm3.old m lm2 (fun h=>h)
     have k2:=hm3.old w.heap.size lb2 (fun h=>h)
     have k3:=hm3.old b4 lb42 (fun h=>h)
     (try simp only [go_sem,simprocAttr])
     refine ⟨by simp only [drew_heap,k1,k2,k3,and_self,implies_true],?_⟩
     refine e_ap (m:=1) (news:=[.string ⟨#[]⟩,I A.num]) rfl (hh2.tl.mod hm3 (fun _ _ h=>h)) rfl (fun h=>by cases h) (rd_block (xs:=[.string ⟨#[]⟩,I A.num]) hb3) (by simp [Value.oneCell']) rfl (by omega) (by omega) ?_
     intro v4 w4 ft4 ho4 hm4 hf4
     have k4:=hm4.old w.heap.size (by have:=hm3.size;exact Nat.lt_of_lt_of_le lb2 this) bT
     have hc4:=hm4.at (hm3.at hc2 (fun h=>h)) mT
     obtain ⟨va,vc,rfl,_⟩:=ho4.val
     (try simp only [go_sem,simprocAttr])
     refine ⟨by simp only [drew_heap,k4,and_self,implies_true],?_⟩
     refine e_st1 (off:=13) rfl rfl hc4 rfl (by simp [mcCells]) ?_
     intro w5 hb5 hm5 hs5
     (try simp only [go_sem,simprocAttr])
     have hI:M.item A=⟨⟨#[]⟩,A.num⟩:=by unfold Mc.item;rw [if_pos hk]
     refine ⟨.inl hk,?_⟩
     refine told_done hh2 (M.item A) (((hm3.weak (fun _ h=>h.elim)).step hm4 (fun b hb _=>.inl hb)).step hm5 (fun b hb _=>.inr hb)) (by simpa [mcCells] using hb5) ?_ (fun b hb=>(hf4 b hb).imp id (fun hh=>by have:=hm3.size;omega))
     rw [hI]
     have:=ho4.mod hm5 (fun b hb e=>by
       subst e
       rcases hf4 b hb with h3 | h3
       · exact mT h3
       · have:=hm3.size;have e2:b < w2.drew.heap.size:=lm2;omega)
     simpa [itRow] using this
   simp only [zb1,zb2,zb3,zb4,zb5] at hk
   (try simp only [go_sem,simprocAttr])
   refine ir_cond rfl (fun hk2=>?_) (fun hk2=>?_)
   · simp only [zb1,zb2,zb3,zb4,zb5] at hk2
     have hsh:=hmk.2.2.2 hk2
     have h0n:0≤A.num:=((may_kind hmk.1).2.1 hk2).2
     obtain ⟨q,hq⟩:∃ q:Nat,A.num=q:=⟨A.num.toNat,by omega⟩
     obtain ⟨ad,c,hvsh,hnm,_⟩:=shape_at hh2.tab (i:=q) (by omega)
     have b2:(0:Int)≤q∧(q:Int) < M.tab.shapes.length:=by omega
     have hnm:w2.cell? (ad.add (q*2))=some (.string (M.tab.sh q).name):=hnm
     obtain ⟨aT,cT,rfl,_⟩:=hh2.tl.val
     rw [hq] at hb4
     (try simp only [go_sem,simprocAttr,zb4,zb6,cell_of hb12,ptr,Value.cells,cell_of hc2,mcCells,cell_of hb4,hvsh,b2,hnm])
     refine e_bs (by rfl) (by rfl) ?_
     intro w3 hb3 hm3 _
     have k1:=hm3.old m lm2 (fun h=>h)
     have k2:=hm3.old w.heap.size lb2 (fun h=>h)
     (try simp only [go_sem,simprocAttr])
     refine ⟨by simp only [drew_heap,k1,k2,and_self,implies_true],?_⟩
     refine e_ap (m:=1) (news:=[.string (M.tab.sh q).name,I 0]) rfl (hh2.tl.mod hm3 (fun _ _ h=>h)) rfl (fun h=>by cases h) (rd_block (xs:=[.string (M.tab.sh q).name,I 0]) hb3) (by simp [Value.oneCell']) rfl (by omega) (by omega) ?_
     intro v4 w4 ft4 ho4 hm4 hf4
     have k4:=hm4.old w.heap.size (by have:=hm3.size;exact Nat.lt_of_lt_of_le lb2 this) bT
     have hc4:=hm4.at (hm3.at hc2 (fun h=>h)) mT
     obtain ⟨va,vc,rfl,_⟩:=ho4.val
     (try simp only [go_sem,simprocAttr])
     refine ⟨by simp only [drew_heap,k4,and_self,implies_true],?_⟩
     refine e_st1 (off:=13) rfl rfl hc4 rfl (by simp [mcCells]) ?_
     intro w5 hb5 hm5 hs5
     (try simp only [go_sem,simprocAttr])
     have hI:M.item A=⟨(M.tab.sh q).name,0⟩:=by unfold Mc.item;rw [if_neg hk,hq]
     refine ⟨.inr hk2,?_⟩
     refine told_done hh2 (M.item A) (((hm3.weak (fun _ h=>h.elim)).step hm4 (fun b hb _=>.inl hb)).step hm5 (fun b hb _=>.inr hb)) (by simpa [mcCells] using hb5) ?_ (fun b hb=>(hf4 b hb).imp id (fun hh=>by have:=hm3.size;omega))
     rw [hI]
     have:=ho4.mod hm5 (fun b hb e=>by
       subst e
       rcases hf4 b hb with h3 | h3
       · exact mT h3
       · have:=hm3.size;have e2:b < w2.drew.heap.size:=lm2;omega)
     simpa [itRow] using this
   · simp only [zb1,zb2,zb3,zb4,zb5] at hk2
     obtain ⟨aF,cF,rfl,_⟩:=hh2.fr.val
     obtain ⟨aW2,cW2,rfl,_⟩:=hh2.wt.val
     obtain ⟨bW2,rfl,hfw2,hcw2⟩:=own_cell hh2.wt (i:=j) (by omega)
     have hcw2:w2.cell? ⟨bW2,j,none⟩=some (I M.last):=by
       have e:w2.cell? ⟨bW2,j,none⟩=(M.wait.map I)[j]?:=hcw2
       rw [e,hlast,List.getElem?_map,List.getElem?_eq_getElem (by omega),List.getD_eq_getElem?_getD,List.getElem?_eq_getElem (by omega)];rfl
     have hl:=hh2.len
     (try simp only [go_sem,simprocAttr,zb4,zb6,cell_of hb12,ptr,Value.cells,cell_of hc2,mcCells,b1,add_at,hcw2])
     refine e_bx rfl ?_
     intro w3 hb3 hm3 _
     have k1:=hm3.old m lm2 (fun h=>h)
     have k2:=hm3.old w.heap.size lb2 (fun h=>h)
     (try simp only [go_sem,simprocAttr])
     refine ⟨by simp only [drew_heap,k1,k2,and_self,implies_true],?_⟩
     refine e_bs (by rfl) (by rfl) ?_
     intro w4 hb4' hm4 _
     have k3:=hm4.old m (by have:=hm3.size;exact Nat.lt_of_lt_of_le lm2 this) (fun h=>h)
     have k4:=hm4.old w.heap.size (by have:=hm3.size;exact Nat.lt_of_lt_of_le lb2 this) (fun h=>h)
     (try simp only [go_sem,simprocAttr])
     refine ⟨by simp only [drew_heap,k3,k4,and_self,implies_true],?_⟩
     have hm24:Mod (fun _=>False) w2.drew w4:=hm3.trans hm4
     refine e_ap (m:=1) (news:=[ptr w2.drew.heap.size]) rfl (hh2.fr.mod hm24 (fun _ _ h=>h)) rfl (fun h=>by cases h) (rd_block (xs:=[ptr w2.drew.heap.size]) hb4') (by simp [Value.oneCell',ptr]) rfl (by omega) (by omega) ?_
     intro v6 w6 ff6 ho6 hm6 hf6
     obtain ⟨a6,c6,rfl,_⟩:=ho6.val
     have hc4:=hm24.at hc2 (fun h=>h)
     have hc6:=hm6.at hc4 mF
     have k6:=hm6.old w.heap.size (by have:=hm24.size;exact Nat.lt_of_lt_of_le lb2 this) bF
     (try simp only [go_sem,simprocAttr])
     refine ⟨by simp only [drew_heap,k6,and_self,implies_true],?_⟩
     refine e_st1 (off:=10) rfl rfl hc6 rfl (by simp [mcCells]) ?_
     intro w7 hb7 hm7 hs7
     (try simp only [go_sem,simprocAttr])
     have hmx:Mod (fun b=>ff2=some b∨b=m) w2.drew w7:=((hm24.weak (fun _ h=>h.elim)).step hm6 (fun b hb _=>.inl hb)).step hm7 (fun b hb _=>.inr hb)
     have hk4:w7.heap[w2.drew.heap.size]? = some (.cells (frCells (newFr M.last) (.slice none 0 0) (.slice none 0 0)).toArray 106 (0,0)):=by
       have q1:=hm4.at hb3 (fun h=>h)
       have q2:=hm6.at q1 (fun e=>own_kind (hh2.fr.mod hm24 (fun _ _ h=>h)) e q1 (by decide))
       exact hm7.at q2 (fun e=>by have e2:m < w2.drew.heap.size:=lm2;omega)
     have hop:=enter_done hh2 M.last (k':=w2.drew.heap.size) (Nat.le_refl _) hk4 hmx (by simpa [mcCells,Mc.enter] using hb7) (by
       have:=ho6.mod hm7 (fun b hb e=>by
         subst e
         rcases hf6 b hb with h3 | h3
         · exact mF h3
         · have:=hm24.size;have e2:b < w2.drew.heap.size:=lm2;omega)
       simpa using this) (fun b hb=>(hf6 b hb).imp id (fun h3=>by have:=hm24.size;omega))
     refine fin_none (.inr rfl) (fun w' hm=>⟨_,rfl,?_⟩)
     have e:M.tell=M.enter M.last:=by
       unfold Mc.tell
       rw [hA,if_neg (by omega)]
       unfold Mc.nv
       rw [if_neg (by unfold Mc.ref;split<;>simp_all)]
     rw [e]
     exact ⟨_,MOp.boxed hm1 (MOp.boxed hm2d (hop.after hm))⟩
 · rintro ρ w5 ⟨r1,r2,r4,hk12,hop⟩
   obtain ⟨Mt,hMt⟩:∃ Mt:Mc,Mt = { M with told:=M.told++[M.item A]}:=⟨_,rfl⟩
   rw [← hMt] at hop
   have hwt:Mt.wait=M.wait:=by rw [hMt]
   have htell:M.tell = { Mt with wait:=M.wait.take j++A.args.reverse,ended:=if (M.wait.take j++A.args.reverse).length=0 then 2 else Mt.ended}:=by
     unfold Mc.tell
     rw [hA,if_pos hk12,hMt,show M.wait.length - 1=j by omega]
   obtain ⟨τ5,j1,hM5,j2⟩:=hop
   have hb15:w5.heap[w.heap.size]? = _:=j2.at (b:=w.heap.size) hb12 (fun hh=>hh.1 noB)
   have hb45:w5.heap[b4]? = _:=j2.at (b:=b4) hb4 (fun hh=>hh.1 (no1 _ lb4))
   have t5:∀ b,b < w2.heap.size→τ5 b=newTag (newTag τ w .no) w1 .no b:=fun b hb=>j1 b hb
   have no5B:τ5 w.heap.size = .no:=by rw [t5 _ lb2];exact noB
   have no54:τ5 b4 = .no:=by rw [t5 _ lb42];exact no1 _ lb4
   have hM5d:=hM5.mod (Mod.refl (fun _=>False) w5).drew (ext_refl _ _).wx (fun _ _ h=>h.elim)
   obtain ⟨vG5,vF5,vW5,vT5,fg5,ff5,fw5,ft5,F5,hh5⟩:=hM5d
   have hc5:w5.heap[m]? = _:=hh5.cells
   have hwt5:=hh5.wt
   rw [hwt] at hwt5
   obtain ⟨aW5,cW5,rfl,hcW5,_⟩:=hwt5.val
   have e2:(0:Int)≤j∧(j:Int)≤cW5:=by omega
   (try simp only [go_sem,simprocAttr,zb4,zb6,r1,r2,r4,cell_of hb15,ptr,Value.cells,cell_of hc5,mcCells,e2,sl_same])
   refine e_st1 (off:=11) rfl rfl hc5 rfl (by simp [mcCells]) ?_
   intro w6 hb6 hm6 hs6
   have lm5:=lt_of_heap hc5
   have mW5:fw5≠some m:=fun e=>by have:=hh5.tw _ e;rw [hh5.tm] at this;cases this
   have h6:=hh5.waits (M':={ Mt with wait:=M.wait.take j}) (l:=M.wait.take j) (v:=.slice aW5 j cW5) (ext_refl τ5 w5.drew).wx (hm6.weak (fun b hb=>.inr hb)) (by simpa [mcCells] using hb6) (by
     have:=(own_pre hwt5 (k:=j) (by omega)).mod hm6 (fun b hb hh=>by subst hh;exact mW5 hb)
     have el:(M.wait.take j).length=j:=by rw [List.length_take];omega
     rw [el,List.map_take]
     simpa using this) hh5.tw rfl rfl rfl rfl rfl rfl rfl
   have hb16:=hm6.at (b:=w.heap.size) hb15 (fun e=>by have:=hh5.tm;rw [← e,no5B] at this;cases this)
   have hb46:=hm6.at (b:=b4) hb45 (fun e=>by have:=hh5.tm;rw [← e,no54] at this;cases this)
   obtain ⟨fpA,hvA,hfA⟩:=hv4
   have hvA2:=hvA.mod (Mod.refl (fun _=>False) w2).drew (fun _ _ h=>h)
   have hvA5:=hvA2.mod j2 (fun b hb hh=>hh.1 (no1 _ (hfA b hb)))
   have noA:∀ b,fpA=some b→τ5 b = .no:=fun b hb=>by rw [t5 _ (hvA.lt hb)];exact no1 _ (hfA b hb)
   have hvA6:=hvA5.mod hm6.of_drew (fun b hb e=>by have:=hh5.tm;rw [← e,noA b hb] at this;cases this)
   obtain ⟨va,vc,rfl,_⟩:=hvA6.val
   (try simp only [go_sem,simprocAttr,cell_of hb46])
   refine e_call (by rfl) ?_
   refine (f_back w6 _).mono ?_
   rintro _ w7 ⟨rfl,⟨T7,fz7,hb7⟩,hm7⟩
   have h7:=h6.mod hm7 (newTag_ext τ5 w6 .no).wx (fun _ _ h=>h.elim)
   have hc7:=h7.cells
   have hvA7:=hvA6.mod hm7 (fun _ _ h=>h)
   obtain ⟨bA,hbA1,hbA2,hbA3⟩:=back_own hvA7 (lt_of_heap hb7)
   have s67:=hm7.size
   have t7:∀ b,b < w6.heap.size→newTag τ5 w6 .no b=τ5 b:=fun b hb=>newTag_ext τ5 w6 .no b hb
   have fsB:∀ b,(newTag τ5 w6 .no) b = .no→b≠m∧fw5≠some b:=fun b hb=>⟨(fun e=>by subst e;rw [h7.tm] at hb;cases hb),(fun e=>by rw [h7.tw b e] at hb;cases hb)⟩
   have nB:=fsB w6.heap.size (newTag_new (Nat.le_refl _))
   have nA:bA≠m∧fw5≠some bA:=by
     rcases hbA2 with e | e
     · rw [e];exact nB
     · exact fsB bA (by rw [t7 _ (hvA6.lt e)];exact noA _ e)
   have n1:w.heap.size≠m∧fw5≠some w.heap.size:=fsB _ (by rw [t7 _ (lt_of_heap hb16)];exact no5B)
   have hb17:=hm7.at hb16 (fun h=>h)
   have lm7:=lt_of_heap hc7
   have lB7:=lt_of_heap hb7
   have l17:=lt_of_heap hb17
   refine ⟨2,A.args.length,129,#[ptr w6.heap.size],(fun j=>I (A.args.getD j 0)),KeepB w6.heap.size bA,(fun pre W=>Waits w7 m S { Mt with wait:=M.wait.take j} vG5 vF5 vT5 fw5 (pre.map (fun j=>A.args.getD j 0)) W),⟨rfl,(fun _ _=>rfl),?_,⟨rfl,rfl⟩,by omega,?_,?_,⟨⟨⟨.slice aW5 j cW5,fw5,?_,?_,fun b hb=>.inl hb⟩,Mod.refl _ _⟩,fun s=>Waits.quiet,?_⟩⟩,?_⟩
   · refine backints_stops Fence.wide 1 trivial rfl (by omega) w6.heap.size bA A.args.length (.slice va A.args.length vc) (fun j=>I (A.args.getD j 0)) w7 (by simpa [Value.cells] using cell_of hb7 (o:=0)) (lt_of_heap hb7) hbA3 (by omega)
   · intro A B C a b;exact ⟨b.1.trans a.1,b.2.trans a.2⟩
   · intro W l o o' hl ho hoc _
     have hl1:l≠w6.heap.size:=fun e=>by omega
     have hl2:l≠bA:=fun e=>by omega
     exact ⟨World.putObj_heap_other (fun e=>hl1 e.symm),World.putObj_heap_other (fun e=>hl2 e.symm)⟩
   · exact hc7
   · simpa using h7.wt
   · rintro pre jj W ⟨⟨v,fs',p1,p2,p3⟩,p4⟩ hpl hjl
     have p1':W.heap[m]? = _:=p1
     have p4d:=p4.drew
     have nfs':∀ b,b < w7.heap.size→fw5≠some b→fs'≠some b:=fun b hb hn e=>by
       rcases p3 b e with h1 | h1
       · exact hn h1
       · omega
     have hb1W:W.heap[w.heap.size]? = _:=p4.at hb17 (fun h=>by rcases h with h | h;exact n1.2 h;exact n1.1 h)
     obtain ⟨av,cv',rfl,_⟩:=p2.val
     have sW:=p4.size
     unfold ir44B1
     (try simp only [go_sem,simprocAttr,cell_of hb1W,ptr,Value.cells,cell_of p1',mcCells])
     refine e_bs (by rfl) (by rfl) ?_
     intro W1 hB1 hM1 _
     have q1:=hM1.old m (Nat.lt_of_lt_of_le lm7 sW) (fun h=>h)
     have q2:=hM1.old w.heap.size (Nat.lt_of_lt_of_le l17 sW) (fun h=>h)
     (try simp only [go_sem,simprocAttr])
     refine ⟨by simp only [drew_heap,q1,q2,and_self,implies_true],?_⟩
     refine e_ap (m:=1) (news:=[I (A.args.getD jj 0)]) rfl ((p2.mod (Mod.refl (fun _=>False) W).drew (fun _ _ h=>h)).mod hM1 (fun _ _ h=>h)) rfl (fun h=>by cases h) (rd_block (xs:=[I (A.args.getD jj 0)]) hB1) (oneI [A.args.getD jj 0]) rfl (by simp only [List.length_append,List.length_map,List.length_take];omega) (by simp only [List.length_append,List.length_map,List.length_take];omega) ?_
     intro v2 W2 fs2 hO2 hM2 hF2
     obtain ⟨a2,c2,rfl,_⟩:=hO2.val
     have fsm:fs'≠some m:=fun e=>own_kind p2 e p1 (by decide)
     have q4:=hM2.old w.heap.size (by have:=hM1.size;exact Nat.lt_of_lt_of_le (Nat.lt_of_lt_of_le l17 sW) this) (nfs' _ l17 n1.2)
     have hC2:=hM2.at (hM1.at p1' (fun h=>h)) fsm
     (try simp only [go_sem,simprocAttr])
     refine ⟨by simp only [drew_heap,q4,and_self,implies_true],?_⟩
     refine e_st1 (off:=11) rfl rfl hC2 rfl (by simp [mcCells]) ?_
     intro W3 hB3 hM3 _
     (try simp only [go_sem,simprocAttr])
     have hX:Mod (fun b=>fs'=some b∨b=m) W W3:=(((hM1.of_drew).weak (fun _ h=>h.elim)).step hM2 (fun b hb _=>.inl hb)).step hM3 (fun b hb _=>.inr hb)
     refine ⟨keeps_of_mod hX (fun b hb o ho=>?_),keepB_of_mod hX (by omega) (by omega) (fun hh=>?_) (fun hh=>?_),⟨.slice a2 _ c2,fs2,by simpa [mcCells] using hB3,?_,fun b hb=>?_⟩,p4.step hX (fun b hb hl=>?_)⟩
     · rcases hb with hb | rfl
       · exact quiet_own_cells p2 hb ho
       · rw [p1] at ho;cases ho;rfl
     · rcases hh with hh | hh
       · exact nfs' _ (lt_of_heap hb7) nB.2 hh
       · exact nB.1 hh
     · rcases hh with hh | hh
       · exact nfs' _ hbA1 nA.2 hh
       · exact nA.1 hh
     · have:=hO2.mod hM3 (fun b hb e=>by
         subst e
         rcases hF2 b hb with h3 | h3
         · exact fsm h3
         · have:=hM1.size;have e2:W.drew.heap.size=W.heap.size:=rfl;omega)
       simpa [Nat.add_assoc] using this
     · rcases hF2 b hb with h1 | h1
       · exact p3 b h1
       · have:=hM1.size;have e2:W.drew.heap.size=W.heap.size:=rfl
         right;omega
     · rcases hb with hb | hb
       · rcases p3 b hb with h1 | h1
         · exact .inl h1
         · omega
       · exact .inr hb
   · intro D W hD hI hDd
     obtain ⟨⟨v,fs',p1,p2,p3⟩,p4⟩:=hI
     rw [downto_rev] at p2
     have p2:OwnS W 3 1 v ((M.wait.take j++A.args.reverse).map I) (M.wait.take j++A.args.reverse).length fs':=p2
     generalize hll:M.wait.take j++A.args.reverse=ll at p2 htell
     have hb1W:=p4.at hb17 (fun h=>by rcases h with h | h;exact n1.2 h;exact n1.1 h)
     obtain ⟨av,cv',rfl,_⟩:=p2.val
     have lDm:D≠m:=fun e=>by subst e;rw [p1] at hDd;cases hDd
     have sW:=p4.size
     have fsm:fs'≠some m:=fun e=>own_kind p2 e p1 (by decide)
     have fsD:fs'≠some D:=fun e=>by have:=quiet_own_cells p2 e hDd;cases this
     have fin:∀ (W1 w':World),W1.heap[m]? = some (.cells (mcCells S M.tell vG5 vF5 (.slice av ll.length cv') vT5).toArray 78 (0,0))→Mod (· = m) W W1→Mod (· = D) W1 w'→MOp w τ m S M.tell ks w':=by
       intro W1 w' hc1 hmm hmD
       have hm7':Mod (fun b=>fw5=some b∨b=m) w7 w':=(p4.step hmm (fun b hb _=>.inr hb)).step hmD (fun b hb hl=>by omega)
       have ho:OwnS w' 3 1 (.slice av ll.length cv') (ll.map I) ll.length fs':=(p2.mod hmm (fun b hb e=>by subst e;exact fsm hb)).mod hmD (fun b hb e=>by subst e;exact fsD hb)
       have hX:=h7.waits (M':=M.tell) (l:=ll) (newTag_ext _ w7 .wt).wx hm7' (hmD.at hc1 (fun e=>lDm e.symm)) ho (is_new h7.tw (fun b hb=>h7.wt.lt hb) p3) (by rw [htell]) (by rw [htell]) (by rw [htell]) (by rw [htell]) (by rw [htell]) (by rw [htell]) (by rw [htell])
       have hop7:MOp w7 (newTag τ5 w6 .no) m S M.tell ks w':=⟨_,newTag_ext _ w7 .wt,⟨_,_,_,_,_,_,_,_,_,hX⟩,hm7'.weak (fun b hb=>by
         rcases hb with hb | rfl
         · rw [h7.tw b hb];simp [Tg.own]
         · rw [h7.tm];simp [Tg.own])⟩
       refine MOp.boxed hm1 (MOp.boxed hm2d (MOp.cat j1 (j2.step hm6.of_drew (fun b hb hl=>?_)) (MOp.boxed hm7 hop7)))
       subst hb
       rw [hh2.tm];simp [Tg.own]
     have hzl:((ll.length:Int) == 0)=decide (ll.length=0):=by
       by_cases h0:ll.length=0
       · simp [h0]
       · simp [h0]
     (try simp only [go_sem,simprocAttr])
     (try simp only [go_sem,simprocAttr,cell_of hb1W,ptr,Value.cells,cell_of p1,mcCells,hzl])
     refine ir_cond rfl (fun hz=>?_) (fun hz=>?_)
     · simp only [zb1,zb2,zb3,zb4,zb5] at hz
       rw [if_pos hz] at htell
       (try simp only [go_sem,simprocAttr,cell_of hb1W,ptr,Value.cells])
       refine e_st1 (off:=15) rfl rfl p1 rfl (by simp [mcCells]) ?_
       intro W1 hB1 hM1 _
       (try simp only [go_sem,simprocAttr])
       exact fin_one (.inl rfl) (hM1.at hDd (fun e=>lDm e)) (fun w' hm=>⟨_,rfl,_,fin W1 w' (by rw [htell];simpa [mcCells] using hB1) hM1 hm⟩)
     · simp only [zb1,zb2,zb3,zb4,zb5] at hz
       rw [if_neg hz] at htell
       (try simp only [go_sem,simprocAttr])
       exact fin_one (.inl rfl) hDd (fun w' hm=>⟨_,rfl,_,fin W w' (by rw [htell];exact p1) (Mod.refl _ _) hm⟩)
end
end
section
open Go Go.W
theorem m_add' {w:World} {τ:Tag} {m:Nat} {S:SV} {M:Mc} {ks:List Nat} {vG vF vW vT:Value} {fg ff fw ft:Option Nat} {F:Nat→Prop} (h:MIn w τ m S M vG vF vW vT fg ff fw ft F ks) (ho:M.st.Ok) {nd:Nd} {v:Value} (hm:nd.may=true) (hp:okPl M.st.ns.length nd.args=true) (hv:Ints w v nd.args) (hr:(M.st.ns.length:Int) < M.st.size) :
   CallsR Tryz.prog 72 [ptr m,I nd.kind,I nd.num,v] w fun r w'=>r=I M.st.ns.length∧∃ F',MIn w' (stTag τ w F') m S { M with st:=M.st.add nd} vG vF vW vT fg ff fw ft F' ks∧Mod F w w':=by
 have hc:=h.cells
 obtain ⟨a,c,rfl,hvl,hvx⟩:=hv
 refine fit72.calls rfl ?_
 unfold ir72 ptr
 (try simp only [go_sem,simprocAttr,cell_of hc,mcCells])
 refine s_add (nd:=nd) (v:=.slice a nd.args.length c) rfl rfl h.st ho hm hp ⟨a,c,rfl,hvl,hvx⟩ ?_ (fun e=>by omega)
 intro _ w1 F1 hs1 hg1
 (try simp only [go_sem,simprocAttr])
 exact ⟨F1,h.store (s:=M.st.add nd) hg1 hs1 rfl,hg1.1⟩
theorem MIn.ownF {w:World} {τ:Tag} {m:Nat} {S:SV} {M:Mc} {ks:List Nat} {vG vF vW vT:Value} {fg ff fw ft:Option Nat} {F:Nat→Prop} (h:MIn w τ m S M vG vF vW vT fg ff fw ft F ks):∀ b,F b→(τ b).own:=fun b hb=>by rw [h.tF b hb];simp [Tg.own]
theorem MOp.of_drew {w w':World} {τ:Tag} {m:Nat} {S:SV} {M':Mc} {ks:List Nat} (h:MOp w.drew τ m S M' ks w'):MOp w τ m S M' ks w':=by
 obtain ⟨τ',h1,h2,h3⟩:=h
 exact ⟨τ',h1,h2,Mod.of_drew h3⟩
theorem frm_own {t:Tg} {i:Nat} (h:t.frm i):t.own:=by rcases h with h | h | h<;>rw [h]<;>simp [Tg.own]
section
variable {w:World} {τ:Tag} {m:Nat} {S:SV} {M:Mc} {ks:List Nat} {k:Nat} {x:Ins} {n:Int}
theorem x_lacks (hT:TopAt w τ m S M ks k) (hM:MOk n M) (he:M.ended=0) (href:M.st.kd≠.ref) (hfl:M.frames.length≤4294967295) (hwl:M.wait.length≤4294967295) (hR:M.roots.length≤17592186044416) :
   CallsR Tryz.prog 99 [ptr m,ptr k] w fun _ w'=>∃ ks',MOp w τ m S M.lacks ks' w':=by
 obtain ⟨vG,vF,vW,vT,fg,ff,fw,ft,F,hh⟩:=id hT.at'
 have hc:=hh.cells
 have hl:=hh.len
 have hp:=hT.pos
 obtain ⟨aF,cF,rfl,_⟩:=hh.fr.val
 obtain ⟨aT,cT,rfl,_⟩:=hh.tl.val
 have hRn:M.roots≠[]:=fun e=>by
   have:=stands_root (M:=M) hp
   rw [e] at this;cases this
 refine fit99.calls rfl ?_
 unfold ir99
 (try simp only [go_sem,simprocAttr,cell_of hc,mcCells,ptr])
 refine ir_cond rfl (fun hf=>?_) (fun hf=>?_)
 · have hf:M.frames.length > 1:=by
     simp only [zb1,zb2,zb3,zb4,zb5] at hf
     omega
   (try simp only [go_sem,simprocAttr])
   refine e_call (by rfl) ?_
   refine (m_leave hT.at' hp (by omega)).mono ?_
   intro _ w1 hop
   (try simp only [go_sem,simprocAttr])
   unfold Mc.lacks
   rw [if_pos hf]
   exact ⟨_,hop⟩
 have hf:¬ M.frames.length > 1:=by
   simp only [zb1,zb2,zb3,zb4,zb5] at hf
   omega
 unfold Mc.lacks
 rw [if_neg hf]
 (try simp only [go_sem,simprocAttr,cell_of hc,mcCells])
 refine wpS_cut (fun ρ w'=>w=w'∧ρ.get 0=some (ptr m)∧ρ.get 1=some (ptr k)∧ρ.get 15=some (.bool (decide (M.given=true∨M.told.length > 0)))) ?_ ?_
 · cases hg:M.given<;>cases ht:decide (((M.told.length:Nat):Int) > 0)<;>(try simp only [go_sem,simprocAttr,cell_of hc,mcCells,hg,ht])<;>(simp only [zb1,zb2,zb3,zb4,zb5] at ht;simp [hg,ht];try first | omega | exact List.eq_nil_of_length_eq_zero (by omega))
 rintro ρ _ ⟨rfl,r0,r1,r15⟩
 (try simp only [go_sem,simprocAttr,r0,r1,r15])
 refine ir_cond rfl (fun hg=>?_) (fun hg=>?_)
 · simp only [zb1,zb2,zb3,zb4,zb5] at hg
   rw [if_pos hg]
   (try simp only [go_sem,simprocAttr])
   refine e_call (by rfl) ?_
   refine (m_fail hT.at' 5).mono ?_
   intro _ w1 hop
   (try simp only [go_sem,simprocAttr])
   exact ⟨_,hop⟩
 simp only [zb1,zb2,zb3,zb4,zb5] at hg
 rw [if_neg hg]
 (try simp only [go_sem,simprocAttr])
 refine e_call (by rfl) ?_
 refine (m_room hT.at' hM.g.st href (n:=2) ⟨by omega,by omega⟩ hM.base hM.young hR hRn).mono ?_
 rintro _ w1 ⟨rfl,hop⟩
 (try simp only [go_sem,simprocAttr])
 refine ir_cond rfl (fun hr=>?_) (fun hr=>?_)
 · rw [if_pos hr]
   obtain ⟨k1,k2⟩:=hM.room (by omega) hr
   obtain ⟨e1,e2,e3,e5,e6,_,g,e4⟩:=room_keeps M 2 hr
   have hwp:0 < (M.room 2).2.wait.length:=by rw [e2];exact hM.wpos he
   generalize (M.room 2).2=M1 at *
   obtain ⟨τ1,j1,j2,hT1⟩:=hop.top e1 hp hT.hk
   obtain ⟨vG1,vF1,vW1,vT1,fg1,ff1,fw1,ft1,F1,h1⟩:=id hT1.at'
   have hc1:=h1.cells
   (try simp only [go_sem,simprocAttr])
   refine e_st1 (off:=12) rfl rfl hc1 rfl (by simp [mcCells]) ?_
   intro w2 hb2 hm2 _
   obtain ⟨M2,hM2⟩:∃ M2:Mc,M2 = { M1 with given:=true}:=⟨_,rfl⟩
   have u1:M2.wait=M1.wait:=by rw [hM2]
   have u2:M2.st=M1.st:=by rw [hM2]
   have u3:M2.frames=M1.frames:=by rw [hM2]
   have u4:M2.last=M1.last:=by rw [hM2];rfl
   have h2:=h1.scal (M':=M2) hm2 (by rw [hM2];simpa [mcCells] using hb2) (by rw [hM2]) u3 u1 (by rw [hM2]) u2 (by rw [hM2]) (by rw [hM2])
   have hc2:=h2.cells
   obtain ⟨j,hj⟩:∃ j:Nat,j+1=M2.wait.length:=⟨M2.wait.length - 1,by rw [u1];omega⟩
   have hwl2:M2.wait.length≤4294967295:=by rw [u1];omega
   obtain ⟨aW,cW,hvW,_⟩:=h2.wt.val
   have q1:IntKind.i64.wrap ((M2.wait.length:Int) - 1)=j:=by rw [wrap_in (by omega) (by omega)];omega
   have hroom:(M2.st.ns.length:Int)+2≤M2.st.size:=by rw [u2];exact k2
   have hok2:M2.st.Ok:=by rw [u2];exact k1.g.st
   (try simp only [go_sem,simprocAttr,cell_of hc2,mcCells,hvW,q1])
   refine e_call (by rfl) ?_
   refine (m_add' (nd:=⟨8,0,[]⟩) h2 hok2 rfl rfl (ints_nil _) (by omega)).mono ?_
   rintro _ w3 ⟨rfl,F3,h3,hm3⟩
   have hc3:=h3.cells
   obtain ⟨bW,hbW,hfw,hcellW⟩:=own_cell (hvW ▸ h3.wt) (i:=j) (by show j < M2.wait.length;omega)
   have hcellW:w3.cell? ⟨bW,j,none⟩=some (I M2.last):=by
     rw [hcellW]
     show (M2.wait.map I)[j]? = _
     unfold Mc.last
     rw [List.getElem?_map,List.getElem?_eq_getElem (by omega),List.getD_eq_getElem?_getD,show M2.wait.length - 1=j by omega,List.getElem?_eq_getElem (by omega)];rfl
   subst hbW
   have b1:(0:Int)≤j∧(j:Int) < M2.wait.length:=by omega
   have hc3':w3.heap[m]? = some (.cells (mcCells S { M2 with st:=M2.st.add ⟨8,0,[]⟩} vG1 vF1 vW1 vT1).toArray 78 (0,0)):=hc3
   (try simp only [go_sem,simprocAttr,zb4,zb6,cell_of hc3',mcCells,hvW,b1,add_at,hcellW])
   obtain ⟨M3,hM3⟩:∃ M3:Mc,M3 = { M2 with st:=M2.st.add ⟨8,0,[]⟩}:=⟨_,rfl⟩
   rw [← hM3] at h3
   have s3:M3.st=M2.st.add ⟨8,0,[]⟩:=by rw [hM3]
   have s3l:M3.st.ns.length=M2.st.ns.length+1:=by rw [s3,len_add]
   have s3z:M3.st.size=M2.st.size:=by rw [s3];rfl
   have s3w:M3.wait=M2.wait:=by rw [hM3]
   have g3:GOk M1.tab M3.st:=by rw [s3,u2];exact k1.g.add' (nd:=⟨8,0,[]⟩) rfl (by decide) (fun a ha=>by cases ha) (by omega)
   have lin:M2.st.In M2.last:=by rw [u2,u4];exact k1.wts _ (last_mem hwp)
   have h3d:=h3.mod (Mod.refl (fun _=>False) w3).drew (ext_refl _ _).wx (fun _ _ h=>h.elim)
   refine e_bs (by rfl) (by rfl) ?_
   intro w4 hb4 hm4 _
   have l3:m < w3.drew.heap.size:=lt_of_heap hc3'
   have km4:=hm4.old m l3 (fun h=>h)
   (try simp only [go_sem,simprocAttr])
   refine ⟨km4,?_⟩
   have h4:=h3d.mod hm4 (newTag_ext _ w3.drew .no).wx (fun _ _ h=>h.elim)
   refine e_call (by rfl) ?_
   refine (m_add' (nd:=⟨3,0,[M2.last,M2.st.ns.length]⟩) h4 g3.st rfl (okPl_of (fun a ha=>?_)) (ints_blk (xs:=[M2.last,(M2.st.ns.length:Int)]) hb4 (by simp)) (by omega)).mono ?_
   · simp only [List.mem_cons,List.not_mem_nil,or_false] at ha
     rcases ha with rfl | rfl
     · have:=lin.2;exact ⟨lin.1,by omega⟩
     · omega
   rintro _ w5 ⟨rfl,F5,h5,hm5⟩
   have km5:=hm5.old m (by have:=hm4.size;omega) (fun e=>by have:=h4.tF m e;rw [h4.tm] at this;cases this)
   (try simp only [go_sem,simprocAttr])
   refine ⟨km5,?_⟩
   obtain ⟨M4,hM4⟩:∃ M4:Mc,M4 = { M3 with st:=M3.st.add ⟨3,0,[M2.last,M2.st.ns.length]⟩}:=⟨_,rfl⟩
   rw [← hM4] at h5
   have s4w:M4.wait=M2.wait:=by rw [hM4];exact s3w
   have hwt5:=h5.wt
   rw [s4w,hvW] at hwt5
   obtain ⟨b',c',cs,e',hfw',hb',hcs,_,hset⟩:=own_set hwt5 (i:=j) (by omega)
   cases e'
   refine e_st1 (off:=j) rfl rfl hb' rfl hcs ?_
   intro w6 hb6 hm6 _
   have hW6:=hset w6 _ hb6
   have hwm:bW≠m:=fun e=>by have:=h5.tw _ hfw';rw [e,h5.tm] at this;cases this
   have h6:=h5.waits (M':={ M4 with wait:=M2.wait.set j (M3.st.ns.length:Int)}) (l:=M2.wait.set j (M3.st.ns.length:Int)) (v:=vW1) (ext_refl _ w5).wx (hm6.weak (fun b hb=>by subst hb;exact .inl hfw')) (by rw [hvW] at h5 ⊢;exact hm6.at h5.cells (fun e=>hwm e.symm))
     (by rw [hvW,List.length_set];exact hW6) h5.tw rfl rfl rfl rfl rfl rfl rfl
   obtain ⟨M6,hM6⟩:∃ M6:Mc,M6 = { M4 with wait:=M2.wait.set j (M3.st.ns.length:Int)}:=⟨_,rfl⟩
   rw [← hM6] at h6
   have hc6:=h6.cells
   have hw6:M6.wait=M2.wait.set j (M3.st.ns.length:Int):=by rw [hM6]
   have hf6:M6.frames=M1.frames:=by rw [hM6,hM4,hM3,hM2]
   have ht6:M6.top=M1.top:=by unfold Mc.top;rw [hf6]
   have hwt6:=h6.wt
   rw [hvW,hw6,List.length_set] at hwt6
   obtain ⟨bW6,e6,_,hcell6⟩:=own_cell hwt6 (i:=j) (by omega)
   cases e6
   have hcell6:w6.cell? ⟨bW,j,none⟩=some (I M3.st.ns.length):=by
     rw [hcell6,List.getElem?_map,List.getElem?_set_self (by omega)];rfl
   obtain ⟨vs6,vp6,fs6,fp6,hF6⟩:FrAt w6 _ (M1.frames.length - 1) k M1.top:=h6.frs _ _ _ hT1.hk (by rw [hf6];exact top_get hT1.pos)
   have hcf6:=hF6.cells
   (try simp only [go_sem,simprocAttr,zb4,zb6,cell_of hc6,mcCells,hvW,b1,add_at,hcell6,cell_of hcf6,frCells])
   refine e_st1 (off:=5) rfl rfl hcf6 rfl (by simp [frCells]) ?_
   intro w7 hb7 hm7 _
   (try simp only [go_sem,simprocAttr])
   refine e_st1 (off:=4) rfl rfl hb7 rfl (by simp [frCells]) ?_
   intro w8 hb8 hm8 _
   (try simp only [go_sem,simprocAttr])
   obtain ⟨τ8,r1,r2,r3⟩:=fr_spine (f':={ M1.top with stands:=(M3.st.ns.length:Int),spine:=[]}) hF6 (OwnS.nil w6 3 1) rfl (by simpa [frCells] using hb8) (Mod.refl _ w6) (hm7.trans hm8) (fun b hb=>by cases hb)
   have hfin:=h6.frame hT1.hk r3 r1.wx r2
   have hl2:M1.lacks2 = { M6 with frames:=M6.frames.set (M1.frames.length - 1) { M1.top with stands:=(M3.st.ns.length:Int),spine:=[]}}:=by
     unfold Mc.lacks2
     rw [hM6,hM4,s3,u4,u2,show M1.wait.length - 1=j by rw [← u1];omega,hM3,hM2]
     simp [Mc.setTop,len_add]
   rw [hl2]
   have k6:MOp w6 _ m S _ ks w8:=⟨τ8,r1,⟨_,_,_,_,_,_,_,_,_,hfin⟩,r3.weak (fun b hb=>frm_own hb)⟩
   have k5:=MOp.cat (ext_refl _ w5) (hm6.weak (fun b hb=>by subst hb;rw [h5.tw _ hfw'];simp [Tg.own])) k6
   have k4:=MOp.cat (stTag_ext _ w4 F5) (hm5.weak h4.ownF) k5
   have k3:=(MOp.boxed hm4 k4).of_drew
   have k2':=MOp.cat (stTag_ext _ w2 F3) (hm3.weak h2.ownF) k3
   have k1':=MOp.cat (ext_refl _ w1) (hm2.weak (fun b hb=>by subst hb;rw [h1.tm];simp [Tg.own])) k2'
   exact ⟨_,MOp.cat j1 j2 k1'⟩
 · rw [if_neg (by simpa using hr)]
   (try simp only [go_sem,simprocAttr])
   exact ⟨_,hop⟩
end
end
section
open Go Go.W
section
variable {w:World} {τ:Tag} {m:Nat} {S:SV} {M:Mc} {ks:List Nat} {k:Nat} {x:Ins} {n:Int}
theorem x_read (hT:TopAt w τ m S M ks k) (hM:MOk n M) (href:M.st.kd≠.ref) (h8:(M.st.nd M.top.stands).kind=8) (hR:M.roots.length≤17592186044416) :
   CallsR Tryz.prog 101 [ptr m,ptr k,I (M.st.nd M.top.stands).num] w fun _ w'=>MOp w τ m S (M.read M.top (M.st.nd M.top.stands).num) ks w':=by
 have hp:=hT.pos
 have hG:=hM.topG hp
 have hnd:=hM.g.nd hG.sd
 have hnum:=((may_kind hnd.1).2.2.2.2.1 h8).2
 obtain ⟨vG,vF,vW,vT,fg,ff,fw,ft,F,hh⟩:=id hT.at'
 obtain ⟨vs,vp,fs,fp,hF⟩:=hT.fr
 have hc:=hh.cells
 have hcf:=hF.cells
 have hinp:=hh.inp
 obtain ⟨aI,cI,hvI,hIl,_⟩:=id hinp
 have hRn:M.roots≠[]:=fun e=>by
   have:=stands_root (M:=M) hp
   rw [e] at this;cases this
 obtain ⟨q,hq⟩:∃ q:Nat,(M.st.nd M.top.stands).num=q:=⟨(M.st.nd M.top.stands).num.toNat,by omega⟩
 rw [hq]
 refine fit101.calls rfl ?_
 unfold ir101
 (try simp only [go_sem,simprocAttr,cell_of hc,mcCells,hvI,ptr])
 refine ir_cond rfl (fun hk=>?_) (fun hk=>?_)
 · simp only [zb1,zb2,zb3,zb4,zb5] at hk
   have hk:(q:Int)≥M.input.length:=hk
   unfold Mc.read
   rw [if_pos hk]
   (try simp only [go_sem,simprocAttr,cell_of hcf,frCells])
   refine e_call (by rfl) ?_
   refine (m_over hT.at' hM.g.st hM.g.ends hG.sd).mono ?_
   rintro _ w1 ⟨v1,rfl,hv1,hm1⟩
   (try simp only [go_sem,simprocAttr])
   refine e_al ?_
   intro w2 hb2 hm2 _
   refine e_sta (cs:=[I 0,I 0,.slice none 0 0]) rfl rfl hb2 rfl rfl (node_one hv1 _ _) ?_
   intro w3 hb3 hm3 _
   have s1:=hm1.size
   have hm03:Mod (fun _=>False) w w3:=(hm1.trans hm2).step hm3 (fun x hx hl=>by subst hx;omega)
   have h3:=hh.mod hm03 (newTag_ext τ w .no).wx (fun _ _ h=>h.elim)
   have hc3:=h3.cells
   obtain ⟨ti,ui,hsv⟩:=h3.st.iface
   (try simp only [go_sem,simprocAttr,cell_of hc3,mcCells])
   refine s_set (p:=(M.st.ov M.top.stands:Int)) (nd:=⟨2,3,[]⟩) (by rfl) (by rfl) h3.st hM.g.st ⟨by omega,by have:=hM.g.ov hG.sd;omega⟩ rfl rfl (ints_nil _) ?_
   intro w4 F4 hst4 hg4
   (try simp only [go_sem,simprocAttr])
   rw [Int.toNat_natCast] at hst4
   have h4:=h3.store (s:=M.st.set (M.st.ov M.top.stands) ⟨2,3,[]⟩) hg4 hst4 rfl
   exact MOp.boxed hm03 ⟨_,stTag_ext _ w3 F4,⟨_,_,_,_,_,_,_,_,_,h4⟩,hg4.1.weak h3.ownF⟩
 simp only [zb1,zb2,zb3,zb4,zb5] at hk
 have hk:¬ (q:Int)≥M.input.length:=hk
 unfold Mc.read
 rw [if_neg hk]
 (try simp only [go_sem,simprocAttr])
 refine e_call (by rfl) ?_
 refine (m_room hT.at' hM.g.st href (n:=2) ⟨by omega,by omega⟩ hM.base hM.young hR hRn).mono ?_
 rintro _ w1 ⟨rfl,hop⟩
 (try simp only [go_sem,simprocAttr])
 refine ir_cond rfl (fun hr=>?_) (fun hr=>?_)
 · rw [if_pos hr]
   obtain ⟨k1,k2⟩:=hM.room (by omega) hr
   obtain ⟨e1,e2,e3,e5,e6,_,g,e4⟩:=room_keeps M 2 hr
   have h8':((M.room 2).2.st.nd (M.room 2).2.top.stands).kind=8:=by rw [hM.room_kind hp (by omega) hr];exact h8
   generalize (M.room 2).2=M1 at *
   obtain ⟨τ1,j1,j2,hT1⟩:=hop.top e1 hp hT.hk
   obtain ⟨vs1,vp1,fs1,fp1,hF1⟩:=hT1.fr
   have hcf1:=hF1.cells
   have hG1:=k1.topG hT1.pos
   have hqi:q < M1.input.length:=by rw [e6];omega
   have hnumq:isNum (M1.input.getD q 0):=k1.inp _ (getD_mem hqi)
   have o1:(⟨1,M1.input.getD q 0,[]⟩:Nd).may=true:=may_int hnumq
   have o2:(⟨8,(q:Int)+1,[]⟩:Nd).may=true:=by simp [Nd.may,mayB];omega
   have g1:=k1.g.add' (nd:=⟨1,M1.input.getD q 0,[]⟩) o1 (by simp) (fun a ha=>by cases ha) (by omega)
   have g2:=g1.add' (nd:=⟨8,(q:Int)+1,[]⟩) o2 (by simp) (fun a ha=>by cases ha) (by rw [len_add];show ((M1.st.ns.length+1:Nat):Int) < M1.st.size;omega)
   (try simp only [go_sem,simprocAttr,cell_of hcf1,frCells])
   refine e_call (by rfl) ?_
   refine (m_over hT1.at' k1.g.st k1.g.ends hG1.sd).mono ?_
   rintro _ w2 ⟨v1,rfl,hv1,hm2⟩
   (try simp only [go_sem,simprocAttr])
   refine e_al ?_
   intro w3 hb3 hm3 _
   refine e_sta (cs:=[I 0,I 0,.slice none 0 0]) rfl rfl hb3 rfl rfl (node_one hv1 _ _) ?_
   intro w4 hb4 hm4 _
   have s1:=hm2.size
   have hm14:Mod (fun _=>False) w1 w4:=(hm2.trans hm3).step hm4 (fun x hx hl=>by subst hx;omega)
   have hT4:=hT1.later hm14
   obtain ⟨vG4,vF4,vW4,vT4,fg4,ff4,fw4,ft4,F4,h4⟩:=id hT4.at'
   have hc4:=h4.cells
   obtain ⟨aI',cI',e',hIl',hcI⟩:=id h4.inp
   obtain ⟨ad,rfl,hcI⟩:=hcI q hqi
   have hcI:w4.cell? (ad.add q)=some (I (M1.input.getD q 0)):=by rw [show M1.input.getD q 0=M1.input[q] by rw [List.getD_eq_getElem?_getD,List.getElem?_eq_getElem hqi];rfl];assumption
   have b1:(0:Int)≤q∧(q:Int) < M1.input.length:=by omega
   (try simp only [go_sem,simprocAttr,zb4,zb6,cell_of hc4,mcCells,e',b1,hcI])
   refine e_call (by rfl) ?_
   refine (m_add' (nd:=⟨1,M1.input.getD q 0,[]⟩) h4 k1.g.st o1 rfl (ints_nil _) (by omega)).mono ?_
   rintro _ w5 ⟨rfl,F5,h5,hm5⟩
   have eq1:IntKind.i64.wrap ((q:Int)+1)=(q:Int)+1:=wrap_in (by omega) (by omega)
   (try simp only [go_sem,simprocAttr,eq1])
   refine e_call (by rfl) ?_
   refine (m_add' (nd:=⟨8,(q:Int)+1,[]⟩) h5 g1.st o2 rfl (ints_nil _) (by show ((M1.st.add _).ns.length:Int) < M1.st.size;rw [len_add];omega)).mono ?_
   rintro _ w6 ⟨rfl,F6,h6,hm6⟩
   have hc6:=h6.cells
   (try simp only [go_sem,simprocAttr,cell_of hc6,mcCells])
   refine e_bs (by rfl) (by rfl) ?_
   intro w7 hb7 hm7 _
   have h7:=h6.mod hm7 (newTag_ext _ w6 .no).wx (fun _ _ h=>h.elim)
   have el:(((M1.st.add ⟨1,M1.input.getD q 0,[]⟩).ns.length:Nat):Int)=(M1.st.ns.length:Int)+1:=by rw [len_add];rfl
   rw [el] at hb7 ⊢
   refine ⟨_,rfl,?_⟩
   have hov:=k1.g.ov hG1.sd
   refine s_set (p:=(M1.st.ov M1.top.stands:Int)) (nd:=⟨2,4,[(M1.st.ns.length:Int),(M1.st.ns.length:Int)+1]⟩) (v:=.slice (some ⟨w6.heap.size,0,none⟩) 2 2) (by rfl) (by rfl) h7.st g2.st ⟨by omega,?_⟩ rfl (okPl_of (fun a ha=>?_)) (ints_blk (xs:=[(M1.st.ns.length:Int),(M1.st.ns.length:Int)+1]) hb7 (by simp)) ?_
   · show (M1.st.ov M1.top.stands:Int) < (((M1.st.add ⟨1,M1.input.getD q 0,[]⟩).add ⟨8,(q:Int)+1,[]⟩).ns.length:Int)
     rw [len_add,len_add];omega
   · show 0≤a∧a < (((M1.st.add ⟨1,M1.input.getD q 0,[]⟩).add ⟨8,(q:Int)+1,[]⟩).ns.length:Int)
     rw [len_add,len_add]
     simp only [List.mem_cons,List.not_mem_nil,or_false] at ha
     rcases ha with rfl | rfl<;>omega
   intro w8 F8 hst8 hg8
   (try simp only [go_sem,simprocAttr])
   rw [Int.toNat_natCast] at hst8
   have h8f:=h7.store (s:=M1.st.add ⟨1,M1.input.getD q 0,[]⟩ |>.add ⟨8,(q:Int)+1,[]⟩ |>.set (M1.st.ov M1.top.stands) ⟨2,4,[(M1.st.ns.length:Int),(M1.st.ns.length:Int)+1]⟩) hg8 hst8 rfl
   have e2:M1.read2 (q:Int) = { M1 with st:=M1.st.add ⟨1,M1.input.getD q 0,[]⟩ |>.add ⟨8,(q:Int)+1,[]⟩ |>.set (M1.st.ov M1.top.stands) ⟨2,4,[(M1.st.ns.length:Int),(M1.st.ns.length:Int)+1]⟩}:=rfl
   rw [e2]
   have t7:MOp w7 _ m S _ ks w8:=⟨_,stTag_ext _ w7 F8,⟨_,_,_,_,_,_,_,_,_,h8f⟩,hg8.1.weak h7.ownF⟩
   have t6:=MOp.boxed hm7 t7
   have t5:=MOp.cat (stTag_ext _ w5 F6) (hm6.weak h5.ownF) t6
   have t4:=MOp.cat (stTag_ext _ w4 F5) (hm5.weak h4.ownF) t5
   exact MOp.cat j1 j2 (MOp.boxed hm14 t4)
 · rw [if_neg (by simpa using hr)]
   (try simp only [go_sem,simprocAttr])
   exact hop
end
end
section
open Go Go.W
section
variable {w:World} {τ:Tag} {m:Nat} {S:SV} {M:Mc} {ks:List Nat} {k:Nat} {x:Ins} {n:Int}
theorem x_unwind (hT:TopAt w τ m S M ks k) (hM:MOk n M) (he:M.ended=0) (href:M.st.kd≠.ref) (hfl:M.frames.length≤4294967295) (hwl:M.wait.length≤4294967295) (hsl:M.top.spine.length≤4294967294) (hR:M.roots.length≤17592186044416) :
   CallsR Tryz.prog 46 [ptr m,ptr k] w fun _ w'=>∃ ks',MOp w τ m S (M.unwind M.top) ks' w':=by
 have hp:=hT.pos
 have hG:=hM.topG hp
 have hnd:=hM.g.nd hG.sd
 have hmk:=may_kind hnd.1
 obtain ⟨vs,vp,fs,fp,hF⟩:=hT.fr
 have hcf:=hF.cells
 refine fit46.calls rfl ?_
 unfold ir46
 (try simp only [go_sem,simprocAttr,cell_of hcf,frCells,ptr])
 refine e_call (by rfl) ?_
 refine (m_over hT.at' hM.g.st hM.g.ends hG.sd).mono ?_
 rintro _ w1 ⟨v1,rfl,hv1,hm1⟩
 (try simp only [go_sem,simprocAttr])
 refine e_al ?_
 intro w2 hb2 hm2 _
 refine e_sta (cs:=[I 0,I 0,.slice none 0 0]) rfl rfl hb2 rfl rfl (node_one hv1 _ _) ?_
 intro w3 hb3 hm3 _
 have s1:=hm1.size
 have hm13:Mod (fun _=>False) w1 w3:=hm2.step hm3 (fun x hx hl=>by subst hx;omega)
 have hm03:Mod (fun _=>False) w w3:=hm1.trans hm13
 have hT3:=hT.later hm03
 obtain ⟨vs3,vp3,fs3,fp3,hF3⟩:=hT3.fr
 have hcf3:=hF3.cells
 obtain ⟨vG,vF,vW,vT,fg,ff,fw,ft,F,hh⟩:=id hT3.at'
 have hc:=hh.cells
 have lift:∀ {M':Mc} {f:Nat} {vs:List Value},CallsR Tryz.prog f vs w3 (fun _ w'=>MOp w3 (newTag τ w .no) m S M' ks w')→CallsR Tryz.prog f vs w3 (fun _ w'=>∃ ks',MOp w τ m S M' ks' w'):=fun hh=>hh.mono (fun _ _ h=>⟨_,MOp.boxed hm03 h⟩)
 have lift2:∀ {M':Mc} {f:Nat} {vs:List Value},CallsR Tryz.prog f vs w3 (fun _ w'=>∃ ks',MOp w3 (newTag τ w .no) m S M' ks' w')→CallsR Tryz.prog f vs w3 (fun _ w'=>∃ ks',MOp w τ m S M' ks' w'):=fun hh=>hh.mono (fun _ _ ⟨a,h⟩=>⟨a,MOp.boxed hm03 h⟩)
 obtain ⟨fpA,hvA,hfA⟩:=hv1
 obtain ⟨va,vc,rfl,_⟩:=hvA.val
 have hb3':=hb3
 unfold Mc.unwind
 (try simp only [go_sem,simprocAttr,cell_of hb3])
 refine ir_cond rfl (fun hk=>?_) (fun hk=>?_)
 · simp only [zb1,zb2,zb3,zb4,zb5] at hk
   rw [if_pos hk]
   obtain ⟨aP,cP,rfl,hcP,_⟩:=hF3.spine.val
   (try simp only [go_sem,simprocAttr,cell_of hcf3,frCells])
   refine e_bs (by rfl) (by rfl) ?_
   intro w4 hb4 hm4 _
   (try simp only [go_sem,simprocAttr])
   refine e_ap (m:=1) (news:=[I (M.st.ov M.top.stands)]) rfl (hF3.spine.mod hm4 (fun _ _ h=>h)) rfl (fun h=>by cases h) (rd_block (xs:=[I (M.st.ov M.top.stands)]) hb4) (oneI [(M.st.ov M.top.stands:Int)]) rfl (by omega) (by omega) ?_
   intro v5 w5 fp5 ho5 hm5 hf5
   obtain ⟨a1,a2,a3⟩:=fr_apart hF3
   have hc5:=hm5.at (hm4.at hcf3 (fun h=>h)) (fun e=>a2 e)
   obtain ⟨av5,cv5,rfl,_⟩:=ho5.val
   (try simp only [go_sem,simprocAttr])
   refine e_st1 (off:=4) rfl rfl hc5 rfl (by simp [frCells]) ?_
   intro w6 hb6 hm6 _
   have l3:k < w3.heap.size:=hF3.lt.1
   have hN3:newTag τ w .no w1.heap.size = .no:=newTag_new (by omega)
   have nk:w1.heap.size≠k:=fun e=>by have:=hF3.tk;rw [← e,hN3] at this;cases this
   have nfp:fp3≠some w1.heap.size:=fun e=>by have:=hF3.tp _ e;rw [hN3] at this;cases this
   have hb36:=hm6.at (hm5.at (hm4.at hb3 (fun h=>h)) (fun e=>nfp e)) (fun e=>nk e)
   have ha2:=hmk.2.2.1 hk
   have hvA3:=hvA.mod hm13 (fun _ _ h=>h)
   have hvA6:OwnS w6 3 1 _ _ _ _:=((hvA3.mod hm4 (fun _ _ h=>h)).mod hm5 (fun b hb e=>by
     have:=hF3.tp _ e;rw [newTag_new (hfA b hb)] at this;cases this)).mod hm6 (fun b hb e=>by
     have:=hF3.tk;rw [← e,newTag_new (hfA b hb)] at this;cases this)
   rw [ha2] at hvA6
   obtain ⟨bA,rfl,_,hcA⟩:=own_cell hvA6 (i:=0) (by omega)
   have hcA:w6.cell? ⟨bA,0,none⟩=some (I ((M.st.nd M.top.stands).args.getD 0 0)):=by
     rw [hcA,List.getElem?_map,List.getElem?_eq_getElem (by omega),List.getD_eq_getElem?_getD,List.getElem?_eq_getElem (by omega)];rfl
   have b1:(0:Int)≤0∧(0:Int) < ((M.st.nd M.top.stands).args.length:Int):=by omega
   (try simp only [go_sem,simprocAttr,zb4,zb6,cell_of hb36,b1,add_at,hcA])
   refine e_st1 (off:=5) rfl rfl hb6 rfl (by simp [frCells]) ?_
   intro w7 hb7 hm7 _
   (try simp only [go_sem,simprocAttr])
   refine ⟨_,MOp.boxed hm03 (hT3.frm (fr_spine (f':={ M.top with spine:=M.top.spine++[(M.st.ov M.top.stands:Int)],stands:=(M.st.nd M.top.stands).args.getD 0 0}) hF3 (w2:=w5) (by simpa using ho5) rfl (by simpa [frCells] using hb7) ((hm4.weak (fun _ h=>h.elim)).step hm5 (fun b hb _=>hb)) (hm6.trans hm7) (fun b hb=>(hf5 b hb).imp id (fun hh=>by have:=hm4.size;omega))))⟩
 simp only [zb1,zb2,zb3,zb4,zb5] at hk
 rw [if_neg hk]
 (try simp only [go_sem,simprocAttr])
 refine ir_cond rfl (fun hk2=>?_) (fun hk2=>?_)
 · simp only [zb1,zb2,zb3,zb4,zb5] at hk2
   rw [if_pos hk2]
   have hgl:=hnd.2.2.1 hk2
   have hg0:=(hmk.2.2.2.1 hk2).2
   obtain ⟨g,hg⟩:∃ g:Nat,(M.st.nd M.top.stands).num=g:=⟨(M.st.nd M.top.stands).num.toNat,by omega⟩
   obtain ⟨ad,c,cv,hvgl,B1,_,hari,_,_⟩:=glob_at hh.tab (i:=g) (by omega)
   have hari:w3.cell? ⟨(ad.add (g*3)).block,(ad.add (g*3)).off+1,none⟩=some (I (M.tab.gl g).arity):=hari
   have b1:(0:Int)≤g∧(g:Int) < M.tab.globals.length:=by omega
   obtain ⟨aP,cP,rfl,hcP,_⟩:=hF3.spine.val
   have hb3g:=hb3
   rw [hg] at hb3g
   (try simp only [go_sem,simprocAttr,zb4,zb6,cell_of hcf3,frCells,cell_of hc,mcCells,cell_of hb3g,hvgl,b1,hari])
   have hb3d:w3.drew.heap[w1.heap.size]? = _:=hb3g
   have hT3d:TopAt w3.drew (newTag τ w .no) m S M ks k:=hT3.mod (Mod.refl (fun _=>False) w3).drew (ext_refl _ _).wx (fun _ _ h=>h.elim)
   refine ir_cond rfl (fun har=>?_) (fun har=>?_)
   · simp only [zb1,zb2,zb3,zb4,zb5] at har
     rw [hg,if_pos har]
     (try simp only [go_sem,simprocAttr,cell_of hb3g])
     refine e_call (by rfl) ?_
     have:=x_call hT3d hM he hk2 href (by omega) (by rw [hg];exact har)
     rw [hg] at this
     refine this.mono ?_
     intro _ w4 hop
     (try simp only [go_sem,simprocAttr])
     exact ⟨_,MOp.boxed hm03 hop.of_drew⟩
   · simp only [zb1,zb2,zb3,zb4,zb5] at har
     rw [hg,if_neg har]
     (try simp only [go_sem,simprocAttr])
     refine e_call (by rfl) ?_
     refine (x_lacks hT3d hM he href hfl hwl hR).mono ?_
     rintro _ w4 ⟨ks',hop⟩
     (try simp only [go_sem,simprocAttr])
     exact ⟨_,MOp.boxed hm03 hop.of_drew⟩
 simp only [zb1,zb2,zb3,zb4,zb5] at hk2
 rw [if_neg hk2]
 (try simp only [go_sem,simprocAttr])
 refine ir_then (fun ρ w'=>w3=w'∧ρ.get 0=some (ptr m)∧ρ.get 1=some (ptr k)∧ρ.get 5=some (ptr w1.heap.size)∧ρ.get 16=some (I (M.st.nd M.top.stands).kind)∧ρ.get 65=some (.bool (decide ((M.st.nd M.top.stands).kind=1∨(M.st.nd M.top.stands).kind=2)))) ?_ ?_
 · refine ir_cond rfl (fun h1=>?_) (fun h1=>?_)
   · simp only [zb1,zb2,zb3,zb4,zb5] at h1
     (try simp only [go_sem,simprocAttr])
     simp [h1]
   · simp only [zb1,zb2,zb3,zb4,zb5] at h1
     (try simp only [go_sem,simprocAttr])
     by_cases h2':(M.st.nd M.top.stands).kind=2<;>simp [h1,h2']
 rintro ρ _ ⟨rfl,r0,r1,r5,r16,r65⟩
 refine ir_cond (show O.ev ρ (.t 65)=_ from r65) (fun h12=>?_) (fun h12=>?_)
 · simp only [zb1,zb2,zb3,zb4,zb5] at h12
   rw [if_pos h12]
   obtain ⟨aP,cP,rfl,hcP,_⟩:=hF3.spine.val
   (try simp only [go_sem,simprocAttr,r0,r1,r5,r16,cell_of hcf3,frCells])
   refine ir_cond rfl (fun hz=>?_) (fun hz=>?_)
   · simp only [zb1,zb2,zb3,zb4,zb5] at hz
     rw [if_pos (by omega)]
     (try simp only [go_sem,simprocAttr])
     refine e_call (by rfl) ?_
     refine (lift (m_fail hT3.at' 5)).mono ?_
     intro _ w4 hop
     (try simp only [go_sem,simprocAttr])
     exact hop
   · simp only [zb1,zb2,zb3,zb4,zb5] at hz
     rw [if_neg (by omega)]
     (try simp only [go_sem,simprocAttr])
     refine e_call (by rfl) ?_
     refine (lift2 ((m_leave hT3.at' hp (by omega)).mono (fun _ _ h=>⟨_,h⟩))).mono ?_
     intro _ w4 hop
     (try simp only [go_sem,simprocAttr])
     exact hop
 simp only [zb1,zb2,zb3,zb4,zb5] at h12
 rw [if_neg h12]
 (try simp only [go_sem,simprocAttr,r0,r1,r5,r16])
 refine ir_cond rfl (fun h8=>?_) (fun h8=>?_)
 · simp only [zb1,zb2,zb3,zb4,zb5] at h8
   rw [if_pos h8]
   (try simp only [go_sem,simprocAttr,r0,r1,r5,r16,cell_of hb3])
   refine e_call (by rfl) ?_
   refine (lift (x_read hT3 hM href h8 hR)).mono ?_
   intro _ w4 hop
   (try simp only [go_sem,simprocAttr])
   exact hop
 simp only [zb1,zb2,zb3,zb4,zb5] at h8
 rw [if_neg h8]
 (try simp only [go_sem,simprocAttr])
 refine ir_cond rfl (fun h6=>?_) (fun h6=>?_)
 · simp only [zb1,zb2,zb3,zb4,zb5] at h6
   rw [if_pos h6]
   (try simp only [go_sem,simprocAttr])
   refine e_call (by rfl) ?_
   refine (lift (m_fail hT3.at' 5)).mono ?_
   intro _ w4 hop
   (try simp only [go_sem,simprocAttr])
   exact hop
 · simp only [zb1,zb2,zb3,zb4,zb5] at h6
   rw [if_neg h6]
   (try simp only [go_sem,simprocAttr])
   refine e_call (by rfl) ?_
   refine (lift (m_fail hT3.at' 4)).mono ?_
   intro _ w4 hop
   (try simp only [go_sem,simprocAttr])
   exact hop
end
end
section
open Go Go.W
def stepR (M:Mc):Int×Int:=if M.ended≠0 then (0,221) else (M.step.ended,0)
theorem stCol_ren (s:St) (hr:s.kd≠.ref) (roots:List Int):(stCol s roots).1=roots.map (colRen s roots):=by
 obtain ⟨kd,sz,ns⟩:=s
 cases kd with
 | ref=>exact absurd rfl hr
 | hp t=>rfl
 | gn y o t=>rfl
section
variable {w:World} {τ:Tag} {m:Nat} {S:SV} {M:Mc} {ks:List Nat} {k:Nat} {x:Ins} {n:Int}
theorem m_step (h:MAt w τ m S M ks) (hM:MOk n M) (hn:n < 1000000) (href:M.st.kd≠.ref) (hs:0≤M.steps∧M.steps≤1000000) (hg:0 < M.globals.length) :
   CallsR Tryz.prog 24 [ptr m] w fun r w'=>r = .tuple #[I (stepR M).1,I (stepR M).2]∧∃ ks',MOp w τ m S M.step ks' w':=by
 have hR:=hM.roots_le (by omega)
 have hln:=hM.ln
 have hlf:=hM.lf
 have hlw:=hM.lw
 have hlt:=hM.lt
 obtain ⟨vG,vF,vW,vT,fg,ff,fw,ft,F,hh⟩:=id h
 have hc:=hh.cells
 have hkl:=hh.len
 obtain ⟨aF,cF,rfl,_⟩:=hh.fr.val
 refine fit24.calls rfl ?_
 unfold ir24
 (try simp only [go_sem,simprocAttr,cell_of hc,mcCells,ptr])
 refine ir_cond rfl (fun he=>?_) (fun he=>?_)
 · simp only [zb1,zb2,zb3,zb4,zb5] at he
   have e1:stepR M=(0,221):=by unfold stepR;rw [if_pos he]
   have e2:M.step=M:=by unfold Mc.step;rw [if_pos he]
   rw [e1,e2]
   (try simp only [go_sem,simprocAttr])
   exact ⟨ks,τ,ext_refl _ _,h,Mod.refl _ _⟩
 simp only [zb1,zb2,zb3,zb4,zb5] at he
 have he:M.ended=0:=he
 have e1:stepR M=(M.step.ended,0):=by unfold stepR;rw [if_neg (by simp [he])]
 rw [e1]
 (try simp only [go_sem,simprocAttr,cell_of hc,mcCells])
 refine ir_blk (fun ρ w'=>ρ.get 0=some (ptr m)∧∃ ks',MOp w τ m S M.work ks' w') ?_ ?_
 · refine ir_cond rfl (fun hf=>?_) (fun hf=>?_)
   · simp only [zb1,zb2,zb3,zb4,zb5] at hf
     have hf:M.frames.length=0:=by omega
     (try simp only [go_sem,simprocAttr])
     refine e_call (by rfl) ?_
     refine (x_tell h hM he href (by omega) (by omega) (by omega)).mono ?_
     rintro _ w1 ⟨ks',hop⟩
     (try simp only [go_sem,simprocAttr])
     have e:M.work=M.tell:=by unfold Mc.work;rw [if_pos hf]
     rw [e]
     exact ⟨ks',hop⟩
   simp only [zb1,zb2,zb3,zb4,zb5] at hf
   have hf:0 < M.frames.length:=by omega
   obtain ⟨k,hk⟩:∃ k,ks[M.frames.length - 1]? = some k:=⟨_,List.getElem?_eq_getElem (by omega)⟩
   have hT:TopAt w τ m S M ks k:=⟨h,hf,hk⟩
   obtain ⟨vs,vp,fs,fp,hF⟩:=hT.fr
   have hcf:=hF.cells
   obtain ⟨bF,rfl,hff,hcellF⟩:=own_cell hh.fr (i:=M.frames.length - 1) (by omega)
   have hcellF:w.cell? ⟨bF,M.frames.length - 1,none⟩=some (ptr k):=by rw [hcellF,List.getElem?_map,hk];rfl
   obtain ⟨j,hj⟩:∃ j:Nat,j+1=ks.length:=⟨ks.length - 1,by omega⟩
   rw [show M.frames.length - 1=j by omega] at hcellF
   have q1:IntKind.i64.wrap ((ks.length:Int) - 1)=j:=by rw [wrap_in (by omega) (by omega)];omega
   have b1:(0:Int)≤j∧(j:Int) < ks.length:=by omega
   have hcd:w.drew.heap[m]? = _:=hc
   have hTd:TopAt w.drew τ m S M ks k:=hT.mod (Mod.refl (fun _=>False) w).drew (ext_refl _ _).wx (fun _ _ h=>h.elim)
   have hTdd:TopAt w.drew.drew τ m S M ks k:=hTd.mod (Mod.refl (fun _=>False) w.drew).drew (ext_refl _ _).wx (fun _ _ h=>h.elim)
   (try simp only [go_sem,simprocAttr,zb4,zb6,cell_of hc,mcCells,q1,b1,add_at,hcellF,ptr,cell_of hcf,frCells])
   refine ir_cond rfl (fun hr=>?_) (fun hr=>?_)
   · (try simp only [go_sem,simprocAttr,zb4,zb6,cell_of hc,mcCells,q1,b1,add_at,hcellF,ptr])
     refine e_call (by rfl) ?_
     refine (x_run hTdd ⟨hM,hf,he,hr,rfl⟩ href (by omega) hR).mono ?_
     rintro _ w1 ⟨ks',hop⟩
     (try simp only [go_sem,simprocAttr])
     have e:M.work=M.run:=by unfold Mc.work;rw [if_neg (by omega),if_pos hr]
     rw [e]
     exact ⟨ks',hop.of_drew.of_drew⟩
   · (try simp only [go_sem,simprocAttr,zb4,zb6,cell_of hc,mcCells,q1,b1,add_at,hcellF,ptr])
     refine e_call (by rfl) ?_
     have hsp:=(hM.topG hf).lsp
     refine (x_unwind hTdd hM he href (by omega) (by omega) (by omega) hR).mono ?_
     rintro _ w1 ⟨ks',hop⟩
     (try simp only [go_sem,simprocAttr])
     have e:M.work=M.unwind M.top:=by unfold Mc.work;rw [if_neg (by omega),if_neg (by rw [hr];simp)]
     rw [e]
     exact ⟨ks',hop.of_drew.of_drew⟩
 rintro ρ w1 ⟨r0,ks',hop⟩
 obtain ⟨τ1,j1,h1,j2⟩:=hop
 obtain ⟨vG1,vF1,vW1,vT1,fg1,ff1,fw1,ft1,F1,hh1⟩:=id h1
 have hc1:=hh1.cells
 have hcal:=cal_work M
 (try simp only [go_sem,simprocAttr,r0,cell_of hc1,mcCells,ptr])
 refine ir_cond rfl (fun h5=>?_) (fun h5=>?_)
 · simp only [zb1,zb2,zb3,zb4,zb5] at h5
   have e:M.step=M.work:=by unfold Mc.step;rw [if_neg (by simp [he]),if_pos h5]
   rw [e]
   (try simp only [go_sem,simprocAttr,cell_of hc1,mcCells])
   exact ⟨ks',τ1,j1,h1,j2⟩
 simp only [zb1,zb2,zb3,zb4,zb5] at h5
 obtain ⟨hM1,hM2,hst⟩:MOk (n+1) M.work∧MOk (n+1) M.step∧M.step=({ M.work with steps:=M.work.steps+1}:Mc).tidy:=by
   rcases hM.step he with ⟨hw,_⟩ | hw
   · exact absurd hw.ended h5
   · exact hw
 have q2:IntKind.i64.wrap (M.work.steps+1)=M.work.steps+1:=wrap_in (by rw [hcal.steps];omega) (by rw [hcal.steps];omega)
 (try simp only [go_sem,simprocAttr,cell_of hc1,mcCells,q2])
 refine e_st1 (off:=14) rfl rfl hc1 rfl (by simp [mcCells]) ?_
 intro w2 hb2 hm2 _
 obtain ⟨M2,hM2e⟩:∃ M2:Mc,M2 = { M.work with steps:=M.work.steps+1}:=⟨_,rfl⟩
 have hh2:=hh1.scal (M':=M2) hm2 (by rw [hM2e];simpa [mcCells] using hb2) (by rw [hM2e]) (by rw [hM2e]) (by rw [hM2e]) (by rw [hM2e]) (by rw [hM2e]) (by rw [hM2e]) (by rw [hM2e])
 rw [← hM2e] at hst
 have hok2:MOk (n+1) M2:=by rw [hM2e];exact hM1.stepped _
 have hc2:=hh2.cells
 have hs2:0≤M2.steps∧M2.steps≤1000001:=by
   have e:M2.steps=M.work.steps+1:=by rw [hM2e]
   rw [e,hcal.steps];omega
 have hkd2:M2.st.kd≠.ref:=by rw [hM2e];exact hcal.kd href
 have hg2:0 < M2.globals.length:=by
   have e:M2.globals=M.work.globals:=by rw [hM2e]
   rw [e,(stat_work M).gl];exact hg
 have step2:∀ {Mf:Mc} {w':World},MOp w2 τ1 m S Mf ks' w'→MOp w τ m S Mf ks' w':=fun hop=>MOp.cat j1 j2 (MOp.cat (ext_refl _ w1) (hm2.weak (fun b hb=>by subst hb;rw [hh1.tm];simp [Tg.own])) hop)
 have hrem:∀ b:Int,b > 0→IntKind.i64.wrap (M2.steps.tmod b)=M2.steps.tmod b:=by
   intro b hb
   have h1:=Int.tmod_nonneg b hs2.1
   have h2:=Int.tmod_lt_of_pos M2.steps hb
   have h3:M2.steps.tmod b≤M2.steps:=by
     rcases Int.lt_or_le M2.steps b with h4 | h4
     · rw [Int.tmod_eq_of_lt hs2.1 h4];omega
     · omega
   exact wrap_in (by omega) (by omega)
 (try simp only [go_sem,simprocAttr,cell_of hc2,mcCells])
 refine wpS_cut (fun ρ w'=>w'=w2.drew∧ρ.get 0=some (ptr m)∧ρ.get 98=some (.bool (decide (M2.every > 0∧M2.steps.tmod M2.every=0)))) ?_ ?_
 · cases hp:decide (M2.every > 0) with
   | false=>
     (try simp only [go_sem,simprocAttr,cell_of hc2,mcCells,hp])
     simp only [zb1,zb2,zb3,zb4,zb5] at hp
     simp [hp]
   | true=>
     have hp':=of_decide_eq_true hp
     have hne:M2.every≠0:=by omega
     have hq:=hrem _ hp'
     (try simp only [go_sem,simprocAttr,cell_of hc2,mcCells,hp,hne,hq])
     by_cases hz:M2.steps.tmod M2.every=0<;>simp [hp',hz]
 rintro ρ _ ⟨rfl,r0,r98⟩
 (try simp only [go_sem,simprocAttr,r0,r98])
 refine ir_then (fun ρ w'=>ρ.get 0=some (ptr m)∧MOp w2 τ1 m S M.step ks' w') ?_ ?_
 · rw [hst]
   refine ir_cond rfl (fun hcol=>?_) (fun hcol=>?_)
   · simp only [zb1,zb2,zb3,zb4,zb5] at hcol
     unfold Mc.tidy
     rw [if_pos hcol]
     have hR2:=hok2.roots_le (by omega)
     have hne:M2.roots≠[]:=fun e=>by
       have:M2.globals=[]:=by unfold Mc.roots at e;simp at e;exact e.1
       rw [this] at hg2;simp at hg2
     have hmd:Mod (fun _=>False) w2 w2.drew.drew:=(Mod.refl (fun _=>False) w2).drew.drew
     have hh2d:=hh2.mod hmd (ext_refl τ1 w2).wx (fun _ _ h=>h.elim)
     obtain ⟨ti,ui,hsv⟩:=hh2d.st.iface
     (try simp only [go_sem,simprocAttr,cell_of hc2,mcCells,hsv,ptr])
     refine e_call (by rfl) ?_
     refine (m_roots ⟨_,_,_,_,_,_,_,_,_,hh2d⟩ hR2).mono ?_
     rintro r3 w3 ⟨⟨f3,ho3,hf3⟩,hm3⟩
     have lm:=hh2.lt
     have km:=hm3.old m lm (fun h=>h)
     (try simp only [go_sem,simprocAttr])
     refine ⟨km,?_⟩
     have hh3:=hh2d.mod hm3 (newTag_ext τ1 w2.drew.drew .no).wx (fun _ _ h=>h.elim)
     obtain ⟨hi3,_⟩:=ho3.ints hR2
     obtain ⟨va,vc,rfl,_⟩:=ho3.val
     refine s_col (roots:=M2.roots) (by rw [hsv];rfl) (by rfl) hh3.st hok2.g.st hi3 (okPl_of hok2.roots) ?_ hR2 ?_
     · intro _ x hx hF
       have hx1:=hh3.tF x hF
       obtain ⟨b,c',sp,e,rfl,_⟩:=ho3.pos (List.length_pos_iff.2 hne)
       cases e
       cases hx
       rw [newTag_new (hf3 _ rfl)] at hx1;cases hx1
     intro w4 F4 v4 hs4 hg4 hout
     have hh4:=hh3.store (s:=(stCol M2.st M2.roots).2) hg4 hs4 (stCol_size _ _)
     rw [stCol_ren _ hkd2] at hout
     obtain ⟨fp,ho4,hf4⟩:=hout
     obtain ⟨b,c',sp,rfl,rfl,hb4,_⟩:=ho4.pos (by simp;exact List.length_pos_iff.2 hne)
     obtain ⟨hb1,hb2'⟩:=hf4 b rfl
     (try simp only [go_sem,simprocAttr,show ((0:Int) == 0)=true from rfl])
     refine e_call (by rfl) ?_
     refine (m_moved (M:={ M2 with st:=(stCol M2.st M2.roots).2}) ⟨_,_,_,_,_,_,_,_,_,hh4⟩ (colRen M2.st M2.roots) ho4 (stTag_no hb1 hb2') hR2).mono ?_
     rintro r5 w5 ⟨hm5,⟨vG5,vF5,vW5,vT5,fg5,ff5,fw5,ft5,F5,hh5⟩⟩
     have hc5:=hh5.cells
     (try simp only [go_sem,simprocAttr,cell_of hc5,mcCells])
     refine s_used rfl hh5.st ?_
     (try simp only [go_sem,simprocAttr])
     refine e_st1 (off:=8) rfl rfl hc5 rfl (by simp [mcCells]) ?_
     intro w6 hb6 hm6 hs6
     (try simp only [go_sem,simprocAttr])
     have hfin:=hh5.scal (M':=M2.after (colRen M2.st M2.roots) (stCol M2.st M2.roots).2) hm6 (by simpa [mcCells,Mc.after,Mc.mapP,stCol_size] using hb6) rfl rfl rfl rfl rfl rfl rfl
     have k5:MOp w5 _ m S _ ks' w6:=⟨_,ext_refl _ _,⟨_,_,_,_,_,_,_,_,_,hfin⟩,hm6.weak (fun b hb=>by subst hb;rw [hh5.tm];simp [Tg.own])⟩
     have k4:=MOp.cat (ext_refl _ w4) hm5 k5
     have k3:=MOp.cat (stTag_ext _ w3 F4) (hg4.1.weak hh3.ownF) k4
     exact (MOp.boxed hm3 k3).of_drew.of_drew
   · simp only [zb1,zb2,zb3,zb4,zb5] at hcol
     unfold Mc.tidy
     rw [if_neg hcol]
     (try simp only [go_sem,simprocAttr])
     exact ⟨τ1,ext_refl _ _,⟨_,_,_,_,_,_,_,_,_,hh2.mod (Mod.refl (fun _=>False) w2).drew (ext_refl τ1 w2).wx (fun _ _ h=>h.elim)⟩,(Mod.refl _ w2).drew⟩
 rintro ρ w3 ⟨r0,hop⟩
 obtain ⟨τ3,q1,h3,q2⟩:=hop
 obtain ⟨vG3,vF3,vW3,vT3,fg3,ff3,fw3,ft3,F3,hh3⟩:=id h3
 have hc3:=hh3.cells
 (try simp only [go_sem,simprocAttr,r0,cell_of hc3,mcCells,ptr])
 exact ⟨ks',step2 ⟨τ3,q1,h3,q2⟩⟩
end
end
section
open Go Go.W
structure DI (ns:List Nd) (roots:List Int) (V:List Nat) (todo:List Int):Prop where
 nd:V.Nodup
 sub:∀ x∈V,x∈smallO ns 0 roots
 cl:∀ x∈V,∀ a∈(ndAt ns x).args,over ns a.toNat∈V∨∃ t∈todo,over ns t.toNat=over ns a.toNat
 rt:∀ a∈roots,over ns a.toNat∈V∨∃ t∈todo,over ns t.toNat=over ns a.toNat
 td:∀ t∈todo,over ns t.toNat∈smallO ns 0 roots
 inn:∀ t∈todo,0≤t∧t < ns.length
section
variable {ns:List Nd} {roots:List Int} {V:List Nat} {todo:List Int} {t:Int}
theorem di_start (hw:WF ns) (ho:okPl ns.length roots=true):DI ns roots [] roots:=
 ⟨List.nodup_nil,(fun x h=>by cases h),(fun x h=>by cases h),fun a ha=>.inr ⟨a,ha,rfl⟩,fun a ha=>((small_met hw (Nat.zero_le _) ho).2.2.1 a ha).resolve_left (by omega),fun a ha=>okPl_mem ho ha⟩
theorem di_skip (h:DI ns roots V (todo++[t])) (ht:over ns t.toNat∈V):DI ns roots V todo:=by
 have key:∀ p:Nat,(p∈V∨∃ u∈todo++[t],over ns u.toNat=p)→(p∈V∨∃ u∈todo,over ns u.toNat=p):=by
   rintro p (h1 | ⟨u,hu,e⟩)
   · exact .inl h1
   · rcases List.mem_append.1 hu with hu | hu
     · exact .inr ⟨u,hu,e⟩
     · obtain rfl:=List.mem_singleton.1 hu
       exact .inl (e ▸ ht)
 exact ⟨h.nd,h.sub,fun x hx a ha=>key _ (h.cl x hx a ha),fun a ha=>key _ (h.rt a ha),fun u hu=>h.td u (List.mem_append_left _ hu),fun u hu=>h.inn u (List.mem_append_left _ hu)⟩
theorem di_mark (hw:WF ns) (ho:okPl ns.length roots=true) (h:DI ns roots V (todo++[t])) (ht:over ns t.toNat∉V):DI ns roots (over ns t.toNat::V) (todo++(ndAt ns (over ns t.toNat)).args):=by
 have hm:=small_met hw (Nat.zero_le _) ho
 have hts:=h.td t (by simp)
 have key:∀ p:Nat,(p∈V∨∃ u∈todo++[t],over ns u.toNat=p)→(p∈over ns t.toNat::V∨∃ u∈todo++(ndAt ns (over ns t.toNat)).args,over ns u.toNat=p):=by
   rintro p (h1 | ⟨u,hu,e⟩)
   · exact .inl (List.mem_cons_of_mem _ h1)
   · rcases List.mem_append.1 hu with hu | hu
     · exact .inr ⟨u,List.mem_append_left _ hu,e⟩
     · obtain rfl:=List.mem_singleton.1 hu
       exact .inl (by rw [e];exact List.mem_cons_self)
 have hin:=h.inn t (by simp)
 have hlt:over ns t.toNat < ns.length:=ov_lt (wf_nxt_lt hw) (by omega)
 refine ⟨List.nodup_cons.2 ⟨ht,h.nd⟩,?_,?_,fun a ha=>key _ (h.rt a ha),?_,?_⟩
 · intro x hx
   rcases List.mem_cons.1 hx with rfl | hx
   · exact hts
   · exact h.sub x hx
 · intro x hx a ha
   rcases List.mem_cons.1 hx with rfl | hx
   · exact .inr ⟨a,List.mem_append_right _ ha,rfl⟩
   · exact key _ (h.cl x hx a ha)
 · intro u hu
   rcases List.mem_append.1 hu with hu | hu
   · exact h.td u (List.mem_append_left _ hu)
   · exact (hm.2.1 _ hts u hu).resolve_left (by omega)
 · intro u hu
   rcases List.mem_append.1 hu with hu | hu
   · exact h.inn u (List.mem_append_left _ hu)
   · exact okPl_mem (wf_at hw hlt).2 hu
theorem di_end (hw:WF ns) (ho:okPl ns.length roots=true) (h:DI ns roots V []):V.length=(smallO ns 0 roots).length:=by
 have hm:=small_met hw (Nat.zero_le _) ho
 have r:∀ {p:Nat},(p∈V∨∃ u∈([]:List Int),over ns u.toNat=p)→p∈V:=by
   rintro p (h1 | ⟨u,hu,_⟩)
   · exact h1
   · cases hu
 have hs:∀ x∈smallO ns 0 roots,x∈V:=small_all (fun a ha=>r (h.rt a ha)) (fun x hx a ha=>r (h.cl x hx a ha))
 have h1:=nodup_sub _ _ hm.1.1 hs
 have h2:=nodup_sub _ _ h.nd h.sub
 omega
theorem di_len (hw:WF ns) (ho:okPl ns.length roots=true) (h:DI ns roots V todo):V.length≤ns.length:=by
 have hm:=small_met hw (Nat.zero_le _) ho
 exact nodup_le _ _ h.nd (fun x hx=>(hm.1.2 x (h.sub x hx)).1)
end
end
section
open Go Go.W
def Marks (w:World) (b N:Nat) (V:List Nat):Prop:=∃ cs:List Value,w.heap[b]? = some (.cells cs.toArray 4 (0,0))∧cs.length=N∧∀ i,i < N→cs[i]? = some (.bool (decide (i∈V)))
theorem marks_set {w':World} {b N:Nat} {V:List Nat} {cs:List Value} (hl:cs.length=N) (h:∀ i,i < N→cs[i]? = some (.bool (decide (i∈V)))) {p:Nat} (hp:p < N) (hb:w'.heap[b]? = some (.cells (cs.set p (.bool true)).toArray 4 (0,0))):Marks w' b N (p::V):=by
 refine ⟨_,hb,by simpa using hl,fun i hi=>?_⟩
 rw [List.getElem?_set]
 split
 · rename_i e;subst e
   rw [if_pos (by omega)];simp
 · rename_i e
   rw [h i hi]
   congr 2
   have:(i∈p::V)↔i∈V:=by simp [List.mem_cons];omega
   simp only [this]
theorem MOk.roots_le2 {n:Int} {M:Mc} (h:MOk n M) (hn:n≤1000000):M.roots.length≤1100000000000:=by
 have h1:=flat_roots_le M.frames h.frs
 have h2:=h.lf
 have h3:=h.lw
 have h4:=h.gln
 have h5:=h.tab.gn
 have h6:(M.frames.length:Int)*(n+8001)≤1000000*1008001:=Int.mul_le_mul (by omega) (by omega) (by have:=h.ln;omega) (by omega)
 unfold Mc.roots
 simp only [List.length_append]
 omega
section
variable {w:World} {τ:Tag} {m:Nat} {S:SV} {M:Mc} {ks:List Nat} {n:Int}
theorem m_reached (h:MAt w τ m S M ks) (hM:MOk n M) (hn:n≤1000000):CallsR Tryz.prog 43 [ptr m] w fun r w'=>r=I (liveS M)∧Mod (fun _=>False) w w':=by
 have hR:=hM.roots_le hn
 have hns:=hM.g.st.n
 have hw:=hM.g.st.wf
 have hpl:okPl M.st.ns.length M.roots=true:=okPl_of hM.roots
 obtain ⟨vG,vF,vW,vT,fg,ff,fw,ft,F,hh⟩:=id h
 have hc:=hh.cells
 refine fit43.calls rfl ?_
 unfold ir43
 (try simp only [go_sem,simprocAttr,cell_of hc,mcCells,ptr])
 refine s_used rfl hh.st ?_
 refine e_ms1 (bytes:=1) (n:=M.st.ns.length) rfl (by omega) (by omega) ?_
 intro w1 hb1 hm1 hs1
 have h1:=h.later hm1
 (try simp only [go_sem,simprocAttr])
 refine e_call (by rfl) ?_
 refine (m_roots h1 hR).mono ?_
 rintro v w2 ⟨⟨f2,ho2,hf2⟩,hm2⟩
 have hm02:=hm1.trans hm2
 (try simp only [go_sem,simprocAttr])
 refine ir_loop (fun z ρ w'=>∃ (V:List Nat) (todo:List Int) (v:Value) (f:Option Nat),z=(M.st.ns.length - V.length)*9+todo.length∧DI M.st.ns M.roots V todo∧Marks w' w.heap.size M.st.ns.length V∧OwnS w' 3 1 v (todo.map I) todo.length f∧(∀ b,f=some b→w1.heap.size≤b)∧Mod (fun _=>False) w w'∧todo.length≤1100000000000+8*V.length ∧
   ρ.get 0=some (ptr m)∧ρ.get 3=some (.slice (some ⟨w.heap.size,0,none⟩) M.st.ns.length M.st.ns.length)∧ρ.get 4=some v∧ρ.get 5=some (I V.length)) (M.st.ns.length*9+M.roots.length) ⟨[],M.roots,v,f2,by simp,di_start hw hpl,⟨_,hm2.at hb1 (fun h=>h),by simp,fun i hi=>by simp [List.getElem?_replicate,hi]⟩,ho2,hf2,hm02,by simpa using hM.roots_le2 hn,rfl,rfl,rfl,rfl⟩ ?_
 rintro z ρ w3 ⟨V,todo,v,f,rfl,hD,⟨cs,hcs1,hcs2,hcs3⟩,ho,hf,hm3,htl,r0,r3,r4,r5⟩
 unfold ir43L1
 obtain ⟨av,cv,rfl,hcv,_⟩:=ho.val
 have hVl:=di_len hw hpl hD
 (try simp only [go_sem,simprocAttr,r0,r3,r4,r5])
 refine ir_cond rfl (fun hz=>?_) (fun hz=>?_)
 · simp only [zb1,zb2,zb3,zb4,zb5] at hz
   obtain ⟨j,hj⟩:∃ j:Nat,j+1=todo.length:=⟨todo.length - 1,by omega⟩
   obtain ⟨todo',t,rfl⟩:∃ l t,todo=l++[t]:=⟨todo.take j,todo.getD j 0,by
     refine List.ext_getElem (by simp;omega) ?_
     intro i h1 h2
     by_cases hi:i < j
     · rw [List.getElem_append_left (by rw [List.length_take];omega)];simp
     · obtain rfl:i=j:=by omega
       rw [List.getElem_append_right (by rw [List.length_take];omega)]
       simp [List.getD_eq_getElem?_getD,List.getElem?_eq_getElem h1]⟩
   have hjl:todo'.length=j:=by simp at hj;omega
   obtain ⟨bv,rfl,hfv,hcell⟩:=own_cell ho (i:=j) (by omega)
   have hcell:w3.cell? ⟨bv,j,none⟩=some (I t):=by
     rw [hcell,List.getElem?_map,List.getElem?_append_right (by omega),hjl];simp
   have e1:IntKind.i64.wrap (((todo'++[t]).length:Int) - 1)=j:=by rw [wrap_in (by omega) (by omega)];omega
   have b1:(0:Int)≤j∧(j:Int) < ((todo'++[t]).length:Int):=by omega
   have hint:=hD.inn t (by simp)
   have h3:=h.later hm3
   (try simp only [go_sem,simprocAttr,zb4,zb6,e1,b1,add_at,hcell])
   refine e_call (by rfl) ?_
   refine (m_over h3 hM.g.st hM.g.ends hint).mono ?_
   rintro _ w4 ⟨vA,rfl,hvA,hm4⟩
   (try simp only [go_sem,simprocAttr])
   refine e_al ?_
   intro w5 hb5 hm5 _
   refine e_sta (cs:=[I 0,I 0,.slice none 0 0]) rfl rfl hb5 rfl rfl (node_one hvA _ _) ?_
   intro w6 hb6 hm6 _
   have s4:=hm4.size
   have hm36:Mod (fun _=>False) w3 w6:=(hm4.trans hm5).step hm6 (fun x hx hl=>by subst hx;omega)
   have hm46:Mod (fun _=>False) w4 w6:=hm5.step hm6 (fun x hx hl=>by subst hx;omega)
   have ho6:=ho.mod hm36 (fun _ _ h=>h)
   have hcs6:=hm36.at hcs1 (fun h=>h)
   obtain ⟨P,hP⟩:∃ P:Nat,P=M.st.ov t:=⟨_,rfl⟩
   have hov:over M.st.ns t.toNat=P:=by rw [hP];rfl
   have hPl:P < M.st.ns.length:=by rw [hP];exact hM.g.ov hint
   have hnd:M.st.nd t=ndAt M.st.ns P:=by rw [hP];rfl
   have b2:(0:Int)≤j∧(j:Int)≤cv:=by omega
   have b3:(0:Int)≤P∧(P:Int) < M.st.ns.length:=by omega
   have hpre:=own_pre ho6 (k:=j) (by omega)
   rw [← hP]
   have hmk:w6.cell? ⟨w.heap.size,P,none⟩=some (.bool (decide (P∈V))):=by rw [cell_of hcs6];simpa using hcs3 P hPl
   (try simp only [go_sem,simprocAttr,zb4,zb6,e1,b2,sl_same,ite_self,b3,add_at,hmk])
   have hpre':OwnS w6 3 1 (.slice (some ⟨bv,0,none⟩) j cv) (todo'.map I) todo'.length f:=by
     have e:(List.map I (todo'++[t])).take (j*1)=todo'.map I:=by rw [Nat.mul_one,List.map_append,List.take_append_of_le_length (by simp;omega),List.take_of_length_le (by simp;omega)]
     rw [e] at hpre
     rw [hjl];exact hpre
   have htl':todo'.length+1≤1100000000000+8*V.length:=by simpa using htl
   refine ir_cond rfl (fun hin=>?_) (fun hin=>?_)
   · have hin:P∈V:=of_decide_eq_true hin
     (try simp only [go_sem,simprocAttr])
     refine ⟨_,by simp,V,todo',.slice (some ⟨bv,0,none⟩) j cv,f,rfl,di_skip hD (by rw [hov];exact hin),⟨cs,hcs6,hcs2,hcs3⟩,hpre',hf,hm3.trans hm36,by omega,rfl,rfl⟩
   · have hin:P∉V:=of_decide_eq_false hin
     have hD':=di_mark hw hpl hD (by rw [hov];exact hin)
     rw [hov] at hD'
     have hVl':=di_len hw hpl hD'
     simp only [List.length_cons] at hVl'
     have hA8:(ndAt M.st.ns P).args.length≤8:=(ndAt_args hw hPl).1
     (try simp only [go_sem,simprocAttr,zb4,zb6,b3,add_at])
     refine e_st1 (off:=P) rfl rfl hcs6 rfl (by omega) ?_
     intro w7 hb7 hm7 _
     have hmk7:=marks_set hcs2 hcs3 hPl hb7
     rw [hnd] at hb6
     have s3:=hm3.size
     have s1:=hm1.size
     have l1:=lt_of_heap hb1
     have l3:=lt_of_heap hcs1
     have hb67:=hm7.at hb6 (fun e=>by omega)
     obtain ⟨fA,hvA',hfA⟩:=hvA
     rw [hnd] at hvA'
     have fv:=hf bv hfv
     have hvA7:=(hvA'.mod hm46 (fun _ _ h=>h)).mod hm7 (fun b hb e=>by have:=hfA b hb;omega)
     obtain ⟨aA,cA,rfl,_,hnA⟩:=hvA7.val
     have hp7:=hpre'.mod hm7 (fun b hb e=>by have:=hf b hb;omega)
     have e5:IntKind.i64.wrap ((V.length:Int)+1)=((V.length+1:Nat):Int):=by rw [wrap_in (by omega) (by omega)];omega
     (try simp only [go_sem,simprocAttr,cell_of hb67,e5])
     rw [hjl] at hp7
     refine e_ap (m:=(ndAt M.st.ns P).args.length) (news:=(ndAt M.st.ns P).args.map I) rfl hp7 rfl (fun e=>(hnA e).1) hvA7.rd (oneI _) rfl (by omega) (by omega) ?_
     intro v8 w8 f8 ho8 hm8 hf8
     (try simp only [go_sem,simprocAttr])
     have hm68:Mod (fun b=>b=w.heap.size∨f=some b) w6 w8:=(hm7.weak (fun _ h=>.inl h)).step hm8 (fun b hb _=>.inr hb)
     have hms:Mod (fun _=>False) w w8:=(hm3.trans hm36).step hm68 (fun b hb hl=>by
       rcases hb with rfl | hb
       · omega
       · have:=hf b hb;omega)
     obtain ⟨cs7,k1,k2,k3⟩:=hmk7
     refine ⟨_,by simp only [List.length_append,List.length_cons,List.length_nil];omega,P::V,todo'++(ndAt M.st.ns P).args,v8,f8,rfl,hD',⟨cs7,hm8.at k1 (fun e=>by have:=hf _ e;omega),k2,k3⟩,?_,fun b hb=>?_,hms,?_⟩
     · have e:(todo'++(ndAt M.st.ns P).args).length=j+(ndAt M.st.ns P).args.length:=by rw [List.length_append,hjl]
       rw [e];simpa using ho8
     · rcases hf8 b hb with h1 | h1
       · exact hf b h1
       · have:=hm7.size;have:=hm36.size;have:=hm2.size;omega
     · exact ⟨by simp only [List.length_append,List.length_cons];omega,rfl,rfl⟩
 · simp only [zb1,zb2,zb3,zb4,zb5] at hz
   have:todo=[]:=List.eq_nil_of_length_eq_zero (by omega)
   subst this
   have:=di_end hw hpl hD
   (try simp only [go_sem,simprocAttr])
   refine ⟨?_,hm3⟩
   unfold liveS
   rw [this]
end
end
section
open Go Go.W
def Alive (n:Int) (M:Mc):Prop:=MOk n M∨M.ended=5
theorem Alive.ok {n:Int} {M:Mc} (h:Alive n M) (he:M.ended=0):MOk n M:=by
 rcases h with h | h
 · exact h
 · omega
theorem step_end {M:Mc} (h:M.ended≠0):M.step=M:=by unfold Mc.step;rw [if_pos h]
theorem Alive.step {n:Int} {M:Mc} (h:Alive n M):Alive (n+1) M.step:=by
 by_cases he:M.ended=0
 · rcases (h.ok he).step he with ⟨hw,e⟩ | ⟨_,hw,_⟩
   · rw [e];exact .inr hw.ended
   · exact .inl hw
 · rw [step_end he]
   rcases h with h | h
   · exact .inl (h.more (by omega))
   · exact .inr h
theorem Alive.steps {n:Int} {M:Mc} (h:Alive n M) (k:Nat):Alive (n+k) (M.steps' k):=by
 induction k with
 | zero=>
   have e:n+((0:Nat):Int)=n:=by simp
   rw [e];exact h
 | succ k ih=>
   have e:n+((k+1:Nat):Int)=n+(k:Int)+1:=by omega
   rw [e];exact ih.step
theorem steps_end {M:Mc} {i:Nat} (h:(M.steps' i).ended≠0):∀ d:Nat,M.steps' (i+d)=M.steps' i:=by
 intro d
 induction d with
 | zero=>rfl
 | succ d ih=>
   show (M.steps' (i+d)).step=_
   rw [ih];exact step_end h
theorem steps_end' {M:Mc} {i j:Nat} (h:(M.steps' i).ended≠0) (hij:i≤j):M.steps' j=M.steps' i:=by
 obtain ⟨d,rfl⟩:∃ d,j=i+d:=⟨j - i,by omega⟩
 exact steps_end h d
theorem steps_going {M:Mc} {i:Nat} (h:(M.steps' (i+1)).ended=0):(M.steps' i).ended=0:=by
 apply Classical.byContradiction
 intro hh
 rw [steps_end' hh (Nat.le_succ i)] at h
 exact hh h
theorem work_five {M:Mc} (he:M.ended=0) (h:M.work.ended=5):M.step.ended=5:=by
 unfold Mc.step
 rw [if_neg (by simp [he]),if_pos h];exact h
theorem steps_count (M:Mc) (k:Nat):M.steps≤(M.steps' k).steps∧(M.steps' k).steps≤M.steps+k∧((M.steps' k).ended=0→(M.steps' k).steps=M.steps+k):=by
 induction k with
 | zero=>exact ⟨Int.le_refl _,by show M.steps≤_;omega,fun _=>by show M.steps=_;omega⟩
 | succ k ih=>
   obtain ⟨h1,h2,h3⟩:=ih
   have e:=step_steps (M.steps' k)
   show M.steps≤(M.steps' k).step.steps∧(M.steps' k).step.steps≤M.steps+((k+1:Nat):Int)∧((M.steps' k).step.ended=0→(M.steps' k).step.steps=M.steps+((k+1:Nat):Int))
   rw [e]
   split
   · rename_i hh
     refine ⟨by omega,by omega,fun _=>by have:=h3 hh.1;omega⟩
   · rename_i hh
     refine ⟨h1,by omega,fun he=>?_⟩
     exfalso
     have h0:(M.steps' k).ended=0:=steps_going he
     apply hh
     refine ⟨h0,fun h5=>?_⟩
     have:=work_five h0 h5
     omega
theorem steps_kd {M:Mc} (h:M.st.kd≠.ref) (k:Nat):(M.steps' k).st.kd≠.ref:=by
 induction k with
 | zero=>exact h
 | succ k ih=>exact step_kd ih
end
section
open Go Go.W
theorem f_backF (w:World) (v:Value):CallsR Tryz.prog 42 [v] w fun r w'=>r = .func (.func 94) #[] #[ptr w.heap.size]∧(∃ T fz,w'.heap[w.heap.size]? = some (.cells v.cells T fz))∧Mod (fun _=>False) w w':=by
 refine fit42.calls rfl ?_
 unfold ir42
 (try simp only [go_sem,simprocAttr])
 refine e_bx rfl ?_
 intro w1 hb1 hm1 _
 (try simp only [go_sem,simprocAttr])
 exact ⟨⟨_,_,hb1⟩,hm1⟩
theorem back_ownF {w:World} {T:Nat} {v:Value} {l:List Nat} {fp:Option Nat} (h:OwnS w T 1 v (l.map ptr) l.length fp) {Bs:Nat} (hB:Bs < w.heap.size):∃ b,b < w.heap.size∧(b=Bs∨fp=some b) ∧
   ((v = .slice none 0 0∧l.length=0)∨(b < w.heap.size∧∃ cap,v = .slice (some ⟨b,0,none⟩) l.length cap∧∀ j,j < l.length→w.cell? ⟨b,j,none⟩=some (ptr (l.getD j 0)))):=by
 rcases Nat.eq_zero_or_pos l.length with h0 | h0
 · obtain ⟨h1,⟨rfl,_,rfl⟩ | ⟨b,c,sp,rfl,rfl,h5,_⟩⟩:=h
   · exact ⟨Bs,hB,.inl rfl,.inl ⟨rfl,h0⟩⟩
   · exact ⟨b,lt_of_heap h5,.inr rfl,.inr ⟨lt_of_heap h5,c,rfl,fun j hj=>by omega⟩⟩
 · obtain ⟨a,c,rfl,_⟩:=h.val
   obtain ⟨b,rfl,hf,_⟩:=own_cell h h0
   refine ⟨b,h.lt hf,.inr hf,.inr ⟨h.lt hf,c,rfl,fun j hj=>?_⟩⟩
   obtain ⟨b',e,_,hc⟩:=own_cell h hj
   cases e
   rw [hc,List.getElem?_map,List.getElem?_eq_getElem hj,List.getD_eq_getElem?_getD,List.getElem?_eq_getElem hj];rfl
theorem downto_revF {α:Type} (l:List α) (d:α):(W.downto l.length l.length).map (fun j=>l.getD j d)=l.reverse:=by
 refine List.ext_getElem (by simp [W.downto]) ?_
 intro i h1 h2
 simp only [W.downto,List.length_map,List.length_range,List.map_map] at h1
 simp only [W.downto,List.map_map,List.getElem_map,List.getElem_range,Function.comp_apply,List.getElem_reverse]
 rw [List.getD_eq_getElem?_getD,List.getElem?_eq_getElem (by omega)];rfl
def seeRow (f:Fr):List Value:=if f.runs=true then [I f.glob,I f.at',I f.stack.length] else [I (-1),I 0,I f.spine.length]
theorem seeRow_one (f:Fr):∀ u∈seeRow f,u.oneCell'=true:=by
 intro u hu
 unfold seeRow at hu
 split at hu<;>(simp only [List.mem_cons,List.not_mem_nil,or_false] at hu;rcases hu with rfl | rfl | rfl<;>rfl)
def sightCells (M:Mc) (v:Value) (live:Int):List Value:=[I M.steps,v,I live,I M.ended]
structure Seen (w:World) (b:Nat) (M:Mc) (live:Int) (l:List Fr) (W:World):Prop where
 ex:∃ v fp,W.heap[b]? = some (.cells (sightCells M v live).toArray 59 (0,0))∧OwnS W 100 3 v (l.flatMap seeRow) l.length fp∧∀ c,fp=some c→w.heap.size≤c
 mod:Mod (· = b) w W
theorem Seen.quiet {w:World} {b:Nat} {M:Mc} {live:Int} {l:List Fr}:Quiet w.heap.size (Seen w b M live l):=by
 rintro W W' X ⟨⟨v,fs',h1,h2,h3⟩,h4⟩ hm hs
 have hs':∀ b,X b→∃ o:Obj,W.heap[b]? = some o∧o.isCells=false:=fun b hb=>(hs b hb).2
 refine ⟨⟨v,fs',quiet_at hm hs' h1,quiet_ownS hm hs' h2,h3⟩,h4.step hm (fun b hb hl=>?_)⟩
 have:=(hs b hb).1;omega
def liveOf (M:Mc):Int:=if M.ended≠5 then (liveS M:Int) else M.live
section
variable {w:World} {τ:Tag} {m:Nat} {S:SV} {M:Mc} {ks:List Nat} {n:Int}
def SightV (w w':World) (M:Mc) (r:Value):Prop:=∃ v fp,r = .agg #[I M.steps,v,I (liveOf M),I M.ended]∧OwnS w' 100 3 v (M.frames.reverse.flatMap seeRow) M.frames.length fp∧∀ c,fp=some c→w.heap.size≤c
theorem m_sight (h:MAt w τ m S M ks) (hM:Alive n M) (hn:n≤1000000) (hfl:M.frames.length≤1000000):CallsR Tryz.prog 22 [ptr m] w fun r w'=>SightV w w' M r∧Mod (fun _=>False) w w':=by
 refine fit22.calls rfl ?_
 unfold ir22
 (try simp only [go_sem,simprocAttr])
 refine e_al ?_
 intro w1 hb1 hm1 _
 have h1:=h.later hm1
 have h1d:=h1.mod (Mod.refl (fun _=>False) w1).drew (ext_refl _ _).wx (fun _ _ h=>h.elim)
 obtain ⟨vG,vF,vW,vT,fg,ff,fw,ft,F,hh⟩:=id h1d
 have hc:w1.heap[m]? = _:=hh.cells
 have lm:=hh.lt
 (try simp only [go_sem,simprocAttr,cell_of hc,mcCells,ptr])
 refine e_al ?_
 intro w2 hb2 hm2 _
 have k2:=hm2.old m lm (fun h=>h)
 (try simp only [go_sem,simprocAttr])
 refine ⟨by simp only [drew_heap,k2,and_self,implies_true],?_⟩
 refine e_sta (cs:=[I 0,.slice none 0 0,I 0,I 0]) rfl rfl hb2 rfl rfl (by simp [Value.oneCell']) ?_
 intro w3 hb3 hm3 _
 have e1:w1.drew.heap.size=w1.heap.size:=rfl
 have hm13:Mod (fun _=>False) w1.drew w3:=hm2.step hm3 (fun x hx hl=>by subst hx;omega)
 have hh3:=hh.mod hm13 (newTag_ext _ w1.drew .no).wx (fun _ _ h=>h.elim)
 have hc3:=hh3.cells
 (try simp only [go_sem,simprocAttr,cell_of hc3,mcCells])
 refine e_call (by rfl) ?_
 refine (f_backF w3 _).mono ?_
 rintro _ w4 ⟨rfl,⟨T4,fz4,hb4⟩,hm4⟩
 (try simp only [go_sem,simprocAttr])
 have hh4:=hh3.mod hm4 (newTag_ext _ w3 .no).wx (fun _ _ h=>h.elim)
 have hc4:=hh4.cells
 have hl4:=hh4.len
 have s13:=hm13.size
 have s34:=hm4.size
 have s01:=hm1.size
 have l0:=lt_of_heap hb1
 have l1:=lt_of_heap hb3
 have l4:=lt_of_heap hb4
 have lm4:=lt_of_heap hc4
 have nt:∀ b,w.heap.size≤b→newTag (newTag (newTag τ w .no) w1.drew .no) w3 .no b = .no:=by
   intro b hb
   by_cases h3:b < w3.heap.size
   · rw [newTag_ext _ w3 .no b h3]
     by_cases h1:b < w1.drew.heap.size
     · rw [newTag_ext _ w1.drew .no b h1];exact newTag_new hb
     · exact newTag_new (by omega)
   · exact newTag_new (by omega)
 have hb34:=hm4.at hb3 (fun h=>h)
 have hb14:=hm4.at (hm13.at (show w1.drew.heap[w.heap.size]? = _ from hb1) (fun h=>h)) (fun h=>h)
 obtain ⟨bF,hbF1,hbF2,hbF3⟩:=back_ownF hh4.fr l4
 have nB:w3.heap.size≠w1.heap.size:=by omega
 have nF:bF≠w1.heap.size:=by
   rcases hbF2 with e | e
   · omega
   · intro e2
     have:=hh4.tf _ e
     rw [e2,nt _ (by omega)] at this;cases this
 have n0:w.heap.size≠w1.heap.size:=by omega
 refine ⟨2,ks.length,94,#[ptr w3.heap.size],(fun j=>ptr (ks.getD j 0)),KeepB w3.heap.size bF,(fun pre W=>Seen w4 w1.heap.size M M.live (pre.map (fun j=>M.frames.getD j ⟨false,0,0,[],[],0⟩)) W),⟨rfl,(fun _ _=>rfl),?_,⟨rfl,rfl⟩,by omega,?_,?_,⟨⟨⟨.slice none 0 0,none,?_,OwnS.nil _ _ _,(fun b hb=>by cases hb)⟩,Mod.refl _ _⟩,fun s=>Seen.quiet,?_⟩⟩,?_⟩
 · refine backframes_stops Fence.wide 1 trivial rfl (by omega) w3.heap.size bF ks.length _ (fun j=>ptr (ks.getD j 0)) w4 (by obtain ⟨aX,cX,rfl,_⟩:=hh4.fr.val;simpa [Value.cells] using cell_of hb4 (o:=0)) l4 hbF3 (by omega)
 · intro A B C a b;exact ⟨b.1.trans a.1,b.2.trans a.2⟩
 · intro W l o o' hl ho hoc _
   have hl1:l≠w3.heap.size:=fun e=>by omega
   have hl2:l≠bF:=fun e=>by omega
   exact ⟨World.putObj_heap_other (fun e=>hl1 e.symm),World.putObj_heap_other (fun e=>hl2 e.symm)⟩
 · exact hb34
 · rintro pre jj W ⟨⟨v,fs',p1,p2,p3⟩,p4⟩ hpl hjl
   have sW:=p4.size
   have hhW:=hh4.mod p4 (ext_refl _ _).wx (fun b _ e=>by subst e;exact nt _ (by omega))
   have hkj:ks[jj]? = some (ks.getD jj 0):=by rw [List.getD_eq_getElem?_getD,List.getElem?_eq_getElem hjl];rfl
   have hfj:M.frames[jj]? = some (M.frames.getD jj ⟨false,0,0,[],[],0⟩):=by rw [List.getD_eq_getElem?_getD,List.getElem?_eq_getElem (by omega)];rfl
   obtain ⟨vs,vp,fs,fp,hF⟩:=hhW.frs _ _ _ hkj hfj
   generalize hfr:M.frames.getD jj ⟨false,0,0,[],[],0⟩=f at *
   generalize hkk:ks.getD jj 0=k at *
   have hcf:=hF.cells
   have hpl':(pre.map (fun j=>M.frames.getD j ⟨false,0,0,[],[],0⟩)).length < 1000001:=by rw [List.length_map];omega
   have hsplit:(pre++[jj]).map (fun j=>M.frames.getD j ⟨false,0,0,[],[],0⟩)=pre.map (fun j=>M.frames.getD j ⟨false,0,0,[],[],0⟩)++[f]:=by rw [List.map_append,← hfr];rfl
   rw [hsplit]
   generalize pre.map (fun j=>M.frames.getD j ⟨false,0,0,[],[],0⟩)=ll at *
   obtain ⟨av,cv,rfl,_⟩:=p2.val
   obtain ⟨aS,cS,rfl,_⟩:=hF.stack.val
   obtain ⟨aP,cP,rfl,_⟩:=hF.spine.val
   have lk:=lt_of_heap hcf
   have lb:=lt_of_heap p1
   have nk:w1.heap.size≠k:=fun e=>by have:=hF.tk;rw [← e,nt _ (by omega)] at this;cases this
   have fb:fs'≠some w1.heap.size:=fun e=>by have:=p3 _ e;omega
   have fk:fs'≠some k:=fun e=>own_kind p2 e hcf (by decide)
   unfold ir22B1
   (try simp only [go_sem,simprocAttr,cell_of hcf,frCells,ptr])
   refine ir_cond rfl (fun hr=>?_) (fun hr=>?_)
   · have hrow:seeRow f=[I f.glob,I f.at',I f.stack.length]:=by unfold seeRow;rw [if_pos hr]
     (try simp only [go_sem,simprocAttr,cell_of hcf,frCells,cell_of p1,sightCells])
     refine e_bs (by rfl) (by rfl) ?_
     intro W1 hB1 hM1 _
     have q1:=hM1.old w1.heap.size lb (fun h=>h)
     (try simp only [go_sem,simprocAttr])
     refine ⟨by simp only [drew_heap,q1,and_self,implies_true],?_⟩
     refine e_ap (m:=1) (news:=seeRow f) rfl ((p2.mod (Mod.refl (fun _=>False) W).drew (fun _ _ h=>h)).mod hM1 (fun _ _ h=>h)) rfl (fun h=>by cases h) (by rw [hrow];exact rd_block (xs:=[I f.glob,I f.at',I f.stack.length]) hB1) (seeRow_one f) rfl (by omega) (by omega) ?_
     intro v2 W2 fs2 hO2 hM2 hF2
     obtain ⟨a2,c2,rfl,_⟩:=hO2.val
     have hC2:=hM2.at (hM1.at (show W.drew.heap[w1.heap.size]? = _ from p1) (fun h=>h)) fb
     (try simp only [go_sem,simprocAttr])
     refine e_st1 (off:=1) rfl rfl hC2 rfl (by simp [sightCells]) ?_
     intro W3 hB3 hM3 _
     (try simp only [go_sem,simprocAttr])
     have hX:Mod (fun b=>fs'=some b∨b=w1.heap.size) W W3:=(((hM1.of_drew).weak (fun _ h=>h.elim)).step hM2 (fun b hb _=>.inl hb)).step hM3 (fun b hb _=>.inr hb)
     refine ⟨keeps_of_mod hX (fun b hb o ho=>?_),keepB_of_mod hX (by omega) (by omega) (fun hh=>?_) (fun hh=>?_),⟨.slice a2 _ c2,fs2,by simpa [sightCells] using hB3,?_,fun b hb=>?_⟩,p4.step hX (fun b hb hl=>?_)⟩
     · rcases hb with hb | rfl
       · exact quiet_own_cells p2 hb ho
       · rw [p1] at ho;cases ho;rfl
     · rcases hh with hh | hh
       · have:=p3 _ hh;omega
       · exact nB hh
     · rcases hh with hh | hh
       · have:=p3 _ hh;omega
       · exact nF hh
     · have:=hO2.mod hM3 (fun b hb e=>by
         subst e
         rcases hF2 _ hb with h3 | h3
         · exact fb h3
         · have:=hM1.size;have e2:W.drew.heap.size=W.heap.size:=rfl;omega)
       simpa using this
     · rcases hF2 b hb with h1 | h1
       · exact p3 b h1
       · have:=hM1.size;have e2:W.drew.heap.size=W.heap.size:=rfl
         omega
     · rcases hb with hb | hb
       · have:=p3 b hb;omega
       · exact hb
   · have hrow:seeRow f=[I (-1),I 0,I f.spine.length]:=by unfold seeRow;rw [if_neg (by rw [hr];simp)]
     (try simp only [go_sem,simprocAttr,cell_of hcf,frCells,cell_of p1,sightCells])
     refine e_bs (by rfl) (by rfl) ?_
     intro W1 hB1 hM1 _
     have q1:=hM1.old w1.heap.size lb (fun h=>h)
     (try simp only [go_sem,simprocAttr])
     refine ⟨by simp only [drew_heap,q1,and_self,implies_true],?_⟩
     refine e_ap (m:=1) (news:=seeRow f) rfl ((p2.mod (Mod.refl (fun _=>False) W).drew (fun _ _ h=>h)).mod hM1 (fun _ _ h=>h)) rfl (fun h=>by cases h) (by rw [hrow];exact rd_block (xs:=[I (-1),I 0,I f.spine.length]) hB1) (seeRow_one f) rfl (by omega) (by omega) ?_
     intro v2 W2 fs2 hO2 hM2 hF2
     obtain ⟨a2,c2,rfl,_⟩:=hO2.val
     have hC2:=hM2.at (hM1.at (show W.drew.heap[w1.heap.size]? = _ from p1) (fun h=>h)) fb
     (try simp only [go_sem,simprocAttr])
     refine e_st1 (off:=1) rfl rfl hC2 rfl (by simp [sightCells]) ?_
     intro W3 hB3 hM3 _
     (try simp only [go_sem,simprocAttr])
     have hX:Mod (fun b=>fs'=some b∨b=w1.heap.size) W W3:=(((hM1.of_drew).weak (fun _ h=>h.elim)).step hM2 (fun b hb _=>.inl hb)).step hM3 (fun b hb _=>.inr hb)
     refine ⟨keeps_of_mod hX (fun b hb o ho=>?_),keepB_of_mod hX (by omega) (by omega) (fun hh=>?_) (fun hh=>?_),⟨.slice a2 _ c2,fs2,by simpa [sightCells] using hB3,?_,fun b hb=>?_⟩,p4.step hX (fun b hb hl=>?_)⟩
     · rcases hb with hb | rfl
       · exact quiet_own_cells p2 hb ho
       · rw [p1] at ho;cases ho;rfl
     · rcases hh with hh | hh
       · have:=p3 _ hh;omega
       · exact nB hh
     · rcases hh with hh | hh
       · have:=p3 _ hh;omega
       · exact nF hh
     · have:=hO2.mod hM3 (fun b hb e=>by
         subst e
         rcases hF2 _ hb with h3 | h3
         · exact fb h3
         · have:=hM1.size;have e2:W.drew.heap.size=W.heap.size:=rfl;omega)
       simpa using this
     · rcases hF2 b hb with h1 | h1
       · exact p3 b h1
       · have:=hM1.size;have e2:W.drew.heap.size=W.heap.size:=rfl
         omega
     · rcases hb with hb | hb
       · have:=p3 b hb;omega
       · exact hb
 · intro D W hD hI hDd
   rw [hl4,downto_revF] at hI
   obtain ⟨⟨v,fs',p1,p2,p3⟩,p4⟩:=hI
   have sW:=p4.size
   have hhW:=hh4.mod p4 (ext_refl _ _).wx (fun b _ e=>by subst e;exact nt _ (by omega))
   have hcW:=hhW.cells
   have hb2W:=p4.at hb14 (fun e=>n0 e)
   obtain ⟨av,cv,rfl,_⟩:=p2.val
   have lb:=lt_of_heap p1
   have fb:fs'≠some w1.heap.size:=fun e=>by have:=p3 _ e;omega
   have f0:fs'≠some w.heap.size:=fun e=>by have:=p3 _ e;omega
   have fD:fs'≠some D:=fun e=>by have:=quiet_own_cells p2 e hDd;cases this
   have hmW:Mod (fun _=>False) w W:=((hm1.trans hm13.of_drew).trans hm4).step p4 (fun b hb hl=>by omega)
   have hlen:M.frames.reverse.length=M.frames.length:=by simp
   rw [hlen] at p2
   (try simp only [go_sem,simprocAttr])
   (try simp only [go_sem,simprocAttr,cell_of hcW,mcCells,ptr])
   refine ir_cond rfl (fun hz=>?_) (fun hz=>?_)
   · simp only [zb1,zb2,zb3,zb4,zb5] at hz
     have hlv:liveOf M=liveS M:=by unfold liveOf;rw [if_pos hz]
     have hok:MOk n M:=hM.resolve_right hz
     (try simp only [go_sem,simprocAttr])
     refine e_call (by rfl) ?_
     refine (m_reached ⟨_,_,_,_,_,_,_,_,_,hhW⟩ hok hn).mono ?_
     rintro _ W1 ⟨rfl,hM1⟩
     (try simp only [go_sem,simprocAttr])
     refine e_st1 (off:=2) rfl rfl (hM1.at p1 (fun h=>h)) rfl (by simp [sightCells]) ?_
     intro W2 hB2 hM2 _
     have hB2':W2.heap[w1.heap.size]? = some (.cells [I M.steps,.slice av M.frames.reverse.length cv,I (liveS M),I M.ended].toArray 59 (0,0)):=hB2
     (try simp only [go_sem,simprocAttr,ln_of (cs:=[_,_,_,_]) (off:=0) (n:=4) hB2' (by simp)])
     refine e_sta (cs:=[I 0,.slice none 0 0,I 0,I 0]) rfl rfl (hM2.at (hM1.at hb2W (fun h=>h)) (fun e=>by omega)) rfl rfl (by simp [Value.oneCell']) ?_
     intro W3 hB3 hM3 _
     (try simp only [go_sem,simprocAttr])
     have sM1:=hM1.size
     have hD3:=hM3.at (hM2.at (hM1.at hDd (fun h=>h)) (fun e=>by omega)) (fun e=>by omega)
     refine fin_one (.inr rfl) hD3 (fun w' hm=>?_)
     have hB4:=hm.at hB3 (fun e=>by omega)
     (try simp only [go_sem,simprocAttr,ln_of (cs:=[_,_,_,_]) (off:=0) (n:=4) hB4 (by simp)])
     have hO:=(((p2.mod hM1 (fun _ _ h=>h)).mod hM2 (fun b hb e=>by subst e;exact fb hb)).mod hM3 (fun b hb e=>by subst e;exact f0 hb)).mod hm (fun b hb e=>by subst e;exact fD hb)
     refine ⟨⟨.slice av M.frames.length cv,fs',by rw [hlv,hlen],hO,fun c hc=>by have:=p3 c hc;omega⟩,(((hmW.trans hM1).step hM2 (fun b hb hl=>by omega)).step hM3 (fun b hb hl=>by omega)).step hm (fun b hb hl=>by omega)⟩
   · simp only [zb1,zb2,zb3,zb4,zb5] at hz
     have hlv:liveOf M=M.live:=by unfold liveOf;rw [if_neg (by simpa using hz)]
     have p1':W.heap[w1.heap.size]? = some (.cells [I M.steps,.slice av M.frames.reverse.length cv,I M.live,I M.ended].toArray 59 (0,0)):=p1
     (try simp only [go_sem,simprocAttr,ln_of (cs:=[_,_,_,_]) (off:=0) (n:=4) p1' (by simp)])
     refine e_sta (cs:=[I 0,.slice none 0 0,I 0,I 0]) rfl rfl hb2W rfl rfl (by simp [Value.oneCell']) ?_
     intro W3 hB3 hM3 _
     (try simp only [go_sem,simprocAttr])
     refine fin_one (.inr rfl) (hM3.at hDd (fun e=>by omega)) (fun w' hm=>?_)
     have hB4:=hm.at hB3 (fun e=>by omega)
     (try simp only [go_sem,simprocAttr,ln_of (cs:=[_,_,_,_]) (off:=0) (n:=4) hB4 (by simp)])
     have hO:=(p2.mod hM3 (fun b hb e=>by subst e;exact f0 hb)).mod hm (fun b hb e=>by subst e;exact fD hb)
     refine ⟨⟨.slice av M.frames.length cv,fs',by rw [hlv,hlen],hO,fun c hc=>by have:=p3 c hc;omega⟩,(hmW.step hM3 (fun b hb hl=>by omega)).step hm (fun b hb hl=>by omega)⟩
end
end
section
open Go Go.W
section
variable {w:World} {τ:Tag} {m:Nat} {S:SV} {M:Mc} {ks:List Nat} {n:Int}
theorem m_run (h:MAt w τ m S M ks) (hM:Alive n M) (hn:n≤500000) (hn0:0≤n) (href:M.st.kd≠.ref) (hs:0≤M.steps∧M.steps≤500000) (hg:M.ended=0→0 < M.globals.length) {c:Int} (hc:c≤400000) :
   CallsR Tryz.prog 18 [ptr m,I c] w fun r w'=>r=I ((M.steps' c.toNat).steps - M.steps)∧∃ ks',MOp w τ m S (M.steps' c.toNat) ks' w':=by
 obtain ⟨vG,vF,vW,vT,fg,ff,fw,ft,F,hh⟩:=id h
 have hcm:=hh.cells
 refine fit18.calls rfl ?_
 unfold ir18
 (try simp only [go_sem,simprocAttr,cell_of hcm,mcCells,ptr])
 refine ir_loop (fun z ρ w'=>∃ (i:Nat) (ks':List Nat),z=c.toNat - i∧i≤c.toNat∧MOp w τ m S (M.steps' i) ks' w'∧ρ=[(0,ptr m),(1,I c),(5,I M.steps)]) c.toNat ⟨0,ks,rfl,by omega,⟨τ,ext_refl _ _,h,Mod.refl _ _⟩,rfl⟩ ?_
 rintro z ρ w1 ⟨i,ks',rfl,hi,hop,rfl⟩
 obtain ⟨τ1,j1,h1,j2⟩:=hop
 obtain ⟨vG1,vF1,vW1,vT1,fg1,ff1,fw1,ft1,F1,hh1⟩:=id h1
 have hc1:=hh1.cells
 obtain ⟨s1,s2,s3⟩:=steps_count M i
 have q1:IntKind.i64.wrap ((M.steps' i).steps - M.steps)=(M.steps' i).steps - M.steps:=wrap_in (by omega) (by omega)
 unfold ir18L1
 (try simp only [go_sem,simprocAttr,cell_of hc1,mcCells,ptr])
 refine wpS_cut (fun ρ w'=>w1=w'∧ρ.get 0=some (ptr m)∧ρ.get 1=some (I c)∧ρ.get 5=some (I M.steps)∧ρ.get 24=some (.bool (decide ((M.steps' i).ended=0∧(M.steps' i).steps - M.steps < c)))) ?_ ?_
 · cases he:((M.steps' i).ended == 0)
   · (try simp only [go_sem,simprocAttr,cell_of hc1,mcCells,he])
     simp only [zb1,zb2,zb3,zb4,zb5] at he
     simp [he]
   · (try simp only [go_sem,simprocAttr,cell_of hc1,mcCells,he,q1])
     simp only [zb1,zb2,zb3,zb4,zb5] at he
     simp [he]
 rintro ρ _ ⟨rfl,r0,r1,r5,r24⟩
 (try simp only [go_sem,simprocAttr,r0,r1,r5,r24])
 refine ir_cond rfl (fun hh=>?_) (fun hh=>?_)
 · simp only [zb1,zb2,zb3,zb4,zb5] at hh
   have hlt:i < c.toNat:=by have:=s3 hh.1;omega
   (try simp only [go_sem,simprocAttr])
   refine e_call (by rfl) ?_
   have hA:=hM.steps i
   refine (m_step h1 (hA.ok hh.1) (by omega) (steps_kd href i) ⟨by omega,by omega⟩ (by rw [(stat_steps M i).gl];exact hg (Classical.byContradiction fun h0=>by have e0:M.steps' i=M:=steps_end' (i:=0) (M:=M) h0 (Nat.zero_le i);rw [e0] at hh;exact h0 hh.1))).mono ?_
   rintro _ w2 ⟨rfl,ks2,hop2⟩
   (try simp only [go_sem,simprocAttr])
   exact ⟨_,by omega,i+1,ks2,rfl,by omega,MOp.cat j1 j2 hop2⟩
 · simp only [zb1,zb2,zb3,zb4,zb5] at hh
   have hfin:M.steps' c.toNat=M.steps' i:=by
     by_cases he:(M.steps' i).ended=0
     · have:=s3 he
       have:i=c.toNat:=by
         apply Classical.byContradiction
         intro hne
         exact hh ⟨he,by omega⟩
       rw [this]
     · exact steps_end' he hi
   (try simp only [go_sem,simprocAttr,cell_of hc1,mcCells,q1])
   rw [hfin]
   exact ⟨rfl,ks',τ1,j1,h1,j2⟩
end
end
section
open Go Go.W
theorem addr_add (a:Addr) (i k:Nat):(a.add i).add k=a.add (i+k):=by
 unfold Addr.add
 by_cases hi:i=0
 · subst hi;simp
 · by_cases hk:k=0
   · subst hk;simp
   · have:i+k≠0:=by omega
     simp [hi,hk,this,Nat.add_assoc]
theorem flat_lenR {sz:Nat}:∀ (rows:List (List Value)),(∀ r∈rows,r.length=sz)→(rows.flatMap id).length=rows.length*sz:=by
 intro rows
 induction rows with
 | nil=>intro _;simp
 | cons r rows ih=>
   intro hr
   have h0:=hr r (by simp)
   simp only [List.flatMap_cons,id,List.length_append,List.length_cons,ih (fun r hr'=>hr r (by simp [hr'])),h0,Nat.add_mul];omega
theorem rows_rd {w:World} {a:Option Addr} {n c sz:Nat} {rows:List (List Value)} {B:Nat→Prop} (h:RowsAt w (.slice a n c) sz rows B) (hsz:0 < sz):n=rows.length∧RdCells w a (n*sz) (rows.flatMap id)∧(a=none→n=0):=by
 obtain ⟨a',c',e,_,hx⟩:=h
 simp only [Value.slice.injEq] at e
 obtain ⟨rfl,rfl,rfl⟩:=e
 have hr:∀ r∈rows,r.length=sz:=fun r hr=>by
   obtain ⟨i,hi,rfl⟩:=List.getElem_of_mem hr
   obtain ⟨_,_,h1,_⟩:=hx i hi
   exact h1
 refine ⟨rfl,⟨flat_lenR rows hr,fun ad had j v hv=>?_⟩,fun ha=>?_⟩
 · have hj:j < rows.length*sz:=by rw [← flat_lenR rows hr];exact (List.getElem?_eq_some_iff.1 hv).1
   have hi:j / sz < rows.length:=(Nat.div_lt_iff_lt_mul hsz).2 hj
   have hk:j % sz < sz:=Nat.mod_lt _ hsz
   have hf:=flat_rows rows hr (j / sz) hi (j % sz) hk
   have e:j / sz*sz+j % sz=j:=by rw [Nat.mul_comm];exact Nat.div_add_mod j sz
   rw [e,hv] at hf
   obtain ⟨ad',e1,h1,h2⟩:=hx (j / sz) hi
   rw [had] at e1
   cases e1
   have h3:=h2 (j % sz) (by rw [h1];exact hk)
   rw [List.getElem?_eq_getElem (by rw [h1];exact hk)] at hf
   simp only [Option.some.injEq] at hf
   rw [← hf] at h3
   rw [addr_add,e] at h3
   exact h3
 · apply Classical.byContradiction
   intro hne
   obtain ⟨ad,e1,_⟩:=hx 0 (by omega)
   rw [ha] at e1;cases e1
theorem own_cells2 {w:World} {T sz n:Nat} {v:Value} {xs:List Value} {fp:Option Nat} (h:OwnS w T sz v xs n fp) {b:Nat} (hb:fp=some b):∃ cs,w.heap[b]? = some (.cells cs T (0,0)):=by
 obtain ⟨_,⟨_,_,e⟩ | ⟨b',c,sp,_,e,h5,_⟩⟩:=h
 · rw [e] at hb;cases hb
 · rw [e] at hb;cases hb;exact ⟨_,h5⟩
def glRow (g:Gl) (v:Value):List Value:=[.string g.name,I g.arity,v]
theorem insRow_len (l:List Ins):∀ r∈l.map insRow,r.length=3:=by
 intro r hr
 obtain ⟨x,_,rfl⟩:=List.mem_map.1 hr
 rfl
theorem insRow_one (l:List Ins):∀ u∈(l.map insRow).flatMap id,u.oneCell'=true:=by
 intro u hu
 obtain ⟨r,hr,hu⟩:=List.mem_flatMap.1 hu
 obtain ⟨x,_,rfl⟩:=List.mem_map.1 hr
 simp only [id,insRow,List.mem_cons,List.not_mem_nil,or_false] at hu
 rcases hu with rfl | rfl | rfl<;>rfl
theorem shRow_len (l:List Shp):∀ r∈l.map shRow,r.length=2:=by
 intro r hr
 obtain ⟨x,_,rfl⟩:=List.mem_map.1 hr
 rfl
theorem shRow_one (l:List Shp):∀ u∈(l.map shRow).flatMap id,u.oneCell'=true:=by
 intro u hu
 obtain ⟨r,hr,hu⟩:=List.mem_flatMap.1 hu
 obtain ⟨x,_,rfl⟩:=List.mem_map.1 hr
 simp only [id,shRow,List.mem_cons,List.not_mem_nil,or_false] at hu
 rcases hu with rfl | rfl<;>rfl
def CodesAt (w w':World) (l:List Gl) (codes:List Value):Prop:=∀ (j:Nat) (g:Gl) (v:Value),l[j]? = some g→codes[j]? = some v→∃ fc,OwnS w' 66 3 v ((g.code.map insRow).flatMap id) g.code.length fc∧∀ b,fc=some b→w.heap.size≤b
theorem CodesAt.mod {w w' w'':World} {l:List Gl} {codes:List Value} {X:Nat→Prop} (h:CodesAt w w' l codes) (hm:Mod X w' w'') (hX:∀ b,X b→∃ cs T0,w'.heap[b]? = some (.cells cs T0 (0,0))∧T0≠66):CodesAt w w'' l codes:=by
 intro j g v hg hv
 obtain ⟨fc,h1,h2⟩:=h j g v hg hv
 refine ⟨fc,h1.mod hm (fun b hb hx=>?_),h2⟩
 obtain ⟨cs,T0,h3,h4⟩:=hX b hx
 exact own_kind h1 hb h3 (fun e=>h4 e.symm)
section
variable {w:World} {vsh vgl:Value} {T:Tab} {B:Nat→Prop}
theorem f_copied (h:TabAt w vsh vgl T B) (hT:TabOk T):CallsR Tryz.prog 36 [tabV vsh vgl] w fun r w'=>∃ vsh' vgl',r=tabV vsh' vgl'∧TabAt w' vsh' vgl' T (fun b=>w.heap.size≤b∧b < w'.heap.size)∧Mod (fun _=>False) w w':=by
 have h0:=h
 obtain ⟨⟨aS,cS,rfl⟩,aG,cG,rfl⟩:=tab_sl h
 have hgn:=hT.gn
 have hsn:=hT.sn
 refine fit36.calls rfl ?_
 unfold ir36 tabV
 (try simp only [go_sem,simprocAttr])
 refine e_bx rfl ?_
 intro w1 hb1 hm1 hs1
 (try simp only [go_sem,simprocAttr])
 refine e_al ?_
 intro w2 hb2 hm2 hs2
 have hm02:=hm1.trans hm2
 have hb12:=hm2.at hb1 (fun h=>h)
 have h2:=h0.mod hm02 (fun _ _ h=>h) (fun _ h=>h)
 obtain ⟨_,hrd,hna⟩:=rows_rd h2.1 (by decide)
 (try simp only [go_sem,simprocAttr,cell_of hb12,Value.cells])
 refine e_call (by rfl) ?_
 refine (cloneShape hrd (shRow_one _) hna (by omega)).mono ?_
 rintro vs' w3 ⟨fS,hoS,hfS,hm3⟩
 obtain ⟨aS',cS',rfl,_⟩:=hoS.val
 (try simp only [go_sem,simprocAttr])
 refine e_al ?_
 intro w4 hb4 hm4 _
 refine e_sta (cs:=[.slice none 0 0,.slice none 0 0]) rfl rfl hb4 rfl rfl (by simp [Value.oneCell']) ?_
 intro w5 hb5 hm5 _
 have hm35:Mod (fun _=>False) w3 w5:=hm4.step hm5 (fun x hx hl=>by subst hx;omega)
 have hm05:=(hm02.trans hm3).trans hm35
 have hb15:=(hm3.trans hm35).at hb12 (fun h=>h)
 have hb25:=(hm3.trans hm35).at hb2 (fun h=>h)
 have hoS5:=hoS.mod hm35 (fun _ _ h=>h)
 have l1:=lt_of_heap hb1
 have l2:=lt_of_heap hb2
 have s02:=hm02.size
 have s23:=hm3.size
 have s1:=hm1.size
 (try simp only [go_sem,simprocAttr,cell_of hb15,Value.cells])
 refine ir_loop (fun z ρ w'=>∃ (i:Nat) (codes:List Value) (vg:Value) (f:Option Nat),z=T.globals.length - i∧i≤T.globals.length∧codes.length=i∧Mod (fun _=>False) w w'∧w'.heap[w1.heap.size]? = w5.heap[w1.heap.size]? ∧
   w'.heap[w3.heap.size]? = some (.cells #[.slice aS' T.shapes.length cS',vg] 25 (0,0))∧OwnS w' 89 2 (.slice aS' T.shapes.length cS') ((T.shapes.map shRow).flatMap id) T.shapes.length fS ∧
   OwnS w' 70 3 vg ((List.zipWith glRow (T.globals.take i) codes).flatMap id) i f∧(∀ b,f=some b→w3.heap.size < b)∧CodesAt w w' (T.globals.take i) codes ∧
   ρ=[(2,ptr w1.heap.size),(3,ptr w3.heap.size),(11,.slice aG T.globals.length cG),(12,I T.globals.length),(13,I i)]) T.globals.length
   ⟨0,[],.slice none 0 0,none,rfl,by omega,rfl,hm05,rfl,hb5,by simpa using hoS5,OwnS.nil _ _ _,(fun b hb=>by cases hb),(fun j g v hg=>by simp at hg),rfl⟩ ?_
 rintro z ρ w6 ⟨i,codes,vg,f,rfl,hi,hcl,hm6,hk1,hb6,hoS6,hoG,hfG,hcd,rfl⟩
 obtain ⟨aV,cV,rfl,_⟩:=hoG.val
 unfold ir36L1
 (try simp only [go_sem,simprocAttr])
 refine ir_cond rfl (fun hlt=>?_) (fun hlt=>?_)
 · have hlt:i < T.globals.length:=by simpa using hlt
   have h6:=h0.mod hm6 (fun _ _ h=>h) (fun _ h=>h)
   obtain ⟨ad,c,cv,e',hln,hcv⟩:=glob_ln h6 hlt
   cases e'
   have hgk:=hT.gls _ (List.getElem_mem hlt)
   have htk:=List.take_succ_eq_append_getElem hlt
   generalize T.globals[i]=g at *
   obtain ⟨acv,ccv,rfl⟩:=rows_sl hcv
   rw [List.length_map] at *
   have b1':(0:Int)≤i∧(i:Int) < T.globals.length:=by omega
   unfold glV at hln
   (try simp only [go_sem,simprocAttr,zb4,zb6,b1',hln])
   refine e_al ?_
   intro w7 hb70 hm7 _
   refine e_sta (cs:=[.string ⟨#[]⟩,I 0,.slice none 0 0]) rfl rfl hb70 rfl rfl (by simp [Value.oneCell']) ?_
   intro w8 hb8 hm8 _
   have hm68:Mod (fun _=>False) w6 w8:=hm7.step hm8 (fun x hx hl=>by subst hx;omega)
   have hb68:w8.heap[w3.heap.size]? = _:=hm68.at hb6 (fun h=>h)
   have hcv8:=hcv.mod (hm68.drew) (fun _ _ h=>h) (fun _ h=>h)
   obtain ⟨_,hrd8,hna8⟩:=rows_rd hcv8 (by decide)
   have hb8':w8.heap[w6.heap.size]? = some (.cells #[.string g.name,I g.arity,.slice acv g.code.length ccv] 70 (0,0)):=hb8
   have l6:=lt_of_heap hb6
   have lb8:=lt_of_heap hb8'
   have lb68:=lt_of_heap hb68
   (try simp only [go_sem,simprocAttr,cell_of hb68,cell_of hb8'])
   refine e_call (by rfl) ?_
   refine (cloneInstr hrd8 (insRow_one _) hna8 (by omega)).mono ?_
   rintro vc w9 ⟨fc,hoc,hfc,hm9⟩
   have k1:=hm9.old w3.heap.size lb68 (fun h=>h)
   have k2:=hm9.old w6.heap.size lb8 (fun h=>h)
   obtain ⟨ac',cc',rfl,_⟩:=hoc.val
   (try simp only [go_sem,simprocAttr])
   refine ⟨by simp only [drew_heap,k1,k2,and_self,implies_true],?_⟩
   refine e_bs (by rfl) (by rfl) ?_
   intro w10 hb10 hm10 _
   have k3:=hm10.old w3.heap.size (by have:=hm9.size;exact Nat.lt_of_lt_of_le lb68 this) (fun h=>h)
   (try simp only [go_sem,simprocAttr])
   refine ⟨by simp only [drew_heap,k3,and_self,implies_true],?_⟩
   have hm8d:Mod (fun _=>False) w8 w9:=Mod.of_drew hm9
   have hm6_10:=(hm68.trans hm8d).trans hm10
   refine e_ap (m:=1) (news:=glRow g (.slice ac' g.code.length cc')) rfl (hoG.mod hm6_10 (fun _ _ h=>h)) rfl (fun h=>by cases h) (rd_block (xs:=glRow g (.slice ac' g.code.length cc')) hb10) (by simp [glRow,Value.oneCell']) rfl (by omega) (by omega) ?_
   intro v11 w11 f11 ho11 hm11 hf11
   obtain ⟨a11,c11,rfl,_⟩:=ho11.val
   have fb3:f≠some w3.heap.size:=fun e=>by have:=hfG _ e;omega
   have hb11:=hm11.at (hm6_10.at hb6 (fun h=>h)) fb3
   (try simp only [go_sem,simprocAttr])
   refine e_st1 (off:=1) rfl rfl hb11 rfl (by simp) ?_
   intro w12 hb12' hm12 _
   have e1:IntKind.i64.wrap ((i:Int)+1)=((i+1:Nat):Int):=by rw [wrap_in (by omega) (by omega)];omega
   (try simp only [go_sem,simprocAttr,e1])
   have s610:=hm6_10.size
   have hX:Mod (fun b=>f=some b∨b=w3.heap.size) w10 w12:=(hm11.weak (fun b hb=>.inl hb)).step hm12 (fun b hb _=>.inr hb)
   have hX':∀ b,(f=some b∨b=w3.heap.size)→∃ cs T0,w10.heap[b]? = some (.cells cs T0 (0,0))∧T0≠66:=by
     rintro b (hb | rfl)
     · obtain ⟨cs,hcs⟩:=own_cells2 (hoG.mod hm6_10 (fun _ _ h=>h)) hb
       exact ⟨cs,_,hcs,by decide⟩
     · exact ⟨_,_,hm6_10.at hb6 (fun h=>h),by decide⟩
   have fw:∀ b,f=some b→¬ b < w.heap.size:=fun b hb=>by have:=hfG b hb;omega
   refine ⟨_,by omega,i+1,codes++[.slice ac' g.code.length cc'],.slice a11 (i+1) c11,f11,rfl,by omega,by simp [hcl],?_,?_,hb12',?_,?_,fun b hb=>?_,?_,rfl⟩
   · exact (hm6.trans hm6_10).step hX (fun b hb hl=>by
       rcases hb with hb | rfl
       · exact absurd hl (fw b hb)
       · omega)
   · rw [← hk1]
     have l16:w1.heap.size < w6.heap.size:=by omega
     rw [hX.old w1.heap.size (by omega) (fun hb=>by
       rcases hb with hb | hb
       · have:=hfG _ hb;omega
       · omega),hm6_10.old _ l16 (fun h=>h)]
   · refine (hoS6.mod hm6_10 (fun _ _ h=>h)).mod hX (fun b hb hx=>?_)
     rcases hx with hx | rfl
     · obtain ⟨cs,hcs⟩:=own_cells2 (hoG.mod hm6_10 (fun _ _ h=>h)) hx
       exact own_kind (hoS6.mod hm6_10 (fun _ _ h=>h)) hb hcs (by decide)
     · exact own_kind hoS6 hb hb6 (by decide)
   · have hz:(List.zipWith glRow (T.globals.take (i+1)) (codes++[.slice ac' g.code.length cc'])).flatMap id=(List.zipWith glRow (T.globals.take i) codes).flatMap id++glRow g (.slice ac' g.code.length cc'):=by
       rw [htk,List.zipWith_append (by rw [List.length_take,hcl];omega),List.flatMap_append]
       simp
     rw [hz]
     exact ho11.mod hm12 (fun b hb e=>by
       subst e
       rcases hf11 _ hb with h1 | h1
       · exact fb3 h1
       · omega)
   · rcases hf11 b hb with h1 | h1
     · exact hfG b h1
     · omega
   · intro j g' v' hg' hv'
     rw [htk] at hg'
     by_cases hj:j < i
     · rw [List.getElem?_append_left (by rw [List.length_take];omega)] at hg'
       rw [List.getElem?_append_left (by omega)] at hv'
       exact (hcd.mod hm6_10 (fun _ h=>h.elim)).mod hX hX' j g' v' hg' hv'
     · have hj2:j < (T.globals.take i++[g]).length:=(List.getElem?_eq_some_iff.1 hg').1
       rw [List.length_append,List.length_take] at hj2
       simp at hj2
       obtain rfl:j=i:=by omega
       rw [List.getElem?_append_right (by rw [List.length_take];omega)] at hg'
       rw [List.getElem?_append_right (by omega)] at hv'
       rw [List.length_take,show j - min j T.globals.length=0 by omega] at hg'
       rw [hcl,Nat.sub_self] at hv'
       simp at hg' hv'
       subst hg';subst hv'
       have hoc10:=hoc.mod hm10 (fun _ _ h=>h)
       refine ⟨fc,hoc10.mod hX (fun b hb hx=>?_),fun b hb=>by have:=hfc b hb;have:=hm6.size;have:=hm68.size;have e8:w8.drew.heap.size=w8.heap.size:=rfl;omega⟩
       obtain ⟨cs,T0,h3,h4⟩:=hX' b hx
       exact own_kind hoc10 hb h3 (fun e=>h4 e.symm)
 · have hlt:¬ i < T.globals.length:=by simpa using hlt
   obtain rfl:i=T.globals.length:=by omega
   rw [List.take_length] at *
   have hb26:w6.heap[w1.heap.size]? = _:=hk1.trans hb25
   (try simp only [go_sem,simprocAttr,ln_of (cs:=[_,_]) (off:=0) (n:=2) hb6 (by simp)])
   refine e_sta (cs:=[.slice none 0 0,.slice none 0 0]) rfl rfl hb26 rfl rfl (by simp [Value.oneCell']) ?_
   intro w7 hb7 hm7 _
   (try simp only [go_sem,simprocAttr,ln_of (cs:=[_,_]) (off:=0) (n:=2) hb7 (by simp)])
   have hm07:Mod (fun _=>False) w w7:=hm6.step hm7 (fun x hx hl=>by subst hx;omega)
   have l7:∀ {T0 sz n:Nat} {v:Value} {xs:List Value} {fp:Option Nat},OwnS w7 T0 sz v xs n fp→∀ b,fp=some b→b < w7.heap.size:=fun h b hb=>h.lt hb
   have hoS7:=hoS6.mod hm7 (fun b hb e=>by subst e;exact own_kind hoS6 hb hb26 (by decide))
   have hoG7:=hoG.mod hm7 (fun b hb e=>by subst e;exact own_kind hoG hb hb26 (by decide))
   have hcd7:=hcd.mod hm7 (fun b hb=>by subst hb;exact ⟨_,_,hb26,by decide⟩)
   refine ⟨_,_,rfl,⟨?_,codes,hcl,?_,?_⟩,hm07⟩
   · obtain ⟨a,c,e,hB,hx⟩:=own_rows (by rw [List.length_map];exact hoS7) (shRow_len T.shapes)
     exact ⟨a,c,e,fun hz ad had=>⟨by have:=hfS _ (hB hz ad had);omega,l7 hoS7 _ (hB hz ad had)⟩,hx⟩
   · have hzl:(List.zipWith glRow T.globals codes).length=T.globals.length:=by simp [hcl]
     obtain ⟨a,c,e,hB,hx⟩:=own_rows (rows:=List.zipWith glRow T.globals codes) (by rw [hzl];exact hoG7) (fun r hr=>by
       obtain ⟨j,hj,rfl⟩:=List.getElem_of_mem hr
       simp [glRow])
     exact ⟨a,c,e,fun hz ad had=>⟨by have:=hfG _ (hB hz ad had);omega,l7 hoG7 _ (hB hz ad had)⟩,hx⟩
   · intro j g v hg hv
     obtain ⟨fc,h1,h2⟩:=hcd7 j g v hg hv
     obtain ⟨a,c,e,hB,hx⟩:=own_rows (by rw [List.length_map];exact h1) (insRow_len g.code)
     exact ⟨a,c,e,fun hz ad had=>⟨h2 _ (hB hz ad had),l7 h1 _ (hB hz ad had)⟩,hx⟩
end
end
section
open Go Go.W
def newErr (T:Tab) (entry:ByteArray) (input:List Int) (heap every:Int):Int:=
 if input.length > 10000 then 2
 else if input.any (fun n=>!numB n)=true∨heap < 1∨heap > 1048576∨every < 0 then 1
 else if checkS T≠0 then checkS T
 else if entryS entry T.globals 0=none then 220 else 0
def firstNs (n:Nat):List Nd:=(List.range n).map fun i:Nat=>⟨4,(i:Int),[]⟩
def newI (T:Tab) (input:List Int) (heap:Int) (gens:Bool) (every:Int) (i:Nat):Mc:=
 ⟨T,input,gens,every,newY gens heap,0,(List.range i).map (fun i:Nat=>(i:Int)),[],[],false,[],0,0,0,0,⟨newKd gens heap,heap,firstNs i⟩⟩
def newM (T:Tab) (entry:ByteArray) (input:List Int) (heap:Int) (gens:Bool) (every:Int):Mc:=
 if (T.globals.length:Int)≤heap then { newI T input heap gens every T.globals.length with wait:=[entryI entry T]}
 else { newI T input heap gens every heap.toNat with globals:=[],ended:=5}
theorem firstNs_len (n:Nat):(firstNs n).length=n:=by simp [firstNs]
theorem firstNs_succ (n:Nat):firstNs (n+1)=firstNs n++[⟨4,(n:Int),[]⟩]:=by simp [firstNs,List.range_succ]
theorem firstNs_ok (n:Nat):WF (firstNs n):=by
 intro nd hnd
 obtain ⟨i,hi,rfl⟩:=List.mem_map.1 hnd
 exact ⟨by simp [Nd.may,mayB],rfl⟩
theorem newSt_ok {gens:Bool} {heap:Int} (hh:1≤heap∧heap≤1048576) {i:Nat} (hi:(i:Int)≤heap):St.Ok ⟨newKd gens heap,heap,firstNs i⟩:=by
 refine ⟨firstNs_ok i,by rw [firstNs_len];exact hi,hh.1,hh.2,?_⟩
 show (newKd gens heap).ok _
 unfold newKd
 cases gens with
 | false=>exact trivial
 | true=>
   have:newY true heap=if heap.tdiv 8 > 1 then heap.tdiv 8 else 1:=rfl
   have h8:heap.tdiv 8≤heap:=by rw [Int.tdiv_eq_ediv_of_nonneg (by omega)];omega
   refine ⟨Nat.zero_le _,?_,?_⟩<;>rw [this]<;>split<;>omega
open Classical in
theorem new_pack {w w6 w9 w':World} {m:Nat} {S:SV} {M:Mc} {vG vW:Value} {fg fw:Option Nat} {F:Nat→Prop} (hm:m=w9.heap.size) (h06:w.heap.size≤w6.heap.size) (h69:w6.heap.size≤w9.heap.size)
   (hc:w'.heap[m]? = some (.cells (mcCells S M vG (.slice none 0 0) vW (.slice none 0 0)).toArray 78 (0,0))) (hG:OwnS w' 3 1 vG (M.globals.map I) M.globals.length fg) (hW:OwnS w' 3 1 vW (M.wait.map I) M.wait.length fw)
   (hfr:M.frames=[]) (htl:M.told=[]) (hst:StAt w' S.sv M.st F) (hF:∀ b,F b→w.heap.size≤b∧(b < w6.heap.size∨m < b)) (hfg:∀ b,fg=some b→m < b∧¬ F b) (hfw:∀ b,fw=some b→m < b∧¬ F b∧fg≠some b)
   (htab:TabAt w' S.vsh S.vgl M.tab (fun b=>w6.heap.size≤b∧b < w9.heap.size)) (hin:Ints w' S.vin M.input) (hvin:∀ b,vblk S.vin=some b→w6.heap.size≤b∧b < w9.heap.size) (hrow:RowsAt w' S.vR 2 rowsV (fun b=>w6.heap.size≤b∧b < w9.heap.size)) :
   ∃ τ:Tag,MAt w' τ m S M []∧∀ b,b < w.heap.size→τ b = .no:=by
 have lm:=lt_of_heap hc
 refine ⟨fun b=>if b < w.heap.size then .no else if b=m then .m else if fg=some b then .gl else if fw=some b then .wt else if F b then .st else if w6.heap.size≤b∧b < w9.heap.size then .tb else .no,?_,fun b hb=>by simp only [if_pos hb]⟩
 have tb:∀ b,w6.heap.size≤b∧b < w9.heap.size→b < w'.heap.size∧(if b < w.heap.size then Tg.no else if b=m then .m else if fg=some b then .gl else if fw=some b then .wt else if F b then .st else if w6.heap.size≤b∧b < w9.heap.size then .tb else .no) = .tb:=by
   intro b hb
   have n1:¬ b < w.heap.size:=by omega
   have n2:b≠m:=by omega
   have n3:fg≠some b:=fun e=>by have:=(hfg b e).1;omega
   have n4:fw≠some b:=fun e=>by have:=(hfw b e).1;omega
   have n5:¬ F b:=fun e=>by have:=(hF b e).2;omega
   exact ⟨by omega,by rw [if_neg n1,if_neg n2,if_neg n3,if_neg n4,if_neg n5,if_pos hb]⟩
 refine ⟨vG,.slice none 0 0,vW,.slice none 0 0,fg,none,fw,none,F,hc,?_,hG,?_,?_,(fun b hb=>by cases hb),hW,?_,?_,(fun b hb=>by cases hb),hst,?_,by rw [hfr];rfl,?_,htab.mod (Mod.refl (fun _=>False) w') (fun _ _ h=>h) (fun b hb=>tb b hb),hin,fun b hb=>tb b (hvin b hb),hrow.mod (Mod.refl (fun _=>False) w') (fun _ _ h=>h) (fun b hb=>tb b hb)⟩
 · simp only [if_neg (show ¬ m < w.heap.size by omega),if_pos]
 · intro b hb
   have:=(hfg b hb).1
   simp only [if_neg (show ¬ b < w.heap.size by omega),if_neg (show b≠m by omega),if_pos hb]
 · exact OwnS.nil _ _ _
 · intro b hb
   have h1:=hfw b hb
   simp only [if_neg (show ¬ b < w.heap.size by omega),if_neg (show b≠m by omega),if_neg h1.2.2,if_pos hb]
 · rw [htl];exact OwnS.nil _ _ _
 · intro b hb
   have h1:=hF b hb
   have n2:b≠m:=by omega
   have n3:fg≠some b:=fun e=>(hfg b e).2 hb
   have n4:fw≠some b:=fun e=>(hfw b e).2.1 hb
   simp only [if_neg (show ¬ b < w.heap.size by omega),if_neg n2,if_neg n3,if_neg n4,if_pos hb]
 · intro i k f hk _
   simp at hk
section
variable {w:World} {vsh vgl vin:Value} {T:Tab} {B:Nat→Prop} {entry:ByteArray} {input:List Int} {heap every:Int} {gens:Bool}
def NewAt (w w':World) (M:Mc) (r:Value):Prop:=∃ τ m S,r = .tuple #[ptr m,I 0]∧MAt w' τ m S M []∧(∀ b,b < w.heap.size→τ b = .no)
theorem m_new (h:TabAt w vsh vgl T B) (hT:TabFit T) (hBl:∀ b,B b→b < w.heap.size) (hin:Ints w vin input) :
   CallsR Tryz.prog 15 [tabV vsh vgl,.string entry,vin,setV heap gens every] w fun r w'=>Mod (fun _=>False) w w' ∧
     (newErr T entry input heap every≠0→r = .tuple #[.pointer none,I (newErr T entry input heap every)])∧(newErr T entry input heap every=0→NewAt w w' (newM T entry input heap gens every) r):=by
 have h0:=h
 have hin0:=hin
 obtain ⟨⟨aS,cS,rfl⟩,aG,cG,rfl⟩:=tab_sl h
 obtain ⟨aI,cI,rfl,hIl,_⟩:=hin
 refine fit15.calls rfl ?_
 unfold ir15 tabV setV
 (try simp only [go_sem,simprocAttr])
 refine e_bx rfl ?_
 intro w1 hb1 hm1 hs1
 (try simp only [go_sem,simprocAttr])
 refine e_bx rfl ?_
 intro w2 hb2 hm2 hs2
 (try simp only [go_sem,simprocAttr])
 refine e_bx rfl ?_
 intro w3 hb3 hm3 hs3
 have hm03:=(hm1.trans hm2).trans hm3
 have hb13:=(hm2.trans hm3).at hb1 (fun h=>h)
 have hb23:=hm3.at hb2 (fun h=>h)
 have hb1:w3.heap[w.heap.size]? = some (.cells #[.slice aS T.shapes.length cS,.slice aG T.globals.length cG] 25 (0,0)):=hb13
 have hb2:w3.heap[w1.heap.size]? = some (.cells #[.string entry] 9 (0,0)):=hb23
 have hb3:w3.heap[w2.heap.size]? = some (.cells #[I heap,.bool gens,I every] 28 (0,0)):=hb3
 have bad:∀ e w',e≠0→newErr T entry input heap every=e→Mod (fun _=>False) w w'→(Mod (fun _=>False) w w'∧(newErr T entry input heap every≠0→Value.tuple #[.pointer none,I e] = .tuple #[.pointer none,I (newErr T entry input heap every)])∧(newErr T entry input heap every=0→NewAt w w' (newM T entry input heap gens every) (.tuple #[.pointer none,I e]))):=by
   intro e w' he h1 hm
   rw [h1]
   exact ⟨hm,fun _=>rfl,fun h=>absurd h he⟩
 have hE:newErr T entry input heap every=if input.length > 10000 then 2 else if input.any (fun n=>!numB n)=true∨heap < 1∨heap > 1048576∨every < 0 then 1 else if checkS T≠0 then checkS T else if entryS entry T.globals 0=none then 220 else 0:=rfl
 (try simp only [go_sem,simprocAttr])
 refine ir_blk (fun ρ w'=>w3=w'∧ρ.get 2=some (.slice aI input.length cI)∧ρ.get 4=some (ptr w.heap.size)∧ρ.get 5=some (ptr w1.heap.size)∧ρ.get 7=some (ptr w2.heap.size)∧¬ input.length > 10000∧¬ (input.any (fun n=>!numB n)=true∨heap < 1∨heap > 1048576∨every < 0)) ?_ ?_
 · refine ir_cond rfl (fun hl=>?_) (fun hl=>?_)
   · simp only [zb1,zb2,zb3,zb4,zb5] at hl
     rw [if_pos (by omega)] at hE
     (try simp only [go_sem,simprocAttr])
     exact bad 2 w3 (by decide) hE hm03
   simp only [zb1,zb2,zb3,zb4,zb5] at hl
   have hl:¬ input.length > 10000:=by omega
   rw [if_neg hl] at hE
   (try simp only [go_sem,simprocAttr])
   refine e_call (by rfl) ?_
   refine (contains_ok _ input w3 (hin0.mod hm03 (fun _ _ h=>h)) 30 _ #[] (fun n=>!numB n) rfl rfl rfl (fun x _=>by simpa using f_new1 w3 x)).mono ?_
   rintro _ _ ⟨rfl,rfl⟩
   (try simp only [go_sem,simprocAttr])
   cases hA:input.any (fun n=>!numB n) with
   | true=>
     rw [hA,if_pos (.inl rfl)] at hE
     (try simp only [go_sem,simprocAttr])
     exact bad 1 w3 (by decide) hE hm03
   | false=>
     cases h1:decide (heap < 1) with
     | true=>
       rw [if_pos (.inr (.inl (of_decide_eq_true h1)))] at hE
       (try simp only [go_sem,simprocAttr,cell_of hb3,h1])
       exact bad 1 w3 (by decide) hE hm03
     | false=>
       cases h2:decide (heap > 1048576) with
       | true=>
         rw [if_pos (.inr (.inr (.inl (of_decide_eq_true h2))))] at hE
         (try simp only [go_sem,simprocAttr,cell_of hb3,h1,h2])
         exact bad 1 w3 (by decide) hE hm03
       | false=>
         cases h3:decide (every < 0) with
         | true=>
           rw [if_pos (.inr (.inr (.inr (of_decide_eq_true h3))))] at hE
           (try simp only [go_sem,simprocAttr,cell_of hb3,h1,h2,h3])
           exact bad 1 w3 (by decide) hE hm03
         | false=>
           have q1:=of_decide_eq_false h1
           have q2:=of_decide_eq_false h2
           have q3:=of_decide_eq_false h3
           (try simp only [go_sem,simprocAttr,cell_of hb3,h1,h2,h3])
           exact ⟨by omega,by simp;omega⟩
 rintro ρ _ ⟨rfl,r2,r4,r5,r7,hl,hbad⟩
 rw [if_neg hl,if_neg hbad] at hE
 have hheap:1≤heap∧heap≤1048576:=by
   constructor
   · apply Classical.byContradiction;intro hh;exact hbad (.inr (.inl (by omega)))
   · apply Classical.byContradiction;intro hh;exact hbad (.inr (.inr (.inl (by omega))))
 have h3:=h0.mod hm03 (fun _ _ h=>h) (fun _ h=>h)
 (try simp only [go_sem,simprocAttr,r2,r4,r5,r7,ln_of (cs:=[_,_]) (off:=0) (n:=2) hb1 (by simp)])
 refine e_call (by rfl) ?_
 refine (f_Check h3 hT (fun b hb=>by have:=hBl b hb;have:=hm03.size;omega)).mono ?_
 rintro _ w4 ⟨rfl,hm4⟩
 have hm04:=hm03.trans hm4
 have hb14:=hm4.at hb1 (fun h=>h)
 have hb24:=hm4.at hb2 (fun h=>h)
 have hb34:=hm4.at hb3 (fun h=>h)
 (try simp only [go_sem,simprocAttr])
 refine ir_cond rfl (fun hc=>?_) (fun hc=>?_)
 · simp only [zb1,zb2,zb3,zb4,zb5] at hc
   rw [if_pos hc] at hE
   (try simp only [go_sem,simprocAttr])
   exact bad _ w4 hc hE hm04
 simp only [zb1,zb2,zb3,zb4,zb5] at hc
 rw [if_neg (by simpa using hc)] at hE
 obtain ⟨hTok,_⟩:=check_ok hc
 have h4:=h0.mod hm04 (fun _ _ h=>h) (fun _ h=>h)
 (try simp only [go_sem,simprocAttr,cell_of hb14])
 refine e_call (by rfl) ?_
 refine (f_entry h4 hT hb24).mono ?_
 rintro _ w5 ⟨rfl,hm5⟩
 have hm05:=hm04.trans hm5
 have hb15:=hm5.at hb14 (fun h=>h)
 have hb35:=hm5.at hb34 (fun h=>h)
 (try simp only [go_sem,simprocAttr])
 refine ir_cond rfl (fun he=>?_) (fun he=>?_)
 · simp only [zb1,zb2,zb3,zb4,zb5] at he
   have hn:entryS entry T.globals 0=none:=by
     unfold entryI at he
     split at he
     · omega
     · assumption
   rw [if_pos hn] at hE
   (try simp only [go_sem,simprocAttr])
   exact bad 220 w5 (by decide) hE hm05
 simp only [zb1,zb2,zb3,zb4,zb5] at he
 have hn:entryS entry T.globals 0≠none:=fun hn=>by
   have:entryI entry T = -1:=by unfold entryI;rw [hn]
   omega
 rw [if_neg hn] at hE
 obtain ⟨at',hat,hatl⟩:∃ j:Nat,entryI entry T=j∧j < T.globals.length:=by
   unfold entryI
   cases hx:entryS entry T.globals 0 with
   | none=>exact absurd hx hn
   | some j=>exact ⟨j,rfl,by have:=entryS_lt _ _ hx;omega⟩
 rw [hat]
 (try simp only [go_sem,simprocAttr,ln_of (cs:=[_,_,_]) (off:=0) (n:=3) hb35 (by simp)])
 refine e_call (by rfl) ?_
 refine (f_newStore w5 gens every hheap).mono ?_
 rintro _ w6 ⟨sv,F,rfl,hst,hm6,hF⟩
 obtain ⟨ti,ui,rfl⟩:=hst.iface
 have hm06:=hm05.trans hm6
 have hb16:=hm6.at hb15 (fun h=>h)
 have hb36:=hm6.at hb35 (fun h=>h)
 (try simp only [go_sem,simprocAttr,show ((0:Int) != 0)=false from rfl])
 have hb16d:w6.drew.heap[w.heap.size]? = _:=hb16
 have hb36d:w6.drew.heap[w2.heap.size]? = _:=hb36
 have l3:=lt_of_heap hb36
 have h6d:=h0.mod hm06.drew (fun _ _ h=>h) (fun _ h=>h)
 (try simp only [go_sem,simprocAttr,ln_of (cs:=[_,_]) (off:=0) (n:=2) hb16d (by simp),ln_of (cs:=[_,_,_]) (off:=0) (n:=3) hb36d (by simp)])
 refine e_call (by rfl) ?_
 refine (f_copied h6d hTok).mono ?_
 rintro _ w7 ⟨vsh',vgl',rfl,htab,hm7⟩
 have hm67:Mod (fun _=>False) w6 w7:=Mod.of_drew hm7
 have htab':TabAt w7 vsh' vgl' T (fun b=>w6.heap.size≤b∧b < w7.heap.size):=htab
 obtain ⟨⟨aS',cS',rfl⟩,aG',cG',rfl⟩:=tab_sl htab
 have k7:=hm7.old w2.heap.size l3 (fun h=>h)
 have s67:=hm67.size
 (try simp only [go_sem,simprocAttr,tabV])
 refine ⟨by simp only [drew_heap,k7,and_self,implies_true],?_⟩
 refine e_call (by rfl) ?_
 refine (clone_ok _ input w7 (hin0.mod (hm06.trans hm67) (fun _ _ h=>h))).mono ?_
 rintro vI w8 ⟨hm8,fI,hoI,hfI⟩
 obtain ⟨aI',cI',rfl,_⟩:=hoI.val
 have k8:=hm8.old w2.heap.size (by omega) (fun h=>h)
 have s78:=hm8.size
 (try simp only [go_sem,simprocAttr])
 refine ⟨by simp only [drew_heap,k8,and_self,implies_true],?_⟩
 refine e_call (by rfl) ?_
 refine (f_rows w8).mono ?_
 rintro vR w9 ⟨bR,⟨lR,lR9⟩,hrows,hm9⟩
 obtain ⟨aR,cR,rfl⟩:=rows_sl hrows
 have k9:=hm9.old w2.heap.size (by omega) (fun h=>h)
 have s89:=hm9.size
 (try simp only [go_sem,simprocAttr])
 refine ⟨by simp only [drew_heap,k9,and_self,implies_true],?_⟩
 refine e_bx rfl ?_
 intro w10 hb10 hm10 hs10
 have hm69:Mod (fun _=>False) w6 w9:=(hm67.trans hm8).trans hm9
 have hm6_10:=hm69.trans hm10
 have hb1_10:=hm6_10.at hb16 (fun h=>h)
 obtain ⟨S,hS⟩:∃ S:SV,S=⟨.slice aS' T.shapes.length cS',.slice aG' T.globals.length cG',.slice aI' input.length cI',.slice aR rowsV.length cR,.iface ti (.pointer (some ui))⟩:=⟨_,rfl⟩
 have hc10:w10.heap[w9.heap.size]? = some (.cells (mcCells S (newI T input heap gens every 0) (.slice none 0 0) (.slice none 0 0) (.slice none 0 0) (.slice none 0 0)).toArray 78 (0,0)):=by rw [hS];exact hb10
 (try simp only [go_sem,simprocAttr,cell_of hb1_10])
 have s9:w9.heap.size < w10.heap.size:=lt_of_heap hc10
 have h06:=hm06.size
 have h69:=hm69.size
 have s05:=hm05.size
 have s56:=hm6.size
 have hm9_10:Mod (fun _=>False) w9 w10:=hm10
 have htab10:TabAt w10 S.vsh S.vgl T (fun b=>w6.heap.size≤b∧b < w9.heap.size):=by
   rw [hS]
   exact htab'.mod ((hm8.trans hm9).trans hm10) (fun _ _ h=>h) (fun b hb=>⟨hb.1,by omega⟩)
 have hin10:Ints w10 S.vin input:=by
   rw [hS]
   exact ((hoI.ints (by omega)).1).mod (hm9.trans hm10) (fun _ _ h=>h)
 have hvin10:∀ b,vblk S.vin=some b→w6.heap.size≤b∧b < w9.heap.size:=by
   rw [hS]
   intro b hb
   obtain ⟨_,h2⟩:=hoI
   rcases h2 with ⟨e,_,_⟩ | ⟨b',c',sp,e,hf,hbb,_⟩
   · simp only [Value.slice.injEq] at e
     obtain ⟨rfl,_,_⟩:=e
     cases hb
   · simp only [Value.slice.injEq] at e
     obtain ⟨rfl,_,_⟩:=e
     have hbb':b'=b:=Option.some.inj hb
     subst hbb'
     have:=hfI b' hf
     have:=lt_of_heap hbb
     omega
 have hrow10:RowsAt w10 S.vR 2 rowsV (fun b=>w6.heap.size≤b∧b < w9.heap.size):=by
   rw [hS]
   exact hrows.mod hm10 (fun _ _ h=>h) (fun b hb=>by subst hb;exact ⟨by omega,lR9⟩)
 have hst10:StAt w10 S.sv ⟨newKd gens heap,heap,firstNs 0⟩ F:=by
   rw [hS]
   exact (hst.mod hm69 (fun _ _ h=>h)).mod hm10 (fun _ _ h=>h)
 have hF':∀ b,F b→w.heap.size≤b∧(b < w6.heap.size∨w9.heap.size < b):=fun b hb=>by
   have h1:=hF b hb
   have h2:=hst.lt b hb
   omega
 have hsvS:(Value.iface ti (.pointer (some ui)))=S.sv:=by rw [hS]
 rw [hsvS]
 have nwR:newErr T entry input heap every=0:=hE
 refine ir_loop (fun z ρ w'=>∃ (i:Nat) (vG:Value) (fg:Option Nat) (F:Nat→Prop),z=T.globals.length - i∧i≤T.globals.length∧(i:Int)≤heap ∧
   w'.heap[w9.heap.size]? = some (.cells (mcCells S (newI T input heap gens every i) vG (.slice none 0 0) (.slice none 0 0) (.slice none 0 0)).toArray 78 (0,0))∧StAt w' S.sv ⟨newKd gens heap,heap,firstNs i⟩ F ∧
   OwnS w' 3 1 vG (((List.range i).map (fun i:Nat=>(i:Int))).map I) i fg∧(∀ b,F b→w.heap.size≤b∧(b < w6.heap.size∨w9.heap.size < b))∧(∀ b,fg=some b→w9.heap.size < b∧¬ F b)∧Mod (fun b=>(w.heap.size≤b∧b < w6.heap.size)∨w9.heap.size≤b) w10 w' ∧
   ρ=[(11,I at'),(12,S.sv),(15,ptr w9.heap.size),(67,I T.globals.length),(68,I i)]) T.globals.length
   ⟨0,.slice none 0 0,none,F,rfl,by omega,by omega,hc10,hst10,OwnS.nil _ _ _,hF',(fun b hb=>by cases hb),Mod.refl _ _,rfl⟩ ?_
 rintro z ρ w11 ⟨i,vG,fg,F1,rfl,hi,hih,hc11,hst11,hoG,hF1,hfg1,hm11,rfl⟩
 have s11:=hm11.size
 have rest:∀ w':World,Mod (fun b=>(w.heap.size≤b∧b < w6.heap.size)∨w9.heap.size≤b) w10 w'→TabAt w' S.vsh S.vgl T (fun b=>w6.heap.size≤b∧b < w9.heap.size)∧Ints w' S.vin input∧RowsAt w' S.vR 2 rowsV (fun b=>w6.heap.size≤b∧b < w9.heap.size)∧Mod (fun _=>False) w w':=by
   intro w' hm
   refine ⟨htab10.mod hm (fun b hb hx=>by omega) (fun _ h=>h),hin10.mod hm (fun b hb hx=>by have:=hvin10 b hb;omega),hrow10.mod hm (fun b hb hx=>by omega) (fun _ h=>h),?_⟩
   have h9:Mod (fun _=>False) w w10:=hm06.trans hm6_10
   exact h9.step hm (fun b hb hl=>by omega)
 unfold ir15L1
 (try simp only [go_sem,simprocAttr])
 refine ir_cond rfl (fun hlt=>?_) (fun hlt=>?_)
 · have hlt:i < T.globals.length:=by simpa using hlt
   have hok:=newSt_ok (gens:=gens) hheap hih
   (try simp only [go_sem,simprocAttr])
   have e1:IntKind.i64.wrap ((i:Int)+1)=((i+1:Nat):Int):=by rw [wrap_in (by omega) (by omega)];omega
   refine s_add (nd:=⟨4,(i:Int),[]⟩) rfl (by rfl) hst11 hok (by simp [Nd.may,mayB]) rfl (ints_nil _) ?_ ?_
   · intro hroom w12 F2 hst12 hg12
     have hroom:((firstNs i).length:Int) < heap:=hroom
     rw [firstNs_len] at hroom
     have hst12:StAt w12 S.sv ⟨newKd gens heap,heap,firstNs (i+1)⟩ F2:=by rw [firstNs_succ];exact hst12
     have nF9:¬ F1 w9.heap.size:=fun e=>by have:=hF1 _ e;omega
     have hc12:=hg12.1.at hc11 nF9
     obtain ⟨aV,cV,rfl,_⟩:=hoG.val
     have s12:=hg12.1.size
     rw [show ((⟨newKd gens heap,heap,firstNs i⟩:St).ns.length:Int)=(i:Int) by show ((firstNs i).length:Int)=_;rw [firstNs_len]]
     (try simp only [go_sem,simprocAttr,show ((0:Int) != 0)=false from rfl,cell_of hc12,mcCells])
     refine e_bs (by rfl) (by rfl) ?_
     intro w13 hb13 hm13 _
     have hfg1':∀ b,fg=some b→¬ F1 b:=fun b hb=>(hfg1 b hb).2
     (try simp only [go_sem,simprocAttr])
     refine e_ap (m:=1) (news:=[I (i:Int)]) rfl ((hoG.mod hg12.1 hfg1').mod hm13 (fun _ _ h=>h)) rfl (fun h=>by cases h) (rd_block (xs:=[I (i:Int)]) hb13) (oneI [(i:Int)]) rfl (by omega) (by omega) ?_
     intro v14 w14 fg14 ho14 hm14 hf14
     obtain ⟨a14,c14,rfl,_⟩:=ho14.val
     have fg9:fg≠some w9.heap.size:=fun e=>by have:=(hfg1 _ e).1;omega
     have hc14:=hm14.at (hm13.at hc12 (fun h=>h)) fg9
     (try simp only [go_sem,simprocAttr])
     refine e_st1 (off:=9) rfl rfl hc14 rfl (by simp [mcCells]) ?_
     intro w15 hb15 hm15 _
     (try simp only [go_sem,simprocAttr,e1])
     have s13:=hm13.size
     have s14:=hm14.size
     have hst15:StAt w15 S.sv ⟨newKd gens heap,heap,firstNs (i+1)⟩ F2:=by
       refine ((hst12.mod hm13 (fun _ _ h=>h)).mod hm14 (fun b hb e=>?_)).mod hm15 (fun b hb e=>?_)
       · rcases hg12.2 b hb with h1 | h1
         · exact hfg1' b e h1
         · have:=hoG.lt e;omega
       · subst e
         rcases hg12.2 _ hb with h1 | h1
         · exact nF9 h1
         · have:=lt_of_heap hc11;omega
     have hX:Mod (fun b=>(w.heap.size≤b∧b < w6.heap.size)∨w9.heap.size≤b) w10 w15:=by
       refine (((hm11.step hg12.1 (fun b hb _=>by have:=hF1 b hb;omega)).step hm13 (fun _ h _=>h.elim)).step hm14 (fun b hb _=>by have:=hfg1 b hb;omega)).step hm15 (fun b hb _=>by subst hb;exact .inr (Nat.le_refl _))
     refine ⟨_,by omega,i+1,.slice a14 (i+1) c14,fg14,F2,rfl,by omega,by omega,by simpa [mcCells,newI] using hb15,hst15,?_,fun b hb=>?_,fun b hb=>?_,hX,rfl⟩
     · have e:(List.range (i+1)).map (fun i:Nat=>(i:Int))=(List.range i).map (fun i:Nat=>(i:Int))++[(i:Int)]:=by simp [List.range_succ]
       rw [e,List.map_append]
       exact ho14.mod hm15 (fun b hb e=>by
         subst e
         rcases hf14 _ hb with h3 | h3
         · exact fg9 h3
         · have:=lt_of_heap hc11;omega)
     · rcases hg12.2 b hb with h1 | h1
       · exact hF1 b h1
       · omega
     · rcases hf14 b hb with h1 | h1
       · refine ⟨(hfg1 b h1).1,fun h2=>?_⟩
         rcases hg12.2 b h2 with h3 | h3
         · exact hfg1' b h1 h3
         · have:=hoG.lt h1;omega
       · refine ⟨by omega,fun h2=>?_⟩
         have:=hst12.lt b h2
         omega
   · intro hfull w12 F2 e he hst12 hg12
     have hfull:((firstNs i).length:Int)=heap:=hfull
     rw [firstNs_len] at hfull
     have nF9:¬ F1 w9.heap.size:=fun e=>by have:=hF1 _ e;omega
     have hc12:=hg12.1.at hc11 nF9
     have he':(e != 0)=true:=by simpa using he
     (try simp only [go_sem,simprocAttr,he'])
     refine e_st1 (off:=15) rfl rfl hc12 rfl (by simp [mcCells]) ?_
     intro w13 hb13 hm13 _
     (try simp only [go_sem,simprocAttr])
     refine e_st1 (off:=9) rfl rfl hb13 rfl (by simp [mcCells]) ?_
     intro w14 hb14 hm14 _
     (try simp only [go_sem,simprocAttr])
     have hM:newM T entry input heap gens every = { newI T input heap gens every heap.toNat with globals:=[],ended:=5}:=by unfold newM;rw [if_neg (by omega)]
     have hi':heap.toNat=i:=by omega
     have hX:Mod (fun b=>(w.heap.size≤b∧b < w6.heap.size)∨w9.heap.size≤b) w10 w14:=by
       refine ((hm11.step hg12.1 (fun b hb _=>by have:=hF1 b hb;omega)).step hm13 (fun b hb _=>by subst hb;exact .inr (Nat.le_refl _))).step hm14 (fun b hb _=>by subst hb;exact .inr (Nat.le_refl _))
     obtain ⟨r1,r2,r3,r4⟩:=rest w14 hX
     have nF9':¬ F2 w9.heap.size:=fun e=>by
       rcases hg12.2 _ e with h1 | h1
       · exact nF9 h1
       · have:=lt_of_heap hc11;omega
     refine ⟨r4,fun h=>absurd nwR h,fun _=>?_⟩
     rw [hM,hi']
     obtain ⟨τ,hA,hτ⟩:=new_pack (w:=w) (w6:=w6) (w9:=w9) (w':=w14) (m:=w9.heap.size) (S:=S) (M:={ newI T input heap gens every i with globals:=[],ended:=5}) (vG:=.slice none 0 0) (vW:=.slice none 0 0) (fg:=none) (fw:=none) (F:=F2) rfl h06 h69 (by simpa [mcCells,newI] using hb14) (OwnS.nil _ _ _) (OwnS.nil _ _ _) rfl rfl
       ((hst12.mod hm13 (fun b hb e=>by subst e;exact nF9' hb)).mod hm14 (fun b hb e=>by subst e;exact nF9' hb)) (fun b hb=>by
         rcases hg12.2 b hb with h1 | h1
         · exact hF1 b h1
         · omega) (fun b hb=>by cases hb) (fun b hb=>by cases hb) r1 r2 hvin10 r3
     exact ⟨τ,_,S,rfl,hA,hτ⟩
 · have hlt:¬ i < T.globals.length:=by simpa using hlt
   obtain rfl:i=T.globals.length:=by omega
   obtain ⟨bG,cG2,sp,rfl,rfl,_⟩:=hoG.pos (by omega)
   obtain ⟨bG',eG,_,hcell⟩:=own_cell hoG (i:=at') hatl
   cases eG
   have hcell:w11.cell? ⟨bG,at',none⟩=some (I at'):=by
     rw [hcell]
     simp [hatl]
   have b1:(0:Int)≤at'∧(at':Int) < T.globals.length:=by omega
   (try simp only [go_sem,simprocAttr,zb4,zb6,cell_of hc11,mcCells,newI,b1,add_at,hcell])
   refine e_bs (by rfl) (by rfl) ?_
   intro w12 hb12 hm12 _
   (try simp only [go_sem,simprocAttr])
   refine e_st1 (off:=11) rfl rfl (hm12.at hc11 (fun h=>h)) rfl (by simp [mcCells]) ?_
   intro w13 hb13 hm13 _
   (try simp only [go_sem,simprocAttr])
   have s12:=hm12.size
   have hM:newM T entry input heap gens every = { newI T input heap gens every T.globals.length with wait:=[(at':Int)]}:=by unfold newM;rw [if_pos hih,hat]
   have hX:Mod (fun b=>(w.heap.size≤b∧b < w6.heap.size)∨w9.heap.size≤b) w10 w13:=(hm11.step hm12 (fun _ h _=>h.elim)).step hm13 (fun b hb _=>by subst hb;exact .inr (Nat.le_refl _))
   obtain ⟨r1,r2,r3,r4⟩:=rest w13 hX
   have nF9:¬ F1 w9.heap.size:=fun e=>by have:=hF1 _ e;omega
   have l11:=lt_of_heap hc11
   refine ⟨r4,fun h=>absurd nwR h,fun _=>?_⟩
   rw [hM]
   have hoW:OwnS w13 3 1 (.slice (some ⟨w11.heap.size,0,none⟩) 1 1) [I (at':Int)] 1 (some w11.heap.size):=(OwnS.of_block (xs:=[I (at':Int)]) hb12 rfl).mod hm13 (fun b hb e=>by have:=Option.some.inj hb;omega)
   obtain ⟨τ,hA,hτ⟩:=new_pack (w:=w) (w6:=w6) (w9:=w9) (w':=w13) (m:=w9.heap.size) (S:=S) (M:={ newI T input heap gens every T.globals.length with wait:=[(at':Int)]}) (fg:=some bG) (fw:=some w11.heap.size) (F:=F1) rfl h06 h69 (by simpa [mcCells,newI] using hb13)
     (by
       have:=(hoG.mod hm12 (fun _ _ h=>h)).mod hm13 (fun b hb e=>by subst e;have:=(hfg1 _ hb).1;omega)
       simpa [newI] using this) hoW rfl rfl ((hst11.mod hm12 (fun _ _ h=>h)).mod hm13 (fun b hb e=>by subst e;exact nF9 hb)) hF1 hfg1 (fun b hb=>by
         cases hb
         refine ⟨by omega,fun h2=>by have:=hst11.lt _ h2;omega,fun e=>by have:=hoG.lt rfl;cases e;omega⟩) r1 r2 hvin10 r3
   exact ⟨τ,_,S,rfl,hA,hτ⟩
end
end
section
open Go Go.W
section
variable {T:Tab} {entry:ByteArray} {input:List Int} {heap every:Int} {gens:Bool}
structure NewFacts (T:Tab) (entry:ByteArray) (input:List Int) (heap every:Int):Prop where
 chk:checkS T=0
 inl:input.length≤10000
 inp:∀ a∈input,isNum a
 hp:1≤heap∧heap≤1048576
 ev:0≤every
 ent:0≤entryI entry T∧entryI entry T < T.globals.length
theorem new_facts (h:newErr T entry input heap every=0):NewFacts T entry input heap every:=by
 unfold newErr at h
 split at h
 · cases h
 rename_i h1
 split at h
 · cases h
 rename_i h2
 split at h
 · rename_i h3;exact absurd h h3
 rename_i h3
 split at h
 · cases h
 rename_i h4
 have h2:¬ input.any (fun n=>!numB n)=true∧¬ heap < 1∧¬ heap > 1048576∧¬ every < 0:=by
   refine ⟨fun e=>h2 (.inl e),fun e=>h2 (.inr (.inl e)),fun e=>h2 (.inr (.inr (.inl e))),fun e=>h2 (.inr (.inr (.inr e)))⟩
 refine ⟨Classical.not_not.1 h3,by omega,fun a ha=>?_,by omega,by omega,?_⟩
 · have:=h2.1
   rw [List.any_eq_true] at this
   have h5:numB a=true:=by
     cases hb:numB a
     · exact absurd ⟨a,ha,by rw [hb];rfl⟩ this
     · rfl
   unfold numB at h5
   rw [decide_eq_true_eq] at h5
   unfold isNum
   omega
 · unfold entryI
   cases he:entryS entry T.globals 0 with
   | none=>exact absurd he h4
   | some j=>
     have:=entryS_lt _ _ he
     simp only
     omega
theorem firstNs_at {n i:Nat} (h:i < n):(firstNs n)[i]? = some ⟨4,(i:Int),[]⟩:=by
 unfold firstNs
 rw [List.getElem?_map,List.getElem?_range h]
 rfl
theorem firstNs_ndAt {n i:Nat} (h:i < n):ndAt (firstNs n) i=⟨4,(i:Int),[]⟩:=by
 unfold ndAt
 rw [List.getD_eq_getElem?_getD,firstNs_at h]
 rfl
theorem firstNs_ends (n:Nat):Ends (firstNs n):=by
 intro p hp
 rw [firstNs_len] at hp
 have h1:nxt (firstNs n) p=p:=by
   apply nxt_fix
   unfold ind
   rw [firstNs_ndAt hp]
   rfl
 have h2:over (firstNs n) p=p:=by
   unfold over
   obtain ⟨k,_,e⟩:=ov_mem (nxt (firstNs n)) (firstNs n).length p
   rw [e,fit_fix h1]
 rw [h2,h1]
theorem newM_ok (h:newErr T entry input heap every=0) (hroom:(T.globals.length:Int)≤heap):MOk 0 (newM T entry input heap gens every):=by
 have hf:=new_facts h
 have hh:=hf.hp
 have he:=hf.ent
 unfold newM
 rw [if_pos hroom]
 have hy:0≤newY gens heap∧newY gens heap≤1048576:=by
   unfold newY
   split
   · rw [Int.tdiv_eq_ediv_of_nonneg (by omega)];split<;>omega
   · omega
 have hIn:∀ a:Int,0≤a→a < T.globals.length→St.In ⟨newKd gens heap,heap,firstNs T.globals.length⟩ a:=fun a h1 h2=>⟨h1,by show a < ((firstNs _).length:Int);rw [firstNs_len];exact h2⟩
 exact
   { tab:=(check_ok hf.chk).1
     g:=⟨newSt_ok hh hroom,firstNs_ends _,fun nd hnd=>by
       obtain ⟨i,hi,rfl⟩:=List.mem_map.1 hnd
       have:=List.mem_range.1 hi
       exact ⟨fun _=>by show (i:Int) < T.globals.length;omega,fun e=>by cases e⟩⟩
     gls:=fun a ha=>by
       obtain ⟨i,hi,rfl⟩:=List.mem_map.1 ha
       have:=List.mem_range.1 hi
       exact hIn _ (by omega) (by omega)
     gln:=by simp [newI]
     wts:=fun a ha=>by
       obtain rfl:=List.mem_singleton.1 ha
       exact hIn _ he.1 he.2
     wpos:=fun _=>by simp
     frs:=fun f hf=>by cases hf
     run:=fun _ f hf=>by cases hf
     base:=by show (0:Int)≤0∧(0:Int)≤1048576;omega
     young:=hy
     inp:=hf.inp
     ln:=Int.le_refl _
     lf:=by simp [newI]
     lw:=by simp [newI]
     lt:=by simp [newI]
     ne5:=by simp [newI]}
theorem new_alive (h:newErr T entry input heap every=0):Alive 0 (newM T entry input heap gens every):=by
 by_cases hroom:(T.globals.length:Int)≤heap
 · exact .inl (newM_ok h hroom)
 · refine .inr ?_
   unfold newM
   rw [if_neg hroom]
theorem new_kd:(newM T entry input heap gens every).st.kd≠.ref:=by
 unfold newM newI newKd
 split<;>(cases gens<;>exact fun h=>by cases h)
theorem new_steps:(newM T entry input heap gens every).steps=0:=by unfold newM newI;split<;>rfl
theorem new_told:(newM T entry input heap gens every).told=[]:=by unfold newM newI;split<;>rfl
theorem new_frames:(newM T entry input heap gens every).frames=[]:=by unfold newM newI;split<;>rfl
structure Good (n:Int) (M:Mc):Prop where
 al:Alive n M
 kd:M.st.kd≠.ref
 gl:M.ended=0→0 < M.globals.length
 lf:(M.frames.length:Int)≤n
 lt:(M.told.length:Int)≤n
 st:0≤M.steps∧M.steps≤n
theorem newM_good (h:newErr T entry input heap every=0):Good 0 (newM T entry input heap gens every):=by
 refine ⟨new_alive h,new_kd,fun he=>?_,by rw [new_frames];exact Int.le_refl _,by rw [new_told];exact Int.le_refl _,by rw [new_steps];omega⟩
 rcases new_alive (gens:=gens) h with hk | hk
 · rw [hk.gln]
   have:=(new_facts h).ent
   have e:(newM T entry input heap gens every).tab=T:=by unfold newM newI;split<;>rfl
   rw [e]
   omega
 · omega
theorem Good.step {n:Int} {M:Mc} (h:Good n M):Good (n+1) M.step:=by
 have hst:=step_steps M
 have hs:0≤M.step.steps∧M.step.steps≤n+1:=by have:=h.st;rw [hst];split<;>omega
 have hk:=step_kd h.kd
 by_cases he:M.ended=0
 · have hok:=h.al.ok he
   have hgl:0 < M.step.globals.length:=by rw [(stat_step M).gl];exact h.gl he
   refine ⟨h.al.step,hk,fun _=>hgl,?_,?_,hs⟩
   all_goals rcases hok.step he with ⟨hw,e⟩ | ⟨_,hw,_⟩
   · rw [e,(out_of hok hw).frames];have:=h.lf;omega
   · exact hw.lf
   · rw [e,(out_of hok hw).told];have:=h.lt;omega
   · exact hw.lt
 · have e:=step_end he
   rw [e]
   have h1:=h.lf
   have h2:=h.lt
   have h3:=h.st
   have h4:=h.al.step
   rw [e] at h4
   exact ⟨h4,h.kd,h.gl,by omega,by omega,by omega⟩
theorem Good.steps {n:Int} {M:Mc} (h:Good n M) (k:Nat):Good (n+k) (M.steps' k):=by
 induction k with
 | zero=>
   have e:n+((0:Nat):Int)=n:=by simp
   rw [e];exact h
 | succ k ih=>
   have:=ih.step
   have e:n+(k:Int)+1=n+((k+1:Nat):Int):=by omega
   rw [e] at this
   exact this
end
end
section
open Go Go.W
structure Mcn where
 m:Nat
 S:SV
 M:Mc
 n:Int
def Crew (w:World) (l:List Mcn) (N:Nat→Prop):Prop:=
 ∃ (τ:Nat→Tag) (ks:Nat→List Nat),(∀ i p,l[i]? = some p→MAt w (τ i) p.m p.S p.M (ks i)∧Good p.n p.M)∧(∀ i j,i≠j→∀ b,b < w.heap.size→τ i b = .no∨τ j b = .no)∧(∀ i b,N b→τ i b = .no)∧∀ b,N b→b < w.heap.size
section
variable {w w':World} {l:List Mcn} {N:Nat→Prop}
theorem crew_nil (hN:∀ b,N b→b < w.heap.size):Crew w [] N:=
 ⟨fun _ _=>.no,fun _=>[],(fun i p h=>by cases h),(fun _ _ _ _ _=>.inl rfl),(fun _ _ _=>rfl),hN⟩
theorem crew_less (h:Crew w l N) {N':Nat→Prop} (hN:∀ b,N' b→N b):Crew w l N':=by
 obtain ⟨τ,ks,h1,h2,h3,h4⟩:=h
 exact ⟨τ,ks,h1,h2,fun i b hb=>h3 i b (hN b hb),fun b hb=>h4 b (hN b hb)⟩
theorem crew_mod (h:Crew w l N) {X:Nat→Prop} (hm:Mod X w w') (hX:∀ b,X b→b < w.heap.size→N b):Crew w' l (fun b=>N b∨(w.heap.size≤b∧b < w'.heap.size)):=by
 obtain ⟨τ,ks,h1,h2,h3,h4⟩:=h
 have hs:=hm.size
 refine ⟨fun i=>newTag (τ i) w .no,ks,fun i p hp=>?_,fun i j hij b hb=>?_,fun i b hb=>?_,fun b hb=>?_⟩
 · obtain ⟨k1,k2⟩:=h1 i p hp
   exact ⟨k1.mod hm (newTag_ext (τ i) w .no).wx (fun b hb hx=>h3 i b (hX b hx hb)),k2⟩
 · by_cases hlt:b < w.heap.size
   · simp only [newTag,if_pos hlt];exact h2 i j hij b hlt
   · exact .inl (newTag_new (by omega))
 · by_cases hlt:b < w.heap.size
   · simp only [newTag,if_pos hlt]
     rcases hb with hb | hb
     · exact h3 i b hb
     · omega
   · exact newTag_new (by omega)
 · rcases hb with hb | hb
   · have:=h4 b hb;omega
   · exact hb.2
theorem crew_later (h:Crew w l N) (hm:Mod (fun _=>False) w w'):Crew w' l (fun b=>N b∨(w.heap.size≤b∧b < w'.heap.size)):=crew_mod h hm (fun _ h=>h.elim)
theorem crew_new (h:Crew w l N) (hm:Mod (fun _=>False) w w') {M:Mc} {m:Nat} {S:SV} {τ0:Tag} (hA:MAt w' τ0 m S M []) (h0:∀ b,b < w.heap.size→τ0 b = .no) {n:Int} (hg:Good n M):Crew w' (l++[⟨m,S,M,n⟩]) N:=by
 obtain ⟨τ,ks,h1,h2,h3,h4⟩:=h
 have hs:=hm.size
 refine ⟨fun i=>if i=l.length then τ0 else newTag (τ i) w .no,fun i=>if i=l.length then [] else ks i,fun i p hp=>?_,fun i j hij b hb=>?_,fun i b hb=>?_,fun b hb=>?_⟩
 · by_cases hi:i=l.length
   · subst hi
     simp at hp
     subst hp
     simp only [if_pos]
     exact ⟨hA,hg⟩
   · have hlt:i < l.length:=by
       have:=(List.getElem?_eq_some_iff.1 hp).1
       simp at this
       omega
     rw [List.getElem?_append_left hlt] at hp
     obtain ⟨k1,k2⟩:=h1 i p hp
     simp only [if_neg hi]
     exact ⟨k1.mod hm (newTag_ext (τ i) w .no).wx (fun _ _ h=>h.elim),k2⟩
 · have key:∀ k,k≠l.length→(w.heap.size≤b→newTag (τ k) w .no b = .no):=fun k _ hb=>newTag_new hb
   by_cases hi:i=l.length
   · have hj:j≠l.length:=fun e=>hij (hi.trans e.symm)
     simp only [if_pos hi,if_neg hj]
     by_cases hlt:b < w.heap.size
     · exact .inl (h0 b hlt)
     · exact .inr (key j hj (by omega))
   · simp only [if_neg hi]
     by_cases hlt:b < w.heap.size
     · by_cases hj:j=l.length
       · simp only [if_pos hj];exact .inr (h0 b hlt)
       · simp only [if_neg hj,newTag,if_pos hlt];exact h2 i j hij b hlt
     · exact .inl (key i hi (by omega))
 · have hb4:=h4 b hb
   by_cases hi:i=l.length
   · simp only [if_pos hi];exact h0 b hb4
   · simp only [if_neg hi,newTag,if_pos hb4];exact h3 i b hb
 · have:=h4 b hb;omega
theorem crew_do (h:Crew w l N) {i:Nat} {p:Mcn} (hi:l[i]? = some p):∃ τ ks,MAt w τ p.m p.S p.M ks∧Good p.n p.M ∧
   ∀ {w':World} {M':Mc} {ks':List Nat} {n':Int},MOp w τ p.m p.S M' ks' w'→Good n' M'→Crew w' (l.set i ⟨p.m,p.S,M',n'⟩) N∧Mod (fun b=>¬ N b) w w':=by
 obtain ⟨τ,ks,h1,h2,h3,h4⟩:=h
 obtain ⟨k1,k2⟩:=h1 i p hi
 refine ⟨τ i,ks i,k1,k2,fun {w' M' ks' n'} hop hg=>?_⟩
 obtain ⟨τ',j1,j2,j3⟩:=hop
 have hs:=j3.size
 have hil:=(List.getElem?_eq_some_iff.1 hi).1
 refine ⟨⟨fun j=>if j=i then τ' else newTag (τ j) w .no,fun j=>if j=i then ks' else ks j,fun j q hq=>?_,fun j k hjk b hb=>?_,fun j b hb=>?_,fun b hb=>?_⟩,j3.weak (fun b hb hN=>?_)⟩
 · by_cases hj:j=i
   · subst hj
     rw [List.getElem?_set_self (by omega)] at hq
     obtain rfl:=Option.some.inj hq
     simp only [if_pos]
     exact ⟨j2,hg⟩
   · rw [List.getElem?_set_ne (by omega)] at hq
     obtain ⟨q1,q2⟩:=h1 j q hq
     simp only [if_neg hj]
     refine ⟨q1.mod j3 (newTag_ext (τ j) w .no).wx (fun b hb hx=>?_),q2⟩
     rcases h2 i j (fun e=>hj e.symm) b hb with e | e
     · exact absurd e hx.1
     · exact e
 · by_cases hlt:b < w.heap.size
   · have e:∀ x,(if x=i then τ' else newTag (τ x) w .no) b=τ x b:=by
       intro x
       by_cases hx:x=i
       · subst hx;simp only [if_pos];exact j1 b hlt
       · simp only [if_neg hx,newTag,if_pos hlt]
     show (if j=i then τ' else newTag (τ j) w .no) b = .no∨(if k=i then τ' else newTag (τ k) w .no) b = .no
     rw [e,e]
     exact h2 j k hjk b hlt
   · by_cases hj:j=i
     · have hk:k≠i:=fun e=>hjk (hj.trans e.symm)
       simp only [if_neg hk];exact .inr (newTag_new (by omega))
     · simp only [if_neg hj];exact .inl (newTag_new (by omega))
 · have hb4:=h4 b hb
   by_cases hj:j=i
   · subst hj;simp only [if_pos];rw [j1 b hb4];exact h3 j b hb
   · simp only [if_neg hj,newTag,if_pos hb4];exact h3 j b hb
 · have:=h4 b hb;omega
 · exact hb.1 (h3 i b hN)
variable {i:Nat} {m:Nat} {S:SV} {M:Mc} {n:Int}
theorem g_run (h:Crew w l N) (hi:l[i]? = some ⟨m,S,M,n⟩) (hn:n≤400000) {c:Int} (hc:c≤400000):CallsR Tryz.prog 18 [ptr m,I c] w fun r w'=>
   r=I ((M.steps' c.toNat).steps - M.steps)∧Crew w' (l.set i ⟨m,S,M.steps' c.toNat,n+c.toNat⟩) N∧Mod (fun b=>¬ N b) w w':=by
 obtain ⟨τ,ks,h1,h2,h3⟩:=crew_do h hi
 have h2:Good n M:=h2
 have h1:MAt w τ m S M ks:=h1
 have hst:=h2.st
 refine (m_run h1 h2.al (by omega) (by have:=h2.lf;omega) h2.kd ⟨hst.1,by omega⟩ h2.gl hc).mono ?_
 rintro r w' ⟨rfl,ks',hop⟩
 exact ⟨rfl,h3 hop (h2.steps _)⟩
theorem m_step' {τ:Tag} {ks:List Nat} (h:MAt w τ m S M ks) (hg:Good n M) (hn:n≤400000) :
   CallsR Tryz.prog 24 [ptr m] w fun r w'=>r = .tuple #[I (stepR M).1,I (stepR M).2]∧∃ ks',MOp w τ m S M.step ks' w':=by
 by_cases he:M.ended=0
 · have hst:=hg.st
   exact m_step h (hg.al.ok he) (by omega) hg.kd ⟨hst.1,by omega⟩ (hg.gl he)
 · obtain ⟨vG,vF,vW,vT,fg,ff,fw,ft,F,hh⟩:=id h
   have hc:=hh.cells
   refine fit24.calls rfl ?_
   unfold ir24
   (try simp only [go_sem,simprocAttr,cell_of hc,mcCells,ptr])
   refine ir_cond rfl (fun he=>?_) (fun h0=>?_)
   · simp only [zb1,zb2,zb3,zb4,zb5] at he
     have e1:stepR M=(0,221):=by unfold stepR;rw [if_pos he]
     have e2:M.step=M:=by unfold Mc.step;rw [if_pos he]
     rw [e1,e2]
     (try simp only [go_sem,simprocAttr])
     exact ⟨ks,τ,ext_refl _ _,h,Mod.refl _ _⟩
   · simp only [zb1,zb2,zb3,zb4,zb5] at h0
     exact absurd h0 he
theorem g_step (h:Crew w l N) (hi:l[i]? = some ⟨m,S,M,n⟩) (hn:n≤400000):CallsR Tryz.prog 24 [ptr m] w fun r w'=>
   r = .tuple #[I (stepR M).1,I (stepR M).2]∧Crew w' (l.set i ⟨m,S,M.step,n+1⟩) N∧Mod (fun b=>¬ N b) w w':=by
 obtain ⟨τ,ks,h1,h2,h3⟩:=crew_do h hi
 have h2:Good n M:=h2
 have h1:MAt w τ m S M ks:=h1
 refine (m_step' h1 h2 hn).mono ?_
 rintro r w' ⟨rfl,ks',hop⟩
 exact ⟨rfl,h3 hop h2.step⟩
theorem g_outcome (h:Crew w l N) (hi:l[i]? = some ⟨m,S,M,n⟩) (hn:n≤400000):CallsR Tryz.prog 11 [ptr m] w fun r w'=>
   (∃ v,r=outV (outKind M) v M.stuck M.steps∧ToldAt w w' v M.told)∧Crew w' l (fun b=>N b∨(w.heap.size≤b∧b < w'.heap.size))∧Mod (fun _=>False) w w':=by
 obtain ⟨τ,ks,h1,h2,h3⟩:=crew_do h hi
 have h2:Good n M:=h2
 have h1:MAt w τ m S M ks:=h1
 refine (m_outcome h1 (by have:=h2.lt;omega)).mono ?_
 rintro r w' ⟨v,e,ht,hm⟩
 exact ⟨⟨v,e,ht⟩,crew_later h hm,hm⟩
theorem g_sight (h:Crew w l N) (hi:l[i]? = some ⟨m,S,M,n⟩) (hn:n≤400000):CallsR Tryz.prog 22 [ptr m] w fun r w'=>
   SightV w w' M r∧Crew w' l (fun b=>N b∨(w.heap.size≤b∧b < w'.heap.size))∧Mod (fun _=>False) w w':=by
 obtain ⟨τ,ks,h1,h2,h3⟩:=crew_do h hi
 have h2:Good n M:=h2
 have h1:MAt w τ m S M ks:=h1
 refine (m_sight h1 h2.al (by omega) (by have:=h2.lf;omega)).mono ?_
 rintro r w' ⟨e,hm⟩
 exact ⟨e,crew_later h hm,hm⟩
end
end
section
open Go Go.W Go.W.Z
def ir5:IR:=z [.e (some 7) (.bx 25 (.t 0)),.e (some 10) (.bx 28 (.t 3))] [1,2,4,5,6,7,10] <| z [c 27 7 [],m 15 27] [1,2,4,5,6,7,10,15] <| z [ln 28 2 7,ln 31 3 10,c 33 8 [28,1,2,31,6],m 16 33] [1,2,4,5,6,7,10,15,16] <| .seq (z [no 35 15,m' 35 false 37 16,.gr 35 false (some 38) (.eq .ptr false (.t 37) (.c (.pointer none))),u 39 35 38] [1,2,4,5,6,7,10,15,16,39] <| j 39 (z [m 14 15] [14] <| .ret) (.skip)) <| z [f 41 0 10,l 42 41,f 43 1 10,l 44 43,no 45 44,.r (some 47) (.mm true (.t 4) (k 0)),.r (some 48) (.bd #[(i 0),(.bool false),(i 0)] [(0,1,(.t 42)),(1,1,(.t 45)),(2,1,(.t 47))]),.e (some 17) (.al 28 (.agg #[(i 0),(.bool false),(i 0)])),s 3 17 48] [1,2,5,6,7,10,16,17] <| z [ln 49 2 7,ln 52 3 17,c 54 8 [49,1,2,52,6],m 18 54] [1,2,5,6,7,10,16,18] <| .seq (z [bk 56 .lss 5 0] [1,2,5,6,7,10,16,18,56] <| j 56 (q [bk 58 .add 5 1,.r (some 59) (.ng (.t 58)),m 5 59] [1,2,5,6,7,10,16,18]) (.skip)) <| z [ln 60 2 7,f 63 0 10,l 64 63,bk 66 .rem 5 100000,bi 67 .add 64 66,.r (some 68) (.mm false (.t 67) (k 1048576)),f 69 1 10,l 70 69,f 71 2 10,l 72 71,.r (some 73) (.bd #[(i 0),(.bool false),(i 0)] [(0,1,(.t 68)),(1,1,(.t 70)),(2,1,(.t 72))]),c 75 8 [60,1,2,73,6],m 19 75] [16,18,19] <| .seq (z [.r (some 77) (.eq .ptr false (.t 18) (.c (.pointer none))),m' 77 false 79 19,.gr 77 false (some 80) (.eq .ptr false (.t 79) (.c (.pointer none))),u 81 77 80] [16,18,19,81] <| j 81 (z [.r (some 14) (.mv (.c (.bool false)))] [14] <| .ret) (.skip)) <| z [c 83 11 [16],.e (some 20) (.al 39 (.agg #[(i 0),(.slice none 0 0),(i 0),(i 0),(i 0),(i 0),(i 0),(.string ⟨#[]⟩)])),s 8 20 83] [16,18,19,20] <| z [c 85 11 [18],.e (some 21) (.al 39 (.agg #[(i 0),(.slice none 0 0),(i 0),(i 0),(i 0),(i 0),(i 0),(.string ⟨#[]⟩)])),s 8 21 85] [16,18,19,20,21] <| z [c 87 11 [19],.e (some 22) (.al 39 (.agg #[(i 0),(.slice none 0 0),(i 0),(i 0),(i 0),(i 0),(i 0),(.string ⟨#[]⟩)])),s 8 22 87] [16,18,20,21,22] <| z [ln 88 8 20,ln 89 8 21,c 90 12 [88,89],m 23 90] [16,18,20,22,23] <| z [c 92 22 [16],c 94 22 [18],c 95 21 [92,94],m 24 95] [20,22,23,24] <| z [f 96 1 20,l 97 96,f 98 1 22,l 99 98,c 100 23 [97,99],m 25 100] [20,22,23,24,25] <| z [ln 101 8 20,ln 102 8 22,c 103 12 [101,102],m 26 103] [20,22,23,24,25,26] <| z [m' 23 true 106 24,a 107 23 106,m' 107 true 109 25,a 110 107 109,f' 110 true 112 1 20,l' 110 true 113 112,le' 110 true 114 113,f' 110 true 115 1 22,l' 110 true 116 115,le' 110 true 117 116,bi' 110 true 118 .leq 114 117,a 119 110 118,m' 119 true 121 26,m' 119 true 122 121,f' 122 false 123 0 20,l' 122 false 124 123,bk' 122 false 125 .eql 124 5,.gr 119 true (some 126) (.pk (.t 122) (.c (.bool true)) (.t 125)),a 127 119 126,m 14 127] [14] <| .ret
theorem fit5:Fits Tryz.prog 5 7 (hOf Tryz.f5 ir5) ir5 [.t 14] 128:=.m Tryz.f5 _
def ir7:IR:=z [] [] <| z [.r (some 9) (.bd #[(i 0),(i 0),(i 0)] [(0,1,(k 3)),(1,1,(k 1))]),.r (some 10) (.bd #[(i 0),(i 0),(i 0)] [(0,1,(k 3)),(1,1,(k 2))]),.r (some 11) (.bd #[(i 0),(i 0),(i 0)] [(0,1,(k 12)),(1,1,(k 1))]),.r (some 12) (.bd #[(i 0),(i 0),(i 0)] [(0,1,(k 7)),(1,1,(k 1))]),.r (some 13) (.bd #[(i 0),(i 0),(i 0)] [(0,1,(k 17))]),.e (some 14) (.bs 66 5 #[(i 0),(i 0),(i 0),(i 0),(i 0),(i 0),(i 0),(i 0),(i 0),(i 0),(i 0),(i 0),(i 0),(i 0),(i 0)] [(0,3,(.t 9)),(3,3,(.t 10)),(6,3,(.t 11)),(9,3,(.t 12)),(12,3,(.t 13))]),m 1 14] [1] <| z [c 16 25 [],.r (some 18) (.bd #[(.string ⟨#[]⟩),(i 0),(.slice none 0 0)] [(0,1,(.c (.string ⟨#[109]⟩))),(2,1,(.t 1))]),.e (some 19) (.bs 70 1 #[(.string ⟨#[]⟩),(i 0),(.slice none 0 0)] [(0,3,(.t 18))]),.r (some 20) (.bd #[(.slice none 0 0),(.slice none 0 0)] [(0,1,(.t 16)),(1,1,(.t 19))]),.r (some 21) (.bd #[(i 0),(.bool false),(i 0)] [(0,1,(k 100))]),.e (some 22) (.call 15 [(.t 20),(.c (.string ⟨#[109]⟩)),(.c (.slice none 0 0)),(.t 21)]),ex 23 0 22,ex 24 1 22,m 2 23,m 3 24] [2,3] <| .seq (z [.r (some 26) (.eq .ptr false (.t 2) (.c (.pointer none))),m' 26 false 28 3,bk' 26 false 29 .neq 28 0,u 30 26 29] [2,30] <| j 30 (z [.r (some 0) (.mv (.c (.bool false)))] [0] <| .ret) (.skip)) <| z [c 33 24 [2],ex 34 0 33,ex 35 1 33,m 4 34,m 5 35] [2,4,5] <| z [c 37 11 [2],.e (some 6) (.al 39 (.agg #[(i 0),(.slice none 0 0),(i 0),(i 0),(i 0),(i 0),(i 0),(.string ⟨#[]⟩)])),s 8 6 37] [2,4,5,6] <| .seq (z [bk 39 .neq 4 0,m' 39 false 41 5,bk' 39 false 42 .neq 41 0,u 43 39 42,f' 43 false 45 3 6,l' 43 false 46 45,bk' 43 false 47 .neq 46 1,u 48 43 47] [2,48] <| j 48 (z [.r (some 0) (.mv (.c (.bool false)))] [0] <| .ret) (.skip)) <| z [.e (some 50) (.call 18 [(.t 2),(k 50)]),m 7 50] [2,7] <| z [c 52 11 [2],.e (some 8) (.al 39 (.agg #[(i 0),(.slice none 0 0),(i 0),(i 0),(i 0),(i 0),(i 0),(.string ⟨#[]⟩)])),s 8 8 52] [7,8] <| z [bk 54 .eql 7 8,f' 54 true 56 3 8,l' 54 true 57 56,bk' 54 true 58 .eql 57 9,a 59 54 58,f' 59 true 61 0 8,l' 59 true 62 61,bk' 59 true 63 .eql 62 2,a 64 59 63,f' 64 true 66 1 8,l' 64 true 67 66,le' 64 true 68 67,bk' 64 true 69 .eql 68 1,a 70 64 69,f' 70 true 72 1 8,l' 70 true 73 72,.gr 70 true (some 74) (.ia 2 (.t 73) (k 0)),ln' 70 true 75 2 74,.gr 70 true (some 76) (.bd #[(.string ⟨#[]⟩),(i 0)] [(1,1,(k 3))]),.gr 70 true (some 77) (.eqa false [(0,.str),(1,.int)] (.t 75) (.t 76)),a 78 70 77,m 0 78] [0] <| .ret
theorem fit7:Fits Tryz.prog 7 0 (hOf Tryz.f7 ir7) ir7 [.t 0] 79:=.m Tryz.f7 _
def ir8:IR:=z [.e (some 5) (.bx 25 (.t 0)),.e (some 8) (.bx 28 (.t 3))] [1,2,4,5,8] <| z [ln 14 2 5,ln 17 3 8,c 18 15 [14,1,2,17],ex 19 0 18,ex 20 1 18,m 11 19,m 12 20] [4,11,12] <| .seq (z [.r (some 22) (.eq .ptr false (.t 11) (.c (.pointer none))),m' 22 false 24 12,bk' 22 false 25 .neq 24 0,u 26 22 25] [4,11,26] <| j 26 (z [.r (some 10) (.mv (.c (.pointer none)))] [10] <| .ret) (.skip)) <| z [.r (some 29) (.mm false (.t 4) (k 20000)),c 30 18 [11,29]] [11] <| z [m 10 11] [10] <| .ret
theorem fit8:Fits Tryz.prog 8 5 (hOf Tryz.f8 ir8) ir8 [.t 10] 32:=.m Tryz.f8 _
def ir12:IR:=z [.e (some 2) (.bx 39 (.t 0)),.e (some 3) (.bx 39 (.t 1))] [2,3] <| z [f 6 1 2,l 7 6,f 8 1 3,l 9 8,c 10 19 [7,9],m 5 10] [2,3,5] <| z [f 11 0 2,l 12 11,f 13 0 3,l 14 13,bi 15 .eql 12 14,f' 15 true 17 2 2,l' 15 true 18 17,f' 15 true 19 2 3,l' 15 true 20 19,bi' 15 true 21 .eql 18 20,a 22 15 21,f' 22 true 24 3 2,l' 22 true 25 24,f' 22 true 26 3 3,l' 22 true 27 26,bi' 22 true 28 .eql 25 27,a 29 22 28,f' 29 true 31 4 2,ln' 29 true 32 4 31,f' 29 true 33 4 3,ln' 29 true 34 4 33,.gr 29 true (some 35) (.eqa false [(0,.int),(1,.int),(2,.int),(3,.str)] (.t 32) (.t 34)),a 36 29 35,m' 36 true 38 5,a 39 36 38,m 4 39] [4] <| .ret
theorem fit12:Fits Tryz.prog 12 2 (hOf Tryz.f12 ir12) ir12 [.t 4] 40:=.m Tryz.f12 _
def ir19:IR:=z [] [0,1] <| z [c 8 23 [0,1],m 5 8] [0,1,5] <| z [m' 5 true 11 0,le' 5 true 12 11,m' 5 true 13 1,le' 5 true 14 13,bi' 5 true 15 .eql 12 14,a 16 5 15,m 4 16] [4] <| .ret
theorem fit19:Fits Tryz.prog 19 2 (hOf Tryz.f19 ir19) ir19 [.t 4] 17:=.m Tryz.f19 _
def ir21L1:IR:=.seq (z [f 35 1 2,l 36 35,le 37 36,bi 38 .lss 5 37] [2,3,5,38] <| j 38 (.skip) ((.exit 0))) <| .seq (.block 1 (.seq (q' [f 41 1 2,l 42 41,m 43 5,ia 44 3 42 43,ln 45 3 44,f 46 1 3,l 47 46,m 48 5,ia 49 3 47 48,ln 50 3 49,.r (some 51) (.eqa true [(0,.int),(1,.int),(2,.int)] (.t 45) (.t 50))] [2,3,5,51]) <| j 51 (z [.r (some 4) (.mv (.c (.bool false)))] [4] <| .ret) (.skip))) <| q [bk 40 .add 5 1,m 5 40] [2,3,5]
def ir21:IR:=z [.e (some 2) (.bx 59 (.t 0)),.e (some 3) (.bx 59 (.t 1))] [2,3] <| .seq (z [f 6 0 2,l 7 6,f 8 0 3,l 9 8,bi 10 .neq 7 9,f' 10 false 12 2 2,l' 10 false 13 12,f' 10 false 14 2 3,l' 10 false 15 14,bi' 10 false 16 .neq 13 15,u 17 10 16,f' 17 false 19 3 2,l' 17 false 20 19,f' 17 false 21 3 3,l' 17 false 22 21,bi' 17 false 23 .neq 20 22,u 24 17 23,f' 24 false 26 1 2,l' 24 false 27 26,le' 24 false 28 27,f' 24 false 29 1 3,l' 24 false 30 29,le' 24 false 31 30,bi' 24 false 32 .neq 28 31,u 33 24 32] [2,3,33] <| j 33 (z [.r (some 4) (.mv (.c (.bool false)))] [4] <| .ret) (.skip)) <| .seq (z [mk 5 0] [2,3,5] <| .block 0 (.loop ir21L1)) <| z [.r (some 4) (.mv (.c (.bool true)))] [4] <| .ret
theorem fit21:Fits Tryz.prog 21 2 (hOf Tryz.f21 ir21) ir21 [.t 4] 52:=.m Tryz.f21 _
def ir23L1:IR:=.seq (z [le 8 0,bi 9 .lss 5 8,m' 9 true 11 5,m' 9 true 12 1,le' 9 true 13 12,bi' 9 true 14 .lss 11 13,a 15 9 14] [0,1,5,15] <| j 15 (.skip) ((.exit 0))) <| .seq (.block 1 (.seq (q' [m 18 0,m 19 5,ia 20 2 18 19,ln 21 2 20,m 22 1,m 23 5,ia 24 2 22 23,ln 25 2 24,.r (some 26) (.eqa true [(0,.str),(1,.int)] (.t 21) (.t 25))] [0,1,5,26]) <| j 26 (z [.r (some 4) (.mv (.c (.bool false)))] [4] <| .ret) (.skip))) <| q [bk 17 .add 5 1,m 5 17] [0,1,5]
def ir23:IR:=z [] [0,1] <| .seq (z [mk 5 0] [0,1,5] <| .block 0 (.loop ir23L1)) <| z [.r (some 4) (.mv (.c (.bool true)))] [4] <| .ret
theorem fit23:Fits Tryz.prog 23 2 (hOf Tryz.f23 ir23) ir23 [.t 4] 27:=.m Tryz.f23 _
def ir25:IR:=z [] [] <| z [.r (some 1) (.bd #[(.string ⟨#[]⟩),(i 0)] [(0,1,(.c (.string ⟨#[70,97,108,115,101]⟩)))]),.r (some 2) (.bd #[(.string ⟨#[]⟩),(i 0)] [(0,1,(.c (.string ⟨#[84,114,117,101]⟩)))]),.r (some 3) (.bd #[(.string ⟨#[]⟩),(i 0)] [(0,1,(.c (.string ⟨#[85,110,105,116]⟩)))]),.r (some 4) (.bd #[(.string ⟨#[]⟩),(i 0)] [(0,1,(.c (.string ⟨#[78,105,108]⟩)))]),.r (some 5) (.bd #[(.string ⟨#[]⟩),(i 0)] [(0,1,(.c (.string ⟨#[67,111,110,115]⟩))),(1,1,(k 2))]),.r (some 6) (.bd #[(.string ⟨#[]⟩),(i 0)] [(0,1,(.c (.string ⟨#[80,97,105,114]⟩))),(1,1,(k 2))]),.r (some 7) (.bd #[(.string ⟨#[]⟩),(i 0)] [(0,1,(.c (.string ⟨#[84,114,105,112,108,101]⟩))),(1,1,(k 3))]),.e (some 8) (.bs 89 7 #[(.string ⟨#[]⟩),(i 0),(.string ⟨#[]⟩),(i 0),(.string ⟨#[]⟩),(i 0),(.string ⟨#[]⟩),(i 0),(.string ⟨#[]⟩),(i 0),(.string ⟨#[]⟩),(i 0),(.string ⟨#[]⟩),(i 0)] [(0,2,(.t 1)),(2,2,(.t 2)),(4,2,(.t 3)),(6,2,(.t 4)),(8,2,(.t 5)),(10,2,(.t 6)),(12,2,(.t 7))]),m 0 8] [0] <| .ret
theorem fit25:Fits Tryz.prog 25 0 (hOf Tryz.f25 ir25) ir25 [.t 0] 9:=.m Tryz.f25 _
end
section
open Go Go.W
def itEq (a b:It):Bool:=decide (a.con=b.con)&&decide (a.num=b.num)
theorem itEq_iff (a b:It):itEq a b=true↔a=b:=by
 unfold itEq
 simp only [Bool.and_eq_true,decide_eq_true_eq]
 constructor
 · rintro ⟨h1,h2⟩;cases a;cases b;simp_all
 · rintro rfl;exact ⟨rfl,rfl⟩
def begS:List It→List It→Bool
 | [],_=>true
 | _,[]=>true
 | a::l,b::m=>itEq a b&&begS l m
theorem begS_at {l m:List It} {i:Nat} (h1:i < l.length) (h2:i < m.length):begS (l.drop i) (m.drop i)=(itEq l[i] m[i]&&begS (l.drop (i+1)) (m.drop (i+1))):=by
 rw [List.drop_eq_getElem_cons h1,List.drop_eq_getElem_cons h2];rfl
theorem begS_end {l m:List It} {i:Nat} (h:l.length≤i∨m.length≤i):begS (l.drop i) (m.drop i)=true:=by
 rcases h with h | h
 · rw [List.drop_eq_nil_of_le h];cases m.drop i<;>rfl
 · rw [List.drop_eq_nil_of_le h];cases l.drop i<;>rfl
theorem begS_same:∀ (l m:List It),(begS l m&&decide (l.length=m.length))=true↔l=m:=by
 intro l
 induction l with
 | nil=>
   intro m
   cases m with
   | nil=>simp [begS]
   | cons b m=>simp [begS]
 | cons a l ih=>
   intro m
   cases m with
   | nil=>simp [begS]
   | cons b m=>
     have:=ih m
     simp only [begS,Bool.and_eq_true,decide_eq_true_eq,List.length_cons,List.cons.injEq,itEq_iff] at this ⊢
     constructor
     · rintro ⟨⟨h1,h2⟩,h3⟩;exact ⟨h1,this.1 ⟨h2,by omega⟩⟩
     · rintro ⟨h1,h2⟩;have:=this.2 h2;exact ⟨⟨h1,this.1⟩,by omega⟩
def ItsAt (w:World) (v:Value) (l:List It):Prop:=∃ B,RowsAt w v 2 (l.map itRow) B
theorem ItsAt.mod {w w':World} {v:Value} {l:List It} (h:ItsAt w v l) (hm:Mod (fun _=>False) w w'):ItsAt w' v l:=by
 obtain ⟨B,h⟩:=h
 exact ⟨B,h.mod hm (fun _ _ h=>h) (fun _ h=>h)⟩
theorem itRow_len (l:List It):∀ r∈l.map itRow,r.length=2:=by
 intro r hr
 obtain ⟨x,_,rfl⟩:=List.mem_map.1 hr
 rfl
theorem ToldAt.its {w w':World} {v:Value} {l:List It} (h:ToldAt w w' v l):ItsAt w' v l:=by
 obtain ⟨fp,h1,_⟩:=h
 refine ⟨_,own_rows (rows:=l.map itRow) (fp:=fp) (T:=72) ?_ (itRow_len l)⟩
 rw [List.length_map,List.flatMap_map]
 exact h1
theorem its_sl {w:World} {v:Value} {l:List It} (h:ItsAt w v l):∃ a c,v = .slice a l.length c:=by
 obtain ⟨B,h⟩:=h
 obtain ⟨a,c,e⟩:=rows_sl h
 exact ⟨a,c,by rw [e,List.length_map]⟩
theorem its_ln {w:World} {v:Value} {l:List It} (h:ItsAt w v l) {i:Nat} (hi:i < l.length):∃ ad c,v = .slice (some ad) l.length c∧vLN w 2 (.pointer (some (ad.add (i*2))))=some (.agg #[.string l[i].con,I l[i].num]):=by
 obtain ⟨B,h⟩:=h
 obtain ⟨ad,c,e,h1,h2⟩:=row_at h (i:=i) (by simpa using hi)
 refine ⟨ad,c,by rw [e,List.length_map],ln_2 ?_ ?_⟩
 · rw [h2 0 (by rw [h1];omega)];simp [itRow]
 · rw [h2 1 (by rw [h1];omega)];simp [itRow]
section
variable {w:World} {v1 v2:Value} {l1 l2:List It}
theorem f_begins (h1:ItsAt w v1 l1) (h2:ItsAt w v2 l2) (hb:l1.length≤4611686018427387904):CallsR Tryz.prog 23 [v1,v2] w fun r w'=>r = .bool (begS l1 l2)∧Mod (fun _=>False) w w':=by
 obtain ⟨a1,c1,rfl⟩:=its_sl h1
 obtain ⟨a2,c2,rfl⟩:=its_sl h2
 refine fit23.calls rfl ?_
 unfold ir23
 (try simp only [go_sem,simprocAttr])
 refine ir_loop (fun z ρ w'=>∃ i:Nat,z=l1.length - i∧i≤l1.length∧Mod (fun _=>False) w w'∧begS l1 l2=begS (l1.drop i) (l2.drop i) ∧
   ρ=[(0,.slice a1 l1.length c1),(1,.slice a2 l2.length c2),(5,I i)]) l1.length ⟨0,rfl,by omega,Mod.refl _ _,rfl,rfl⟩ ?_
 rintro z ρ w2 ⟨i,rfl,hi,hm2,heq,rfl⟩
 unfold ir23L1
 (try simp only [go_sem,simprocAttr])
 refine wpS_cut (fun ρ w'=>w2=w'∧ρ.get 0=some (.slice a1 l1.length c1)∧ρ.get 1=some (.slice a2 l2.length c2)∧ρ.get 5=some (I i)∧ρ.get 15=some (.bool (decide (i < l1.length∧i < l2.length)))) ?_ ?_
 · cases q:decide ((i:Int) < l1.length)<;>(try simp only [go_sem,simprocAttr,q])<;>(simp only [zb1,zb2,zb3,zb4,zb5] at q;simp [q];try omega)
 rintro ρ _ ⟨rfl,r0,r1,r5,r15⟩
 (try simp only [go_sem,simprocAttr,r0,r1,r5,r15])
 refine ir_cond rfl (fun hlt=>?_) (fun hlt=>?_)
 · simp only [zb1,zb2,zb3,zb4,zb5] at hlt
   have hat:=begS_at hlt.1 hlt.2
   have hm2d:=hm2.drew
   obtain ⟨ad1,c1',e1,hl1⟩:=its_ln (h1.mod hm2d) hlt.1
   obtain ⟨ad2,c2',e2,hl2⟩:=its_ln (h2.mod hm2d) hlt.2
   cases e1;cases e2
   have b1:(0:Int)≤i∧(i:Int) < l1.length:=by omega
   have b2:(0:Int)≤i∧(i:Int) < l2.length:=by omega
   have e3:IntKind.i64.wrap ((i:Int)+1)=((i+1:Nat):Int):=by rw [wrap_in (by omega) (by omega)];omega
   (try simp only [go_sem,simprocAttr,zb4,zb6,b1,b2,hl1,hl2,ba_leq,ieq])
   have e4:(decide (l1[i].con=l2[i].con)&&decide (l1[i].num=l2[i].num))=itEq l1[i] l2[i]:=rfl
   rw [e4]
   refine ir_cond rfl (fun hz=>?_) (fun hz=>?_)
   · (try simp only [go_sem,simprocAttr])
     rw [heq,hat,show itEq l1[i] l2[i]=false by simpa using hz]
     exact ⟨rfl,hm2d⟩
   · (try simp only [go_sem,simprocAttr,e3])
     exact ⟨_,by omega,i+1,rfl,by omega,hm2d,by rw [heq,hat,show itEq l1[i] l2[i]=true by simpa using hz];rfl,rfl⟩
 · simp only [zb1,zb2,zb3,zb4,zb5] at hlt
   (try simp only [go_sem,simprocAttr])
   rw [heq,begS_end (by omega)]
   exact ⟨rfl,hm2⟩
theorem f_sameTold (h1:ItsAt w v1 l1) (h2:ItsAt w v2 l2) (hb:l1.length≤4611686018427387904):CallsR Tryz.prog 19 [v1,v2] w fun r w'=>(∃ t:Bool,r = .bool t∧(t=true↔l1=l2))∧Mod (fun _=>False) w w':=by
 have h1':=h1
 have h2':=h2
 obtain ⟨a1,c1,rfl⟩:=its_sl h1
 obtain ⟨a2,c2,rfl⟩:=its_sl h2
 refine fit19.calls rfl ?_
 unfold ir19
 (try simp only [go_sem,simprocAttr])
 refine e_call (by rfl) ?_
 refine (f_begins h1' h2' hb).mono ?_
 rintro _ w1 ⟨rfl,hm1⟩
 have hs:=begS_same l1 l2
 have e:((l1.length:Int) == (l2.length:Int))=decide (l1.length=l2.length):=by rw [ieq];exact decide_eq_decide.2 (by omega)
 cases hb:begS l1 l2
 · rw [hb] at hs
   (try simp only [go_sem,simprocAttr])
   exact ⟨⟨_,rfl,hs⟩,hm1⟩
 · rw [hb,Bool.true_and] at hs
   (try simp only [go_sem,simprocAttr,e])
   exact ⟨⟨_,rfl,hs⟩,hm1⟩
theorem f_same {k1 k2 s1 s2 n1 n2:Int} (h1:ItsAt w v1 l1) (h2:ItsAt w v2 l2) (hb:l1.length≤4611686018427387904) :
   CallsR Tryz.prog 12 [outV k1 v1 s1 n1,outV k2 v2 s2 n2] w fun r w'=>(∃ t:Bool,r = .bool t∧(t=true↔k1=k2∧s1=s2∧n1=n2∧l1=l2))∧Mod (fun _=>False) w w':=by
 have h1':=h1
 have h2':=h2
 obtain ⟨a1,c1,rfl⟩:=its_sl h1
 obtain ⟨a2,c2,rfl⟩:=its_sl h2
 refine fit12.calls rfl ?_
 unfold ir12 outV
 (try simp only [go_sem,simprocAttr])
 refine e_bx rfl ?_
 intro w1 hb1 hm1 hs1
 (try simp only [go_sem,simprocAttr])
 refine e_bx rfl ?_
 intro w2 hb2 hm2 hs2
 have hb12:=hm2.at hb1 (fun h=>h)
 have hm02:=hm1.trans hm2
 (try simp only [go_sem,simprocAttr,cell_of hb12,cell_of hb2,Value.cells])
 refine e_call (by rfl) ?_
 refine (f_sameTold (h1'.mod hm02) (h2'.mod hm02) hb).mono ?_
 rintro _ w3 ⟨⟨t,rfl,ht⟩,hm3⟩
 have hm03:=hm02.trans hm3
 have hb13:=hm3.at hb12 (fun h=>h)
 have hb23:=hm3.at hb2 (fun h=>h)
 have hb13':w3.heap[w.heap.size]? = some (.cells [I k1,.slice a1 l1.length c1,I s1,I n1,I 0,I 0,I 0,.string ⟨#[]⟩].toArray 39 (0,0)):=hb13
 have hb23':w3.heap[w1.heap.size]? = some (.cells [I k2,.slice a2 l2.length c2,I s2,I n2,I 0,I 0,I 0,.string ⟨#[]⟩].toArray 39 (0,0)):=hb23
 have ln1:=ln_of (off:=4) (n:=4) hb13' (by simp)
 have ln2:=ln_of (off:=4) (n:=4) hb23' (by simp)
 cases q1:(k1 == k2)<;>cases q2:(s1 == s2)<;>cases q3:(n1 == n2)<;>(try simp only [go_sem,simprocAttr,cell_of hb13',cell_of hb23',q1,q2,q3,ln1,ln2,List.drop_succ_cons,List.drop_zero,List.take_succ_cons,List.take_zero,Int.reduceBEq,beq_self_eq_true,Bool.and_true,Bool.and_self,Bool.true_and])<;>(rw [ieq] at q1 q2 q3;simp only [zb1,zb2,zb3,zb4,zb5] at q1;simp only [zb1,zb2,zb3,zb4,zb5] at q2;simp only [zb1,zb2,zb3,zb4,zb5] at q3;refine ⟨⟨_,rfl,?_⟩,hm03⟩;simp [q1,q2,q3,ht])
end
end
section
open Go Go.W
structure Tri where
 a:Int
 b:Int
 c:Int
def triRow (t:Tri):List Value:=[I t.a,I t.b,I t.c]
def seeT (f:Fr):Tri:=if f.runs=true then ⟨f.glob,f.at',f.stack.length⟩ else ⟨-1,0,f.spine.length⟩
theorem seeT_row (f:Fr):triRow (seeT f)=seeRow f:=by unfold seeT seeRow triRow;split<;>rfl
def triEq (x y:Tri):Bool:=decide (x.a=y.a)&&(decide (x.b=y.b)&&decide (x.c=y.c))
theorem triEq_iff (x y:Tri):triEq x y=true↔x=y:=by
 unfold triEq
 simp only [Bool.and_eq_true,decide_eq_true_eq]
 constructor
 · rintro ⟨h1,h2,h3⟩;cases x;cases y;simp_all
 · rintro rfl;exact ⟨rfl,rfl,rfl⟩
def TrisAt (w:World) (v:Value) (l:List Tri):Prop:=∃ B,RowsAt w v 3 (l.map triRow) B
theorem TrisAt.mod {w w':World} {v:Value} {l:List Tri} (h:TrisAt w v l) (hm:Mod (fun _=>False) w w'):TrisAt w' v l:=by
 obtain ⟨B,h⟩:=h
 exact ⟨B,h.mod hm (fun _ _ h=>h) (fun _ h=>h)⟩
theorem triRow_len (l:List Tri):∀ r∈l.map triRow,r.length=3:=by
 intro r hr
 obtain ⟨x,_,rfl⟩:=List.mem_map.1 hr
 rfl
structure Vis where
 steps:Int
 live:Int
 ended:Int
 fr:List Tri
def visOf (M:Mc):Vis:=⟨M.steps,liveOf M,M.ended,M.frames.reverse.map seeT⟩
def VisAt (w:World) (r:Value) (V:Vis):Prop:=∃ v,r = .agg #[I V.steps,v,I V.live,I V.ended]∧TrisAt w v V.fr
theorem VisAt.mod {w w':World} {r:Value} {V:Vis} (h:VisAt w r V) (hm:Mod (fun _=>False) w w'):VisAt w' r V:=by
 obtain ⟨v,e,h⟩:=h
 exact ⟨v,e,h.mod hm⟩
theorem SightV.vis {w w':World} {M:Mc} {r:Value} (h:SightV w w' M r):VisAt w' r (visOf M):=by
 obtain ⟨v,fp,e,h1,_⟩:=h
 refine ⟨v,e,_,own_rows (rows:=(M.frames.reverse.map seeT).map triRow) (fp:=fp) (T:=100) ?_ (triRow_len _)⟩
 have e1:((M.frames.reverse.map seeT).map triRow).flatMap id=M.frames.reverse.flatMap seeRow:=by
   rw [List.map_map,List.flatMap_map]
   congr 1
   funext f
   exact seeT_row f
 rw [e1]
 simpa using h1
theorem tri_sl {w:World} {v:Value} {l:List Tri} (h:TrisAt w v l):∃ a c,v = .slice a l.length c:=by
 obtain ⟨B,h⟩:=h
 obtain ⟨a,c,e⟩:=rows_sl h
 exact ⟨a,c,by rw [e,List.length_map]⟩
theorem tri_ln {w:World} {v:Value} {l:List Tri} (h:TrisAt w v l) {i:Nat} (hi:i < l.length):∃ ad c,v = .slice (some ad) l.length c∧vLN w 3 (.pointer (some (ad.add (i*3))))=some (.agg #[I l[i].a,I l[i].b,I l[i].c]):=by
 obtain ⟨B,h⟩:=h
 obtain ⟨ad,c,e,h1,h2⟩:=row_at h (i:=i) (by simpa using hi)
 refine ⟨ad,c,by rw [e,List.length_map],ln_3 ?_ ?_ ?_⟩
 · rw [h2 0 (by rw [h1];omega)];simp [triRow]
 · rw [h2 1 (by rw [h1];omega)];simp [triRow]
 · rw [h2 2 (by rw [h1];omega)];simp [triRow]
theorem tri_all {l m:List Tri} (hl:l.length=m.length) (h:∀ i (h1:i < l.length) (h2:i < m.length),l[i]=m[i]):l=m:=List.ext_getElem hl h
section
variable {w:World} {r1 r2:Value} {V1 V2:Vis}
theorem f_sameSight (h1:VisAt w r1 V1) (h2:VisAt w r2 V2) (hb:V1.fr.length≤4611686018427387904) :
   CallsR Tryz.prog 21 [r1,r2] w fun r w'=>(∃ t:Bool,r = .bool t∧(t=true↔V1=V2))∧Mod (fun _=>False) w w':=by
 obtain ⟨v1,rfl,h1⟩:=h1
 obtain ⟨v2,rfl,h2⟩:=h2
 have h1':=h1
 have h2':=h2
 obtain ⟨a1,c1,rfl⟩:=tri_sl h1
 obtain ⟨a2,c2,rfl⟩:=tri_sl h2
 refine fit21.calls rfl ?_
 unfold ir21
 (try simp only [go_sem,simprocAttr])
 refine e_bx rfl ?_
 intro w1 hb1 hm1 hs1
 (try simp only [go_sem,simprocAttr])
 refine e_bx rfl ?_
 intro w2 hb2 hm2 hs2
 have hb12:=hm2.at hb1 (fun h=>h)
 have hm02:=hm1.trans hm2
 obtain ⟨s1,l1,e1,f1⟩:=V1
 obtain ⟨s2,l2,e2,f2⟩:=V2
 have fin:∀ {w3:World} {t:Bool},Mod (fun _=>False) w2 w3→(t=true↔Vis.mk s1 l1 e1 f1=Vis.mk s2 l2 e2 f2)→(∃ u:Bool,Value.bool t = .bool u∧(u=true↔Vis.mk s1 l1 e1 f1=Vis.mk s2 l2 e2 f2))∧Mod (fun _=>False) w w3:=fun hm ht=>⟨⟨_,rfl,ht⟩,hm02.trans hm⟩
 have hb12':w2.heap[w.heap.size]? = some (.cells #[I s1,.slice a1 f1.length c1,I l1,I e1] 59 (0,0)):=hb12
 have hb2':w2.heap[w1.heap.size]? = some (.cells #[I s2,.slice a2 f2.length c2,I l2,I e2] 59 (0,0)):=hb2
 cases q1:(s1 == s2)
 · (try simp only [go_sem,simprocAttr,cell_of hb12',cell_of hb2',q1,bne,Bool.not_false])
   exact fin (Mod.refl _ _) ⟨fun h=>(nomatch h),fun h=>by cases h;simp at q1⟩
 cases q2:(l1 == l2)
 · (try simp only [go_sem,simprocAttr,cell_of hb12',cell_of hb2',q1,q2,bne,Bool.not_false,Bool.not_true])
   exact fin (Mod.refl _ _) ⟨fun h=>(nomatch h),fun h=>by cases h;simp at q2⟩
 cases q3:(e1 == e2)
 · (try simp only [go_sem,simprocAttr,cell_of hb12',cell_of hb2',q1,q2,q3,bne,Bool.not_false,Bool.not_true])
   exact fin (Mod.refl _ _) ⟨fun h=>(nomatch h),fun h=>by cases h;simp at q3⟩
 cases q4:((f1.length:Int) == (f2.length:Int))
 · (try simp only [go_sem,simprocAttr,cell_of hb12',cell_of hb2',q1,q2,q3,q4,bne,Bool.not_false,Bool.not_true])
   exact fin (Mod.refl _ _) ⟨fun h=>(nomatch h),fun h=>by cases h;simp at q4⟩
 (try simp only [go_sem,simprocAttr,cell_of hb12',cell_of hb2',q1,q2,q3,q4,bne,Bool.not_false,Bool.not_true])
 rw [beq_iff_eq] at q1 q2 q3 q4
 subst q1 q2 q3
 have q4:f1.length=f2.length:=by omega
 refine ir_loop (fun z ρ w'=>∃ i:Nat,z=f1.length - i∧i≤f1.length∧Mod (fun _=>False) w2 w'∧(∀ k (h1:k < f1.length) (h2:k < f2.length),k < i→f1[k]=f2[k]) ∧
   ρ=[(2,ptr w.heap.size),(3,ptr w1.heap.size),(5,I i)]) f1.length ⟨0,rfl,by omega,Mod.refl _ _,(fun k _ _ h=>by omega),rfl⟩ ?_
 rintro z ρ w3 ⟨i,rfl,hi,hm3,heq,rfl⟩
 unfold ir21L1
 have hb13:=hm3.at hb12' (fun h=>h)
 have hb23:=hm3.at hb2' (fun h=>h)
 (try simp only [go_sem,simprocAttr,cell_of hb13,cell_of hb23,ptr])
 refine ir_cond rfl (fun hlt=>?_) (fun hlt=>?_)
 · simp only [zb1,zb2,zb3,zb4,zb5] at hlt
   have hlt1:i < f1.length:=by omega
   have hlt2:i < f2.length:=by omega
   have hm3d:=hm3.drew
   have hb13d:=hm3d.at hb12' (fun h=>h)
   have hb23d:=hm3d.at hb2' (fun h=>h)
   obtain ⟨ad1,c1',k1,hl1⟩:=tri_ln (h1.mod (hm02.trans hm3d)) hlt1
   obtain ⟨ad2,c2',k2,hl2⟩:=tri_ln (h2.mod (hm02.trans hm3d)) hlt2
   cases k1;cases k2
   have b1:(0:Int)≤i∧(i:Int) < f1.length:=by omega
   have b2:(0:Int)≤i∧(i:Int) < f2.length:=by omega
   have e3:IntKind.i64.wrap ((i:Int)+1)=((i+1:Nat):Int):=by
     simp only at hb
     rw [wrap_in (by omega) (by omega)];omega
   have hti:=triEq_iff f1[i] f2[i]
   (try simp only [go_sem,simprocAttr,zb4,zb6,cell_of hb13,cell_of hb23,b1,b2,hl1,hl2,ieq])
   have e4:(!(decide (f1[i].a=f2[i].a)&&(decide (f1[i].b=f2[i].b)&&decide (f1[i].c=f2[i].c)))) = !triEq f1[i] f2[i]:=rfl
   rw [e4]
   refine ir_cond rfl (fun hz=>?_) (fun hz=>?_)
   · (try simp only [go_sem,simprocAttr])
     refine fin hm3d ⟨fun h=>(nomatch h),fun h=>?_⟩
     exfalso
     cases h
     have:=hti.2 rfl
     rw [this] at hz
     exact nomatch hz
   · (try simp only [go_sem,simprocAttr,e3])
     have hz':f1[i]=f2[i]:=hti.1 (by simpa using hz)
     refine ⟨_,by omega,i+1,rfl,by omega,hm3d,(fun k h1 h2 hk=>?_),rfl⟩
     rcases Nat.lt_succ_iff_lt_or_eq.1 hk with hk | rfl
     · exact heq k h1 h2 hk
     · exact hz'
 · simp only [zb1,zb2,zb3,zb4,zb5] at hlt
   (try simp only [go_sem,simprocAttr])
   exact fin hm3 ⟨fun _=>by rw [show f1=f2 from tri_all q4 (fun k h1 h2=>heq k h1 h2 (by omega))],fun _=>rfl⟩
end
end
end Go.Proofs.YtcllploggibicaaGreat