/- Texts that the last file stands on: Q8, Q9, M17, Q10, Q11, Q12, Q14, M18, Q13, W12, C0, C1, C2, C3, C4, C5, C6, C7, C8, C9. -/
import Derived.Test.YtcllploggibicaaGreatZOD
import Derived.Test.YtcllploggibicaaGreatZOA
set_option linter.unusedSimpArgs false
set_option linter.unusedVariables false
set_option maxRecDepth 100000
namespace Go.Proofs.YtcllploggibicaaGreat
section
open Go Go.W
section
variable {ρ:Int→Int} {E:List Nat} {R:Nat→Nat→Prop} {M1 M2:Mc} {n1 n2:Int}
structure Two (ρ:Int→Int) (E:List Nat) (R:Nat→Nat→Prop) (n1 n2:Int) (M1 M2:Mc):Prop where
 l:MLink ρ E R M1 M2
 g1:MG n1 M1
 g2:MG n2 M2
 pos:0 < M1.frames.length
 hρ:∀ g,0≤g→0≤ρ g
theorem Two.pos2 (h:Two ρ E R n1 n2 M1 M2):0 < M2.frames.length:=by rw [← h.l.fr.1];exact h.pos
theorem Two.top (h:Two ρ E R n1 n2 M1 M2):FrL ρ M1.st M2.st R M1.top M2.top:=h.l.top h.pos
theorem Two.len (h:Two ρ E R n1 n2 M1 M2):M2.top.stack.length=M1.top.stack.length:=h.top.stack.1.symm
theorem Two.place (h:Two ρ E R n1 n2 M1 M2) {k:Int} (hk:0≤k∧k < M1.top.stack.length):Lk M1.st M2.st R (M1.top.place k) (M2.top.place k):=by
 unfold Fr.place
 rw [h.len]
 exact h.top.stack.getD (by omega) _ _
theorem Two.in1 (h:Two ρ E R n1 n2 M1 M2) {k:Int} (hk:0≤k∧k < M1.top.stack.length):M1.st.In (M1.top.place k):=(h.g1.top h.pos).sk _ (place_mem hk)
theorem Two.in2 (h:Two ρ E R n1 n2 M1 M2) {k:Int} (hk:0≤k∧k < M1.top.stack.length):M2.st.In (M2.top.place k):=(h.g2.top h.pos2).sk _ (place_mem (by rw [h.len];exact hk))
theorem Two.stack (h:Two ρ E R n1 n2 M1 M2) {l1 l2:List Int} (hl:L2 (Lk M1.st M2.st R) l1 l2):MLink ρ E R (M1.setTop { M1.top with stack:=l1}) (M2.setTop { M2.top with stack:=l2}):=
 h.l.setTop ⟨h.top.runs,h.top.glob,h.top.at',hl,h.top.spine,h.top.stands⟩
theorem Two.put (h:Two ρ E R n1 n2 M1 M2) {k num:Int} {l1 l2:List Int} (hm1:(⟨k,num,l1⟩:Nd).may=true) (hm2:(⟨k,num,l2⟩:Nd).may=true) (h5:k≠5) (h4:k≠4) (i1:∀ a∈l1,M1.st.In a) (i2:∀ a∈l2,M2.st.In a)
   (hl:L2 (Lk M1.st M2.st R) l1 l2) (d:Int):∃ R',MLink ρ E R' (M1.put ⟨k,num,l1⟩ d) (M2.put ⟨k,num,l2⟩ d):=by
 obtain ⟨R',a1,a2,a3,a4⟩:=link_add h.hρ h.l.iso h.g1.g h.g2.g hm1 hm2 h5 h4 i1 i2 hl
 have k:=h.l.store h.g1 h.g2 a1 a2 a4
 refine ⟨R',?_⟩
 have ht:=h.top.move a2 (h.g1.top h.pos) (h.g2.top h.pos2)
 refine MLink.setTop (M1:={ M1 with st:=M1.st.add ⟨_,num,l1⟩}) (M2:={ M2 with st:=M2.st.add ⟨_,num,l2⟩}) k ⟨ht.runs,ht.glob,ht.at',?_,ht.spine,ht.stands⟩
 show L2 _ (M1.top.stack.take _++[_]) (M2.top.stack.take _++[_])
 rw [h.len]
 exact (ht.stack.take _).app (L2.one a3)
theorem Two.alloc (h:Two ρ E R n1 n2 M1 M2):∀ k:Nat,(M1.st.ns.length:Int)+k≤M1.st.size→(M2.st.ns.length:Int)+k≤M2.st.size→∃ R',MLink ρ E R' (M1.alloc k) (M2.alloc k)∧Moves M1.st M2.st (M1.alloc k).st (M2.alloc k).st R R':=by
 intro k
 induction k with
 | zero=>intro _ _;exact ⟨R,by rw [alloc_zero h.pos,alloc_zero h.pos2];exact h.l,by rw [alloc_zero h.pos,alloc_zero h.pos2];exact fun _ _ _ _ h=>h⟩
 | succ k ih=>
   intro hs1 hs2
   obtain ⟨R',l,mv⟩:=ih (by omega) (by omega)
   have st1:=h.g1.g.adds k (by omega)
   have st2:=h.g2.g.adds k (by omega)
   obtain ⟨R'',a1,a2,a3,a4⟩:=link_add (k:=6) (num:=0) (l1:=[]) (l2:=[]) h.hρ l.iso st1 st2 rfl rfl (by decide) (by decide) (fun a ha=>by cases ha) (fun a ha=>by cases ha) L2.nil
   have t1:=(setTop_top h.pos { M1.top with stack:=M1.top.stack++(List.range k).map fun i=>((M1.st.ns.length+i:Nat):Int)}).1
   have t2:=(setTop_top h.pos2 { M2.top with stack:=M2.top.stack++(List.range k).map fun i=>((M2.st.ns.length+i:Nat):Int)}).1
   have mono:∀ (s:St) (a:Int),s.In a→St.In { s with ns:=s.ns++List.replicate k ⟨6,0,[]⟩} a:=fun s a ha=>⟨ha.1,by have:=ha.2;simp only [List.length_append,List.length_replicate];omega⟩
   have grow:∀ (M:Mc) (n:Int),MG n M→0 < M.frames.length→GOk M.tab { M.st with ns:=M.st.ns++List.replicate k ⟨6,0,[]⟩}→∃ n',MG n' (M.alloc k)∨True:=fun M n _ _ _=>⟨n,.inr trivial⟩
   have h1:∀ f∈M1.frames,FrG (M1.alloc k).st n1 f:=fun f hf=>(h.g1.frs f hf).weak (mono _) (by omega)
   have h2:∀ f∈M2.frames,FrG (M2.alloc k).st n2 f:=fun f hf=>(h.g2.frs f hf).weak (mono _) (by omega)
   have mv1:Moves (M1.alloc k).st (M2.alloc k).st ((M1.alloc k).st.add ⟨6,0,[]⟩) ((M2.alloc k).st.add ⟨6,0,[]⟩) R' R'':=a2
   have stk:∀ (M:Mc) (a:Int),a∈(List.range k).map (fun i=>((M.st.ns.length+i:Nat):Int))→St.In { M.st with ns:=M.st.ns++List.replicate k ⟨6,0,[]⟩} a:=by
     intro M a ha
     obtain ⟨i,hi,rfl⟩:=List.mem_map.1 ha
     have:=List.mem_range.1 hi
     exact ⟨by omega,by simp only [List.length_append,List.length_replicate];omega⟩
   have tl:=l.top (by simp [Mc.alloc,Mc.setTop];exact h.pos)
   have e1:(M1.alloc k).top = { M1.top with stack:=M1.top.stack++(List.range k).map fun i=>((M1.st.ns.length+i:Nat):Int)}:=t1
   have e2:(M2.alloc k).top = { M2.top with stack:=M2.top.stack++(List.range k).map fun i=>((M2.st.ns.length+i:Nat):Int)}:=t2
   have stack1:∀ a∈(M1.alloc k).top.stack,(M1.alloc k).st.In a:=by
     rw [e1]
     intro a ha
     rcases List.mem_append.1 ha with ha | ha
     · exact mono _ a ((h.g1.top h.pos).sk a ha)
     · exact stk _ a ha
   have stack2:∀ a∈(M2.alloc k).top.stack,(M2.alloc k).st.In a:=by
     rw [e2]
     intro a ha
     rcases List.mem_append.1 ha with ha | ha
     · exact mono _ a ((h.g2.top h.pos2).sk a ha)
     · exact stk _ a ha
   have l':MLink ρ E R'' ({ M1.alloc k with st:=(M1.alloc k).st.add ⟨6,0,[]⟩}:Mc) ({ M2.alloc k with st:=(M2.alloc k).st.add ⟨6,0,[]⟩}:Mc):=by
     refine ⟨a1,l.tab,l.inp,l.given,l.told,l.steps,l.ended,l.stuck,?_,fun i hi=>⟨(l.ex i hi).1,a4 _ (l.ex i hi).2⟩,?_,?_⟩
     · intro g h0 hg
       obtain ⟨r0,r1⟩:=h.l.tab.nn g h0 hg
       exact mv1 _ _ (mono _ _ (gl_in1 h.g1 h0 hg)) (mono _ _ (gl_in1 h.g2 r0 r1)) (l.gl g h0 hg)
     · refine ⟨l.fr.1,fun i f1 f2 m1 m2=>?_⟩
       have lk:=l.fr.2 i f1 f2 m1 m2
       have c1:∀ (M:Mc) (f:Fr),0 < M.frames.length→(M.alloc k).frames[i]? = some f→f∈M.frames∨f=(M.alloc k).top:=by
         intro M f hp hf
         have hf:(M.frames.set (M.frames.length - 1) _)[i]? = some f:=hf
         have e:(M.alloc k).top = { M.top with stack:=M.top.stack++(List.range k).map fun i=>((M.st.ns.length+i:Nat):Int)}:=(setTop_top hp _).1
         rcases List.mem_or_eq_of_mem_set (List.mem_of_getElem? hf) with hf | hf
         · exact .inl hf
         · exact .inr (hf.trans e.symm)
       have in1:(∀ a∈f1.stack,(M1.alloc k).st.In a)∧(∀ a∈f1.spine,(M1.alloc k).st.In a)∧(M1.alloc k).st.In f1.stands:=by
         rcases c1 M1 f1 h.pos m1 with hf | rfl
         · exact ⟨(h1 f1 hf).sk,(h1 f1 hf).sp,(h1 f1 hf).sd⟩
         · exact ⟨stack1,by rw [e1];exact (h1 _ (top_mem h.pos)).sp,by rw [e1];exact (h1 _ (top_mem h.pos)).sd⟩
       have in2:(∀ a∈f2.stack,(M2.alloc k).st.In a)∧(∀ a∈f2.spine,(M2.alloc k).st.In a)∧(M2.alloc k).st.In f2.stands:=by
         rcases c1 M2 f2 h.pos2 m2 with hf | rfl
         · exact ⟨(h2 f2 hf).sk,(h2 f2 hf).sp,(h2 f2 hf).sd⟩
         · exact ⟨stack2,by rw [e2];exact (h2 _ (top_mem h.pos2)).sp,by rw [e2];exact (h2 _ (top_mem h.pos2)).sd⟩
       exact ⟨lk.runs,lk.glob,lk.at',lk.stack.mono (fun a b ha hb=>mv1 a b (in1.1 a ha) (in2.1 b hb)),lk.spine.mono (fun a b ha hb=>mv1 a b (in1.2.1 a ha) (in2.2.1 b hb)),mv1 _ _ in1.2.2 in2.2.2 lk.stands⟩
     · exact l.wt.mono (fun a b ha hb=>mv1 a b (mono _ _ (h.g1.wts a ha)) (mono _ _ (h.g2.wts b hb)))
   refine ⟨R'',?_,?_⟩
   · rw [alloc_succ h.pos,alloc_succ h.pos2]
     have tl':=l'.top (by simp [Mc.alloc,Mc.setTop];exact h.pos)
     exact l'.setTop ⟨tl'.runs,tl'.glob,tl'.at',tl'.stack.app (L2.one a3),tl'.spine,tl'.stands⟩
   · intro a b ha hb hab
     have:=mv1 a b (mono _ a ha) (mono _ b hb) (mv a b ha hb hab)
     rw [alloc_succ h.pos,alloc_succ h.pos2]
     exact this
end
end
section
open Go Go.W
theorem ren_ins (ρ:Int→Int) (x:Ins):(renIns ρ x).op=x.op∧(renIns ρ x).b=x.b∧(x.op≠2→(renIns ρ x).a=x.a)∧(x.op=2→(renIns ρ x).a=ρ x.a):=by
 unfold renIns
 split
 · rename_i h;exact ⟨rfl,rfl,fun hh=>absurd h hh,fun _=>rfl⟩
 · rename_i h;exact ⟨rfl,rfl,fun _=>rfl,fun hh=>absurd hh h⟩
theorem ren_ins' (ρ:Int→Int) {x:Ins} (h:x.op≠2):renIns ρ x=x:=by unfold renIns;rw [if_neg h]
theorem exec1 {M:Mc} {x:Ins} (e:x.op=1):M.exec x=M.setTop (M.top.push (M.top.place x.a)):=by unfold Mc.exec;rw [if_pos e]
theorem exec2 {M:Mc} {x:Ins} (e:x.op=2):M.exec x=M.setTop (M.top.push (M.globals.getD x.a.toNat 0)):=by unfold Mc.exec;rw [if_neg (by omega),if_pos e]
theorem exec3 {M:Mc} {x:Ins} (e:x.op=3):M.exec x=M.put ⟨1,x.a,[]⟩ 0:=by unfold Mc.exec;rw [if_neg (by omega),if_neg (by omega),if_pos e]
theorem exec4 {M:Mc} {x:Ins} (e:x.op=4):M.exec x=M.setTop (M.top.pop x.a):=by unfold Mc.exec;rw [if_neg (by omega),if_neg (by omega),if_neg (by omega),if_pos e]
theorem exec5 {M:Mc} {x:Ins} (e:x.op=5):M.exec x=M.setTop ((M.top.pop (x.a+1)).push (M.top.place 0)):=by unfold Mc.exec;rw [if_neg (by omega),if_neg (by omega),if_neg (by omega),if_neg (by omega),if_pos e]
theorem exec6 {M:Mc} {x:Ins} (e:x.op=6):M.exec x=M.put ⟨3,0,[M.top.place 0,M.top.place 1]⟩ 2:=by unfold Mc.exec;rw [if_neg (by omega),if_neg (by omega),if_neg (by omega),if_neg (by omega),if_neg (by omega),if_pos e]
theorem exec7 {M:Mc} {x:Ins} (e:x.op=7):M.exec x = { M.setTop (M.top.pop 1) with st:=M.st.set (M.st.ov (M.top.place x.a)) ⟨5,0,[(M.st.ov (M.top.place 0):Int)]⟩}:=by unfold Mc.exec;rw [if_neg (by omega),if_neg (by omega),if_neg (by omega),if_neg (by omega),if_neg (by omega),if_neg (by omega),if_pos e]
theorem exec8 {M:Mc} {x:Ins} (e:x.op=8):M.exec x=M.alloc x.a.toNat:=by unfold Mc.exec;rw [if_neg (by omega),if_neg (by omega),if_neg (by omega),if_neg (by omega),if_neg (by omega),if_neg (by omega),if_neg (by omega),if_pos e]
theorem exec9 {M:Mc} {x:Ins} (e:x.op=9):M.exec x=M.put ⟨2,x.a,(List.range (M.tab.sh x.a).fields.toNat).map fun i:Nat=>M.top.place (i:Int)⟩ (M.tab.sh x.a).fields:=by unfold Mc.exec;rw [if_neg (by omega),if_neg (by omega),if_neg (by omega),if_neg (by omega),if_neg (by omega),if_neg (by omega),if_neg (by omega),if_neg (by omega),if_pos e]
theorem exec10 {M:Mc} {x:Ins} (e:x.op=10):M.exec x=if (M.st.nd (M.top.place 0)).kind≠2∨(M.st.nd (M.top.place 0)).num≠x.a∨((M.st.nd (M.top.place 0)).args.length:Int)≠(M.tab.sh x.a).fields then M.fail 5 else M.setTop { M.top.pop 1 with stack:=(M.top.pop 1).stack++(M.st.nd (M.top.place 0)).args.reverse}:=by unfold Mc.exec;rw [if_neg (by omega),if_neg (by omega),if_neg (by omega),if_neg (by omega),if_neg (by omega),if_neg (by omega),if_neg (by omega),if_neg (by omega),if_neg (by omega),if_pos e]
theorem exec11 {M:Mc} {x:Ins} (e:x.op=11):M.exec x=if (M.st.nd (M.top.place 0)).kind≠1∧(M.st.nd (M.top.place 0)).kind≠2 then M.enter (M.nv (M.top.place 0)) else M:=by unfold Mc.exec;rw [if_neg (by omega),if_neg (by omega),if_neg (by omega),if_neg (by omega),if_neg (by omega),if_neg (by omega),if_neg (by omega),if_neg (by omega),if_neg (by omega),if_neg (by omega),if_pos e]
theorem exec12 {M:Mc} {x:Ins} (e:x.op=12):M.exec x=M.arith x:=by unfold Mc.exec;rw [if_neg (by omega),if_neg (by omega),if_neg (by omega),if_neg (by omega),if_neg (by omega),if_neg (by omega),if_neg (by omega),if_neg (by omega),if_neg (by omega),if_neg (by omega),if_neg (by omega),if_pos e]
theorem exec13 {M:Mc} {x:Ins} (e:x.op=13):M.exec x=M.setTop { M.top with at':=x.a}:=by unfold Mc.exec;rw [if_neg (by omega),if_neg (by omega),if_neg (by omega),if_neg (by omega),if_neg (by omega),if_neg (by omega),if_neg (by omega),if_neg (by omega),if_neg (by omega),if_neg (by omega),if_neg (by omega),if_neg (by omega),if_pos e]
theorem exec14 {M:Mc} {x:Ins} (e:x.op=14):M.exec x=M.jumpIf (decide ((M.st.nd (M.top.place 0)).kind≠2)) (decide ((M.st.nd (M.top.place 0)).num≠x.a)) x.b:=by unfold Mc.exec;rw [if_neg (by omega),if_neg (by omega),if_neg (by omega),if_neg (by omega),if_neg (by omega),if_neg (by omega),if_neg (by omega),if_neg (by omega),if_neg (by omega),if_neg (by omega),if_neg (by omega),if_neg (by omega),if_neg (by omega),if_pos e]
theorem exec15 {M:Mc} {x:Ins} (e:x.op=15):M.exec x=M.jumpIf (decide ((M.st.nd (M.top.place 0)).kind≠1)) (decide ((M.st.nd (M.top.place 0)).num≠x.a)) x.b:=by unfold Mc.exec;rw [if_neg (by omega),if_neg (by omega),if_neg (by omega),if_neg (by omega),if_neg (by omega),if_neg (by omega),if_neg (by omega),if_neg (by omega),if_neg (by omega),if_neg (by omega),if_neg (by omega),if_neg (by omega),if_neg (by omega),if_neg (by omega),if_pos e]
theorem exec16 {M:Mc} {x:Ins} (e:x.op=16):M.exec x=M.fail x.a:=by unfold Mc.exec;rw [if_neg (by omega),if_neg (by omega),if_neg (by omega),if_neg (by omega),if_neg (by omega),if_neg (by omega),if_neg (by omega),if_neg (by omega),if_neg (by omega),if_neg (by omega),if_neg (by omega),if_neg (by omega),if_neg (by omega),if_neg (by omega),if_neg (by omega),if_pos e]
theorem exec17 {M:Mc} {x:Ins} (e:x.op=17):M.exec x=M.setTop { M.top with runs:=false,stands:=M.top.stack.getD 0 0,stack:=[]}:=by unfold Mc.exec;rw [if_neg (by omega),if_neg (by omega),if_neg (by omega),if_neg (by omega),if_neg (by omega),if_neg (by omega),if_neg (by omega),if_neg (by omega),if_neg (by omega),if_neg (by omega),if_neg (by omega),if_neg (by omega),if_neg (by omega),if_neg (by omega),if_neg (by omega),if_neg (by omega)]
theorem jumpIf_eq (M:Mc) (p q:Prop) [Decidable p] [Decidable q] (b:Int):M.jumpIf (decide p) (decide q) b=if p then M.fail 5 else if q then M.setTop { M.top with at':=b} else M:=by
 unfold Mc.jumpIf
 by_cases hp:p<;>by_cases hq:q<;>simp [hp,hq]
section
variable {ρ:Int→Int} {E:List Nat} {R:Nat→Nat→Prop} {M1 M2:Mc} {n1 n2:Int}
theorem next_link (h:MLink ρ E R M1 M2) (hp:0 < M1.frames.length):MLink ρ E R M1.next M2.next:=by
 have ht:=h.top hp
 exact h.setTop ⟨ht.runs,ht.glob,by show M2.top.at'+1=M1.top.at'+1;rw [ht.at'],ht.stack,ht.spine,ht.stands⟩
theorem sh_eq (h:MLink ρ E R M1 M2) (c:Int):M2.tab.sh c=M1.tab.sh c:=by unfold Tab.sh;rw [h.tab.sh]
theorem lx1 (h:MLink ρ E R M1 M2) (hρ:∀ g,0≤g→0≤ρ g) {x:Ins} (h1:AtIns n1 M1 x) (h2:AtIns n2 M2 (renIns ρ x)) (r1:0 < cellsOf x→(M1.st.ns.length:Int)+cellsOf x≤M1.st.size) (r2:0 < cellsOf x→(M2.st.ns.length:Int)+cellsOf x≤M2.st.size) (e:x.op=1) :
   ∃ R',MLink ρ E R' (M1.next.exec x) (M2.next.exec (renIns ρ x)):=by
 have hl:=next_link h h1.pos
 have t1:=next_top h1.pos
 have t2:=next_top h2.pos
 have hT:Two ρ E R n1 n2 M1.next M2.next:=⟨hl,h1.ok.mg.next h1.pos,h2.ok.mg.next h2.pos,by rw [show M1.next.frames.length=M1.frames.length from (setTop_top h1.pos _).2];exact h1.pos,hρ⟩
 have sl:M1.next.top.stack.length=M1.top.stack.length:=by rw [t1]
 obtain ⟨s1,s2,s3⟩:=h1.st
 have hn:=h1.io.nums
 have len:=hT.len
 have stk:=hT.top.stack
 have tk:∀ k,L2 (Lk M1.next.st M2.next.st R) (M1.next.top.stack.take (M1.next.top.stack.length - k)) (M2.next.top.stack.take (M2.next.top.stack.length - k)):=fun k=>by rw [len];exact stk.take _
 have p0:0≤(0:Int)∧(0:Int) < M1.next.top.stack.length:=by omega
 have l0:=hT.place p0
 have n0:=lk_nd hl.iso l0
 rw [ren_ins' ρ (by omega)]
 simp [stackedS,e] at s1
 have ha:=hn.c1 (.inl e)
 refine ⟨R,?_⟩
 rw [exec1 e,exec1 e]
 exact hT.stack (stk.app (L2.one (hT.place ⟨ha,by rw [sl];exact s1⟩)))
theorem lx2 (h:MLink ρ E R M1 M2) (hρ:∀ g,0≤g→0≤ρ g) {x:Ins} (h1:AtIns n1 M1 x) (h2:AtIns n2 M2 (renIns ρ x)) (r1:0 < cellsOf x→(M1.st.ns.length:Int)+cellsOf x≤M1.st.size) (r2:0 < cellsOf x→(M2.st.ns.length:Int)+cellsOf x≤M2.st.size) (e:x.op=2) :
   ∃ R',MLink ρ E R' (M1.next.exec x) (M2.next.exec (renIns ρ x)):=by
 have hl:=next_link h h1.pos
 have t1:=next_top h1.pos
 have t2:=next_top h2.pos
 have hT:Two ρ E R n1 n2 M1.next M2.next:=⟨hl,h1.ok.mg.next h1.pos,h2.ok.mg.next h2.pos,by rw [show M1.next.frames.length=M1.frames.length from (setTop_top h1.pos _).2];exact h1.pos,hρ⟩
 have sl:M1.next.top.stack.length=M1.top.stack.length:=by rw [t1]
 obtain ⟨s1,s2,s3⟩:=h1.st
 have hn:=h1.io.nums
 have len:=hT.len
 have stk:=hT.top.stack
 have tk:∀ k,L2 (Lk M1.next.st M2.next.st R) (M1.next.top.stack.take (M1.next.top.stack.length - k)) (M2.next.top.stack.take (M2.next.top.stack.length - k)):=fun k=>by rw [len];exact stk.take _
 have p0:0≤(0:Int)∧(0:Int) < M1.next.top.stack.length:=by omega
 have l0:=hT.place p0
 have n0:=lk_nd hl.iso l0
 obtain ⟨q1,_,_,q2⟩:=ren_ins ρ x
 have ha:=hn.c2 e
 refine ⟨R,?_⟩
 have e2:(renIns ρ x).op=2:=q1.trans e
 have k:∀ (M:Mc) (y:Ins),y.op=2→M.exec y=M.setTop (M.top.push (M.globals.getD y.a.toNat 0)):=fun M y hy=>exec2 hy
 rw [k _ _ e,k _ _ e2,q2 e]
 exact hT.stack (stk.app (L2.one (hl.gl x.a ha.1 ha.2)))
theorem lx3 (h:MLink ρ E R M1 M2) (hρ:∀ g,0≤g→0≤ρ g) {x:Ins} (h1:AtIns n1 M1 x) (h2:AtIns n2 M2 (renIns ρ x)) (r1:0 < cellsOf x→(M1.st.ns.length:Int)+cellsOf x≤M1.st.size) (r2:0 < cellsOf x→(M2.st.ns.length:Int)+cellsOf x≤M2.st.size) (e:x.op=3) :
   ∃ R',MLink ρ E R' (M1.next.exec x) (M2.next.exec (renIns ρ x)):=by
 have hl:=next_link h h1.pos
 have t1:=next_top h1.pos
 have t2:=next_top h2.pos
 have hT:Two ρ E R n1 n2 M1.next M2.next:=⟨hl,h1.ok.mg.next h1.pos,h2.ok.mg.next h2.pos,by rw [show M1.next.frames.length=M1.frames.length from (setTop_top h1.pos _).2];exact h1.pos,hρ⟩
 have sl:M1.next.top.stack.length=M1.top.stack.length:=by rw [t1]
 obtain ⟨s1,s2,s3⟩:=h1.st
 have hn:=h1.io.nums
 have len:=hT.len
 have stk:=hT.top.stack
 have tk:∀ k,L2 (Lk M1.next.st M2.next.st R) (M1.next.top.stack.take (M1.next.top.stack.length - k)) (M2.next.top.stack.take (M2.next.top.stack.length - k)):=fun k=>by rw [len];exact stk.take _
 have p0:0≤(0:Int)∧(0:Int) < M1.next.top.stack.length:=by omega
 have l0:=hT.place p0
 have n0:=lk_nd hl.iso l0
 rw [ren_ins' ρ (by omega)]
 have ha:=hn.c3 e
 have m:(⟨1,x.a,[]⟩:Nd).may=true:=may_int ha
 have k:∀ (M:Mc),M.exec x=M.put ⟨1,x.a,[]⟩ 0:=fun M=>exec3 e
 rw [k,k]
 exact hT.put m m (by decide) (by decide) (fun a ha=>by cases ha) (fun a ha=>by cases ha) L2.nil 0
theorem lx4 (h:MLink ρ E R M1 M2) (hρ:∀ g,0≤g→0≤ρ g) {x:Ins} (h1:AtIns n1 M1 x) (h2:AtIns n2 M2 (renIns ρ x)) (r1:0 < cellsOf x→(M1.st.ns.length:Int)+cellsOf x≤M1.st.size) (r2:0 < cellsOf x→(M2.st.ns.length:Int)+cellsOf x≤M2.st.size) (e:x.op=4) :
   ∃ R',MLink ρ E R' (M1.next.exec x) (M2.next.exec (renIns ρ x)):=by
 have hl:=next_link h h1.pos
 have t1:=next_top h1.pos
 have t2:=next_top h2.pos
 have hT:Two ρ E R n1 n2 M1.next M2.next:=⟨hl,h1.ok.mg.next h1.pos,h2.ok.mg.next h2.pos,by rw [show M1.next.frames.length=M1.frames.length from (setTop_top h1.pos _).2];exact h1.pos,hρ⟩
 have sl:M1.next.top.stack.length=M1.top.stack.length:=by rw [t1]
 obtain ⟨s1,s2,s3⟩:=h1.st
 have hn:=h1.io.nums
 have len:=hT.len
 have stk:=hT.top.stack
 have tk:∀ k,L2 (Lk M1.next.st M2.next.st R) (M1.next.top.stack.take (M1.next.top.stack.length - k)) (M2.next.top.stack.take (M2.next.top.stack.length - k)):=fun k=>by rw [len];exact stk.take _
 have p0:0≤(0:Int)∧(0:Int) < M1.next.top.stack.length:=by omega
 have l0:=hT.place p0
 have n0:=lk_nd hl.iso l0
 rw [ren_ins' ρ (by omega)]
 have k:∀ (M:Mc),M.exec x=M.setTop (M.top.pop x.a):=fun M=>exec4 e
 rw [k,k]
 exact ⟨R,hT.stack (tk _)⟩
theorem lx5 (h:MLink ρ E R M1 M2) (hρ:∀ g,0≤g→0≤ρ g) {x:Ins} (h1:AtIns n1 M1 x) (h2:AtIns n2 M2 (renIns ρ x)) (r1:0 < cellsOf x→(M1.st.ns.length:Int)+cellsOf x≤M1.st.size) (r2:0 < cellsOf x→(M2.st.ns.length:Int)+cellsOf x≤M2.st.size) (e:x.op=5) :
   ∃ R',MLink ρ E R' (M1.next.exec x) (M2.next.exec (renIns ρ x)):=by
 have hl:=next_link h h1.pos
 have t1:=next_top h1.pos
 have t2:=next_top h2.pos
 have hT:Two ρ E R n1 n2 M1.next M2.next:=⟨hl,h1.ok.mg.next h1.pos,h2.ok.mg.next h2.pos,by rw [show M1.next.frames.length=M1.frames.length from (setTop_top h1.pos _).2];exact h1.pos,hρ⟩
 have sl:M1.next.top.stack.length=M1.top.stack.length:=by rw [t1]
 obtain ⟨s1,s2,s3⟩:=h1.st
 have hn:=h1.io.nums
 have len:=hT.len
 have stk:=hT.top.stack
 have tk:∀ k,L2 (Lk M1.next.st M2.next.st R) (M1.next.top.stack.take (M1.next.top.stack.length - k)) (M2.next.top.stack.take (M2.next.top.stack.length - k)):=fun k=>by rw [len];exact stk.take _
 have p0:0≤(0:Int)∧(0:Int) < M1.next.top.stack.length:=by omega
 have l0:=hT.place p0
 have n0:=lk_nd hl.iso l0
 rw [ren_ins' ρ (by omega)]
 have k:∀ (M:Mc),M.exec x=M.setTop ((M.top.pop (x.a+1)).push (M.top.place 0)):=fun M=>exec5 e
 rw [k,k]
 exact ⟨R,hT.stack ((tk _).app (L2.one l0))⟩
theorem lx6 (h:MLink ρ E R M1 M2) (hρ:∀ g,0≤g→0≤ρ g) {x:Ins} (h1:AtIns n1 M1 x) (h2:AtIns n2 M2 (renIns ρ x)) (r1:0 < cellsOf x→(M1.st.ns.length:Int)+cellsOf x≤M1.st.size) (r2:0 < cellsOf x→(M2.st.ns.length:Int)+cellsOf x≤M2.st.size) (e:x.op=6) :
   ∃ R',MLink ρ E R' (M1.next.exec x) (M2.next.exec (renIns ρ x)):=by
 have hl:=next_link h h1.pos
 have t1:=next_top h1.pos
 have t2:=next_top h2.pos
 have hT:Two ρ E R n1 n2 M1.next M2.next:=⟨hl,h1.ok.mg.next h1.pos,h2.ok.mg.next h2.pos,by rw [show M1.next.frames.length=M1.frames.length from (setTop_top h1.pos _).2];exact h1.pos,hρ⟩
 have sl:M1.next.top.stack.length=M1.top.stack.length:=by rw [t1]
 obtain ⟨s1,s2,s3⟩:=h1.st
 have hn:=h1.io.nums
 have len:=hT.len
 have stk:=hT.top.stack
 have tk:∀ k,L2 (Lk M1.next.st M2.next.st R) (M1.next.top.stack.take (M1.next.top.stack.length - k)) (M2.next.top.stack.take (M2.next.top.stack.length - k)):=fun k=>by rw [len];exact stk.take _
 have p0:0≤(0:Int)∧(0:Int) < M1.next.top.stack.length:=by omega
 have l0:=hT.place p0
 have n0:=lk_nd hl.iso l0
 rw [ren_ins' ρ (by omega)]
 simp [stackedS,e] at s1
 have k:∀ (M:Mc),M.exec x=M.put ⟨3,0,[M.top.place 0,M.top.place 1]⟩ 2:=fun M=>exec6 e
 rw [k,k]
 have p1:0≤(1:Int)∧(1:Int) < M1.next.top.stack.length:=by omega
 refine hT.put rfl rfl (by decide) (by decide) (fun a ha=>?_) (fun a ha=>?_) (L2.cons l0 (L2.one (hT.place p1))) 2
 · simp only [List.mem_cons,List.not_mem_nil,or_false] at ha
   rcases ha with rfl | rfl
   · exact hT.in1 p0
   · exact hT.in1 p1
 · simp only [List.mem_cons,List.not_mem_nil,or_false] at ha
   rcases ha with rfl | rfl
   · exact hT.in2 p0
   · exact hT.in2 p1
theorem lx7 (h:MLink ρ E R M1 M2) (hρ:∀ g,0≤g→0≤ρ g) {x:Ins} (h1:AtIns n1 M1 x) (h2:AtIns n2 M2 (renIns ρ x)) (r1:0 < cellsOf x→(M1.st.ns.length:Int)+cellsOf x≤M1.st.size) (r2:0 < cellsOf x→(M2.st.ns.length:Int)+cellsOf x≤M2.st.size) (e:x.op=7) :
   ∃ R',MLink ρ E R' (M1.next.exec x) (M2.next.exec (renIns ρ x)):=by
 have hl:=next_link h h1.pos
 have t1:=next_top h1.pos
 have t2:=next_top h2.pos
 have hT:Two ρ E R n1 n2 M1.next M2.next:=⟨hl,h1.ok.mg.next h1.pos,h2.ok.mg.next h2.pos,by rw [show M1.next.frames.length=M1.frames.length from (setTop_top h1.pos _).2];exact h1.pos,hρ⟩
 have sl:M1.next.top.stack.length=M1.top.stack.length:=by rw [t1]
 obtain ⟨s1,s2,s3⟩:=h1.st
 have hn:=h1.io.nums
 have len:=hT.len
 have stk:=hT.top.stack
 have tk:∀ k,L2 (Lk M1.next.st M2.next.st R) (M1.next.top.stack.take (M1.next.top.stack.length - k)) (M2.next.top.stack.take (M2.next.top.stack.length - k)):=fun k=>by rw [len];exact stk.take _
 have p0:0≤(0:Int)∧(0:Int) < M1.next.top.stack.length:=by omega
 have l0:=hT.place p0
 have n0:=lk_nd hl.iso l0
 rw [ren_ins' ρ (by omega)]
 simp [stackedS,e] at s1
 have ha:=hn.c7 e
 have k:∀ (M:Mc),M.exec x = { M.setTop (M.top.pop 1) with st:=M.st.set (M.st.ov (M.top.place x.a)) ⟨5,0,[(M.st.ov (M.top.place 0):Int)]⟩}:=fun M=>exec7 e
 rw [k,k]
 have pa:0≤x.a∧x.a < M1.next.top.stack.length:=by omega
 obtain ⟨R',a1,a2,a3⟩:=link_upd hρ hl.iso hT.g1.g hT.g2.g (hT.place pa) l0
 have kk:=hl.store hT.g1 hT.g2 a1 a2 a3
 refine ⟨R',?_⟩
 have ht:=hT.top.move a2 (hT.g1.top hT.pos) (hT.g2.top hT.pos2)
 refine MLink.setTop (M1:={ M1.next with st:=M1.next.st.set (M1.next.st.ov (M1.next.top.place x.a)) ⟨5,0,[(M1.next.st.ov (M1.next.top.place 0):Int)]⟩}) (M2:={ M2.next with st:=M2.next.st.set (M2.next.st.ov (M2.next.top.place x.a)) ⟨5,0,[(M2.next.st.ov (M2.next.top.place 0):Int)]⟩}) kk ⟨ht.runs,ht.glob,ht.at',?_,ht.spine,ht.stands⟩
 show L2 _ (M1.next.top.stack.take _) (M2.next.top.stack.take _)
 rw [len]
 exact ht.stack.take _
theorem lx8 (h:MLink ρ E R M1 M2) (hρ:∀ g,0≤g→0≤ρ g) {x:Ins} (h1:AtIns n1 M1 x) (h2:AtIns n2 M2 (renIns ρ x)) (r1:0 < cellsOf x→(M1.st.ns.length:Int)+cellsOf x≤M1.st.size) (r2:0 < cellsOf x→(M2.st.ns.length:Int)+cellsOf x≤M2.st.size) (e:x.op=8) :
   ∃ R',MLink ρ E R' (M1.next.exec x) (M2.next.exec (renIns ρ x)):=by
 have hl:=next_link h h1.pos
 have t1:=next_top h1.pos
 have t2:=next_top h2.pos
 have hT:Two ρ E R n1 n2 M1.next M2.next:=⟨hl,h1.ok.mg.next h1.pos,h2.ok.mg.next h2.pos,by rw [show M1.next.frames.length=M1.frames.length from (setTop_top h1.pos _).2];exact h1.pos,hρ⟩
 have sl:M1.next.top.stack.length=M1.top.stack.length:=by rw [t1]
 obtain ⟨s1,s2,s3⟩:=h1.st
 have hn:=h1.io.nums
 have len:=hT.len
 have stk:=hT.top.stack
 have tk:∀ k,L2 (Lk M1.next.st M2.next.st R) (M1.next.top.stack.take (M1.next.top.stack.length - k)) (M2.next.top.stack.take (M2.next.top.stack.length - k)):=fun k=>by rw [len];exact stk.take _
 have p0:0≤(0:Int)∧(0:Int) < M1.next.top.stack.length:=by omega
 have l0:=hT.place p0
 have n0:=lk_nd hl.iso l0
 rw [ren_ins' ρ (by omega)]
 have k:∀ (M:Mc),M.exec x=M.alloc x.a.toNat:=fun M=>exec8 e
 rw [k,k]
 have hc:cellsOf x=x.a:=by simp [cellsOf,e]
 have ha:=hn.c1 (.inr (.inr (.inr e)))
 have fit:∀ (M:Mc) (n:Int),MG n M→(0 < cellsOf x→(M.st.ns.length:Int)+cellsOf x≤M.st.size)→(M.st.ns.length:Int)+x.a.toNat≤M.st.size:=by
   intro M n hg hr
   by_cases h0:x.a=0
   · have:=hg.g.st.len;rw [h0];simpa using this
   · have:=hr (by omega);omega
 obtain ⟨R',l,_⟩:=hT.alloc x.a.toNat (fit _ _ hT.g1 r1) (fit _ _ hT.g2 r2)
 exact ⟨R',l⟩
theorem lx9 (h:MLink ρ E R M1 M2) (hρ:∀ g,0≤g→0≤ρ g) {x:Ins} (h1:AtIns n1 M1 x) (h2:AtIns n2 M2 (renIns ρ x)) (r1:0 < cellsOf x→(M1.st.ns.length:Int)+cellsOf x≤M1.st.size) (r2:0 < cellsOf x→(M2.st.ns.length:Int)+cellsOf x≤M2.st.size) (e:x.op=9) :
   ∃ R',MLink ρ E R' (M1.next.exec x) (M2.next.exec (renIns ρ x)):=by
 have hl:=next_link h h1.pos
 have t1:=next_top h1.pos
 have t2:=next_top h2.pos
 have hT:Two ρ E R n1 n2 M1.next M2.next:=⟨hl,h1.ok.mg.next h1.pos,h2.ok.mg.next h2.pos,by rw [show M1.next.frames.length=M1.frames.length from (setTop_top h1.pos _).2];exact h1.pos,hρ⟩
 have sl:M1.next.top.stack.length=M1.top.stack.length:=by rw [t1]
 obtain ⟨s1,s2,s3⟩:=h1.st
 have hn:=h1.io.nums
 have len:=hT.len
 have stk:=hT.top.stack
 have tk:∀ k,L2 (Lk M1.next.st M2.next.st R) (M1.next.top.stack.take (M1.next.top.stack.length - k)) (M2.next.top.stack.take (M2.next.top.stack.length - k)):=fun k=>by rw [len];exact stk.take _
 have p0:0≤(0:Int)∧(0:Int) < M1.next.top.stack.length:=by omega
 have l0:=hT.place p0
 have n0:=lk_nd hl.iso l0
 rw [ren_ins' ρ (by omega)]
 have ha:=hn.c9 (.inl e)
 have hsh:=sh_le h1.ok.tab ha
 obtain ⟨j,hj⟩:∃ k:Nat,(M1.tab.sh x.a).fields=k:=⟨(M1.tab.sh x.a).fields.toNat,by omega⟩
 simp [stackedS,e,hj] at s1
 have k:∀ (M:Mc),M.exec x=M.put ⟨2,x.a,(List.range (M.tab.sh x.a).fields.toNat).map fun i:Nat=>M.top.place (i:Int)⟩ (M.tab.sh x.a).fields:=fun M=>exec9 e
 rw [k,k,show M2.next.tab.sh x.a=M1.next.tab.sh x.a from sh_eq h x.a,show (M1.next.tab.sh x.a).fields=(j:Int) from hj,Int.toNat_natCast]
 have may:∀ l:List Int,l.length=j→(⟨2,x.a,l⟩:Nd).may=true:=fun l hl=>by simp [Nd.may,mayB,hl];omega
 refine hT.put (may _ (by simp)) (may _ (by simp)) (by decide) (by decide) (fun a hm=>(hT.g1.top hT.pos).sk a (fields_mem (by omega) a hm)) (fun a hm=>(hT.g2.top hT.pos2).sk a (fields_mem (by omega) a hm)) ?_ j
 refine ⟨by simp,fun i a b h3 h4=>?_⟩
 rw [List.getElem?_map] at h3 h4
 obtain ⟨y,hy,rfl⟩:=Option.map_eq_some_iff.1 h3
 obtain ⟨z,hz,rfl⟩:=Option.map_eq_some_iff.1 h4
 have hyz:y=z:=by rw [hy] at hz;exact Option.some.inj hz
 subst hyz
 have:=List.mem_range.1 (List.mem_of_getElem? hy)
 exact hT.place ⟨by omega,by omega⟩
theorem lx10 (h:MLink ρ E R M1 M2) (hρ:∀ g,0≤g→0≤ρ g) {x:Ins} (h1:AtIns n1 M1 x) (h2:AtIns n2 M2 (renIns ρ x)) (r1:0 < cellsOf x→(M1.st.ns.length:Int)+cellsOf x≤M1.st.size) (r2:0 < cellsOf x→(M2.st.ns.length:Int)+cellsOf x≤M2.st.size) (e:x.op=10) :
   ∃ R',MLink ρ E R' (M1.next.exec x) (M2.next.exec (renIns ρ x)):=by
 have hl:=next_link h h1.pos
 have t1:=next_top h1.pos
 have t2:=next_top h2.pos
 have hT:Two ρ E R n1 n2 M1.next M2.next:=⟨hl,h1.ok.mg.next h1.pos,h2.ok.mg.next h2.pos,by rw [show M1.next.frames.length=M1.frames.length from (setTop_top h1.pos _).2];exact h1.pos,hρ⟩
 have sl:M1.next.top.stack.length=M1.top.stack.length:=by rw [t1]
 obtain ⟨s1,s2,s3⟩:=h1.st
 have hn:=h1.io.nums
 have len:=hT.len
 have stk:=hT.top.stack
 have tk:∀ k,L2 (Lk M1.next.st M2.next.st R) (M1.next.top.stack.take (M1.next.top.stack.length - k)) (M2.next.top.stack.take (M2.next.top.stack.length - k)):=fun k=>by rw [len];exact stk.take _
 have p0:0≤(0:Int)∧(0:Int) < M1.next.top.stack.length:=by omega
 have l0:=hT.place p0
 have n0:=lk_nd hl.iso l0
 rw [ren_ins' ρ (by omega)]
 have k:∀ (M:Mc),M.exec x=if (M.st.nd (M.top.place 0)).kind≠2∨(M.st.nd (M.top.place 0)).num≠x.a∨((M.st.nd (M.top.place 0)).args.length:Int)≠(M.tab.sh x.a).fields then M.fail 5
     else M.setTop { M.top.pop 1 with stack:=(M.top.pop 1).stack++(M.st.nd (M.top.place 0)).args.reverse}:=fun M=>exec10 e
 rw [k,k,show M2.next.tab.sh x.a=M1.next.tab.sh x.a from sh_eq h x.a,n0.1,n0.2.2]
 by_cases h2':(M1.next.st.nd (M1.next.top.place 0)).kind=2
 · rw [lk_num hl.iso l0 (by rw [h2'];decide)]
   split
   · exact ⟨R,hl.fail 5⟩
   · exact ⟨R,hT.stack ((tk 1).app (lk_args hl.iso l0 (by rw [h2'];decide)).rev)⟩
 · rw [if_pos (.inl h2'),if_pos (.inl h2')]
   exact ⟨R,hl.fail 5⟩
theorem lx11 (h:MLink ρ E R M1 M2) (hρ:∀ g,0≤g→0≤ρ g) {x:Ins} (h1:AtIns n1 M1 x) (h2:AtIns n2 M2 (renIns ρ x)) (r1:0 < cellsOf x→(M1.st.ns.length:Int)+cellsOf x≤M1.st.size) (r2:0 < cellsOf x→(M2.st.ns.length:Int)+cellsOf x≤M2.st.size) (e:x.op=11) :
   ∃ R',MLink ρ E R' (M1.next.exec x) (M2.next.exec (renIns ρ x)):=by
 have hl:=next_link h h1.pos
 have t1:=next_top h1.pos
 have t2:=next_top h2.pos
 have hT:Two ρ E R n1 n2 M1.next M2.next:=⟨hl,h1.ok.mg.next h1.pos,h2.ok.mg.next h2.pos,by rw [show M1.next.frames.length=M1.frames.length from (setTop_top h1.pos _).2];exact h1.pos,hρ⟩
 have sl:M1.next.top.stack.length=M1.top.stack.length:=by rw [t1]
 obtain ⟨s1,s2,s3⟩:=h1.st
 have hn:=h1.io.nums
 have len:=hT.len
 have stk:=hT.top.stack
 have tk:∀ k,L2 (Lk M1.next.st M2.next.st R) (M1.next.top.stack.take (M1.next.top.stack.length - k)) (M2.next.top.stack.take (M2.next.top.stack.length - k)):=fun k=>by rw [len];exact stk.take _
 have p0:0≤(0:Int)∧(0:Int) < M1.next.top.stack.length:=by omega
 have l0:=hT.place p0
 have n0:=lk_nd hl.iso l0
 rw [ren_ins' ρ (by omega)]
 have k:∀ (M:Mc),M.exec x=if (M.st.nd (M.top.place 0)).kind≠1∧(M.st.nd (M.top.place 0)).kind≠2 then M.enter (M.nv (M.top.place 0)) else M:=fun M=>exec11 e
 rw [k,k,n0.1]
 split
 · exact ⟨R,hl.enter (lk_nv hT.g1 hT.g2 (hT.in1 p0) (hT.in2 p0) l0)⟩
 · exact ⟨R,hl⟩
theorem lx12 (h:MLink ρ E R M1 M2) (hρ:∀ g,0≤g→0≤ρ g) {x:Ins} (h1:AtIns n1 M1 x) (h2:AtIns n2 M2 (renIns ρ x)) (r1:0 < cellsOf x→(M1.st.ns.length:Int)+cellsOf x≤M1.st.size) (r2:0 < cellsOf x→(M2.st.ns.length:Int)+cellsOf x≤M2.st.size) (e:x.op=12) :
   ∃ R',MLink ρ E R' (M1.next.exec x) (M2.next.exec (renIns ρ x)):=by
 have hl:=next_link h h1.pos
 have t1:=next_top h1.pos
 have t2:=next_top h2.pos
 have hT:Two ρ E R n1 n2 M1.next M2.next:=⟨hl,h1.ok.mg.next h1.pos,h2.ok.mg.next h2.pos,by rw [show M1.next.frames.length=M1.frames.length from (setTop_top h1.pos _).2];exact h1.pos,hρ⟩
 have sl:M1.next.top.stack.length=M1.top.stack.length:=by rw [t1]
 obtain ⟨s1,s2,s3⟩:=h1.st
 have hn:=h1.io.nums
 have len:=hT.len
 have stk:=hT.top.stack
 have tk:∀ k,L2 (Lk M1.next.st M2.next.st R) (M1.next.top.stack.take (M1.next.top.stack.length - k)) (M2.next.top.stack.take (M2.next.top.stack.length - k)):=fun k=>by rw [len];exact stk.take _
 have p0:0≤(0:Int)∧(0:Int) < M1.next.top.stack.length:=by omega
 have l0:=hT.place p0
 have n0:=lk_nd hl.iso l0
 rw [ren_ins' ρ (by omega)]
 simp [stackedS,e] at s1
 have p1:0≤(1:Int)∧(1:Int) < M1.next.top.stack.length:=by omega
 have l1:=hT.place p1
 have m1:=lk_nd hl.iso l1
 have k:∀ (M:Mc),M.exec x=if (M.st.nd (M.top.place 0)).kind≠1∨(M.st.nd (M.top.place 1)).kind≠1 then M.fail 5
     else if (x.a=4∨x.a=5)∧(M.st.nd (M.top.place 1)).num=0 then M.fail 3
     else M.put (arithNd x.a (M.st.nd (M.top.place 0)).num (M.st.nd (M.top.place 1)).num) 2:=fun M=>exec12 e
 rw [k,k,n0.1,m1.1]
 by_cases hk:(M1.next.st.nd (M1.next.top.place 0)).kind≠1∨(M1.next.st.nd (M1.next.top.place 1)).kind≠1
 · rw [if_pos hk,if_pos hk];exact ⟨R,hl.fail 5⟩
 · rw [if_neg hk,if_neg hk]
   have hk:(M1.next.st.nd (M1.next.top.place 0)).kind=1∧(M1.next.st.nd (M1.next.top.place 1)).kind=1:=by omega
   rw [lk_num hl.iso l0 (by omega),lk_num hl.iso l1 (by omega)]
   split
   · exact ⟨R,hl.fail 3⟩
   · obtain ⟨a1,a2,a3,a4,a5⟩:=arith_may x.a (M1.next.st.nd (M1.next.top.place 0)).num (M1.next.st.nd (M1.next.top.place 1)).num
     generalize arithNd x.a (M1.next.st.nd (M1.next.top.place 0)).num (M1.next.st.nd (M1.next.top.place 1)).num=nd at *
     obtain ⟨kd,nu,ar⟩:=nd
     simp only at a2 a3 a5
     subst a3
     exact hT.put a1 a1 a2 a5 (fun a ha=>by cases ha) (fun a ha=>by cases ha) L2.nil 2
theorem lx13 (h:MLink ρ E R M1 M2) (hρ:∀ g,0≤g→0≤ρ g) {x:Ins} (h1:AtIns n1 M1 x) (h2:AtIns n2 M2 (renIns ρ x)) (r1:0 < cellsOf x→(M1.st.ns.length:Int)+cellsOf x≤M1.st.size) (r2:0 < cellsOf x→(M2.st.ns.length:Int)+cellsOf x≤M2.st.size) (e:x.op=13) :
   ∃ R',MLink ρ E R' (M1.next.exec x) (M2.next.exec (renIns ρ x)):=by
 have hl:=next_link h h1.pos
 have t1:=next_top h1.pos
 have t2:=next_top h2.pos
 have hT:Two ρ E R n1 n2 M1.next M2.next:=⟨hl,h1.ok.mg.next h1.pos,h2.ok.mg.next h2.pos,by rw [show M1.next.frames.length=M1.frames.length from (setTop_top h1.pos _).2];exact h1.pos,hρ⟩
 have sl:M1.next.top.stack.length=M1.top.stack.length:=by rw [t1]
 obtain ⟨s1,s2,s3⟩:=h1.st
 have hn:=h1.io.nums
 have len:=hT.len
 have stk:=hT.top.stack
 have tk:∀ k,L2 (Lk M1.next.st M2.next.st R) (M1.next.top.stack.take (M1.next.top.stack.length - k)) (M2.next.top.stack.take (M2.next.top.stack.length - k)):=fun k=>by rw [len];exact stk.take _
 have p0:0≤(0:Int)∧(0:Int) < M1.next.top.stack.length:=by omega
 have l0:=hT.place p0
 have n0:=lk_nd hl.iso l0
 rw [ren_ins' ρ (by omega)]
 have k:∀ (M:Mc),M.exec x=M.setTop { M.top with at':=x.a}:=fun M=>exec13 e
 rw [k,k]
 exact ⟨R,hl.setTop ⟨hT.top.runs,hT.top.glob,rfl,stk,hT.top.spine,hT.top.stands⟩⟩
theorem lx14 (h:MLink ρ E R M1 M2) (hρ:∀ g,0≤g→0≤ρ g) {x:Ins} (h1:AtIns n1 M1 x) (h2:AtIns n2 M2 (renIns ρ x)) (r1:0 < cellsOf x→(M1.st.ns.length:Int)+cellsOf x≤M1.st.size) (r2:0 < cellsOf x→(M2.st.ns.length:Int)+cellsOf x≤M2.st.size) (e:x.op=14) :
   ∃ R',MLink ρ E R' (M1.next.exec x) (M2.next.exec (renIns ρ x)):=by
 have hl:=next_link h h1.pos
 have t1:=next_top h1.pos
 have t2:=next_top h2.pos
 have hT:Two ρ E R n1 n2 M1.next M2.next:=⟨hl,h1.ok.mg.next h1.pos,h2.ok.mg.next h2.pos,by rw [show M1.next.frames.length=M1.frames.length from (setTop_top h1.pos _).2];exact h1.pos,hρ⟩
 have sl:M1.next.top.stack.length=M1.top.stack.length:=by rw [t1]
 obtain ⟨s1,s2,s3⟩:=h1.st
 have hn:=h1.io.nums
 have len:=hT.len
 have stk:=hT.top.stack
 have tk:∀ k,L2 (Lk M1.next.st M2.next.st R) (M1.next.top.stack.take (M1.next.top.stack.length - k)) (M2.next.top.stack.take (M2.next.top.stack.length - k)):=fun k=>by rw [len];exact stk.take _
 have p0:0≤(0:Int)∧(0:Int) < M1.next.top.stack.length:=by omega
 have l0:=hT.place p0
 have n0:=lk_nd hl.iso l0
 rw [ren_ins' ρ (by omega)]
 have k:∀ (M:Mc),M.exec x=if (M.st.nd (M.top.place 0)).kind≠2 then M.fail 5 else if (M.st.nd (M.top.place 0)).num≠x.a then M.setTop { M.top with at':=x.b} else M:=fun M=>(exec14 e).trans (jumpIf_eq _ _ _ _)
 rw [k,k,n0.1]
 by_cases h2':(M1.next.st.nd (M1.next.top.place 0)).kind=2
 · have c:¬ ((M1.next.st.nd (M1.next.top.place 0)).kind≠2):=fun hh=>hh h2'
   simp only [if_neg c]
   rw [lk_num hl.iso l0 (by omega)]
   split
   · exact ⟨R,hl.setTop ⟨hT.top.runs,hT.top.glob,rfl,stk,hT.top.spine,hT.top.stands⟩⟩
   · exact ⟨R,hl⟩
 · rw [if_pos h2',if_pos h2']
   exact ⟨R,hl.fail 5⟩
theorem lx15 (h:MLink ρ E R M1 M2) (hρ:∀ g,0≤g→0≤ρ g) {x:Ins} (h1:AtIns n1 M1 x) (h2:AtIns n2 M2 (renIns ρ x)) (r1:0 < cellsOf x→(M1.st.ns.length:Int)+cellsOf x≤M1.st.size) (r2:0 < cellsOf x→(M2.st.ns.length:Int)+cellsOf x≤M2.st.size) (e:x.op=15) :
   ∃ R',MLink ρ E R' (M1.next.exec x) (M2.next.exec (renIns ρ x)):=by
 have hl:=next_link h h1.pos
 have t1:=next_top h1.pos
 have t2:=next_top h2.pos
 have hT:Two ρ E R n1 n2 M1.next M2.next:=⟨hl,h1.ok.mg.next h1.pos,h2.ok.mg.next h2.pos,by rw [show M1.next.frames.length=M1.frames.length from (setTop_top h1.pos _).2];exact h1.pos,hρ⟩
 have sl:M1.next.top.stack.length=M1.top.stack.length:=by rw [t1]
 obtain ⟨s1,s2,s3⟩:=h1.st
 have hn:=h1.io.nums
 have len:=hT.len
 have stk:=hT.top.stack
 have tk:∀ k,L2 (Lk M1.next.st M2.next.st R) (M1.next.top.stack.take (M1.next.top.stack.length - k)) (M2.next.top.stack.take (M2.next.top.stack.length - k)):=fun k=>by rw [len];exact stk.take _
 have p0:0≤(0:Int)∧(0:Int) < M1.next.top.stack.length:=by omega
 have l0:=hT.place p0
 have n0:=lk_nd hl.iso l0
 rw [ren_ins' ρ (by omega)]
 have k:∀ (M:Mc),M.exec x=if (M.st.nd (M.top.place 0)).kind≠1 then M.fail 5 else if (M.st.nd (M.top.place 0)).num≠x.a then M.setTop { M.top with at':=x.b} else M:=fun M=>(exec15 e).trans (jumpIf_eq _ _ _ _)
 rw [k,k,n0.1]
 by_cases h2':(M1.next.st.nd (M1.next.top.place 0)).kind=1
 · have c:¬ ((M1.next.st.nd (M1.next.top.place 0)).kind≠1):=fun hh=>hh h2'
   simp only [if_neg c]
   rw [lk_num hl.iso l0 (by omega)]
   split
   · exact ⟨R,hl.setTop ⟨hT.top.runs,hT.top.glob,rfl,stk,hT.top.spine,hT.top.stands⟩⟩
   · exact ⟨R,hl⟩
 · rw [if_pos h2',if_pos h2']
   exact ⟨R,hl.fail 5⟩
theorem lx16 (h:MLink ρ E R M1 M2) (hρ:∀ g,0≤g→0≤ρ g) {x:Ins} (h1:AtIns n1 M1 x) (h2:AtIns n2 M2 (renIns ρ x)) (r1:0 < cellsOf x→(M1.st.ns.length:Int)+cellsOf x≤M1.st.size) (r2:0 < cellsOf x→(M2.st.ns.length:Int)+cellsOf x≤M2.st.size) (e:x.op=16) :
   ∃ R',MLink ρ E R' (M1.next.exec x) (M2.next.exec (renIns ρ x)):=by
 have hl:=next_link h h1.pos
 have t1:=next_top h1.pos
 have t2:=next_top h2.pos
 have hT:Two ρ E R n1 n2 M1.next M2.next:=⟨hl,h1.ok.mg.next h1.pos,h2.ok.mg.next h2.pos,by rw [show M1.next.frames.length=M1.frames.length from (setTop_top h1.pos _).2];exact h1.pos,hρ⟩
 have sl:M1.next.top.stack.length=M1.top.stack.length:=by rw [t1]
 obtain ⟨s1,s2,s3⟩:=h1.st
 have hn:=h1.io.nums
 have len:=hT.len
 have stk:=hT.top.stack
 have tk:∀ k,L2 (Lk M1.next.st M2.next.st R) (M1.next.top.stack.take (M1.next.top.stack.length - k)) (M2.next.top.stack.take (M2.next.top.stack.length - k)):=fun k=>by rw [len];exact stk.take _
 have p0:0≤(0:Int)∧(0:Int) < M1.next.top.stack.length:=by omega
 have l0:=hT.place p0
 have n0:=lk_nd hl.iso l0
 rw [ren_ins' ρ (by omega)]
 have k:∀ (M:Mc),M.exec x=M.fail x.a:=fun M=>exec16 e
 rw [k,k]
 exact ⟨R,hl.fail _⟩
theorem lx17 (h:MLink ρ E R M1 M2) (hρ:∀ g,0≤g→0≤ρ g) {x:Ins} (h1:AtIns n1 M1 x) (h2:AtIns n2 M2 (renIns ρ x)) (r1:0 < cellsOf x→(M1.st.ns.length:Int)+cellsOf x≤M1.st.size) (r2:0 < cellsOf x→(M2.st.ns.length:Int)+cellsOf x≤M2.st.size) (e:x.op=17) :
   ∃ R',MLink ρ E R' (M1.next.exec x) (M2.next.exec (renIns ρ x)):=by
 have hl:=next_link h h1.pos
 have t1:=next_top h1.pos
 have t2:=next_top h2.pos
 have hT:Two ρ E R n1 n2 M1.next M2.next:=⟨hl,h1.ok.mg.next h1.pos,h2.ok.mg.next h2.pos,by rw [show M1.next.frames.length=M1.frames.length from (setTop_top h1.pos _).2];exact h1.pos,hρ⟩
 have sl:M1.next.top.stack.length=M1.top.stack.length:=by rw [t1]
 obtain ⟨s1,s2,s3⟩:=h1.st
 have hn:=h1.io.nums
 have len:=hT.len
 have stk:=hT.top.stack
 have tk:∀ k,L2 (Lk M1.next.st M2.next.st R) (M1.next.top.stack.take (M1.next.top.stack.length - k)) (M2.next.top.stack.take (M2.next.top.stack.length - k)):=fun k=>by rw [len];exact stk.take _
 have p0:0≤(0:Int)∧(0:Int) < M1.next.top.stack.length:=by omega
 have l0:=hT.place p0
 have n0:=lk_nd hl.iso l0
 rw [ren_ins' ρ (by omega)]
 have k:∀ (M:Mc),M.exec x=M.setTop { M.top with runs:=false,stands:=M.top.stack.getD 0 0,stack:=[]}:=fun M=>exec17 e
 rw [k,k]
 exact ⟨R,hl.setTop ⟨rfl,(fun e=>by cases e),hT.top.at',L2.nil,hT.top.spine,stk.getD (by omega) _ _⟩⟩
theorem link_exec (h:MLink ρ E R M1 M2) (hρ:∀ g,0≤g→0≤ρ g) {x:Ins} (h1:AtIns n1 M1 x) (h2:AtIns n2 M2 (renIns ρ x)) (r1:0 < cellsOf x→(M1.st.ns.length:Int)+cellsOf x≤M1.st.size) (r2:0 < cellsOf x→(M2.st.ns.length:Int)+cellsOf x≤M2.st.size) :
   ∃ R',MLink ρ E R' (M1.next.exec x) (M2.next.exec (renIns ρ x)):=by
 have o1:=h1.io.nums.o1
 have o2:=h1.io.nums.o2
 have hop:x.op=1∨x.op=2∨x.op=3∨x.op=4∨x.op=5∨x.op=6∨x.op=7∨x.op=8∨x.op=9∨x.op=10∨x.op=11∨x.op=12∨x.op=13∨x.op=14∨x.op=15∨x.op=16∨x.op=17:=by omega
 rcases hop with e | e | e | e | e | e | e | e | e | e | e | e | e | e | e | e | e
 · exact lx1 h hρ h1 h2 r1 r2 e
 · exact lx2 h hρ h1 h2 r1 r2 e
 · exact lx3 h hρ h1 h2 r1 r2 e
 · exact lx4 h hρ h1 h2 r1 r2 e
 · exact lx5 h hρ h1 h2 r1 r2 e
 · exact lx6 h hρ h1 h2 r1 r2 e
 · exact lx7 h hρ h1 h2 r1 r2 e
 · exact lx8 h hρ h1 h2 r1 r2 e
 · exact lx9 h hρ h1 h2 r1 r2 e
 · exact lx10 h hρ h1 h2 r1 r2 e
 · exact lx11 h hρ h1 h2 r1 r2 e
 · exact lx12 h hρ h1 h2 r1 r2 e
 · exact lx13 h hρ h1 h2 r1 r2 e
 · exact lx14 h hρ h1 h2 r1 r2 e
 · exact lx15 h hρ h1 h2 r1 r2 e
 · exact lx16 h hρ h1 h2 r1 r2 e
 · exact lx17 h hρ h1 h2 r1 r2 e
end
end
section
open Go Go.W
def doF (o:Nat):Nat:=[0,66,69,71,73,75,76,77,79,80,81,82,83,84,85,86,87,89].getD o 0
def cellF (o:Nat):Nat:=if o=3∨o=6∨o=9∨o=12 then 70 else if o=8 then 78 else 65
theorem upto17 {o:Nat} (h:1≤o∧o≤17):o=1∨o=2∨o=3∨o=4∨o=5∨o=6∨o=7∨o=8∨o=9∨o=10∨o=11∨o=12∨o=13∨o=14∨o=15∨o=16∨o=17:=by omega
theorem rows_op {o:Nat} (h:1≤o∧o≤17):rowsV[o]? = some [fnv (cellF o),fnv (doF o)]:=by
 rcases upto17 h with rfl | rfl | rfl | rfl | rfl | rfl | rfl | rfl | rfl | rfl | rfl | rfl | rfl | rfl | rfl | rfl | rfl<;>rfl
section
variable {d:Option Nat} {ty:TypeId} {pos:String} {af:Array Edge} {ρ:Env} {w:World} {K:Value→World→Prop} {y:Operand} {args:Array Operand} {at':Array TypeId}
theorem call_do {o:Nat} (h:1≤o∧o≤17) {vs:List Value} (hx:(toO y).ev ρ=some (fnv (doF o))) (ha:evs ρ (args.toList.map toO)=some vs) (hk:CallsR Tryz.prog (doF o) vs w K) :
   E.wp Tryz.prog w ρ K (.raw ⟨d,.call { callee:=.value y,args:=args,argTypes:=at'},ty,pos,af,none⟩):=by
 rcases upto17 h with rfl | rfl | rfl | rfl | rfl | rfl | rfl | rfl | rfl | rfl | rfl | rfl | rfl | rfl | rfl | rfl | rfl <;>
   exact e_cv hx ha rfl rfl rfl (by simpa using hk)
theorem call_cell {o:Nat} (h:1≤o∧o≤17) {vs:List Value} (hx:(toO y).ev ρ=some (fnv (cellF o))) (ha:evs ρ (args.toList.map toO)=some vs) (hk:CallsR Tryz.prog (cellF o) vs w K) :
   E.wp Tryz.prog w ρ K (.raw ⟨d,.call { callee:=.value y,args:=args,argTypes:=at'},ty,pos,af,none⟩):=by
 rcases upto17 h with rfl | rfl | rfl | rfl | rfl | rfl | rfl | rfl | rfl | rfl | rfl | rfl | rfl | rfl | rfl | rfl | rfl <;>
   exact e_cv hx ha rfl rfl rfl (by simpa using hk)
end
theorem f_one (w:World) (v:Value):CallsR Tryz.prog 70 [v] w fun r w'=>r=I 1∧Mod (fun _=>False) w w':=by
 refine fit70.calls rfl ?_
 unfold ir70
 (try simp only [go_sem,simprocAttr])
 refine e_bx rfl ?_
 intro w1 hb1 hm1 _
 (try simp only [go_sem,simprocAttr])
 exact hm1
theorem f_none (w:World) (v:Value):CallsR Tryz.prog 65 [v] w fun r w'=>r=I 0∧Mod (fun _=>False) w w':=by
 refine fit65.calls rfl ?_
 unfold ir65
 (try simp only [go_sem,simprocAttr])
 refine e_bx rfl ?_
 intro w1 hb1 hm1 _
 (try simp only [go_sem,simprocAttr])
 exact hm1
theorem f_many (w:World) (x:Ins):CallsR Tryz.prog 78 [insV x] w fun r w'=>r=I x.a∧Mod (fun _=>False) w w':=by
 refine fit78.calls rfl ?_
 unfold ir78
 (try simp only [go_sem,simprocAttr])
 refine e_bx rfl ?_
 intro w1 hb1 hm1 _
 (try simp only [go_sem,simprocAttr,cell_of hb1,Value.cells])
 exact hm1
theorem f_cells (w:World) {x:Ins} {o:Nat} (ho:x.op=o) (h:1≤o∧o≤17):CallsR Tryz.prog (cellF o) [insV x] w fun r w'=>r=I (cellsOf x)∧Mod (fun _=>False) w w':=by
 unfold cellF cellsOf
 by_cases h1:o=3∨o=6∨o=9∨o=12
 · have h1':x.op=3∨x.op=6∨x.op=9∨x.op=12:=by omega
   simp only [if_pos h1,if_pos h1']
   exact f_one w _
 have h1':¬ (x.op=3∨x.op=6∨x.op=9∨x.op=12):=by omega
 simp only [if_neg h1,if_neg h1']
 by_cases h2:o=8
 · have h2':x.op=8:=by omega
   simp only [if_pos h2,if_pos h2']
   exact f_many w x
 · have h2':¬ x.op=8:=by omega
   simp only [if_neg h2,if_neg h2']
   exact f_none w _
section
variable {w:World} {τ:Tag} {m:Nat} {S:SV} {M:Mc} {ks:List Nat} {k:Nat} {x:Ins} {n:Int}
theorem x_exec (hT:TopAt w τ m S M.next ks k) (h:AtIns n M x) (href:M.st.kd≠.ref) (hroom:0 < cellsOf x→(M.st.ns.length:Int)+cellsOf x≤M.st.size) (hf:M.frames.length≤4294967295) {o:Nat} (ho:x.op=o) :
   CallsR Tryz.prog (doF o) [ptr m,ptr k,insV x] w fun _ w'=>∃ ks',MOp w τ m S (M.next.exec x) ks' w':=by
 have hG:=h.ok.topG h.pos
 have hn:=h.io.nums
 obtain ⟨s1,s2,s3⟩:=h.st
 have ht:=next_top h.pos
 have hst:M.next.st=M.st:=rfl
 have htab:M.next.tab=M.tab:=rfl
 have hgl:M.next.globals=M.globals:=rfl
 have hpl:∀ k,M.next.top.place k=M.top.place k:=fun k=>by rw [ht];rfl
 have sl:M.next.top.stack.length=M.top.stack.length:=by rw [ht]
 have p0:M.top.place 0∈M.top.stack:=place_mem ⟨by omega,by omega⟩
 have lsk:=hG.lsk
 have i0:=hG.sk _ p0
 have hok:=h.ok.g.st
 have hfn:M.next.frames.length=M.frames.length:=(setTop_top h.pos _).2
 have gln:=h.ok.gln
 have o1:=hn.o1
 have o2:=hn.o2
 have lift:∀ {M':Mc} {f:Nat} {vs:List Value},CallsR Tryz.prog f vs w (fun _ w'=>MOp w τ m S M' ks w')→CallsR Tryz.prog f vs w (fun _ w'=>∃ ks',MOp w τ m S M' ks' w'):=fun hh=>hh.mono (fun _ _ h=>⟨_,h⟩)
 have nr:M.next.ref=false:=by unfold Mc.ref;rw [hst];split<;>simp_all
 have mk0:=may_kind (h.ok.g.nd i0).1
 rcases upto17 (o:=o) (by omega) with rfl | rfl | rfl | rfl | rfl | rfl | rfl | rfl | rfl | rfl | rfl | rfl | rfl | rfl | rfl | rfl | rfl
 ·
   simp [stackedS,ho] at s1
   have ha:=hn.c1 (.inl ho)
   rw [exec1 ho]
   exact lift (x_push hT (by omega) ⟨ha,by omega⟩)
 · have ha:=hn.c2 ho
   rw [exec2 ho]
   exact lift (x_global hT (by omega) ⟨ha.1,by rw [hgl];omega⟩)
 · have ha:=hn.c3 ho
   have hc:cellsOf x=1:=by simp [cellsOf,ho]
   rw [exec3 ho]
   exact lift (x_int hT hok (by omega) (by have:=hroom (by omega);rw [hst];omega) (may_int ha))
 · simp [stackedS,ho] at s1
   have ha:=hn.c1 (.inr (.inl ho))
   rw [exec4 ho]
   exact lift (x_pop hT (by omega) ⟨ha,by omega⟩)
 · simp [stackedS,ho] at s1
   have ha:=hn.c1 (.inr (.inr (.inl ho)))
   rw [exec5 ho]
   exact lift (x_slide hT (by omega) ⟨ha,by omega⟩)
 · simp [stackedS,ho] at s1
   have hc:cellsOf x=1:=by simp [cellsOf,ho]
   have p1:M.top.place 1∈M.top.stack:=place_mem ⟨by omega,by omega⟩
   rw [exec6 ho]
   refine lift (x_apply hT hok (by omega) (by have:=hroom (by omega);rw [hst];omega) (by omega) (okPl_of (fun a ha=>?_)))
   rw [hpl,hpl] at ha
   simp only [List.mem_cons,List.not_mem_nil,or_false] at ha
   rcases ha with rfl | rfl
   · exact i0
   · exact hG.sk _ p1
 · simp [stackedS,ho] at s1
   have ha:=hn.c7 ho
   have pa:M.top.place x.a∈M.top.stack:=place_mem ⟨by omega,by omega⟩
   rw [exec7 ho]
   exact lift (x_update hT hok h.ok.g.ends (by omega) ⟨by omega,by omega⟩ (by rw [hpl];exact hG.sk _ pa) (by rw [hpl];exact i0))
 · simp [stackedS,ho] at s1
   have ha:=hn.c1 (.inr (.inr (.inr ho)))
   have hc:cellsOf x=x.a:=by simp [cellsOf,ho]
   have hr:(M.st.ns.length:Int)+x.a.toNat≤M.st.size:=by
     by_cases h0:x.a=0
     · have:=h.ok.g.st.len;rw [h0];simpa using this
     · have:=hroom (by omega);omega
   rw [exec8 ho]
   exact lift (x_alloc hT hok (n:=x.a.toNat) (by omega) (by omega) hr (fun i hi=>(h.ok.g.adds i (by omega)).st))
 · have hsh:=sh_le h.ok.tab (hn.c9 (.inl ho))
   obtain ⟨k',hk⟩:∃ k:Nat,(M.tab.sh x.a).fields=k:=⟨(M.tab.sh x.a).fields.toNat,by omega⟩
   have hc:cellsOf x=1:=by simp [cellsOf,ho]
   simp [stackedS,ho,hk] at s1
   have ha:=hn.c9 (.inl ho)
   rw [exec9 ho]
   have e1:(M.next.tab.sh x.a).fields=(k':Int):=hk
   rw [e1,Int.toNat_natCast]
   refine lift (x_pack hT hok (n:=k') ha e1 (by omega) (by omega) (by omega) (by have:=hroom (by omega);rw [hst];omega) (okPl_of (fun a ha=>?_)))
   unfold fieldsOf at ha
   exact hG.sk _ (by have:=fields_mem (f:=M.next.top) (k:=k') (by omega) a ha;rw [ht] at this;exact this)
 · simp [stackedS,ho] at s1
   rw [exec10 ho]
   have h8:(M.st.nd (M.top.place 0)).args.length≤8:=by
     have:=(h.ok.g.nd i0).1
     simp only [Nd.may,mayB,decide_eq_true_eq] at this
     omega
   exact lift (x_split hT hok h.ok.g.ends (by omega) (by omega) (by rw [hpl];exact i0) (hn.c9 (.inr (.inl ho))) (by rw [hpl];exact h8))
 · rw [exec11 ho]
   have e:M.next.nv (M.next.top.place 0)=M.next.top.place 0:=by unfold Mc.nv;rw [nr];rfl
   rw [e]
   exact x_eval hT hok h.ok.g.ends (by omega) (by omega) (by rw [hpl];exact i0) (by omega)
 · simp [stackedS,ho] at s1
   have hc:cellsOf x=1:=by simp [cellsOf,ho]
   have p1:M.top.place 1∈M.top.stack:=place_mem ⟨by omega,by omega⟩
   rw [exec12 ho]
   exact lift (x_arith hT hok h.ok.g.ends (by omega) (by omega) (by rw [hpl];exact i0) (by rw [hpl];exact hG.sk _ p1) (by have:=hroom (by omega);rw [hst];omega) h.going (hn.c12 ho))
 · rw [exec13 ho]
   exact lift (x_jump hT)
 · rw [exec14 ho]
   exact lift (x_testCon hT hok h.ok.g.ends (by omega) (by omega) (by rw [hpl];exact i0))
 · rw [exec15 ho]
   exact lift (x_testInt hT hok h.ok.g.ends (by omega) (by omega) (by rw [hpl];exact i0))
 · rw [exec16 ho]
   exact lift (x_fail hT)
 · rw [exec17 ho]
   exact lift (x_rewind hT (by omega))
end
end
section
open Go Go.W
section
variable {ρ:Int→Int} {E:List Nat} {R:Nat→Nat→Prop} {M1 M2:Mc} {n1 n2 n:Int} {M:Mc}
theorem root_gl {a:Int} (h:a∈M.globals):a∈M.roots:=by simp [Mc.roots,h]
theorem root_wt {a:Int} (h:a∈M.wait):a∈M.roots:=by simp [Mc.roots,h]
theorem root_fr {f:Fr} (hf:f∈M.frames) {a:Int} (ha:a∈f.roots):a∈M.roots:=by
 unfold Mc.roots
 exact List.mem_append_left _ (List.mem_append_right _ (List.mem_flatMap.2 ⟨f,hf,ha⟩))
theorem alike_R {ns ms:List Nd} {rs:List Int} {g:Int→Int} (h:Alike ns rs ms (rs.map g)):∃ S,IsoR ns ms S∧∀ a∈rs,S (over ns a.toNat) (over ms (g a).toNat):=by
 obtain ⟨S,h1,h2,h3⟩:=h
 refine ⟨S,h1,fun a ha=>?_⟩
 obtain ⟨i,hi,rfl⟩:=List.getElem_of_mem ha
 exact h3 i rs[i] (g rs[i]) (List.getElem?_eq_getElem hi) (by rw [List.getElem?_map,List.getElem?_eq_getElem hi];rfl)
theorem getD_map (l:List Int) (g:Int→Int) {i:Nat} (hi:i < l.length):(l.map g).getD i 0=g (l.getD i 0):=by
 rw [List.getD_eq_getElem?_getD,List.getD_eq_getElem?_getD,List.getElem?_map,List.getElem?_eq_getElem hi];rfl
theorem FrL.map2 {s1 s2 s1' s2':St} {R R':Nat→Nat→Prop} {f1 f2:Fr} {g1 g2:Int→Int} (h:FrL ρ s1 s2 R f1 f2) (hm:∀ a b,a∈f1.roots→b∈f2.roots→Lk s1 s2 R a b→Lk s1' s2' R' (g1 a) (g2 b)):FrL ρ s1' s2' R' (f1.mapP g1) (f2.mapP g2):=
 ⟨h.runs,h.glob,h.at',h.stack.map (fun a b ha hb=>hm a b (by simp [Fr.roots,ha]) (by simp [Fr.roots,hb])),h.spine.map (fun a b ha hb=>hm a b (by simp [Fr.roots,ha]) (by simp [Fr.roots,hb])),hm _ _ (by simp [Fr.roots]) (by simp [Fr.roots]) h.stands⟩
theorem MLink.mapped (h:MLink ρ E R M1 M2) (k1:MG n1 M1) (k2:MG n2 M2) {R':Nat→Nat→Prop} {s1 s2:St} {g1 g2:Int→Int} {b1 b2:Int} (hi:IsoR (renNs ρ s1.ns) s2.ns R') (hm:∀ a b,a∈M1.roots→b∈M2.roots→Lk M1.st M2.st R a b→Lk s1 s2 R' (g1 a) (g2 b))
   (ha:∀ a∈M2.globals,Alone M2.st R a→Alone s2 R' (g2 a)):MLink ρ E R' { M1.mapP g1 with st:=s1,base:=b1} { M2.mapP g2 with st:=s2,base:=b2}:=by
 refine ⟨hi,h.tab,h.inp,h.given,h.told,h.steps,h.ended,h.stuck,?_,?_,?_,?_⟩
 · intro g h0 hg
   obtain ⟨r0,r1⟩:=h.tab.nn g h0 hg
   have l1:g.toNat < M1.globals.length:=by rw [k1.gln];have:g < M1.tab.globals.length:=hg;omega
   have l2:(ρ g).toNat < M2.globals.length:=by rw [k2.gln];omega
   show Lk _ _ _ ((M1.globals.map g1).getD _ 0) ((M2.globals.map g2).getD _ 0)
   rw [getD_map _ _ l1,getD_map _ _ l2]
   exact hm _ _ (root_gl (getD_mem l1)) (root_gl (getD_mem l2)) (h.gl g h0 hg)
 · intro i hi
   obtain ⟨e1,e2⟩:=h.ex i hi
   refine ⟨by show i < (M2.globals.map g2).length;rw [List.length_map];exact e1,?_⟩
   show Alone _ _ ((M2.globals.map g2).getD i 0)
   rw [getD_map _ _ e1]
   exact ha _ (getD_mem e1) e2
 · exact h.fr.map (fun f1 f2 m1 m2 hf=>hf.map2 (fun a b x1 x2=>hm a b (root_fr m1 x1) (root_fr m2 x2)))
 · exact h.wt.map (fun a b x1 x2=>hm a b (root_wt x1) (root_wt x2))
theorem MLink.right (h:MLink ρ E R M1 M2) (k1:MG n1 M1) (k2:MG n2 M2) {s:St} {g:Int→Int} (b:Int) (ha:Alike M2.st.ns M2.roots s.ns (M2.roots.map g)) (hs:∀ a∈M2.roots,s.In (g a)):∃ R',MLink ρ E R' M1 { M2.mapP g with st:=s,base:=b}:=by
 obtain ⟨S,i1,i2⟩:=alike_R ha
 refine ⟨fun x z=>∃ y,R x y∧S y z,?_⟩
 have k:=h.mapped (s1:=M1.st) (s2:=s) (g1:=id) (g2:=g) (b1:=M1.base) (b2:=b) k1 k2 (isoR_trans h.iso i1) (fun a c ma mc hl=>⟨_,hl,i2 c mc⟩) ?_
 · rw [mapP_id] at k;exact k
 · rintro a hm ⟨a1,a2,a3⟩
   have hr:=i2 a (root_gl hm)
   refine ⟨hs a (root_gl hm),((i1.nd _ _ hr).1).symm.trans a2,?_⟩
   rintro x ⟨y,y1,y2⟩
   have:=i1.inj _ _ _ y2 hr
   subst this
   exact a3 x y1
theorem MLink.left (h:MLink ρ E R M1 M2) (k1:MG n1 M1) (k2:MG n2 M2) {s:St} {g:Int→Int} (b:Int) (ha:Alike M1.st.ns M1.roots s.ns (M1.roots.map g)):∃ R',MLink ρ E R' { M1.mapP g with st:=s,base:=b} M2:=by
 obtain ⟨S,i1,i2⟩:=alike_R ha
 refine ⟨fun x z=>∃ y,S y x∧R y z,?_⟩
 have k:=h.mapped (s1:=s) (s2:=M2.st) (g1:=g) (g2:=id) (b1:=b) (b2:=M2.base) k1 k2 (isoR_trans (isoR_symm (isoR_ren i1 ρ)) h.iso) (fun a c ma mc hl=>⟨_,i2 a ma,hl⟩) ?_
 · rw [mapP_id] at k;exact k
 · rintro a hm ⟨a1,a2,a3⟩
   exact ⟨a1,a2,fun x ⟨y,_,y2⟩=>a3 y y2⟩
theorem small_all {ns:List Nd} {rs:List Int} {P:Nat→Prop} (h0:∀ a∈rs,P (over ns a.toNat)) (h1:∀ x,P x→∀ a∈(ndAt ns x).args,P (over ns a.toNat)):∀ x∈smallO ns 0 rs,P x:=by
 have meets:∀ (l:List Int) (out:List Nat),(∀ x∈out,P x)→(∀ a∈l,P (over ns a.toNat))→∀ x∈meetsF ns 0 out l,P x:=by
   intro l
   induction l with
   | nil=>intro out ho _;exact ho
   | cons a l ih=>
     intro out ho hl
     rw [meetsF_cons]
     refine ih _ ?_ (fun b hb=>hl b (List.mem_cons_of_mem _ hb))
     intro x hx
     unfold meetF at hx
     split at hx
     · exact ho x hx
     · rcases List.mem_append.1 hx with hx | hx
       · exact ho x hx
       · obtain rfl:=List.mem_singleton.1 hx
         exact hl a List.mem_cons_self
 have reach:∀ (f i:Nat) (out:List Nat),(∀ x∈out,P x)→∀ x∈reachF ns 0 f i out,P x:=by
   intro f
   induction f with
   | zero=>intro i out ho;exact ho
   | succ f ih=>
     intro i out ho
     by_cases hi:i < out.length
     · rw [reachF_step _ _ _ _ _ hi]
       refine ih _ _ (meets _ _ ho ?_)
       exact h1 _ (ho _ (List.getElem_mem hi))
     · rw [reachF_end _ _ _ _ _ (by omega)];exact ho
 rw [smallO_zero]
 exact reach _ _ _ (meets _ _ (fun x hx=>by cases hx) h0)
def liveS (M:Mc):Nat:=(smallO M.st.ns 0 M.roots).length
theorem nodup_sub:∀ (l m:List Nat),l.Nodup→(∀ x∈l,x∈m)→l.length≤m.length:=by
 intro l
 induction l with
 | nil=>intro m _ _;simp
 | cons a l ih=>
   intro m hn hs
   have ha:=hs a List.mem_cons_self
   have h1:=ih (m.erase a) (List.nodup_cons.1 hn).2 (fun x hx=>by
     have hne:x≠a:=fun e=>(List.nodup_cons.1 hn).1 (e ▸ hx)
     exact (List.mem_erase_of_ne hne).2 (hs x (List.mem_cons_of_mem _ hx)))
   rw [List.length_erase_of_mem ha] at h1
   have:=List.length_pos_of_mem ha
   simp only [List.length_cons];omega
theorem reach_same {ns:List Nd} {rs qs:List Int} (hw:WF ns) (ho:okPl ns.length rs=true) (ho':okPl ns.length qs=true) (h:∀ a∈rs,over ns a.toNat∈smallO ns 0 qs):∀ x∈smallO ns 0 rs,x∈smallO ns 0 qs:=by
 have hm:=small_met hw (Nat.zero_le _) ho'
 exact small_all h (fun x hx a ha=>(hm.2.1 x hx a ha).resolve_left (by omega))
theorem smallO_ren (ns:List Nd) (ρ:Int→Int) (rs:List Int):smallO (renNs ρ ns) 0 rs=smallO ns 0 rs:=by
 have meets:∀ (l:List Int) (out:List Nat),meetsF (renNs ρ ns) 0 out l=meetsF ns 0 out l:=by
   intro l out
   unfold meetsF meetF
   rw [ren_over]
 have reach:∀ (f i:Nat) (out:List Nat),reachF (renNs ρ ns) 0 f i out=reachF ns 0 f i out:=by
   intro f
   induction f with
   | zero=>intro i out;rfl
   | succ f ih=>
     intro i out
     by_cases hi:i < out.length
     · rw [reachF_step _ _ _ _ _ hi,reachF_step _ _ _ _ _ hi,ih,meets,ren_at,(ren_kind _).2]
     · rw [reachF_end _ _ _ _ _ (by omega),reachF_end _ _ _ _ _ (by omega)]
 rw [smallO_zero,smallO_zero,reach,meets,ren_len]
def rootsB (ρ:Int→Int) (k:Nat) (M2:Mc):List Int:=(List.range k).map (fun i:Nat=>M2.globals.getD (ρ i).toNat 0)++M2.frames.flatMap Fr.roots++M2.wait
theorem flat_L2 {s1 s2:St}:∀ (l1 l2:List Fr),L2 (FrL ρ s1 s2 R) l1 l2→L2 (Lk s1 s2 R) (l1.flatMap Fr.roots) (l2.flatMap Fr.roots):=by
 intro l1
 induction l1 with
 | nil=>
   intro l2 h
   have:l2=[]:=List.eq_nil_of_length_eq_zero h.1.symm
   subst this;exact L2.nil
 | cons f l1 ih=>
   intro l2 h
   cases l2 with
   | nil=>have:=h.1;simp at this
   | cons f' l2=>
     have hf:=h.2 0 f f' rfl rfl
     simp only [List.flatMap_cons]
     refine L2.app ?_ (ih l2 ⟨by have:=h.1;simpa using this,fun i x y hx hy=>h.2 (i+1) x y (by simpa using hx) (by simpa using hy)⟩)
     exact (hf.spine.app hf.stack).app (L2.one hf.stands)
theorem rootsB_L2 (h:MLink ρ E R M1 M2) (k1:MG n1 M1):L2 (Lk M1.st M2.st R) M1.roots (rootsB ρ M1.globals.length M2):=by
 unfold Mc.roots rootsB
 refine (L2.app ⟨by simp,fun i a b ha hb=>?_⟩ (flat_L2 _ _ h.fr)).app h.wt
 have hi:=(List.getElem?_eq_some_iff.1 ha).1
 rw [List.getElem?_map,List.getElem?_range hi,Option.map_some] at hb
 cases hb
 have:=h.gl (i:Int) (by omega) (by rw [← k1.gln];omega)
 rw [Int.toNat_natCast] at this
 have e:M1.globals.getD i 0=a:=by rw [List.getD_eq_getElem?_getD,ha];rfl
 rwa [e] at this
theorem rootsB_in (h:MLink ρ E R M1 M2) (k1:MG n1 M1) (k2:MG n2 M2):∀ a∈rootsB ρ M1.globals.length M2,a∈M2.roots:=by
 intro a ha
 unfold rootsB at ha
 rcases List.mem_append.1 ha with ha | ha
 · rcases List.mem_append.1 ha with ha | ha
   · obtain ⟨i,hi,rfl⟩:=List.mem_map.1 ha
     have hi:=List.mem_range.1 hi
     obtain ⟨r0,r1⟩:=h.tab.nn i (by omega) (by rw [← k1.gln];omega)
     exact root_gl (getD_mem (by rw [k2.gln];omega))
   · obtain ⟨f,hf,ha⟩:=List.mem_flatMap.1 ha
     exact root_fr hf ha
 · exact root_wt ha
theorem MG.roots (h:MG n M):∀ a∈M.roots,M.st.In a:=by
 intro a ha
 unfold Mc.roots at ha
 rcases List.mem_append.1 ha with ha | ha
 · rcases List.mem_append.1 ha with ha | ha
   · exact h.gls a ha
   · obtain ⟨f,hf,ha⟩:=List.mem_flatMap.1 ha
     have:=h.frs f hf
     rcases List.mem_append.1 ha with ha | ha
     · rcases List.mem_append.1 ha with ha | ha
       · exact this.sp a ha
       · exact this.sk a ha
     · obtain rfl:=List.mem_singleton.1 ha;exact this.sd
 · exact h.wts a ha
def Covers (ρ:Int→Int) (E:List Nat) (k1 k2:Nat):Prop:=(∀ j,j < k2→j∈E∨∃ i:Nat,i < k1∧(ρ i).toNat=j)∧(E=[]∨∃ e,E=[e])
theorem link_live (h:MLink ρ E R M1 M2) (k1:MG n1 M1) (k2:MG n2 M2) (hρ:∀ g,0≤g→0≤ρ g) (hc:Covers ρ E M1.globals.length M2.globals.length):liveS M2=liveS M1+E.length:=by
 have w1:=ren_wf hρ k1.g.st.wf
 have w2:=k2.g.st.wf
 have hB:=rootsB_L2 h k1
 have hBin:=rootsB_in h k1 k2
 have o1:okPl M1.st.ns.length M1.roots=true:=okPl_of k1.roots
 have o2:okPl M2.st.ns.length M2.roots=true:=okPl_of k2.roots
 have oB:okPl M2.st.ns.length (rootsB ρ M1.globals.length M2)=true:=okPl_of (fun a ha=>k2.roots a (hBin a ha))
 have ca:=alike_count (rs:=M1.roots) (qs:=rootsB ρ M1.globals.length M2) w1 w2 (by rw [ren_len];exact o1) oB ⟨R,h.iso,hB.1,fun i a b ha hb=>by rw [ren_over];exact hB.2 i a b ha hb⟩
 rw [smallO_ren] at ca
 unfold liveS
 rw [ca]
 have mB:=small_met w2 (Nat.zero_le _) oB
 have m2:=small_met w2 (Nat.zero_le _) o2
 have sub:∀ x∈smallO M2.st.ns 0 (rootsB ρ M1.globals.length M2),x∈smallO M2.st.ns 0 M2.roots:=
   reach_same w2 oB o2 (fun a ha=>(m2.2.2.1 a (hBin a ha)).resolve_left (by omega))
 have le:=nodup_sub _ _ mB.1.1 sub
 have part:∀ a∈M2.roots,over M2.st.ns a.toNat∈smallO M2.st.ns 0 (rootsB ρ M1.globals.length M2)∨∃ i∈E,a=M2.globals.getD i 0:=by
   intro a ha
   unfold Mc.roots at ha
   have inB:a∈rootsB ρ M1.globals.length M2→over M2.st.ns a.toNat∈smallO M2.st.ns 0 (rootsB ρ M1.globals.length M2):=fun hh=>(mB.2.2.1 a hh).resolve_left (by omega)
   rcases List.mem_append.1 ha with ha | ha
   · rcases List.mem_append.1 ha with ha | ha
     · obtain ⟨j,hj,rfl⟩:=List.getElem_of_mem ha
       rcases hc.1 j hj with hE | ⟨i,hi,hij⟩
       · exact .inr ⟨j,hE,by rw [List.getD_eq_getElem?_getD,List.getElem?_eq_getElem hj];rfl⟩
       · refine .inl (inB ?_)
         unfold rootsB
         refine List.mem_append_left _ (List.mem_append_left _ (List.mem_map.2 ⟨i,List.mem_range.2 hi,?_⟩))
         rw [hij,List.getD_eq_getElem?_getD,List.getElem?_eq_getElem hj];rfl
     · exact .inl (inB (by unfold rootsB;exact List.mem_append_left _ (List.mem_append_right _ ha)))
   · exact .inl (inB (by unfold rootsB;exact List.mem_append_right _ ha))
 rcases hc.2 with rfl | ⟨e,rfl⟩
 · have:=nodup_sub _ _ m2.1.1 (reach_same w2 o2 oB (fun a ha=>(part a ha).resolve_right (fun ⟨i,hi,_⟩=>by cases hi)))
   simp only [List.length_nil];omega
 · obtain ⟨e1,a1,a2,a3⟩:=h.ex e (by simp)
   have args0:(M2.st.nd (M2.globals.getD e 0)).args=[]:=((may_kind (k2.g.nd a1).1).2.2.2.1 a2).1
   have hasR:∀ x∈smallO M2.st.ns 0 (rootsB ρ M1.globals.length M2),∃ y,R y x:=by
     refine small_all (fun a ha=>?_) (fun x hx a ha=>?_)
     · obtain ⟨i,hi,rfl⟩:=List.getElem_of_mem ha
       have hi1:i < M1.roots.length:=by rw [hB.1];exact hi
       exact ⟨_,hB.2 i _ _ (List.getElem?_eq_getElem hi1) (List.getElem?_eq_getElem hi)⟩
     · obtain ⟨y,hy⟩:=hx
       obtain ⟨d1,d2,d3,d4⟩:=h.iso.dom _ _ hy
       cases hi:ind M2.st.ns x with
       | true=>
         obtain ⟨q,q1,q2,q3⟩:=wf_ind w2 d2 hi
         rw [q2] at ha
         simp only [List.mem_singleton] at ha
         subst ha
         have:=k2.g.ends x d2
         rw [d4,q3] at this
         subst this
         rw [Int.toNat_natCast,d4]
         exact ⟨y,hy⟩
       | false=>
         obtain ⟨i,hi2,rfl⟩:=List.getElem_of_mem ha
         have hl:=(h.iso.nd _ _ hy).2.2
         have hi1:i < (ndAt (renNs ρ M1.st.ns) y).args.length:=by rw [hl];exact hi2
         exact ⟨_,h.iso.kids _ _ hy (by rw [ind_eq (h.iso.nd _ _ hy).1];exact hi) i _ _ (List.getElem?_eq_getElem hi1) (List.getElem?_eq_getElem hi2)⟩
   have hno:M2.st.ov (M2.globals.getD e 0)∉smallO M2.st.ns 0 (rootsB ρ M1.globals.length M2):=fun hm=>by
     obtain ⟨y,hy⟩:=hasR _ hm
     exact a3 y hy
   have up:∀ x∈smallO M2.st.ns 0 M2.roots,x∈M2.st.ov (M2.globals.getD e 0)::smallO M2.st.ns 0 (rootsB ρ M1.globals.length M2):=by
     refine small_all (fun a ha=>?_) (fun x hx a ha=>?_)
     · rcases part a ha with h1 | ⟨i,hi,rfl⟩
       · exact List.mem_cons_of_mem _ h1
       · simp only [List.mem_singleton] at hi
         subst hi
         exact List.mem_cons_self
     · rcases List.mem_cons.1 hx with rfl | hx
       · have:(ndAt M2.st.ns (M2.st.ov (M2.globals.getD e 0))).args=[]:=args0
         rw [this] at ha;cases ha
       · exact List.mem_cons_of_mem _ ((mB.2.1 x hx a ha).resolve_left (by omega))
   have down:∀ x∈M2.st.ov (M2.globals.getD e 0)::smallO M2.st.ns 0 (rootsB ρ M1.globals.length M2),x∈smallO M2.st.ns 0 M2.roots:=by
     intro x hx
     rcases List.mem_cons.1 hx with rfl | hx
     · exact (m2.2.2.1 _ (root_gl (getD_mem e1))).resolve_left (by omega)
     · exact sub x hx
   have l1:=nodup_sub _ _ m2.1.1 up
   have l2:=nodup_sub _ _ (List.nodup_cons.2 ⟨hno,mB.1.1⟩) down
   simp only [List.length_cons,List.length_nil] at l1 l2 ⊢
   omega
end
end
section
open Go Go.W
section
variable {ρ:Int→Int} {E:List Nat} {R:Nat→Nat→Prop} {M1 M2:Mc} {n1 n2 n:Int} {M:Mc}
theorem live_le (h:MOk n M):liveS M≤M.st.ns.length:=by
 have:=small_met h.g.st.wf (Nat.zero_le _) (okPl_of h.roots:okPl M.st.ns.length M.roots=true)
 exact metF_len this.1
structure Out (M M':Mc):Prop where
 ended:M'.ended=5
 frames:M'.frames=M.frames
 told:M'.told=M.told
 steps:M'.steps=M.steps
 stuck:M'.stuck=M.stuck
 live:M'.live=liveS M
theorem col_len0 (ns:List Nd) (rs:List Int):(colNs ns rs).length=(smallO ns 0 rs).length:=by
 rw [(col_small ns rs).1,small_length,Nat.zero_add]
theorem stRoom_iff {T:Tab} {s:St} {roots:List Int} (hg:GOk T s) (hr:∀ a∈roots,s.In a) {k:Int} (hk:0≤k) :
   ((stRoom s k roots).1=none→k > s.size - (smallO s.ns 0 roots).length∧((reached s.ns roots).length=(smallO s.ns 0 roots).length)∧(s.kd≠.ref→(stRoom s k roots).2.ns.length=(smallO s.ns 0 roots).length)) ∧
     ((stRoom s k roots).1≠none→k≤s.size - (smallO s.ns 0 roots).length):=by
 have hpl:okPl s.ns.length roots=true:=okPl_of hr
 have hle:(smallO s.ns 0 roots).length≤s.ns.length:=metF_len (small_met hg.st.wf (Nat.zero_le _) hpl).1
 obtain ⟨kd,sz,ns⟩:=s
 cases kd with
 | hp t=>
   simp only [stRoom,roomS]
   simp only at hpl hle
   rw [if_neg (by omega),if_neg (by simp [hpl])]
   split
   · rename_i hh
     exact ⟨(fun e=>by cases e),fun _=>by omega⟩
   · rename_i hh
     rw [col_len0]
     split
     · rename_i hh2
       exact ⟨fun _=>⟨hh2,by rw [small_reached],fun _=>col_len0 _ _⟩,fun e=>absurd rfl e⟩
     · rename_i hh2
       exact ⟨(fun e=>by cases e),fun _=>by omega⟩
 | gn y o t=>
   have hkd:=hg.st.kd
   have hfr:o≤ns.length:=hkd.1
   have hw:WF ns:=hg.st.wf
   have h1:=hg.small (s:=⟨.gn y o t,sz,ns⟩) (fr:=o) hfr (roots:=roots) hr (kd:=.gn y (smallNs ns o roots).length (IntKind.i64.wrap (t+1))) ⟨Nat.le_refl _,hkd.2⟩
   have a1:=alike_col hg (fr:=o) hfr hr
   simp only at hpl hle a1
   have o2:okPl (smallNs ns o roots).length (smallRoots ns o roots)=true:=okPl_of (fun a ha=>by obtain ⟨c,hc,rfl⟩:=List.mem_map.1 ha;exact h1.2 c hc)
   have cnt:(smallO ns 0 roots).length=(smallO (smallNs ns o roots) 0 (smallRoots ns o roots)).length:=alike_count hw h1.1.st.wf hpl o2 a1
   have cle:(smallO (smallNs ns o roots) 0 (smallRoots ns o roots)).length≤(smallNs ns o roots).length:=metF_len (small_met h1.1.st.wf (Nat.zero_le _) o2).1
   simp only [stRoom,groomS]
   rw [if_neg (by omega),if_neg (by simp [hpl])]
   split
   · rename_i hh
     exact ⟨(fun e=>by cases e),fun _=>by omega⟩
   · rename_i hh
     split
     · rename_i hh2
       unfold endS
       rw [small_length,Nat.zero_add]
       split
       · rename_i hh3
         exact ⟨fun _=>⟨by omega,by rw [small_reached],fun _=>by show (smallNs _ 0 _).length=_;rw [small_length,Nat.zero_add,cnt]⟩,fun e=>absurd rfl e⟩
       · rename_i hh3
         exact ⟨(fun e=>by cases e),fun _=>by omega⟩
     · rename_i hh2
       exact ⟨(fun e=>by cases e),fun _=>by omega⟩
 | ref=>
   simp only [stRoom]
   rw [col_len0]
   split
   · rename_i hh
     exact ⟨fun _=>⟨hh,by rw [small_reached],fun e=>absurd rfl e⟩,fun e=>absurd rfl e⟩
   · exact ⟨(fun e=>by cases e),fun _=>by omega⟩
theorem room_iff (h:MOk n M) {k:Int} (hk:0≤k):((M.room k).1=true→k≤M.st.size - liveS M)∧((M.room k).1=false→k > M.st.size - liveS M∧Out M (M.room k).2):=by
 have hle:=live_le h
 obtain ⟨f1,f2⟩:=stRoom_iff h.g h.roots hk
 unfold Mc.room
 split
 · rename_i hq
   simp only [Mc.quick,Bool.and_eq_true,decide_eq_true_eq] at hq
   have:=hq.1
   exact ⟨fun _=>by omega,(fun e=>by cases e)⟩
 · rename_i hq
   split
   · rename_i hn
     obtain ⟨g1,g2,g3⟩:=f1 hn
     refine ⟨(fun e=>by cases e),fun _=>⟨g1,⟨rfl,rfl,rfl,rfl,rfl,?_⟩⟩⟩
     show (if M.ref then ((reached M.st.ns M.roots).length:Int) else ((stRoom M.st k M.roots).2.ns.length:Int))=liveS M
     have href:M.ref=false→M.st.kd≠.ref:=by
       intro hb e
       unfold Mc.ref at hb
       rw [e] at hb;cases hb
     split
     · rw [g2];rfl
     · rename_i hr
       rw [g3 (href (by simpa using hr))];rfl
   · rename_i l hn
     exact ⟨fun _=>f2 (by rw [hn];simp),(fun e=>by cases e)⟩
theorem room_size (M:Mc) (k:Int):(M.room k).2.st.size=M.st.size:=by
 unfold Mc.room
 split
 · rfl
 · split
   · exact stRoom_size _ _ _
   · exact stRoom_size _ _ _
structure Side (ρ:Int→Int) (E:List Nat) (n1 n2:Int) (M1 M2:Mc):Prop where
 k1:MOk n1 M1
 k2:MOk n2 M2
 hρ:∀ g,0≤g→0≤ρ g
 cov:Covers ρ E M1.globals.length M2.globals.length
 cap:M1.st.size+E.length≤M2.st.size
theorem link_room (h:MLink ρ E R M1 M2) (hs:Side ρ E n1 n2 M1 M2) {k:Int} (hk:0≤k) :
   ((M1.room k).1=true→(M2.room k).1=true∧∃ R',MLink ρ E R' (M1.room k).2 (M2.room k).2)∧((M1.room k).1=false→M2.st.size=M1.st.size+E.length→(M2.room k).1=false):=by
 have hl:=link_live h hs.k1.mg hs.k2.mg hs.hρ hs.cov
 have i1:=room_iff hs.k1 hk
 have i2:=room_iff hs.k2 hk
 have cap:=hs.cap
 refine ⟨fun ht=>?_,fun hf he=>?_⟩
 · have ht2:(M2.room k).1=true:=by
     cases hb:(M2.room k).1 with
     | true=>rfl
     | false=>
       have a1:=i1.1 ht
       have a2:=(i2.2 hb).1
       omega
   refine ⟨ht2,?_⟩
   obtain ⟨g1,s1,b1,e1,a1,_⟩:=hs.k1.room_alike hk ht
   obtain ⟨g2,s2,b2,e2,a2,_⟩:=hs.k2.room_alike hk ht2
   have r2:=(hs.k2.room hk ht2).1
   obtain ⟨R',h'⟩:=h.left hs.k1.mg hs.k2.mg b1 a1
   have m1:=(hs.k1.room hk ht).1.mg
   rw [e1] at m1
   have in2:∀ a∈M2.roots,s2.In (g2 a):=by
     intro a ha
     have hr:=r2.roots (g2 a) (by
       rw [e2]
       have:({ M2.mapP g2 with st:=s2,base:=b2}:Mc).roots=(M2.mapP g2).roots:=rfl
       rw [this,mapP_roots]
       exact List.mem_map.2 ⟨a,ha,rfl⟩)
     rw [e2] at hr
     exact hr
   obtain ⟨R'',h''⟩:=h'.right m1 hs.k2.mg b2 a2 in2
   rw [e1,e2]
   exact ⟨R'',h''⟩
 · cases hb:(M2.room k).1 with
   | false=>rfl
   | true=>
     have a1:=(i1.2 hf).1
     have a2:=i2.1 hb
     omega
theorem Side.room (hs:Side ρ E n1 n2 M1 M2) {k:Int} (hk:0≤k) (h1:(M1.room k).1=true) (h2:(M2.room k).1=true):Side ρ E n1 n2 (M1.room k).2 (M2.room k).2:=by
 obtain ⟨g1,s1,b1,e1⟩:=room_form M1 k h1
 obtain ⟨g2,s2,b2,e2⟩:=room_form M2 k h2
 refine ⟨(hs.k1.room hk h1).1,(hs.k2.room hk h2).1,hs.hρ,?_,by rw [room_size,room_size];exact hs.cap⟩
 have l1:(M1.room k).2.globals.length=M1.globals.length:=by rw [e1];simp [Mc.mapP]
 have l2:(M2.room k).2.globals.length=M2.globals.length:=by rw [e2];simp [Mc.mapP]
 rw [l1,l2];exact hs.cov
def Both2 (ρ:Int→Int) (E:List Nat) (M1 M2 M1' M2':Mc):Prop:=(∃ R',MLink ρ E R' M1' M2')∨(Out M1 M1'∧(M2.st.size=M1.st.size+E.length→Out M2 M2'))
theorem link_last (h:MLink ρ E R M1 M2) (hw:0 < M1.wait.length):Lk M1.st M2.st R M1.last M2.last:=by
 unfold Mc.last
 rw [← h.wt.1]
 exact h.wt.getD (by omega) _ _
theorem link_tell (h:MLink ρ E R M1 M2) (hs:Side ρ E n1 n2 M1 M2) (he:M1.ended=0):MLink ρ E R M1.tell M2.tell:=by
 have hw:=hs.k1.wpos he
 have hw2:=hs.k2.wpos (by rw [h.ended];exact he)
 have ll:=link_last h hw
 have hn:=lk_nd h.iso ll
 unfold Mc.tell
 rw [hn.1]
 split
 · rename_i hk
   have hnum:=lk_num h.iso ll (by omega)
   have hargs:=lk_args h.iso ll (by omega)
   have hwait:L2 (Lk M1.st M2.st R) (M1.wait.take (M1.wait.length - 1)++(M1.st.nd M1.last).args.reverse) (M2.wait.take (M2.wait.length - 1)++(M2.st.nd M2.last).args.reverse):=by
     rw [← h.wt.1]
     exact (h.wt.take _).app hargs.rev
   have hitem:M2.item (M2.st.nd M2.last)=M1.item (M1.st.nd M1.last):=by
     unfold Mc.item
     rw [hn.1,hnum,sh_eq h]
   refine ⟨h.iso,h.tab,h.inp,h.given,?_,h.steps,?_,h.stuck,h.gl,h.ex,h.fr,hwait⟩
   · show M2.told++[_]=M1.told++[_]
     rw [h.told,hitem]
   · show (if _ then (2:Int) else M2.ended)=(if _ then (2:Int) else M1.ended)
     rw [hwait.1,h.ended]
 · exact h.enter (lk_nv hs.k1.mg hs.k2.mg (hs.k1.wts _ (last_mem hw)) (hs.k2.wts _ (last_mem hw2)) ll)
theorem head_ov (h:GOk M.tab M.st) {f:Fr} (hG:FrG M.st n f) (ar:Int):M.st.ov (M.head f ar)=M.st.ov ((f.own ar).headD f.stands):=by
 unfold Mc.head
 split
 · rename_i hs;rw [hs];exact (St.nd_ov h hG.sd).1
 · rename_i s l hs
   rw [hs]
   split
   · rfl
   · exact (St.nd_ov h (hG.sp s (own_mem (by rw [hs];exact List.mem_cons_self)))).1
theorem link_call (h:MLink ρ E R M1 M2) (hs:Side ρ E n1 n2 M1 M2) (hp:0 < M1.frames.length) (h4:(M1.st.nd M1.top.stands).kind=4) :
   ∃ R',MLink ρ E R' (M1.call M1.top (M1.st.nd M1.top.stands).num) (M2.call M2.top (M2.st.nd M2.top.stands).num):=by
 have hp2:0 < M2.frames.length:=by rw [← h.fr.1];exact hp
 have ht:=h.top hp
 have G1:=hs.k1.topG hp
 have G2:=hs.k2.topG hp2
 have nd1:=hs.k1.g.nd G1.sd
 have g0:=((may_kind nd1.1).2.2.2.1 h4).2
 have g1:=nd1.2.2.1 h4
 rw [lk_num4 h.iso ht.stands h4]
 generalize (M1.st.nd M1.top.stands).num=g at *
 have har:=h.tab.ar g g0 g1
 unfold Mc.call
 rw [har]
 generalize hA:(M1.tab.gl g).arity=ar at *
 have hown:L2 (Lk M1.st M2.st R) (M1.top.own ar) (M2.top.own ar):=by
   unfold Fr.own
   rw [← ht.spine.1]
   exact ht.spine.drop _
 have hall:(M2.top.own ar).all (fun s=>decide ((M2.st.nd s).kind=3))=(M1.top.own ar).all (fun s=>decide ((M1.st.nd s).kind=3)):=
   (hown.all (fun a b _ _ hab=>by rw [(lk_nd h.iso hab).1])).symm
 rw [hall]
 split
 · rename_i ha
   have ha1:∀ s∈M1.top.own ar,(M1.st.nd s).kind=3:=fun s hs=>by simpa using List.all_eq_true.1 ha s hs
   have hraw:Lk M1.st M2.st R ((M1.top.own ar).headD M1.top.stands) ((M2.top.own ar).headD M2.top.stands):=by
     cases e1:M1.top.own ar with
     | nil=>
       have:M2.top.own ar=[]:=by
         have:=hown.1;rw [e1] at this
         exact List.eq_nil_of_length_eq_zero this.symm
       rw [this];exact ht.stands
     | cons a l=>
       cases e2:M2.top.own ar with
       | nil=>have:=hown.1;rw [e1,e2] at this;simp at this
       | cons b m=>
         rw [e1,e2] at hown
         exact hown.2 0 a b rfl rfl
   have hhead:Lk M1.st M2.st R (M1.head M1.top ar) (M2.head M2.top ar):=by
     unfold Lk
     rw [head_ov hs.k1.g G1,head_ov hs.k2.g G2]
     exact hraw
   have hin:=head_in hs.k1 G1 h4 ha1
   obtain ⟨a1,a2,a3⟩:=link_set hs.hρ h.iso hs.k1.g hs.k2.g hhead hin.2.1 (k:=7) (num:=0) (l1:=[]) (l2:=[]) (by decide) (by decide) L2.nil
   have k:=h.store hs.k1.mg hs.k2.mg a1 a2 a3
   refine ⟨R,?_⟩
   refine MLink.setTop (M1:={ M1 with st:=M1.st.set (M1.st.ov (M1.head M1.top ar)) ⟨7,0,[]⟩}) (M2:={ M2 with st:=M2.st.set (M2.st.ov (M2.head M2.top ar)) ⟨7,0,[]⟩}) k ⟨rfl,fun _=>rfl,rfl,?_,?_,a2 _ _ G1.sd G2.sd ht.stands⟩
   · have in2:M2.st.In (M2.head M2.top ar):=by
       unfold Mc.head
       split
       · exact hs.k2.g.ovIn G2.sd
       · rename_i s l hs'
         have:=G2.sp s (own_mem (by rw [hs'];exact List.mem_cons_self))
         split
         · exact this
         · exact hs.k2.g.ovIn this
     refine L2.cons (a2 _ _ hin.1 in2 hhead) ?_
     refine hown.map (fun a b ma mb hab=>?_)
     have ka:=ha1 a ma
     have kb:(M2.st.nd b).kind=3:=by rw [(lk_nd h.iso hab).1];exact ka
     have ia:=G1.sp a (own_mem ma)
     have ib:=G2.sp b (own_mem mb)
     have la:=(may_kind (hs.k1.g.nd ia).1).2.2.1 ka
     exact a2 _ _ (getD1 hs.k1.g ia ka).1 (getD1 hs.k2.g ib kb).1 ((lk_args h.iso hab (by rw [ka];decide)).getD (by omega) _ _)
   · show L2 _ (M1.top.spine.take _) (M2.top.spine.take _)
     rw [← ht.spine.1]
     exact (ht.spine.take _).mono (fun a b ma mb hab=>a2 a b (G1.sp a (take_mem ma)) (G2.sp b (take_mem mb)) hab)
 · exact ⟨R,h.fail 5⟩
theorem link_lacks2 (h:MLink ρ E R M1 M2) (hs:Side ρ E n1 n2 M1 M2) (hp:0 < M1.frames.length) (hw:0 < M1.wait.length) (r1:(M1.st.ns.length:Int)+2≤M1.st.size) (r2:(M2.st.ns.length:Int)+2≤M2.st.size):∃ R',MLink ρ E R' M1.lacks2 M2.lacks2:=by
 have hp2:0 < M2.frames.length:=by rw [← h.fr.1];exact hp
 have hw2:0 < M2.wait.length:=by rw [← h.wt.1];exact hw
 have ll:=link_last h hw
 have L1:=hs.k1.wts _ (last_mem hw)
 have L2':=hs.k2.wts _ (last_mem hw2)
 obtain ⟨R',a1,a2,a3,a4⟩:=link_add (k:=8) (num:=0) (l1:=[]) (l2:=[]) hs.hρ h.iso hs.k1.g hs.k2.g rfl rfl (by decide) (by decide) (fun a ha=>by cases ha) (fun a ha=>by cases ha) L2.nil
 have g1:=hs.k1.g.add' (nd:=⟨8,0,[]⟩) rfl (by decide) (fun a ha=>by cases ha) (by omega)
 have g2:=hs.k2.g.add' (nd:=⟨8,0,[]⟩) rfl (by decide) (fun a ha=>by cases ha) (by omega)
 have ar1:∀ a∈[M1.last,(M1.st.ns.length:Int)],(M1.st.add ⟨8,0,[]⟩).In a:=fun a ha=>by
   simp only [List.mem_cons,List.not_mem_nil,or_false] at ha
   rcases ha with rfl | rfl
   · exact In.add L1 _
   · exact In.new _ _
 have ar2:∀ a∈[M2.last,(M2.st.ns.length:Int)],(M2.st.add ⟨8,0,[]⟩).In a:=fun a ha=>by
   simp only [List.mem_cons,List.not_mem_nil,or_false] at ha
   rcases ha with rfl | rfl
   · exact In.add L2' _
   · exact In.new _ _
 obtain ⟨R'',b1,b2,b3,b4⟩:=link_add (k:=3) (num:=0) (l1:=[M1.last,(M1.st.ns.length:Int)]) (l2:=[M2.last,(M2.st.ns.length:Int)]) hs.hρ a1 g1 g2 rfl rfl (by decide) (by decide) ar1 ar2 (L2.cons (a2 _ _ L1 L2' ll) (L2.one a3))
 have mv:Moves M1.st M2.st ((M1.st.add ⟨8,0,[]⟩).add ⟨3,0,[M1.last,(M1.st.ns.length:Int)]⟩) ((M2.st.add ⟨8,0,[]⟩).add ⟨3,0,[M2.last,(M2.st.ns.length:Int)]⟩) R R'':=fun a b ha hb hab=>b2 a b (In.add ha _) (In.add hb _) (a2 a b ha hb hab)
 have k:=h.store hs.k1.mg hs.k2.mg b1 mv (fun a ha=>b4 a (a4 a ha))
 have ht:=(h.top hp).move mv (hs.k1.topG hp) (hs.k2.topG hp2)
 rw [len_add,len_add] at b3
 have b3:Lk ((M1.st.add ⟨8,0,[]⟩).add ⟨3,0,[M1.last,(M1.st.ns.length:Int)]⟩) ((M2.st.add ⟨8,0,[]⟩).add ⟨3,0,[M2.last,(M2.st.ns.length:Int)]⟩) R'' ((M1.st.ns.length:Int)+1) ((M2.st.ns.length:Int)+1):=by
   simpa using b3
 have k2:=MLink.setTop k (f1:={ M1.top with stands:=(M1.st.ns.length:Int)+1,spine:=[]}) (f2:={ M2.top with stands:=(M2.st.ns.length:Int)+1,spine:=[]}) ⟨ht.runs,ht.glob,ht.at',ht.stack,L2.nil,b3⟩
 refine ⟨R'',⟨k2.iso,k2.tab,k2.inp,rfl,k2.told,k2.steps,k2.ended,k2.stuck,k2.gl,k2.ex,k2.fr,?_⟩⟩
 show L2 _ (M1.wait.set _ _) (M2.wait.set _ _)
 rw [← h.wt.1]
 exact k2.wt.set b3 _
theorem link_lacks (h:MLink ρ E R M1 M2) (hs:Side ρ E n1 n2 M1 M2) (hp:0 < M1.frames.length) (he:M1.ended=0):Both2 ρ E M1 M2 M1.lacks M2.lacks:=by
 unfold Mc.lacks
 rw [← h.fr.1,h.given,h.told]
 split
 · exact .inl ⟨R,h.leave⟩
 split
 · exact .inl ⟨R,h.fail 5⟩
 · obtain ⟨q1,q2⟩:=link_room h hs (k:=2) (by omega)
   split
   · rename_i ht
     obtain ⟨ht2,R',h'⟩:=q1 ht
     rw [if_pos ht2]
     have hs':=hs.room (by omega) ht ht2
     obtain ⟨e1,e2,e3,_⟩:=room_keeps M1 2 ht
     exact .inl (link_lacks2 h' hs' (by omega) (by rw [e2];exact hs.k1.wpos he) (hs.k1.room (by omega) ht).2 (hs.k2.room (by omega) ht2).2)
   · rename_i ht
     have ht:(M1.room 2).1=false:=by simpa using ht
     refine .inr ⟨((room_iff hs.k1 (by omega)).2 ht).2,fun hsz=>?_⟩
     have ht2:=q2 ht hsz
     rw [if_neg (by simp [ht2])]
     exact ((room_iff hs.k2 (by omega)).2 ht2).2
theorem link_read (h:MLink ρ E R M1 M2) (hs:Side ρ E n1 n2 M1 M2) (hp:0 < M1.frames.length) (h8:(M1.st.nd M1.top.stands).kind=8):Both2 ρ E M1 M2 (M1.read M1.top (M1.st.nd M1.top.stands).num) (M2.read M2.top (M2.st.nd M2.top.stands).num):=by
 have hp2:0 < M2.frames.length:=by rw [← h.fr.1];exact hp
 have ht:=h.top hp
 have G1:=hs.k1.topG hp
 have num0:=((may_kind (hs.k1.g.nd G1.sd).1).2.2.2.2.1 h8).2
 rw [lk_num h.iso ht.stands (by omega)]
 unfold Mc.read
 have hlen:M2.input.length=M1.input.length:=by rw [h.inp]
 rw [hlen]
 split
 · obtain ⟨a1,a2,a3⟩:=link_set hs.hρ h.iso hs.k1.g hs.k2.g ht.stands (by omega) (k:=2) (num:=3) (l1:=[]) (l2:=[]) (by decide) (by decide) L2.nil
   exact .inl ⟨R,h.store hs.k1.mg hs.k2.mg a1 a2 a3⟩
 · rename_i hk
   obtain ⟨q1,q2⟩:=link_room h hs (k:=2) (by omega)
   split
   · rename_i htr
     obtain ⟨htr2,R',h'⟩:=q1 htr
     rw [if_pos htr2]
     have hs':=hs.room (by omega) htr htr2
     obtain ⟨e1,e2,e3,_,e6,_⟩:=room_keeps M1 2 htr
     have r1:=(hs.k1.room (by omega) htr).2
     have r2:=(hs.k2.room (by omega) htr2).2
     have kd:=hs.k1.room_kind hp (by omega) htr
     generalize (M1.room 2).2=P1 at *
     generalize (M2.room 2).2=P2 at *
     have pp:0 < P1.frames.length:=by omega
     have pp2:0 < P2.frames.length:=by rw [← h'.fr.1];exact pp
     have hst:=(h'.top pp).stands
     have P1G:=hs'.k1.topG pp
     have P2G:=hs'.k2.topG pp2
     have hnum:isNum (P1.input.getD (M1.st.nd M1.top.stands).num.toNat 0):=hs'.k1.inp _ (getD_mem (by rw [e6];omega))
     have m1:(⟨1,P1.input.getD (M1.st.nd M1.top.stands).num.toNat 0,[]⟩:Nd).may=true:=may_int hnum
     have m2:(⟨8,(M1.st.nd M1.top.stands).num+1,[]⟩:Nd).may=true:=by simp [Nd.may,mayB];omega
     unfold Mc.read2
     have hget:P2.input.getD (M1.st.nd M1.top.stands).num.toNat 0=P1.input.getD (M1.st.nd M1.top.stands).num.toNat 0:=by rw [h'.inp]
     rw [hget]
     generalize (M1.st.nd M1.top.stands).num=j at *
     obtain ⟨R1,a1,a2,a3,a4⟩:=link_add (l1:=[]) (l2:=[]) hs'.hρ h'.iso hs'.k1.g hs'.k2.g m1 m1 (by decide) (by decide) (fun a ha=>by cases ha) (fun a ha=>by cases ha) L2.nil
     have g1:=hs'.k1.g.add' m1 (by simp) (fun a ha=>by cases ha) (by omega)
     have g2:=hs'.k2.g.add' m1 (by simp) (fun a ha=>by cases ha) (by omega)
     obtain ⟨R2,b1,b2,b3,b4⟩:=link_add (l1:=[]) (l2:=[]) hs'.hρ a1 g1 g2 m2 m2 (by decide) (by decide) (fun a ha=>by cases ha) (fun a ha=>by cases ha) L2.nil
     have g3:=g1.add' m2 (by simp) (fun a ha=>by cases ha) (by rw [len_add];show ((P1.st.ns.length+1:Nat):Int) < P1.st.size;omega)
     have g4:=g2.add' m2 (by simp) (fun a ha=>by cases ha) (by rw [len_add];show ((P2.st.ns.length+1:Nat):Int) < P2.st.size;omega)
     have mv:Moves P1.st P2.st _ _ R' R2:=fun a b ha hb hab=>b2 a b (In.add ha _) (In.add hb _) (a2 a b ha hb hab)
     have hst':=mv _ _ P1G.sd P2G.sd hst
     have o1:((P1.st.add ⟨1,P1.input.getD j.toNat 0,[]⟩).add ⟨8,j+1,[]⟩).ov P1.top.stands=P1.st.ov P1.top.stands:=by
       rw [ov_add g1 m2 (fun a ha=>by cases ha) (In.add P1G.sd _),ov_add hs'.k1.g m1 (fun a ha=>by cases ha) P1G.sd]
     have o2:((P2.st.add ⟨1,P1.input.getD j.toNat 0,[]⟩).add ⟨8,j+1,[]⟩).ov P2.top.stands=P2.st.ov P2.top.stands:=by
       rw [ov_add g2 m2 (fun a ha=>by cases ha) (In.add P2G.sd _),ov_add hs'.k2.g m1 (fun a ha=>by cases ha) P2G.sd]
     have n1':(((P1.st.add ⟨1,P1.input.getD j.toNat 0,[]⟩).add ⟨8,j+1,[]⟩).nd P1.top.stands).kind≠5:=by
       unfold St.nd
       rw [o1,ndAt_add (by rw [len_add];have:=hs'.k1.g.ov P1G.sd;omega),ndAt_add (hs'.k1.g.ov P1G.sd)]
       show (P1.st.nd P1.top.stands).kind≠5
       rw [kd,h8];decide
     have lh:=b2 _ _ (In.new _ _) (In.new _ _) a3
     have lt:=b3
     rw [len_add,len_add] at lt
     obtain ⟨c1,c2,c3⟩:=link_set hs'.hρ b1 g3 g4 hst' n1' (k:=2) (num:=4) (l1:=[(P1.st.ns.length:Int),((P1.st.ns.length+1:Nat):Int)]) (l2:=[(P2.st.ns.length:Int),((P2.st.ns.length+1:Nat):Int)]) (by decide) (by decide) (L2.cons lh (L2.one lt))
     rw [o1,o2] at c1 c2
     rw [o2] at c3
     refine .inl ⟨R2,?_⟩
     have k:=h'.store hs'.k1.mg hs'.k2.mg c1 (fun a b ha hb hab=>c2 a b (In.add (In.add ha _) _) (In.add (In.add hb _) _) (mv a b ha hb hab)) (fun a ha=>c3 a (b4 a (a4 a ha)))
     simpa using k
   · rename_i htr
     have htr:(M1.room 2).1=false:=by simpa using htr
     refine .inr ⟨((room_iff hs.k1 (by omega)).2 htr).2,fun hsz=>?_⟩
     have htr2:=q2 htr hsz
     rw [if_neg (by simp [htr2])]
     exact ((room_iff hs.k2 (by omega)).2 htr2).2
theorem link_unwind (h:MLink ρ E R M1 M2) (hs:Side ρ E n1 n2 M1 M2) (hp:0 < M1.frames.length) (he:M1.ended=0):Both2 ρ E M1 M2 (M1.unwind M1.top) (M2.unwind M2.top):=by
 have ht:=h.top hp
 have hp2:0 < M2.frames.length:=by rw [← h.fr.1];exact hp
 have G1:=hs.k1.topG hp
 have G2:=hs.k2.topG hp2
 have hn:=lk_nd h.iso ht.stands
 unfold Mc.unwind
 rw [hn.1]
 split
 · rename_i hk
   have la:=(may_kind (hs.k1.g.nd G1.sd).1).2.2.1 hk
   have hself:Lk M1.st M2.st R (M1.st.ov M1.top.stands:Int) (M2.st.ov M2.top.stands:Int):=by
     unfold Lk
     rw [(St.nd_ov hs.k1.g G1.sd).1,(St.nd_ov hs.k2.g G2.sd).1]
     exact ht.stands
   exact .inl ⟨R,h.setTop ⟨ht.runs,ht.glob,ht.at',ht.stack,ht.spine.app (L2.one hself),(lk_args h.iso ht.stands (by rw [hk];decide)).getD (by omega) _ _⟩⟩
 split
 · rename_i hk
   have g0:=((may_kind (hs.k1.g.nd G1.sd).1).2.2.2.1 hk).2
   have g1:=(hs.k1.g.nd G1.sd).2.2.1 hk
   have har:(M2.tab.gl (M2.st.nd M2.top.stands).num).arity=(M1.tab.gl (M1.st.nd M1.top.stands).num).arity:=by
     rw [lk_num4 h.iso ht.stands hk];exact h.tab.ar _ g0 g1
   rw [har,← ht.spine.1]
   split
   · exact .inl (link_call h hs hp hk)
   · exact link_lacks h hs hp he
 split
 · rw [← ht.spine.1]
   split
   · exact .inl ⟨R,h.fail 5⟩
   · exact .inl ⟨R,h.leave⟩
 split
 · rename_i hk;exact link_read h hs hp hk
 split
 · exact .inl ⟨R,h.fail 5⟩
 · exact .inl ⟨R,h.fail 4⟩
theorem link_ins (h:MLink ρ E R M1 M2) (hs:Side ρ E n1 n2 M1 M2) (hp:0 < M1.frames.length) (he:M1.ended=0) (hr:M1.top.runs=true):M2.insOf=renIns ρ M1.insOf:=by
 have ht:=h.top hp
 have hk:=hs.k1.run he _ (top_mem hp) hr
 unfold Mc.insOf Gl.ins
 rw [ht.glob hr,ht.at',h.tab.code _ hk.gl.1 hk.gl.2]
 have:=hk.at'
 rw [List.getD_eq_getElem?_getD,List.getD_eq_getElem?_getD,List.getElem?_map,List.getElem?_eq_getElem (by omega:M1.top.at'.toNat < _)]
 rfl
theorem cells_ren (ρ:Int→Int) (x:Ins):cellsOf (renIns ρ x)=cellsOf x:=by
 unfold renIns
 split
 · rename_i h;simp [cellsOf,h]
 · rfl
theorem link_run (h:MLink ρ E R M1 M2) (hs:Side ρ E n1 n2 M1 M2) (hp:0 < M1.frames.length) (he:M1.ended=0) (hr:M1.top.runs=true):Both2 ρ E M1 M2 M1.run M2.run:=by
 have hp2:0 < M2.frames.length:=by rw [← h.fr.1];exact hp
 have ht:=h.top hp
 have hr2:M2.top.runs=true:=by rw [ht.runs];exact hr
 have he2:M2.ended=0:=by rw [h.ended];exact he
 have hi:=link_ins h hs hp he hr
 have A1:AtIns n1 M1 M1.insOf:=⟨hs.k1,hp,he,hr,rfl⟩
 have A2:AtIns n2 M2 M2.insOf:=⟨hs.k2,hp2,he2,hr2,rfl⟩
 have hc:0≤cellsOf M1.insOf:=by
   have:=A1.io.nums.c1
   unfold cellsOf
   split
   · omega
   split
   · rename_i h8;exact this (.inr (.inr (.inr h8)))
   · omega
 unfold Mc.run
 rw [hi,cells_ren]
 obtain ⟨q1,q2⟩:=link_room h hs hc
 by_cases hpos:cellsOf M1.insOf > 0
 · cases hb:(M1.room (cellsOf M1.insOf)).1 with
   | true=>
     obtain ⟨hb2,R',h'⟩:=q1 hb
     rw [if_neg (by simp),if_pos hpos,if_neg (by simp [hb2]),if_pos hpos]
     have hs':=hs.room hc hb hb2
     obtain ⟨e1,e2,e3,e5,_,_,g,e4⟩:=room_keeps M1 _ hb
     obtain ⟨f1,f2,f3,f5,_,_,g',f4⟩:=room_keeps M2 _ hb2
     have e4:=e4 hp
     have f4:=f4 hp2
     have B1:AtIns n1 (M1.room (cellsOf M1.insOf)).2 M1.insOf:=⟨hs'.k1,by omega,by rw [e3];exact he,by rw [e4];exact hr,by show _=((M1.room (cellsOf M1.insOf)).2.tab.gl (M1.room (cellsOf M1.insOf)).2.top.glob).ins (M1.room (cellsOf M1.insOf)).2.top.at';rw [e4,e5];rfl⟩
     have B2:AtIns n2 (M2.room (cellsOf M1.insOf)).2 (renIns ρ M1.insOf):=⟨hs'.k2,by omega,by rw [f3];exact he2,by rw [f4];exact hr2,by rw [← hi];show _=((M2.room (cellsOf M1.insOf)).2.tab.gl (M2.room (cellsOf M1.insOf)).2.top.glob).ins (M2.room (cellsOf M1.insOf)).2.top.at';rw [f4,f5];rfl⟩
     exact .inl (link_exec h' hs.hρ B1 B2 (fun _=>(hs.k1.room hc hb).2) (fun _=>(hs.k2.room hc hb2).2))
   | false=>
     rw [if_pos ⟨hpos,rfl⟩]
     refine .inr ⟨((room_iff hs.k1 hc).2 hb).2,fun hsz=>?_⟩
     have hb2:=q2 hb hsz
     rw [if_pos ⟨hpos,hb2⟩]
     exact ((room_iff hs.k2 hc).2 hb2).2
 · rw [if_neg (fun hh=>hpos hh.1),if_neg hpos,if_neg (fun hh=>hpos hh.1),if_neg hpos]
   exact .inl (link_exec h hs.hρ A1 (hi ▸ A2) (fun hh=>absurd hh hpos) (fun hh=>absurd hh hpos))
theorem link_work (h:MLink ρ E R M1 M2) (hs:Side ρ E n1 n2 M1 M2) (he:M1.ended=0):Both2 ρ E M1 M2 M1.work M2.work:=by
 unfold Mc.work
 rw [← h.fr.1]
 split
 · exact .inl ⟨R,link_tell h hs he⟩
 · rename_i hp
   rw [(h.top (by omega)).runs]
   split
   · rename_i hr;exact link_run h hs (by omega) he hr
   · exact link_unwind h hs (by omega) he
end
end
section
open Go Go.W
structure Stat (M M':Mc):Prop where
 tab:M'.tab=M.tab
 size:M'.st.size=M.st.size
 gl:M'.globals.length=M.globals.length
 inp:M'.input=M.input
 every:M'.every=M.every
 gens:M'.gens=M.gens
 young:M'.young=M.young
theorem Stat.refl (M:Mc):Stat M M:=⟨rfl,rfl,rfl,rfl,rfl,rfl,rfl⟩
theorem Stat.trans {M M' M'':Mc} (h:Stat M M') (k:Stat M' M''):Stat M M'':=
 ⟨k.tab.trans h.tab,k.size.trans h.size,k.gl.trans h.gl,k.inp.trans h.inp,k.every.trans h.every,k.gens.trans h.gens,k.young.trans h.young⟩
theorem stat_room (M:Mc) (k:Int):Stat M (M.room k).2:=by
 refine ⟨?_,room_size M k,?_,?_,?_,?_,?_⟩
 all_goals unfold Mc.room
 all_goals split
 all_goals first | rfl | (split<;>simp [Mc.after,Mc.mapP])
theorem stat_exec (M:Mc) (x:Ins):Stat M (M.exec x):=by
 have ha:Stat M (M.arith x):=by
   unfold Mc.arith
   split
   · exact ⟨rfl,rfl,rfl,rfl,rfl,rfl,rfl⟩
   split<;>exact ⟨rfl,rfl,rfl,rfl,rfl,rfl,rfl⟩
 have hj:∀ p q b,Stat M (M.jumpIf p q b):=by
   intro p q b
   unfold Mc.jumpIf
   split
   · exact ⟨rfl,rfl,rfl,rfl,rfl,rfl,rfl⟩
   split<;>exact ⟨rfl,rfl,rfl,rfl,rfl,rfl,rfl⟩
 by_cases e1:x.op=1
 · rw [exec1 e1];exact ⟨rfl,rfl,rfl,rfl,rfl,rfl,rfl⟩
 by_cases e2:x.op=2
 · rw [exec2 e2];exact ⟨rfl,rfl,rfl,rfl,rfl,rfl,rfl⟩
 by_cases e3:x.op=3
 · rw [exec3 e3];exact ⟨rfl,rfl,rfl,rfl,rfl,rfl,rfl⟩
 by_cases e4:x.op=4
 · rw [exec4 e4];exact ⟨rfl,rfl,rfl,rfl,rfl,rfl,rfl⟩
 by_cases e5:x.op=5
 · rw [exec5 e5];exact ⟨rfl,rfl,rfl,rfl,rfl,rfl,rfl⟩
 by_cases e6:x.op=6
 · rw [exec6 e6];exact ⟨rfl,rfl,rfl,rfl,rfl,rfl,rfl⟩
 by_cases e7:x.op=7
 · rw [exec7 e7];exact ⟨rfl,rfl,rfl,rfl,rfl,rfl,rfl⟩
 by_cases e8:x.op=8
 · rw [exec8 e8];exact ⟨rfl,rfl,rfl,rfl,rfl,rfl,rfl⟩
 by_cases e9:x.op=9
 · rw [exec9 e9];exact ⟨rfl,rfl,rfl,rfl,rfl,rfl,rfl⟩
 by_cases e10:x.op=10
 · rw [exec10 e10];split<;>exact ⟨rfl,rfl,rfl,rfl,rfl,rfl,rfl⟩
 by_cases e11:x.op=11
 · rw [exec11 e11];split<;>exact ⟨rfl,rfl,rfl,rfl,rfl,rfl,rfl⟩
 by_cases e12:x.op=12
 · rw [exec12 e12];exact ha
 by_cases e13:x.op=13
 · rw [exec13 e13];exact ⟨rfl,rfl,rfl,rfl,rfl,rfl,rfl⟩
 by_cases e14:x.op=14
 · rw [exec14 e14];exact hj _ _ _
 by_cases e15:x.op=15
 · rw [exec15 e15];exact hj _ _ _
 by_cases e16:x.op=16
 · rw [exec16 e16];exact ⟨rfl,rfl,rfl,rfl,rfl,rfl,rfl⟩
 unfold Mc.exec
 rw [if_neg e1,if_neg e2,if_neg e3,if_neg e4,if_neg e5,if_neg e6,if_neg e7,if_neg e8,if_neg e9,if_neg e10,if_neg e11,if_neg e12,if_neg e13,if_neg e14,if_neg e15,if_neg e16]
 exact ⟨rfl,rfl,rfl,rfl,rfl,rfl,rfl⟩
theorem stat_run (M:Mc):Stat M M.run:=by
 unfold Mc.run
 split
 · exact stat_room _ _
 split
 · exact (stat_room _ _).trans ((show Stat (M.room (cellsOf M.insOf)).2 (M.room (cellsOf M.insOf)).2.next from ⟨rfl,rfl,rfl,rfl,rfl,rfl,rfl⟩).trans (stat_exec _ _))
 · exact (show Stat M M.next from ⟨rfl,rfl,rfl,rfl,rfl,rfl,rfl⟩).trans (stat_exec _ _)
theorem stat_work (M:Mc):Stat M M.work:=by
 have hl:Stat M M.lacks:=by
   unfold Mc.lacks
   split
   · exact ⟨rfl,rfl,rfl,rfl,rfl,rfl,rfl⟩
   split
   · exact ⟨rfl,rfl,rfl,rfl,rfl,rfl,rfl⟩
   split
   · exact (stat_room _ _).trans ⟨rfl,rfl,rfl,rfl,rfl,rfl,rfl⟩
   · exact stat_room _ _
 have hr:∀ f k,Stat M (M.read f k):=by
   intro f k
   unfold Mc.read
   split
   · exact ⟨rfl,rfl,rfl,rfl,rfl,rfl,rfl⟩
   split
   · exact (stat_room _ _).trans ⟨rfl,rfl,rfl,rfl,rfl,rfl,rfl⟩
   · exact stat_room _ _
 unfold Mc.work
 split
 · unfold Mc.tell
   split<;>exact ⟨rfl,rfl,rfl,rfl,rfl,rfl,rfl⟩
 split
 · exact stat_run M
 · unfold Mc.unwind Mc.call
   repeat' split
   all_goals first | exact hl | exact hr _ _ | exact ⟨rfl,rfl,rfl,rfl,rfl,rfl,rfl⟩
theorem stCol_size (s:St) (roots:List Int):(stCol s roots).2.size=s.size:=by
 obtain ⟨kd,sz,ns⟩:=s
 cases kd<;>rfl
theorem stat_tidy (M:Mc):Stat M M.tidy:=by
 unfold Mc.tidy
 split
 · exact ⟨rfl,stCol_size _ _,by simp [Mc.after,Mc.mapP],rfl,rfl,rfl,rfl⟩
 · exact Stat.refl M
theorem stat_step (M:Mc):Stat M M.step:=by
 unfold Mc.step
 split
 · exact Stat.refl M
 split
 · exact stat_work M
 · exact (stat_work M).trans ((show Stat M.work { M.work with steps:=M.work.steps+1} from ⟨rfl,rfl,rfl,rfl,rfl,rfl,rfl⟩).trans (stat_tidy _))
section
variable {ρ:Int→Int} {E:List Nat} {R:Nat→Nat→Prop} {M1 M2:Mc} {n1 n2 n:Int} {M:Mc}
theorem out_of (h:MOk n M) {M':Mc} (hn:NoRoom M M'):Out M M':=by
 obtain ⟨k,hk,hf,rfl⟩:=hn
 exact ((room_iff h hk).2 hf).2
theorem tidy_form (h:MOk n M):∃ g s b,M.tidy = { M.mapP g with st:=s,base:=b}∧Alike M.st.ns M.roots s.ns (M.roots.map g)∧∀ a∈M.roots,s.In (g a):=by
 unfold Mc.tidy
 split
 · obtain ⟨h1,h2⟩:=h.g.col h.roots
   exact ⟨_,_,_,rfl,stCol_alike h.g h.roots,h2⟩
 · refine ⟨id,M.st,M.base,by rw [mapP_id],?_,h.roots⟩
   rw [List.map_id]
   exact alike_id h.g h.roots
theorem link_tidy (h:MLink ρ E R M1 M2) (k1:MOk n1 M1) (k2:MOk n2 M2):∃ R',MLink ρ E R' M1.tidy M2.tidy:=by
 obtain ⟨g1,s1,b1,e1,a1,_⟩:=tidy_form k1
 obtain ⟨g2,s2,b2,e2,a2,i2⟩:=tidy_form k2
 obtain ⟨R',h'⟩:=h.left k1.mg k2.mg b1 a1
 have m1:=k1.tidy.mg
 rw [e1] at m1
 obtain ⟨R'',h''⟩:=h'.right m1 k2.mg b2 a2 i2
 rw [e1,e2]
 exact ⟨R'',h''⟩
structure Twin (ρ:Int→Int) (E:List Nat) (n:Int) (M1 M2:Mc):Prop where
 link:∃ R,MLink ρ E R M1 M2
 side:Side ρ E n n M1 M2
theorem Side.stat {M1' M2':Mc} (h:Side ρ E n1 n2 M1 M2) (s1:Stat M1 M1') (s2:Stat M2 M2') {n1' n2':Int} (k1:MOk n1' M1') (k2:MOk n2' M2'):Side ρ E n1' n2' M1' M2':=
 ⟨k1,k2,h.hρ,by rw [s1.gl,s2.gl];exact h.cov,by rw [s1.size,s2.size];exact h.cap⟩
theorem Twin.more (h:Twin ρ E n M1 M2) {n':Int} (hn:n≤n'):Twin ρ E n' M1 M2:=⟨h.link,h.side.k1.more hn,h.side.k2.more hn,h.side.hρ,h.side.cov,h.side.cap⟩
theorem Twin.step (h:Twin ρ E n M1 M2):Twin ρ E (n+1) M1.step M2.step∨(M1.ended=0∧Out M1 M1.step∧(M2.st.size=M1.st.size+E.length→Out M2 M2.step)):=by
 obtain ⟨⟨R,hl⟩,hs⟩:=h
 by_cases he:M1.ended=0
 · have he2:M2.ended=0:=by rw [hl.ended];exact he
   have hb:=link_work hl hs he
   rcases hs.k1.step he with ⟨w1,e1⟩ | ⟨w1,t1,e1⟩
   · refine .inr ⟨he,by rw [e1];exact out_of hs.k1 w1,fun hsz=>?_⟩
     rcases hs.k2.step he2 with ⟨w2,e2⟩ | ⟨w2,t2,e2⟩
     · rw [e2];exact out_of hs.k2 w2
     · exfalso
       rcases hb with ⟨R',hl'⟩ | ⟨_,ho⟩
       · exact w2.ne5 (by rw [hl'.ended];exact w1.ended)
       · exact w2.ne5 (ho hsz).ended
   · rcases hb with ⟨R',hl'⟩ | ⟨ho,_⟩
     · rcases hs.k2.step he2 with ⟨w2,e2⟩ | ⟨w2,t2,e2⟩
       · exact absurd (hl'.ended.symm.trans w2.ended) w1.ne5
       · refine .inl ?_
         have hl'':MLink ρ E R' { M1.work with steps:=M1.work.steps+1} { M2.work with steps:=M2.work.steps+1}:=
           ⟨hl'.iso,hl'.tab,hl'.inp,hl'.given,hl'.told,by show M2.work.steps+1=M1.work.steps+1;rw [hl'.steps],hl'.ended,hl'.stuck,hl'.gl,hl'.ex,hl'.fr,hl'.wt⟩
         obtain ⟨R'',k⟩:=link_tidy hl'' (w1.stepped _) (w2.stepped _)
         refine ⟨⟨R'',by rw [e1,e2];exact k⟩,hs.stat (stat_step _) (stat_step _) t1 t2⟩
     · exact absurd ho.ended w1.ne5
 · have e1:M1.step=M1:=by unfold Mc.step;rw [if_pos he]
   have e2:M2.step=M2:=by unfold Mc.step;rw [if_pos (by rw [hl.ended];exact he)]
   rw [e1,e2]
   exact .inl (Twin.more ⟨⟨R,hl⟩,hs⟩ (by omega))
structure Look (ρ:Int→Int) (E:List Nat) (M1 M2:Mc):Prop where
 told:M2.told=M1.told
 steps:M2.steps=M1.steps
 ended:M2.ended=M1.ended
 stuck:M2.stuck=M1.stuck
 fr:L2 (fun f1 f2:Fr=>f2.runs=f1.runs∧(f1.runs=true→f2.glob=ρ f1.glob)∧f2.at'=f1.at'∧f2.stack.length=f1.stack.length∧f2.spine.length=f1.spine.length) M1.frames M2.frames
theorem MLink.look (h:MLink ρ E R M1 M2):Look ρ E M1 M2:=⟨h.told,h.steps,h.ended,h.stuck,h.fr.mono (fun f1 f2 _ _ hf=>⟨hf.runs,hf.glob,hf.at',hf.stack.1.symm,hf.spine.1.symm⟩)⟩
theorem Look.out (h:Look ρ E M1 M2) {M1' M2':Mc} (o1:Out M1 M1') (o2:Out M2 M2'):Look ρ E M1' M2':=
 ⟨by rw [o1.told,o2.told];exact h.told,by rw [o1.steps,o2.steps];exact h.steps,by rw [o1.ended,o2.ended],by rw [o1.stuck,o2.stuck];exact h.stuck,by rw [o1.frames,o2.frames];exact h.fr⟩
def Pair (ρ:Int→Int) (E:List Nat) (n:Int) (M1 M2:Mc):Prop:=Twin ρ E n M1 M2∨(M1.ended=5∧Look ρ E M1 M2∧M2.live=M1.live+E.length)
theorem Twin.live (h:Twin ρ E n M1 M2):liveS M2=liveS M1+E.length:=by
 obtain ⟨⟨R,hl⟩,hs⟩:=h
 exact link_live hl hs.k1.mg hs.k2.mg hs.hρ hs.cov
theorem Pair.look (h:Pair ρ E n M1 M2):Look ρ E M1 M2:=by
 rcases h with ⟨⟨R,hl⟩,_⟩ | ⟨_,h,_⟩
 · exact hl.look
 · exact h
theorem Pair.step (h:Pair ρ E n M1 M2) (hsz:M2.st.size=M1.st.size+E.length):Pair ρ E (n+1) M1.step M2.step:=by
 rcases h with h | ⟨h5,hl,hv⟩
 · rcases h.step with k | ⟨h0,o1,o2⟩
   · exact .inl k
   · have o2:=o2 hsz
     obtain ⟨R,hl⟩:=h.link
     refine .inr ⟨o1.ended,hl.look.out o1 o2,?_⟩
     rw [o1.live,o2.live,h.live];omega
 · have e1:M1.step=M1:=by unfold Mc.step;rw [if_pos (by rw [h5];decide)]
   have e2:M2.step=M2:=by unfold Mc.step;rw [if_pos (by rw [hl.ended,h5];decide)]
   rw [e1,e2]
   exact .inr ⟨h5,hl,hv⟩
def Mc.steps' (M:Mc):Nat→Mc
 | 0=>M
 | k+1=>(M.steps' k).step
theorem stat_steps (M:Mc) (k:Nat):Stat M (M.steps' k):=by
 induction k with
 | zero=>exact Stat.refl M
 | succ k ih=>exact ih.trans (stat_step _)
theorem Pair.steps (h:Pair ρ E n M1 M2) (hsz:M2.st.size=M1.st.size+E.length) (k:Nat):Pair ρ E (n+k) (M1.steps' k) (M2.steps' k):=by
 induction k with
 | zero=>
   have e:n+((0:Nat):Int)=n:=by simp
   rw [e];exact h
 | succ k ih=>
   have:=ih.step (by rw [(stat_steps M1 k).size,(stat_steps M2 k).size];exact hsz)
   have e:n+(k:Int)+1=n+((k+1:Nat):Int):=by omega
   rw [e] at this
   exact this
end
end
section
open Go Go.W
structure Cal (M M':Mc):Prop where
 steps:M'.steps=M.steps
 kd:M.st.kd≠.ref→M'.st.kd≠.ref
theorem Cal.trans {M M' M'':Mc} (h:Cal M M') (k:Cal M' M''):Cal M M'':=⟨k.steps.trans h.steps,fun e=>k.kd (h.kd e)⟩
theorem stRoom_kd (s:St) (hr:s.kd≠.ref) (n:Int) (roots:List Int):(stRoom s n roots).2.kd≠.ref:=by
 obtain ⟨kd,sz,ns⟩:=s
 cases kd with
 | ref=>exact absurd rfl hr
 | hp t=>intro e;cases e
 | gn y o t=>intro e;cases e
theorem stCol_kd (s:St) (hr:s.kd≠.ref) (roots:List Int):(stCol s roots).2.kd≠.ref:=by
 obtain ⟨kd,sz,ns⟩:=s
 cases kd with
 | ref=>exact absurd rfl hr
 | hp t=>intro e;cases e
 | gn y o t=>intro e;cases e
theorem room_kd (M:Mc) (hr:M.st.kd≠.ref) (k:Int):(M.room k).2.st.kd≠.ref:=by
 unfold Mc.room
 split
 · exact hr
 · split
   · exact stRoom_kd _ hr _ _
   · exact stRoom_kd _ hr _ _
theorem cal_room (M:Mc) (k:Int):Cal M (M.room k).2:=by
 refine ⟨?_,fun h=>room_kd M h k⟩
 unfold Mc.room
 split
 · rfl
 · split<;>rfl
theorem cal_exec (M:Mc) (x:Ins):Cal M (M.exec x):=by
 have ha:Cal M (M.arith x):=by
   unfold Mc.arith
   split
   · exact ⟨rfl,fun h=>h⟩
   split<;>exact ⟨rfl,fun h=>h⟩
 have hj:∀ p q b,Cal M (M.jumpIf p q b):=by
   intro p q b
   unfold Mc.jumpIf
   split
   · exact ⟨rfl,fun h=>h⟩
   split<;>exact ⟨rfl,fun h=>h⟩
 by_cases e1:x.op=1
 · rw [exec1 e1];exact ⟨rfl,fun h=>h⟩
 by_cases e2:x.op=2
 · rw [exec2 e2];exact ⟨rfl,fun h=>h⟩
 by_cases e3:x.op=3
 · rw [exec3 e3];exact ⟨rfl,fun h=>h⟩
 by_cases e4:x.op=4
 · rw [exec4 e4];exact ⟨rfl,fun h=>h⟩
 by_cases e5:x.op=5
 · rw [exec5 e5];exact ⟨rfl,fun h=>h⟩
 by_cases e6:x.op=6
 · rw [exec6 e6];exact ⟨rfl,fun h=>h⟩
 by_cases e7:x.op=7
 · rw [exec7 e7];exact ⟨rfl,fun h=>h⟩
 by_cases e8:x.op=8
 · rw [exec8 e8];exact ⟨rfl,fun h=>h⟩
 by_cases e9:x.op=9
 · rw [exec9 e9];exact ⟨rfl,fun h=>h⟩
 by_cases e10:x.op=10
 · rw [exec10 e10];split<;>exact ⟨rfl,fun h=>h⟩
 by_cases e11:x.op=11
 · rw [exec11 e11];split<;>exact ⟨rfl,fun h=>h⟩
 by_cases e12:x.op=12
 · rw [exec12 e12];exact ha
 by_cases e13:x.op=13
 · rw [exec13 e13];exact ⟨rfl,fun h=>h⟩
 by_cases e14:x.op=14
 · rw [exec14 e14];exact hj _ _ _
 by_cases e15:x.op=15
 · rw [exec15 e15];exact hj _ _ _
 by_cases e16:x.op=16
 · rw [exec16 e16];exact ⟨rfl,fun h=>h⟩
 unfold Mc.exec
 rw [if_neg e1,if_neg e2,if_neg e3,if_neg e4,if_neg e5,if_neg e6,if_neg e7,if_neg e8,if_neg e9,if_neg e10,if_neg e11,if_neg e12,if_neg e13,if_neg e14,if_neg e15,if_neg e16]
 exact ⟨rfl,fun h=>h⟩
theorem cal_run (M:Mc):Cal M M.run:=by
 unfold Mc.run
 split
 · exact cal_room _ _
 split
 · exact (cal_room _ _).trans ((show Cal (M.room (cellsOf M.insOf)).2 (M.room (cellsOf M.insOf)).2.next from ⟨rfl,fun h=>h⟩).trans (cal_exec _ _))
 · exact (show Cal M M.next from ⟨rfl,fun h=>h⟩).trans (cal_exec _ _)
theorem cal_work (M:Mc):Cal M M.work:=by
 have hl:Cal M M.lacks:=by
   unfold Mc.lacks
   split
   · exact ⟨rfl,fun h=>h⟩
   split
   · exact ⟨rfl,fun h=>h⟩
   split
   · exact (cal_room _ _).trans ⟨rfl,fun h=>h⟩
   · exact cal_room _ _
 have hr:∀ f k,Cal M (M.read f k):=by
   intro f k
   unfold Mc.read
   split
   · exact ⟨rfl,fun h=>h⟩
   split
   · exact (cal_room _ _).trans ⟨rfl,fun h=>h⟩
   · exact cal_room _ _
 unfold Mc.work
 split
 · unfold Mc.tell
   split<;>exact ⟨rfl,fun h=>h⟩
 split
 · exact cal_run M
 · unfold Mc.unwind Mc.call
   repeat' split
   all_goals first | exact hl | exact hr _ _ | exact ⟨rfl,fun h=>h⟩
theorem cal_tidy (M:Mc):Cal M M.tidy:=by
 unfold Mc.tidy
 split
 · exact ⟨rfl,fun h=>stCol_kd _ h _⟩
 · exact ⟨rfl,fun h=>h⟩
theorem step_kd {M:Mc} (h:M.st.kd≠.ref):M.step.st.kd≠.ref:=by
 unfold Mc.step
 split
 · exact h
 split
 · exact (cal_work M).kd h
 · exact (cal_tidy _).kd (show ({ M.work with steps:=M.work.steps+1}:Mc).st.kd≠.ref from (cal_work M).kd h)
theorem step_steps (M:Mc):M.step.steps=if M.ended=0∧M.work.ended≠5 then M.steps+1 else M.steps:=by
 unfold Mc.step
 split
 · rename_i h;rw [if_neg (fun e=>h e.1)]
 · rename_i h
   have h:M.ended=0:=Classical.byContradiction h
   split
   · rename_i h5;rw [if_neg (fun e=>e.2 h5)];exact (cal_work M).steps
   · rename_i h5
     rw [if_pos ⟨h,h5⟩,(cal_tidy _).steps]
     show M.work.steps+1=_
     rw [(cal_work M).steps]
theorem flat_roots_le {n:Int} {s:St}:∀ (l:List Fr),(∀ f∈l,FrG s n f)→((l.flatMap Fr.roots).length:Int)≤l.length*(n+8001):=by
 intro l
 induction l with
 | nil=>intro _;simp
 | cons f l ih=>
   intro h
   have h1:=ih (fun f hf=>h f (by simp [hf]))
   have h2:=h f (by simp)
   have e:(f.roots.length:Int)≤n+8001:=by
     have:=h2.lsp;have:=h2.lsk
     simp only [Fr.roots,List.length_append,List.length_cons,List.length_nil];omega
   simp only [List.flatMap_cons,List.length_append,List.length_cons]
   have e2:((l.length+1:Nat):Int)*(n+8001)=(l.length:Int)*(n+8001)+(n+8001):=by
     rw [show ((l.length+1:Nat):Int)=(l.length:Int)+1 by omega,Int.add_mul,Int.one_mul]
   omega
theorem MOk.roots_le {n:Int} {M:Mc} (h:MOk n M) (hn:n≤1000000):M.roots.length≤17592186044416:=by
 have h1:=flat_roots_le M.frames h.frs
 have h2:=h.lf
 have h3:=h.lw
 have h4:=h.gln
 have h5:=h.tab.gn
 have h6:(M.frames.length:Int)*(n+8001)≤1000000*1008001:=Int.mul_le_mul (by omega) (by omega) (by have:=h.ln;omega) (by omega)
 unfold Mc.roots
 simp only [List.length_append]
 omega
end
section
open Go Go.W
theorem ln_2 {w:World} {a:Addr} {v0 v1:Value} (h0:w.cell? (a.add 0)=some v0) (h1:w.cell? (a.add 1)=some v1):vLN w 2 (.pointer (some a))=some (.agg #[v0,v1]):=by
 simp [vLN,cellsFrom,h0,h1]
theorem ln_3 {w:World} {a:Addr} {v0 v1 v2:Value} (h0:w.cell? (a.add 0)=some v0) (h1:w.cell? (a.add 1)=some v1) (h2:w.cell? (a.add 2)=some v2):vLN w 3 (.pointer (some a))=some (.agg #[v0,v1,v2]):=by
 simp [vLN,cellsFrom,h0,h1,h2]
theorem glob_at {w:World} {vsh vgl:Value} {T:Tab} {B:Nat→Prop} (h:TabAt w vsh vgl T B) {i:Nat} (hi:i < T.globals.length) :
   ∃ ad c cv,vgl = .slice (some ad) T.globals.length c∧B ad.block∧w.cell? ((ad.add (i*3)).add 0)=some (.string (T.gl i).name)∧w.cell? ((ad.add (i*3)).add 1)=some (I (T.gl i).arity)∧w.cell? ((ad.add (i*3)).add 2)=some cv∧RowsAt w cv 3 ((T.gl i).code.map insRow) B:=by
 obtain ⟨h1,codes,h2,h3,h4⟩:=h
 have hl:(List.zipWith (fun (g:Gl) (v:Value)=>[.string g.name,I g.arity,v]) T.globals codes).length=T.globals.length:=by simp [h2]
 have hic:i < codes.length:=by omega
 have hB:=h3
 obtain ⟨ad,c,rfl,k1,k2⟩:=row_at h3 (i:=i) (by omega)
 obtain ⟨_,_,e,hB,_⟩:=hB
 cases e
 have e:T.gl (i:Int)=T.globals[i]:=by unfold Tab.gl;rw [Int.toNat_natCast,List.getD_eq_getElem?_getD,List.getElem?_eq_getElem hi];rfl
 refine ⟨ad,c,codes[i],by rw [hl],hB (by omega) _ rfl,?_,?_,?_,?_⟩
 · have:=k2 0 (by rw [k1];omega)
   rw [this,e];simp
 · have:=k2 1 (by rw [k1];omega)
   rw [this,e];simp
 · have:=k2 2 (by rw [k1];omega)
   rw [this];simp
 · rw [e]
   exact h4 i _ _ (List.getElem?_eq_getElem hi) (List.getElem?_eq_getElem hic)
theorem ins_at {w:World} {cv:Value} {g:Gl} {B:Nat→Prop} (h:RowsAt w cv 3 (g.code.map insRow) B) {i:Nat} (hi:i < g.code.length) :
   ∃ ad c,cv = .slice (some ad) g.code.length c∧B ad.block∧vLN w 3 (.pointer (some (ad.add (i*3))))=some (insV (g.ins i)):=by
 have hB:=h
 obtain ⟨ad,c,rfl,k1,k2⟩:=row_at h (i:=i) (by simpa using hi)
 obtain ⟨_,_,e,hB,_⟩:=hB
 cases e
 have e:g.ins (i:Int)=g.code[i]:=by unfold Gl.ins;rw [Int.toNat_natCast,List.getD_eq_getElem?_getD,List.getElem?_eq_getElem hi];rfl
 refine ⟨ad,c,by simp,hB (by simp;omega) _ rfl,?_⟩
 rw [e]
 refine ln_3 ?_ ?_ ?_
 · rw [k2 0 (by rw [k1];omega)];simp [insRow]
 · rw [k2 1 (by rw [k1];omega)];simp [insRow]
 · rw [k2 2 (by rw [k1];omega)];simp [insRow]
theorem rowsV_at {w:World} {v:Value} {B:Nat→Prop} (h:RowsAt w v 2 rowsV B) {o:Nat} (ho:1≤o∧o≤17):∃ ad c,v = .slice (some ad) 18 c∧B ad.block∧vLN w 2 (.pointer (some (ad.add (o*2))))=some (.agg #[fnv (cellF o),fnv (doF o)]):=by
 have hB:=h
 have hl:o < rowsV.length:=by show o < 18;omega
 obtain ⟨ad,c,rfl,k1,k2⟩:=row_at h hl
 obtain ⟨_,_,e,hB,_⟩:=hB
 cases e
 have e:=rows_op ho
 rw [List.getElem?_eq_getElem hl] at e
 have e:rowsV[o]=[fnv (cellF o),fnv (doF o)]:=by simpa using e
 refine ⟨ad,c,rfl,hB (by omega) _ rfl,ln_2 ?_ ?_⟩
 · rw [k2 0 (by rw [k1];omega)];simp [e]
 · rw [k2 1 (by rw [k1];omega)];simp [e]
section
variable {w:World} {τ:Tag} {m:Nat} {S:SV} {M:Mc} {ks:List Nat} {k:Nat} {x:Ins} {n:Int}
theorem x_run (hT:TopAt w τ m S M ks k) (h:AtIns n M M.insOf) (href:M.st.kd≠.ref) (hf:M.frames.length≤4294967295) (hR:M.roots.length≤17592186044416) :
   CallsR Tryz.prog 45 [ptr m,ptr k] w fun _ w'=>∃ ks',MOp w τ m S M.run ks' w':=by
 have hr:=h.run
 have hn:=h.io.nums
 obtain ⟨g,hg⟩:∃ g:Nat,M.top.glob=g:=⟨M.top.glob.toNat,by have:=hr.gl;omega⟩
 obtain ⟨i,hi⟩:∃ i:Nat,M.top.at'=i:=⟨M.top.at'.toNat,by have:=hr.at';omega⟩
 have hgl:g < M.tab.globals.length:=by have:=hr.gl;omega
 have hil:i < (M.tab.gl g).code.length:=by have:=hr.at';rw [hg,hi] at this;omega
 have hTd:TopAt w.drew τ m S M ks k:=hT.mod ((Mod.refl (fun _=>False) w).drew) (ext_refl _ _).wx (fun _ _ h=>h.elim)
 obtain ⟨vG,vF,vW,vT,fg,ff,fw,ft,F,hh⟩:=hTd.at'
 obtain ⟨vs,vp,fs,fp,hF⟩:=hTd.fr
 have hc:=hh.cells
 have hcf:=hF.cells
 obtain ⟨ad,c,cv,hvgl,B1,_,_,hcv,hrows⟩:=glob_at hh.tab hgl
 obtain ⟨ad2,c2,rfl,B2,hln⟩:=ins_at hrows hil
 have b1:(0:Int)≤g∧(g:Int) < M.tab.globals.length:=by omega
 have b2:(0:Int)≤i∧(i:Int) < (M.tab.gl g).code.length:=by omega
 have hx:(M.tab.gl g).ins i=M.insOf:=by unfold Mc.insOf;rw [hg,hi]
 rw [hx] at hln
 refine fit45.calls rfl ?_
 unfold ir45
 have hcvd:w.cell? ⟨(ad.add (g*3)).block,(ad.add (g*3)).off+2,none⟩=_:=hcv
 have hc':w.heap[m]? = _:=hc
 have hcf':w.heap[k]? = _:=hcf
 (try simp only [go_sem,Nat.reduceAdd,Nat.reduceEqDiff,Nat.reduceLT,Nat.reduceLeDiff,Nat.reduceMul,reduceCtorEq,↓reduceIte,zb4,zb6,cell_of hc',mcCells,hvgl,cell_of hcf',frCells,hg,hi,b1,b2,hcvd,hln,ptr])
 have k0:k < w.drew.heap.size:=lt_of_heap hcf
 have m0:m < w.drew.heap.size:=lt_of_heap hc
 refine e_al ?_
 intro w1 hb1 hm1 _
 refine ⟨⟨hm1.old _ (by rw [add_block];exact B2.1) (fun h=>h),hm1.old _ k0 (fun h=>h),hm1.old _ (by rw [add_block];exact B1.1) (fun h=>h),hm1.old _ k0 (fun h=>h),hm1.old _ m0 (fun h=>h)⟩,?_⟩
 refine e_sta (cs:=[I 0,I 0,I 0]) rfl rfl hb1 rfl rfl (by simp [Value.oneCell']) ?_
 intro w2 hb2 hm2 hs2
 have hm02:Mod (fun _=>False) w.drew w2:=hm1.step hm2 (fun x hx hl=>by subst hx;exact absurd hl (Nat.lt_irrefl _))
 have h2:=hTd.later hm02.drew
 obtain ⟨o,ho⟩:∃ o:Nat,M.insOf.op=o:=⟨M.insOf.op.toNat,by have:=hn.o1;omega⟩
 have ho17:1≤o∧o≤17:=by have:=hn.o1;have:=hn.o2;omega
 obtain ⟨vG2,vF2,vW2,vT2,fg2,ff2,fw2,ft2,F2,hh2⟩:=h2.at'
 have hc2:w2.heap[m]? = _:=hh2.cells
 obtain ⟨ad3,c3,hvR,B3,hln3⟩:=rowsV_at hh2.rows ho17
 have b3:(0:Int)≤o∧(o:Int) < ((18:Nat):Int):=by omega
 have m2:m < w2.heap.size:=lt_of_heap hc2
 rw [ho] at hb2
 have hb2':w2.heap[w.heap.size]? = _:=hb2
 (try simp only [go_sem,Nat.reduceAdd,Nat.reduceEqDiff,Nat.reduceLT,Nat.reduceLeDiff,Nat.reduceMul,reduceCtorEq,↓reduceIte,zb4,zb6,cell_of hc2,mcCells,hvR,cell_of hb2',ho,b3,hln3])
 refine e_al ?_
 intro w3 hb3 hm3 _
 have l2:w.heap.size < w2.heap.size:=lt_of_heap hb2'
 refine ⟨⟨hm3.old _ (by rw [add_block];exact B3.1) (fun h=>h),hm3.old _ l2 (fun h=>h),hm3.old _ m2 (fun h=>h)⟩,?_⟩
 refine e_sta (cs:=[.nilFunc,.nilFunc]) rfl rfl hb3 rfl rfl (by simp [Value.oneCell',fnv]) ?_
 intro w4 hb4 hm4 hs4
 have hm24:Mod (fun _=>False) w2.drew w4:=hm3.step hm4 (fun x hx hl=>by subst hx;exact absurd hl (Nat.lt_irrefl _))
 have hb24:w4.heap[w.heap.size]? = _:=hm24.at (b:=w.heap.size) hb2' (fun h=>h)
 have hb4':w4.heap[w2.heap.size]? = _:=hb4
 (try simp only [go_sem,Nat.reduceAdd,Nat.reduceEqDiff,Nat.reduceLT,Nat.reduceLeDiff,Nat.reduceMul,reduceCtorEq,↓reduceIte,zb4,zb6,cell_of hb4',ln_of (cs:=[_,_,_]) (off:=0) (n:=3) hb24 (by simp)])
 have hm04:Mod (fun _=>False) w.drew w4:=hm02.drew.trans hm24
 have hxv:(Value.agg #[I (o:Int),I M.insOf.a,I M.insOf.b])=insV M.insOf:=by rw [insV,ho]
 refine call_cell ho17 rfl (by rfl) ?_
 show CallsR _ _ [Value.agg #[I (o:Int),I M.insOf.a,I M.insOf.b]] _ _
 rw [hxv]
 refine (f_cells w4 ho ho17).mono ?_
 rintro _ w5 ⟨rfl,hm5⟩
 have hm05:=hm04.trans hm5
 have h5:=hTd.later hm05
 have hb25:=hm5.at hb24 (fun h=>h)
 have hb45:=hm5.at hb4' (fun h=>h)
 have hc0:0≤cellsOf M.insOf∧cellsOf M.insOf≤4294967296:=by
   have h8:=hn.c1
   obtain ⟨s1,s2,_⟩:=h.st
   unfold cellsOf
   split
   · omega
   split
   · rename_i e8
     refine ⟨h8 (.inr (.inr (.inr e8))),?_⟩
     simp [stackedS,e8] at s1
     omega
   · omega
 have hRn:M.roots≠[]:=fun e=>by
   have:=stands_root (M:=M) h.pos
   rw [e] at this;cases this
 have nos:∀ b,w.heap.size≤b→newTag τ w.drew .no b = .no:=fun b hb=>newTag_new hb
 have nown:∀ b,w.heap.size≤b→¬ (newTag τ w.drew .no b).own:=fun b hb hh=>by rw [nos b hb] at hh;exact hh.1 rfl
 have l4:w.heap.size≤w2.heap.size:=by omega
 (try simp only [go_sem,Nat.reduceAdd,Nat.reduceEqDiff,Nat.reduceLT,Nat.reduceLeDiff,Nat.reduceMul,reduceCtorEq,↓reduceIte])
 refine wpS_cut (fun ρ w'=>∃ t:Bool,ρ.get 0=some (ptr m)∧ρ.get 1=some (ptr k)∧ρ.get 4=some (ptr w.heap.size)∧ρ.get 5=some (ptr w2.heap.size)∧ρ.get 44=some (.bool t) ∧
   (t=true→MOp w5 (newTag τ w.drew .no) m S M.run ks w') ∧
   (t=false→∃ M0,MOp w5 (newTag τ w.drew .no) m S M0 ks w'∧AtIns n M0 M.insOf∧(0 < cellsOf M.insOf→(M0.st.ns.length:Int)+cellsOf M.insOf≤M0.st.size)∧M.run=M0.next.exec M.insOf∧M0.st.kd≠.ref∧M0.frames.length=M.frames.length)) ?_ ?_
 · by_cases hpos:cellsOf M.insOf > 0
   · (try simp only [go_sem,Nat.reduceAdd,Nat.reduceEqDiff,Nat.reduceLT,Nat.reduceLeDiff,Nat.reduceMul,reduceCtorEq,↓reduceIte,decide_eq_true hpos])
     refine e_call (by rfl) ?_
     refine (m_room h5.at' h.ok.g.st href ⟨by omega,hc0.2⟩ h.ok.base h.ok.young hR hRn).mono ?_
     rintro _ w6 ⟨rfl,hop⟩
     cases hrm:(M.room (cellsOf M.insOf)).1 with
     | false=>
       (try simp only [go_sem,Nat.reduceAdd,Nat.reduceEqDiff,Nat.reduceLT,Nat.reduceLeDiff,Nat.reduceMul,reduceCtorEq,↓reduceIte])
       refine ⟨true,rfl,fun _=>?_,(fun h=>by cases h)⟩
       have e:M.run=(M.room (cellsOf M.insOf)).2:=by unfold Mc.run;rw [if_pos ⟨hpos,hrm⟩]
       rw [e];exact hop
     | true=>
       (try simp only [go_sem,Nat.reduceAdd,Nat.reduceEqDiff,Nat.reduceLT,Nat.reduceLeDiff,Nat.reduceMul,reduceCtorEq,↓reduceIte])
       refine ⟨false,rfl,(fun h=>by cases h),fun _=>⟨(M.room (cellsOf M.insOf)).2,hop,?_,?_,?_,room_kd M href _,?_⟩⟩
       · obtain ⟨k1,k2⟩:=h.ok.room hc0.1 hrm
         obtain ⟨e1,e2,e3,e5,e6,_,g,e4⟩:=room_keeps M (cellsOf M.insOf) hrm
         have e4:=e4 h.pos
         refine ⟨k1,by rw [e1];exact h.pos,by rw [e3];exact h.going,by rw [e4];exact h.runs,?_⟩
         show _=((M.room (cellsOf M.insOf)).2.tab.gl (M.room (cellsOf M.insOf)).2.top.glob).ins (M.room (cellsOf M.insOf)).2.top.at'
         rw [e4,e5];rfl
       · exact fun _=>(h.ok.room hc0.1 hrm).2
       · unfold Mc.run;rw [if_neg (by rw [hrm];simp),if_pos hpos]
       · exact (room_keeps M (cellsOf M.insOf) hrm).1
   · have hz:decide (cellsOf M.insOf > 0)=false:=decide_eq_false hpos
     (try simp only [go_sem,Nat.reduceAdd,Nat.reduceEqDiff,Nat.reduceLT,Nat.reduceLeDiff,Nat.reduceMul,reduceCtorEq,↓reduceIte,hz])
     refine ⟨false,rfl,(fun h=>by cases h),fun _=>⟨M,⟨_,ext_refl _ _,h5.at',Mod.refl _ _⟩,h,fun h=>absurd h hpos,?_,href,rfl⟩⟩
     unfold Mc.run;rw [if_neg (fun h=>hpos h.1),if_neg hpos]
 rintro ρ w6 ⟨t,r0,r1,r4,r5,r44,ht,hf'⟩
 have hm05':Mod (fun _=>False) w w5:=Mod.of_drew hm05
 cases t with
 | true=>
   (try simp only [go_sem,Nat.reduceAdd,Nat.reduceEqDiff,Nat.reduceLT,Nat.reduceLeDiff,Nat.reduceMul,reduceCtorEq,↓reduceIte,r0,r1,r4,r5,r44])
   exact ⟨ks,MOp.boxed hm05' (ht rfl)⟩
 | false=>
   obtain ⟨M0,hop,hA,hroom,hrun,hkd,hfl⟩:=hf' rfl
   obtain ⟨τ6,j1,j2,h6⟩:=hop.top hfl h.pos hT.hk
   have hb26:=j2.at hb25 (nown _ (Nat.le_refl _))
   have hb46:=j2.at hb45 (nown _ l4)
   obtain ⟨vs6,vp6,fs6,fp6,hF6⟩:=h6.fr
   have hcf6:=hF6.cells
   have hat:IntKind.i64.wrap (M0.top.at'+1)=M0.top.at'+1:=by
     have h1:=hA.run.at'
     have h2:=(hA.ok.tab.gls _ (gl_mem hA.run.gl)).2.2.2
     exact wrap_in (by omega) (by omega)
   (try simp only [go_sem,Nat.reduceAdd,Nat.reduceEqDiff,Nat.reduceLT,Nat.reduceLeDiff,Nat.reduceMul,reduceCtorEq,↓reduceIte,r0,r1,r4,r5,r44,cell_of hcf6,frCells,hat,ptr])
   refine e_st1 (off:=2) rfl rfl hcf6 rfl (by simp [frCells]) ?_
   intro w7 hb7 hm7 hs7
   have hop7:=h6.frm (f':={ M0.top with at':=M0.top.at'+1}) (fr_cells hF6 rfl rfl (by simpa [frCells] using hb7) hm7)
   obtain ⟨τ7,q1,q2,h7⟩:=hop7.top (setTop_top hA.pos _).2 hA.pos h6.hk
   have k26:w.heap.size≠k:=fun e=>by have:=hF.lt.1;have e2:w.drew.heap.size=k:=e;omega
   have k46:w2.heap.size≠k:=fun e=>by
     have:=hF.lt.1;have:=hm02.size;have e2:w.drew.heap.size=w.heap.size:=rfl;omega
   have hb27:=hm7.at hb26 (fun e=>k26 e)
   have hb47:=hm7.at hb46 (fun e=>k46 e)
   (try simp only [go_sem,Nat.reduceAdd,Nat.reduceEqDiff,Nat.reduceLT,Nat.reduceLeDiff,Nat.reduceMul,reduceCtorEq,↓reduceIte,zb4,zb6,cell_of hb47,ln_of (cs:=[_,_,_]) (off:=0) (n:=3) hb27 (by simp)])
   refine call_do ho17 rfl (by rfl) ?_
   show CallsR _ _ [ptr m,ptr k,Value.agg #[I (o:Int),I M.insOf.a,I M.insOf.b]] _ _
   rw [hxv]
   refine (x_exec h7 hA hkd hroom (by omega) ho).mono ?_
   rintro _ w8 ⟨ks',hop8⟩
   (try simp only [go_sem,Nat.reduceAdd,Nat.reduceEqDiff,Nat.reduceLT,Nat.reduceLeDiff,Nat.reduceMul,reduceCtorEq,↓reduceIte])
   rw [hrun]
   exact ⟨ks',MOp.boxed hm05' (MOp.cat j1 j2 (MOp.cat q1 q2 hop8))⟩
end
end
section
open Go Go.W
def formS (op:Int):Option (Int×Int):=
 if op=1 then some (1,0) else if op=2 then some (4,0) else if op=3 then some (3,0) else if op=4 then some (1,0) else if op=5 then some (1,0) else if op=6 then some (0,0)
 else if op=7 then some (2,0) else if op=8 then some (1,0) else if op=9 then some (5,0) else if op=10 then some (5,0) else if op=11 then some (0,0) else if op=12 then some (6,0)
 else if op=13 then some (8,0) else if op=14 then some (5,8) else if op=15 then some (3,8) else if op=16 then some (7,0) else if op=17 then some (0,0) else none
def kindB (T:Tab) (n k:Int):Bool:=
 if k=0 then decide (n=0) else if k=1 then decide (n≥0) else if k=2 then decide (n≥1) else if k=3 then decide (n ≥ -4611686018427387904∧n≤4611686018427387903) else if k=4 then decide (n≥0∧n < T.globals.length)
 else if k=5 then decide (n≥0∧n < T.shapes.length) else if k=6 then decide (n≥1∧n≤11) else decide (n≥1∧n≤4)
def numberS (T:Tab) (len at':Nat) (n kind:Int):Int:=if kind=8 then (if n≤at'∨n≥len then 174 else 0) else if kindB T n kind=true then 0 else 172
def numErr (T:Tab) (len i:Nat) (x:Ins):Int:=
 match formS x.op with
 | none=>172
 | some (a,b)=>if numberS T len i x.a a=172∨numberS T len i x.b b=172 then 172 else if numberS T len i x.a a≠0∨numberS T len i x.b b≠0 then 174 else 0
def numLoop (T:Tab) (len:Nat):Nat→List Ins→Int
 | _,[]=>0
 | i,x::l=>if numErr T len i x=0 then numLoop T len (i+1) l else numErr T len i x
instance (x:Ins):Decidable (goesOn x):=inferInstanceAs (Decidable (_∧_))
def depthErr (T:Tab) (len i:Nat) (x:Ins) (D:List Int):Int:=
 if D.getD i 0=0 then 174
 else if ¬ ((stackedS T x (D.getD i 0)).1=true∧(stackedS T x (D.getD i 0)).2≤8000) then 173
 else if goesOn x∧i+1=len then 174
 else if goesOn x∧(noteS D ((i:Int)+1) (stackedS T x (D.getD i 0)).2).getD (i+1) 0≠(stackedS T x (D.getD i 0)).2 then 173
 else if targetS x > 0∧(depthStep T D i x).getD (targetS x).toNat 0≠(stackedS T x (D.getD i 0)).2 then 173
 else 0
def depthLoop (T:Tab) (len:Nat):Nat→List Ins→List Int→Int
 | _,[],_=>0
 | i,x::l,D=>if depthErr T len i x D=0 then depthLoop T len (i+1) l (depthStep T D i x) else depthErr T len i x D
def startD (g:Gl):List Int:=(List.replicate g.code.length 0).set 0 (g.arity+1)
def checkCodeS (T:Tab) (g:Gl):Int:=
 if numLoop T g.code.length 0 g.code≠0 then numLoop T g.code.length 0 g.code
 else if g.code.length=0 then 174
 else depthLoop T g.code.length 0 g.code (startD g)
def codesS (T:Tab):List Gl→Int
 | []=>0
 | g::l=>if checkCodeS T g=0 then codesS T l else checkCodeS T g
def isNameS (b:ByteArray):Bool:=b.data.toList.all (fun c=>decide (32≤c.toNat)&&decide (c.toNat≤126))&&decide (1≤b.data.toList.length)&&decide (b.data.toList.length≤4096)
def namesS (hi:Int):List ByteArray→List (ByteArray×Int)→Bool
 | _,[]=>true
 | seen,(s,n)::l=>isNameS s&&seen.all (fun t=>decide (t≠s))&&decide (0≤n)&&decide (n≤hi)&&namesS hi (s::seen) l
def givenS:List Shp:=[⟨⟨#[70,97,108,115,101]⟩,0⟩,⟨⟨#[84,114,117,101]⟩,0⟩,⟨⟨#[85,110,105,116]⟩,0⟩,⟨⟨#[78,105,108]⟩,0⟩,⟨⟨#[67,111,110,115]⟩,2⟩,⟨⟨#[80,97,105,114]⟩,2⟩,⟨⟨#[84,114,105,112,108,101]⟩,2+1⟩]
def greatS (T:Tab):Bool:=T.globals.any (fun g=>decide (g.code.length > 8000))||decide (T.shapes.length > 2000)||decide (T.globals.length > 2000)||decide ((T.globals.map (·.code.length)).sum > 200000)
def shPairs (T:Tab):List (ByteArray×Int):=T.shapes.map fun s=>(s.name,s.fields)
def glPairs (T:Tab):List (ByteArray×Int):=T.globals.map fun g=>(g.name,g.arity)
def checkS (T:Tab):Int:=
 if greatS T=true then 4
 else if namesS 8 [] (shPairs T)=false then 172
 else if ¬ (T.shapes.take 7=givenS) then 172
 else if namesS 24 [] (glPairs T)=false then 172
 else codesS T T.globals
theorem numLoop_ok {T:Tab} {len:Nat}:∀ (l:List Ins) (i:Nat),numLoop T len i l=0→∀ (j:Nat) (x:Ins),l[j]? = some x→numErr T len (i+j) x=0:=by
 intro l
 induction l with
 | nil=>intro i _ j x h;simp at h
 | cons y l ih=>
   intro i h j x hx
   unfold numLoop at h
   split at h
   · rename_i hy
     cases j with
     | zero=>simp at hx;subst hx;simpa using hy
     | succ j=>
       have:=ih (i+1) h j x (by simpa using hx)
       rw [show i+(j+1)=i+1+j by omega];exact this
   · rename_i hy;exact absurd h hy
theorem numErr_ok {T:Tab} {len i:Nat} {x:Ins} (h:numErr T len i x=0):NumsOk T len i x:=by
 unfold numErr at h
 have e8:∀ n:Int,numberS T len i n 8=0→(i:Int) < n∧n < len:=by
   intro n hn
   unfold numberS at hn
   rw [if_pos rfl] at hn
   split at hn
   · cases hn
   · omega
 have er:∀ n k:Int,k≠8→numberS T len i n k≠172→kindB T n k=true:=by
   intro n k hk hn
   unfold numberS at hn
   rw [if_neg hk] at hn
   cases hb:kindB T n k with
   | true=>rfl
   | false=>rw [hb] at hn;simp at hn
 have hop:x.op=1∨x.op=2∨x.op=3∨x.op=4∨x.op=5∨x.op=6∨x.op=7∨x.op=8∨x.op=9∨x.op=10∨x.op=11∨x.op=12∨x.op=13∨x.op=14∨x.op=15∨x.op=16∨x.op=17∨formS x.op=none:=by
   by_cases h1:1≤x.op∧x.op≤17
   · omega
   · right;right;right;right;right;right;right;right;right;right;right;right;right;right;right;right;right
     unfold formS
     repeat' (rw [if_neg (by omega)])
 rcases hop with e | e | e | e | e | e | e | e | e | e | e | e | e | e | e | e | e | e
 case inr.inr.inr.inr.inr.inr.inr.inr.inr.inr.inr.inr.inr.inr.inr.inr.inr=>rw [e] at h;simp at h
 all_goals
   simp only [formS,e] at h
   simp at h
   split at h
   · cases h
   · rename_i h1
     split at h
     · cases h
     · rename_i h2
       simp only [not_or,Classical.not_not] at h1 h2
       have a2:=e8 x.a
       have b2:=e8 x.b
       have a1:=er x.a
       clear er e8
       first
         | (have:=a1 _ (by decide) h1.1;have:=b2 h2.2;simp [kindB] at *;constructor<;>(try unfold isNum)<;>omega)
         | (have:=a1 _ (by decide) h1.1;simp [kindB] at this;constructor<;>(try unfold isNum)<;>omega)
         | (have:=a2 h2.1;constructor<;>(try unfold isNum)<;>omega)
         | (constructor<;>(try unfold isNum)<;>omega)
theorem stacked_pos {T:Tab} {x:Ins} {d:Int} (hT:∀ s∈T.shapes,0≤s.fields) {len i:Nat} (hn:NumsOk T len i x) (hd:1≤d) (h:(stackedS T x d).1=true):1≤(stackedS T x d).2:=by
 have o1:=hn.o1
 have o2:=hn.o2
 have c1:=hn.c1
 have c7:=hn.c7
 have hf:(x.op=9∨x.op=10)→0≤(T.sh x.a).fields:=by
   intro ho
   have hc:=hn.c9 (by omega)
   refine hT _ ?_
   unfold Tab.sh
   rw [List.getD_eq_getElem?_getD,List.getElem?_eq_getElem (by omega:x.a.toNat < T.shapes.length)]
   exact List.getElem_mem _
 have hop:x.op=1∨x.op=2∨x.op=3∨x.op=4∨x.op=5∨x.op=6∨x.op=7∨x.op=8∨x.op=9∨x.op=10∨x.op=11∨x.op=12∨x.op=13∨x.op=14∨x.op=15∨x.op=16∨x.op=17:=by omega
 rcases hop with e | e | e | e | e | e | e | e | e | e | e | e | e | e | e | e | e
 all_goals (simp [stackedS,e] at h ⊢;try omega)
theorem getD_set' (l:List Int) (i j:Nat) (v:Int):(l.set i v).getD j 0=if i=j∧i < l.length then v else l.getD j 0:=by
 rw [List.getD_eq_getElem?_getD,List.getD_eq_getElem?_getD,List.getElem?_set]
 by_cases h:i=j
 · subst h
   by_cases h2:i < l.length
   · simp [h2]
   · simp [h2]
 · simp [h]
theorem note_len (D:List Int) (a d:Int):(noteS D a d).length=D.length:=by unfold noteS;split<;>simp
theorem note_keeps (D:List Int) (a d:Int) {k:Nat} (h:D.getD k 0≠0):(noteS D a d).getD k 0=D.getD k 0:=by
 unfold noteS
 split
 · rename_i h0
   rw [getD_set']
   split
   · rename_i hk;rw [hk.1] at h0;exact absurd h0 h
   · rfl
 · rfl
theorem note_pos (D:List Int) (a:Int) {d:Int} (hd:0≤d) (h:∀ k,0≤D.getD k 0):∀ k,0≤(noteS D a d).getD k 0:=by
 intro k
 unfold noteS
 split
 · rw [getD_set']
   split
   · exact hd
   · exact h k
 · exact h k
theorem step_len (T:Tab) (D:List Int) (i:Nat) (x:Ins):(depthStep T D i x).length=D.length:=by
 simp only [depthStep];split<;>split<;>simp [note_len]
theorem step_keeps (T:Tab) (D:List Int) (i:Nat) (x:Ins) {k:Nat} (h:D.getD k 0≠0):(depthStep T D i x).getD k 0=D.getD k 0:=by
 simp only [depthStep]
 split<;>split
 · rw [note_keeps _ _ _ (by rw [note_keeps _ _ _ h];exact h),note_keeps _ _ _ h]
 · rw [note_keeps _ _ _ h]
 · rw [note_keeps _ _ _ h]
 · rfl
theorem from_keeps (T:Tab):∀ (l:List Ins) (i:Nat) (D:List Int) {k:Nat},D.getD k 0≠0→(depthsFrom T i l D).getD k 0=D.getD k 0:=by
 intro l
 induction l with
 | nil=>intro i D k _;rfl
 | cons x l ih=>
   intro i D k h
   unfold depthsFrom
   have:=step_keeps T D i x h
   rw [ih (i+1) _ (by rw [this];exact h),this]
theorem depthErr_ok {T:Tab} {len i:Nat} {x:Ins} {D:List Int} (h:depthErr T len i x D=0):D.getD i 0≠0∧(stackedS T x (D.getD i 0)).1=true∧(stackedS T x (D.getD i 0)).2≤8000∧(goesOn x→i+1≠len∧(noteS D ((i:Int)+1) (stackedS T x (D.getD i 0)).2).getD (i+1) 0=(stackedS T x (D.getD i 0)).2) ∧
   (targetS x > 0→(depthStep T D i x).getD (targetS x).toNat 0=(stackedS T x (D.getD i 0)).2):=by
 unfold depthErr at h
 split at h
 · cases h
 rename_i h1
 split at h
 · cases h
 rename_i h2
 split at h
 · cases h
 rename_i h3
 split at h
 · cases h
 rename_i h4
 split at h
 · cases h
 rename_i h5
 have h2:=Classical.not_not.1 h2
 refine ⟨h1,h2.1,h2.2,fun hg=>⟨fun e=>h3 ⟨hg,e⟩,Classical.byContradiction fun e=>h4 ⟨hg,e⟩⟩,fun ht=>Classical.byContradiction fun e=>h5 ⟨ht,e⟩⟩
theorem depthLoop_ok {T:Tab} (hT:∀ s∈T.shapes,0≤s.fields) {len:Nat}:∀ (l:List Ins) (i:Nat) (D:List Int),depthLoop T len i l D=0→len=i+l.length→D.length=len→(∀ k,0≤D.getD k 0)→(∀ (j:Nat) (x:Ins),l[j]? = some x→NumsOk T len (i+j) x) →
   ∀ (j:Nat) (x:Ins),l[j]? = some x→(depthsFrom T i l D).getD (i+j) 0≠0∧(stackedS T x ((depthsFrom T i l D).getD (i+j) 0)).1=true∧(stackedS T x ((depthsFrom T i l D).getD (i+j) 0)).2≤8000 ∧
     (goesOn x→i+j+1 < len∧(depthsFrom T i l D).getD (i+j+1) 0=(stackedS T x ((depthsFrom T i l D).getD (i+j) 0)).2)∧(targetS x > 0→(depthsFrom T i l D).getD (targetS x).toNat 0=(stackedS T x ((depthsFrom T i l D).getD (i+j) 0)).2):=by
 intro l
 induction l with
 | nil=>intro i D _ _ _ _ _ j x h;simp at h
 | cons y l ih=>
   intro i D h hlen hD hpos hnum j x hx
   unfold depthLoop at h
   split at h
   · rename_i hy
     obtain ⟨e1,e2,e3,e4,e5⟩:=depthErr_ok hy
     have ny:=hnum 0 y rfl
     rw [Nat.add_zero] at ny
     have d1:1≤D.getD i 0:=by have:=hpos i;omega
     have b1:=stacked_pos hT ny d1 e2
     have hpos':∀ k,0≤(depthStep T D i y).getD k 0:=by
       simp only [depthStep]
       split<;>split
       · exact note_pos _ _ (by omega) (note_pos _ _ (by omega) hpos)
       · exact note_pos _ _ (by omega) hpos
       · exact note_pos _ _ (by omega) hpos
       · exact hpos
     cases j with
     | zero=>
       simp only [List.getElem?_cons_zero,Option.some.injEq] at hx
       subst hx
       rw [Nat.add_zero]
       have k1:(depthsFrom T i (y::l) D).getD i 0=D.getD i 0:=from_keeps T (y::l) i D e1
       rw [k1]
       refine ⟨e1,e2,e3,fun hg=>?_,fun ht=>?_⟩
       · obtain ⟨g1,g2⟩:=e4 hg
         refine ⟨by simp only [List.length_cons] at hlen;omega,?_⟩
         have g3:(depthStep T D i y).getD (i+1) 0=(stackedS T y (D.getD i 0)).2:=by
           simp only [depthStep]
           have hg':y.op≠13∧y.op≠16∧y.op≠17:=hg
           rw [if_pos hg']
           split
           · rw [note_keeps _ _ _ (by rw [g2];omega),g2]
           · exact g2
         show (depthsFrom T (i+1) l (depthStep T D i y)).getD (i+1) 0=_
         rw [from_keeps T l (i+1) _ (by rw [g3];omega),g3]
       · have g3:=e5 ht
         show (depthsFrom T (i+1) l (depthStep T D i y)).getD _ 0=_
         rw [from_keeps T l (i+1) _ (by rw [g3];omega),g3]
     | succ j=>
       have:=ih (i+1) (depthStep T D i y) h (by simp only [List.length_cons] at hlen;omega) (by rw [step_len];exact hD) hpos' (fun k z hz=>by
         have:=hnum (k+1) z (by simpa using hz)
         rw [show i+(k+1)=i+1+k by omega] at this;exact this) j x (by simpa using hx)
       rw [show i+1+j=i+(j+1) by omega] at this
       exact this
   · rename_i hy;exact absurd h hy
theorem checkCode_ok {T:Tab} (hT:∀ s∈T.shapes,0≤s.fields) {g:Gl} (ha:0≤g.arity) (h:checkCodeS T g=0):CodeOk T g (depthsS T g):=by
 unfold checkCodeS at h
 split at h
 · rename_i h1;exact absurd h h1
 rename_i h1
 split at h
 · cases h
 rename_i h2
 have h1:numLoop T g.code.length 0 g.code=0:=Classical.not_not.1 h1
 have hn:∀ (j:Nat) (x:Ins),g.code[j]? = some x→NumsOk T g.code.length (0+j) x:=fun j x hx=>numErr_ok (numLoop_ok _ 0 h1 j x hx)
 have hs:∀ k,(startD g).getD k 0=if k=0 then g.arity+1 else 0:=by
   intro k
   unfold startD
   rw [getD_set']
   by_cases hk:k=0
   · subst hk;rw [if_pos ⟨rfl,by simp;omega⟩,if_pos rfl]
   · rw [if_neg (fun hh=>hk hh.1.symm),if_neg hk,List.getD_eq_getElem?_getD,List.getElem?_replicate]
     split<;>rfl
 have key:=depthLoop_ok hT g.code 0 (startD g) h (by simp) (by simp [startD]) (fun k=>by rw [hs];split<;>omega) hn
 have e:depthsS T g=depthsFrom T 0 g.code (startD g):=rfl
 rw [← e] at key
 refine ⟨by omega,?_,fun i x hx=>?_⟩
 · rw [e,from_keeps T _ _ _ (by rw [hs,if_pos rfl];omega),hs,if_pos rfl]
 · obtain ⟨k1,k2,k3,k4,k5⟩:=key i x hx
   have n:=hn i x hx
   rw [Nat.zero_add] at k1 k2 k3 k4 k5 n
   refine ⟨n,k1,k2,k3,k4,fun ho=>?_,fun ho=>?_⟩
   · have t:targetS x=x.a:=by simp [targetS,ho]
     rw [t] at k5
     have:=n.c13 ho
     exact k5 (by omega)
   · have t:targetS x=x.b:=by
       unfold targetS
       rw [if_neg (by omega),if_pos ho]
     rw [t] at k5
     have:=n.c14 ho
     exact k5 (by omega)
theorem codesS_ok {T:Tab}:∀ (l:List Gl),codesS T l=0→∀ g∈l,checkCodeS T g=0:=by
 intro l
 induction l with
 | nil=>intro _ g h;cases h
 | cons x l ih=>
   intro h g hg
   unfold codesS at h
   split at h
   · rename_i hx
     rcases List.mem_cons.1 hg with rfl | hg
     · exact hx
     · exact ih h g hg
   · rename_i hx;exact absurd h hx
theorem namesS_ok {hi:Int}:∀ (l:List (ByteArray×Int)) (seen:List ByteArray),namesS hi seen l=true→(∀ p∈l,isNameS p.1=true∧p.1∉seen∧0≤p.2∧p.2≤hi)∧(l.map (·.1)).Nodup:=by
 intro l
 induction l with
 | nil=>intro seen _;exact ⟨fun p h=>(by cases h),by simp⟩
 | cons x l ih=>
   intro seen h
   obtain ⟨s,n⟩:=x
   simp only [namesS,Bool.and_eq_true,decide_eq_true_eq] at h
   obtain ⟨⟨⟨⟨a1,a2⟩,a3⟩,a4⟩,a5⟩:=h
   have a2:s∉seen:=fun hm=>by
     have:=List.all_eq_true.1 a2 s hm
     simp at this
   obtain ⟨b1,b2⟩:=ih _ a5
   refine ⟨fun p hp=>?_,?_⟩
   · rcases List.mem_cons.1 hp with rfl | hp
     · exact ⟨a1,a2,a3,a4⟩
     · obtain ⟨c1,c2,c3⟩:=b1 p hp
       exact ⟨c1,fun hh=>c2 (List.mem_cons_of_mem _ hh),c3⟩
   · rw [List.map_cons,List.nodup_cons]
     refine ⟨fun hm=>?_,b2⟩
     obtain ⟨p,hp,hps⟩:=List.mem_map.1 hm
     have:=(b1 p hp).2.1
     rw [hps] at this
     exact this List.mem_cons_self
theorem check_ok {T:Tab} (h:checkS T=0):TabOk T∧(T.globals.map (·.name)).Nodup∧(∀ g∈T.globals,g.name.data.toList.length≤4096)∧∀ s∈T.shapes,s.name.data.toList.length≤4096:=by
 unfold checkS at h
 split at h
 · cases h
 rename_i h1
 split at h
 · cases h
 rename_i h2
 split at h
 · cases h
 rename_i h3
 split at h
 · cases h
 rename_i h4
 have h3:=Classical.not_not.1 h3
 have h2:namesS 8 [] (shPairs T)=true:=by simpa using h2
 have h4:namesS 24 [] (glPairs T)=true:=by simpa using h4
 obtain ⟨s1,s2⟩:=namesS_ok _ _ h2
 obtain ⟨g1,g2⟩:=namesS_ok _ _ h4
 simp only [greatS,Bool.or_eq_true,decide_eq_true_eq,List.any_eq_true,not_or,not_exists,not_and,Nat.not_lt] at h1
 obtain ⟨⟨⟨c1,c2⟩,c3⟩,c4⟩:=h1
 have sh:∀ s∈T.shapes,isNameS s.name=true∧0≤s.fields∧s.fields≤8:=fun s hs=>by
   have:=s1 (s.name,s.fields) (List.mem_map.2 ⟨s,hs,rfl⟩)
   exact ⟨this.1,this.2.2⟩
 have gl:∀ g∈T.globals,isNameS g.name=true∧0≤g.arity∧g.arity≤24:=fun g hg=>by
   have:=g1 (g.name,g.arity) (List.mem_map.2 ⟨g,hg,rfl⟩)
   exact ⟨this.1,this.2.2⟩
 have nm:∀ b:ByteArray,isNameS b=true→b.data.toList.length≤4096:=fun b hb=>by
   simp only [isNameS,Bool.and_eq_true,decide_eq_true_eq] at hb
   exact hb.2
 have at7:∀ i:Nat,i < 7→T.sh (i:Int)=givenS.getD i ⟨⟨#[]⟩,0⟩∧i < T.shapes.length:=by
   intro i hi
   have hl:(T.shapes.take 7).length=7:=by rw [h3];rfl
   rw [List.length_take] at hl
   have hil:i < T.shapes.length:=by omega
   refine ⟨?_,hil⟩
   rw [← h3]
   unfold Tab.sh
   rw [Int.toNat_natCast,List.getD_eq_getElem?_getD,List.getD_eq_getElem?_getD,List.getElem?_take,if_pos hi]
 refine ⟨⟨fun g hg=>⟨checkCode_ok (fun s hs=>(sh s hs).2.1) (gl g hg).2.1 (codesS_ok _ h g hg),(gl g hg).2.1,(gl g hg).2.2,?_⟩,fun s hs=>(sh s hs).2,c3,⟨?_,c2⟩,?_,?_,?_,?_⟩,?_,fun g hg=>nm _ (gl g hg).1,fun s hs=>nm _ (sh s hs).1⟩
 · have:=c1 g hg;omega
 · have:=(at7 6 (by omega)).2;omega
 · have:=(at7 3 (by omega)).1
   have e:T.sh 3=T.sh ((3:Nat):Int):=rfl
   rw [e,this];rfl
 · have:=(at7 4 (by omega)).1
   have e:T.sh 4=T.sh ((4:Nat):Int):=rfl
   rw [e,this];rfl
 · have:=(at7 0 (by omega)).1
   have e:T.sh 0=T.sh ((0:Nat):Int):=rfl
   rw [e,this];rfl
 · have:=(at7 1 (by omega)).1
   have e:T.sh 1=T.sh ((1:Nat):Int):=rfl
   rw [e,this];rfl
 · have:T.globals.map (·.name)=(glPairs T).map (·.1):=by simp [glPairs]
   rw [this];exact g2
end
end Go.Proofs.YtcllploggibicaaGreat
namespace Go.W
section
open Go Go.ChangeMaps Go.RowKit
theorem ba_beq (a b:ByteArray):(a == b)=decide (a=b):=by
 cases a;cases b
 rename_i x y
 show (x == y)=_
 by_cases h:x=y
 · subst h;simp
 · simp [h]
def MapS (w:World) (b:Nat) (l:List (ByteArray×Int)):Prop:=
 ∃ es clock,w.heap[b]? = some (.map es clock)∧es.toList.map (fun e=>(e.key,e.val))=l.map (fun p=>(.string p.1,I p.2))∧(∀ e∈es.toList,e.born < clock)∧(es.toList.map (·.born)).Nodup
theorem maps_mod {w w':World} {b:Nat} {l:List (ByteArray×Int)} {S:Nat→Prop} (h:MapS w b l) (hm:Mod S w w') (hb:¬ S b):MapS w' b l:=by
 obtain ⟨es,c,h1,h2⟩:=h
 exact ⟨es,c,hm.at h1 hb,h2⟩
def sget (l:List (ByteArray×Int)) (k:ByteArray):Option Int:=(l.find? (fun p=>decide (p.1=k))).map (·.2)
def sput (l:List (ByteArray×Int)) (k:ByteArray) (v:Int):List (ByteArray×Int):=match l.findIdx? (fun p=>decide (p.1=k)) with
 | some i=>l.set i (k,v)
 | none=>l++[(k,v)]
theorem findNow_str (k:ByteArray):∀ (es:List MapEntry) (l:List (ByteArray×Int)) (i:Nat),es.map (fun e=>(e.key,e.val))=l.map (fun p=>(.string p.1,I p.2)) →
   Instr.findNow .string (.string k) es i=some ((l.findIdx? (fun p=>decide (p.1=k))).map fun j=>(i+j,I (l.getD j (⟨#[]⟩,0)).2)):=by
 intro es
 induction es with
 | nil=>
   intro l i h
   cases l with
   | nil=>rfl
   | cons p l=>simp at h
 | cons e es ih=>
   intro l i h
   cases l with
   | nil=>simp at h
   | cons p l=>
     simp only [List.map_cons,List.cons.injEq,Prod.mk.injEq] at h
     obtain ⟨⟨h1,h2⟩,h3⟩:=h
     have e1:Instr.sameNow .string (.string k) e.key=some (k == p.1):=by rw [h1];simp [Instr.sameNow,I]
     by_cases hk:p.1=k
     · have e2:(k == p.1)=true:=by simp [ba_beq,hk]
       have e3:decide (p.1=k)=true:=by simp [hk]
       rw [e2] at e1
       simp [Instr.findNow,e1,List.findIdx?_cons,e3,h2]
     · have e2:(k == p.1)=false:=by simp [ba_beq];exact fun h=>hk h.symm
       have e3:decide (p.1=k)=false:=by simp [hk]
       rw [e2] at e1
       simp only [Instr.findNow,e1,ih l (i+1) h3,List.findIdx?_cons,e3]
       cases l.findIdx? (fun p=>decide (p.1=k)) with
       | none=>rfl
       | some j=>simp [Nat.add_assoc,Nat.add_comm 1 j]
theorem findKey_str {P:Program} {w:World} {kt:TypeId} (hk:P.underlying kt=some .string) (k:ByteArray) (es:List MapEntry) (l:List (ByteArray×Int)) (h:es.map (fun e=>(e.key,e.val))=l.map (fun p=>(.string p.1,I p.2))) :
   (Instr.findKey kt (.string k) es).run P w = .ok ((l.findIdx? (fun p=>decide (p.1=k))).map fun j=>(j,I (l.getD j (⟨#[]⟩,0)).2)) w:=by
 have:=findNow_str k es l 0 h
 simp only [Nat.zero_add] at this
 simp only [Instr.findKey,Sem.run_bind,run_underlying hk,Result.andThen,this]
 rfl
theorem checkKey_str' {P:Program} {w:World} {kt:TypeId} (hk:P.underlying kt=some .string) (k:ByteArray) (b:Bool) (n:Nat):(Instr.checkKey b (n+1) kt (.string k)).run P w = .ok () w:=by
 unfold Instr.checkKey
 rw [Sem.run_bind,run_underlying hk]
 rfl
theorem checkKey_str {P:Program} {w:World} {kt:TypeId} (hk:P.underlying kt=some .string) (k:ByteArray) (b:Bool):(Instr.checkKey b 10000 kt (.string k)).run P w = .ok () w:=checkKey_str' hk k b 9999
theorem sget_idx (l:List (ByteArray×Int)) (k:ByteArray):sget l k=(l.findIdx? (fun p=>decide (p.1=k))).map fun j=>(l.getD j (⟨#[]⟩,0)).2:=by
 induction l with
 | nil=>rfl
 | cons p l ih=>
   unfold sget at ih ⊢
   by_cases hk:p.1=k
   · have e3:decide (p.1=k)=true:=by simp [hk]
     simp [List.find?_cons,List.findIdx?_cons,e3]
   · have e3:decide (p.1=k)=false:=by simp [hk]
     simp only [List.find?_cons,List.findIdx?_cons,e3,ih]
     cases l.findIdx? (fun p=>decide (p.1=k))<;>rfl
section
variable {P:Program} {ρ:Env} {w:World} {K:Value→World→Prop} {d:Option Nat} {ty:TypeId} {pos:String} {af:Array Edge}
theorem e_mmS {t:TypeId} (hk:∀ w',MapS w' w.heap.size []→Mod (fun _=>False) w w'→w'.heap.size=w.heap.size+1→K (.map (some w.heap.size)) w') :
   E.wp P w ρ K (.raw ⟨d,.makeMap t none,ty,pos,af,none⟩):=by
 refine opWp_of_run fun a ha=>⟨_,_,?_,hk (w.alloc (.map #[] 0)) ⟨_,_,heap_alloc_new w _,rfl,by simp,by simp⟩ (mod_alloc _ w _) (by simp)⟩
 simp only [execOp,Sem.run_bind,Option.map_none,Go.RowKit.run_makeMap,Result.andThen]
 rfl
theorem e_l1S {t kt et:TypeId} {m x:Operand} {b:Nat} {k:ByteArray} {l:List (ByteArray×Int)} (hm:(toO m).ev ρ=some (.map (some b))) (hx:(toO x).ev ρ=some (.string k)) (ht:P.underlying t=some (.map kt et)) (hkt:P.underlying kt=some .string)
   (hz:(zeroValue et).run P w = .ok (I 0) w) (h:MapS w b l) (hk:K (I ((sget l k).getD 0)) w):E.wp P w ρ K (.raw ⟨d,.lookup t m x false,ty,pos,af,none⟩):=by
 obtain ⟨es,clock,h1,h2,_⟩:=h
 refine opWp_of_run fun a ha=>⟨_,w,?_,hk⟩
 have hkey:=findKey_str (P:=P) (w:=w) hkt k es.toList l h2
 have e1:(Instr.lookup t (.map (some b)) (.string k) false).run P w = .ok (I ((sget l k).getD 0)) w:=by
   rw [sget_idx]
   simp only [Instr.lookup,Sem.run_bind,run_underlying ht,Result.andThen,getObj,Sem.run,h1,checkKey_str hkt,Sem.run_pure]
   cases hI:l.findIdx? (fun p=>decide (p.1=k)) with
   | none=>
     rw [hI] at hkey
     erw [hkey]
     simp [hz,Sem.run_bind,Sem.run_pure,Sem.run,Result.andThen]
   | some j=>
     rw [hI] at hkey
     erw [hkey]
     simp [Sem.run_bind,Sem.run_pure,Sem.run,Result.andThen]
 simp only [execOp,Sem.run_bind,ha m _ hm,ha x _ hx,e1,Result.andThen]
 rfl
theorem e_muS {t kt et:TypeId} {m x y:Operand} {b:Nat} {k:ByteArray} {v:Int} {l:List (ByteArray×Int)} (hm:(toO m).ev ρ=some (.map (some b))) (hx:(toO x).ev ρ=some (.string k)) (hy:(toO y).ev ρ=some (I v)) (ht:P.underlying t=some (.map kt et)) (hkt:P.underlying kt=some .string)
   (h:MapS w b l) (hk:∀ w',MapS w' b (sput l k v)→Mod (· = b) w w'→w'.heap.size=w.heap.size→K undef w'):E.wp P w ρ K (.raw ⟨d,.mapUpdate t m x y,ty,pos,af,none⟩):=by
 obtain ⟨es,clock,h1,h2,h3,h4⟩:=h
 have hkey:=findKey_str (P:=P) (w:=w) hkt k es.toList l h2
 have hsz:es.size=l.length:=by have:=congrArg List.length h2;simpa using this
 cases hI:l.findIdx? (fun p=>decide (p.1=k)) with
 | none=>
   rw [hI] at hkey
   have e1:(Instr.mapUpdate t (.map (some b)) (.string k) (I v)).run P w = .ok () (setBlock w b (.map (es.push { key:=.string k,val:=I v,born:=clock}) (clock+1))):=by
     simp only [Instr.mapUpdate,Sem.run_bind,run_underlying ht,Result.andThen,getObj,Sem.run,h1,checkKey_str hkt,Sem.run_pure]
     erw [hkey]
     exact run_setObj_map h1 _
   refine opWp_of_skip fun a ha=>⟨_,?_,hk (setBlock w b (.map (es.push { key:=.string k,val:=I v,born:=clock}) (clock+1))) ⟨_,_,heap_setBlock_same h1 _,?_,?_,?_⟩ (mod_setBlock w b _ h1) (size_setBlock w b _)⟩
   · simp only [execOp,Sem.run_bind,ha m _ hm,ha x _ hx,ha y _ hy,e1,Result.andThen]
     rfl
   · simp [sput,hI,h2]
   · intro e he
     simp only [Array.toList_push,List.mem_append,List.mem_cons,List.not_mem_nil,or_false] at he
     rcases he with he | rfl
     · exact Nat.lt_succ_of_lt (h3 e he)
     · exact Nat.lt_succ_self _
   · simp only [Array.toList_push,List.map_append,List.map_cons,List.map_nil]
     rw [List.nodup_append]
     refine ⟨h4,by simp,?_⟩
     intro x hx y hy hxy
     simp only [List.mem_cons,List.not_mem_nil,or_false] at hy
     obtain ⟨e,he,rfl⟩:=List.mem_map.1 hx
     have:=h3 e he;omega
 | some i=>
   rw [hI] at hkey
   have hil:i < l.length:=by
     have:=List.findIdx?_eq_some_iff_getElem.1 hI
     exact this.1
   have hie:i < es.size:=by omega
   have hki:(es[i]).key = .string k:=by
     have h5:es.toList[i]'(by simpa using hie)=es[i]:=by simp
     have h6:=congrArg (fun z=>z[i]?) h2
     simp only [List.getElem?_map,List.getElem?_eq_getElem (show i < es.toList.length by simpa using hie),List.getElem?_eq_getElem hil,Option.map_some,Option.some.injEq,Prod.mk.injEq] at h6
     have h7:=(List.findIdx?_eq_some_iff_getElem.1 hI).2.1
     rw [← h5,h6.1]
     simp at h7;rw [h7]
   have hst:(Instr.keyThatStays (((es[i]?).map (·.key)).getD (.string k)) (.string k)).run P w = .ok (.string k) w:=by
     rw [Array.getElem?_eq_getElem hie,Option.map_some,Option.getD_some,hki]
     simp [Instr.keyThatStays,Instr.sameBits,ba_beq]
   have e1:(Instr.mapUpdate t (.map (some b)) (.string k) (I v)).run P w = .ok () (setBlock w b (.map (es.modify i fun e=>{ e with key:=.string k,val:=I v}) clock)):=by
     simp only [Instr.mapUpdate,Sem.run_bind,run_underlying ht,Result.andThen,getObj,Sem.run,h1,checkKey_str hkt,Sem.run_pure]
     erw [hkey]
     simp only [Option.map_some,Sem.run_bind,hst,Result.andThen]
     exact run_setObj_map h1 _
   refine opWp_of_skip fun a ha=>⟨_,?_,hk (setBlock w b (.map (es.modify i fun e=>{ e with key:=.string k,val:=I v}) clock)) ⟨_,_,heap_setBlock_same h1 _,?_,?_,?_⟩ (mod_setBlock w b _ h1) (size_setBlock w b _)⟩
   · simp only [execOp,Sem.run_bind,ha m _ hm,ha x _ hx,ha y _ hy,e1,Result.andThen]
     rfl
   · simp only [sput,hI]
     apply List.ext_getElem?
     intro j
     have h6:=congrArg (fun z=>z[j]?) h2
     simp only [List.getElem?_map] at h6 ⊢
     rw [Array.toList_modify,List.getElem?_modify,List.getElem?_set]
     by_cases hij:i=j
     · subst hij
       simp [hil,show i < es.toList.length by simpa using hie,hie]
     · rw [if_neg hij]
       simpa [hij] using h6
   · intro e he
     rw [Array.toList_modify] at he
     obtain ⟨j,hj,rfl⟩:=List.getElem_of_mem he
     rw [List.getElem_modify]
     have hm:es.toList[j]'(by simpa using hj)∈es.toList:=List.getElem_mem _
     have h5:=h3 _ hm
     split<;>exact h5
   · have:(es.modify i fun e=>{ e with key:=.string k,val:=I v}).toList.map (·.born)=es.toList.map (·.born):=by
       apply List.ext_getElem?
       intro j
       rw [Array.toList_modify]
       simp only [List.getElem?_map,List.getElem?_modify]
       by_cases hij:i=j
       · subst hij
         cases es.toList[i]?<;>simp
       · simp [hij]
     rw [this];exact h4
theorem e_clS {t kt et:TypeId} {at':Array TypeId} {m:Operand} {b:Nat} {l:List (ByteArray×Int)} (hat:at'[0]? = some t) (hm:(toO m).ev ρ=some (.map (some b))) (ht:P.underlying t=some (.map kt et))
   (h:MapS w b l) (hk:∀ w',MapS w' b []→Mod (· = b) w w'→w'.heap.size=w.heap.size→K (.tuple #[]) w'):E.wp P w ρ K (.raw ⟨d,.call { callee:=.builtin .clear,args:=#[m],argTypes:=at'},ty,pos,af,none⟩):=by
 obtain ⟨es,clock,h1,h2,h3,h4⟩:=h
 refine opWp_of_run fun a ha=>⟨_,_,?_,hk (setBlock w b (.map #[] clock)) ⟨_,_,heap_setBlock_same h1 _,rfl,by simp,by simp⟩ (mod_setBlock w b _ h1) (size_setBlock w b _)⟩
 have a0:(#[Value.map (some b)]:Array Value)[0]? = some (.map (some b)):=rfl
 have e1:(Builtin.clear_ at' ty #[.map (some b)]).run P w = .ok (.tuple #[]) (setBlock w b (.map #[] clock)):=by
   simp only [Builtin.clear_,hat,a0,Sem.run_bind,run_underlying ht,Result.andThen,getObj,Sem.run,h1,Sem.run_pure]
   simp only [run_setObj_map h1]
 simp only [execOp,resolve,invoke,builtin,Sem.run_bind,Sem.run_pure,Result.andThen,List.map_toArray,List.map_cons,List.map_nil,ha m _ hm]
 erw [e1]
end
end
section
open Go
section
variable {P:Program} {ρ:Env} {w:World} {K:Value→World→Prop} {d:Option Nat} {ty:TypeId} {pos:String} {af:Array Edge}
def pevA (ρ:Env):List (Nat×Operand)→Option (List (Nat×Value))
 | []=>some []
 | (i,x)::r=>match (toO x).ev ρ,pevA ρ r with
   | some v,some l=>some ((i,v)::l)
   | _,_=>none
theorem pevA_eval {a:Act} (ha:∀ (x:Operand) (v:Value),(toO x).ev ρ=some v→a.eval x=v):∀ (l:List (Nat×Operand)) (vs:List (Nat×Value)),pevA ρ l=some vs→l.map (fun p=>(p.1,a.eval p.2))=vs:=by
 intro l
 induction l with
 | nil=>intro vs h;simp only [pevA,Option.some.injEq] at h;subst h;rfl
 | cons p l ih=>
   intro vs h
   obtain ⟨i,x⟩:=p
   simp only [pevA] at h
   cases hx:(toO x).ev ρ with
   | none=>simp [hx] at h
   | some v=>
     cases hl:pevA ρ l with
     | none=>simp [hx,hl] at h
     | some vs'=>
       simp only [hx,hl,Option.some.injEq] at h
       subst h
       simp only [List.map_cons,ha x v hx,ih vs' hl]
theorem e_bdA {t el:TypeId} {len n:Nat} {parts:Array (Nat×Operand)} {z:Value} {vs:List (Nat×Value)} {out:Array Value} (ht:P.underlying t=some (.array len el)) (hz:(P.info? t).bind (·.zero)=some z) (hn:szOf P el=some n)
   (hp:pevA ρ parts.toList=some vs) (hf:Instr.fill (fun i=>some (i*n,n)) z.cells vs=some out) (hk:K (.agg out) w):E.wp P w ρ K (.raw ⟨d,.build t parts,ty,pos,af,none⟩):=by
 refine opWp_of_run fun a ha=>⟨_,w,?_,hk⟩
 have e0:(parts.map fun (i,x)=>(i,a.eval x)).toList=vs:=by
   rw [← pevA_eval ha parts.toList vs hp];simp
 have g1:ro P w (underlying t)=some (.array len el):=by rw [ro_underlying,ht]
 have g2:ro P w (sizeOf el)=some n:=by rw [ro_sizeOf];exact hn
 have g3:ro P w (zeroValue t)=some z:=by rw [ro_zeroValue];exact hz
 simp only [execOp,Instr.build,Sem.run_bind,ro_run g1,ro_run g2,ro_run g3,Result.andThen_ok,e0,hf,Sem.run_pure]
theorem e_iaA {t el:TypeId} {len n:Nat} {x i:Operand} {a:Addr} {k:IntKind} {j:Int} (ht:P.underlying t=some (.array len el)) (hn:szOf P el=some n) (hx:(toO x).ev ρ=some (.pointer (some a))) (hi:(toO i).ev ρ=some (.int k j)) (hj:0≤j∧j < len)
   (hk:K (.pointer (some (a.add (j.toNat*n)))) w):E.wp P w ρ K (.raw ⟨d,.indexAddr t x i,ty,pos,af,none⟩):=by
 refine opWp_of_run fun a' ha=>⟨_,w,?_,hk⟩
 have g1:ro P w (underlying t)=some (.array len el):=by rw [ro_underlying,ht]
 have g2:ro P w (sizeOf el)=some n:=by rw [ro_sizeOf];exact hn
 simp only [execOp,ha x _ hx,ha i _ hi,Instr.indexAt,Instr.sureAddr,asIntOf,Sem.run_bind,ro_run g1,ro_run g2,Result.andThen_ok,Sem.run_pure,hj,and_self,if_true]
end
end
end Go.W
namespace Go.Proofs.YtcllploggibicaaGreat
section
open Go Go.W
theorem f_isName (w:World) (b:ByteArray) (hb:b.size≤4611686018427387904):CallsR Tryz.prog 58 [.string b] w fun r w'=>r = .bool (isNameS b)∧w=w':=by
 have hsz:b.data.toList.length=b.size:=by
   show b.data.toList.length=b.data.size
   exact Array.length_toList
 refine fit58.calls rfl ?_
 unfold ir58
 (try simp only [go_sem,simprocAttr])
 refine ir_loop (fun z ρ w'=>∃ i:Nat,z=b.size - i∧i≤b.size∧w=w'∧(∀ j,(hj:j < b.data.toList.length)→j < i→32≤(b.data.toList[j]).toNat∧(b.data.toList[j]).toNat≤126)∧ρ=[(0,.string b),(5,I b.size),(6,I i)]) b.size ⟨0,rfl,by omega,rfl,fun j _ h=>absurd h (Nat.not_lt_zero j),rfl⟩ ?_
 rintro z ρ _ ⟨i,rfl,hi,rfl,hall,rfl⟩
 unfold ir58L1
 (try simp only [go_sem,simprocAttr])
 refine ir_cond rfl (fun hlt=>?_) (fun hlt=>?_)
 · have hlt:i < b.size:=by simpa using hlt
   have hil:i < b.data.toList.length:=by omega
   have c1:b[i]? = some (b.data.toList[i]):=by
     rw [getElem?_pos b i hlt]
     rfl
   have z0:(0:Int)≤i:=by omega
   have e1:IntKind.i64.wrap ((i:Int)+1)=((i+1:Nat):Int):=by rw [wrap_in (by omega) (by omega)];omega
   generalize hc:b.data.toList[i]=c at c1
   (try simp only [go_sem,simprocAttr,zb4,zb6,c1,z0])
   refine wpS_cut (fun ρ w'=>w=w'∧ρ.get 0=some (.string b)∧ρ.get 5=some (I b.size)∧ρ.get 6=some (I i)∧ρ.get 18=some (.bool (decide ((c.toNat:Int) < 32∨(c.toNat:Int) > 126)))) ?_ ?_
   · cases h1:decide ((c.toNat:Int) < 32)<;>(try simp only [go_sem,simprocAttr,zb4,zb6,h1,c1,z0])<;>(simp only [zb1,zb2,zb3,zb4,zb5] at h1;simp [h1])
   rintro ρ _ ⟨rfl,r0,r5,r6,r18⟩
   (try simp only [go_sem,simprocAttr,r0,r5,r6,r18])
   refine ir_cond rfl (fun hh=>?_) (fun hh=>?_)
   · simp only [zb1,zb2,zb3,zb4,zb5] at hh
     (try simp only [go_sem,simprocAttr])
     have e:isNameS b=false:=by
       unfold isNameS
       have:b.data.toList.all (fun c=>decide (32≤c.toNat)&&decide (c.toNat≤126))=false:=by
         rw [List.all_eq_false]
         refine ⟨c,by rw [← hc];exact List.getElem_mem hil,?_⟩
         simp only [Bool.and_eq_true,decide_eq_true_eq]
         omega
       rw [this];rfl
     rw [e]
   · simp only [zb1,zb2,zb3,zb4,zb5] at hh
     (try simp only [go_sem,simprocAttr,e1])
     refine ⟨_,by omega,i+1,rfl,by omega,fun j hj hji=>?_,rfl⟩
     by_cases hji':j < i
     · exact hall j hj hji'
     · obtain rfl:j=i:=by omega
       rw [hc];omega
 · have hlt:¬ i < b.size:=by simpa using hlt
   obtain rfl:i=b.size:=by omega
   (try simp only [go_sem,simprocAttr])
   have e:isNameS b=(decide ((b.size:Int)≥1)&&decide ((b.size:Int)≤4096)):=by
     unfold isNameS
     have:b.data.toList.all (fun c=>decide (32≤c.toNat)&&decide (c.toNat≤126))=true:=by
       rw [List.all_eq_true]
       intro c hc
       obtain ⟨j,hj,rfl⟩:=List.getElem_of_mem hc
       have:=hall j hj (by omega)
       simp only [Bool.and_eq_true,decide_eq_true_eq]
       exact this
     rw [this,hsz,Bool.true_and]
     congr 1
     · exact decide_eq_decide.2 (by omega)
     · exact decide_eq_decide.2 (by omega)
   rw [e]
   cases h1:decide ((b.size:Int)≥1)<;>(try simp only [go_sem,simprocAttr,h1,Bool.true_and,Bool.false_and])
theorem f_given (w:World):CallsR Tryz.prog 59 [] w fun r w'=>r = .slice (some ⟨w.heap.size,0,none⟩) 7 7∧w'.heap[w.heap.size]? = some (.cells (givenS.flatMap shRow).toArray 89 (0,0))∧Mod (fun _=>False) w w':=by
 refine fit59.calls rfl ?_
 unfold ir59
 (try simp only [go_sem,simprocAttr])
 refine e_bs (by rfl) (by rfl) ?_
 intro w1 hb1 hm1 _
 (try simp only [go_sem,simprocAttr])
 exact ⟨hb1,hm1⟩
structure TabFit (T:Tab):Prop where
 gn:T.globals.length≤17592186044416
 sn:T.shapes.length≤17592186044416
 code:∀ g∈T.globals,g.code.length≤17592186044416
 gname:∀ g∈T.globals,g.name.size≤4611686018427387904
 sname:∀ s∈T.shapes,s.name.size≤4611686018427387904
 xa:∀ g∈T.globals,∀ x∈g.code,x.a≤9223372036854775807
def tabV (vsh vgl:Value):Value:=.agg #[vsh,vgl]
theorem tab_sl {w:World} {vsh vgl:Value} {T:Tab} {B:Nat→Prop} (h:TabAt w vsh vgl T B):(∃ a c,vsh = .slice a T.shapes.length c)∧∃ a c,vgl = .slice a T.globals.length c:=by
 obtain ⟨⟨a,c,rfl,_⟩,codes,h2,⟨a',c',rfl,_⟩,_⟩:=h
 exact ⟨⟨a,c,by simp⟩,a',c',by simp [h2]⟩
theorem gl_idx {T:Tab} {i:Nat} (hi:i < T.globals.length):T.gl i=T.globals[i]:=by unfold Tab.gl;rw [Int.toNat_natCast,List.getD_eq_getElem?_getD,List.getElem?_eq_getElem hi];rfl
def glV (g:Gl) (cv:Value):Value:=.agg #[.string g.name,I g.arity,cv]
theorem glob_ln {w:World} {vsh vgl:Value} {T:Tab} {B:Nat→Prop} (h:TabAt w vsh vgl T B) {i:Nat} (hi:i < T.globals.length) :
   ∃ ad c cv,vgl = .slice (some ad) T.globals.length c∧vLN w 3 (.pointer (some (ad.add (i*3))))=some (glV T.globals[i] cv)∧RowsAt w cv 3 (T.globals[i].code.map insRow) B:=by
 obtain ⟨ad,c,cv,h1,_,h2,h3,h4,h5⟩:=glob_at h hi
 rw [gl_idx hi] at h2 h3 h5
 exact ⟨ad,c,cv,h1,ln_3 h2 h3 h4,h5⟩
theorem rows_sl {w:World} {v:Value} {sz:Nat} {rows:List (List Value)} {B:Nat→Prop} (h:RowsAt w v sz rows B):∃ a c,v = .slice a rows.length c:=by
 obtain ⟨a,c,e,_⟩:=h;exact ⟨a,c,e⟩
def codeSum (l:List Gl):Nat:=(l.map (·.code.length)).sum
theorem greatS_mid {T:Tab}:greatS T=(T.globals.any (fun g=>decide (g.code.length > 8000))||(decide (T.shapes.length > 2000)||decide (T.globals.length > 2000)||decide ((T.globals.map (·.code.length)).sum > 200000))):=by
 unfold greatS;simp only [Bool.or_assoc]
theorem f_great {w:World} {vsh vgl:Value} {T:Tab} {B:Nat→Prop} (h:TabAt w vsh vgl T B) (hT:TabFit T):CallsR Tryz.prog 57 [tabV vsh vgl] w fun r w'=>r = .bool (greatS T)∧Mod (fun _=>False) w w':=by
 obtain ⟨⟨aS,cS,rfl⟩,aG,cG,rfl⟩:=tab_sl h
 refine fit57.calls rfl ?_
 unfold ir57 tabV
 (try simp only [go_sem,simprocAttr])
 refine e_bx rfl ?_
 intro w1 hb1 hm1 hs1
 (try simp only [go_sem,simprocAttr,cell_of hb1,Value.cells])
 refine ir_loop (fun z ρ w'=>∃ i:Nat,z=T.globals.length - i∧i≤T.globals.length∧Mod (fun _=>False) w w'∧w'.heap[w.heap.size]? = some (.cells #[.slice aS T.shapes.length cS,.slice aG T.globals.length cG] 25 (0,0))∧(∀ g∈T.globals.take i,g.code.length≤8000) ∧
   ρ=[(1,ptr w.heap.size),(3,I (codeSum (T.globals.take i):Nat)),(7,.slice aG T.globals.length cG),(8,I T.globals.length),(9,I i)]) T.globals.length ⟨0,rfl,by omega,hm1,hb1,(fun g hg=>by simp at hg),rfl⟩ ?_
 rintro z ρ w2 ⟨i,rfl,hi,hm2,hb2,hall,rfl⟩
 have hsum:∀ l:List Gl,(∀ g∈l,g.code.length≤8000)→codeSum l≤8000*l.length:=by
   intro l
   induction l with
   | nil=>intro _;simp [codeSum]
   | cons g l ih=>
     intro hl
     have h1:=ih (fun g hg=>hl g (by simp [hg]))
     have h2:=hl g (by simp)
     unfold codeSum at h1 ⊢
     simp only [List.map_cons,List.sum_cons,List.length_cons];omega
 have hs2:=hsum _ hall
 rw [List.length_take] at hs2
 unfold ir57L1
 (try simp only [go_sem,simprocAttr])
 refine ir_cond rfl (fun hlt=>?_) (fun hlt=>?_)
 · have hlt:i < T.globals.length:=by simpa using hlt
   obtain ⟨ad,c,cv,e',hln,hrows⟩:=glob_ln (h.mod hm2 (fun _ _ h=>h) (fun _ h=>h)) hlt
   cases e'
   obtain ⟨acv,ccv,hcv⟩:=rows_sl hrows
   rw [List.length_map] at hcv
   have hgn:=hT.gn
   have hcl:=hT.code _ (List.getElem_mem hlt)
   have b1:(0:Int)≤i∧(i:Int) < T.globals.length:=by omega
   generalize hg:T.globals[i]=g at *
   subst hcv
   (try simp only [go_sem,simprocAttr,zb4,zb6,b1,hln,glV])
   refine e_al ?_
   intro w3 hb3 hm3 _
   refine e_sta (cs:=[.string ⟨#[]⟩,I 0,.slice none 0 0]) rfl rfl hb3 rfl rfl (by simp [Value.oneCell']) ?_
   intro w4 hb4 hm4 _
   have hm24:Mod (fun _=>False) w2 w4:=hm3.step hm4 (fun x hx hl=>by subst hx;omega)
   have e1:IntKind.i64.wrap ((codeSum (T.globals.take i):Int)+g.code.length)=(codeSum (T.globals.take (i+1)):Nat):=by
     rw [wrap_in (by omega) (by omega),List.take_succ_eq_append_getElem hlt,hg];unfold codeSum;rw [List.map_append,List.sum_append];simp
   have e2:IntKind.i64.wrap ((i:Int)+1)=((i+1:Nat):Int):=by rw [wrap_in (by omega) (by omega)];omega
   (try simp only [go_sem,simprocAttr,cell_of hb4,e1,e2])
   refine ir_cond rfl (fun h8=>?_) (fun h8=>?_)
   · simp only [zb1,zb2,zb3,zb4,zb5] at h8
     (try simp only [go_sem,simprocAttr])
     refine ⟨?_,hm2.trans hm24⟩
     have:T.globals.any (fun g=>decide (g.code.length > 8000))=true:=List.any_eq_true.2 ⟨g,by rw [← hg];exact List.getElem_mem hlt,by simp;omega⟩
     rw [greatS_mid,this];rfl
   · simp only [zb1,zb2,zb3,zb4,zb5] at h8
     (try simp only [go_sem,simprocAttr,e1,e2])
     refine ⟨_,by omega,i+1,rfl,by omega,hm2.trans hm24,hm24.at hb2 (fun h=>h),fun g' hg'=>?_,rfl⟩
     rw [List.take_succ_eq_append_getElem hlt,hg] at hg'
     rcases List.mem_append.1 hg' with h1 | h1
     · exact hall g' h1
     · obtain rfl:=List.mem_singleton.1 h1;omega
 · have hlt:¬ i < T.globals.length:=by simpa using hlt
   obtain rfl:i=T.globals.length:=by omega
   rw [List.take_length] at *
   have e0:T.globals.any (fun g=>decide (g.code.length > 8000))=false:=by
     rw [List.any_eq_false]
     intro g hg
     have:=hall g hg
     simp;omega
   rw [greatS_mid,e0,Bool.false_or]
   have c1:decide (T.shapes.length > 2000)=decide ((T.shapes.length:Int) > 2000):=decide_eq_decide.2 (by omega)
   have c2:decide (T.globals.length > 2000)=decide ((T.globals.length:Int) > 2000):=decide_eq_decide.2 (by omega)
   have c3:decide ((T.globals.map (·.code.length)).sum > 200000)=decide ((codeSum T.globals:Int) > 200000):=decide_eq_decide.2 (by unfold codeSum;omega)
   rw [c1,c2,c3]
   cases h1:decide ((T.shapes.length:Int) > 2000)<;>cases h2:decide ((T.globals.length:Int) > 2000)<;>(try simp only [go_sem,simprocAttr,cell_of hb2,h1,h2,Bool.true_or,Bool.false_or])<;>exact hm2
end
section
open Go Go.W
def formZero:List Value:=[.string ⟨#[]⟩,I 0,I 0,.string ⟨#[]⟩,I 0,I 0,.string ⟨#[]⟩,I 0,I 0,.string ⟨#[]⟩,I 0,I 0,.string ⟨#[]⟩,I 0,I 0,.string ⟨#[]⟩,I 0,I 0,.string ⟨#[]⟩,I 0,I 0,.string ⟨#[]⟩,I 0,I 0,.string ⟨#[]⟩,I 0,I 0,.string ⟨#[]⟩,I 0,I 0,.string ⟨#[]⟩,I 0,I 0,.string ⟨#[]⟩,I 0,I 0,.string ⟨#[]⟩,I 0,I 0,.string ⟨#[]⟩,I 0,I 0,.string ⟨#[]⟩,I 0,I 0,.string ⟨#[]⟩,I 0,I 0,.string ⟨#[]⟩,I 0,I 0,.string ⟨#[]⟩,I 0,I 0]
def formCells:List Value:=[.string ⟨#[]⟩,I 0,I 0,.string ⟨#[112,117,115,104]⟩,I 1,I 0,.string ⟨#[103,108,111,98]⟩,I 4,I 0,.string ⟨#[105,110,116]⟩,I 3,I 0,.string ⟨#[112,111,112]⟩,I 1,I 0,.string ⟨#[115,108,105,100,101]⟩,I 1,I 0,.string ⟨#[97,112,112,108,121]⟩,I 0,I 0,.string ⟨#[117,112,100,97,116,101]⟩,I 2,I 0,.string ⟨#[97,108,108,111,99]⟩,I 1,I 0,.string ⟨#[112,97,99,107]⟩,I 5,I 0,.string ⟨#[115,112,108,105,116]⟩,I 5,I 0,.string ⟨#[101,118,97,108]⟩,I 0,I 0,.string ⟨#[97,114,105,116,104]⟩,I 6,I 0,.string ⟨#[106,117,109,112]⟩,I 8,I 0,.string ⟨#[116,101,115,116,99,111,110]⟩,I 5,I 8,.string ⟨#[116,101,115,116,105,110,116]⟩,I 3,I 8,.string ⟨#[102,97,105,108]⟩,I 7,I 0,.string ⟨#[117,110,119,105,110,100]⟩,I 0,I 0]
theorem form_info:(Tryz.prog.info? 176).bind (·.zero)=some (.agg formZero.toArray):=by kernel_rfl
theorem form_arr:Tryz.prog.underlying 176=some (.array 18 153):=by kernel_rfl
theorem form_sz:szOf Tryz.prog 153=some 3:=by kernel_rfl
def formParts:List (Nat×Value):=[(0,.agg #[.string ⟨#[]⟩,I 0,I 0]),(1,.agg #[.string ⟨#[112,117,115,104]⟩,I 1,I 0]),(2,.agg #[.string ⟨#[103,108,111,98]⟩,I 4,I 0]),(3,.agg #[.string ⟨#[105,110,116]⟩,I 3,I 0]),(4,.agg #[.string ⟨#[112,111,112]⟩,I 1,I 0]),(5,.agg #[.string ⟨#[115,108,105,100,101]⟩,I 1,I 0]),(6,.agg #[.string ⟨#[97,112,112,108,121]⟩,I 0,I 0]),(7,.agg #[.string ⟨#[117,112,100,97,116,101]⟩,I 2,I 0]),(8,.agg #[.string ⟨#[97,108,108,111,99]⟩,I 1,I 0]),(9,.agg #[.string ⟨#[112,97,99,107]⟩,I 5,I 0]),(10,.agg #[.string ⟨#[115,112,108,105,116]⟩,I 5,I 0]),(11,.agg #[.string ⟨#[101,118,97,108]⟩,I 0,I 0]),(12,.agg #[.string ⟨#[97,114,105,116,104]⟩,I 6,I 0]),(13,.agg #[.string ⟨#[106,117,109,112]⟩,I 8,I 0]),(14,.agg #[.string ⟨#[116,101,115,116,99,111,110]⟩,I 5,I 8]),(15,.agg #[.string ⟨#[116,101,115,116,105,110,116]⟩,I 3,I 8]),(16,.agg #[.string ⟨#[102,97,105,108]⟩,I 7,I 0]),(17,.agg #[.string ⟨#[117,110,119,105,110,100]⟩,I 0,I 0])]
theorem form_fill:Instr.fill (fun i=>some (i*3,3)) (Value.agg formZero.toArray).cells formParts=some formCells.toArray:=by kernel_rfl
theorem formCells_one:∀ u∈formCells,u.oneCell'=true:=by decide
theorem form_ln {w:World} {b:Nat} (h:w.heap[b]? = some (.cells formCells.toArray 176 (0,0))) {o:Nat} (ho:1≤o∧o≤17):∃ s a b',formS (o:Int)=some (a,b')∧0≤a∧a≤8∧0≤b'∧b'≤8∧vLN w 3 (.pointer (some ⟨b,o*3,none⟩))=some (.agg #[.string s,I a,I b']):=by
 have hl:formCells.length=54:=rfl
 have:=ln_of (off:=o*3) (n:=3) h (by rw [hl];omega)
 rcases upto17 ho with rfl | rfl | rfl | rfl | rfl | rfl | rfl | rfl | rfl | rfl | rfl | rfl | rfl | rfl | rfl | rfl | rfl<;>exact ⟨_,_,_,rfl,by decide,by decide,by decide,by decide,this⟩
theorem form_none {op:Int} (h:op < 1∨op≥18):formS op=none:=by
 unfold formS
 repeat rw [if_neg (by omega)]
theorem f_forms (w:World) (op:Int):CallsR Tryz.prog 110 [I op] w fun r w'=>(∃ s a b,r = .tuple #[.agg #[.string s,I a,I b],.bool (formS op).isSome]∧(∀ p,formS op=some p→p=(a,b)∧0≤a∧a≤8∧0≤b∧b≤8))∧Mod (fun _=>False) w w':=by
 refine fit110.calls rfl ?_
 unfold ir110
 (try simp only [go_sem,simprocAttr])
 refine e_al ?_
 intro w1 hb1 hm1 _
 (try simp only [go_sem,simprocAttr])
 refine e_bdA (vs:=formParts) form_arr form_info form_sz (by rfl) form_fill ?_
 (try simp only [go_sem,simprocAttr])
 refine e_al ?_
 intro w2 hb2 hm2 _
 refine e_sta (cs:=formZero) rfl rfl hb2 rfl rfl formCells_one ?_
 intro w3 hb3 hm3 _
 have l1:=lt_of_heap hb1
 have hm13:Mod (fun _=>False) w1 w3:=hm2.step hm3 (fun x hx hl=>by subst hx;omega)
 have hb13:=hm13.at hb1 (fun h=>h)
 (try simp only [go_sem,simprocAttr])
 refine wpS_cut (fun ρ w'=>w3=w'∧ρ.get 0=some (I op)∧ρ.get 2=some (ptr w.heap.size)∧ρ.get 4=some (ptr w1.heap.size)∧ρ.get 29=some (.bool (decide (op < 1∨op≥18)))) ?_ ?_
 · cases h1:decide (op < 1)<;>(try simp only [go_sem,simprocAttr,h1])<;>(simp only [zb1,zb2,zb3,zb4,zb5] at h1;simp [h1])
 rintro ρ _ ⟨rfl,r0,r2,r4,r29⟩
 (try simp only [go_sem,simprocAttr,r0,r2,r4,r29])
 refine ir_cond rfl (fun hh=>?_) (fun hh=>?_)
 · simp only [zb1,zb2,zb3,zb4,zb5] at hh
   (try simp only [go_sem,simprocAttr,ptr])
   refine e_sta (cs:=[.string ⟨#[]⟩,I 0,I 0]) rfl rfl hb13 rfl rfl (by simp [Value.oneCell']) ?_
   intro w4 hb4 hm4 _
   (try simp only [go_sem,simprocAttr,ln_of (cs:=[_,_,_]) (off:=0) (n:=3) hb4 (by simp)])
   rw [form_none hh]
   exact ⟨⟨_,_,_,rfl,fun p hp=>by cases hp⟩,(hm1.trans hm13).step hm4 (fun x hx hl=>by subst hx;omega)⟩
 · simp only [zb1,zb2,zb3,zb4,zb5] at hh
   obtain ⟨o,ho⟩:∃ o:Nat,op=o:=⟨op.toNat,by omega⟩
   subst ho
   obtain ⟨s,a,b,hf,ha1,ha2,hb1',hb2',hln⟩:=form_ln hb3 (o:=o) (by omega)
   (try simp only [go_sem,simprocAttr,ptr])
   refine e_iaA form_arr form_sz (by rfl) (by rfl) (j:=(o:Int)) ⟨by omega,by omega⟩ ?_
   (try simp only [go_sem,simprocAttr,zb4,zb6,add_at,hln])
   refine e_sta (cs:=[.string ⟨#[]⟩,I 0,I 0]) rfl rfl hb13 rfl rfl (by simp [Value.oneCell']) ?_
   intro w4 hb4 hm4 _
   (try simp only [go_sem,simprocAttr,ln_of (cs:=[_,_,_]) (off:=0) (n:=3) hb4 (by simp)])
   rw [hf]
   exact ⟨⟨_,_,_,rfl,fun p hp=>by cases hp;exact ⟨rfl,ha1,ha2,hb1',hb2'⟩⟩,(hm1.trans hm13).step hm4 (fun x hx hl=>by subst hx;omega)⟩
theorem f_reach {w:World} {b:Nat} {D:List Int} (hb:w.heap[b]? = some (.cells (D.map I).toArray 3 (0,0))) {a d:Int} (ha:0≤a∧a < D.length) :
   CallsR Tryz.prog 113 [.slice (some ⟨b,0,none⟩) D.length D.length,I a,I d] w fun r w'=>r = .bool (decide ((noteS D a d).getD a.toNat 0=d))∧w'.heap[b]? = some (.cells ((noteS D a d).map I).toArray 3 (0,0))∧Mod (· = b) w w':=by
 obtain ⟨i,rfl⟩:∃ i:Nat,a=i:=⟨a.toNat,by omega⟩
 rw [Int.toNat_natCast]
 have hi:i < D.length:=by omega
 have hc:=ints_at hb hi
 refine fit113.calls rfl ?_
 unfold ir113
 (try simp only [go_sem,simprocAttr,zb4,zb6,ha,add_at,hc])
 have hr:∀ (D':List Int) (w':World),D'.length=D.length→w'.heap[b]? = some (.cells (D'.map I).toArray 3 (0,0))→w'.cell? ⟨b,i,none⟩=some (I (D'.getD i 0)):=fun D' w' hl h=>ints_at h (by omega)
 have hbe:∀ y:Int,(y == d)=decide (y=d):=fun y=>by by_cases h:y=d<;>simp [h]
 refine ir_cond rfl (fun hz=>?_) (fun hz=>?_)
 · simp only [zb1,zb2,zb3,zb4,zb5] at hz
   have hN:noteS D i d=D.set i d:=by unfold noteS;rw [Int.toNat_natCast,if_pos hz]
   rw [hN]
   (try simp only [go_sem,simprocAttr,zb4,zb6,ha,add_at])
   refine e_st1 (off:=i) rfl rfl hb rfl (by simpa using hi) ?_
   intro w1 hb1 hm1 _
   have hb1':w1.heap[b]? = some (.cells ((D.set i d).map I).toArray 3 (0,0)):=by rw [hb1,List.map_set]
   have hc1:=hr _ _ (by simp) hb1'
   (try simp only [go_sem,simprocAttr,zb4,zb6,ha,add_at,hc1,hbe])
   exact ⟨hb1',hm1⟩
 · simp only [zb1,zb2,zb3,zb4,zb5] at hz
   have hN:noteS D i d=D:=by unfold noteS;rw [Int.toNat_natCast,if_neg hz]
   rw [hN]
   (try simp only [go_sem,simprocAttr,zb4,zb6,ha,add_at,hc,hbe])
   exact ⟨hb,Mod.refl _ _⟩
end
section
open Go Go.W
theorem ieq (a b:Int):(a == b)=decide (a=b):=by by_cases h:a=b<;>simp [h]
theorem f_number {w:World} {vsh vgl:Value} {T:Tab} {B:Nat→Prop} (h:TabAt w vsh vgl T B) {g:Gl} {ac:Option Addr} {cc:Nat} (i:Nat) (n:Int) {kind:Int} (hk:0≤kind∧kind≤8) :
   CallsR Tryz.prog 111 [tabV vsh vgl,glV g (.slice ac g.code.length cc),I i,I n,I kind] w fun r w'=>r=I (numberS T g.code.length i n kind)∧Mod (fun _=>False) w w':=by
 obtain ⟨⟨aS,cS,rfl⟩,aG,cG,rfl⟩:=tab_sl h
 refine fit111.calls rfl ?_
 unfold ir111 tabV glV
 (try simp only [go_sem,Nat.reduceAdd,Nat.reduceEqDiff,Nat.reduceLT,Nat.reduceLeDiff,Nat.reduceMul,reduceCtorEq,↓reduceIte])
 refine e_bx rfl ?_
 intro w1 hb1 hm1 _
 (try simp only [go_sem,Nat.reduceAdd,Nat.reduceEqDiff,Nat.reduceLT,Nat.reduceLeDiff,Nat.reduceMul,reduceCtorEq,↓reduceIte])
 refine e_bx rfl ?_
 intro w2 hb2 hm2 _
 have hb12:=hm2.at hb1 (fun h=>h)
 have hm02:=hm1.trans hm2
 (try simp only [go_sem,Nat.reduceAdd,Nat.reduceEqDiff,Nat.reduceLT,Nat.reduceLeDiff,Nat.reduceMul,reduceCtorEq,↓reduceIte])
 refine ir_blk (fun ρ w'=>w2=w'∧((kind≠8∧ρ.get 11=some (.bool (kindB T n kind)))∨(kind=8∧numberS T g.code.length i n kind=0∧ρ.get 11=some (.bool true)))) ?_ ?_
 · refine ir_cond rfl (fun hk0=>?_) (fun hk0=>?_)
   · simp only [zb1,zb2,zb3,zb4,zb5] at hk0
     subst hk0
     (try simp only [go_sem,Nat.reduceAdd,Nat.reduceEqDiff,Nat.reduceLT,Nat.reduceLeDiff,Nat.reduceMul,reduceCtorEq,↓reduceIte])
     exact .inl ⟨by decide,by rw [ieq];rfl⟩
   simp only [zb1,zb2,zb3,zb4,zb5] at hk0
   (try simp only [go_sem,Nat.reduceAdd,Nat.reduceEqDiff,Nat.reduceLT,Nat.reduceLeDiff,Nat.reduceMul,reduceCtorEq,↓reduceIte])
   refine ir_cond rfl (fun hk1=>?_) (fun hk1=>?_)
   · simp only [zb1,zb2,zb3,zb4,zb5] at hk1
     subst hk1
     (try simp only [go_sem,Nat.reduceAdd,Nat.reduceEqDiff,Nat.reduceLT,Nat.reduceLeDiff,Nat.reduceMul,reduceCtorEq,↓reduceIte])
     exact .inl ⟨by decide,rfl⟩
   simp only [zb1,zb2,zb3,zb4,zb5] at hk1
   (try simp only [go_sem,Nat.reduceAdd,Nat.reduceEqDiff,Nat.reduceLT,Nat.reduceLeDiff,Nat.reduceMul,reduceCtorEq,↓reduceIte])
   refine ir_cond rfl (fun hk2=>?_) (fun hk2=>?_)
   · simp only [zb1,zb2,zb3,zb4,zb5] at hk2
     subst hk2
     (try simp only [go_sem,Nat.reduceAdd,Nat.reduceEqDiff,Nat.reduceLT,Nat.reduceLeDiff,Nat.reduceMul,reduceCtorEq,↓reduceIte])
     exact .inl ⟨by decide,rfl⟩
   simp only [zb1,zb2,zb3,zb4,zb5] at hk2
   (try simp only [go_sem,Nat.reduceAdd,Nat.reduceEqDiff,Nat.reduceLT,Nat.reduceLeDiff,Nat.reduceMul,reduceCtorEq,↓reduceIte])
   refine ir_cond rfl (fun hk3=>?_) (fun hk3=>?_)
   · simp only [zb1,zb2,zb3,zb4,zb5] at hk3
     subst hk3
     have e:kindB T n 3=decide (n ≥ -4611686018427387904∧n≤4611686018427387903):=rfl
     rw [e]
     cases h1:decide (n ≥ -4611686018427387904)<;>(try simp only [go_sem,Nat.reduceAdd,Nat.reduceEqDiff,Nat.reduceLT,Nat.reduceLeDiff,Nat.reduceMul,reduceCtorEq,↓reduceIte,h1])<;>(simp only [zb1,zb2,zb3,zb4,zb5] at h1;simp [h1])
   simp only [zb1,zb2,zb3,zb4,zb5] at hk3
   (try simp only [go_sem,Nat.reduceAdd,Nat.reduceEqDiff,Nat.reduceLT,Nat.reduceLeDiff,Nat.reduceMul,reduceCtorEq,↓reduceIte])
   refine ir_cond rfl (fun hk4=>?_) (fun hk4=>?_)
   · simp only [zb1,zb2,zb3,zb4,zb5] at hk4
     subst hk4
     have e:kindB T n 4=decide (n≥0∧n < T.globals.length):=rfl
     rw [e]
     cases h1:decide (n≥0)<;>(try simp only [go_sem,Nat.reduceAdd,Nat.reduceEqDiff,Nat.reduceLT,Nat.reduceLeDiff,Nat.reduceMul,reduceCtorEq,↓reduceIte,h1,cell_of hb12,Value.cells])<;>(simp only [zb1,zb2,zb3,zb4,zb5] at h1;simp [h1])
   simp only [zb1,zb2,zb3,zb4,zb5] at hk4
   (try simp only [go_sem,Nat.reduceAdd,Nat.reduceEqDiff,Nat.reduceLT,Nat.reduceLeDiff,Nat.reduceMul,reduceCtorEq,↓reduceIte])
   refine ir_cond rfl (fun hk5=>?_) (fun hk5=>?_)
   · simp only [zb1,zb2,zb3,zb4,zb5] at hk5
     subst hk5
     have e:kindB T n 5=decide (n≥0∧n < T.shapes.length):=rfl
     rw [e]
     cases h1:decide (n≥0)<;>(try simp only [go_sem,Nat.reduceAdd,Nat.reduceEqDiff,Nat.reduceLT,Nat.reduceLeDiff,Nat.reduceMul,reduceCtorEq,↓reduceIte,h1,cell_of hb12,Value.cells])<;>(simp only [zb1,zb2,zb3,zb4,zb5] at h1;simp [h1])
   simp only [zb1,zb2,zb3,zb4,zb5] at hk5
   (try simp only [go_sem,Nat.reduceAdd,Nat.reduceEqDiff,Nat.reduceLT,Nat.reduceLeDiff,Nat.reduceMul,reduceCtorEq,↓reduceIte])
   refine ir_cond rfl (fun hk6=>?_) (fun hk6=>?_)
   · simp only [zb1,zb2,zb3,zb4,zb5] at hk6
     subst hk6
     have e:kindB T n 6=decide (n≥1∧n≤11):=rfl
     rw [e]
     cases h1:decide (n≥1)<;>(try simp only [go_sem,Nat.reduceAdd,Nat.reduceEqDiff,Nat.reduceLT,Nat.reduceLeDiff,Nat.reduceMul,reduceCtorEq,↓reduceIte,h1])<;>(simp only [zb1,zb2,zb3,zb4,zb5] at h1;simp [h1])
   simp only [zb1,zb2,zb3,zb4,zb5] at hk6
   (try simp only [go_sem,Nat.reduceAdd,Nat.reduceEqDiff,Nat.reduceLT,Nat.reduceLeDiff,Nat.reduceMul,reduceCtorEq,↓reduceIte])
   refine ir_cond rfl (fun hk7=>?_) (fun hk7=>?_)
   · simp only [zb1,zb2,zb3,zb4,zb5] at hk7
     subst hk7
     have e:kindB T n 7=decide (n≥1∧n≤4):=rfl
     rw [e]
     cases h1:decide (n≥1)<;>(try simp only [go_sem,Nat.reduceAdd,Nat.reduceEqDiff,Nat.reduceLT,Nat.reduceLeDiff,Nat.reduceMul,reduceCtorEq,↓reduceIte,h1])<;>(simp only [zb1,zb2,zb3,zb4,zb5] at h1;simp [h1])
   simp only [zb1,zb2,zb3,zb4,zb5] at hk7
   (try simp only [go_sem,Nat.reduceAdd,Nat.reduceEqDiff,Nat.reduceLT,Nat.reduceLeDiff,Nat.reduceMul,reduceCtorEq,↓reduceIte])
   refine ir_cond rfl (fun hk8=>?_) (fun hk8=>?_)
   · simp only [zb1,zb2,zb3,zb4,zb5] at hk8
     subst hk8
     have e:numberS T g.code.length i n 8=if n≤i∨n≥g.code.length then 174 else 0:=rfl
     (try simp only [go_sem,Nat.reduceAdd,Nat.reduceEqDiff,Nat.reduceLT,Nat.reduceLeDiff,Nat.reduceMul,reduceCtorEq,↓reduceIte])
     refine wpS_cut (fun ρ w'=>w2=w'∧ρ.get 11=some (.bool true)∧ρ.get 82=some (.bool (decide (n≤i∨n≥g.code.length)))) ?_ ?_
     · cases h1:decide (n≤(i:Int))<;>(try simp only [go_sem,Nat.reduceAdd,Nat.reduceEqDiff,Nat.reduceLT,Nat.reduceLeDiff,Nat.reduceMul,reduceCtorEq,↓reduceIte,h1,cell_of hb2,Value.cells])<;>(simp only [zb1,zb2,zb3,zb4,zb5] at h1;simp [h1])
     rintro ρ _ ⟨rfl,r11,r82⟩
     (try simp only [go_sem,Nat.reduceAdd,Nat.reduceEqDiff,Nat.reduceLT,Nat.reduceLeDiff,Nat.reduceMul,reduceCtorEq,↓reduceIte,r11,r82])
     refine ir_cond rfl (fun hh=>?_) (fun hh=>?_)
     · simp only [zb1,zb2,zb3,zb4,zb5] at hh
       rw [if_pos hh] at e
       (try simp only [go_sem,Nat.reduceAdd,Nat.reduceEqDiff,Nat.reduceLT,Nat.reduceLeDiff,Nat.reduceMul,reduceCtorEq,↓reduceIte])
       rw [e]
       exact ⟨rfl,hm02⟩
     · simp only [zb1,zb2,zb3,zb4,zb5] at hh
       rw [if_neg hh] at e
       (try simp only [go_sem,Nat.reduceAdd,Nat.reduceEqDiff,Nat.reduceLT,Nat.reduceLeDiff,Nat.reduceMul,reduceCtorEq,↓reduceIte])
       exact .inr e
   · simp only [zb1,zb2,zb3,zb4,zb5] at hk8
     omega
 rintro ρ _ ⟨rfl,hr⟩
 rcases hr with ⟨hk8,r11⟩ | ⟨hk8,e,r11⟩
 · have e:numberS T g.code.length i n kind=if kindB T n kind=true then 0 else 172:=by unfold numberS;rw [if_neg hk8]
   rw [e]
   (try simp only [go_sem,Nat.reduceAdd,Nat.reduceEqDiff,Nat.reduceLT,Nat.reduceLeDiff,Nat.reduceMul,reduceCtorEq,↓reduceIte,r11])
   cases hb:kindB T n kind
   · (try simp only [go_sem,Nat.reduceAdd,Nat.reduceEqDiff,Nat.reduceLT,Nat.reduceLeDiff,Nat.reduceMul,reduceCtorEq,↓reduceIte,Bool.not_false])
     exact hm02
   · (try simp only [go_sem,Nat.reduceAdd,Nat.reduceEqDiff,Nat.reduceLT,Nat.reduceLeDiff,Nat.reduceMul,reduceCtorEq,↓reduceIte,Bool.not_true])
     exact hm02
 · rw [e]
   (try simp only [go_sem,Nat.reduceAdd,Nat.reduceEqDiff,Nat.reduceLT,Nat.reduceLeDiff,Nat.reduceMul,reduceCtorEq,↓reduceIte,r11,Bool.not_true])
   exact hm02
end
section
open Go Go.W
set_option maxHeartbeats 1000000 in
theorem f_stacked {w:World} {vsh vgl:Value} {T:Tab} {B:Nat→Prop} (h:TabAt w vsh vgl T B) (hsh:∀ s∈T.shapes,0≤s.fields∧s.fields≤8) {x:Ins} {len i:Nat} (hx:NumsOk T len i x) (hxa:x.a≤9223372036854775807) {d:Int} (hd:0≤d∧d≤8000) :
   CallsR Tryz.prog 112 [tabV vsh vgl,insV x,I d] w fun r w'=>r = .tuple #[I (stackedS T x d).2,.bool ((stackedS T x d).1&&decide ((stackedS T x d).2≤8000))]∧Mod (fun _=>False) w w':=by
 obtain ⟨⟨aS,cS,rfl⟩,aG,cG,rfl⟩:=tab_sl h
 refine fit112.calls rfl ?_
 unfold ir112 tabV insV
 (try simp only [go_sem,simprocAttr])
 refine e_bx rfl ?_
 intro w1 hb1 hm1 _
 (try simp only [go_sem,simprocAttr])
 refine e_bx rfl ?_
 intro w2 hb2 hm2 _
 have hb12:=hm2.at hb1 (fun h=>h)
 have hm02:=hm1.trans hm2
 have hm02d:=hm02.drew
 have h2:=h.mod hm02 (fun _ _ h=>h) (fun _ h=>h)
 have o1:=hx.o1
 have o2:=hx.o2
 have hop:x.op=1∨x.op=2∨x.op=3∨x.op=4∨x.op=5∨x.op=6∨x.op=7∨x.op=8∨x.op=9∨x.op=10∨x.op=11∨x.op=12∨x.op=13∨x.op=14∨x.op=15∨x.op=16∨x.op=17:=by omega
 have e1:IntKind.i64.wrap (d+1)=d+1:=wrap_in (by omega) (by omega)
 have e2:IntKind.i64.wrap (d - 1)=d - 1:=wrap_in (by omega) (by omega)
 have fin:∀ (b:Bool) (s:Int),stackedS T x d=(b,s)→∀ w',Mod (fun _=>False) w w'→(b&&decide (s≤8000))=(b&&decide (s≤8000)):=fun _ _ _ _ _=>rfl
 have shat:x.op=9∨x.op=10→∃ (j:Nat) (ad:Addr) (c:Nat),x.a=j∧aS=some ad∧(0:Int)≤j∧(j:Int) < T.shapes.length∧w2.cell? ⟨(ad.add (j*2)).block,(ad.add (j*2)).off+1,none⟩=some (I (T.sh x.a).fields)∧0≤(T.sh x.a).fields∧(T.sh x.a).fields≤8:=by
   intro ho
   have hc:=hx.c9 (by omega)
   obtain ⟨j,hj⟩:∃ j:Nat,x.a=j:=⟨x.a.toNat,by omega⟩
   obtain ⟨ad,c,e,_,hf⟩:=shape_at h2 (i:=j) (by omega)
   cases e
   refine ⟨j,ad,cS,hj,rfl,by omega,by omega,by rw [hj];exact hf,?_⟩
   have:T.sh x.a∈T.shapes:=by
     unfold Tab.sh
     rw [List.getD_eq_getElem?_getD,List.getElem?_eq_getElem (by omega)]
     exact List.getElem_mem _
   exact hsh _ this
 rcases hop with hop | hop | hop | hop | hop | hop | hop | hop | hop | hop | hop | hop | hop | hop | hop | hop | hop
 · have e:stackedS T x d=(decide (x.a < d),d+1):=by simp [stackedS,hop]
   rw [e]
   (try simp only [go_sem,simprocAttr,cell_of hb2,Value.cells,hop,Int.reduceBEq,e1])
   cases h1:decide (x.a < d)<;>(try simp only [go_sem,simprocAttr,h1,Bool.true_and,Bool.false_and])<;>exact hm02
 · have e:stackedS T x d=(true,d+1):=by simp [stackedS,hop]
   rw [e]
   (try simp only [go_sem,simprocAttr,cell_of hb2,Value.cells,hop,Int.reduceBEq,e1,Bool.true_and])
   exact hm02
 · have e:stackedS T x d=(true,d+1):=by simp [stackedS,hop]
   rw [e]
   (try simp only [go_sem,simprocAttr,cell_of hb2,Value.cells,hop,Int.reduceBEq,e1,Bool.true_and])
   exact hm02
 · have hca:=hx.c1 (by omega)
   have e3:IntKind.i64.wrap (d - x.a)=d - x.a:=wrap_in (by omega) (by omega)
   have e:stackedS T x d=(if x.op=4 then decide (x.a < d) else decide (x.a < d - 1),d - x.a):=by simp [stackedS,hop]
   rw [e,hop]
   (try simp only [go_sem,simprocAttr,cell_of hb2,Value.cells,hop,Int.reduceBEq,e2,e3,Int.reduceEq])
   cases h1:decide (x.a < d)<;>cases h2:decide (x.a < d - 1)<;>(try simp only [go_sem,simprocAttr,h1,h2,Bool.true_and,Bool.false_and])<;>exact hm02.drew
 · have hca:=hx.c1 (by omega)
   have e3:IntKind.i64.wrap (d - x.a)=d - x.a:=wrap_in (by omega) (by omega)
   have e:stackedS T x d=(if x.op=4 then decide (x.a < d) else decide (x.a < d - 1),d - x.a):=by simp [stackedS,hop]
   rw [e,hop]
   (try simp only [go_sem,simprocAttr,cell_of hb2,Value.cells,hop,Int.reduceBEq,e2,e3,Int.reduceEq])
   cases h1:decide (x.a < d)<;>cases h2:decide (x.a < d - 1)<;>(try simp only [go_sem,simprocAttr,h1,h2,Bool.true_and,Bool.false_and])<;>exact hm02.drew
 · have e:stackedS T x d=(decide (d > 2),d - 1):=by simp [stackedS,hop]
   rw [e]
   (try simp only [go_sem,simprocAttr,cell_of hb2,Value.cells,hop,Int.reduceBEq,e2])
   cases h1:decide (d > 2)<;>(try simp only [go_sem,simprocAttr,h1,Bool.true_and,Bool.false_and])<;>exact hm02
 · have e:stackedS T x d=(decide (x.a < d),d - 1):=by simp [stackedS,hop]
   rw [e]
   (try simp only [go_sem,simprocAttr,cell_of hb2,Value.cells,hop,Int.reduceBEq,e2])
   cases h1:decide (x.a < d)<;>(try simp only [go_sem,simprocAttr,h1,Bool.true_and,Bool.false_and])<;>exact hm02
 · have hca:=hx.c1 (by omega)
   have e:stackedS T x d=(decide (x.a≤8000),d+min x.a 8000):=by simp [stackedS,hop]
   have e3:IntKind.i64.wrap (d+min x.a 8000)=d+min x.a 8000:=wrap_in (by omega) (by omega)
   rw [e]
   have hmn:(if 8000 < x.a then 8000 else x.a)=min x.a 8000:=by split<;>omega
   (try simp only [go_sem,simprocAttr,cell_of hb2,Value.cells,hop,Int.reduceBEq,hmn,e3])
   cases h1:decide (x.a≤8000)<;>(try simp only [go_sem,simprocAttr,h1,Bool.true_and,Bool.false_and])<;>exact hm02.drew
 · obtain ⟨j,ad,c,hj,rfl,b1,b2,hf,f1,f2⟩:=shat (.inl hop)
   have e:stackedS T x d=(decide ((T.sh x.a).fields < d),d - (T.sh x.a).fields+1):=by simp [stackedS,hop]
   have e3:IntKind.i64.wrap (d - (T.sh x.a).fields)=d - (T.sh x.a).fields:=wrap_in (by omega) (by omega)
   have e4:IntKind.i64.wrap (d - (T.sh x.a).fields+1)=d - (T.sh x.a).fields+1:=wrap_in (by omega) (by omega)
   have b3:(0:Int)≤j∧(j:Int) < T.shapes.length:=⟨b1,b2⟩
   rw [e]
   generalize (T.sh x.a).fields=q at *
   (try simp only [go_sem,simprocAttr,zb4,zb6,cell_of hb2,cell_of hb12,Value.cells,hop,hj,Int.reduceBEq,b3,hf,e3,e4])
   cases h1:decide (q < d)<;>(try simp only [go_sem,simprocAttr,h1,Bool.true_and,Bool.false_and])<;>exact hm02
 · obtain ⟨j,ad,c,hj,rfl,b1,b2,hf,f1,f2⟩:=shat (.inr hop)
   have e:stackedS T x d=(decide (d > 1),d - 1+(T.sh x.a).fields):=by simp [stackedS,hop]
   have e3:IntKind.i64.wrap (d - 1+(T.sh x.a).fields)=d - 1+(T.sh x.a).fields:=wrap_in (by omega) (by omega)
   have b3:(0:Int)≤j∧(j:Int) < T.shapes.length:=⟨b1,b2⟩
   rw [e]
   generalize (T.sh x.a).fields=q at *
   (try simp only [go_sem,simprocAttr,zb4,zb6,cell_of hb2,cell_of hb12,Value.cells,hop,hj,Int.reduceBEq,b3,hf,e2,e3])
   cases h1:decide (d > 1)<;>(try simp only [go_sem,simprocAttr,h1,Bool.true_and,Bool.false_and])<;>exact hm02.drew
 · have e:stackedS T x d=(decide (d > 1),d):=by simp [stackedS,hop]
   rw [e]
   (try simp only [go_sem,simprocAttr,cell_of hb2,Value.cells,hop,Int.reduceBEq])
   cases h1:decide (d > 1)<;>(try simp only [go_sem,simprocAttr,h1,Bool.true_and,Bool.false_and])<;>exact hm02
 · have e:stackedS T x d=(decide (d > 2),d - 1):=by simp [stackedS,hop]
   rw [e]
   (try simp only [go_sem,simprocAttr,cell_of hb2,Value.cells,hop,Int.reduceBEq,e2])
   cases h1:decide (d > 2)<;>(try simp only [go_sem,simprocAttr,h1,Bool.true_and,Bool.false_and])<;>exact hm02
 · have e:stackedS T x d=(true,d):=by simp [stackedS,hop]
   rw [e]
   (try simp only [go_sem,simprocAttr,cell_of hb2,Value.cells,hop,Int.reduceBEq,Bool.true_and])
   exact hm02
 · have e:stackedS T x d=(decide (d > 1),d):=by simp [stackedS,hop]
   rw [e]
   (try simp only [go_sem,simprocAttr,cell_of hb2,Value.cells,hop,Int.reduceBEq])
   cases h1:decide (d > 1)<;>(try simp only [go_sem,simprocAttr,h1,Bool.true_and,Bool.false_and])<;>exact hm02
 · have e:stackedS T x d=(decide (d > 1),d):=by simp [stackedS,hop]
   rw [e]
   (try simp only [go_sem,simprocAttr,cell_of hb2,Value.cells,hop,Int.reduceBEq])
   cases h1:decide (d > 1)<;>(try simp only [go_sem,simprocAttr,h1,Bool.true_and,Bool.false_and])<;>exact hm02
 · have e:stackedS T x d=(true,d):=by simp [stackedS,hop]
   rw [e]
   (try simp only [go_sem,simprocAttr,cell_of hb2,Value.cells,hop,Int.reduceBEq,Bool.true_and])
   exact hm02
 · have e:stackedS T x d=(decide (d=1),d):=by simp [stackedS,hop]
   rw [e,← ieq]
   (try simp only [go_sem,simprocAttr,cell_of hb2,Value.cells,hop,Int.reduceBEq])
   cases h1:(d == 1)<;>(try simp only [go_sem,simprocAttr,h1,Bool.true_and,Bool.false_and])<;>exact hm02
end
section
open Go Go.W
theorem ins_idx {g:Gl} {i:Nat} (hi:i < g.code.length):g.ins i=g.code[i]:=by unfold Gl.ins;rw [Int.toNat_natCast,List.getD_eq_getElem?_getD,List.getElem?_eq_getElem hi];rfl
theorem numLoop_at (T:Tab) (len:Nat) (code:List Ins) {i:Nat} (hi:i < code.length):numLoop T len i (code.drop i)=if numErr T len i code[i]=0 then numLoop T len (i+1) (code.drop (i+1)) else numErr T len i code[i]:=by
 rw [List.drop_eq_getElem_cons hi];rfl
theorem depthLoop_at (T:Tab) (len:Nat) (code:List Ins) (D:List Int) {i:Nat} (hi:i < code.length):depthLoop T len i (code.drop i) D=if depthErr T len i code[i] D=0 then depthLoop T len (i+1) (code.drop (i+1)) (depthStep T D i code[i]) else depthErr T len i code[i] D:=by
 rw [List.drop_eq_getElem_cons hi];rfl
section
variable {w:World} {vsh vgl cv:Value} {T:Tab} {g:Gl} {B:Nat→Prop}
theorem f_checkCode1 (h:TabAt w vsh vgl T B) (hcv:RowsAt w cv 3 (g.code.map insRow) B) (hcl:g.code.length≤8000) {b2 b3:Nat} (hb2:w.heap[b2]? = some (.cells #[vsh,vgl] 25 (0,0))) (hb3:w.heap[b3]? = some (.cells #[.string g.name,I g.arity,cv] 70 (0,0)))
   {Q:Post} (hret:∀ e w',e≠0→numLoop T g.code.length 0 g.code=e→Mod (fun _=>False) w w'→Q .ret [(4,I e)] w')
   (hend:∀ w',numLoop T g.code.length 0 g.code=0→Mod (fun _=>False) w w'→∀ t,Q .normal [(2,ptr b2),(3,ptr b3),(20,cv),(21,I g.code.length),(22,I g.code.length),(23,t)] w') :
   irwp Tryz.prog 152 (.block 0 (.loop ir60L1)) Q [(2,ptr b2),(3,ptr b3),(20,cv),(21,I g.code.length),(22,I 0)] w:=by
 obtain ⟨⟨aS,cS,rfl⟩,aG,cG,rfl⟩:=tab_sl h
 obtain ⟨acv,ccv,rfl⟩:=rows_sl hcv
 rw [List.length_map] at *
 (try simp only [go_sem,simprocAttr])
 refine ir_loop (fun z ρ w'=>∃ i:Nat,z=g.code.length - i∧i≤g.code.length∧Mod (fun _=>False) w w'∧numLoop T g.code.length 0 g.code=numLoop T g.code.length i (g.code.drop i) ∧
   ρ=[(2,ptr b2),(3,ptr b3),(20,.slice acv g.code.length ccv),(21,I g.code.length),(22,I i)]) g.code.length ⟨0,rfl,by omega,Mod.refl _ _,rfl,rfl⟩ ?_
 rintro z ρ w2 ⟨i,rfl,hi,hm2,heq,rfl⟩
 have hb2':=hm2.at hb2 (fun h=>h)
 have hb3':=hm2.at hb3 (fun h=>h)
 unfold ir60L1
 (try simp only [go_sem,simprocAttr])
 refine ir_cond rfl (fun hlt=>?_) (fun hlt=>?_)
 · have hlt:i < g.code.length:=by simpa using hlt
   have h2:=h.mod hm2 (fun _ _ h=>h) (fun _ h=>h)
   obtain ⟨ad,c,e',_,hln⟩:=ins_at (hcv.mod hm2 (fun _ _ h=>h) (fun _ h=>h)) hlt
   cases e'
   rw [ins_idx hlt] at hln
   have hloop:=numLoop_at T g.code.length g.code hlt
   generalize hx:g.code[i]=x at *
   have b1:(0:Int)≤i∧(i:Int) < g.code.length:=by omega
   (try simp only [go_sem,simprocAttr,zb4,zb6,b1,hln,insV])
   refine e_al ?_
   intro w3 hb30 hm3 _
   refine e_sta (cs:=[I 0,I 0,I 0]) rfl rfl hb30 rfl rfl (by simp [Value.oneCell']) ?_
   intro w4 hb4 hm4 _
   have hm24:Mod (fun _=>False) w2 w4:=hm3.step hm4 (fun x hx hl=>by subst hx;omega)
   (try simp only [go_sem,simprocAttr,cell_of hb4])
   refine e_call (by rfl) ?_
   refine (f_forms w4 x.op).mono ?_
   rintro _ w5 ⟨⟨s,a,b,rfl,hf⟩,hm5⟩
   (try simp only [go_sem,simprocAttr])
   refine e_al ?_
   intro w6 hb6 hm6 _
   refine e_sta (cs:=[.string ⟨#[]⟩,I 0,I 0]) rfl rfl hb6 rfl rfl (by simp [Value.oneCell']) ?_
   intro w7 hb7 hm7 _
   have hm57:Mod (fun _=>False) w5 w7:=hm6.step hm7 (fun x hx hl=>by subst hx;omega)
   have hm27:=(hm24.trans hm5).trans hm57
   have hm07:=hm2.trans hm27
   (try simp only [go_sem,simprocAttr])
   cases hfs:formS x.op with
   | none=>
     have e:numErr T g.code.length i x=172:=by unfold numErr;rw [hfs]
     (try simp only [go_sem,simprocAttr,Option.isSome_none,Bool.not_false])
     exact hret 172 _ (by decide) (by rw [heq,hloop,e];rfl) hm07
   | some p=>
     obtain ⟨rfl,a1,a2,b1',b2'⟩:=hf p hfs
     have e:numErr T g.code.length i x=if numberS T g.code.length i x.a a=172∨numberS T g.code.length i x.b b=172 then 172 else if numberS T g.code.length i x.a a≠0∨numberS T g.code.length i x.b b≠0 then 174 else 0:=by unfold numErr;rw [hfs]
     have hb27:=hm27.at hb2' (fun h=>h)
     have hb37:=hm27.at hb3' (fun h=>h)
     have hb47:=(hm5.trans hm57).at hb4 (fun h=>h)
     have h7:=h.mod hm07.drew (fun _ _ h=>h) (fun _ h=>h)
     have hb27d:w7.drew.heap[b2]? = _:=hb27
     have hb37d:w7.drew.heap[b3]? = _:=hb37
     have hl2:=ln_of (cs:=[_,_]) (off:=0) (n:=2) hb27d (by simp)
     have hl3:=ln_of (cs:=[_,_,_]) (off:=0) (n:=3) hb37d (by simp)
     (try simp only [go_sem,simprocAttr,Option.isSome_some,Bool.not_true,hl2,hl3,cell_of hb47,cell_of hb7])
     refine e_call (by rfl) ?_
     refine (f_number (g:=g) h7 i x.a (kind:=a) ⟨a1,a2⟩).mono ?_
     rintro _ w8 ⟨rfl,hm8⟩
     have k1:=hm8.old b2 (lt_of_heap hb27) (fun h=>h)
     have k2:=hm8.old b3 (lt_of_heap hb37) (fun h=>h)
     have k3:=hm8.old w2.heap.size (lt_of_heap hb47) (fun h=>h)
     have k4:=hm8.old w5.heap.size (lt_of_heap hb7) (fun h=>h)
     (try simp only [go_sem,simprocAttr])
     refine ⟨by simp only [drew_heap,k1,k2,k3,k4,and_self,implies_true],?_⟩
     refine e_call (by rfl) ?_
     refine (f_number (g:=g) (h7.mod hm8 (fun _ _ h=>h) (fun _ h=>h)) i x.b (kind:=b) ⟨b1',b2'⟩).mono ?_
     rintro _ w9 ⟨rfl,hm9⟩
     have hm79:Mod (fun _=>False) w7 w9:=(hm8.of_drew).trans hm9
     have hm09:=hm07.trans hm79
     generalize numberS T g.code.length i x.a a=n1 at *
     generalize numberS T g.code.length i x.b b=n2 at *
     (try simp only [go_sem,simprocAttr])
     refine wpS_cut (fun ρ w'=>w9=w'∧ρ.get 2=some (ptr b2)∧ρ.get 3=some (ptr b3)∧ρ.get 9=some (I n1)∧ρ.get 10=some (I n2)∧ρ.get 20=some (.slice (some ad) g.code.length ccv)∧ρ.get 21=some (I g.code.length)∧ρ.get 22=some (I i)∧ρ.get 56=some (.bool (decide (n1=172∨n2=172)))) ?_ ?_
     · cases h1:(n1 == 172)<;>(try simp only [go_sem,simprocAttr,h1])<;>(rw [ieq] at h1;simp only [zb1,zb2,zb3,zb4,zb5] at h1;simp [h1,ieq])
     rintro ρ _ ⟨rfl,r2,r3,r9,r10,r20,r21,r22,r56⟩
     (try simp only [go_sem,simprocAttr,r2,r3,r9,r10,r20,r21,r22,r56])
     refine ir_cond rfl (fun h172=>?_) (fun h172=>?_)
     · simp only [zb1,zb2,zb3,zb4,zb5] at h172
       rw [if_pos h172] at e
       (try simp only [go_sem,simprocAttr])
       exact hret 172 _ (by decide) (by rw [heq,hloop,e];rfl) hm09
     simp only [zb1,zb2,zb3,zb4,zb5] at h172
     rw [if_neg h172] at e
     (try simp only [go_sem,simprocAttr])
     refine wpS_cut (fun ρ w'=>w9=w'∧ρ.get 2=some (ptr b2)∧ρ.get 3=some (ptr b3)∧ρ.get 20=some (.slice (some ad) g.code.length ccv)∧ρ.get 21=some (I g.code.length)∧ρ.get 22=some (I i)∧ρ.get 62=some (.bool (decide (n1≠0∨n2≠0)))) ?_ ?_
     · cases h1:(n1 != 0)<;>(try simp only [go_sem,simprocAttr,h1])<;>(simp only [zb1,zb2,zb3,zb4,zb5] at h1;simp [h1,bne,ieq])
     rintro ρ _ ⟨rfl,r2,r3,r20,r21,r22,r62⟩
     (try simp only [go_sem,simprocAttr,r2,r3,r20,r21,r22,r62])
     refine ir_cond rfl (fun h0=>?_) (fun h0=>?_)
     · simp only [zb1,zb2,zb3,zb4,zb5] at h0
       rw [if_pos h0] at e
       (try simp only [go_sem,simprocAttr])
       exact hret 174 _ (by decide) (by rw [heq,hloop,e];rfl) hm09
     · simp only [zb1,zb2,zb3,zb4,zb5] at h0
       rw [if_neg h0] at e
       have e1:IntKind.i64.wrap ((i:Int)+1)=((i+1:Nat):Int):=by rw [wrap_in (by omega) (by omega)];omega
       (try simp only [go_sem,simprocAttr,e1])
       exact ⟨_,by omega,i+1,rfl,by omega,hm09,by rw [heq,hloop,e];rfl,rfl⟩
 · have hlt:¬ i < g.code.length:=by simpa using hlt
   obtain rfl:i=g.code.length:=by omega
   (try simp only [go_sem,simprocAttr])
   refine hend w2 ?_ hm2 _
   rw [heq,List.drop_length];rfl
end
end
section
open Go Go.W
def DBnd (D:List Int):Prop:=∀ k:Nat,0≤D.getD k 0∧D.getD k 0≤8000
theorem note_bnd {D:List Int} (h:DBnd D) (a:Int) {d:Int} (hd:0≤d∧d≤8000):DBnd (noteS D a d):=by
 intro k
 unfold noteS
 split
 · rw [getD_set']
   split
   · exact hd
   · exact h k
 · exact h k
section
variable {w:World} {vsh vgl cv:Value} {T:Tab} {g:Gl} {B:Nat→Prop}
set_option maxHeartbeats 1000000 in
theorem f_checkCode2 (h:TabAt w vsh vgl T B) (hcv:RowsAt w cv 3 (g.code.map insRow) B) (hsh:∀ s∈T.shapes,0≤s.fields∧s.fields≤8) (hcl:g.code.length≤8000) (hxa:∀ x∈g.code,x.a≤9223372036854775807) (hnum:numLoop T g.code.length 0 g.code=0)
   {b2 b3 bD:Nat} (hB:∀ b,B b→b≠bD) (hb2:w.heap[b2]? = some (.cells #[vsh,vgl] 25 (0,0))) (hb3:w.heap[b3]? = some (.cells #[.string g.name,I g.arity,cv] 70 (0,0))) (hne:b2≠bD∧b3≠bD)
   {D0:List Int} (hD:w.heap[bD]? = some (.cells (D0.map I).toArray 3 (0,0))) (hDl:D0.length=g.code.length) (hDb:DBnd D0)
   {Q:Post} (hret:∀ e w',e≠0→depthLoop T g.code.length 0 g.code D0=e→Mod (· = bD) w w'→Q .ret [(4,I e)] w')
   (hend:∀ w',depthLoop T g.code.length 0 g.code D0=0→Mod (· = bD) w w'→∀ ρ,Q .normal ρ w') :
   irwp Tryz.prog 152 (.block 2 (.loop ir60L2)) Q [(2,ptr b2),(3,ptr b3),(11,.slice (some ⟨bD,0,none⟩) g.code.length g.code.length),(78,cv),(79,I g.code.length),(80,I 0)] w:=by
 obtain ⟨⟨aS,cS,rfl⟩,aG,cG,rfl⟩:=tab_sl h
 obtain ⟨acv,ccv,rfl⟩:=rows_sl hcv
 rw [List.length_map] at *
 (try simp only [go_sem,simprocAttr])
 refine ir_loop (fun z ρ w'=>∃ (i:Nat) (D:List Int),z=g.code.length - i∧i≤g.code.length∧Mod (· = bD) w w'∧D.length=g.code.length∧DBnd D∧w'.heap[bD]? = some (.cells (D.map I).toArray 3 (0,0))∧depthLoop T g.code.length 0 g.code D0=depthLoop T g.code.length i (g.code.drop i) D ∧
   ρ=[(2,ptr b2),(3,ptr b3),(11,.slice (some ⟨bD,0,none⟩) g.code.length g.code.length),(78,.slice acv g.code.length ccv),(79,I g.code.length),(80,I i)]) g.code.length ⟨0,D0,rfl,by omega,Mod.refl _ _,hDl,hDb,hD,rfl,rfl⟩ ?_
 rintro z ρ w2 ⟨i,D,rfl,hi,hm2,hDl,hDb,hD2,heq,rfl⟩
 have hb2':=hm2.at hb2 hne.1
 have hb3':=hm2.at hb3 hne.2
 unfold ir60L2
 (try simp only [go_sem,simprocAttr])
 refine ir_cond rfl (fun hlt=>?_) (fun hlt=>?_)
 · have hlt:i < g.code.length:=by simpa using hlt
   have h2:=h.mod hm2 (fun b hb=>hB b hb) (fun _ h=>h)
   obtain ⟨ad,c,e',_,hln⟩:=ins_at (hcv.mod hm2 (fun b hb=>hB b hb) (fun _ h=>h)) hlt
   cases e'
   rw [ins_idx hlt] at hln
   have hloop:=depthLoop_at T g.code.length g.code D hlt
   have hnx:NumsOk T g.code.length i g.code[i]:=by
     have:=numLoop_ok g.code 0 hnum i _ (List.getElem?_eq_getElem hlt)
     rw [Nat.zero_add] at this
     exact numErr_ok this
   have hxa':=hxa _ (List.getElem_mem hlt)
   generalize hx:g.code[i]=x at *
   have b1:(0:Int)≤i∧(i:Int) < g.code.length:=by omega
   have hcD:=ints_at hD2 (i:=i) (by omega)
   (try simp only [go_sem,simprocAttr,zb4,zb6,b1,hln,insV])
   refine e_al ?_
   intro w3 hb30 hm3 _
   refine e_sta (cs:=[I 0,I 0,I 0]) rfl rfl hb30 rfl rfl (by simp [Value.oneCell']) ?_
   intro w4 hb4 hm4 _
   have hm24:Mod (fun _=>False) w2 w4:=hm3.step hm4 (fun x hx hl=>by subst hx;omega)
   have hcD4:=hm24.cell hcD (fun h=>h)
   have hD4:=hm24.at hD2 (fun h=>h)
   have hdb:=hDb i
   generalize hdv:D.getD i 0=d at *
   (try simp only [go_sem,simprocAttr,zb4,zb6,b1,add_at,hcD4])
   have e0:depthErr T g.code.length i x D=if d=0 then 174
     else if ¬ ((stackedS T x d).1=true∧(stackedS T x d).2≤8000) then 173
     else if goesOn x∧i+1=g.code.length then 174
     else if goesOn x∧(noteS D ((i:Int)+1) (stackedS T x d).2).getD (i+1) 0≠(stackedS T x d).2 then 173
     else if targetS x > 0∧(depthStep T D i x).getD (targetS x).toNat 0≠(stackedS T x d).2 then 173
     else 0:=by unfold depthErr;rw [hdv]
   have hm04:Mod (· = bD) w w4:=hm2.step hm24 (fun _ h _=>h.elim)
   refine ir_cond rfl (fun hz=>?_) (fun hz=>?_)
   · simp only [zb1,zb2,zb3,zb4,zb5] at hz
     rw [if_pos hz] at e0
     (try simp only [go_sem,simprocAttr])
     exact hret 174 _ (by decide) (by rw [heq,hloop,e0];rfl) hm04
   simp only [zb1,zb2,zb3,zb4,zb5] at hz
   rw [if_neg hz] at e0
   have hb24:=hm24.at hb2' (fun h=>h)
   have hb34:=hm24.at hb3' (fun h=>h)
   have hl2:=ln_of (cs:=[_,_]) (off:=0) (n:=2) hb24 (by simp)
   have hl4:=ln_of (cs:=[_,_,_]) (off:=0) (n:=3) hb4 (by simp)
   (try simp only [go_sem,simprocAttr,hl2,hl4])
   refine e_call (by rfl) ?_
   refine (f_stacked (x:=x) (h2.mod hm24 (fun _ _ h=>h) (fun _ h=>h)) hsh hnx hxa' (d:=d) hdb).mono ?_
   rintro _ w5 ⟨rfl,hm5⟩
   have hpos:(stackedS T x d).1=true→1≤(stackedS T x d).2:=stacked_pos (fun s hs=>(hsh s hs).1) hnx (by omega)
   have hst:depthStep T D i x=if targetS x > 0 then noteS (if x.op≠13∧x.op≠16∧x.op≠17 then noteS D ((i:Int)+1) (stackedS T x d).2 else D) (targetS x) (stackedS T x d).2 else (if x.op≠13∧x.op≠16∧x.op≠17 then noteS D ((i:Int)+1) (stackedS T x d).2 else D):=by unfold depthStep;rw [hdv]
   generalize stackedS T x d=st at *
   obtain ⟨ok,s⟩:=st
   have hm05:=hm04.step hm5 (fun _ h _=>h.elim)
   have hb45:=hm5.at hb4 (fun h=>h)
   have hb35:=hm5.at hb34 (fun h=>h)
   have hD5:=hm5.at hD4 (fun h=>h)
   (try simp only [go_sem,simprocAttr])
   refine ir_cond rfl (fun hok=>?_) (fun hok=>?_)
   · have hok':¬ (ok=true∧s≤8000):=by
       intro hh
       simp [hh.1,hh.2] at hok
     rw [if_pos hok'] at e0
     (try simp only [go_sem,simprocAttr])
     exact hret 173 _ (by decide) (by rw [heq,hloop,e0];rfl) hm05
   have hok':ok=true∧s≤8000:=by simpa using hok
   rw [if_neg (by simpa using hok')] at e0
   have hsb:0≤s∧s≤8000:=⟨by have:=hpos hok'.1;omega,hok'.2⟩
   (try simp only [go_sem,simprocAttr,cell_of hb45])
   have e1:IntKind.i64.wrap ((i:Int)+1)=(i:Int)+1:=wrap_in (by omega) (by omega)
   refine wpS_cut (fun ρ w'=>w5=w'∧ρ.get 2=some (ptr b2)∧ρ.get 3=some (ptr b3)∧ρ.get 11=some (.slice (some ⟨bD,0,none⟩) g.code.length g.code.length)∧ρ.get 12=some (I i)∧ρ.get 13=some (ptr w2.heap.size)∧ρ.get 15=some (I s)∧ρ.get 17=some (.bool (decide (goesOn x)))∧ρ.get 78=some (.slice (some ad) g.code.length ccv)∧ρ.get 79=some (I g.code.length)∧ρ.get 80=some (I i)) ?_ ?_
   · have eG:decide (goesOn x)=((x.op != 13)&&(x.op != 16)&&(x.op != 17)):=by
       unfold goesOn
       by_cases a:x.op=13<;>by_cases b:x.op=16<;>by_cases c:x.op=17<;>simp [a,b,c]
     rw [eG]
     cases h1:(x.op != 13)<;>cases h3:(x.op != 16)<;>(try simp only [go_sem,simprocAttr,h1,h3,cell_of hb45,Bool.true_and,Bool.false_and])<;>(simp [h1,h3])
   rintro ρ _ ⟨rfl,r2,r3,r11,r12,r13,r15,r17,r78,r79,r80⟩
   (try simp only [go_sem,simprocAttr,r2,r3,r11,r12,r13,r15,r17,r78,r79,r80])
   refine wpS_cut (fun ρ w'=>w5=w'∧ρ.get 2=some (ptr b2)∧ρ.get 3=some (ptr b3)∧ρ.get 11=some (.slice (some ⟨bD,0,none⟩) g.code.length g.code.length)∧ρ.get 12=some (I i)∧ρ.get 13=some (ptr w2.heap.size)∧ρ.get 15=some (I s)∧ρ.get 17=some (.bool (decide (goesOn x)))∧ρ.get 78=some (.slice (some ad) g.code.length ccv)∧ρ.get 79=some (I g.code.length)∧ρ.get 80=some (I i)∧ρ.get 121=some (.bool (decide (goesOn x∧i+1=g.code.length)))) ?_ ?_
   · by_cases hG:goesOn x
     · have hGt:decide (goesOn x)=true:=decide_eq_true hG
       have c1:(((i:Int)+1) == (g.code.length:Int))=decide (i+1=g.code.length):=by rw [ieq];exact decide_eq_decide.2 (by omega)
       (try simp only [go_sem,simprocAttr,hGt,cell_of hb35,e1])
       simp [hG,c1]
     · have hGf:decide (goesOn x)=false:=decide_eq_false hG
       (try simp only [go_sem,simprocAttr,hGf])
       simp [hG]
   rintro ρ _ ⟨rfl,r2,r3,r11,r12,r13,r15,r17,r78,r79,r80,r121⟩
   (try simp only [go_sem,simprocAttr,r2,r3,r11,r12,r13,r15,r17,r78,r79,r80,r121])
   refine ir_cond rfl (fun hg1=>?_) (fun hg1=>?_)
   · simp only [zb1,zb2,zb3,zb4,zb5] at hg1
     rw [if_pos hg1] at e0
     (try simp only [go_sem,simprocAttr])
     exact hret 174 _ (by decide) (by rw [heq,hloop,e0];rfl) hm05
   simp only [zb1,zb2,zb3,zb4,zb5] at hg1
   rw [if_neg hg1] at e0
   (try simp only [go_sem,simprocAttr])
   refine wpS_cut (fun ρ w'=>∃ D1,D1=(if goesOn x then noteS D ((i:Int)+1) s else D)∧w'.heap[bD]? = some (.cells (D1.map I).toArray 3 (0,0))∧Mod (· = bD) w5 w'∧ρ.get 2=some (ptr b2)∧ρ.get 3=some (ptr b3)∧ρ.get 11=some (.slice (some ⟨bD,0,none⟩) g.code.length g.code.length)∧ρ.get 13=some (ptr w2.heap.size)∧ρ.get 15=some (I s)∧ρ.get 78=some (.slice (some ad) g.code.length ccv)∧ρ.get 79=some (I g.code.length)∧ρ.get 80=some (I i)∧ρ.get 130=some (.bool (decide (goesOn x∧(noteS D ((i:Int)+1) s).getD (i+1) 0≠s)))) ?_ ?_
   · by_cases hG:goesOn x
     · have hGt:decide (goesOn x)=true:=decide_eq_true hG
       (try simp only [go_sem,simprocAttr,hGt,e1])
       refine e_call (by rfl) ?_
       have hne1:i+1≠g.code.length:=fun e=>hg1 ⟨hG,e⟩
       have hr:=f_reach hD5 (a:=(i:Int)+1) (d:=s) ⟨by omega,by omega⟩
       rw [hDl] at hr
       refine hr.mono ?_
       rintro _ w6 ⟨rfl,hD6,hm6⟩
       (try simp only [go_sem,simprocAttr])
       refine ⟨_,rfl,by rw [if_pos hG];exact hD6,hm6,?_⟩
       rw [show ((i:Int)+1).toNat=i+1 by omega]
       simp [hG]
     · have hGf:decide (goesOn x)=false:=decide_eq_false hG
       (try simp only [go_sem,simprocAttr,hGf])
       refine ⟨_,rfl,by rw [if_neg hG];exact hD5,Mod.refl _ _,?_⟩
       simp [hG]
   rintro ρ w6 ⟨D1,hD1,hD6,hm6,r2,r3,r11,r13,r15,r78,r79,r80,r130⟩
   have hm06:Mod (· = bD) w w6:=hm05.trans hm6
   have hne4:w2.heap.size≠bD:=fun e=>by have:=lt_of_heap hD2;omega
   have hb46:=hm6.at hb45 hne4
   have hD1l:D1.length=g.code.length:=by rw [hD1];split<;>simp [note_len,hDl]
   have hD1b:DBnd D1:=by rw [hD1];split;exact note_bnd hDb _ hsb;exact hDb
   have hst1:depthStep T D i x=if targetS x > 0 then noteS D1 (targetS x) s else D1:=by
     rw [hst,hD1];rfl
   (try simp only [go_sem,simprocAttr,r2,r3,r11,r13,r15,r78,r79,r80,r130])
   refine ir_cond rfl (fun hg2=>?_) (fun hg2=>?_)
   · simp only [zb1,zb2,zb3,zb4,zb5] at hg2
     rw [if_pos hg2] at e0
     (try simp only [go_sem,simprocAttr])
     exact hret 173 _ (by decide) (by rw [heq,hloop,e0];rfl) hm06
   simp only [zb1,zb2,zb3,zb4,zb5] at hg2
   rw [if_neg hg2] at e0
   (try simp only [go_sem,simprocAttr,cell_of hb46])
   refine ir_blk (fun ρ w'=>w6=w'∧ρ.get 2=some (ptr b2)∧ρ.get 3=some (ptr b3)∧ρ.get 11=some (.slice (some ⟨bD,0,none⟩) g.code.length g.code.length)∧ρ.get 15=some (I s)∧ρ.get 18=some (I (targetS x))∧ρ.get 78=some (.slice (some ad) g.code.length ccv)∧ρ.get 79=some (I g.code.length)∧ρ.get 80=some (I i)) ?_ ?_
   · have hop:=hnx.o1
     by_cases o13:x.op=13
     · have et:targetS x=x.a:=by unfold targetS;rw [if_pos o13]
       rw [et]
       (try simp only [go_sem,simprocAttr,o13,Int.reduceBEq,cell_of hb46])
     by_cases o14:x.op=14
     · have et:targetS x=x.b:=by unfold targetS;rw [if_neg o13,if_pos (.inl o14)]
       rw [et]
       (try simp only [go_sem,simprocAttr,o14,Int.reduceBEq,cell_of hb46])
     by_cases o15:x.op=15
     · have et:targetS x=x.b:=by unfold targetS;rw [if_neg o13,if_pos (.inr o15)]
       rw [et]
       (try simp only [go_sem,simprocAttr,o15,Int.reduceBEq,cell_of hb46])
     have et:targetS x=0:=by unfold targetS;rw [if_neg o13,if_neg (by omega)]
     rw [et]
     have n13:(x.op == 13)=false:=by rw [ieq];exact decide_eq_false o13
     have n14:(x.op == 14)=false:=by rw [ieq];exact decide_eq_false o14
     have n15:(x.op == 15)=false:=by rw [ieq];exact decide_eq_false o15
     (try simp only [go_sem,simprocAttr,n13,n14,n15,cell_of hb46])
   rintro ρ _ ⟨rfl,r2,r3,r11,r15,r18,r78,r79,r80⟩
   have htl:targetS x > 0→targetS x < g.code.length:=by
     intro ht
     unfold targetS at ht ⊢
     split at ht
     · rename_i e;rw [if_pos e];exact (hnx.c13 e).2
     · rename_i e
       rw [if_neg e]
       split at ht
       · rename_i e2;rw [if_pos e2];exact (hnx.c14 e2).2
       · omega
   (try simp only [go_sem,simprocAttr,r2,r3,r11,r15,r18,r78,r79,r80])
   refine wpS_cut (fun ρ w'=>∃ D2,D2=depthStep T D i x∧D2.length=g.code.length∧DBnd D2∧w'.heap[bD]? = some (.cells (D2.map I).toArray 3 (0,0))∧Mod (· = bD) w6 w'∧ρ.get 2=some (ptr b2)∧ρ.get 3=some (ptr b3)∧ρ.get 11=some (.slice (some ⟨bD,0,none⟩) g.code.length g.code.length)∧ρ.get 78=some (.slice (some ad) g.code.length ccv)∧ρ.get 79=some (I g.code.length)∧ρ.get 80=some (I i)∧ρ.get 150=some (.bool (decide (targetS x > 0∧(depthStep T D i x).getD (targetS x).toNat 0≠s)))) ?_ ?_
   · by_cases ht:targetS x > 0
     · have htt:decide (targetS x > 0)=true:=decide_eq_true ht
       rw [if_pos ht] at hst1
       rw [hst1]
       (try simp only [go_sem,simprocAttr,htt,r2,r3,r11,r15,r18,r78,r79,r80])
       refine e_call (by rfl) ?_
       have hr:=f_reach hD6 (a:=targetS x) (d:=s) ⟨by omega,by rw [hD1l];exact htl ht⟩
       rw [hD1l] at hr
       refine hr.mono ?_
       rintro _ w7 ⟨rfl,hD7,hm7⟩
       (try simp only [go_sem,simprocAttr,r2,r3,r11,r15,r18,r78,r79,r80])
       refine ⟨_,rfl,by rw [note_len,hD1l],note_bnd hD1b _ hsb,hD7,hm7,?_⟩
       simp [ht]
     · have htf:decide (targetS x > 0)=false:=decide_eq_false ht
       rw [if_neg ht] at hst1
       rw [hst1]
       (try simp only [go_sem,simprocAttr,htf,r2,r3,r11,r15,r18,r78,r79,r80])
       refine ⟨_,rfl,hD1l,hD1b,hD6,Mod.refl _ _,?_⟩
       simp [ht]
   rintro ρ w7 ⟨D2,hD2e,hD2l,hD2b,hD7,hm7,r2,r3,r11,r78,r79,r80,r150⟩
   have hm07:Mod (· = bD) w w7:=hm06.trans hm7
   (try simp only [go_sem,simprocAttr,r2,r3,r11,r78,r79,r80,r150])
   refine ir_cond rfl (fun hg3=>?_) (fun hg3=>?_)
   · simp only [zb1,zb2,zb3,zb4,zb5] at hg3
     rw [if_pos hg3] at e0
     (try simp only [go_sem,simprocAttr])
     exact hret 173 _ (by decide) (by rw [heq,hloop,e0];rfl) hm07
   · simp only [zb1,zb2,zb3,zb4,zb5] at hg3
     rw [if_neg hg3] at e0
     have e2:IntKind.i64.wrap ((i:Int)+1)=((i+1:Nat):Int):=by rw [e1];omega
     (try simp only [go_sem,simprocAttr,e2])
     exact ⟨_,by omega,i+1,D2,rfl,by omega,hm07,hD2l,hD2b,hD7,by rw [heq,hloop,e0,hD2e];rfl,rfl⟩
 · have hlt:¬ i < g.code.length:=by simpa using hlt
   obtain rfl:i=g.code.length:=by omega
   (try simp only [go_sem,simprocAttr])
   refine hend w2 ?_ hm2 _
   rw [heq,List.drop_length];rfl
end
end
section
open Go Go.W
section
variable {w:World} {vsh vgl cv:Value} {T:Tab} {g:Gl} {B:Nat→Prop}
theorem f_checkCode (h:TabAt w vsh vgl T B) (hcv:RowsAt w cv 3 (g.code.map insRow) B) (hBl:∀ b,B b→b < w.heap.size) (hsh:∀ s∈T.shapes,0≤s.fields∧s.fields≤8) (har:0≤g.arity∧g.arity≤24) (hcl:g.code.length≤8000) (hxa:∀ x∈g.code,x.a≤9223372036854775807) :
   CallsR Tryz.prog 60 [tabV vsh vgl,glV g cv] w fun r w'=>r=I (checkCodeS T g)∧Mod (fun _=>False) w w':=by
 have h0:=h
 have hcv0:=hcv
 obtain ⟨⟨aS,cS,rfl⟩,aG,cG,rfl⟩:=tab_sl h
 obtain ⟨acv,ccv,rfl⟩:=rows_sl hcv
 rw [List.length_map] at *
 refine fit60.calls rfl ?_
 unfold ir60 tabV glV
 (try simp only [go_sem,simprocAttr])
 refine e_bx rfl ?_
 intro w1 hb1 hm1 hs1
 (try simp only [go_sem,simprocAttr])
 refine e_bx rfl ?_
 intro w2 hb2 hm2 hs2
 have hb12:=hm2.at hb1 (fun h=>h)
 have hm02:=hm1.trans hm2
 have h2:=h0.mod hm02 (fun _ _ h=>h) (fun _ h=>h)
 have hcv2:=hcv0.mod hm02 (fun _ _ h=>h) (fun _ h=>h)
 (try simp only [go_sem,simprocAttr,cell_of hb2,Value.cells])
 refine f_checkCode1 (b2:=w.heap.size) (b3:=w1.heap.size) (g:=g) h2 hcv2 hcl hb12 hb2 ?_ ?_
 · intro e w3 he hn hm3
   (try simp only [go_sem,simprocAttr])
   have:checkCodeS T g=e:=by unfold checkCodeS;rw [hn,if_pos he]
   rw [this]
   exact ⟨rfl,hm02.trans hm3⟩
 · intro w3 hn hm3 t
   have hb33:=hm3.at hb2 (fun h=>h)
   have hb13:=hm3.at hb12 (fun h=>h)
   have hm03:=hm02.trans hm3
   have lz:((g.code.length:Int) == 0)=decide (g.code.length=0):=by rw [ieq];exact decide_eq_decide.2 (by omega)
   (try simp only [go_sem,simprocAttr,cell_of hb33,Value.cells,lz])
   refine ir_cond rfl (fun hz=>?_) (fun hz=>?_)
   · simp only [zb1,zb2,zb3,zb4,zb5] at hz
     (try simp only [go_sem,simprocAttr])
     have:checkCodeS T g=174:=by unfold checkCodeS;rw [hn,if_neg (by decide),if_pos hz]
     rw [this]
     exact ⟨rfl,hm03⟩
   · simp only [zb1,zb2,zb3,zb4,zb5] at hz
     have e1:checkCodeS T g=depthLoop T g.code.length 0 g.code (startD g):=by unfold checkCodeS;rw [hn,if_neg (by decide),if_neg hz]
     have b1:(0:Int)≤0∧(0:Int) < g.code.length:=by omega
     have e2:IntKind.i64.wrap (g.arity+1)=g.arity+1:=wrap_in (by omega) (by omega)
     (try simp only [go_sem,simprocAttr,cell_of hb33,Value.cells])
     refine e_ms1 (bytes:=8) (n:=g.code.length) rfl (by omega) (by omega) ?_
     intro w4 hb4 hm4 hs4
     have hb34:=hm4.at hb33 (fun h=>h)
     (try simp only [go_sem,simprocAttr,zb4,zb6,cell_of hb34,e2,b1,add_at])
     refine e_st1 (off:=0) rfl rfl hb4 rfl (by simp;omega) ?_
     intro w5 hb5 hm5 _
     have l3:=lt_of_heap hb33
     have l1:=lt_of_heap hb13
     have hb35:=hm5.at hb34 (fun e=>by omega)
     have hb15:=hm5.at (hm4.at hb13 (fun h=>h)) (fun e=>by omega)
     have hD:w5.heap[w3.heap.size]? = some (.cells ((startD g).map I).toArray 3 (0,0)):=by
       rw [hb5];unfold startD;rw [List.map_set,List.map_replicate]
     have hm35:Mod (fun _=>False) w3 w5:=hm4.step hm5 (fun x hx hl=>by subst hx;omega)
     have hm05:=hm03.trans hm35
     have hDb:DBnd (startD g):=by
       intro k
       unfold startD
       rw [getD_set']
       split
       · omega
       · rw [List.getD_eq_getElem?_getD,List.getElem?_replicate]
         split<;>simp
     (try simp only [go_sem,simprocAttr,cell_of hb35])
     refine f_checkCode2 (b2:=w.heap.size) (b3:=w1.heap.size) (bD:=w3.heap.size) (g:=g) (h0.mod hm05 (fun _ _ h=>h) (fun _ h=>h)) (hcv0.mod hm05 (fun _ _ h=>h) (fun _ h=>h)) hsh hcl hxa hn (fun b hb e=>by have:=hBl b hb;have:=hm03.size;omega) hb15 hb35 ⟨by omega,by omega⟩ hD (by simp [startD]) hDb ?_ ?_
     · intro e w6 he hn6 hm6
       (try simp only [go_sem,simprocAttr])
       rw [e1,hn6]
       exact ⟨rfl,hm05.step hm6 (fun x hx hl=>by subst hx;have:=hm03.size;omega)⟩
     · intro w6 hn6 hm6 ρ
       (try simp only [go_sem,simprocAttr])
       rw [e1,hn6]
       exact ⟨rfl,hm05.step hm6 (fun x hx hl=>by subst hx;have:=hm03.size;omega)⟩
end
end
section
open Go Go.W
def metS (l:List (ByteArray×Int)):List (ByteArray×Int):=l.map fun p=>(p.1,1)
theorem sget_met (l:List (ByteArray×Int)) (k:ByteArray):(sget (metS l) k).getD 0=if (l.map (·.1)).all (fun t=>decide (t≠k))=true then 0 else 1:=by
 induction l with
 | nil=>rfl
 | cons p l ih=>
   by_cases h:p.1=k
   · simp [sget,metS,h]
   · have e:sget (metS (p::l)) k=sget (metS l) k:=by simp [sget,metS,h]
     rw [e,ih,List.map_cons,List.all_cons]
     have hd:decide (p.1≠k)=true:=by simp [h]
     rw [hd,Bool.true_and]
theorem sput_met {l:List (ByteArray×Int)} {p:ByteArray×Int} (h:(l.map (·.1)).all (fun t=>decide (t≠p.1))=true):sput (metS l) p.1 1=metS (l++[p]):=by
 have e:(metS l).findIdx? (fun q=>decide (q.1=p.1))=none:=by
   rw [List.findIdx?_eq_none_iff]
   intro q hq
   obtain ⟨r,hr,rfl⟩:=List.mem_map.1 hq
   have:=List.all_eq_true.1 h r.1 (List.mem_map.2 ⟨r,hr,rfl⟩)
   simpa using this
 unfold sput
 rw [e]
 simp [metS]
theorem all_rev (l:List ByteArray) (k:ByteArray):l.reverse.all (fun t=>decide (t≠k))=l.all (fun t=>decide (t≠k)):=by simp
theorem namesS_at {hi:Int} {l:List (ByteArray×Int)} {i:Nat} (h:i < l.length):namesS hi ((l.take i).map (·.1)).reverse (l.drop i) =
   (isNameS l[i].1&&((l.take i).map (·.1)).all (fun t=>decide (t≠l[i].1))&&decide (0≤l[i].2)&&decide (l[i].2≤hi)&&namesS hi ((l.take (i+1)).map (·.1)).reverse (l.drop (i+1))):=by
 rw [List.drop_eq_getElem_cons h,List.take_succ_eq_append_getElem h]
 simp only [namesS,List.map_append,List.map_cons,List.map_nil,List.reverse_append,List.reverse_cons,List.reverse_nil,List.nil_append,List.singleton_append,all_rev]
theorem raw_guard {P:Program} {ρ:Env} {w:World} {K:Value→World→Prop} {d:Option Nat} {op:Op} {ty:TypeId} {pos:String} {af:Array Edge} {gd:Option (Nat×Bool)} (h:E.wp P w ρ K (.raw ⟨d,op,ty,pos,af,none⟩)):E.wp P w ρ K (.raw ⟨d,op,ty,pos,af,gd⟩):=h
theorem shape_ln {w:World} {vsh vgl:Value} {T:Tab} {B:Nat→Prop} (h:TabAt w vsh vgl T B) {i:Nat} (hi:i < T.shapes.length):∃ ad c,vsh = .slice (some ad) T.shapes.length c∧vLN w 2 (.pointer (some (ad.add (i*2))))=some (.agg #[.string T.shapes[i].name,I T.shapes[i].fields]):=by
 obtain ⟨ad,c,h1,h2,h3⟩:=shape_at h hi
 have e:T.sh (i:Int)=T.shapes[i]:=by unfold Tab.sh;rw [Int.toNat_natCast,List.getD_eq_getElem?_getD,List.getElem?_eq_getElem hi];rfl
 rw [e] at h2 h3
 exact ⟨ad,c,h1,ln_2 h2 h3⟩
section
variable {w:World} {vsh vgl:Value} {T:Tab} {B:Nat→Prop}
set_option maxHeartbeats 1000000 in
theorem f_names1 (h:TabAt w vsh vgl T B) (hT:TabFit T) {b1 bM:Nat} (hB:∀ b,B b→b≠bM) (hM:MapS w bM (metS []))
   {Q:Post} (hret:∀ w',namesS 8 [] (shPairs T)=false→Mod (· = bM) w w'→Q .ret [(2,I 172)] w')
   (hend:∀ w' t l,namesS 8 [] (shPairs T)=true→MapS w' bM l→Mod (· = bM) w w'→Q .normal [(1,ptr b1),(3,.map (some bM)),(17,vsh),(18,I T.shapes.length),(19,I T.shapes.length),(20,t)] w') :
   irwp Tryz.prog 117 (.block 0 (.loop ir32L1)) Q [(1,ptr b1),(3,.map (some bM)),(17,vsh),(18,I T.shapes.length),(19,I 0)] w:=by
 obtain ⟨⟨aS,cS,rfl⟩,aG,cG,rfl⟩:=tab_sl h
 have hpl:(shPairs T).length=T.shapes.length:=by simp [shPairs]
 have hsn:=hT.sn
 have hgn:=hT.gn
 (try simp only [go_sem,simprocAttr])
 refine ir_loop (fun z ρ w'=>∃ i:Nat,z=T.shapes.length - i∧i≤T.shapes.length∧Mod (· = bM) w w'∧MapS w' bM (metS ((shPairs T).take i))∧namesS 8 [] (shPairs T)=namesS 8 (((shPairs T).take i).map (·.1)).reverse ((shPairs T).drop i) ∧
   ρ=[(1,ptr b1),(3,.map (some bM)),(17,.slice aS T.shapes.length cS),(18,I T.shapes.length),(19,I i)]) T.shapes.length ⟨0,rfl,by omega,Mod.refl _ _,hM,rfl,rfl⟩ ?_
 rintro z ρ w2 ⟨i,rfl,hi,hm2,hM2,heq,rfl⟩
 unfold ir32L1
 (try simp only [go_sem,simprocAttr])
 refine ir_cond rfl (fun hlt=>?_) (fun hlt=>?_)
 · have hlt:i < T.shapes.length:=by simpa using hlt
   have h2:=h.mod hm2 (fun b hb=>hB b hb) (fun _ h=>h)
   obtain ⟨ad,c,e',hln⟩:=shape_ln h2 hlt
   cases e'
   have hsz:=hT.sname _ (List.getElem_mem hlt)
   have hat:=namesS_at (hi:=8) (l:=shPairs T) (i:=i) (by omega)
   have hpi:(shPairs T)[i]'(by omega)=(T.shapes[i].name,T.shapes[i].fields):=by simp [shPairs]
   rw [hpi] at hat
   have htk:(shPairs T).take (i+1)=(shPairs T).take i++[(T.shapes[i].name,T.shapes[i].fields)]:=by rw [List.take_succ_eq_append_getElem (by omega),hpi]
   skip
   generalize T.shapes[i].name=nm at *
   generalize T.shapes[i].fields=nv at *
   have b1':(0:Int)≤i∧(i:Int) < T.shapes.length:=by omega
   (try simp only [go_sem,simprocAttr,zb4,zb6,b1',hln])
   refine e_al ?_
   intro w3 hb30 hm3 _
   refine e_sta (cs:=[.string ⟨#[]⟩,I 0]) rfl rfl hb30 rfl rfl (by simp [Value.oneCell']) ?_
   intro w4 hb4 hm4 _
   have hm24:Mod (fun _=>False) w2 w4:=hm3.step hm4 (fun x hx hl=>by subst hx;omega)
   have hM4:=maps_mod hM2 hm24 (fun h=>h)
   have hne:w2.heap.size≠bM:=fun e=>by obtain ⟨es,ck,h1,_⟩:=hM2;have:=lt_of_heap h1;omega
   (try simp only [go_sem,simprocAttr,cell_of hb4])
   refine e_call (by rfl) ?_
   refine (f_isName w4 nm hsz).mono ?_
   rintro _ _ ⟨rfl,rfl⟩
   have hm04:Mod (· = bM) w w4:=hm2.step hm24 (fun _ h _=>h.elim)
   have hsg:=sget_met ((shPairs T).take i) nm
   (try simp only [go_sem,simprocAttr])
   refine wpS_cut (fun ρ w'=>w4=w'∧ρ.get 1=some (ptr b1)∧ρ.get 3=some (.map (some bM))∧ρ.get 5=some (ptr w2.heap.size)∧ρ.get 17=some (.slice (some ad) T.shapes.length cS)∧ρ.get 18=some (I T.shapes.length)∧ρ.get 19=some (I i) ∧
     ρ.get 43=some (.bool (!(isNameS nm&&(((shPairs T).take i).map (·.1)).all (fun t=>decide (t≠nm))&&decide (0≤nv)&&decide (nv≤8))))) ?_ ?_
   · have n1:decide (0≤nv) = !decide (nv < 0):=by by_cases q:nv < 0<;>simp [q];omega
     have n2:decide (nv≤8) = !decide (nv > 8):=by by_cases q:nv > 8<;>simp [q];omega
     rw [n1,n2]
     generalize ((((shPairs T).take i).map (·.1)).all (fun t=>decide (t≠nm)))=q at *
     cases hA:isNameS nm
     · (try simp only [go_sem,simprocAttr,hA,Bool.not_false,Bool.false_and,cell_of hb4])
     · (try simp only [go_sem,simprocAttr,hA,Bool.not_true,cell_of hb4])
       refine raw_guard (e_l1S (t:=119) (kt:=9) (et:=3) rfl rfl Tryz.underlying119 Tryz.underlying9 (Tryz.zeroValue3 _) hM4 ?_)
       rw [hsg]
       cases q
       · (try simp only [go_sem,simprocAttr,cell_of hb4,Int.reduceGT,Int.reduceLT,decide_true,Bool.and_false,Bool.false_and,Bool.not_false])
       · cases hC:decide (nv < 0)<;>cases hD:decide (nv > 8)<;>(try simp only [go_sem,simprocAttr,cell_of hb4,hC,hD,gt_iff_lt,Int.reduceLT,Int.lt_irrefl,decide_false,Bool.and_true,Bool.true_and,Bool.and_false,Bool.not_true,Bool.not_false])
   rintro ρ _ ⟨rfl,r1,r3,rB,rv,rn,ri,rr⟩
   (try simp only [go_sem,simprocAttr,r1,r3,rB,rv,rn,ri,rr])
   refine ir_cond rfl (fun hbad=>?_) (fun hbad=>?_)
   · rw [Bool.not_eq_true'] at hbad
     (try simp only [go_sem,simprocAttr])
     exact hret _ (by rw [heq,hat,hbad];rfl) hm04
   · have hbad:(isNameS nm&&(((shPairs T).take i).map (·.1)).all (fun t=>decide (t≠nm))&&decide (0≤nv)&&decide (nv≤8))=true:=by simpa using hbad
     rw [hbad,Bool.true_and] at hat
     have hall:(((shPairs T).take i).map (·.1)).all (fun t=>decide (t≠nm))=true:=by
       simp only [Bool.and_eq_true] at hbad
       exact hbad.1.1.2
     have e1:IntKind.i64.wrap ((i:Int)+1)=((i+1:Nat):Int):=by rw [wrap_in (by omega) (by omega)];omega
     (try simp only [go_sem,simprocAttr,cell_of hb4])
     refine e_muS (t:=119) (kt:=9) (et:=3) (v:=1) (by rfl) (by rfl) (by rfl) Tryz.underlying119 Tryz.underlying9 hM4 ?_
     intro w5 hM5 hm5 _
     have hsp:=sput_met (p:=(nm,nv)) hall
     rw [show sput (metS ((shPairs T).take i)) nm 1=metS ((shPairs T).take (i+1)) from by rw [htk];exact hsp] at hM5
     (try simp only [go_sem,simprocAttr,e1])
     exact ⟨_,by omega,i+1,rfl,by omega,hm04.trans hm5,hM5,by rw [heq,hat],rfl⟩
 · have hlt:¬ i < T.shapes.length:=by simpa using hlt
   obtain rfl:i=T.shapes.length:=by omega
   (try simp only [go_sem,simprocAttr])
   refine hend w2 _ _ ?_ hM2 hm2
   rw [heq,← hpl,List.drop_length];rfl
set_option maxHeartbeats 1000000 in
theorem f_names3 (h:TabAt w vsh vgl T B) (hT:TabFit T) {b1 bM:Nat} (hB:∀ b,B b→b≠bM) (hM:MapS w bM (metS []))
   {Q:Post} (hret:∀ w',namesS 24 [] (glPairs T)=false→Mod (· = bM) w w'→Q .ret [(2,I 172)] w')
   (hend:∀ w' t l,namesS 24 [] (glPairs T)=true→MapS w' bM l→Mod (· = bM) w w'→Q .normal [(1,ptr b1),(3,.map (some bM)),(72,vgl),(73,I T.globals.length),(74,I T.globals.length),(75,t)] w') :
   irwp Tryz.prog 117 (.block 4 (.loop ir32L3)) Q [(1,ptr b1),(3,.map (some bM)),(72,vgl),(73,I T.globals.length),(74,I 0)] w:=by
 obtain ⟨⟨aS,cS,rfl⟩,aG,cG,rfl⟩:=tab_sl h
 have hpl:(glPairs T).length=T.globals.length:=by simp [glPairs]
 have hsn:=hT.sn
 have hgn:=hT.gn
 (try simp only [go_sem,simprocAttr])
 refine ir_loop (fun z ρ w'=>∃ i:Nat,z=T.globals.length - i∧i≤T.globals.length∧Mod (· = bM) w w'∧MapS w' bM (metS ((glPairs T).take i))∧namesS 24 [] (glPairs T)=namesS 24 (((glPairs T).take i).map (·.1)).reverse ((glPairs T).drop i) ∧
   ρ=[(1,ptr b1),(3,.map (some bM)),(72,.slice aG T.globals.length cG),(73,I T.globals.length),(74,I i)]) T.globals.length ⟨0,rfl,by omega,Mod.refl _ _,hM,rfl,rfl⟩ ?_
 rintro z ρ w2 ⟨i,rfl,hi,hm2,hM2,heq,rfl⟩
 unfold ir32L3
 (try simp only [go_sem,simprocAttr])
 refine ir_cond rfl (fun hlt=>?_) (fun hlt=>?_)
 · have hlt:i < T.globals.length:=by simpa using hlt
   have h2:=h.mod hm2 (fun b hb=>hB b hb) (fun _ h=>h)
   obtain ⟨ad,c,cv,e',hln,_⟩:=glob_ln h2 hlt
   cases e'
   have hsz:=hT.gname _ (List.getElem_mem hlt)
   have hat:=namesS_at (hi:=24) (l:=glPairs T) (i:=i) (by omega)
   have hpi:(glPairs T)[i]'(by omega)=(T.globals[i].name,T.globals[i].arity):=by simp [glPairs]
   rw [hpi] at hat
   have htk:(glPairs T).take (i+1)=(glPairs T).take i++[(T.globals[i].name,T.globals[i].arity)]:=by rw [List.take_succ_eq_append_getElem (by omega),hpi]
   unfold glV at hln
   generalize T.globals[i].name=nm at *
   generalize T.globals[i].arity=nv at *
   have b1':(0:Int)≤i∧(i:Int) < T.globals.length:=by omega
   (try simp only [go_sem,simprocAttr,zb4,zb6,b1',hln])
   refine e_al ?_
   intro w3 hb30 hm3 _
   refine e_sta (cs:=[.string ⟨#[]⟩,I 0,.slice none 0 0]) rfl rfl hb30 rfl rfl (by obtain ⟨acv,ccv,rfl⟩:=rows_sl ‹_›;simp [Value.oneCell']) ?_
   intro w4 hb4 hm4 _
   have hm24:Mod (fun _=>False) w2 w4:=hm3.step hm4 (fun x hx hl=>by subst hx;omega)
   have hM4:=maps_mod hM2 hm24 (fun h=>h)
   have hne:w2.heap.size≠bM:=fun e=>by obtain ⟨es,ck,h1,_⟩:=hM2;have:=lt_of_heap h1;omega
   (try simp only [go_sem,simprocAttr,cell_of hb4])
   refine e_call (by rfl) ?_
   refine (f_isName w4 nm hsz).mono ?_
   rintro _ _ ⟨rfl,rfl⟩
   have hm04:Mod (· = bM) w w4:=hm2.step hm24 (fun _ h _=>h.elim)
   have hsg:=sget_met ((glPairs T).take i) nm
   (try simp only [go_sem,simprocAttr])
   refine wpS_cut (fun ρ w'=>w4=w'∧ρ.get 1=some (ptr b1)∧ρ.get 3=some (.map (some bM))∧ρ.get 9=some (ptr w2.heap.size)∧ρ.get 72=some (.slice (some ad) T.globals.length cG)∧ρ.get 73=some (I T.globals.length)∧ρ.get 74=some (I i) ∧
     ρ.get 98=some (.bool (!(isNameS nm&&(((glPairs T).take i).map (·.1)).all (fun t=>decide (t≠nm))&&decide (0≤nv)&&decide (nv≤24))))) ?_ ?_
   · have n1:decide (0≤nv) = !decide (nv < 0):=by by_cases q:nv < 0<;>simp [q];omega
     have n2:decide (nv≤24) = !decide (nv > 24):=by by_cases q:nv > 24<;>simp [q];omega
     rw [n1,n2]
     generalize ((((glPairs T).take i).map (·.1)).all (fun t=>decide (t≠nm)))=q at *
     cases hA:isNameS nm
     · (try simp only [go_sem,simprocAttr,hA,Bool.not_false,Bool.false_and,cell_of hb4])
     · (try simp only [go_sem,simprocAttr,hA,Bool.not_true,cell_of hb4])
       refine raw_guard (e_l1S (t:=119) (kt:=9) (et:=3) rfl rfl Tryz.underlying119 Tryz.underlying9 (Tryz.zeroValue3 _) hM4 ?_)
       rw [hsg]
       cases q
       · (try simp only [go_sem,simprocAttr,cell_of hb4,Int.reduceGT,Int.reduceLT,decide_true,Bool.and_false,Bool.false_and,Bool.not_false])
       · cases hC:decide (nv < 0)<;>cases hD:decide (nv > 24)<;>(try simp only [go_sem,simprocAttr,cell_of hb4,hC,hD,gt_iff_lt,Int.reduceLT,Int.lt_irrefl,decide_false,Bool.and_true,Bool.true_and,Bool.and_false,Bool.not_true,Bool.not_false])
   rintro ρ _ ⟨rfl,r1,r3,rB,rv,rn,ri,rr⟩
   (try simp only [go_sem,simprocAttr,r1,r3,rB,rv,rn,ri,rr])
   refine ir_cond rfl (fun hbad=>?_) (fun hbad=>?_)
   · rw [Bool.not_eq_true'] at hbad
     (try simp only [go_sem,simprocAttr])
     exact hret _ (by rw [heq,hat,hbad];rfl) hm04
   · have hbad:(isNameS nm&&(((glPairs T).take i).map (·.1)).all (fun t=>decide (t≠nm))&&decide (0≤nv)&&decide (nv≤24))=true:=by simpa using hbad
     rw [hbad,Bool.true_and] at hat
     have hall:(((glPairs T).take i).map (·.1)).all (fun t=>decide (t≠nm))=true:=by
       simp only [Bool.and_eq_true] at hbad
       exact hbad.1.1.2
     have e1:IntKind.i64.wrap ((i:Int)+1)=((i+1:Nat):Int):=by rw [wrap_in (by omega) (by omega)];omega
     (try simp only [go_sem,simprocAttr,cell_of hb4])
     refine e_muS (t:=119) (kt:=9) (et:=3) (v:=1) (by rfl) (by rfl) (by rfl) Tryz.underlying119 Tryz.underlying9 hM4 ?_
     intro w5 hM5 hm5 _
     have hsp:=sput_met (p:=(nm,nv)) hall
     rw [show sput (metS ((glPairs T).take i)) nm 1=metS ((glPairs T).take (i+1)) from by rw [htk];exact hsp] at hM5
     (try simp only [go_sem,simprocAttr,e1])
     exact ⟨_,by omega,i+1,rfl,by omega,hm04.trans hm5,hM5,by rw [heq,hat],rfl⟩
 · have hlt:¬ i < T.globals.length:=by simpa using hlt
   obtain rfl:i=T.globals.length:=by omega
   (try simp only [go_sem,simprocAttr])
   refine hend w2 _ _ ?_ hM2 hm2
   rw [heq,← hpl,List.drop_length];rfl
end
end
section
open Go Go.W
theorem ba_loop (a:ByteArray):∀ (n i:Nat) (r:List UInt8),a.size - i=n→ByteArray.toList.loop a i r=r.reverse++a.data.toList.drop i:=by
 have hs:a.data.toList.length=a.size:=by
   show a.data.toList.length=a.data.size
   exact Array.length_toList
 intro n
 induction n with
 | zero=>
   intro i r h
   rw [ByteArray.toList.loop,if_neg (by omega),List.drop_eq_nil_of_le (by omega),List.append_nil]
 | succ n ih=>
   intro i r h
   have hi:i < a.data.toList.length:=by omega
   rw [ByteArray.toList.loop,if_pos (by omega),ih (i+1) _ (by omega),List.drop_eq_getElem_cons hi]
   have e:a.get! i=a.data.toList[i]:=by
     show a.data[i]! = _
     rw [getElem!_pos a.data i (by simpa using hi)]
     simp
   rw [e];simp
theorem ba_toList (a:ByteArray):a.toList=a.data.toList:=by
 show ByteArray.toList.loop a 0 []=_
 rw [ba_loop a _ 0 [] rfl];rfl
theorem ba_inj {a b:ByteArray} (h:a.toList=b.toList):a=b:=by
 rw [ba_toList,ba_toList] at h
 cases a;cases b
 rename_i x y
 have:x=y:=Array.ext' h
 rw [this]
theorem ba_leq (a b:ByteArray):(a.toList == b.toList)=decide (a=b):=by
 by_cases h:a=b
 · subst h;simp
 · have:a.toList≠b.toList:=fun e=>h (ba_inj e)
   simp [h,this]
theorem upto7 {i:Nat} (h:i < 7):i=0∨i=1∨i=2∨i=3∨i=4∨i=5∨i=6:=by omega
theorem givenS_len:givenS.length=7:=rfl
theorem given_ln {w:World} {b:Nat} (h:w.heap[b]? = some (.cells (givenS.flatMap shRow).toArray 89 (0,0))) {i:Nat} (hi:i < 7):vLN w 2 (.pointer (some ⟨b,i*2,none⟩))=some (.agg #[.string (givenS[i]'(by rw [givenS_len];exact hi)).name,I (givenS[i]'(by rw [givenS_len];exact hi)).fields]):=by
 have hl:(givenS.flatMap shRow).length=14:=rfl
 have:=ln_of (off:=i*2) (n:=2) h (by rw [hl];omega)
 rcases upto7 hi with rfl | rfl | rfl | rfl | rfl | rfl | rfl<;>exact this
theorem shp_eq (a b:Shp):a=b↔a.name=b.name∧a.fields=b.fields:=by
 constructor
 · rintro rfl;exact ⟨rfl,rfl⟩
 · rintro ⟨h1,h2⟩;cases a;cases b;simp_all
section
variable {w:World} {vsh vgl:Value} {T:Tab} {B:Nat→Prop}
theorem f_given7 (h:TabAt w vsh vgl T B) (hT:TabFit T) {b1 bM bG:Nat} (hb1:w.heap[b1]? = some (.cells #[vsh,vgl] 25 (0,0))) (hG:w.heap[bG]? = some (.cells (givenS.flatMap shRow).toArray 89 (0,0)))
   {Q:Post} (hret:∀ w',¬ (T.shapes.take 7=givenS)→Mod (fun _=>False) w w'→Q .ret [(2,I 172)] w')
   (hend:∀ w' t,T.shapes.take 7=givenS→Mod (fun _=>False) w w'→Q .normal [(1,ptr b1),(3,.map (some bM)),(48,.slice (some ⟨bG,0,none⟩) 7 7),(49,I 7),(50,I 7),(51,t)] w') :
   irwp Tryz.prog 117 (.block 2 (.loop ir32L2)) Q [(1,ptr b1),(3,.map (some bM)),(48,.slice (some ⟨bG,0,none⟩) 7 7),(49,I 7),(50,I 0)] w:=by
 obtain ⟨⟨aS,cS,rfl⟩,aG,cG,rfl⟩:=tab_sl h
 have hsn:=hT.sn
 (try simp only [go_sem,Nat.reduceAdd,Nat.reduceEqDiff,Nat.reduceLT,Nat.reduceLeDiff,Nat.reduceMul,reduceCtorEq,↓reduceIte])
 refine ir_loop (fun z ρ w'=>∃ i:Nat,z=7 - i∧i≤7∧Mod (fun _=>False) w w'∧T.shapes.take i=givenS.take i ∧
   ρ=[(1,ptr b1),(3,.map (some bM)),(48,.slice (some ⟨bG,0,none⟩) 7 7),(49,I 7),(50,I i)]) 7 ⟨0,rfl,by omega,Mod.refl _ _,rfl,rfl⟩ ?_
 rintro z ρ w2 ⟨i,rfl,hi,hm2,heq,rfl⟩
 unfold ir32L2
 (try simp only [go_sem,Nat.reduceAdd,Nat.reduceEqDiff,Nat.reduceLT,Nat.reduceLeDiff,Nat.reduceMul,reduceCtorEq,↓reduceIte])
 refine ir_cond rfl (fun hlt=>?_) (fun hlt=>?_)
 · have hlt:i < 7:=by
     simp only [zb1,zb2,zb3,zb4,zb5] at hlt
     omega
   have b0:(0:Int)≤i∧(i:Int) < ((7:Nat):Int):=by omega
   have hgl:=given_ln (hm2.at hG (fun h=>h)) hlt
   have hgi:i < givenS.length:=by rw [givenS_len];exact hlt
   generalize hgv:givenS[i]=gs at *
   have hgt:givenS.take (i+1)=givenS.take i++[gs]:=by rw [List.take_succ_eq_append_getElem hgi,hgv]
   have hg7:givenS[i]? = some gs:=by rw [List.getElem?_eq_getElem hgi,hgv]
   have h2:=h.mod hm2 (fun _ _ h=>h) (fun _ h=>h)
   have hb12:=hm2.at hb1 (fun h=>h)
   (try simp only [go_sem,Nat.reduceAdd,Nat.reduceEqDiff,Nat.reduceLT,Nat.reduceLeDiff,Nat.reduceMul,reduceCtorEq,↓reduceIte,zb4,zb6,b0,add_at,hgl])
   refine e_al ?_
   intro w3 hb30 hm3 _
   refine e_sta (cs:=[.string ⟨#[]⟩,I 0]) rfl rfl hb30 rfl rfl (by simp [Value.oneCell']) ?_
   intro w4 hb4 hm4 _
   have hm24:Mod (fun _=>False) w2 w4:=hm3.step hm4 (fun x hx hl=>by subst hx;omega)
   have hm04:=hm2.trans hm24
   have hb14:=hm24.at hb12 (fun h=>h)
   have e1:IntKind.i64.wrap ((i:Int)+1)=((i+1:Nat):Int):=by rw [wrap_in (by omega) (by omega)];omega
   have h4d:=h2.mod hm24.drew (fun _ _ h=>h) (fun _ h=>h)
   have hb4d:w4.drew.heap[w2.heap.size]? = _:=hb4
   have hl4:=ln_of (cs:=[_,_]) (off:=0) (n:=2) hb4d (by simp)
   (try simp only [go_sem,Nat.reduceAdd,Nat.reduceEqDiff,Nat.reduceLT,Nat.reduceLeDiff,Nat.reduceMul,reduceCtorEq,↓reduceIte,cell_of hb14])
   refine wpS_cut (fun ρ w'=>w'=w4.drew∧ρ.get 1=some (ptr b1)∧ρ.get 3=some (.map (some bM))∧ρ.get 48=some (.slice (some ⟨bG,0,none⟩) 7 7)∧ρ.get 49=some (I 7)∧ρ.get 50=some (I i)∧ρ.get 68=some (.bool (decide (T.shapes[i]?≠some gs)))) ?_ ?_
   · by_cases hil:i < T.shapes.length
     · have hge:decide ((i:Int)≥T.shapes.length)=false:=decide_eq_false (by omega)
       obtain ⟨ad,c,e',hln⟩:=shape_ln h4d hil
       cases e'
       have b1':(0:Int)≤i∧(i:Int) < T.shapes.length:=by omega
       (try simp only [go_sem,Nat.reduceAdd,Nat.reduceEqDiff,Nat.reduceLT,Nat.reduceLeDiff,Nat.reduceMul,reduceCtorEq,↓reduceIte,zb4,zb6,hge,cell_of hb14,b1',hln,hl4])
       rw [ba_leq,ieq,List.getElem?_eq_getElem hil]
       congr 1
       by_cases q:T.shapes[i]=gs
       · simp [q]
       · have:¬ (T.shapes[i].name=gs.name∧T.shapes[i].fields=gs.fields):=fun hh=>q ((shp_eq _ _).2 hh)
         rw [← Bool.decide_and,decide_eq_false this]
         simp [q]
     · have hge:decide ((i:Int)≥T.shapes.length)=true:=decide_eq_true (by omega)
       (try simp only [go_sem,Nat.reduceAdd,Nat.reduceEqDiff,Nat.reduceLT,Nat.reduceLeDiff,Nat.reduceMul,reduceCtorEq,↓reduceIte,hge])
       rw [List.getElem?_eq_none (by omega)]
       simp
   rintro ρ _ ⟨rfl,r1,r3,r48,r49,r50,r68⟩
   (try simp only [go_sem,Nat.reduceAdd,Nat.reduceEqDiff,Nat.reduceLT,Nat.reduceLeDiff,Nat.reduceMul,reduceCtorEq,↓reduceIte,r1,r3,r48,r49,r50,r68])
   refine ir_cond rfl (fun hbad=>?_) (fun hbad=>?_)
   · simp only [zb1,zb2,zb3,zb4,zb5] at hbad
     (try simp only [go_sem,Nat.reduceAdd,Nat.reduceEqDiff,Nat.reduceLT,Nat.reduceLeDiff,Nat.reduceMul,reduceCtorEq,↓reduceIte])
     refine hret _ (fun e=>hbad ?_) hm04.drew
     rw [← hg7,← e,List.getElem?_take,if_pos hlt]
   · have hok:T.shapes[i]? = some gs:=by simpa using hbad
     (try simp only [go_sem,Nat.reduceAdd,Nat.reduceEqDiff,Nat.reduceLT,Nat.reduceLeDiff,Nat.reduceMul,reduceCtorEq,↓reduceIte,e1])
     refine ⟨_,by omega,i+1,rfl,by omega,hm04.drew,?_,rfl⟩
     obtain ⟨hil,hv⟩:=List.getElem?_eq_some_iff.1 hok
     rw [hgt,List.take_succ_eq_append_getElem hil,hv,heq]
 · have hlt:¬ i < 7:=by
     simp only [zb1,zb2,zb3,zb4,zb5] at hlt
     omega
   obtain rfl:i=7:=by omega
   (try simp only [go_sem,Nat.reduceAdd,Nat.reduceEqDiff,Nat.reduceLT,Nat.reduceLeDiff,Nat.reduceMul,reduceCtorEq,↓reduceIte])
   refine hend w2 _ ?_ hm2
   rw [heq];rfl
theorem codesS_at {l:List Gl} {i:Nat} (h:i < l.length):codesS T (l.drop i)=if checkCodeS T l[i]=0 then codesS T (l.drop (i+1)) else checkCodeS T l[i]:=by
 rw [List.drop_eq_getElem_cons h];rfl
theorem f_codes (h:TabAt w vsh vgl T B) (hT:TabFit T) (hBl:∀ b,B b→b < w.heap.size) (hsh:∀ s∈T.shapes,0≤s.fields∧s.fields≤8) (har:∀ g∈T.globals,0≤g.arity∧g.arity≤24) (hcl:∀ g∈T.globals,g.code.length≤8000) {b1:Nat} (hb1:w.heap[b1]? = some (.cells #[vsh,vgl] 25 (0,0)))
   {Q:Post} (hret:∀ w' e,e≠0→codesS T T.globals=e→Mod (fun _=>False) w w'→Q .ret [(2,I e)] w')
   (hend:∀ w' t,codesS T T.globals=0→Mod (fun _=>False) w w'→Q .normal [(1,ptr b1),(104,vgl),(105,I T.globals.length),(106,I T.globals.length),(107,t)] w') :
   irwp Tryz.prog 117 (.block 6 (.loop ir32L4)) Q [(1,ptr b1),(104,vgl),(105,I T.globals.length),(106,I 0)] w:=by
 have h0:=h
 obtain ⟨⟨aS,cS,rfl⟩,aG,cG,rfl⟩:=tab_sl h
 have hgn:=hT.gn
 (try simp only [go_sem,simprocAttr])
 refine ir_loop (fun z ρ w'=>∃ i:Nat,z=T.globals.length - i∧i≤T.globals.length∧Mod (fun _=>False) w w'∧codesS T T.globals=codesS T (T.globals.drop i) ∧
   ρ=[(1,ptr b1),(104,.slice aG T.globals.length cG),(105,I T.globals.length),(106,I i)]) T.globals.length ⟨0,rfl,by omega,Mod.refl _ _,rfl,rfl⟩ ?_
 rintro z ρ w2 ⟨i,rfl,hi,hm2,heq,rfl⟩
 unfold ir32L4
 (try simp only [go_sem,simprocAttr])
 refine ir_cond rfl (fun hlt=>?_) (fun hlt=>?_)
 · have hlt:i < T.globals.length:=by simpa using hlt
   have h2:=h.mod hm2 (fun _ _ h=>h) (fun _ h=>h)
   obtain ⟨ad,c,cv,e',hln,hcv⟩:=glob_ln h2 hlt
   cases e'
   have hgm:=List.getElem_mem hlt
   have hat:=codesS_at (T:=T) hlt
   generalize hgv:T.globals[i]=g at *
   have b1':(0:Int)≤i∧(i:Int) < T.globals.length:=by omega
   unfold glV at hln
   (try simp only [go_sem,simprocAttr,zb4,zb6,b1',hln])
   refine e_al ?_
   intro w3 hb30 hm3 _
   refine e_sta (cs:=[.string ⟨#[]⟩,I 0,.slice none 0 0]) rfl rfl hb30 rfl rfl (by obtain ⟨acv,ccv,rfl⟩:=rows_sl hcv;simp [Value.oneCell']) ?_
   intro w4 hb4 hm4 _
   have hm24:Mod (fun _=>False) w2 w4:=hm3.step hm4 (fun x hx hl=>by subst hx;omega)
   have hm04:=hm2.trans hm24
   have hb14:=hm04.at hb1 (fun h=>h)
   have hl1:=ln_of (cs:=[_,_]) (off:=0) (n:=2) hb14 (by simp)
   have hl4:=ln_of (cs:=[_,_,_]) (off:=0) (n:=3) hb4 (by simp)
   have e1:IntKind.i64.wrap ((i:Int)+1)=((i+1:Nat):Int):=by rw [wrap_in (by omega) (by omega)];omega
   (try simp only [go_sem,simprocAttr,hl1,hl4])
   refine e_call (by rfl) ?_
   refine (f_checkCode (g:=g) (h0.mod hm04 (fun _ _ h=>h) (fun _ h=>h)) (hcv.mod hm24 (fun _ _ h=>h) (fun _ h=>h)) (fun b hb=>by have:=hBl b hb;have:=hm04.size;omega) hsh (har g hgm) (hcl g hgm) (hT.xa g hgm)).mono ?_
   rintro _ w5 ⟨rfl,hm5⟩
   have hm05:=hm04.trans hm5
   (try simp only [go_sem,simprocAttr])
   refine ir_cond rfl (fun hz=>?_) (fun hz=>?_)
   · simp only [zb1,zb2,zb3,zb4,zb5] at hz
     (try simp only [go_sem,simprocAttr])
     exact hret _ _ hz (by rw [heq,hat,if_neg hz]) hm05
   · simp only [zb1,zb2,zb3,zb4,zb5] at hz
     (try simp only [go_sem,simprocAttr,e1])
     exact ⟨_,by omega,i+1,rfl,by omega,hm05,by rw [heq,hat,if_pos hz],rfl⟩
 · have hlt:¬ i < T.globals.length:=by simpa using hlt
   obtain rfl:i=T.globals.length:=by omega
   (try simp only [go_sem,simprocAttr])
   refine hend w2 _ ?_ hm2
   rw [heq,List.drop_length];rfl
theorem f_Check (h:TabAt w vsh vgl T B) (hT:TabFit T) (hBl:∀ b,B b→b < w.heap.size):CallsR Tryz.prog 32 [tabV vsh vgl] w fun r w'=>r=I (checkS T)∧Mod (fun _=>False) w w':=by
 have h0:=h
 obtain ⟨⟨aS,cS,rfl⟩,aG,cG,rfl⟩:=tab_sl h
 refine fit32.calls rfl ?_
 unfold ir32 tabV
 (try simp only [go_sem,simprocAttr])
 refine e_bx rfl ?_
 intro w1 hb1 hm1 hs1
 have hb1:w1.heap[w.heap.size]? = some (.cells #[.slice aS T.shapes.length cS,.slice aG T.globals.length cG] 25 (0,0)):=hb1
 have h1:=h0.mod hm1 (fun _ _ h=>h) (fun _ h=>h)
 have hl1:=ln_of (cs:=[_,_]) (off:=0) (n:=2) hb1 (by simp)
 (try simp only [go_sem,simprocAttr,hl1])
 refine e_call (by rfl) ?_
 refine (f_great h1 hT).mono ?_
 rintro _ w2 ⟨rfl,hm2⟩
 have hm02:=hm1.trans hm2
 have hb2:=hm2.at hb1 (fun h=>h)
 (try simp only [go_sem,simprocAttr])
 refine ir_cond rfl (fun hg=>?_) (fun hg=>?_)
 · (try simp only [go_sem,simprocAttr])
   have e:checkS T=4:=by unfold checkS;rw [if_pos hg]
   rw [e]
   exact ⟨rfl,hm02⟩
 have e0:checkS T=if namesS 8 [] (shPairs T)=false then 172 else if ¬ (T.shapes.take 7=givenS) then 172 else if namesS 24 [] (glPairs T)=false then 172 else codesS T T.globals:=by
   unfold checkS;rw [if_neg (by rw [hg];simp)]
 (try simp only [go_sem,simprocAttr])
 refine e_mmS ?_
 intro w3 hM3 hm3 _
 have hm03:=hm02.trans hm3
 have hb3:=hm3.at hb2 (fun h=>h)
 have lB:∀ b,B b→b < w2.heap.size:=fun b hb=>by have:=hBl b hb;have:=hm02.size;omega
 have lb:=lt_of_heap hb2
 (try simp only [go_sem,simprocAttr,cell_of hb3])
 refine f_names1 (b1:=w.heap.size) (bM:=w2.heap.size) (h0.mod hm03 (fun _ _ h=>h) (fun _ h=>h)) hT (fun b hb e=>by have:=lB b hb;omega) hM3 ?_ ?_
 · intro w4 hn hm4
   (try simp only [go_sem,simprocAttr])
   rw [e0,if_pos hn]
   exact ⟨rfl,hm03.step hm4 (fun x hx hl=>by subst hx;have:=hm02.size;omega)⟩
 intro w4 t4 l4 hn1 hM4 hm4
 rw [if_neg (by rw [hn1];simp)] at e0
 have hm04:=hm03.step hm4 (fun x hx hl=>by subst hx;have:=hm02.size;omega)
 have hb4:=hm4.at hb3 (fun e=>by omega)
 (try simp only [go_sem,simprocAttr])
 refine e_call (by rfl) ?_
 refine (f_given w4).mono ?_
 rintro _ w5 ⟨rfl,hG5,hm5⟩
 have hm05:=hm04.trans hm5
 have hb5:=hm5.at hb4 (fun h=>h)
 have hM5:=maps_mod hM4 hm5 (fun h=>h)
 (try simp only [go_sem,simprocAttr])
 refine f_given7 (b1:=w.heap.size) (bM:=w2.heap.size) (bG:=w4.heap.size) (h0.mod hm05 (fun _ _ h=>h) (fun _ h=>h)) hT hb5 hG5 ?_ ?_
 · intro w6 hn hm6
   (try simp only [go_sem,simprocAttr])
   rw [e0,if_pos hn]
   exact ⟨rfl,hm05.trans hm6⟩
 intro w6 t6 hn2 hm6
 rw [if_neg (by simpa using hn2)] at e0
 have hm06:=hm05.trans hm6
 have hb6:=hm6.at hb5 (fun h=>h)
 have hM6:=maps_mod hM5 hm6 (fun h=>h)
 (try simp only [go_sem,simprocAttr])
 refine e_clS (t:=119) (kt:=9) (et:=3) rfl (by rfl) Tryz.underlying119 hM6 ?_
 intro w7 hM7 hm7 _
 have hm07:=hm06.step hm7 (fun x hx hl=>by subst hx;have:=hm02.size;omega)
 have hb7:=hm7.at hb6 (fun e=>by omega)
 (try simp only [go_sem,simprocAttr,cell_of hb7])
 refine f_names3 (b1:=w.heap.size) (bM:=w2.heap.size) (h0.mod hm07 (fun _ _ h=>h) (fun _ h=>h)) hT (fun b hb e=>by have:=lB b hb;omega) hM7 ?_ ?_
 · intro w8 hn hm8
   (try simp only [go_sem,simprocAttr])
   rw [e0,if_pos hn]
   exact ⟨rfl,hm07.step hm8 (fun x hx hl=>by subst hx;have:=hm02.size;omega)⟩
 intro w8 t8 l8 hn3 hM8 hm8
 rw [if_neg (by rw [hn3];simp)] at e0
 have hm08:=hm07.step hm8 (fun x hx hl=>by subst hx;have:=hm02.size;omega)
 have hb8:=hm8.at hb7 (fun e=>by omega)
 obtain ⟨s1,_⟩:=namesS_ok _ _ hn1
 obtain ⟨g1,_⟩:=namesS_ok _ _ hn3
 have hsh:∀ s∈T.shapes,0≤s.fields∧s.fields≤8:=fun s hs=>(s1 (s.name,s.fields) (List.mem_map.2 ⟨s,hs,rfl⟩)).2.2
 have har:∀ g∈T.globals,0≤g.arity∧g.arity≤24:=fun g hg=>(g1 (g.name,g.arity) (List.mem_map.2 ⟨g,hg,rfl⟩)).2.2
 have hcl:∀ g∈T.globals,g.code.length≤8000:=fun g hg'=>by
   rw [greatS_mid,Bool.or_eq_false_iff,List.any_eq_false] at hg
   have:=hg.1 g hg'
   simp at this;omega
 (try simp only [go_sem,simprocAttr,cell_of hb8])
 refine f_codes (b1:=w.heap.size) (h0.mod hm08 (fun _ _ h=>h) (fun _ h=>h)) hT (fun b hb=>by have:=hBl b hb;have:=hm08.size;omega) hsh har hcl hb8 ?_ ?_
 · intro w9 e he hn hm9
   (try simp only [go_sem,simprocAttr])
   rw [e0,hn]
   exact ⟨rfl,hm08.trans hm9⟩
 · intro w9 t hn hm9
   (try simp only [go_sem,simprocAttr])
   rw [e0,hn]
   exact ⟨rfl,hm08.trans hm9⟩
end
end
end Go.Proofs.YtcllploggibicaaGreat