/- Texts that the last file stands on: M5, M6, M7, M8, M9, M10, M11, M13, M14, M12, B1, M15, M16, X1, X2, Q2, Q3, Q4, Q5, Q6, Q7, Q8, Q9, M17, Q10, Q11, Q12, Q14, M18. -/
import Derived.Test.YtnjobkbblhaliaaGreatDoorZSC
import Derived.RangeFuncBox
import Derived.RangeFuncLeaves
import Derived.Shelf.Abstract
import Derived.WalkKit
import Derived.OwnWalkIn
import Derived.TacticsInMore
import Derived.LoopNIn
import Derived.LoopIn
import Derived.Test.YtnjobkbblhaliaaGreatDoorProg
set_option linter.unusedSimpArgs false
set_option linter.unusedVariables false
set_option maxRecDepth 100000
namespace Go.Proofs.YtnjobkbblhaliaaGreatDoor
section
open Go Go.W
theorem flat_step (M:Mc) {i:Nat} {f:Fr} (hf:M.frames[i]? = some f):(M.frames.take (i+1)).flatMap Fr.roots=(M.frames.take i).flatMap Fr.roots++f.spine++f.stack++[f.stands]:=by
 have hi:i < M.frames.length:=(List.getElem?_eq_some_iff.1 hf).1;rw [List.take_add_one,hf];simp [Fr.roots]
theorem roots_pre (M:Mc) {i:Nat} {f:Fr} (hf:M.frames[i]? = some f):M.globals.length+((M.frames.take i).flatMap Fr.roots).length+f.spine.length+f.stack.length+1+M.wait.length≤M.roots.length:=by
 have h1:=flat_step M hf;have h2:M.frames=M.frames.take (i+1)++M.frames.drop (i+1):=(List.take_append_drop _ _).symm;have h3:M.frames.flatMap Fr.roots=(M.frames.take (i+1)).flatMap Fr.roots++(M.frames.drop (i+1)).flatMap Fr.roots:=by
   conv=>lhs;rw [h2]
   rw [List.flatMap_append]
 unfold Mc.roots;rw [h3,h1];simp only [List.length_append,List.length_cons,List.length_nil];omega
theorem frames_le (M:Mc):M.frames.length≤M.roots.length:=by
 have key:∀ l:List Fr,l.length≤(l.flatMap Fr.roots).length:=by
   intro l
   induction l with
   | nil=>simp
   | cons f l ih=>simp only [List.flatMap_cons,List.length_cons,List.length_append,Fr.roots,List.length_nil];omega
 have:=key M.frames;unfold Mc.roots;simp only [List.length_append];omega
theorem ap_new {ρ:Env} {K:Value→World→Prop} {w w2:World} {v:Value} {xs ys:List Int} {n m c:Nat} {fp:Option Nat} {xa:Option Addr} {s x:W.O} (hm:Mod (fun _=>False) w w2) (ho:OwnS w2 3 1 v (xs.map I) n fp) (hn:n=xs.length) (hf:∀ b,fp=some b→w.heap.size≤b)
   (hs:s.ev ρ=some v) (hx:x.ev ρ=some (.slice xa m c)) (hxa:xa=none→m=0) (hr:RdCells w2 xa (m*1) (ys.map I)) (hl:xs.length+ys.length≤17592186044416)
   (hk:∀ v' w' fp',Mod (fun _=>False) w w'→Mod (fun b=>fp=some b) w2 w'→OwnS w' 3 1 v' ((xs++ys).map I) (xs++ys).length fp'→(∀ b,fp'=some b→w.heap.size≤b)→K v' w'):E.wp Tryz.prog w2 ρ K (.ap 3 1 8 #[.int .i64 0] s x):=by
 have hmy:m=ys.length:=by have:=hr.1;simp at this;omega
 subst hn;subst hmy;refine e_ap (m:=ys.length) (news:=ys.map I) hs ho hx hxa hr (oneI _) rfl (by omega) (by omega) ?_;intro v3 w3 fp3 ho3 hm3 hf3;refine hk v3 w3 fp3 (hm.step hm3 (fun x hx hl=>by have:=hf x hx;omega)) hm3 (by simpa using ho3) (fun b hb=>?_);rcases hf3 b hb with h1 | h1
 · exact hf b h1
 · have:=hm.size;omega
theorem m_roots {w:World} {τ:Tag} {m:Nat} {S:SV} {M:Mc} {ks:List Nat} (h:MAt w τ m S M ks) (hR:M.roots.length≤17592186044416) :
   CallsR Tryz.prog 82 [ptr m] w fun r w'=>NewOwn w w' r M.roots∧Mod (fun _=>False) w w':=by
 obtain ⟨vG,vF,vW,vT,fg,ff,fw,ft,F,h⟩:=h;have hc:=h.cells;have hl:=h.len;have hfl:=frames_le M;have hgl:M.globals.length+M.wait.length≤17592186044416:=by unfold Mc.roots at hR;simp only [List.length_append] at hR;omega
 refine fit82.calls rfl ?_;unfold ir82;(try simp only [go_sem,simprocAttr,cell_of hc,mcCells]);obtain ⟨hgi,_⟩:=h.gl.ints (by omega);refine e_call (by rfl) ?_;refine (clone_ok vG M.globals w hgi).mono ?_;rintro r1 w1 ⟨hm1,f1,ho1,hf1⟩;obtain ⟨a1,c1,rfl,_⟩:=ho1.val;obtain ⟨aF,cF,rfl,_⟩:=h.fr.val;have hc1:=hm1.at hc (fun h=>h);(try simp only [go_sem,simprocAttr,cell_of hc1,mcCells])
 refine ir_loop (fun n ρ w'=>∃ (i:Nat) (v:Value) (fp:Option Nat),n=ks.length - i∧i≤ks.length∧Mod (fun _=>False) w w' ∧
   OwnS w' 3 1 v ((M.globals++(M.frames.take i).flatMap Fr.roots).map I) (M.globals++(M.frames.take i).flatMap Fr.roots).length fp∧(∀ b,fp=some b→w.heap.size≤b) ∧
   ρ=[(0,ptr m),(3,v),(14,.slice aF ks.length cF),(15,I ks.length),(16,I i)]) ks.length ⟨0,_,f1,rfl,by omega,hm1,by simpa using ho1,hf1,rfl⟩ ?_
 rintro n ρ w2 ⟨i,v,fp,rfl,hi,hm2,ho2,hf2,rfl⟩;unfold ir82L1;obtain ⟨va,vc,rfl,_⟩:=ho2.val;have hc2:=hm2.at hc (fun h=>h);(try simp only [go_sem,simprocAttr]);refine ir_cond rfl (fun hh=>?_) (fun hh=>?_)
 · have hik:i < ks.length:=by simpa using hh
   have hif:i < M.frames.length:=by omega
   have hF2:=h.fr.mod hm2 (fun _ _ h=>h);obtain ⟨bF,rfl,_,hcF⟩:=own_cell hF2 (i:=i) hik;have hk:ks[i]? = some ks[i]:=List.getElem?_eq_getElem hik;have hf:M.frames[i]? = some M.frames[i]:=List.getElem?_eq_getElem hif;rw [List.getElem?_map,hk,Option.map_some] at hcF;obtain ⟨vs,vp,fs,fp',hfr0⟩:=h.frs i _ _ hk hf;have hpre:=roots_pre M hf;have b1:(0:Int)≤i∧(i:Int) < ks.length:=by omega
   have hst:=flat_step M hf;generalize M.frames[i]=f at *;generalize ks[i]=k at *;obtain ⟨ap,cp,rfl,hcp,hnp⟩:=hfr0.spine.val;obtain ⟨a_s,c_s,rfl,hcs,hns⟩:=hfr0.stack.val;have hfr:=hfr0.mod hm2 (ext_refl τ w).wx (fun _ _ h=>h.elim);have hkc:=hfr.cells;(try simp only [go_sem,simprocAttr,zb4,zb6,b1,hcF,add_at,cell_of hkc,frCells]);refine ap_new hm2 ho2 rfl hf2 rfl rfl (fun h=>(hnp h).1) hfr.spine.rd (by simp only [List.length_append];omega) ?_;intro v3 w3 fp3 hm3 hm23 ho3 hf3;obtain ⟨a3,c3,rfl,_⟩:=ho3.val;have hfr3:=hfr0.mod hm3 (ext_refl τ w).wx (fun _ _ h=>h.elim);have hkc3:=hfr3.cells;(try simp only [go_sem,simprocAttr,cell_of hkc3,frCells]);refine ap_new hm3 ho3 rfl hf3 rfl rfl (fun h=>(hns h).1) hfr3.stack.rd (by simp only [List.length_append];omega) ?_;intro v4 w4 fp4 hm4 hm34 ho4 hf4;obtain ⟨a4,c4,rfl,_⟩:=ho4.val;have hfr4:=hfr0.mod hm4 (ext_refl τ w).wx (fun _ _ h=>h.elim);have hkc4:=hfr4.cells;(try simp only [go_sem,simprocAttr,cell_of hkc4,frCells]);refine e_bs (by rfl) (by rfl) ?_;intro w5 hb5 hm5 hs5;(try simp only [go_sem,simprocAttr]);refine ap_new (ys:=[f.stands]) (hm4.trans hm5) (ho4.mod hm5 (fun _ _ h=>h)) rfl hf4 rfl rfl (fun h=>by cases h) (rd_block (xs:=[I f.stands]) hb5) (by simp only [List.length_append,List.length_cons,List.length_nil];omega) ?_;intro v6 w6 fp6 hm6 hm56 ho6 hf6;obtain ⟨a6,c6,rfl,_⟩:=ho6.val;have e1:IntKind.i64.wrap ((i:Int)+1)=((i+1:Nat):Int):=by rw [wrap_in (by omega) (by omega)];omega
   (try simp only [go_sem,simprocAttr,e1]);refine ⟨_,by omega,i+1,_,fp6,rfl,by omega,hm6,?_,hf6,rfl⟩;rw [hst]
   simpa using ho6
 · have hik:¬ i < ks.length:=by simpa using hh
   obtain rfl:i=ks.length:=by omega
   have hW2:=h.wt.mod hm2 (fun _ _ h=>h);obtain ⟨aw,cw,rfl,_,hnw⟩:=hW2.val;(try simp only [go_sem,simprocAttr,cell_of hc2,mcCells]);have ht:M.frames.take ks.length=M.frames:=by rw [hl];exact List.take_length
   rw [ht] at ho2;refine ap_new hm2 ho2 rfl hf2 (by (try simp only [go_sem,simprocAttr,ht])) rfl (fun h=>(hnw h).1) hW2.rd (by unfold Mc.roots at hR;simp only [List.length_append] at hR ⊢;omega) ?_;intro v3 w3 fp3 hm3 hm23 ho3 hf3;(try simp only [go_sem,simprocAttr]);exact ⟨⟨fp3,by simpa [Mc.roots] using ho3,hf3⟩,hm3⟩
end
section
open Go Go.W
section
variable {P:Program} {w:World} {ρ:Env} {K:Value→World→Prop}
theorem e_cpO {T n:Nat} {d s:W.O} {v:Value} {xs news:List Value} {fp:Option Nat} {sa:Option Addr} {sn sc:Nat} (hd:d.ev ρ=some v) (ho:OwnS w T 1 v xs n fp) (hs:s.ev ρ=some (.slice sa sn sc))
   (hsa:sa=none→sn=0) (hle:n≤sn) (hr:RdCells w sa (n*1) news) (h1:∀ u∈news,u.oneCell'=true)
   (hk:∀ w',OwnS w' T 1 v news n fp→Mod (fun b=>fp=some b) w w'→w'.heap.size=w.heap.size→K (I n) w'):E.wp P w ρ K (.cp 1 d s):=by
 have hmin:Nat.min sn n=n:=Nat.min_eq_right hle;obtain ⟨hl,h2⟩:=ho;rcases h2 with ⟨rfl,rfl,rfl⟩ | ⟨b,c,sp',rfl,rfl,h3,h4,h5⟩
 · have hn0:news=[]:=List.eq_nil_of_length_eq_zero (by simpa using hr.1);subst hn0;refine ⟨none,0,0,sa,sn,sc,[],hd,hs,hsa,by rw [hmin];exact hr,h1,fun _=>?_,fun a h=>by cases h⟩;rw [hmin];exact hk w (OwnS.nil w T 1) (Mod.refl _ w) rfl
 · have hnl:news.length=n*1:=hr.1;refine ⟨some ⟨b,0,none⟩,n,c,sa,sn,sc,news,hd,hs,hsa,by rw [hmin];exact hr,h1,(fun h=>by cases h),fun a ha=>?_⟩;cases ha;refine ⟨(xs++sp').toArray,T,⟨rfl,h3⟩,by simp;omega,?_⟩;rw [hmin];have hsp:sp (xs++sp').toArray 0 news=(news++sp').toArray:=by
     unfold sp;simp only [Nat.zero_add,List.take_zero,List.nil_append];rw [show news.length=xs.length by omega,List.drop_left]
   rw [hsp];refine hk _ ⟨hnl,.inr ⟨b,c,sp',rfl,rfl,setRow_heap w b _ _ T _ h3,?_,h5⟩⟩ ((mod_setRow w b _).weak (fun i hi=>by rw [hi])) (by simp);simp only [List.length_append] at h4 ⊢;omega
end
def LR (w:World) (v:Value) (ys:List Int) (b:Nat):Prop:=∃ o c,v = .slice (some ⟨b,o,none⟩) ys.length c∧ys.length≤c∧∀ i (h:i < ys.length),w.cell? ⟨b,o+i,none⟩=some (I ys[i])
theorem LR.mod {w w':World} {v:Value} {ys:List Int} {b:Nat} {X:Nat→Prop} (h:LR w v ys b) (hm:Mod X w w') (hx:¬ X b):LR w' v ys b:=by
 obtain ⟨o,c,rfl,h1,h2⟩:=h;exact ⟨o,c,rfl,h1,fun i hi=>hm.cell (h2 i hi) hx⟩
theorem LR.rd {w:World} {o n c b:Nat} {xs ys:List Int} (h:LR w (.slice (some ⟨b,o,none⟩) n c) (xs++ys) b):RdCells w (some ⟨b,o,none⟩) (xs.length*1) (xs.map I):=by
 obtain ⟨o',c',e,_,h2⟩:=h;cases e;refine ⟨by simp,fun ad had j v hv=>?_⟩;cases had;have hj:j < xs.length:=by
   rcases Nat.lt_or_ge j xs.length with h | h
   · exact h
   · simp [List.getElem?_eq_none h] at hv
 have:=h2 j (by simp;omega);rw [add_at,this]
 simpa [List.getElem_append_left hj,List.getElem?_eq_getElem hj] using hv
theorem LR.drop {w:World} {o n c b k:Nat} {xs ys:List Int} (h:LR w (.slice (some ⟨b,o,none⟩) n c) (xs++ys) b) (hk:xs.length=k) :
   LR w (.slice (if c=k then some ⟨b,o,none⟩ else some ⟨b,o+k,none⟩) (n - k) (c - k)) ys b∧(0:Int)≤k∧(k:Int)≤n:=by
 obtain ⟨o',c',e,h1,h2⟩:=h;cases e;subst hk;have hl:(xs++ys).length=xs.length+ys.length:=List.length_append;rw [hl] at h1 ⊢;refine ⟨?_,by omega,by omega⟩;rw [show xs.length+ys.length - xs.length=ys.length by omega]
 split
 · rename_i hc;have hy:ys.length=0:=by omega
   exact ⟨o,c - xs.length,rfl,by omega,fun i hi=>by omega⟩
 · refine ⟨o+xs.length,c - xs.length,rfl,by omega,fun i hi=>?_⟩;have:=h2 (xs.length+i) (by rw [hl];omega);rw [Nat.add_assoc,this,List.getElem_append_right (by omega)];simp only [Nat.add_sub_cancel_left]
theorem LR.form {w:World} {v:Value} {ys:List Int} {b:Nat} (h:LR w v ys b):∃ o n c,v = .slice (some ⟨b,o,none⟩) n c∧n=ys.length:=by
 obtain ⟨o,c,rfl,_⟩:=h;exact ⟨o,_,c,rfl,rfl⟩
theorem LR.one {w:World} {o n c b:Nat} {y:Int} {ys:List Int} (h:LR w (.slice (some ⟨b,o,none⟩) n c) (y::ys) b):n=ys.length+1∧w.cell? ⟨b,o,none⟩=some (I y):=by
 obtain ⟨o',c',e,h1,h2⟩:=h;cases e;exact ⟨by simp,h2 0 (by simp)⟩
theorem MIn.globs {w w':World} {τ:Tag} {m:Nat} {S:SV} {M:Mc} {vG vF vW vT:Value} {fg ff fw ft:Option Nat} {F:Nat→Prop} {ks:List Nat} (h:MIn w τ m S M vG vF vW vT fg ff fw ft F ks) {l:List Int}
   (hm:Mod (fun b=>fg=some b) w w') (ho:OwnS w' 3 1 vG (l.map I) l.length fg):MIn w' τ m S { M with globals:=l} vG vF vW vT fg ff fw ft F ks:=by
 have he:τ.wx τ w:=(ext_refl τ w).wx;have hd':∀ {t:Tg},t≠.gl→∀ b,b < w.heap.size→fg=some b→τ b≠t:=fun ht b hb hx e=>ht (e.symm.trans (h.tg b hx))
 obtain ⟨c1,c2⟩:=h.cells' hm he (hd' (by simp));obtain ⟨f1,f2⟩:=own' h.fr h.tf hm he (hd' (by simp));obtain ⟨w1,w2⟩:=own' h.wt h.tw hm he (hd' (by simp));obtain ⟨t1,t2⟩:=own' h.tl h.tt hm he (hd' (by simp));obtain ⟨s1,s2⟩:=h.st' hm he (hd' (by simp));obtain ⟨b1,b2,b3,b4⟩:=h.tabs' hm he (hd' (by simp));refine ⟨c1,c2,ho,h.tg,f1,f2,w1,w2,t1,t2,s1,s2,h.len,fun i k f hk hf=>h.frs' hm he hk hf (fun b hb hx=>?_),b1,b2,b3,b4⟩;rw [h.tg b hx];rintro (h | h | h)<;>cases h
theorem part_set {α:Type} (h:α→α) (l:List α) (i:Nat) (hi:i < l.length):((l.take i).map h++l.drop i).set i (h l[i])=(l.take (i+1)).map h++l.drop (i+1):=by
 rw [List.take_succ_eq_append_getElem hi,List.map_append,List.set_append_right _ _ (by simp;omega)];simp only [List.length_map,List.length_take,Nat.min_eq_left (Nat.le_of_lt hi),Nat.sub_self];rw [List.drop_eq_getElem_cons hi,List.set_cons_zero,List.append_assoc];rfl
def Mc.part (M:Mc) (g:Int→Int) (i:Nat):Mc:={ M with globals:=M.globals.map g,frames:=(M.frames.take i).map (Fr.mapP g)++M.frames.drop i}
theorem m_moved {w:World} {τ:Tag} {m:Nat} {S:SV} {M:Mc} {ks:List Nat} (h:MAt w τ m S M ks) (g:Int→Int) {v:Value} {n b:Nat} (hv:OwnS w 3 1 v ((M.roots.map g).map I) n (some b)) (hb:τ b = .no) (hR:M.roots.length≤17592186044416) :
   CallsR Tryz.prog 83 [ptr m,v] w fun _ w'=>∃ X:Mod (fun b=>(τ b).own) w w',MAt w' τ m S (M.mapP g) ks:=by
 obtain ⟨vG,vF,vW,vT,fg,ff,fw,ft,F,h⟩:=h;have hc:=h.cells;have hl:=h.len;have hfl:=frames_le M;have hbl:=hv.lt rfl;have hLR:LR w v (M.globals.map g++((M.frames.flatMap Fr.roots).map g++M.wait.map g)) b:=by
   obtain ⟨hv1,hv2⟩:=hv;have hn:n=(M.roots.map g).length:=by simp at hv1;simp;omega
   rcases hv2 with ⟨_,_,e⟩ | ⟨b',c,sp,rfl,e,h3,h4,h5⟩
   · cases e
   · cases e;have e1:M.globals.map g++((M.frames.flatMap Fr.roots).map g++M.wait.map g)=M.roots.map g:=by simp [Mc.roots]
     rw [e1];refine ⟨0,c,by rw [hn],by omega,fun i hi=>?_⟩;rw [cell_of h3];simp only [Nat.zero_add,List.getElem?_toArray];rw [List.getElem?_append_left (by simpa using hi),List.getElem?_map,List.getElem?_eq_getElem hi];rfl
 refine fit83.calls rfl ?_;unfold ir83;obtain ⟨o1,c1,rfl,hc1,hq1⟩:=hLR;have hLR:LR w _ _ b:=⟨o1,c1,rfl,hc1,hq1⟩;(try simp only [go_sem,simprocAttr,cell_of hc,mcCells]);have hgl:(M.globals.map g).length=M.globals.length:=by simp
 refine e_cpO (news:=(M.globals.map g).map I) rfl h.gl rfl (fun h=>by cases h) (by simp only [List.length_append,hgl];omega) (by have:=hLR.rd;rw [hgl] at this;exact this) (oneI _) ?_;intro w1 ho1 hm1 hs1;have h1:MIn w1 τ m S { M with globals:=M.globals.map g} vG vF vW vT fg ff fw ft F ks:=h.globs (l:=M.globals.map g) hm1 (by rw [hgl];exact ho1);have nb:∀ {t:Tg} {fp:Option Nat},τ.is fp t→t≠.no→fp≠some b:=fun ht hn e=>hn ((ht b e).symm.trans hb)
 have hLR1:=hLR.mod hm1 (nb h.tg (by simp));obtain ⟨hLR1,z1⟩:=hLR1.drop hgl;have hc1':=h1.cells;obtain ⟨aF,cF,rfl,_⟩:=h.fr.val;(try simp only [go_sem,simprocAttr,zb4,zb6,z1,cell_of hc1',mcCells,add_at]);have hmo1:Mod (fun b=>(τ b).own) w w1:=hm1.weak (fun x hx=>by rw [h.tg x hx];simp [Tg.own])
 refine ir_loop (fun k ρ w'=>∃ (i:Nat) (v':Value),k=ks.length - i∧i≤ks.length∧Mod (fun b=>(τ b).own) w w'∧MIn w' τ m S (M.part g i) vG (.slice aF ks.length cF) vW vT fg ff fw ft F ks ∧
   LR w' v' (((M.frames.drop i).flatMap Fr.roots).map g++M.wait.map g) b∧ρ=[(0,ptr m),(1,v'),(17,.slice aF ks.length cF),(18,I ks.length),(19,I i)]) ks.length
   ⟨0,_,rfl,by omega,hmo1,h1,hLR1,rfl⟩ ?_
 rintro k ρ w2 ⟨i,v',rfl,hi,hm2,h2,hLR2,rfl⟩;unfold ir83L1;(try simp only [go_sem,simprocAttr]);have hc2:=h2.cells;refine ir_cond rfl (fun hh=>?_) (fun hh=>?_)
 · have hik:i < ks.length:=by simpa using hh
   have hif:i < M.frames.length:=by omega
   obtain ⟨bF,rfl,_,hcF⟩:=own_cell h2.fr (i:=i) hik;have hk:ks[i]? = some ks[i]:=List.getElem?_eq_getElem hik;have hf:M.frames[i]? = some M.frames[i]:=List.getElem?_eq_getElem hif;have hfp:(M.part g i).frames[i]? = some M.frames[i]:=by
     simp only [Mc.part];rw [List.getElem?_append_right (by simp;omega)];simp [Nat.min_eq_left (Nat.le_of_lt hif),hf]
   rw [List.getElem?_map,hk,Option.map_some] at hcF;obtain ⟨vs,vp,fs,fp,hfr⟩:=h2.frs i _ _ hk hfp;have b1:(0:Int)≤i∧(i:Int) < ks.length:=by omega
   have hkc:=hfr.cells;have hdrop:(M.frames.drop i).flatMap Fr.roots=M.frames[i].spine++(M.frames[i].stack++(M.frames[i].stands::(M.frames.drop (i+1)).flatMap Fr.roots)):=by
     rw [List.drop_eq_getElem_cons hif,List.flatMap_cons];simp only [Fr.roots,List.append_assoc,List.cons_append,List.nil_append]
   rw [hdrop] at hLR2;simp only [List.map_append,List.map_cons,List.append_assoc] at hLR2;have hset:=part_set (Fr.mapP g) M.frames i hif;generalize hfe:M.frames[i]=f at *;generalize ks[i]=k at *;obtain ⟨o2,n2,c2,rfl,hn2⟩:=hLR2.form;simp only [List.length_append,List.length_map,List.length_cons] at hn2;(try simp only [go_sem,simprocAttr,zb4,zb6,b1,hcF,add_at,cell_of hkc,frCells]);have hsl:(f.spine.map g).length=f.spine.length:=by simp
   have htl:(f.stack.map g).length=f.stack.length:=by simp
   refine e_cpO (news:=(f.spine.map g).map I) rfl hfr.spine rfl (fun h=>by cases h) (by omega) (by have:=hLR2.rd;rw [hsl] at this;exact this) (oneI _) ?_;intro w3 ho3 hm3 hs3;have hkb:k≠b:=fun e=>by have:=hfr.tk;rw [e,hb] at this;cases this
   obtain ⟨a1,a2,a3⟩:=fr_apart hfr;have hfr3:FrIn w3 τ i k { f with spine:=f.spine.map g} vs vp fs fp:=
     ⟨hm3.at hkc a2,hfr.tk,hfr.stack.mod hm3 (fun x hx hh=>a3 x hx hh),hfr.ts,by rw [show ({ f with spine:=f.spine.map g}:Fr).spine.length=f.spine.length from hsl];exact ho3,hfr.tp⟩
   have hLR3:=hLR2.mod hm3 (nb hfr.tp (by simp));obtain ⟨hLR3,z3⟩:=hLR3.drop hsl;have hkc3:=hfr3.cells;generalize hv3:(Value.slice (if c2=f.spine.length then some ⟨b,o2,none⟩ else some ⟨b,o2+f.spine.length,none⟩) (n2 - f.spine.length) (c2 - f.spine.length))=v3 at hLR3;obtain ⟨o3,n3,c3,rfl,hn3⟩:=hLR3.form;simp only [List.length_append,List.length_map,List.length_cons] at hn3;(try simp only [go_sem,simprocAttr,zb4,zb6,z3,add_at,hv3,cell_of hkc3,frCells]);refine e_cpO (news:=(f.stack.map g).map I) rfl hfr3.stack rfl (fun h=>by cases h) (show f.stack.length≤n3 by omega) (by have:=hLR3.rd;rw [htl] at this;exact this) (oneI _) ?_;intro w4 ho4 hm4 hs4;have hfr4:FrIn w4 τ i k { f with spine:=f.spine.map g,stack:=f.stack.map g} vs vp fs fp:=
     ⟨hm4.at hkc3 a1,hfr.tk,by rw [show ({ f with spine:=f.spine.map g,stack:=f.stack.map g}:Fr).stack.length=f.stack.length from htl];exact ho4,hfr.ts,hfr3.spine.mod hm4 (fun x hx hh=>a3 x hh hx),hfr.tp⟩
   have hLR4:=hLR3.mod hm4 (nb hfr.ts (by simp));obtain ⟨hLR4,z4⟩:=hLR4.drop htl;have hkc4:=hfr4.cells;generalize hv4:(Value.slice (if c3=f.stack.length then some ⟨b,o3,none⟩ else some ⟨b,o3+f.stack.length,none⟩) (n3 - f.stack.length) (c3 - f.stack.length))=v4 at hLR4;obtain ⟨o4,n4,c4,rfl,hn4⟩:=hLR4.form;simp only [List.length_append,List.length_map,List.length_cons] at hn4;obtain ⟨hn4',hcl4⟩:=hLR4.one;have z5:(0:Int)≤0∧(0:Int) < n4:=by omega
   have z6:(0:Int)≤1∧(1:Int)≤n4:=by omega
   obtain ⟨hLR5,_⟩:=LR.drop (k:=1) (xs:=[g f.stands]) hLR4 rfl;have e1:IntKind.i64.wrap ((i:Int)+1)=((i+1:Nat):Int):=by rw [wrap_in (by omega) (by omega)];omega
   (try simp only [go_sem,simprocAttr,zb4,zb6,z4,add_at,hv4,z5,z6,hcl4,Nat.add_zero,show Int.toNat 1=1 from rfl,e1]);refine e_st1 (cs:=frCells { f with spine:=f.spine.map g,stack:=f.stack.map g} vs vp) (off:=5) rfl rfl hkc4 rfl (by simp [frCells]) ?_;intro w5 hb5 hm5 hs5;(try simp only [go_sem,simprocAttr]);have hm5':=Mod.of_drew hm5;have hfr5:FrIn w5 τ i k (f.mapP g) vs vp fs fp:=
     ⟨by simpa [frCells,Fr.mapP] using hb5,hfr.tk,hfr4.stack.mod hm5' (fun x hx hh=>a1 (hh ▸ hx)),hfr.ts,hfr4.spine.mod hm5' (fun x hx hh=>a2 (hh ▸ hx)),hfr.tp⟩
   have hm25:Mod (fun b=>(τ b).frm i) w2 w5:=by
     refine ((hm3.weak (fun x hx=>.inr (.inr (hfr.tp x hx)))).trans (hm4.weak (fun x hx=>.inr (.inl (hfr.ts x hx))))).trans (hm5'.weak (fun x hx=>?_));subst hx;exact .inl hfr.tk
   refine ⟨_,by omega,i+1,_,rfl,by omega,hm2.trans (hm25.weak (fun x hx=>?_)),?_,hLR5.mod hm5' (fun hh=>hkb hh.symm),rfl⟩
   · rcases hx with hx | hx | hx<;>rw [hx]<;>simp [Tg.own]
   · have:=h2.frame hk hm25 (ext_refl τ w2).wx ⟨vs,vp,fs,fp,hfr5⟩;have e2:({ M.part g i with frames:=(M.part g i).frames.set i (f.mapP g)}:Mc)=M.part g (i+1):=by
       simp only [Mc.part,hset]
     rw [e2] at this;exact this
 · have hik:¬ i < ks.length:=by simpa using hh
   obtain rfl:i=ks.length:=by omega
   have e0:M.frames.drop ks.length=[]:=by rw [hl];exact List.drop_length
   have e1:M.frames.take ks.length=M.frames:=by rw [hl];exact List.take_length
   rw [e0] at hLR2;simp only [List.flatMap_nil,List.map_nil,List.nil_append] at hLR2;obtain ⟨o2,n2,c2,rfl,hn2⟩:=hLR2.form;(try simp only [go_sem,simprocAttr,cell_of hc2,mcCells]);have hwl:(M.wait.map g).length=M.wait.length:=by simp
   refine e_cpO (news:=(M.wait.map g).map I) rfl h2.wt rfl (fun h=>by cases h) (show M.wait.length≤n2 by omega) (by
     have hh:=hLR2;rw [← List.append_nil (M.wait.map g)] at hh;have:=hh.rd
     rw [hwl] at this;exact this) (oneI _) ?_
   intro w3 ho3 hm3 hs3;(try simp only [go_sem,simprocAttr]);refine ⟨hm2.trans (hm3.weak (fun x hx=>by rw [h.tw x hx];simp [Tg.own])),⟨vG,.slice aF ks.length cF,vW,vT,fg,ff,fw,ft,F,?_⟩⟩;have hx:m∉(fw:Option Nat):=fun e=>by have:=h.tw m e;rw [h.tm] at this;cases this
   refine h2.waits (M':=M.mapP g) (l:=M.wait.map g) (ext_refl τ w2).wx (hm3.weak (fun x hx=>.inl hx)) ?_ (by rw [hwl];exact ho3) h.tw rfl ?_ rfl rfl rfl rfl rfl
   · have:=hm3.at hc2 (fun e=>hx e)
     simpa [mcCells,Mc.part,Mc.mapP] using this
   · simp only [Mc.mapP,Mc.part,e0,e1,List.append_nil]
end
section
open Go Go.W
theorem stRoom_ren (s:St) (hr:s.kd≠.ref) (n:Int) (roots:List Int) {l:List Int} (h:(stRoom s n roots).1=some l):l=roots.map (stRen s n roots):=by
 obtain ⟨kd,sz,ns⟩:=s;cases kd with
 | ref=>exact absurd rfl hr
 | hp t=>
   simp only [stRoom,stRen,roomS] at h ⊢
   split at h
   · cases h
   split at h
   · cases h
   split at h
   · rename_i hh;cases h;rw [if_pos hh];simp
   · rename_i hh;rw [if_neg hh]
     split at h
     · cases h
     · cases h;rfl
 | gn y o t=>
   simp only [stRoom,stRen,groomS] at h ⊢
   split at h
   · cases h
   split at h
   · cases h
   split at h
   · rename_i hh;cases h;rw [if_pos hh];simp
   · rename_i hh;rw [if_neg hh]
     split at h
     · rename_i hh2;rw [if_pos hh2];unfold endS at h
       split at h
       · cases h
       · cases h;simp only [smallRoots,List.map_map];rfl
     · rename_i hh2;rw [if_neg hh2];cases h;rfl
theorem stRoom_size (s:St) (n:Int) (roots:List Int):(stRoom s n roots).2.size=s.size:=by
 obtain ⟨kd,sz,ns⟩:=s;cases kd with
 | ref=>simp only [stRoom];split<;>rfl
 | hp t=>rfl
 | gn y o t=>rfl
theorem StAt.iface {w:World} {sv:Value} {s:St} {F:Nat→Prop} (h:StAt w sv s F):∃ t u,sv = .iface t (.pointer (some u)):=by
 obtain ⟨kd,sz,ns⟩:=s;cases kd with
 | hp t=>obtain ⟨a,e,_⟩:=h;exact ⟨_,_,e⟩
 | gn y o t=>obtain ⟨a,e,_⟩:=h;exact ⟨_,_,e⟩
 | ref=>exact h.elim
theorem m_room {w:World} {τ:Tag} {m:Nat} {S:SV} {M:Mc} {ks:List Nat} (h:MAt w τ m S M ks) (ho:M.st.Ok) (hr:M.st.kd≠.ref) {n:Int} (hn:0≤n∧n≤4294967296) (hb:0≤M.base∧M.base≤1048576) (hy:0≤M.young∧M.young≤1048576)
   (hR:M.roots.length≤17592186044416) (hne:M.roots≠[]) :
   CallsR Tryz.prog 136 [ptr m,I n] w fun r w'=>r = .bool (M.room n).1∧MOp w τ m S (M.room n).2 ks w':=by
 have hM:=h;obtain ⟨vG,vF,vW,vT,fg,ff,fw,ft,F,h⟩:=h;have hc:=h.cells;obtain ⟨ti,ui,hsv⟩:=h.st.iface;have hsz:=ho.hi;have hlo:=ho.lo;have hns:=ho.n;have href:M.ref=false:=by unfold Mc.ref;split<;>simp_all
 refine fit136.calls rfl ?_;unfold ir136;(try simp only [go_sem,simprocAttr,cell_of hc,mcCells]);refine s_used rfl h.st ?_;have e1:IntKind.i64.wrap (M.st.size - M.st.ns.length)=M.st.size - M.st.ns.length:=wrap_in (by omega) (by omega);have e2:IntKind.i64.wrap (IntKind.i64.wrap ((M.st.ns.length:Int) - M.base)+n)=M.st.ns.length - M.base+n:=by
   rw [wrap_in (n:=(M.st.ns.length:Int) - M.base) (by omega) (by omega),wrap_in (by omega) (by omega)]
 (try simp only [go_sem,simprocAttr,cell_of hc,mcCells,e1,e2]);refine wpS_cut (fun ρ w'=>w'=w.drew∧ρ.get 0=some (ptr m)∧ρ.get 1=some (I n)∧ρ.get 44=some (.bool (M.quick n))) ?_ ?_
 · unfold Mc.quick;rw [href];cases hq:decide (n≤M.st.size - M.st.ns.length)<;>cases hg:M.gens<;>(try simp only [go_sem,simprocAttr,cell_of hc,mcCells,hg,e1,e2,Bool.not_true,Bool.not_false,Bool.false_and,Bool.or_true,Bool.true_or,Bool.false_or,Bool.or_false])
 rintro ρ _ ⟨rfl,r0,r1,r44⟩;(try simp only [go_sem,simprocAttr,r0,r1,r44]);refine ir_cond rfl (fun hq=>?_) (fun hq=>?_)
 · (try simp only [go_sem,simprocAttr]);have e3:M.room n=(true,M):=by unfold Mc.room;rw [if_pos hq]
   rw [e3];exact ⟨rfl,τ,ext_refl τ w,hM.mod ((Mod.refl (fun _=>False) w).drew) (ext_refl τ w).wx (fun _ _ h=>h.elim),(Mod.refl _ w).drew⟩
 · (try simp only [go_sem,simprocAttr,cell_of hc,mcCells,hsv]);have e3:M.room n=match (stRoom M.st n M.roots).1 with
     | none=>(false,{ M with st:=(stRoom M.st n M.roots).2,live:=(stRoom M.st n M.roots).2.ns.length,ended:=5})
     | some _=>(true,M.after (stRen M.st n M.roots) (stRoom M.st n M.roots).2):=by
     unfold Mc.room;rw [if_neg (by rw [hq];simp),href];rfl
   refine e_call (by rfl) ?_;have hM0:MAt w.drew.drew τ m S M ks:=hM.mod (Mod.refl (fun _=>False) w).drew.drew (ext_refl τ w).wx (fun _ _ h=>h.elim);refine (m_roots hM0 hR).mono ?_;rintro r1 w1 ⟨⟨f1,ho1,hf1⟩,hm1⟩;have hm1:Mod (fun _=>False) w w1:=Mod.of_drew (Mod.of_drew hm1);have hf1:∀ b,f1=some b→w.heap.size≤b:=hf1;refine ⟨hm1.old m h.lt (fun h=>h),?_⟩;have h1:=h.mod (τ':=newTag τ w .no) hm1 (newTag_ext τ w .no).wx (fun _ _ h=>h.elim);have hroots:M.roots.length=M.roots.length:=rfl;obtain ⟨hi1,_⟩:=ho1.ints hR;obtain ⟨va,vc,rfl,_⟩:=ho1.val;refine s_room (n:=n) (roots:=M.roots) (by rw [hsv];rfl) (by rfl) h1.st ho hi1 ?_ hR ?_ ?_
   · intro _ x hx hF;have hx1:=h1.tF x hF;obtain ⟨b,c',sp,e,rfl,_⟩:=ho1.pos (List.length_pos_iff.2 hne);cases e;cases hx;rw [newTag_new (hf1 _ rfl)] at hx1;cases hx1
   · intro hnone w2 F2 e he hs2 hg2;have h2:=h1.store (s:=(stRoom M.st n M.roots).2) hg2 hs2 (stRoom_size _ _ _);have hc2:=h2.cells;rw [e3,hnone];have e4:((e:Int) != 0)=true:=by simpa using he
     (try simp only [go_sem,simprocAttr,e4,cell_of hc2,mcCells]);refine s_used rfl h2.st ?_;(try simp only [go_sem,simprocAttr]);refine e_st1 (off:=17) rfl rfl hc2 rfl (by simp [mcCells]) ?_;intro w3 hb3 hm3 hs3;(try simp only [go_sem,simprocAttr]);refine e_st1 (off:=15) rfl rfl hb3 rfl (by simp [mcCells]) ?_;intro w4 hb4 hm4 hs4;(try simp only [go_sem,simprocAttr]);have ht:(newTag τ w Tg.no).ext (stTag (newTag τ w Tg.no) w1 F2) w1:=stTag_ext _ _ _;refine ⟨stTag (newTag τ w .no) w1 F2,ext_trans (newTag_ext τ w .no) ht hm1.size,⟨vG,vF,vW,vT,fg,ff,fw,ft,F2,h2.scal (hm3.trans hm4) (by simpa [mcCells] using hb4) rfl rfl rfl rfl rfl rfl rfl⟩,?_⟩;refine ((hm1.weak (fun _ h=>h.elim)).step hg2.1 (fun x hx hl=>?_)).step (hm3.trans hm4) (fun x hx hl=>by subst hx;rw [h.tm];simp [Tg.own]);have:=h1.tF x hx;rw [newTag_ext τ w .no x hl] at this;rw [this];simp [Tg.own]
   · intro l hsome w2 F2 v2 hs2 hg2 hout;have h2:=h1.store (s:=(stRoom M.st n M.roots).2) hg2 hs2 (stRoom_size _ _ _);have hl:=stRoom_ren M.st hr n M.roots hsome;rw [e3,hsome];subst hl;obtain ⟨fp,ho2,hf2⟩:=hout;obtain ⟨b,c',sp,rfl,rfl,hb3,_⟩:=ho2.pos (by simp;exact List.length_pos_iff.2 hne);obtain ⟨hb1,hb2⟩:=hf2 b rfl;(try simp only [go_sem,simprocAttr,show ((0:Int) != 0)=false from rfl]);refine e_call (by rfl) ?_;refine (m_moved (M:={ M with st:=(stRoom M.st n M.roots).2}) ⟨vG,vF,vW,vT,fg,ff,fw,ft,F2,h2⟩ (stRen M.st n M.roots) ho2 (stTag_no hb1 hb2) hR).mono ?_;rintro r3 w3 ⟨hm3,⟨vG3,vF3,vW3,vT3,fg3,ff3,fw3,ft3,F3,h3⟩⟩;have hc3:=h3.cells;(try simp only [go_sem,simprocAttr,cell_of hc3,mcCells]);refine s_used rfl h3.st ?_;(try simp only [go_sem,simprocAttr]);refine e_st1 (off:=8) rfl rfl hc3 rfl (by simp [mcCells]) ?_;intro w4 hb4 hm4 hs4;(try simp only [go_sem,simprocAttr]);have ht:(newTag τ w Tg.no).ext (stTag (newTag τ w Tg.no) w1 F2) w1:=stTag_ext _ _ _;have hte:=ext_trans (newTag_ext τ w .no) ht hm1.size;refine ⟨stTag (newTag τ w .no) w1 F2,hte,⟨vG3,vF3,vW3,vT3,fg3,ff3,fw3,ft3,F3,h3.scal (M':=M.after (stRen M.st n M.roots) (stRoom M.st n M.roots).2) hm4 (by simpa [mcCells,Mc.after,Mc.mapP,stRoom_size] using hb4) rfl rfl rfl rfl rfl rfl rfl⟩,?_⟩
     have h12:Mod (fun b=>(τ b).own) w w2:=(hm1.weak (fun _ h=>h.elim)).step hg2.1 (fun x hx hl=>by
       have:=h1.tF x hx;rw [newTag_ext τ w .no x hl] at this
       rw [this];simp [Tg.own])
     refine (h12.step hm3 (fun x hx hl=>by rw [hte x hl] at hx;exact hx)).step hm4 (fun x hx hl=>by subst hx;rw [h.tm];simp [Tg.own])
end
section
open Go Go.W
section
variable {w:World} {τ:Tag} {m:Nat} {S:SV} {M:Mc} {ks:List Nat} {k:Nat} {x:Ins}
structure TopAt (w:World) (τ:Tag) (m:Nat) (S:SV) (M:Mc) (ks:List Nat) (k:Nat):Prop where
 at':MAt w τ m S M ks
 pos:0 < M.frames.length
 hk:ks[M.frames.length - 1]? = some k
theorem top_get (hp:0 < M.frames.length):M.frames[M.frames.length - 1]? = some M.top:=by
 unfold Mc.top;rw [List.getD_eq_getElem?_getD,List.getElem?_eq_getElem (by omega:M.frames.length - 1 < M.frames.length)];rfl
theorem TopAt.fr (h:TopAt w τ m S M ks k):FrAt w τ (M.frames.length - 1) k M.top:=by
 obtain ⟨⟨vG,vF,vW,vT,fg,ff,fw,ft,F,h1⟩,hp,hk⟩:=h;exact h1.frs _ _ _ hk (top_get hp)
theorem TopAt.frm (h:TopAt w τ m S M ks k) {f':Fr} {w':World} (ho:FrOp w τ (M.frames.length - 1) k f' w'):MOp w τ m S (M.setTop f') ks w':=by
 obtain ⟨⟨vG,vF,vW,vT,fg,ff,fw,ft,F,h1⟩,hp,hk⟩:=h;obtain ⟨τ',he,hf,hm⟩:=ho;exact ⟨τ',he,⟨vG,vF,vW,vT,fg,ff,fw,ft,F,h1.frame hk hm he.wx hf⟩,hm.weak (fun b hb=>by rcases hb with hb | hb | hb<;>rw [hb]<;>simp [Tg.own])⟩
theorem setTop_top (hp:0 < M.frames.length) (f:Fr):(M.setTop f).top=f∧(M.setTop f).frames.length=M.frames.length:=by
 constructor
 · simp only [Mc.setTop,Mc.top,List.length_set,List.getD_eq_getElem?_getD];rw [List.getElem?_set_self (by omega)];rfl
 · simp [Mc.setTop]
theorem setTop_set (f g:Fr):(M.setTop f).setTop g=M.setTop g:=by simp [Mc.setTop,List.set_set]
theorem MOp.top {M':Mc} {w':World} (h:MOp w τ m S M' ks w') (hl:M'.frames.length=M.frames.length) (hp:0 < M.frames.length) (hk:ks[M.frames.length - 1]? = some k):∃ τ',τ.ext τ' w∧Mod (fun b=>(τ b).own) w w'∧TopAt w' τ' m S M' ks k:=by
 obtain ⟨τ',h1,h2,h3⟩:=h;exact ⟨τ',h1,h3,h2,by omega,by rw [hl];exact hk⟩
theorem TopAt.mod (h:TopAt w τ m S M ks k) {w':World} {τ':Tag} {X:Nat→Prop} (hm:Mod X w w') (he:τ.wx τ' w) (hd:∀ b,b < w.heap.size→X b→τ b = .no):TopAt w' τ' m S M ks k:=⟨h.at'.mod hm he hd,h.pos,h.hk⟩
theorem MOp.boxed {w1 w':World} {M':Mc} (hm:Mod (fun _=>False) w w1) (h:MOp w1 (newTag τ w .no) m S M' ks w'):MOp w τ m S M' ks w':=by
 obtain ⟨τ',h1,h2,h3⟩:=h;refine ⟨τ',ext_trans (newTag_ext τ w .no) h1 hm.size,h2,(hm.weak (fun _ h=>h.elim)).step h3 (fun i hi hl=>?_)⟩;rw [newTag_ext τ w .no i hl] at hi;exact hi
@[go_sem] def insV (x:Ins):Value:=.agg #[I x.op,I x.a,I x.b]
end
section
variable {w:World} {τ:Tag} {m:Nat} {S:SV} {M:Mc} {ks:List Nat} {k:Nat} {x:Ins}
theorem x_push (h:TopAt w τ m S M ks k) (hs:M.top.stack.length≤4294967295) (ha:0≤x.a∧x.a < M.top.stack.length):CallsR Tryz.prog 110 [ptr m,ptr k,insV x] w fun _ w'=>MOp w τ m S (M.setTop (M.top.push (M.top.place x.a))) ks w':=by
 refine fit110.calls rfl ?_;unfold ir110;(try simp only [go_sem,simprocAttr]);refine e_bx rfl ?_;intro w1 hb1 hm1 _;have h1:=h.mod (τ':=newTag τ w .no) hm1 (newTag_ext τ w .no).wx (fun _ _ h=>h.elim);(try simp only [go_sem,simprocAttr,cell_of hb1,Value.cells]);refine e_call (by rfl) ?_;refine (f_place h1.fr (by omega) ha).mono ?_;rintro _ _ ⟨rfl,rfl⟩;(try simp only [go_sem,simprocAttr]);refine e_call (by rfl) ?_;have h2:TopAt w1.drew (newTag τ w .no) m S M ks k:=h1.mod (Mod.refl (fun _=>False) w1).drew (ext_refl _ _).wx (fun _ _ h=>h.elim);refine (f_push h2.fr (by omega) (M.top.place x.a)).mono ?_;intro _ w' ho;(try simp only [go_sem,simprocAttr]);exact MOp.boxed (hm1.trans (Mod.refl (fun _=>False) w1).drew) (h2.frm ho)
theorem x_global (h:TopAt w τ m S M ks k) (hs:M.top.stack.length≤4294967295) (ha:0≤x.a∧x.a < M.globals.length):CallsR Tryz.prog 113 [ptr m,ptr k,insV x] w fun _ w'=>MOp w τ m S (M.setTop (M.top.push (M.globals.getD x.a.toNat 0))) ks w':=by
 refine fit113.calls rfl ?_;unfold ir113;(try simp only [go_sem,simprocAttr]);refine e_bx rfl ?_;intro w1 hb1 hm1 _;have h1:=h.mod (τ':=newTag τ w .no) hm1 (newTag_ext τ w .no).wx (fun _ _ h=>h.elim);have h2:TopAt w1.drew (newTag τ w .no) m S M ks k:=h1.mod (Mod.refl (fun _=>False) w1).drew (ext_refl _ _).wx (fun _ _ h=>h.elim);obtain ⟨vG,vF,vW,vT,fg,ff,fw,ft,F,hh⟩:=h1.at';have hc:=hh.cells;obtain ⟨aG,cG,rfl,_⟩:=hh.gl.val;obtain ⟨j,hj⟩:∃ j:Nat,x.a=j:=⟨x.a.toNat,by omega⟩;have hjl:j < M.globals.length:=by omega
 obtain ⟨b,rfl,_,hcell⟩:=own_cell hh.gl (i:=j) hjl;have e1:w1.cell? ⟨b,j,none⟩=some (I (M.globals.getD j 0)):=by
   rw [hcell,List.getElem?_map,List.getElem?_eq_getElem hjl,List.getD_eq_getElem?_getD,List.getElem?_eq_getElem hjl];rfl
 have b1:(0:Int)≤j∧(j:Int) < M.globals.length:=by omega
 rw [hj];rw [hj] at hb1;(try simp only [go_sem,simprocAttr,zb4,zb6,cell_of hb1,Value.cells,cell_of hc,mcCells,b1,add_at,e1]);refine e_call (by rfl) ?_;refine (f_push h2.fr (by omega) (M.globals.getD j 0)).mono ?_;intro _ w' ho;(try simp only [go_sem,simprocAttr]);exact MOp.boxed (hm1.trans (Mod.refl (fun _=>False) w1).drew) (h2.frm ho)
theorem x_pop (h:TopAt w τ m S M ks k) (hs:M.top.stack.length≤4294967295) (ha:0≤x.a∧x.a≤M.top.stack.length):CallsR Tryz.prog 117 [ptr m,ptr k,insV x] w fun _ w'=>MOp w τ m S (M.setTop (M.top.pop x.a)) ks w':=by
 refine fit117.calls rfl ?_;unfold ir117;(try simp only [go_sem,simprocAttr]);refine e_bx rfl ?_;intro w1 hb1 hm1 _;have h1:=h.mod (τ':=newTag τ w .no) hm1 (newTag_ext τ w .no).wx (fun _ _ h=>h.elim);(try simp only [go_sem,simprocAttr,cell_of hb1,Value.cells]);refine e_call (by rfl) ?_;refine (f_pop h1.fr (by omega) ha).mono ?_;intro _ w' ho;(try simp only [go_sem,simprocAttr]);exact MOp.boxed hm1 (h1.frm ho)
theorem x_jump (h:TopAt w τ m S M ks k):CallsR Tryz.prog 128 [ptr m,ptr k,insV x] w fun _ w'=>MOp w τ m S (M.setTop { M.top with at':=x.a}) ks w':=by
 refine fit128.calls rfl ?_;unfold ir128;(try simp only [go_sem,simprocAttr]);refine e_bx rfl ?_;intro w1 hb1 hm1 _;have h1:=h.mod (τ':=newTag τ w .no) hm1 (newTag_ext τ w .no).wx (fun _ _ h=>h.elim);obtain ⟨vs,vp,fs,fp,hf⟩:=h1.fr;(try simp only [go_sem,simprocAttr,cell_of hb1,Value.cells]);refine e_st1 (off:=2) rfl rfl hf.cells rfl (by simp [frCells]) ?_;intro w2 hb2 hm2 hs2;(try simp only [go_sem,simprocAttr]);exact MOp.boxed hm1 (h1.frm (fr_cells hf rfl rfl (by simpa [frCells] using hb2) hm2))
theorem x_fail (h:TopAt w τ m S M ks k):CallsR Tryz.prog 131 [ptr m,ptr k,insV x] w fun _ w'=>MOp w τ m S (M.fail x.a) ks w':=by
 refine fit131.calls rfl ?_;unfold ir131;(try simp only [go_sem,simprocAttr]);refine e_bx rfl ?_;intro w1 hb1 hm1 _;have h1:=h.mod (τ':=newTag τ w .no) hm1 (newTag_ext τ w .no).wx (fun _ _ h=>h.elim);(try simp only [go_sem,simprocAttr,cell_of hb1,Value.cells]);refine e_call (by rfl) ?_;refine (m_fail h1.at' x.a).mono ?_;intro _ w' ho;(try simp only [go_sem,simprocAttr]);exact MOp.boxed hm1 ho
end
end
section
open Go Go.W
section
variable {w:World} {τ:Tag} {m:Nat} {S:SV} {M:Mc} {ks:List Nat} {k:Nat} {x:Ins}
theorem ints_nil (w:World):Ints w (.slice none 0 0) []:=⟨none,0,rfl,by simp,fun i hi=>by simp at hi⟩
theorem TopAt.two {M1:Mc} {w1:World} (h:TopAt w τ m S M ks k) (ho:MOp w τ m S M1 ks w1) (hl:M1.frames=M.frames):∃ τ',τ.ext τ' w∧Mod (fun b=>(τ b).own) w w1∧TopAt w1 τ' m S M1 ks k:=ho.top (by rw [hl]) h.pos h.hk
theorem two_frm {M1:Mc} {w1 w':World} {τ':Tag} {f':Fr} (h1:τ.ext τ' w) (h2:Mod (fun b=>(τ b).own) w w1) (h:TopAt w1 τ' m S M1 ks k) (ho:FrOp w1 τ' (M1.frames.length - 1) k f' w'):MOp w τ m S (M1.setTop f') ks w':=MOp.cat h1 h2 (h.frm ho)
theorem x_int (h:TopAt w τ m S M ks k) (ho:M.st.Ok) (hs:M.top.stack.length≤4294967295) (hr:(M.st.ns.length:Int) < M.st.size) (ha:(⟨1,x.a,[]⟩:Nd).may=true) :
   CallsR Tryz.prog 115 [ptr m,ptr k,insV x] w fun _ w'=>MOp w τ m S (M.put ⟨1,x.a,[]⟩ 0) ks w':=by
 refine fit115.calls rfl ?_;unfold ir115;(try simp only [go_sem,simprocAttr]);refine e_bx rfl ?_;intro w1 hb1 hm1 _;have h1:=h.mod (τ':=newTag τ w .no) hm1 (newTag_ext τ w .no).wx (fun _ _ h=>h.elim);(try simp only [go_sem,simprocAttr,cell_of hb1,Value.cells]);refine e_call (by rfl) ?_;refine (m_add (nd:=⟨1,x.a,[]⟩) h1.at' ho ha rfl (ints_nil w1) hr).mono ?_;rintro _ w2 ⟨rfl,hop⟩;obtain ⟨τ2,k1,k2,k3⟩:=h1.two hop rfl;(try simp only [go_sem,simprocAttr]);refine e_call (by rfl) ?_;refine (f_push k3.fr (by show M.top.stack.length≤4294967296;omega) _).mono ?_;intro _ w3 hf;(try simp only [go_sem,simprocAttr]);have:=two_frm k1 k2 k3 hf;refine MOp.boxed hm1 ?_;have e:(M.put ⟨1,x.a,[]⟩ 0)=({ M with st:=M.st.add ⟨1,x.a,[]⟩}:Mc).setTop (({ M with st:=M.st.add ⟨1,x.a,[]⟩}:Mc).top.push M.st.ns.length):=by
   simp [Mc.put,Mc.setTop,Fr.pop,Fr.push,Mc.top]
 rw [e];exact this
theorem x_slide (h:TopAt w τ m S M ks k) (hs:M.top.stack.length≤4294967295) (ha:0≤x.a∧x.a+1≤M.top.stack.length) :
   CallsR Tryz.prog 119 [ptr m,ptr k,insV x] w fun _ w'=>MOp w τ m S (M.setTop ((M.top.pop (x.a+1)).push (M.top.place 0))) ks w':=by
 refine fit119.calls rfl ?_;unfold ir119;(try simp only [go_sem,simprocAttr]);refine e_bx rfl ?_;intro w1 hb1 hm1 _;have h1:=h.mod (τ':=newTag τ w .no) hm1 (newTag_ext τ w .no).wx (fun _ _ h=>h.elim);have h2:TopAt w1.drew (newTag τ w .no) m S M ks k:=h1.mod (Mod.refl (fun _=>False) w1).drew (ext_refl _ _).wx (fun _ _ h=>h.elim);have hb2:w1.drew.heap[w.heap.size]? = _:=hb1;(try simp only [go_sem,simprocAttr]);refine e_call (by rfl) ?_;refine (f_place h1.fr (by omega) ⟨by omega,by omega⟩).mono ?_;rintro _ _ ⟨rfl,rfl⟩;have e1:IntKind.i64.wrap (x.a+1)=x.a+1:=wrap_in (by omega) (by omega);(try simp only [go_sem,simprocAttr,cell_of hb2,Value.cells,cell_of hb1,e1]);refine e_call (by rfl) ?_;refine (f_pop h2.fr (by omega) ⟨by omega,ha.2⟩).mono ?_;intro _ w2 ho;obtain ⟨τ2,k1,k2,k3⟩:=(h2.frm ho).top (by simp [Mc.setTop]) h.pos h.hk;obtain ⟨t1,t2⟩:=setTop_top h.pos (M.top.pop (x.a+1));(try simp only [go_sem,simprocAttr]);refine e_call (by rfl) ?_;refine (f_push k3.fr (by rw [t1];simp only [Fr.pop,List.length_take];omega) (M.top.place 0)).mono ?_;intro _ w3 hf;(try simp only [go_sem,simprocAttr]);have:=two_frm k1 k2 k3 hf;rw [t1,setTop_set] at this;exact MOp.boxed (hm1.trans (Mod.refl (fun _=>False) w1).drew) this
end
end
section
open Go Go.W
section
variable {w:World} {τ:Tag} {m:Nat} {S:SV} {M:Mc} {ks:List Nat} {k:Nat} {x:Ins}
theorem ints_blk {w:World} {b:Nat} {xs:List Int} (h:w.heap[b]? = some (.cells (xs.map I).toArray 3 (0,0))) (hl:xs.length≤17592186044416):Ints w (.slice (some ⟨b,0,none⟩) xs.length xs.length) xs:=by
 refine ⟨_,_,rfl,hl,fun i hi=>⟨_,rfl,?_⟩⟩;rw [add_at,cell_of h];simp [hi]
theorem TopAt.later (h:TopAt w τ m S M ks k) {w':World} (hm:Mod (fun _=>False) w w'):TopAt w' (newTag τ w .no) m S M ks k:=h.mod hm (newTag_ext τ w .no).wx (fun _ _ h=>h.elim)
theorem put_eq (nd:Nd) (d:Int) (hp:0 < M.frames.length):M.put nd d=(({ M with st:=M.st.add nd}:Mc).setTop (M.top.pop d)).setTop ((M.top.pop d).push M.st.ns.length):=by
 simp [Mc.put,Mc.setTop,List.set_set]
theorem x_apply (h:TopAt w τ m S M ks k) (ho:M.st.Ok) (hs:M.top.stack.length≤4294967295) (hr:(M.st.ns.length:Int) < M.st.size) (h2:2≤M.top.stack.length) (hpl:okPl M.st.ns.length [M.top.place 0,M.top.place 1]=true) :
   CallsR Tryz.prog 120 [ptr m,ptr k,insV x] w fun _ w'=>MOp w τ m S (M.put ⟨3,0,[M.top.place 0,M.top.place 1]⟩ 2) ks w':=by
 refine fit120.calls rfl ?_;unfold ir120;(try simp only [go_sem,simprocAttr]);refine e_bx rfl ?_;intro w1 hb1 hm1 _;(try simp only [go_sem,simprocAttr]);refine e_call (by rfl) ?_;refine (f_place (h.later hm1).fr (by omega) ⟨by omega,by omega⟩).mono ?_;rintro _ _ ⟨rfl,rfl⟩;have hm2:Mod (fun _=>False) w w1.drew:=hm1.drew;(try simp only [go_sem,simprocAttr]);refine e_call (by rfl) ?_;refine (f_place (h.later hm2).fr (by omega) ⟨by omega,by omega⟩).mono ?_;rintro _ _ ⟨rfl,rfl⟩;have hm3:Mod (fun _=>False) w w1.drew.drew:=hm2.drew;(try simp only [go_sem,simprocAttr]);refine e_bs (by rfl) (by rfl) ?_;intro w4 hb4 hm4 _;(try simp only [go_sem,simprocAttr]);have h4:=h.later (hm3.trans hm4);refine e_call (by rfl) ?_;refine (m_add (nd:=⟨3,0,[M.top.place 0,M.top.place 1]⟩) h4.at' ho rfl hpl (ints_blk (xs:=[M.top.place 0,M.top.place 1]) hb4 (by simp)) hr).mono ?_;rintro _ w5 ⟨rfl,hop⟩;obtain ⟨τ5,k1,k2,k5⟩:=h4.two hop rfl;(try simp only [go_sem,simprocAttr]);refine e_call (by rfl) ?_;refine (f_pop (n:=2) k5.fr (by show M.top.stack.length≤_;omega) ⟨by omega,by show (2:Int)≤M.top.stack.length;omega⟩).mono ?_;intro _ w6 hf6;have ho6:=MOp.cat k1 k2 (k5.frm hf6);obtain ⟨τ6,j1,j2,k6⟩:=ho6.top (by simp [Mc.setTop]) h.pos h.hk;(try simp only [go_sem,simprocAttr]);refine e_call (by rfl) ?_;obtain ⟨t1,t2⟩:=setTop_top (M:={ M with st:=M.st.add ⟨3,0,[M.top.place 0,M.top.place 1]⟩}) h.pos (M.top.pop 2);refine (f_push k6.fr (by rw [show (({ M with st:=M.st.add ⟨3,0,[M.top.place 0,M.top.place 1]⟩}:Mc).setTop (({ M with st:=M.st.add ⟨3,0,[M.top.place 0,M.top.place 1]⟩}:Mc).top.pop 2)).top=_ from t1];simp only [Fr.pop,List.length_take];omega) M.st.ns.length).mono ?_;intro _ w7 hf7;(try simp only [go_sem,simprocAttr]);have:=two_frm j1 j2 k6 hf7;rw [show (({ M with st:=M.st.add ⟨3,0,[M.top.place 0,M.top.place 1]⟩}:Mc).setTop (({ M with st:=M.st.add ⟨3,0,[M.top.place 0,M.top.place 1]⟩}:Mc).top.pop 2)).top=_ from t1] at this;rw [put_eq _ _ h.pos];exact MOp.boxed (hm3.trans hm4) this
theorem x_rewind (h:TopAt w τ m S M ks k) (hs:0 < M.top.stack.length) :
   CallsR Tryz.prog 133 [ptr m,ptr k,insV x] w fun _ w'=>MOp w τ m S (M.setTop { M.top with runs:=false,stands:=M.top.stack.getD 0 0,stack:=[]}) ks w':=by
 refine fit133.calls rfl ?_;unfold ir133;(try simp only [go_sem,simprocAttr]);refine e_bx rfl ?_;intro w1 hb1 hm1 _;have h1:=h.later hm1;obtain ⟨vs,vp,fs,fp,hf⟩:=h1.fr;obtain ⟨a,c,rfl,_⟩:=hf.stack.val;obtain ⟨b,rfl,_,hcell⟩:=own_cell hf.stack (i:=0) hs;have e1:w1.cell? ⟨b,0,none⟩=some (I (M.top.stack.getD 0 0)):=by
   rw [hcell,List.getElem?_map,List.getElem?_eq_getElem hs,List.getD_eq_getElem?_getD,List.getElem?_eq_getElem hs];rfl
 have b1:(0:Int)≤0∧(0:Int) < M.top.stack.length:=by omega
 have hc:=hf.cells;(try simp only [go_sem,simprocAttr,zb4,zb6,cell_of hc,frCells,b1,add_at,e1,Nat.add_zero]);refine e_st1 (cs:=frCells M.top (.slice (some ⟨b,0,none⟩) M.top.stack.length c) vp) (off:=0) rfl rfl hc rfl (by simp [frCells]) ?_;intro w2 hb2 hm2 hs2;(try simp only [go_sem,simprocAttr]);refine e_st1 (off:=5) rfl rfl hb2 rfl (by simp [frCells]) ?_;intro w3 hb3 hm3 hs3;(try simp only [go_sem,simprocAttr]);refine e_st1 (off:=3) rfl rfl hb3 rfl (by simp [frCells]) ?_;intro w4 hb4 hm4 hs4;(try simp only [go_sem,simprocAttr]);refine MOp.boxed hm1 (h1.frm (fr_stack (w2:=w1) (vs':=.slice none 0 0) (fs':=none) hf (OwnS.nil _ _ _) rfl (by simpa [frCells] using hb4) (Mod.refl _ w1) ((hm2.trans hm3).trans hm4) (fun b hb=>by cases hb)))
end
end
section
open Go Go.W
theorem stov_lt {s:St} (h:s.Ok) {p:Int} (hp:0≤p∧p < s.ns.length):s.ov p < s.ns.length:=ov_lt (wf_nxt_lt h.wf) (by omega)
section
variable {w:World} {τ:Tag} {m:Nat} {S:SV} {M:Mc} {ks:List Nat} {k:Nat} {x:Ins}
theorem node_one {w w':World} {v:Value} {l:List Int} (h:NewOwn w w' v l) (a b:Int):∀ u∈[I a,I b,v],u.oneCell'=true:=by
 obtain ⟨fp,h,_⟩:=h;obtain ⟨va,vc,rfl,_⟩:=h.val;simp [Value.oneCell']
theorem x_update (h:TopAt w τ m S M ks k) (ho:M.st.Ok) (he:Ends M.st.ns) (hs:M.top.stack.length≤4294967295) (ha:0≤x.a∧x.a < M.top.stack.length) (h1:0≤M.top.place x.a∧M.top.place x.a < M.st.ns.length) (h0:0≤M.top.place 0∧M.top.place 0 < M.st.ns.length) :
   CallsR Tryz.prog 121 [ptr m,ptr k,insV x] w fun _ w'=>MOp w τ m S { M.setTop (M.top.pop 1) with st:=M.st.set (M.st.ov (M.top.place x.a)) ⟨5,0,[(M.st.ov (M.top.place 0):Int)]⟩} ks w':=by
 refine fit121.calls rfl ?_;unfold ir121;(try simp only [go_sem,simprocAttr]);refine e_bx rfl ?_;intro w1 hb1 hm1 _;(try simp only [go_sem,simprocAttr,cell_of hb1,Value.cells]);refine e_call (by rfl) ?_;refine (f_place (h.later hm1).fr (by omega) ha).mono ?_;rintro _ _ ⟨rfl,rfl⟩;have hm2:Mod (fun _=>False) w w1.drew:=hm1.drew;(try simp only [go_sem,simprocAttr]);refine e_call (by rfl) ?_;refine (m_over (h.later hm2).at' ho he h1).mono ?_;rintro _ w3 ⟨v3,rfl,hv3,hm3⟩;(try simp only [go_sem,simprocAttr]);refine e_al ?_;intro w4 hb4 hm4 _;(try simp only [go_sem,simprocAttr]);refine e_sta (cs:=[I 0,I 0,.slice none 0 0]) rfl rfl hb4 rfl rfl (node_one hv3 _ _) ?_;intro w5 hb5 hm5 hs5;(try simp only [go_sem,simprocAttr]);have hs3:=(hm2.trans hm3).size;have hm05:Mod (fun _=>False) w w5:=(hm2.trans (hm3.trans hm4)).step hm5 (fun x hx hl=>by subst hx;omega);refine e_call (by rfl) ?_;refine (f_place (h.later hm05).fr (by omega) ⟨by omega,by omega⟩).mono ?_;rintro _ _ ⟨rfl,rfl⟩;have hm6:Mod (fun _=>False) w w5.drew:=hm05.drew;(try simp only [go_sem,simprocAttr]);refine e_call (by rfl) ?_;refine (m_over (h.later hm6).at' ho he h0).mono ?_;rintro _ w7 ⟨v7,rfl,hv7,hm7⟩;(try simp only [go_sem,simprocAttr]);refine e_al ?_;intro w8 hb8 hm8 _;(try simp only [go_sem,simprocAttr]);refine e_sta (cs:=[I 0,I 0,.slice none 0 0]) rfl rfl hb8 rfl rfl (node_one hv7 _ _) ?_;intro w9 hb9 hm9 hs9;(try simp only [go_sem,simprocAttr]);have hs7:=(hm6.trans hm7).size;have hm09:Mod (fun _=>False) w w9:=(hm6.trans (hm7.trans hm8)).step hm9 (fun x hx hl=>by subst hx;omega);have h9:=h.later hm09;obtain ⟨vG,vF,vW,vT,fg,ff,fw,ft,F,hh⟩:=h9.at';have hc9:=hh.cells;obtain ⟨ti,ui,hsv⟩:=hh.st.iface;(try simp only [go_sem,simprocAttr,cell_of hc9,mcCells]);refine e_bs (by rfl) (by rfl) ?_;intro w10 hb10 hm10 _;(try simp only [go_sem,simprocAttr]);have h10:=h.later (hm09.trans hm10);obtain ⟨vG,vF,vW,vT,fg,ff,fw,ft,F,hh⟩:=h10.at';refine s_set (p:=(M.st.ov (M.top.place x.a):Int)) (nd:=⟨5,0,[(M.st.ov (M.top.place 0):Int)]⟩) rfl (by rfl) hh.st ho ?_ rfl ?_ (ints_blk (xs:=[(M.st.ov (M.top.place 0):Int)]) hb10 (by simp)) ?_
 · have:=stov_lt ho h1;omega
 · have:=stov_lt ho h0;simp [okPl];omega
 intro w11 F11 hs11 hg11;have h11:=hh.store (s:=M.st.set (M.st.ov (M.top.place x.a)) ⟨5,0,[(M.st.ov (M.top.place 0):Int)]⟩) hg11 hs11 rfl;(try simp only [go_sem,simprocAttr]);refine e_call (by rfl) ?_;have hop:MOp w10 (newTag τ w .no) m S { M with st:=M.st.set (M.st.ov (M.top.place x.a)) ⟨5,0,[(M.st.ov (M.top.place 0):Int)]⟩} ks w11:=
   ⟨_,stTag_ext _ _ _,⟨vG,vF,vW,vT,fg,ff,fw,ft,F11,h11⟩,hg11.1.weak (fun b hb=>by rw [hh.tF b hb];simp [Tg.own])⟩
 obtain ⟨τ5,k1,k2,k5⟩:=h10.two hop rfl;refine (f_pop (n:=1) k5.fr (by show M.top.stack.length≤_;omega) ⟨by omega,by show (1:Int)≤M.top.stack.length;omega⟩).mono ?_;intro _ w12 hf12;(try simp only [go_sem,simprocAttr]);exact MOp.boxed (hm09.trans hm10) (two_frm k1 k2 k5 hf12)
theorem alloc_zero (hp:0 < M.frames.length):M.alloc 0=M:=by
 have h1:M.setTop M.top=M:=by
   simp only [Mc.setTop];have:M.frames.set (M.frames.length - 1) M.top=M.frames:=by
     apply List.ext_getElem?;intro j;rw [List.getElem?_set]
     split
     · rename_i hj;subst hj;rw [if_pos (by omega),top_get hp]
     · rfl
   rw [this]
 unfold Mc.alloc;simp only [List.range_zero,List.map_nil,List.append_nil,List.replicate_zero];exact h1
theorem alloc_succ (hp:0 < M.frames.length) (i:Nat):M.alloc (i+1)=({ M.alloc i with st:=(M.alloc i).st.add ⟨6,0,[]⟩}:Mc).setTop (({ M.alloc i with st:=(M.alloc i).st.add ⟨6,0,[]⟩}:Mc).top.push (M.alloc i).st.ns.length):=by
 have ht:=(setTop_top hp { M.top with stack:=M.top.stack++(List.range i).map fun i=>((M.st.ns.length+i:Nat):Int)}).1;have e:({ M.alloc i with st:=(M.alloc i).st.add ⟨6,0,[]⟩}:Mc).top = { M.top with stack:=M.top.stack++(List.range i).map fun i=>((M.st.ns.length+i:Nat):Int)}:=ht;rw [e];simp only [Mc.alloc,Mc.setTop,Fr.push,St.add,List.set_set,List.length_set,List.length_append,List.length_replicate,List.range_succ,List.map_append,List.map_cons,List.map_nil,List.append_assoc,List.replicate_succ',Mc.mk.injEq,St.mk.injEq,true_and,and_true]
theorem x_alloc (h:TopAt w τ m S M ks k) (ho:M.st.Ok) {n:Nat} (hn:x.a=n) (hs:M.top.stack.length+n≤4294967295) (hr:(M.st.ns.length:Int)+n≤M.st.size) (hok:∀ i,i≤n→(M.alloc i).st.Ok) :
   CallsR Tryz.prog 123 [ptr m,ptr k,insV x] w fun _ w'=>MOp w τ m S (M.alloc n) ks w':=by
 refine fit123.calls rfl ?_;unfold ir123;(try simp only [go_sem,simprocAttr]);refine e_bx rfl ?_;intro w1 hb1 hm1 _;have h1:=h.later hm1;rw [hn] at hb1;(try simp only [go_sem,simprocAttr,cell_of hb1,Value.cells]);refine ir_loop (fun z ρ w'=>∃ i:Nat,z=n - i∧i≤n∧MOp w1 (newTag τ w .no) m S (M.alloc i) ks w'∧ρ=[(0,ptr m),(1,ptr k),(7,I n),(8,I i)]) n ⟨0,rfl,by omega,?_,rfl⟩ ?_
 · rw [alloc_zero h.pos];exact ⟨_,ext_refl _ _,h1.at',Mod.refl _ _⟩
 rintro z ρ w2 ⟨i,rfl,hi,hop,rfl⟩;unfold ir123L1;(try simp only [go_sem,simprocAttr]);refine ir_cond rfl (fun hh=>?_) (fun hh=>?_)
 · have hin:i < n:=by simpa using hh
   (try simp only [go_sem,simprocAttr]);obtain ⟨τ2,k1,k2,k5⟩:=hop.top (by simp [Mc.alloc,Mc.setTop]) h.pos h.hk;have hti:=(setTop_top h.pos { M.top with stack:=M.top.stack++(List.range i).map fun i=>((M.st.ns.length+i:Nat):Int)}).1;have hti:(M.alloc i).top=_:=hti;have hli:(M.alloc i).st.ns.length=M.st.ns.length+i:=by simp [Mc.alloc]
   refine e_call (by rfl) ?_;refine (m_add (nd:=⟨6,0,[]⟩) k5.at' (hok i (by omega)) rfl rfl (ints_nil w2) (by rw [hli];show ((M.st.ns.length+i:Nat):Int) < M.st.size;omega)).mono ?_;rintro _ w3 ⟨rfl,hop3⟩;obtain ⟨τ3,j1,j2,k6⟩:=k5.two hop3 rfl;(try simp only [go_sem,simprocAttr]);refine e_call (by rfl) ?_;refine (f_push k6.fr (by show (M.alloc i).top.stack.length≤_;rw [hti];simp;omega) _).mono ?_;intro _ w4 hf4;have e1:IntKind.i64.wrap ((i:Int)+1)=((i+1:Nat):Int):=by rw [wrap_in (by omega) (by omega)];omega
   (try simp only [go_sem,simprocAttr,e1]);refine ⟨_,by omega,i+1,rfl,by omega,?_,rfl⟩;rw [alloc_succ h.pos];exact MOp.cat k1 k2 (two_frm j1 j2 k6 hf4)
 · have hin:¬ i < n:=by simpa using hh
   obtain rfl:i=n:=by omega
   (try simp only [go_sem,simprocAttr]);exact MOp.boxed hm1 hop
end
end
section
open Go Go.W
section
variable {w:World} {τ:Tag} {m:Nat} {S:SV} {M:Mc} {ks:List Nat} {k:Nat} {x:Ins}
theorem x_testCon (h:TopAt w τ m S M ks k) (ho:M.st.Ok) (he:Ends M.st.ns) (hs:M.top.stack.length≤4294967295) (hs0:0 < M.top.stack.length) (h0:0≤M.top.place 0∧M.top.place 0 < M.st.ns.length) :
   CallsR Tryz.prog 129 [ptr m,ptr k,insV x] w fun _ w'=>MOp w τ m S (M.jumpIf (decide ((M.st.nd (M.top.place 0)).kind≠2)) (decide ((M.st.nd (M.top.place 0)).num≠x.a)) x.b) ks w':=by
 refine fit129.calls rfl ?_;unfold ir129;(try simp only [go_sem,simprocAttr]);refine e_bx rfl ?_;intro w1 hb1 hm1 _;have h1:=h.later hm1;have hr1:=Mod.refl (fun _=>False) w1;(try simp only [go_sem,simprocAttr]);refine e_call (by rfl) ?_;refine (f_place (h1.later hr1).fr (by omega) ⟨by omega,by omega⟩).mono ?_;rintro _ _ ⟨rfl,rfl⟩;have hma2:Mod (fun _=>False) w1 w1.drew:=hr1.drew;(try simp only [go_sem,simprocAttr]);refine e_call (by rfl) ?_;refine (m_over (h1.later hma2).at' ho he h0).mono ?_;rintro _ wc2 ⟨v2,rfl,hv2,hmc2⟩;(try simp only [go_sem,simprocAttr]);refine e_al ?_;intro wd2 hbd2 hmd2 _;(try simp only [go_sem,simprocAttr]);refine e_sta (cs:=[I 0,I 0,.slice none 0 0]) rfl rfl hbd2 rfl rfl (node_one hv2 _ _) ?_;intro w2 hb2 hme2 hse2;(try simp only [go_sem,simprocAttr]);have hsc2:=(hma2.trans hmc2).size;have hm2:Mod (fun _=>False) w1 w2:=(hma2.trans (hmc2.trans hmd2)).step hme2 (fun x hx hl=>by subst hx;omega);have hn2:Mod (fun _=>False) wc2 w2:=hmd2.step hme2 (fun x hx hl=>by subst hx;omega);have h2:=h1.later hm2;have hb12:=hm2.at hb1 (fun h=>h);(try simp only [go_sem,simprocAttr,cell_of hb2]);refine ir_cond rfl (fun hh=>?_) (fun hh=>?_)
 · (try simp only [go_sem,simprocAttr]);refine e_call (by rfl) ?_;refine (m_fail h2.at' 5).mono ?_;intro _ w3 hop;(try simp only [go_sem,simprocAttr]);have e:M.jumpIf (decide ((M.st.nd (M.top.place 0)).kind≠2)) (decide ((M.st.nd (M.top.place 0)).num≠x.a)) x.b=M.fail 5:=by
     unfold Mc.jumpIf;rw [if_pos];simp only [zb1,zb2,zb3,zb4,zb5] at hh;simpa using hh
   rw [e];exact MOp.boxed hm1 (MOp.boxed hm2 hop)
 · (try simp only [go_sem,simprocAttr,cell_of hb2,cell_of hb12,Value.cells]);have e0:M.jumpIf (decide ((M.st.nd (M.top.place 0)).kind≠2)) (decide ((M.st.nd (M.top.place 0)).num≠x.a)) x.b=if (M.st.nd (M.top.place 0)).num≠x.a then M.setTop { M.top with at':=x.b} else M:=by
     unfold Mc.jumpIf;simp only [zb1,zb2,zb3,zb4,zb5] at hh;rw [if_neg (by simpa using hh)];simp
   rw [e0];refine ir_cond rfl (fun hg=>?_) (fun hg=>?_)
   · obtain ⟨vs,vp,fs,fp,hf⟩:=h2.fr;have hc:=hf.cells;simp only [zb1,zb2,zb3,zb4,zb5] at hg;rw [if_pos hg];(try simp only [go_sem,simprocAttr,cell_of hb12,Value.cells]);refine e_st1 (off:=2) rfl rfl hc rfl (by simp [frCells]) ?_;intro w3 hb3 hm3 hs3;(try simp only [go_sem,simprocAttr]);exact MOp.boxed hm1 (MOp.boxed hm2 (h2.frm (fr_cells hf rfl rfl (by simpa [frCells] using hb3) hm3)))
   · simp only [zb1,zb2,zb3,zb4,zb5] at hg;rw [if_neg (by simpa using hg)];(try simp only [go_sem,simprocAttr]);exact MOp.boxed hm1 (MOp.boxed hm2 ⟨_,ext_refl _ _,h2.at',Mod.refl _ _⟩)
theorem x_testInt (h:TopAt w τ m S M ks k) (ho:M.st.Ok) (he:Ends M.st.ns) (hs:M.top.stack.length≤4294967295) (hs0:0 < M.top.stack.length) (h0:0≤M.top.place 0∧M.top.place 0 < M.st.ns.length) :
   CallsR Tryz.prog 130 [ptr m,ptr k,insV x] w fun _ w'=>MOp w τ m S (M.jumpIf (decide ((M.st.nd (M.top.place 0)).kind≠1)) (decide ((M.st.nd (M.top.place 0)).num≠x.a)) x.b) ks w':=by
 refine fit130.calls rfl ?_;unfold ir130;(try simp only [go_sem,simprocAttr]);refine e_bx rfl ?_;intro w1 hb1 hm1 _;have h1:=h.later hm1;have hr1:=Mod.refl (fun _=>False) w1;(try simp only [go_sem,simprocAttr]);refine e_call (by rfl) ?_;refine (f_place (h1.later hr1).fr (by omega) ⟨by omega,by omega⟩).mono ?_;rintro _ _ ⟨rfl,rfl⟩;have hma2:Mod (fun _=>False) w1 w1.drew:=hr1.drew;(try simp only [go_sem,simprocAttr]);refine e_call (by rfl) ?_;refine (m_over (h1.later hma2).at' ho he h0).mono ?_;rintro _ wc2 ⟨v2,rfl,hv2,hmc2⟩;(try simp only [go_sem,simprocAttr]);refine e_al ?_;intro wd2 hbd2 hmd2 _;(try simp only [go_sem,simprocAttr]);refine e_sta (cs:=[I 0,I 0,.slice none 0 0]) rfl rfl hbd2 rfl rfl (node_one hv2 _ _) ?_;intro w2 hb2 hme2 hse2;(try simp only [go_sem,simprocAttr]);have hsc2:=(hma2.trans hmc2).size;have hm2:Mod (fun _=>False) w1 w2:=(hma2.trans (hmc2.trans hmd2)).step hme2 (fun x hx hl=>by subst hx;omega);have hn2:Mod (fun _=>False) wc2 w2:=hmd2.step hme2 (fun x hx hl=>by subst hx;omega);have h2:=h1.later hm2;have hb12:=hm2.at hb1 (fun h=>h);(try simp only [go_sem,simprocAttr,cell_of hb2]);refine ir_cond rfl (fun hh=>?_) (fun hh=>?_)
 · (try simp only [go_sem,simprocAttr]);refine e_call (by rfl) ?_;refine (m_fail h2.at' 5).mono ?_;intro _ w3 hop;(try simp only [go_sem,simprocAttr]);have e:M.jumpIf (decide ((M.st.nd (M.top.place 0)).kind≠1)) (decide ((M.st.nd (M.top.place 0)).num≠x.a)) x.b=M.fail 5:=by
     unfold Mc.jumpIf;rw [if_pos];simp only [zb1,zb2,zb3,zb4,zb5] at hh;simpa using hh
   rw [e];exact MOp.boxed hm1 (MOp.boxed hm2 hop)
 · (try simp only [go_sem,simprocAttr,cell_of hb2,cell_of hb12,Value.cells]);have e0:M.jumpIf (decide ((M.st.nd (M.top.place 0)).kind≠1)) (decide ((M.st.nd (M.top.place 0)).num≠x.a)) x.b=if (M.st.nd (M.top.place 0)).num≠x.a then M.setTop { M.top with at':=x.b} else M:=by
     unfold Mc.jumpIf;simp only [zb1,zb2,zb3,zb4,zb5] at hh;rw [if_neg (by simpa using hh)];simp
   rw [e0];refine ir_cond rfl (fun hg=>?_) (fun hg=>?_)
   · obtain ⟨vs,vp,fs,fp,hf⟩:=h2.fr;have hc:=hf.cells;simp only [zb1,zb2,zb3,zb4,zb5] at hg;rw [if_pos hg];(try simp only [go_sem,simprocAttr,cell_of hb12,Value.cells]);refine e_st1 (off:=2) rfl rfl hc rfl (by simp [frCells]) ?_;intro w3 hb3 hm3 hs3;(try simp only [go_sem,simprocAttr]);exact MOp.boxed hm1 (MOp.boxed hm2 (h2.frm (fr_cells hf rfl rfl (by simpa [frCells] using hb3) hm3)))
   · simp only [zb1,zb2,zb3,zb4,zb5] at hg;rw [if_neg (by simpa using hg)];(try simp only [go_sem,simprocAttr]);exact MOp.boxed hm1 (MOp.boxed hm2 ⟨_,ext_refl _ _,h2.at',Mod.refl _ _⟩)
theorem enter_done {vG vF vW vT:Value} {fg ff fw ft:Option Nat} {F:Nat→Prop} (h:MIn w τ m S M vG vF vW vT fg ff fw ft F ks) (p:Int) {w4:World} {k':Nat} {v:Value} {ff':Option Nat} (hk':w.heap.size≤k')
   (hb:w4.heap[k']? = some (.cells (frCells (newFr p) (.slice none 0 0) (.slice none 0 0)).toArray 151 (0,0))) (hm:Mod (fun b=>ff=some b∨b=m) w w4)
   (hc:w4.heap[m]? = some (.cells (mcCells S (M.enter p) vG v vW vT).toArray 113 (0,0))) (ho:OwnS w4 152 1 v ((ks++[k']).map ptr) (ks++[k']).length ff')
   (hf:∀ b,ff'=some b→ff=some b∨w.heap.size≤b):MOp w τ m S (M.enter p) (ks++[k']) w4:=by
 have hl:=h.len;have hext:τ.ext (fun b=>if b < w.heap.size then τ b else if b=k' then .fb M.frames.length else .fr) w:=fun b hb=>by simp [hb]
 have hkk:k' < w4.heap.size:=lt_of_heap hb;refine ⟨_,hext,⟨vG,v,vW,vT,fg,ff',fw,ft,F,?_⟩,hm.weak ?_⟩
 · refine h.frames hext.wx hm hc ho ?_ (by simp [Mc.enter,hl]) ?_ rfl rfl rfl rfl rfl rfl
   · intro b hb';have hne:b≠k':=fun e=>by subst e;exact own_kind ho hb' hb (by decide)
     rcases hf b hb' with h1 | h1
     · simp only [if_pos (h.fr.lt h1)];exact h.tf b h1
     · simp only [if_neg (Nat.not_lt.2 h1),if_neg hne]
   · intro i kk f hk hff;simp only [Mc.enter] at hff;by_cases hi:i < ks.length
     · rw [List.getElem?_append_left hi] at hk;rw [List.getElem?_append_left (by omega)] at hff;exact .inl ⟨hk,hff⟩
     · have hi2:i < (ks++[k']).length:=(List.getElem?_eq_some_iff.1 hk).1;simp at hi2;obtain rfl:i=ks.length:=by omega
       rw [List.getElem?_append_right (by omega)] at hk;rw [List.getElem?_append_right (by omega)] at hff;simp [hl] at hk hff;subst hk;subst hff;refine .inr ⟨.slice none 0 0,.slice none 0 0,none,none,hb,?_,OwnS.nil _ _ _,(fun b hb=>by cases hb),OwnS.nil _ _ _,fun b hb=>by cases hb⟩;simp only [if_neg (Nat.not_lt.2 hk')];simp [hl]
 · rintro b (hb | rfl)
   · rw [h.tf b hb];simp [Tg.own]
   · rw [h.tm];simp [Tg.own]
theorem x_eval (h:TopAt w τ m S M ks k) (ho:M.st.Ok) (he:Ends M.st.ns) (hs:M.top.stack.length≤4294967295) (hs0:0 < M.top.stack.length) (h0:0≤M.top.place 0∧M.top.place 0 < M.st.ns.length) (hfl:M.frames.length≤4294967295) :
   CallsR Tryz.prog 126 [ptr m,ptr k,insV x] w fun _ w'=>∃ ks',MOp w τ m S (if (M.st.nd (M.top.place 0)).kind≠1∧(M.st.nd (M.top.place 0)).kind≠2 then M.enter (M.top.place 0) else M) ks' w':=by
 refine fit126.calls rfl ?_;unfold ir126;(try simp only [go_sem,simprocAttr]);refine e_bx rfl ?_;intro w1 hb1 hm1 _;have h1:=h.later hm1;have hr1:=Mod.refl (fun _=>False) w1;(try simp only [go_sem,simprocAttr]);refine e_call (by rfl) ?_;refine (f_place (h1.later hr1).fr (by omega) ⟨by omega,by omega⟩).mono ?_;rintro _ _ ⟨rfl,rfl⟩;have hma2:Mod (fun _=>False) w1 w1.drew:=hr1.drew;(try simp only [go_sem,simprocAttr]);refine e_call (by rfl) ?_;refine (m_over (h1.later hma2).at' ho he h0).mono ?_;rintro _ wc2 ⟨v2,rfl,hv2,hmc2⟩;(try simp only [go_sem,simprocAttr]);refine e_al ?_;intro wd2 hbd2 hmd2 _;(try simp only [go_sem,simprocAttr]);refine e_sta (cs:=[I 0,I 0,.slice none 0 0]) rfl rfl hbd2 rfl rfl (node_one hv2 _ _) ?_;intro w2 hb2 hme2 hse2;(try simp only [go_sem,simprocAttr]);have hsc2:=(hma2.trans hmc2).size;have hm2:Mod (fun _=>False) w1 w2:=(hma2.trans (hmc2.trans hmd2)).step hme2 (fun x hx hl=>by subst hx;omega);have hn2:Mod (fun _=>False) wc2 w2:=hmd2.step hme2 (fun x hx hl=>by subst hx;omega);have h2:=h1.later hm2;have done:∀ t:Bool,(if t=true then M.enter (M.top.place 0) else M)=(if t=true then M.enter (M.top.place 0) else M):=fun _=>rfl
 cases hk1:((M.st.nd (M.top.place 0)).kind != 1)
 · (try simp only [go_sem,simprocAttr,cell_of hb2,hk1]);simp only [zb1,zb2,zb3,zb4,zb5] at hk1;rw [if_neg (by omega)];exact ⟨ks,MOp.boxed hm1 (MOp.boxed hm2 ⟨_,ext_refl _ _,h2.at',Mod.refl _ _⟩)⟩
 cases hk2:((M.st.nd (M.top.place 0)).kind != 2)
 · (try simp only [go_sem,simprocAttr,cell_of hb2,hk1,hk2]);simp only [zb1,zb2,zb3,zb4,zb5] at hk2;rw [if_neg (by omega)];exact ⟨ks,MOp.boxed hm1 (MOp.boxed hm2 ⟨_,ext_refl _ _,h2.at',Mod.refl _ _⟩)⟩
 have hk1':=hk1;have hk2':=hk2;simp only [zb1,zb2,zb3,zb4,zb5] at hk1';simp only [zb1,zb2,zb3,zb4,zb5] at hk2';rw [if_pos ⟨hk1',hk2'⟩];have hm2:=hm2.drew;have h2:=h1.later hm2;obtain ⟨vG,vF,vW,vT,fg,ff,fw,ft,F,hh⟩:=h2.at';have hc:=hh.cells;have hl:=hh.len;obtain ⟨aF,cF,rfl,_⟩:=hh.fr.val;have hc':w2.heap[m]? = _:=hc;(try simp only [go_sem,simprocAttr,cell_of hb2,hk1,hk2,cell_of hc',mcCells]);refine e_call (by rfl) ?_;refine (f_place (n:=0) h2.fr (by omega) ⟨by omega,by omega⟩).mono ?_;rintro _ _ ⟨rfl,rfl⟩;have hr3:Mod (fun _=>False) w2.drew w2.drew.drew:=(Mod.refl _ w2.drew).drew;(try simp only [go_sem,simprocAttr]);refine e_bx rfl ?_;intro w4 hb4 hm4 _;(try simp only [go_sem,simprocAttr]);refine ⟨?_,?_⟩
 · exact hm4.old m hh.lt (fun h=>h)
 refine e_bs (by rfl) (by rfl) ?_;intro w5 hb5 hm5 _;(try simp only [go_sem,simprocAttr]);refine ⟨?_,?_⟩
 · exact hm5.old m (by have:=hm4.size;have:=hh.lt;exact Nat.lt_of_lt_of_le hh.lt hm4.size) (fun h=>h)
 have hm25:Mod (fun _=>False) w2.drew w5:=(hr3.trans hm4).trans hm5;refine e_ap (m:=1) (news:=[ptr w2.drew.drew.heap.size]) rfl (hh.fr.mod hm25 (fun _ _ h=>h)) rfl (fun h=>by cases h) (rd_block (xs:=[ptr w2.drew.drew.heap.size]) hb5) (by simp [Value.oneCell',ptr]) rfl (by omega) (by omega) ?_;intro v6 w6 ff6 ho6 hm6 hf6;obtain ⟨a6,c6,rfl,_⟩:=ho6.val;have hc5:=hm25.at hc (fun h=>h);have hc6:=hm6.at hc5 (fun e=>by have:=hh.tf m e;rw [hh.tm] at this;cases this);(try simp only [go_sem,simprocAttr]);refine e_st1 (off:=10) rfl rfl hc6 rfl (by simp [mcCells]) ?_;intro w7 hb7 hm7 hs7;(try simp only [go_sem,simprocAttr]);have hmx:Mod (fun b=>ff=some b∨b=m) w2.drew w7:=((hm25.weak (fun _ h=>h.elim)).step hm6 (fun b hb _=>.inl hb)).step hm7 (fun b hb _=>.inr hb);have hk4:w7.heap[w2.drew.drew.heap.size]? = some (.cells (frCells (newFr (M.top.place 0)) (.slice none 0 0) (.slice none 0 0)).toArray 151 (0,0)):=by
   have e1:=hm5.at hb4 (fun h=>h);have e2:=hm6.at e1 (fun e=>own_kind (hh.fr.mod hm25 (fun _ _ h=>h)) e e1 (by decide));exact hm7.at e2 (fun e=>by have:=hh.lt;have e:w2.drew.heap.size=m:=e;omega)
 have hop:=enter_done hh (M.top.place 0) (k':=w2.drew.drew.heap.size) (Nat.le_refl _) hk4 hmx (by simpa [mcCells,Mc.enter] using hb7) (by
   have:=ho6.mod hm7 (fun b hb e=>by
     subst e;rcases hf6 b hb with h3 | h3
     · have:=hh.tf b h3;rw [hh.tm] at this;cases this
     · have:=hh.lt;have:=hm25.size;omega)
   simpa using this) (fun b hb=>(hf6 b hb).imp id (fun h3=>by have:=hm25.size;omega))
 exact ⟨_,MOp.boxed hm1 (MOp.boxed hm2 hop)⟩
end
end
section
open Go Go.W
theorem ir_blk {P:Program} {N:Nat} {a:IR} {id:Nat} {next:Env→World→Prop} {Q:Post} {ρ:Env} {w:World} (Mid:Env→World→Prop) (h:irwp P N a (blkQ id (thenQ Mid Q)) ρ w) (hk:∀ ρ w,Mid ρ w→next ρ w):irwp P N a (blkQ id (thenQ next Q)) ρ w:=
 irwp_mono a _ _ (blkQ_le (thenQ_le hk (fun _ _ _ h=>h))) ρ w h
theorem wrap_63 (n:Int):(IntKind.i64.wrap (n*2)) / 2=wrap63 n:=by
 rw [IntKind.wrap_i64];unfold wrap63;omega
theorem f_wrap (w:World) (n:Int):CallsR Tryz.prog 151 [I n] w fun r w'=>r=I (wrap63 n)∧w=w':=by
 refine fit151.calls rfl ?_;unfold ir151;(try simp only [go_sem,Nat.reduceAdd,Nat.reduceEqDiff,Nat.reduceLT,Nat.reduceLeDiff,Nat.reduceMul,reduceCtorEq,↓reduceIte]);refine ⟨_,rfl,_,rfl,?_⟩;have e:(2:Int) ^ min (Int.toNat 1) 64=2:=by decide
 show I ((IntKind.i64.wrap (n*2 ^ min (Int.toNat 1) 64)).fdiv (2 ^ min (Int.toNat 1) 64))=_;rw [e,Int.fdiv_eq_ediv_of_nonneg _ (by omega),wrap_63]
theorem f_compare (w:World) (op a b:Int):CallsR Tryz.prog 152 [I op,I a,I b] w fun r w'=>r = .bool (cmpI op a b)∧w=w':=by
 refine fit152.calls rfl ?_;unfold ir152 cmpI;(try simp only [go_sem,simprocAttr]);refine ir_cond rfl (fun hh=>?_) (fun hh=>?_)
 · simp only [zb1,zb2,zb3,zb4,zb5] at hh;rw [if_pos hh];(try simp only [go_sem,simprocAttr])
   try (rw [Value.bool.injEq];by_cases hab:a=b<;>simp [hab])
 simp only [zb1,zb2,zb3,zb4,zb5] at hh;rw [if_neg hh];(try simp only [go_sem,simprocAttr]);refine ir_cond rfl (fun hh=>?_) (fun hh=>?_)
 · simp only [zb1,zb2,zb3,zb4,zb5] at hh;rw [if_pos hh];(try simp only [go_sem,simprocAttr])
   try (rw [Value.bool.injEq];by_cases hab:a=b<;>simp [hab])
 simp only [zb1,zb2,zb3,zb4,zb5] at hh;rw [if_neg hh];(try simp only [go_sem,simprocAttr]);refine ir_cond rfl (fun hh=>?_) (fun hh=>?_)
 · simp only [zb1,zb2,zb3,zb4,zb5] at hh;rw [if_pos hh];(try simp only [go_sem,simprocAttr])
   try (rw [Value.bool.injEq];by_cases hab:a=b<;>simp [hab])
 simp only [zb1,zb2,zb3,zb4,zb5] at hh;rw [if_neg hh];(try simp only [go_sem,simprocAttr]);refine ir_cond rfl (fun hh=>?_) (fun hh=>?_)
 · simp only [zb1,zb2,zb3,zb4,zb5] at hh;rw [if_pos hh];(try simp only [go_sem,simprocAttr])
   try (rw [Value.bool.injEq];by_cases hab:a=b<;>simp [hab])
 simp only [zb1,zb2,zb3,zb4,zb5] at hh;rw [if_neg hh];(try simp only [go_sem,simprocAttr]);refine ir_cond rfl (fun hh=>?_) (fun hh=>?_)
 · simp only [zb1,zb2,zb3,zb4,zb5] at hh;rw [if_pos hh];(try simp only [go_sem,simprocAttr])
   try (rw [Value.bool.injEq];by_cases hab:a=b<;>simp [hab])
 simp only [zb1,zb2,zb3,zb4,zb5] at hh;rw [if_neg hh];(try simp only [go_sem,simprocAttr])
theorem wrap63_may (n:Int):(⟨1,wrap63 n,[]⟩:Nd).may=true:=by
 have h : -4611686018427387904≤wrap63 n∧wrap63 n≤4611686018427387903:=by unfold wrap63;omega
 generalize wrap63 n=z at h;simp [Nd.may,mayB];omega
theorem con_may {n:Int} (h:0≤n∧n < 20000):(⟨2,n,[]⟩:Nd).may=true:=by
 simp [Nd.may,mayB];omega
theorem wrap_wrap63 (n:Int):wrap63 (IntKind.i64.wrap n)=wrap63 n:=by
 rw [IntKind.wrap_i64];unfold wrap63;omega
section
variable {w:World} {τ:Tag} {m:Nat} {S:SV} {M:Mc} {ks:List Nat} {k:Nat} {x:Ins}
theorem arith_may2 (op a b:Int):(arithNd op a b).may=true∧(arithNd op a b).args=[]:=by
 unfold arithNd
 repeat' split
 all_goals first | exact ⟨wrap63_may _,rfl⟩ | exact ⟨con_may (by omega),rfl⟩
theorem x_arith (h:TopAt w τ m S M ks k) (ho:M.st.Ok) (he:Ends M.st.ns) (hs:M.top.stack.length≤4294967295) (hs2:2≤M.top.stack.length) (h0:0≤M.top.place 0∧M.top.place 0 < M.st.ns.length) (h1':0≤M.top.place 1∧M.top.place 1 < M.st.ns.length)
   (hr:(M.st.ns.length:Int) < M.st.size) (hend:M.ended=0) (hx:1≤x.a∧x.a≤11) :
   CallsR Tryz.prog 127 [ptr m,ptr k,insV x] w fun _ w'=>MOp w τ m S (M.arith x) ks w':=by
 refine fit127.calls rfl ?_;unfold ir127;(try simp only [go_sem,simprocAttr]);refine e_bx rfl ?_;intro w1 hb1 hm1 _;have h1:=h.later hm1;have hr1:=Mod.refl (fun _=>False) w1;(try simp only [go_sem,simprocAttr]);refine e_call (by rfl) ?_;refine (f_place (h1.later hr1).fr (by omega) ⟨by omega,by omega⟩).mono ?_;rintro _ _ ⟨rfl,rfl⟩;have hma2:Mod (fun _=>False) w1 w1.drew:=hr1.drew;(try simp only [go_sem,simprocAttr]);refine e_call (by rfl) ?_;refine (m_over (h1.later hma2).at' ho he h0).mono ?_;rintro _ wc2 ⟨v2,rfl,hv2,hmc2⟩;(try simp only [go_sem,simprocAttr]);refine e_al ?_;intro wd2 hbd2 hmd2 _;(try simp only [go_sem,simprocAttr]);refine e_sta (cs:=[I 0,I 0,.slice none 0 0]) rfl rfl hbd2 rfl rfl (node_one hv2 _ _) ?_;intro w2 hb2 hme2 hse2;(try simp only [go_sem,simprocAttr]);have hsc2:=(hma2.trans hmc2).size;have hm2:Mod (fun _=>False) w1 w2:=(hma2.trans (hmc2.trans hmd2)).step hme2 (fun x hx hl=>by subst hx;omega);have hn2:Mod (fun _=>False) wc2 w2:=hmd2.step hme2 (fun x hx hl=>by subst hx;omega);refine e_call (by rfl) ?_;refine (f_place (h1.later hm2).fr (by omega) ⟨by omega,by omega⟩).mono ?_;rintro _ _ ⟨rfl,rfl⟩;have hma3:Mod (fun _=>False) w1 w2.drew:=hm2.drew;(try simp only [go_sem,simprocAttr]);refine e_call (by rfl) ?_;refine (m_over (h1.later hma3).at' ho he h1').mono ?_;rintro _ wc3 ⟨v3,rfl,hv3,hmc3⟩;(try simp only [go_sem,simprocAttr]);refine e_al ?_;intro wd3 hbd3 hmd3 _;(try simp only [go_sem,simprocAttr]);refine e_sta (cs:=[I 0,I 0,.slice none 0 0]) rfl rfl hbd3 rfl rfl (node_one hv3 _ _) ?_;intro w3 hb3 hme3 hse3;(try simp only [go_sem,simprocAttr]);have hsc3:=(hma3.trans hmc3).size;have hm3:Mod (fun _=>False) w1 w3:=(hma3.trans (hmc3.trans hmd3)).step hme3 (fun x hx hl=>by subst hx;omega);have hn3:Mod (fun _=>False) wc3 w3:=hmd3.step hme3 (fun x hx hl=>by subst hx;omega);have h3:=h1.later hm3;have hb13:=hm3.at hb1 (fun h=>h);have hm23:Mod (fun _=>False) w2 w3:=((Mod.refl (fun _=>False) w2).drew.trans hmc3).trans hn3;have hb23:=hm23.at hb2 (fun h=>h);generalize hA:M.st.nd (M.top.place 0)=A at *;generalize hB:M.st.nd (M.top.place 1)=B at *;have hM:M.arith x=if A.kind≠1∨B.kind≠1 then M.fail 5 else if (x.a=4∨x.a=5)∧B.num=0 then M.fail 3 else M.put (arithNd x.a A.num B.num) 2:=by
   unfold Mc.arith;rw [hA,hB]
 (try simp only [go_sem,simprocAttr,cell_of hb23,cell_of hb3]);refine wpS_cut (fun ρ w'=>w3=w'∧ρ.get 0=some (ptr m)∧ρ.get 1=some (ptr k)∧ρ.get 5=some (ptr w.heap.size)∧ρ.get 7=some (ptr wc2.heap.size)∧ρ.get 9=some (ptr wc3.heap.size)∧ρ.get 10=some (I 0)∧ρ.get 27=some (.bool (decide (A.kind≠1∨B.kind≠1)))) ?_ ?_
 · cases hk1:(A.kind != 1)<;>cases hk2:(B.kind != 1)<;>(try simp only [go_sem,simprocAttr,cell_of hb3,hk1,hk2])<;>(simp only [zb1,zb2,zb3,zb4,zb5] at hk1;simp only [zb1,zb2,zb3,zb4,zb5] at hk2;simp [hk1,hk2])
 rintro ρ _ ⟨rfl,r0,r1,r5,r7,r9,r10,r27⟩;(try simp only [go_sem,simprocAttr,r0,r1,r5,r7,r9,r10,r27])
 refine ir_blk (fun ρ w'=>ρ.get 0=some (ptr m)∧ρ.get 1=some (ptr k)∧((∃ how v10,how≠0∧ρ.get 10=some v10∧M.arith x=M.fail how∧MOp w3 (newTag (newTag τ w .no) w1 .no) m S (M.fail how) ks w') ∨
   (∃ nd,ρ.get 10=some (I M.st.ns.length)∧M.arith x=M.put nd 2∧MOp w3 (newTag (newTag τ w .no) w1 .no) m S { M with st:=M.st.add nd} ks w'))) ?_ ?_
 · refine ir_cond rfl (fun hk=>?_) (fun hk=>?_)
   · simp only [zb1,zb2,zb3,zb4,zb5] at hk;(try simp only [go_sem,simprocAttr]);refine e_call (by rfl) ?_;refine (m_fail h3.at' 5).mono ?_;rintro _ w4 hop;(try simp only [go_sem,simprocAttr]);exact .inl ⟨5,_,by decide,rfl,by rw [hM,if_pos hk],hop⟩
   simp only [zb1,zb2,zb3,zb4,zb5] at hk;rw [if_neg hk] at hM;(try simp only [go_sem,simprocAttr,cell_of hb13,Value.cells]);refine wpS_cut (fun ρ w'=>w3=w'∧ρ.get 0=some (ptr m)∧ρ.get 1=some (ptr k)∧ρ.get 5=some (ptr w.heap.size)∧ρ.get 7=some (ptr wc2.heap.size)∧ρ.get 9=some (ptr wc3.heap.size)∧ρ.get 10=some (I 0)∧ρ.get 38=some (.bool (decide ((x.a=4∨x.a=5)∧B.num=0)))) ?_ ?_
   · cases h4:(x.a == 4)<;>cases h5:(x.a == 5)<;>cases hz:(B.num == 0)<;>(try simp only [go_sem,simprocAttr,cell_of hb3,cell_of hb13,Value.cells,h4,h5,hz])<;>(simp only [zb1,zb2,zb3,zb4,zb5] at h4;simp only [zb1,zb2,zb3,zb4,zb5] at h5;simp only [zb1,zb2,zb3,zb4,zb5] at hz;simp [h4,h5,hz])
   rintro ρ _ ⟨rfl,r0,r1,r5,r7,r9,r10,r38⟩;(try simp only [go_sem,simprocAttr,r0,r1,r5,r7,r9,r10,r38]);refine ir_cond rfl (fun hz=>?_) (fun hz=>?_)
   · simp only [zb1,zb2,zb3,zb4,zb5] at hz;(try simp only [go_sem,simprocAttr]);refine e_call (by rfl) ?_;refine (m_fail h3.at' 3).mono ?_;rintro _ w4 hop;(try simp only [go_sem,simprocAttr]);exact .inl ⟨3,_,by decide,rfl,by rw [hM,if_pos hz],hop⟩
   simp only [zb1,zb2,zb3,zb4,zb5] at hz;rw [if_neg hz] at hM;(try simp only [go_sem,simprocAttr,cell_of hb13,Value.cells,cell_of hb23,cell_of hb3]);have adds:∀ nd:Nd,arithNd x.a A.num B.num=nd→CallsR Tryz.prog 116 [ptr m,I nd.kind,I nd.num,.slice none 0 0] w3 fun r w'=>r=I M.st.ns.length∧M.arith x=M.put nd 2∧MOp w3 (newTag (newTag τ w .no) w1 .no) m S { M with st:=M.st.add nd} ks w':=by
     intro nd hnd;obtain ⟨a1,a2⟩:=arith_may2 x.a A.num B.num;rw [hnd] at a1 a2;refine (m_add (nd:=nd) h3.at' ho a1 (by rw [a2];rfl) (by rw [a2];exact ints_nil w3) hr).mono ?_;rintro r w' ⟨h5,h6⟩;exact ⟨h5,by rw [hM,hnd],h6⟩
   refine ir_cond rfl (fun hop=>?_) (fun hop=>?_)
   · simp only [zb1,zb2,zb3,zb4,zb5] at hop;(try simp only [go_sem,simprocAttr,cell_of hb23,cell_of hb3]);refine e_call (by rfl) ?_;refine (f_wrap w3 _).mono ?_;rintro _ _ ⟨rfl,rfl⟩;(try simp only [go_sem,simprocAttr,wrap_wrap63]);refine e_call (by rfl) ?_;refine (adds ⟨1,wrap63 (A.num+B.num),[]⟩ (by unfold arithNd;simp [hop])).mono ?_;rintro _ w4 ⟨rfl,e,hop4⟩;(try simp only [go_sem,simprocAttr]);exact .inr ⟨_,e,hop4⟩
   simp only [zb1,zb2,zb3,zb4,zb5] at hop;(try simp only [go_sem,simprocAttr,cell_of hb13,Value.cells]);refine ir_cond rfl (fun hop=>?_) (fun hop=>?_)
   · simp only [zb1,zb2,zb3,zb4,zb5] at hop;(try simp only [go_sem,simprocAttr,cell_of hb23,cell_of hb3]);refine e_call (by rfl) ?_;refine (f_wrap w3 _).mono ?_;rintro _ _ ⟨rfl,rfl⟩;(try simp only [go_sem,simprocAttr,wrap_wrap63]);refine e_call (by rfl) ?_;refine (adds ⟨1,wrap63 (A.num - B.num),[]⟩ (by unfold arithNd;simp [hop])).mono ?_;rintro _ w4 ⟨rfl,e,hop4⟩;(try simp only [go_sem,simprocAttr]);exact .inr ⟨_,e,hop4⟩
   simp only [zb1,zb2,zb3,zb4,zb5] at hop;(try simp only [go_sem,simprocAttr,cell_of hb13,Value.cells]);refine ir_cond rfl (fun hop=>?_) (fun hop=>?_)
   · simp only [zb1,zb2,zb3,zb4,zb5] at hop;(try simp only [go_sem,simprocAttr,cell_of hb23,cell_of hb3]);refine e_call (by rfl) ?_;refine (f_wrap w3 _).mono ?_;rintro _ _ ⟨rfl,rfl⟩;(try simp only [go_sem,simprocAttr,wrap_wrap63]);refine e_call (by rfl) ?_;refine (adds ⟨1,wrap63 (A.num*B.num),[]⟩ (by unfold arithNd;simp [hop])).mono ?_;rintro _ w4 ⟨rfl,e,hop4⟩;(try simp only [go_sem,simprocAttr]);exact .inr ⟨_,e,hop4⟩
   simp only [zb1,zb2,zb3,zb4,zb5] at hop;(try simp only [go_sem,simprocAttr,cell_of hb13,Value.cells]);refine ir_cond rfl (fun hop=>?_) (fun hop=>?_)
   · simp only [zb1,zb2,zb3,zb4,zb5] at hop;have hz0:B.num≠0:=fun hz0=>hz ⟨by omega,hz0⟩
     (try simp only [go_sem,simprocAttr,cell_of hb23,cell_of hb3,hz0]);refine e_call (by rfl) ?_;refine (f_wrap w3 _).mono ?_;rintro _ _ ⟨rfl,rfl⟩;(try simp only [go_sem,simprocAttr,wrap_wrap63]);refine e_call (by rfl) ?_;refine (adds ⟨1,wrap63 (A.num.tdiv B.num),[]⟩ (by unfold arithNd;simp [hop])).mono ?_;rintro _ w4 ⟨rfl,e,hop4⟩;(try simp only [go_sem,simprocAttr]);exact .inr ⟨_,e,hop4⟩
   simp only [zb1,zb2,zb3,zb4,zb5] at hop;(try simp only [go_sem,simprocAttr,cell_of hb13,Value.cells]);refine ir_cond rfl (fun hop=>?_) (fun hop=>?_)
   · simp only [zb1,zb2,zb3,zb4,zb5] at hop;have hz0:B.num≠0:=fun hz0=>hz ⟨by omega,hz0⟩
     (try simp only [go_sem,simprocAttr,cell_of hb23,cell_of hb3,hz0]);refine e_call (by rfl) ?_;refine (f_wrap w3 _).mono ?_;rintro _ _ ⟨rfl,rfl⟩;(try simp only [go_sem,simprocAttr,wrap_wrap63]);refine e_call (by rfl) ?_;refine (adds ⟨1,wrap63 (A.num.tmod B.num),[]⟩ (by unfold arithNd;simp [hop])).mono ?_;rintro _ w4 ⟨rfl,e,hop4⟩;(try simp only [go_sem,simprocAttr]);exact .inr ⟨_,e,hop4⟩
   simp only [zb1,zb2,zb3,zb4,zb5] at hop;(try simp only [go_sem,simprocAttr,cell_of hb13,Value.cells]);(try simp only [go_sem,simprocAttr,cell_of hb13,Value.cells,cell_of hb23,cell_of hb3]);refine e_call (by rfl) ?_;refine (f_compare w3 _ _ _).mono ?_;rintro _ _ ⟨rfl,rfl⟩;have hcon:∀ z:Bool,cmpI x.a A.num B.num=z→arithNd x.a A.num B.num=⟨2,if z=true then 1 else 0,[]⟩:=by
     intro z hz';unfold arithNd;rw [if_neg (by omega),if_neg (by omega),if_neg (by omega),if_neg (by omega),if_neg (by omega),hz'];cases z<;>rfl
   (try simp only [go_sem,simprocAttr]);refine ir_cond rfl (fun hcm=>?_) (fun hcm=>?_)
   · have hnd:=hcon _ hcm;(try simp only [go_sem,simprocAttr]);refine e_call (by rfl) ?_;refine (adds ⟨2,1,[]⟩ hnd).mono ?_;rintro _ w4 ⟨rfl,e,hop4⟩;(try simp only [go_sem,simprocAttr]);exact .inr ⟨_,e,hop4⟩
   · have hnd:=hcon _ hcm;(try simp only [go_sem,simprocAttr]);refine e_call (by rfl) ?_;refine (adds ⟨2,0,[]⟩ hnd).mono ?_;rintro _ w4 ⟨rfl,e,hop4⟩;(try simp only [go_sem,simprocAttr]);exact .inr ⟨_,e,hop4⟩
 rintro ρ w4 ⟨r0,r1,⟨how,v10,hne,r10,e,hop⟩ | ⟨nd,r10,e,hop⟩⟩
 · obtain ⟨τ4,k1,⟨vG,vF,vW,vT,fg,ff,fw,ft,F,hh⟩,k3⟩:=hop;have hc:=hh.cells;have e0:((M.fail how).ended == 0)=false:=rfl;(try simp only [go_sem,simprocAttr,r0,r1,r10,cell_of hc,mcCells,e0]);rw [e];exact MOp.boxed hm1 (MOp.boxed hm3 ⟨τ4,k1,⟨vG,vF,vW,vT,fg,ff,fw,ft,F,hh⟩,k3⟩)
 · obtain ⟨τ5,k1,k2,k5⟩:=h3.two hop rfl;obtain ⟨vG,vF,vW,vT,fg,ff,fw,ft,F,hh⟩:=k5.at';have hc:=hh.cells;have e0:(M.ended == 0)=true:=by simp [hend]
   (try simp only [go_sem,simprocAttr,r0,r1,r10,cell_of hc,mcCells,e0]);refine e_call (by rfl) ?_;refine (f_pop (n:=2) k5.fr (by show M.top.stack.length≤_;omega) ⟨by omega,by show (2:Int)≤M.top.stack.length;omega⟩).mono ?_;intro _ w6 hf6;have ho6:=MOp.cat k1 k2 (k5.frm hf6);obtain ⟨τ6,j1,j2,k6⟩:=ho6.top (by simp [Mc.setTop]) h.pos h.hk;(try simp only [go_sem,simprocAttr]);refine e_call (by rfl) ?_;obtain ⟨t1,t2⟩:=setTop_top (M:={ M with st:=M.st.add nd}) h.pos (M.top.pop 2);have t1:(({ M with st:=M.st.add nd}:Mc).setTop (({ M with st:=M.st.add nd}:Mc).top.pop 2)).top=_:=t1;refine (f_push k6.fr (by rw [t1];simp only [Fr.pop,List.length_take];omega) M.st.ns.length).mono ?_;intro _ w7 hf7;(try simp only [go_sem,simprocAttr]);have:=two_frm j1 j2 k6 hf7;rw [t1] at this;rw [e,put_eq _ _ h.pos];exact MOp.boxed hm1 (MOp.boxed hm3 this)
end
end
section
open Go Go.W
section
variable {w:World} {τ:Tag} {m:Nat} {S:SV} {M:Mc} {ks:List Nat} {k:Nat} {x:Ins}
theorem row_at {w:World} {v:Value} {sz:Nat} {rows:List (List Value)} {B:Nat→Prop} (h:RowsAt w v sz rows B) {i:Nat} (hi:i < rows.length) :
   ∃ ad c,v = .slice (some ad) rows.length c∧rows[i].length=sz∧∀ k (hk:k < rows[i].length),w.cell? ((ad.add (i*sz)).add k)=some rows[i][k]:=by
 obtain ⟨a,c,rfl,_,h⟩:=h;obtain ⟨ad,rfl,h1,h2⟩:=h i hi;exact ⟨ad,c,rfl,h1,h2⟩
theorem shape_at {w:World} {vsh vgl:Value} {T:Tab} {B:Nat→Prop} (h:TabAt w vsh vgl T B) {i:Nat} (hi:i < T.shapes.length) :
   ∃ ad c,vsh = .slice (some ad) T.shapes.length c∧w.cell? ((ad.add (i*2)).add 0)=some (.string (T.sh i).name)∧w.cell? ((ad.add (i*2)).add 1)=some (I (T.sh i).fields):=by
 obtain ⟨ad,c,rfl,h1,h2⟩:=row_at h.1 (i:=i) (by simpa using hi);have e:T.sh (i:Int)=T.shapes[i]:=by unfold Tab.sh;rw [Int.toNat_natCast,List.getD_eq_getElem?_getD,List.getElem?_eq_getElem hi];rfl
 refine ⟨ad,c,by simp,?_,?_⟩
 · have:=h2 0 (by rw [h1];omega);rw [this,e];simp [shRow]
 · have:=h2 1 (by rw [h1];omega);rw [this,e];simp [shRow]
def fieldsOf (f:Fr) (n:Nat):List Int:=(List.range n).map fun i:Nat=>f.place (i:Int)
theorem fields_len (f:Fr) (n:Nat):(fieldsOf f n).length=n:=by simp [fieldsOf]
theorem fields_succ (f:Fr) (n:Nat):fieldsOf f (n+1)=fieldsOf f n++[f.place (n:Int)]:=by simp [fieldsOf,List.range_succ]
theorem fields_set (f:Fr) {i n:Nat} (hi:i < n):((fieldsOf f i).map I++List.replicate (n - i) (I 0)).set i (I (f.place i))=(fieldsOf f (i+1)).map I++List.replicate (n - (i+1)) (I 0):=by
 rw [List.set_append_right _ _ (by simp [fields_len])];simp only [List.length_map,fields_len,Nat.sub_self];rw [show n - i=(n - (i+1))+1 by omega,List.replicate_succ,List.set_cons_zero,fields_succ,List.map_append,List.append_assoc];rfl
theorem x_pack (h:TopAt w τ m S M ks k) (ho:M.st.Ok) {n:Nat} (ha:0≤x.a∧x.a < M.tab.shapes.length) (hn:(M.tab.sh x.a).fields=n) (hn8:n≤8) (hst:n≤M.top.stack.length) (hs:M.top.stack.length≤4294967295) (hr:(M.st.ns.length:Int) < M.st.size)
   (hpl:okPl M.st.ns.length (fieldsOf M.top n)=true) :
   CallsR Tryz.prog 124 [ptr m,ptr k,insV x] w fun _ w'=>MOp w τ m S (M.put ⟨2,x.a,fieldsOf M.top n⟩ n) ks w':=by
 obtain ⟨j,hj⟩:∃ j:Nat,x.a=j:=⟨x.a.toNat,by omega⟩;refine fit124.calls rfl ?_;unfold ir124;(try simp only [go_sem,simprocAttr]);refine e_bx rfl ?_;intro w1 hb1 hm1 _;have hb2:w1.drew.heap[w.heap.size]? = _:=hb1;have h1:=h.later hm1;obtain ⟨vG,vF,vW,vT,fg,ff,fw,ft,F,hh⟩:=h1.at';have hc1:=hh.cells;obtain ⟨ad,c,hsh,_,hfl⟩:=shape_at hh.tab (i:=j) (by omega);rw [hj] at hb1 hb2 hn;rw [hn] at hfl;have b1:(0:Int)≤j∧(j:Int) < M.tab.shapes.length:=by omega
 have hfl:w1.cell? ⟨(ad.add (j*2)).block,(ad.add (j*2)).off+1,none⟩=some (I n):=hfl;(try simp only [go_sem,simprocAttr,zb4,zb6,cell_of hb1,Value.cells,cell_of hc1,mcCells,hsh,b1,hfl]);refine e_ms1 (bytes:=8) (n:=n) rfl (by omega) (by omega) ?_;intro w2 hb2' hm2 hs2;have hm02:Mod (fun _=>False) w w2:=hm1.trans (Mod.of_drew hm2);(try simp only [go_sem,simprocAttr]);have hs12:=hm1.size
 refine ir_loop (fun z ρ w'=>∃ i:Nat,z=n - i∧i≤n∧Mod (fun _=>False) w w'∧w'.heap[w.heap.size]? = some (.cells #[I x.op,I j,I x.b] 61 (0,0))∧w'.heap[w1.heap.size]? = some (.cells ((fieldsOf M.top i).map I++List.replicate (n - i) (I 0)).toArray 3 (0,0)) ∧
   ρ=[(0,ptr m),(1,ptr k),(5,ptr w.heap.size),(6,.slice (some ⟨w1.heap.size,0,none⟩) n n),(21,I n),(22,I i)]) n ⟨0,rfl,by omega,hm02,hm2.at hb2 (fun h=>h),by simpa [fieldsOf] using hb2',rfl⟩ ?_
 · rintro z ρ w3 ⟨i,rfl,hi,hm3,g1,g2,rfl⟩;unfold ir124L1;(try simp only [go_sem,simprocAttr]);refine ir_cond rfl (fun hlt=>?_) (fun hlt=>?_)
   · have hin:i < n:=by simpa using hlt
     (try simp only [go_sem,simprocAttr]);refine e_call (by rfl) ?_;refine (f_place (h.later hm3).fr (by omega) ⟨by omega,by omega⟩).mono ?_;rintro _ _ ⟨rfl,rfl⟩;have c1:(0:Int)≤i∧(i:Int) < n:=by omega
     (try simp only [go_sem,simprocAttr,zb4,zb6,c1,add_at]);refine e_st1 (off:=i) rfl rfl g2 rfl (by simp [fields_len];omega) ?_;intro w4 hb4 hm4 hs4;have e1:IntKind.i64.wrap ((i:Int)+1)=((i+1:Nat):Int):=by rw [wrap_in (by omega) (by omega)];omega
     rw [fields_set _ hin] at hb4;have hm4:=Mod.of_drew hm4;(try simp only [go_sem,simprocAttr,e1]);exact ⟨_,by omega,i+1,rfl,by omega,hm3.step hm4 (fun x hx hl=>by subst hx;omega),hm4.at g1 (fun hh=>by omega),hb4,rfl⟩
   · have hin:¬ i < n:=by simpa using hlt
     obtain rfl:i=n:=by omega
     simp only [Nat.sub_self,List.replicate_zero,List.append_nil] at g2;(try simp only [go_sem,simprocAttr,cell_of g1]);have h3:=h.later hm3;refine e_call (by rfl) ?_;have hints:=ints_blk g2 (by rw [fields_len];omega);rw [fields_len] at hints;refine (m_add (nd:=⟨2,j,fieldsOf M.top i⟩) h3.at' ho (by simp [Nd.may,mayB,fields_len];omega) hpl hints hr).mono ?_;rintro _ w5 ⟨rfl,hop⟩;obtain ⟨τ5,k1,k2,k5⟩:=h3.two hop rfl;(try simp only [go_sem,simprocAttr]);refine e_call (by rfl) ?_;refine (f_pop (n:=(i:Int)) k5.fr (by show M.top.stack.length≤_;omega) ⟨by omega,by show (i:Int)≤M.top.stack.length;omega⟩).mono ?_;intro _ w6 hf6;have ho6:=MOp.cat k1 k2 (k5.frm hf6);obtain ⟨τ6,j1,j2,k6⟩:=ho6.top (by simp [Mc.setTop]) h.pos h.hk;(try simp only [go_sem,simprocAttr]);refine e_call (by rfl) ?_;obtain ⟨t1,t2⟩:=setTop_top (M:={ M with st:=M.st.add ⟨2,j,fieldsOf M.top i⟩}) h.pos (M.top.pop i);have t1:(({ M with st:=M.st.add ⟨2,j,fieldsOf M.top i⟩}:Mc).setTop (({ M with st:=M.st.add ⟨2,j,fieldsOf M.top i⟩}:Mc).top.pop i)).top=_:=t1;refine (f_push k6.fr (by rw [t1];simp only [Fr.pop,List.length_take];omega) M.st.ns.length).mono ?_;intro _ w7 hf7;(try simp only [go_sem,simprocAttr]);have:=two_frm j1 j2 k6 hf7;rw [t1] at this;rw [hj,put_eq _ _ h.pos];exact MOp.boxed hm3 this
end
end
section
open Go Go.RowKit Go.Shelf
attribute [local go_sem] Oper.semAt_some
def downto (n k:Nat):List Nat:=(List.range k).map fun i=>n - 1 - i
theorem downto_succ (n k:Nat):downto n (k+1)=downto n k++[n - 1 - k]:=by simp [downto,List.range_succ]
theorem downto_length (n k:Nat):(downto n k).length=k:=by simp [downto]
def KeepB (Bs b:Nat) (W W':World):Prop:=W'.heap[Bs]? = W.heap[Bs]?∧W'.heap[b]? = W.heap[b]?
theorem keepB_cell {Bs b:Nat} {W W':World} (h:KeepB Bs b W W') {o:Nat}:W'.cell? ⟨b,o,none⟩=W.cell? ⟨b,o,none⟩∧W'.cell? ⟨Bs,o,none⟩=W.cell? ⟨Bs,o,none⟩:=by
 unfold World.cell?;rw [h.1,h.2];exact ⟨rfl,rfl⟩
set_option maxRecDepth 100000 in
set_option maxHeartbeats 2000000 in
theorem backints_in (F:Fence) (n:Nat) (h7:F.fn 153) (hro:F.round=none) (hn:1≤n) (l Bs b off len cap:Nat) (elt:Nat→Value) (hreach:len*8≤140737488351232) (J Jx:List Nat→World→Prop)
   (hY:∀ pre j W,J pre W→pre.length < len→j < len→YieldAt F (n - 1) Tryz.prog l #[.int .i64 (j:Int),elt j] W fun e W'=>
     (e = .returned (.bool true)∧J (pre++[j]) W'∧KeepB Bs b W W')∨(e = .returned (.bool false)∧Jx (pre++[j]) W'))
   (W:World) (hBs:W.cell? ⟨Bs,0,none⟩=some (.slice (some ⟨b,off,none⟩) len cap)) (hc:∀ j,j < len→W.cell? ⟨b,off+j,none⟩=some (elt j)) (h0:J [] W) :
   CallsIn F n Tryz.prog 153 #[.func (.yield l) #[] #[],.pointer (some ⟨Bs,0,none⟩)] W fun e W'=>(∃ v,e = .returned v) ∧
     ((∃ ys,ys=downto len len∧J ys W')∨(∃ pre,(∃ k,k≤len∧pre=downto len k)∧Jx pre W')):=by
 refine callsIn_of_wp Tryz.func153 rfl h7 ?_ hro;simp only [Tryz.ntmps153,List.size_toArray,List.length_cons,List.length_nil,Nat.reduceAdd,Nat.reduceSub,Array.replicate_succ,Array.replicate_zero,List.push_toArray,List.append_toArray,List.nil_append,List.cons_append];have hlen0:(IntKind.i64.wrap ((len:Int) - 1))=(len:Int) - 1:=by rw [IntKind.wrap_i64];omega
 gi_wp2
 gi_loopw [3] (fun i wr=>∃ k:Nat,k≤len∧i = .int .i64 ((len:Int) - 1 - k)∧J (downto len k) wr∧KeepB Bs b W wr)
   (fun i _=>(intOf i+1).toNat)
 case atStart=>exact ⟨0,Nat.zero_le _,by simp,h0,rfl,rfl⟩
 case round=>
   obtain ⟨k,hk,rfl,hJs,hnx⟩:=hrel;have hBs':wr.cell? ⟨Bs,0,none⟩=some (.slice (some ⟨b,off,none⟩) len cap):=(keepB_cell hnx).2.trans hBs;by_cases hlt:k < len
   · obtain ⟨j,hj,hjl⟩:∃ j:Nat,(len:Int) - 1 - k=(j:Int)∧len - 1 - k=j:=⟨len - 1 - k,by omega,rfl⟩;have hjn:j < len:=by omega
     have hcx:wr.cell? ⟨b,off+j,none⟩=some (elt j):=(keepB_cell hnx).1.trans (hc j hjn);obtain ⟨fn,tmps,assign,body,hy,hR⟩:=hY _ j wr hJs (by rw [downto_length];exact hlt) hjn;have hj1:IntKind.i64.wrap ((j:Int) - 1)=(j:Int) - 1:=by rw [IntKind.wrap_i64];omega
     rw [hj]
     gi_wp2
     refine hR.mono ?_;rintro e W3 (⟨rfl,hJ3,hk3⟩ | ⟨rfl,hJx3⟩)
     · gi_wp2
       go_roundw
       case rel=>exact ⟨k+1,by omega,by rw [show (len:Int) - 1 - ((k+1:Nat):Int)=(j:Int) - 1 by omega],by rw [downto_succ,hjl];exact hJ3,hk3.1.trans hnx.1,hk3.2.trans hnx.2⟩
       case measure=>simp [intOf]
     · gi_wp2
       refine bodyPost_ret (results_none rfl _ _ _) rfl ?_;exact ⟨⟨_,rfl⟩,.inr ⟨_,⟨k+1,by omega,by rw [downto_succ,hjl]⟩,hJx3⟩⟩
   · obtain rfl:k=len:=by omega
     have h0:decide (0≤(k:Int) - 1 - k)=false:=by simp;omega
     gi_wp2
     go_end0
     exact ⟨⟨_,rfl⟩,.inl ⟨_,rfl,hJs⟩⟩
set_option maxRecDepth 100000 in
set_option maxHeartbeats 1000000 in
theorem backints_nil_in (F:Fence) (n:Nat) (h7:F.fn 153) (hro:F.round=none) (l Bs:Nat) (J:List Nat→World→Prop) (W:World) (hBs:W.cell? ⟨Bs,0,none⟩=some (.slice none 0 0)) (h0:J [] W) :
   CallsIn F n Tryz.prog 153 #[.func (.yield l) #[] #[],.pointer (some ⟨Bs,0,none⟩)] W fun e W'=>(∃ v,e = .returned v)∧J [] W':=by
 refine callsIn_of_wp Tryz.func153 rfl h7 ?_ hro;simp only [Tryz.ntmps153,List.size_toArray,List.length_cons,List.length_nil,Nat.reduceAdd,Nat.reduceSub,Array.replicate_succ,Array.replicate_zero,List.push_toArray,List.append_toArray,List.nil_append,List.cons_append]
 gi_wp2
 gi_loopw [3] (fun i wr=>i = .int .i64 (-1)∧J [] wr) (fun _ _=>0)
 case atStart=>exact ⟨rfl,h0⟩
 case round=>
   obtain ⟨rfl,hJs⟩:=hrel
   gi_wp2
   go_end0
   exact ⟨⟨_,rfl⟩,hJs⟩
theorem backints_stops (F:Fence) (n:Nat) (h7:F.fn 153) (hro:F.round=none) (hn:1≤n) (Bs b len:Nat) (sv:Value) (elt:Nat→Value) (w:World) (hBs:w.cell? ⟨Bs,0,none⟩=some sv) (hBl:Bs < w.heap.size)
   (hs:(sv = .slice none 0 0∧len=0)∨(b < w.heap.size∧∃ cap,sv = .slice (some ⟨b,0,none⟩) len cap∧∀ j,j < len→w.cell? ⟨b,j,none⟩=some (elt j))) (hreach:len*8≤140737488351232) :
   SeqStopsK F n Tryz.prog 153 #[.pointer (some ⟨Bs,0,none⟩)] (fun x : { j:Nat // j < len}=>#[.int .i64 (x.1:Int),elt x.1]) (KeepB Bs b) (fun ys=>ys.map Subtype.val=downto len len) (fun _=>True) len w:=by
 intro l J Jx W hW _ _ hY h0;have hc':=(hW.cell (p:=⟨Bs,0,none⟩) hBl).trans hBs;rcases hs with ⟨rfl,rfl⟩ | ⟨hb,cap,rfl,hc⟩
 · refine (backints_nil_in F n h7 hro l Bs (fun ns W=>∃ xs,xs.map Subtype.val=ns∧J xs W) W hc' ⟨[],rfl,h0⟩).mono ?_;rintro e W' ⟨he,xs,hx,hj⟩;exact ⟨he,.inl ⟨xs,hx.trans rfl,hj⟩⟩
 · refine (backints_in F n h7 hro hn l Bs b 0 len cap elt hreach (fun ns W=>∃ xs,xs.map Subtype.val=ns∧J xs W) (fun ns W=>∃ xs,xs.map Subtype.val=ns∧Jx xs W) ?_ W hc' ?_ ⟨[],rfl,h0⟩).mono ?_
   · rintro pre j W1 ⟨xs,rfl,hj⟩ hl hjl;obtain ⟨fn,tmps,assign,body,h1,h2⟩:=hY xs ⟨j,hjl⟩ W1 hj (by simpa using hl);refine ⟨fn,tmps,assign,body,h1,h2.mono ?_⟩;rintro e W' (⟨rfl,k1,k2⟩ | ⟨rfl,k1⟩)
     · exact .inl ⟨rfl,⟨xs++[⟨j,hjl⟩],by simp,k1⟩,k2⟩
     · exact .inr ⟨rfl,xs++[⟨j,hjl⟩],by simp,k1⟩
   · intro j hj;rw [Nat.zero_add];exact (hW.cell (p:=⟨b,j,none⟩) hb).trans (hc j hj)
   · rintro e W' ⟨he,⟨ys,rfl,xs,hx,hj⟩ | ⟨pre,_,xs,hx,hj⟩⟩
     · exact ⟨he,.inl ⟨xs,hx,hj⟩⟩
     · exact ⟨he,.inr ⟨xs,trivial,hj⟩⟩
end
end Go.Proofs.YtnjobkbblhaliaaGreatDoor
section
namespace Go.W
open Go
section
variable {P:Program} {N:Nat} {Q:PostD} {Ds:List Nat} {ρ:Env} {w:World} {next:List Nat→Env→World→Prop} {i j:Nat} {rs:List RV} {R:Value→World→Prop}
@[go_sem] theorem kwp_ir {x:IR}:kwp P N (.ir x) Q Ds ρ w=irwp P N x (fun e ρ w=>Q e Ds ρ w) ρ w:=rfl
@[go_sem] theorem kwp_seq {a b:K}:kwp P N (.seq a b) Q Ds ρ w=kwp P N a (thenQD (fun Ds ρ w=>kwp P N b Q Ds ρ w) Q) Ds ρ w:=rfl
@[go_sem] theorem kwp_blk {a:K}:kwp P N (.blk i a) Q Ds ρ w=kwp P N a (blkQD i Q) Ds ρ w:=rfl
@[go_sem] theorem thenQD_n:thenQD next Q .normal Ds ρ w=next Ds ρ w:=rfl
@[go_sem] theorem thenQD_r:thenQD next Q .ret Ds ρ w=Q .ret Ds ρ w:=rfl
@[go_sem] theorem thenQD_x:thenQD next Q (.exit i) Ds ρ w=Q (.exit i) Ds ρ w:=rfl
@[go_sem] theorem blkQD_n:blkQD j Q .normal Ds ρ w=Q .normal Ds ρ w:=rfl
@[go_sem] theorem blkQD_r:blkQD j Q .ret Ds ρ w=Q .ret Ds ρ w:=rfl
@[go_sem] theorem blkQD_x:blkQD j Q (.exit i) Ds ρ w=if i=j then Q .normal Ds ρ w else Q (.exit i) Ds ρ w:=rfl
theorem fin_none {e:Exit} (he:e = .normal∨e = .ret) (h:∀ w',Mod (fun _=>False) w w'→∃ vs,rvs w' ρ rs=some vs∧R (one? vs) w'):finQD rs R e [] ρ w:=
 ⟨he,(fun D h=>by cases h),List.nodup_nil,fun w' hm _=>h w' (hm.weak (fun b hb=>by cases hb))⟩
theorem fin_one {e:Exit} {D:Nat} (he:e = .normal∨e = .ret) (hD:w.heap[D]? = some (.deferred (some []))) (h:∀ w',Mod (· = D) w w'→∃ vs,rvs w' ρ rs=some vs∧R (one? vs) w'):finQD rs R e [D] ρ w:=
 ⟨he,(fun D' h=>by obtain rfl:=List.mem_singleton.1 h;exact hD),List.nodup_cons.2 ⟨(by simp),List.nodup_nil⟩,fun w' hm _=>h w' (hm.weak (fun b hb=>List.mem_singleton.1 hb))⟩
end
theorem keeps_of_mod {S:Nat→Prop} {w w':World} (hm:Mod S w w') (hs:∀ b,S b→∀ o,w.heap[b]? = some o→o.isCells=true):KeepsOthers w w':=by
 refine ⟨hm.size,fun k o hk ho=>hm.at hk (fun hh=>?_)⟩;rw [hs k hh o hk] at ho;cases ho
theorem keepB_of_mod {S:Nat→Prop} {w w':World} (hm:Mod S w w') {Bs b:Nat} (h1:Bs < w.heap.size) (h2:b < w.heap.size) (hs:¬ S Bs) (hs':¬ S b):Go.Proofs.YtnjobkbblhaliaaGreatDoor.KeepB Bs b w w':=⟨hm.old Bs h1 hs,hm.old b h2 hs'⟩
theorem quiet_at {W W':World} {S:Nat→Prop} (hm:Mod S W W') (hs:∀ b,S b→∃ o:Obj,W.heap[b]? = some o∧o.isCells=false) {b:Nat} {cs:Array Value} {T:Nat} {fz:Nat×Nat} (h:W.heap[b]? = some (.cells cs T fz)):W'.heap[b]? = some (.cells cs T fz):=by
 refine hm.at h (fun hh=>?_);obtain ⟨o,h1,h2⟩:=hs b hh;rw [h] at h1;cases h1;cases h2
theorem quiet_ownS {W W':World} {S:Nat→Prop} (hm:Mod S W W') (hs:∀ b,S b→∃ o:Obj,W.heap[b]? = some o∧o.isCells=false) {T sz n:Nat} {v:Value} {xs:List Value} {fp:Option Nat} (h:OwnS W T sz v xs n fp):OwnS W' T sz v xs n fp:=by
 refine h.mod hm (fun b hb hh=>?_);obtain ⟨o,h1,h2⟩:=hs b hh;obtain ⟨h3,h4 | ⟨b',c,sp,e,hf,h5,_⟩⟩:=h
 · obtain ⟨_,_,e⟩:=h4;rw [e] at hb;cases hb
 · rw [hf] at hb;cases hb;rw [h5] at h1;cases h1;cases h2
end Go.W
namespace Go.Proofs.YtnjobkbblhaliaaGreatDoor
open Go Go.W
theorem f_back (w:World) (v:Value):CallsR Tryz.prog 135 [v] w fun r w'=>r = .func (.func 153) #[] #[ptr w.heap.size]∧(∃ T fz,w'.heap[w.heap.size]? = some (.cells v.cells T fz))∧Mod (fun _=>False) w w':=by
 refine fit135.calls rfl ?_;unfold ir135;(try simp only [go_sem,simprocAttr]);refine e_bx rfl ?_;intro w1 hb1 hm1 _;(try simp only [go_sem,simprocAttr]);exact ⟨⟨_,_,hb1⟩,hm1⟩
end Go.Proofs.YtnjobkbblhaliaaGreatDoor
end
namespace Go.Proofs.YtnjobkbblhaliaaGreatDoor
section
open Go Go.W
theorem fr_stack' {w w3:World} {τ:Tag} {i k:Nat} {f f':Fr} {vs vp vs':Value} {fs fp fs':Option Nat} (h:FrIn w τ i k f vs vp fs fp) (ho:OwnS w3 3 1 vs' (f'.stack.map I) f'.stack.length fs') (e:f'.spine=f.spine)
   (hb:w3.heap[k]? = some (.cells (frCells f' vs' vp).toArray 151 (0,0))) (hm:Mod (fun b=>fs=some b∨b=k) w w3) (hf:∀ b,fs'=some b→fs=some b∨w.heap.size≤b):FrOp w τ i k f' w3:=by
 obtain ⟨l1,l2,l3⟩:=h.lt;obtain ⟨a1,a2,a3⟩:=fr_apart h;have ht:=newTag_ext τ w (.fs i);refine ⟨newTag τ w (.fs i),ht,⟨vs',vp,fs',fp,hb,(ht k l1).trans h.tk,ho,is_new h.ts l2 hf,?_,is_ext h.tp ht.wx l3 (by simp)⟩,hm.weak ?_⟩
 · rw [e];refine h.spine.mod hm (fun b hb2 hh=>?_);rcases hh with hh | hh
   · exact a3 b hh hb2
   · exact a2 (hh ▸ hb2)
 · rintro b (hh | rfl)
   · exact .inr (.inl (h.ts b hh))
   · exact .inl h.tk
theorem f_push' {w:World} {k:Nat} {f:Fr} {vs vp:Value} {fs:Option Nat} (hc0:w.heap[k]? = some (.cells (frCells f vs vp).toArray 151 (0,0))) (hst:OwnS w 3 1 vs (f.stack.map I) f.stack.length fs) (hs:f.stack.length≤4294967296) (p:Int) :
   CallsR Tryz.prog 111 [.pointer (some ⟨k,0,none⟩),I p] w fun _ w'=>∃ vs' fs',w'.heap[k]? = some (.cells (frCells (f.push p) vs' vp).toArray 151 (0,0))∧OwnS w' 3 1 vs' ((f.push p).stack.map I) (f.push p).stack.length fs' ∧
     Mod (fun b=>fs=some b∨b=k) w w'∧∀ b,fs'=some b→fs=some b∨w.heap.size≤b:=by
 obtain ⟨a,c,rfl,hc,_⟩:=hst.val;refine fit111.calls rfl ?_;unfold ir111;(try simp only [go_sem,simprocAttr,cell_of hc0,frCells]);refine e_bs (by rfl) (by rfl) ?_;intro w1 hb1 hm1 hs1;(try simp only [go_sem,simprocAttr]);refine e_ap (v:=.slice a f.stack.length c) (news:=[I p]) rfl (hst.mod hm1 (fun _ _ h=>h)) rfl (fun h=>by cases h) (rd_block (xs:=[I p]) hb1) (oneI [p]) rfl (by omega) (by omega) ?_;intro v2 w2 fs2 ho2 hm2 hf2;have hm12:Mod (fun b=>fs=some b) w w2:=(hm1.weak (fun _ h=>h.elim)).step hm2 (fun x hx _=>hx);have hc2:=hm12.at hc0 (fun hh=>own_kind hst hh hc0 (by decide));obtain ⟨va,vc,rfl,_,_⟩:=ho2.val;(try simp only [go_sem,simprocAttr]);refine e_st1 (cs:=frCells f (.slice a f.stack.length c) vp) rfl rfl hc2 rfl (by simp [frCells]) ?_;intro w3 hb3 hm3 hs3;(try simp only [go_sem,simprocAttr]);refine ⟨_,fs2,hb3,?_,(hm12.weak (fun _ h=>.inl h)).step (hm3.weak (fun _ h=>.inr h)) (fun x hx _=>hx),fun b hb=>(hf2 b hb).imp id (fun hh=>by have:=hm1.size;omega)⟩;have:=ho2.mod hm3 (fun b hb hh=>by subst hh;exact own_kind ho2 hb hc2 (by decide))
 simpa [Fr.push] using this
theorem downto_rev (l:List Int):(W.downto l.length l.length).map (fun j=>l.getD j 0)=l.reverse:=by
 refine List.ext_getElem (by simp [W.downto]) ?_;intro i h1 h2;simp only [W.downto,List.length_map,List.length_range,List.map_map] at h1;simp only [W.downto,List.map_map,List.getElem_map,List.getElem_range,Function.comp_apply,List.getElem_reverse];rw [List.getD_eq_getElem?_getD,List.getElem?_eq_getElem (by omega)];rfl
theorem quiet_own_cells {w:World} {T sz n:Nat} {v:Value} {xs:List Value} {fp:Option Nat} (h:OwnS w T sz v xs n fp) {b:Nat} {o:Obj} (hb:fp=some b) (ho:w.heap[b]? = some o):o.isCells=true:=by
 obtain ⟨h3,h4 | ⟨b',c,sp,e,hf,h5,_⟩⟩:=h
 · obtain ⟨_,_,e⟩:=h4;rw [e] at hb;cases hb
 · rw [hf] at hb;cases hb;rw [h5] at ho;cases ho;rfl
structure Pushed (w:World) (k:Nat) (f:Fr) (vp:Value) (fs:Option Nat) (l:List Int) (W:World):Prop where
 ex:∃ v fs',W.heap[k]? = some (.cells (frCells { f with stack:=f.stack++l} v vp).toArray 151 (0,0))∧OwnS W 3 1 v ((f.stack++l).map I) (f.stack++l).length fs'∧∀ b,fs'=some b→fs=some b∨w.heap.size≤b
 mod:Mod (fun b=>fs=some b∨b=k) w W
theorem Pushed.quiet {w:World} {k:Nat} {f:Fr} {vp:Value} {fs:Option Nat} {l:List Int}:Quiet w.heap.size (Pushed w k f vp fs l):=by
 rintro W W' S ⟨⟨v,fs',h1,h2,h3⟩,h4⟩ hm hs;have hs':∀ b,S b→∃ o:Obj,W.heap[b]? = some o∧o.isCells=false:=fun b hb=>(hs b hb).2
 refine ⟨⟨v,fs',quiet_at hm hs' h1,quiet_ownS hm hs' h2,h3⟩,h4.step hm (fun b hb hl=>?_)⟩;have:=(hs b hb).1;omega
theorem Pushed.later {w:World} {k:Nat} {f:Fr} {vp:Value} {fs:Option Nat} {l:List Int} {W W':World} {D:Nat} (h:Pushed w k f vp fs l W) (hD:W.heap[D]? = some (.deferred (some []))) (hl:w.heap.size≤D) (hm:Mod (· = D) W W'):Pushed w k f vp fs l W':=
 Pushed.quiet _ _ _ h hm (fun b hb=>by subst hb;exact ⟨hl,_,hD,rfl⟩)
theorem MOp.after {w w' w'':World} {τ:Tag} {m:Nat} {S:SV} {M':Mc} {ks:List Nat} (h:MOp w τ m S M' ks w') (hm:Mod (fun _=>False) w' w''):MOp w τ m S M' ks w'':=by
 obtain ⟨τ',h1,h2,h3⟩:=h;exact ⟨τ',h1,h2.mod hm (ext_refl _ _).wx (fun _ _ h=>h.elim),h3.step hm (fun _ h _=>h.elim)⟩
theorem back_own {w:World} {v:Value} {l:List Int} {fp:Option Nat} (h:OwnS w 3 1 v (l.map I) l.length fp) {Bs:Nat} (hB:Bs < w.heap.size):∃ b,b < w.heap.size∧(b=Bs∨fp=some b) ∧
   ((v = .slice none 0 0∧l.length=0)∨(b < w.heap.size∧∃ cap,v = .slice (some ⟨b,0,none⟩) l.length cap∧∀ j,j < l.length→w.cell? ⟨b,j,none⟩=some (I (l.getD j 0)))):=by
 rcases Nat.eq_zero_or_pos l.length with h0 | h0
 · obtain ⟨h1,⟨rfl,_,rfl⟩ | ⟨b,c,sp,rfl,rfl,h5,_⟩⟩:=h
   · exact ⟨Bs,hB,.inl rfl,.inl ⟨rfl,h0⟩⟩
   · exact ⟨b,lt_of_heap h5,.inr rfl,.inr ⟨lt_of_heap h5,c,rfl,fun j hj=>by omega⟩⟩
 · obtain ⟨a,c,rfl,_⟩:=h.val;obtain ⟨b,rfl,hf,_⟩:=own_cell h h0;refine ⟨b,h.lt hf,.inr hf,.inr ⟨h.lt hf,c,rfl,fun j hj=>?_⟩⟩;obtain ⟨b',e,_,hc⟩:=own_cell h hj;cases e;rw [hc,List.getElem?_map,List.getElem?_eq_getElem hj,List.getD_eq_getElem?_getD,List.getElem?_eq_getElem hj];rfl
section
variable {w:World} {τ:Tag} {m:Nat} {S:SV} {M:Mc} {ks:List Nat} {k:Nat} {x:Ins}
theorem x_split (h:TopAt w τ m S M ks k) (ho:M.st.Ok) (he:Ends M.st.ns) (hs:M.top.stack.length≤4294967) (hs0:0 < M.top.stack.length) (h0:0≤M.top.place 0∧M.top.place 0 < M.st.ns.length) (ha:0≤x.a∧x.a < M.tab.shapes.length) (hl8:(M.st.nd (M.top.place 0)).args.length≤8) :
   CallsR Tryz.prog 125 [ptr m,ptr k,insV x] w fun _ w'=>MOp w τ m S (if (M.st.nd (M.top.place 0)).kind≠2∨(M.st.nd (M.top.place 0)).num≠x.a∨((M.st.nd (M.top.place 0)).args.length:Int)≠(M.tab.sh x.a).fields then M.fail 5
     else M.setTop { M.top.pop 1 with stack:=(M.top.pop 1).stack++(M.st.nd (M.top.place 0)).args.reverse}) ks w':=by
 obtain ⟨j,hj⟩:∃ j:Nat,x.a=j:=⟨x.a.toNat,by omega⟩;refine fit125.calls rfl ?_;unfold ir125;(try simp only [go_sem,simprocAttr]);refine e_bx rfl ?_;intro w0 hb0 hm0 _;(try simp only [go_sem,simprocAttr]);refine e_bx rfl ?_;intro w1 hb1 hm1 _;have h0':=h.later hm0;have h1:=h0'.later hm1;have hb01:=hm1.at hb0 (fun h=>h);have hr1:=Mod.refl (fun _=>False) w1;(try simp only [go_sem,simprocAttr,cell_of hb01,ptr,Value.cells]);refine e_call (by rfl) ?_;refine (f_place (h1.later hr1).fr (by omega) ⟨by omega,by omega⟩).mono ?_;rintro _ _ ⟨rfl,rfl⟩;have hma2:Mod (fun _=>False) w1 w1.drew:=hr1.drew;(try simp only [go_sem,simprocAttr]);refine e_call (by rfl) ?_;refine (m_over (h1.later hma2).at' ho he h0).mono ?_;rintro _ wc2 ⟨v2,rfl,hv2,hmc2⟩;(try simp only [go_sem,simprocAttr]);refine e_al ?_;intro wd2 hbd2 hmd2 _;(try simp only [go_sem,simprocAttr]);refine e_sta (cs:=[I 0,I 0,.slice none 0 0]) rfl rfl hbd2 rfl rfl (node_one hv2 _ _) ?_;intro w2 hb2 hme2 hse2;(try simp only [go_sem,simprocAttr]);have hsc2:=(hma2.trans hmc2).size;have hm2:Mod (fun _=>False) w1 w2:=(hma2.trans (hmc2.trans hmd2)).step hme2 (fun x hx hl=>by subst hx;omega);have hn2:Mod (fun _=>False) wc2 w2:=hmd2.step hme2 (fun x hx hl=>by subst hx;omega);have h2:=h1.later hm2;have hb12:=hm2.at hb1 (fun h=>h);have hb02:=hm2.at hb01 (fun h=>h);generalize hA:M.st.nd (M.top.place 0)=A at *;obtain ⟨vG,vF,vW,vT,fg,ff,fw,ft,F,hh⟩:=h2.at';have hc2:=hh.cells;obtain ⟨ad,c,hsh,_,hfl⟩:=shape_at hh.tab (i:=j) (by omega);have b1:(0:Int)≤j∧(j:Int) < M.tab.shapes.length:=by omega
 have hfl:w2.cell? ⟨(ad.add (j*2)).block,(ad.add (j*2)).off+1,none⟩=some (I (M.tab.sh j).fields):=hfl;rw [hj] at hb12;obtain ⟨fpA,hvA,hfA⟩:=hv2;obtain ⟨va,vc,rfl,_⟩:=hvA.val;rw [hj];(try simp only [go_sem,simprocAttr,cell_of hb2]);refine wpS_cut (fun ρ w'=>w'=w2.drew∧ρ.get 0=some (ptr m)∧ρ.get 4=some (ptr w.heap.size)∧ρ.get 7=some (ptr wc2.heap.size)∧ρ.get 42=some (.bool (decide (A.kind≠2∨A.num≠j∨(A.args.length:Int)≠(M.tab.sh j).fields)))) ?_ ?_
 · cases hk1:(A.kind != 2)<;>cases hk2:(A.num != j)<;>cases hk3:((A.args.length:Int) != (M.tab.sh j).fields)<;>(try simp only [go_sem,simprocAttr,zb4,zb6,cell_of hb2,cell_of hb12,Value.cells,cell_of hc2,mcCells,hsh,b1,hfl,hk1,hk2,hk3])<;>(simp only [zb1,zb2,zb3,zb4,zb5] at hk1;simp only [zb1,zb2,zb3,zb4,zb5] at hk2;simp only [zb1,zb2,zb3,zb4,zb5] at hk3;simp [hk1,hk2,hk3])
 rintro ρ _ ⟨rfl,r0,r4,r7,r42⟩;(try simp only [go_sem,simprocAttr,r0,r4,r7,r42]);have h2d:TopAt w2.drew (newTag (newTag (newTag τ w .no) w0 .no) w1 .no) m S M ks k:=h2.mod ((Mod.refl (fun _=>False) w2).drew) (ext_refl _ _).wx (fun _ _ h=>h.elim);refine ir_cond rfl (fun hk=>?_) (fun hk=>?_)
 · simp only [zb1,zb2,zb3,zb4,zb5] at hk;rw [if_pos hk];(try simp only [go_sem,simprocAttr]);refine e_call (by rfl) ?_;refine (m_fail h2d.at' 5).mono ?_;rintro _ w4 hop;(try simp only [go_sem,simprocAttr]);exact fin_none (.inr rfl) (fun w' hm=>⟨_,rfl,MOp.boxed hm0 (MOp.boxed hm1 (MOp.boxed hm2.drew (hop.after hm)))⟩)
 · simp only [zb1,zb2,zb3,zb4,zb5] at hk;rw [if_neg hk];have hb02d:w2.drew.heap[w.heap.size]? = _:=hb02;have hb2d:w2.drew.heap[wc2.heap.size]? = _:=hb2;have hs12:=hm1.size;have hs02:=hm0.size;have hsA:∀ b,fpA=some b→w1.heap.size≤b:=hfA;(try simp only [go_sem,simprocAttr,cell_of hb02d,ptr,Value.cells]);refine e_call (by rfl) ?_;refine (f_pop (n:=1) h2d.fr (by omega) ⟨by omega,by omega⟩).mono ?_;intro _ w3 hf3;have hm3:Mod (fun b=>((newTag (newTag (newTag τ w .no) w0 .no) w1 .no) b).frm (M.frames.length - 1)) w2.drew w3:=hf3.choose_spec.2.2;obtain ⟨τ3,j1,j2,h3⟩:=(h2d.frm hf3).top (setTop_top h.pos _).2 h.pos h.hk;have no1:∀ b,w1.heap.size≤b→newTag (newTag (newTag τ w .no) w0 .no) w1 .no b = .no:=fun b hb=>newTag_new hb
   have nof:∀ b i,(newTag (newTag (newTag τ w .no) w0 .no) w1 .no b) = .no→¬ (newTag (newTag (newTag τ w .no) w0 .no) w1 .no b).frm i:=fun b i hb hh=>by rw [hb] at hh;rcases hh with h | h | h<;>cases h
   have no0:newTag (newTag (newTag τ w .no) w0 .no) w1 .no w.heap.size = .no:=by
     rw [newTag_ext _ w1 .no _ (by have:=lt_of_heap hb01;omega),newTag_ext _ w0 .no _ (lt_of_heap hb0)];exact newTag_new (Nat.le_refl _)
   have hb3:=hm3.at hb2d (nof _ _ (no1 _ hsc2));have hb03:=hm3.at hb02d (nof _ _ no0);have hvA2:=(hvA.mod hn2 (fun _ _ h=>h)).mod ((Mod.refl (fun _=>False) w2).drew) (fun _ _ h=>h);have hvA3:=hvA2.mod hm3 (fun b hb=>nof _ _ (no1 _ (hsA b hb)));(try simp only [go_sem,simprocAttr,cell_of hb3]);refine e_call (by rfl) ?_;refine (f_back w3 _).mono ?_;rintro _ w4 ⟨rfl,⟨T4,fz4,hb4⟩,hm4⟩;have h4:=h3.later hm4;obtain ⟨e1,e2⟩:=setTop_top (M:=M) h.pos (M.top.pop 1);obtain ⟨vs,vp,fs,fp,hF⟩:=h4.fr;rw [e1] at hF;have hvA4:=hvA3.mod hm4 (fun _ _ h=>h);obtain ⟨bA,hbA1,hbA2,hbA3⟩:=back_own hvA4 (lt_of_heap hb4);have l1:=hF.lt;have hs34:=hm4.size;have hk4:k < w3.heap.size:=by
     obtain ⟨_,_,_,_,hF3⟩:=h3.fr;exact hF3.lt.1
   have t4:∀ b,b < w3.heap.size→newTag τ3 w3 .no b=τ3 b:=fun b hb=>newTag_ext τ3 w3 .no b hb
   have t3:∀ b,b < w2.drew.heap.size→τ3 b=newTag (newTag (newTag τ w .no) w0 .no) w1 .no b:=fun b hb=>j1 b hb
   have fsB:∀ b,(newTag τ3 w3 .no) b = .no→b≠k∧fs≠some b:=fun b hb=>⟨(fun e=>by subst e;rw [hF.tk] at hb;cases hb),(fun e=>by rw [hF.ts b e] at hb;cases hb)⟩
   have nB:=fsB w3.heap.size (newTag_new (Nat.le_refl _));have nA:bA≠k∧fs≠some bA:=by
     rcases hbA2 with e | e
     · rw [e];exact nB
     · refine fsB bA ?_;have hl:=hvA2.lt e;rw [t4 _ (hvA3.lt e),t3 _ hl];exact no1 _ (hsA _ e)
   have n4:w.heap.size≠k∧fs≠some w.heap.size:=by
     refine fsB _ ?_;rw [t4 _ (lt_of_heap hb03),t3 _ (lt_of_heap hb02d)];exact no0
   have hb04:=hm4.at hb03 (fun h=>h);have hst8:(M.top.pop 1).stack.length≤4294967:=by simp only [Fr.pop,List.length_take];omega
   refine ⟨2,A.args.length,153,#[ptr w3.heap.size],(fun j=>I (A.args.getD j 0)),KeepB w3.heap.size bA,(fun pre W=>Pushed w4 k (M.top.pop 1) vp fs (pre.map (fun j=>A.args.getD j 0)) W),⟨rfl,(fun _ _=>rfl),?_,⟨rfl,rfl⟩,by omega,?_,?_,⟨⟨⟨vs,fs,?_,?_,fun b hb=>.inl hb⟩,Mod.refl _ _⟩,fun s=>Pushed.quiet,?_⟩⟩,?_⟩
   · refine backints_stops Fence.wide 1 trivial rfl (by omega) w3.heap.size bA A.args.length (.slice va A.args.length vc) (fun j=>I (A.args.getD j 0)) w4 (by simpa [Value.cells] using cell_of hb4 (o:=0)) (lt_of_heap hb4) hbA3 (by omega)
   · intro A B C a b;exact ⟨b.1.trans a.1,b.2.trans a.2⟩
   · intro W l o o' hl ho hoc _;have hl1:l≠w3.heap.size:=fun e=>by have:=lt_of_heap hb4;omega
     have hl2:l≠bA:=fun e=>by omega
     exact ⟨World.putObj_heap_other (fun e=>hl1 e.symm),World.putObj_heap_other (fun e=>hl2 e.symm)⟩
   · simpa using hF.cells
   · simpa using hF.stack
   · rintro pre jj W ⟨⟨v,fs',p1,p2,p3⟩,p4⟩ hpl hjl;have nfs':∀ b,b < w4.heap.size→fs≠some b→fs'≠some b:=fun b hb hn e=>by
       rcases p3 b e with h1 | h1
       · exact hn h1
       · omega
     have hb0W:=p4.at hb04 (fun h=>by rcases h with h | h;exact n4.2 h;exact n4.1 h);unfold ir125B1;(try simp only [go_sem,simprocAttr,cell_of hb0W,ptr,Value.cells]);refine e_call (by rfl) ?_;refine (f_push' (f:={ M.top.pop 1 with stack:=(M.top.pop 1).stack++pre.map (fun j=>A.args.getD j 0)}) p1 p2 (by simp only [List.length_append,List.length_map];omega) (A.args.getD jj 0)).mono ?_;rintro _ W2 ⟨v2,fs2,q1,q2,q3,q4⟩;(try simp only [go_sem,simprocAttr]);have sW:=p4.size;refine ⟨keeps_of_mod q3 (fun b hb o ho=>?_),keepB_of_mod q3 (by have:=lt_of_heap hb4;omega) (by omega) (fun hh=>?_) (fun hh=>?_),⟨v2,fs2,?_,?_,fun b hb=>?_⟩,p4.step q3 (fun b hb hl=>?_)⟩
     · rcases hb with hb | rfl
       · cases ho':o.isCells with
         | true=>rfl
         | false=>exact absurd ho (fun e=>by have:=quiet_own_cells p2 hb e;rw [this] at ho';cases ho')
       · rw [p1] at ho;cases ho;rfl
     · rcases hh with hh | hh
       · exact nfs' _ (lt_of_heap hb4) nB.2 hh
       · exact nB.1 hh
     · rcases hh with hh | hh
       · exact nfs' _ hbA1 nA.2 hh
       · exact nA.1 hh
     · simpa [Fr.push] using q1
     · simpa [Fr.push] using q2
     · rcases q4 b hb with h1 | h1
       · exact p3 b h1
       · right;omega
     · rcases hb with hb | hb
       · rcases p3 b hb with h1 | h1
         · exact .inl h1
         · omega
       · exact .inr hb
   · intro D W hD hI hDd;(try simp only [go_sem,simprocAttr]);refine fin_one (.inl rfl) hDd (fun w' hm=>⟨_,rfl,?_⟩);obtain ⟨⟨v,fs',p1,p2,p3⟩,p4⟩:=hI.later hDd hD hm;rw [downto_rev] at p1 p2;have hop:=h4.frm (f':={ M.top.pop 1 with stack:=(M.top.pop 1).stack++A.args.reverse}) (fr_stack' hF p2 rfl p1 p4 p3);rw [setTop_set] at hop;exact MOp.boxed hm0 (MOp.boxed hm1 (MOp.boxed hm2.drew (MOp.cat j1 j2 (MOp.boxed hm4 hop))))
end
end
section
open Go Go.W
structure IsoR (ns ms:List Nd) (R:Nat→Nat→Prop):Prop where
 dom:∀ x y,R x y→x < ns.length∧y < ms.length∧over ns x=x∧over ms y=y
 fn:∀ x y y',R x y→R x y'→y=y'
 inj:∀ x x' y,R x y→R x' y→x=x'
 nd:∀ x y,R x y→(ndAt ns x).kind=(ndAt ms y).kind∧(ndAt ns x).num=(ndAt ms y).num∧(ndAt ns x).args.length=(ndAt ms y).args.length
 kids:∀ x y,R x y→ind ns x=false→∀ (i:Nat) (a b:Int),(ndAt ns x).args[i]? = some a→(ndAt ms y).args[i]? = some b→R (over ns a.toNat) (over ms b.toNat)
def Rooted (ns ms:List Nd) (R:Nat→Nat→Prop) (rs qs:List Int):Prop:=rs.length=qs.length∧∀ (i:Nat) (a b:Int),rs[i]? = some a→qs[i]? = some b→R (over ns a.toNat) (over ms b.toNat)
def Alike (ns:List Nd) (rs:List Int) (ms:List Nd) (qs:List Int):Prop:=∃ R,IsoR ns ms R∧Rooted ns ms R rs qs
theorem ind_eq {ns ms:List Nd} {x y:Nat} (h:(ndAt ns x).kind=(ndAt ms y).kind):ind ns x=ind ms y:=by simp [ind,h]
theorem isoR_trans {ns ms ls:List Nd} {R S:Nat→Nat→Prop} (h:IsoR ns ms R) (k:IsoR ms ls S):IsoR ns ls (fun x z=>∃ y,R x y∧S y z):=by
 refine ⟨?_,?_,?_,?_,?_⟩
 · rintro x z ⟨y,h1,h2⟩;exact ⟨(h.dom _ _ h1).1,(k.dom _ _ h2).2.1,(h.dom _ _ h1).2.2.1,(k.dom _ _ h2).2.2.2⟩
 · rintro x z z' ⟨y,h1,h2⟩ ⟨y',h3,h4⟩;cases h.fn _ _ _ h1 h3;exact k.fn _ _ _ h2 h4
 · rintro x x' z ⟨y,h1,h2⟩ ⟨y',h3,h4⟩;cases k.inj _ _ _ h2 h4;exact h.inj _ _ _ h1 h3
 · rintro x z ⟨y,h1,h2⟩;obtain ⟨a1,a2,a3⟩:=h.nd _ _ h1;obtain ⟨b1,b2,b3⟩:=k.nd _ _ h2;exact ⟨a1.trans b1,a2.trans b2,a3.trans b3⟩
 · rintro x z ⟨y,h1,h2⟩ hi i a c ha hc;have hl:=(h.nd _ _ h1).2.2;have hil:i < (ndAt ms y).args.length:=by rw [← hl];exact (List.getElem?_eq_some_iff.1 ha).1
   refine ⟨_,h.kids _ _ h1 hi i a _ ha (List.getElem?_eq_getElem hil),k.kids _ _ h2 (by rw [← ind_eq (h.nd _ _ h1).1];exact hi) i _ c (List.getElem?_eq_getElem hil) hc⟩
theorem alike_trans {ns ms ls:List Nd} {rs qs ps:List Int} (h:Alike ns rs ms qs) (k:Alike ms qs ls ps):Alike ns rs ls ps:=by
 obtain ⟨R,h1,h2,h3⟩:=h;obtain ⟨S,k1,k2,k3⟩:=k;refine ⟨_,isoR_trans h1 k1,h2.trans k2,fun i a c ha hc=>?_⟩;have hil:i < qs.length:=by rw [← h2];exact (List.getElem?_eq_some_iff.1 ha).1
 exact ⟨_,h3 i a _ ha (List.getElem?_eq_getElem hil),k3 i _ c (List.getElem?_eq_getElem hil) hc⟩
theorem okPl_mem {n:Nat} {l:List Int} (h:okPl n l=true) {a:Int} (ha:a∈l):0≤a∧a < n:=by
 have:=List.all_eq_true.1 h a ha
 simpa using this
theorem okPl_nat {n:Nat} {l:List Int} (h:okPl n l=true) {a:Int} (ha:a∈l):a.toNat < n:=by
 have:=okPl_mem h ha;omega
theorem alike_refl {ns:List Nd} (hw:WF ns) {rs:List Int} (ho:okPl ns.length rs=true):Alike ns rs ns rs:=by
 refine ⟨fun x y=>x=y∧x < ns.length∧over ns x=x,⟨?_,?_,?_,?_,?_⟩,rfl,?_⟩
 · rintro x _ ⟨rfl,h1,h2⟩;exact ⟨h1,h1,h2,h2⟩
 · rintro x _ _ ⟨rfl,_⟩ ⟨rfl,_⟩;rfl
 · rintro _ _ _ ⟨rfl,_⟩ ⟨rfl,_⟩;rfl
 · rintro x _ ⟨rfl,_⟩;exact ⟨rfl,rfl,rfl⟩
 · rintro x _ ⟨rfl,h1,h2⟩ _ i a b ha hb;rw [ha] at hb;cases hb;have:=okPl_nat (wf_at hw h1).2 (List.mem_of_getElem? ha);exact ⟨rfl,ov_lt (wf_nxt_lt hw) this,ov_ov (wf_nxt_lt hw) this⟩
 · intro i a b ha hb;rw [ha] at hb;cases hb;have:=okPl_nat ho (List.mem_of_getElem? ha);exact ⟨rfl,ov_lt (wf_nxt_lt hw) this,ov_ov (wf_nxt_lt hw) this⟩
section
variable {ns:List Nd} {fr:Nat} {roots:List Int}
def nuF (ns:List Nd) (fr:Nat) (O:List Nat) (x:Nat):Nat:=if x < fr then x else fr+O.idxOf x
theorem numF_nu (ns:List Nd) (fr:Nat) (O:List Nat) (p:Int):numF ns fr O p=(nuF ns fr O (over ns p.toNat):Nat):=by
 unfold numF nuF;split<;>rfl
theorem small_old {p:Nat} (hp:p < fr):ndAt (smallNs ns fr roots) p=oldNd ns fr (smallO ns fr roots) p:=by
 unfold ndAt smallNs;rw [List.getD_eq_getElem?_getD,List.getElem?_append_left (by simpa using hp)];simp [hp]
theorem small_new {j:Nat} (hj:j < (smallO ns fr roots).length):ndAt (smallNs ns fr roots) (fr+j)=movedF ns fr (smallO ns fr roots) (smallO ns fr roots)[j]:=by
 unfold ndAt smallNs;rw [List.getD_eq_getElem?_getD,List.getElem?_append_right (by simp)];simp [hj]
def InF (ns:List Nd) (fr:Nat) (O:List Nat) (x:Nat):Prop:=x < ns.length∧over ns x=x∧(x < fr∨x∈O)
theorem nuF_inj {O:List Nat} (hO:∀ x∈O,fr≤x) {x y:Nat} (hx:x < fr∨x∈O) (hy:y < fr∨y∈O) (h:nuF ns fr O x=nuF ns fr O y):x=y:=by
 unfold nuF at h
 split at h<;>split at h
 · exact h
 · omega
 · omega
 · rename_i h1 h2;have h3:=hx.resolve_left h1;have h4:=hy.resolve_left h2;have h5:O.idxOf x=O.idxOf y:=by omega
   have e1:=List.getElem_idxOf (List.idxOf_lt_length_iff.2 h3);have e2:=List.getElem_idxOf (List.idxOf_lt_length_iff.2 h4);simp only [h5] at e1;rw [← e1,e2]
theorem small_nd (hw:WF ns) (hfr:fr≤ns.length) (ho:okPl ns.length roots=true) {x:Nat} (hx:InF ns fr (smallO ns fr roots) x) :
   nuF ns fr (smallO ns fr roots) x < (smallNs ns fr roots).length∧(ndAt (smallNs ns fr roots) (nuF ns fr (smallO ns fr roots) x)).kind=(ndAt ns x).kind∧(ndAt (smallNs ns fr roots) (nuF ns fr (smallO ns fr roots) x)).num=(ndAt ns x).num ∧
     (ind ns x=true→(ndAt (smallNs ns fr roots) (nuF ns fr (smallO ns fr roots) x)).args=[(nuF ns fr (smallO ns fr roots) x:Int)]) ∧
     (ind ns x=false→(ndAt (smallNs ns fr roots) (nuF ns fr (smallO ns fr roots) x)).args=if x < fr then oldArgs ns fr (smallO ns fr roots) x else (ndAt ns x).args.map (numF ns fr (smallO ns fr roots))):=by
 obtain ⟨h1,h2,h3⟩:=hx;rw [small_length];by_cases hlt:x < fr
 · have e:nuF ns fr (smallO ns fr roots) x=x:=by simp [nuF,hlt]
   rw [e,small_old hlt];refine ⟨by omega,rfl,rfl,fun hi=>by simp [oldNd,hi,h2],fun hi=>by simp [oldNd,hi,hlt]⟩
 · have hm:=h3.resolve_left hlt;have hj:=List.idxOf_lt_length_iff.2 hm;have e:nuF ns fr (smallO ns fr roots) x=fr+(smallO ns fr roots).idxOf x:=by simp [nuF,hlt]
   have ex:=List.getElem_idxOf hj;rw [e,small_new hj,ex];refine ⟨by omega,rfl,rfl,fun hi=>?_,fun hi=>by simp [movedF,hlt]⟩;obtain ⟨q,hq,ha,hn⟩:=wf_ind hw h1 hi;have eo:over ns q=x:=by rw [← hn];exact (ov_f (wf_nxt_lt hw) h1).trans h2
   simp only [movedF,ha,List.map_cons,List.map_nil,numF_nu,Int.toNat_natCast,eo,e]
theorem small_over (hw:WF ns) (hfr:fr≤ns.length) (ho:okPl ns.length roots=true) {x:Nat} (hx:InF ns fr (smallO ns fr roots) x) :
   over (smallNs ns fr roots) (nuF ns fr (smallO ns fr roots) x)=nuF ns fr (smallO ns fr roots) x:=by
 obtain ⟨h1,h2,h3,h4,h5⟩:=small_nd hw hfr ho hx;refine ov_fix ?_;cases hi:ind ns x with
 | false=>exact nxt_fix (by rw [ind,h2];exact hi)
 | true=>
   have:ind (smallNs ns fr roots) (nuF ns fr (smallO ns fr roots) x)=true:=by rw [ind,h2];exact hi
   simp [nxt,this,h4 hi]
theorem small_chain (hw:WF ns) (hfr:fr≤ns.length) (ho:okPl ns.length roots=true):∀ k q,q < fr→fit (nxt ns) k q=over ns q →
   InF ns fr (smallO ns fr roots) (over ns q)∧over (smallNs ns fr roots) q=nuF ns fr (smallO ns fr roots) (over ns q):=by
 obtain ⟨m1,m2,m3,m4⟩:=small_met hw hfr ho;have hf:=wf_nxt_lt hw;have fixd:∀ q,q < fr→over ns q=q→InF ns fr (smallO ns fr roots) (over ns q)∧over (smallNs ns fr roots) q=nuF ns fr (smallO ns fr roots) (over ns q):=by
   intro q hq he;have hin:InF ns fr (smallO ns fr roots) q:=⟨by omega,he,.inl hq⟩;have h1:=small_over hw hfr ho hin;have e:nuF ns fr (smallO ns fr roots) q=q:=by simp [nuF,hq]
   rw [e] at h1;rw [he,e];exact ⟨hin,h1⟩
 intro k
 induction k with
 | zero=>intro q hq he;exact fixd q hq he.symm
 | succ k ih=>
   intro q hq he;have hql:q < ns.length:=by omega
   by_cases hfix:over ns q=q
   · exact fixd q hq hfix
   · cases hi:ind ns q with
     | false=>exact absurd (ov_fix (nxt_fix hi)) hfix
     | true=>
       obtain ⟨a,ha,hargs,hn⟩:=wf_ind hw hql hi;have eo:over ns a=over ns q:=by rw [← hn];exact ov_f hf hql
       have hso:=small_old (ns:=ns) (roots:=roots) hq;have hnot:¬ (ind ns q=true∧over ns q=q):=fun h=>hfix h.2
       have hkq:ind (smallNs ns fr roots) q=true:=by rw [ind,hso];exact hi
       have hqs:q < (smallNs ns fr roots).length:=by rw [small_length];omega
       have hov:=ov_f (wf_nxt_lt (small_wf hw hfr ho)) hqs;have hargs':(ndAt (smallNs ns fr roots) q).args=oldArgs ns fr (smallO ns fr roots) q:=by rw [hso,oldNd,if_neg hnot]
       have hN:nxt (smallNs ns fr roots) q=((oldArgs ns fr (smallO ns fr roots) q).getD 0 0).toNat:=by simp [nxt,hkq,hargs']
       by_cases hy:isY fr a=true
       · have hmem:=m4 q hq a (by rw [hargs];simp) hy;rw [Int.toNat_natCast] at hmem;have hin:InF ns fr (smallO ns fr roots) (over ns a):=⟨ov_lt hf ha,ov_ov hf ha,hmem⟩;have e2:nxt (smallNs ns fr roots) q=nuF ns fr (smallO ns fr roots) (over ns a):=by
           rw [hN];simp [oldArgs,hargs,hy,numF_nu]
         rw [e2] at hov;rw [← eo];refine ⟨hin,?_⟩;have:=small_over hw hfr ho hin;unfold over at this ⊢;rw [← hov];exact this
       · have halt:a < fr:=by simp [isY] at hy;omega
         have e2:nxt (smallNs ns fr roots) q=a:=by
           rw [hN];simp [oldArgs,hargs,hy]
         rw [e2] at hov;have hfit:fit (nxt ns) k a=over ns a:=by
           rw [eo,← he,← hn];rfl
         have:=ih a halt hfit;rw [eo] at this;refine ⟨this.1,?_⟩;rw [← this.2];exact hov.symm
theorem small_chain' (hw:WF ns) (hfr:fr≤ns.length) (ho:okPl ns.length roots=true) {q:Nat} (hq:q < fr) :
   InF ns fr (smallO ns fr roots) (over ns q)∧over (smallNs ns fr roots) q=nuF ns fr (smallO ns fr roots) (over ns q):=by
 obtain ⟨k,_,hk⟩:=ov_mem (nxt ns) ns.length q;exact small_chain hw hfr ho (k+ns.length) q hq hk.symm
theorem alike_small (hw:WF ns) (hfr:fr≤ns.length) (ho:okPl ns.length roots=true):Alike ns roots (smallNs ns fr roots) (smallRoots ns fr roots):=by
 obtain ⟨m1,m2,m3,m4⟩:=small_met hw hfr ho;have hf:=wf_nxt_lt hw;have met:∀ a:Int,a.toNat < ns.length→(over ns a.toNat < fr∨over ns a.toNat∈smallO ns fr roots)→InF ns fr (smallO ns fr roots) (over ns a.toNat)∧over (smallNs ns fr roots) (numF ns fr (smallO ns fr roots) a).toNat=nuF ns fr (smallO ns fr roots) (over ns a.toNat):=by
   intro a ha hm;have hin:InF ns fr (smallO ns fr roots) (over ns a.toNat):=⟨ov_lt hf ha,ov_ov hf ha,hm⟩;refine ⟨hin,?_⟩;rw [numF_nu,Int.toNat_natCast];exact small_over hw hfr ho hin
 refine ⟨fun x y=>InF ns fr (smallO ns fr roots) x∧y=nuF ns fr (smallO ns fr roots) x,⟨?_,?_,?_,?_,?_⟩,by simp [smallRoots],?_⟩
 · rintro x _ ⟨h1,rfl⟩;exact ⟨h1.1,(small_nd hw hfr ho h1).1,h1.2.1,small_over hw hfr ho h1⟩
 · rintro x _ _ ⟨_,rfl⟩ ⟨_,rfl⟩;rfl
 · rintro x x' _ ⟨h1,rfl⟩ ⟨h2,h3⟩;exact nuF_inj (ns:=ns) (fun z hz=>(m1.2 z hz).2.2) h1.2.2 h2.2.2 h3
 · rintro x _ ⟨h1,rfl⟩;obtain ⟨h2,h3,h4,h5,h6⟩:=small_nd hw hfr ho h1;refine ⟨h3.symm,h4.symm,?_⟩;cases hi:ind ns x with
   | true=>
     obtain ⟨q,_,hq,_⟩:=wf_ind hw h1.1 hi;rw [h5 hi,hq];rfl
   | false=>
     rw [h6 hi]
     split<;>simp [oldArgs]
 · rintro x _ ⟨h1,rfl⟩ hi i a b ha hb;obtain ⟨h2,h3,h4,h5,h6⟩:=small_nd hw hfr ho h1;rw [h6 hi] at hb;have hmem:=List.mem_of_getElem? ha;have hal:=okPl_nat (wf_at hw h1.1).2 hmem;have hap:=okPl_mem (wf_at hw h1.1).2 hmem
   split at hb
   · rename_i hlt;simp only [oldArgs,List.getElem?_map,ha,Option.map_some,Option.some.injEq] at hb;subst hb
     split
     · rename_i hy;exact met a hal (m4 x hlt a hmem hy)
     · rename_i hy;have halt:a.toNat < fr:=by simp [isY] at hy;omega
       exact small_chain' hw hfr ho halt
   · rename_i hlt;simp only [List.getElem?_map,ha,Option.map_some,Option.some.injEq] at hb;subst hb;exact met a hal (m2 x (h1.2.2.resolve_left hlt) a hmem)
 · intro i a b ha hb;simp only [smallRoots,List.getElem?_map,ha,Option.map_some,Option.some.injEq] at hb;subst hb;have hmem:=List.mem_of_getElem? ha;exact met a (okPl_nat ho hmem) (m3 a hmem)
end
section
variable {ns ms:List Nd} {R:Nat→Nat→Prop}
def Sim (R:Nat→Nat→Prop) (out out':List Nat):Prop:=out.length=out'.length∧∀ (i x y:Nat),out[i]? = some x→out'[i]? = some y→R x y
theorem sim_mem (h:IsoR ns ms R) {out out':List Nat} (hs:Sim R out out') {x y:Nat} (hxy:R x y):x∈out↔y∈out':=by
 constructor
 · intro hx;obtain ⟨i,hi,rfl⟩:=List.getElem_of_mem hx;have hi':i < out'.length:=by rw [← hs.1];exact hi
   have:=hs.2 i _ _ (List.getElem?_eq_getElem hi) (List.getElem?_eq_getElem hi');rw [h.fn _ _ _ hxy this];exact List.getElem_mem hi'
 · intro hy;obtain ⟨i,hi',rfl⟩:=List.getElem_of_mem hy;have hi:i < out.length:=by rw [hs.1];exact hi'
   have:=hs.2 i _ _ (List.getElem?_eq_getElem hi) (List.getElem?_eq_getElem hi');rw [h.inj _ _ _ hxy this];exact List.getElem_mem hi
theorem sim_meet0 (h:IsoR ns ms R) {out out':List Nat} (hs:Sim R out out') {p q:Nat} (hpq:R (over ns p) (over ms q)):Sim R (meetF ns 0 out p) (meetF ms 0 out' q):=by
 unfold meetF;have:=sim_mem h hs hpq;by_cases hm:over ns p∈out
 · rw [if_pos (.inr hm),if_pos (.inr (this.1 hm))];exact hs
 · rw [if_neg (by simp [hm]),if_neg (by have hm':over ms q∉out':=fun hh=>hm (this.2 hh);simp [hm'])];refine ⟨by simp [hs.1],fun i x y hx hy=>?_⟩;rcases Nat.lt_or_ge i out.length with hi | hi
   · rw [List.getElem?_append_left hi] at hx;rw [List.getElem?_append_left (by rw [← hs.1];exact hi)] at hy;exact hs.2 i x y hx hy
   · have hl:=(List.getElem?_eq_some_iff.1 hx).1;simp at hl;obtain rfl:i=out.length:=by omega
     simp at hx;rw [hs.1] at hy;simp at hy;rw [← hx,← hy];exact hpq
theorem sim_meets0 (h:IsoR ns ms R):∀ (l k:List Int) {out out':List Nat},Sim R out out'→l.length=k.length→(∀ (i:Nat) (a b:Int),l[i]? = some a→k[i]? = some b→R (over ns a.toNat) (over ms b.toNat))→Sim R (meetsF ns 0 out l) (meetsF ms 0 out' k):=by
 intro l
 induction l with
 | nil=>
   intro k out out' hs hl _;cases k with
   | nil=>exact hs
   | cons=>simp at hl
 | cons a l ih=>
   intro k out out' hs hl hr;cases k with
   | nil=>simp at hl
   | cons b k=>
     rw [meetsF_cons,meetsF_cons];exact ih k (sim_meet0 h hs (hr 0 a b rfl rfl)) (by simpa using hl) (fun i a' b' ha hb=>hr (i+1) a' b' (by simpa using ha) (by simpa using hb))
theorem ring_meet (hw:WF ns) {out:List Nat} {x:Nat} (hx:x < ns.length) (ho:over ns x=x) (hi:ind ns x=true) (hm:x∈out):meetsF ns 0 out (ndAt ns x).args=out:=by
 obtain ⟨q,hq,ha,hn⟩:=wf_ind hw hx hi;have eo:over ns q=x:=by rw [← hn];exact (ov_f (wf_nxt_lt hw) hx).trans ho
 rw [ha,meetsF_cons];unfold meetF;rw [Int.toNat_natCast,eo,if_pos (.inr hm)];rfl
theorem sim_reach0 (hw:WF ns) (hw':WF ms) (h:IsoR ns ms R):∀ (f i:Nat) (out out':List Nat),Sim R out out'→Sim R (reachF ns 0 f i out) (reachF ms 0 f i out'):=by
 intro f
 induction f with
 | zero=>intro i out out' hs;exact hs
 | succ f ih=>
   intro i out out' hs;rcases Nat.lt_or_ge i out.length with hi | hi
   · have hi':i < out'.length:=by rw [← hs.1];exact hi
     rw [reachF_step ns 0 f i out hi,reachF_step ms 0 f i out' hi'];refine ih _ _ _ ?_;have hr:=hs.2 i _ _ (List.getElem?_eq_getElem hi) (List.getElem?_eq_getElem hi');obtain ⟨d1,d2,d3,d4⟩:=h.dom _ _ hr;cases hind:ind ns out[i] with
     | true=>
       rw [ring_meet hw d1 d3 hind (List.getElem_mem hi),ring_meet hw' d2 d4 (by rw [← ind_eq (h.nd _ _ hr).1];exact hind) (List.getElem_mem hi')];exact hs
     | false=>exact sim_meets0 h _ _ hs (h.nd _ _ hr).2.2 (fun j a b ha hb=>h.kids _ _ hr hind j a b ha hb)
   · rw [reachF_end ns 0 _ _ _ hi,reachF_end ms 0 _ _ _ (by rw [← hs.1];exact hi)];exact hs
theorem reach_more (hw:WF ns):∀ (f g i:Nat) (out:List Nat),MetF ns 0 out→ns.length+1≤f+i→ns.length+1≤g+i→reachF ns 0 f i out=reachF ns 0 g i out:=by
 intro f
 induction f with
 | zero=>
   intro g i out hm hf hg;have:=metF_len hm;rw [reachF_end ns 0 0 i out (by omega),reachF_end ns 0 g i out (by omega)]
 | succ f ih=>
   intro g i out hm hf hg;rcases Nat.lt_or_ge i out.length with hi | hi
   · cases g with
     | zero=>have:=metF_len hm;omega
     | succ g=>
       rw [reachF_step ns 0 f i out hi,reachF_step ns 0 g i out hi];exact ih g _ _ (metF_meets hw _ hm (wf_at hw (hm.2 _ (List.getElem_mem hi)).1).2) (by omega) (by omega)
   · rw [reachF_end ns 0 _ _ _ hi,reachF_end ns 0 _ _ _ hi]
theorem smallO_zero (ns:List Nd) (roots:List Int):smallO ns 0 roots=reachF ns 0 (ns.length+1) 0 (meetsF ns 0 [] roots):=rfl
theorem alike_count (hw:WF ns) (hw':WF ms) {rs qs:List Int} (ho:okPl ns.length rs=true) (ho':okPl ms.length qs=true) (h:Alike ns rs ms qs):(smallO ns 0 rs).length=(smallO ms 0 qs).length:=by
 obtain ⟨R,h1,h2⟩:=h;have s0:Sim R (meetsF ns 0 [] rs) (meetsF ms 0 [] qs):=sim_meets0 h1 rs qs ⟨rfl,fun i x y hx=>by simp at hx⟩ h2.1 h2.2;have e1:=reach_more hw (ns.length+1) (ns.length+ms.length+1) 0 _ (metF_meets hw rs (metF_nil ns 0) ho) (by omega) (by omega);have e2:=reach_more hw' (ms.length+1) (ns.length+ms.length+1) 0 _ (metF_meets hw' qs (metF_nil ms 0) ho') (by omega) (by omega);rw [smallO_zero,smallO_zero,e1,e2];exact (sim_reach0 hw hw' h1 _ _ _ _ s0).1
end
theorem meetF_zero (ns:List Nd) (out:List Nat) (p:Nat):meetF ns 0 out p=meet ns out p:=by simp [meetF,meet]
theorem meetsF_zero (ns:List Nd):∀ (l:List Int) (out:List Nat),meetsF ns 0 out l=meets ns out l:=by
 intro l
 induction l with
 | nil=>intro out;rfl
 | cons a l ih=>intro out;rw [meetsF_cons,meetF_zero,ih];rfl
theorem reachF_zero (ns:List Nd):∀ f i out,reachF ns 0 f i out=reach ns f i out:=by
 intro f
 induction f with
 | zero=>intro i out;rfl
 | succ f ih=>
   intro i out;unfold reachF reach;cases out[i]? with
   | some x=>simp only [ih,meetsF_zero]
   | none=>rfl
theorem small_reached (ns:List Nd) (roots:List Int):smallO ns 0 roots=reached ns roots:=by rw [smallO_zero,reachF_zero,meetsF_zero];rfl
theorem numF_zero (ns:List Nd) (O:List Nat):numF ns 0 O=num ns O:=by funext p;simp [numF,num]
theorem col_small (ns:List Nd) (roots:List Int):colNs ns roots=smallNs ns 0 roots∧colRoots ns roots=smallRoots ns 0 roots:=by
 unfold colNs smallNs colRoots smallRoots;rw [small_reached,numF_zero];refine ⟨?_,rfl⟩;simp only [List.range_zero,List.map_nil,List.nil_append];refine List.map_congr_left (fun x _=>?_);simp [moveNd,movedF,numF_zero]
end
section
open Go Go.W
theorem fit_same {f g:Nat→Nat} {n:Nat} (hf:∀ x,x < n→f x < n) (h:∀ x,x < n→g x=f x):∀ k x,x < n→fit g k x=fit f k x:=by
 intro k
 induction k with
 | zero=>intro x _;rfl
 | succ k ih=>intro x hx;show fit g k (g x)=fit f k (f x);rw [h x hx,ih _ (hf x hx)]
theorem ov_bound {f g:Nat→Nat} {n m:Nat} (hf:∀ x,x < n→f x < n) (hg:∀ x,x < m→g x < m) (hnm:n≤m) (h:∀ x,x < n→g x=f x) {x:Nat} (hx:x < n):ov g m x=ov f n x:=by
 have e:=fun k=>fit_same hf h k x hx
 apply Nat.le_antisymm
 · obtain ⟨d,h1,h2,h3⟩:=onRing hf hx n (Nat.le_refl _);obtain ⟨k,_,hk⟩:=ov_mem f n x;obtain ⟨d',q1,q2,q3⟩:=onRing hf hx (k+n) (by omega);have:∀ j,fit f (k+n+j*d') x=fit f (k+n) x:=by
     intro j
     induction j with
     | zero=>simp
     | succ j ih=>
       rw [show k+n+(j+1)*d'=d'+(k+n+j*d') by rw [Nat.succ_mul];omega,fit_add,ih];exact q3
   rw [hk,← this m,← e];refine ov_le' hg (by omega) _ ?_;have:m*1≤m*d':=Nat.mul_le_mul_left _ q1;omega
 · obtain ⟨k,_,hk⟩:=ov_mem g m x;rw [hk,e];exact ov_le' hf hx _ (by omega)
theorem ndAt_app {ns:List Nd} {nd:Nd} {p:Nat} (hp:p < ns.length):ndAt (ns++[nd]) p=ndAt ns p:=by
 unfold ndAt;rw [List.getD_eq_getElem?_getD,List.getD_eq_getElem?_getD,List.getElem?_append_left hp]
theorem ndAt_last (ns:List Nd) (nd:Nd):ndAt (ns++[nd]) ns.length=nd:=by
 unfold ndAt;rw [List.getD_eq_getElem?_getD];simp
theorem nxt_app {ns:List Nd} {nd:Nd} {p:Nat} (hp:p < ns.length):nxt (ns++[nd]) p=nxt ns p∧ind (ns++[nd]) p=ind ns p:=by
 unfold nxt ind;rw [ndAt_app hp];exact ⟨rfl,rfl⟩
theorem wf_app {ns:List Nd} (hw:WF ns) {nd:Nd} (hm:nd.may=true) (ho:okPl ns.length nd.args=true):WF (ns++[nd]):=by
 have le:∀ {l:List Int},okPl ns.length l=true→okPl (ns++[nd]).length l=true:=by
   intro l h;rw [okPl,List.all_eq_true] at h ⊢;intro x hx;have:=h x hx;simp only [Bool.and_eq_true,decide_eq_true_eq,List.length_append,List.length_cons,List.length_nil] at this ⊢;omega
 intro x hx;rcases List.mem_append.1 hx with hx | hx
 · exact ⟨(hw x hx).1,le (hw x hx).2⟩
 · simp only [List.mem_cons,List.not_mem_nil,or_false] at hx;subst hx;exact ⟨hm,le ho⟩
theorem over_app {ns:List Nd} (hw:WF ns) {nd:Nd} (hm:nd.may=true) (ho:okPl ns.length nd.args=true) {p:Nat} (hp:p < ns.length):over (ns++[nd]) p=over ns p:=
 ov_bound (wf_nxt_lt hw) (wf_nxt_lt (wf_app hw hm ho)) (by simp) (fun x hx=>(nxt_app hx).1) hp
theorem over_last {ns:List Nd} (hw:WF ns) {nd:Nd} (hm:nd.may=true) (ho:okPl ns.length nd.args=true):(nd.kind=5→∃ a,nd.args=[a]∧a.toNat < ns.length∧over (ns++[nd]) ns.length=over ns a.toNat)∧(nd.kind≠5→over (ns++[nd]) ns.length=ns.length):=by
 have hw':=wf_app hw hm ho;have hl:ns.length < (ns++[nd]).length:=by simp
 refine ⟨fun hk=>?_,fun hk=>?_⟩
 · have hi:ind (ns++[nd]) ns.length=true:=by simp [ind,ndAt_last,hk]
   obtain ⟨q,h1,h2,h3⟩:=wf_ind hw' hl hi;rw [ndAt_last] at h2;have hq:(q:Int).toNat < ns.length:=okPl_nat ho (by rw [h2];simp);refine ⟨q,h2,hq,?_⟩;have:=ov_f (wf_nxt_lt hw') hl;rw [h3] at this;rw [Int.toNat_natCast] at hq ⊢;rw [← over_app hw hm ho hq];exact this.symm
 · have hi:ind (ns++[nd]) ns.length=false:=by simp [ind,ndAt_last,hk]
   exact ov_fix (nxt_fix hi)
theorem nxt_set {ns:List Nd} {p:Nat} {nd:Nd} (hp:p < ns.length) {x:Nat} (hx:x≠p):nxt (ns.set p nd) x=nxt ns x∧ind (ns.set p nd) x=ind ns x:=by
 unfold nxt ind;rw [ndAt_set' _ _ _ _ hp,if_neg hx];exact ⟨rfl,rfl⟩
theorem over_set_plain {ns:List Nd} {p:Nat} {nd:Nd} (hp:p < ns.length) (hi:ind ns p=false) (hk:nd.kind≠5) (x:Nat):over (ns.set p nd) x=over ns x:=by
 have:nxt (ns.set p nd)=nxt ns:=by
   funext y
   by_cases hy:y=p
   · subst hy;rw [nxt_fix hi];exact nxt_fix (by rw [ind,ndAt_set' _ _ _ _ hp,if_pos rfl];simp [hk])
   · exact (nxt_set hp hy).1
 unfold over;rw [this,List.length_set]
end
section
open Go Go.W
def NdOk (T:Tab) (nd:Nd):Prop:=(nd.kind=4→nd.num < T.globals.length)∧(nd.kind=2→nd.num < T.shapes.length)
structure GOk (T:Tab) (s:St):Prop where
 st:s.Ok
 ends:Ends s.ns
 nds:∀ nd∈s.ns,NdOk T nd
def St.In (s:St) (a:Int):Prop:=0≤a∧a < s.ns.length
section
variable {T:Tab} {s:St}
theorem GOk.at (h:GOk T s) {p:Nat} (hp:p < s.ns.length):(ndAt s.ns p).may=true∧(∀ a∈(ndAt s.ns p).args,s.In a)∧NdOk T (ndAt s.ns p):=by
 refine ⟨(wf_at h.st.wf hp).1,fun a ha=>okPl_mem (wf_at h.st.wf hp).2 ha,h.nds _ ?_⟩;unfold ndAt;rw [List.getD_eq_getElem?_getD,List.getElem?_eq_getElem hp];exact List.getElem_mem hp
theorem GOk.ov (h:GOk T s) {a:Int} (ha:s.In a):s.ov a < s.ns.length:=stov_lt h.st ha
theorem GOk.ovIn (h:GOk T s) {a:Int} (ha:s.In a):s.In (s.ov a:Int):=⟨by omega,by have:=h.ov ha;omega⟩
theorem GOk.ovov (h:GOk T s) {a:Int} (ha:s.In a):over s.ns (s.ov a)=s.ov a:=ov_ov (wf_nxt_lt h.st.wf) (by have:=ha.1;have:=ha.2;omega)
theorem GOk.nd (h:GOk T s) {a:Int} (ha:s.In a):(s.nd a).may=true∧(∀ b∈(s.nd a).args,s.In b)∧NdOk T (s.nd a):=h.at (h.ov ha)
theorem GOk.stop (h:GOk T s) {a:Int} (ha:s.In a):nxt s.ns (s.ov a)=s.ov a:=h.ends _ (by have:=ha.1;have:=ha.2;omega)
theorem may_kind {nd:Nd} (h:nd.may=true):(nd.kind=1→nd.args=[] ∧ -4611686018427387904≤nd.num∧nd.num≤4611686018427387903)∧(nd.kind=2→nd.args.length≤8∧0≤nd.num)∧(nd.kind=3→nd.args.length=2)∧(nd.kind=4→nd.args=[]∧0≤nd.num)∧(nd.kind=8→nd.args=[]∧0≤nd.num)∧1≤nd.kind∧nd.kind≤8:=by
 simp only [Nd.may,mayB,decide_eq_true_eq] at h;have e:∀ l:List Int,l.length=0→l=[]:=fun l hl=>List.eq_nil_of_length_eq_zero hl
 refine ⟨fun hk=>⟨e _ (by omega),by omega,by omega⟩,fun hk=>⟨by omega,by omega⟩,fun hk=>by omega,fun hk=>⟨e _ (by omega),by omega⟩,fun hk=>⟨e _ (by omega),by omega⟩,by omega,by omega⟩
theorem In.add {a:Int} (h:s.In a) (nd:Nd):(s.add nd).In a:=⟨h.1,by have:=h.2;simp only [St.add,List.length_append,List.length_cons,List.length_nil];omega⟩
theorem In.new (s:St) (nd:Nd):(s.add nd).In s.ns.length:=⟨by omega,by simp only [St.add,List.length_append,List.length_cons,List.length_nil];omega⟩
theorem okPl_of {n:Nat} {l:List Int} (h:∀ a∈l,0≤a∧a < n):okPl n l=true:=by
 rw [okPl,List.all_eq_true];intro a ha;have:=h a ha;simp [this.1,this.2]
theorem GOk.add (h:GOk T s) {nd:Nd} (hm:nd.may=true) (hk:nd.kind≠5) (ha:∀ a∈nd.args,s.In a) (hn:NdOk T nd) (hr:(s.ns.length:Int) < s.size):GOk T (s.add nd):=by
 have hpl:=okPl_of ha;have hw:=h.st.wf;refine ⟨⟨wf_app hw hm hpl,?_,h.st.lo,h.st.hi,?_⟩,?_,?_⟩
 · simp only [St.add,List.length_append,List.length_cons,List.length_nil];omega
 · have:=h.st.kd;show s.kd.ok (s.ns++[nd]).length;unfold Kd.ok at this ⊢
   split
   · rename_i y o t e;rw [e] at this;simp only [List.length_append,List.length_cons,List.length_nil];exact ⟨by omega,this.2⟩
   · trivial
 · intro p hp;simp only [St.add,List.length_append,List.length_cons,List.length_nil] at hp ⊢;by_cases hpl':p < s.ns.length
   · rw [over_app hw hm hpl hpl',(nxt_app (p:=over s.ns p) (ov_lt (wf_nxt_lt hw) hpl')).1];exact h.ends p hpl'
   · obtain rfl:p=s.ns.length:=by omega
     rw [(over_last hw hm hpl).2 hk];refine nxt_fix ?_;rw [ind,ndAt_last];simp [hk]
 · intro x hx;rcases List.mem_append.1 hx with hx | hx
   · exact h.nds x hx
   · obtain rfl:=List.mem_singleton.1 hx;exact hn
theorem In.set {a:Int} (h:s.In a) (p:Nat) (nd:Nd):(s.set p nd).In a:=⟨h.1,by have:=h.2;simp only [St.set,List.length_set];omega⟩
theorem set_ok' (h:GOk T s) {p:Nat} {nd:Nd} (hm:nd.may=true) (ha:∀ a∈nd.args,s.In a):(s.set p nd).Ok:=by
 refine ⟨?_,?_,h.st.lo,h.st.hi,?_⟩
 · intro x hx;have e:(s.set p nd).ns.length=s.ns.length:=by simp [St.set]
   rw [e];rcases List.mem_or_eq_of_mem_set hx with hx | rfl
   · exact h.st.wf x hx
   · exact ⟨hm,okPl_of ha⟩
 · simp only [St.set,List.length_set];exact h.st.len
 · have:=h.st.kd;show s.kd.ok (s.ns.set p nd).length;rw [List.length_set];exact this
theorem nds_set (h:GOk T s) {p:Nat} {nd:Nd} (hn:NdOk T nd):∀ x∈(s.set p nd).ns,NdOk T x:=by
 intro x hx;rcases List.mem_or_eq_of_mem_set hx with hx | rfl
 · exact h.nds x hx
 · exact hn
theorem GOk.set (h:GOk T s) {p:Nat} {nd:Nd} (hp:p < s.ns.length) (hi:(ndAt s.ns p).kind≠5) (hm:nd.may=true) (hk:nd.kind≠5) (ha:∀ a∈nd.args,s.In a) (hn:NdOk T nd):GOk T (s.set p nd):=by
 have hi':ind s.ns p=false:=by simp [ind,hi]
 refine ⟨set_ok' h hm ha,?_,nds_set h hn⟩;intro q hq;simp only [St.set,List.length_set] at hq ⊢;rw [over_set_plain hp hi' hk];by_cases hqp:over s.ns q=p
 · rw [hqp];exact nxt_fix (by rw [ind,ndAt_set' _ _ _ _ hp,if_pos rfl];simp [hk])
 · rw [(nxt_set hp hqp).1];exact h.ends q hq
theorem over_upd {ns:List Nd} (hw:WF ns) (he:Ends ns) {p t:Nat} (hp:p < ns.length) (ht:t < ns.length) (hpp:over ns p=p) (htt:over ns t=t) :
   ∀ x,x < ns.length→over (ns.set p ⟨5,0,[(t:Int)]⟩) x=if over ns x=p then t else over ns x:=by
 have hf:=wf_nxt_lt hw;have gp:nxt (ns.set p ⟨5,0,[(t:Int)]⟩) p=t:=by simp [nxt,ind,ndAt_set' _ _ _ _ hp]
 have go:∀ x,x≠p→nxt (ns.set p ⟨5,0,[(t:Int)]⟩) x=nxt ns x:=fun x hx=>(nxt_set hp hx).1
 have fp:nxt ns p=p:=by have:=he p hp;rwa [hpp] at this
 have ft:nxt ns t=t:=by have:=he t ht;rwa [htt] at this
 have gt:nxt (ns.set p ⟨5,0,[(t:Int)]⟩) t=t:=by
   by_cases h:t=p
   · exact h ▸ gp
   · rw [go t h,ft]
 have hg:∀ x,x < ns.length→nxt (ns.set p ⟨5,0,[(t:Int)]⟩) x < ns.length:=by
   intro x hx;by_cases h:x=p
   · rw [h,gp];exact ht
   · rw [go x h];exact hf x hx
 intro x hx;have way:∀ k x,x < ns.length→fit (nxt ns) k x=over ns x→∃ j,fit (nxt (ns.set p ⟨5,0,[(t:Int)]⟩)) j x=if over ns x=p then t else over ns x:=by
   intro k
   induction k with
   | zero=>
     intro x _ hk;have hk:x=over ns x:=hk;by_cases h:over ns x=p
     · refine ⟨1,?_⟩;rw [if_pos h];show nxt _ x=t;rw [hk,h,gp]
     · exact ⟨0,by rw [if_neg h];exact hk⟩
   | succ k ih=>
     intro x hx hk;by_cases h:x=p
     · subst h;refine ⟨1,?_⟩;rw [if_pos hpp];exact gp
     · have e:over ns (nxt ns x)=over ns x:=ov_f hf hx;obtain ⟨j,hj⟩:=ih (nxt ns x) (hf x hx) (by rw [e];exact hk);refine ⟨j+1,?_⟩;show fit _ j (nxt _ x)=_;rw [go x h,hj,e]
 obtain ⟨K,hK⟩:=ends_fit hw he hx;obtain ⟨j,hj⟩:=way K x hx (hK K (Nat.le_refl _));have e1:=ov_fit (f:=nxt (ns.set p ⟨5,0,[(t:Int)]⟩)) hg hx j;have e2:nxt (ns.set p ⟨5,0,[(t:Int)]⟩) (if over ns x=p then t else over ns x)=if over ns x=p then t else over ns x:=by
   split
   · exact gt
   · rename_i h;rw [go _ h,he x hx]
 unfold over;unfold over at hj e2;rw [List.length_set,← e1,hj];exact ov_fix e2
theorem GOk.upd (h:GOk T s) {a b:Int} (ha:s.In a) (hb:s.In b):GOk T (s.set (s.ov a) ⟨5,0,[(s.ov b:Int)]⟩):=by
 refine ⟨set_ok' h rfl (by intro x hx;simp only [List.mem_singleton] at hx;subst hx;exact h.ovIn hb),?_,nds_set h ⟨(fun e=>by cases e),(fun e=>by cases e)⟩⟩;intro q hq;simp only [St.set,List.length_set] at hq ⊢;have hu:=over_upd h.st.wf h.ends (h.ov ha) (h.ov hb) (h.ovov ha) (h.ovov hb);rw [hu q hq]
 split
 · by_cases e:s.ov b=s.ov a
   · rw [e];simp [nxt,ind,ndAt_set' _ _ _ _ (h.ov ha)]
   · rw [(nxt_set (h.ov ha) e).1];exact h.stop hb
 · rename_i e;rw [(nxt_set (h.ov ha) e).1];exact h.ends q hq
theorem small_like {ns:List Nd} (hw:WF ns) {fr:Nat} (hfr:fr≤ns.length) {roots:List Int} (ho:okPl ns.length roots=true):∀ nd∈smallNs ns fr roots,∃ x,x < ns.length∧nd.kind=(ndAt ns x).kind∧nd.num=(ndAt ns x).num∧nd.args.length=(ndAt ns x).args.length:=by
 intro nd hnd;have hmet:=(small_met hw hfr ho).1;rcases List.mem_append.1 hnd with h | h
 · obtain ⟨p,hp,rfl⟩:=List.mem_map.1 h;have hp:p < fr:=List.mem_range.1 hp;refine ⟨p,by omega,rfl,rfl,?_⟩;simp only [oldNd]
   split
   · rename_i hh;obtain ⟨q,_,h1,_⟩:=wf_ind hw (by omega:p < ns.length) hh.1;rw [h1];simp
   · simp [oldArgs]
 · obtain ⟨x,hx,rfl⟩:=List.mem_map.1 h;exact ⟨x,(hmet.2 x hx).1,rfl,rfl,by simp [movedF]⟩
theorem ends_small {ns:List Nd} (hw:WF ns) {fr:Nat} (hfr:fr≤ns.length) {roots:List Int} (ho:okPl ns.length roots=true):Ends (smallNs ns fr roots):=by
 have key:∀ x,InF ns fr (smallO ns fr roots) x→nxt (smallNs ns fr roots) (nuF ns fr (smallO ns fr roots) x)=nuF ns fr (smallO ns fr roots) x:=by
   intro x hx;obtain ⟨h1,h2,h3,h4,h5⟩:=small_nd hw hfr ho hx;cases hi:ind ns x with
   | true=>
     have:ind (smallNs ns fr roots) (nuF ns fr (smallO ns fr roots) x)=true:=by simp only [ind,h2];exact hi
     simp [nxt,this,h4 hi]
   | false=>
     exact nxt_fix (by simp only [ind,h2];exact hi)
 intro p hp;by_cases hpf:p < fr
 · obtain ⟨h1,h2⟩:=small_chain' hw hfr ho hpf;rw [h2];exact key _ h1
 · rw [small_length] at hp;have hj:p - fr < (smallO ns fr roots).length:=by omega
   have hmet:=(small_met hw hfr ho).1;have hm:=List.getElem_mem hj;have hx:=hmet.2 _ hm;have hin:InF ns fr (smallO ns fr roots) (smallO ns fr roots)[p - fr]:=⟨hx.1,hx.2.1,.inr hm⟩;have e:nuF ns fr (smallO ns fr roots) (smallO ns fr roots)[p - fr]=p:=by
     unfold nuF;rw [if_neg (by have:=hx.2.2;omega),idx_of hmet.1 (List.getElem?_eq_getElem hj)];omega
   have h2:=small_over hw hfr ho hin;rw [e] at h2;rw [h2,← e];exact key _ hin
theorem GOk.small (h:GOk T s) {fr:Nat} (hfr:fr≤s.ns.length) {roots:List Int} (ho:∀ a∈roots,s.In a) {kd:Kd} (hk:kd.ok (smallNs s.ns fr roots).length) :
   GOk T ⟨kd,s.size,smallNs s.ns fr roots⟩∧∀ a∈roots,St.In ⟨kd,s.size,smallNs s.ns fr roots⟩ (numF s.ns fr (smallO s.ns fr roots) a):=by
 have hpl:=okPl_of ho;have hw:=h.st.wf;refine ⟨⟨⟨small_wf hw hfr hpl,?_,h.st.lo,h.st.hi,hk⟩,ends_small hw hfr hpl,?_⟩,?_⟩
 · have:=small_len hw hfr hpl;have:=h.st.len;show ((smallNs s.ns fr roots).length:Int)≤s.size;omega
 · intro nd hnd;obtain ⟨x,hx,e1,e2,e3⟩:=small_like hw hfr hpl nd hnd;have:=(h.at hx).2.2;exact ⟨fun hk=>by rw [e2];exact this.1 (by rw [← e1];exact hk),fun hk=>by rw [e2];exact this.2 (by rw [← e1];exact hk)⟩
 · intro a ha;exact okPl_mem (small_roots_ok hw hfr hpl) (List.mem_map.2 ⟨a,ha,rfl⟩)
end
end
section
open Go Go.W
def stackedS (T:Tab) (x:Ins) (d:Int):Bool×Int:=
 if x.op=1 then (decide (x.a < d),d+1)
 else if x.op=2∨x.op=3 then (true,d+1)
 else if x.op=4 then (decide (x.a < d),d - x.a)
 else if x.op=5 then (decide (x.a < d - 1),d - x.a)
 else if x.op=6∨x.op=12 then (decide (d > 2),d - 1)
 else if x.op=7 then (decide (x.a < d),d - 1)
 else if x.op=8 then (decide (x.a≤8000),d+min x.a 8000)
 else if x.op=9 then (decide ((T.sh x.a).fields < d),d - (T.sh x.a).fields+1)
 else if x.op=10 then (decide (d > 1),d - 1+(T.sh x.a).fields)
 else if x.op=11∨x.op=14∨x.op=15 then (decide (d > 1),d)
 else if x.op=17 then (decide (d=1),d)
 else (true,d)
def isNum (n:Int):Prop := -4611686018427387904≤n∧n≤4611686018427387903
theorem may_int {n:Int} (h:isNum n):(⟨1,n,[]⟩:Nd).may=true:=by
 unfold isNum at h;simp [Nd.may,mayB];omega
structure NumsOk (T:Tab) (len:Nat) (i:Nat) (x:Ins):Prop where
 o1:1≤x.op
 o2:x.op≤17
 c1:(x.op=1∨x.op=4∨x.op=5∨x.op=8)→0≤x.a
 c2:x.op=2→0≤x.a∧x.a < T.globals.length
 c3:x.op=3→isNum x.a
 c7:x.op=7→1≤x.a
 c9:(x.op=9∨x.op=10∨x.op=14)→0≤x.a∧x.a < T.shapes.length
 c12:x.op=12→1≤x.a∧x.a≤11
 c13:x.op=13→(i:Int) < x.a∧x.a < len
 c14:(x.op=14∨x.op=15)→(i:Int) < x.b∧x.b < len
 c15:x.op=15→isNum x.a
 c16:x.op=16→1≤x.a∧x.a≤4
def goesOn (x:Ins):Prop:=x.op≠13∧x.op≠16∧x.op≠17
structure InsOk (T:Tab) (g:Gl) (D:List Int) (i:Nat) (x:Ins):Prop where
 nums:NumsOk T g.code.length i x
 nz:D.getD i 0≠0
 ok:(stackedS T x (D.getD i 0)).1=true
 le:(stackedS T x (D.getD i 0)).2≤8000
 next:goesOn x→i+1 < g.code.length∧D.getD (i+1) 0=(stackedS T x (D.getD i 0)).2
 jump:x.op=13→D.getD x.a.toNat 0=(stackedS T x (D.getD i 0)).2
 test:x.op=14∨x.op=15→D.getD x.b.toNat 0=(stackedS T x (D.getD i 0)).2
structure CodeOk (T:Tab) (g:Gl) (D:List Int):Prop where
 pos:0 < g.code.length
 start:D.getD 0 0=g.arity+1
 each:∀ (i:Nat) (x:Ins),g.code[i]? = some x→InsOk T g D i x
def noteS (D:List Int) (at' d:Int):List Int:=if D.getD at'.toNat 0=0 then D.set at'.toNat d else D
def targetS (x:Ins):Int:=if x.op=13 then x.a else if x.op=14∨x.op=15 then x.b else 0
def depthStep (T:Tab) (D:List Int) (i:Nat) (x:Ins):List Int:=
 let b:=(stackedS T x (D.getD i 0)).2
 let D1:=if x.op≠13∧x.op≠16∧x.op≠17 then noteS D ((i:Int)+1) b else D
 if targetS x > 0 then noteS D1 (targetS x) b else D1
def depthsFrom (T:Tab):Nat→List Ins→List Int→List Int
 | _,[],D=>D
 | i,x::l,D=>depthsFrom T (i+1) l (depthStep T D i x)
def depthsS (T:Tab) (g:Gl):List Int:=depthsFrom T 0 g.code ((List.replicate g.code.length 0).set 0 (g.arity+1))
structure TabOk (T:Tab):Prop where
 gls:∀ g∈T.globals,CodeOk T g (depthsS T g)∧0≤g.arity∧g.arity≤24∧g.code.length≤8000
 shs:∀ s∈T.shapes,0≤s.fields∧s.fields≤8
 gn:T.globals.length≤2000
 sn:7≤T.shapes.length∧T.shapes.length≤2000
 nil:(T.sh 3).fields=0
 cons:(T.sh 4).fields=2
 fal:(T.sh 0).fields=0
 tru:(T.sh 1).fields=0
structure RunOk (T:Tab) (f:Fr):Prop where
 gl:0≤f.glob∧f.glob < T.globals.length
 at':0≤f.at'∧f.at' < (T.gl f.glob).code.length
 dep:(depthsS T (T.gl f.glob)).getD f.at'.toNat 0=f.stack.length
structure FrG (s:St) (n:Int) (f:Fr):Prop where
 sp:∀ a∈f.spine,s.In a
 sk:∀ a∈f.stack,s.In a
 sd:s.In f.stands
 lsp:(f.spine.length:Int)≤n
 lsk:f.stack.length≤8000
structure MOk (n:Int) (M:Mc):Prop where
 tab:TabOk M.tab
 g:GOk M.tab M.st
 gls:∀ a∈M.globals,M.st.In a
 gln:M.globals.length=M.tab.globals.length
 wts:∀ a∈M.wait,M.st.In a
 wpos:M.ended=0→0 < M.wait.length
 frs:∀ f∈M.frames,FrG M.st n f
 run:M.ended=0→∀ f∈M.frames,f.runs=true→RunOk M.tab f
 base:0≤M.base∧M.base≤1048576
 young:0≤M.young∧M.young≤1048576
 inp:∀ a∈M.input,isNum a
 ln:0≤n
 lf:(M.frames.length:Int)≤n
 lw:(M.wait.length:Int)≤8*n+1
 lt:(M.told.length:Int)≤n
 ne5:M.ended≠5
section
variable {n:Int} {M:Mc}
theorem MOk.roots (h:MOk n M):∀ a∈M.roots,M.st.In a:=by
 intro a ha;unfold Mc.roots at ha;rcases List.mem_append.1 ha with ha | ha
 · rcases List.mem_append.1 ha with ha | ha
   · exact h.gls a ha
   · obtain ⟨f,hf,ha⟩:=List.mem_flatMap.1 ha;have:=h.frs f hf;rcases List.mem_append.1 ha with ha | ha
     · rcases List.mem_append.1 ha with ha | ha
       · exact this.sp a ha
       · exact this.sk a ha
     · obtain rfl:=List.mem_singleton.1 ha;exact this.sd
 · exact h.wts a ha
theorem top_mem (hp:0 < M.frames.length):M.top∈M.frames:=by
 have:=top_get hp;exact List.mem_of_getElem? this
theorem MOk.topG (h:MOk n M) (hp:0 < M.frames.length):FrG M.st n M.top:=h.frs _ (top_mem hp)
theorem FrG.weak {s s':St} {n n':Int} {f:Fr} (h:FrG s n f) (hs:∀ a,s.In a→s'.In a) (hn:n≤n'):FrG s' n' f:=
 ⟨fun a ha=>hs a (h.sp a ha),fun a ha=>hs a (h.sk a ha),hs _ h.sd,by have:=h.lsp;omega,h.lsk⟩
theorem MOk.top' (h:MOk n M) {s':St} {f':Fr} (hg:GOk M.tab s') (hs:∀ a,M.st.In a→s'.In a) (hf:FrG s' (n+1) f') (hr:M.ended=0→f'.runs=true→RunOk M.tab f'):MOk (n+1) { M.setTop f' with st:=s'}:=by
 have key:∀ f∈M.frames.set (M.frames.length - 1) f',f∈M.frames∨f=f':=fun f hf=>List.mem_or_eq_of_mem_set hf
 refine ⟨h.tab,hg,fun a ha=>hs a (h.gls a ha),h.gln,fun a ha=>hs a (h.wts a ha),h.wpos,?_,?_,h.base,h.young,h.inp,by have:=h.ln;omega,?_,by have:=h.lw;show (M.wait.length:Int)≤_;omega,by have:=h.lt;show (M.told.length:Int)≤_;omega,h.ne5⟩
 · intro f hf';rcases key f hf' with h1 | rfl
   · exact (h.frs f h1).weak hs (by omega)
   · exact hf
 · intro he f hf' hrun;rcases key f hf' with h1 | rfl
   · exact h.run he f h1 hrun
   · exact hr he hrun
 · have:=h.lf;show ((M.frames.set (M.frames.length - 1) f').length:Int)≤_;rw [List.length_set];omega
theorem MOk.more (h:MOk n M) {n':Int} (hn:n≤n'):MOk n' M:=
 ⟨h.tab,h.g,h.gls,h.gln,h.wts,h.wpos,fun f hf=>(h.frs f hf).weak (fun _ h=>h) hn,h.run,h.base,h.young,h.inp,by have:=h.ln;omega,by have:=h.lf;omega,by have:=h.lw;omega,by have:=h.lt;omega,h.ne5⟩
theorem MOk.fail (h:MOk n M) (how:Int):MOk n (M.fail how):=
 ⟨h.tab,h.g,h.gls,h.gln,h.wts,(fun e=>by cases e),h.frs,(fun e=>by cases e),h.base,h.young,h.inp,h.ln,h.lf,h.lw,h.lt,by show (3:Int)≠5;decide⟩
theorem MOk.leave (h:MOk n M):MOk n M.leave:=by
 have key:∀ f∈M.leave.frames,f∈M.frames:=fun f hf=>List.mem_of_mem_take hf
 refine ⟨h.tab,h.g,h.gls,h.gln,h.wts,h.wpos,fun f hf=>h.frs f (key f hf),fun he f hf=>h.run he f (key f hf),h.base,h.young,h.inp,h.ln,?_,h.lw,h.lt,h.ne5⟩;have:=h.lf;simp only [Mc.leave,List.length_take];omega
theorem newFr_ok {s:St} {n p:Int} (hp:s.In p) (hn:0≤n):FrG s n (newFr p):=⟨fun a ha=>(by cases ha),fun a ha=>(by cases ha),hp,by simpa [newFr] using hn,by simp [newFr]⟩
theorem MOk.enter (h:MOk n M) {p:Int} (hp:M.st.In p):MOk (n+1) (M.enter p):=by
 have hl:=h.ln;refine ⟨h.tab,h.g,h.gls,h.gln,h.wts,h.wpos,?_,?_,h.base,h.young,h.inp,by omega,?_,by have:=h.lw;show (M.wait.length:Int)≤_;omega,by have:=h.lt;show (M.told.length:Int)≤_;omega,h.ne5⟩
 · intro f hf;rcases List.mem_append.1 hf with hf | hf
   · exact (h.frs f hf).weak (fun _ h=>h) (by omega)
   · obtain rfl:=List.mem_singleton.1 hf;exact newFr_ok hp (by omega)
 · intro he f hf hr;rcases List.mem_append.1 hf with hf | hf
   · exact h.run he f hf hr
   · obtain rfl:=List.mem_singleton.1 hf;cases hr
 · have:=h.lf;simp only [Mc.enter,List.length_append,List.length_cons,List.length_nil];omega
theorem mapP_id (M:Mc):M.mapP id=M:=by
 have e:(Fr.mapP id)=(id:Fr→Fr):=by
   funext f;cases f;simp [Fr.mapP]
 simp only [Mc.mapP,e,List.map_id_fun,id]
theorem room_form (M:Mc) (k:Int):(M.room k).1=true→∃ g s b,(M.room k).2 = { M.mapP g with st:=s,base:=b}:=by
 intro h;unfold Mc.room at h ⊢
 split at h
 · rename_i hq;rw [if_pos hq];exact ⟨id,M.st,M.base,by rw [mapP_id]⟩
 · rename_i hq;rw [if_neg hq]
   split at h
   · cases h
   · exact ⟨_,_,_,rfl⟩
theorem MOk.mapped (h:MOk n M) {g:Int→Int} {s:St} {b:Int} (hg:GOk M.tab s) (hs:∀ a∈M.roots,s.In (g a)) (hb:0≤b∧b≤1048576):MOk n { M.mapP g with st:=s,base:=b}:=by
 have inR1:∀ a∈M.globals,a∈M.roots:=fun a ha=>by simp [Mc.roots,ha]
 have inR2:∀ a∈M.wait,a∈M.roots:=fun a ha=>by simp [Mc.roots,ha]
 have inR3:∀ f∈M.frames,∀ a∈f.roots,a∈M.roots:=fun f hf a ha=>by
   unfold Mc.roots;exact List.mem_append_left _ (List.mem_append_right _ (List.mem_flatMap.2 ⟨f,hf,ha⟩))
 refine ⟨h.tab,hg,?_,?_,?_,?_,?_,?_,hb,h.young,h.inp,h.ln,?_,?_,h.lt,h.ne5⟩
 · intro a ha;obtain ⟨c,hc,rfl⟩:=List.mem_map.1 ha;exact hs c (inR1 c hc)
 · show (M.globals.map g).length=_;rw [List.length_map];exact h.gln
 · intro a ha;obtain ⟨c,hc,rfl⟩:=List.mem_map.1 ha;exact hs c (inR2 c hc)
 · intro he;show 0 < (M.wait.map g).length;rw [List.length_map];exact h.wpos he
 · intro f hf;obtain ⟨f0,hf0,rfl⟩:=List.mem_map.1 hf;have hk:=h.frs f0 hf0;refine ⟨?_,?_,hs _ (inR3 f0 hf0 _ (by simp [Fr.roots])),by simpa [Fr.mapP] using hk.lsp,by simpa [Fr.mapP] using hk.lsk⟩
   · intro a ha;obtain ⟨c,hc,rfl⟩:=List.mem_map.1 ha;exact hs c (inR3 f0 hf0 c (by simp [Fr.roots,hc]))
   · intro a ha;obtain ⟨c,hc,rfl⟩:=List.mem_map.1 ha;exact hs c (inR3 f0 hf0 c (by simp [Fr.roots,hc]))
 · intro he f hf hr;obtain ⟨f0,hf0,rfl⟩:=List.mem_map.1 hf;have hk:=h.run he f0 hf0 hr;exact ⟨hk.gl,hk.at',by have:=hk.dep;simp only [Fr.mapP,List.length_map];exact this⟩
 · show ((M.frames.map (Fr.mapP g)).length:Int)≤n;rw [List.length_map];exact h.lf
 · show ((M.wait.map g).length:Int)≤_;rw [List.length_map];exact h.lw
theorem GOk.col {T:Tab} {s:St} (h:GOk T s) {roots:List Int} (hr:∀ a∈roots,s.In a):GOk T (stCol s roots).2∧(∀ a∈roots,(stCol s roots).2.In (colRen s roots a)):=by
 obtain ⟨kd,sz,ns⟩:=s;cases kd with
 | hp t=>
   have:=h.small (s:=⟨.hp t,sz,ns⟩) (fr:=0) (Nat.zero_le _) (roots:=roots) hr (kd:=.hp (IntKind.i64.wrap (t+1))) trivial;simp only [stCol,colRen,(col_small ns roots).1,← small_reached,← numF_zero];exact this
 | gn y o t=>
   have hk:=h.st.kd;exact h.small (s:=⟨.gn y o t,sz,ns⟩) (fr:=0) (Nat.zero_le _) (roots:=roots) hr (kd:=.gn y (smallNs ns 0 roots).length (IntKind.i64.wrap (t+1))) ⟨Nat.le_refl _,hk.2⟩
 | ref=>
   have:=h.small (s:=⟨.ref,sz,ns⟩) (fr:=0) (Nat.zero_le _) (roots:=roots) hr (kd:=.ref) trivial;simp only [stCol,colRen,(col_small ns roots).1,← small_reached,← numF_zero];exact this
theorem room_st {T:Tab} {s:St} (h:GOk T s) {roots:List Int} (hr:∀ a∈roots,s.In a) {k:Int} (hk:0≤k) {l:List Int} (hl:(stRoom s k roots).1=some l) :
   GOk T (stRoom s k roots).2∧(∀ a∈roots,(stRoom s k roots).2.In (stRen s k roots a))∧((stRoom s k roots).2.ns.length:Int)+k≤s.size:=by
 have hpl:okPl s.ns.length roots=true:=okPl_of hr;obtain ⟨kd,sz,ns⟩:=s;cases kd with
 | hp t=>
   simp only [stRoom,stRen,roomS] at hl ⊢;simp only at hpl;rw [if_neg (by omega),if_neg (by simp [hpl])] at hl ⊢
   split at hl
   · rename_i hh;simp only [if_pos hh];exact ⟨h,fun a ha=>hr a ha,by omega⟩
   · rename_i hh;simp only [if_neg hh]
     split at hl
     · cases hl
     · rename_i hh2;simp only [if_neg hh2];have:=h.small (s:=⟨.hp t,sz,ns⟩) (fr:=0) (Nat.zero_le _) (roots:=roots) hr (kd:=.hp (IntKind.i64.wrap (t+1))) trivial;simp only [(col_small ns roots).1,← small_reached,← numF_zero] at hh2 ⊢;exact ⟨this.1,this.2,by omega⟩
 | gn y o t=>
   have hkd:=h.st.kd;have hfr:o≤ns.length:=hkd.1;simp only [stRoom,stRen,groomS] at hl ⊢;simp only at hpl;rw [if_neg (by omega),if_neg (by simp [hpl])] at hl ⊢
   split at hl
   · rename_i hh;simp only [if_pos hh];exact ⟨h,fun a ha=>hr a ha,by omega⟩
   · rename_i hh;simp only [if_neg hh];have h1:=h.small (s:=⟨.gn y o t,sz,ns⟩) (fr:=o) hfr (roots:=roots) hr (kd:=.gn y (smallNs ns o roots).length (IntKind.i64.wrap (t+1))) ⟨Nat.le_refl _,hkd.2⟩
     split at hl
     · rename_i hh2;simp only [if_pos hh2];have h2:=GOk.small (s:=⟨.gn y (smallNs ns o roots).length (IntKind.i64.wrap (t+1)),sz,smallNs ns o roots⟩) h1.1 (fr:=0) (Nat.zero_le _) (roots:=smallRoots ns o roots)
         (fun a ha=>by obtain ⟨c,hc,rfl⟩:=List.mem_map.1 ha;exact h1.2 c hc)
         (kd:=.gn y (smallNs (smallNs ns o roots) 0 (smallRoots ns o roots)).length (IntKind.i64.wrap (IntKind.i64.wrap (t+1)+1))) ⟨Nat.le_refl _,hkd.2⟩
       unfold endS at hl ⊢
       split at hl
       · cases hl
       · rename_i hh3;simp only [if_neg hh3,if_pos hh2];exact ⟨h2.1,fun a ha=>h2.2 _ (List.mem_map.2 ⟨a,ha,rfl⟩),by omega⟩
     · rename_i hh2;simp only [if_neg hh2];exact ⟨h1.1,h1.2,by omega⟩
 | ref=>
   simp only [stRoom,stRen] at hl ⊢
   split at hl
   · cases hl
   · rename_i hh;simp only [if_neg hh];have:=h.small (s:=⟨.ref,sz,ns⟩) (fr:=0) (Nat.zero_le _) (roots:=roots) hr (kd:=.ref) trivial;simp only [(col_small ns roots).1,← small_reached,← numF_zero] at hh ⊢;exact ⟨this.1,this.2,by omega⟩
theorem MOk.room (h:MOk n M) {k:Int} (hk:0≤k) (ht:(M.room k).1=true):MOk n (M.room k).2∧((M.room k).2.st.ns.length:Int)+k≤(M.room k).2.st.size:=by
 unfold Mc.room at ht ⊢
 split at ht
 · rename_i hq;rw [if_pos hq];refine ⟨h,?_⟩;simp only [Mc.quick,Bool.and_eq_true,decide_eq_true_eq] at hq;have:=hq.1;show (M.st.ns.length:Int)+k≤M.st.size;omega
 · rename_i hq;rw [if_neg hq]
   split at ht
   · cases ht
   · rename_i l hl;obtain ⟨h1,h2,h3⟩:=room_st h.g h.roots hk hl;refine ⟨h.mapped h1 h2 ⟨by omega,?_⟩,?_⟩
     · have:=h1.st.n;omega
     · show ((stRoom M.st k M.roots).2.ns.length:Int)+k≤(stRoom M.st k M.roots).2.size;rw [stRoom_size];exact h3
theorem MOk.tidy (h:MOk n M):MOk n M.tidy:=by
 unfold Mc.tidy
 split
 · obtain ⟨h1,h2⟩:=h.g.col h.roots;refine h.mapped h1 h2 ⟨by omega,?_⟩;have:=h1.st.n;omega
 · exact h
end
end
section
open Go Go.W
theorem place_mem {f:Fr} {k:Int} (h:0≤k∧k < f.stack.length):f.place k∈f.stack:=by
 unfold Fr.place;have:f.stack.length - 1 - k.toNat < f.stack.length:=by omega
 rw [List.getD_eq_getElem?_getD,List.getElem?_eq_getElem this];exact List.getElem_mem this
theorem getD_mem {l:List Int} {i:Nat} (h:i < l.length):l.getD i 0∈l:=by
 rw [List.getD_eq_getElem?_getD,List.getElem?_eq_getElem h];exact List.getElem_mem h
theorem run_next {T:Tab} {f f':Fr} {x:Ins} (hr:RunOk T f) (hI:InsOk T (T.gl f.glob) (depthsS T (T.gl f.glob)) f.at'.toNat x) (hg:goesOn x) (e1:f'.glob=f.glob) (e2:f'.at'=f.at'+1)
   (e3:(stackedS T x f.stack.length).2=f'.stack.length):RunOk T f':=by
 obtain ⟨h1,h2⟩:=hI.next hg;have ha:=hr.at';refine ⟨by rw [e1];exact hr.gl,by rw [e1,e2];omega,?_⟩;rw [e1,e2,← e3,← hr.dep,← h2]
 congr 1;omega
theorem run_to {T:Tab} {f f':Fr} {x:Ins} {t:Int} (hr:RunOk T f) (ht:0≤t∧t < (T.gl f.glob).code.length) (hI:(depthsS T (T.gl f.glob)).getD t.toNat 0=(stackedS T x ((depthsS T (T.gl f.glob)).getD f.at'.toNat 0)).2) (e1:f'.glob=f.glob) (e2:f'.at'=t)
   (e3:(stackedS T x f.stack.length).2=f'.stack.length):RunOk T f':=by
 refine ⟨by rw [e1];exact hr.gl,by rw [e1,e2];exact ht,?_⟩;rw [e1,e2,← e3,← hr.dep,← hI]
theorem GOk.adds {T:Tab} {s:St} (h:GOk T s):∀ k:Nat,(s.ns.length:Int)+k≤s.size→GOk T { s with ns:=s.ns++List.replicate k ⟨6,0,[]⟩}:=by
 intro k
 induction k with
 | zero=>intro _;simpa using h
 | succ k ih=>
   intro hr;have:=(ih (by omega)).add (nd:=⟨6,0,[]⟩) rfl (by decide) (fun a ha=>by cases ha) ⟨(fun e=>by cases e),(fun e=>by cases e)⟩ (by show ((s.ns++List.replicate k _).length:Int) < s.size;simp only [List.length_append,List.length_replicate];omega)
   simpa [St.add,List.replicate_succ',List.append_assoc] using this
theorem sh_le {T:Tab} (h:TabOk T) {c:Int} (hc:0≤c∧c < T.shapes.length):0≤(T.sh c).fields∧(T.sh c).fields≤8:=by
 refine h.shs _ ?_;unfold Tab.sh;rw [List.getD_eq_getElem?_getD,List.getElem?_eq_getElem (by omega:c.toNat < T.shapes.length)];exact List.getElem_mem _
theorem gl_mem {T:Tab} {c:Int} (hc:0≤c∧c < T.globals.length):T.gl c∈T.globals:=by
 unfold Tab.gl;rw [List.getD_eq_getElem?_getD,List.getElem?_eq_getElem (by omega:c.toNat < T.globals.length)];exact List.getElem_mem _
theorem wrap63_in (n:Int) : -4611686018427387904≤wrap63 n∧wrap63 n≤4611686018427387903:=by unfold wrap63;omega
theorem arith_may (op a b:Int):(arithNd op a b).may=true∧(arithNd op a b).kind≠5∧(arithNd op a b).args=[]∧((arithNd op a b).kind=2→(arithNd op a b).num=0∨(arithNd op a b).num=1)∧(arithNd op a b).kind≠4:=by
 have key:∀ n,(⟨1,wrap63 n,[]⟩:Nd).may=true:=fun n=>by
   have:=wrap63_in n;simp [Nd.may,mayB];omega
 unfold arithNd
 split
 · exact ⟨key _,by simp⟩
 split
 · exact ⟨key _,by simp⟩
 split
 · exact ⟨key _,by simp⟩
 split
 · exact ⟨key _,by simp⟩
 split
 · exact ⟨key _,by simp⟩
 split
 · exact ⟨rfl,by simp⟩
 · exact ⟨rfl,by simp⟩
section
variable {n:Int} {M:Mc}
theorem next_top (hp:0 < M.frames.length):M.next.top = { M.top with at':=M.top.at'+1}:=(setTop_top hp _).1
theorem next_set (f:Fr):M.next.setTop f=M.setTop f:=setTop_set _ _
structure AtIns (n:Int) (M:Mc) (x:Ins):Prop where
 ok:MOk n M
 pos:0 < M.frames.length
 going:M.ended=0
 runs:M.top.runs=true
 ins:x=M.insOf
theorem AtIns.run {x:Ins} (h:AtIns n M x):RunOk M.tab M.top:=h.ok.run h.going _ (top_mem h.pos) h.runs
theorem AtIns.io {x:Ins} (h:AtIns n M x):InsOk M.tab (M.tab.gl M.top.glob) (depthsS M.tab (M.tab.gl M.top.glob)) M.top.at'.toNat x:=by
 have hr:=h.run;refine (h.ok.tab.gls _ (gl_mem hr.gl)).1.each _ _ ?_;rw [h.ins];unfold Mc.insOf Gl.ins;have:=hr.at';rw [List.getD_eq_getElem?_getD,List.getElem?_eq_getElem (by omega:M.top.at'.toNat < _)];rfl
theorem AtIns.st {x:Ins} (h:AtIns n M x):(stackedS M.tab x M.top.stack.length).1=true∧(stackedS M.tab x M.top.stack.length).2≤8000∧M.top.stack.length≠0:=by
 have:=h.io;have hd:=h.run.dep;refine ⟨by rw [← hd];exact this.ok,by rw [← hd];exact this.le,fun e=>this.nz (by rw [hd,e];rfl)⟩
theorem FrG.put {s s':St} {f:Fr} (h:FrG s n f) (hs:∀ a,s.In a→s'.In a) {st:List Int} {i:Int} (hst:∀ a∈st,a∈f.stack∨s'.In a) (hl:st.length≤8000):FrG s' (n+1) { f with at':=i,stack:=st}:=
 ⟨fun a ha=>hs a (h.sp a ha),fun a ha=>(hst a ha).elim (fun h1=>hs a (h.sk a h1)) id,hs _ h.sd,by have:=h.lsp;show (f.spine.length:Int)≤n+1;omega,hl⟩
theorem AtIns.goes {x:Ins} (h:AtIns n M x) (hx:goesOn x) {s':St} (hg:GOk M.tab s') (hs:∀ a,M.st.In a→s'.In a) {st:List Int} (hst:∀ a∈st,a∈M.top.stack∨s'.In a) (hl:(stackedS M.tab x M.top.stack.length).2=st.length) :
   MOk (n+1) { M.setTop { M.top with at':=M.top.at'+1,stack:=st} with st:=s'}:=by
 have hG:=h.ok.topG h.pos;refine h.ok.top' hg hs (hG.put hs hst (by have:=h.st.2.1;omega)) (fun _ _=>run_next h.run h.io hx rfl rfl hl)
theorem take_mem {l:List Int} {k:Nat} {a:Int} (h:a∈l.take k):a∈l:=List.mem_of_mem_take h
theorem fields_mem {f:Fr} {k:Nat} (hk:k≤f.stack.length):∀ a∈(List.range k).map (fun i:Nat=>f.place (i:Int)),a∈f.stack:=by
 intro a ha;obtain ⟨i,hi,rfl⟩:=List.mem_map.1 ha;have:=List.mem_range.1 hi;exact place_mem ⟨by omega,by omega⟩
theorem AtIns.exec {x:Ins} (h:AtIns n M x) (hroom:0 < cellsOf x→(M.st.ns.length:Int)+cellsOf x≤M.st.size):MOk (n+1) (M.next.exec x):=by
 have hG:=h.ok.topG h.pos;have hn:=h.io.nums;obtain ⟨s1,s2,s3⟩:=h.st;have ht:=next_top h.pos;have hst:M.next.st=M.st:=rfl;have hpl:∀ k,M.next.top.place k=M.top.place k:=fun k=>by rw [ht];rfl
 have self:∀ f:Fr,(M.setTop f) = { M.setTop f with st:=M.st}:=fun f=>rfl
 have p0:M.top.place 0∈M.top.stack:=place_mem ⟨by omega,by omega⟩;have o1:=hn.o1;have o2:=hn.o2;have hop:x.op=1∨x.op=2∨x.op=3∨x.op=4∨x.op=5∨x.op=6∨x.op=7∨x.op=8∨x.op=9∨x.op=10∨x.op=11∨x.op=12∨x.op=13∨x.op=14∨x.op=15∨x.op=16∨x.op=17:=by omega
 have go:x.op≠13→x.op≠16→x.op≠17→goesOn x:=fun a b c=>⟨a,b,c⟩
 have hid:∀ a,M.st.In a→M.st.In a:=fun _ h=>h
 have putK:∀ (nd:Nd) (d:Nat),goesOn x→nd.may=true→nd.kind≠5→(∀ a∈nd.args,M.st.In a)→NdOk M.tab nd→(M.st.ns.length:Int) < M.st.size→d≤M.top.stack.length→(stackedS M.tab x M.top.stack.length).2=((M.top.stack.length - d+1:Nat):Int)→MOk (n+1) (M.next.put nd d):=by
   intro nd d hg hm hk ha hnd hr hd hl;have:=h.goes hg (s':=M.st.add nd) (h.ok.g.add hm hk ha hnd hr) (fun a ha=>In.add ha nd) (st:=M.top.stack.take (M.top.stack.length - d)++[(M.st.ns.length:Int)])
     (fun a ha=>by
       rcases List.mem_append.1 ha with ha | ha
       · exact .inl (take_mem ha)
       · obtain rfl:=List.mem_singleton.1 ha;exact .inr (In.new _ _))
     (by rw [hl];simp only [List.length_append,List.length_take,List.length_cons,List.length_nil];omega)
   unfold Mc.put;rw [ht,next_set,hst]
   simpa [Fr.pop,Fr.push] using this
 rcases hop with e | e | e | e | e | e | e | e | e | e | e | e | e | e | e | e | e
 ·
   have ex:M.next.exec x=M.setTop { M.top with at':=M.top.at'+1,stack:=M.top.stack++[M.top.place x.a]}:=by
     simp only [Mc.exec,e,if_true,ht,next_set,Fr.push,Fr.place]
   simp only [stackedS,e,if_true,decide_eq_true_eq] at s1 s2;rw [ex,self];have ha:=hn.c1 (.inl e);refine h.goes (go (by omega) (by omega) (by omega)) h.ok.g hid (fun a ha'=>?_) (by simp [stackedS,e]);rcases List.mem_append.1 ha' with ha' | ha'
   · exact .inl ha'
   · obtain rfl:=List.mem_singleton.1 ha';exact .inl (place_mem ⟨ha,s1⟩)
 ·
   have ex:M.next.exec x=M.setTop { M.top with at':=M.top.at'+1,stack:=M.top.stack++[M.globals.getD x.a.toNat 0]}:=by
     have k:∀ (M:Mc),M.exec x=M.setTop (M.top.push (M.globals.getD x.a.toNat 0)):=fun M=>by simp [Mc.exec,e]
     rw [k,ht,next_set];rfl
   rw [ex,self];have ha:=hn.c2 e;have hgl:=h.ok.gln;refine h.goes (go (by omega) (by omega) (by omega)) h.ok.g hid (fun a ha'=>?_) (by simp [stackedS,e]);rcases List.mem_append.1 ha' with ha' | ha'
   · exact .inl ha'
   · obtain rfl:=List.mem_singleton.1 ha';exact .inr (h.ok.gls _ (getD_mem (by omega)))
 ·
   have ex:M.next.exec x=M.next.put ⟨1,x.a,[]⟩ ((0:Nat):Int):=by simp [Mc.exec,e]
   have hc:cellsOf x=1:=by simp [cellsOf,e]
   rw [ex];have ha:=hn.c3 e;refine putK _ 0 (go (by omega) (by omega) (by omega)) (may_int ha) (by simp) (fun a ha=>by cases ha) ⟨(fun e=>by cases e),(fun e=>by cases e)⟩ (by have:=hroom (by omega);omega) (by omega) (by simp [stackedS,e])
 ·
   have ex:M.next.exec x=M.setTop { M.top with at':=M.top.at'+1,stack:=M.top.stack.take (M.top.stack.length - x.a.toNat)}:=by
     simp [Mc.exec,e,ht,next_set,Fr.pop]
   simp [stackedS,e] at s1;have ha:=hn.c1 (.inr (.inl e));rw [ex,self];refine h.goes (go (by omega) (by omega) (by omega)) h.ok.g hid (fun a ha'=>.inl (take_mem ha')) (by simp [stackedS,e];omega)
 ·
   have ex:M.next.exec x=M.setTop { M.top with at':=M.top.at'+1,stack:=M.top.stack.take (M.top.stack.length - (x.a+1).toNat)++[M.top.place 0]}:=by
     simp [Mc.exec,e,ht,next_set,Fr.pop,Fr.push,Fr.place]
   simp [stackedS,e] at s1;have ha:=hn.c1 (.inr (.inr (.inl e)));rw [ex,self];refine h.goes (go (by omega) (by omega) (by omega)) h.ok.g hid (fun a ha'=>?_) (by simp [stackedS,e];omega);rcases List.mem_append.1 ha' with ha' | ha'
   · exact .inl (take_mem ha')
   · obtain rfl:=List.mem_singleton.1 ha';exact .inl p0
 ·
   have ex:M.next.exec x=M.next.put ⟨3,0,[M.top.place 0,M.top.place 1]⟩ ((2:Nat):Int):=by simp [Mc.exec,e,hpl]
   have hc:cellsOf x=1:=by simp [cellsOf,e]
   simp [stackedS,e] at s1;rw [ex];refine putK _ 2 (go (by omega) (by omega) (by omega)) rfl (by simp) (fun a ha=>?_) ⟨(fun e=>by cases e),(fun e=>by cases e)⟩ (by have:=hroom (by omega);omega) (by omega) (by simp [stackedS,e];omega);have p1:M.top.place 1∈M.top.stack:=place_mem ⟨by omega,by omega⟩;simp only [List.mem_cons,List.not_mem_nil,or_false] at ha;rcases ha with rfl | rfl
   · exact hG.sk _ p0
   · exact hG.sk _ p1
 ·
   have ex:M.next.exec x = { M.setTop { M.top with at':=M.top.at'+1,stack:=M.top.stack.take (M.top.stack.length - 1)} with st:=M.st.set (M.st.ov (M.top.place x.a)) ⟨5,0,[(M.st.ov (M.top.place 0):Int)]⟩}:=by
     simp [Mc.exec,e,ht,next_set,Fr.pop,Fr.place,hst]
   simp [stackedS,e] at s1;have ha:=hn.c7 e;rw [ex];have pa:M.top.place x.a∈M.top.stack:=place_mem ⟨by omega,by omega⟩;refine h.goes (go (by omega) (by omega) (by omega)) (h.ok.g.upd (hG.sk _ pa) (hG.sk _ p0)) (fun a ha=>In.set ha _ _) (fun a ha'=>.inl (take_mem ha')) (by simp [stackedS,e];omega)
 ·
   have ha:=hn.c1 (.inr (.inr (.inr e)));have hc:cellsOf x=x.a:=by simp [cellsOf,e]
   have ex:M.next.exec x = { M.setTop { M.top with at':=M.top.at'+1,stack:=M.top.stack++(List.range x.a.toNat).map fun i=>((M.st.ns.length+i:Nat):Int)} with st:={ M.st with ns:=M.st.ns++List.replicate x.a.toNat ⟨6,0,[]⟩}}:=by
     simp [Mc.exec,e,Mc.alloc,ht,next_set,hst]
   simp [stackedS,e] at s1;rw [ex];have hr:(M.st.ns.length:Int)+x.a.toNat≤M.st.size:=by
     by_cases h0:x.a=0
     · have:=h.ok.g.st.len;rw [h0];simpa using this
     · have:=hroom (by omega);omega
   refine h.goes (go (by omega) (by omega) (by omega)) (h.ok.g.adds _ hr) (fun a ha=>⟨ha.1,by have:=ha.2;simp only [List.length_append,List.length_replicate];omega⟩) (fun a ha'=>?_) (by simp [stackedS,e];omega);rcases List.mem_append.1 ha' with ha' | ha'
   · exact .inl ha'
   · obtain ⟨i,hi,rfl⟩:=List.mem_map.1 ha';have:=List.mem_range.1 hi;exact .inr ⟨by omega,by simp only [List.length_append,List.length_replicate];omega⟩
 ·
   have hsh:=sh_le h.ok.tab (hn.c9 (.inl e));obtain ⟨k,hk⟩:∃ k:Nat,(M.tab.sh x.a).fields=k:=⟨(M.tab.sh x.a).fields.toNat,by omega⟩;have ex:M.next.exec x=M.next.put ⟨2,x.a,(List.range k).map fun i:Nat=>M.top.place (i:Int)⟩ (k:Int):=by
     have e1:(M.next.tab.sh x.a).fields=(k:Int):=hk;simp [Mc.exec,e,hpl,e1]
   have hc:cellsOf x=1:=by simp [cellsOf,e]
   simp [stackedS,e,hk] at s1;rw [ex];have ha:=hn.c9 (.inl e);refine putK _ k (go (by omega) (by omega) (by omega)) (by simp [Nd.may,mayB];omega) (by simp) (fun a ha=>hG.sk _ (fields_mem (by omega) a ha)) ⟨(fun e=>by cases e),fun _=>ha.2⟩ (by have:=hroom (by omega);omega) (by omega) (by simp [stackedS,e,hk];omega)
 ·
   simp [stackedS,e] at s1;have hnd:=h.ok.g.nd (hG.sk _ p0);have ex:M.next.exec x=if (M.st.nd (M.top.place 0)).kind≠2∨(M.st.nd (M.top.place 0)).num≠x.a∨((M.st.nd (M.top.place 0)).args.length:Int)≠(M.tab.sh x.a).fields then M.next.fail 5
       else M.setTop { M.top with at':=M.top.at'+1,stack:=M.top.stack.take (M.top.stack.length - 1)++(M.st.nd (M.top.place 0)).args.reverse}:=by
     have k:∀ (M:Mc),M.exec x=if (M.st.nd (M.top.place 0)).kind≠2∨(M.st.nd (M.top.place 0)).num≠x.a∨((M.st.nd (M.top.place 0)).args.length:Int)≠(M.tab.sh x.a).fields then M.fail 5
       else M.setTop { M.top.pop 1 with stack:=(M.top.pop 1).stack++(M.st.nd (M.top.place 0)).args.reverse}:=fun M=>by simp [Mc.exec,e]
     rw [k,hpl,hst,ht,next_set];rfl
   rw [ex]
   split
   · have hnx:MOk n M.next∨True:=.inr trivial;have:MOk (n+1) ({ M.setTop { M.top with at':=M.top.at'+1} with st:=M.st,ended:=3,stuck:=5}:Mc):=by
       have hok:=MOk.fail (h.ok) 5;have:=hok.top' (s':=M.st) (f':={ M.top with at':=M.top.at'+1}) h.ok.g hid (hG.put hid (fun a ha=>.inl ha) hG.lsk) (fun he=>by cases he);exact this
     exact this
   · rename_i hh;simp only [not_or,Classical.not_not] at hh;rw [self];refine h.goes (go (by omega) (by omega) (by omega)) h.ok.g hid (fun a ha'=>?_) (by simp [stackedS,e,hh.2.2];omega);rcases List.mem_append.1 ha' with ha' | ha'
     · exact .inl (take_mem ha')
     · exact .inr (hnd.2.1 _ (List.mem_reverse.1 ha'))
 ·
   simp [stackedS,e] at s1;have hgo:=h.goes (x:=x) (go (by omega) (by omega) (by omega)) h.ok.g hid (st:=M.top.stack) (fun a ha=>.inl ha) (by simp [stackedS,e]);have hnx:MOk (n+1) M.next:=hgo;have ex:M.next.exec x=if (M.st.nd (M.top.place 0)).kind≠1∧(M.st.nd (M.top.place 0)).kind≠2 then M.next.enter (M.nv (M.top.place 0)) else M.next:=by
     have e1:M.next.nv (M.top.place 0)=M.nv (M.top.place 0):=rfl;simp [Mc.exec,e,hpl,hst,e1]
   rw [ex]
   split
   ·
     have hnv:M.st.In (M.nv (M.top.place 0)):=by
       unfold Mc.nv
       split
       · exact h.ok.g.ovIn (hG.sk _ p0)
       · exact hG.sk _ p0
     have hl:=h.ok.ln;refine ⟨h.ok.tab,h.ok.g,h.ok.gls,h.ok.gln,h.ok.wts,h.ok.wpos,?_,?_,h.ok.base,h.ok.young,h.ok.inp,by omega,?_,hnx.lw,hnx.lt,h.ok.ne5⟩
     · intro f hf;rcases List.mem_append.1 hf with hf | hf
       · exact hnx.frs f hf
       · obtain rfl:=List.mem_singleton.1 hf;exact newFr_ok hnv (by omega)
     · intro he f hf hr;rcases List.mem_append.1 hf with hf | hf
       · exact hnx.run he f hf hr
       · obtain rfl:=List.mem_singleton.1 hf;cases hr
     · have:=h.ok.lf;have e2:M.next.frames.length=M.frames.length:=(setTop_top h.pos _).2;show ((M.next.frames++[_]).length:Int)≤n+1;rw [List.length_append,e2];simp;omega
   · exact hnx
 ·
   simp [stackedS,e] at s1;have hc:cellsOf x=1:=by simp [cellsOf,e]
   have ex:M.next.exec x=if (M.st.nd (M.top.place 0)).kind≠1∨(M.st.nd (M.top.place 1)).kind≠1 then M.next.fail 5
       else if (x.a=4∨x.a=5)∧(M.st.nd (M.top.place 1)).num=0 then M.next.fail 3
       else M.next.put (arithNd x.a (M.st.nd (M.top.place 0)).num (M.st.nd (M.top.place 1)).num) ((2:Nat):Int):=by
     simp [Mc.exec,e,Mc.arith,hpl,hst]
   have hf:∀ how,MOk (n+1) (M.next.fail how):=fun how=>by
     have:=(MOk.fail (h.ok) how).top' (s':=M.st) (f':={ M.top with at':=M.top.at'+1}) h.ok.g hid (hG.put hid (fun a ha=>.inl ha) hG.lsk) (fun he=>by cases he);exact this
   rw [ex]
   split
   · exact hf _
   split
   · exact hf _
   · obtain ⟨m1,m2,m3,m4,m5⟩:=arith_may x.a (M.st.nd (M.top.place 0)).num (M.st.nd (M.top.place 1)).num;refine putK _ 2 (go (by omega) (by omega) (by omega)) m1 m2 (fun a ha=>by rw [m3] at ha;cases ha) ⟨fun e=>absurd e m5,fun e=>?_⟩ (by have:=hroom (by omega);omega) (by omega) (by simp [stackedS,e];omega);have:=h.ok.tab.sn;rcases m4 e with hh | hh<;>rw [hh]<;>omega
 ·
   have ex:M.next.exec x=M.setTop { M.top with at':=x.a}:=by simp [Mc.exec,e,ht,next_set]
   rw [ex,self];have hb:=hn.c13 e;have hat:=h.run.at';refine h.ok.top' h.ok.g hid (hG.put (i:=x.a) (st:=M.top.stack) hid (fun a ha=>.inl ha) hG.lsk) (fun _ _=>run_to (x:=x) (t:=x.a) h.run (by omega) (h.io.jump e) rfl rfl (by simp [stackedS,e]))
 ·
   have ex:M.next.exec x=if (M.st.nd (M.top.place 0)).kind≠2 then M.next.fail 5 else if (M.st.nd (M.top.place 0)).num≠x.a then M.setTop { M.top with at':=x.b} else M.next:=by
     have k:∀ (M:Mc),M.exec x=if (M.st.nd (M.top.place 0)).kind≠2 then M.fail 5 else if (M.st.nd (M.top.place 0)).num≠x.a then M.setTop { M.top with at':=x.b} else M:=fun M=>by simp [Mc.exec,e,Mc.jumpIf]
     rw [k,hpl,hst,ht,next_set]
   have hgo:=h.goes (x:=x) (go (by omega) (by omega) (by omega)) h.ok.g hid (st:=M.top.stack) (fun a ha=>.inl ha) (by simp [stackedS,e]);have hb:=hn.c14 (.inl e);have hat:=h.run.at';rw [ex]
   split
   · have:=(MOk.fail (h.ok) 5).top' (s':=M.st) (f':={ M.top with at':=M.top.at'+1}) h.ok.g hid (hG.put hid (fun a ha=>.inl ha) hG.lsk) (fun he=>by cases he);exact this
   split
   · rw [self];exact h.ok.top' h.ok.g hid (hG.put (i:=x.b) (st:=M.top.stack) hid (fun a ha=>.inl ha) hG.lsk) (fun _ _=>run_to (x:=x) (t:=x.b) h.run (by omega) (h.io.test (.inl e)) rfl rfl (by simp [stackedS,e]))
   · exact hgo
 ·
   have ex:M.next.exec x=if (M.st.nd (M.top.place 0)).kind≠1 then M.next.fail 5 else if (M.st.nd (M.top.place 0)).num≠x.a then M.setTop { M.top with at':=x.b} else M.next:=by
     have k:∀ (M:Mc),M.exec x=if (M.st.nd (M.top.place 0)).kind≠1 then M.fail 5 else if (M.st.nd (M.top.place 0)).num≠x.a then M.setTop { M.top with at':=x.b} else M:=fun M=>by simp [Mc.exec,e,Mc.jumpIf]
     rw [k,hpl,hst,ht,next_set]
   have hgo:=h.goes (x:=x) (go (by omega) (by omega) (by omega)) h.ok.g hid (st:=M.top.stack) (fun a ha=>.inl ha) (by simp [stackedS,e]);have hb:=hn.c14 (.inr e);have hat:=h.run.at';rw [ex]
   split
   · have:=(MOk.fail (h.ok) 5).top' (s':=M.st) (f':={ M.top with at':=M.top.at'+1}) h.ok.g hid (hG.put hid (fun a ha=>.inl ha) hG.lsk) (fun he=>by cases he);exact this
   split
   · rw [self];exact h.ok.top' h.ok.g hid (hG.put (i:=x.b) (st:=M.top.stack) hid (fun a ha=>.inl ha) hG.lsk) (fun _ _=>run_to (x:=x) (t:=x.b) h.run (by omega) (h.io.test (.inr e)) rfl rfl (by simp [stackedS,e]))
   · exact hgo
 ·
   have ex:M.next.exec x=M.next.fail x.a:=by simp [Mc.exec,e]
   rw [ex];have:=(MOk.fail (h.ok) x.a).top' (s':=M.st) (f':={ M.top with at':=M.top.at'+1}) h.ok.g hid (hG.put hid (fun a ha=>.inl ha) hG.lsk) (fun he=>by cases he);exact this
 ·
   have ex:M.next.exec x=M.setTop { M.top with at':=M.top.at'+1,runs:=false,stands:=M.top.stack.getD 0 0,stack:=[]}:=by simp [Mc.exec,e,ht,next_set]
   rw [ex,self];refine h.ok.top' h.ok.g hid ⟨hG.sp,(fun a ha=>by cases ha),hG.sk _ (getD_mem (by omega)),by have:=hG.lsp;show (M.top.spine.length:Int)≤_;omega,by simp⟩ (fun _ he=>by cases he)
end
end
section
open Go Go.W
section
variable {n:Int} {M:Mc}
theorem last_mem (h:0 < M.wait.length):M.last∈M.wait:=getD_mem (by omega)
theorem MOk.tell (h:MOk n M) (he:M.ended=0):MOk (n+1) M.tell:=by
 have hw:=h.wpos he;have hl:=h.wts _ (last_mem hw);have hnd:=h.g.nd hl;have hln:=h.ln;unfold Mc.tell
 split
 · rename_i hk;have hargs:(M.st.nd M.last).args.length≤8:=by
     have:=may_kind hnd.1;rcases hk with hk | hk
     · rw [(this.1 hk).1];simp
     · exact (this.2.1 hk).1
   refine ⟨h.tab,h.g,h.gls,h.gln,?_,?_,fun f hf=>(h.frs f hf).weak (fun _ h=>h) (by omega),fun e f hf hr=>h.run he f hf hr,h.base,h.young,h.inp,by omega,?_,?_,?_,?_⟩
   · intro a ha;rcases List.mem_append.1 ha with ha | ha
     · exact h.wts a (take_mem ha)
     · exact hnd.2.1 a (List.mem_reverse.1 ha)
   · intro e;apply Nat.pos_of_ne_zero;intro h0;have e:(if (M.wait.take (M.wait.length - 1)++(M.st.nd M.last).args.reverse).length=0 then 2 else M.ended)=0:=e;have h0:(M.wait.take (M.wait.length - 1)++(M.st.nd M.last).args.reverse).length=0:=h0;rw [if_pos h0] at e;cases e
   · have:=h.lf;show (M.frames.length:Int)≤_;omega
   · have:=h.lw;show ((M.wait.take (M.wait.length - 1)++(M.st.nd M.last).args.reverse).length:Int)≤_;simp only [List.length_append,List.length_take,List.length_reverse];omega
   · have:=h.lt;show ((M.told++[_]).length:Int)≤_;simp only [List.length_append,List.length_cons,List.length_nil];omega
   · show (if _ then (2:Int) else M.ended)≠5
     split
     · decide
     · rw [he];decide
 · refine h.enter ?_;unfold Mc.nv
   split
   · exact h.g.ovIn hl
   · exact hl
theorem getD1 {s:St} {T:Tab} (h:GOk T s) {a:Int} (ha:s.In a) (hk:(s.nd a).kind=3):s.In ((s.nd a).args.getD 1 0)∧s.In ((s.nd a).args.getD 0 0):=by
 have hnd:=h.nd ha;have hl:=(may_kind hnd.1).2.2.1 hk;exact ⟨hnd.2.1 _ (getD_mem (by omega)),hnd.2.1 _ (getD_mem (by omega))⟩
theorem St.nd_ov {s:St} {T:Tab} (h:GOk T s) {a:Int} (ha:s.In a):s.ov (s.ov a:Int)=s.ov a∧s.nd (s.ov a:Int)=s.nd a:=by
 have e:s.ov (s.ov a:Int)=s.ov a:=by
   have:=h.ovov ha
   simpa [St.ov] using this
 exact ⟨e,by unfold St.nd;rw [e]⟩
theorem own_len (f:Fr) {ar:Int} (h:0≤ar∧ar≤f.spine.length):(f.own ar).length=ar.toNat:=by
 simp only [Fr.own,List.length_drop];omega
theorem own_mem {f:Fr} {ar a:Int} (h:a∈f.own ar):a∈f.spine:=List.mem_of_mem_drop h
theorem head_in (h:MOk n M) {f:Fr} (hG:FrG M.st n f) {ar:Int} (h4:(M.st.nd f.stands).kind=4) (hall:∀ s∈f.own ar,(M.st.nd s).kind=3) :
   M.st.In (M.head f ar)∧(ndAt M.st.ns (M.st.ov (M.head f ar))).kind≠5∧M.st.ov (M.head f ar) < M.st.ns.length:=by
 unfold Mc.head
 split
 · obtain ⟨e1,e2⟩:=St.nd_ov h.g hG.sd;refine ⟨h.g.ovIn hG.sd,?_,h.g.ov (h.g.ovIn hG.sd)⟩;rw [e1];show (M.st.nd f.stands).kind≠5;rw [h4];decide
 · rename_i s l hs;have hm:s∈f.own ar:=by rw [hs];exact List.mem_cons_self
   have hin:=hG.sp _ (own_mem hm);have hk:=hall _ hm;have k5:(M.st.nd s).kind≠5:=by rw [hk];decide
   split
   · exact ⟨hin,k5,h.g.ov hin⟩
   · obtain ⟨e1,e2⟩:=St.nd_ov h.g hin;refine ⟨h.g.ovIn hin,?_,h.g.ov (h.g.ovIn hin)⟩;rw [e1];exact k5
theorem MOk.call (h:MOk n M) (hp:0 < M.frames.length) (h4:(M.st.nd M.top.stands).kind=4) (har:(M.top.spine.length:Int)≥(M.tab.gl (M.st.nd M.top.stands).num).arity):MOk (n+1) (M.call M.top (M.st.nd M.top.stands).num):=by
 have hG:=h.topG hp;have hnd:=h.g.nd hG.sd;have hnum:0≤(M.st.nd M.top.stands).num∧(M.st.nd M.top.stands).num < M.tab.globals.length:=⟨((may_kind hnd.1).2.2.2.1 h4).2,hnd.2.2.1 h4⟩;obtain ⟨hcode,a0,a24,_⟩:=h.tab.gls _ (gl_mem hnum);unfold Mc.call
 split
 · rename_i hall;have hall:∀ s∈M.top.own (M.tab.gl (M.st.nd M.top.stands).num).arity,(M.st.nd s).kind=3:=fun s hs=>by simpa using List.all_eq_true.1 hall s hs
   obtain ⟨i1,i2,i3⟩:=head_in h hG h4 hall;have hl:=own_len M.top ⟨a0,har⟩;refine h.top' (h.g.set i3 i2 rfl (by decide) (fun a ha=>by cases ha) ⟨(fun e=>by cases e),(fun e=>by cases e)⟩) (fun a ha=>In.set ha _ _) ⟨?_,?_,In.set hG.sd _ _,?_,?_⟩ ?_
   · intro a ha;exact In.set (hG.sp a (take_mem ha)) _ _
   · intro a ha;rcases List.mem_cons.1 ha with rfl | ha
     · exact In.set i1 _ _
     · obtain ⟨s,hs,rfl⟩:=List.mem_map.1 ha;exact In.set (getD1 h.g (hG.sp s (own_mem hs)) (hall s hs)).1 _ _
   · have:=hG.lsp;show ((M.top.spine.take _).length:Int)≤_;rw [List.length_take];omega
   · simp only [List.length_cons,List.length_map,hl];omega
   · intro he hr;refine ⟨hnum,⟨by show (0:Int)≤0;omega,by have:=hcode.pos;show (0:Int) < ((M.tab.gl (M.st.nd M.top.stands).num).code.length:Int);omega⟩,?_⟩;show (depthsS M.tab (M.tab.gl (M.st.nd M.top.stands).num)).getD (0:Int).toNat 0=_;rw [show (0:Int).toNat=0 from rfl,hcode.start];simp only [List.length_cons,List.length_map,hl];omega
 · exact (h.fail 5).more (by omega)
theorem GOk.add' {T:Tab} {s:St} (h:GOk T s) {nd:Nd} (hm:nd.may=true) (hk:nd.kind≠5∧nd.kind≠4∧nd.kind≠2) (ha:∀ a∈nd.args,s.In a) (hr:(s.ns.length:Int) < s.size):GOk T (s.add nd):=
 h.add hm hk.1 ha ⟨fun e=>absurd e hk.2.1,fun e=>absurd e hk.2.2⟩ hr
theorem len_add (s:St) (nd:Nd):(s.add nd).ns.length=s.ns.length+1:=by simp [St.add]
theorem MOk.lacks2 (h:MOk n M) (hp:0 < M.frames.length) (hw:0 < M.wait.length) (hroom:(M.st.ns.length:Int)+2≤M.st.size) (hru:M.top.runs=false):MOk (n+1) M.lacks2:=by
 have hG:=h.topG hp;have hl:=h.wts _ (last_mem hw);have g1:=h.g.add' (nd:=⟨8,0,[]⟩) rfl (by decide) (fun a ha=>by cases ha) (by omega)
 have g2:=g1.add' (nd:=⟨3,0,[M.last,M.st.ns.length]⟩) rfl (by simp) (fun a ha=>by
   simp only [List.mem_cons,List.not_mem_nil,or_false] at ha;rcases ha with rfl | rfl
   · exact In.add hl _
   · exact In.new _ _) (by rw [len_add];show ((M.st.ns.length+1:Nat):Int) < M.st.size;omega)
 have hs:∀ a,M.st.In a→((M.st.add ⟨8,0,[]⟩).add ⟨3,0,[M.last,M.st.ns.length]⟩).In a:=fun a ha=>In.add (In.add ha _) _
 have hnew:((M.st.add ⟨8,0,[]⟩).add ⟨3,0,[M.last,M.st.ns.length]⟩).In ((M.st.ns.length:Int)+1):=by
   have:=In.new (M.st.add ⟨8,0,[]⟩) ⟨3,0,[M.last,M.st.ns.length]⟩;rw [len_add] at this
   simpa using this
 have k:=h.top' (f':={ M.top with stands:=(M.st.ns.length:Int)+1,spine:=[]}) g2 hs ⟨fun a ha=>(by cases ha),fun a ha=>hs a (hG.sk a ha),hnew,by have:=h.ln;show (([]:List Int).length:Int)≤_;simp;omega,hG.lsk⟩ (fun _ hr=>by rw [show ({ M.top with stands:=(M.st.ns.length:Int)+1,spine:=[]}:Fr).runs=M.top.runs from rfl,hru] at hr;cases hr);refine ⟨k.tab,k.g,k.gls,k.gln,?_,?_,k.frs,k.run,k.base,k.young,k.inp,k.ln,k.lf,?_,k.lt,k.ne5⟩
 · intro a ha;rcases List.mem_or_eq_of_mem_set ha with ha | rfl
   · exact k.wts a ha
   · exact hnew
 · intro _;show 0 < (M.wait.set _ _).length;rw [List.length_set];exact hw
 · show ((M.wait.set _ _).length:Int)≤_;rw [List.length_set];exact k.lw
theorem room_keeps (M:Mc) (k:Int) (ht:(M.room k).1=true):(M.room k).2.frames.length=M.frames.length∧(M.room k).2.wait.length=M.wait.length∧(M.room k).2.ended=M.ended∧(M.room k).2.tab=M.tab∧(M.room k).2.input=M.input∧(M.room k).2.steps=M.steps ∧
   ∃ g,(0 < M.frames.length→(M.room k).2.top=M.top.mapP g):=by
 obtain ⟨g,s,b,e⟩:=room_form M k ht;rw [e];refine ⟨by simp [Mc.mapP],by simp [Mc.mapP],rfl,rfl,rfl,rfl,g,fun hp=>?_⟩;simp only [Mc.top,Mc.mapP,List.length_map];rw [List.getD_eq_getElem?_getD,List.getElem?_map,List.getElem?_eq_getElem (by omega:M.frames.length - 1 < M.frames.length),List.getD_eq_getElem?_getD,List.getElem?_eq_getElem (by omega:M.frames.length - 1 < M.frames.length)];rfl
theorem room_false (M:Mc) (k:Int) (ht:(M.room k).1=false):(M.room k).2.ended=5:=by
 unfold Mc.room at ht ⊢
 split at ht
 · cases ht
 · rename_i hq;rw [if_neg hq]
   split at ht
   · rfl
   · cases ht
def NoRoom (M M':Mc):Prop:=∃ k,0≤k∧(M.room k).1=false∧M'=(M.room k).2
theorem NoRoom.ended {M M':Mc} (h:NoRoom M M'):M'.ended=5:=by
 obtain ⟨k,_,hf,rfl⟩:=h;exact room_false M k hf
theorem MOk.lacks (h:MOk n M) (hp:0 < M.frames.length) (he:M.ended=0) (hru:M.top.runs=false):NoRoom M M.lacks∨MOk (n+1) M.lacks:=by
 unfold Mc.lacks
 split
 · exact .inr (h.leave.more (by omega))
 split
 · exact .inr ((h.fail 5).more (by omega))
 split
 · rename_i ht;obtain ⟨k1,k2⟩:=h.room (by omega) ht;obtain ⟨e1,e2,e3,_,_,_,g,e4⟩:=room_keeps M 2 ht;refine .inr (k1.lacks2 (by omega) (by rw [e2];exact h.wpos he) k2 (by rw [e4 hp];exact hru))
 · rename_i ht;exact .inl ⟨2,by omega,by simpa using ht,rfl⟩
theorem MOk.nconly (h:MOk n M) {s':St} (hg:GOk M.tab s') (hs:∀ a,M.st.In a→s'.In a):MOk n { M with st:=s'}:=
 ⟨h.tab,hg,fun a ha=>hs a (h.gls a ha),h.gln,fun a ha=>hs a (h.wts a ha),h.wpos,fun f hf=>(h.frs f hf).weak hs (by omega),h.run,h.base,h.young,h.inp,h.ln,h.lf,h.lw,h.lt,h.ne5⟩
theorem ndAt_add {s:St} {nd:Nd} {p:Nat} (hp:p < s.ns.length):ndAt (s.add nd).ns p=ndAt s.ns p:=ndAt_app hp
theorem MOk.read2 (h:MOk n M) (hp:0 < M.frames.length) (h8:(M.st.nd M.top.stands).kind=8) {k:Int} (hk:0≤k∧k < M.input.length) (hroom:(M.st.ns.length:Int)+2≤M.st.size):MOk n (M.read2 k):=by
 have hG:=h.topG hp;have hsd:=hG.sd;have hnum:isNum (M.input.getD k.toNat 0):=h.inp _ (getD_mem (by omega));have m1:(⟨1,M.input.getD k.toNat 0,[]⟩:Nd).may=true:=may_int hnum;have m2:(⟨8,k+1,[]⟩:Nd).may=true:=by simp [Nd.may,mayB];omega
 have g1:=h.g.add' (nd:=⟨1,M.input.getD k.toNat 0,[]⟩) m1 (by simp) (fun a ha=>by cases ha) (by omega);have g2:=g1.add' (nd:=⟨8,k+1,[]⟩) m2 (by simp) (fun a ha=>by cases ha) (by rw [len_add];show ((M.st.ns.length+1:Nat):Int) < M.st.size;omega);have hov:=h.g.ov hsd;have e1:ndAt ((M.st.add ⟨1,M.input.getD k.toNat 0,[]⟩).add ⟨8,k+1,[]⟩).ns (M.st.ov M.top.stands)=M.st.nd M.top.stands:=by
   rw [ndAt_add (by rw [len_add];omega),ndAt_add hov];rfl
 have hsn:=h.tab.sn;refine h.nconly (g2.set (by rw [len_add,len_add];omega) (by rw [e1,h8];decide) rfl (by simp) (fun a ha=>?_) ⟨(fun e=>by cases e),fun _=>by show (4:Int) < _;omega⟩) (fun a ha=>In.set (In.add (In.add ha _) _) _ _);simp only [List.mem_cons,List.not_mem_nil,or_false] at ha;rcases ha with rfl | rfl
 · exact In.add (In.new _ _) _
 · have:=In.new (M.st.add ⟨1,M.input.getD k.toNat 0,[]⟩) ⟨8,k+1,[]⟩;rw [len_add] at this
   simpa using this
theorem alike_nd {ns ms:List Nd} {rs:List Int} {g:Int→Int} (h:Alike ns rs ms (rs.map g)) {a:Int} (ha:a∈rs) :
   (ndAt ms (over ms (g a).toNat)).kind=(ndAt ns (over ns a.toNat)).kind∧(ndAt ms (over ms (g a).toNat)).num=(ndAt ns (over ns a.toNat)).num∧(ndAt ms (over ms (g a).toNat)).args.length=(ndAt ns (over ns a.toNat)).args.length:=by
 obtain ⟨R,h1,h2,h3⟩:=h;obtain ⟨i,hi,rfl⟩:=List.getElem_of_mem ha;have:=h3 i rs[i] (g rs[i]) (List.getElem?_eq_getElem hi) (by rw [List.getElem?_map,List.getElem?_eq_getElem hi];rfl);obtain ⟨e1,e2,e3⟩:=h1.nd _ _ this;exact ⟨e1.symm,e2.symm,e3.symm⟩
theorem alike_id {T:Tab} {s:St} (h:GOk T s) {rs:List Int} (hr:∀ a∈rs,s.In a):Alike s.ns rs s.ns rs:=alike_refl h.st.wf (okPl_of hr)
theorem alike_col {T:Tab} {s:St} (h:GOk T s) {fr:Nat} (hfr:fr≤s.ns.length) {rs:List Int} (hr:∀ a∈rs,s.In a):Alike s.ns rs (smallNs s.ns fr rs) (rs.map (numF s.ns fr (smallO s.ns fr rs))):=alike_small h.st.wf hfr (okPl_of hr)
theorem stCol_alike {T:Tab} {s:St} (h:GOk T s) {roots:List Int} (hr:∀ a∈roots,s.In a):Alike s.ns roots (stCol s roots).2.ns (roots.map (colRen s roots)):=by
 obtain ⟨kd,sz,ns⟩:=s;have k:=alike_col h (fr:=0) (Nat.zero_le _) hr;cases kd with
 | hp t=>
   simp only [stCol,colRen,(col_small ns roots).1,← small_reached,← numF_zero];exact k
 | gn y o t=>exact k
 | ref=>
   simp only [stCol,colRen,(col_small ns roots).1,← small_reached,← numF_zero];exact k
theorem stRoom_alike {T:Tab} {s:St} (h:GOk T s) {roots:List Int} (hr:∀ a∈roots,s.In a) {k:Int} (hk:0≤k) {l:List Int} (hl:(stRoom s k roots).1=some l):Alike s.ns roots (stRoom s k roots).2.ns (roots.map (stRen s k roots)):=by
 have hpl:okPl s.ns.length roots=true:=okPl_of hr;obtain ⟨kd,sz,ns⟩:=s;have k0:=alike_col h (fr:=0) (Nat.zero_le _) hr;have kid:=alike_id h hr;cases kd with
 | hp t=>
   simp only [stRoom,stRen,roomS] at hl ⊢;simp only at hpl;rw [if_neg (by omega),if_neg (by simp [hpl])] at hl ⊢
   split at hl
   · rename_i hh;rw [if_pos hh,if_pos hh,List.map_id];exact kid
   · rename_i hh;rw [if_neg hh,if_neg hh]
     split at hl
     · cases hl
     · rename_i hh2;rw [if_neg hh2];simp only [(col_small ns roots).1,← small_reached,← numF_zero];exact k0
 | gn y o t=>
   have hkd:=h.st.kd;have hfr:o≤ns.length:=hkd.1;simp only [stRoom,stRen,groomS] at hl ⊢;simp only at hpl;rw [if_neg (by omega),if_neg (by simp [hpl])] at hl ⊢
   split at hl
   · rename_i hh;rw [if_pos hh,if_pos hh,List.map_id];exact kid
   · rename_i hh;rw [if_neg hh,if_neg hh];have h1:=h.small (s:=⟨.gn y o t,sz,ns⟩) (fr:=o) hfr (roots:=roots) hr (kd:=.gn y (smallNs ns o roots).length (IntKind.i64.wrap (t+1))) ⟨Nat.le_refl _,hkd.2⟩;have a1:=alike_col h (fr:=o) hfr hr
     split at hl
     · rename_i hh2;rw [if_pos hh2,if_pos hh2];have a2:=alike_col (s:=⟨.gn y (smallNs ns o roots).length (IntKind.i64.wrap (t+1)),sz,smallNs ns o roots⟩) h1.1 (fr:=0) (Nat.zero_le _) (rs:=smallRoots ns o roots)
         (fun a ha=>by obtain ⟨c,hc,rfl⟩:=List.mem_map.1 ha;exact h1.2 c hc)
       have e:roots.map (fun p=>numF (smallNs ns o roots) 0 (smallO (smallNs ns o roots) 0 (smallRoots ns o roots)) (numF ns o (smallO ns o roots) p))=(smallRoots ns o roots).map (numF (smallNs ns o roots) 0 (smallO (smallNs ns o roots) 0 (smallRoots ns o roots))):=by
         simp [smallRoots]
       rw [e];unfold endS at hl ⊢
       split at hl
       · cases hl
       · rename_i hh3;rw [if_neg hh3];exact alike_trans a1 a2
     · rename_i hh2;rw [if_neg hh2,if_neg hh2];exact a1
 | ref=>
   simp only [stRoom,stRen] at hl ⊢
   split at hl
   · cases hl
   · rename_i hh;rw [if_neg hh];simp only [(col_small ns roots).1,← small_reached,← numF_zero];exact k0
theorem MOk.room_alike (h:MOk n M) {k:Int} (hk:0≤k) (ht:(M.room k).1=true):∃ g s b,(M.room k).2 = { M.mapP g with st:=s,base:=b}∧Alike M.st.ns M.roots s.ns (M.roots.map g)∧s.size=M.st.size∧s.kd.ok s.ns.length:=by
 have k1:=(h.room hk ht).1.g.st.kd;unfold Mc.room at ht ⊢
 split at ht
 · rename_i hq;rw [if_pos hq];refine ⟨id,M.st,M.base,by rw [mapP_id],?_,rfl,h.g.st.kd⟩;rw [List.map_id];exact alike_id h.g h.roots
 · rename_i hq;rw [if_neg hq]
   split at ht
   · cases ht
   · rename_i l hl;exact ⟨_,_,_,rfl,stRoom_alike h.g h.roots hk hl,stRoom_size _ _ _,(room_st h.g h.roots hk hl).1.st.kd⟩
theorem stands_root (hp:0 < M.frames.length):M.top.stands∈M.roots:=by
 unfold Mc.roots;exact List.mem_append_left _ (List.mem_append_right _ (List.mem_flatMap.2 ⟨M.top,top_mem hp,by simp [Fr.roots]⟩))
theorem top_map (g:Int→Int) (hp:0 < M.frames.length):(M.mapP g).top=M.top.mapP g:=by
 simp only [Mc.top,Mc.mapP,List.length_map];rw [List.getD_eq_getElem?_getD,List.getElem?_map,List.getElem?_eq_getElem (by omega:M.frames.length - 1 < M.frames.length),List.getD_eq_getElem?_getD,List.getElem?_eq_getElem (by omega:M.frames.length - 1 < M.frames.length)];rfl
theorem MOk.room_kind (h:MOk n M) (hp:0 < M.frames.length) {k:Int} (hk:0≤k) (ht:(M.room k).1=true):((M.room k).2.st.nd (M.room k).2.top.stands).kind=(M.st.nd M.top.stands).kind:=by
 obtain ⟨g,s,b,e,ha,_⟩:=h.room_alike hk ht;rw [e];have et:({ M.mapP g with st:=s,base:=b}:Mc).top=M.top.mapP g:=top_map g hp;rw [et];exact (alike_nd ha (stands_root hp)).1
theorem MOk.read (h:MOk n M) (hp:0 < M.frames.length) (h8:(M.st.nd M.top.stands).kind=8) :
   NoRoom M (M.read M.top (M.st.nd M.top.stands).num)∨MOk n (M.read M.top (M.st.nd M.top.stands).num):=by
 have hG:=h.topG hp;have hnd:=h.g.nd hG.sd;have hnum:=((may_kind hnd.1).2.2.2.2.1 h8).2;have hsn:=h.tab.sn;unfold Mc.read
 split
 · refine .inr (h.nconly (h.g.set (h.g.ov hG.sd) (by show (M.st.nd M.top.stands).kind≠5;rw [h8];decide) rfl (by simp) (fun a ha=>by cases ha) ⟨(fun e=>by cases e),fun _=>by show (3:Int) < _;omega⟩) (fun a ha=>In.set ha _ _))
 · rename_i hk
   split
   · rename_i ht;obtain ⟨k1,k2⟩:=h.room (by omega) ht;obtain ⟨e1,e2,e3,e5,e6,_,g,e4⟩:=room_keeps M 2 ht;exact .inr (k1.read2 (by omega) (by rw [h.room_kind hp (by omega) ht];exact h8) (by rw [e6];omega) k2)
   · rename_i ht;exact .inl ⟨2,by omega,by simpa using ht,rfl⟩
theorem MOk.unwind (h:MOk n M) (hp:0 < M.frames.length) (he:M.ended=0) (hru:M.top.runs=false):NoRoom M (M.unwind M.top)∨MOk (n+1) (M.unwind M.top):=by
 have hG:=h.topG hp;have hnd:=h.g.nd hG.sd;unfold Mc.unwind
 split
 · rename_i hk;refine .inr (h.top' (s':=M.st) (f':={ M.top with spine:=M.top.spine++[(M.st.ov M.top.stands:Int)],stands:=(M.st.nd M.top.stands).args.getD 0 0}) h.g (fun _ h=>h) ⟨?_,hG.sk,(getD1 h.g hG.sd hk).2,?_,hG.lsk⟩ (fun _ hr=>by rw [show ({ M.top with spine:=M.top.spine++[(M.st.ov M.top.stands:Int)],stands:=(M.st.nd M.top.stands).args.getD 0 0}:Fr).runs=M.top.runs from rfl,hru] at hr;cases hr))
   · intro a ha;rcases List.mem_append.1 ha with ha | ha
     · exact hG.sp a ha
     · obtain rfl:=List.mem_singleton.1 ha;exact h.g.ovIn hG.sd
   · have:=hG.lsp;show ((M.top.spine++[_]).length:Int)≤_;simp only [List.length_append,List.length_cons,List.length_nil];omega
 split
 · rename_i hk
   split
   · rename_i har;exact .inr (h.call hp hk har)
   · exact h.lacks hp he hru
 split
 · split
   · exact .inr ((h.fail 5).more (by omega))
   · exact .inr (h.leave.more (by omega))
 split
 · rename_i hk;exact (h.read hp hk).imp id (fun h=>h.more (by omega))
 split
 · exact .inr ((h.fail 5).more (by omega))
 · exact .inr ((h.fail 4).more (by omega))
theorem MOk.runs (h:MOk n M) (hp:0 < M.frames.length) (he:M.ended=0) (hru:M.top.runs=true):NoRoom M M.run∨MOk (n+1) M.run:=by
 have hA:AtIns n M M.insOf:=⟨h,hp,he,hru,rfl⟩;have hc:0≤cellsOf M.insOf:=by
   have:=hA.io.nums.c1;unfold cellsOf
   split
   · omega
   split
   · rename_i h8;exact this (.inr (.inr (.inr h8)))
   · omega
 unfold Mc.run
 split
 · rename_i hh;exact .inl ⟨_,hc,hh.2,rfl⟩
 · rename_i hh
   split
   · rename_i hpos;have ht:(M.room (cellsOf M.insOf)).1=true:=by
       cases hb:(M.room (cellsOf M.insOf)).1 with
       | true=>rfl
       | false=>exact absurd ⟨hpos,hb⟩ hh
     obtain ⟨k1,k2⟩:=h.room hc ht;obtain ⟨e1,e2,e3,e5,e6,_,g,e4⟩:=room_keeps M (cellsOf M.insOf) ht;have e4:=e4 hp;refine .inr (AtIns.exec ⟨k1,by omega,by rw [e3];exact he,by rw [e4];exact hru,?_⟩ (fun _=>k2));show _=((M.room (cellsOf M.insOf)).2.tab.gl (M.room (cellsOf M.insOf)).2.top.glob).ins (M.room (cellsOf M.insOf)).2.top.at';rw [e4,e5];rfl
   · rename_i hpos;exact .inr (hA.exec (fun h=>absurd h hpos))
theorem MOk.work (h:MOk n M) (he:M.ended=0):NoRoom M M.work∨MOk (n+1) M.work:=by
 unfold Mc.work
 split
 · exact .inr (h.tell he)
 · rename_i hp
   split
   · rename_i hr;exact h.runs (by omega) he hr
   · rename_i hr;exact h.unwind (by omega) he (by simpa using hr)
theorem MOk.stepped (h:MOk n M) (k:Int):MOk n { M with steps:=k}:=⟨h.tab,h.g,h.gls,h.gln,h.wts,h.wpos,h.frs,h.run,h.base,h.young,h.inp,h.ln,h.lf,h.lw,h.lt,h.ne5⟩
theorem MOk.step (h:MOk n M) (he:M.ended=0):(NoRoom M M.work∧M.step=M.work)∨(MOk (n+1) M.work∧MOk (n+1) M.step∧M.step=({ M.work with steps:=M.work.steps+1}:Mc).tidy):=by
 unfold Mc.step;rw [if_neg (by simp [he])];rcases h.work he with hw | hw
 · exact .inl ⟨hw,by rw [if_pos hw.ended]⟩
 · rw [if_neg hw.ne5];exact .inr ⟨hw,(hw.stepped _).tidy,rfl⟩
end
end
section
open Go Go.W
section
variable {α β:Type} {P Q:α→β→Prop} {l l':List α} {m m':List β}
end
section
variable {ρ:Int→Int}
end
section
variable {ns ms:List Nd} {R:Nat→Nat→Prop}
end
end
section
open Go Go.W
section
variable {ρ:Int→Int} {E:List Nat} {R R':Nat→Nat→Prop} {M1 M2:Mc} {s1 s2:St} {n n1 n2:Int}
end
end
section
open Go Go.W
section
variable {ρ:Int→Int} {E:List Nat} {R:Nat→Nat→Prop} {M1 M2:Mc} {n1 n2:Int}
end
end
section
open Go Go.W
theorem exec1 {M:Mc} {x:Ins} (e:x.op=1):M.exec x=M.setTop (M.top.push (M.top.place x.a)):=by unfold Mc.exec;rw [if_pos e]
theorem exec2 {M:Mc} {x:Ins} (e:x.op=2):M.exec x=M.setTop (M.top.push (M.globals.getD x.a.toNat 0)):=by unfold Mc.exec;rw [if_neg (by omega),if_pos e]
theorem exec3 {M:Mc} {x:Ins} (e:x.op=3):M.exec x=M.put ⟨1,x.a,[]⟩ 0:=by unfold Mc.exec;rw [if_neg (by omega),if_neg (by omega),if_pos e]
theorem exec4 {M:Mc} {x:Ins} (e:x.op=4):M.exec x=M.setTop (M.top.pop x.a):=by unfold Mc.exec;rw [if_neg (by omega),if_neg (by omega),if_neg (by omega),if_pos e]
theorem exec5 {M:Mc} {x:Ins} (e:x.op=5):M.exec x=M.setTop ((M.top.pop (x.a+1)).push (M.top.place 0)):=by unfold Mc.exec;rw [if_neg (by omega),if_neg (by omega),if_neg (by omega),if_neg (by omega),if_pos e]
theorem exec6 {M:Mc} {x:Ins} (e:x.op=6):M.exec x=M.put ⟨3,0,[M.top.place 0,M.top.place 1]⟩ 2:=by unfold Mc.exec;rw [if_neg (by omega),if_neg (by omega),if_neg (by omega),if_neg (by omega),if_neg (by omega),if_pos e]
theorem exec7 {M:Mc} {x:Ins} (e:x.op=7):M.exec x = { M.setTop (M.top.pop 1) with st:=M.st.set (M.st.ov (M.top.place x.a)) ⟨5,0,[(M.st.ov (M.top.place 0):Int)]⟩}:=by unfold Mc.exec;rw [if_neg (by omega),if_neg (by omega),if_neg (by omega),if_neg (by omega),if_neg (by omega),if_neg (by omega),if_pos e]
theorem exec8 {M:Mc} {x:Ins} (e:x.op=8):M.exec x=M.alloc x.a.toNat:=by unfold Mc.exec;rw [if_neg (by omega),if_neg (by omega),if_neg (by omega),if_neg (by omega),if_neg (by omega),if_neg (by omega),if_neg (by omega),if_pos e]
theorem exec9 {M:Mc} {x:Ins} (e:x.op=9):M.exec x=M.put ⟨2,x.a,(List.range (M.tab.sh x.a).fields.toNat).map fun i:Nat=>M.top.place (i:Int)⟩ (M.tab.sh x.a).fields:=by unfold Mc.exec;rw [if_neg (by omega),if_neg (by omega),if_neg (by omega),if_neg (by omega),if_neg (by omega),if_neg (by omega),if_neg (by omega),if_neg (by omega),if_pos e]
theorem exec10 {M:Mc} {x:Ins} (e:x.op=10):M.exec x=if (M.st.nd (M.top.place 0)).kind≠2∨(M.st.nd (M.top.place 0)).num≠x.a∨((M.st.nd (M.top.place 0)).args.length:Int)≠(M.tab.sh x.a).fields then M.fail 5 else M.setTop { M.top.pop 1 with stack:=(M.top.pop 1).stack++(M.st.nd (M.top.place 0)).args.reverse}:=by unfold Mc.exec;rw [if_neg (by omega),if_neg (by omega),if_neg (by omega),if_neg (by omega),if_neg (by omega),if_neg (by omega),if_neg (by omega),if_neg (by omega),if_neg (by omega),if_pos e]
theorem exec11 {M:Mc} {x:Ins} (e:x.op=11):M.exec x=if (M.st.nd (M.top.place 0)).kind≠1∧(M.st.nd (M.top.place 0)).kind≠2 then M.enter (M.nv (M.top.place 0)) else M:=by unfold Mc.exec;rw [if_neg (by omega),if_neg (by omega),if_neg (by omega),if_neg (by omega),if_neg (by omega),if_neg (by omega),if_neg (by omega),if_neg (by omega),if_neg (by omega),if_neg (by omega),if_pos e]
theorem exec12 {M:Mc} {x:Ins} (e:x.op=12):M.exec x=M.arith x:=by unfold Mc.exec;rw [if_neg (by omega),if_neg (by omega),if_neg (by omega),if_neg (by omega),if_neg (by omega),if_neg (by omega),if_neg (by omega),if_neg (by omega),if_neg (by omega),if_neg (by omega),if_neg (by omega),if_pos e]
theorem exec13 {M:Mc} {x:Ins} (e:x.op=13):M.exec x=M.setTop { M.top with at':=x.a}:=by unfold Mc.exec;rw [if_neg (by omega),if_neg (by omega),if_neg (by omega),if_neg (by omega),if_neg (by omega),if_neg (by omega),if_neg (by omega),if_neg (by omega),if_neg (by omega),if_neg (by omega),if_neg (by omega),if_neg (by omega),if_pos e]
theorem exec14 {M:Mc} {x:Ins} (e:x.op=14):M.exec x=M.jumpIf (decide ((M.st.nd (M.top.place 0)).kind≠2)) (decide ((M.st.nd (M.top.place 0)).num≠x.a)) x.b:=by unfold Mc.exec;rw [if_neg (by omega),if_neg (by omega),if_neg (by omega),if_neg (by omega),if_neg (by omega),if_neg (by omega),if_neg (by omega),if_neg (by omega),if_neg (by omega),if_neg (by omega),if_neg (by omega),if_neg (by omega),if_neg (by omega),if_pos e]
theorem exec15 {M:Mc} {x:Ins} (e:x.op=15):M.exec x=M.jumpIf (decide ((M.st.nd (M.top.place 0)).kind≠1)) (decide ((M.st.nd (M.top.place 0)).num≠x.a)) x.b:=by unfold Mc.exec;rw [if_neg (by omega),if_neg (by omega),if_neg (by omega),if_neg (by omega),if_neg (by omega),if_neg (by omega),if_neg (by omega),if_neg (by omega),if_neg (by omega),if_neg (by omega),if_neg (by omega),if_neg (by omega),if_neg (by omega),if_neg (by omega),if_pos e]
theorem exec16 {M:Mc} {x:Ins} (e:x.op=16):M.exec x=M.fail x.a:=by unfold Mc.exec;rw [if_neg (by omega),if_neg (by omega),if_neg (by omega),if_neg (by omega),if_neg (by omega),if_neg (by omega),if_neg (by omega),if_neg (by omega),if_neg (by omega),if_neg (by omega),if_neg (by omega),if_neg (by omega),if_neg (by omega),if_neg (by omega),if_neg (by omega),if_pos e]
theorem exec17 {M:Mc} {x:Ins} (e:x.op=17):M.exec x=M.setTop { M.top with runs:=false,stands:=M.top.stack.getD 0 0,stack:=[]}:=by unfold Mc.exec;rw [if_neg (by omega),if_neg (by omega),if_neg (by omega),if_neg (by omega),if_neg (by omega),if_neg (by omega),if_neg (by omega),if_neg (by omega),if_neg (by omega),if_neg (by omega),if_neg (by omega),if_neg (by omega),if_neg (by omega),if_neg (by omega),if_neg (by omega),if_neg (by omega)]
section
variable {ρ:Int→Int} {E:List Nat} {R:Nat→Nat→Prop} {M1 M2:Mc} {n1 n2:Int}
end
end
section
open Go Go.W
def doF (o:Nat):Nat:=[0,110,113,115,117,119,120,121,123,124,125,126,127,128,129,130,131,133].getD o 0
def cellF (o:Nat):Nat:=if o=3∨o=6∨o=9∨o=12 then 114 else if o=8 then 122 else 109
theorem upto17 {o:Nat} (h:1≤o∧o≤17):o=1∨o=2∨o=3∨o=4∨o=5∨o=6∨o=7∨o=8∨o=9∨o=10∨o=11∨o=12∨o=13∨o=14∨o=15∨o=16∨o=17:=by omega
theorem rows_op {o:Nat} (h:1≤o∧o≤17):rowsV[o]? = some [fnv (cellF o),fnv (doF o)]:=by
 rcases upto17 h with rfl | rfl | rfl | rfl | rfl | rfl | rfl | rfl | rfl | rfl | rfl | rfl | rfl | rfl | rfl | rfl | rfl<;>rfl
section
variable {d:Option Nat} {ty:TypeId} {pos:String} {af:Array Edge} {ρ:Env} {w:World} {K:Value→World→Prop} {y:Operand} {args:Array Operand} {at':Array TypeId}
theorem call_do {o:Nat} (h:1≤o∧o≤17) {vs:List Value} (hx:(toO y).ev ρ=some (fnv (doF o))) (ha:evs ρ (args.toList.map toO)=some vs) (hk:CallsR Tryz.prog (doF o) vs w K) :
   E.wp Tryz.prog w ρ K (.raw ⟨d,.call { callee:=.value y,args:=args,argTypes:=at'},ty,pos,af,none⟩):=by
 rcases upto17 h with rfl | rfl | rfl | rfl | rfl | rfl | rfl | rfl | rfl | rfl | rfl | rfl | rfl | rfl | rfl | rfl | rfl <;>
   exact e_cv hx ha rfl rfl rfl (by simpa using hk)
theorem call_cell {o:Nat} (h:1≤o∧o≤17) {vs:List Value} (hx:(toO y).ev ρ=some (fnv (cellF o))) (ha:evs ρ (args.toList.map toO)=some vs) (hk:CallsR Tryz.prog (cellF o) vs w K) :
   E.wp Tryz.prog w ρ K (.raw ⟨d,.call { callee:=.value y,args:=args,argTypes:=at'},ty,pos,af,none⟩):=by
 rcases upto17 h with rfl | rfl | rfl | rfl | rfl | rfl | rfl | rfl | rfl | rfl | rfl | rfl | rfl | rfl | rfl | rfl | rfl <;>
   exact e_cv hx ha rfl rfl rfl (by simpa using hk)
end
theorem f_one (w:World) (v:Value):CallsR Tryz.prog 114 [v] w fun r w'=>r=I 1∧Mod (fun _=>False) w w':=by
 refine fit114.calls rfl ?_;unfold ir114;(try simp only [go_sem,simprocAttr]);refine e_bx rfl ?_;intro w1 hb1 hm1 _;(try simp only [go_sem,simprocAttr]);exact hm1
theorem f_none (w:World) (v:Value):CallsR Tryz.prog 109 [v] w fun r w'=>r=I 0∧Mod (fun _=>False) w w':=by
 refine fit109.calls rfl ?_;unfold ir109;(try simp only [go_sem,simprocAttr]);refine e_bx rfl ?_;intro w1 hb1 hm1 _;(try simp only [go_sem,simprocAttr]);exact hm1
theorem f_many (w:World) (x:Ins):CallsR Tryz.prog 122 [insV x] w fun r w'=>r=I x.a∧Mod (fun _=>False) w w':=by
 refine fit122.calls rfl ?_;unfold ir122;(try simp only [go_sem,simprocAttr]);refine e_bx rfl ?_;intro w1 hb1 hm1 _;(try simp only [go_sem,simprocAttr,cell_of hb1,Value.cells]);exact hm1
theorem f_cells (w:World) {x:Ins} {o:Nat} (ho:x.op=o) (h:1≤o∧o≤17):CallsR Tryz.prog (cellF o) [insV x] w fun r w'=>r=I (cellsOf x)∧Mod (fun _=>False) w w':=by
 unfold cellF cellsOf;by_cases h1:o=3∨o=6∨o=9∨o=12
 · have h1':x.op=3∨x.op=6∨x.op=9∨x.op=12:=by omega
   simp only [if_pos h1,if_pos h1'];exact f_one w _
 have h1':¬ (x.op=3∨x.op=6∨x.op=9∨x.op=12):=by omega
 simp only [if_neg h1,if_neg h1'];by_cases h2:o=8
 · have h2':x.op=8:=by omega
   simp only [if_pos h2,if_pos h2'];exact f_many w x
 · have h2':¬ x.op=8:=by omega
   simp only [if_neg h2,if_neg h2'];exact f_none w _
section
variable {w:World} {τ:Tag} {m:Nat} {S:SV} {M:Mc} {ks:List Nat} {k:Nat} {x:Ins} {n:Int}
theorem x_exec (hT:TopAt w τ m S M.next ks k) (h:AtIns n M x) (href:M.st.kd≠.ref) (hroom:0 < cellsOf x→(M.st.ns.length:Int)+cellsOf x≤M.st.size) (hf:M.frames.length≤4294967295) {o:Nat} (ho:x.op=o) :
   CallsR Tryz.prog (doF o) [ptr m,ptr k,insV x] w fun _ w'=>∃ ks',MOp w τ m S (M.next.exec x) ks' w':=by
 have hG:=h.ok.topG h.pos;have hn:=h.io.nums;obtain ⟨s1,s2,s3⟩:=h.st;have ht:=next_top h.pos;have hst:M.next.st=M.st:=rfl;have htab:M.next.tab=M.tab:=rfl;have hgl:M.next.globals=M.globals:=rfl;have hpl:∀ k,M.next.top.place k=M.top.place k:=fun k=>by rw [ht];rfl
 have sl:M.next.top.stack.length=M.top.stack.length:=by rw [ht]
 have p0:M.top.place 0∈M.top.stack:=place_mem ⟨by omega,by omega⟩;have lsk:=hG.lsk;have i0:=hG.sk _ p0;have hok:=h.ok.g.st;have hfn:M.next.frames.length=M.frames.length:=(setTop_top h.pos _).2;have gln:=h.ok.gln;have o1:=hn.o1;have o2:=hn.o2;have lift:∀ {M':Mc} {f:Nat} {vs:List Value},CallsR Tryz.prog f vs w (fun _ w'=>MOp w τ m S M' ks w')→CallsR Tryz.prog f vs w (fun _ w'=>∃ ks',MOp w τ m S M' ks' w'):=fun hh=>hh.mono (fun _ _ h=>⟨_,h⟩)
 have nr:M.next.ref=false:=by unfold Mc.ref;rw [hst];split<;>simp_all
 have mk0:=may_kind (h.ok.g.nd i0).1;rcases upto17 (o:=o) (by omega) with rfl | rfl | rfl | rfl | rfl | rfl | rfl | rfl | rfl | rfl | rfl | rfl | rfl | rfl | rfl | rfl | rfl
 ·
   simp [stackedS,ho] at s1;have ha:=hn.c1 (.inl ho);rw [exec1 ho];exact lift (x_push hT (by omega) ⟨ha,by omega⟩)
 · have ha:=hn.c2 ho;rw [exec2 ho];exact lift (x_global hT (by omega) ⟨ha.1,by rw [hgl];omega⟩)
 · have ha:=hn.c3 ho;have hc:cellsOf x=1:=by simp [cellsOf,ho]
   rw [exec3 ho];exact lift (x_int hT hok (by omega) (by have:=hroom (by omega);rw [hst];omega) (may_int ha))
 · simp [stackedS,ho] at s1;have ha:=hn.c1 (.inr (.inl ho));rw [exec4 ho];exact lift (x_pop hT (by omega) ⟨ha,by omega⟩)
 · simp [stackedS,ho] at s1;have ha:=hn.c1 (.inr (.inr (.inl ho)));rw [exec5 ho];exact lift (x_slide hT (by omega) ⟨ha,by omega⟩)
 · simp [stackedS,ho] at s1;have hc:cellsOf x=1:=by simp [cellsOf,ho]
   have p1:M.top.place 1∈M.top.stack:=place_mem ⟨by omega,by omega⟩;rw [exec6 ho];refine lift (x_apply hT hok (by omega) (by have:=hroom (by omega);rw [hst];omega) (by omega) (okPl_of (fun a ha=>?_)));rw [hpl,hpl] at ha;simp only [List.mem_cons,List.not_mem_nil,or_false] at ha;rcases ha with rfl | rfl
   · exact i0
   · exact hG.sk _ p1
 · simp [stackedS,ho] at s1;have ha:=hn.c7 ho;have pa:M.top.place x.a∈M.top.stack:=place_mem ⟨by omega,by omega⟩;rw [exec7 ho];exact lift (x_update hT hok h.ok.g.ends (by omega) ⟨by omega,by omega⟩ (by rw [hpl];exact hG.sk _ pa) (by rw [hpl];exact i0))
 · simp [stackedS,ho] at s1;have ha:=hn.c1 (.inr (.inr (.inr ho)));have hc:cellsOf x=x.a:=by simp [cellsOf,ho]
   have hr:(M.st.ns.length:Int)+x.a.toNat≤M.st.size:=by
     by_cases h0:x.a=0
     · have:=h.ok.g.st.len;rw [h0];simpa using this
     · have:=hroom (by omega);omega
   rw [exec8 ho];exact lift (x_alloc hT hok (n:=x.a.toNat) (by omega) (by omega) hr (fun i hi=>(h.ok.g.adds i (by omega)).st))
 · have hsh:=sh_le h.ok.tab (hn.c9 (.inl ho));obtain ⟨k',hk⟩:∃ k:Nat,(M.tab.sh x.a).fields=k:=⟨(M.tab.sh x.a).fields.toNat,by omega⟩;have hc:cellsOf x=1:=by simp [cellsOf,ho]
   simp [stackedS,ho,hk] at s1;have ha:=hn.c9 (.inl ho);rw [exec9 ho];have e1:(M.next.tab.sh x.a).fields=(k':Int):=hk;rw [e1,Int.toNat_natCast];refine lift (x_pack hT hok (n:=k') ha e1 (by omega) (by omega) (by omega) (by have:=hroom (by omega);rw [hst];omega) (okPl_of (fun a ha=>?_)));unfold fieldsOf at ha;exact hG.sk _ (by have:=fields_mem (f:=M.next.top) (k:=k') (by omega) a ha;rw [ht] at this;exact this)
 · simp [stackedS,ho] at s1;rw [exec10 ho];have h8:(M.st.nd (M.top.place 0)).args.length≤8:=by
     have:=(h.ok.g.nd i0).1;simp only [Nd.may,mayB,decide_eq_true_eq] at this;omega
   exact lift (x_split hT hok h.ok.g.ends (by omega) (by omega) (by rw [hpl];exact i0) (hn.c9 (.inr (.inl ho))) (by rw [hpl];exact h8))
 · rw [exec11 ho];have e:M.next.nv (M.next.top.place 0)=M.next.top.place 0:=by unfold Mc.nv;rw [nr];rfl
   rw [e];exact x_eval hT hok h.ok.g.ends (by omega) (by omega) (by rw [hpl];exact i0) (by omega)
 · simp [stackedS,ho] at s1;have hc:cellsOf x=1:=by simp [cellsOf,ho]
   have p1:M.top.place 1∈M.top.stack:=place_mem ⟨by omega,by omega⟩;rw [exec12 ho];exact lift (x_arith hT hok h.ok.g.ends (by omega) (by omega) (by rw [hpl];exact i0) (by rw [hpl];exact hG.sk _ p1) (by have:=hroom (by omega);rw [hst];omega) h.going (hn.c12 ho))
 · rw [exec13 ho];exact lift (x_jump hT)
 · rw [exec14 ho];exact lift (x_testCon hT hok h.ok.g.ends (by omega) (by omega) (by rw [hpl];exact i0))
 · rw [exec15 ho];exact lift (x_testInt hT hok h.ok.g.ends (by omega) (by omega) (by rw [hpl];exact i0))
 · rw [exec16 ho];exact lift (x_fail hT)
 · rw [exec17 ho];exact lift (x_rewind hT (by omega))
end
end
section
open Go Go.W
section
variable {ρ:Int→Int} {E:List Nat} {R:Nat→Nat→Prop} {M1 M2:Mc} {n1 n2 n:Int} {M:Mc}
def liveS (M:Mc):Nat:=(smallO M.st.ns 0 M.roots).length
end
end
section
open Go Go.W
section
variable {ρ:Int→Int} {E:List Nat} {R:Nat→Nat→Prop} {M1 M2:Mc} {n1 n2 n:Int} {M:Mc}
theorem live_le (h:MOk n M):liveS M≤M.st.ns.length:=by
 have:=small_met h.g.st.wf (Nat.zero_le _) (okPl_of h.roots:okPl M.st.ns.length M.roots=true);exact metF_len this.1
structure Out (M M':Mc):Prop where
 ended:M'.ended=5
 frames:M'.frames=M.frames
 told:M'.told=M.told
 steps:M'.steps=M.steps
 stuck:M'.stuck=M.stuck
 live:M'.live=liveS M
theorem col_len0 (ns:List Nd) (rs:List Int):(colNs ns rs).length=(smallO ns 0 rs).length:=by
 rw [(col_small ns rs).1,small_length,Nat.zero_add]
theorem stRoom_iff {T:Tab} {s:St} {roots:List Int} (hg:GOk T s) (hr:∀ a∈roots,s.In a) {k:Int} (hk:0≤k) :
   ((stRoom s k roots).1=none→k > s.size - (smallO s.ns 0 roots).length∧((reached s.ns roots).length=(smallO s.ns 0 roots).length)∧(s.kd≠.ref→(stRoom s k roots).2.ns.length=(smallO s.ns 0 roots).length)) ∧
     ((stRoom s k roots).1≠none→k≤s.size - (smallO s.ns 0 roots).length):=by
 have hpl:okPl s.ns.length roots=true:=okPl_of hr;have hle:(smallO s.ns 0 roots).length≤s.ns.length:=metF_len (small_met hg.st.wf (Nat.zero_le _) hpl).1;obtain ⟨kd,sz,ns⟩:=s;cases kd with
 | hp t=>
   simp only [stRoom,roomS];simp only at hpl hle;rw [if_neg (by omega),if_neg (by simp [hpl])]
   split
   · rename_i hh;exact ⟨(fun e=>by cases e),fun _=>by omega⟩
   · rename_i hh;rw [col_len0]
     split
     · rename_i hh2;exact ⟨fun _=>⟨hh2,by rw [small_reached],fun _=>col_len0 _ _⟩,fun e=>absurd rfl e⟩
     · rename_i hh2;exact ⟨(fun e=>by cases e),fun _=>by omega⟩
 | gn y o t=>
   have hkd:=hg.st.kd;have hfr:o≤ns.length:=hkd.1;have hw:WF ns:=hg.st.wf;have h1:=hg.small (s:=⟨.gn y o t,sz,ns⟩) (fr:=o) hfr (roots:=roots) hr (kd:=.gn y (smallNs ns o roots).length (IntKind.i64.wrap (t+1))) ⟨Nat.le_refl _,hkd.2⟩;have a1:=alike_col hg (fr:=o) hfr hr;simp only at hpl hle a1;have o2:okPl (smallNs ns o roots).length (smallRoots ns o roots)=true:=okPl_of (fun a ha=>by obtain ⟨c,hc,rfl⟩:=List.mem_map.1 ha;exact h1.2 c hc);have cnt:(smallO ns 0 roots).length=(smallO (smallNs ns o roots) 0 (smallRoots ns o roots)).length:=alike_count hw h1.1.st.wf hpl o2 a1;have cle:(smallO (smallNs ns o roots) 0 (smallRoots ns o roots)).length≤(smallNs ns o roots).length:=metF_len (small_met h1.1.st.wf (Nat.zero_le _) o2).1;simp only [stRoom,groomS];rw [if_neg (by omega),if_neg (by simp [hpl])]
   split
   · rename_i hh;exact ⟨(fun e=>by cases e),fun _=>by omega⟩
   · rename_i hh
     split
     · rename_i hh2;unfold endS;rw [small_length,Nat.zero_add]
       split
       · rename_i hh3;exact ⟨fun _=>⟨by omega,by rw [small_reached],fun _=>by show (smallNs _ 0 _).length=_;rw [small_length,Nat.zero_add,cnt]⟩,fun e=>absurd rfl e⟩
       · rename_i hh3;exact ⟨(fun e=>by cases e),fun _=>by omega⟩
     · rename_i hh2;exact ⟨(fun e=>by cases e),fun _=>by omega⟩
 | ref=>
   simp only [stRoom];rw [col_len0]
   split
   · rename_i hh;exact ⟨fun _=>⟨hh,by rw [small_reached],fun e=>absurd rfl e⟩,fun e=>absurd rfl e⟩
   · exact ⟨(fun e=>by cases e),fun _=>by omega⟩
theorem room_iff (h:MOk n M) {k:Int} (hk:0≤k):((M.room k).1=true→k≤M.st.size - liveS M)∧((M.room k).1=false→k > M.st.size - liveS M∧Out M (M.room k).2):=by
 have hle:=live_le h;obtain ⟨f1,f2⟩:=stRoom_iff h.g h.roots hk;unfold Mc.room
 split
 · rename_i hq;simp only [Mc.quick,Bool.and_eq_true,decide_eq_true_eq] at hq;have:=hq.1;exact ⟨fun _=>by omega,(fun e=>by cases e)⟩
 · rename_i hq
   split
   · rename_i hn;obtain ⟨g1,g2,g3⟩:=f1 hn;refine ⟨(fun e=>by cases e),fun _=>⟨g1,⟨rfl,rfl,rfl,rfl,rfl,?_⟩⟩⟩;show (if M.ref then ((reached M.st.ns M.roots).length:Int) else ((stRoom M.st k M.roots).2.ns.length:Int))=liveS M;have href:M.ref=false→M.st.kd≠.ref:=by
       intro hb e;unfold Mc.ref at hb;rw [e] at hb;cases hb
     split
     · rw [g2];rfl
     · rename_i hr;rw [g3 (href (by simpa using hr))];rfl
   · rename_i l hn;exact ⟨fun _=>f2 (by rw [hn];simp),(fun e=>by cases e)⟩
theorem room_size (M:Mc) (k:Int):(M.room k).2.st.size=M.st.size:=by
 unfold Mc.room
 split
 · rfl
 · split
   · exact stRoom_size _ _ _
   · exact stRoom_size _ _ _
end
end
section
open Go Go.W
structure Stat (M M':Mc):Prop where
 tab:M'.tab=M.tab
 size:M'.st.size=M.st.size
 gl:M'.globals.length=M.globals.length
 inp:M'.input=M.input
 every:M'.every=M.every
 gens:M'.gens=M.gens
 young:M'.young=M.young
theorem Stat.refl (M:Mc):Stat M M:=⟨rfl,rfl,rfl,rfl,rfl,rfl,rfl⟩
theorem Stat.trans {M M' M'':Mc} (h:Stat M M') (k:Stat M' M''):Stat M M'':=
 ⟨k.tab.trans h.tab,k.size.trans h.size,k.gl.trans h.gl,k.inp.trans h.inp,k.every.trans h.every,k.gens.trans h.gens,k.young.trans h.young⟩
theorem stat_room (M:Mc) (k:Int):Stat M (M.room k).2:=by
 refine ⟨?_,room_size M k,?_,?_,?_,?_,?_⟩
 all_goals unfold Mc.room
 all_goals split
 all_goals first | rfl | (split<;>simp [Mc.after,Mc.mapP])
theorem stat_exec (M:Mc) (x:Ins):Stat M (M.exec x):=by
 have ha:Stat M (M.arith x):=by
   unfold Mc.arith
   split
   · exact ⟨rfl,rfl,rfl,rfl,rfl,rfl,rfl⟩
   split<;>exact ⟨rfl,rfl,rfl,rfl,rfl,rfl,rfl⟩
 have hj:∀ p q b,Stat M (M.jumpIf p q b):=by
   intro p q b;unfold Mc.jumpIf
   split
   · exact ⟨rfl,rfl,rfl,rfl,rfl,rfl,rfl⟩
   split<;>exact ⟨rfl,rfl,rfl,rfl,rfl,rfl,rfl⟩
 by_cases e1:x.op=1
 · rw [exec1 e1];exact ⟨rfl,rfl,rfl,rfl,rfl,rfl,rfl⟩
 by_cases e2:x.op=2
 · rw [exec2 e2];exact ⟨rfl,rfl,rfl,rfl,rfl,rfl,rfl⟩
 by_cases e3:x.op=3
 · rw [exec3 e3];exact ⟨rfl,rfl,rfl,rfl,rfl,rfl,rfl⟩
 by_cases e4:x.op=4
 · rw [exec4 e4];exact ⟨rfl,rfl,rfl,rfl,rfl,rfl,rfl⟩
 by_cases e5:x.op=5
 · rw [exec5 e5];exact ⟨rfl,rfl,rfl,rfl,rfl,rfl,rfl⟩
 by_cases e6:x.op=6
 · rw [exec6 e6];exact ⟨rfl,rfl,rfl,rfl,rfl,rfl,rfl⟩
 by_cases e7:x.op=7
 · rw [exec7 e7];exact ⟨rfl,rfl,rfl,rfl,rfl,rfl,rfl⟩
 by_cases e8:x.op=8
 · rw [exec8 e8];exact ⟨rfl,rfl,rfl,rfl,rfl,rfl,rfl⟩
 by_cases e9:x.op=9
 · rw [exec9 e9];exact ⟨rfl,rfl,rfl,rfl,rfl,rfl,rfl⟩
 by_cases e10:x.op=10
 · rw [exec10 e10];split<;>exact ⟨rfl,rfl,rfl,rfl,rfl,rfl,rfl⟩
 by_cases e11:x.op=11
 · rw [exec11 e11];split<;>exact ⟨rfl,rfl,rfl,rfl,rfl,rfl,rfl⟩
 by_cases e12:x.op=12
 · rw [exec12 e12];exact ha
 by_cases e13:x.op=13
 · rw [exec13 e13];exact ⟨rfl,rfl,rfl,rfl,rfl,rfl,rfl⟩
 by_cases e14:x.op=14
 · rw [exec14 e14];exact hj _ _ _
 by_cases e15:x.op=15
 · rw [exec15 e15];exact hj _ _ _
 by_cases e16:x.op=16
 · rw [exec16 e16];exact ⟨rfl,rfl,rfl,rfl,rfl,rfl,rfl⟩
 unfold Mc.exec;rw [if_neg e1,if_neg e2,if_neg e3,if_neg e4,if_neg e5,if_neg e6,if_neg e7,if_neg e8,if_neg e9,if_neg e10,if_neg e11,if_neg e12,if_neg e13,if_neg e14,if_neg e15,if_neg e16];exact ⟨rfl,rfl,rfl,rfl,rfl,rfl,rfl⟩
theorem stat_run (M:Mc):Stat M M.run:=by
 unfold Mc.run
 split
 · exact stat_room _ _
 split
 · exact (stat_room _ _).trans ((show Stat (M.room (cellsOf M.insOf)).2 (M.room (cellsOf M.insOf)).2.next from ⟨rfl,rfl,rfl,rfl,rfl,rfl,rfl⟩).trans (stat_exec _ _))
 · exact (show Stat M M.next from ⟨rfl,rfl,rfl,rfl,rfl,rfl,rfl⟩).trans (stat_exec _ _)
theorem stat_work (M:Mc):Stat M M.work:=by
 have hl:Stat M M.lacks:=by
   unfold Mc.lacks
   split
   · exact ⟨rfl,rfl,rfl,rfl,rfl,rfl,rfl⟩
   split
   · exact ⟨rfl,rfl,rfl,rfl,rfl,rfl,rfl⟩
   split
   · exact (stat_room _ _).trans ⟨rfl,rfl,rfl,rfl,rfl,rfl,rfl⟩
   · exact stat_room _ _
 have hr:∀ f k,Stat M (M.read f k):=by
   intro f k;unfold Mc.read
   split
   · exact ⟨rfl,rfl,rfl,rfl,rfl,rfl,rfl⟩
   split
   · exact (stat_room _ _).trans ⟨rfl,rfl,rfl,rfl,rfl,rfl,rfl⟩
   · exact stat_room _ _
 unfold Mc.work
 split
 · unfold Mc.tell
   split<;>exact ⟨rfl,rfl,rfl,rfl,rfl,rfl,rfl⟩
 split
 · exact stat_run M
 · unfold Mc.unwind Mc.call
   repeat' split
   all_goals first | exact hl | exact hr _ _ | exact ⟨rfl,rfl,rfl,rfl,rfl,rfl,rfl⟩
theorem stCol_size (s:St) (roots:List Int):(stCol s roots).2.size=s.size:=by
 obtain ⟨kd,sz,ns⟩:=s;cases kd<;>rfl
theorem stat_tidy (M:Mc):Stat M M.tidy:=by
 unfold Mc.tidy
 split
 · exact ⟨rfl,stCol_size _ _,by simp [Mc.after,Mc.mapP],rfl,rfl,rfl,rfl⟩
 · exact Stat.refl M
theorem stat_step (M:Mc):Stat M M.step:=by
 unfold Mc.step
 split
 · exact Stat.refl M
 split
 · exact stat_work M
 · exact (stat_work M).trans ((show Stat M.work { M.work with steps:=M.work.steps+1} from ⟨rfl,rfl,rfl,rfl,rfl,rfl,rfl⟩).trans (stat_tidy _))
section
variable {ρ:Int→Int} {E:List Nat} {R:Nat→Nat→Prop} {M1 M2:Mc} {n1 n2 n:Int} {M:Mc}
theorem out_of (h:MOk n M) {M':Mc} (hn:NoRoom M M'):Out M M':=by
 obtain ⟨k,hk,hf,rfl⟩:=hn;exact ((room_iff h hk).2 hf).2
def Mc.steps' (M:Mc):Nat→Mc
 | 0=>M
 | k+1=>(M.steps' k).step
theorem stat_steps (M:Mc) (k:Nat):Stat M (M.steps' k):=by
 induction k with
 | zero=>exact Stat.refl M
 | succ k ih=>exact ih.trans (stat_step _)
end
end
section
open Go Go.W
structure Cal (M M':Mc):Prop where
 steps:M'.steps=M.steps
 kd:M.st.kd≠.ref→M'.st.kd≠.ref
theorem Cal.trans {M M' M'':Mc} (h:Cal M M') (k:Cal M' M''):Cal M M'':=⟨k.steps.trans h.steps,fun e=>k.kd (h.kd e)⟩
theorem stRoom_kd (s:St) (hr:s.kd≠.ref) (n:Int) (roots:List Int):(stRoom s n roots).2.kd≠.ref:=by
 obtain ⟨kd,sz,ns⟩:=s;cases kd with
 | ref=>exact absurd rfl hr
 | hp t=>intro e;cases e
 | gn y o t=>intro e;cases e
theorem stCol_kd (s:St) (hr:s.kd≠.ref) (roots:List Int):(stCol s roots).2.kd≠.ref:=by
 obtain ⟨kd,sz,ns⟩:=s;cases kd with
 | ref=>exact absurd rfl hr
 | hp t=>intro e;cases e
 | gn y o t=>intro e;cases e
theorem room_kd (M:Mc) (hr:M.st.kd≠.ref) (k:Int):(M.room k).2.st.kd≠.ref:=by
 unfold Mc.room
 split
 · exact hr
 · split
   · exact stRoom_kd _ hr _ _
   · exact stRoom_kd _ hr _ _
theorem cal_room (M:Mc) (k:Int):Cal M (M.room k).2:=by
 refine ⟨?_,fun h=>room_kd M h k⟩;unfold Mc.room
 split
 · rfl
 · split<;>rfl
theorem cal_exec (M:Mc) (x:Ins):Cal M (M.exec x):=by
 have ha:Cal M (M.arith x):=by
   unfold Mc.arith
   split
   · exact ⟨rfl,fun h=>h⟩
   split<;>exact ⟨rfl,fun h=>h⟩
 have hj:∀ p q b,Cal M (M.jumpIf p q b):=by
   intro p q b;unfold Mc.jumpIf
   split
   · exact ⟨rfl,fun h=>h⟩
   split<;>exact ⟨rfl,fun h=>h⟩
 by_cases e1:x.op=1
 · rw [exec1 e1];exact ⟨rfl,fun h=>h⟩
 by_cases e2:x.op=2
 · rw [exec2 e2];exact ⟨rfl,fun h=>h⟩
 by_cases e3:x.op=3
 · rw [exec3 e3];exact ⟨rfl,fun h=>h⟩
 by_cases e4:x.op=4
 · rw [exec4 e4];exact ⟨rfl,fun h=>h⟩
 by_cases e5:x.op=5
 · rw [exec5 e5];exact ⟨rfl,fun h=>h⟩
 by_cases e6:x.op=6
 · rw [exec6 e6];exact ⟨rfl,fun h=>h⟩
 by_cases e7:x.op=7
 · rw [exec7 e7];exact ⟨rfl,fun h=>h⟩
 by_cases e8:x.op=8
 · rw [exec8 e8];exact ⟨rfl,fun h=>h⟩
 by_cases e9:x.op=9
 · rw [exec9 e9];exact ⟨rfl,fun h=>h⟩
 by_cases e10:x.op=10
 · rw [exec10 e10];split<;>exact ⟨rfl,fun h=>h⟩
 by_cases e11:x.op=11
 · rw [exec11 e11];split<;>exact ⟨rfl,fun h=>h⟩
 by_cases e12:x.op=12
 · rw [exec12 e12];exact ha
 by_cases e13:x.op=13
 · rw [exec13 e13];exact ⟨rfl,fun h=>h⟩
 by_cases e14:x.op=14
 · rw [exec14 e14];exact hj _ _ _
 by_cases e15:x.op=15
 · rw [exec15 e15];exact hj _ _ _
 by_cases e16:x.op=16
 · rw [exec16 e16];exact ⟨rfl,fun h=>h⟩
 unfold Mc.exec;rw [if_neg e1,if_neg e2,if_neg e3,if_neg e4,if_neg e5,if_neg e6,if_neg e7,if_neg e8,if_neg e9,if_neg e10,if_neg e11,if_neg e12,if_neg e13,if_neg e14,if_neg e15,if_neg e16];exact ⟨rfl,fun h=>h⟩
theorem cal_run (M:Mc):Cal M M.run:=by
 unfold Mc.run
 split
 · exact cal_room _ _
 split
 · exact (cal_room _ _).trans ((show Cal (M.room (cellsOf M.insOf)).2 (M.room (cellsOf M.insOf)).2.next from ⟨rfl,fun h=>h⟩).trans (cal_exec _ _))
 · exact (show Cal M M.next from ⟨rfl,fun h=>h⟩).trans (cal_exec _ _)
theorem cal_work (M:Mc):Cal M M.work:=by
 have hl:Cal M M.lacks:=by
   unfold Mc.lacks
   split
   · exact ⟨rfl,fun h=>h⟩
   split
   · exact ⟨rfl,fun h=>h⟩
   split
   · exact (cal_room _ _).trans ⟨rfl,fun h=>h⟩
   · exact cal_room _ _
 have hr:∀ f k,Cal M (M.read f k):=by
   intro f k;unfold Mc.read
   split
   · exact ⟨rfl,fun h=>h⟩
   split
   · exact (cal_room _ _).trans ⟨rfl,fun h=>h⟩
   · exact cal_room _ _
 unfold Mc.work
 split
 · unfold Mc.tell
   split<;>exact ⟨rfl,fun h=>h⟩
 split
 · exact cal_run M
 · unfold Mc.unwind Mc.call
   repeat' split
   all_goals first | exact hl | exact hr _ _ | exact ⟨rfl,fun h=>h⟩
theorem cal_tidy (M:Mc):Cal M M.tidy:=by
 unfold Mc.tidy
 split
 · exact ⟨rfl,fun h=>stCol_kd _ h _⟩
 · exact ⟨rfl,fun h=>h⟩
theorem step_kd {M:Mc} (h:M.st.kd≠.ref):M.step.st.kd≠.ref:=by
 unfold Mc.step
 split
 · exact h
 split
 · exact (cal_work M).kd h
 · exact (cal_tidy _).kd (show ({ M.work with steps:=M.work.steps+1}:Mc).st.kd≠.ref from (cal_work M).kd h)
theorem step_steps (M:Mc):M.step.steps=if M.ended=0∧M.work.ended≠5 then M.steps+1 else M.steps:=by
 unfold Mc.step
 split
 · rename_i h;rw [if_neg (fun e=>h e.1)]
 · rename_i h;have h:M.ended=0:=Classical.byContradiction h
   split
   · rename_i h5;rw [if_neg (fun e=>e.2 h5)];exact (cal_work M).steps
   · rename_i h5;rw [if_pos ⟨h,h5⟩,(cal_tidy _).steps];show M.work.steps+1=_;rw [(cal_work M).steps]
theorem flat_roots_le {n:Int} {s:St}:∀ (l:List Fr),(∀ f∈l,FrG s n f)→((l.flatMap Fr.roots).length:Int)≤l.length*(n+8001):=by
 intro l
 induction l with
 | nil=>intro _;simp
 | cons f l ih=>
   intro h;have h1:=ih (fun f hf=>h f (by simp [hf]));have h2:=h f (by simp);have e:(f.roots.length:Int)≤n+8001:=by
     have:=h2.lsp;have:=h2.lsk;simp only [Fr.roots,List.length_append,List.length_cons,List.length_nil];omega
   simp only [List.flatMap_cons,List.length_append,List.length_cons];have e2:((l.length+1:Nat):Int)*(n+8001)=(l.length:Int)*(n+8001)+(n+8001):=by
     rw [show ((l.length+1:Nat):Int)=(l.length:Int)+1 by omega,Int.add_mul,Int.one_mul]
   omega
theorem MOk.roots_le {n:Int} {M:Mc} (h:MOk n M) (hn:n≤1000000):M.roots.length≤17592186044416:=by
 have h1:=flat_roots_le M.frames h.frs;have h2:=h.lf;have h3:=h.lw;have h4:=h.gln;have h5:=h.tab.gn;have h6:(M.frames.length:Int)*(n+8001)≤1000000*1008001:=Int.mul_le_mul (by omega) (by omega) (by have:=h.ln;omega) (by omega);unfold Mc.roots;simp only [List.length_append];omega
end
section
open Go Go.W
theorem ln_2 {w:World} {a:Addr} {v0 v1:Value} (h0:w.cell? (a.add 0)=some v0) (h1:w.cell? (a.add 1)=some v1):vLN w 2 (.pointer (some a))=some (.agg #[v0,v1]):=by
 simp [vLN,cellsFrom,h0,h1]
theorem ln_3 {w:World} {a:Addr} {v0 v1 v2:Value} (h0:w.cell? (a.add 0)=some v0) (h1:w.cell? (a.add 1)=some v1) (h2:w.cell? (a.add 2)=some v2):vLN w 3 (.pointer (some a))=some (.agg #[v0,v1,v2]):=by
 simp [vLN,cellsFrom,h0,h1,h2]
theorem glob_at {w:World} {vsh vgl:Value} {T:Tab} {B:Nat→Prop} (h:TabAt w vsh vgl T B) {i:Nat} (hi:i < T.globals.length) :
   ∃ ad c cv,vgl = .slice (some ad) T.globals.length c∧B ad.block∧w.cell? ((ad.add (i*3)).add 0)=some (.string (T.gl i).name)∧w.cell? ((ad.add (i*3)).add 1)=some (I (T.gl i).arity)∧w.cell? ((ad.add (i*3)).add 2)=some cv∧RowsAt w cv 3 ((T.gl i).code.map insRow) B:=by
 obtain ⟨h1,codes,h2,h3,h4⟩:=h;have hl:(List.zipWith (fun (g:Gl) (v:Value)=>[.string g.name,I g.arity,v]) T.globals codes).length=T.globals.length:=by simp [h2]
 have hic:i < codes.length:=by omega
 have hB:=h3;obtain ⟨ad,c,rfl,k1,k2⟩:=row_at h3 (i:=i) (by omega);obtain ⟨_,_,e,hB,_⟩:=hB;cases e;have e:T.gl (i:Int)=T.globals[i]:=by unfold Tab.gl;rw [Int.toNat_natCast,List.getD_eq_getElem?_getD,List.getElem?_eq_getElem hi];rfl
 refine ⟨ad,c,codes[i],by rw [hl],hB (by omega) _ rfl,?_,?_,?_,?_⟩
 · have:=k2 0 (by rw [k1];omega);rw [this,e];simp
 · have:=k2 1 (by rw [k1];omega);rw [this,e];simp
 · have:=k2 2 (by rw [k1];omega);rw [this];simp
 · rw [e];exact h4 i _ _ (List.getElem?_eq_getElem hi) (List.getElem?_eq_getElem hic)
theorem ins_at {w:World} {cv:Value} {g:Gl} {B:Nat→Prop} (h:RowsAt w cv 3 (g.code.map insRow) B) {i:Nat} (hi:i < g.code.length) :
   ∃ ad c,cv = .slice (some ad) g.code.length c∧B ad.block∧vLN w 3 (.pointer (some (ad.add (i*3))))=some (insV (g.ins i)):=by
 have hB:=h;obtain ⟨ad,c,rfl,k1,k2⟩:=row_at h (i:=i) (by simpa using hi);obtain ⟨_,_,e,hB,_⟩:=hB;cases e;have e:g.ins (i:Int)=g.code[i]:=by unfold Gl.ins;rw [Int.toNat_natCast,List.getD_eq_getElem?_getD,List.getElem?_eq_getElem hi];rfl
 refine ⟨ad,c,by simp,hB (by simp;omega) _ rfl,?_⟩;rw [e];refine ln_3 ?_ ?_ ?_
 · rw [k2 0 (by rw [k1];omega)];simp [insRow]
 · rw [k2 1 (by rw [k1];omega)];simp [insRow]
 · rw [k2 2 (by rw [k1];omega)];simp [insRow]
theorem rowsV_at {w:World} {v:Value} {B:Nat→Prop} (h:RowsAt w v 2 rowsV B) {o:Nat} (ho:1≤o∧o≤17):∃ ad c,v = .slice (some ad) 18 c∧B ad.block∧vLN w 2 (.pointer (some (ad.add (o*2))))=some (.agg #[fnv (cellF o),fnv (doF o)]):=by
 have hB:=h;have hl:o < rowsV.length:=by show o < 18;omega
 obtain ⟨ad,c,rfl,k1,k2⟩:=row_at h hl;obtain ⟨_,_,e,hB,_⟩:=hB;cases e;have e:=rows_op ho;rw [List.getElem?_eq_getElem hl] at e;have e:rowsV[o]=[fnv (cellF o),fnv (doF o)]:=by simpa using e
 refine ⟨ad,c,rfl,hB (by omega) _ rfl,ln_2 ?_ ?_⟩
 · rw [k2 0 (by rw [k1];omega)];simp [e]
 · rw [k2 1 (by rw [k1];omega)];simp [e]
section
variable {w:World} {τ:Tag} {m:Nat} {S:SV} {M:Mc} {ks:List Nat} {k:Nat} {x:Ins} {n:Int}
theorem x_run (hT:TopAt w τ m S M ks k) (h:AtIns n M M.insOf) (href:M.st.kd≠.ref) (hf:M.frames.length≤4294967295) (hR:M.roots.length≤17592186044416) :
   CallsR Tryz.prog 80 [ptr m,ptr k] w fun _ w'=>∃ ks',MOp w τ m S M.run ks' w':=by
 have hr:=h.run;have hn:=h.io.nums;obtain ⟨g,hg⟩:∃ g:Nat,M.top.glob=g:=⟨M.top.glob.toNat,by have:=hr.gl;omega⟩;obtain ⟨i,hi⟩:∃ i:Nat,M.top.at'=i:=⟨M.top.at'.toNat,by have:=hr.at';omega⟩;have hgl:g < M.tab.globals.length:=by have:=hr.gl;omega
 have hil:i < (M.tab.gl g).code.length:=by have:=hr.at';rw [hg,hi] at this;omega
 have hTd:TopAt w.drew τ m S M ks k:=hT.mod ((Mod.refl (fun _=>False) w).drew) (ext_refl _ _).wx (fun _ _ h=>h.elim);obtain ⟨vG,vF,vW,vT,fg,ff,fw,ft,F,hh⟩:=hTd.at';obtain ⟨vs,vp,fs,fp,hF⟩:=hTd.fr;have hc:=hh.cells;have hcf:=hF.cells;obtain ⟨ad,c,cv,hvgl,B1,_,_,hcv,hrows⟩:=glob_at hh.tab hgl;obtain ⟨ad2,c2,rfl,B2,hln⟩:=ins_at hrows hil;have b1:(0:Int)≤g∧(g:Int) < M.tab.globals.length:=by omega
 have b2:(0:Int)≤i∧(i:Int) < (M.tab.gl g).code.length:=by omega
 have hx:(M.tab.gl g).ins i=M.insOf:=by unfold Mc.insOf;rw [hg,hi]
 rw [hx] at hln;refine fit80.calls rfl ?_;unfold ir80;have hcvd:w.cell? ⟨(ad.add (g*3)).block,(ad.add (g*3)).off+2,none⟩=_:=hcv;have hc':w.heap[m]? = _:=hc;have hcf':w.heap[k]? = _:=hcf;(try simp only [go_sem,Nat.reduceAdd,Nat.reduceEqDiff,Nat.reduceLT,Nat.reduceLeDiff,Nat.reduceMul,reduceCtorEq,↓reduceIte,zb4,zb6,cell_of hc',mcCells,hvgl,cell_of hcf',frCells,hg,hi,b1,b2,hcvd,hln,ptr]);have k0:k < w.drew.heap.size:=lt_of_heap hcf;have m0:m < w.drew.heap.size:=lt_of_heap hc;refine e_al ?_;intro w1 hb1 hm1 _;refine ⟨⟨hm1.old _ (by rw [add_block];exact B2.1) (fun h=>h),hm1.old _ k0 (fun h=>h),hm1.old _ (by rw [add_block];exact B1.1) (fun h=>h),hm1.old _ k0 (fun h=>h),hm1.old _ m0 (fun h=>h)⟩,?_⟩;refine e_sta (cs:=[I 0,I 0,I 0]) rfl rfl hb1 rfl rfl (by simp [Value.oneCell']) ?_;intro w2 hb2 hm2 hs2;have hm02:Mod (fun _=>False) w.drew w2:=hm1.step hm2 (fun x hx hl=>by subst hx;exact absurd hl (Nat.lt_irrefl _));have h2:=hTd.later hm02.drew;obtain ⟨o,ho⟩:∃ o:Nat,M.insOf.op=o:=⟨M.insOf.op.toNat,by have:=hn.o1;omega⟩;have ho17:1≤o∧o≤17:=by have:=hn.o1;have:=hn.o2;omega
 obtain ⟨vG2,vF2,vW2,vT2,fg2,ff2,fw2,ft2,F2,hh2⟩:=h2.at';have hc2:w2.heap[m]? = _:=hh2.cells;obtain ⟨ad3,c3,hvR,B3,hln3⟩:=rowsV_at hh2.rows ho17;have b3:(0:Int)≤o∧(o:Int) < ((18:Nat):Int):=by omega
 have m2:m < w2.heap.size:=lt_of_heap hc2;rw [ho] at hb2;have hb2':w2.heap[w.heap.size]? = _:=hb2;(try simp only [go_sem,Nat.reduceAdd,Nat.reduceEqDiff,Nat.reduceLT,Nat.reduceLeDiff,Nat.reduceMul,reduceCtorEq,↓reduceIte,zb4,zb6,cell_of hc2,mcCells,hvR,cell_of hb2',ho,b3,hln3]);refine e_al ?_;intro w3 hb3 hm3 _;have l2:w.heap.size < w2.heap.size:=lt_of_heap hb2';refine ⟨⟨hm3.old _ (by rw [add_block];exact B3.1) (fun h=>h),hm3.old _ l2 (fun h=>h),hm3.old _ m2 (fun h=>h)⟩,?_⟩;refine e_sta (cs:=[.nilFunc,.nilFunc]) rfl rfl hb3 rfl rfl (by simp [Value.oneCell',fnv]) ?_;intro w4 hb4 hm4 hs4;have hm24:Mod (fun _=>False) w2.drew w4:=hm3.step hm4 (fun x hx hl=>by subst hx;exact absurd hl (Nat.lt_irrefl _));have hb24:w4.heap[w.heap.size]? = _:=hm24.at (b:=w.heap.size) hb2' (fun h=>h);have hb4':w4.heap[w2.heap.size]? = _:=hb4;(try simp only [go_sem,Nat.reduceAdd,Nat.reduceEqDiff,Nat.reduceLT,Nat.reduceLeDiff,Nat.reduceMul,reduceCtorEq,↓reduceIte,zb4,zb6,cell_of hb4',ln_of (cs:=[_,_,_]) (off:=0) (n:=3) hb24 (by simp)]);have hm04:Mod (fun _=>False) w.drew w4:=hm02.drew.trans hm24;have hxv:(Value.agg #[I (o:Int),I M.insOf.a,I M.insOf.b])=insV M.insOf:=by rw [insV,ho]
 refine call_cell ho17 rfl (by rfl) ?_;show CallsR _ _ [Value.agg #[I (o:Int),I M.insOf.a,I M.insOf.b]] _ _;rw [hxv];refine (f_cells w4 ho ho17).mono ?_;rintro _ w5 ⟨rfl,hm5⟩;have hm05:=hm04.trans hm5;have h5:=hTd.later hm05;have hb25:=hm5.at hb24 (fun h=>h);have hb45:=hm5.at hb4' (fun h=>h);have hc0:0≤cellsOf M.insOf∧cellsOf M.insOf≤4294967296:=by
   have h8:=hn.c1;obtain ⟨s1,s2,_⟩:=h.st;unfold cellsOf
   split
   · omega
   split
   · rename_i e8;refine ⟨h8 (.inr (.inr (.inr e8))),?_⟩;simp [stackedS,e8] at s1;omega
   · omega
 have hRn:M.roots≠[]:=fun e=>by
   have:=stands_root (M:=M) h.pos;rw [e] at this;cases this
 have nos:∀ b,w.heap.size≤b→newTag τ w.drew .no b = .no:=fun b hb=>newTag_new hb
 have nown:∀ b,w.heap.size≤b→¬ (newTag τ w.drew .no b).own:=fun b hb hh=>by rw [nos b hb] at hh;exact hh.1 rfl
 have l4:w.heap.size≤w2.heap.size:=by omega
 (try simp only [go_sem,Nat.reduceAdd,Nat.reduceEqDiff,Nat.reduceLT,Nat.reduceLeDiff,Nat.reduceMul,reduceCtorEq,↓reduceIte])
 refine wpS_cut (fun ρ w'=>∃ t:Bool,ρ.get 0=some (ptr m)∧ρ.get 1=some (ptr k)∧ρ.get 4=some (ptr w.heap.size)∧ρ.get 5=some (ptr w2.heap.size)∧ρ.get 44=some (.bool t) ∧
   (t=true→MOp w5 (newTag τ w.drew .no) m S M.run ks w') ∧
   (t=false→∃ M0,MOp w5 (newTag τ w.drew .no) m S M0 ks w'∧AtIns n M0 M.insOf∧(0 < cellsOf M.insOf→(M0.st.ns.length:Int)+cellsOf M.insOf≤M0.st.size)∧M.run=M0.next.exec M.insOf∧M0.st.kd≠.ref∧M0.frames.length=M.frames.length)) ?_ ?_
 · by_cases hpos:cellsOf M.insOf > 0
   · (try simp only [go_sem,Nat.reduceAdd,Nat.reduceEqDiff,Nat.reduceLT,Nat.reduceLeDiff,Nat.reduceMul,reduceCtorEq,↓reduceIte,decide_eq_true hpos]);refine e_call (by rfl) ?_;refine (m_room h5.at' h.ok.g.st href ⟨by omega,hc0.2⟩ h.ok.base h.ok.young hR hRn).mono ?_;rintro _ w6 ⟨rfl,hop⟩;cases hrm:(M.room (cellsOf M.insOf)).1 with
     | false=>
       (try simp only [go_sem,Nat.reduceAdd,Nat.reduceEqDiff,Nat.reduceLT,Nat.reduceLeDiff,Nat.reduceMul,reduceCtorEq,↓reduceIte]);refine ⟨true,rfl,fun _=>?_,(fun h=>by cases h)⟩;have e:M.run=(M.room (cellsOf M.insOf)).2:=by unfold Mc.run;rw [if_pos ⟨hpos,hrm⟩]
       rw [e];exact hop
     | true=>
       (try simp only [go_sem,Nat.reduceAdd,Nat.reduceEqDiff,Nat.reduceLT,Nat.reduceLeDiff,Nat.reduceMul,reduceCtorEq,↓reduceIte]);refine ⟨false,rfl,(fun h=>by cases h),fun _=>⟨(M.room (cellsOf M.insOf)).2,hop,?_,?_,?_,room_kd M href _,?_⟩⟩
       · obtain ⟨k1,k2⟩:=h.ok.room hc0.1 hrm;obtain ⟨e1,e2,e3,e5,e6,_,g,e4⟩:=room_keeps M (cellsOf M.insOf) hrm;have e4:=e4 h.pos;refine ⟨k1,by rw [e1];exact h.pos,by rw [e3];exact h.going,by rw [e4];exact h.runs,?_⟩;show _=((M.room (cellsOf M.insOf)).2.tab.gl (M.room (cellsOf M.insOf)).2.top.glob).ins (M.room (cellsOf M.insOf)).2.top.at';rw [e4,e5];rfl
       · exact fun _=>(h.ok.room hc0.1 hrm).2
       · unfold Mc.run;rw [if_neg (by rw [hrm];simp),if_pos hpos]
       · exact (room_keeps M (cellsOf M.insOf) hrm).1
   · have hz:decide (cellsOf M.insOf > 0)=false:=decide_eq_false hpos;(try simp only [go_sem,Nat.reduceAdd,Nat.reduceEqDiff,Nat.reduceLT,Nat.reduceLeDiff,Nat.reduceMul,reduceCtorEq,↓reduceIte,hz]);refine ⟨false,rfl,(fun h=>by cases h),fun _=>⟨M,⟨_,ext_refl _ _,h5.at',Mod.refl _ _⟩,h,fun h=>absurd h hpos,?_,href,rfl⟩⟩;unfold Mc.run;rw [if_neg (fun h=>hpos h.1),if_neg hpos]
 rintro ρ w6 ⟨t,r0,r1,r4,r5,r44,ht,hf'⟩;have hm05':Mod (fun _=>False) w w5:=Mod.of_drew hm05;cases t with
 | true=>
   (try simp only [go_sem,Nat.reduceAdd,Nat.reduceEqDiff,Nat.reduceLT,Nat.reduceLeDiff,Nat.reduceMul,reduceCtorEq,↓reduceIte,r0,r1,r4,r5,r44]);exact ⟨ks,MOp.boxed hm05' (ht rfl)⟩
 | false=>
   obtain ⟨M0,hop,hA,hroom,hrun,hkd,hfl⟩:=hf' rfl;obtain ⟨τ6,j1,j2,h6⟩:=hop.top hfl h.pos hT.hk;have hb26:=j2.at hb25 (nown _ (Nat.le_refl _));have hb46:=j2.at hb45 (nown _ l4);obtain ⟨vs6,vp6,fs6,fp6,hF6⟩:=h6.fr;have hcf6:=hF6.cells;have hat:IntKind.i64.wrap (M0.top.at'+1)=M0.top.at'+1:=by
     have h1:=hA.run.at';have h2:=(hA.ok.tab.gls _ (gl_mem hA.run.gl)).2.2.2;exact wrap_in (by omega) (by omega)
   (try simp only [go_sem,Nat.reduceAdd,Nat.reduceEqDiff,Nat.reduceLT,Nat.reduceLeDiff,Nat.reduceMul,reduceCtorEq,↓reduceIte,r0,r1,r4,r5,r44,cell_of hcf6,frCells,hat,ptr]);refine e_st1 (off:=2) rfl rfl hcf6 rfl (by simp [frCells]) ?_;intro w7 hb7 hm7 hs7;have hop7:=h6.frm (f':={ M0.top with at':=M0.top.at'+1}) (fr_cells hF6 rfl rfl (by simpa [frCells] using hb7) hm7);obtain ⟨τ7,q1,q2,h7⟩:=hop7.top (setTop_top hA.pos _).2 hA.pos h6.hk;have k26:w.heap.size≠k:=fun e=>by have:=hF.lt.1;have e2:w.drew.heap.size=k:=e;omega
   have k46:w2.heap.size≠k:=fun e=>by
     have:=hF.lt.1;have:=hm02.size;have e2:w.drew.heap.size=w.heap.size:=rfl;omega
   have hb27:=hm7.at hb26 (fun e=>k26 e);have hb47:=hm7.at hb46 (fun e=>k46 e);(try simp only [go_sem,Nat.reduceAdd,Nat.reduceEqDiff,Nat.reduceLT,Nat.reduceLeDiff,Nat.reduceMul,reduceCtorEq,↓reduceIte,zb4,zb6,cell_of hb47,ln_of (cs:=[_,_,_]) (off:=0) (n:=3) hb27 (by simp)]);refine call_do ho17 rfl (by rfl) ?_;show CallsR _ _ [ptr m,ptr k,Value.agg #[I (o:Int),I M.insOf.a,I M.insOf.b]] _ _;rw [hxv];refine (x_exec h7 hA hkd hroom (by omega) ho).mono ?_;rintro _ w8 ⟨ks',hop8⟩;(try simp only [go_sem,Nat.reduceAdd,Nat.reduceEqDiff,Nat.reduceLT,Nat.reduceLeDiff,Nat.reduceMul,reduceCtorEq,↓reduceIte]);rw [hrun];exact ⟨ks',MOp.boxed hm05' (MOp.cat j1 j2 (MOp.cat q1 q2 hop8))⟩
end
end
end Go.Proofs.YtnjobkbblhaliaaGreatDoor