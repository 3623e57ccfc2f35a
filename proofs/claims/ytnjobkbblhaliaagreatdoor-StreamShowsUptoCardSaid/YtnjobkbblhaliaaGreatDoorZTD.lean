/- Texts that the last file stands on: M5, M6, M7, M8, M9, M10, M11, M13, M14, M12, B1, M15, M16, X1, X2, Q2, Q3, Q4, Q5, Q6, Q7, Q8, Q9, M17, Q10, Q11, Q12, Q14, M18. -/
import Derived.Test.YtnjobkbblhaliaaGreatDoorZTC
import Derived.RangeFuncBox
import Derived.RangeFuncLeaves
import Derived.Shelf.Abstract
import Derived.WalkKit
import Derived.OwnWalkIn
import Derived.TacticsInMore
import Derived.LoopNIn
import Derived.LoopIn
import Derived.Test.YtnjobkbblhaliaaGreatDoorProg
set_option linter.unusedSimpArgs false
set_option linter.unusedVariables false
set_option maxRecDepth 100000
namespace Go.Proofs.YtnjobkbblhaliaaGreatDoor
section
open Go Go.W
theorem Vt (M:Mc) {i:Nat} {f:Fr} (hf:M.aE[i]? = some f):(M.aE.take (i+1)).flatMap Fr.roots=(M.aE.take i).flatMap Fr.roots++f.spine++f.stack++[f.bC]:=by
 have hi:i < M.aE.length:=(List.getElem?_eq_some_iff.1 hf).1;rw [List.take_add_one,hf];simp [Fr.roots]
theorem ag5 (M:Mc) {i:Nat} {f:Fr} (hf:M.aE[i]? = some f):M.globals.length+((M.aE.take i).flatMap Fr.roots).length+f.spine.length+f.stack.length+1+M.wait.length≤M.roots.length:=by
 have h1:=Vt M hf;have h2:M.aE=M.aE.take (i+1)++M.aE.drop (i+1):=(List.take_append_drop _ _).symm;have h3:M.aE.flatMap Fr.roots=(M.aE.take (i+1)).flatMap Fr.roots++(M.aE.drop (i+1)).flatMap Fr.roots:=by
  conv=>lhs;rw [h2]
  rw [List.flatMap_append]
 unfold Mc.roots;rw [h3,h1];simp only [List.length_append,List.length_cons,List.length_nil];omega
theorem Vu (M:Mc):M.aE.length≤M.roots.length:=by
 have key:∀ l:List Fr,l.length≤(l.flatMap Fr.roots).length:=by
  intro l
  induction l with
  | nil=>simp
  | cons f l ih=>simp only [List.flatMap_cons,List.length_cons,List.length_append,Fr.roots,List.length_nil];omega
 have:=key M.aE;unfold Mc.roots;simp only [List.length_append];omega
theorem GM {ρ:Env} {K:Value→World→Prop} {w w2:World} {v:Value} {xs ys:List Int} {n m c:Nat} {fp:Option Nat} {xa:Option Addr} {s x:W.O} (hm:Mod (fun _=>False) w w2) (ho:ao w2 3 1 v (xs.map I) n fp) (hn:n=xs.length) (hf:∀ b,fp=some b→w.heap.size≤b)
   (hs:s.ev ρ=some v) (U:x.ev ρ=some (.slice xa m c)) (mC:xa=none→m=0) (hr:iR w2 xa (m*1) (ys.map I)) (hl:xs.length+ys.length≤17592186044416)
   (hk:∀ v' w' gx,Mod (fun _=>False) w w'→Mod (fun b=>fp=some b) w2 w'→ao w' 3 1 v' ((xs++ys).map I) (xs++ys).length gx→(∀ b,gx=some b→w.heap.size≤b)→K v' w'):E.wp Tryz.prog w2 ρ K (.ap 3 1 8 #[.int .i64 0] s x):=by
 have hmy:m=ys.length:=by have:=hr.1;simp at this;omega
 subst hn;subst hmy;refine eH (m:=ys.length) (news:=ys.map I) hs ho U mC hr (pB _) rfl (by omega) (by omega) ?_;intro v3 w3 vK me ab nP;refine hk v3 w3 vK (hm.step ab (fun x U hl=>by have:=hf x U;omega)) ab (by simpa using me) (fun b hb=>?_);rcases nP b hb with h1 | h1
 ·exact hf b h1
 ·have:=hm.size;omega
theorem Vv {w:World} {τ:Tag} {m:Nat} {S:SV} {M:Mc} {ks:List Nat} (h:iL w τ m S M ks) (hR:M.roots.length≤17592186044416) :
   aK Tryz.prog 82 [ptr m] w fun r w'=>yF w w' r M.roots∧Mod (fun _=>False) w w':=by
 obtain ⟨vG,vF,vW,vT,fg,ff,fw,ft,F,h⟩:=h;have hc:=h.cells;have hl:=h.len;have dI:=Vu M;have mW:M.globals.length+M.wait.length≤17592186044416:=by unfold Mc.roots at hR;simp only [List.length_append] at hR;omega
 refine af8.calls rfl ?_;unfold LQ;simp only [go_sem,simprocAttr,cell_of hc,bb];obtain ⟨GN,_⟩:=h.gl.ints (by omega);refine δ (by rfl) (AL vG M.globals w GN) ?_;rintro r1 w1 ⟨ag,f1,jx,tK⟩;obtain ⟨a1,c1,rfl,_⟩:=jx.val;obtain ⟨aF,cF,rfl,_⟩:=h.fr.val;have cY:=ag.at hc (fun h=>h);simp only [go_sem,simprocAttr,cell_of cY,bb]
 refine dA (fun n ρ w'=>∃ (i:Nat) (v:Value) (fp:Option Nat),n=ks.length - i∧i≤ks.length∧Mod (fun _=>False) w w' ∧
  ao w' 3 1 v ((M.globals++(M.aE.take i).flatMap Fr.roots).map I) (M.globals++(M.aE.take i).flatMap Fr.roots).length fp∧(∀ b,fp=some b→w.heap.size≤b) ∧
  ρ=[(0,ptr m),(3,v),(14,.slice aF ks.length cF),(15,I ks.length),(16,I i)]) ks.length ⟨0,_,f1,rfl,by omega,ag,by simpa using jx,tK,rfl⟩ ?_
 rintro n ρ w2 ⟨i,v,fp,rfl,hi,ae,dR,eO,rfl⟩;unfold U7;obtain ⟨va,vc,rfl,_⟩:=dR.val;have cB:=ae.at hc (fun h=>h);refine σ ?_;refine aY rfl (fun hh=>?_) (fun hh=>?_)
 ·have kj:i < ks.length:=by simpa using hh
  have A':i < M.aE.length:=by omega
  have GO:=h.fr.mod ae (fun _ _ h=>h);obtain ⟨bF,rfl,_,Dp⟩:=kQ GO (i:=i) kj;have hk:ks[i]? = some ks[i]:=List.getElem?_eq_getElem kj;have hf:M.aE[i]? = some M.aE[i]:=List.getElem?_eq_getElem A';rw [List.getElem?_map,hk,Option.map_some] at Dp;obtain ⟨vs,vp,fs,gx,Dq⟩:=h.jJ i _ _ hk hf;have qB:=ag5 M hf;have b1:(0:Int)≤i∧(i:Int) < ks.length:=by omega
  have bN:=Vt M hf;generalize M.aE[i]=f at *;generalize ks[i]=k at *;obtain ⟨ap,cp,rfl,wL,hnp⟩:=Dq.spine.val;obtain ⟨a_s,c_s,rfl,je,yw⟩:=Dq.stack.val;have bt:=Dq.mod ae (dV τ w).wx (fun _ _ h=>h.elim);have CG:=bt.cells;simp only [go_sem,simprocAttr,an,bq,b1,Dp,dB,cell_of CG,cC];refine GM ae dR rfl eO rfl rfl (fun h=>(hnp h).1) bt.spine.rd (by simp only [List.length_append];omega) ?_;intro v3 w3 vK ab qC me nP;obtain ⟨a3,c3,rfl,_⟩:=me.val;have xo:=Dq.mod ab (dV τ w).wx (fun _ _ h=>h.elim);have GP:=xo.cells;simp only [go_sem,simprocAttr,cell_of GP,cC];refine GM ab me rfl nP rfl rfl (fun h=>(yw h).1) xo.stack.rd (by simp only [List.length_append];omega) ?_;intro v4 w4 Ga ai pH gk gq;obtain ⟨a4,c4,rfl,_⟩:=gk.val;have Dr:=Dq.mod ai (dV τ w).wx (fun _ _ h=>h.elim);have MG:=Dr.cells;simp only [go_sem,simprocAttr,cell_of MG,cC];refine cd (by rfl) (by rfl) ?_;intro w5 bZ aB fP;refine σ ?_;refine GM (ys:=[f.bC]) (ai.trans aB) (gk.mod aB (fun _ _ h=>h)) rfl gq rfl rfl (fun h=>by cases h) (j9 (xs:=[I f.bC]) bZ) (by simp only [List.length_append,List.length_cons,List.length_nil];omega) ?_;intro v6 w6 xp aD vi gK iu;obtain ⟨a6,c6,rfl,_⟩:=gK.val;have e1:IntKind.i64.wrap ((i:Int)+1)=((i+1:Nat):Int):=by rw [cy (by omega) (by omega)];omega
  simp only [go_sem,simprocAttr,e1];refine ⟨_,by omega,i+1,_,xp,rfl,by omega,aD,?_,iu,rfl⟩;rw [bN]
  simpa using gK
 ·have kj:¬ i < ks.length:=by simpa using hh
  obtain rfl:i=ks.length:=by omega
  have Vw:=h.wt.mod ae (fun _ _ h=>h);obtain ⟨aw,cw,rfl,_,MH⟩:=Vw.val;simp only [go_sem,simprocAttr,cell_of cB,bb];have ht:M.aE.take ks.length=M.aE:=by rw [hl];exact List.take_length
  rw [ht] at dR;refine GM ae dR rfl eO (by simp only [go_sem,simprocAttr,ht]) rfl (fun h=>(MH h).1) Vw.rd (by unfold Mc.roots at hR;simp only [List.length_append] at hR ⊢;omega) ?_;intro v3 w3 vK ab qC me nP;refine σ ?_;exact ⟨⟨vK,by simpa [Mc.roots] using me,nP⟩,ab⟩
end
section
open Go Go.W
section
variable {P:Program} {w:World} {ρ:Env} {K:Value→World→Prop}
theorem GQ {T n:Nat} {d s:W.O} {v:Value} {xs news:List Value} {fp:Option Nat} {sa:Option Addr} {sn sc:Nat} (hd:d.ev ρ=some v) (ho:ao w T 1 v xs n fp) (hs:s.ev ρ=some (.slice sa sn sc))
   (jR:sa=none→sn=0) (hle:n≤sn) (hr:iR w sa (n*1) news) (h1:∀ u∈news,u.oneCell'=true)
   (hk:∀ w',ao w' T 1 v news n fp→Mod (fun b=>fp=some b) w w'→w'.heap.size=w.heap.size→K (I n) w'):E.wp P w ρ K (.cp 1 d s):=by
 have tH:Nat.min sn n=n:=Nat.min_eq_right hle;obtain ⟨hl,h2⟩:=ho;rcases h2 with ⟨rfl,rfl,rfl⟩ | ⟨b,c,cg,rfl,rfl,h3,h4,h5⟩
 ·have ke:news=[]:=List.eq_nil_of_length_eq_zero (by simpa using hr.1);subst ke;refine ⟨none,0,0,sa,sn,sc,[],hd,hs,jR,by rw [tH];exact hr,h1,fun _=>?_,fun a h=>by cases h⟩;rw [tH];exact hk w (ao.nil w T 1) (Mod.refl _ w) rfl
 ·have fE:news.length=n*1:=hr.1;refine ⟨some ⟨b,0,none⟩,n,c,sa,sn,sc,news,hd,hs,jR,by rw [tH];exact hr,h1,(fun h=>by cases h),fun a ha=>?_⟩;cases ha;refine ⟨(xs++cg).toArray,T,⟨rfl,h3⟩,by simp;omega,?_⟩;rw [tH];have ii:sp (xs++cg).toArray 0 news=(news++cg).toArray:=by
   unfold sp;simp only [Nat.zero_add,List.take_zero,List.nil_append];rw [show news.length=xs.length by omega,List.drop_left]
  rw [ii];refine hk _ ⟨fE,.inr ⟨b,c,cg,rfl,rfl,setRow_heap w b _ _ T _ h3,?_,h5⟩⟩ ((Fl w b _).az (fun i hi=>by rw [hi])) (by simp);simp only [List.length_append] at h4 ⊢;omega
end
def LR (w:World) (v:Value) (ys:List Int) (b:Nat):Prop:=∃ o c,v = .slice (some ⟨b,o,none⟩) ys.length c∧ys.length≤c∧∀ i (h:i < ys.length),w.cell? ⟨b,o+i,none⟩=some (I ys[i])
theorem LR.mod {w w':World} {v:Value} {ys:List Int} {b:Nat} {X:Nat→Prop} (h:LR w v ys b) (hm:Mod X w w') (U:¬ X b):LR w' v ys b:=by
 obtain ⟨o,c,rfl,h1,h2⟩:=h;exact ⟨o,c,rfl,h1,fun i hi=>hm.cell (h2 i hi) U⟩
theorem LR.rd {w:World} {o n c b:Nat} {xs ys:List Int} (h:LR w (.slice (some ⟨b,o,none⟩) n c) (xs++ys) b):iR w (some ⟨b,o,none⟩) (xs.length*1) (xs.map I):=by
 obtain ⟨o',c',e,_,h2⟩:=h;cases e;refine ⟨by simp,fun ad ep j v hv=>?_⟩;cases ep;have hj:j < xs.length:=by
  rcases Nat.lt_or_ge j xs.length with h | h
  ·exact h
  ·simp [List.getElem?_eq_none h] at hv
 have:=h2 j (by simp;omega);rw [dB,this]
 simpa [List.getElem_append_left hj,List.getElem?_eq_getElem hj] using hv
theorem LR.drop {w:World} {o n c b k:Nat} {xs ys:List Int} (h:LR w (.slice (some ⟨b,o,none⟩) n c) (xs++ys) b) (hk:xs.length=k) :
   LR w (.slice (if c=k then some ⟨b,o,none⟩ else some ⟨b,o+k,none⟩) (n - k) (c - k)) ys b∧(0:Int)≤k∧(k:Int)≤n:=by
 obtain ⟨o',c',e,h1,h2⟩:=h;cases e;subst hk;have hl:(xs++ys).length=xs.length+ys.length:=List.length_append;rw [hl] at h1 ⊢;refine ⟨?_,by omega,by omega⟩;rw [show xs.length+ys.length - xs.length=ys.length by omega]
 split
 ·rename_i hc;have hy:ys.length=0:=by omega
  exact ⟨o,c - xs.length,rfl,by omega,fun i hi=>by omega⟩
 ·refine ⟨o+xs.length,c - xs.length,rfl,by omega,fun i hi=>?_⟩;have:=h2 (xs.length+i) (by rw [hl];omega);rw [Nat.add_assoc,this,List.getElem_append_right (by omega)];simp only [Nat.add_sub_cancel_left]
theorem LR.form {w:World} {v:Value} {ys:List Int} {b:Nat} (h:LR w v ys b):∃ o n c,v = .slice (some ⟨b,o,none⟩) n c∧n=ys.length:=by
 obtain ⟨o,c,rfl,_⟩:=h;exact ⟨o,_,c,rfl,rfl⟩
theorem LR.one {w:World} {o n c b:Nat} {y:Int} {ys:List Int} (h:LR w (.slice (some ⟨b,o,none⟩) n c) (y::ys) b):n=ys.length+1∧w.cell? ⟨b,o,none⟩=some (I y):=by
 obtain ⟨o',c',e,h1,h2⟩:=h;cases e;exact ⟨by simp,h2 0 (by simp)⟩
theorem ek.ag6 {w w':World} {τ:Tag} {m:Nat} {S:SV} {M:Mc} {vG vF vW vT:Value} {fg ff fw ft:Option Nat} {F:Nat→Prop} {ks:List Nat} (h:ek w τ m S M vG vF vW vT fg ff fw ft F ks) {l:List Int}
   (hm:Mod (fun b=>fg=some b) w w') (ho:ao w' 3 1 vG (l.map I) l.length fg):ek w' τ m S { M with globals:=l} vG vF vW vT fg ff fw ft F ks:=by
 have he:τ.wx τ w:=(dV τ w).wx;have cz:∀ {t:Tg},t≠.gl→∀ b,b < w.heap.size→fg=some b→τ b≠t:=fun ht b hb U e=>ht (e.symm.trans (h.tg b U))
 obtain ⟨c1,c2⟩:=h.GK hm he (cz (by simp));obtain ⟨f1,f2⟩:=gP h.fr h.tf hm he (cz (by simp));obtain ⟨w1,w2⟩:=gP h.wt h.tw hm he (cz (by simp));obtain ⟨t1,t2⟩:=gP h.tl h.tt hm he (cz (by simp));obtain ⟨s1,s2⟩:=h.jy hm he (cz (by simp));obtain ⟨b1,b2,b3,b4⟩:=h.xI hm he (cz (by simp));refine ⟨c1,c2,ho,h.tg,f1,f2,w1,w2,t1,t2,s1,s2,h.len,fun i k f hk hf=>h.xH hm he hk hf (fun b hb U=>?_),b1,b2,b3,b4⟩;rw [h.tg b U];rintro (h | h | h)<;>cases h
theorem ag7 {α:Type} (h:α→α) (l:List α) (i:Nat) (hi:i < l.length):((l.take i).map h++l.drop i).set i (h l[i])=(l.take (i+1)).map h++l.drop (i+1):=by
 rw [List.take_succ_eq_append_getElem hi,List.map_append,List.set_append_right _ _ (by simp;omega)];simp only [List.length_map,List.length_take,Nat.min_eq_left (Nat.le_of_lt hi),Nat.sub_self];rw [List.drop_eq_getElem_cons hi,List.set_cons_zero,List.append_assoc];rfl
def Mc.part (M:Mc) (g:Int→Int) (i:Nat):Mc:={ M with globals:=M.globals.map g,aE:=(M.aE.take i).map (Fr.eZ g)++M.aE.drop i}
theorem Vx {w:World} {τ:Tag} {m:Nat} {S:SV} {M:Mc} {ks:List Nat} (h:iL w τ m S M ks) (g:Int→Int) {v:Value} {n b:Nat} (hv:ao w 3 1 v ((M.roots.map g).map I) n (some b)) (hb:τ b = .no) (hR:M.roots.length≤17592186044416) :
   aK Tryz.prog 83 [ptr m,v] w fun _ w'=>∃ X:Mod (fun b=>(τ b).own) w w',iL w' τ m S (M.eZ g) ks:=by
 obtain ⟨vG,vF,vW,vT,fg,ff,fw,ft,F,h⟩:=h;have hc:=h.cells;have hl:=h.len;have dI:=Vu M;have hbl:=hv.lt rfl;have GR:LR w v (M.globals.map g++((M.aE.flatMap Fr.roots).map g++M.wait.map g)) b:=by
  obtain ⟨lL,gD⟩:=hv;have hn:n=(M.roots.map g).length:=by simp at lL;simp;omega
  rcases gD with ⟨_,_,e⟩ | ⟨b',c,sp,rfl,e,h3,h4,h5⟩
  ·cases e
  ·cases e;have e1:M.globals.map g++((M.aE.flatMap Fr.roots).map g++M.wait.map g)=M.roots.map g:=by simp [Mc.roots]
   rw [e1];refine ⟨0,c,by rw [hn],by omega,fun i hi=>?_⟩;rw [cell_of h3];simp only [Nat.zero_add,List.getElem?_toArray];rw [List.getElem?_append_left (by simpa using hi),List.getElem?_map,List.getElem?_eq_getElem hi];rfl
 refine af9.calls rfl ?_;unfold LS;obtain ⟨o1,c1,rfl,cY,Ki⟩:=GR;have GR:LR w _ _ b:=⟨o1,c1,rfl,cY,Ki⟩;simp only [go_sem,simprocAttr,cell_of hc,bb];have mW:(M.globals.map g).length=M.globals.length:=by simp
 refine GQ (news:=(M.globals.map g).map I) rfl h.gl rfl (fun h=>by cases h) (by simp only [List.length_append,mW];omega) (by have:=GR.rd;rw [mW] at this;exact this) (pB _) ?_;intro w1 jx ag cL;have h1:ek w1 τ m S { M with globals:=M.globals.map g} vG vF vW vT fg ff fw ft F ks:=h.ag6 (l:=M.globals.map g) ag (by rw [mW];exact jx);have nb:∀ {t:Tg} {fp:Option Nat},τ.is fp t→t≠.no→fp≠some b:=fun ht hn e=>hn ((ht b e).symm.trans hb)
 have MJ:=GR.mod ag (nb h.tg (by simp));obtain ⟨MJ,z1⟩:=MJ.drop mW;have Dt:=h1.cells;obtain ⟨aF,cF,rfl,_⟩:=h.fr.val;simp only [go_sem,simprocAttr,an,bq,z1,cell_of Dt,bb,dB];have ag8:Mod (fun b=>(τ b).own) w w1:=ag.az (fun x U=>by rw [h.tg x U];simp [Tg.own])
 refine dA (fun k ρ w'=>∃ (i:Nat) (v':Value),k=ks.length - i∧i≤ks.length∧Mod (fun b=>(τ b).own) w w'∧ek w' τ m S (M.part g i) vG (.slice aF ks.length cF) vW vT fg ff fw ft F ks ∧
  LR w' v' (((M.aE.drop i).flatMap Fr.roots).map g++M.wait.map g) b∧ρ=[(0,ptr m),(1,v'),(17,.slice aF ks.length cF),(18,I ks.length),(19,I i)]) ks.length
  ⟨0,_,rfl,by omega,ag8,h1,MJ,rfl⟩ ?_
 rintro k ρ w2 ⟨i,v',rfl,hi,ae,h2,vL,rfl⟩;unfold U8;refine σ ?_;have cB:=h2.cells;refine aY rfl (fun hh=>?_) (fun hh=>?_)
 ·have kj:i < ks.length:=by simpa using hh
  have A':i < M.aE.length:=by omega
  obtain ⟨bF,rfl,_,Dp⟩:=kQ h2.fr (i:=i) kj;have hk:ks[i]? = some ks[i]:=List.getElem?_eq_getElem kj;have hf:M.aE[i]? = some M.aE[i]:=List.getElem?_eq_getElem A';have kq:(M.part g i).aE[i]? = some M.aE[i]:=by
   simp only [Mc.part];rw [List.getElem?_append_right (by simp;omega)];simp [Nat.min_eq_left (Nat.le_of_lt A'),hf]
  rw [List.getElem?_map,hk,Option.map_some] at Dp;obtain ⟨vs,vp,fs,fp,bt⟩:=h2.jJ i _ _ hk kq;have b1:(0:Int)≤i∧(i:Int) < ks.length:=by omega
  have CG:=bt.cells;have FX:(M.aE.drop i).flatMap Fr.roots=M.aE[i].spine++(M.aE[i].stack++(M.aE[i].bC::(M.aE.drop (i+1)).flatMap Fr.roots)):=by
   rw [List.drop_eq_getElem_cons A',List.flatMap_cons];simp only [Fr.roots,List.append_assoc,List.cons_append,List.nil_append]
  rw [FX] at vL;simp only [List.map_append,List.map_cons,List.append_assoc] at vL;have mP:=ag7 (Fr.eZ g) M.aE i A';generalize hfe:M.aE[i]=f at *;generalize ks[i]=k at *;obtain ⟨o2,n2,c2,rfl,oU⟩:=vL.form;simp only [List.length_append,List.length_map,List.length_cons] at oU;simp only [go_sem,simprocAttr,an,bq,b1,Dp,dB,cell_of CG,cC];have kJ:(f.spine.map g).length=f.spine.length:=by simp
  have pI:(f.stack.map g).length=f.stack.length:=by simp
  refine GQ (news:=(f.spine.map g).map I) rfl bt.spine rfl (fun h=>by cases h) (by omega) (by have:=vL.rd;rw [kJ] at this;exact this) (pB _) ?_;intro w3 me ab eP;have hkb:k≠b:=fun e=>by have:=bt.tk;rw [e,hb] at this;cases this
  obtain ⟨a1,a2,a3⟩:=Dl bt;have xo:nS w3 τ i k { f with spine:=f.spine.map g} vs vp fs fp:=
   ⟨ab.at CG a2,bt.tk,bt.stack.mod ab (fun x U hh=>a3 x U hh),bt.ts,by rw [show ({ f with spine:=f.spine.map g}:Fr).spine.length=f.spine.length from kJ];exact me,bt.tp⟩
  have Ba:=vL.mod ab (nb bt.tp (by simp));obtain ⟨Ba,z3⟩:=Ba.drop kJ;have GP:=xo.cells;generalize sC:(Value.slice (if c2=f.spine.length then some ⟨b,o2,none⟩ else some ⟨b,o2+f.spine.length,none⟩) (n2 - f.spine.length) (c2 - f.spine.length))=v3 at Ba;obtain ⟨o3,n3,c3,rfl,Bb⟩:=Ba.form;simp only [List.length_append,List.length_map,List.length_cons] at Bb;simp only [go_sem,simprocAttr,an,bq,z3,dB,sC,cell_of GP,cC];refine GQ (news:=(f.stack.map g).map I) rfl xo.stack rfl (fun h=>by cases h) (show f.stack.length≤n3 by omega) (by have:=Ba.rd;rw [pI] at this;exact this) (pB _) ?_;intro w4 gk ai eu;have Dr:nS w4 τ i k { f with spine:=f.spine.map g,stack:=f.stack.map g} vs vp fs fp:=
   ⟨ai.at GP a1,bt.tk,by rw [show ({ f with spine:=f.spine.map g,stack:=f.stack.map g}:Fr).stack.length=f.stack.length from pI];exact gk,bt.ts,xo.spine.mod ai (fun x U hh=>a3 x hh U),bt.tp⟩
  have Bc:=Ba.mod ai (nb bt.ts (by simp));obtain ⟨Bc,z4⟩:=Bc.drop pI;have MG:=Dr.cells;generalize Du:(Value.slice (if c3=f.stack.length then some ⟨b,o3,none⟩ else some ⟨b,o3+f.stack.length,none⟩) (n3 - f.stack.length) (c3 - f.stack.length))=v4 at Bc;obtain ⟨o4,n4,c4,rfl,KW⟩:=Bc.form;simp only [List.length_append,List.length_map,List.length_cons] at KW;obtain ⟨apa,ag9⟩:=Bc.one;have z5:(0:Int)≤0∧(0:Int) < n4:=by omega
  have z6:(0:Int)≤1∧(1:Int)≤n4:=by omega
  obtain ⟨ag',_⟩:=LR.drop (k:=1) (xs:=[g f.bC]) Bc rfl;have e1:IntKind.i64.wrap ((i:Int)+1)=((i+1:Nat):Int):=by rw [cy (by omega) (by omega)];omega
  simp only [go_sem,simprocAttr,an,bq,z4,dB,Du,z5,z6,ag9,Nat.add_zero,show Int.toNat 1=1 from rfl,e1];refine bY (cs:=cC { f with spine:=f.spine.map g,stack:=f.stack.map g} vs vp) (off:=5) rfl rfl MG rfl (by simp [cC]) ?_;intro w5 bZ aB fP;refine σ ?_;have vD:=Mod.dj aB;have aha:nS w5 τ i k (f.eZ g) vs vp fs fp:=
   ⟨by simpa [cC,Fr.eZ] using bZ,bt.tk,Dr.stack.mod vD (fun x U hh=>a1 (hh ▸ U)),bt.ts,Dr.spine.mod vD (fun x U hh=>a2 (hh ▸ U)),bt.tp⟩
  have nL:Mod (fun b=>(τ b).fo i) w2 w5:=by
   refine ((ab.az (fun x U=>.inr (.inr (bt.tp x U)))).trans (ai.az (fun x U=>.inr (.inl (bt.ts x U))))).trans (vD.az (fun x U=>?_));subst U;exact .inl bt.tk
  refine ⟨_,by omega,i+1,_,rfl,by omega,ae.trans (nL.az (fun x U=>?_)),?_,ag'.mod vD (fun hh=>hkb hh.symm),rfl⟩
  ·rcases U with U | U | U<;>rw [U]<;>simp [Tg.own]
  ·have:=h2.frame hk nL (dV τ w2).wx ⟨vs,vp,fs,fp,aha⟩;have e2:({ M.part g i with aE:=(M.part g i).aE.set i (f.eZ g)}:Mc)=M.part g (i+1):=by
    simp only [Mc.part,mP]
   rw [e2] at this;exact this
 ·have kj:¬ i < ks.length:=by simpa using hh
  obtain rfl:i=ks.length:=by omega
  have e0:M.aE.drop ks.length=[]:=by rw [hl];exact List.drop_length
  have e1:M.aE.take ks.length=M.aE:=by rw [hl];exact List.take_length
  rw [e0] at vL;simp only [List.flatMap_nil,List.map_nil,List.nil_append] at vL;obtain ⟨o2,n2,c2,rfl,oU⟩:=vL.form;simp only [go_sem,simprocAttr,cell_of cB,bb];have kr:(M.wait.map g).length=M.wait.length:=by simp
  refine GQ (news:=(M.wait.map g).map I) rfl h2.wt rfl (fun h=>by cases h) (show M.wait.length≤n2 by omega) (by
   have hh:=vL;rw [← List.append_nil (M.wait.map g)] at hh;have:=hh.rd
   rw [kr] at this;exact this) (pB _) ?_
  intro w3 me ab eP;refine σ ?_;refine ⟨ae.trans (ab.az (fun x U=>by rw [h.tw x U];simp [Tg.own])),⟨vG,.slice aF ks.length cF,vW,vT,fg,ff,fw,ft,F,?_⟩⟩;have U:m∉(fw:Option Nat):=fun e=>by have:=h.tw m e;rw [h.tm] at this;cases this
  refine h2.waits (M':=M.eZ g) (l:=M.wait.map g) (dV τ w2).wx (ab.az (fun x U=>.inl U)) ?_ (by rw [kr];exact me) h.tw rfl ?_ rfl rfl rfl rfl rfl
  ·have:=ab.at cB (fun e=>U e)
   simpa [bb,Mc.part,Mc.eZ] using this
  ·simp only [Mc.eZ,Mc.part,e0,e1,List.append_nil]
end
section
open Go Go.W
theorem ahb (s:St) (hr:s.kd≠.ref) (n:Int) (roots:List Int) {l:List Int} (h:(ei s n roots).1=some l):l=roots.map (nQ s n roots):=by
 obtain ⟨kd,sz,ns⟩:=s;cases kd with
 | ref=>exact absurd rfl hr
 | hp t=>
  simp only [ei,nQ,jl] at h ⊢
  split at h
  ·cases h
  split at h
  ·cases h
  split at h
  ·rename_i hh;cases h;rw [if_pos hh];simp
  ·rename_i hh;rw [if_neg hh]
   split at h
   ·cases h
   ·cases h;rfl
 | gn y o t=>
  simp only [ei,nQ,ja] at h ⊢
  split at h
  ·cases h
  split at h
  ·cases h
  split at h
  ·rename_i hh;cases h;rw [if_pos hh];simp
  ·rename_i hh;rw [if_neg hh]
   split at h
   ·rename_i cQ;rw [if_pos cQ];unfold sA at h
    split at h
    ·cases h
    ·cases h;simp only [fm,List.map_map];rfl
   ·rename_i cQ;rw [if_neg cQ];cases h;rfl
theorem zi (s:St) (n:Int) (roots:List Int):(ei s n roots).2.size=s.size:=by
 obtain ⟨kd,sz,ns⟩:=s;cases kd with
 | ref=>simp only [ei];split<;>rfl
 | hp t=>rfl
 | gn y o t=>rfl
theorem gM.iface {w:World} {sv:Value} {s:St} {F:Nat→Prop} (h:gM w sv s F):∃ t u,sv = .iface t (.pointer (some u)):=by
 obtain ⟨kd,sz,ns⟩:=s;cases kd with
 | hp t=>obtain ⟨a,e,_⟩:=h;exact ⟨_,_,e⟩
 | gn y o t=>obtain ⟨a,e,_⟩:=h;exact ⟨_,_,e⟩
 | ref=>exact h.elim
theorem MK {w:World} {τ:Tag} {m:Nat} {S:SV} {M:Mc} {ks:List Nat} (h:iL w τ m S M ks) (ho:M.st.Ok) (hr:M.st.kd≠.ref) {n:Int} (hn:0≤n∧n≤4294967296) (hb:0≤M.base∧M.base≤1048576) (hy:0≤M.bp∧M.bp≤1048576)
   (hR:M.roots.length≤17592186044416) (bj:M.roots≠[]) :
   aK Tryz.prog 136 [ptr m,I n] w fun r w'=>r = .bool (M.room n).1∧aU w τ m S (M.room n).2 ks w':=by
 have hM:=h;obtain ⟨vG,vF,vW,vT,fg,ff,fw,ft,F,h⟩:=h;have hc:=h.cells;obtain ⟨ti,ui,ud⟩:=h.st.iface;have dQ:=ho.hi;have pO:=ho.lo;have yw:=ho.n;have iw:M.ref=false:=by unfold Mc.ref;split<;>simp_all
 refine agD.calls rfl ?_;unfold Mp;simp only [go_sem,simprocAttr,cell_of hc,bb];refine GA rfl h.st ?_;have e1:IntKind.i64.wrap (M.st.size - M.st.ns.length)=M.st.size - M.st.ns.length:=cy (by omega) (by omega);have e2:IntKind.i64.wrap (IntKind.i64.wrap ((M.st.ns.length:Int) - M.base)+n)=M.st.ns.length - M.base+n:=by
  rw [cy (n:=(M.st.ns.length:Int) - M.base) (by omega) (by omega),cy (by omega) (by omega)]
 simp only [go_sem,simprocAttr,cell_of hc,bb,e1,e2];refine iG (fun ρ w'=>w'=w.drew∧ρ.get 0=some (ptr m)∧ρ.get 1=some (I n)∧ρ.get 44=some (.bool (M.quick n))) ?_ ?_
 ·unfold Mc.quick;rw [iw];cases hq:decide (n≤M.st.size - M.st.ns.length)<;>cases hg:M.b8<;>simp only [go_sem,simprocAttr,cell_of hc,bb,hg,e1,e2,Bool.not_true,Bool.not_false,Bool.false_and,Bool.or_true,Bool.true_or,Bool.false_or,Bool.or_false]
 rintro ρ _ ⟨rfl,r0,r1,A4⟩;simp only [go_sem,simprocAttr,r0,r1,A4];refine aY rfl (fun hq=>?_) (fun hq=>?_)
 ·refine σ ?_;have e3:M.room n=(true,M):=by unfold Mc.room;rw [if_pos hq]
  rw [e3];exact ⟨rfl,τ,dV τ w,hM.mod ((Mod.refl (fun _=>False) w).drew) (dV τ w).wx (fun _ _ h=>h.elim),(Mod.refl _ w).drew⟩
 ·simp only [go_sem,simprocAttr,cell_of hc,bb,ud];have e3:M.room n=match (ei M.st n M.roots).1 with
   | none=>(false,{ M with st:=(ei M.st n M.roots).2,live:=(ei M.st n M.roots).2.ns.length,ended:=5})
   | some _=>(true,M.after (nQ M.st n M.roots) (ei M.st n M.roots).2):=by
   unfold Mc.room;rw [if_neg (by rw [hq];simp),iw];rfl
  refine aq (by rfl) ?_;have hM0:iL w.drew.drew τ m S M ks:=hM.mod (Mod.refl (fun _=>False) w).drew.drew (dV τ w).wx (fun _ _ h=>h.elim);refine (Vv hM0 hR).mono ?_;rintro r1 w1 ⟨⟨f1,jx,tK⟩,ag⟩;have ag:Mod (fun _=>False) w w1:=Mod.dj (Mod.dj ag);have tK:∀ b,f1=some b→w.heap.size≤b:=tK;refine ⟨ag.old m h.lt (fun h=>h),?_⟩;have h1:=h.mod (bI:=bL τ w .no) ag (eJ τ w .no).wx (fun _ _ h=>h.elim);have UT:M.roots.length=M.roots.length:=rfl;obtain ⟨rV,_⟩:=jx.ints hR;obtain ⟨va,vc,rfl,_⟩:=jx.val;refine ag0 (n:=n) (roots:=M.roots) (by rw [ud];rfl) (by rfl) h1.st ho rV ?_ hR ?_ ?_
  ·intro _ x U hF;have fJ:=h1.tF x hF;obtain ⟨b,c',sp,e,rfl,_⟩:=jx.pos (List.length_pos_iff.2 bj);cases e;cases U;rw [oP (tK _ rfl)] at fJ;cases fJ
  ·intro yU w2 F2 e he dq lu;have h2:=h1.store (s:=(ei M.st n M.roots).2) lu dq (zi _ _ _);have cB:=h2.cells;rw [e3,yU];have e4:((e:Int) != 0)=true:=by simpa using he
   simp only [go_sem,simprocAttr,e4,cell_of cB,bb];refine GA rfl h2.st ?_;refine σ ?_;refine bY (off:=17) rfl rfl cB rfl (by simp [bb]) ?_;intro w3 aJ ab eP;refine σ ?_;refine bY (off:=15) rfl rfl aJ rfl (by simp [bb]) ?_;intro w4 aH ai eu;refine σ ?_;have ht:(bL τ w Tg.no).ext (mV (bL τ w Tg.no) w1 F2) w1:=nU _ _ _;refine ⟨mV (bL τ w .no) w1 F2,GF (eJ τ w .no) ht ag.size,⟨vG,vF,vW,vT,fg,ff,fw,ft,F2,h2.A7 (ab.trans ai) (by simpa [bb] using aH) rfl rfl rfl rfl rfl rfl rfl⟩,?_⟩;refine ((ag.az (fun _ h=>h.elim)).step lu.1 (fun x U hl=>?_)).step (ab.trans ai) (fun x U hl=>by subst U;rw [h.tm];simp [Tg.own]);have:=h1.tF x U;rw [eJ τ w .no x hl] at this;rw [this];simp [Tg.own]
  ·intro l Fi w2 F2 v2 dq lu qk;have h2:=h1.store (s:=(ei M.st n M.roots).2) lu dq (zi _ _ _);have hl:=ahb M.st hr n M.roots Fi;rw [e3,Fi];subst hl;obtain ⟨fp,dR,eO⟩:=qk;obtain ⟨b,c',sp,rfl,rfl,aJ,_⟩:=dR.pos (by simp;exact List.length_pos_iff.2 bj);obtain ⟨ax,aC⟩:=eO b rfl;simp only [go_sem,simprocAttr,show ((0:Int) != 0)=false from rfl];refine δ (by rfl) (Vx (M:={ M with st:=(ei M.st n M.roots).2}) ⟨vG,vF,vW,vT,fg,ff,fw,ft,F2,h2⟩ (nQ M.st n M.roots) dR (Vp ax aC) hR) ?_;rintro r3 w3 ⟨ab,⟨Vy,Vz,VA,VB,VC,VD,VE,VF,F3,h3⟩⟩;have ey:=h3.cells;simp only [go_sem,simprocAttr,cell_of ey,bb];refine GA rfl h3.st ?_;refine σ ?_;refine bY (off:=8) rfl rfl ey rfl (by simp [bb]) ?_;intro w4 aH ai eu;refine σ ?_;have ht:(bL τ w Tg.no).ext (mV (bL τ w Tg.no) w1 F2) w1:=nU _ _ _;have Aj:=GF (eJ τ w .no) ht ag.size;refine ⟨mV (bL τ w .no) w1 F2,Aj,⟨Vy,Vz,VA,VB,VC,VD,VE,VF,F3,h3.A7 (M':=M.after (nQ M.st n M.roots) (ei M.st n M.roots).2) ai (by simpa [bb,Mc.after,Mc.eZ,zi] using aH) rfl rfl rfl rfl rfl rfl rfl⟩,?_⟩
   have tS:Mod (fun b=>(τ b).own) w w2:=(ag.az (fun _ h=>h.elim)).step lu.1 (fun x U hl=>by
    have:=h1.tF x U;rw [eJ τ w .no x hl] at this
    rw [this];simp [Tg.own])
   refine (tS.step ab (fun x U hl=>by rw [Aj x hl] at U;exact U)).step ai (fun x U hl=>by subst U;rw [h.tm];simp [Tg.own])
end
section
open Go Go.W
section
variable {w:World} {τ:Tag} {m:Nat} {S:SV} {M:Mc} {ks:List Nat} {k:Nat} {x:Ins}
structure dJ (w:World) (τ:Tag) (m:Nat) (S:SV) (M:Mc) (ks:List Nat) (k:Nat):Prop where
 at':iL w τ m S M ks
 pos:0 < M.aE.length
 hk:ks[M.aE.length - 1]? = some k
theorem Dv (hp:0 < M.aE.length):M.aE[M.aE.length - 1]? = some M.aa:=by
 unfold Mc.aa;rw [List.getD_eq_getElem?_getD,List.getElem?_eq_getElem (by omega:M.aE.length - 1 < M.aE.length)];rfl
theorem dJ.fr (h:dJ w τ m S M ks k):nT w τ (M.aE.length - 1) k M.aa:=by
 obtain ⟨⟨vG,vF,vW,vT,fg,ff,fw,ft,F,h1⟩,hp,hk⟩:=h;exact h1.jJ _ _ _ hk (Dv hp)
theorem dJ.fo (h:dJ w τ m S M ks k) {f':Fr} {w':World} (ho:xD w τ (M.aE.length - 1) k f' w'):aU w τ m S (M.bU f') ks w':=by
 obtain ⟨⟨vG,vF,vW,vT,fg,ff,fw,ft,F,h1⟩,hp,hk⟩:=h;obtain ⟨bI,he,hf,hm⟩:=ho;exact ⟨bI,he,⟨vG,vF,vW,vT,fg,ff,fw,ft,F,h1.frame hk hm he.wx hf⟩,hm.az (fun b hb=>by rcases hb with hb | hb | hb<;>rw [hb]<;>simp [Tg.own])⟩
theorem qL (hp:0 < M.aE.length) (f:Fr):(M.bU f).aa=f∧(M.bU f).aE.length=M.aE.length:=by
 constructor
 ·simp only [Mc.bU,Mc.aa,List.length_set,List.getD_eq_getElem?_getD];rw [List.getElem?_set_self (by omega)];rfl
 ·simp [Mc.bU]
theorem ML (f g:Fr):(M.bU f).bU g=M.bU g:=by simp [Mc.bU,List.set_set]
theorem aU.aa {M':Mc} {w':World} (h:aU w τ m S M' ks w') (hl:M'.aE.length=M.aE.length) (hp:0 < M.aE.length) (hk:ks[M.aE.length - 1]? = some k):∃ bI,τ.ext bI w∧Mod (fun b=>(τ b).own) w w'∧dJ w' bI m S M' ks k:=by
 obtain ⟨bI,h1,h2,h3⟩:=h;exact ⟨bI,h1,h3,h2,by omega,by rw [hl];exact hk⟩
theorem dJ.mod (h:dJ w τ m S M ks k) {w':World} {bI:Tag} {X:Nat→Prop} (hm:Mod X w w') (he:τ.wx bI w) (hd:∀ b,b < w.heap.size→X b→τ b = .no):dJ w' bI m S M ks k:=⟨h.at'.mod hm he hd,h.pos,h.hk⟩
theorem aU.boxed {w1 w':World} {M':Mc} (hm:Mod (fun _=>False) w w1) (h:aU w1 (bL τ w .no) m S M' ks w'):aU w τ m S M' ks w':=by
 obtain ⟨bI,h1,h2,h3⟩:=h;refine ⟨bI,GF (eJ τ w .no) h1 hm.size,h2,(hm.az (fun _ h=>h.elim)).step h3 (fun i hi hl=>?_)⟩;rw [eJ τ w .no i hl] at hi;exact hi
@[go_sem] def hU (x:Ins):Value:=.agg #[I x.op,I x.a,I x.b]
end
section
variable {w:World} {τ:Tag} {m:Nat} {S:SV} {M:Mc} {ks:List Nat} {k:Nat} {x:Ins}
theorem ahc (h:dJ w τ m S M ks k) (hs:M.aa.stack.length≤4294967295) (ha:0≤x.a∧x.a < M.aa.stack.length):aK Tryz.prog 110 [ptr m,ptr k,hU x] w fun _ w'=>aU w τ m S (M.bU (M.aa.push (M.aa.place x.a))) ks w':=by
 refine age.calls rfl ?_;unfold L1;refine σ ?_;refine cK rfl ?_;intro w1 ax ag _;have h1:=h.mod (bI:=bL τ w .no) ag (eJ τ w .no).wx (fun _ _ h=>h.elim);simp only [go_sem,simprocAttr,cell_of ax,Value.cells];refine δ (by rfl) (oQ h1.fr (by omega) ha) ?_;rintro _ _ ⟨rfl,rfl⟩;refine σ ?_;refine aq (by rfl) ?_;have h2:dJ w1.drew (bL τ w .no) m S M ks k:=h1.mod (Mod.refl (fun _=>False) w1).drew (dV _ _).wx (fun _ _ h=>h.elim);refine (xF h2.fr (by omega) (M.aa.place x.a)).mono ?_;intro _ w' ho;refine σ ?_;exact aU.boxed (ag.trans (Mod.refl (fun _=>False) w1).drew) (h2.fo ho)
theorem ahd (h:dJ w τ m S M ks k) (hs:M.aa.stack.length≤4294967295) (ha:0≤x.a∧x.a < M.globals.length):aK Tryz.prog 113 [ptr m,ptr k,hU x] w fun _ w'=>aU w τ m S (M.bU (M.aa.push (M.globals.getD x.a.toNat 0))) ks w':=by
 refine agh.calls rfl ?_;unfold L3;refine σ ?_;refine cK rfl ?_;intro w1 ax ag _;have h1:=h.mod (bI:=bL τ w .no) ag (eJ τ w .no).wx (fun _ _ h=>h.elim);have h2:dJ w1.drew (bL τ w .no) m S M ks k:=h1.mod (Mod.refl (fun _=>False) w1).drew (dV _ _).wx (fun _ _ h=>h.elim);obtain ⟨vG,vF,vW,vT,fg,ff,fw,ft,F,hh⟩:=h1.at';have hc:=hh.cells;obtain ⟨aG,cG,rfl,_⟩:=hh.gl.val;obtain ⟨j,hj⟩:∃ j:Nat,x.a=j:=⟨x.a.toNat,by omega⟩;have ji:j < M.globals.length:=by omega
 obtain ⟨b,rfl,_,gC⟩:=kQ hh.gl (i:=j) ji;have e1:w1.cell? ⟨b,j,none⟩=some (I (M.globals.getD j 0)):=by
  rw [gC,List.getElem?_map,List.getElem?_eq_getElem ji,List.getD_eq_getElem?_getD,List.getElem?_eq_getElem ji];rfl
 have b1:(0:Int)≤j∧(j:Int) < M.globals.length:=by omega
 rw [hj];rw [hj] at ax;simp only [go_sem,simprocAttr,an,bq,cell_of ax,Value.cells,cell_of hc,bb,b1,dB,e1];refine δ (by rfl) (xF h2.fr (by omega) (M.globals.getD j 0)) ?_;intro _ w' ho;refine σ ?_;exact aU.boxed (ag.trans (Mod.refl (fun _=>False) w1).drew) (h2.fo ho)
theorem ahe (h:dJ w τ m S M ks k) (hs:M.aa.stack.length≤4294967295) (ha:0≤x.a∧x.a≤M.aa.stack.length):aK Tryz.prog 117 [ptr m,ptr k,hU x] w fun _ w'=>aU w τ m S (M.bU (M.aa.pop x.a)) ks w':=by
 refine agk.calls rfl ?_;unfold L6;refine σ ?_;refine cK rfl ?_;intro w1 ax ag _;have h1:=h.mod (bI:=bL τ w .no) ag (eJ τ w .no).wx (fun _ _ h=>h.elim);simp only [go_sem,simprocAttr,cell_of ax,Value.cells];refine δ (by rfl) (ze h1.fr (by omega) ha) ?_;intro _ w' ho;refine σ ?_;exact aU.boxed ag (h1.fo ho)
theorem ahf (h:dJ w τ m S M ks k):aK Tryz.prog 128 [ptr m,ptr k,hU x] w fun _ w'=>aU w τ m S (M.bU { M.aa with at':=x.a}) ks w':=by
 refine agv.calls rfl ?_;unfold Mh;refine σ ?_;refine cK rfl ?_;intro w1 ax ag _;have h1:=h.mod (bI:=bL τ w .no) ag (eJ τ w .no).wx (fun _ _ h=>h.elim);obtain ⟨vs,vp,fs,fp,hf⟩:=h1.fr;simp only [go_sem,simprocAttr,cell_of ax,Value.cells];refine bY (off:=2) rfl rfl hf.cells rfl (by simp [cC]) ?_;intro w2 aC ae dq;refine σ ?_;exact aU.boxed ag (h1.fo (GJ hf rfl rfl (by simpa [cC] using aC) ae))
theorem ahg (h:dJ w τ m S M ks k):aK Tryz.prog 131 [ptr m,ptr k,hU x] w fun _ w'=>aU w τ m S (M.fail x.a) ks w':=by
 refine agy.calls rfl ?_;unfold Mk;refine σ ?_;refine cK rfl ?_;intro w1 ax ag _;have h1:=h.mod (bI:=bL τ w .no) ag (eJ τ w .no).wx (fun _ _ h=>h.elim);simp only [go_sem,simprocAttr,cell_of ax,Value.cells];refine δ (by rfl) (sB h1.at' x.a) ?_;intro _ w' ho;refine σ ?_;exact aU.boxed ag ho
end
end
section
open Go Go.W
section
variable {w:World} {τ:Tag} {m:Nat} {S:SV} {M:Mc} {ks:List Nat} {k:Nat} {x:Ins}
theorem vM (w:World):Ints w (.slice none 0 0) []:=⟨none,0,rfl,by simp,fun i hi=>by simp at hi⟩
theorem dJ.two {M1:Mc} {w1:World} (h:dJ w τ m S M ks k) (ho:aU w τ m S M1 ks w1) (hl:M1.aE=M.aE):∃ bI,τ.ext bI w∧Mod (fun b=>(τ b).own) w w1∧dJ w1 bI m S M1 ks k:=ho.aa (by rw [hl]) h.pos h.hk
theorem zj {M1:Mc} {w1 w':World} {bI:Tag} {f':Fr} (h1:τ.ext bI w) (h2:Mod (fun b=>(τ b).own) w w1) (h:dJ w1 bI m S M1 ks k) (ho:xD w1 bI (M1.aE.length - 1) k f' w'):aU w τ m S (M1.bU f') ks w':=aU.cat h1 h2 (h.fo ho)
theorem ahh (h:dJ w τ m S M ks k) (ho:M.st.Ok) (hs:M.aa.stack.length≤4294967295) (hr:(M.st.ns.length:Int) < M.st.size) (ha:(⟨1,x.a,[]⟩:Nd).may=true) :
   aK Tryz.prog 115 [ptr m,ptr k,hU x] w fun _ w'=>aU w τ m S (M.put ⟨1,x.a,[]⟩ 0) ks w':=by
 refine agj.calls rfl ?_;unfold L5;refine σ ?_;refine cK rfl ?_;intro w1 ax ag _;have h1:=h.mod (bI:=bL τ w .no) ag (eJ τ w .no).wx (fun _ _ h=>h.elim);simp only [go_sem,simprocAttr,cell_of ax,Value.cells];refine δ (by rfl) (Dm (nd:=⟨1,x.a,[]⟩) h1.at' ho ha rfl (vM w1) hr) ?_;rintro _ w2 ⟨rfl,hop⟩;obtain ⟨VG,k1,k2,k3⟩:=h1.two hop rfl;refine σ ?_;refine δ (by rfl) (xF k3.fr (by show M.aa.stack.length≤4294967296;omega) _) ?_;intro _ w3 hf;refine σ ?_;have:=zj k1 k2 k3 hf;refine aU.boxed ag ?_;have e:(M.put ⟨1,x.a,[]⟩ 0)=({ M with st:=M.st.add ⟨1,x.a,[]⟩}:Mc).bU (({ M with st:=M.st.add ⟨1,x.a,[]⟩}:Mc).aa.push M.st.ns.length):=by
  simp [Mc.put,Mc.bU,Fr.pop,Fr.push,Mc.aa]
 rw [e];exact this
theorem ahi (h:dJ w τ m S M ks k) (hs:M.aa.stack.length≤4294967295) (ha:0≤x.a∧x.a+1≤M.aa.stack.length) :
   aK Tryz.prog 119 [ptr m,ptr k,hU x] w fun _ w'=>aU w τ m S (M.bU ((M.aa.pop (x.a+1)).push (M.aa.place 0))) ks w':=by
 refine agm.calls rfl ?_;unfold L8;refine σ ?_;refine cK rfl ?_;intro w1 ax ag _;have h1:=h.mod (bI:=bL τ w .no) ag (eJ τ w .no).wx (fun _ _ h=>h.elim);have h2:dJ w1.drew (bL τ w .no) m S M ks k:=h1.mod (Mod.refl (fun _=>False) w1).drew (dV _ _).wx (fun _ _ h=>h.elim);have aC:w1.drew.heap[w.heap.size]? = _:=ax;refine σ ?_;refine δ (by rfl) (oQ h1.fr (by omega) ⟨by omega,by omega⟩) ?_;rintro _ _ ⟨rfl,rfl⟩;have e1:IntKind.i64.wrap (x.a+1)=x.a+1:=cy (by omega) (by omega);simp only [go_sem,simprocAttr,cell_of aC,Value.cells,cell_of ax,e1];refine δ (by rfl) (ze h2.fr (by omega) ⟨by omega,ha.2⟩) ?_;intro _ w2 ho;obtain ⟨VG,k1,k2,k3⟩:=(h2.fo ho).aa (by simp [Mc.bU]) h.pos h.hk;obtain ⟨t1,t2⟩:=qL h.pos (M.aa.pop (x.a+1));refine σ ?_;refine δ (by rfl) (xF k3.fr (by rw [t1];simp only [Fr.pop,List.length_take];omega) (M.aa.place 0)) ?_;intro _ w3 hf;refine σ ?_;have:=zj k1 k2 k3 hf;rw [t1,ML] at this;exact aU.boxed (ag.trans (Mod.refl (fun _=>False) w1).drew) this
end
end
section
open Go Go.W
section
variable {w:World} {τ:Tag} {m:Nat} {S:SV} {M:Mc} {ks:List Nat} {k:Nat} {x:Ins}
theorem Dw {w:World} {b:Nat} {xs:List Int} (h:w.heap[b]? = some (.cells (xs.map I).toArray 3 (0,0))) (hl:xs.length≤17592186044416):Ints w (.slice (some ⟨b,0,none⟩) xs.length xs.length) xs:=by
 refine ⟨_,_,rfl,hl,fun i hi=>⟨_,rfl,?_⟩⟩;rw [dB,cell_of h];simp [hi]
theorem dJ.later (h:dJ w τ m S M ks k) {w':World} (hm:Mod (fun _=>False) w w'):dJ w' (bL τ w .no) m S M ks k:=h.mod hm (eJ τ w .no).wx (fun _ _ h=>h.elim)
theorem put_eq (nd:Nd) (d:Int) (hp:0 < M.aE.length):M.put nd d=(({ M with st:=M.st.add nd}:Mc).bU (M.aa.pop d)).bU ((M.aa.pop d).push M.st.ns.length):=by
 simp [Mc.put,Mc.bU,List.set_set]
theorem ahj (h:dJ w τ m S M ks k) (ho:M.st.Ok) (hs:M.aa.stack.length≤4294967295) (hr:(M.st.ns.length:Int) < M.st.size) (h2:2≤M.aa.stack.length) (bE:bJ M.st.ns.length [M.aa.place 0,M.aa.place 1]=true) :
   aK Tryz.prog 120 [ptr m,ptr k,hU x] w fun _ w'=>aU w τ m S (M.put ⟨3,0,[M.aa.place 0,M.aa.place 1]⟩ 2) ks w':=by
 refine agn.calls rfl ?_;unfold L9;refine σ ?_;refine cK rfl ?_;intro w1 ax ag _;refine σ ?_;refine δ (by rfl) (oQ (h.later ag).fr (by omega) ⟨by omega,by omega⟩) ?_;rintro _ _ ⟨rfl,rfl⟩;have ae:Mod (fun _=>False) w w1.drew:=ag.drew;refine σ ?_;refine δ (by rfl) (oQ (h.later ae).fr (by omega) ⟨by omega,by omega⟩) ?_;rintro _ _ ⟨rfl,rfl⟩;have ab:Mod (fun _=>False) w w1.drew.drew:=ae.drew;refine σ ?_;refine cd (by rfl) (by rfl) ?_;intro w4 aH ai _;refine σ ?_;have h4:=h.later (ab.trans ai);refine δ (by rfl) (Dm (nd:=⟨3,0,[M.aa.place 0,M.aa.place 1]⟩) h4.at' ho rfl bE (Dw (xs:=[M.aa.place 0,M.aa.place 1]) aH (by simp)) hr) ?_;rintro _ w5 ⟨rfl,hop⟩;obtain ⟨nX,k1,k2,k5⟩:=h4.two hop rfl;refine σ ?_;refine δ (by rfl) (ze (n:=2) k5.fr (by show M.aa.stack.length≤_;omega) ⟨by omega,by show (2:Int)≤M.aa.stack.length;omega⟩) ?_;intro _ w6 iu;have gK:=aU.cat k1 k2 (k5.fo iu);obtain ⟨MM,j1,j2,k6⟩:=gK.aa (by simp [Mc.bU]) h.pos h.hk;refine σ ?_;refine aq (by rfl) ?_;obtain ⟨t1,t2⟩:=qL (M:={ M with st:=M.st.add ⟨3,0,[M.aa.place 0,M.aa.place 1]⟩}) h.pos (M.aa.pop 2);refine (xF k6.fr (by rw [show (({ M with st:=M.st.add ⟨3,0,[M.aa.place 0,M.aa.place 1]⟩}:Mc).bU (({ M with st:=M.st.add ⟨3,0,[M.aa.place 0,M.aa.place 1]⟩}:Mc).aa.pop 2)).aa=_ from t1];simp only [Fr.pop,List.length_take];omega) M.st.ns.length).mono ?_;intro _ w7 sb;refine σ ?_;have:=zj j1 j2 k6 sb;rw [show (({ M with st:=M.st.add ⟨3,0,[M.aa.place 0,M.aa.place 1]⟩}:Mc).bU (({ M with st:=M.st.add ⟨3,0,[M.aa.place 0,M.aa.place 1]⟩}:Mc).aa.pop 2)).aa=_ from t1] at this;rw [put_eq _ _ h.pos];exact aU.boxed (ab.trans ai) this
theorem ahk (h:dJ w τ m S M ks k) (hs:0 < M.aa.stack.length) :
   aK Tryz.prog 133 [ptr m,ptr k,hU x] w fun _ w'=>aU w τ m S (M.bU { M.aa with runs:=false,bC:=M.aa.stack.getD 0 0,stack:=[]}) ks w':=by
 refine agA.calls rfl ?_;unfold Mm;refine σ ?_;refine cK rfl ?_;intro w1 ax ag _;have h1:=h.later ag;obtain ⟨vs,vp,fs,fp,hf⟩:=h1.fr;obtain ⟨a,c,rfl,_⟩:=hf.stack.val;obtain ⟨b,rfl,_,gC⟩:=kQ hf.stack (i:=0) hs;have e1:w1.cell? ⟨b,0,none⟩=some (I (M.aa.stack.getD 0 0)):=by
  rw [gC,List.getElem?_map,List.getElem?_eq_getElem hs,List.getD_eq_getElem?_getD,List.getElem?_eq_getElem hs];rfl
 have b1:(0:Int)≤0∧(0:Int) < M.aa.stack.length:=by omega
 have hc:=hf.cells;simp only [go_sem,simprocAttr,an,bq,cell_of hc,cC,b1,dB,e1,Nat.add_zero];refine bY (cs:=cC M.aa (.slice (some ⟨b,0,none⟩) M.aa.stack.length c) vp) (off:=0) rfl rfl hc rfl (by simp [cC]) ?_;intro w2 aC ae dq;refine σ ?_;refine bY (off:=5) rfl rfl aC rfl (by simp [cC]) ?_;intro w3 aJ ab eP;refine σ ?_;refine bY (off:=3) rfl rfl aJ rfl (by simp [cC]) ?_;intro w4 aH ai eu;refine σ ?_;refine aU.boxed ag (h1.fo (GI (w2:=w1) (vs':=.slice none 0 0) (fs':=none) hf (ao.nil _ _ _) rfl (by simpa [cC] using aH) (Mod.refl _ w1) ((ae.trans ab).trans ai) (fun b hb=>by cases hb)))
end
end
section
open Go Go.W
theorem MN {s:St} (h:s.Ok) {p:Int} (hp:0≤p∧p < s.ns.length):s.ov p < s.ns.length:=qv (fu h.wf) (by omega)
section
variable {w:World} {τ:Tag} {m:Nat} {S:SV} {M:Mc} {ks:List Nat} {k:Nat} {x:Ins}
theorem oV {w w':World} {v:Value} {l:List Int} (h:yF w w' v l) (a b:Int):∀ u∈[I a,I b,v],u.oneCell'=true:=by
 obtain ⟨fp,h,_⟩:=h;obtain ⟨va,vc,rfl,_⟩:=h.val;simp [Value.oneCell']
theorem ahl (h:dJ w τ m S M ks k) (ho:M.st.Ok) (he:Ends M.st.ns) (hs:M.aa.stack.length≤4294967295) (ha:0≤x.a∧x.a < M.aa.stack.length) (h1:0≤M.aa.place x.a∧M.aa.place x.a < M.st.ns.length) (h0:0≤M.aa.place 0∧M.aa.place 0 < M.st.ns.length) :
   aK Tryz.prog 121 [ptr m,ptr k,hU x] w fun _ w'=>aU w τ m S { M.bU (M.aa.pop 1) with st:=M.st.set (M.st.ov (M.aa.place x.a)) ⟨5,0,[(M.st.ov (M.aa.place 0):Int)]⟩} ks w':=by
 refine ago.calls rfl ?_;unfold L';refine σ ?_;refine cK rfl ?_;intro w1 ax ag _;simp only [go_sem,simprocAttr,cell_of ax,Value.cells];refine δ (by rfl) (oQ (h.later ag).fr (by omega) ha) ?_;rintro _ _ ⟨rfl,rfl⟩;have ae:Mod (fun _=>False) w w1.drew:=ag.drew;refine σ ?_;refine δ (by rfl) (oS (h.later ae).at' ho he h1) ?_;rintro _ w3 ⟨v3,rfl,sC,ab⟩;refine σ ?_;refine dk ?_;intro w4 aH ai _;refine σ ?_;refine cX (cs:=[I 0,I 0,.slice none 0 0]) rfl rfl aH rfl rfl (oV sC _ _) ?_;intro w5 bZ aB fP;refine σ ?_;have eP:=(ae.trans ab).size;have dH:Mod (fun _=>False) w w5:=(ae.trans (ab.trans ai)).step aB (fun x U hl=>by subst U;omega);refine δ (by rfl) (oQ (h.later dH).fr (by omega) ⟨by omega,by omega⟩) ?_;rintro _ _ ⟨rfl,rfl⟩;have aD:Mod (fun _=>False) w w5.drew:=dH.drew;refine σ ?_;refine δ (by rfl) (oS (h.later aD).at' ho he h0) ?_;rintro _ w7 ⟨v7,rfl,hv7,aX⟩;refine σ ?_;refine dk ?_;intro w8 eB ch _;refine σ ?_;refine cX (cs:=[I 0,I 0,.slice none 0 0]) rfl rfl eB rfl rfl (oV hv7 _ _) ?_;intro w9 lH dO CO;refine σ ?_;have mN:=(aD.trans aX).size;have vv:Mod (fun _=>False) w w9:=(aD.trans (aX.trans ch)).step dO (fun x U hl=>by subst U;omega);have h9:=h.later vv;obtain ⟨vG,vF,vW,vT,fg,ff,fw,ft,F,hh⟩:=h9.at';have hc9:=hh.cells;obtain ⟨ti,ui,ud⟩:=hh.st.iface;simp only [go_sem,simprocAttr,cell_of hc9,bb];refine cd (by rfl) (by rfl) ?_;intro eX sy dU _;refine σ ?_;have VH:=h.later (vv.trans dU);obtain ⟨vG,vF,vW,vT,fg,ff,fw,ft,F,hh⟩:=VH.at';refine GB (p:=(M.st.ov (M.aa.place x.a):Int)) (nd:=⟨5,0,[(M.st.ov (M.aa.place 0):Int)]⟩) rfl (by rfl) hh.st ho ?_ rfl ?_ (Dw (xs:=[(M.st.ov (M.aa.place 0):Int)]) sy (by simp)) ?_
 ·have:=MN ho h1;omega
 ·have:=MN ho h0;simp [bJ];omega
 intro jU F11 CV VI;have h11:=hh.store (s:=M.st.set (M.st.ov (M.aa.place x.a)) ⟨5,0,[(M.st.ov (M.aa.place 0):Int)]⟩) VI CV rfl;refine σ ?_;refine aq (by rfl) ?_;have hop:aU eX (bL τ w .no) m S { M with st:=M.st.set (M.st.ov (M.aa.place x.a)) ⟨5,0,[(M.st.ov (M.aa.place 0):Int)]⟩} ks jU:=
  ⟨_,nU _ _ _,⟨vG,vF,vW,vT,fg,ff,fw,ft,F11,h11⟩,VI.1.az (fun b hb=>by rw [hh.tF b hb];simp [Tg.own])⟩
 obtain ⟨nX,k1,k2,k5⟩:=VH.two hop rfl;refine (ze (n:=1) k5.fr (by show M.aa.stack.length≤_;omega) ⟨by omega,by show (1:Int)≤M.aa.stack.length;omega⟩).mono ?_;intro _ sx y8;refine σ ?_;exact aU.boxed (vv.trans dU) (zj k1 k2 k5 y8)
theorem ahm (hp:0 < M.aE.length):M.alloc 0=M:=by
 have h1:M.bU M.aa=M:=by
  simp only [Mc.bU];have:M.aE.set (M.aE.length - 1) M.aa=M.aE:=by
   apply List.ext_getElem?;intro j;rw [List.getElem?_set]
   split
   ·rename_i hj;subst hj;rw [if_pos (by omega),Dv hp]
   ·rfl
  rw [this]
 unfold Mc.alloc;simp only [List.range_zero,List.map_nil,List.append_nil,List.replicate_zero];exact h1
theorem ahn (hp:0 < M.aE.length) (i:Nat):M.alloc (i+1)=({ M.alloc i with st:=(M.alloc i).st.add ⟨6,0,[]⟩}:Mc).bU (({ M.alloc i with st:=(M.alloc i).st.add ⟨6,0,[]⟩}:Mc).aa.push (M.alloc i).st.ns.length):=by
 have ht:=(qL hp { M.aa with stack:=M.aa.stack++(List.range i).map fun i=>((M.st.ns.length+i:Nat):Int)}).1;have e:({ M.alloc i with st:=(M.alloc i).st.add ⟨6,0,[]⟩}:Mc).aa = { M.aa with stack:=M.aa.stack++(List.range i).map fun i=>((M.st.ns.length+i:Nat):Int)}:=ht;rw [e];simp only [Mc.alloc,Mc.bU,Fr.push,St.add,List.set_set,List.length_set,List.length_append,List.length_replicate,List.range_succ,List.map_append,List.map_cons,List.map_nil,List.append_assoc,List.replicate_succ',Mc.mk.injEq,St.mk.injEq,true_and,and_true]
theorem aho (h:dJ w τ m S M ks k) (ho:M.st.Ok) {n:Nat} (hn:x.a=n) (hs:M.aa.stack.length+n≤4294967295) (hr:(M.st.ns.length:Int)+n≤M.st.size) (ct:∀ i,i≤n→(M.alloc i).st.Ok) :
   aK Tryz.prog 123 [ptr m,ptr k,hU x] w fun _ w'=>aU w τ m S (M.alloc n) ks w':=by
 refine agq.calls rfl ?_;unfold Mb;refine σ ?_;refine cK rfl ?_;intro w1 ax ag _;have h1:=h.later ag;rw [hn] at ax;simp only [go_sem,simprocAttr,cell_of ax,Value.cells];refine dA (fun z ρ w'=>∃ i:Nat,z=n - i∧i≤n∧aU w1 (bL τ w .no) m S (M.alloc i) ks w'∧ρ=[(0,ptr m),(1,ptr k),(7,I n),(8,I i)]) n ⟨0,rfl,by omega,?_,rfl⟩ ?_
 ·rw [ahm h.pos];exact ⟨_,dV _ _,h1.at',Mod.refl _ _⟩
 rintro z ρ w2 ⟨i,rfl,hi,hop,rfl⟩;unfold Vc;refine σ ?_;refine aY rfl (fun hh=>?_) (fun hh=>?_)
 ·have dh:i < n:=by simpa using hh
  refine σ ?_;obtain ⟨VG,k1,k2,k5⟩:=hop.aa (by simp [Mc.alloc,Mc.bU]) h.pos h.hk;have MO:=(qL h.pos { M.aa with stack:=M.aa.stack++(List.range i).map fun i=>((M.st.ns.length+i:Nat):Int)}).1;have MO:(M.alloc i).aa=_:=MO;have hli:(M.alloc i).st.ns.length=M.st.ns.length+i:=by simp [Mc.alloc]
  refine δ (by rfl) (Dm (nd:=⟨6,0,[]⟩) k5.at' (ct i (by omega)) rfl rfl (vM w2) (by rw [hli];show ((M.st.ns.length+i:Nat):Int) < M.st.size;omega)) ?_;rintro _ w3 ⟨rfl,ahp⟩;obtain ⟨xK,j1,j2,k6⟩:=k5.two ahp rfl;refine σ ?_;refine δ (by rfl) (xF k6.fr (by show (M.alloc i).aa.stack.length≤_;rw [MO];simp;omega) _) ?_;intro _ w4 gq;have e1:IntKind.i64.wrap ((i:Int)+1)=((i+1:Nat):Int):=by rw [cy (by omega) (by omega)];omega
  simp only [go_sem,simprocAttr,e1];refine ⟨_,by omega,i+1,rfl,by omega,?_,rfl⟩;rw [ahn h.pos];exact aU.cat k1 k2 (zj j1 j2 k6 gq)
 ·have dh:¬ i < n:=by simpa using hh
  obtain rfl:i=n:=by omega
  refine σ ?_;exact aU.boxed ag hop
end
end
section
open Go Go.W
section
variable {w:World} {τ:Tag} {m:Nat} {S:SV} {M:Mc} {ks:List Nat} {k:Nat} {x:Ins}
theorem ahq (h:dJ w τ m S M ks k) (ho:M.st.Ok) (he:Ends M.st.ns) (hs:M.aa.stack.length≤4294967295) (lq:0 < M.aa.stack.length) (h0:0≤M.aa.place 0∧M.aa.place 0 < M.st.ns.length) :
   aK Tryz.prog 129 [ptr m,ptr k,hU x] w fun _ w'=>aU w τ m S (M.ku (decide ((M.st.nd (M.aa.place 0)).kind≠2)) (decide ((M.st.nd (M.aa.place 0)).num≠x.a)) x.b) ks w':=by
 refine agw.calls rfl ?_;unfold Mi;refine σ ?_;refine cK rfl ?_;intro w1 ax ag _;have h1:=h.later ag;have ky:=Mod.refl (fun _=>False) w1;refine σ ?_;refine δ (by rfl) (oQ (h1.later ky).fr (by omega) ⟨by omega,by omega⟩) ?_;rintro _ _ ⟨rfl,rfl⟩;have kR:Mod (fun _=>False) w1 w1.drew:=ky.drew;refine σ ?_;refine δ (by rfl) (oS (h1.later kR).at' ho he h0) ?_;rintro _ pR ⟨v2,rfl,gD,oW⟩;refine σ ?_;refine dk ?_;intro GS vN mO _;refine σ ?_;refine cX (cs:=[I 0,I 0,.slice none 0 0]) rfl rfl vN rfl rfl (oV gD _ _) ?_;intro w2 aC oX GU;refine σ ?_;have Dx:=(kR.trans oW).size;have ae:Mod (fun _=>False) w1 w2:=(kR.trans (oW.trans mO)).step oX (fun x U hl=>by subst U;omega);have oU:Mod (fun _=>False) pR w2:=mO.step oX (fun x U hl=>by subst U;omega);have h2:=h1.later ae;have dC:=ae.at ax (fun h=>h);simp only [go_sem,simprocAttr,cell_of aC];refine aY rfl (fun hh=>?_) (fun hh=>?_)
 ·refine σ ?_;refine δ (by rfl) (sB h2.at' 5) ?_;intro _ w3 hop;refine σ ?_;have e:M.ku (decide ((M.st.nd (M.aa.place 0)).kind≠2)) (decide ((M.st.nd (M.aa.place 0)).num≠x.a)) x.b=M.fail 5:=by
   unfold Mc.ku;rw [if_pos];simp only [aL,aM,aN,an,aQ] at hh;simpa using hh
  rw [e];exact aU.boxed ag (aU.boxed ae hop)
 ·simp only [go_sem,simprocAttr,cell_of aC,cell_of dC,Value.cells];have e0:M.ku (decide ((M.st.nd (M.aa.place 0)).kind≠2)) (decide ((M.st.nd (M.aa.place 0)).num≠x.a)) x.b=if (M.st.nd (M.aa.place 0)).num≠x.a then M.bU { M.aa with at':=x.b} else M:=by
   unfold Mc.ku;simp only [aL,aM,aN,an,aQ] at hh;rw [if_neg (by simpa using hh)];simp
  rw [e0];refine aY rfl (fun hg=>?_) (fun hg=>?_)
  ·obtain ⟨vs,vp,fs,fp,hf⟩:=h2.fr;have hc:=hf.cells;simp only [aL,aM,aN,an,aQ] at hg;rw [if_pos hg];simp only [go_sem,simprocAttr,cell_of dC,Value.cells];refine bY (off:=2) rfl rfl hc rfl (by simp [cC]) ?_;intro w3 aJ ab eP;refine σ ?_;exact aU.boxed ag (aU.boxed ae (h2.fo (GJ hf rfl rfl (by simpa [cC] using aJ) ab)))
  ·simp only [aL,aM,aN,an,aQ] at hg;rw [if_neg (by simpa using hg)];refine σ ?_;exact aU.boxed ag (aU.boxed ae ⟨_,dV _ _,h2.at',Mod.refl _ _⟩)
theorem ahr (h:dJ w τ m S M ks k) (ho:M.st.Ok) (he:Ends M.st.ns) (hs:M.aa.stack.length≤4294967295) (lq:0 < M.aa.stack.length) (h0:0≤M.aa.place 0∧M.aa.place 0 < M.st.ns.length) :
   aK Tryz.prog 130 [ptr m,ptr k,hU x] w fun _ w'=>aU w τ m S (M.ku (decide ((M.st.nd (M.aa.place 0)).kind≠1)) (decide ((M.st.nd (M.aa.place 0)).num≠x.a)) x.b) ks w':=by
 refine agx.calls rfl ?_;unfold Mj;refine σ ?_;refine cK rfl ?_;intro w1 ax ag _;have h1:=h.later ag;have ky:=Mod.refl (fun _=>False) w1;refine σ ?_;refine δ (by rfl) (oQ (h1.later ky).fr (by omega) ⟨by omega,by omega⟩) ?_;rintro _ _ ⟨rfl,rfl⟩;have kR:Mod (fun _=>False) w1 w1.drew:=ky.drew;refine σ ?_;refine δ (by rfl) (oS (h1.later kR).at' ho he h0) ?_;rintro _ pR ⟨v2,rfl,gD,oW⟩;refine σ ?_;refine dk ?_;intro GS vN mO _;refine σ ?_;refine cX (cs:=[I 0,I 0,.slice none 0 0]) rfl rfl vN rfl rfl (oV gD _ _) ?_;intro w2 aC oX GU;refine σ ?_;have Dx:=(kR.trans oW).size;have ae:Mod (fun _=>False) w1 w2:=(kR.trans (oW.trans mO)).step oX (fun x U hl=>by subst U;omega);have oU:Mod (fun _=>False) pR w2:=mO.step oX (fun x U hl=>by subst U;omega);have h2:=h1.later ae;have dC:=ae.at ax (fun h=>h);simp only [go_sem,simprocAttr,cell_of aC];refine aY rfl (fun hh=>?_) (fun hh=>?_)
 ·refine σ ?_;refine δ (by rfl) (sB h2.at' 5) ?_;intro _ w3 hop;refine σ ?_;have e:M.ku (decide ((M.st.nd (M.aa.place 0)).kind≠1)) (decide ((M.st.nd (M.aa.place 0)).num≠x.a)) x.b=M.fail 5:=by
   unfold Mc.ku;rw [if_pos];simp only [aL,aM,aN,an,aQ] at hh;simpa using hh
  rw [e];exact aU.boxed ag (aU.boxed ae hop)
 ·simp only [go_sem,simprocAttr,cell_of aC,cell_of dC,Value.cells];have e0:M.ku (decide ((M.st.nd (M.aa.place 0)).kind≠1)) (decide ((M.st.nd (M.aa.place 0)).num≠x.a)) x.b=if (M.st.nd (M.aa.place 0)).num≠x.a then M.bU { M.aa with at':=x.b} else M:=by
   unfold Mc.ku;simp only [aL,aM,aN,an,aQ] at hh;rw [if_neg (by simpa using hh)];simp
  rw [e0];refine aY rfl (fun hg=>?_) (fun hg=>?_)
  ·obtain ⟨vs,vp,fs,fp,hf⟩:=h2.fr;have hc:=hf.cells;simp only [aL,aM,aN,an,aQ] at hg;rw [if_pos hg];simp only [go_sem,simprocAttr,cell_of dC,Value.cells];refine bY (off:=2) rfl rfl hc rfl (by simp [cC]) ?_;intro w3 aJ ab eP;refine σ ?_;exact aU.boxed ag (aU.boxed ae (h2.fo (GJ hf rfl rfl (by simpa [cC] using aJ) ab)))
  ·simp only [aL,aM,aN,an,aQ] at hg;rw [if_neg (by simpa using hg)];refine σ ?_;exact aU.boxed ag (aU.boxed ae ⟨_,dV _ _,h2.at',Mod.refl _ _⟩)
theorem VJ {vG vF vW vT:Value} {fg ff fw ft:Option Nat} {F:Nat→Prop} (h:ek w τ m S M vG vF vW vT fg ff fw ft F ks) (p:Int) {w4:World} {k':Nat} {v:Value} {zg:Option Nat} (dX:w.heap.size≤k')
   (hb:w4.heap[k']? = some (.cells (cC (zc p) (.slice none 0 0) (.slice none 0 0)).toArray 151 (0,0))) (hm:Mod (fun b=>ff=some b∨b=m) w w4)
   (hc:w4.heap[m]? = some (.cells (bb S (M.enter p) vG v vW vT).toArray 113 (0,0))) (ho:ao w4 152 1 v ((ks++[k']).map ptr) (ks++[k']).length zg)
   (hf:∀ b,zg=some b→ff=some b∨w.heap.size≤b):aU w τ m S (M.enter p) (ks++[k']) w4:=by
 have hl:=h.len;have VK:τ.ext (fun b=>if b < w.heap.size then τ b else if b=k' then .fb M.aE.length else .fr) w:=fun b hb=>by simp [hb]
 have E6:k' < w4.heap.size:=lt_of_heap hb;refine ⟨_,VK,⟨vG,v,vW,vT,fg,zg,fw,ft,F,?_⟩,hm.az ?_⟩
 ·refine h.aE VK.wx hm hc ho ?_ (by simp [Mc.enter,hl]) ?_ rfl rfl rfl rfl rfl rfl
  ·intro b cj;have bj:b≠k':=fun e=>by subst e;exact im ho cj hb (by decide)
   rcases hf b cj with h1 | h1
   ·simp only [if_pos (h.fr.lt h1)];exact h.tf b h1
   ·simp only [if_neg (Nat.not_lt.2 h1),if_neg bj]
  ·intro i kk f hk zk;simp only [Mc.enter] at zk;by_cases hi:i < ks.length
   ·rw [List.getElem?_append_left hi] at hk;rw [List.getElem?_append_left (by omega)] at zk;exact .inl ⟨hk,zk⟩
   ·have jF:i < (ks++[k']).length:=(List.getElem?_eq_some_iff.1 hk).1;simp at jF;obtain rfl:i=ks.length:=by omega
    rw [List.getElem?_append_right (by omega)] at hk;rw [List.getElem?_append_right (by omega)] at zk;simp [hl] at hk zk;subst hk;subst zk;refine .inr ⟨.slice none 0 0,.slice none 0 0,none,none,hb,?_,ao.nil _ _ _,(fun b hb=>by cases hb),ao.nil _ _ _,fun b hb=>by cases hb⟩;simp only [if_neg (Nat.not_lt.2 dX)];simp [hl]
 ·rintro b (hb | rfl)
  ·rw [h.tf b hb];simp [Tg.own]
  ·rw [h.tm];simp [Tg.own]
theorem ahs (h:dJ w τ m S M ks k) (ho:M.st.Ok) (he:Ends M.st.ns) (hs:M.aa.stack.length≤4294967295) (lq:0 < M.aa.stack.length) (h0:0≤M.aa.place 0∧M.aa.place 0 < M.st.ns.length) (dI:M.aE.length≤4294967295) :
   aK Tryz.prog 126 [ptr m,ptr k,hU x] w fun _ w'=>∃ dt,aU w τ m S (if (M.st.nd (M.aa.place 0)).kind≠1∧(M.st.nd (M.aa.place 0)).kind≠2 then M.enter (M.aa.place 0) else M) dt w':=by
 refine agt.calls rfl ?_;unfold Me;refine σ ?_;refine cK rfl ?_;intro w1 ax ag _;have h1:=h.later ag;have ky:=Mod.refl (fun _=>False) w1;refine σ ?_;refine δ (by rfl) (oQ (h1.later ky).fr (by omega) ⟨by omega,by omega⟩) ?_;rintro _ _ ⟨rfl,rfl⟩;have kR:Mod (fun _=>False) w1 w1.drew:=ky.drew;refine σ ?_;refine δ (by rfl) (oS (h1.later kR).at' ho he h0) ?_;rintro _ pR ⟨v2,rfl,gD,oW⟩;refine σ ?_;refine dk ?_;intro GS vN mO _;refine σ ?_;refine cX (cs:=[I 0,I 0,.slice none 0 0]) rfl rfl vN rfl rfl (oV gD _ _) ?_;intro w2 aC oX GU;refine σ ?_;have Dx:=(kR.trans oW).size;have ae:Mod (fun _=>False) w1 w2:=(kR.trans (oW.trans mO)).step oX (fun x U hl=>by subst U;omega);have oU:Mod (fun _=>False) pR w2:=mO.step oX (fun x U hl=>by subst U;omega);have h2:=h1.later ae;have done:∀ t:Bool,(if t=true then M.enter (M.aa.place 0) else M)=(if t=true then M.enter (M.aa.place 0) else M):=fun _=>rfl
 cases eQ:((M.st.nd (M.aa.place 0)).kind != 1)
 ·simp only [go_sem,simprocAttr,cell_of aC,eQ];simp only [aL,aM,aN,an,aQ] at eQ;rw [if_neg (by omega)];exact ⟨ks,aU.boxed ag (aU.boxed ae ⟨_,dV _ _,h2.at',Mod.refl _ _⟩)⟩
 cases eT:((M.st.nd (M.aa.place 0)).kind != 2)
 ·simp only [go_sem,simprocAttr,cell_of aC,eQ,eT];simp only [aL,aM,aN,an,aQ] at eT;rw [if_neg (by omega)];exact ⟨ks,aU.boxed ag (aU.boxed ae ⟨_,dV _ _,h2.at',Mod.refl _ _⟩)⟩
 have VL:=eQ;have VM:=eT;simp only [aL,aM,aN,an,aQ] at VL;simp only [aL,aM,aN,an,aQ] at VM;rw [if_pos ⟨VL,VM⟩];have ae:=ae.drew;have h2:=h1.later ae;obtain ⟨vG,vF,vW,vT,fg,ff,fw,ft,F,hh⟩:=h2.at';have hc:=hh.cells;have hl:=hh.len;obtain ⟨aF,cF,rfl,_⟩:=hh.fr.val;have bz:w2.heap[m]? = _:=hc;simp only [go_sem,simprocAttr,cell_of aC,eQ,eT,cell_of bz,bb];refine δ (by rfl) (oQ (n:=0) h2.fr (by omega) ⟨by omega,by omega⟩) ?_;rintro _ _ ⟨rfl,rfl⟩;have hr3:Mod (fun _=>False) w2.drew w2.drew.drew:=(Mod.refl _ w2.drew).drew;refine σ ?_;refine cK rfl ?_;intro w4 aH ai _;refine σ ?_;refine ⟨?_,?_⟩
 ·exact ai.old m hh.lt (fun h=>h)
 refine cd (by rfl) (by rfl) ?_;intro w5 bZ aB _;refine σ ?_;refine ⟨?_,?_⟩
 ·exact aB.old m (by have:=ai.size;have:=hh.lt;exact Nat.lt_of_lt_of_le hh.lt ai.size) (fun h=>h)
 have nL:Mod (fun _=>False) w2.drew w5:=(hr3.trans ai).trans aB;refine eH (m:=1) (news:=[ptr w2.drew.drew.heap.size]) rfl (hh.fr.mod nL (fun _ _ h=>h)) rfl (fun h=>by cases h) (j9 (xs:=[ptr w2.drew.drew.heap.size]) bZ) (by simp [Value.oneCell',ptr]) rfl (by omega) (by omega) ?_;intro v6 w6 ff6 gK aD iu;obtain ⟨a6,c6,rfl,_⟩:=gK.val;have hP:=nL.at hc (fun h=>h);have mX:=aD.at hP (fun e=>by have:=hh.tf m e;rw [hh.tm] at this;cases this);refine σ ?_;refine bY (off:=10) rfl rfl mX rfl (by simp [bb]) ?_;intro w7 cm aX mN;refine σ ?_;have uI:Mod (fun b=>ff=some b∨b=m) w2.drew w7:=((nL.az (fun _ h=>h.elim)).step aD (fun b hb _=>.inl hb)).step aX (fun b hb _=>.inr hb);have sD:w7.heap[w2.drew.drew.heap.size]? = some (.cells (cC (zc (M.aa.place 0)) (.slice none 0 0) (.slice none 0 0)).toArray 151 (0,0)):=by
  have e1:=aB.at aH (fun h=>h);have e2:=aD.at e1 (fun e=>im (hh.fr.mod nL (fun _ _ h=>h)) e e1 (by decide));exact aX.at e2 (fun e=>by have:=hh.lt;have e:w2.drew.heap.size=m:=e;omega)
 have hop:=VJ hh (M.aa.place 0) (k':=w2.drew.drew.heap.size) (Nat.le_refl _) sD uI (by simpa [bb,Mc.enter] using cm) (by
  have:=gK.mod aX (fun b hb e=>by
   subst e;rcases iu b hb with h3 | h3
   ·have:=hh.tf b h3;rw [hh.tm] at this;cases this
   ·have:=hh.lt;have:=nL.size;omega)
  simpa using this) (fun b hb=>(iu b hb).imp id (fun h3=>by have:=nL.size;omega))
 exact ⟨_,aU.boxed ag (aU.boxed ae hop)⟩
end
end
section
open Go Go.W
theorem Dy {P:Program} {N:Nat} {a:IR} {id:Nat} {next:Env→World→Prop} {Q:gI} {ρ:Env} {w:World} (j8:Env→World→Prop) (h:cM P N a (jz id (lv j8 Q)) ρ w) (hk:∀ ρ w,j8 ρ w→next ρ w):cM P N a (jz id (lv next Q)) ρ w:=
 yy a _ _ (Am (Al hk (fun _ _ _ h=>h))) ρ w h
theorem aht (n:Int):(IntKind.i64.wrap (n*2)) / 2=iK n:=by
 rw [IntKind.wrap_i64];unfold iK;omega
theorem Dz (w:World) (n:Int):aK Tryz.prog 151 [I n] w fun r w'=>r=I (iK n)∧w=w':=by
 refine agM.calls rfl ?_;unfold Mz;refine φ ?_;refine ⟨_,rfl,_,rfl,?_⟩;have e:(2:Int) ^ min (Int.toNat 1) 64=2:=by decide
 show I ((IntKind.i64.wrap (n*2 ^ min (Int.toNat 1) 64)).fdiv (2 ^ min (Int.toNat 1) 64))=_;rw [e,Int.fdiv_eq_ediv_of_nonneg _ (by omega),aht]
theorem ahu (w:World) (op a b:Int):aK Tryz.prog 152 [I op,I a,I b] w fun r w'=>r = .bool (GD op a b)∧w=w':=by
 refine agN.calls rfl ?_;unfold MA GD;(try simp only [go_sem,simprocAttr]);refine aY rfl (fun hh=>?_) (fun hh=>?_)
 ·simp only [aL,aM,aN,an,aQ] at hh;rw [if_pos hh];(try simp only [go_sem,simprocAttr])
  try (rw [Value.bool.injEq];by_cases gT:a=b<;>simp [gT])
 simp only [aL,aM,aN,an,aQ] at hh;rw [if_neg hh];(try simp only [go_sem,simprocAttr]);refine aY rfl (fun hh=>?_) (fun hh=>?_)
 ·simp only [aL,aM,aN,an,aQ] at hh;rw [if_pos hh];(try simp only [go_sem,simprocAttr])
  try (rw [Value.bool.injEq];by_cases gT:a=b<;>simp [gT])
 simp only [aL,aM,aN,an,aQ] at hh;rw [if_neg hh];(try simp only [go_sem,simprocAttr]);refine aY rfl (fun hh=>?_) (fun hh=>?_)
 ·simp only [aL,aM,aN,an,aQ] at hh;rw [if_pos hh];(try simp only [go_sem,simprocAttr])
  try (rw [Value.bool.injEq];by_cases gT:a=b<;>simp [gT])
 simp only [aL,aM,aN,an,aQ] at hh;rw [if_neg hh];(try simp only [go_sem,simprocAttr]);refine aY rfl (fun hh=>?_) (fun hh=>?_)
 ·simp only [aL,aM,aN,an,aQ] at hh;rw [if_pos hh];(try simp only [go_sem,simprocAttr])
  try (rw [Value.bool.injEq];by_cases gT:a=b<;>simp [gT])
 simp only [aL,aM,aN,an,aQ] at hh;rw [if_neg hh];(try simp only [go_sem,simprocAttr]);refine aY rfl (fun hh=>?_) (fun hh=>?_)
 ·simp only [aL,aM,aN,an,aQ] at hh;rw [if_pos hh];(try simp only [go_sem,simprocAttr])
  try (rw [Value.bool.injEq];by_cases gT:a=b<;>simp [gT])
 simp only [aL,aM,aN,an,aQ] at hh;rw [if_neg hh];(try simp only [go_sem,simprocAttr])
theorem ahv (n:Int):(⟨1,iK n,[]⟩:Nd).may=true:=by
 have h : -4611686018427387904≤iK n∧iK n≤4611686018427387903:=by unfold iK;omega
 generalize iK n=z at h;simp [Nd.may,gU];omega
theorem ahw {n:Int} (h:0≤n∧n < 20000):(⟨2,n,[]⟩:Nd).may=true:=by
 simp [Nd.may,gU];omega
theorem DA (n:Int):iK (IntKind.i64.wrap n)=iK n:=by
 rw [IntKind.wrap_i64];unfold iK;omega
section
variable {w:World} {τ:Tag} {m:Nat} {S:SV} {M:Mc} {ks:List Nat} {k:Nat} {x:Ins}
theorem ahx (op a b:Int):(jI op a b).may=true∧(jI op a b).args=[]:=by
 unfold jI
 repeat' split
 all_goals first | exact ⟨ahv _,rfl⟩ | exact ⟨ahw (by omega),rfl⟩
theorem ahy (h:dJ w τ m S M ks k) (ho:M.st.Ok) (he:Ends M.st.ns) (hs:M.aa.stack.length≤4294967295) (dq:2≤M.aa.stack.length) (h0:0≤M.aa.place 0∧M.aa.place 0 < M.st.ns.length) (sE:0≤M.aa.place 1∧M.aa.place 1 < M.st.ns.length)
   (hr:(M.st.ns.length:Int) < M.st.size) (fi:M.ended=0) (U:1≤x.a∧x.a≤11) :
   aK Tryz.prog 127 [ptr m,ptr k,hU x] w fun _ w'=>aU w τ m S (M.arith x) ks w':=by
 refine agu.calls rfl ?_;unfold Mg;(try simp only [go_sem,simprocAttr]);refine cK rfl ?_;intro w1 ax ag _;have h1:=h.later ag;have ky:=Mod.refl (fun _=>False) w1;(try simp only [go_sem,simprocAttr]);refine aq (by rfl) ?_;refine (oQ (h1.later ky).fr (by omega) ⟨by omega,by omega⟩).mono ?_;rintro _ _ ⟨rfl,rfl⟩;have kR:Mod (fun _=>False) w1 w1.drew:=ky.drew;(try simp only [go_sem,simprocAttr]);refine aq (by rfl) ?_;refine (oS (h1.later kR).at' ho he h0).mono ?_;rintro _ pR ⟨v2,rfl,gD,oW⟩;(try simp only [go_sem,simprocAttr]);refine dk ?_;intro GS vN mO _;(try simp only [go_sem,simprocAttr]);refine cX (cs:=[I 0,I 0,.slice none 0 0]) rfl rfl vN rfl rfl (oV gD _ _) ?_;intro w2 aC oX GU;(try simp only [go_sem,simprocAttr]);have Dx:=(kR.trans oW).size;have ae:Mod (fun _=>False) w1 w2:=(kR.trans (oW.trans mO)).step oX (fun x U hl=>by subst U;omega);have oU:Mod (fun _=>False) pR w2:=mO.step oX (fun x U hl=>by subst U;omega);refine aq (by rfl) ?_;refine (oQ (h1.later ae).fr (by omega) ⟨by omega,by omega⟩).mono ?_;rintro _ _ ⟨rfl,rfl⟩;have MP:Mod (fun _=>False) w1 w2.drew:=ae.drew;(try simp only [go_sem,simprocAttr]);refine aq (by rfl) ?_;refine (oS (h1.later MP).at' ho he sE).mono ?_;rintro _ MQ ⟨v3,rfl,sC,MR⟩;(try simp only [go_sem,simprocAttr]);refine dk ?_;intro wd3 ahz VN _;(try simp only [go_sem,simprocAttr]);refine cX (cs:=[I 0,I 0,.slice none 0 0]) rfl rfl ahz rfl rfl (oV sC _ _) ?_;intro w3 aJ VO apb;(try simp only [go_sem,simprocAttr]);have apc:=(MP.trans MR).size;have ab:Mod (fun _=>False) w1 w3:=(MP.trans (MR.trans VN)).step VO (fun x U hl=>by subst U;omega);have Bb:Mod (fun _=>False) MQ w3:=VN.step VO (fun x U hl=>by subst U;omega);have h3:=h1.later ab;have fT:=ab.at ax (fun h=>h);have qC:Mod (fun _=>False) w2 w3:=((Mod.refl (fun _=>False) w2).drew.trans MR).trans Bb;have qM:=qC.at aC (fun h=>h);generalize hA:M.st.nd (M.aa.place 0)=A at *;generalize hB:M.st.nd (M.aa.place 1)=B at *;have hM:M.arith x=if A.kind≠1∨B.kind≠1 then M.fail 5 else if (x.a=4∨x.a=5)∧B.num=0 then M.fail 3 else M.put (jI x.a A.num B.num) 2:=by
  unfold Mc.arith;rw [hA,hB]
 (try simp only [go_sem,simprocAttr,cell_of qM,cell_of aJ]);refine iG (fun ρ w'=>w3=w'∧ρ.get 0=some (ptr m)∧ρ.get 1=some (ptr k)∧ρ.get 5=some (ptr w.heap.size)∧ρ.get 7=some (ptr pR.heap.size)∧ρ.get 9=some (ptr MQ.heap.size)∧ρ.get 10=some (I 0)∧ρ.get 27=some (.bool (decide (A.kind≠1∨B.kind≠1)))) ?_ ?_
 ·cases eQ:(A.kind != 1)<;>cases eT:(B.kind != 1)<;>(try simp only [go_sem,simprocAttr,cell_of aJ,eQ,eT])<;>(simp only [aL,aM,aN,an,aQ] at eQ;simp only [aL,aM,aN,an,aQ] at eT;simp [eQ,eT])
 rintro ρ _ ⟨rfl,r0,r1,r5,r7,r9,pS,ME⟩;(try simp only [go_sem,simprocAttr,r0,r1,r5,r7,r9,pS,ME])
 refine Dy (fun ρ w'=>ρ.get 0=some (ptr m)∧ρ.get 1=some (ptr k)∧((∃ gY v10,gY≠0∧ρ.get 10=some v10∧M.arith x=M.fail gY∧aU w3 (bL (bL τ w .no) w1 .no) m S (M.fail gY) ks w') ∨
  (∃ nd,ρ.get 10=some (I M.st.ns.length)∧M.arith x=M.put nd 2∧aU w3 (bL (bL τ w .no) w1 .no) m S { M with st:=M.st.add nd} ks w'))) ?_ ?_
 ·refine aY rfl (fun hk=>?_) (fun hk=>?_)
  ·simp only [aL,aM,aN,an,aQ] at hk;(try simp only [go_sem,simprocAttr]);refine aq (by rfl) ?_;refine (sB h3.at' 5).mono ?_;rintro _ w4 hop;(try simp only [go_sem,simprocAttr]);exact .inl ⟨5,_,by decide,rfl,by rw [hM,if_pos hk],hop⟩
  simp only [aL,aM,aN,an,aQ] at hk;rw [if_neg hk] at hM;(try simp only [go_sem,simprocAttr,cell_of fT,Value.cells]);refine iG (fun ρ w'=>w3=w'∧ρ.get 0=some (ptr m)∧ρ.get 1=some (ptr k)∧ρ.get 5=some (ptr w.heap.size)∧ρ.get 7=some (ptr pR.heap.size)∧ρ.get 9=some (ptr MQ.heap.size)∧ρ.get 10=some (I 0)∧ρ.get 38=some (.bool (decide ((x.a=4∨x.a=5)∧B.num=0)))) ?_ ?_
  ·cases h4:(x.a == 4)<;>cases h5:(x.a == 5)<;>cases hz:(B.num == 0)<;>(try simp only [go_sem,simprocAttr,cell_of aJ,cell_of fT,Value.cells,h4,h5,hz])<;>(simp only [aL,aM,aN,an,aQ] at h4;simp only [aL,aM,aN,an,aQ] at h5;simp only [aL,aM,aN,an,aQ] at hz;simp [h4,h5,hz])
  rintro ρ _ ⟨rfl,r0,r1,r5,r7,r9,pS,DB⟩;(try simp only [go_sem,simprocAttr,r0,r1,r5,r7,r9,pS,DB]);refine aY rfl (fun hz=>?_) (fun hz=>?_)
  ·simp only [aL,aM,aN,an,aQ] at hz;(try simp only [go_sem,simprocAttr]);refine aq (by rfl) ?_;refine (sB h3.at' 3).mono ?_;rintro _ w4 hop;(try simp only [go_sem,simprocAttr]);exact .inl ⟨3,_,by decide,rfl,by rw [hM,if_pos hz],hop⟩
  simp only [aL,aM,aN,an,aQ] at hz;rw [if_neg hz] at hM;(try simp only [go_sem,simprocAttr,cell_of fT,Value.cells,cell_of qM,cell_of aJ]);have ue:∀ nd:Nd,jI x.a A.num B.num=nd→aK Tryz.prog 116 [ptr m,I nd.kind,I nd.num,.slice none 0 0] w3 fun r w'=>r=I M.st.ns.length∧M.arith x=M.put nd 2∧aU w3 (bL (bL τ w .no) w1 .no) m S { M with st:=M.st.add nd} ks w':=by
   intro nd bQ;obtain ⟨a1,a2⟩:=ahx x.a A.num B.num;rw [bQ] at a1 a2;refine (Dm (nd:=nd) h3.at' ho a1 (by rw [a2];rfl) (by rw [a2];exact vM w3) hr).mono ?_;rintro r w' ⟨h5,h6⟩;exact ⟨h5,by rw [hM,bQ],h6⟩
  refine aY rfl (fun hop=>?_) (fun hop=>?_)
  ·simp only [aL,aM,aN,an,aQ] at hop;(try simp only [go_sem,simprocAttr,cell_of qM,cell_of aJ]);refine aq (by rfl) ?_;refine (Dz w3 _).mono ?_;rintro _ _ ⟨rfl,rfl⟩;(try simp only [go_sem,simprocAttr,DA]);refine aq (by rfl) ?_;refine (ue ⟨1,iK (A.num+B.num),[]⟩ (by unfold jI;simp [hop])).mono ?_;rintro _ w4 ⟨rfl,e,pU⟩;(try simp only [go_sem,simprocAttr]);exact .inr ⟨_,e,pU⟩
  simp only [aL,aM,aN,an,aQ] at hop;(try simp only [go_sem,simprocAttr,cell_of fT,Value.cells]);refine aY rfl (fun hop=>?_) (fun hop=>?_)
  ·simp only [aL,aM,aN,an,aQ] at hop;(try simp only [go_sem,simprocAttr,cell_of qM,cell_of aJ]);refine aq (by rfl) ?_;refine (Dz w3 _).mono ?_;rintro _ _ ⟨rfl,rfl⟩;(try simp only [go_sem,simprocAttr,DA]);refine aq (by rfl) ?_;refine (ue ⟨1,iK (A.num - B.num),[]⟩ (by unfold jI;simp [hop])).mono ?_;rintro _ w4 ⟨rfl,e,pU⟩;(try simp only [go_sem,simprocAttr]);exact .inr ⟨_,e,pU⟩
  simp only [aL,aM,aN,an,aQ] at hop;(try simp only [go_sem,simprocAttr,cell_of fT,Value.cells]);refine aY rfl (fun hop=>?_) (fun hop=>?_)
  ·simp only [aL,aM,aN,an,aQ] at hop;(try simp only [go_sem,simprocAttr,cell_of qM,cell_of aJ]);refine aq (by rfl) ?_;refine (Dz w3 _).mono ?_;rintro _ _ ⟨rfl,rfl⟩;(try simp only [go_sem,simprocAttr,DA]);refine aq (by rfl) ?_;refine (ue ⟨1,iK (A.num*B.num),[]⟩ (by unfold jI;simp [hop])).mono ?_;rintro _ w4 ⟨rfl,e,pU⟩;(try simp only [go_sem,simprocAttr]);exact .inr ⟨_,e,pU⟩
  simp only [aL,aM,aN,an,aQ] at hop;(try simp only [go_sem,simprocAttr,cell_of fT,Value.cells]);refine aY rfl (fun hop=>?_) (fun hop=>?_)
  ·simp only [aL,aM,aN,an,aQ] at hop;have sF:B.num≠0:=fun sF=>hz ⟨by omega,sF⟩
   (try simp only [go_sem,simprocAttr,cell_of qM,cell_of aJ,sF]);refine aq (by rfl) ?_;refine (Dz w3 _).mono ?_;rintro _ _ ⟨rfl,rfl⟩;(try simp only [go_sem,simprocAttr,DA]);refine aq (by rfl) ?_;refine (ue ⟨1,iK (A.num.tdiv B.num),[]⟩ (by unfold jI;simp [hop])).mono ?_;rintro _ w4 ⟨rfl,e,pU⟩;(try simp only [go_sem,simprocAttr]);exact .inr ⟨_,e,pU⟩
  simp only [aL,aM,aN,an,aQ] at hop;(try simp only [go_sem,simprocAttr,cell_of fT,Value.cells]);refine aY rfl (fun hop=>?_) (fun hop=>?_)
  ·simp only [aL,aM,aN,an,aQ] at hop;have sF:B.num≠0:=fun sF=>hz ⟨by omega,sF⟩
   (try simp only [go_sem,simprocAttr,cell_of qM,cell_of aJ,sF]);refine aq (by rfl) ?_;refine (Dz w3 _).mono ?_;rintro _ _ ⟨rfl,rfl⟩;(try simp only [go_sem,simprocAttr,DA]);refine aq (by rfl) ?_;refine (ue ⟨1,iK (A.num.tmod B.num),[]⟩ (by unfold jI;simp [hop])).mono ?_;rintro _ w4 ⟨rfl,e,pU⟩;(try simp only [go_sem,simprocAttr]);exact .inr ⟨_,e,pU⟩
  simp only [aL,aM,aN,an,aQ] at hop;(try simp only [go_sem,simprocAttr,cell_of fT,Value.cells]);(try simp only [go_sem,simprocAttr,cell_of fT,Value.cells,cell_of qM,cell_of aJ]);refine aq (by rfl) ?_;refine (ahu w3 _ _ _).mono ?_;rintro _ _ ⟨rfl,rfl⟩;have uf:∀ z:Bool,GD x.a A.num B.num=z→jI x.a A.num B.num=⟨2,if z=true then 1 else 0,[]⟩:=by
   intro z uJ;unfold jI;rw [if_neg (by omega),if_neg (by omega),if_neg (by omega),if_neg (by omega),if_neg (by omega),uJ];cases z<;>rfl
  (try simp only [go_sem,simprocAttr]);refine aY rfl (fun xJ=>?_) (fun xJ=>?_)
  ·have bQ:=uf _ xJ;(try simp only [go_sem,simprocAttr]);refine aq (by rfl) ?_;refine (ue ⟨2,1,[]⟩ bQ).mono ?_;rintro _ w4 ⟨rfl,e,pU⟩;(try simp only [go_sem,simprocAttr]);exact .inr ⟨_,e,pU⟩
  ·have bQ:=uf _ xJ;(try simp only [go_sem,simprocAttr]);refine aq (by rfl) ?_;refine (ue ⟨2,0,[]⟩ bQ).mono ?_;rintro _ w4 ⟨rfl,e,pU⟩;(try simp only [go_sem,simprocAttr]);exact .inr ⟨_,e,pU⟩
 rintro ρ w4 ⟨r0,r1,⟨gY,v10,bj,pS,e,hop⟩ | ⟨nd,pS,e,hop⟩⟩
 ·obtain ⟨τ4,k1,⟨vG,vF,vW,vT,fg,ff,fw,ft,F,hh⟩,k3⟩:=hop;have hc:=hh.cells;have e0:((M.fail gY).ended == 0)=false:=rfl;(try simp only [go_sem,simprocAttr,r0,r1,pS,cell_of hc,bb,e0]);rw [e];exact aU.boxed ag (aU.boxed ab ⟨τ4,k1,⟨vG,vF,vW,vT,fg,ff,fw,ft,F,hh⟩,k3⟩)
 ·obtain ⟨nX,k1,k2,k5⟩:=h3.two hop rfl;obtain ⟨vG,vF,vW,vT,fg,ff,fw,ft,F,hh⟩:=k5.at';have hc:=hh.cells;have e0:(M.ended == 0)=true:=by simp [fi]
  (try simp only [go_sem,simprocAttr,r0,r1,pS,cell_of hc,bb,e0]);refine aq (by rfl) ?_;refine (ze (n:=2) k5.fr (by show M.aa.stack.length≤_;omega) ⟨by omega,by show (2:Int)≤M.aa.stack.length;omega⟩).mono ?_;intro _ w6 iu;have gK:=aU.cat k1 k2 (k5.fo iu);obtain ⟨MM,j1,j2,k6⟩:=gK.aa (by simp [Mc.bU]) h.pos h.hk;(try simp only [go_sem,simprocAttr]);refine aq (by rfl) ?_;obtain ⟨t1,t2⟩:=qL (M:={ M with st:=M.st.add nd}) h.pos (M.aa.pop 2);have t1:(({ M with st:=M.st.add nd}:Mc).bU (({ M with st:=M.st.add nd}:Mc).aa.pop 2)).aa=_:=t1;refine (xF k6.fr (by rw [t1];simp only [Fr.pop,List.length_take];omega) M.st.ns.length).mono ?_;intro _ w7 sb;(try simp only [go_sem,simprocAttr]);have:=zj j1 j2 k6 sb;rw [t1] at this;rw [e,put_eq _ _ h.pos];exact aU.boxed ag (aU.boxed ab this)
end
end
section
open Go Go.W
section
variable {w:World} {τ:Tag} {m:Nat} {S:SV} {M:Mc} {ks:List Nat} {k:Nat} {x:Ins}
theorem DC {w:World} {v:Value} {sz:Nat} {rows:List (List Value)} {B:Nat→Prop} (h:cO w v sz rows B) {i:Nat} (hi:i < rows.length) :
   ∃ ad c,v = .slice (some ad) rows.length c∧rows[i].length=sz∧∀ k (hk:k < rows[i].length),w.cell? ((ad.add (i*sz)).add k)=some rows[i][k]:=by
 obtain ⟨a,c,rfl,_,h⟩:=h;obtain ⟨ad,rfl,h1,h2⟩:=h i hi;exact ⟨ad,c,rfl,h1,h2⟩
theorem DD {w:World} {cu ci:Value} {T:bH} {B:Nat→Prop} (h:fM w cu ci T B) {i:Nat} (hi:i < T.au.length) :
   ∃ ad c,cu = .slice (some ad) T.au.length c∧w.cell? ((ad.add (i*2)).add 0)=some (.string (T.sh i).name)∧w.cell? ((ad.add (i*2)).add 1)=some (I (T.sh i).fields):=by
 obtain ⟨ad,c,rfl,h1,h2⟩:=DC h.1 (i:=i) (by simpa using hi);have e:T.sh (i:Int)=T.au[i]:=by unfold bH.sh;rw [Int.toNat_natCast,List.getD_eq_getElem?_getD,List.getElem?_eq_getElem hi];rfl
 refine ⟨ad,c,by simp,?_,?_⟩
 ·have:=h2 0 (by rw [h1];omega);rw [this,e];simp [fy]
 ·have:=h2 1 (by rw [h1];omega);rw [this,e];simp [fy]
def fieldsOf (f:Fr) (n:Nat):List Int:=(List.range n).map fun i:Nat=>f.place (i:Int)
theorem Bd (f:Fr) (n:Nat):(fieldsOf f n).length=n:=by simp [fieldsOf]
theorem ahA (f:Fr) (n:Nat):fieldsOf f (n+1)=fieldsOf f n++[f.place (n:Int)]:=by simp [fieldsOf,List.range_succ]
theorem ahB (f:Fr) {i n:Nat} (hi:i < n):((fieldsOf f i).map I++List.replicate (n - i) (I 0)).set i (I (f.place i))=(fieldsOf f (i+1)).map I++List.replicate (n - (i+1)) (I 0):=by
 rw [List.set_append_right _ _ (by simp [Bd])];simp only [List.length_map,Bd,Nat.sub_self];rw [show n - i=(n - (i+1))+1 by omega,List.replicate_succ,List.set_cons_zero,ahA,List.map_append,List.append_assoc];rfl
theorem ahC (h:dJ w τ m S M ks k) (ho:M.st.Ok) {n:Nat} (ha:0≤x.a∧x.a < M.aZ.au.length) (hn:(M.aZ.sh x.a).fields=n) (VP:n≤8) (bN:n≤M.aa.stack.length) (hs:M.aa.stack.length≤4294967295) (hr:(M.st.ns.length:Int) < M.st.size)
   (bE:bJ M.st.ns.length (fieldsOf M.aa n)=true) :
   aK Tryz.prog 124 [ptr m,ptr k,hU x] w fun _ w'=>aU w τ m S (M.put ⟨2,x.a,fieldsOf M.aa n⟩ n) ks w':=by
 obtain ⟨j,hj⟩:∃ j:Nat,x.a=j:=⟨x.a.toNat,by omega⟩;refine agr.calls rfl ?_;unfold Md;refine σ ?_;refine cK rfl ?_;intro w1 ax ag _;have aC:w1.drew.heap[w.heap.size]? = _:=ax;have h1:=h.later ag;obtain ⟨vG,vF,vW,vT,fg,ff,fw,ft,F,hh⟩:=h1.at';have cY:=hh.cells;obtain ⟨ad,c,kz,_,dI⟩:=DD hh.aZ (i:=j) (by omega);rw [hj] at ax aC hn;rw [hn] at dI;have b1:(0:Int)≤j∧(j:Int) < M.aZ.au.length:=by omega
 have dI:w1.cell? ⟨(ad.add (j*2)).block,(ad.add (j*2)).off+1,none⟩=some (I n):=dI;simp only [go_sem,simprocAttr,an,bq,cell_of ax,Value.cells,cell_of cY,bb,kz,b1,dI];refine uS (bytes:=8) (n:=n) rfl (by omega) (by omega) ?_;intro w2 iI ae dq;have cq:Mod (fun _=>False) w w2:=ag.trans (Mod.dj ae);refine σ ?_;have Gt:=ag.size
 refine dA (fun z ρ w'=>∃ i:Nat,z=n - i∧i≤n∧Mod (fun _=>False) w w'∧w'.heap[w.heap.size]? = some (.cells #[I x.op,I j,I x.b] 61 (0,0))∧w'.heap[w1.heap.size]? = some (.cells ((fieldsOf M.aa i).map I++List.replicate (n - i) (I 0)).toArray 3 (0,0)) ∧
  ρ=[(0,ptr m),(1,ptr k),(5,ptr w.heap.size),(6,.slice (some ⟨w1.heap.size,0,none⟩) n n),(21,I n),(22,I i)]) n ⟨0,rfl,by omega,cq,ae.at aC (fun h=>h),by simpa [fieldsOf] using iI,rfl⟩ ?_
 ·rintro z ρ w3 ⟨i,rfl,hi,ab,g1,g2,rfl⟩;unfold Vd;refine σ ?_;refine aY rfl (fun ah=>?_) (fun ah=>?_)
  ·have dh:i < n:=by simpa using ah
   refine σ ?_;refine δ (by rfl) (oQ (h.later ab).fr (by omega) ⟨by omega,by omega⟩) ?_;rintro _ _ ⟨rfl,rfl⟩;have c1:(0:Int)≤i∧(i:Int) < n:=by omega
   simp only [go_sem,simprocAttr,an,bq,c1,dB];refine bY (off:=i) rfl rfl g2 rfl (by simp [Bd];omega) ?_;intro w4 aH ai eu;have e1:IntKind.i64.wrap ((i:Int)+1)=((i+1:Nat):Int):=by rw [cy (by omega) (by omega)];omega
   rw [ahB _ dh] at aH;have ai:=Mod.dj ai;simp only [go_sem,simprocAttr,e1];exact ⟨_,by omega,i+1,rfl,by omega,ab.step ai (fun x U hl=>by subst U;omega),ai.at g1 (fun hh=>by omega),aH,rfl⟩
  ·have dh:¬ i < n:=by simpa using ah
   obtain rfl:i=n:=by omega
   simp only [Nat.sub_self,List.replicate_zero,List.append_nil] at g2;simp only [go_sem,simprocAttr,cell_of g1];have h3:=h.later ab;refine aq (by rfl) ?_;have hints:=Dw g2 (by rw [Bd];omega);rw [Bd] at hints;refine (Dm (nd:=⟨2,j,fieldsOf M.aa i⟩) h3.at' ho (by simp [Nd.may,gU,Bd];omega) bE hints hr).mono ?_;rintro _ w5 ⟨rfl,hop⟩;obtain ⟨nX,k1,k2,k5⟩:=h3.two hop rfl;refine σ ?_;refine δ (by rfl) (ze (n:=(i:Int)) k5.fr (by show M.aa.stack.length≤_;omega) ⟨by omega,by show (i:Int)≤M.aa.stack.length;omega⟩) ?_;intro _ w6 iu;have gK:=aU.cat k1 k2 (k5.fo iu);obtain ⟨MM,j1,j2,k6⟩:=gK.aa (by simp [Mc.bU]) h.pos h.hk;refine σ ?_;refine aq (by rfl) ?_;obtain ⟨t1,t2⟩:=qL (M:={ M with st:=M.st.add ⟨2,j,fieldsOf M.aa i⟩}) h.pos (M.aa.pop i);have t1:(({ M with st:=M.st.add ⟨2,j,fieldsOf M.aa i⟩}:Mc).bU (({ M with st:=M.st.add ⟨2,j,fieldsOf M.aa i⟩}:Mc).aa.pop i)).aa=_:=t1;refine (xF k6.fr (by rw [t1];simp only [Fr.pop,List.length_take];omega) M.st.ns.length).mono ?_;intro _ w7 sb;refine σ ?_;have:=zj j1 j2 k6 sb;rw [t1] at this;rw [hj,put_eq _ _ h.pos];exact aU.boxed ab this
end
end
section
open Go Go.RowKit Go.Shelf
attribute [local go_sem] Oper.semAt_some
def eN (n k:Nat):List Nat:=(List.range k).map fun i=>n - 1 - i
theorem Cm (n k:Nat):eN n (k+1)=eN n k++[n - 1 - k]:=by simp [eN,List.range_succ]
theorem Jy (n k:Nat):(eN n k).length=k:=by simp [eN]
def sG (Bs b:Nat) (W W':World):Prop:=W'.heap[Bs]? = W.heap[Bs]?∧W'.heap[b]? = W.heap[b]?
theorem DE {Bs b:Nat} {W W':World} (h:sG Bs b W W') {o:Nat}:W'.cell? ⟨b,o,none⟩=W.cell? ⟨b,o,none⟩∧W'.cell? ⟨Bs,o,none⟩=W.cell? ⟨Bs,o,none⟩:=by
 unfold World.cell?;rw [h.1,h.2];exact ⟨rfl,rfl⟩
set_option maxRecDepth 100000 in
set_option maxHeartbeats 2000000 in
theorem ahD (F:Fence) (n:Nat) (h7:F.fn 153) (pV:F.round=none) (hn:1≤n) (l Bs b off len cap:Nat) (dF:Nat→Value) (xy:len*8≤140737488351232) (J Jx:List Nat→World→Prop)
   (hY:∀ pre j W,J pre W→pre.length < len→j < len→YieldAt F (n - 1) Tryz.prog l #[.int .i64 (j:Int),dF j] W fun e W'=>
    (e = .returned (.bool true)∧J (pre++[j]) W'∧sG Bs b W W')∨(e = .returned (.bool false)∧Jx (pre++[j]) W'))
   (W:World) (vO:W.cell? ⟨Bs,0,none⟩=some (.slice (some ⟨b,off,none⟩) len cap)) (hc:∀ j,j < len→W.cell? ⟨b,off+j,none⟩=some (dF j)) (h0:J [] W) :
   CallsIn F n Tryz.prog 153 #[.func (.yield l) #[] #[],.pointer (some ⟨Bs,0,none⟩)] W fun e W'=>(∃ v,e = .returned v) ∧
    ((∃ ys,ys=eN len len∧J ys W')∨(∃ pre,(∃ k,k≤len∧pre=eN len k)∧Jx pre W')):=by
 refine callsIn_of_wp Tryz.func153 rfl h7 ?_ pV;simp only [Tryz.ntmps153,List.size_toArray,List.length_cons,List.length_nil,Nat.reduceAdd,Nat.reduceSub,Array.replicate_succ,Array.replicate_zero,List.push_toArray,List.append_toArray,List.nil_append,List.cons_append];have ahE:(IntKind.i64.wrap ((len:Int) - 1))=(len:Int) - 1:=by rw [IntKind.wrap_i64];omega
 gi_wp2
 gi_loopw [3] (fun i wr=>∃ k:Nat,k≤len∧i = .int .i64 ((len:Int) - 1 - k)∧J (eN len k) wr∧sG Bs b W wr)
  (fun i _=>(intOf i+1).toNat)
 case atStart=>exact ⟨0,Nat.zero_le _,by simp,h0,rfl,rfl⟩
 case round=>
  obtain ⟨k,hk,rfl,vP,gV⟩:=hrel;have ahF:wr.cell? ⟨Bs,0,none⟩=some (.slice (some ⟨b,off,none⟩) len cap):=(DE gV).2.trans vO;by_cases ah:k < len
  ·obtain ⟨j,hj,ji⟩:∃ j:Nat,(len:Int) - 1 - k=(j:Int)∧len - 1 - k=j:=⟨len - 1 - k,by omega,rfl⟩;have Be:j < len:=by omega
   have hcx:wr.cell? ⟨b,off+j,none⟩=some (dF j):=(DE gV).1.trans (hc j Be);obtain ⟨fn,tmps,assign,body,hy,hR⟩:=hY _ j wr vP (by rw [Jy];exact ah) Be;have MS:IntKind.i64.wrap ((j:Int) - 1)=(j:Int) - 1:=by rw [IntKind.wrap_i64];omega
   rw [hj]
   gi_wp2
   refine hR.mono ?_;rintro e W3 (⟨rfl,MT,mg⟩ | ⟨rfl,MU⟩)
   ·gi_wp2
    go_roundw
    case rel=>exact ⟨k+1,by omega,by rw [show (len:Int) - 1 - ((k+1:Nat):Int)=(j:Int) - 1 by omega],by rw [Cm,ji];exact MT,mg.1.trans gV.1,mg.2.trans gV.2⟩
    case measure=>simp [intOf]
   ·gi_wp2
    refine bodyPost_ret (results_none rfl _ _ _) rfl ?_;exact ⟨⟨_,rfl⟩,.inr ⟨_,⟨k+1,by omega,by rw [Cm,ji]⟩,MU⟩⟩
  ·obtain rfl:k=len:=by omega
   have h0:decide (0≤(k:Int) - 1 - k)=false:=by simp;omega
   gi_wp2
   go_end0
   exact ⟨⟨_,rfl⟩,.inl ⟨_,rfl,vP⟩⟩
set_option maxRecDepth 100000 in
set_option maxHeartbeats 1000000 in
theorem ahG (F:Fence) (n:Nat) (h7:F.fn 153) (pV:F.round=none) (l Bs:Nat) (J:List Nat→World→Prop) (W:World) (vO:W.cell? ⟨Bs,0,none⟩=some (.slice none 0 0)) (h0:J [] W) :
   CallsIn F n Tryz.prog 153 #[.func (.yield l) #[] #[],.pointer (some ⟨Bs,0,none⟩)] W fun e W'=>(∃ v,e = .returned v)∧J [] W':=by
 refine callsIn_of_wp Tryz.func153 rfl h7 ?_ pV;simp only [Tryz.ntmps153,List.size_toArray,List.length_cons,List.length_nil,Nat.reduceAdd,Nat.reduceSub,Array.replicate_succ,Array.replicate_zero,List.push_toArray,List.append_toArray,List.nil_append,List.cons_append]
 gi_wp2
 gi_loopw [3] (fun i wr=>i = .int .i64 (-1)∧J [] wr) (fun _ _=>0)
 case atStart=>exact ⟨rfl,h0⟩
 case round=>
  obtain ⟨rfl,vP⟩:=hrel
  gi_wp2
  go_end0
  exact ⟨⟨_,rfl⟩,vP⟩
theorem VQ (F:Fence) (n:Nat) (h7:F.fn 153) (pV:F.round=none) (hn:1≤n) (Bs b len:Nat) (sv:Value) (dF:Nat→Value) (w:World) (vO:w.cell? ⟨Bs,0,none⟩=some sv) (mY:Bs < w.heap.size)
   (hs:(sv = .slice none 0 0∧len=0)∨(b < w.heap.size∧∃ cap,sv = .slice (some ⟨b,0,none⟩) len cap∧∀ j,j < len→w.cell? ⟨b,j,none⟩=some (dF j))) (xy:len*8≤140737488351232) :
   SeqStopsK F n Tryz.prog 153 #[.pointer (some ⟨Bs,0,none⟩)] (fun x : { j:Nat // j < len}=>#[.int .i64 (x.1:Int),dF x.1]) (sG Bs b) (fun ys=>ys.map Subtype.val=eN len len) (fun _=>True) len w:=by
 intro l J Jx W hW _ _ hY h0;have bz:=(hW.cell (p:=⟨Bs,0,none⟩) mY).trans vO;rcases hs with ⟨rfl,rfl⟩ | ⟨hb,cap,rfl,hc⟩
 ·refine (ahG F n h7 pV l Bs (fun ns W=>∃ xs,xs.map Subtype.val=ns∧J xs W) W bz ⟨[],rfl,h0⟩).mono ?_;rintro e W' ⟨he,xs,U,hj⟩;exact ⟨he,.inl ⟨xs,U.trans rfl,hj⟩⟩
 ·refine (ahD F n h7 pV hn l Bs b 0 len cap dF xy (fun ns W=>∃ xs,xs.map Subtype.val=ns∧J xs W) (fun ns W=>∃ xs,xs.map Subtype.val=ns∧Jx xs W) ?_ W bz ?_ ⟨[],rfl,h0⟩).mono ?_
  ·rintro pre j W1 ⟨xs,rfl,hj⟩ hl ji;obtain ⟨fn,tmps,assign,body,h1,h2⟩:=hY xs ⟨j,ji⟩ W1 hj (by simpa using hl);refine ⟨fn,tmps,assign,body,h1,h2.mono ?_⟩;rintro e W' (⟨rfl,k1,k2⟩ | ⟨rfl,k1⟩)
   ·exact .inl ⟨rfl,⟨xs++[⟨j,ji⟩],by simp,k1⟩,k2⟩
   ·exact .inr ⟨rfl,xs++[⟨j,ji⟩],by simp,k1⟩
  ·intro j hj;rw [Nat.zero_add];exact (hW.cell (p:=⟨b,j,none⟩) hb).trans (hc j hj)
  ·rintro e W' ⟨he,⟨ys,rfl,xs,U,hj⟩ | ⟨pre,_,xs,U,hj⟩⟩
   ·exact ⟨he,.inl ⟨xs,U,hj⟩⟩
   ·exact ⟨he,.inr ⟨xs,trivial,hj⟩⟩
end
end Go.Proofs.YtnjobkbblhaliaaGreatDoor
section
namespace Go.W
open Go
section
variable {P:Program} {N:Nat} {Q:oH} {Ds:List Nat} {ρ:Env} {w:World} {next:List Nat→Env→World→Prop} {i j:Nat} {rs:List RV} {R:Value→World→Prop}
@[go_sem] theorem apd {x:IR}:kf P N (.ir x) Q Ds ρ w=cM P N x (fun e ρ w=>Q e Ds ρ w) ρ w:=rfl
@[go_sem] theorem ape {a b:K}:kf P N (.seq a b) Q Ds ρ w=kf P N a (Au (fun Ds ρ w=>kf P N b Q Ds ρ w) Q) Ds ρ w:=rfl
@[go_sem] theorem apf {a:K}:kf P N (.fO i a) Q Ds ρ w=kf P N a (Av i Q) Ds ρ w:=rfl
@[go_sem] theorem apg:Au next Q .normal Ds ρ w=next Ds ρ w:=rfl
@[go_sem] theorem aph:Au next Q .ret Ds ρ w=Q .ret Ds ρ w:=rfl
@[go_sem] theorem api:Au next Q (.exit i) Ds ρ w=Q (.exit i) Ds ρ w:=rfl
@[go_sem] theorem apj:Av j Q .normal Ds ρ w=Q .normal Ds ρ w:=rfl
@[go_sem] theorem apk:Av j Q .ret Ds ρ w=Q .ret Ds ρ w:=rfl
@[go_sem] theorem apl:Av j Q (.exit i) Ds ρ w=if i=j then Q .normal Ds ρ w else Q (.exit i) Ds ρ w:=rfl
theorem VR {e:Exit} (he:e = .normal∨e = .ret) (h:∀ w',Mod (fun _=>False) w w'→∃ vs,lx w' ρ rs=some vs∧R (oG vs) w'):JE rs R e [] ρ w:=
 ⟨he,(fun D h=>by cases h),List.nodup_nil,fun w' hm _=>h w' (hm.az (fun b hb=>by cases hb))⟩
theorem MV {e:Exit} {D:Nat} (he:e = .normal∨e = .ret) (hD:w.heap[D]? = some (.deferred (some []))) (h:∀ w',Mod (· = D) w w'→∃ vs,lx w' ρ rs=some vs∧R (oG vs) w'):JE rs R e [D] ρ w:=
 ⟨he,(fun D' h=>by obtain rfl:=List.mem_singleton.1 h;exact hD),List.nodup_cons.2 ⟨(by simp),List.nodup_nil⟩,fun w' hm _=>h w' (hm.az (fun b hb=>List.mem_singleton.1 hb))⟩
end
theorem GV {S:Nat→Prop} {w w':World} (hm:Mod S w w') (hs:∀ b,S b→∀ o,w.heap[b]? = some o→o.isCells=true):KeepsOthers w w':=by
 refine ⟨hm.size,fun k o hk ho=>hm.at hk (fun hh=>?_)⟩;rw [hs k hh o hk] at ho;cases ho
theorem GW {S:Nat→Prop} {w w':World} (hm:Mod S w w') {Bs b:Nat} (h1:Bs < w.heap.size) (h2:b < w.heap.size) (hs:¬ S Bs) (fN:¬ S b):Go.Proofs.YtnjobkbblhaliaaGreatDoor.sG Bs b w w':=⟨hm.old Bs h1 hs,hm.old b h2 fN⟩
theorem DF {W W':World} {S:Nat→Prop} (hm:Mod S W W') (hs:∀ b,S b→∃ o:Obj,W.heap[b]? = some o∧o.isCells=false) {b:Nat} {cs:Array Value} {T:Nat} {fz:Nat×Nat} (h:W.heap[b]? = some (.cells cs T fz)):W'.heap[b]? = some (.cells cs T fz):=by
 refine hm.at h (fun hh=>?_);obtain ⟨o,h1,h2⟩:=hs b hh;rw [h] at h1;cases h1;cases h2
theorem GX {W W':World} {S:Nat→Prop} (hm:Mod S W W') (hs:∀ b,S b→∃ o:Obj,W.heap[b]? = some o∧o.isCells=false) {T sz n:Nat} {v:Value} {xs:List Value} {fp:Option Nat} (h:ao W T sz v xs n fp):ao W' T sz v xs n fp:=by
 refine h.mod hm (fun b hb hh=>?_);obtain ⟨o,h1,h2⟩:=hs b hh;obtain ⟨h3,h4 | ⟨b',c,sp,e,hf,h5,_⟩⟩:=h
 ·obtain ⟨_,_,e⟩:=h4;rw [e] at hb;cases hb
 ·rw [hf] at hb;cases hb;rw [h5] at h1;cases h1;cases h2
end Go.W
namespace Go.Proofs.YtnjobkbblhaliaaGreatDoor
open Go Go.W
theorem VS (w:World) (v:Value):aK Tryz.prog 135 [v] w fun r w'=>r = .func (.func 153) #[] #[ptr w.heap.size]∧(∃ T fz,w'.heap[w.heap.size]? = some (.cells v.cells T fz))∧Mod (fun _=>False) w w':=by
 refine agC.calls rfl ?_;unfold Mo;refine σ ?_;refine cK rfl ?_;intro w1 ax ag _;refine σ ?_;exact ⟨⟨_,_,ax⟩,ag⟩
end Go.Proofs.YtnjobkbblhaliaaGreatDoor
end
namespace Go.Proofs.YtnjobkbblhaliaaGreatDoor
section
open Go Go.W
theorem ahH {w w3:World} {τ:Tag} {i k:Nat} {f f':Fr} {vs vp vs':Value} {fs fp fs':Option Nat} (h:nS w τ i k f vs vp fs fp) (ho:ao w3 3 1 vs' (f'.stack.map I) f'.stack.length fs') (e:f'.spine=f.spine)
   (hb:w3.heap[k]? = some (.cells (cC f' vs' vp).toArray 151 (0,0))) (hm:Mod (fun b=>fs=some b∨b=k) w w3) (hf:∀ b,fs'=some b→fs=some b∨w.heap.size≤b):xD w τ i k f' w3:=by
 obtain ⟨l1,l2,l3⟩:=h.lt;obtain ⟨a1,a2,a3⟩:=Dl h;have ht:=eJ τ w (.fs i);refine ⟨bL τ w (.fs i),ht,⟨vs',vp,fs',fp,hb,(ht k l1).trans h.tk,ho,Dj h.ts l2 hf,?_,zd h.tp ht.wx l3 (by simp)⟩,hm.az ?_⟩
 ·rw [e];refine h.spine.mod hm (fun b aC hh=>?_);rcases hh with hh | hh
  ·exact a3 b hh aC
  ·exact a2 (hh ▸ aC)
 ·rintro b (hh | rfl)
  ·exact .inr (.inl (h.ts b hh))
  ·exact .inl h.tk
theorem ahI {w:World} {k:Nat} {f:Fr} {vs vp:Value} {fs:Option Nat} (gO:w.heap[k]? = some (.cells (cC f vs vp).toArray 151 (0,0))) (bN:ao w 3 1 vs (f.stack.map I) f.stack.length fs) (hs:f.stack.length≤4294967296) (p:Int) :
   aK Tryz.prog 111 [.pointer (some ⟨k,0,none⟩),I p] w fun _ w'=>∃ vs' fs',w'.heap[k]? = some (.cells (cC (f.push p) vs' vp).toArray 151 (0,0))∧ao w' 3 1 vs' ((f.push p).stack.map I) (f.push p).stack.length fs' ∧
    Mod (fun b=>fs=some b∨b=k) w w'∧∀ b,fs'=some b→fs=some b∨w.heap.size≤b:=by
 obtain ⟨a,c,rfl,hc,_⟩:=bN.val;refine Va.calls rfl ?_;unfold Gx;simp only [go_sem,simprocAttr,cell_of gO,cC];refine cd (by rfl) (by rfl) ?_;intro w1 ax ag cL;refine σ ?_;refine eH (v:=.slice a f.stack.length c) (news:=[I p]) rfl (bN.mod ag (fun _ _ h=>h)) rfl (fun h=>by cases h) (j9 (xs:=[I p]) ax) (pB [p]) rfl (by omega) (by omega) ?_;intro v2 w2 xG dR ae eO;have dG:Mod (fun b=>fs=some b) w w2:=(ag.az (fun _ h=>h.elim)).step ae (fun x U _=>U);have cB:=dG.at gO (fun hh=>im bN hh gO (by decide));obtain ⟨va,vc,rfl,_,_⟩:=dR.val;refine σ ?_;refine bY (cs:=cC f (.slice a f.stack.length c) vp) rfl rfl cB rfl (by simp [cC]) ?_;intro w3 aJ ab eP;refine σ ?_;refine ⟨_,xG,aJ,?_,(dG.az (fun _ h=>.inl h)).step (ab.az (fun _ h=>.inr h)) (fun x U _=>U),fun b hb=>(eO b hb).imp id (fun hh=>by have:=ag.size;omega)⟩;have:=dR.mod ab (fun b hb hh=>by subst hh;exact im dR hb cB (by decide))
 simpa [Fr.push] using this
theorem VT (l:List Int):(W.eN l.length l.length).map (fun j=>l.getD j 0)=l.reverse:=by
 refine List.ext_getElem (by simp [W.eN]) ?_;intro i h1 h2;simp only [W.eN,List.length_map,List.length_range,List.map_map] at h1;simp only [W.eN,List.map_map,List.getElem_map,List.getElem_range,Function.comp_apply,List.getElem_reverse];rw [List.getD_eq_getElem?_getD,List.getElem?_eq_getElem (by omega)];rfl
theorem GY {w:World} {T sz n:Nat} {v:Value} {xs:List Value} {fp:Option Nat} (h:ao w T sz v xs n fp) {b:Nat} {o:Obj} (hb:fp=some b) (ho:w.heap[b]? = some o):o.isCells=true:=by
 obtain ⟨h3,h4 | ⟨b',c,sp,e,hf,h5,_⟩⟩:=h
 ·obtain ⟨_,_,e⟩:=h4;rw [e] at hb;cases hb
 ·rw [hf] at hb;cases hb;rw [h5] at ho;cases ho;rfl
structure xL (w:World) (k:Nat) (f:Fr) (vp:Value) (fs:Option Nat) (l:List Int) (W:World):Prop where
 ex:∃ v fs',W.heap[k]? = some (.cells (cC { f with stack:=f.stack++l} v vp).toArray 151 (0,0))∧ao W 3 1 v ((f.stack++l).map I) (f.stack++l).length fs'∧∀ b,fs'=some b→fs=some b∨w.heap.size≤b
 mod:Mod (fun b=>fs=some b∨b=k) w W
theorem xL.quiet {w:World} {k:Nat} {f:Fr} {vp:Value} {fs:Option Nat} {l:List Int}:Quiet w.heap.size (xL w k f vp fs l):=by
 rintro W W' S ⟨⟨v,fs',h1,h2,h3⟩,h4⟩ hm hs;have fN:∀ b,S b→∃ o:Obj,W.heap[b]? = some o∧o.isCells=false:=fun b hb=>(hs b hb).2
 refine ⟨⟨v,fs',DF hm fN h1,GX hm fN h2,h3⟩,h4.step hm (fun b hb hl=>?_)⟩;have:=(hs b hb).1;omega
theorem xL.later {w:World} {k:Nat} {f:Fr} {vp:Value} {fs:Option Nat} {l:List Int} {W W':World} {D:Nat} (h:xL w k f vp fs l W) (hD:W.heap[D]? = some (.deferred (some []))) (hl:w.heap.size≤D) (hm:Mod (· = D) W W'):xL w k f vp fs l W':=
 xL.quiet _ _ _ h hm (fun b hb=>by subst hb;exact ⟨hl,_,hD,rfl⟩)
theorem aU.after {w w' ql:World} {τ:Tag} {m:Nat} {S:SV} {M':Mc} {ks:List Nat} (h:aU w τ m S M' ks w') (hm:Mod (fun _=>False) w' ql):aU w τ m S M' ks ql:=by
 obtain ⟨bI,h1,h2,h3⟩:=h;exact ⟨bI,h1,h2.mod hm (dV _ _).wx (fun _ _ h=>h.elim),h3.step hm (fun _ h _=>h.elim)⟩
theorem VU {w:World} {v:Value} {l:List Int} {fp:Option Nat} (h:ao w 3 1 v (l.map I) l.length fp) {Bs:Nat} (hB:Bs < w.heap.size):∃ b,b < w.heap.size∧(b=Bs∨fp=some b) ∧
   ((v = .slice none 0 0∧l.length=0)∨(b < w.heap.size∧∃ cap,v = .slice (some ⟨b,0,none⟩) l.length cap∧∀ j,j < l.length→w.cell? ⟨b,j,none⟩=some (I (l.getD j 0)))):=by
 rcases Nat.eq_zero_or_pos l.length with h0 | h0
 ·obtain ⟨h1,⟨rfl,_,rfl⟩ | ⟨b,c,sp,rfl,rfl,h5,_⟩⟩:=h
  ·exact ⟨Bs,hB,.inl rfl,.inl ⟨rfl,h0⟩⟩
  ·exact ⟨b,lt_of_heap h5,.inr rfl,.inr ⟨lt_of_heap h5,c,rfl,fun j hj=>by omega⟩⟩
 ·obtain ⟨a,c,rfl,_⟩:=h.val;obtain ⟨b,rfl,hf,_⟩:=kQ h h0;refine ⟨b,h.lt hf,.inr hf,.inr ⟨h.lt hf,c,rfl,fun j hj=>?_⟩⟩;obtain ⟨b',e,_,hc⟩:=kQ h hj;cases e;rw [hc,List.getElem?_map,List.getElem?_eq_getElem hj,List.getD_eq_getElem?_getD,List.getElem?_eq_getElem hj];rfl
section
variable {w:World} {τ:Tag} {m:Nat} {S:SV} {M:Mc} {ks:List Nat} {k:Nat} {x:Ins}
theorem ahJ (h:dJ w τ m S M ks k) (ho:M.st.Ok) (he:Ends M.st.ns) (hs:M.aa.stack.length≤4294967) (lq:0 < M.aa.stack.length) (h0:0≤M.aa.place 0∧M.aa.place 0 < M.st.ns.length) (ha:0≤x.a∧x.a < M.aZ.au.length) (GZ:(M.st.nd (M.aa.place 0)).args.length≤8) :
   aK Tryz.prog 125 [ptr m,ptr k,hU x] w fun _ w'=>aU w τ m S (if (M.st.nd (M.aa.place 0)).kind≠2∨(M.st.nd (M.aa.place 0)).num≠x.a∨((M.st.nd (M.aa.place 0)).args.length:Int)≠(M.aZ.sh x.a).fields then M.fail 5
    else M.bU { M.aa.pop 1 with stack:=(M.aa.pop 1).stack++(M.st.nd (M.aa.place 0)).args.reverse}) ks w':=by
 obtain ⟨j,hj⟩:∃ j:Nat,x.a=j:=⟨x.a.toNat,by omega⟩;refine ags.calls rfl ?_;unfold Vf;refine σ ?_;refine cK rfl ?_;intro w0 VV uT _;refine σ ?_;refine cK rfl ?_;intro w1 ax ag _;have MX:=h.later uT;have h1:=MX.later ag;have MY:=ag.at VV (fun h=>h);have ky:=Mod.refl (fun _=>False) w1;simp only [go_sem,simprocAttr,cell_of MY,ptr,Value.cells];refine δ (by rfl) (oQ (h1.later ky).fr (by omega) ⟨by omega,by omega⟩) ?_;rintro _ _ ⟨rfl,rfl⟩;have kR:Mod (fun _=>False) w1 w1.drew:=ky.drew;refine σ ?_;refine δ (by rfl) (oS (h1.later kR).at' ho he h0) ?_;rintro _ pR ⟨v2,rfl,gD,oW⟩;refine σ ?_;refine dk ?_;intro GS vN mO _;refine σ ?_;refine cX (cs:=[I 0,I 0,.slice none 0 0]) rfl rfl vN rfl rfl (oV gD _ _) ?_;intro w2 aC oX GU;refine σ ?_;have Dx:=(kR.trans oW).size;have ae:Mod (fun _=>False) w1 w2:=(kR.trans (oW.trans mO)).step oX (fun x U hl=>by subst U;omega);have oU:Mod (fun _=>False) pR w2:=mO.step oX (fun x U hl=>by subst U;omega);have h2:=h1.later ae;have dC:=ae.at ax (fun h=>h);have ahK:=ae.at MY (fun h=>h);generalize hA:M.st.nd (M.aa.place 0)=A at *;obtain ⟨vG,vF,vW,vT,fg,ff,fw,ft,F,hh⟩:=h2.at';have cB:=hh.cells;obtain ⟨ad,c,kz,_,dI⟩:=DD hh.aZ (i:=j) (by omega);have b1:(0:Int)≤j∧(j:Int) < M.aZ.au.length:=by omega
 have dI:w2.cell? ⟨(ad.add (j*2)).block,(ad.add (j*2)).off+1,none⟩=some (I (M.aZ.sh j).fields):=dI;rw [hj] at dC;obtain ⟨G0,xM,xN⟩:=gD;obtain ⟨va,vc,rfl,_⟩:=xM.val;rw [hj];simp only [go_sem,simprocAttr,cell_of aC];refine iG (fun ρ w'=>w'=w2.drew∧ρ.get 0=some (ptr m)∧ρ.get 4=some (ptr w.heap.size)∧ρ.get 7=some (ptr pR.heap.size)∧ρ.get 42=some (.bool (decide (A.kind≠2∨A.num≠j∨(A.args.length:Int)≠(M.aZ.sh j).fields)))) ?_ ?_
 ·cases eQ:(A.kind != 2)<;>cases eT:(A.num != j)<;>cases mg:((A.args.length:Int) != (M.aZ.sh j).fields)<;>simp only [go_sem,simprocAttr,an,bq,cell_of aC,cell_of dC,Value.cells,cell_of cB,bb,kz,b1,dI,eQ,eT,mg]<;>(simp only [aL,aM,aN,an,aQ] at eQ;simp only [aL,aM,aN,an,aQ] at eT;simp only [aL,aM,aN,an,aQ] at mg;simp [eQ,eT,mg])
 rintro ρ _ ⟨rfl,r0,r4,r7,r42⟩;simp only [go_sem,simprocAttr,r0,r4,r7,r42];have DG:dJ w2.drew (bL (bL (bL τ w .no) w0 .no) w1 .no) m S M ks k:=h2.mod ((Mod.refl (fun _=>False) w2).drew) (dV _ _).wx (fun _ _ h=>h.elim);refine aY rfl (fun hk=>?_) (fun hk=>?_)
 ·simp only [aL,aM,aN,an,aQ] at hk;rw [if_pos hk];refine σ ?_;refine δ (by rfl) (sB DG.at' 5) ?_;rintro _ w4 hop;refine σ ?_;exact VR (.inr rfl) (fun w' hm=>⟨_,rfl,aU.boxed uT (aU.boxed ag (aU.boxed ae.drew (hop.after hm)))⟩)
 ·simp only [aL,aM,aN,an,aQ] at hk;rw [if_neg hk];have MZ:w2.drew.heap[w.heap.size]? = _:=ahK;have ahL:w2.drew.heap[pR.heap.size]? = _:=aC;have Gt:=ag.size;have aex:=uT.size;have VW:∀ b,G0=some b→w1.heap.size≤b:=xN;simp only [go_sem,simprocAttr,cell_of MZ,ptr,Value.cells];refine δ (by rfl) (ze (n:=1) DG.fr (by omega) ⟨by omega,by omega⟩) ?_;intro _ w3 nP;have ab:Mod (fun b=>((bL (bL (bL τ w .no) w0 .no) w1 .no) b).fo (M.aE.length - 1)) w2.drew w3:=nP.choose_spec.2.2;obtain ⟨xK,j1,j2,h3⟩:=(DG.fo nP).aa (qL h.pos _).2 h.pos h.hk;have xO:∀ b,w1.heap.size≤b→bL (bL (bL τ w .no) w0 .no) w1 .no b = .no:=fun b hb=>oP hb
  have M5:∀ b i,(bL (bL (bL τ w .no) w0 .no) w1 .no b) = .no→¬ (bL (bL (bL τ w .no) w0 .no) w1 .no b).fo i:=fun b i hb hh=>by rw [hb] at hh;rcases hh with h | h | h<;>cases h
  have VX:bL (bL (bL τ w .no) w0 .no) w1 .no w.heap.size = .no:=by
   rw [eJ _ w1 .no _ (by have:=lt_of_heap MY;omega),eJ _ w0 .no _ (lt_of_heap VV)];exact oP (Nat.le_refl _)
  have aJ:=ab.at ahL (M5 _ _ (xO _ Dx));have VY:=ab.at MZ (M5 _ _ VX);have G1:=(xM.mod oU (fun _ _ h=>h)).mod ((Mod.refl (fun _=>False) w2).drew) (fun _ _ h=>h);have G2:=G1.mod ab (fun b hb=>M5 _ _ (xO _ (VW b hb)));simp only [go_sem,simprocAttr,cell_of aJ];refine δ (by rfl) (VS w3 _) ?_;rintro _ w4 ⟨rfl,⟨T4,fz4,aH⟩,ai⟩;have h4:=h3.later ai;obtain ⟨e1,e2⟩:=qL (M:=M) h.pos (M.aa.pop 1);obtain ⟨vs,vp,fs,fp,hF⟩:=h4.fr;rw [e1] at hF;have ahM:=G2.mod ai (fun _ _ h=>h);obtain ⟨bA,DH,DI,DJ⟩:=VU ahM (lt_of_heap aH);have l1:=hF.lt;have ac7:=ai.size;have sD:k < w3.heap.size:=by
   obtain ⟨_,_,_,_,jq⟩:=h3.fr;exact jq.lt.1
  have t4:∀ b,b < w3.heap.size→bL xK w3 .no b=xK b:=fun b hb=>eJ xK w3 .no b hb
  have t3:∀ b,b < w2.drew.heap.size→xK b=bL (bL (bL τ w .no) w0 .no) w1 .no b:=fun b hb=>j1 b hb
  have zm:∀ b,(bL xK w3 .no) b = .no→b≠k∧fs≠some b:=fun b hb=>⟨(fun e=>by subst e;rw [hF.tk] at hb;cases hb),(fun e=>by rw [hF.ts b e] at hb;cases hb)⟩
  have nB:=zm w3.heap.size (oP (Nat.le_refl _));have nA:bA≠k∧fs≠some bA:=by
   rcases DI with e | e
   ·rw [e];exact nB
   ·refine zm bA ?_;have hl:=G1.lt e;rw [t4 _ (G2.lt e),t3 _ hl];exact xO _ (VW _ e)
  have n4:w.heap.size≠k∧fs≠some w.heap.size:=by
   refine zm _ ?_;rw [t4 _ (lt_of_heap VY),t3 _ (lt_of_heap MZ)];exact VX
  have ahN:=ai.at VY (fun h=>h);have M7:(M.aa.pop 1).stack.length≤4294967:=by simp only [Fr.pop,List.length_take];omega
  refine ⟨2,A.args.length,153,#[ptr w3.heap.size],(fun j=>I (A.args.getD j 0)),sG w3.heap.size bA,(fun pre W=>xL w4 k (M.aa.pop 1) vp fs (pre.map (fun j=>A.args.getD j 0)) W),⟨rfl,(fun _ _=>rfl),?_,⟨rfl,rfl⟩,by omega,?_,?_,⟨⟨⟨vs,fs,?_,?_,fun b hb=>.inl hb⟩,Mod.refl _ _⟩,fun s=>xL.quiet,?_⟩⟩,?_⟩
  ·refine VQ Fence.wide 1 trivial rfl (by omega) w3.heap.size bA A.args.length (.slice va A.args.length vc) (fun j=>I (A.args.getD j 0)) w4 (by simpa [Value.cells] using cell_of aH (o:=0)) (lt_of_heap aH) DJ (by omega)
  ·intro A B C a b;exact ⟨b.1.trans a.1,b.2.trans a.2⟩
  ·intro W l o o' hl ho DK _;have jG:l≠w3.heap.size:=fun e=>by have:=lt_of_heap aH;omega
   have fX:l≠bA:=fun e=>by omega
   exact ⟨World.putObj_heap_other (fun e=>jG e.symm),World.putObj_heap_other (fun e=>fX e.symm)⟩
  ·simpa using hF.cells
  ·simpa using hF.stack
  ·rintro pre jj W ⟨⟨v,fs',p1,p2,p3⟩,p4⟩ bE ji;have Bf:∀ b,b < w4.heap.size→fs≠some b→fs'≠some b:=fun b hb hn e=>by
    rcases p3 b e with h1 | h1
    ·exact hn h1
    ·omega
   have ahO:=p4.at ahN (fun h=>by rcases h with h | h;exact n4.2 h;exact n4.1 h);unfold Ve;simp only [go_sem,simprocAttr,cell_of ahO,ptr,Value.cells];refine δ (by rfl) (ahI (f:={ M.aa.pop 1 with stack:=(M.aa.pop 1).stack++pre.map (fun j=>A.args.getD j 0)}) p1 p2 (by simp only [List.length_append,List.length_map];omega) (A.args.getD jj 0)) ?_;rintro _ W2 ⟨v2,xG,q1,q2,q3,q4⟩;refine σ ?_;have sW:=p4.size;refine ⟨GV q3 (fun b hb o ho=>?_),GW q3 (by have:=lt_of_heap aH;omega) (by omega) (fun hh=>?_) (fun hh=>?_),⟨v2,xG,?_,?_,fun b hb=>?_⟩,p4.step q3 (fun b hb hl=>?_)⟩
   ·rcases hb with hb | rfl
    ·cases nx:o.isCells with
     | true=>rfl
     | false=>exact absurd ho (fun e=>by have:=GY p2 hb e;rw [this] at nx;cases nx)
    ·rw [p1] at ho;cases ho;rfl
   ·rcases hh with hh | hh
    ·exact Bf _ (lt_of_heap aH) nB.2 hh
    ·exact nB.1 hh
   ·rcases hh with hh | hh
    ·exact Bf _ DH nA.2 hh
    ·exact nA.1 hh
   ·simpa [Fr.push] using q1
   ·simpa [Fr.push] using q2
   ·rcases q4 b hb with h1 | h1
    ·exact p3 b h1
    ·right;omega
   ·rcases hb with hb | hb
    ·rcases p3 b hb with h1 | h1
     ·exact .inl h1
     ·omega
    ·exact .inr hb
  ·intro D W hD hI jK;refine σ ?_;refine MV (.inl rfl) jK (fun w' hm=>⟨_,rfl,?_⟩);obtain ⟨⟨v,fs',p1,p2,p3⟩,p4⟩:=hI.later jK hD hm;rw [VT] at p1 p2;have hop:=h4.fo (f':={ M.aa.pop 1 with stack:=(M.aa.pop 1).stack++A.args.reverse}) (ahH hF p2 rfl p1 p4 p3);rw [ML] at hop;exact aU.boxed uT (aU.boxed ag (aU.boxed ae.drew (aU.cat j1 j2 (aU.boxed ai hop))))
end
end
section
open Go Go.W
structure xP (ns ms:List Nd) (R:Nat→Nat→Prop):Prop where
 DL:∀ x y,R x y→x < ns.length∧y < ms.length∧over ns x=x∧over ms y=y
 fn:∀ x y y',R x y→R x y'→y=y'
 inj:∀ x x' y,R x y→R x' y→x=x'
 nd:∀ x y,R x y→(ak ns x).kind=(ak ms y).kind∧(ak ns x).num=(ak ms y).num∧(ak ns x).args.length=(ak ms y).args.length
 kids:∀ x y,R x y→ind ns x=false→∀ (i:Nat) (a b:Int),(ak ns x).args[i]? = some a→(ak ms y).args[i]? = some b→R (over ns a.toNat) (over ms b.toNat)
def ahP (ns ms:List Nd) (R:Nat→Nat→Prop) (rs qs:List Int):Prop:=rs.length=qs.length∧∀ (i:Nat) (a b:Int),rs[i]? = some a→qs[i]? = some b→R (over ns a.toNat) (over ms b.toNat)
def Alike (ns:List Nd) (rs:List Int) (ms:List Nd) (qs:List Int):Prop:=∃ R,xP ns ms R∧ahP ns ms R rs qs
theorem VZ {ns ms:List Nd} {x y:Nat} (h:(ak ns x).kind=(ak ms y).kind):ind ns x=ind ms y:=by simp [ind,h]
theorem ahQ {ns ms ls:List Nd} {R S:Nat→Nat→Prop} (h:xP ns ms R) (k:xP ms ls S):xP ns ls (fun x z=>∃ y,R x y∧S y z):=by
 refine ⟨?_,?_,?_,?_,?_⟩
 ·rintro x z ⟨y,h1,h2⟩;exact ⟨(h.DL _ _ h1).1,(k.DL _ _ h2).2.1,(h.DL _ _ h1).2.2.1,(k.DL _ _ h2).2.2.2⟩
 ·rintro x z z' ⟨y,h1,h2⟩ ⟨y',h3,h4⟩;cases h.fn _ _ _ h1 h3;exact k.fn _ _ _ h2 h4
 ·rintro x x' z ⟨y,h1,h2⟩ ⟨y',h3,h4⟩;cases k.inj _ _ _ h2 h4;exact h.inj _ _ _ h1 h3
 ·rintro x z ⟨y,h1,h2⟩;obtain ⟨a1,a2,a3⟩:=h.nd _ _ h1;obtain ⟨b1,b2,b3⟩:=k.nd _ _ h2;exact ⟨a1.trans b1,a2.trans b2,a3.trans b3⟩
 ·rintro x z ⟨y,h1,h2⟩ hi i a c ha hc;have hl:=(h.nd _ _ h1).2.2;have gz:i < (ak ms y).args.length:=by rw [← hl];exact (List.getElem?_eq_some_iff.1 ha).1
  refine ⟨_,h.kids _ _ h1 hi i a _ ha (List.getElem?_eq_getElem gz),k.kids _ _ h2 (by rw [← VZ (h.nd _ _ h1).1];exact hi) i _ c (List.getElem?_eq_getElem gz) hc⟩
theorem ahR {ns ms ls:List Nd} {rs qs ps:List Int} (h:Alike ns rs ms qs) (k:Alike ms qs ls ps):Alike ns rs ls ps:=by
 obtain ⟨R,h1,h2,h3⟩:=h;obtain ⟨S,k1,k2,k3⟩:=k;refine ⟨_,ahQ h1 k1,h2.trans k2,fun i a c ha hc=>?_⟩;have gz:i < qs.length:=by rw [← h2];exact (List.getElem?_eq_some_iff.1 ha).1
 exact ⟨_,h3 i a _ ha (List.getElem?_eq_getElem gz),k3 i _ c (List.getElem?_eq_getElem gz) hc⟩
theorem G3 {n:Nat} {l:List Int} (h:bJ n l=true) {a:Int} (ha:a∈l):0≤a∧a < n:=by
 have:=List.all_eq_true.1 h a ha
 simpa using this
theorem DM {n:Nat} {l:List Int} (h:bJ n l=true) {a:Int} (ha:a∈l):a.toNat < n:=by
 have:=G3 h ha;omega
theorem alike_refl {ns:List Nd} (hw:WF ns) {rs:List Int} (ho:bJ ns.length rs=true):Alike ns rs ns rs:=by
 refine ⟨fun x y=>x=y∧x < ns.length∧over ns x=x,⟨?_,?_,?_,?_,?_⟩,rfl,?_⟩
 ·rintro x _ ⟨rfl,h1,h2⟩;exact ⟨h1,h1,h2,h2⟩
 ·rintro x _ _ ⟨rfl,_⟩ ⟨rfl,_⟩;rfl
 ·rintro _ _ _ ⟨rfl,_⟩ ⟨rfl,_⟩;rfl
 ·rintro x _ ⟨rfl,_⟩;exact ⟨rfl,rfl,rfl⟩
 ·rintro x _ ⟨rfl,h1,h2⟩ _ i a b ha hb;rw [ha] at hb;cases hb;have:=DM (jh hw h1).2 (List.mem_of_getElem? ha);exact ⟨rfl,qv (fu hw) this,rP (fu hw) this⟩
 ·intro i a b ha hb;rw [ha] at hb;cases hb;have:=DM ho (List.mem_of_getElem? ha);exact ⟨rfl,qv (fu hw) this,rP (fu hw) this⟩
section
variable {ns:List Nd} {fr:Nat} {roots:List Int}
def gg (ns:List Nd) (fr:Nat) (O:List Nat) (x:Nat):Nat:=if x < fr then x else fr+O.idxOf x
theorem M8 (ns:List Nd) (fr:Nat) (O:List Nat) (p:Int):dD ns fr O p=(gg ns fr O (over ns p.toNat):Nat):=by
 unfold dD gg;split<;>rfl
theorem V0 {p:Nat} (hp:p < fr):ak (b9 ns fr roots) p=nO ns fr (bK ns fr roots) p:=by
 unfold ak b9;rw [List.getD_eq_getElem?_getD,List.getElem?_append_left (by simpa using hp)];simp [hp]
theorem ahS {j:Nat} (hj:j < (bK ns fr roots).length):ak (b9 ns fr roots) (fr+j)=nM ns fr (bK ns fr roots) (bK ns fr roots)[j]:=by
 unfold ak b9;rw [List.getD_eq_getElem?_getD,List.getElem?_append_right (by simp)];simp [hj]
def qN (ns:List Nd) (fr:Nat) (O:List Nat) (x:Nat):Prop:=x < ns.length∧over ns x=x∧(x < fr∨x∈O)
theorem ahT {O:List Nat} (hO:∀ x∈O,fr≤x) {x y:Nat} (U:x < fr∨x∈O) (hy:y < fr∨y∈O) (h:gg ns fr O x=gg ns fr O y):x=y:=by
 unfold gg at h
 split at h<;>split at h
 ·exact h
 ·omega
 ·omega
 ·rename_i h1 h2;have h3:=U.resolve_left h1;have h4:=hy.resolve_left h2;have h5:O.idxOf x=O.idxOf y:=by omega
  have e1:=List.getElem_idxOf (List.idxOf_lt_length_iff.2 h3);have e2:=List.getElem_idxOf (List.idxOf_lt_length_iff.2 h4);simp only [h5] at e1;rw [← e1,e2]
theorem DN (hw:WF ns) (bt:fr≤ns.length) (ho:bJ ns.length roots=true) {x:Nat} (U:qN ns fr (bK ns fr roots) x) :
   gg ns fr (bK ns fr roots) x < (b9 ns fr roots).length∧(ak (b9 ns fr roots) (gg ns fr (bK ns fr roots) x)).kind=(ak ns x).kind∧(ak (b9 ns fr roots) (gg ns fr (bK ns fr roots) x)).num=(ak ns x).num ∧
    (ind ns x=true→(ak (b9 ns fr roots) (gg ns fr (bK ns fr roots) x)).args=[(gg ns fr (bK ns fr roots) x:Int)]) ∧
    (ind ns x=false→(ak (b9 ns fr roots) (gg ns fr (bK ns fr roots) x)).args=if x < fr then kO ns fr (bK ns fr roots) x else (ak ns x).args.map (dD ns fr (bK ns fr roots))):=by
 obtain ⟨h1,h2,h3⟩:=U;rw [sr];by_cases ah:x < fr
 ·have e:gg ns fr (bK ns fr roots) x=x:=by simp [gg,ah]
  rw [e,V0 ah];refine ⟨by omega,rfl,rfl,fun hi=>by simp [nO,hi,h2],fun hi=>by simp [nO,hi,ah]⟩
 ·have hm:=h3.resolve_left ah;have hj:=List.idxOf_lt_length_iff.2 hm;have e:gg ns fr (bK ns fr roots) x=fr+(bK ns fr roots).idxOf x:=by simp [gg,ah]
  have ex:=List.getElem_idxOf hj;rw [e,ahS hj,ex];refine ⟨by omega,rfl,rfl,fun hi=>?_,fun hi=>by simp [nM,ah]⟩;obtain ⟨q,hq,ha,hn⟩:=qw hw h1 hi;have eo:over ns q=x:=by rw [← hn];exact (uZ (fu hw) h1).trans h2
  simp only [nM,ha,List.map_cons,List.map_nil,M8,Int.toNat_natCast,eo,e]
theorem DO (hw:WF ns) (bt:fr≤ns.length) (ho:bJ ns.length roots=true) {x:Nat} (U:qN ns fr (bK ns fr roots) x) :
   over (b9 ns fr roots) (gg ns fr (bK ns fr roots) x)=gg ns fr (bK ns fr roots) x:=by
 obtain ⟨h1,h2,h3,h4,h5⟩:=DN hw bt ho U;refine AB ?_;cases hi:ind ns x with
 | false=>exact oK (by rw [ind,h2];exact hi)
 | true=>
  have:ind (b9 ns fr roots) (gg ns fr (bK ns fr roots) x)=true:=by rw [ind,h2];exact hi
  simp [ay,this,h4 hi]
theorem ahU (hw:WF ns) (bt:fr≤ns.length) (ho:bJ ns.length roots=true):∀ k q,q < fr→fit (ay ns) k q=over ns q →
   qN ns fr (bK ns fr roots) (over ns q)∧over (b9 ns fr roots) q=gg ns fr (bK ns fr roots) (over ns q):=by
 obtain ⟨m1,m2,m3,m4⟩:=sq hw bt ho;have hf:=fu hw;have V1:∀ q,q < fr→over ns q=q→qN ns fr (bK ns fr roots) (over ns q)∧over (b9 ns fr roots) q=gg ns fr (bK ns fr roots) (over ns q):=by
  intro q hq he;have dh:qN ns fr (bK ns fr roots) q:=⟨by omega,he,.inl hq⟩;have h1:=DO hw bt ho dh;have e:gg ns fr (bK ns fr roots) q=q:=by simp [gg,hq]
  rw [e] at h1;rw [he,e];exact ⟨dh,h1⟩
 intro k
 induction k with
 | zero=>intro q hq he;exact V1 q hq he.symm
 | succ k ih=>
  intro q hq he;have nK:q < ns.length:=by omega
  by_cases M9:over ns q=q
  ·exact V1 q hq M9
  ·cases hi:ind ns q with
   | false=>exact absurd (AB (oK hi)) M9
   | true=>
    obtain ⟨a,ha,dL,hn⟩:=qw hw nK hi;have eo:over ns a=over ns q:=by rw [← hn];exact uZ hf nK
    have vQ:=V0 (ns:=ns) (roots:=roots) hq;have I9:¬ (ind ns q=true∧over ns q=q):=fun h=>M9 h.2
    have hkq:ind (b9 ns fr roots) q=true:=by rw [ind,vQ];exact hi
    have UM:q < (b9 ns fr roots).length:=by rw [sr];omega
    have ki:=uZ (fu (C6 hw bt ho)) UM;have ahV:(ak (b9 ns fr roots) q).args=kO ns fr (bK ns fr roots) q:=by rw [vQ,nO,if_neg I9]
    have hN:ay (b9 ns fr roots) q=((kO ns fr (bK ns fr roots) q).getD 0 0).toNat:=by simp [ay,hkq,ahV]
    by_cases hy:fL fr a=true
    ·have en:=m4 q hq a (by rw [dL];simp) hy;rw [Int.toNat_natCast] at en;have dh:qN ns fr (bK ns fr roots) (over ns a):=⟨qv hf ha,rP hf ha,en⟩;have e2:ay (b9 ns fr roots) q=gg ns fr (bK ns fr roots) (over ns a):=by
      rw [hN];simp [kO,dL,hy,M8]
     rw [e2] at ki;rw [← eo];refine ⟨dh,?_⟩;have:=DO hw bt ho dh;unfold over at this ⊢;rw [← ki];exact this
    ·have halt:a < fr:=by simp [fL] at hy;omega
     have e2:ay (b9 ns fr roots) q=a:=by
      rw [hN];simp [kO,dL,hy]
     rw [e2] at ki;have mD:fit (ay ns) k a=over ns a:=by
      rw [eo,← he,← hn];rfl
     have:=ih a halt mD;rw [eo] at this;refine ⟨this.1,?_⟩;rw [← this.2];exact ki.symm
theorem V2 (hw:WF ns) (bt:fr≤ns.length) (ho:bJ ns.length roots=true) {q:Nat} (hq:q < fr) :
   qN ns fr (bK ns fr roots) (over ns q)∧over (b9 ns fr roots) q=gg ns fr (bK ns fr roots) (over ns q):=by
 obtain ⟨k,_,hk⟩:=oJ (ay ns) ns.length q;exact ahU hw bt ho (k+ns.length) q hq hk.symm
theorem ahW (hw:WF ns) (bt:fr≤ns.length) (ho:bJ ns.length roots=true):Alike ns roots (b9 ns fr roots) (fm ns fr roots):=by
 obtain ⟨m1,m2,m3,m4⟩:=sq hw bt ho;have hf:=fu hw;have met:∀ a:Int,a.toNat < ns.length→(over ns a.toNat < fr∨over ns a.toNat∈bK ns fr roots)→qN ns fr (bK ns fr roots) (over ns a.toNat)∧over (b9 ns fr roots) (dD ns fr (bK ns fr roots) a).toNat=gg ns fr (bK ns fr roots) (over ns a.toNat):=by
  intro a ha hm;have dh:qN ns fr (bK ns fr roots) (over ns a.toNat):=⟨qv hf ha,rP hf ha,hm⟩;refine ⟨dh,?_⟩;rw [M8,Int.toNat_natCast];exact DO hw bt ho dh
 refine ⟨fun x y=>qN ns fr (bK ns fr roots) x∧y=gg ns fr (bK ns fr roots) x,⟨?_,?_,?_,?_,?_⟩,by simp [fm],?_⟩
 ·rintro x _ ⟨h1,rfl⟩;exact ⟨h1.1,(DN hw bt ho h1).1,h1.2.1,DO hw bt ho h1⟩
 ·rintro x _ _ ⟨_,rfl⟩ ⟨_,rfl⟩;rfl
 ·rintro x x' _ ⟨h1,rfl⟩ ⟨h2,h3⟩;exact ahT (ns:=ns) (fun z hz=>(m1.2 z hz).2.2) h1.2.2 h2.2.2 h3
 ·rintro x _ ⟨h1,rfl⟩;obtain ⟨h2,h3,h4,h5,h6⟩:=DN hw bt ho h1;refine ⟨h3.symm,h4.symm,?_⟩;cases hi:ind ns x with
  | true=>
   obtain ⟨q,_,hq,_⟩:=qw hw h1.1 hi;rw [h5 hi,hq];rfl
  | false=>
   rw [h6 hi]
   split<;>simp [kO]
 ·rintro x _ ⟨h1,rfl⟩ hi i a b ha hb;obtain ⟨h2,h3,h4,h5,h6⟩:=DN hw bt ho h1;rw [h6 hi] at hb;have en:=List.mem_of_getElem? ha;have oN:=DM (jh hw h1.1).2 en;have QO:=G3 (jh hw h1.1).2 en
  split at hb
  ·rename_i ah;simp only [kO,List.getElem?_map,ha,Option.map_some,Option.some.injEq] at hb;subst hb
   split
   ·rename_i hy;exact met a oN (m4 x ah a en hy)
   ·rename_i hy;have halt:a.toNat < fr:=by simp [fL] at hy;omega
    exact V2 hw bt ho halt
  ·rename_i ah;simp only [List.getElem?_map,ha,Option.map_some,Option.some.injEq] at hb;subst hb;exact met a oN (m2 x (h1.2.2.resolve_left ah) a en)
 ·intro i a b ha hb;simp only [fm,List.getElem?_map,ha,Option.map_some,Option.some.injEq] at hb;subst hb;have en:=List.mem_of_getElem? ha;exact met a (DM ho en) (m3 a en)
end
section
variable {ns ms:List Nd} {R:Nat→Nat→Prop}
def xQ (R:Nat→Nat→Prop) (out jL:List Nat):Prop:=out.length=jL.length∧∀ (i x y:Nat),out[i]? = some x→jL[i]? = some y→R x y
theorem ahX (h:xP ns ms R) {out jL:List Nat} (hs:xQ R out jL) {x y:Nat} (Aq:R x y):x∈out↔y∈jL:=by
 constructor
 ·intro U;obtain ⟨i,hi,rfl⟩:=List.getElem_of_mem U;have bO:i < jL.length:=by rw [← hs.1];exact hi
  have:=hs.2 i _ _ (List.getElem?_eq_getElem hi) (List.getElem?_eq_getElem bO);rw [h.fn _ _ _ Aq this];exact List.getElem_mem bO
 ·intro hy;obtain ⟨i,bO,rfl⟩:=List.getElem_of_mem hy;have hi:i < out.length:=by rw [hs.1];exact bO
  have:=hs.2 i _ _ (List.getElem?_eq_getElem hi) (List.getElem?_eq_getElem bO);rw [h.inj _ _ _ Aq this];exact List.getElem_mem hi
theorem ahY (h:xP ns ms R) {out jL:List Nat} (hs:xQ R out jL) {p q:Nat} (V3:R (over ns p) (over ms q)):xQ R (gj ns 0 out p) (gj ms 0 jL q):=by
 unfold gj;have:=ahX h hs V3;by_cases hm:over ns p∈out
 ·rw [if_pos (.inr hm),if_pos (.inr (this.1 hm))];exact hs
 ·rw [if_neg (by simp [hm]),if_neg (by have iB:over ms q∉jL:=fun hh=>hm (this.2 hh);simp [iB])];refine ⟨by simp [hs.1],fun i x y U hy=>?_⟩;rcases Nat.lt_or_ge i out.length with hi | hi
  ·rw [List.getElem?_append_left hi] at U;rw [List.getElem?_append_left (by rw [← hs.1];exact hi)] at hy;exact hs.2 i x y U hy
  ·have hl:=(List.getElem?_eq_some_iff.1 U).1;simp at hl;obtain rfl:i=out.length:=by omega
   simp at U;rw [hs.1] at hy;simp at hy;rw [← U,← hy];exact V3
theorem V4 (h:xP ns ms R):∀ (l k:List Int) {out jL:List Nat},xQ R out jL→l.length=k.length→(∀ (i:Nat) (a b:Int),l[i]? = some a→k[i]? = some b→R (over ns a.toNat) (over ms b.toNat))→xQ R (dm ns 0 out l) (dm ms 0 jL k):=by
 intro l
 induction l with
 | nil=>
  intro k out jL hs hl _;cases k with
  | nil=>exact hs
  | cons=>simp at hl
 | cons a l ih=>
  intro k out jL hs hl hr;cases k with
  | nil=>simp at hl
  | cons b k=>
   rw [C3,C3];exact ih k (ahY h hs (hr 0 a b rfl rfl)) (by simpa using hl) (fun i a' b' ha hb=>hr (i+1) a' b' (by simpa using ha) (by simpa using hb))
theorem V5 (hw:WF ns) {out:List Nat} {x:Nat} (U:x < ns.length) (ho:over ns x=x) (hi:ind ns x=true) (hm:x∈out):dm ns 0 out (ak ns x).args=out:=by
 obtain ⟨q,hq,ha,hn⟩:=qw hw U hi;have eo:over ns q=x:=by rw [← hn];exact (uZ (fu hw) U).trans ho
 rw [ha,C3];unfold gj;rw [Int.toNat_natCast,eo,if_pos (.inr hm)];rfl
theorem ahZ (hw:WF ns) (tC:WF ms) (h:xP ns ms R):∀ (f i:Nat) (out jL:List Nat),xQ R out jL→xQ R (gZ ns 0 f i out) (gZ ms 0 f i jL):=by
 intro f
 induction f with
 | zero=>intro i out jL hs;exact hs
 | succ f ih=>
  intro i out jL hs;rcases Nat.lt_or_ge i out.length with hi | hi
  ·have bO:i < jL.length:=by rw [← hs.1];exact hi
   rw [AW ns 0 f i out hi,AW ms 0 f i jL bO];refine ih _ _ _ ?_;have hr:=hs.2 i _ _ (List.getElem?_eq_getElem hi) (List.getElem?_eq_getElem bO);obtain ⟨d1,d2,d3,d4⟩:=h.DL _ _ hr;cases xe:ind ns out[i] with
   | true=>
    rw [V5 hw d1 d3 xe (List.getElem_mem hi),V5 tC d2 d4 (by rw [← VZ (h.nd _ _ hr).1];exact xe) (List.getElem_mem bO)];exact hs
   | false=>exact V4 h _ _ hs (h.nd _ _ hr).2.2 (fun j a b ha hb=>h.kids _ _ hr xe j a b ha hb)
  ·rw [xv ns 0 _ _ _ hi,xv ms 0 _ _ _ (by rw [← hs.1];exact hi)];exact hs
theorem V6 (hw:WF ns):∀ (f g i:Nat) (out:List Nat),jW ns 0 out→ns.length+1≤f+i→ns.length+1≤g+i→gZ ns 0 f i out=gZ ns 0 g i out:=by
 intro f
 induction f with
 | zero=>
  intro g i out hm hf hg;have:=xt hm;rw [xv ns 0 0 i out (by omega),xv ns 0 g i out (by omega)]
 | succ f ih=>
  intro g i out hm hf hg;rcases Nat.lt_or_ge i out.length with hi | hi
  ·cases g with
   | zero=>have:=xt hm;omega
   | succ g=>
    rw [AW ns 0 f i out hi,AW ns 0 g i out hi];exact ih g _ _ (qI hw _ hm (jh hw (hm.2 _ (List.getElem_mem hi)).1).2) (by omega) (by omega)
  ·rw [xv ns 0 _ _ _ hi,xv ns 0 _ _ _ hi]
theorem Na (ns:List Nd) (roots:List Int):bK ns 0 roots=gZ ns 0 (ns.length+1) 0 (dm ns 0 [] roots):=rfl
theorem ah0 (hw:WF ns) (tC:WF ms) {rs qs:List Int} (ho:bJ ns.length rs=true) (nx:bJ ms.length qs=true) (h:Alike ns rs ms qs):(bK ns 0 rs).length=(bK ms 0 qs).length:=by
 obtain ⟨R,h1,h2⟩:=h;have s0:xQ R (dm ns 0 [] rs) (dm ms 0 [] qs):=V4 h1 rs qs ⟨rfl,fun i x y U=>by simp at U⟩ h2.1 h2.2;have e1:=V6 hw (ns.length+1) (ns.length+ms.length+1) 0 _ (qI hw rs (yV ns 0) ho) (by omega) (by omega);have e2:=V6 tC (ms.length+1) (ns.length+ms.length+1) 0 _ (qI tC qs (yV ms 0) nx) (by omega) (by omega);rw [Na,Na,e1,e2];exact (ahZ hw tC h1 _ _ _ _ s0).1
end
theorem ah1 (ns:List Nd) (out:List Nat) (p:Nat):gj ns 0 out p=fQ ns out p:=by simp [gj,fQ]
theorem V7 (ns:List Nd):∀ (l:List Int) (out:List Nat),dm ns 0 out l=meets ns out l:=by
 intro l
 induction l with
 | nil=>intro out;rfl
 | cons a l ih=>intro out;rw [C3,ah1,ih];rfl
theorem ah2 (ns:List Nd):∀ f i out,gZ ns 0 f i out=reach ns f i out:=by
 intro f
 induction f with
 | zero=>intro i out;rfl
 | succ f ih=>
  intro i out;unfold gZ reach;cases out[i]? with
  | some x=>simp only [ih,V7]
  | none=>rfl
theorem qO (ns:List Nd) (roots:List Int):bK ns 0 roots=iX ns roots:=by rw [Na,ah2,V7];rfl
theorem ug (ns:List Nd) (O:List Nat):dD ns 0 O=num ns O:=by funext p;simp [dD,num]
theorem vU (ns:List Nd) (roots:List Int):jB ns roots=b9 ns 0 roots∧mM ns roots=fm ns 0 roots:=by
 unfold jB b9 mM fm;rw [qO,ug];refine ⟨?_,rfl⟩;simp only [List.range_zero,List.map_nil,List.nil_append];refine List.map_congr_left (fun x _=>?_);simp [FI,nM,ug]
end
section
open Go Go.W
theorem ah3 {f g:Nat→Nat} {n:Nat} (hf:∀ x,x < n→f x < n) (h:∀ x,x < n→g x=f x):∀ k x,x < n→fit g k x=fit f k x:=by
 intro k
 induction k with
 | zero=>intro x _;rfl
 | succ k ih=>intro x U;show fit g k (g x)=fit f k (f x);rw [h x U,ih _ (hf x U)]
theorem ah4 {f g:Nat→Nat} {n m:Nat} (hf:∀ x,x < n→f x < n) (hg:∀ x,x < m→g x < m) (G4:n≤m) (h:∀ x,x < n→g x=f x) {x:Nat} (U:x < n):ov g m x=ov f n x:=by
 have e:=fun k=>ah3 hf h k x U
 apply Nat.le_antisymm
 ·obtain ⟨d,h1,h2,h3⟩:=FF hf U n (Nat.le_refl _);obtain ⟨k,_,hk⟩:=oJ f n x;obtain ⟨d',q1,q2,q3⟩:=FF hf U (k+n) (by omega);have:∀ j,fit f (k+n+j*d') x=fit f (k+n) x:=by
   intro j
   induction j with
   | zero=>simp
   | succ j ih=>
    rw [show k+n+(j+1)*d'=d'+(k+n+j*d') by rw [Nat.succ_mul];omega,kh,ih];exact q3
  rw [hk,← this m,← e];refine CA hg (by omega) _ ?_;have:m*1≤m*d':=Nat.mul_le_mul_left _ q1;omega
 ·obtain ⟨k,_,hk⟩:=oJ g m x;rw [hk,e];exact CA hf U _ (by omega)
theorem V8 {ns:List Nd} {nd:Nd} {p:Nat} (hp:p < ns.length):ak (ns++[nd]) p=ak ns p:=by
 unfold ak;rw [List.getD_eq_getElem?_getD,List.getD_eq_getElem?_getD,List.getElem?_append_left hp]
theorem G5 (ns:List Nd) (nd:Nd):ak (ns++[nd]) ns.length=nd:=by
 unfold ak;rw [List.getD_eq_getElem?_getD];simp
theorem V9 {ns:List Nd} {nd:Nd} {p:Nat} (hp:p < ns.length):ay (ns++[nd]) p=ay ns p∧ind (ns++[nd]) p=ind ns p:=by
 unfold ay ind;rw [V8 hp];exact ⟨rfl,rfl⟩
theorem Nb {ns:List Nd} (hw:WF ns) {nd:Nd} (hm:nd.may=true) (ho:bJ ns.length nd.args=true):WF (ns++[nd]):=by
 have le:∀ {l:List Int},bJ ns.length l=true→bJ (ns++[nd]).length l=true:=by
  intro l h;rw [bJ,List.all_eq_true] at h ⊢;intro x U;have:=h x U;simp only [Bool.and_eq_true,decide_eq_true_eq,List.length_append,List.length_cons,List.length_nil] at this ⊢;omega
 intro x U;rcases List.mem_append.1 U with U | U
 ·exact ⟨(hw x U).1,le (hw x U).2⟩
 ·simp only [List.mem_cons,List.not_mem_nil,or_false] at U;subst U;exact ⟨hm,le ho⟩
theorem V' {ns:List Nd} (hw:WF ns) {nd:Nd} (hm:nd.may=true) (ho:bJ ns.length nd.args=true) {p:Nat} (hp:p < ns.length):over (ns++[nd]) p=over ns p:=
 ah4 (fu hw) (fu (Nb hw hm ho)) (by simp) (fun x U=>(V9 U).1) hp
theorem ah5 {ns:List Nd} (hw:WF ns) {nd:Nd} (hm:nd.may=true) (ho:bJ ns.length nd.args=true):(nd.kind=5→∃ a,nd.args=[a]∧a.toNat < ns.length∧over (ns++[nd]) ns.length=over ns a.toNat)∧(nd.kind≠5→over (ns++[nd]) ns.length=ns.length):=by
 have tC:=Nb hw hm ho;have hl:ns.length < (ns++[nd]).length:=by simp
 refine ⟨fun hk=>?_,fun hk=>?_⟩
 ·have hi:ind (ns++[nd]) ns.length=true:=by simp [ind,G5,hk]
  obtain ⟨q,h1,h2,h3⟩:=qw tC hl hi;rw [G5] at h2;have hq:(q:Int).toNat < ns.length:=DM ho (by rw [h2];simp);refine ⟨q,h2,hq,?_⟩;have:=uZ (fu tC) hl;rw [h3] at this;rw [Int.toNat_natCast] at hq ⊢;rw [← V' hw hm ho hq];exact this.symm
 ·have hi:ind (ns++[nd]) ns.length=false:=by simp [ind,G5,hk]
  exact AB (oK hi)
theorem DP {ns:List Nd} {p:Nat} {nd:Nd} (hp:p < ns.length) {x:Nat} (U:x≠p):ay (ns.set p nd) x=ay ns x∧ind (ns.set p nd) x=ind ns x:=by
 unfold ay ind;rw [tY _ _ _ _ hp,if_neg U];exact ⟨rfl,rfl⟩
theorem ah6 {ns:List Nd} {p:Nat} {nd:Nd} (hp:p < ns.length) (hi:ind ns p=false) (hk:nd.kind≠5) (x:Nat):over (ns.set p nd) x=over ns x:=by
 have:ay (ns.set p nd)=ay ns:=by
  funext y
  by_cases hy:y=p
  ·subst hy;rw [oK hi];exact oK (by rw [ind,tY _ _ _ _ hp,if_pos rfl];simp [hk])
  ·exact (DP hp hy).1
 unfold over;rw [this,List.length_set]
end
section
open Go Go.W
def xR (T:bH) (nd:Nd):Prop:=(nd.kind=4→nd.num < T.globals.length)∧(nd.kind=2→nd.num < T.au.length)
structure dv (T:bH) (s:St):Prop where
 st:s.Ok
 ends:Ends s.ns
 Nc:∀ nd∈s.ns,xR T nd
def St.In (s:St) (a:Int):Prop:=0≤a∧a < s.ns.length
section
variable {T:bH} {s:St}
theorem dv.at (h:dv T s) {p:Nat} (hp:p < s.ns.length):(ak s.ns p).may=true∧(∀ a∈(ak s.ns p).args,s.In a)∧xR T (ak s.ns p):=by
 refine ⟨(jh h.st.wf hp).1,fun a ha=>G3 (jh h.st.wf hp).2 ha,h.Nc _ ?_⟩;unfold ak;rw [List.getD_eq_getElem?_getD,List.getElem?_eq_getElem hp];exact List.getElem_mem hp
theorem dv.ov (h:dv T s) {a:Int} (ha:s.In a):s.ov a < s.ns.length:=MN h.st ha
theorem dv.uh (h:dv T s) {a:Int} (ha:s.In a):s.In (s.ov a:Int):=⟨by omega,by have:=h.ov ha;omega⟩
theorem dv.Nf (h:dv T s) {a:Int} (ha:s.In a):over s.ns (s.ov a)=s.ov a:=rP (fu h.st.wf) (by have:=ha.1;have:=ha.2;omega)
theorem dv.nd (h:dv T s) {a:Int} (ha:s.In a):(s.nd a).may=true∧(∀ b∈(s.nd a).args,s.In b)∧xR T (s.nd a):=h.at (h.ov ha)
theorem dv.stop (h:dv T s) {a:Int} (ha:s.In a):ay s.ns (s.ov a)=s.ov a:=h.ends _ (by have:=ha.1;have:=ha.2;omega)
theorem uj {nd:Nd} (h:nd.may=true):(nd.kind=1→nd.args=[] ∧ -4611686018427387904≤nd.num∧nd.num≤4611686018427387903)∧(nd.kind=2→nd.args.length≤8∧0≤nd.num)∧(nd.kind=3→nd.args.length=2)∧(nd.kind=4→nd.args=[]∧0≤nd.num)∧(nd.kind=8→nd.args=[]∧0≤nd.num)∧1≤nd.kind∧nd.kind≤8:=by
 simp only [Nd.may,gU,decide_eq_true_eq] at h;have e:∀ l:List Int,l.length=0→l=[]:=fun l hl=>List.eq_nil_of_length_eq_zero hl
 refine ⟨fun hk=>⟨e _ (by omega),by omega,by omega⟩,fun hk=>⟨by omega,by omega⟩,fun hk=>by omega,fun hk=>⟨e _ (by omega),by omega⟩,fun hk=>⟨e _ (by omega),by omega⟩,by omega,by omega⟩
theorem In.add {a:Int} (h:s.In a) (nd:Nd):(s.add nd).In a:=⟨h.1,by have:=h.2;simp only [St.add,List.length_append,List.length_cons,List.length_nil];omega⟩
theorem In.new (s:St) (nd:Nd):(s.add nd).In s.ns.length:=⟨by omega,by simp only [St.add,List.length_append,List.length_cons,List.length_nil];omega⟩
theorem nY {n:Nat} {l:List Int} (h:∀ a∈l,0≤a∧a < n):bJ n l=true:=by
 rw [bJ,List.all_eq_true];intro a ha;have:=h a ha;simp [this.1,this.2]
theorem dv.add (h:dv T s) {nd:Nd} (hm:nd.may=true) (hk:nd.kind≠5) (ha:∀ a∈nd.args,s.In a) (hn:xR T nd) (hr:(s.ns.length:Int) < s.size):dv T (s.add nd):=by
 have bE:=nY ha;have hw:=h.st.wf;refine ⟨⟨Nb hw hm bE,?_,h.st.lo,h.st.hi,?_⟩,?_,?_⟩
 ·simp only [St.add,List.length_append,List.length_cons,List.length_nil];omega
 ·have:=h.st.kd;show s.kd.ok (s.ns++[nd]).length;unfold Kd.ok at this ⊢
  split
  ·rename_i y o t e;rw [e] at this;simp only [List.length_append,List.length_cons,List.length_nil];exact ⟨by omega,this.2⟩
  ·trivial
 ·intro p hp;simp only [St.add,List.length_append,List.length_cons,List.length_nil] at hp ⊢;by_cases Ng:p < s.ns.length
  ·rw [V' hw hm bE Ng,(V9 (p:=over s.ns p) (qv (fu hw) Ng)).1];exact h.ends p Ng
  ·obtain rfl:p=s.ns.length:=by omega
   rw [(ah5 hw hm bE).2 hk];refine oK ?_;rw [ind,G5];simp [hk]
 ·intro x U;rcases List.mem_append.1 U with U | U
  ·exact h.Nc x U
  ·obtain rfl:=List.mem_singleton.1 U;exact hn
theorem In.set {a:Int} (h:s.In a) (p:Nat) (nd:Nd):(s.set p nd).In a:=⟨h.1,by have:=h.2;simp only [St.set,List.length_set];omega⟩
theorem Wa (h:dv T s) {p:Nat} {nd:Nd} (hm:nd.may=true) (ha:∀ a∈nd.args,s.In a):(s.set p nd).Ok:=by
 refine ⟨?_,?_,h.st.lo,h.st.hi,?_⟩
 ·intro x U;have e:(s.set p nd).ns.length=s.ns.length:=by simp [St.set]
  rw [e];rcases List.mem_or_eq_of_mem_set U with U | rfl
  ·exact h.st.wf x U
  ·exact ⟨hm,nY ha⟩
 ·simp only [St.set,List.length_set];exact h.st.len
 ·have:=h.st.kd;show s.kd.ok (s.ns.set p nd).length;rw [List.length_set];exact this
theorem Wb (h:dv T s) {p:Nat} {nd:Nd} (hn:xR T nd):∀ x∈(s.set p nd).ns,xR T x:=by
 intro x U;rcases List.mem_or_eq_of_mem_set U with U | rfl
 ·exact h.Nc x U
 ·exact hn
theorem dv.set (h:dv T s) {p:Nat} {nd:Nd} (hp:p < s.ns.length) (hi:(ak s.ns p).kind≠5) (hm:nd.may=true) (hk:nd.kind≠5) (ha:∀ a∈nd.args,s.In a) (hn:xR T nd):dv T (s.set p nd):=by
 have bO:ind s.ns p=false:=by simp [ind,hi]
 refine ⟨Wa h hm ha,?_,Wb h hn⟩;intro q hq;simp only [St.set,List.length_set] at hq ⊢;rw [ah6 hp bO hk];by_cases Gp:over s.ns q=p
 ·rw [Gp];exact oK (by rw [ind,tY _ _ _ _ hp,if_pos rfl];simp [hk])
 ·rw [(DP hp Gp).1];exact h.ends q hq
theorem ah7 {ns:List Nd} (hw:WF ns) (he:Ends ns) {p t:Nat} (hp:p < ns.length) (ht:t < ns.length) (Wc:over ns p=p) (Nh:over ns t=t) :
   ∀ x,x < ns.length→over (ns.set p ⟨5,0,[(t:Int)]⟩) x=if over ns x=p then t else over ns x:=by
 have hf:=fu hw;have gp:ay (ns.set p ⟨5,0,[(t:Int)]⟩) p=t:=by simp [ay,ind,tY _ _ _ _ hp]
 have go:∀ x,x≠p→ay (ns.set p ⟨5,0,[(t:Int)]⟩) x=ay ns x:=fun x U=>(DP hp U).1
 have fp:ay ns p=p:=by have:=he p hp;rwa [Wc] at this
 have ft:ay ns t=t:=by have:=he t ht;rwa [Nh] at this
 have gt:ay (ns.set p ⟨5,0,[(t:Int)]⟩) t=t:=by
  by_cases h:t=p
  ·exact h ▸ gp
  ·rw [go t h,ft]
 have hg:∀ x,x < ns.length→ay (ns.set p ⟨5,0,[(t:Int)]⟩) x < ns.length:=by
  intro x U;by_cases h:x=p
  ·rw [h,gp];exact ht
  ·rw [go x h];exact hf x U
 intro x U;have way:∀ k x,x < ns.length→fit (ay ns) k x=over ns x→∃ j,fit (ay (ns.set p ⟨5,0,[(t:Int)]⟩)) j x=if over ns x=p then t else over ns x:=by
  intro k
  induction k with
  | zero=>
   intro x _ hk;have hk:x=over ns x:=hk;by_cases h:over ns x=p
   ·refine ⟨1,?_⟩;rw [if_pos h];show ay _ x=t;rw [hk,h,gp]
   ·exact ⟨0,by rw [if_neg h];exact hk⟩
  | succ k ih=>
   intro x U hk;by_cases h:x=p
   ·subst h;refine ⟨1,?_⟩;rw [if_pos Wc];exact gp
   ·have e:over ns (ay ns x)=over ns x:=uZ hf U;obtain ⟨j,hj⟩:=ih (ay ns x) (hf x U) (by rw [e];exact hk);refine ⟨j+1,?_⟩;show fit _ j (ay _ x)=_;rw [go x h,hj,e]
 obtain ⟨K,hK⟩:=Vr hw he U;obtain ⟨j,hj⟩:=way K x U (hK K (Nat.le_refl _));have e1:=wV (f:=ay (ns.set p ⟨5,0,[(t:Int)]⟩)) hg U j;have e2:ay (ns.set p ⟨5,0,[(t:Int)]⟩) (if over ns x=p then t else over ns x)=if over ns x=p then t else over ns x:=by
  split
  ·exact gt
  ·rename_i h;rw [go _ h,he x U]
 unfold over;unfold over at hj e2;rw [List.length_set,← e1,hj];exact AB e2
theorem dv.upd (h:dv T s) {a b:Int} (ha:s.In a) (hb:s.In b):dv T (s.set (s.ov a) ⟨5,0,[(s.ov b:Int)]⟩):=by
 refine ⟨Wa h rfl (by intro x U;simp only [List.mem_singleton] at U;subst U;exact h.uh hb),?_,Wb h ⟨(fun e=>by cases e),(fun e=>by cases e)⟩⟩;intro q hq;simp only [St.set,List.length_set] at hq ⊢;have hu:=ah7 h.st.wf h.ends (h.ov ha) (h.ov hb) (h.Nf ha) (h.Nf hb);rw [hu q hq]
 split
 ·by_cases e:s.ov b=s.ov a
  ·rw [e];simp [ay,ind,tY _ _ _ _ (h.ov ha)]
  ·rw [(DP (h.ov ha) e).1];exact h.stop hb
 ·rename_i e;rw [(DP (h.ov ha) e).1];exact h.ends q hq
theorem ah8 {ns:List Nd} (hw:WF ns) {fr:Nat} (bt:fr≤ns.length) {roots:List Int} (ho:bJ ns.length roots=true):∀ nd∈b9 ns fr roots,∃ x,x < ns.length∧nd.kind=(ak ns x).kind∧nd.num=(ak ns x).num∧nd.args.length=(ak ns x).args.length:=by
 intro nd bQ;have A1:=(sq hw bt ho).1;rcases List.mem_append.1 bQ with h | h
 ·obtain ⟨p,hp,rfl⟩:=List.mem_map.1 h;have hp:p < fr:=List.mem_range.1 hp;refine ⟨p,by omega,rfl,rfl,?_⟩;simp only [nO]
  split
  ·rename_i hh;obtain ⟨q,_,h1,_⟩:=qw hw (by omega:p < ns.length) hh.1;rw [h1];simp
  ·simp [kO]
 ·obtain ⟨x,U,rfl⟩:=List.mem_map.1 h;exact ⟨x,(A1.2 x U).1,rfl,rfl,by simp [nM]⟩
theorem ah9 {ns:List Nd} (hw:WF ns) {fr:Nat} (bt:fr≤ns.length) {roots:List Int} (ho:bJ ns.length roots=true):Ends (b9 ns fr roots):=by
 have key:∀ x,qN ns fr (bK ns fr roots) x→ay (b9 ns fr roots) (gg ns fr (bK ns fr roots) x)=gg ns fr (bK ns fr roots) x:=by
  intro x U;obtain ⟨h1,h2,h3,h4,h5⟩:=DN hw bt ho U;cases hi:ind ns x with
  | true=>
   have:ind (b9 ns fr roots) (gg ns fr (bK ns fr roots) x)=true:=by simp only [ind,h2];exact hi
   simp [ay,this,h4 hi]
  | false=>
   exact oK (by simp only [ind,h2];exact hi)
 intro p hp;by_cases wZ:p < fr
 ·obtain ⟨h1,h2⟩:=V2 hw bt ho wZ;rw [h2];exact key _ h1
 ·rw [sr] at hp;have hj:p - fr < (bK ns fr roots).length:=by omega
  have A1:=(sq hw bt ho).1;have hm:=List.getElem_mem hj;have U:=A1.2 _ hm;have dh:qN ns fr (bK ns fr roots) (bK ns fr roots)[p - fr]:=⟨U.1,U.2.1,.inr hm⟩;have e:gg ns fr (bK ns fr roots) (bK ns fr roots)[p - fr]=p:=by
   unfold gg;rw [if_neg (by have:=U.2.2;omega),Sf A1.1 (List.getElem?_eq_getElem hj)];omega
  have h2:=DO hw bt ho dh;rw [e] at h2;rw [h2,← e];exact key _ dh
theorem dv.small (h:dv T s) {fr:Nat} (bt:fr≤s.ns.length) {roots:List Int} (ho:∀ a∈roots,s.In a) {kd:Kd} (hk:kd.ok (b9 s.ns fr roots).length) :
   dv T ⟨kd,s.size,b9 s.ns fr roots⟩∧∀ a∈roots,St.In ⟨kd,s.size,b9 s.ns fr roots⟩ (dD s.ns fr (bK s.ns fr roots) a):=by
 have bE:=nY ho;have hw:=h.st.wf;refine ⟨⟨⟨C6 hw bt bE,?_,h.st.lo,h.st.hi,hk⟩,ah9 hw bt bE,?_⟩,?_⟩
 ·have:=K4 hw bt bE;have:=h.st.len;show ((b9 s.ns fr roots).length:Int)≤s.size;omega
 ·intro nd bQ;obtain ⟨x,U,e1,e2,e3⟩:=ah8 hw bt bE nd bQ;have:=(h.at U).2.2;exact ⟨fun hk=>by rw [e2];exact this.1 (by rw [← e1];exact hk),fun hk=>by rw [e2];exact this.2 (by rw [← e1];exact hk)⟩
 ·intro a ha;exact G3 (TZ hw bt bE) (List.mem_map.2 ⟨a,ha,rfl⟩)
end
end
section
open Go Go.W
def bh (T:bH) (x:Ins) (d:Int):Bool×Int:=
 if x.op=1 then (decide (x.a < d),d+1)
 else if x.op=2∨x.op=3 then (true,d+1)
 else if x.op=4 then (decide (x.a < d),d - x.a)
 else if x.op=5 then (decide (x.a < d - 1),d - x.a)
 else if x.op=6∨x.op=12 then (decide (d > 2),d - 1)
 else if x.op=7 then (decide (x.a < d),d - 1)
 else if x.op=8 then (decide (x.a≤8000),d+min x.a 8000)
 else if x.op=9 then (decide ((T.sh x.a).fields < d),d - (T.sh x.a).fields+1)
 else if x.op=10 then (decide (d > 1),d - 1+(T.sh x.a).fields)
 else if x.op=11∨x.op=14∨x.op=15 then (decide (d > 1),d)
 else if x.op=17 then (decide (d=1),d)
 else (true,d)
def isNum (n:Int):Prop := -4611686018427387904≤n∧n≤4611686018427387903
theorem G6 {n:Int} (h:isNum n):(⟨1,n,[]⟩:Nd).may=true:=by
 unfold isNum at h;simp [Nd.may,gU];omega
structure zn (T:bH) (len:Nat) (i:Nat) (x:Ins):Prop where
 o1:1≤x.op
 o2:x.op≤17
 c1:(x.op=1∨x.op=4∨x.op=5∨x.op=8)→0≤x.a
 c2:x.op=2→0≤x.a∧x.a < T.globals.length
 c3:x.op=3→isNum x.a
 c7:x.op=7→1≤x.a
 c9:(x.op=9∨x.op=10∨x.op=14)→0≤x.a∧x.a < T.au.length
 c12:x.op=12→1≤x.a∧x.a≤11
 Ni:x.op=13→(i:Int) < x.a∧x.a < len
 Bg:(x.op=14∨x.op=15)→(i:Int) < x.b∧x.b < len
 c15:x.op=15→isNum x.a
 AP:x.op=16→1≤x.a∧x.a≤4
def iM (x:Ins):Prop:=x.op≠13∧x.op≠16∧x.op≠17
structure Nj (T:bH) (g:Gl) (D:List Int) (i:Nat) (x:Ins):Prop where
 G7:zn T g.code.length i x
 nz:D.getD i 0≠0
 ok:(bh T x (D.getD i 0)).1=true
 le:(bh T x (D.getD i 0)).2≤8000
 next:iM x→i+1 < g.code.length∧D.getD (i+1) 0=(bh T x (D.getD i 0)).2
 jump:x.op=13→D.getD x.a.toNat 0=(bh T x (D.getD i 0)).2
 test:x.op=14∨x.op=15→D.getD x.b.toNat 0=(bh T x (D.getD i 0)).2
structure Wd (T:bH) (g:Gl) (D:List Int):Prop where
 pos:0 < g.code.length
 start:D.getD 0 0=g.arity+1
 each:∀ (i:Nat) (x:Ins),g.code[i]? = some x→Nj T g D i x
def iN (D:List Int) (at' d:Int):List Int:=if D.getD at'.toNat 0=0 then D.set at'.toNat d else D
def fe (x:Ins):Int:=if x.op=13 then x.a else if x.op=14∨x.op=15 then x.b else 0
def jM (T:bH) (D:List Int) (i:Nat) (x:Ins):List Int:=
 let b:=(bh T x (D.getD i 0)).2
 let D1:=if x.op≠13∧x.op≠16∧x.op≠17 then iN D ((i:Int)+1) b else D
 if fe x > 0 then iN D1 (fe x) b else D1
def nZ (T:bH):Nat→List Ins→List Int→List Int
 | _,[],D=>D
 | i,x::l,D=>nZ T (i+1) l (jM T D i x)
def vV (T:bH) (g:Gl):List Int:=nZ T 0 g.code ((List.replicate g.code.length 0).set 0 (g.arity+1))
structure G8 (T:bH):Prop where
 kS:∀ g∈T.globals,Wd T g (vV T g)∧0≤g.arity∧g.arity≤24∧g.code.length≤8000
 shs:∀ s∈T.au,0≤s.fields∧s.fields≤8
 gn:T.globals.length≤2000
 sn:7≤T.au.length∧T.au.length≤2000
 nil:(T.sh 3).fields=0
 cons:(T.sh 4).fields=2
 fal:(T.sh 0).fields=0
 tru:(T.sh 1).fields=0
structure zo (T:bH) (f:Fr):Prop where
 gl:0≤f.jb∧f.jb < T.globals.length
 at':0≤f.at'∧f.at' < (T.gl f.jb).code.length
 dep:(vV T (T.gl f.jb)).getD f.at'.toNat 0=f.stack.length
structure qP (s:St) (n:Int) (f:Fr):Prop where
 sp:∀ a∈f.spine,s.In a
 sk:∀ a∈f.stack,s.In a
 sd:s.In f.bC
 xS:(f.spine.length:Int)≤n
 oa:f.stack.length≤8000
structure bB (n:Int) (M:Mc):Prop where
 aZ:G8 M.aZ
 g:dv M.aZ M.st
 kS:∀ a∈M.globals,M.st.In a
 mh:M.globals.length=M.aZ.globals.length
 mZ:∀ a∈M.wait,M.st.In a
 pW:M.ended=0→0 < M.wait.length
 jJ:∀ f∈M.aE,qP M.st n f
 run:M.ended=0→∀ f∈M.aE,f.runs=true→zo M.aZ f
 base:0≤M.base∧M.base≤1048576
 bp:0≤M.bp∧M.bp≤1048576
 jo:∀ a∈M.input,isNum a
 ln:0≤n
 lf:(M.aE.length:Int)≤n
 lw:(M.wait.length:Int)≤8*n+1
 lt:(M.told.length:Int)≤n
 sH:M.ended≠5
section
variable {n:Int} {M:Mc}
theorem bB.roots (h:bB n M):∀ a∈M.roots,M.st.In a:=by
 intro a ha;unfold Mc.roots at ha;rcases List.mem_append.1 ha with ha | ha
 ·rcases List.mem_append.1 ha with ha | ha
  ·exact h.kS a ha
  ·obtain ⟨f,hf,ha⟩:=List.mem_flatMap.1 ha;have:=h.jJ f hf;rcases List.mem_append.1 ha with ha | ha
   ·rcases List.mem_append.1 ha with ha | ha
    ·exact this.sp a ha
    ·exact this.sk a ha
   ·obtain rfl:=List.mem_singleton.1 ha;exact this.sd
 ·exact h.mZ a ha
theorem Nk (hp:0 < M.aE.length):M.aa∈M.aE:=by
 have:=Dv hp;exact List.mem_of_getElem? this
theorem bB.pX (h:bB n M) (hp:0 < M.aE.length):qP M.st n M.aa:=h.jJ _ (Nk hp)
theorem qP.az {s s':St} {n n':Int} {f:Fr} (h:qP s n f) (hs:∀ a,s.In a→s'.In a) (hn:n≤n'):qP s' n' f:=
 ⟨fun a ha=>hs a (h.sp a ha),fun a ha=>hs a (h.sk a ha),hs _ h.sd,by have:=h.xS;omega,h.oa⟩
theorem bB.pY (h:bB n M) {s':St} {f':Fr} (hg:dv M.aZ s') (hs:∀ a,M.st.In a→s'.In a) (hf:qP s' (n+1) f') (hr:M.ended=0→f'.runs=true→zo M.aZ f'):bB (n+1) { M.bU f' with st:=s'}:=by
 have key:∀ f∈M.aE.set (M.aE.length - 1) f',f∈M.aE∨f=f':=fun f hf=>List.mem_or_eq_of_mem_set hf
 refine ⟨h.aZ,hg,fun a ha=>hs a (h.kS a ha),h.mh,fun a ha=>hs a (h.mZ a ha),h.pW,?_,?_,h.base,h.bp,h.jo,by have:=h.ln;omega,?_,by have:=h.lw;show (M.wait.length:Int)≤_;omega,by have:=h.lt;show (M.told.length:Int)≤_;omega,h.sH⟩
 ·intro f iD;rcases key f iD with h1 | rfl
  ·exact (h.jJ f h1).az hs (by omega)
  ·exact hf
 ·intro he f iD G9;rcases key f iD with h1 | rfl
  ·exact h.run he f h1 G9
  ·exact hr he G9
 ·have:=h.lf;show ((M.aE.set (M.aE.length - 1) f').length:Int)≤_;rw [List.length_set];omega
theorem bB.more (h:bB n M) {n':Int} (hn:n≤n'):bB n' M:=
 ⟨h.aZ,h.g,h.kS,h.mh,h.mZ,h.pW,fun f hf=>(h.jJ f hf).az (fun _ h=>h) hn,h.run,h.base,h.bp,h.jo,by have:=h.ln;omega,by have:=h.lf;omega,by have:=h.lw;omega,by have:=h.lt;omega,h.sH⟩
theorem bB.fail (h:bB n M) (gY:Int):bB n (M.fail gY):=
 ⟨h.aZ,h.g,h.kS,h.mh,h.mZ,(fun e=>by cases e),h.jJ,(fun e=>by cases e),h.base,h.bp,h.jo,h.ln,h.lf,h.lw,h.lt,by show (3:Int)≠5;decide⟩
theorem bB.qK (h:bB n M):bB n M.qK:=by
 have key:∀ f∈M.qK.aE,f∈M.aE:=fun f hf=>List.mem_of_mem_take hf
 refine ⟨h.aZ,h.g,h.kS,h.mh,h.mZ,h.pW,fun f hf=>h.jJ f (key f hf),fun he f hf=>h.run he f (key f hf),h.base,h.bp,h.jo,h.ln,?_,h.lw,h.lt,h.sH⟩;have:=h.lf;simp only [Mc.qK,List.length_take];omega
theorem We {s:St} {n p:Int} (hp:s.In p) (hn:0≤n):qP s n (zc p):=⟨fun a ha=>(by cases ha),fun a ha=>(by cases ha),hp,by simpa [zc] using hn,by simp [zc]⟩
theorem bB.enter (h:bB n M) {p:Int} (hp:M.st.In p):bB (n+1) (M.enter p):=by
 have hl:=h.ln;refine ⟨h.aZ,h.g,h.kS,h.mh,h.mZ,h.pW,?_,?_,h.base,h.bp,h.jo,by omega,?_,by have:=h.lw;show (M.wait.length:Int)≤_;omega,by have:=h.lt;show (M.told.length:Int)≤_;omega,h.sH⟩
 ·intro f hf;rcases List.mem_append.1 hf with hf | hf
  ·exact (h.jJ f hf).az (fun _ h=>h) (by omega)
  ·obtain rfl:=List.mem_singleton.1 hf;exact We hp (by omega)
 ·intro he f hf hr;rcases List.mem_append.1 hf with hf | hf
  ·exact h.run he f hf hr
  ·obtain rfl:=List.mem_singleton.1 hf;cases hr
 ·have:=h.lf;simp only [Mc.enter,List.length_append,List.length_cons,List.length_nil];omega
theorem Wf (M:Mc):M.eZ id=M:=by
 have e:(Fr.eZ id)=(id:Fr→Fr):=by
  funext f;cases f;simp [Fr.eZ]
 simp only [Mc.eZ,e,List.map_id_fun,id]
theorem ah' (M:Mc) (k:Int):(M.room k).1=true→∃ g s b,(M.room k).2 = { M.eZ g with st:=s,base:=b}:=by
 intro h;unfold Mc.room at h ⊢
 split at h
 ·rename_i hq;rw [if_pos hq];exact ⟨id,M.st,M.base,by rw [Wf]⟩
 ·rename_i hq;rw [if_neg hq]
  split at h
  ·cases h
  ·exact ⟨_,_,_,rfl⟩
theorem bB.mapped (h:bB n M) {g:Int→Int} {s:St} {b:Int} (hg:dv M.aZ s) (hs:∀ a∈M.roots,s.In (g a)) (hb:0≤b∧b≤1048576):bB n { M.eZ g with st:=s,base:=b}:=by
 have aia:∀ a∈M.globals,a∈M.roots:=fun a ha=>by simp [Mc.roots,ha]
 have aib:∀ a∈M.wait,a∈M.roots:=fun a ha=>by simp [Mc.roots,ha]
 have Nl:∀ f∈M.aE,∀ a∈f.roots,a∈M.roots:=fun f hf a ha=>by
  unfold Mc.roots;exact List.mem_append_left _ (List.mem_append_right _ (List.mem_flatMap.2 ⟨f,hf,ha⟩))
 refine ⟨h.aZ,hg,?_,?_,?_,?_,?_,?_,hb,h.bp,h.jo,h.ln,?_,?_,h.lt,h.sH⟩
 ·intro a ha;obtain ⟨c,hc,rfl⟩:=List.mem_map.1 ha;exact hs c (aia c hc)
 ·show (M.globals.map g).length=_;rw [List.length_map];exact h.mh
 ·intro a ha;obtain ⟨c,hc,rfl⟩:=List.mem_map.1 ha;exact hs c (aib c hc)
 ·intro he;show 0 < (M.wait.map g).length;rw [List.length_map];exact h.pW he
 ·intro f hf;obtain ⟨f0,Bh,rfl⟩:=List.mem_map.1 hf;have hk:=h.jJ f0 Bh;refine ⟨?_,?_,hs _ (Nl f0 Bh _ (by simp [Fr.roots])),by simpa [Fr.eZ] using hk.xS,by simpa [Fr.eZ] using hk.oa⟩
  ·intro a ha;obtain ⟨c,hc,rfl⟩:=List.mem_map.1 ha;exact hs c (Nl f0 Bh c (by simp [Fr.roots,hc]))
  ·intro a ha;obtain ⟨c,hc,rfl⟩:=List.mem_map.1 ha;exact hs c (Nl f0 Bh c (by simp [Fr.roots,hc]))
 ·intro he f hf hr;obtain ⟨f0,Bh,rfl⟩:=List.mem_map.1 hf;have hk:=h.run he f0 Bh hr;exact ⟨hk.gl,hk.at',by have:=hk.dep;simp only [Fr.eZ,List.length_map];exact this⟩
 ·show ((M.aE.map (Fr.eZ g)).length:Int)≤n;rw [List.length_map];exact h.lf
 ·show ((M.wait.map g).length:Int)≤_;rw [List.length_map];exact h.lw
theorem dv.Cs {T:bH} {s:St} (h:dv T s) {roots:List Int} (hr:∀ a∈roots,s.In a):dv T (mU s roots).2∧(∀ a∈roots,(mU s roots).2.In (ub s roots a)):=by
 obtain ⟨kd,sz,ns⟩:=s;cases kd with
 | hp t=>
  have:=h.small (s:=⟨.hp t,sz,ns⟩) (fr:=0) (Nat.zero_le _) (roots:=roots) hr (kd:=.hp (IntKind.i64.wrap (t+1))) trivial;simp only [mU,ub,(vU ns roots).1,← qO,← ug];exact this
 | gn y o t=>
  have hk:=h.st.kd;exact h.small (s:=⟨.gn y o t,sz,ns⟩) (fr:=0) (Nat.zero_le _) (roots:=roots) hr (kd:=.gn y (b9 ns 0 roots).length (IntKind.i64.wrap (t+1))) ⟨Nat.le_refl _,hk.2⟩
 | ref=>
  have:=h.small (s:=⟨.ref,sz,ns⟩) (fr:=0) (Nat.zero_le _) (roots:=roots) hr (kd:=.ref) trivial;simp only [mU,ub,(vU ns roots).1,← qO,← ug];exact this
theorem Wg {T:bH} {s:St} (h:dv T s) {roots:List Int} (hr:∀ a∈roots,s.In a) {k:Int} (hk:0≤k) {l:List Int} (hl:(ei s k roots).1=some l) :
   dv T (ei s k roots).2∧(∀ a∈roots,(ei s k roots).2.In (nQ s k roots a))∧((ei s k roots).2.ns.length:Int)+k≤s.size:=by
 have bE:bJ s.ns.length roots=true:=nY hr;obtain ⟨kd,sz,ns⟩:=s;cases kd with
 | hp t=>
  simp only [ei,nQ,jl] at hl ⊢;simp only at bE;rw [if_neg (by omega),if_neg (by simp [bE])] at hl ⊢
  split at hl
  ·rename_i hh;simp only [if_pos hh];exact ⟨h,fun a ha=>hr a ha,by omega⟩
  ·rename_i hh;simp only [if_neg hh]
   split at hl
   ·cases hl
   ·rename_i cQ;simp only [if_neg cQ];have:=h.small (s:=⟨.hp t,sz,ns⟩) (fr:=0) (Nat.zero_le _) (roots:=roots) hr (kd:=.hp (IntKind.i64.wrap (t+1))) trivial;simp only [(vU ns roots).1,← qO,← ug] at cQ ⊢;exact ⟨this.1,this.2,by omega⟩
 | gn y o t=>
  have kP:=h.st.kd;have bt:o≤ns.length:=kP.1;simp only [ei,nQ,ja] at hl ⊢;simp only at bE;rw [if_neg (by omega),if_neg (by simp [bE])] at hl ⊢
  split at hl
  ·rename_i hh;simp only [if_pos hh];exact ⟨h,fun a ha=>hr a ha,by omega⟩
  ·rename_i hh;simp only [if_neg hh];have h1:=h.small (s:=⟨.gn y o t,sz,ns⟩) (fr:=o) bt (roots:=roots) hr (kd:=.gn y (b9 ns o roots).length (IntKind.i64.wrap (t+1))) ⟨Nat.le_refl _,kP.2⟩
   split at hl
   ·rename_i cQ;simp only [if_pos cQ];have h2:=dv.small (s:=⟨.gn y (b9 ns o roots).length (IntKind.i64.wrap (t+1)),sz,b9 ns o roots⟩) h1.1 (fr:=0) (Nat.zero_le _) (roots:=fm ns o roots)
     (fun a ha=>by obtain ⟨c,hc,rfl⟩:=List.mem_map.1 ha;exact h1.2 c hc)
     (kd:=.gn y (b9 (b9 ns o roots) 0 (fm ns o roots)).length (IntKind.i64.wrap (IntKind.i64.wrap (t+1)+1))) ⟨Nat.le_refl _,kP.2⟩
    unfold sA at hl ⊢
    split at hl
    ·cases hl
    ·rename_i qQ;simp only [if_neg qQ,if_pos cQ];exact ⟨h2.1,fun a ha=>h2.2 _ (List.mem_map.2 ⟨a,ha,rfl⟩),by omega⟩
   ·rename_i cQ;simp only [if_neg cQ];exact ⟨h1.1,h1.2,by omega⟩
 | ref=>
  simp only [ei,nQ] at hl ⊢
  split at hl
  ·cases hl
  ·rename_i hh;simp only [if_neg hh];have:=h.small (s:=⟨.ref,sz,ns⟩) (fr:=0) (Nat.zero_le _) (roots:=roots) hr (kd:=.ref) trivial;simp only [(vU ns roots).1,← qO,← ug] at hh ⊢;exact ⟨this.1,this.2,by omega⟩
theorem bB.room (h:bB n M) {k:Int} (hk:0≤k) (ht:(M.room k).1=true):bB n (M.room k).2∧((M.room k).2.st.ns.length:Int)+k≤(M.room k).2.st.size:=by
 unfold Mc.room at ht ⊢
 split at ht
 ·rename_i hq;rw [if_pos hq];refine ⟨h,?_⟩;simp only [Mc.quick,Bool.and_eq_true,decide_eq_true_eq] at hq;have:=hq.1;show (M.st.ns.length:Int)+k≤M.st.size;omega
 ·rename_i hq;rw [if_neg hq]
  split at ht
  ·cases ht
  ·rename_i l hl;obtain ⟨h1,h2,h3⟩:=Wg h.g h.roots hk hl;refine ⟨h.mapped h1 h2 ⟨by omega,?_⟩,?_⟩
   ·have:=h1.st.n;omega
   ·show ((ei M.st k M.roots).2.ns.length:Int)+k≤(ei M.st k M.roots).2.size;rw [zi];exact h3
theorem bB.tidy (h:bB n M):bB n M.tidy:=by
 unfold Mc.tidy
 split
 ·obtain ⟨h1,h2⟩:=h.g.Cs h.roots;refine h.mapped h1 h2 ⟨by omega,?_⟩;have:=h1.st.n;omega
 ·exact h
end
end
section
open Go Go.W
theorem vX {f:Fr} {k:Int} (h:0≤k∧k < f.stack.length):f.place k∈f.stack:=by
 unfold Fr.place;have:f.stack.length - 1 - k.toNat < f.stack.length:=by omega
 rw [List.getD_eq_getElem?_getD,List.getElem?_eq_getElem this];exact List.getElem_mem this
theorem vY {l:List Int} {i:Nat} (h:i < l.length):l.getD i 0∈l:=by
 rw [List.getD_eq_getElem?_getD,List.getElem?_eq_getElem h];exact List.getElem_mem h
theorem aic {T:bH} {f f':Fr} {x:Ins} (hr:zo T f) (hI:Nj T (T.gl f.jb) (vV T (T.gl f.jb)) f.at'.toNat x) (hg:iM x) (e1:f'.jb=f.jb) (e2:f'.at'=f.at'+1)
   (e3:(bh T x f.stack.length).2=f'.stack.length):zo T f':=by
 obtain ⟨h1,h2⟩:=hI.next hg;have ha:=hr.at';refine ⟨by rw [e1];exact hr.gl,by rw [e1,e2];omega,?_⟩;rw [e1,e2,← e3,← hr.dep,← h2]
 congr 1;omega
theorem Nn {T:bH} {f f':Fr} {x:Ins} {t:Int} (hr:zo T f) (ht:0≤t∧t < (T.gl f.jb).code.length) (hI:(vV T (T.gl f.jb)).getD t.toNat 0=(bh T x ((vV T (T.gl f.jb)).getD f.at'.toNat 0)).2) (e1:f'.jb=f.jb) (e2:f'.at'=t)
   (e3:(bh T x f.stack.length).2=f'.stack.length):zo T f':=by
 refine ⟨by rw [e1];exact hr.gl,by rw [e1,e2];exact ht,?_⟩;rw [e1,e2,← e3,← hr.dep,← hI]
theorem dv.ue {T:bH} {s:St} (h:dv T s):∀ k:Nat,(s.ns.length:Int)+k≤s.size→dv T { s with ns:=s.ns++List.replicate k ⟨6,0,[]⟩}:=by
 intro k
 induction k with
 | zero=>intro _;simpa using h
 | succ k ih=>
  intro hr;have:=(ih (by omega)).add (nd:=⟨6,0,[]⟩) rfl (by decide) (fun a ha=>by cases ha) ⟨(fun e=>by cases e),(fun e=>by cases e)⟩ (by show ((s.ns++List.replicate k _).length:Int) < s.size;simp only [List.length_append,List.length_replicate];omega)
  simpa [St.add,List.replicate_succ',List.append_assoc] using this
theorem Wh {T:bH} (h:G8 T) {c:Int} (hc:0≤c∧c < T.au.length):0≤(T.sh c).fields∧(T.sh c).fields≤8:=by
 refine h.shs _ ?_;unfold bH.sh;rw [List.getD_eq_getElem?_getD,List.getElem?_eq_getElem (by omega:c.toNat < T.au.length)];exact List.getElem_mem _
theorem G' {T:bH} {c:Int} (hc:0≤c∧c < T.globals.length):T.gl c∈T.globals:=by
 unfold bH.gl;rw [List.getD_eq_getElem?_getD,List.getElem?_eq_getElem (by omega:c.toNat < T.globals.length)];exact List.getElem_mem _
theorem aid (n:Int) : -4611686018427387904≤iK n∧iK n≤4611686018427387903:=by unfold iK;omega
theorem aie (op a b:Int):(jI op a b).may=true∧(jI op a b).kind≠5∧(jI op a b).args=[]∧((jI op a b).kind=2→(jI op a b).num=0∨(jI op a b).num=1)∧(jI op a b).kind≠4:=by
 have key:∀ n,(⟨1,iK n,[]⟩:Nd).may=true:=fun n=>by
  have:=aid n;simp [Nd.may,gU];omega
 unfold jI
 split
 ·exact ⟨key _,by simp⟩
 split
 ·exact ⟨key _,by simp⟩
 split
 ·exact ⟨key _,by simp⟩
 split
 ·exact ⟨key _,by simp⟩
 split
 ·exact ⟨key _,by simp⟩
 split
 ·exact ⟨rfl,by simp⟩
 ·exact ⟨rfl,by simp⟩
section
variable {n:Int} {M:Mc}
theorem Wi (hp:0 < M.aE.length):M.next.aa = { M.aa with at':=M.aa.at'+1}:=(qL hp _).1
theorem qR (f:Fr):M.next.bU f=M.bU f:=ML _ _
structure ob (n:Int) (M:Mc) (x:Ins):Prop where
 ok:bB n M
 pos:0 < M.aE.length
 going:M.ended=0
 runs:M.aa.runs=true
 ins:x=M.dE
theorem ob.run {x:Ins} (h:ob n M x):zo M.aZ M.aa:=h.ok.run h.going _ (Nk h.pos) h.runs
theorem ob.io {x:Ins} (h:ob n M x):Nj M.aZ (M.aZ.gl M.aa.jb) (vV M.aZ (M.aZ.gl M.aa.jb)) M.aa.at'.toNat x:=by
 have hr:=h.run;refine (h.ok.aZ.kS _ (G' hr.gl)).1.each _ _ ?_;rw [h.ins];unfold Mc.dE Gl.ins;have:=hr.at';rw [List.getD_eq_getElem?_getD,List.getElem?_eq_getElem (by omega:M.aa.at'.toNat < _)];rfl
theorem ob.st {x:Ins} (h:ob n M x):(bh M.aZ x M.aa.stack.length).1=true∧(bh M.aZ x M.aa.stack.length).2≤8000∧M.aa.stack.length≠0:=by
 have:=h.io;have hd:=h.run.dep;refine ⟨by rw [← hd];exact this.ok,by rw [← hd];exact this.le,fun e=>this.nz (by rw [hd,e];rfl)⟩
theorem qP.put {s s':St} {f:Fr} (h:qP s n f) (hs:∀ a,s.In a→s'.In a) {st:List Int} {i:Int} (bN:∀ a∈st,a∈f.stack∨s'.In a) (hl:st.length≤8000):qP s' (n+1) { f with at':=i,stack:=st}:=
 ⟨fun a ha=>hs a (h.sp a ha),fun a ha=>(bN a ha).elim (fun h1=>hs a (h.sk a h1)) id,hs _ h.sd,by have:=h.xS;show (f.spine.length:Int)≤n+1;omega,hl⟩
theorem ob.goes {x:Ins} (h:ob n M x) (U:iM x) {s':St} (hg:dv M.aZ s') (hs:∀ a,M.st.In a→s'.In a) {st:List Int} (bN:∀ a∈st,a∈M.aa.stack∨s'.In a) (hl:(bh M.aZ x M.aa.stack.length).2=st.length) :
   bB (n+1) { M.bU { M.aa with at':=M.aa.at'+1,stack:=st} with st:=s'}:=by
 have hG:=h.ok.pX h.pos;refine h.ok.pY hg hs (hG.put hs bN (by have:=h.st.2.1;omega)) (fun _ _=>aic h.run h.io U rfl rfl hl)
theorem zp {l:List Int} {k:Nat} {a:Int} (h:a∈l.take k):a∈l:=List.mem_of_mem_take h
theorem Wj {f:Fr} {k:Nat} (hk:k≤f.stack.length):∀ a∈(List.range k).map (fun i:Nat=>f.place (i:Int)),a∈f.stack:=by
 intro a ha;obtain ⟨i,hi,rfl⟩:=List.mem_map.1 ha;have:=List.mem_range.1 hi;exact vX ⟨by omega,by omega⟩
theorem ob.exec {x:Ins} (h:ob n M x) (eK:0 < cellsOf x→(M.st.ns.length:Int)+cellsOf x≤M.st.size):bB (n+1) (M.next.exec x):=by
 have hG:=h.ok.pX h.pos;have hn:=h.io.G7;obtain ⟨s1,s2,s3⟩:=h.st;have ht:=Wi h.pos;have bN:M.next.st=M.st:=rfl;have bE:∀ k,M.next.aa.place k=M.aa.place k:=fun k=>by rw [ht];rfl
 have vZ:∀ f:Fr,(M.bU f) = { M.bU f with st:=M.st}:=fun f=>rfl
 have p0:M.aa.place 0∈M.aa.stack:=vX ⟨by omega,by omega⟩;have o1:=hn.o1;have o2:=hn.o2;have hop:x.op=1∨x.op=2∨x.op=3∨x.op=4∨x.op=5∨x.op=6∨x.op=7∨x.op=8∨x.op=9∨x.op=10∨x.op=11∨x.op=12∨x.op=13∨x.op=14∨x.op=15∨x.op=16∨x.op=17:=by omega
 have go:x.op≠13→x.op≠16→x.op≠17→iM x:=fun a b c=>⟨a,b,c⟩
 have hid:∀ a,M.st.In a→M.st.In a:=fun _ h=>h
 have Ha:∀ (nd:Nd) (d:Nat),iM x→nd.may=true→nd.kind≠5→(∀ a∈nd.args,M.st.In a)→xR M.aZ nd→(M.st.ns.length:Int) < M.st.size→d≤M.aa.stack.length→(bh M.aZ x M.aa.stack.length).2=((M.aa.stack.length - d+1:Nat):Int)→bB (n+1) (M.next.put nd d):=by
  intro nd d hg hm hk ha bQ hr hd hl;have:=h.goes hg (s':=M.st.add nd) (h.ok.g.add hm hk ha bQ hr) (fun a ha=>In.add ha nd) (st:=M.aa.stack.take (M.aa.stack.length - d)++[(M.st.ns.length:Int)])
   (fun a ha=>by
    rcases List.mem_append.1 ha with ha | ha
    ·exact .inl (zp ha)
    ·obtain rfl:=List.mem_singleton.1 ha;exact .inr (In.new _ _))
   (by rw [hl];simp only [List.length_append,List.length_take,List.length_cons,List.length_nil];omega)
  unfold Mc.put;rw [ht,qR,bN]
  simpa [Fr.pop,Fr.push] using this
 rcases hop with e | e | e | e | e | e | e | e | e | e | e | e | e | e | e | e | e
 ·
  have ex:M.next.exec x=M.bU { M.aa with at':=M.aa.at'+1,stack:=M.aa.stack++[M.aa.place x.a]}:=by
   simp only [Mc.exec,e,if_true,ht,qR,Fr.push,Fr.place]
  simp only [bh,e,if_true,decide_eq_true_eq] at s1 s2;rw [ex,vZ];have ha:=hn.c1 (.inl e);refine h.goes (go (by omega) (by omega) (by omega)) h.ok.g hid (fun a ha'=>?_) (by simp [bh,e]);rcases List.mem_append.1 ha' with ha' | ha'
  ·exact .inl ha'
  ·obtain rfl:=List.mem_singleton.1 ha';exact .inl (vX ⟨ha,s1⟩)
 ·
  have ex:M.next.exec x=M.bU { M.aa with at':=M.aa.at'+1,stack:=M.aa.stack++[M.globals.getD x.a.toNat 0]}:=by
   have k:∀ (M:Mc),M.exec x=M.bU (M.aa.push (M.globals.getD x.a.toNat 0)):=fun M=>by simp [Mc.exec,e]
   rw [k,ht,qR];rfl
  rw [ex,vZ];have ha:=hn.c2 e;have mW:=h.ok.mh;refine h.goes (go (by omega) (by omega) (by omega)) h.ok.g hid (fun a ha'=>?_) (by simp [bh,e]);rcases List.mem_append.1 ha' with ha' | ha'
  ·exact .inl ha'
  ·obtain rfl:=List.mem_singleton.1 ha';exact .inr (h.ok.kS _ (vY (by omega)))
 ·
  have ex:M.next.exec x=M.next.put ⟨1,x.a,[]⟩ ((0:Nat):Int):=by simp [Mc.exec,e]
  have hc:cellsOf x=1:=by simp [cellsOf,e]
  rw [ex];have ha:=hn.c3 e;refine Ha _ 0 (go (by omega) (by omega) (by omega)) (G6 ha) (by simp) (fun a ha=>by cases ha) ⟨(fun e=>by cases e),(fun e=>by cases e)⟩ (by have:=eK (by omega);omega) (by omega) (by simp [bh,e])
 ·
  have ex:M.next.exec x=M.bU { M.aa with at':=M.aa.at'+1,stack:=M.aa.stack.take (M.aa.stack.length - x.a.toNat)}:=by
   simp [Mc.exec,e,ht,qR,Fr.pop]
  simp [bh,e] at s1;have ha:=hn.c1 (.inr (.inl e));rw [ex,vZ];refine h.goes (go (by omega) (by omega) (by omega)) h.ok.g hid (fun a ha'=>.inl (zp ha')) (by simp [bh,e];omega)
 ·
  have ex:M.next.exec x=M.bU { M.aa with at':=M.aa.at'+1,stack:=M.aa.stack.take (M.aa.stack.length - (x.a+1).toNat)++[M.aa.place 0]}:=by
   simp [Mc.exec,e,ht,qR,Fr.pop,Fr.push,Fr.place]
  simp [bh,e] at s1;have ha:=hn.c1 (.inr (.inr (.inl e)));rw [ex,vZ];refine h.goes (go (by omega) (by omega) (by omega)) h.ok.g hid (fun a ha'=>?_) (by simp [bh,e];omega);rcases List.mem_append.1 ha' with ha' | ha'
  ·exact .inl (zp ha')
  ·obtain rfl:=List.mem_singleton.1 ha';exact .inl p0
 ·
  have ex:M.next.exec x=M.next.put ⟨3,0,[M.aa.place 0,M.aa.place 1]⟩ ((2:Nat):Int):=by simp [Mc.exec,e,bE]
  have hc:cellsOf x=1:=by simp [cellsOf,e]
  simp [bh,e] at s1;rw [ex];refine Ha _ 2 (go (by omega) (by omega) (by omega)) rfl (by simp) (fun a ha=>?_) ⟨(fun e=>by cases e),(fun e=>by cases e)⟩ (by have:=eK (by omega);omega) (by omega) (by simp [bh,e];omega);have p1:M.aa.place 1∈M.aa.stack:=vX ⟨by omega,by omega⟩;simp only [List.mem_cons,List.not_mem_nil,or_false] at ha;rcases ha with rfl | rfl
  ·exact hG.sk _ p0
  ·exact hG.sk _ p1
 ·
  have ex:M.next.exec x = { M.bU { M.aa with at':=M.aa.at'+1,stack:=M.aa.stack.take (M.aa.stack.length - 1)} with st:=M.st.set (M.st.ov (M.aa.place x.a)) ⟨5,0,[(M.st.ov (M.aa.place 0):Int)]⟩}:=by
   simp [Mc.exec,e,ht,qR,Fr.pop,Fr.place,bN]
  simp [bh,e] at s1;have ha:=hn.c7 e;rw [ex];have pa:M.aa.place x.a∈M.aa.stack:=vX ⟨by omega,by omega⟩;refine h.goes (go (by omega) (by omega) (by omega)) (h.ok.g.upd (hG.sk _ pa) (hG.sk _ p0)) (fun a ha=>In.set ha _ _) (fun a ha'=>.inl (zp ha')) (by simp [bh,e];omega)
 ·
  have ha:=hn.c1 (.inr (.inr (.inr e)));have hc:cellsOf x=x.a:=by simp [cellsOf,e]
  have ex:M.next.exec x = { M.bU { M.aa with at':=M.aa.at'+1,stack:=M.aa.stack++(List.range x.a.toNat).map fun i=>((M.st.ns.length+i:Nat):Int)} with st:={ M.st with ns:=M.st.ns++List.replicate x.a.toNat ⟨6,0,[]⟩}}:=by
   simp [Mc.exec,e,Mc.alloc,ht,qR,bN]
  simp [bh,e] at s1;rw [ex];have hr:(M.st.ns.length:Int)+x.a.toNat≤M.st.size:=by
   by_cases h0:x.a=0
   ·have:=h.ok.g.st.len;rw [h0];simpa using this
   ·have:=eK (by omega);omega
  refine h.goes (go (by omega) (by omega) (by omega)) (h.ok.g.ue _ hr) (fun a ha=>⟨ha.1,by have:=ha.2;simp only [List.length_append,List.length_replicate];omega⟩) (fun a ha'=>?_) (by simp [bh,e];omega);rcases List.mem_append.1 ha' with ha' | ha'
  ·exact .inl ha'
  ·obtain ⟨i,hi,rfl⟩:=List.mem_map.1 ha';have:=List.mem_range.1 hi;exact .inr ⟨by omega,by simp only [List.length_append,List.length_replicate];omega⟩
 ·
  have kz:=Wh h.ok.aZ (hn.c9 (.inl e));obtain ⟨k,hk⟩:∃ k:Nat,(M.aZ.sh x.a).fields=k:=⟨(M.aZ.sh x.a).fields.toNat,by omega⟩;have ex:M.next.exec x=M.next.put ⟨2,x.a,(List.range k).map fun i:Nat=>M.aa.place (i:Int)⟩ (k:Int):=by
   have e1:(M.next.aZ.sh x.a).fields=(k:Int):=hk;simp [Mc.exec,e,bE,e1]
  have hc:cellsOf x=1:=by simp [cellsOf,e]
  simp [bh,e,hk] at s1;rw [ex];have ha:=hn.c9 (.inl e);refine Ha _ k (go (by omega) (by omega) (by omega)) (by simp [Nd.may,gU];omega) (by simp) (fun a ha=>hG.sk _ (Wj (by omega) a ha)) ⟨(fun e=>by cases e),fun _=>ha.2⟩ (by have:=eK (by omega);omega) (by omega) (by simp [bh,e,hk];omega)
 ·
  simp [bh,e] at s1;have bQ:=h.ok.g.nd (hG.sk _ p0);have ex:M.next.exec x=if (M.st.nd (M.aa.place 0)).kind≠2∨(M.st.nd (M.aa.place 0)).num≠x.a∨((M.st.nd (M.aa.place 0)).args.length:Int)≠(M.aZ.sh x.a).fields then M.next.fail 5
      else M.bU { M.aa with at':=M.aa.at'+1,stack:=M.aa.stack.take (M.aa.stack.length - 1)++(M.st.nd (M.aa.place 0)).args.reverse}:=by
   have k:∀ (M:Mc),M.exec x=if (M.st.nd (M.aa.place 0)).kind≠2∨(M.st.nd (M.aa.place 0)).num≠x.a∨((M.st.nd (M.aa.place 0)).args.length:Int)≠(M.aZ.sh x.a).fields then M.fail 5
    else M.bU { M.aa.pop 1 with stack:=(M.aa.pop 1).stack++(M.st.nd (M.aa.place 0)).args.reverse}:=fun M=>by simp [Mc.exec,e]
   rw [k,bE,bN,ht,qR];rfl
  rw [ex]
  split
  ·have gV:bB n M.next∨True:=.inr trivial;have:bB (n+1) ({ M.bU { M.aa with at':=M.aa.at'+1} with st:=M.st,ended:=3,stuck:=5}:Mc):=by
    have ct:=bB.fail (h.ok) 5;have:=ct.pY (s':=M.st) (f':={ M.aa with at':=M.aa.at'+1}) h.ok.g hid (hG.put hid (fun a ha=>.inl ha) hG.oa) (fun he=>by cases he);exact this
   exact this
  ·rename_i hh;simp only [not_or,Classical.not_not] at hh;rw [vZ];refine h.goes (go (by omega) (by omega) (by omega)) h.ok.g hid (fun a ha'=>?_) (by simp [bh,e,hh.2.2];omega);rcases List.mem_append.1 ha' with ha' | ha'
   ·exact .inl (zp ha')
   ·exact .inr (bQ.2.1 _ (List.mem_reverse.1 ha'))
 ·
  simp [bh,e] at s1;have DQ:=h.goes (x:=x) (go (by omega) (by omega) (by omega)) h.ok.g hid (st:=M.aa.stack) (fun a ha=>.inl ha) (by simp [bh,e]);have gV:bB (n+1) M.next:=DQ;have ex:M.next.exec x=if (M.st.nd (M.aa.place 0)).kind≠1∧(M.st.nd (M.aa.place 0)).kind≠2 then M.next.enter (M.nv (M.aa.place 0)) else M.next:=by
   have e1:M.next.nv (M.aa.place 0)=M.nv (M.aa.place 0):=rfl;simp [Mc.exec,e,bE,bN,e1]
  rw [ex]
  split
  ·
   have hnv:M.st.In (M.nv (M.aa.place 0)):=by
    unfold Mc.nv
    split
    ·exact h.ok.g.uh (hG.sk _ p0)
    ·exact hG.sk _ p0
   have hl:=h.ok.ln;refine ⟨h.ok.aZ,h.ok.g,h.ok.kS,h.ok.mh,h.ok.mZ,h.ok.pW,?_,?_,h.ok.base,h.ok.bp,h.ok.jo,by omega,?_,gV.lw,gV.lt,h.ok.sH⟩
   ·intro f hf;rcases List.mem_append.1 hf with hf | hf
    ·exact gV.jJ f hf
    ·obtain rfl:=List.mem_singleton.1 hf;exact We hnv (by omega)
   ·intro he f hf hr;rcases List.mem_append.1 hf with hf | hf
    ·exact gV.run he f hf hr
    ·obtain rfl:=List.mem_singleton.1 hf;cases hr
   ·have:=h.ok.lf;have e2:M.next.aE.length=M.aE.length:=(qL h.pos _).2;show ((M.next.aE++[_]).length:Int)≤n+1;rw [List.length_append,e2];simp;omega
  ·exact gV
 ·
  simp [bh,e] at s1;have hc:cellsOf x=1:=by simp [cellsOf,e]
  have ex:M.next.exec x=if (M.st.nd (M.aa.place 0)).kind≠1∨(M.st.nd (M.aa.place 1)).kind≠1 then M.next.fail 5
      else if (x.a=4∨x.a=5)∧(M.st.nd (M.aa.place 1)).num=0 then M.next.fail 3
      else M.next.put (jI x.a (M.st.nd (M.aa.place 0)).num (M.st.nd (M.aa.place 1)).num) ((2:Nat):Int):=by
   simp [Mc.exec,e,Mc.arith,bE,bN]
  have hf:∀ gY,bB (n+1) (M.next.fail gY):=fun gY=>by
   have:=(bB.fail (h.ok) gY).pY (s':=M.st) (f':={ M.aa with at':=M.aa.at'+1}) h.ok.g hid (hG.put hid (fun a ha=>.inl ha) hG.oa) (fun he=>by cases he);exact this
  rw [ex]
  split
  ·exact hf _
  split
  ·exact hf _
  ·obtain ⟨m1,m2,m3,m4,m5⟩:=aie x.a (M.st.nd (M.aa.place 0)).num (M.st.nd (M.aa.place 1)).num;refine Ha _ 2 (go (by omega) (by omega) (by omega)) m1 m2 (fun a ha=>by rw [m3] at ha;cases ha) ⟨fun e=>absurd e m5,fun e=>?_⟩ (by have:=eK (by omega);omega) (by omega) (by simp [bh,e];omega);have:=h.ok.aZ.sn;rcases m4 e with hh | hh<;>rw [hh]<;>omega
 ·
  have ex:M.next.exec x=M.bU { M.aa with at':=x.a}:=by simp [Mc.exec,e,ht,qR]
  rw [ex,vZ];have hb:=hn.Ni e;have dN:=h.run.at';refine h.ok.pY h.ok.g hid (hG.put (i:=x.a) (st:=M.aa.stack) hid (fun a ha=>.inl ha) hG.oa) (fun _ _=>Nn (x:=x) (t:=x.a) h.run (by omega) (h.io.jump e) rfl rfl (by simp [bh,e]))
 ·
  have ex:M.next.exec x=if (M.st.nd (M.aa.place 0)).kind≠2 then M.next.fail 5 else if (M.st.nd (M.aa.place 0)).num≠x.a then M.bU { M.aa with at':=x.b} else M.next:=by
   have k:∀ (M:Mc),M.exec x=if (M.st.nd (M.aa.place 0)).kind≠2 then M.fail 5 else if (M.st.nd (M.aa.place 0)).num≠x.a then M.bU { M.aa with at':=x.b} else M:=fun M=>by simp [Mc.exec,e,Mc.ku]
   rw [k,bE,bN,ht,qR]
  have DQ:=h.goes (x:=x) (go (by omega) (by omega) (by omega)) h.ok.g hid (st:=M.aa.stack) (fun a ha=>.inl ha) (by simp [bh,e]);have hb:=hn.Bg (.inl e);have dN:=h.run.at';rw [ex]
  split
  ·have:=(bB.fail (h.ok) 5).pY (s':=M.st) (f':={ M.aa with at':=M.aa.at'+1}) h.ok.g hid (hG.put hid (fun a ha=>.inl ha) hG.oa) (fun he=>by cases he);exact this
  split
  ·rw [vZ];exact h.ok.pY h.ok.g hid (hG.put (i:=x.b) (st:=M.aa.stack) hid (fun a ha=>.inl ha) hG.oa) (fun _ _=>Nn (x:=x) (t:=x.b) h.run (by omega) (h.io.test (.inl e)) rfl rfl (by simp [bh,e]))
  ·exact DQ
 ·
  have ex:M.next.exec x=if (M.st.nd (M.aa.place 0)).kind≠1 then M.next.fail 5 else if (M.st.nd (M.aa.place 0)).num≠x.a then M.bU { M.aa with at':=x.b} else M.next:=by
   have k:∀ (M:Mc),M.exec x=if (M.st.nd (M.aa.place 0)).kind≠1 then M.fail 5 else if (M.st.nd (M.aa.place 0)).num≠x.a then M.bU { M.aa with at':=x.b} else M:=fun M=>by simp [Mc.exec,e,Mc.ku]
   rw [k,bE,bN,ht,qR]
  have DQ:=h.goes (x:=x) (go (by omega) (by omega) (by omega)) h.ok.g hid (st:=M.aa.stack) (fun a ha=>.inl ha) (by simp [bh,e]);have hb:=hn.Bg (.inr e);have dN:=h.run.at';rw [ex]
  split
  ·have:=(bB.fail (h.ok) 5).pY (s':=M.st) (f':={ M.aa with at':=M.aa.at'+1}) h.ok.g hid (hG.put hid (fun a ha=>.inl ha) hG.oa) (fun he=>by cases he);exact this
  split
  ·rw [vZ];exact h.ok.pY h.ok.g hid (hG.put (i:=x.b) (st:=M.aa.stack) hid (fun a ha=>.inl ha) hG.oa) (fun _ _=>Nn (x:=x) (t:=x.b) h.run (by omega) (h.io.test (.inr e)) rfl rfl (by simp [bh,e]))
  ·exact DQ
 ·
  have ex:M.next.exec x=M.next.fail x.a:=by simp [Mc.exec,e]
  rw [ex];have:=(bB.fail (h.ok) x.a).pY (s':=M.st) (f':={ M.aa with at':=M.aa.at'+1}) h.ok.g hid (hG.put hid (fun a ha=>.inl ha) hG.oa) (fun he=>by cases he);exact this
 ·
  have ex:M.next.exec x=M.bU { M.aa with at':=M.aa.at'+1,runs:=false,bC:=M.aa.stack.getD 0 0,stack:=[]}:=by simp [Mc.exec,e,ht,qR]
  rw [ex,vZ];refine h.ok.pY h.ok.g hid ⟨hG.sp,(fun a ha=>by cases ha),hG.sk _ (vY (by omega)),by have:=hG.xS;show (M.aa.spine.length:Int)≤_;omega,by simp⟩ (fun _ he=>by cases he)
end
end
section
open Go Go.W
section
variable {n:Int} {M:Mc}
theorem Hb (h:0 < M.wait.length):M.last∈M.wait:=vY (by omega)
theorem bB.tell (h:bB n M) (he:M.ended=0):bB (n+1) M.tell:=by
 have hw:=h.pW he;have hl:=h.mZ _ (Hb hw);have bQ:=h.g.nd hl;have ed:=h.ln;unfold Mc.tell
 split
 ·rename_i hk;have dL:(M.st.nd M.last).args.length≤8:=by
   have:=uj bQ.1;rcases hk with hk | hk
   ·rw [(this.1 hk).1];simp
   ·exact (this.2.1 hk).1
  refine ⟨h.aZ,h.g,h.kS,h.mh,?_,?_,fun f hf=>(h.jJ f hf).az (fun _ h=>h) (by omega),fun e f hf hr=>h.run he f hf hr,h.base,h.bp,h.jo,by omega,?_,?_,?_,?_⟩
  ·intro a ha;rcases List.mem_append.1 ha with ha | ha
   ·exact h.mZ a (zp ha)
   ·exact bQ.2.1 a (List.mem_reverse.1 ha)
  ·intro e;apply Nat.pos_of_ne_zero;intro h0;have e:(if (M.wait.take (M.wait.length - 1)++(M.st.nd M.last).args.reverse).length=0 then 2 else M.ended)=0:=e;have h0:(M.wait.take (M.wait.length - 1)++(M.st.nd M.last).args.reverse).length=0:=h0;rw [if_pos h0] at e;cases e
  ·have:=h.lf;show (M.aE.length:Int)≤_;omega
  ·have:=h.lw;show ((M.wait.take (M.wait.length - 1)++(M.st.nd M.last).args.reverse).length:Int)≤_;simp only [List.length_append,List.length_take,List.length_reverse];omega
  ·have:=h.lt;show ((M.told++[_]).length:Int)≤_;simp only [List.length_append,List.length_cons,List.length_nil];omega
  ·show (if _ then (2:Int) else M.ended)≠5
   split
   ·decide
   ·rw [he];decide
 ·refine h.enter ?_;unfold Mc.nv
  split
  ·exact h.g.uh hl
  ·exact hl
theorem Wk {s:St} {T:bH} (h:dv T s) {a:Int} (ha:s.In a) (hk:(s.nd a).kind=3):s.In ((s.nd a).args.getD 1 0)∧s.In ((s.nd a).args.getD 0 0):=by
 have bQ:=h.nd ha;have hl:=(uj bQ.1).2.2.1 hk;exact ⟨bQ.2.1 _ (vY (by omega)),bQ.2.1 _ (vY (by omega))⟩
theorem St.Hc {s:St} {T:bH} (h:dv T s) {a:Int} (ha:s.In a):s.ov (s.ov a:Int)=s.ov a∧s.nd (s.ov a:Int)=s.nd a:=by
 have e:s.ov (s.ov a:Int)=s.ov a:=by
  have:=h.Nf ha
  simpa [St.ov] using this
 exact ⟨e,by unfold St.nd;rw [e]⟩
theorem aif (f:Fr) {ar:Int} (h:0≤ar∧ar≤f.spine.length):(f.own ar).length=ar.toNat:=by
 simp only [Fr.own,List.length_drop];omega
theorem Wl {f:Fr} {ar a:Int} (h:a∈f.own ar):a∈f.spine:=List.mem_of_mem_drop h
theorem aih (h:bB n M) {f:Fr} (hG:qP M.st n f) {ar:Int} (h4:(M.st.nd f.bC).kind=4) (df:∀ s∈f.own ar,(M.st.nd s).kind=3) :
   M.st.In (M.head f ar)∧(ak M.st.ns (M.st.ov (M.head f ar))).kind≠5∧M.st.ov (M.head f ar) < M.st.ns.length:=by
 unfold Mc.head
 split
 ·obtain ⟨e1,e2⟩:=St.Hc h.g hG.sd;refine ⟨h.g.uh hG.sd,?_,h.g.ov (h.g.uh hG.sd)⟩;rw [e1];show (M.st.nd f.bC).kind≠5;rw [h4];decide
 ·rename_i s l hs;have hm:s∈f.own ar:=by rw [hs];exact List.mem_cons_self
  have dh:=hG.sp _ (Wl hm);have hk:=df _ hm;have k5:(M.st.nd s).kind≠5:=by rw [hk];decide
  split
  ·exact ⟨dh,k5,h.g.ov dh⟩
  ·obtain ⟨e1,e2⟩:=St.Hc h.g dh;refine ⟨h.g.uh dh,?_,h.g.ov (h.g.uh dh)⟩;rw [e1];exact k5
theorem bB.call (h:bB n M) (hp:0 < M.aE.length) (h4:(M.st.nd M.aa.bC).kind=4) (fU:(M.aa.spine.length:Int)≥(M.aZ.gl (M.st.nd M.aa.bC).num).arity):bB (n+1) (M.call M.aa (M.st.nd M.aa.bC).num):=by
 have hG:=h.pX hp;have bQ:=h.g.nd hG.sd;have jk:0≤(M.st.nd M.aa.bC).num∧(M.st.nd M.aa.bC).num < M.aZ.globals.length:=⟨((uj bQ.1).2.2.2.1 h4).2,bQ.2.2.1 h4⟩;obtain ⟨Wm,a0,a24,_⟩:=h.aZ.kS _ (G' jk);unfold Mc.call
 split
 ·rename_i df;have df:∀ s∈M.aa.own (M.aZ.gl (M.st.nd M.aa.bC).num).arity,(M.st.nd s).kind=3:=fun s hs=>by simpa using List.all_eq_true.1 df s hs
  obtain ⟨i1,i2,i3⟩:=aih h hG h4 df;have hl:=aif M.aa ⟨a0,fU⟩;refine h.pY (h.g.set i3 i2 rfl (by decide) (fun a ha=>by cases ha) ⟨(fun e=>by cases e),(fun e=>by cases e)⟩) (fun a ha=>In.set ha _ _) ⟨?_,?_,In.set hG.sd _ _,?_,?_⟩ ?_
  ·intro a ha;exact In.set (hG.sp a (zp ha)) _ _
  ·intro a ha;rcases List.mem_cons.1 ha with rfl | ha
   ·exact In.set i1 _ _
   ·obtain ⟨s,hs,rfl⟩:=List.mem_map.1 ha;exact In.set (Wk h.g (hG.sp s (Wl hs)) (df s hs)).1 _ _
  ·have:=hG.xS;show ((M.aa.spine.take _).length:Int)≤_;rw [List.length_take];omega
  ·simp only [List.length_cons,List.length_map,hl];omega
  ·intro he hr;refine ⟨jk,⟨by show (0:Int)≤0;omega,by have:=Wm.pos;show (0:Int) < ((M.aZ.gl (M.st.nd M.aa.bC).num).code.length:Int);omega⟩,?_⟩;show (vV M.aZ (M.aZ.gl (M.st.nd M.aa.bC).num)).getD (0:Int).toNat 0=_;rw [show (0:Int).toNat=0 from rfl,Wm.start];simp only [List.length_cons,List.length_map,hl];omega
 ·exact (h.fail 5).more (by omega)
theorem dv.zq {T:bH} {s:St} (h:dv T s) {nd:Nd} (hm:nd.may=true) (hk:nd.kind≠5∧nd.kind≠4∧nd.kind≠2) (ha:∀ a∈nd.args,s.In a) (hr:(s.ns.length:Int) < s.size):dv T (s.add nd):=
 h.add hm hk.1 ha ⟨fun e=>absurd e hk.2.1,fun e=>absurd e hk.2.2⟩ hr
theorem nf (s:St) (nd:Nd):(s.add nd).ns.length=s.ns.length+1:=by simp [St.add]
theorem bB.A6 (h:bB n M) (hp:0 < M.aE.length) (hw:0 < M.wait.length) (eK:(M.st.ns.length:Int)+2≤M.st.size) (wg:M.aa.runs=false):bB (n+1) M.A6:=by
 have hG:=h.pX hp;have hl:=h.mZ _ (Hb hw);have g1:=h.g.zq (nd:=⟨8,0,[]⟩) rfl (by decide) (fun a ha=>by cases ha) (by omega)
 have g2:=g1.zq (nd:=⟨3,0,[M.last,M.st.ns.length]⟩) rfl (by simp) (fun a ha=>by
  simp only [List.mem_cons,List.not_mem_nil,or_false] at ha;rcases ha with rfl | rfl
  ·exact In.add hl _
  ·exact In.new _ _) (by rw [nf];show ((M.st.ns.length+1:Nat):Int) < M.st.size;omega)
 have hs:∀ a,M.st.In a→((M.st.add ⟨8,0,[]⟩).add ⟨3,0,[M.last,M.st.ns.length]⟩).In a:=fun a ha=>In.add (In.add ha _) _
 have uk:((M.st.add ⟨8,0,[]⟩).add ⟨3,0,[M.last,M.st.ns.length]⟩).In ((M.st.ns.length:Int)+1):=by
  have:=In.new (M.st.add ⟨8,0,[]⟩) ⟨3,0,[M.last,M.st.ns.length]⟩;rw [nf] at this
  simpa using this
 have k:=h.pY (f':={ M.aa with bC:=(M.st.ns.length:Int)+1,spine:=[]}) g2 hs ⟨fun a ha=>(by cases ha),fun a ha=>hs a (hG.sk a ha),uk,by have:=h.ln;show (([]:List Int).length:Int)≤_;simp;omega,hG.oa⟩ (fun _ hr=>by rw [show ({ M.aa with bC:=(M.st.ns.length:Int)+1,spine:=[]}:Fr).runs=M.aa.runs from rfl,wg] at hr;cases hr);refine ⟨k.aZ,k.g,k.kS,k.mh,?_,?_,k.jJ,k.run,k.base,k.bp,k.jo,k.ln,k.lf,?_,k.lt,k.sH⟩
 ·intro a ha;rcases List.mem_or_eq_of_mem_set ha with ha | rfl
  ·exact k.mZ a ha
  ·exact uk
 ·intro _;show 0 < (M.wait.set _ _).length;rw [List.length_set];exact hw
 ·show ((M.wait.set _ _).length:Int)≤_;rw [List.length_set];exact k.lw
theorem zr (M:Mc) (k:Int) (ht:(M.room k).1=true):(M.room k).2.aE.length=M.aE.length∧(M.room k).2.wait.length=M.wait.length∧(M.room k).2.ended=M.ended∧(M.room k).2.aZ=M.aZ∧(M.room k).2.input=M.input∧(M.room k).2.steps=M.steps ∧
   ∃ g,(0 < M.aE.length→(M.room k).2.aa=M.aa.eZ g):=by
 obtain ⟨g,s,b,e⟩:=ah' M k ht;rw [e];refine ⟨by simp [Mc.eZ],by simp [Mc.eZ],rfl,rfl,rfl,rfl,g,fun hp=>?_⟩;simp only [Mc.aa,Mc.eZ,List.length_map];rw [List.getD_eq_getElem?_getD,List.getElem?_map,List.getElem?_eq_getElem (by omega:M.aE.length - 1 < M.aE.length),List.getD_eq_getElem?_getD,List.getElem?_eq_getElem (by omega:M.aE.length - 1 < M.aE.length)];rfl
theorem aii (M:Mc) (k:Int) (ht:(M.room k).1=false):(M.room k).2.ended=5:=by
 unfold Mc.room at ht ⊢
 split at ht
 ·cases ht
 ·rename_i hq;rw [if_neg hq]
  split at ht
  ·rfl
  ·cases ht
def NoRoom (M M':Mc):Prop:=∃ k,0≤k∧(M.room k).1=false∧M'=(M.room k).2
theorem NoRoom.ended {M M':Mc} (h:NoRoom M M'):M'.ended=5:=by
 obtain ⟨k,_,hf,rfl⟩:=h;exact aii M k hf
theorem bB.pP (h:bB n M) (hp:0 < M.aE.length) (he:M.ended=0) (wg:M.aa.runs=false):NoRoom M M.pP∨bB (n+1) M.pP:=by
 unfold Mc.pP
 split
 ·exact .inr (h.qK.more (by omega))
 split
 ·exact .inr ((h.fail 5).more (by omega))
 split
 ·rename_i ht;obtain ⟨k1,k2⟩:=h.room (by omega) ht;obtain ⟨e1,e2,e3,_,_,_,g,e4⟩:=zr M 2 ht;refine .inr (k1.A6 (by omega) (by rw [e2];exact h.pW he) k2 (by rw [e4 hp];exact wg))
 ·rename_i ht;exact .inl ⟨2,by omega,by simpa using ht,rfl⟩
theorem bB.Wn (h:bB n M) {s':St} (hg:dv M.aZ s') (hs:∀ a,M.st.In a→s'.In a):bB n { M with st:=s'}:=
 ⟨h.aZ,hg,fun a ha=>hs a (h.kS a ha),h.mh,fun a ha=>hs a (h.mZ a ha),h.pW,fun f hf=>(h.jJ f hf).az hs (by omega),h.run,h.base,h.bp,h.jo,h.ln,h.lf,h.lw,h.lt,h.sH⟩
theorem Wo {s:St} {nd:Nd} {p:Nat} (hp:p < s.ns.length):ak (s.add nd).ns p=ak s.ns p:=V8 hp
theorem bB.Di (h:bB n M) (hp:0 < M.aE.length) (h8:(M.st.nd M.aa.bC).kind=8) {k:Int} (hk:0≤k∧k < M.input.length) (eK:(M.st.ns.length:Int)+2≤M.st.size):bB n (M.Di k):=by
 have hG:=h.pX hp;have Ji:=hG.sd;have jk:isNum (M.input.getD k.toNat 0):=h.jo _ (vY (by omega));have m1:(⟨1,M.input.getD k.toNat 0,[]⟩:Nd).may=true:=G6 jk;have m2:(⟨8,k+1,[]⟩:Nd).may=true:=by simp [Nd.may,gU];omega
 have g1:=h.g.zq (nd:=⟨1,M.input.getD k.toNat 0,[]⟩) m1 (by simp) (fun a ha=>by cases ha) (by omega);have g2:=g1.zq (nd:=⟨8,k+1,[]⟩) m2 (by simp) (fun a ha=>by cases ha) (by rw [nf];show ((M.st.ns.length+1:Nat):Int) < M.st.size;omega);have ki:=h.g.ov Ji;have e1:ak ((M.st.add ⟨1,M.input.getD k.toNat 0,[]⟩).add ⟨8,k+1,[]⟩).ns (M.st.ov M.aa.bC)=M.st.nd M.aa.bC:=by
  rw [Wo (by rw [nf];omega),Wo ki];rfl
 have Bi:=h.aZ.sn;refine h.Wn (g2.set (by rw [nf,nf];omega) (by rw [e1,h8];decide) rfl (by simp) (fun a ha=>?_) ⟨(fun e=>by cases e),fun _=>by show (4:Int) < _;omega⟩) (fun a ha=>In.set (In.add (In.add ha _) _) _ _);simp only [List.mem_cons,List.not_mem_nil,or_false] at ha;rcases ha with rfl | rfl
 ·exact In.add (In.new _ _) _
 ·have:=In.new (M.st.add ⟨1,M.input.getD k.toNat 0,[]⟩) ⟨8,k+1,[]⟩;rw [nf] at this
  simpa using this
theorem aij {ns ms:List Nd} {rs:List Int} {g:Int→Int} (h:Alike ns rs ms (rs.map g)) {a:Int} (ha:a∈rs) :
   (ak ms (over ms (g a).toNat)).kind=(ak ns (over ns a.toNat)).kind∧(ak ms (over ms (g a).toNat)).num=(ak ns (over ns a.toNat)).num∧(ak ms (over ms (g a).toNat)).args.length=(ak ns (over ns a.toNat)).args.length:=by
 obtain ⟨R,h1,h2,h3⟩:=h;obtain ⟨i,hi,rfl⟩:=List.getElem_of_mem ha;have:=h3 i rs[i] (g rs[i]) (List.getElem?_eq_getElem hi) (by rw [List.getElem?_map,List.getElem?_eq_getElem hi];rfl);obtain ⟨e1,e2,e3⟩:=h1.nd _ _ this;exact ⟨e1.symm,e2.symm,e3.symm⟩
theorem Wp {T:bH} {s:St} (h:dv T s) {rs:List Int} (hr:∀ a∈rs,s.In a):Alike s.ns rs s.ns rs:=alike_refl h.st.wf (nY hr)
theorem DR {T:bH} {s:St} (h:dv T s) {fr:Nat} (bt:fr≤s.ns.length) {rs:List Int} (hr:∀ a∈rs,s.In a):Alike s.ns rs (b9 s.ns fr rs) (rs.map (dD s.ns fr (bK s.ns fr rs))):=ahW h.st.wf bt (nY hr)
theorem apm {T:bH} {s:St} (h:dv T s) {roots:List Int} (hr:∀ a∈roots,s.In a):Alike s.ns roots (mU s roots).2.ns (roots.map (ub s roots)):=by
 obtain ⟨kd,sz,ns⟩:=s;have k:=DR h (fr:=0) (Nat.zero_le _) hr;cases kd with
 | hp t=>
  simp only [mU,ub,(vU ns roots).1,← qO,← ug];exact k
 | gn y o t=>exact k
 | ref=>
  simp only [mU,ub,(vU ns roots).1,← qO,← ug];exact k
theorem aik {T:bH} {s:St} (h:dv T s) {roots:List Int} (hr:∀ a∈roots,s.In a) {k:Int} (hk:0≤k) {l:List Int} (hl:(ei s k roots).1=some l):Alike s.ns roots (ei s k roots).2.ns (roots.map (nQ s k roots)):=by
 have bE:bJ s.ns.length roots=true:=nY hr;obtain ⟨kd,sz,ns⟩:=s;have k0:=DR h (fr:=0) (Nat.zero_le _) hr;have Wq:=Wp h hr;cases kd with
 | hp t=>
  simp only [ei,nQ,jl] at hl ⊢;simp only at bE;rw [if_neg (by omega),if_neg (by simp [bE])] at hl ⊢
  split at hl
  ·rename_i hh;rw [if_pos hh,if_pos hh,List.map_id];exact Wq
  ·rename_i hh;rw [if_neg hh,if_neg hh]
   split at hl
   ·cases hl
   ·rename_i cQ;rw [if_neg cQ];simp only [(vU ns roots).1,← qO,← ug];exact k0
 | gn y o t=>
  have kP:=h.st.kd;have bt:o≤ns.length:=kP.1;simp only [ei,nQ,ja] at hl ⊢;simp only at bE;rw [if_neg (by omega),if_neg (by simp [bE])] at hl ⊢
  split at hl
  ·rename_i hh;rw [if_pos hh,if_pos hh,List.map_id];exact Wq
  ·rename_i hh;rw [if_neg hh,if_neg hh];have h1:=h.small (s:=⟨.gn y o t,sz,ns⟩) (fr:=o) bt (roots:=roots) hr (kd:=.gn y (b9 ns o roots).length (IntKind.i64.wrap (t+1))) ⟨Nat.le_refl _,kP.2⟩;have a1:=DR h (fr:=o) bt hr
   split at hl
   ·rename_i cQ;rw [if_pos cQ,if_pos cQ];have a2:=DR (s:=⟨.gn y (b9 ns o roots).length (IntKind.i64.wrap (t+1)),sz,b9 ns o roots⟩) h1.1 (fr:=0) (Nat.zero_le _) (rs:=fm ns o roots)
     (fun a ha=>by obtain ⟨c,hc,rfl⟩:=List.mem_map.1 ha;exact h1.2 c hc)
    have e:roots.map (fun p=>dD (b9 ns o roots) 0 (bK (b9 ns o roots) 0 (fm ns o roots)) (dD ns o (bK ns o roots) p))=(fm ns o roots).map (dD (b9 ns o roots) 0 (bK (b9 ns o roots) 0 (fm ns o roots))):=by
     simp [fm]
    rw [e];unfold sA at hl ⊢
    split at hl
    ·cases hl
    ·rename_i qQ;rw [if_neg qQ];exact ahR a1 a2
   ·rename_i cQ;rw [if_neg cQ,if_neg cQ];exact a1
 | ref=>
  simp only [ei,nQ] at hl ⊢
  split at hl
  ·cases hl
  ·rename_i hh;rw [if_neg hh];simp only [(vU ns roots).1,← qO,← ug];exact k0
theorem bB.ail (h:bB n M) {k:Int} (hk:0≤k) (ht:(M.room k).1=true):∃ g s b,(M.room k).2 = { M.eZ g with st:=s,base:=b}∧Alike M.st.ns M.roots s.ns (M.roots.map g)∧s.size=M.st.size∧s.kd.ok s.ns.length:=by
 have k1:=(h.room hk ht).1.g.st.kd;unfold Mc.room at ht ⊢
 split at ht
 ·rename_i hq;rw [if_pos hq];refine ⟨id,M.st,M.base,by rw [Wf],?_,rfl,h.g.st.kd⟩;rw [List.map_id];exact Wp h.g h.roots
 ·rename_i hq;rw [if_neg hq]
  split at ht
  ·cases ht
  ·rename_i l hl;exact ⟨_,_,_,rfl,aik h.g h.roots hk hl,zi _ _ _,(Wg h.g h.roots hk hl).1.st.kd⟩
theorem Hd (hp:0 < M.aE.length):M.aa.bC∈M.roots:=by
 unfold Mc.roots;exact List.mem_append_left _ (List.mem_append_right _ (List.mem_flatMap.2 ⟨M.aa,Nk hp,by simp [Fr.roots]⟩))
theorem aim (g:Int→Int) (hp:0 < M.aE.length):(M.eZ g).aa=M.aa.eZ g:=by
 simp only [Mc.aa,Mc.eZ,List.length_map];rw [List.getD_eq_getElem?_getD,List.getElem?_map,List.getElem?_eq_getElem (by omega:M.aE.length - 1 < M.aE.length),List.getD_eq_getElem?_getD,List.getElem?_eq_getElem (by omega:M.aE.length - 1 < M.aE.length)];rfl
theorem bB.Wr (h:bB n M) (hp:0 < M.aE.length) {k:Int} (hk:0≤k) (ht:(M.room k).1=true):((M.room k).2.st.nd (M.room k).2.aa.bC).kind=(M.st.nd M.aa.bC).kind:=by
 obtain ⟨g,s,b,e,ha,_⟩:=h.ail hk ht;rw [e];have et:({ M.eZ g with st:=s,base:=b}:Mc).aa=M.aa.eZ g:=aim g hp;rw [et];exact (aij ha (Hd hp)).1
theorem bB.read (h:bB n M) (hp:0 < M.aE.length) (h8:(M.st.nd M.aa.bC).kind=8) :
   NoRoom M (M.read M.aa (M.st.nd M.aa.bC).num)∨bB n (M.read M.aa (M.st.nd M.aa.bC).num):=by
 have hG:=h.pX hp;have bQ:=h.g.nd hG.sd;have jk:=((uj bQ.1).2.2.2.2.1 h8).2;have Bi:=h.aZ.sn;unfold Mc.read
 split
 ·refine .inr (h.Wn (h.g.set (h.g.ov hG.sd) (by show (M.st.nd M.aa.bC).kind≠5;rw [h8];decide) rfl (by simp) (fun a ha=>by cases ha) ⟨(fun e=>by cases e),fun _=>by show (3:Int) < _;omega⟩) (fun a ha=>In.set ha _ _))
 ·rename_i hk
  split
  ·rename_i ht;obtain ⟨k1,k2⟩:=h.room (by omega) ht;obtain ⟨e1,e2,e3,e5,e6,_,g,e4⟩:=zr M 2 ht;exact .inr (k1.Di (by omega) (by rw [h.Wr hp (by omega) ht];exact h8) (by rw [e6];omega) k2)
  ·rename_i ht;exact .inl ⟨2,by omega,by simpa using ht,rfl⟩
theorem bB.unwind (h:bB n M) (hp:0 < M.aE.length) (he:M.ended=0) (wg:M.aa.runs=false):NoRoom M (M.unwind M.aa)∨bB (n+1) (M.unwind M.aa):=by
 have hG:=h.pX hp;have bQ:=h.g.nd hG.sd;unfold Mc.unwind
 split
 ·rename_i hk;refine .inr (h.pY (s':=M.st) (f':={ M.aa with spine:=M.aa.spine++[(M.st.ov M.aa.bC:Int)],bC:=(M.st.nd M.aa.bC).args.getD 0 0}) h.g (fun _ h=>h) ⟨?_,hG.sk,(Wk h.g hG.sd hk).2,?_,hG.oa⟩ (fun _ hr=>by rw [show ({ M.aa with spine:=M.aa.spine++[(M.st.ov M.aa.bC:Int)],bC:=(M.st.nd M.aa.bC).args.getD 0 0}:Fr).runs=M.aa.runs from rfl,wg] at hr;cases hr))
  ·intro a ha;rcases List.mem_append.1 ha with ha | ha
   ·exact hG.sp a ha
   ·obtain rfl:=List.mem_singleton.1 ha;exact h.g.uh hG.sd
  ·have:=hG.xS;show ((M.aa.spine++[_]).length:Int)≤_;simp only [List.length_append,List.length_cons,List.length_nil];omega
 split
 ·rename_i hk
  split
  ·rename_i fU;exact .inr (h.call hp hk fU)
  ·exact h.pP hp he wg
 split
 ·split
  ·exact .inr ((h.fail 5).more (by omega))
  ·exact .inr (h.qK.more (by omega))
 split
 ·rename_i hk;exact (h.read hp hk).imp id (fun h=>h.more (by omega))
 split
 ·exact .inr ((h.fail 5).more (by omega))
 ·exact .inr ((h.fail 4).more (by omega))
theorem bB.runs (h:bB n M) (hp:0 < M.aE.length) (he:M.ended=0) (wg:M.aa.runs=true):NoRoom M M.run∨bB (n+1) M.run:=by
 have hA:ob n M M.dE:=⟨h,hp,he,wg,rfl⟩;have hc:0≤cellsOf M.dE:=by
  have:=hA.io.G7.c1;unfold cellsOf
  split
  ·omega
  split
  ·rename_i h8;exact this (.inr (.inr (.inr h8)))
  ·omega
 unfold Mc.run
 split
 ·rename_i hh;exact .inl ⟨_,hc,hh.2,rfl⟩
 ·rename_i hh
  split
  ·rename_i gv;have ht:(M.room (cellsOf M.dE)).1=true:=by
    cases hb:(M.room (cellsOf M.dE)).1 with
    | true=>rfl
    | false=>exact absurd ⟨gv,hb⟩ hh
   obtain ⟨k1,k2⟩:=h.room hc ht;obtain ⟨e1,e2,e3,e5,e6,_,g,e4⟩:=zr M (cellsOf M.dE) ht;have e4:=e4 hp;refine .inr (ob.exec ⟨k1,by omega,by rw [e3];exact he,by rw [e4];exact wg,?_⟩ (fun _=>k2));show _=((M.room (cellsOf M.dE)).2.aZ.gl (M.room (cellsOf M.dE)).2.aa.jb).ins (M.room (cellsOf M.dE)).2.aa.at';rw [e4,e5];rfl
  ·rename_i gv;exact .inr (hA.exec (fun h=>absurd h gv))
theorem bB.work (h:bB n M) (he:M.ended=0):NoRoom M M.work∨bB (n+1) M.work:=by
 unfold Mc.work
 split
 ·exact .inr (h.tell he)
 ·rename_i hp
  split
  ·rename_i hr;exact h.runs (by omega) he hr
  ·rename_i hr;exact h.unwind (by omega) he (by simpa using hr)
theorem bB.Wu (h:bB n M) (k:Int):bB n { M with steps:=k}:=⟨h.aZ,h.g,h.kS,h.mh,h.mZ,h.pW,h.jJ,h.run,h.base,h.bp,h.jo,h.ln,h.lf,h.lw,h.lt,h.sH⟩
theorem bB.step (h:bB n M) (he:M.ended=0):(NoRoom M M.work∧M.step=M.work)∨(bB (n+1) M.work∧bB (n+1) M.step∧M.step=({ M.work with steps:=M.work.steps+1}:Mc).tidy):=by
 unfold Mc.step;rw [if_neg (by simp [he])];rcases h.work he with hw | hw
 ·exact .inl ⟨hw,by rw [if_pos hw.ended]⟩
 ·rw [if_neg hw.sH];exact .inr ⟨hw,(hw.Wu _).tidy,rfl⟩
end
end
section
open Go Go.W
section
variable {α β:Type} {P Q:α→β→Prop} {l l':List α} {m m':List β}
end
section
variable {ρ:Int→Int}
end
section
variable {ns ms:List Nd} {R:Nat→Nat→Prop}
end
end
section
open Go Go.W
section
variable {ρ:Int→Int} {E:List Nat} {R R':Nat→Nat→Prop} {M1 M2:Mc} {s1 s2:St} {n n1 n2:Int}
end
end
section
open Go Go.W
section
variable {ρ:Int→Int} {E:List Nat} {R:Nat→Nat→Prop} {M1 M2:Mc} {n1 n2:Int}
end
end
section
open Go Go.W
theorem No {M:Mc} {x:Ins} (e:x.op=1):M.exec x=M.bU (M.aa.push (M.aa.place x.a)):=by unfold Mc.exec;rw [if_pos e]
theorem Np {M:Mc} {x:Ins} (e:x.op=2):M.exec x=M.bU (M.aa.push (M.globals.getD x.a.toNat 0)):=by unfold Mc.exec;rw [if_neg (by omega),if_pos e]
theorem Nq {M:Mc} {x:Ins} (e:x.op=3):M.exec x=M.put ⟨1,x.a,[]⟩ 0:=by unfold Mc.exec;rw [if_neg (by omega),if_neg (by omega),if_pos e]
theorem Nr {M:Mc} {x:Ins} (e:x.op=4):M.exec x=M.bU (M.aa.pop x.a):=by unfold Mc.exec;rw [if_neg (by omega),if_neg (by omega),if_neg (by omega),if_pos e]
theorem Ns {M:Mc} {x:Ins} (e:x.op=5):M.exec x=M.bU ((M.aa.pop (x.a+1)).push (M.aa.place 0)):=by unfold Mc.exec;(iterate 4 rw [if_neg (by omega)]);rw [if_pos e]
theorem Nt {M:Mc} {x:Ins} (e:x.op=6):M.exec x=M.put ⟨3,0,[M.aa.place 0,M.aa.place 1]⟩ 2:=by unfold Mc.exec;(iterate 5 rw [if_neg (by omega)]);rw [if_pos e]
theorem Nu {M:Mc} {x:Ins} (e:x.op=7):M.exec x = { M.bU (M.aa.pop 1) with st:=M.st.set (M.st.ov (M.aa.place x.a)) ⟨5,0,[(M.st.ov (M.aa.place 0):Int)]⟩}:=by unfold Mc.exec;(iterate 6 rw [if_neg (by omega)]);rw [if_pos e]
theorem Nv {M:Mc} {x:Ins} (e:x.op=8):M.exec x=M.alloc x.a.toNat:=by unfold Mc.exec;(iterate 7 rw [if_neg (by omega)]);rw [if_pos e]
theorem Nw {M:Mc} {x:Ins} (e:x.op=9):M.exec x=M.put ⟨2,x.a,(List.range (M.aZ.sh x.a).fields.toNat).map fun i:Nat=>M.aa.place (i:Int)⟩ (M.aZ.sh x.a).fields:=by unfold Mc.exec;(iterate 8 rw [if_neg (by omega)]);rw [if_pos e]
theorem Nx {M:Mc} {x:Ins} (e:x.op=10):M.exec x=if (M.st.nd (M.aa.place 0)).kind≠2∨(M.st.nd (M.aa.place 0)).num≠x.a∨((M.st.nd (M.aa.place 0)).args.length:Int)≠(M.aZ.sh x.a).fields then M.fail 5 else M.bU { M.aa.pop 1 with stack:=(M.aa.pop 1).stack++(M.st.nd (M.aa.place 0)).args.reverse}:=by unfold Mc.exec;(iterate 9 rw [if_neg (by omega)]);rw [if_pos e]
theorem Ny {M:Mc} {x:Ins} (e:x.op=11):M.exec x=if (M.st.nd (M.aa.place 0)).kind≠1∧(M.st.nd (M.aa.place 0)).kind≠2 then M.enter (M.nv (M.aa.place 0)) else M:=by unfold Mc.exec;(iterate 10 rw [if_neg (by omega)]);rw [if_pos e]
theorem Nz {M:Mc} {x:Ins} (e:x.op=12):M.exec x=M.arith x:=by unfold Mc.exec;(iterate 11 rw [if_neg (by omega)]);rw [if_pos e]
theorem NA {M:Mc} {x:Ins} (e:x.op=13):M.exec x=M.bU { M.aa with at':=x.a}:=by unfold Mc.exec;(iterate 12 rw [if_neg (by omega)]);rw [if_pos e]
theorem NB {M:Mc} {x:Ins} (e:x.op=14):M.exec x=M.ku (decide ((M.st.nd (M.aa.place 0)).kind≠2)) (decide ((M.st.nd (M.aa.place 0)).num≠x.a)) x.b:=by unfold Mc.exec;(iterate 13 rw [if_neg (by omega)]);rw [if_pos e]
theorem NC {M:Mc} {x:Ins} (e:x.op=15):M.exec x=M.ku (decide ((M.st.nd (M.aa.place 0)).kind≠1)) (decide ((M.st.nd (M.aa.place 0)).num≠x.a)) x.b:=by unfold Mc.exec;(iterate 14 rw [if_neg (by omega)]);rw [if_pos e]
theorem ND {M:Mc} {x:Ins} (e:x.op=16):M.exec x=M.fail x.a:=by unfold Mc.exec;(iterate 15 rw [if_neg (by omega)]);rw [if_pos e]
theorem ain {M:Mc} {x:Ins} (e:x.op=17):M.exec x=M.bU { M.aa with runs:=false,bC:=M.aa.stack.getD 0 0,stack:=[]}:=by unfold Mc.exec;(iterate 16 rw [if_neg (by omega)])
section
variable {ρ:Int→Int} {E:List Nat} {R:Nat→Nat→Prop} {M1 M2:Mc} {n1 n2:Int}
end
end
section
open Go Go.W
def Bj (o:Nat):Nat:=[0,110,113,115,117,119,120,121,123,124,125,126,127,128,129,130,131,133].getD o 0
def zt (o:Nat):Nat:=if o=3∨o=6∨o=9∨o=12 then 114 else if o=8 then 122 else 109
theorem DS {o:Nat} (h:1≤o∧o≤17):o=1∨o=2∨o=3∨o=4∨o=5∨o=6∨o=7∨o=8∨o=9∨o=10∨o=11∨o=12∨o=13∨o=14∨o=15∨o=16∨o=17:=by omega
theorem aio {o:Nat} (h:1≤o∧o≤17):mc[o]? = some [ej (zt o),ej (Bj o)]:=by
 rcases DS h with rfl | rfl | rfl | rfl | rfl | rfl | rfl | rfl | rfl | rfl | rfl | rfl | rfl | rfl | rfl | rfl | rfl<;>rfl
section
variable {d:Option Nat} {ty:TypeId} {pos:String} {af:Array Edge} {ρ:Env} {w:World} {K:Value→World→Prop} {y:Operand} {args:Array Operand} {at':Array TypeId}
theorem aip {o:Nat} (h:1≤o∧o≤17) {vs:List Value} (U:(a7 y).ev ρ=some (ej (Bj o))) (ha:fh ρ (args.toList.map a7)=some vs) (hk:aK Tryz.prog (Bj o) vs w K) :
   E.wp Tryz.prog w ρ K (.raw ⟨d,.call { callee:=.value y,args:=args,argTypes:=at'},ty,pos,af,none⟩):=by
 rcases DS h with rfl | rfl | rfl | rfl | rfl | rfl | rfl | rfl | rfl | rfl | rfl | rfl | rfl | rfl | rfl | rfl | rfl <;>
  exact Fs U ha rfl rfl rfl (by simpa using hk)
theorem aiq {o:Nat} (h:1≤o∧o≤17) {vs:List Value} (U:(a7 y).ev ρ=some (ej (zt o))) (ha:fh ρ (args.toList.map a7)=some vs) (hk:aK Tryz.prog (zt o) vs w K) :
   E.wp Tryz.prog w ρ K (.raw ⟨d,.call { callee:=.value y,args:=args,argTypes:=at'},ty,pos,af,none⟩):=by
 rcases DS h with rfl | rfl | rfl | rfl | rfl | rfl | rfl | rfl | rfl | rfl | rfl | rfl | rfl | rfl | rfl | rfl | rfl <;>
  exact Fs U ha rfl rfl rfl (by simpa using hk)
end
theorem air (w:World) (v:Value):aK Tryz.prog 114 [v] w fun r w'=>r=I 1∧Mod (fun _=>False) w w':=by
 refine agi.calls rfl ?_;unfold L4;refine σ ?_;refine cK rfl ?_;intro w1 ax ag _;refine σ ?_;exact ag
theorem ais (w:World) (v:Value):aK Tryz.prog 109 [v] w fun r w'=>r=I 0∧Mod (fun _=>False) w w':=by
 refine agd.calls rfl ?_;unfold L0;refine σ ?_;refine cK rfl ?_;intro w1 ax ag _;refine σ ?_;exact ag
theorem ait (w:World) (x:Ins):aK Tryz.prog 122 [hU x] w fun r w'=>r=I x.a∧Mod (fun _=>False) w w':=by
 refine agp.calls rfl ?_;unfold Ma;refine σ ?_;refine cK rfl ?_;intro w1 ax ag _;simp only [go_sem,simprocAttr,cell_of ax,Value.cells];exact ag
theorem aiu (w:World) {x:Ins} {o:Nat} (ho:x.op=o) (h:1≤o∧o≤17):aK Tryz.prog (zt o) [hU x] w fun r w'=>r=I (cellsOf x)∧Mod (fun _=>False) w w':=by
 unfold zt cellsOf;by_cases h1:o=3∨o=6∨o=9∨o=12
 ·have sE:x.op=3∨x.op=6∨x.op=9∨x.op=12:=by omega
  simp only [if_pos h1,if_pos sE];exact air w _
 have sE:¬ (x.op=3∨x.op=6∨x.op=9∨x.op=12):=by omega
 simp only [if_neg h1,if_neg sE];by_cases h2:o=8
 ·have py:x.op=8:=by omega
  simp only [if_pos h2,if_pos py];exact ait w x
 ·have py:¬ x.op=8:=by omega
  simp only [if_neg h2,if_neg py];exact ais w _
section
variable {w:World} {τ:Tag} {m:Nat} {S:SV} {M:Mc} {ks:List Nat} {k:Nat} {x:Ins} {n:Int}
theorem aiv (hT:dJ w τ m S M.next ks k) (h:ob n M x) (iw:M.st.kd≠.ref) (eK:0 < cellsOf x→(M.st.ns.length:Int)+cellsOf x≤M.st.size) (hf:M.aE.length≤4294967295) {o:Nat} (ho:x.op=o) :
   aK Tryz.prog (Bj o) [ptr m,ptr k,hU x] w fun _ w'=>∃ dt,aU w τ m S (M.next.exec x) dt w':=by
 have hG:=h.ok.pX h.pos;have hn:=h.io.G7;obtain ⟨s1,s2,s3⟩:=h.st;have ht:=Wi h.pos;have bN:M.next.st=M.st:=rfl;have DT:M.next.aZ=M.aZ:=rfl;have mW:M.next.globals=M.globals:=rfl;have bE:∀ k,M.next.aa.place k=M.aa.place k:=fun k=>by rw [ht];rfl
 have sl:M.next.aa.stack.length=M.aa.stack.length:=by rw [ht]
 have p0:M.aa.place 0∈M.aa.stack:=vX ⟨by omega,by omega⟩;have oa:=hG.oa;have i0:=hG.sk _ p0;have ct:=h.ok.g.st;have oD:M.next.aE.length=M.aE.length:=(qL h.pos _).2;have mh:=h.ok.mh;have o1:=hn.o1;have o2:=hn.o2;have lift:∀ {M':Mc} {f:Nat} {vs:List Value},aK Tryz.prog f vs w (fun _ w'=>aU w τ m S M' ks w')→aK Tryz.prog f vs w (fun _ w'=>∃ dt,aU w τ m S M' dt w'):=fun hh=>hh.mono (fun _ _ h=>⟨_,h⟩)
 have nr:M.next.ref=false:=by unfold Mc.ref;rw [bN];split<;>simp_all
 have mk0:=uj (h.ok.g.nd i0).1;rcases DS (o:=o) (by omega) with rfl | rfl | rfl | rfl | rfl | rfl | rfl | rfl | rfl | rfl | rfl | rfl | rfl | rfl | rfl | rfl | rfl
 ·
  simp [bh,ho] at s1;have ha:=hn.c1 (.inl ho);rw [No ho];exact lift (ahc hT (by omega) ⟨ha,by omega⟩)
 ·have ha:=hn.c2 ho;rw [Np ho];exact lift (ahd hT (by omega) ⟨ha.1,by rw [mW];omega⟩)
 ·have ha:=hn.c3 ho;have hc:cellsOf x=1:=by simp [cellsOf,ho]
  rw [Nq ho];exact lift (ahh hT ct (by omega) (by have:=eK (by omega);rw [bN];omega) (G6 ha))
 ·simp [bh,ho] at s1;have ha:=hn.c1 (.inr (.inl ho));rw [Nr ho];exact lift (ahe hT (by omega) ⟨ha,by omega⟩)
 ·simp [bh,ho] at s1;have ha:=hn.c1 (.inr (.inr (.inl ho)));rw [Ns ho];exact lift (ahi hT (by omega) ⟨ha,by omega⟩)
 ·simp [bh,ho] at s1;have hc:cellsOf x=1:=by simp [cellsOf,ho]
  have p1:M.aa.place 1∈M.aa.stack:=vX ⟨by omega,by omega⟩;rw [Nt ho];refine lift (ahj hT ct (by omega) (by have:=eK (by omega);rw [bN];omega) (by omega) (nY (fun a ha=>?_)));rw [bE,bE] at ha;simp only [List.mem_cons,List.not_mem_nil,or_false] at ha;rcases ha with rfl | rfl
  ·exact i0
  ·exact hG.sk _ p1
 ·simp [bh,ho] at s1;have ha:=hn.c7 ho;have pa:M.aa.place x.a∈M.aa.stack:=vX ⟨by omega,by omega⟩;rw [Nu ho];exact lift (ahl hT ct h.ok.g.ends (by omega) ⟨by omega,by omega⟩ (by rw [bE];exact hG.sk _ pa) (by rw [bE];exact i0))
 ·simp [bh,ho] at s1;have ha:=hn.c1 (.inr (.inr (.inr ho)));have hc:cellsOf x=x.a:=by simp [cellsOf,ho]
  have hr:(M.st.ns.length:Int)+x.a.toNat≤M.st.size:=by
   by_cases h0:x.a=0
   ·have:=h.ok.g.st.len;rw [h0];simpa using this
   ·have:=eK (by omega);omega
  rw [Nv ho];exact lift (aho hT ct (n:=x.a.toNat) (by omega) (by omega) hr (fun i hi=>(h.ok.g.ue i (by omega)).st))
 ·have kz:=Wh h.ok.aZ (hn.c9 (.inl ho));obtain ⟨k',hk⟩:∃ k:Nat,(M.aZ.sh x.a).fields=k:=⟨(M.aZ.sh x.a).fields.toNat,by omega⟩;have hc:cellsOf x=1:=by simp [cellsOf,ho]
  simp [bh,ho,hk] at s1;have ha:=hn.c9 (.inl ho);rw [Nw ho];have e1:(M.next.aZ.sh x.a).fields=(k':Int):=hk;rw [e1,Int.toNat_natCast];refine lift (ahC hT ct (n:=k') ha e1 (by omega) (by omega) (by omega) (by have:=eK (by omega);rw [bN];omega) (nY (fun a ha=>?_)));unfold fieldsOf at ha;exact hG.sk _ (by have:=Wj (f:=M.next.aa) (k:=k') (by omega) a ha;rw [ht] at this;exact this)
 ·simp [bh,ho] at s1;rw [Nx ho];have h8:(M.st.nd (M.aa.place 0)).args.length≤8:=by
   have:=(h.ok.g.nd i0).1;simp only [Nd.may,gU,decide_eq_true_eq] at this;omega
  exact lift (ahJ hT ct h.ok.g.ends (by omega) (by omega) (by rw [bE];exact i0) (hn.c9 (.inr (.inl ho))) (by rw [bE];exact h8))
 ·rw [Ny ho];have e:M.next.nv (M.next.aa.place 0)=M.next.aa.place 0:=by unfold Mc.nv;rw [nr];rfl
  rw [e];exact ahs hT ct h.ok.g.ends (by omega) (by omega) (by rw [bE];exact i0) (by omega)
 ·simp [bh,ho] at s1;have hc:cellsOf x=1:=by simp [cellsOf,ho]
  have p1:M.aa.place 1∈M.aa.stack:=vX ⟨by omega,by omega⟩;rw [Nz ho];exact lift (ahy hT ct h.ok.g.ends (by omega) (by omega) (by rw [bE];exact i0) (by rw [bE];exact hG.sk _ p1) (by have:=eK (by omega);rw [bN];omega) h.going (hn.c12 ho))
 ·rw [NA ho];exact lift (ahf hT)
 ·rw [NB ho];exact lift (ahq hT ct h.ok.g.ends (by omega) (by omega) (by rw [bE];exact i0))
 ·rw [NC ho];exact lift (ahr hT ct h.ok.g.ends (by omega) (by omega) (by rw [bE];exact i0))
 ·rw [ND ho];exact lift (ahg hT)
 ·rw [ain ho];exact lift (ahk hT (by omega))
end
end
section
open Go Go.W
section
variable {ρ:Int→Int} {E:List Nat} {R:Nat→Nat→Prop} {M1 M2:Mc} {n1 n2 n:Int} {M:Mc}
def DU (M:Mc):Nat:=(bK M.st.ns 0 M.roots).length
end
end
section
open Go Go.W
section
variable {ρ:Int→Int} {E:List Nat} {R:Nat→Nat→Prop} {M1 M2:Mc} {n1 n2 n:Int} {M:Mc}
theorem aiw (h:bB n M):DU M≤M.st.ns.length:=by
 have:=sq h.g.st.wf (Nat.zero_le _) (nY h.roots:bJ M.st.ns.length M.roots=true);exact xt this.1
structure Out (M M':Mc):Prop where
 ended:M'.ended=5
 aE:M'.aE=M.aE
 told:M'.told=M.told
 steps:M'.steps=M.steps
 stuck:M'.stuck=M.stuck
 live:M'.live=DU M
theorem NE (ns:List Nd) (rs:List Int):(jB ns rs).length=(bK ns 0 rs).length:=by
 rw [(vU ns rs).1,sr,Nat.zero_add]
theorem aix {T:bH} {s:St} {roots:List Int} (hg:dv T s) (hr:∀ a∈roots,s.In a) {k:Int} (hk:0≤k) :
   ((ei s k roots).1=none→k > s.size - (bK s.ns 0 roots).length∧((iX s.ns roots).length=(bK s.ns 0 roots).length)∧(s.kd≠.ref→(ei s k roots).2.ns.length=(bK s.ns 0 roots).length)) ∧
    ((ei s k roots).1≠none→k≤s.size - (bK s.ns 0 roots).length):=by
 have bE:bJ s.ns.length roots=true:=nY hr;have hle:(bK s.ns 0 roots).length≤s.ns.length:=xt (sq hg.st.wf (Nat.zero_le _) bE).1;obtain ⟨kd,sz,ns⟩:=s;cases kd with
 | hp t=>
  simp only [ei,jl];simp only at bE hle;rw [if_neg (by omega),if_neg (by simp [bE])]
  split
  ·rename_i hh;exact ⟨(fun e=>by cases e),fun _=>by omega⟩
  ·rename_i hh;rw [NE]
   split
   ·rename_i cQ;exact ⟨fun _=>⟨cQ,by rw [qO],fun _=>NE _ _⟩,fun e=>absurd rfl e⟩
   ·rename_i cQ;exact ⟨(fun e=>by cases e),fun _=>by omega⟩
 | gn y o t=>
  have kP:=hg.st.kd;have bt:o≤ns.length:=kP.1;have hw:WF ns:=hg.st.wf;have h1:=hg.small (s:=⟨.gn y o t,sz,ns⟩) (fr:=o) bt (roots:=roots) hr (kd:=.gn y (b9 ns o roots).length (IntKind.i64.wrap (t+1))) ⟨Nat.le_refl _,kP.2⟩;have a1:=DR hg (fr:=o) bt hr;simp only at bE hle a1;have o2:bJ (b9 ns o roots).length (fm ns o roots)=true:=nY (fun a ha=>by obtain ⟨c,hc,rfl⟩:=List.mem_map.1 ha;exact h1.2 c hc);have cnt:(bK ns 0 roots).length=(bK (b9 ns o roots) 0 (fm ns o roots)).length:=ah0 hw h1.1.st.wf bE o2 a1;have cle:(bK (b9 ns o roots) 0 (fm ns o roots)).length≤(b9 ns o roots).length:=xt (sq h1.1.st.wf (Nat.zero_le _) o2).1;simp only [ei,ja];rw [if_neg (by omega),if_neg (by simp [bE])]
  split
  ·rename_i hh;exact ⟨(fun e=>by cases e),fun _=>by omega⟩
  ·rename_i hh
   split
   ·rename_i cQ;unfold sA;rw [sr,Nat.zero_add]
    split
    ·rename_i qQ;exact ⟨fun _=>⟨by omega,by rw [qO],fun _=>by show (b9 _ 0 _).length=_;rw [sr,Nat.zero_add,cnt]⟩,fun e=>absurd rfl e⟩
    ·rename_i qQ;exact ⟨(fun e=>by cases e),fun _=>by omega⟩
   ·rename_i cQ;exact ⟨(fun e=>by cases e),fun _=>by omega⟩
 | ref=>
  simp only [ei];rw [NE]
  split
  ·rename_i hh;exact ⟨fun _=>⟨hh,by rw [qO],fun e=>absurd rfl e⟩,fun e=>absurd rfl e⟩
  ·exact ⟨(fun e=>by cases e),fun _=>by omega⟩
theorem aiy (h:bB n M) {k:Int} (hk:0≤k):((M.room k).1=true→k≤M.st.size - DU M)∧((M.room k).1=false→k > M.st.size - DU M∧Out M (M.room k).2):=by
 have hle:=aiw h;obtain ⟨f1,f2⟩:=aix h.g h.roots hk;unfold Mc.room
 split
 ·rename_i hq;simp only [Mc.quick,Bool.and_eq_true,decide_eq_true_eq] at hq;have:=hq.1;exact ⟨fun _=>by omega,(fun e=>by cases e)⟩
 ·rename_i hq
  split
  ·rename_i hn;obtain ⟨g1,g2,g3⟩:=f1 hn;refine ⟨(fun e=>by cases e),fun _=>⟨g1,⟨rfl,rfl,rfl,rfl,rfl,?_⟩⟩⟩;show (if M.ref then ((iX M.st.ns M.roots).length:Int) else ((ei M.st k M.roots).2.ns.length:Int))=DU M;have iw:M.ref=false→M.st.kd≠.ref:=by
    intro hb e;unfold Mc.ref at hb;rw [e] at hb;cases hb
   split
   ·rw [g2];rfl
   ·rename_i hr;rw [g3 (iw (by simpa using hr))];rfl
  ·rename_i l hn;exact ⟨fun _=>f2 (by rw [hn];simp),(fun e=>by cases e)⟩
theorem aiz (M:Mc) (k:Int):(M.room k).2.st.size=M.st.size:=by
 unfold Mc.room
 split
 ·rfl
 ·split
  ·exact zi _ _ _
  ·exact zi _ _ _
end
end
section
open Go Go.W
structure Stat (M M':Mc):Prop where
 aZ:M'.aZ=M.aZ
 size:M'.st.size=M.st.size
 gl:M'.globals.length=M.globals.length
 jo:M'.input=M.input
 every:M'.every=M.every
 b8:M'.b8=M.b8
 bp:M'.bp=M.bp
theorem Stat.refl (M:Mc):Stat M M:=⟨rfl,rfl,rfl,rfl,rfl,rfl,rfl⟩
theorem Stat.trans {M M' DV:Mc} (h:Stat M M') (k:Stat M' DV):Stat M DV:=
 ⟨k.aZ.trans h.aZ,k.size.trans h.size,k.gl.trans h.gl,k.jo.trans h.jo,k.every.trans h.every,k.b8.trans h.b8,k.bp.trans h.bp⟩
theorem Bk (M:Mc) (k:Int):Stat M (M.room k).2:=by
 refine ⟨?_,aiz M k,?_,?_,?_,?_,?_⟩
 all_goals unfold Mc.room
 all_goals split
 all_goals first | rfl | (split<;>simp [Mc.after,Mc.eZ])
theorem Wv (M:Mc) (x:Ins):Stat M (M.exec x):=by
 have ha:Stat M (M.arith x):=by
  unfold Mc.arith
  split
  ·exact ⟨rfl,rfl,rfl,rfl,rfl,rfl,rfl⟩
  split<;>exact ⟨rfl,rfl,rfl,rfl,rfl,rfl,rfl⟩
 have hj:∀ p q b,Stat M (M.ku p q b):=by
  intro p q b;unfold Mc.ku
  split
  ·exact ⟨rfl,rfl,rfl,rfl,rfl,rfl,rfl⟩
  split<;>exact ⟨rfl,rfl,rfl,rfl,rfl,rfl,rfl⟩
 by_cases e1:x.op=1
 ·rw [No e1];exact ⟨rfl,rfl,rfl,rfl,rfl,rfl,rfl⟩
 by_cases e2:x.op=2
 ·rw [Np e2];exact ⟨rfl,rfl,rfl,rfl,rfl,rfl,rfl⟩
 by_cases e3:x.op=3
 ·rw [Nq e3];exact ⟨rfl,rfl,rfl,rfl,rfl,rfl,rfl⟩
 by_cases e4:x.op=4
 ·rw [Nr e4];exact ⟨rfl,rfl,rfl,rfl,rfl,rfl,rfl⟩
 by_cases e5:x.op=5
 ·rw [Ns e5];exact ⟨rfl,rfl,rfl,rfl,rfl,rfl,rfl⟩
 by_cases e6:x.op=6
 ·rw [Nt e6];exact ⟨rfl,rfl,rfl,rfl,rfl,rfl,rfl⟩
 by_cases e7:x.op=7
 ·rw [Nu e7];exact ⟨rfl,rfl,rfl,rfl,rfl,rfl,rfl⟩
 by_cases e8:x.op=8
 ·rw [Nv e8];exact ⟨rfl,rfl,rfl,rfl,rfl,rfl,rfl⟩
 by_cases e9:x.op=9
 ·rw [Nw e9];exact ⟨rfl,rfl,rfl,rfl,rfl,rfl,rfl⟩
 by_cases sI:x.op=10
 ·rw [Nx sI];split<;>exact ⟨rfl,rfl,rfl,rfl,rfl,rfl,rfl⟩
 by_cases zu:x.op=11
 ·rw [Ny zu];split<;>exact ⟨rfl,rfl,rfl,rfl,rfl,rfl,rfl⟩
 by_cases DW:x.op=12
 ·rw [Nz DW];exact ha
 by_cases DX:x.op=13
 ·rw [NA DX];exact ⟨rfl,rfl,rfl,rfl,rfl,rfl,rfl⟩
 by_cases DY:x.op=14
 ·rw [NB DY];exact hj _ _ _
 by_cases DZ:x.op=15
 ·rw [NC DZ];exact hj _ _ _
 by_cases D3:x.op=16
 ·rw [ND D3];exact ⟨rfl,rfl,rfl,rfl,rfl,rfl,rfl⟩
 unfold Mc.exec;rw [if_neg e1,if_neg e2,if_neg e3,if_neg e4,if_neg e5,if_neg e6,if_neg e7,if_neg e8,if_neg e9,if_neg sI,if_neg zu,if_neg DW,if_neg DX,if_neg DY,if_neg DZ,if_neg D3];exact ⟨rfl,rfl,rfl,rfl,rfl,rfl,rfl⟩
theorem aiA (M:Mc):Stat M M.run:=by
 unfold Mc.run
 split
 ·exact Bk _ _
 split
 ·exact (Bk _ _).trans ((show Stat (M.room (cellsOf M.dE)).2 (M.room (cellsOf M.dE)).2.next from ⟨rfl,rfl,rfl,rfl,rfl,rfl,rfl⟩).trans (Wv _ _))
 ·exact (show Stat M M.next from ⟨rfl,rfl,rfl,rfl,rfl,rfl,rfl⟩).trans (Wv _ _)
theorem NF (M:Mc):Stat M M.work:=by
 have hl:Stat M M.pP:=by
  unfold Mc.pP
  split
  ·exact ⟨rfl,rfl,rfl,rfl,rfl,rfl,rfl⟩
  split
  ·exact ⟨rfl,rfl,rfl,rfl,rfl,rfl,rfl⟩
  split
  ·exact (Bk _ _).trans ⟨rfl,rfl,rfl,rfl,rfl,rfl,rfl⟩
  ·exact Bk _ _
 have hr:∀ f k,Stat M (M.read f k):=by
  intro f k;unfold Mc.read
  split
  ·exact ⟨rfl,rfl,rfl,rfl,rfl,rfl,rfl⟩
  split
  ·exact (Bk _ _).trans ⟨rfl,rfl,rfl,rfl,rfl,rfl,rfl⟩
  ·exact Bk _ _
 unfold Mc.work
 split
 ·unfold Mc.tell
  split<;>exact ⟨rfl,rfl,rfl,rfl,rfl,rfl,rfl⟩
 split
 ·exact aiA M
 ·unfold Mc.unwind Mc.call
  repeat' split
  all_goals first | exact hl | exact hr _ _ | exact ⟨rfl,rfl,rfl,rfl,rfl,rfl,rfl⟩
theorem NG (s:St) (roots:List Int):(mU s roots).2.size=s.size:=by
 obtain ⟨kd,sz,ns⟩:=s;cases kd<;>rfl
theorem aiB (M:Mc):Stat M M.tidy:=by
 unfold Mc.tidy
 split
 ·exact ⟨rfl,NG _ _,by simp [Mc.after,Mc.eZ],rfl,rfl,rfl,rfl⟩
 ·exact Stat.refl M
theorem Ww (M:Mc):Stat M M.step:=by
 unfold Mc.step
 split
 ·exact Stat.refl M
 split
 ·exact NF M
 ·exact (NF M).trans ((show Stat M.work { M.work with steps:=M.work.steps+1} from ⟨rfl,rfl,rfl,rfl,rfl,rfl,rfl⟩).trans (aiB _))
section
variable {ρ:Int→Int} {E:List Nat} {R:Nat→Nat→Prop} {M1 M2:Mc} {n1 n2 n:Int} {M:Mc}
theorem Wx (h:bB n M) {M':Mc} (hn:NoRoom M M'):Out M M':=by
 obtain ⟨k,hk,hf,rfl⟩:=hn;exact ((aiy h hk).2 hf).2
def Mc.ee (M:Mc):Nat→Mc
 | 0=>M
 | k+1=>(M.ee k).step
theorem aiC (M:Mc) (k:Nat):Stat M (M.ee k):=by
 induction k with
 | zero=>exact Stat.refl M
 | succ k ih=>exact ih.trans (Ww _)
end
end
section
open Go Go.W
structure oc (M M':Mc):Prop where
 steps:M'.steps=M.steps
 kd:M.st.kd≠.ref→M'.st.kd≠.ref
theorem oc.trans {M M' DV:Mc} (h:oc M M') (k:oc M' DV):oc M DV:=⟨k.steps.trans h.steps,fun e=>k.kd (h.kd e)⟩
theorem Wy (s:St) (hr:s.kd≠.ref) (n:Int) (roots:List Int):(ei s n roots).2.kd≠.ref:=by
 obtain ⟨kd,sz,ns⟩:=s;cases kd with
 | ref=>exact absurd rfl hr
 | hp t=>intro e;cases e
 | gn y o t=>intro e;cases e
theorem aiD (s:St) (hr:s.kd≠.ref) (roots:List Int):(mU s roots).2.kd≠.ref:=by
 obtain ⟨kd,sz,ns⟩:=s;cases kd with
 | ref=>exact absurd rfl hr
 | hp t=>intro e;cases e
 | gn y o t=>intro e;cases e
theorem Wz (M:Mc) (hr:M.st.kd≠.ref) (k:Int):(M.room k).2.st.kd≠.ref:=by
 unfold Mc.room
 split
 ·exact hr
 ·split
  ·exact Wy _ hr _ _
  ·exact Wy _ hr _ _
theorem Bl (M:Mc) (k:Int):oc M (M.room k).2:=by
 refine ⟨?_,fun h=>Wz M h k⟩;unfold Mc.room
 split
 ·rfl
 ·split<;>rfl
theorem WA (M:Mc) (x:Ins):oc M (M.exec x):=by
 have ha:oc M (M.arith x):=by
  unfold Mc.arith
  split
  ·exact ⟨rfl,fun h=>h⟩
  split<;>exact ⟨rfl,fun h=>h⟩
 have hj:∀ p q b,oc M (M.ku p q b):=by
  intro p q b;unfold Mc.ku
  split
  ·exact ⟨rfl,fun h=>h⟩
  split<;>exact ⟨rfl,fun h=>h⟩
 by_cases e1:x.op=1
 ·rw [No e1];exact ⟨rfl,fun h=>h⟩
 by_cases e2:x.op=2
 ·rw [Np e2];exact ⟨rfl,fun h=>h⟩
 by_cases e3:x.op=3
 ·rw [Nq e3];exact ⟨rfl,fun h=>h⟩
 by_cases e4:x.op=4
 ·rw [Nr e4];exact ⟨rfl,fun h=>h⟩
 by_cases e5:x.op=5
 ·rw [Ns e5];exact ⟨rfl,fun h=>h⟩
 by_cases e6:x.op=6
 ·rw [Nt e6];exact ⟨rfl,fun h=>h⟩
 by_cases e7:x.op=7
 ·rw [Nu e7];exact ⟨rfl,fun h=>h⟩
 by_cases e8:x.op=8
 ·rw [Nv e8];exact ⟨rfl,fun h=>h⟩
 by_cases e9:x.op=9
 ·rw [Nw e9];exact ⟨rfl,fun h=>h⟩
 by_cases sI:x.op=10
 ·rw [Nx sI];split<;>exact ⟨rfl,fun h=>h⟩
 by_cases zu:x.op=11
 ·rw [Ny zu];split<;>exact ⟨rfl,fun h=>h⟩
 by_cases DW:x.op=12
 ·rw [Nz DW];exact ha
 by_cases DX:x.op=13
 ·rw [NA DX];exact ⟨rfl,fun h=>h⟩
 by_cases DY:x.op=14
 ·rw [NB DY];exact hj _ _ _
 by_cases DZ:x.op=15
 ·rw [NC DZ];exact hj _ _ _
 by_cases D3:x.op=16
 ·rw [ND D3];exact ⟨rfl,fun h=>h⟩
 unfold Mc.exec;rw [if_neg e1,if_neg e2,if_neg e3,if_neg e4,if_neg e5,if_neg e6,if_neg e7,if_neg e8,if_neg e9,if_neg sI,if_neg zu,if_neg DW,if_neg DX,if_neg DY,if_neg DZ,if_neg D3];exact ⟨rfl,fun h=>h⟩
theorem aiE (M:Mc):oc M M.run:=by
 unfold Mc.run
 split
 ·exact Bl _ _
 split
 ·exact (Bl _ _).trans ((show oc (M.room (cellsOf M.dE)).2 (M.room (cellsOf M.dE)).2.next from ⟨rfl,fun h=>h⟩).trans (WA _ _))
 ·exact (show oc M M.next from ⟨rfl,fun h=>h⟩).trans (WA _ _)
theorem D4 (M:Mc):oc M M.work:=by
 have hl:oc M M.pP:=by
  unfold Mc.pP
  split
  ·exact ⟨rfl,fun h=>h⟩
  split
  ·exact ⟨rfl,fun h=>h⟩
  split
  ·exact (Bl _ _).trans ⟨rfl,fun h=>h⟩
  ·exact Bl _ _
 have hr:∀ f k,oc M (M.read f k):=by
  intro f k;unfold Mc.read
  split
  ·exact ⟨rfl,fun h=>h⟩
  split
  ·exact (Bl _ _).trans ⟨rfl,fun h=>h⟩
  ·exact Bl _ _
 unfold Mc.work
 split
 ·unfold Mc.tell
  split<;>exact ⟨rfl,fun h=>h⟩
 split
 ·exact aiE M
 ·unfold Mc.unwind Mc.call
  repeat' split
  all_goals first | exact hl | exact hr _ _ | exact ⟨rfl,fun h=>h⟩
theorem WB (M:Mc):oc M M.tidy:=by
 unfold Mc.tidy
 split
 ·exact ⟨rfl,fun h=>aiD _ h _⟩
 ·exact ⟨rfl,fun h=>h⟩
theorem WC {M:Mc} (h:M.st.kd≠.ref):M.step.st.kd≠.ref:=by
 unfold Mc.step
 split
 ·exact h
 split
 ·exact (D4 M).kd h
 ·exact (WB _).kd (show ({ M.work with steps:=M.work.steps+1}:Mc).st.kd≠.ref from (D4 M).kd h)
theorem WD (M:Mc):M.step.steps=if M.ended=0∧M.work.ended≠5 then M.steps+1 else M.steps:=by
 unfold Mc.step
 split
 ·rename_i h;rw [if_neg (fun e=>h e.1)]
 ·rename_i h;have h:M.ended=0:=Classical.byContradiction h
  split
  ·rename_i h5;rw [if_neg (fun e=>e.2 h5)];exact (D4 M).steps
  ·rename_i h5;rw [if_pos ⟨h,h5⟩,(WB _).steps];show M.work.steps+1=_;rw [(D4 M).steps]
theorem aiF {n:Int} {s:St}:∀ (l:List Fr),(∀ f∈l,qP s n f)→((l.flatMap Fr.roots).length:Int)≤l.length*(n+8001):=by
 intro l
 induction l with
 | nil=>intro _;simp
 | cons f l ih=>
  intro h;have h1:=ih (fun f hf=>h f (by simp [hf]));have h2:=h f (by simp);have e:(f.roots.length:Int)≤n+8001:=by
   have:=h2.xS;have:=h2.oa;simp only [Fr.roots,List.length_append,List.length_cons,List.length_nil];omega
  simp only [List.flatMap_cons,List.length_append,List.length_cons];have e2:((l.length+1:Nat):Int)*(n+8001)=(l.length:Int)*(n+8001)+(n+8001):=by
   rw [show ((l.length+1:Nat):Int)=(l.length:Int)+1 by omega,Int.add_mul,Int.one_mul]
  omega
theorem bB.WE {n:Int} {M:Mc} (h:bB n M) (hn:n≤1000000):M.roots.length≤17592186044416:=by
 have h1:=aiF M.aE h.jJ;have h2:=h.lf;have h3:=h.lw;have h4:=h.mh;have h5:=h.aZ.gn;have h6:(M.aE.length:Int)*(n+8001)≤1000000*1008001:=Int.mul_le_mul (by omega) (by omega) (by have:=h.ln;omega) (by omega);unfold Mc.roots;simp only [List.length_append];omega
end
section
open Go Go.W
theorem sJ {w:World} {a:Addr} {v0 v1:Value} (h0:w.cell? (a.add 0)=some v0) (h1:w.cell? (a.add 1)=some v1):cH w 2 (.pointer (some a))=some (.agg #[v0,v1]):=by
 simp [cH,jv,h0,h1]
theorem NH {w:World} {a:Addr} {v0 v1 v2:Value} (h0:w.cell? (a.add 0)=some v0) (h1:w.cell? (a.add 1)=some v1) (h2:w.cell? (a.add 2)=some v2):cH w 3 (.pointer (some a))=some (.agg #[v0,v1,v2]):=by
 simp [cH,jv,h0,h1,h2]
theorem He {w:World} {cu ci:Value} {T:bH} {B:Nat→Prop} (h:fM w cu ci T B) {i:Nat} (hi:i < T.globals.length) :
   ∃ ad c cv,ci = .slice (some ad) T.globals.length c∧B ad.block∧w.cell? ((ad.add (i*3)).add 0)=some (.string (T.gl i).name)∧w.cell? ((ad.add (i*3)).add 1)=some (I (T.gl i).arity)∧w.cell? ((ad.add (i*3)).add 2)=some cv∧cO w cv 3 ((T.gl i).code.map nR) B:=by
 obtain ⟨h1,iv,h2,h3,h4⟩:=h;have hl:(List.zipWith (fun (g:Gl) (v:Value)=>[.string g.name,I g.arity,v]) T.globals iv).length=T.globals.length:=by simp [h2]
 have hic:i < iv.length:=by omega
 have hB:=h3;obtain ⟨ad,c,rfl,k1,k2⟩:=DC h3 (i:=i) (by omega);obtain ⟨_,_,e,hB,_⟩:=hB;cases e;have e:T.gl (i:Int)=T.globals[i]:=by unfold bH.gl;rw [Int.toNat_natCast,List.getD_eq_getElem?_getD,List.getElem?_eq_getElem hi];rfl
 refine ⟨ad,c,iv[i],by rw [hl],hB (by omega) _ rfl,?_,?_,?_,?_⟩
 ·have:=k2 0 (by rw [k1];omega);rw [this,e];simp
 ·have:=k2 1 (by rw [k1];omega);rw [this,e];simp
 ·have:=k2 2 (by rw [k1];omega);rw [this];simp
 ·rw [e];exact h4 i _ _ (List.getElem?_eq_getElem hi) (List.getElem?_eq_getElem hic)
theorem NI {w:World} {cv:Value} {g:Gl} {B:Nat→Prop} (h:cO w cv 3 (g.code.map nR) B) {i:Nat} (hi:i < g.code.length) :
   ∃ ad c,cv = .slice (some ad) g.code.length c∧B ad.block∧cH w 3 (.pointer (some (ad.add (i*3))))=some (hU (g.ins i)):=by
 have hB:=h;obtain ⟨ad,c,rfl,k1,k2⟩:=DC h (i:=i) (by simpa using hi);obtain ⟨_,_,e,hB,_⟩:=hB;cases e;have e:g.ins (i:Int)=g.code[i]:=by unfold Gl.ins;rw [Int.toNat_natCast,List.getD_eq_getElem?_getD,List.getElem?_eq_getElem hi];rfl
 refine ⟨ad,c,by simp,hB (by simp;omega) _ rfl,?_⟩;rw [e];refine NH ?_ ?_ ?_
 ·rw [k2 0 (by rw [k1];omega)];simp [nR]
 ·rw [k2 1 (by rw [k1];omega)];simp [nR]
 ·rw [k2 2 (by rw [k1];omega)];simp [nR]
theorem aiG {w:World} {v:Value} {B:Nat→Prop} (h:cO w v 2 mc B) {o:Nat} (ho:1≤o∧o≤17):∃ ad c,v = .slice (some ad) 18 c∧B ad.block∧cH w 2 (.pointer (some (ad.add (o*2))))=some (.agg #[ej (zt o),ej (Bj o)]):=by
 have hB:=h;have hl:o < mc.length:=by show o < 18;omega
 obtain ⟨ad,c,rfl,k1,k2⟩:=DC h hl;obtain ⟨_,_,e,hB,_⟩:=hB;cases e;have e:=aio ho;rw [List.getElem?_eq_getElem hl] at e;have e:mc[o]=[ej (zt o),ej (Bj o)]:=by simpa using e
 refine ⟨ad,c,rfl,hB (by omega) _ rfl,sJ ?_ ?_⟩
 ·rw [k2 0 (by rw [k1];omega)];simp [e]
 ·rw [k2 1 (by rw [k1];omega)];simp [e]
section
variable {w:World} {τ:Tag} {m:Nat} {S:SV} {M:Mc} {ks:List Nat} {k:Nat} {x:Ins} {n:Int}
theorem aiH (hT:dJ w τ m S M ks k) (h:ob n M M.dE) (iw:M.st.kd≠.ref) (hf:M.aE.length≤4294967295) (hR:M.roots.length≤17592186044416) :
   aK Tryz.prog 80 [ptr m,ptr k] w fun _ w'=>∃ dt,aU w τ m S M.run dt w':=by
 have hr:=h.run;have hn:=h.io.G7;obtain ⟨g,hg⟩:∃ g:Nat,M.aa.jb=g:=⟨M.aa.jb.toNat,by have:=hr.gl;omega⟩;obtain ⟨i,hi⟩:∃ i:Nat,M.aa.at'=i:=⟨M.aa.at'.toNat,by have:=hr.at';omega⟩;have mW:g < M.aZ.globals.length:=by have:=hr.gl;omega
 have gz:i < (M.aZ.gl g).code.length:=by have:=hr.at';rw [hg,hi] at this;omega
 have Bn:dJ w.drew τ m S M ks k:=hT.mod ((Mod.refl (fun _=>False) w).drew) (dV _ _).wx (fun _ _ h=>h.elim);obtain ⟨vG,vF,vW,vT,fg,ff,fw,ft,F,hh⟩:=Bn.at';obtain ⟨vs,vp,fs,fp,hF⟩:=Bn.fr;have hc:=hh.cells;have um:=hF.cells;obtain ⟨ad,c,cv,D5,B1,_,_,gH,zv⟩:=He hh.aZ mW;obtain ⟨ad2,c2,rfl,B2,ed⟩:=NI zv gz;have b1:(0:Int)≤g∧(g:Int) < M.aZ.globals.length:=by omega
 have b2:(0:Int)≤i∧(i:Int) < (M.aZ.gl g).code.length:=by omega
 have U:(M.aZ.gl g).ins i=M.dE:=by unfold Mc.dE;rw [hg,hi]
 rw [U] at ed;refine af6.calls rfl ?_;unfold LO;have aiI:w.cell? ⟨(ad.add (g*3)).block,(ad.add (g*3)).off+2,none⟩=_:=gH;have bz:w.heap[m]? = _:=hc;have aiJ:w.heap[k]? = _:=um;simp only [go_sem,Nat.reduceAdd,Nat.reduceEqDiff,Nat.reduceLT,Nat.reduceLeDiff,Nat.reduceMul,reduceCtorEq,↓reduceIte,an,bq,cell_of bz,bb,D5,cell_of aiJ,cC,hg,hi,b1,b2,aiI,ed,ptr];have k0:k < w.drew.heap.size:=lt_of_heap um;have m0:m < w.drew.heap.size:=lt_of_heap hc;refine dk ?_;intro w1 ax ag _;refine ⟨⟨ag.old _ (by rw [rA];exact B2.1) (fun h=>h),ag.old _ k0 (fun h=>h),ag.old _ (by rw [rA];exact B1.1) (fun h=>h),ag.old _ k0 (fun h=>h),ag.old _ m0 (fun h=>h)⟩,?_⟩;refine cX (cs:=[I 0,I 0,I 0]) rfl rfl ax rfl rfl (by simp [Value.oneCell']) ?_;intro w2 aC ae dq;have cq:Mod (fun _=>False) w.drew w2:=ag.step ae (fun x U hl=>by subst U;exact absurd hl (Nat.lt_irrefl _));have h2:=Bn.later cq.drew;obtain ⟨o,ho⟩:∃ o:Nat,M.dE.op=o:=⟨M.dE.op.toNat,by have:=hn.o1;omega⟩;have Hf:1≤o∧o≤17:=by have:=hn.o1;have:=hn.o2;omega
 obtain ⟨WG,WH,WI,WJ,WK,D6,WL,Hg,F2,cQ⟩:=h2.at';have cB:w2.heap[m]? = _:=cQ.cells;obtain ⟨ad3,c3,hvR,B3,aiK⟩:=aiG cQ.rows Hf;have b3:(0:Int)≤o∧(o:Int) < ((18:Nat):Int):=by omega
 have m2:m < w2.heap.size:=lt_of_heap cB;rw [ho] at aC;have iI:w2.heap[w.heap.size]? = _:=aC;simp only [go_sem,Nat.reduceAdd,Nat.reduceEqDiff,Nat.reduceLT,Nat.reduceLeDiff,Nat.reduceMul,reduceCtorEq,↓reduceIte,an,bq,cell_of cB,bb,hvR,cell_of iI,ho,b3,aiK];refine dk ?_;intro w3 aJ ab _;have l2:w.heap.size < w2.heap.size:=lt_of_heap iI;refine ⟨⟨ab.old _ (by rw [rA];exact B3.1) (fun h=>h),ab.old _ l2 (fun h=>h),ab.old _ m2 (fun h=>h)⟩,?_⟩;refine cX (cs:=[.nilFunc,.nilFunc]) rfl rfl aJ rfl rfl (by simp [Value.oneCell',ej]) ?_;intro w4 aH ai eu;have du:Mod (fun _=>False) w2.drew w4:=ab.step ai (fun x U hl=>by subst U;exact absurd hl (Nat.lt_irrefl _));have vj:w4.heap[w.heap.size]? = _:=du.at (b:=w.heap.size) iI (fun h=>h);have yE:w4.heap[w2.heap.size]? = _:=aH;simp only [go_sem,Nat.reduceAdd,Nat.reduceEqDiff,Nat.reduceLT,Nat.reduceLeDiff,Nat.reduceMul,reduceCtorEq,↓reduceIte,an,bq,cell_of yE,dM (cs:=[_,_,_]) (off:=0) (n:=3) vj (by simp)];have eh:Mod (fun _=>False) w.drew w4:=cq.drew.trans du;have WM:(Value.agg #[I (o:Int),I M.dE.a,I M.dE.b])=hU M.dE:=by rw [hU,ho]
 refine aiq Hf rfl (by rfl) ?_;show aK _ _ [Value.agg #[I (o:Int),I M.dE.a,I M.dE.b]] _ _;rw [WM];refine (aiu w4 ho Hf).mono ?_;rintro _ w5 ⟨rfl,aB⟩;have dH:=eh.trans aB;have h5:=Bn.later dH;have xl:=aB.at vj (fun h=>h);have zw:=aB.at yE (fun h=>h);have gO:0≤cellsOf M.dE∧cellsOf M.dE≤4294967296:=by
  have h8:=hn.c1;obtain ⟨s1,s2,_⟩:=h.st;unfold cellsOf
  split
  ·omega
  split
  ·rename_i e8;refine ⟨h8 (.inr (.inr (.inr e8))),?_⟩;simp [bh,e8] at s1;omega
  ·omega
 have D7:M.roots≠[]:=fun e=>by
  have:=Hd (M:=M) h.pos;rw [e] at this;cases this
 have nos:∀ b,w.heap.size≤b→bL τ w.drew .no b = .no:=fun b hb=>oP hb
 have WN:∀ b,w.heap.size≤b→¬ (bL τ w.drew .no b).own:=fun b hb hh=>by rw [nos b hb] at hh;exact hh.1 rfl
 have l4:w.heap.size≤w2.heap.size:=by omega
 refine φ ?_
 refine iG (fun ρ w'=>∃ t:Bool,ρ.get 0=some (ptr m)∧ρ.get 1=some (ptr k)∧ρ.get 4=some (ptr w.heap.size)∧ρ.get 5=some (ptr w2.heap.size)∧ρ.get 44=some (.bool t) ∧
  (t=true→aU w5 (bL τ w.drew .no) m S M.run ks w') ∧
  (t=false→∃ M0,aU w5 (bL τ w.drew .no) m S M0 ks w'∧ob n M0 M.dE∧(0 < cellsOf M.dE→(M0.st.ns.length:Int)+cellsOf M.dE≤M0.st.size)∧M.run=M0.next.exec M.dE∧M0.st.kd≠.ref∧M0.aE.length=M.aE.length)) ?_ ?_
 ·by_cases gv:cellsOf M.dE > 0
  ·simp only [go_sem,Nat.reduceAdd,Nat.reduceEqDiff,Nat.reduceLT,Nat.reduceLeDiff,Nat.reduceMul,reduceCtorEq,↓reduceIte,decide_eq_true gv];refine δ (by rfl) (MK h5.at' h.ok.g.st iw ⟨by omega,gO.2⟩ h.ok.base h.ok.bp hR D7) ?_;rintro _ w6 ⟨rfl,hop⟩;cases Bo:(M.room (cellsOf M.dE)).1 with
   | false=>
    refine φ ?_;refine ⟨true,rfl,fun _=>?_,(fun h=>by cases h)⟩;have e:M.run=(M.room (cellsOf M.dE)).2:=by unfold Mc.run;rw [if_pos ⟨gv,Bo⟩]
    rw [e];exact hop
   | true=>
    refine φ ?_;refine ⟨false,rfl,(fun h=>by cases h),fun _=>⟨(M.room (cellsOf M.dE)).2,hop,?_,?_,?_,Wz M iw _,?_⟩⟩
    ·obtain ⟨k1,k2⟩:=h.ok.room gO.1 Bo;obtain ⟨e1,e2,e3,e5,e6,_,g,e4⟩:=zr M (cellsOf M.dE) Bo;have e4:=e4 h.pos;refine ⟨k1,by rw [e1];exact h.pos,by rw [e3];exact h.going,by rw [e4];exact h.runs,?_⟩;show _=((M.room (cellsOf M.dE)).2.aZ.gl (M.room (cellsOf M.dE)).2.aa.jb).ins (M.room (cellsOf M.dE)).2.aa.at';rw [e4,e5];rfl
    ·exact fun _=>(h.ok.room gO.1 Bo).2
    ·unfold Mc.run;rw [if_neg (by rw [Bo];simp),if_pos gv]
    ·exact (zr M (cellsOf M.dE) Bo).1
  ·have hz:decide (cellsOf M.dE > 0)=false:=decide_eq_false gv;simp only [go_sem,Nat.reduceAdd,Nat.reduceEqDiff,Nat.reduceLT,Nat.reduceLeDiff,Nat.reduceMul,reduceCtorEq,↓reduceIte,hz];refine ⟨false,rfl,(fun h=>by cases h),fun _=>⟨M,⟨_,dV _ _,h5.at',Mod.refl _ _⟩,h,fun h=>absurd h gv,?_,iw,rfl⟩⟩;unfold Mc.run;rw [if_neg (fun h=>gv h.1),if_neg gv]
 rintro ρ w6 ⟨t,r0,r1,r4,r5,A4,ht,iD⟩;have WO:Mod (fun _=>False) w w5:=Mod.dj dH;cases t with
 | true=>
  simp only [go_sem,Nat.reduceAdd,Nat.reduceEqDiff,Nat.reduceLT,Nat.reduceLeDiff,Nat.reduceMul,reduceCtorEq,↓reduceIte,r0,r1,r4,r5,A4];exact ⟨ks,aU.boxed WO (ht rfl)⟩
 | false=>
  obtain ⟨M0,hop,hA,eK,G9,kP,dI⟩:=iD rfl;obtain ⟨MM,j1,j2,h6⟩:=hop.aa dI h.pos hT.hk;have vn:=j2.at xl (WN _ (Nat.le_refl _));have pZ:=j2.at zw (WN _ l4);obtain ⟨vs6,vp6,fs6,xp,zx⟩:=h6.fr;have D8:=zx.cells;have dN:IntKind.i64.wrap (M0.aa.at'+1)=M0.aa.at'+1:=by
   have h1:=hA.run.at';have h2:=(hA.ok.aZ.kS _ (G' hA.run.gl)).2.2.2;exact cy (by omega) (by omega)
  simp only [go_sem,Nat.reduceAdd,Nat.reduceEqDiff,Nat.reduceLT,Nat.reduceLeDiff,Nat.reduceMul,reduceCtorEq,↓reduceIte,r0,r1,r4,r5,A4,cell_of D8,cC,dN,ptr];refine bY (off:=2) rfl rfl D8 rfl (by simp [cC]) ?_;intro w7 cm aX mN;have NJ:=h6.fo (f':={ M0.aa with at':=M0.aa.at'+1}) (GJ zx rfl rfl (by simpa [cC] using cm) aX);obtain ⟨τ7,q1,q2,h7⟩:=NJ.aa (qL hA.pos _).2 hA.pos h6.hk;have k26:w.heap.size≠k:=fun e=>by have:=hF.lt.1;have e2:w.drew.heap.size=k:=e;omega
  have k46:w2.heap.size≠k:=fun e=>by
   have:=hF.lt.1;have:=cq.size;have e2:w.drew.heap.size=w.heap.size:=rfl;omega
  have AS:=aX.at vn (fun e=>k26 e);have Hh:=aX.at pZ (fun e=>k46 e);simp only [go_sem,Nat.reduceAdd,Nat.reduceEqDiff,Nat.reduceLT,Nat.reduceLeDiff,Nat.reduceMul,reduceCtorEq,↓reduceIte,an,bq,cell_of Hh,dM (cs:=[_,_,_]) (off:=0) (n:=3) AS (by simp)];refine aip Hf rfl (by rfl) ?_;show aK _ _ [ptr m,ptr k,Value.agg #[I (o:Int),I M.dE.a,I M.dE.b]] _ _;rw [WM];refine (aiv h7 hA kP eK (by omega) ho).mono ?_;rintro _ w8 ⟨dt,aiL⟩;refine φ ?_;rw [G9];exact ⟨dt,aU.boxed WO (aU.cat j1 j2 (aU.cat q1 q2 aiL))⟩
end
end
end Go.Proofs.YtnjobkbblhaliaaGreatDoor