/- Texts that the last file stands on: M5, M6, M7, M8, M9, M10, M11, M13, M14, M12, B1, M15, M16, X1, X2, Q2, Q3, Q4, Q5, Q6, Q7, Q8, Q9, M17, Q10, Q11, Q12, Q14, M18. -/
import Derived.Test.YtnjobkbblhaliaaGreatDoorZRC
import Derived.RangeFuncBox
import Derived.RangeFuncLeaves
import Derived.Shelf.Abstract
import Derived.WalkKit
import Derived.OwnWalkIn
import Derived.TacticsInMore
import Derived.LoopNIn
import Derived.LoopIn
import Derived.Test.YtnjobkbblhaliaaGreatDoorProg
set_option linter.unusedSimpArgs false
set_option linter.unusedVariables false
set_option maxRecDepth 100000
namespace Go.Proofs.YtnjobkbblhaliaaGreatDoor
section
open Go Go.W
theorem TX (M:Mc) {i:Nat} {f:Fr} (hf:M.aA[i]? = some f):(M.aA.take (i+1)).flatMap Fr.roots=(M.aA.take i).flatMap Fr.roots++f.spine++f.stack++[f.bI]:=by
 have hi:i < M.aA.length:=(List.getElem?_eq_some_iff.1 hf).1;rw [List.take_add_one,hf];simp [Fr.roots]
theorem afy (M:Mc) {i:Nat} {f:Fr} (hf:M.aA[i]? = some f):M.globals.length+((M.aA.take i).flatMap Fr.roots).length+f.spine.length+f.stack.length+1+M.wait.length≤M.roots.length:=by
 have h1:=TX M hf;have h2:M.aA=M.aA.take (i+1)++M.aA.drop (i+1):=(List.take_append_drop _ _).symm;have h3:M.aA.flatMap Fr.roots=(M.aA.take (i+1)).flatMap Fr.roots++(M.aA.drop (i+1)).flatMap Fr.roots:=by
  conv=>lhs;rw [h2]
  rw [List.flatMap_append]
 unfold Mc.roots;rw [h3,h1];simp only [List.length_append,List.length_cons,List.length_nil];omega
theorem TY (M:Mc):M.aA.length≤M.roots.length:=by
 have key:∀ l:List Fr,l.length≤(l.flatMap Fr.roots).length:=by
  intro l
  induction l with
  | nil=>simp
  | cons f l ih=>simp only [List.flatMap_cons,List.length_cons,List.length_append,Fr.roots,List.length_nil];omega
 have:=key M.aA;unfold Mc.roots;simp only [List.length_append];omega
theorem Fy {ρ:Env} {K:Value→World→Prop} {w w2:World} {v:Value} {xs ys:List Int} {n m c:Nat} {fp:Option Nat} {xa:Option Addr} {s x:W.O} (hm:Mod (fun _=>False) w w2) (ho:ax w2 3 1 v (xs.map I) n fp) (hn:n=xs.length) (hf:∀ b,fp=some b→w.heap.size≤b)
   (hs:s.ev ρ=some v) (U:x.ev ρ=some (.slice xa m c)) (jN:xa=none→m=0) (hr:iz w2 xa (m*1) (ys.map I)) (hl:xs.length+ys.length≤17592186044416)
   (hk:∀ v' w' gA,Mod (fun _=>False) w w'→Mod (fun b=>fp=some b) w2 w'→ax w' 3 1 v' ((xs++ys).map I) (xs++ys).length gA→(∀ b,gA=some b→w.heap.size≤b)→K v' w'):E.wp Tryz.prog w2 ρ K (.ap 3 1 8 #[.int .i64 0] s x):=by
 have hmy:m=ys.length:=by have:=hr.1;simp at this;omega
 subst hn;subst hmy;refine gN (m:=ys.length) (news:=ys.map I) hs ho U jN hr (oQ _) rfl (by omega) (by omega) ?_;intro v3 w3 uh ou ab nt;refine hk v3 w3 uh (hm.step ab (fun x U hl=>by have:=hf x U;omega)) ab (by simpa using ou) (fun b hb=>?_);rcases nt b hb with h1 | h1
 ·exact hf b h1
 ·have:=hm.size;omega
theorem TZ {w:World} {τ:Tag} {m:Nat} {S:SV} {M:Mc} {ks:List Nat} (h:iw w τ m S M ks) (hR:M.roots.length≤17592186044416) :
   aD Tryz.prog 82 [ptr m] w fun r w'=>xC w w' r M.roots∧Mod (fun _=>False) w w':=by
 obtain ⟨vG,vF,vW,vT,fg,ff,fw,ft,F,h⟩:=h;have hc:=h.cells;have hl:=h.len;have gq:=TY M;have mD:M.globals.length+M.wait.length≤17592186044416:=by unfold Mc.roots at hR;simp only [List.length_append] at hR;omega
 refine aeB.calls rfl ?_;unfold KO;simp only [go_sem,simprocAttr,cell_of hc,bg];obtain ⟨Fz,_⟩:=h.gl.ints (by omega);refine δ (by rfl) (zP vG M.globals w Fz) ?_;rintro r1 w1 ⟨ag,f1,gM,si⟩;obtain ⟨a1,c1,rfl,_⟩:=gM.val;obtain ⟨aF,cF,rfl,_⟩:=h.fr.val;have dk:=ag.at hc (fun h=>h);simp only [go_sem,simprocAttr,cell_of dk,bg]
 refine dz (fun n ρ w'=>∃ (i:Nat) (v:Value) (fp:Option Nat),n=ks.length - i∧i≤ks.length∧Mod (fun _=>False) w w' ∧
  ax w' 3 1 v ((M.globals++(M.aA.take i).flatMap Fr.roots).map I) (M.globals++(M.aA.take i).flatMap Fr.roots).length fp∧(∀ b,fp=some b→w.heap.size≤b) ∧
  ρ=[(0,ptr m),(3,v),(14,.slice aF ks.length cF),(15,I ks.length),(16,I i)]) ks.length ⟨0,_,f1,rfl,by omega,ag,by simpa using gM,si,rfl⟩ ?_
 rintro n ρ w2 ⟨i,v,fp,rfl,hi,ae,dR,fQ,rfl⟩;unfold TC;obtain ⟨va,vc,rfl,_⟩:=dR.val;have cy:=ae.at hc (fun h=>h);refine σ ?_;refine aX rfl (fun hh=>?_) (fun hh=>?_)
 ·have jX:i < ks.length:=by simpa using hh
  have Ap:i < M.aA.length:=by omega
  have FA:=h.fr.mod ae (fun _ _ h=>h);obtain ⟨bF,rfl,_,CE⟩:=kA FA (i:=i) jX;have hk:ks[i]? = some ks[i]:=List.getElem?_eq_getElem jX;have hf:M.aA[i]? = some M.aA[i]:=List.getElem?_eq_getElem Ap;rw [List.getElem?_map,hk,Option.map_some] at CE;obtain ⟨vs,vp,fs,gA,CF⟩:=h.jw i _ _ hk hf;have p7:=afy M hf;have b1:(0:Int)≤i∧(i:Int) < ks.length:=by omega
  have cg:=TX M hf;generalize M.aA[i]=f at *;generalize ks[i]=k at *;obtain ⟨ap,cp,rfl,vb,hnp⟩:=CF.spine.val;obtain ⟨a_s,c_s,rfl,iT,xt⟩:=CF.stack.val;have bC:=CF.mod ae (dP τ w).wx (fun _ _ h=>h.elim);have BT:=bC.cells;simp only [go_sem,simprocAttr,ak,bh,b1,CE,c8,cell_of BT,cz];refine Fy ae dR rfl fQ rfl rfl (fun h=>(hnp h).1) bC.spine.rd (by simp only [List.length_append];omega) ?_;intro v3 w3 uh ab mZ ou nt;obtain ⟨a3,c3,rfl,_⟩:=ou.val;have vK:=CF.mod ab (dP τ w).wx (fun _ _ h=>h.elim);have FB:=vK.cells;simp only [go_sem,simprocAttr,cell_of FB,cz];refine Fy ab ou rfl nt rfl rfl (fun h=>(xt h).1) vK.stack.rd (by simp only [List.length_append];omega) ?_;intro v4 w4 EV aj oZ j9 ke;obtain ⟨a4,c4,rfl,_⟩:=j9.val;have CG:=CF.mod aj (dP τ w).wx (fun _ _ h=>h.elim);have LB:=CG.cells;simp only [go_sem,simprocAttr,cell_of LB,cz];refine dL (by rfl) (by rfl) ?_;intro w5 cd ay iq;refine σ ?_;refine Fy (ys:=[f.bI]) (aj.trans ay) (j9.mod ay (fun _ _ h=>h)) rfl ke rfl rfl (fun h=>by cases h) (jR (xs:=[I f.bI]) cd) (by simp only [List.length_append,List.length_cons,List.length_nil];omega) ?_;intro v6 w6 vL aH oe jr jJ;obtain ⟨a6,c6,rfl,_⟩:=jr.val;have e1:IntKind.i64.wrap ((i:Int)+1)=((i+1:Nat):Int):=by rw [bU (by omega) (by omega)];omega
  simp only [go_sem,simprocAttr,e1];refine ⟨_,by omega,i+1,_,vL,rfl,by omega,aH,?_,jJ,rfl⟩;rw [cg]
  simpa using jr
 ·have jX:¬ i < ks.length:=by simpa using hh
  obtain rfl:i=ks.length:=by omega
  have T1:=h.wt.mod ae (fun _ _ h=>h);obtain ⟨aw,cw,rfl,_,hnw⟩:=T1.val;simp only [go_sem,simprocAttr,cell_of cy,bg];have ht:M.aA.take ks.length=M.aA:=by rw [hl];exact List.take_length
  rw [ht] at dR;refine Fy ae dR rfl fQ (by simp only [go_sem,simprocAttr,ht]) rfl (fun h=>(hnw h).1) T1.rd (by unfold Mc.roots at hR;simp only [List.length_append] at hR ⊢;omega) ?_;intro v3 w3 uh ab mZ ou nt;refine σ ?_;exact ⟨⟨uh,by simpa [Mc.roots] using ou,nt⟩,ab⟩
end
section
open Go Go.W
section
variable {P:Program} {w:World} {ρ:Env} {K:Value→World→Prop}
theorem FC {T n:Nat} {d s:W.O} {v:Value} {xs news:List Value} {fp:Option Nat} {sa:Option Addr} {sn sc:Nat} (hd:d.ev ρ=some v) (ho:ax w T 1 v xs n fp) (hs:s.ev ρ=some (.slice sa sn sc))
   (lu:sa=none→sn=0) (hle:n≤sn) (hr:iz w sa (n*1) news) (h1:∀ u∈news,u.oneCell'=true)
   (hk:∀ w',ax w' T 1 v news n fp→Mod (fun b=>fp=some b) w w'→w'.heap.size=w.heap.size→K (I n) w'):E.wp P w ρ K (.cp 1 d s):=by
 have se:Nat.min sn n=n:=Nat.min_eq_right hle;obtain ⟨hl,h2⟩:=ho;rcases h2 with ⟨rfl,rfl,rfl⟩ | ⟨b,c,cN,rfl,rfl,h3,h4,h5⟩
 ·have zn:news=[]:=List.eq_nil_of_length_eq_zero (by simpa using hr.1);subst zn;refine ⟨none,0,0,sa,sn,sc,[],hd,hs,lu,by rw [se];exact hr,h1,fun _=>?_,fun a h=>by cases h⟩;rw [se];exact hk w (ax.nil w T 1) (Mod.refl _ w) rfl
 ·have lY:news.length=n*1:=hr.1;refine ⟨some ⟨b,0,none⟩,n,c,sa,sn,sc,news,hd,hs,lu,by rw [se];exact hr,h1,(fun h=>by cases h),fun a ha=>?_⟩;cases ha;refine ⟨(xs++cN).toArray,T,⟨rfl,h3⟩,by simp;omega,?_⟩;rw [se];have gY:sp (xs++cN).toArray 0 news=(news++cN).toArray:=by
   unfold sp;simp only [Nat.zero_add,List.take_zero,List.nil_append];rw [show news.length=xs.length by omega,List.drop_left]
  rw [gY];refine hk _ ⟨lY,.inr ⟨b,c,cN,rfl,rfl,setRow_heap w b _ _ T _ h3,?_,h5⟩⟩ ((Eg w b _).aB (fun i hi=>by rw [hi])) (by simp);simp only [List.length_append] at h4 ⊢;omega
end
def LR (w:World) (v:Value) (ys:List Int) (b:Nat):Prop:=∃ o c,v = .slice (some ⟨b,o,none⟩) ys.length c∧ys.length≤c∧∀ i (h:i < ys.length),w.cell? ⟨b,o+i,none⟩=some (I ys[i])
theorem LR.mod {w w':World} {v:Value} {ys:List Int} {b:Nat} {X:Nat→Prop} (h:LR w v ys b) (hm:Mod X w w') (U:¬ X b):LR w' v ys b:=by
 obtain ⟨o,c,rfl,h1,h2⟩:=h;exact ⟨o,c,rfl,h1,fun i hi=>hm.cell (h2 i hi) U⟩
theorem LR.rd {w:World} {o n c b:Nat} {xs ys:List Int} (h:LR w (.slice (some ⟨b,o,none⟩) n c) (xs++ys) b):iz w (some ⟨b,o,none⟩) (xs.length*1) (xs.map I):=by
 obtain ⟨o',c',e,_,h2⟩:=h;cases e;refine ⟨by simp,fun ad ef j v hv=>?_⟩;cases ef;have hj:j < xs.length:=by
  rcases Nat.lt_or_ge j xs.length with h | h
  ·exact h
  ·simp [List.getElem?_eq_none h] at hv
 have:=h2 j (by simp;omega);rw [c8,this]
 simpa [List.getElem_append_left hj,List.getElem?_eq_getElem hj] using hv
theorem LR.drop {w:World} {o n c b k:Nat} {xs ys:List Int} (h:LR w (.slice (some ⟨b,o,none⟩) n c) (xs++ys) b) (hk:xs.length=k) :
   LR w (.slice (if c=k then some ⟨b,o,none⟩ else some ⟨b,o+k,none⟩) (n - k) (c - k)) ys b∧(0:Int)≤k∧(k:Int)≤n:=by
 obtain ⟨o',c',e,h1,h2⟩:=h;cases e;subst hk;have hl:(xs++ys).length=xs.length+ys.length:=List.length_append;rw [hl] at h1 ⊢;refine ⟨?_,by omega,by omega⟩;rw [show xs.length+ys.length - xs.length=ys.length by omega]
 split
 ·rename_i hc;have hy:ys.length=0:=by omega
  exact ⟨o,c - xs.length,rfl,by omega,fun i hi=>by omega⟩
 ·refine ⟨o+xs.length,c - xs.length,rfl,by omega,fun i hi=>?_⟩;have:=h2 (xs.length+i) (by rw [hl];omega);rw [Nat.add_assoc,this,List.getElem_append_right (by omega)];simp only [Nat.add_sub_cancel_left]
theorem LR.form {w:World} {v:Value} {ys:List Int} {b:Nat} (h:LR w v ys b):∃ o n c,v = .slice (some ⟨b,o,none⟩) n c∧n=ys.length:=by
 obtain ⟨o,c,rfl,_⟩:=h;exact ⟨o,_,c,rfl,rfl⟩
theorem LR.one {w:World} {o n c b:Nat} {y:Int} {ys:List Int} (h:LR w (.slice (some ⟨b,o,none⟩) n c) (y::ys) b):n=ys.length+1∧w.cell? ⟨b,o,none⟩=some (I y):=by
 obtain ⟨o',c',e,h1,h2⟩:=h;cases e;exact ⟨by simp,h2 0 (by simp)⟩
theorem dZ.afz {w w':World} {τ:Tag} {m:Nat} {S:SV} {M:Mc} {vG vF vW vT:Value} {fg ff fw ft:Option Nat} {F:Nat→Prop} {ks:List Nat} (h:dZ w τ m S M vG vF vW vT fg ff fw ft F ks) {l:List Int}
   (hm:Mod (fun b=>fg=some b) w w') (ho:ax w' 3 1 vG (l.map I) l.length fg):dZ w' τ m S { M with globals:=l} vG vF vW vT fg ff fw ft F ks:=by
 have he:τ.wx τ w:=(dP τ w).wx;have ci:∀ {t:Tg},t≠.gl→∀ b,b < w.heap.size→fg=some b→τ b≠t:=fun ht b hb U e=>ht (e.symm.trans (h.tg b U))
 obtain ⟨c1,c2⟩:=h.Fw hm he (ci (by simp));obtain ⟨f1,f2⟩:=gK h.fr h.tf hm he (ci (by simp));obtain ⟨w1,w2⟩:=gK h.wt h.tw hm he (ci (by simp));obtain ⟨t1,t2⟩:=gK h.tl h.tt hm he (ci (by simp));obtain ⟨s1,s2⟩:=h.jh hm he (ci (by simp));obtain ⟨b1,b2,b3,b4⟩:=h.wo hm he (ci (by simp));refine ⟨c1,c2,ho,h.tg,f1,f2,w1,w2,t1,t2,s1,s2,h.len,fun i k f hk hf=>h.wm hm he hk hf (fun b hb U=>?_),b1,b2,b3,b4⟩;rw [h.tg b U];rintro (h | h | h)<;>cases h
theorem afA {α:Type} (h:α→α) (l:List α) (i:Nat) (hi:i < l.length):((l.take i).map h++l.drop i).set i (h l[i])=(l.take (i+1)).map h++l.drop (i+1):=by
 rw [List.take_succ_eq_append_getElem hi,List.map_append,List.set_append_right _ _ (by simp;omega)];simp only [List.length_map,List.length_take,Nat.min_eq_left (Nat.le_of_lt hi),Nat.sub_self];rw [List.drop_eq_getElem_cons hi,List.set_cons_zero,List.append_assoc];rfl
def Mc.part (M:Mc) (g:Int→Int) (i:Nat):Mc:={ M with globals:=M.globals.map g,aA:=(M.aA.take i).map (Fr.eM g)++M.aA.drop i}
theorem T3 {w:World} {τ:Tag} {m:Nat} {S:SV} {M:Mc} {ks:List Nat} (h:iw w τ m S M ks) (g:Int→Int) {v:Value} {n b:Nat} (hv:ax w 3 1 v ((M.roots.map g).map I) n (some b)) (hb:τ b = .no) (hR:M.roots.length≤17592186044416) :
   aD Tryz.prog 83 [ptr m,v] w fun _ w'=>∃ X:Mod (fun b=>(τ b).own) w w',iw w' τ m S (M.eM g) ks:=by
 obtain ⟨vG,vF,vW,vT,fg,ff,fw,ft,F,h⟩:=h;have hc:=h.cells;have hl:=h.len;have gq:=TY M;have hbl:=hv.lt rfl;have FD:LR w v (M.globals.map g++((M.aA.flatMap Fr.roots).map g++M.wait.map g)) b:=by
  obtain ⟨mA,fK⟩:=hv;have hn:n=(M.roots.map g).length:=by simp at mA;simp;omega
  rcases fK with ⟨_,_,e⟩ | ⟨b',c,sp,rfl,e,h3,h4,h5⟩
  ·cases e
  ·cases e;have e1:M.globals.map g++((M.aA.flatMap Fr.roots).map g++M.wait.map g)=M.roots.map g:=by simp [Mc.roots]
   rw [e1];refine ⟨0,c,by rw [hn],by omega,fun i hi=>?_⟩;rw [cell_of h3];simp only [Nat.zero_add,List.getElem?_toArray];rw [List.getElem?_append_left (by simpa using hi),List.getElem?_map,List.getElem?_eq_getElem hi];rfl
 refine aeC.calls rfl ?_;unfold KP;obtain ⟨o1,c1,rfl,dk,Jh⟩:=FD;have FD:LR w _ _ b:=⟨o1,c1,rfl,dk,Jh⟩;simp only [go_sem,simprocAttr,cell_of hc,bg];have mD:(M.globals.map g).length=M.globals.length:=by simp
 refine FC (news:=(M.globals.map g).map I) rfl h.gl rfl (fun h=>by cases h) (by simp only [List.length_append,mD];omega) (by have:=FD.rd;rw [mD] at this;exact this) (oQ _) ?_;intro w1 gM ag cL;have h1:dZ w1 τ m S { M with globals:=M.globals.map g} vG vF vW vT fg ff fw ft F ks:=h.afz (l:=M.globals.map g) ag (by rw [mD];exact gM);have nb:∀ {t:Tg} {fp:Option Nat},τ.is fp t→t≠.no→fp≠some b:=fun ht hn e=>hn ((ht b e).symm.trans hb)
 have LC:=FD.mod ag (nb h.tg (by simp));obtain ⟨LC,z1⟩:=LC.drop mD;have afB:=h1.cells;obtain ⟨aF,cF,rfl,_⟩:=h.fr.val;simp only [go_sem,simprocAttr,ak,bh,z1,cell_of afB,bg,c8];have afC:Mod (fun b=>(τ b).own) w w1:=ag.aB (fun x U=>by rw [h.tg x U];simp [Tg.own])
 refine dz (fun k ρ w'=>∃ (i:Nat) (v':Value),k=ks.length - i∧i≤ks.length∧Mod (fun b=>(τ b).own) w w'∧dZ w' τ m S (M.part g i) vG (.slice aF ks.length cF) vW vT fg ff fw ft F ks ∧
  LR w' v' (((M.aA.drop i).flatMap Fr.roots).map g++M.wait.map g) b∧ρ=[(0,ptr m),(1,v'),(17,.slice aF ks.length cF),(18,I ks.length),(19,I i)]) ks.length
  ⟨0,_,rfl,by omega,afC,h1,LC,rfl⟩ ?_
 rintro k ρ w2 ⟨i,v',rfl,hi,ae,h2,uj,rfl⟩;unfold TD;refine σ ?_;have cy:=h2.cells;refine aX rfl (fun hh=>?_) (fun hh=>?_)
 ·have jX:i < ks.length:=by simpa using hh
  have Ap:i < M.aA.length:=by omega
  obtain ⟨bF,rfl,_,CE⟩:=kA h2.fr (i:=i) jX;have hk:ks[i]? = some ks[i]:=List.getElem?_eq_getElem jX;have hf:M.aA[i]? = some M.aA[i]:=List.getElem?_eq_getElem Ap;have j0:(M.part g i).aA[i]? = some M.aA[i]:=by
   simp only [Mc.part];rw [List.getElem?_append_right (by simp;omega)];simp [Nat.min_eq_left (Nat.le_of_lt Ap),hf]
  rw [List.getElem?_map,hk,Option.map_some] at CE;obtain ⟨vs,vp,fs,fp,bC⟩:=h2.jw i _ _ hk j0;have b1:(0:Int)≤i∧(i:Int) < ks.length:=by omega
  have BT:=bC.cells;have EQ:(M.aA.drop i).flatMap Fr.roots=M.aA[i].spine++(M.aA[i].stack++(M.aA[i].bI::(M.aA.drop (i+1)).flatMap Fr.roots)):=by
   rw [List.drop_eq_getElem_cons Ap,List.flatMap_cons];simp only [Fr.roots,List.append_assoc,List.cons_append,List.nil_append]
  rw [EQ] at uj;simp only [List.map_append,List.map_cons,List.append_assoc] at uj;have mn:=afA (Fr.eM g) M.aA i Ap;generalize hfe:M.aA[i]=f at *;generalize ks[i]=k at *;obtain ⟨o2,n2,c2,rfl,pj⟩:=uj.form;simp only [List.length_append,List.length_map,List.length_cons] at pj;simp only [go_sem,simprocAttr,ak,bh,b1,CE,c8,cell_of BT,cz];have nU:(f.spine.map g).length=f.spine.length:=by simp
  have qY:(f.stack.map g).length=f.stack.length:=by simp
  refine FC (news:=(f.spine.map g).map I) rfl bC.spine rfl (fun h=>by cases h) (by omega) (by have:=uj.rd;rw [nU] at this;exact this) (oQ _) ?_;intro w3 ou ab gj;have hkb:k≠b:=fun e=>by have:=bC.tk;rw [e,hb] at this;cases this
  obtain ⟨a1,a2,a3⟩:=CB bC;have vK:nx w3 τ i k { f with spine:=f.spine.map g} vs vp fs fp:=
   ⟨ab.at BT a2,bC.tk,bC.stack.mod ab (fun x U hh=>a3 x U hh),bC.ts,by rw [show ({ f with spine:=f.spine.map g}:Fr).spine.length=f.spine.length from nU];exact ou,bC.tp⟩
  have Aq:=uj.mod ab (nb bC.tp (by simp));obtain ⟨Aq,z3⟩:=Aq.drop nU;have FB:=vK.cells;generalize rC:(Value.slice (if c2=f.spine.length then some ⟨b,o2,none⟩ else some ⟨b,o2+f.spine.length,none⟩) (n2 - f.spine.length) (c2 - f.spine.length))=v3 at Aq;obtain ⟨o3,n3,c3,rfl,uk⟩:=Aq.form;simp only [List.length_append,List.length_map,List.length_cons] at uk;simp only [go_sem,simprocAttr,ak,bh,z3,c8,rC,cell_of FB,cz];refine FC (news:=(f.stack.map g).map I) rfl vK.stack rfl (fun h=>by cases h) (show f.stack.length≤n3 by omega) (by have:=Aq.rd;rw [qY] at this;exact this) (oQ _) ?_;intro w4 j9 aj eA;have CG:nx w4 τ i k { f with spine:=f.spine.map g,stack:=f.stack.map g} vs vp fs fp:=
   ⟨aj.at FB a1,bC.tk,by rw [show ({ f with spine:=f.spine.map g,stack:=f.stack.map g}:Fr).stack.length=f.stack.length from qY];exact j9,bC.ts,vK.spine.mod aj (fun x U hh=>a3 x hh U),bC.tp⟩
  have Ar:=Aq.mod aj (nb bC.ts (by simp));obtain ⟨Ar,z4⟩:=Ar.drop qY;have LB:=CG.cells;generalize LD:(Value.slice (if c3=f.stack.length then some ⟨b,o3,none⟩ else some ⟨b,o3+f.stack.length,none⟩) (n3 - f.stack.length) (c3 - f.stack.length))=v4 at Ar;obtain ⟨o4,n4,c4,rfl,JT⟩:=Ar.form;simp only [List.length_append,List.length_map,List.length_cons] at JT;obtain ⟨an5,afD⟩:=Ar.one;have z5:(0:Int)≤0∧(0:Int) < n4:=by omega
  have z6:(0:Int)≤1∧(1:Int)≤n4:=by omega
  obtain ⟨afE,_⟩:=LR.drop (k:=1) (xs:=[g f.bI]) Ar rfl;have e1:IntKind.i64.wrap ((i:Int)+1)=((i+1:Nat):Int):=by rw [bU (by omega) (by omega)];omega
  simp only [go_sem,simprocAttr,ak,bh,z4,c8,LD,z5,z6,afD,Nat.add_zero,show Int.toNat 1=1 from rfl,e1];refine bL (cs:=cz { f with spine:=f.spine.map g,stack:=f.stack.map g} vs vp) (off:=5) rfl rfl LB rfl (by simp [cz]) ?_;intro w5 cd ay iq;refine σ ?_;have Ag:=Mod.dj ay;have afF:nx w5 τ i k (f.eM g) vs vp fs fp:=
   ⟨by simpa [cz,Fr.eM] using cd,bC.tk,CG.stack.mod Ag (fun x U hh=>a1 (hh ▸ U)),bC.ts,CG.spine.mod Ag (fun x U hh=>a2 (hh ▸ U)),bC.tp⟩
  have ni:Mod (fun b=>(τ b).eT i) w2 w5:=by
   refine ((ab.aB (fun x U=>.inr (.inr (bC.tp x U)))).trans (aj.aB (fun x U=>.inr (.inl (bC.ts x U))))).trans (Ag.aB (fun x U=>?_));subst U;exact .inl bC.tk
  refine ⟨_,by omega,i+1,_,rfl,by omega,ae.trans (ni.aB (fun x U=>?_)),?_,afE.mod Ag (fun hh=>hkb hh.symm),rfl⟩
  ·rcases U with U | U | U<;>rw [U]<;>simp [Tg.own]
  ·have:=h2.frame hk ni (dP τ w2).wx ⟨vs,vp,fs,fp,afF⟩;have e2:({ M.part g i with aA:=(M.part g i).aA.set i (f.eM g)}:Mc)=M.part g (i+1):=by
    simp only [Mc.part,mn]
   rw [e2] at this;exact this
 ·have jX:¬ i < ks.length:=by simpa using hh
  obtain rfl:i=ks.length:=by omega
  have e0:M.aA.drop ks.length=[]:=by rw [hl];exact List.drop_length
  have e1:M.aA.take ks.length=M.aA:=by rw [hl];exact List.take_length
  rw [e0] at uj;simp only [List.flatMap_nil,List.map_nil,List.nil_append] at uj;obtain ⟨o2,n2,c2,rfl,pj⟩:=uj.form;simp only [go_sem,simprocAttr,cell_of cy,bg];have o0:(M.wait.map g).length=M.wait.length:=by simp
  refine FC (news:=(M.wait.map g).map I) rfl h2.wt rfl (fun h=>by cases h) (show M.wait.length≤n2 by omega) (by
   have hh:=uj;rw [← List.append_nil (M.wait.map g)] at hh;have:=hh.rd
   rw [o0] at this;exact this) (oQ _) ?_
  intro w3 ou ab gj;refine σ ?_;refine ⟨ae.trans (ab.aB (fun x U=>by rw [h.tw x U];simp [Tg.own])),⟨vG,.slice aF ks.length cF,vW,vT,fg,ff,fw,ft,F,?_⟩⟩;have U:m∉(fw:Option Nat):=fun e=>by have:=h.tw m e;rw [h.tm] at this;cases this
  refine h2.waits (M':=M.eM g) (l:=M.wait.map g) (dP τ w2).wx (ab.aB (fun x U=>.inl U)) ?_ (by rw [o0];exact ou) h.tw rfl ?_ rfl rfl rfl rfl rfl
  ·have:=ab.at cy (fun e=>U e)
   simpa [bg,Mc.part,Mc.eM] using this
  ·simp only [Mc.eM,Mc.part,e0,e1,List.append_nil]
end
section
open Go Go.W
theorem afG (s:St) (hr:s.kd≠.ref) (n:Int) (roots:List Int) {l:List Int} (h:(dX s n roots).1=some l):l=roots.map (nu s n roots):=by
 obtain ⟨kd,sz,ns⟩:=s;cases kd with
 | ref=>exact absurd rfl hr
 | hp t=>
  simp only [dX,nu,iY] at h ⊢
  split at h
  ·cases h
  split at h
  ·cases h
  split at h
  ·rename_i hh;cases h;rw [if_pos hh];simp
  ·rename_i hh;rw [if_neg hh]
   split at h
   ·cases h
   ·cases h;rfl
 | gn y o t=>
  simp only [dX,nu,iL] at h ⊢
  split at h
  ·cases h
  split at h
  ·cases h
  split at h
  ·rename_i hh;cases h;rw [if_pos hh];simp
  ·rename_i hh;rw [if_neg hh]
   split at h
   ·rename_i cE;rw [if_pos cE];unfold rz at h
    split at h
    ·cases h
    ·cases h;simp only [eR,List.map_map];rfl
   ·rename_i cE;rw [if_neg cE];cases h;rfl
theorem ym (s:St) (n:Int) (roots:List Int):(dX s n roots).2.size=s.size:=by
 obtain ⟨kd,sz,ns⟩:=s;cases kd with
 | ref=>simp only [dX];split<;>rfl
 | hp t=>rfl
 | gn y o t=>rfl
theorem gJ.iface {w:World} {sv:Value} {s:St} {F:Nat→Prop} (h:gJ w sv s F):∃ t u,sv = .iface t (.pointer (some u)):=by
 obtain ⟨kd,sz,ns⟩:=s;cases kd with
 | hp t=>obtain ⟨a,e,_⟩:=h;exact ⟨_,_,e⟩
 | gn y o t=>obtain ⟨a,e,_⟩:=h;exact ⟨_,_,e⟩
 | ref=>exact h.elim
theorem LF {w:World} {τ:Tag} {m:Nat} {S:SV} {M:Mc} {ks:List Nat} (h:iw w τ m S M ks) (ho:M.st.Ok) (hr:M.st.kd≠.ref) {n:Int} (hn:0≤n∧n≤4294967296) (hb:0≤M.base∧M.base≤1048576) (hy:0≤M.bB∧M.bB≤1048576)
   (hR:M.roots.length≤17592186044416) (bq:M.roots≠[]) :
   aD Tryz.prog 136 [ptr m,I n] w fun r w'=>r = .bool (M.room n).1∧aU w τ m S (M.room n).2 ks w':=by
 have hM:=h;obtain ⟨vG,vF,vW,vT,fg,ff,fw,ft,F,h⟩:=h;have hc:=h.cells;obtain ⟨ti,ui,sI⟩:=h.st.iface;have dy:=ho.hi;have wi:=ho.lo;have xt:=ho.n;have ie:M.ref=false:=by unfold Mc.ref;split<;>simp_all
 refine ae6.calls rfl ?_;unfold Lk;simp only [go_sem,simprocAttr,cell_of hc,bg];refine Fl rfl h.st ?_;have e1:IntKind.i64.wrap (M.st.size - M.st.ns.length)=M.st.size - M.st.ns.length:=bU (by omega) (by omega);have e2:IntKind.i64.wrap (IntKind.i64.wrap ((M.st.ns.length:Int) - M.base)+n)=M.st.ns.length - M.base+n:=by
  rw [bU (n:=(M.st.ns.length:Int) - M.base) (by omega) (by omega),bU (by omega) (by omega)]
 simp only [go_sem,simprocAttr,cell_of hc,bg,e1,e2];refine gz (fun ρ w'=>w'=w.drew∧ρ.get 0=some (ptr m)∧ρ.get 1=some (I n)∧ρ.get 44=some (.bool (M.quick n))) ?_ ?_
 ·unfold Mc.quick;rw [ie];cases hq:decide (n≤M.st.size - M.st.ns.length)<;>cases hg:M.bj<;>simp only [go_sem,simprocAttr,cell_of hc,bg,hg,e1,e2,Bool.not_true,Bool.not_false,Bool.false_and,Bool.or_true,Bool.true_or,Bool.false_or,Bool.or_false]
 rintro ρ _ ⟨rfl,r0,r1,Ai⟩;simp only [go_sem,simprocAttr,r0,r1,Ai];refine aX rfl (fun hq=>?_) (fun hq=>?_)
 ·refine σ ?_;have e3:M.room n=(true,M):=by unfold Mc.room;rw [if_pos hq]
  rw [e3];exact ⟨rfl,τ,dP τ w,hM.mod ((Mod.refl (fun _=>False) w).drew) (dP τ w).wx (fun _ _ h=>h.elim),(Mod.refl _ w).drew⟩
 ·simp only [go_sem,simprocAttr,cell_of hc,bg,sI];have e3:M.room n=match (dX M.st n M.roots).1 with
   | none=>(false,{ M with st:=(dX M.st n M.roots).2,live:=(dX M.st n M.roots).2.ns.length,ended:=5})
   | some _=>(true,M.after (nu M.st n M.roots) (dX M.st n M.roots).2):=by
   unfold Mc.room;rw [if_neg (by rw [hq];simp),ie];rfl
  refine ao (by rfl) ?_;have hM0:iw w.drew.drew τ m S M ks:=hM.mod (Mod.refl (fun _=>False) w).drew.drew (dP τ w).wx (fun _ _ h=>h.elim);refine (TZ hM0 hR).mono ?_;rintro r1 w1 ⟨⟨f1,gM,si⟩,ag⟩;have ag:Mod (fun _=>False) w w1:=Mod.dj (Mod.dj ag);have si:∀ b,f1=some b→w.heap.size≤b:=si;refine ⟨ag.old m h.lt (fun h=>h),?_⟩;have h1:=h.mod (bJ:=bO τ w .no) ag (eB τ w .no).wx (fun _ _ h=>h.elim);have Tp:M.roots.length=M.roots.length:=rfl;obtain ⟨qX,_⟩:=gM.ints hR;obtain ⟨va,vc,rfl,_⟩:=gM.val;refine afs (n:=n) (roots:=M.roots) (by rw [sI];rfl) (by rfl) h1.st ho qX ?_ hR ?_ ?_
  ·intro _ x U hF;have hU:=h1.tF x hF;obtain ⟨b,c',sp,e,rfl,_⟩:=gM.pos (List.length_pos_iff.2 bq);cases e;cases U;rw [oh (si _ rfl)] at hU;cases hU
  ·intro xS w2 F2 e he dh kN;have h2:=h1.store (s:=(dX M.st n M.roots).2) kN dh (ym _ _ _);have cy:=h2.cells;rw [e3,xS];have e4:((e:Int) != 0)=true:=by simpa using he
   simp only [go_sem,simprocAttr,e4,cell_of cy,bg];refine Fl rfl h2.st ?_;refine σ ?_;refine bL (off:=17) rfl rfl cy rfl (by simp [bg]) ?_;intro w3 aE ab gj;refine σ ?_;refine bL (off:=15) rfl rfl aE rfl (by simp [bg]) ?_;intro w4 aJ aj eA;refine σ ?_;have ht:(bO τ w Tg.no).ext (mC (bO τ w Tg.no) w1 F2) w1:=nD _ _ _;refine ⟨mC (bO τ w .no) w1 F2,Fq (eB τ w .no) ht ag.size,⟨vG,vF,vW,vT,fg,ff,fw,ft,F2,h2.An (ab.trans aj) (by simpa [bg] using aJ) rfl rfl rfl rfl rfl rfl rfl⟩,?_⟩;refine ((ag.aB (fun _ h=>h.elim)).step kN.1 (fun x U hl=>?_)).step (ab.trans aj) (fun x U hl=>by subst U;rw [h.tm];simp [Tg.own]);have:=h1.tF x U;rw [eB τ w .no x hl] at this;rw [this];simp [Tg.own]
  ·intro l Ec w2 F2 v2 dh kN rS;have h2:=h1.store (s:=(dX M.st n M.roots).2) kN dh (ym _ _ _);have hl:=afG M.st hr n M.roots Ec;rw [e3,Ec];subst hl;obtain ⟨fp,dR,fQ⟩:=rS;obtain ⟨b,c',sp,rfl,rfl,aE,_⟩:=dR.pos (by simp;exact List.length_pos_iff.2 bq);obtain ⟨aq,an⟩:=fQ b rfl;simp only [go_sem,simprocAttr,show ((0:Int) != 0)=false from rfl];refine δ (by rfl) (T3 (M:={ M with st:=(dX M.st n M.roots).2}) ⟨vG,vF,vW,vT,fg,ff,fw,ft,F2,h2⟩ (nu M.st n M.roots) dR (TU aq an) hR) ?_;rintro r3 w3 ⟨ab,⟨T5,T6,T8,T9,Ua,Ub,Uc,Ud,F3,h3⟩⟩;have eh:=h3.cells;simp only [go_sem,simprocAttr,cell_of eh,bg];refine Fl rfl h3.st ?_;refine σ ?_;refine bL (off:=8) rfl rfl eh rfl (by simp [bg]) ?_;intro w4 aJ aj eA;refine σ ?_;have ht:(bO τ w Tg.no).ext (mC (bO τ w Tg.no) w1 F2) w1:=nD _ _ _;have zk:=Fq (eB τ w .no) ht ag.size;refine ⟨mC (bO τ w .no) w1 F2,zk,⟨T5,T6,T8,T9,Ua,Ub,Uc,Ud,F3,h3.An (M':=M.after (nu M.st n M.roots) (dX M.st n M.roots).2) aj (by simpa [bg,Mc.after,Mc.eM,ym] using aJ) rfl rfl rfl rfl rfl rfl rfl⟩,?_⟩
   have sA:Mod (fun b=>(τ b).own) w w2:=(ag.aB (fun _ h=>h.elim)).step kN.1 (fun x U hl=>by
    have:=h1.tF x U;rw [eB τ w .no x hl] at this
    rw [this];simp [Tg.own])
   refine (sA.step ab (fun x U hl=>by rw [zk x hl] at U;exact U)).step aj (fun x U hl=>by subst U;rw [h.tm];simp [Tg.own])
end
section
open Go Go.W
section
variable {w:World} {τ:Tag} {m:Nat} {S:SV} {M:Mc} {ks:List Nat} {k:Nat} {x:Ins}
structure dH (w:World) (τ:Tag) (m:Nat) (S:SV) (M:Mc) (ks:List Nat) (k:Nat):Prop where
 at':iw w τ m S M ks
 pos:0 < M.aA.length
 hk:ks[M.aA.length - 1]? = some k
theorem CH (hp:0 < M.aA.length):M.aA[M.aA.length - 1]? = some M.aa:=by
 unfold Mc.aa;rw [List.getD_eq_getElem?_getD,List.getElem?_eq_getElem (by omega:M.aA.length - 1 < M.aA.length)];rfl
theorem dH.fr (h:dH w τ m S M ks k):nC w τ (M.aA.length - 1) k M.aa:=by
 obtain ⟨⟨vG,vF,vW,vT,fg,ff,fw,ft,F,h1⟩,hp,hk⟩:=h;exact h1.jw _ _ _ hk (CH hp)
theorem dH.eT (h:dH w τ m S M ks k) {f':Fr} {w':World} (ho:wj w τ (M.aA.length - 1) k f' w'):aU w τ m S (M.bZ f') ks w':=by
 obtain ⟨⟨vG,vF,vW,vT,fg,ff,fw,ft,F,h1⟩,hp,hk⟩:=h;obtain ⟨bJ,he,hf,hm⟩:=ho;exact ⟨bJ,he,⟨vG,vF,vW,vT,fg,ff,fw,ft,F,h1.frame hk hm he.wx hf⟩,hm.aB (fun b hb=>by rcases hb with hb | hb | hb<;>rw [hb]<;>simp [Tg.own])⟩
theorem qj (hp:0 < M.aA.length) (f:Fr):(M.bZ f).aa=f∧(M.bZ f).aA.length=M.aA.length:=by
 constructor
 ·simp only [Mc.bZ,Mc.aa,List.length_set,List.getD_eq_getElem?_getD];rw [List.getElem?_set_self (by omega)];rfl
 ·simp [Mc.bZ]
theorem LG (f g:Fr):(M.bZ f).bZ g=M.bZ g:=by simp [Mc.bZ,List.set_set]
theorem aU.aa {M':Mc} {w':World} (h:aU w τ m S M' ks w') (hl:M'.aA.length=M.aA.length) (hp:0 < M.aA.length) (hk:ks[M.aA.length - 1]? = some k):∃ bJ,τ.ext bJ w∧Mod (fun b=>(τ b).own) w w'∧dH w' bJ m S M' ks k:=by
 obtain ⟨bJ,h1,h2,h3⟩:=h;exact ⟨bJ,h1,h3,h2,by omega,by rw [hl];exact hk⟩
theorem dH.mod (h:dH w τ m S M ks k) {w':World} {bJ:Tag} {X:Nat→Prop} (hm:Mod X w w') (he:τ.wx bJ w) (hd:∀ b,b < w.heap.size→X b→τ b = .no):dH w' bJ m S M ks k:=⟨h.at'.mod hm he hd,h.pos,h.hk⟩
theorem aU.boxed {w1 w':World} {M':Mc} (hm:Mod (fun _=>False) w w1) (h:aU w1 (bO τ w .no) m S M' ks w'):aU w τ m S M' ks w':=by
 obtain ⟨bJ,h1,h2,h3⟩:=h;refine ⟨bJ,Fq (eB τ w .no) h1 hm.size,h2,(hm.aB (fun _ h=>h.elim)).step h3 (fun i hi hl=>?_)⟩;rw [eB τ w .no i hl] at hi;exact hi
@[go_sem] def ec (x:Ins):Value:=.agg #[I x.op,I x.a,I x.b]
end
section
variable {w:World} {τ:Tag} {m:Nat} {S:SV} {M:Mc} {ks:List Nat} {k:Nat} {x:Ins}
theorem afH (h:dH w τ m S M ks k) (hs:M.aa.stack.length≤4294967295) (ha:0≤x.a∧x.a < M.aa.stack.length):aD Tryz.prog 110 [ptr m,ptr k,ec x] w fun _ w'=>aU w τ m S (M.bZ (M.aa.push (M.aa.place x.a))) ks w':=by
 refine aeI.calls rfl ?_;unfold KX;refine σ ?_;refine b8 rfl ?_;intro w1 aq ag _;have h1:=h.mod (bJ:=bO τ w .no) ag (eB τ w .no).wx (fun _ _ h=>h.elim);simp only [go_sem,simprocAttr,cell_of aq,Value.cells];refine δ (by rfl) (om h1.fr (by omega) ha) ?_;rintro _ _ ⟨rfl,rfl⟩;refine σ ?_;refine ao (by rfl) ?_;have h2:dH w1.drew (bO τ w .no) m S M ks k:=h1.mod (Mod.refl (fun _=>False) w1).drew (dP _ _).wx (fun _ _ h=>h.elim);refine (wl h2.fr (by omega) (M.aa.place x.a)).mono ?_;intro _ w' ho;refine σ ?_;exact aU.boxed (ag.trans (Mod.refl (fun _=>False) w1).drew) (h2.eT ho)
theorem afI (h:dH w τ m S M ks k) (hs:M.aa.stack.length≤4294967295) (ha:0≤x.a∧x.a < M.globals.length):aD Tryz.prog 113 [ptr m,ptr k,ec x] w fun _ w'=>aU w τ m S (M.bZ (M.aa.push (M.globals.getD x.a.toNat 0))) ks w':=by
 refine aeK.calls rfl ?_;unfold KZ;refine σ ?_;refine b8 rfl ?_;intro w1 aq ag _;have h1:=h.mod (bJ:=bO τ w .no) ag (eB τ w .no).wx (fun _ _ h=>h.elim);have h2:dH w1.drew (bO τ w .no) m S M ks k:=h1.mod (Mod.refl (fun _=>False) w1).drew (dP _ _).wx (fun _ _ h=>h.elim);obtain ⟨vG,vF,vW,vT,fg,ff,fw,ft,F,hh⟩:=h1.at';have hc:=hh.cells;obtain ⟨aG,cG,rfl,_⟩:=hh.gl.val;obtain ⟨j,hj⟩:∃ j:Nat,x.a=j:=⟨x.a.toNat,by omega⟩;have iX:j < M.globals.length:=by omega
 obtain ⟨b,rfl,_,fP⟩:=kA hh.gl (i:=j) iX;have e1:w1.cell? ⟨b,j,none⟩=some (I (M.globals.getD j 0)):=by
  rw [fP,List.getElem?_map,List.getElem?_eq_getElem iX,List.getD_eq_getElem?_getD,List.getElem?_eq_getElem iX];rfl
 have b1:(0:Int)≤j∧(j:Int) < M.globals.length:=by omega
 rw [hj];rw [hj] at aq;simp only [go_sem,simprocAttr,ak,bh,cell_of aq,Value.cells,cell_of hc,bg,b1,c8,e1];refine δ (by rfl) (wl h2.fr (by omega) (M.globals.getD j 0)) ?_;intro _ w' ho;refine σ ?_;exact aU.boxed (ag.trans (Mod.refl (fun _=>False) w1).drew) (h2.eT ho)
theorem afJ (h:dH w τ m S M ks k) (hs:M.aa.stack.length≤4294967295) (ha:0≤x.a∧x.a≤M.aa.stack.length):aD Tryz.prog 117 [ptr m,ptr k,ec x] w fun _ w'=>aU w τ m S (M.bZ (M.aa.pop x.a)) ks w':=by
 refine aeN.calls rfl ?_;unfold K2;refine σ ?_;refine b8 rfl ?_;intro w1 aq ag _;have h1:=h.mod (bJ:=bO τ w .no) ag (eB τ w .no).wx (fun _ _ h=>h.elim);simp only [go_sem,simprocAttr,cell_of aq,Value.cells];refine δ (by rfl) (yj h1.fr (by omega) ha) ?_;intro _ w' ho;refine σ ?_;exact aU.boxed ag (h1.eT ho)
theorem afK (h:dH w τ m S M ks k):aD Tryz.prog 128 [ptr m,ptr k,ec x] w fun _ w'=>aU w τ m S (M.bZ { M.aa with at':=x.a}) ks w':=by
 refine aeY.calls rfl ?_;unfold Lc;refine σ ?_;refine b8 rfl ?_;intro w1 aq ag _;have h1:=h.mod (bJ:=bO τ w .no) ag (eB τ w .no).wx (fun _ _ h=>h.elim);obtain ⟨vs,vp,fs,fp,hf⟩:=h1.fr;simp only [go_sem,simprocAttr,cell_of aq,Value.cells];refine bL (off:=2) rfl rfl hf.cells rfl (by simp [cz]) ?_;intro w2 an ae dh;refine σ ?_;exact aU.boxed ag (h1.eT (Fv hf rfl rfl (by simpa [cz] using an) ae))
theorem afL (h:dH w τ m S M ks k):aD Tryz.prog 131 [ptr m,ptr k,ec x] w fun _ w'=>aU w τ m S (M.fail x.a) ks w':=by
 refine ae1.calls rfl ?_;unfold Lf;refine σ ?_;refine b8 rfl ?_;intro w1 aq ag _;have h1:=h.mod (bJ:=bO τ w .no) ag (eB τ w .no).wx (fun _ _ h=>h.elim);simp only [go_sem,simprocAttr,cell_of aq,Value.cells];refine δ (by rfl) (rA h1.at' x.a) ?_;intro _ w' ho;refine σ ?_;exact aU.boxed ag ho
end
end
section
open Go Go.W
section
variable {w:World} {τ:Tag} {m:Nat} {S:SV} {M:Mc} {ks:List Nat} {k:Nat} {x:Ins}
theorem um (w:World):Ints w (.slice none 0 0) []:=⟨none,0,rfl,by simp,fun i hi=>by simp at hi⟩
theorem dH.two {M1:Mc} {w1:World} (h:dH w τ m S M ks k) (ho:aU w τ m S M1 ks w1) (hl:M1.aA=M.aA):∃ bJ,τ.ext bJ w∧Mod (fun b=>(τ b).own) w w1∧dH w1 bJ m S M1 ks k:=ho.aa (by rw [hl]) h.pos h.hk
theorem yn {M1:Mc} {w1 w':World} {bJ:Tag} {f':Fr} (h1:τ.ext bJ w) (h2:Mod (fun b=>(τ b).own) w w1) (h:dH w1 bJ m S M1 ks k) (ho:wj w1 bJ (M1.aA.length - 1) k f' w'):aU w τ m S (M1.bZ f') ks w':=aU.cat h1 h2 (h.eT ho)
theorem afM (h:dH w τ m S M ks k) (ho:M.st.Ok) (hs:M.aa.stack.length≤4294967295) (hr:(M.st.ns.length:Int) < M.st.size) (ha:(⟨1,x.a,[]⟩:Nd).may=true) :
   aD Tryz.prog 115 [ptr m,ptr k,ec x] w fun _ w'=>aU w τ m S (M.put ⟨1,x.a,[]⟩ 0) ks w':=by
 refine aeM.calls rfl ?_;unfold K1;refine σ ?_;refine b8 rfl ?_;intro w1 aq ag _;have h1:=h.mod (bJ:=bO τ w .no) ag (eB τ w .no).wx (fun _ _ h=>h.elim);simp only [go_sem,simprocAttr,cell_of aq,Value.cells];refine δ (by rfl) (CC (nd:=⟨1,x.a,[]⟩) h1.at' ho ha rfl (um w1) hr) ?_;rintro _ w2 ⟨rfl,hop⟩;obtain ⟨Ue,k1,k2,k3⟩:=h1.two hop rfl;refine σ ?_;refine δ (by rfl) (wl k3.fr (by show M.aa.stack.length≤4294967296;omega) _) ?_;intro _ w3 hf;refine σ ?_;have:=yn k1 k2 k3 hf;refine aU.boxed ag ?_;have e:(M.put ⟨1,x.a,[]⟩ 0)=({ M with st:=M.st.add ⟨1,x.a,[]⟩}:Mc).bZ (({ M with st:=M.st.add ⟨1,x.a,[]⟩}:Mc).aa.push M.st.ns.length):=by
  simp [Mc.put,Mc.bZ,Fr.pop,Fr.push,Mc.aa]
 rw [e];exact this
theorem afN (h:dH w τ m S M ks k) (hs:M.aa.stack.length≤4294967295) (ha:0≤x.a∧x.a+1≤M.aa.stack.length) :
   aD Tryz.prog 119 [ptr m,ptr k,ec x] w fun _ w'=>aU w τ m S (M.bZ ((M.aa.pop (x.a+1)).push (M.aa.place 0))) ks w':=by
 refine aeP.calls rfl ?_;unfold K4;refine σ ?_;refine b8 rfl ?_;intro w1 aq ag _;have h1:=h.mod (bJ:=bO τ w .no) ag (eB τ w .no).wx (fun _ _ h=>h.elim);have h2:dH w1.drew (bO τ w .no) m S M ks k:=h1.mod (Mod.refl (fun _=>False) w1).drew (dP _ _).wx (fun _ _ h=>h.elim);have an:w1.drew.heap[w.heap.size]? = _:=aq;refine σ ?_;refine δ (by rfl) (om h1.fr (by omega) ⟨by omega,by omega⟩) ?_;rintro _ _ ⟨rfl,rfl⟩;have e1:IntKind.i64.wrap (x.a+1)=x.a+1:=bU (by omega) (by omega);simp only [go_sem,simprocAttr,cell_of an,Value.cells,cell_of aq,e1];refine δ (by rfl) (yj h2.fr (by omega) ⟨by omega,ha.2⟩) ?_;intro _ w2 ho;obtain ⟨Ue,k1,k2,k3⟩:=(h2.eT ho).aa (by simp [Mc.bZ]) h.pos h.hk;obtain ⟨t1,t2⟩:=qj h.pos (M.aa.pop (x.a+1));refine σ ?_;refine δ (by rfl) (wl k3.fr (by rw [t1];simp only [Fr.pop,List.length_take];omega) (M.aa.place 0)) ?_;intro _ w3 hf;refine σ ?_;have:=yn k1 k2 k3 hf;rw [t1,LG] at this;exact aU.boxed (ag.trans (Mod.refl (fun _=>False) w1).drew) this
end
end
section
open Go Go.W
section
variable {w:World} {τ:Tag} {m:Nat} {S:SV} {M:Mc} {ks:List Nat} {k:Nat} {x:Ins}
theorem CJ {w:World} {b:Nat} {xs:List Int} (h:w.heap[b]? = some (.cells (xs.map I).toArray 3 (0,0))) (hl:xs.length≤17592186044416):Ints w (.slice (some ⟨b,0,none⟩) xs.length xs.length) xs:=by
 refine ⟨_,_,rfl,hl,fun i hi=>⟨_,rfl,?_⟩⟩;rw [c8,cell_of h];simp [hi]
theorem dH.later (h:dH w τ m S M ks k) {w':World} (hm:Mod (fun _=>False) w w'):dH w' (bO τ w .no) m S M ks k:=h.mod hm (eB τ w .no).wx (fun _ _ h=>h.elim)
theorem put_eq (nd:Nd) (d:Int) (hp:0 < M.aA.length):M.put nd d=(({ M with st:=M.st.add nd}:Mc).bZ (M.aa.pop d)).bZ ((M.aa.pop d).push M.st.ns.length):=by
 simp [Mc.put,Mc.bZ,List.set_set]
theorem afO (h:dH w τ m S M ks k) (ho:M.st.Ok) (hs:M.aa.stack.length≤4294967295) (hr:(M.st.ns.length:Int) < M.st.size) (h2:2≤M.aa.stack.length) (bQ:bK M.st.ns.length [M.aa.place 0,M.aa.place 1]=true) :
   aD Tryz.prog 120 [ptr m,ptr k,ec x] w fun _ w'=>aU w τ m S (M.put ⟨3,0,[M.aa.place 0,M.aa.place 1]⟩ 2) ks w':=by
 refine aeQ.calls rfl ?_;unfold K5;refine σ ?_;refine b8 rfl ?_;intro w1 aq ag _;refine σ ?_;refine δ (by rfl) (om (h.later ag).fr (by omega) ⟨by omega,by omega⟩) ?_;rintro _ _ ⟨rfl,rfl⟩;have ae:Mod (fun _=>False) w w1.drew:=ag.drew;refine σ ?_;refine δ (by rfl) (om (h.later ae).fr (by omega) ⟨by omega,by omega⟩) ?_;rintro _ _ ⟨rfl,rfl⟩;have ab:Mod (fun _=>False) w w1.drew.drew:=ae.drew;refine σ ?_;refine dL (by rfl) (by rfl) ?_;intro w4 aJ aj _;refine σ ?_;have h4:=h.later (ab.trans aj);refine δ (by rfl) (CC (nd:=⟨3,0,[M.aa.place 0,M.aa.place 1]⟩) h4.at' ho rfl bQ (CJ (xs:=[M.aa.place 0,M.aa.place 1]) aJ (by simp)) hr) ?_;rintro _ w5 ⟨rfl,hop⟩;obtain ⟨nE,k1,k2,k5⟩:=h4.two hop rfl;refine σ ?_;refine δ (by rfl) (yj (n:=2) k5.fr (by show M.aa.stack.length≤_;omega) ⟨by omega,by show (2:Int)≤M.aa.stack.length;omega⟩) ?_;intro _ w6 jJ;have jr:=aU.cat k1 k2 (k5.eT jJ);obtain ⟨LH,j1,j2,k6⟩:=jr.aa (by simp [Mc.bZ]) h.pos h.hk;refine σ ?_;refine ao (by rfl) ?_;obtain ⟨t1,t2⟩:=qj (M:={ M with st:=M.st.add ⟨3,0,[M.aa.place 0,M.aa.place 1]⟩}) h.pos (M.aa.pop 2);refine (wl k6.fr (by rw [show (({ M with st:=M.st.add ⟨3,0,[M.aa.place 0,M.aa.place 1]⟩}:Mc).bZ (({ M with st:=M.st.add ⟨3,0,[M.aa.place 0,M.aa.place 1]⟩}:Mc).aa.pop 2)).aa=_ from t1];simp only [Fr.pop,List.length_take];omega) M.st.ns.length).mono ?_;intro _ w7 tR;refine σ ?_;have:=yn j1 j2 k6 tR;rw [show (({ M with st:=M.st.add ⟨3,0,[M.aa.place 0,M.aa.place 1]⟩}:Mc).bZ (({ M with st:=M.st.add ⟨3,0,[M.aa.place 0,M.aa.place 1]⟩}:Mc).aa.pop 2)).aa=_ from t1] at this;rw [put_eq _ _ h.pos];exact aU.boxed (ab.trans aj) this
theorem afP (h:dH w τ m S M ks k) (hs:0 < M.aa.stack.length) :
   aD Tryz.prog 133 [ptr m,ptr k,ec x] w fun _ w'=>aU w τ m S (M.bZ { M.aa with runs:=false,bI:=M.aa.stack.getD 0 0,stack:=[]}) ks w':=by
 refine ae3.calls rfl ?_;unfold Lh;refine σ ?_;refine b8 rfl ?_;intro w1 aq ag _;have h1:=h.later ag;obtain ⟨vs,vp,fs,fp,hf⟩:=h1.fr;obtain ⟨a,c,rfl,_⟩:=hf.stack.val;obtain ⟨b,rfl,_,fP⟩:=kA hf.stack (i:=0) hs;have e1:w1.cell? ⟨b,0,none⟩=some (I (M.aa.stack.getD 0 0)):=by
  rw [fP,List.getElem?_map,List.getElem?_eq_getElem hs,List.getD_eq_getElem?_getD,List.getElem?_eq_getElem hs];rfl
 have b1:(0:Int)≤0∧(0:Int) < M.aa.stack.length:=by omega
 have hc:=hf.cells;simp only [go_sem,simprocAttr,ak,bh,cell_of hc,cz,b1,c8,e1,Nat.add_zero];refine bL (cs:=cz M.aa (.slice (some ⟨b,0,none⟩) M.aa.stack.length c) vp) (off:=0) rfl rfl hc rfl (by simp [cz]) ?_;intro w2 an ae dh;refine σ ?_;refine bL (off:=5) rfl rfl an rfl (by simp [cz]) ?_;intro w3 aE ab gj;refine σ ?_;refine bL (off:=3) rfl rfl aE rfl (by simp [cz]) ?_;intro w4 aJ aj eA;refine σ ?_;refine aU.boxed ag (h1.eT (Fu (w2:=w1) (vs':=.slice none 0 0) (fs':=none) hf (ax.nil _ _ _) rfl (by simpa [cz] using aJ) (Mod.refl _ w1) ((ae.trans ab).trans aj) (fun b hb=>by cases hb)))
end
end
section
open Go Go.W
theorem LI {s:St} (h:s.Ok) {p:Int} (hp:0≤p∧p < s.ns.length):s.ov p < s.ns.length:=pW (eX h.wf) (by omega)
section
variable {w:World} {τ:Tag} {m:Nat} {S:SV} {M:Mc} {ks:List Nat} {k:Nat} {x:Ins}
theorem ow {w w':World} {v:Value} {l:List Int} (h:xC w w' v l) (a b:Int):∀ u∈[I a,I b,v],u.oneCell'=true:=by
 obtain ⟨fp,h,_⟩:=h;obtain ⟨va,vc,rfl,_⟩:=h.val;simp [Value.oneCell']
theorem afQ (h:dH w τ m S M ks k) (ho:M.st.Ok) (he:Ends M.st.ns) (hs:M.aa.stack.length≤4294967295) (ha:0≤x.a∧x.a < M.aa.stack.length) (h1:0≤M.aa.place x.a∧M.aa.place x.a < M.st.ns.length) (h0:0≤M.aa.place 0∧M.aa.place 0 < M.st.ns.length) :
   aD Tryz.prog 121 [ptr m,ptr k,ec x] w fun _ w'=>aU w τ m S { M.bZ (M.aa.pop 1) with st:=M.st.set (M.st.ov (M.aa.place x.a)) ⟨5,0,[(M.st.ov (M.aa.place 0):Int)]⟩} ks w':=by
 refine aeR.calls rfl ?_;unfold K6;refine σ ?_;refine b8 rfl ?_;intro w1 aq ag _;simp only [go_sem,simprocAttr,cell_of aq,Value.cells];refine δ (by rfl) (om (h.later ag).fr (by omega) ha) ?_;rintro _ _ ⟨rfl,rfl⟩;have ae:Mod (fun _=>False) w w1.drew:=ag.drew;refine σ ?_;refine δ (by rfl) (ot (h.later ae).at' ho he h1) ?_;rintro _ w3 ⟨v3,rfl,rC,ab⟩;refine σ ?_;refine de ?_;intro w4 aJ aj _;refine σ ?_;refine cu (cs:=[I 0,I 0,.slice none 0 0]) rfl rfl aJ rfl rfl (ow rC _ _) ?_;intro w5 cd ay iq;refine σ ?_;have gj:=(ae.trans ab).size;have dt:Mod (fun _=>False) w w5:=(ae.trans (ab.trans aj)).step ay (fun x U hl=>by subst U;omega);refine δ (by rfl) (om (h.later dt).fr (by omega) ⟨by omega,by omega⟩) ?_;rintro _ _ ⟨rfl,rfl⟩;have aH:Mod (fun _=>False) w w5.drew:=dt.drew;refine σ ?_;refine δ (by rfl) (ot (h.later aH).at' ho he h0) ?_;rintro _ w7 ⟨v7,rfl,hv7,aZ⟩;refine σ ?_;refine de ?_;intro w8 en bY _;refine σ ?_;refine cu (cs:=[I 0,I 0,.slice none 0 0]) rfl rfl en rfl rfl (ow hv7 _ _) ?_;intro w9 kn dq zN;refine σ ?_;have mX:=(aH.trans aZ).size;have rq:Mod (fun _=>False) w w9:=(aH.trans (aZ.trans bY)).step dq (fun x U hl=>by subst U;omega);have h9:=h.later rq;obtain ⟨vG,vF,vW,vT,fg,ff,fw,ft,F,hh⟩:=h9.at';have hc9:=hh.cells;obtain ⟨ti,ui,sI⟩:=hh.st.iface;simp only [go_sem,simprocAttr,cell_of hc9,bg];refine dL (by rfl) (by rfl) ?_;intro fM vZ ep _;refine σ ?_;have Uf:=h.later (rq.trans ep);obtain ⟨vG,vF,vW,vT,fg,ff,fw,ft,F,hh⟩:=Uf.at';refine Fm (p:=(M.st.ov (M.aa.place x.a):Int)) (nd:=⟨5,0,[(M.st.ov (M.aa.place 0):Int)]⟩) rfl (by rfl) hh.st ho ?_ rfl ?_ (CJ (xs:=[(M.st.ov (M.aa.place 0):Int)]) vZ (by simp)) ?_
 ·have:=LI ho h1;omega
 ·have:=LI ho h0;simp [bK];omega
 intro jI F11 B9 Ug;have h11:=hh.store (s:=M.st.set (M.st.ov (M.aa.place x.a)) ⟨5,0,[(M.st.ov (M.aa.place 0):Int)]⟩) Ug B9 rfl;refine σ ?_;refine ao (by rfl) ?_;have hop:aU fM (bO τ w .no) m S { M with st:=M.st.set (M.st.ov (M.aa.place x.a)) ⟨5,0,[(M.st.ov (M.aa.place 0):Int)]⟩} ks jI:=
  ⟨_,nD _ _ _,⟨vG,vF,vW,vT,fg,ff,fw,ft,F11,h11⟩,Ug.1.aB (fun b hb=>by rw [hh.tF b hb];simp [Tg.own])⟩
 obtain ⟨nE,k1,k2,k5⟩:=Uf.two hop rfl;refine (yj (n:=1) k5.fr (by show M.aa.stack.length≤_;omega) ⟨by omega,by show (1:Int)≤M.aa.stack.length;omega⟩).mono ?_;intro _ ry ye;refine σ ?_;exact aU.boxed (rq.trans ep) (yn k1 k2 k5 ye)
theorem afR (hp:0 < M.aA.length):M.alloc 0=M:=by
 have h1:M.bZ M.aa=M:=by
  simp only [Mc.bZ];have:M.aA.set (M.aA.length - 1) M.aa=M.aA:=by
   apply List.ext_getElem?;intro j;rw [List.getElem?_set]
   split
   ·rename_i hj;subst hj;rw [if_pos (by omega),CH hp]
   ·rfl
  rw [this]
 unfold Mc.alloc;simp only [List.range_zero,List.map_nil,List.append_nil,List.replicate_zero];exact h1
theorem afS (hp:0 < M.aA.length) (i:Nat):M.alloc (i+1)=({ M.alloc i with st:=(M.alloc i).st.add ⟨6,0,[]⟩}:Mc).bZ (({ M.alloc i with st:=(M.alloc i).st.add ⟨6,0,[]⟩}:Mc).aa.push (M.alloc i).st.ns.length):=by
 have ht:=(qj hp { M.aa with stack:=M.aa.stack++(List.range i).map fun i=>((M.st.ns.length+i:Nat):Int)}).1;have e:({ M.alloc i with st:=(M.alloc i).st.add ⟨6,0,[]⟩}:Mc).aa = { M.aa with stack:=M.aa.stack++(List.range i).map fun i=>((M.st.ns.length+i:Nat):Int)}:=ht;rw [e];simp only [Mc.alloc,Mc.bZ,Fr.push,St.add,List.set_set,List.length_set,List.length_append,List.length_replicate,List.range_succ,List.map_append,List.map_cons,List.map_nil,List.append_assoc,List.replicate_succ',Mc.mk.injEq,St.mk.injEq,true_and,and_true]
theorem afT (h:dH w τ m S M ks k) (ho:M.st.Ok) {n:Nat} (hn:x.a=n) (hs:M.aa.stack.length+n≤4294967295) (hr:(M.st.ns.length:Int)+n≤M.st.size) (ct:∀ i,i≤n→(M.alloc i).st.Ok) :
   aD Tryz.prog 123 [ptr m,ptr k,ec x] w fun _ w'=>aU w τ m S (M.alloc n) ks w':=by
 refine aeT.calls rfl ?_;unfold K8;refine σ ?_;refine b8 rfl ?_;intro w1 aq ag _;have h1:=h.later ag;rw [hn] at aq;simp only [go_sem,simprocAttr,cell_of aq,Value.cells];refine dz (fun z ρ w'=>∃ i:Nat,z=n - i∧i≤n∧aU w1 (bO τ w .no) m S (M.alloc i) ks w'∧ρ=[(0,ptr m),(1,ptr k),(7,I n),(8,I i)]) n ⟨0,rfl,by omega,?_,rfl⟩ ?_
 ·rw [afR h.pos];exact ⟨_,dP _ _,h1.at',Mod.refl _ _⟩
 rintro z ρ w2 ⟨i,rfl,hi,hop,rfl⟩;unfold TI;refine σ ?_;refine aX rfl (fun hh=>?_) (fun hh=>?_)
 ·have cK:i < n:=by simpa using hh
  refine σ ?_;obtain ⟨Ue,k1,k2,k5⟩:=hop.aa (by simp [Mc.alloc,Mc.bZ]) h.pos h.hk;have LJ:=(qj h.pos { M.aa with stack:=M.aa.stack++(List.range i).map fun i=>((M.st.ns.length+i:Nat):Int)}).1;have LJ:(M.alloc i).aa=_:=LJ;have hli:(M.alloc i).st.ns.length=M.st.ns.length+i:=by simp [Mc.alloc]
  refine δ (by rfl) (CC (nd:=⟨6,0,[]⟩) k5.at' (ct i (by omega)) rfl rfl (um w2) (by rw [hli];show ((M.st.ns.length+i:Nat):Int) < M.st.size;omega)) ?_;rintro _ w3 ⟨rfl,afU⟩;obtain ⟨wu,j1,j2,k6⟩:=k5.two afU rfl;refine σ ?_;refine δ (by rfl) (wl k6.fr (by show (M.alloc i).aa.stack.length≤_;rw [LJ];simp;omega) _) ?_;intro _ w4 ke;have e1:IntKind.i64.wrap ((i:Int)+1)=((i+1:Nat):Int):=by rw [bU (by omega) (by omega)];omega
  simp only [go_sem,simprocAttr,e1];refine ⟨_,by omega,i+1,rfl,by omega,?_,rfl⟩;rw [afS h.pos];exact aU.cat k1 k2 (yn j1 j2 k6 ke)
 ·have cK:¬ i < n:=by simpa using hh
  obtain rfl:i=n:=by omega
  refine σ ?_;exact aU.boxed ag hop
end
end
section
open Go Go.W
section
variable {w:World} {τ:Tag} {m:Nat} {S:SV} {M:Mc} {ks:List Nat} {k:Nat} {x:Ins}
theorem afV (h:dH w τ m S M ks k) (ho:M.st.Ok) (he:Ends M.st.ns) (hs:M.aa.stack.length≤4294967295) (pM:0 < M.aa.stack.length) (h0:0≤M.aa.place 0∧M.aa.place 0 < M.st.ns.length) :
   aD Tryz.prog 129 [ptr m,ptr k,ec x] w fun _ w'=>aU w τ m S (M.ju (decide ((M.st.nd (M.aa.place 0)).kind≠2)) (decide ((M.st.nd (M.aa.place 0)).num≠x.a)) x.b) ks w':=by
 refine aeZ.calls rfl ?_;unfold Ld;refine σ ?_;refine b8 rfl ?_;intro w1 aq ag _;have h1:=h.later ag;have jx:=Mod.refl (fun _=>False) w1;refine σ ?_;refine δ (by rfl) (om (h1.later jx).fr (by omega) ⟨by omega,by omega⟩) ?_;rintro _ _ ⟨rfl,rfl⟩;have kB:Mod (fun _=>False) w1 w1.drew:=jx.drew;refine σ ?_;refine δ (by rfl) (ot (h1.later kB).at' ho he h0) ?_;rintro _ pn ⟨v2,rfl,fK,ox⟩;refine σ ?_;refine de ?_;intro FE uo ml _;refine σ ?_;refine cu (cs:=[I 0,I 0,.slice none 0 0]) rfl rfl uo rfl rfl (ow fK _ _) ?_;intro w2 an oy FF;refine σ ?_;have CK:=(kB.trans ox).size;have ae:Mod (fun _=>False) w1 w2:=(kB.trans (ox.trans ml)).step oy (fun x U hl=>by subst U;omega);have pj:Mod (fun _=>False) pn w2:=ml.step oy (fun x U hl=>by subst U;omega);have h2:=h1.later ae;have a7:=ae.at aq (fun h=>h);simp only [go_sem,simprocAttr,cell_of an];refine aX rfl (fun hh=>?_) (fun hh=>?_)
 ·refine σ ?_;refine δ (by rfl) (rA h2.at' 5) ?_;intro _ w3 hop;refine σ ?_;have e:M.ju (decide ((M.st.nd (M.aa.place 0)).kind≠2)) (decide ((M.st.nd (M.aa.place 0)).num≠x.a)) x.b=M.fail 5:=by
   unfold Mc.ju;rw [if_pos];simp only [aK,aL,aM,ak,aN] at hh;simpa using hh
  rw [e];exact aU.boxed ag (aU.boxed ae hop)
 ·simp only [go_sem,simprocAttr,cell_of an,cell_of a7,Value.cells];have e0:M.ju (decide ((M.st.nd (M.aa.place 0)).kind≠2)) (decide ((M.st.nd (M.aa.place 0)).num≠x.a)) x.b=if (M.st.nd (M.aa.place 0)).num≠x.a then M.bZ { M.aa with at':=x.b} else M:=by
   unfold Mc.ju;simp only [aK,aL,aM,ak,aN] at hh;rw [if_neg (by simpa using hh)];simp
  rw [e0];refine aX rfl (fun hg=>?_) (fun hg=>?_)
  ·obtain ⟨vs,vp,fs,fp,hf⟩:=h2.fr;have hc:=hf.cells;simp only [aK,aL,aM,ak,aN] at hg;rw [if_pos hg];simp only [go_sem,simprocAttr,cell_of a7,Value.cells];refine bL (off:=2) rfl rfl hc rfl (by simp [cz]) ?_;intro w3 aE ab gj;refine σ ?_;exact aU.boxed ag (aU.boxed ae (h2.eT (Fv hf rfl rfl (by simpa [cz] using aE) ab)))
  ·simp only [aK,aL,aM,ak,aN] at hg;rw [if_neg (by simpa using hg)];refine σ ?_;exact aU.boxed ag (aU.boxed ae ⟨_,dP _ _,h2.at',Mod.refl _ _⟩)
theorem afW (h:dH w τ m S M ks k) (ho:M.st.Ok) (he:Ends M.st.ns) (hs:M.aa.stack.length≤4294967295) (pM:0 < M.aa.stack.length) (h0:0≤M.aa.place 0∧M.aa.place 0 < M.st.ns.length) :
   aD Tryz.prog 130 [ptr m,ptr k,ec x] w fun _ w'=>aU w τ m S (M.ju (decide ((M.st.nd (M.aa.place 0)).kind≠1)) (decide ((M.st.nd (M.aa.place 0)).num≠x.a)) x.b) ks w':=by
 refine ae0.calls rfl ?_;unfold Le;refine σ ?_;refine b8 rfl ?_;intro w1 aq ag _;have h1:=h.later ag;have jx:=Mod.refl (fun _=>False) w1;refine σ ?_;refine δ (by rfl) (om (h1.later jx).fr (by omega) ⟨by omega,by omega⟩) ?_;rintro _ _ ⟨rfl,rfl⟩;have kB:Mod (fun _=>False) w1 w1.drew:=jx.drew;refine σ ?_;refine δ (by rfl) (ot (h1.later kB).at' ho he h0) ?_;rintro _ pn ⟨v2,rfl,fK,ox⟩;refine σ ?_;refine de ?_;intro FE uo ml _;refine σ ?_;refine cu (cs:=[I 0,I 0,.slice none 0 0]) rfl rfl uo rfl rfl (ow fK _ _) ?_;intro w2 an oy FF;refine σ ?_;have CK:=(kB.trans ox).size;have ae:Mod (fun _=>False) w1 w2:=(kB.trans (ox.trans ml)).step oy (fun x U hl=>by subst U;omega);have pj:Mod (fun _=>False) pn w2:=ml.step oy (fun x U hl=>by subst U;omega);have h2:=h1.later ae;have a7:=ae.at aq (fun h=>h);simp only [go_sem,simprocAttr,cell_of an];refine aX rfl (fun hh=>?_) (fun hh=>?_)
 ·refine σ ?_;refine δ (by rfl) (rA h2.at' 5) ?_;intro _ w3 hop;refine σ ?_;have e:M.ju (decide ((M.st.nd (M.aa.place 0)).kind≠1)) (decide ((M.st.nd (M.aa.place 0)).num≠x.a)) x.b=M.fail 5:=by
   unfold Mc.ju;rw [if_pos];simp only [aK,aL,aM,ak,aN] at hh;simpa using hh
  rw [e];exact aU.boxed ag (aU.boxed ae hop)
 ·simp only [go_sem,simprocAttr,cell_of an,cell_of a7,Value.cells];have e0:M.ju (decide ((M.st.nd (M.aa.place 0)).kind≠1)) (decide ((M.st.nd (M.aa.place 0)).num≠x.a)) x.b=if (M.st.nd (M.aa.place 0)).num≠x.a then M.bZ { M.aa with at':=x.b} else M:=by
   unfold Mc.ju;simp only [aK,aL,aM,ak,aN] at hh;rw [if_neg (by simpa using hh)];simp
  rw [e0];refine aX rfl (fun hg=>?_) (fun hg=>?_)
  ·obtain ⟨vs,vp,fs,fp,hf⟩:=h2.fr;have hc:=hf.cells;simp only [aK,aL,aM,ak,aN] at hg;rw [if_pos hg];simp only [go_sem,simprocAttr,cell_of a7,Value.cells];refine bL (off:=2) rfl rfl hc rfl (by simp [cz]) ?_;intro w3 aE ab gj;refine σ ?_;exact aU.boxed ag (aU.boxed ae (h2.eT (Fv hf rfl rfl (by simpa [cz] using aE) ab)))
  ·simp only [aK,aL,aM,ak,aN] at hg;rw [if_neg (by simpa using hg)];refine σ ?_;exact aU.boxed ag (aU.boxed ae ⟨_,dP _ _,h2.at',Mod.refl _ _⟩)
theorem Uh {vG vF vW vT:Value} {fg ff fw ft:Option Nat} {F:Nat→Prop} (h:dZ w τ m S M vG vF vW vT fg ff fw ft F ks) (p:Int) {w4:World} {k':Nat} {v:Value} {yl:Option Nat} (dS:w.heap.size≤k')
   (hb:w4.heap[k']? = some (.cells (cz (yh p) (.slice none 0 0) (.slice none 0 0)).toArray 151 (0,0))) (hm:Mod (fun b=>ff=some b∨b=m) w w4)
   (hc:w4.heap[m]? = some (.cells (bg S (M.enter p) vG v vW vT).toArray 113 (0,0))) (ho:ax w4 152 1 v ((ks++[k']).map ptr) (ks++[k']).length yl)
   (hf:∀ b,yl=some b→ff=some b∨w.heap.size≤b):aU w τ m S (M.enter p) (ks++[k']) w4:=by
 have hl:=h.len;have Ui:τ.ext (fun b=>if b < w.heap.size then τ b else if b=k' then .fb M.aA.length else .fr) w:=fun b hb=>by simp [hb]
 have DX:k' < w4.heap.size:=lt_of_heap hb;refine ⟨_,Ui,⟨vG,v,vW,vT,fg,yl,fw,ft,F,?_⟩,hm.aB ?_⟩
 ·refine h.aA Ui.wx hm hc ho ?_ (by simp [Mc.enter,hl]) ?_ rfl rfl rfl rfl rfl rfl
  ·intro b fH;have bq:b≠k':=fun e=>by subst e;exact hP ho fH hb (by decide)
   rcases hf b fH with h1 | h1
   ·simp only [if_pos (h.fr.lt h1)];exact h.tf b h1
   ·simp only [if_neg (Nat.not_lt.2 h1),if_neg bq]
  ·intro i kk f hk uq;simp only [Mc.enter] at uq;by_cases hi:i < ks.length
   ·rw [List.getElem?_append_left hi] at hk;rw [List.getElem?_append_left (by omega)] at uq;exact .inl ⟨hk,uq⟩
   ·have jq:i < (ks++[k']).length:=(List.getElem?_eq_some_iff.1 hk).1;simp at jq;obtain rfl:i=ks.length:=by omega
    rw [List.getElem?_append_right (by omega)] at hk;rw [List.getElem?_append_right (by omega)] at uq;simp [hl] at hk uq;subst hk;subst uq;refine .inr ⟨.slice none 0 0,.slice none 0 0,none,none,hb,?_,ax.nil _ _ _,(fun b hb=>by cases hb),ax.nil _ _ _,fun b hb=>by cases hb⟩;simp only [if_neg (Nat.not_lt.2 dS)];simp [hl]
 ·rintro b (hb | rfl)
  ·rw [h.tf b hb];simp [Tg.own]
  ·rw [h.tm];simp [Tg.own]
theorem afX (h:dH w τ m S M ks k) (ho:M.st.Ok) (he:Ends M.st.ns) (hs:M.aa.stack.length≤4294967295) (pM:0 < M.aa.stack.length) (h0:0≤M.aa.place 0∧M.aa.place 0 < M.st.ns.length) (gq:M.aA.length≤4294967295) :
   aD Tryz.prog 126 [ptr m,ptr k,ec x] w fun _ w'=>∃ dv,aU w τ m S (if (M.st.nd (M.aa.place 0)).kind≠1∧(M.st.nd (M.aa.place 0)).kind≠2 then M.enter (M.aa.place 0) else M) dv w':=by
 refine aeW.calls rfl ?_;unfold La;refine σ ?_;refine b8 rfl ?_;intro w1 aq ag _;have h1:=h.later ag;have jx:=Mod.refl (fun _=>False) w1;refine σ ?_;refine δ (by rfl) (om (h1.later jx).fr (by omega) ⟨by omega,by omega⟩) ?_;rintro _ _ ⟨rfl,rfl⟩;have kB:Mod (fun _=>False) w1 w1.drew:=jx.drew;refine σ ?_;refine δ (by rfl) (ot (h1.later kB).at' ho he h0) ?_;rintro _ pn ⟨v2,rfl,fK,ox⟩;refine σ ?_;refine de ?_;intro FE uo ml _;refine σ ?_;refine cu (cs:=[I 0,I 0,.slice none 0 0]) rfl rfl uo rfl rfl (ow fK _ _) ?_;intro w2 an oy FF;refine σ ?_;have CK:=(kB.trans ox).size;have ae:Mod (fun _=>False) w1 w2:=(kB.trans (ox.trans ml)).step oy (fun x U hl=>by subst U;omega);have pj:Mod (fun _=>False) pn w2:=ml.step oy (fun x U hl=>by subst U;omega);have h2:=h1.later ae;have done:∀ t:Bool,(if t=true then M.enter (M.aa.place 0) else M)=(if t=true then M.enter (M.aa.place 0) else M):=fun _=>rfl
 cases eZ:((M.st.nd (M.aa.place 0)).kind != 1)
 ·simp only [go_sem,simprocAttr,cell_of an,eZ];simp only [aK,aL,aM,ak,aN] at eZ;rw [if_neg (by omega)];exact ⟨ks,aU.boxed ag (aU.boxed ae ⟨_,dP _ _,h2.at',Mod.refl _ _⟩)⟩
 cases eU:((M.st.nd (M.aa.place 0)).kind != 2)
 ·simp only [go_sem,simprocAttr,cell_of an,eZ,eU];simp only [aK,aL,aM,ak,aN] at eU;rw [if_neg (by omega)];exact ⟨ks,aU.boxed ag (aU.boxed ae ⟨_,dP _ _,h2.at',Mod.refl _ _⟩)⟩
 have Uj:=eZ;have Uk:=eU;simp only [aK,aL,aM,ak,aN] at Uj;simp only [aK,aL,aM,ak,aN] at Uk;rw [if_pos ⟨Uj,Uk⟩];have ae:=ae.drew;have h2:=h1.later ae;obtain ⟨vG,vF,vW,vT,fg,ff,fw,ft,F,hh⟩:=h2.at';have hc:=hh.cells;have hl:=hh.len;obtain ⟨aF,cF,rfl,_⟩:=hh.fr.val;have bE:w2.heap[m]? = _:=hc;simp only [go_sem,simprocAttr,cell_of an,eZ,eU,cell_of bE,bg];refine δ (by rfl) (om (n:=0) h2.fr (by omega) ⟨by omega,by omega⟩) ?_;rintro _ _ ⟨rfl,rfl⟩;have hr3:Mod (fun _=>False) w2.drew w2.drew.drew:=(Mod.refl _ w2.drew).drew;refine σ ?_;refine b8 rfl ?_;intro w4 aJ aj _;refine σ ?_;refine ⟨?_,?_⟩
 ·exact aj.old m hh.lt (fun h=>h)
 refine dL (by rfl) (by rfl) ?_;intro w5 cd ay _;refine σ ?_;refine ⟨?_,?_⟩
 ·exact ay.old m (by have:=aj.size;have:=hh.lt;exact Nat.lt_of_lt_of_le hh.lt aj.size) (fun h=>h)
 have ni:Mod (fun _=>False) w2.drew w5:=(hr3.trans aj).trans ay;refine gN (m:=1) (news:=[ptr w2.drew.drew.heap.size]) rfl (hh.fr.mod ni (fun _ _ h=>h)) rfl (fun h=>by cases h) (jR (xs:=[ptr w2.drew.drew.heap.size]) cd) (by simp [Value.oneCell',ptr]) rfl (by omega) (by omega) ?_;intro v6 w6 ff6 jr aH jJ;obtain ⟨a6,c6,rfl,_⟩:=jr.val;have gU:=ni.at hc (fun h=>h);have mE:=aH.at gU (fun e=>by have:=hh.tf m e;rw [hh.tm] at this;cases this);refine σ ?_;refine bL (off:=10) rfl rfl mE rfl (by simp [bg]) ?_;intro w7 cj aZ mX;refine σ ?_;have Bd:Mod (fun b=>ff=some b∨b=m) w2.drew w7:=((ni.aB (fun _ h=>h.elim)).step aH (fun b hb _=>.inl hb)).step aZ (fun b hb _=>.inr hb);have ur:w7.heap[w2.drew.drew.heap.size]? = some (.cells (cz (yh (M.aa.place 0)) (.slice none 0 0) (.slice none 0 0)).toArray 151 (0,0)):=by
  have e1:=ay.at aJ (fun h=>h);have e2:=aH.at e1 (fun e=>hP (hh.fr.mod ni (fun _ _ h=>h)) e e1 (by decide));exact aZ.at e2 (fun e=>by have:=hh.lt;have e:w2.drew.heap.size=m:=e;omega)
 have hop:=Uh hh (M.aa.place 0) (k':=w2.drew.drew.heap.size) (Nat.le_refl _) ur Bd (by simpa [bg,Mc.enter] using cj) (by
  have:=jr.mod aZ (fun b hb e=>by
   subst e;rcases jJ b hb with h3 | h3
   ·have:=hh.tf b h3;rw [hh.tm] at this;cases this
   ·have:=hh.lt;have:=ni.size;omega)
  simpa using this) (fun b hb=>(jJ b hb).imp id (fun h3=>by have:=ni.size;omega))
 exact ⟨_,aU.boxed ag (aU.boxed ae hop)⟩
end
end
section
open Go Go.W
theorem CL {P:Program} {N:Nat} {a:IR} {id:Nat} {next:Env→World→Prop} {Q:gy} {ρ:Env} {w:World} (jP:Env→World→Prop) (h:cD P N a (ji id (kO jP Q)) ρ w) (hk:∀ ρ w,jP ρ w→next ρ w):cD P N a (ji id (kO next Q)) ρ w:=
 xv a _ _ (zp (zo hk (fun _ _ _ h=>h))) ρ w h
theorem afY (n:Int):(IntKind.i64.wrap (n*2)) / 2=iv n:=by
 rw [IntKind.wrap_i64];unfold iv;omega
theorem CM (w:World) (n:Int):aD Tryz.prog 151 [I n] w fun r w'=>r=I (iv n)∧w=w':=by
 refine afe.calls rfl ?_;unfold Lt;refine φ ?_;refine ⟨_,rfl,_,rfl,?_⟩;have e:(2:Int) ^ min (Int.toNat 1) 64=2:=by decide
 show I ((IntKind.i64.wrap (n*2 ^ min (Int.toNat 1) 64)).fdiv (2 ^ min (Int.toNat 1) 64))=_;rw [e,Int.fdiv_eq_ediv_of_nonneg _ (by omega),afY]
theorem afZ (w:World) (op a b:Int):aD Tryz.prog 152 [I op,I a,I b] w fun r w'=>r = .bool (Fp op a b)∧w=w':=by
 refine aff.calls rfl ?_;unfold Lu Fp;(try simp only [go_sem,simprocAttr]);refine aX rfl (fun hh=>?_) (fun hh=>?_)
 ·simp only [aK,aL,aM,ak,aN] at hh;rw [if_pos hh];(try simp only [go_sem,simprocAttr])
  try (rw [Value.bool.injEq];by_cases gO:a=b<;>simp [gO])
 simp only [aK,aL,aM,ak,aN] at hh;rw [if_neg hh];(try simp only [go_sem,simprocAttr]);refine aX rfl (fun hh=>?_) (fun hh=>?_)
 ·simp only [aK,aL,aM,ak,aN] at hh;rw [if_pos hh];(try simp only [go_sem,simprocAttr])
  try (rw [Value.bool.injEq];by_cases gO:a=b<;>simp [gO])
 simp only [aK,aL,aM,ak,aN] at hh;rw [if_neg hh];(try simp only [go_sem,simprocAttr]);refine aX rfl (fun hh=>?_) (fun hh=>?_)
 ·simp only [aK,aL,aM,ak,aN] at hh;rw [if_pos hh];(try simp only [go_sem,simprocAttr])
  try (rw [Value.bool.injEq];by_cases gO:a=b<;>simp [gO])
 simp only [aK,aL,aM,ak,aN] at hh;rw [if_neg hh];(try simp only [go_sem,simprocAttr]);refine aX rfl (fun hh=>?_) (fun hh=>?_)
 ·simp only [aK,aL,aM,ak,aN] at hh;rw [if_pos hh];(try simp only [go_sem,simprocAttr])
  try (rw [Value.bool.injEq];by_cases gO:a=b<;>simp [gO])
 simp only [aK,aL,aM,ak,aN] at hh;rw [if_neg hh];(try simp only [go_sem,simprocAttr]);refine aX rfl (fun hh=>?_) (fun hh=>?_)
 ·simp only [aK,aL,aM,ak,aN] at hh;rw [if_pos hh];(try simp only [go_sem,simprocAttr])
  try (rw [Value.bool.injEq];by_cases gO:a=b<;>simp [gO])
 simp only [aK,aL,aM,ak,aN] at hh;rw [if_neg hh];(try simp only [go_sem,simprocAttr])
theorem af0 (n:Int):(⟨1,iv n,[]⟩:Nd).may=true:=by
 have h : -4611686018427387904≤iv n∧iv n≤4611686018427387903:=by unfold iv;omega
 generalize iv n=z at h;simp [Nd.may,gP];omega
theorem af1 {n:Int} (h:0≤n∧n < 20000):(⟨2,n,[]⟩:Nd).may=true:=by
 simp [Nd.may,gP];omega
theorem CN (n:Int):iv (IntKind.i64.wrap n)=iv n:=by
 rw [IntKind.wrap_i64];unfold iv;omega
section
variable {w:World} {τ:Tag} {m:Nat} {S:SV} {M:Mc} {ks:List Nat} {k:Nat} {x:Ins}
theorem af2 (op a b:Int):(jt op a b).may=true∧(jt op a b).args=[]:=by
 unfold jt
 repeat' split
 all_goals first | exact ⟨af0 _,rfl⟩ | exact ⟨af1 (by omega),rfl⟩
theorem af3 (h:dH w τ m S M ks k) (ho:M.st.Ok) (he:Ends M.st.ns) (hs:M.aa.stack.length≤4294967295) (dh:2≤M.aa.stack.length) (h0:0≤M.aa.place 0∧M.aa.place 0 < M.st.ns.length) (CO:0≤M.aa.place 1∧M.aa.place 1 < M.st.ns.length)
   (hr:(M.st.ns.length:Int) < M.st.size) (gR:M.ended=0) (U:1≤x.a∧x.a≤11) :
   aD Tryz.prog 127 [ptr m,ptr k,ec x] w fun _ w'=>aU w τ m S (M.arith x) ks w':=by
 refine aeX.calls rfl ?_;unfold Lb;(try simp only [go_sem,simprocAttr]);refine b8 rfl ?_;intro w1 aq ag _;have h1:=h.later ag;have jx:=Mod.refl (fun _=>False) w1;(try simp only [go_sem,simprocAttr]);refine ao (by rfl) ?_;refine (om (h1.later jx).fr (by omega) ⟨by omega,by omega⟩).mono ?_;rintro _ _ ⟨rfl,rfl⟩;have kB:Mod (fun _=>False) w1 w1.drew:=jx.drew;(try simp only [go_sem,simprocAttr]);refine ao (by rfl) ?_;refine (ot (h1.later kB).at' ho he h0).mono ?_;rintro _ pn ⟨v2,rfl,fK,ox⟩;(try simp only [go_sem,simprocAttr]);refine de ?_;intro FE uo ml _;(try simp only [go_sem,simprocAttr]);refine cu (cs:=[I 0,I 0,.slice none 0 0]) rfl rfl uo rfl rfl (ow fK _ _) ?_;intro w2 an oy FF;(try simp only [go_sem,simprocAttr]);have CK:=(kB.trans ox).size;have ae:Mod (fun _=>False) w1 w2:=(kB.trans (ox.trans ml)).step oy (fun x U hl=>by subst U;omega);have pj:Mod (fun _=>False) pn w2:=ml.step oy (fun x U hl=>by subst U;omega);refine ao (by rfl) ?_;refine (om (h1.later ae).fr (by omega) ⟨by omega,by omega⟩).mono ?_;rintro _ _ ⟨rfl,rfl⟩;have LK:Mod (fun _=>False) w1 w2.drew:=ae.drew;(try simp only [go_sem,simprocAttr]);refine ao (by rfl) ?_;refine (ot (h1.later LK).at' ho he CO).mono ?_;rintro _ LL ⟨v3,rfl,rC,LM⟩;(try simp only [go_sem,simprocAttr]);refine de ?_;intro wd3 af4 Ul _;(try simp only [go_sem,simprocAttr]);refine cu (cs:=[I 0,I 0,.slice none 0 0]) rfl rfl af4 rfl rfl (ow rC _ _) ?_;intro w3 aE Um an6;(try simp only [go_sem,simprocAttr]);have an7:=(LK.trans LM).size;have ab:Mod (fun _=>False) w1 w3:=(LK.trans (LM.trans Ul)).step Um (fun x U hl=>by subst U;omega);have uk:Mod (fun _=>False) LL w3:=Ul.step Um (fun x U hl=>by subst U;omega);have h3:=h1.later ab;have eS:=ab.at aq (fun h=>h);have mZ:Mod (fun _=>False) w2 w3:=((Mod.refl (fun _=>False) w2).drew.trans LM).trans uk;have nF:=mZ.at an (fun h=>h);generalize hA:M.st.nd (M.aa.place 0)=A at *;generalize hB:M.st.nd (M.aa.place 1)=B at *;have hM:M.arith x=if A.kind≠1∨B.kind≠1 then M.fail 5 else if (x.a=4∨x.a=5)∧B.num=0 then M.fail 3 else M.put (jt x.a A.num B.num) 2:=by
  unfold Mc.arith;rw [hA,hB]
 (try simp only [go_sem,simprocAttr,cell_of nF,cell_of aE]);refine gz (fun ρ w'=>w3=w'∧ρ.get 0=some (ptr m)∧ρ.get 1=some (ptr k)∧ρ.get 5=some (ptr w.heap.size)∧ρ.get 7=some (ptr pn.heap.size)∧ρ.get 9=some (ptr LL.heap.size)∧ρ.get 10=some (I 0)∧ρ.get 27=some (.bool (decide (A.kind≠1∨B.kind≠1)))) ?_ ?_
 ·cases eZ:(A.kind != 1)<;>cases eU:(B.kind != 1)<;>(try simp only [go_sem,simprocAttr,cell_of aE,eZ,eU])<;>(simp only [aK,aL,aM,ak,aN] at eZ;simp only [aK,aL,aM,ak,aN] at eU;simp [eZ,eU])
 rintro ρ _ ⟨rfl,r0,r1,r5,r7,r9,pr,Lz⟩;(try simp only [go_sem,simprocAttr,r0,r1,r5,r7,r9,pr,Lz])
 refine CL (fun ρ w'=>ρ.get 0=some (ptr m)∧ρ.get 1=some (ptr k)∧((∃ gS v10,gS≠0∧ρ.get 10=some v10∧M.arith x=M.fail gS∧aU w3 (bO (bO τ w .no) w1 .no) m S (M.fail gS) ks w') ∨
  (∃ nd,ρ.get 10=some (I M.st.ns.length)∧M.arith x=M.put nd 2∧aU w3 (bO (bO τ w .no) w1 .no) m S { M with st:=M.st.add nd} ks w'))) ?_ ?_
 ·refine aX rfl (fun hk=>?_) (fun hk=>?_)
  ·simp only [aK,aL,aM,ak,aN] at hk;(try simp only [go_sem,simprocAttr]);refine ao (by rfl) ?_;refine (rA h3.at' 5).mono ?_;rintro _ w4 hop;(try simp only [go_sem,simprocAttr]);exact .inl ⟨5,_,by decide,rfl,by rw [hM,if_pos hk],hop⟩
  simp only [aK,aL,aM,ak,aN] at hk;rw [if_neg hk] at hM;(try simp only [go_sem,simprocAttr,cell_of eS,Value.cells]);refine gz (fun ρ w'=>w3=w'∧ρ.get 0=some (ptr m)∧ρ.get 1=some (ptr k)∧ρ.get 5=some (ptr w.heap.size)∧ρ.get 7=some (ptr pn.heap.size)∧ρ.get 9=some (ptr LL.heap.size)∧ρ.get 10=some (I 0)∧ρ.get 38=some (.bool (decide ((x.a=4∨x.a=5)∧B.num=0)))) ?_ ?_
  ·cases h4:(x.a == 4)<;>cases h5:(x.a == 5)<;>cases hz:(B.num == 0)<;>(try simp only [go_sem,simprocAttr,cell_of aE,cell_of eS,Value.cells,h4,h5,hz])<;>(simp only [aK,aL,aM,ak,aN] at h4;simp only [aK,aL,aM,ak,aN] at h5;simp only [aK,aL,aM,ak,aN] at hz;simp [h4,h5,hz])
  rintro ρ _ ⟨rfl,r0,r1,r5,r7,r9,pr,CP⟩;(try simp only [go_sem,simprocAttr,r0,r1,r5,r7,r9,pr,CP]);refine aX rfl (fun hz=>?_) (fun hz=>?_)
  ·simp only [aK,aL,aM,ak,aN] at hz;(try simp only [go_sem,simprocAttr]);refine ao (by rfl) ?_;refine (rA h3.at' 3).mono ?_;rintro _ w4 hop;(try simp only [go_sem,simprocAttr]);exact .inl ⟨3,_,by decide,rfl,by rw [hM,if_pos hz],hop⟩
  simp only [aK,aL,aM,ak,aN] at hz;rw [if_neg hz] at hM;(try simp only [go_sem,simprocAttr,cell_of eS,Value.cells,cell_of nF,cell_of aE]);have sJ:∀ nd:Nd,jt x.a A.num B.num=nd→aD Tryz.prog 116 [ptr m,I nd.kind,I nd.num,.slice none 0 0] w3 fun r w'=>r=I M.st.ns.length∧M.arith x=M.put nd 2∧aU w3 (bO (bO τ w .no) w1 .no) m S { M with st:=M.st.add nd} ks w':=by
   intro nd b9;obtain ⟨a1,a2⟩:=af2 x.a A.num B.num;rw [b9] at a1 a2;refine (CC (nd:=nd) h3.at' ho a1 (by rw [a2];rfl) (by rw [a2];exact um w3) hr).mono ?_;rintro r w' ⟨h5,h6⟩;exact ⟨h5,by rw [hM,b9],h6⟩
  refine aX rfl (fun hop=>?_) (fun hop=>?_)
  ·simp only [aK,aL,aM,ak,aN] at hop;(try simp only [go_sem,simprocAttr,cell_of nF,cell_of aE]);refine ao (by rfl) ?_;refine (CM w3 _).mono ?_;rintro _ _ ⟨rfl,rfl⟩;(try simp only [go_sem,simprocAttr,CN]);refine ao (by rfl) ?_;refine (sJ ⟨1,iv (A.num+B.num),[]⟩ (by unfold jt;simp [hop])).mono ?_;rintro _ w4 ⟨rfl,e,pt⟩;(try simp only [go_sem,simprocAttr]);exact .inr ⟨_,e,pt⟩
  simp only [aK,aL,aM,ak,aN] at hop;(try simp only [go_sem,simprocAttr,cell_of eS,Value.cells]);refine aX rfl (fun hop=>?_) (fun hop=>?_)
  ·simp only [aK,aL,aM,ak,aN] at hop;(try simp only [go_sem,simprocAttr,cell_of nF,cell_of aE]);refine ao (by rfl) ?_;refine (CM w3 _).mono ?_;rintro _ _ ⟨rfl,rfl⟩;(try simp only [go_sem,simprocAttr,CN]);refine ao (by rfl) ?_;refine (sJ ⟨1,iv (A.num - B.num),[]⟩ (by unfold jt;simp [hop])).mono ?_;rintro _ w4 ⟨rfl,e,pt⟩;(try simp only [go_sem,simprocAttr]);exact .inr ⟨_,e,pt⟩
  simp only [aK,aL,aM,ak,aN] at hop;(try simp only [go_sem,simprocAttr,cell_of eS,Value.cells]);refine aX rfl (fun hop=>?_) (fun hop=>?_)
  ·simp only [aK,aL,aM,ak,aN] at hop;(try simp only [go_sem,simprocAttr,cell_of nF,cell_of aE]);refine ao (by rfl) ?_;refine (CM w3 _).mono ?_;rintro _ _ ⟨rfl,rfl⟩;(try simp only [go_sem,simprocAttr,CN]);refine ao (by rfl) ?_;refine (sJ ⟨1,iv (A.num*B.num),[]⟩ (by unfold jt;simp [hop])).mono ?_;rintro _ w4 ⟨rfl,e,pt⟩;(try simp only [go_sem,simprocAttr]);exact .inr ⟨_,e,pt⟩
  simp only [aK,aL,aM,ak,aN] at hop;(try simp only [go_sem,simprocAttr,cell_of eS,Value.cells]);refine aX rfl (fun hop=>?_) (fun hop=>?_)
  ·simp only [aK,aL,aM,ak,aN] at hop;have rD:B.num≠0:=fun rD=>hz ⟨by omega,rD⟩
   (try simp only [go_sem,simprocAttr,cell_of nF,cell_of aE,rD]);refine ao (by rfl) ?_;refine (CM w3 _).mono ?_;rintro _ _ ⟨rfl,rfl⟩;(try simp only [go_sem,simprocAttr,CN]);refine ao (by rfl) ?_;refine (sJ ⟨1,iv (A.num.tdiv B.num),[]⟩ (by unfold jt;simp [hop])).mono ?_;rintro _ w4 ⟨rfl,e,pt⟩;(try simp only [go_sem,simprocAttr]);exact .inr ⟨_,e,pt⟩
  simp only [aK,aL,aM,ak,aN] at hop;(try simp only [go_sem,simprocAttr,cell_of eS,Value.cells]);refine aX rfl (fun hop=>?_) (fun hop=>?_)
  ·simp only [aK,aL,aM,ak,aN] at hop;have rD:B.num≠0:=fun rD=>hz ⟨by omega,rD⟩
   (try simp only [go_sem,simprocAttr,cell_of nF,cell_of aE,rD]);refine ao (by rfl) ?_;refine (CM w3 _).mono ?_;rintro _ _ ⟨rfl,rfl⟩;(try simp only [go_sem,simprocAttr,CN]);refine ao (by rfl) ?_;refine (sJ ⟨1,iv (A.num.tmod B.num),[]⟩ (by unfold jt;simp [hop])).mono ?_;rintro _ w4 ⟨rfl,e,pt⟩;(try simp only [go_sem,simprocAttr]);exact .inr ⟨_,e,pt⟩
  simp only [aK,aL,aM,ak,aN] at hop;(try simp only [go_sem,simprocAttr,cell_of eS,Value.cells]);(try simp only [go_sem,simprocAttr,cell_of eS,Value.cells,cell_of nF,cell_of aE]);refine ao (by rfl) ?_;refine (afZ w3 _ _ _).mono ?_;rintro _ _ ⟨rfl,rfl⟩;have sK:∀ z:Bool,Fp x.a A.num B.num=z→jt x.a A.num B.num=⟨2,if z=true then 1 else 0,[]⟩:=by
   intro z tu;unfold jt;rw [if_neg (by omega),if_neg (by omega),if_neg (by omega),if_neg (by omega),if_neg (by omega),tu];cases z<;>rfl
  (try simp only [go_sem,simprocAttr]);refine aX rfl (fun wq=>?_) (fun wq=>?_)
  ·have b9:=sK _ wq;(try simp only [go_sem,simprocAttr]);refine ao (by rfl) ?_;refine (sJ ⟨2,1,[]⟩ b9).mono ?_;rintro _ w4 ⟨rfl,e,pt⟩;(try simp only [go_sem,simprocAttr]);exact .inr ⟨_,e,pt⟩
  ·have b9:=sK _ wq;(try simp only [go_sem,simprocAttr]);refine ao (by rfl) ?_;refine (sJ ⟨2,0,[]⟩ b9).mono ?_;rintro _ w4 ⟨rfl,e,pt⟩;(try simp only [go_sem,simprocAttr]);exact .inr ⟨_,e,pt⟩
 rintro ρ w4 ⟨r0,r1,⟨gS,v10,bq,pr,e,hop⟩ | ⟨nd,pr,e,hop⟩⟩
 ·obtain ⟨τ4,k1,⟨vG,vF,vW,vT,fg,ff,fw,ft,F,hh⟩,k3⟩:=hop;have hc:=hh.cells;have e0:((M.fail gS).ended == 0)=false:=rfl;(try simp only [go_sem,simprocAttr,r0,r1,pr,cell_of hc,bg,e0]);rw [e];exact aU.boxed ag (aU.boxed ab ⟨τ4,k1,⟨vG,vF,vW,vT,fg,ff,fw,ft,F,hh⟩,k3⟩)
 ·obtain ⟨nE,k1,k2,k5⟩:=h3.two hop rfl;obtain ⟨vG,vF,vW,vT,fg,ff,fw,ft,F,hh⟩:=k5.at';have hc:=hh.cells;have e0:(M.ended == 0)=true:=by simp [gR]
  (try simp only [go_sem,simprocAttr,r0,r1,pr,cell_of hc,bg,e0]);refine ao (by rfl) ?_;refine (yj (n:=2) k5.fr (by show M.aa.stack.length≤_;omega) ⟨by omega,by show (2:Int)≤M.aa.stack.length;omega⟩).mono ?_;intro _ w6 jJ;have jr:=aU.cat k1 k2 (k5.eT jJ);obtain ⟨LH,j1,j2,k6⟩:=jr.aa (by simp [Mc.bZ]) h.pos h.hk;(try simp only [go_sem,simprocAttr]);refine ao (by rfl) ?_;obtain ⟨t1,t2⟩:=qj (M:={ M with st:=M.st.add nd}) h.pos (M.aa.pop 2);have t1:(({ M with st:=M.st.add nd}:Mc).bZ (({ M with st:=M.st.add nd}:Mc).aa.pop 2)).aa=_:=t1;refine (wl k6.fr (by rw [t1];simp only [Fr.pop,List.length_take];omega) M.st.ns.length).mono ?_;intro _ w7 tR;(try simp only [go_sem,simprocAttr]);have:=yn j1 j2 k6 tR;rw [t1] at this;rw [e,put_eq _ _ h.pos];exact aU.boxed ag (aU.boxed ab this)
end
end
section
open Go Go.W
section
variable {w:World} {τ:Tag} {m:Nat} {S:SV} {M:Mc} {ks:List Nat} {k:Nat} {x:Ins}
theorem CQ {w:World} {v:Value} {sz:Nat} {rows:List (List Value)} {B:Nat→Prop} (h:dB w v sz rows B) {i:Nat} (hi:i < rows.length) :
   ∃ ad c,v = .slice (some ad) rows.length c∧rows[i].length=sz∧∀ k (hk:k < rows[i].length),w.cell? ((ad.add (i*sz)).add k)=some rows[i][k]:=by
 obtain ⟨a,c,rfl,_,h⟩:=h;obtain ⟨ad,rfl,h1,h2⟩:=h i hi;exact ⟨ad,c,rfl,h1,h2⟩
theorem yo {w:World} {bt bp:Value} {T:bl} {B:Nat→Prop} (h:dE w bt bp T B) {i:Nat} (hi:i < T.aC.length) :
   ∃ ad c,bt = .slice (some ad) T.aC.length c∧w.cell? ((ad.add (i*2)).add 0)=some (.string (T.sh i).name)∧w.cell? ((ad.add (i*2)).add 1)=some (I (T.sh i).fields):=by
 obtain ⟨ad,c,rfl,h1,h2⟩:=CQ h.1 (i:=i) (by simpa using hi);have e:T.sh (i:Int)=T.aC[i]:=by unfold bl.sh;rw [Int.toNat_natCast,List.getD_eq_getElem?_getD,List.getElem?_eq_getElem hi];rfl
 refine ⟨ad,c,by simp,?_,?_⟩
 ·have:=h2 0 (by rw [h1];omega);rw [this,e];simp [jc]
 ·have:=h2 1 (by rw [h1];omega);rw [this,e];simp [jc]
def fieldsOf (f:Fr) (n:Nat):List Int:=(List.range n).map fun i:Nat=>f.place (i:Int)
theorem As (f:Fr) (n:Nat):(fieldsOf f n).length=n:=by simp [fieldsOf]
theorem af5 (f:Fr) (n:Nat):fieldsOf f (n+1)=fieldsOf f n++[f.place (n:Int)]:=by simp [fieldsOf,List.range_succ]
theorem af6 (f:Fr) {i n:Nat} (hi:i < n):((fieldsOf f i).map I++List.replicate (n - i) (I 0)).set i (I (f.place i))=(fieldsOf f (i+1)).map I++List.replicate (n - (i+1)) (I 0):=by
 rw [List.set_append_right _ _ (by simp [As])];simp only [List.length_map,As,Nat.sub_self];rw [show n - i=(n - (i+1))+1 by omega,List.replicate_succ,List.set_cons_zero,af5,List.map_append,List.append_assoc];rfl
theorem af7 (h:dH w τ m S M ks k) (ho:M.st.Ok) {n:Nat} (ha:0≤x.a∧x.a < M.a8.aC.length) (hn:(M.a8.sh x.a).fields=n) (hn8:n≤8) (cg:n≤M.aa.stack.length) (hs:M.aa.stack.length≤4294967295) (hr:(M.st.ns.length:Int) < M.st.size)
   (bQ:bK M.st.ns.length (fieldsOf M.aa n)=true) :
   aD Tryz.prog 124 [ptr m,ptr k,ec x] w fun _ w'=>aU w τ m S (M.put ⟨2,x.a,fieldsOf M.aa n⟩ n) ks w':=by
 obtain ⟨j,hj⟩:∃ j:Nat,x.a=j:=⟨x.a.toNat,by omega⟩;refine aeU.calls rfl ?_;unfold K9;refine σ ?_;refine b8 rfl ?_;intro w1 aq ag _;have an:w1.drew.heap[w.heap.size]? = _:=aq;have h1:=h.later ag;obtain ⟨vG,vF,vW,vT,fg,ff,fw,ft,F,hh⟩:=h1.at';have dk:=hh.cells;obtain ⟨ad,c,fC,_,gq⟩:=yo hh.a8 (i:=j) (by omega);rw [hj] at aq an hn;rw [hn] at gq;have b1:(0:Int)≤j∧(j:Int) < M.a8.aC.length:=by omega
 have gq:w1.cell? ⟨(ad.add (j*2)).block,(ad.add (j*2)).off+1,none⟩=some (I n):=gq;simp only [go_sem,simprocAttr,ak,bh,cell_of aq,Value.cells,cell_of dk,bg,fC,b1,gq];refine sb (bytes:=8) (n:=n) rfl (by omega) (by omega) ?_;intro w2 gG ae dh;have aY:Mod (fun _=>False) w w2:=ag.trans (Mod.dj ae);refine σ ?_;have Fe:=ag.size
 refine dz (fun z ρ w'=>∃ i:Nat,z=n - i∧i≤n∧Mod (fun _=>False) w w'∧w'.heap[w.heap.size]? = some (.cells #[I x.op,I j,I x.b] 61 (0,0))∧w'.heap[w1.heap.size]? = some (.cells ((fieldsOf M.aa i).map I++List.replicate (n - i) (I 0)).toArray 3 (0,0)) ∧
  ρ=[(0,ptr m),(1,ptr k),(5,ptr w.heap.size),(6,.slice (some ⟨w1.heap.size,0,none⟩) n n),(21,I n),(22,I i)]) n ⟨0,rfl,by omega,aY,ae.at an (fun h=>h),by simpa [fieldsOf] using gG,rfl⟩ ?_
 ·rintro z ρ w3 ⟨i,rfl,hi,ab,g1,g2,rfl⟩;unfold TJ;refine σ ?_;refine aX rfl (fun ah=>?_) (fun ah=>?_)
  ·have cK:i < n:=by simpa using ah
   refine σ ?_;refine δ (by rfl) (om (h.later ab).fr (by omega) ⟨by omega,by omega⟩) ?_;rintro _ _ ⟨rfl,rfl⟩;have c1:(0:Int)≤i∧(i:Int) < n:=by omega
   simp only [go_sem,simprocAttr,ak,bh,c1,c8];refine bL (off:=i) rfl rfl g2 rfl (by simp [As];omega) ?_;intro w4 aJ aj eA;have e1:IntKind.i64.wrap ((i:Int)+1)=((i+1:Nat):Int):=by rw [bU (by omega) (by omega)];omega
   rw [af6 _ cK] at aJ;have aj:=Mod.dj aj;simp only [go_sem,simprocAttr,e1];exact ⟨_,by omega,i+1,rfl,by omega,ab.step aj (fun x U hl=>by subst U;omega),aj.at g1 (fun hh=>by omega),aJ,rfl⟩
  ·have cK:¬ i < n:=by simpa using ah
   obtain rfl:i=n:=by omega
   simp only [Nat.sub_self,List.replicate_zero,List.append_nil] at g2;simp only [go_sem,simprocAttr,cell_of g1];have h3:=h.later ab;refine ao (by rfl) ?_;have hints:=CJ g2 (by rw [As];omega);rw [As] at hints;refine (CC (nd:=⟨2,j,fieldsOf M.aa i⟩) h3.at' ho (by simp [Nd.may,gP,As];omega) bQ hints hr).mono ?_;rintro _ w5 ⟨rfl,hop⟩;obtain ⟨nE,k1,k2,k5⟩:=h3.two hop rfl;refine σ ?_;refine δ (by rfl) (yj (n:=(i:Int)) k5.fr (by show M.aa.stack.length≤_;omega) ⟨by omega,by show (i:Int)≤M.aa.stack.length;omega⟩) ?_;intro _ w6 jJ;have jr:=aU.cat k1 k2 (k5.eT jJ);obtain ⟨LH,j1,j2,k6⟩:=jr.aa (by simp [Mc.bZ]) h.pos h.hk;refine σ ?_;refine ao (by rfl) ?_;obtain ⟨t1,t2⟩:=qj (M:={ M with st:=M.st.add ⟨2,j,fieldsOf M.aa i⟩}) h.pos (M.aa.pop i);have t1:(({ M with st:=M.st.add ⟨2,j,fieldsOf M.aa i⟩}:Mc).bZ (({ M with st:=M.st.add ⟨2,j,fieldsOf M.aa i⟩}:Mc).aa.pop i)).aa=_:=t1;refine (wl k6.fr (by rw [t1];simp only [Fr.pop,List.length_take];omega) M.st.ns.length).mono ?_;intro _ w7 tR;refine σ ?_;have:=yn j1 j2 k6 tR;rw [t1] at this;rw [hj,put_eq _ _ h.pos];exact aU.boxed ab this
end
end
section
open Go Go.RowKit Go.Shelf
attribute [local go_sem] Oper.semAt_some
def eH (n k:Nat):List Nat:=(List.range k).map fun i=>n - 1 - i
theorem BB (n k:Nat):eH n (k+1)=eH n k++[n - 1 - k]:=by simp [eH,List.range_succ]
theorem Iv (n k:Nat):(eH n k).length=k:=by simp [eH]
def rE (Bs b:Nat) (W W':World):Prop:=W'.heap[Bs]? = W.heap[Bs]?∧W'.heap[b]? = W.heap[b]?
theorem CR {Bs b:Nat} {W W':World} (h:rE Bs b W W') {o:Nat}:W'.cell? ⟨b,o,none⟩=W.cell? ⟨b,o,none⟩∧W'.cell? ⟨Bs,o,none⟩=W.cell? ⟨Bs,o,none⟩:=by
 unfold World.cell?;rw [h.1,h.2];exact ⟨rfl,rfl⟩
set_option maxRecDepth 100000 in
set_option maxHeartbeats 2000000 in
theorem af8 (F:Fence) (n:Nat) (h7:F.fn 153) (pu:F.round=none) (hn:1≤n) (l Bs b off len cap:Nat) (dF:Nat→Value) (vV:len*8≤140737488351232) (J Jx:List Nat→World→Prop)
   (hY:∀ pre j W,J pre W→pre.length < len→j < len→YieldAt F (n - 1) Tryz.prog l #[.int .i64 (j:Int),dF j] W fun e W'=>
    (e = .returned (.bool true)∧J (pre++[j]) W'∧rE Bs b W W')∨(e = .returned (.bool false)∧Jx (pre++[j]) W'))
   (W:World) (uu:W.cell? ⟨Bs,0,none⟩=some (.slice (some ⟨b,off,none⟩) len cap)) (hc:∀ j,j < len→W.cell? ⟨b,off+j,none⟩=some (dF j)) (h0:J [] W) :
   CallsIn F n Tryz.prog 153 #[.func (.yield l) #[] #[],.pointer (some ⟨Bs,0,none⟩)] W fun e W'=>(∃ v,e = .returned v) ∧
    ((∃ ys,ys=eH len len∧J ys W')∨(∃ pre,(∃ k,k≤len∧pre=eH len k)∧Jx pre W')):=by
 refine callsIn_of_wp Tryz.func153 rfl h7 ?_ pu;simp only [Tryz.ntmps153,List.size_toArray,List.length_cons,List.length_nil,Nat.reduceAdd,Nat.reduceSub,Array.replicate_succ,Array.replicate_zero,List.push_toArray,List.append_toArray,List.nil_append,List.cons_append];have CS:(IntKind.i64.wrap ((len:Int) - 1))=(len:Int) - 1:=by rw [IntKind.wrap_i64];omega
 gi_wp2
 gi_loopw [3] (fun i wr=>∃ k:Nat,k≤len∧i = .int .i64 ((len:Int) - 1 - k)∧J (eH len k) wr∧rE Bs b W wr)
  (fun i _=>(intOf i+1).toNat)
 case atStart=>exact ⟨0,Nat.zero_le _,by simp,h0,rfl,rfl⟩
 case round=>
  obtain ⟨k,hk,rfl,uv,fJ⟩:=hrel;have af9:wr.cell? ⟨Bs,0,none⟩=some (.slice (some ⟨b,off,none⟩) len cap):=(CR fJ).2.trans uu;by_cases ah:k < len
  ·obtain ⟨j,hj,iX⟩:∃ j:Nat,(len:Int) - 1 - k=(j:Int)∧len - 1 - k=j:=⟨len - 1 - k,by omega,rfl⟩;have Au:j < len:=by omega
   have hcx:wr.cell? ⟨b,off+j,none⟩=some (dF j):=(CR fJ).1.trans (hc j Au);obtain ⟨fn,tmps,assign,body,hy,hR⟩:=hY _ j wr uv (by rw [Iv];exact ah) Au;have hj1:IntKind.i64.wrap ((j:Int) - 1)=(j:Int) - 1:=by rw [IntKind.wrap_i64];omega
   rw [hj]
   gi_wp2
   refine hR.mono ?_;rintro e W3 (⟨rfl,LN,lD⟩ | ⟨rfl,LO⟩)
   ·gi_wp2
    go_roundw
    case rel=>exact ⟨k+1,by omega,by rw [show (len:Int) - 1 - ((k+1:Nat):Int)=(j:Int) - 1 by omega],by rw [BB,iX];exact LN,lD.1.trans fJ.1,lD.2.trans fJ.2⟩
    case measure=>simp [intOf]
   ·gi_wp2
    refine bodyPost_ret (results_none rfl _ _ _) rfl ?_;exact ⟨⟨_,rfl⟩,.inr ⟨_,⟨k+1,by omega,by rw [BB,iX]⟩,LO⟩⟩
  ·obtain rfl:k=len:=by omega
   have h0:decide (0≤(k:Int) - 1 - k)=false:=by simp;omega
   gi_wp2
   go_end0
   exact ⟨⟨_,rfl⟩,.inl ⟨_,rfl,uv⟩⟩
set_option maxRecDepth 100000 in
set_option maxHeartbeats 1000000 in
theorem af' (F:Fence) (n:Nat) (h7:F.fn 153) (pu:F.round=none) (l Bs:Nat) (J:List Nat→World→Prop) (W:World) (uu:W.cell? ⟨Bs,0,none⟩=some (.slice none 0 0)) (h0:J [] W) :
   CallsIn F n Tryz.prog 153 #[.func (.yield l) #[] #[],.pointer (some ⟨Bs,0,none⟩)] W fun e W'=>(∃ v,e = .returned v)∧J [] W':=by
 refine callsIn_of_wp Tryz.func153 rfl h7 ?_ pu;simp only [Tryz.ntmps153,List.size_toArray,List.length_cons,List.length_nil,Nat.reduceAdd,Nat.reduceSub,Array.replicate_succ,Array.replicate_zero,List.push_toArray,List.append_toArray,List.nil_append,List.cons_append]
 gi_wp2
 gi_loopw [3] (fun i wr=>i = .int .i64 (-1)∧J [] wr) (fun _ _=>0)
 case atStart=>exact ⟨rfl,h0⟩
 case round=>
  obtain ⟨rfl,uv⟩:=hrel
  gi_wp2
  go_end0
  exact ⟨⟨_,rfl⟩,uv⟩
theorem Un (F:Fence) (n:Nat) (h7:F.fn 153) (pu:F.round=none) (hn:1≤n) (Bs b len:Nat) (sv:Value) (dF:Nat→Value) (w:World) (uu:w.cell? ⟨Bs,0,none⟩=some sv) (jL:Bs < w.heap.size)
   (hs:(sv = .slice none 0 0∧len=0)∨(b < w.heap.size∧∃ cap,sv = .slice (some ⟨b,0,none⟩) len cap∧∀ j,j < len→w.cell? ⟨b,j,none⟩=some (dF j))) (vV:len*8≤140737488351232) :
   SeqStopsK F n Tryz.prog 153 #[.pointer (some ⟨Bs,0,none⟩)] (fun x : { j:Nat // j < len}=>#[.int .i64 (x.1:Int),dF x.1]) (rE Bs b) (fun ys=>ys.map Subtype.val=eH len len) (fun _=>True) len w:=by
 intro l J Jx W hW _ _ hY h0;have bE:=(hW.cell (p:=⟨Bs,0,none⟩) jL).trans uu;rcases hs with ⟨rfl,rfl⟩ | ⟨hb,cap,rfl,hc⟩
 ·refine (af' F n h7 pu l Bs (fun ns W=>∃ xs,xs.map Subtype.val=ns∧J xs W) W bE ⟨[],rfl,h0⟩).mono ?_;rintro e W' ⟨he,xs,U,hj⟩;exact ⟨he,.inl ⟨xs,U.trans rfl,hj⟩⟩
 ·refine (af8 F n h7 pu hn l Bs b 0 len cap dF vV (fun ns W=>∃ xs,xs.map Subtype.val=ns∧J xs W) (fun ns W=>∃ xs,xs.map Subtype.val=ns∧Jx xs W) ?_ W bE ?_ ⟨[],rfl,h0⟩).mono ?_
  ·rintro pre j W1 ⟨xs,rfl,hj⟩ hl iX;obtain ⟨fn,tmps,assign,body,h1,h2⟩:=hY xs ⟨j,iX⟩ W1 hj (by simpa using hl);refine ⟨fn,tmps,assign,body,h1,h2.mono ?_⟩;rintro e W' (⟨rfl,k1,k2⟩ | ⟨rfl,k1⟩)
   ·exact .inl ⟨rfl,⟨xs++[⟨j,iX⟩],by simp,k1⟩,k2⟩
   ·exact .inr ⟨rfl,xs++[⟨j,iX⟩],by simp,k1⟩
  ·intro j hj;rw [Nat.zero_add];exact (hW.cell (p:=⟨b,j,none⟩) hb).trans (hc j hj)
  ·rintro e W' ⟨he,⟨ys,rfl,xs,U,hj⟩ | ⟨pre,_,xs,U,hj⟩⟩
   ·exact ⟨he,.inl ⟨xs,U,hj⟩⟩
   ·exact ⟨he,.inr ⟨xs,trivial,hj⟩⟩
end
end Go.Proofs.YtnjobkbblhaliaaGreatDoor
section
namespace Go.W
open Go
section
variable {P:Program} {N:Nat} {Q:nY} {Ds:List Nat} {ρ:Env} {w:World} {next:List Nat→Env→World→Prop} {i j:Nat} {rs:List RV} {R:Value→World→Prop}
@[go_sem] theorem an8 {x:IR}:jT P N (.ir x) Q Ds ρ w=cD P N x (fun e ρ w=>Q e Ds ρ w) ρ w:=rfl
@[go_sem] theorem an9 {a b:K}:jT P N (.seq a b) Q Ds ρ w=jT P N a (zx (fun Ds ρ w=>jT P N b Q Ds ρ w) Q) Ds ρ w:=rfl
@[go_sem] theorem an' {a:K}:jT P N (.iC i a) Q Ds ρ w=jT P N a (zy i Q) Ds ρ w:=rfl
@[go_sem] theorem aoa:zx next Q .normal Ds ρ w=next Ds ρ w:=rfl
@[go_sem] theorem aob:zx next Q .ret Ds ρ w=Q .ret Ds ρ w:=rfl
@[go_sem] theorem aoc:zx next Q (.exit i) Ds ρ w=Q (.exit i) Ds ρ w:=rfl
@[go_sem] theorem aod:zy j Q .normal Ds ρ w=Q .normal Ds ρ w:=rfl
@[go_sem] theorem aoe:zy j Q .ret Ds ρ w=Q .ret Ds ρ w:=rfl
@[go_sem] theorem aof:zy j Q (.exit i) Ds ρ w=if i=j then Q .normal Ds ρ w else Q (.exit i) Ds ρ w:=rfl
theorem Uo {e:Exit} (he:e = .normal∨e = .ret) (h:∀ w',Mod (fun _=>False) w w'→∃ vs,kP w' ρ rs=some vs∧R (nW vs) w'):IB rs R e [] ρ w:=
 ⟨he,(fun D h=>by cases h),List.nodup_nil,fun w' hm _=>h w' (hm.aB (fun b hb=>by cases hb))⟩
theorem LP {e:Exit} {D:Nat} (he:e = .normal∨e = .ret) (hD:w.heap[D]? = some (.deferred (some []))) (h:∀ w',Mod (· = D) w w'→∃ vs,kP w' ρ rs=some vs∧R (nW vs) w'):IB rs R e [D] ρ w:=
 ⟨he,(fun D' h=>by obtain rfl:=List.mem_singleton.1 h;exact hD),List.nodup_cons.2 ⟨(by simp),List.nodup_nil⟩,fun w' hm _=>h w' (hm.aB (fun b hb=>List.mem_singleton.1 hb))⟩
end
theorem FG {S:Nat→Prop} {w w':World} (hm:Mod S w w') (hs:∀ b,S b→∀ o,w.heap[b]? = some o→o.isCells=true):KeepsOthers w w':=by
 refine ⟨hm.size,fun k o hk ho=>hm.at hk (fun hh=>?_)⟩;rw [hs k hh o hk] at ho;cases ho
theorem FH {S:Nat→Prop} {w w':World} (hm:Mod S w w') {Bs b:Nat} (h1:Bs < w.heap.size) (h2:b < w.heap.size) (hs:¬ S Bs) (fG:¬ S b):Go.Proofs.YtnjobkbblhaliaaGreatDoor.rE Bs b w w':=⟨hm.old Bs h1 hs,hm.old b h2 fG⟩
theorem CT {W W':World} {S:Nat→Prop} (hm:Mod S W W') (hs:∀ b,S b→∃ o:Obj,W.heap[b]? = some o∧o.isCells=false) {b:Nat} {cs:Array Value} {T:Nat} {fz:Nat×Nat} (h:W.heap[b]? = some (.cells cs T fz)):W'.heap[b]? = some (.cells cs T fz):=by
 refine hm.at h (fun hh=>?_);obtain ⟨o,h1,h2⟩:=hs b hh;rw [h] at h1;cases h1;cases h2
theorem FI {W W':World} {S:Nat→Prop} (hm:Mod S W W') (hs:∀ b,S b→∃ o:Obj,W.heap[b]? = some o∧o.isCells=false) {T sz n:Nat} {v:Value} {xs:List Value} {fp:Option Nat} (h:ax W T sz v xs n fp):ax W' T sz v xs n fp:=by
 refine h.mod hm (fun b hb hh=>?_);obtain ⟨o,h1,h2⟩:=hs b hh;obtain ⟨h3,h4 | ⟨b',c,sp,e,hf,h5,_⟩⟩:=h
 ·obtain ⟨_,_,e⟩:=h4;rw [e] at hb;cases hb
 ·rw [hf] at hb;cases hb;rw [h5] at h1;cases h1;cases h2
end Go.W
namespace Go.Proofs.YtnjobkbblhaliaaGreatDoor
open Go Go.W
theorem Up (w:World) (v:Value):aD Tryz.prog 135 [v] w fun r w'=>r = .func (.func 153) #[] #[ptr w.heap.size]∧(∃ T fz,w'.heap[w.heap.size]? = some (.cells v.cells T fz))∧Mod (fun _=>False) w w':=by
 refine ae5.calls rfl ?_;unfold Lj;refine σ ?_;refine b8 rfl ?_;intro w1 aq ag _;refine σ ?_;exact ⟨⟨_,_,aq⟩,ag⟩
end Go.Proofs.YtnjobkbblhaliaaGreatDoor
end
namespace Go.Proofs.YtnjobkbblhaliaaGreatDoor
section
open Go Go.W
theorem aga {w w3:World} {τ:Tag} {i k:Nat} {f f':Fr} {vs vp vs':Value} {fs fp fs':Option Nat} (h:nx w τ i k f vs vp fs fp) (ho:ax w3 3 1 vs' (f'.stack.map I) f'.stack.length fs') (e:f'.spine=f.spine)
   (hb:w3.heap[k]? = some (.cells (cz f' vs' vp).toArray 151 (0,0))) (hm:Mod (fun b=>fs=some b∨b=k) w w3) (hf:∀ b,fs'=some b→fs=some b∨w.heap.size≤b):wj w τ i k f' w3:=by
 obtain ⟨l1,l2,l3⟩:=h.lt;obtain ⟨a1,a2,a3⟩:=CB h;have ht:=eB τ w (.fs i);refine ⟨bO τ w (.fs i),ht,⟨vs',vp,fs',fp,hb,(ht k l1).trans h.tk,ho,Cz h.ts l2 hf,?_,yi h.tp ht.wx l3 (by simp)⟩,hm.aB ?_⟩
 ·rw [e];refine h.spine.mod hm (fun b an hh=>?_);rcases hh with hh | hh
  ·exact a3 b hh an
  ·exact a2 (hh ▸ an)
 ·rintro b (hh | rfl)
  ·exact .inr (.inl (h.ts b hh))
  ·exact .inl h.tk
theorem agb {w:World} {k:Nat} {f:Fr} {vs vp:Value} {fs:Option Nat} (kY:w.heap[k]? = some (.cells (cz f vs vp).toArray 151 (0,0))) (cg:ax w 3 1 vs (f.stack.map I) f.stack.length fs) (hs:f.stack.length≤4294967296) (p:Int) :
   aD Tryz.prog 111 [.pointer (some ⟨k,0,none⟩),I p] w fun _ w'=>∃ vs' fs',w'.heap[k]? = some (.cells (cz (f.push p) vs' vp).toArray 151 (0,0))∧ax w' 3 1 vs' ((f.push p).stack.map I) (f.push p).stack.length fs' ∧
    Mod (fun b=>fs=some b∨b=k) w w'∧∀ b,fs'=some b→fs=some b∨w.heap.size≤b:=by
 obtain ⟨a,c,rfl,hc,_⟩:=cg.val;refine TG.calls rfl ?_;unfold Fi;simp only [go_sem,simprocAttr,cell_of kY,cz];refine dL (by rfl) (by rfl) ?_;intro w1 aq ag cL;refine σ ?_;refine gN (v:=.slice a f.stack.length c) (news:=[I p]) rfl (cg.mod ag (fun _ _ h=>h)) rfl (fun h=>by cases h) (jR (xs:=[I p]) aq) (oQ [p]) rfl (by omega) (by omega) ?_;intro v2 w2 Am dR ae fQ;have dG:Mod (fun b=>fs=some b) w w2:=(ag.aB (fun _ h=>h.elim)).step ae (fun x U _=>U);have cy:=dG.at kY (fun hh=>hP cg hh kY (by decide));obtain ⟨va,vc,rfl,_,_⟩:=dR.val;refine σ ?_;refine bL (cs:=cz f (.slice a f.stack.length c) vp) rfl rfl cy rfl (by simp [cz]) ?_;intro w3 aE ab gj;refine σ ?_;refine ⟨_,Am,aE,?_,(dG.aB (fun _ h=>.inl h)).step (ab.aB (fun _ h=>.inr h)) (fun x U _=>U),fun b hb=>(fQ b hb).imp id (fun hh=>by have:=ag.size;omega)⟩;have:=dR.mod ab (fun b hb hh=>by subst hh;exact hP dR hb cy (by decide))
 simpa [Fr.push] using this
theorem Uq (l:List Int):(W.eH l.length l.length).map (fun j=>l.getD j 0)=l.reverse:=by
 refine List.ext_getElem (by simp [W.eH]) ?_;intro i h1 h2;simp only [W.eH,List.length_map,List.length_range,List.map_map] at h1;simp only [W.eH,List.map_map,List.getElem_map,List.getElem_range,Function.comp_apply,List.getElem_reverse];rw [List.getD_eq_getElem?_getD,List.getElem?_eq_getElem (by omega)];rfl
theorem FJ {w:World} {T sz n:Nat} {v:Value} {xs:List Value} {fp:Option Nat} (h:ax w T sz v xs n fp) {b:Nat} {o:Obj} (hb:fp=some b) (ho:w.heap[b]? = some o):o.isCells=true:=by
 obtain ⟨h3,h4 | ⟨b',c,sp,e,hf,h5,_⟩⟩:=h
 ·obtain ⟨_,_,e⟩:=h4;rw [e] at hb;cases hb
 ·rw [hf] at hb;cases hb;rw [h5] at ho;cases ho;rfl
structure wv (w:World) (k:Nat) (f:Fr) (vp:Value) (fs:Option Nat) (l:List Int) (W:World):Prop where
 ex:∃ v fs',W.heap[k]? = some (.cells (cz { f with stack:=f.stack++l} v vp).toArray 151 (0,0))∧ax W 3 1 v ((f.stack++l).map I) (f.stack++l).length fs'∧∀ b,fs'=some b→fs=some b∨w.heap.size≤b
 mod:Mod (fun b=>fs=some b∨b=k) w W
theorem wv.quiet {w:World} {k:Nat} {f:Fr} {vp:Value} {fs:Option Nat} {l:List Int}:Quiet w.heap.size (wv w k f vp fs l):=by
 rintro W W' S ⟨⟨v,fs',h1,h2,h3⟩,h4⟩ hm hs;have fG:∀ b,S b→∃ o:Obj,W.heap[b]? = some o∧o.isCells=false:=fun b hb=>(hs b hb).2
 refine ⟨⟨v,fs',CT hm fG h1,FI hm fG h2,h3⟩,h4.step hm (fun b hb hl=>?_)⟩;have:=(hs b hb).1;omega
theorem wv.later {w:World} {k:Nat} {f:Fr} {vp:Value} {fs:Option Nat} {l:List Int} {W W':World} {D:Nat} (h:wv w k f vp fs l W) (hD:W.heap[D]? = some (.deferred (some []))) (hl:w.heap.size≤D) (hm:Mod (· = D) W W'):wv w k f vp fs l W':=
 wv.quiet _ _ _ h hm (fun b hb=>by subst hb;exact ⟨hl,_,hD,rfl⟩)
theorem aU.after {w w' pK:World} {τ:Tag} {m:Nat} {S:SV} {M':Mc} {ks:List Nat} (h:aU w τ m S M' ks w') (hm:Mod (fun _=>False) w' pK):aU w τ m S M' ks pK:=by
 obtain ⟨bJ,h1,h2,h3⟩:=h;exact ⟨bJ,h1,h2.mod hm (dP _ _).wx (fun _ _ h=>h.elim),h3.step hm (fun _ h _=>h.elim)⟩
theorem Ur {w:World} {v:Value} {l:List Int} {fp:Option Nat} (h:ax w 3 1 v (l.map I) l.length fp) {Bs:Nat} (hB:Bs < w.heap.size):∃ b,b < w.heap.size∧(b=Bs∨fp=some b) ∧
   ((v = .slice none 0 0∧l.length=0)∨(b < w.heap.size∧∃ cap,v = .slice (some ⟨b,0,none⟩) l.length cap∧∀ j,j < l.length→w.cell? ⟨b,j,none⟩=some (I (l.getD j 0)))):=by
 rcases Nat.eq_zero_or_pos l.length with h0 | h0
 ·obtain ⟨h1,⟨rfl,_,rfl⟩ | ⟨b,c,sp,rfl,rfl,h5,_⟩⟩:=h
  ·exact ⟨Bs,hB,.inl rfl,.inl ⟨rfl,h0⟩⟩
  ·exact ⟨b,lt_of_heap h5,.inr rfl,.inr ⟨lt_of_heap h5,c,rfl,fun j hj=>by omega⟩⟩
 ·obtain ⟨a,c,rfl,_⟩:=h.val;obtain ⟨b,rfl,hf,_⟩:=kA h h0;refine ⟨b,h.lt hf,.inr hf,.inr ⟨h.lt hf,c,rfl,fun j hj=>?_⟩⟩;obtain ⟨b',e,_,hc⟩:=kA h hj;cases e;rw [hc,List.getElem?_map,List.getElem?_eq_getElem hj,List.getD_eq_getElem?_getD,List.getElem?_eq_getElem hj];rfl
section
variable {w:World} {τ:Tag} {m:Nat} {S:SV} {M:Mc} {ks:List Nat} {k:Nat} {x:Ins}
theorem agc (h:dH w τ m S M ks k) (ho:M.st.Ok) (he:Ends M.st.ns) (hs:M.aa.stack.length≤4294967) (pM:0 < M.aa.stack.length) (h0:0≤M.aa.place 0∧M.aa.place 0 < M.st.ns.length) (ha:0≤x.a∧x.a < M.a8.aC.length) (FK:(M.st.nd (M.aa.place 0)).args.length≤8) :
   aD Tryz.prog 125 [ptr m,ptr k,ec x] w fun _ w'=>aU w τ m S (if (M.st.nd (M.aa.place 0)).kind≠2∨(M.st.nd (M.aa.place 0)).num≠x.a∨((M.st.nd (M.aa.place 0)).args.length:Int)≠(M.a8.sh x.a).fields then M.fail 5
    else M.bZ { M.aa.pop 1 with stack:=(M.aa.pop 1).stack++(M.st.nd (M.aa.place 0)).args.reverse}) ks w':=by
 obtain ⟨j,hj⟩:∃ j:Nat,x.a=j:=⟨x.a.toNat,by omega⟩;refine aeV.calls rfl ?_;unfold TL;refine σ ?_;refine b8 rfl ?_;intro w0 Us tH _;refine σ ?_;refine b8 rfl ?_;intro w1 aq ag _;have LQ:=h.later tH;have h1:=LQ.later ag;have LS:=ag.at Us (fun h=>h);have jx:=Mod.refl (fun _=>False) w1;simp only [go_sem,simprocAttr,cell_of LS,ptr,Value.cells];refine δ (by rfl) (om (h1.later jx).fr (by omega) ⟨by omega,by omega⟩) ?_;rintro _ _ ⟨rfl,rfl⟩;have kB:Mod (fun _=>False) w1 w1.drew:=jx.drew;refine σ ?_;refine δ (by rfl) (ot (h1.later kB).at' ho he h0) ?_;rintro _ pn ⟨v2,rfl,fK,ox⟩;refine σ ?_;refine de ?_;intro FE uo ml _;refine σ ?_;refine cu (cs:=[I 0,I 0,.slice none 0 0]) rfl rfl uo rfl rfl (ow fK _ _) ?_;intro w2 an oy FF;refine σ ?_;have CK:=(kB.trans ox).size;have ae:Mod (fun _=>False) w1 w2:=(kB.trans (ox.trans ml)).step oy (fun x U hl=>by subst U;omega);have pj:Mod (fun _=>False) pn w2:=ml.step oy (fun x U hl=>by subst U;omega);have h2:=h1.later ae;have a7:=ae.at aq (fun h=>h);have agd:=ae.at LS (fun h=>h);generalize hA:M.st.nd (M.aa.place 0)=A at *;obtain ⟨vG,vF,vW,vT,fg,ff,fw,ft,F,hh⟩:=h2.at';have cy:=hh.cells;obtain ⟨ad,c,fC,_,gq⟩:=yo hh.a8 (i:=j) (by omega);have b1:(0:Int)≤j∧(j:Int) < M.a8.aC.length:=by omega
 have gq:w2.cell? ⟨(ad.add (j*2)).block,(ad.add (j*2)).off+1,none⟩=some (I (M.a8.sh j).fields):=gq;rw [hj] at a7;obtain ⟨FM,ww,yp⟩:=fK;obtain ⟨va,vc,rfl,_⟩:=ww.val;rw [hj];simp only [go_sem,simprocAttr,cell_of an];refine gz (fun ρ w'=>w'=w2.drew∧ρ.get 0=some (ptr m)∧ρ.get 4=some (ptr w.heap.size)∧ρ.get 7=some (ptr pn.heap.size)∧ρ.get 42=some (.bool (decide (A.kind≠2∨A.num≠j∨(A.args.length:Int)≠(M.a8.sh j).fields)))) ?_ ?_
 ·cases eZ:(A.kind != 2)<;>cases eU:(A.num != j)<;>cases lD:((A.args.length:Int) != (M.a8.sh j).fields)<;>simp only [go_sem,simprocAttr,ak,bh,cell_of an,cell_of a7,Value.cells,cell_of cy,bg,fC,b1,gq,eZ,eU,lD]<;>(simp only [aK,aL,aM,ak,aN] at eZ;simp only [aK,aL,aM,ak,aN] at eU;simp only [aK,aL,aM,ak,aN] at lD;simp [eZ,eU,lD])
 rintro ρ _ ⟨rfl,r0,r4,r7,r42⟩;simp only [go_sem,simprocAttr,r0,r4,r7,r42];have CU:dH w2.drew (bO (bO (bO τ w .no) w0 .no) w1 .no) m S M ks k:=h2.mod ((Mod.refl (fun _=>False) w2).drew) (dP _ _).wx (fun _ _ h=>h.elim);refine aX rfl (fun hk=>?_) (fun hk=>?_)
 ·simp only [aK,aL,aM,ak,aN] at hk;rw [if_pos hk];refine σ ?_;refine δ (by rfl) (rA CU.at' 5) ?_;rintro _ w4 hop;refine σ ?_;exact Uo (.inr rfl) (fun w' hm=>⟨_,rfl,aU.boxed tH (aU.boxed ag (aU.boxed ae.drew (hop.after hm)))⟩)
 ·simp only [aK,aL,aM,ak,aN] at hk;rw [if_neg hk];have LU:w2.drew.heap[w.heap.size]? = _:=agd;have LV:w2.drew.heap[pn.heap.size]? = _:=an;have Fe:=ag.size;have acV:=tH.size;have Ut:∀ b,FM=some b→w1.heap.size≤b:=yp;simp only [go_sem,simprocAttr,cell_of LU,ptr,Value.cells];refine δ (by rfl) (yj (n:=1) CU.fr (by omega) ⟨by omega,by omega⟩) ?_;intro _ w3 nt;have ab:Mod (fun b=>((bO (bO (bO τ w .no) w0 .no) w1 .no) b).eT (M.aA.length - 1)) w2.drew w3:=nt.choose_spec.2.2;obtain ⟨wu,j1,j2,h3⟩:=(CU.eT nt).aa (qj h.pos _).2 h.pos h.hk;have wy:∀ b,w1.heap.size≤b→bO (bO (bO τ w .no) w0 .no) w1 .no b = .no:=fun b hb=>oh hb
  have LW:∀ b i,(bO (bO (bO τ w .no) w0 .no) w1 .no b) = .no→¬ (bO (bO (bO τ w .no) w0 .no) w1 .no b).eT i:=fun b i hb hh=>by rw [hb] at hh;rcases hh with h | h | h<;>cases h
  have Uu:bO (bO (bO τ w .no) w0 .no) w1 .no w.heap.size = .no:=by
   rw [eB _ w1 .no _ (by have:=lt_of_heap LS;omega),eB _ w0 .no _ (lt_of_heap Us)];exact oh (Nat.le_refl _)
  have aE:=ab.at LV (LW _ _ (wy _ CK));have Uv:=ab.at LU (LW _ _ Uu);have FN:=(ww.mod pj (fun _ _ h=>h)).mod ((Mod.refl (fun _=>False) w2).drew) (fun _ _ h=>h);have FO:=FN.mod ab (fun b hb=>LW _ _ (wy _ (Ut b hb)));simp only [go_sem,simprocAttr,cell_of aE];refine δ (by rfl) (Up w3 _) ?_;rintro _ w4 ⟨rfl,⟨T4,fz4,aJ⟩,aj⟩;have h4:=h3.later aj;obtain ⟨e1,e2⟩:=qj (M:=M) h.pos (M.aa.pop 1);obtain ⟨vs,vp,fs,fp,hF⟩:=h4.fr;rw [e1] at hF;have age:=FO.mod aj (fun _ _ h=>h);obtain ⟨bA,CV,CW,CX⟩:=Ur age (lt_of_heap aJ);have l1:=hF.lt;have abw:=aj.size;have ur:k < w3.heap.size:=by
   obtain ⟨_,_,_,_,je⟩:=h3.fr;exact je.lt.1
  have t4:∀ b,b < w3.heap.size→bO wu w3 .no b=wu b:=fun b hb=>eB wu w3 .no b hb
  have t3:∀ b,b < w2.drew.heap.size→wu b=bO (bO (bO τ w .no) w0 .no) w1 .no b:=fun b hb=>j1 b hb
  have yq:∀ b,(bO wu w3 .no) b = .no→b≠k∧fs≠some b:=fun b hb=>⟨(fun e=>by subst e;rw [hF.tk] at hb;cases hb),(fun e=>by rw [hF.ts b e] at hb;cases hb)⟩
  have nB:=yq w3.heap.size (oh (Nat.le_refl _));have nA:bA≠k∧fs≠some bA:=by
   rcases CW with e | e
   ·rw [e];exact nB
   ·refine yq bA ?_;have hl:=FN.lt e;rw [t4 _ (FO.lt e),t3 _ hl];exact wy _ (Ut _ e)
  have n4:w.heap.size≠k∧fs≠some w.heap.size:=by
   refine yq _ ?_;rw [t4 _ (lt_of_heap Uv),t3 _ (lt_of_heap LU)];exact Uu
  have agf:=aj.at Uv (fun h=>h);have LX:(M.aa.pop 1).stack.length≤4294967:=by simp only [Fr.pop,List.length_take];omega
  refine ⟨2,A.args.length,153,#[ptr w3.heap.size],(fun j=>I (A.args.getD j 0)),rE w3.heap.size bA,(fun pre W=>wv w4 k (M.aa.pop 1) vp fs (pre.map (fun j=>A.args.getD j 0)) W),⟨rfl,(fun _ _=>rfl),?_,⟨rfl,rfl⟩,by omega,?_,?_,⟨⟨⟨vs,fs,?_,?_,fun b hb=>.inl hb⟩,Mod.refl _ _⟩,fun s=>wv.quiet,?_⟩⟩,?_⟩
  ·refine Un Fence.wide 1 trivial rfl (by omega) w3.heap.size bA A.args.length (.slice va A.args.length vc) (fun j=>I (A.args.getD j 0)) w4 (by simpa [Value.cells] using cell_of aJ (o:=0)) (lt_of_heap aJ) CX (by omega)
  ·intro A B C a b;exact ⟨b.1.trans a.1,b.2.trans a.2⟩
  ·intro W l o o' hl ho CY _;have j8:l≠w3.heap.size:=fun e=>by have:=lt_of_heap aJ;omega
   have gv:l≠bA:=fun e=>by omega
   exact ⟨World.putObj_heap_other (fun e=>j8 e.symm),World.putObj_heap_other (fun e=>gv e.symm)⟩
  ·simpa using hF.cells
  ·simpa using hF.stack
  ·rintro pre jj W ⟨⟨v,fs',p1,p2,p3⟩,p4⟩ bQ iX;have Av:∀ b,b < w4.heap.size→fs≠some b→fs'≠some b:=fun b hb hn e=>by
    rcases p3 b e with h1 | h1
    ·exact hn h1
    ·omega
   have agh:=p4.at agf (fun h=>by rcases h with h | h;exact n4.2 h;exact n4.1 h);unfold TK;simp only [go_sem,simprocAttr,cell_of agh,ptr,Value.cells];refine δ (by rfl) (agb (f:={ M.aa.pop 1 with stack:=(M.aa.pop 1).stack++pre.map (fun j=>A.args.getD j 0)}) p1 p2 (by simp only [List.length_append,List.length_map];omega) (A.args.getD jj 0)) ?_;rintro _ W2 ⟨v2,Am,q1,q2,q3,q4⟩;refine σ ?_;have sW:=p4.size;refine ⟨FG q3 (fun b hb o ho=>?_),FH q3 (by have:=lt_of_heap aJ;omega) (by omega) (fun hh=>?_) (fun hh=>?_),⟨v2,Am,?_,?_,fun b hb=>?_⟩,p4.step q3 (fun b hb hl=>?_)⟩
   ·rcases hb with hb | rfl
    ·cases mP:o.isCells with
     | true=>rfl
     | false=>exact absurd ho (fun e=>by have:=FJ p2 hb e;rw [this] at mP;cases mP)
    ·rw [p1] at ho;cases ho;rfl
   ·rcases hh with hh | hh
    ·exact Av _ (lt_of_heap aJ) nB.2 hh
    ·exact nB.1 hh
   ·rcases hh with hh | hh
    ·exact Av _ CV nA.2 hh
    ·exact nA.1 hh
   ·simpa [Fr.push] using q1
   ·simpa [Fr.push] using q2
   ·rcases q4 b hb with h1 | h1
    ·exact p3 b h1
    ·right;omega
   ·rcases hb with hb | hb
    ·rcases p3 b hb with h1 | h1
     ·exact .inl h1
     ·omega
    ·exact .inr hb
  ·intro D W hD hI jy;refine σ ?_;refine LP (.inl rfl) jy (fun w' hm=>⟨_,rfl,?_⟩);obtain ⟨⟨v,fs',p1,p2,p3⟩,p4⟩:=hI.later jy hD hm;rw [Uq] at p1 p2;have hop:=h4.eT (f':={ M.aa.pop 1 with stack:=(M.aa.pop 1).stack++A.args.reverse}) (aga hF p2 rfl p1 p4 p3);rw [LG] at hop;exact aU.boxed tH (aU.boxed ag (aU.boxed ae.drew (aU.cat j1 j2 (aU.boxed aj hop))))
end
end
section
open Go Go.W
structure wA (ns ms:List Nd) (R:Nat→Nat→Prop):Prop where
 CZ:∀ x y,R x y→x < ns.length∧y < ms.length∧over ns x=x∧over ms y=y
 fn:∀ x y y',R x y→R x y'→y=y'
 inj:∀ x x' y,R x y→R x' y→x=x'
 nd:∀ x y,R x y→(ai ns x).kind=(ai ms y).kind∧(ai ns x).num=(ai ms y).num∧(ai ns x).args.length=(ai ms y).args.length
 kids:∀ x y,R x y→ind ns x=false→∀ (i:Nat) (a b:Int),(ai ns x).args[i]? = some a→(ai ms y).args[i]? = some b→R (over ns a.toNat) (over ms b.toNat)
def agi (ns ms:List Nd) (R:Nat→Nat→Prop) (rs qs:List Int):Prop:=rs.length=qs.length∧∀ (i:Nat) (a b:Int),rs[i]? = some a→qs[i]? = some b→R (over ns a.toNat) (over ms b.toNat)
def Alike (ns:List Nd) (rs:List Int) (ms:List Nd) (qs:List Int):Prop:=∃ R,wA ns ms R∧agi ns ms R rs qs
theorem Uw {ns ms:List Nd} {x y:Nat} (h:(ai ns x).kind=(ai ms y).kind):ind ns x=ind ms y:=by simp [ind,h]
theorem agj {ns ms ls:List Nd} {R S:Nat→Nat→Prop} (h:wA ns ms R) (k:wA ms ls S):wA ns ls (fun x z=>∃ y,R x y∧S y z):=by
 refine ⟨?_,?_,?_,?_,?_⟩
 ·rintro x z ⟨y,h1,h2⟩;exact ⟨(h.CZ _ _ h1).1,(k.CZ _ _ h2).2.1,(h.CZ _ _ h1).2.2.1,(k.CZ _ _ h2).2.2.2⟩
 ·rintro x z z' ⟨y,h1,h2⟩ ⟨y',h3,h4⟩;cases h.fn _ _ _ h1 h3;exact k.fn _ _ _ h2 h4
 ·rintro x x' z ⟨y,h1,h2⟩ ⟨y',h3,h4⟩;cases k.inj _ _ _ h2 h4;exact h.inj _ _ _ h1 h3
 ·rintro x z ⟨y,h1,h2⟩;obtain ⟨a1,a2,a3⟩:=h.nd _ _ h1;obtain ⟨b1,b2,b3⟩:=k.nd _ _ h2;exact ⟨a1.trans b1,a2.trans b2,a3.trans b3⟩
 ·rintro x z ⟨y,h1,h2⟩ hi i a c ha hc;have hl:=(h.nd _ _ h1).2.2;have eK:i < (ai ms y).args.length:=by rw [← hl];exact (List.getElem?_eq_some_iff.1 ha).1
  refine ⟨_,h.kids _ _ h1 hi i a _ ha (List.getElem?_eq_getElem eK),k.kids _ _ h2 (by rw [← Uw (h.nd _ _ h1).1];exact hi) i _ c (List.getElem?_eq_getElem eK) hc⟩
theorem agk {ns ms ls:List Nd} {rs qs ps:List Int} (h:Alike ns rs ms qs) (k:Alike ms qs ls ps):Alike ns rs ls ps:=by
 obtain ⟨R,h1,h2,h3⟩:=h;obtain ⟨S,k1,k2,k3⟩:=k;refine ⟨_,agj h1 k1,h2.trans k2,fun i a c ha hc=>?_⟩;have eK:i < qs.length:=by rw [← h2];exact (List.getElem?_eq_some_iff.1 ha).1
 exact ⟨_,h3 i a _ ha (List.getElem?_eq_getElem eK),k3 i _ c (List.getElem?_eq_getElem eK) hc⟩
theorem FP {n:Nat} {l:List Int} (h:bK n l=true) {a:Int} (ha:a∈l):0≤a∧a < n:=by
 have:=List.all_eq_true.1 h a ha
 simpa using this
theorem C0 {n:Nat} {l:List Int} (h:bK n l=true) {a:Int} (ha:a∈l):a.toNat < n:=by
 have:=FP h ha;omega
theorem alike_refl {ns:List Nd} (hw:WF ns) {rs:List Int} (ho:bK ns.length rs=true):Alike ns rs ns rs:=by
 refine ⟨fun x y=>x=y∧x < ns.length∧over ns x=x,⟨?_,?_,?_,?_,?_⟩,rfl,?_⟩
 ·rintro x _ ⟨rfl,h1,h2⟩;exact ⟨h1,h1,h2,h2⟩
 ·rintro x _ _ ⟨rfl,_⟩ ⟨rfl,_⟩;rfl
 ·rintro _ _ _ ⟨rfl,_⟩ ⟨rfl,_⟩;rfl
 ·rintro x _ ⟨rfl,_⟩;exact ⟨rfl,rfl,rfl⟩
 ·rintro x _ ⟨rfl,h1,h2⟩ _ i a b ha hb;rw [ha] at hb;cases hb;have:=C0 (iW hw h1).2 (List.mem_of_getElem? ha);exact ⟨rfl,pW (eX hw) this,qT (eX hw) this⟩
 ·intro i a b ha hb;rw [ha] at hb;cases hb;have:=C0 ho (List.mem_of_getElem? ha);exact ⟨rfl,pW (eX hw) this,qT (eX hw) this⟩
section
variable {ns:List Nd} {fr:Nat} {roots:List Int}
def fT (ns:List Nd) (fr:Nat) (O:List Nat) (x:Nat):Nat:=if x < fr then x else fr+O.idxOf x
theorem LY (ns:List Nd) (fr:Nat) (O:List Nat) (p:Int):dD ns fr O p=(fT ns fr O (over ns p.toNat):Nat):=by
 unfold dD fT;split<;>rfl
theorem Ux {p:Nat} (hp:p < fr):ai (ch ns fr roots) p=nq ns fr (bN ns fr roots) p:=by
 unfold ai ch;rw [List.getD_eq_getElem?_getD,List.getElem?_append_left (by simpa using hp)];simp [hp]
theorem agl {j:Nat} (hj:j < (bN ns fr roots).length):ai (ch ns fr roots) (fr+j)=nj ns fr (bN ns fr roots) (bN ns fr roots)[j]:=by
 unfold ai ch;rw [List.getD_eq_getElem?_getD,List.getElem?_append_right (by simp)];simp [hj]
def qk (ns:List Nd) (fr:Nat) (O:List Nat) (x:Nat):Prop:=x < ns.length∧over ns x=x∧(x < fr∨x∈O)
theorem agm {O:List Nat} (hO:∀ x∈O,fr≤x) {x y:Nat} (U:x < fr∨x∈O) (hy:y < fr∨y∈O) (h:fT ns fr O x=fT ns fr O y):x=y:=by
 unfold fT at h
 split at h<;>split at h
 ·exact h
 ·omega
 ·omega
 ·rename_i h1 h2;have h3:=U.resolve_left h1;have h4:=hy.resolve_left h2;have h5:O.idxOf x=O.idxOf y:=by omega
  have e1:=List.getElem_idxOf (List.idxOf_lt_length_iff.2 h3);have e2:=List.getElem_idxOf (List.idxOf_lt_length_iff.2 h4);simp only [h5] at e1;rw [← e1,e2]
theorem C1 (hw:WF ns) (bC:fr≤ns.length) (ho:bK ns.length roots=true) {x:Nat} (U:qk ns fr (bN ns fr roots) x) :
   fT ns fr (bN ns fr roots) x < (ch ns fr roots).length∧(ai (ch ns fr roots) (fT ns fr (bN ns fr roots) x)).kind=(ai ns x).kind∧(ai (ch ns fr roots) (fT ns fr (bN ns fr roots) x)).num=(ai ns x).num ∧
    (ind ns x=true→(ai (ch ns fr roots) (fT ns fr (bN ns fr roots) x)).args=[(fT ns fr (bN ns fr roots) x:Int)]) ∧
    (ind ns x=false→(ai (ch ns fr roots) (fT ns fr (bN ns fr roots) x)).args=if x < fr then ku ns fr (bN ns fr roots) x else (ai ns x).args.map (dD ns fr (bN ns fr roots))):=by
 obtain ⟨h1,h2,h3⟩:=U;rw [rp];by_cases ah:x < fr
 ·have e:fT ns fr (bN ns fr roots) x=x:=by simp [fT,ah]
  rw [e,Ux ah];refine ⟨by omega,rfl,rfl,fun hi=>by simp [nq,hi,h2],fun hi=>by simp [nq,hi,ah]⟩
 ·have hm:=h3.resolve_left ah;have hj:=List.idxOf_lt_length_iff.2 hm;have e:fT ns fr (bN ns fr roots) x=fr+(bN ns fr roots).idxOf x:=by simp [fT,ah]
  have ex:=List.getElem_idxOf hj;rw [e,agl hj,ex];refine ⟨by omega,rfl,rfl,fun hi=>?_,fun hi=>by simp [nj,ah]⟩;obtain ⟨q,hq,ha,hn⟩:=pX hw h1 hi;have eo:over ns q=x:=by rw [← hn];exact (tM (eX hw) h1).trans h2
  simp only [nj,ha,List.map_cons,List.map_nil,LY,Int.toNat_natCast,eo,e]
theorem C2 (hw:WF ns) (bC:fr≤ns.length) (ho:bK ns.length roots=true) {x:Nat} (U:qk ns fr (bN ns fr roots) x) :
   over (ch ns fr roots) (fT ns fr (bN ns fr roots) x)=fT ns fr (bN ns fr roots) x:=by
 obtain ⟨h1,h2,h3,h4,h5⟩:=C1 hw bC ho U;refine zG ?_;cases hi:ind ns x with
 | false=>exact ob (by rw [ind,h2];exact hi)
 | true=>
  have:ind (ch ns fr roots) (fT ns fr (bN ns fr roots) x)=true:=by rw [ind,h2];exact hi
  simp [au,this,h4 hi]
theorem agn (hw:WF ns) (bC:fr≤ns.length) (ho:bK ns.length roots=true):∀ k q,q < fr→fit (au ns) k q=over ns q →
   qk ns fr (bN ns fr roots) (over ns q)∧over (ch ns fr roots) q=fT ns fr (bN ns fr roots) (over ns q):=by
 obtain ⟨m1,m2,m3,m4⟩:=rm hw bC ho;have hf:=eX hw;have Uy:∀ q,q < fr→over ns q=q→qk ns fr (bN ns fr roots) (over ns q)∧over (ch ns fr roots) q=fT ns fr (bN ns fr roots) (over ns q):=by
  intro q hq he;have cK:qk ns fr (bN ns fr roots) q:=⟨by omega,he,.inl hq⟩;have h1:=C2 hw bC ho cK;have e:fT ns fr (bN ns fr roots) q=q:=by simp [fT,hq]
  rw [e] at h1;rw [he,e];exact ⟨cK,h1⟩
 intro k
 induction k with
 | zero=>intro q hq he;exact Uy q hq he.symm
 | succ k ih=>
  intro q hq he;have nh:q < ns.length:=by omega
  by_cases LZ:over ns q=q
  ·exact Uy q hq LZ
  ·cases hi:ind ns q with
   | false=>exact absurd (zG (ob hi)) LZ
   | true=>
    obtain ⟨a,ha,dJ,hn⟩:=pX hw nh hi;have eo:over ns a=over ns q:=by rw [← hn];exact tM hf nh
    have L0:=Ux (ns:=ns) (roots:=roots) hq;have H4:¬ (ind ns q=true∧over ns q=q):=fun h=>LZ h.2
    have hkq:ind (ch ns fr roots) q=true:=by rw [ind,L0];exact hi
    have Th:q < (ch ns fr roots).length:=by rw [rp];omega
    have jW:=tM (eX (Ck hw bC ho)) Th;have ago:(ai (ch ns fr roots) q).args=ku ns fr (bN ns fr roots) q:=by rw [L0,nq,if_neg H4]
    have hN:au (ch ns fr roots) q=((ku ns fr (bN ns fr roots) q).getD 0 0).toNat:=by simp [au,hkq,ago]
    by_cases hy:fy fr a=true
    ·have ee:=m4 q hq a (by rw [dJ];simp) hy;rw [Int.toNat_natCast] at ee;have cK:qk ns fr (bN ns fr roots) (over ns a):=⟨pW hf ha,qT hf ha,ee⟩;have e2:au (ch ns fr roots) q=fT ns fr (bN ns fr roots) (over ns a):=by
      rw [hN];simp [ku,dJ,hy,LY]
     rw [e2] at jW;rw [← eo];refine ⟨cK,?_⟩;have:=C2 hw bC ho cK;unfold over at this ⊢;rw [← jW];exact this
    ·have halt:a < fr:=by simp [fy] at hy;omega
     have e2:au (ch ns fr roots) q=a:=by
      rw [hN];simp [ku,dJ,hy]
     rw [e2] at jW;have lZ:fit (au ns) k a=over ns a:=by
      rw [eo,← he,← hn];rfl
     have:=ih a halt lZ;rw [eo] at this;refine ⟨this.1,?_⟩;rw [← this.2];exact jW.symm
theorem Uz (hw:WF ns) (bC:fr≤ns.length) (ho:bK ns.length roots=true) {q:Nat} (hq:q < fr) :
   qk ns fr (bN ns fr roots) (over ns q)∧over (ch ns fr roots) q=fT ns fr (bN ns fr roots) (over ns q):=by
 obtain ⟨k,_,hk⟩:=oa (au ns) ns.length q;exact agn hw bC ho (k+ns.length) q hq hk.symm
theorem agp (hw:WF ns) (bC:fr≤ns.length) (ho:bK ns.length roots=true):Alike ns roots (ch ns fr roots) (eR ns fr roots):=by
 obtain ⟨m1,m2,m3,m4⟩:=rm hw bC ho;have hf:=eX hw;have met:∀ a:Int,a.toNat < ns.length→(over ns a.toNat < fr∨over ns a.toNat∈bN ns fr roots)→qk ns fr (bN ns fr roots) (over ns a.toNat)∧over (ch ns fr roots) (dD ns fr (bN ns fr roots) a).toNat=fT ns fr (bN ns fr roots) (over ns a.toNat):=by
  intro a ha hm;have cK:qk ns fr (bN ns fr roots) (over ns a.toNat):=⟨pW hf ha,qT hf ha,hm⟩;refine ⟨cK,?_⟩;rw [LY,Int.toNat_natCast];exact C2 hw bC ho cK
 refine ⟨fun x y=>qk ns fr (bN ns fr roots) x∧y=fT ns fr (bN ns fr roots) x,⟨?_,?_,?_,?_,?_⟩,by simp [eR],?_⟩
 ·rintro x _ ⟨h1,rfl⟩;exact ⟨h1.1,(C1 hw bC ho h1).1,h1.2.1,C2 hw bC ho h1⟩
 ·rintro x _ _ ⟨_,rfl⟩ ⟨_,rfl⟩;rfl
 ·rintro x x' _ ⟨h1,rfl⟩ ⟨h2,h3⟩;exact agm (ns:=ns) (fun z hz=>(m1.2 z hz).2.2) h1.2.2 h2.2.2 h3
 ·rintro x _ ⟨h1,rfl⟩;obtain ⟨h2,h3,h4,h5,h6⟩:=C1 hw bC ho h1;refine ⟨h3.symm,h4.symm,?_⟩;cases hi:ind ns x with
  | true=>
   obtain ⟨q,_,hq,_⟩:=pX hw h1.1 hi;rw [h5 hi,hq];rfl
  | false=>
   rw [h6 hi]
   split<;>simp [ku]
 ·rintro x _ ⟨h1,rfl⟩ hi i a b ha hb;obtain ⟨h2,h3,h4,h5,h6⟩:=C1 hw bC ho h1;rw [h6 hi] at hb;have ee:=List.mem_of_getElem? ha;have EY:=C0 (iW hw h1.1).2 ee;have Pp:=FP (iW hw h1.1).2 ee
  split at hb
  ·rename_i ah;simp only [ku,List.getElem?_map,ha,Option.map_some,Option.some.injEq] at hb;subst hb
   split
   ·rename_i hy;exact met a EY (m4 x ah a ee hy)
   ·rename_i hy;have halt:a.toNat < fr:=by simp [fy] at hy;omega
    exact Uz hw bC ho halt
  ·rename_i ah;simp only [List.getElem?_map,ha,Option.map_some,Option.some.injEq] at hb;subst hb;exact met a EY (m2 x (h1.2.2.resolve_left ah) a ee)
 ·intro i a b ha hb;simp only [eR,List.getElem?_map,ha,Option.map_some,Option.some.injEq] at hb;subst hb;have ee:=List.mem_of_getElem? ha;exact met a (C0 ho ee) (m3 a ee)
end
section
variable {ns ms:List Nd} {R:Nat→Nat→Prop}
def wB (R:Nat→Nat→Prop) (out jz:List Nat):Prop:=out.length=jz.length∧∀ (i x y:Nat),out[i]? = some x→jz[i]? = some y→R x y
theorem agq (h:wA ns ms R) {out jz:List Nat} (hs:wB R out jz) {x y:Nat} (zu:R x y):x∈out↔y∈jz:=by
 constructor
 ·intro U;obtain ⟨i,hi,rfl⟩:=List.getElem_of_mem U;have bS:i < jz.length:=by rw [← hs.1];exact hi
  have:=hs.2 i _ _ (List.getElem?_eq_getElem hi) (List.getElem?_eq_getElem bS);rw [h.fn _ _ _ zu this];exact List.getElem_mem bS
 ·intro hy;obtain ⟨i,bS,rfl⟩:=List.getElem_of_mem hy;have hi:i < out.length:=by rw [hs.1];exact bS
  have:=hs.2 i _ _ (List.getElem?_eq_getElem hi) (List.getElem?_eq_getElem bS);rw [h.inj _ _ _ zu this];exact List.getElem_mem hi
theorem agr (h:wA ns ms R) {out jz:List Nat} (hs:wB R out jz) {p q:Nat} (UA:R (over ns p) (over ms q)):wB R (gk ns 0 out p) (gk ms 0 jz q):=by
 unfold gk;have:=agq h hs UA;by_cases hm:over ns p∈out
 ·rw [if_pos (.inr hm),if_pos (.inr (this.1 hm))];exact hs
 ·rw [if_neg (by simp [hm]),if_neg (by have gw:over ms q∉jz:=fun hh=>hm (this.2 hh);simp [gw])];refine ⟨by simp [hs.1],fun i x y U hy=>?_⟩;rcases Nat.lt_or_ge i out.length with hi | hi
  ·rw [List.getElem?_append_left hi] at U;rw [List.getElem?_append_left (by rw [← hs.1];exact hi)] at hy;exact hs.2 i x y U hy
  ·have hl:=(List.getElem?_eq_some_iff.1 U).1;simp at hl;obtain rfl:i=out.length:=by omega
   simp at U;rw [hs.1] at hy;simp at hy;rw [← U,← hy];exact UA
theorem UB (h:wA ns ms R):∀ (l k:List Int) {out jz:List Nat},wB R out jz→l.length=k.length→(∀ (i:Nat) (a b:Int),l[i]? = some a→k[i]? = some b→R (over ns a.toNat) (over ms b.toNat))→wB R (di ns 0 out l) (di ms 0 jz k):=by
 intro l
 induction l with
 | nil=>
  intro k out jz hs hl _;cases k with
  | nil=>exact hs
  | cons=>simp at hl
 | cons a l ih=>
  intro k out jz hs hl hr;cases k with
  | nil=>simp at hl
  | cons b k=>
   rw [Ch,Ch];exact ih k (agr h hs (hr 0 a b rfl rfl)) (by simpa using hl) (fun i a' b' ha hb=>hr (i+1) a' b' (by simpa using ha) (by simpa using hb))
theorem UC (hw:WF ns) {out:List Nat} {x:Nat} (U:x < ns.length) (ho:over ns x=x) (hi:ind ns x=true) (hm:x∈out):di ns 0 out (ai ns x).args=out:=by
 obtain ⟨q,hq,ha,hn⟩:=pX hw U hi;have eo:over ns q=x:=by rw [← hn];exact (tM (eX hw) U).trans ho
 rw [ha,Ch];unfold gk;rw [Int.toNat_natCast,eo,if_pos (.inr hm)];rfl
theorem ags (hw:WF ns) (rW:WF ms) (h:wA ns ms R):∀ (f i:Nat) (out jz:List Nat),wB R out jz→wB R (gT ns 0 f i out) (gT ms 0 f i jz):=by
 intro f
 induction f with
 | zero=>intro i out jz hs;exact hs
 | succ f ih=>
  intro i out jz hs;rcases Nat.lt_or_ge i out.length with hi | hi
  ·have bS:i < jz.length:=by rw [← hs.1];exact hi
   rw [z7 ns 0 f i out hi,z7 ms 0 f i jz bS];refine ih _ _ _ ?_;have hr:=hs.2 i _ _ (List.getElem?_eq_getElem hi) (List.getElem?_eq_getElem bS);obtain ⟨d1,d2,d3,d4⟩:=h.CZ _ _ hr;cases vx:ind ns out[i] with
   | true=>
    rw [UC hw d1 d3 vx (List.getElem_mem hi),UC rW d2 d4 (by rw [← Uw (h.nd _ _ hr).1];exact vx) (List.getElem_mem bS)];exact hs
   | false=>exact UB h _ _ hs (h.nd _ _ hr).2.2 (fun j a b ha hb=>h.kids _ _ hr vx j a b ha hb)
  ·rw [vP ns 0 _ _ _ hi,vP ms 0 _ _ _ (by rw [← hs.1];exact hi)];exact hs
theorem UD (hw:WF ns):∀ (f g i:Nat) (out:List Nat),jK ns 0 out→ns.length+1≤f+i→ns.length+1≤g+i→gT ns 0 f i out=gT ns 0 g i out:=by
 intro f
 induction f with
 | zero=>
  intro g i out hm hf hg;have:=vN hm;rw [vP ns 0 0 i out (by omega),vP ns 0 g i out (by omega)]
 | succ f ih=>
  intro g i out hm hf hg;rcases Nat.lt_or_ge i out.length with hi | hi
  ·cases g with
   | zero=>have:=vN hm;omega
   | succ g=>
    rw [z7 ns 0 f i out hi,z7 ns 0 g i out hi];exact ih g _ _ (qg hw _ hm (iW hw (hm.2 _ (List.getElem_mem hi)).1).2) (by omega) (by omega)
  ·rw [vP ns 0 _ _ _ hi,vP ns 0 _ _ _ hi]
theorem L1 (ns:List Nd) (roots:List Int):bN ns 0 roots=gT ns 0 (ns.length+1) 0 (di ns 0 [] roots):=rfl
theorem agt (hw:WF ns) (rW:WF ms) {rs qs:List Int} (ho:bK ns.length rs=true) (mP:bK ms.length qs=true) (h:Alike ns rs ms qs):(bN ns 0 rs).length=(bN ms 0 qs).length:=by
 obtain ⟨R,h1,h2⟩:=h;have s0:wB R (di ns 0 [] rs) (di ms 0 [] qs):=UB h1 rs qs ⟨rfl,fun i x y U=>by simp at U⟩ h2.1 h2.2;have e1:=UD hw (ns.length+1) (ns.length+ms.length+1) 0 _ (qg hw rs (xT ns 0) ho) (by omega) (by omega);have e2:=UD rW (ms.length+1) (ns.length+ms.length+1) 0 _ (qg rW qs (xT ms 0) mP) (by omega) (by omega);rw [L1,L1,e1,e2];exact (ags hw rW h1 _ _ _ _ s0).1
end
theorem agu (ns:List Nd) (out:List Nat) (p:Nat):gk ns 0 out p=fL ns out p:=by simp [gk,fL]
theorem UE (ns:List Nd):∀ (l:List Int) (out:List Nat),di ns 0 out l=meets ns out l:=by
 intro l
 induction l with
 | nil=>intro out;rfl
 | cons a l ih=>intro out;rw [Ch,agu,ih];rfl
theorem agv (ns:List Nd):∀ f i out,gT ns 0 f i out=reach ns f i out:=by
 intro f
 induction f with
 | zero=>intro i out;rfl
 | succ f ih=>
  intro i out;unfold gT reach;cases out[i]? with
  | some x=>simp only [ih,UE]
  | none=>rfl
theorem ql (ns:List Nd) (roots:List Int):bN ns 0 roots=iH ns roots:=by rw [L1,agv,UE];rfl
theorem sL (ns:List Nd) (O:List Nat):dD ns 0 O=num ns O:=by funext p;simp [dD,num]
theorem uw (ns:List Nd) (roots:List Int):jl ns roots=ch ns 0 roots∧mj ns roots=eR ns 0 roots:=by
 unfold jl ch mj eR;rw [ql,sL];refine ⟨?_,rfl⟩;simp only [List.range_zero,List.map_nil,List.nil_append];refine List.map_congr_left (fun x _=>?_);simp [ED,nj,sL]
end
section
open Go Go.W
theorem agw {f g:Nat→Nat} {n:Nat} (hf:∀ x,x < n→f x < n) (h:∀ x,x < n→g x=f x):∀ k x,x < n→fit g k x=fit f k x:=by
 intro k
 induction k with
 | zero=>intro x _;rfl
 | succ k ih=>intro x U;show fit g k (g x)=fit f k (f x);rw [h x U,ih _ (hf x U)]
theorem agx {f g:Nat→Nat} {n m:Nat} (hf:∀ x,x < n→f x < n) (hg:∀ x,x < m→g x < m) (FQ:n≤m) (h:∀ x,x < n→g x=f x) {x:Nat} (U:x < n):ov g m x=ov f n x:=by
 have e:=fun k=>agw hf h k x U
 apply Nat.le_antisymm
 ·obtain ⟨d,h1,h2,h3⟩:=EA hf U n (Nat.le_refl _);obtain ⟨k,_,hk⟩:=oa f n x;obtain ⟨d',q1,q2,q3⟩:=EA hf U (k+n) (by omega);have:∀ j,fit f (k+n+j*d') x=fit f (k+n) x:=by
   intro j
   induction j with
   | zero=>simp
   | succ j ih=>
    rw [show k+n+(j+1)*d'=d'+(k+n+j*d') by rw [Nat.succ_mul];omega,jV,ih];exact q3
  rw [hk,← this m,← e];refine BM hg (by omega) _ ?_;have:m*1≤m*d':=Nat.mul_le_mul_left _ q1;omega
 ·obtain ⟨k,_,hk⟩:=oa g m x;rw [hk,e];exact BM hf U _ (by omega)
theorem UF {ns:List Nd} {nd:Nd} {p:Nat} (hp:p < ns.length):ai (ns++[nd]) p=ai ns p:=by
 unfold ai;rw [List.getD_eq_getElem?_getD,List.getD_eq_getElem?_getD,List.getElem?_append_left hp]
theorem FR (ns:List Nd) (nd:Nd):ai (ns++[nd]) ns.length=nd:=by
 unfold ai;rw [List.getD_eq_getElem?_getD];simp
theorem UG {ns:List Nd} {nd:Nd} {p:Nat} (hp:p < ns.length):au (ns++[nd]) p=au ns p∧ind (ns++[nd]) p=ind ns p:=by
 unfold au ind;rw [UF hp];exact ⟨rfl,rfl⟩
theorem L2 {ns:List Nd} (hw:WF ns) {nd:Nd} (hm:nd.may=true) (ho:bK ns.length nd.args=true):WF (ns++[nd]):=by
 have le:∀ {l:List Int},bK ns.length l=true→bK (ns++[nd]).length l=true:=by
  intro l h;rw [bK,List.all_eq_true] at h ⊢;intro x U;have:=h x U;simp only [Bool.and_eq_true,decide_eq_true_eq,List.length_append,List.length_cons,List.length_nil] at this ⊢;omega
 intro x U;rcases List.mem_append.1 U with U | U
 ·exact ⟨(hw x U).1,le (hw x U).2⟩
 ·simp only [List.mem_cons,List.not_mem_nil,or_false] at U;subst U;exact ⟨hm,le ho⟩
theorem UH {ns:List Nd} (hw:WF ns) {nd:Nd} (hm:nd.may=true) (ho:bK ns.length nd.args=true) {p:Nat} (hp:p < ns.length):over (ns++[nd]) p=over ns p:=
 agx (eX hw) (eX (L2 hw hm ho)) (by simp) (fun x U=>(UG U).1) hp
theorem agy {ns:List Nd} (hw:WF ns) {nd:Nd} (hm:nd.may=true) (ho:bK ns.length nd.args=true):(nd.kind=5→∃ a,nd.args=[a]∧a.toNat < ns.length∧over (ns++[nd]) ns.length=over ns a.toNat)∧(nd.kind≠5→over (ns++[nd]) ns.length=ns.length):=by
 have rW:=L2 hw hm ho;have hl:ns.length < (ns++[nd]).length:=by simp
 refine ⟨fun hk=>?_,fun hk=>?_⟩
 ·have hi:ind (ns++[nd]) ns.length=true:=by simp [ind,FR,hk]
  obtain ⟨q,h1,h2,h3⟩:=pX rW hl hi;rw [FR] at h2;have hq:(q:Int).toNat < ns.length:=C0 ho (by rw [h2];simp);refine ⟨q,h2,hq,?_⟩;have:=tM (eX rW) hl;rw [h3] at this;rw [Int.toNat_natCast] at hq ⊢;rw [← UH hw hm ho hq];exact this.symm
 ·have hi:ind (ns++[nd]) ns.length=false:=by simp [ind,FR,hk]
  exact zG (ob hi)
theorem C3 {ns:List Nd} {p:Nat} {nd:Nd} (hp:p < ns.length) {x:Nat} (U:x≠p):au (ns.set p nd) x=au ns x∧ind (ns.set p nd) x=ind ns x:=by
 unfold au ind;rw [sE _ _ _ _ hp,if_neg U];exact ⟨rfl,rfl⟩
theorem agz {ns:List Nd} {p:Nat} {nd:Nd} (hp:p < ns.length) (hi:ind ns p=false) (hk:nd.kind≠5) (x:Nat):over (ns.set p nd) x=over ns x:=by
 have:au (ns.set p nd)=au ns:=by
  funext y
  by_cases hy:y=p
  ·subst hy;rw [ob hi];exact ob (by rw [ind,sE _ _ _ _ hp,if_pos rfl];simp [hk])
  ·exact (C3 hp hy).1
 unfold over;rw [this,List.length_set]
end
section
open Go Go.W
def wC (T:bl) (nd:Nd):Prop:=(nd.kind=4→nd.num < T.globals.length)∧(nd.kind=2→nd.num < T.aC.length)
structure dC (T:bl) (s:St):Prop where
 st:s.Ok
 ends:Ends s.ns
 L3:∀ nd∈s.ns,wC T nd
def St.In (s:St) (a:Int):Prop:=0≤a∧a < s.ns.length
section
variable {T:bl} {s:St}
theorem dC.at (h:dC T s) {p:Nat} (hp:p < s.ns.length):(ai s.ns p).may=true∧(∀ a∈(ai s.ns p).args,s.In a)∧wC T (ai s.ns p):=by
 refine ⟨(iW h.st.wf hp).1,fun a ha=>FP (iW h.st.wf hp).2 ha,h.L3 _ ?_⟩;unfold ai;rw [List.getD_eq_getElem?_getD,List.getElem?_eq_getElem hp];exact List.getElem_mem hp
theorem dC.ov (h:dC T s) {a:Int} (ha:s.In a):s.ov a < s.ns.length:=LI h.st ha
theorem dC.sM (h:dC T s) {a:Int} (ha:s.In a):s.In (s.ov a:Int):=⟨by omega,by have:=h.ov ha;omega⟩
theorem dC.L4 (h:dC T s) {a:Int} (ha:s.In a):over s.ns (s.ov a)=s.ov a:=qT (eX h.st.wf) (by have:=ha.1;have:=ha.2;omega)
theorem dC.nd (h:dC T s) {a:Int} (ha:s.In a):(s.nd a).may=true∧(∀ b∈(s.nd a).args,s.In b)∧wC T (s.nd a):=h.at (h.ov ha)
theorem dC.stop (h:dC T s) {a:Int} (ha:s.In a):au s.ns (s.ov a)=s.ov a:=h.ends _ (by have:=ha.1;have:=ha.2;omega)
theorem sN {nd:Nd} (h:nd.may=true):(nd.kind=1→nd.args=[] ∧ -4611686018427387904≤nd.num∧nd.num≤4611686018427387903)∧(nd.kind=2→nd.args.length≤8∧0≤nd.num)∧(nd.kind=3→nd.args.length=2)∧(nd.kind=4→nd.args=[]∧0≤nd.num)∧(nd.kind=8→nd.args=[]∧0≤nd.num)∧1≤nd.kind∧nd.kind≤8:=by
 simp only [Nd.may,gP,decide_eq_true_eq] at h;have e:∀ l:List Int,l.length=0→l=[]:=fun l hl=>List.eq_nil_of_length_eq_zero hl
 refine ⟨fun hk=>⟨e _ (by omega),by omega,by omega⟩,fun hk=>⟨by omega,by omega⟩,fun hk=>by omega,fun hk=>⟨e _ (by omega),by omega⟩,fun hk=>⟨e _ (by omega),by omega⟩,by omega,by omega⟩
theorem In.add {a:Int} (h:s.In a) (nd:Nd):(s.add nd).In a:=⟨h.1,by have:=h.2;simp only [St.add,List.length_append,List.length_cons,List.length_nil];omega⟩
theorem In.new (s:St) (nd:Nd):(s.add nd).In s.ns.length:=⟨by omega,by simp only [St.add,List.length_append,List.length_cons,List.length_nil];omega⟩
theorem nG {n:Nat} {l:List Int} (h:∀ a∈l,0≤a∧a < n):bK n l=true:=by
 rw [bK,List.all_eq_true];intro a ha;have:=h a ha;simp [this.1,this.2]
theorem dC.add (h:dC T s) {nd:Nd} (hm:nd.may=true) (hk:nd.kind≠5) (ha:∀ a∈nd.args,s.In a) (hn:wC T nd) (hr:(s.ns.length:Int) < s.size):dC T (s.add nd):=by
 have bQ:=nG ha;have hw:=h.st.wf;refine ⟨⟨L2 hw hm bQ,?_,h.st.lo,h.st.hi,?_⟩,?_,?_⟩
 ·simp only [St.add,List.length_append,List.length_cons,List.length_nil];omega
 ·have:=h.st.kd;show s.kd.ok (s.ns++[nd]).length;unfold Kd.ok at this ⊢
  split
  ·rename_i y o t e;rw [e] at this;simp only [List.length_append,List.length_cons,List.length_nil];exact ⟨by omega,this.2⟩
  ·trivial
 ·intro p hp;simp only [St.add,List.length_append,List.length_cons,List.length_nil] at hp ⊢;by_cases L5:p < s.ns.length
  ·rw [UH hw hm bQ L5,(UG (p:=over s.ns p) (pW (eX hw) L5)).1];exact h.ends p L5
  ·obtain rfl:p=s.ns.length:=by omega
   rw [(agy hw hm bQ).2 hk];refine ob ?_;rw [ind,FR];simp [hk]
 ·intro x U;rcases List.mem_append.1 U with U | U
  ·exact h.L3 x U
  ·obtain rfl:=List.mem_singleton.1 U;exact hn
theorem In.set {a:Int} (h:s.In a) (p:Nat) (nd:Nd):(s.set p nd).In a:=⟨h.1,by have:=h.2;simp only [St.set,List.length_set];omega⟩
theorem UI (h:dC T s) {p:Nat} {nd:Nd} (hm:nd.may=true) (ha:∀ a∈nd.args,s.In a):(s.set p nd).Ok:=by
 refine ⟨?_,?_,h.st.lo,h.st.hi,?_⟩
 ·intro x U;have e:(s.set p nd).ns.length=s.ns.length:=by simp [St.set]
  rw [e];rcases List.mem_or_eq_of_mem_set U with U | rfl
  ·exact h.st.wf x U
  ·exact ⟨hm,nG ha⟩
 ·simp only [St.set,List.length_set];exact h.st.len
 ·have:=h.st.kd;show s.kd.ok (s.ns.set p nd).length;rw [List.length_set];exact this
theorem UJ (h:dC T s) {p:Nat} {nd:Nd} (hn:wC T nd):∀ x∈(s.set p nd).ns,wC T x:=by
 intro x U;rcases List.mem_or_eq_of_mem_set U with U | rfl
 ·exact h.L3 x U
 ·exact hn
theorem dC.set (h:dC T s) {p:Nat} {nd:Nd} (hp:p < s.ns.length) (hi:(ai s.ns p).kind≠5) (hm:nd.may=true) (hk:nd.kind≠5) (ha:∀ a∈nd.args,s.In a) (hn:wC T nd):dC T (s.set p nd):=by
 have bS:ind s.ns p=false:=by simp [ind,hi]
 refine ⟨UI h hm ha,?_,UJ h hn⟩;intro q hq;simp only [St.set,List.length_set] at hq ⊢;rw [agz hp bS hk];by_cases E':over s.ns q=p
 ·rw [E'];exact ob (by rw [ind,sE _ _ _ _ hp,if_pos rfl];simp [hk])
 ·rw [(C3 hp E').1];exact h.ends q hq
theorem agA {ns:List Nd} (hw:WF ns) (he:Ends ns) {p t:Nat} (hp:p < ns.length) (ht:t < ns.length) (UK:over ns p=p) (L6:over ns t=t) :
   ∀ x,x < ns.length→over (ns.set p ⟨5,0,[(t:Int)]⟩) x=if over ns x=p then t else over ns x:=by
 have hf:=eX hw;have gp:au (ns.set p ⟨5,0,[(t:Int)]⟩) p=t:=by simp [au,ind,sE _ _ _ _ hp]
 have go:∀ x,x≠p→au (ns.set p ⟨5,0,[(t:Int)]⟩) x=au ns x:=fun x U=>(C3 hp U).1
 have fp:au ns p=p:=by have:=he p hp;rwa [UK] at this
 have ft:au ns t=t:=by have:=he t ht;rwa [L6] at this
 have gt:au (ns.set p ⟨5,0,[(t:Int)]⟩) t=t:=by
  by_cases h:t=p
  ·exact h ▸ gp
  ·rw [go t h,ft]
 have hg:∀ x,x < ns.length→au (ns.set p ⟨5,0,[(t:Int)]⟩) x < ns.length:=by
  intro x U;by_cases h:x=p
  ·rw [h,gp];exact ht
  ·rw [go x h];exact hf x U
 intro x U;have way:∀ k x,x < ns.length→fit (au ns) k x=over ns x→∃ j,fit (au (ns.set p ⟨5,0,[(t:Int)]⟩)) j x=if over ns x=p then t else over ns x:=by
  intro k
  induction k with
  | zero=>
   intro x _ hk;have hk:x=over ns x:=hk;by_cases h:over ns x=p
   ·refine ⟨1,?_⟩;rw [if_pos h];show au _ x=t;rw [hk,h,gp]
   ·exact ⟨0,by rw [if_neg h];exact hk⟩
  | succ k ih=>
   intro x U hk;by_cases h:x=p
   ·subst h;refine ⟨1,?_⟩;rw [if_pos UK];exact gp
   ·have e:over ns (au ns x)=over ns x:=tM hf U;obtain ⟨j,hj⟩:=ih (au ns x) (hf x U) (by rw [e];exact hk);refine ⟨j+1,?_⟩;show fit _ j (au _ x)=_;rw [go x h,hj,e]
 obtain ⟨K,hK⟩:=TW hw he U;obtain ⟨j,hj⟩:=way K x U (hK K (Nat.le_refl _));have e1:=vq (f:=au (ns.set p ⟨5,0,[(t:Int)]⟩)) hg U j;have e2:au (ns.set p ⟨5,0,[(t:Int)]⟩) (if over ns x=p then t else over ns x)=if over ns x=p then t else over ns x:=by
  split
  ·exact gt
  ·rename_i h;rw [go _ h,he x U]
 unfold over;unfold over at hj e2;rw [List.length_set,← e1,hj];exact zG e2
theorem dC.upd (h:dC T s) {a b:Int} (ha:s.In a) (hb:s.In b):dC T (s.set (s.ov a) ⟨5,0,[(s.ov b:Int)]⟩):=by
 refine ⟨UI h rfl (by intro x U;simp only [List.mem_singleton] at U;subst U;exact h.sM hb),?_,UJ h ⟨(fun e=>by cases e),(fun e=>by cases e)⟩⟩;intro q hq;simp only [St.set,List.length_set] at hq ⊢;have hu:=agA h.st.wf h.ends (h.ov ha) (h.ov hb) (h.L4 ha) (h.L4 hb);rw [hu q hq]
 split
 ·by_cases e:s.ov b=s.ov a
  ·rw [e];simp [au,ind,sE _ _ _ _ (h.ov ha)]
  ·rw [(C3 (h.ov ha) e).1];exact h.stop hb
 ·rename_i e;rw [(C3 (h.ov ha) e).1];exact h.ends q hq
theorem agB {ns:List Nd} (hw:WF ns) {fr:Nat} (bC:fr≤ns.length) {roots:List Int} (ho:bK ns.length roots=true):∀ nd∈ch ns fr roots,∃ x,x < ns.length∧nd.kind=(ai ns x).kind∧nd.num=(ai ns x).num∧nd.args.length=(ai ns x).args.length:=by
 intro nd b9;have Ad:=(rm hw bC ho).1;rcases List.mem_append.1 b9 with h | h
 ·obtain ⟨p,hp,rfl⟩:=List.mem_map.1 h;have hp:p < fr:=List.mem_range.1 hp;refine ⟨p,by omega,rfl,rfl,?_⟩;simp only [nq]
  split
  ·rename_i hh;obtain ⟨q,_,h1,_⟩:=pX hw (by omega:p < ns.length) hh.1;rw [h1];simp
  ·simp [ku]
 ·obtain ⟨x,U,rfl⟩:=List.mem_map.1 h;exact ⟨x,(Ad.2 x U).1,rfl,rfl,by simp [nj]⟩
theorem agC {ns:List Nd} (hw:WF ns) {fr:Nat} (bC:fr≤ns.length) {roots:List Int} (ho:bK ns.length roots=true):Ends (ch ns fr roots):=by
 have key:∀ x,qk ns fr (bN ns fr roots) x→au (ch ns fr roots) (fT ns fr (bN ns fr roots) x)=fT ns fr (bN ns fr roots) x:=by
  intro x U;obtain ⟨h1,h2,h3,h4,h5⟩:=C1 hw bC ho U;cases hi:ind ns x with
  | true=>
   have:ind (ch ns fr roots) (fT ns fr (bN ns fr roots) x)=true:=by simp only [ind,h2];exact hi
   simp [au,this,h4 hi]
  | false=>
   exact ob (by simp only [ind,h2];exact hi)
 intro p hp;by_cases vv:p < fr
 ·obtain ⟨h1,h2⟩:=Uz hw bC ho vv;rw [h2];exact key _ h1
 ·rw [rp] at hp;have hj:p - fr < (bN ns fr roots).length:=by omega
  have Ad:=(rm hw bC ho).1;have hm:=List.getElem_mem hj;have U:=Ad.2 _ hm;have cK:qk ns fr (bN ns fr roots) (bN ns fr roots)[p - fr]:=⟨U.1,U.2.1,.inr hm⟩;have e:fT ns fr (bN ns fr roots) (bN ns fr roots)[p - fr]=p:=by
   unfold fT;rw [if_neg (by have:=U.2.2;omega),QJ Ad.1 (List.getElem?_eq_getElem hj)];omega
  have h2:=C2 hw bC ho cK;rw [e] at h2;rw [h2,← e];exact key _ cK
theorem dC.small (h:dC T s) {fr:Nat} (bC:fr≤s.ns.length) {roots:List Int} (ho:∀ a∈roots,s.In a) {kd:Kd} (hk:kd.ok (ch s.ns fr roots).length) :
   dC T ⟨kd,s.size,ch s.ns fr roots⟩∧∀ a∈roots,St.In ⟨kd,s.size,ch s.ns fr roots⟩ (dD s.ns fr (bN s.ns fr roots) a):=by
 have bQ:=nG ho;have hw:=h.st.wf;refine ⟨⟨⟨Ck hw bC bQ,?_,h.st.lo,h.st.hi,hk⟩,agC hw bC bQ,?_⟩,?_⟩
 ·have:=J1 hw bC bQ;have:=h.st.len;show ((ch s.ns fr roots).length:Int)≤s.size;omega
 ·intro nd b9;obtain ⟨x,U,e1,e2,e3⟩:=agB hw bC bQ nd b9;have:=(h.at U).2.2;exact ⟨fun hk=>by rw [e2];exact this.1 (by rw [← e1];exact hk),fun hk=>by rw [e2];exact this.2 (by rw [← e1];exact hk)⟩
 ·intro a ha;exact FP (Sr hw bC bQ) (List.mem_map.2 ⟨a,ha,rfl⟩)
end
end
section
open Go Go.W
def az (T:bl) (x:Ins) (d:Int):Bool×Int:=
 if x.op=1 then (decide (x.a < d),d+1)
 else if x.op=2∨x.op=3 then (true,d+1)
 else if x.op=4 then (decide (x.a < d),d - x.a)
 else if x.op=5 then (decide (x.a < d - 1),d - x.a)
 else if x.op=6∨x.op=12 then (decide (d > 2),d - 1)
 else if x.op=7 then (decide (x.a < d),d - 1)
 else if x.op=8 then (decide (x.a≤8000),d+min x.a 8000)
 else if x.op=9 then (decide ((T.sh x.a).fields < d),d - (T.sh x.a).fields+1)
 else if x.op=10 then (decide (d > 1),d - 1+(T.sh x.a).fields)
 else if x.op=11∨x.op=14∨x.op=15 then (decide (d > 1),d)
 else if x.op=17 then (decide (d=1),d)
 else (true,d)
def isNum (n:Int):Prop := -4611686018427387904≤n∧n≤4611686018427387903
theorem FT {n:Int} (h:isNum n):(⟨1,n,[]⟩:Nd).may=true:=by
 unfold isNum at h;simp [Nd.may,gP];omega
structure pw (T:bl) (len:Nat) (i:Nat) (x:Ins):Prop where
 o1:1≤x.op
 o2:x.op≤17
 c1:(x.op=1∨x.op=4∨x.op=5∨x.op=8)→0≤x.a
 c2:x.op=2→0≤x.a∧x.a < T.globals.length
 c3:x.op=3→isNum x.a
 c7:x.op=7→1≤x.a
 c9:(x.op=9∨x.op=10∨x.op=14)→0≤x.a∧x.a < T.aC.length
 c12:x.op=12→1≤x.a∧x.a≤11
 FU:x.op=13→(i:Int) < x.a∧x.a < len
 yr:(x.op=14∨x.op=15)→(i:Int) < x.b∧x.b < len
 c15:x.op=15→isNum x.a
 zT:x.op=16→1≤x.a∧x.a≤4
def eN (x:Ins):Prop:=x.op≠13∧x.op≠16∧x.op≠17
structure L7 (T:bl) (g:Gl) (D:List Int) (i:Nat) (x:Ins):Prop where
 FV:pw T g.code.length i x
 nz:D.getD i 0≠0
 ok:(az T x (D.getD i 0)).1=true
 le:(az T x (D.getD i 0)).2≤8000
 next:eN x→i+1 < g.code.length∧D.getD (i+1) 0=(az T x (D.getD i 0)).2
 jump:x.op=13→D.getD x.a.toNat 0=(az T x (D.getD i 0)).2
 test:x.op=14∨x.op=15→D.getD x.b.toNat 0=(az T x (D.getD i 0)).2
structure UL (T:bl) (g:Gl) (D:List Int):Prop where
 pos:0 < g.code.length
 start:D.getD 0 0=g.arity+1
 each:∀ (i:Nat) (x:Ins),g.code[i]? = some x→L7 T g D i x
def ed (D:List Int) (at' d:Int):List Int:=if D.getD at'.toNat 0=0 then D.set at'.toNat d else D
def dM (x:Ins):Int:=if x.op=13 then x.a else if x.op=14∨x.op=15 then x.b else 0
def gV (T:bl) (D:List Int) (i:Nat) (x:Ins):List Int:=
 let b:=(az T x (D.getD i 0)).2
 let D1:=if x.op≠13∧x.op≠16∧x.op≠17 then ed D ((i:Int)+1) b else D
 if dM x > 0 then ed D1 (dM x) b else D1
def nH (T:bl):Nat→List Ins→List Int→List Int
 | _,[],D=>D
 | i,x::l,D=>nH T (i+1) l (gV T D i x)
def ux (T:bl) (g:Gl):List Int:=nH T 0 g.code ((List.replicate g.code.length 0).set 0 (g.arity+1))
structure FW (T:bl):Prop where
 kC:∀ g∈T.globals,UL T g (ux T g)∧0≤g.arity∧g.arity≤24∧g.code.length≤8000
 shs:∀ s∈T.aC,0≤s.fields∧s.fields≤8
 gn:T.globals.length≤2000
 sn:7≤T.aC.length∧T.aC.length≤2000
 nil:(T.sh 3).fields=0
 cons:(T.sh 4).fields=2
 fal:(T.sh 0).fields=0
 tru:(T.sh 1).fields=0
structure yu (T:bl) (f:Fr):Prop where
 gl:0≤f.iM∧f.iM < T.globals.length
 at':0≤f.at'∧f.at' < (T.gl f.iM).code.length
 dep:(ux T (T.gl f.iM)).getD f.at'.toNat 0=f.stack.length
structure qm (s:St) (n:Int) (f:Fr):Prop where
 sp:∀ a∈f.spine,s.In a
 sk:∀ a∈f.stack,s.In a
 sd:s.In f.bI
 wD:(f.spine.length:Int)≤n
 nI:f.stack.length≤8000
structure bH (n:Int) (M:Mc):Prop where
 a8:FW M.a8
 g:dC M.a8 M.st
 kC:∀ a∈M.globals,M.st.In a
 lE:M.globals.length=M.a8.globals.length
 mG:∀ a∈M.wait,M.st.In a
 px:M.ended=0→0 < M.wait.length
 jw:∀ f∈M.aA,qm M.st n f
 run:M.ended=0→∀ f∈M.aA,f.runs=true→yu M.a8 f
 base:0≤M.base∧M.base≤1048576
 bB:0≤M.bB∧M.bB≤1048576
 jd:∀ a∈M.input,isNum a
 ln:0≤n
 lf:(M.aA.length:Int)≤n
 lw:(M.wait.length:Int)≤8*n+1
 lt:(M.told.length:Int)≤n
 rF:M.ended≠5
section
variable {n:Int} {M:Mc}
theorem bH.roots (h:bH n M):∀ a∈M.roots,M.st.In a:=by
 intro a ha;unfold Mc.roots at ha;rcases List.mem_append.1 ha with ha | ha
 ·rcases List.mem_append.1 ha with ha | ha
  ·exact h.kC a ha
  ·obtain ⟨f,hf,ha⟩:=List.mem_flatMap.1 ha;have:=h.jw f hf;rcases List.mem_append.1 ha with ha | ha
   ·rcases List.mem_append.1 ha with ha | ha
    ·exact this.sp a ha
    ·exact this.sk a ha
   ·obtain rfl:=List.mem_singleton.1 ha;exact this.sd
 ·exact h.mG a ha
theorem L8 (hp:0 < M.aA.length):M.aa∈M.aA:=by
 have:=CH hp;exact List.mem_of_getElem? this
theorem bH.py (h:bH n M) (hp:0 < M.aA.length):qm M.st n M.aa:=h.jw _ (L8 hp)
theorem qm.aB {s s':St} {n n':Int} {f:Fr} (h:qm s n f) (hs:∀ a,s.In a→s'.In a) (hn:n≤n'):qm s' n' f:=
 ⟨fun a ha=>hs a (h.sp a ha),fun a ha=>hs a (h.sk a ha),hs _ h.sd,by have:=h.wD;omega,h.nI⟩
theorem bH.pz (h:bH n M) {s':St} {f':Fr} (hg:dC M.a8 s') (hs:∀ a,M.st.In a→s'.In a) (hf:qm s' (n+1) f') (hr:M.ended=0→f'.runs=true→yu M.a8 f'):bH (n+1) { M.bZ f' with st:=s'}:=by
 have key:∀ f∈M.aA.set (M.aA.length - 1) f',f∈M.aA∨f=f':=fun f hf=>List.mem_or_eq_of_mem_set hf
 refine ⟨h.a8,hg,fun a ha=>hs a (h.kC a ha),h.lE,fun a ha=>hs a (h.mG a ha),h.px,?_,?_,h.base,h.bB,h.jd,by have:=h.ln;omega,?_,by have:=h.lw;show (M.wait.length:Int)≤_;omega,by have:=h.lt;show (M.told.length:Int)≤_;omega,h.rF⟩
 ·intro f jO;rcases key f jO with h1 | rfl
  ·exact (h.jw f h1).aB hs (by omega)
  ·exact hf
 ·intro he f jO FX;rcases key f jO with h1 | rfl
  ·exact h.run he f h1 FX
  ·exact hr he FX
 ·have:=h.lf;show ((M.aA.set (M.aA.length - 1) f').length:Int)≤_;rw [List.length_set];omega
theorem bH.more (h:bH n M) {n':Int} (hn:n≤n'):bH n' M:=
 ⟨h.a8,h.g,h.kC,h.lE,h.mG,h.px,fun f hf=>(h.jw f hf).aB (fun _ h=>h) hn,h.run,h.base,h.bB,h.jd,by have:=h.ln;omega,by have:=h.lf;omega,by have:=h.lw;omega,by have:=h.lt;omega,h.rF⟩
theorem bH.fail (h:bH n M) (gS:Int):bH n (M.fail gS):=
 ⟨h.a8,h.g,h.kC,h.lE,h.mG,(fun e=>by cases e),h.jw,(fun e=>by cases e),h.base,h.bB,h.jd,h.ln,h.lf,h.lw,h.lt,by show (3:Int)≠5;decide⟩
theorem bH.qi (h:bH n M):bH n M.qi:=by
 have key:∀ f∈M.qi.aA,f∈M.aA:=fun f hf=>List.mem_of_mem_take hf
 refine ⟨h.a8,h.g,h.kC,h.lE,h.mG,h.px,fun f hf=>h.jw f (key f hf),fun he f hf=>h.run he f (key f hf),h.base,h.bB,h.jd,h.ln,?_,h.lw,h.lt,h.rF⟩;have:=h.lf;simp only [Mc.qi,List.length_take];omega
theorem UM {s:St} {n p:Int} (hp:s.In p) (hn:0≤n):qm s n (yh p):=⟨fun a ha=>(by cases ha),fun a ha=>(by cases ha),hp,by simpa [yh] using hn,by simp [yh]⟩
theorem bH.enter (h:bH n M) {p:Int} (hp:M.st.In p):bH (n+1) (M.enter p):=by
 have hl:=h.ln;refine ⟨h.a8,h.g,h.kC,h.lE,h.mG,h.px,?_,?_,h.base,h.bB,h.jd,by omega,?_,by have:=h.lw;show (M.wait.length:Int)≤_;omega,by have:=h.lt;show (M.told.length:Int)≤_;omega,h.rF⟩
 ·intro f hf;rcases List.mem_append.1 hf with hf | hf
  ·exact (h.jw f hf).aB (fun _ h=>h) (by omega)
  ·obtain rfl:=List.mem_singleton.1 hf;exact UM hp (by omega)
 ·intro he f hf hr;rcases List.mem_append.1 hf with hf | hf
  ·exact h.run he f hf hr
  ·obtain rfl:=List.mem_singleton.1 hf;cases hr
 ·have:=h.lf;simp only [Mc.enter,List.length_append,List.length_cons,List.length_nil];omega
theorem UN (M:Mc):M.eM id=M:=by
 have e:(Fr.eM id)=(id:Fr→Fr):=by
  funext f;cases f;simp [Fr.eM]
 simp only [Mc.eM,e,List.map_id_fun,id]
theorem agD (M:Mc) (k:Int):(M.room k).1=true→∃ g s b,(M.room k).2 = { M.eM g with st:=s,base:=b}:=by
 intro h;unfold Mc.room at h ⊢
 split at h
 ·rename_i hq;rw [if_pos hq];exact ⟨id,M.st,M.base,by rw [UN]⟩
 ·rename_i hq;rw [if_neg hq]
  split at h
  ·cases h
  ·exact ⟨_,_,_,rfl⟩
theorem bH.mapped (h:bH n M) {g:Int→Int} {s:St} {b:Int} (hg:dC M.a8 s) (hs:∀ a∈M.roots,s.In (g a)) (hb:0≤b∧b≤1048576):bH n { M.eM g with st:=s,base:=b}:=by
 have agE:∀ a∈M.globals,a∈M.roots:=fun a ha=>by simp [Mc.roots,ha]
 have agF:∀ a∈M.wait,a∈M.roots:=fun a ha=>by simp [Mc.roots,ha]
 have L9:∀ f∈M.aA,∀ a∈f.roots,a∈M.roots:=fun f hf a ha=>by
  unfold Mc.roots;exact List.mem_append_left _ (List.mem_append_right _ (List.mem_flatMap.2 ⟨f,hf,ha⟩))
 refine ⟨h.a8,hg,?_,?_,?_,?_,?_,?_,hb,h.bB,h.jd,h.ln,?_,?_,h.lt,h.rF⟩
 ·intro a ha;obtain ⟨c,hc,rfl⟩:=List.mem_map.1 ha;exact hs c (agE c hc)
 ·show (M.globals.map g).length=_;rw [List.length_map];exact h.lE
 ·intro a ha;obtain ⟨c,hc,rfl⟩:=List.mem_map.1 ha;exact hs c (agF c hc)
 ·intro he;show 0 < (M.wait.map g).length;rw [List.length_map];exact h.px he
 ·intro f hf;obtain ⟨f0,Aw,rfl⟩:=List.mem_map.1 hf;have hk:=h.jw f0 Aw;refine ⟨?_,?_,hs _ (L9 f0 Aw _ (by simp [Fr.roots])),by simpa [Fr.eM] using hk.wD,by simpa [Fr.eM] using hk.nI⟩
  ·intro a ha;obtain ⟨c,hc,rfl⟩:=List.mem_map.1 ha;exact hs c (L9 f0 Aw c (by simp [Fr.roots,hc]))
  ·intro a ha;obtain ⟨c,hc,rfl⟩:=List.mem_map.1 ha;exact hs c (L9 f0 Aw c (by simp [Fr.roots,hc]))
 ·intro he f hf hr;obtain ⟨f0,Aw,rfl⟩:=List.mem_map.1 hf;have hk:=h.run he f0 Aw hr;exact ⟨hk.gl,hk.at',by have:=hk.dep;simp only [Fr.eM,List.length_map];exact this⟩
 ·show ((M.aA.map (Fr.eM g)).length:Int)≤n;rw [List.length_map];exact h.lf
 ·show ((M.wait.map g).length:Int)≤_;rw [List.length_map];exact h.lw
theorem dC.BG {T:bl} {s:St} (h:dC T s) {roots:List Int} (hr:∀ a∈roots,s.In a):dC T (mB s roots).2∧(∀ a∈roots,(mB s roots).2.In (sG s roots a)):=by
 obtain ⟨kd,sz,ns⟩:=s;cases kd with
 | hp t=>
  have:=h.small (s:=⟨.hp t,sz,ns⟩) (fr:=0) (Nat.zero_le _) (roots:=roots) hr (kd:=.hp (IntKind.i64.wrap (t+1))) trivial;simp only [mB,sG,(uw ns roots).1,← ql,← sL];exact this
 | gn y o t=>
  have hk:=h.st.kd;exact h.small (s:=⟨.gn y o t,sz,ns⟩) (fr:=0) (Nat.zero_le _) (roots:=roots) hr (kd:=.gn y (ch ns 0 roots).length (IntKind.i64.wrap (t+1))) ⟨Nat.le_refl _,hk.2⟩
 | ref=>
  have:=h.small (s:=⟨.ref,sz,ns⟩) (fr:=0) (Nat.zero_le _) (roots:=roots) hr (kd:=.ref) trivial;simp only [mB,sG,(uw ns roots).1,← ql,← sL];exact this
theorem UO {T:bl} {s:St} (h:dC T s) {roots:List Int} (hr:∀ a∈roots,s.In a) {k:Int} (hk:0≤k) {l:List Int} (hl:(dX s k roots).1=some l) :
   dC T (dX s k roots).2∧(∀ a∈roots,(dX s k roots).2.In (nu s k roots a))∧((dX s k roots).2.ns.length:Int)+k≤s.size:=by
 have bQ:bK s.ns.length roots=true:=nG hr;obtain ⟨kd,sz,ns⟩:=s;cases kd with
 | hp t=>
  simp only [dX,nu,iY] at hl ⊢;simp only at bQ;rw [if_neg (by omega),if_neg (by simp [bQ])] at hl ⊢
  split at hl
  ·rename_i hh;simp only [if_pos hh];exact ⟨h,fun a ha=>hr a ha,by omega⟩
  ·rename_i hh;simp only [if_neg hh]
   split at hl
   ·cases hl
   ·rename_i cE;simp only [if_neg cE];have:=h.small (s:=⟨.hp t,sz,ns⟩) (fr:=0) (Nat.zero_le _) (roots:=roots) hr (kd:=.hp (IntKind.i64.wrap (t+1))) trivial;simp only [(uw ns roots).1,← ql,← sL] at cE ⊢;exact ⟨this.1,this.2,by omega⟩
 | gn y o t=>
  have ky:=h.st.kd;have bC:o≤ns.length:=ky.1;simp only [dX,nu,iL] at hl ⊢;simp only at bQ;rw [if_neg (by omega),if_neg (by simp [bQ])] at hl ⊢
  split at hl
  ·rename_i hh;simp only [if_pos hh];exact ⟨h,fun a ha=>hr a ha,by omega⟩
  ·rename_i hh;simp only [if_neg hh];have h1:=h.small (s:=⟨.gn y o t,sz,ns⟩) (fr:=o) bC (roots:=roots) hr (kd:=.gn y (ch ns o roots).length (IntKind.i64.wrap (t+1))) ⟨Nat.le_refl _,ky.2⟩
   split at hl
   ·rename_i cE;simp only [if_pos cE];have h2:=dC.small (s:=⟨.gn y (ch ns o roots).length (IntKind.i64.wrap (t+1)),sz,ch ns o roots⟩) h1.1 (fr:=0) (Nat.zero_le _) (roots:=eR ns o roots)
     (fun a ha=>by obtain ⟨c,hc,rfl⟩:=List.mem_map.1 ha;exact h1.2 c hc)
     (kd:=.gn y (ch (ch ns o roots) 0 (eR ns o roots)).length (IntKind.i64.wrap (IntKind.i64.wrap (t+1)+1))) ⟨Nat.le_refl _,ky.2⟩
    unfold rz at hl ⊢
    split at hl
    ·cases hl
    ·rename_i qn;simp only [if_neg qn,if_pos cE];exact ⟨h2.1,fun a ha=>h2.2 _ (List.mem_map.2 ⟨a,ha,rfl⟩),by omega⟩
   ·rename_i cE;simp only [if_neg cE];exact ⟨h1.1,h1.2,by omega⟩
 | ref=>
  simp only [dX,nu] at hl ⊢
  split at hl
  ·cases hl
  ·rename_i hh;simp only [if_neg hh];have:=h.small (s:=⟨.ref,sz,ns⟩) (fr:=0) (Nat.zero_le _) (roots:=roots) hr (kd:=.ref) trivial;simp only [(uw ns roots).1,← ql,← sL] at hh ⊢;exact ⟨this.1,this.2,by omega⟩
theorem bH.room (h:bH n M) {k:Int} (hk:0≤k) (ht:(M.room k).1=true):bH n (M.room k).2∧((M.room k).2.st.ns.length:Int)+k≤(M.room k).2.st.size:=by
 unfold Mc.room at ht ⊢
 split at ht
 ·rename_i hq;rw [if_pos hq];refine ⟨h,?_⟩;simp only [Mc.quick,Bool.and_eq_true,decide_eq_true_eq] at hq;have:=hq.1;show (M.st.ns.length:Int)+k≤M.st.size;omega
 ·rename_i hq;rw [if_neg hq]
  split at ht
  ·cases ht
  ·rename_i l hl;obtain ⟨h1,h2,h3⟩:=UO h.g h.roots hk hl;refine ⟨h.mapped h1 h2 ⟨by omega,?_⟩,?_⟩
   ·have:=h1.st.n;omega
   ·show ((dX M.st k M.roots).2.ns.length:Int)+k≤(dX M.st k M.roots).2.size;rw [ym];exact h3
theorem bH.tidy (h:bH n M):bH n M.tidy:=by
 unfold Mc.tidy
 split
 ·obtain ⟨h1,h2⟩:=h.g.BG h.roots;refine h.mapped h1 h2 ⟨by omega,?_⟩;have:=h1.st.n;omega
 ·exact h
end
end
section
open Go Go.W
theorem uy {f:Fr} {k:Int} (h:0≤k∧k < f.stack.length):f.place k∈f.stack:=by
 unfold Fr.place;have:f.stack.length - 1 - k.toNat < f.stack.length:=by omega
 rw [List.getD_eq_getElem?_getD,List.getElem?_eq_getElem this];exact List.getElem_mem this
theorem uz {l:List Int} {i:Nat} (h:i < l.length):l.getD i 0∈l:=by
 rw [List.getD_eq_getElem?_getD,List.getElem?_eq_getElem h];exact List.getElem_mem h
theorem agG {T:bl} {f f':Fr} {x:Ins} (hr:yu T f) (hI:L7 T (T.gl f.iM) (ux T (T.gl f.iM)) f.at'.toNat x) (hg:eN x) (e1:f'.iM=f.iM) (e2:f'.at'=f.at'+1)
   (e3:(az T x f.stack.length).2=f'.stack.length):yu T f':=by
 obtain ⟨h1,h2⟩:=hI.next hg;have ha:=hr.at';refine ⟨by rw [e1];exact hr.gl,by rw [e1,e2];omega,?_⟩;rw [e1,e2,← e3,← hr.dep,← h2]
 congr 1;omega
theorem L' {T:bl} {f f':Fr} {x:Ins} {t:Int} (hr:yu T f) (ht:0≤t∧t < (T.gl f.iM).code.length) (hI:(ux T (T.gl f.iM)).getD t.toNat 0=(az T x ((ux T (T.gl f.iM)).getD f.at'.toNat 0)).2) (e1:f'.iM=f.iM) (e2:f'.at'=t)
   (e3:(az T x f.stack.length).2=f'.stack.length):yu T f':=by
 refine ⟨by rw [e1];exact hr.gl,by rw [e1,e2];exact ht,?_⟩;rw [e1,e2,← e3,← hr.dep,← hI]
theorem dC.sJ {T:bl} {s:St} (h:dC T s):∀ k:Nat,(s.ns.length:Int)+k≤s.size→dC T { s with ns:=s.ns++List.replicate k ⟨6,0,[]⟩}:=by
 intro k
 induction k with
 | zero=>intro _;simpa using h
 | succ k ih=>
  intro hr;have:=(ih (by omega)).add (nd:=⟨6,0,[]⟩) rfl (by decide) (fun a ha=>by cases ha) ⟨(fun e=>by cases e),(fun e=>by cases e)⟩ (by show ((s.ns++List.replicate k _).length:Int) < s.size;simp only [List.length_append,List.length_replicate];omega)
  simpa [St.add,List.replicate_succ',List.append_assoc] using this
theorem UP {T:bl} (h:FW T) {c:Int} (hc:0≤c∧c < T.aC.length):0≤(T.sh c).fields∧(T.sh c).fields≤8:=by
 refine h.shs _ ?_;unfold bl.sh;rw [List.getD_eq_getElem?_getD,List.getElem?_eq_getElem (by omega:c.toNat < T.aC.length)];exact List.getElem_mem _
theorem FY {T:bl} {c:Int} (hc:0≤c∧c < T.globals.length):T.gl c∈T.globals:=by
 unfold bl.gl;rw [List.getD_eq_getElem?_getD,List.getElem?_eq_getElem (by omega:c.toNat < T.globals.length)];exact List.getElem_mem _
theorem agH (n:Int) : -4611686018427387904≤iv n∧iv n≤4611686018427387903:=by unfold iv;omega
theorem agI (op a b:Int):(jt op a b).may=true∧(jt op a b).kind≠5∧(jt op a b).args=[]∧((jt op a b).kind=2→(jt op a b).num=0∨(jt op a b).num=1)∧(jt op a b).kind≠4:=by
 have key:∀ n,(⟨1,iv n,[]⟩:Nd).may=true:=fun n=>by
  have:=agH n;simp [Nd.may,gP];omega
 unfold jt
 split
 ·exact ⟨key _,by simp⟩
 split
 ·exact ⟨key _,by simp⟩
 split
 ·exact ⟨key _,by simp⟩
 split
 ·exact ⟨key _,by simp⟩
 split
 ·exact ⟨key _,by simp⟩
 split
 ·exact ⟨rfl,by simp⟩
 ·exact ⟨rfl,by simp⟩
section
variable {n:Int} {M:Mc}
theorem UQ (hp:0 < M.aA.length):M.next.aa = { M.aa with at':=M.aa.at'+1}:=(qj hp _).1
theorem qo (f:Fr):M.next.bZ f=M.bZ f:=LG _ _
structure nJ (n:Int) (M:Mc) (x:Ins):Prop where
 ok:bH n M
 pos:0 < M.aA.length
 going:M.ended=0
 runs:M.aa.runs=true
 ins:x=M.dA
theorem nJ.run {x:Ins} (h:nJ n M x):yu M.a8 M.aa:=h.ok.run h.going _ (L8 h.pos) h.runs
theorem nJ.io {x:Ins} (h:nJ n M x):L7 M.a8 (M.a8.gl M.aa.iM) (ux M.a8 (M.a8.gl M.aa.iM)) M.aa.at'.toNat x:=by
 have hr:=h.run;refine (h.ok.a8.kC _ (FY hr.gl)).1.each _ _ ?_;rw [h.ins];unfold Mc.dA Gl.ins;have:=hr.at';rw [List.getD_eq_getElem?_getD,List.getElem?_eq_getElem (by omega:M.aa.at'.toNat < _)];rfl
theorem nJ.st {x:Ins} (h:nJ n M x):(az M.a8 x M.aa.stack.length).1=true∧(az M.a8 x M.aa.stack.length).2≤8000∧M.aa.stack.length≠0:=by
 have:=h.io;have hd:=h.run.dep;refine ⟨by rw [← hd];exact this.ok,by rw [← hd];exact this.le,fun e=>this.nz (by rw [hd,e];rfl)⟩
theorem qm.put {s s':St} {f:Fr} (h:qm s n f) (hs:∀ a,s.In a→s'.In a) {st:List Int} {i:Int} (cg:∀ a∈st,a∈f.stack∨s'.In a) (hl:st.length≤8000):qm s' (n+1) { f with at':=i,stack:=st}:=
 ⟨fun a ha=>hs a (h.sp a ha),fun a ha=>(cg a ha).elim (fun h1=>hs a (h.sk a h1)) id,hs _ h.sd,by have:=h.wD;show (f.spine.length:Int)≤n+1;omega,hl⟩
theorem nJ.goes {x:Ins} (h:nJ n M x) (U:eN x) {s':St} (hg:dC M.a8 s') (hs:∀ a,M.st.In a→s'.In a) {st:List Int} (cg:∀ a∈st,a∈M.aa.stack∨s'.In a) (hl:(az M.a8 x M.aa.stack.length).2=st.length) :
   bH (n+1) { M.bZ { M.aa with at':=M.aa.at'+1,stack:=st} with st:=s'}:=by
 have hG:=h.ok.py h.pos;refine h.ok.pz hg hs (hG.put hs cg (by have:=h.st.2.1;omega)) (fun _ _=>agG h.run h.io U rfl rfl hl)
theorem yv {l:List Int} {k:Nat} {a:Int} (h:a∈l.take k):a∈l:=List.mem_of_mem_take h
theorem UR {f:Fr} {k:Nat} (hk:k≤f.stack.length):∀ a∈(List.range k).map (fun i:Nat=>f.place (i:Int)),a∈f.stack:=by
 intro a ha;obtain ⟨i,hi,rfl⟩:=List.mem_map.1 ha;have:=List.mem_range.1 hi;exact uy ⟨by omega,by omega⟩
theorem nJ.exec {x:Ins} (h:nJ n M x) (eE:0 < cellsOf x→(M.st.ns.length:Int)+cellsOf x≤M.st.size):bH (n+1) (M.next.exec x):=by
 have hG:=h.ok.py h.pos;have hn:=h.io.FV;obtain ⟨s1,s2,s3⟩:=h.st;have ht:=UQ h.pos;have cg:M.next.st=M.st:=rfl;have bQ:∀ k,M.next.aa.place k=M.aa.place k:=fun k=>by rw [ht];rfl
 have uA:∀ f:Fr,(M.bZ f) = { M.bZ f with st:=M.st}:=fun f=>rfl
 have p0:M.aa.place 0∈M.aa.stack:=uy ⟨by omega,by omega⟩;have o1:=hn.o1;have o2:=hn.o2;have hop:x.op=1∨x.op=2∨x.op=3∨x.op=4∨x.op=5∨x.op=6∨x.op=7∨x.op=8∨x.op=9∨x.op=10∨x.op=11∨x.op=12∨x.op=13∨x.op=14∨x.op=15∨x.op=16∨x.op=17:=by omega
 have go:x.op≠13→x.op≠16→x.op≠17→eN x:=fun a b c=>⟨a,b,c⟩
 have hid:∀ a,M.st.In a→M.st.In a:=fun _ h=>h
 have FZ:∀ (nd:Nd) (d:Nat),eN x→nd.may=true→nd.kind≠5→(∀ a∈nd.args,M.st.In a)→wC M.a8 nd→(M.st.ns.length:Int) < M.st.size→d≤M.aa.stack.length→(az M.a8 x M.aa.stack.length).2=((M.aa.stack.length - d+1:Nat):Int)→bH (n+1) (M.next.put nd d):=by
  intro nd d hg hm hk ha b9 hr hd hl;have:=h.goes hg (s':=M.st.add nd) (h.ok.g.add hm hk ha b9 hr) (fun a ha=>In.add ha nd) (st:=M.aa.stack.take (M.aa.stack.length - d)++[(M.st.ns.length:Int)])
   (fun a ha=>by
    rcases List.mem_append.1 ha with ha | ha
    ·exact .inl (yv ha)
    ·obtain rfl:=List.mem_singleton.1 ha;exact .inr (In.new _ _))
   (by rw [hl];simp only [List.length_append,List.length_take,List.length_cons,List.length_nil];omega)
  unfold Mc.put;rw [ht,qo,cg]
  simpa [Fr.pop,Fr.push] using this
 rcases hop with e | e | e | e | e | e | e | e | e | e | e | e | e | e | e | e | e
 ·
  have ex:M.next.exec x=M.bZ { M.aa with at':=M.aa.at'+1,stack:=M.aa.stack++[M.aa.place x.a]}:=by
   simp only [Mc.exec,e,if_true,ht,qo,Fr.push,Fr.place]
  simp only [az,e,if_true,decide_eq_true_eq] at s1 s2;rw [ex,uA];have ha:=hn.c1 (.inl e);refine h.goes (go (by omega) (by omega) (by omega)) h.ok.g hid (fun a ha'=>?_) (by simp [az,e]);rcases List.mem_append.1 ha' with ha' | ha'
  ·exact .inl ha'
  ·obtain rfl:=List.mem_singleton.1 ha';exact .inl (uy ⟨ha,s1⟩)
 ·
  have ex:M.next.exec x=M.bZ { M.aa with at':=M.aa.at'+1,stack:=M.aa.stack++[M.globals.getD x.a.toNat 0]}:=by
   have k:∀ (M:Mc),M.exec x=M.bZ (M.aa.push (M.globals.getD x.a.toNat 0)):=fun M=>by simp [Mc.exec,e]
   rw [k,ht,qo];rfl
  rw [ex,uA];have ha:=hn.c2 e;have mD:=h.ok.lE;refine h.goes (go (by omega) (by omega) (by omega)) h.ok.g hid (fun a ha'=>?_) (by simp [az,e]);rcases List.mem_append.1 ha' with ha' | ha'
  ·exact .inl ha'
  ·obtain rfl:=List.mem_singleton.1 ha';exact .inr (h.ok.kC _ (uz (by omega)))
 ·
  have ex:M.next.exec x=M.next.put ⟨1,x.a,[]⟩ ((0:Nat):Int):=by simp [Mc.exec,e]
  have hc:cellsOf x=1:=by simp [cellsOf,e]
  rw [ex];have ha:=hn.c3 e;refine FZ _ 0 (go (by omega) (by omega) (by omega)) (FT ha) (by simp) (fun a ha=>by cases ha) ⟨(fun e=>by cases e),(fun e=>by cases e)⟩ (by have:=eE (by omega);omega) (by omega) (by simp [az,e])
 ·
  have ex:M.next.exec x=M.bZ { M.aa with at':=M.aa.at'+1,stack:=M.aa.stack.take (M.aa.stack.length - x.a.toNat)}:=by
   simp [Mc.exec,e,ht,qo,Fr.pop]
  simp [az,e] at s1;have ha:=hn.c1 (.inr (.inl e));rw [ex,uA];refine h.goes (go (by omega) (by omega) (by omega)) h.ok.g hid (fun a ha'=>.inl (yv ha')) (by simp [az,e];omega)
 ·
  have ex:M.next.exec x=M.bZ { M.aa with at':=M.aa.at'+1,stack:=M.aa.stack.take (M.aa.stack.length - (x.a+1).toNat)++[M.aa.place 0]}:=by
   simp [Mc.exec,e,ht,qo,Fr.pop,Fr.push,Fr.place]
  simp [az,e] at s1;have ha:=hn.c1 (.inr (.inr (.inl e)));rw [ex,uA];refine h.goes (go (by omega) (by omega) (by omega)) h.ok.g hid (fun a ha'=>?_) (by simp [az,e];omega);rcases List.mem_append.1 ha' with ha' | ha'
  ·exact .inl (yv ha')
  ·obtain rfl:=List.mem_singleton.1 ha';exact .inl p0
 ·
  have ex:M.next.exec x=M.next.put ⟨3,0,[M.aa.place 0,M.aa.place 1]⟩ ((2:Nat):Int):=by simp [Mc.exec,e,bQ]
  have hc:cellsOf x=1:=by simp [cellsOf,e]
  simp [az,e] at s1;rw [ex];refine FZ _ 2 (go (by omega) (by omega) (by omega)) rfl (by simp) (fun a ha=>?_) ⟨(fun e=>by cases e),(fun e=>by cases e)⟩ (by have:=eE (by omega);omega) (by omega) (by simp [az,e];omega);have p1:M.aa.place 1∈M.aa.stack:=uy ⟨by omega,by omega⟩;simp only [List.mem_cons,List.not_mem_nil,or_false] at ha;rcases ha with rfl | rfl
  ·exact hG.sk _ p0
  ·exact hG.sk _ p1
 ·
  have ex:M.next.exec x = { M.bZ { M.aa with at':=M.aa.at'+1,stack:=M.aa.stack.take (M.aa.stack.length - 1)} with st:=M.st.set (M.st.ov (M.aa.place x.a)) ⟨5,0,[(M.st.ov (M.aa.place 0):Int)]⟩}:=by
   simp [Mc.exec,e,ht,qo,Fr.pop,Fr.place,cg]
  simp [az,e] at s1;have ha:=hn.c7 e;rw [ex];have pa:M.aa.place x.a∈M.aa.stack:=uy ⟨by omega,by omega⟩;refine h.goes (go (by omega) (by omega) (by omega)) (h.ok.g.upd (hG.sk _ pa) (hG.sk _ p0)) (fun a ha=>In.set ha _ _) (fun a ha'=>.inl (yv ha')) (by simp [az,e];omega)
 ·
  have ha:=hn.c1 (.inr (.inr (.inr e)));have hc:cellsOf x=x.a:=by simp [cellsOf,e]
  have ex:M.next.exec x = { M.bZ { M.aa with at':=M.aa.at'+1,stack:=M.aa.stack++(List.range x.a.toNat).map fun i=>((M.st.ns.length+i:Nat):Int)} with st:={ M.st with ns:=M.st.ns++List.replicate x.a.toNat ⟨6,0,[]⟩}}:=by
   simp [Mc.exec,e,Mc.alloc,ht,qo,cg]
  simp [az,e] at s1;rw [ex];have hr:(M.st.ns.length:Int)+x.a.toNat≤M.st.size:=by
   by_cases h0:x.a=0
   ·have:=h.ok.g.st.len;rw [h0];simpa using this
   ·have:=eE (by omega);omega
  refine h.goes (go (by omega) (by omega) (by omega)) (h.ok.g.sJ _ hr) (fun a ha=>⟨ha.1,by have:=ha.2;simp only [List.length_append,List.length_replicate];omega⟩) (fun a ha'=>?_) (by simp [az,e];omega);rcases List.mem_append.1 ha' with ha' | ha'
  ·exact .inl ha'
  ·obtain ⟨i,hi,rfl⟩:=List.mem_map.1 ha';have:=List.mem_range.1 hi;exact .inr ⟨by omega,by simp only [List.length_append,List.length_replicate];omega⟩
 ·
  have fC:=UP h.ok.a8 (hn.c9 (.inl e));obtain ⟨k,hk⟩:∃ k:Nat,(M.a8.sh x.a).fields=k:=⟨(M.a8.sh x.a).fields.toNat,by omega⟩;have ex:M.next.exec x=M.next.put ⟨2,x.a,(List.range k).map fun i:Nat=>M.aa.place (i:Int)⟩ (k:Int):=by
   have e1:(M.next.a8.sh x.a).fields=(k:Int):=hk;simp [Mc.exec,e,bQ,e1]
  have hc:cellsOf x=1:=by simp [cellsOf,e]
  simp [az,e,hk] at s1;rw [ex];have ha:=hn.c9 (.inl e);refine FZ _ k (go (by omega) (by omega) (by omega)) (by simp [Nd.may,gP];omega) (by simp) (fun a ha=>hG.sk _ (UR (by omega) a ha)) ⟨(fun e=>by cases e),fun _=>ha.2⟩ (by have:=eE (by omega);omega) (by omega) (by simp [az,e,hk];omega)
 ·
  simp [az,e] at s1;have b9:=h.ok.g.nd (hG.sk _ p0);have ex:M.next.exec x=if (M.st.nd (M.aa.place 0)).kind≠2∨(M.st.nd (M.aa.place 0)).num≠x.a∨((M.st.nd (M.aa.place 0)).args.length:Int)≠(M.a8.sh x.a).fields then M.next.fail 5
      else M.bZ { M.aa with at':=M.aa.at'+1,stack:=M.aa.stack.take (M.aa.stack.length - 1)++(M.st.nd (M.aa.place 0)).args.reverse}:=by
   have k:∀ (M:Mc),M.exec x=if (M.st.nd (M.aa.place 0)).kind≠2∨(M.st.nd (M.aa.place 0)).num≠x.a∨((M.st.nd (M.aa.place 0)).args.length:Int)≠(M.a8.sh x.a).fields then M.fail 5
    else M.bZ { M.aa.pop 1 with stack:=(M.aa.pop 1).stack++(M.st.nd (M.aa.place 0)).args.reverse}:=fun M=>by simp [Mc.exec,e]
   rw [k,bQ,cg,ht,qo];rfl
  rw [ex]
  split
  ·have fJ:bH n M.next∨True:=.inr trivial;have:bH (n+1) ({ M.bZ { M.aa with at':=M.aa.at'+1} with st:=M.st,ended:=3,stuck:=5}:Mc):=by
    have ct:=bH.fail (h.ok) 5;have:=ct.pz (s':=M.st) (f':={ M.aa with at':=M.aa.at'+1}) h.ok.g hid (hG.put hid (fun a ha=>.inl ha) hG.nI) (fun he=>by cases he);exact this
   exact this
  ·rename_i hh;simp only [not_or,Classical.not_not] at hh;rw [uA];refine h.goes (go (by omega) (by omega) (by omega)) h.ok.g hid (fun a ha'=>?_) (by simp [az,e,hh.2.2];omega);rcases List.mem_append.1 ha' with ha' | ha'
   ·exact .inl (yv ha')
   ·exact .inr (b9.2.1 _ (List.mem_reverse.1 ha'))
 ·
  simp [az,e] at s1;have yw:=h.goes (x:=x) (go (by omega) (by omega) (by omega)) h.ok.g hid (st:=M.aa.stack) (fun a ha=>.inl ha) (by simp [az,e]);have fJ:bH (n+1) M.next:=yw;have ex:M.next.exec x=if (M.st.nd (M.aa.place 0)).kind≠1∧(M.st.nd (M.aa.place 0)).kind≠2 then M.next.enter (M.nv (M.aa.place 0)) else M.next:=by
   have e1:M.next.nv (M.aa.place 0)=M.nv (M.aa.place 0):=rfl;simp [Mc.exec,e,bQ,cg,e1]
  rw [ex]
  split
  ·
   have hnv:M.st.In (M.nv (M.aa.place 0)):=by
    unfold Mc.nv
    split
    ·exact h.ok.g.sM (hG.sk _ p0)
    ·exact hG.sk _ p0
   have hl:=h.ok.ln;refine ⟨h.ok.a8,h.ok.g,h.ok.kC,h.ok.lE,h.ok.mG,h.ok.px,?_,?_,h.ok.base,h.ok.bB,h.ok.jd,by omega,?_,fJ.lw,fJ.lt,h.ok.rF⟩
   ·intro f hf;rcases List.mem_append.1 hf with hf | hf
    ·exact fJ.jw f hf
    ·obtain rfl:=List.mem_singleton.1 hf;exact UM hnv (by omega)
   ·intro he f hf hr;rcases List.mem_append.1 hf with hf | hf
    ·exact fJ.run he f hf hr
    ·obtain rfl:=List.mem_singleton.1 hf;cases hr
   ·have:=h.ok.lf;have e2:M.next.aA.length=M.aA.length:=(qj h.pos _).2;show ((M.next.aA++[_]).length:Int)≤n+1;rw [List.length_append,e2];simp;omega
  ·exact fJ
 ·
  simp [az,e] at s1;have hc:cellsOf x=1:=by simp [cellsOf,e]
  have ex:M.next.exec x=if (M.st.nd (M.aa.place 0)).kind≠1∨(M.st.nd (M.aa.place 1)).kind≠1 then M.next.fail 5
      else if (x.a=4∨x.a=5)∧(M.st.nd (M.aa.place 1)).num=0 then M.next.fail 3
      else M.next.put (jt x.a (M.st.nd (M.aa.place 0)).num (M.st.nd (M.aa.place 1)).num) ((2:Nat):Int):=by
   simp [Mc.exec,e,Mc.arith,bQ,cg]
  have hf:∀ gS,bH (n+1) (M.next.fail gS):=fun gS=>by
   have:=(bH.fail (h.ok) gS).pz (s':=M.st) (f':={ M.aa with at':=M.aa.at'+1}) h.ok.g hid (hG.put hid (fun a ha=>.inl ha) hG.nI) (fun he=>by cases he);exact this
  rw [ex]
  split
  ·exact hf _
  split
  ·exact hf _
  ·obtain ⟨m1,m2,m3,m4,m5⟩:=agI x.a (M.st.nd (M.aa.place 0)).num (M.st.nd (M.aa.place 1)).num;refine FZ _ 2 (go (by omega) (by omega) (by omega)) m1 m2 (fun a ha=>by rw [m3] at ha;cases ha) ⟨fun e=>absurd e m5,fun e=>?_⟩ (by have:=eE (by omega);omega) (by omega) (by simp [az,e];omega);have:=h.ok.a8.sn;rcases m4 e with hh | hh<;>rw [hh]<;>omega
 ·
  have ex:M.next.exec x=M.bZ { M.aa with at':=x.a}:=by simp [Mc.exec,e,ht,qo]
  rw [ex,uA];have hb:=hn.FU e;have cr:=h.run.at';refine h.ok.pz h.ok.g hid (hG.put (i:=x.a) (st:=M.aa.stack) hid (fun a ha=>.inl ha) hG.nI) (fun _ _=>L' (x:=x) (t:=x.a) h.run (by omega) (h.io.jump e) rfl rfl (by simp [az,e]))
 ·
  have ex:M.next.exec x=if (M.st.nd (M.aa.place 0)).kind≠2 then M.next.fail 5 else if (M.st.nd (M.aa.place 0)).num≠x.a then M.bZ { M.aa with at':=x.b} else M.next:=by
   have k:∀ (M:Mc),M.exec x=if (M.st.nd (M.aa.place 0)).kind≠2 then M.fail 5 else if (M.st.nd (M.aa.place 0)).num≠x.a then M.bZ { M.aa with at':=x.b} else M:=fun M=>by simp [Mc.exec,e,Mc.ju]
   rw [k,bQ,cg,ht,qo]
  have yw:=h.goes (x:=x) (go (by omega) (by omega) (by omega)) h.ok.g hid (st:=M.aa.stack) (fun a ha=>.inl ha) (by simp [az,e]);have hb:=hn.yr (.inl e);have cr:=h.run.at';rw [ex]
  split
  ·have:=(bH.fail (h.ok) 5).pz (s':=M.st) (f':={ M.aa with at':=M.aa.at'+1}) h.ok.g hid (hG.put hid (fun a ha=>.inl ha) hG.nI) (fun he=>by cases he);exact this
  split
  ·rw [uA];exact h.ok.pz h.ok.g hid (hG.put (i:=x.b) (st:=M.aa.stack) hid (fun a ha=>.inl ha) hG.nI) (fun _ _=>L' (x:=x) (t:=x.b) h.run (by omega) (h.io.test (.inl e)) rfl rfl (by simp [az,e]))
  ·exact yw
 ·
  have ex:M.next.exec x=if (M.st.nd (M.aa.place 0)).kind≠1 then M.next.fail 5 else if (M.st.nd (M.aa.place 0)).num≠x.a then M.bZ { M.aa with at':=x.b} else M.next:=by
   have k:∀ (M:Mc),M.exec x=if (M.st.nd (M.aa.place 0)).kind≠1 then M.fail 5 else if (M.st.nd (M.aa.place 0)).num≠x.a then M.bZ { M.aa with at':=x.b} else M:=fun M=>by simp [Mc.exec,e,Mc.ju]
   rw [k,bQ,cg,ht,qo]
  have yw:=h.goes (x:=x) (go (by omega) (by omega) (by omega)) h.ok.g hid (st:=M.aa.stack) (fun a ha=>.inl ha) (by simp [az,e]);have hb:=hn.yr (.inr e);have cr:=h.run.at';rw [ex]
  split
  ·have:=(bH.fail (h.ok) 5).pz (s':=M.st) (f':={ M.aa with at':=M.aa.at'+1}) h.ok.g hid (hG.put hid (fun a ha=>.inl ha) hG.nI) (fun he=>by cases he);exact this
  split
  ·rw [uA];exact h.ok.pz h.ok.g hid (hG.put (i:=x.b) (st:=M.aa.stack) hid (fun a ha=>.inl ha) hG.nI) (fun _ _=>L' (x:=x) (t:=x.b) h.run (by omega) (h.io.test (.inr e)) rfl rfl (by simp [az,e]))
  ·exact yw
 ·
  have ex:M.next.exec x=M.next.fail x.a:=by simp [Mc.exec,e]
  rw [ex];have:=(bH.fail (h.ok) x.a).pz (s':=M.st) (f':={ M.aa with at':=M.aa.at'+1}) h.ok.g hid (hG.put hid (fun a ha=>.inl ha) hG.nI) (fun he=>by cases he);exact this
 ·
  have ex:M.next.exec x=M.bZ { M.aa with at':=M.aa.at'+1,runs:=false,bI:=M.aa.stack.getD 0 0,stack:=[]}:=by simp [Mc.exec,e,ht,qo]
  rw [ex,uA];refine h.ok.pz h.ok.g hid ⟨hG.sp,(fun a ha=>by cases ha),hG.sk _ (uz (by omega)),by have:=hG.wD;show (M.aa.spine.length:Int)≤_;omega,by simp⟩ (fun _ he=>by cases he)
end
end
section
open Go Go.W
section
variable {n:Int} {M:Mc}
theorem F0 (h:0 < M.wait.length):M.last∈M.wait:=uz (by omega)
theorem bH.tell (h:bH n M) (he:M.ended=0):bH (n+1) M.tell:=by
 have hw:=h.px he;have hl:=h.mG _ (F0 hw);have b9:=h.g.nd hl;have dI:=h.ln;unfold Mc.tell
 split
 ·rename_i hk;have dJ:(M.st.nd M.last).args.length≤8:=by
   have:=sN b9.1;rcases hk with hk | hk
   ·rw [(this.1 hk).1];simp
   ·exact (this.2.1 hk).1
  refine ⟨h.a8,h.g,h.kC,h.lE,?_,?_,fun f hf=>(h.jw f hf).aB (fun _ h=>h) (by omega),fun e f hf hr=>h.run he f hf hr,h.base,h.bB,h.jd,by omega,?_,?_,?_,?_⟩
  ·intro a ha;rcases List.mem_append.1 ha with ha | ha
   ·exact h.mG a (yv ha)
   ·exact b9.2.1 a (List.mem_reverse.1 ha)
  ·intro e;apply Nat.pos_of_ne_zero;intro h0;have e:(if (M.wait.take (M.wait.length - 1)++(M.st.nd M.last).args.reverse).length=0 then 2 else M.ended)=0:=e;have h0:(M.wait.take (M.wait.length - 1)++(M.st.nd M.last).args.reverse).length=0:=h0;rw [if_pos h0] at e;cases e
  ·have:=h.lf;show (M.aA.length:Int)≤_;omega
  ·have:=h.lw;show ((M.wait.take (M.wait.length - 1)++(M.st.nd M.last).args.reverse).length:Int)≤_;simp only [List.length_append,List.length_take,List.length_reverse];omega
  ·have:=h.lt;show ((M.told++[_]).length:Int)≤_;simp only [List.length_append,List.length_cons,List.length_nil];omega
  ·show (if _ then (2:Int) else M.ended)≠5
   split
   ·decide
   ·rw [he];decide
 ·refine h.enter ?_;unfold Mc.nv
  split
  ·exact h.g.sM hl
  ·exact hl
theorem US {s:St} {T:bl} (h:dC T s) {a:Int} (ha:s.In a) (hk:(s.nd a).kind=3):s.In ((s.nd a).args.getD 1 0)∧s.In ((s.nd a).args.getD 0 0):=by
 have b9:=h.nd ha;have hl:=(sN b9.1).2.2.1 hk;exact ⟨b9.2.1 _ (uz (by omega)),b9.2.1 _ (uz (by omega))⟩
theorem St.F7 {s:St} {T:bl} (h:dC T s) {a:Int} (ha:s.In a):s.ov (s.ov a:Int)=s.ov a∧s.nd (s.ov a:Int)=s.nd a:=by
 have e:s.ov (s.ov a:Int)=s.ov a:=by
  have:=h.L4 ha
  simpa [St.ov] using this
 exact ⟨e,by unfold St.nd;rw [e]⟩
theorem agJ (f:Fr) {ar:Int} (h:0≤ar∧ar≤f.spine.length):(f.own ar).length=ar.toNat:=by
 simp only [Fr.own,List.length_drop];omega
theorem UT {f:Fr} {ar a:Int} (h:a∈f.own ar):a∈f.spine:=List.mem_of_mem_drop h
theorem agK (h:bH n M) {f:Fr} (hG:qm M.st n f) {ar:Int} (h4:(M.st.nd f.bI).kind=4) (cA:∀ s∈f.own ar,(M.st.nd s).kind=3) :
   M.st.In (M.head f ar)∧(ai M.st.ns (M.st.ov (M.head f ar))).kind≠5∧M.st.ov (M.head f ar) < M.st.ns.length:=by
 unfold Mc.head
 split
 ·obtain ⟨e1,e2⟩:=St.F7 h.g hG.sd;refine ⟨h.g.sM hG.sd,?_,h.g.ov (h.g.sM hG.sd)⟩;rw [e1];show (M.st.nd f.bI).kind≠5;rw [h4];decide
 ·rename_i s l hs;have hm:s∈f.own ar:=by rw [hs];exact List.mem_cons_self
  have cK:=hG.sp _ (UT hm);have hk:=cA _ hm;have k5:(M.st.nd s).kind≠5:=by rw [hk];decide
  split
  ·exact ⟨cK,k5,h.g.ov cK⟩
  ·obtain ⟨e1,e2⟩:=St.F7 h.g cK;refine ⟨h.g.sM cK,?_,h.g.ov (h.g.sM cK)⟩;rw [e1];exact k5
theorem bH.call (h:bH n M) (hp:0 < M.aA.length) (h4:(M.st.nd M.aa.bI).kind=4) (kf:(M.aa.spine.length:Int)≥(M.a8.gl (M.st.nd M.aa.bI).num).arity):bH (n+1) (M.call M.aa (M.st.nd M.aa.bI).num):=by
 have hG:=h.py hp;have b9:=h.g.nd hG.sd;have iu:0≤(M.st.nd M.aa.bI).num∧(M.st.nd M.aa.bI).num < M.a8.globals.length:=⟨((sN b9.1).2.2.2.1 h4).2,b9.2.2.1 h4⟩;obtain ⟨UU,a0,a24,_⟩:=h.a8.kC _ (FY iu);unfold Mc.call
 split
 ·rename_i cA;have cA:∀ s∈M.aa.own (M.a8.gl (M.st.nd M.aa.bI).num).arity,(M.st.nd s).kind=3:=fun s hs=>by simpa using List.all_eq_true.1 cA s hs
  obtain ⟨i1,i2,i3⟩:=agK h hG h4 cA;have hl:=agJ M.aa ⟨a0,kf⟩;refine h.pz (h.g.set i3 i2 rfl (by decide) (fun a ha=>by cases ha) ⟨(fun e=>by cases e),(fun e=>by cases e)⟩) (fun a ha=>In.set ha _ _) ⟨?_,?_,In.set hG.sd _ _,?_,?_⟩ ?_
  ·intro a ha;exact In.set (hG.sp a (yv ha)) _ _
  ·intro a ha;rcases List.mem_cons.1 ha with rfl | ha
   ·exact In.set i1 _ _
   ·obtain ⟨s,hs,rfl⟩:=List.mem_map.1 ha;exact In.set (US h.g (hG.sp s (UT hs)) (cA s hs)).1 _ _
  ·have:=hG.wD;show ((M.aa.spine.take _).length:Int)≤_;rw [List.length_take];omega
  ·simp only [List.length_cons,List.length_map,hl];omega
  ·intro he hr;refine ⟨iu,⟨by show (0:Int)≤0;omega,by have:=UU.pos;show (0:Int) < ((M.a8.gl (M.st.nd M.aa.bI).num).code.length:Int);omega⟩,?_⟩;show (ux M.a8 (M.a8.gl (M.st.nd M.aa.bI).num)).getD (0:Int).toNat 0=_;rw [show (0:Int).toNat=0 from rfl,UU.start];simp only [List.length_cons,List.length_map,hl];omega
 ·exact (h.fail 5).more (by omega)
theorem dC.yx {T:bl} {s:St} (h:dC T s) {nd:Nd} (hm:nd.may=true) (hk:nd.kind≠5∧nd.kind≠4∧nd.kind≠2) (ha:∀ a∈nd.args,s.In a) (hr:(s.ns.length:Int) < s.size):dC T (s.add nd):=
 h.add hm hk.1 ha ⟨fun e=>absurd e hk.2.1,fun e=>absurd e hk.2.2⟩ hr
theorem mH (s:St) (nd:Nd):(s.add nd).ns.length=s.ns.length+1:=by simp [St.add]
theorem bH.Al (h:bH n M) (hp:0 < M.aA.length) (hw:0 < M.wait.length) (eE:(M.st.ns.length:Int)+2≤M.st.size) (uB:M.aa.runs=false):bH (n+1) M.Al:=by
 have hG:=h.py hp;have hl:=h.mG _ (F0 hw);have g1:=h.g.yx (nd:=⟨8,0,[]⟩) rfl (by decide) (fun a ha=>by cases ha) (by omega)
 have g2:=g1.yx (nd:=⟨3,0,[M.last,M.st.ns.length]⟩) rfl (by simp) (fun a ha=>by
  simp only [List.mem_cons,List.not_mem_nil,or_false] at ha;rcases ha with rfl | rfl
  ·exact In.add hl _
  ·exact In.new _ _) (by rw [mH];show ((M.st.ns.length+1:Nat):Int) < M.st.size;omega)
 have hs:∀ a,M.st.In a→((M.st.add ⟨8,0,[]⟩).add ⟨3,0,[M.last,M.st.ns.length]⟩).In a:=fun a ha=>In.add (In.add ha _) _
 have C4:((M.st.add ⟨8,0,[]⟩).add ⟨3,0,[M.last,M.st.ns.length]⟩).In ((M.st.ns.length:Int)+1):=by
  have:=In.new (M.st.add ⟨8,0,[]⟩) ⟨3,0,[M.last,M.st.ns.length]⟩;rw [mH] at this
  simpa using this
 have k:=h.pz (f':={ M.aa with bI:=(M.st.ns.length:Int)+1,spine:=[]}) g2 hs ⟨fun a ha=>(by cases ha),fun a ha=>hs a (hG.sk a ha),C4,by have:=h.ln;show (([]:List Int).length:Int)≤_;simp;omega,hG.nI⟩ (fun _ hr=>by rw [show ({ M.aa with bI:=(M.st.ns.length:Int)+1,spine:=[]}:Fr).runs=M.aa.runs from rfl,uB] at hr;cases hr);refine ⟨k.a8,k.g,k.kC,k.lE,?_,?_,k.jw,k.run,k.base,k.bB,k.jd,k.ln,k.lf,?_,k.lt,k.rF⟩
 ·intro a ha;rcases List.mem_or_eq_of_mem_set ha with ha | rfl
  ·exact k.mG a ha
  ·exact C4
 ·intro _;show 0 < (M.wait.set _ _).length;rw [List.length_set];exact hw
 ·show ((M.wait.set _ _).length:Int)≤_;rw [List.length_set];exact k.lw
theorem yy (M:Mc) (k:Int) (ht:(M.room k).1=true):(M.room k).2.aA.length=M.aA.length∧(M.room k).2.wait.length=M.wait.length∧(M.room k).2.ended=M.ended∧(M.room k).2.a8=M.a8∧(M.room k).2.input=M.input∧(M.room k).2.steps=M.steps ∧
   ∃ g,(0 < M.aA.length→(M.room k).2.aa=M.aa.eM g):=by
 obtain ⟨g,s,b,e⟩:=agD M k ht;rw [e];refine ⟨by simp [Mc.eM],by simp [Mc.eM],rfl,rfl,rfl,rfl,g,fun hp=>?_⟩;simp only [Mc.aa,Mc.eM,List.length_map];rw [List.getD_eq_getElem?_getD,List.getElem?_map,List.getElem?_eq_getElem (by omega:M.aA.length - 1 < M.aA.length),List.getD_eq_getElem?_getD,List.getElem?_eq_getElem (by omega:M.aA.length - 1 < M.aA.length)];rfl
theorem agL (M:Mc) (k:Int) (ht:(M.room k).1=false):(M.room k).2.ended=5:=by
 unfold Mc.room at ht ⊢
 split at ht
 ·cases ht
 ·rename_i hq;rw [if_neg hq]
  split at ht
  ·rfl
  ·cases ht
def NoRoom (M M':Mc):Prop:=∃ k,0≤k∧(M.room k).1=false∧M'=(M.room k).2
theorem NoRoom.ended {M M':Mc} (h:NoRoom M M'):M'.ended=5:=by
 obtain ⟨k,_,hf,rfl⟩:=h;exact agL M k hf
theorem bH.nw (h:bH n M) (hp:0 < M.aA.length) (he:M.ended=0) (uB:M.aa.runs=false):NoRoom M M.nw∨bH (n+1) M.nw:=by
 unfold Mc.nw
 split
 ·exact .inr (h.qi.more (by omega))
 split
 ·exact .inr ((h.fail 5).more (by omega))
 split
 ·rename_i ht;obtain ⟨k1,k2⟩:=h.room (by omega) ht;obtain ⟨e1,e2,e3,_,_,_,g,e4⟩:=yy M 2 ht;refine .inr (k1.Al (by omega) (by rw [e2];exact h.px he) k2 (by rw [e4 hp];exact uB))
 ·rename_i ht;exact .inl ⟨2,by omega,by simpa using ht,rfl⟩
theorem bH.UW (h:bH n M) {s':St} (hg:dC M.a8 s') (hs:∀ a,M.st.In a→s'.In a):bH n { M with st:=s'}:=
 ⟨h.a8,hg,fun a ha=>hs a (h.kC a ha),h.lE,fun a ha=>hs a (h.mG a ha),h.px,fun f hf=>(h.jw f hf).aB hs (by omega),h.run,h.base,h.bB,h.jd,h.ln,h.lf,h.lw,h.lt,h.rF⟩
theorem UX {s:St} {nd:Nd} {p:Nat} (hp:p < s.ns.length):ai (s.add nd).ns p=ai s.ns p:=UF hp
theorem bH.Cy (h:bH n M) (hp:0 < M.aA.length) (h8:(M.st.nd M.aa.bI).kind=8) {k:Int} (hk:0≤k∧k < M.input.length) (eE:(M.st.ns.length:Int)+2≤M.st.size):bH n (M.Cy k):=by
 have hG:=h.py hp;have Ed:=hG.sd;have iu:isNum (M.input.getD k.toNat 0):=h.jd _ (uz (by omega));have m1:(⟨1,M.input.getD k.toNat 0,[]⟩:Nd).may=true:=FT iu;have m2:(⟨8,k+1,[]⟩:Nd).may=true:=by simp [Nd.may,gP];omega
 have g1:=h.g.yx (nd:=⟨1,M.input.getD k.toNat 0,[]⟩) m1 (by simp) (fun a ha=>by cases ha) (by omega);have g2:=g1.yx (nd:=⟨8,k+1,[]⟩) m2 (by simp) (fun a ha=>by cases ha) (by rw [mH];show ((M.st.ns.length+1:Nat):Int) < M.st.size;omega);have jW:=h.g.ov Ed;have e1:ai ((M.st.add ⟨1,M.input.getD k.toNat 0,[]⟩).add ⟨8,k+1,[]⟩).ns (M.st.ov M.aa.bI)=M.st.nd M.aa.bI:=by
  rw [UX (by rw [mH];omega),UX jW];rfl
 have yz:=h.a8.sn;refine h.UW (g2.set (by rw [mH,mH];omega) (by rw [e1,h8];decide) rfl (by simp) (fun a ha=>?_) ⟨(fun e=>by cases e),fun _=>by show (4:Int) < _;omega⟩) (fun a ha=>In.set (In.add (In.add ha _) _) _ _);simp only [List.mem_cons,List.not_mem_nil,or_false] at ha;rcases ha with rfl | rfl
 ·exact In.add (In.new _ _) _
 ·have:=In.new (M.st.add ⟨1,M.input.getD k.toNat 0,[]⟩) ⟨8,k+1,[]⟩;rw [mH] at this
  simpa using this
theorem agM {ns ms:List Nd} {rs:List Int} {g:Int→Int} (h:Alike ns rs ms (rs.map g)) {a:Int} (ha:a∈rs) :
   (ai ms (over ms (g a).toNat)).kind=(ai ns (over ns a.toNat)).kind∧(ai ms (over ms (g a).toNat)).num=(ai ns (over ns a.toNat)).num∧(ai ms (over ms (g a).toNat)).args.length=(ai ns (over ns a.toNat)).args.length:=by
 obtain ⟨R,h1,h2,h3⟩:=h;obtain ⟨i,hi,rfl⟩:=List.getElem_of_mem ha;have:=h3 i rs[i] (g rs[i]) (List.getElem?_eq_getElem hi) (by rw [List.getElem?_map,List.getElem?_eq_getElem hi];rfl);obtain ⟨e1,e2,e3⟩:=h1.nd _ _ this;exact ⟨e1.symm,e2.symm,e3.symm⟩
theorem UY {T:bl} {s:St} (h:dC T s) {rs:List Int} (hr:∀ a∈rs,s.In a):Alike s.ns rs s.ns rs:=alike_refl h.st.wf (nG hr)
theorem C5 {T:bl} {s:St} (h:dC T s) {fr:Nat} (bC:fr≤s.ns.length) {rs:List Int} (hr:∀ a∈rs,s.In a):Alike s.ns rs (ch s.ns fr rs) (rs.map (dD s.ns fr (bN s.ns fr rs))):=agp h.st.wf bC (nG hr)
theorem aog {T:bl} {s:St} (h:dC T s) {roots:List Int} (hr:∀ a∈roots,s.In a):Alike s.ns roots (mB s roots).2.ns (roots.map (sG s roots)):=by
 obtain ⟨kd,sz,ns⟩:=s;have k:=C5 h (fr:=0) (Nat.zero_le _) hr;cases kd with
 | hp t=>
  simp only [mB,sG,(uw ns roots).1,← ql,← sL];exact k
 | gn y o t=>exact k
 | ref=>
  simp only [mB,sG,(uw ns roots).1,← ql,← sL];exact k
theorem agN {T:bl} {s:St} (h:dC T s) {roots:List Int} (hr:∀ a∈roots,s.In a) {k:Int} (hk:0≤k) {l:List Int} (hl:(dX s k roots).1=some l):Alike s.ns roots (dX s k roots).2.ns (roots.map (nu s k roots)):=by
 have bQ:bK s.ns.length roots=true:=nG hr;obtain ⟨kd,sz,ns⟩:=s;have k0:=C5 h (fr:=0) (Nat.zero_le _) hr;have UZ:=UY h hr;cases kd with
 | hp t=>
  simp only [dX,nu,iY] at hl ⊢;simp only at bQ;rw [if_neg (by omega),if_neg (by simp [bQ])] at hl ⊢
  split at hl
  ·rename_i hh;rw [if_pos hh,if_pos hh,List.map_id];exact UZ
  ·rename_i hh;rw [if_neg hh,if_neg hh]
   split at hl
   ·cases hl
   ·rename_i cE;rw [if_neg cE];simp only [(uw ns roots).1,← ql,← sL];exact k0
 | gn y o t=>
  have ky:=h.st.kd;have bC:o≤ns.length:=ky.1;simp only [dX,nu,iL] at hl ⊢;simp only at bQ;rw [if_neg (by omega),if_neg (by simp [bQ])] at hl ⊢
  split at hl
  ·rename_i hh;rw [if_pos hh,if_pos hh,List.map_id];exact UZ
  ·rename_i hh;rw [if_neg hh,if_neg hh];have h1:=h.small (s:=⟨.gn y o t,sz,ns⟩) (fr:=o) bC (roots:=roots) hr (kd:=.gn y (ch ns o roots).length (IntKind.i64.wrap (t+1))) ⟨Nat.le_refl _,ky.2⟩;have a1:=C5 h (fr:=o) bC hr
   split at hl
   ·rename_i cE;rw [if_pos cE,if_pos cE];have a2:=C5 (s:=⟨.gn y (ch ns o roots).length (IntKind.i64.wrap (t+1)),sz,ch ns o roots⟩) h1.1 (fr:=0) (Nat.zero_le _) (rs:=eR ns o roots)
     (fun a ha=>by obtain ⟨c,hc,rfl⟩:=List.mem_map.1 ha;exact h1.2 c hc)
    have e:roots.map (fun p=>dD (ch ns o roots) 0 (bN (ch ns o roots) 0 (eR ns o roots)) (dD ns o (bN ns o roots) p))=(eR ns o roots).map (dD (ch ns o roots) 0 (bN (ch ns o roots) 0 (eR ns o roots))):=by
     simp [eR]
    rw [e];unfold rz at hl ⊢
    split at hl
    ·cases hl
    ·rename_i qn;rw [if_neg qn];exact agk a1 a2
   ·rename_i cE;rw [if_neg cE,if_neg cE];exact a1
 | ref=>
  simp only [dX,nu] at hl ⊢
  split at hl
  ·cases hl
  ·rename_i hh;rw [if_neg hh];simp only [(uw ns roots).1,← ql,← sL];exact k0
theorem bH.agO (h:bH n M) {k:Int} (hk:0≤k) (ht:(M.room k).1=true):∃ g s b,(M.room k).2 = { M.eM g with st:=s,base:=b}∧Alike M.st.ns M.roots s.ns (M.roots.map g)∧s.size=M.st.size∧s.kd.ok s.ns.length:=by
 have k1:=(h.room hk ht).1.g.st.kd;unfold Mc.room at ht ⊢
 split at ht
 ·rename_i hq;rw [if_pos hq];refine ⟨id,M.st,M.base,by rw [UN],?_,rfl,h.g.st.kd⟩;rw [List.map_id];exact UY h.g h.roots
 ·rename_i hq;rw [if_neg hq]
  split at ht
  ·cases ht
  ·rename_i l hl;exact ⟨_,_,_,rfl,agN h.g h.roots hk hl,ym _ _ _,(UO h.g h.roots hk hl).1.st.kd⟩
theorem F9 (hp:0 < M.aA.length):M.aa.bI∈M.roots:=by
 unfold Mc.roots;exact List.mem_append_left _ (List.mem_append_right _ (List.mem_flatMap.2 ⟨M.aa,L8 hp,by simp [Fr.roots]⟩))
theorem agP (g:Int→Int) (hp:0 < M.aA.length):(M.eM g).aa=M.aa.eM g:=by
 simp only [Mc.aa,Mc.eM,List.length_map];rw [List.getD_eq_getElem?_getD,List.getElem?_map,List.getElem?_eq_getElem (by omega:M.aA.length - 1 < M.aA.length),List.getD_eq_getElem?_getD,List.getElem?_eq_getElem (by omega:M.aA.length - 1 < M.aA.length)];rfl
theorem bH.U0 (h:bH n M) (hp:0 < M.aA.length) {k:Int} (hk:0≤k) (ht:(M.room k).1=true):((M.room k).2.st.nd (M.room k).2.aa.bI).kind=(M.st.nd M.aa.bI).kind:=by
 obtain ⟨g,s,b,e,ha,_⟩:=h.agO hk ht;rw [e];have et:({ M.eM g with st:=s,base:=b}:Mc).aa=M.aa.eM g:=agP g hp;rw [et];exact (agM ha (F9 hp)).1
theorem bH.read (h:bH n M) (hp:0 < M.aA.length) (h8:(M.st.nd M.aa.bI).kind=8) :
   NoRoom M (M.read M.aa (M.st.nd M.aa.bI).num)∨bH n (M.read M.aa (M.st.nd M.aa.bI).num):=by
 have hG:=h.py hp;have b9:=h.g.nd hG.sd;have iu:=((sN b9.1).2.2.2.2.1 h8).2;have yz:=h.a8.sn;unfold Mc.read
 split
 ·refine .inr (h.UW (h.g.set (h.g.ov hG.sd) (by show (M.st.nd M.aa.bI).kind≠5;rw [h8];decide) rfl (by simp) (fun a ha=>by cases ha) ⟨(fun e=>by cases e),fun _=>by show (3:Int) < _;omega⟩) (fun a ha=>In.set ha _ _))
 ·rename_i hk
  split
  ·rename_i ht;obtain ⟨k1,k2⟩:=h.room (by omega) ht;obtain ⟨e1,e2,e3,e5,e6,_,g,e4⟩:=yy M 2 ht;exact .inr (k1.Cy (by omega) (by rw [h.U0 hp (by omega) ht];exact h8) (by rw [e6];omega) k2)
  ·rename_i ht;exact .inl ⟨2,by omega,by simpa using ht,rfl⟩
theorem bH.unwind (h:bH n M) (hp:0 < M.aA.length) (he:M.ended=0) (uB:M.aa.runs=false):NoRoom M (M.unwind M.aa)∨bH (n+1) (M.unwind M.aa):=by
 have hG:=h.py hp;have b9:=h.g.nd hG.sd;unfold Mc.unwind
 split
 ·rename_i hk;refine .inr (h.pz (s':=M.st) (f':={ M.aa with spine:=M.aa.spine++[(M.st.ov M.aa.bI:Int)],bI:=(M.st.nd M.aa.bI).args.getD 0 0}) h.g (fun _ h=>h) ⟨?_,hG.sk,(US h.g hG.sd hk).2,?_,hG.nI⟩ (fun _ hr=>by rw [show ({ M.aa with spine:=M.aa.spine++[(M.st.ov M.aa.bI:Int)],bI:=(M.st.nd M.aa.bI).args.getD 0 0}:Fr).runs=M.aa.runs from rfl,uB] at hr;cases hr))
  ·intro a ha;rcases List.mem_append.1 ha with ha | ha
   ·exact hG.sp a ha
   ·obtain rfl:=List.mem_singleton.1 ha;exact h.g.sM hG.sd
  ·have:=hG.wD;show ((M.aa.spine++[_]).length:Int)≤_;simp only [List.length_append,List.length_cons,List.length_nil];omega
 split
 ·rename_i hk
  split
  ·rename_i kf;exact .inr (h.call hp hk kf)
  ·exact h.nw hp he uB
 split
 ·split
  ·exact .inr ((h.fail 5).more (by omega))
  ·exact .inr (h.qi.more (by omega))
 split
 ·rename_i hk;exact (h.read hp hk).imp id (fun h=>h.more (by omega))
 split
 ·exact .inr ((h.fail 5).more (by omega))
 ·exact .inr ((h.fail 4).more (by omega))
theorem bH.runs (h:bH n M) (hp:0 < M.aA.length) (he:M.ended=0) (uB:M.aa.runs=true):NoRoom M M.run∨bH (n+1) M.run:=by
 have hA:nJ n M M.dA:=⟨h,hp,he,uB,rfl⟩;have hc:0≤cellsOf M.dA:=by
  have:=hA.io.FV.c1;unfold cellsOf
  split
  ·omega
  split
  ·rename_i h8;exact this (.inr (.inr (.inr h8)))
  ·omega
 unfold Mc.run
 split
 ·rename_i hh;exact .inl ⟨_,hc,hh.2,rfl⟩
 ·rename_i hh
  split
  ·rename_i gF;have ht:(M.room (cellsOf M.dA)).1=true:=by
    cases hb:(M.room (cellsOf M.dA)).1 with
    | true=>rfl
    | false=>exact absurd ⟨gF,hb⟩ hh
   obtain ⟨k1,k2⟩:=h.room hc ht;obtain ⟨e1,e2,e3,e5,e6,_,g,e4⟩:=yy M (cellsOf M.dA) ht;have e4:=e4 hp;refine .inr (nJ.exec ⟨k1,by omega,by rw [e3];exact he,by rw [e4];exact uB,?_⟩ (fun _=>k2));show _=((M.room (cellsOf M.dA)).2.a8.gl (M.room (cellsOf M.dA)).2.aa.iM).ins (M.room (cellsOf M.dA)).2.aa.at';rw [e4,e5];rfl
  ·rename_i gF;exact .inr (hA.exec (fun h=>absurd h gF))
theorem bH.work (h:bH n M) (he:M.ended=0):NoRoom M M.work∨bH (n+1) M.work:=by
 unfold Mc.work
 split
 ·exact .inr (h.tell he)
 ·rename_i hp
  split
  ·rename_i hr;exact h.runs (by omega) he hr
  ·rename_i hr;exact h.unwind (by omega) he (by simpa using hr)
theorem bH.U1 (h:bH n M) (k:Int):bH n { M with steps:=k}:=⟨h.a8,h.g,h.kC,h.lE,h.mG,h.px,h.jw,h.run,h.base,h.bB,h.jd,h.ln,h.lf,h.lw,h.lt,h.rF⟩
theorem bH.step (h:bH n M) (he:M.ended=0):(NoRoom M M.work∧M.step=M.work)∨(bH (n+1) M.work∧bH (n+1) M.step∧M.step=({ M.work with steps:=M.work.steps+1}:Mc).tidy):=by
 unfold Mc.step;rw [if_neg (by simp [he])];rcases h.work he with hw | hw
 ·exact .inl ⟨hw,by rw [if_pos hw.ended]⟩
 ·rw [if_neg hw.rF];exact .inr ⟨hw,(hw.U1 _).tidy,rfl⟩
end
end
section
open Go Go.W
section
variable {α β:Type} {P Q:α→β→Prop} {l l':List α} {m m':List β}
end
section
variable {ρ:Int→Int}
end
section
variable {ns ms:List Nd} {R:Nat→Nat→Prop}
end
end
section
open Go Go.W
section
variable {ρ:Int→Int} {E:List Nat} {R R':Nat→Nat→Prop} {M1 M2:Mc} {s1 s2:St} {n n1 n2:Int}
end
end
section
open Go Go.W
section
variable {ρ:Int→Int} {E:List Nat} {R:Nat→Nat→Prop} {M1 M2:Mc} {n1 n2:Int}
end
end
section
open Go Go.W
theorem Ga {M:Mc} {x:Ins} (e:x.op=1):M.exec x=M.bZ (M.aa.push (M.aa.place x.a)):=by unfold Mc.exec;rw [if_pos e]
theorem Gb {M:Mc} {x:Ins} (e:x.op=2):M.exec x=M.bZ (M.aa.push (M.globals.getD x.a.toNat 0)):=by unfold Mc.exec;rw [if_neg (by omega),if_pos e]
theorem Gc {M:Mc} {x:Ins} (e:x.op=3):M.exec x=M.put ⟨1,x.a,[]⟩ 0:=by unfold Mc.exec;rw [if_neg (by omega),if_neg (by omega),if_pos e]
theorem Gd {M:Mc} {x:Ins} (e:x.op=4):M.exec x=M.bZ (M.aa.pop x.a):=by unfold Mc.exec;rw [if_neg (by omega),if_neg (by omega),if_neg (by omega),if_pos e]
theorem Ge {M:Mc} {x:Ins} (e:x.op=5):M.exec x=M.bZ ((M.aa.pop (x.a+1)).push (M.aa.place 0)):=by unfold Mc.exec;(iterate 4 rw [if_neg (by omega)]);rw [if_pos e]
theorem Gf {M:Mc} {x:Ins} (e:x.op=6):M.exec x=M.put ⟨3,0,[M.aa.place 0,M.aa.place 1]⟩ 2:=by unfold Mc.exec;(iterate 5 rw [if_neg (by omega)]);rw [if_pos e]
theorem Gg {M:Mc} {x:Ins} (e:x.op=7):M.exec x = { M.bZ (M.aa.pop 1) with st:=M.st.set (M.st.ov (M.aa.place x.a)) ⟨5,0,[(M.st.ov (M.aa.place 0):Int)]⟩}:=by unfold Mc.exec;(iterate 6 rw [if_neg (by omega)]);rw [if_pos e]
theorem Gh {M:Mc} {x:Ins} (e:x.op=8):M.exec x=M.alloc x.a.toNat:=by unfold Mc.exec;(iterate 7 rw [if_neg (by omega)]);rw [if_pos e]
theorem Gi {M:Mc} {x:Ins} (e:x.op=9):M.exec x=M.put ⟨2,x.a,(List.range (M.a8.sh x.a).fields.toNat).map fun i:Nat=>M.aa.place (i:Int)⟩ (M.a8.sh x.a).fields:=by unfold Mc.exec;(iterate 8 rw [if_neg (by omega)]);rw [if_pos e]
theorem Gj {M:Mc} {x:Ins} (e:x.op=10):M.exec x=if (M.st.nd (M.aa.place 0)).kind≠2∨(M.st.nd (M.aa.place 0)).num≠x.a∨((M.st.nd (M.aa.place 0)).args.length:Int)≠(M.a8.sh x.a).fields then M.fail 5 else M.bZ { M.aa.pop 1 with stack:=(M.aa.pop 1).stack++(M.st.nd (M.aa.place 0)).args.reverse}:=by unfold Mc.exec;(iterate 9 rw [if_neg (by omega)]);rw [if_pos e]
theorem Gk {M:Mc} {x:Ins} (e:x.op=11):M.exec x=if (M.st.nd (M.aa.place 0)).kind≠1∧(M.st.nd (M.aa.place 0)).kind≠2 then M.enter (M.nv (M.aa.place 0)) else M:=by unfold Mc.exec;(iterate 10 rw [if_neg (by omega)]);rw [if_pos e]
theorem Gm {M:Mc} {x:Ins} (e:x.op=12):M.exec x=M.arith x:=by unfold Mc.exec;(iterate 11 rw [if_neg (by omega)]);rw [if_pos e]
theorem Gn {M:Mc} {x:Ins} (e:x.op=13):M.exec x=M.bZ { M.aa with at':=x.a}:=by unfold Mc.exec;(iterate 12 rw [if_neg (by omega)]);rw [if_pos e]
theorem Gp {M:Mc} {x:Ins} (e:x.op=14):M.exec x=M.ju (decide ((M.st.nd (M.aa.place 0)).kind≠2)) (decide ((M.st.nd (M.aa.place 0)).num≠x.a)) x.b:=by unfold Mc.exec;(iterate 13 rw [if_neg (by omega)]);rw [if_pos e]
theorem Gq {M:Mc} {x:Ins} (e:x.op=15):M.exec x=M.ju (decide ((M.st.nd (M.aa.place 0)).kind≠1)) (decide ((M.st.nd (M.aa.place 0)).num≠x.a)) x.b:=by unfold Mc.exec;(iterate 14 rw [if_neg (by omega)]);rw [if_pos e]
theorem Gr {M:Mc} {x:Ins} (e:x.op=16):M.exec x=M.fail x.a:=by unfold Mc.exec;(iterate 15 rw [if_neg (by omega)]);rw [if_pos e]
theorem agQ {M:Mc} {x:Ins} (e:x.op=17):M.exec x=M.bZ { M.aa with runs:=false,bI:=M.aa.stack.getD 0 0,stack:=[]}:=by unfold Mc.exec;(iterate 16 rw [if_neg (by omega)])
section
variable {ρ:Int→Int} {E:List Nat} {R:Nat→Nat→Prop} {M1 M2:Mc} {n1 n2:Int}
end
end
section
open Go Go.W
def Ax (o:Nat):Nat:=[0,110,113,115,117,119,120,121,123,124,125,126,127,128,129,130,131,133].getD o 0
def yA (o:Nat):Nat:=if o=3∨o=6∨o=9∨o=12 then 114 else if o=8 then 122 else 109
theorem C6 {o:Nat} (h:1≤o∧o≤17):o=1∨o=2∨o=3∨o=4∨o=5∨o=6∨o=7∨o=8∨o=9∨o=10∨o=11∨o=12∨o=13∨o=14∨o=15∨o=16∨o=17:=by omega
theorem agR {o:Nat} (h:1≤o∧o≤17):lC[o]? = some [dY (yA o),dY (Ax o)]:=by
 rcases C6 h with rfl | rfl | rfl | rfl | rfl | rfl | rfl | rfl | rfl | rfl | rfl | rfl | rfl | rfl | rfl | rfl | rfl<;>rfl
section
variable {d:Option Nat} {ty:TypeId} {pos:String} {af:Array Edge} {ρ:Env} {w:World} {K:Value→World→Prop} {y:Operand} {args:Array Operand} {at':Array TypeId}
theorem agS {o:Nat} (h:1≤o∧o≤17) {vs:List Value} (U:(bf y).ev ρ=some (dY (Ax o))) (ha:eP ρ (args.toList.map bf)=some vs) (hk:aD Tryz.prog (Ax o) vs w K) :
   E.wp Tryz.prog w ρ K (.raw ⟨d,.call { callee:=.value y,args:=args,argTypes:=at'},ty,pos,af,none⟩):=by
 rcases C6 h with rfl | rfl | rfl | rfl | rfl | rfl | rfl | rfl | rfl | rfl | rfl | rfl | rfl | rfl | rfl | rfl | rfl <;>
  exact El U ha rfl rfl rfl (by simpa using hk)
theorem agT {o:Nat} (h:1≤o∧o≤17) {vs:List Value} (U:(bf y).ev ρ=some (dY (yA o))) (ha:eP ρ (args.toList.map bf)=some vs) (hk:aD Tryz.prog (yA o) vs w K) :
   E.wp Tryz.prog w ρ K (.raw ⟨d,.call { callee:=.value y,args:=args,argTypes:=at'},ty,pos,af,none⟩):=by
 rcases C6 h with rfl | rfl | rfl | rfl | rfl | rfl | rfl | rfl | rfl | rfl | rfl | rfl | rfl | rfl | rfl | rfl | rfl <;>
  exact El U ha rfl rfl rfl (by simpa using hk)
end
theorem agU (w:World) (v:Value):aD Tryz.prog 114 [v] w fun r w'=>r=I 1∧Mod (fun _=>False) w w':=by
 refine aeL.calls rfl ?_;unfold K0;refine σ ?_;refine b8 rfl ?_;intro w1 aq ag _;refine σ ?_;exact ag
theorem agV (w:World) (v:Value):aD Tryz.prog 109 [v] w fun r w'=>r=I 0∧Mod (fun _=>False) w w':=by
 refine aeH.calls rfl ?_;unfold KW;refine σ ?_;refine b8 rfl ?_;intro w1 aq ag _;refine σ ?_;exact ag
theorem agW (w:World) (x:Ins):aD Tryz.prog 122 [ec x] w fun r w'=>r=I x.a∧Mod (fun _=>False) w w':=by
 refine aeS.calls rfl ?_;unfold K7;refine σ ?_;refine b8 rfl ?_;intro w1 aq ag _;simp only [go_sem,simprocAttr,cell_of aq,Value.cells];exact ag
theorem agX (w:World) {x:Ins} {o:Nat} (ho:x.op=o) (h:1≤o∧o≤17):aD Tryz.prog (yA o) [ec x] w fun r w'=>r=I (cellsOf x)∧Mod (fun _=>False) w w':=by
 unfold yA cellsOf;by_cases h1:o=3∨o=6∨o=9∨o=12
 ·have CO:x.op=3∨x.op=6∨x.op=9∨x.op=12:=by omega
  simp only [if_pos h1,if_pos CO];exact agU w _
 have CO:¬ (x.op=3∨x.op=6∨x.op=9∨x.op=12):=by omega
 simp only [if_neg h1,if_neg CO];by_cases h2:o=8
 ·have qK:x.op=8:=by omega
  simp only [if_pos h2,if_pos qK];exact agW w x
 ·have qK:¬ x.op=8:=by omega
  simp only [if_neg h2,if_neg qK];exact agV w _
section
variable {w:World} {τ:Tag} {m:Nat} {S:SV} {M:Mc} {ks:List Nat} {k:Nat} {x:Ins} {n:Int}
theorem agY (hT:dH w τ m S M.next ks k) (h:nJ n M x) (ie:M.st.kd≠.ref) (eE:0 < cellsOf x→(M.st.ns.length:Int)+cellsOf x≤M.st.size) (hf:M.aA.length≤4294967295) {o:Nat} (ho:x.op=o) :
   aD Tryz.prog (Ax o) [ptr m,ptr k,ec x] w fun _ w'=>∃ dv,aU w τ m S (M.next.exec x) dv w':=by
 have hG:=h.ok.py h.pos;have hn:=h.io.FV;obtain ⟨s1,s2,s3⟩:=h.st;have ht:=UQ h.pos;have cg:M.next.st=M.st:=rfl;have C7:M.next.a8=M.a8:=rfl;have mD:M.next.globals=M.globals:=rfl;have bQ:∀ k,M.next.aa.place k=M.aa.place k:=fun k=>by rw [ht];rfl
 have sl:M.next.aa.stack.length=M.aa.stack.length:=by rw [ht]
 have p0:M.aa.place 0∈M.aa.stack:=uy ⟨by omega,by omega⟩;have nI:=hG.nI;have i0:=hG.sk _ p0;have ct:=h.ok.g.st;have nT:M.next.aA.length=M.aA.length:=(qj h.pos _).2;have lE:=h.ok.lE;have o1:=hn.o1;have o2:=hn.o2;have lift:∀ {M':Mc} {f:Nat} {vs:List Value},aD Tryz.prog f vs w (fun _ w'=>aU w τ m S M' ks w')→aD Tryz.prog f vs w (fun _ w'=>∃ dv,aU w τ m S M' dv w'):=fun hh=>hh.mono (fun _ _ h=>⟨_,h⟩)
 have nr:M.next.ref=false:=by unfold Mc.ref;rw [cg];split<;>simp_all
 have mk0:=sN (h.ok.g.nd i0).1;rcases C6 (o:=o) (by omega) with rfl | rfl | rfl | rfl | rfl | rfl | rfl | rfl | rfl | rfl | rfl | rfl | rfl | rfl | rfl | rfl | rfl
 ·
  simp [az,ho] at s1;have ha:=hn.c1 (.inl ho);rw [Ga ho];exact lift (afH hT (by omega) ⟨ha,by omega⟩)
 ·have ha:=hn.c2 ho;rw [Gb ho];exact lift (afI hT (by omega) ⟨ha.1,by rw [mD];omega⟩)
 ·have ha:=hn.c3 ho;have hc:cellsOf x=1:=by simp [cellsOf,ho]
  rw [Gc ho];exact lift (afM hT ct (by omega) (by have:=eE (by omega);rw [cg];omega) (FT ha))
 ·simp [az,ho] at s1;have ha:=hn.c1 (.inr (.inl ho));rw [Gd ho];exact lift (afJ hT (by omega) ⟨ha,by omega⟩)
 ·simp [az,ho] at s1;have ha:=hn.c1 (.inr (.inr (.inl ho)));rw [Ge ho];exact lift (afN hT (by omega) ⟨ha,by omega⟩)
 ·simp [az,ho] at s1;have hc:cellsOf x=1:=by simp [cellsOf,ho]
  have p1:M.aa.place 1∈M.aa.stack:=uy ⟨by omega,by omega⟩;rw [Gf ho];refine lift (afO hT ct (by omega) (by have:=eE (by omega);rw [cg];omega) (by omega) (nG (fun a ha=>?_)));rw [bQ,bQ] at ha;simp only [List.mem_cons,List.not_mem_nil,or_false] at ha;rcases ha with rfl | rfl
  ·exact i0
  ·exact hG.sk _ p1
 ·simp [az,ho] at s1;have ha:=hn.c7 ho;have pa:M.aa.place x.a∈M.aa.stack:=uy ⟨by omega,by omega⟩;rw [Gg ho];exact lift (afQ hT ct h.ok.g.ends (by omega) ⟨by omega,by omega⟩ (by rw [bQ];exact hG.sk _ pa) (by rw [bQ];exact i0))
 ·simp [az,ho] at s1;have ha:=hn.c1 (.inr (.inr (.inr ho)));have hc:cellsOf x=x.a:=by simp [cellsOf,ho]
  have hr:(M.st.ns.length:Int)+x.a.toNat≤M.st.size:=by
   by_cases h0:x.a=0
   ·have:=h.ok.g.st.len;rw [h0];simpa using this
   ·have:=eE (by omega);omega
  rw [Gh ho];exact lift (afT hT ct (n:=x.a.toNat) (by omega) (by omega) hr (fun i hi=>(h.ok.g.sJ i (by omega)).st))
 ·have fC:=UP h.ok.a8 (hn.c9 (.inl ho));obtain ⟨k',hk⟩:∃ k:Nat,(M.a8.sh x.a).fields=k:=⟨(M.a8.sh x.a).fields.toNat,by omega⟩;have hc:cellsOf x=1:=by simp [cellsOf,ho]
  simp [az,ho,hk] at s1;have ha:=hn.c9 (.inl ho);rw [Gi ho];have e1:(M.next.a8.sh x.a).fields=(k':Int):=hk;rw [e1,Int.toNat_natCast];refine lift (af7 hT ct (n:=k') ha e1 (by omega) (by omega) (by omega) (by have:=eE (by omega);rw [cg];omega) (nG (fun a ha=>?_)));unfold fieldsOf at ha;exact hG.sk _ (by have:=UR (f:=M.next.aa) (k:=k') (by omega) a ha;rw [ht] at this;exact this)
 ·simp [az,ho] at s1;rw [Gj ho];have h8:(M.st.nd (M.aa.place 0)).args.length≤8:=by
   have:=(h.ok.g.nd i0).1;simp only [Nd.may,gP,decide_eq_true_eq] at this;omega
  exact lift (agc hT ct h.ok.g.ends (by omega) (by omega) (by rw [bQ];exact i0) (hn.c9 (.inr (.inl ho))) (by rw [bQ];exact h8))
 ·rw [Gk ho];have e:M.next.nv (M.next.aa.place 0)=M.next.aa.place 0:=by unfold Mc.nv;rw [nr];rfl
  rw [e];exact afX hT ct h.ok.g.ends (by omega) (by omega) (by rw [bQ];exact i0) (by omega)
 ·simp [az,ho] at s1;have hc:cellsOf x=1:=by simp [cellsOf,ho]
  have p1:M.aa.place 1∈M.aa.stack:=uy ⟨by omega,by omega⟩;rw [Gm ho];exact lift (af3 hT ct h.ok.g.ends (by omega) (by omega) (by rw [bQ];exact i0) (by rw [bQ];exact hG.sk _ p1) (by have:=eE (by omega);rw [cg];omega) h.going (hn.c12 ho))
 ·rw [Gn ho];exact lift (afK hT)
 ·rw [Gp ho];exact lift (afV hT ct h.ok.g.ends (by omega) (by omega) (by rw [bQ];exact i0))
 ·rw [Gq ho];exact lift (afW hT ct h.ok.g.ends (by omega) (by omega) (by rw [bQ];exact i0))
 ·rw [Gr ho];exact lift (afL hT)
 ·rw [agQ ho];exact lift (afP hT (by omega))
end
end
section
open Go Go.W
section
variable {ρ:Int→Int} {E:List Nat} {R:Nat→Nat→Prop} {M1 M2:Mc} {n1 n2 n:Int} {M:Mc}
def C8 (M:Mc):Nat:=(bN M.st.ns 0 M.roots).length
end
end
section
open Go Go.W
section
variable {ρ:Int→Int} {E:List Nat} {R:Nat→Nat→Prop} {M1 M2:Mc} {n1 n2 n:Int} {M:Mc}
theorem agZ (h:bH n M):C8 M≤M.st.ns.length:=by
 have:=rm h.g.st.wf (Nat.zero_le _) (nG h.roots:bK M.st.ns.length M.roots=true);exact vN this.1
structure Out (M M':Mc):Prop where
 ended:M'.ended=5
 aA:M'.aA=M.aA
 told:M'.told=M.told
 steps:M'.steps=M.steps
 stuck:M'.stuck=M.stuck
 live:M'.live=C8 M
theorem Ma (ns:List Nd) (rs:List Int):(jl ns rs).length=(bN ns 0 rs).length:=by
 rw [(uw ns rs).1,rp,Nat.zero_add]
theorem ag0 {T:bl} {s:St} {roots:List Int} (hg:dC T s) (hr:∀ a∈roots,s.In a) {k:Int} (hk:0≤k) :
   ((dX s k roots).1=none→k > s.size - (bN s.ns 0 roots).length∧((iH s.ns roots).length=(bN s.ns 0 roots).length)∧(s.kd≠.ref→(dX s k roots).2.ns.length=(bN s.ns 0 roots).length)) ∧
    ((dX s k roots).1≠none→k≤s.size - (bN s.ns 0 roots).length):=by
 have bQ:bK s.ns.length roots=true:=nG hr;have hle:(bN s.ns 0 roots).length≤s.ns.length:=vN (rm hg.st.wf (Nat.zero_le _) bQ).1;obtain ⟨kd,sz,ns⟩:=s;cases kd with
 | hp t=>
  simp only [dX,iY];simp only at bQ hle;rw [if_neg (by omega),if_neg (by simp [bQ])]
  split
  ·rename_i hh;exact ⟨(fun e=>by cases e),fun _=>by omega⟩
  ·rename_i hh;rw [Ma]
   split
   ·rename_i cE;exact ⟨fun _=>⟨cE,by rw [ql],fun _=>Ma _ _⟩,fun e=>absurd rfl e⟩
   ·rename_i cE;exact ⟨(fun e=>by cases e),fun _=>by omega⟩
 | gn y o t=>
  have ky:=hg.st.kd;have bC:o≤ns.length:=ky.1;have hw:WF ns:=hg.st.wf;have h1:=hg.small (s:=⟨.gn y o t,sz,ns⟩) (fr:=o) bC (roots:=roots) hr (kd:=.gn y (ch ns o roots).length (IntKind.i64.wrap (t+1))) ⟨Nat.le_refl _,ky.2⟩;have a1:=C5 hg (fr:=o) bC hr;simp only at bQ hle a1;have o2:bK (ch ns o roots).length (eR ns o roots)=true:=nG (fun a ha=>by obtain ⟨c,hc,rfl⟩:=List.mem_map.1 ha;exact h1.2 c hc);have cnt:(bN ns 0 roots).length=(bN (ch ns o roots) 0 (eR ns o roots)).length:=agt hw h1.1.st.wf bQ o2 a1;have cle:(bN (ch ns o roots) 0 (eR ns o roots)).length≤(ch ns o roots).length:=vN (rm h1.1.st.wf (Nat.zero_le _) o2).1;simp only [dX,iL];rw [if_neg (by omega),if_neg (by simp [bQ])]
  split
  ·rename_i hh;exact ⟨(fun e=>by cases e),fun _=>by omega⟩
  ·rename_i hh
   split
   ·rename_i cE;unfold rz;rw [rp,Nat.zero_add]
    split
    ·rename_i qn;exact ⟨fun _=>⟨by omega,by rw [ql],fun _=>by show (ch _ 0 _).length=_;rw [rp,Nat.zero_add,cnt]⟩,fun e=>absurd rfl e⟩
    ·rename_i qn;exact ⟨(fun e=>by cases e),fun _=>by omega⟩
   ·rename_i cE;exact ⟨(fun e=>by cases e),fun _=>by omega⟩
 | ref=>
  simp only [dX];rw [Ma]
  split
  ·rename_i hh;exact ⟨fun _=>⟨hh,by rw [ql],fun e=>absurd rfl e⟩,fun e=>absurd rfl e⟩
  ·exact ⟨(fun e=>by cases e),fun _=>by omega⟩
theorem ag1 (h:bH n M) {k:Int} (hk:0≤k):((M.room k).1=true→k≤M.st.size - C8 M)∧((M.room k).1=false→k > M.st.size - C8 M∧Out M (M.room k).2):=by
 have hle:=agZ h;obtain ⟨f1,f2⟩:=ag0 h.g h.roots hk;unfold Mc.room
 split
 ·rename_i hq;simp only [Mc.quick,Bool.and_eq_true,decide_eq_true_eq] at hq;have:=hq.1;exact ⟨fun _=>by omega,(fun e=>by cases e)⟩
 ·rename_i hq
  split
  ·rename_i hn;obtain ⟨g1,g2,g3⟩:=f1 hn;refine ⟨(fun e=>by cases e),fun _=>⟨g1,⟨rfl,rfl,rfl,rfl,rfl,?_⟩⟩⟩;show (if M.ref then ((iH M.st.ns M.roots).length:Int) else ((dX M.st k M.roots).2.ns.length:Int))=C8 M;have ie:M.ref=false→M.st.kd≠.ref:=by
    intro hb e;unfold Mc.ref at hb;rw [e] at hb;cases hb
   split
   ·rw [g2];rfl
   ·rename_i hr;rw [g3 (ie (by simpa using hr))];rfl
  ·rename_i l hn;exact ⟨fun _=>f2 (by rw [hn];simp),(fun e=>by cases e)⟩
theorem ag2 (M:Mc) (k:Int):(M.room k).2.st.size=M.st.size:=by
 unfold Mc.room
 split
 ·rfl
 ·split
  ·exact ym _ _ _
  ·exact ym _ _ _
end
end
section
open Go Go.W
structure Stat (M M':Mc):Prop where
 a8:M'.a8=M.a8
 size:M'.st.size=M.st.size
 gl:M'.globals.length=M.globals.length
 jd:M'.input=M.input
 every:M'.every=M.every
 bj:M'.bj=M.bj
 bB:M'.bB=M.bB
theorem Stat.refl (M:Mc):Stat M M:=⟨rfl,rfl,rfl,rfl,rfl,rfl,rfl⟩
theorem Stat.trans {M M' wE:Mc} (h:Stat M M') (k:Stat M' wE):Stat M wE:=
 ⟨k.a8.trans h.a8,k.size.trans h.size,k.gl.trans h.gl,k.jd.trans h.jd,k.every.trans h.every,k.bj.trans h.bj,k.bB.trans h.bB⟩
theorem Ay (M:Mc) (k:Int):Stat M (M.room k).2:=by
 refine ⟨?_,ag2 M k,?_,?_,?_,?_,?_⟩
 all_goals unfold Mc.room
 all_goals split
 all_goals first | rfl | (split<;>simp [Mc.after,Mc.eM])
theorem U2 (M:Mc) (x:Ins):Stat M (M.exec x):=by
 have ha:Stat M (M.arith x):=by
  unfold Mc.arith
  split
  ·exact ⟨rfl,rfl,rfl,rfl,rfl,rfl,rfl⟩
  split<;>exact ⟨rfl,rfl,rfl,rfl,rfl,rfl,rfl⟩
 have hj:∀ p q b,Stat M (M.ju p q b):=by
  intro p q b;unfold Mc.ju
  split
  ·exact ⟨rfl,rfl,rfl,rfl,rfl,rfl,rfl⟩
  split<;>exact ⟨rfl,rfl,rfl,rfl,rfl,rfl,rfl⟩
 by_cases e1:x.op=1
 ·rw [Ga e1];exact ⟨rfl,rfl,rfl,rfl,rfl,rfl,rfl⟩
 by_cases e2:x.op=2
 ·rw [Gb e2];exact ⟨rfl,rfl,rfl,rfl,rfl,rfl,rfl⟩
 by_cases e3:x.op=3
 ·rw [Gc e3];exact ⟨rfl,rfl,rfl,rfl,rfl,rfl,rfl⟩
 by_cases e4:x.op=4
 ·rw [Gd e4];exact ⟨rfl,rfl,rfl,rfl,rfl,rfl,rfl⟩
 by_cases e5:x.op=5
 ·rw [Ge e5];exact ⟨rfl,rfl,rfl,rfl,rfl,rfl,rfl⟩
 by_cases e6:x.op=6
 ·rw [Gf e6];exact ⟨rfl,rfl,rfl,rfl,rfl,rfl,rfl⟩
 by_cases e7:x.op=7
 ·rw [Gg e7];exact ⟨rfl,rfl,rfl,rfl,rfl,rfl,rfl⟩
 by_cases e8:x.op=8
 ·rw [Gh e8];exact ⟨rfl,rfl,rfl,rfl,rfl,rfl,rfl⟩
 by_cases e9:x.op=9
 ·rw [Gi e9];exact ⟨rfl,rfl,rfl,rfl,rfl,rfl,rfl⟩
 by_cases wF:x.op=10
 ·rw [Gj wF];split<;>exact ⟨rfl,rfl,rfl,rfl,rfl,rfl,rfl⟩
 by_cases wG:x.op=11
 ·rw [Gk wG];split<;>exact ⟨rfl,rfl,rfl,rfl,rfl,rfl,rfl⟩
 by_cases wH:x.op=12
 ·rw [Gm wH];exact ha
 by_cases wI:x.op=13
 ·rw [Gn wI];exact ⟨rfl,rfl,rfl,rfl,rfl,rfl,rfl⟩
 by_cases wJ:x.op=14
 ·rw [Gp wJ];exact hj _ _ _
 by_cases wK:x.op=15
 ·rw [Gq wK];exact hj _ _ _
 by_cases wL:x.op=16
 ·rw [Gr wL];exact ⟨rfl,rfl,rfl,rfl,rfl,rfl,rfl⟩
 unfold Mc.exec;rw [if_neg e1,if_neg e2,if_neg e3,if_neg e4,if_neg e5,if_neg e6,if_neg e7,if_neg e8,if_neg e9,if_neg wF,if_neg wG,if_neg wH,if_neg wI,if_neg wJ,if_neg wK,if_neg wL];exact ⟨rfl,rfl,rfl,rfl,rfl,rfl,rfl⟩
theorem ag3 (M:Mc):Stat M M.run:=by
 unfold Mc.run
 split
 ·exact Ay _ _
 split
 ·exact (Ay _ _).trans ((show Stat (M.room (cellsOf M.dA)).2 (M.room (cellsOf M.dA)).2.next from ⟨rfl,rfl,rfl,rfl,rfl,rfl,rfl⟩).trans (U2 _ _))
 ·exact (show Stat M M.next from ⟨rfl,rfl,rfl,rfl,rfl,rfl,rfl⟩).trans (U2 _ _)
theorem Mb (M:Mc):Stat M M.work:=by
 have hl:Stat M M.nw:=by
  unfold Mc.nw
  split
  ·exact ⟨rfl,rfl,rfl,rfl,rfl,rfl,rfl⟩
  split
  ·exact ⟨rfl,rfl,rfl,rfl,rfl,rfl,rfl⟩
  split
  ·exact (Ay _ _).trans ⟨rfl,rfl,rfl,rfl,rfl,rfl,rfl⟩
  ·exact Ay _ _
 have hr:∀ f k,Stat M (M.read f k):=by
  intro f k;unfold Mc.read
  split
  ·exact ⟨rfl,rfl,rfl,rfl,rfl,rfl,rfl⟩
  split
  ·exact (Ay _ _).trans ⟨rfl,rfl,rfl,rfl,rfl,rfl,rfl⟩
  ·exact Ay _ _
 unfold Mc.work
 split
 ·unfold Mc.tell
  split<;>exact ⟨rfl,rfl,rfl,rfl,rfl,rfl,rfl⟩
 split
 ·exact ag3 M
 ·unfold Mc.unwind Mc.call
  repeat' split
  all_goals first | exact hl | exact hr _ _ | exact ⟨rfl,rfl,rfl,rfl,rfl,rfl,rfl⟩
theorem Md (s:St) (roots:List Int):(mB s roots).2.size=s.size:=by
 obtain ⟨kd,sz,ns⟩:=s;cases kd<;>rfl
theorem ag4 (M:Mc):Stat M M.tidy:=by
 unfold Mc.tidy
 split
 ·exact ⟨rfl,Md _ _,by simp [Mc.after,Mc.eM],rfl,rfl,rfl,rfl⟩
 ·exact Stat.refl M
theorem U3 (M:Mc):Stat M M.step:=by
 unfold Mc.step
 split
 ·exact Stat.refl M
 split
 ·exact Mb M
 ·exact (Mb M).trans ((show Stat M.work { M.work with steps:=M.work.steps+1} from ⟨rfl,rfl,rfl,rfl,rfl,rfl,rfl⟩).trans (ag4 _))
section
variable {ρ:Int→Int} {E:List Nat} {R:Nat→Nat→Prop} {M1 M2:Mc} {n1 n2 n:Int} {M:Mc}
theorem U4 (h:bH n M) {M':Mc} (hn:NoRoom M M'):Out M M':=by
 obtain ⟨k,hk,hf,rfl⟩:=hn;exact ((ag1 h hk).2 hf).2
def Mc.cC (M:Mc):Nat→Mc
 | 0=>M
 | k+1=>(M.cC k).step
theorem ag5 (M:Mc) (k:Nat):Stat M (M.cC k):=by
 induction k with
 | zero=>exact Stat.refl M
 | succ k ih=>exact ih.trans (U3 _)
end
end
section
open Go Go.W
structure nK (M M':Mc):Prop where
 steps:M'.steps=M.steps
 kd:M.st.kd≠.ref→M'.st.kd≠.ref
theorem nK.trans {M M' wE:Mc} (h:nK M M') (k:nK M' wE):nK M wE:=⟨k.steps.trans h.steps,fun e=>k.kd (h.kd e)⟩
theorem U5 (s:St) (hr:s.kd≠.ref) (n:Int) (roots:List Int):(dX s n roots).2.kd≠.ref:=by
 obtain ⟨kd,sz,ns⟩:=s;cases kd with
 | ref=>exact absurd rfl hr
 | hp t=>intro e;cases e
 | gn y o t=>intro e;cases e
theorem ag6 (s:St) (hr:s.kd≠.ref) (roots:List Int):(mB s roots).2.kd≠.ref:=by
 obtain ⟨kd,sz,ns⟩:=s;cases kd with
 | ref=>exact absurd rfl hr
 | hp t=>intro e;cases e
 | gn y o t=>intro e;cases e
theorem U6 (M:Mc) (hr:M.st.kd≠.ref) (k:Int):(M.room k).2.st.kd≠.ref:=by
 unfold Mc.room
 split
 ·exact hr
 ·split
  ·exact U5 _ hr _ _
  ·exact U5 _ hr _ _
theorem Az (M:Mc) (k:Int):nK M (M.room k).2:=by
 refine ⟨?_,fun h=>U6 M h k⟩;unfold Mc.room
 split
 ·rfl
 ·split<;>rfl
theorem U7 (M:Mc) (x:Ins):nK M (M.exec x):=by
 have ha:nK M (M.arith x):=by
  unfold Mc.arith
  split
  ·exact ⟨rfl,fun h=>h⟩
  split<;>exact ⟨rfl,fun h=>h⟩
 have hj:∀ p q b,nK M (M.ju p q b):=by
  intro p q b;unfold Mc.ju
  split
  ·exact ⟨rfl,fun h=>h⟩
  split<;>exact ⟨rfl,fun h=>h⟩
 by_cases e1:x.op=1
 ·rw [Ga e1];exact ⟨rfl,fun h=>h⟩
 by_cases e2:x.op=2
 ·rw [Gb e2];exact ⟨rfl,fun h=>h⟩
 by_cases e3:x.op=3
 ·rw [Gc e3];exact ⟨rfl,fun h=>h⟩
 by_cases e4:x.op=4
 ·rw [Gd e4];exact ⟨rfl,fun h=>h⟩
 by_cases e5:x.op=5
 ·rw [Ge e5];exact ⟨rfl,fun h=>h⟩
 by_cases e6:x.op=6
 ·rw [Gf e6];exact ⟨rfl,fun h=>h⟩
 by_cases e7:x.op=7
 ·rw [Gg e7];exact ⟨rfl,fun h=>h⟩
 by_cases e8:x.op=8
 ·rw [Gh e8];exact ⟨rfl,fun h=>h⟩
 by_cases e9:x.op=9
 ·rw [Gi e9];exact ⟨rfl,fun h=>h⟩
 by_cases wF:x.op=10
 ·rw [Gj wF];split<;>exact ⟨rfl,fun h=>h⟩
 by_cases wG:x.op=11
 ·rw [Gk wG];split<;>exact ⟨rfl,fun h=>h⟩
 by_cases wH:x.op=12
 ·rw [Gm wH];exact ha
 by_cases wI:x.op=13
 ·rw [Gn wI];exact ⟨rfl,fun h=>h⟩
 by_cases wJ:x.op=14
 ·rw [Gp wJ];exact hj _ _ _
 by_cases wK:x.op=15
 ·rw [Gq wK];exact hj _ _ _
 by_cases wL:x.op=16
 ·rw [Gr wL];exact ⟨rfl,fun h=>h⟩
 unfold Mc.exec;rw [if_neg e1,if_neg e2,if_neg e3,if_neg e4,if_neg e5,if_neg e6,if_neg e7,if_neg e8,if_neg e9,if_neg wF,if_neg wG,if_neg wH,if_neg wI,if_neg wJ,if_neg wK,if_neg wL];exact ⟨rfl,fun h=>h⟩
theorem ag7 (M:Mc):nK M M.run:=by
 unfold Mc.run
 split
 ·exact Az _ _
 split
 ·exact (Az _ _).trans ((show nK (M.room (cellsOf M.dA)).2 (M.room (cellsOf M.dA)).2.next from ⟨rfl,fun h=>h⟩).trans (U7 _ _))
 ·exact (show nK M M.next from ⟨rfl,fun h=>h⟩).trans (U7 _ _)
theorem C9 (M:Mc):nK M M.work:=by
 have hl:nK M M.nw:=by
  unfold Mc.nw
  split
  ·exact ⟨rfl,fun h=>h⟩
  split
  ·exact ⟨rfl,fun h=>h⟩
  split
  ·exact (Az _ _).trans ⟨rfl,fun h=>h⟩
  ·exact Az _ _
 have hr:∀ f k,nK M (M.read f k):=by
  intro f k;unfold Mc.read
  split
  ·exact ⟨rfl,fun h=>h⟩
  split
  ·exact (Az _ _).trans ⟨rfl,fun h=>h⟩
  ·exact Az _ _
 unfold Mc.work
 split
 ·unfold Mc.tell
  split<;>exact ⟨rfl,fun h=>h⟩
 split
 ·exact ag7 M
 ·unfold Mc.unwind Mc.call
  repeat' split
  all_goals first | exact hl | exact hr _ _ | exact ⟨rfl,fun h=>h⟩
theorem U8 (M:Mc):nK M M.tidy:=by
 unfold Mc.tidy
 split
 ·exact ⟨rfl,fun h=>ag6 _ h _⟩
 ·exact ⟨rfl,fun h=>h⟩
theorem U9 {M:Mc} (h:M.st.kd≠.ref):M.step.st.kd≠.ref:=by
 unfold Mc.step
 split
 ·exact h
 split
 ·exact (C9 M).kd h
 ·exact (U8 _).kd (show ({ M.work with steps:=M.work.steps+1}:Mc).st.kd≠.ref from (C9 M).kd h)
theorem U' (M:Mc):M.step.steps=if M.ended=0∧M.work.ended≠5 then M.steps+1 else M.steps:=by
 unfold Mc.step
 split
 ·rename_i h;rw [if_neg (fun e=>h e.1)]
 ·rename_i h;have h:M.ended=0:=Classical.byContradiction h
  split
  ·rename_i h5;rw [if_neg (fun e=>e.2 h5)];exact (C9 M).steps
  ·rename_i h5;rw [if_pos ⟨h,h5⟩,(U8 _).steps];show M.work.steps+1=_;rw [(C9 M).steps]
theorem ag8 {n:Int} {s:St}:∀ (l:List Fr),(∀ f∈l,qm s n f)→((l.flatMap Fr.roots).length:Int)≤l.length*(n+8001):=by
 intro l
 induction l with
 | nil=>intro _;simp
 | cons f l ih=>
  intro h;have h1:=ih (fun f hf=>h f (by simp [hf]));have h2:=h f (by simp);have e:(f.roots.length:Int)≤n+8001:=by
   have:=h2.wD;have:=h2.nI;simp only [Fr.roots,List.length_append,List.length_cons,List.length_nil];omega
  simp only [List.flatMap_cons,List.length_append,List.length_cons];have e2:((l.length+1:Nat):Int)*(n+8001)=(l.length:Int)*(n+8001)+(n+8001):=by
   rw [show ((l.length+1:Nat):Int)=(l.length:Int)+1 by omega,Int.add_mul,Int.one_mul]
  omega
theorem bH.Va {n:Int} {M:Mc} (h:bH n M) (hn:n≤1000000):M.roots.length≤17592186044416:=by
 have h1:=ag8 M.aA h.jw;have h2:=h.lf;have h3:=h.lw;have h4:=h.lE;have h5:=h.a8.gn;have h6:(M.aA.length:Int)*(n+8001)≤1000000*1008001:=Int.mul_le_mul (by omega) (by omega) (by have:=h.ln;omega) (by omega);unfold Mc.roots;simp only [List.length_append];omega
end
section
open Go Go.W
theorem uC {w:World} {a:Addr} {v0 v1:Value} (h0:w.cell? (a.add 0)=some v0) (h1:w.cell? (a.add 1)=some v1):cB w 2 (.pointer (some a))=some (.agg #[v0,v1]):=by
 simp [cB,jC,h0,h1]
theorem Gs {w:World} {a:Addr} {v0 v1 v2:Value} (h0:w.cell? (a.add 0)=some v0) (h1:w.cell? (a.add 1)=some v1) (h2:w.cell? (a.add 2)=some v2):cB w 3 (.pointer (some a))=some (.agg #[v0,v1,v2]):=by
 simp [cB,jC,h0,h1,h2]
theorem yB {w:World} {bt bp:Value} {T:bl} {B:Nat→Prop} (h:dE w bt bp T B) {i:Nat} (hi:i < T.globals.length) :
   ∃ ad c cv,bp = .slice (some ad) T.globals.length c∧B ad.block∧w.cell? ((ad.add (i*3)).add 0)=some (.string (T.gl i).name)∧w.cell? ((ad.add (i*3)).add 1)=some (I (T.gl i).arity)∧w.cell? ((ad.add (i*3)).add 2)=some cv∧dB w cv 3 ((T.gl i).code.map jb) B:=by
 obtain ⟨h1,ic,h2,h3,h4⟩:=h;have hl:(List.zipWith (fun (g:Gl) (v:Value)=>[.string g.name,I g.arity,v]) T.globals ic).length=T.globals.length:=by simp [h2]
 have hic:i < ic.length:=by omega
 have hB:=h3;obtain ⟨ad,c,rfl,k1,k2⟩:=CQ h3 (i:=i) (by omega);obtain ⟨_,_,e,hB,_⟩:=hB;cases e;have e:T.gl (i:Int)=T.globals[i]:=by unfold bl.gl;rw [Int.toNat_natCast,List.getD_eq_getElem?_getD,List.getElem?_eq_getElem hi];rfl
 refine ⟨ad,c,ic[i],by rw [hl],hB (by omega) _ rfl,?_,?_,?_,?_⟩
 ·have:=k2 0 (by rw [k1];omega);rw [this,e];simp
 ·have:=k2 1 (by rw [k1];omega);rw [this,e];simp
 ·have:=k2 2 (by rw [k1];omega);rw [this];simp
 ·rw [e];exact h4 i _ _ (List.getElem?_eq_getElem hi) (List.getElem?_eq_getElem hic)
theorem yC {w:World} {cv:Value} {g:Gl} {B:Nat→Prop} (h:dB w cv 3 (g.code.map jb) B) {i:Nat} (hi:i < g.code.length) :
   ∃ ad c,cv = .slice (some ad) g.code.length c∧B ad.block∧cB w 3 (.pointer (some (ad.add (i*3))))=some (ec (g.ins i)):=by
 have hB:=h;obtain ⟨ad,c,rfl,k1,k2⟩:=CQ h (i:=i) (by simpa using hi);obtain ⟨_,_,e,hB,_⟩:=hB;cases e;have e:g.ins (i:Int)=g.code[i]:=by unfold Gl.ins;rw [Int.toNat_natCast,List.getD_eq_getElem?_getD,List.getElem?_eq_getElem hi];rfl
 refine ⟨ad,c,by simp,hB (by simp;omega) _ rfl,?_⟩;rw [e];refine Gs ?_ ?_ ?_
 ·rw [k2 0 (by rw [k1];omega)];simp [jb]
 ·rw [k2 1 (by rw [k1];omega)];simp [jb]
 ·rw [k2 2 (by rw [k1];omega)];simp [jb]
theorem ag9 {w:World} {v:Value} {B:Nat→Prop} (h:dB w v 2 lC B) {o:Nat} (ho:1≤o∧o≤17):∃ ad c,v = .slice (some ad) 18 c∧B ad.block∧cB w 2 (.pointer (some (ad.add (o*2))))=some (.agg #[dY (yA o),dY (Ax o)]):=by
 have hB:=h;have hl:o < lC.length:=by show o < 18;omega
 obtain ⟨ad,c,rfl,k1,k2⟩:=CQ h hl;obtain ⟨_,_,e,hB,_⟩:=hB;cases e;have e:=agR ho;rw [List.getElem?_eq_getElem hl] at e;have e:lC[o]=[dY (yA o),dY (Ax o)]:=by simpa using e
 refine ⟨ad,c,rfl,hB (by omega) _ rfl,uC ?_ ?_⟩
 ·rw [k2 0 (by rw [k1];omega)];simp [e]
 ·rw [k2 1 (by rw [k1];omega)];simp [e]
section
variable {w:World} {τ:Tag} {m:Nat} {S:SV} {M:Mc} {ks:List Nat} {k:Nat} {x:Ins} {n:Int}
theorem ag' (hT:dH w τ m S M ks k) (h:nJ n M M.dA) (ie:M.st.kd≠.ref) (hf:M.aA.length≤4294967295) (hR:M.roots.length≤17592186044416) :
   aD Tryz.prog 80 [ptr m,ptr k] w fun _ w'=>∃ dv,aU w τ m S M.run dv w':=by
 have hr:=h.run;have hn:=h.io.FV;obtain ⟨g,hg⟩:∃ g:Nat,M.aa.iM=g:=⟨M.aa.iM.toNat,by have:=hr.gl;omega⟩;obtain ⟨i,hi⟩:∃ i:Nat,M.aa.at'=i:=⟨M.aa.at'.toNat,by have:=hr.at';omega⟩;have mD:g < M.a8.globals.length:=by have:=hr.gl;omega
 have eK:i < (M.a8.gl g).code.length:=by have:=hr.at';rw [hg,hi] at this;omega
 have AA:dH w.drew τ m S M ks k:=hT.mod ((Mod.refl (fun _=>False) w).drew) (dP _ _).wx (fun _ _ h=>h.elim);obtain ⟨vG,vF,vW,vT,fg,ff,fw,ft,F,hh⟩:=AA.at';obtain ⟨vs,vp,fs,fp,hF⟩:=AA.fr;have hc:=hh.cells;have sO:=hF.cells;obtain ⟨ad,c,cv,C',B1,_,_,dW,sP⟩:=yB hh.a8 mD;obtain ⟨ad2,c2,rfl,B2,dI⟩:=yC sP eK;have b1:(0:Int)≤g∧(g:Int) < M.a8.globals.length:=by omega
 have b2:(0:Int)≤i∧(i:Int) < (M.a8.gl g).code.length:=by omega
 have U:(M.a8.gl g).ins i=M.dA:=by unfold Mc.dA;rw [hg,hi]
 rw [U] at dI;refine aez.calls rfl ?_;unfold KM;have aha:w.cell? ⟨(ad.add (g*3)).block,(ad.add (g*3)).off+2,none⟩=_:=dW;have bE:w.heap[m]? = _:=hc;have ahb:w.heap[k]? = _:=sO;simp only [go_sem,Nat.reduceAdd,Nat.reduceEqDiff,Nat.reduceLT,Nat.reduceLeDiff,Nat.reduceMul,reduceCtorEq,↓reduceIte,ak,bh,cell_of bE,bg,C',cell_of ahb,cz,hg,hi,b1,b2,aha,dI,ptr];have k0:k < w.drew.heap.size:=lt_of_heap sO;have m0:m < w.drew.heap.size:=lt_of_heap hc;refine de ?_;intro w1 aq ag _;refine ⟨⟨ag.old _ (by rw [rT];exact B2.1) (fun h=>h),ag.old _ k0 (fun h=>h),ag.old _ (by rw [rT];exact B1.1) (fun h=>h),ag.old _ k0 (fun h=>h),ag.old _ m0 (fun h=>h)⟩,?_⟩;refine cu (cs:=[I 0,I 0,I 0]) rfl rfl aq rfl rfl (by simp [Value.oneCell']) ?_;intro w2 an ae dh;have aY:Mod (fun _=>False) w.drew w2:=ag.step ae (fun x U hl=>by subst U;exact absurd hl (Nat.lt_irrefl _));have h2:=AA.later aY.drew;obtain ⟨o,ho⟩:∃ o:Nat,M.dA.op=o:=⟨M.dA.op.toNat,by have:=hn.o1;omega⟩;have Gt:1≤o∧o≤17:=by have:=hn.o1;have:=hn.o2;omega
 obtain ⟨Vb,Vc,Vd,Ve,Vf,Da,Vg,Gu,F2,cE⟩:=h2.at';have cy:w2.heap[m]? = _:=cE.cells;obtain ⟨ad3,c3,hvR,B3,Me⟩:=ag9 cE.rows Gt;have b3:(0:Int)≤o∧(o:Int) < ((18:Nat):Int):=by omega
 have m2:m < w2.heap.size:=lt_of_heap cy;rw [ho] at an;have gG:w2.heap[w.heap.size]? = _:=an;simp only [go_sem,Nat.reduceAdd,Nat.reduceEqDiff,Nat.reduceLT,Nat.reduceLeDiff,Nat.reduceMul,reduceCtorEq,↓reduceIte,ak,bh,cell_of cy,bg,hvR,cell_of gG,ho,b3,Me];refine de ?_;intro w3 aE ab _;have l2:w.heap.size < w2.heap.size:=lt_of_heap gG;refine ⟨⟨ab.old _ (by rw [rT];exact B3.1) (fun h=>h),ab.old _ l2 (fun h=>h),ab.old _ m2 (fun h=>h)⟩,?_⟩;refine cu (cs:=[.nilFunc,.nilFunc]) rfl rfl aE rfl rfl (by simp [Value.oneCell',dY]) ?_;intro w4 aJ aj eA;have dm:Mod (fun _=>False) w2.drew w4:=ab.step aj (fun x U hl=>by subst U;exact absurd hl (Nat.lt_irrefl _));have tS:w4.heap[w.heap.size]? = _:=dm.at (b:=w.heap.size) gG (fun h=>h);have xB:w4.heap[w2.heap.size]? = _:=aJ;simp only [go_sem,Nat.reduceAdd,Nat.reduceEqDiff,Nat.reduceLT,Nat.reduceLeDiff,Nat.reduceMul,reduceCtorEq,↓reduceIte,ak,bh,cell_of xB,dK (cs:=[_,_,_]) (off:=0) (n:=3) tS (by simp)];have ey:Mod (fun _=>False) w.drew w4:=aY.drew.trans dm;have Vh:(Value.agg #[I (o:Int),I M.dA.a,I M.dA.b])=ec M.dA:=by rw [ec,ho]
 refine agT Gt rfl (by rfl) ?_;show aD _ _ [Value.agg #[I (o:Int),I M.dA.a,I M.dA.b]] _ _;rw [Vh];refine (agX w4 ho Gt).mono ?_;rintro _ w5 ⟨rfl,ay⟩;have dt:=ey.trans ay;have h5:=AA.later dt;have p9:=ay.at tS (fun h=>h);have yD:=ay.at xB (fun h=>h);have kY:0≤cellsOf M.dA∧cellsOf M.dA≤4294967296:=by
  have h8:=hn.c1;obtain ⟨s1,s2,_⟩:=h.st;unfold cellsOf
  split
  ·omega
  split
  ·rename_i e8;refine ⟨h8 (.inr (.inr (.inr e8))),?_⟩;simp [az,e8] at s1;omega
  ·omega
 have Db:M.roots≠[]:=fun e=>by
  have:=F9 (M:=M) h.pos;rw [e] at this;cases this
 have nos:∀ b,w.heap.size≤b→bO τ w.drew .no b = .no:=fun b hb=>oh hb
 have Vi:∀ b,w.heap.size≤b→¬ (bO τ w.drew .no b).own:=fun b hb hh=>by rw [nos b hb] at hh;exact hh.1 rfl
 have l4:w.heap.size≤w2.heap.size:=by omega
 refine φ ?_
 refine gz (fun ρ w'=>∃ t:Bool,ρ.get 0=some (ptr m)∧ρ.get 1=some (ptr k)∧ρ.get 4=some (ptr w.heap.size)∧ρ.get 5=some (ptr w2.heap.size)∧ρ.get 44=some (.bool t) ∧
  (t=true→aU w5 (bO τ w.drew .no) m S M.run ks w') ∧
  (t=false→∃ M0,aU w5 (bO τ w.drew .no) m S M0 ks w'∧nJ n M0 M.dA∧(0 < cellsOf M.dA→(M0.st.ns.length:Int)+cellsOf M.dA≤M0.st.size)∧M.run=M0.next.exec M.dA∧M0.st.kd≠.ref∧M0.aA.length=M.aA.length)) ?_ ?_
 ·by_cases gF:cellsOf M.dA > 0
  ·simp only [go_sem,Nat.reduceAdd,Nat.reduceEqDiff,Nat.reduceLT,Nat.reduceLeDiff,Nat.reduceMul,reduceCtorEq,↓reduceIte,decide_eq_true gF];refine δ (by rfl) (LF h5.at' h.ok.g.st ie ⟨by omega,kY.2⟩ h.ok.base h.ok.bB hR Db) ?_;rintro _ w6 ⟨rfl,hop⟩;cases AB:(M.room (cellsOf M.dA)).1 with
   | false=>
    refine φ ?_;refine ⟨true,rfl,fun _=>?_,(fun h=>by cases h)⟩;have e:M.run=(M.room (cellsOf M.dA)).2:=by unfold Mc.run;rw [if_pos ⟨gF,AB⟩]
    rw [e];exact hop
   | true=>
    refine φ ?_;refine ⟨false,rfl,(fun h=>by cases h),fun _=>⟨(M.room (cellsOf M.dA)).2,hop,?_,?_,?_,U6 M ie _,?_⟩⟩
    ·obtain ⟨k1,k2⟩:=h.ok.room kY.1 AB;obtain ⟨e1,e2,e3,e5,e6,_,g,e4⟩:=yy M (cellsOf M.dA) AB;have e4:=e4 h.pos;refine ⟨k1,by rw [e1];exact h.pos,by rw [e3];exact h.going,by rw [e4];exact h.runs,?_⟩;show _=((M.room (cellsOf M.dA)).2.a8.gl (M.room (cellsOf M.dA)).2.aa.iM).ins (M.room (cellsOf M.dA)).2.aa.at';rw [e4,e5];rfl
    ·exact fun _=>(h.ok.room kY.1 AB).2
    ·unfold Mc.run;rw [if_neg (by rw [AB];simp),if_pos gF]
    ·exact (yy M (cellsOf M.dA) AB).1
  ·have hz:decide (cellsOf M.dA > 0)=false:=decide_eq_false gF;simp only [go_sem,Nat.reduceAdd,Nat.reduceEqDiff,Nat.reduceLT,Nat.reduceLeDiff,Nat.reduceMul,reduceCtorEq,↓reduceIte,hz];refine ⟨false,rfl,(fun h=>by cases h),fun _=>⟨M,⟨_,dP _ _,h5.at',Mod.refl _ _⟩,h,fun h=>absurd h gF,?_,ie,rfl⟩⟩;unfold Mc.run;rw [if_neg (fun h=>gF h.1),if_neg gF]
 rintro ρ w6 ⟨t,r0,r1,r4,r5,Ai,ht,jO⟩;have Vj:Mod (fun _=>False) w w5:=Mod.dj dt;cases t with
 | true=>
  simp only [go_sem,Nat.reduceAdd,Nat.reduceEqDiff,Nat.reduceLT,Nat.reduceLeDiff,Nat.reduceMul,reduceCtorEq,↓reduceIte,r0,r1,r4,r5,Ai];exact ⟨ks,aU.boxed Vj (ht rfl)⟩
 | false=>
  obtain ⟨M0,hop,hA,eE,FX,ky,gq⟩:=jO rfl;obtain ⟨LH,j1,j2,h6⟩:=hop.aa gq h.pos hT.hk;have tT:=j2.at p9 (Vi _ (Nat.le_refl _));have pA:=j2.at yD (Vi _ l4);obtain ⟨vs6,vp6,fs6,vL,yE⟩:=h6.fr;have Dc:=yE.cells;have cr:IntKind.i64.wrap (M0.aa.at'+1)=M0.aa.at'+1:=by
   have h1:=hA.run.at';have h2:=(hA.ok.a8.kC _ (FY hA.run.gl)).2.2.2;exact bU (by omega) (by omega)
  simp only [go_sem,Nat.reduceAdd,Nat.reduceEqDiff,Nat.reduceLT,Nat.reduceLeDiff,Nat.reduceMul,reduceCtorEq,↓reduceIte,r0,r1,r4,r5,Ai,cell_of Dc,cz,cr,ptr];refine bL (off:=2) rfl rfl Dc rfl (by simp [cz]) ?_;intro w7 cj aZ mX;have Mg:=h6.eT (f':={ M0.aa with at':=M0.aa.at'+1}) (Fv yE rfl rfl (by simpa [cz] using cj) aZ);obtain ⟨τ7,q1,q2,h7⟩:=Mg.aa (qj hA.pos _).2 hA.pos h6.hk;have k26:w.heap.size≠k:=fun e=>by have:=hF.lt.1;have e2:w.drew.heap.size=k:=e;omega
  have k46:w2.heap.size≠k:=fun e=>by
   have:=hF.lt.1;have:=aY.size;have e2:w.drew.heap.size=w.heap.size:=rfl;omega
  have zW:=aZ.at tT (fun e=>k26 e);have Gv:=aZ.at pA (fun e=>k46 e);simp only [go_sem,Nat.reduceAdd,Nat.reduceEqDiff,Nat.reduceLT,Nat.reduceLeDiff,Nat.reduceMul,reduceCtorEq,↓reduceIte,ak,bh,cell_of Gv,dK (cs:=[_,_,_]) (off:=0) (n:=3) zW (by simp)];refine agS Gt rfl (by rfl) ?_;show aD _ _ [ptr m,ptr k,Value.agg #[I (o:Int),I M.dA.a,I M.dA.b]] _ _;rw [Vh];refine (agY h7 hA ky eE (by omega) ho).mono ?_;rintro _ w8 ⟨dv,ahc⟩;refine φ ?_;rw [FX];exact ⟨dv,aU.boxed Vj (aU.cat j1 j2 (aU.cat q1 q2 ahc))⟩
end
end
end Go.Proofs.YtnjobkbblhaliaaGreatDoor