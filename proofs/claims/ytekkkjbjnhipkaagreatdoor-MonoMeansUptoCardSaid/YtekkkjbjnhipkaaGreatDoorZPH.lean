/- The row and the card of MonoMeans. -/
import Derived.Test.YtekkkjbjnhipkaaGreatDoorZPG
set_option linter.unusedSimpArgs false
set_option linter.unusedVariables false
set_option maxRecDepth 100000
namespace Go.Proofs.YtekkkjbjnhipkaaGreatDoor
section
open Go Go.W Go.ChangeShapes Go.WideShapes Go.ChangeAt Go.RowKit Go.Deep
section
variable {H:Type} {enc:TypeId×Value->H} {P:Program}
theorem aey{α:Type}{μ:α->Nat}{g:Nat->α}{D:Nat->DataW H}:∀(l:List Nat),(∀i∈l,μ (g i)<=Rows.uptoBulk (D i))->dk μ (l.map g)<=Rows.uptoBulkAll (l.map D)
 |[],_=>Nat.zero_le _
 |i::l,h=>by
  rw[List.map_cons,List.map_cons,dk,Rows.uptoBulkAll];have:=h i (by simp);have:=aey (μ:=μ) (g:=g) (D:=D) l (fun j hj=>h j (by simp[hj]));omega
theorem sF{α:Type}{t e:TypeId}{k n b:Nat}(Pr:List Value→α→Prop)(μ:α→Nat){w:World}{base:Nat}{held:Bool}{cs:List Value}{x:DataW H×List MemPlace}
   (ht:P.underlying t=some (.slice e)) (hk:P.cellsOf e=k) (vT:0<k)
   (each:∀n cs y,DataW.trod enc P w base (fun _=>true) held n e cs=some y->Rows.uptoBulk y.1<=b->∃o,Pr cs o/\μ o<=Rows.uptoBulk y.1)
   (h:DataW.trod enc P w base (fun _=>true) held n t cs=some x) (hb:Rows.uptoBulk x.1<=b+1) (az:b<=1048576) :
   ∃(v:Value) (l:List α),cs=[v]/\aX w v k (·<w.heap.size) Pr l/\EE v/\dk μ l+1<=Rows.uptoBulk x.1:=by
 rcases open_slice ht h with⟨rfl,h1⟩ |⟨a,len,cap,m,k',D,Pl,rfl,_,hl,_,hm,hx,G9⟩
 .exact⟨_,[],rfl,eB _ _ _ _,Nat.le_refl _,by have:=J4 x.1;rw[dk];omega⟩
 .simp only [if_true] at hm;subst hm;subst hx;simp only [Rows.uptoBulk] at hb;have hlen:=aeb ((List.range len).map D);rw [List.length_map,List.length_range] at hlen;have all:∀ i,i < len→∃ oc:α×List Value,(∀ j,j < k→w.cell? ((a.add (i*k)).add j)=oc.2[j]?)∧oc.2.length=k∧Pr oc.2 oc.1∧μ oc.1≤Rows.uptoBulk (D i):=by
   intro i hi;obtain⟨cs,h3,h4⟩:=G9 i (by omega);have eO:=aea (List.mem_map.2 ⟨i,List.mem_range.2 hi,rfl⟩:D i∈(List.range len).map D);obtain⟨o,ho⟩:=each _ _ _ h4 (by show Rows.uptoBulk (D i)<=b;omega);obtain⟨_,h6,h5⟩:=World.cells?_some h3;rw[hk]at h5 h6;exact⟨(o,cs),fun j hj=>h5 j hj,h6,ho⟩
  rcases Nat.eq_zero_or_pos len with h0 |h0
  .subst h0;refine⟨_,[],rfl,⟨[],⟨⟨some a,m,rfl,fun h=>absurd h (by simp),fun i hi=>absurd hi (by simp)⟩,by simp⟩,rfl,fun i r a hr=>by simp at hr⟩,hl,by rw[dk];simp only[Rows.uptoBulk];omega⟩
  haveI:Nonempty (α×List Value):=by obtain⟨o,_⟩:=all 0 h0;exact⟨o⟩
  haveI:Inhabited (α×List Value):=Classical.inhabited_of_nonempty this
  obtain⟨f,hf⟩:=choose_lt (α:=α×List Value) (h:=all);have SR:=aey (μ:=μ) (g:=fun i=>(f i).1) (D:=D) (List.range len) (fun i hi=>(hf i (List.mem_range.1 hi)).2.2.2);refine⟨_,(List.range len).map (fun i=>(f i).1),rfl,⟨(List.range len).map (fun i=>(f i).2),⟨⟨some a,m,by simp,fun Lb ad e=>?_,?_⟩,by simp;omega⟩,by simp,?_⟩,hl,by simp only[Rows.uptoBulk];omega⟩
  .cases e;have hc:=(hf 0 h0).1 0 vT;have e1:(f 0).2[0]?=some ((f 0).2[0]'(by rw[(hf 0 h0).2.1];exact vT)):=Ξ _;rw[e1]at hc;simp only[Nat.zero_mul,add_zero']at hc;exact np hc
  .intro i hi;have dZ:i<len:=by simpa using hi
   refine⟨a,rfl,by simpa using(hf i dZ).2.1,fun j hj=>?_⟩;simp only[List.getElem_map,List.getElem_range]at hj ⊢;rw[(hf i dZ).1 j (by rw[(hf i dZ).2.1]at hj;exact hj)];exact Ξ _
  .intro i r o hr ho;rw[List.getElem?_map]at hr ho;rcases Nat.lt_or_ge i len with hi |hi
   .rw[List.getElem?_range hi]at hr ho;cases hr;cases ho;exact(hf i hi).2.2.1
   .rw[List.getElem?_eq_none (by simpa using hi)]at hr;cases hr
variable {w:World} {base:Nat} {held:Bool}
theorem BR{n:Nat}{c:Value}{y:DataW H×List MemPlace}(h:DataW.trod enc Tryz.prog w base (fun _=>true) held n 9 [c]=some y)(hb:Rows.uptoBulk y.1<=1048576):∃s:ByteArray,c=.string s/\Nm s/\s.size+1<=Rows.uptoBulk y.1:=by
 obtain⟨s,e,rfl,_⟩:=DataW.trod_string Tryz.underlying9 h;cases e;have h1:s.data.toList.length=s.size:=Array.length_toList;simp only[Rows.uptoBulk]at hb ⊢;exact⟨s,rfl,by show s.size<_;omega,by omega⟩
theorem VL{n:Nat}{cs:List Value}{y:DataW H×List MemPlace}(h:DataW.trod enc Tryz.prog w base (fun _=>true) held n 9 cs=some y)(hb:Rows.uptoBulk y.1<=1048576):∃s:ByteArray,ft cs s/\pO s<=Rows.uptoBulk y.1:=by
 obtain⟨s,e,_⟩:=DataW.trod_string Tryz.underlying9 h;subst e;obtain⟨s',e,hs⟩:=BR h hb;cases e;exact⟨_,⟨rfl,hs.1⟩,hs.2⟩
theorem OU:∀l:List Ty,dk (fun t=>4*t.cN) l=4*cj l
 |[]=>by rw[dk,cj]
 |t::l=>by rw[dk,cj,OU l];omega
theorem Kg:∀(b:Nat),b<=1048576->∀n cs (y:DataW H×List MemPlace),DataW.trod enc Tryz.prog w base (fun _=>true) held n 52 cs=some y->Rows.uptoBulk y.1<=b->∃t,aR w (·<w.heap.size) cs t/\4*t.cN<=Rows.uptoBulk y.1
 |0,_,n,cs,y,_,hb=>absurd (J4 y.1) (by omega)
 |b+1,fN,n,cs,y,h,hb=>by
  obtain⟨xs,m,rfl,rfl,hl,rJ,hf⟩:=DataW.trod_struct Tryz.underlying52 h;rw[Tryz.Gk]at hl
  match cs,hl,xs,rJ with
  |[c0,c1,c2],_,[x0,x1,x2],_=>
  have f0:=hf 0 _ rfl;have f1:=hf 1 _ rfl;have f2:=hf 2 _ rfl;simp only[Tryz.OO,Tryz.yB,Tryz.Vu,List.drop_zero,List.drop_succ_cons,List.take_succ_cons,List.take_zero,List.getElem?_cons_zero,List.getElem?_cons_succ]at f0 f1 f2;simp only[Rows.uptoBulk,Rows.uptoBulkAll,List.map_cons,List.map_nil]at hb ⊢;obtain⟨k,rfl⟩:=Gl f0;obtain⟨s,rfl,hs,cw⟩:=BR f1 (by omega);obtain⟨v,l,e,hv,_,SR⟩:=sF (b:=b) (fun cs t=>aR w (·<w.heap.size) cs t) (fun t=>4*t.cN) Tryz.underlying47 Tryz.Gk (by decide) (fun n cs y h1 h2=>Kg b (by omega) n cs y h1 h2) f2 (by omega) (by omega);cases e;rw[OU]at SR;obtain⟨rows,q1,q2,q3⟩:=hv;have:=J4 x0.1;exact⟨.mk k s l,.mk q1 q2 q3,by rw[Ty.cN];omega⟩
theorem ao9{b:Nat}(fN:b≤1048576)(ih:∀ n cs (y:DataW H×List MemPlace),DataW.trod enc Tryz.prog w base (fun _=>true) held n 57 cs=some y→Rows.uptoBulk y.1≤b→∃ e,ci w (· < w.heap.size) cs e∧e.fD≤Rows.uptoBulk y.1)(n:Nat)(cs:List Value)(y:DataW H×List MemPlace)
   (h:DataW.trod enc Tryz.prog w base (fun _=>true) held n 108 cs=some y) (hb:Rows.uptoBulk y.1<=b):∃x,eh w (·<w.heap.size) cs x/\rI x<=Rows.uptoBulk y.1:=by
 obtain⟨xs,m,rfl,rfl,hl,rJ,hf⟩:=DataW.trod_struct Tryz.underlying108 h;rw[Tryz.ad6]at hl
 match cs,hl,xs,rJ with
 |[c0,c1,c2,c3,c4,c5,c6,c7,c8,c9,AQ],_,[x0,x1,x2],_=>
 have f0:=hf 0 _ rfl;have f1:=hf 1 _ rfl;have f2:=hf 2 _ rfl;simp only[Tryz.yB,Tryz.Gk,Tryz.J3,List.drop_zero,List.drop_succ_cons,List.take_succ_cons,List.take_zero,List.getElem?_cons_zero,List.getElem?_cons_succ]at f0 f1 f2;simp only[Rows.uptoBulk,Rows.uptoBulkAll,List.map_cons,List.map_nil]at hb ⊢;obtain⟨s,rfl,hs⟩:=BR f0 (by omega);obtain⟨t,ht,rM⟩:=Kg b fN _ _ _ f1 (by omega);obtain⟨e,he,K4⟩:=ih _ _ _ f2 (by omega);exact⟨.mk s t e,⟨_,_,rfl,ht,he,hs.1⟩,by rw[VG];simp only[Bd.name,Bd.type,Bd.value];omega⟩
theorem ao'{b:Nat}(fN:b≤1048576)(ih:∀ n cs (y:DataW H×List MemPlace),DataW.trod enc Tryz.prog w base (fun _=>true) held n 57 cs=some y→Rows.uptoBulk y.1≤b→∃ e,ci w (· < w.heap.size) cs e∧e.fD≤Rows.uptoBulk y.1)(n:Nat)(cs:List Value)(y:DataW H×List MemPlace)
   (h:DataW.trod enc Tryz.prog w base (fun _=>true) held n 103 cs=some y) (hb:Rows.uptoBulk y.1<=b):∃x,jc w (·<w.heap.size) cs x/\sE x<=Rows.uptoBulk y.1:=by
 obtain⟨xs,m,rfl,rfl,hl,rJ,hf⟩:=DataW.trod_struct Tryz.underlying103 h;rw[Tryz.ad8]at hl
 match cs,hl,xs,rJ with
 |[c0,c1,c2,c3,c4,c5,c6,c7,c8,c9,AQ],_,[x0,x1,x2,x3,x4],_=>
 have f0:=hf 0 _ rfl;have f1:=hf 1 _ rfl;have f2:=hf 2 _ rfl;have f3:=hf 3 _ rfl;have f4:=hf 4 _ rfl;simp only[Tryz.OO,Tryz.yB,Tryz.Vs,Tryz.J3,List.drop_zero,List.drop_succ_cons,List.take_succ_cons,List.take_zero,List.getElem?_cons_zero,List.getElem?_cons_succ]at f0 f1 f2 f3 f4;simp only[Rows.uptoBulk,Rows.uptoBulkAll,List.map_cons,List.map_nil]at hb ⊢;obtain⟨k,rfl⟩:=Gl f0;obtain⟨s,rfl,hs⟩:=BR f1 (by omega);obtain⟨m',rfl⟩:=Gl f2;obtain⟨v,l,e,hv,_,hl⟩:=sF (b:=b) ft pO Tryz.underlying42 Tryz.yB (by decide) (fun n cs y h1 h2=>VL h1 (by omega)) f3 (by omega) (by omega);cases e;obtain⟨e,he,K4⟩:=ih _ _ _ f4 (by omega);exact⟨.mk k s m' l e,⟨_,_,rfl,hv,he⟩,by rw[VH];simp only[Al.vars,Al.body];omega⟩
theorem aez:∀(b:Nat),b<=1048576->∀n cs (y:DataW H×List MemPlace),DataW.trod enc Tryz.prog w base (fun _=>true) held n 57 cs=some y->Rows.uptoBulk y.1<=b->∃e,ci w (·<w.heap.size) cs e/\e.fD<=Rows.uptoBulk y.1
 |0,_,n,cs,y,_,hb=>absurd (J4 y.1) (by omega)
 |b+1,fN,n,cs,y,h,hb=>by
  have ih:=aez b (by omega);obtain⟨xs,m,rfl,rfl,hl,rJ,hf⟩:=DataW.trod_struct Tryz.underlying57 h;rw[Tryz.J3]at hl
  match cs,hl,xs,rJ with
  |[c0,c1,c2,c3,c4,c5,c6],_,[x0,x1,x2,x3,x4,x5,x6],_=>
  have f0:=hf 0 _ rfl;have f1:=hf 1 _ rfl;have f2:=hf 2 _ rfl;have f3:=hf 3 _ rfl;have f4:=hf 4 _ rfl;have f5:=hf 5 _ rfl;have f6:=hf 6 _ rfl;simp only[Tryz.OO,Tryz.yB,Tryz.Vu,Tryz.aom,Tryz.aon,Tryz.aoo,List.drop_zero,List.drop_succ_cons,List.take_succ_cons,List.take_zero,List.getElem?_cons_zero,List.getElem?_cons_succ]at f0 f1 f2 f3 f4 f5 f6;simp only[Rows.uptoBulk,Rows.uptoBulkAll,List.map_cons,List.map_nil]at hb ⊢;obtain⟨k,rfl⟩:=Gl f0;obtain⟨s,rfl,_,hs⟩:=BR f1 (by omega);obtain⟨m',rfl⟩:=Gl f2;obtain⟨v3,l3,e,CY,_,s3⟩:=sF (b:=b) (fun cs t=>aR w (·<w.heap.size) cs t) (fun t=>4*t.cN) Tryz.underlying47 Tryz.Gk (by decide) (fun n cs y h1 h2=>Kg b (by omega) n cs y h1 h2) f3 (by omega) (by omega);cases e;obtain⟨v4,l4,e,SX,_,s4⟩:=sF (b:=b) (fun cs t=>ci w (·<w.heap.size) cs t) Ex.fD Tryz.underlying53 Tryz.J3 (by decide) ih f4 (by omega) (by omega);cases e;obtain⟨v5,l5,e,Ui,_,s5⟩:=sF (b:=b) (fun cs t=>eh w (·<w.heap.size) cs t) rI Tryz.underlying54 Tryz.ad6 (by decide) (ao9 (by omega) ih) f5 (by omega) (by omega);cases e;obtain⟨v6,l6,e,hv6,lY,s6⟩:=sF (b:=b) (fun cs t=>jc w (·<w.heap.size) cs t) sE Tryz.underlying55 Tryz.ad8 (by decide) (ao' (by omega) ih) f6 (by omega) (by omega);cases e;rw[OU]at s3;exact⟨.mk k s m' l3 l4 l5 l6,BK CY SX Ui hv6 lY,by rw[Ex.Kd];simp only[Ex.name,Ex.types,Ex.args,Ex.binds,Ex.alts];omega⟩
theorem apa{b:Nat}(fN:b≤1048576)(n:Nat)(cs:List Value)(y:DataW H×List MemPlace)
   (h:DataW.trod enc Tryz.prog w base (fun _=>true) held n 49 cs=some y) (hb:Rows.uptoBulk y.1<=b):∃x,fj w (·<w.heap.size) cs x/\Ar x<=Rows.uptoBulk y.1:=by
 obtain⟨xs,m,rfl,rfl,hl,rJ,hf⟩:=DataW.trod_struct Tryz.underlying49 h;rw[Tryz.ad0]at hl
 match cs,hl,xs,rJ with
 |[c0,c1],_,[x0,x1],_=>
 have f0:=hf 0 _ rfl;have f1:=hf 1 _ rfl;simp only[Tryz.yB,Tryz.Vu,List.drop_zero,List.drop_succ_cons,List.take_succ_cons,List.take_zero,List.getElem?_cons_zero,List.getElem?_cons_succ]at f0 f1;simp only[Rows.uptoBulk,Rows.uptoBulkAll,List.map_cons,List.map_nil]at hb ⊢;obtain⟨s,rfl,hs⟩:=BR f0 (by omega);obtain⟨v,l,e,hv,_,s3⟩:=sF (b:=b) (fun cs t=>aR w (·<w.heap.size) cs t) (fun t=>4*t.cN) Tryz.underlying47 Tryz.Gk (by decide) (fun n cs y h1 h2=>Kg b (by omega) n cs y h1 h2) f1 (by omega) (by omega);cases e;rw[OU]at s3;exact⟨⟨s,l⟩,⟨_,rfl,hv,hs.1⟩,by show 1+2*cj l<=_;omega⟩
theorem apb{b:Nat}(fN:b≤1048576)(n:Nat)(cs:List Value)(y:DataW H×List MemPlace)
   (h:DataW.trod enc Tryz.prog w base (fun _=>true) held n 45 cs=some y) (hb:Rows.uptoBulk y.1<=b):∃x,gC w (·<w.heap.size) cs x/\D3 x<=Rows.uptoBulk y.1:=by
 obtain⟨xs,m,rfl,rfl,hl,rJ,hf⟩:=DataW.trod_struct Tryz.underlying45 h;rw[Tryz.adZ]at hl
 match cs,hl,xs,rJ with
 |[c0,c1,c2],_,[x0,x1,x2],_=>
 have f0:=hf 0 _ rfl;have f1:=hf 1 _ rfl;have f2:=hf 2 _ rfl;simp only[Tryz.yB,Tryz.Vs,Tryz.aop,List.drop_zero,List.drop_succ_cons,List.take_succ_cons,List.take_zero,List.getElem?_cons_zero,List.getElem?_cons_succ]at f0 f1 f2;simp only[Rows.uptoBulk,Rows.uptoBulkAll,List.map_cons,List.map_nil]at hb ⊢;obtain⟨s,rfl,hs⟩:=BR f0 (by omega);obtain⟨v,l,e,hv,_,s1⟩:=sF (b:=b) ft pO Tryz.underlying42 Tryz.yB (by decide) (fun n cs y h1 h2=>VL h1 (by omega)) f1 (by omega) (by omega);cases e;obtain⟨v2,l2,e,VM,_,s2⟩:=sF (b:=b) (fun cs t=>fj w (·<w.heap.size) cs t) Ar Tryz.underlying43 Tryz.ad0 (by decide) (apa (by omega)) f2 (by omega) (by omega);cases e;exact⟨⟨s,l,l2⟩,⟨_,_,rfl,hv,VM⟩,by show 1+dk Ar l2<=_;omega⟩
theorem apd{b:Nat}(fN:b≤1048576)(n:Nat)(cs:List Value)(y:DataW H×List MemPlace)
   (h:DataW.trod enc Tryz.prog w base (fun _=>true) held n 59 cs=some y) (hb:Rows.uptoBulk y.1<=b):∃x,jE w (·<w.heap.size) cs x/\yE x<=Rows.uptoBulk y.1:=by
 obtain⟨xs,m,rfl,rfl,hl,rJ,hf⟩:=DataW.trod_struct Tryz.underlying59 h;rw[Tryz.adY]at hl
 match cs,hl,xs,rJ with
 |[c0,c1,c2,c3,c4,c5,c6,c7,c8,c9,AQ,Hv],_,[x0,x1,x2,x3],_=>
 have f0:=hf 0 _ rfl;have f1:=hf 1 _ rfl;have f2:=hf 2 _ rfl;have f3:=hf 3 _ rfl;simp only[Tryz.yB,Tryz.Vs,Tryz.Gk,Tryz.J3,List.drop_zero,List.drop_succ_cons,List.take_succ_cons,List.take_zero,List.getElem?_cons_zero,List.getElem?_cons_succ]at f0 f1 f2 f3;simp only[Rows.uptoBulk,Rows.uptoBulkAll,List.map_cons,List.map_nil]at hb ⊢;obtain⟨s,rfl,hs⟩:=BR f0 (by omega);obtain⟨v,l,e,hv,_,s1⟩:=sF (b:=b) ft pO Tryz.underlying42 Tryz.yB (by decide) (fun n cs y h1 h2=>VL h1 (by omega)) f1 (by omega) (by omega);cases e;obtain⟨t,ht,rM⟩:=Kg b fN _ _ _ f2 (by omega);obtain⟨e,he,K4⟩:=aez b fN _ _ _ f3 (by omega);exact⟨⟨s,l,t,e⟩,⟨_,[c2,c3,c4],[c5,c6,c7,c8,c9,AQ,Hv],rfl,rfl,rfl,hv,ht,he,hs.1⟩,by rw[Gv];simp only;omega⟩
theorem ape{n:Nat}{cs:List Value}{y:DataW H×List MemPlace}(h:DataW.trod enc Tryz.prog w base (fun _=>true) held n 25 cs=some y)(hb:Rows.uptoBulk y.1≤1048576) :
   ∃v0 v1 p,cs=[v0,v1]/\j0 w (·<w.heap.size) cs p/\p.Small:=by
 obtain⟨xs,m,rfl,rfl,hl,rJ,hf⟩:=DataW.trod_struct Tryz.underlying25 h;rw[Tryz.aol]at hl
 match cs,hl,xs,rJ with
 |[c0,c1],_,[x0,x1],_=>
 have f0:=hf 0 _ rfl;have f1:=hf 1 _ rfl;simp only[Tryz.aoj,Tryz.aok,List.drop_zero,List.drop_succ_cons,List.take_succ_cons,List.take_zero,List.getElem?_cons_zero,List.getElem?_cons_succ]at f0 f1;simp only[Rows.uptoBulk,Rows.uptoBulkAll,List.map_cons,List.map_nil]at hb;obtain⟨v,l,e,hv,_,s1⟩:=sF (b:=1048575) (fun cs t=>gC w (·<w.heap.size) cs t) D3 Tryz.underlying22 Tryz.adZ (by decide) (apb (by omega)) f0 (by omega) (by omega);cases e;obtain⟨v2,l2,e,VM,_,s2⟩:=sF (b:=1048575) (fun cs t=>jE w (·<w.heap.size) cs t) yE Tryz.underlying23 Tryz.adY (by decide) (apd (by omega)) f1 (by omega) (by omega);cases e;exact⟨_,_,⟨l,l2⟩,rfl,⟨_,_,rfl,hv,VM⟩,by unfold Pg.Small;simp only;omega⟩
end
end
section
open Go Go.W Go.ChangeShapes Go.WideShapes Go.ChangeAt Go.RowKit Go.Deep
theorem Tryz.apf:Tryz.prog.cellsOf 32=1:=by kernel_rfl
section
variable {H:Type} {enc:TypeId×Value->H} {w:World} {base:Nat} {held:Bool} {ts:List TypeId} {args:List Value} {ds:List (DataW H)}
theorem apg{n:Nat}{cs:List Value}{y:DataW H×List MemPlace}(h:DataW.trod enc Tryz.prog w base (fun _=>true) held n 32 cs=some y)(hb:Rows.uptoBulk y.1<=1048576):∃x:List Int,(∃u,cs=[u]/\yQ w u x)/\(fun _=>0) x<=Rows.uptoBulk y.1:=by
 obtain⟨v,l,e,hv,_,_⟩:=sF (b:=1048575) (fun cs (i:Int)=>cs=[I i]) (fun _=>0) Tryz.underlying32 Tryz.OO (by decide) (fun n cs y h1 h2=>by
  obtain⟨i0,e0,_⟩:=DataW.trod_int Tryz.underlying3 h1;subst e0;obtain⟨i,e1⟩:=Gl h1;cases e1
  exact⟨_,rfl,Nat.zero_le _⟩) h (by omega) (by omega)
 have hl:=dI hv;obtain⟨rows,⟨⟨a,c,e1,_,hr⟩,hle⟩,h2,h3⟩:=hv;refine⟨l,⟨v,e,a,c,by rw[e1,h2],by omega,fun i hi=>?_⟩,Nat.zero_le _⟩;obtain⟨ad,rfl,oh,hc⟩:=hr i (by omega);refine⟨ad,rfl,?_⟩;have e3:=h3 i _ _ (Ξ (by omega)) (Ξ hi);have:=hc 0 (by rw[oh];decide);rw[Nat.mul_one,add_zero']at this;rw[this];simp only[e3,List.getElem_cons_zero]
theorem aph(h:xm enc Tryz.prog (26::ts) w args ds)(hb:Rows.uptoBulkAll ds<=1048576):∃v runs pP d mV,args=v::pP/\ds=d::mV/\J8 w v runs/\xm enc Tryz.prog ts w pP mV:=by
 obtain⟨v,pP,d,mV,base,p,rfl,rfl,h',lK,hd,hw⟩:=VI h;obtain⟨a0,len,cap,rfl⟩:=okWide_slice Tryz.underlying26 lK;obtain⟨fuel,hf⟩:=hd;rw[Rows.uptoBulkAll]at hb;obtain⟨v,l,e,hv,_,_⟩:=sF (b:=1048575) (fun cs (x:List Int)=>∃u,cs=[u]/\yQ w u x) (fun _=>0) Tryz.underlying26 Tryz.apf (by decide) (fun n cs y h1 h2=>apg h1 (by omega)) (x:=(d,p)) (by simpa[Value.cells]using hf) (by show Rows.uptoBulk d<=_;omega) (by omega);obtain⟨rfl,-⟩:=List.cons_eq_cons.1 e;exact⟨_,l,pP,d,mV,rfl,rfl,hv.up (.refl (fun _=>False) w) aA (fun b hb=>⟨hb,Ψ⟩) (fun _ _ h=>h),h'⟩
theorem api(h:xm enc Tryz.prog (25::ts) w args ds)(hb:Rows.uptoBulkAll ds<=1048576):∃(cs:List Value) (p:Pg) (pP:List Value) (d:DataW H) (mV:List (DataW H)),args=.agg cs.toArray::pP/\ds=d::mV/\j0 w (Out (fun _=>False) w) cs p/\p.Small/\Rows.uptoBulkAll mV<=1048576/\xm enc Tryz.prog ts w pP mV:=by
 obtain⟨v,pP,d,mV,base,p,rfl,rfl,h',lK,hd,hw⟩:=VI h;obtain⟨cs,rfl,_⟩:=okWide_struct Tryz.underlying25 lK;obtain⟨fuel,hf⟩:=hd;rw[Rows.uptoBulkAll]at hb;obtain⟨v0,v1,pg,e,h1,dO⟩:=ape (y:=(d,p)) (by simpa[Value.cells]using hf) (by show Rows.uptoBulk d<=_;omega);have e':cs=#[v0,v1]:=Array.ext' e;subst e';exact⟨[v0,v1],pg,pP,d,mV,rfl,rfl,h1.up (.refl (fun _=>False) w) aA (fun b hb=>⟨hb,Ψ⟩),dO,by omega,h'⟩
end
abbrev VN:Array Value:=#[.agg #[.slice none 0 0,.slice none 0 0],.string ⟨#[]⟩,.slice none 0 0]
theorem apj(os:Os){H:Type}(enc:TypeId×Value->H):∃places,DataW.whole enc Tryz.prog ((World.laidAll Tryz.prog os Ke).forCall (fun _ _=>0) ⟨#[],VN,[]⟩).memory Tryz.f3.params.toList Rows.monoMeansSpec.vars false VN.toList 8=some ([.agg [.nil,.nil],.lit (.string []),.nil],[],places):=
 ⟨[],by kernel_rfl⟩
theorem apk(os:Os)(started:os.Started)(H:Type)(enc:TypeId×Value→H)(F:Stop.Interp) :
   ReturnsInHanded {} Tryz.checked os 3 .any ((Rows.OpenSpec.upto Rows.monoMeansSpec).preRow enc Tryz.prog Tryz.f3 [] false Ke) (((Rows.OpenSpec.upto Rows.monoMeansSpec).at F).post enc Tryz.prog Tryz.f3 false true false false):=by
 obtain⟨places,hx⟩:=apj os enc;refine ao6 (C:=Tryz.checked) Tryz.own started (by kernel_rfl) Tryz.func3
  (witness_row_at (enc:=enc) (C:=Tryz.checked) false (World.laidAll Tryz.prog os Ke) VN (World.laidAll_os _ _ _) (by kernel_rfl) (by kernel_rfl) (by kernel_rfl)
   (OpenSpec.preRow_of_cond 8 hx (by kernel_rfl) (fun k hk=>by cases hk;kernel_rfl) (by kernel_rfl) (ao8 os _)))
  Tryz.laidOut (by kernel_rfl) (tb:=4) (by kernel_rfl) Tryz.underlying4 rfl ?_ ?_
 .intro ds hd;rw[Tryz.params3]at hd
  match ds,hd with
  |[_,_,_],_=>rfl
 .intro W args ds h hk;rw[Tryz.params3]at h;obtain⟨cs,p,arK,d1,ds1,rfl,rfl,hp,dO,jv,h1⟩:=api h hk;obtain⟨entry,NI,d2,ds2,rfl,rfl,h2⟩:=ao5 h1;rw[Rows.uptoBulkAll]at jv;obtain⟨v,runs,arL,_,_,rfl,rfl,hr,h3⟩:=aph h2 (by omega);obtain⟨rfl,rfl⟩:=ao4 h3;exact aoS p hp hr (ao1 dO) (ao2 dO) (ao0 dO)
theorem apl:Rows.MonoMeansUptoSaid:=
 OpenClaim.holds_of_cond 3 Tryz.f3 rfl rfl rfl rfl rfl rfl rfl ⟨rfl,rfl,rfl,rfl,rfl⟩ rfl rfl rfl rfl rfl (by kernel_rfl) Tryz.func3 (by kernel_rfl)
  (of_decide_eq_true (by kernel_rfl)) (by unfold Func.isWrapper;first |(rw[if_pos (by decide +kernel)];kernel_rfl) |(rw[if_neg (by decide +kernel)];exact⟨rfl,rfl⟩))
  (fun os started H enc _ F=>by rw[OpenClaim.pre_eq_preRow];exact apk os started H enc F)
theorem apm(f:FuncId)(fn:Func)(hf:Tryz.pinned.checked.prog.funcNamed "sloth/slothlaw12.MonoMeans" = some f)(ej:Tryz.pinned.checked.prog.funcs[f]? = some fn) :
   true=Tryz.pinned.checked.prog.looks []/\∀(j:Nat) t,fn.params[j]?=some t->Tryz.pinned.checked.prog.wantsStandIn t=false:=by
 obtain rfl:f=3:=Option.some.inj ((show Tryz.prog.funcNamed "sloth/slothlaw12.MonoMeans" = some 3 by kernel_rfl).symm.trans hf) |>.symm;obtain rfl:fn=Tryz.f3:=(Option.some.inj (Tryz.func3.symm.trans ej)).symm;refine⟨by kernel_rfl,fun j t ht=>?_⟩;rw[Tryz.params3]at ht;have hm:t∈[25,9,26]:=by simpa using Array.mem_of_getElem? ht
 have ff:([25,9,26].all fun u=>!Tryz.prog.wantsStandIn u)=true:=by kernel_rfl
 exact(show Tryz.prog.wantsStandIn t=false by simpa using List.all_eq_true.1 ff t hm)
theorem monoMeans_holds:Rows.MonoMeansUptoCardSaid:=
 Claim7.holds_tied_plain_at .later [] _ _ _ _ apl (fun _ h=>by cases h) (by kernel_rfl) (fun _ h=>by cases h) monoMeansUpto_row_tie rfl ⟨rfl,rfl⟩ (by kernel_rfl) rfl apm (by kernel_rfl)
#print axioms monoMeans_holds
end
end Go.Proofs.YtekkkjbjnhipkaaGreatDoor