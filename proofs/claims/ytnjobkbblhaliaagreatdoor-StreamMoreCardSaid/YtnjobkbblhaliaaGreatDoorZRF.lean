/- Texts that the last file stands on: K7, K8, K9, SQ5, K10, K11, K12, M30, M31, M20, M19, M21, M22, M23, M24, Q15, M25, Q17, K13, K14, K15, V1, Q18, SM1, SC1. -/
import Derived.Test.YtnjobkbblhaliaaGreatDoorZRE
import Derived.Test.YtnjobkbblhaliaaGreatDoorZRA
import Derived.Lib.ItoaLen
import Derived.Test.YtnjobkbblhaliaaGreatDoorZRD
import Derived.Test.YtnjobkbblhaliaaGreatDoorCards
import Derived.Test.YtnjobkbblhaliaaGreatDoorTie
import Derived.Deep.DeepHandedRow
import Derived.Deep.CondSized
import Derived.Lay
import Derived.MakeChecks
import Derived.LaidSub
set_option linter.unusedSimpArgs false
set_option linter.unusedVariables false
set_option maxRecDepth 100000
namespace Go.Proofs.YtnjobkbblhaliaaGreatDoor
section
open Go Go.W Go.RowKit
theorem Ns (l:List Td):(l.flatMap iP).length=l.length*2:=by
 induction l with
 | nil=>rfl
 | cons t l ih=>rw [List.flatMap_cons,List.length_append,ih,ai0,List.length_cons];omega
theorem Wf:∀ i,mK i++[.text ⟨#[44,32]⟩,.val]=mK (i+1)
 | 0=>rfl
 | i+1=>by
  have:=Wf i;simp only [mK,List.cons_append] at this ⊢;rw [this]
theorem Wg:∀ i,lj i++[.text ⟨#[32]⟩,.arg]=lj (i+1)
 | 0=>rfl
 | i+1=>by
  have:=Wg i;simp only [lj,List.cons_append] at this ⊢;rw [this]
theorem Nt (i:Nat):(mK i).length=2*i:=by
 induction i with
 | zero=>rfl
 | succ i ih=>simp only [mK,List.length_cons,ih];omega
theorem GU (i:Nat):(lj i).length=2*i:=by
 induction i with
 | zero=>rfl
 | succ i ih=>simp only [lj,List.length_cons,ih];omega
def nQ (w0 w:World) (v:Value) (l:List Td):Prop:=∃ fp,ax w 122 2 v (l.flatMap iP) l.length fp∧(∀ b,fp=some b→w0.heap.size≤b)∧Mod (fun _=>False) w0 w
theorem nQ.nil (w:World):nQ w w (.slice none 0 0) []:=⟨none,ax.nil _ _ _,(fun b h=>by cases h),Mod.refl _ _⟩
theorem Dx {w0 w w1:World} {l:List Td} {n:Nat} (hm:Mod (fun _=>False) w0 w) (hb:w1.heap[w.heap.size]? = some (.cells (l.flatMap iP).toArray 122 (0,0))) (ag:Mod (fun _=>False) w w1) (hn:l.length=n):nQ w0 w1 (.slice (some ⟨w.heap.size,0,none⟩) n n) l:=by
 subst hn;refine ⟨some w.heap.size,ax.jQ hb ?_,(fun b h=>by cases h;exact hm.size),hm.trans ag⟩;exact Ns l
theorem GV {w0 w w1:World} {ρ:Go.W.Env} {K:Value→World→Prop} {v:Value} {l news:List Td} {n:Nat} {x y:O} (h:nQ w0 w v l) (hb:w1.heap[w.heap.size]? = some (.cells (news.flatMap iP).toArray 122 (0,0))) (ag:Mod (fun _=>False) w w1)
   (U:x.ev ρ=some v) (hy:y.ev ρ=some (.slice (some ⟨w.heap.size,0,none⟩) n n)) (hn:news.length=n) (hl:l.length+news.length≤1048576)
   (hk:∀ v' w',nQ w0 w' v' (l++news)→K v' w'):E.wp Tryz.prog w1 ρ K (.ap 122 2 24 #[.int .i64 0,.string ⟨#[]⟩] x y):=by
 subst hn;obtain ⟨fp,h1,h2,h3⟩:=h;have lY:=Ns news;refine gN (news:=news.flatMap iP) (m:=news.length) U (h1.mod ag (fun _ _ hh=>hh)) hy (fun e=>by cases e) (ax.jQ hb lY).rd (ai1 _) rfl (by omega) (by omega) ?_;intro v2 w2 jH dR ae fQ;refine hk v2 w2 ⟨jH,by rw [List.flatMap_append,List.length_append];exact dR,fun b hb=>?_,(h3.trans ag).step ae (fun b hb ah=>by have:=h2 b hb;omega)⟩;rcases fQ b hb with h' | ⟨h',_⟩
 ·exact h2 b h'
 ·have:=h3.size;have:=ag.size;omega
section
variable {lo p mp:Nat} {w:World} {vI:Value} {s:Ws} {items:List It} {L:List (ByteArray×Int)}
theorem Dy {w0:World} {v:Value} {l:List Td} (h:eJ lo w0 p vI mp s) (hl:nQ w0 w v l) (h1:l.length≤1048576) (hr:s.row.length≤4294967296):aD Tryz.prog 50 [ptr p,v] w fun r w'=>eJ lo w' p vI mp (s.later l)∧Mod (Wt lo mp) w0 w':=by
 obtain ⟨vR,pv,vB,fR,fB,h⟩:=h;obtain ⟨fp,g1,g2,g3⟩:=hl;have hp:=lt_of_heap h.cells;refine (Wd (h.later (g3.aB (fun _ hh=>hh.elim))) g1 (fun b hb=>⟨by have:=g2 b hb;omega,fun hh=>by have:=g2 b hb;have:=h.row.lt hh;omega⟩) h1 hr).mono ?_;rintro r w' ⟨q1,q2⟩;exact ⟨q1,(g3.aB (fun _ hh=>hh.elim)).trans q2⟩
theorem ai9 {n:Int} (h:eJ lo w p vI mp s) (hn:1≤n∧n≤8) (dy:s.out.size≤70368744177664) (hr:s.row.length≤4294967296):aD Tryz.prog 88 [ptr p,I n] w fun r w'=>eJ lo w' p vI mp (s.tuple n)∧Mod (Wt lo mp) w w':=by
 have hw:IntKind.i64.wrap (n - 1)=n - 1:=by rw [IntKind.wrap_i64];omega
 refine aia.calls rfl ?_;unfold MX;(try simp only [go_sem,simprocAttr,ptr]);refine ao (by rfl) ?_;refine (rO h (show s.out.size+1≤_ by omega)).mono ?_;rintro r w1 ⟨h1,ag⟩;(try simp only [go_sem,simprocAttr,ptr]);refine dL (by rfl) (by rfl) ?_;intro w2 an ae dh;have l2:nQ w1 w2 _ [.val]:=Dx (Mod.refl _ _) an ae rfl;(try simp only [go_sem,simprocAttr,ptr,hw]);refine dz (fun z ρ w'=>∃ (i:Nat) (v:Value),z=(n - 1).toNat - i∧i≤(n - 1).toNat∧nQ w1 w' v (.val::mK i)∧ρ=[(0,ptr p),(4,v),(12,I (n - 1)),(13,I i)]) (n - 1).toNat ⟨0,_,rfl,Nat.zero_le _,l2,rfl⟩ ?_;rintro z ρ w3 ⟨i,v,rfl,hi,l3,rfl⟩;unfold VP;by_cases ah:i < (n - 1).toNat
 ·have e1:decide ((i:Int) < n - 1)=true:=by simp;omega
  have e2:IntKind.i64.wrap ((i:Int)+1)=((i+1:Nat):Int):=by rw [IntKind.wrap_i64];omega
  (try simp only [go_sem,simprocAttr,e1,e2]);refine dL (by rfl) (by rfl) ?_;intro w4 aJ aj eA;refine GV (news:=[.text ⟨#[44,32]⟩,.val]) l3 aJ aj rfl rfl rfl (by simp only [List.length_cons,List.length_nil,Nt];omega) ?_;intro v5 w5 l5;refine ⟨_,?_,i+1,v5,rfl,by omega,?_,rfl⟩
  ·omega
  ·rw [List.cons_append,Wf] at l5;exact l5
 ·have e1:decide ((i:Int) < n - 1)=false:=by simp;omega
  obtain rfl:i=(n - 1).toNat:=by omega
  (try simp only [go_sem,simprocAttr,e1]);refine dL (by rfl) (by rfl) ?_;intro w4 aJ aj eA;refine GV (news:=[.text ⟨#[41]⟩]) l3 aJ aj rfl rfl rfl (by simp only [List.length_cons,List.length_nil,Nt];omega) ?_;intro v5 w5 l5;refine ao (by rfl) ?_;refine (Dy h1 l5 (by simp only [List.length_append,List.length_cons,List.length_nil,Nt];omega) hr).mono ?_;rintro r' w6 ⟨h6,aH⟩;exact ⟨h6,ag.trans aH⟩
theorem ai' {aQ:ByteArray} {a:Bool} (h:eJ lo w p vI mp s) (hi:qy lo w vI mp items L) (hn:0≤(FL L).of aQ∧(FL L).of aQ≤8) (dy:s.out.size+aQ.size≤70368744177664) (hr:s.row.length≤4294967296):aD Tryz.prog 89 [ptr p,.string aQ,.bool a] w fun r w'=>eJ lo w' p vI mp (s.aQ (FL L) aQ a)∧Mod (Wt lo mp) w w':=by
 obtain ⟨n,GW⟩:∃ n,n=(FL L).of aQ:=⟨_,rfl⟩;rw [← GW] at hn;have hc:=h.choose_spec.choose_spec.choose_spec.choose_spec.choose_spec.cells;refine aib.calls rfl ?_;unfold MY;simp only [go_sem,simprocAttr,cell_of hc,ej,ptr];refine AF (b:=mp) (l:=L) (kt:=9) (et:=3) rfl rfl Tryz.underlying80 Tryz.underlying9 (Tryz.zeroValue3 _) hi.mp ?_;rw [show (gX L aQ).getD 0=n from GW.symm];refine σ ?_;refine dz (fun z ρ w'=>∃ (i:Nat) (v:Value),z=n.toNat - i∧i≤n.toNat∧nQ w w' v (lj i)∧ρ=[(0,ptr p),(1,.string aQ),(2,.bool a),(6,I n),(7,v),(14,I n),(15,I i)]) n.toNat ⟨0,_,rfl,Nat.zero_le _,nQ.nil w,rfl⟩ ?_;rintro z ρ w3 ⟨i,v,rfl,bS,l3,rfl⟩;unfold VQ;by_cases ah:i < n.toNat
 ·have e1:decide ((i:Int) < n)=true:=by simp;omega
  have e2:IntKind.i64.wrap ((i:Int)+1)=((i+1:Nat):Int):=by rw [IntKind.wrap_i64];omega
  simp only [go_sem,simprocAttr,e1,e2];refine dL (by rfl) (by rfl) ?_;intro w4 aJ aj eA;refine GV (news:=[.text ⟨#[32]⟩,.arg]) l3 aJ aj rfl rfl rfl (by simp only [List.length_cons,List.length_nil,GU];omega) ?_;intro v5 w5 l5;refine ⟨_,?_,i+1,v5,rfl,by omega,?_,rfl⟩
  ·omega
  ·rw [Wg] at l5;exact l5
 ·have e1:decide ((i:Int) < n)=false:=by simp;omega
  obtain rfl:i=n.toNat:=by omega
  obtain ⟨vR,pv,vB,fR,fB,hF⟩:=h;have bQ:=lt_of_heap hc;have fin:∀ (t:ByteArray) (l:List Td) (v:Value) (w5:World),nQ w w5 v l→l.length≤1048576→t.size≤aQ.size+1→(s.aQ (FL L) aQ a)=(s.cZ t).later l →
      aD Tryz.prog 51 [yN p,.string t] w5 (fun r w'=>aD Tryz.prog 50 [ptr p,v] w' (fun r w'=>eJ lo w' p vI mp (s.aQ (FL L) aQ a)∧Mod (Wt lo mp) w w')):=by
   intro t l v w5 hl zw ht he;obtain ⟨fp,g1,g2,g3⟩:=hl;rw [he];refine (Wc (hF.later (g3.aB (fun _ hh=>hh.elim))) (by omega)).mono ?_;rintro r w6 ⟨⟨Nk,Nl,h6⟩,aH⟩;refine (Wd h6 (g1.mod aH (fun b hb hh=>?_)) (fun b hb=>⟨by have:=g2 b hb;omega,fun hh=>by have:=g2 b hb;have:=hF.row.lt hh;omega⟩) zw hr).mono ?_
   ·have:=g2 b hb;rcases hh with hh | hh
    ·omega
    ·have:=hF.buf.lt hh;omega
   ·rintro r' w7 ⟨q1,q2⟩;refine ⟨q1,((g3.aB (fun _ hh=>hh.elim)).trans (aH.aB (fun b hb=>?_))).trans q2⟩;rcases hb with rfl | hb
    ·exact ⟨hF.pH,fun e=>hF.oD e.symm⟩
    ·exact ⟨(hF.fb b hb).1,(hF.fb b hb).2.2.1⟩
  by_cases hg:a=true∧n > 0
  ·obtain ⟨rfl,zn⟩:=hg;have e3:decide (n > 0)=true:=by simp;omega
   simp only [go_sem,simprocAttr,e1,e3];have h40:(⟨#[40]⟩++aQ:ByteArray).size=aQ.size+1:=by rw [fX];exact Nat.add_comm _ _
   refine ⟨.string (⟨#[40]⟩++aQ),?_,?_⟩
   ·rw [if_neg];have:((#[40]:Array UInt8).size:Nat)=1:=rfl;rw [this];show ¬ (((1+aQ.size:Nat):Int) > 9223372036854775807);omega
   refine dL (by rfl) (by rfl) ?_;intro w4 aJ aj eA;refine GV (news:=[.text ⟨#[41]⟩]) l3 aJ aj rfl rfl rfl (by simp only [List.length_cons,List.length_nil,GU];omega) ?_;intro v5 w5 l5;refine ao (by rfl) ?_;have e5:s.aQ (FL L) aQ true=(s.cZ (⟨#[40]⟩++aQ)).later (lj n.toNat++[.text ⟨#[41]⟩]):=by
    unfold Ws.aQ;rw [← GW,if_pos (by simp;omega)]
   refine (fin (⟨#[40]⟩++aQ) (lj n.toNat++[.text ⟨#[41]⟩]) v5 w5 l5 (by rw [List.length_append,GU];show 2*n.toNat+1≤_;omega) (Nat.le_of_eq h40) e5).mono ?_
   ·intro r w6 h6;refine σ ?_;exact ao (by rfl) h6
  ·have e4:s.aQ (FL L) aQ a=(s.cZ aQ).later (lj n.toNat):=by
    unfold Ws.aQ;rw [← GW,if_neg];intro hh;simp only [Bool.and_eq_true,decide_eq_true_eq] at hh;exact hg hh
   have:=fin aQ _ v w3 l3 (by rw [GU];omega) (by omega) e4;cases a with
   | false=>
    simp only [go_sem,simprocAttr,e1];refine ao (by rfl) ?_;refine this.mono ?_;intro r w6 h6;refine σ ?_;exact ao (by rfl) h6
   | true=>
    have e3:decide (n > 0)=false:=by simp;have:¬ n > 0:=fun hh=>hg ⟨rfl,hh⟩;omega
    simp only [go_sem,simprocAttr,e1,e3];refine ao (by rfl) ?_;refine this.mono ?_;intro r w6 h6;refine σ ?_;exact ao (by rfl) h6
end
end
section
open Go Go.W Go.RowKit
section
variable {lo p mp:Nat} {w:World} {vI:Value} {s:Ws} {items:List It} {L:List (ByteArray×Int)}
theorem eJ.quiet {w':World} (h:eJ lo w p vI mp s) (hm:Mod (fun _=>False) w w'):eJ lo w' p vI mp s:=by
 obtain ⟨vR,pv,vB,fR,fB,h⟩:=h;exact ⟨_,_,_,_,_,h.later (hm.aB (fun _ hh=>hh.elim))⟩
theorem eJ.cells (h:eJ lo w p vI mp s):∃ vR pv vB,w.heap[p]? = some (.cells (ej vI s.at' mp s.cX vR pv vB).toArray 86 (0,0)):=by
 obtain ⟨vR,pv,vB,fR,fB,h⟩:=h;exact ⟨_,_,_,h.cells⟩
theorem qA {ρ:Go.W.Env} {K:Value→World→Prop} {off:Nat} {v:Value} {s':Ws} {x y:O} (h:eJ lo w p vI mp s) (U:x.ev ρ=some (.pointer (some ⟨p,off,none⟩))) (hy:y.ev ρ=some v) (h1:v.oneCell'=true) (ho:off < 7)
   (hs:∀ vR pv vB,(ej vI s.at' mp s.cX vR pv vB).set off v=ej vI s'.at' mp s'.cX vR pv vB) (hr:s'.row=s.row) (hb:s'.out=s.out)
   (hk:∀ w',eJ lo w' p vI mp s'→Mod (Wt lo mp) w w'→K undef w'):E.wp Tryz.prog w ρ K (.st 1 x y):=by
 obtain ⟨vR,pv,vB,fR,fB,h⟩:=h;refine bL (off:=off) U hy h.cells h1 (by simp only [ej,List.length_cons,List.length_nil];omega) ?_;intro w1 hc hm _;refine hk w1 ⟨vR,pv,vB,fR,fB,by rw [← hs];exact hc,h.pv,?_,?_,h.pH,h.oD,by have:=h.oE;have:=hm.size;omega,by have:=h.nO;have:=hm.size;omega,h.fr,h.fb⟩ (hm.aB (fun b hb=>by subst hb;exact ⟨h.pH,fun e=>h.oD e.symm⟩))
 ·rw [hr];exact h.row.mod hm (fun b hb hh=>(h.fr b hb).2.1 hh)
 ·rw [hb];exact h.buf.mod hm (fun b hb hh=>(h.fb b hb).2.1 hh)
theorem aja (h:eJ lo w p vI mp s) (hi:qy lo w vI mp items L) (dy:s.out.size≤70368744177664) (hr:s.row.length≤2147483648):aD Tryz.prog 52 [ptr p] w fun r w'=>eJ lo w' p vI mp (s.wR (FL L) items)∧Mod (Wt lo mp) w w':=by
 refine ah5.calls rfl ?_;unfold MQ;(try simp only [go_sem,simprocAttr,ptr]);refine ao (by rfl) ?_;refine (yO h hi).mono ?_;rintro _ w1 ⟨rfl,ag⟩;have h1:=h.quiet ag;have qX:=hi.mod (ag.aB (fun _ hh=>hh.elim));have u9:Mod (Wt lo mp) w w1:=ag.aB (fun _ hh=>hh.elim);cases hb:qz L items s.at' uM 2 with
 | true=>
  have U:∃ x,items[s.at']? = some x∧ez (FL L) x uM 2=true:=by
   unfold qz at hb
   split at hb
   ·cases hb
   ·exact ⟨_,by assumption,hb⟩
  obtain ⟨x,U,EB⟩:=U;have ah:=(List.getElem?_eq_some_iff.1 U).1;have hl:=hi.len;have e2:IntKind.i64.wrap ((s.at':Int)+1)=((s.at'+1:Nat):Int):=by rw [IntKind.wrap_i64];omega
  obtain ⟨vR,pv,vB,dk⟩:=h1.cells;(try simp only [go_sem,simprocAttr,cell_of dk,ej,ptr,e2]);refine qA (s':=s.on) h1 rfl rfl rfl (by omega) (fun _ _ _=>rfl) rfl rfl ?_;intro w2 h2 ae;(try simp only [go_sem,simprocAttr,ptr]);refine ao (by rfl) ?_;refine (rO h2 (show s.out.size+2≤_ by omega)).mono ?_;rintro r w3 ⟨h3,ab⟩;(try simp only [go_sem,simprocAttr,ptr]);refine dL (by rfl) (by rfl) ?_;intro w4 aJ aj eA;have l4:nQ w3 w4 _ [.val,.rest]:=Dx (Mod.refl _ _) aJ aj rfl;refine ao (by rfl) ?_;refine (Dy h3 l4 (by decide) (by show s.row.length≤_;omega)).mono ?_;rintro r' w5 ⟨h5,ay⟩;(try simp only [go_sem,simprocAttr]);refine ⟨?_,((u9.trans ae).trans ab).trans ay⟩;unfold Ws.wR;rw [U];simp only [EB,if_true];exact h5
 | false=>
  (try simp only [go_sem,simprocAttr,ptr]);refine ao (by rfl) ?_;refine (yO h1 qX).mono ?_;rintro _ w2 ⟨rfl,ae⟩;have h2:=h1.quiet ae;have tC:Mod (Wt lo mp) w w2:=u9.trans (ae.aB (fun _ hh=>hh.elim));cases fH:qz L items s.at' wQ 0 with
  | true=>
   have U:∃ x,items[s.at']? = some x∧ez (FL L) x wQ 0=true:=by
    unfold qz at fH
    split at fH
    ·cases fH
    ·exact ⟨_,by assumption,fH⟩
   obtain ⟨x,U,EB⟩:=U;have ah:=(List.getElem?_eq_some_iff.1 U).1;have hl:=hi.len;have e2:IntKind.i64.wrap ((s.at':Int)+1)=((s.at'+1:Nat):Int):=by rw [IntKind.wrap_i64];omega
   obtain ⟨vR,pv,vB,cy⟩:=h2.cells;(try simp only [go_sem,simprocAttr,cell_of cy,ej,ptr,e2]);refine qA (s':=s.on) h2 rfl rfl rfl (by omega) (fun _ _ _=>rfl) rfl rfl ?_;intro w3 h3 ab;(try simp only [go_sem,simprocAttr,ptr]);refine ao (by rfl) ?_;refine (rO h3 (show s.out.size+1≤_ by omega)).mono ?_;rintro r w4 ⟨h4,aj⟩;(try simp only [go_sem,simprocAttr]);refine ⟨?_,(tC.trans ab).trans aj⟩;have GR:ez (FL L) x uM 2=false:=by unfold qz at hb;rw [U] at hb;exact hb
   unfold Ws.wR;rw [U];simp only [EB,GR,if_true,if_false,Bool.false_eq_true];exact h4
  | false=>
   (try simp only [go_sem,simprocAttr,ptr]);refine ao (by rfl) ?_;refine (rO h2 (show s.out.size+3≤_ by omega)).mono ?_;rintro r w3 ⟨h3,ab⟩;(try simp only [go_sem,simprocAttr,ptr]);refine dL (by rfl) (by rfl) ?_;intro w4 aJ aj eA;have l4:nQ w3 w4 _ [.val,.text ⟨#[93]⟩]:=Dx (Mod.refl _ _) aJ aj rfl;refine ao (by rfl) ?_;refine (Dy h3 l4 (by decide) (by show s.row.length≤_;omega)).mono ?_;rintro r' w5 ⟨h5,ay⟩;(try simp only [go_sem,simprocAttr]);refine ⟨?_,(tC.trans ab).trans ay⟩;have e:s.wR (FL L) items=(s.cZ ⟨#[32,124,32]⟩).later [.val,.text ⟨#[93]⟩]:=by
    unfold Ws.wR;unfold qz at hb fH;cases U:items[s.at']? with
    | none=>rfl
    | some x=>
     rw [U] at hb fH;simp only at hb fH;simp only [hb,fH,if_false,Bool.false_eq_true]
   rw [e];exact h5
end
end
section
open Go Go.W Go.RowKit
def cQ (n:Int):ByteArray:=⟨(Lib.itoa n).toArray⟩
def oG (lo:Nat) (w:World):Prop:=∃ g,Tryz.prog.globalNamed "internal/strconv.uint64pow10" = some g∧g < lo∧lo≤w.heap.size∧Lib.TabIs Tryz.prog w "internal/strconv.uint64pow10" .u64 Lib.pow10Tab
section
variable {lo p mp:Nat} {w:World} {vI:Value} {s:Ws} {items:List It} {L:List (ByteArray×Int)}
theorem oG.mod {w':World} (h:oG lo w) (hm:Mod (Wt lo mp) w w'):oG lo w':=by
 obtain ⟨g,h1,h2,h3,h4⟩:=h;refine ⟨g,h1,h2,by have:=hm.size;omega,?_⟩;unfold Lib.TabIs World.var? at h4 ⊢;rw [h1] at h4 ⊢;simp only [Option.bind_some] at h4 ⊢;rw [hm.old g (by omega) (fun hh=>by have:=hh.1;omega)];exact h4
theorem ajb {n:Int} (h:oG lo w) (hn : -9223372036854775808≤n∧n≤9223372036854775807):aD Tryz.prog 48 [I n] w fun r w'=>r = .string (cQ n)∧Mod (fun _=>False) w w':=by
 obtain ⟨g,h1,h2,h3,h4⟩:=h;refine Calls.mono (Any.strconv_Itoa Tryz.ZE n hn.1 hn.2 w h4) ?_;rintro e w' ⟨rfl,k,os,rfl⟩;refine ⟨_,rfl,rfl,⟨by simp [Go.Sort.grow],fun b hb _=>?_,rfl,rfl,rfl⟩⟩;show (w.heap++os)[b]? = _;rw [Array.getElem?_append_left hb]
theorem Nu (n:Int) (hn : -9223372036854775808≤n∧n≤9223372036854775807):(cQ n).size≤21:=Lib.itoa_length_le n hn.1 hn.2
theorem Dz {x:It} (U:items[s.at']? = some x) (aQ:ByteArray) (n:Int):qz L items s.at' aQ n=ez (FL L) x aQ n:=by
 unfold qz;rw [U]
theorem Wh {a:Bool} (h:eJ lo w p vI mp s) (hi:qy lo w vI mp items L) (ht:oG lo w) (hle:s.at'≤items.length) (hop:0≤s.cX∧s.cX≤1099511627776)
   (hk:∀ x,items[s.at']? = some x→(x.aQ=⟨#[]⟩ → -4611686018427387904≤x.num∧x.num≤4611686018427387903)∧(x.aQ≠⟨#[]⟩→0≤(FL L).of x.aQ∧(FL L).of x.aQ≤8)∧x.aQ.size≤35184372088832)
   (dy:s.out.size≤35184372088000) (hr:s.row.length≤2147483648):aD Tryz.prog 53 [ptr p,.bool a] w fun r w'=>eJ lo w' p vI mp (s.value cQ (FL L) items a)∧Mod (Wt lo mp) w w':=by
 refine ah6.calls rfl ?_;unfold MR;obtain ⟨vR0,pv0,vB0,hc⟩:=h.cells;have hl:=hi.len;have ofd:∀ {w':World},Mod (Wt lo mp) w w'→Mod (Wt lo mp) w w'.drew:=fun hm=>hm.drew
 have ajc:eJ lo w.drew p vI mp s:=h.quiet (Mod.refl _ _).drew;cases U:items[s.at']? with
 | none=>
  obtain ⟨ad,c,rfl⟩:=Nr hi;have hge:=List.getElem?_eq_none_iff.1 U;have cr:s.at'=items.length:=by omega
  have e1:((s.at':Int) == (items.length:Int))=true:=by rw [cr];simp
  have e2:IntKind.i64.wrap (s.cX+1)=s.cX+1:=by rw [IntKind.wrap_i64];omega
  have yP:w.drew.heap[p]? = _:=hc;(try simp only [go_sem,simprocAttr,cell_of hc,cell_of yP,ej,ptr,e1,e2]);refine qA (s':={ s with cX:=s.cX+1}) ajc rfl rfl rfl (by omega) (fun _ _ _=>rfl) rfl rfl ?_;intro w1 h1 ag;(try simp only [go_sem,simprocAttr,ptr]);refine ao (by rfl) ?_;refine (rO h1 (show s.out.size+1≤_ by omega)).mono ?_;rintro r w2 ⟨h2,ae⟩;(try simp only [go_sem,simprocAttr]);refine ⟨?_,(ag.dj).trans ae⟩;have hv:s.value cQ (FL L) items a = { s with cX:=s.cX+1}.cZ ⟨#[95]⟩:=by
   unfold Ws.value;rw [U];rfl
  rw [hv];exact h2
 | some x=>
  obtain ⟨ad,c,rfl,wi,hU,im⟩:=Nq hi U;obtain ⟨eZ,eU,lD⟩:=hk x U;have ah:=(List.getElem?_eq_some_iff.1 U).1;have e1:((s.at':Int) == (items.length:Int))=false:=by simp;omega
  have e2:IntKind.i64.wrap ((s.at':Int)+1)=((s.at'+1:Nat):Int):=by rw [IntKind.wrap_i64];omega
  have e3:(0:Int)≤s.at'∧(s.at':Int) < items.length:=by omega
  have yP:w.drew.heap[p]? = _:=hc;have ajd:w.drew.drew.heap[p]? = _:=hc;have dI:∀ W:World,W.heap=w.heap→cB W 2 (.pointer (some (ad.add (s.at'*2))))=some (.agg #[.string x.aQ,I x.num]):=by
   intro W hW;have cw:∀ q,W.cell? q=w.cell? q:=fun q=>by simp [World.cell?,hW]
   refine uC ?_ ?_
   ·rw [Addr.add_zero',cw];exact hU
   ·rw [cw];exact im
  (try simp only [go_sem,simprocAttr,cell_of hc,cell_of yP,cell_of ajd,ej,ptr,e1,e3,decide_true,Int.toNat_natCast,dI w.drew.drew rfl]);have Nv:lo≤w.heap.size∧p < w.heap.size:=by
   obtain ⟨_,_,_,_,_,hF⟩:=h;exact ⟨hF.nO,lt_of_heap hF.cells⟩
  refine de ?_;intro w1 rK ag cL;have nZ:Mod (fun _=>False) w w1:=ag.dj.dj;have yQ:w1.heap[w.heap.size]? = some (.cells [.string ⟨#[]⟩,I 0].toArray 42 (0,0)):=rK;refine ⟨⟨nZ.old _ (by rw [rT];omega) (fun h=>h),nZ.old _ Nv.2 (fun h=>h)⟩,?_⟩;refine cu (vs:=[.string x.aQ,I x.num]) rfl rfl yQ rfl rfl (by intro u hu;simp only [List.mem_cons,List.not_mem_nil,or_false] at hu;rcases hu with rfl | rfl<;>rfl) ?_;intro w2 Nw ae dh;have hD:w2.heap[w.heap.size]? = some (.cells [.string x.aQ,I x.num].toArray 42 (0,0)):=Nw;have aY:Mod (fun _=>False) w w2:=nZ.step ae (fun b hb ah=>by have fH:b=w.heap.size:=hb;omega);have h2:=h.quiet aY;have jq:=hi.mod (aY.aB (fun _ hh=>hh.elim));have tC:=ht.mod (aY.aB (S':=Wt lo mp) (fun _ hh=>hh.elim));have Wi:Mod (Wt lo mp) w w2:=aY.aB (fun _ hh=>hh.elim);have rD:∀ {w':World},Mod (fun _=>False) w2 w'→w'.heap[w.heap.size]? = some (.cells [.string x.aQ,I x.num].toArray 42 (0,0)):=fun hm=>hm.at hD (fun hh=>hh)
  by_cases h0:x.aQ=⟨#[]⟩
  ·have b0:decide (x.aQ=⟨#[]⟩)=true:=by simp [h0]
   obtain ⟨n1,n2⟩:=eZ h0;(try simp only [go_sem,simprocAttr,cell_of hD,nP,b0]);refine ao (by rfl) ?_;refine (ajb tC ⟨by omega,by omega⟩).mono ?_;rintro _ w3 ⟨rfl,ab⟩;have Wj:=rD ab;have h3:=h2.quiet ab;have AS:Mod (Wt lo mp) w w3:=Wi.trans (ab.aB (fun _ hh=>hh.elim));have hiz:=Nu x.num ⟨by omega,by omega⟩;by_cases hg:a=true∧x.num < 0
   ·obtain ⟨rfl,zn⟩:=hg;have b1:decide (x.num < 0)=true:=by simp;omega
    (try simp only [go_sem,simprocAttr,cell_of Wj,b1]);refine ⟨.string (⟨#[40]⟩++cQ x.num),?_,.string (⟨#[40]⟩++cQ x.num++⟨#[41]⟩),?_,?_⟩
    ·rw [if_neg];have:((#[40]:Array UInt8).size:Nat)=1:=rfl;rw [this];show ¬ (((1+(cQ x.num).size:Nat):Int) > 9223372036854775807);omega
    ·show (if ((((⟨#[40]⟩:ByteArray)++cQ x.num).size+1:Nat):Int) > 9223372036854775807 then none else _)=_;rw [fX,if_neg];show ¬ (((1+(cQ x.num).size+1:Nat):Int) > 9223372036854775807);omega
    refine ao (by rfl) ?_;have yz:(⟨#[40]⟩++cQ x.num++⟨#[41]⟩:ByteArray).size≤23:=by
     rw [fX,fX];show 1+_+1≤_;omega
    refine (rO h3 (show s.out.size+_≤_ by omega)).mono ?_;rintro r w4 ⟨h4,aj⟩;obtain ⟨vR,pv,vB,fo⟩:=h4.cells;have lM:((s.cZ (⟨#[40]⟩++cQ x.num++⟨#[41]⟩))).at'=s.at':=by first | rfl | (unfold Ws.aQ;split<;>rfl)
    have lN:IntKind.i64.wrap (((((s.cZ (⟨#[40]⟩++cQ x.num++⟨#[41]⟩))).at':Nat):Int)+1)=((((s.cZ (⟨#[40]⟩++cQ x.num++⟨#[41]⟩))).at'+1:Nat):Int):=by rw [lM];exact e2
    (try simp only [go_sem,simprocAttr,cell_of fo,ej,ptr,lN]);refine qA (s':=Ws.on (s.cZ (⟨#[40]⟩++cQ x.num++⟨#[41]⟩))) h4 rfl rfl rfl (by omega) (fun _ _ _=>rfl) rfl rfl ?_;intro wz hz lO;(try simp only [go_sem,simprocAttr]);refine ⟨?_,(AS.trans aj).trans lO⟩;have hv:s.value cQ (FL L) items true=Ws.on (s.cZ (⟨#[40]⟩++cQ x.num++⟨#[41]⟩)):=by
     unfold Ws.value;rw [U];simp only [if_pos h0,AP,b1,Bool.and_self,Bool.true_and,if_true]
    rw [hv];exact hz
   ·have fin:aD Tryz.prog 51 [yN p,.string (cQ x.num)] w3 (fun r w'=>eJ lo w' p (.slice (some ad) items.length c) mp (s.cZ (cQ x.num))∧Mod (Wt lo mp) w3 w'):=rO h3 (show s.out.size+_≤_ by omega);cases a with
    | false=>
     (try simp only [go_sem,simprocAttr,ptr]);refine ao (by rfl) ?_;refine fin.mono ?_;rintro r w4 ⟨h4,aj⟩;obtain ⟨vR,pv,vB,fo⟩:=h4.cells;have lM:((s.cZ (cQ x.num))).at'=s.at':=by first | rfl | (unfold Ws.aQ;split<;>rfl)
     have lN:IntKind.i64.wrap (((((s.cZ (cQ x.num))).at':Nat):Int)+1)=((((s.cZ (cQ x.num))).at'+1:Nat):Int):=by rw [lM];exact e2
     (try simp only [go_sem,simprocAttr,cell_of fo,ej,ptr,lN]);refine qA (s':=Ws.on (s.cZ (cQ x.num))) h4 rfl rfl rfl (by omega) (fun _ _ _=>rfl) rfl rfl ?_;intro wz hz lO;(try simp only [go_sem,simprocAttr]);refine ⟨?_,(AS.trans aj).trans lO⟩;have hv:s.value cQ (FL L) items false=Ws.on (s.cZ (cQ x.num)):=by
      unfold Ws.value;rw [U];simp only [if_pos h0,AP,Bool.false_and,Bool.false_eq_true,if_false]
     rw [hv];exact hz
    | true=>
     have b1:decide (x.num < 0)=false:=by simp;have:¬ x.num < 0:=fun hh=>hg ⟨rfl,hh⟩;omega
     (try simp only [go_sem,simprocAttr,cell_of Wj,b1,ptr]);refine ao (by rfl) ?_;refine fin.mono ?_;rintro r w4 ⟨h4,aj⟩;obtain ⟨vR,pv,vB,fo⟩:=h4.cells;have lM:((s.cZ (cQ x.num))).at'=s.at':=by first | rfl | (unfold Ws.aQ;split<;>rfl)
     have lN:IntKind.i64.wrap (((((s.cZ (cQ x.num))).at':Nat):Int)+1)=((((s.cZ (cQ x.num))).at'+1:Nat):Int):=by rw [lM];exact e2
     (try simp only [go_sem,simprocAttr,cell_of fo,ej,ptr,lN]);refine qA (s':=Ws.on (s.cZ (cQ x.num))) h4 rfl rfl rfl (by omega) (fun _ _ _=>rfl) rfl rfl ?_;intro wz hz lO;(try simp only [go_sem,simprocAttr]);refine ⟨?_,(AS.trans aj).trans lO⟩;have hv:s.value cQ (FL L) items true=Ws.on (s.cZ (cQ x.num)):=by
      unfold Ws.value;rw [U];simp only [if_pos h0,AP,b1,Bool.and_false,Bool.false_eq_true,if_false]
     rw [hv];exact hz
  ·have b0:decide (x.aQ=⟨#[]⟩)=false:=by simp [h0]
   obtain ⟨k1,k2⟩:=eU h0;(try simp only [go_sem,simprocAttr,cell_of hD,nP,b0,ptr]);refine ao (by rfl) ?_;refine (yO h2 jq).mono ?_;rintro _ w3 ⟨rfl,ab⟩;rw [Dz U];have mZ:Mod (fun _=>False) w2 w3:=ab;have h3:=h2.quiet ab;have pb:=jq.mod (ab.aB (fun _ hh=>hh.elim));have AS:Mod (Wt lo mp) w w3:=Wi.trans (ab.aB (fun _ hh=>hh.elim));cases c1:ez (FL L) x wQ 0 with
   | true=>
    (try simp only [go_sem,simprocAttr,ptr]);refine ao (by rfl) ?_;refine (rO h3 (show s.out.size+2≤_ by omega)).mono ?_;rintro r w4 ⟨h4,aj⟩;obtain ⟨vR,pv,vB,fo⟩:=h4.cells;have lM:((s.cZ ⟨#[91,93]⟩)).at'=s.at':=by first | rfl | (unfold Ws.aQ;split<;>rfl)
    have lN:IntKind.i64.wrap (((((s.cZ ⟨#[91,93]⟩)).at':Nat):Int)+1)=((((s.cZ ⟨#[91,93]⟩)).at'+1:Nat):Int):=by rw [lM];exact e2
    (try simp only [go_sem,simprocAttr,cell_of fo,ej,ptr,lN]);refine qA (s':=Ws.on (s.cZ ⟨#[91,93]⟩)) h4 rfl rfl rfl (by omega) (fun _ _ _=>rfl) rfl rfl ?_;intro wz hz lO;(try simp only [go_sem,simprocAttr]);refine ⟨?_,(AS.trans aj).trans lO⟩;have hv:s.value cQ (FL L) items a=Ws.on (s.cZ ⟨#[91,93]⟩):=by
     unfold Ws.value;rw [U];simp only [if_neg h0,c1,if_true]
    rw [hv];exact hz
   | false=>
   (try simp only [go_sem,simprocAttr,ptr]);refine ao (by rfl) ?_;refine (yO h3 pb).mono ?_;rintro _ w4 ⟨rfl,aj⟩;rw [Dz U];have dm:Mod (fun _=>False) w2 w4:=mZ.trans aj;have h4:=h3.quiet aj;have ER:=pb.mod (aj.aB (fun _ hh=>hh.elim));have Wk:Mod (Wt lo mp) w w4:=AS.trans (aj.aB (fun _ hh=>hh.elim));cases c2:ez (FL L) x uM 2 with
   | true=>
    (try simp only [go_sem,simprocAttr,ptr]);refine ao (by rfl) ?_;refine (rO h4 (show s.out.size+1≤_ by omega)).mono ?_;rintro r w5 ⟨h5,ay⟩;(try simp only [go_sem,simprocAttr,ptr]);refine dL (by rfl) (by rfl) ?_;intro w6 cO aH mV;have l6:nQ w5 w6 _ [.val,.rest]:=Dx (Mod.refl _ _) cO aH rfl;refine ao (by rfl) ?_;refine (Dy h5 l6 (by decide) (by show s.row.length≤_;omega)).mono ?_;rintro r' w7 ⟨h7,aZ⟩;obtain ⟨vR,pv,vB,fo⟩:=h7.cells;have lM:(((s.cZ ⟨#[91]⟩).later [.val,.rest])).at'=s.at':=by first | rfl | (unfold Ws.aQ;split<;>rfl)
    have lN:IntKind.i64.wrap ((((((s.cZ ⟨#[91]⟩).later [.val,.rest])).at':Nat):Int)+1)=(((((s.cZ ⟨#[91]⟩).later [.val,.rest])).at'+1:Nat):Int):=by rw [lM];exact e2
    (try simp only [go_sem,simprocAttr,cell_of fo,ej,ptr,lN]);refine qA (s':=Ws.on ((s.cZ ⟨#[91]⟩).later [.val,.rest])) h7 rfl rfl rfl (by omega) (fun _ _ _=>rfl) rfl rfl ?_;intro wz hz lO;(try simp only [go_sem,simprocAttr]);refine ⟨?_,((Wk.trans ay).trans aZ).trans lO⟩;have hv:s.value cQ (FL L) items a=Ws.on ((s.cZ ⟨#[91]⟩).later [.val,.rest]):=by
     unfold Ws.value;rw [U];simp only [if_neg h0,c1,c2,if_true,if_false,Bool.false_eq_true]
    rw [hv];exact hz
   | false=>
   (try simp only [go_sem,simprocAttr,ptr]);refine ao (by rfl) ?_;refine (yO h4 ER).mono ?_;rintro _ w5 ⟨rfl,ay⟩;rw [Dz U];have ni:Mod (fun _=>False) w2 w5:=dm.trans ay;have h5:=h4.quiet ay;have ES:=ER.mod (ay.aB (fun _ hh=>hh.elim));have Wl:Mod (Wt lo mp) w w5:=Wk.trans (ay.aB (fun _ hh=>hh.elim));cases c3:ez (FL L) x GN 0 with
   | true=>
    (try simp only [go_sem,simprocAttr,ptr]);refine ao (by rfl) ?_;refine (rO h5 (show s.out.size+2≤_ by omega)).mono ?_;rintro r w6 ⟨h6,aH⟩;obtain ⟨vR,pv,vB,fo⟩:=h6.cells;have lM:((s.cZ ⟨#[40,41]⟩)).at'=s.at':=by first | rfl | (unfold Ws.aQ;split<;>rfl)
    have lN:IntKind.i64.wrap (((((s.cZ ⟨#[40,41]⟩)).at':Nat):Int)+1)=((((s.cZ ⟨#[40,41]⟩)).at'+1:Nat):Int):=by rw [lM];exact e2
    (try simp only [go_sem,simprocAttr,cell_of fo,ej,ptr,lN]);refine qA (s':=Ws.on (s.cZ ⟨#[40,41]⟩)) h6 rfl rfl rfl (by omega) (fun _ _ _=>rfl) rfl rfl ?_;intro wz hz lO;(try simp only [go_sem,simprocAttr]);refine ⟨?_,(Wl.trans aH).trans lO⟩;have hv:s.value cQ (FL L) items a=Ws.on (s.cZ ⟨#[40,41]⟩):=by
     unfold Ws.value;rw [U];simp only [if_neg h0,c1,c2,c3,if_true,if_false,Bool.false_eq_true]
    rw [hv];exact hz
   | false=>
   (try simp only [go_sem,simprocAttr,ptr]);refine ao (by rfl) ?_;refine (yO h5 ES).mono ?_;rintro _ w6 ⟨rfl,aH⟩;rw [Dz U];have tP:Mod (fun _=>False) w2 w6:=ni.trans aH;have h6:=h5.quiet aH;have tW:=ES.mod (aH.aB (fun _ hh=>hh.elim));have Wm:Mod (Wt lo mp) w w6:=Wl.trans (aH.aB (fun _ hh=>hh.elim));have Wn:∀ (w7:World),Mod (fun _=>False) w2 w7→(ez (FL L) x Dt 2||ez (FL L) x Du 3)=true→aD Tryz.prog 88 [ptr p,I ((FL L).of x.aQ)] w7 (fun r w'=>eJ lo w' p (.slice (some ad) items.length c) mp (s.tuple ((FL L).of x.aQ))∧Mod (Wt lo mp) w7 w'):=by
    intro w7 aZ hh;have hn:(FL L).of x.aQ=2∨(FL L).of x.aQ=3:=by
     rcases Bool.or_eq_true_iff.1 hh with h | h
     ·obtain ⟨e1,e2⟩:=wS h;rw [e1,e2];exact .inl rfl
     ·obtain ⟨e1,e2⟩:=wS h;rw [e1,e2];exact .inr rfl
    exact ai9 (h2.quiet aZ) (by omega) (by omega) (by omega)
   cases c4:ez (FL L) x Dt 2 with
   | true=>
    have pF:=rD tP;obtain ⟨vR6,pv6,vB6,mE⟩:=h6.cells;have Nx:w6.drew.heap[w.heap.size]? = _:=pF;have aje:w6.drew.heap[p]? = _:=mE;(try simp only [go_sem,simprocAttr,cell_of pF,cell_of Nx,cell_of mE,cell_of aje,ej,ptr]);refine AF (b:=mp) (l:=L) (kt:=9) (et:=3) rfl rfl Tryz.underlying80 Tryz.underlying9 (Tryz.zeroValue3 _) (pC tW.mp ((Mod.refl (fun _=>False) w6).drew) (fun h=>h)) ?_;refine ao (by rfl) ?_;refine (Wn w6.drew tP.drew (by rw [c4];rfl)).mono ?_;rintro r w7 ⟨h7,aZ⟩;obtain ⟨vR,pv,vB,fo⟩:=h7.cells;have lM:((s.tuple ((FL L).of x.aQ))).at'=s.at':=by first | rfl | (unfold Ws.aQ;split<;>rfl)
    have lN:IntKind.i64.wrap (((((s.tuple ((FL L).of x.aQ))).at':Nat):Int)+1)=((((s.tuple ((FL L).of x.aQ))).at'+1:Nat):Int):=by rw [lM];exact e2
    (try simp only [go_sem,simprocAttr,cell_of fo,ej,ptr,lN]);refine qA (s':=Ws.on (s.tuple ((FL L).of x.aQ))) h7 rfl rfl rfl (by omega) (fun _ _ _=>rfl) rfl rfl ?_;intro wz hz lO;(try simp only [go_sem,simprocAttr]);refine ⟨?_,(Wm.drew.trans aZ).trans lO⟩;have hv:s.value cQ (FL L) items a=Ws.on (s.tuple ((FL L).of x.aQ)):=by
     unfold Ws.value;rw [U];simp only [if_neg h0,c1,c2,c3,c4,Bool.true_or,if_true,if_false,Bool.false_eq_true]
    rw [hv];exact hz
   | false=>
   (try simp only [go_sem,simprocAttr,ptr]);refine ao (by rfl) ?_;refine (yO h6 tW).mono ?_;rintro _ w7 ⟨rfl,aZ⟩;rw [Dz U];have uE:Mod (fun _=>False) w2 w7:=tP.trans aZ;have h7:=h6.quiet aZ;have Wo:=tW.mod (aZ.aB (fun _ hh=>hh.elim));have Wp:Mod (Wt lo mp) w w7:=Wm.trans (aZ.aB (fun _ hh=>hh.elim));have uG:=rD uE;cases c5:ez (FL L) x Du 3 with
   | true=>
    obtain ⟨vR7,pv7,vB7,DA⟩:=h7.cells;have ajf:w7.drew.heap[w.heap.size]? = _:=uG;have ajg:w7.drew.heap[p]? = _:=DA;(try simp only [go_sem,simprocAttr,cell_of uG,cell_of ajf,cell_of DA,cell_of ajg,ej,ptr]);refine AF (b:=mp) (l:=L) (kt:=9) (et:=3) rfl rfl Tryz.underlying80 Tryz.underlying9 (Tryz.zeroValue3 _) (pC Wo.mp ((Mod.refl (fun _=>False) w7).drew) (fun h=>h)) ?_;refine ao (by rfl) ?_;refine (Wn w7.drew uE.drew (by rw [c5,Bool.or_true])).mono ?_;rintro r w8 ⟨h8,bY⟩;obtain ⟨vR,pv,vB,fo⟩:=h8.cells;have lM:((s.tuple ((FL L).of x.aQ))).at'=s.at':=by first | rfl | (unfold Ws.aQ;split<;>rfl)
    have lN:IntKind.i64.wrap (((((s.tuple ((FL L).of x.aQ))).at':Nat):Int)+1)=((((s.tuple ((FL L).of x.aQ))).at'+1:Nat):Int):=by rw [lM];exact e2
    (try simp only [go_sem,simprocAttr,cell_of fo,ej,ptr,lN]);refine qA (s':=Ws.on (s.tuple ((FL L).of x.aQ))) h8 rfl rfl rfl (by omega) (fun _ _ _=>rfl) rfl rfl ?_;intro wz hz lO;(try simp only [go_sem,simprocAttr]);refine ⟨?_,(Wp.drew.trans bY).trans lO⟩;have hv:s.value cQ (FL L) items a=Ws.on (s.tuple ((FL L).of x.aQ)):=by
     unfold Ws.value;rw [U];simp only [if_neg h0,c1,c2,c3,c4,c5,Bool.or_true,if_true,if_false,Bool.false_eq_true]
    rw [hv];exact hz
   | false=>
    (try simp only [go_sem,simprocAttr,cell_of uG,ptr]);refine ao (by rfl) ?_;refine (ai' h7 Wo ⟨k1,k2⟩ (by omega) (by omega)).mono ?_;rintro r w8 ⟨h8,bY⟩;obtain ⟨vR,pv,vB,fo⟩:=h8.cells;have lM:((s.aQ (FL L) x.aQ a)).at'=s.at':=by first | rfl | (unfold Ws.aQ;split<;>rfl)
    have lN:IntKind.i64.wrap (((((s.aQ (FL L) x.aQ a)).at':Nat):Int)+1)=((((s.aQ (FL L) x.aQ a)).at'+1:Nat):Int):=by rw [lM];exact e2
    (try simp only [go_sem,simprocAttr,cell_of fo,ej,ptr,lN]);refine qA (s':=Ws.on (s.aQ (FL L) x.aQ a)) h8 rfl rfl rfl (by omega) (fun _ _ _=>rfl) rfl rfl ?_;intro wz hz lO;(try simp only [go_sem,simprocAttr]);refine ⟨?_,(Wp.trans bY).trans lO⟩;have hv:s.value cQ (FL L) items a=Ws.on (s.aQ (FL L) x.aQ a):=by
     unfold Ws.value;rw [U];simp only [if_neg h0,c1,c2,c3,c4,c5,Bool.or_self,if_true,if_false,Bool.false_eq_true]
    rw [hv];exact hz
end
end
section
open Go Go.W
def iQ (l:List It):Nat:=(l.map fun x=>x.aQ.size).sum
def mN (l:List Td):Prop:=∀ t,Td.text t∈l→t.size≤2
theorem wU {a b:List Td} (h:mN a) (k:mN b):mN (a++b):=fun t ht=>by
 rcases List.mem_append.1 ht with h' | h'
 ·exact h t h'
 ·exact k t h'
theorem AT {a:List Td} (h:mN a):mN a.reverse:=fun t ht=>h t (List.mem_reverse.1 ht)
theorem AU {a:List Td} (h:mN a):mN a.dropLast:=fun t ht=>h t ((List.dropLast_sublist _).subset ht)
theorem Wq:∀ n,mN (mK n)
 | 0=>fun t ht=>by cases ht
 | n+1=>fun t ht=>by
  simp only [mK,List.mem_cons,Td.text.injEq,reduceCtorEq,false_or] at ht;rcases ht with rfl | ht
  ·decide
  ·exact Wq n t ht
theorem Ny:∀ n,mN (lj n)
 | 0=>fun t ht=>by cases ht
 | n+1=>fun t ht=>by
  simp only [lj,List.mem_cons,Td.text.injEq,reduceCtorEq,false_or] at ht;rcases ht with rfl | ht
  ·decide
  ·exact Ny n t ht
theorem Nz {t:ByteArray} (h:t.size≤2):mN [.text t]:=fun u hu=>by
 simp only [List.mem_cons,Td.text.injEq,List.not_mem_nil,or_false] at hu;rw [hu];exact h
theorem Wr {l:List Td} (h:mN l):mN (.val::l):=fun t ht=>by
 simp only [List.mem_cons,reduceCtorEq,false_or] at ht;exact h t ht
section
variable {itoa:Int→ByteArray} {f:fV} {items:List It}
structure DB (n:Nat) (s s':Ws):Prop where
 out:s'.out.size≤s.out.size+n
 tx:mN s.row→mN s'.row
 cX:s'.cX≤s.cX+1
theorem ajh {s:Ws} {a:Bool} {x:It} (U:items[s.at']? = some x) (hi:x.aQ=⟨#[]⟩→(itoa x.num).size≤21):DB (24+x.aQ.size) s (s.value itoa f items a):=by
 unfold Ws.value;rw [U];simp only;have hz:∀ (t:ByteArray),t.size≤24→DB (24+x.aQ.size) s (s.cZ t).on:=fun t ht=>⟨by show (s.out++t).size≤_;rw [fX];omega,fun h=>h,by show s.cX≤_;omega⟩
 by_cases h1:x.aQ=⟨#[]⟩
 ·rw [if_pos h1];refine hz _ ?_;have:=hi h1;unfold AP
  split
  ·rw [fX,fX];show 1+_+1≤_;omega
  ·omega
 rw [if_neg h1];by_cases h2:ez f x wQ 0=true
 ·rw [if_pos h2];exact hz _ (by decide)
 rw [if_neg h2];by_cases h3:ez f x uM 2=true
 ·rw [if_pos h3];refine ⟨?_,fun h=>?_,by show s.cX≤_;omega⟩
  ·show (s.out++_).size≤_;rw [fX];show _+1≤_;omega
  ·exact wU h (AT (fun t ht=>by simp at ht))
 rw [if_neg h3];by_cases h4:ez f x GN 0=true
 ·rw [if_pos h4];exact hz _ (by decide)
 rw [if_neg h4];by_cases h5:(ez f x Dt 2||ez f x Du 3)=true
 ·rw [if_pos h5];refine ⟨?_,fun h=>?_,by show s.cX≤_;omega⟩
  ·show (s.out++_).size≤_;rw [fX];show _+1≤_;omega
  ·exact wU h (AT (wU (Wr (Wq _)) (Nz (by decide))))
 rw [if_neg h5];unfold Ws.aQ
 split
 ·refine ⟨?_,fun h=>?_,by show s.cX≤_;omega⟩
  ·show (s.out++_).size≤_;rw [fX,fX];show _+(1+_)≤_;omega
  ·exact wU h (AT (wU (Ny _) (Nz (by decide))))
 ·refine ⟨?_,fun h=>?_,by show s.cX≤_;omega⟩
  ·show (s.out++_).size≤_;rw [fX];omega
  ·exact wU h (AT (Ny _))
structure AV (itoa:Int→ByteArray) (f:fV) (items:List It) (k:Nat) (s:Ws):Prop where
 inv:sX f items s
 mu:s.mu items+k≤64*items.length+2
 out:s.out.size≤32*k+iQ (items.take s.at')
 tx:mN s.row
 cX:s.cX≤k
theorem Wu:AV itoa f items 0 lK:=⟨V',by show 64*(items.length - 0)+2+0≤_;omega,Nat.zero_le _,fun t ht=>by simp [lK] at ht,Int.le_refl _⟩
theorem Wv {k:Nat} {x:It} (h:items[k]? = some x):iQ (items.take (k+1))=iQ (items.take k)+x.aQ.size:=by
 obtain ⟨hl,rfl⟩:=List.getElem?_eq_some_iff.1 h;unfold iQ;rw [List.take_succ_eq_append_getElem hl,List.map_append,List.sum_append];simp
theorem Ww (k:Nat):iQ (items.take k)≤iQ items:=by
 unfold iQ
 conv=>rhs;rw [← List.take_append_drop k items,List.map_append,List.sum_append]
 omega
theorem aji (jq:∀ x∈items,x.aQ=⟨#[]⟩→(itoa x.num).size≤21) {s:Ws} (ht:mN s.row) (hr:s.row≠[]):DB (32+(iQ (items.take (s.step itoa f items).at') - iQ (items.take s.at'))) s (s.step itoa f items)∧iQ (items.take s.at')≤iQ (items.take (s.step itoa f items).at'):=by
 unfold Ws.step;cases hl:s.row.getLast? with
 | none=>exact absurd (List.getLast?_eq_none_iff.1 hl) hr
 | some t=>
 have ee:t∈s.row:=List.mem_of_getLast? hl;have val:∀ a,DB (32+(iQ (items.take (Ws.value itoa f items { s with row:=s.row.dropLast} a).at') - iQ (items.take s.at'))) s (Ws.value itoa f items { s with row:=s.row.dropLast} a)∧iQ (items.take s.at')≤iQ (items.take (Ws.value itoa f items { s with row:=s.row.dropLast} a).at'):=by
  intro a;cases U:items[s.at']? with
  | none=>
   have e:Ws.value itoa f items { s with row:=s.row.dropLast} a = { { s with row:=s.row.dropLast}.cZ ⟨#[95]⟩ with cX:=s.cX+1}:=by
    unfold Ws.value;simp only [U]
   rw [e];refine ⟨⟨?_,fun h=>AU h,Int.le_refl _⟩,Nat.le_refl _⟩;show (s.out++_).size≤_;rw [fX];show _+1≤_;omega
  | some x=>
   have hw:=ajh (itoa:=itoa) (f:=f) (items:=items) (s:={ s with row:=s.row.dropLast}) (a:=a) U (jq x (List.mem_of_getElem? U));have cr:(Ws.value itoa f items { s with row:=s.row.dropLast} a).at'=s.at'+1:=by
    unfold Ws.value;simp only [U]
    split
    ·rfl
    split
    ·rfl
    split
    ·rfl
    split
    ·rfl
    split
    ·rfl
    ·unfold Ws.aQ;split<;>rfl
   rw [cr,Wv U];have h1:(Ws.value itoa f items { s with row:=s.row.dropLast} a).out.size≤s.out.size+(24+x.aQ.size):=hw.out;exact ⟨⟨by omega,fun h=>hw.tx (AU h),hw.cX⟩,by omega⟩
 cases t with
 | text t=>
  simp only;refine ⟨⟨?_,fun h=>AU h,by show s.cX≤_;omega⟩,Nat.le_refl _⟩;show (s.out++t).size≤_;rw [fX];have:=ht t ee;omega
 | val=>exact val false
 | arg=>exact val true
 | rest=>
  simp only;unfold Ws.wR;have Dv:DB (32+(iQ (items.take s.at') - iQ (items.take s.at'))) s ((Ws.cZ { s with row:=s.row.dropLast} ⟨#[32,124,32]⟩).later [.val,.text ⟨#[93]⟩]):=by
   refine ⟨?_,fun h=>wU (AU h) (AT (Wr (Nz (by decide)))),by show s.cX≤_;omega⟩;show (s.out++_).size≤_;rw [fX];show _+3≤_;omega
  cases U:items[s.at']? with
  | none=>simp only [U];exact ⟨Dv,Nat.le_refl _⟩
  | some x=>
   simp only [U];have hs:=Wv U
   split
   ·refine ⟨⟨?_,fun h=>wU (AU h) (AT (fun t ht=>by simp at ht)),by show s.cX≤_;omega⟩,by show _≤iQ (items.take (s.at'+1));omega⟩;show (s.out++_).size≤_;rw [fX];show _+2≤_;omega
   split
   ·refine ⟨⟨?_,fun h=>AU h,by show s.cX≤_;omega⟩,by show _≤iQ (items.take (s.at'+1));omega⟩;show (s.out++_).size≤_;rw [fX];show _+1≤_;omega
   ·exact ⟨Dv,Nat.le_refl _⟩
theorem Wx (hi:∀ n,0 < (itoa n).size) (jq:∀ x∈items,x.aQ=⟨#[]⟩→(itoa x.num).size≤21) (hk:kE f items=true) {k:Nat} {s:Ws} (h:AV itoa f items k s) (hr:s.row≠[]):AV itoa f items (k+1) (s.step itoa f items):=by
 obtain ⟨h1,h2⟩:=GO hi hk h.inv hr;obtain ⟨h3,h4⟩:=aji (itoa:=itoa) (f:=f) jq h.tx hr;refine ⟨h1,by have:=h.mu;omega,?_,h3.tx h.tx,by have:=h3.cX;have:=h.cX;omega⟩;have:=h3.out;have:=h.out;omega
theorem NA:∀ (n:Nat) (s:Ws),s.steps itoa f items (n+1)=(s.steps itoa f items n).step itoa f items
 | 0,s=>rfl
 | n+1,s=>by
  rw [Ws.steps,NA n (s.step itoa f items)];rfl
theorem Wy:∀ (a b:Nat) (s:Ws),s.steps itoa f items (a+b)=(s.steps itoa f items a).steps itoa f items b
 | 0,b,s=>by rw [Nat.zero_add];rfl
 | a+1,b,s=>by
  rw [show a+1+b=(a+b)+1 by omega,Ws.steps,Wy a b];rfl
theorem Wz {k:Nat} (hk:k≤64*items.length+2) (hr:(lK.steps itoa f items k).row=[]):lp itoa f items=lK.steps itoa f items k:=by
 unfold lp;rw [show 64*items.length+2=k+(64*items.length+2 - k) by omega,Wy,Nj hr]
theorem ajj {s:Ws}:s.row.length≤s.mu items:=by
 unfold Ws.mu;have:s.row.length≤(s.row.map Td.nN).sum:=by
  induction s.row with
  | nil=>exact Nat.zero_le _
  | cons t l ih=>
   rw [List.map_cons,List.sum_cons,List.length_cons];have:1≤t.nN:=by cases t<;>simp [Td.nN]
   omega
 omega
end
end
section
open Go Go.W Go.RowKit
structure ItF (L:List (ByteArray×Int)) (items:List It):Prop where
 known:kE (FL L) items=true
 len:items.length≤4194304
 sum:iQ items≤17592186044416
theorem GX (n:Int):0 < (cQ n).size:=by
 show 0 < (Lib.itoa n).length;unfold Lib.itoa
 split
 ·simp
 ·rw [Lib.decDigits_length];exact Lib.nDigits_pos _
theorem NB {f:fV} {items:List It} (h:kE f items=true) {x:It} (U:x∈items) (h0:x.aQ=⟨#[]⟩) : -4611686018427387904≤x.num∧x.num≤4611686018427387903:=by
 unfold kE at h;have:=List.all_eq_true.1 h x U;rw [if_pos h0] at this
 simpa using this
theorem ajk {items:List It} {x:It} (U:x∈items):x.aQ.size≤iQ items:=by
 induction items with
 | nil=>cases U
 | cons y l ih=>
  unfold iQ at ih ⊢;rw [List.map_cons,List.sum_cons];rcases List.mem_cons.1 U with rfl | h
  ·omega
  ·have:=ih h;omega
section
variable {lo p mp:Nat} {w:World} {vI:Value} {s:Ws} {items:List It} {L:List (ByteArray×Int)}
theorem ajl (h:eJ lo w p vI mp ⟨0,0,[],⟨#[]⟩⟩) (hi:qy lo w vI mp items L) (ht:oG lo w) (hf:ItF L items):aD Tryz.prog 31 [ptr p] w fun r w'=>eJ lo w' p vI mp (lp cQ (FL L) items)∧Mod (Wt lo mp) w w':=by
 have jq:∀ x∈items,x.aQ=⟨#[]⟩→(cQ x.num).size≤21:=fun x U h0=>by
  have:=NB hf.known U h0;exact Nu _ ⟨by omega,by omega⟩
 have hk:=hf.known;have hlen:=hf.len;refine ah3.calls rfl ?_;unfold MO;(try simp only [go_sem,simprocAttr]);refine dL (by rfl) (by rfl) ?_;intro w1 aq ag cL;have l1:nQ w w1 _ [.val]:=Dx (Mod.refl _ _) aq ag rfl;(try simp only [go_sem,simprocAttr,ptr]);refine ao (by rfl) ?_;refine (Dy h l1 (by decide) (by decide)).mono ?_;rintro r w2 ⟨h2,ae⟩;(try simp only [go_sem,simprocAttr,ptr]);refine dz (fun z ρ w'=>∃ (k:Nat) (s:Ws),z=s.mu items∧s=lK.steps cQ (FL L) items k∧AV cQ (FL L) items k s∧eJ lo w' p vI mp s∧Mod (Wt lo mp) w w'∧ρ=[(0,ptr p)]) (lK.mu items) ⟨0,lK,rfl,rfl,Wu,h2,ae,rfl⟩ ?_;rintro z ρ w3 ⟨k,s,rfl,hs,cg,h3,ab,rfl⟩;have pb:=hi.mod ab;have wV:=ht.mod ab;have PK:=cg.mu;have PZ:=ajj (items:=items) (s:=s);obtain ⟨vR,pv,vB,fR,fB,hF⟩:=h3;have eh:=hF.cells;unfold VO;cases hl:s.row.getLast? with
 | none=>
  have h0:s.row=[]:=List.getLast?_eq_none_iff.1 hl;obtain ⟨va,vc,rfl,_,_⟩:=hF.row.val;have e1:decide ((s.row.length:Int) > 0)=false:=by rw [h0];rfl
  (try simp only [go_sem,simprocAttr,cell_of eh,ej,ptr,e1]);have uN:lp cQ (FL L) items=s:=by
   rw [hs] at h0 ⊢;exact Wz (by omega) h0
  refine ⟨?_,ab⟩;rw [uN];exact ⟨_,_,_,_,_,hF⟩
 | some t=>
  have gg:=Wa hl;have bq:s.row≠[]:=fun e=>by rw [e] at hl;cases hl
  obtain ⟨m,hm⟩:∃ m,s.row.length=m+1:=⟨s.row.length - 1,by have:=List.length_pos_iff.2 bq;omega⟩;obtain ⟨b,c,cN,rfl,rfl,r3,r4,r5⟩:∃ b c cN,vR = .slice (some ⟨b,0,none⟩) s.row.length c∧fR=some b∧w3.heap[b]? = some (.cells (s.row.flatMap iP++cN).toArray 122 (0,0))∧c*2≤(s.row.flatMap iP++cN).length∧s.row.length≤c:=by
   rcases hF.row.2 with ⟨_,h',_⟩ | h'
   ·omega
   ·exact h'
  have WA:¬ c=0:=by omega
  have WB:s.row.dropLast.length=m:=by rw [List.length_dropLast];omega
  have gq:s.row.flatMap iP=s.row.dropLast.flatMap iP++iP t:=by
   conv=>lhs;rw [gg,List.flatMap_append]
   simp
  have NC:(s.row.dropLast.flatMap iP).length=m*2:=by rw [Ns,WB]
  have dI:cB w3 2 (.pointer (some ⟨b,m*2,none⟩))=some (.agg #[I (mL t),.string (mM t)]):=by
   have hh:=cell_of r3;rw [gq,Nn] at hh;refine uC ?_ ?_
   ·rw [Addr.add_zero'];refine (hh _).trans ?_;rw [List.getElem?_toArray,List.append_assoc,List.getElem?_append_right (by omega),NC,Nat.sub_self];rfl
   ·rw [Addr.add_lit];refine (hh _).trans ?_;rw [List.getElem?_toArray,List.append_assoc,List.getElem?_append_right (by omega),NC,show m*2+1 - m*2=1 by omega];rfl
  have e1:decide (((m+1:Nat):Int) > 0)=true:=by rw [decide_eq_true_eq];omega
  have e2:IntKind.i64.wrap (((m+1:Nat):Int) - 1)=(m:Int):=by rw [IntKind.wrap_i64];omega
  have ajm:=Wx GX jq hk cg bq;have ajn:=(GO GX hk cg.inv bq).2;have e3:(0:Int)≤(m:Int)∧(m:Int) < ((m+1:Nat):Int):=by omega
  have e4:(m:Int)≤(c:Int):=by omega
  rw [hm] at eh;(try simp only [go_sem,simprocAttr,cell_of eh,ej,ptr,e1,e2,e3,e4,WA,decide_true,Int.toNat_natCast,dI]);have hpb:p≠b:=fun e=>(hF.fr b rfl).2.1 e.symm
  have bQ:=lt_of_heap eh;refine de ?_;intro w4 rK aj eA;have yQ:w4.heap[w3.heap.size]? = some (.cells [I 0,.string ⟨#[]⟩].toArray 122 (0,0)):=rK;refine cu (vs:=[I (mL t),.string (mM t)]) rfl rfl yQ rfl rfl (by intro u hu;simp only [List.mem_cons,List.not_mem_nil,or_false] at hu;rcases hu with rfl | rfl<;>rfl) ?_;intro w5 hD ay iq;have gD:Mod (fun _=>False) w3 w5:=aj.step ay (fun b hb ah=>by omega);have gU:=gD.at eh (fun hh=>hh);(try simp only [go_sem,simprocAttr,cell_of gU,ej,e4,WA,Option.map_some,Nat.sub_zero]);refine bL (off:=4) rfl rfl gU rfl (by simp [ej]) ?_;intro w6 mE aH mV;have pF:=aH.at hD (fun hh=>by omega);have ND:=hF.later (gD.aB (fun _ hh=>hh.elim));have yE:oC lo w6 p vI mp { s with row:=s.row.dropLast} (.slice (some ⟨b,0,none⟩) m c) pv vB (some b) fB:=by
   refine ⟨mE,hF.pv,?_,ND.buf.mod aH (fun b hb hh=>(hF.fb b hb).2.1 hh),hF.pH,hF.oD,by have:=ND.oE;omega,by have:=ND.nO;omega,hF.fr,hF.fb⟩;show ax w6 _ 2 _ (s.row.dropLast.flatMap iP) s.row.dropLast.length _;rw [WB];refine ⟨NC,.inr ⟨b,c,iP t++cN,rfl,rfl,?_,?_,by omega⟩⟩
   ·have:=aH.at (gD.at r3 (fun hh=>hh)) (fun hh=>hpb hh.symm);rw [this,gq,List.append_assoc]
   ·rw [gq,List.append_assoc] at r4;exact r4
  have h6:eJ lo w6 p vI mp { s with row:=s.row.dropLast}:=⟨_,_,_,_,_,yE⟩;have NE:Mod (Wt lo mp) w3 w6:=(gD.aB (fun _ hh=>hh.elim)).trans (aH.aB (fun b hb=>by subst hb;exact ⟨hF.pH,fun e=>hF.oD e.symm⟩));have tW:=pb.mod NE;have NF:=wV.mod NE;have gH:=ab.trans NE;have L0:=cg.out;have yH:=Ww (items:=items) s.at';have pc:=hf.sum;have aon:=cg.cX;have WC:=cg.inv.cX;have hle:=cg.inv.le;have WD:∀ x,items[s.at']? = some x→(x.aQ=⟨#[]⟩ → -4611686018427387904≤x.num∧x.num≤4611686018427387903)∧(x.aQ≠⟨#[]⟩→0≤(FL L).of x.aQ∧(FL L).of x.aQ≤8)∧x.aQ.size≤35184372088832:=fun x U=>by
   have ee:=List.mem_of_getElem? U;refine ⟨fun h0=>NB hk ee h0,fun h0=>(V4 hk U).resolve_left h0,?_⟩;have:=ajk ee;omega
  have yd:∀ w':World,eJ lo w' p vI mp (s.step cQ (FL L) items)→Mod (Wt lo mp) w w'→∃ m,m < s.mu items∧∃ (k:Nat) (s':Ws),m=s'.mu items∧s'=lK.steps cQ (FL L) items k∧AV cQ (FL L) items k s'∧eJ lo w' p vI mp s'∧Mod (Wt lo mp) w w':=
   fun w' g1 g2=>⟨_,ajn,k+1,_,rfl,by rw [NA,← hs],ajm,g1,g2⟩
  have NG:s.row.dropLast.length≤2147483648:=by omega
  have b00:((0:Int) == 0)=true:=rfl;have b10:((1:Int) == 0)=false:=rfl;have b13:((1:Int) == 3)=false:=rfl;have b12:((1:Int) == 2)=false:=rfl;have b20:((2:Int) == 0)=false:=rfl;have b23:((2:Int) == 3)=false:=rfl;have b22:((2:Int) == 2)=true:=rfl;have b30:((3:Int) == 0)=false:=rfl;have b33:((3:Int) == 3)=true:=rfl;cases t with
  | text tx=>
   have Nx:w6.drew.heap[w3.heap.size]? = _:=pF;have hsx:=cg.tx tx (List.mem_of_getLast? hl);(try simp only [go_sem,simprocAttr,cell_of pF,cell_of Nx,mL,mM,ptr,b00]);refine ao (by rfl) ?_;refine (rO (h6.quiet (Mod.refl _ _).drew) (show s.out.size+tx.size≤_ by omega)).mono ?_;rintro r w7 ⟨h7,aZ⟩;(try simp only [go_sem,simprocAttr]);refine yd w7 ?_ (gH.drew.trans aZ);unfold Ws.step;rw [hl];exact h7
  | val=>
   (try simp only [go_sem,simprocAttr,cell_of pF,mL,mM,ptr,b10,b13,b12]);refine ao (by rfl) ?_;refine (Wh (a:=false) h6 tW NF hle ⟨WC,(show s.cX≤_ by omega)⟩ WD (show s.out.size≤_ by omega) NG).mono ?_;rintro r w7 ⟨h7,aZ⟩;(try simp only [go_sem,simprocAttr]);refine yd w7 ?_ (gH.trans aZ);unfold Ws.step;rw [hl];exact h7
  | arg=>
   (try simp only [go_sem,simprocAttr,cell_of pF,mL,mM,ptr,b20,b23,b22]);refine ao (by rfl) ?_;refine (Wh (a:=true) h6 tW NF hle ⟨WC,(show s.cX≤_ by omega)⟩ WD (show s.out.size≤_ by omega) NG).mono ?_;rintro r w7 ⟨h7,aZ⟩;(try simp only [go_sem,simprocAttr]);refine yd w7 ?_ (gH.trans aZ);unfold Ws.step;rw [hl];exact h7
  | rest=>
   (try simp only [go_sem,simprocAttr,cell_of pF,mL,mM,ptr,b30,b33]);refine ao (by rfl) ?_;refine (aja h6 tW (show s.out.size≤_ by omega) NG).mono ?_;rintro r w7 ⟨h7,aZ⟩;(try simp only [go_sem,simprocAttr]);refine yd w7 ?_ (gH.trans aZ);unfold Ws.step;rw [hl];exact h7
end
end
section
open Go Go.W Go.RowKit
def lq (f:fV) (x:It):Bool:=if x.aQ=⟨#[]⟩ then decide (-4611686018427387904≤x.num)&&decide (x.num≤4611686018427387903)
 else decide (x.num=0)&&(match f x.aQ with
  | none=>false
  | some n=>decide (0≤n)&&decide (n≤8))
theorem WE (f:fV) (items:List It):kE f items=items.all (lq f):=rfl
theorem ajo {f:fV} {items:List It} {i:Nat} {x:It} (U:items[i]? = some x) (h:(items.take i).all (lq f)=true) (hm:lq f x=true):(items.take (i+1)).all (lq f)=true:=by
 obtain ⟨hl,rfl⟩:=List.getElem?_eq_some_iff.1 U;rw [List.take_succ_eq_append_getElem hl,List.all_append,h];simp [hm]
theorem NH {f:fV} {items:List It} {i:Nat} {x:It} (U:items[i]? = some x) (hm:lq f x=false):kE f items=false:=by
 rw [WE];cases h:items.all (lq f) with
 | false=>rfl
 | true=>
  have:=List.all_eq_true.1 h x (List.mem_of_getElem? U);rw [hm] at this;cases this
section
variable {lo p mp:Nat} {w:World} {vI:Value} {s:Ws} {items:List It} {L:List (ByteArray×Int)}
theorem ajp (h:eJ lo w p vI mp s) (hi:qy lo w vI mp items L):aD Tryz.prog 30 [ptr p] w fun r w'=>r = .bool (kE (FL L) items)∧Mod (fun _=>False) w w':=by
 have hl:=hi.len;obtain ⟨vR,pv,vB,hc⟩:=h.cells;obtain ⟨va,vc,NI⟩:=Nr hi;subst NI;have Nv:lo≤w.heap.size∧p < w.heap.size∧mp < w.heap.size:=by
  obtain ⟨_,_,_,_,_,hF⟩:=h;exact ⟨hF.nO,lt_of_heap hF.cells,hF.oE⟩
 refine ah2.calls rfl ?_;unfold MN;simp only [go_sem,simprocAttr,cell_of hc,ej,ptr];refine dz (fun z ρ w'=>∃ (i:Nat),z=items.length - i∧i≤items.length∧Mod (fun _=>False) w w'∧(items.take i).all (lq (FL L))=true∧ρ=[(0,ptr p),(10,.slice va items.length vc),(11,I items.length),(12,I i)]) items.length ⟨0,rfl,Nat.zero_le _,Mod.refl _ _,rfl,rfl⟩ ?_;rintro z ρ w1 ⟨i,rfl,bS,hm,cA,rfl⟩;have h1:=h.quiet hm;have qX:=hi.mod (hm.aB (fun _ hh=>hh.elim));unfold VN;rcases Nat.lt_or_ge i items.length with ah | hge
 ·obtain ⟨x,U⟩:∃ x,items[i]? = some x:=⟨_,List.getElem?_eq_getElem ah⟩;obtain ⟨ad,c,uO,wi,hU,im⟩:=Nq qX U;cases uO;have e1:decide ((i:Int) < items.length)=true:=by rw [decide_eq_true_eq];omega
  have e2:IntKind.i64.wrap ((i:Int)+1)=((i+1:Nat):Int):=by rw [IntKind.wrap_i64];omega
  have e3:(0:Int)≤i∧(i:Int) < items.length:=by omega
  have dI:cB w1 2 (.pointer (some (ad.add (i*2))))=some (.agg #[.string x.aQ,I x.num]):=
   uC (by rw [Addr.add_zero'];exact hU) im
  simp only [go_sem,simprocAttr,e1,e3,decide_true,Int.toNat_natCast,dI];refine de ?_;intro w2 rK ae dh;have yQ:w2.heap[w1.heap.size]? = some (.cells [.string ⟨#[]⟩,I 0].toArray 42 (0,0)):=rK;refine cu (vs:=[.string x.aQ,I x.num]) rfl rfl yQ rfl rfl (by intro u hu;simp only [List.mem_cons,List.not_mem_nil,or_false] at hu;rcases hu with rfl | rfl<;>rfl) ?_;intro w3 hD ab gj;have dU:Mod (fun _=>False) w1 w3:=ae.step ab (fun b hb ah=>by omega);have du:=hm.trans dU;have pb:=qX.mod (dU.aB (S':=Wt lo mp) (fun _ hh=>hh.elim));have eh:=du.at hc (fun hh=>hh);have next:∀ w',Mod (fun _=>False) w w'→lq (FL L) x=true→∃ m,m < items.length - i∧∃ i',m=items.length - i'∧i'≤items.length∧Mod (fun _=>False) w w'∧(items.take i').all (lq (FL L))=true∧([(0,ptr p),(10,.slice (some ad) items.length vc),(11,I items.length),(12,I ((i+1:Nat):Int))]:Go.W.Env)=[(0,ptr p),(10,.slice (some ad) items.length vc),(11,I items.length),(12,I i')]:=
   fun w' g1 g2=>⟨_,by omega,i+1,rfl,by omega,g1,ajo U cA g2,rfl⟩
  by_cases h0:x.aQ=⟨#[]⟩
  ·have b0:decide (x.aQ=⟨#[]⟩)=true:=by simp [h0]
   by_cases n1:x.num < -4611686018427387904
   ·have b1:decide (x.num < -4611686018427387904)=true:=by simp;omega
    simp only [go_sem,simprocAttr,cell_of hD,nP,b0,b1];refine ⟨?_,du⟩;rw [NH U (by unfold lq;rw [if_pos h0];simp;omega)]
   ·have b1:decide (x.num < -4611686018427387904)=false:=by simp;omega
    by_cases n2:x.num > 4611686018427387903
    ·have b2:decide (x.num > 4611686018427387903)=true:=by simp;omega
     simp only [go_sem,simprocAttr,cell_of hD,nP,b0,b1,b2];refine ⟨?_,du⟩;rw [NH U (by unfold lq;rw [if_pos h0];simp;omega)]
    ·have b2:decide (x.num > 4611686018427387903)=false:=by simp;omega
     simp only [go_sem,simprocAttr,cell_of hD,nP,b0,b1,b2,e2];exact next w3 du (by unfold lq;rw [if_pos h0];simp;omega)
  ·have b0:decide (x.aQ=⟨#[]⟩)=false:=by simp [h0]
   have jy:w3.drew.heap[w1.heap.size]? = _:=hD;have ajq:w3.drew.heap[p]? = _:=eh;simp only [go_sem,simprocAttr,cell_of hD,cell_of jy,cell_of eh,cell_of ajq,ej,ptr,nP,b0];refine Vp (b:=mp) (l:=L) (kt:=9) (et:=3) rfl rfl Tryz.underlying80 Tryz.underlying9 (Tryz.zeroValue3 _) (pC pb.mp ((Mod.refl (fun _=>False) w3).drew) (fun h=>h)) ?_;have no:lq (FL L) x=false→Value.bool false=Value.bool (kE (FL L) items)∧Mod (fun _=>False) w w3.drew:=fun hh=>⟨by rw [NH U hh],du.drew⟩
   by_cases n0:x.num=0
   ·have b1:(x.num != 0)=false:=by simp [n0]
    cases hg:gX L x.aQ with
    | none=>
     simp only [go_sem,simprocAttr,cell_of jy,Bool.not_false,Bool.not_true,Option.getD_none,Option.isSome_none,b1];exact no (by unfold lq;rw [if_neg h0];show (_&&match gX L x.aQ with | none=>false | some n=>_)=_;rw [hg];simp)
    | some n=>
     by_cases n1:n < 0
     ·have b2:decide (n < 0)=true:=by simp;omega
      simp only [go_sem,simprocAttr,cell_of jy,Bool.not_false,Bool.not_true,Option.getD_some,Option.isSome_some,b1,b2];exact no (by unfold lq;rw [if_neg h0];show (_&&match gX L x.aQ with | none=>false | some n=>_)=_;rw [hg];simp;omega)
     ·have b2:decide (n < 0)=false:=by simp;omega
      by_cases n2:n > 8
      ·have b3:decide (n > 8)=true:=by simp;omega
       simp only [go_sem,simprocAttr,cell_of jy,Bool.not_false,Bool.not_true,Option.getD_some,Option.isSome_some,b1,b2,b3];exact no (by unfold lq;rw [if_neg h0];show (_&&match gX L x.aQ with | none=>false | some n=>_)=_;rw [hg];simp;omega)
      ·have b3:decide (n > 8)=false:=by simp;omega
       simp only [go_sem,simprocAttr,cell_of jy,Bool.not_false,Bool.not_true,Option.getD_some,Option.isSome_some,b1,b2,b3,e2];exact next w3.drew du.drew (by unfold lq;rw [if_neg h0];show (_&&match gX L x.aQ with | none=>false | some n=>_)=_;rw [hg];simp;omega)
   ·have b1:(x.num != 0)=true:=by simp [n0]
    simp only [go_sem,simprocAttr,cell_of jy,b1];exact no (by unfold lq;rw [if_neg h0];simp [n0])
 ·obtain rfl:i=items.length:=by omega
  have e1:decide (((items.length:Nat):Int) < items.length)=false:=by simp
  simp only [go_sem,simprocAttr,e1];refine ⟨?_,hm⟩;rw [WE];rw [List.take_length] at cA;rw [cA]
end
end
section
open Go Go.W Go.RowKit
theorem WG {l:List kz} {i:Nat} {x:kz} (U:l[i]? = some x) (k:ByteArray):pG (l.take (i+1)) k=(match pG (l.take i) k with
   | some n=>some n
   | none=>if x.name=k then some x.fields else none):=by
 obtain ⟨hl,rfl⟩:=List.getElem?_eq_some_iff.1 U;unfold pG;rw [List.take_succ_eq_append_getElem hl,List.find?_append];cases h:(l.take i).find? (fun x=>decide (x.name=k)) with
 | some y=>rfl
 | none=>
  simp only [Option.none_or,Option.map_none,List.find?_cons,List.find?_nil];by_cases h2:l[i].name=k
  ·simp [h2]
  ·simp [h2]
theorem ajr {l:List (ByteArray×Int)} {k:ByteArray} {v:Int} (h:gX l k=none) (q:ByteArray):gX (uD l k v) q=(match gX l q with
   | some n=>some n
   | none=>if k=q then some v else none):=by
 have hn:l.find? (fun p=>decide (p.1=k))=none:=by
  unfold gX at h;cases hh:l.find? (fun p=>decide (p.1=k)) with
  | none=>rfl
  | some y=>rw [hh] at h;cases h
 have hi:l.findIdx? (fun p=>decide (p.1=k))=none:=by
  rw [List.findIdx?_eq_none_iff];intro x U;exact Bool.eq_false_iff.2 (List.find?_eq_none.1 hn x U)
 unfold uD;rw [hi];unfold gX;rw [List.find?_append];cases hq:l.find? (fun p=>decide (p.1=q)) with
 | some y=>rfl
 | none=>
  simp only [Option.none_or,Option.map_none,List.find?_cons,List.find?_nil];by_cases h2:k=q
  ·simp [h2]
  ·simp [h2]
theorem WH {itoa:Int→ByteArray} {f:fV} {items:List It} (hi:∀ n,0 < (itoa n).size) (jq:∀ x∈items,x.aQ=⟨#[]⟩→(itoa x.num).size≤21) (hk:kE f items=true):∀ n,∃ k,k≤n∧AV itoa f items k (lK.steps itoa f items n)
 | 0=>⟨0,Nat.le_refl _,Wu⟩
 | n+1=>by
  obtain ⟨k,h1,h2⟩:=WH hi jq hk n;rw [NA];by_cases hr:(lK.steps itoa f items n).row=[]
  ·have:(lK.steps itoa f items n).step itoa f items=lK.steps itoa f items n:=by unfold Ws.step;rw [hr];rfl
   rw [this];exact ⟨k,by omega,h2⟩
  ·exact ⟨k+1,by omega,Wx hi jq hk h2 hr⟩
theorem ajs {itoa:Int→ByteArray} {f:fV} {items:List It} (hi:∀ n,0 < (itoa n).size) (jq:∀ x∈items,x.aQ=⟨#[]⟩→(itoa x.num).size≤21) (hk:kE f items=true) (hl:items.length≤4194304) (hs:iQ items≤17592186044416):(lp itoa f items).out.size≤140737488355328:=by
 obtain ⟨k,h1,h2⟩:=WH hi jq hk (64*items.length+2);have:=h2.out;have:=Ww (items:=items) (lp itoa f items).at';show (lK.steps itoa f items (64*items.length+2)).out.size≤_;have e:(lp itoa f items)=lK.steps itoa f items (64*items.length+2):=rfl;rw [e] at this;omega
section
variable {lo p mp:Nat} {w:World} {vI vS:Value} {s:Ws} {items:List It} {aC:List kz} {L:List (ByteArray×Int)}
theorem ajt {B:Nat→Prop} (h:dB w vS 2 (aC.map jc) B) {k:Nat} {x:kz} (U:aC[k]? = some x):∃ ad c,vS = .slice (some ad) aC.length c∧w.cell? (ad.add (k*2))=some (.string x.name)∧w.cell? ((ad.add (k*2)).add 1)=some (I x.fields):=by
 obtain ⟨hl,rfl⟩:=List.getElem?_eq_some_iff.1 U;obtain ⟨a,c,h1,h3,h2⟩:=h;obtain ⟨ad,rfl,_,h4⟩:=h2 k (by simpa using hl);refine ⟨ad,c,by simpa using h1,?_,?_⟩
 ·have:=h4 0 (by simp [jc]);rw [Addr.add_zero'] at this
  simpa [jc] using this
 ·simpa [jc] using h4 1 (by simp [jc])
theorem eJ.map {w':World} (h:eJ lo w p vI mp s) (hm:Mod (· = mp) w w'):eJ lo w' p vI mp s:=by
 obtain ⟨vR,pv,vB,fR,fB,h⟩:=h;exact ⟨_,_,_,_,_,⟨hm.at h.cells (fun hh=>h.oD hh.symm),h.pv,h.row.mod hm (fun b hb hh=>(h.fr b hb).2.2 hh),h.buf.mod hm (fun b hb hh=>(h.fb b hb).2.2.1 hh),h.pH,h.oD,by have:=h.oE;have:=hm.size;omega,by have:=h.nO;have:=hm.size;omega,h.fr,h.fb⟩⟩
theorem aju (hI:dB w vI 2 (items.map fe) (· < w.heap.size)) (hS:dB w vS 2 (aC.map jc) (· < w.heap.size)) (ht:oG w.heap.size w) (hlen:items.length≤4194304) (hls:aC.length≤4294967296) (yH:iQ items≤17592186044416) :
   aD Tryz.prog 14 [vI,vS] w fun r w'=>r = .tuple #[.string (yM cQ aC items).1,I (yM cQ aC items).2]∧Mod (fun _=>False) w w':=by
 obtain ⟨lo,wi⟩:∃ lo,lo=w.heap.size:=⟨_,rfl⟩;obtain ⟨a1,c1,mA⟩:∃ a c,vI = .slice a items.length c:=by
  obtain ⟨a,c,h1,_⟩:=hI;exact ⟨a,c,by simpa using h1⟩
 obtain ⟨a2,c2,fK⟩:∃ a c,vS = .slice a aC.length c:=by
  obtain ⟨a,c,h1,_⟩:=hS;exact ⟨a,c,by simpa using h1⟩
 subst mA fK;refine ahY.calls rfl ?_;unfold MJ;(try simp only [go_sem,simprocAttr]);refine Vo ?_;intro w1 kF ag cL;(try simp only [go_sem,simprocAttr]);refine b8 rfl ?_;intro w2 iE ae dh;have cy:w2.heap[w1.heap.size]? = some (.cells (ej (.slice a1 items.length c1) 0 w.heap.size 0 (.slice none 0 0) (.pointer none) (.slice none 0 0)).toArray 86 (0,0)):=iE;have aY:=ag.trans ae;have h2:eJ lo w2 w1.heap.size (.slice a1 items.length c1) w.heap.size ⟨0,0,[],⟨#[]⟩⟩:=
  ⟨_,_,_,none,none,⟨cy,.inl rfl,ax.nil _ _ _,ax.nil _ _ _,by omega,by omega,by omega,by omega,(fun b h=>by cases h),(fun b h=>by cases h)⟩⟩
 have hI2:∀ {w':World},Mod (fun b=>lo≤b) w w'→dB w' (.slice a1 items.length c1) 2 (items.map fe) (· < lo):=fun hm=>hI.mod hm (fun b hb hh=>by omega) (fun b hb=>by omega)
 have We:∀ {w':World},Mod (fun b=>lo≤b) w w'→dB w' (.slice a2 aC.length c2) 2 (aC.map jc) (· < lo):=fun hm=>hS.mod hm (fun b hb hh=>by omega) (fun b hb=>by omega)
 have fin:∀ {w':World},Mod (fun b=>lo≤b) w w'→Mod (fun _=>False) w w':=fun hm=>⟨hm.size,fun b hb _=>hm.old b hb (by omega),hm.os,hm.tape,hm.output⟩
 (try simp only [go_sem,simprocAttr,ptr])
 refine dz (fun z ρ w'=>∃ (i:Nat) (L:List (ByteArray×Int)),z=aC.length - i∧i≤aC.length∧(∀ k,gX L k=pG (aC.take i) k)∧lG w' w.heap.size L∧eJ lo w' w1.heap.size (.slice a1 items.length c1) w.heap.size ⟨0,0,[],⟨#[]⟩⟩∧Mod (fun b=>lo≤b) w w' ∧
  ρ=[(0,.slice a1 items.length c1),(6,ptr w1.heap.size),(15,.slice a2 aC.length c2),(16,I aC.length),(17,I i)]) aC.length ⟨0,[],rfl,Nat.zero_le _,fun _=>rfl,pC kF ae (fun h=>h),h2,aY.aB (fun _ hh=>hh.elim),rfl⟩ ?_
 rintro z ρ w3 ⟨i,L,rfl,hi,hL,lJ,h3,ab,rfl⟩;unfold VL;rcases Nat.lt_or_ge i aC.length with ah | hge
 ·obtain ⟨x,U⟩:∃ x,aC[i]? = some x:=⟨_,List.getElem?_eq_getElem ah⟩;obtain ⟨ad,c,uO,hU,im⟩:=ajt (We ab) U;cases uO;have e1:decide ((i:Int) < aC.length)=true:=by rw [decide_eq_true_eq];omega
  have e2:IntKind.i64.wrap ((i:Int)+1)=((i+1:Nat):Int):=by rw [IntKind.wrap_i64];omega
  have e3:(0:Int)≤i∧(i:Int) < aC.length:=by omega
  have dI:cB w3 2 (.pointer (some (ad.add (i*2))))=some (.agg #[.string x.name,I x.fields]):=
   uC (by rw [Addr.add_zero'];exact hU) im
  (try simp only [go_sem,simprocAttr,e1,e3,decide_true,Int.toNat_natCast,dI]);refine de ?_;intro w4 rK aj eA;have yQ:w4.heap[w3.heap.size]? = some (.cells [.string ⟨#[]⟩,I 0].toArray 47 (0,0)):=rK;refine cu (vs:=[.string x.name,I x.fields]) rfl rfl yQ rfl rfl (by intro u hu;simp only [List.mem_cons,List.not_mem_nil,or_false] at hu;rcases hu with rfl | rfl<;>rfl) ?_;intro w5 hD ay iq;have gD:Mod (fun _=>False) w3 w5:=aj.step ay (fun b hb ah=>by omega);have h5:=h3.quiet gD;have rL:=pC lJ gD (fun h=>h);have dt:Mod (fun b=>lo≤b) w w5:=ab.trans (gD.aB (fun _ hh=>hh.elim));obtain ⟨vR,pv,vB,gU⟩:=h5.cells;have jy:w5.drew.heap[w3.heap.size]? = _:=hD;have DC:w5.drew.heap[w1.heap.size]? = _:=gU;have DD:=pC rL ((Mod.refl (fun _=>False) w5).drew) (fun h=>h);(try simp only [go_sem,simprocAttr,cell_of hD,cell_of jy,cell_of gU,cell_of DC,ej,ptr]);refine Vp (b:=w.heap.size) (l:=L) (kt:=9) (et:=3) rfl rfl Tryz.underlying80 Tryz.underlying9 (Tryz.zeroValue3 _) DD ?_;cases hg:gX L x.name with
  | some n=>
   (try simp only [go_sem,simprocAttr,Option.getD_some,Option.isSome_some,Bool.not_true,e2]);refine ⟨_,?_,i+1,L,rfl,by omega,fun k=>?_,DD,h5.quiet (Mod.refl _ _).drew,dt.drew,rfl⟩
   ·omega
   ·rw [WG U,hL];cases hq:pG (aC.take i) k with
    | some m=>rfl
    | none=>
     have:x.name≠k:=fun e=>by subst e;rw [hL,hq] at hg;cases hg
     simp [this]
  | none=>
   have ajv:w5.drew.drew.heap[w3.heap.size]? = _:=hD;have ajw:w5.drew.drew.heap[w1.heap.size]? = _:=gU;(try simp only [go_sem,simprocAttr,Option.getD_none,Option.isSome_none,Bool.not_false,cell_of hD,cell_of gU,cell_of jy,cell_of ajv,cell_of DC,cell_of ajw,ej,ptr]);refine Mm (b:=w.heap.size) (l:=L) (kt:=9) (et:=3) (v:=x.fields) rfl rfl rfl Tryz.underlying80 Tryz.underlying9 (pC DD ((Mod.refl (fun _=>False) w5.drew).drew) (fun h=>h)) ?_;intro w6 wP aH mV;(try simp only [go_sem,simprocAttr,e2]);refine ⟨_,?_,i+1,_,rfl,by omega,fun k=>?_,wP,((h5.quiet (Mod.refl _ _).drew).quiet (Mod.refl _ _).drew).map aH,dt.drew.drew.trans (aH.aB (fun b hb=>by subst hb;omega)),rfl⟩
   ·omega
   ·rw [ajr hg,WG U,hL]
 ·obtain rfl:i=aC.length:=by omega
  have e1:decide (((aC.length:Nat):Int) < aC.length)=false:=by simp
  rw [List.take_length] at hL;(try simp only [go_sem,simprocAttr,e1]);have gq:FL L=pG aC:=funext hL;have pb:qy lo w3 (.slice a1 items.length c1) w.heap.size items L:=⟨hI2 ab,lJ,by omega⟩;have wV:oG lo w3:=by
   subst wi;exact ht.mod (mp:=w.heap.size+1000) (fin ab |>.aB (fun _ hh=>hh.elim))
  (try simp only [go_sem,simprocAttr,ptr]);refine ao (by rfl) ?_;refine (ajp h3 pb).mono ?_;rintro _ w4 ⟨rfl,aj⟩;cases hk:kE (FL L) items with
  | false=>
   (try simp only [go_sem,simprocAttr,Bool.not_false]);refine ⟨?_,fin (ab.trans (aj.aB (fun _ hh=>hh.elim)))⟩;unfold yM;rw [if_neg (by rw [← gq,hk];simp)]
  | true=>
   (try simp only [go_sem,simprocAttr,ptr,Bool.not_true]);refine ao (by rfl) ?_;have WI:Mod (Wt lo w.heap.size) w3 w4:=aj.aB (fun _ hh=>hh.elim);refine (ajl (h3.quiet aj) (pb.mod WI) (wV.mod WI) ⟨hk,hlen,yH⟩).mono ?_;rintro r w5 ⟨h5,ay⟩;have dt:Mod (fun b=>lo≤b) w w5:=(ab.trans (aj.aB (fun _ hh=>hh.elim))).trans (ay.aB (fun b hb=>hb.1));obtain ⟨vR,pv,vB,fR,fB,hF⟩:=h5;have gU:=hF.cells;have jq:∀ x∈items,x.aQ=⟨#[]⟩→(cQ x.num).size≤21:=fun x U h0=>by
    have:=NB hk U h0;exact Nu _ ⟨by omega,by omega⟩
   obtain ⟨hinv,ajx⟩:=aiZ (itoa:=cQ) (f:=FL L) (items:=items) GX hk;by_cases cr:(lp cQ (FL L) items).at' < items.length
   ·have b1:decide (((lp cQ (FL L) items).at':Int) < items.length)=true:=by rw [decide_eq_true_eq];omega
    (try simp only [go_sem,simprocAttr,cell_of gU,ej,b1]);refine ⟨?_,fin dt⟩;unfold yM;rw [if_pos (by rw [← gq];exact hk),if_pos (by rw [← gq];exact cr)]
   ·have b1:decide (((lp cQ (FL L) items).at':Int) < items.length)=false:=by rw [decide_eq_false_iff_not];omega
    have DC:w5.drew.heap[w1.heap.size]? = _:=gU;(try simp only [go_sem,simprocAttr,cell_of gU,cell_of DC,ej,b1,ptr]);have uI:1≤(lp cQ (FL L) items).out.size:=by
     rcases hinv.out with h' | ⟨l,h'⟩
     ·exact h'
     ·rw [ajx] at h';simp at h'
    obtain ⟨out,rS⟩:∃ out,out=(lp cQ (FL L) items).out:=⟨_,rfl⟩;have WJ:=hF.buf;rw [← rS] at WJ uI;obtain ⟨g,c,cN,rfl,rfl,r3,r4,r5⟩:∃ g c cN,vB = .slice (some ⟨g,0,none⟩) out.size c∧fB=some g∧w5.heap[g]? = some (.cells (Lib.strCells out++cN).toArray 5 (0,0))∧c*1≤(Lib.strCells out++cN).length∧out.size≤c:=by
     rcases WJ.2 with ⟨_,h',_⟩ | h'
     ·omega
     ·exact h'
    have hgp:g≠w1.heap.size:=(hF.fb g rfl).2.1;have pg:out.data.toList.length=out.size:=rfl;have nU:=Lib.strCells_length out;have o0:out.data.toList.length≤140737488355328:=by
     rw [pg,rS];exact ajs GX jq hk hlen yH
    have Bj:=aiU w1.heap.size g c (Lib.strCells out++cN).toArray out.data.toList w5.drew ((cell_of DC 6).trans rfl) r3 r5 o0 (by rw [List.size_toArray,List.length_append,nU,pg];omega)
     (fun j x hj=>by
      rw [c8];refine (cell_of (show w5.drew.heap[g]? = _ from r3) _).trans ?_;rw [Nat.zero_add,List.getElem?_toArray,List.getElem?_append_left (by rw [nU,← pg];exact (List.getElem?_eq_some_iff.1 hj).1)]
      simp only [Lib.strCells,List.getElem?_map,hj,Option.map_some])
     (fun e=>by rw [← pg,e] at uI;simp at uI)
    refine ao (by rfl) ?_;refine Calls.mono Bj ?_;rintro e w' ⟨rfl,rfl⟩;have WK:Mod (· = g) w5 (w5.drew.drew.freeze ⟨g,0,none⟩ out.data.toList.length):=by
     unfold World.freeze
     split
     ·exact (Mod.refl _ _).drew.drew
     ·exact ⟨by simp,fun b hb hn=>(by simp [Array.getElem?_modify,Ne.symm hn];rfl),rfl,rfl,rfl⟩
    refine ⟨_,rfl,WK.old _ (lt_of_heap gU) (fun e=>hgp e.symm),?_,fin (dt.trans (WK.aB (fun b hb=>by subst hb;exact (hF.fb _ rfl).1)))⟩;unfold yM;rw [if_pos (by rw [← gq];exact hk),if_neg (by rw [← gq];exact cr),← gq,← rS]
end
end
section
open Go Go.W
theorem addr_add (a:Addr) (i k:Nat):(a.add i).add k=a.add (i+k):=by
 unfold Addr.add;by_cases hi:i=0
 ·subst hi;simp
 ·by_cases hk:k=0
  ·subst hk;simp
  ·have:i+k≠0:=by omega
   simp [hi,hk,this,Nat.add_assoc]
theorem Dw {sz:Nat}:∀ (rows:List (List Value)),(∀ r∈rows,r.length=sz)→(rows.flatMap id).length=rows.length*sz:=by
 intro rows
 induction rows with
 | nil=>intro _;simp
 | cons r rows ih=>
  intro hr;have h0:=hr r (by simp);simp only [List.flatMap_cons,id,List.length_append,List.length_cons,ih (fun r sf=>hr r (by simp [sf])),h0,Nat.add_mul];omega
theorem No {w:World} {a:Option Addr} {n c sz:Nat} {rows:List (List Value)} {B:Nat→Prop} (h:dB w (.slice a n c) sz rows B) (dy:0 < sz):n=rows.length∧iz w a (n*sz) (rows.flatMap id)∧(a=none→n=0):=by
 obtain ⟨a',c',e,_,U⟩:=h;simp only [Value.slice.injEq] at e;obtain ⟨rfl,rfl,rfl⟩:=e;have hr:∀ r∈rows,r.length=sz:=fun r hr=>by
  obtain ⟨i,hi,rfl⟩:=List.getElem_of_mem hr;obtain ⟨_,_,h1,_⟩:=U i hi;exact h1
 refine ⟨rfl,⟨Dw rows hr,fun ad ef j v hv=>?_⟩,fun ha=>?_⟩
 ·have hj:j < rows.length*sz:=by rw [← Dw rows hr];exact (List.getElem?_eq_some_iff.1 hv).1
  have hi:j / sz < rows.length:=(Nat.div_lt_iff_lt_mul dy).2 hj;have hk:j % sz < sz:=Nat.mod_lt _ dy;have hf:=Dq rows hr (j / sz) hi (j % sz) hk;have e:j / sz*sz+j % sz=j:=by rw [Nat.mul_comm];exact Nat.div_add_mod j sz
  rw [e,hv] at hf;obtain ⟨mR,e1,h1,h2⟩:=U (j / sz) hi;rw [ef] at e1;cases e1;have h3:=h2 (j % sz) (by rw [h1];exact hk);rw [List.getElem?_eq_getElem (by rw [h1];exact hk)] at hf;simp only [Option.some.injEq] at hf;rw [← hf] at h3;rw [addr_add,e] at h3;exact h3
 ·apply Classical.byContradiction;intro bq;obtain ⟨ad,e1,_⟩:=U 0 (by omega);rw [ha] at e1;cases e1
theorem Np {w:World} {T sz n:Nat} {v:Value} {xs:List Value} {fp:Option Nat} (h:ax w T sz v xs n fp) {b:Nat} (hb:fp=some b):∃ cs,w.heap[b]? = some (.cells cs T (0,0)):=by
 obtain ⟨_,⟨_,_,e⟩ | ⟨b',c,sp,_,e,h5,_⟩⟩:=h
 ·rw [e] at hb;cases hb
 ·rw [e] at hb;cases hb;exact ⟨_,h5⟩
def sY (g:Gl) (v:Value):List Value:=[.string g.name,I g.arity,v]
theorem ajy (l:List Ins):∀ r∈l.map jb,r.length=3:=by
 intro r hr;obtain ⟨x,_,rfl⟩:=List.mem_map.1 hr;rfl
theorem ajz (l:List Ins):∀ u∈(l.map jb).flatMap id,u.oneCell'=true:=by
 intro u hu;obtain ⟨r,hr,hu⟩:=List.mem_flatMap.1 hu;obtain ⟨x,_,rfl⟩:=List.mem_map.1 hr;simp only [id,jb,List.mem_cons,List.not_mem_nil,or_false] at hu;rcases hu with rfl | rfl | rfl<;>rfl
theorem ajA (l:List kz):∀ r∈l.map jc,r.length=2:=by
 intro r hr;obtain ⟨x,_,rfl⟩:=List.mem_map.1 hr;rfl
theorem ajB (l:List kz):∀ u∈(l.map jc).flatMap id,u.oneCell'=true:=by
 intro u hu;obtain ⟨r,hr,hu⟩:=List.mem_flatMap.1 hu;obtain ⟨x,_,rfl⟩:=List.mem_map.1 hr;simp only [id,jc,List.mem_cons,List.not_mem_nil,or_false] at hu;rcases hu with rfl | rfl<;>rfl
def GY (w w':World) (l:List Gl) (ic:List Value):Prop:=∀ (j:Nat) (g:Gl) (v:Value),l[j]? = some g→ic[j]? = some v→∃ fc,ax w' 61 3 v ((g.code.map jb).flatMap id) g.code.length fc∧∀ b,fc=some b→w.heap.size≤b
theorem GY.mod {w w' pK:World} {l:List Gl} {ic:List Value} {X:Nat→Prop} (h:GY w w' l ic) (hm:Mod X w' pK) (hX:∀ b,X b→∃ cs T0,w'.heap[b]? = some (.cells cs T0 (0,0))∧T0≠61):GY w pK l ic:=by
 intro j g v hg hv;obtain ⟨fc,h1,h2⟩:=h j g v hg hv;refine ⟨fc,h1.mod hm (fun b hb U=>?_),h2⟩;obtain ⟨cs,T0,h3,h4⟩:=hX b U;exact hP h1 hb h3 (fun e=>h4 e.symm)
section
variable {w:World} {bt bp:Value} {T:bl} {B:Nat→Prop}
theorem ajC (h:dE w bt bp T B) (hT:FW T):aD Tryz.prog 77 [eC bt bp] w fun r w'=>∃ GZ G0,r=eC GZ G0∧dE w' GZ G0 T (fun b=>w.heap.size≤b∧b < w'.heap.size)∧Mod (fun _=>False) w w':=by
 have h0:=h;obtain ⟨⟨aS,cS,rfl⟩,aG,cG,rfl⟩:=ig h;have yI:=hT.gn;have yz:=hT.sn;refine aew.calls rfl ?_;unfold KK eC;refine σ ?_;refine b8 rfl ?_;intro w1 aq ag cL;refine σ ?_;refine de ?_;intro w2 an ae dh;have aY:=ag.trans ae;have a7:=ae.at aq (fun h=>h);have h2:=h0.mod aY (fun _ _ h=>h) (fun _ h=>h);obtain ⟨_,qI,hna⟩:=No h2.1 (by decide);simp only [go_sem,simprocAttr,cell_of a7,Value.cells];refine δ (by rfl) (aif qI (ajB _) hna (by omega)) ?_;rintro vs' w3 ⟨fS,WL,hfS,ab⟩;obtain ⟨G1,G2,rfl,_⟩:=WL.val;refine σ ?_;refine de ?_;intro w4 aJ aj _;refine cu (cs:=[.slice none 0 0,.slice none 0 0]) rfl rfl aJ rfl rfl (by simp [Value.oneCell']) ?_;intro w5 cd ay _;have gD:Mod (fun _=>False) w3 w5:=aj.step ay (fun x U hl=>by subst U;omega);have dt:=(aY.trans ab).trans gD;have jZ:=(ab.trans gD).at a7 (fun h=>h);have p9:=(ab.trans gD).at an (fun h=>h);have ajD:=WL.mod gD (fun _ _ h=>h);have l1:=lt_of_heap aq;have l2:=lt_of_heap an;have s02:=aY.size;have s23:=ab.size;have s1:=ag.size;simp only [go_sem,simprocAttr,cell_of jZ,Value.cells]
 refine dz (fun z ρ w'=>∃ (i:Nat) (ic:List Value) (vg:Value) (f:Option Nat),z=T.globals.length - i∧i≤T.globals.length∧ic.length=i∧Mod (fun _=>False) w w'∧w'.heap[w1.heap.size]? = w5.heap[w1.heap.size]? ∧
  w'.heap[w3.heap.size]? = some (.cells #[.slice G1 T.aC.length G2,vg] 25 (0,0))∧ax w' 47 2 (.slice G1 T.aC.length G2) ((T.aC.map jc).flatMap id) T.aC.length fS ∧
  ax w' 59 3 vg ((List.zipWith sY (T.globals.take i) ic).flatMap id) i f∧(∀ b,f=some b→w3.heap.size < b)∧GY w w' (T.globals.take i) ic ∧
  ρ=[(2,ptr w1.heap.size),(3,ptr w3.heap.size),(11,.slice aG T.globals.length cG),(12,I T.globals.length),(13,I i)]) T.globals.length
  ⟨0,[],.slice none 0 0,none,rfl,by omega,rfl,dt,rfl,cd,by simpa using ajD,ax.nil _ _ _,(fun b hb=>by cases hb),(fun j g v hg=>by simp at hg),rfl⟩ ?_
 rintro z ρ w6 ⟨i,ic,vg,f,rfl,hi,gh,aH,eZ,cO,DE,nR,DF,yP,rfl⟩;obtain ⟨aV,cV,rfl,_⟩:=nR.val;unfold Tz;refine σ ?_;refine aX rfl (fun ah=>?_) (fun ah=>?_)
 ·have ah:i < T.globals.length:=by simpa using ah
  have h6:=h0.mod aH (fun _ _ h=>h) (fun _ h=>h);obtain ⟨ad,c,cv,e',dI,dW⟩:=Df h6 ah;cases e';have hgk:=hT.kC _ (List.getElem_mem ah);have jG:=List.take_succ_eq_append_getElem ah;generalize T.globals[i]=g at *;obtain ⟨kD,ii,rfl⟩:=oz dW;rw [List.length_map] at *;have pD:(0:Int)≤i∧(i:Int) < T.globals.length:=by omega
  unfold mJ at dI;simp only [go_sem,simprocAttr,ak,bh,pD,dI];refine de ?_;intro w7 ajE aZ _;refine cu (cs:=[.string ⟨#[]⟩,I 0,.slice none 0 0]) rfl rfl ajE rfl rfl (by simp [Value.oneCell']) ?_;intro w8 en bY _;have Ae:Mod (fun _=>False) w6 w8:=aZ.step bY (fun x U hl=>by subst U;omega);have DG:w8.heap[w3.heap.size]? = _:=Ae.at cO (fun h=>h);have ajF:=dW.mod (Ae.drew) (fun _ _ h=>h) (fun _ h=>h);obtain ⟨_,ajG,ajH⟩:=No ajF (by decide);have WM:w8.heap[w6.heap.size]? = some (.cells #[.string g.name,I g.arity,.slice kD g.code.length ii] 59 (0,0)):=en;have l6:=lt_of_heap cO;have lb8:=lt_of_heap WM;have WN:=lt_of_heap DG;simp only [go_sem,simprocAttr,cell_of DG,cell_of WM];refine δ (by rfl) (aii ajG (ajz _) ajH (by omega)) ?_;rintro vc w9 ⟨fc,CY,hfc,dq⟩;have k1:=dq.old w3.heap.size WN (fun h=>h);have k2:=dq.old w6.heap.size lb8 (fun h=>h);obtain ⟨DH,xH,rfl,_⟩:=CY.val;refine σ ?_;refine ⟨by simp only [gZ,k1,k2,and_self,implies_true],?_⟩;refine dL (by rfl) (by rfl) ?_;intro fM vZ ep _;have k3:=ep.old w3.heap.size (by have:=dq.size;exact Nat.lt_of_lt_of_le WN this) (fun h=>h);refine σ ?_;refine ⟨by simp only [gZ,k3,and_self,implies_true],?_⟩;have ajI:Mod (fun _=>False) w8 w9:=Mod.dj dq;have oH:=(Ae.trans ajI).trans ep;refine gN (m:=1) (news:=sY g (.slice DH g.code.length xH)) rfl (nR.mod oH (fun _ _ h=>h)) rfl (fun h=>by cases h) (jR (xs:=sY g (.slice DH g.code.length xH)) vZ) (by simp [sY,Value.oneCell']) rfl (by omega) (by omega) ?_;intro v11 jI f11 vX hZ WO;obtain ⟨a11,c11,rfl,_⟩:=vX.val;have WQ:f≠some w3.heap.size:=fun e=>by have:=DF _ e;omega
  have ru:=hZ.at (oH.at cO (fun h=>h)) WQ;refine σ ?_;refine bL (off:=1) rfl rfl ru rfl (by simp) ?_;intro ry NJ dG _;have e1:IntKind.i64.wrap ((i:Int)+1)=((i+1:Nat):Int):=by rw [bU (by omega) (by omega)];omega
  simp only [go_sem,simprocAttr,e1];have aoo:=oH.size;have hX:Mod (fun b=>f=some b∨b=w3.heap.size) fM ry:=(hZ.aB (fun b hb=>.inl hb)).step dG (fun b hb _=>.inr hb);have WR:∀ b,(f=some b∨b=w3.heap.size)→∃ cs T0,fM.heap[b]? = some (.cells cs T0 (0,0))∧T0≠61:=by
   rintro b (hb | rfl)
   ·obtain ⟨cs,iT⟩:=Np (nR.mod oH (fun _ _ h=>h)) hb;exact ⟨cs,_,iT,by decide⟩
   ·exact ⟨_,_,oH.at cO (fun h=>h),by decide⟩
  have fw:∀ b,f=some b→¬ b < w.heap.size:=fun b hb=>by have:=DF b hb;omega
  refine ⟨_,by omega,i+1,ic++[.slice DH g.code.length xH],.slice a11 (i+1) c11,f11,rfl,by omega,by simp [gh],?_,?_,NJ,?_,?_,fun b hb=>?_,?_,rfl⟩
  ·exact (aH.trans oH).step hX (fun b hb hl=>by
    rcases hb with hb | rfl
    ·exact absurd hl (fw b hb)
    ·omega)
  ·rw [← eZ];have l16:w1.heap.size < w6.heap.size:=by omega
   rw [hX.old w1.heap.size (by omega) (fun hb=>by
    rcases hb with hb | hb
    ·have:=DF _ hb;omega
    ·omega),oH.old _ l16 (fun h=>h)]
  ·refine (DE.mod oH (fun _ _ h=>h)).mod hX (fun b hb U=>?_);rcases U with U | rfl
   ·obtain ⟨cs,iT⟩:=Np (nR.mod oH (fun _ _ h=>h)) U;exact hP (DE.mod oH (fun _ _ h=>h)) hb iT (by decide)
   ·exact hP DE hb cO (by decide)
  ·have hz:(List.zipWith sY (T.globals.take (i+1)) (ic++[.slice DH g.code.length xH])).flatMap id=(List.zipWith sY (T.globals.take i) ic).flatMap id++sY g (.slice DH g.code.length xH):=by
    rw [jG,List.zipWith_append (by rw [List.length_take,gh];omega),List.flatMap_append];simp
   rw [hz]
   exact vX.mod dG (fun b hb e=>by
    subst e;rcases WO _ hb with h1 | h1
    ·exact WQ h1
    ·omega)
  ·rcases WO b hb with h1 | h1
   ·exact DF b h1
   ·omega
  ·intro j g' v' cM pQ;rw [jG] at cM;by_cases hj:j < i
   ·rw [List.getElem?_append_left (by rw [List.length_take];omega)] at cM;rw [List.getElem?_append_left (by omega)] at pQ;exact (yP.mod oH (fun _ h=>h.elim)).mod hX WR j g' v' cM pQ
   ·have WS:j < (T.globals.take i++[g]).length:=(List.getElem?_eq_some_iff.1 cM).1;rw [List.length_append,List.length_take] at WS;simp at WS;obtain rfl:j=i:=by omega
    rw [List.getElem?_append_right (by rw [List.length_take];omega)] at cM;rw [List.getElem?_append_right (by omega)] at pQ;rw [List.length_take,show j - min j T.globals.length=0 by omega] at cM;rw [gh,Nat.sub_self] at pQ;simp at cM pQ;subst cM;subst pQ;have WT:=CY.mod ep (fun _ _ h=>h);refine ⟨fc,WT.mod hX (fun b hb U=>?_),fun b hb=>by have:=hfc b hb;have:=aH.size;have:=Ae.size;have e8:w8.drew.heap.size=w8.heap.size:=rfl;omega⟩;obtain ⟨cs,T0,h3,h4⟩:=WR b U;exact hP WT hb h3 (fun e=>h4 e.symm)
 ·have ah:¬ i < T.globals.length:=by simpa using ah
  obtain rfl:i=T.globals.length:=by omega
  rw [List.take_length] at *;have tT:w6.heap[w1.heap.size]? = _:=eZ.trans p9;simp only [go_sem,simprocAttr,dK (cs:=[_,_]) (off:=0) (n:=2) cO (by simp)];refine cu (cs:=[.slice none 0 0,.slice none 0 0]) rfl rfl tT rfl rfl (by simp [Value.oneCell']) ?_;intro w7 cj aZ _;simp only [go_sem,simprocAttr,dK (cs:=[_,_]) (off:=0) (n:=2) cj (by simp)];have gI:Mod (fun _=>False) w w7:=aH.step aZ (fun x U hl=>by subst U;omega);have l7:∀ {T0 sz n:Nat} {v:Value} {xs:List Value} {fp:Option Nat},ax w7 T0 sz v xs n fp→∀ b,fp=some b→b < w7.heap.size:=fun h b hb=>h.lt hb
  have WU:=DE.mod aZ (fun b hb e=>by subst e;exact hP DE hb tT (by decide));have WV:=nR.mod aZ (fun b hb e=>by subst e;exact hP nR hb tT (by decide));have ajJ:=yP.mod aZ (fun b hb=>by subst hb;exact ⟨_,_,tT,by decide⟩);refine ⟨_,_,rfl,⟨?_,ic,gh,?_,?_⟩,gI⟩
  ·obtain ⟨a,c,e,hB,U⟩:=sR (by rw [List.length_map];exact WU) (ajA T.aC);exact ⟨a,c,e,fun hz ad ef=>⟨by have:=hfS _ (hB hz ad ef);omega,l7 WU _ (hB hz ad ef)⟩,U⟩
  ·have NK:(List.zipWith sY T.globals ic).length=T.globals.length:=by simp [gh]
   obtain ⟨a,c,e,hB,U⟩:=sR (rows:=List.zipWith sY T.globals ic) (by rw [NK];exact WV) (fun r hr=>by
    obtain ⟨j,hj,rfl⟩:=List.getElem_of_mem hr
    simp [sY])
   exact ⟨a,c,e,fun hz ad ef=>⟨by have:=DF _ (hB hz ad ef);omega,l7 WV _ (hB hz ad ef)⟩,U⟩
  ·intro j g v hg hv;obtain ⟨fc,h1,h2⟩:=ajJ j g v hg hv;obtain ⟨a,c,e,hB,U⟩:=sR (by rw [List.length_map];exact h1) (ajy g.code);exact ⟨a,c,e,fun hz ad ef=>⟨h2 _ (hB hz ad ef),l7 h1 _ (hB hz ad ef)⟩,U⟩
end
end
section
open Go Go.W
def jA (T:bl) (entry:ByteArray) (input:List Int) (heap every:Int):Int:=
 if input.length > 10000 then 2
 else if input.any (fun n=>!qw n)=true∨heap < 1∨heap > 1048576∨every < 0 then 1
 else if kZ T≠0 then kZ T
 else if oA entry T.globals 0=none then 220 else 0
def ij (n:Nat):List Nd:=(List.range n).map fun i:Nat=>⟨4,(i:Int),[]⟩
def iR (T:bl) (input:List Int) (heap:Int) (bj:Bool) (every:Int) (i:Nat):Mc:=
 ⟨T,input,bj,every,rN bj heap,0,(List.range i).map (fun i:Nat=>(i:Int)),[],[],false,[],0,0,0,0,⟨qx bj heap,heap,ij i⟩⟩
def fO (T:bl) (entry:ByteArray) (input:List Int) (heap:Int) (bj:Bool) (every:Int):Mc:=
 if (T.globals.length:Int)≤heap then { iR T input heap bj every T.globals.length with wait:=[oB entry T]}
 else { iR T input heap bj every heap.toNat with globals:=[],ended:=5}
theorem AW (n:Nat):(ij n).length=n:=by simp [ij]
theorem ajK (n:Nat):ij (n+1)=ij n++[⟨4,(n:Int),[]⟩]:=by simp [ij,List.range_succ]
theorem ajL (n:Nat):WF (ij n):=by
 intro nd b9;obtain ⟨i,hi,rfl⟩:=List.mem_map.1 b9;exact ⟨by simp [Nd.may,gP],rfl⟩
theorem WW {bj:Bool} {heap:Int} (hh:1≤heap∧heap≤1048576) {i:Nat} (hi:(i:Int)≤heap):St.Ok ⟨qx bj heap,heap,ij i⟩:=by
 refine ⟨ajL i,by rw [AW];exact hi,hh.1,hh.2,?_⟩;show (qx bj heap).ok _;unfold qx;cases bj with
 | false=>exact trivial
 | true=>
  have:rN true heap=if heap.tdiv 8 > 1 then heap.tdiv 8 else 1:=rfl
  have h8:heap.tdiv 8≤heap:=by rw [Int.tdiv_eq_ediv_of_nonneg (by omega)];omega
  refine ⟨Nat.zero_le _,?_,?_⟩<;>rw [this]<;>split<;>omega
open Classical in
theorem WX {w w6 w9 w':World} {m:Nat} {S:SV} {M:Mc} {vG vW:Value} {fg fw:Option Nat} {F:Nat→Prop} (hm:m=w9.heap.size) (NL:w.heap.size≤w6.heap.size) (NM:w6.heap.size≤w9.heap.size)
   (hc:w'.heap[m]? = some (.cells (bg S M vG (.slice none 0 0) vW (.slice none 0 0)).toArray 113 (0,0))) (hG:ax w' 3 1 vG (M.globals.map I) M.globals.length fg) (hW:ax w' 3 1 vW (M.wait.map I) M.wait.length fw)
   (bC:M.aA=[]) (qY:M.told=[]) (cg:gJ w' S.sv M.st F) (hF:∀ b,F b→w.heap.size≤b∧(b < w6.heap.size∨m < b)) (NN:∀ b,fg=some b→m < b∧¬ F b) (AX:∀ b,fw=some b→m < b∧¬ F b∧fg≠some b)
   (C7:dE w' S.bt S.bp M.a8 (fun b=>w6.heap.size≤b∧b < w9.heap.size)) (cK:Ints w' S.jv M.input) (ajM:∀ b,jS S.jv=some b→w6.heap.size≤b∧b < w9.heap.size) (gg:dB w' S.vR 2 lC (fun b=>w6.heap.size≤b∧b < w9.heap.size)) :
   ∃ τ:Tag,iw w' τ m S M []∧∀ b,b < w.heap.size→τ b = .no:=by
 have lm:=lt_of_heap hc;refine ⟨fun b=>if b < w.heap.size then .no else if b=m then .m else if fg=some b then .gl else if fw=some b then .wt else if F b then .st else if w6.heap.size≤b∧b < w9.heap.size then .tb else .no,?_,fun b hb=>by simp only [if_pos hb]⟩;have tb:∀ b,w6.heap.size≤b∧b < w9.heap.size→b < w'.heap.size∧(if b < w.heap.size then Tg.no else if b=m then .m else if fg=some b then .gl else if fw=some b then .wt else if F b then .st else if w6.heap.size≤b∧b < w9.heap.size then .tb else .no) = .tb:=by
  intro b hb;have n1:¬ b < w.heap.size:=by omega
  have n2:b≠m:=by omega
  have n3:fg≠some b:=fun e=>by have:=(NN b e).1;omega
  have n4:fw≠some b:=fun e=>by have:=(AX b e).1;omega
  have n5:¬ F b:=fun e=>by have:=(hF b e).2;omega
  exact ⟨by omega,by rw [if_neg n1,if_neg n2,if_neg n3,if_neg n4,if_neg n5,if_pos hb]⟩
 refine ⟨vG,.slice none 0 0,vW,.slice none 0 0,fg,none,fw,none,F,hc,?_,hG,?_,?_,(fun b hb=>by cases hb),hW,?_,?_,(fun b hb=>by cases hb),cg,?_,by rw [bC];rfl,?_,C7.mod (Mod.refl (fun _=>False) w') (fun _ _ h=>h) (fun b hb=>tb b hb),cK,fun b hb=>tb b (ajM b hb),gg.mod (Mod.refl (fun _=>False) w') (fun _ _ h=>h) (fun b hb=>tb b hb)⟩
 ·simp only [if_neg (show ¬ m < w.heap.size by omega),if_pos]
 ·intro b hb;have:=(NN b hb).1;simp only [if_neg (show ¬ b < w.heap.size by omega),if_neg (show b≠m by omega),if_pos hb]
 ·exact ax.nil _ _ _
 ·intro b hb;have h1:=AX b hb;simp only [if_neg (show ¬ b < w.heap.size by omega),if_neg (show b≠m by omega),if_neg h1.2.2,if_pos hb]
 ·rw [qY];exact ax.nil _ _ _
 ·intro b hb;have h1:=hF b hb;have n2:b≠m:=by omega
  have n3:fg≠some b:=fun e=>(NN b e).2 hb
  have n4:fw≠some b:=fun e=>(AX b e).2.1 hb
  simp only [if_neg (show ¬ b < w.heap.size by omega),if_neg n2,if_neg n3,if_neg n4,if_pos hb]
 ·intro i k f hk _;simp at hk
section
variable {w:World} {bt bp jv:Value} {T:bl} {B:Nat→Prop} {entry:ByteArray} {input:List Int} {heap every:Int} {bj:Bool}
def NO (w w':World) (M:Mc) (r:Value):Prop:=∃ τ m S,r = .tuple #[ptr m,I 0]∧iw w' τ m S M []∧(∀ b,b < w.heap.size→τ b = .no)
theorem ajN (h:dE w bt bp T B) (hT:lg T) (jL:∀ b,B b→b < w.heap.size) (cK:Ints w jv input) :
   aD Tryz.prog 44 [eC bt bp,.string entry,jv,nM heap bj every] w fun r w'=>Mod (fun _=>False) w w' ∧
    (jA T entry input heap every≠0→r = .tuple #[.pointer none,I (jA T entry input heap every)])∧(jA T entry input heap every=0→NO w w' (fO T entry input heap bj every) r):=by
 have h0:=h;have wW:=cK;obtain ⟨⟨aS,cS,rfl⟩,aG,cG,rfl⟩:=ig h;obtain ⟨aI,cI,rfl,G3,_⟩:=cK;refine aem.calls rfl ?_;unfold Kv eC nM;refine σ ?_;refine b8 rfl ?_;intro w1 aq ag cL;refine σ ?_;refine b8 rfl ?_;intro w2 an ae dh;refine σ ?_;refine b8 rfl ?_;intro w3 aE ab gj;have du:=(ag.trans ae).trans ab;have eS:=(ae.trans ab).at aq (fun h=>h);have nF:=ab.at an (fun h=>h);have aq:w3.heap[w.heap.size]? = some (.cells #[.slice aS T.aC.length cS,.slice aG T.globals.length cG] 25 (0,0)):=eS;have an:w3.heap[w1.heap.size]? = some (.cells #[.string entry] 9 (0,0)):=nF;have aE:w3.heap[w2.heap.size]? = some (.cells #[I heap,.bool bj,I every] 28 (0,0)):=aE;have bad:∀ e w',e≠0→jA T entry input heap every=e→Mod (fun _=>False) w w'→(Mod (fun _=>False) w w'∧(jA T entry input heap every≠0→Value.tuple #[.pointer none,I e] = .tuple #[.pointer none,I (jA T entry input heap every)])∧(jA T entry input heap every=0→NO w w' (fO T entry input heap bj every) (.tuple #[.pointer none,I e]))):=by
  intro e w' he h1 hm;rw [h1];exact ⟨hm,fun _=>rfl,fun h=>absurd h he⟩
 have hE:jA T entry input heap every=if input.length > 10000 then 2 else if input.any (fun n=>!qw n)=true∨heap < 1∨heap > 1048576∨every < 0 then 1 else if kZ T≠0 then kZ T else if oA entry T.globals 0=none then 220 else 0:=rfl
 refine σ ?_;refine CL (fun ρ w'=>w3=w'∧ρ.get 2=some (.slice aI input.length cI)∧ρ.get 4=some (ptr w.heap.size)∧ρ.get 5=some (ptr w1.heap.size)∧ρ.get 7=some (ptr w2.heap.size)∧¬ input.length > 10000∧¬ (input.any (fun n=>!qw n)=true∨heap < 1∨heap > 1048576∨every < 0)) ?_ ?_
 ·refine aX rfl (fun hl=>?_) (fun hl=>?_)
  ·simp only [aK,aL,aM,ak,aN] at hl;rw [if_pos (by omega)] at hE;refine σ ?_;exact bad 2 w3 (by decide) hE du
  simp only [aK,aL,aM,ak,aN] at hl;have hl:¬ input.length > 10000:=by omega
  rw [if_neg hl] at hE;refine σ ?_;refine δ (by rfl) (Jv _ input w3 (wW.mod du (fun _ _ h=>h)) 71 _ #[] (fun n=>!qw n) rfl rfl rfl (fun x _=>by simpa using ain w3 x)) ?_;rintro _ _ ⟨rfl,rfl⟩;refine σ ?_;cases hA:input.any (fun n=>!qw n) with
  | true=>
   rw [hA,if_pos (.inl rfl)] at hE;refine σ ?_;exact bad 1 w3 (by decide) hE du
  | false=>
   cases h1:decide (heap < 1) with
   | true=>
    rw [if_pos (.inr (.inl (of_decide_eq_true h1)))] at hE;simp only [go_sem,simprocAttr,cell_of aE,h1];exact bad 1 w3 (by decide) hE du
   | false=>
    cases h2:decide (heap > 1048576) with
    | true=>
     rw [if_pos (.inr (.inr (.inl (of_decide_eq_true h2))))] at hE;simp only [go_sem,simprocAttr,cell_of aE,h1,h2];exact bad 1 w3 (by decide) hE du
    | false=>
     cases h3:decide (every < 0) with
     | true=>
      rw [if_pos (.inr (.inr (.inr (of_decide_eq_true h3))))] at hE;simp only [go_sem,simprocAttr,cell_of aE,h1,h2,h3];exact bad 1 w3 (by decide) hE du
     | false=>
      have q1:=of_decide_eq_false h1;have q2:=of_decide_eq_false h2;have q3:=of_decide_eq_false h3;simp only [go_sem,simprocAttr,cell_of aE,h1,h2,h3];exact ⟨by omega,by simp;omega⟩
 rintro ρ _ ⟨rfl,r2,r4,r5,r7,hl,fm⟩;rw [if_neg hl,if_neg fm] at hE;have WY:1≤heap∧heap≤1048576:=by
  constructor
  ·apply Classical.byContradiction;intro hh;exact fm (.inr (.inl (by omega)))
  ·apply Classical.byContradiction;intro hh;exact fm (.inr (.inr (.inl (by omega))))
 have h3:=h0.mod du (fun _ _ h=>h) (fun _ h=>h);simp only [go_sem,simprocAttr,r2,r4,r5,r7,dK (cs:=[_,_]) (off:=0) (n:=2) aq (by simp)];refine δ (by rfl) (ahS h3 hT (fun b hb=>by have:=jL b hb;have:=du.size;omega)) ?_;rintro _ w4 ⟨rfl,aj⟩;have ey:=du.trans aj;have kU:=aj.at aq (fun h=>h);have tS:=aj.at an (fun h=>h);have p5:=aj.at aE (fun h=>h);refine σ ?_;refine aX rfl (fun hc=>?_) (fun hc=>?_)
 ·simp only [aK,aL,aM,ak,aN] at hc;rw [if_pos hc] at hE;refine σ ?_;exact bad _ w4 hc hE ey
 simp only [aK,aL,aM,ak,aN] at hc;rw [if_neg (by simpa using hc)] at hE;obtain ⟨ajO,_⟩:=Vm hc;have h4:=h0.mod ey (fun _ _ h=>h) (fun _ h=>h);simp only [go_sem,simprocAttr,cell_of kU];refine δ (by rfl) (aiq h4 hT tS) ?_;rintro _ w5 ⟨rfl,ay⟩;have dt:=ey.trans ay;have jZ:=ay.at kU (fun h=>h);have p6:=ay.at p5 (fun h=>h);refine σ ?_;refine aX rfl (fun he=>?_) (fun he=>?_)
 ·simp only [aK,aL,aM,ak,aN] at he;have hn:oA entry T.globals 0=none:=by
   unfold oB at he
   split at he
   ·omega
   ·assumption
  rw [if_pos hn] at hE;refine σ ?_;exact bad 220 w5 (by decide) hE dt
 simp only [aK,aL,aM,ak,aN] at he;have hn:oA entry T.globals 0≠none:=fun hn=>by
  have:oB entry T = -1:=by unfold oB;rw [hn]
  omega
 rw [if_neg hn] at hE;obtain ⟨at',cr,WZ⟩:∃ j:Nat,oB entry T=j∧j < T.globals.length:=by
  unfold oB;cases U:oA entry T.globals 0 with
  | none=>exact absurd U hn
  | some j=>exact ⟨j,rfl,by have:=VT _ _ U;omega⟩
 rw [cr];simp only [go_sem,simprocAttr,dK (cs:=[_,_,_]) (off:=0) (n:=3) p6 (by simp)];refine δ (by rfl) (air w5 bj every WY) ?_;rintro _ w6 ⟨sv,F,rfl,cg,aH,hF⟩;obtain ⟨ti,ui,rfl⟩:=cg.iface;have gH:=dt.trans aH;have sx:=aH.at jZ (fun h=>h);have AY:=aH.at p6 (fun h=>h);simp only [go_sem,simprocAttr,show ((0:Int) != 0)=false from rfl];have ajP:w6.drew.heap[w.heap.size]? = _:=sx;have ajQ:w6.drew.heap[w2.heap.size]? = _:=AY;have l3:=lt_of_heap AY;have h6d:=h0.mod gH.drew (fun _ _ h=>h) (fun _ h=>h);simp only [go_sem,simprocAttr,dK (cs:=[_,_]) (off:=0) (n:=2) ajP (by simp),dK (cs:=[_,_,_]) (off:=0) (n:=3) ajQ (by simp)];refine δ (by rfl) (ajC h6d ajO) ?_;rintro _ w7 ⟨GZ,G0,rfl,C7,aZ⟩;have NP:Mod (fun _=>False) w6 w7:=Mod.dj aZ;have ajR:dE w7 GZ G0 T (fun b=>w6.heap.size≤b∧b < w7.heap.size):=C7;obtain ⟨⟨G1,G2,rfl⟩,aG',cG',rfl⟩:=ig C7;have k7:=aZ.old w2.heap.size l3 (fun h=>h);have W0:=NP.size;simp only [go_sem,simprocAttr,eC];refine ⟨by simp only [gZ,k7,and_self,implies_true],?_⟩;refine δ (by rfl) (zP _ input w7 (wW.mod (gH.trans NP) (fun _ _ h=>h))) ?_;rintro vI w8 ⟨bY,fI,NQ,hfI⟩;obtain ⟨W4,W5,rfl,_⟩:=NQ.val;have k8:=bY.old w2.heap.size (by omega) (fun h=>h);have s78:=bY.size;refine σ ?_;refine ⟨by simp only [gZ,k8,and_self,implies_true],?_⟩;refine δ (by rfl) (ais w8) ?_;rintro vR w9 ⟨bR,⟨lR,lR9⟩,sP,dq⟩;obtain ⟨aR,cR,rfl⟩:=oz sP;have k9:=dq.old w2.heap.size (by omega) (fun h=>h);have s89:=dq.size;refine σ ?_;refine ⟨by simp only [gZ,k9,and_self,implies_true],?_⟩;refine b8 rfl ?_;intro fM vZ ep RF;have tY:Mod (fun _=>False) w6 w9:=(NP.trans bY).trans dq;have oH:=tY.trans ep;have ajS:=oH.at sx (fun h=>h);obtain ⟨S,hS⟩:∃ S:SV,S=⟨.slice G1 T.aC.length G2,.slice aG' T.globals.length cG',.slice W4 input.length W5,.slice aR lC.length cR,.iface ti (.pointer (some ui))⟩:=⟨_,rfl⟩;have W6:fM.heap[w9.heap.size]? = some (.cells (bg S (iR T input heap bj every 0) (.slice none 0 0) (.slice none 0 0) (.slice none 0 0) (.slice none 0 0)).toArray 113 (0,0)):=by rw [hS];exact vZ
 simp only [go_sem,simprocAttr,cell_of ajS];have s9:w9.heap.size < fM.heap.size:=lt_of_heap W6;have NL:=gH.size;have NM:=tY.size;have s05:=dt.size;have s56:=aH.size;have aop:Mod (fun _=>False) w9 fM:=ep;have ajT:dE fM S.bt S.bp T (fun b=>w6.heap.size≤b∧b < w9.heap.size):=by
  rw [hS];exact ajR.mod ((bY.trans dq).trans ep) (fun _ _ h=>h) (fun b hb=>⟨hb.1,by omega⟩)
 have ajU:Ints fM S.jv input:=by
  rw [hS];exact ((NQ.ints (by omega)).1).mod (dq.trans ep) (fun _ _ h=>h)
 have NR:∀ b,jS S.jv=some b→w6.heap.size≤b∧b < w9.heap.size:=by
  rw [hS];intro b hb;obtain ⟨_,h2⟩:=NQ;rcases h2 with ⟨e,_,_⟩ | ⟨b',c',sp,e,hf,hbb,_⟩
  ·simp only [Value.slice.injEq] at e;obtain ⟨rfl,_,_⟩:=e;cases hb
  ·simp only [Value.slice.injEq] at e;obtain ⟨rfl,_,_⟩:=e;have ajV:b'=b:=Option.some.inj hb;subst ajV;have:=hfI b' hf;have:=lt_of_heap hbb;omega
 have ajW:dB fM S.vR 2 lC (fun b=>w6.heap.size≤b∧b < w9.heap.size):=by
  rw [hS];exact sP.mod ep (fun _ _ h=>h) (fun b hb=>by subst hb;exact ⟨by omega,lR9⟩)
 have ajX:gJ fM S.sv ⟨qx bj heap,heap,ij 0⟩ F:=by
  rw [hS];exact (cg.mod tY (fun _ _ h=>h)).mod ep (fun _ _ h=>h)
 have hF':∀ b,F b→w.heap.size≤b∧(b < w6.heap.size∨w9.heap.size < b):=fun b hb=>by
  have h1:=hF b hb;have h2:=cg.lt b hb;omega
 have ajY:(Value.iface ti (.pointer (some ui)))=S.sv:=by rw [hS]
 rw [ajY];have W7:jA T entry input heap every=0:=hE
 refine dz (fun z ρ w'=>∃ (i:Nat) (vG:Value) (fg:Option Nat) (F:Nat→Prop),z=T.globals.length - i∧i≤T.globals.length∧(i:Int)≤heap ∧
  w'.heap[w9.heap.size]? = some (.cells (bg S (iR T input heap bj every i) vG (.slice none 0 0) (.slice none 0 0) (.slice none 0 0)).toArray 113 (0,0))∧gJ w' S.sv ⟨qx bj heap,heap,ij i⟩ F ∧
  ax w' 3 1 vG (((List.range i).map (fun i:Nat=>(i:Int))).map I) i fg∧(∀ b,F b→w.heap.size≤b∧(b < w6.heap.size∨w9.heap.size < b))∧(∀ b,fg=some b→w9.heap.size < b∧¬ F b)∧Mod (fun b=>(w.heap.size≤b∧b < w6.heap.size)∨w9.heap.size≤b) fM w' ∧
  ρ=[(11,I at'),(12,S.sv),(15,ptr w9.heap.size),(67,I T.globals.length),(68,I i)]) T.globals.length
  ⟨0,.slice none 0 0,none,F,rfl,by omega,by omega,W6,ajX,ax.nil _ _ _,hF',(fun b hb=>by cases hb),Mod.refl _ _,rfl⟩ ?_
 rintro z ρ jI ⟨i,vG,fg,F1,rfl,hi,W8,wX,NS,nR,sZ,AZ,hZ,rfl⟩;have s11:=hZ.size;have rest:∀ w':World,Mod (fun b=>(w.heap.size≤b∧b < w6.heap.size)∨w9.heap.size≤b) fM w'→dE w' S.bt S.bp T (fun b=>w6.heap.size≤b∧b < w9.heap.size)∧Ints w' S.jv input∧dB w' S.vR 2 lC (fun b=>w6.heap.size≤b∧b < w9.heap.size)∧Mod (fun _=>False) w w':=by
  intro w' hm;refine ⟨ajT.mod hm (fun b hb U=>by omega) (fun _ h=>h),ajU.mod hm (fun b hb U=>by have:=NR b hb;omega),ajW.mod hm (fun b hb U=>by omega) (fun _ h=>h),?_⟩;have h9:Mod (fun _=>False) w fM:=gH.trans oH;exact h9.step hm (fun b hb hl=>by omega)
 unfold Tx;refine σ ?_;refine aX rfl (fun ah=>?_) (fun ah=>?_)
 ·have ah:i < T.globals.length:=by simpa using ah
  have ct:=WW (bj:=bj) WY W8;refine σ ?_;have e1:IntKind.i64.wrap ((i:Int)+1)=((i+1:Nat):Int):=by rw [bU (by omega) (by omega)];omega
  refine Lv (nd:=⟨4,(i:Int),[]⟩) rfl (by rfl) NS ct (by simp [Nd.may,gP]) rfl (um _) ?_ ?_
  ·intro eE ry F2 A0 pI;have eE:((ij i).length:Int) < heap:=eE;rw [AW] at eE;have A0:gJ ry S.sv ⟨qx bj heap,heap,ij (i+1)⟩ F2:=by rw [ajK];exact A0
   have yR:¬ F1 w9.heap.size:=fun e=>by have:=sZ _ e;omega
   have G4:=pI.1.at wX yR;obtain ⟨aV,cV,rfl,_⟩:=nR.val;have Tm:=pI.1.size;rw [show ((⟨qx bj heap,heap,ij i⟩:St).ns.length:Int)=(i:Int) by show ((ij i).length:Int)=_;rw [AW]];simp only [go_sem,simprocAttr,show ((0:Int) != 0)=false from rfl,cell_of G4,bg];refine dL (by rfl) (by rfl) ?_;intro wg eS dU _;have NT:∀ b,fg=some b→¬ F1 b:=fun b hb=>(AZ b hb).2
   refine σ ?_;refine gN (m:=1) (news:=[I (i:Int)]) rfl ((nR.mod pI.1 NT).mod dU (fun _ _ h=>h)) rfl (fun h=>by cases h) (jR (xs:=[I (i:Int)]) eS) (oQ [(i:Int)]) rfl (by omega) (by omega) ?_;intro v14 yf ajZ W9 iJ Xa;obtain ⟨a14,yr,rfl,_⟩:=W9.val;have Xb:fg≠some w9.heap.size:=fun e=>by have:=(AZ _ e).1;omega
   have aj0:=iJ.at (dU.at G4 (fun h=>h)) Xb;refine σ ?_;refine bL (off:=9) rfl rfl aj0 rfl (by simp [bg]) ?_;intro Ah jZ mr _;simp only [go_sem,simprocAttr,e1];have s13:=dU.size;have s14:=iJ.size;have aj1:gJ Ah S.sv ⟨qx bj heap,heap,ij (i+1)⟩ F2:=by
    refine ((A0.mod dU (fun _ _ h=>h)).mod iJ (fun b hb e=>?_)).mod mr (fun b hb e=>?_)
    ·rcases pI.2 b hb with h1 | h1
     ·exact NT b e h1
     ·have:=nR.lt e;omega
    ·subst e;rcases pI.2 _ hb with h1 | h1
     ·exact yR h1
     ·have:=lt_of_heap wX;omega
   have hX:Mod (fun b=>(w.heap.size≤b∧b < w6.heap.size)∨w9.heap.size≤b) fM Ah:=by
    refine (((hZ.step pI.1 (fun b hb _=>by have:=sZ b hb;omega)).step dU (fun _ h _=>h.elim)).step iJ (fun b hb _=>by have:=AZ b hb;omega)).step mr (fun b hb _=>by subst hb;exact .inr (Nat.le_refl _))
   refine ⟨_,by omega,i+1,.slice a14 (i+1) yr,ajZ,F2,rfl,by omega,by omega,by simpa [bg,iR] using jZ,aj1,?_,fun b hb=>?_,fun b hb=>?_,hX,rfl⟩
   ·have e:(List.range (i+1)).map (fun i:Nat=>(i:Int))=(List.range i).map (fun i:Nat=>(i:Int))++[(i:Int)]:=by simp [List.range_succ]
    rw [e,List.map_append]
    exact W9.mod mr (fun b hb e=>by
     subst e;rcases Xa _ hb with h3 | h3
     ·exact Xb h3
     ·have:=lt_of_heap wX;omega)
   ·rcases pI.2 b hb with h1 | h1
    ·exact sZ b h1
    ·omega
   ·rcases Xa b hb with h1 | h1
    ·refine ⟨(AZ b h1).1,fun h2=>?_⟩;rcases pI.2 b h2 with h3 | h3
     ·exact NT b h1 h3
     ·have:=nR.lt h1;omega
    ·refine ⟨by omega,fun h2=>?_⟩;have:=A0.lt b h2;omega
  ·intro NU ry F2 e he A0 pI;have NU:((ij i).length:Int)=heap:=NU;rw [AW] at NU;have yR:¬ F1 w9.heap.size:=fun e=>by have:=sZ _ e;omega
   have G4:=pI.1.at wX yR;have G5:(e != 0)=true:=by simpa using he
   simp only [go_sem,simprocAttr,G5];refine bL (off:=15) rfl rfl G4 rfl (by simp [bg]) ?_;intro wg eS dU _;refine σ ?_;refine bL (off:=9) rfl rfl eS rfl (by simp [bg]) ?_;intro yf kU iJ _;refine σ ?_;have hM:fO T entry input heap bj every = { iR T input heap bj every heap.toNat with globals:=[],ended:=5}:=by unfold fO;rw [if_neg (by omega)]
   have bS:heap.toNat=i:=by omega
   have hX:Mod (fun b=>(w.heap.size≤b∧b < w6.heap.size)∨w9.heap.size≤b) fM yf:=by
    refine ((hZ.step pI.1 (fun b hb _=>by have:=sZ b hb;omega)).step dU (fun b hb _=>by subst hb;exact .inr (Nat.le_refl _))).step iJ (fun b hb _=>by subst hb;exact .inr (Nat.le_refl _))
   obtain ⟨r1,r2,r3,r4⟩:=rest yf hX;have Xc:¬ F2 w9.heap.size:=fun e=>by
    rcases pI.2 _ e with h1 | h1
    ·exact yR h1
    ·have:=lt_of_heap wX;omega
   refine ⟨r4,fun h=>absurd W7 h,fun _=>?_⟩;rw [hM,bS];obtain ⟨τ,hA,NV⟩:=WX (w:=w) (w6:=w6) (w9:=w9) (w':=yf) (m:=w9.heap.size) (S:=S) (M:={ iR T input heap bj every i with globals:=[],ended:=5}) (vG:=.slice none 0 0) (vW:=.slice none 0 0) (fg:=none) (fw:=none) (F:=F2) rfl NL NM (by simpa [bg,iR] using kU) (ax.nil _ _ _) (ax.nil _ _ _) rfl rfl
    ((A0.mod dU (fun b hb e=>by subst e;exact Xc hb)).mod iJ (fun b hb e=>by subst e;exact Xc hb)) (fun b hb=>by
     rcases pI.2 b hb with h1 | h1
     ·exact sZ b h1
     ·omega) (fun b hb=>by cases hb) (fun b hb=>by cases hb) r1 r2 NR r3
   exact ⟨τ,_,S,rfl,hA,NV⟩
 ·have ah:¬ i < T.globals.length:=by simpa using ah
  obtain rfl:i=T.globals.length:=by omega
  obtain ⟨bG,cG2,sp,rfl,rfl,_⟩:=nR.pos (by omega);obtain ⟨bG',eG,_,fP⟩:=kA nR (i:=at') WZ;cases eG;have fP:jI.cell? ⟨bG,at',none⟩=some (I at'):=by
   rw [fP];simp [WZ]
  have b1:(0:Int)≤at'∧(at':Int) < T.globals.length:=by omega
  simp only [go_sem,simprocAttr,ak,bh,cell_of wX,bg,iR,b1,c8,fP];refine dL (by rfl) (by rfl) ?_;intro ry a7 dG _;refine σ ?_;refine bL (off:=11) rfl rfl (dG.at wX (fun h=>h)) rfl (by simp [bg]) ?_;intro wg eS dU _;refine σ ?_;have Tm:=dG.size;have hM:fO T entry input heap bj every = { iR T input heap bj every T.globals.length with wait:=[(at':Int)]}:=by unfold fO;rw [if_pos W8,cr]
  have hX:Mod (fun b=>(w.heap.size≤b∧b < w6.heap.size)∨w9.heap.size≤b) fM wg:=(hZ.step dG (fun _ h _=>h.elim)).step dU (fun b hb _=>by subst hb;exact .inr (Nat.le_refl _));obtain ⟨r1,r2,r3,r4⟩:=rest wg hX;have yR:¬ F1 w9.heap.size:=fun e=>by have:=sZ _ e;omega
  have l11:=lt_of_heap wX;refine ⟨r4,fun h=>absurd W7 h,fun _=>?_⟩;rw [hM];have hoW:ax wg 3 1 (.slice (some ⟨jI.heap.size,0,none⟩) 1 1) [I (at':Int)] 1 (some jI.heap.size):=(ax.jQ (xs:=[I (at':Int)]) a7 rfl).mod dU (fun b hb e=>by have:=Option.some.inj hb;omega);obtain ⟨τ,hA,NV⟩:=WX (w:=w) (w6:=w6) (w9:=w9) (w':=wg) (m:=w9.heap.size) (S:=S) (M:={ iR T input heap bj every T.globals.length with wait:=[(at':Int)]}) (fg:=some bG) (fw:=some jI.heap.size) (F:=F1) rfl NL NM (by simpa [bg,iR] using eS)
   (by
    have:=(nR.mod dG (fun _ _ h=>h)).mod dU (fun b hb e=>by subst e;have:=(AZ _ hb).1;omega)
    simpa [iR] using this) hoW rfl rfl ((NS.mod dG (fun _ _ h=>h)).mod dU (fun b hb e=>by subst e;exact yR hb)) sZ AZ (fun b hb=>by
     cases hb
     refine ⟨by omega,fun h2=>by have:=NS.lt _ h2;omega,fun e=>by have:=nR.lt rfl;cases e;omega⟩) r1 r2 NR r3
  exact ⟨τ,_,S,rfl,hA,NV⟩
end
end
section
open Go Go.W
theorem aj2 {w w3:World} {τ bJ:Tag} {i k:Nat} {f f':Fr} {vs vp vs' wk:Value} {fs fp fs':Option Nat} (h:nx w τ i k f vs vp fs fp) (hs:ax w3 3 1 vs' (f'.stack.map I) f'.stack.length fs') (gY:ax w3 3 1 wk (f'.spine.map I) f'.spine.length fp)
   (hb:w3.heap[k]? = some (.cells (cz f' vs' wk).toArray 151 (0,0))) (hw:τ.wx bJ w) (ht:bJ.is fs' (.fs i)):nC w3 bJ i k f':=by
 obtain ⟨l1,l2,l3⟩:=h.lt;exact ⟨vs',wk,fs',fp,hb,(hw k l1 (by rw [h.tk];simp)).trans h.tk,hs,ht,gY,yi h.tp hw l3 (by simp)⟩
section
variable {w:World} {τ:Tag} {m:Nat} {S:SV} {M:Mc} {ks:List Nat} {k:Nat} {x:Ins} {n:Int}
theorem aj3 (hT:dH w τ m S M ks k) (hM:bH n M) (he:M.ended=0) (h4:(M.st.nd M.aa.bI).kind=4) (ie:M.st.kd≠.ref) (gY:M.aa.spine.length≤4294967295)
   (kf:(M.aa.spine.length:Int)≥(M.a8.gl (M.st.nd M.aa.bI).num).arity) :
   aD Tryz.prog 137 [ptr m,ptr k,I (M.st.ov M.aa.bI),I (M.st.nd M.aa.bI).num] w fun _ w'=>aU w τ m S (M.call M.aa (M.st.nd M.aa.bI).num) ks w':=by
 have hG:=hM.py hT.pos;have mq:=hM.g.nd hG.sd;have mD:=mq.2.2.1 h4;have hg0:=((sN mq.1).2.2.2.1 h4).2;generalize iu:(M.st.nd M.aa.bI).num=num at *;obtain ⟨g,rfl⟩:∃ g:Nat,num=g:=⟨num.toNat,by omega⟩;have aj4:=hM.a8.kC _ (FY (c:=(g:Int)) (by omega));obtain ⟨ar,G6⟩:∃ ar:Nat,(M.a8.gl g).arity=ar:=⟨(M.a8.gl g).arity.toNat,by omega⟩;rw [G6] at kf aj4;obtain ⟨vG,vF,vW,vT,fg,ff,fw,ft,F,hh⟩:=hT.at';obtain ⟨vs,vp,fs,fp,hF⟩:=hT.fr;have hc:=hh.cells;have sO:=hF.cells;obtain ⟨ad,c,cv,C',B1,_,wY,dW,sP⟩:=yB hh.a8 (i:=g) (by omega);rw [G6] at wY;have wY:w.cell? ⟨(ad.add (g*3)).block,(ad.add (g*3)).off+1,none⟩=some (I ar):=wY;have b1:(0:Int)≤g∧(g:Int) < M.a8.globals.length:=by omega
 obtain ⟨d,hd⟩:∃ d:Nat,d+ar=M.aa.spine.length:=⟨M.aa.spine.length - ar,by omega⟩;obtain ⟨aP,cP,rfl,NW,_⟩:=hF.spine.val;have e1:IntKind.i64.wrap ((M.aa.spine.length:Int) - ar)=d:=by rw [bU (by omega) (by omega)];omega
 have b2:(0:Int)≤d∧(d:Int)≤M.aa.spine.length:=by omega
 refine ae7.calls rfl ?_;unfold Ll;(try simp only [go_sem,simprocAttr,ak,bh,cell_of hc,ptr,bg,C',b1,wY,cell_of sO,cz,e1,b2]);have hlen:M.aa.spine.length - d=ar:=by omega
 generalize haO:(if cP=d then aP else Option.map (fun x=>x.add d) aP)=aO;obtain ⟨O,hO⟩:∃ O:List Int,O=M.aa.own ar:=⟨_,rfl⟩;have NX:O=M.aa.spine.drop d:=by rw [hO];unfold Fr.own;rw [Int.toNat_natCast,show M.aa.spine.length - ar=d by omega]
 have G7:O.length=ar:=by rw [NX,List.length_drop];omega
 have Xd:∀ s∈O,M.st.In s:=fun s hs=>hG.sp s (by rw [NX] at hs;exact List.mem_of_mem_drop hs)
 have hOg:∀ i,i < ar→∃ bP,aO=some ⟨bP,d,none⟩∧fp=some bP∧w.cell? ⟨bP,d+i,none⟩=some (I (O.getD i 0))∧O.getD i 0∈O:=by
  intro i hi;obtain ⟨bP,rfl,j0,fP⟩:=kA hF.spine (i:=d+i) (by omega);refine ⟨bP,?_,j0,?_,uz (by omega)⟩
  ·rw [← haO,if_neg (by omega)];simp [Addr.add];intro h;exact h.symm
  ·have e:O.getD i 0=M.aa.spine.getD (d+i) 0:=by rw [NX];simp [List.getD_eq_getElem?_getD,List.getElem?_drop]
   rw [e,fP,List.getElem?_map,List.getElem?_eq_getElem (by omega),List.getD_eq_getElem?_getD,List.getElem?_eq_getElem (by omega)];rfl
 rw [hlen];have gq:M.aa.bI=M.aa.bI:=rfl;have aj5:∀ s∈O,(M.st.nd s).kind≠3→M.call M.aa g=M.fail 5:=by
  intro s hs hk;unfold Mc.call;rw [G6,← hO,if_neg];intro hh;rw [List.all_eq_true] at hh;exact hk (by simpa using hh s hs)
 refine dL (by rfl) (by rfl) ?_;intro w1 aq ag _;have nZ:Mod (fun _=>False) w w1:=ag.dj;have hbw:w.drew.heap.size=w.heap.size:=rfl;(try simp only [go_sem,simprocAttr])
 refine dz (fun z ρ w'=>∃ (i:Nat) (v:Value) (f:Option Nat),z=ar - i∧i≤ar∧Mod (fun _=>False) w w'∧(∀ s∈O.take i,(M.st.nd s).kind=3) ∧
  ax w' 3 1 v (((if i=0 then (M.st.ov M.aa.bI:Int) else (M.st.ov (O.getD 0 0):Int))::(O.take i).map (fun s=>(M.st.nd s).args.getD 1 0)).map I) (i+1) f∧(∀ b,f=some b→w.heap.size≤b) ∧
  ρ=[(0,ptr m),(1,ptr k),(3,I g),(8,I ar),(10,v),(38,.slice aO ar (cP - d)),(39,I ar),(40,I i)]) ar ⟨0,_,some w.heap.size,rfl,by omega,nZ,(by simp),ax.jQ (xs:=[I (M.st.ov M.aa.bI:Int)]) aq rfl,(fun b hb=>by cases hb;omega),rfl⟩ ?_
 rintro z ρ w2 ⟨i,v,f,rfl,hi,ae,cA,hv,hf,rfl⟩;have h2:=hT.later ae;unfold TN;(try simp only [go_sem,simprocAttr]);refine aX rfl (fun NY=>?_) (fun NY=>?_)
 ·have ah:i < ar:=by simpa using NY
  obtain ⟨bP,aj6,j0,fP,ee⟩:=hOg i ah;have G8:i < O.length:=by omega
  have cK:=Xd _ ee;generalize hs:O.getD i 0=s at *;have aj7:=ae.cell fP (fun h=>h);have b3:(0:Int)≤i∧(i:Int) < ar:=by omega
  subst aj6;(try simp only [go_sem,simprocAttr,ak,bh,b3,c8,aj7]);refine ao (by rfl) ?_;refine (ot h2.at' hM.g.st hM.g.ends cK).mono ?_;rintro _ w3 ⟨v3,rfl,rC,ab⟩;(try simp only [go_sem,simprocAttr]);refine de ?_;intro w4 aJ aj _;refine cu (cs:=[I 0,I 0,.slice none 0 0]) rfl rfl aJ rfl rfl (ow rC _ _) ?_;intro w5 cd ay iq;have dy:=ae.size;have aoq:=ab.size;have gD:Mod (fun _=>False) w3 w5:=aj.step ay (fun x U hl=>by subst U;omega);have dt:Mod (fun _=>False) w w5:=(ae.trans ab).trans gD;have h5:=hT.later dt;have aj8:=hM.g.nd cK;obtain ⟨uh,rC,nt⟩:=rC;obtain ⟨va3,vc3,rfl,_⟩:=rC.val;have lD:((M.st.nd s).kind != 3)=decide ((M.st.nd s).kind≠3):=by by_cases hh:(M.st.nd s).kind=3<;>simp [hh]
  (try simp only [go_sem,simprocAttr,cell_of cd,lD]);refine aX rfl (fun hk=>?_) (fun hk=>?_)
  ·simp only [aK,aL,aM,ak,aN] at hk;(try simp only [go_sem,simprocAttr]);refine ao (by rfl) ?_;refine (rA h5.at' 5).mono ?_;rintro _ w6 hop;(try simp only [go_sem,simprocAttr]);rw [aj5 s ee hk];exact aU.boxed dt hop
  ·simp only [aK,aL,aM,ak,aN] at hk;have uO:=(hv.mod ab (fun _ _ h=>h)).mod gD (fun _ _ h=>h);have Xe:=rC.mod gD (fun _ _ h=>h);have Dg:=(sN aj8.1).2.2.1 hk;rw [Dg] at Xe;obtain ⟨b6,rfl,_,mE⟩:=kA Xe (i:=1) (by omega);have mE:w5.cell? ⟨b6,1,none⟩=some (I ((M.st.nd s).args.getD 1 0)):=by
    rw [mE,List.getElem?_map,List.getElem?_eq_getElem (by omega),List.getD_eq_getElem?_getD,List.getElem?_eq_getElem (by omega)];rfl
   have iq:w3.heap.size < w5.heap.size:=lt_of_heap cd;(try simp only [go_sem,simprocAttr])
   refine Bz (fun ρ w'=>ρ.get 0=some (ptr m)∧ρ.get 1=some (ptr k)∧ρ.get 3=some (I g)∧ρ.get 8=some (I ar)∧ρ.get 10=some v∧ρ.get 14=some (ptr w3.heap.size)∧ρ.get 38=some (.slice (some ⟨bP,d,none⟩) ar (cP - d))∧ρ.get 39=some (I ar)∧ρ.get 40=some (I i) ∧
    Mod (fun b=>f=some b) w5 w'∧ax w' 3 1 v (((M.st.ov (O.getD 0 0):Int)::(O.take i).map (fun s=>(M.st.nd s).args.getD 1 0)).map I) (i+1) f) ?_ ?_
   ·refine aX rfl (fun hz=>?_) (fun hz=>?_)
    ·have hz:i=0:=by simpa using hz
     obtain ⟨bV,cV,cs,rfl,rfl,A1,iT,_,mn⟩:=E7 uO (i:=0) (by omega);have b4:(0:Int)≤0∧(0:Int) < ((i+1:Nat):Int):=by omega
     (try simp only [go_sem,simprocAttr,ak,bh,b4,c8]);refine bL (off:=0) rfl rfl A1 rfl iT ?_;intro w6 cO aH _;(try simp only [go_sem,simprocAttr]);refine ⟨aH.aB (fun b hb=>by rw [hb]),?_⟩;have:=mn w6 _ cO;rw [if_pos hz] at this;simp only [List.set_cons_zero] at this;have e:O.getD 0 0=s:=by rw [← hs,hz]
     rw [e];exact this
    ·have hz:i≠0:=by simpa using hz
     (try simp only [go_sem,simprocAttr]);rw [if_neg hz] at uO;exact ⟨Mod.refl _ _,uO⟩
   rintro ρ w6 ⟨r0,r1,r3,r8,pr,wZ,CP,Cs,Ct,aH,sH⟩;have nf3:f≠some w3.heap.size:=fun e=>by have:=hv.lt e;omega
   have nf6:f≠some b6:=fun e=>by
    have h1:=hv.lt e;have h2:=nt b6 (by assumption);omega
   have ET:=aH.at cd (fun e=>nf3 e);have aj9:=aH.cell mE (fun e=>nf6 e);have b5:(0:Int)≤1∧(1:Int) < ((M.st.nd s).args.length:Int):=by omega
   obtain ⟨av6,cv6,rfl,_⟩:=sH.val;have e40:IntKind.i64.wrap ((i:Int)+1)=((i+1:Nat):Int):=by rw [bU (by omega) (by omega)];omega
   (try simp only [go_sem,simprocAttr,ak,bh,r0,r1,r3,r8,pr,wZ,CP,Cs,Ct,cell_of ET,b5,c8,aj9,show Int.toNat 1=1 from rfl]);refine dL (by rfl) (by rfl) ?_;intro w7 cj aZ _;(try simp only [go_sem,simprocAttr,r0,r1,r3,r8,pr,wZ,CP,Cs,Ct]);refine gN (m:=1) (news:=[I ((M.st.nd s).args.getD 1 0)]) (by (try simp only [go_sem,simprocAttr,pr])) (sH.mod aZ (fun _ _ h=>h)) rfl (fun h=>by cases h) (jR (xs:=[I ((M.st.nd s).args.getD 1 0)]) cj) (oQ [(M.st.nd s).args.getD 1 0]) rfl (by omega) (by omega) ?_;intro v8 w8 f8 ho8 bY hf8;(try simp only [go_sem,simprocAttr,r0,r1,r3,r8,CP,Cs,Ct,e40]);have Xf:∀ b,f=some b→¬ b < w.heap.size:=fun b hb=>by have:=hf b hb;omega
   have W0:=aZ.size;have s56:=aH.size;have s05:=dt.size;refine ⟨_,by omega,i+1,v8,f8,rfl,by omega,((dt.step aH (fun b hb hl=>absurd hl (Xf b hb))).trans aZ).step bY (fun b hb hl=>absurd hl (Xf b hb)),fun s' fG=>?_,?_,fun b hb=>?_,rfl⟩
   ·rw [List.take_succ_eq_append_getElem G8] at fG;rcases List.mem_append.1 fG with h1 | h1
    ·exact cA s' h1
    ·obtain rfl:=List.mem_singleton.1 h1;have e:O[i]=s:=by rw [← hs,List.getD_eq_getElem?_getD,List.getElem?_eq_getElem G8];rfl
     rw [e];exact hk
   ·rw [if_neg (by omega)];have e:O[i]=s:=by rw [← hs,List.getD_eq_getElem?_getD,List.getElem?_eq_getElem G8];rfl
    rw [List.take_succ_eq_append_getElem G8,List.map_append,e]
    simpa using ho8
   ·rcases hf8 b hb with h1 | h1
    ·exact hf b h1
    ·omega
 ·have ah:¬ i < ar:=by simpa using NY
  obtain rfl:i=ar:=by omega
  obtain ⟨H,hH⟩:∃ H:Int,H=if i=0 then (M.st.ov M.aa.bI:Int) else (M.st.ov (O.getD 0 0):Int):=⟨_,rfl⟩
  rw [← hH] at hv;have jG:O.take i=O:=List.take_of_length_le (by omega);rw [jG] at cA hv;have hHe:M.head M.aa i=H:=by
   unfold Mc.head;rw [← hO,hH];have hr:M.ref=false:=by unfold Mc.ref;split<;>simp_all
   cases O with
   | nil=>simp at G7;rw [if_pos G7.symm]
   | cons a l=>simp at G7;rw [if_neg (by omega),hr];rfl
  have Xg:M.st.In H∧M.st.ov H=H.toNat:=by
   rw [hH]
   split
   ·exact ⟨hM.g.sM hG.sd,by rw [Int.toNat_natCast];exact (St.F7 hM.g hG.sd).1⟩
   ·have:=Xd _ (uz (l:=O) (i:=0) (by omega));exact ⟨hM.g.sM this,by rw [Int.toNat_natCast];exact (St.F7 hM.g this).1⟩
  have Bj:M.call M.aa g = { M.bZ { M.aa with runs:=true,iM:=g,at':=0,stack:=H::O.map (fun s=>(M.st.nd s).args.getD 1 0),spine:=M.aa.spine.take d} with st:=M.st.set H.toNat ⟨7,0,[]⟩}:=by
   unfold Mc.call;rw [G6,← hO,if_pos (List.all_eq_true.2 (fun s hs=>by simpa using cA s hs)),hHe,Xg.2,Int.toNat_natCast,show M.aa.spine.length - i=d by omega]
  have CU:dH w2.drew (bO τ w .no) m S M ks k:=h2.mod (Mod.refl (fun _=>False) w2).drew (dP _ _).wx (fun _ _ h=>h.elim);obtain ⟨Vb,Vc,Vd,Ve,Vf,Da,Vg,Gu,F2,cE⟩:=CU.at';have cy:w2.heap[m]? = _:=cE.cells;obtain ⟨ti,ui,sI⟩:=cE.st.iface;obtain ⟨aV,cV,rfl,_⟩:=hv.val;obtain ⟨bV,rfl,A3,NZ⟩:=kA hv (i:=0) (by omega);have NZ:w2.cell? ⟨bV,0,none⟩=some (I H):=NZ;have b6:(0:Int)≤0∧(0:Int) < ((i+1:Nat):Int):=by omega
  (try simp only [go_sem,simprocAttr,ak,bh,cell_of cy,bg,sI,b6,c8,NZ]);refine Fm (p:=H) (nd:=⟨7,0,[]⟩) (by rw [sI];rfl) (by rfl) cE.st hM.g.st Xg.1 rfl rfl (um _) ?_;intro w3 F3 aj' uH;have h3:=cE.store (s:=M.st.set H.toNat ⟨7,0,[]⟩) uH aj' rfl;obtain ⟨vs3,vp3,fs3,uh,je⟩:nC w3 (mC (bO τ w .no) w2.drew F3) (M.aA.length - 1) k M.aa:=h3.jw _ _ _ hT.hk (CH hT.pos);have eh:w3.heap[k]? = _:=je.cells;obtain ⟨aP3,Xh,rfl,aor,_⟩:=je.spine.val;have b7:(0:Int)≤d∧(d:Int)≤Xh:=by omega
  (try simp only [go_sem,simprocAttr,ak,bh,cell_of eh,cz,e1,b7,CA]);refine bL (off:=4) rfl rfl eh rfl (by simp [cz]) ?_;intro w4 aJ aj _;(try simp only [go_sem,simprocAttr]);refine bL (off:=0) rfl rfl aJ rfl (by simp [cz]) ?_;intro w5 cd ay _;(try simp only [go_sem,simprocAttr]);refine bL (off:=1) rfl rfl cd rfl (by simp [cz]) ?_;intro w6 cO aH _;(try simp only [go_sem,simprocAttr]);refine bL (off:=2) rfl rfl cO rfl (by simp [cz]) ?_;intro w7 cj aZ _;(try simp only [go_sem,simprocAttr]);refine bL (off:=3) rfl rfl cj rfl (by simp [cz]) ?_;intro w8 en bY _;(try simp only [go_sem,simprocAttr]);have G9:Mod (· = k) w3 w8:=((((Mod.dj aj).trans ay).trans aH).trans aZ).trans bY;have lV:=hv.lt A3;have nV:bO τ w .no bV = .no:=oh (hf _ A3);have tV:mC (bO τ w .no) w2.drew F3 bV = .no:=by rw [nD (bO τ w .no) w2.drew F3 bV lV];exact nV
  have nVF:¬ F2 bV:=fun e=>by have:=cE.tF _ e;rw [nV] at this;cases this
  have nVk:bV≠k:=fun e=>by have:=je.tk;rw [← e,tV] at this;cases this
  have JS:ax w8 3 1 (.slice (some ⟨bV,0,none⟩) (i+1) cV) ((H::O.map (fun s=>(M.st.nd s).args.getD 1 0)).map I) (i+1) f:=by
   refine ((hv.mod (Mod.refl (fun _=>False) w2).drew (fun _ _ h=>h)).mod uH.1 (fun b hb=>?_)).mod G9 (fun b hb e=>?_)
   ·rw [A3] at hb;cases hb;exact nVF
   ·rw [A3] at hb;cases hb;exact nVk e
  have aka:uh≠some k:=fun e=>by have:=je.tp k e;rw [je.tk] at this;cases this
  have akb:=(Ft je.spine (k:=d) (by omega)).mod G9 (fun b hb e=>by subst e;exact aka hb);rw [Bj];have Xi:(mC (bO τ w .no) w2.drew F3).wx (fun b=>if b=bV then .fs (M.aA.length - 1) else mC (bO τ w .no) w2.drew F3 b) w3:=by
   intro b hb bq;by_cases A1:b=bV
   ·subst A1;exact absurd tV bq
   ·simp only [if_neg A1]
  have bC:=aj2 (f':={ M.aa with runs:=true,iM:=(g:Int),at':=0,stack:=H::O.map (fun s=>(M.st.nd s).args.getD 1 0),spine:=M.aa.spine.take d}) je (vs':=.slice (some ⟨bV,0,none⟩) (i+1) cV) (fs':=f) (wk:=.slice aP3 d Xh) (w3:=w8)
   (by rw [show (H::O.map (fun s=>(M.st.nd s).args.getD 1 0)).length=i+1 by simp [G7]];exact JS)
   (by
    have el:(M.aa.spine.take d).length=d:=by rw [List.length_take];omega
    rw [el,List.map_take]
    simpa using akb)
   (by simpa [cz] using en) Xi (fun b hb=>by rw [A3] at hb;cases hb;simp)
  have uN:=h3.frame hT.hk (G9.aB (fun b hb=>by subst hb;exact .inl je.tk)) Xi bC;refine ⟨_,fun b hb=>?_,⟨_,_,_,_,_,_,_,_,_,uN⟩,?_⟩
  ·have A1:b≠bV:=fun e=>by subst e;have:=hf _ A3;omega
   simp only [if_neg A1];rw [nD (bO τ w .no) w2.drew F3 b (Nat.lt_of_lt_of_le hb ae.size),eB τ w .no b hb]
  ·refine ((ae.aB (fun _ h=>h.elim)).step (Mod.dj uH.1) (fun b hb hl=>?_)).step G9 (fun b hb hl=>?_)
   ·have:=cE.tF b hb;rw [eB τ w .no b hl] at this;rw [this];simp [Tg.own]
   ·subst hb;rw [hF.tk];simp [Tg.own]
end
end
section
open Go Go.W
theorem iw.later {w w':World} {τ:Tag} {m:Nat} {S:SV} {M:Mc} {ks:List Nat} (h:iw w τ m S M ks) (hm:Mod (fun _=>False) w w'):iw w' (bO τ w .no) m S M ks:=h.mod hm (eB τ w .no).wx (fun _ _ h=>h.elim)
structure G' (w:World) (m:Nat) (S:SV) (M:Mc) (vG vF vT:Value) (fw:Option Nat) (l:List Int) (W:World):Prop where
 ex:∃ v Ao,W.heap[m]? = some (.cells (bg S M vG vF v vT).toArray 113 (0,0))∧ax W 3 1 v ((M.wait++l).map I) (M.wait++l).length Ao∧∀ b,Ao=some b→fw=some b∨w.heap.size≤b
 mod:Mod (fun b=>fw=some b∨b=m) w W
theorem G'.quiet {w:World} {m:Nat} {S:SV} {M:Mc} {vG vF vT:Value} {fw:Option Nat} {l:List Int}:Quiet w.heap.size (G' w m S M vG vF vT fw l):=by
 rintro W W' X ⟨⟨v,fs',h1,h2,h3⟩,h4⟩ hm hs;have fG:∀ b,X b→∃ o:Obj,W.heap[b]? = some o∧o.isCells=false:=fun b hb=>(hs b hb).2
 refine ⟨⟨v,fs',CT hm fG h1,FI hm fG h2,h3⟩,h4.step hm (fun b hb hl=>?_)⟩;have:=(hs b hb).1;omega
theorem akc {P:Program} {N:Nat} {a:IR} {id:Nat} {next:List Nat→Env→World→Prop} {Q:nY} {ρ:Env} {w:World} (jP:Env→World→Prop) (h:cD P N a (ji id (kO jP (fun e ρ w=>Q e [] ρ w))) ρ w) (hk:∀ ρ w,jP ρ w→next [] ρ w) :
   cD P N a (ji id (fun e ρ w=>zx next Q e [] ρ w)) ρ w:=
 xv a _ _ (zp (fun e ρ w h=>by
  cases e with
  | normal=>exact hk _ _ h
  | _=>exact h)) ρ w h
theorem Xj {w:World} {τ:Tag} {m:Nat} {S:SV} {M:Mc} {vG vF vW vT:Value} {fg ff fw ft:Option Nat} {F:Nat→Prop} {ks:List Nat} (h:dZ w τ m S M vG vF vW vT fg ff fw ft F ks) (it:It) {w4:World} {v:Value} {yk:Option Nat} (hm:Mod (fun b=>ft=some b∨b=m) w w4)
   (hb:w4.heap[m]? = some (.cells (bg S M vG vF vW v).toArray 113 (0,0))) (ho:ax w4 42 2 v ((M.told++[it]).flatMap fe) (M.told++[it]).length yk) (hf:∀ b,yk=some b→ft=some b∨w.heap.size≤b) :
   aU w τ m S { M with told:=M.told++[it]} ks w4:=by
 refine ⟨bO τ w .tl,eB τ w .tl,⟨vG,vF,vW,v,fg,ff,fw,yk,F,h.afv (eB τ w .tl).wx hm hb ho (Cz h.tt (fun b hb=>h.tl.lt hb) hf) rfl rfl rfl rfl rfl rfl rfl⟩,hm.aB ?_⟩;rintro b (hb | rfl)
 ·rw [h.tt b hb];simp [Tg.own]
 ·rw [h.tm];simp [Tg.own]
section
variable {w:World} {τ:Tag} {m:Nat} {S:SV} {M:Mc} {ks:List Nat} {k:Nat} {x:Ins} {n:Int}
theorem akd (h:iw w τ m S M ks) (hM:bH n M) (he:M.ended=0) (ie:M.st.kd≠.ref) (hw:M.wait.length≤4294967295) (ht:M.told.length≤4294967295) (hf:M.aA.length≤4294967295) :
   aD Tryz.prog 79 [ptr m] w fun _ w'=>∃ dv,aU w τ m S M.tell dv w':=by
 have kh:=hM.px he;have cK:=hM.mG _ (F0 kh);have mq:=hM.g.nd cK;have hA8:(M.st.nd M.last).args.length≤8:=by
  have:=mq.1;simp only [Nd.may,gP,decide_eq_true_eq] at this;omega
 obtain ⟨j,hj⟩:∃ j:Nat,j+1=M.wait.length:=⟨M.wait.length - 1,by omega⟩;have zH:M.last=M.wait.getD j 0:=by unfold Mc.last;rw [← hj];rfl
 refine aey.calls rfl ?_;unfold TB;refine σ ?_;refine b8 rfl ?_;intro w1 aq ag _;have h1:=h.later ag;obtain ⟨vG,vF,vW,vT,fg,ff,fw,ft,F,hh⟩:=h1;have hc:=hh.cells;obtain ⟨aW,cW,rfl,_⟩:=hh.wt.val;obtain ⟨bW,rfl,AX,iU⟩:=kA hh.wt (i:=j) (by omega);have iU:w1.cell? ⟨bW,j,none⟩=some (I M.last):=by
  rw [iU,zH,List.getElem?_map,List.getElem?_eq_getElem (by omega),List.getD_eq_getElem?_getD,List.getElem?_eq_getElem (by omega)];rfl
 have e1:IntKind.i64.wrap ((M.wait.length:Int) - 1)=j:=by rw [bU (by omega) (by omega)];omega
 have b1:(0:Int)≤j∧(j:Int) < M.wait.length:=by omega
 have N0:=lt_of_heap aq;have lm:=hh.lt;have lW:=hh.wt.lt AX;simp only [go_sem,simprocAttr,ak,bh,cell_of aq,ptr,Value.cells,cell_of hc,bg,e1,b1,c8,iU];refine Ej (fun ρ w'=>∃ b4 v,ρ.get 1=some (ptr w.heap.size)∧ρ.get 2=some (I j)∧ρ.get 4=some (ptr b4)∧w1.heap.size≤b4∧w'.heap[b4]? = some (.cells #[I (M.st.nd M.last).kind,I (M.st.nd M.last).num,v] 104 (0,0))∧xC w1 w' v (M.st.nd M.last).args∧Mod (fun _=>False) w1 w') ?_ ?_
 ·rw [Ei];refine ⟨?_,?_⟩
  ·refine δ (by rfl) (ot ((h.later ag).mod (Mod.refl (fun _=>False) w1).drew (dP _ _).wx (fun _ _ h=>h.elim)) hM.g.st hM.g.ends cK) ?_;rintro _ w2 ⟨v,rfl,hv,ae⟩;refine σ ?_;refine de ?_;intro w3 aE ab _;have k1:=ab.old m (by have:=ae.size;exact Nat.lt_of_lt_of_le lm this) (fun h=>h);have k2:=ab.old w.heap.size (by have:=ae.size;exact Nat.lt_of_lt_of_le N0 this) (fun h=>h);have k3:=ab.old bW (by have:=ae.size;exact Nat.lt_of_lt_of_le lW this) (fun h=>h);refine σ ?_;refine ⟨by simp only [gZ,k1,k2,k3,and_self,implies_true],?_⟩;refine cu (cs:=[I 0,I 0,.slice none 0 0]) rfl rfl aE rfl rfl (ow hv _ _) ?_;intro w4 aJ aj eA;refine σ ?_;have uf:Mod (fun _=>False) w1 w2:=Mod.dj ae;have dm:Mod (fun _=>False) w2 w4:=ab.step aj (fun x U hl=>by subst U;omega);obtain ⟨fp,hv,hf⟩:=hv;exact ⟨w2.heap.size,v,rfl,uf.size,aJ,⟨fp,hv.mod dm (fun _ _ h=>h),hf⟩,uf.trans dm⟩
  ·refine de ?_;intro w3 aE ab _;have k1:=ab.old m lm (fun h=>h);have k2:=ab.old w.heap.size N0 (fun h=>h);have k3:=ab.old bW lW (fun h=>h);refine σ ?_;refine ⟨by simp only [gZ,k1,k2,k3,and_self,implies_true],?_⟩;have yK:Mod (fun _=>False) w1 w3:=Mod.dj ab;refine δ (by rfl) (ot ((h.later ag).later yK) hM.g.st hM.g.ends cK) ?_;rintro _ w2 ⟨v,rfl,hv,ae⟩;refine σ ?_;have an:=ae.at aE (fun h=>h);refine cu (cs:=[I 0,I 0,.slice none 0 0]) rfl rfl an rfl rfl (ow hv _ _) ?_;intro w4 aJ aj eA;refine σ ?_;obtain ⟨fp,hv,hf⟩:=hv;refine ⟨w1.heap.size,v,rfl,Nat.le_refl _,aJ,⟨fp,hv.mod aj (fun b hb hh=>by subst hh;have:=hf _ hb;have:=lt_of_heap aE;have e:w1.drew.heap.size=w1.heap.size:=rfl;omega),fun b hb=>Nat.le_trans yK.size (hf b hb)⟩,(yK.trans ae).step aj (fun x U hl=>by subst U;have e:w1.drew.heap.size=w1.heap.size:=rfl;omega)⟩
 rintro ρ w2 ⟨b4,v,r1,r2,r4,Xk,aJ,LD,ae⟩;have a7:=ae.at aq (fun h=>h);simp only [go_sem,simprocAttr,r1,r2,r4,cell_of aJ];have N3:=ae.drew;have h2:iw w2.drew (bO (bO τ w .no) w1 .no) m S M ks:=(h.later ag).later N3;obtain ⟨Vb,Vc,Vd,Ve,Vf,Da,Vg,Gu,F2,cE⟩:=h2;have cy:w2.heap[m]? = _:=cE.cells;have xe:=cE.lt;have xf:=lt_of_heap a7;have Xl:=lt_of_heap aJ;have wy:∀ b,w1.heap.size≤b→bO (bO τ w .no) w1 .no b = .no:=fun b hb=>oh hb
 have Ha:bO (bO τ w .no) w1 .no w.heap.size = .no:=by
  rw [eB _ w1 .no _ N0];exact oh (Nat.le_refl _)
 have bT:Gu≠some w.heap.size:=fun e=>by have:=cE.tt _ e;rw [Ha] at this;cases this
 have mT:Gu≠some m:=fun e=>by have:=cE.tt _ e;rw [cE.tm] at this;cases this
 have bF:Da≠some w.heap.size:=fun e=>by have:=cE.tf _ e;rw [Ha] at this;cases this
 have mF:Da≠some m:=fun e=>by have:=cE.tf _ e;rw [cE.tm] at this;cases this
 generalize hA:M.st.nd M.last=A at *;refine akc (fun ρ w'=>ρ.get 1=some (ptr w.heap.size)∧ρ.get 2=some (I j)∧ρ.get 4=some (ptr b4)∧(A.kind=1∨A.kind=2)∧aU w2.drew (bO (bO τ w .no) w1 .no) m S { M with told:=M.told++[M.item A]} ks w') ?_ ?_
 ·refine aX rfl (fun hk=>?_) (fun hk=>?_)
  ·simp only [aK,aL,aM,ak,aN] at hk;obtain ⟨aT,cT,rfl,_⟩:=cE.tl.val;simp only [go_sem,simprocAttr,ak,bh,cell_of a7,ptr,Value.cells,cell_of cy,bg,cell_of aJ];refine dL (by rfl) (by rfl) ?_;intro w3 aE ab _;have k1:=ab.old m xe (fun h=>h);have k2:=ab.old w.heap.size xf (fun h=>h);have k3:=ab.old b4 Xl (fun h=>h);refine σ ?_;refine ⟨by simp only [gZ,k1,k2,k3,and_self,implies_true],?_⟩;refine gN (m:=1) (news:=[.string ⟨#[]⟩,I A.num]) rfl (cE.tl.mod ab (fun _ _ h=>h)) rfl (fun h=>by cases h) (jR (xs:=[.string ⟨#[]⟩,I A.num]) aE) (by simp [Value.oneCell']) rfl (by omega) (by omega) ?_;intro v4 w4 Xm j9 aj ke;have k4:=aj.old w.heap.size (by have:=ab.size;exact Nat.lt_of_lt_of_le xf this) bT;have ph:=aj.at (ab.at cy (fun h=>h)) mT;obtain ⟨va,vc,rfl,_⟩:=j9.val;refine σ ?_;refine ⟨by simp only [gZ,k4,and_self,implies_true],?_⟩;refine bL (off:=13) rfl rfl ph rfl (by simp [bg]) ?_;intro w5 cd ay iq;refine σ ?_;have hI:M.item A=⟨⟨#[]⟩,A.num⟩:=by unfold Mc.item;rw [if_pos hk]
   refine ⟨.inl hk,?_⟩;refine Xj cE (M.item A) (((ab.aB (fun _ h=>h.elim)).step aj (fun b hb _=>.inl hb)).step ay (fun b hb _=>.inr hb)) (by simpa [bg] using cd) ?_ (fun b hb=>(ke b hb).imp id (fun hh=>by have:=ab.size;omega));rw [hI]
   have:=j9.mod ay (fun b hb e=>by
    subst e;rcases ke b hb with h3 | h3
    ·exact mT h3
    ·have:=ab.size;have e2:b < w2.drew.heap.size:=xe;omega)
   simpa [fe] using this
  simp only [aK,aL,aM,ak,aN] at hk;refine σ ?_;refine aX rfl (fun eU=>?_) (fun eU=>?_)
  ·simp only [aK,aL,aM,ak,aN] at eU;have fC:=mq.2.2.2 eU;have h0n:0≤A.num:=((sN mq.1).2.1 eU).2;obtain ⟨q,hq⟩:∃ q:Nat,A.num=q:=⟨A.num.toNat,by omega⟩;obtain ⟨ad,c,ake,FQ,_⟩:=yo cE.a8 (i:=q) (by omega);have b2:(0:Int)≤q∧(q:Int) < M.a8.aC.length:=by omega
   have FQ:w2.cell? (ad.add (q*2))=some (.string (M.a8.sh q).name):=FQ;obtain ⟨aT,cT,rfl,_⟩:=cE.tl.val;rw [hq] at aJ;simp only [go_sem,simprocAttr,ak,bh,cell_of a7,ptr,Value.cells,cell_of cy,bg,cell_of aJ,ake,b2,FQ];refine dL (by rfl) (by rfl) ?_;intro w3 aE ab _;have k1:=ab.old m xe (fun h=>h);have k2:=ab.old w.heap.size xf (fun h=>h);refine σ ?_;refine ⟨by simp only [gZ,k1,k2,and_self,implies_true],?_⟩;refine gN (m:=1) (news:=[.string (M.a8.sh q).name,I 0]) rfl (cE.tl.mod ab (fun _ _ h=>h)) rfl (fun h=>by cases h) (jR (xs:=[.string (M.a8.sh q).name,I 0]) aE) (by simp [Value.oneCell']) rfl (by omega) (by omega) ?_;intro v4 w4 Xm j9 aj ke;have k4:=aj.old w.heap.size (by have:=ab.size;exact Nat.lt_of_lt_of_le xf this) bT;have ph:=aj.at (ab.at cy (fun h=>h)) mT;obtain ⟨va,vc,rfl,_⟩:=j9.val;refine σ ?_;refine ⟨by simp only [gZ,k4,and_self,implies_true],?_⟩;refine bL (off:=13) rfl rfl ph rfl (by simp [bg]) ?_;intro w5 cd ay iq;refine σ ?_;have hI:M.item A=⟨(M.a8.sh q).name,0⟩:=by unfold Mc.item;rw [if_neg hk,hq]
   refine ⟨.inr eU,?_⟩;refine Xj cE (M.item A) (((ab.aB (fun _ h=>h.elim)).step aj (fun b hb _=>.inl hb)).step ay (fun b hb _=>.inr hb)) (by simpa [bg] using cd) ?_ (fun b hb=>(ke b hb).imp id (fun hh=>by have:=ab.size;omega));rw [hI]
   have:=j9.mod ay (fun b hb e=>by
    subst e;rcases ke b hb with h3 | h3
    ·exact mT h3
    ·have:=ab.size;have e2:b < w2.drew.heap.size:=xe;omega)
   simpa [fe] using this
  ·simp only [aK,aL,aM,ak,aN] at eU;obtain ⟨aF,cF,rfl,_⟩:=cE.fr.val;obtain ⟨aW2,cW2,rfl,_⟩:=cE.wt.val;obtain ⟨Xn,rfl,aos,N4⟩:=kA cE.wt (i:=j) (by omega);have N4:w2.cell? ⟨Xn,j,none⟩=some (I M.last):=by
    have e:w2.cell? ⟨Xn,j,none⟩=(M.wait.map I)[j]?:=N4;rw [e,zH,List.getElem?_map,List.getElem?_eq_getElem (by omega),List.getD_eq_getElem?_getD,List.getElem?_eq_getElem (by omega)];rfl
   have hl:=cE.len;simp only [go_sem,simprocAttr,ak,bh,cell_of a7,ptr,Value.cells,cell_of cy,bg,b1,c8,N4];refine b8 rfl ?_;intro w3 aE ab _;have k1:=ab.old m xe (fun h=>h);have k2:=ab.old w.heap.size xf (fun h=>h);refine σ ?_;refine ⟨by simp only [gZ,k1,k2,and_self,implies_true],?_⟩;refine dL (by rfl) (by rfl) ?_;intro w4 xB aj _;have k3:=aj.old m (by have:=ab.size;exact Nat.lt_of_lt_of_le xe this) (fun h=>h);have k4:=aj.old w.heap.size (by have:=ab.size;exact Nat.lt_of_lt_of_le xf this) (fun h=>h);refine σ ?_;refine ⟨by simp only [gZ,k3,k4,and_self,implies_true],?_⟩;have dm:Mod (fun _=>False) w2.drew w4:=ab.trans aj;refine gN (m:=1) (news:=[ptr w2.drew.heap.size]) rfl (cE.fr.mod dm (fun _ _ h=>h)) rfl (fun h=>by cases h) (jR (xs:=[ptr w2.drew.heap.size]) xB) (by simp [Value.oneCell',ptr]) rfl (by omega) (by omega) ?_;intro v6 w6 ff6 jr aH jJ;obtain ⟨a6,c6,rfl,_⟩:=jr.val;have ph:=dm.at cy (fun h=>h);have mE:=aH.at ph mF;have k6:=aH.old w.heap.size (by have:=dm.size;exact Nat.lt_of_lt_of_le xf this) bF;refine σ ?_;refine ⟨by simp only [gZ,k6,and_self,implies_true],?_⟩;refine bL (off:=10) rfl rfl mE rfl (by simp [bg]) ?_;intro w7 cj aZ mX;refine σ ?_;have Bd:Mod (fun b=>Da=some b∨b=m) w2.drew w7:=((dm.aB (fun _ h=>h.elim)).step aH (fun b hb _=>.inl hb)).step aZ (fun b hb _=>.inr hb);have ur:w7.heap[w2.drew.heap.size]? = some (.cells (cz (yh M.last) (.slice none 0 0) (.slice none 0 0)).toArray 151 (0,0)):=by
    have q1:=aj.at aE (fun h=>h);have q2:=aH.at q1 (fun e=>hP (cE.fr.mod dm (fun _ _ h=>h)) e q1 (by decide));exact aZ.at q2 (fun e=>by have e2:m < w2.drew.heap.size:=xe;omega)
   have hop:=Uh cE M.last (k':=w2.drew.heap.size) (Nat.le_refl _) ur Bd (by simpa [bg,Mc.enter] using cj) (by
    have:=jr.mod aZ (fun b hb e=>by
     subst e;rcases jJ b hb with h3 | h3
     ·exact mF h3
     ·have:=dm.size;have e2:b < w2.drew.heap.size:=xe;omega)
    simpa using this) (fun b hb=>(jJ b hb).imp id (fun h3=>by have:=dm.size;omega))
   refine Uo (.inr rfl) (fun w' hm=>⟨_,rfl,?_⟩);have e:M.tell=M.enter M.last:=by
    unfold Mc.tell;rw [hA,if_neg (by omega)];unfold Mc.nv;rw [if_neg (by unfold Mc.ref;split<;>simp_all)]
   rw [e];exact ⟨_,aU.boxed ag (aU.boxed N3 (hop.after hm))⟩
 ·rintro ρ w5 ⟨r1,r2,r4,akf,hop⟩;obtain ⟨Mt,N5⟩:∃ Mt:Mc,Mt = { M with told:=M.told++[M.item A]}:=⟨_,rfl⟩;rw [← N5] at hop;have vu:Mt.wait=M.wait:=by rw [N5]
  have qB:M.tell = { Mt with wait:=M.wait.take j++A.args.reverse,ended:=if (M.wait.take j++A.args.reverse).length=0 then 2 else Mt.ended}:=by
   unfold Mc.tell;rw [hA,if_pos akf,N5,show M.wait.length - 1=j by omega]
  obtain ⟨nE,j1,rL,j2⟩:=hop;have jZ:w5.heap[w.heap.size]? = _:=j2.at (b:=w.heap.size) a7 (fun hh=>hh.1 Ha);have yD:w5.heap[b4]? = _:=j2.at (b:=b4) aJ (fun hh=>hh.1 (wy _ Xk));have t5:∀ b,b < w2.heap.size→nE b=bO (bO τ w .no) w1 .no b:=fun b hb=>j1 b hb
  have Xo:nE w.heap.size = .no:=by rw [t5 _ xf];exact Ha
  have akg:nE b4 = .no:=by rw [t5 _ Xl];exact wy _ Xk
  have DD:=rL.mod (Mod.refl (fun _=>False) w5).drew (dP _ _).wx (fun _ _ h=>h.elim);obtain ⟨N6,N7,vW5,N8,fg5,ff5,uP,ft5,F5,oI⟩:=DD;have gU:w5.heap[m]? = _:=oI.cells;have A4:=oI.wt;rw [vu] at A4;obtain ⟨Xp,N9,rfl,aot,_⟩:=A4.val;have e2:(0:Int)≤j∧(j:Int)≤N9:=by omega
  simp only [go_sem,simprocAttr,ak,bh,r1,r2,r4,cell_of jZ,ptr,Value.cells,cell_of gU,bg,e2,CA];refine bL (off:=11) rfl rfl gU rfl (by simp [bg]) ?_;intro w6 cO aH mV;have lm5:=lt_of_heap gU;have mW5:uP≠some m:=fun e=>by have:=oI.tw _ e;rw [oI.tm] at this;cases this
  have h6:=oI.waits (M':={ Mt with wait:=M.wait.take j}) (l:=M.wait.take j) (v:=.slice Xp j N9) (dP nE w5.drew).wx (aH.aB (fun b hb=>.inr hb)) (by simpa [bg] using cO) (by
   have:=(Ft A4 (k:=j) (by omega)).mod aH (fun b hb hh=>by subst hh;exact mW5 hb);have el:(M.wait.take j).length=j:=by rw [List.length_take];omega
   rw [el,List.map_take]
   simpa using this) oI.tw rfl rfl rfl rfl rfl rfl rfl
  have sx:=aH.at (b:=w.heap.size) jZ (fun e=>by have:=oI.tm;rw [← e,Xo] at this;cases this);have pA:=aH.at (b:=b4) yD (fun e=>by have:=oI.tm;rw [← e,akg] at this;cases this);obtain ⟨FM,ww,yp⟩:=LD;have FN:=ww.mod (Mod.refl (fun _=>False) w2).drew (fun _ _ h=>h);have akh:=FN.mod j2 (fun b hb hh=>hh.1 (wy _ (yp b hb)));have Xq:∀ b,FM=some b→nE b = .no:=fun b hb=>by rw [t5 _ (ww.lt hb)];exact wy _ (yp b hb)
  have A5:=akh.mod aH.dj (fun b hb e=>by have:=oI.tm;rw [← e,Xq b hb] at this;cases this);obtain ⟨va,vc,rfl,_⟩:=A5.val;simp only [go_sem,simprocAttr,cell_of pA];refine δ (by rfl) (Up w6 _) ?_;rintro _ w7 ⟨rfl,⟨T7,fz7,cj⟩,aZ⟩;have h7:=h6.mod aZ (eB nE w6 .no).wx (fun _ _ h=>h.elim);have DA:=h7.cells;have aki:=A5.mod aZ (fun _ _ h=>h);obtain ⟨bA,CV,CW,CX⟩:=Ur aki (lt_of_heap cj);have W0:=aZ.size;have t7:∀ b,b < w6.heap.size→bO nE w6 .no b=nE b:=fun b hb=>eB nE w6 .no b hb
  have yq:∀ b,(bO nE w6 .no) b = .no→b≠m∧uP≠some b:=fun b hb=>⟨(fun e=>by subst e;rw [h7.tm] at hb;cases hb),(fun e=>by rw [h7.tw b e] at hb;cases hb)⟩
  have nB:=yq w6.heap.size (oh (Nat.le_refl _));have nA:bA≠m∧uP≠some bA:=by
   rcases CW with e | e
   ·rw [e];exact nB
   ·exact yq bA (by rw [t7 _ (A5.lt e)];exact Xq _ e)
  have n1:w.heap.size≠m∧uP≠some w.heap.size:=yq _ (by rw [t7 _ (lt_of_heap sx)];exact Xo);have qb:=aZ.at sx (fun h=>h);have lm7:=lt_of_heap DA;have lB7:=lt_of_heap cj;have N':=lt_of_heap qb;refine ⟨2,A.args.length,153,#[ptr w6.heap.size],(fun j=>I (A.args.getD j 0)),rE w6.heap.size bA,(fun pre W=>G' w7 m S { Mt with wait:=M.wait.take j} N6 N7 N8 uP (pre.map (fun j=>A.args.getD j 0)) W),⟨rfl,(fun _ _=>rfl),?_,⟨rfl,rfl⟩,by omega,?_,?_,⟨⟨⟨.slice Xp j N9,uP,?_,?_,fun b hb=>.inl hb⟩,Mod.refl _ _⟩,fun s=>G'.quiet,?_⟩⟩,?_⟩
  ·refine Un Fence.wide 1 trivial rfl (by omega) w6.heap.size bA A.args.length (.slice va A.args.length vc) (fun j=>I (A.args.getD j 0)) w7 (by simpa [Value.cells] using cell_of cj (o:=0)) (lt_of_heap cj) CX (by omega)
  ·intro A B C a b;exact ⟨b.1.trans a.1,b.2.trans a.2⟩
  ·intro W l o o' hl ho CY _;have j8:l≠w6.heap.size:=fun e=>by omega
   have gv:l≠bA:=fun e=>by omega
   exact ⟨World.putObj_heap_other (fun e=>j8 e.symm),World.putObj_heap_other (fun e=>gv e.symm)⟩
  ·exact DA
  ·simpa using h7.wt
  ·rintro pre jj W ⟨⟨v,fs',p1,p2,p3⟩,p4⟩ bQ iX;have Xr:W.heap[m]? = _:=p1;have p4d:=p4.drew;have Av:∀ b,b < w7.heap.size→uP≠some b→fs'≠some b:=fun b hb hn e=>by
    rcases p3 b e with h1 | h1
    ·exact hn h1
    ·omega
   have Hb:W.heap[w.heap.size]? = _:=p4.at qb (fun h=>by rcases h with h | h;exact n1.2 h;exact n1.1 h);obtain ⟨av,Oa,rfl,_⟩:=p2.val;have sW:=p4.size;unfold TA;simp only [go_sem,simprocAttr,cell_of Hb,ptr,Value.cells,cell_of Xr,bg];refine dL (by rfl) (by rfl) ?_;intro W1 Ob kF _;have q1:=kF.old m (Nat.lt_of_lt_of_le lm7 sW) (fun h=>h);have q2:=kF.old w.heap.size (Nat.lt_of_lt_of_le N' sW) (fun h=>h);refine σ ?_;refine ⟨by simp only [gZ,q1,q2,and_self,implies_true],?_⟩;refine gN (m:=1) (news:=[I (A.args.getD jj 0)]) rfl ((p2.mod (Mod.refl (fun _=>False) W).drew (fun _ _ h=>h)).mod kF (fun _ _ h=>h)) rfl (fun h=>by cases h) (jR (xs:=[I (A.args.getD jj 0)]) Ob) (oQ [A.args.getD jj 0]) rfl (by simp only [List.length_append,List.length_map,List.length_take];omega) (by simp only [List.length_append,List.length_map,List.length_take];omega) ?_;intro v2 W2 Am Xs fN FA;obtain ⟨a2,c2,rfl,_⟩:=Xs.val;have Hc:fs'≠some m:=fun e=>hP p2 e p1 (by decide)
   have q4:=fN.old w.heap.size (by have:=kF.size;exact Nat.lt_of_lt_of_le (Nat.lt_of_lt_of_le N' sW) this) (Av _ N' n1.2);have hC2:=fN.at (kF.at Xr (fun h=>h)) Hc;refine σ ?_;refine ⟨by simp only [gZ,q4,and_self,implies_true],?_⟩;refine bL (off:=11) rfl rfl hC2 rfl (by simp [bg]) ?_;intro W3 hB3 lJ _;refine σ ?_;have hX:Mod (fun b=>fs'=some b∨b=m) W W3:=(((kF.dj).aB (fun _ h=>h.elim)).step fN (fun b hb _=>.inl hb)).step lJ (fun b hb _=>.inr hb);refine ⟨FG hX (fun b hb o ho=>?_),FH hX (by omega) (by omega) (fun hh=>?_) (fun hh=>?_),⟨.slice a2 _ c2,Am,by simpa [bg] using hB3,?_,fun b hb=>?_⟩,p4.step hX (fun b hb hl=>?_)⟩
   ·rcases hb with hb | rfl
    ·exact FJ p2 hb ho
    ·rw [p1] at ho;cases ho;rfl
   ·rcases hh with hh | hh
    ·exact Av _ (lt_of_heap cj) nB.2 hh
    ·exact nB.1 hh
   ·rcases hh with hh | hh
    ·exact Av _ CV nA.2 hh
    ·exact nA.1 hh
   ·have:=Xs.mod lJ (fun b hb e=>by
     subst e;rcases FA b hb with h3 | h3
     ·exact Hc h3
     ·have:=kF.size;have e2:W.drew.heap.size=W.heap.size:=rfl;omega)
    simpa [Nat.add_assoc] using this
   ·rcases FA b hb with h1 | h1
    ·exact p3 b h1
    ·have:=kF.size;have e2:W.drew.heap.size=W.heap.size:=rfl
     right;omega
   ·rcases hb with hb | hb
    ·rcases p3 b hb with h1 | h1
     ·exact .inl h1
     ·omega
    ·exact .inr hb
  ·intro D W hD hI jy;obtain ⟨⟨v,fs',p1,p2,p3⟩,p4⟩:=hI;rw [Uq] at p2;have p2:ax W 3 1 v ((M.wait.take j++A.args.reverse).map I) (M.wait.take j++A.args.reverse).length fs':=p2;generalize zw:M.wait.take j++A.args.reverse=ll at p2 qB;have Hb:=p4.at qb (fun h=>by rcases h with h | h;exact n1.2 h;exact n1.1 h);obtain ⟨av,Oa,rfl,_⟩:=p2.val;have Xt:D≠m:=fun e=>by subst e;rw [p1] at jy;cases jy
   have sW:=p4.size;have Hc:fs'≠some m:=fun e=>hP p2 e p1 (by decide)
   have fsD:fs'≠some D:=fun e=>by have:=FJ p2 e jy;cases this
   have fin:∀ (W1 w':World),W1.heap[m]? = some (.cells (bg S M.tell N6 N7 (.slice av ll.length Oa) N8).toArray 113 (0,0))→Mod (· = m) W W1→Mod (· = D) W1 w'→aU w τ m S M.tell ks w':=by
    intro W1 w' dk Bf Oc;have xM:Mod (fun b=>uP=some b∨b=m) w7 w':=(p4.step Bf (fun b hb _=>.inr hb)).step Oc (fun b hb hl=>by omega);have ho:ax w' 3 1 (.slice av ll.length Oa) (ll.map I) ll.length fs':=(p2.mod Bf (fun b hb e=>by subst e;exact Hc hb)).mod Oc (fun b hb e=>by subst e;exact fsD hb);have hX:=h7.waits (M':=M.tell) (l:=ll) (eB _ w7 .wt).wx xM (Oc.at dk (fun e=>Xt e.symm)) ho (Cz h7.tw (fun b hb=>h7.wt.lt hb) p3) (by rw [qB]) (by rw [qB]) (by rw [qB]) (by rw [qB]) (by rw [qB]) (by rw [qB]) (by rw [qB])
    have Mg:aU w7 (bO nE w6 .no) m S M.tell ks w':=⟨_,eB _ w7 .wt,⟨_,_,_,_,_,_,_,_,_,hX⟩,xM.aB (fun b hb=>by
     rcases hb with hb | rfl
     ·rw [h7.tw b hb];simp [Tg.own]
     ·rw [h7.tm];simp [Tg.own])⟩
    refine aU.boxed ag (aU.boxed N3 (aU.cat j1 (j2.step aH.dj (fun b hb hl=>?_)) (aU.boxed aZ Mg)));subst hb;rw [cE.tm];simp [Tg.own]
   have NK:((ll.length:Int) == 0)=decide (ll.length=0):=by
    by_cases h0:ll.length=0
    ·simp [h0]
    ·simp [h0]
   refine σ ?_;simp only [go_sem,simprocAttr,cell_of Hb,ptr,Value.cells,cell_of p1,bg,NK];refine aX rfl (fun hz=>?_) (fun hz=>?_)
   ·simp only [aK,aL,aM,ak,aN] at hz;rw [if_pos hz] at qB;simp only [go_sem,simprocAttr,cell_of Hb,ptr,Value.cells];refine bL (off:=15) rfl rfl p1 rfl (by simp [bg]) ?_;intro W1 Ob kF _;refine σ ?_;exact LP (.inl rfl) (kF.at jy (fun e=>Xt e)) (fun w' hm=>⟨_,rfl,_,fin W1 w' (by rw [qB];simpa [bg] using Ob) kF hm⟩)
   ·simp only [aK,aL,aM,ak,aN] at hz;rw [if_neg hz] at qB;refine σ ?_;exact LP (.inl rfl) jy (fun w' hm=>⟨_,rfl,_,fin W w' (by rw [qB];exact p1) (Mod.refl _ _) hm⟩)
end
end
section
open Go Go.W
theorem Hd {w:World} {τ:Tag} {m:Nat} {S:SV} {M:Mc} {ks:List Nat} {vG vF vW vT:Value} {fg ff fw ft:Option Nat} {F:Nat→Prop} (h:dZ w τ m S M vG vF vW vT fg ff fw ft F ks) (ho:M.st.Ok) {nd:Nd} {v:Value} (hm:nd.may=true) (hp:bK M.st.ns.length nd.args=true) (hv:Ints w v nd.args) (hr:(M.st.ns.length:Int) < M.st.size) :
   aD Tryz.prog 116 [ptr m,I nd.kind,I nd.num,v] w fun r w'=>r=I M.st.ns.length∧∃ F',dZ w' (mC τ w F') m S { M with st:=M.st.add nd} vG vF vW vT fg ff fw ft F' ks∧Mod F w w':=by
 have hc:=h.cells;obtain ⟨a,c,rfl,Lx,Ly⟩:=hv;refine TH.calls rfl ?_;unfold Fj ptr;simp only [go_sem,simprocAttr,cell_of hc,bg];refine Lv (nd:=nd) (v:=.slice a nd.args.length c) rfl rfl h.st ho hm hp ⟨a,c,rfl,Lx,Ly⟩ ?_ (fun e=>by omega);intro _ w1 F1 cL oq;refine σ ?_;exact ⟨F1,h.store (s:=M.st.add nd) oq cL rfl,oq.1⟩
theorem dZ.yS {w:World} {τ:Tag} {m:Nat} {S:SV} {M:Mc} {ks:List Nat} {vG vF vW vT:Value} {fg ff fw ft:Option Nat} {F:Nat→Prop} (h:dZ w τ m S M vG vF vW vT fg ff fw ft F ks):∀ b,F b→(τ b).own:=fun b hb=>by rw [h.tF b hb];simp [Tg.own]
theorem aU.dj {w w':World} {τ:Tag} {m:Nat} {S:SV} {M':Mc} {ks:List Nat} (h:aU w.drew τ m S M' ks w'):aU w τ m S M' ks w':=by
 obtain ⟨bJ,h1,h2,h3⟩:=h;exact ⟨bJ,h1,h2,Mod.dj h3⟩
theorem akj {t:Tg} {i:Nat} (h:t.eT i):t.own:=by rcases h with h | h | h<;>rw [h]<;>simp [Tg.own]
section
variable {w:World} {τ:Tag} {m:Nat} {S:SV} {M:Mc} {ks:List Nat} {k:Nat} {x:Ins} {n:Int}
theorem akk (hT:dH w τ m S M ks k) (hM:bH n M) (he:M.ended=0) (ie:M.st.kd≠.ref) (gq:M.aA.length≤4294967295) (o0:M.wait.length≤4294967295) (hR:M.roots.length≤17592186044416) :
   aD Tryz.prog 138 [ptr m,ptr k] w fun _ w'=>∃ dv,aU w τ m S M.nw dv w':=by
 obtain ⟨vG,vF,vW,vT,fg,ff,fw,ft,F,hh⟩:=id hT.at';have hc:=hh.cells;have hl:=hh.len;have hp:=hT.pos;obtain ⟨aF,cF,rfl,_⟩:=hh.fr.val;obtain ⟨aT,cT,rfl,_⟩:=hh.tl.val;have Db:M.roots≠[]:=fun e=>by
  have:=F9 (M:=M) hp;rw [e] at this;cases this
 refine ae8.calls rfl ?_;unfold Lm;simp only [go_sem,simprocAttr,cell_of hc,bg,ptr];refine aX rfl (fun hf=>?_) (fun hf=>?_)
 ·have hf:M.aA.length > 1:=by
   simp only [aK,aL,aM,ak,aN] at hf;omega
  refine σ ?_;refine δ (by rfl) (TV hT.at' hp (by omega)) ?_;intro _ w1 hop;refine σ ?_;unfold Mc.nw;rw [if_pos hf];exact ⟨_,hop⟩
 have hf:¬ M.aA.length > 1:=by
  simp only [aK,aL,aM,ak,aN] at hf;omega
 unfold Mc.nw;rw [if_neg hf];simp only [go_sem,simprocAttr,cell_of hc,bg];refine gz (fun ρ w'=>w=w'∧ρ.get 0=some (ptr m)∧ρ.get 1=some (ptr k)∧ρ.get 15=some (.bool (decide (M.given=true∨M.told.length > 0)))) ?_ ?_
 ·cases hg:M.given<;>cases ht:decide (((M.told.length:Nat):Int) > 0)<;>simp only [go_sem,simprocAttr,cell_of hc,bg,hg,ht]<;>(simp only [aK,aL,aM,ak,aN] at ht;simp [hg,ht];try first | omega | exact List.eq_nil_of_length_eq_zero (by omega))
 rintro ρ _ ⟨rfl,r0,r1,qp⟩;simp only [go_sem,simprocAttr,r0,r1,qp];refine aX rfl (fun hg=>?_) (fun hg=>?_)
 ·simp only [aK,aL,aM,ak,aN] at hg;rw [if_pos hg];refine σ ?_;refine δ (by rfl) (rA hT.at' 5) ?_;intro _ w1 hop;refine σ ?_;exact ⟨_,hop⟩
 simp only [aK,aL,aM,ak,aN] at hg;rw [if_neg hg];refine σ ?_;refine δ (by rfl) (LF hT.at' hM.g.st ie (n:=2) ⟨by omega,by omega⟩ hM.base hM.bB hR Db) ?_;rintro _ w1 ⟨rfl,hop⟩;refine σ ?_;refine aX rfl (fun hr=>?_) (fun hr=>?_)
 ·rw [if_pos hr];obtain ⟨k1,k2⟩:=hM.room (by omega) hr;obtain ⟨e1,e2,e3,e5,e6,_,g,e4⟩:=yy M 2 hr;have kh:0 < (M.room 2).2.wait.length:=by rw [e2];exact hM.px he
  generalize (M.room 2).2=M1 at *;obtain ⟨rP,j1,j2,sD⟩:=hop.aa e1 hp hT.hk;obtain ⟨Od,Oe,He,Of,Xu,Xv,Xw,Xx,F1,h1⟩:=id sD.at';have dk:=h1.cells;refine σ ?_;refine bL (off:=12) rfl rfl dk rfl (by simp [bg]) ?_;intro w2 an ae _;obtain ⟨M2,fN⟩:∃ M2:Mc,M2 = { M1 with given:=true}:=⟨_,rfl⟩;have u1:M2.wait=M1.wait:=by rw [fN]
  have u2:M2.st=M1.st:=by rw [fN]
  have u3:M2.aA=M1.aA:=by rw [fN]
  have u4:M2.last=M1.last:=by rw [fN];rfl
  have h2:=h1.An (M':=M2) ae (by rw [fN];simpa [bg] using an) (by rw [fN]) u3 u1 (by rw [fN]) u2 (by rw [fN]) (by rw [fN]);have cy:=h2.cells;obtain ⟨j,hj⟩:∃ j:Nat,j+1=M2.wait.length:=⟨M2.wait.length - 1,by rw [u1];omega⟩;have aou:M2.wait.length≤4294967295:=by rw [u1];omega
  obtain ⟨aW,cW,xg,_⟩:=h2.wt.val;have q1:IntKind.i64.wrap ((M2.wait.length:Int) - 1)=j:=by rw [bU (by omega) (by omega)];omega
  have eE:(M2.st.ns.length:Int)+2≤M2.st.size:=by rw [u2];exact k2
  have rh:M2.st.Ok:=by rw [u2];exact k1.g.st
  simp only [go_sem,simprocAttr,cell_of cy,bg,xg,q1];refine δ (by rfl) (Hd (nd:=⟨8,0,[]⟩) h2 rh rfl rfl (um _) (by omega)) ?_;rintro _ w3 ⟨rfl,F3,h3,ab⟩;have eh:=h3.cells;obtain ⟨bW,hbW,AX,Og⟩:=kA (xg ▸ h3.wt) (i:=j) (by show j < M2.wait.length;omega);have Og:w3.cell? ⟨bW,j,none⟩=some (I M2.last):=by
   rw [Og];show (M2.wait.map I)[j]? = _;unfold Mc.last;rw [List.getElem?_map,List.getElem?_eq_getElem (by omega),List.getD_eq_getElem?_getD,show M2.wait.length - 1=j by omega,List.getElem?_eq_getElem (by omega)];rfl
  subst hbW;have b1:(0:Int)≤j∧(j:Int) < M2.wait.length:=by omega
  have Xy:w3.heap[m]? = some (.cells (bg S { M2 with st:=M2.st.add ⟨8,0,[]⟩} Od Oe He Of).toArray 113 (0,0)):=eh;simp only [go_sem,simprocAttr,ak,bh,cell_of Xy,bg,xg,b1,c8,Og];obtain ⟨M3,lJ⟩:∃ M3:Mc,M3 = { M2 with st:=M2.st.add ⟨8,0,[]⟩}:=⟨_,rfl⟩;rw [← lJ] at h3;have s3:M3.st=M2.st.add ⟨8,0,[]⟩:=by rw [lJ]
  have s3l:M3.st.ns.length=M2.st.ns.length+1:=by rw [s3,mH]
  have s3z:M3.st.size=M2.st.size:=by rw [s3];rfl
  have s3w:M3.wait=M2.wait:=by rw [lJ]
  have g3:dC M1.a8 M3.st:=by rw [s3,u2];exact k1.g.yx (nd:=⟨8,0,[]⟩) rfl (by decide) (fun a ha=>by cases ha) (by omega)
  have Xz:M2.st.In M2.last:=by rw [u2,u4];exact k1.mG _ (F0 kh)
  have h3d:=h3.mod (Mod.refl (fun _=>False) w3).drew (dP _ _).wx (fun _ _ h=>h.elim);refine dL (by rfl) (by rfl) ?_;intro w4 aJ aj _;have l3:m < w3.drew.heap.size:=lt_of_heap Xy;have km4:=aj.old m l3 (fun h=>h);refine σ ?_;refine ⟨km4,?_⟩;have h4:=h3d.mod aj (eB _ w3.drew .no).wx (fun _ _ h=>h.elim);refine δ (by rfl) (Hd (nd:=⟨3,0,[M2.last,M2.st.ns.length]⟩) h4 g3.st rfl (nG (fun a ha=>?_)) (CJ (xs:=[M2.last,(M2.st.ns.length:Int)]) aJ (by simp)) (by omega)) ?_
  ·simp only [List.mem_cons,List.not_mem_nil,or_false] at ha;rcases ha with rfl | rfl
   ·have:=Xz.2;exact ⟨Xz.1,by omega⟩
   ·omega
  rintro _ w5 ⟨rfl,F5,h5,ay⟩;have km5:=ay.old m (by have:=aj.size;omega) (fun e=>by have:=h4.tF m e;rw [h4.tm] at this;cases this);refine σ ?_;refine ⟨km5,?_⟩;obtain ⟨M4,qv⟩:∃ M4:Mc,M4 = { M3 with st:=M3.st.add ⟨3,0,[M2.last,M2.st.ns.length]⟩}:=⟨_,rfl⟩;rw [← qv] at h5;have s4w:M4.wait=M2.wait:=by rw [qv];exact s3w
  have A4:=h5.wt;rw [s4w,xg] at A4;obtain ⟨b',c',cs,e',Oh,fH,iT,_,mn⟩:=E7 A4 (i:=j) (by omega);cases e';refine bL (off:=j) rfl rfl fH rfl iT ?_;intro w6 cO aH _;have hW6:=mn w6 _ cO;have hwm:bW≠m:=fun e=>by have:=h5.tw _ Oh;rw [e,h5.tm] at this;cases this
  have h6:=h5.waits (M':={ M4 with wait:=M2.wait.set j (M3.st.ns.length:Int)}) (l:=M2.wait.set j (M3.st.ns.length:Int)) (v:=He) (dP _ w5).wx (aH.aB (fun b hb=>by subst hb;exact .inl Oh)) (by rw [xg] at h5 ⊢;exact aH.at h5.cells (fun e=>hwm e.symm))
   (by rw [xg,List.length_set];exact hW6) h5.tw rfl rfl rfl rfl rfl rfl rfl
  obtain ⟨M6,wP⟩:∃ M6:Mc,M6 = { M4 with wait:=M2.wait.set j (M3.st.ns.length:Int)}:=⟨_,rfl⟩;rw [← wP] at h6;have mE:=h6.cells;have E8:M6.wait=M2.wait.set j (M3.st.ns.length:Int):=by rw [wP]
  have jJ:M6.aA=M1.aA:=by rw [wP,qv,lJ,fN]
  have NF:M6.aa=M1.aa:=by unfold Mc.aa;rw [jJ]
  have XA:=h6.wt;rw [xg,E8,List.length_set] at XA;obtain ⟨bW6,e6,_,Oi⟩:=kA XA (i:=j) (by omega);cases e6;have Oi:w6.cell? ⟨bW,j,none⟩=some (I M3.st.ns.length):=by
   rw [Oi,List.getElem?_map,List.getElem?_set_self (by omega)];rfl
  obtain ⟨vs6,vp6,fs6,vL,yE⟩:nC w6 _ (M1.aA.length - 1) k M1.aa:=h6.jw _ _ _ sD.hk (by rw [jJ];exact CH sD.pos);have Dc:=yE.cells;simp only [go_sem,simprocAttr,ak,bh,cell_of mE,bg,xg,b1,c8,Oi,cell_of Dc,cz];refine bL (off:=5) rfl rfl Dc rfl (by simp [cz]) ?_;intro w7 cj aZ _;refine σ ?_;refine bL (off:=4) rfl rfl cj rfl (by simp [cz]) ?_;intro w8 en bY _;refine σ ?_;obtain ⟨τ8,r1,r2,r3⟩:=TS (f':={ M1.aa with bI:=(M3.st.ns.length:Int),spine:=[]}) yE (ax.nil w6 3 1) rfl (by simpa [cz] using en) (Mod.refl _ w6) (aZ.trans bY) (fun b hb=>by cases hb);have uN:=h6.frame sD.hk r3 r1.wx r2;have gv:M1.Al = { M6 with aA:=M6.aA.set (M1.aA.length - 1) { M1.aa with bI:=(M3.st.ns.length:Int),spine:=[]}}:=by
   unfold Mc.Al;rw [wP,qv,s3,u4,u2,show M1.wait.length - 1=j by rw [← u1];omega,lJ,fN];simp [Mc.bZ,mH]
  rw [gv];have k6:aU w6 _ m S _ ks w8:=⟨τ8,r1,⟨_,_,_,_,_,_,_,_,_,uN⟩,r3.aB (fun b hb=>akj hb)⟩;have k5:=aU.cat (dP _ w5) (aH.aB (fun b hb=>by subst hb;rw [h5.tw _ Oh];simp [Tg.own])) k6;have k4:=aU.cat (nD _ w4 F5) (ay.aB h4.yS) k5;have k3:=(aU.boxed aj k4).dj;have k2':=aU.cat (nD _ w2 F3) (ab.aB h2.yS) k3;have k1':=aU.cat (dP _ w1) (ae.aB (fun b hb=>by subst hb;rw [h1.tm];simp [Tg.own])) k2';exact ⟨_,aU.cat j1 j2 k1'⟩
 ·rw [if_neg (by simpa using hr)];refine σ ?_;exact ⟨_,hop⟩
end
end
section
open Go Go.W
section
variable {w:World} {τ:Tag} {m:Nat} {S:SV} {M:Mc} {ks:List Nat} {k:Nat} {x:Ins} {n:Int}
theorem akl (hT:dH w τ m S M ks k) (hM:bH n M) (ie:M.st.kd≠.ref) (h8:(M.st.nd M.aa.bI).kind=8) (hR:M.roots.length≤17592186044416) :
   aD Tryz.prog 140 [ptr m,ptr k,I (M.st.nd M.aa.bI).num] w fun _ w'=>aU w τ m S (M.read M.aa (M.st.nd M.aa.bI).num) ks w':=by
 have hp:=hT.pos;have hG:=hM.py hp;have b9:=hM.g.nd hG.sd;have iu:=((sN b9.1).2.2.2.2.1 h8).2;obtain ⟨vG,vF,vW,vT,fg,ff,fw,ft,F,hh⟩:=id hT.at';obtain ⟨vs,vp,fs,fp,hF⟩:=hT.fr;have hc:=hh.cells;have sO:=hF.cells;have akm:=hh.jd;obtain ⟨aI,cI,NI,G3,_⟩:=id akm;have Db:M.roots≠[]:=fun e=>by
  have:=F9 (M:=M) hp;rw [e] at this;cases this
 obtain ⟨q,hq⟩:∃ q:Nat,(M.st.nd M.aa.bI).num=q:=⟨(M.st.nd M.aa.bI).num.toNat,by omega⟩;rw [hq];refine ae'.calls rfl ?_;unfold Lo;simp only [go_sem,simprocAttr,cell_of hc,bg,NI,ptr];refine aX rfl (fun hk=>?_) (fun hk=>?_)
 ·simp only [aK,aL,aM,ak,aN] at hk;have hk:(q:Int)≥M.input.length:=hk;unfold Mc.read;rw [if_pos hk];simp only [go_sem,simprocAttr,cell_of sO,cz];refine δ (by rfl) (ot hT.at' hM.g.st hM.g.ends hG.sd) ?_;rintro _ w1 ⟨v1,rfl,mA,ag⟩;refine σ ?_;refine de ?_;intro w2 an ae _;refine cu (cs:=[I 0,I 0,.slice none 0 0]) rfl rfl an rfl rfl (ow mA _ _) ?_;intro w3 aE ab _;have s1:=ag.size;have du:Mod (fun _=>False) w w3:=(ag.trans ae).step ab (fun x U hl=>by subst U;omega);have h3:=hh.mod du (eB τ w .no).wx (fun _ _ h=>h.elim);have eh:=h3.cells;obtain ⟨ti,ui,sI⟩:=h3.st.iface;simp only [go_sem,simprocAttr,cell_of eh,bg];refine Fm (p:=(M.st.ov M.aa.bI:Int)) (nd:=⟨2,3,[]⟩) (by rfl) (by rfl) h3.st hM.g.st ⟨by omega,by have:=hM.g.ov hG.sd;omega⟩ rfl rfl (um _) ?_;intro w4 F4 XB DI;refine σ ?_;rw [Int.toNat_natCast] at XB;have h4:=h3.store (s:=M.st.set (M.st.ov M.aa.bI) ⟨2,3,[]⟩) DI XB rfl;exact aU.boxed du ⟨_,nD _ w3 F4,⟨_,_,_,_,_,_,_,_,_,h4⟩,DI.1.aB h3.yS⟩
 simp only [aK,aL,aM,ak,aN] at hk;have hk:¬ (q:Int)≥M.input.length:=hk;unfold Mc.read;rw [if_neg hk];refine σ ?_;refine δ (by rfl) (LF hT.at' hM.g.st ie (n:=2) ⟨by omega,by omega⟩ hM.base hM.bB hR Db) ?_;rintro _ w1 ⟨rfl,hop⟩;refine σ ?_;refine aX rfl (fun hr=>?_) (fun hr=>?_)
 ·rw [if_pos hr];obtain ⟨k1,k2⟩:=hM.room (by omega) hr;obtain ⟨e1,e2,e3,e5,e6,_,g,e4⟩:=yy M 2 hr;have h8':((M.room 2).2.st.nd (M.room 2).2.aa.bI).kind=8:=by rw [hM.U0 hp (by omega) hr];exact h8
  generalize (M.room 2).2=M1 at *;obtain ⟨rP,j1,j2,sD⟩:=hop.aa e1 hp hT.hk;obtain ⟨vs1,vp1,fs1,fp1,sZ⟩:=sD.fr;have akn:=sZ.cells;have XC:=k1.py sD.pos;have Oj:q < M1.input.length:=by rw [e6];omega
  have ako:isNum (M1.input.getD q 0):=k1.jd _ (uz Oj);have o1:(⟨1,M1.input.getD q 0,[]⟩:Nd).may=true:=FT ako;have o2:(⟨8,(q:Int)+1,[]⟩:Nd).may=true:=by simp [Nd.may,gP];omega
  have g1:=k1.g.yx (nd:=⟨1,M1.input.getD q 0,[]⟩) o1 (by simp) (fun a ha=>by cases ha) (by omega);have g2:=g1.yx (nd:=⟨8,(q:Int)+1,[]⟩) o2 (by simp) (fun a ha=>by cases ha) (by rw [mH];show ((M1.st.ns.length+1:Nat):Int) < M1.st.size;omega);simp only [go_sem,simprocAttr,cell_of akn,cz];refine δ (by rfl) (ot sD.at' k1.g.st k1.g.ends XC.sd) ?_;rintro _ w2 ⟨v1,rfl,mA,ae⟩;refine σ ?_;refine de ?_;intro w3 aE ab _;refine cu (cs:=[I 0,I 0,.slice none 0 0]) rfl rfl aE rfl rfl (ow mA _ _) ?_;intro w4 aJ aj _;have s1:=ae.size;have iJ:Mod (fun _=>False) w1 w4:=(ae.trans ab).step aj (fun x U hl=>by subst U;omega);have hT4:=sD.later iJ;obtain ⟨vG4,vF4,vW4,vT4,fg4,ff4,fw4,Xm,F4,h4⟩:=id hT4.at';have ph:=h4.cells;obtain ⟨W4,W5,e',aov,Hf⟩:=id h4.jd;obtain ⟨ad,rfl,Hf⟩:=Hf q Oj;have Hf:w4.cell? (ad.add q)=some (I (M1.input.getD q 0)):=by rw [show M1.input.getD q 0=M1.input[q] by rw [List.getD_eq_getElem?_getD,List.getElem?_eq_getElem Oj];rfl];assumption
  have b1:(0:Int)≤q∧(q:Int) < M1.input.length:=by omega
  simp only [go_sem,simprocAttr,ak,bh,cell_of ph,bg,e',b1,Hf];refine δ (by rfl) (Hd (nd:=⟨1,M1.input.getD q 0,[]⟩) h4 k1.g.st o1 rfl (um _) (by omega)) ?_;rintro _ w5 ⟨rfl,F5,h5,ay⟩;have eq1:IntKind.i64.wrap ((q:Int)+1)=(q:Int)+1:=bU (by omega) (by omega);simp only [go_sem,simprocAttr,eq1];refine δ (by rfl) (Hd (nd:=⟨8,(q:Int)+1,[]⟩) h5 g1.st o2 rfl (um _) (by show ((M1.st.add _).ns.length:Int) < M1.st.size;rw [mH];omega)) ?_;rintro _ w6 ⟨rfl,F6,h6,aH⟩;have mE:=h6.cells;simp only [go_sem,simprocAttr,cell_of mE,bg];refine dL (by rfl) (by rfl) ?_;intro w7 cj aZ _;have h7:=h6.mod aZ (eB _ w6 .no).wx (fun _ _ h=>h.elim);have el:(((M1.st.add ⟨1,M1.input.getD q 0,[]⟩).ns.length:Nat):Int)=(M1.st.ns.length:Int)+1:=by rw [mH];rfl
  rw [el] at cj ⊢;refine ⟨_,rfl,?_⟩;have jW:=k1.g.ov XC.sd;refine Fm (p:=(M1.st.ov M1.aa.bI:Int)) (nd:=⟨2,4,[(M1.st.ns.length:Int),(M1.st.ns.length:Int)+1]⟩) (v:=.slice (some ⟨w6.heap.size,0,none⟩) 2 2) (by rfl) (by rfl) h7.st g2.st ⟨by omega,?_⟩ rfl (nG (fun a ha=>?_)) (CJ (xs:=[(M1.st.ns.length:Int),(M1.st.ns.length:Int)+1]) cj (by simp)) ?_
  ·show (M1.st.ov M1.aa.bI:Int) < (((M1.st.add ⟨1,M1.input.getD q 0,[]⟩).add ⟨8,(q:Int)+1,[]⟩).ns.length:Int);rw [mH,mH];omega
  ·show 0≤a∧a < (((M1.st.add ⟨1,M1.input.getD q 0,[]⟩).add ⟨8,(q:Int)+1,[]⟩).ns.length:Int);rw [mH,mH];simp only [List.mem_cons,List.not_mem_nil,or_false] at ha;rcases ha with rfl | rfl<;>omega
  intro w8 F8 LX XD;refine σ ?_;rw [Int.toNat_natCast] at LX;have h8f:=h7.store (s:=M1.st.add ⟨1,M1.input.getD q 0,[]⟩ |>.add ⟨8,(q:Int)+1,[]⟩ |>.set (M1.st.ov M1.aa.bI) ⟨2,4,[(M1.st.ns.length:Int),(M1.st.ns.length:Int)+1]⟩) XD LX rfl;have e2:M1.Cy (q:Int) = { M1 with st:=M1.st.add ⟨1,M1.input.getD q 0,[]⟩ |>.add ⟨8,(q:Int)+1,[]⟩ |>.set (M1.st.ov M1.aa.bI) ⟨2,4,[(M1.st.ns.length:Int),(M1.st.ns.length:Int)+1]⟩}:=rfl;rw [e2];have t7:aU w7 _ m S _ ks w8:=⟨_,nD _ w7 F8,⟨_,_,_,_,_,_,_,_,_,h8f⟩,XD.1.aB h7.yS⟩;have t6:=aU.boxed aZ t7;have t5:=aU.cat (nD _ w5 F6) (aH.aB h5.yS) t6;have t4:=aU.cat (nD _ w4 F5) (ay.aB h4.yS) t5;exact aU.cat j1 j2 (aU.boxed iJ t4)
 ·rw [if_neg (by simpa using hr)];refine σ ?_;exact hop
end
end
section
open Go Go.W
section
variable {w:World} {τ:Tag} {m:Nat} {S:SV} {M:Mc} {ks:List Nat} {k:Nat} {x:Ins} {n:Int}
theorem akp (hT:dH w τ m S M ks k) (hM:bH n M) (he:M.ended=0) (ie:M.st.kd≠.ref) (gq:M.aA.length≤4294967295) (o0:M.wait.length≤4294967295) (nU:M.aa.spine.length≤4294967294) (hR:M.roots.length≤17592186044416) :
   aD Tryz.prog 81 [ptr m,ptr k] w fun _ w'=>∃ dv,aU w τ m S (M.unwind M.aa) dv w':=by
 have hp:=hT.pos;have hG:=hM.py hp;have b9:=hM.g.nd hG.sd;have mq:=sN b9.1;obtain ⟨vs,vp,fs,fp,hF⟩:=hT.fr;have sO:=hF.cells;refine aeA.calls rfl ?_;unfold KN;simp only [go_sem,simprocAttr,cell_of sO,cz,ptr];refine δ (by rfl) (ot hT.at' hM.g.st hM.g.ends hG.sd) ?_;rintro _ w1 ⟨v1,rfl,mA,ag⟩;refine σ ?_;refine de ?_;intro w2 an ae _;refine cu (cs:=[I 0,I 0,.slice none 0 0]) rfl rfl an rfl rfl (ow mA _ _) ?_;intro w3 aE ab _;have s1:=ag.size;have dU:Mod (fun _=>False) w1 w3:=ae.step ab (fun x U hl=>by subst U;omega);have du:Mod (fun _=>False) w w3:=ag.trans dU;have uQ:=hT.later du;obtain ⟨vs3,vp3,fs3,uh,je⟩:=uQ.fr;have Hg:=je.cells;obtain ⟨vG,vF,vW,vT,fg,ff,fw,ft,F,hh⟩:=id uQ.at';have hc:=hh.cells;have lift:∀ {M':Mc} {f:Nat} {vs:List Value},aD Tryz.prog f vs w3 (fun _ w'=>aU w3 (bO τ w .no) m S M' ks w')→aD Tryz.prog f vs w3 (fun _ w'=>∃ dv,aU w τ m S M' dv w'):=fun hh=>hh.mono (fun _ _ h=>⟨_,aU.boxed du h⟩)
 have akq:∀ {M':Mc} {f:Nat} {vs:List Value},aD Tryz.prog f vs w3 (fun _ w'=>∃ dv,aU w3 (bO τ w .no) m S M' dv w')→aD Tryz.prog f vs w3 (fun _ w'=>∃ dv,aU w τ m S M' dv w'):=fun hh=>hh.mono (fun _ _ ⟨a,h⟩=>⟨a,aU.boxed du h⟩)
 obtain ⟨FM,ww,yp⟩:=mA;obtain ⟨va,vc,rfl,_⟩:=ww.val;have wM:=aE;unfold Mc.unwind;simp only [go_sem,simprocAttr,cell_of aE];refine aX rfl (fun hk=>?_) (fun hk=>?_)
 ·simp only [aK,aL,aM,ak,aN] at hk;rw [if_pos hk];obtain ⟨aP,cP,rfl,NW,_⟩:=je.spine.val;simp only [go_sem,simprocAttr,cell_of Hg,cz];refine dL (by rfl) (by rfl) ?_;intro w4 aJ aj _;refine σ ?_;refine gN (m:=1) (news:=[I (M.st.ov M.aa.bI)]) rfl (je.spine.mod aj (fun _ _ h=>h)) rfl (fun h=>by cases h) (jR (xs:=[I (M.st.ov M.aa.bI)]) aJ) (oQ [(M.st.ov M.aa.bI:Int)]) rfl (by omega) (by omega) ?_;intro v5 w5 iF iG ay vn;obtain ⟨a1,a2,a3⟩:=CB je;have gU:=ay.at (aj.at Hg (fun h=>h)) (fun e=>a2 e);obtain ⟨av5,cv5,rfl,_⟩:=iG.val;refine σ ?_;refine bL (off:=4) rfl rfl gU rfl (by simp [cz]) ?_;intro w6 cO aH _;have l3:k < w3.heap.size:=je.lt.1;have XE:bO τ w .no w1.heap.size = .no:=oh (by omega);have nk:w1.heap.size≠k:=fun e=>by have:=je.tk;rw [← e,XE] at this;cases this
  have nfp:uh≠some w1.heap.size:=fun e=>by have:=je.tp _ e;rw [XE] at this;cases this
  have AY:=aH.at (ay.at (aj.at aE (fun h=>h)) (fun e=>nfp e)) (fun e=>nk e);have Dg:=mq.2.2.1 hk;have FO:=ww.mod dU (fun _ _ h=>h)
  have A5:ax w6 3 1 _ _ _ _:=((FO.mod aj (fun _ _ h=>h)).mod ay (fun b hb e=>by
   have:=je.tp _ e;rw [oh (yp b hb)] at this;cases this)).mod aH (fun b hb e=>by
   have:=je.tk;rw [← e,oh (yp b hb)] at this;cases this)
  rw [Dg] at A5;obtain ⟨bA,rfl,_,Ol⟩:=kA A5 (i:=0) (by omega);have Ol:w6.cell? ⟨bA,0,none⟩=some (I ((M.st.nd M.aa.bI).args.getD 0 0)):=by
   rw [Ol,List.getElem?_map,List.getElem?_eq_getElem (by omega),List.getD_eq_getElem?_getD,List.getElem?_eq_getElem (by omega)];rfl
  have b1:(0:Int)≤0∧(0:Int) < ((M.st.nd M.aa.bI).args.length:Int):=by omega
  simp only [go_sem,simprocAttr,ak,bh,cell_of AY,b1,c8,Ol];refine bL (off:=5) rfl rfl cO rfl (by simp [cz]) ?_;intro w7 cj aZ _;refine σ ?_;refine ⟨_,aU.boxed du (uQ.eT (TS (f':={ M.aa with spine:=M.aa.spine++[(M.st.ov M.aa.bI:Int)],bI:=(M.st.nd M.aa.bI).args.getD 0 0}) je (w2:=w5) (by simpa using iG) rfl (by simpa [cz] using cj) ((aj.aB (fun _ h=>h.elim)).step ay (fun b hb _=>hb)) (aH.trans aZ) (fun b hb=>(vn b hb).imp id (fun hh=>by have:=aj.size;omega))))⟩
 simp only [aK,aL,aM,ak,aN] at hk;rw [if_neg hk];refine σ ?_;refine aX rfl (fun eU=>?_) (fun eU=>?_)
 ·simp only [aK,aL,aM,ak,aN] at eU;rw [if_pos eU];have mD:=b9.2.2.1 eU;have hg0:=(mq.2.2.2.1 eU).2;obtain ⟨g,hg⟩:∃ g:Nat,(M.st.nd M.aa.bI).num=g:=⟨(M.st.nd M.aa.bI).num.toNat,by omega⟩;obtain ⟨ad,c,cv,C',B1,_,wY,_,_⟩:=yB hh.a8 (i:=g) (by omega);have wY:w3.cell? ⟨(ad.add (g*3)).block,(ad.add (g*3)).off+1,none⟩=some (I (M.a8.gl g).arity):=wY;have b1:(0:Int)≤g∧(g:Int) < M.a8.globals.length:=by omega
  obtain ⟨aP,cP,rfl,NW,_⟩:=je.spine.val;have Hh:=aE;rw [hg] at Hh;simp only [go_sem,simprocAttr,ak,bh,cell_of Hg,cz,cell_of hc,bg,cell_of Hh,C',b1,wY];have aow:w3.drew.heap[w1.heap.size]? = _:=Hh;have XF:dH w3.drew (bO τ w .no) m S M ks k:=uQ.mod (Mod.refl (fun _=>False) w3).drew (dP _ _).wx (fun _ _ h=>h.elim);refine aX rfl (fun kf=>?_) (fun kf=>?_)
  ·simp only [aK,aL,aM,ak,aN] at kf;rw [hg,if_pos kf];simp only [go_sem,simprocAttr,cell_of Hh];refine ao (by rfl) ?_;have:=aj3 XF hM he eU ie (by omega) (by rw [hg];exact kf);rw [hg] at this;refine this.mono ?_;intro _ w4 hop;refine σ ?_;exact ⟨_,aU.boxed du hop.dj⟩
  ·simp only [aK,aL,aM,ak,aN] at kf;rw [hg,if_neg kf];refine σ ?_;refine δ (by rfl) (akk XF hM he ie gq o0 hR) ?_;rintro _ w4 ⟨dv,hop⟩;refine σ ?_;exact ⟨_,aU.boxed du hop.dj⟩
 simp only [aK,aL,aM,ak,aN] at eU;rw [if_neg eU];refine σ ?_;refine Bz (fun ρ w'=>w3=w'∧ρ.get 0=some (ptr m)∧ρ.get 1=some (ptr k)∧ρ.get 5=some (ptr w1.heap.size)∧ρ.get 16=some (I (M.st.nd M.aa.bI).kind)∧ρ.get 65=some (.bool (decide ((M.st.nd M.aa.bI).kind=1∨(M.st.nd M.aa.bI).kind=2)))) ?_ ?_
 ·refine aX rfl (fun h1=>?_) (fun h1=>?_)
  ·simp only [aK,aL,aM,ak,aN] at h1;refine σ ?_;simp [h1]
  ·simp only [aK,aL,aM,ak,aN] at h1;refine σ ?_;by_cases qK:(M.st.nd M.aa.bI).kind=2<;>simp [h1,qK]
 rintro ρ _ ⟨rfl,r0,r1,r5,Om,r65⟩;refine aX (show O.ev ρ (.t 65)=_ from r65) (fun sA=>?_) (fun sA=>?_)
 ·simp only [aK,aL,aM,ak,aN] at sA;rw [if_pos sA];obtain ⟨aP,cP,rfl,NW,_⟩:=je.spine.val;simp only [go_sem,simprocAttr,r0,r1,r5,Om,cell_of Hg,cz];refine aX rfl (fun hz=>?_) (fun hz=>?_)
  ·simp only [aK,aL,aM,ak,aN] at hz;rw [if_pos (by omega)];refine σ ?_;refine δ (by rfl) (lift (rA uQ.at' 5)) ?_;intro _ w4 hop;refine σ ?_;exact hop
  ·simp only [aK,aL,aM,ak,aN] at hz;rw [if_neg (by omega)];refine σ ?_;refine δ (by rfl) (akq ((TV uQ.at' hp (by omega)).mono (fun _ _ h=>⟨_,h⟩))) ?_;intro _ w4 hop;refine σ ?_;exact hop
 simp only [aK,aL,aM,ak,aN] at sA;rw [if_neg sA];simp only [go_sem,simprocAttr,r0,r1,r5,Om];refine aX rfl (fun h8=>?_) (fun h8=>?_)
 ·simp only [aK,aL,aM,ak,aN] at h8;rw [if_pos h8];simp only [go_sem,simprocAttr,r0,r1,r5,Om,cell_of aE];refine δ (by rfl) (lift (akl uQ hM ie h8 hR)) ?_;intro _ w4 hop;refine σ ?_;exact hop
 simp only [aK,aL,aM,ak,aN] at h8;rw [if_neg h8];refine σ ?_;refine aX rfl (fun h6=>?_) (fun h6=>?_)
 ·simp only [aK,aL,aM,ak,aN] at h6;rw [if_pos h6];refine σ ?_;refine δ (by rfl) (lift (rA uQ.at' 5)) ?_;intro _ w4 hop;refine σ ?_;exact hop
 ·simp only [aK,aL,aM,ak,aN] at h6;rw [if_neg h6];refine σ ?_;refine δ (by rfl) (lift (rA uQ.at' 4)) ?_;intro _ w4 hop;refine σ ?_;exact hop
end
end
section
open Go Go.W
def A6 (M:Mc):Int×Int:=if M.ended≠0 then (0,221) else (M.step.ended,0)
theorem akr (s:St) (hr:s.kd≠.ref) (roots:List Int):(mB s roots).1=roots.map (sG s roots):=by
 obtain ⟨kd,sz,ns⟩:=s;cases kd with
 | ref=>exact absurd rfl hr
 | hp t=>rfl
 | gn y o t=>rfl
section
variable {w:World} {τ:Tag} {m:Nat} {S:SV} {M:Mc} {ks:List Nat} {k:Nat} {x:Ins} {n:Int}
theorem aks (h:iw w τ m S M ks) (hM:bH n M) (hn:n < 1000000) (ie:M.st.kd≠.ref) (hs:0≤M.steps∧M.steps≤1000000) (hg:0 < M.globals.length) :
   aD Tryz.prog 45 [ptr m] w fun r w'=>r = .tuple #[I (A6 M).1,I (A6 M).2]∧∃ dv,aU w τ m S M.step dv w':=by
 have hR:=hM.Va (by omega);have dI:=hM.ln;have hlf:=hM.lf;have Nv:=hM.lw;have ah:=hM.lt;obtain ⟨vG,vF,vW,vT,fg,ff,fw,ft,F,hh⟩:=id h;have hc:=hh.cells;have kj:=hh.len;obtain ⟨aF,cF,rfl,_⟩:=hh.fr.val;refine aen.calls rfl ?_;unfold Kw;simp only [go_sem,simprocAttr,cell_of hc,bg,ptr];refine aX rfl (fun he=>?_) (fun he=>?_)
 ·simp only [aK,aL,aM,ak,aN] at he;have e1:A6 M=(0,221):=by unfold A6;rw [if_pos he]
  have e2:M.step=M:=by unfold Mc.step;rw [if_pos he]
  rw [e1,e2];refine σ ?_;exact ⟨ks,τ,dP _ _,h,Mod.refl _ _⟩
 simp only [aK,aL,aM,ak,aN] at he;have he:M.ended=0:=he;have e1:A6 M=(M.step.ended,0):=by unfold A6;rw [if_neg (by simp [he])]
 rw [e1];simp only [go_sem,simprocAttr,cell_of hc,bg];refine CL (fun ρ w'=>ρ.get 0=some (ptr m)∧∃ dv,aU w τ m S M.work dv w') ?_ ?_
 ·refine aX rfl (fun hf=>?_) (fun hf=>?_)
  ·simp only [aK,aL,aM,ak,aN] at hf;have hf:M.aA.length=0:=by omega
   refine σ ?_;refine δ (by rfl) (akd h hM he ie (by omega) (by omega) (by omega)) ?_;rintro _ w1 ⟨dv,hop⟩;refine σ ?_;have e:M.work=M.tell:=by unfold Mc.work;rw [if_pos hf]
   rw [e];exact ⟨dv,hop⟩
  simp only [aK,aL,aM,ak,aN] at hf;have hf:0 < M.aA.length:=by omega
  obtain ⟨k,hk⟩:∃ k,ks[M.aA.length - 1]? = some k:=⟨_,List.getElem?_eq_getElem (by omega)⟩;have hT:dH w τ m S M ks k:=⟨h,hf,hk⟩;obtain ⟨vs,vp,fs,fp,hF⟩:=hT.fr;have sO:=hF.cells;obtain ⟨bF,rfl,uq,A7⟩:=kA hh.fr (i:=M.aA.length - 1) (by omega);have A7:w.cell? ⟨bF,M.aA.length - 1,none⟩=some (ptr k):=by rw [A7,List.getElem?_map,hk];rfl
  obtain ⟨j,hj⟩:∃ j:Nat,j+1=ks.length:=⟨ks.length - 1,by omega⟩;rw [show M.aA.length - 1=j by omega] at A7;have q1:IntKind.i64.wrap ((ks.length:Int) - 1)=j:=by rw [bU (by omega) (by omega)];omega
  have b1:(0:Int)≤j∧(j:Int) < ks.length:=by omega
  have yP:w.drew.heap[m]? = _:=hc;have AA:dH w.drew τ m S M ks k:=hT.mod (Mod.refl (fun _=>False) w).drew (dP _ _).wx (fun _ _ h=>h.elim);have XG:dH w.drew.drew τ m S M ks k:=AA.mod (Mod.refl (fun _=>False) w.drew).drew (dP _ _).wx (fun _ _ h=>h.elim);simp only [go_sem,simprocAttr,ak,bh,cell_of hc,bg,q1,b1,c8,A7,ptr,cell_of sO,cz];refine aX rfl (fun hr=>?_) (fun hr=>?_)
  ·simp only [go_sem,simprocAttr,ak,bh,cell_of hc,bg,q1,b1,c8,A7,ptr];refine δ (by rfl) (ag' XG ⟨hM,hf,he,hr,rfl⟩ ie (by omega) hR) ?_;rintro _ w1 ⟨dv,hop⟩;refine σ ?_;have e:M.work=M.run:=by unfold Mc.work;rw [if_neg (by omega),if_pos hr]
   rw [e];exact ⟨dv,hop.dj.dj⟩
  ·simp only [go_sem,simprocAttr,ak,bh,cell_of hc,bg,q1,b1,c8,A7,ptr];refine ao (by rfl) ?_;have gY:=(hM.py hf).wD;refine (akp XG hM he ie (by omega) (by omega) (by omega) hR).mono ?_;rintro _ w1 ⟨dv,hop⟩;refine σ ?_;have e:M.work=M.unwind M.aa:=by unfold Mc.work;rw [if_neg (by omega),if_neg (by rw [hr];simp)]
   rw [e];exact ⟨dv,hop.dj.dj⟩
 rintro ρ w1 ⟨r0,dv,hop⟩;obtain ⟨rP,j1,h1,j2⟩:=hop;obtain ⟨Od,Oe,He,Of,Xu,Xv,Xw,Xx,F1,DJ⟩:=id h1;have dk:=DJ.cells;have Hi:=C9 M;simp only [go_sem,simprocAttr,r0,cell_of dk,bg,ptr];refine aX rfl (fun h5=>?_) (fun h5=>?_)
 ·simp only [aK,aL,aM,ak,aN] at h5;have e:M.step=M.work:=by unfold Mc.step;rw [if_neg (by simp [he]),if_pos h5]
  rw [e];simp only [go_sem,simprocAttr,cell_of dk,bg];exact ⟨dv,rP,j1,h1,j2⟩
 simp only [aK,aL,aM,ak,aN] at h5;obtain ⟨kF,fN,cg⟩:bH (n+1) M.work∧bH (n+1) M.step∧M.step=({ M.work with steps:=M.work.steps+1}:Mc).tidy:=by
  rcases hM.step he with ⟨hw,_⟩ | hw
  ·exact absurd hw.ended h5
  ·exact hw
 have q2:IntKind.i64.wrap (M.work.steps+1)=M.work.steps+1:=bU (by rw [Hi.steps];omega) (by rw [Hi.steps];omega);simp only [go_sem,simprocAttr,cell_of dk,bg,q2];refine bL (off:=14) rfl rfl dk rfl (by simp [bg]) ?_;intro w2 an ae _;obtain ⟨M2,pJ⟩:∃ M2:Mc,M2 = { M.work with steps:=M.work.steps+1}:=⟨_,rfl⟩;have cE:=DJ.An (M':=M2) ae (by rw [pJ];simpa [bg] using an) (by rw [pJ]) (by rw [pJ]) (by rw [pJ]) (by rw [pJ]) (by rw [pJ]) (by rw [pJ]) (by rw [pJ]);rw [← pJ] at cg;have rh:bH (n+1) M2:=by rw [pJ];exact kF.U1 _
 have cy:=cE.cells;have dh:0≤M2.steps∧M2.steps≤1000001:=by
  have e:M2.steps=M.work.steps+1:=by rw [pJ]
  rw [e,Hi.steps];omega
 have akt:M2.st.kd≠.ref:=by rw [pJ];exact Hi.kd ie
 have kN:0 < M2.globals.length:=by
  have e:M2.globals=M.work.globals:=by rw [pJ]
  rw [e,(Mb M).gl];exact hg
 have step2:∀ {Mf:Mc} {w':World},aU w2 rP m S Mf dv w'→aU w τ m S Mf dv w':=fun hop=>aU.cat j1 j2 (aU.cat (dP _ w1) (ae.aB (fun b hb=>by subst hb;rw [DJ.tm];simp [Tg.own])) hop)
 have aku:∀ b:Int,b > 0→IntKind.i64.wrap (M2.steps.tmod b)=M2.steps.tmod b:=by
  intro b hb;have h1:=Int.tmod_nonneg b dh.1;have h2:=Int.tmod_lt_of_pos M2.steps hb;have h3:M2.steps.tmod b≤M2.steps:=by
   rcases Int.lt_or_le M2.steps b with h4 | h4
   ·rw [Int.tmod_eq_of_lt dh.1 h4];omega
   ·omega
  exact bU (by omega) (by omega)
 simp only [go_sem,simprocAttr,cell_of cy,bg];refine gz (fun ρ w'=>w'=w2.drew∧ρ.get 0=some (ptr m)∧ρ.get 98=some (.bool (decide (M2.every > 0∧M2.steps.tmod M2.every=0)))) ?_ ?_
 ·cases hp:decide (M2.every > 0) with
  | false=>
   simp only [go_sem,simprocAttr,cell_of cy,bg,hp];simp only [aK,aL,aM,ak,aN] at hp;simp [hp]
  | true=>
   have sC:=of_decide_eq_true hp;have bq:M2.every≠0:=by omega
   have hq:=aku _ sC;simp only [go_sem,simprocAttr,cell_of cy,bg,hp,bq,hq];by_cases hz:M2.steps.tmod M2.every=0<;>simp [sC,hz]
 rintro ρ _ ⟨rfl,r0,r98⟩;simp only [go_sem,simprocAttr,r0,r98];refine Bz (fun ρ w'=>ρ.get 0=some (ptr m)∧aU w2 rP m S M.step dv w') ?_ ?_
 ·rw [cg];refine aX rfl (fun DK=>?_) (fun DK=>?_)
  ·simp only [aK,aL,aM,ak,aN] at DK;unfold Mc.tidy;rw [if_pos DK];have wh:=rh.Va (by omega);have bq:M2.roots≠[]:=fun e=>by
    have:M2.globals=[]:=by unfold Mc.roots at e;simp at e;exact e.1
    rw [this] at kN;simp at kN
   have BY:Mod (fun _=>False) w2 w2.drew.drew:=(Mod.refl (fun _=>False) w2).drew.drew;have On:=cE.mod BY (dP rP w2).wx (fun _ _ h=>h.elim);obtain ⟨ti,ui,sI⟩:=On.st.iface;simp only [go_sem,simprocAttr,cell_of cy,bg,sI,ptr];refine δ (by rfl) (TZ ⟨_,_,_,_,_,_,_,_,_,On⟩ wh) ?_;rintro r3 w3 ⟨⟨f3,ou,nt⟩,ab⟩;have lm:=cE.lt;have km:=ab.old m lm (fun h=>h);refine σ ?_;refine ⟨km,?_⟩;have qn:=On.mod ab (eB rP w2.drew.drew .no).wx (fun _ _ h=>h.elim);obtain ⟨pb,_⟩:=ou.ints wh;obtain ⟨va,vc,rfl,_⟩:=ou.val;refine aft (roots:=M2.roots) (by rw [sI];rfl) (by rfl) qn.st rh.g.st pb (nG rh.roots) ?_ wh ?_
   ·intro _ x U hF;have hU:=qn.tF x hF;obtain ⟨b,c',sp,e,rfl,_⟩:=ou.pos (List.length_pos_iff.2 bq);cases e;cases U;rw [oh (nt _ rfl)] at hU;cases hU
   intro w4 F4 v4 eA DI rS;have hh4:=qn.store (s:=(mB M2.st M2.roots).2) DI eA (Md _ _);rw [akr _ akt] at rS;obtain ⟨fp,j9,ke⟩:=rS;obtain ⟨b,c',sp,rfl,rfl,aJ,_⟩:=j9.pos (by simp;exact List.length_pos_iff.2 bq);obtain ⟨aq,gG⟩:=ke b rfl;simp only [go_sem,simprocAttr,show ((0:Int) == 0)=true from rfl];refine δ (by rfl) (T3 (M:={ M2 with st:=(mB M2.st M2.roots).2}) ⟨_,_,_,_,_,_,_,_,_,hh4⟩ (sG M2.st M2.roots) j9 (TU aq gG) wh) ?_;rintro r5 w5 ⟨ay,⟨N6,N7,vW5,N8,fg5,ff5,uP,ft5,F5,oI⟩⟩;have gU:=oI.cells;simp only [go_sem,simprocAttr,cell_of gU,bg];refine Fl rfl oI.st ?_;refine σ ?_;refine bL (off:=8) rfl rfl gU rfl (by simp [bg]) ?_;intro w6 cO aH mV;refine σ ?_;have uN:=oI.An (M':=M2.after (sG M2.st M2.roots) (mB M2.st M2.roots).2) aH (by simpa [bg,Mc.after,Mc.eM,Md] using cO) rfl rfl rfl rfl rfl rfl rfl;have k5:aU w5 _ m S _ dv w6:=⟨_,dP _ _,⟨_,_,_,_,_,_,_,_,_,uN⟩,aH.aB (fun b hb=>by subst hb;rw [oI.tm];simp [Tg.own])⟩;have k4:=aU.cat (dP _ w4) ay k5;have k3:=aU.cat (nD _ w3 F4) (DI.1.aB qn.yS) k4;exact (aU.boxed ab k3).dj.dj
  ·simp only [aK,aL,aM,ak,aN] at DK;unfold Mc.tidy;rw [if_neg DK];refine σ ?_;exact ⟨rP,dP _ _,⟨_,_,_,_,_,_,_,_,_,cE.mod (Mod.refl (fun _=>False) w2).drew (dP rP w2).wx (fun _ _ h=>h.elim)⟩,(Mod.refl _ w2).drew⟩
 rintro ρ w3 ⟨r0,hop⟩;obtain ⟨wu,q1,h3,q2⟩:=hop;obtain ⟨T5,T6,T8,T9,Ua,Ub,Uc,Ud,F3,qn⟩:=id h3;have eh:=qn.cells;simp only [go_sem,simprocAttr,r0,cell_of eh,bg,ptr];exact ⟨dv,step2 ⟨wu,q1,h3,q2⟩⟩
end
end
section
open Go Go.W
def rQ (n:Int) (M:Mc):Prop:=bH n M∨M.ended=5
theorem rQ.ok {n:Int} {M:Mc} (h:rQ n M) (he:M.ended=0):bH n M:=by
 rcases h with h | h
 ·exact h
 ·omega
theorem step_end {M:Mc} (h:M.ended≠0):M.step=M:=by unfold Mc.step;rw [if_pos h]
theorem rQ.step {n:Int} {M:Mc} (h:rQ n M):rQ (n+1) M.step:=by
 by_cases he:M.ended=0
 ·rcases (h.ok he).step he with ⟨hw,e⟩ | ⟨_,hw,_⟩
  ·rw [e];exact .inr hw.ended
  ·exact .inl hw
 ·rw [step_end he];rcases h with h | h
  ·exact .inl (h.more (by omega))
  ·exact .inr h
theorem rQ.steps {n:Int} {M:Mc} (h:rQ n M) (k:Nat):rQ (n+k) (M.cC k):=by
 induction k with
 | zero=>
  have e:n+((0:Nat):Int)=n:=by simp
  rw [e];exact h
 | succ k ih=>
  have e:n+((k+1:Nat):Int)=n+(k:Int)+1:=by omega
  rw [e];exact ih.step
theorem akv {M:Mc} {i:Nat} (h:(M.cC i).ended≠0):∀ d:Nat,M.cC (i+d)=M.cC i:=by
 intro d
 induction d with
 | zero=>rfl
 | succ d ih=>
  show (M.cC (i+d)).step=_;rw [ih];exact step_end h
theorem Oo {M:Mc} {i j:Nat} (h:(M.cC i).ended≠0) (ek:i≤j):M.cC j=M.cC i:=by
 obtain ⟨d,rfl⟩:∃ d,j=i+d:=⟨j - i,by omega⟩;exact akv h d
theorem akw {M:Mc} {i:Nat} (h:(M.cC (i+1)).ended=0):(M.cC i).ended=0:=by
 apply Classical.byContradiction;intro hh;rw [Oo hh (Nat.le_succ i)] at h;exact hh h
theorem akx {M:Mc} (he:M.ended=0) (h:M.work.ended=5):M.step.ended=5:=by
 unfold Mc.step;rw [if_neg (by simp [he]),if_pos h];exact h
theorem Oq (M:Mc) (k:Nat):M.steps≤(M.cC k).steps∧(M.cC k).steps≤M.steps+k∧((M.cC k).ended=0→(M.cC k).steps=M.steps+k):=by
 induction k with
 | zero=>exact ⟨Int.le_refl _,by show M.steps≤_;omega,fun _=>by show M.steps=_;omega⟩
 | succ k ih=>
  obtain ⟨h1,h2,h3⟩:=ih;have e:=U' (M.cC k);show M.steps≤(M.cC k).step.steps∧(M.cC k).step.steps≤M.steps+((k+1:Nat):Int)∧((M.cC k).step.ended=0→(M.cC k).step.steps=M.steps+((k+1:Nat):Int));rw [e]
  split
  ·rename_i hh;refine ⟨by omega,by omega,fun _=>by have:=h3 hh.1;omega⟩
  ·rename_i hh;refine ⟨h1,by omega,fun he=>?_⟩;exfalso;have h0:(M.cC k).ended=0:=akw he;apply hh;refine ⟨h0,fun h5=>?_⟩;have:=akx h0 h5;omega
theorem aky {M:Mc} (h:M.st.kd≠.ref) (k:Nat):(M.cC k).st.kd≠.ref:=by
 induction k with
 | zero=>exact h
 | succ k ih=>exact U9 ih
end
section
open Go Go.W
section
variable {w:World} {τ:Tag} {m:Nat} {S:SV} {M:Mc} {ks:List Nat} {n:Int}
theorem akz (h:iw w τ m S M ks) (hM:rQ n M) (hn:n≤500000) (zn:0≤n) (ie:M.st.kd≠.ref) (hs:0≤M.steps∧M.steps≤500000) (hg:M.ended=0→0 < M.globals.length) {c:Int} (hc:c≤400000) :
   aD Tryz.prog 24 [ptr m,I c] w fun r w'=>r=I ((M.cC c.toNat).steps - M.steps)∧∃ dv,aU w τ m S (M.cC c.toNat) dv w':=by
 obtain ⟨vG,vF,vW,vT,fg,ff,fw,ft,F,hh⟩:=id h;have wq:=hh.cells;refine aej.calls rfl ?_;unfold Ks;simp only [go_sem,simprocAttr,cell_of wq,bg,ptr];refine dz (fun z ρ w'=>∃ (i:Nat) (dv:List Nat),z=c.toNat - i∧i≤c.toNat∧aU w τ m S (M.cC i) dv w'∧ρ=[(0,ptr m),(1,I c),(5,I M.steps)]) c.toNat ⟨0,ks,rfl,by omega,⟨τ,dP _ _,h,Mod.refl _ _⟩,rfl⟩ ?_;rintro z ρ w1 ⟨i,dv,rfl,hi,hop,rfl⟩;obtain ⟨rP,j1,h1,j2⟩:=hop;obtain ⟨Od,Oe,He,Of,Xu,Xv,Xw,Xx,F1,DJ⟩:=id h1;have dk:=DJ.cells;obtain ⟨s1,s2,s3⟩:=Oq M i;have q1:IntKind.i64.wrap ((M.cC i).steps - M.steps)=(M.cC i).steps - M.steps:=bU (by omega) (by omega);unfold Tw;simp only [go_sem,simprocAttr,cell_of dk,bg,ptr];refine gz (fun ρ w'=>w1=w'∧ρ.get 0=some (ptr m)∧ρ.get 1=some (I c)∧ρ.get 5=some (I M.steps)∧ρ.get 24=some (.bool (decide ((M.cC i).ended=0∧(M.cC i).steps - M.steps < c)))) ?_ ?_
 ·cases he:((M.cC i).ended == 0)
  ·simp only [go_sem,simprocAttr,cell_of dk,bg,he];simp only [aK,aL,aM,ak,aN] at he;simp [he]
  ·simp only [go_sem,simprocAttr,cell_of dk,bg,he,q1];simp only [aK,aL,aM,ak,aN] at he;simp [he]
 rintro ρ _ ⟨rfl,r0,r1,r5,r24⟩;simp only [go_sem,simprocAttr,r0,r1,r5,r24];refine aX rfl (fun hh=>?_) (fun hh=>?_)
 ·simp only [aK,aL,aM,ak,aN] at hh;have ah:i < c.toNat:=by have:=s3 hh.1;omega
  refine σ ?_;refine ao (by rfl) ?_;have hA:=hM.steps i;refine (aks h1 (hA.ok hh.1) (by omega) (aky ie i) ⟨by omega,by omega⟩ (by rw [(ag5 M i).gl];exact hg (Classical.byContradiction fun h0=>by have e0:M.cC i=M:=Oo (i:=0) (M:=M) h0 (Nat.zero_le i);rw [e0] at hh;exact h0 hh.1))).mono ?_;rintro _ w2 ⟨rfl,ks2,akA⟩;refine σ ?_;exact ⟨_,by omega,i+1,ks2,rfl,by omega,aU.cat j1 j2 akA⟩
 ·simp only [aK,aL,aM,ak,aN] at hh;have uN:M.cC c.toNat=M.cC i:=by
   by_cases he:(M.cC i).ended=0
   ·have:=s3 he;have:i=c.toNat:=by
     apply Classical.byContradiction;intro bq;exact hh ⟨he,by omega⟩
    rw [this]
   ·exact Oo he hi
  simp only [go_sem,simprocAttr,cell_of dk,bg,q1];rw [uN];exact ⟨rfl,dv,rP,j1,h1,j2⟩
end
end
section
open Go Go.W
section
variable {T:bl} {entry:ByteArray} {input:List Int} {heap every:Int} {bj:Bool}
structure akB (T:bl) (entry:ByteArray) (input:List Int) (heap every:Int):Prop where
 XH:kZ T=0
 inl:input.length≤10000
 jd:∀ a∈input,isNum a
 hp:1≤heap∧heap≤1048576
 ev:0≤every
 XI:0≤oB entry T∧oB entry T < T.globals.length
theorem Ot (h:jA T entry input heap every=0):akB T entry input heap every:=by
 unfold jA at h
 split at h
 ·cases h
 rename_i h1
 split at h
 ·cases h
 rename_i h2
 split at h
 ·rename_i h3;exact absurd h h3
 rename_i h3
 split at h
 ·cases h
 rename_i h4;have h2:¬ input.any (fun n=>!qw n)=true∧¬ heap < 1∧¬ heap > 1048576∧¬ every < 0:=by
  refine ⟨fun e=>h2 (.inl e),fun e=>h2 (.inr (.inl e)),fun e=>h2 (.inr (.inr (.inl e))),fun e=>h2 (.inr (.inr (.inr e)))⟩
 refine ⟨Classical.not_not.1 h3,by omega,fun a ha=>?_,by omega,by omega,?_⟩
 ·have:=h2.1;rw [List.any_eq_true] at this;have h5:qw a=true:=by
   cases hb:qw a
   ·exact absurd ⟨a,ha,by rw [hb];rfl⟩ this
   ·rfl
  unfold qw at h5;rw [decide_eq_true_eq] at h5;unfold isNum;omega
 ·unfold oB;cases he:oA entry T.globals 0 with
  | none=>exact absurd he h4
  | some j=>
   have:=VT _ _ he;simp only;omega
theorem akC {n i:Nat} (h:i < n):(ij n)[i]? = some ⟨4,(i:Int),[]⟩:=by
 unfold ij;rw [List.getElem?_map,List.getElem?_range h];rfl
theorem akD {n i:Nat} (h:i < n):ai (ij n) i=⟨4,(i:Int),[]⟩:=by
 unfold ai;rw [List.getD_eq_getElem?_getD,akC h];rfl
theorem akE (n:Nat):Ends (ij n):=by
 intro p hp;rw [AW] at hp;have h1:au (ij n) p=p:=by
  apply ob;unfold ind;rw [akD hp];rfl
 have h2:over (ij n) p=p:=by
  unfold over;obtain ⟨k,_,e⟩:=oa (au (ij n)) (ij n).length p;rw [e,BN h1]
 rw [h2,h1]
theorem akF (h:jA T entry input heap every=0) (eE:(T.globals.length:Int)≤heap):bH 0 (fO T entry input heap bj every):=by
 have hf:=Ot h;have hh:=hf.hp;have he:=hf.XI;unfold fO;rw [if_pos eE];have hy:0≤rN bj heap∧rN bj heap≤1048576:=by
  unfold rN
  split
  ·rw [Int.tdiv_eq_ediv_of_nonneg (by omega)];split<;>omega
  ·omega
 have XJ:∀ a:Int,0≤a→a < T.globals.length→St.In ⟨qx bj heap,heap,ij T.globals.length⟩ a:=fun a h1 h2=>⟨h1,by show a < ((ij _).length:Int);rw [AW];exact h2⟩
 exact
  {a8:=(Vm hf.XH).1
   g:=⟨WW hh eE,akE _,fun nd b9=>by
    obtain ⟨i,hi,rfl⟩:=List.mem_map.1 b9;have:=List.mem_range.1 hi
    exact ⟨fun _=>by show (i:Int) < T.globals.length;omega,fun e=>by cases e⟩⟩
   kC:=fun a ha=>by
    obtain ⟨i,hi,rfl⟩:=List.mem_map.1 ha;have:=List.mem_range.1 hi;exact XJ _ (by omega) (by omega)
   lE:=by simp [iR]
   mG:=fun a ha=>by
    obtain rfl:=List.mem_singleton.1 ha;exact XJ _ he.1 he.2
   px:=fun _=>by simp
   jw:=fun f hf=>by cases hf
   run:=fun _ f hf=>by cases hf
   base:=by show (0:Int)≤0∧(0:Int)≤1048576;omega
   bB:=hy
   jd:=hf.jd
   ln:=Int.le_refl _
   lf:=by simp [iR]
   lw:=by simp [iR]
   lt:=by simp [iR]
   rF:=by simp [iR]}
theorem XK (h:jA T entry input heap every=0):rQ 0 (fO T entry input heap bj every):=by
 by_cases eE:(T.globals.length:Int)≤heap
 ·exact .inl (akF h eE)
 ·refine .inr ?_;unfold fO;rw [if_neg eE]
theorem akG:(fO T entry input heap bj every).st.kd≠.ref:=by
 unfold fO iR qx
 split<;>(cases bj<;>exact fun h=>by cases h)
theorem XL:(fO T entry input heap bj every).steps=0:=by unfold fO iR;split<;>rfl
theorem akH:(fO T entry input heap bj every).told=[]:=by unfold fO iR;split<;>rfl
theorem akI:(fO T entry input heap bj every).aA=[]:=by unfold fO iR;split<;>rfl
structure Good (n:Int) (M:Mc):Prop where
 al:rQ n M
 kd:M.st.kd≠.ref
 gl:M.ended=0→0 < M.globals.length
 lf:(M.aA.length:Int)≤n
 lt:(M.told.length:Int)≤n
 st:0≤M.steps∧M.steps≤n
theorem XM (h:jA T entry input heap every=0):Good 0 (fO T entry input heap bj every):=by
 refine ⟨XK h,akG,fun he=>?_,by rw [akI];exact Int.le_refl _,by rw [akH];exact Int.le_refl _,by rw [XL];omega⟩;rcases XK (bj:=bj) h with hk | hk
 ·rw [hk.lE];have:=(Ot h).XI;have e:(fO T entry input heap bj every).a8=T:=by unfold fO iR;split<;>rfl
  rw [e];omega
 ·omega
theorem Good.step {n:Int} {M:Mc} (h:Good n M):Good (n+1) M.step:=by
 have cg:=U' M;have hs:0≤M.step.steps∧M.step.steps≤n+1:=by have:=h.st;rw [cg];split<;>omega
 have hk:=U9 h.kd;by_cases he:M.ended=0
 ·have ct:=h.al.ok he;have mD:0 < M.step.globals.length:=by rw [(U3 M).gl];exact h.gl he
  refine ⟨h.al.step,hk,fun _=>mD,?_,?_,hs⟩
  all_goals rcases ct.step he with ⟨hw,e⟩ | ⟨_,hw,_⟩
  ·rw [e,(U4 ct hw).aA];have:=h.lf;omega
  ·exact hw.lf
  ·rw [e,(U4 ct hw).told];have:=h.lt;omega
  ·exact hw.lt
 ·have e:=step_end he;rw [e];have h1:=h.lf;have h2:=h.lt;have h3:=h.st;have h4:=h.al.step;rw [e] at h4;exact ⟨h4,h.kd,h.gl,by omega,by omega,by omega⟩
theorem Good.steps {n:Int} {M:Mc} (h:Good n M) (k:Nat):Good (n+k) (M.cC k):=by
 induction k with
 | zero=>
  have e:n+((0:Nat):Int)=n:=by simp
  rw [e];exact h
 | succ k ih=>
  have:=ih.step;have e:n+(k:Int)+1=n+((k+1:Nat):Int):=by omega
  rw [e] at this;exact this
end
end
section
open Go Go.W
def gL (T:bl) (entry:ByteArray) (input:List Int) (heap every fuel:Int):Int:=
 if 10000 < input.length then 2 else if fuel < 0∨fuel > 16777216 then 1 else if jA T entry input heap every=220 then 230 else jA T entry input heap every
theorem kG {w:World} {b T:Nat} {v0 v1 v2:Value} {fz:Nat×Nat} (h:w.heap[b]? = some (.cells [v0,v1,v2].toArray T fz)):cB w 3 (.pointer (some ⟨b,0,none⟩))=some (.agg #[v0,v1,v2]):=by
 have h0:w.cell? ⟨b,0,none⟩=some v0:=(cell_of h 0).trans rfl;have h1:w.cell? ⟨b,1,none⟩=some v1:=(cell_of h 1).trans rfl;have h2:w.cell? ⟨b,2,none⟩=some v2:=(cell_of h 2).trans rfl;simp [cB,jC,Addr.add_lit,h0,h1,h2]
theorem Hj {w:World} {b T:Nat} {v0 v1 v2 v3 v4 v5 v6 v7:Value} {fz:Nat×Nat} (h:w.heap[b]? = some (.cells [v0,v1,v2,v3,v4,v5,v6,v7].toArray T fz)):cB w 8 (.pointer (some ⟨b,0,none⟩))=some (.agg #[v0,v1,v2,v3,v4,v5,v6,v7]):=by
 have hh:∀ o v,[v0,v1,v2,v3,v4,v5,v6,v7][o]? = some v→w.cell? ⟨b,o,none⟩=some v:=fun o v hv=>(cell_of h o).trans (by rw [List.getElem?_toArray];exact hv)
 simp [cB,jC,Addr.add_lit,hh 0 v0 rfl,hh 1 v1 rfl,hh 2 v2 rfl,hh 3 v3 rfl,hh 4 v4 rfl,hh 5 v5 rfl,hh 6 v6 rfl,hh 7 v7 rfl]
theorem Hk {w w':World} {v:Value} {l:List It} (hv:Dp w w' v l) (k st n:Int):∀ u∈[I k,v,I st,I n,I 0,I 0,I 0,.string ⟨#[]⟩],u.oneCell'=true:=by
 obtain ⟨fp,h,_⟩:=hv;obtain ⟨a,c,rfl,_⟩:=h.val;intro u hu;simp only [List.mem_cons,List.not_mem_nil,or_false] at hu;rcases hu with rfl | rfl | rfl | rfl | rfl | rfl | rfl | rfl<;>rfl
section
variable {w:World} {bt bp jv:Value} {T:bl} {B:Nat→Prop} {entry:ByteArray} {input:List Int} {heap every fuel:Int} {bj:Bool}
theorem akJ (h:dE w bt bp T B) (hT:lg T) (jL:∀ b,B b→b < w.heap.size) (cK:Ints w jv input) :
   aD Tryz.prog 23 [eC bt bp,.string entry,jv,nM heap bj every,I fuel] w fun r w'=>Mod (fun _=>False) w w' ∧
    (gL T entry input heap every fuel≠0→r = .tuple #[.pointer none,I (gL T entry input heap every fuel)])∧(gL T entry input heap every fuel=0→NO w w' (fO T entry input heap bj every) r):=by
 have h0:=h;have wW:=cK;obtain ⟨aI,cI,rfl,G3,_⟩:=cK;refine ah1.calls rfl ?_;unfold MM eC nM;refine σ ?_;refine b8 rfl ?_;intro w1 aq ag cL;refine σ ?_;refine b8 rfl ?_;intro w2 an ae dh;have aY:=ag.trans ae;have a7:=ae.at aq (fun hh=>hh);by_cases c1:10000 < input.length
 ·have e1:decide ((input.length:Int) > 10000)=true:=by rw [decide_eq_true_eq];omega
  have eb:gL T entry input heap every fuel=2:=by unfold gL;rw [if_pos c1]
  simp only [go_sem,simprocAttr,e1];rw [eb];exact ⟨aY,fun _=>rfl,fun hh=>absurd hh (by decide)⟩
 have e1:decide ((input.length:Int) > 10000)=false:=by rw [decide_eq_false_iff_not];omega
 simp only [go_sem,simprocAttr,e1];by_cases c2:fuel < 0∨fuel > 16777216
 ·have eb:gL T entry input heap every fuel=1:=by unfold gL;rw [if_neg c1,if_pos c2]
  by_cases c3:fuel < 0
  ·have e2:decide (fuel < 0)=true:=by rw [decide_eq_true_eq];exact c3
   simp only [go_sem,simprocAttr,e2];rw [eb];exact ⟨aY,fun _=>rfl,fun hh=>absurd hh (by decide)⟩
  ·have e2:decide (fuel < 0)=false:=by rw [decide_eq_false_iff_not];exact c3
   have e3:decide (fuel > 16777216)=true:=by rw [decide_eq_true_eq];omega
   simp only [go_sem,simprocAttr,e2,e3];rw [eb];exact ⟨aY,fun _=>rfl,fun hh=>absurd hh (by decide)⟩
 have e2:decide (fuel < 0)=false:=by rw [decide_eq_false_iff_not];omega
 have e3:decide (fuel > 16777216)=false:=by rw [decide_eq_false_iff_not];omega
 have j8:cB w2 2 (.pointer (some ⟨w.heap.size,0,none⟩))=some (.agg #[bt,bp]):=by
  have hh:w2.heap[w.heap.size]? = some (.cells #[bt,bp] 25 (0,0)):=a7;exact lL hh
 have gv:cB w2 3 (.pointer (some ⟨w1.heap.size,0,none⟩))=some (.agg #[I heap,.bool bj,I every]):=by
  have hh:w2.heap[w1.heap.size]? = some (.cells [I heap,.bool bj,I every].toArray 28 (0,0)):=an;exact kG hh
 simp only [go_sem,simprocAttr,e2,e3,j8,gv];refine ao (by rfl) ?_;have hT2:dE w2 bt bp T B:=h0.mod aY (fun _ _ h=>h) (fun _ h=>h);refine (ajN hT2 hT (fun b hb=>by have:=jL b hb;have:=aY.size;omega) (wW.mod aY (fun _ _ h=>h))).mono ?_;rintro r w3 ⟨ab,bq,hz⟩;by_cases c4:jA T entry input heap every=0
 ·obtain ⟨τ,m,S,rfl,hA,Ou⟩:=hz c4;have eb:gL T entry input heap every fuel=0:=by unfold gL;rw [if_neg c1,if_neg c2,c4];rfl
  have e4:((0:Int) == 220)=false:=rfl;simp only [go_sem,simprocAttr,e4];rw [eb];exact ⟨aY.trans ab,fun hh=>absurd rfl hh,fun _=>⟨τ,m,S,rfl,hA,fun b hb=>Ou b (by have:=aY.size;omega)⟩⟩
 ·obtain rfl:=bq c4;by_cases c5:jA T entry input heap every=220
  ·have eb:gL T entry input heap every fuel=230:=by unfold gL;rw [if_neg c1,if_neg c2,if_pos c5]
   have e4:((220:Int) == 220)=true:=rfl;rw [c5];simp only [go_sem,simprocAttr,e4];rw [eb];exact ⟨aY.trans ab,fun _=>rfl,fun hh=>absurd hh (by decide)⟩
  ·have eb:gL T entry input heap every fuel=jA T entry input heap every:=by unfold gL;rw [if_neg c1,if_neg c2,if_neg c5]
   have e4:(jA T entry input heap every == 220)=false:=by simp [c5]
   simp only [go_sem,simprocAttr,e4];rw [eb];exact ⟨aY.trans ab,fun _=>rfl,fun hh=>absurd hh c4⟩
theorem Ov (h:dE w bt bp T B) (hT:lg T) (jL:∀ b,B b→b < w.heap.size) (cK:Ints w jv input) (EZ:fuel≤400000∨fuel > 16777216) :
   aD Tryz.prog 11 [eC bt bp,.string entry,jv,nM heap bj every,I fuel] w fun r w'=>Mod (fun _=>False) w w' ∧
    (gL T entry input heap every fuel≠0→r = .tuple #[uJ 0 (.slice none 0 0) 0 0,I (gL T entry input heap every fuel)]) ∧
    (gL T entry input heap every fuel=0→∃ v,r = .tuple #[uJ (nL ((fO T entry input heap bj every).cC fuel.toNat)) v ((fO T entry input heap bj every).cC fuel.toNat).stuck ((fO T entry input heap bj every).cC fuel.toNat).steps,I 0]∧Dp w w' v ((fO T entry input heap bj every).cC fuel.toNat).told):=by
 have h0:=h;have wW:=cK;obtain ⟨aI,cI,rfl,G3,_⟩:=cK;refine ahW.calls rfl ?_;unfold MG eC nM;refine φ ?_;refine b8 rfl ?_;intro w1 aq ag cL;refine φ ?_;refine b8 rfl ?_;intro w2 an ae dh;refine φ ?_;refine de ?_;intro w3 aE ab gj;have du:=(ag.trans ae).trans ab;have eS:=(ae.trans ab).at aq (fun hh=>hh);have nF:=ab.at an (fun hh=>hh);have j8:cB w3 2 (.pointer (some ⟨w.heap.size,0,none⟩))=some (.agg #[bt,bp]):=by
  have hh:w3.heap[w.heap.size]? = some (.cells #[bt,bp] 25 (0,0)):=eS;exact lL hh
 have gv:cB w3 3 (.pointer (some ⟨w1.heap.size,0,none⟩))=some (.agg #[I heap,.bool bj,I every]):=by
  have hh:w3.heap[w1.heap.size]? = some (.cells [I heap,.bool bj,I every].toArray 28 (0,0)):=nF;exact kG hh
 simp only [go_sem,Nat.reduceAdd,Nat.reduceEqDiff,Nat.reduceLT,Nat.reduceLeDiff,Nat.reduceMul,reduceCtorEq,↓reduceIte,j8,gv];refine δ (by rfl) (akJ (bj:=bj) (h0.mod du (fun _ _ h=>h) (fun _ h=>h)) hT (fun b hb=>by have:=jL b hb;have:=du.size;omega) (wW.mod du (fun _ _ h=>h))) ?_;rintro r w4 ⟨aj,bq,hz⟩;have ey:=du.trans aj;have p5:=aj.at aE (fun hh=>hh);by_cases c4:gL T entry input heap every fuel=0
 ·obtain ⟨τ,m,S,rfl,hA,Ou⟩:=hz c4;have e4:((0:Int) != 0)=false:=rfl;have aox:¬ fuel < 0∧¬ fuel > 16777216:=by
   unfold gL at c4
   split at c4
   ·cases c4
   split at c4
   ·cases c4
   ·rename_i hh;omega
  have akK:jA T entry input heap every=0:=by
   unfold gL at c4
   split at c4
   ·cases c4
   split at c4
   ·cases c4
   split at c4
   ·cases c4
   ·exact c4
  have hg:=XM (bj:=bj) akK;have cM:=hg.steps fuel.toNat;simp only [go_sem,Nat.reduceAdd,Nat.reduceEqDiff,Nat.reduceLT,Nat.reduceLeDiff,Nat.reduceMul,reduceCtorEq,↓reduceIte,e4];refine ao (by rfl) ?_;have cg:=hg.st;refine (akz hA hg.al (by omega) (by omega) hg.kd ⟨by omega,by omega⟩ hg.gl (c:=fuel) (by omega)).mono ?_;rintro _ w5 ⟨rfl,dv,bJ,j1,j2,j3⟩;refine φ ?_;refine δ (by rfl) (ail j2 (by have:=cM.lt;omega)) ?_;rintro _ w6 ⟨v,rfl,hv,aH⟩;have iD:∀ b,b < w3.heap.size→¬ (τ b).own:=fun b hb hh=>hh.1 (Ou b hb)
  have p6:=j3.at p5 (fun hh=>iD _ (lt_of_heap aE) hh);have AY:=aH.at p6 (fun hh=>hh);refine cu (cs:=[I 0,.slice none 0 0,I 0,I 0,I 0,I 0,I 0,.string ⟨#[]⟩]) rfl rfl AY rfl rfl (Hk hv _ _ _) ?_;intro w7 cj aZ mX
  have Cd:Mod (fun b=>w3.heap.size≤b) w4 w5:=j3.aB (fun b hb=>by
   rcases Nat.lt_or_ge b w3.heap.size with h' | h'
   ·exact absurd hb (iD b h')
   ·exact h')
  have h3s:=lt_of_heap aE;have eA:=aj.size;have aoy:=du.size;have iq:=j3.size;have mV:=aH.size;have dh:w.heap.size≤w2.heap.size:=(ag.trans ae).size;have kr:Mod (fun b=>w.heap.size≤b) w w7:=((((ey.aB (fun _ hh=>hh.elim)).trans (Cd.aB (fun b hb=>by omega))).trans (aH.aB (fun _ hh=>hh.elim))).trans (aZ.aB (fun b hb=>by omega)));refine ⟨_,by rw [Hj cj];rfl,⟨kr.size,fun b hb _=>kr.old b hb (by omega),kr.os,kr.tape,kr.output⟩,fun hh=>absurd c4 hh,fun _=>⟨v,rfl,?_⟩⟩;obtain ⟨fp,g1,g2⟩:=hv;refine ⟨fp,g1.mod aZ (fun b hb hh=>by have:=g2 b hb;omega),fun b hb=>by have:=g2 b hb;omega⟩
 ·obtain rfl:=bq c4;have e4:(gL T entry input heap every fuel != 0)=true:=by simp [c4]
  simp only [go_sem,Nat.reduceAdd,Nat.reduceEqDiff,Nat.reduceLT,Nat.reduceLeDiff,Nat.reduceMul,reduceCtorEq,↓reduceIte,e4];refine cu (vs:=[I 0,.slice none 0 0,I 0,I 0,I 0,I 0,I 0,.string ⟨#[]⟩]) (cs:=[I 0,.slice none 0 0,I 0,I 0,I 0,I 0,I 0,.string ⟨#[]⟩]) rfl rfl p5 rfl rfl (by intro u hu;simp only [List.mem_cons,List.not_mem_nil,or_false] at hu;rcases hu with rfl | rfl | rfl | rfl | rfl | rfl | rfl | rfl<;>rfl) ?_;intro w7 cj aZ mX;have dh:w.heap.size≤w2.heap.size:=(ag.trans ae).size;have kr:Mod (fun b=>w.heap.size≤b) w w7:=(ey.aB (fun _ hh=>hh.elim)).trans (aZ.aB (fun b hb=>by omega));exact ⟨_,by rw [Hj cj];rfl,⟨kr.size,fun b hb _=>kr.old b hb (by omega),kr.os,kr.tape,kr.output⟩,fun _=>rfl,fun hh=>absurd hh c4⟩
end
end
section
open Go Go.W
def XN:List Ins:=[⟨3,7,0⟩,⟨7,1,0⟩,⟨17,0,0⟩]
def A8:bl:=⟨fj,[⟨⟨#[109]⟩,0,XN⟩]⟩
def XO:Mc:=fO A8 ⟨#[109]⟩ [] 100 false 0
theorem akL:gL A8 ⟨#[109]⟩ [] 100 0 1000=0:=by kernel_rfl
theorem akM:nL (XO.cC 1000)=2:=by kernel_rfl
theorem akN:(XO.cC 1000).told=[⟨⟨#[]⟩,7⟩]:=by kernel_rfl
theorem akO:lg A8:=by
 refine ⟨by decide,by decide,?_,?_,?_,?_⟩
 all_goals decide
theorem akP:cQ 5=⟨#[53]⟩:=by
 unfold cQ Lib.itoa;rw [if_neg (by decide)];show (⟨(Lib.decDigits 5).toArray⟩:ByteArray)=_;rw [Lib.decDigits,dif_pos (by decide)];rfl
theorem akQ:yM cQ [] [⟨⟨#[]⟩,5⟩]=(⟨#[53]⟩,0):=by
 have hk:kE (pG []) [⟨⟨#[]⟩,5⟩]=true:=by decide
 have e1:lK.steps cQ (pG []) [⟨⟨#[]⟩,5⟩] 1=⟨1,0,[],⟨#[]⟩++cQ 5⟩:=rfl;have hf:lp cQ (pG []) [⟨⟨#[]⟩,5⟩]=⟨1,0,[],⟨#[]⟩++cQ 5⟩:=by
  rw [Wz (k:=1) (by decide) (by rw [e1]),e1]
 unfold yM;rw [if_pos hk,hf,if_neg (by decide),akP];rfl
theorem akR (w:World):aD Tryz.prog 19 [] w fun r w'=>∃ b1 b2,r=eC (.slice (some ⟨b1,0,none⟩) 7 7) (.slice (some ⟨b2,0,none⟩) 1 1)∧dE w' (.slice (some ⟨b1,0,none⟩) 7 7) (.slice (some ⟨b2,0,none⟩) 1 1) A8 (· < w'.heap.size)∧Mod (fun _=>False) w w':=by
 refine ah0.calls rfl ?_;unfold ML;refine σ ?_;refine de ?_;intro w1 aq ag cL;refine σ ?_;refine dL (by rfl) (by rfl) ?_;intro w2 an ae dh;refine σ ?_;refine de ?_;intro w3 aE ab gj;refine σ ?_;have wM:w3.heap[w2.heap.size]? = some (.cells [.slice none 0 0,.slice none 0 0].toArray 25 (0,0)):=aE;refine cu (vs:=[.slice (some ⟨w1.heap.size,0,none⟩) 7 7,.slice none 0 0]) rfl rfl wM rfl rfl (by intro u hu;simp only [List.mem_cons,List.not_mem_nil,or_false] at hu;rcases hu with rfl | rfl<;>rfl) ?_;intro w4 aJ aj eA;refine σ ?_;refine dL (by rfl) (by rfl) ?_;intro w5 cd ay iq;refine σ ?_;refine dL (by rfl) (by rfl) ?_;intro w6 cO aH mV;refine σ ?_;have pA:=(ay.trans aH).at aJ (fun hh=>hh);refine bL (off:=1) rfl rfl pA rfl (by simp) ?_;intro w7 cj aZ mX;refine σ ?_;have hl7:=lL cj;simp only [go_sem,simprocAttr,hl7];have z:∀ {a b:World} {k:Nat},w.heap.size≤k→Mod (· = k) a b→Mod (fun b=>w.heap.size≤b) a b:=fun hk hm=>hm.aB (fun b hb=>by omega)
 have z0:∀ {a b:World},Mod (fun _=>False) a b→Mod (fun b=>w.heap.size≤b) a b:=fun hm=>hm.aB (fun _ hh=>hh.elim)
 have uE:Mod (· = w2.heap.size) w2 w7:=(((ab.aB (fun _ hh=>hh.elim)).trans aj).trans ((ay.trans aH).aB (fun _ hh=>hh.elim))).trans aZ;have iI:Mod (· = w2.heap.size) w6 w7:=aZ;have qb:=(((ae.trans ab).aB (S':=(· = w2.heap.size)) (fun _ hh=>hh.elim)).trans aj |>.trans ((ay.trans aH).aB (fun _ hh=>hh.elim)) |>.trans aZ).at aq (fun hh=>by omega);have aoz:=(ay.trans aH).size;have akS:w7.heap[w.heap.size]? = some (.cells [.slice none 0 0,.slice none 0 0].toArray 25 (0,0)):=qb;refine cu (vs:=[.slice (some ⟨w1.heap.size,0,none⟩) 7 7,.slice (some ⟨w5.heap.size,0,none⟩) 1 1]) rfl rfl akS rfl rfl (by intro u hu;simp only [List.mem_cons,List.not_mem_nil,or_false] at hu;rcases hu with rfl | rfl<;>rfl) ?_;intro w8 en bY qZ;simp only [go_sem,simprocAttr,lL en];have XP:=bY.at (uE.at an (fun hh=>by omega)) (fun hh=>by omega);have XQ:=bY.at (iI.at (aH.at cd (fun hh=>hh)) (fun hh=>by omega)) (fun hh=>by omega);have DG:=bY.at (iI.at cO (fun hh=>by omega)) (fun hh=>by omega);have aoA:w2.heap.size≤w4.heap.size:=by omega
 have FK:∀ {b:Nat} {o:Obj},w8.heap[b]? = some o→b < w8.heap.size:=fun h=>(Array.getElem?_eq_some_iff.1 h).1
 refine ⟨w1.heap.size,w5.heap.size,rfl,⟨(sR (rows:=fj.map jc) (T:=47) (fp:=some w1.heap.size) (ax.jQ XP (by rfl)) (by decide)).mod (Mod.refl (fun _=>False) _) (fun _ _ h=>h) (fun b e=>by cases e;exact FK XP),[.slice (some ⟨w4.heap.size,0,none⟩) 3 3],rfl,?_,?_⟩,?_⟩
 ·exact (sR (rows:=[[.string ⟨#[109]⟩,I 0,.slice (some ⟨w4.heap.size,0,none⟩) 3 3]]) (T:=59) (fp:=some w5.heap.size) (ax.jQ DG (by rfl)) (by intro r hr;cases hr with | head=>rfl | tail _ h=>cases h)).mod (Mod.refl (fun _=>False) _) (fun _ _ h=>h) (fun b e=>by cases e;exact FK DG)
 ·intro i g v hg hv;cases i with
  | zero=>
   cases hg;cases hv;exact (sR (rows:=XN.map jb) (T:=61) (fp:=some w4.heap.size) (ax.jQ XQ (by rfl)) (by intro r hr;obtain ⟨x,_,rfl⟩:=List.mem_map.1 hr;rfl)).mod (Mod.refl (fun _=>False) _) (fun _ _ h=>h) (fun b e=>by cases e;exact FK XQ)
  | succ i=>cases hg
 ·have kr:Mod (fun b=>w.heap.size≤b) w w8:=(((z0 ag).trans (z0 ae)).trans (z (by omega) uE)).trans (z (Nat.le_refl _) bY);exact ⟨kr.size,fun b hb _=>kr.old b hb (by omega),kr.os,kr.tape,kr.output⟩
end
section
open Go Go.W Go.RowKit
theorem XR {lo:Nat} {w w':World} (h:oG lo w) (hm:Mod (fun _=>False) w w'):oG w'.heap.size w':=by
 obtain ⟨g,h1,h2,h3,_⟩:=oG.mod (mp:=0) h (hm.aB (fun _ hh=>hh.elim));exact ⟨g,h1,by omega,Nat.le_refl _,by assumption⟩
theorem akT (w:World):Ints w (.slice none 0 0) []:=⟨none,0,rfl,by simp,fun i hi=>absurd hi (by simp)⟩
theorem akU (w:World) (B:Nat→Prop):dB w (.slice none 0 0) 2 [] B:=⟨none,0,rfl,(fun h=>absurd h (by decide)),fun i hi=>absurd hi (by simp)⟩
theorem akV {w:World} (ht:oG w.heap.size w):aD Tryz.prog 8 [] w fun r w'=>r = .bool true∧Mod (fun _=>False) w w':=by
 refine ahU.calls rfl ?_;unfold ME;refine φ ?_;refine δ (by rfl) (akR w) ?_;rintro _ w1 ⟨b1,b2,rfl,hT,ag⟩;refine φ ?_;refine δ (by rfl) (Ov (entry:=⟨#[109]⟩) (input:=[]) (heap:=100) (bj:=false) (every:=0) (fuel:=1000) hT akO (fun b h=>h) (akT _) (.inl (by decide))) ?_;rintro r w2 ⟨ae,_,hz⟩;obtain ⟨v,rfl,hv⟩:=hz akL;have e1:((fO A8 ⟨#[109]⟩ [] 100 false 0).cC (1000:Int).toNat).told=[⟨⟨#[]⟩,7⟩]:=akN;have e2:nL ((fO A8 ⟨#[109]⟩ [] 100 false 0).cC (1000:Int).toNat)=2:=akM;rw [e1] at hv;rw [e2];refine φ ?_;refine de ?_;intro w3 aE ab gj;refine φ ?_;refine cu (cs:=[I 0,.slice none 0 0,I 0,I 0,I 0,I 0,I 0,.string ⟨#[]⟩]) rfl rfl aE rfl rfl (Hk hv _ _ _) ?_;intro w4 aJ aj eA;have dm:Mod (fun _=>False) w2 w4:=ab.step aj (fun b hb hl=>by subst hb;omega);refine φ ?_;refine dL (by rfl) (by rfl) ?_;intro w5 cd ay iq;have dt:=((ag.trans ae).trans dm).trans ay;have hr5:dB w5 (.slice (some ⟨w4.heap.size,0,none⟩) 1 1) 2 ([⟨⟨#[]⟩,5⟩].map fe) (· < w5.heap.size):=
  (sR (rows:=[⟨⟨#[]⟩,5⟩].map fe) (T:=42) (fp:=some w4.heap.size) (ax.jQ cd (by rfl)) (by intro r hr;cases hr with | head=>rfl | tail _ h=>cases h)).mod (Mod.refl (fun _=>False) _) (fun _ _ h=>h) (fun b e=>by cases e;exact lt_of_heap cd)
 refine δ (by rfl) (aju (items:=[⟨⟨#[]⟩,5⟩]) (aC:=[]) hr5 (akU _ _) (XR ht dt) (by decide) (by decide) (by decide)) ?_;rintro _ w6 ⟨rfl,aH⟩;rw [akQ];have pA:=(ay.trans aH).at aJ (fun hh=>hh);have sH:ax w6 42 2 v ([⟨⟨#[]⟩,7⟩].flatMap fe) 1 hv.choose:=((hv.choose_spec.1.mod dm (fun _ _ h=>h)).mod ay (fun _ _ h=>h)).mod aH (fun _ _ h=>h);obtain ⟨b,c,cN,rfl,dk,cy,eh,ph⟩:∃ b c cN,v = .slice (some ⟨b,0,none⟩) 1 c∧hv.choose=some b∧w6.heap[b]? = some (.cells ([⟨⟨#[]⟩,7⟩].flatMap fe++cN).toArray 42 (0,0))∧c*2≤([⟨⟨#[]⟩,7⟩].flatMap fe++cN).length∧1≤c:=by
  rcases sH.2 with ⟨_,h',_⟩ | h'
  ·cases h'
  ·exact h'
 have hl:cB w6 2 (.pointer (some ⟨b,0,none⟩))=some (.agg #[.string ⟨#[]⟩,I 7]):=by
  refine uC ?_ ?_
  ·rw [Addr.add_zero'];exact (cell_of cy 0).trans rfl
  ·rw [Addr.add_lit];exact (cell_of cy 1).trans rfl
 have b1:(0:Int)≤0∧(0:Int) < 1:=by decide
 simp only [go_sem,Nat.reduceAdd,Nat.reduceEqDiff,Nat.reduceLT,Nat.reduceLeDiff,Nat.reduceMul,reduceCtorEq,↓reduceIte,ak,bh,cell_of pA,hl,b1,Nat.zero_mul,Int.natCast_one,nP,cm,decide_true,List.getElem_cons_zero,beq_self_eq_true,Int.reduceBEq,Int.reduceSub,Int.reduceLE,Int.reduceLT];exact dt.trans aH
end
section
open Go Go.W Go.ChangeShapes Go.WideShapes Go.ChangeAt Go.RowKit Go.Deep
instance:Inhabited It:=⟨⟨⟨#[]⟩,0⟩⟩
section
variable {H:Type} {enc:TypeId×Value→H} {w:World} {base:Nat} {held:Bool}
variable {ts:List TypeId} {args:List Value} {ds:List (DataW H)}
theorem DL {P:Program} {t:TypeId} (h:nX enc P (t::ts) w args ds):∃ v args' d gE base p,args=v::args'∧ds=d::gE∧nX enc P ts w args' gE∧Value.okWide P w .any base t v∧DataW.Trod enc P w 0 (fun _=>true) true t v d p∧(d.weights P t).all (·≤reachBytes)=true:=by
 obtain ⟨⟨base,mw⟩,⟨ps,hA⟩,dy⟩:=h;obtain ⟨v,vs,d,gE,p,q,rfl,rfl,rfl,hd,qJ⟩:=trodAll_cons hA;rw [DataW.weightsEach] at dy;obtain ⟨h1,h2⟩:=uK dy;exact ⟨v,vs,d,gE,base,p,rfl,rfl,⟨⟨base,fun j t' v' ht hv=>mw (j+1) t' v' ht hv⟩,⟨q,qJ⟩,h2⟩,mw 0 t v rfl rfl,hd,h1⟩
theorem akW {P:Program} (h:nX enc P [] w args ds):args=[]∧ds=[]:=by
 obtain ⟨_,⟨ps,hA⟩,_⟩:=h;obtain ⟨rfl,rfl,_⟩:=trodAll_nil hA;exact ⟨rfl,rfl⟩
theorem XS (h:nX enc Tryz.prog (3::ts) w args ds):∃ n args' d gE,args=I n::args'∧ds=d::gE∧nX enc Tryz.prog ts w args' gE:=by
 obtain ⟨v,args',d,gE,base,p,rfl,rfl,h',mw,hd,_⟩:=DL h;obtain ⟨n,rfl,_⟩:=open_int Tryz.underlying3 mw hd;exact ⟨n,args',d,gE,rfl,rfl,h'⟩
end
abbrev yT:List (String×DataW Unit):=[("math/bits.deBruijn32tab",Rows.laid_math_bits_deBruijn32tab),("math/bits.deBruijn64tab",Rows.laid_math_bits_deBruijn64tab),("internal/strconv.uint64pow10",Rows.laid_internal_strconv_uint64pow10)]
theorem akX (os:Os) (args:Array Value):laidMetH Tryz.prog yT ((World.laidAll Tryz.prog os yT).forCall (fun _ _=>0) ⟨#[],args,[]⟩).memory:=by
 rw [MakeChecks.laidMetH_plain _ _ _ (by kernel_rfl)];exact laidMet_laidAll _ (by kernel_rfl) (by kernel_rfl)
theorem akY {W:World} (h:laidMetH Tryz.prog yT W):oG W.heap.size W:=by
 have h1:=laidMetH.filter (fun x=>x.1 == "internal/strconv.uint64pow10") h;have e:yT.filter (fun x=>x.1 == "internal/strconv.uint64pow10")=[("internal/strconv.uint64pow10",Lib.tabData .u64 Lib.pow10Tab)]:=by kernel_rfl
 rw [e,MakeChecks.laidMetH_plain _ _ _ (by kernel_rfl)] at h1;have hg:Tryz.prog.globalNamed "internal/strconv.uint64pow10" = some 0:=by kernel_rfl
 have h2:=Lib.tabIs_of_head hg (t:=223) (n:=20) (e:=212) (by kernel_rfl) Tryz.underlying223 Tryz.underlying212 (by kernel_rfl) (by kernel_rfl) h1;refine ⟨0,hg,?_,Nat.le_refl _,h2⟩;unfold Lib.TabIs World.var? at h2;rw [hg] at h2;simp only [Option.bind_some] at h2;cases hh:W.heap[0]? with
 | none=>rw [hh] at h2;cases h2
 | some o=>exact lt_of_heap hh
end
section
open Go Go.W
structure Tl (M M':Mc):Prop where
 e:M.ended≠4→M'.ended≠4
 t:∃ l,M'.told=M.told++l
theorem Tl.refl (M:Mc):Tl M M:=⟨fun h=>h,[],(List.append_nil _).symm⟩
theorem Tl.trans {M M' wE:Mc} (h:Tl M M') (k:Tl M' wE):Tl M wE:=by
 obtain ⟨e1,l1,t1⟩:=h;obtain ⟨e2,l2,t2⟩:=k;exact ⟨fun h=>e2 (e1 h),l1++l2,by rw [t2,t1,List.append_assoc]⟩
theorem fY {M M':Mc} (h:M'.ended=M.ended) (k:M'.told=M.told):Tl M M':=⟨fun e=>by rw [h];exact e,[],by rw [k,List.append_nil]⟩
theorem jf {M M':Mc} (h:M'.ended=3) (k:M'.told=M.told):Tl M M':=⟨fun e=>by rw [h];decide,[],by rw [k,List.append_nil]⟩
theorem tl5 {M M':Mc} (h:M'.ended=5) (k:M'.told=M.told):Tl M M':=⟨fun e=>by rw [h];decide,[],by rw [k,List.append_nil]⟩
theorem A9 (M:Mc) (k:Int):Tl M (M.room k).2:=by
 unfold Mc.room
 split
 ·exact Tl.refl M
 ·split
  ·exact tl5 rfl rfl
  ·exact fY rfl rfl
theorem akZ (M:Mc):Tl M M.tell:=by
 unfold Mc.tell
 split
 ·refine ⟨fun h=>?_,_,rfl⟩;show (if _ then (2:Int) else M.ended)≠4
  split
  ·decide
  ·exact h
 ·exact fY rfl rfl
theorem XT (M:Mc) (x:Ins):Tl M (M.exec x):=by
 have ha:Tl M (M.arith x):=by
  unfold Mc.arith
  split
  ·(first | exact fY rfl rfl | exact jf rfl rfl)
  split<;>first | exact fY rfl rfl | exact jf rfl rfl
 have hj:∀ p q b,Tl M (M.ju p q b):=by
  intro p q b;unfold Mc.ju
  split
  ·(first | exact fY rfl rfl | exact jf rfl rfl)
  split<;>first | exact fY rfl rfl | exact jf rfl rfl
 by_cases e1:x.op=1
 ·rw [Ga e1];(first | exact fY rfl rfl | exact jf rfl rfl)
 by_cases e2:x.op=2
 ·rw [Gb e2];(first | exact fY rfl rfl | exact jf rfl rfl)
 by_cases e3:x.op=3
 ·rw [Gc e3];(first | exact fY rfl rfl | exact jf rfl rfl)
 by_cases e4:x.op=4
 ·rw [Gd e4];(first | exact fY rfl rfl | exact jf rfl rfl)
 by_cases e5:x.op=5
 ·rw [Ge e5];(first | exact fY rfl rfl | exact jf rfl rfl)
 by_cases e6:x.op=6
 ·rw [Gf e6];(first | exact fY rfl rfl | exact jf rfl rfl)
 by_cases e7:x.op=7
 ·rw [Gg e7];(first | exact fY rfl rfl | exact jf rfl rfl)
 by_cases e8:x.op=8
 ·rw [Gh e8];(first | exact fY rfl rfl | exact jf rfl rfl)
 by_cases e9:x.op=9
 ·rw [Gi e9];(first | exact fY rfl rfl | exact jf rfl rfl)
 by_cases wF:x.op=10
 ·rw [Gj wF];split<;>first | exact fY rfl rfl | exact jf rfl rfl
 by_cases wG:x.op=11
 ·rw [Gk wG];split<;>first | exact fY rfl rfl | exact jf rfl rfl
 by_cases wH:x.op=12
 ·rw [Gm wH];exact ha
 by_cases wI:x.op=13
 ·rw [Gn wI];(first | exact fY rfl rfl | exact jf rfl rfl)
 by_cases wJ:x.op=14
 ·rw [Gp wJ];exact hj _ _ _
 by_cases wK:x.op=15
 ·rw [Gq wK];exact hj _ _ _
 by_cases wL:x.op=16
 ·rw [Gr wL];(first | exact fY rfl rfl | exact jf rfl rfl)
 unfold Mc.exec;rw [if_neg e1,if_neg e2,if_neg e3,if_neg e4,if_neg e5,if_neg e6,if_neg e7,if_neg e8,if_neg e9,if_neg wF,if_neg wG,if_neg wH,if_neg wI,if_neg wJ,if_neg wK,if_neg wL]
 (first | exact fY rfl rfl | exact jf rfl rfl)
theorem ak0 (M:Mc):Tl M M.run:=by
 unfold Mc.run
 split
 ·exact A9 _ _
 split
 ·exact (A9 _ _).trans ((show Tl (M.room (cellsOf M.dA)).2 (M.room (cellsOf M.dA)).2.next from (fY rfl rfl)).trans (XT _ _))
 ·exact (show Tl M M.next from (fY rfl rfl)).trans (XT _ _)
theorem XU (M:Mc):Tl M M.work:=by
 have hl:Tl M M.nw:=by
  unfold Mc.nw
  split
  ·(first | exact fY rfl rfl | exact jf rfl rfl)
  split
  ·(first | exact fY rfl rfl | exact jf rfl rfl)
  split
  ·exact (A9 _ _).trans (fY rfl rfl)
  ·exact A9 _ _
 have hr:∀ f k,Tl M (M.read f k):=by
  intro f k;unfold Mc.read
  split
  ·(first | exact fY rfl rfl | exact jf rfl rfl)
  split
  ·exact (A9 _ _).trans (fY rfl rfl)
  ·exact A9 _ _
 unfold Mc.work
 split
 ·exact akZ M
 split
 ·exact ak0 M
 ·unfold Mc.unwind Mc.call
  repeat' split
  all_goals first | exact hl | exact hr _ _ | (first | exact fY rfl rfl | exact jf rfl rfl)
theorem ak1 (M:Mc):Tl M M.tidy:=by
 unfold Mc.tidy
 split
 ·exact fY rfl rfl
 ·(first | exact fY rfl rfl | exact jf rfl rfl)
theorem ak2 (M:Mc):Tl M M.step:=by
 unfold Mc.step
 split
 ·exact Tl.refl M
 split
 ·exact XU M
 ·exact (XU M).trans ((show Tl M.work { M.work with steps:=M.work.steps+1} from fY rfl rfl).trans (ak1 _))
theorem XV (M:Mc) (k:Nat):Tl M (M.cC k):=by
 induction k with
 | zero=>exact Tl.refl M
 | succ k ih=>exact ih.trans (ak2 _)
end
section
open Go Go.W
theorem Hl (M:Mc) (k:Nat):∀ m,M.cC (k+m)=(M.cC k).cC m
 | 0=>rfl
 | m+1=>by
  show (M.cC (k+m)).step=_;rw [Hl M k m];rfl
theorem XW {M:Mc} (h:M.ended≠0):∀ m,M.cC m=M
 | 0=>rfl
 | m+1=>by
  show (M.cC m).step=M;rw [XW h m];unfold Mc.step;rw [if_pos h]
theorem ak3 {M:Mc} (h0:M.steps=0) (he:M.ended≠4) (k m:Nat) :
   (nL (M.cC k)≠4→M.cC (k+m)=M.cC k) ∧
   (nL (M.cC k)=4→(M.cC k).steps=(k:Int)∧(M.cC k).steps≤(M.cC (k+m)).steps∧∃ l,(M.cC (k+m)).told=(M.cC k).told++l):=by
 refine ⟨fun h=>?_,fun h=>?_⟩
 ·have hk:(M.cC k).ended≠0:=fun e=>h (by unfold nL;rw [if_pos e])
  rw [Hl,XW hk]
 ·have hk:(M.cC k).ended=0:=by
   unfold nL at h
   split at h
   ·assumption
   ·exact absurd h ((XV M k).e he)
  have h1:=(Oq M k).2.2 hk;rw [h0] at h1;refine ⟨by omega,?_,?_⟩
  ·rw [Hl];exact (Oq (M.cC k) m).1
  ·rw [Hl];exact (XV (M.cC k) m).t
theorem ak4 {T:bl} {entry:ByteArray} {input:List Int} {heap every:Int} {bj:Bool}:(fO T entry input heap bj every).ended≠4:=by
 unfold fO iR
 split
 ·show (0:Int)≠4;decide
 ·show (5:Int)≠4;decide
end
section
open Go Go.W
def df (T:bl) (x:Ins):Bool:=match dQ x.op with
 | none=>false
 | some (a,b)=>(decide (a=8)||cJ T x.a a)&&(decide (b=8)||cJ T x.b b)
def jB (x:Ins):Bool:=decide (x.op=13∨x.op=14∨x.op=15)
def dp (x:Ins):Int:=if x.op=13 then x.a else if x.op=14∨x.op=15 then x.b else -1
theorem XX (n:Int):n=1∨n=2∨n=3∨n=4∨n=5∨n=6∨n=7∨n=8∨n=9∨n=10∨n=11∨n=12∨n=13∨n=14∨n=15∨n=16∨n=17∨(n < 1∨n≥18):=by omega
theorem ak5 {T:bl} {len i:Nat} {x:Ins}:fh T len i x=0↔df T x=true∧¬ (jB x=true∧(dp x≤i∨dp x≥len)):=by
 have lP:∀ b:Bool,(if b=true then (0:Int) else 172)=0↔b=true:=fun b=>by cases b<;>simp
 have lQ:∀ b:Bool,(if b=true then (0:Int) else 172)=172↔b=false:=fun b=>by cases b<;>simp
 have lS:∀ p:Prop,[Decidable p]→((if p then (174:Int) else 0)=0↔¬ p):=fun p _=>by split<;>simp [*]
 have lU:∀ p:Prop,[Decidable p]→((if p then (174:Int) else 0)=172↔False):=fun p _=>by split<;>simp [*]
 rcases XX x.op with e | e | e | e | e | e | e | e | e | e | e | e | e | e | e | e | e | e
 ·unfold fh df jB dp eO;simp only [dQ,e];simp (config:={ decide:=true}) only [lP,lQ,lS,lU,if_true,if_false,ite_true,ite_false,Bool.or_eq_true,Bool.and_eq_true,decide_true,decide_false,decide_eq_true_eq,Bool.false_eq_true,true_or,false_or,or_false,or_true,true_and,and_true,false_and,and_false,not_false_eq_true,not_true_eq_false];generalize cJ T x.a 1=p;generalize cJ T x.b 0=q;cases p<;>cases q<;>simp
 ·unfold fh df jB dp eO;simp only [dQ,e];simp (config:={ decide:=true}) only [lP,lQ,lS,lU,if_true,if_false,ite_true,ite_false,Bool.or_eq_true,Bool.and_eq_true,decide_true,decide_false,decide_eq_true_eq,Bool.false_eq_true,true_or,false_or,or_false,or_true,true_and,and_true,false_and,and_false,not_false_eq_true,not_true_eq_false];generalize cJ T x.a 4=p;generalize cJ T x.b 0=q;cases p<;>cases q<;>simp
 ·unfold fh df jB dp eO;simp only [dQ,e];simp (config:={ decide:=true}) only [lP,lQ,lS,lU,if_true,if_false,ite_true,ite_false,Bool.or_eq_true,Bool.and_eq_true,decide_true,decide_false,decide_eq_true_eq,Bool.false_eq_true,true_or,false_or,or_false,or_true,true_and,and_true,false_and,and_false,not_false_eq_true,not_true_eq_false];generalize cJ T x.a 3=p;generalize cJ T x.b 0=q;cases p<;>cases q<;>simp
 ·unfold fh df jB dp eO;simp only [dQ,e];simp (config:={ decide:=true}) only [lP,lQ,lS,lU,if_true,if_false,ite_true,ite_false,Bool.or_eq_true,Bool.and_eq_true,decide_true,decide_false,decide_eq_true_eq,Bool.false_eq_true,true_or,false_or,or_false,or_true,true_and,and_true,false_and,and_false,not_false_eq_true,not_true_eq_false];generalize cJ T x.a 1=p;generalize cJ T x.b 0=q;cases p<;>cases q<;>simp
 ·unfold fh df jB dp eO;simp only [dQ,e];simp (config:={ decide:=true}) only [lP,lQ,lS,lU,if_true,if_false,ite_true,ite_false,Bool.or_eq_true,Bool.and_eq_true,decide_true,decide_false,decide_eq_true_eq,Bool.false_eq_true,true_or,false_or,or_false,or_true,true_and,and_true,false_and,and_false,not_false_eq_true,not_true_eq_false];generalize cJ T x.a 1=p;generalize cJ T x.b 0=q;cases p<;>cases q<;>simp
 ·unfold fh df jB dp eO;simp only [dQ,e];simp (config:={ decide:=true}) only [lP,lQ,lS,lU,if_true,if_false,ite_true,ite_false,Bool.or_eq_true,Bool.and_eq_true,decide_true,decide_false,decide_eq_true_eq,Bool.false_eq_true,true_or,false_or,or_false,or_true,true_and,and_true,false_and,and_false,not_false_eq_true,not_true_eq_false];generalize cJ T x.a 0=p;generalize cJ T x.b 0=q;cases p<;>cases q<;>simp
 ·unfold fh df jB dp eO;simp only [dQ,e];simp (config:={ decide:=true}) only [lP,lQ,lS,lU,if_true,if_false,ite_true,ite_false,Bool.or_eq_true,Bool.and_eq_true,decide_true,decide_false,decide_eq_true_eq,Bool.false_eq_true,true_or,false_or,or_false,or_true,true_and,and_true,false_and,and_false,not_false_eq_true,not_true_eq_false];generalize cJ T x.a 2=p;generalize cJ T x.b 0=q;cases p<;>cases q<;>simp
 ·unfold fh df jB dp eO;simp only [dQ,e];simp (config:={ decide:=true}) only [lP,lQ,lS,lU,if_true,if_false,ite_true,ite_false,Bool.or_eq_true,Bool.and_eq_true,decide_true,decide_false,decide_eq_true_eq,Bool.false_eq_true,true_or,false_or,or_false,or_true,true_and,and_true,false_and,and_false,not_false_eq_true,not_true_eq_false];generalize cJ T x.a 1=p;generalize cJ T x.b 0=q;cases p<;>cases q<;>simp
 ·unfold fh df jB dp eO;simp only [dQ,e];simp (config:={ decide:=true}) only [lP,lQ,lS,lU,if_true,if_false,ite_true,ite_false,Bool.or_eq_true,Bool.and_eq_true,decide_true,decide_false,decide_eq_true_eq,Bool.false_eq_true,true_or,false_or,or_false,or_true,true_and,and_true,false_and,and_false,not_false_eq_true,not_true_eq_false];generalize cJ T x.a 5=p;generalize cJ T x.b 0=q;cases p<;>cases q<;>simp
 ·unfold fh df jB dp eO;simp only [dQ,e];simp (config:={ decide:=true}) only [lP,lQ,lS,lU,if_true,if_false,ite_true,ite_false,Bool.or_eq_true,Bool.and_eq_true,decide_true,decide_false,decide_eq_true_eq,Bool.false_eq_true,true_or,false_or,or_false,or_true,true_and,and_true,false_and,and_false,not_false_eq_true,not_true_eq_false];generalize cJ T x.a 5=p;generalize cJ T x.b 0=q;cases p<;>cases q<;>simp
 ·unfold fh df jB dp eO;simp only [dQ,e];simp (config:={ decide:=true}) only [lP,lQ,lS,lU,if_true,if_false,ite_true,ite_false,Bool.or_eq_true,Bool.and_eq_true,decide_true,decide_false,decide_eq_true_eq,Bool.false_eq_true,true_or,false_or,or_false,or_true,true_and,and_true,false_and,and_false,not_false_eq_true,not_true_eq_false];generalize cJ T x.a 0=p;generalize cJ T x.b 0=q;cases p<;>cases q<;>simp
 ·unfold fh df jB dp eO;simp only [dQ,e];simp (config:={ decide:=true}) only [lP,lQ,lS,lU,if_true,if_false,ite_true,ite_false,Bool.or_eq_true,Bool.and_eq_true,decide_true,decide_false,decide_eq_true_eq,Bool.false_eq_true,true_or,false_or,or_false,or_true,true_and,and_true,false_and,and_false,not_false_eq_true,not_true_eq_false];generalize cJ T x.a 6=p;generalize cJ T x.b 0=q;cases p<;>cases q<;>simp
 ·unfold fh df jB dp eO;simp only [dQ,e];simp (config:={ decide:=true}) only [lP,lQ,lS,lU,if_true,if_false,ite_true,ite_false,Bool.or_eq_true,Bool.and_eq_true,decide_true,decide_false,decide_eq_true_eq,Bool.false_eq_true,true_or,false_or,or_false,or_true,true_and,and_true,false_and,and_false,not_false_eq_true,not_true_eq_false];generalize cJ T x.b 0=q;cases q<;>simp<;>omega
 ·unfold fh df jB dp eO;simp only [dQ,e];simp (config:={ decide:=true}) only [lP,lQ,lS,lU,if_true,if_false,ite_true,ite_false,Bool.or_eq_true,Bool.and_eq_true,decide_true,decide_false,decide_eq_true_eq,Bool.false_eq_true,true_or,false_or,or_false,or_true,true_and,and_true,false_and,and_false,not_false_eq_true,not_true_eq_false];generalize cJ T x.a 5=p;cases p<;>simp<;>omega
 ·unfold fh df jB dp eO;simp only [dQ,e];simp (config:={ decide:=true}) only [lP,lQ,lS,lU,if_true,if_false,ite_true,ite_false,Bool.or_eq_true,Bool.and_eq_true,decide_true,decide_false,decide_eq_true_eq,Bool.false_eq_true,true_or,false_or,or_false,or_true,true_and,and_true,false_and,and_false,not_false_eq_true,not_true_eq_false];generalize cJ T x.a 3=p;cases p<;>simp<;>omega
 ·unfold fh df jB dp eO;simp only [dQ,e];simp (config:={ decide:=true}) only [lP,lQ,lS,lU,if_true,if_false,ite_true,ite_false,Bool.or_eq_true,Bool.and_eq_true,decide_true,decide_false,decide_eq_true_eq,Bool.false_eq_true,true_or,false_or,or_false,or_true,true_and,and_true,false_and,and_false,not_false_eq_true,not_true_eq_false];generalize cJ T x.a 7=p;generalize cJ T x.b 0=q;cases p<;>cases q<;>simp
 ·unfold fh df jB dp eO;simp only [dQ,e];simp (config:={ decide:=true}) only [lP,lQ,lS,lU,if_true,if_false,ite_true,ite_false,Bool.or_eq_true,Bool.and_eq_true,decide_true,decide_false,decide_eq_true_eq,Bool.false_eq_true,true_or,false_or,or_false,or_true,true_and,and_true,false_and,and_false,not_false_eq_true,not_true_eq_false];generalize cJ T x.a 0=p;generalize cJ T x.b 0=q;cases p<;>cases q<;>simp
 ·unfold fh df;rw [Mp e];simp
end
end Go.Proofs.YtnjobkbblhaliaaGreatDoor