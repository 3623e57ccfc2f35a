/- Texts that the last file stands on: T11, D6, T12, T13, T14, T15, T16, P2, D7, T17, T18, T19, P3, P4, P5, T20, T21, T22, T23, T24, T25, T26, D8. -/
import Derived.Test.YtjfgeekjjlhbdaaGreatDoorZGB
set_option linter.unusedSimpArgs false
set_option linter.unusedVariables false
set_option maxRecDepth 100000
section
namespace Go.W
open Go
section
variable {P:Program} {N:Nat} {Q:pb} {Ds:List Nat} {ρ:Env} {w:World} {next:List Nat→Env→World→Prop} {i j:Nat} {rs:List RV} {R:Value→World→Prop}
@[go_sem] theorem ajq {x:IR}:jT P N (.ir x) Q Ds ρ w=cH P N x (fun e ρ w=>Q e Ds ρ w) ρ w:=rfl
@[go_sem] theorem ajr {a b:K}:jT P N (.seq a b) Q Ds ρ w=jT P N a (BM (fun Ds ρ w=>jT P N b Q Ds ρ w) Q) Ds ρ w:=rfl
@[go_sem] theorem ajs {a:K}:jT P N (.iW i a) Q Ds ρ w=jT P N a (zE i Q) Ds ρ w:=rfl
@[go_sem] theorem ajt:BM next Q .normal Ds ρ w=next Ds ρ w:=rfl
@[go_sem] theorem aju:BM next Q .ret Ds ρ w=Q .ret Ds ρ w:=rfl
@[go_sem] theorem ajv:BM next Q (.exit i) Ds ρ w=Q (.exit i) Ds ρ w:=rfl
@[go_sem] theorem ajw:zE j Q .normal Ds ρ w=Q .normal Ds ρ w:=rfl
@[go_sem] theorem ajx:zE j Q .ret Ds ρ w=Q .ret Ds ρ w:=rfl
@[go_sem] theorem ajy:zE j Q (.exit i) Ds ρ w=if i=j then Q .normal Ds ρ w else Q (.exit i) Ds ρ w:=rfl
theorem abE {e:Exit} (he:e = .normal∨e = .ret) (h:∀ w',Mod (fun _=>False) w w'→∃ vs,aE w' ρ rs=some vs∧R (aF vs) w'):HD rs R e [] ρ w:=
 ⟨he,(fun D h=>by cases h),List.nodup_nil,fun w' hm _=>h w' (hm.aU (fun b hb=>by cases hb))⟩
theorem abF {e:Exit} {D:Nat} (he:e = .normal∨e = .ret) (hD:w.heap[D]? = some (.deferred (some []))) (h:∀ w',Mod (· = D) w w'→∃ vs,aE w' ρ rs=some vs∧R (aF vs) w'):HD rs R e [D] ρ w:=
 ⟨he,(fun D' h=>by obtain rfl:=List.mem_singleton.1 h;exact hD),List.nodup_cons.2 ⟨(by simp),List.nodup_nil⟩,fun w' hm _=>h w' (hm.aU (fun b hb=>List.mem_singleton.1 hb))⟩
end
end Go.W
namespace Go.Proofs.YtjfgeekjjlhbdaaGreatDoor
open Go Go.W
theorem abG {w:World} {m:Nat} {l:List (ByteArray×Value)} (h:lR w m l):∃ es PM,w.heap[m]? = some (.map es PM)∧es.size=l.length:=by
 obtain ⟨es,c,h1,h2,_⟩:=h;have:=congrArg List.length h2;simp only [List.length_map,Array.length_toList] at this;exact ⟨es,c,h1,this⟩
theorem PN {B m:Nat} {W W':World} (h:Mod (· = m) W W') (hm:m < B):KeepsFrom B W W':=
 ⟨h.size,fun k o hB hk _=>h.at hk (by omega)⟩
theorem abH {m:Nat} {W W':World} {l:List (ByteArray×Value)} (h:Mod (· = m) W W') (hm:lR W m l):kz W W':=
 ⟨h.size,fun b o hb hc=>h.at hb (fun e=>by
  subst e;obtain ⟨es,c,h1,_⟩:=hm
  rw [h1] at hb;cases hb;cases hc)⟩
theorem abI {w:World} {cs:List Value}:a8 Tryz.prog 96 [.agg cs.toArray] w fun r w'=>r = .func (.func 104) #[] #[ptr w.heap.size]∧w'.heap[w.heap.size]? = some (.cells cs.toArray dV (0,0))∧Mod (fun _=>False) w w':=by
 refine aan.calls rfl ?_;unfold I7;(try simp only [go_sem,simprocAttr]);refine bD rfl ?_;intro w1 ar aj _;(try simp only [go_sem,simprocAttr]);exact ⟨ar,aj⟩
theorem abJ (t:Ty) {w:World} {B:Nat→Prop} {cs:List Value} (h:aW w B cs t) (hB:∀ b,B b→b < w.heap.size) :
   a8 Tryz.prog 83 [.agg cs.toArray] w fun r w'=>(∃ a,Ju a∧r = .tuple #[a,I (nF t)])∧Mod (fun _=>False) w w':=by
 refine abv.calls rfl ?_;unfold PK;(try simp only [go_sem,simprocAttr]);refine bD rfl ?_;intro w1 ar aj bC;(try simp only [go_sem,simprocAttr]);refine cM ?_;intro w2 au ai bK;have ar:=ai.at ar _root_.id;have aY:=aj.trans ai;(try simp only [go_sem,simprocAttr,az (n:=3) (cs:=cs) ar h.len]);refine aI (by rfl) ?_;refine (abd t (h.mod aY aC)).mono ?_;rintro _ w3 ⟨rfl,aq⟩;have ar:=aq.at ar _root_.id;have au:=aq.at au _root_.id;have bn:=aY.trans aq;(try simp only [go_sem,simprocAttr]);cases hw:nF t != 0 with
 | true=>
  (try simp only [go_sem,simprocAttr]);refine bL (cs:=[I 0,.string bI,.slice none 0 0]) (vs:=[I 0,.string bI,.slice none 0 0]) rfl rfl au rfl rfl (aS rfl (aS rfl (aS rfl dE))) ?_;intro w4 ba aA eG;(try simp only [go_sem,simprocAttr]);refine abE (.inr rfl) ?_;intro w5 aD;(try simp only [go_sem,simprocAttr,aE,RV.ev,az (n:=3) (aD.at ba _root_.id) rfl,aF]);exact ⟨⟨_,⟨_,rfl,rfl,aS rfl (aS rfl (aS rfl dE))⟩,rfl⟩,(bn.step aA (fun x hx hl=>by omega)).trans aD⟩
 | false=>
  have Em:nF t=0:=by simpa using hw
  (try simp only [go_sem,simprocAttr]);refine Ox ?_;intro w4 oe aA eG;(try simp only [go_sem,simprocAttr]);refine cM ?_;intro w5 bG aD eN;(try simp only [go_sem,simprocAttr]);refine iY rfl rfl bG rfl (by simp) ?_;intro w6 ci aJ gN;have JC:Mod (fun _=>False) w3 w6:=(aA.trans aD).step aJ (fun x hx hl=>by omega);have oe:=tT (tT oe aD _root_.id) aJ (by omega);have ar:=JC.at ar _root_.id;have au:=JC.at au _root_.id;(try simp only [go_sem,simprocAttr,az (n:=3) (cs:=cs) ar h.len]);refine aI (by rfl) ?_;refine (abI (cs:=cs)).mono ?_;rintro _ w7 ⟨rfl,dq,aN⟩;have h37:=JC.trans aN;have En:=bn.trans h37;have oe:=tT oe aN _root_.id;have ar:=aN.at ar _root_.id;have au:=aN.at au _root_.id;have ci:=aN.at ci _root_.id;have ht:=h.mod En aC;have hv:t.sI≤500:=by
   unfold nF at Em
   split at Em
   ·omega
   ·split at Em
    ·omega
    ·have:=(PF t).2 (by omega);omega
  have z2:=ai.size;have z3:=aq.size;have z7:=aN.size;have JD:w3.heap.size < w7.heap.size:=by omega
  have oA:w4.heap.size < w7.heap.size:=by omega
  (try simp only [go_sem,simprocAttr]);refine ⟨1,500,104,#[ptr w6.heap.size],kz,fun xs W=>JA w7 127 w4.heap.size w3.heap.size xs.length W,⟨rfl,fun _ _=>rfl,abD ht (fun b hb=>by have:=hB b hb;have:=En.size;omega) dq hv,rfl,by decide,fun h k=>h.trans k,?_,⟨⟨.refl _ _,ci,_,oe,by simp,by simp⟩,fun s=>abC JD oA,?_⟩⟩,?_⟩
  ·intro W l o o' hl hW ho _;exact ⟨by simp,fun b o2 hb hc=>by rw [World.putObj_heap_other (fun e=>by subst e;rw [hW] at hb;cases hb;rw [ho] at hc;cases hc)];exact hb⟩
  ·intro pre x W hi ajz;obtain ⟨l,hl,ha,hn⟩:=hi.map;have fQ:=hi.box;unfold PJ;(try simp only [go_sem,simprocAttr,cell_of fQ]);refine Hp (k:=x) (kt:=9) (et:=dV) rfl rfl rfl rfl (Tryz.zeroValue42 _) hl ?_;have fin:∀ W',Mod (fun _=>False) W W'→KeepsFrom w7.heap.size W W'∧kz W W'∧JA w7 127 w4.heap.size w3.heap.size (pre++[x]).length W':=fun W' hm=>
    ⟨PN (m:=w3.heap.size) (hm.aU (fun _ h=>h.elim)) JD,.Ej hm,hi.mod.step hm (fun _ h=>h.elim),hm.at fQ _root_.id,l,tT hl hm _root_.id,ha,by simp;omega⟩
   have st:∃ cu:List Value,(lS l x).getD (.agg #[.int .i64 0,.string ⟨#[]⟩,.slice none 0 0]) = .agg cu.toArray∧cu.length=3∧∀ u∈cu,u.oneCell'=true:=by
    cases hg:lS l x with
    | none=>exact ⟨[I 0,.string bI,.slice none 0 0],rfl,rfl,aS rfl (aS rfl (aS rfl dE))⟩
    | some u=>
     obtain ⟨p,hp,rfl⟩:=PC hg;obtain ⟨cu,tu,e,tN⟩:=(ha p hp).ty W B;exact ⟨cu,e,tN.len,tN.one⟩
   obtain ⟨cu,hcu,cA,ig⟩:=st;(try simp only [go_sem,simprocAttr,hcu]);refine dp (n:=3) (vs:=cu) rfl cA ig ?_;intro W1 _ ug _;cases hg:(lS l x).isSome with
   | true=>(try simp only [go_sem,simprocAttr]);exact fin _ ug
   | false=>
    have PO:=ug.at fQ _root_.id;have oB:=tT hl ug _root_.id;have abK:lR W1.drew w3.heap.size l:=oB;obtain ⟨es,PM,xV,cZ⟩:=abG oB;(try simp only [go_sem,simprocAttr,cell_of PO,xV,cZ]);refine aI (by rfl) ?_;refine (abz l.length (by omega)).mono ?_;rintro _ _ ⟨⟨s,rfl⟩,rfl⟩;(try simp only [go_sem,simprocAttr]);refine Oz (k:=x) (kt:=9) (et:=dV) rfl rfl rfl rfl rfl abK ?_;intro W2 fJ xW vI;have PQ:Mod (· = w3.heap.size) W1 W2:=xW.eF;have JE:Mod (· = w3.heap.size) W W2:=(ug.aU (fun _ h=>h.elim)).trans PQ;(try simp only [go_sem,simprocAttr]);refine ⟨PN JE JD,abH JE hl,hi.mod.trans JE,PQ.at PO (by omega),_,fJ,abB ha ⟨s,rfl⟩,?_⟩;have:=abA l x (.agg #[.int .i64 2,.string s,.slice none 0 0]);simp only [List.length_append,List.length_cons,List.length_nil];omega
  ·intro D xs W hD hi Eo;obtain ⟨l,hl,ha,hn⟩:=hi.map;have BS:=hi.mod;have ar:=BS.at ar (by omega);have au:=BS.at au (by omega);have hB7:∀ b,B b→¬ (b=w3.heap.size):=fun b hb=>by have:=hB b hb;have:=bn.size;omega
   (try simp only [go_sem,simprocAttr,az (n:=3) (cs:=cs) ar h.len,cell_of hi.box]);refine aI (by rfl) ?_;refine (abf t (ht.mod BS hB7) hl ha).mono ?_;rintro _ W1 ⟨⟨ca,rfl,cA,ig⟩,ug⟩;have au:=ug.at au _root_.id;(try simp only [go_sem,simprocAttr]);refine bL (cs:=[I 0,.string bI,.slice none 0 0]) rfl rfl au cA rfl ig ?_;intro W2 hB2 xW vI;(try simp only [go_sem,simprocAttr]);have hsW:=BS.size;have cZ:=ug.size;have zD:=cO Eo;refine abF (.inr rfl) (xW.at (ug.at Eo _root_.id) (by omega)) ?_;intro W3 sJ;(try simp only [go_sem,simprocAttr,aE,RV.ev,az (n:=3) (sJ.at hB2 (by omega)) cA,aF,Em]);refine ⟨⟨_,⟨ca,rfl,cA,ig⟩,rfl⟩,?_⟩;have h0W:Mod (fun _=>False) w W:=En.step BS (fun i hi hl=>by have:=bn.size;omega);exact ((h0W.trans ug).step xW (fun x hx hl=>by omega)).step sJ (fun x hx hl=>by have:=En.size;omega)
theorem JF (t:Ty) {w:World} {B:Nat→Prop} {cs:List Value} (h:aW w B cs t) (hB:∀ b,B b→b < w.heap.size) :
   a8 Tryz.prog 60 [.agg cs.toArray] w fun r w'=>r = .bool (nF t == 0)∧Mod (fun _=>False) w w':=by
 refine ZB.calls rfl ?_;unfold Iv;(try simp only [go_sem,simprocAttr]);refine bD rfl ?_;intro w1 ar aj bC;(try simp only [go_sem,simprocAttr,az (n:=3) (cs:=cs) ar h.len]);refine aI (by rfl) ?_;refine (abJ t (h.mod aj aC) (fun b hb=>by have:=hB b hb;omega)).mono ?_;rintro _ w2 ⟨⟨_,⟨ca,rfl,cA,ig⟩,rfl⟩,ai⟩;(try simp only [go_sem,simprocAttr]);refine dp (n:=3) (vs:=ca) rfl cA ig ?_;intro w3 aM aq eV;(try simp only [go_sem,simprocAttr]);exact aj.trans (ai.trans aq)
def abL (s:ByteArray):Ty:=.mk 2 s []
def abM (s:ByteArray):Ty:=.mk 4 s []
theorem oC (w:World) (B:Nat→Prop) (k:Int) (s:ByteArray):aW w B [I k,.string s,.slice none 0 0] (.mk k s []):=by
 obtain ⟨rows,h1,h2,h3⟩:=ej w 3 B (aW w B);exact .mk (args:=[]) h1 h2 h3
def qV (s:ByteArray):Bool:=nF (abL s) == 0
def zP (s:ByteArray):Bool:=nF (abM s) == 0
theorem PR (s:ByteArray) {w:World}:a8 Tryz.prog 45 [.string s] w fun r w'=>r = .bool (qV s)∧Mod (fun _=>False) w w':=by
 refine Zg.calls rfl ?_;unfold Ih;(try simp only [go_sem,simprocAttr]);refine aI (by rfl) ?_;refine (JF _ (oC w (fun _=>False) 2 s) (fun _ h=>h.elim)).mono ?_;rintro _ w1 ⟨rfl,aj⟩;(try simp only [go_sem,simprocAttr]);exact ⟨rfl,aj⟩
theorem abN (s:ByteArray) {w:World}:a8 Tryz.prog 78 [.string s] w fun r w'=>r = .bool (zP s)∧Mod (fun _=>False) w w':=by
 refine Z1.calls rfl ?_;unfold IN;(try simp only [go_sem,simprocAttr]);refine aI (by rfl) ?_;refine (JF _ (oC w (fun _=>False) 4 s) (fun _ h=>h.elim)).mono ?_;rintro _ w1 ⟨rfl,aj⟩;(try simp only [go_sem,simprocAttr]);exact ⟨rfl,aj⟩
end Go.Proofs.YtjfgeekjjlhbdaaGreatDoor
end
namespace Go.Proofs.YtjfgeekjjlhbdaaGreatDoor
section
open Go Go.W
abbrev Out (S:Nat→Prop) (w:World):Nat→Prop:=fun b=>b < w.heap.size∧¬ S b
section
variable {w w':World} {B B' S S':Nat→Prop} {cs:List Value} {α:Type} {v:Value} {sz:Nat} {P P':List Value→α→Prop} {l:List α}
theorem ov.up {rows:List (List Value)} (h:ov w v sz rows B) (hm:Mod S w w') (hd:∀ b,B b→¬ S b) (hB:∀ b,B b→B' b):ov w' v sz rows B':=⟨h.1.mod hm hd hB,h.2⟩
theorem aT.up (h:aT w v sz B P l) (hm:Mod S w w') (hd:∀ b,B b→¬ S b) (hB:∀ b,B b→B' b) (hp:∀ r a,P r a→P' r a):aT w' v sz B' P' l:=by
 obtain ⟨rows,h1,h2,h3⟩:=h;exact ⟨rows,h1.up hm hd hB,h2,fun i r a hr ha=>hp _ _ (h3 i r a hr ha)⟩
theorem aW.up {t:Ty} (h:aW w B cs t) (hm:Mod S w w') (hd:∀ b,B b→¬ S b) (hB:∀ b,B b→B' b):aW w' B' cs t:=by
 induction h with
 | mk hr hl he ih=>exact .mk (hr.up hm hd hB) hl (fun i r t a b=>ih i r t a b)
theorem bE.up {e:Ex} (h:bE w B cs e) (hm:Mod S w w') (hd:∀ b,B b→¬ S b) (hB:∀ b,B b→B' b):bE w' B' cs e:=by
 induction h with
 | mk ht nB hH ha tV BJ hb sD ow BK hl lV bU hle jQ o8 tS o9=>
  refine .mk (ht.up hm hd hB) nB (fun i r t a b=>(hH i r t a b).up hm hd hB) (ha.up hm hd hB) tV o8 (hb.up hm hd hB) sD (fun i r b x y=>?_) tS (hl.up hm hd hB) lV (fun i r a x y=>?_) o9 jQ
  ·obtain ⟨h1,h2,h3⟩:=ow i r b x y;exact ⟨h1,h2,h3.up hm hd hB⟩
  ·obtain ⟨vv,h1,h2,h3⟩:=bU i r a x y;exact ⟨vv,h1,h2,h3.up hm hd hB (fun _ _ h=>h)⟩
theorem eL.up {k:Cn} (h:eL w B cs k) (hm:Mod S w w') (hd:∀ b,B b→¬ S b) (hB:∀ b,B b→B' b):eL w' B' cs k:=by
 obtain ⟨vf,e,h,hn⟩:=h;exact ⟨vf,e,h.up hm hd hB (fun _ _ h=>h.up hm hd hB),hn⟩
theorem gC.up {d:Dt} (h:gC w B cs d) (hm:Mod S w w') (hd:∀ b,B b→¬ S b) (hB:∀ b,B b→B' b):gC w' B' cs d:=by
 obtain ⟨vp,vc,e,h1,h2⟩:=h;exact ⟨vp,vc,e,h1.up hm hd hB (fun _ _ h=>h),h2.up hm hd hB (fun _ _ h=>h.up hm hd hB)⟩
theorem ic.up {d:Df} (h:ic w B cs d) (hm:Mod S w w') (hd:∀ b,B b→¬ S b) (hB:∀ b,B b→B' b):ic w' B' cs d:=by
 obtain ⟨vp,tc,bc,e,l1,l2,h1,h2,h3,hn⟩:=h;exact ⟨vp,tc,bc,e,l1,l2,h1.up hm hd hB (fun _ _ h=>h),h2.up hm hd hB,h3.up hm hd hB,hn⟩
theorem jR.up {p:Pg} (h:jR w B cs p) (hm:Mod S w w') (hd:∀ b,B b→¬ S b) (hB:∀ b,B b→B' b):jR w' B' cs p:=by
 obtain ⟨vd,vf,e,h1,h2⟩:=h;exact ⟨vd,vf,e,h1.up hm hd hB (fun _ _ h=>h.up hm hd hB),h2.up hm hd hB (fun _ _ h=>h.up hm hd hB)⟩
theorem aK:∀ b,Out S w b→¬ S b:=fun _ h=>h.2
theorem aX (hm:Mod S w w'):∀ b,Out S w b→Out S w' b:=fun b h=>⟨Nat.lt_of_lt_of_le h.1 hm.size,h.2⟩
theorem aW.aB {t:Ty} (h:aW w (Out S w) cs t) (hm:Mod S w w'):aW w' (Out S w') cs t:=h.up hm aK (aX hm)
theorem bE.aB {e:Ex} (h:bE w (Out S w) cs e) (hm:Mod S w w'):bE w' (Out S w') cs e:=h.up hm aK (aX hm)
theorem eH (hm:Mod S w w') (hs:∀ b,b < w.heap.size→S' b→S b):∀ b,Out S w b→Out S' w' b:=fun b h=>⟨Nat.lt_of_lt_of_le h.1 hm.size,fun hh=>h.2 (hs b h.1 hh)⟩
theorem aW.ext {t:Ty} (h:aW w (Out S w) cs t) (hm:Mod S w w') (hs:∀ b,b < w.heap.size→S' b→S b):aW w' (Out S' w') cs t:=h.up hm aK (eH hm hs)
theorem bE.ext {e:Ex} (h:bE w (Out S w) cs e) (hm:Mod S w w') (hs:∀ b,b < w.heap.size→S' b→S b):bE w' (Out S' w') cs e:=h.up hm aK (eH hm hs)
theorem aW.sub {t:Ty} (h:aW w (Out S' w) cs t) (hs:∀ b,S b→S' b):aW w (Out S w) cs t:=h.up (.refl (fun _=>False) w) aC (fun b h=>⟨h.1,fun hh=>h.2 (hs b hh)⟩)
theorem an (h:Mod (fun _=>False) w w'):Mod S w w':=h.aU (fun _ h=>h.elim)
theorem xX {t:List Ty} (h:aT w v 3 (Out S w) (aW w (Out S w)) t) (hm:Mod S w w'):aT w' v 3 (Out S w') (aW w' (Out S w')) t:=h.up hm aK (aX hm) (fun _ _ h=>h.aB hm)
end
section
variable {α:Type}
def aG (l:List (ByteArray×α)) (k:ByteArray):Option α:=(l.find? (fun p=>decide (p.1=k))).map (·.2)
def bO (l:List (ByteArray×α)) (k:ByteArray) (v:α):List (ByteArray×α):=match l.findIdx? (fun p=>decide (p.1=k)) with
 | some i=>l.set i (k,v)
 | none=>l++[(k,v)]
def gO (l:List (ByteArray×α)) (k:ByteArray):List (ByteArray×α):=match l.findIdx? (fun p=>decide (p.1=k)) with
 | some i=>l.eraseIdx i
 | none=>l
inductive gE (R:Value→α→Prop):List (ByteArray×Value)→List (ByteArray×α)→Prop
 | nil:gE R [] []
 | cons {k:ByteArray} {v:Value} {a:α} {lv:List (ByteArray×Value)} {l:List (ByteArray×α)} (h:R v a) (t:gE R lv l):gE R ((k,v)::lv) ((k,a)::l)
variable {R R':Value→α→Prop} {lv:List (ByteArray×Value)} {l:List (ByteArray×α)}
theorem gE.imp (h:gE R lv l) (hr:∀ v a,R v a→R' v a):gE R' lv l:=by
 induction h with
 | nil=>exact .nil
 | cons h _ ih=>exact .cons (hr _ _ h) ih
theorem gE.idx (h:gE R lv l) (k:ByteArray):lv.findIdx? (fun p=>decide (p.1=k))=l.findIdx? (fun p=>decide (p.1=k)):=by
 induction h with
 | nil=>rfl
 | cons _ _ ih=>rw [List.findIdx?_cons,List.findIdx?_cons,ih]
theorem gE.get (h:gE R lv l) (k:ByteArray):(lS lv k=none∧aG l k=none)∨∃ v a,lS lv k=some v∧aG l k=some a∧R v a:=by
 unfold lS aG
 induction h with
 | nil=>exact .inl ⟨rfl,rfl⟩
 | @cons k' v a _ _ h _ ih=>
  rw [List.find?_cons,List.find?_cons];by_cases e:k'=k
  ·simp only [e,decide_true];exact .inr ⟨v,a,rfl,rfl,h⟩
  ·simp only [e,decide_false];exact ih
theorem gE.set (h:gE R lv l):∀ (i:Nat) (k:ByteArray) (v:Value) (a:α),R v a→gE R (lv.set i (k,v)) (l.set i (k,a)):=by
 induction h with
 | nil=>intro i k v a _;exact .nil
 | cons h t ih=>
  intro i k v a hr;cases i with
  | zero=>exact .cons hr t
  | succ i=>exact .cons h (ih i k v a hr)
theorem gE.app {PS:List (ByteArray×Value)} {l2:List (ByteArray×α)} (h:gE R lv l) (h2:gE R PS l2):gE R (lv++PS) (l++l2):=by
 induction h with
 | nil=>exact h2
 | cons h _ ih=>exact .cons h ih
theorem gE.erase (h:gE R lv l):∀ (i:Nat),gE R (lv.eraseIdx i) (l.eraseIdx i):=by
 induction h with
 | nil=>intro i;exact .nil
 | cons h t ih=>
  intro i;cases i with
  | zero=>exact t
  | succ i=>exact .cons h (ih i)
theorem gE.put (h:gE R lv l) (k:ByteArray) {v:Value} {a:α} (hr:R v a):gE R (tU lv k v) (bO l k a):=by
 unfold tU bO;rw [h.idx];cases l.findIdx? (fun p=>decide (p.1=k)) with
 | some i=>exact h.set _ _ _ _ hr
 | none=>exact h.app (.cons hr .nil)
theorem gE.del (h:gE R lv l) (k:ByteArray):gE R (BG lv k) (gO l k):=by
 unfold BG gO;rw [h.idx];cases l.findIdx? (fun p=>decide (p.1=k)) with
 | some i=>exact h.erase _
 | none=>exact h
def cE (w:World) (b:Nat) (R:Value→α→Prop) (l:List (ByteArray×α)):Prop:=∃ lv,lR w b lv∧gE R lv l
theorem cE.mod {w w':World} {b:Nat} {S:Nat→Prop} (h:cE w b R l) (hm:Mod S w w') (hb:¬ S b) (hr:∀ v a,R v a→R' v a):cE w' b R' l:=by
 obtain ⟨lv,h1,h2⟩:=h;exact ⟨lv,tT h1 hm hb,h2.imp hr⟩
end
end
section
open Go Go.W
open Classical in
noncomputable def gg (a b:Ty):Bool:=decide (a=b)
theorem oD (a b:ByteArray):aQ a b=decide (a=b):=Hr a b
theorem abO {a b:Ty} (h1:a.kind=b.kind) (h2:a.name=b.name) (h3:a.args=b.args):a=b:=by
 cases a;cases b;simp only [Ty.kind,Ty.name,Ty.args] at h1 h2 h3;subst h1 h2 h3;rfl
theorem abP:Fn 48:=⟨_,rfl,rfl,rfl⟩
open Classical in
theorem abQ {la lb:List Ty} (ih:∀ u∈la,∀ {w:World} {B B':Nat→Prop} {cs ds:List Value} {t:Ty},aW w B cs u→aW w B' ds t→a8 Tryz.prog 48 [.agg cs.toArray,.agg ds.toArray] w fun r w'=>r = .bool (gg u t)∧Mod (fun _=>False) w w')
   {w:World} {B B':Nat→Prop} {va vb:Value} (ha:aT w va 3 B (aW w B) la) (hb:aT w vb 3 B' (aW w B') lb) :
   a8 Tryz.prog 71 [va,vb,.func (.func 48) #[] #[]] w fun r w'=>r = .bool (decide (la=lb))∧Mod (fun _=>False) w w':=by
 obtain ⟨fn,eK,gL,jr⟩:=abP.ok;obtain ⟨aa,ca,rfl⟩:=a7 ha;obtain ⟨ab,cb,rfl⟩:=a7 hb;refine ZU.calls rfl ?_;unfold IG;(try simp only [go_sem,simprocAttr]);cases bo:((la.length:Int) != lb.length) with
 | true=>
  (try simp only [go_sem,simprocAttr]);refine ⟨congrArg _ (Eq.symm (decide_eq_false (fun e=>?_))),.refl _ _⟩;subst e;simp at bo
 | false=>
  have hlen:la.length=lb.length:=by simpa [Int.ofNat_inj] using bo
  (try simp only [go_sem,simprocAttr]);refine fe la.length (fun k ρ w'=>Mod (fun _=>False) w w'∧k≤la.length∧(∀ i,∀ h:i < la.length,i < k→la[i]=lb[i]'(by omega))∧ρ=[(1,.slice ab lb.length cb),(2,.func (.func 48) #[] #[]),(15,.slice aa la.length ca),(16,I la.length),(17,I k)]) ⟨.refl _ _,by omega,fun i _ hi=>absurd hi (by omega),rfl⟩ (dB ha) ?_ ?_ (by decide) ?_
  ·rintro k _ w2 ⟨ai,hk,_,rfl⟩;exact ⟨rfl,rfl,hk⟩
  ·rintro k _ w2 ⟨ai,_,mK,rfl⟩ hk;obtain ⟨ad,c1,r,e,hr,bT,bU,_⟩:=eh (ha.mod ai aC (fun _ _ h=>h.mod ai aC)) hk;cases e;have kZ:k < lb.length:=by omega
   have b1:(0:Int)≤k∧(k:Int) < la.length:=by omega
   have b2:(0:Int)≤k∧(k:Int) < lb.length:=by omega
   (try simp only [go_sem,simprocAttr,bq,br,b1,bU]);refine cM ?_;intro w3 aM aq eV;(try simp only [go_sem,simprocAttr]);refine bL (cs:=[I 0,.string bI,.slice none 0 0]) rfl rfl aM bT rfl hr.one ?_;intro w4 ba aA eG;have oE:Mod (fun _=>False) w2 w4:=aq.step aA (fun x hx hl=>by omega);obtain ⟨kA,c2,r2,e2,oF,PT,xY,_⟩:=eh ((hb.mod ai aC (fun _ _ h=>h.mod ai aC)).mod oE aC (fun _ _ h=>h.mod oE aC)) kZ;cases e2;(try simp only [go_sem,simprocAttr,bq,br,b2,xY]);refine dp (n:=3) (vs:=r2) rfl PT oF.one ?_;intro w5 bG aD eN;(try simp only [go_sem,simprocAttr,az (n:=3) bG PT,az (n:=3) (aD.at ba _root_.id) bT]);refine xA rfl (by rfl) eK gL jr ?_;have xZ:=oE.trans aD;refine (ih _ (List.getElem_mem hk) (hr.mod xZ aC) (oF.mod aD aC)).mono ?_;rintro _ w6 ⟨rfl,aJ⟩;have qW:=ai.trans (xZ.trans aJ);by_cases he:la[k]=lb[k]
   ·have:gg la[k] lb[k]=true:=decide_eq_true he;rw [this];(try simp only [go_sem,simprocAttr]);refine ⟨qW,hk,fun i hi hik=>?_⟩;rcases Nat.lt_or_ge i k with h1 | h1
    ·exact mK i hi h1
    ·have:i=k:=by omega
     subst this;exact he
   ·have:gg la[k] lb[k]=false:=decide_eq_false he;rw [this];(try simp only [go_sem,simprocAttr]);refine ⟨congrArg _ (Eq.symm (decide_eq_false (fun e=>?_))),qW⟩;subst e;exact he rfl
  ·rintro _ w2 ⟨ai,_,mK,rfl⟩;(try simp only [go_sem,simprocAttr]);exact ⟨congrArg _ (Eq.symm (decide_eq_true (List.ext_getElem hlen (fun i h1 h2=>mK i h1 h1)))),ai⟩
open Classical in
theorem Ep (a:Ty):∀ {w:World} {B B':Nat→Prop} {cs ds:List Value} {t:Ty},aW w B cs a→aW w B' ds t→a8 Tryz.prog 48 [.agg cs.toArray,.agg ds.toArray] w fun r w'=>r = .bool (gg a t)∧Mod (fun _=>False) w w':=by
 induction a using Ty.ind with
 | h a ih=>
 intro w B B' cs ds t ha ht;obtain ⟨va,rfl,PU⟩:=ha.cells;obtain ⟨vt,rfl,aP⟩:=ht.cells;refine Zj.calls rfl ?_;unfold Ik;(try simp only [go_sem,simprocAttr]);refine bD rfl ?_;intro w1 ar aj bC;(try simp only [go_sem,simprocAttr]);refine bD rfl ?_;intro w2 au ai bK;have ar:=ai.at ar _root_.id;have hm:=aj.trans ai;(try simp only [go_sem,simprocAttr,cell_of ar,cell_of au,Value.cells]);have bad:¬ (a=t)→Value.bool false=Value.bool (gg a t):=fun h=>congrArg _ (Eq.symm (decide_eq_false h))
 cases h1:a.kind == t.kind with
 | false=>(try simp only [go_sem,simprocAttr]);exact ⟨bad (fun e=>by subst e;simp at h1),hm⟩
 | true=>
  (try simp only [go_sem,simprocAttr,cell_of ar,cell_of au,Value.cells]);cases h2:a.name.toList == t.name.toList with
  | false=>(try simp only [go_sem,simprocAttr]);exact ⟨bad (fun e=>by subst e;simp at h2),hm⟩
  | true=>
   (try simp only [go_sem,simprocAttr,cell_of ar,cell_of au,Value.cells]);refine aI (by rfl) ?_;refine (abQ ih (PU.mod hm aC (fun _ _ h=>h.mod hm aC)) (aP.mod hm aC (fun _ _ h=>h.mod hm aC))).mono ?_;rintro _ w3 ⟨rfl,aq⟩;(try simp only [go_sem,simprocAttr]);refine ⟨?_,hm.trans aq⟩;refine congrArg _ ?_;have jZ:a.kind=t.kind:=by simpa using h1
   have iX:a.name=t.name:=by rw [Hr] at h2;simpa using h2
   unfold gg;by_cases h3:a.args=t.args
   ·rw [decide_eq_true h3,decide_eq_true (abO jZ iX h3)]
   ·rw [decide_eq_false h3,decide_eq_false (fun e=>h3 (by rw [e]))]
end
section
open Go Go.W
abbrev cJ:List Value:=[I 0,.string bI,.slice none 0 0]
theorem vJ:∀ u∈cJ,u.oneCell'=true:=aS rfl (aS rfl (aS rfl dE))
abbrev fR (k:Int) (s:ByteArray):List Value:=[I k,.string s,.slice none 0 0]
theorem oG (k:Int) (s:ByteArray):∀ u∈fR k s,u.oneCell'=true:=aS rfl (aS rfl (aS rfl dE))
theorem PV {w:World}:a8 Tryz.prog 63 [] w fun r w'=>r = .agg (fR 1 bI).toArray∧Mod (fun _=>False) w w':=by
 refine ZF.calls rfl ?_;unfold Iy;(try simp only [go_sem,simprocAttr]);refine cM ?_;intro w1 ar aj bC;(try simp only [go_sem,simprocAttr]);refine bL (vs:=fR 1 bI) (cs:=cJ) rfl rfl ar rfl rfl (oG _ _) ?_;intro w2 au ai bK;(try simp only [go_sem,simprocAttr,aE,RV.ev,az (n:=3) au rfl,aF]);exact aj.step ai (fun x hx hl=>by omega)
theorem Er (s:ByteArray) {w:World}:a8 Tryz.prog 76 [.string s] w fun r w'=>r = .agg (fR 2 s).toArray∧Mod (fun _=>False) w w':=by
 refine ZZ.calls rfl ?_;unfold IL;(try simp only [go_sem,simprocAttr]);refine cM ?_;intro w1 ar aj bC;(try simp only [go_sem,simprocAttr]);refine bL (vs:=fR 2 s) (cs:=cJ) rfl rfl ar rfl rfl (oG _ _) ?_;intro w2 au ai bK;(try simp only [go_sem,simprocAttr,aE,RV.ev,az (n:=3) au rfl,aF]);exact aj.step ai (fun x hx hl=>by omega)
theorem JG (s:ByteArray) {v:Value} (hv:v.oneCell'=true) (vK:One v) {w:World}:a8 Tryz.prog 77 [.string s,v] w fun r w'=>r = .agg [I 4,.string s,v].toArray∧Mod (fun _=>False) w w':=by
 refine Z0.calls rfl ?_;unfold IM;(try simp only [go_sem,simprocAttr]);refine cM ?_;intro w1 ar aj bC;(try simp only [go_sem,simprocAttr,eq_true vK]);refine bL (vs:=[I 4,.string s,v]) (cs:=cJ) rfl rfl ar rfl rfl (aS rfl (aS rfl (aS hv dE))) ?_;intro w2 au ai bK;(try simp only [go_sem,simprocAttr,aE,RV.ev,az (n:=3) au rfl,aF]);exact aj.step ai (fun x hx hl=>by omega)
def kB (a b:Ty):Ty:=.mk 3 bI [a,b]
theorem abR {w:World} {S:Nat→Prop} {b T c:Nat} {ca cb:List Value} {x y:Ty} (hb:w.heap[b]? = some (.cells (ca++cb).toArray T (0,0))) (hS:¬ S b) (ha:aW w (Out S w) ca x) (ey:aW w (Out S w) cb y) (k:Int) (s:ByteArray) :
   aW w (Out S w) [I k,.string s,.slice (some ⟨b,0,none⟩) 2 c] (.mk k s [x,y]):=by
 have la:=ha.len;have lb:=ey.len;refine .mk (rows:=[ca,cb]) ⟨⟨_,c,rfl,fun _ ad e=>by cases e;exact ⟨cO hb,hS⟩,fun i hi=>⟨_,rfl,?_,?_⟩⟩,by simp⟩ rfl ?_
 ·match i,hi with
  | 0,_=>exact la
  | 1,_=>exact lb
 ·intro k hk;rw [oo,oo,cell_of hb]
  match i,hi with
  | 0,_=>
   simp only [List.getElem_cons_zero] at hk ⊢;simp only [Nat.zero_mul,Nat.zero_add,List.getElem?_toArray];rw [List.getElem?_append_left hk,List.getElem?_eq_getElem hk]
  | 1,_=>
   simp only [List.getElem_cons_succ,List.getElem_cons_zero] at hk ⊢;simp only [Nat.one_mul,Nat.zero_add,List.getElem?_toArray];rw [List.getElem?_append_right (by omega),la,Nat.add_sub_cancel_left,List.getElem?_eq_getElem hk]
 ·intro i r t hr ht
  match i with
  | 0=>simp only [List.getElem?_cons_zero,Option.some.injEq] at hr ht;subst hr ht;exact ha
  | 1=>simp only [List.getElem?_cons_succ,List.getElem?_cons_zero,Option.some.injEq] at hr ht;subst hr ht;exact ey
  | i+2=>simp at hr
theorem PW {x y:Ty} {ca cb:List Value} {S:Nat→Prop} {w:World} (hS:∀ b,S b→b < w.heap.size) (ha:aW w (Out S w) ca x) (hb:aW w (Out S w) cb y) :
   a8 Tryz.prog 87 [.agg ca.toArray,.agg cb.toArray] w fun r w'=>(∃ cs,r = .agg (cs:List Value).toArray∧aW w' (Out S w') cs (kB x y))∧Mod (fun _=>False) w w':=by
 refine Z9.calls rfl ?_;unfold IX;have la:=ha.len;have lb:=hb.len;(try simp only [go_sem,simprocAttr]);refine bD rfl ?_;intro w1 ar aj bC;(try simp only [go_sem,simprocAttr]);refine bD rfl ?_;intro w2 au ai bK;(try simp only [go_sem,simprocAttr]);refine cM ?_;intro w3 aM aq eV;have ar:=(ai.trans aq).at ar _root_.id;have au:=aq.at au _root_.id;(try simp only [go_sem,simprocAttr,az (n:=3) (cs:=ca) ar la,az (n:=3) (cs:=cb) au lb]);refine fA (cs:=(ca++cb).toArray) rfl ?_ ?_
 ·(try simp only [go_sem,simprocAttr,la,lb])
  match ca,la,cb,lb with
  | [a1,a2,a3],_,[b1,b2,b3],_=>rfl
 intro w4 ba aA eG;have aM:=aA.at aM _root_.id;(try simp only [go_sem,simprocAttr]);refine bL (vs:=[I 3,.string bI,.slice (some ⟨w3.heap.size,0,none⟩) 2 2]) (cs:=cJ) rfl rfl aM rfl rfl (aS rfl (aS rfl (aS rfl dE))) ?_;intro w5 bG aD eN;(try simp only [go_sem,simprocAttr,aE,RV.ev,az (n:=3) bG rfl,aF]);have fg:Mod (fun _=>False) w w5:=(aj.trans (ai.trans (aq.trans aA))).step aD (fun x hx hl=>by omega);refine ⟨⟨_,rfl,abR (aD.at ba (by omega)) (fun h=>by have:=hS _ h;omega) (ha.aB (an fg)) (hb.aB (an fg)) 3 bI⟩,fg⟩
def uh (s:ByteArray):Bool:=aQ s ⟨#[43]⟩||aQ s ⟨#[45]⟩||aQ s ⟨#[42]⟩||aQ s ⟨#[47]⟩||aQ s ⟨#[37]⟩
def sK (s:ByteArray):Bool:=aQ s ⟨#[61,61]⟩||aQ s ⟨#[47,61]⟩||aQ s ⟨#[60]⟩||aQ s ⟨#[60,61]⟩||aQ s ⟨#[62]⟩||aQ s ⟨#[62,61]⟩
abbrev iR:ByteArray:=⟨#[66,111,111,108]⟩
def fS (s:ByteArray):Option Ty:=if uh s then some (.mk 1 bI []) else if sK s then some (.mk 4 iR []) else none
def ui (s:ByteArray):List Value:=match fS s with | some t=>fR t.kind t.name | none=>cJ
theorem PX (s:ByteArray) {w:World}:a8 Tryz.prog 85 [.string s] w fun r w'=>r = .tuple #[.agg (ui s).toArray,.bool (fS s).isSome]∧Mod (fun _=>False) w w':=by
 refine Z7.calls rfl ?_;unfold IV;(try simp only [go_sem,simprocAttr]);refine cM ?_;intro w1 ar aj bC;(try simp only [go_sem,simprocAttr]);refine BB (fun ρ w'=>w1=w'∧ρ.get 2=some (ptr w.heap.size)∧ρ.get 4=some (.string s)∧ρ.get 5=some (.bool (uh s))) ?_ ?_
 ·skip
  cases h1:s.toList == ByteArray.toList ⟨#[43]⟩ with
  | true=>(try simp only [go_sem,simprocAttr,uh,aQ,h1,Bool.false_or,Bool.true_or])
  | false=>
   (try simp only [go_sem,simprocAttr]);cases h2:s.toList == ByteArray.toList ⟨#[45]⟩ with
   | true=>(try simp only [go_sem,simprocAttr,uh,aQ,h1,h2,Bool.false_or,Bool.true_or])
   | false=>
    (try simp only [go_sem,simprocAttr]);cases h3:s.toList == ByteArray.toList ⟨#[42]⟩ with
    | true=>(try simp only [go_sem,simprocAttr,uh,aQ,h1,h2,h3,Bool.false_or,Bool.true_or])
    | false=>
     (try simp only [go_sem,simprocAttr]);cases h4:s.toList == ByteArray.toList ⟨#[47]⟩ with
     | true=>(try simp only [go_sem,simprocAttr,uh,aQ,h1,h2,h3,h4,Bool.false_or,Bool.true_or])
     | false=>
      (try simp only [go_sem,simprocAttr]);(try simp only [go_sem,simprocAttr,uh,aQ,h1,h2,h3,h4,Bool.false_or])
 rintro ρ _ ⟨rfl,g2,g4,g5⟩;cases ha:uh s with
 | true=>
  rw [ha] at g5;have ho:fS s=some (.mk 1 bI []):=by rw [fS,if_pos ha]
  (try simp only [go_sem,simprocAttr,g2,g4,g5]);refine aI (by rfl) ?_;refine PV.mono ?_;rintro _ w2 ⟨rfl,ai⟩;(try simp only [go_sem,simprocAttr,g2,g4]);refine bL (vs:=fR 1 bI) (cs:=cJ) g2 rfl (ai.at ar _root_.id) rfl rfl (oG _ _) ?_;intro w3 aM aq eV;(try simp only [go_sem,simprocAttr,aE,RV.ev,az (n:=3) aM rfl,aF]);rw [ui,ho];exact ⟨rfl,(aj.trans ai).step aq (fun x hx hl=>by omega)⟩
 | false=>
  rw [ha] at g5;(try simp only [go_sem,simprocAttr,g2,g4,g5]);refine BB (fun ρ w'=>w1=w'∧ρ.get 2=some (ptr w.heap.size)∧ρ.get 12=some (.bool (sK s))) ?_ ?_
  ·skip
   cases h1:s.toList == ByteArray.toList ⟨#[61,61]⟩ with
   | true=>(try simp only [go_sem,simprocAttr,g2,sK,aQ,h1,Bool.false_or,Bool.true_or])
   | false=>
    (try simp only [go_sem,simprocAttr,g2,g4]);cases h2:s.toList == ByteArray.toList ⟨#[47,61]⟩ with
    | true=>(try simp only [go_sem,simprocAttr,g2,sK,aQ,h1,h2,Bool.false_or,Bool.true_or])
    | false=>
     (try simp only [go_sem,simprocAttr,g2,g4]);cases h3:s.toList == ByteArray.toList ⟨#[60]⟩ with
     | true=>(try simp only [go_sem,simprocAttr,g2,sK,aQ,h1,h2,h3,Bool.false_or,Bool.true_or])
     | false=>
      (try simp only [go_sem,simprocAttr,g2,g4]);cases h4:s.toList == ByteArray.toList ⟨#[60,61]⟩ with
      | true=>(try simp only [go_sem,simprocAttr,g2,sK,aQ,h1,h2,h3,h4,Bool.false_or,Bool.true_or])
      | false=>
       (try simp only [go_sem,simprocAttr,g2,g4]);cases h5:s.toList == ByteArray.toList ⟨#[62]⟩ with
       | true=>(try simp only [go_sem,simprocAttr,g2,sK,aQ,h1,h2,h3,h4,h5,Bool.false_or,Bool.true_or])
       | false=>
        (try simp only [go_sem,simprocAttr,g2,g4]);(try simp only [go_sem,simprocAttr,g2,sK,aQ,h1,h2,h3,h4,h5,Bool.false_or])
  rintro ρ _ ⟨rfl,g2,g12⟩;cases hc:sK s with
  | true=>
   rw [hc] at g12;have ho:fS s=some (.mk 4 iR []):=by rw [fS,if_neg (by rw [ha];simp),if_pos hc]
   (try simp only [go_sem,simprocAttr,g2,g12]);refine aI (by rfl) ?_;refine (JG iR (v:=.slice none 0 0) rfl rfl).mono ?_;rintro _ w2 ⟨rfl,ai⟩;(try simp only [go_sem,simprocAttr,g2]);refine bL (vs:=fR 4 iR) (cs:=cJ) g2 rfl (ai.at ar _root_.id) rfl rfl (oG _ _) ?_;intro w3 aM aq eV;(try simp only [go_sem,simprocAttr,aE,RV.ev,az (n:=3) aM rfl,aF]);rw [ui,ho];exact ⟨rfl,(aj.trans ai).step aq (fun x hx hl=>by omega)⟩
  | false=>
   rw [hc] at g12;have hn:fS s=none:=by rw [fS,if_neg (by rw [ha];simp),if_neg (by rw [hc];simp)]
   (try simp only [go_sem,simprocAttr,g2,g12]);refine bL (vs:=cJ) (cs:=cJ) g2 rfl ar rfl rfl vJ ?_;intro w2 au ai bK;(try simp only [go_sem,simprocAttr,aE,RV.ev,az (n:=3) au rfl,aF]);rw [ui,hn];exact ⟨rfl,aj.step ai (fun x hx hl=>by omega)⟩
end
section
open Go Go.W
theorem add_pos (a:Addr) {n:Nat} (h:n≠0):a.add n=⟨a.block,a.off+n,none⟩:=by unfold Addr.add;rw [if_neg (by simpa using h)]
def vL (e:Ex):Bool:=e.kind == 0&&(aQ e.name bI&&((e.num == 0)&&(Wr (Wr (Wr (e.types.length+e.args.length)+e.binds.length)+e.alts.length) == 0)))
theorem abS (e:Ex) {w:World} {B:Nat→Prop} {cs:List Value} (h:bE w B cs e):a8 Tryz.prog 84 [.agg cs.toArray] w fun r w'=>r = .bool (vL e)∧Mod (fun _=>False) w w':=by
 obtain ⟨vt,va,vb,vl,rfl,ht,ha,hb,hl⟩:=h.parts;obtain ⟨at',ct,rfl⟩:=a7 ht;obtain ⟨aa,ca,rfl⟩:=a7 ha;obtain ⟨ab,cb,rfl⟩:=a7 hb;obtain ⟨al,cl,rfl⟩:=a7 hl;refine Z6.calls rfl ?_;unfold IU;(try simp only [go_sem,simprocAttr]);refine bD rfl ?_;intro w1 ar aj bC;(try simp only [go_sem,simprocAttr,cell_of ar,Value.cells]);cases h1:e.kind == 0 with
 | false=>(try simp only [go_sem,simprocAttr,vL,h1,Bool.false_and]);exact aj
 | true=>
  (try simp only [go_sem,simprocAttr,cell_of ar,Value.cells]);cases h2:e.name.toList == ByteArray.toList ⟨#[]⟩ with
  | false=>(try simp only [go_sem,simprocAttr,vL,aQ,h1,h2,Bool.false_and]);exact aj
  | true=>
   (try simp only [go_sem,simprocAttr,cell_of ar,Value.cells]);cases h3:e.num == 0 with
   | false=>(try simp only [go_sem,simprocAttr,vL,aQ,h1,h2,h3,Bool.false_and]);exact aj
   | true=>
    (try simp only [go_sem,simprocAttr,cell_of ar,Value.cells,vL,aQ,h1,h2,h3]);exact aj
def eO (e:Ex) (a b c d:Int):Bool:=(e.types.length:Int) == a&&((e.args.length:Int) == b&&((e.binds.length:Int) == c&&((e.alts.length:Int) == d)))
def gx (k:Int):Bool:=k == 1||(k == 3||k == 4)||k == 9
def gh (k:Int):Bool:=k == 2||k == 12
def gi (e:Ex):Bool:=
 if e.kind == 1 then eO e 0 0 0 0
 else if e.kind == 2 then (eO e 0 0 0 0&&decide (e.num ≥ -4611686018427387904))&&decide (e.num≤4611686018427387903)
 else if (e.kind == 3||e.kind == 4) then eO e e.types.length 0 0 0
 else if (e.kind == 5||e.kind == 10) then eO e 0 2 0 0
 else if e.kind == 6 then eO e 0 1 1 0&&(match e.binds with | b::_=>vL b.value | []=>false)
 else if e.kind == 7 then eO e 0 1 e.binds.length 0&&decide ((e.binds.length:Int)≥1)
 else if e.kind == 8 then eO e 0 1 0 e.alts.length&&decide ((e.alts.length:Int)≥1)
 else if e.kind == 9 then eO e 0 2 0 0&&(fS e.name).isSome
 else if e.kind == 11 then eO e 0 1 1 0
 else if e.kind == 12 then (eO e 1 0 0 0&&decide (e.num≥1))&&decide (e.num≤4)
 else false
def j5 (e:Ex):Bool:=(gi e&&(gx e.kind||aQ e.name bI))&&(gh e.kind||e.num == 0)
theorem abT (e:Ex) {w:World} {B:Nat→Prop} {cs:List Value} (h:bE w B cs e):a8 Tryz.prog 62 [.agg cs.toArray] w fun r w'=>r = .bool (j5 e)∧Mod (fun _=>False) w w':=by
 obtain ⟨vt,va,vb,vl,rfl,ht,ha,hb,hl⟩:=h.parts;obtain ⟨at',ct,rfl⟩:=a7 ht;obtain ⟨aa,ca,rfl⟩:=a7 ha;obtain ⟨ab,cb,rfl⟩:=a7 hb;obtain ⟨al,cl,rfl⟩:=a7 hl;refine ZE.calls rfl ?_;unfold Ix;(try simp only [go_sem,simprocAttr]);refine bD rfl ?_;intro w1 ar aj bC;(try simp only [go_sem,simprocAttr,cell_of ar,Value.cells]);refine dp (n:=4) (vs:=[I e.types.length,I e.args.length,I e.binds.length,I e.alts.length]) rfl rfl (aS rfl (aS rfl (aS rfl (aS rfl dE)))) ?_;intro w2 au ai bK;have ar:=ai.at ar _root_.id;have hm:=aj.trans ai;(try simp only [go_sem,simprocAttr,cell_of ar,Value.cells]);refine vD (fun ρ w'=>Mod (fun _=>False) w2 w'∧ρ.get 1=some (ptr w.heap.size)∧ρ.get 4=some (.bool (gx e.kind))∧ρ.get 5=some (.bool (gh e.kind))∧ρ.get 6=some (.bool (gi e))) ?_ ?_
 ·have de:w2.drew.heap[w1.heap.size]? = _:=au;cases h1:e.kind == 1 with
  | true=>
   (try simp only [go_sem,simprocAttr,az (n:=4) au rfl,az (n:=4) de rfl,cell_of ar,cell_of au,Value.cells,b9]);have hk:e.kind=1:=by simpa using h1
   (try simp only [go_sem,simprocAttr,az (n:=4) au rfl,az (n:=4) de rfl,cell_of ar,cell_of au,Value.cells,b9]);exact ⟨Mod.drew (.refl _ _),congrArg _ (by rw [gx,hk];rfl),congrArg _ (by rw [gh,hk];rfl),congrArg _ (by unfold gi;rw [hk];rfl)⟩
  | false=>
   (try simp only [go_sem,simprocAttr,az (n:=4) au rfl,az (n:=4) de rfl,cell_of ar,cell_of au,Value.cells,b9]);cases h2:e.kind == 2 with
   | true=>
    (try simp only [go_sem,simprocAttr,az (n:=4) au rfl,az (n:=4) de rfl,cell_of ar,cell_of au,Value.cells,b9]);have hk:e.kind=2:=by simpa using h2
    (try simp only [go_sem,simprocAttr,az (n:=4) au rfl,az (n:=4) de rfl,cell_of ar,cell_of au,Value.cells,b9]);have ho:gi e=((eO e 0 0 0 0&&decide (e.num ≥ -4611686018427387904))&&decide (e.num≤4611686018427387903)):=by unfold gi;rw [hk];rfl
    unfold eO at ho;cases hc:((e.types.length:Int) == 0&&((e.args.length:Int) == 0&&((e.binds.length:Int) == 0&&((e.alts.length:Int) == 0)))) with
    | false=>rw [hc] at ho;(try simp only [go_sem,simprocAttr,az (n:=4) au rfl,az (n:=4) de rfl,cell_of ar,cell_of au,Value.cells,b9]);exact ⟨Mod.drew (.refl _ _),congrArg _ (by rw [gx,hk];rfl),congrArg _ (by rw [gh,hk];rfl),congrArg _ (by rw [ho];rfl)⟩
    | true=>
     rw [hc] at ho;(try simp only [go_sem,simprocAttr,az (n:=4) au rfl,az (n:=4) de rfl,cell_of ar,cell_of au,Value.cells,b9]);cases hd:decide (e.num ≥ -4611686018427387904) with
     | false=>rw [hd] at ho;(try simp only [go_sem,simprocAttr,az (n:=4) au rfl,az (n:=4) de rfl,cell_of ar,cell_of au,Value.cells,b9]);exact ⟨Mod.drew (.refl _ _),congrArg _ (by rw [gx,hk];rfl),congrArg _ (by rw [gh,hk];rfl),congrArg _ (by rw [ho];rfl)⟩
     | true=>rw [hd] at ho;(try simp only [go_sem,simprocAttr,az (n:=4) au rfl,az (n:=4) de rfl,cell_of ar,cell_of au,Value.cells,b9]);exact ⟨Mod.drew (.refl _ _),congrArg _ (by rw [gx,hk];rfl),congrArg _ (by rw [gh,hk];rfl),congrArg _ (by rw [ho];rfl)⟩
   | false=>
    (try simp only [go_sem,simprocAttr,az (n:=4) au rfl,az (n:=4) de rfl,cell_of ar,cell_of au,Value.cells,b9]);cases h3:e.kind == 3 with
    | true=>
     (try simp only [go_sem,simprocAttr,az (n:=4) au rfl,az (n:=4) de rfl,cell_of ar,cell_of au,Value.cells,b9]);have hk:e.kind=3:=by simpa using h3
     (try simp only [go_sem,simprocAttr,az (n:=4) au rfl,az (n:=4) de rfl,cell_of ar,cell_of au,Value.cells,b9]);exact ⟨Mod.drew (.refl _ _),congrArg _ (by rw [gx,hk];rfl),congrArg _ (by rw [gh,hk];rfl),congrArg _ (by unfold gi;rw [hk];rfl)⟩
    | false=>
     (try simp only [go_sem,simprocAttr,az (n:=4) au rfl,az (n:=4) de rfl,cell_of ar,cell_of au,Value.cells,b9]);cases h4:e.kind == 4 with
     | true=>
      (try simp only [go_sem,simprocAttr,az (n:=4) au rfl,az (n:=4) de rfl,cell_of ar,cell_of au,Value.cells,b9]);have hk:e.kind=4:=by simpa using h4
      (try simp only [go_sem,simprocAttr,az (n:=4) au rfl,az (n:=4) de rfl,cell_of ar,cell_of au,Value.cells,b9]);exact ⟨Mod.drew (.refl _ _),congrArg _ (by rw [gx,hk];rfl),congrArg _ (by rw [gh,hk];rfl),congrArg _ (by unfold gi;rw [hk];rfl)⟩
     | false=>
      (try simp only [go_sem,simprocAttr,az (n:=4) au rfl,az (n:=4) de rfl,cell_of ar,cell_of au,Value.cells,b9]);cases h5:e.kind == 5 with
      | true=>
       (try simp only [go_sem,simprocAttr,az (n:=4) au rfl,az (n:=4) de rfl,cell_of ar,cell_of au,Value.cells,b9]);have hk:e.kind=5:=by simpa using h5
       (try simp only [go_sem,simprocAttr,az (n:=4) au rfl,az (n:=4) de rfl,cell_of ar,cell_of au,Value.cells,b9]);exact ⟨.refl _ _,congrArg _ (by rw [gx,hk];rfl),congrArg _ (by rw [gh,hk];rfl),congrArg _ (by unfold gi;rw [hk];rfl)⟩
      | false=>
       (try simp only [go_sem,simprocAttr,az (n:=4) au rfl,az (n:=4) de rfl,cell_of ar,cell_of au,Value.cells,b9]);cases lf:e.kind == 10 with
       | true=>
        (try simp only [go_sem,simprocAttr,az (n:=4) au rfl,az (n:=4) de rfl,cell_of ar,cell_of au,Value.cells,b9]);have hk:e.kind=10:=by simpa using lf
        (try simp only [go_sem,simprocAttr,az (n:=4) au rfl,az (n:=4) de rfl,cell_of ar,cell_of au,Value.cells,b9]);exact ⟨.refl _ _,congrArg _ (by rw [gx,hk];rfl),congrArg _ (by rw [gh,hk];rfl),congrArg _ (by unfold gi;rw [hk];rfl)⟩
       | false=>
        (try simp only [go_sem,simprocAttr,az (n:=4) au rfl,az (n:=4) de rfl,cell_of ar,cell_of au,Value.cells,b9]);cases h6:e.kind == 6 with
        | true=>
         (try simp only [go_sem,simprocAttr,az (n:=4) au rfl,az (n:=4) de rfl,cell_of ar,cell_of au,Value.cells,b9]);have hk:e.kind=6:=by simpa using h6
         (try simp only [go_sem,simprocAttr,az (n:=4) au rfl,az (n:=4) de rfl,cell_of ar,cell_of au,Value.cells,b9]);have ho:gi e=(eO e 0 1 1 0&&(match e.binds with | b::_=>vL b.value | []=>false)):=by unfold gi;rw [hk];rfl
         unfold eO at ho;cases hc:((e.types.length:Int) == 0&&((e.args.length:Int) == 1&&((e.binds.length:Int) == 1&&((e.alts.length:Int) == 0)))) with
         | false=>rw [hc] at ho;(try simp only [go_sem,simprocAttr,az (n:=4) au rfl,az (n:=4) de rfl,cell_of ar,cell_of au,Value.cells,b9]);exact ⟨.refl _ _,congrArg _ (by rw [gx,hk];rfl),congrArg _ (by rw [gh,hk];rfl),congrArg _ (by rw [ho];rfl)⟩
         | true=>
          rw [hc] at ho;have hn:e.binds.length=1:=by simp only [Bool.and_eq_true,beq_iff_eq] at hc;omega
          have aP:0 < e.binds.length:=by omega
          obtain ⟨ad,cc,r,ee,⟨tc,ec,rfl,fT,eW,_⟩,bT,_,abU⟩:=eh (hb.mod hm aC (fun _ _ h=>h.mod hm aC)) aP;cases ee;have l1:=fT.len;have kC:=Pw abU (o:=4) (n:=7) (by simp [eW.len];omega);rw [List.drop_succ_cons,List.drop_left' l1,List.take_of_length_le (by rw [eW.len];omega),Nat.zero_mul,add_zero',add_pos _ (n:=4) (by decide)] at kC;have b1:(0:Int)≤0∧(0:Int) < e.binds.length:=by omega
          (try simp only [go_sem,simprocAttr,bq,br,az (n:=4) au rfl,az (n:=4) de rfl,cell_of ar,cell_of au,Value.cells,b9,b1,Nat.zero_mul,kC]);refine aI (by rfl) ?_;refine (abS _ eW).mono ?_;rintro _ w3 ⟨rfl,aq⟩;(try simp only [go_sem,simprocAttr,az (n:=4) au rfl,az (n:=4) de rfl,cell_of ar,cell_of au,Value.cells,b9]);exact ⟨aq,congrArg _ (by rw [gx,hk];rfl),congrArg _ (by rw [gh,hk];rfl),congrArg _ (by rw [ho];match e.binds,aP with | b::_,_=>rfl)⟩
        | false=>
         (try simp only [go_sem,simprocAttr,az (n:=4) au rfl,az (n:=4) de rfl,cell_of ar,cell_of au,Value.cells,b9]);cases h7:e.kind == 7 with
         | true=>
          (try simp only [go_sem,simprocAttr,az (n:=4) au rfl,az (n:=4) de rfl,cell_of ar,cell_of au,Value.cells,b9]);have hk:e.kind=7:=by simpa using h7
          (try simp only [go_sem,simprocAttr,az (n:=4) au rfl,az (n:=4) de rfl,cell_of ar,cell_of au,Value.cells,b9]);have ho:gi e=(eO e 0 1 e.binds.length 0&&decide ((e.binds.length:Int)≥1)):=by unfold gi;rw [hk];rfl
          unfold eO at ho;cases hc:((e.types.length:Int) == 0&&((e.args.length:Int) == 1&&((e.binds.length:Int) == e.binds.length&&((e.alts.length:Int) == 0)))) with
          | false=>rw [hc] at ho;(try simp only [go_sem,simprocAttr,az (n:=4) au rfl,az (n:=4) de rfl,cell_of ar,cell_of au,Value.cells,b9]);exact ⟨.refl _ _,congrArg _ (by rw [gx,hk];rfl),congrArg _ (by rw [gh,hk];rfl),congrArg _ (by rw [ho];rfl)⟩
          | true=>rw [hc] at ho;(try simp only [go_sem,simprocAttr,az (n:=4) au rfl,az (n:=4) de rfl,cell_of ar,cell_of au,Value.cells,b9]);exact ⟨.refl _ _,congrArg _ (by rw [gx,hk];rfl),congrArg _ (by rw [gh,hk];rfl),congrArg _ (by rw [ho];rfl)⟩
         | false=>
          (try simp only [go_sem,simprocAttr,az (n:=4) au rfl,az (n:=4) de rfl,cell_of ar,cell_of au,Value.cells,b9]);cases h8:e.kind == 8 with
          | true=>
           (try simp only [go_sem,simprocAttr,az (n:=4) au rfl,az (n:=4) de rfl,cell_of ar,cell_of au,Value.cells,b9]);have hk:e.kind=8:=by simpa using h8
           (try simp only [go_sem,simprocAttr,az (n:=4) au rfl,az (n:=4) de rfl,cell_of ar,cell_of au,Value.cells,b9]);have ho:gi e=(eO e 0 1 0 e.alts.length&&decide ((e.alts.length:Int)≥1)):=by unfold gi;rw [hk];rfl
           unfold eO at ho;cases hc:((e.types.length:Int) == 0&&((e.args.length:Int) == 1&&((e.binds.length:Int) == 0&&((e.alts.length:Int) == e.alts.length)))) with
           | false=>rw [hc] at ho;(try simp only [go_sem,simprocAttr,az (n:=4) au rfl,az (n:=4) de rfl,cell_of ar,cell_of au,Value.cells,b9]);exact ⟨.refl _ _,congrArg _ (by rw [gx,hk];rfl),congrArg _ (by rw [gh,hk];rfl),congrArg _ (by rw [ho];rfl)⟩
           | true=>rw [hc] at ho;(try simp only [go_sem,simprocAttr,az (n:=4) au rfl,az (n:=4) de rfl,cell_of ar,cell_of au,Value.cells,b9]);exact ⟨.refl _ _,congrArg _ (by rw [gx,hk];rfl),congrArg _ (by rw [gh,hk];rfl),congrArg _ (by rw [ho];rfl)⟩
          | false=>
           (try simp only [go_sem,simprocAttr,az (n:=4) au rfl,az (n:=4) de rfl,cell_of ar,cell_of au,Value.cells,b9]);cases h9:e.kind == 9 with
           | true=>
            (try simp only [go_sem,simprocAttr,az (n:=4) au rfl,az (n:=4) de rfl,cell_of ar,cell_of au,Value.cells,b9]);have hk:e.kind=9:=by simpa using h9
            (try simp only [go_sem,simprocAttr,az (n:=4) au rfl,az (n:=4) de rfl,cell_of ar,cell_of au,Value.cells,b9]);refine aI (by rfl) ?_;refine (PX e.name).mono ?_;rintro _ w3 ⟨rfl,aq⟩;(try simp only [go_sem,simprocAttr]);refine dp (n:=3) (vs:=ui e.name) rfl (by unfold ui;split<;>rfl) (by unfold ui;split;exact oG _ _;exact vJ) ?_;intro w4 ba aA eG;have ii:=aq.trans aA;have au:=ii.at au _root_.id;have ho:gi e=(eO e 0 2 0 0&&(fS e.name).isSome):=by unfold gi;rw [hk];rfl
            unfold eO at ho;(try simp only [go_sem,simprocAttr,az (n:=4) au rfl,cell_of ar,cell_of au,Value.cells,b9]);cases hc:((e.types.length:Int) == 0&&((e.args.length:Int) == 2&&((e.binds.length:Int) == 0&&((e.alts.length:Int) == 0)))) with
            | false=>rw [hc] at ho;(try simp only [go_sem,simprocAttr]);exact ⟨ii,congrArg _ (by rw [gx,hk];rfl),congrArg _ (by rw [gh,hk];rfl),congrArg _ (by rw [ho];rfl)⟩
            | true=>rw [hc] at ho;(try simp only [go_sem,simprocAttr]);exact ⟨ii,congrArg _ (by rw [gx,hk];rfl),congrArg _ (by rw [gh,hk];rfl),congrArg _ (by rw [ho];rfl)⟩
           | false=>
            (try simp only [go_sem,simprocAttr,az (n:=4) au rfl,az (n:=4) de rfl,cell_of ar,cell_of au,Value.cells,b9]);cases lg:e.kind == 11 with
            | true=>
             (try simp only [go_sem,simprocAttr,az (n:=4) au rfl,az (n:=4) de rfl,cell_of ar,cell_of au,Value.cells,b9]);have hk:e.kind=11:=by simpa using lg
             (try simp only [go_sem,simprocAttr,az (n:=4) au rfl,az (n:=4) de rfl,cell_of ar,cell_of au,Value.cells,b9]);exact ⟨.refl _ _,congrArg _ (by rw [gx,hk];rfl),congrArg _ (by rw [gh,hk];rfl),congrArg _ (by unfold gi;rw [hk];rfl)⟩
            | false=>
             (try simp only [go_sem,simprocAttr,az (n:=4) au rfl,az (n:=4) de rfl,cell_of ar,cell_of au,Value.cells,b9]);cases pV:e.kind == 12 with
             | true=>
              (try simp only [go_sem,simprocAttr,az (n:=4) au rfl,az (n:=4) de rfl,cell_of ar,cell_of au,Value.cells,b9]);have hk:e.kind=12:=by simpa using pV
              (try simp only [go_sem,simprocAttr,az (n:=4) au rfl,az (n:=4) de rfl,cell_of ar,cell_of au,Value.cells,b9]);have ho:gi e=((eO e 1 0 0 0&&decide (e.num≥1))&&decide (e.num≤4)):=by unfold gi;rw [hk];rfl
              unfold eO at ho;cases hc:((e.types.length:Int) == 1&&((e.args.length:Int) == 0&&((e.binds.length:Int) == 0&&((e.alts.length:Int) == 0)))) with
              | false=>rw [hc] at ho;(try simp only [go_sem,simprocAttr,az (n:=4) au rfl,az (n:=4) de rfl,cell_of ar,cell_of au,Value.cells,b9]);exact ⟨Mod.drew (.refl _ _),congrArg _ (by rw [gx,hk];rfl),congrArg _ (by rw [gh,hk];rfl),congrArg _ (by rw [ho];rfl)⟩
              | true=>
               rw [hc] at ho;(try simp only [go_sem,simprocAttr,az (n:=4) au rfl,az (n:=4) de rfl,cell_of ar,cell_of au,Value.cells,b9]);cases hd:decide (e.num≥1) with
               | false=>rw [hd] at ho;(try simp only [go_sem,simprocAttr,az (n:=4) au rfl,az (n:=4) de rfl,cell_of ar,cell_of au,Value.cells,b9]);exact ⟨Mod.drew (.refl _ _),congrArg _ (by rw [gx,hk];rfl),congrArg _ (by rw [gh,hk];rfl),congrArg _ (by rw [ho];rfl)⟩
               | true=>rw [hd] at ho;(try simp only [go_sem,simprocAttr,az (n:=4) au rfl,az (n:=4) de rfl,cell_of ar,cell_of au,Value.cells,b9]);exact ⟨Mod.drew (.refl _ _),congrArg _ (by rw [gx,hk];rfl),congrArg _ (by rw [gh,hk];rfl),congrArg _ (by rw [ho];rfl)⟩
             | false=>
              (try simp only [go_sem,simprocAttr,az (n:=4) au rfl,az (n:=4) de rfl,cell_of ar,cell_of au,Value.cells,b9]);exact ⟨.refl _ _,congrArg _ (by simp only [gx,h1,h2,h3,h4,h5,lf,h6,h7,h8,h9,lg,pV];rfl),congrArg _ (by simp only [gh,h1,h2,h3,h4,h5,lf,h6,h7,h8,h9,lg,pV];rfl),congrArg _ (by simp only [gi,h1,h2,h3,h4,h5,lf,h6,h7,h8,h9,lg,pV];rfl)⟩
 ·rintro ρ w3 ⟨aq,g1,g4,g5,g6⟩;have ar:=aq.at ar _root_.id;have gY:=hm.trans aq;have ho:j5 e=((gi e&&(gx e.kind||aQ e.name bI))&&(gh e.kind||e.num == 0)):=rfl;cases h1:gi e with
  | false=>
   rw [h1] at g6 ho;(try simp only [go_sem,simprocAttr,g1,g4,g5,g6]);exact ⟨congrArg _ (by rw [ho];rfl),gY⟩
  | true=>
   rw [h1] at g6 ho;cases h2:gx e.kind with
   | true=>
    rw [h2] at g4 ho;cases h3:gh e.kind with
    | true=>
     rw [h3] at g5 ho;(try simp only [go_sem,simprocAttr,g1,g4,g5,g6,cell_of ar,Value.cells]);exact ⟨congrArg _ (by rw [ho];rfl),gY⟩
    | false=>
     rw [h3] at g5 ho;(try simp only [go_sem,simprocAttr,g1,g4,g5,g6,cell_of ar,Value.cells]);exact ⟨congrArg _ (by rw [ho];rfl),gY⟩
   | false=>
    rw [h2] at g4 ho;cases h4:e.name.toList == ByteArray.toList ⟨#[]⟩ with
    | false=>
     rw [aQ,h4] at ho;(try simp only [go_sem,simprocAttr,g1,g4,g5,g6,cell_of ar,Value.cells,h4]);exact ⟨congrArg _ (by rw [ho];rfl),gY⟩
    | true=>
     rw [aQ,h4] at ho;cases h3:gh e.kind with
     | true=>
      rw [h3] at g5 ho;(try simp only [go_sem,simprocAttr,g1,g4,g5,g6,cell_of ar,Value.cells,h4]);exact ⟨congrArg _ (by rw [ho];rfl),gY⟩
     | false=>
      rw [h3] at g5 ho;(try simp only [go_sem,simprocAttr,g1,g4,g5,g6,cell_of ar,Value.cells,h4]);exact ⟨congrArg _ (by rw [ho];rfl),gY⟩
end
section
open Go Go.W
instance:Inhabited Ty:=⟨.mk 0 bI []⟩
mutual
def ez (ps:List ByteArray) (sL:List Ty):Ty→Int→Ty×Int
 | .mk k n l,left=>match (if k == 2 then jV ps n else none) with
  | some i=>(sL.getD i default,Wr (left - (sL.getD i default).size))
  | none=>(.mk k n (ft ps sL l (Wr (left - 1))).1,(ft ps sL l (Wr (left - 1))).2)
def ft (ps:List ByteArray) (sL:List Ty):List Ty→Int→List Ty×Int
 | [],left=>([],left)
 | t::l,left=>if left < 0 then ([],left) else ((ez ps sL t left).1::(ft ps sL l (ez ps sL t left).2).1,(ft ps sL l (ez ps sL t left).2).2)
end
theorem JH {ps:List ByteArray} {bs:List Ty} {t:Ty} {left:Int} {i:Nat} (hk:(t.kind == 2)=true) (hi:jV ps t.name=some i):ez ps bs t left=(bs.getD i default,Wr (left - (bs.getD i default).size)):=by
 cases t with | mk k n l=>
 simp only [Ty.kind,Ty.name] at hk hi;rw [ez,if_pos hk,hi]
theorem JI {ps:List ByteArray} {bs:List Ty} {t:Ty} {left:Int} (h:(t.kind == 2)=false∨jV ps t.name=none):ez ps bs t left=(.mk t.kind t.name (ft ps bs t.args (Wr (left - 1))).1,(ft ps bs t.args (Wr (left - 1))).2):=by
 cases t with | mk k n l=>
 simp only [Ty.kind,Ty.name,Ty.args] at h ⊢;rw [ez];rcases h with h | h
 ·rw [if_neg (by rw [h];simp)]
 ·rw [h];split<;>rename_i h2<;>first | rfl | (split at h2<;>cases h2)
theorem abV {ps:List ByteArray} {bs:List Ty} {l:List Ty} {i:Nat} (hi:i < l.length) (left:Int):ft ps bs (l.drop i) left=if left < 0 then ([],left) else ((ez ps bs l[i] left).1::(ft ps bs (l.drop (i+1)) (ez ps bs l[i] left).2).1,(ft ps bs (l.drop (i+1)) (ez ps bs l[i] left).2).2):=by
 rw [List.drop_eq_getElem_cons hi,ft]
theorem PY {l:List ByteArray} {s:ByteArray} {i:Nat} (h:jV l s=some i):i < l.length:=by
 rw [jV,List.findIdx?_eq_some_iff_getElem] at h;exact h.1
theorem PZ {w:World} {S:Nat→Prop} {v:Value} {rows:List (List Value)} {fp:Option Nat} {l:List Ty} (ho:dx w dV 3 v (rows.flatMap id) rows.length fp) (vM:∀ b,fp=some b→Out S w b) (hl:rows.length=l.length) (hb:rows.length≤1099511627776)
   (he:∀ (i:Nat) (r:List Value) (t:Ty),rows[i]? = some r→l[i]? = some t→aW w (Out S w) r t) (k:Int) (n:ByteArray):aW w (Out S w) [I k,.string n,v] (.mk k n l):=by
 have hr:∀ r∈rows,r.length=3:=fun r hr=>by
  obtain ⟨i,hi,rfl⟩:=List.getElem_of_mem hr;exact (he i _ _ (List.getElem?_eq_getElem hi) (List.getElem?_eq_getElem (by omega))).len
 exact .mk ⟨(BI ho hr).mod (.refl (fun _=>False) w) aC vM,hb⟩ hl he
theorem BT (rows:List (List Value)) (r:List Value):(rows++[r]).flatMap id=rows.flatMap id++r:=by simp
theorem abW {w:World} {B:Nat→Prop} {rows:List (List Value)} {l:List Ty} {r:List Value} {t:Ty} (hl:rows.length=l.length) (he:∀ (i:Nat) (r:List Value) (t:Ty),rows[i]? = some r→l[i]? = some t→aW w B r t) (hr:aW w B r t) :
   ∀ (i:Nat) (r':List Value) (t':Ty),(rows++[r])[i]? = some r'→(l++[t])[i]? = some t'→aW w B r' t':=by
 intro i r' t' h1 h2;rcases Nat.lt_or_ge i rows.length with h | h
 ·rw [List.getElem?_append_left h] at h1;rw [List.getElem?_append_left (by omega)] at h2;exact he i _ _ h1 h2
 ·rw [List.getElem?_append_right h] at h1;rw [List.getElem?_append_right (by omega)] at h2;rcases Nat.eq_zero_or_pos (i - rows.length) with h0 | h0
  ·have P1:i - l.length=0:=by omega
   rw [h0] at h1;rw [P1] at h2;simp only [List.getElem?_cons_zero,Option.some.injEq] at h1 h2;subst h1 h2;exact hr
  ·rw [List.getElem?_eq_none (by simp;omega)] at h1;cases h1
theorem BU {w:World} {v:Value} {sz i:Nat} {rows:List (List Value)} {B:Nat→Prop} (h:ov w v sz rows B) (hi:i < rows.length) :
   ∃ ad c,v = .slice (some ad) rows.length c∧gp w sz (.pointer (some (ad.add (i*sz))))=some (.agg rows[i].toArray):=by
 obtain ⟨ad,c,e,k1,k2⟩:=D7 h.1 hi;exact ⟨ad,c,e,pa k1 k2⟩
theorem bY {a b c d:Nat} {x:Option Addr} {y:Option Addr} (h:Value.slice x a b=Value.slice y c d):x=y∧a=c∧b=d:=by cases h;exact ⟨rfl,rfl,rfl⟩
end
section
open Go Go.W
abbrev zQ (w:World) (b:Nat) (n:Int):Prop:=w.heap[b]? = some (.cells #[I n] 3 (0,0))
structure x7 (w:World) (S:Nat→Prop) (kD qX:Value) (ps:List ByteArray) (bs:List Ty):Prop where
 gq:aT w kD 1 (Out S w) gw ps
 BD:aT w qX 3 (Out S w) (aW w (Out S w)) bs
 hle:ps.length≤bs.length
theorem x7.ext {w w':World} {S S':Nat→Prop} {kD qX:Value} {ps:List ByteArray} {bs:List Ty} (h:x7 w S kD qX ps bs) (hm:Mod S w w') (hs:∀ b,b < w.heap.size→S' b→S b):x7 w' S' kD qX ps bs:=
 ⟨h.gq.up hm aK (eH hm hs) (fun _ _ h=>h),h.BD.up hm aK (eH hm hs) (fun _ _ h=>h.ext hm hs),h.hle⟩
abbrev RS (S:Nat→Prop) (b8 Es:Nat) (fp:Option Nat):Nat→Prop:=fun b=>S b∨b=b8∨b=Es∨fp=some b
structure P2 (w:World) (S:Nat→Prop) (lb b8 Es n0:Nat) (k0:Int) (nm:ByteArray) (w':World) (v:Value) (fp:Option Nat) (rows:List (List Value)) (lk:List Ty) (L:Int):Prop where
 mod:Mod (· = lb) w w'
 left:zQ w' lb L
 out:w'.heap[Es]? = some (.cells [I k0,.string nm,v].toArray dV (0,0))
 bZ:w'.heap[b8]? = some (.cells cJ.toArray dV (0,0))
 own:dx w' dV 3 v (rows.flatMap id) rows.length fp
 new:∀ b,fp=some b→n0≤b
 len:rows.length=lk.length
 ty:∀ (i:Nat) (r:List Value) (t:Ty),rows[i]? = some r→lk[i]? = some t→aW w' (Out (RS S b8 Es fp) w') r t
theorem abX (t:Ty):∀ {w:World} {S:Nat→Prop} {cs:List Value} {kD qX:Value} {ps:List ByteArray} {bs:List Ty} {lb:Nat} {left:Int},aW w (Out S w) cs t→x7 w S kD qX ps bs→S lb→(∀ b,S b→b < w.heap.size)→zQ w lb left →
   a8 Tryz.prog 99 [.agg cs.toArray,kD,qX,ptr lb] w fun r w'=>(∃ hM:List Value,r = .agg hM.toArray∧aW w' (Out S w') hM (ez ps bs t left).1)∧zQ w' lb (ez ps bs t left).2∧Mod (· = lb) w w':=by
 induction t using Ty.ind with
 | h t ih=>
 intro w S cs kD qX ps bs lb left h eT x8 hS P3;obtain ⟨v,rfl,hl⟩:=h.cells;obtain ⟨a,c,rfl⟩:=a7 hl;obtain ⟨ab,cb,rfl⟩:=a7 eT.BD;have oA:=cO P3;refine aas.calls rfl ?_;unfold I';(try simp only [go_sem,simprocAttr]);refine bD rfl ?_;intro w1 ar aj bC;(try simp only [go_sem,simprocAttr]);refine cM ?_;intro w2 au ai bK;have ar:=ai.at ar _root_.id;have aY:=aj.trans ai;have BV:zQ w2 lb left:=aY.at P3 _root_.id;(try simp only [go_sem,simprocAttr,cell_of ar,Value.cells]);refine aI (by rfl) ?_;refine (aba (eT.ext (an aY) (fun _ _ h=>h)).gq t.name).mono ?_;rintro _ _ ⟨rfl,rfl⟩;(try simp only [go_sem,simprocAttr,cell_of ar,Value.cells]);refine Bz (fun ρ w'=>w2=w'∧(((t.kind == 2)=true∧∃ i:Nat,jV ps t.name=some i∧ρ.get 9=some (I i)∧ρ.get 23=some (.bool true))∨(((t.kind == 2)=false∨jV ps t.name=none)∧ρ.get 23=some (.bool false)∧∃ n,ρ.get 9=some (I n)))∧ρ.get 1=some kD∧ρ.get 2=some (.slice ab bs.length cb)∧ρ.get 3=some (ptr lb)∧ρ.get 4=some (ptr w.heap.size)∧ρ.get 8=some (ptr w1.heap.size)) ?_ ?_
 ·cases hk:t.kind == 2 with
  | false=>(try simp only [go_sem,simprocAttr]);exact .inr ⟨_,rfl⟩
  | true=>
   cases hi:jV ps t.name with
   | none=>(try simp only [go_sem,simprocAttr]);exact .inr ⟨rfl,_,rfl⟩
   | some i=>
    have hge:decide ((i:Int)≥0)=true:=decide_eq_true (by omega);(try simp only [go_sem,simprocAttr,hge])
 rintro ρ _ ⟨rfl,uj,g1,g2,g3,g4,g8⟩;rcases uj with ⟨hk,i,hi,g9,g23⟩ | ⟨ga,g23,n9,g9⟩
 ·obtain ⟨rows,jW,mQ,eW⟩:=eT.BD;have aP:i < bs.length:=Nat.lt_of_lt_of_le (PY hi) eT.hle;have JJ:i < rows.length:=by omega
  have bw:aW w (Out S w) rows[i] bs[i]:=eW i _ _ (List.getElem?_eq_getElem JJ) (List.getElem?_eq_getElem aP);obtain ⟨ad,cc,e,bU⟩:=BU (jW.up aY aC (fun _ h=>h)) JJ;obtain ⟨rfl,-,rfl⟩:=bY e;have b1:(0:Int)≤i∧(i:Int) < bs.length:=by omega
  have hd:bs.getD i default=bs[i]:=by simp [List.getD,aP]
  (try simp only [go_sem,simprocAttr,bq,br,g1,g2,g3,g4,g8,g9,g23,cell_of BV,b1,bU,b9]);refine aI (by rfl) ?_;refine (zG bs[i] (bw.mod aY.drew aC)).mono ?_;rintro _ w3 ⟨rfl,aq⟩;have aq:=aq.eF;have abY:zQ w3 lb left:=aq.at BV _root_.id;(try simp only [go_sem,simprocAttr]);refine ⟨aq.bN _ (cO BV) _root_.id,?_⟩;refine iY (cs:=[I left]) rfl rfl abY rfl (by simp) ?_;intro w4 ba aA eG;have eM:Mod (· = lb) w w4:=((an (aY.trans aq)).trans aA);have hB:∀ b,Out S w b→¬ b=lb:=fun b hb e=>hb.2 (e ▸ x8)
  obtain ⟨D9,cc',e',JK⟩:=BU (jW.up eM hB (fun _ h=>h)) JJ;obtain ⟨e1,-,rfl⟩:=bY e';cases e1;(try simp only [go_sem,simprocAttr,bq,br,b1,JK]);have BA:w.heap.size < w1.heap.size:=by omega
  have au:=aA.at (aq.at au _root_.id) (by omega);refine bL (cs:=cJ) rfl rfl au bw.len rfl bw.one ?_;intro w5 bG aD eN;(try simp only [go_sem,simprocAttr,aE,RV.ev,az (n:=3) bG bw.len,aF]);rw [JH hk hi,hd];have fg:Mod (· = lb) w w5:=eM.step aD (fun x hx hl=>by omega);exact ⟨⟨_,rfl,bw.up fg hB (aX (fg.aU (fun b hb=>by subst hb;exact x8)))⟩,aD.at ba (by omega),fg⟩
 ·have abZ:ez ps bs t left=_:=JI ga;(try simp only [go_sem,simprocAttr,g1,g2,g3,g4,g8,g9,g23,cell_of BV]);refine iY (cs:=[I left]) rfl rfl BV rfl (by simp) ?_;intro w3 aM aq eV;have BA:w.heap.size < w1.heap.size:=by omega
  have ar:=aq.at ar (by omega);have au:=aq.at au (by omega);(try simp only [go_sem,simprocAttr,cell_of ar,Value.cells]);refine dp (n:=3) (vs:=fR t.kind t.name) rfl rfl (oG _ _) ?_;intro w4 ba aA eG;have ar:=aA.at ar _root_.id;have au:=aA.at au _root_.id;have aM:=aA.at aM _root_.id;have eM:Mod (· = lb) w w4:=(an aY).trans (aq.trans (an aA));(try simp only [go_sem,simprocAttr,cell_of ar,Value.cells]);have hz4:=eM.size;have BW:=ai.size;have bA:=aq.size;have ajA:=cO ba;have JL:∀ b,S b→b < w.heap.size:=hS;have hlen:=dB hl;refine vD (fun ρ w'=>∃ v fp rows lk L,P2 w S lb w1.heap.size w3.heap.size w4.heap.size t.kind t.name w' v fp rows lk L∧rows.length≤t.args.length∧ft ps bs t.args (Wr (left - 1))=(lk,L)∧ρ.get 8=some (ptr w1.heap.size)∧ρ.get 10=some (ptr w3.heap.size)) ?_ ?_
  ·refine mO (PP:=fun w'=>aW w' (Out S w)) (l:=t.args) (B:=Out S w) (fun k ρ w'=>k≤t.args.length∧(∃ v fp rows lk L,P2 w S lb w1.heap.size w3.heap.size w4.heap.size t.kind t.name w' v fp rows lk L∧rows.length≤k∧ft ps bs t.args (Wr (left - 1))=(lk++(ft ps bs (t.args.drop k) L).1,(ft ps bs (t.args.drop k) L).2))∧ρ=[(1,kD),(2,.slice ab bs.length cb),(3,ptr lb),(8,ptr w1.heap.size),(10,ptr w3.heap.size),(49,.slice a t.args.length c),(50,I t.args.length),(51,I k)])
    ⟨by omega,⟨.slice none 0 0,none,[],[],_,⟨eM,aM,ba,au,.nil _ _ _,(fun b h=>by cases h),rfl,(fun i r t h=>by simp at h)⟩,by simp,rfl⟩,rfl⟩ hl ?_ (fun _ _ _ h=>h.one) rfl ?_ ?_
   ·rintro k _ w5 ⟨hk,⟨v,fp,rows,lk,L,hi,_⟩,rfl⟩;exact ⟨⟨hl.mod hi.mod (fun b hb e=>hb.2 (e ▸ x8)) (fun _ _ h=>h.mod hi.mod (fun b hb e=>hb.2 (e ▸ x8))),hk⟩,rfl,rfl,rfl⟩
   ·rintro k _ w5 hk w6 r JM pv ⟨_,⟨v,fp,rows,lk,L,hi,zR,sM⟩,rfl⟩ hr bT vN aJ ajB;have JN:=aJ.at hi.left _root_.id;rw [abV hk] at sM;(try simp only [go_sem,simprocAttr,cell_of JN]);cases P4:decide (L < 0) with
    | true=>
     have JO:=of_decide_eq_true P4;rw [if_pos JO,List.append_nil] at sM;(try simp only [go_sem,simprocAttr]);refine ⟨v,fp,rows,lk,L,⟨hi.mod.trans (an aJ),JN,aJ.at hi.out _root_.id,aJ.at hi.bZ _root_.id,hi.own.mod aJ (fun _ _ h=>h),hi.new,hi.len,fun i r t h1 h2=>(hi.ty i r t h1 h2).aB (an aJ)⟩,by omega,sM⟩
    | false=>
     have JO:=of_decide_eq_false P4;rw [if_neg JO] at sM;have BX:=aJ.at hi.out _root_.id;obtain ⟨av,cv,rfl,_,_⟩:=hi.own.val;(try simp only [go_sem,simprocAttr,cell_of BX,az (n:=3) vN bT,b9]);refine aI (by rfl) ?_;have jq:Mod (· = lb) w w6.drew:=(hi.mod.trans (an aJ)).drew;have P5:=hi.own.mod aJ.drew (fun _ _ h=>h);have JP:∀ b,RS S w1.heap.size w3.heap.size fp b→b < w6.drew.heap.size:=fun b hb=>by
      rcases hb with h | h | h | h
      ·have:=hS b h;have:=jq.size;omega
      ·have:=cO hi.bZ;have:=aJ.size;have e:w6.drew.heap.size=w6.heap.size:=rfl;omega
      ·have:=cO BX;have e:w6.drew.heap.size=w6.heap.size:=rfl;omega
      ·exact P5.lt h
     have zS:∀ b,b < w.heap.size→RS S w1.heap.size w3.heap.size fp b→S b:=fun b hb h=>by
      rcases h with h | h | h | h
      ·exact h
      ·omega
      ·omega
      ·have:=hi.new b h;omega
     have P6:Mod S w w6.drew:=jq.aU (fun b hb=>by subst hb;exact x8);refine (ih _ (List.getElem_mem hk) (S:=RS S w1.heap.size w3.heap.size fp) (hr.up (aJ.drew) aC (eH P6 zS)) (eT.ext P6 zS) (.inl x8) JP JN).mono ?_;rintro _ w7 ⟨⟨hM,rfl,Et⟩,kC,aN⟩;have JQ:lb≠w3.heap.size:=by omega
     have ajC:lb≠w1.heap.size:=by omega
     have j6:Mod (· = lb) w6 w7:=aN.eF;have P7:=j6.at BX (fun e=>JQ e.symm);have jt:∀ b,fp=some b→¬ b=lb:=fun b hb e=>by have:=hi.new b hb;omega
     have ab0:=P5.mod aN jt;(try simp only [go_sem,simprocAttr]);refine ⟨by rw [j6.bN _ (cO BX) (fun e=>JQ e.symm)],?_⟩;refine fA (cs:=hM.toArray) rfl ?_ ?_
     ·(try simp only [go_sem,simprocAttr,Et.len])
     intro w8 dW bg mR;(try simp only [go_sem,simprocAttr]);refine ⟨by rw [bg.bN _ (cO P7) _root_.id,j6.bN _ (cO BX) (fun e=>JQ e.symm)],?_⟩;have mQ:rows.length≤1099511627776:=by
      obtain ⟨rw0,JR,ab1,_⟩:=hl;have:=JR.2;omega
     have dJ:=vx dW;rw [Et.len] at dJ;refine qR (m:=1) (news:=hM) rfl (ab0.mod bg (fun _ _ h=>h)) rfl (fun h=>by cases h) dJ Et.one rfl (by omega) (by omega) ?_;intro v9 w9 Eu P8 aV P9;have zT:Mod (fun b=>fp=some b) w8 w9:=aV;have ab2:=bg.at P7 _root_.id;have ab3:=aV.at ab2 (fun h=>by have:=hi.new _ h;omega);obtain ⟨av9,cv9,rfl,_,_⟩:=P8.val;(try simp only [go_sem,simprocAttr]);refine iY rfl rfl ab3 rfl (by simp) ?_;intro cT gy bJ pW;have hz6:=aJ.size;have hz7:=j6.size;have hz9:=aV.size;have hzi:=hi.mod.size;have z5:=cO hi.out;have Qa:∀ b,Eu=some b→w4.heap.size≤b:=fun b hb=>by
      rcases P9 b hb with h | ⟨h,_⟩
      ·exact hi.new b h
      ·have:=hi.mod.size;omega
     have key:∀ (x:List Value) (u:Ty),aW w7 (Out (RS S w1.heap.size w3.heap.size fp) w7) x u→aW cT (Out (RS S w1.heap.size w3.heap.size Eu) cT) x u:=fun x u h=>by
      have h8:=h.aB (an bg)
      have h9:aW w9 (Out (RS S w1.heap.size w3.heap.size Eu) w9) x u:=h8.up aV (fun b hb hf=>hb.2 (.inr (.inr (.inr hf)))) (fun b hb=>⟨by omega,fun hh=>by
       rcases hh with h | h | h | h
       ·exact hb.2 (.inl h)
       ·exact hb.2 (.inr (.inl h))
       ·exact hb.2 (.inr (.inr (.inl h)))
       ·rcases P9 b h with h | ⟨h,_⟩
        ·exact hb.2 (.inr (.inr (.inr h)))
        ·have:=hb.1;omega⟩)
      exact h9.aB (bJ.aU (fun b hb=>.inr (.inr (.inl hb))))
     have oz:Mod (· = lb) w w9:=(((hi.mod.trans (an aJ)).trans j6).trans (an bg)).step aV (fun b h aP=>by have:=hi.new b h;omega);have ab4:Mod (· = lb) w cT:=oz.step bJ (fun b h aP=>by omega);have Qb:zQ cT lb (ez ps bs t.args[k] L).2:=bJ.at (aV.at (bg.at kC _root_.id) (fun h=>by have:=hi.new _ h;omega)) (by omega);have pd:=aJ.at hi.bZ _root_.id;have x9:=bJ.at (aV.at (bg.at (j6.at pd (by omega)) _root_.id) (fun h=>by have:=hi.new _ h;omega)) (by omega);refine ⟨hk,⟨_,Eu,rows++[hM],lk++[(ez ps bs t.args[k] L).1],_,⟨ab4,Qb,gy,x9,?_,Qa,by simp [hi.len],abW hi.len (fun i x u h1 h2=>key x u ?_) (key _ _ ?_)⟩,by simp;omega,?_⟩⟩
     ·rw [BT,List.length_append];exact P8.mod bJ (fun b hb e=>by subst e;have:=Qa _ hb;omega)
     ·exact ((hi.ty i x u h1 h2).aB (an aJ.drew)).aB (aN.aU (fun b hb=>by subst hb;exact .inl x8))
     ·exact Et
     ·rw [sM,List.append_assoc];rfl
   ·rintro _ w5 ⟨_,⟨v,fp,rows,lk,L,hi,zR,sM⟩,rfl⟩;rw [List.drop_length,ft,List.append_nil] at sM;(try simp only [go_sem,simprocAttr]);exact ⟨v,fp,rows,lk,L,hi,zR,sM⟩
  ·rintro ρ w5 ⟨v,fp,rows,lk,L,hi,zR,sM,g8,g10⟩;have mQ:rows.length≤1099511627776:=by
    obtain ⟨rw0,JR,ab1,_⟩:=hl;have:=JR.2;omega
   have hzi:=hi.mod.size
   have bw:=PZ (S:=RS S w1.heap.size w3.heap.size none) hi.own (fun b hb=>⟨hi.own.lt hb,fun hh=>by
    have:=hi.new b hb;rcases hh with h | h | h | h
    ·have:=hS b h;omega
    ·omega
    ·omega
    ·cases h⟩) hi.len mQ (fun i r t h1 h2=>(hi.ty i r t h1 h2).sub (fun b hb=>by
     rcases hb with h | h | h | h
     ·exact .inl h
     ·exact .inr (.inl h)
     ·exact .inr (.inr (.inl h))
     ·cases h)) t.kind t.name
   (try simp only [go_sem,simprocAttr,g8,g10,az (n:=3) hi.out rfl]);refine bL (cs:=cJ) g8 rfl hi.bZ rfl rfl bw.one ?_;intro w6 ci aJ gN;(try simp only [go_sem,simprocAttr,aE,RV.ev,az (n:=3) ci rfl,aF]);rw [abZ,sM];refine ⟨⟨_,rfl,bw.up aJ (fun b hb e=>hb.2 (.inr (.inl e))) (fun b hb=>⟨by have:=hb.1;omega,fun h=>hb.2 (.inl h)⟩)⟩,aJ.at hi.left (by omega),hi.mod.step aJ (fun x hx hl=>by omega)⟩
def eX (ps:List ByteArray) (bs:List Ty) (t:Ty):Ty×Int:=ez ps bs t 500
theorem JS (t:Ty) {w:World} {S:Nat→Prop} {cs:List Value} {kD qX:Value} {ps:List ByteArray} {bs:List Ty} (h:aW w (Out S w) cs t) (eT:x7 w S kD qX ps bs) (hS:∀ b,S b→b < w.heap.size) :
   a8 Tryz.prog 86 [.agg cs.toArray,kD,qX] w fun r w'=>(∃ hM:List Value,r = .tuple #[.agg hM.toArray,.bool (decide ((eX ps bs t).2≥0))]∧aW w' (Out S w') hM (eX ps bs t).1)∧Mod (fun _=>False) w w':=by
 refine Z8.calls rfl ?_;unfold IW;(try simp only [go_sem,simprocAttr]);refine bD rfl ?_;intro w1 ar aj bC;(try simp only [go_sem,simprocAttr]);refine cM ?_;intro w2 au ai bK;(try simp only [go_sem,simprocAttr]);refine cM ?_;intro w3 aM aq eV;(try simp only [go_sem,simprocAttr]);refine iY (cs:=[I 0]) rfl rfl aM rfl (by simp) ?_;intro w4 ba aA eG;have oE:Mod (fun _=>False) w2 w4:=aq.step aA (fun x hx hl=>by omega);have ar:=oE.at (ai.at ar _root_.id) _root_.id;have au:=oE.at au _root_.id;have eM:=aj.trans (ai.trans oE);have z1:=aj.size;have z2:=ai.size;(try simp only [go_sem,simprocAttr,az (n:=3) (cs:=cs) ar h.len]);refine aI (by rfl) ?_;have hs:∀ b,b < w.heap.size→(S b∨b=w2.heap.size∨b=w1.heap.size)→S b:=fun b hb h=>by
  rcases h with h | h | h
  ·exact h
  ·omega
  ·omega
 refine (abX t (S:=fun b=>S b∨b=w2.heap.size∨b=w1.heap.size) (h.ext (an eM) hs) (eT.ext (an eM) hs) (.inr (.inl rfl)) (fun b hb=>by
  rcases hb with h | h | h
  ·have:=hS b h;omega
  ·omega
  ·omega) ba).mono ?_
 rintro _ w5 ⟨⟨hM,rfl,bw⟩,xR,aD⟩;have au:=aD.at au (by omega);(try simp only [go_sem,simprocAttr]);refine dp (n:=3) (vs:=hM) rfl bw.len bw.one ?_;intro w6 ci aJ gN;have Ev:=aJ.at xR _root_.id;have au:=aJ.at au _root_.id;(try simp only [go_sem,simprocAttr,az (n:=3) ci bw.len,cell_of Ev,b9]);have z5:=aD.size;refine bL (w:=w6.drew) (cs:=cJ) rfl rfl au bw.len rfl bw.one ?_;intro w7 dq aN jX;have aN:Mod (· = w1.heap.size) w6 w7:=aN.eF;have ab5:=(bw.aB (an aJ)).aB (aN.aU (fun b hb=>.inr (.inr hb)));(try simp only [go_sem,simprocAttr,aE,RV.ev,az (n:=3) dq bw.len,aF]);refine ⟨aN.bN _ (cO Ev) (by omega),?_⟩;exact ⟨⟨hM,rfl,ab5.sub (fun b hb=>.inl hb)⟩,((eM.step aD (fun x hx hl=>by omega)).trans aJ).step aN (fun x hx hl=>by omega)⟩
end
section
open Go Go.W
structure Env where
 aH:List (ByteArray×Dt)
 cons:List (ByteArray×(Dt×Nat))
 ak:List (ByteArray×Df)
 params:List (ByteArray×Int)
abbrev bM:=List (ByteArray×Int)
abbrev Loc:=List (ByteArray×Ty)
def has (l:bM) (s:ByteArray):Bool:=decide ((aG l s).getD 0 > 0)
def dy (E:Env) (n:ByteArray) (len:Nat):Bool:=match aG E.aH n with
 | none=>true
 | some d=>(d.params.length:Int) != len
mutual
def Ty.fits (E:Env):Ty→Bool
 | .mk k n l=>if k == 2 then has E.params n else if k == 4 then (if dy E n l.length then false else pX E l) else pX E l
def pX (E:Env):List Ty→Bool
 | []=>true
 | t::l=>t.fits E&&pX E l
end
theorem Ty.JT (E:Env) (t:Ty):t.fits E=if t.kind == 2 then has E.params t.name else if t.kind == 4 then (if dy E t.name t.args.length then false else pX E t.args) else pX E t.args:=by cases t;rw [Ty.fits];rfl
theorem JU (E:Env) (l:List Ty):pX E l=l.all (Ty.fits E):=by
 induction l with
 | nil=>rfl
 | cons t l ih=>rw [pX,ih,List.all_cons]
def fB (E:Env) (t:Ty):Bool:=(nF t == 0)&&t.fits E
def iF (E:Env) (t:Ty) (ps:List ByteArray) (at':List Ty):Except Int Ty:=
 if ((ps.length:Int) != at'.length)=true then .error 83
 else if at'.all (fB E)=false then .error 83
 else if (eX ps at' t).2≥0 then .ok (eX ps at' t).1 else .error 83
def ya (s:ByteArray):Ty:=.mk 2 s []
def oH (d:Dt):Ty:=.mk 4 d.name (d.params.map ya)
def dk (d:Dt) (i:Nat):List Ty:=(d.cons.map Cn.fields).getD i []
def qY (d:Dt) (i:Nat):Ty:=(dk d i).foldr kB (oH d)
end
section
open Go Go.W
def gj (w:World) (B:Nat→Prop) (a:Addr) (cs:List Value):Prop:=B a.block∧∀ k (hk:k < cs.length),w.cell? (a.add k)=some cs[k]
section
variable {w w':World} {B B' S S':Nat→Prop} {a:Addr} {cs:List Value}
theorem gj.up (h:gj w B a cs) (hm:Mod S w w') (hd:∀ b,B b→¬ S b) (hB:∀ b,B b→B' b):gj w' B' a cs:=
 ⟨hB _ h.1,fun k hk=>hm.cell (h.2 k hk) (by rw [tO];exact hd _ h.1)⟩
theorem gj.c0 (h:gj w B a cs) (hk:0 < cs.length):w.cell? a=some cs[0]:=by have:=h.2 0 hk;rwa [add_zero'] at this
theorem gj.at (h:gj w B a cs) {k:Nat} (hk:k < cs.length) (h0:k≠0:=by decide):w.cell? ⟨a.block,a.off+k,none⟩=some cs[k]:=by have:=h.2 k hk;rwa [add_pos _ h0] at this
theorem gj.ln (h:gj w B a cs) {o n:Nat} (hn:o+n≤cs.length) (h0:o≠0:=by decide):gp w n (.pointer (some ⟨a.block,a.off+o,none⟩))=some (.agg ((cs.drop o).take n).toArray):=by
 have:=Pw h.2 hn
 rwa [add_pos _ h0] at this
def qZ (w:World) (B:Nat→Prop) (a:Addr) (d:Dt):Prop:=∃ cs,gj w B a cs∧gC w B cs d
def Ew (w:World) (B:Nat→Prop) (a:Addr) (d:Df):Prop:=∃ cs,gj w B a cs∧ic w B cs d
theorem qZ.up {d:Dt} (h:qZ w B a d) (hm:Mod S w w') (hd:∀ b,B b→¬ S b) (hB:∀ b,B b→B' b):qZ w' B' a d:=by
 obtain ⟨cs,h1,h2⟩:=h;exact ⟨cs,h1.up hm hd hB,h2.up hm hd hB⟩
theorem Ew.up {d:Df} (h:Ew w B a d) (hm:Mod S w w') (hd:∀ b,B b→¬ S b) (hB:∀ b,B b→B' b):Ew w' B' a d:=by
 obtain ⟨cs,h1,h2⟩:=h;exact ⟨cs,h1.up hm hd hB,h2.up hm hd hB⟩
end
def uk (w:World) (B:Nat→Prop) (v:Value) (d:Dt):Prop:=∃ a,v = .pointer (some a)∧qZ w B a d
def q8 (w:World) (B:Nat→Prop) (v:Value) (x:Dt×Nat):Prop:=∃ a,v = .agg #[.pointer (some a),I x.2]∧qZ w B a x.1∧x.2 < x.1.cons.length
def sN (w:World) (B:Nat→Prop) (v:Value) (d:Df):Prop:=∃ a,v = .pointer (some a)∧Ew w B a d
def RI (v:Value) (n:Int):Prop:=v=I n
def sO (w:World) (B:Nat→Prop) (v:Value) (t:Ty):Prop:=∃ cs:List Value,v = .agg cs.toArray∧aW w B cs t
section
variable {w w':World} {B B' S:Nat→Prop} {v:Value}
theorem uk.up {d:Dt} (h:uk w B v d) (hm:Mod S w w') (hd:∀ b,B b→¬ S b) (hB:∀ b,B b→B' b):uk w' B' v d:=by
 obtain ⟨a,e,h⟩:=h;exact ⟨a,e,h.up hm hd hB⟩
theorem q8.up {d:Dt×Nat} (h:q8 w B v d) (hm:Mod S w w') (hd:∀ b,B b→¬ S b) (hB:∀ b,B b→B' b):q8 w' B' v d:=by
 obtain ⟨a,e,h,hi⟩:=h;exact ⟨a,e,h.up hm hd hB,hi⟩
theorem sN.up {d:Df} (h:sN w B v d) (hm:Mod S w w') (hd:∀ b,B b→¬ S b) (hB:∀ b,B b→B' b):sN w' B' v d:=by
 obtain ⟨a,e,h⟩:=h;exact ⟨a,e,h.up hm hd hB⟩
theorem sO.up {d:Ty} (h:sO w B v d) (hm:Mod S w w') (hd:∀ b,B b→¬ S b) (hB:∀ b,B b→B' b):sO w' B' v d:=by
 obtain ⟨cs,e,h⟩:=h;exact ⟨cs,e,h.up hm hd hB⟩
end
structure Ms where
 c:Nat
 md:Nat
 mc:Nat
 mf:Nat
 mp:Nat
 mb:Nat
 ml:Nat
def Ms.list (M:Ms):List Nat:=[M.c,M.md,M.mc,M.mf,M.mp,M.mb,M.ml]
abbrev Ms.cells (M:Ms):List Value:=[.map (some M.md),.map (some M.mc),.map (some M.mf),.map (some M.mp),.bool false,.map (some M.mb),.map (some M.ml)]
abbrev Qc:Nat:=129
structure bP (w:World) (S:Nat→Prop) (M:Ms) (E:Env) (bd:bM) (lc:Loc):Prop where
 box:w.heap[M.c]? = some (.cells M.cells.toArray Qc (0,0))
 nodup:M.list.Nodup
 bt:∀ b∈M.list,S b
 lt:∀ b,S b→b < w.heap.size
 aH:cE w M.md (uk w (Out S w)) E.aH
 cons:cE w M.mc (q8 w (Out S w)) E.cons
 ak:cE w M.mf (sN w (Out S w)) E.ak
 params:cE w M.mp RI E.params
 gF:cE w M.mb RI bd
 locals:cE w M.ml (sO w (Out S w)) lc
theorem Ms.ne {M:Ms} (h:M.list.Nodup):(M.c≠M.md∧M.c≠M.mc∧M.c≠M.mf∧M.c≠M.mp∧M.c≠M.mb∧M.c≠M.ml)∧(M.md≠M.mc∧M.md≠M.mf∧M.md≠M.mp∧M.md≠M.mb∧M.md≠M.ml)∧(M.mc≠M.mf∧M.mc≠M.mp∧M.mc≠M.mb∧M.mc≠M.ml)∧(M.mf≠M.mp∧M.mf≠M.mb∧M.mf≠M.ml)∧(M.mp≠M.mb∧M.mp≠M.ml)∧M.mb≠M.ml:=by
 simp only [Ms.list,List.nodup_cons,List.mem_cons,List.not_mem_nil,or_false,not_or,not_false_eq_true,List.nodup_nil,and_true] at h;exact h
abbrev Ms.two (M:Ms):Nat→Prop:=fun b=>b=M.mb∨b=M.ml
theorem bP.dz {w w':World} {S:Nat→Prop} {M:Ms} {E:Env} {bd dN:bM} {lc gG:Loc} (h:bP w S M E bd lc) (hm:Mod M.two w w') (h1:cE w' M.mb RI dN) (h2:cE w' M.ml (sO w' (Out S w')) gG):bP w' S M E dN gG:=by
 obtain ⟨⟨a1,a2,a3,a4,a5,a6⟩,⟨b1,b2,b3,b4,b5⟩,⟨c1,c2,c3,c4⟩,⟨d1,d2,d3⟩,⟨e1,e2⟩,f1⟩:=Ms.ne h.nodup;have hS:∀ b,M.two b→S b:=fun b hb=>by
  rcases hb with rfl | rfl
  ·exact h.bt _ (by simp [Ms.list])
  ·exact h.bt _ (by simp [Ms.list])
 have bB:Mod S w w':=hm.aU hS;have no:∀ {x:Nat},x≠M.mb→x≠M.ml→¬ M.two x:=fun h1 h2 h=>by rcases h with h | h;exact h1 h;exact h2 h
 exact ⟨hm.at h.box (no a5 a6),h.nodup,h.bt,fun b hb=>Nat.lt_of_lt_of_le (h.lt b hb) hm.size,
  h.aH.mod hm (no b4 b5) (fun _ _ x=>x.up bB aK (aX bB)),h.cons.mod hm (no c3 c4) (fun _ _ x=>x.up bB aK (aX bB)),
  h.ak.mod hm (no d2 d3) (fun _ _ x=>x.up bB aK (aX bB)),h.params.mod hm (no e1 e2) (fun _ _ x=>x),h1,h2⟩
theorem cE.ty {w w':World} {S S':Nat→Prop} {b:Nat} {lc:Loc} (h:cE w b (sO w (Out S w)) lc) (hm:Mod S' w w') (hs:∀ b,S' b→S b) (hb:¬ S' b):cE w' b (sO w' (Out S w')) lc:=
 cE.mod h hm hb (fun _ _ x=>x.up (hm.aU hs) aK (aX (hm.aU hs)))
theorem bP.aB {w w':World} {S:Nat→Prop} {M:Ms} {E:Env} {bd:bM} {lc:Loc} (h:bP w S M E bd lc) (hm:Mod (fun _=>False) w w'):bP w' S M E bd lc:=
 h.dz (an hm) (h.gF.mod hm _root_.id (fun _ _ x=>x)) (h.locals.ty hm (fun _ h=>h.elim) _root_.id)
theorem bP.two {w:World} {S:Nat→Prop} {M:Ms} {E:Env} {bd:bM} {lc:Loc} (h:bP w S M E bd lc):∀ b,M.two b→S b:=fun b hb=>by
 rcases hb with rfl | rfl
 ·exact h.bt _ (by simp [Ms.list])
 ·exact h.bt _ (by simp [Ms.list])
section
variable {P:Program} {w:World} {ρ:Go.W.Env} {K:Go.W.Env→World→Prop} {rd:List (Nat×Nat)} {i s:Nat} {d:Option Nat} {e:Go.W.E} {fl:List Nat} {t:D}
@[go_sem] theorem ajD (h:ρ.get s=some (.bool true)):dm P (.e i (some (s,true)) d e fl t) ρ w rd K=(e.wp P w ρ fun v w'=>lN fl w w' rd∧dm P t (ρ.put d v) w' rd K):=by simp [dm,h,fK,undef]
@[go_sem] theorem ajE (h:ρ.get s=some (.bool false)):dm P (.e i (some (s,false)) d e fl t) ρ w rd K=(e.wp P w ρ fun v w'=>lN fl w w' rd∧dm P t (ρ.put d v) w' rd K):=by simp [dm,h,fK,undef]
@[go_sem] theorem ajF (h:ρ.get s=some (.bool true)):dm P (.e i (some (s,false)) d e fl t) ρ w rd K=dm P t (ρ.put d undef) w rd K:=by simp [dm,h,fK,undef]
@[go_sem] theorem ajG (h:ρ.get s=some (.bool false)):dm P (.e i (some (s,true)) d e fl t) ρ w rd K=dm P t (ρ.put d undef) w rd K:=by simp [dm,h,fK,undef]
end
section
variable {P:Program} {w:World} {ρ:W.Env} {K:Value→World→Prop} {α:Type} {R:Value→α→Prop} {l:List (ByteArray×α)} {b:Nat} {k:ByteArray} {t kt et:TypeId} {m x y:Operand} {d:Option Nat} {ty:TypeId} {pos:String} {af:Array Edge}
theorem BY (hm:(bm m).ev ρ=some (.map (some b))) (hx:(bm x).ev ρ=some (.string k)) (ht:P.underlying t=some (.map kt et)) (ib:P.underlying kt=some .string)
   {z:Value} (hz:(zeroValue et).run P w = .ok z w) (h:cE w b R l) (h0:aG l k=none→K (.tuple #[z,.bool false]) w) (h1:∀ v a,aG l k=some a→R v a→K (.tuple #[v,.bool true]) w):E.wp P w ρ K (.raw ⟨d,.lookup t m x true,ty,pos,af,none⟩):=by
 obtain ⟨lv,hv,hp⟩:=h;refine Hp hm hx ht ib hz hv ?_;rcases hp.get k with ⟨e1,e2⟩ | ⟨v,a,e1,e2,hr⟩
 ·rw [e1];exact h0 e2
 ·rw [e1];exact h1 v a e2 hr
theorem mS {v:Value} {a:α} (hm:(bm m).ev ρ=some (.map (some b))) (hx:(bm x).ev ρ=some (.string k)) (hy:(bm y).ev ρ=some v) (ht:P.underlying t=some (.map kt et)) (ib:P.underlying kt=some .string)
   (h:cE w b R l) (hr:R v a) (hk:∀ w',cE w' b R (bO l k a)→Mod (· = b) w w'→w'.heap.size=w.heap.size→K undef w'):E.wp P w ρ K (.raw ⟨d,.mapUpdate t m x y,ty,pos,af,none⟩):=by
 obtain ⟨lv,hv,hp⟩:=h;refine Oz hm hx hy ht ib hv ?_;intro w' oy fP eE;exact hk w' ⟨_,oy,hp.put k hr⟩ fP eE
theorem ab6 {at':Array TypeId} (gd:at'[0]? = some t) (hm:(bm m).ev ρ=some (.map (some b))) (hx:(bm x).ev ρ=some (.string k)) (ht:P.underlying t=some (.map kt et)) (ib:P.underlying kt=some (.string))
   (h:cE w b R l) (hk:∀ w',cE w' b R (gO l k)→Mod (· = b) w w'→w'.heap.size=w.heap.size→K (.tuple #[]) w'):E.wp P w ρ K (.raw ⟨d,.call { callee:=.builtin .delete,args:=#[m,x],argTypes:=at'},ty,pos,af,none⟩):=by
 obtain ⟨lv,hv,hp⟩:=h;refine XR gd hm hx ht ib hv ?_;intro w' oy fP eE;exact hk w' ⟨_,oy,hp.del k⟩ fP eE
theorem pY {t:TypeId} (R:Value→α→Prop) (hk:∀ w',cE w' w.heap.size R ([]:List (ByteArray×α))→Mod (fun _=>False) w w'→w'.heap.size=w.heap.size+1→K (.map (some w.heap.size)) w') :
   E.wp P w ρ K (.raw ⟨d,.makeMap t none,ty,pos,af,none⟩):=
 Ox fun w' h1 h2 h3=>hk w' ⟨_,h1,.nil⟩ h2 h3
theorem yb {op:Op} {g:Option (Nat×Bool)} (h:E.wp P w ρ K (.raw ⟨d,op,ty,pos,af,none⟩)):E.wp P w ρ K (.raw ⟨d,op,ty,pos,af,g⟩):=h
theorem vO {l:bM} (hm:(bm m).ev ρ=some (.map (some b))) (hx:(bm x).ev ρ=some (.string k)) (ht:P.underlying t=some (.map kt et)) (ib:P.underlying kt=some .string)
   (hz:(zeroValue et).run P w = .ok (I 0) w) (h:cE w b RI l) (hk:K (I ((aG l k).getD 0)) w):E.wp P w ρ K (.raw ⟨d,.lookup t m x false,ty,pos,af,none⟩):=by
 obtain ⟨lv,hv,hp⟩:=h;refine Oy hm hx ht ib hz hv ?_;rcases hp.get k with ⟨e1,e2⟩ | ⟨v,a,e1,e2,hr⟩
 ·rw [e1];rw [e2] at hk;exact hk
 ·rw [e1];rw [e2] at hk;have:v=I a:=hr;rw [this];exact hk
end
end
section
open Go Go.W
theorem ab7 (d:Dt) (i:Nat) {w:World} {S:Nat→Prop} {a:Addr} (hp:qZ w (Out S w) a d) (hi:i < d.cons.length) (hS:∀ b,S b→b < w.heap.size) :
   a8 Tryz.prog 65 [.agg #[.pointer (some a),I i]] w fun r w'=>(∃ cs:List Value,r = .agg cs.toArray∧aW w' (Out S w') cs (qY d i))∧Mod (fun _=>False) w w':=by
 obtain ⟨cs,bH,vp,vc,rfl,gk,gP⟩:=hp;obtain ⟨ap,cp,rfl⟩:=a7 gk;obtain ⟨ac,cc,rfl⟩:=a7 gP;refine ZJ.calls rfl ?_;unfold IA;(try simp only [go_sem,Nat.reduceAdd,Nat.reduceEqDiff,Nat.reduceLT,Nat.reduceLeDiff,Nat.reduceMul,reduceCtorEq,↓reduceIte]);refine bD rfl ?_;intro w1 ar aj bC;(try simp only [go_sem,Nat.reduceAdd,Nat.reduceEqDiff,Nat.reduceLT,Nat.reduceLeDiff,Nat.reduceMul,reduceCtorEq,↓reduceIte]);refine cM ?_;intro w2 au ai bK;have ar:=ai.at ar _root_.id;have aY:=aj.trans ai;have zU:=bH.up aY aC (fun _ h=>h);have c1:w2.cell? ⟨a.block,a.off+1,none⟩=some (.slice ap d.params.length cp):=zU.at (k:=1) (by simp);(try simp only [go_sem,Nat.reduceAdd,Nat.reduceEqDiff,Nat.reduceLT,Nat.reduceLeDiff,Nat.reduceMul,reduceCtorEq,↓reduceIte,cell_of ar,Value.cells,c1]);have hlen:=dB gk;refine fe d.params.length (fun k ρ w'=>k≤d.params.length∧∃ v fp,dx w' dV 3 v (((d.params.take k).map (fR 2)).flatMap id) k fp∧(∀ b,fp=some b→w2.heap.size≤b)∧Mod (fun _=>False) w2 w'∧ρ=[(1,ptr w.heap.size),(2,ptr w1.heap.size),(3,v),(13,.slice ap d.params.length cp),(14,I d.params.length),(15,I k)])
  ⟨by omega,.slice none 0 0,none,.nil _ _ _,(fun b h=>by cases h),.refl _ _,rfl⟩ hlen ?_ ?_ (by decide) ?_
 ·rintro k _ w3 ⟨hk,v,fp,_,_,_,rfl⟩;exact ⟨rfl,rfl,hk⟩
 ·rintro k _ w3 ⟨_,v,fp,ho,hf,aq,rfl⟩ hk;obtain ⟨ad,c1,e,hn,hc⟩:=sH (gk.up (aY.trans aq) aC (fun _ h=>h) (fun _ _ h=>h)) hk;cases e;have b1:(0:Int)≤k∧(k:Int) < d.params.length:=by omega
  obtain ⟨av,cv,rfl,_,_⟩:=ho.val;(try simp only [go_sem,Nat.reduceAdd,Nat.reduceEqDiff,Nat.reduceLT,Nat.reduceLeDiff,Nat.reduceMul,reduceCtorEq,↓reduceIte,bq,br,b1,hc]);refine aI (by rfl) ?_;refine (Er _).mono ?_;rintro _ w4 ⟨rfl,aA⟩;(try simp only [go_sem,Nat.reduceAdd,Nat.reduceEqDiff,Nat.reduceLT,Nat.reduceLeDiff,Nat.reduceMul,reduceCtorEq,↓reduceIte]);refine fA (cs:=(fR 2 d.params[k]).toArray) rfl rfl ?_;intro w5 bG aD eN;have gl:=aA.trans aD;(try simp only [go_sem,Nat.reduceAdd,Nat.reduceEqDiff,Nat.reduceLT,Nat.reduceLeDiff,Nat.reduceMul,reduceCtorEq,↓reduceIte]);have eZ:d.params.length≤1099511627776:=by obtain ⟨r0,h1,h2,_⟩:=gk;have:=h1.2;omega
  refine qR (m:=1) (news:=fR 2 d.params[k]) rfl (ho.mod gl (fun _ _ h=>h)) rfl (fun h=>by cases h) (vx bG) (oG _ _) rfl (by omega) (by omega) ?_;intro v6 w6 Qd BO aJ JV;(try simp only [go_sem,Nat.reduceAdd,Nat.reduceEqDiff,Nat.reduceLT,Nat.reduceLeDiff,Nat.reduceMul,reduceCtorEq,↓reduceIte]);have hz:=(aq.trans gl).size;refine ⟨hk,v6,Qd,?_,fun b hb=>?_,(aq.trans gl).step aJ (fun b hb hl=>by have:=hf b hb;omega),rfl⟩
  ·rw [List.take_succ_eq_append_getElem hk,List.map_append,List.flatMap_append]
   simpa using BO
  ·rcases JV b hb with h | ⟨h,_⟩
   ·exact hf b h
   ·omega
 rintro _ w3 ⟨_,v,fp,ho,hf,aq,rfl⟩;rw [List.take_length] at ho;have bn:=aY.trans aq;have ar:=aq.at ar _root_.id;have au:=aq.at au _root_.id;have c3:w3.cell? a=some (.string d.name):=(bH.up bn aC (fun _ h=>h)).c0 (by simp);have z2:=aY.size;have Qe:aW w3 (Out (fun b=>S b∨b=w1.heap.size) w3) [I 4,.string d.name,v] (oH d):=by
  have Bg:dx w3 dV 3 v ((d.params.map (fR 2)).flatMap id) (d.params.map (fR 2)).length fp:=by rw [List.length_map];exact ho
  refine PZ Bg (fun b hb=>⟨ho.lt hb,fun h=>by have:=hf b hb;have:=aj.size;rcases h with h | h;have:=hS b h;omega;omega⟩) (by simp) ?_ ?_ 4 d.name
  ·obtain ⟨r0,h1,h2,_⟩:=gk;have:=h1.2;simp;omega
  ·intro j r t h1 h2;rw [List.getElem?_map] at h1 h2;cases hj:d.params[j]? with
   | none=>rw [hj] at h1;cases h1
   | some s=>
    rw [hj] at h1 h2;simp only [Option.map_some,Option.some.injEq] at h1 h2;subst h1 h2;exact oC _ _ _ _
 obtain ⟨av,cv,rfl,_,_⟩:=ho.val;(try simp only [go_sem,Nat.reduceAdd,Nat.reduceEqDiff,Nat.reduceLT,Nat.reduceLeDiff,Nat.reduceMul,reduceCtorEq,↓reduceIte,cell_of ar,Value.cells,c3]);refine aI (by rfl) ?_;refine (JG d.name (v:=.slice av d.params.length cv) rfl rfl).mono ?_;rintro _ w4 ⟨rfl,aA⟩;(try simp only [go_sem,Nat.reduceAdd,Nat.reduceEqDiff,Nat.reduceLT,Nat.reduceLeDiff,Nat.reduceMul,reduceCtorEq,↓reduceIte]);refine dp (n:=3) (vs:=[I 4,.string d.name,.slice av d.params.length cv]) rfl rfl Qe.one ?_;intro w5 bG aD eN;have gl:=aA.trans aD;have fg:=bn.trans gl;have ar:=gl.at ar _root_.id;have au:=gl.at au _root_.id;have c5:w5.cell? ⟨a.block,a.off+2,none⟩=some (.slice ac d.cons.length cc):=(bH.up fg aC (fun _ h=>h)).at (k:=2) (by simp);have JW:=gP.up fg aC (fun _ h=>h) (fun _ _ h=>h.mod fg aC);obtain ⟨adc,c2,r,e,⟨vf,rfl,jt,_⟩,_,_,ie⟩:=eh JW hi;cases e;obtain ⟨af,cf,rfl⟩:=a7 jt;have b1:(0:Int)≤i∧(i:Int) < d.cons.length:=by omega
 have oI:w5.cell? ((adc.add (i*2)).add 1)=some (.slice af d.cons[i].fields.length cf):=ie 1 (by simp);rw [add_pos _ (by decide)] at oI;(try simp only [go_sem,Nat.reduceAdd,Nat.reduceEqDiff,Nat.reduceLT,Nat.reduceLeDiff,Nat.reduceMul,reduceCtorEq,↓reduceIte,bq,br,cell_of ar,Value.cells,c5,b1,oI]);have gX:dk d i=d.cons[i].fields:=by simp [dk,List.getD,hi]
 have z1:=aj.size;have z3:=aq.size;have z4:=aA.size;have e5:w5.drew.heap.size=w5.heap.size:=rfl;have oA:∀ b,Out S w b→¬ b=w4.heap.size:=fun b hb=>by have:=hb.1;omega
 have ajH:=dB jt
 have ab8:∀ {w':World} {cs:List Value} {t:Ty},Mod S w w'→aW w' (Out S w) cs t→aW w' (Out (fun b=>S b∨b=w4.heap.size∨b=w1.heap.size) w') cs t:=fun hm h=>h.up (.refl (fun _=>False) _) aC (fun b hb=>⟨by have:=hb.1;have:=hm.size;omega,fun hh=>by
  rcases hh with h | h | h
  ·exact hb.2 h
  ·exact oA b hb h
  ·have:=hb.1;omega⟩)
 refine vD (fun ρ w'=>(∃ cs:List Value,w'.heap[w4.heap.size]? = some (.cells cs.toArray dV (0,0))∧aW w' (Out (fun b=>S b∨b=w4.heap.size∨b=w1.heap.size) w') cs (qY d i))∧w'.heap[w1.heap.size]? = some (.cells cJ.toArray dV (0,0))∧Mod (fun _=>False) w w'∧ρ.get 2=some (ptr w1.heap.size)∧ρ.get 6=some (ptr w4.heap.size)) ?_ ?_
 ·refine fL (fun m ρ w'=>m≤d.cons[i].fields.length∧Mod (· = w4.heap.size) w5 w'∧(∃ cs:List Value,w'.heap[w4.heap.size]? = some (.cells cs.toArray dV (0,0))∧aW w' (Out (fun b=>S b∨b=w4.heap.size∨b=w1.heap.size) w') cs ((d.cons[i].fields.drop m).foldr kB (oH d)))∧w'.heap[w1.heap.size]? = some (.cells cJ.toArray dV (0,0))∧ρ=[(2,ptr w1.heap.size),(6,ptr w4.heap.size),(7,.slice af d.cons[i].fields.length cf),(8,I ((m:Int) - 1))]) d.cons[i].fields.length
   ⟨Nat.le_refl _,(Mod.refl _ _).drew,⟨_,bG,?_⟩,au,?_⟩ ?_
  ·rw [List.drop_length];refine Qe.up gl.drew aC (fun b hb=>⟨by have:=hb.1;omega,fun hh=>?_⟩);rcases hh with h | h | h
   ·exact hb.2 (.inl h)
   ·have:=hb.1;omega
   ·exact hb.2 (.inr h)
  ·rw [dv (by omega) (by omega)]
  rintro m ρ w6 ⟨hm,aJ,⟨cs,ci,bw⟩,lZ,rfl⟩;unfold Pb;cases m with
  | zero=>
   have hge:decide ((((0:Nat):Int) - 1)≥0)=false:=rfl;(try simp only [go_sem,Nat.reduceAdd,Nat.reduceEqDiff,Nat.reduceLT,Nat.reduceLeDiff,Nat.reduceMul,reduceCtorEq,↓reduceIte,hge]);have e:qY d i=(d.cons[i].fields.drop 0).foldr kB (oH d):=by rw [qY,gX];rfl
   rw [e];exact ⟨⟨cs,ci,bw⟩,lZ,(fg).step aJ (fun b h hl=>by omega)⟩
  | succ m=>
   have hge:decide ((((m+1:Nat):Int) - 1)≥0)=true:=decide_eq_true (by omega);have em:((m+1:Nat):Int) - 1=(m:Int):=by omega
   rw [em] at hge ⊢;have ab9:decide ((m:Int)≥0)=true:=decide_eq_true (by omega);have um:Mod S w w6:=(an fg).step aJ (fun b h hl=>by omega);obtain ⟨Ey,c3,rr,e,BZ,mQ,ab',_⟩:=eh (jt.up aJ oA (fun _ h=>h) (fun _ _ h=>h.up aJ oA (fun _ h=>h))) (show m < d.cons[i].fields.length by omega);cases e;have b1:(0:Int)≤m∧(m:Int) < d.cons[i].fields.length:=by omega
   have Qf:=bw.len;have ew:IntKind.i64.wrap ((m:Int) - 1)=(m:Int) - 1:=dv (by omega) (by omega);(try simp only [go_sem,Nat.reduceAdd,Nat.reduceEqDiff,Nat.reduceLT,Nat.reduceLeDiff,Nat.reduceMul,reduceCtorEq,↓reduceIte,ab9]);(try simp only [go_sem,Nat.reduceAdd,Nat.reduceEqDiff,Nat.reduceLT,Nat.reduceLeDiff,Nat.reduceMul,reduceCtorEq,↓reduceIte,bq,br,b1,ab',b9,az (n:=3) ci Qf,ew]);refine aI (by rfl) ?_;have d6:Mod (fun _=>False) w6 w6.drew:=(Mod.refl _ _).drew;refine (PW (S:=fun b=>S b∨b=w4.heap.size∨b=w1.heap.size) (fun b hb=>?_) ((ab8 um BZ).aB (an d6)) (bw.aB (an d6))).mono ?_
   ·have e:w6.drew.heap.size=w6.heap.size:=rfl;have:=um.size;have:=cO ci;have:=cO lZ;rcases hb with h | h | h
    ·have:=hS b h;omega
    ·omega
    ·omega
   rintro _ w7 ⟨⟨pe,rfl,B1⟩,aN⟩;have aN:=aN.eF;(try simp only [go_sem,Nat.reduceAdd,Nat.reduceEqDiff,Nat.reduceLT,Nat.reduceLeDiff,Nat.reduceMul,reduceCtorEq,↓reduceIte]);refine bL (cs:=cs) rfl rfl (aN.at ci _root_.id) B1.len Qf B1.one ?_;intro w8 dW bg mR;(try simp only [go_sem,Nat.reduceAdd,Nat.reduceEqDiff,Nat.reduceLT,Nat.reduceLeDiff,Nat.reduceMul,reduceCtorEq,↓reduceIte,ew]);refine ⟨m,by omega,by omega,(aJ.trans (an aN)).trans bg,⟨pe,dW,?_⟩,bg.at (aN.at lZ _root_.id) (by omega),rfl⟩;rw [List.drop_eq_getElem_cons (by omega),List.foldr_cons];exact B1.aB (bg.aU (fun b hb=>.inr (.inl hb)))
 ·rintro ρ w6 ⟨⟨cs,ci,bw⟩,lZ,aJ,g2,g6⟩;(try simp only [go_sem,Nat.reduceAdd,Nat.reduceEqDiff,Nat.reduceLT,Nat.reduceLeDiff,Nat.reduceMul,reduceCtorEq,↓reduceIte,g2,g6,az (n:=3) ci bw.len]);refine bL (cs:=cJ) g2 rfl lZ bw.len rfl bw.one ?_;intro w7 dq aN jX;(try simp only [go_sem,Nat.reduceAdd,Nat.reduceEqDiff,Nat.reduceLT,Nat.reduceLeDiff,Nat.reduceMul,reduceCtorEq,↓reduceIte,aE,RV.ev,az (n:=3) dq bw.len,aF]);exact ⟨⟨cs,rfl,(bw.aB (aN.aU (fun b hb=>.inr (.inr hb)))).sub (fun b hb=>.inl hb)⟩,aJ.step aN (fun b h hl=>by omega)⟩
end
section
open Go Go.W
theorem zI (w:World):(zeroValue 3).run Tryz.prog w = .ok (I 0) w:=Tryz.zeroValue3 w
theorem aca (t:Ty):∀ {w:World} {S B:Nat→Prop} {M:Ms} {E:Env} {bd:bM} {lc:Loc} {cs:List Value},bP w S M E bd lc→aW w B cs t →
   a8 Tryz.prog 61 [ptr M.c,.agg cs.toArray] w fun r w'=>r = .bool (t.fits E)∧Mod (fun _=>False) w w':=by
 induction t using Ty.ind with
 | h t ih=>
 intro w S B M E bd lc cs hc h;obtain ⟨v,rfl,hl⟩:=h.cells;obtain ⟨a,c,rfl⟩:=a7 hl;refine ZD.calls rfl ?_;unfold Iw;(try simp only [go_sem,simprocAttr]);refine bD rfl ?_;intro w1 ar aj bC;have ig:=hc.aB aj;have jb:=ig.box;rw [t.JT];(try simp only [go_sem,simprocAttr,cell_of ar,Value.cells,cell_of jb]);refine vD (fun ρ w'=>Mod (fun _=>False) w1 w'∧((t.kind == 2)=false∧((t.kind == 4)=false∨dy E t.name t.args.length=false))∧ρ.get 0=some (ptr M.c)∧ρ.get 3=some (ptr w.heap.size)) ?_ ?_
 ·(try simp only [go_sem,simprocAttr,cell_of ar,Value.cells,cell_of jb,Og]);cases iQ:t.kind == 2 with
  | true=>
   (try simp only [go_sem,simprocAttr,cell_of ar,Value.cells,cell_of jb]);refine yb ?_;refine vO (k:=t.name) (b:=M.mp) (kt:=9) (et:=3) rfl rfl rfl rfl (zI _) (ig.params.mod (Mod.refl (fun _=>False) w1).drew _root_.id (fun _ _ x=>x)) ?_;(try simp only [go_sem,simprocAttr]);exact ⟨rfl,aj.trans (Mod.refl _ _).drew⟩
  | false=>
   (try simp only [go_sem,simprocAttr,cell_of ar,Value.cells,cell_of jb]);cases mP:t.kind == 4 with
   | false=>(try simp only [go_sem,simprocAttr]);exact .refl _ _
   | true=>
    (try simp only [go_sem,simprocAttr,cell_of ar,Value.cells,cell_of jb]);have d1:Mod (fun _=>False) w1 w1.drew:=(Mod.refl _ _).drew;have uo:=ig.aB d1;refine BY (k:=t.name) (b:=M.md) (kt:=9) (et:=152) rfl rfl rfl rfl (Tryz.zeroValue152 _) uo.aH (fun hn=>?_) (fun v d hd hr=>?_)
    ·have kE:dy E t.name t.args.length=true:=by rw [dy,hn]
     (try simp only [go_sem,simprocAttr,kE]);exact aj.trans (d1.drew)
    ·obtain ⟨ad,rfl,cs,bH,vp,vc,rfl,gk,gP⟩:=hr;obtain ⟨ap,cp,rfl⟩:=a7 gk;have c1:w1.drew.cell? ⟨ad.block,ad.off+1,none⟩=some (.slice ap d.params.length cp):=bH.at (k:=1) (by simp);have Ez:w1.cell? ⟨ad.block,ad.off+1,none⟩=some (.slice ap d.params.length cp):=c1;have kE:dy E t.name t.args.length=((d.params.length:Int) != t.args.length):=by rw [dy,hd]
     (try simp only [go_sem,simprocAttr,cell_of ar,Value.cells,Ez]);cases bo:((d.params.length:Int) != t.args.length) with
     | true=>rw [bo] at kE;(try simp only [go_sem,simprocAttr,kE]);exact aj.trans (d1.drew)
     | false=>rw [bo] at kE;(try simp only [go_sem,simprocAttr,kE]);exact d1.drew
 ·rintro ρ w2 ⟨ai,⟨iQ,mP⟩,g0,g3⟩;have hm:=aj.trans ai;have ju:=ig.aB ai;have au:=ai.at ar _root_.id;have km:(if (t.kind == 2)=true then has E.params t.name else if (t.kind == 4)=true then (if dy E t.name t.args.length=true then false else pX E t.args) else pX E t.args)=pX E t.args:=by
   rw [if_neg (by rw [iQ];simp)];rcases mP with h | h
   ·rw [if_neg (by rw [h];simp)]
   ·rw [if_neg (show ¬ dy E t.name t.args.length=true by rw [h];simp),ite_self]
  rw [km,JU];(try simp only [go_sem,simprocAttr,g0,g3,cell_of au,Value.cells]);refine mO (PP:=fun w'=>aW w' B) (l:=t.args) (B:=B) (fun k ρ w'=>Mod (fun _=>False) w w'∧k≤t.args.length∧(∀ i,∀ h:i < t.args.length,i < k→t.args[i].fits E=true)∧ρ=[(0,ptr M.c),(53,.slice a t.args.length c),(54,I t.args.length),(55,I k)])
   ⟨hm,by omega,fun i _ hi=>absurd hi (by omega),rfl⟩ hl ?_ (fun _ _ _ h=>h.one) rfl ?_ ?_
  ·rintro k _ w3 ⟨aq,hk,_,rfl⟩;exact ⟨⟨hl.mod aq aC (fun _ _ h=>h.mod aq aC),hk⟩,rfl,rfl,rfl⟩
  ·rintro k _ w3 hk w4 r b pv ⟨aq,_,ha,rfl⟩ hr bT aM aA _;(try simp only [go_sem,simprocAttr,az (n:=3) aM bT]);refine aI (by rfl) ?_;have oE:=aq.trans aA;refine (ih _ (List.getElem_mem hk) (hc.aB oE) (hr.mod aA aC)).mono ?_;rintro _ w5 ⟨rfl,aD⟩;cases hf:t.args[k].fits E with
   | false=>
    (try simp only [go_sem,simprocAttr]);refine ⟨congrArg _ (Eq.symm ?_),oE.trans aD⟩;rw [List.all_eq_false];exact ⟨_,List.getElem_mem hk,by rw [hf];simp⟩
   | true=>
    (try simp only [go_sem,simprocAttr]);refine ⟨oE.trans aD,hk,fun i hi hik=>?_⟩;rcases Nat.lt_or_ge i k with h1 | h1
    ·exact ha i hi h1
    ·have:i=k:=by omega
     subst this;exact hf
  ·rintro _ w3 ⟨aq,_,ha,rfl⟩;(try simp only [go_sem,simprocAttr]);refine ⟨congrArg _ (Eq.symm ?_),aq⟩;rw [List.all_eq_true];intro x hx;obtain ⟨i,hi,rfl⟩:=List.getElem_of_mem hx;exact ha i hi hi
theorem B2 (t:Ty) {w:World} {S:Nat→Prop} {M:Ms} {E:Env} {bd:bM} {lc:Loc} {cs:List Value} (hc:bP w S M E bd lc) (h:aW w (Out S w) cs t) :
   a8 Tryz.prog 46 [ptr M.c,.agg cs.toArray] w fun r w'=>r = .bool (fB E t)∧Mod (fun _=>False) w w':=by
 refine Zh.calls rfl ?_;unfold Ii;(try simp only [go_sem,simprocAttr]);refine bD rfl ?_;intro w1 ar aj bC;(try simp only [go_sem,simprocAttr,az (n:=3) (cs:=cs) ar h.len]);refine aI (by rfl) ?_;refine (JF t (h.aB (an aj)) (fun b hb=>hb.1)).mono ?_;rintro _ w2 ⟨rfl,ai⟩;have hm:=aj.trans ai;cases hw:nF t == 0 with
 | false=>(try simp only [go_sem,simprocAttr]);exact ⟨congrArg _ (by rw [fB,hw];rfl),hm⟩
 | true=>
  (try simp only [go_sem,simprocAttr,az (n:=3) (cs:=cs) (ai.at ar _root_.id) h.len]);refine aI (by rfl) ?_;refine (aca t (hc.aB hm) (h.aB (an hm))).mono ?_;rintro _ w3 ⟨rfl,aq⟩;(try simp only [go_sem,simprocAttr]);exact ⟨congrArg _ (by rw [fB,hw];rfl),hm.trans aq⟩
def EA (w:World) (S:Nat→Prop) (r:Value) (x:Except Int Ty):Prop:=match x with
 | .ok t=>∃ cs:List Value,r = .tuple #[.agg cs.toArray,I 0]∧aW w (Out S w) cs t
 | .error e=>∃ cs:List Value,cs.length=3∧(∀ u∈cs,u.oneCell'=true)∧r = .tuple #[.agg cs.toArray,I e]∧e≠0
theorem EA.bad (w:World) (S:Nat→Prop) {e:Int} (h:e≠0):EA w S (.tuple #[.agg cJ.toArray,I e]) (.error e):=⟨cJ,rfl,vJ,rfl,h⟩
theorem Qg (t:Ty) {w:World} {S:Nat→Prop} {M:Ms} {E:Env} {bd:bM} {lc:Loc} {cs:List Value} {kD Qh:Value} {ps:List ByteArray} {at':List Ty} (hc:bP w S M E bd lc) (h:aW w (Out S w) cs t)
   (gq:aT w kD 1 (Out S w) gw ps) (gd:aT w Qh 3 (Out S w) (aW w (Out S w)) at') :
   a8 Tryz.prog 64 [ptr M.c,.agg cs.toArray,kD,Qh] w fun r w'=>EA w' S r (iF E t ps at')∧Mod (fun _=>False) w w':=by
 obtain ⟨ap,cp,rfl⟩:=a7 gq;obtain ⟨aa,ca,rfl⟩:=a7 gd;refine ZH.calls rfl ?_;unfold Iz;(try simp only [go_sem,simprocAttr]);refine bD rfl ?_;intro w1 ar aj bC;(try simp only [go_sem,simprocAttr]);refine cM ?_;intro w2 au ai bK;have ar:=ai.at ar _root_.id;have aY:=aj.trans ai;have z1:=aj.size;have ref:∀ (w3:World) (ρ:W.Env) (e:Int) (K:Value→World→Prop),Mod (fun _=>False) w2 w3→iF E t ps at' = .error 83 →
     (∀ w4,w4.heap[w1.heap.size]? = some (.cells cJ.toArray dV (0,0))→Mod (fun _=>False) w w4→K undef w4)→∀ x y:O,x.ev ρ=some (ptr w1.heap.size)→y.ev ρ=some (.agg cJ.toArray)→Go.W.E.wp Tryz.prog w3 ρ K (.st 3 x y):=by
  intro w3 ρ e K aq _ hk x y hx hy;refine bL (cs:=cJ) hx hy (aq.at au _root_.id) rfl rfl vJ ?_;intro w4 ba aA eG;exact hk w4 ba ((aY.trans aq).step aA (fun b hb hl=>by omega))
 (try simp only [go_sem,simprocAttr]);cases bo:((ps.length:Int) != at'.length) with
 | true=>
  have hn:iF E t ps at' = .error 83:=by rw [iF,if_pos bo]
  (try simp only [go_sem,simprocAttr]);refine ref w2 _ 83 _ (.refl _ _) hn ?_ _ _ rfl rfl;intro w4 ba aA;(try simp only [go_sem,simprocAttr,aE,RV.ev,az (n:=3) ba rfl,aF]);rw [hn];exact ⟨.bad _ _ (by decide),aA⟩
 | false=>
  (try simp only [go_sem,simprocAttr]);refine mO (PP:=fun w'=>aW w' (Out S w)) (l:=at') (B:=Out S w) (fun k ρ w'=>Mod (fun _=>False) w2 w'∧k≤at'.length∧(∀ i,∀ h:i < at'.length,i < k→fB E at'[i]=true)∧ρ=[(0,ptr M.c),(2,.slice ap ps.length cp),(3,.slice aa at'.length ca),(5,ptr w.heap.size),(8,ptr w1.heap.size),(20,.slice aa at'.length ca),(21,I at'.length),(22,I k)])
   ⟨.refl _ _,by omega,fun i _ hi=>absurd hi (by omega),rfl⟩ gd ?_ (fun _ _ _ h=>h.one) rfl ?_ ?_
  ·rintro k _ w3 ⟨aq,hk,_,rfl⟩;exact ⟨⟨gd.mod (aY.trans aq) aC (fun _ _ h=>h.mod (aY.trans aq) aC),hk⟩,rfl,rfl,rfl⟩
  ·rintro k _ w3 hk w4 r b pv ⟨aq,_,ha,rfl⟩ hr bT aM aA _;have oE:=aq.trans aA;have eM:=aY.trans oE;(try simp only [go_sem,simprocAttr,az (n:=3) aM bT]);refine aI (by rfl) ?_;refine (B2 _ (hc.aB eM) (hr.up aA aC (aX (an eM)))).mono ?_;rintro _ w5 ⟨rfl,aD⟩;have gl:=oE.trans aD;cases hf:fB E at'[k] with
   | false=>
    have hn:iF E t ps at' = .error 83:=by
     have:at'.all (fB E)=false:=by rw [List.all_eq_false];exact ⟨_,List.getElem_mem hk,by rw [hf];simp⟩
     rw [iF,if_neg (by rw [bo];simp),if_pos this]
    (try simp only [go_sem,simprocAttr]);refine ref w5 _ 83 _ gl hn ?_ _ _ rfl rfl;intro w6 ci aJ;(try simp only [go_sem,simprocAttr,aE,RV.ev,az (n:=3) ci rfl,aF]);rw [hn];exact ⟨.bad _ _ (by decide),aJ⟩
   | true=>
    (try simp only [go_sem,simprocAttr]);refine ⟨gl,hk,fun i hi hik=>?_⟩;rcases Nat.lt_or_ge i k with h1 | h1
    ·exact ha i hi h1
    ·have:i=k:=by omega
     subst this;exact hf
  rintro _ w3 ⟨aq,_,ha,rfl⟩;have bn:=aY.trans aq;have cN:at'.all (fB E)=true:=by
   rw [List.all_eq_true];intro x hx;obtain ⟨i,hi,rfl⟩:=List.getElem_of_mem hx;exact ha i hi hi
  have hlen:ps.length≤at'.length:=by
   have:(ps.length:Int)=at'.length:=by simpa using bo
   omega
  have hn:iF E t ps at'=if (eX ps at' t).2≥0 then .ok (eX ps at' t).1 else .error 83:=by rw [iF,if_neg (by rw [bo];simp),if_neg (by rw [cN];simp)]
  have ar:=aq.at ar _root_.id;have au:=aq.at au _root_.id;(try simp only [go_sem,simprocAttr,az (n:=3) (cs:=cs) ar h.len]);refine aI (by rfl) ?_;have z3:=aq.size;have hs:∀ b,b < w.heap.size→(S b∨b=w1.heap.size)→S b:=fun b hb h=>by
   rcases h with h | h
   ·exact h
   ·omega
  refine (JS t (S:=fun b=>S b∨b=w1.heap.size) (h.ext (an bn) hs) ((x7.mk gq gd hlen).ext (an bn) hs) (fun b hb=>by
   have:=bn.size;rcases hb with h | h
   ·have:=hc.lt b h;omega
   ·omega)).mono ?_
  rintro _ w4 ⟨⟨hM,rfl,bw⟩,aA⟩;(try simp only [go_sem,simprocAttr]);refine dp (n:=3) (vs:=hM) rfl bw.len bw.one ?_;intro w5 bG aD eN;have gl:=aq.trans (aA.trans aD);cases fM:decide ((eX ps at' t).2≥0) with
  | false=>
   have hn:iF E t ps at' = .error 83:=by rw [hn,if_neg (of_decide_eq_false fM)]
   (try simp only [go_sem,simprocAttr]);refine ref w5 _ 83 _ gl hn ?_ _ _ rfl rfl;intro w6 ci aJ;(try simp only [go_sem,simprocAttr,aE,RV.ev,az (n:=3) ci rfl,aF]);rw [hn];exact ⟨.bad _ _ (by decide),aJ⟩
  | true=>
   have hn:iF E t ps at' = .ok (eX ps at' t).1:=by rw [hn,if_pos (of_decide_eq_true fM)]
   (try simp only [go_sem,simprocAttr,az (n:=3) bG bw.len]);have z2:=ai.size;have z4:=bn.size;refine bL (cs:=cJ) rfl rfl ((aA.trans aD).at au _root_.id) bw.len rfl bw.one ?_;intro w6 ci aJ gN;(try simp only [go_sem,simprocAttr,aE,RV.ev,az (n:=3) ci bw.len,aF]);rw [hn];have lh:Mod (fun _=>False) w w6:=(aY.trans gl).step aJ (fun b hb hl=>by omega);exact ⟨⟨hM,rfl,((bw.aB (an aD)).aB (aJ.aU (fun b hb=>.inr hb))).sub (fun b hb=>.inl hb)⟩,lh⟩
end
section
open Go Go.W
def jv (E:Env) (b:Bd) (bd:bM):Except Int bM:=
 if (!jU b.name||has bd b.name)=true then .error 82 else if fB E b.type=true then .ok (bO bd b.name 1) else .error 83
theorem Qi (b:Bd) {w:World} {S B:Nat→Prop} {M:Ms} {E:Env} {bd:bM} {lc:Loc} {cs:List Value} (hc:bP w S M E bd lc) (h:ff w (Out S w) cs b) :
   a8 Tryz.prog 88 [ptr M.c,.agg cs.toArray] w fun r w'=>(match jv E b bd with
    | .ok dN=>r=I 0∧bP w' S M E dN lc
    | .error e=>r=I e∧e≠0∧∃ dN,bP w' S M E dN lc)∧Mod M.two w w':=by
 obtain ⟨⟨a1,a2,a3,a4,a5,a6⟩,⟨b1,b2,b3,b4,b5⟩,⟨c1,c2,c3,c4⟩,⟨d1,d2,d3⟩,⟨e1,e2⟩,f1⟩:=Ms.ne hc.nodup;obtain ⟨tc,ec,rfl,fT,eW,jw⟩:=h;refine Z'.calls rfl ?_;unfold IY;(try simp only [go_sem,Nat.reduceAdd,Nat.reduceEqDiff,Nat.reduceLT,Nat.reduceLeDiff,Nat.reduceMul,reduceCtorEq,↓reduceIte]);refine bD rfl ?_;intro w1 ar aj bC;have ig:=hc.aB aj;have l1:=fT.len;(try simp only [go_sem,Nat.reduceAdd,Nat.reduceEqDiff,Nat.reduceLT,Nat.reduceLeDiff,Nat.reduceMul,reduceCtorEq,↓reduceIte,cell_of ar,Value.cells]);refine aI (by rfl) ?_;refine (Ee b.name jw).mono ?_;rintro _ _ ⟨rfl,rfl⟩;have EB:Mod (fun _=>False) w1 w1.drew:=(Mod.refl _ _).drew;have uo:=ig.aB EB;have jb:=ig.box;cases hn:jU b.name with
 | false=>
  have dM:jv E b bd = .error 82:=by rw [jv,if_pos (by rw [hn];rfl)]
  rw [dM];(try simp only [go_sem,Nat.reduceAdd,Nat.reduceEqDiff,Nat.reduceLT,Nat.reduceLeDiff,Nat.reduceMul,reduceCtorEq,↓reduceIte]);exact ⟨⟨by decide,_,uo⟩,an (aj.trans EB)⟩
 | true=>
  (try simp only [go_sem,Nat.reduceAdd,Nat.reduceEqDiff,Nat.reduceLT,Nat.reduceLeDiff,Nat.reduceMul,reduceCtorEq,↓reduceIte,cell_of ar,Value.cells,cell_of jb]);refine yb ?_;refine vO (k:=b.name) (b:=M.mb) (kt:=9) (et:=3) rfl rfl rfl rfl (zI _) uo.gF ?_;have iG:decide ((aG bd b.name).getD 0 > 0)=has bd b.name:=rfl;cases hh:has bd b.name with
  | true=>
   rw [hh] at iG;have dM:jv E b bd = .error 82:=by rw [jv,if_pos (by rw [hh];simp)]
   rw [dM];(try simp only [go_sem,Nat.reduceAdd,Nat.reduceEqDiff,Nat.reduceLT,Nat.reduceLeDiff,Nat.reduceMul,reduceCtorEq,↓reduceIte,iG]);exact ⟨⟨by decide,_,uo.aB (Mod.refl _ _)⟩,an (aj.trans EB)⟩
  | false=>
   rw [hh] at iG;(try simp only [go_sem,Nat.reduceAdd,Nat.reduceEqDiff,Nat.reduceLT,Nat.reduceLeDiff,Nat.reduceMul,reduceCtorEq,↓reduceIte,iG,cell_of ar,Value.cells,cell_of jb]);have yc:=EB.drew;have Qj:=ig.aB yc;refine mS (k:=b.name) (b:=M.mb) (v:=I 1) (kt:=9) (et:=3) rfl rfl rfl rfl rfl Qj.gF (show RI (I 1) 1 from rfl) ?_;intro w2 oe ai bK;have fU:Mod M.two w1 w2:=(an yc).trans (ai.aU (fun _ h=>.inl h));have ju:bP w2 S M E (bO bd b.name 1) lc:=ig.dz fU oe (Qj.locals.ty ai (fun x hx=>by subst hx;exact hc.two _ (.inl rfl)) (fun e=>f1 e.symm));have oA:¬ M.two w.heap.size:=fun h=>by
    rcases h with h | h
    ·have:=hc.lt _ (hc.two _ (.inl rfl));omega
    ·have:=hc.lt _ (hc.two _ (.inr rfl));omega
   have au:=fU.at ar oA;have k1:=iN (off:=1) (n:=3) au (by simp;omega);rw [List.drop_succ_cons,List.drop_zero,List.take_left' l1] at k1;(try simp only [go_sem,Nat.reduceAdd,Nat.reduceEqDiff,Nat.reduceLT,Nat.reduceLeDiff,Nat.reduceMul,reduceCtorEq,↓reduceIte,k1]);refine aI (by rfl) ?_;have aY:Mod M.two w w2:=(an aj).trans fU;refine (B2 b.type ju (fT.up aY (fun x hx hh=>hx.2 (hc.two _ hh)) (aX (aY.aU hc.two)))).mono ?_;rintro _ w3 ⟨rfl,aq⟩;have dM:jv E b bd=if fB E b.type=true then .ok (bO bd b.name 1) else .error 83:=by rw [jv,if_neg (by rw [hn,hh];simp)]
   rw [dM];cases hr:fB E b.type with
   | true=>(try simp only [go_sem,Nat.reduceAdd,Nat.reduceEqDiff,Nat.reduceLT,Nat.reduceLeDiff,Nat.reduceMul,reduceCtorEq,↓reduceIte]);exact ⟨ju.aB aq,aY.trans (an aq)⟩
   | false=>(try simp only [go_sem,Nat.reduceAdd,Nat.reduceEqDiff,Nat.reduceLT,Nat.reduceLeDiff,Nat.reduceMul,reduceCtorEq,↓reduceIte]);exact ⟨⟨by decide,_,ju.aB aq⟩,aY.trans (an aq)⟩
end
section
open Go Go.W
abbrev St:=bM×Loc
def jx (E:Env):List Bd→bM→Except Int bM
 | [],bd=>.ok bd
 | b::l,bd=>match jv E b bd with
  | .error x=>.error x
  | .ok dN=>jx E l dN
def cm:List Bd→Loc→Loc
 | [],lc=>lc
 | b::l,lc=>cm l (bO lc b.name b.type)
def iH:List ByteArray→Loc→Loc
 | [],lc=>lc
 | s::l,lc=>iH l (gO lc s)
def lm (bs:List Bd) (lc:Loc):Loc:=iH (bs.map Bd.name) lc
def nG:List ByteArray→bM→Except Int bM
 | [],bd=>.ok bd
 | s::l,bd=>if (!jU s||has bd s)=true then .error 82 else nG l (bO bd s 1)
def ij (ps:List ByteArray) (bs:List Ty):List ByteArray→List Ty→Loc→Except Int Loc
 | s::l,f::fs,lc=>if (eX ps bs f).2≥0 then ij ps bs l fs (bO lc s (eX ps bs f).1) else .error 83
 | _,_,lc=>.ok lc
def l9 (all:List Al) (i:Nat) (of:Ty):Bool:=match all[i]? with
 | none=>false
 | some a=>
  if a.kind == 1 then (if (a.num != 0||of.kind != 4)=true then false else !(all.take i).any (fun b=>(b.kind == a.kind&&aQ b.aZ a.aZ)&&b.num == a.num))
  else if a.kind == 2 then (if ((((!aQ a.aZ bI||decide ((a.vars.length:Int) > 0))||of.kind != 1)||decide (a.num < -4611686018427387904))||decide (a.num > 4611686018427387903))=true then false else !(all.take i).any (fun b=>(b.kind == a.kind&&aQ b.aZ a.aZ)&&b.num == a.num))
  else if a.kind == 3 then ((aQ a.aZ bI&&a.num == 0)&&(a.vars.length:Int) == 0)&&(i:Int) == Wr (all.length - 1)
  else false
noncomputable def nH (E:Env):List Ty→Except Int Ty
 | [f,a]=>if (f.kind != 3)=true then .error 83 else match f.args with
  | x::y::_=>if gg x a=true then .ok y else .error 83
  | _=>.error 83
 | _=>.error 84
def oJ (n:ByteArray):List Ty→Except Int Ty
 | [a,b]=>if (a.kind != 1||b.kind != 1)=true then .error 83 else .ok ((fS n).getD default)
 | _=>.error 84
def pZ (b:Bd):List Ty→Except Int Ty
 | t::_=>if Wr (Wr (b.type.size+t.size)+1) > 500 then .error 83 else .ok (kB b.type t)
 | _=>.error 84
def mT (E:Env) (of:Ty) (k:Int) (aZ:ByteArray) (vars:List ByteArray) (run:St→Except Int (Ty×St)) (st:St):Except Int (Ty×St):=
 if (k != 1)=true then run st else match aG E.cons aZ with
  | none=>.error 82
  | some x=>if (!aQ x.1.name of.name)=true then .error 82
   else if (((dk x.1 x.2).length:Int) != vars.length)=true then .error 84
   else match nG vars st.1 with
    | .error e=>.error e
    | .ok bd=>match ij x.1.params of.args vars (dk x.1 x.2) st.2 with
     | .error e=>.error e
     | .ok lc=>match run (bd,lc) with
      | .error e=>.error e
      | .ok y=>.ok (y.1,(y.2.1,iH vars y.2.2))
mutual
noncomputable def cj (E:Env):Ex→St→Except Int (Ty×St)
 | .mk k n m ts xs bs al,st=>
  if j5 (.mk k n m ts xs bs al)=false then .error 84
  else if k=1 then (match aG st.2 n with | none=>.error 82 | some t=>.ok (t,st))
  else if k=2 then .ok (.mk 1 bI [],st)
  else if k=3 then (match aG E.ak n with | none=>.error 82 | some d=>(iF E d.type d.params ts).map (fun t=>(t,st)))
  else if k=4 then (match aG E.cons n with | none=>.error 82 | some x=>(iF E (qY x.1 x.2) x.1.params ts).map (fun t=>(t,st)))
  else if k=12 then (match ts with | []=>.error 84 | t::_=>if fB E t=true then .ok (t,st) else .error 83)
  else if k=5 then (match cG E xs st with | .error x=>.error x | .ok y=>(nH E y.1).map (fun t=>(t,y.2)))
  else if k=9 then (match cG E xs st with | .error x=>.error x | .ok y=>(oJ n y.1).map (fun t=>(t,y.2)))
  else if k=10 then (match cG E xs st with | .error x=>.error x | .ok y=>.ok (y.1.getLastD default,y.2))
  else if k=6 then (match bs with
   | []=>.error 84
   | b::_=>match jv E b st.1 with
    | .error x=>.error x
    | .ok bd=>match cG E xs (bd,bO st.2 b.name b.type) with
     | .error x=>.error x
     | .ok y=>(pZ b y.1).map (fun t=>(t,(y.2.1,gO y.2.2 b.name))))
  else if k=7∨k=11 then (match jx E bs st.1 with
   | .error x=>.error x
   | .ok bd=>match jc E bs (bd,if k=7 then cm bs st.2 else st.2) with
    | .error x=>.error x
    | .ok bV=>match cG E xs (bV.1,cm bs bV.2) with
     | .error x=>.error x
     | .ok y=>.ok (y.1.headD default,(y.2.1,lm bs y.2.2)))
  else match cG E xs st with
   | .error x=>.error x
   | .ok y=>if ((y.1.headD default).kind != 1&&(y.1.headD default).kind != 4)=true then .error 83 else fV E al (y.1.headD default) al 0 default y.2
noncomputable def cG (E:Env):List Ex→St→Except Int (List Ty×St)
 | [],st=>.ok ([],st)
 | e::l,st=>match cj E e st with
  | .error x=>.error x
  | .ok y=>match cG E l y.2 with
   | .error x=>.error x
   | .ok z=>.ok (y.1::z.1,z.2)
noncomputable def jc (E:Env):List Bd→St→Except Int St
 | [],st=>.ok st
 | .mk _ t v::l,st=>match cj E v st with
  | .error x=>.error x
  | .ok y=>if gg y.1 t=true then jc E l y.2 else .error 83
noncomputable def fV (E:Env) (all:List Al) (of:Ty):List Al→Nat→Ty→St→Except Int (Ty×St)
 | [],_,first,st=>.ok (first,st)
 | .mk k aZ num vars body::l,i,first,st=>
  if l9 all i of=false then .error 84
  else match mT E of k aZ vars (cj E body) st with
   | .error x=>.error x
   | .ok y=>if i=0 then fV E all of l (i+1) y.1 y.2 else if gg y.1 first=true then fV E all of l (i+1) first y.2 else .error 83
end
end
section
open Go Go.W
mutual
def Ty.fC:Ty→Nat
 | .mk _ _ l=>1+jy l
def jy:List Ty→Nat
 | []=>0
 | t::l=>t.fC+jy l
end
mutual
def Ty.wf (E:Env):Ty→Bool
 | .mk k n l=>((k != 3||l.length == 2)&&(k != 4 || !dy E n l.length))&&sP E l
def sP (E:Env):List Ty→Bool
 | []=>true
 | t::l=>t.wf E&&sP E l
end
theorem Ty.EC (t:Ty):t.fC=1+jy t.args:=by cases t;rw [Ty.fC];rfl
theorem Ty.oK (E:Env) (t:Ty):t.wf E=(((t.kind != 3||t.args.length == 2)&&(t.kind != 4 || !dy E t.name t.args.length))&&sP E t.args):=by cases t;rw [Ty.wf];rfl
theorem ur (E:Env) (l:List Ty):sP E l=l.all (Ty.wf E):=by
 induction l with
 | nil=>rfl
 | cons t l ih=>rw [sP,ih,List.all_cons]
theorem acb {l:List Ty} {u:Ty} (h:u∈l):u.fC≤jy l:=by
 induction l with
 | nil=>cases h
 | cons t l ih=>
  rw [jy];rcases List.mem_cons.1 h with rfl | h
  ·omega
  ·have:=ih h;omega
theorem acd (t:Ty):1≤t.fC:=by rw [t.EC];omega
theorem JX (t:Ty):t.fC≤1000000→t.size=(t.fC:Int):=by
 induction t using Ty.ind with
 | h t ih=>
 have key:∀ (l:List Ty),(∀ u∈l,u.fC≤1000000→u.size=(u.fC:Int))→∀ n:Int,1≤n→n+jy l≤1000001→lW l n=n+jy l:=by
  intro l
  induction l with
  | nil=>intro _ n _ _;rw [lW,jy];omega
  | cons u l o9=>
   intro hu n h1 h2;rw [jy] at h2;rw [lW,jy,hu u (by simp) (by omega),show Wr (n+(u.fC:Int))=n+u.fC from dv (by omega) (by omega),o9 (fun v hv=>hu v (by simp [hv])) _ (by omega) (by omega)];omega
 intro h;rw [t.EC] at h ⊢;rw [t.size_eq,key t.args ih 1 (by omega) (by omega)];omega
theorem ace (t:Ty):t.nodes≤500→(t.fC:Int)=t.nodes:=by
 induction t using Ty.ind with
 | h t ih=>
 have key:∀ (l:List Ty),(∀ u∈l,u.nodes≤500→(u.fC:Int)=u.nodes)→∀ n:Int,1≤n→n≤1001→n≤ku l n∧(ku l n≤500→ku l n=n+jy l):=by
  intro l
  induction l with
  | nil=>intro _ n h1 h2;rw [ku,jy];exact ⟨Int.le_refl _,fun _=>by omega⟩
  | cons u l o9=>
   intro hu n h1 h2;obtain ⟨⟨a1,a2⟩,_⟩:=PF u;rw [ku,jy]
   split
   ·exact ⟨Int.le_refl _,fun h=>by omega⟩
   ·have e:Wr (n+u.nodes)=n+u.nodes:=dv (by omega) (by omega);rw [e];obtain ⟨b1,b2⟩:=o9 (fun v hv=>hu v (by simp [hv])) (n+u.nodes) (by omega) (by omega);refine ⟨by omega,fun h=>?_⟩;have e1:=b2 h;have e2:=hu u (by simp) (by omega);omega
 intro h;obtain ⟨k1,k2⟩:=key t.args ih 1 (by omega) (by omega);rw [t.Hu] at h ⊢;rw [t.EC];have:=k2 (by omega);omega
def Good (E:Env) (t:Ty):Prop:=t.wf E=true∧t.fC≤500
def df (E:Env) (lc:Loc):Prop:=∀ p∈lc,Good E p.2
structure lq (E:Env):Prop where
 cons:∀ n x,aG E.cons n=some x→(∃ d,aG E.aH x.1.name=some d∧d.params.length=x.1.params.length)∧∀ f∈dk x.1 x.2,f.wf E=true
 ak:∀ n f,aG E.ak n=some f→f.type.wf E=true
theorem acf (E:Env) (t:Ty):t.may=true→t.fits E=true→t.wf E=true:=by
 induction t using Ty.ind with
 | h t ih=>
 intro h1 h2;rw [t.Pq,Bool.and_eq_true] at h1;obtain ⟨hh,hm⟩:=h1;rw [t.JT] at h2;rw [t.oK,ur];have kids:pX E t.args=true→t.args.all (Ty.wf E)=true:=fun hf=>by
  rw [JU,List.all_eq_true] at hf;have fP:∀ u∈t.args,u.may=true:=by
   intro u hu;have:(t.args.any fun t=>!t.may)=false:=by rw [Ps,hm];rfl
   have:=List.any_eq_false.1 this u hu
   simpa using this
  rw [List.all_eq_true];exact fun u hu=>ih u hu (fP u hu) (hf u hu)
 unfold nE at hh;by_cases k2:(t.kind == 2)=true
 ·have e2:t.kind=2:=by simpa using k2
  rw [e2] at hh ⊢;have:t.args=[]:=by
   have:(ue t.name&&((t.args.length:Int) == 0))=true:=hh;simp only [Bool.and_eq_true,beq_iff_eq] at this;exact List.eq_nil_of_length_eq_zero (by omega)
  rw [this];rfl
 ·rw [if_neg k2] at h2;by_cases k4:(t.kind == 4)=true
  ·have e4:t.kind=4:=by simpa using k4
   rw [if_pos k4] at h2
   split at h2
   ·cases h2
   ·rename_i hb;rw [e4,kids h2];have:dy E t.name t.args.length=false:=by simpa using hb
    rw [this];rfl
  ·rw [if_neg k4] at h2;rw [kids h2];have n4:(t.kind != 4)=true:=by simpa using k4
   rw [n4];by_cases k3:(t.kind == 3)=true
   ·have e3:t.kind=3:=by simpa using k3
    rw [e3] at hh ⊢;have:(aQ t.name bI&&((t.args.length:Int) == 2))=true:=hh;simp only [Bool.and_eq_true,beq_iff_eq] at this;have:t.args.length=2:=by omega
    rw [this];rfl
   ·have n3:(t.kind != 3)=true:=by simpa using k3
    rw [n3];rfl
theorem yd {E:Env} {t:Ty} (h:fB E t=true):Good E t:=by
 rw [fB,Bool.and_eq_true] at h;have h0:nF t=0:=by simpa using h.1
 unfold nF at h0
 split at h0
 ·omega
 ·rename_i hm
  split at h0
  ·omega
  ·rename_i hn;have:=ace t (by omega);exact ⟨acf E t (by simpa using hm) h.2,by omega⟩
theorem JY {E:Env} {ps:List ByteArray} {bs:List Ty} (hb:∀ b∈bs,Good E b) (hle:ps.length≤bs.length) (t:Ty):t.wf E=true→∀ left:Int,0≤left→left≤500 →
   -501≤(ez ps bs t left).2∧(ez ps bs t left).2≤left - 1∧(0≤(ez ps bs t left).2→(ez ps bs t left).1.wf E=true∧((ez ps bs t left).1.fC:Int)=left - (ez ps bs t left).2):=by
 induction t using Ty.ind with
 | h t ih=>
 intro hw left h1 h2
 have key:∀ (l:List Ty),(∀ u∈l,u.wf E=true→∀ left:Int,0≤left→left≤500 →
     -501≤(ez ps bs u left).2∧(ez ps bs u left).2≤left - 1∧(0≤(ez ps bs u left).2→(ez ps bs u left).1.wf E=true∧((ez ps bs u left).1.fC:Int)=left - (ez ps bs u left).2))→(∀ u∈l,u.wf E=true) →
     ∀ left:Int,-501≤left→left≤500 → -501≤(ft ps bs l left).2∧(ft ps bs l left).2≤left∧(0≤(ft ps bs l left).2→sP E (ft ps bs l left).1=true∧(ft ps bs l left).1.length=l.length∧(jy (ft ps bs l left).1:Int)=left - (ft ps bs l left).2):=by
  intro l
  induction l with
  | nil=>intro _ _ left h1 h2;rw [ft];exact ⟨h1,Int.le_refl _,fun _=>⟨rfl,rfl,by rw [jy];omega⟩⟩
  | cons u l o9=>
   intro hu hw left h1 h2;rw [ft]
   split
   ·exact ⟨h1,Int.le_refl _,fun h=>by simp only at h;omega⟩
   ·obtain ⟨a1,a2,a3⟩:=hu u (by simp) (hw u (by simp)) left (by omega) h2;obtain ⟨b1,b2,b3⟩:=o9 (fun v hv=>hu v (by simp [hv])) (fun v hv=>hw v (by simp [hv])) (ez ps bs u left).2 (by omega) (by omega);refine ⟨b1,by simp only;omega,fun h=>?_⟩;simp only at h ⊢;obtain ⟨c1,c2,c3⟩:=b3 h;obtain ⟨d1,d2⟩:=a3 (by omega);rw [sP,jy,c1,d1];exact ⟨rfl,by rw [List.length_cons,List.length_cons,c2],by omega⟩
 rw [t.oK,Bool.and_eq_true,ur,List.all_eq_true] at hw;have none:((t.kind == 2)=false∨jV ps t.name=none) → -501≤(ez ps bs t left).2∧(ez ps bs t left).2≤left - 1∧(0≤(ez ps bs t left).2→(ez ps bs t left).1.wf E=true∧((ez ps bs t left).1.fC:Int)=left - (ez ps bs t left).2):=fun ga=>by
  rw [JI ga];have e:Wr (left - 1)=left - 1:=dv (by omega) (by omega);rw [e];obtain ⟨b1,b2,b3⟩:=key t.args ih hw.2 (left - 1) (by omega) (by omega);refine ⟨b1,b2,fun h=>?_⟩;obtain ⟨c1,c2,c3⟩:=b3 h;show (Ty.wf E (.mk _ _ _))=true∧((Ty.fC (.mk _ _ _):Nat):Int)=_;rw [Ty.wf,Ty.fC,c1,c2,hw.1];exact ⟨rfl,by omega⟩
 cases hk:t.kind == 2 with
 | false=>exact none (.inl hk)
 | true=>
  cases hi:jV ps t.name with
  | none=>exact none (.inr hi)
  | some i=>
   rw [JH hk hi];have aP:i < bs.length:=Nat.lt_of_lt_of_le (PY hi) hle;have hd:bs.getD i default=bs[i]:=by simp [List.getD,aP]
   rw [hd];obtain ⟨g1,g2⟩:=hb _ (List.getElem_mem aP);have g3:=acd bs[i];rw [JX bs[i] (by omega)];have e:Wr (left - (bs[i].fC:Int))=left - bs[i].fC:=dv (by omega) (by omega);rw [e];exact ⟨by simp only;omega,by simp only;omega,fun _=>⟨g1,by simp only;omega⟩⟩
theorem JZ {E:Env} {ps:List ByteArray} {bs:List Ty} (hb:∀ b∈bs,Good E b) (hle:ps.length≤bs.length) {t:Ty} (hw:t.wf E=true) (h:(eX ps bs t).2≥0):Good E (eX ps bs t).1:=by
 obtain ⟨a,b,c⟩:=JY hb hle t hw 500 (by omega) (by omega);obtain ⟨d,e⟩:=c h;exact ⟨d,by unfold eX at h ⊢;omega⟩
theorem Qk {E:Env} {t u:Ty} {ps:List ByteArray} {at':List Ty} (hw:t.wf E=true) (h:iF E t ps at' = .ok u):Good E u:=by
 unfold iF at h
 split at h
 ·cases h
 ·rename_i bo
  split at h
  ·cases h
  ·rename_i cN
   split at h
   ·rename_i fM;cases h;have hl:(ps.length:Int)=at'.length:=by simpa using bo
    have ha:at'.all (fB E)=true:=by simpa using cN
    rw [List.all_eq_true] at ha;exact JZ (fun b hb=>yd (ha b hb)) (by omega) hw fM
   ·cases h
theorem acg {E:Env} {d d':Dt} (h:aG E.aH d.name=some d') (hl:d'.params.length=d.params.length):(oH d).wf E=true:=by
 have e:dy E d.name (d.params.map ya).length=false:=by
  rw [dy,h];simp [hl]
 rw [oH,Ty.wf,e,ur];have:(d.params.map ya).all (Ty.wf E)=true:=by
  rw [List.all_eq_true];intro x hx;obtain ⟨s,_,rfl⟩:=List.mem_map.1 hx;rw [ya,Ty.wf];rfl
 rw [this];rfl
theorem Ql {E:Env} {a b:Ty} (ha:a.wf E=true) (hb:b.wf E=true):(kB a b).wf E=true:=by
 rw [kB,Ty.wf,sP,sP,sP,ha,hb];rfl
theorem Qm {E:Env} (hE:lq E) {n:ByteArray} {x:Dt×Nat} (h:aG E.cons n=some x):(qY x.1 x.2).wf E=true:=by
 obtain ⟨⟨d,hd,hl⟩,hf⟩:=hE.cons n x h;have:∀ (l:List Ty),(∀ f∈l,f.wf E=true)→(l.foldr kB (oH x.1)).wf E=true:=by
  intro l
  induction l with
  | nil=>intro _;exact acg hd hl
  | cons f l ih=>intro h;rw [List.foldr_cons];exact Ql (h f (by simp)) (ih (fun g hg=>h g (by simp [hg])))
 exact this _ hf
theorem Qn {E:Env} (hE:lq E) {aZ:ByteArray} {x:Dt×Nat} {of:Ty} (h:aG E.cons aZ=some x) (hn:aQ x.1.name of.name=true) (hw:of.wf E=true) (hk:of.kind=4):x.1.params.length=of.args.length:=by
 obtain ⟨⟨d,hd,hl⟩,_⟩:=hE.cons aZ x h;have en:x.1.name=of.name:=by rw [oD] at hn;simpa using hn
 rw [of.oK,hk,Bool.and_eq_true,Bool.and_eq_true] at hw;have hb:dy E of.name of.args.length=false:=by simpa using hw.1.2
 rw [dy,← en,hd] at hb;have:(d.params.length:Int)=of.args.length:=by simpa using hb
 omega
theorem J0 {E:Env} {t u:Ty} (h:t.wf E=true) (hu:u∈t.args):u.wf E=true:=by
 rw [t.oK,Bool.and_eq_true,ur,List.all_eq_true] at h;exact h.2 u hu
theorem B3 {E:Env} {t u:Ty} (h:Good E t) (hu:u∈t.args):Good E u:=by
 refine ⟨J0 h.1 hu,?_⟩;have:=acb hu;have h2:=h.2;rw [t.EC] at h2;omega
theorem J1 {E:Env} {t:Ty} (h:t.wf E=true) (hk:t.kind=3):t.args.length=2:=by
 rw [t.oK,hk,Bool.and_eq_true,Bool.and_eq_true] at h
 simpa using h.1.1
theorem Qo {α:Type} {l:List (ByteArray×α)} {k:ByteArray} {v:α} (h:aG l k=some v):∃ p∈l,p.1=k∧p.2=v:=by
 unfold aG at h;obtain ⟨p,hp,rfl⟩:=Option.map_eq_some_iff.1 h;exact ⟨p,List.mem_of_find?_eq_some hp,by simpa using List.find?_some hp,rfl⟩
theorem ach {α:Type} {l:List (ByteArray×α)} {k:ByteArray} {v:α} {p:ByteArray×α} (h:p∈bO l k v):p∈l∨p=(k,v):=by
 unfold bO at h
 split at h
 ·exact List.mem_or_eq_of_mem_set h
 ·rcases List.mem_append.1 h with h | h
  ·exact .inl h
  ·exact .inr (List.mem_singleton.1 h)
theorem Qp {α:Type} {l:List (ByteArray×α)} {k:ByteArray} {p:ByteArray×α} (h:p∈gO l k):p∈l:=by
 unfold gO at h
 split at h
 ·exact List.mem_of_mem_eraseIdx h
 ·exact h
theorem df.put {E:Env} {lc:Loc} (h:df E lc) {n:ByteArray} {t:Ty} (ht:Good E t):df E (bO lc n t):=fun p hp=>by
 rcases ach hp with hp | rfl
 ·exact h p hp
 ·exact ht
theorem df.del {E:Env} {lc:Loc} (h:df E lc) (n:ByteArray):df E (gO lc n):=fun p hp=>h p (Qp hp)
theorem df.iH {E:Env}:∀ (l:List ByteArray) {lc:Loc},df E lc→df E (iH l lc)
 | [],_,h=>h
 | s::l,_,h=>df.iH l (h.del s)
theorem df.cm {E:Env}:∀ (l:List Bd) {lc:Loc},df E lc→(∀ b∈l,Good E b.type)→df E (cm l lc)
 | [],_,h,_=>h
 | b::l,_,h,hb=>df.cm l (h.put (hb b (by simp))) (fun c hc=>hb c (by simp [hc]))
theorem df.get {E:Env} {lc:Loc} (h:df E lc) {n:ByteArray} {t:Ty} (ht:aG lc n=some t):Good E t:=by
 obtain ⟨p,hp,_,rfl⟩:=Qo ht;exact h p hp
theorem zV {E:Env} {b:Bd} {bd dN:bM} (h:jv E b bd = .ok dN):Good E b.type:=by
 unfold jv at h
 split at h
 ·cases h
 ·split at h
  ·rename_i hr;exact yd hr
  ·cases h
theorem J2 {E:Env}:∀ (l:List Bd) {bd dN:bM},jx E l bd = .ok dN→∀ b∈l,Good E b.type
 | [],_,_,_=>fun b hb=>by cases hb
 | c::l,bd,dN,h=>fun b hb=>by
  rw [jx] at h
  split at h
  ·cases h
  ·rename_i bd2 au;rcases List.mem_cons.1 hb with rfl | hb
   ·exact zV au
   ·exact J2 l h b hb
end
section
open Go Go.W
theorem lu (E:Env) (e:Ex) (st:St):cj E e st =
   if j5 e=false then .error 84
   else if e.kind=1 then (match aG st.2 e.name with | none=>.error 82 | some t=>.ok (t,st))
   else if e.kind=2 then .ok (.mk 1 bI [],st)
   else if e.kind=3 then (match aG E.ak e.name with | none=>.error 82 | some d=>(iF E d.type d.params e.types).map (fun t=>(t,st)))
   else if e.kind=4 then (match aG E.cons e.name with | none=>.error 82 | some x=>(iF E (qY x.1 x.2) x.1.params e.types).map (fun t=>(t,st)))
   else if e.kind=12 then (match e.types with | []=>.error 84 | t::_=>if fB E t=true then .ok (t,st) else .error 83)
   else if e.kind=5 then (match cG E e.args st with | .error x=>.error x | .ok y=>(nH E y.1).map (fun t=>(t,y.2)))
   else if e.kind=9 then (match cG E e.args st with | .error x=>.error x | .ok y=>(oJ e.name y.1).map (fun t=>(t,y.2)))
   else if e.kind=10 then (match cG E e.args st with | .error x=>.error x | .ok y=>.ok (y.1.getLastD default,y.2))
   else if e.kind=6 then (match e.binds with
    | []=>.error 84
    | b::_=>match jv E b st.1 with
     | .error x=>.error x
     | .ok bd=>match cG E e.args (bd,bO st.2 b.name b.type) with
      | .error x=>.error x
      | .ok y=>(pZ b y.1).map (fun t=>(t,(y.2.1,gO y.2.2 b.name))))
   else if e.kind=7∨e.kind=11 then (match jx E e.binds st.1 with
    | .error x=>.error x
    | .ok bd=>match jc E e.binds (bd,if e.kind=7 then cm e.binds st.2 else st.2) with
     | .error x=>.error x
     | .ok bV=>match cG E e.args (bV.1,cm e.binds bV.2) with
      | .error x=>.error x
      | .ok y=>.ok (y.1.headD default,(y.2.1,lm e.binds y.2.2)))
   else match cG E e.args st with
    | .error x=>.error x
    | .ok y=>if ((y.1.headD default).kind != 1&&(y.1.headD default).kind != 4)=true then .error 83 else fV E e.alts (y.1.headD default) e.alts 0 default y.2:=by
 cases e;rw [cj.eq_def];rfl
theorem B4 (E:Env) (all:List Al) (of:Ty) (a:Al) (l:List Al) (i:Nat) (first:Ty) (st:St):fV E all of (a::l) i first st =
   if l9 all i of=false then .error 84
   else match mT E of a.kind a.aZ a.vars (cj E a.body) st with
    | .error x=>.error x
    | .ok y=>if i=0 then fV E all of l (i+1) y.1 y.2 else if gg y.1 first=true then fV E all of l (i+1) first y.2 else .error 83:=by
 cases a;rw [fV];rfl
theorem B5 (E:Env) (b:Bd) (l:List Bd) (st:St):jc E (b::l) st=(match cj E b.value st with
   | .error x=>.error x
   | .ok y=>if gg y.1 b.type=true then jc E l y.2 else .error 83):=by
 cases b;rw [jc];rfl
theorem nI {α β:Type} {x:Except Int α} {f:α→β} {y:β} (h:x.map f = .ok y):∃ a,x = .ok a∧f a=y:=by
 cases x with
 | error e=>cases h
 | ok a=>cases h;exact ⟨a,rfl,rfl⟩
def G (E:Env) (e:Ex):Prop:=∀ st y,df E st.2→cj E e st = .ok y→Good E y.1∧df E y.2.2
theorem vP {E:Env}:∀ (l:List Ex),(∀ u∈l,G E u)→∀ st y,df E st.2→cG E l st = .ok y→(∀ t∈y.1,Good E t)∧df E y.2.2∧y.1.length=l.length
 | [],_,st,y,hl,h=>by
  rw [cG] at h;cases h;exact ⟨fun t ht=>(by cases ht),hl,rfl⟩
 | e::l,hg,st,y,hl,h=>by
  rw [cG] at h
  split at h
  ·cases h
  ·rename_i y1 h1
   split at h
   ·cases h
   ·rename_i z hz;cases h;obtain ⟨a1,a2⟩:=hg e (by simp) _ _ hl h1;obtain ⟨b1,b2,b3⟩:=vP l (fun u hu=>hg u (by simp [hu])) _ _ a2 hz;refine ⟨fun t ht=>?_,b2,by simp [b3]⟩;rcases List.mem_cons.1 ht with rfl | ht
    ·exact a1
    ·exact b1 t ht
theorem Qq {E:Env}:∀ (l:List Bd),(∀ b∈l,G E b.value)→∀ st y,df E st.2→jc E l st = .ok y→df E y.2
 | [],_,st,y,hl,h=>by rw [jc] at h;cases h;exact hl
 | b::l,hg,st,y,hl,h=>by
  rw [B5] at h
  split at h
  ·cases h
  ·rename_i y1 h1
   split at h
   ·exact Qq l (fun u hu=>hg u (by simp [hu])) _ _ (hg b (by simp) _ _ hl h1).2 h
   ·cases h
theorem J3 {E:Env} {ps:List ByteArray} {bs:List Ty} (hb:∀ b∈bs,Good E b) (hle:ps.length≤bs.length):∀ (vs:List ByteArray) (fs:List Ty),(∀ f∈fs,f.wf E=true)→∀ lc gG,df E lc→ij ps bs vs fs lc = .ok gG→df E gG
 | s::l,f::fs,hf,lc,gG,hl,h=>by
  rw [ij] at h
  split at h
  ·rename_i fM;exact J3 hb hle l fs (fun g hg=>hf g (by simp [hg])) _ _ (hl.put (JZ hb hle (hf f (by simp)) fM)) h
  ·cases h
 | [],_,_,lc,gG,hl,h=>by rw [ij] at h;cases h;exact hl;intros;simp_all
 | s::l,[],_,lc,gG,hl,h=>by rw [ij] at h;cases h;exact hl;intros;simp_all
theorem Qr {E:Env} (hE:lq E) {of:Ty} (eS:Good E of) {k:Int} {aZ:ByteArray} {vars:List ByteArray} (hk:k=1→of.kind=4) {e:Ex} (hg:G E e) {st:St} {y:Ty×St} (hl:df E st.2) (h:mT E of k aZ vars (cj E e) st = .ok y):Good E y.1∧df E y.2.2:=by
 unfold mT at h
 split at h
 ·exact hg _ _ hl h
 ·rename_i iI;have iI:k=1:=by simpa using iI
  split at h
  ·cases h
  ·rename_i x hx
   split at h
   ·cases h
   ·rename_i hn
    split at h
    ·cases h
    ·split at h
     ·cases h
     ·rename_i bd dF
      split at h
      ·cases h
      ·rename_i lc p6
       split at h
       ·cases h
       ·rename_i y1 h1;cases h;have hle:=Qn hE hx (by simpa using hn) eS.1 (hk iI);have aci:=J3 (fun b hb=>B3 eS hb) (by omega) _ _ (hE.cons _ _ hx).2 _ _ hl p6;obtain ⟨a1,a2⟩:=hg _ _ aci h1;exact ⟨a1,df.iH _ a2⟩
theorem ED {all:List Al} {i:Nat} {of:Ty} {a:Al} (ha:all[i]? = some a) (h:l9 all i of=true) (hk:a.kind=1):of.kind=4:=by
 unfold l9 at h;rw [ha] at h;simp only [hk] at h;rw [if_pos (by rfl)] at h
 split at h
 ·cases h
 ·rename_i h2;simp only [Bool.or_eq_true,not_or,bne_iff_ne,ne_eq,Decidable.not_not] at h2;exact h2.2
theorem J4 {E:Env} (hE:lq E) {all:List Al} {of:Ty} (eS:Good E of):∀ (l:List Al) (i:Nat),all.drop i=l→(∀ a∈l,G E a.body)→∀ (first:Ty) (st:St) (y:Ty×St),(i=0→l≠[])→(i≠0→Good E first)→df E st.2→fV E all of l i first st = .ok y→Good E y.1∧df E y.2.2
 | [],i,hd,_,first,st,y,h0,hf,hl,h=>by
  rw [fV] at h;cases h;exact ⟨hf (fun e=>h0 e rfl),hl⟩
 | a::l,i,hd,hg,first,st,y,h0,hf,hl,h=>by
  rw [B4] at h;have ha:all[i]? = some a:=by
   have:=congrArg (fun z=>z[0]?) hd
   simpa using this
  have fc:all.drop (i+1)=l:=by
   have:=congrArg (List.drop 1) hd
   simpa using this
  split at h
  ·cases h
  ·rename_i mU;have mU:l9 all i of=true:=by simpa using mU
   split at h
   ·cases h
   ·rename_i y1 h1;obtain ⟨a1,a2⟩:=Qr hE eS (fun hk=>ED ha mU hk) (hg a (by simp)) hl h1
    split at h
    ·exact J4 hE eS l (i+1) fc (fun b hb=>hg b (by simp [hb])) _ _ _ (fun e=>by omega) (fun _=>a1) a2 h
    ·rename_i hi
     split at h
     ·exact J4 hE eS l (i+1) fc (fun b hb=>hg b (by simp [hb])) _ _ _ (fun e=>by omega) (fun _=>hf hi) a2 h
     ·cases h
theorem Qs (E:Env):Good E (.mk 1 bI []):=by
 refine ⟨by rw [Ty.wf];rfl,by rw [Ty.fC,jy];omega⟩
theorem Qt {e:Ex} (h:j5 e=true):gi e=true:=by
 unfold j5 at h;simp only [Bool.and_eq_true] at h;exact h.1.1
theorem sQ {e:Ex} {a b c d:Int} (h:eO e a b c d=true):(e.types.length:Int)=a∧(e.args.length:Int)=b∧(e.binds.length:Int)=c∧(e.alts.length:Int)=d:=by
 unfold eO at h;simp only [Bool.and_eq_true,beq_iff_eq] at h;exact h
structure Qu (e:Ex):Prop where
 a2:e.kind=5∨e.kind=9∨e.kind=10→e.args.length=2
 a1:e.kind=6∨e.kind=7∨e.kind=8∨e.kind=11→e.args.length=1
 b1:e.kind=6∨e.kind=11→e.binds.length=1
 b2:e.kind=7→1≤e.binds.length
 al:e.kind=8→1≤e.alts.length
 t1:e.kind=12→e.types.length=1
 op:e.kind=9→(fS e.name).isSome=true
 vB:1≤e.kind∧e.kind≤12
theorem B6 {e:Ex} (h:j5 e=true):Qu e:=by
 have h:=Qt h;unfold gi at h;have c5:e.kind=5→eO e 0 2 0 0=true:=fun hk=>by have h2:=h;rw [hk] at h2;exact h2
 have zW:e.kind=10→eO e 0 2 0 0=true:=fun hk=>by have h2:=h;rw [hk] at h2;exact h2
 have c9:e.kind=9→(eO e 0 2 0 0&&(fS e.name).isSome)=true:=fun hk=>by have h2:=h;rw [hk] at h2;exact h2
 have c6:e.kind=6→(eO e 0 1 1 0&&(match e.binds with | b::_=>vL b.value | []=>false))=true:=fun hk=>by have h2:=h;rw [hk] at h2;exact h2
 have c7:e.kind=7→(eO e 0 1 e.binds.length 0&&decide ((e.binds.length:Int)≥1))=true:=fun hk=>by have h2:=h;rw [hk] at h2;exact h2
 have c8:e.kind=8→(eO e 0 1 0 e.alts.length&&decide ((e.alts.length:Int)≥1))=true:=fun hk=>by have h2:=h;rw [hk] at h2;exact h2
 have EE:e.kind=11→eO e 0 1 1 0=true:=fun hk=>by have h2:=h;rw [hk] at h2;exact h2
 have c12:e.kind=12→((eO e 1 0 0 0&&decide (e.num≥1))&&decide (e.num≤4))=true:=fun hk=>by have h2:=h;rw [hk] at h2;exact h2
 refine ⟨?_,?_,?_,?_,?_,?_,?_,?_⟩
 ·rintro (hk | hk | hk)
  ·have:=sQ (c5 hk);omega
  ·have:=sQ (Bool.and_eq_true _ _ |>.mp (c9 hk)).1;omega
  ·have:=sQ (zW hk);omega
 ·rintro (hk | hk | hk | hk)
  ·have:=sQ (Bool.and_eq_true _ _ |>.mp (c6 hk)).1;omega
  ·have:=sQ (Bool.and_eq_true _ _ |>.mp (c7 hk)).1;omega
  ·have:=sQ (Bool.and_eq_true _ _ |>.mp (c8 hk)).1;omega
  ·have:=sQ (EE hk);omega
 ·rintro (hk | hk)
  ·have:=sQ (Bool.and_eq_true _ _ |>.mp (c6 hk)).1;omega
  ·have:=sQ (EE hk);omega
 ·intro hk;have:=(Bool.and_eq_true _ _ |>.mp (c7 hk)).2;have:=of_decide_eq_true this;omega
 ·intro hk;have:=(Bool.and_eq_true _ _ |>.mp (c8 hk)).2;have:=of_decide_eq_true this;omega
 ·intro hk;have:=sQ (Bool.and_eq_true _ _ |>.mp (Bool.and_eq_true _ _ |>.mp (c12 hk)).1).1;omega
 ·intro hk;exact (Bool.and_eq_true _ _ |>.mp (c9 hk)).2
 ·apply Classical.byContradiction;intro hn;have n1:(e.kind == 1)=false:=by simp;omega
  have n2:(e.kind == 2)=false:=by simp;omega
  have n3:(e.kind == 3)=false:=by simp;omega
  have n4:(e.kind == 4)=false:=by simp;omega
  have n5:(e.kind == 5)=false:=by simp;omega
  have n6:(e.kind == 6)=false:=by simp;omega
  have n7:(e.kind == 7)=false:=by simp;omega
  have n8:(e.kind == 8)=false:=by simp;omega
  have n9:(e.kind == 9)=false:=by simp;omega
  have n10:(e.kind == 10)=false:=by simp;omega
  have n11:(e.kind == 11)=false:=by simp;omega
  have n12:(e.kind == 12)=false:=by simp;omega
  simp only [n1,n2,n3,n4,n5,n6,n7,n8,n9,n10,n11,n12,Bool.false_eq_true,if_false,Bool.or_self] at h
theorem acj {E:Env} {l:List Ty} (hl:∀ t∈l,Good E t) {t:Ty} (h:nH E l = .ok t):Good E t:=by
 unfold nH at h
 split at h
 ·rename_i f a
  split at h
  ·cases h
  ·split at h
   ·rename_i x y r mK
    split at h
    ·cases h;exact B3 (hl f (by simp)) (by rw [mK];simp)
    ·cases h
   ·cases h
 ·cases h
theorem ack {E:Env} {n:ByteArray} {l:List Ty} (ho:(fS n).isSome=true) (hb:dy E iR 0=false) {t:Ty} (h:oJ n l = .ok t):Good E t:=by
 unfold oJ at h
 split at h
 ·split at h
  ·cases h
  ·cases h;unfold fS at ho ⊢
   split
   ·exact Qs E
   ·split
    ·refine ⟨?_,by simp [Ty.fC,jy]⟩;show Ty.wf E (.mk 4 iR [])=true;rw [Ty.wf,List.length_nil,hb];rfl
    ·rename_i h1 h2;rw [if_neg h1,if_neg h2] at ho;cases ho
 ·cases h
theorem acm {E:Env} {b:Bd} (hb:Good E b.type) {l:List Ty} (hl:∀ t∈l,Good E t) {t:Ty} (h:pZ b l = .ok t):Good E t:=by
 unfold pZ at h
 split at h
 ·rename_i u r
  split at h
  ·cases h
  ·rename_i hs;cases h;obtain ⟨b1,b2⟩:=hb;obtain ⟨u1,u2⟩:=hl u (by simp);refine ⟨Ql b1 u1,?_⟩;rw [JX _ (by omega),JX _ (by omega)] at hs;rw [show Wr ((b.type.fC:Int)+u.fC)=(b.type.fC:Int)+u.fC from dv (by omega) (by omega),show Wr (((b.type.fC:Int)+u.fC)+1)=((b.type.fC:Int)+u.fC)+1 from dv (by omega) (by omega)] at hs;rw [kB,Ty.fC,jy,jy,jy];omega
 ·cases h
theorem sR {E:Env} (hE:lq E) (hb:dy E iR 0=false) (e:Ex):G E e:=by
 induction e using Ex.ind with
 | h e fN oL pf=>
 intro st y hl h;rw [lu] at h;by_cases hf:j5 e=false
 ·rw [if_pos hf] at h;cases h
 rw [if_neg hf] at h;have F:=B6 (by simpa using hf);by_cases hk:e.kind=1
 ·rw [if_pos hk] at h
  split at h
  ·cases h
  ·rename_i t ht;cases h;exact ⟨hl.get ht,hl⟩
 rw [if_neg hk] at h;by_cases hk:e.kind=2
 ·rw [if_pos hk] at h;cases h;exact ⟨Qs E,hl⟩
 rw [if_neg hk] at h;by_cases hk:e.kind=3
 ·rw [if_pos hk] at h
  split at h
  ·cases h
  ·rename_i d hd;obtain ⟨t,ht,rfl⟩:=nI h;exact ⟨Qk (hE.ak _ _ hd) ht,hl⟩
 rw [if_neg hk] at h;by_cases hk:e.kind=4
 ·rw [if_pos hk] at h
  split at h
  ·cases h
  ·rename_i x hx;obtain ⟨t,ht,rfl⟩:=nI h;exact ⟨Qk (Qm hE hx) ht,hl⟩
 rw [if_neg hk] at h;by_cases hk:e.kind=12
 ·rw [if_pos hk] at h
  split at h
  ·cases h
  ·split at h
   ·rename_i hr;cases h;exact ⟨yd hr,hl⟩
   ·cases h
 rw [if_neg hk] at h;by_cases hk:e.kind=5
 ·rw [if_pos hk] at h
  split at h
  ·cases h
  ·rename_i z hz;obtain ⟨t,ht,rfl⟩:=nI h;obtain ⟨a1,a2,_⟩:=vP _ fN _ _ hl hz;exact ⟨acj a1 ht,a2⟩
 rw [if_neg hk] at h;by_cases hk:e.kind=9
 ·rw [if_pos hk] at h
  split at h
  ·cases h
  ·rename_i z hz;obtain ⟨t,ht,rfl⟩:=nI h;obtain ⟨a1,a2,_⟩:=vP _ fN _ _ hl hz;exact ⟨ack (F.op hk) hb ht,a2⟩
 rw [if_neg hk] at h;by_cases hk:e.kind=10
 ·rw [if_pos hk] at h
  split at h
  ·cases h
  ·rename_i z hz;cases h;obtain ⟨a1,a2,a3⟩:=vP _ fN _ _ hl hz;rw [F.a2 (by omega)] at a3;refine ⟨a1 _ ?_,a2⟩
   match z.1,a3 with
   | [a,b],_=>simp
 rw [if_neg hk] at h;by_cases hk:e.kind=6
 ·rw [if_pos hk] at h
  split at h
  ·cases h
  ·rename_i b r dM
   split at h
   ·cases h
   ·rename_i bd dF
    split at h
    ·cases h
    ·rename_i z hz;obtain ⟨t,ht,rfl⟩:=nI h;have gb:=zV dF;obtain ⟨a1,a2,a3⟩:=vP _ fN _ _ (hl.put gb) hz;exact ⟨acm gb a1 ht,a2.del _⟩
 rw [if_neg hk] at h;by_cases hk:e.kind=7∨e.kind=11
 ·rw [if_pos hk] at h
  split at h
  ·cases h
  ·rename_i bd dF;have gb:=J2 _ dF
   split at h
   ·cases h
   ·rename_i bV h2;have g2:=Qq _ oL _ _ (by show df E (if e.kind=7 then _ else _);split;exact df.cm _ hl gb;exact hl) h2
    split at h
    ·cases h
    ·rename_i z hz;cases h;obtain ⟨a1,a2,a3⟩:=vP _ fN _ _ (df.cm _ g2 gb) hz;rw [F.a1 (by omega)] at a3;refine ⟨a1 _ ?_,df.iH _ a2⟩
     match z.1,a3 with
     | [a],_=>simp
 rw [if_neg hk] at h
 split at h
 ·cases h
 ·rename_i z hz;obtain ⟨a1,a2,a3⟩:=vP _ fN _ _ hl hz;have sS:e.kind=8:=by have:=F.vB;omega
  rw [F.a1 (by omega)] at a3;have eS:Good E (z.1.headD default):=a1 _ (by match z.1,a3 with | [a],_=>simp)
  split at h
  ·cases h
  ·refine J4 hE eS _ 0 rfl pf _ _ _ (fun _ h0=>?_) (fun h0=>absurd rfl h0) a2 h;have:=F.al sS;have h0:e.alts=[]:=h0;rw [h0] at this;simp at this
end
section
open Go Go.W
theorem bP.ext {w w':World} {S S':Nat→Prop} {M:Ms} {E:Env} {bd:bM} {lc:Loc} (h:bP w S M E bd lc) (hm:Mod (fun _=>False) w w') (hs:∀ b,b < w.heap.size→S' b→S b) (zS:∀ b,S b→S' b) (aP:∀ b,S' b→b < w'.heap.size):bP w' S' M E bd lc:=by
 have bB:Mod S w w':=an hm
 exact ⟨hm.at h.box _root_.id,h.nodup,fun b hb=>zS b (h.bt b hb),aP,
  h.aH.mod hm _root_.id (fun _ _ x=>x.up bB aK (eH bB hs)),h.cons.mod hm _root_.id (fun _ _ x=>x.up bB aK (eH bB hs)),
  h.ak.mod hm _root_.id (fun _ _ x=>x.up bB aK (eH bB hs)),h.params.mod hm _root_.id (fun _ _ x=>x),h.gF.mod hm _root_.id (fun _ _ x=>x),h.locals.mod hm _root_.id (fun _ _ x=>x.up bB aK (eH bB hs))⟩
theorem EF {w:World} {S S':Nat→Prop} (hs:∀ b,S b→S' b):∀ b,Out S' w b→Out S w b:=fun b h=>⟨h.1,fun hh=>h.2 (hs b hh)⟩
theorem bP.sub {w:World} {S S':Nat→Prop} {M:Ms} {E:Env} {bd:bM} {lc:Loc} (h:bP w S' M E bd lc) (hs:∀ b,S b→S' b) (eT:∀ b∈M.list,S b):bP w S M E bd lc:=by
 have hm:=Mod.refl (fun _=>False) w
 exact ⟨h.box,h.nodup,eT,fun b hb=>h.lt b (hs b hb),
  h.aH.mod hm _root_.id (fun _ _ x=>x.up hm aC (EF hs)),h.cons.mod hm _root_.id (fun _ _ x=>x.up hm aC (EF hs)),
  h.ak.mod hm _root_.id (fun _ _ x=>x.up hm aC (EF hs)),h.params,h.gF,h.locals.mod hm _root_.id (fun _ _ x=>x.up hm aC (EF hs))⟩
theorem bP.side {w w':World} {S S':Nat→Prop} {M:Ms} {E:Env} {bd:bM} {lc:Loc} (h:bP w S M E bd lc) (hm:Mod S' w w') (hs:∀ b,S' b→S b) (ga:∀ b∈M.list,¬ S' b):bP w' S M E bd lc:=by
 have bB:=hm.aU hs;have no:∀ b,b∈M.list→¬ S' b:=ga
 exact ⟨hm.at h.box (no _ (by simp [Ms.list])),h.nodup,h.bt,fun b hb=>Nat.lt_of_lt_of_le (h.lt b hb) hm.size,
  h.aH.mod hm (no _ (by simp [Ms.list])) (fun _ _ x=>x.up bB aK (aX bB)),h.cons.mod hm (no _ (by simp [Ms.list])) (fun _ _ x=>x.up bB aK (aX bB)),
  h.ak.mod hm (no _ (by simp [Ms.list])) (fun _ _ x=>x.up bB aK (aX bB)),h.params.mod hm (no _ (by simp [Ms.list])) (fun _ _ x=>x),h.gF.mod hm (no _ (by simp [Ms.list])) (fun _ _ x=>x),
  h.locals.mod hm (no _ (by simp [Ms.list])) (fun _ _ x=>x.up bB aK (aX bB))⟩
@[go_sem] theorem n00:((0:Int) != 0)=false:=_root_.id rfl
def p7 (w:World) (S:Nat→Prop) (M:Ms) (E:Env) (r:Value) (x:Except Int (Ty×St)):Prop:=match x with
 | .ok y=>(∃ cs:List Value,r = .tuple #[.agg cs.toArray,I 0]∧aW w (Out S w) cs y.1)∧bP w S M E y.2.1 y.2.2
 | .error e=>∃ cs:List Value,cs.length=3∧(∀ u∈cs,u.oneCell'=true)∧r = .tuple #[.agg cs.toArray,I e]∧e≠0∧∃ bd lc,bP w S M E bd lc
theorem p7.bad {w:World} {S:Nat→Prop} {M:Ms} {E:Env} {e:Int} (h:e≠0) (hc:∃ bd lc,bP w S M E bd lc):p7 w S M E (.tuple #[.agg cJ.toArray,I e]) (.error e):=⟨cJ,rfl,vJ,rfl,h,hc⟩
def sU (E:Env) (e:Ex):Prop:=∀ {w:World} {S:Nat→Prop} {M:Ms} {st:St} {cs:List Value},bP w S M E st.1 st.2→df E st.2→bE w (Out S w) cs e →
 a8 Tryz.prog 47 [ptr M.c,.agg cs.toArray] w fun r w'=>p7 w' S M E r (cj E e st)∧Mod M.two w w'
abbrev aL (S:Nat→Prop) (b4:Nat):Nat→Prop:=fun b=>S b∨b=b4
theorem eI {w:World} {S:Nat→Prop} {b4:Nat} (h:w.heap.size≤b4):∀ b,b < w.heap.size→aL S b4 b→S b:=fun b hb hh=>by
 rcases hh with h | h
 ·exact h
 ·omega
theorem eP {w:World} {S:Nat→Prop} {M:Ms} {E:Env} {bd:bM} {lc:Loc} (h:bP w S M E bd lc) {b:Nat} (hb:w.heap.size≤b):¬ M.two b:=fun hh=>by have:=h.lt b (h.two b hh);omega
theorem gQ {w:World} {S:Nat→Prop} {M:Ms} {E:Env} {bd:bM} {lc:Loc} (h:bP w S M E bd lc) {b4:Nat} (hb:w.heap.size≤b4):∀ b∈M.list,¬ b=b4:=fun b hm hh=>by have:=h.lt b (h.bt b hm);omega
theorem re {w w':World} {S:Nat→Prop} {M:Ms} {E:Env} {st:St} {cs:List Value} {t:Ty} {b4:Nat} (hc:bP w (aL S b4) M E st.1 st.2) (ht:aW w (Out (aL S b4) w) cs t) (hm:Mod (· = b4) w w') (eT:∀ b∈M.list,S b) (ga:∀ b∈M.list,¬ b=b4) :
   p7 w' S M E (.tuple #[.agg cs.toArray,I 0]) (.ok (t,st)):=
 ⟨⟨cs,rfl,(ht.aB (hm.aU (fun b hb=>.inr hb))).sub (fun b hb=>.inl hb)⟩,(hc.side hm (fun b hb=>.inr hb) ga).sub (fun b hb=>.inl hb) eT⟩
theorem gz {w w3:World} {ρ:Go.W.Env} {K:Value→World→Prop} {S:Nat→Prop} {M:Ms} {E:Env} {bd0 bd:bM} {lc0 lc:Loc} {b4:Nat} (hc:bP w S M E bd0 lc0) (z1:w.heap.size≤b4) (au:w3.heap[b4]? = some (.cells cJ.toArray dV (0,0))) (bn:Mod M.two w w3) (cA:bP w3 (aL S b4) M E bd lc)
   {p q:O} (hp:p.ev ρ=some (ptr b4)) (hq:q.ev ρ=some (.agg cJ.toArray))
   (hk:∀ w4,w4.heap[b4]? = some (.cells cJ.toArray dV (0,0))→Mod M.two w w4→(∃ bd lc,bP w4 S M E bd lc)→K undef w4):Go.W.E.wp Tryz.prog w3 ρ K (.st 3 p q):=by
 refine bL (cs:=cJ) hp hq au rfl rfl vJ ?_;intro w4 ba aA eG;exact hk w4 ba (bn.step aA (fun b hb hl=>by omega)) ⟨_,_,(cA.side aA (fun b hb=>.inr hb) (gQ hc z1)).sub (fun b hb=>.inl hb) hc.bt⟩
theorem EG {α:Type} {l:List α} (h:l.length=2):∃ x y,l=[x,y]:=by
 match l,h with
 | [x,y],_=>exact ⟨x,y,rfl⟩
theorem zX {α:Type} {l:List α} (h:l.length=1):∃ x,l=[x]:=by
 match l,h with
 | [x],_=>exact ⟨x,rfl⟩
theorem uu {w:World} {B:Nat→Prop} {v:Value} {l:List Ex} (h:aT w v 7 B (bE w B) l) {i:Nat} (hi:i < l.length) :
   ∃ ad c r,v = .slice (some ad) l.length c∧bE w B r l[i]∧gp w 7 (.pointer (some (ad.add (i*7))))=some (.agg r.toArray):=by
 obtain ⟨ad,c,r,e,h1,_,h2,_⟩:=eh h hi;exact ⟨ad,c,r,e,h1,h2⟩
end
section
open Go Go.W
theorem acn {E:Env} (hE:lq E) (gm:dy E iR 0=false) {e x y:Ex} (iZ:e.args=[x,y]) (iD:sU E x) (lP:sU E y) {w:World} {S:Nat→Prop} {M:Ms} {st:St} {cs:List Value} (hc:bP w S M E st.1 st.2) (hg:df E st.2) (h:bE w (Out S w) cs e) :
   a8 Tryz.prog 66 [ptr M.c,.agg cs.toArray] w fun r w'=>p7 w' S M E r (match cG E e.args st with | .error x=>.error x | .ok y=>(nH E y.1).map (fun t=>(t,y.2)))∧Mod M.two w w':=by
 obtain ⟨vt,va,vb,vl,rfl,ht,ha,hb,hl⟩:=h.parts;obtain ⟨aa,ca,rfl⟩:=a7 ha;refine ZK.calls rfl ?_;unfold IB;(try simp only [go_sem,simprocAttr]);refine bD rfl ?_;intro w1 ar aj bC;(try simp only [go_sem,simprocAttr]);refine cM ?_;intro w2 au ai bK;have ar:=ai.at ar _root_.id;have aY:=aj.trans ai;have z1:=aj.size;have zS:∀ b,S b→aL S w1.heap.size b:=fun b hb=>.inl hb
 have ju:bP w2 (aL S w1.heap.size) M E st.1 st.2:=hc.ext aY (eI z1) zS (fun b hb=>by
  rcases hb with h | h
  ·have:=hc.lt b h;omega
  ·omega)
 have fJ:e.args.length=2:=by rw [iZ];rfl
 have ye:aT w2 (.slice aa e.args.length ca) 7 (Out (aL S w1.heap.size) w2) (bE w2 (Out (aL S w1.heap.size) w2)) e.args:=ha.up aY aC (eH (an aY) (eI z1)) (fun _ _ h=>h.ext (an aY) (eI z1));have b1:(0:Int)≤0∧(0:Int) < e.args.length:=by omega
 have b2:(0:Int)≤1∧(1:Int) < e.args.length:=by omega
 obtain ⟨ad,c1,r1,e1,hx,ph⟩:=uu ye (i:=0) (by omega);obtain ⟨rfl,-,-⟩:=bY e1;have yf:e.args[0]'(by omega)=x:=by simp [iZ]
 have B7:e.args[1]'(by omega)=y:=by simp [iZ]
 rw [yf] at hx;rw [Nat.zero_mul,add_zero'] at ph;rw [iZ];simp only [cG];(try simp only [go_sem,simprocAttr,bq,br,cell_of ar,Value.cells,b1,Nat.zero_mul,ph]);refine aI (by rfl) ?_;refine (iD ju hg hx).mono ?_;rintro r3 w3 ⟨mV,aq⟩;cases bX:cj E x st with
 | error e3=>
  rw [bX] at mV;obtain ⟨cz,bA,bS,rfl,bo,EH,B8,jd⟩:=mV;(try simp only [go_sem,simprocAttr]);refine dp (n:=3) (vs:=cz) rfl bA bS ?_;intro w4 ba aA eG;have gR:(e3 != 0)=true:=by simpa using bo
  (try simp only [go_sem,simprocAttr,gR]);refine gz hc z1 ((aq.trans (an aA)).at au (eP hc z1)) ((an aY).trans (aq.trans (an aA))) (jd.aB aA) rfl rfl ?_;intro w5 bG aD bh;(try simp only [go_sem,simprocAttr,aE,RV.ev,az (n:=3) bG rfl,aF]);exact ⟨.bad bo bh,aD⟩
 | ok y1=>
  obtain ⟨t1,dG⟩:=y1;rw [bX] at mV;obtain ⟨⟨c3,rfl,J5⟩,cA⟩:=mV;have g1:=sR hE gm x st _ hg bX;(try simp only [go_sem,simprocAttr]);refine dp (n:=3) (vs:=c3) rfl J5.len J5.one ?_;intro w4 ba aA eG;have j7:=cA.aB aA;have ii:=aq.trans (an aA);have ar:=ii.at ar (eP hc (by omega));have S2:=ju.two;have J6:aT w4 (.slice (some ad) e.args.length ca) 7 (Out (aL S w1.heap.size) w4) (bE w4 (Out (aL S w1.heap.size) w4)) e.args:=ye.up ii (fun b hb hh=>hb.2 (S2 b hh)) (aX (ii.aU S2)) (fun _ _ h=>h.aB (ii.aU S2));obtain ⟨D9,Ez,r2,e2,hy,B9⟩:=uu J6 (i:=1) (by omega);obtain ⟨e3,-,-⟩:=bY e2;cases e3;rw [B7] at hy;rw [Nat.one_mul,add_pos _ (n:=7) (by decide)] at B9;(try simp only [go_sem,simprocAttr,bq,br,cell_of ar,Value.cells,b2,Int.toNat_one,Nat.one_mul,B9]);refine aI (by rfl) ?_;refine (lP j7 g1.2 hy).mono ?_;rintro r5 w5 ⟨oM,aD⟩;have pi:=ii.trans aD;cases yg:cj E y dG with
  | error e3=>
   rw [yg] at oM;obtain ⟨cz,bA,bS,rfl,bo,EH,B8,jd⟩:=oM;(try simp only [go_sem,simprocAttr]);refine dp (n:=3) (vs:=cz) rfl bA bS ?_;intro w6 ci aJ gN;have gR:(e3 != 0)=true:=by simpa using bo
   (try simp only [go_sem,simprocAttr,gR]);refine gz hc z1 ((pi.trans (an aJ)).at au (eP hc z1)) ((an aY).trans (pi.trans (an aJ))) (jd.aB aJ) rfl rfl ?_;intro w7 dq aN bh;(try simp only [go_sem,simprocAttr,aE,RV.ev,az (n:=3) dq rfl,aF]);exact ⟨.bad bo bh,aN⟩
  | ok y2=>
   obtain ⟨t2,bV⟩:=y2;rw [yg] at oM;obtain ⟨⟨c5,rfl,ma⟩,je⟩:=oM;(try simp only [go_sem,simprocAttr]);refine dp (n:=3) (vs:=c5) rfl ma.len ma.one ?_;intro w6 ci aJ gN;have qW:=pi.trans (an aJ);have jz:=je.aB aJ;have z3:=aq.size;have Ca:=(aD.trans (an aJ)).at ba (eP hc (by omega));have J7:aW w6 (Out (aL S w1.heap.size) w6) c3 t1:=(J5.aB (an aA)).aB ((aD.trans (an aJ)).aU S2);obtain ⟨v3,rfl,bQ⟩:=J7.cells;obtain ⟨a3,cc3,rfl⟩:=a7 bQ;have aco:w6.drew.heap[w5.heap.size]? = _:=ci;(try simp only [go_sem,simprocAttr,cell_of Ca,b9,az (n:=3) aco ma.len]);have Cb:∀ z,(Except.map (fun t=>(t,bV)) (nH E [t1,t2]):Except Int (Ty×St))=z→(Except.map (fun t=>(t,bV)) (nH E [t1,t2]):Except Int (Ty×St))=z:=fun z h=>h
   cases hk:t1.kind != 3 with
   | true=>
    have ha:nH E [t1,t2] = .error 83:=by rw [nH,if_pos hk]
    rw [ha];(try simp only [go_sem,simprocAttr]);refine gz hc z1 ((qW.drew).at au (eP hc z1)) ((an aY).trans (qW.drew)) (jz.aB (Mod.refl _ _).drew) rfl rfl ?_;intro w7 dq aN bh;(try simp only [go_sem,simprocAttr,aE,RV.ev,az (n:=3) dq rfl,aF]);exact ⟨.bad (by decide) bh,aN⟩
   | false=>
    have mW:t1.kind=3:=by simpa using hk
    obtain ⟨u,v,EI⟩:=EG (J1 g1.1.1 mW);have l2:t1.args.length=2:=by rw [EI];rfl
    have d1:(0:Int)≤0∧(0:Int) < t1.args.length:=by omega
    have d2:(0:Int)≤1∧(1:Int) < t1.args.length:=by omega
    obtain ⟨rows,jW,mQ,eW⟩:=bQ;obtain ⟨Qv,cc,ee,Qw⟩:=BU jW (i:=0) (by omega);obtain ⟨rfl,-,-⟩:=bY ee;obtain ⟨ad4,cc',ee',Qx⟩:=BU jW (i:=1) (by omega);obtain ⟨ee4,-,-⟩:=bY ee';cases ee4;rw [Nat.zero_mul,add_zero'] at Qw;rw [Nat.one_mul,add_pos _ (n:=3) (by decide)] at Qx;have hu:aW w6 (Out (aL S w1.heap.size) w6) rows[0] u:=eW 0 _ _ (List.getElem?_eq_getElem (by omega)) (by rw [EI];rfl);have hv:aW w6 (Out (aL S w1.heap.size) w6) rows[1] v:=eW 1 _ _ (List.getElem?_eq_getElem (by omega)) (by rw [EI];rfl);have ha:nH E [t1,t2]=if gg u t2=true then .ok v else .error 83:=by rw [nH,if_neg (by rw [hk];simp),EI]
    rw [ha];(try simp only [go_sem,simprocAttr,bq,br,cell_of Ca,d1,Nat.zero_mul,Qw,b9,az (n:=3) ci ma.len]);refine aI (by rfl) ?_;have dd:Mod (fun _=>False) w6 w6.drew:=(Mod.refl _ _).drew;refine (Ep u (hu.aB (an dd)) ((ma.aB (an aJ)).aB (an dd))).mono ?_;rintro _ w7 ⟨rfl,aN⟩;have j6:Mod (fun _=>False) w6 w7:=dd.trans aN;cases hs:gg u t2 with
    | false=>
     (try simp only [go_sem,simprocAttr]);refine gz hc z1 ((qW.trans (an j6)).at au (eP hc z1)) ((an aY).trans (qW.trans (an j6))) (jz.aB j6) rfl rfl ?_;intro w8 dW bg bh;(try simp only [go_sem,simprocAttr,aE,RV.ev,az (n:=3) dW rfl,aF]);exact ⟨.bad (by decide) bh,bg⟩
    | true=>
     obtain ⟨ad5,cc5,ee5,Qy⟩:=BU (jW.up j6 aC (fun _ h=>h)) (i:=1) (by omega);obtain ⟨ee6,-,-⟩:=bY ee5;cases ee6;rw [Nat.one_mul,add_pos _ (n:=3) (by decide)] at Qy;(try simp only [go_sem,simprocAttr,bq,br,cell_of (j6.at Ca _root_.id),d2,Int.toNat_one,Nat.one_mul,Qy]);have Qz:=qW.trans (an j6);refine bL (cs:=cJ) rfl rfl (Qz.at au (eP hc z1)) hv.len rfl hv.one ?_;intro w8 dW bg mR;(try simp only [go_sem,simprocAttr,aE,RV.ev,az (n:=3) dW hv.len,aF]);exact ⟨re (jz.aB j6) (hv.aB (an j6)) bg hc.bt (gQ hc z1),((an aY).trans Qz).step bg (fun b hb hl=>by omega)⟩
end
section
open Go Go.W
theorem J8 {P:Program} {w:World} {ρ:Go.W.Env} {K:Value→World→Prop} {t el:TypeId} {len sz:Nat} {x i:Operand} {k:IntKind} {n:Int} {a:Addr} {dst:Option Nat} {ty:TypeId} {pos:String} {af:Array Edge} (hx:(bm x).ev ρ=some (.pointer (some a))) (hi:(bm i).ev ρ=some (.int k n))
   (ht:P.underlying t=some (.array len el)) (cZ:iC P el=some sz) (h0:0≤n) (h1:n < len) (hk:K (.pointer (some (a.add (n.toNat*sz)))) w):Go.W.E.wp P w ρ K (.raw ⟨dst,.indexAddr t x i,ty,pos,af,none⟩):=by
 refine kT fun act ha=>⟨_,w,?_,hk⟩
 have g1:ro P w (underlying t)=some (.array len el):=by rw [gK,ht]
 have g2:ro P w (sizeOf el)=some sz:=by rw [sh];exact cZ
 have g3:ro P w (Instr.indexAt t (.pointer (some a)) (.int k n))=some (.pointer (some (a.add (n.toNat*sz)))):=by
  simp only [Instr.indexAt,asIntOf,Instr.sureAddr,asAddr,cL,fH,Option.bind_some,g1,g2,if_pos (And.intro h0 h1),Option.map_some,A8]
 simp only [execOp,ha x _ hx,ha i _ hi,Sem.run_bind,lK g3,Result.andThen_ok,Sem.run_pure]
theorem J9 {E:Env}:∀ (l1 l2:List Ex) (st:St),cG E (l1++l2) st=(match cG E l1 st with
   | .error x=>.error x
   | .ok y=>match cG E l2 y.2 with
    | .error x=>.error x
    | .ok z=>.ok (y.1++z.1,z.2))
 | [],l2,st=>by
  rw [List.nil_append,cG];simp only;cases cG E l2 st<;>rfl
 | e::l1,l2,st=>by
  rw [List.cons_append,cG,cG];cases cj E e st with
  | error x=>rfl
  | ok y=>
   simp only;rw [J9 l1 l2 y.2];cases cG E l1 y.2 with
   | error x=>rfl
   | ok z=>
    simp only;cases cG E l2 z.2<;>rfl
structure QA (w:World) (S:Nat→Prop) (M:Ms) (E:Env) (b6 k:Nat) (l:List Ex) (st:St) (w2:World) (ts:List Ty) (dQ:St) (cs:List Value):Prop where
 len:ts.length=k
 run:cG E (l.take k) st = .ok (ts,dQ)
 ck:bP w S M E dQ.1 dQ.2
 dT:df E dQ.2
 box:w.heap[b6]? = some (.cells cs.toArray 180 (0,0))
 Cc:cs.length=6
 kinds:∀ i,∀ h:i < ts.length,cs[3*i]? = some (I ts[i].kind)
 mod:Mod (fun b=>M.two b∨b=b6) w2 w
theorem acp {E:Env} (hE:lq E) (gm:dy E iR 0=false) {e:Ex} (fJ:e.args.length=2) (iV:(fS e.name).isSome=true) (ih:∀ u∈e.args,sU E u) {w:World} {S:Nat→Prop} {M:Ms} {st:St} {cs:List Value} (hc:bP w S M E st.1 st.2) (hg:df E st.2) (h:bE w (Out S w) cs e) :
   a8 Tryz.prog 67 [ptr M.c,.agg cs.toArray] w fun r w'=>p7 w' S M E r (match cG E e.args st with | .error x=>.error x | .ok y=>(oJ e.name y.1).map (fun t=>(t,y.2)))∧Mod M.two w w':=by
 obtain ⟨vt,va,vb,vl,rfl,ht,ha,hb,hl⟩:=h.parts;obtain ⟨aa,ca,rfl⟩:=a7 ha;refine ZL.calls rfl ?_;unfold IC;(try simp only [go_sem,simprocAttr]);refine bD rfl ?_;intro w1 ar aj bC;(try simp only [go_sem,simprocAttr]);refine cM ?_;intro w2 au ai bK;(try simp only [go_sem,simprocAttr]);refine cM ?_;intro w3 aM aq eV;have ar:=(ai.trans aq).at ar _root_.id;have au:=aq.at au _root_.id;have bn:=aj.trans (ai.trans aq);have z1:=aj.size;have z2:=ai.size;have j8:∀ b,b < w.heap.size→aL (aL S w1.heap.size) w2.heap.size b→S b:=fun b hb hh=>by
  rcases hh with (h | h) | h
  ·exact h
  ·omega
  ·omega
 have cA:bP w3 (aL (aL S w1.heap.size) w2.heap.size) M E st.1 st.2:=hc.ext bn j8 (fun b hb=>.inl (.inl hb)) (fun b hb=>by
  rcases hb with (h | h) | h
  ·have:=hc.lt b h;omega
  ·omega
  ·omega)
 have S3:=cA.two;have vQ:aT w3 (.slice aa e.args.length ca) 7 (Out (aL (aL S w1.heap.size) w2.heap.size) w3) (bE w3 (Out (aL (aL S w1.heap.size) w2.heap.size) w3)) e.args:=ha.up bn aC (eH (an bn) j8) (fun _ _ h=>h.ext (an bn) j8);have ref:∀ (w4:World) (ρ:Go.W.Env) (K:Value→World→Prop) (bd:bM) (lc:Loc),Mod (fun b=>M.two b∨b=w2.heap.size) w3 w4→bP w4 (aL (aL S w1.heap.size) w2.heap.size) M E bd lc→∀ p q:O,p.ev ρ=some (ptr w1.heap.size)→q.ev ρ=some (.agg cJ.toArray) →
     (∀ w5,w5.heap[w1.heap.size]? = some (.cells cJ.toArray dV (0,0))→Mod M.two w w5→(∃ bd lc,bP w5 S M E bd lc)→K undef w5)→Go.W.E.wp Tryz.prog w4 ρ K (.st 3 p q):=by
  intro w4 ρ K bd lc aA bh p q hp hq hk;exact gz hc z1 (aA.at au (fun hh=>by rcases hh with h | h;exact eP hc z1 h;omega)) ((an bn:Mod M.two w w3).step aA (fun b hb hl=>by rcases hb with h | h;exact h;omega)) (bh.sub (fun b hb=>.inl hb) (fun b hb=>.inl (hc.bt b hb))) hp hq hk
 (try simp only [go_sem,simprocAttr]);refine vD (fun ρ w'=>∃ ts dQ cs,QA w' (aL (aL S w1.heap.size) w2.heap.size) M E w2.heap.size 2 e.args st w3 ts dQ cs∧ρ.get 3=some (ptr w.heap.size)∧ρ.get 4=some (ptr w1.heap.size)∧ρ.get 6=some (ptr w2.heap.size)) ?_ ?_
 ·refine fL (fun m ρ w'=>∃ k,m=2 - k∧k≤2∧∃ ts dQ cs,QA w' (aL (aL S w1.heap.size) w2.heap.size) M E w2.heap.size k e.args st w3 ts dQ cs∧ρ=[(0,ptr M.c),(3,ptr w.heap.size),(4,ptr w1.heap.size),(6,ptr w2.heap.size),(12,I k)]) 2
   ⟨0,rfl,by omega,[],st,[I 0,.string bI,.slice none 0 0,I 0,.string bI,.slice none 0 0],⟨rfl,rfl,cA,hg,aM,rfl,fun i hi=>(by cases hi),.refl _ _⟩,rfl⟩ ?_
  rintro m _ w4 ⟨k,rfl,iQ,ts,dQ,cs,hi,rfl⟩;unfold Pc;(try simp only [go_sem,simprocAttr]);cases aP:decide ((k:Int) < 2) with
  | false=>
   have hk:k=2:=by have:=of_decide_eq_false aP;omega
   subst hk;(try simp only [go_sem,simprocAttr]);exact ⟨ts,dQ,cs,hi⟩
  | true=>
   have hk:k < 2:=by have:=of_decide_eq_true aP;omega
   have yh:k < e.args.length:=by omega
   have J':Mod (aL (aL S w1.heap.size) w2.heap.size) w3 w4:=hi.mod.aU (fun b hb=>by
    rcases hb with h | h
    ·exact S3 b h
    ·exact .inr h)
   have ar:=hi.mod.at ar (fun hh=>by rcases hh with h | h;exact eP hc (Nat.le_refl _) h;omega);have J6:=vQ.up J' aK (aX J') (fun _ _ h=>h.aB J');obtain ⟨ad,c1,r1,e1,hx,ph⟩:=uu J6 (i:=k) yh;obtain ⟨rfl,-,-⟩:=bY e1;have b1:(0:Int)≤k∧(k:Int) < e.args.length:=by omega
   (try simp only [go_sem,simprocAttr,bq,br,cell_of ar,Value.cells,b1,ph]);refine aI (by rfl) ?_;refine (ih _ (List.getElem_mem yh) hi.ck hi.dT hx).mono ?_;rintro r5 w5 ⟨oM,aD⟩;have gl:Mod (fun b=>M.two b∨b=w2.heap.size) w3 w5:=hi.mod.trans (aD.aU (fun b h=>.inl h));have acq:e.args=e.args.take k++(e.args[k]::e.args.drop (k+1)):=by rw [← List.drop_eq_getElem_cons yh,List.take_append_drop]
   cases bX:cj E e.args[k] dQ with
   | error e3=>
    rw [bX] at oM;obtain ⟨cz,bA,bS,rfl,bo,EH,B8,jd⟩:=oM;have gR:(e3 != 0)=true:=by simpa using bo
    have cN:cG E e.args st = .error e3:=by rw [acq,J9,hi.run];simp only [cG,bX]
    rw [cN];(try simp only [go_sem,simprocAttr]);refine dp (n:=3) (vs:=cz) rfl bA bS ?_;intro w6 ci aJ gN;(try simp only [go_sem,simprocAttr,gR]);refine ref w6 _ _ _ _ (gl.trans (an aJ)) (jd.aB aJ) _ _ rfl rfl ?_;intro w7 dq aN bh;(try simp only [go_sem,simprocAttr,aE,RV.ev,az (n:=3) dq rfl,aF]);exact ⟨.bad bo bh,aN⟩
   | ok y1=>
    obtain ⟨t1,dG⟩:=y1;rw [bX] at oM;obtain ⟨⟨c5,rfl,ma⟩,je⟩:=oM;have g1:=sR hE gm _ _ _ hi.dT bX;(try simp only [go_sem,simprocAttr]);refine dp (n:=3) (vs:=c5) rfl ma.len ma.one ?_;intro w6 ci aJ gN;(try simp only [go_sem,simprocAttr,az (n:=3) ci ma.len]);refine J8 (a:=⟨w2.heap.size,0,none⟩) (n:=(k:Int)) (len:=2) (el:=dV) (sz:=3) rfl rfl rfl Ef (by omega) (by omega) ?_;have BW:¬ M.two w2.heap.size:=eP hc (by omega);have Ka:=aJ.at (aD.at hi.box BW) _root_.id;rw [Int.toNat_natCast,oo,Nat.zero_add];(try simp only [go_sem,simprocAttr]);refine Oi (cs:=cs) (off:=k*3) (vs:=c5) rfl rfl Ka ma.len (by rw [hi.Cc];omega) ma.one ?_;intro w7 dq aN jX;have hw:IntKind.i64.wrap ((k:Int)+1)=((k+1:Nat):Int):=by rw [dv (by omega) (by omega)];omega
    (try simp only [go_sem,simprocAttr,hw]);have o0:=Pt (xs:=cs) (tl:=[]) (vs:=c5) (o:=k*3) (by rw [ma.len,hi.Cc];omega);rw [List.append_nil] at o0;rw [o0,List.append_nil] at dq;have jf:=(je.aB aJ).side aN (fun b hb=>.inr hb) (gQ hc (by omega));obtain ⟨v5,e5,_⟩:=ma.cells;have xR:=ma.len;refine ⟨2 - (k+1),by omega,k+1,rfl,by omega,ts++[t1],dG,_,⟨by simp [hi.len],?_,jf,g1.2,dq,?_,?_,?_⟩,rfl⟩
    ·rw [List.take_succ_eq_append_getElem yh,J9,hi.run];simp only [cG,bX]
    ·simp only [List.length_append,List.length_take,List.length_drop,hi.Cc,xR];omega
    ·intro i eU;rw [List.length_append,hi.len] at eU;simp only [List.length_cons,List.length_nil] at eU;rcases Nat.lt_or_ge i k with hik | hik
     ·rw [List.append_assoc,List.getElem?_append_left (by rw [List.length_take,hi.Cc];omega),List.getElem?_take_of_lt (by omega),hi.kinds i (by rw [hi.len];exact hik)]
      congr 2
      rw [List.getElem_append_left (by rw [hi.len];exact hik)]
     ·have hik:i=k:=by omega
      subst hik;rw [List.append_assoc,List.getElem?_append_right (by rw [List.length_take];omega),List.length_take,hi.Cc,show 3*i - min (i*3) 6=0 by omega,e5];simp only [List.cons_append,List.getElem?_cons_zero,Option.some.injEq]
      congr 1
      rw [List.getElem_append_right (by rw [hi.len];omega)];simp [hi.len]
    ·exact (gl.trans (an aJ)).trans (aN.aU (fun b h=>.inr h))
 ·rintro ρ w4 ⟨ts,dQ,cs,hi,g3,g4,g6⟩;have oN:=hi.run;rw [List.take_of_length_le (by omega)] at oN;rw [oN];obtain ⟨a,b,rh⟩:=EG hi.len;subst rh;have k0:cs[0]? = some (I a.kind):=hi.kinds 0 (by simp);have k3:cs[3]? = some (I b.kind):=hi.kinds 1 (by simp);have BP:oJ e.name [a,b]=if (a.kind != 1||b.kind != 1)=true then .error 83 else .ok ((fS e.name).getD default):=rfl
  have c0:w4.cell? ⟨w2.heap.size,0,none⟩=some (I a.kind):=by rw [cell_of hi.box,List.getElem?_toArray];exact k0
  have c3:w4.cell? ⟨w2.heap.size,3,none⟩=some (I b.kind):=by rw [cell_of hi.box,List.getElem?_toArray];exact k3
  have ar:=hi.mod.at ar (fun hh=>by rcases hh with h | h;exact eP hc (Nat.le_refl _) h;omega);(try simp only [go_sem,simprocAttr,g3,g4,g6]);refine J8 (a:=⟨w2.heap.size,0,none⟩) (n:=0) (len:=2) (el:=dV) (sz:=3) g6 rfl rfl Ef (by omega) (by omega) ?_;rw [show (0:Int).toNat*3=0 from rfl,add_zero'];(try simp only [go_sem,simprocAttr,g3,g4,g6,c0]);cases yh:a.kind != 1 with
  | true=>
   have Cd:oJ e.name [a,b] = .error 83:=by rw [BP,if_pos (by rw [yh];rfl)]
   rw [Cd];(try simp only [go_sem,simprocAttr,g3,g4,g6]);refine ref w4 _ _ _ _ hi.mod hi.ck _ _ rfl rfl ?_;intro w7 dq aN bh;(try simp only [go_sem,simprocAttr,aE,RV.ev,az (n:=3) dq rfl,aF]);exact ⟨.bad (by decide) bh,aN⟩
  | false=>
   (try simp only [go_sem,simprocAttr,g3,g4,g6]);refine yb ?_;refine J8 (a:=⟨w2.heap.size,0,none⟩) (n:=1) (len:=2) (el:=dV) (sz:=3) g6 rfl rfl Ef (by omega) (by omega) ?_;rw [show (1:Int).toNat*3=3 from rfl,oo,Nat.zero_add];(try simp only [go_sem,simprocAttr,g3,g4,g6,c3]);cases zY:b.kind != 1 with
   | true=>
    have Cd:oJ e.name [a,b] = .error 83:=by rw [BP,if_pos (by rw [zY];simp)]
    rw [Cd];(try simp only [go_sem,simprocAttr,g3,g4,g6]);refine ref w4 _ _ _ _ hi.mod hi.ck _ _ rfl rfl ?_;intro w7 dq aN bh;(try simp only [go_sem,simprocAttr,aE,RV.ev,az (n:=3) dq rfl,aF]);exact ⟨.bad (by decide) bh,aN⟩
   | false=>
    have Cd:oJ e.name [a,b] = .ok ((fS e.name).getD default):=by rw [BP,if_neg (by rw [yh,zY];simp)]
    rw [Cd];(try simp only [go_sem,simprocAttr,g3,g4,g6,cell_of ar,Value.cells]);refine aI (by rfl) ?_;refine (PX e.name).mono ?_;rintro _ w5 ⟨rfl,aD⟩;obtain ⟨t,ht⟩:=Option.isSome_iff_exists.1 iV;have nB:t = .mk t.kind t.name []:=by
     unfold fS at ht
     split at ht
     ·cases ht;rfl
     ·split at ht
      ·cases ht;rfl
      ·cases ht
    have kF:ui e.name=fR t.kind t.name:=by rw [ui,ht]
    rw [kF,ht];(try simp only [go_sem,simprocAttr]);refine dp (n:=3) (vs:=fR t.kind t.name) rfl rfl (oG _ _) ?_;intro w6 ci aJ gN;(try simp only [go_sem,simprocAttr,az (n:=3) ci rfl]);have vR:=aD.trans aJ;have au:=(hi.mod.trans (an vR)).at au (fun hh=>by rcases hh with h | h;exact eP hc z1 h;omega);refine bL (vs:=fR t.kind t.name) (cs:=cJ) rfl rfl au rfl rfl (oG _ _) ?_;intro w7 dq aN jX;(try simp only [go_sem,simprocAttr,aE,RV.ev,az (n:=3) dq rfl,aF]);have jz:=(hi.ck.aB vR).sub (S:=aL S w1.heap.size) (fun b hb=>.inl hb) (fun b hb=>.inl (hc.bt b hb));have bw:aW w6 (Out (aL S w1.heap.size) w6) (fR t.kind t.name) t:=by
     have:=oC w6 (Out (aL S w1.heap.size) w6) t.kind t.name;rw [← nB] at this;exact this
    exact ⟨re jz bw aN hc.bt (gQ hc z1),((an bn:Mod M.two w w3).step (hi.mod.trans (an vR)) (fun b hb hl=>by rcases hb with h | h;exact h;omega)).step aN (fun b hb hl=>by omega)⟩
end
section
open Go Go.W
section
variable {w:World} {ρ:Go.W.Env} {K:Value→World→Prop} {S:Nat→Prop} {M:Ms} {E:Env} {bd:bM} {lc:Loc} {n:ByteArray} {m x y:Operand} {d:Option Nat} {ty:TypeId} {pos:String} {af:Array Edge}
theorem Kb (hc:bP w S M E bd lc):M.mb≠M.ml:=(Ms.ne hc.nodup).2.2.2.2.2
theorem Kc {cs:List Value} {t:Ty} (hc:bP w S M E bd lc) (hm:(bm m).ev ρ=some (.map (some M.ml))) (hx:(bm x).ev ρ=some (.string n)) (hy:(bm y).ev ρ=some (.agg cs.toArray)) (ht:aW w (Out S w) cs t)
   (hk:∀ w',bP w' S M E bd (bO lc n t)→Mod M.two w w'→w'.heap.size=w.heap.size→K undef w'):Go.W.E.wp Tryz.prog w ρ K (.raw ⟨d,.mapUpdate 127 m x y,ty,pos,af,none⟩):=by
 refine mS (kt:=9) (et:=dV) hm hx hy rfl rfl hc.locals ⟨cs,rfl,ht⟩ ?_;intro w' h1 h2 h3;have iX:Mod M.two w w':=h2.aU (fun b hb=>.inr hb);have bB:=iX.aU hc.two;exact hk w' (hc.dz iX (hc.gF.mod h2 (fun e=>Kb hc e) (fun _ _ x=>x)) (cE.mod h1 (Mod.refl (fun _=>False) w') _root_.id (fun _ _ x=>x.up bB aK (aX bB)))) iX h3
theorem EJ {at':Array TypeId} (gd:at'[0]? = some 127) (hc:bP w S M E bd lc) (hm:(bm m).ev ρ=some (.map (some M.ml))) (hx:(bm x).ev ρ=some (.string n))
   (hk:∀ w',bP w' S M E bd (gO lc n)→Mod M.two w w'→w'.heap.size=w.heap.size→K (.tuple #[]) w'):Go.W.E.wp Tryz.prog w ρ K (.raw ⟨d,.call { callee:=.builtin .delete,args:=#[m,x],argTypes:=at'},ty,pos,af,none⟩):=by
 refine ab6 (kt:=9) (et:=dV) gd hm hx rfl rfl hc.locals ?_;intro w' h1 h2 h3;have iX:Mod M.two w w':=h2.aU (fun b hb=>.inr hb);have bB:=iX.aU hc.two;exact hk w' (hc.dz iX (hc.gF.mod h2 (fun e=>Kb hc e) (fun _ _ x=>x)) (cE.mod h1 (Mod.refl (fun _=>False) w') _root_.id (fun _ _ x=>x.up bB aK (aX bB)))) iX h3
theorem acr (hc:bP w S M E bd lc) (hm:(bm m).ev ρ=some (.map (some M.mb))) (hx:(bm x).ev ρ=some (.string n)) (hy:(bm y).ev ρ=some (I 1))
   (hk:∀ w',bP w' S M E (bO bd n 1) lc→Mod M.two w w'→w'.heap.size=w.heap.size→K undef w'):Go.W.E.wp Tryz.prog w ρ K (.raw ⟨d,.mapUpdate 90 m x y,ty,pos,af,none⟩):=by
 refine mS (kt:=9) (et:=3) hm hx hy rfl rfl hc.gF (show RI (I 1) 1 from rfl) ?_;intro w' h1 h2 h3;have iX:Mod M.two w w':=h2.aU (fun b hb=>.inl hb);exact hk w' (hc.dz iX h1 (hc.locals.ty h2 (fun x hx=>by subst hx;exact hc.two _ (.inl rfl)) (fun e=>Kb hc e.symm))) iX h3
end
theorem yi {w:World} {B:Nat→Prop} {b:Bd} {cs:List Value} {bb:Nat} {T:Nat} (h:ff w B cs b) (hb:w.heap[bb]? = some (.cells cs.toArray T (0,0))) :
   ∃ tc ec,cs = .string b.name::(tc++ec)∧aW w B tc b.type∧bE w B ec b.value∧gp w 3 (.pointer (some ⟨bb,1,none⟩))=some (.agg tc.toArray)∧gp w 7 (.pointer (some ⟨bb,4,none⟩))=some (.agg ec.toArray)∧w.cell? ⟨bb,0,none⟩=some (.string b.name)∧cs.length=11:=by
 obtain ⟨tc,ec,rfl,fT,eW,jw⟩:=h;have l1:=fT.len;have l2:=eW.len;refine ⟨tc,ec,rfl,fT,eW,?_,?_,by rw [cell_of hb];simp,by simp;omega⟩
 ·have:=iN (off:=1) (n:=3) hb (by simp;omega)
  rwa [List.drop_succ_cons,List.drop_zero,List.take_left' l1] at this
 ·have:=iN (off:=4) (n:=7) hb (by simp;omega)
  rwa [List.drop_succ_cons,List.drop_left' l1,List.take_of_length_le (by omega)] at this
theorem ff.up {w w':World} {B B' S:Nat→Prop} {cs:List Value} {b:Bd} (h:ff w B cs b) (hm:Mod S w w') (hd:∀ b,B b→¬ S b) (hB:∀ b,B b→B' b):ff w' B' cs b:=by
 obtain ⟨tc,ec,e,h1,h2,hn⟩:=h;exact ⟨tc,ec,e,h1.up hm hd hB,h2.up hm hd hB,hn⟩
theorem iO.up {w w':World} {B B' S:Nat→Prop} {cs:List Value} {a:Al} (h:iO w B cs a) (hm:Mod S w w') (hd:∀ b,B b→¬ S b) (hB:∀ b,B b→B' b):iO w' B' cs a:=by
 obtain ⟨vv,ec,e,h1,h2⟩:=h;exact ⟨vv,ec,e,h1.up hm hd hB (fun _ _ h=>h),h2.up hm hd hB⟩
theorem ff.aB {w w':World} {S:Nat→Prop} {cs:List Value} {b:Bd} (h:ff w (Out S w) cs b) (hm:Mod S w w'):ff w' (Out S w') cs b:=h.up hm aK (aX hm)
end
section
open Go Go.W
theorem acs {E:Env} (hE:lq E) (gm:dy E iR 0=false) {e x:Ex} {b:Bd} (fr:e.args=[x]) (ly:e.binds=[b]) (iD:sU E x) {w:World} {S:Nat→Prop} {M:Ms} {st:St} {cs:List Value} (hc:bP w S M E st.1 st.2) (hg:df E st.2) (h:bE w (Out S w) cs e) :
   a8 Tryz.prog 68 [ptr M.c,.agg cs.toArray] w fun r w'=>p7 w' S M E r (match jv E b st.1 with
       | .error x=>.error x
       | .ok bd=>match cG E e.args (bd,bO st.2 b.name b.type) with
        | .error x=>.error x
        | .ok y=>(pZ b y.1).map (fun t=>(t,(y.2.1,gO y.2.2 b.name))))∧Mod M.two w w':=by
 obtain ⟨vt,va,vb,vl,rfl,ht,ha,hb,hl⟩:=h.parts;obtain ⟨aa,ca,rfl⟩:=a7 ha;obtain ⟨ab,cb,rfl⟩:=a7 hb;refine ZM.calls rfl ?_;unfold ID;(try simp only [go_sem,simprocAttr]);refine bD rfl ?_;intro w1 ar aj bC;(try simp only [go_sem,simprocAttr]);refine cM ?_;intro w2 au ai bK;have ar:=ai.at ar _root_.id;have aY:=aj.trans ai;have z1:=aj.size
 have ju:bP w2 (aL S w1.heap.size) M E st.1 st.2:=hc.ext aY (eI z1) (fun b hb=>.inl hb) (fun b hb=>by
  rcases hb with h | h
  ·have:=hc.lt b h;omega
  ·omega)
 have S2:=ju.two;have lx:e.args.length=1:=by rw [fr];rfl
 have lb:e.binds.length=1:=by rw [ly];rfl
 have ye:aT w2 (.slice aa e.args.length ca) 7 (Out (aL S w1.heap.size) w2) (bE w2 (Out (aL S w1.heap.size) w2)) e.args:=ha.up aY aC (eH (an aY) (eI z1)) (fun _ _ h=>h.ext (an aY) (eI z1));have lZ:aT w2 (.slice ab e.binds.length cb) 11 (Out (aL S w1.heap.size) w2) (ff w2 (Out (aL S w1.heap.size) w2)) e.binds:=hb.up aY aC (eH (an aY) (eI z1)) (fun _ _ h=>h.up aY aC (eH (an aY) (eI z1)));have b1:(0:Int)≤0∧(0:Int) < e.args.length:=by omega
 have b2:(0:Int)≤0∧(0:Int) < e.binds.length:=by omega
 obtain ⟨zZ,c2,rb,e2,dF,QB,QC,_⟩:=eh lZ (i:=0) (by omega);obtain ⟨rfl,-,-⟩:=bY e2;have exb:e.binds[0]'(by omega)=b:=by simp [ly]
 have yf:e.args[0]'(by omega)=x:=by simp [fr]
 rw [exb] at dF;rw [Nat.zero_mul,add_zero'] at QC;(try simp only [go_sem,simprocAttr,bq,br,cell_of ar,Value.cells,b2,Nat.zero_mul,QC]);refine dp (n:=11) (vs:=rb) rfl QB dF.one ?_;intro w3 aM aq eV;have cA:=ju.aB aq;(try simp only [go_sem,simprocAttr,az (n:=11) aM QB]);refine aI (by rfl) ?_;refine (Qi (B:=fun _=>False) b cA (dF.aB (an aq))).mono ?_;rintro r4 w4 ⟨mX,aA⟩;have ii:Mod M.two w2 w4:=(an aq).trans aA;cases vS:jv E b st.1 with
 | error e4=>
  rw [vS] at mX;obtain ⟨rfl,bo,QD,jd⟩:=mX;have gR:(e4 != 0)=true:=by simpa using bo
  (try simp only [go_sem,simprocAttr,gR]);refine gz hc z1 (ii.at au (eP hc z1)) ((an aY).trans ii) jd rfl rfl ?_;intro w5 bG aD bh;(try simp only [go_sem,simprocAttr,aE,RV.ev,az (n:=3) bG rfl,aF]);exact ⟨.bad bo bh,aD⟩
 | ok bd=>
  rw [vS] at mX;obtain ⟨rfl,j7⟩:=mX;have EK:=zV vS;have Kd:¬ M.two w2.heap.size:=eP hc (by omega);have aM:=aA.at aM Kd;have d4:Mod (fun _=>False) w4 w4.drew:=(Mod.refl _ _).drew;have Ke:=j7.aB d4;have QE:=dF.aB ((ii.trans (an d4)).aU S2);obtain ⟨tc,ec,rfl,vT,sV,k1,k2,k0,kl⟩:=yi QE aM;have Ce:gp w4 3 (.pointer (some ⟨w2.heap.size,1,none⟩))=some (.agg tc.toArray):=by rw [← b9];exact k1
  have Kf:w4.cell? ⟨w2.heap.size,0,none⟩=some (.string b.name):=k0;(try simp only [go_sem,simprocAttr,cell_of j7.box,Kf,b9,Ce]);refine Kc (n:=b.name) Ke rfl rfl rfl vT ?_;intro w5 je aD eN;have pi:Mod M.two w2 w5:=ii.trans ((an d4).trans aD);have ar:=pi.at ar (eP hc (Nat.le_refl _));have Kg:=ye.up pi (fun b hb hh=>hb.2 (S2 b hh)) (aX (pi.aU S2)) (fun _ _ h=>h.aB (pi.aU S2));obtain ⟨ad,c1,r1,e1,hx,ph⟩:=uu Kg (i:=0) (by omega);obtain ⟨rfl,-,-⟩:=bY e1;rw [yf] at hx;rw [Nat.zero_mul,add_zero'] at ph;have vU:df E (bO st.2 b.name b.type):=hg.put EK;rw [fr];simp only [cG];(try simp only [go_sem,simprocAttr,bq,br,cell_of ar,Value.cells,b1,Nat.zero_mul,ph]);refine aI (by rfl) ?_;refine (iD (st:=(bd,bO st.2 b.name b.type)) je vU hx).mono ?_;rintro r6 w6 ⟨pd,aJ⟩;have qW:=pi.trans aJ;have aM:=(aD.trans aJ).at aM Kd;cases bX:cj E x (bd,bO st.2 b.name b.type) with
  | error e6=>
   rw [bX] at pd;obtain ⟨cz,bA,bS,rfl,bo,bd6,lc6,jz⟩:=pd;(try simp only [go_sem,simprocAttr]);refine dp (n:=3) (vs:=cz) rfl bA bS ?_;intro w7 dq aN jX;have jf:=(jz.aB aN).aB (Mod.refl _ _).drew;have aM:=aN.at aM _root_.id;have Kh:w7.cell? ⟨w2.heap.size,0,none⟩=some (.string b.name):=by rw [cell_of aM];simp
   (try simp only [go_sem,simprocAttr,cell_of jf.box,cell_of (jz.aB aN).box,Kh]);refine EJ (n:=b.name) rfl jf rfl rfl ?_;intro w8 me bg mR;have Aa:Mod M.two w2 w8:=(qW.trans (an aN)).trans bg.eF;have gR:(e6 != 0)=true:=by simpa using bo
   (try simp only [go_sem,simprocAttr,gR]);refine gz hc z1 (Aa.at au (eP hc z1)) ((an aY).trans Aa) me rfl rfl ?_;intro w9 dL aV bh;(try simp only [go_sem,simprocAttr,aE,RV.ev,az (n:=3) dL rfl,aF]);exact ⟨.bad bo bh,aV⟩
  | ok y1=>
   obtain ⟨t1,dG⟩:=y1;rw [bX] at pd;obtain ⟨⟨c6,rfl,vV⟩,jz⟩:=pd;have g6:=sR hE gm x _ _ vU bX;(try simp only [go_sem,simprocAttr]);refine dp (n:=3) (vs:=c6) rfl vV.len vV.one ?_;intro w7 dq aN jX;have jf:=(jz.aB aN).aB (Mod.refl _ _).drew;have aM:=aN.at aM _root_.id;have Kh:w7.cell? ⟨w2.heap.size,0,none⟩=some (.string b.name):=by rw [cell_of aM];simp
   (try simp only [go_sem,simprocAttr,cell_of jf.box,cell_of (jz.aB aN).box,Kh]);refine EJ (n:=b.name) rfl jf rfl rfl ?_;intro w8 me bg mR;have Cf:Mod M.two w7 w8:=bg.eF;have EL:Mod M.two w4 w8:=((an d4).trans aD).trans (aJ.trans ((an aN).trans Cf));have Aa:Mod M.two w2 w8:=ii.trans EL;have aM:=Cf.at aM Kd;have dq:=Cf.at dq (eP hc (by have:=qW.size;omega));have QF:=QE.aB (((aD.trans aJ).trans ((an aN).trans Cf)).aU S2);have mg:aW w8 (Out (aL S w1.heap.size) w8) c6 t1:=(vV.aB (an aN)).aB (Cf.aU S2);obtain ⟨Ki,ec',e8,QG,_,k18,_,_,_⟩:=yi QF aM;have e8:tc=Ki:=by
    have:=congrArg (fun l=>(l.drop 1).take 3) e8
    simpa [List.take_left' vT.len,List.take_left' QG.len] using this
   subst e8;have QH:pZ b [t1]=if Wr (Wr (b.type.size+t1.size)+1) > 500 then .error 83 else .ok (kB b.type t1):=rfl
   have ajI:w8.drew.heap[w6.heap.size]? = _:=dq;(try simp only [go_sem,simprocAttr,k18,b9,az (n:=3) dq vV.len]);refine aI (by rfl) ?_;refine (zG b.type (QG.mod (Mod.refl (fun _=>False) w8).drew aC)).mono ?_;rintro _ w9 ⟨rfl,aV⟩;have aV:=aV.eF;(try simp only [go_sem,simprocAttr]);refine ⟨by rw [aV.bN _ (cO dq) _root_.id],?_⟩;refine aI (by rfl) ?_;refine (zG t1 (mg.mod aV aC)).mono ?_;rintro _ cT ⟨rfl,bJ⟩;have vW:Mod (fun _=>False) w8 cT:=aV.trans bJ;have pj:=me.aB vW;(try simp only [go_sem,simprocAttr]);cases sE:decide (IntKind.i64.wrap (IntKind.i64.wrap (b.type.size+t1.size)+1) > 500) with
   | true=>
    have Kj:pZ b [t1] = .error 83:=by rw [QH,if_pos (of_decide_eq_true sE)]
    rw [Kj];(try simp only [go_sem,simprocAttr]);refine gz hc z1 ((Aa.trans (an vW)).at au (eP hc z1)) ((an aY).trans (Aa.trans (an vW))) pj rfl rfl ?_;intro fD nJ dO bh;(try simp only [go_sem,simprocAttr,aE,RV.ev,az (n:=3) nJ rfl,aF]);exact ⟨.bad (by decide) bh,dO⟩
   | false=>
    have Kj:pZ b [t1] = .ok (kB b.type t1):=by rw [QH,if_neg (of_decide_eq_false sE)]
    rw [Kj];obtain ⟨acv,ajJ,sW,QI,_,acw,_,_,_⟩:=yi (QF.aB (an vW)) (vW.at aM _root_.id);have sW:tc=acv:=by
     have:=congrArg (fun l=>(l.drop 1).take 3) sW
     simpa [List.take_left' vT.len,List.take_left' QI.len] using this
    subst sW;(try simp only [go_sem,simprocAttr,acw,az (n:=3) (vW.at dq _root_.id) vV.len]);refine aI (by rfl) ?_;refine (PW (fun b hb=>pj.lt b hb) QI (mg.aB (an vW))).mono ?_;rintro _ fD ⟨⟨cf,rfl,uv⟩,dO⟩;have QJ:=Aa.trans (an (vW.trans dO));(try simp only [go_sem,simprocAttr]);refine bL (cs:=cJ) rfl rfl (QJ.at au (eP hc z1)) uv.len rfl uv.one ?_;intro p8 vN fU EM;(try simp only [go_sem,simprocAttr,aE,RV.ev,az (n:=3) vN uv.len,aF]);exact ⟨re (st:=(dG.1,gO dG.2 b.name)) (pj.aB dO) uv fU hc.bt (gQ hc z1),((an aY).trans QJ).step fU (fun b hb hl=>by omega)⟩
end
section
open Go Go.W
theorem acx {l:List Bd} {i:Nat} (hi:i < l.length) (lc:Loc):cm (l.drop i) lc=cm (l.drop (i+1)) (bO lc l[i].name l[i].type):=by rw [List.drop_eq_getElem_cons hi,cm]
theorem acy {E:Env} {l:List Bd} {i:Nat} (hi:i < l.length) (bd:bM):jx E (l.drop i) bd=(match jv E l[i] bd with | .error x=>.error x | .ok dN=>jx E (l.drop (i+1)) dN):=by rw [List.drop_eq_getElem_cons hi,jx];try rfl
theorem acz {E:Env} {l:List Bd} {i:Nat} (hi:i < l.length) (st:St):jc E (l.drop i) st=(match cj E l[i].value st with | .error x=>.error x | .ok y=>if gg y.1 l[i].type=true then jc E (l.drop (i+1)) y.2 else .error 83):=by rw [List.drop_eq_getElem_cons hi,B5];try rfl
theorem acA {l:List Bd} {i:Nat} (hi:i < l.length) (lc:Loc):lm (l.drop i) lc=lm (l.drop (i+1)) (gO lc l[i].name):=by rw [List.drop_eq_getElem_cons hi,lm,List.map_cons,iH,lm]
theorem acB:Fn 89:=⟨_,rfl,rfl,rfl⟩
theorem QK {E:Env} {e:Ex} {w:World} {S:Nat→Prop} {M:Ms} {bd:bM} {lc:Loc} {cs:List Value} {b2 b3:Nat} (hc:bP w S M E bd lc) (h:bE w (Out S w) cs e) (aM:w.heap[b3]? = some (.cells cs.toArray 47 (0,0))) (au:w.heap[b2]? = some (.cells #[ptr M.c] 98 (0,0))) (n3:¬ M.two b3) (n2:¬ M.two b2) :
   a8 Tryz.prog 89 [ptr b3,ptr b2] w fun r w'=>bP w' S M E bd (cm e.binds lc)∧Mod M.two w w':=by
 obtain ⟨vt,va,vb,vl,rfl,ht,ha,hb,hl⟩:=h.parts;obtain ⟨ab,cb,rfl⟩:=a7 hb;refine aab.calls rfl ?_;unfold IZ;(try simp only [go_sem,simprocAttr,cell_of aM]);have S2:=hc.two;refine mO (PP:=fun w'=>ff w' (Out S w)) (l:=e.binds) (B:=Out S w) (fun k ρ w'=>k≤e.binds.length∧Mod M.two w w'∧(∃ ik,bP w' S M E bd ik∧cm (e.binds.drop k) ik=cm e.binds lc)∧ρ=[(1,ptr b2),(5,.slice ab e.binds.length cb),(6,I e.binds.length),(7,I k)])
  ⟨by omega,.refl _ _,⟨lc,hc,rfl⟩,rfl⟩ hb ?_ (fun _ _ _ h=>h.one) rfl ?_ ?_
 ·rintro k _ w2 ⟨hk,ai,_,rfl⟩;exact ⟨⟨hb.up ai (fun b hb hh=>hb.2 (S2 b hh)) (fun _ h=>h) (fun _ _ h=>h.up ai (fun b hb hh=>hb.2 (S2 b hh)) (fun _ h=>h)),hk⟩,rfl,rfl,rfl⟩
 ·rintro k _ w2 hk w3 r b pv ⟨_,ai,⟨ik,bh,vX⟩,rfl⟩ hr bT ba aq hnb;have mV:ff w3.drew (Out S w3.drew) r e.binds[k]:=hr.up aq.drew aC (fun b hb=>⟨by have:=hb.1;have:=ai.size;have:=aq.size;have e:w3.drew.heap.size=w3.heap.size:=rfl;omega,hb.2⟩);have acC:w3.drew.heap[b]? = _:=ba;obtain ⟨tc,ec,rfl,vT,sV,k1,k2,k0,kl⟩:=yi mV acC;have cA:=bh.aB aq;have lZ:=(ai.trans (an aq)).at au n2;have Ce:gp w3 3 (.pointer (some ⟨b,1,none⟩))=some (.agg tc.toArray):=by rw [← b9];exact k1
  have Kf:w3.cell? ⟨b,0,none⟩=some (.string e.binds[k].name):=k0;(try simp only [go_sem,simprocAttr,cell_of lZ,cell_of cA.box,Kf,b9,Ce]);refine Kc (n:=e.binds[k].name) (cA.aB (Mod.refl _ _).drew) rfl rfl rfl vT ?_;intro w5 je aD eN;(try simp only [go_sem,simprocAttr]);exact ⟨hk,(ai.trans (an aq)).trans aD.eF,_,je,by rw [← vX,acx hk]⟩
 ·rintro _ w2 ⟨_,ai,⟨ik,bh,vX⟩,rfl⟩;rw [List.drop_length,cm] at vX;subst vX;(try simp only [go_sem,simprocAttr]);exact ⟨bh,ai⟩
def Kept (w:World) (S:Nat→Prop) (M:Ms) (E:Env) (cz:List Value) (u:Value) (x:Except Int (Ty×St)):Prop:=match x with
 | .error e=>u=I e∧e≠0∧∃ bd lc,bP w S M E bd lc
 | .ok y=>u=I 0∧aW w (Out S w) cz y.1∧bP w S M E y.2.1 y.2.2
theorem QL {E:Env} (hE:lq E) (gm:dy E iR 0=false) {e x:Ex} (fr:e.args=[x]) (iD:sU E x) (tS:∀ b∈e.binds,sU E b.value) {w:World} {S:Nat→Prop} {M:Ms} {st:St} {cs:List Value} (hc:bP w S M E st.1 st.2) (hg:df E st.2) (h:bE w (Out S w) cs e) :
   a8 Tryz.prog 69 [ptr M.c,.agg cs.toArray] w fun r w'=>p7 w' S M E r (match jx E e.binds st.1 with
    | .error x=>.error x
    | .ok bd=>match jc E e.binds (bd,if e.kind=7 then cm e.binds st.2 else st.2) with
     | .error x=>.error x
     | .ok bV=>match cG E e.args (bV.1,cm e.binds bV.2) with
      | .error x=>.error x
      | .ok y=>.ok (y.1.headD default,(y.2.1,lm e.binds y.2.2)))∧Mod M.two w w':=by
 obtain ⟨vt,va,vb,vl,rfl,ht,ha,hb,hl⟩:=h.parts;obtain ⟨aa,ca,rfl⟩:=a7 ha;obtain ⟨ab,cb,rfl⟩:=a7 hb;obtain ⟨fn1,eK,gL,jr⟩:=acB.ok;refine ZQ.calls rfl ?_;unfold IE;(try simp only [go_sem,Nat.reduceAdd,Nat.reduceEqDiff,Nat.reduceLT,Nat.reduceLeDiff,Nat.reduceMul,reduceCtorEq,↓reduceIte]);refine bD rfl ?_;intro wa jA jB oZ;(try simp only [go_sem,Nat.reduceAdd,Nat.reduceEqDiff,Nat.reduceLT,Nat.reduceLeDiff,Nat.reduceMul,reduceCtorEq,↓reduceIte]);refine bD rfl ?_;intro wb ey fQ yj;(try simp only [go_sem,Nat.reduceAdd,Nat.reduceEqDiff,Nat.reduceLT,Nat.reduceLeDiff,Nat.reduceMul,reduceCtorEq,↓reduceIte]);refine cM ?_;intro w3 ba kG hsc;have aM:=kG.at ey _root_.id;have au:=(fQ.trans kG).at jA _root_.id;have bn:=jB.trans (fQ.trans kG);have za:=jB.size;have zb:=fQ.size;have zw:w.heap.size≤wb.heap.size:=by omega
 have cA:bP w3 (aL S wb.heap.size) M E st.1 st.2:=hc.ext bn (eI zw) (fun b hb=>.inl hb) (fun b hb=>by
  rcases hb with h | h
  ·have:=hc.lt b h;omega
  ·omega)
 have S3:=cA.two;have n2:¬ M.two w.heap.size:=eP hc (Nat.le_refl _);have n3:¬ M.two wa.heap.size:=eP hc za;have n4:¬ M.two wb.heap.size:=eP hc zw;have lx:e.args.length=1:=by rw [fr];rfl
 have p9:bE w3 (Out (aL S wb.heap.size) w3) [I e.kind,.string e.name,I e.num,vt,.slice aa e.args.length ca,.slice ab e.binds.length cb,vl] e:=h.ext (an bn) (eI zw);have vQ:aT w3 (.slice aa e.args.length ca) 7 (Out (aL S wb.heap.size) w3) (bE w3 (Out (aL S wb.heap.size) w3)) e.args:=ha.up bn aC (eH (an bn) (eI zw)) (fun _ _ h=>h.ext (an bn) (eI zw));have Ab:aT w3 (.slice ab e.binds.length cb) 11 (Out (aL S wb.heap.size) w3) (ff w3 (Out (aL S wb.heap.size) w3)) e.binds:=hb.up bn aC (eH (an bn) (eI zw)) (fun _ _ h=>h.up bn aC (eH (an bn) (eI zw)));have later:∀ {w':World},Mod M.two w3 w'→aT w' (.slice ab e.binds.length cb) 11 (Out (aL S wb.heap.size) w3) (ff w' (Out (aL S wb.heap.size) w3)) e.binds:=fun hm=>
  Ab.up hm (fun b hb hh=>hb.2 (S3 b hh)) (fun _ h=>h) (fun _ _ h=>h.up hm (fun b hb hh=>hb.2 (S3 b hh)) (fun _ h=>h))
 have now:∀ {w' dP:World} {r:List Value} {b:Bd},Mod M.two w3 w'→Mod (fun _=>False) w' dP→ff w' (Out (aL S wb.heap.size) w3) r b→ff dP (Out (aL S wb.heap.size) dP) r b:=fun hm fP hr=>
  hr.up fP aC (fun b hb=>⟨by have:=hb.1;have:=hm.size;have:=fP.size;omega,hb.2⟩)
 (try simp only [go_sem,Nat.reduceAdd,Nat.reduceEqDiff,Nat.reduceLT,Nat.reduceLeDiff,Nat.reduceMul,reduceCtorEq,↓reduceIte,cell_of aM,Value.cells]);refine mO (PP:=fun w'=>ff w' (Out (aL S wb.heap.size) w3)) (l:=e.binds) (B:=Out (aL S wb.heap.size) w3) (fun k ρ w'=>k≤e.binds.length∧Mod M.two w3 w'∧(∃ ri,bP w' (aL S wb.heap.size) M E ri st.2∧jx E (e.binds.drop k) ri=jx E e.binds st.1)∧ρ=[(2,ptr w.heap.size),(3,ptr wa.heap.size),(4,ptr wb.heap.size),(19,.slice ab e.binds.length cb),(20,I e.binds.length),(21,I k)])
  ⟨by omega,.refl _ _,⟨st.1,cA,rfl⟩,rfl⟩ Ab ?_ (fun _ _ _ h=>h.one) rfl ?_ ?_
 ·rintro k _ w4 ⟨hk,aA,_,rfl⟩;exact ⟨⟨later aA,hk⟩,rfl,rfl,rfl⟩
 ·rintro k _ w4 hk w5 r b7 pv ⟨_,aA,⟨ri,bh,dM⟩,rfl⟩ hr bT dq aD _;have gl:=aA.trans (an aD);(try simp only [go_sem,Nat.reduceAdd,Nat.reduceEqDiff,Nat.reduceLT,Nat.reduceLeDiff,Nat.reduceMul,reduceCtorEq,↓reduceIte,cell_of (gl.at au n2),Value.cells,az (n:=11) dq bT]);refine aI (by rfl) ?_;refine (Qi (B:=fun _=>False) e.binds[k] (bh.aB aD) (now aA aD hr)).mono ?_;rintro r6 w6 ⟨pd,aJ⟩;have Ac:=gl.trans aJ;rw [acy hk] at dM;cases vS:jv E e.binds[k] ri with
  | error e4=>
   rw [vS] at pd dM;obtain ⟨rfl,bo,QD,jd⟩:=pd;have gR:(e4 != 0)=true:=by simpa using bo
   rw [← dM];(try simp only [go_sem,Nat.reduceAdd,Nat.reduceEqDiff,Nat.reduceLT,Nat.reduceLeDiff,Nat.reduceMul,reduceCtorEq,↓reduceIte,gR]);refine gz hc zw (Ac.at ba n4) ((an bn).trans Ac) jd rfl rfl ?_;intro w7 dq aN bh;(try simp only [go_sem,Nat.reduceAdd,Nat.reduceEqDiff,Nat.reduceLT,Nat.reduceLeDiff,Nat.reduceMul,reduceCtorEq,↓reduceIte,aE,RV.ev,az (n:=3) dq rfl,aF]);exact ⟨.bad bo bh,aN⟩
  | ok dN=>
   rw [vS] at pd dM;obtain ⟨rfl,jz⟩:=pd;(try simp only [go_sem,Nat.reduceAdd,Nat.reduceEqDiff,Nat.reduceLT,Nat.reduceLeDiff,Nat.reduceMul,reduceCtorEq,↓reduceIte]);exact ⟨hk,Ac,dN,jz,dM⟩
 rintro _ w4 ⟨_,aA,⟨bd,j7,dM⟩,rfl⟩;rw [List.drop_length,jx] at dM;rw [← dM];have EK:=J2 e.binds dM.symm;have aM:=aA.at aM n3;(try simp only [go_sem,Nat.reduceAdd,Nat.reduceEqDiff,Nat.reduceLT,Nat.reduceLeDiff,Nat.reduceMul,reduceCtorEq,↓reduceIte,cell_of aM,Value.cells]);refine BB (fun ρ w'=>Mod M.two w3 w'∧bP w' (aL S wb.heap.size) M E bd (if e.kind=7 then cm e.binds st.2 else st.2)∧ρ.get 2=some (ptr w.heap.size)∧ρ.get 3=some (ptr wa.heap.size)∧ρ.get 4=some (ptr wb.heap.size)∧ρ.get 9=some (.func (.func 89) #[] #[ptr wa.heap.size,ptr w.heap.size])) ?_ ?_
 ·cases QM:e.kind == 7 with
  | false=>(try simp only [go_sem,Nat.reduceAdd,Nat.reduceEqDiff,Nat.reduceLT,Nat.reduceLeDiff,Nat.reduceMul,reduceCtorEq,↓reduceIte]);exact ⟨aA,by rw [if_neg (by simpa using QM)];exact j7⟩
  | true=>
   (try simp only [go_sem,Nat.reduceAdd,Nat.reduceEqDiff,Nat.reduceLT,Nat.reduceLeDiff,Nat.reduceMul,reduceCtorEq,↓reduceIte]);refine xA (f:=89) (cap:=#[ptr wa.heap.size,ptr w.heap.size]) rfl (by rfl) eK gL jr ?_;refine (QK j7 (p9.aB (aA.aU S3)) aM (aA.at au n2) n3 n2).mono ?_;rintro r5 w5 ⟨je,aD⟩;(try simp only [go_sem,Nat.reduceAdd,Nat.reduceEqDiff,Nat.reduceLT,Nat.reduceLeDiff,Nat.reduceMul,reduceCtorEq,↓reduceIte]);exact ⟨aA.trans aD,by rw [if_pos (by simpa using QM)];exact je⟩
 rintro ρ w5 ⟨aD,je,g2,g3,g4,g9⟩;generalize acD:(if e.kind=7 then cm e.binds st.2 else st.2)=Cg at je;have vU:df E Cg:=by
  rw [← acD];split
  ·exact df.cm _ hg EK
  ·exact hg
 have aM:=aD.at (w':=w5) (show w3.heap[wa.heap.size]? = _ from kG.at ey _root_.id) n3;(try simp only [go_sem,Nat.reduceAdd,Nat.reduceEqDiff,Nat.reduceLT,Nat.reduceLeDiff,Nat.reduceMul,reduceCtorEq,↓reduceIte,g2,g3,g4,g9,cell_of aM,Value.cells]);refine mO (PP:=fun w'=>ff w' (Out (aL S wb.heap.size) w3)) (l:=e.binds) (B:=Out (aL S wb.heap.size) w3) (fun k ρ w'=>k≤e.binds.length∧Mod M.two w3 w'∧(∃ Ad:St,bP w' (aL S wb.heap.size) M E Ad.1 Ad.2∧df E Ad.2∧jc E (e.binds.drop k) Ad=jc E e.binds (bd,Cg))∧ρ=[(2,ptr w.heap.size),(3,ptr wa.heap.size),(4,ptr wb.heap.size),(9,.func (.func 89) #[] #[ptr wa.heap.size,ptr w.heap.size]),(40,.slice ab e.binds.length cb),(41,I e.binds.length),(42,I k)])
  ⟨by omega,aD,⟨(bd,Cg),je,vU,rfl⟩,rfl⟩ Ab ?_ (fun _ _ _ h=>h.one) rfl ?_ ?_
 ·rintro k _ w6 ⟨hk,aJ,_,rfl⟩;exact ⟨⟨later aJ,hk⟩,rfl,rfl,rfl⟩
 ·rintro k _ w6 hk w7 r b11 pv ⟨_,aJ,⟨Ad,bh,QN,dF⟩,rfl⟩ hr bT nJ aN ajK;have pn:=aJ.trans (an aN);have EN:=now aJ aN hr;obtain ⟨tc,ec,rfl,vT,sV,k1,k2,k0,kl⟩:=yi EN nJ;(try simp only [go_sem,Nat.reduceAdd,Nat.reduceEqDiff,Nat.reduceLT,Nat.reduceLeDiff,Nat.reduceMul,reduceCtorEq,↓reduceIte,cell_of (pn.at au n2),Value.cells,k2]);refine aI (by rfl) ?_;refine (tS _ (List.getElem_mem hk) (bh.aB aN) QN sV).mono ?_;rintro r8 w8 ⟨mY,bg⟩;have Kk:=pn.trans bg;rw [acz hk] at dF;cases bX:cj E e.binds[k].value Ad with
  | error e4=>
   rw [bX] at mY dF;obtain ⟨cz,bA,bS,rfl,bo,bd6,lc6,jd⟩:=mY;have gR:(e4 != 0)=true:=by simpa using bo
   rw [← dF];(try simp only [go_sem,Nat.reduceAdd,Nat.reduceEqDiff,Nat.reduceLT,Nat.reduceLeDiff,Nat.reduceMul,reduceCtorEq,↓reduceIte]);refine dp (n:=3) (vs:=cz) rfl bA bS ?_;intro w9 dL aV gA;(try simp only [go_sem,Nat.reduceAdd,Nat.reduceEqDiff,Nat.reduceLT,Nat.reduceLeDiff,Nat.reduceMul,reduceCtorEq,↓reduceIte,gR]);refine gz hc zw ((Kk.trans (an aV)).at ba n4) ((an bn).trans (Kk.trans (an aV))) (jd.aB aV) rfl rfl ?_;intro cT gy bJ bh;(try simp only [go_sem,Nat.reduceAdd,Nat.reduceEqDiff,Nat.reduceLT,Nat.reduceLeDiff,Nat.reduceMul,reduceCtorEq,↓reduceIte,aE,RV.ev,az (n:=3) gy rfl,aF]);exact ⟨.bad bo bh,bJ⟩
  | ok y1=>
   obtain ⟨t1,dG⟩:=y1;rw [bX] at mY dF;obtain ⟨⟨c8,rfl,mg⟩,me⟩:=mY;have g8:=sR hE gm _ _ _ QN bX;(try simp only [go_sem,Nat.reduceAdd,Nat.reduceEqDiff,Nat.reduceLT,Nat.reduceLeDiff,Nat.reduceMul,reduceCtorEq,↓reduceIte]);refine dp (n:=3) (vs:=c8) rfl mg.len mg.one ?_;intro w9 dL aV gA;have zT:Mod M.two w7 w9:=bg.trans (an aV);have acE:=zT.at nJ (eP hc (by have:=bn.size;have:=aJ.size;omega));have Ae:ff w9 (Out (aL S wb.heap.size) w9) (.string e.binds[k].name::(tc++ec)) e.binds[k]:=EN.aB (zT.aU S3);obtain ⟨Ki,ec',e9,QO,ajL,Ce,_,_,_⟩:=yi Ae acE;have e9:tc=Ki:=by
    have:=congrArg (fun l=>(l.drop 1).take 3) e9
    simpa [List.take_left' vT.len,List.take_left' QO.len] using this
   subst e9;(try simp only [go_sem,Nat.reduceAdd,Nat.reduceEqDiff,Nat.reduceLT,Nat.reduceLeDiff,Nat.reduceMul,reduceCtorEq,↓reduceIte,az (n:=3) dL mg.len,Ce]);refine aI (by rfl) ?_;refine (Ep t1 (mg.aB (an aV)) QO).mono ?_;rintro _ cT ⟨rfl,bJ⟩;have Ci:=Kk.trans (an (aV.trans bJ));have pj:=me.aB (aV.trans bJ);have EO:(if gg t1 e.binds[k].type=true then jc E (e.binds.drop (k+1)) dG else .error 83)=jc E e.binds (bd,Cg):=dF;cases hs:gg t1 e.binds[k].type with
   | false=>
    rw [if_neg (by rw [hs];simp)] at EO;rw [← EO];(try simp only [go_sem,Nat.reduceAdd,Nat.reduceEqDiff,Nat.reduceLT,Nat.reduceLeDiff,Nat.reduceMul,reduceCtorEq,↓reduceIte]);refine gz hc zw (Ci.at ba n4) ((an bn).trans Ci) pj rfl rfl ?_;intro fD nJ dO bh;(try simp only [go_sem,Nat.reduceAdd,Nat.reduceEqDiff,Nat.reduceLT,Nat.reduceLeDiff,Nat.reduceMul,reduceCtorEq,↓reduceIte,aE,RV.ev,az (n:=3) nJ rfl,aF]);exact ⟨.bad (by decide) bh,dO⟩
   | true=>
    rw [if_pos hs] at EO;(try simp only [go_sem,Nat.reduceAdd,Nat.reduceEqDiff,Nat.reduceLT,Nat.reduceLeDiff,Nat.reduceMul,reduceCtorEq,↓reduceIte]);exact ⟨hk,Ci,dG,pj,g8.2,EO⟩
 rintro _ w6 ⟨_,aJ,⟨bV,jz,Kl,dF⟩,rfl⟩;rw [List.drop_length,jc] at dF;rw [← dF];(try simp only [go_sem,Nat.reduceAdd,Nat.reduceEqDiff,Nat.reduceLT,Nat.reduceLeDiff,Nat.reduceMul,reduceCtorEq,↓reduceIte]);refine xA (f:=89) (cap:=#[ptr wa.heap.size,ptr w.heap.size]) rfl (by rfl) eK gL jr ?_;have aM:=aJ.at (w':=w6) (show w3.heap[wa.heap.size]? = _ from kG.at ey _root_.id) n3;refine (QK jz (p9.aB (aJ.aU S3)) aM (aJ.at au n2) n3 n2).mono ?_;rintro r7 w7 ⟨jf,aN⟩;have pn:=aJ.trans aN;have vY:df E (cm e.binds bV.2):=df.cm _ Kl EK;have aM:=aN.at aM n3;have lZ:=pn.at au n2;have QP:aT w7 (.slice aa e.args.length ca) 7 (Out (aL S wb.heap.size) w7) (bE w7 (Out (aL S wb.heap.size) w7)) e.args:=vQ.up pn (fun b hb hh=>hb.2 (S3 b hh)) (aX (pn.aU S3)) (fun _ _ h=>h.aB (pn.aU S3));have b1:(0:Int)≤0∧(0:Int) < e.args.length:=by omega
 obtain ⟨ad,c1,r1,e1,hx,ph⟩:=uu QP (i:=0) (by omega);obtain ⟨rfl,-,-⟩:=bY e1;have yf:e.args[0]'(by omega)=x:=by simp [fr]
 rw [yf] at hx;rw [Nat.zero_mul,add_zero'] at ph;have oN:cG E e.args (bV.1,cm e.binds bV.2)=(match cj E x (bV.1,cm e.binds bV.2) with | .error e=>.error e | .ok y=>.ok ([y.1],y.2)):=by
  rw [fr];simp only [cG]
  try (cases cj E x (bV.1,cm e.binds bV.2)<;>rfl)
 (try simp only [go_sem,Nat.reduceAdd,Nat.reduceEqDiff,Nat.reduceLT,Nat.reduceLeDiff,Nat.reduceMul,reduceCtorEq,↓reduceIte,bq,br,cell_of lZ,cell_of aM,Value.cells,b1,Nat.zero_mul,ph,b9]);have d7:Mod (fun _=>False) w7 w7.drew:=(Mod.refl _ _).drew;have z7:=pn.size;have z03:=bn.size;have ed:w7.drew.heap.size=w7.heap.size:=rfl;have QQ:ad.block < w7.heap.size:=by
  obtain ⟨D9,_,r',e',_,kC,_,ie⟩:=eh QP (i:=0) (by omega);obtain ⟨e'',-,-⟩:=bY e';cases e'';have:=lU (ie 0 (by omega))
  rwa [tO,tO] at this
 refine Oq (fun ρ w'=>∃ vZ cz u,ρ.get 2=some (ptr w.heap.size)∧ρ.get 3=some (ptr wa.heap.size)∧ρ.get 4=some (ptr wb.heap.size)∧ρ.get 14=some (ptr vZ)∧ρ.get 15=some u∧w'.heap[vZ]? = some (.cells cz.toArray dV (0,0))∧cz.length=3∧(∀ u∈cz,u.oneCell'=true)∧Mod M.two w3 w'∧w7.heap.size≤vZ ∧
  Kept w' (aL S wb.heap.size) M E cz u (cj E x (bV.1,cm e.binds bV.2))) ?_ ?_
 ·rw [BC];refine ⟨?_,?_⟩
  ·refine aI (by rfl) ?_;refine (iD (st:=(bV.1,cm e.binds bV.2)) (jf.aB d7) vY (hx.aB (an d7))).mono ?_;rintro r8 w8 ⟨mY,bg⟩;have rj:Mod M.two w7 w8:=bg.eF;have z8:=rj.size;have key:∃ cz u,r8 = .tuple #[.agg cz.toArray,u]∧cz.length=3∧(∀ u∈cz,u.oneCell'=true)∧Kept w8 (aL S wb.heap.size) M E cz u (cj E x (bV.1,cm e.binds bV.2)):=by
    cases bX:cj E x (bV.1,cm e.binds bV.2) with
    | error e4=>rw [bX] at mY;obtain ⟨cz,bA,bS,rfl,bo,bh⟩:=mY;exact ⟨cz,_,rfl,bA,bS,rfl,bo,bh⟩
    | ok y1=>rw [bX] at mY;obtain ⟨⟨cz,rfl,bw⟩,bh⟩:=mY;exact ⟨cz,_,rfl,bw.len,bw.one,rfl,bw,bh⟩
   obtain ⟨cz,u,rfl,bA,bS,cU⟩:=key;(try simp only [go_sem,Nat.reduceAdd,Nat.reduceEqDiff,Nat.reduceLT,Nat.reduceLeDiff,Nat.reduceMul,reduceCtorEq,↓reduceIte]);refine cM ?_;intro w9 dL aV gA;have zz:w3.heap.size≤w8.heap.size:=by omega
   (try simp only [go_sem,Nat.reduceAdd,Nat.reduceEqDiff,Nat.reduceLT,Nat.reduceLeDiff,Nat.reduceMul,reduceCtorEq,↓reduceIte]);have h9:∀ b,b < w7.heap.size→w9.heap[b]? = w8.heap[b]?:=fun b hb=>aV.bN b (by omega) _root_.id
   refine ⟨⟨h9 _ QQ,h9 _ (by omega),h9 _ (by omega)⟩,?_⟩;refine bL (cs:=cJ) rfl rfl dL bA rfl bS ?_;intro cT gy bJ pW;have gS:Mod (fun _=>False) w8 cT:=aV.step bJ (fun b hb hl=>by omega);(try simp only [go_sem,Nat.reduceAdd,Nat.reduceEqDiff,Nat.reduceLT,Nat.reduceLeDiff,Nat.reduceMul,reduceCtorEq,↓reduceIte]);refine ⟨_,_,_,rfl,rfl,gy,bA,bS,(pn.trans rj).trans (an gS),by omega,?_⟩;cases bX:cj E x (bV.1,cm e.binds bV.2) with
   | error e4=>rw [bX] at cU;obtain ⟨k1,k2,qa,nK,k3⟩:=cU;exact ⟨k1,k2,qa,nK,k3.aB gS⟩
   | ok y1=>rw [bX] at cU;obtain ⟨k1,k2,k3⟩:=cU;exact ⟨k1,k2.aB (an gS),k3.aB gS⟩
  ·refine cM ?_;intro w8 dW bg mR;have rj:Mod (fun _=>False) w7 w8:=bg.eF;have h8:∀ b,b < w7.heap.size→w8.heap[b]? = w7.heap[b]?:=fun b hb=>rj.bN b hb _root_.id
   (try simp only [go_sem,Nat.reduceAdd,Nat.reduceEqDiff,Nat.reduceLT,Nat.reduceLeDiff,Nat.reduceMul,reduceCtorEq,↓reduceIte]);refine ⟨⟨h8 _ QQ,h8 _ (by omega),h8 _ (by omega)⟩,?_⟩;have j8:∀ b,b < w7.heap.size→aL (aL S wb.heap.size) w7.heap.size b→aL S wb.heap.size b:=fun b hb hh=>by
    rcases hh with h | h
    ·exact h
    ·omega
   have me:bP w8 (aL (aL S wb.heap.size) w7.heap.size) M E bV.1 (cm e.binds bV.2):=jf.ext rj j8 (fun b hb=>.inl hb) (fun b hb=>by
    rcases hb with h | h
    ·have:=jf.lt b h;omega
    ·omega)
   refine aI (by rfl) ?_;refine (iD (st:=(bV.1,cm e.binds bV.2)) me vY (hx.ext (an rj) j8)).mono ?_;rintro r9 w9 ⟨Ae,aV⟩;have z9:=aV.size;have dW:=aV.at dW (eP hc (by omega));have key:∃ cz u,r9 = .tuple #[.agg cz.toArray,u]∧cz.length=3∧(∀ u∈cz,u.oneCell'=true)∧Kept w9 (aL (aL S wb.heap.size) w7.heap.size) M E cz u (cj E x (bV.1,cm e.binds bV.2)):=by
    cases bX:cj E x (bV.1,cm e.binds bV.2) with
    | error e4=>rw [bX] at Ae;obtain ⟨cz,bA,bS,rfl,bo,bh⟩:=Ae;exact ⟨cz,_,rfl,bA,bS,rfl,bo,bh⟩
    | ok y1=>rw [bX] at Ae;obtain ⟨⟨cz,rfl,bw⟩,bh⟩:=Ae;exact ⟨cz,_,rfl,bw.len,bw.one,rfl,bw,bh⟩
   obtain ⟨cz,u,rfl,bA,bS,cU⟩:=key;(try simp only [go_sem,Nat.reduceAdd,Nat.reduceEqDiff,Nat.reduceLT,Nat.reduceLeDiff,Nat.reduceMul,reduceCtorEq,↓reduceIte]);refine bL (cs:=cJ) rfl rfl dW bA rfl bS ?_;intro cT gy bJ pW;have QR:∀ b∈M.list,¬ b=w7.heap.size:=gQ hc (by omega);have EP:∀ b,aL S wb.heap.size b→aL (aL S wb.heap.size) w7.heap.size b:=fun b hb=>.inl hb
   have QS:∀ b∈M.list,aL S wb.heap.size b:=fun b hb=>.inl (hc.bt b hb)
   (try simp only [go_sem,Nat.reduceAdd,Nat.reduceEqDiff,Nat.reduceLT,Nat.reduceLeDiff,Nat.reduceMul,reduceCtorEq,↓reduceIte]);refine ⟨_,_,_,rfl,rfl,gy,bA,bS,(pn.trans ((an rj).trans aV)).step bJ (fun b hb hl=>by omega),by omega,?_⟩;cases bX:cj E x (bV.1,cm e.binds bV.2) with
   | error e4=>rw [bX] at cU;obtain ⟨k1,k2,qa,nK,k3⟩:=cU;exact ⟨k1,k2,qa,nK,(k3.side bJ (fun b hb=>.inr hb) QR).sub EP QS⟩
   | ok y1=>rw [bX] at cU;obtain ⟨k1,k2,k3⟩:=cU;exact ⟨k1,(k2.aB (bJ.aU (fun b hb=>.inr hb))).sub EP,(k3.side bJ (fun b hb=>.inr hb) QR).sub EP QS⟩
 rintro ρ w8 ⟨vZ,cz,u,g2,g3,g4,g14,g15,yk,bA,bS,bg,ajM,cU⟩;have aM:=bg.at (w':=w8) (show w3.heap[wa.heap.size]? = _ from kG.at ey _root_.id) n3;(try simp only [go_sem,Nat.reduceAdd,Nat.reduceEqDiff,Nat.reduceLT,Nat.reduceLeDiff,Nat.reduceMul,reduceCtorEq,↓reduceIte,g2,g3,g4,g14,g15,cell_of aM,Value.cells]);have out:∀ (dN:bM) (gG:Loc),bP w8 (aL S wb.heap.size) M E dN gG→True:=fun _ _ _=>trivial
 have acF:∃ dN gG,bP w8 (aL S wb.heap.size) M E dN gG∧(∀ y,cj E x (bV.1,cm e.binds bV.2) = .ok y→dN=y.2.1∧gG=y.2.2):=by
  cases bX:cj E x (bV.1,cm e.binds bV.2) with
  | error e4=>rw [bX] at cU;obtain ⟨_,_,qa,nK,k3⟩:=cU;exact ⟨qa,nK,k3,fun y h=>by cases h⟩
  | ok y1=>rw [bX] at cU;exact ⟨_,_,cU.2.2,fun y h=>by cases h;exact ⟨rfl,rfl⟩⟩
 obtain ⟨qa,nK,me,Km⟩:=acF;have n14:¬ M.two vZ:=eP hc (by omega);refine mO (PP:=fun w'=>ff w' (Out (aL S wb.heap.size) w3)) (l:=e.binds) (B:=Out (aL S wb.heap.size) w3) (fun k ρ w'=>k≤e.binds.length∧Mod M.two w8 w'∧(∃ ik,bP w' (aL S wb.heap.size) M E qa ik∧lm (e.binds.drop k) ik=lm e.binds nK)∧ρ=[(2,ptr w.heap.size),(4,ptr wb.heap.size),(14,ptr vZ),(15,u),(76,.slice ab e.binds.length cb),(77,I e.binds.length),(78,I k)])
  ⟨by omega,.refl _ _,⟨nK,me,rfl⟩,rfl⟩ Ab ?_ (fun _ _ _ h=>h.one) rfl ?_ ?_
 ·rintro k _ w9 ⟨hk,aV,_,rfl⟩;exact ⟨⟨later (bg.trans aV),hk⟩,rfl,rfl,rfl⟩
 ·rintro k _ w9 hk cT r b17 pv ⟨_,aV,⟨ik,bh,rm⟩,rfl⟩ hr bT wg bJ _;have Ci:=(bg.trans aV).trans (an bJ);have x9:=now (bg.trans aV) bJ hr;obtain ⟨tc,ec,rfl,vT,sV,k1,k2,k0,kl⟩:=yi x9 wg;have pj:=bh.aB bJ;(try simp only [go_sem,Nat.reduceAdd,Nat.reduceEqDiff,Nat.reduceLT,Nat.reduceLeDiff,Nat.reduceMul,reduceCtorEq,↓reduceIte,cell_of (Ci.at au n2),Value.cells,cell_of pj.box,k0]);refine EJ (n:=e.binds[k].name) rfl (pj.aB (Mod.refl _ _).drew) rfl rfl ?_;intro fD Ko dO Cj;(try simp only [go_sem,Nat.reduceAdd,Nat.reduceEqDiff,Nat.reduceLT,Nat.reduceLeDiff,Nat.reduceMul,reduceCtorEq,↓reduceIte]);exact ⟨hk,(aV.trans (an bJ)).trans dO.eF,_,Ko,by rw [← rm,acA hk]⟩
 rintro _ w9 ⟨_,aV,⟨ik,bh,rm⟩,rfl⟩;have rm:ik=lm e.binds nK:=by rw [← rm,List.drop_length];rfl
 subst rm;have yk:=aV.at yk n14;have QT:=bg.trans aV;(try simp only [go_sem,Nat.reduceAdd,Nat.reduceEqDiff,Nat.reduceLT,Nat.reduceLeDiff,Nat.reduceMul,reduceCtorEq,↓reduceIte,az (n:=3) yk bA]);refine bL (cs:=cJ) rfl rfl (QT.at ba n4) bA rfl bS ?_;intro cT gy bJ pW;have kH:Mod M.two w cT:=((an bn).trans QT).step bJ (fun b hb hl=>by omega);cases bX:cj E x (bV.1,cm e.binds bV.2) with
 | error e4=>
  rw [bX] at cU oN;obtain ⟨rfl,bo,_⟩:=cU;have gT:cG E e.args (bV.1,cm e.binds bV.2) = .error e4:=oN;(try simp only [go_sem,Nat.reduceAdd,Nat.reduceEqDiff,Nat.reduceLT,Nat.reduceLeDiff,Nat.reduceMul,reduceCtorEq,↓reduceIte,aE,RV.ev,az (n:=3) gy bA,aF]);rw [gT];exact ⟨⟨cz,bA,bS,rfl,bo,_,_,(bh.side bJ (fun b hb=>.inr hb) (gQ hc zw)).sub (fun b hb=>.inl hb) hc.bt⟩,kH⟩
 | ok y1=>
  obtain ⟨t1,dG⟩:=y1;obtain ⟨rfl,rfl⟩:=Km _ bX;rw [bX] at cU oN;obtain ⟨rfl,bw,_⟩:=cU;have gT:cG E e.args (bV.1,cm e.binds bV.2) = .ok ([t1],dG):=oN;(try simp only [go_sem,Nat.reduceAdd,Nat.reduceEqDiff,Nat.reduceLT,Nat.reduceLeDiff,Nat.reduceMul,reduceCtorEq,↓reduceIte,aE,RV.ev,az (n:=3) gy bA,aF]);rw [gT];exact ⟨re (st:=(dG.1,lm e.binds dG.2)) bh (bw.aB (aV.aU S3)) bJ hc.bt (gQ hc zw),kH⟩
end
section
open Go Go.W
theorem acG:Fn 101:=⟨_,rfl,rfl,rfl⟩
def wh (a b:Al):Bool:=(b.kind == a.kind&&aQ b.aZ a.aZ)&&b.num == a.num
theorem acH {α:Type} {w:World} {a:Option Addr} {n c sz:Nat} {B:Nat→Prop} {P:List Value→α→Prop} {l:List α} (h:aT w (.slice a n c) sz B P l) {i:Nat} (hi:i≤l.length):aT w (.slice a i c) sz B P (l.take i):=by
 obtain ⟨rows,⟨⟨a',c',e,hb,hr⟩,hlen⟩,h2,h3⟩:=h;obtain ⟨rfl,rfl,rfl⟩:a=a'∧n=rows.length∧c=c':=by cases e;exact ⟨rfl,rfl,rfl⟩
 refine ⟨rows.take i,⟨⟨a,c,by rw [List.length_take];congr 1;omega,fun h0=>hb (by rw [List.length_take] at h0;omega),fun j hj=>?_⟩,by rw [List.length_take];omega⟩,by rw [List.length_take,List.length_take];omega,fun j r x sC hx=>?_⟩
 ·rw [List.length_take] at hj;obtain ⟨ad,h4,h5,h6⟩:=hr j (by omega);exact ⟨ad,h4,by rw [List.getElem_take];exact h5,by rw [List.getElem_take];exact h6⟩
 ·have hj:j < i:=by
   rcases Nat.lt_or_ge j i with h | h
   ·exact h
   ·rw [List.getElem?_eq_none (by rw [List.length_take];omega)] at sC;cases sC
  rw [List.getElem?_take_of_lt hj] at sC hx;exact h3 j r x sC hx
theorem acI {a b:Al} {w:World} {B B':Nat→Prop} {r cs:List Value} {bb:Nat} (hb:iO w B r b) (ha:iO w B' cs a) (jb:w.heap[bb]? = some (.cells cs.toArray 97 (0,0))) :
   a8 Tryz.prog 101 [.agg r.toArray,ptr bb] w fun x w'=>x = .bool (wh a b)∧Mod (fun _=>False) w w':=by
 obtain ⟨vb,eb,rfl,_,_⟩:=hb;obtain ⟨va,ea,rfl,_,_⟩:=ha;refine aau.calls rfl ?_;unfold Jb;(try simp only [go_sem,simprocAttr]);refine bD rfl ?_;intro w1 ar aj bC;have jb:=aj.at jb _root_.id;(try simp only [go_sem,simprocAttr,cell_of ar,cell_of jb,Value.cells]);cases h1:b.kind == a.kind with
 | false=>(try simp only [go_sem,simprocAttr]);exact ⟨congrArg _ (by rw [wh,h1];rfl),aj⟩
 | true=>
  (try simp only [go_sem,simprocAttr,cell_of ar,cell_of jb,Value.cells]);cases h2:b.aZ.toList == a.aZ.toList with
  | false=>(try simp only [go_sem,simprocAttr]);exact ⟨congrArg _ (by rw [wh,aQ,h1,h2];rfl),aj⟩
  | true=>
   (try simp only [go_sem,simprocAttr,cell_of ar,cell_of jb,Value.cells]);exact ⟨congrArg _ (by rw [wh,aQ,h1,h2];rfl),aj⟩
theorem acJ {all:List Al} {i:Nat} (hi:i < all.length) {of:Ty} {w:World} {B B':Nat→Prop} {v:Value} {cs:List Value} (hl:aT w v 11 B (iO w B) all) (jQ:xC v) (ht:aW w B' cs of) :
   a8 Tryz.prog 90 [v,I i,.agg cs.toArray] w fun r w'=>r = .bool (l9 all i of)∧Mod (fun _=>False) w w':=by
 obtain ⟨a,c,rfl⟩:=a7 hl;obtain ⟨vt,rfl,_⟩:=ht.cells;refine aac.calls rfl ?_;unfold I0;(try simp only [go_sem,simprocAttr]);refine bD rfl ?_;intro w1 ar aj bC;obtain ⟨ad,c1,r,e,hr,EQ,bU,_⟩:=eh (hl.mod aj aC (fun _ _ h=>h.mod aj aC)) hi;cases e;have b1:(0:Int)≤i∧(i:Int) < all.length:=by omega
 (try simp only [go_sem,simprocAttr,bq,br,b1,bU]);refine dp (n:=11) (vs:=r) rfl EQ hr.one ?_;intro w2 au ai bK;have aY:=aj.trans ai;have ar:=ai.at ar _root_.id;obtain ⟨vv,ec,rfl,mh,sV⟩:=hr;obtain ⟨av,cv,rfl⟩:=a7 mh;have wi:all[i]? = some all[i]:=List.getElem?_eq_getElem hi;generalize hx:all[i]=x at *;have c0:w2.cell? ⟨w1.heap.size,0,none⟩=some (I x.kind):=by rw [cell_of au];rfl
 have c1:w2.cell? ⟨w1.heap.size,1,none⟩=some (.string x.aZ):=by rw [cell_of au];rfl
 have c2:w2.cell? ⟨w1.heap.size,2,none⟩=some (I x.num):=by rw [cell_of au];rfl
 have c3:w2.cell? ⟨w1.heap.size,3,none⟩=some (.slice av x.vars.length cv):=by rw [cell_of au];rfl
 have ck:w2.cell? ⟨w.heap.size,0,none⟩=some (I of.kind):=by rw [cell_of ar];rfl
 (try simp only [go_sem,simprocAttr,c0]);have ajN:all.length≤c:=jQ;have fh:l9 all i of=if (x.kind == 1)=true then (if (x.num != 0||of.kind != 4)=true then false else !(all.take i).any (wh x))
     else if (x.kind == 2)=true then (if ((((!aQ x.aZ bI||decide ((x.vars.length:Int) > 0))||of.kind != 1)||decide (x.num < -4611686018427387904))||decide (x.num > 4611686018427387903))=true then false else !(all.take i).any (wh x))
     else if (x.kind == 3)=true then ((aQ x.aZ bI&&x.num == 0)&&(x.vars.length:Int) == 0)&&(i:Int) == Wr (all.length - 1)
     else false:=by
  unfold l9;rw [wi];rfl
 have no:l9 all i of=false→Value.bool false=Value.bool (l9 all i of)∧Mod (fun _=>False) w w2:=fun h=>⟨by rw [h],aY⟩
 refine vD (fun ρ w'=>w2=w'∧l9 all i of = !(all.take i).any (wh x)∧ρ.get 0=some (.slice (some ad) all.length c)∧ρ.get 1=some (I i)∧ρ.get 7=some (ptr w1.heap.size)) ?_ ?_
 ·(try simp only [go_sem,simprocAttr]);cases k1:x.kind == 1 with
  | true=>
   rw [if_pos k1] at fh;(try simp only [go_sem,simprocAttr,c2,ck]);cases n1:x.num != 0 with
   | true=>(try simp only [go_sem,simprocAttr]);exact no (by rw [fh,n1];rfl)
   | false=>
    (try simp only [go_sem,simprocAttr,ck]);cases n2:of.kind != 4 with
    | true=>(try simp only [go_sem,simprocAttr]);exact no (by rw [fh,n1,n2];rfl)
    | false=>(try simp only [go_sem,simprocAttr]);exact by rw [fh,n1,n2];rfl
  | false=>
   rw [if_neg (by rw [k1];simp)] at fh;(try simp only [go_sem,simprocAttr,c1,c2,c3,ck]);cases k2:x.kind == 2 with
   | true=>
    rw [if_pos k2,aQ] at fh;(try simp only [go_sem,simprocAttr,c1,c2,c3,ck]);cases n1:x.aZ.toList == ByteArray.toList ⟨#[]⟩ with
    | false=>(try simp only [go_sem,simprocAttr,c1,c2,c3,ck]);exact no (by rw [fh,n1];rfl)
    | true=>
     rw [n1] at fh;(try simp only [go_sem,simprocAttr,c1,c2,c3,ck]);cases n2:decide ((x.vars.length:Int) > 0) with
     | true=>rw [n2] at fh;(try simp only [go_sem,simprocAttr,c1,c2,c3,ck]);exact no (by rw [fh];rfl)
     | false=>
      rw [n2] at fh;(try simp only [go_sem,simprocAttr,c1,c2,c3,ck]);cases n3:of.kind != 1 with
      | true=>rw [n3] at fh;(try simp only [go_sem,simprocAttr,c1,c2,c3,ck]);exact no (by rw [fh];rfl)
      | false=>
       rw [n3] at fh;(try simp only [go_sem,simprocAttr,c1,c2,c3,ck]);cases n4:decide (x.num < -4611686018427387904) with
       | true=>rw [n4] at fh;(try simp only [go_sem,simprocAttr,c1,c2,c3,ck]);exact no (by rw [fh];rfl)
       | false=>
        rw [n4] at fh;(try simp only [go_sem,simprocAttr,c1,c2,c3,ck]);cases n5:decide (x.num > 4611686018427387903) with
        | true=>rw [n5] at fh;(try simp only [go_sem,simprocAttr]);exact no (by rw [fh];rfl)
        | false=>rw [n5] at fh;(try simp only [go_sem,simprocAttr]);exact by rw [fh];rfl
   | false=>
    rw [if_neg (by rw [k2];simp)] at fh;(try simp only [go_sem,simprocAttr,c1,c2,c3,ck]);cases k3:x.kind == 3 with
    | true=>
     rw [if_pos k3,aQ] at fh;(try simp only [go_sem,simprocAttr,c1,c2,c3]);cases n1:x.aZ.toList == ByteArray.toList ⟨#[]⟩ with
     | false=>(try simp only [go_sem,simprocAttr,c1,c2,c3]);exact no (by rw [fh,n1];rfl)
     | true=>
      rw [n1] at fh;(try simp only [go_sem,simprocAttr,c1,c2,c3]);cases n2:x.num == 0 with
      | false=>rw [n2] at fh;(try simp only [go_sem,simprocAttr,c1,c2,c3]);exact no (by rw [fh];rfl)
      | true=>
       rw [n2] at fh;(try simp only [go_sem,simprocAttr,c1,c2,c3]);cases n3:(x.vars.length:Int) == 0 with
       | false=>rw [n3] at fh;(try simp only [go_sem,simprocAttr,c1,c2,c3]);exact no (by rw [fh];rfl)
       | true=>
        rw [n3] at fh;(try simp only [go_sem,simprocAttr,c1,c2,c3]);exact ⟨congrArg _ (by rw [fh];rfl),aY⟩
    | false=>
     rw [if_neg (by rw [k3];simp)] at fh;(try simp only [go_sem,simprocAttr]);exact no fh
 ·rintro ρ _ ⟨rfl,hf,g0,g1,g7⟩;have hle:(i:Int)≤c:=by omega
  (try simp only [go_sem,simprocAttr,bq,br,g0,g1,g7,hle]);have Br:(if c=0 then some ad else some ad)=some ad:=by split<;>rfl
  rw [Br];refine ⟨_,rfl,?_⟩;have hm:=aY;refine aI (by rfl) ?_;refine (aa8 (PP:=fun w=>iO w B) (p:=wh x) (acH (hl.mod aY aC (fun _ _ h=>h.mod aY aC)) (Nat.le_of_lt hi)) (fun _ _ _ _ h hm=>h.mod hm aC) acG ?_).mono ?_
  ·intro w3 r3 u hu aq mV;exact acI mV (B':=B) (cs:=I x.kind :: .string x.aZ::I x.num :: .slice av x.vars.length cv::ec) ⟨_,ec,rfl,(mh.mod ai aC (fun _ _ h=>h)).mod aq aC (fun _ _ h=>h),(sV.mod ai aC).mod aq aC⟩ (aq.at au _root_.id)
  ·rintro _ w3 ⟨rfl,aq⟩;(try simp only [go_sem,simprocAttr]);exact ⟨congrArg _ hf.symm,aY.trans aq⟩
end
section
open Go Go.W
theorem rn {fl:List Nat} {w w':World}:∀ (rd:List (Nat×Nat)),(∀ p∈rd,w'.heap[p.2]? = w.heap[p.2]?)→lN fl w w' rd
 | [],_=>trivial
 | (i,b)::rd,h=>⟨fun _=>h (i,b) (by simp),rn rd (fun p hp=>h p (by simp [hp]))⟩
theorem zq {w w':World}:∀ (rd:List (Nat×Nat)),lN [] w w' rd
 | []=>trivial
 | (i,b)::rd=>⟨fun h=>(by simp [zp] at h),zq rd⟩
theorem ES {P:Program} {w:World} {ρ:Go.W.Env} {K:Go.W.Env→World→Prop} {rd:List (Nat×Nat)} {α:Type} {Rr:Value→α→Prop} {l:List (ByteArray×α)} {b0:Nat} {k:ByteArray} {t kt et:TypeId} {m x:Nat} {i i2 i3 i4 j j2 j3 a b c d f g T n:Nat} {z:Value} {fl:List Nat} {ty:TypeId} {pos:String} {af:Array Edge} {zc:List Value}
   (hm:ρ.get m=some (.map (some b0))) (hx:ρ.get x=some (.string k)) (ht:P.underlying t=some (.map kt et)) (ib:P.underlying kt=some .string) (hz0:∀ w,(zeroValue et).run P w = .ok (.agg zc.toArray) w) (QU:zc.length=n∧∀ u∈zc,u.oneCell'=true) (hz:z.cells.size=n)
   (h:cE w b0 Rr l) (hR:∀ v y,Rr v y→∃ cs:List Value,v = .agg cs.toArray∧cs.length=n∧∀ u∈cs,u.oneCell'=true) (dJ:∀ p∈rd,p.2 < w.heap.size)
   (hd:([a,b,c,d,f,g].Nodup∧m≠f∧x≠f))
   (hk:∀ (w':World) (aw:Go.W.Env) (cz:List Value) (u:Value),(∀ s,s∉[a,b,c,d,f,g]→aw.get s=ρ.get s)→aw.get f=some (ptr w.heap.size)→aw.get g=some u→w'.heap[w.heap.size]? = some (.cells cz.toArray T (0,0))→Mod (fun _=>False) w w'→cz.length=n→(∀ u∈cz,u.oneCell'=true) →
    ((aG l k=none∧u = .bool false)∨∃ y,aG l k=some y∧Rr (.agg cz.toArray) y∧u = .bool true)→K aw w') :
   dm P (.e2 i (some a) (.raw ⟨some a,.lookup t (.tmp m) (.tmp x) true,ty,pos,af,none⟩) [] (.r i2 none (some b) (.mv (.t a)) <| .r i3 none (some c) (.ex 0 (.t b)) <| .r i4 none (some d) (.ex 1 (.t b)) <| .e j none (some f) (.al T z) fl <| .e j2 none none (.st n (.t f) (.t c)) [] <| .r j3 none (some g) (.mv (.t d)) .nil)
    j (some f) (.al T z) fl (.e i none (some a) (.raw ⟨some a,.lookup t (.tmp m) (.tmp x) true,ty,pos,af,none⟩) [] <| .r i2 none (some b) (.mv (.t a)) <| .r i3 none (some c) (.ex 0 (.t b)) <| .r i4 none (some d) (.ex 1 (.t b)) <| .e j2 none none (.st n (.t f) (.t c)) [] <| .r j3 none (some g) (.mv (.t d)) .nil)) ρ w rd K:=by
 obtain ⟨lX,kH,hxf⟩:=hd;simp only [List.nodup_cons,List.mem_cons,List.not_mem_nil,or_false,not_or,not_false_eq_true,List.nodup_nil,and_true] at lX;obtain ⟨⟨nab,nac,nad,Ck,nag⟩,⟨Cm,nbd,Co,nbg⟩,⟨uw,ux,ncg⟩,⟨uy,ndg⟩,ym⟩:=lX;have look:∀ (w0:World) (mj:Go.W.Env) (K0:Value→World→Prop),cE w0 b0 Rr l→mj.get m=some (.map (some b0))→mj.get x=some (.string k) →
     (∀ (cz:List Value) (u:Value),cz.length=n→(∀ u∈cz,u.oneCell'=true)→((aG l k=none∧u = .bool false)∨∃ y,aG l k=some y∧Rr (.agg cz.toArray) y∧u = .bool true)→K0 (.tuple #[.agg cz.toArray,u]) w0) →
     Go.W.E.wp P w0 mj K0 (.raw ⟨some a,.lookup t (.tmp m) (.tmp x) true,ty,pos,af,none⟩):=by
  intro w0 mj K0 h0 jq fr rp;refine BY (k:=k) jq fr ht ib (hz0 w0) h0 (fun hn=>rp zc _ QU.1 QU.2 (.inl ⟨hn,rfl⟩)) (fun v y hy hr=>?_);obtain ⟨cs,rfl,h1,h2⟩:=hR v y hr;exact rp cs _ h1 h2 (.inr ⟨y,hy,hr,rfl⟩)
 rw [BC];refine ⟨?_,?_⟩
 ·refine look w ρ _ h hm hx ?_;intro cz u h1 h2 h3;refine ⟨rn _ (fun _ _=>rfl),?_⟩;refine ⟨.tuple #[.agg cz.toArray,u],by simp [R.ev,O.ev,Env.put,Env.get],.agg cz.toArray,by simp [R.ev,O.ev,Env.put,Env.get,qJ],u,by simp [R.ev,O.ev,Env.put,Env.get,qJ,Ne.symm Cm],?_⟩;refine cM ?_;intro w1 ar aj bC;refine ⟨rn _ (fun p hp=>aj.bN _ (dJ p hp) _root_.id),?_⟩;refine bL (w:=w1) (cs:=z.cells.toList) (vs:=cz) (by simp [O.ev,Env.put,Env.get];rfl) (by simp [O.ev,Env.put,Env.get,uw,Ne.symm uw,ux,Ne.symm ux]) (by simpa using ar) h1 (by simpa using hz) h2 ?_;intro w2 au ai bK;refine ⟨rn _ (fun p hp=>ai.bN _ (by have:=dJ p hp;omega) (by have:=dJ p hp;omega)),?_⟩;refine ⟨u,by simp [R.ev,O.ev,Env.put,Env.get,uy,Ne.symm uy],?_⟩;refine hk w2 _ cz u (fun s hs=>?_) (by simp [Env.put,Env.get,ym,Ne.symm ym]) (by simp [Env.put,Env.get]) au (aj.step ai (fun b hb hl=>by omega)) h1 h2 h3;simp only [List.mem_cons,List.not_mem_nil,or_false,not_or] at hs;obtain ⟨s1,s2,s3,s4,s5,s6⟩:=hs;simp [Env.put,Env.get,Ne.symm s1,Ne.symm s2,Ne.symm s3,Ne.symm s4,Ne.symm s5,Ne.symm s6]
 ·refine cM ?_;intro w1 ar aj bC;refine ⟨rn _ (fun p hp=>aj.bN _ (dJ p hp) _root_.id),?_⟩;refine look w1 _ _ (h.mod aj _root_.id (fun _ _ x=>x)) (by simp [Env.put,Env.get,Ne.symm kH,hm]) (by simp [Env.put,Env.get,Ne.symm hxf,hx]) ?_;intro cz u h1 h2 h3;refine ⟨rn _ (fun _ _=>rfl),?_⟩;refine ⟨.tuple #[.agg cz.toArray,u],by simp [R.ev,O.ev,Env.put,Env.get],.agg cz.toArray,by simp [R.ev,O.ev,Env.put,Env.get,qJ],u,by simp [R.ev,O.ev,Env.put,Env.get,qJ,Ne.symm Cm],?_⟩;refine bL (w:=w1) (cs:=z.cells.toList) (vs:=cz) (by simp [O.ev,Env.put,Env.get,Ck,Co,ux,uy];rfl) (by simp [O.ev,Env.put,Env.get,uw,Ne.symm uw]) (by simpa using ar) h1 (by simpa using hz) h2 ?_;intro w2 au ai bK;refine ⟨rn _ (fun p hp=>ai.bN _ (by have:=dJ p hp;omega) (by have:=dJ p hp;omega)),?_⟩;refine ⟨u,by simp [R.ev,O.ev,Env.put,Env.get],?_⟩;refine hk w2 _ cz u (fun s hs=>?_) (by simp [Env.put,Env.get,Ck,Co,ux,uy,Ne.symm ym]) (by simp [Env.put,Env.get]) au (aj.step ai (fun b hb hl=>by omega)) h1 h2 h3;simp only [List.mem_cons,List.not_mem_nil,or_false,not_or] at hs;obtain ⟨s1,s2,s3,s4,s5,s6⟩:=hs;simp [Env.put,Env.get,Ne.symm s1,Ne.symm s2,Ne.symm s3,Ne.symm s4,Ne.symm s5,Ne.symm s6]
theorem acK {P:Program} {w:World} {ρ:Go.W.Env} {K:Go.W.Env→World→Prop} {rd:List (Nat×Nat)} {Ms:Nat→Prop} {PA PB Post:World→List Value→Value→Prop} {fn:FuncId} {args:List O} {vs:List Value} {i i2 i3 i4 j j2 j3 a b c d f g T n:Nat} {z:Value} {fl:List Nat}
   (ha:fI ρ args=some vs) (iE:∀ v,fI ((f,v)::ρ) args=some vs) (hz:z.cells.size=n) (hMs:∀ b,w.heap.size≤b→¬ Ms b) (dJ:∀ p∈rd,p.2 < w.heap.size)
   (hA:a8 P fn vs w fun r w1=>∃ (cz:List Value) (u:Value),r = .tuple #[.agg cz.toArray,u]∧cz.length=n∧(∀ u∈cz,u.oneCell'=true)∧PA w1 cz u∧Mod Ms w w1)
   (hB:∀ w0,Mod (fun _=>False) w w0→w0.heap.size=w.heap.size+1→a8 P fn vs w0 fun r w1=>∃ (cz:List Value) (u:Value),r = .tuple #[.agg cz.toArray,u]∧cz.length=n∧(∀ u∈cz,u.oneCell'=true)∧PB w1 cz u∧Mod Ms w0 w1)
   (hAP:∀ w1 cz u w2,PA w1 cz u→Mod (fun _=>False) w1 w2→Post w2 cz u) (hBP:∀ w1 cz u w2,PB w1 cz u→Mod (· = w.heap.size) w1 w2→Post w2 cz u)
   (hd:[a,b,c,d,f,g].Nodup)
   (hk:∀ (w':World) (aw:Go.W.Env) (bb:Nat) (cz:List Value) (u:Value),(∀ s,s∉[a,b,c,d,f,g]→aw.get s=ρ.get s)→aw.get f=some (ptr bb)→aw.get g=some u→w'.heap[bb]? = some (.cells cz.toArray T (0,0))→w.heap.size≤bb→Mod Ms w w'→cz.length=n→(∀ u∈cz,u.oneCell'=true)→Post w' cz u→K aw w') :
   dm P (.e2 i (some a) (.call fn args) [] (.r i2 none (some b) (.mv (.t a)) <| .r i3 none (some c) (.ex 0 (.t b)) <| .r i4 none (some d) (.ex 1 (.t b)) <| .e j none (some f) (.al T z) fl <| .e j2 none none (.st n (.t f) (.t c)) [] <| .r j3 none (some g) (.mv (.t d)) .nil)
    j (some f) (.al T z) fl (.e i none (some a) (.call fn args) [] <| .r i2 none (some b) (.mv (.t a)) <| .r i3 none (some c) (.ex 0 (.t b)) <| .r i4 none (some d) (.ex 1 (.t b)) <| .e j2 none none (.st n (.t f) (.t c)) [] <| .r j3 none (some g) (.mv (.t d)) .nil)) ρ w rd K:=by
 have lX:=hd;simp only [List.nodup_cons,List.mem_cons,List.not_mem_nil,or_false,not_or,not_false_eq_true,List.nodup_nil,and_true] at lX;obtain ⟨⟨nab,nac,nad,Ck,nag⟩,⟨Cm,nbd,Co,nbg⟩,⟨uw,ux,ncg⟩,⟨uy,ndg⟩,ym⟩:=lX;rw [BC];refine ⟨?_,?_⟩
 ·refine aI ha (hA.mono ?_);rintro r w1 ⟨cz,u,rfl,h1,h2,hp,aj⟩;have z1:=aj.size;refine ⟨zq _,?_⟩;refine ⟨.tuple #[.agg cz.toArray,u],by simp [R.ev,O.ev,Env.put,Env.get],.agg cz.toArray,by simp [R.ev,O.ev,Env.put,Env.get,qJ],u,by simp [R.ev,O.ev,Env.put,Env.get,qJ,Ne.symm Cm],?_⟩;refine cM ?_;intro w2 au ai bK;refine ⟨rn _ (fun p hp=>ai.bN _ (by have:=dJ p hp;omega) _root_.id),?_⟩;refine bL (w:=w2) (cs:=z.cells.toList) (vs:=cz) (by simp [O.ev,Env.put,Env.get];rfl) (by simp [O.ev,Env.put,Env.get,uw,Ne.symm uw,ux,Ne.symm ux]) (by simpa using au) h1 (by simpa using hz) h2 ?_;intro w3 aM aq eV;refine ⟨rn _ (fun p hp=>aq.bN _ (by have:=dJ p hp;omega) (by have:=dJ p hp;omega)),?_⟩;refine ⟨u,by simp [R.ev,O.ev,Env.put,Env.get,uy,Ne.symm uy],?_⟩;have qb:Mod (fun _=>False) w1 w3:=ai.step aq (fun b hb hl=>by omega);refine hk w3 _ w1.heap.size cz u (fun s hs=>?_) (by simp [Env.put,Env.get,ym,Ne.symm ym]) (by simp [Env.put,Env.get]) aM (by omega) (aj.trans (an qb)) h1 h2 (hAP _ _ _ _ hp qb);simp only [List.mem_cons,List.not_mem_nil,or_false,not_or] at hs;obtain ⟨s1,s2,s3,s4,s5,s6⟩:=hs;simp [Env.put,Env.get,Ne.symm s1,Ne.symm s2,Ne.symm s3,Ne.symm s4,Ne.symm s5,Ne.symm s6]
 ·refine cM ?_;intro w1 ar aj bC;refine ⟨rn _ (fun p hp=>aj.bN _ (dJ p hp) _root_.id),?_⟩;refine aI (iE _) ((hB w1 aj bC).mono ?_);rintro r w2 ⟨cz,u,rfl,h1,h2,hp,ai⟩;have z2:=ai.size;refine ⟨zq _,?_⟩;refine ⟨.tuple #[.agg cz.toArray,u],by simp [R.ev,O.ev,Env.put,Env.get],.agg cz.toArray,by simp [R.ev,O.ev,Env.put,Env.get,qJ],u,by simp [R.ev,O.ev,Env.put,Env.get,qJ,Ne.symm Cm],?_⟩;refine bL (w:=w2) (cs:=z.cells.toList) (vs:=cz) (by simp [O.ev,Env.put,Env.get,Ck,Co,ux,uy];rfl) (by simp [O.ev,Env.put,Env.get,uw,Ne.symm uw]) (by simpa using ai.at ar (hMs _ (Nat.le_refl _))) h1 (by simpa using hz) h2 ?_;intro w3 aM aq eV;refine ⟨rn _ (fun p hp=>aq.bN _ (by have:=dJ p hp;omega) (by have:=dJ p hp;omega)),?_⟩;refine ⟨u,by simp [R.ev,O.ev,Env.put,Env.get],?_⟩;refine hk w3 _ w.heap.size cz u (fun s hs=>?_) (by simp [Env.put,Env.get,Ck,Co,ux,uy,Ne.symm ym]) (by simp [Env.put,Env.get]) aM (Nat.le_refl _) (((an aj).trans ai).step aq (fun b hb hl=>by omega)) h1 h2 (hBP _ _ _ _ hp aq);simp only [List.mem_cons,List.not_mem_nil,or_false,not_or] at hs;obtain ⟨s1,s2,s3,s4,s5,s6⟩:=hs;simp [Env.put,Env.get,Ne.symm s1,Ne.symm s2,Ne.symm s3,Ne.symm s4,Ne.symm s5,Ne.symm s6]
end
end Go.Proofs.YtjfgeekjjlhbdaaGreatDoor