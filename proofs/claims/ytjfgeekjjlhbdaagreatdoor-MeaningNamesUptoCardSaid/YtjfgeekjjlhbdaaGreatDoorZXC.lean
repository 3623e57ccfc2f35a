/- Texts that the last file stands on: T11, D6, T12, T13, T14, T15, T16, P2, D7, T17, T18, T19, P3, P4, P5, T20, T21, T22, T23, T24, T25, T26, D8. -/
import Derived.Test.YtjfgeekjjlhbdaaGreatDoorZXB
set_option linter.unusedSimpArgs false
set_option linter.unusedVariables false
set_option maxRecDepth 100000
section
namespace Go.W
open Go
section
variable {P:Program} {N:Nat} {Q:oE} {Ds:List Nat} {ρ:Env} {w:World} {next:List Nat→Env→World→Prop} {i j:Nat} {rs:List RV} {R:Value→World→Prop}
@[go_sem] theorem ah' {x:IR}:ju P N (.ir x) Q Ds ρ w=cL P N x (fun e ρ w=>Q e Ds ρ w) ρ w:=rfl
@[go_sem] theorem aia {a b:K}:ju P N (.seq a b) Q Ds ρ w=ju P N a (A4 (fun Ds ρ w=>ju P N b Q Ds ρ w) Q) Ds ρ w:=rfl
@[go_sem] theorem aib {a:K}:ju P N (.iF i a) Q Ds ρ w=ju P N a (yD i Q) Ds ρ w:=rfl
@[go_sem] theorem aic:A4 next Q .normal Ds ρ w=next Ds ρ w:=rfl
@[go_sem] theorem aid:A4 next Q .ret Ds ρ w=Q .ret Ds ρ w:=rfl
@[go_sem] theorem aie:A4 next Q (.exit i) Ds ρ w=Q (.exit i) Ds ρ w:=rfl
@[go_sem] theorem aif:yD j Q .normal Ds ρ w=Q .normal Ds ρ w:=rfl
@[go_sem] theorem aih:yD j Q .ret Ds ρ w=Q .ret Ds ρ w:=rfl
@[go_sem] theorem aii:yD j Q (.exit i) Ds ρ w=if i=j then Q .normal Ds ρ w else Q (.exit i) Ds ρ w:=rfl
theorem aaC {e:Exit} (he:e = .normal∨e = .ret) (h:∀ w',Mod (fun _=>False) w w'→∃ vs,aE w' ρ rs=some vs∧R (aF vs) w'):G4 rs R e [] ρ w:=
 ⟨he,(fun D h=>by cases h),List.nodup_nil,fun w' hm _=>h w' (hm.aT (fun b hb=>by cases hb))⟩
theorem aaD {e:Exit} {D:Nat} (he:e = .normal∨e = .ret) (hD:w.heap[D]? = some (.deferred (some []))) (h:∀ w',Mod (· = D) w w'→∃ vs,aE w' ρ rs=some vs∧R (aF vs) w'):G4 rs R e [D] ρ w:=
 ⟨he,(fun D' h=>by obtain rfl:=List.mem_singleton.1 h;exact hD),List.nodup_cons.2 ⟨(by simp),List.nodup_nil⟩,fun w' hm _=>h w' (hm.aT (fun b hb=>List.mem_singleton.1 hb))⟩
end
end Go.W
namespace Go.Proofs.YtjfgeekjjlhbdaaGreatDoor
open Go Go.W
theorem aaE {w:World} {m:Nat} {l:List (ByteArray×Value)} (h:kW w m l):∃ es OR,w.heap[m]? = some (.map es OR)∧es.size=l.length:=by
 obtain ⟨es,c,h1,h2,_⟩:=h;have:=congrArg List.length h2;simp only [List.length_map,Array.length_toList] at this;exact ⟨es,c,h1,this⟩
theorem OS {B m:Nat} {W W':World} (h:Mod (· = m) W W') (hm:m < B):KeepsFrom B W W':=
 ⟨h.size,fun k o hB hk _=>h.at hk (by omega)⟩
theorem aaF {m:Nat} {W W':World} {l:List (ByteArray×Value)} (h:Mod (· = m) W W') (hm:kW W m l):jT W W':=
 ⟨h.size,fun b o hb hc=>h.at hb (fun e=>by
  subst e;obtain ⟨es,c,h1,_⟩:=hm
  rw [h1] at hb;cases hb;cases hc)⟩
theorem aaG {w:World} {cs:List Value}:ba Tryz.prog 96 [.agg cs.toArray] w fun r w'=>r = .func (.func 104) #[] #[ptr w.heap.size]∧w'.heap[w.heap.size]? = some (.cells cs.toArray dQ (0,0))∧Mod (fun _=>False) w w':=by
 refine Zl.calls rfl ?_;unfold Iv;(try simp only [go_sem,simprocAttr]);refine bB rfl ?_;intro w1 au ak _;(try simp only [go_sem,simprocAttr]);exact ⟨au,ak⟩
theorem aaH (t:Ty) {w:World} {B:Nat→Prop} {cs:List Value} (h:aX w B cs t) (hB:∀ b,B b→b < w.heap.size) :
   ba Tryz.prog 83 [.agg cs.toArray] w fun r w'=>(∃ a,IV a∧r = .tuple #[a,I (mN t)])∧Mod (fun _=>False) w w':=by
 refine aat.calls rfl ?_;unfold OP;(try simp only [go_sem,simprocAttr]);refine bB rfl ?_;intro w1 au ak bP;(try simp only [go_sem,simprocAttr]);refine cQ ?_;intro w2 aw ai bS;have au:=ai.at au _root_.id;have aY:=ak.trans ai;(try simp only [go_sem,simprocAttr,az (n:=3) (cs:=cs) au h.len]);refine aK (by rfl) ?_;refine (aac t (h.mod aY aC)).mono ?_;rintro _ w3 ⟨rfl,ar⟩;have au:=ar.at au _root_.id;have aw:=ar.at aw _root_.id;have bo:=aY.trans ar;(try simp only [go_sem,simprocAttr]);cases hw:mN t != 0 with
 | true=>
  (try simp only [go_sem,simprocAttr]);refine bN (cs:=[I 0,.string bD,.slice none 0 0]) (vs:=[I 0,.string bD,.slice none 0 0]) rfl rfl aw rfl rfl (aW rfl (aW rfl (aW rfl dy))) ?_;intro w4 aZ aA eA;(try simp only [go_sem,simprocAttr]);refine aaC (.inr rfl) ?_;intro w5 aD;(try simp only [go_sem,simprocAttr,aE,RV.ev,az (n:=3) (aD.at aZ _root_.id) rfl,aF]);exact ⟨⟨_,⟨_,rfl,rfl,aW rfl (aW rfl (aW rfl dy))⟩,rfl⟩,(bo.step aA (fun x hx hl=>by omega)).trans aD⟩
 | false=>
  have Dy:mN t=0:=by simpa using hw
  (try simp only [go_sem,simprocAttr]);refine Nw ?_;intro w4 nz aA eA;(try simp only [go_sem,simprocAttr]);refine cQ ?_;intro w5 bT aD eB;(try simp only [go_sem,simprocAttr]);refine fF rfl rfl bT rfl (by simp) ?_;intro w6 bU aJ fY;have I3:Mod (fun _=>False) w3 w6:=(aA.trans aD).step aJ (fun x hx hl=>by omega);have nz:=sV (sV nz aD _root_.id) aJ (by omega);have au:=I3.at au _root_.id;have aw:=I3.at aw _root_.id;(try simp only [go_sem,simprocAttr,az (n:=3) (cs:=cs) au h.len]);refine aK (by rfl) ?_;refine (aaG (cs:=cs)).mono ?_;rintro _ w7 ⟨rfl,cH,aL⟩;have h37:=I3.trans aL;have Dz:=bo.trans h37;have nz:=sV nz aL _root_.id;have au:=aL.at au _root_.id;have aw:=aL.at aw _root_.id;have bU:=aL.at bU _root_.id;have ht:=h.mod Dz aC;have hv:t.rH≤500:=by
   unfold mN at Dy
   split at Dy
   ·omega
   ·split at Dy
    ·omega
    ·have:=(OK t).2 (by omega);omega
  have z2:=ai.size;have z3:=ar.size;have z7:=aL.size;have I4:w3.heap.size < w7.heap.size:=by omega
  have nK:w4.heap.size < w7.heap.size:=by omega
  (try simp only [go_sem,simprocAttr]);refine ⟨1,500,104,#[ptr w6.heap.size],jT,fun xs W=>I1 w7 127 w4.heap.size w3.heap.size xs.length W,⟨rfl,fun _ _=>rfl,aaB ht (fun b hb=>by have:=hB b hb;have:=Dz.size;omega) cH hv,rfl,by decide,fun h k=>h.trans k,?_,⟨⟨.refl _ _,bU,_,nz,by simp,by simp⟩,fun s=>aaA I4 nK,?_⟩⟩,?_⟩
  ·intro W l o o' hl hW ho _;exact ⟨by simp,fun b o2 hb hc=>by rw [World.putObj_heap_other (fun e=>by subst e;rw [hW] at hb;cases hb;rw [ho] at hc;cases hc)];exact hb⟩
  ·intro pre x W hi aij;obtain ⟨l,hl,ha,hn⟩:=hi.map;have fI:=hi.box;unfold OO;(try simp only [go_sem,simprocAttr,cell_of fI]);refine GN (k:=x) (kt:=9) (et:=dQ) rfl rfl rfl rfl (Tryz.zeroValue42 _) hl ?_;have fin:∀ W',Mod (fun _=>False) W W'→KeepsFrom w7.heap.size W W'∧jT W W'∧I1 w7 127 w4.heap.size w3.heap.size (pre++[x]).length W':=fun W' hm=>
    ⟨OS (m:=w3.heap.size) (hm.aT (fun _ h=>h.elim)) I4,.Dw hm,hi.mod.step hm (fun _ h=>h.elim),hm.at fI _root_.id,l,sV hl hm _root_.id,ha,by simp;omega⟩
   have st:∃ cu:List Value,(kX l x).getD (.agg #[.int .i64 0,.string ⟨#[]⟩,.slice none 0 0]) = .agg cu.toArray∧cu.length=3∧∀ u∈cu,u.oneCell'=true:=by
    cases hg:kX l x with
    | none=>exact ⟨[I 0,.string bD,.slice none 0 0],rfl,rfl,aW rfl (aW rfl (aW rfl dy))⟩
    | some u=>
     obtain ⟨p,hp,rfl⟩:=OH hg;obtain ⟨cu,tu,e,sM⟩:=(ha p hp).ty W B;exact ⟨cu,e,sM.len,sM.one⟩
   obtain ⟨cu,hcu,cr,gV⟩:=st;(try simp only [go_sem,simprocAttr,hcu]);refine di (n:=3) (vs:=cu) rfl cr gV ?_;intro W1 _ tk _;cases hg:(kX l x).isSome with
   | true=>(try simp only [go_sem,simprocAttr]);exact fin _ tk
   | false=>
    have OT:=tk.at fI _root_.id;have nL:=sV hl tk _root_.id;have aaI:kW W1.drew w3.heap.size l:=nL;obtain ⟨es,OR,dF,dj⟩:=aaE nL;(try simp only [go_sem,simprocAttr,cell_of OT,dF,dj]);refine aK (by rfl) ?_;refine (aax l.length (by omega)).mono ?_;rintro _ _ ⟨⟨s,rfl⟩,rfl⟩;(try simp only [go_sem,simprocAttr]);refine Ny (k:=x) (kt:=9) (et:=dQ) rfl rfl rfl rfl rfl aaI ?_;intro W2 fC wT uH;have OU:Mod (· = w3.heap.size) W1 W2:=wT.ez;have I5:Mod (· = w3.heap.size) W W2:=(tk.aT (fun _ h=>h.elim)).trans OU;(try simp only [go_sem,simprocAttr]);refine ⟨OS I5 I4,aaF I5 hl,hi.mod.trans I5,OU.at OT (by omega),_,fC,aaz ha ⟨s,rfl⟩,?_⟩;have:=aay l x (.agg #[.int .i64 2,.string s,.slice none 0 0]);simp only [List.length_append,List.length_cons,List.length_nil];omega
  ·intro D xs W hD hi OV;obtain ⟨l,hl,ha,hn⟩:=hi.map;have tm:=hi.mod;have au:=tm.at au (by omega);have aw:=tm.at aw (by omega);have hB7:∀ b,B b→¬ (b=w3.heap.size):=fun b hb=>by have:=hB b hb;have:=bo.size;omega
   (try simp only [go_sem,simprocAttr,az (n:=3) (cs:=cs) au h.len,cell_of hi.box]);refine aK (by rfl) ?_;refine (aae t (ht.mod tm hB7) hl ha).mono ?_;rintro _ W1 ⟨⟨ca,rfl,cr,gV⟩,tk⟩;have aw:=tk.at aw _root_.id;(try simp only [go_sem,simprocAttr]);refine bN (cs:=[I 0,.string bD,.slice none 0 0]) rfl rfl aw cr rfl gV ?_;intro W2 hB2 wT uH;(try simp only [go_sem,simprocAttr]);have hsW:=tm.size;have dj:=tk.size;have zD:=cC OV;refine aaD (.inr rfl) (wT.at (tk.at OV _root_.id) (by omega)) ?_;intro W3 rI;(try simp only [go_sem,simprocAttr,aE,RV.ev,az (n:=3) (rI.at hB2 (by omega)) cr,aF,Dy]);refine ⟨⟨_,⟨ca,rfl,cr,gV⟩,rfl⟩,?_⟩;have h0W:Mod (fun _=>False) w W:=Dz.step tm (fun i hi hl=>by have:=bo.size;omega);exact ((h0W.trans tk).step wT (fun x hx hl=>by omega)).step rI (fun x hx hl=>by have:=Dz.size;omega)
theorem I6 (t:Ty) {w:World} {B:Nat→Prop} {cs:List Value} (h:aX w B cs t) (hB:∀ b,B b→b < w.heap.size) :
   ba Tryz.prog 60 [.agg cs.toArray] w fun r w'=>r = .bool (mN t == 0)∧Mod (fun _=>False) w w':=by
 refine Yz.calls rfl ?_;unfold HT;(try simp only [go_sem,simprocAttr]);refine bB rfl ?_;intro w1 au ak bP;(try simp only [go_sem,simprocAttr,az (n:=3) (cs:=cs) au h.len]);refine aK (by rfl) ?_;refine (aaH t (h.mod ak aC) (fun b hb=>by have:=hB b hb;omega)).mono ?_;rintro _ w2 ⟨⟨_,⟨ca,rfl,cr,gV⟩,rfl⟩,ai⟩;(try simp only [go_sem,simprocAttr]);refine di (n:=3) (vs:=ca) rfl cr gV ?_;intro w3 aO ar eR;(try simp only [go_sem,simprocAttr]);exact ak.trans (ai.trans ar)
def aaJ (s:ByteArray):Ty:=.mk 2 s []
def aaK (s:ByteArray):Ty:=.mk 4 s []
theorem nM (w:World) (B:Nat→Prop) (k:Int) (s:ByteArray):aX w B [I k,.string s,.slice none 0 0] (.mk k s []):=by
 obtain ⟨rows,h1,h2,h3⟩:=fH w 3 B (aX w B);exact .mk (args:=[]) h1 h2 h3
def qm (s:ByteArray):Bool:=mN (aaJ s) == 0
def yM (s:ByteArray):Bool:=mN (aaK s) == 0
theorem OW (s:ByteArray) {w:World}:ba Tryz.prog 45 [.string s] w fun r w'=>r = .bool (qm s)∧Mod (fun _=>False) w w':=by
 refine Ye.calls rfl ?_;unfold HF;(try simp only [go_sem,simprocAttr]);refine aK (by rfl) ?_;refine (I6 _ (nM w (fun _=>False) 2 s) (fun _ h=>h.elim)).mono ?_;rintro _ w1 ⟨rfl,ak⟩;(try simp only [go_sem,simprocAttr]);exact ⟨rfl,ak⟩
theorem aaL (s:ByteArray) {w:World}:ba Tryz.prog 78 [.string s] w fun r w'=>r = .bool (yM s)∧Mod (fun _=>False) w w':=by
 refine YZ.calls rfl ?_;unfold Ib;(try simp only [go_sem,simprocAttr]);refine aK (by rfl) ?_;refine (I6 _ (nM w (fun _=>False) 4 s) (fun _ h=>h.elim)).mono ?_;rintro _ w1 ⟨rfl,ak⟩;(try simp only [go_sem,simprocAttr]);exact ⟨rfl,ak⟩
end Go.Proofs.YtjfgeekjjlhbdaaGreatDoor
end
namespace Go.Proofs.YtjfgeekjjlhbdaaGreatDoor
section
open Go Go.W
abbrev Out (S:Nat→Prop) (w:World):Nat→Prop:=fun b=>b < w.heap.size∧¬ S b
section
variable {w w':World} {B B' S S':Nat→Prop} {cs:List Value} {α:Type} {v:Value} {sz:Nat} {P P':List Value→α→Prop} {l:List α}
theorem nG.up {rows:List (List Value)} (h:nG w v sz rows B) (hm:Mod S w w') (hd:∀ b,B b→¬ S b) (hB:∀ b,B b→B' b):nG w' v sz rows B':=⟨h.1.mod hm hd hB,h.2⟩
theorem aQ.up (h:aQ w v sz B P l) (hm:Mod S w w') (hd:∀ b,B b→¬ S b) (hB:∀ b,B b→B' b) (hp:∀ r a,P r a→P' r a):aQ w' v sz B' P' l:=by
 obtain ⟨rows,h1,h2,h3⟩:=h;exact ⟨rows,h1.up hm hd hB,h2,fun i r a hr ha=>hp _ _ (h3 i r a hr ha)⟩
theorem aX.up {t:Ty} (h:aX w B cs t) (hm:Mod S w w') (hd:∀ b,B b→¬ S b) (hB:∀ b,B b→B' b):aX w' B' cs t:=by
 induction h with
 | mk hr hl he ih=>exact .mk (hr.up hm hd hB) hl (fun i r t a b=>ih i r t a b)
theorem bH.up {e:Ex} (h:bH w B cs e) (hm:Mod S w w') (hd:∀ b,B b→¬ S b) (hB:∀ b,B b→B' b):bH w' B' cs e:=by
 induction h with
 | mk ht oB gT ha sX A1 hb rE nH A2 hl kY bQ hle lV oA sU oC=>
  refine .mk (ht.up hm hd hB) oB (fun i r t a b=>(gT i r t a b).up hm hd hB) (ha.up hm hd hB) sX oA (hb.up hm hd hB) rE (fun i r b x y=>?_) sU (hl.up hm hd hB) kY (fun i r a x y=>?_) oC lV
  ·obtain ⟨h1,h2,h3⟩:=nH i r b x y;exact ⟨h1,h2,h3.up hm hd hB⟩
  ·obtain ⟨vv,h1,h2,h3⟩:=bQ i r a x y;exact ⟨vv,h1,h2,h3.up hm hd hB (fun _ _ h=>h)⟩
theorem eF.up {k:Cn} (h:eF w B cs k) (hm:Mod S w w') (hd:∀ b,B b→¬ S b) (hB:∀ b,B b→B' b):eF w' B' cs k:=by
 obtain ⟨vf,e,h,hn⟩:=h;exact ⟨vf,e,h.up hm hd hB (fun _ _ h=>h.up hm hd hB),hn⟩
theorem gp.up {d:Dt} (h:gp w B cs d) (hm:Mod S w w') (hd:∀ b,B b→¬ S b) (hB:∀ b,B b→B' b):gp w' B' cs d:=by
 obtain ⟨vp,vc,e,h1,h2⟩:=h;exact ⟨vp,vc,e,h1.up hm hd hB (fun _ _ h=>h),h2.up hm hd hB (fun _ _ h=>h.up hm hd hB)⟩
theorem jR.up {d:Df} (h:jR w B cs d) (hm:Mod S w w') (hd:∀ b,B b→¬ S b) (hB:∀ b,B b→B' b):jR w' B' cs d:=by
 obtain ⟨vp,tc,bc,e,l1,l2,h1,h2,h3,hn⟩:=h;exact ⟨vp,tc,bc,e,l1,l2,h1.up hm hd hB (fun _ _ h=>h),h2.up hm hd hB,h3.up hm hd hB,hn⟩
theorem jr.up {p:Pg} (h:jr w B cs p) (hm:Mod S w w') (hd:∀ b,B b→¬ S b) (hB:∀ b,B b→B' b):jr w' B' cs p:=by
 obtain ⟨vd,vf,e,h1,h2⟩:=h;exact ⟨vd,vf,e,h1.up hm hd hB (fun _ _ h=>h.up hm hd hB),h2.up hm hd hB (fun _ _ h=>h.up hm hd hB)⟩
theorem aM:∀ b,Out S w b→¬ S b:=fun _ h=>h.2
theorem aU (hm:Mod S w w'):∀ b,Out S w b→Out S w' b:=fun b h=>⟨Nat.lt_of_lt_of_le h.1 hm.size,h.2⟩
theorem aX.aB {t:Ty} (h:aX w (Out S w) cs t) (hm:Mod S w w'):aX w' (Out S w') cs t:=h.up hm aM (aU hm)
theorem bH.aB {e:Ex} (h:bH w (Out S w) cs e) (hm:Mod S w w'):bH w' (Out S w') cs e:=h.up hm aM (aU hm)
theorem eh (hm:Mod S w w') (hs:∀ b,b < w.heap.size→S' b→S b):∀ b,Out S w b→Out S' w' b:=fun b h=>⟨Nat.lt_of_lt_of_le h.1 hm.size,fun hh=>h.2 (hs b h.1 hh)⟩
theorem aX.ext {t:Ty} (h:aX w (Out S w) cs t) (hm:Mod S w w') (hs:∀ b,b < w.heap.size→S' b→S b):aX w' (Out S' w') cs t:=h.up hm aM (eh hm hs)
theorem bH.ext {e:Ex} (h:bH w (Out S w) cs e) (hm:Mod S w w') (hs:∀ b,b < w.heap.size→S' b→S b):bH w' (Out S' w') cs e:=h.up hm aM (eh hm hs)
theorem aX.sub {t:Ty} (h:aX w (Out S' w) cs t) (hs:∀ b,S b→S' b):aX w (Out S w) cs t:=h.up (.refl (fun _=>False) w) aC (fun b h=>⟨h.1,fun hh=>h.2 (hs b hh)⟩)
theorem aj (h:Mod (fun _=>False) w w'):Mod S w w':=h.aT (fun _ h=>h.elim)
theorem wU {t:List Ty} (h:aQ w v 3 (Out S w) (aX w (Out S w)) t) (hm:Mod S w w'):aQ w' v 3 (Out S w') (aX w' (Out S w')) t:=h.up hm aM (aU hm) (fun _ _ h=>h.aB hm)
end
section
variable {α:Type}
def aI (l:List (ByteArray×α)) (k:ByteArray):Option α:=(l.find? (fun p=>decide (p.1=k))).map (·.2)
def bK (l:List (ByteArray×α)) (k:ByteArray) (v:α):List (ByteArray×α):=match l.findIdx? (fun p=>decide (p.1=k)) with
 | some i=>l.set i (k,v)
 | none=>l++[(k,v)]
def gH (l:List (ByteArray×α)) (k:ByteArray):List (ByteArray×α):=match l.findIdx? (fun p=>decide (p.1=k)) with
 | some i=>l.eraseIdx i
 | none=>l
inductive gv (R:Value→α→Prop):List (ByteArray×Value)→List (ByteArray×α)→Prop
 | nil:gv R [] []
 | cons {k:ByteArray} {v:Value} {a:α} {lv:List (ByteArray×Value)} {l:List (ByteArray×α)} (h:R v a) (t:gv R lv l):gv R ((k,v)::lv) ((k,a)::l)
variable {R R':Value→α→Prop} {lv:List (ByteArray×Value)} {l:List (ByteArray×α)}
theorem gv.imp (h:gv R lv l) (hr:∀ v a,R v a→R' v a):gv R' lv l:=by
 induction h with
 | nil=>exact .nil
 | cons h _ ih=>exact .cons (hr _ _ h) ih
theorem gv.idx (h:gv R lv l) (k:ByteArray):lv.findIdx? (fun p=>decide (p.1=k))=l.findIdx? (fun p=>decide (p.1=k)):=by
 induction h with
 | nil=>rfl
 | cons _ _ ih=>rw [List.findIdx?_cons,List.findIdx?_cons,ih]
theorem gv.get (h:gv R lv l) (k:ByteArray):(kX lv k=none∧aI l k=none)∨∃ v a,kX lv k=some v∧aI l k=some a∧R v a:=by
 unfold kX aI
 induction h with
 | nil=>exact .inl ⟨rfl,rfl⟩
 | @cons k' v a _ _ h _ ih=>
  rw [List.find?_cons,List.find?_cons];by_cases e:k'=k
  ·simp only [e,decide_true];exact .inr ⟨v,a,rfl,rfl,h⟩
  ·simp only [e,decide_false];exact ih
theorem gv.set (h:gv R lv l):∀ (i:Nat) (k:ByteArray) (v:Value) (a:α),R v a→gv R (lv.set i (k,v)) (l.set i (k,a)):=by
 induction h with
 | nil=>intro i k v a _;exact .nil
 | cons h t ih=>
  intro i k v a hr;cases i with
  | zero=>exact .cons hr t
  | succ i=>exact .cons h (ih i k v a hr)
theorem gv.app {OX:List (ByteArray×Value)} {l2:List (ByteArray×α)} (h:gv R lv l) (h2:gv R OX l2):gv R (lv++OX) (l++l2):=by
 induction h with
 | nil=>exact h2
 | cons h _ ih=>exact .cons h ih
theorem gv.erase (h:gv R lv l):∀ (i:Nat),gv R (lv.eraseIdx i) (l.eraseIdx i):=by
 induction h with
 | nil=>intro i;exact .nil
 | cons h t ih=>
  intro i;cases i with
  | zero=>exact t
  | succ i=>exact .cons h (ih i)
theorem gv.put (h:gv R lv l) (k:ByteArray) {v:Value} {a:α} (hr:R v a):gv R (sW lv k v) (bK l k a):=by
 unfold sW bK;rw [h.idx];cases l.findIdx? (fun p=>decide (p.1=k)) with
 | some i=>exact h.set _ _ _ _ hr
 | none=>exact h.app (.cons hr .nil)
theorem gv.del (h:gv R lv l) (k:ByteArray):gv R (AX lv k) (gH l k):=by
 unfold AX gH;rw [h.idx];cases l.findIdx? (fun p=>decide (p.1=k)) with
 | some i=>exact h.erase _
 | none=>exact h
def cD (w:World) (b:Nat) (R:Value→α→Prop) (l:List (ByteArray×α)):Prop:=∃ lv,kW w b lv∧gv R lv l
theorem cD.mod {w w':World} {b:Nat} {S:Nat→Prop} (h:cD w b R l) (hm:Mod S w w') (hb:¬ S b) (hr:∀ v a,R v a→R' v a):cD w' b R' l:=by
 obtain ⟨lv,h1,h2⟩:=h;exact ⟨lv,sV h1 hm hb,h2.imp hr⟩
end
end
section
open Go Go.W
open Classical in
noncomputable def fQ (a b:Ty):Bool:=decide (a=b)
theorem oH (a b:ByteArray):aR a b=decide (a=b):=GP a b
theorem aaM {a b:Ty} (h1:a.kind=b.kind) (h2:a.name=b.name) (h3:a.args=b.args):a=b:=by
 cases a;cases b;simp only [Ty.kind,Ty.name,Ty.args] at h1 h2 h3;subst h1 h2 h3;rfl
theorem aaN:Fn 48:=⟨_,rfl,rfl,rfl⟩
open Classical in
theorem aaO {la lb:List Ty} (ih:∀ u∈la,∀ {w:World} {B B':Nat→Prop} {cs ds:List Value} {t:Ty},aX w B cs u→aX w B' ds t→ba Tryz.prog 48 [.agg cs.toArray,.agg ds.toArray] w fun r w'=>r = .bool (fQ u t)∧Mod (fun _=>False) w w')
   {w:World} {B B':Nat→Prop} {va vb:Value} (ha:aQ w va 3 B (aX w B) la) (hb:aQ w vb 3 B' (aX w B') lb) :
   ba Tryz.prog 71 [va,vb,.func (.func 48) #[] #[]] w fun r w'=>r = .bool (decide (la=lb))∧Mod (fun _=>False) w w':=by
 obtain ⟨fn,eE,gm,iy⟩:=aaN.ok;obtain ⟨aa,ca,rfl⟩:=a8 ha;obtain ⟨ab,cb,rfl⟩:=a8 hb;refine YS.calls rfl ?_;unfold H5;(try simp only [go_sem,simprocAttr]);cases bw:((la.length:Int) != lb.length) with
 | true=>
  (try simp only [go_sem,simprocAttr]);refine ⟨congrArg _ (Eq.symm (decide_eq_false (fun e=>?_))),.refl _ _⟩;subst e;simp at bw
 | false=>
  have hlen:la.length=lb.length:=by simpa [Int.ofNat_inj] using bw
  (try simp only [go_sem,simprocAttr]);refine eQ la.length (fun k ρ w'=>Mod (fun _=>False) w w'∧k≤la.length∧(∀ i,∀ h:i < la.length,i < k→la[i]=lb[i]'(by omega))∧ρ=[(1,.slice ab lb.length cb),(2,.func (.func 48) #[] #[]),(15,.slice aa la.length ca),(16,I la.length),(17,I k)]) ⟨.refl _ _,by omega,fun i _ hi=>absurd hi (by omega),rfl⟩ (du ha) ?_ ?_ (by decide) ?_
  ·rintro k _ w2 ⟨ai,hk,_,rfl⟩;exact ⟨rfl,rfl,hk⟩
  ·rintro k _ w2 ⟨ai,_,nA,rfl⟩ hk;obtain ⟨ad,c1,r,e,hr,bV,bQ,_⟩:=dL (ha.mod ai aC (fun _ _ h=>h.mod ai aC)) hk;cases e;have wQ:k < lb.length:=by omega
   have b1:(0:Int)≤k∧(k:Int) < la.length:=by omega
   have b2:(0:Int)≤k∧(k:Int) < lb.length:=by omega
   (try simp only [go_sem,simprocAttr,bq,br,b1,bQ]);refine cQ ?_;intro w3 aO ar eR;(try simp only [go_sem,simprocAttr]);refine bN (cs:=[I 0,.string bD,.slice none 0 0]) rfl rfl aO bV rfl hr.one ?_;intro w4 aZ aA eA;have nN:Mod (fun _=>False) w2 w4:=ar.step aA (fun x hx hl=>by omega);obtain ⟨lm,c2,r2,e2,wV,OY,wW,_⟩:=dL ((hb.mod ai aC (fun _ _ h=>h.mod ai aC)).mod nN aC (fun _ _ h=>h.mod nN aC)) wQ;cases e2;(try simp only [go_sem,simprocAttr,bq,br,b2,wW]);refine di (n:=3) (vs:=r2) rfl OY wV.one ?_;intro w5 bT aD eB;(try simp only [go_sem,simprocAttr,az (n:=3) bT OY,az (n:=3) (aD.at aZ _root_.id) bV]);refine wz rfl (by rfl) eE gm iy ?_;have wX:=nN.trans aD;refine (ih _ (List.getElem_mem hk) (hr.mod wX aC) (wV.mod aD aC)).mono ?_;rintro _ w6 ⟨rfl,aJ⟩;have qn:=ai.trans (wX.trans aJ);by_cases he:la[k]=lb[k]
   ·have:fQ la[k] lb[k]=true:=decide_eq_true he;rw [this];(try simp only [go_sem,simprocAttr]);refine ⟨qn,hk,fun i hi hik=>?_⟩;rcases Nat.lt_or_ge i k with h1 | h1
    ·exact nA i hi h1
    ·have:i=k:=by omega
     subst this;exact he
   ·have:fQ la[k] lb[k]=false:=decide_eq_false he;rw [this];(try simp only [go_sem,simprocAttr]);refine ⟨congrArg _ (Eq.symm (decide_eq_false (fun e=>?_))),qn⟩;subst e;exact he rfl
  ·rintro _ w2 ⟨ai,_,nA,rfl⟩;(try simp only [go_sem,simprocAttr]);exact ⟨congrArg _ (Eq.symm (decide_eq_true (List.ext_getElem hlen (fun i h1 h2=>nA i h1 h1)))),ai⟩
open Classical in
theorem DA (a:Ty):∀ {w:World} {B B':Nat→Prop} {cs ds:List Value} {t:Ty},aX w B cs a→aX w B' ds t→ba Tryz.prog 48 [.agg cs.toArray,.agg ds.toArray] w fun r w'=>r = .bool (fQ a t)∧Mod (fun _=>False) w w':=by
 induction a using Ty.ind with
 | h a ih=>
 intro w B B' cs ds t ha ht;obtain ⟨va,rfl,OZ⟩:=ha.cells;obtain ⟨vt,rfl,aP⟩:=ht.cells;refine Yh.calls rfl ?_;unfold HI;(try simp only [go_sem,simprocAttr]);refine bB rfl ?_;intro w1 au ak bP;(try simp only [go_sem,simprocAttr]);refine bB rfl ?_;intro w2 aw ai bS;have au:=ai.at au _root_.id;have hm:=ak.trans ai;(try simp only [go_sem,simprocAttr,cell_of au,cell_of aw,Value.cells]);have bad:¬ (a=t)→Value.bool false=Value.bool (fQ a t):=fun h=>congrArg _ (Eq.symm (decide_eq_false h))
 cases h1:a.kind == t.kind with
 | false=>(try simp only [go_sem,simprocAttr]);exact ⟨bad (fun e=>by subst e;simp at h1),hm⟩
 | true=>
  (try simp only [go_sem,simprocAttr,cell_of au,cell_of aw,Value.cells]);cases h2:a.name.toList == t.name.toList with
  | false=>(try simp only [go_sem,simprocAttr]);exact ⟨bad (fun e=>by subst e;simp at h2),hm⟩
  | true=>
   (try simp only [go_sem,simprocAttr,cell_of au,cell_of aw,Value.cells]);refine aK (by rfl) ?_;refine (aaO ih (OZ.mod hm aC (fun _ _ h=>h.mod hm aC)) (aP.mod hm aC (fun _ _ h=>h.mod hm aC))).mono ?_;rintro _ w3 ⟨rfl,ar⟩;(try simp only [go_sem,simprocAttr]);refine ⟨?_,hm.trans ar⟩;refine congrArg _ ?_;have gI:a.kind=t.kind:=by simpa using h1
   have iH:a.name=t.name:=by rw [GP] at h2;simpa using h2
   unfold fQ;by_cases h3:a.args=t.args
   ·rw [decide_eq_true h3,decide_eq_true (aaM gI iH h3)]
   ·rw [decide_eq_false h3,decide_eq_false (fun e=>h3 (by rw [e]))]
end
section
open Go Go.W
abbrev cI:List Value:=[I 0,.string bD,.slice none 0 0]
theorem uI:∀ u∈cI,u.oneCell'=true:=aW rfl (aW rfl (aW rfl dy))
abbrev fZ (k:Int) (s:ByteArray):List Value:=[I k,.string s,.slice none 0 0]
theorem nO (k:Int) (s:ByteArray):∀ u∈fZ k s,u.oneCell'=true:=aW rfl (aW rfl (aW rfl dy))
theorem O0 {w:World}:ba Tryz.prog 63 [] w fun r w'=>r = .agg (fZ 1 bD).toArray∧Mod (fun _=>False) w w':=by
 refine YD.calls rfl ?_;unfold HW;(try simp only [go_sem,simprocAttr]);refine cQ ?_;intro w1 au ak bP;(try simp only [go_sem,simprocAttr]);refine bN (vs:=fZ 1 bD) (cs:=cI) rfl rfl au rfl rfl (nO _ _) ?_;intro w2 aw ai bS;(try simp only [go_sem,simprocAttr,aE,RV.ev,az (n:=3) aw rfl,aF]);exact ak.step ai (fun x hx hl=>by omega)
theorem DB (s:ByteArray) {w:World}:ba Tryz.prog 76 [.string s] w fun r w'=>r = .agg (fZ 2 s).toArray∧Mod (fun _=>False) w w':=by
 refine YX.calls rfl ?_;unfold H';(try simp only [go_sem,simprocAttr]);refine cQ ?_;intro w1 au ak bP;(try simp only [go_sem,simprocAttr]);refine bN (vs:=fZ 2 s) (cs:=cI) rfl rfl au rfl rfl (nO _ _) ?_;intro w2 aw ai bS;(try simp only [go_sem,simprocAttr,aE,RV.ev,az (n:=3) aw rfl,aF]);exact ak.step ai (fun x hx hl=>by omega)
theorem I7 (s:ByteArray) {v:Value} (hv:v.oneCell'=true) (uJ:One v) {w:World}:ba Tryz.prog 77 [.string s,v] w fun r w'=>r = .agg [I 4,.string s,v].toArray∧Mod (fun _=>False) w w':=by
 refine YY.calls rfl ?_;unfold Ia;(try simp only [go_sem,simprocAttr]);refine cQ ?_;intro w1 au ak bP;(try simp only [go_sem,simprocAttr,eq_true uJ]);refine bN (vs:=[I 4,.string s,v]) (cs:=cI) rfl rfl au rfl rfl (aW rfl (aW rfl (aW hv dy))) ?_;intro w2 aw ai bS;(try simp only [go_sem,simprocAttr,aE,RV.ev,az (n:=3) aw rfl,aF]);exact ak.step ai (fun x hx hl=>by omega)
def jV (a b:Ty):Ty:=.mk 3 bD [a,b]
theorem aaP {w:World} {S:Nat→Prop} {b T c:Nat} {ca cb:List Value} {x y:Ty} (hb:w.heap[b]? = some (.cells (ca++cb).toArray T (0,0))) (hS:¬ S b) (ha:aX w (Out S w) ca x) (dV:aX w (Out S w) cb y) (k:Int) (s:ByteArray) :
   aX w (Out S w) [I k,.string s,.slice (some ⟨b,0,none⟩) 2 c] (.mk k s [x,y]):=by
 have la:=ha.len;have lb:=dV.len;refine .mk (rows:=[ca,cb]) ⟨⟨_,c,rfl,fun _ ad e=>by cases e;exact ⟨cC hb,hS⟩,fun i hi=>⟨_,rfl,?_,?_⟩⟩,by simp⟩ rfl ?_
 ·match i,hi with
  | 0,_=>exact la
  | 1,_=>exact lb
 ·intro k hk;rw [nE,nE,cell_of hb]
  match i,hi with
  | 0,_=>
   simp only [List.getElem_cons_zero] at hk ⊢;simp only [Nat.zero_mul,Nat.zero_add,List.getElem?_toArray];rw [List.getElem?_append_left hk,List.getElem?_eq_getElem hk]
  | 1,_=>
   simp only [List.getElem_cons_succ,List.getElem_cons_zero] at hk ⊢;simp only [Nat.one_mul,Nat.zero_add,List.getElem?_toArray];rw [List.getElem?_append_right (by omega),la,Nat.add_sub_cancel_left,List.getElem?_eq_getElem hk]
 ·intro i r t hr ht
  match i with
  | 0=>simp only [List.getElem?_cons_zero,Option.some.injEq] at hr ht;subst hr ht;exact ha
  | 1=>simp only [List.getElem?_cons_succ,List.getElem?_cons_zero,Option.some.injEq] at hr ht;subst hr ht;exact dV
  | i+2=>simp at hr
theorem O1 {x y:Ty} {ca cb:List Value} {S:Nat→Prop} {w:World} (hS:∀ b,S b→b < w.heap.size) (ha:aX w (Out S w) ca x) (hb:aX w (Out S w) cb y) :
   ba Tryz.prog 87 [.agg ca.toArray,.agg cb.toArray] w fun r w'=>(∃ cs,r = .agg (cs:List Value).toArray∧aX w' (Out S w') cs (jV x y))∧Mod (fun _=>False) w w':=by
 refine Y7.calls rfl ?_;unfold Il;have la:=ha.len;have lb:=hb.len;(try simp only [go_sem,simprocAttr]);refine bB rfl ?_;intro w1 au ak bP;(try simp only [go_sem,simprocAttr]);refine bB rfl ?_;intro w2 aw ai bS;(try simp only [go_sem,simprocAttr]);refine cQ ?_;intro w3 aO ar eR;have au:=(ai.trans ar).at au _root_.id;have aw:=ar.at aw _root_.id;(try simp only [go_sem,simprocAttr,az (n:=3) (cs:=ca) au la,az (n:=3) (cs:=cb) aw lb]);refine fG (cs:=(ca++cb).toArray) rfl ?_ ?_
 ·(try simp only [go_sem,simprocAttr,la,lb])
  match ca,la,cb,lb with
  | [a1,a2,a3],_,[b1,b2,b3],_=>rfl
 intro w4 aZ aA eA;have aO:=aA.at aO _root_.id;(try simp only [go_sem,simprocAttr]);refine bN (vs:=[I 3,.string bD,.slice (some ⟨w3.heap.size,0,none⟩) 2 2]) (cs:=cI) rfl rfl aO rfl rfl (aW rfl (aW rfl (aW rfl dy))) ?_;intro w5 bT aD eB;(try simp only [go_sem,simprocAttr,aE,RV.ev,az (n:=3) bT rfl,aF]);have eS:Mod (fun _=>False) w w5:=(ak.trans (ai.trans (ar.trans aA))).step aD (fun x hx hl=>by omega);refine ⟨⟨_,rfl,aaP (aD.at aZ (by omega)) (fun h=>by have:=hS _ h;omega) (ha.aB (aj eS)) (hb.aB (aj eS)) 3 bD⟩,eS⟩
def tn (s:ByteArray):Bool:=aR s ⟨#[43]⟩||aR s ⟨#[45]⟩||aR s ⟨#[42]⟩||aR s ⟨#[47]⟩||aR s ⟨#[37]⟩
def rJ (s:ByteArray):Bool:=aR s ⟨#[61,61]⟩||aR s ⟨#[47,61]⟩||aR s ⟨#[60]⟩||aR s ⟨#[60,61]⟩||aR s ⟨#[62]⟩||aR s ⟨#[62,61]⟩
abbrev iA:ByteArray:=⟨#[66,111,111,108]⟩
def fJ (s:ByteArray):Option Ty:=if tn s then some (.mk 1 bD []) else if rJ s then some (.mk 4 iA []) else none
def tp (s:ByteArray):List Value:=match fJ s with | some t=>fZ t.kind t.name | none=>cI
theorem O2 (s:ByteArray) {w:World}:ba Tryz.prog 85 [.string s] w fun r w'=>r = .tuple #[.agg (tp s).toArray,.bool (fJ s).isSome]∧Mod (fun _=>False) w w':=by
 refine Y5.calls rfl ?_;unfold Ij;(try simp only [go_sem,simprocAttr]);refine cQ ?_;intro w1 au ak bP;(try simp only [go_sem,simprocAttr]);refine AT (fun ρ w'=>w1=w'∧ρ.get 2=some (ptr w.heap.size)∧ρ.get 4=some (.string s)∧ρ.get 5=some (.bool (tn s))) ?_ ?_
 ·skip
  cases h1:s.toList == ByteArray.toList ⟨#[43]⟩ with
  | true=>(try simp only [go_sem,simprocAttr,tn,aR,h1,Bool.false_or,Bool.true_or])
  | false=>
   (try simp only [go_sem,simprocAttr]);cases h2:s.toList == ByteArray.toList ⟨#[45]⟩ with
   | true=>(try simp only [go_sem,simprocAttr,tn,aR,h1,h2,Bool.false_or,Bool.true_or])
   | false=>
    (try simp only [go_sem,simprocAttr]);cases h3:s.toList == ByteArray.toList ⟨#[42]⟩ with
    | true=>(try simp only [go_sem,simprocAttr,tn,aR,h1,h2,h3,Bool.false_or,Bool.true_or])
    | false=>
     (try simp only [go_sem,simprocAttr]);cases h4:s.toList == ByteArray.toList ⟨#[47]⟩ with
     | true=>(try simp only [go_sem,simprocAttr,tn,aR,h1,h2,h3,h4,Bool.false_or,Bool.true_or])
     | false=>
      (try simp only [go_sem,simprocAttr]);(try simp only [go_sem,simprocAttr,tn,aR,h1,h2,h3,h4,Bool.false_or])
 rintro ρ _ ⟨rfl,g2,g4,g5⟩;cases ha:tn s with
 | true=>
  rw [ha] at g5;have ho:fJ s=some (.mk 1 bD []):=by rw [fJ,if_pos ha]
  (try simp only [go_sem,simprocAttr,g2,g4,g5]);refine aK (by rfl) ?_;refine O0.mono ?_;rintro _ w2 ⟨rfl,ai⟩;(try simp only [go_sem,simprocAttr,g2,g4]);refine bN (vs:=fZ 1 bD) (cs:=cI) g2 rfl (ai.at au _root_.id) rfl rfl (nO _ _) ?_;intro w3 aO ar eR;(try simp only [go_sem,simprocAttr,aE,RV.ev,az (n:=3) aO rfl,aF]);rw [tp,ho];exact ⟨rfl,(ak.trans ai).step ar (fun x hx hl=>by omega)⟩
 | false=>
  rw [ha] at g5;(try simp only [go_sem,simprocAttr,g2,g4,g5]);refine AT (fun ρ w'=>w1=w'∧ρ.get 2=some (ptr w.heap.size)∧ρ.get 12=some (.bool (rJ s))) ?_ ?_
  ·skip
   cases h1:s.toList == ByteArray.toList ⟨#[61,61]⟩ with
   | true=>(try simp only [go_sem,simprocAttr,g2,rJ,aR,h1,Bool.false_or,Bool.true_or])
   | false=>
    (try simp only [go_sem,simprocAttr,g2,g4]);cases h2:s.toList == ByteArray.toList ⟨#[47,61]⟩ with
    | true=>(try simp only [go_sem,simprocAttr,g2,rJ,aR,h1,h2,Bool.false_or,Bool.true_or])
    | false=>
     (try simp only [go_sem,simprocAttr,g2,g4]);cases h3:s.toList == ByteArray.toList ⟨#[60]⟩ with
     | true=>(try simp only [go_sem,simprocAttr,g2,rJ,aR,h1,h2,h3,Bool.false_or,Bool.true_or])
     | false=>
      (try simp only [go_sem,simprocAttr,g2,g4]);cases h4:s.toList == ByteArray.toList ⟨#[60,61]⟩ with
      | true=>(try simp only [go_sem,simprocAttr,g2,rJ,aR,h1,h2,h3,h4,Bool.false_or,Bool.true_or])
      | false=>
       (try simp only [go_sem,simprocAttr,g2,g4]);cases h5:s.toList == ByteArray.toList ⟨#[62]⟩ with
       | true=>(try simp only [go_sem,simprocAttr,g2,rJ,aR,h1,h2,h3,h4,h5,Bool.false_or,Bool.true_or])
       | false=>
        (try simp only [go_sem,simprocAttr,g2,g4]);(try simp only [go_sem,simprocAttr,g2,rJ,aR,h1,h2,h3,h4,h5,Bool.false_or])
  rintro ρ _ ⟨rfl,g2,g12⟩;cases hc:rJ s with
  | true=>
   rw [hc] at g12;have ho:fJ s=some (.mk 4 iA []):=by rw [fJ,if_neg (by rw [ha];simp),if_pos hc]
   (try simp only [go_sem,simprocAttr,g2,g12]);refine aK (by rfl) ?_;refine (I7 iA (v:=.slice none 0 0) rfl rfl).mono ?_;rintro _ w2 ⟨rfl,ai⟩;(try simp only [go_sem,simprocAttr,g2]);refine bN (vs:=fZ 4 iA) (cs:=cI) g2 rfl (ai.at au _root_.id) rfl rfl (nO _ _) ?_;intro w3 aO ar eR;(try simp only [go_sem,simprocAttr,aE,RV.ev,az (n:=3) aO rfl,aF]);rw [tp,ho];exact ⟨rfl,(ak.trans ai).step ar (fun x hx hl=>by omega)⟩
  | false=>
   rw [hc] at g12;have hn:fJ s=none:=by rw [fJ,if_neg (by rw [ha];simp),if_neg (by rw [hc];simp)]
   (try simp only [go_sem,simprocAttr,g2,g12]);refine bN (vs:=cI) (cs:=cI) g2 rfl au rfl rfl uI ?_;intro w2 aw ai bS;(try simp only [go_sem,simprocAttr,aE,RV.ev,az (n:=3) aw rfl,aF]);rw [tp,hn];exact ⟨rfl,ak.step ai (fun x hx hl=>by omega)⟩
end
section
open Go Go.W
theorem add_pos (a:Addr) {n:Nat} (h:n≠0):a.add n=⟨a.block,a.off+n,none⟩:=by unfold Addr.add;rw [if_neg (by simpa using h)]
def uK (e:Ex):Bool:=e.kind == 0&&(aR e.name bD&&((e.num == 0)&&(Wr (Wr (Wr (e.types.length+e.args.length)+e.binds.length)+e.alts.length) == 0)))
theorem aaQ (e:Ex) {w:World} {B:Nat→Prop} {cs:List Value} (h:bH w B cs e):ba Tryz.prog 84 [.agg cs.toArray] w fun r w'=>r = .bool (uK e)∧Mod (fun _=>False) w w':=by
 obtain ⟨vt,va,vb,vl,rfl,ht,ha,hb,hl⟩:=h.parts;obtain ⟨at',ct,rfl⟩:=a8 ht;obtain ⟨aa,ca,rfl⟩:=a8 ha;obtain ⟨ab,cb,rfl⟩:=a8 hb;obtain ⟨al,cl,rfl⟩:=a8 hl;refine Y4.calls rfl ?_;unfold Ii;(try simp only [go_sem,simprocAttr]);refine bB rfl ?_;intro w1 au ak bP;(try simp only [go_sem,simprocAttr,cell_of au,Value.cells]);cases h1:e.kind == 0 with
 | false=>(try simp only [go_sem,simprocAttr,uK,h1,Bool.false_and]);exact ak
 | true=>
  (try simp only [go_sem,simprocAttr,cell_of au,Value.cells]);cases h2:e.name.toList == ByteArray.toList ⟨#[]⟩ with
  | false=>(try simp only [go_sem,simprocAttr,uK,aR,h1,h2,Bool.false_and]);exact ak
  | true=>
   (try simp only [go_sem,simprocAttr,cell_of au,Value.cells]);cases h3:e.num == 0 with
   | false=>(try simp only [go_sem,simprocAttr,uK,aR,h1,h2,h3,Bool.false_and]);exact ak
   | true=>
    (try simp only [go_sem,simprocAttr,cell_of au,Value.cells,uK,aR,h1,h2,h3]);exact ak
def eH (e:Ex) (a b c d:Int):Bool:=(e.types.length:Int) == a&&((e.args.length:Int) == b&&((e.binds.length:Int) == c&&((e.alts.length:Int) == d)))
def ga (k:Int):Bool:=k == 1||(k == 3||k == 4)||k == 9
def fR (k:Int):Bool:=k == 2||k == 12
def fS (e:Ex):Bool:=
 if e.kind == 1 then eH e 0 0 0 0
 else if e.kind == 2 then (eH e 0 0 0 0&&decide (e.num ≥ -4611686018427387904))&&decide (e.num≤4611686018427387903)
 else if (e.kind == 3||e.kind == 4) then eH e e.types.length 0 0 0
 else if (e.kind == 5||e.kind == 10) then eH e 0 2 0 0
 else if e.kind == 6 then eH e 0 1 1 0&&(match e.binds with | b::_=>uK b.value | []=>false)
 else if e.kind == 7 then eH e 0 1 e.binds.length 0&&decide ((e.binds.length:Int)≥1)
 else if e.kind == 8 then eH e 0 1 0 e.alts.length&&decide ((e.alts.length:Int)≥1)
 else if e.kind == 9 then eH e 0 2 0 0&&(fJ e.name).isSome
 else if e.kind == 11 then eH e 0 1 1 0
 else if e.kind == 12 then (eH e 1 0 0 0&&decide (e.num≥1))&&decide (e.num≤4)
 else false
def jx (e:Ex):Bool:=(fS e&&(ga e.kind||aR e.name bD))&&(fR e.kind||e.num == 0)
theorem aaR (e:Ex) {w:World} {B:Nat→Prop} {cs:List Value} (h:bH w B cs e):ba Tryz.prog 62 [.agg cs.toArray] w fun r w'=>r = .bool (jx e)∧Mod (fun _=>False) w w':=by
 obtain ⟨vt,va,vb,vl,rfl,ht,ha,hb,hl⟩:=h.parts;obtain ⟨at',ct,rfl⟩:=a8 ht;obtain ⟨aa,ca,rfl⟩:=a8 ha;obtain ⟨ab,cb,rfl⟩:=a8 hb;obtain ⟨al,cl,rfl⟩:=a8 hl;refine YC.calls rfl ?_;unfold HV;(try simp only [go_sem,simprocAttr]);refine bB rfl ?_;intro w1 au ak bP;(try simp only [go_sem,simprocAttr,cell_of au,Value.cells]);refine di (n:=4) (vs:=[I e.types.length,I e.args.length,I e.binds.length,I e.alts.length]) rfl rfl (aW rfl (aW rfl (aW rfl (aW rfl dy)))) ?_;intro w2 aw ai bS;have au:=ai.at au _root_.id;have hm:=ak.trans ai;(try simp only [go_sem,simprocAttr,cell_of au,Value.cells]);refine td (fun ρ w'=>Mod (fun _=>False) w2 w'∧ρ.get 1=some (ptr w.heap.size)∧ρ.get 4=some (.bool (ga e.kind))∧ρ.get 5=some (.bool (fR e.kind))∧ρ.get 6=some (.bool (fS e))) ?_ ?_
 ·have cY:w2.drew.heap[w1.heap.size]? = _:=aw;cases h1:e.kind == 1 with
  | true=>
   (try simp only [go_sem,simprocAttr,az (n:=4) aw rfl,az (n:=4) cY rfl,cell_of au,cell_of aw,Value.cells,ci]);have hk:e.kind=1:=by simpa using h1
   (try simp only [go_sem,simprocAttr,az (n:=4) aw rfl,az (n:=4) cY rfl,cell_of au,cell_of aw,Value.cells,ci]);exact ⟨Mod.drew (.refl _ _),congrArg _ (by rw [ga,hk];rfl),congrArg _ (by rw [fR,hk];rfl),congrArg _ (by unfold fS;rw [hk];rfl)⟩
  | false=>
   (try simp only [go_sem,simprocAttr,az (n:=4) aw rfl,az (n:=4) cY rfl,cell_of au,cell_of aw,Value.cells,ci]);cases h2:e.kind == 2 with
   | true=>
    (try simp only [go_sem,simprocAttr,az (n:=4) aw rfl,az (n:=4) cY rfl,cell_of au,cell_of aw,Value.cells,ci]);have hk:e.kind=2:=by simpa using h2
    (try simp only [go_sem,simprocAttr,az (n:=4) aw rfl,az (n:=4) cY rfl,cell_of au,cell_of aw,Value.cells,ci]);have ho:fS e=((eH e 0 0 0 0&&decide (e.num ≥ -4611686018427387904))&&decide (e.num≤4611686018427387903)):=by unfold fS;rw [hk];rfl
    unfold eH at ho;cases hc:((e.types.length:Int) == 0&&((e.args.length:Int) == 0&&((e.binds.length:Int) == 0&&((e.alts.length:Int) == 0)))) with
    | false=>rw [hc] at ho;(try simp only [go_sem,simprocAttr,az (n:=4) aw rfl,az (n:=4) cY rfl,cell_of au,cell_of aw,Value.cells,ci]);exact ⟨Mod.drew (.refl _ _),congrArg _ (by rw [ga,hk];rfl),congrArg _ (by rw [fR,hk];rfl),congrArg _ (by rw [ho];rfl)⟩
    | true=>
     rw [hc] at ho;(try simp only [go_sem,simprocAttr,az (n:=4) aw rfl,az (n:=4) cY rfl,cell_of au,cell_of aw,Value.cells,ci]);cases hd:decide (e.num ≥ -4611686018427387904) with
     | false=>rw [hd] at ho;(try simp only [go_sem,simprocAttr,az (n:=4) aw rfl,az (n:=4) cY rfl,cell_of au,cell_of aw,Value.cells,ci]);exact ⟨Mod.drew (.refl _ _),congrArg _ (by rw [ga,hk];rfl),congrArg _ (by rw [fR,hk];rfl),congrArg _ (by rw [ho];rfl)⟩
     | true=>rw [hd] at ho;(try simp only [go_sem,simprocAttr,az (n:=4) aw rfl,az (n:=4) cY rfl,cell_of au,cell_of aw,Value.cells,ci]);exact ⟨Mod.drew (.refl _ _),congrArg _ (by rw [ga,hk];rfl),congrArg _ (by rw [fR,hk];rfl),congrArg _ (by rw [ho];rfl)⟩
   | false=>
    (try simp only [go_sem,simprocAttr,az (n:=4) aw rfl,az (n:=4) cY rfl,cell_of au,cell_of aw,Value.cells,ci]);cases h3:e.kind == 3 with
    | true=>
     (try simp only [go_sem,simprocAttr,az (n:=4) aw rfl,az (n:=4) cY rfl,cell_of au,cell_of aw,Value.cells,ci]);have hk:e.kind=3:=by simpa using h3
     (try simp only [go_sem,simprocAttr,az (n:=4) aw rfl,az (n:=4) cY rfl,cell_of au,cell_of aw,Value.cells,ci]);exact ⟨Mod.drew (.refl _ _),congrArg _ (by rw [ga,hk];rfl),congrArg _ (by rw [fR,hk];rfl),congrArg _ (by unfold fS;rw [hk];rfl)⟩
    | false=>
     (try simp only [go_sem,simprocAttr,az (n:=4) aw rfl,az (n:=4) cY rfl,cell_of au,cell_of aw,Value.cells,ci]);cases h4:e.kind == 4 with
     | true=>
      (try simp only [go_sem,simprocAttr,az (n:=4) aw rfl,az (n:=4) cY rfl,cell_of au,cell_of aw,Value.cells,ci]);have hk:e.kind=4:=by simpa using h4
      (try simp only [go_sem,simprocAttr,az (n:=4) aw rfl,az (n:=4) cY rfl,cell_of au,cell_of aw,Value.cells,ci]);exact ⟨Mod.drew (.refl _ _),congrArg _ (by rw [ga,hk];rfl),congrArg _ (by rw [fR,hk];rfl),congrArg _ (by unfold fS;rw [hk];rfl)⟩
     | false=>
      (try simp only [go_sem,simprocAttr,az (n:=4) aw rfl,az (n:=4) cY rfl,cell_of au,cell_of aw,Value.cells,ci]);cases h5:e.kind == 5 with
      | true=>
       (try simp only [go_sem,simprocAttr,az (n:=4) aw rfl,az (n:=4) cY rfl,cell_of au,cell_of aw,Value.cells,ci]);have hk:e.kind=5:=by simpa using h5
       (try simp only [go_sem,simprocAttr,az (n:=4) aw rfl,az (n:=4) cY rfl,cell_of au,cell_of aw,Value.cells,ci]);exact ⟨.refl _ _,congrArg _ (by rw [ga,hk];rfl),congrArg _ (by rw [fR,hk];rfl),congrArg _ (by unfold fS;rw [hk];rfl)⟩
      | false=>
       (try simp only [go_sem,simprocAttr,az (n:=4) aw rfl,az (n:=4) cY rfl,cell_of au,cell_of aw,Value.cells,ci]);cases kz:e.kind == 10 with
       | true=>
        (try simp only [go_sem,simprocAttr,az (n:=4) aw rfl,az (n:=4) cY rfl,cell_of au,cell_of aw,Value.cells,ci]);have hk:e.kind=10:=by simpa using kz
        (try simp only [go_sem,simprocAttr,az (n:=4) aw rfl,az (n:=4) cY rfl,cell_of au,cell_of aw,Value.cells,ci]);exact ⟨.refl _ _,congrArg _ (by rw [ga,hk];rfl),congrArg _ (by rw [fR,hk];rfl),congrArg _ (by unfold fS;rw [hk];rfl)⟩
       | false=>
        (try simp only [go_sem,simprocAttr,az (n:=4) aw rfl,az (n:=4) cY rfl,cell_of au,cell_of aw,Value.cells,ci]);cases h6:e.kind == 6 with
        | true=>
         (try simp only [go_sem,simprocAttr,az (n:=4) aw rfl,az (n:=4) cY rfl,cell_of au,cell_of aw,Value.cells,ci]);have hk:e.kind=6:=by simpa using h6
         (try simp only [go_sem,simprocAttr,az (n:=4) aw rfl,az (n:=4) cY rfl,cell_of au,cell_of aw,Value.cells,ci]);have ho:fS e=(eH e 0 1 1 0&&(match e.binds with | b::_=>uK b.value | []=>false)):=by unfold fS;rw [hk];rfl
         unfold eH at ho;cases hc:((e.types.length:Int) == 0&&((e.args.length:Int) == 1&&((e.binds.length:Int) == 1&&((e.alts.length:Int) == 0)))) with
         | false=>rw [hc] at ho;(try simp only [go_sem,simprocAttr,az (n:=4) aw rfl,az (n:=4) cY rfl,cell_of au,cell_of aw,Value.cells,ci]);exact ⟨.refl _ _,congrArg _ (by rw [ga,hk];rfl),congrArg _ (by rw [fR,hk];rfl),congrArg _ (by rw [ho];rfl)⟩
         | true=>
          rw [hc] at ho;have hn:e.binds.length=1:=by simp only [Bool.and_eq_true,beq_iff_eq] at hc;omega
          have aP:0 < e.binds.length:=by omega
          obtain ⟨ad,cc,r,ee,⟨tc,ec,rfl,gw,ej,_⟩,bV,_,aaS⟩:=dL (hb.mod hm aC (fun _ _ h=>h.mod hm aC)) aP;cases ee;have l1:=gw.len;have jW:=OD aaS (o:=4) (n:=7) (by simp [ej.len];omega);rw [List.drop_succ_cons,List.drop_left' l1,List.take_of_length_le (by rw [ej.len];omega),Nat.zero_mul,add_zero',add_pos _ (n:=4) (by decide)] at jW;have b1:(0:Int)≤0∧(0:Int) < e.binds.length:=by omega
          (try simp only [go_sem,simprocAttr,bq,br,az (n:=4) aw rfl,az (n:=4) cY rfl,cell_of au,cell_of aw,Value.cells,ci,b1,Nat.zero_mul,jW]);refine aK (by rfl) ?_;refine (aaQ _ ej).mono ?_;rintro _ w3 ⟨rfl,ar⟩;(try simp only [go_sem,simprocAttr,az (n:=4) aw rfl,az (n:=4) cY rfl,cell_of au,cell_of aw,Value.cells,ci]);exact ⟨ar,congrArg _ (by rw [ga,hk];rfl),congrArg _ (by rw [fR,hk];rfl),congrArg _ (by rw [ho];match e.binds,aP with | b::_,_=>rfl)⟩
        | false=>
         (try simp only [go_sem,simprocAttr,az (n:=4) aw rfl,az (n:=4) cY rfl,cell_of au,cell_of aw,Value.cells,ci]);cases h7:e.kind == 7 with
         | true=>
          (try simp only [go_sem,simprocAttr,az (n:=4) aw rfl,az (n:=4) cY rfl,cell_of au,cell_of aw,Value.cells,ci]);have hk:e.kind=7:=by simpa using h7
          (try simp only [go_sem,simprocAttr,az (n:=4) aw rfl,az (n:=4) cY rfl,cell_of au,cell_of aw,Value.cells,ci]);have ho:fS e=(eH e 0 1 e.binds.length 0&&decide ((e.binds.length:Int)≥1)):=by unfold fS;rw [hk];rfl
          unfold eH at ho;cases hc:((e.types.length:Int) == 0&&((e.args.length:Int) == 1&&((e.binds.length:Int) == e.binds.length&&((e.alts.length:Int) == 0)))) with
          | false=>rw [hc] at ho;(try simp only [go_sem,simprocAttr,az (n:=4) aw rfl,az (n:=4) cY rfl,cell_of au,cell_of aw,Value.cells,ci]);exact ⟨.refl _ _,congrArg _ (by rw [ga,hk];rfl),congrArg _ (by rw [fR,hk];rfl),congrArg _ (by rw [ho];rfl)⟩
          | true=>rw [hc] at ho;(try simp only [go_sem,simprocAttr,az (n:=4) aw rfl,az (n:=4) cY rfl,cell_of au,cell_of aw,Value.cells,ci]);exact ⟨.refl _ _,congrArg _ (by rw [ga,hk];rfl),congrArg _ (by rw [fR,hk];rfl),congrArg _ (by rw [ho];rfl)⟩
         | false=>
          (try simp only [go_sem,simprocAttr,az (n:=4) aw rfl,az (n:=4) cY rfl,cell_of au,cell_of aw,Value.cells,ci]);cases h8:e.kind == 8 with
          | true=>
           (try simp only [go_sem,simprocAttr,az (n:=4) aw rfl,az (n:=4) cY rfl,cell_of au,cell_of aw,Value.cells,ci]);have hk:e.kind=8:=by simpa using h8
           (try simp only [go_sem,simprocAttr,az (n:=4) aw rfl,az (n:=4) cY rfl,cell_of au,cell_of aw,Value.cells,ci]);have ho:fS e=(eH e 0 1 0 e.alts.length&&decide ((e.alts.length:Int)≥1)):=by unfold fS;rw [hk];rfl
           unfold eH at ho;cases hc:((e.types.length:Int) == 0&&((e.args.length:Int) == 1&&((e.binds.length:Int) == 0&&((e.alts.length:Int) == e.alts.length)))) with
           | false=>rw [hc] at ho;(try simp only [go_sem,simprocAttr,az (n:=4) aw rfl,az (n:=4) cY rfl,cell_of au,cell_of aw,Value.cells,ci]);exact ⟨.refl _ _,congrArg _ (by rw [ga,hk];rfl),congrArg _ (by rw [fR,hk];rfl),congrArg _ (by rw [ho];rfl)⟩
           | true=>rw [hc] at ho;(try simp only [go_sem,simprocAttr,az (n:=4) aw rfl,az (n:=4) cY rfl,cell_of au,cell_of aw,Value.cells,ci]);exact ⟨.refl _ _,congrArg _ (by rw [ga,hk];rfl),congrArg _ (by rw [fR,hk];rfl),congrArg _ (by rw [ho];rfl)⟩
          | false=>
           (try simp only [go_sem,simprocAttr,az (n:=4) aw rfl,az (n:=4) cY rfl,cell_of au,cell_of aw,Value.cells,ci]);cases h9:e.kind == 9 with
           | true=>
            (try simp only [go_sem,simprocAttr,az (n:=4) aw rfl,az (n:=4) cY rfl,cell_of au,cell_of aw,Value.cells,ci]);have hk:e.kind=9:=by simpa using h9
            (try simp only [go_sem,simprocAttr,az (n:=4) aw rfl,az (n:=4) cY rfl,cell_of au,cell_of aw,Value.cells,ci]);refine aK (by rfl) ?_;refine (O2 e.name).mono ?_;rintro _ w3 ⟨rfl,ar⟩;(try simp only [go_sem,simprocAttr]);refine di (n:=3) (vs:=tp e.name) rfl (by unfold tp;split<;>rfl) (by unfold tp;split;exact nO _ _;exact uI) ?_;intro w4 aZ aA eA;have gW:=ar.trans aA;have aw:=gW.at aw _root_.id;have ho:fS e=(eH e 0 2 0 0&&(fJ e.name).isSome):=by unfold fS;rw [hk];rfl
            unfold eH at ho;(try simp only [go_sem,simprocAttr,az (n:=4) aw rfl,cell_of au,cell_of aw,Value.cells,ci]);cases hc:((e.types.length:Int) == 0&&((e.args.length:Int) == 2&&((e.binds.length:Int) == 0&&((e.alts.length:Int) == 0)))) with
            | false=>rw [hc] at ho;(try simp only [go_sem,simprocAttr]);exact ⟨gW,congrArg _ (by rw [ga,hk];rfl),congrArg _ (by rw [fR,hk];rfl),congrArg _ (by rw [ho];rfl)⟩
            | true=>rw [hc] at ho;(try simp only [go_sem,simprocAttr]);exact ⟨gW,congrArg _ (by rw [ga,hk];rfl),congrArg _ (by rw [fR,hk];rfl),congrArg _ (by rw [ho];rfl)⟩
           | false=>
            (try simp only [go_sem,simprocAttr,az (n:=4) aw rfl,az (n:=4) cY rfl,cell_of au,cell_of aw,Value.cells,ci]);cases kA:e.kind == 11 with
            | true=>
             (try simp only [go_sem,simprocAttr,az (n:=4) aw rfl,az (n:=4) cY rfl,cell_of au,cell_of aw,Value.cells,ci]);have hk:e.kind=11:=by simpa using kA
             (try simp only [go_sem,simprocAttr,az (n:=4) aw rfl,az (n:=4) cY rfl,cell_of au,cell_of aw,Value.cells,ci]);exact ⟨.refl _ _,congrArg _ (by rw [ga,hk];rfl),congrArg _ (by rw [fR,hk];rfl),congrArg _ (by unfold fS;rw [hk];rfl)⟩
            | false=>
             (try simp only [go_sem,simprocAttr,az (n:=4) aw rfl,az (n:=4) cY rfl,cell_of au,cell_of aw,Value.cells,ci]);cases pj:e.kind == 12 with
             | true=>
              (try simp only [go_sem,simprocAttr,az (n:=4) aw rfl,az (n:=4) cY rfl,cell_of au,cell_of aw,Value.cells,ci]);have hk:e.kind=12:=by simpa using pj
              (try simp only [go_sem,simprocAttr,az (n:=4) aw rfl,az (n:=4) cY rfl,cell_of au,cell_of aw,Value.cells,ci]);have ho:fS e=((eH e 1 0 0 0&&decide (e.num≥1))&&decide (e.num≤4)):=by unfold fS;rw [hk];rfl
              unfold eH at ho;cases hc:((e.types.length:Int) == 1&&((e.args.length:Int) == 0&&((e.binds.length:Int) == 0&&((e.alts.length:Int) == 0)))) with
              | false=>rw [hc] at ho;(try simp only [go_sem,simprocAttr,az (n:=4) aw rfl,az (n:=4) cY rfl,cell_of au,cell_of aw,Value.cells,ci]);exact ⟨Mod.drew (.refl _ _),congrArg _ (by rw [ga,hk];rfl),congrArg _ (by rw [fR,hk];rfl),congrArg _ (by rw [ho];rfl)⟩
              | true=>
               rw [hc] at ho;(try simp only [go_sem,simprocAttr,az (n:=4) aw rfl,az (n:=4) cY rfl,cell_of au,cell_of aw,Value.cells,ci]);cases hd:decide (e.num≥1) with
               | false=>rw [hd] at ho;(try simp only [go_sem,simprocAttr,az (n:=4) aw rfl,az (n:=4) cY rfl,cell_of au,cell_of aw,Value.cells,ci]);exact ⟨Mod.drew (.refl _ _),congrArg _ (by rw [ga,hk];rfl),congrArg _ (by rw [fR,hk];rfl),congrArg _ (by rw [ho];rfl)⟩
               | true=>rw [hd] at ho;(try simp only [go_sem,simprocAttr,az (n:=4) aw rfl,az (n:=4) cY rfl,cell_of au,cell_of aw,Value.cells,ci]);exact ⟨Mod.drew (.refl _ _),congrArg _ (by rw [ga,hk];rfl),congrArg _ (by rw [fR,hk];rfl),congrArg _ (by rw [ho];rfl)⟩
             | false=>
              (try simp only [go_sem,simprocAttr,az (n:=4) aw rfl,az (n:=4) cY rfl,cell_of au,cell_of aw,Value.cells,ci]);exact ⟨.refl _ _,congrArg _ (by simp only [ga,h1,h2,h3,h4,h5,kz,h6,h7,h8,h9,kA,pj];rfl),congrArg _ (by simp only [fR,h1,h2,h3,h4,h5,kz,h6,h7,h8,h9,kA,pj];rfl),congrArg _ (by simp only [fS,h1,h2,h3,h4,h5,kz,h6,h7,h8,h9,kA,pj];rfl)⟩
 ·rintro ρ w3 ⟨ar,g1,g4,g5,g6⟩;have au:=ar.at au _root_.id;have ru:=hm.trans ar;have ho:jx e=((fS e&&(ga e.kind||aR e.name bD))&&(fR e.kind||e.num == 0)):=rfl;cases h1:fS e with
  | false=>
   rw [h1] at g6 ho;(try simp only [go_sem,simprocAttr,g1,g4,g5,g6]);exact ⟨congrArg _ (by rw [ho];rfl),ru⟩
  | true=>
   rw [h1] at g6 ho;cases h2:ga e.kind with
   | true=>
    rw [h2] at g4 ho;cases h3:fR e.kind with
    | true=>
     rw [h3] at g5 ho;(try simp only [go_sem,simprocAttr,g1,g4,g5,g6,cell_of au,Value.cells]);exact ⟨congrArg _ (by rw [ho];rfl),ru⟩
    | false=>
     rw [h3] at g5 ho;(try simp only [go_sem,simprocAttr,g1,g4,g5,g6,cell_of au,Value.cells]);exact ⟨congrArg _ (by rw [ho];rfl),ru⟩
   | false=>
    rw [h2] at g4 ho;cases h4:e.name.toList == ByteArray.toList ⟨#[]⟩ with
    | false=>
     rw [aR,h4] at ho;(try simp only [go_sem,simprocAttr,g1,g4,g5,g6,cell_of au,Value.cells,h4]);exact ⟨congrArg _ (by rw [ho];rfl),ru⟩
    | true=>
     rw [aR,h4] at ho;cases h3:fR e.kind with
     | true=>
      rw [h3] at g5 ho;(try simp only [go_sem,simprocAttr,g1,g4,g5,g6,cell_of au,Value.cells,h4]);exact ⟨congrArg _ (by rw [ho];rfl),ru⟩
     | false=>
      rw [h3] at g5 ho;(try simp only [go_sem,simprocAttr,g1,g4,g5,g6,cell_of au,Value.cells,h4]);exact ⟨congrArg _ (by rw [ho];rfl),ru⟩
end
section
open Go Go.W
instance:Inhabited Ty:=⟨.mk 0 bD []⟩
mutual
def dW (ps:List ByteArray) (rK:List Ty):Ty→Int→Ty×Int
 | .mk k n l,left=>match (if k == 2 then jw ps n else none) with
  | some i=>(rK.getD i default,Wr (left - (rK.getD i default).size))
  | none=>(.mk k n (eY ps rK l (Wr (left - 1))).1,(eY ps rK l (Wr (left - 1))).2)
def eY (ps:List ByteArray) (rK:List Ty):List Ty→Int→List Ty×Int
 | [],left=>([],left)
 | t::l,left=>if left < 0 then ([],left) else ((dW ps rK t left).1::(eY ps rK l (dW ps rK t left).2).1,(eY ps rK l (dW ps rK t left).2).2)
end
theorem I8 {ps:List ByteArray} {bs:List Ty} {t:Ty} {left:Int} {i:Nat} (hk:(t.kind == 2)=true) (hi:jw ps t.name=some i):dW ps bs t left=(bs.getD i default,Wr (left - (bs.getD i default).size)):=by
 cases t with | mk k n l=>
 simp only [Ty.kind,Ty.name] at hk hi;rw [dW,if_pos hk,hi]
theorem I9 {ps:List ByteArray} {bs:List Ty} {t:Ty} {left:Int} (h:(t.kind == 2)=false∨jw ps t.name=none):dW ps bs t left=(.mk t.kind t.name (eY ps bs t.args (Wr (left - 1))).1,(eY ps bs t.args (Wr (left - 1))).2):=by
 cases t with | mk k n l=>
 simp only [Ty.kind,Ty.name,Ty.args] at h ⊢;rw [dW];rcases h with h | h
 ·rw [if_neg (by rw [h];simp)]
 ·rw [h];split<;>rename_i h2<;>first | rfl | (split at h2<;>cases h2)
theorem aaT {ps:List ByteArray} {bs:List Ty} {l:List Ty} {i:Nat} (hi:i < l.length) (left:Int):eY ps bs (l.drop i) left=if left < 0 then ([],left) else ((dW ps bs l[i] left).1::(eY ps bs (l.drop (i+1)) (dW ps bs l[i] left).2).1,(eY ps bs (l.drop (i+1)) (dW ps bs l[i] left).2).2):=by
 rw [List.drop_eq_getElem_cons hi,eY]
theorem O3 {l:List ByteArray} {s:ByteArray} {i:Nat} (h:jw l s=some i):i < l.length:=by
 rw [jw,List.findIdx?_eq_some_iff_getElem] at h;exact h.1
theorem O4 {w:World} {S:Nat→Prop} {v:Value} {rows:List (List Value)} {fp:Option Nat} {l:List Ty} (ho:dE w dQ 3 v (rows.flatMap id) rows.length fp) (A9:∀ b,fp=some b→Out S w b) (hl:rows.length=l.length) (hb:rows.length≤1099511627776)
   (he:∀ (i:Nat) (r:List Value) (t:Ty),rows[i]? = some r→l[i]? = some t→aX w (Out S w) r t) (k:Int) (n:ByteArray):aX w (Out S w) [I k,.string n,v] (.mk k n l):=by
 have hr:∀ r∈rows,r.length=3:=fun r hr=>by
  obtain ⟨i,hi,rfl⟩:=List.getElem_of_mem hr;exact (he i _ _ (List.getElem?_eq_getElem hi) (List.getElem?_eq_getElem (by omega))).len
 exact .mk ⟨(AZ ho hr).mod (.refl (fun _=>False) w) aC A9,hb⟩ hl he
theorem Ba (rows:List (List Value)) (r:List Value):(rows++[r]).flatMap id=rows.flatMap id++r:=by simp
theorem aaU {w:World} {B:Nat→Prop} {rows:List (List Value)} {l:List Ty} {r:List Value} {t:Ty} (hl:rows.length=l.length) (he:∀ (i:Nat) (r:List Value) (t:Ty),rows[i]? = some r→l[i]? = some t→aX w B r t) (hr:aX w B r t) :
   ∀ (i:Nat) (r':List Value) (t':Ty),(rows++[r])[i]? = some r'→(l++[t])[i]? = some t'→aX w B r' t':=by
 intro i r' t' h1 h2;rcases Nat.lt_or_ge i rows.length with h | h
 ·rw [List.getElem?_append_left h] at h1;rw [List.getElem?_append_left (by omega)] at h2;exact he i _ _ h1 h2
 ·rw [List.getElem?_append_right h] at h1;rw [List.getElem?_append_right (by omega)] at h2;rcases Nat.eq_zero_or_pos (i - rows.length) with h0 | h0
  ·have O5:i - l.length=0:=by omega
   rw [h0] at h1;rw [O5] at h2;simp only [List.getElem?_cons_zero,Option.some.injEq] at h1 h2;subst h1 h2;exact hr
  ·rw [List.getElem?_eq_none (by simp;omega)] at h1;cases h1
theorem Bb {w:World} {v:Value} {sz i:Nat} {rows:List (List Value)} {B:Nat→Prop} (h:nG w v sz rows B) (hi:i < rows.length) :
   ∃ ad c,v = .slice (some ad) rows.length c∧fV w sz (.pointer (some (ad.add (i*sz))))=some (.agg rows[i].toArray):=by
 obtain ⟨ad,c,e,k1,k2⟩:=Dh h.1 hi;exact ⟨ad,c,e,qg k1 k2⟩
theorem b9 {a b c d:Nat} {x:Option Addr} {y:Option Addr} (h:Value.slice x a b=Value.slice y c d):x=y∧a=c∧b=d:=by cases h;exact ⟨rfl,rfl,rfl⟩
end
section
open Go Go.W
abbrev yN (w:World) (b:Nat) (n:Int):Prop:=w.heap[b]? = some (.cells #[I n] 3 (0,0))
structure wY (w:World) (S:Nat→Prop) (jX qo:Value) (ps:List ByteArray) (bs:List Ty):Prop where
 fW:aQ w jX 1 (Out S w) eP ps
 AU:aQ w qo 3 (Out S w) (aX w (Out S w)) bs
 hle:ps.length≤bs.length
theorem wY.ext {w w':World} {S S':Nat→Prop} {jX qo:Value} {ps:List ByteArray} {bs:List Ty} (h:wY w S jX qo ps bs) (hm:Mod S w w') (hs:∀ b,b < w.heap.size→S' b→S b):wY w' S' jX qo ps bs:=
 ⟨h.fW.up hm aM (eh hm hs) (fun _ _ h=>h),h.AU.up hm aM (eh hm hs) (fun _ _ h=>h.ext hm hs),h.hle⟩
abbrev RS (S:Nat→Prop) (b8 DC:Nat) (fp:Option Nat):Nat→Prop:=fun b=>S b∨b=b8∨b=DC∨fp=some b
structure O6 (w:World) (S:Nat→Prop) (lb b8 DC n0:Nat) (k0:Int) (nm:ByteArray) (w':World) (v:Value) (fp:Option Nat) (rows:List (List Value)) (lk:List Ty) (L:Int):Prop where
 mod:Mod (· = lb) w w'
 left:yN w' lb L
 out:w'.heap[DC]? = some (.cells [I k0,.string nm,v].toArray dQ (0,0))
 cm:w'.heap[b8]? = some (.cells cI.toArray dQ (0,0))
 own:dE w' dQ 3 v (rows.flatMap id) rows.length fp
 new:∀ b,fp=some b→n0≤b
 len:rows.length=lk.length
 ty:∀ (i:Nat) (r:List Value) (t:Ty),rows[i]? = some r→lk[i]? = some t→aX w' (Out (RS S b8 DC fp) w') r t
theorem aaV (t:Ty):∀ {w:World} {S:Nat→Prop} {cs:List Value} {jX qo:Value} {ps:List ByteArray} {bs:List Ty} {lb:Nat} {left:Int},aX w (Out S w) cs t→wY w S jX qo ps bs→S lb→(∀ b,S b→b < w.heap.size)→yN w lb left →
   ba Tryz.prog 99 [.agg cs.toArray,jX,qo,ptr lb] w fun r w'=>(∃ iW:List Value,r = .agg iW.toArray∧aX w' (Out S w') iW (dW ps bs t left).1)∧yN w' lb (dW ps bs t left).2∧Mod (· = lb) w w':=by
 induction t using Ty.ind with
 | h t ih=>
 intro w S cs jX qo ps bs lb left h fE wZ hS O7;obtain ⟨v,rfl,hl⟩:=h.cells;obtain ⟨a,c,rfl⟩:=a8 hl;obtain ⟨ab,cb,rfl⟩:=a8 fE.AU;have nK:=cC O7;refine Zq.calls rfl ?_;unfold Iy;(try simp only [go_sem,simprocAttr]);refine bB rfl ?_;intro w1 au ak bP;(try simp only [go_sem,simprocAttr]);refine cQ ?_;intro w2 aw ai bS;have au:=ai.at au _root_.id;have aY:=ak.trans ai;have Bc:yN w2 lb left:=aY.at O7 _root_.id;(try simp only [go_sem,simprocAttr,cell_of au,Value.cells]);refine aK (by rfl) ?_;refine (Z' (fE.ext (aj aY) (fun _ _ h=>h)).fW t.name).mono ?_;rintro _ _ ⟨rfl,rfl⟩;(try simp only [go_sem,simprocAttr,cell_of au,Value.cells]);refine AP (fun ρ w'=>w2=w'∧(((t.kind == 2)=true∧∃ i:Nat,jw ps t.name=some i∧ρ.get 9=some (I i)∧ρ.get 23=some (.bool true))∨(((t.kind == 2)=false∨jw ps t.name=none)∧ρ.get 23=some (.bool false)∧∃ n,ρ.get 9=some (I n)))∧ρ.get 1=some jX∧ρ.get 2=some (.slice ab bs.length cb)∧ρ.get 3=some (ptr lb)∧ρ.get 4=some (ptr w.heap.size)∧ρ.get 8=some (ptr w1.heap.size)) ?_ ?_
 ·cases hk:t.kind == 2 with
  | false=>(try simp only [go_sem,simprocAttr]);exact .inr ⟨_,rfl⟩
  | true=>
   cases hi:jw ps t.name with
   | none=>(try simp only [go_sem,simprocAttr]);exact .inr ⟨rfl,_,rfl⟩
   | some i=>
    have hge:decide ((i:Int)≥0)=true:=decide_eq_true (by omega);(try simp only [go_sem,simprocAttr,hge])
 rintro ρ _ ⟨rfl,tq,g1,g2,g3,g4,g8⟩;rcases tq with ⟨hk,i,hi,g9,g23⟩ | ⟨iG,g23,n9,g9⟩
 ·obtain ⟨rows,ku,lu,ej⟩:=fE.AU;have aP:i < bs.length:=Nat.lt_of_lt_of_le (O3 hi) fE.hle;have I':i < rows.length:=by omega
  have bz:aX w (Out S w) rows[i] bs[i]:=ej i _ _ (List.getElem?_eq_getElem I') (List.getElem?_eq_getElem aP);obtain ⟨ad,cc,e,bQ⟩:=Bb (ku.up aY aC (fun _ h=>h)) I';obtain ⟨rfl,-,rfl⟩:=b9 e;have b1:(0:Int)≤i∧(i:Int) < bs.length:=by omega
  have hd:bs.getD i default=bs[i]:=by simp [List.getD,aP]
  (try simp only [go_sem,simprocAttr,bq,br,g1,g2,g3,g4,g8,g9,g23,cell_of Bc,b1,bQ,ci]);refine aK (by rfl) ?_;refine (yF bs[i] (bz.mod aY.drew aC)).mono ?_;rintro _ w3 ⟨rfl,ar⟩;have ar:=ar.ez;have aaW:yN w3 lb left:=ar.at Bc _root_.id;(try simp only [go_sem,simprocAttr]);refine ⟨ar.bY _ (cC Bc) _root_.id,?_⟩;refine fF (cs:=[I left]) rfl rfl aaW rfl (by simp) ?_;intro w4 aZ aA eA;have eG:Mod (· = lb) w w4:=((aj (aY.trans ar)).trans aA);have hB:∀ b,Out S w b→¬ b=lb:=fun b hb e=>hb.2 (e ▸ wZ)
  obtain ⟨Di,cc',e',aaX⟩:=Bb (ku.up eG hB (fun _ h=>h)) I';obtain ⟨e1,-,rfl⟩:=b9 e';cases e1;(try simp only [go_sem,simprocAttr,bq,br,b1,aaX]);have AS:w.heap.size < w1.heap.size:=by omega
  have aw:=aA.at (ar.at aw _root_.id) (by omega);refine bN (cs:=cI) rfl rfl aw bz.len rfl bz.one ?_;intro w5 bT aD eB;(try simp only [go_sem,simprocAttr,aE,RV.ev,az (n:=3) bT bz.len,aF]);rw [I8 hk hi,hd];have eS:Mod (· = lb) w w5:=eG.step aD (fun x hx hl=>by omega);exact ⟨⟨_,rfl,bz.up eS hB (aU (eS.aT (fun b hb=>by subst hb;exact wZ)))⟩,aD.at aZ (by omega),eS⟩
 ·have aaY:dW ps bs t left=_:=I9 iG;(try simp only [go_sem,simprocAttr,g1,g2,g3,g4,g8,g9,g23,cell_of Bc]);refine fF (cs:=[I left]) rfl rfl Bc rfl (by simp) ?_;intro w3 aO ar eR;have AS:w.heap.size < w1.heap.size:=by omega
  have au:=ar.at au (by omega);have aw:=ar.at aw (by omega);(try simp only [go_sem,simprocAttr,cell_of au,Value.cells]);refine di (n:=3) (vs:=fZ t.kind t.name) rfl rfl (nO _ _) ?_;intro w4 aZ aA eA;have au:=aA.at au _root_.id;have aw:=aA.at aw _root_.id;have aO:=aA.at aO _root_.id;have eG:Mod (· = lb) w w4:=(aj aY).trans (ar.trans (aj aA));(try simp only [go_sem,simprocAttr,cell_of au,Value.cells]);have hz4:=eG.size;have Be:=ai.size;have bA:=ar.size;have aik:=cC aZ;have Ja:∀ b,S b→b < w.heap.size:=hS;have hlen:=du hl;refine td (fun ρ w'=>∃ v fp rows lk L,O6 w S lb w1.heap.size w3.heap.size w4.heap.size t.kind t.name w' v fp rows lk L∧rows.length≤t.args.length∧eY ps bs t.args (Wr (left - 1))=(lk,L)∧ρ.get 8=some (ptr w1.heap.size)∧ρ.get 10=some (ptr w3.heap.size)) ?_ ?_
  ·refine lZ (PP:=fun w'=>aX w' (Out S w)) (l:=t.args) (B:=Out S w) (fun k ρ w'=>k≤t.args.length∧(∃ v fp rows lk L,O6 w S lb w1.heap.size w3.heap.size w4.heap.size t.kind t.name w' v fp rows lk L∧rows.length≤k∧eY ps bs t.args (Wr (left - 1))=(lk++(eY ps bs (t.args.drop k) L).1,(eY ps bs (t.args.drop k) L).2))∧ρ=[(1,jX),(2,.slice ab bs.length cb),(3,ptr lb),(8,ptr w1.heap.size),(10,ptr w3.heap.size),(49,.slice a t.args.length c),(50,I t.args.length),(51,I k)])
    ⟨by omega,⟨.slice none 0 0,none,[],[],_,⟨eG,aO,aZ,aw,.nil _ _ _,(fun b h=>by cases h),rfl,(fun i r t h=>by simp at h)⟩,by simp,rfl⟩,rfl⟩ hl ?_ (fun _ _ _ h=>h.one) rfl ?_ ?_
   ·rintro k _ w5 ⟨hk,⟨v,fp,rows,lk,L,hi,_⟩,rfl⟩;exact ⟨⟨hl.mod hi.mod (fun b hb e=>hb.2 (e ▸ wZ)) (fun _ _ h=>h.mod hi.mod (fun b hb e=>hb.2 (e ▸ wZ))),hk⟩,rfl,rfl,rfl⟩
   ·rintro k _ w5 hk w6 r Jb pv ⟨_,⟨v,fp,rows,lk,L,hi,yO,rL⟩,rfl⟩ hr bV pn aJ ail;have Jc:=aJ.at hi.left _root_.id;rw [aaT hk] at rL;(try simp only [go_sem,simprocAttr,cell_of Jc]);cases O8:decide (L < 0) with
    | true=>
     have Jd:=of_decide_eq_true O8;rw [if_pos Jd,List.append_nil] at rL;(try simp only [go_sem,simprocAttr]);refine ⟨v,fp,rows,lk,L,⟨hi.mod.trans (aj aJ),Jc,aJ.at hi.out _root_.id,aJ.at hi.cm _root_.id,hi.own.mod aJ (fun _ _ h=>h),hi.new,hi.len,fun i r t h1 h2=>(hi.ty i r t h1 h2).aB (aj aJ)⟩,by omega,rL⟩
    | false=>
     have Jd:=of_decide_eq_false O8;rw [if_neg Jd] at rL;have Bf:=aJ.at hi.out _root_.id;obtain ⟨av,cv,rfl,_,_⟩:=hi.own.val;(try simp only [go_sem,simprocAttr,cell_of Bf,az (n:=3) pn bV,ci]);refine aK (by rfl) ?_;have iV:Mod (· = lb) w w6.drew:=(hi.mod.trans (aj aJ)).drew;have O9:=hi.own.mod aJ.drew (fun _ _ h=>h);have Je:∀ b,RS S w1.heap.size w3.heap.size fp b→b < w6.drew.heap.size:=fun b hb=>by
      rcases hb with h | h | h | h
      ·have:=hS b h;have:=iV.size;omega
      ·have:=cC hi.cm;have:=aJ.size;have e:w6.drew.heap.size=w6.heap.size:=rfl;omega
      ·have:=cC Bf;have e:w6.drew.heap.size=w6.heap.size:=rfl;omega
      ·exact O9.lt h
     have yP:∀ b,b < w.heap.size→RS S w1.heap.size w3.heap.size fp b→S b:=fun b hb h=>by
      rcases h with h | h | h | h
      ·exact h
      ·omega
      ·omega
      ·have:=hi.new b h;omega
     have O':Mod S w w6.drew:=iV.aT (fun b hb=>by subst hb;exact wZ);refine (ih _ (List.getElem_mem hk) (S:=RS S w1.heap.size w3.heap.size fp) (hr.up (aJ.drew) aC (eh O' yP)) (fE.ext O' yP) (.inl wZ) Je Jc).mono ?_;rintro _ w7 ⟨⟨iW,rfl,DD⟩,jW,aL⟩;have Jf:lb≠w3.heap.size:=by omega
     have aim:lb≠w1.heap.size:=by omega
     have jy:Mod (· = lb) w6 w7:=aL.ez;have Pa:=jy.at Bf (fun e=>Jf e.symm);have iX:∀ b,fp=some b→¬ b=lb:=fun b hb e=>by have:=hi.new b hb;omega
     have aaZ:=O9.mod aL iX;(try simp only [go_sem,simprocAttr]);refine ⟨by rw [jy.bY _ (cC Bf) (fun e=>Jf e.symm)],?_⟩;refine fG (cs:=iW.toArray) rfl ?_ ?_
     ·(try simp only [go_sem,simprocAttr,DD.len])
     intro w8 cO bh mP;(try simp only [go_sem,simprocAttr]);refine ⟨by rw [bh.bY _ (cC Pa) _root_.id,jy.bY _ (cC Bf) (fun e=>Jf e.symm)],?_⟩;have lu:rows.length≤1099511627776:=by
      obtain ⟨rw0,Jg,aa0,_⟩:=hl;have:=Jg.2;omega
     have eV:=oz cO;rw [DD.len] at eV;refine rD (m:=1) (news:=iW) rfl (aaZ.mod bh (fun _ _ h=>h)) rfl (fun h=>by cases h) eV DD.one rfl (by omega) (by omega) ?_;intro v9 w9 rM Pb aV Bg;have oI:Mod (fun b=>fp=some b) w8 w9:=aV;have aa1:=bh.at Pa _root_.id;have aa2:=aV.at aa1 (fun h=>by have:=hi.new _ h;omega);obtain ⟨av9,cv9,rfl,_,_⟩:=Pb.val;(try simp only [go_sem,simprocAttr]);refine fF rfl rfl aa2 rfl (by simp) ?_;intro cV ff bE qp;have hz6:=aJ.size;have hz7:=jy.size;have hz9:=aV.size;have hzi:=hi.mod.size;have z5:=cC hi.out;have Pc:∀ b,rM=some b→w4.heap.size≤b:=fun b hb=>by
      rcases Bg b hb with h | ⟨h,_⟩
      ·exact hi.new b h
      ·have:=hi.mod.size;omega
     have key:∀ (x:List Value) (u:Ty),aX w7 (Out (RS S w1.heap.size w3.heap.size fp) w7) x u→aX cV (Out (RS S w1.heap.size w3.heap.size rM) cV) x u:=fun x u h=>by
      have h8:=h.aB (aj bh)
      have h9:aX w9 (Out (RS S w1.heap.size w3.heap.size rM) w9) x u:=h8.up aV (fun b hb hf=>hb.2 (.inr (.inr (.inr hf)))) (fun b hb=>⟨by omega,fun hh=>by
       rcases hh with h | h | h | h
       ·exact hb.2 (.inl h)
       ·exact hb.2 (.inr (.inl h))
       ·exact hb.2 (.inr (.inr (.inl h)))
       ·rcases Bg b h with h | ⟨h,_⟩
        ·exact hb.2 (.inr (.inr (.inr h)))
        ·have:=hb.1;omega⟩)
      exact h9.aB (bE.aT (fun b hb=>.inr (.inr (.inl hb))))
     have nJ:Mod (· = lb) w w9:=(((hi.mod.trans (aj aJ)).trans jy).trans (aj bh)).step aV (fun b h aP=>by have:=hi.new b h;omega);have aa3:Mod (· = lb) w cV:=nJ.step bE (fun b h aP=>by omega);have Pd:yN cV lb (dW ps bs t.args[k] L).2:=bE.at (aV.at (bh.at jW _root_.id) (fun h=>by have:=hi.new _ h;omega)) (by omega);have oJ:=aJ.at hi.cm _root_.id;have xb:=bE.at (aV.at (bh.at (jy.at oJ (by omega)) _root_.id) (fun h=>by have:=hi.new _ h;omega)) (by omega);refine ⟨hk,⟨_,rM,rows++[iW],lk++[(dW ps bs t.args[k] L).1],_,⟨aa3,Pd,ff,xb,?_,Pc,by simp [hi.len],aaU hi.len (fun i x u h1 h2=>key x u ?_) (key _ _ ?_)⟩,by simp;omega,?_⟩⟩
     ·rw [Ba,List.length_append];exact Pb.mod bE (fun b hb e=>by subst e;have:=Pc _ hb;omega)
     ·exact ((hi.ty i x u h1 h2).aB (aj aJ.drew)).aB (aL.aT (fun b hb=>by subst hb;exact .inl wZ))
     ·exact DD
     ·rw [rL,List.append_assoc];rfl
   ·rintro _ w5 ⟨_,⟨v,fp,rows,lk,L,hi,yO,rL⟩,rfl⟩;rw [List.drop_length,eY,List.append_nil] at rL;(try simp only [go_sem,simprocAttr]);exact ⟨v,fp,rows,lk,L,hi,yO,rL⟩
  ·rintro ρ w5 ⟨v,fp,rows,lk,L,hi,yO,rL,g8,g10⟩;have lu:rows.length≤1099511627776:=by
    obtain ⟨rw0,Jg,aa0,_⟩:=hl;have:=Jg.2;omega
   have hzi:=hi.mod.size
   have bz:=O4 (S:=RS S w1.heap.size w3.heap.size none) hi.own (fun b hb=>⟨hi.own.lt hb,fun hh=>by
    have:=hi.new b hb;rcases hh with h | h | h | h
    ·have:=hS b h;omega
    ·omega
    ·omega
    ·cases h⟩) hi.len lu (fun i r t h1 h2=>(hi.ty i r t h1 h2).sub (fun b hb=>by
     rcases hb with h | h | h | h
     ·exact .inl h
     ·exact .inr (.inl h)
     ·exact .inr (.inr (.inl h))
     ·cases h)) t.kind t.name
   (try simp only [go_sem,simprocAttr,g8,g10,az (n:=3) hi.out rfl]);refine bN (cs:=cI) g8 rfl hi.cm rfl rfl bz.one ?_;intro w6 bU aJ fY;(try simp only [go_sem,simprocAttr,aE,RV.ev,az (n:=3) bU rfl,aF]);rw [aaY,rL];refine ⟨⟨_,rfl,bz.up aJ (fun b hb e=>hb.2 (.inr (.inl e))) (fun b hb=>⟨by have:=hb.1;omega,fun h=>hb.2 (.inl h)⟩)⟩,aJ.at hi.left (by omega),hi.mod.step aJ (fun x hx hl=>by omega)⟩
def eL (ps:List ByteArray) (bs:List Ty) (t:Ty):Ty×Int:=dW ps bs t 500
theorem Jh (t:Ty) {w:World} {S:Nat→Prop} {cs:List Value} {jX qo:Value} {ps:List ByteArray} {bs:List Ty} (h:aX w (Out S w) cs t) (fE:wY w S jX qo ps bs) (hS:∀ b,S b→b < w.heap.size) :
   ba Tryz.prog 86 [.agg cs.toArray,jX,qo] w fun r w'=>(∃ iW:List Value,r = .tuple #[.agg iW.toArray,.bool (decide ((eL ps bs t).2≥0))]∧aX w' (Out S w') iW (eL ps bs t).1)∧Mod (fun _=>False) w w':=by
 refine Y6.calls rfl ?_;unfold Ik;(try simp only [go_sem,simprocAttr]);refine bB rfl ?_;intro w1 au ak bP;(try simp only [go_sem,simprocAttr]);refine cQ ?_;intro w2 aw ai bS;(try simp only [go_sem,simprocAttr]);refine cQ ?_;intro w3 aO ar eR;(try simp only [go_sem,simprocAttr]);refine fF (cs:=[I 0]) rfl rfl aO rfl (by simp) ?_;intro w4 aZ aA eA;have nN:Mod (fun _=>False) w2 w4:=ar.step aA (fun x hx hl=>by omega);have au:=nN.at (ai.at au _root_.id) _root_.id;have aw:=nN.at aw _root_.id;have eG:=ak.trans (ai.trans nN);have z1:=ak.size;have z2:=ai.size;(try simp only [go_sem,simprocAttr,az (n:=3) (cs:=cs) au h.len]);refine aK (by rfl) ?_;have hs:∀ b,b < w.heap.size→(S b∨b=w2.heap.size∨b=w1.heap.size)→S b:=fun b hb h=>by
  rcases h with h | h | h
  ·exact h
  ·omega
  ·omega
 refine (aaV t (S:=fun b=>S b∨b=w2.heap.size∨b=w1.heap.size) (h.ext (aj eG) hs) (fE.ext (aj eG) hs) (.inr (.inl rfl)) (fun b hb=>by
  rcases hb with h | h | h
  ·have:=hS b h;omega
  ·omega
  ·omega) aZ).mono ?_
 rintro _ w5 ⟨⟨iW,rfl,bz⟩,wP,aD⟩;have aw:=aD.at aw (by omega);(try simp only [go_sem,simprocAttr]);refine di (n:=3) (vs:=iW) rfl bz.len bz.one ?_;intro w6 bU aJ fY;have DE:=aJ.at wP _root_.id;have aw:=aJ.at aw _root_.id;(try simp only [go_sem,simprocAttr,az (n:=3) bU bz.len,cell_of DE,ci]);have z5:=aD.size;refine bN (w:=w6.drew) (cs:=cI) rfl rfl aw bz.len rfl bz.one ?_;intro w7 cH aL iL;have aL:Mod (· = w1.heap.size) w6 w7:=aL.ez;have aa4:=(bz.aB (aj aJ)).aB (aL.aT (fun b hb=>.inr (.inr hb)));(try simp only [go_sem,simprocAttr,aE,RV.ev,az (n:=3) cH bz.len,aF]);refine ⟨aL.bY _ (cC DE) (by omega),?_⟩;exact ⟨⟨iW,rfl,aa4.sub (fun b hb=>.inl hb)⟩,((eG.step aD (fun x hx hl=>by omega)).trans aJ).step aL (fun x hx hl=>by omega)⟩
end
section
open Go Go.W
structure Env where
 aG:List (ByteArray×Dt)
 cons:List (ByteArray×(Dt×Nat))
 an:List (ByteArray×Df)
 params:List (ByteArray×Int)
abbrev bI:=List (ByteArray×Int)
abbrev Loc:=List (ByteArray×Ty)
def has (l:bI) (s:ByteArray):Bool:=decide ((aI l s).getD 0 > 0)
def dm (E:Env) (n:ByteArray) (len:Nat):Bool:=match aI E.aG n with
 | none=>true
 | some d=>(d.params.length:Int) != len
mutual
def Ty.fits (E:Env):Ty→Bool
 | .mk k n l=>if k == 2 then has E.params n else if k == 4 then (if dm E n l.length then false else po E l) else po E l
def po (E:Env):List Ty→Bool
 | []=>true
 | t::l=>t.fits E&&po E l
end
theorem Ty.Ji (E:Env) (t:Ty):t.fits E=if t.kind == 2 then has E.params t.name else if t.kind == 4 then (if dm E t.name t.args.length then false else po E t.args) else po E t.args:=by cases t;rw [Ty.fits];rfl
theorem Jj (E:Env) (l:List Ty):po E l=l.all (Ty.fits E):=by
 induction l with
 | nil=>rfl
 | cons t l ih=>rw [po,ih,List.all_cons]
def fg (E:Env) (t:Ty):Bool:=(mN t == 0)&&t.fits E
def ik (E:Env) (t:Ty) (ps:List ByteArray) (at':List Ty):Except Int Ty:=
 if ((ps.length:Int) != at'.length)=true then .error 83
 else if at'.all (fg E)=false then .error 83
 else if (eL ps at' t).2≥0 then .ok (eL ps at' t).1 else .error 83
def xc (s:ByteArray):Ty:=.mk 2 s []
def nP (d:Dt):Ty:=.mk 4 d.name (d.params.map xc)
def de (d:Dt) (i:Nat):List Ty:=(d.cons.map Cn.fields).getD i []
def qq (d:Dt) (i:Nat):Ty:=(de d i).foldr jV (nP d)
end
section
open Go Go.W
def fT (w:World) (B:Nat→Prop) (a:Addr) (cs:List Value):Prop:=B a.block∧∀ k (hk:k < cs.length),w.cell? (a.add k)=some cs[k]
section
variable {w w':World} {B B' S S':Nat→Prop} {a:Addr} {cs:List Value}
theorem fT.up (h:fT w B a cs) (hm:Mod S w w') (hd:∀ b,B b→¬ S b) (hB:∀ b,B b→B' b):fT w' B' a cs:=
 ⟨hB _ h.1,fun k hk=>hm.cell (h.2 k hk) (by rw [sN];exact hd _ h.1)⟩
theorem fT.c0 (h:fT w B a cs) (hk:0 < cs.length):w.cell? a=some cs[0]:=by have:=h.2 0 hk;rwa [add_zero'] at this
theorem fT.at (h:fT w B a cs) {k:Nat} (hk:k < cs.length) (h0:k≠0:=by decide):w.cell? ⟨a.block,a.off+k,none⟩=some cs[k]:=by have:=h.2 k hk;rwa [add_pos _ h0] at this
theorem fT.ln (h:fT w B a cs) {o n:Nat} (hn:o+n≤cs.length) (h0:o≠0:=by decide):fV w n (.pointer (some ⟨a.block,a.off+o,none⟩))=some (.agg ((cs.drop o).take n).toArray):=by
 have:=OD h.2 hn
 rwa [add_pos _ h0] at this
def qs (w:World) (B:Nat→Prop) (a:Addr) (d:Dt):Prop:=∃ cs,fT w B a cs∧gp w B cs d
def DF (w:World) (B:Nat→Prop) (a:Addr) (d:Df):Prop:=∃ cs,fT w B a cs∧jR w B cs d
theorem qs.up {d:Dt} (h:qs w B a d) (hm:Mod S w w') (hd:∀ b,B b→¬ S b) (hB:∀ b,B b→B' b):qs w' B' a d:=by
 obtain ⟨cs,h1,h2⟩:=h;exact ⟨cs,h1.up hm hd hB,h2.up hm hd hB⟩
theorem DF.up {d:Df} (h:DF w B a d) (hm:Mod S w w') (hd:∀ b,B b→¬ S b) (hB:∀ b,B b→B' b):DF w' B' a d:=by
 obtain ⟨cs,h1,h2⟩:=h;exact ⟨cs,h1.up hm hd hB,h2.up hm hd hB⟩
end
def tr (w:World) (B:Nat→Prop) (v:Value) (d:Dt):Prop:=∃ a,v = .pointer (some a)∧qs w B a d
def qt (w:World) (B:Nat→Prop) (v:Value) (x:Dt×Nat):Prop:=∃ a,v = .agg #[.pointer (some a),I x.2]∧qs w B a x.1∧x.2 < x.1.cons.length
def rN (w:World) (B:Nat→Prop) (v:Value) (d:Df):Prop:=∃ a,v = .pointer (some a)∧DF w B a d
def RI (v:Value) (n:Int):Prop:=v=I n
def rO (w:World) (B:Nat→Prop) (v:Value) (t:Ty):Prop:=∃ cs:List Value,v = .agg cs.toArray∧aX w B cs t
section
variable {w w':World} {B B' S:Nat→Prop} {v:Value}
theorem tr.up {d:Dt} (h:tr w B v d) (hm:Mod S w w') (hd:∀ b,B b→¬ S b) (hB:∀ b,B b→B' b):tr w' B' v d:=by
 obtain ⟨a,e,h⟩:=h;exact ⟨a,e,h.up hm hd hB⟩
theorem qt.up {d:Dt×Nat} (h:qt w B v d) (hm:Mod S w w') (hd:∀ b,B b→¬ S b) (hB:∀ b,B b→B' b):qt w' B' v d:=by
 obtain ⟨a,e,h,hi⟩:=h;exact ⟨a,e,h.up hm hd hB,hi⟩
theorem rN.up {d:Df} (h:rN w B v d) (hm:Mod S w w') (hd:∀ b,B b→¬ S b) (hB:∀ b,B b→B' b):rN w' B' v d:=by
 obtain ⟨a,e,h⟩:=h;exact ⟨a,e,h.up hm hd hB⟩
theorem rO.up {d:Ty} (h:rO w B v d) (hm:Mod S w w') (hd:∀ b,B b→¬ S b) (hB:∀ b,B b→B' b):rO w' B' v d:=by
 obtain ⟨cs,e,h⟩:=h;exact ⟨cs,e,h.up hm hd hB⟩
end
structure Ms where
 c:Nat
 md:Nat
 mc:Nat
 mf:Nat
 mp:Nat
 mb:Nat
 ml:Nat
def Ms.list (M:Ms):List Nat:=[M.c,M.md,M.mc,M.mf,M.mp,M.mb,M.ml]
abbrev Ms.cells (M:Ms):List Value:=[.map (some M.md),.map (some M.mc),.map (some M.mf),.map (some M.mp),.bool false,.map (some M.mb),.map (some M.ml)]
abbrev Pe:Nat:=129
structure bL (w:World) (S:Nat→Prop) (M:Ms) (E:Env) (bd:bI) (lc:Loc):Prop where
 box:w.heap[M.c]? = some (.cells M.cells.toArray Pe (0,0))
 nodup:M.list.Nodup
 bt:∀ b∈M.list,S b
 lt:∀ b,S b→b < w.heap.size
 aG:cD w M.md (tr w (Out S w)) E.aG
 cons:cD w M.mc (qt w (Out S w)) E.cons
 an:cD w M.mf (rN w (Out S w)) E.an
 params:cD w M.mp RI E.params
 gx:cD w M.mb RI bd
 locals:cD w M.ml (rO w (Out S w)) lc
theorem Ms.ne {M:Ms} (h:M.list.Nodup):(M.c≠M.md∧M.c≠M.mc∧M.c≠M.mf∧M.c≠M.mp∧M.c≠M.mb∧M.c≠M.ml)∧(M.md≠M.mc∧M.md≠M.mf∧M.md≠M.mp∧M.md≠M.mb∧M.md≠M.ml)∧(M.mc≠M.mf∧M.mc≠M.mp∧M.mc≠M.mb∧M.mc≠M.ml)∧(M.mf≠M.mp∧M.mf≠M.mb∧M.mf≠M.ml)∧(M.mp≠M.mb∧M.mp≠M.ml)∧M.mb≠M.ml:=by
 simp only [Ms.list,List.nodup_cons,List.mem_cons,List.not_mem_nil,or_false,not_or,not_false_eq_true,List.nodup_nil,and_true] at h;exact h
abbrev Ms.two (M:Ms):Nat→Prop:=fun b=>b=M.mb∨b=M.ml
theorem bL.gd {w w':World} {S:Nat→Prop} {M:Ms} {E:Env} {bd dG:bI} {lc gy:Loc} (h:bL w S M E bd lc) (hm:Mod M.two w w') (h1:cD w' M.mb RI dG) (h2:cD w' M.ml (rO w' (Out S w')) gy):bL w' S M E dG gy:=by
 obtain ⟨⟨a1,a2,a3,a4,a5,a6⟩,⟨b1,b2,b3,b4,b5⟩,⟨c1,c2,c3,c4⟩,⟨d1,d2,d3⟩,⟨e1,e2⟩,f1⟩:=Ms.ne h.nodup;have hS:∀ b,M.two b→S b:=fun b hb=>by
  rcases hb with rfl | rfl
  ·exact h.bt _ (by simp [Ms.list])
  ·exact h.bt _ (by simp [Ms.list])
 have bC:Mod S w w':=hm.aT hS;have no:∀ {x:Nat},x≠M.mb→x≠M.ml→¬ M.two x:=fun h1 h2 h=>by rcases h with h | h;exact h1 h;exact h2 h
 exact ⟨hm.at h.box (no a5 a6),h.nodup,h.bt,fun b hb=>Nat.lt_of_lt_of_le (h.lt b hb) hm.size,
  h.aG.mod hm (no b4 b5) (fun _ _ x=>x.up bC aM (aU bC)),h.cons.mod hm (no c3 c4) (fun _ _ x=>x.up bC aM (aU bC)),
  h.an.mod hm (no d2 d3) (fun _ _ x=>x.up bC aM (aU bC)),h.params.mod hm (no e1 e2) (fun _ _ x=>x),h1,h2⟩
theorem cD.ty {w w':World} {S S':Nat→Prop} {b:Nat} {lc:Loc} (h:cD w b (rO w (Out S w)) lc) (hm:Mod S' w w') (hs:∀ b,S' b→S b) (hb:¬ S' b):cD w' b (rO w' (Out S w')) lc:=
 cD.mod h hm hb (fun _ _ x=>x.up (hm.aT hs) aM (aU (hm.aT hs)))
theorem bL.aB {w w':World} {S:Nat→Prop} {M:Ms} {E:Env} {bd:bI} {lc:Loc} (h:bL w S M E bd lc) (hm:Mod (fun _=>False) w w'):bL w' S M E bd lc:=
 h.gd (aj hm) (h.gx.mod hm _root_.id (fun _ _ x=>x)) (h.locals.ty hm (fun _ h=>h.elim) _root_.id)
theorem bL.two {w:World} {S:Nat→Prop} {M:Ms} {E:Env} {bd:bI} {lc:Loc} (h:bL w S M E bd lc):∀ b,M.two b→S b:=fun b hb=>by
 rcases hb with rfl | rfl
 ·exact h.bt _ (by simp [Ms.list])
 ·exact h.bt _ (by simp [Ms.list])
section
variable {P:Program} {w:World} {ρ:Go.W.Env} {K:Go.W.Env→World→Prop} {rd:List (Nat×Nat)} {i s:Nat} {d:Option Nat} {e:Go.W.E} {fl:List Nat} {t:D}
@[go_sem] theorem ain (h:ρ.get s=some (.bool true)):df P (.e i (some (s,true)) d e fl t) ρ w rd K=(e.wp P w ρ fun v w'=>kS fl w w' rd∧df P t (ρ.put d v) w' rd K):=by simp [df,h,fw,undef]
@[go_sem] theorem aio (h:ρ.get s=some (.bool false)):df P (.e i (some (s,false)) d e fl t) ρ w rd K=(e.wp P w ρ fun v w'=>kS fl w w' rd∧df P t (ρ.put d v) w' rd K):=by simp [df,h,fw,undef]
@[go_sem] theorem aip (h:ρ.get s=some (.bool true)):df P (.e i (some (s,false)) d e fl t) ρ w rd K=df P t (ρ.put d undef) w rd K:=by simp [df,h,fw,undef]
@[go_sem] theorem aiq (h:ρ.get s=some (.bool false)):df P (.e i (some (s,true)) d e fl t) ρ w rd K=df P t (ρ.put d undef) w rd K:=by simp [df,h,fw,undef]
end
section
variable {P:Program} {w:World} {ρ:W.Env} {K:Value→World→Prop} {α:Type} {R:Value→α→Prop} {l:List (ByteArray×α)} {b:Nat} {k:ByteArray} {t kt et:TypeId} {m x y:Operand} {d:Option Nat} {ty:TypeId} {pos:String} {af:Array Edge}
theorem Bh (hm:(bn m).ev ρ=some (.map (some b))) (hx:(bn x).ev ρ=some (.string k)) (ht:P.underlying t=some (.map kt et)) (gU:P.underlying kt=some .string)
   {z:Value} (hz:(zeroValue et).run P w = .ok z w) (h:cD w b R l) (h0:aI l k=none→K (.tuple #[z,.bool false]) w) (h1:∀ v a,aI l k=some a→R v a→K (.tuple #[v,.bool true]) w):E.wp P w ρ K (.raw ⟨d,.lookup t m x true,ty,pos,af,none⟩):=by
 obtain ⟨lv,hv,hp⟩:=h;refine GN hm hx ht gU hz hv ?_;rcases hp.get k with ⟨e1,e2⟩ | ⟨v,a,e1,e2,hr⟩
 ·rw [e1];exact h0 e2
 ·rw [e1];exact h1 v a e2 hr
theorem me {v:Value} {a:α} (hm:(bn m).ev ρ=some (.map (some b))) (hx:(bn x).ev ρ=some (.string k)) (hy:(bn y).ev ρ=some v) (ht:P.underlying t=some (.map kt et)) (gU:P.underlying kt=some .string)
   (h:cD w b R l) (hr:R v a) (hk:∀ w',cD w' b R (bK l k a)→Mod (· = b) w w'→w'.heap.size=w.heap.size→K undef w'):E.wp P w ρ K (.raw ⟨d,.mapUpdate t m x y,ty,pos,af,none⟩):=by
 obtain ⟨lv,hv,hp⟩:=h;refine Ny hm hx hy ht gU hv ?_;intro w' lY fD dZ;exact hk w' ⟨_,lY,hp.put k hr⟩ fD dZ
theorem aa5 {at':Array TypeId} (fP:at'[0]? = some t) (hm:(bn m).ev ρ=some (.map (some b))) (hx:(bn x).ev ρ=some (.string k)) (ht:P.underlying t=some (.map kt et)) (gU:P.underlying kt=some (.string))
   (h:cD w b R l) (hk:∀ w',cD w' b R (gH l k)→Mod (· = b) w w'→w'.heap.size=w.heap.size→K (.tuple #[]) w'):E.wp P w ρ K (.raw ⟨d,.call { callee:=.builtin .delete,args:=#[m,x],argTypes:=at'},ty,pos,af,none⟩):=by
 obtain ⟨lv,hv,hp⟩:=h;refine WJ fP hm hx ht gU hv ?_;intro w' lY fD dZ;exact hk w' ⟨_,lY,hp.del k⟩ fD dZ
theorem pq {t:TypeId} (R:Value→α→Prop) (hk:∀ w',cD w' w.heap.size R ([]:List (ByteArray×α))→Mod (fun _=>False) w w'→w'.heap.size=w.heap.size+1→K (.map (some w.heap.size)) w') :
   E.wp P w ρ K (.raw ⟨d,.makeMap t none,ty,pos,af,none⟩):=
 Nw fun w' h1 h2 h3=>hk w' ⟨_,h1,.nil⟩ h2 h3
theorem xd {op:Op} {g:Option (Nat×Bool)} (h:E.wp P w ρ K (.raw ⟨d,op,ty,pos,af,none⟩)):E.wp P w ρ K (.raw ⟨d,op,ty,pos,af,g⟩):=h
theorem uL {l:bI} (hm:(bn m).ev ρ=some (.map (some b))) (hx:(bn x).ev ρ=some (.string k)) (ht:P.underlying t=some (.map kt et)) (gU:P.underlying kt=some .string)
   (hz:(zeroValue et).run P w = .ok (I 0) w) (h:cD w b RI l) (hk:K (I ((aI l k).getD 0)) w):E.wp P w ρ K (.raw ⟨d,.lookup t m x false,ty,pos,af,none⟩):=by
 obtain ⟨lv,hv,hp⟩:=h;refine Nx hm hx ht gU hz hv ?_;rcases hp.get k with ⟨e1,e2⟩ | ⟨v,a,e1,e2,hr⟩
 ·rw [e1];rw [e2] at hk;exact hk
 ·rw [e1];rw [e2] at hk;have:v=I a:=hr;rw [this];exact hk
end
end
section
open Go Go.W
theorem aa6 (d:Dt) (i:Nat) {w:World} {S:Nat→Prop} {a:Addr} (hp:qs w (Out S w) a d) (hi:i < d.cons.length) (hS:∀ b,S b→b < w.heap.size) :
   ba Tryz.prog 65 [.agg #[.pointer (some a),I i]] w fun r w'=>(∃ cs:List Value,r = .agg cs.toArray∧aX w' (Out S w') cs (qq d i))∧Mod (fun _=>False) w w':=by
 obtain ⟨cs,bJ,vp,vc,rfl,gg,gJ⟩:=hp;obtain ⟨ap,cp,rfl⟩:=a8 gg;obtain ⟨ac,cc,rfl⟩:=a8 gJ;refine YH.calls rfl ?_;unfold HY;(try simp only [go_sem,Nat.reduceAdd,Nat.reduceEqDiff,Nat.reduceLT,Nat.reduceLeDiff,Nat.reduceMul,reduceCtorEq,↓reduceIte]);refine bB rfl ?_;intro w1 au ak bP;(try simp only [go_sem,Nat.reduceAdd,Nat.reduceEqDiff,Nat.reduceLT,Nat.reduceLeDiff,Nat.reduceMul,reduceCtorEq,↓reduceIte]);refine cQ ?_;intro w2 aw ai bS;have au:=ai.at au _root_.id;have aY:=ak.trans ai;have yQ:=bJ.up aY aC (fun _ h=>h);have c1:w2.cell? ⟨a.block,a.off+1,none⟩=some (.slice ap d.params.length cp):=yQ.at (k:=1) (by simp);(try simp only [go_sem,Nat.reduceAdd,Nat.reduceEqDiff,Nat.reduceLT,Nat.reduceLeDiff,Nat.reduceMul,reduceCtorEq,↓reduceIte,cell_of au,Value.cells,c1]);have hlen:=du gg;refine eQ d.params.length (fun k ρ w'=>k≤d.params.length∧∃ v fp,dE w' dQ 3 v (((d.params.take k).map (fZ 2)).flatMap id) k fp∧(∀ b,fp=some b→w2.heap.size≤b)∧Mod (fun _=>False) w2 w'∧ρ=[(1,ptr w.heap.size),(2,ptr w1.heap.size),(3,v),(13,.slice ap d.params.length cp),(14,I d.params.length),(15,I k)])
  ⟨by omega,.slice none 0 0,none,.nil _ _ _,(fun b h=>by cases h),.refl _ _,rfl⟩ hlen ?_ ?_ (by decide) ?_
 ·rintro k _ w3 ⟨hk,v,fp,_,_,_,rfl⟩;exact ⟨rfl,rfl,hk⟩
 ·rintro k _ w3 ⟨_,v,fp,ho,hf,ar,rfl⟩ hk;obtain ⟨ad,c1,e,hn,hc⟩:=qi (gg.up (aY.trans ar) aC (fun _ h=>h) (fun _ _ h=>h)) hk;cases e;have b1:(0:Int)≤k∧(k:Int) < d.params.length:=by omega
  obtain ⟨av,cv,rfl,_,_⟩:=ho.val;(try simp only [go_sem,Nat.reduceAdd,Nat.reduceEqDiff,Nat.reduceLT,Nat.reduceLeDiff,Nat.reduceMul,reduceCtorEq,↓reduceIte,bq,br,b1,hc]);refine aK (by rfl) ?_;refine (DB _).mono ?_;rintro _ w4 ⟨rfl,aA⟩;(try simp only [go_sem,Nat.reduceAdd,Nat.reduceEqDiff,Nat.reduceLT,Nat.reduceLeDiff,Nat.reduceMul,reduceCtorEq,↓reduceIte]);refine fG (cs:=(fZ 2 d.params[k]).toArray) rfl rfl ?_;intro w5 bT aD eB;have eT:=aA.trans aD;(try simp only [go_sem,Nat.reduceAdd,Nat.reduceEqDiff,Nat.reduceLT,Nat.reduceLeDiff,Nat.reduceMul,reduceCtorEq,↓reduceIte]);have eN:d.params.length≤1099511627776:=by obtain ⟨r0,h1,h2,_⟩:=gg;have:=h1.2;omega
  refine rD (m:=1) (news:=fZ 2 d.params[k]) rfl (ho.mod eT (fun _ _ h=>h)) rfl (fun h=>by cases h) (oz bT) (nO _ _) rfl (by omega) (by omega) ?_;intro v6 w6 Pf A6 aJ Jk;(try simp only [go_sem,Nat.reduceAdd,Nat.reduceEqDiff,Nat.reduceLT,Nat.reduceLeDiff,Nat.reduceMul,reduceCtorEq,↓reduceIte]);have hz:=(ar.trans eT).size;refine ⟨hk,v6,Pf,?_,fun b hb=>?_,(ar.trans eT).step aJ (fun b hb hl=>by have:=hf b hb;omega),rfl⟩
  ·rw [List.take_succ_eq_append_getElem hk,List.map_append,List.flatMap_append]
   simpa using A6
  ·rcases Jk b hb with h | ⟨h,_⟩
   ·exact hf b h
   ·omega
 rintro _ w3 ⟨_,v,fp,ho,hf,ar,rfl⟩;rw [List.take_length] at ho;have bo:=aY.trans ar;have au:=ar.at au _root_.id;have aw:=ar.at aw _root_.id;have c3:w3.cell? a=some (.string d.name):=(bJ.up bo aC (fun _ h=>h)).c0 (by simp);have z2:=aY.size;have Ph:aX w3 (Out (fun b=>S b∨b=w1.heap.size) w3) [I 4,.string d.name,v] (nP d):=by
  have Au:dE w3 dQ 3 v ((d.params.map (fZ 2)).flatMap id) (d.params.map (fZ 2)).length fp:=by rw [List.length_map];exact ho
  refine O4 Au (fun b hb=>⟨ho.lt hb,fun h=>by have:=hf b hb;have:=ak.size;rcases h with h | h;have:=hS b h;omega;omega⟩) (by simp) ?_ ?_ 4 d.name
  ·obtain ⟨r0,h1,h2,_⟩:=gg;have:=h1.2;simp;omega
  ·intro j r t h1 h2;rw [List.getElem?_map] at h1 h2;cases hj:d.params[j]? with
   | none=>rw [hj] at h1;cases h1
   | some s=>
    rw [hj] at h1 h2;simp only [Option.map_some,Option.some.injEq] at h1 h2;subst h1 h2;exact nM _ _ _ _
 obtain ⟨av,cv,rfl,_,_⟩:=ho.val;(try simp only [go_sem,Nat.reduceAdd,Nat.reduceEqDiff,Nat.reduceLT,Nat.reduceLeDiff,Nat.reduceMul,reduceCtorEq,↓reduceIte,cell_of au,Value.cells,c3]);refine aK (by rfl) ?_;refine (I7 d.name (v:=.slice av d.params.length cv) rfl rfl).mono ?_;rintro _ w4 ⟨rfl,aA⟩;(try simp only [go_sem,Nat.reduceAdd,Nat.reduceEqDiff,Nat.reduceLT,Nat.reduceLeDiff,Nat.reduceMul,reduceCtorEq,↓reduceIte]);refine di (n:=3) (vs:=[I 4,.string d.name,.slice av d.params.length cv]) rfl rfl Ph.one ?_;intro w5 bT aD eB;have eT:=aA.trans aD;have eS:=bo.trans eT;have au:=eT.at au _root_.id;have aw:=eT.at aw _root_.id;have c5:w5.cell? ⟨a.block,a.off+2,none⟩=some (.slice ac d.cons.length cc):=(bJ.up eS aC (fun _ h=>h)).at (k:=2) (by simp);have Jl:=gJ.up eS aC (fun _ h=>h) (fun _ _ h=>h.mod eS aC);obtain ⟨adc,c2,r,e,⟨vf,rfl,iX,_⟩,_,_,lX⟩:=dL Jl hi;cases e;obtain ⟨af,cf,rfl⟩:=a8 iX;have b1:(0:Int)≤i∧(i:Int) < d.cons.length:=by omega
 have nQ:w5.cell? ((adc.add (i*2)).add 1)=some (.slice af d.cons[i].fields.length cf):=lX 1 (by simp);rw [add_pos _ (by decide)] at nQ;(try simp only [go_sem,Nat.reduceAdd,Nat.reduceEqDiff,Nat.reduceLT,Nat.reduceLeDiff,Nat.reduceMul,reduceCtorEq,↓reduceIte,bq,br,cell_of au,Value.cells,c5,b1,nQ]);have gR:de d i=d.cons[i].fields:=by simp [de,List.getD,hi]
 have z1:=ak.size;have z3:=ar.size;have z4:=aA.size;have e5:w5.drew.heap.size=w5.heap.size:=rfl;have nK:∀ b,Out S w b→¬ b=w4.heap.size:=fun b hb=>by have:=hb.1;omega
 have air:=du iX
 have aa7:∀ {w':World} {cs:List Value} {t:Ty},Mod S w w'→aX w' (Out S w) cs t→aX w' (Out (fun b=>S b∨b=w4.heap.size∨b=w1.heap.size) w') cs t:=fun hm h=>h.up (.refl (fun _=>False) _) aC (fun b hb=>⟨by have:=hb.1;have:=hm.size;omega,fun hh=>by
  rcases hh with h | h | h
  ·exact hb.2 h
  ·exact nK b hb h
  ·have:=hb.1;omega⟩)
 refine td (fun ρ w'=>(∃ cs:List Value,w'.heap[w4.heap.size]? = some (.cells cs.toArray dQ (0,0))∧aX w' (Out (fun b=>S b∨b=w4.heap.size∨b=w1.heap.size) w') cs (qq d i))∧w'.heap[w1.heap.size]? = some (.cells cI.toArray dQ (0,0))∧Mod (fun _=>False) w w'∧ρ.get 2=some (ptr w1.heap.size)∧ρ.get 6=some (ptr w4.heap.size)) ?_ ?_
 ·refine fx (fun m ρ w'=>m≤d.cons[i].fields.length∧Mod (· = w4.heap.size) w5 w'∧(∃ cs:List Value,w'.heap[w4.heap.size]? = some (.cells cs.toArray dQ (0,0))∧aX w' (Out (fun b=>S b∨b=w4.heap.size∨b=w1.heap.size) w') cs ((d.cons[i].fields.drop m).foldr jV (nP d)))∧w'.heap[w1.heap.size]? = some (.cells cI.toArray dQ (0,0))∧ρ=[(2,ptr w1.heap.size),(6,ptr w4.heap.size),(7,.slice af d.cons[i].fields.length cf),(8,I ((m:Int) - 1))]) d.cons[i].fields.length
   ⟨Nat.le_refl _,(Mod.refl _ _).drew,⟨_,bT,?_⟩,aw,?_⟩ ?_
  ·rw [List.drop_length];refine Ph.up eT.drew aC (fun b hb=>⟨by have:=hb.1;omega,fun hh=>?_⟩);rcases hh with h | h | h
   ·exact hb.2 (.inl h)
   ·have:=hb.1;omega
   ·exact hb.2 (.inr h)
  ·rw [dk (by omega) (by omega)]
  rintro m ρ w6 ⟨hm,aJ,⟨cs,bU,bz⟩,lj,rfl⟩;unfold Oj;cases m with
  | zero=>
   have hge:decide ((((0:Nat):Int) - 1)≥0)=false:=rfl;(try simp only [go_sem,Nat.reduceAdd,Nat.reduceEqDiff,Nat.reduceLT,Nat.reduceLeDiff,Nat.reduceMul,reduceCtorEq,↓reduceIte,hge]);have e:qq d i=(d.cons[i].fields.drop 0).foldr jV (nP d):=by rw [qq,gR];rfl
   rw [e];exact ⟨⟨cs,bU,bz⟩,lj,(eS).step aJ (fun b h hl=>by omega)⟩
  | succ m=>
   have hge:decide ((((m+1:Nat):Int) - 1)≥0)=true:=decide_eq_true (by omega);have em:((m+1:Nat):Int) - 1=(m:Int):=by omega
   rw [em] at hge ⊢;have aa8:decide ((m:Int)≥0)=true:=decide_eq_true (by omega);have tv:Mod S w w6:=(aj eS).step aJ (fun b h hl=>by omega);obtain ⟨DG,c3,rr,e,Bi,lu,aa9,_⟩:=dL (iX.up aJ nK (fun _ h=>h) (fun _ _ h=>h.up aJ nK (fun _ h=>h))) (show m < d.cons[i].fields.length by omega);cases e;have b1:(0:Int)≤m∧(m:Int) < d.cons[i].fields.length:=by omega
   have Pj:=bz.len;have ew:IntKind.i64.wrap ((m:Int) - 1)=(m:Int) - 1:=dk (by omega) (by omega);(try simp only [go_sem,Nat.reduceAdd,Nat.reduceEqDiff,Nat.reduceLT,Nat.reduceLeDiff,Nat.reduceMul,reduceCtorEq,↓reduceIte,aa8]);(try simp only [go_sem,Nat.reduceAdd,Nat.reduceEqDiff,Nat.reduceLT,Nat.reduceLeDiff,Nat.reduceMul,reduceCtorEq,↓reduceIte,bq,br,b1,aa9,ci,az (n:=3) bU Pj,ew]);refine aK (by rfl) ?_;have d6:Mod (fun _=>False) w6 w6.drew:=(Mod.refl _ _).drew;refine (O1 (S:=fun b=>S b∨b=w4.heap.size∨b=w1.heap.size) (fun b hb=>?_) ((aa7 tv Bi).aB (aj d6)) (bz.aB (aj d6))).mono ?_
   ·have e:w6.drew.heap.size=w6.heap.size:=rfl;have:=tv.size;have:=cC bU;have:=cC lj;rcases hb with h | h | h
    ·have:=hS b h;omega
    ·omega
    ·omega
   rintro _ w7 ⟨⟨cs2,rfl,Bj⟩,aL⟩;have aL:=aL.ez;(try simp only [go_sem,Nat.reduceAdd,Nat.reduceEqDiff,Nat.reduceLT,Nat.reduceLeDiff,Nat.reduceMul,reduceCtorEq,↓reduceIte]);refine bN (cs:=cs) rfl rfl (aL.at bU _root_.id) Bj.len Pj Bj.one ?_;intro w8 cO bh mP;(try simp only [go_sem,Nat.reduceAdd,Nat.reduceEqDiff,Nat.reduceLT,Nat.reduceLeDiff,Nat.reduceMul,reduceCtorEq,↓reduceIte,ew]);refine ⟨m,by omega,by omega,(aJ.trans (aj aL)).trans bh,⟨cs2,cO,?_⟩,bh.at (aL.at lj _root_.id) (by omega),rfl⟩;rw [List.drop_eq_getElem_cons (by omega),List.foldr_cons];exact Bj.aB (bh.aT (fun b hb=>.inr (.inl hb)))
 ·rintro ρ w6 ⟨⟨cs,bU,bz⟩,lj,aJ,g2,g6⟩;(try simp only [go_sem,Nat.reduceAdd,Nat.reduceEqDiff,Nat.reduceLT,Nat.reduceLeDiff,Nat.reduceMul,reduceCtorEq,↓reduceIte,g2,g6,az (n:=3) bU bz.len]);refine bN (cs:=cI) g2 rfl lj bz.len rfl bz.one ?_;intro w7 cH aL iL;(try simp only [go_sem,Nat.reduceAdd,Nat.reduceEqDiff,Nat.reduceLT,Nat.reduceLeDiff,Nat.reduceMul,reduceCtorEq,↓reduceIte,aE,RV.ev,az (n:=3) cH bz.len,aF]);exact ⟨⟨cs,rfl,(bz.aB (aL.aT (fun b hb=>.inr (.inr hb)))).sub (fun b hb=>.inl hb)⟩,aJ.step aL (fun b h hl=>by omega)⟩
end
section
open Go Go.W
theorem zI (w:World):(zeroValue 3).run Tryz.prog w = .ok (I 0) w:=Tryz.zeroValue3 w
theorem aa' (t:Ty):∀ {w:World} {S B:Nat→Prop} {M:Ms} {E:Env} {bd:bI} {lc:Loc} {cs:List Value},bL w S M E bd lc→aX w B cs t →
   ba Tryz.prog 61 [ptr M.c,.agg cs.toArray] w fun r w'=>r = .bool (t.fits E)∧Mod (fun _=>False) w w':=by
 induction t using Ty.ind with
 | h t ih=>
 intro w S B M E bd lc cs hc h;obtain ⟨v,rfl,hl⟩:=h.cells;obtain ⟨a,c,rfl⟩:=a8 hl;refine YB.calls rfl ?_;unfold HU;(try simp only [go_sem,simprocAttr]);refine bB rfl ?_;intro w1 au ak bP;have gV:=hc.aB ak;have iM:=gV.box;rw [t.Ji];(try simp only [go_sem,simprocAttr,cell_of au,Value.cells,cell_of iM]);refine td (fun ρ w'=>Mod (fun _=>False) w1 w'∧((t.kind == 2)=false∧((t.kind == 4)=false∨dm E t.name t.args.length=false))∧ρ.get 0=some (ptr M.c)∧ρ.get 3=some (ptr w.heap.size)) ?_ ?_
 ·(try simp only [go_sem,simprocAttr,cell_of au,Value.cells,cell_of iM,Nl]);cases jU:t.kind == 2 with
  | true=>
   (try simp only [go_sem,simprocAttr,cell_of au,Value.cells,cell_of iM]);refine xd ?_;refine uL (k:=t.name) (b:=M.mp) (kt:=9) (et:=3) rfl rfl rfl rfl (zI _) (gV.params.mod (Mod.refl (fun _=>False) w1).drew _root_.id (fun _ _ x=>x)) ?_;(try simp only [go_sem,simprocAttr]);exact ⟨rfl,ak.trans (Mod.refl _ _).drew⟩
  | false=>
   (try simp only [go_sem,simprocAttr,cell_of au,Value.cells,cell_of iM]);cases ma:t.kind == 4 with
   | false=>(try simp only [go_sem,simprocAttr]);exact .refl _ _
   | true=>
    (try simp only [go_sem,simprocAttr,cell_of au,Value.cells,cell_of iM]);have d1:Mod (fun _=>False) w1 w1.drew:=(Mod.refl _ _).drew;have tw:=gV.aB d1;refine Bh (k:=t.name) (b:=M.md) (kt:=9) (et:=152) rfl rfl rfl rfl (Tryz.zeroValue152 _) tw.aG (fun hn=>?_) (fun v d hd hr=>?_)
    ·have jY:dm E t.name t.args.length=true:=by rw [dm,hn]
     (try simp only [go_sem,simprocAttr,jY]);exact ak.trans (d1.drew)
    ·obtain ⟨ad,rfl,cs,bJ,vp,vc,rfl,gg,gJ⟩:=hr;obtain ⟨ap,cp,rfl⟩:=a8 gg;have c1:w1.drew.cell? ⟨ad.block,ad.off+1,none⟩=some (.slice ap d.params.length cp):=bJ.at (k:=1) (by simp);have DH:w1.cell? ⟨ad.block,ad.off+1,none⟩=some (.slice ap d.params.length cp):=c1;have jY:dm E t.name t.args.length=((d.params.length:Int) != t.args.length):=by rw [dm,hd]
     (try simp only [go_sem,simprocAttr,cell_of au,Value.cells,DH]);cases bw:((d.params.length:Int) != t.args.length) with
     | true=>rw [bw] at jY;(try simp only [go_sem,simprocAttr,jY]);exact ak.trans (d1.drew)
     | false=>rw [bw] at jY;(try simp only [go_sem,simprocAttr,jY]);exact d1.drew
 ·rintro ρ w2 ⟨ai,⟨jU,ma⟩,g0,g3⟩;have hm:=ak.trans ai;have iY:=gV.aB ai;have aw:=ai.at au _root_.id;have jL:(if (t.kind == 2)=true then has E.params t.name else if (t.kind == 4)=true then (if dm E t.name t.args.length=true then false else po E t.args) else po E t.args)=po E t.args:=by
   rw [if_neg (by rw [jU];simp)];rcases ma with h | h
   ·rw [if_neg (by rw [h];simp)]
   ·rw [if_neg (show ¬ dm E t.name t.args.length=true by rw [h];simp),ite_self]
  rw [jL,Jj];(try simp only [go_sem,simprocAttr,g0,g3,cell_of aw,Value.cells]);refine lZ (PP:=fun w'=>aX w' B) (l:=t.args) (B:=B) (fun k ρ w'=>Mod (fun _=>False) w w'∧k≤t.args.length∧(∀ i,∀ h:i < t.args.length,i < k→t.args[i].fits E=true)∧ρ=[(0,ptr M.c),(53,.slice a t.args.length c),(54,I t.args.length),(55,I k)])
   ⟨hm,by omega,fun i _ hi=>absurd hi (by omega),rfl⟩ hl ?_ (fun _ _ _ h=>h.one) rfl ?_ ?_
  ·rintro k _ w3 ⟨ar,hk,_,rfl⟩;exact ⟨⟨hl.mod ar aC (fun _ _ h=>h.mod ar aC),hk⟩,rfl,rfl,rfl⟩
  ·rintro k _ w3 hk w4 r b pv ⟨ar,_,ha,rfl⟩ hr bV aO aA _;(try simp only [go_sem,simprocAttr,az (n:=3) aO bV]);refine aK (by rfl) ?_;have nN:=ar.trans aA;refine (ih _ (List.getElem_mem hk) (hc.aB nN) (hr.mod aA aC)).mono ?_;rintro _ w5 ⟨rfl,aD⟩;cases hf:t.args[k].fits E with
   | false=>
    (try simp only [go_sem,simprocAttr]);refine ⟨congrArg _ (Eq.symm ?_),nN.trans aD⟩;rw [List.all_eq_false];exact ⟨_,List.getElem_mem hk,by rw [hf];simp⟩
   | true=>
    (try simp only [go_sem,simprocAttr]);refine ⟨nN.trans aD,hk,fun i hi hik=>?_⟩;rcases Nat.lt_or_ge i k with h1 | h1
    ·exact ha i hi h1
    ·have:i=k:=by omega
     subst this;exact hf
  ·rintro _ w3 ⟨ar,_,ha,rfl⟩;(try simp only [go_sem,simprocAttr]);refine ⟨congrArg _ (Eq.symm ?_),ar⟩;rw [List.all_eq_true];intro x hx;obtain ⟨i,hi,rfl⟩:=List.getElem_of_mem hx;exact ha i hi hi
theorem Bk (t:Ty) {w:World} {S:Nat→Prop} {M:Ms} {E:Env} {bd:bI} {lc:Loc} {cs:List Value} (hc:bL w S M E bd lc) (h:aX w (Out S w) cs t) :
   ba Tryz.prog 46 [ptr M.c,.agg cs.toArray] w fun r w'=>r = .bool (fg E t)∧Mod (fun _=>False) w w':=by
 refine Yf.calls rfl ?_;unfold HG;(try simp only [go_sem,simprocAttr]);refine bB rfl ?_;intro w1 au ak bP;(try simp only [go_sem,simprocAttr,az (n:=3) (cs:=cs) au h.len]);refine aK (by rfl) ?_;refine (I6 t (h.aB (aj ak)) (fun b hb=>hb.1)).mono ?_;rintro _ w2 ⟨rfl,ai⟩;have hm:=ak.trans ai;cases hw:mN t == 0 with
 | false=>(try simp only [go_sem,simprocAttr]);exact ⟨congrArg _ (by rw [fg,hw];rfl),hm⟩
 | true=>
  (try simp only [go_sem,simprocAttr,az (n:=3) (cs:=cs) (ai.at au _root_.id) h.len]);refine aK (by rfl) ?_;refine (aa' t (hc.aB hm) (h.aB (aj hm))).mono ?_;rintro _ w3 ⟨rfl,ar⟩;(try simp only [go_sem,simprocAttr]);exact ⟨congrArg _ (by rw [fg,hw];rfl),hm.trans ar⟩
def DI (w:World) (S:Nat→Prop) (r:Value) (x:Except Int Ty):Prop:=match x with
 | .ok t=>∃ cs:List Value,r = .tuple #[.agg cs.toArray,I 0]∧aX w (Out S w) cs t
 | .error e=>∃ cs:List Value,cs.length=3∧(∀ u∈cs,u.oneCell'=true)∧r = .tuple #[.agg cs.toArray,I e]∧e≠0
theorem DI.bad (w:World) (S:Nat→Prop) {e:Int} (h:e≠0):DI w S (.tuple #[.agg cI.toArray,I e]) (.error e):=⟨cI,rfl,uI,rfl,h⟩
theorem Pk (t:Ty) {w:World} {S:Nat→Prop} {M:Ms} {E:Env} {bd:bI} {lc:Loc} {cs:List Value} {jX Pm:Value} {ps:List ByteArray} {at':List Ty} (hc:bL w S M E bd lc) (h:aX w (Out S w) cs t)
   (fW:aQ w jX 1 (Out S w) eP ps) (fP:aQ w Pm 3 (Out S w) (aX w (Out S w)) at') :
   ba Tryz.prog 64 [ptr M.c,.agg cs.toArray,jX,Pm] w fun r w'=>DI w' S r (ik E t ps at')∧Mod (fun _=>False) w w':=by
 obtain ⟨ap,cp,rfl⟩:=a8 fW;obtain ⟨aa,ca,rfl⟩:=a8 fP;refine YF.calls rfl ?_;unfold HX;(try simp only [go_sem,simprocAttr]);refine bB rfl ?_;intro w1 au ak bP;(try simp only [go_sem,simprocAttr]);refine cQ ?_;intro w2 aw ai bS;have au:=ai.at au _root_.id;have aY:=ak.trans ai;have z1:=ak.size;have ref:∀ (w3:World) (ρ:W.Env) (e:Int) (K:Value→World→Prop),Mod (fun _=>False) w2 w3→ik E t ps at' = .error 83 →
     (∀ w4,w4.heap[w1.heap.size]? = some (.cells cI.toArray dQ (0,0))→Mod (fun _=>False) w w4→K undef w4)→∀ x y:O,x.ev ρ=some (ptr w1.heap.size)→y.ev ρ=some (.agg cI.toArray)→Go.W.E.wp Tryz.prog w3 ρ K (.st 3 x y):=by
  intro w3 ρ e K ar _ hk x y hx hy;refine bN (cs:=cI) hx hy (ar.at aw _root_.id) rfl rfl uI ?_;intro w4 aZ aA eA;exact hk w4 aZ ((aY.trans ar).step aA (fun b hb hl=>by omega))
 (try simp only [go_sem,simprocAttr]);cases bw:((ps.length:Int) != at'.length) with
 | true=>
  have hn:ik E t ps at' = .error 83:=by rw [ik,if_pos bw]
  (try simp only [go_sem,simprocAttr]);refine ref w2 _ 83 _ (.refl _ _) hn ?_ _ _ rfl rfl;intro w4 aZ aA;(try simp only [go_sem,simprocAttr,aE,RV.ev,az (n:=3) aZ rfl,aF]);rw [hn];exact ⟨.bad _ _ (by decide),aA⟩
 | false=>
  (try simp only [go_sem,simprocAttr]);refine lZ (PP:=fun w'=>aX w' (Out S w)) (l:=at') (B:=Out S w) (fun k ρ w'=>Mod (fun _=>False) w2 w'∧k≤at'.length∧(∀ i,∀ h:i < at'.length,i < k→fg E at'[i]=true)∧ρ=[(0,ptr M.c),(2,.slice ap ps.length cp),(3,.slice aa at'.length ca),(5,ptr w.heap.size),(8,ptr w1.heap.size),(20,.slice aa at'.length ca),(21,I at'.length),(22,I k)])
   ⟨.refl _ _,by omega,fun i _ hi=>absurd hi (by omega),rfl⟩ fP ?_ (fun _ _ _ h=>h.one) rfl ?_ ?_
  ·rintro k _ w3 ⟨ar,hk,_,rfl⟩;exact ⟨⟨fP.mod (aY.trans ar) aC (fun _ _ h=>h.mod (aY.trans ar) aC),hk⟩,rfl,rfl,rfl⟩
  ·rintro k _ w3 hk w4 r b pv ⟨ar,_,ha,rfl⟩ hr bV aO aA _;have nN:=ar.trans aA;have eG:=aY.trans nN;(try simp only [go_sem,simprocAttr,az (n:=3) aO bV]);refine aK (by rfl) ?_;refine (Bk _ (hc.aB eG) (hr.up aA aC (aU (aj eG)))).mono ?_;rintro _ w5 ⟨rfl,aD⟩;have eT:=nN.trans aD;cases hf:fg E at'[k] with
   | false=>
    have hn:ik E t ps at' = .error 83:=by
     have:at'.all (fg E)=false:=by rw [List.all_eq_false];exact ⟨_,List.getElem_mem hk,by rw [hf];simp⟩
     rw [ik,if_neg (by rw [bw];simp),if_pos this]
    (try simp only [go_sem,simprocAttr]);refine ref w5 _ 83 _ eT hn ?_ _ _ rfl rfl;intro w6 bU aJ;(try simp only [go_sem,simprocAttr,aE,RV.ev,az (n:=3) bU rfl,aF]);rw [hn];exact ⟨.bad _ _ (by decide),aJ⟩
   | true=>
    (try simp only [go_sem,simprocAttr]);refine ⟨eT,hk,fun i hi hik=>?_⟩;rcases Nat.lt_or_ge i k with h1 | h1
    ·exact ha i hi h1
    ·have:i=k:=by omega
     subst this;exact hf
  rintro _ w3 ⟨ar,_,ha,rfl⟩;have bo:=aY.trans ar;have dh:at'.all (fg E)=true:=by
   rw [List.all_eq_true];intro x hx;obtain ⟨i,hi,rfl⟩:=List.getElem_of_mem hx;exact ha i hi hi
  have hlen:ps.length≤at'.length:=by
   have:(ps.length:Int)=at'.length:=by simpa using bw
   omega
  have hn:ik E t ps at'=if (eL ps at' t).2≥0 then .ok (eL ps at' t).1 else .error 83:=by rw [ik,if_neg (by rw [bw];simp),if_neg (by rw [dh];simp)]
  have au:=ar.at au _root_.id;have aw:=ar.at aw _root_.id;(try simp only [go_sem,simprocAttr,az (n:=3) (cs:=cs) au h.len]);refine aK (by rfl) ?_;have z3:=ar.size;have hs:∀ b,b < w.heap.size→(S b∨b=w1.heap.size)→S b:=fun b hb h=>by
   rcases h with h | h
   ·exact h
   ·omega
  refine (Jh t (S:=fun b=>S b∨b=w1.heap.size) (h.ext (aj bo) hs) ((wY.mk fW fP hlen).ext (aj bo) hs) (fun b hb=>by
   have:=bo.size;rcases hb with h | h
   ·have:=hc.lt b h;omega
   ·omega)).mono ?_
  rintro _ w4 ⟨⟨iW,rfl,bz⟩,aA⟩;(try simp only [go_sem,simprocAttr]);refine di (n:=3) (vs:=iW) rfl bz.len bz.one ?_;intro w5 bT aD eB;have eT:=ar.trans (aA.trans aD);cases iB:decide ((eL ps at' t).2≥0) with
  | false=>
   have hn:ik E t ps at' = .error 83:=by rw [hn,if_neg (of_decide_eq_false iB)]
   (try simp only [go_sem,simprocAttr]);refine ref w5 _ 83 _ eT hn ?_ _ _ rfl rfl;intro w6 bU aJ;(try simp only [go_sem,simprocAttr,aE,RV.ev,az (n:=3) bU rfl,aF]);rw [hn];exact ⟨.bad _ _ (by decide),aJ⟩
  | true=>
   have hn:ik E t ps at' = .ok (eL ps at' t).1:=by rw [hn,if_pos (of_decide_eq_true iB)]
   (try simp only [go_sem,simprocAttr,az (n:=3) bT bz.len]);have z2:=ai.size;have z4:=bo.size;refine bN (cs:=cI) rfl rfl ((aA.trans aD).at aw _root_.id) bz.len rfl bz.one ?_;intro w6 bU aJ fY;(try simp only [go_sem,simprocAttr,aE,RV.ev,az (n:=3) bU bz.len,aF]);rw [hn];have kB:Mod (fun _=>False) w w6:=(aY.trans eT).step aJ (fun b hb hl=>by omega);exact ⟨⟨iW,rfl,((bz.aB (aj aD)).aB (aJ.aT (fun b hb=>.inr hb))).sub (fun b hb=>.inl hb)⟩,kB⟩
end
section
open Go Go.W
def iZ (E:Env) (b:Bd) (bd:bI):Except Int bI:=
 if (!jv b.name||has bd b.name)=true then .error 82 else if fg E b.type=true then .ok (bK bd b.name 1) else .error 83
theorem Pn (b:Bd) {w:World} {S B:Nat→Prop} {M:Ms} {E:Env} {bd:bI} {lc:Loc} {cs:List Value} (hc:bL w S M E bd lc) (h:dP w (Out S w) cs b) :
   ba Tryz.prog 88 [ptr M.c,.agg cs.toArray] w fun r w'=>(match iZ E b bd with
    | .ok dG=>r=I 0∧bL w' S M E dG lc
    | .error e=>r=I e∧e≠0∧∃ dG,bL w' S M E dG lc)∧Mod M.two w w':=by
 obtain ⟨⟨a1,a2,a3,a4,a5,a6⟩,⟨b1,b2,b3,b4,b5⟩,⟨c1,c2,c3,c4⟩,⟨d1,d2,d3⟩,⟨e1,e2⟩,f1⟩:=Ms.ne hc.nodup;obtain ⟨tc,ec,rfl,gw,ej,ja⟩:=h;refine Y8.calls rfl ?_;unfold Im;(try simp only [go_sem,Nat.reduceAdd,Nat.reduceEqDiff,Nat.reduceLT,Nat.reduceLeDiff,Nat.reduceMul,reduceCtorEq,↓reduceIte]);refine bB rfl ?_;intro w1 au ak bP;have gV:=hc.aB ak;have l1:=gw.len;(try simp only [go_sem,Nat.reduceAdd,Nat.reduceEqDiff,Nat.reduceLT,Nat.reduceLeDiff,Nat.reduceMul,reduceCtorEq,↓reduceIte,cell_of au,Value.cells]);refine aK (by rfl) ?_;refine (Dp b.name ja).mono ?_;rintro _ _ ⟨rfl,rfl⟩;have DJ:Mod (fun _=>False) w1 w1.drew:=(Mod.refl _ _).drew;have tw:=gV.aB DJ;have iM:=gV.box;cases hn:jv b.name with
 | false=>
  have dD:iZ E b bd = .error 82:=by rw [iZ,if_pos (by rw [hn];rfl)]
  rw [dD];(try simp only [go_sem,Nat.reduceAdd,Nat.reduceEqDiff,Nat.reduceLT,Nat.reduceLeDiff,Nat.reduceMul,reduceCtorEq,↓reduceIte]);exact ⟨⟨by decide,_,tw⟩,aj (ak.trans DJ)⟩
 | true=>
  (try simp only [go_sem,Nat.reduceAdd,Nat.reduceEqDiff,Nat.reduceLT,Nat.reduceLeDiff,Nat.reduceMul,reduceCtorEq,↓reduceIte,cell_of au,Value.cells,cell_of iM]);refine xd ?_;refine uL (k:=b.name) (b:=M.mb) (kt:=9) (et:=3) rfl rfl rfl rfl (zI _) tw.gx ?_;have il:decide ((aI bd b.name).getD 0 > 0)=has bd b.name:=rfl;cases hh:has bd b.name with
  | true=>
   rw [hh] at il;have dD:iZ E b bd = .error 82:=by rw [iZ,if_pos (by rw [hh];simp)]
   rw [dD];(try simp only [go_sem,Nat.reduceAdd,Nat.reduceEqDiff,Nat.reduceLT,Nat.reduceLeDiff,Nat.reduceMul,reduceCtorEq,↓reduceIte,il]);exact ⟨⟨by decide,_,tw.aB (Mod.refl _ _)⟩,aj (ak.trans DJ)⟩
  | false=>
   rw [hh] at il;(try simp only [go_sem,Nat.reduceAdd,Nat.reduceEqDiff,Nat.reduceLT,Nat.reduceLeDiff,Nat.reduceMul,reduceCtorEq,↓reduceIte,il,cell_of au,Value.cells,cell_of iM]);have xe:=DJ.drew;have Po:=gV.aB xe;refine me (k:=b.name) (b:=M.mb) (v:=I 1) (kt:=9) (et:=3) rfl rfl rfl rfl rfl Po.gx (show RI (I 1) 1 from rfl) ?_;intro w2 nz ai bS;have fK:Mod M.two w1 w2:=(aj xe).trans (ai.aT (fun _ h=>.inl h));have iY:bL w2 S M E (bK bd b.name 1) lc:=gV.gd fK nz (Po.locals.ty ai (fun x hx=>by subst hx;exact hc.two _ (.inl rfl)) (fun e=>f1 e.symm));have nK:¬ M.two w.heap.size:=fun h=>by
    rcases h with h | h
    ·have:=hc.lt _ (hc.two _ (.inl rfl));omega
    ·have:=hc.lt _ (hc.two _ (.inr rfl));omega
   have aw:=fK.at au nK;have k1:=gF (off:=1) (n:=3) aw (by simp;omega);rw [List.drop_succ_cons,List.drop_zero,List.take_left' l1] at k1;(try simp only [go_sem,Nat.reduceAdd,Nat.reduceEqDiff,Nat.reduceLT,Nat.reduceLeDiff,Nat.reduceMul,reduceCtorEq,↓reduceIte,k1]);refine aK (by rfl) ?_;have aY:Mod M.two w w2:=(aj ak).trans fK;refine (Bk b.type iY (gw.up aY (fun x hx hh=>hx.2 (hc.two _ hh)) (aU (aY.aT hc.two)))).mono ?_;rintro _ w3 ⟨rfl,ar⟩;have dD:iZ E b bd=if fg E b.type=true then .ok (bK bd b.name 1) else .error 83:=by rw [iZ,if_neg (by rw [hn,hh];simp)]
   rw [dD];cases hr:fg E b.type with
   | true=>(try simp only [go_sem,Nat.reduceAdd,Nat.reduceEqDiff,Nat.reduceLT,Nat.reduceLeDiff,Nat.reduceMul,reduceCtorEq,↓reduceIte]);exact ⟨iY.aB ar,aY.trans (aj ar)⟩
   | false=>(try simp only [go_sem,Nat.reduceAdd,Nat.reduceEqDiff,Nat.reduceLT,Nat.reduceLeDiff,Nat.reduceMul,reduceCtorEq,↓reduceIte]);exact ⟨⟨by decide,_,iY.aB ar⟩,aY.trans (aj ar)⟩
end
section
open Go Go.W
abbrev St:=bI×Loc
def jb (E:Env):List Bd→bI→Except Int bI
 | [],bd=>.ok bd
 | b::l,bd=>match iZ E b bd with
  | .error x=>.error x
  | .ok dG=>jb E l dG
def cE:List Bd→Loc→Loc
 | [],lc=>lc
 | b::l,lc=>cE l (bK lc b.name b.type)
def im:List ByteArray→Loc→Loc
 | [],lc=>lc
 | s::l,lc=>im l (gH lc s)
def kC (bs:List Bd) (lc:Loc):Loc:=im (bs.map Bd.name) lc
def mQ:List ByteArray→bI→Except Int bI
 | [],bd=>.ok bd
 | s::l,bd=>if (!jv s||has bd s)=true then .error 82 else mQ l (bK bd s 1)
def gX (ps:List ByteArray) (bs:List Ty):List ByteArray→List Ty→Loc→Except Int Loc
 | s::l,f::fs,lc=>if (eL ps bs f).2≥0 then gX ps bs l fs (bK lc s (eL ps bs f).1) else .error 83
 | _,_,lc=>.ok lc
def ly (all:List Al) (i:Nat) (of:Ty):Bool:=match all[i]? with
 | none=>false
 | some a=>
  if a.kind == 1 then (if (a.num != 0||of.kind != 4)=true then false else !(all.take i).any (fun b=>(b.kind == a.kind&&aR b.bg a.bg)&&b.num == a.num))
  else if a.kind == 2 then (if ((((!aR a.bg bD||decide ((a.vars.length:Int) > 0))||of.kind != 1)||decide (a.num < -4611686018427387904))||decide (a.num > 4611686018427387903))=true then false else !(all.take i).any (fun b=>(b.kind == a.kind&&aR b.bg a.bg)&&b.num == a.num))
  else if a.kind == 3 then ((aR a.bg bD&&a.num == 0)&&(a.vars.length:Int) == 0)&&(i:Int) == Wr (all.length - 1)
  else false
noncomputable def mR (E:Env):List Ty→Except Int Ty
 | [f,a]=>if (f.kind != 3)=true then .error 83 else match f.args with
  | x::y::_=>if fQ x a=true then .ok y else .error 83
  | _=>.error 83
 | _=>.error 84
def nR (n:ByteArray):List Ty→Except Int Ty
 | [a,b]=>if (a.kind != 1||b.kind != 1)=true then .error 83 else .ok ((fJ n).getD default)
 | _=>.error 84
def pr (b:Bd):List Ty→Except Int Ty
 | t::_=>if Wr (Wr (b.type.size+t.size)+1) > 500 then .error 83 else .ok (jV b.type t)
 | _=>.error 84
def mg (E:Env) (of:Ty) (k:Int) (bg:ByteArray) (vars:List ByteArray) (run:St→Except Int (Ty×St)) (st:St):Except Int (Ty×St):=
 if (k != 1)=true then run st else match aI E.cons bg with
  | none=>.error 82
  | some x=>if (!aR x.1.name of.name)=true then .error 82
   else if (((de x.1 x.2).length:Int) != vars.length)=true then .error 84
   else match mQ vars st.1 with
    | .error e=>.error e
    | .ok bd=>match gX x.1.params of.args vars (de x.1 x.2) st.2 with
     | .error e=>.error e
     | .ok lc=>match run (bd,lc) with
      | .error e=>.error e
      | .ok y=>.ok (y.1,(y.2.1,im vars y.2.2))
mutual
noncomputable def cj (E:Env):Ex→St→Except Int (Ty×St)
 | .mk k n m ts xs bs al,st=>
  if jx (.mk k n m ts xs bs al)=false then .error 84
  else if k=1 then (match aI st.2 n with | none=>.error 82 | some t=>.ok (t,st))
  else if k=2 then .ok (.mk 1 bD [],st)
  else if k=3 then (match aI E.an n with | none=>.error 82 | some d=>(ik E d.type d.params ts).map (fun t=>(t,st)))
  else if k=4 then (match aI E.cons n with | none=>.error 82 | some x=>(ik E (qq x.1 x.2) x.1.params ts).map (fun t=>(t,st)))
  else if k=12 then (match ts with | []=>.error 84 | t::_=>if fg E t=true then .ok (t,st) else .error 83)
  else if k=5 then (match cG E xs st with | .error x=>.error x | .ok y=>(mR E y.1).map (fun t=>(t,y.2)))
  else if k=9 then (match cG E xs st with | .error x=>.error x | .ok y=>(nR n y.1).map (fun t=>(t,y.2)))
  else if k=10 then (match cG E xs st with | .error x=>.error x | .ok y=>.ok (y.1.getLastD default,y.2))
  else if k=6 then (match bs with
   | []=>.error 84
   | b::_=>match iZ E b st.1 with
    | .error x=>.error x
    | .ok bd=>match cG E xs (bd,bK st.2 b.name b.type) with
     | .error x=>.error x
     | .ok y=>(pr b y.1).map (fun t=>(t,(y.2.1,gH y.2.2 b.name))))
  else if k=7∨k=11 then (match jb E bs st.1 with
   | .error x=>.error x
   | .ok bd=>match iN E bs (bd,if k=7 then cE bs st.2 else st.2) with
    | .error x=>.error x
    | .ok bX=>match cG E xs (bX.1,cE bs bX.2) with
     | .error x=>.error x
     | .ok y=>.ok (y.1.headD default,(y.2.1,kC bs y.2.2)))
  else match cG E xs st with
   | .error x=>.error x
   | .ok y=>if ((y.1.headD default).kind != 1&&(y.1.headD default).kind != 4)=true then .error 83 else fL E al (y.1.headD default) al 0 default y.2
noncomputable def cG (E:Env):List Ex→St→Except Int (List Ty×St)
 | [],st=>.ok ([],st)
 | e::l,st=>match cj E e st with
  | .error x=>.error x
  | .ok y=>match cG E l y.2 with
   | .error x=>.error x
   | .ok z=>.ok (y.1::z.1,z.2)
noncomputable def iN (E:Env):List Bd→St→Except Int St
 | [],st=>.ok st
 | .mk _ t v::l,st=>match cj E v st with
  | .error x=>.error x
  | .ok y=>if fQ y.1 t=true then iN E l y.2 else .error 83
noncomputable def fL (E:Env) (all:List Al) (of:Ty):List Al→Nat→Ty→St→Except Int (Ty×St)
 | [],_,first,st=>.ok (first,st)
 | .mk k bg num vars body::l,i,first,st=>
  if ly all i of=false then .error 84
  else match mg E of k bg vars (cj E body) st with
   | .error x=>.error x
   | .ok y=>if i=0 then fL E all of l (i+1) y.1 y.2 else if fQ y.1 first=true then fL E all of l (i+1) first y.2 else .error 83
end
end
section
open Go Go.W
mutual
def Ty.fh:Ty→Nat
 | .mk _ _ l=>1+jc l
def jc:List Ty→Nat
 | []=>0
 | t::l=>t.fh+jc l
end
mutual
def Ty.wf (E:Env):Ty→Bool
 | .mk k n l=>((k != 3||l.length == 2)&&(k != 4 || !dm E n l.length))&&rP E l
def rP (E:Env):List Ty→Bool
 | []=>true
 | t::l=>t.wf E&&rP E l
end
theorem Ty.DK (t:Ty):t.fh=1+jc t.args:=by cases t;rw [Ty.fh];rfl
theorem Ty.nS (E:Env) (t:Ty):t.wf E=(((t.kind != 3||t.args.length == 2)&&(t.kind != 4 || !dm E t.name t.args.length))&&rP E t.args):=by cases t;rw [Ty.wf];rfl
theorem tx (E:Env) (l:List Ty):rP E l=l.all (Ty.wf E):=by
 induction l with
 | nil=>rfl
 | cons t l ih=>rw [rP,ih,List.all_cons]
theorem aba {l:List Ty} {u:Ty} (h:u∈l):u.fh≤jc l:=by
 induction l with
 | nil=>cases h
 | cons t l ih=>
  rw [jc];rcases List.mem_cons.1 h with rfl | h
  ·omega
  ·have:=ih h;omega
theorem abb (t:Ty):1≤t.fh:=by rw [t.DK];omega
theorem Jm (t:Ty):t.fh≤1000000→t.size=(t.fh:Int):=by
 induction t using Ty.ind with
 | h t ih=>
 have key:∀ (l:List Ty),(∀ u∈l,u.fh≤1000000→u.size=(u.fh:Int))→∀ n:Int,1≤n→n+jc l≤1000001→kZ l n=n+jc l:=by
  intro l
  induction l with
  | nil=>intro _ n _ _;rw [kZ,jc];omega
  | cons u l oC=>
   intro hu n h1 h2;rw [jc] at h2;rw [kZ,jc,hu u (by simp) (by omega),show Wr (n+(u.fh:Int))=n+u.fh from dk (by omega) (by omega),oC (fun v hv=>hu v (by simp [hv])) _ (by omega) (by omega)];omega
 intro h;rw [t.DK] at h ⊢;rw [t.size_eq,key t.args ih 1 (by omega) (by omega)];omega
theorem abc (t:Ty):t.nodes≤500→(t.fh:Int)=t.nodes:=by
 induction t using Ty.ind with
 | h t ih=>
 have key:∀ (l:List Ty),(∀ u∈l,u.nodes≤500→(u.fh:Int)=u.nodes)→∀ n:Int,1≤n→n≤1001→n≤jS l n∧(jS l n≤500→jS l n=n+jc l):=by
  intro l
  induction l with
  | nil=>intro _ n h1 h2;rw [jS,jc];exact ⟨Int.le_refl _,fun _=>by omega⟩
  | cons u l oC=>
   intro hu n h1 h2;obtain ⟨⟨a1,a2⟩,_⟩:=OK u;rw [jS,jc]
   split
   ·exact ⟨Int.le_refl _,fun h=>by omega⟩
   ·have e:Wr (n+u.nodes)=n+u.nodes:=dk (by omega) (by omega);rw [e];obtain ⟨b1,b2⟩:=oC (fun v hv=>hu v (by simp [hv])) (n+u.nodes) (by omega) (by omega);refine ⟨by omega,fun h=>?_⟩;have e1:=b2 h;have e2:=hu u (by simp) (by omega);omega
 intro h;obtain ⟨k1,k2⟩:=key t.args ih 1 (by omega) (by omega);rw [t.GS] at h ⊢;rw [t.DK];have:=k2 (by omega);omega
def Good (E:Env) (t:Ty):Prop:=t.wf E=true∧t.fh≤500
def cZ (E:Env) (lc:Loc):Prop:=∀ p∈lc,Good E p.2
structure kD (E:Env):Prop where
 cons:∀ n x,aI E.cons n=some x→(∃ d,aI E.aG x.1.name=some d∧d.params.length=x.1.params.length)∧∀ f∈de x.1 x.2,f.wf E=true
 an:∀ n f,aI E.an n=some f→f.type.wf E=true
theorem abd (E:Env) (t:Ty):t.may=true→t.fits E=true→t.wf E=true:=by
 induction t using Ty.ind with
 | h t ih=>
 intro h1 h2;rw [t.Oy,Bool.and_eq_true] at h1;obtain ⟨hh,hm⟩:=h1;rw [t.Ji] at h2;rw [t.nS,tx];have kids:po E t.args=true→t.args.all (Ty.wf E)=true:=fun hf=>by
  rw [Jj,List.all_eq_true] at hf;have fD:∀ u∈t.args,u.may=true:=by
   intro u hu;have:(t.args.any fun t=>!t.may)=false:=by rw [Oz,hm];rfl
   have:=List.any_eq_false.1 this u hu
   simpa using this
  rw [List.all_eq_true];exact fun u hu=>ih u hu (fD u hu) (hf u hu)
 unfold mM at hh;by_cases k2:(t.kind == 2)=true
 ·have e2:t.kind=2:=by simpa using k2
  rw [e2] at hh ⊢;have:t.args=[]:=by
   have:(tg t.name&&((t.args.length:Int) == 0))=true:=hh;simp only [Bool.and_eq_true,beq_iff_eq] at this;exact List.eq_nil_of_length_eq_zero (by omega)
  rw [this];rfl
 ·rw [if_neg k2] at h2;by_cases k4:(t.kind == 4)=true
  ·have e4:t.kind=4:=by simpa using k4
   rw [if_pos k4] at h2
   split at h2
   ·cases h2
   ·rename_i hb;rw [e4,kids h2];have:dm E t.name t.args.length=false:=by simpa using hb
    rw [this];rfl
  ·rw [if_neg k4] at h2;rw [kids h2];have n4:(t.kind != 4)=true:=by simpa using k4
   rw [n4];by_cases k3:(t.kind == 3)=true
   ·have e3:t.kind=3:=by simpa using k3
    rw [e3] at hh ⊢;have:(aR t.name bD&&((t.args.length:Int) == 2))=true:=hh;simp only [Bool.and_eq_true,beq_iff_eq] at this;have:t.args.length=2:=by omega
    rw [this];rfl
   ·have n3:(t.kind != 3)=true:=by simpa using k3
    rw [n3];rfl
theorem xf {E:Env} {t:Ty} (h:fg E t=true):Good E t:=by
 rw [fg,Bool.and_eq_true] at h;have h0:mN t=0:=by simpa using h.1
 unfold mN at h0
 split at h0
 ·omega
 ·rename_i hm
  split at h0
  ·omega
  ·rename_i hn;have:=abc t (by omega);exact ⟨abd E t (by simpa using hm) h.2,by omega⟩
theorem Jn {E:Env} {ps:List ByteArray} {bs:List Ty} (hb:∀ b∈bs,Good E b) (hle:ps.length≤bs.length) (t:Ty):t.wf E=true→∀ left:Int,0≤left→left≤500 →
   -501≤(dW ps bs t left).2∧(dW ps bs t left).2≤left - 1∧(0≤(dW ps bs t left).2→(dW ps bs t left).1.wf E=true∧((dW ps bs t left).1.fh:Int)=left - (dW ps bs t left).2):=by
 induction t using Ty.ind with
 | h t ih=>
 intro hw left h1 h2
 have key:∀ (l:List Ty),(∀ u∈l,u.wf E=true→∀ left:Int,0≤left→left≤500 →
     -501≤(dW ps bs u left).2∧(dW ps bs u left).2≤left - 1∧(0≤(dW ps bs u left).2→(dW ps bs u left).1.wf E=true∧((dW ps bs u left).1.fh:Int)=left - (dW ps bs u left).2))→(∀ u∈l,u.wf E=true) →
     ∀ left:Int,-501≤left→left≤500 → -501≤(eY ps bs l left).2∧(eY ps bs l left).2≤left∧(0≤(eY ps bs l left).2→rP E (eY ps bs l left).1=true∧(eY ps bs l left).1.length=l.length∧(jc (eY ps bs l left).1:Int)=left - (eY ps bs l left).2):=by
  intro l
  induction l with
  | nil=>intro _ _ left h1 h2;rw [eY];exact ⟨h1,Int.le_refl _,fun _=>⟨rfl,rfl,by rw [jc];omega⟩⟩
  | cons u l oC=>
   intro hu hw left h1 h2;rw [eY]
   split
   ·exact ⟨h1,Int.le_refl _,fun h=>by simp only at h;omega⟩
   ·obtain ⟨a1,a2,a3⟩:=hu u (by simp) (hw u (by simp)) left (by omega) h2;obtain ⟨b1,b2,b3⟩:=oC (fun v hv=>hu v (by simp [hv])) (fun v hv=>hw v (by simp [hv])) (dW ps bs u left).2 (by omega) (by omega);refine ⟨b1,by simp only;omega,fun h=>?_⟩;simp only at h ⊢;obtain ⟨c1,c2,c3⟩:=b3 h;obtain ⟨d1,d2⟩:=a3 (by omega);rw [rP,jc,c1,d1];exact ⟨rfl,by rw [List.length_cons,List.length_cons,c2],by omega⟩
 rw [t.nS,Bool.and_eq_true,tx,List.all_eq_true] at hw;have none:((t.kind == 2)=false∨jw ps t.name=none) → -501≤(dW ps bs t left).2∧(dW ps bs t left).2≤left - 1∧(0≤(dW ps bs t left).2→(dW ps bs t left).1.wf E=true∧((dW ps bs t left).1.fh:Int)=left - (dW ps bs t left).2):=fun iG=>by
  rw [I9 iG];have e:Wr (left - 1)=left - 1:=dk (by omega) (by omega);rw [e];obtain ⟨b1,b2,b3⟩:=key t.args ih hw.2 (left - 1) (by omega) (by omega);refine ⟨b1,b2,fun h=>?_⟩;obtain ⟨c1,c2,c3⟩:=b3 h;show (Ty.wf E (.mk _ _ _))=true∧((Ty.fh (.mk _ _ _):Nat):Int)=_;rw [Ty.wf,Ty.fh,c1,c2,hw.1];exact ⟨rfl,by omega⟩
 cases hk:t.kind == 2 with
 | false=>exact none (.inl hk)
 | true=>
  cases hi:jw ps t.name with
  | none=>exact none (.inr hi)
  | some i=>
   rw [I8 hk hi];have aP:i < bs.length:=Nat.lt_of_lt_of_le (O3 hi) hle;have hd:bs.getD i default=bs[i]:=by simp [List.getD,aP]
   rw [hd];obtain ⟨g1,g2⟩:=hb _ (List.getElem_mem aP);have g3:=abb bs[i];rw [Jm bs[i] (by omega)];have e:Wr (left - (bs[i].fh:Int))=left - bs[i].fh:=dk (by omega) (by omega);rw [e];exact ⟨by simp only;omega,by simp only;omega,fun _=>⟨g1,by simp only;omega⟩⟩
theorem Jo {E:Env} {ps:List ByteArray} {bs:List Ty} (hb:∀ b∈bs,Good E b) (hle:ps.length≤bs.length) {t:Ty} (hw:t.wf E=true) (h:(eL ps bs t).2≥0):Good E (eL ps bs t).1:=by
 obtain ⟨a,b,c⟩:=Jn hb hle t hw 500 (by omega) (by omega);obtain ⟨d,e⟩:=c h;exact ⟨d,by unfold eL at h ⊢;omega⟩
theorem Pp {E:Env} {t u:Ty} {ps:List ByteArray} {at':List Ty} (hw:t.wf E=true) (h:ik E t ps at' = .ok u):Good E u:=by
 unfold ik at h
 split at h
 ·cases h
 ·rename_i bw
  split at h
  ·cases h
  ·rename_i dh
   split at h
   ·rename_i iB;cases h;have hl:(ps.length:Int)=at'.length:=by simpa using bw
    have ha:at'.all (fg E)=true:=by simpa using dh
    rw [List.all_eq_true] at ha;exact Jo (fun b hb=>xf (ha b hb)) (by omega) hw iB
   ·cases h
theorem abe {E:Env} {d d':Dt} (h:aI E.aG d.name=some d') (hl:d'.params.length=d.params.length):(nP d).wf E=true:=by
 have e:dm E d.name (d.params.map xc).length=false:=by
  rw [dm,h];simp [hl]
 rw [nP,Ty.wf,e,tx];have:(d.params.map xc).all (Ty.wf E)=true:=by
  rw [List.all_eq_true];intro x hx;obtain ⟨s,_,rfl⟩:=List.mem_map.1 hx;rw [xc,Ty.wf];rfl
 rw [this];rfl
theorem Pq {E:Env} {a b:Ty} (ha:a.wf E=true) (hb:b.wf E=true):(jV a b).wf E=true:=by
 rw [jV,Ty.wf,rP,rP,rP,ha,hb];rfl
theorem Ps {E:Env} (hE:kD E) {n:ByteArray} {x:Dt×Nat} (h:aI E.cons n=some x):(qq x.1 x.2).wf E=true:=by
 obtain ⟨⟨d,hd,hl⟩,hf⟩:=hE.cons n x h;have:∀ (l:List Ty),(∀ f∈l,f.wf E=true)→(l.foldr jV (nP x.1)).wf E=true:=by
  intro l
  induction l with
  | nil=>intro _;exact abe hd hl
  | cons f l ih=>intro h;rw [List.foldr_cons];exact Pq (h f (by simp)) (ih (fun g hg=>h g (by simp [hg])))
 exact this _ hf
theorem Pt {E:Env} (hE:kD E) {bg:ByteArray} {x:Dt×Nat} {of:Ty} (h:aI E.cons bg=some x) (hn:aR x.1.name of.name=true) (hw:of.wf E=true) (hk:of.kind=4):x.1.params.length=of.args.length:=by
 obtain ⟨⟨d,hd,hl⟩,_⟩:=hE.cons bg x h;have en:x.1.name=of.name:=by rw [oH] at hn;simpa using hn
 rw [of.nS,hk,Bool.and_eq_true,Bool.and_eq_true] at hw;have hb:dm E of.name of.args.length=false:=by simpa using hw.1.2
 rw [dm,← en,hd] at hb;have:(d.params.length:Int)=of.args.length:=by simpa using hb
 omega
theorem Jp {E:Env} {t u:Ty} (h:t.wf E=true) (hu:u∈t.args):u.wf E=true:=by
 rw [t.nS,Bool.and_eq_true,tx,List.all_eq_true] at h;exact h.2 u hu
theorem Bl {E:Env} {t u:Ty} (h:Good E t) (hu:u∈t.args):Good E u:=by
 refine ⟨Jp h.1 hu,?_⟩;have:=aba hu;have h2:=h.2;rw [t.DK] at h2;omega
theorem Jq {E:Env} {t:Ty} (h:t.wf E=true) (hk:t.kind=3):t.args.length=2:=by
 rw [t.nS,hk,Bool.and_eq_true,Bool.and_eq_true] at h
 simpa using h.1.1
theorem Pu {α:Type} {l:List (ByteArray×α)} {k:ByteArray} {v:α} (h:aI l k=some v):∃ p∈l,p.1=k∧p.2=v:=by
 unfold aI at h;obtain ⟨p,hp,rfl⟩:=Option.map_eq_some_iff.1 h;exact ⟨p,List.mem_of_find?_eq_some hp,by simpa using List.find?_some hp,rfl⟩
theorem abf {α:Type} {l:List (ByteArray×α)} {k:ByteArray} {v:α} {p:ByteArray×α} (h:p∈bK l k v):p∈l∨p=(k,v):=by
 unfold bK at h
 split at h
 ·exact List.mem_or_eq_of_mem_set h
 ·rcases List.mem_append.1 h with h | h
  ·exact .inl h
  ·exact .inr (List.mem_singleton.1 h)
theorem Pv {α:Type} {l:List (ByteArray×α)} {k:ByteArray} {p:ByteArray×α} (h:p∈gH l k):p∈l:=by
 unfold gH at h
 split at h
 ·exact List.mem_of_mem_eraseIdx h
 ·exact h
theorem cZ.put {E:Env} {lc:Loc} (h:cZ E lc) {n:ByteArray} {t:Ty} (ht:Good E t):cZ E (bK lc n t):=fun p hp=>by
 rcases abf hp with hp | rfl
 ·exact h p hp
 ·exact ht
theorem cZ.del {E:Env} {lc:Loc} (h:cZ E lc) (n:ByteArray):cZ E (gH lc n):=fun p hp=>h p (Pv hp)
theorem cZ.im {E:Env}:∀ (l:List ByteArray) {lc:Loc},cZ E lc→cZ E (im l lc)
 | [],_,h=>h
 | s::l,_,h=>cZ.im l (h.del s)
theorem cZ.cE {E:Env}:∀ (l:List Bd) {lc:Loc},cZ E lc→(∀ b∈l,Good E b.type)→cZ E (cE l lc)
 | [],_,h,_=>h
 | b::l,_,h,hb=>cZ.cE l (h.put (hb b (by simp))) (fun c hc=>hb c (by simp [hc]))
theorem cZ.get {E:Env} {lc:Loc} (h:cZ E lc) {n:ByteArray} {t:Ty} (ht:aI lc n=some t):Good E t:=by
 obtain ⟨p,hp,_,rfl⟩:=Pu ht;exact h p hp
theorem yR {E:Env} {b:Bd} {bd dG:bI} (h:iZ E b bd = .ok dG):Good E b.type:=by
 unfold iZ at h
 split at h
 ·cases h
 ·split at h
  ·rename_i hr;exact xf hr
  ·cases h
theorem Jr {E:Env}:∀ (l:List Bd) {bd dG:bI},jb E l bd = .ok dG→∀ b∈l,Good E b.type
 | [],_,_,_=>fun b hb=>by cases hb
 | c::l,bd,dG,h=>fun b hb=>by
  rw [jb] at h
  split at h
  ·cases h
  ·rename_i bd2 aw;rcases List.mem_cons.1 hb with rfl | hb
   ·exact yR aw
   ·exact Jr l h b hb
end
section
open Go Go.W
theorem kE (E:Env) (e:Ex) (st:St):cj E e st =
   if jx e=false then .error 84
   else if e.kind=1 then (match aI st.2 e.name with | none=>.error 82 | some t=>.ok (t,st))
   else if e.kind=2 then .ok (.mk 1 bD [],st)
   else if e.kind=3 then (match aI E.an e.name with | none=>.error 82 | some d=>(ik E d.type d.params e.types).map (fun t=>(t,st)))
   else if e.kind=4 then (match aI E.cons e.name with | none=>.error 82 | some x=>(ik E (qq x.1 x.2) x.1.params e.types).map (fun t=>(t,st)))
   else if e.kind=12 then (match e.types with | []=>.error 84 | t::_=>if fg E t=true then .ok (t,st) else .error 83)
   else if e.kind=5 then (match cG E e.args st with | .error x=>.error x | .ok y=>(mR E y.1).map (fun t=>(t,y.2)))
   else if e.kind=9 then (match cG E e.args st with | .error x=>.error x | .ok y=>(nR e.name y.1).map (fun t=>(t,y.2)))
   else if e.kind=10 then (match cG E e.args st with | .error x=>.error x | .ok y=>.ok (y.1.getLastD default,y.2))
   else if e.kind=6 then (match e.binds with
    | []=>.error 84
    | b::_=>match iZ E b st.1 with
     | .error x=>.error x
     | .ok bd=>match cG E e.args (bd,bK st.2 b.name b.type) with
      | .error x=>.error x
      | .ok y=>(pr b y.1).map (fun t=>(t,(y.2.1,gH y.2.2 b.name))))
   else if e.kind=7∨e.kind=11 then (match jb E e.binds st.1 with
    | .error x=>.error x
    | .ok bd=>match iN E e.binds (bd,if e.kind=7 then cE e.binds st.2 else st.2) with
     | .error x=>.error x
     | .ok bX=>match cG E e.args (bX.1,cE e.binds bX.2) with
      | .error x=>.error x
      | .ok y=>.ok (y.1.headD default,(y.2.1,kC e.binds y.2.2)))
   else match cG E e.args st with
    | .error x=>.error x
    | .ok y=>if ((y.1.headD default).kind != 1&&(y.1.headD default).kind != 4)=true then .error 83 else fL E e.alts (y.1.headD default) e.alts 0 default y.2:=by
 cases e;rw [cj.eq_def];rfl
theorem Bm (E:Env) (all:List Al) (of:Ty) (a:Al) (l:List Al) (i:Nat) (first:Ty) (st:St):fL E all of (a::l) i first st =
   if ly all i of=false then .error 84
   else match mg E of a.kind a.bg a.vars (cj E a.body) st with
    | .error x=>.error x
    | .ok y=>if i=0 then fL E all of l (i+1) y.1 y.2 else if fQ y.1 first=true then fL E all of l (i+1) first y.2 else .error 83:=by
 cases a;rw [fL];rfl
theorem Bn (E:Env) (b:Bd) (l:List Bd) (st:St):iN E (b::l) st=(match cj E b.value st with
   | .error x=>.error x
   | .ok y=>if fQ y.1 b.type=true then iN E l y.2 else .error 83):=by
 cases b;rw [iN];rfl
theorem mS {α β:Type} {x:Except Int α} {f:α→β} {y:β} (h:x.map f = .ok y):∃ a,x = .ok a∧f a=y:=by
 cases x with
 | error e=>cases h
 | ok a=>cases h;exact ⟨a,rfl,rfl⟩
def G (E:Env) (e:Ex):Prop:=∀ st y,cZ E st.2→cj E e st = .ok y→Good E y.1∧cZ E y.2.2
theorem uM {E:Env}:∀ (l:List Ex),(∀ u∈l,G E u)→∀ st y,cZ E st.2→cG E l st = .ok y→(∀ t∈y.1,Good E t)∧cZ E y.2.2∧y.1.length=l.length
 | [],_,st,y,hl,h=>by
  rw [cG] at h;cases h;exact ⟨fun t ht=>(by cases ht),hl,rfl⟩
 | e::l,hg,st,y,hl,h=>by
  rw [cG] at h
  split at h
  ·cases h
  ·rename_i y1 h1
   split at h
   ·cases h
   ·rename_i z hz;cases h;obtain ⟨a1,a2⟩:=hg e (by simp) _ _ hl h1;obtain ⟨b1,b2,b3⟩:=uM l (fun u hu=>hg u (by simp [hu])) _ _ a2 hz;refine ⟨fun t ht=>?_,b2,by simp [b3]⟩;rcases List.mem_cons.1 ht with rfl | ht
    ·exact a1
    ·exact b1 t ht
theorem Pw {E:Env}:∀ (l:List Bd),(∀ b∈l,G E b.value)→∀ st y,cZ E st.2→iN E l st = .ok y→cZ E y.2
 | [],_,st,y,hl,h=>by rw [iN] at h;cases h;exact hl
 | b::l,hg,st,y,hl,h=>by
  rw [Bn] at h
  split at h
  ·cases h
  ·rename_i y1 h1
   split at h
   ·exact Pw l (fun u hu=>hg u (by simp [hu])) _ _ (hg b (by simp) _ _ hl h1).2 h
   ·cases h
theorem Js {E:Env} {ps:List ByteArray} {bs:List Ty} (hb:∀ b∈bs,Good E b) (hle:ps.length≤bs.length):∀ (vs:List ByteArray) (fs:List Ty),(∀ f∈fs,f.wf E=true)→∀ lc gy,cZ E lc→gX ps bs vs fs lc = .ok gy→cZ E gy
 | s::l,f::fs,hf,lc,gy,hl,h=>by
  rw [gX] at h
  split at h
  ·rename_i iB;exact Js hb hle l fs (fun g hg=>hf g (by simp [hg])) _ _ (hl.put (Jo hb hle (hf f (by simp)) iB)) h
  ·cases h
 | [],_,_,lc,gy,hl,h=>by rw [gX] at h;cases h;exact hl;intros;simp_all
 | s::l,[],_,lc,gy,hl,h=>by rw [gX] at h;cases h;exact hl;intros;simp_all
theorem Px {E:Env} (hE:kD E) {of:Ty} (eK:Good E of) {k:Int} {bg:ByteArray} {vars:List ByteArray} (hk:k=1→of.kind=4) {e:Ex} (hg:G E e) {st:St} {y:Ty×St} (hl:cZ E st.2) (h:mg E of k bg vars (cj E e) st = .ok y):Good E y.1∧cZ E y.2.2:=by
 unfold mg at h
 split at h
 ·exact hg _ _ hl h
 ·rename_i jz;have jz:k=1:=by simpa using jz
  split at h
  ·cases h
  ·rename_i x hx
   split at h
   ·cases h
   ·rename_i hn
    split at h
    ·cases h
    ·split at h
     ·cases h
     ·rename_i bd dz
      split at h
      ·cases h
      ·rename_i lc pt
       split at h
       ·cases h
       ·rename_i y1 h1;cases h;have hle:=Pt hE hx (by simpa using hn) eK.1 (hk jz);have abg:=Js (fun b hb=>Bl eK hb) (by omega) _ _ (hE.cons _ _ hx).2 _ _ hl pt;obtain ⟨a1,a2⟩:=hg _ _ abg h1;exact ⟨a1,cZ.im _ a2⟩
theorem DL {all:List Al} {i:Nat} {of:Ty} {a:Al} (ha:all[i]? = some a) (h:ly all i of=true) (hk:a.kind=1):of.kind=4:=by
 unfold ly at h;rw [ha] at h;simp only [hk] at h;rw [if_pos (by rfl)] at h
 split at h
 ·cases h
 ·rename_i h2;simp only [Bool.or_eq_true,not_or,bne_iff_ne,ne_eq,Decidable.not_not] at h2;exact h2.2
theorem Jt {E:Env} (hE:kD E) {all:List Al} {of:Ty} (eK:Good E of):∀ (l:List Al) (i:Nat),all.drop i=l→(∀ a∈l,G E a.body)→∀ (first:Ty) (st:St) (y:Ty×St),(i=0→l≠[])→(i≠0→Good E first)→cZ E st.2→fL E all of l i first st = .ok y→Good E y.1∧cZ E y.2.2
 | [],i,hd,_,first,st,y,h0,hf,hl,h=>by
  rw [fL] at h;cases h;exact ⟨hf (fun e=>h0 e rfl),hl⟩
 | a::l,i,hd,hg,first,st,y,h0,hf,hl,h=>by
  rw [Bm] at h;have ha:all[i]? = some a:=by
   have:=congrArg (fun z=>z[0]?) hd
   simpa using this
  have eO:all.drop (i+1)=l:=by
   have:=congrArg (List.drop 1) hd
   simpa using this
  split at h
  ·cases h
  ·rename_i mh;have mh:ly all i of=true:=by simpa using mh
   split at h
   ·cases h
   ·rename_i y1 h1;obtain ⟨a1,a2⟩:=Px hE eK (fun hk=>DL ha mh hk) (hg a (by simp)) hl h1
    split at h
    ·exact Jt hE eK l (i+1) eO (fun b hb=>hg b (by simp [hb])) _ _ _ (fun e=>by omega) (fun _=>a1) a2 h
    ·rename_i hi
     split at h
     ·exact Jt hE eK l (i+1) eO (fun b hb=>hg b (by simp [hb])) _ _ _ (fun e=>by omega) (fun _=>hf hi) a2 h
     ·cases h
theorem Py (E:Env):Good E (.mk 1 bD []):=by
 refine ⟨by rw [Ty.wf];rfl,by rw [Ty.fh,jc];omega⟩
theorem Pz {e:Ex} (h:jx e=true):fS e=true:=by
 unfold jx at h;simp only [Bool.and_eq_true] at h;exact h.1.1
theorem rQ {e:Ex} {a b c d:Int} (h:eH e a b c d=true):(e.types.length:Int)=a∧(e.args.length:Int)=b∧(e.binds.length:Int)=c∧(e.alts.length:Int)=d:=by
 unfold eH at h;simp only [Bool.and_eq_true,beq_iff_eq] at h;exact h
structure PC (e:Ex):Prop where
 a2:e.kind=5∨e.kind=9∨e.kind=10→e.args.length=2
 a1:e.kind=6∨e.kind=7∨e.kind=8∨e.kind=11→e.args.length=1
 b1:e.kind=6∨e.kind=11→e.binds.length=1
 b2:e.kind=7→1≤e.binds.length
 al:e.kind=8→1≤e.alts.length
 t1:e.kind=12→e.types.length=1
 op:e.kind=9→(fJ e.name).isSome=true
 uB:1≤e.kind∧e.kind≤12
theorem Bo {e:Ex} (h:jx e=true):PC e:=by
 have h:=Pz h;unfold fS at h;have c5:e.kind=5→eH e 0 2 0 0=true:=fun hk=>by have h2:=h;rw [hk] at h2;exact h2
 have yS:e.kind=10→eH e 0 2 0 0=true:=fun hk=>by have h2:=h;rw [hk] at h2;exact h2
 have c9:e.kind=9→(eH e 0 2 0 0&&(fJ e.name).isSome)=true:=fun hk=>by have h2:=h;rw [hk] at h2;exact h2
 have c6:e.kind=6→(eH e 0 1 1 0&&(match e.binds with | b::_=>uK b.value | []=>false))=true:=fun hk=>by have h2:=h;rw [hk] at h2;exact h2
 have c7:e.kind=7→(eH e 0 1 e.binds.length 0&&decide ((e.binds.length:Int)≥1))=true:=fun hk=>by have h2:=h;rw [hk] at h2;exact h2
 have c8:e.kind=8→(eH e 0 1 0 e.alts.length&&decide ((e.alts.length:Int)≥1))=true:=fun hk=>by have h2:=h;rw [hk] at h2;exact h2
 have DM:e.kind=11→eH e 0 1 1 0=true:=fun hk=>by have h2:=h;rw [hk] at h2;exact h2
 have c12:e.kind=12→((eH e 1 0 0 0&&decide (e.num≥1))&&decide (e.num≤4))=true:=fun hk=>by have h2:=h;rw [hk] at h2;exact h2
 refine ⟨?_,?_,?_,?_,?_,?_,?_,?_⟩
 ·rintro (hk | hk | hk)
  ·have:=rQ (c5 hk);omega
  ·have:=rQ (Bool.and_eq_true _ _ |>.mp (c9 hk)).1;omega
  ·have:=rQ (yS hk);omega
 ·rintro (hk | hk | hk | hk)
  ·have:=rQ (Bool.and_eq_true _ _ |>.mp (c6 hk)).1;omega
  ·have:=rQ (Bool.and_eq_true _ _ |>.mp (c7 hk)).1;omega
  ·have:=rQ (Bool.and_eq_true _ _ |>.mp (c8 hk)).1;omega
  ·have:=rQ (DM hk);omega
 ·rintro (hk | hk)
  ·have:=rQ (Bool.and_eq_true _ _ |>.mp (c6 hk)).1;omega
  ·have:=rQ (DM hk);omega
 ·intro hk;have:=(Bool.and_eq_true _ _ |>.mp (c7 hk)).2;have:=of_decide_eq_true this;omega
 ·intro hk;have:=(Bool.and_eq_true _ _ |>.mp (c8 hk)).2;have:=of_decide_eq_true this;omega
 ·intro hk;have:=rQ (Bool.and_eq_true _ _ |>.mp (Bool.and_eq_true _ _ |>.mp (c12 hk)).1).1;omega
 ·intro hk;exact (Bool.and_eq_true _ _ |>.mp (c9 hk)).2
 ·apply Classical.byContradiction;intro hn;have n1:(e.kind == 1)=false:=by simp;omega
  have n2:(e.kind == 2)=false:=by simp;omega
  have n3:(e.kind == 3)=false:=by simp;omega
  have n4:(e.kind == 4)=false:=by simp;omega
  have n5:(e.kind == 5)=false:=by simp;omega
  have n6:(e.kind == 6)=false:=by simp;omega
  have n7:(e.kind == 7)=false:=by simp;omega
  have n8:(e.kind == 8)=false:=by simp;omega
  have n9:(e.kind == 9)=false:=by simp;omega
  have n10:(e.kind == 10)=false:=by simp;omega
  have n11:(e.kind == 11)=false:=by simp;omega
  have n12:(e.kind == 12)=false:=by simp;omega
  simp only [n1,n2,n3,n4,n5,n6,n7,n8,n9,n10,n11,n12,Bool.false_eq_true,if_false,Bool.or_self] at h
theorem abh {E:Env} {l:List Ty} (hl:∀ t∈l,Good E t) {t:Ty} (h:mR E l = .ok t):Good E t:=by
 unfold mR at h
 split at h
 ·rename_i f a
  split at h
  ·cases h
  ·split at h
   ·rename_i x y r nA
    split at h
    ·cases h;exact Bl (hl f (by simp)) (by rw [nA];simp)
    ·cases h
   ·cases h
 ·cases h
theorem abi {E:Env} {n:ByteArray} {l:List Ty} (ho:(fJ n).isSome=true) (hb:dm E iA 0=false) {t:Ty} (h:nR n l = .ok t):Good E t:=by
 unfold nR at h
 split at h
 ·split at h
  ·cases h
  ·cases h;unfold fJ at ho ⊢
   split
   ·exact Py E
   ·split
    ·refine ⟨?_,by simp [Ty.fh,jc]⟩;show Ty.wf E (.mk 4 iA [])=true;rw [Ty.wf,List.length_nil,hb];rfl
    ·rename_i h1 h2;rw [if_neg h1,if_neg h2] at ho;cases ho
 ·cases h
theorem abj {E:Env} {b:Bd} (hb:Good E b.type) {l:List Ty} (hl:∀ t∈l,Good E t) {t:Ty} (h:pr b l = .ok t):Good E t:=by
 unfold pr at h
 split at h
 ·rename_i u r
  split at h
  ·cases h
  ·rename_i hs;cases h;obtain ⟨b1,b2⟩:=hb;obtain ⟨u1,u2⟩:=hl u (by simp);refine ⟨Pq b1 u1,?_⟩;rw [Jm _ (by omega),Jm _ (by omega)] at hs;rw [show Wr ((b.type.fh:Int)+u.fh)=(b.type.fh:Int)+u.fh from dk (by omega) (by omega),show Wr (((b.type.fh:Int)+u.fh)+1)=((b.type.fh:Int)+u.fh)+1 from dk (by omega) (by omega)] at hs;rw [jV,Ty.fh,jc,jc,jc];omega
 ·cases h
theorem rR {E:Env} (hE:kD E) (hb:dm E iA 0=false) (e:Ex):G E e:=by
 induction e using Ex.ind with
 | h e eZ mj mT=>
 intro st y hl h;rw [kE] at h;by_cases hf:jx e=false
 ·rw [if_pos hf] at h;cases h
 rw [if_neg hf] at h;have F:=Bo (by simpa using hf);by_cases hk:e.kind=1
 ·rw [if_pos hk] at h
  split at h
  ·cases h
  ·rename_i t ht;cases h;exact ⟨hl.get ht,hl⟩
 rw [if_neg hk] at h;by_cases hk:e.kind=2
 ·rw [if_pos hk] at h;cases h;exact ⟨Py E,hl⟩
 rw [if_neg hk] at h;by_cases hk:e.kind=3
 ·rw [if_pos hk] at h
  split at h
  ·cases h
  ·rename_i d hd;obtain ⟨t,ht,rfl⟩:=mS h;exact ⟨Pp (hE.an _ _ hd) ht,hl⟩
 rw [if_neg hk] at h;by_cases hk:e.kind=4
 ·rw [if_pos hk] at h
  split at h
  ·cases h
  ·rename_i x hx;obtain ⟨t,ht,rfl⟩:=mS h;exact ⟨Pp (Ps hE hx) ht,hl⟩
 rw [if_neg hk] at h;by_cases hk:e.kind=12
 ·rw [if_pos hk] at h
  split at h
  ·cases h
  ·split at h
   ·rename_i hr;cases h;exact ⟨xf hr,hl⟩
   ·cases h
 rw [if_neg hk] at h;by_cases hk:e.kind=5
 ·rw [if_pos hk] at h
  split at h
  ·cases h
  ·rename_i z hz;obtain ⟨t,ht,rfl⟩:=mS h;obtain ⟨a1,a2,_⟩:=uM _ eZ _ _ hl hz;exact ⟨abh a1 ht,a2⟩
 rw [if_neg hk] at h;by_cases hk:e.kind=9
 ·rw [if_pos hk] at h
  split at h
  ·cases h
  ·rename_i z hz;obtain ⟨t,ht,rfl⟩:=mS h;obtain ⟨a1,a2,_⟩:=uM _ eZ _ _ hl hz;exact ⟨abi (F.op hk) hb ht,a2⟩
 rw [if_neg hk] at h;by_cases hk:e.kind=10
 ·rw [if_pos hk] at h
  split at h
  ·cases h
  ·rename_i z hz;cases h;obtain ⟨a1,a2,a3⟩:=uM _ eZ _ _ hl hz;rw [F.a2 (by omega)] at a3;refine ⟨a1 _ ?_,a2⟩
   match z.1,a3 with
   | [a,b],_=>simp
 rw [if_neg hk] at h;by_cases hk:e.kind=6
 ·rw [if_pos hk] at h
  split at h
  ·cases h
  ·rename_i b r dD
   split at h
   ·cases h
   ·rename_i bd dz
    split at h
    ·cases h
    ·rename_i z hz;obtain ⟨t,ht,rfl⟩:=mS h;have gb:=yR dz;obtain ⟨a1,a2,a3⟩:=uM _ eZ _ _ (hl.put gb) hz;exact ⟨abj gb a1 ht,a2.del _⟩
 rw [if_neg hk] at h;by_cases hk:e.kind=7∨e.kind=11
 ·rw [if_pos hk] at h
  split at h
  ·cases h
  ·rename_i bd dz;have gb:=Jr _ dz
   split at h
   ·cases h
   ·rename_i bX h2;have g2:=Pw _ mj _ _ (by show cZ E (if e.kind=7 then _ else _);split;exact cZ.cE _ hl gb;exact hl) h2
    split at h
    ·cases h
    ·rename_i z hz;cases h;obtain ⟨a1,a2,a3⟩:=uM _ eZ _ _ (cZ.cE _ g2 gb) hz;rw [F.a1 (by omega)] at a3;refine ⟨a1 _ ?_,cZ.im _ a2⟩
     match z.1,a3 with
     | [a],_=>simp
 rw [if_neg hk] at h
 split at h
 ·cases h
 ·rename_i z hz;obtain ⟨a1,a2,a3⟩:=uM _ eZ _ _ hl hz;have rS:e.kind=8:=by have:=F.uB;omega
  rw [F.a1 (by omega)] at a3;have eK:Good E (z.1.headD default):=a1 _ (by match z.1,a3 with | [a],_=>simp)
  split at h
  ·cases h
  ·refine Jt hE eK _ 0 rfl mT _ _ _ (fun _ h0=>?_) (fun h0=>absurd rfl h0) a2 h;have:=F.al rS;have h0:e.alts=[]:=h0;rw [h0] at this;simp at this
end
section
open Go Go.W
theorem bL.ext {w w':World} {S S':Nat→Prop} {M:Ms} {E:Env} {bd:bI} {lc:Loc} (h:bL w S M E bd lc) (hm:Mod (fun _=>False) w w') (hs:∀ b,b < w.heap.size→S' b→S b) (yP:∀ b,S b→S' b) (aP:∀ b,S' b→b < w'.heap.size):bL w' S' M E bd lc:=by
 have bC:Mod S w w':=aj hm
 exact ⟨hm.at h.box _root_.id,h.nodup,fun b hb=>yP b (h.bt b hb),aP,
  h.aG.mod hm _root_.id (fun _ _ x=>x.up bC aM (eh bC hs)),h.cons.mod hm _root_.id (fun _ _ x=>x.up bC aM (eh bC hs)),
  h.an.mod hm _root_.id (fun _ _ x=>x.up bC aM (eh bC hs)),h.params.mod hm _root_.id (fun _ _ x=>x),h.gx.mod hm _root_.id (fun _ _ x=>x),h.locals.mod hm _root_.id (fun _ _ x=>x.up bC aM (eh bC hs))⟩
theorem DN {w:World} {S S':Nat→Prop} (hs:∀ b,S b→S' b):∀ b,Out S' w b→Out S w b:=fun b h=>⟨h.1,fun hh=>h.2 (hs b hh)⟩
theorem bL.sub {w:World} {S S':Nat→Prop} {M:Ms} {E:Env} {bd:bI} {lc:Loc} (h:bL w S' M E bd lc) (hs:∀ b,S b→S' b) (fE:∀ b∈M.list,S b):bL w S M E bd lc:=by
 have hm:=Mod.refl (fun _=>False) w
 exact ⟨h.box,h.nodup,fE,fun b hb=>h.lt b (hs b hb),
  h.aG.mod hm _root_.id (fun _ _ x=>x.up hm aC (DN hs)),h.cons.mod hm _root_.id (fun _ _ x=>x.up hm aC (DN hs)),
  h.an.mod hm _root_.id (fun _ _ x=>x.up hm aC (DN hs)),h.params,h.gx,h.locals.mod hm _root_.id (fun _ _ x=>x.up hm aC (DN hs))⟩
theorem bL.side {w w':World} {S S':Nat→Prop} {M:Ms} {E:Env} {bd:bI} {lc:Loc} (h:bL w S M E bd lc) (hm:Mod S' w w') (hs:∀ b,S' b→S b) (iG:∀ b∈M.list,¬ S' b):bL w' S M E bd lc:=by
 have bC:=hm.aT hs;have no:∀ b,b∈M.list→¬ S' b:=iG
 exact ⟨hm.at h.box (no _ (by simp [Ms.list])),h.nodup,h.bt,fun b hb=>Nat.lt_of_lt_of_le (h.lt b hb) hm.size,
  h.aG.mod hm (no _ (by simp [Ms.list])) (fun _ _ x=>x.up bC aM (aU bC)),h.cons.mod hm (no _ (by simp [Ms.list])) (fun _ _ x=>x.up bC aM (aU bC)),
  h.an.mod hm (no _ (by simp [Ms.list])) (fun _ _ x=>x.up bC aM (aU bC)),h.params.mod hm (no _ (by simp [Ms.list])) (fun _ _ x=>x),h.gx.mod hm (no _ (by simp [Ms.list])) (fun _ _ x=>x),
  h.locals.mod hm (no _ (by simp [Ms.list])) (fun _ _ x=>x.up bC aM (aU bC))⟩
@[go_sem] theorem n00:((0:Int) != 0)=false:=_root_.id rfl
def pu (w:World) (S:Nat→Prop) (M:Ms) (E:Env) (r:Value) (x:Except Int (Ty×St)):Prop:=match x with
 | .ok y=>(∃ cs:List Value,r = .tuple #[.agg cs.toArray,I 0]∧aX w (Out S w) cs y.1)∧bL w S M E y.2.1 y.2.2
 | .error e=>∃ cs:List Value,cs.length=3∧(∀ u∈cs,u.oneCell'=true)∧r = .tuple #[.agg cs.toArray,I e]∧e≠0∧∃ bd lc,bL w S M E bd lc
theorem pu.bad {w:World} {S:Nat→Prop} {M:Ms} {E:Env} {e:Int} (h:e≠0) (hc:∃ bd lc,bL w S M E bd lc):pu w S M E (.tuple #[.agg cI.toArray,I e]) (.error e):=⟨cI,rfl,uI,rfl,h,hc⟩
def rT (E:Env) (e:Ex):Prop:=∀ {w:World} {S:Nat→Prop} {M:Ms} {st:St} {cs:List Value},bL w S M E st.1 st.2→cZ E st.2→bH w (Out S w) cs e →
 ba Tryz.prog 47 [ptr M.c,.agg cs.toArray] w fun r w'=>pu w' S M E r (cj E e st)∧Mod M.two w w'
abbrev aN (S:Nat→Prop) (b4:Nat):Nat→Prop:=fun b=>S b∨b=b4
theorem eC {w:World} {S:Nat→Prop} {b4:Nat} (h:w.heap.size≤b4):∀ b,b < w.heap.size→aN S b4 b→S b:=fun b hb hh=>by
 rcases hh with h | h
 ·exact h
 ·omega
theorem eI {w:World} {S:Nat→Prop} {M:Ms} {E:Env} {bd:bI} {lc:Loc} (h:bL w S M E bd lc) {b:Nat} (hb:w.heap.size≤b):¬ M.two b:=fun hh=>by have:=h.lt b (h.two b hh);omega
theorem gK {w:World} {S:Nat→Prop} {M:Ms} {E:Env} {bd:bI} {lc:Loc} (h:bL w S M E bd lc) {b4:Nat} (hb:w.heap.size≤b4):∀ b∈M.list,¬ b=b4:=fun b hm hh=>by have:=h.lt b (h.bt b hm);omega
theorem qu {w w':World} {S:Nat→Prop} {M:Ms} {E:Env} {st:St} {cs:List Value} {t:Ty} {b4:Nat} (hc:bL w (aN S b4) M E st.1 st.2) (ht:aX w (Out (aN S b4) w) cs t) (hm:Mod (· = b4) w w') (fE:∀ b∈M.list,S b) (iG:∀ b∈M.list,¬ b=b4) :
   pu w' S M E (.tuple #[.agg cs.toArray,I 0]) (.ok (t,st)):=
 ⟨⟨cs,rfl,(ht.aB (hm.aT (fun b hb=>.inr hb))).sub (fun b hb=>.inl hb)⟩,(hc.side hm (fun b hb=>.inr hb) iG).sub (fun b hb=>.inl hb) fE⟩
theorem gh {w w3:World} {ρ:Go.W.Env} {K:Value→World→Prop} {S:Nat→Prop} {M:Ms} {E:Env} {bd0 bd:bI} {lc0 lc:Loc} {b4:Nat} (hc:bL w S M E bd0 lc0) (z1:w.heap.size≤b4) (aw:w3.heap[b4]? = some (.cells cI.toArray dQ (0,0))) (bo:Mod M.two w w3) (cr:bL w3 (aN S b4) M E bd lc)
   {p q:O} (hp:p.ev ρ=some (ptr b4)) (hq:q.ev ρ=some (.agg cI.toArray))
   (hk:∀ w4,w4.heap[b4]? = some (.cells cI.toArray dQ (0,0))→Mod M.two w w4→(∃ bd lc,bL w4 S M E bd lc)→K undef w4):Go.W.E.wp Tryz.prog w3 ρ K (.st 3 p q):=by
 refine bN (cs:=cI) hp hq aw rfl rfl uI ?_;intro w4 aZ aA eA;exact hk w4 aZ (bo.step aA (fun b hb hl=>by omega)) ⟨_,_,(cr.side aA (fun b hb=>.inr hb) (gK hc z1)).sub (fun b hb=>.inl hb) hc.bt⟩
theorem DO {α:Type} {l:List α} (h:l.length=2):∃ x y,l=[x,y]:=by
 match l,h with
 | [x,y],_=>exact ⟨x,y,rfl⟩
theorem yT {α:Type} {l:List α} (h:l.length=1):∃ x,l=[x]:=by
 match l,h with
 | [x],_=>exact ⟨x,rfl⟩
theorem tz {w:World} {B:Nat→Prop} {v:Value} {l:List Ex} (h:aQ w v 7 B (bH w B) l) {i:Nat} (hi:i < l.length) :
   ∃ ad c r,v = .slice (some ad) l.length c∧bH w B r l[i]∧fV w 7 (.pointer (some (ad.add (i*7))))=some (.agg r.toArray):=by
 obtain ⟨ad,c,r,e,h1,_,h2,_⟩:=dL h hi;exact ⟨ad,c,r,e,h1,h2⟩
end
section
open Go Go.W
theorem abk {E:Env} (hE:kD E) (gz:dm E iA 0=false) {e x y:Ex} (jq:e.args=[x,y]) (ii:rT E x) (kU:rT E y) {w:World} {S:Nat→Prop} {M:Ms} {st:St} {cs:List Value} (hc:bL w S M E st.1 st.2) (hg:cZ E st.2) (h:bH w (Out S w) cs e) :
   ba Tryz.prog 66 [ptr M.c,.agg cs.toArray] w fun r w'=>pu w' S M E r (match cG E e.args st with | .error x=>.error x | .ok y=>(mR E y.1).map (fun t=>(t,y.2)))∧Mod M.two w w':=by
 obtain ⟨vt,va,vb,vl,rfl,ht,ha,hb,hl⟩:=h.parts;obtain ⟨aa,ca,rfl⟩:=a8 ha;refine YI.calls rfl ?_;unfold HZ;(try simp only [go_sem,simprocAttr]);refine bB rfl ?_;intro w1 au ak bP;(try simp only [go_sem,simprocAttr]);refine cQ ?_;intro w2 aw ai bS;have au:=ai.at au _root_.id;have aY:=ak.trans ai;have z1:=ak.size;have yP:∀ b,S b→aN S w1.heap.size b:=fun b hb=>.inl hb
 have iY:bL w2 (aN S w1.heap.size) M E st.1 st.2:=hc.ext aY (eC z1) yP (fun b hb=>by
  rcases hb with h | h
  ·have:=hc.lt b h;omega
  ·omega)
 have fC:e.args.length=2:=by rw [jq];rfl
 have tA:aQ w2 (.slice aa e.args.length ca) 7 (Out (aN S w1.heap.size) w2) (bH w2 (Out (aN S w1.heap.size) w2)) e.args:=ha.up aY aC (eh (aj aY) (eC z1)) (fun _ _ h=>h.ext (aj aY) (eC z1));have b1:(0:Int)≤0∧(0:Int) < e.args.length:=by omega
 have b2:(0:Int)≤1∧(1:Int) < e.args.length:=by omega
 obtain ⟨ad,c1,r1,e1,hx,oK⟩:=tz tA (i:=0) (by omega);obtain ⟨rfl,-,-⟩:=b9 e1;have xg:e.args[0]'(by omega)=x:=by simp [jq]
 have Bp:e.args[1]'(by omega)=y:=by simp [jq]
 rw [xg] at hx;rw [Nat.zero_mul,add_zero'] at oK;rw [jq];simp only [cG];(try simp only [go_sem,simprocAttr,bq,br,cell_of au,Value.cells,b1,Nat.zero_mul,oK]);refine aK (by rfl) ?_;refine (ii iY hg hx).mono ?_;rintro r3 w3 ⟨mn,ar⟩;cases bZ:cj E x st with
 | error e3=>
  rw [bZ] at mn;obtain ⟨cz,bA,bR,rfl,bw,DP,Bq,jZ⟩:=mn;(try simp only [go_sem,simprocAttr]);refine di (n:=3) (vs:=cz) rfl bA bR ?_;intro w4 aZ aA eA;have gL:(e3 != 0)=true:=by simpa using bw
  (try simp only [go_sem,simprocAttr,gL]);refine gh hc z1 ((ar.trans (aj aA)).at aw (eI hc z1)) ((aj aY).trans (ar.trans (aj aA))) (jZ.aB aA) rfl rfl ?_;intro w5 bT aD bm;(try simp only [go_sem,simprocAttr,aE,RV.ev,az (n:=3) bT rfl,aF]);exact ⟨.bad bw bm,aD⟩
 | ok y1=>
  obtain ⟨t1,dA⟩:=y1;rw [bZ] at mn;obtain ⟨⟨c3,rfl,Ju⟩,cr⟩:=mn;have g1:=rR hE gz x st _ hg bZ;(try simp only [go_sem,simprocAttr]);refine di (n:=3) (vs:=c3) rfl Ju.len Ju.one ?_;intro w4 aZ aA eA;have jA:=cr.aB aA;have gW:=ar.trans (aj aA);have au:=gW.at au (eI hc (by omega));have S2:=iY.two;have Jv:aQ w4 (.slice (some ad) e.args.length ca) 7 (Out (aN S w1.heap.size) w4) (bH w4 (Out (aN S w1.heap.size) w4)) e.args:=tA.up gW (fun b hb hh=>hb.2 (S2 b hh)) (aU (gW.aT S2)) (fun _ _ h=>h.aB (gW.aT S2));obtain ⟨Di,DH,r2,e2,hy,Br⟩:=tz Jv (i:=1) (by omega);obtain ⟨e3,-,-⟩:=b9 e2;cases e3;rw [Bp] at hy;rw [Nat.one_mul,add_pos _ (n:=7) (by decide)] at Br;(try simp only [go_sem,simprocAttr,bq,br,cell_of au,Value.cells,b2,Int.toNat_one,Nat.one_mul,Br]);refine aK (by rfl) ?_;refine (kU jA g1.2 hy).mono ?_;rintro r5 w5 ⟨nT,aD⟩;have oL:=gW.trans aD;cases xh:cj E y dA with
  | error e3=>
   rw [xh] at nT;obtain ⟨cz,bA,bR,rfl,bw,DP,Bq,jZ⟩:=nT;(try simp only [go_sem,simprocAttr]);refine di (n:=3) (vs:=cz) rfl bA bR ?_;intro w6 bU aJ fY;have gL:(e3 != 0)=true:=by simpa using bw
   (try simp only [go_sem,simprocAttr,gL]);refine gh hc z1 ((oL.trans (aj aJ)).at aw (eI hc z1)) ((aj aY).trans (oL.trans (aj aJ))) (jZ.aB aJ) rfl rfl ?_;intro w7 cH aL bm;(try simp only [go_sem,simprocAttr,aE,RV.ev,az (n:=3) cH rfl,aF]);exact ⟨.bad bw bm,aL⟩
  | ok y2=>
   obtain ⟨t2,bX⟩:=y2;rw [xh] at nT;obtain ⟨⟨c5,rfl,lz⟩,iO⟩:=nT;(try simp only [go_sem,simprocAttr]);refine di (n:=3) (vs:=c5) rfl lz.len lz.one ?_;intro w6 bU aJ fY;have qn:=oL.trans (aj aJ);have jd:=iO.aB aJ;have z3:=ar.size;have rU:=(aD.trans (aj aJ)).at aZ (eI hc (by omega));have Jw:aX w6 (Out (aN S w1.heap.size) w6) c3 t1:=(Ju.aB (aj aA)).aB ((aD.trans (aj aJ)).aT S2);obtain ⟨v3,rfl,bM⟩:=Jw.cells;obtain ⟨a3,cc3,rfl⟩:=a8 bM;have abl:w6.drew.heap[w5.heap.size]? = _:=bU;(try simp only [go_sem,simprocAttr,cell_of rU,ci,az (n:=3) abl lz.len]);have Jy:∀ z,(Except.map (fun t=>(t,bX)) (mR E [t1,t2]):Except Int (Ty×St))=z→(Except.map (fun t=>(t,bX)) (mR E [t1,t2]):Except Int (Ty×St))=z:=fun z h=>h
   cases hk:t1.kind != 3 with
   | true=>
    have ha:mR E [t1,t2] = .error 83:=by rw [mR,if_pos hk]
    rw [ha];(try simp only [go_sem,simprocAttr]);refine gh hc z1 ((qn.drew).at aw (eI hc z1)) ((aj aY).trans (qn.drew)) (jd.aB (Mod.refl _ _).drew) rfl rfl ?_;intro w7 cH aL bm;(try simp only [go_sem,simprocAttr,aE,RV.ev,az (n:=3) cH rfl,aF]);exact ⟨.bad (by decide) bm,aL⟩
   | false=>
    have qv:t1.kind=3:=by simpa using hk
    obtain ⟨u,v,DQ⟩:=DO (Jq g1.1.1 qv);have l2:t1.args.length=2:=by rw [DQ];rfl
    have d1:(0:Int)≤0∧(0:Int) < t1.args.length:=by omega
    have d2:(0:Int)≤1∧(1:Int) < t1.args.length:=by omega
    obtain ⟨rows,ku,lu,ej⟩:=bM;obtain ⟨PD,cc,ee,PE⟩:=Bb ku (i:=0) (by omega);obtain ⟨rfl,-,-⟩:=b9 ee;obtain ⟨ad4,cc',ee',PF⟩:=Bb ku (i:=1) (by omega);obtain ⟨ee4,-,-⟩:=b9 ee';cases ee4;rw [Nat.zero_mul,add_zero'] at PE;rw [Nat.one_mul,add_pos _ (n:=3) (by decide)] at PF;have hu:aX w6 (Out (aN S w1.heap.size) w6) rows[0] u:=ej 0 _ _ (List.getElem?_eq_getElem (by omega)) (by rw [DQ];rfl);have hv:aX w6 (Out (aN S w1.heap.size) w6) rows[1] v:=ej 1 _ _ (List.getElem?_eq_getElem (by omega)) (by rw [DQ];rfl);have ha:mR E [t1,t2]=if fQ u t2=true then .ok v else .error 83:=by rw [mR,if_neg (by rw [hk];simp),DQ]
    rw [ha];(try simp only [go_sem,simprocAttr,bq,br,cell_of rU,d1,Nat.zero_mul,PE,ci,az (n:=3) bU lz.len]);refine aK (by rfl) ?_;have dd:Mod (fun _=>False) w6 w6.drew:=(Mod.refl _ _).drew;refine (DA u (hu.aB (aj dd)) ((lz.aB (aj aJ)).aB (aj dd))).mono ?_;rintro _ w7 ⟨rfl,aL⟩;have jy:Mod (fun _=>False) w6 w7:=dd.trans aL;cases hs:fQ u t2 with
    | false=>
     (try simp only [go_sem,simprocAttr]);refine gh hc z1 ((qn.trans (aj jy)).at aw (eI hc z1)) ((aj aY).trans (qn.trans (aj jy))) (jd.aB jy) rfl rfl ?_;intro w8 cO bh bm;(try simp only [go_sem,simprocAttr,aE,RV.ev,az (n:=3) cO rfl,aF]);exact ⟨.bad (by decide) bm,bh⟩
    | true=>
     obtain ⟨ad5,cc5,ee5,PG⟩:=Bb (ku.up jy aC (fun _ h=>h)) (i:=1) (by omega);obtain ⟨ee6,-,-⟩:=b9 ee5;cases ee6;rw [Nat.one_mul,add_pos _ (n:=3) (by decide)] at PG;(try simp only [go_sem,simprocAttr,bq,br,cell_of (jy.at rU _root_.id),d2,Int.toNat_one,Nat.one_mul,PG]);have PH:=qn.trans (aj jy);refine bN (cs:=cI) rfl rfl (PH.at aw (eI hc z1)) hv.len rfl hv.one ?_;intro w8 cO bh mP;(try simp only [go_sem,simprocAttr,aE,RV.ev,az (n:=3) cO hv.len,aF]);exact ⟨qu (jd.aB jy) (hv.aB (aj jy)) bh hc.bt (gK hc z1),((aj aY).trans PH).step bh (fun b hb hl=>by omega)⟩
end
section
open Go Go.W
theorem Jz {P:Program} {w:World} {ρ:Go.W.Env} {K:Value→World→Prop} {t el:TypeId} {len sz:Nat} {x i:Operand} {k:IntKind} {n:Int} {a:Addr} {dst:Option Nat} {ty:TypeId} {pos:String} {af:Array Edge} (hx:(bn x).ev ρ=some (.pointer (some a))) (hi:(bn i).ev ρ=some (.int k n))
   (ht:P.underlying t=some (.array len el)) (dj:ig P el=some sz) (h0:0≤n) (h1:n < len) (hk:K (.pointer (some (a.add (n.toNat*sz)))) w):Go.W.E.wp P w ρ K (.raw ⟨dst,.indexAddr t x i,ty,pos,af,none⟩):=by
 refine kj fun act ha=>⟨_,w,?_,hk⟩
 have g1:ro P w (underlying t)=some (.array len el):=by rw [gE,ht]
 have g2:ro P w (sizeOf el)=some sz:=by rw [rm];exact dj
 have g3:ro P w (Instr.indexAt t (.pointer (some a)) (.int k n))=some (.pointer (some (a.add (n.toNat*sz)))):=by
  simp only [Instr.indexAt,asIntOf,Instr.sureAddr,asAddr,cK,fu,Option.bind_some,g1,g2,if_pos (And.intro h0 h1),Option.map_some,Am]
 simp only [execOp,ha x _ hx,ha i _ hi,Sem.run_bind,kQ g3,Result.andThen_ok,Sem.run_pure]
theorem JA {E:Env}:∀ (l1 l2:List Ex) (st:St),cG E (l1++l2) st=(match cG E l1 st with
   | .error x=>.error x
   | .ok y=>match cG E l2 y.2 with
    | .error x=>.error x
    | .ok z=>.ok (y.1++z.1,z.2))
 | [],l2,st=>by
  rw [List.nil_append,cG];simp only;cases cG E l2 st<;>rfl
 | e::l1,l2,st=>by
  rw [List.cons_append,cG,cG];cases cj E e st with
  | error x=>rfl
  | ok y=>
   simp only;rw [JA l1 l2 y.2];cases cG E l1 y.2 with
   | error x=>rfl
   | ok z=>
    simp only;cases cG E l2 z.2<;>rfl
structure PI (w:World) (S:Nat→Prop) (M:Ms) (E:Env) (b6 k:Nat) (l:List Ex) (st:St) (w2:World) (ts:List Ty) (dH:St) (cs:List Value):Prop where
 len:ts.length=k
 run:cG E (l.take k) st = .ok (ts,dH)
 ck:bL w S M E dH.1 dH.2
 dM:cZ E dH.2
 box:w.heap[b6]? = some (.cells cs.toArray 180 (0,0))
 Bs:cs.length=6
 kinds:∀ i,∀ h:i < ts.length,cs[3*i]? = some (I ts[i].kind)
 mod:Mod (fun b=>M.two b∨b=b6) w2 w
theorem abm {E:Env} (hE:kD E) (gz:dm E iA 0=false) {e:Ex} (fC:e.args.length=2) (ki:(fJ e.name).isSome=true) (ih:∀ u∈e.args,rT E u) {w:World} {S:Nat→Prop} {M:Ms} {st:St} {cs:List Value} (hc:bL w S M E st.1 st.2) (hg:cZ E st.2) (h:bH w (Out S w) cs e) :
   ba Tryz.prog 67 [ptr M.c,.agg cs.toArray] w fun r w'=>pu w' S M E r (match cG E e.args st with | .error x=>.error x | .ok y=>(nR e.name y.1).map (fun t=>(t,y.2)))∧Mod M.two w w':=by
 obtain ⟨vt,va,vb,vl,rfl,ht,ha,hb,hl⟩:=h.parts;obtain ⟨aa,ca,rfl⟩:=a8 ha;refine YJ.calls rfl ?_;unfold H0;(try simp only [go_sem,simprocAttr]);refine bB rfl ?_;intro w1 au ak bP;(try simp only [go_sem,simprocAttr]);refine cQ ?_;intro w2 aw ai bS;(try simp only [go_sem,simprocAttr]);refine cQ ?_;intro w3 aO ar eR;have au:=(ai.trans ar).at au _root_.id;have aw:=ar.at aw _root_.id;have bo:=ak.trans (ai.trans ar);have z1:=ak.size;have z2:=ai.size;have jB:∀ b,b < w.heap.size→aN (aN S w1.heap.size) w2.heap.size b→S b:=fun b hb hh=>by
  rcases hh with (h | h) | h
  ·exact h
  ·omega
  ·omega
 have cr:bL w3 (aN (aN S w1.heap.size) w2.heap.size) M E st.1 st.2:=hc.ext bo jB (fun b hb=>.inl (.inl hb)) (fun b hb=>by
  rcases hb with (h | h) | h
  ·have:=hc.lt b h;omega
  ·omega
  ·omega)
 have S3:=cr.two;have uN:aQ w3 (.slice aa e.args.length ca) 7 (Out (aN (aN S w1.heap.size) w2.heap.size) w3) (bH w3 (Out (aN (aN S w1.heap.size) w2.heap.size) w3)) e.args:=ha.up bo aC (eh (aj bo) jB) (fun _ _ h=>h.ext (aj bo) jB);have ref:∀ (w4:World) (ρ:Go.W.Env) (K:Value→World→Prop) (bd:bI) (lc:Loc),Mod (fun b=>M.two b∨b=w2.heap.size) w3 w4→bL w4 (aN (aN S w1.heap.size) w2.heap.size) M E bd lc→∀ p q:O,p.ev ρ=some (ptr w1.heap.size)→q.ev ρ=some (.agg cI.toArray) →
     (∀ w5,w5.heap[w1.heap.size]? = some (.cells cI.toArray dQ (0,0))→Mod M.two w w5→(∃ bd lc,bL w5 S M E bd lc)→K undef w5)→Go.W.E.wp Tryz.prog w4 ρ K (.st 3 p q):=by
  intro w4 ρ K bd lc aA bm p q hp hq hk;exact gh hc z1 (aA.at aw (fun hh=>by rcases hh with h | h;exact eI hc z1 h;omega)) ((aj bo:Mod M.two w w3).step aA (fun b hb hl=>by rcases hb with h | h;exact h;omega)) (bm.sub (fun b hb=>.inl hb) (fun b hb=>.inl (hc.bt b hb))) hp hq hk
 (try simp only [go_sem,simprocAttr]);refine td (fun ρ w'=>∃ ts dH cs,PI w' (aN (aN S w1.heap.size) w2.heap.size) M E w2.heap.size 2 e.args st w3 ts dH cs∧ρ.get 3=some (ptr w.heap.size)∧ρ.get 4=some (ptr w1.heap.size)∧ρ.get 6=some (ptr w2.heap.size)) ?_ ?_
 ·refine fx (fun m ρ w'=>∃ k,m=2 - k∧k≤2∧∃ ts dH cs,PI w' (aN (aN S w1.heap.size) w2.heap.size) M E w2.heap.size k e.args st w3 ts dH cs∧ρ=[(0,ptr M.c),(3,ptr w.heap.size),(4,ptr w1.heap.size),(6,ptr w2.heap.size),(12,I k)]) 2
   ⟨0,rfl,by omega,[],st,[I 0,.string bD,.slice none 0 0,I 0,.string bD,.slice none 0 0],⟨rfl,rfl,cr,hg,aO,rfl,fun i hi=>(by cases hi),.refl _ _⟩,rfl⟩ ?_
  rintro m _ w4 ⟨k,rfl,jU,ts,dH,cs,hi,rfl⟩;unfold Ok;(try simp only [go_sem,simprocAttr]);cases aP:decide ((k:Int) < 2) with
  | false=>
   have hk:k=2:=by have:=of_decide_eq_false aP;omega
   subst hk;(try simp only [go_sem,simprocAttr]);exact ⟨ts,dH,cs,hi⟩
  | true=>
   have hk:k < 2:=by have:=of_decide_eq_true aP;omega
   have xi:k < e.args.length:=by omega
   have JB:Mod (aN (aN S w1.heap.size) w2.heap.size) w3 w4:=hi.mod.aT (fun b hb=>by
    rcases hb with h | h
    ·exact S3 b h
    ·exact .inr h)
   have au:=hi.mod.at au (fun hh=>by rcases hh with h | h;exact eI hc (Nat.le_refl _) h;omega);have Jv:=uN.up JB aM (aU JB) (fun _ _ h=>h.aB JB);obtain ⟨ad,c1,r1,e1,hx,oK⟩:=tz Jv (i:=k) xi;obtain ⟨rfl,-,-⟩:=b9 e1;have b1:(0:Int)≤k∧(k:Int) < e.args.length:=by omega
   (try simp only [go_sem,simprocAttr,bq,br,cell_of au,Value.cells,b1,oK]);refine aK (by rfl) ?_;refine (ih _ (List.getElem_mem xi) hi.ck hi.dM hx).mono ?_;rintro r5 w5 ⟨nT,aD⟩;have eT:Mod (fun b=>M.two b∨b=w2.heap.size) w3 w5:=hi.mod.trans (aD.aT (fun b h=>.inl h));have abn:e.args=e.args.take k++(e.args[k]::e.args.drop (k+1)):=by rw [← List.drop_eq_getElem_cons xi,List.take_append_drop]
   cases bZ:cj E e.args[k] dH with
   | error e3=>
    rw [bZ] at nT;obtain ⟨cz,bA,bR,rfl,bw,DP,Bq,jZ⟩:=nT;have gL:(e3 != 0)=true:=by simpa using bw
    have dh:cG E e.args st = .error e3:=by rw [abn,JA,hi.run];simp only [cG,bZ]
    rw [dh];(try simp only [go_sem,simprocAttr]);refine di (n:=3) (vs:=cz) rfl bA bR ?_;intro w6 bU aJ fY;(try simp only [go_sem,simprocAttr,gL]);refine ref w6 _ _ _ _ (eT.trans (aj aJ)) (jZ.aB aJ) _ _ rfl rfl ?_;intro w7 cH aL bm;(try simp only [go_sem,simprocAttr,aE,RV.ev,az (n:=3) cH rfl,aF]);exact ⟨.bad bw bm,aL⟩
   | ok y1=>
    obtain ⟨t1,dA⟩:=y1;rw [bZ] at nT;obtain ⟨⟨c5,rfl,lz⟩,iO⟩:=nT;have g1:=rR hE gz _ _ _ hi.dM bZ;(try simp only [go_sem,simprocAttr]);refine di (n:=3) (vs:=c5) rfl lz.len lz.one ?_;intro w6 bU aJ fY;(try simp only [go_sem,simprocAttr,az (n:=3) bU lz.len]);refine Jz (a:=⟨w2.heap.size,0,none⟩) (n:=(k:Int)) (len:=2) (el:=dQ) (sz:=3) rfl rfl rfl Dq (by omega) (by omega) ?_;have Be:¬ M.two w2.heap.size:=eI hc (by omega);have JC:=aJ.at (aD.at hi.box Be) _root_.id;rw [Int.toNat_natCast,nE,Nat.zero_add];(try simp only [go_sem,simprocAttr]);refine AR (cs:=cs) (off:=k*3) (vs:=c5) rfl rfl JC lz.len (by rw [hi.Bs];omega) lz.one ?_;intro w7 cH aL iL;have hw:IntKind.i64.wrap ((k:Int)+1)=((k+1:Nat):Int):=by rw [dk (by omega) (by omega)];omega
    (try simp only [go_sem,simprocAttr,hw]);have ou:=OA (xs:=cs) (tl:=[]) (vs:=c5) (o:=k*3) (by rw [lz.len,hi.Bs];omega);rw [List.append_nil] at ou;rw [ou,List.append_nil] at cH;have kF:=(iO.aB aJ).side aL (fun b hb=>.inr hb) (gK hc (by omega));obtain ⟨v5,e5,_⟩:=lz.cells;have wP:=lz.len;refine ⟨2 - (k+1),by omega,k+1,rfl,by omega,ts++[t1],dA,_,⟨by simp [hi.len],?_,kF,g1.2,cH,?_,?_,?_⟩,rfl⟩
    ·rw [List.take_succ_eq_append_getElem xi,JA,hi.run];simp only [cG,bZ]
    ·simp only [List.length_append,List.length_take,List.length_drop,hi.Bs,wP];omega
    ·intro i ix;rw [List.length_append,hi.len] at ix;simp only [List.length_cons,List.length_nil] at ix;rcases Nat.lt_or_ge i k with hik | hik
     ·rw [List.append_assoc,List.getElem?_append_left (by rw [List.length_take,hi.Bs];omega),List.getElem?_take_of_lt (by omega),hi.kinds i (by rw [hi.len];exact hik)]
      congr 2
      rw [List.getElem_append_left (by rw [hi.len];exact hik)]
     ·have hik:i=k:=by omega
      subst hik;rw [List.append_assoc,List.getElem?_append_right (by rw [List.length_take];omega),List.length_take,hi.Bs,show 3*i - min (i*3) 6=0 by omega,e5];simp only [List.cons_append,List.getElem?_cons_zero,Option.some.injEq]
      congr 1
      rw [List.getElem_append_right (by rw [hi.len];omega)];simp [hi.len]
    ·exact (eT.trans (aj aJ)).trans (aL.aT (fun b h=>.inr h))
 ·rintro ρ w4 ⟨ts,dH,cs,hi,g3,g4,g6⟩;have pw:=hi.run;rw [List.take_of_length_le (by omega)] at pw;rw [pw];obtain ⟨a,b,qw⟩:=DO hi.len;subst qw;have k0:cs[0]? = some (I a.kind):=hi.kinds 0 (by simp);have k3:cs[3]? = some (I b.kind):=hi.kinds 1 (by simp);have A7:nR e.name [a,b]=if (a.kind != 1||b.kind != 1)=true then .error 83 else .ok ((fJ e.name).getD default):=rfl
  have c0:w4.cell? ⟨w2.heap.size,0,none⟩=some (I a.kind):=by rw [cell_of hi.box,List.getElem?_toArray];exact k0
  have c3:w4.cell? ⟨w2.heap.size,3,none⟩=some (I b.kind):=by rw [cell_of hi.box,List.getElem?_toArray];exact k3
  have au:=hi.mod.at au (fun hh=>by rcases hh with h | h;exact eI hc (Nat.le_refl _) h;omega);(try simp only [go_sem,simprocAttr,g3,g4,g6]);refine Jz (a:=⟨w2.heap.size,0,none⟩) (n:=0) (len:=2) (el:=dQ) (sz:=3) g6 rfl rfl Dq (by omega) (by omega) ?_;rw [show (0:Int).toNat*3=0 from rfl,add_zero'];(try simp only [go_sem,simprocAttr,g3,g4,g6,c0]);cases xi:a.kind != 1 with
  | true=>
   have Bt:nR e.name [a,b] = .error 83:=by rw [A7,if_pos (by rw [xi];rfl)]
   rw [Bt];(try simp only [go_sem,simprocAttr,g3,g4,g6]);refine ref w4 _ _ _ _ hi.mod hi.ck _ _ rfl rfl ?_;intro w7 cH aL bm;(try simp only [go_sem,simprocAttr,aE,RV.ev,az (n:=3) cH rfl,aF]);exact ⟨.bad (by decide) bm,aL⟩
  | false=>
   (try simp only [go_sem,simprocAttr,g3,g4,g6]);refine xd ?_;refine Jz (a:=⟨w2.heap.size,0,none⟩) (n:=1) (len:=2) (el:=dQ) (sz:=3) g6 rfl rfl Dq (by omega) (by omega) ?_;rw [show (1:Int).toNat*3=3 from rfl,nE,Nat.zero_add];(try simp only [go_sem,simprocAttr,g3,g4,g6,c3]);cases yU:b.kind != 1 with
   | true=>
    have Bt:nR e.name [a,b] = .error 83:=by rw [A7,if_pos (by rw [yU];simp)]
    rw [Bt];(try simp only [go_sem,simprocAttr,g3,g4,g6]);refine ref w4 _ _ _ _ hi.mod hi.ck _ _ rfl rfl ?_;intro w7 cH aL bm;(try simp only [go_sem,simprocAttr,aE,RV.ev,az (n:=3) cH rfl,aF]);exact ⟨.bad (by decide) bm,aL⟩
   | false=>
    have Bt:nR e.name [a,b] = .ok ((fJ e.name).getD default):=by rw [A7,if_neg (by rw [xi,yU];simp)]
    rw [Bt];(try simp only [go_sem,simprocAttr,g3,g4,g6,cell_of au,Value.cells]);refine aK (by rfl) ?_;refine (O2 e.name).mono ?_;rintro _ w5 ⟨rfl,aD⟩;obtain ⟨t,ht⟩:=Option.isSome_iff_exists.1 ki;have oB:t = .mk t.kind t.name []:=by
     unfold fJ at ht
     split at ht
     ·cases ht;rfl
     ·split at ht
      ·cases ht;rfl
      ·cases ht
    have lA:tp e.name=fZ t.kind t.name:=by rw [tp,ht]
    rw [lA,ht];(try simp only [go_sem,simprocAttr]);refine di (n:=3) (vs:=fZ t.kind t.name) rfl rfl (nO _ _) ?_;intro w6 bU aJ fY;(try simp only [go_sem,simprocAttr,az (n:=3) bU rfl]);have uO:=aD.trans aJ;have aw:=(hi.mod.trans (aj uO)).at aw (fun hh=>by rcases hh with h | h;exact eI hc z1 h;omega);refine bN (vs:=fZ t.kind t.name) (cs:=cI) rfl rfl aw rfl rfl (nO _ _) ?_;intro w7 cH aL iL;(try simp only [go_sem,simprocAttr,aE,RV.ev,az (n:=3) cH rfl,aF]);have jd:=(hi.ck.aB uO).sub (S:=aN S w1.heap.size) (fun b hb=>.inl hb) (fun b hb=>.inl (hc.bt b hb));have bz:aX w6 (Out (aN S w1.heap.size) w6) (fZ t.kind t.name) t:=by
     have:=nM w6 (Out (aN S w1.heap.size) w6) t.kind t.name;rw [← oB] at this;exact this
    exact ⟨qu jd bz aL hc.bt (gK hc z1),((aj bo:Mod M.two w w3).step (hi.mod.trans (aj uO)) (fun b hb hl=>by rcases hb with h | h;exact h;omega)).step aL (fun b hb hl=>by omega)⟩
end
section
open Go Go.W
section
variable {w:World} {ρ:Go.W.Env} {K:Value→World→Prop} {S:Nat→Prop} {M:Ms} {E:Env} {bd:bI} {lc:Loc} {n:ByteArray} {m x y:Operand} {d:Option Nat} {ty:TypeId} {pos:String} {af:Array Edge}
theorem JD (hc:bL w S M E bd lc):M.mb≠M.ml:=(Ms.ne hc.nodup).2.2.2.2.2
theorem JE {cs:List Value} {t:Ty} (hc:bL w S M E bd lc) (hm:(bn m).ev ρ=some (.map (some M.ml))) (hx:(bn x).ev ρ=some (.string n)) (hy:(bn y).ev ρ=some (.agg cs.toArray)) (ht:aX w (Out S w) cs t)
   (hk:∀ w',bL w' S M E bd (bK lc n t)→Mod M.two w w'→w'.heap.size=w.heap.size→K undef w'):Go.W.E.wp Tryz.prog w ρ K (.raw ⟨d,.mapUpdate 127 m x y,ty,pos,af,none⟩):=by
 refine me (kt:=9) (et:=dQ) hm hx hy rfl rfl hc.locals ⟨cs,rfl,ht⟩ ?_;intro w' h1 h2 h3;have iH:Mod M.two w w':=h2.aT (fun b hb=>.inr hb);have bC:=iH.aT hc.two;exact hk w' (hc.gd iH (hc.gx.mod h2 (fun e=>JD hc e) (fun _ _ x=>x)) (cD.mod h1 (Mod.refl (fun _=>False) w') _root_.id (fun _ _ x=>x.up bC aM (aU bC)))) iH h3
theorem DR {at':Array TypeId} (fP:at'[0]? = some 127) (hc:bL w S M E bd lc) (hm:(bn m).ev ρ=some (.map (some M.ml))) (hx:(bn x).ev ρ=some (.string n))
   (hk:∀ w',bL w' S M E bd (gH lc n)→Mod M.two w w'→w'.heap.size=w.heap.size→K (.tuple #[]) w'):Go.W.E.wp Tryz.prog w ρ K (.raw ⟨d,.call { callee:=.builtin .delete,args:=#[m,x],argTypes:=at'},ty,pos,af,none⟩):=by
 refine aa5 (kt:=9) (et:=dQ) fP hm hx rfl rfl hc.locals ?_;intro w' h1 h2 h3;have iH:Mod M.two w w':=h2.aT (fun b hb=>.inr hb);have bC:=iH.aT hc.two;exact hk w' (hc.gd iH (hc.gx.mod h2 (fun e=>JD hc e) (fun _ _ x=>x)) (cD.mod h1 (Mod.refl (fun _=>False) w') _root_.id (fun _ _ x=>x.up bC aM (aU bC)))) iH h3
theorem abo (hc:bL w S M E bd lc) (hm:(bn m).ev ρ=some (.map (some M.mb))) (hx:(bn x).ev ρ=some (.string n)) (hy:(bn y).ev ρ=some (I 1))
   (hk:∀ w',bL w' S M E (bK bd n 1) lc→Mod M.two w w'→w'.heap.size=w.heap.size→K undef w'):Go.W.E.wp Tryz.prog w ρ K (.raw ⟨d,.mapUpdate 90 m x y,ty,pos,af,none⟩):=by
 refine me (kt:=9) (et:=3) hm hx hy rfl rfl hc.gx (show RI (I 1) 1 from rfl) ?_;intro w' h1 h2 h3;have iH:Mod M.two w w':=h2.aT (fun b hb=>.inl hb);exact hk w' (hc.gd iH h1 (hc.locals.ty h2 (fun x hx=>by subst hx;exact hc.two _ (.inl rfl)) (fun e=>JD hc e.symm))) iH h3
end
theorem xj {w:World} {B:Nat→Prop} {b:Bd} {cs:List Value} {bb:Nat} {T:Nat} (h:dP w B cs b) (hb:w.heap[bb]? = some (.cells cs.toArray T (0,0))) :
   ∃ tc ec,cs = .string b.name::(tc++ec)∧aX w B tc b.type∧bH w B ec b.value∧fV w 3 (.pointer (some ⟨bb,1,none⟩))=some (.agg tc.toArray)∧fV w 7 (.pointer (some ⟨bb,4,none⟩))=some (.agg ec.toArray)∧w.cell? ⟨bb,0,none⟩=some (.string b.name)∧cs.length=11:=by
 obtain ⟨tc,ec,rfl,gw,ej,ja⟩:=h;have l1:=gw.len;have l2:=ej.len;refine ⟨tc,ec,rfl,gw,ej,?_,?_,by rw [cell_of hb];simp,by simp;omega⟩
 ·have:=gF (off:=1) (n:=3) hb (by simp;omega)
  rwa [List.drop_succ_cons,List.drop_zero,List.take_left' l1] at this
 ·have:=gF (off:=4) (n:=7) hb (by simp;omega)
  rwa [List.drop_succ_cons,List.drop_left' l1,List.take_of_length_le (by omega)] at this
theorem dP.up {w w':World} {B B' S:Nat→Prop} {cs:List Value} {b:Bd} (h:dP w B cs b) (hm:Mod S w w') (hd:∀ b,B b→¬ S b) (hB:∀ b,B b→B' b):dP w' B' cs b:=by
 obtain ⟨tc,ec,e,h1,h2,hn⟩:=h;exact ⟨tc,ec,e,h1.up hm hd hB,h2.up hm hd hB,hn⟩
theorem gq.up {w w':World} {B B' S:Nat→Prop} {cs:List Value} {a:Al} (h:gq w B cs a) (hm:Mod S w w') (hd:∀ b,B b→¬ S b) (hB:∀ b,B b→B' b):gq w' B' cs a:=by
 obtain ⟨vv,ec,e,h1,h2⟩:=h;exact ⟨vv,ec,e,h1.up hm hd hB (fun _ _ h=>h),h2.up hm hd hB⟩
theorem dP.aB {w w':World} {S:Nat→Prop} {cs:List Value} {b:Bd} (h:dP w (Out S w) cs b) (hm:Mod S w w'):dP w' (Out S w') cs b:=h.up hm aM (aU hm)
end
section
open Go Go.W
theorem abp {E:Env} (hE:kD E) (gz:dm E iA 0=false) {e x:Ex} {b:Bd} (eX:e.args=[x]) (kG:e.binds=[b]) (ii:rT E x) {w:World} {S:Nat→Prop} {M:Ms} {st:St} {cs:List Value} (hc:bL w S M E st.1 st.2) (hg:cZ E st.2) (h:bH w (Out S w) cs e) :
   ba Tryz.prog 68 [ptr M.c,.agg cs.toArray] w fun r w'=>pu w' S M E r (match iZ E b st.1 with
       | .error x=>.error x
       | .ok bd=>match cG E e.args (bd,bK st.2 b.name b.type) with
        | .error x=>.error x
        | .ok y=>(pr b y.1).map (fun t=>(t,(y.2.1,gH y.2.2 b.name))))∧Mod M.two w w':=by
 obtain ⟨vt,va,vb,vl,rfl,ht,ha,hb,hl⟩:=h.parts;obtain ⟨aa,ca,rfl⟩:=a8 ha;obtain ⟨ab,cb,rfl⟩:=a8 hb;refine YK.calls rfl ?_;unfold H2;(try simp only [go_sem,simprocAttr]);refine bB rfl ?_;intro w1 au ak bP;(try simp only [go_sem,simprocAttr]);refine cQ ?_;intro w2 aw ai bS;have au:=ai.at au _root_.id;have aY:=ak.trans ai;have z1:=ak.size
 have iY:bL w2 (aN S w1.heap.size) M E st.1 st.2:=hc.ext aY (eC z1) (fun b hb=>.inl hb) (fun b hb=>by
  rcases hb with h | h
  ·have:=hc.lt b h;omega
  ·omega)
 have S2:=iY.two;have lx:e.args.length=1:=by rw [eX];rfl
 have lb:e.binds.length=1:=by rw [kG];rfl
 have tA:aQ w2 (.slice aa e.args.length ca) 7 (Out (aN S w1.heap.size) w2) (bH w2 (Out (aN S w1.heap.size) w2)) e.args:=ha.up aY aC (eh (aj aY) (eC z1)) (fun _ _ h=>h.ext (aj aY) (eC z1));have lj:aQ w2 (.slice ab e.binds.length cb) 11 (Out (aN S w1.heap.size) w2) (dP w2 (Out (aN S w1.heap.size) w2)) e.binds:=hb.up aY aC (eh (aj aY) (eC z1)) (fun _ _ h=>h.up aY aC (eh (aj aY) (eC z1)));have b1:(0:Int)≤0∧(0:Int) < e.args.length:=by omega
 have b2:(0:Int)≤0∧(0:Int) < e.binds.length:=by omega
 obtain ⟨yV,c2,rb,e2,dz,PJ,PK,_⟩:=dL lj (i:=0) (by omega);obtain ⟨rfl,-,-⟩:=b9 e2;have exb:e.binds[0]'(by omega)=b:=by simp [kG]
 have xg:e.args[0]'(by omega)=x:=by simp [eX]
 rw [exb] at dz;rw [Nat.zero_mul,add_zero'] at PK;(try simp only [go_sem,simprocAttr,bq,br,cell_of au,Value.cells,b2,Nat.zero_mul,PK]);refine di (n:=11) (vs:=rb) rfl PJ dz.one ?_;intro w3 aO ar eR;have cr:=iY.aB ar;(try simp only [go_sem,simprocAttr,az (n:=11) aO PJ]);refine aK (by rfl) ?_;refine (Pn (B:=fun _=>False) b cr (dz.aB (aj ar))).mono ?_;rintro r4 w4 ⟨mo,aA⟩;have gW:Mod M.two w2 w4:=(aj ar).trans aA;cases uP:iZ E b st.1 with
 | error e4=>
  rw [uP] at mo;obtain ⟨rfl,bw,PL,jZ⟩:=mo;have gL:(e4 != 0)=true:=by simpa using bw
  (try simp only [go_sem,simprocAttr,gL]);refine gh hc z1 (gW.at aw (eI hc z1)) ((aj aY).trans gW) jZ rfl rfl ?_;intro w5 bT aD bm;(try simp only [go_sem,simprocAttr,aE,RV.ev,az (n:=3) bT rfl,aF]);exact ⟨.bad bw bm,aD⟩
 | ok bd=>
  rw [uP] at mo;obtain ⟨rfl,jA⟩:=mo;have DS:=yR uP;have JF:¬ M.two w2.heap.size:=eI hc (by omega);have aO:=aA.at aO JF;have d4:Mod (fun _=>False) w4 w4.drew:=(Mod.refl _ _).drew;have JG:=jA.aB d4;have PM:=dz.aB ((gW.trans (aj d4)).aT S2);obtain ⟨tc,ec,rfl,uQ,rV,k1,k2,k0,kl⟩:=xj PM aO;have Bu:fV w4 3 (.pointer (some ⟨w2.heap.size,1,none⟩))=some (.agg tc.toArray):=by rw [← ci];exact k1
  have JH:w4.cell? ⟨w2.heap.size,0,none⟩=some (.string b.name):=k0;(try simp only [go_sem,simprocAttr,cell_of jA.box,JH,ci,Bu]);refine JE (n:=b.name) JG rfl rfl rfl uQ ?_;intro w5 iO aD eB;have oL:Mod M.two w2 w5:=gW.trans ((aj d4).trans aD);have au:=oL.at au (eI hc (Nat.le_refl _));have JI:=tA.up oL (fun b hb hh=>hb.2 (S2 b hh)) (aU (oL.aT S2)) (fun _ _ h=>h.aB (oL.aT S2));obtain ⟨ad,c1,r1,e1,hx,oK⟩:=tz JI (i:=0) (by omega);obtain ⟨rfl,-,-⟩:=b9 e1;rw [xg] at hx;rw [Nat.zero_mul,add_zero'] at oK;have uR:cZ E (bK st.2 b.name b.type):=hg.put DS;rw [eX];simp only [cG];(try simp only [go_sem,simprocAttr,bq,br,cell_of au,Value.cells,b1,Nat.zero_mul,oK]);refine aK (by rfl) ?_;refine (ii (st:=(bd,bK st.2 b.name b.type)) iO uR hx).mono ?_;rintro r6 w6 ⟨oJ,aJ⟩;have qn:=oL.trans aJ;have aO:=(aD.trans aJ).at aO JF;cases bZ:cj E x (bd,bK st.2 b.name b.type) with
  | error e6=>
   rw [bZ] at oJ;obtain ⟨cz,bA,bR,rfl,bw,bd6,lc6,jd⟩:=oJ;(try simp only [go_sem,simprocAttr]);refine di (n:=3) (vs:=cz) rfl bA bR ?_;intro w7 cH aL iL;have kF:=(jd.aB aL).aB (Mod.refl _ _).drew;have aO:=aL.at aO _root_.id;have JJ:w7.cell? ⟨w2.heap.size,0,none⟩=some (.string b.name):=by rw [cell_of aO];simp
   (try simp only [go_sem,simprocAttr,cell_of kF.box,cell_of (jd.aB aL).box,JJ]);refine DR (n:=b.name) rfl kF rfl rfl ?_;intro w8 lB bh mP;have yW:Mod M.two w2 w8:=(qn.trans (aj aL)).trans bh.ez;have gL:(e6 != 0)=true:=by simpa using bw
   (try simp only [go_sem,simprocAttr,gL]);refine gh hc z1 (yW.at aw (eI hc z1)) ((aj aY).trans yW) lB rfl rfl ?_;intro w9 dp aV bm;(try simp only [go_sem,simprocAttr,aE,RV.ev,az (n:=3) dp rfl,aF]);exact ⟨.bad bw bm,aV⟩
  | ok y1=>
   obtain ⟨t1,dA⟩:=y1;rw [bZ] at oJ;obtain ⟨⟨c6,rfl,uS⟩,jd⟩:=oJ;have g6:=rR hE gz x _ _ uR bZ;(try simp only [go_sem,simprocAttr]);refine di (n:=3) (vs:=c6) rfl uS.len uS.one ?_;intro w7 cH aL iL;have kF:=(jd.aB aL).aB (Mod.refl _ _).drew;have aO:=aL.at aO _root_.id;have JJ:w7.cell? ⟨w2.heap.size,0,none⟩=some (.string b.name):=by rw [cell_of aO];simp
   (try simp only [go_sem,simprocAttr,cell_of kF.box,cell_of (jd.aB aL).box,JJ]);refine DR (n:=b.name) rfl kF rfl rfl ?_;intro w8 lB bh mP;have uT:Mod M.two w7 w8:=bh.ez;have DT:Mod M.two w4 w8:=((aj d4).trans aD).trans (aJ.trans ((aj aL).trans uT));have yW:Mod M.two w2 w8:=gW.trans DT;have aO:=uT.at aO JF;have cH:=uT.at cH (eI hc (by have:=qn.size;omega));have PN:=PM.aB (((aD.trans aJ).trans ((aj aL).trans uT)).aT S2);have lC:aX w8 (Out (aN S w1.heap.size) w8) c6 t1:=(uS.aB (aj aL)).aB (uT.aT S2);obtain ⟨JK,ec',e8,PO,_,k18,_,_,_⟩:=xj PN aO;have e8:tc=JK:=by
    have:=congrArg (fun l=>(l.drop 1).take 3) e8
    simpa [List.take_left' uQ.len,List.take_left' PO.len] using this
   subst e8;have PQ:pr b [t1]=if Wr (Wr (b.type.size+t1.size)+1) > 500 then .error 83 else .ok (jV b.type t1):=rfl
   have ais:w8.drew.heap[w6.heap.size]? = _:=cH;(try simp only [go_sem,simprocAttr,k18,ci,az (n:=3) cH uS.len]);refine aK (by rfl) ?_;refine (yF b.type (PO.mod (Mod.refl (fun _=>False) w8).drew aC)).mono ?_;rintro _ w9 ⟨rfl,aV⟩;have aV:=aV.ez;(try simp only [go_sem,simprocAttr]);refine ⟨by rw [aV.bY _ (cC cH) _root_.id],?_⟩;refine aK (by rfl) ?_;refine (yF t1 (lC.mod aV aC)).mono ?_;rintro _ cV ⟨rfl,bE⟩;have uU:Mod (fun _=>False) w8 cV:=aV.trans bE;have oM:=lB.aB uU;(try simp only [go_sem,simprocAttr]);cases rF:decide (IntKind.i64.wrap (IntKind.i64.wrap (b.type.size+t1.size)+1) > 500) with
   | true=>
    have JL:pr b [t1] = .error 83:=by rw [PQ,if_pos (of_decide_eq_true rF)]
    rw [JL];(try simp only [go_sem,simprocAttr]);refine gh hc z1 ((yW.trans (aj uU)).at aw (eI hc z1)) ((aj aY).trans (yW.trans (aj uU))) oM rfl rfl ?_;intro gA fy cR bm;(try simp only [go_sem,simprocAttr,aE,RV.ev,az (n:=3) fy rfl,aF]);exact ⟨.bad (by decide) bm,cR⟩
   | false=>
    have JL:pr b [t1] = .ok (jV b.type t1):=by rw [PQ,if_neg (of_decide_eq_false rF)]
    rw [JL];obtain ⟨abq,ait,rW,PR,_,abr,_,_,_⟩:=xj (PN.aB (aj uU)) (uU.at aO _root_.id);have rW:tc=abq:=by
     have:=congrArg (fun l=>(l.drop 1).take 3) rW
     simpa [List.take_left' uQ.len,List.take_left' PR.len] using this
    subst rW;(try simp only [go_sem,simprocAttr,abr,az (n:=3) (uU.at cH _root_.id) uS.len]);refine aK (by rfl) ?_;refine (O1 (fun b hb=>oM.lt b hb) PR (lC.aB (aj uU))).mono ?_;rintro _ gA ⟨⟨cf,rfl,tB⟩,cR⟩;have PS:=yW.trans (aj (uU.trans cR));(try simp only [go_sem,simprocAttr]);refine bN (cs:=cI) rfl rfl (PS.at aw (eI hc z1)) tB.len rfl tB.one ?_;intro px pn fK DU;(try simp only [go_sem,simprocAttr,aE,RV.ev,az (n:=3) pn tB.len,aF]);exact ⟨qu (st:=(dA.1,gH dA.2 b.name)) (oM.aB cR) tB fK hc.bt (gK hc z1),((aj aY).trans PS).step fK (fun b hb hl=>by omega)⟩
end
section
open Go Go.W
theorem abt {l:List Bd} {i:Nat} (hi:i < l.length) (lc:Loc):cE (l.drop i) lc=cE (l.drop (i+1)) (bK lc l[i].name l[i].type):=by rw [List.drop_eq_getElem_cons hi,cE]
theorem abu {E:Env} {l:List Bd} {i:Nat} (hi:i < l.length) (bd:bI):jb E (l.drop i) bd=(match iZ E l[i] bd with | .error x=>.error x | .ok dG=>jb E (l.drop (i+1)) dG):=by rw [List.drop_eq_getElem_cons hi,jb];try rfl
theorem abv {E:Env} {l:List Bd} {i:Nat} (hi:i < l.length) (st:St):iN E (l.drop i) st=(match cj E l[i].value st with | .error x=>.error x | .ok y=>if fQ y.1 l[i].type=true then iN E (l.drop (i+1)) y.2 else .error 83):=by rw [List.drop_eq_getElem_cons hi,Bn];try rfl
theorem abw {l:List Bd} {i:Nat} (hi:i < l.length) (lc:Loc):kC (l.drop i) lc=kC (l.drop (i+1)) (gH lc l[i].name):=by rw [List.drop_eq_getElem_cons hi,kC,List.map_cons,im,kC]
theorem abx:Fn 89:=⟨_,rfl,rfl,rfl⟩
theorem PT {E:Env} {e:Ex} {w:World} {S:Nat→Prop} {M:Ms} {bd:bI} {lc:Loc} {cs:List Value} {b2 b3:Nat} (hc:bL w S M E bd lc) (h:bH w (Out S w) cs e) (aO:w.heap[b3]? = some (.cells cs.toArray 47 (0,0))) (aw:w.heap[b2]? = some (.cells #[ptr M.c] 98 (0,0))) (n3:¬ M.two b3) (n2:¬ M.two b2) :
   ba Tryz.prog 89 [ptr b3,ptr b2] w fun r w'=>bL w' S M E bd (cE e.binds lc)∧Mod M.two w w':=by
 obtain ⟨vt,va,vb,vl,rfl,ht,ha,hb,hl⟩:=h.parts;obtain ⟨ab,cb,rfl⟩:=a8 hb;refine Y'.calls rfl ?_;unfold Io;(try simp only [go_sem,simprocAttr,cell_of aO]);have S2:=hc.two;refine lZ (PP:=fun w'=>dP w' (Out S w)) (l:=e.binds) (B:=Out S w) (fun k ρ w'=>k≤e.binds.length∧Mod M.two w w'∧(∃ gY,bL w' S M E bd gY∧cE (e.binds.drop k) gY=cE e.binds lc)∧ρ=[(1,ptr b2),(5,.slice ab e.binds.length cb),(6,I e.binds.length),(7,I k)])
  ⟨by omega,.refl _ _,⟨lc,hc,rfl⟩,rfl⟩ hb ?_ (fun _ _ _ h=>h.one) rfl ?_ ?_
 ·rintro k _ w2 ⟨hk,ai,_,rfl⟩;exact ⟨⟨hb.up ai (fun b hb hh=>hb.2 (S2 b hh)) (fun _ h=>h) (fun _ _ h=>h.up ai (fun b hb hh=>hb.2 (S2 b hh)) (fun _ h=>h)),hk⟩,rfl,rfl,rfl⟩
 ·rintro k _ w2 hk w3 r b pv ⟨_,ai,⟨gY,bm,uV⟩,rfl⟩ hr bV aZ ar hnb;have mn:dP w3.drew (Out S w3.drew) r e.binds[k]:=hr.up ar.drew aC (fun b hb=>⟨by have:=hb.1;have:=ai.size;have:=ar.size;have e:w3.drew.heap.size=w3.heap.size:=rfl;omega,hb.2⟩);have aby:w3.drew.heap[b]? = _:=aZ;obtain ⟨tc,ec,rfl,uQ,rV,k1,k2,k0,kl⟩:=xj mn aby;have cr:=bm.aB ar;have lj:=(ai.trans (aj ar)).at aw n2;have Bu:fV w3 3 (.pointer (some ⟨b,1,none⟩))=some (.agg tc.toArray):=by rw [← ci];exact k1
  have JH:w3.cell? ⟨b,0,none⟩=some (.string e.binds[k].name):=k0;(try simp only [go_sem,simprocAttr,cell_of lj,cell_of cr.box,JH,ci,Bu]);refine JE (n:=e.binds[k].name) (cr.aB (Mod.refl _ _).drew) rfl rfl rfl uQ ?_;intro w5 iO aD eB;(try simp only [go_sem,simprocAttr]);exact ⟨hk,(ai.trans (aj ar)).trans aD.ez,_,iO,by rw [← uV,abt hk]⟩
 ·rintro _ w2 ⟨_,ai,⟨gY,bm,uV⟩,rfl⟩;rw [List.drop_length,cE] at uV;subst uV;(try simp only [go_sem,simprocAttr]);exact ⟨bm,ai⟩
def Kept (w:World) (S:Nat→Prop) (M:Ms) (E:Env) (cz:List Value) (u:Value) (x:Except Int (Ty×St)):Prop:=match x with
 | .error e=>u=I e∧e≠0∧∃ bd lc,bL w S M E bd lc
 | .ok y=>u=I 0∧aX w (Out S w) cz y.1∧bL w S M E y.2.1 y.2.2
theorem PU {E:Env} (hE:kD E) (gz:dm E iA 0=false) {e x:Ex} (eX:e.args=[x]) (ii:rT E x) (sU:∀ b∈e.binds,rT E b.value) {w:World} {S:Nat→Prop} {M:Ms} {st:St} {cs:List Value} (hc:bL w S M E st.1 st.2) (hg:cZ E st.2) (h:bH w (Out S w) cs e) :
   ba Tryz.prog 69 [ptr M.c,.agg cs.toArray] w fun r w'=>pu w' S M E r (match jb E e.binds st.1 with
    | .error x=>.error x
    | .ok bd=>match iN E e.binds (bd,if e.kind=7 then cE e.binds st.2 else st.2) with
     | .error x=>.error x
     | .ok bX=>match cG E e.args (bX.1,cE e.binds bX.2) with
      | .error x=>.error x
      | .ok y=>.ok (y.1.headD default,(y.2.1,kC e.binds y.2.2)))∧Mod M.two w w':=by
 obtain ⟨vt,va,vb,vl,rfl,ht,ha,hb,hl⟩:=h.parts;obtain ⟨aa,ca,rfl⟩:=a8 ha;obtain ⟨ab,cb,rfl⟩:=a8 hb;obtain ⟨fn1,eE,gm,iy⟩:=abx.ok;refine YO.calls rfl ?_;unfold H3;(try simp only [go_sem,Nat.reduceAdd,Nat.reduceEqDiff,Nat.reduceLT,Nat.reduceLeDiff,Nat.reduceMul,reduceCtorEq,↓reduceIte]);refine bB rfl ?_;intro wa je jf ot;(try simp only [go_sem,Nat.reduceAdd,Nat.reduceEqDiff,Nat.reduceLT,Nat.reduceLeDiff,Nat.reduceMul,reduceCtorEq,↓reduceIte]);refine bB rfl ?_;intro wb dV fI xk;(try simp only [go_sem,Nat.reduceAdd,Nat.reduceEqDiff,Nat.reduceLT,Nat.reduceLeDiff,Nat.reduceMul,reduceCtorEq,↓reduceIte]);refine cQ ?_;intro w3 aZ j0 hsc;have aO:=j0.at dV _root_.id;have aw:=(fI.trans j0).at je _root_.id;have bo:=jf.trans (fI.trans j0);have za:=jf.size;have zb:=fI.size;have zw:w.heap.size≤wb.heap.size:=by omega
 have cr:bL w3 (aN S wb.heap.size) M E st.1 st.2:=hc.ext bo (eC zw) (fun b hb=>.inl hb) (fun b hb=>by
  rcases hb with h | h
  ·have:=hc.lt b h;omega
  ·omega)
 have S3:=cr.two;have n2:¬ M.two w.heap.size:=eI hc (Nat.le_refl _);have n3:¬ M.two wa.heap.size:=eI hc za;have n4:¬ M.two wb.heap.size:=eI hc zw;have lx:e.args.length=1:=by rw [eX];rfl
 have rX:bH w3 (Out (aN S wb.heap.size) w3) [I e.kind,.string e.name,I e.num,vt,.slice aa e.args.length ca,.slice ab e.binds.length cb,vl] e:=h.ext (aj bo) (eC zw);have uN:aQ w3 (.slice aa e.args.length ca) 7 (Out (aN S wb.heap.size) w3) (bH w3 (Out (aN S wb.heap.size) w3)) e.args:=ha.up bo aC (eh (aj bo) (eC zw)) (fun _ _ h=>h.ext (aj bo) (eC zw));have DV:aQ w3 (.slice ab e.binds.length cb) 11 (Out (aN S wb.heap.size) w3) (dP w3 (Out (aN S wb.heap.size) w3)) e.binds:=hb.up bo aC (eh (aj bo) (eC zw)) (fun _ _ h=>h.up bo aC (eh (aj bo) (eC zw)));have later:∀ {w':World},Mod M.two w3 w'→aQ w' (.slice ab e.binds.length cb) 11 (Out (aN S wb.heap.size) w3) (dP w' (Out (aN S wb.heap.size) w3)) e.binds:=fun hm=>
  DV.up hm (fun b hb hh=>hb.2 (S3 b hh)) (fun _ h=>h) (fun _ _ h=>h.up hm (fun b hb hh=>hb.2 (S3 b hh)) (fun _ h=>h))
 have now:∀ {w' dT:World} {r:List Value} {b:Bd},Mod M.two w3 w'→Mod (fun _=>False) w' dT→dP w' (Out (aN S wb.heap.size) w3) r b→dP dT (Out (aN S wb.heap.size) dT) r b:=fun hm fD hr=>
  hr.up fD aC (fun b hb=>⟨by have:=hb.1;have:=hm.size;have:=fD.size;omega,hb.2⟩)
 (try simp only [go_sem,Nat.reduceAdd,Nat.reduceEqDiff,Nat.reduceLT,Nat.reduceLeDiff,Nat.reduceMul,reduceCtorEq,↓reduceIte,cell_of aO,Value.cells]);refine lZ (PP:=fun w'=>dP w' (Out (aN S wb.heap.size) w3)) (l:=e.binds) (B:=Out (aN S wb.heap.size) w3) (fun k ρ w'=>k≤e.binds.length∧Mod M.two w3 w'∧(∃ qx,bL w' (aN S wb.heap.size) M E qx st.2∧jb E (e.binds.drop k) qx=jb E e.binds st.1)∧ρ=[(2,ptr w.heap.size),(3,ptr wa.heap.size),(4,ptr wb.heap.size),(19,.slice ab e.binds.length cb),(20,I e.binds.length),(21,I k)])
  ⟨by omega,.refl _ _,⟨st.1,cr,rfl⟩,rfl⟩ DV ?_ (fun _ _ _ h=>h.one) rfl ?_ ?_
 ·rintro k _ w4 ⟨hk,aA,_,rfl⟩;exact ⟨⟨later aA,hk⟩,rfl,rfl,rfl⟩
 ·rintro k _ w4 hk w5 r b7 pv ⟨_,aA,⟨qx,bm,dD⟩,rfl⟩ hr bV cH aD _;have eT:=aA.trans (aj aD);(try simp only [go_sem,Nat.reduceAdd,Nat.reduceEqDiff,Nat.reduceLT,Nat.reduceLeDiff,Nat.reduceMul,reduceCtorEq,↓reduceIte,cell_of (eT.at aw n2),Value.cells,az (n:=11) cH bV]);refine aK (by rfl) ?_;refine (Pn (B:=fun _=>False) e.binds[k] (bm.aB aD) (now aA aD hr)).mono ?_;rintro r6 w6 ⟨oJ,aJ⟩;have yX:=eT.trans aJ;rw [abu hk] at dD;cases uP:iZ E e.binds[k] qx with
  | error e4=>
   rw [uP] at oJ dD;obtain ⟨rfl,bw,PL,jZ⟩:=oJ;have gL:(e4 != 0)=true:=by simpa using bw
   rw [← dD];(try simp only [go_sem,Nat.reduceAdd,Nat.reduceEqDiff,Nat.reduceLT,Nat.reduceLeDiff,Nat.reduceMul,reduceCtorEq,↓reduceIte,gL]);refine gh hc zw (yX.at aZ n4) ((aj bo).trans yX) jZ rfl rfl ?_;intro w7 cH aL bm;(try simp only [go_sem,Nat.reduceAdd,Nat.reduceEqDiff,Nat.reduceLT,Nat.reduceLeDiff,Nat.reduceMul,reduceCtorEq,↓reduceIte,aE,RV.ev,az (n:=3) cH rfl,aF]);exact ⟨.bad bw bm,aL⟩
  | ok dG=>
   rw [uP] at oJ dD;obtain ⟨rfl,jd⟩:=oJ;(try simp only [go_sem,Nat.reduceAdd,Nat.reduceEqDiff,Nat.reduceLT,Nat.reduceLeDiff,Nat.reduceMul,reduceCtorEq,↓reduceIte]);exact ⟨hk,yX,dG,jd,dD⟩
 rintro _ w4 ⟨_,aA,⟨bd,jA,dD⟩,rfl⟩;rw [List.drop_length,jb] at dD;rw [← dD];have DS:=Jr e.binds dD.symm;have aO:=aA.at aO n3;(try simp only [go_sem,Nat.reduceAdd,Nat.reduceEqDiff,Nat.reduceLT,Nat.reduceLeDiff,Nat.reduceMul,reduceCtorEq,↓reduceIte,cell_of aO,Value.cells]);refine AT (fun ρ w'=>Mod M.two w3 w'∧bL w' (aN S wb.heap.size) M E bd (if e.kind=7 then cE e.binds st.2 else st.2)∧ρ.get 2=some (ptr w.heap.size)∧ρ.get 3=some (ptr wa.heap.size)∧ρ.get 4=some (ptr wb.heap.size)∧ρ.get 9=some (.func (.func 89) #[] #[ptr wa.heap.size,ptr w.heap.size])) ?_ ?_
 ·cases PV:e.kind == 7 with
  | false=>(try simp only [go_sem,Nat.reduceAdd,Nat.reduceEqDiff,Nat.reduceLT,Nat.reduceLeDiff,Nat.reduceMul,reduceCtorEq,↓reduceIte]);exact ⟨aA,by rw [if_neg (by simpa using PV)];exact jA⟩
  | true=>
   (try simp only [go_sem,Nat.reduceAdd,Nat.reduceEqDiff,Nat.reduceLT,Nat.reduceLeDiff,Nat.reduceMul,reduceCtorEq,↓reduceIte]);refine wz (f:=89) (cap:=#[ptr wa.heap.size,ptr w.heap.size]) rfl (by rfl) eE gm iy ?_;refine (PT jA (rX.aB (aA.aT S3)) aO (aA.at aw n2) n3 n2).mono ?_;rintro r5 w5 ⟨iO,aD⟩;(try simp only [go_sem,Nat.reduceAdd,Nat.reduceEqDiff,Nat.reduceLT,Nat.reduceLeDiff,Nat.reduceMul,reduceCtorEq,↓reduceIte]);exact ⟨aA.trans aD,by rw [if_pos (by simpa using PV)];exact iO⟩
 rintro ρ w5 ⟨aD,iO,g2,g3,g4,g9⟩;generalize abz:(if e.kind=7 then cE e.binds st.2 else st.2)=Bv at iO;have uR:cZ E Bv:=by
  rw [← abz];split
  ·exact cZ.cE _ hg DS
  ·exact hg
 have aO:=aD.at (w':=w5) (show w3.heap[wa.heap.size]? = _ from j0.at dV _root_.id) n3;(try simp only [go_sem,Nat.reduceAdd,Nat.reduceEqDiff,Nat.reduceLT,Nat.reduceLeDiff,Nat.reduceMul,reduceCtorEq,↓reduceIte,g2,g3,g4,g9,cell_of aO,Value.cells]);refine lZ (PP:=fun w'=>dP w' (Out (aN S wb.heap.size) w3)) (l:=e.binds) (B:=Out (aN S wb.heap.size) w3) (fun k ρ w'=>k≤e.binds.length∧Mod M.two w3 w'∧(∃ yY:St,bL w' (aN S wb.heap.size) M E yY.1 yY.2∧cZ E yY.2∧iN E (e.binds.drop k) yY=iN E e.binds (bd,Bv))∧ρ=[(2,ptr w.heap.size),(3,ptr wa.heap.size),(4,ptr wb.heap.size),(9,.func (.func 89) #[] #[ptr wa.heap.size,ptr w.heap.size]),(40,.slice ab e.binds.length cb),(41,I e.binds.length),(42,I k)])
  ⟨by omega,aD,⟨(bd,Bv),iO,uR,rfl⟩,rfl⟩ DV ?_ (fun _ _ _ h=>h.one) rfl ?_ ?_
 ·rintro k _ w6 ⟨hk,aJ,_,rfl⟩;exact ⟨⟨later aJ,hk⟩,rfl,rfl,rfl⟩
 ·rintro k _ w6 hk w7 r mU pv ⟨_,aJ,⟨yY,bm,PW,dz⟩,rfl⟩ hr bV fy aL aiu;have mV:=aJ.trans (aj aL);have DW:=now aJ aL hr;obtain ⟨tc,ec,rfl,uQ,rV,k1,k2,k0,kl⟩:=xj DW fy;(try simp only [go_sem,Nat.reduceAdd,Nat.reduceEqDiff,Nat.reduceLT,Nat.reduceLeDiff,Nat.reduceMul,reduceCtorEq,↓reduceIte,cell_of (mV.at aw n2),Value.cells,k2]);refine aK (by rfl) ?_;refine (sU _ (List.getElem_mem hk) (bm.aB aL) PW rV).mono ?_;rintro r8 w8 ⟨mq,bh⟩;have py:=mV.trans bh;rw [abv hk] at dz;cases bZ:cj E e.binds[k].value yY with
  | error e4=>
   rw [bZ] at mq dz;obtain ⟨cz,bA,bR,rfl,bw,bd6,lc6,jZ⟩:=mq;have gL:(e4 != 0)=true:=by simpa using bw
   rw [← dz];(try simp only [go_sem,Nat.reduceAdd,Nat.reduceEqDiff,Nat.reduceLT,Nat.reduceLeDiff,Nat.reduceMul,reduceCtorEq,↓reduceIte]);refine di (n:=3) (vs:=cz) rfl bA bR ?_;intro w9 dp aV gZ;(try simp only [go_sem,Nat.reduceAdd,Nat.reduceEqDiff,Nat.reduceLT,Nat.reduceLeDiff,Nat.reduceMul,reduceCtorEq,↓reduceIte,gL]);refine gh hc zw ((py.trans (aj aV)).at aZ n4) ((aj bo).trans (py.trans (aj aV))) (jZ.aB aV) rfl rfl ?_;intro cV ff bE bm;(try simp only [go_sem,Nat.reduceAdd,Nat.reduceEqDiff,Nat.reduceLT,Nat.reduceLeDiff,Nat.reduceMul,reduceCtorEq,↓reduceIte,aE,RV.ev,az (n:=3) ff rfl,aF]);exact ⟨.bad bw bm,bE⟩
  | ok y1=>
   obtain ⟨t1,dA⟩:=y1;rw [bZ] at mq dz;obtain ⟨⟨c8,rfl,lC⟩,lB⟩:=mq;have g8:=rR hE gz _ _ _ PW bZ;(try simp only [go_sem,Nat.reduceAdd,Nat.reduceEqDiff,Nat.reduceLT,Nat.reduceLeDiff,Nat.reduceMul,reduceCtorEq,↓reduceIte]);refine di (n:=3) (vs:=c8) rfl lC.len lC.one ?_;intro w9 dp aV gZ;have oI:Mod M.two w7 w9:=bh.trans (aj aV);have DX:=oI.at fy (eI hc (by have:=bo.size;have:=aJ.size;omega));have yZ:dP w9 (Out (aN S wb.heap.size) w9) (.string e.binds[k].name::(tc++ec)) e.binds[k]:=DW.aB (oI.aT S3);obtain ⟨JK,ec',e9,PX,aiv,Bu,_,_,_⟩:=xj yZ DX;have e9:tc=JK:=by
    have:=congrArg (fun l=>(l.drop 1).take 3) e9
    simpa [List.take_left' uQ.len,List.take_left' PX.len] using this
   subst e9;(try simp only [go_sem,Nat.reduceAdd,Nat.reduceEqDiff,Nat.reduceLT,Nat.reduceLeDiff,Nat.reduceMul,reduceCtorEq,↓reduceIte,az (n:=3) dp lC.len,Bu]);refine aK (by rfl) ?_;refine (DA t1 (lC.aB (aj aV)) PX).mono ?_;rintro _ cV ⟨rfl,bE⟩;have Bw:=py.trans (aj (aV.trans bE));have oM:=lB.aB (aV.trans bE);have DY:(if fQ t1 e.binds[k].type=true then iN E (e.binds.drop (k+1)) dA else .error 83)=iN E e.binds (bd,Bv):=dz;cases hs:fQ t1 e.binds[k].type with
   | false=>
    rw [if_neg (by rw [hs];simp)] at DY;rw [← DY];(try simp only [go_sem,Nat.reduceAdd,Nat.reduceEqDiff,Nat.reduceLT,Nat.reduceLeDiff,Nat.reduceMul,reduceCtorEq,↓reduceIte]);refine gh hc zw (Bw.at aZ n4) ((aj bo).trans Bw) oM rfl rfl ?_;intro gA fy cR bm;(try simp only [go_sem,Nat.reduceAdd,Nat.reduceEqDiff,Nat.reduceLT,Nat.reduceLeDiff,Nat.reduceMul,reduceCtorEq,↓reduceIte,aE,RV.ev,az (n:=3) fy rfl,aF]);exact ⟨.bad (by decide) bm,cR⟩
   | true=>
    rw [if_pos hs] at DY;(try simp only [go_sem,Nat.reduceAdd,Nat.reduceEqDiff,Nat.reduceLT,Nat.reduceLeDiff,Nat.reduceMul,reduceCtorEq,↓reduceIte]);exact ⟨hk,Bw,dA,oM,g8.2,DY⟩
 rintro _ w6 ⟨_,aJ,⟨bX,jd,JM,dz⟩,rfl⟩;rw [List.drop_length,iN] at dz;rw [← dz];(try simp only [go_sem,Nat.reduceAdd,Nat.reduceEqDiff,Nat.reduceLT,Nat.reduceLeDiff,Nat.reduceMul,reduceCtorEq,↓reduceIte]);refine wz (f:=89) (cap:=#[ptr wa.heap.size,ptr w.heap.size]) rfl (by rfl) eE gm iy ?_;have aO:=aJ.at (w':=w6) (show w3.heap[wa.heap.size]? = _ from j0.at dV _root_.id) n3;refine (PT jd (rX.aB (aJ.aT S3)) aO (aJ.at aw n2) n3 n2).mono ?_;rintro r7 w7 ⟨kF,aL⟩;have mV:=aJ.trans aL;have uW:cZ E (cE e.binds bX.2):=cZ.cE _ JM DS;have aO:=aL.at aO n3;have lj:=mV.at aw n2;have PY:aQ w7 (.slice aa e.args.length ca) 7 (Out (aN S wb.heap.size) w7) (bH w7 (Out (aN S wb.heap.size) w7)) e.args:=uN.up mV (fun b hb hh=>hb.2 (S3 b hh)) (aU (mV.aT S3)) (fun _ _ h=>h.aB (mV.aT S3));have b1:(0:Int)≤0∧(0:Int) < e.args.length:=by omega
 obtain ⟨ad,c1,r1,e1,hx,oK⟩:=tz PY (i:=0) (by omega);obtain ⟨rfl,-,-⟩:=b9 e1;have xg:e.args[0]'(by omega)=x:=by simp [eX]
 rw [xg] at hx;rw [Nat.zero_mul,add_zero'] at oK;have pw:cG E e.args (bX.1,cE e.binds bX.2)=(match cj E x (bX.1,cE e.binds bX.2) with | .error e=>.error e | .ok y=>.ok ([y.1],y.2)):=by
  rw [eX];simp only [cG]
  try (cases cj E x (bX.1,cE e.binds bX.2)<;>rfl)
 (try simp only [go_sem,Nat.reduceAdd,Nat.reduceEqDiff,Nat.reduceLT,Nat.reduceLeDiff,Nat.reduceMul,reduceCtorEq,↓reduceIte,bq,br,cell_of lj,cell_of aO,Value.cells,b1,Nat.zero_mul,oK,ci]);have d7:Mod (fun _=>False) w7 w7.drew:=(Mod.refl _ _).drew;have z7:=mV.size;have z03:=bo.size;have ed:w7.drew.heap.size=w7.heap.size:=rfl;have PZ:ad.block < w7.heap.size:=by
  obtain ⟨Di,_,r',e',_,jW,_,lX⟩:=dL PY (i:=0) (by omega);obtain ⟨e'',-,-⟩:=b9 e';cases e'';have:=lW (lX 0 (by omega))
  rwa [sN,sN] at this
 refine WB (fun ρ w'=>∃ y0 cz u,ρ.get 2=some (ptr w.heap.size)∧ρ.get 3=some (ptr wa.heap.size)∧ρ.get 4=some (ptr wb.heap.size)∧ρ.get 14=some (ptr y0)∧ρ.get 15=some u∧w'.heap[y0]? = some (.cells cz.toArray dQ (0,0))∧cz.length=3∧(∀ u∈cz,u.oneCell'=true)∧Mod M.two w3 w'∧w7.heap.size≤y0 ∧
  Kept w' (aN S wb.heap.size) M E cz u (cj E x (bX.1,cE e.binds bX.2))) ?_ ?_
 ·rw [GK];refine ⟨?_,?_⟩
  ·refine aK (by rfl) ?_;refine (ii (st:=(bX.1,cE e.binds bX.2)) (kF.aB d7) uW (hx.aB (aj d7))).mono ?_;rintro r8 w8 ⟨mq,bh⟩;have qy:Mod M.two w7 w8:=bh.ez;have z8:=qy.size;have key:∃ cz u,r8 = .tuple #[.agg cz.toArray,u]∧cz.length=3∧(∀ u∈cz,u.oneCell'=true)∧Kept w8 (aN S wb.heap.size) M E cz u (cj E x (bX.1,cE e.binds bX.2)):=by
    cases bZ:cj E x (bX.1,cE e.binds bX.2) with
    | error e4=>rw [bZ] at mq;obtain ⟨cz,bA,bR,rfl,bw,bm⟩:=mq;exact ⟨cz,_,rfl,bA,bR,rfl,bw,bm⟩
    | ok y1=>rw [bZ] at mq;obtain ⟨⟨cz,rfl,bz⟩,bm⟩:=mq;exact ⟨cz,_,rfl,bz.len,bz.one,rfl,bz,bm⟩
   obtain ⟨cz,u,rfl,bA,bR,cP⟩:=key;(try simp only [go_sem,Nat.reduceAdd,Nat.reduceEqDiff,Nat.reduceLT,Nat.reduceLeDiff,Nat.reduceMul,reduceCtorEq,↓reduceIte]);refine cQ ?_;intro w9 dp aV gZ;have zz:w3.heap.size≤w8.heap.size:=by omega
   (try simp only [go_sem,Nat.reduceAdd,Nat.reduceEqDiff,Nat.reduceLT,Nat.reduceLeDiff,Nat.reduceMul,reduceCtorEq,↓reduceIte]);have h9:∀ b,b < w7.heap.size→w9.heap[b]? = w8.heap[b]?:=fun b hb=>aV.bY b (by omega) _root_.id
   refine ⟨⟨h9 _ PZ,h9 _ (by omega),h9 _ (by omega)⟩,?_⟩;refine bN (cs:=cI) rfl rfl dp bA rfl bR ?_;intro cV ff bE qp;have gM:Mod (fun _=>False) w8 cV:=aV.step bE (fun b hb hl=>by omega);(try simp only [go_sem,Nat.reduceAdd,Nat.reduceEqDiff,Nat.reduceLT,Nat.reduceLeDiff,Nat.reduceMul,reduceCtorEq,↓reduceIte]);refine ⟨_,_,_,rfl,rfl,ff,bA,bR,(mV.trans qy).trans (aj gM),by omega,?_⟩;cases bZ:cj E x (bX.1,cE e.binds bX.2) with
   | error e4=>rw [bZ] at cP;obtain ⟨k1,k2,pz,mW,k3⟩:=cP;exact ⟨k1,k2,pz,mW,k3.aB gM⟩
   | ok y1=>rw [bZ] at cP;obtain ⟨k1,k2,k3⟩:=cP;exact ⟨k1,k2.aB (aj gM),k3.aB gM⟩
  ·refine cQ ?_;intro w8 cO bh mP;have qy:Mod (fun _=>False) w7 w8:=bh.ez;have h8:∀ b,b < w7.heap.size→w8.heap[b]? = w7.heap[b]?:=fun b hb=>qy.bY b hb _root_.id
   (try simp only [go_sem,Nat.reduceAdd,Nat.reduceEqDiff,Nat.reduceLT,Nat.reduceLeDiff,Nat.reduceMul,reduceCtorEq,↓reduceIte]);refine ⟨⟨h8 _ PZ,h8 _ (by omega),h8 _ (by omega)⟩,?_⟩;have jB:∀ b,b < w7.heap.size→aN (aN S wb.heap.size) w7.heap.size b→aN S wb.heap.size b:=fun b hb hh=>by
    rcases hh with h | h
    ·exact h
    ·omega
   have lB:bL w8 (aN (aN S wb.heap.size) w7.heap.size) M E bX.1 (cE e.binds bX.2):=kF.ext qy jB (fun b hb=>.inl hb) (fun b hb=>by
    rcases hb with h | h
    ·have:=kF.lt b h;omega
    ·omega)
   refine aK (by rfl) ?_;refine (ii (st:=(bX.1,cE e.binds bX.2)) lB uW (hx.ext (aj qy) jB)).mono ?_;rintro r9 w9 ⟨yZ,aV⟩;have z9:=aV.size;have cO:=aV.at cO (eI hc (by omega));have key:∃ cz u,r9 = .tuple #[.agg cz.toArray,u]∧cz.length=3∧(∀ u∈cz,u.oneCell'=true)∧Kept w9 (aN (aN S wb.heap.size) w7.heap.size) M E cz u (cj E x (bX.1,cE e.binds bX.2)):=by
    cases bZ:cj E x (bX.1,cE e.binds bX.2) with
    | error e4=>rw [bZ] at yZ;obtain ⟨cz,bA,bR,rfl,bw,bm⟩:=yZ;exact ⟨cz,_,rfl,bA,bR,rfl,bw,bm⟩
    | ok y1=>rw [bZ] at yZ;obtain ⟨⟨cz,rfl,bz⟩,bm⟩:=yZ;exact ⟨cz,_,rfl,bz.len,bz.one,rfl,bz,bm⟩
   obtain ⟨cz,u,rfl,bA,bR,cP⟩:=key;(try simp only [go_sem,Nat.reduceAdd,Nat.reduceEqDiff,Nat.reduceLT,Nat.reduceLeDiff,Nat.reduceMul,reduceCtorEq,↓reduceIte]);refine bN (cs:=cI) rfl rfl cO bA rfl bR ?_;intro cV ff bE qp;have P1:∀ b∈M.list,¬ b=w7.heap.size:=gK hc (by omega);have DZ:∀ b,aN S wb.heap.size b→aN (aN S wb.heap.size) w7.heap.size b:=fun b hb=>.inl hb
   have P2:∀ b∈M.list,aN S wb.heap.size b:=fun b hb=>.inl (hc.bt b hb)
   (try simp only [go_sem,Nat.reduceAdd,Nat.reduceEqDiff,Nat.reduceLT,Nat.reduceLeDiff,Nat.reduceMul,reduceCtorEq,↓reduceIte]);refine ⟨_,_,_,rfl,rfl,ff,bA,bR,(mV.trans ((aj qy).trans aV)).step bE (fun b hb hl=>by omega),by omega,?_⟩;cases bZ:cj E x (bX.1,cE e.binds bX.2) with
   | error e4=>rw [bZ] at cP;obtain ⟨k1,k2,pz,mW,k3⟩:=cP;exact ⟨k1,k2,pz,mW,(k3.side bE (fun b hb=>.inr hb) P1).sub DZ P2⟩
   | ok y1=>rw [bZ] at cP;obtain ⟨k1,k2,k3⟩:=cP;exact ⟨k1,(k2.aB (bE.aT (fun b hb=>.inr hb))).sub DZ,(k3.side bE (fun b hb=>.inr hb) P1).sub DZ P2⟩
 rintro ρ w8 ⟨y0,cz,u,g2,g3,g4,g14,g15,Bx,bA,bR,bh,aiw,cP⟩;have aO:=bh.at (w':=w8) (show w3.heap[wa.heap.size]? = _ from j0.at dV _root_.id) n3;(try simp only [go_sem,Nat.reduceAdd,Nat.reduceEqDiff,Nat.reduceLT,Nat.reduceLeDiff,Nat.reduceMul,reduceCtorEq,↓reduceIte,g2,g3,g4,g14,g15,cell_of aO,Value.cells]);have out:∀ (dG:bI) (gy:Loc),bL w8 (aN S wb.heap.size) M E dG gy→True:=fun _ _ _=>trivial
 have abA:∃ dG gy,bL w8 (aN S wb.heap.size) M E dG gy∧(∀ y,cj E x (bX.1,cE e.binds bX.2) = .ok y→dG=y.2.1∧gy=y.2.2):=by
  cases bZ:cj E x (bX.1,cE e.binds bX.2) with
  | error e4=>rw [bZ] at cP;obtain ⟨_,_,pz,mW,k3⟩:=cP;exact ⟨pz,mW,k3,fun y h=>by cases h⟩
  | ok y1=>rw [bZ] at cP;exact ⟨_,_,cP.2.2,fun y h=>by cases h;exact ⟨rfl,rfl⟩⟩
 obtain ⟨pz,mW,lB,JN⟩:=abA;have n14:¬ M.two y0:=eI hc (by omega);refine lZ (PP:=fun w'=>dP w' (Out (aN S wb.heap.size) w3)) (l:=e.binds) (B:=Out (aN S wb.heap.size) w3) (fun k ρ w'=>k≤e.binds.length∧Mod M.two w8 w'∧(∃ gY,bL w' (aN S wb.heap.size) M E pz gY∧kC (e.binds.drop k) gY=kC e.binds mW)∧ρ=[(2,ptr w.heap.size),(4,ptr wb.heap.size),(14,ptr y0),(15,u),(76,.slice ab e.binds.length cb),(77,I e.binds.length),(78,I k)])
  ⟨by omega,.refl _ _,⟨mW,lB,rfl⟩,rfl⟩ DV ?_ (fun _ _ _ h=>h.one) rfl ?_ ?_
 ·rintro k _ w9 ⟨hk,aV,_,rfl⟩;exact ⟨⟨later (bh.trans aV),hk⟩,rfl,rfl,rfl⟩
 ·rintro k _ w9 hk cV r b17 pv ⟨_,aV,⟨gY,bm,qz⟩,rfl⟩ hr bV D1 bE _;have Bw:=(bh.trans aV).trans (aj bE);have xb:=now (bh.trans aV) bE hr;obtain ⟨tc,ec,rfl,uQ,rV,k1,k2,k0,kl⟩:=xj xb D1;have oM:=bm.aB bE;(try simp only [go_sem,Nat.reduceAdd,Nat.reduceEqDiff,Nat.reduceLT,Nat.reduceLeDiff,Nat.reduceMul,reduceCtorEq,↓reduceIte,cell_of (Bw.at aw n2),Value.cells,cell_of oM.box,k0]);refine DR (n:=e.binds[k].name) rfl (oM.aB (Mod.refl _ _).drew) rfl rfl ?_;intro gA JO cR uX;(try simp only [go_sem,Nat.reduceAdd,Nat.reduceEqDiff,Nat.reduceLT,Nat.reduceLeDiff,Nat.reduceMul,reduceCtorEq,↓reduceIte]);exact ⟨hk,(aV.trans (aj bE)).trans cR.ez,_,JO,by rw [← qz,abw hk]⟩
 rintro _ w9 ⟨_,aV,⟨gY,bm,qz⟩,rfl⟩;have qz:gY=kC e.binds mW:=by rw [← qz,List.drop_length];rfl
 subst qz;have Bx:=aV.at Bx n14;have P3:=bh.trans aV;(try simp only [go_sem,Nat.reduceAdd,Nat.reduceEqDiff,Nat.reduceLT,Nat.reduceLeDiff,Nat.reduceMul,reduceCtorEq,↓reduceIte,az (n:=3) Bx bA]);refine bN (cs:=cI) rfl rfl (P3.at aZ n4) bA rfl bR ?_;intro cV ff bE qp;have j5:Mod M.two w cV:=((aj bo).trans P3).step bE (fun b hb hl=>by omega);cases bZ:cj E x (bX.1,cE e.binds bX.2) with
 | error e4=>
  rw [bZ] at cP pw;obtain ⟨rfl,bw,_⟩:=cP;have gN:cG E e.args (bX.1,cE e.binds bX.2) = .error e4:=pw;(try simp only [go_sem,Nat.reduceAdd,Nat.reduceEqDiff,Nat.reduceLT,Nat.reduceLeDiff,Nat.reduceMul,reduceCtorEq,↓reduceIte,aE,RV.ev,az (n:=3) ff bA,aF]);rw [gN];exact ⟨⟨cz,bA,bR,rfl,bw,_,_,(bm.side bE (fun b hb=>.inr hb) (gK hc zw)).sub (fun b hb=>.inl hb) hc.bt⟩,j5⟩
 | ok y1=>
  obtain ⟨t1,dA⟩:=y1;obtain ⟨rfl,rfl⟩:=JN _ bZ;rw [bZ] at cP pw;obtain ⟨rfl,bz,_⟩:=cP;have gN:cG E e.args (bX.1,cE e.binds bX.2) = .ok ([t1],dA):=pw;(try simp only [go_sem,Nat.reduceAdd,Nat.reduceEqDiff,Nat.reduceLT,Nat.reduceLeDiff,Nat.reduceMul,reduceCtorEq,↓reduceIte,aE,RV.ev,az (n:=3) ff bA,aF]);rw [gN];exact ⟨qu (st:=(dA.1,kC e.binds dA.2)) bm (bz.aB (aV.aT S3)) bE hc.bt (gK hc zw),j5⟩
end
section
open Go Go.W
theorem abB:Fn 101:=⟨_,rfl,rfl,rfl⟩
def uY (a b:Al):Bool:=(b.kind == a.kind&&aR b.bg a.bg)&&b.num == a.num
theorem abC {α:Type} {w:World} {a:Option Addr} {n c sz:Nat} {B:Nat→Prop} {P:List Value→α→Prop} {l:List α} (h:aQ w (.slice a n c) sz B P l) {i:Nat} (hi:i≤l.length):aQ w (.slice a i c) sz B P (l.take i):=by
 obtain ⟨rows,⟨⟨a',c',e,hb,hr⟩,hlen⟩,h2,h3⟩:=h;obtain ⟨rfl,rfl,rfl⟩:a=a'∧n=rows.length∧c=c':=by cases e;exact ⟨rfl,rfl,rfl⟩
 refine ⟨rows.take i,⟨⟨a,c,by rw [List.length_take];congr 1;omega,fun h0=>hb (by rw [List.length_take] at h0;omega),fun j hj=>?_⟩,by rw [List.length_take];omega⟩,by rw [List.length_take,List.length_take];omega,fun j r x ux hx=>?_⟩
 ·rw [List.length_take] at hj;obtain ⟨ad,h4,h5,h6⟩:=hr j (by omega);exact ⟨ad,h4,by rw [List.getElem_take];exact h5,by rw [List.getElem_take];exact h6⟩
 ·have hj:j < i:=by
   rcases Nat.lt_or_ge j i with h | h
   ·exact h
   ·rw [List.getElem?_eq_none (by rw [List.length_take];omega)] at ux;cases ux
  rw [List.getElem?_take_of_lt hj] at ux hx;exact h3 j r x ux hx
theorem abD {a b:Al} {w:World} {B B':Nat→Prop} {r cs:List Value} {bb:Nat} (hb:gq w B r b) (ha:gq w B' cs a) (iM:w.heap[bb]? = some (.cells cs.toArray 97 (0,0))) :
   ba Tryz.prog 101 [.agg r.toArray,ptr bb] w fun x w'=>x = .bool (uY a b)∧Mod (fun _=>False) w w':=by
 obtain ⟨vb,eb,rfl,_,_⟩:=hb;obtain ⟨va,ea,rfl,_,_⟩:=ha;refine Zs.calls rfl ?_;unfold IA;(try simp only [go_sem,simprocAttr]);refine bB rfl ?_;intro w1 au ak bP;have iM:=ak.at iM _root_.id;(try simp only [go_sem,simprocAttr,cell_of au,cell_of iM,Value.cells]);cases h1:b.kind == a.kind with
 | false=>(try simp only [go_sem,simprocAttr]);exact ⟨congrArg _ (by rw [uY,h1];rfl),ak⟩
 | true=>
  (try simp only [go_sem,simprocAttr,cell_of au,cell_of iM,Value.cells]);cases h2:b.bg.toList == a.bg.toList with
  | false=>(try simp only [go_sem,simprocAttr]);exact ⟨congrArg _ (by rw [uY,aR,h1,h2];rfl),ak⟩
  | true=>
   (try simp only [go_sem,simprocAttr,cell_of au,cell_of iM,Value.cells]);exact ⟨congrArg _ (by rw [uY,aR,h1,h2];rfl),ak⟩
theorem abE {all:List Al} {i:Nat} (hi:i < all.length) {of:Ty} {w:World} {B B':Nat→Prop} {v:Value} {cs:List Value} (hl:aQ w v 11 B (gq w B) all) (lV:yB v) (ht:aX w B' cs of) :
   ba Tryz.prog 90 [v,I i,.agg cs.toArray] w fun r w'=>r = .bool (ly all i of)∧Mod (fun _=>False) w w':=by
 obtain ⟨a,c,rfl⟩:=a8 hl;obtain ⟨vt,rfl,_⟩:=ht.cells;refine Za.calls rfl ?_;unfold Ip;(try simp only [go_sem,simprocAttr]);refine bB rfl ?_;intro w1 au ak bP;obtain ⟨ad,c1,r,e,hr,D2,bQ,_⟩:=dL (hl.mod ak aC (fun _ _ h=>h.mod ak aC)) hi;cases e;have b1:(0:Int)≤i∧(i:Int) < all.length:=by omega
 (try simp only [go_sem,simprocAttr,bq,br,b1,bQ]);refine di (n:=11) (vs:=r) rfl D2 hr.one ?_;intro w2 aw ai bS;have aY:=ak.trans ai;have au:=ai.at au _root_.id;obtain ⟨vv,ec,rfl,lD,rV⟩:=hr;obtain ⟨av,cv,rfl⟩:=a8 lD;have uZ:all[i]? = some all[i]:=List.getElem?_eq_getElem hi;generalize hx:all[i]=x at *;have c0:w2.cell? ⟨w1.heap.size,0,none⟩=some (I x.kind):=by rw [cell_of aw];rfl
 have c1:w2.cell? ⟨w1.heap.size,1,none⟩=some (.string x.bg):=by rw [cell_of aw];rfl
 have c2:w2.cell? ⟨w1.heap.size,2,none⟩=some (I x.num):=by rw [cell_of aw];rfl
 have c3:w2.cell? ⟨w1.heap.size,3,none⟩=some (.slice av x.vars.length cv):=by rw [cell_of aw];rfl
 have ck:w2.cell? ⟨w.heap.size,0,none⟩=some (I of.kind):=by rw [cell_of au];rfl
 (try simp only [go_sem,simprocAttr,c0]);have aix:all.length≤c:=lV;have eU:ly all i of=if (x.kind == 1)=true then (if (x.num != 0||of.kind != 4)=true then false else !(all.take i).any (uY x))
     else if (x.kind == 2)=true then (if ((((!aR x.bg bD||decide ((x.vars.length:Int) > 0))||of.kind != 1)||decide (x.num < -4611686018427387904))||decide (x.num > 4611686018427387903))=true then false else !(all.take i).any (uY x))
     else if (x.kind == 3)=true then ((aR x.bg bD&&x.num == 0)&&(x.vars.length:Int) == 0)&&(i:Int) == Wr (all.length - 1)
     else false:=by
  unfold ly;rw [uZ];rfl
 have no:ly all i of=false→Value.bool false=Value.bool (ly all i of)∧Mod (fun _=>False) w w2:=fun h=>⟨by rw [h],aY⟩
 refine td (fun ρ w'=>w2=w'∧ly all i of = !(all.take i).any (uY x)∧ρ.get 0=some (.slice (some ad) all.length c)∧ρ.get 1=some (I i)∧ρ.get 7=some (ptr w1.heap.size)) ?_ ?_
 ·(try simp only [go_sem,simprocAttr]);cases k1:x.kind == 1 with
  | true=>
   rw [if_pos k1] at eU;(try simp only [go_sem,simprocAttr,c2,ck]);cases n1:x.num != 0 with
   | true=>(try simp only [go_sem,simprocAttr]);exact no (by rw [eU,n1];rfl)
   | false=>
    (try simp only [go_sem,simprocAttr,ck]);cases n2:of.kind != 4 with
    | true=>(try simp only [go_sem,simprocAttr]);exact no (by rw [eU,n1,n2];rfl)
    | false=>(try simp only [go_sem,simprocAttr]);exact by rw [eU,n1,n2];rfl
  | false=>
   rw [if_neg (by rw [k1];simp)] at eU;(try simp only [go_sem,simprocAttr,c1,c2,c3,ck]);cases k2:x.kind == 2 with
   | true=>
    rw [if_pos k2,aR] at eU;(try simp only [go_sem,simprocAttr,c1,c2,c3,ck]);cases n1:x.bg.toList == ByteArray.toList ⟨#[]⟩ with
    | false=>(try simp only [go_sem,simprocAttr,c1,c2,c3,ck]);exact no (by rw [eU,n1];rfl)
    | true=>
     rw [n1] at eU;(try simp only [go_sem,simprocAttr,c1,c2,c3,ck]);cases n2:decide ((x.vars.length:Int) > 0) with
     | true=>rw [n2] at eU;(try simp only [go_sem,simprocAttr,c1,c2,c3,ck]);exact no (by rw [eU];rfl)
     | false=>
      rw [n2] at eU;(try simp only [go_sem,simprocAttr,c1,c2,c3,ck]);cases n3:of.kind != 1 with
      | true=>rw [n3] at eU;(try simp only [go_sem,simprocAttr,c1,c2,c3,ck]);exact no (by rw [eU];rfl)
      | false=>
       rw [n3] at eU;(try simp only [go_sem,simprocAttr,c1,c2,c3,ck]);cases n4:decide (x.num < -4611686018427387904) with
       | true=>rw [n4] at eU;(try simp only [go_sem,simprocAttr,c1,c2,c3,ck]);exact no (by rw [eU];rfl)
       | false=>
        rw [n4] at eU;(try simp only [go_sem,simprocAttr,c1,c2,c3,ck]);cases n5:decide (x.num > 4611686018427387903) with
        | true=>rw [n5] at eU;(try simp only [go_sem,simprocAttr]);exact no (by rw [eU];rfl)
        | false=>rw [n5] at eU;(try simp only [go_sem,simprocAttr]);exact by rw [eU];rfl
   | false=>
    rw [if_neg (by rw [k2];simp)] at eU;(try simp only [go_sem,simprocAttr,c1,c2,c3,ck]);cases k3:x.kind == 3 with
    | true=>
     rw [if_pos k3,aR] at eU;(try simp only [go_sem,simprocAttr,c1,c2,c3]);cases n1:x.bg.toList == ByteArray.toList ⟨#[]⟩ with
     | false=>(try simp only [go_sem,simprocAttr,c1,c2,c3]);exact no (by rw [eU,n1];rfl)
     | true=>
      rw [n1] at eU;(try simp only [go_sem,simprocAttr,c1,c2,c3]);cases n2:x.num == 0 with
      | false=>rw [n2] at eU;(try simp only [go_sem,simprocAttr,c1,c2,c3]);exact no (by rw [eU];rfl)
      | true=>
       rw [n2] at eU;(try simp only [go_sem,simprocAttr,c1,c2,c3]);cases n3:(x.vars.length:Int) == 0 with
       | false=>rw [n3] at eU;(try simp only [go_sem,simprocAttr,c1,c2,c3]);exact no (by rw [eU];rfl)
       | true=>
        rw [n3] at eU;(try simp only [go_sem,simprocAttr,c1,c2,c3]);exact ⟨congrArg _ (by rw [eU];rfl),aY⟩
    | false=>
     rw [if_neg (by rw [k3];simp)] at eU;(try simp only [go_sem,simprocAttr]);exact no eU
 ·rintro ρ _ ⟨rfl,hf,g0,g1,g7⟩;have hle:(i:Int)≤c:=by omega
  (try simp only [go_sem,simprocAttr,bq,br,g0,g1,g7,hle]);have AH:(if c=0 then some ad else some ad)=some ad:=by split<;>rfl
  rw [AH];refine ⟨_,rfl,?_⟩;have hm:=aY;refine aK (by rfl) ?_;refine (Z7 (PP:=fun w=>gq w B) (p:=uY x) (abC (hl.mod aY aC (fun _ _ h=>h.mod aY aC)) (Nat.le_of_lt hi)) (fun _ _ _ _ h hm=>h.mod hm aC) abB ?_).mono ?_
  ·intro w3 r3 u hu ar mn;exact abD mn (B':=B) (cs:=I x.kind :: .string x.bg::I x.num :: .slice av x.vars.length cv::ec) ⟨_,ec,rfl,(lD.mod ai aC (fun _ _ h=>h)).mod ar aC (fun _ _ h=>h),(rV.mod ai aC).mod ar aC⟩ (ar.at aw _root_.id)
  ·rintro _ w3 ⟨rfl,ar⟩;(try simp only [go_sem,simprocAttr]);exact ⟨congrArg _ hf.symm,aY.trans ar⟩
end
section
open Go Go.W
theorem qA {fl:List Nat} {w w':World}:∀ (rd:List (Nat×Nat)),(∀ p∈rd,w'.heap[p.2]? = w.heap[p.2]?)→kS fl w w' rd
 | [],_=>trivial
 | (i,b)::rd,h=>⟨fun _=>h (i,b) (by simp),qA rd (fun p hp=>h p (by simp [hp]))⟩
theorem yv {w w':World}:∀ (rd:List (Nat×Nat)),kS [] w w' rd
 | []=>trivial
 | (i,b)::rd=>⟨fun h=>(by simp [yq] at h),yv rd⟩
theorem D3 {P:Program} {w:World} {ρ:Go.W.Env} {K:Go.W.Env→World→Prop} {rd:List (Nat×Nat)} {α:Type} {Rr:Value→α→Prop} {l:List (ByteArray×α)} {b0:Nat} {k:ByteArray} {t kt et:TypeId} {m x:Nat} {i i2 i3 i4 j j2 j3 a b c d f g T n:Nat} {z:Value} {fl:List Nat} {ty:TypeId} {pos:String} {af:Array Edge} {zc:List Value}
   (hm:ρ.get m=some (.map (some b0))) (hx:ρ.get x=some (.string k)) (ht:P.underlying t=some (.map kt et)) (gU:P.underlying kt=some .string) (hz0:∀ w,(zeroValue et).run P w = .ok (.agg zc.toArray) w) (P4:zc.length=n∧∀ u∈zc,u.oneCell'=true) (hz:z.cells.size=n)
   (h:cD w b0 Rr l) (hR:∀ v y,Rr v y→∃ cs:List Value,v = .agg cs.toArray∧cs.length=n∧∀ u∈cs,u.oneCell'=true) (eV:∀ p∈rd,p.2 < w.heap.size)
   (hd:([a,b,c,d,f,g].Nodup∧m≠f∧x≠f))
   (hk:∀ (w':World) (aH:Go.W.Env) (cz:List Value) (u:Value),(∀ s,s∉[a,b,c,d,f,g]→aH.get s=ρ.get s)→aH.get f=some (ptr w.heap.size)→aH.get g=some u→w'.heap[w.heap.size]? = some (.cells cz.toArray T (0,0))→Mod (fun _=>False) w w'→cz.length=n→(∀ u∈cz,u.oneCell'=true) →
    ((aI l k=none∧u = .bool false)∨∃ y,aI l k=some y∧Rr (.agg cz.toArray) y∧u = .bool true)→K aH w') :
   df P (.e2 i (some a) (.raw ⟨some a,.lookup t (.tmp m) (.tmp x) true,ty,pos,af,none⟩) [] (.r i2 none (some b) (.mv (.t a)) <| .r i3 none (some c) (.ex 0 (.t b)) <| .r i4 none (some d) (.ex 1 (.t b)) <| .e j none (some f) (.al T z) fl <| .e j2 none none (.st n (.t f) (.t c)) [] <| .r j3 none (some g) (.mv (.t d)) .nil)
    j (some f) (.al T z) fl (.e i none (some a) (.raw ⟨some a,.lookup t (.tmp m) (.tmp x) true,ty,pos,af,none⟩) [] <| .r i2 none (some b) (.mv (.t a)) <| .r i3 none (some c) (.ex 0 (.t b)) <| .r i4 none (some d) (.ex 1 (.t b)) <| .e j2 none none (.st n (.t f) (.t c)) [] <| .r j3 none (some g) (.mv (.t d)) .nil)) ρ w rd K:=by
 obtain ⟨lf,j5,hxf⟩:=hd;simp only [List.nodup_cons,List.mem_cons,List.not_mem_nil,or_false,not_or,not_false_eq_true,List.nodup_nil,and_true] at lf;obtain ⟨⟨nab,nac,nad,Bz,nag⟩,⟨BA,nbd,BB,nbg⟩,⟨tC,tD,ncg⟩,⟨tE,ndg⟩,xl⟩:=lf;have look:∀ (w0:World) (tF:Go.W.Env) (K0:Value→World→Prop),cD w0 b0 Rr l→tF.get m=some (.map (some b0))→tF.get x=some (.string k) →
     (∀ (cz:List Value) (u:Value),cz.length=n→(∀ u∈cz,u.oneCell'=true)→((aI l k=none∧u = .bool false)∨∃ y,aI l k=some y∧Rr (.agg cz.toArray) y∧u = .bool true)→K0 (.tuple #[.agg cz.toArray,u]) w0) →
     Go.W.E.wp P w0 tF K0 (.raw ⟨some a,.lookup t (.tmp m) (.tmp x) true,ty,pos,af,none⟩):=by
  intro w0 tF K0 h0 iV eX qB;refine Bh (k:=k) iV eX ht gU (hz0 w0) h0 (fun hn=>qB zc _ P4.1 P4.2 (.inl ⟨hn,rfl⟩)) (fun v y hy hr=>?_);obtain ⟨cs,rfl,h1,h2⟩:=hR v y hr;exact qB cs _ h1 h2 (.inr ⟨y,hy,hr,rfl⟩)
 rw [GK];refine ⟨?_,?_⟩
 ·refine look w ρ _ h hm hx ?_;intro cz u h1 h2 h3;refine ⟨qA _ (fun _ _=>rfl),?_⟩;refine ⟨.tuple #[.agg cz.toArray,u],by simp [R.ev,O.ev,Env.put,Env.get],.agg cz.toArray,by simp [R.ev,O.ev,Env.put,Env.get,p8],u,by simp [R.ev,O.ev,Env.put,Env.get,p8,Ne.symm BA],?_⟩;refine cQ ?_;intro w1 au ak bP;refine ⟨qA _ (fun p hp=>ak.bY _ (eV p hp) _root_.id),?_⟩;refine bN (w:=w1) (cs:=z.cells.toList) (vs:=cz) (by simp [O.ev,Env.put,Env.get];rfl) (by simp [O.ev,Env.put,Env.get,tC,Ne.symm tC,tD,Ne.symm tD]) (by simpa using au) h1 (by simpa using hz) h2 ?_;intro w2 aw ai bS;refine ⟨qA _ (fun p hp=>ai.bY _ (by have:=eV p hp;omega) (by have:=eV p hp;omega)),?_⟩;refine ⟨u,by simp [R.ev,O.ev,Env.put,Env.get,tE,Ne.symm tE],?_⟩;refine hk w2 _ cz u (fun s hs=>?_) (by simp [Env.put,Env.get,xl,Ne.symm xl]) (by simp [Env.put,Env.get]) aw (ak.step ai (fun b hb hl=>by omega)) h1 h2 h3;simp only [List.mem_cons,List.not_mem_nil,or_false,not_or] at hs;obtain ⟨s1,s2,s3,s4,s5,s6⟩:=hs;simp [Env.put,Env.get,Ne.symm s1,Ne.symm s2,Ne.symm s3,Ne.symm s4,Ne.symm s5,Ne.symm s6]
 ·refine cQ ?_;intro w1 au ak bP;refine ⟨qA _ (fun p hp=>ak.bY _ (eV p hp) _root_.id),?_⟩;refine look w1 _ _ (h.mod ak _root_.id (fun _ _ x=>x)) (by simp [Env.put,Env.get,Ne.symm j5,hm]) (by simp [Env.put,Env.get,Ne.symm hxf,hx]) ?_;intro cz u h1 h2 h3;refine ⟨qA _ (fun _ _=>rfl),?_⟩;refine ⟨.tuple #[.agg cz.toArray,u],by simp [R.ev,O.ev,Env.put,Env.get],.agg cz.toArray,by simp [R.ev,O.ev,Env.put,Env.get,p8],u,by simp [R.ev,O.ev,Env.put,Env.get,p8,Ne.symm BA],?_⟩;refine bN (w:=w1) (cs:=z.cells.toList) (vs:=cz) (by simp [O.ev,Env.put,Env.get,Bz,BB,tD,tE];rfl) (by simp [O.ev,Env.put,Env.get,tC,Ne.symm tC]) (by simpa using au) h1 (by simpa using hz) h2 ?_;intro w2 aw ai bS;refine ⟨qA _ (fun p hp=>ai.bY _ (by have:=eV p hp;omega) (by have:=eV p hp;omega)),?_⟩;refine ⟨u,by simp [R.ev,O.ev,Env.put,Env.get],?_⟩;refine hk w2 _ cz u (fun s hs=>?_) (by simp [Env.put,Env.get,Bz,BB,tD,tE,Ne.symm xl]) (by simp [Env.put,Env.get]) aw (ak.step ai (fun b hb hl=>by omega)) h1 h2 h3;simp only [List.mem_cons,List.not_mem_nil,or_false,not_or] at hs;obtain ⟨s1,s2,s3,s4,s5,s6⟩:=hs;simp [Env.put,Env.get,Ne.symm s1,Ne.symm s2,Ne.symm s3,Ne.symm s4,Ne.symm s5,Ne.symm s6]
theorem abF {P:Program} {w:World} {ρ:Go.W.Env} {K:Go.W.Env→World→Prop} {rd:List (Nat×Nat)} {Ms:Nat→Prop} {PA PB Post:World→List Value→Value→Prop} {fn:FuncId} {args:List O} {vs:List Value} {i i2 i3 i4 j j2 j3 a b c d f g T n:Nat} {z:Value} {fl:List Nat}
   (ha:gl ρ args=some vs) (ij:∀ v,gl ((f,v)::ρ) args=some vs) (hz:z.cells.size=n) (hMs:∀ b,w.heap.size≤b→¬ Ms b) (eV:∀ p∈rd,p.2 < w.heap.size)
   (hA:ba P fn vs w fun r w1=>∃ (cz:List Value) (u:Value),r = .tuple #[.agg cz.toArray,u]∧cz.length=n∧(∀ u∈cz,u.oneCell'=true)∧PA w1 cz u∧Mod Ms w w1)
   (hB:∀ w0,Mod (fun _=>False) w w0→w0.heap.size=w.heap.size+1→ba P fn vs w0 fun r w1=>∃ (cz:List Value) (u:Value),r = .tuple #[.agg cz.toArray,u]∧cz.length=n∧(∀ u∈cz,u.oneCell'=true)∧PB w1 cz u∧Mod Ms w0 w1)
   (hAP:∀ w1 cz u w2,PA w1 cz u→Mod (fun _=>False) w1 w2→Post w2 cz u) (hBP:∀ w1 cz u w2,PB w1 cz u→Mod (· = w.heap.size) w1 w2→Post w2 cz u)
   (hd:[a,b,c,d,f,g].Nodup)
   (hk:∀ (w':World) (aH:Go.W.Env) (bb:Nat) (cz:List Value) (u:Value),(∀ s,s∉[a,b,c,d,f,g]→aH.get s=ρ.get s)→aH.get f=some (ptr bb)→aH.get g=some u→w'.heap[bb]? = some (.cells cz.toArray T (0,0))→w.heap.size≤bb→Mod Ms w w'→cz.length=n→(∀ u∈cz,u.oneCell'=true)→Post w' cz u→K aH w') :
   df P (.e2 i (some a) (.call fn args) [] (.r i2 none (some b) (.mv (.t a)) <| .r i3 none (some c) (.ex 0 (.t b)) <| .r i4 none (some d) (.ex 1 (.t b)) <| .e j none (some f) (.al T z) fl <| .e j2 none none (.st n (.t f) (.t c)) [] <| .r j3 none (some g) (.mv (.t d)) .nil)
    j (some f) (.al T z) fl (.e i none (some a) (.call fn args) [] <| .r i2 none (some b) (.mv (.t a)) <| .r i3 none (some c) (.ex 0 (.t b)) <| .r i4 none (some d) (.ex 1 (.t b)) <| .e j2 none none (.st n (.t f) (.t c)) [] <| .r j3 none (some g) (.mv (.t d)) .nil)) ρ w rd K:=by
 have lf:=hd;simp only [List.nodup_cons,List.mem_cons,List.not_mem_nil,or_false,not_or,not_false_eq_true,List.nodup_nil,and_true] at lf;obtain ⟨⟨nab,nac,nad,Bz,nag⟩,⟨BA,nbd,BB,nbg⟩,⟨tC,tD,ncg⟩,⟨tE,ndg⟩,xl⟩:=lf;rw [GK];refine ⟨?_,?_⟩
 ·refine aK ha (hA.mono ?_);rintro r w1 ⟨cz,u,rfl,h1,h2,hp,ak⟩;have z1:=ak.size;refine ⟨yv _,?_⟩;refine ⟨.tuple #[.agg cz.toArray,u],by simp [R.ev,O.ev,Env.put,Env.get],.agg cz.toArray,by simp [R.ev,O.ev,Env.put,Env.get,p8],u,by simp [R.ev,O.ev,Env.put,Env.get,p8,Ne.symm BA],?_⟩;refine cQ ?_;intro w2 aw ai bS;refine ⟨qA _ (fun p hp=>ai.bY _ (by have:=eV p hp;omega) _root_.id),?_⟩;refine bN (w:=w2) (cs:=z.cells.toList) (vs:=cz) (by simp [O.ev,Env.put,Env.get];rfl) (by simp [O.ev,Env.put,Env.get,tC,Ne.symm tC,tD,Ne.symm tD]) (by simpa using aw) h1 (by simpa using hz) h2 ?_;intro w3 aO ar eR;refine ⟨qA _ (fun p hp=>ar.bY _ (by have:=eV p hp;omega) (by have:=eV p hp;omega)),?_⟩;refine ⟨u,by simp [R.ev,O.ev,Env.put,Env.get,tE,Ne.symm tE],?_⟩;have oN:Mod (fun _=>False) w1 w3:=ai.step ar (fun b hb hl=>by omega);refine hk w3 _ w1.heap.size cz u (fun s hs=>?_) (by simp [Env.put,Env.get,xl,Ne.symm xl]) (by simp [Env.put,Env.get]) aO (by omega) (ak.trans (aj oN)) h1 h2 (hAP _ _ _ _ hp oN);simp only [List.mem_cons,List.not_mem_nil,or_false,not_or] at hs;obtain ⟨s1,s2,s3,s4,s5,s6⟩:=hs;simp [Env.put,Env.get,Ne.symm s1,Ne.symm s2,Ne.symm s3,Ne.symm s4,Ne.symm s5,Ne.symm s6]
 ·refine cQ ?_;intro w1 au ak bP;refine ⟨qA _ (fun p hp=>ak.bY _ (eV p hp) _root_.id),?_⟩;refine aK (ij _) ((hB w1 ak bP).mono ?_);rintro r w2 ⟨cz,u,rfl,h1,h2,hp,ai⟩;have z2:=ai.size;refine ⟨yv _,?_⟩;refine ⟨.tuple #[.agg cz.toArray,u],by simp [R.ev,O.ev,Env.put,Env.get],.agg cz.toArray,by simp [R.ev,O.ev,Env.put,Env.get,p8],u,by simp [R.ev,O.ev,Env.put,Env.get,p8,Ne.symm BA],?_⟩;refine bN (w:=w2) (cs:=z.cells.toList) (vs:=cz) (by simp [O.ev,Env.put,Env.get,Bz,BB,tD,tE];rfl) (by simp [O.ev,Env.put,Env.get,tC,Ne.symm tC]) (by simpa using ai.at au (hMs _ (Nat.le_refl _))) h1 (by simpa using hz) h2 ?_;intro w3 aO ar eR;refine ⟨qA _ (fun p hp=>ar.bY _ (by have:=eV p hp;omega) (by have:=eV p hp;omega)),?_⟩;refine ⟨u,by simp [R.ev,O.ev,Env.put,Env.get],?_⟩;refine hk w3 _ w.heap.size cz u (fun s hs=>?_) (by simp [Env.put,Env.get,Bz,BB,tD,tE,Ne.symm xl]) (by simp [Env.put,Env.get]) aO (Nat.le_refl _) (((aj ak).trans ai).step ar (fun b hb hl=>by omega)) h1 h2 (hBP _ _ _ _ hp ar);simp only [List.mem_cons,List.not_mem_nil,or_false,not_or] at hs;obtain ⟨s1,s2,s3,s4,s5,s6⟩:=hs;simp [Env.put,Env.get,Ne.symm s1,Ne.symm s2,Ne.symm s3,Ne.symm s4,Ne.symm s5,Ne.symm s6]
end
end Go.Proofs.YtjfgeekjjlhbdaaGreatDoor