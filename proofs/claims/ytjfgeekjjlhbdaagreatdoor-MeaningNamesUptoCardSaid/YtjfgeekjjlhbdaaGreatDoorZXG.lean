/- The row and the card of MeaningNames. -/
import Derived.Test.YtjfgeekjjlhbdaaGreatDoorZXF
set_option linter.unusedSimpArgs false
set_option linter.unusedVariables false
set_option maxRecDepth 100000
namespace Go.Proofs.YtjfgeekjjlhbdaaGreatDoor
section
open Go Go.W
abbrev zDf:List Value:=[.string bD,.slice none 0 0,I 0,.string bD,.slice none 0 0,I 0,.string bD,I 0,.slice none 0 0,.slice none 0 0,.slice none 0 0,.slice none 0 0]
theorem agT {s:ByteArray} (h:s.size≤1048576):¬ (((s.size+(#[32,110,111,98,111,100,121,39,115]:Array UInt8).size:Nat):Int) > IntKind.i64.max):=by
 have e1:(#[32,110,111,98,111,100,121,39,115]:Array UInt8).size=9:=rfl;have e2:IntKind.i64.max=9223372036854775807:=by decide +kernel
 rw [e1,e2];omega
theorem agU {s:ByteArray} (h:s.size≤1048576):Nm (s++x8):=by
 have e1:(s++x8).size=s.size+9:=by rw [ByteArray.size_append];rfl
 show (s++x8).size < _;omega
theorem agV {α β:Type} (f:α→β) {l:List α} {j:Nat} (h:j < l.length):(l.reverse.take (j+1)).map f=(l.reverse.take j).map f++[f (l[l.length - 1 - j]'(by omega))]:=by
 have hr:j < l.reverse.length:=by rw [List.length_reverse];exact h
 rw [CS f hr,List.getElem_reverse]
theorem og.upS {w w':World} {B B' S:Nat→Prop} {oc:List Value} {x:Option Rn} (h:og w B oc x) (hm:Mod S w w') (hd:∀ b,B b→¬ S b) (hB:∀ b,B b→B' b):og w' B' oc x:=by
 match x,h with
 | none,h=>exact h
 | some m,⟨v,h1,h2⟩=>exact ⟨v,h1,aQ.up h2 hm hd hB (fun _ _ h=>h)⟩
theorem U' {w:World} {B:Nat→Prop} {oc:List Value} {x:Option Rn} (h:og w B oc x):∃ k s n v l,oc=cS k s n v∧uf w B v l∧∀ m,x=some m→k=m.kind∧s=m.stuck∧n=m.steps∧l=m.told:=by
 match x,h with
 | none,h=>exact ⟨_,_,_,_,[],h,fH _ _ _ _,fun m h=>by cases h⟩
 | some m,⟨v,h1,h2⟩=>exact ⟨_,_,_,_,_,h1,h2,fun m' h=>by cases h;exact ⟨rfl,rfl,rfl,rfl⟩⟩
theorem agW (p:Pg) {name:ByteArray} {input:List Int} {fuel:Int} {v:Value} {w:World} {cs:List Value} (h:jr w (Out (fun _=>False) w) cs p) (hi:sS w v input) (hn:name.size≤1048576) (cF:p.an.length≤1048576∧∀ d∈p.an,iw d.body) :
   ba Tryz.prog 4 [.agg cs.toArray,.string name,v,I fuel] w fun r w'=>r = .bool true∧Mod (fun _=>False) w w':=by
 have h0:=h;have FM:=hi;obtain ⟨N,hN⟩:=afP p name;obtain ⟨r1,mO,B6,no1⟩:=hN N (Nat.le_refl _) input fuel;obtain ⟨hle,cF⟩:=cF;obtain ⟨vd,vf,rfl,hd,hf⟩:=h;obtain ⟨ad,cd,rfl⟩:=a8 hd;obtain ⟨af,cf,rfl⟩:=a8 hf;obtain ⟨av,cv,rfl,ai9,Cr⟩:=hi;refine Xm.calls rfl ?_;unfold G6;refine dO (fun ρ w'=>Mod (fun _=>False) w w'∧w'.heap[w.heap.size]? = some (.cells [.slice ad p.aG.length cd,.slice af p.an.length cf].toArray 25 (0,0))∧ρ=[(1,.string name),(2,.slice av input.length cv),(3,I fuel),(4,ptr w.heap.size)]) ?_ ?_
 ·(try simp only [go_sem,Nat.reduceAdd,Nat.reduceEqDiff,Nat.reduceLT,Nat.reduceLeDiff,Nat.reduceMul,reduceCtorEq,↓reduceIte]);refine bB rfl ?_;intro w1 au ak bP;(try simp only [go_sem,Nat.reduceAdd,Nat.reduceEqDiff,Nat.reduceLT,Nat.reduceLeDiff,Nat.reduceMul,reduceCtorEq,↓reduceIte]);exact ⟨ak,au⟩
 rintro _ w1 ⟨Ah,aZ,rfl⟩;refine dO (fun ρ w'=>∃ b,Mod (fun _=>False) w w'∧w'.heap[w.heap.size]? = some (.cells [.slice ad p.aG.length cd,.slice af p.an.length cf].toArray 25 (0,0))∧ρ=[(1,.string name),(2,.slice av input.length cv),(3,I fuel),(4,ptr w.heap.size),(9,.bool b)]) ?_ ?_
 ·(try simp only [go_sem,Nat.reduceAdd,Nat.reduceEqDiff,Nat.reduceLT,Nat.reduceLeDiff,Nat.reduceMul,reduceCtorEq,↓reduceIte,az (n:=2) aZ rfl]);refine aK (by rfl) ?_;refine (adB p (h0.mod Ah aC)).mono ?_;rintro _ w2 ⟨⟨b,rfl⟩,ai⟩;(try simp only [go_sem,Nat.reduceAdd,Nat.reduceEqDiff,Nat.reduceLT,Nat.reduceLeDiff,Nat.reduceMul,reduceCtorEq,↓reduceIte]);exact ⟨b,Ah.trans ai,ai.at aZ _root_.id,rfl⟩
 rintro _ w2 ⟨b,iS,aZ,rfl⟩;refine dO (fun ρ w'=>w2=w'∧ρ.get 1=some (.string name)∧ρ.get 2=some (.slice av input.length cv)∧ρ.get 3=some (I fuel)∧ρ.get 4=some (ptr w.heap.size)) ?_ ?_
 ·cases b with
  | true=>(try simp only [go_sem,Nat.reduceAdd,Nat.reduceEqDiff,Nat.reduceLT,Nat.reduceLeDiff,Nat.reduceMul,reduceCtorEq,↓reduceIte,aE,RV.ev,aF]);exact iS
  | false=>(try simp only [go_sem,Nat.reduceAdd,Nat.reduceEqDiff,Nat.reduceLT,Nat.reduceLeDiff,Nat.reduceMul,reduceCtorEq,↓reduceIte])
 rintro ρ _ ⟨rfl,g1,g2,g3,g4⟩;refine dO (fun ρ w'=>Mod (fun _=>False) w w'∧w'.heap[w.heap.size]? = some (.cells [.slice ad p.aG.length cd,.slice af p.an.length cf].toArray 25 (0,0))∧ρ.get 1=some (.string name)∧ρ.get 2=some (.slice av input.length cv)∧ρ.get 3=some (I fuel)∧ρ.get 4=some (ptr w.heap.size)∧ρ.get 10=some (.bool true)) ?_ ?_
 ·(try simp only [go_sem,Nat.reduceAdd,Nat.reduceEqDiff,Nat.reduceLT,Nat.reduceLeDiff,Nat.reduceMul,reduceCtorEq,↓reduceIte,g1,g2,g3,g4]);refine aK (by rfl) ?_;refine agc.mono ?_;rintro _ w3 ⟨rfl,ar⟩;(try simp only [go_sem,Nat.reduceAdd,Nat.reduceEqDiff,Nat.reduceLT,Nat.reduceLeDiff,Nat.reduceMul,reduceCtorEq,↓reduceIte,g1,g2,g3,g4]);exact ⟨iS.trans ar,ar.at aZ _root_.id⟩
 clear iS aZ g1 g2 g3 g4;rintro ρ w3 ⟨lQ,aZ,g1,g2,g3,g4,g10⟩;refine dO (fun ρ w'=>∃ mU Ak,w.heap.size < mU∧og w' (fun b=>w.heap.size≤b∧b < w'.heap.size) Ak r1.2∧w'.heap[mU]? = some (.cells Ak.toArray 34 (0,0))∧Mod (fun _=>False) w w'∧w'.heap[w.heap.size]? = some (.cells [.slice ad p.aG.length cd,.slice af p.an.length cf].toArray 25 (0,0))∧ρ.get 1=some (.string name)∧ρ.get 2=some (.slice av input.length cv)∧ρ.get 3=some (I fuel)∧ρ.get 4=some (ptr w.heap.size)∧ρ.get 10=some (.bool true)∧ρ.get 11=some (ptr mU)∧ρ.get 12=some (I r1.1)) ?_ ?_
 ·(try simp only [go_sem,Nat.reduceAdd,Nat.reduceEqDiff,Nat.reduceLT,Nat.reduceLeDiff,Nat.reduceMul,reduceCtorEq,↓reduceIte,g1,g2,g3,g4,g10,az (n:=2) aZ rfl]);have qd:gl ((26,Value.agg #[.slice ad p.aG.length cd,.slice af p.an.length cf])::ρ) [.t 26,.t 1,.t 2,.t 3]=some [.agg #[.slice ad p.aG.length cd,.slice af p.an.length cf],.string name,.slice av input.length cv,I fuel]:=by simp only [gl,O.ev,g1,g2,g3,go_sem];rfl
  refine aK qd ?_;refine (LY p (h0.up (S:=fun _=>False) lQ aC (fun b h=>⟨Nat.lt_of_lt_of_le h.1 lQ.size,_root_.id⟩)) (FM.mod lQ (fun _ _ h=>h)) mO).mono ?_;rintro _ w4 ⟨⟨oc,rfl,lA⟩,aA⟩;obtain ⟨k,s',n',v',l',rfl,My⟩:=UE lA;have ho:=js My;(try simp only [go_sem,Nat.reduceAdd,Nat.reduceEqDiff,Nat.reduceLT,Nat.reduceLeDiff,Nat.reduceMul,reduceCtorEq,↓reduceIte,g1,g2,g3,g4,g10]);refine cQ ?_;intro w5 pF aD eB;(try simp only [go_sem,Nat.reduceAdd,Nat.reduceEqDiff,Nat.reduceLT,Nat.reduceLeDiff,Nat.reduceMul,reduceCtorEq,↓reduceIte,g1,g2,g3,g4,g10]);refine bN (vs:=cS k s' n' v') (cs:=cS 0 0 0 (.slice none 0 0)) rfl rfl pF rfl rfl (oh ho) ?_;intro w6 pF aJ fY;have uO:Mod (fun _=>False) w4 w6:=aD.step aJ (fun b hb hl=>by omega);have z4:=aA.size;have z3:=lQ.size;(try simp only [go_sem,Nat.reduceAdd,Nat.reduceEqDiff,Nat.reduceLT,Nat.reduceLeDiff,Nat.reduceMul,reduceCtorEq,↓reduceIte,g1,g2,g3,g4,g10]);have rU:=(aA.trans uO).at aZ _root_.id;have l5:=cC rU;exact ⟨_,_,by have:=cC aZ;omega,lA.up uO (fun b h=>⟨by omega,by have:=uO.size;omega⟩),pF,lQ.trans (aA.trans uO),rU,rfl⟩
 clear g1 g2 g3 g4 g10 aZ lQ;rintro ρ w4 ⟨mU,Ak,l11,lU,fy,om,aZ,g1,g2,g3,g4,g10,g11,g12⟩;refine dO (fun ρ w'=>r1.1=0∧w4=w'∧ρ.get 1=some (.string name)∧ρ.get 2=some (.slice av input.length cv)∧ρ.get 3=some (I fuel)∧ρ.get 4=some (ptr w.heap.size)∧ρ.get 11=some (ptr mU)) ?_ ?_
 ·cases q1:r1.1 != 0 with
  | true=>(try simp only [go_sem,Nat.reduceAdd,Nat.reduceEqDiff,Nat.reduceLT,Nat.reduceLeDiff,Nat.reduceMul,reduceCtorEq,↓reduceIte,g1,g2,g3,g4,g10,g11,g12,q1,aE,RV.ev,aF]);exact om
  | false=>
   (try simp only [go_sem,Nat.reduceAdd,Nat.reduceEqDiff,Nat.reduceLT,Nat.reduceLeDiff,Nat.reduceMul,reduceCtorEq,↓reduceIte,g1,g2,g3,g4,g10,g11,g12,q1])
   simpa using q1
 clear g1 g2 g3 g4 g10 g11 g12;rintro ρ _ ⟨e1,rfl,g1,g2,g3,g4,g11⟩;obtain ⟨r2,wV,bm,agX⟩:=agS mO e1;refine dO (fun ρ w'=>Mod (fun _=>False) w4 w'∧w'.heap[w4.heap.size]? = some (.cells [.slice ad p.aG.length cd,.slice none 0 0].toArray 25 (0,0))∧ρ=[(1,.string name),(2,.slice av input.length cv),(3,I fuel),(4,ptr w.heap.size),(11,ptr mU),(13,ptr w4.heap.size)]) ?_ ?_
 ·(try simp only [go_sem,Nat.reduceAdd,Nat.reduceEqDiff,Nat.reduceLT,Nat.reduceLeDiff,Nat.reduceMul,reduceCtorEq,↓reduceIte,g1,g2,g3,g4,g11,cell_of aZ,Value.cells]);refine cQ ?_;intro w5 bT aD eB;(try simp only [go_sem,Nat.reduceAdd,Nat.reduceEqDiff,Nat.reduceLT,Nat.reduceLeDiff,Nat.reduceMul,reduceCtorEq,↓reduceIte,g1,g2,g3,g4,g11]);refine bN (vs:=[.slice ad p.aG.length cd,.slice none 0 0]) (cs:=[.slice none 0 0,.slice none 0 0]) rfl rfl bT rfl rfl (aW rfl (aW rfl dy)) ?_;intro w6 bU aJ fY;(try simp only [go_sem,Nat.reduceAdd,Nat.reduceEqDiff,Nat.reduceLT,Nat.reduceLeDiff,Nat.reduceMul,reduceCtorEq,↓reduceIte,g1,g2,g3,g4,g11]);exact ⟨aD.step aJ (fun b hb hl=>by omega),bU⟩
 rintro _ w5 ⟨wX,pF,rfl⟩;clear g1 g2 g3 g4 g11;have l13:=cC pF;have l4:=cC aZ;have ai':=cC fy;have vX:=om.trans wX;have aZ:=wX.at aZ _root_.id;have fy:=wX.at fy _root_.id;have lU:=lU.up wX (B':=fun b=>w.heap.size≤b∧b < w4.heap.size) (fun b h=>h);obtain ⟨S1,q1,q2,q3⟩:∃ S1:Nat→Prop,(∀ b,S1 b→b < w5.heap.size)∧(∀ b,S1 b→w4.heap.size≤b)∧S1 w4.heap.size:=⟨fun b=>b=w4.heap.size,fun b hb=>by subst hb;exact l13,fun b hb=>by omega,rfl⟩;have kf:∀ {w'},Mod (fun _=>False) w w'→aQ w' (.slice af p.an.length cf) 12 (Out (fun _=>False) w) (jR w' (Out (fun _=>False) w)) p.an:=fun hm=>hf.mod hm aC (fun _ _ h=>h.mod hm aC)
 refine dO (fun ρ w'=>∃ vq fp,Mod (· = w4.heap.size) w5 w'∧Gr S1 w5.heap.size w' 49 12 vq (fun w B r d=>jR w B r d) (p.an.reverse.map rj) fp∧w'.heap[w4.heap.size]? = some (.cells [.slice ad p.aG.length cd,vq].toArray 25 (0,0))∧ρ.get 1=some (.string name)∧ρ.get 2=some (.slice av input.length cv)∧ρ.get 3=some (I fuel)∧ρ.get 11=some (ptr mU)∧ρ.get 13=some (ptr w4.heap.size)) ?_ ?_
 ·refine dO (fun ρ w'=>w5=w'∧ρ=[(1,.string name),(2,.slice av input.length cv),(3,I fuel),(4,ptr w.heap.size),(11,ptr mU),(13,ptr w4.heap.size),(14,I ((p.an.length:Int) - 1))]) ?_ ?_
  ·(try simp only [go_sem,Nat.reduceAdd,Nat.reduceEqDiff,Nat.reduceLT,Nat.reduceLeDiff,Nat.reduceMul,reduceCtorEq,↓reduceIte,cell_of aZ,Value.cells]);rw [dk (by omega) (by omega)]
  rintro _ _ ⟨rfl,rfl⟩;refine Cf ?_;refine CR p.an.length (fun j ρ w'=>∃ vq fp,j≤p.an.length∧Mod (· = w4.heap.size) w5 w'∧Gr S1 w5.heap.size w' 49 12 vq (fun w B r d=>jR w B r d) ((p.an.reverse.take j).map rj) fp∧w'.heap[w4.heap.size]? = some (.cells [.slice ad p.aG.length cd,vq].toArray 25 (0,0))∧ρ=[(1,.string name),(2,.slice av input.length cv),(3,I fuel),(4,ptr w.heap.size),(11,ptr mU),(13,ptr w4.heap.size),(14,I ((p.an.length:Int) - 1 - j))]) ⟨_,none,by omega,.refl _ _,CQ,pF,by simp⟩ ?_;rintro j _ w6 ⟨vq,fp,hj,aJ,hg,nv,rfl⟩ _;unfold NO;have rU:=aJ.at aZ (by omega);rcases Nat.lt_or_ge j p.an.length with aP | hge
  ·have q:decide ((p.an.length:Int) - 1 - j≥0)=true:=decide_eq_true (by omega);have hi:p.an.length - 1 - j < p.an.length:=by omega
   have ei:(p.an.length:Int) - 1 - j=((p.an.length - 1 - j:Nat):Int):=by omega
   have Mz:Mod (fun _=>False) w w6:=vX.step aJ (fun b hb hl=>by omega);obtain ⟨lm,cc,r,oQ,hr,lu,bQ,_⟩:=dL (kf Mz) hi;cases oQ;have C8:=cF _ (List.getElem_mem hi);generalize hdj:p.an[p.an.length - 1 - j]=d at hr C8;have b1:(0:Int)≤((p.an.length - 1 - j:Nat):Int)∧((p.an.length - 1 - j:Nat):Int) < p.an.length:=by omega
   obtain ⟨vp,tc,bc,rfl,qG,Lk,Va,bz,gm,ja⟩:=hr;have ro:=aW (v:=.string d.name) rfl (aW (js Va) (Dj bz.one gm.one));rw [ei] at q ⊢;(try simp only [go_sem,Nat.reduceAdd,Nat.reduceEqDiff,Nat.reduceLT,Nat.reduceLeDiff,Nat.reduceMul,reduceCtorEq,↓reduceIte,bq,br,cell_of rU,Value.cells,q,b1,bQ,decide_true]);refine di (n:=12) (vs:=.string d.name::vp::(tc++bc)) rfl lu ro ?_;intro w7 cH aL iL;have cH:w7.heap[w6.heap.size]? = some (.cells ((.string d.name::vp::tc)++bc).toArray 49 (0,0)):=cH;have k2:=gF (off:=5) (n:=7) cH (by simp;omega);rw [List.drop_left' (by simp;omega),List.take_of_length_le (by omega)] at k2;(try simp only [go_sem,Nat.reduceAdd,Nat.reduceEqDiff,Nat.reduceLT,Nat.reduceLeDiff,Nat.reduceMul,reduceCtorEq,↓reduceIte,k2]);refine aK (by rfl) ?_;have z6:=aJ.size;have zw:=vX.size;have agY:=aL.at nv _root_.id;have lq:=cC nv
   have MA:∀ {w'},Mod (fun _=>False) w w'→∀ b,Out (fun _=>False) w b→Out (fun b=>SF S1 fp b∨b=w6.heap.size) w' b:=fun hm b hb=>⟨by have:=hb.1;have:=hm.size;omega,fun hh=>by
    have:=hb.1;rcases hh with (h | h) | h
    ·have:=q2 b h;omega
    ·have:=hg.new b h;omega
    ·omega⟩
   refine (agK _ (S:=fun b=>SF S1 fp b∨b=w6.heap.size) C8 (gm.up aL aC (MA (Mz.trans aL))) (fun b hb=>by
    rcases hb with (h | h) | h
    ·have:=q1 b h;omega
    ·have:=hg.lt b h;omega
    ·omega)).mono ?_
   rintro _ w8 ⟨⟨es,rfl,dF⟩,bh⟩;have cO:=bh.at cH _root_.id;have agZ:=bh.at agY _root_.id;(try simp only [go_sem,Nat.reduceAdd,Nat.reduceEqDiff,Nat.reduceLT,Nat.reduceLeDiff,Nat.reduceMul,reduceCtorEq,↓reduceIte]);refine AR (off:=5) (vs:=es) (cs:=(.string d.name::vp::tc)++bc) rfl rfl cO dF.len (by simp;omega) dF.one ?_;intro w9 dp aV gZ;rw [Mn (n:=5) (k:=7) (by simp;omega) Lk dF.len] at dp;have oI:Mod (fun b=>SF S1 fp b∨b=w6.heap.size) w8 w9:=aV.aT (fun b h=>.inr h);have dF:=dF.aB oI;have l9:((.string d.name::vp::tc)++es).length=12:=by simp [qG,dF.len]
   have CT:=aV.at agZ (by omega);(try simp only [go_sem,Nat.reduceAdd,Nat.reduceEqDiff,Nat.reduceLT,Nat.reduceLeDiff,Nat.reduceMul,reduceCtorEq,↓reduceIte,cell_of CT,Value.cells,az (n:=12) dp l9]);refine fG (cs:=([(.string d.name::vp::tc)++es]).flatten.toArray) (ps:=partsOf 12 0 [(.string d.name::vp::tc)++es]) (by (try simp only [go_sem,Nat.reduceAdd,Nat.reduceEqDiff,Nat.reduceLT,Nat.reduceLeDiff,Nat.reduceMul,reduceCtorEq,↓reduceIte]);rfl) (jD (sz:=12) [(.string d.name::vp::tc)++es] [] _ ⟨l9,trivial⟩ rfl) ?_;intro cV ff bE qp;rw [List.flatten_cons,List.flatten_nil,List.append_nil] at ff;have xY:Mod (fun _=>False) w6 w9:=(aL.trans bh).step aV (fun b hb hl=>by omega);have pX:=xY.trans bE;have Vb:=Mz.trans pX;have z10:=pX.size;have dF:=(dF.aB (aj bE)).Ml (S:=SF S1 fp) (fun b hb=>.inl hb);have rd:=oz ff;rw [l9] at rd;have Vc:∀ b,Out (fun _=>False) w b→Out (SF S1 fp) cV b:=fun b hb=>⟨(MA Vb b hb).1,fun hh=>(MA Vb b hb).2 (.inl hh)⟩
   (try simp only [go_sem,Nat.reduceAdd,Nat.reduceEqDiff,Nat.reduceLT,Nat.reduceLeDiff,Nat.reduceMul,reduceCtorEq,↓reduceIte]);refine Ag (a:=rj d) xZ rfl (hg.mod xZ pX (fun _ h=>h.elim) q1) rfl (by simp) rd ⟨vp,tc,es,rfl,qG,dF.len,aQ.up Va pX aC Vc (fun _ _ h=>h),bz.up pX aC Vc,dF,ja⟩ rfl (by rw [List.length_map,List.length_take,List.length_reverse];omega) (by decide) (by omega) q1 ?_;intro v11 gA ag0 FN cR aja;have ag1:=cR.at (bE.at CT _root_.id) (fun hh=>by have:=hg.new _ hh;omega);have ov:v11.oneCell'=true:=by
    obtain ⟨a0,c0,e0,_⟩:=FN.val;rw [e0];rfl
   (try simp only [go_sem,Nat.reduceAdd,Nat.reduceEqDiff,Nat.reduceLT,Nat.reduceLeDiff,Nat.reduceMul,reduceCtorEq,↓reduceIte]);refine fF (cs:=[.slice ad p.aG.length cd,vq]) rfl rfl ag1 ov (by simp) ?_;intro px pn fK DU;have pn:px.heap[w4.heap.size]? = some (.cells ([.slice ad p.aG.length cd,v11]:List Value).toArray 25 (0,0)):=pn;have B8:=FN.mod xZ fK (fun b hb=>by subst hb;exact q3) q1;rw [dk (by omega) (by omega)];refine ⟨aP,v11,ag0,by omega,((aJ.trans (aj pX)).step cR (fun b hb hl=>by have:=hg.new b hb;omega)).trans fK,?_,pn,?_⟩
   ·rw [agV rj aP,hdj];exact B8
   ·rw [show ((p.an.length - 1 - j:Nat):Int) - 1=(p.an.length:Int) - 1 - ((j+1:Nat):Int) by omega]
  ·have q:decide ((p.an.length:Int) - 1 - j≥0)=false:=decide_eq_false (by omega);obtain rfl:j=p.an.length:=by omega
   (try simp only [go_sem,Nat.reduceAdd,Nat.reduceEqDiff,Nat.reduceLT,Nat.reduceLeDiff,Nat.reduceMul,reduceCtorEq,↓reduceIte,q]);rw [← List.length_reverse,List.take_length] at hg;exact ⟨vq,fp,aJ,hg,nv⟩
 rintro ρ w6 ⟨vq,fp,aJ,hg,nv,g1,g2,g3,g11,g13⟩;have oF:(p.an.reverse.map rj).length=p.an.length:=by simp
 have z6:=aJ.size;have CG:Mod (fun _=>False) w w6:=vX.step aJ (fun b hb hl=>by omega);have ajb:=cC fy;refine dO (fun ρ w'=>w6=w'∧ρ=[(1,.string name),(2,.slice av input.length cv),(3,I fuel),(11,ptr mU),(13,ptr w4.heap.size),(16,.string (name++x8))]) ?_ ?_
 ·(try simp only [go_sem,Nat.reduceAdd,Nat.reduceEqDiff,Nat.reduceLT,Nat.reduceLeDiff,Nat.reduceMul,reduceCtorEq,↓reduceIte,g1,g2,g3,g11,g13,agT hn]);rfl
 rintro _ _ ⟨rfl,rfl⟩;clear g1 g2 g3 g11 g13;obtain ⟨aq,cq,rfl,_⟩:=hg.val;refine dO (fun ρ w'=>∃ FY,Mod (· = w4.heap.size) w5 w'∧aQ w' FY 12 (Out S1 w') (jR w' (Out S1 w')) (p.an.reverse.map rj++[Mv name])∧w'.heap[w4.heap.size]? = some (.cells [.slice ad p.aG.length cd,FY].toArray 25 (0,0))∧ρ=[(1,.string name),(2,.slice av input.length cv),(3,I fuel),(11,ptr mU),(13,ptr w4.heap.size)]) ?_ ?_
 ·(try simp only [go_sem,Nat.reduceAdd,Nat.reduceEqDiff,Nat.reduceLT,Nat.reduceLeDiff,Nat.reduceMul,reduceCtorEq,↓reduceIte,cell_of nv,Value.cells]);refine aK (by rfl) ?_;refine Ut.mono ?_;rintro _ w7 ⟨rfl,aL⟩;have aL:=aL.ez;(try simp only [go_sem,Nat.reduceAdd,Nat.reduceEqDiff,Nat.reduceLT,Nat.reduceLeDiff,Nat.reduceMul,reduceCtorEq,↓reduceIte]);refine ⟨aL.bY _ (cC nv) _root_.id,?_⟩;refine aK (by rfl) ?_;refine (FL 1).mono ?_;rintro _ w8 ⟨rfl,bh⟩;(try simp only [go_sem,Nat.reduceAdd,Nat.reduceEqDiff,Nat.reduceLT,Nat.reduceLeDiff,Nat.reduceMul,reduceCtorEq,↓reduceIte]);refine ⟨bh.bY _ (cC (aL.at nv _root_.id)) _root_.id,?_⟩;refine aK (by rfl) ?_;refine (FL 0).mono ?_;rintro _ w9 ⟨rfl,aV⟩;have CT:=(aL.trans (bh.trans aV)).at nv _root_.id;(try simp only [go_sem,Nat.reduceAdd,Nat.reduceEqDiff,Nat.reduceLT,Nat.reduceLeDiff,Nat.reduceMul,reduceCtorEq,↓reduceIte]);refine ⟨aV.bY _ (cC (bh.at (aL.at nv _root_.id) _root_.id)) _root_.id,?_⟩;refine aK (by rfl) ?_;have xY:=aL.trans (bh.trans aV)
  refine (UA (S:=SF S1 fp) (fun b hb=>by
   have:=xY.size;rcases hb with h | h
   ·have:=q1 b h;omega
   ·have:=hg.lt b h;omega) (FO 1) (FO 0)).mono ?_
  rintro _ cV ⟨⟨c4,rfl,h4⟩,bE⟩;(try simp only [go_sem,Nat.reduceAdd,Nat.reduceEqDiff,Nat.reduceLT,Nat.reduceLeDiff,Nat.reduceMul,reduceCtorEq,↓reduceIte]);refine ⟨bE.bY _ (cC CT) _root_.id,?_⟩;have fa:=jD (sz:=7) [c4] [.string (name++x8),.slice none 0 0,I 1,.string bD,.slice none 0 0] [I 0,.string bD,I 0,.slice none 0 0,.slice none 0 0,.slice none 0 0,.slice none 0 0] ⟨h4.len,trivial⟩ rfl;rw [List.flatten_cons,List.flatten_nil,List.append_nil] at fa;refine ⟨_,(congrArg (Option.map Value.agg) fa),?_⟩;have Vd:=bE.at CT _root_.id;have pX:=xY.trans bE
  let row:List Value:=(.string (name++x8) :: .slice none 0 0::fZ 1 bD)++c4
  have Ve:row.length=12:=by show (_++c4).length=12;rw [List.length_append,h4.len];rfl
  refine fG (cs:=([row]).flatten.toArray) (ps:=partsOf 12 0 [row]) (by rfl) (jD (sz:=12) [row] [] zDf ⟨Ve,trivial⟩ rfl) ?_;intro gA DX cR uX;rw [List.flatten_cons,List.flatten_nil,List.append_nil] at DX;refine ⟨cR.bY _ (cC Vd) _root_.id,?_⟩;have rd:=oz DX;rw [Ve] at rd;have MB:=pX.trans cR;have UW:=MB.size;refine Ag (a:=Mv name) xZ rfl (hg.mod xZ MB (fun _ h=>h.elim) q1) rfl (by simp) rd ⟨.slice none 0 0,fZ 1 bD,c4,rfl,rfl,h4.len,fH _ _ _ _,nM _ _ 1 bD,h4.aB (aj cR),agU hn⟩ rfl (by rw [oF];omega) (by decide) (by omega) q1 ?_;intro v12 px UX FX fK agM;have ag2:=fK.at (cR.at Vd _root_.id) (fun hh=>by have:=hg.new _ hh;omega);have ov:v12.oneCell'=true:=by
   obtain ⟨a0,c0,e0,_⟩:=FX.val;rw [e0];rfl
  refine fF (cs:=[.slice ad p.aG.length cd,.slice aq (p.an.reverse.map rj).length cq]) rfl rfl ag2 ov (by simp) ?_;intro Fz ag3 oN Tf;(try simp only [go_sem,Nat.reduceAdd,Nat.reduceEqDiff,Nat.reduceLT,Nat.reduceLeDiff,Nat.reduceMul,reduceCtorEq,↓reduceIte]);have B8:=FX.mod xZ oN (fun b hb=>by subst hb;exact q3) q1;exact ⟨v12,((aJ.trans (aj MB)).step fK (fun b hb hl=>by have:=hg.new b hb;omega)).trans oN,B8.done xZ q1 (by rw [List.length_append,oF];simp;omega),ag3⟩
 rintro _ w7 ⟨FY,aL,hq,nv,rfl⟩;clear hg aJ CG;have z7:=aL.size;have o9:Mod (fun _=>False) w w7:=vX.step aL (fun b hb hl=>by omega);have hP:jr w7 (Out (fun _=>False) w7) [.slice ad p.aG.length cd,FY] (gQ p name):=by
  have hz:Mod (fun _=>False) w7 w7:=.refl _ _;have hB:∀ b,Out S1 w7 b→Out (fun _=>False) w7 b:=fun b hb=>⟨hb.1,_root_.id⟩
  exact ⟨_,_,rfl,hd.up o9 aC (aU o9) (fun _ _ h=>h.up o9 aC (aU o9)),hq.up hz aC hB (fun _ _ h=>h.up hz aC hB)⟩
 have fy:=aL.at fy (by omega);have lU:og w7 (fun b=>w.heap.size≤b∧b < w7.heap.size) Ak r1.2:=lU.upS aL (fun b hb=>by omega) (fun b hb=>⟨hb.1,by omega⟩);refine dO (fun ρ w'=>Mod (fun _=>False) w7 w'∧ρ=[(1,.string name),(2,.slice av input.length cv),(3,I fuel),(11,ptr mU),(13,ptr w4.heap.size),(17,I (gB (gQ p name)))]) ?_ ?_
 ·(try simp only [go_sem,Nat.reduceAdd,Nat.reduceEqDiff,Nat.reduceLT,Nat.reduceLeDiff,Nat.reduceMul,reduceCtorEq,↓reduceIte,az (n:=2) nv rfl]);refine aK (by rfl) ?_;refine (Rh (gQ p name) hP).mono ?_;rintro _ w8 ⟨rfl,bh⟩;(try simp only [go_sem,Nat.reduceAdd,Nat.reduceEqDiff,Nat.reduceLT,Nat.reduceLeDiff,Nat.reduceMul,reduceCtorEq,↓reduceIte]);exact bh
 rintro _ w8 ⟨bh,rfl⟩;have nv:=bh.at nv _root_.id;have fy:=bh.at fy _root_.id;have hP:=hP.up bh aC (aU bh);have MC:=o9.trans bh;have lU:=lU.up bh (B':=fun b=>w.heap.size≤b∧b < w8.heap.size) (fun b h=>⟨h.1,by have:=bh.size;omega⟩);refine dO (fun ρ w'=>∃ MD ME,og w' (fun b=>w.heap.size≤b∧b < w'.heap.size) Ak r1.2∧og w' (fun b=>w.heap.size≤b∧b < w'.heap.size) ME r2.2∧w'.heap[mU]? = some (.cells Ak.toArray 34 (0,0))∧w'.heap[MD]? = some (.cells ME.toArray 34 (0,0))∧Mod (fun _=>False) w w'∧ρ=[(11,ptr mU),(17,I (gB (gQ p name))),(18,ptr MD),(19,I r2.1)]) ?_ ?_
 ·(try simp only [go_sem,Nat.reduceAdd,Nat.reduceEqDiff,Nat.reduceLT,Nat.reduceLeDiff,Nat.reduceMul,reduceCtorEq,↓reduceIte,az (n:=2) nv rfl]);refine aK (by rfl) ?_;refine (LY (gQ p name) hP (FM.mod MC (fun _ _ h=>h)) wV).mono ?_;rintro _ w9 ⟨⟨oc,rfl,lA⟩,aV⟩;obtain ⟨k,s',n',v',l',rfl,My⟩:=UE lA;have ho:=js My;(try simp only [go_sem,Nat.reduceAdd,Nat.reduceEqDiff,Nat.reduceLT,Nat.reduceLeDiff,Nat.reduceMul,reduceCtorEq,↓reduceIte]);refine cQ ?_;intro cV CU bE qp;(try simp only [go_sem,Nat.reduceAdd,Nat.reduceEqDiff,Nat.reduceLT,Nat.reduceLeDiff,Nat.reduceMul,reduceCtorEq,↓reduceIte]);refine bN (vs:=cS k s' n' v') (cs:=cS 0 0 0 (.slice none 0 0)) rfl rfl CU rfl rfl (oh ho) ?_;intro gA CU ag4 uX;have sr:Mod (fun _=>False) w9 gA:=bE.step ag4 (fun b hb hl=>by omega);have MF:=aV.trans sr;have z8:=MC.size;have z9:=aV.size;have UW:=sr.size;(try simp only [go_sem,Nat.reduceAdd,Nat.reduceEqDiff,Nat.reduceLT,Nat.reduceLeDiff,Nat.reduceMul,reduceCtorEq,↓reduceIte]);exact ⟨_,_,lU.up MF (fun b h=>⟨h.1,by omega⟩),lA.up sr (fun b h=>⟨by omega,by omega⟩),MF.at fy _root_.id,CU,MC.trans MF,rfl⟩
 clear lU fy nv aZ hP hq;rintro _ w9 ⟨MD,ME,lU,AJ,fy,CU,Ai,rfl⟩;obtain ⟨k1,s1,n1,v1,t1,rfl,ag5,x1⟩:=U' lU;obtain ⟨k2,s2,n2,v2,t2,rfl,ag6,x2⟩:=U' AJ;refine dO (fun ρ w'=>Mod (fun _=>False) w9 w'∧ρ=[(17,I (gB (gQ p name))),(19,I r2.1),(20,.bool (((k1 == k2&&s1 == s2)&&n1 == n2)&&xV t1 t2))]) ?_ ?_
 ·(try simp only [go_sem,Nat.reduceAdd,Nat.reduceEqDiff,Nat.reduceLT,Nat.reduceLeDiff,Nat.reduceMul,reduceCtorEq,↓reduceIte,az (n:=8) fy rfl,az (n:=8) CU rfl]);refine aK (by rfl) ?_;refine (afU ag5 ag6).mono ?_;rintro _ cV ⟨rfl,bE⟩;(try simp only [go_sem,Nat.reduceAdd,Nat.reduceEqDiff,Nat.reduceLT,Nat.reduceLeDiff,Nat.reduceMul,reduceCtorEq,↓reduceIte]);exact bE
 rintro _ cV ⟨bE,rfl⟩;have Vf:=Ai.trans bE;rw [bm];by_cases hz:gB (gQ p name)=0
 ·obtain ⟨a,a',e2,e3,e4,e5,e6,e7⟩:=agX (by rw [bm];exact hz);obtain ⟨u1,u2,u3,u4⟩:=x1 a (by rw [e2]);obtain ⟨u5,u6,u7,u8⟩:=x2 a' (by rw [e3]);have e:(((k1 == k2&&s1 == s2)&&n1 == n2)&&xV t1 t2)=true:=by
   have kG:=agd a.told [];rw [List.append_nil] at kG;rw [u1,u2,u3,u4,u5,u6,u7,u8,e4,e5,e6,e7];simp [xV,kG]
  rw [e,hz];have z0:((0:Int) != 0)=false:=rfl;have z1:((0:Int) == 0)=true:=rfl;(try simp only [go_sem,Nat.reduceAdd,Nat.reduceEqDiff,Nat.reduceLT,Nat.reduceLeDiff,Nat.reduceMul,reduceCtorEq,↓reduceIte,z0,z1,aE,RV.ev,aF]);exact Vf
 ·have z1:(gB (gQ p name) != 0)=true:=by simpa using hz
  have z2:(gB (gQ p name) == gB (gQ p name))=true:=by simp
  (try simp only [go_sem,Nat.reduceAdd,Nat.reduceEqDiff,Nat.reduceLT,Nat.reduceLeDiff,Nat.reduceMul,reduceCtorEq,↓reduceIte,z1,z2,aE,RV.ev,aF]);exact Vf
end
section
open Go Go.W Go.ChangeShapes Go.WideShapes Go.ChangeAt Go.RowKit Go.Deep
theorem ag7 {H:Type} {enc:TypeId×Value→H} {w:World} {ts:List TypeId} {args:List Value} {ds:List (DataW H)} (h:nF enc Tryz.prog (25::ts) w args ds) (hb:Rows.uptoBulkAll ds≤1048576):∃ (cs:List Value) (p:Pg) (gD:List Value) (d:DataW H) (fO:List (DataW H)),args = .agg cs.toArray::gD∧ds=d::fO∧jr w (Out (fun _=>False) w) cs p∧(p.an.length≤1048576∧∀ d∈p.an,iw d.body)∧nF enc Tryz.prog ts w gD fO∧Rows.uptoBulkAll fO≤1048576:=by
 obtain ⟨cs,p,gD,d,fO,rfl,rfl,h1,h2,h3⟩:=agy h hb;rw [Rows.uptoBulkAll] at hb;exact ⟨cs,p,gD,d,fO,rfl,rfl,h1,h2,h3,by omega⟩
theorem ag8 {H:Type} {enc:TypeId×Value→H} {w:World} {ts:List TypeId} {args:List Value} {ds:List (DataW H)} (h:nF enc Tryz.prog (9::ts) w args ds) (hb:Rows.uptoBulkAll ds≤1048576):∃ (s:ByteArray) (gD:List Value) (d:DataW H) (fO:List (DataW H)),args = .string s::gD∧ds=d::fO∧s.size≤1048576∧nF enc Tryz.prog ts w gD fO:=by
 obtain ⟨v,gD,d,fO,base,p,rfl,rfl,h',iv,hd,hw⟩:=FQ h;obtain ⟨s,rfl⟩:=okWide_string Tryz.underlying9 iv;obtain ⟨fuel,hf⟩:=hd;rw [Rows.uptoBulkAll] at hb;obtain ⟨s',e,_,hs⟩:=ug (y:=(d,p)) (c:=.string s) (by simpa [Value.cells] using hf) (by show Rows.uptoBulk d≤_;omega);cases e;exact ⟨s,gD,d,fO,rfl,rfl,hs,h'⟩
abbrev MG:Array Value:=#[.agg #[.slice none 0 0,.slice none 0 0],.string ⟨#[]⟩,.slice none 0 0,.int .i64 0]
theorem ag9 (os:Os) {H:Type} (enc:TypeId×Value→H):∃ places,DataW.whole enc Tryz.prog ((World.laidAll Tryz.prog os CO).forCall (fun _ _=>0) ⟨#[],MG,[]⟩).memory Tryz.f4.params.toList Rows.meaningNamesSpec.vars false MG.toList 8=some ([.agg [.nil,.nil],.lit (.string []),.nil,.lit (.int .i64 0)],[],places):=
 ⟨[],by kernel_rfl⟩
theorem ag' (os:Os) (started:os.Started) (H:Type) (enc:TypeId×Value→H) (F:Stop.Interp) :
   ReturnsInHanded {} Tryz.checked os 4 .any ((Rows.OpenSpec.upto Rows.meaningNamesSpec).preRow enc Tryz.prog Tryz.f4 [] false CO) (((Rows.OpenSpec.upto Rows.meaningNamesSpec).at F).post enc Tryz.prog Tryz.f4 false true false false):=by
 obtain ⟨places,hx⟩:=ag9 os enc;refine agz (C:=Tryz.checked) Tryz.own started (by kernel_rfl) Tryz.func4
  (witness_row_at (enc:=enc) (C:=Tryz.checked) false (World.laidAll Tryz.prog os CO) MG (World.laidAll_os _ _ _) (by kernel_rfl) (by kernel_rfl) (by kernel_rfl)
   (OpenSpec.preRow_of_cond 8 hx (by kernel_rfl) (fun k hk=>by cases hk;kernel_rfl) (by kernel_rfl) (agC os _)))
  Tryz.laidOut (by kernel_rfl) (tb:=4) (by kernel_rfl) Tryz.underlying4 rfl ?_ ?_
 ·intro ds hd;rw [Tryz.params4] at hd
  match ds,hd with
  | [_,_,_,_],_=>rfl
 ·intro W args ds h hk;rw [Tryz.params4] at h;obtain ⟨cs,p,ajc,d1,ds1,rfl,rfl,hp,cF,h1,jz⟩:=ag7 h hk;obtain ⟨entry,ajd,_,_,rfl,rfl,BC,h2⟩:=ag8 h1 jz;obtain ⟨vin,input,aje,_,_,rfl,rfl,fE,h3⟩:=agx h2;obtain ⟨f1,ajf,_,_,rfl,rfl,h4⟩:=agw h3;obtain ⟨rfl,rfl⟩:=agv h4;exact agW p hp fE BC cF
theorem aha:Rows.MeaningNamesUptoSaid:=
 OpenClaim.holds_of_cond 4 Tryz.f4 rfl rfl rfl rfl rfl rfl rfl ⟨rfl,rfl,rfl,rfl,rfl⟩ rfl rfl rfl rfl rfl (by kernel_rfl) Tryz.func4 (by kernel_rfl)
  (of_decide_eq_true (by kernel_rfl)) (by unfold Func.isWrapper;first | (rw [if_pos (by decide +kernel)];kernel_rfl) | (rw [if_neg (by decide +kernel)];exact ⟨rfl,rfl⟩))
  (fun os started H enc _ F=>by rw [OpenClaim.pre_eq_preRow];exact ag' os started H enc F)
theorem ahb (f:FuncId) (fn:Func) (hf:Tryz.pinned.checked.prog.funcNamed "sloth/slothlaw10.MeaningNames" = some f) (eE:Tryz.pinned.checked.prog.funcs[f]? = some fn) :
   true=Tryz.pinned.checked.prog.looks []∧∀ (j:Nat) t,fn.params[j]? = some t→Tryz.pinned.checked.prog.wantsStandIn t=false:=by
 obtain rfl:f=4:=Option.some.inj ((show Tryz.prog.funcNamed "sloth/slothlaw10.MeaningNames" = some 4 by kernel_rfl).symm.trans hf) |>.symm;obtain rfl:fn=Tryz.f4:=(Option.some.inj (Tryz.func4.symm.trans eE)).symm;refine ⟨by kernel_rfl,fun j t ht=>?_⟩;rw [Tryz.params4] at ht;have hm:t∈[25,9,26,3]:=by simpa using Array.mem_of_getElem? ht
 have dh:([25,9,26,3].all fun u=>!Tryz.prog.wantsStandIn u)=true:=by kernel_rfl
 exact (show Tryz.prog.wantsStandIn t=false by simpa using List.all_eq_true.1 dh t hm)
theorem meaningNames_holds:Rows.MeaningNamesUptoCardSaid:=
 Claim7.holds_tied_plain_at .later [] _ _ _ _ aha (fun _ h=>by cases h) (by kernel_rfl) (fun _ h=>by cases h) meaningNamesUpto_row_tie rfl ⟨rfl,rfl⟩ (by kernel_rfl) rfl ahb (by kernel_rfl)
#print axioms meaningNames_holds
end
end Go.Proofs.YtjfgeekjjlhbdaaGreatDoor