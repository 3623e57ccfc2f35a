/- Texts that the last file stands on. -/
import Derived.Test.YtekkkjbjnhipkaaGreatDoorZPE
import Derived.Test.YtekkkjbjnhipkaaGreatDoorZPA
set_option linter.unusedSimpArgs false
set_option linter.unusedVariables false
set_option maxRecDepth 100000
namespace Go.Proofs.YtekkkjbjnhipkaaGreatDoor
section
open Go Go.W
section
variable {α:Type} {S S' R:Nat->Prop} {n0:Nat} {w w':World} {T sz:Nat} {v:Value} {Pr:Rp α} {l:List α} {fp:Option Nat}
theorem Gr.ext(hE:iN sz Pr)(h:Gr S n0 w T sz v Pr l fp)(hm:Mod R w w')(hR:∀b,R b->S b)(hf:∀b,fp=some b->¬R b)(hs:∀b,b<w.heap.size->S' b->SF S fp b):Gr S' n0 w' T sz v Pr l fp:=by
 obtain⟨⟨rows,h1,h2,h3⟩,h4⟩:=h
 exact⟨⟨rows,h1.mod hm hf,h2,fun i r a x y=>hE.up (h3 i r a x y) hm (fun b hb hh=>hb.2 (.inl (hR b hh))) (fun b hb=>⟨Nat.lt_of_lt_of_le hb.1 hm.size,fun hh=>hb.2 (by
  rcases hh with h |h
  ·exact hs b hb.1 h
  ·exact .inr h)⟩)⟩,h4⟩
theorem Gr.fin(hE:iN sz Pr)(h:Gr S n0 w T sz v Pr l fp)(hs:∀b,S' b->SF S fp b)(hf:∀b,fp=some b->¬S' b)(hl:l.length<=1099511627776):aX w v sz (Out S' w) (Pr w (Out S' w)) l:=by
 have h0:Gr S' n0 w T sz v Pr l fp:=h.ext hE (.refl (fun _=>False) w) (fun _ h=>h.elim) (fun _ _ h=>h.elim) (fun b _=>hs b);obtain⟨⟨rows,h1,h2,h3⟩,h4⟩:=h0;have hlen:∀r∈rows,r.length=sz:=fun r hr=>by
  obtain⟨i,hi,rfl⟩:=List.getElem_of_mem hr;exact hE.len (h3 i _ l[i] (Ξ hi) (Ξ (by omega)))
 refine⟨rows,⟨(EC h1 hlen).mod (.refl (fun _=>False) w) aA (fun b hb=>⟨h1.lt hb,hf b hb⟩),by omega⟩,h2,fun i r a x y=>hE.up (h3 i r a x y) (.refl (fun _=>False) w) aA (fun b hb=>⟨hb.1,fun hh=>hb.2 (.inl hh)⟩)⟩
end
theorem abB{P:Program}{w:World}{ρ:Go.W.Env}{K:Value→World→Prop}{t te:TypeId}{j:TypeInfo}{x y:Operand}{a:Addr}{n i k:Nat}{d:Option Nat}{ty:TypeId}{pos:String}{c:TypeId}{af:Array Edge}{g:Option (Nat×Bool)}{op:BinOp}(mW:op = .eql∨op = .neq)(hn:0 < n)(hx:(bI x).ev ρ=some (.pointer (some (a.add (i*n)))))(hy:(bI y).ev ρ=some (.pointer (some (a.add (k*n)))))(hp:P.underlying t=some (.pointer te))(hj:P.info? te=some j)(bV:j.size≠0)
   (hk:K (.bool (if op=.eql then decide (i=k)else !decide (i=k))) w):Go.W.E.wp P w ρ K (.raw ⟨d,.binOp op t x y c,ty,pos,af,g⟩):=by
 have bJ:a.add (i*n)=a.add (k*n)↔i=k:=by
  constructor
  .intro h;have h2:=congrArg Addr.off h;have h3:∀ m,(a.add m).off=a.off+m:=fun m=>by
    unfold Addr.add;split
    .omega
    .rfl
   rw[h3,h3]at h2;exact Nat.eq_of_mul_eq_mul_right hn (by omega)
  .intro h;rw[h]
 have he:(Op.equal t (.pointer (some (a.add (i*n)))) (.pointer (some (a.add (k*n))))).run P w=.ok (decide (i=k)) w:=by
  unfold Op.equal Op.maxDepth Op.equalIn;by_cases uj:a.add (i*n)=a.add (k*n)
  .rw[uj,decide_eq_true (bJ.1 uj)];simp[run_underlying hp,sizeOf,typeInfo,hj,bV,run_sameAddr_same]
  .have sQ:(a.add (i*n)).block=(a.add (k*n)).block:=by rw[u9,u9]
   have hs:(sameAddr (a.add (i*n)) (a.add (k*n))).run P w=.ok false w:=by simp[sameAddr,sQ,uj]
   rw[decide_eq_false (fun e=>uj (bJ.2 e))];simp[run_underlying hp,sizeOf,typeInfo,hj,bV,hs]
 refine mz fun act ha=>⟨_,w,?_,hk⟩
 simp only[execOp,ha x _ hx,ha y _ hy];have hg:(eqGuard op t x y (.pointer (some (a.add (i*n)))) (.pointer (some (a.add (k*n))))).run P w=.ok () w:=by rcases mW with rfl |rfl<;>rfl
 simp only[Sem.run_bind,hg,Result.andThen_ok];rcases mW with rfl |rfl<;>simp only[binOp,Sem.run_bind,he,Result.andThen_ok,Sem.run_pure]<;>rfl
abbrev uM:Nat:=77
def Dr(ad:Option Addr)(v:Value)(d:Nat):Prop:=∃a,ad=some a/\v=.pointer (some (a.add (d*12)))
def wL(ad:Option Addr)(w:World)(B:Nat->Prop)(r:List Value):Option iQ->Prop
 |none=>r=[.pointer none,.slice none 0 0,.string bM]
 |some i=>∃a v,ad=some a/\r=[.pointer (some (a.add (i.jR*12))),v,.string i.name]/\aX w v 3 B (aR w B) i.types/\Nm i.name
theorem jS(ad:Option Addr):iN 3 (fun w B r i=>wL ad w B r i):=by
 refine⟨fun{_ _ _ a} h=>?_,fun{_ _ _ a} h=>?_,fun{_ _ _ _ _ _ a} h hm hd hB=>?_⟩
 .cases a with
  |none=>cases h;rfl
  |some i=>obtain⟨_,_,_,rfl,_⟩:=h;rfl
 .cases a with
  |none=>cases h;exact aP rfl (aP rfl (aP rfl dq))
  |some i=>obtain⟨_,_,_,rfl,h,_⟩:=h;exact aP rfl (aP (j6 h) (aP rfl dq))
 .cases a with
  |none=>exact h
  |some i=>obtain⟨a,v,e,rfl,h,hn⟩:=h;exact⟨a,v,e,rfl,h.up hm hd hB (fun _ _ x=>x.up hm hd hB),hn⟩
theorem yi(ad:Option Addr):iN 3 (fun w B r (i:iQ)=>wL ad w B r (some i)):=⟨(jS ad).len,(jS ad).one,(jS ad).up⟩
abbrev RN(v:Value)(n:Nat):Prop:=v=I n
theorem abC{P:Program}{w:World}{ρ:Go.W.Env}{K:Value→World→Prop}{l:List (ByteArray×Nat)}{t kt et:TypeId}{m x:Operand}{b:Nat}{k:ByteArray}{d:Option Nat}{ty:TypeId}{pos:String}{af:Array Edge}(hm:(bI m).ev ρ=some (.map (some b)))(hx:(bI x).ev ρ=some (.string k))(ht:P.underlying t=some (.map kt et))(gY:P.underlying kt=some .string)
   (hz:(zeroValue et).run P w=.ok (I 0) w) (h:bQ w b RN l) (hk:K (.tuple #[I ((aJ l k).getD 0:Nat),.bool (aJ l k).isSome]) w):Go.W.E.wp P w ρ K (.raw ⟨d,.lookup t m x true,ty,pos,af,none⟩):=by
 obtain⟨lv,hv,hp⟩:=h;refine G8 hm hx ht gY hz hv ?_;rcases hp.get k with⟨e1,e2⟩ |⟨v,a,e1,e2,hr⟩
 .rw[e1];rw[e2]at hk;exact hk
 .rw[e1];rw[e2]at hk;have hr:v=_:=hr;rw[hr];exact hk
def TS(A:TA)(fp:Option Nat)(b:Nat):Prop:=b=A.tb\/b=A.ms\/fp=some b
structure iA (w:World) (S:Nat->Prop) (A:TA) (C:Tc) (t:Tn) (fp:Option Nat):Prop where
 tr:∃vn,gM w A t.left vn/\Gr S 0 w uM 3 vn (fun w B r i=>wL A.ad w B r i) t.bR fp
 seen:bQ w A.ms RN t.seen
 a8:bQ w A.mb (pd w (Out S w)) C.a8
 Du:∃r,w.heap[A.pm]?=some (.cells (.map (some A.md)::r).toArray 69 (0,0))
 aj:bQ w A.md (Dr A.ad) C.D
 names:∃n c,aX w (.slice A.ad n c) 12 (Out S w) (jE w (Out S w)) C.aj
 aT:∀b,TS A fp b->S b
 out:¬S A.mb/\¬S A.md/\¬TS A fp A.pm
 lt:∀b,S b->b<w.heap.size
 mT:∀b,fp=some b->b≠A.tb/\b≠A.ms
 FN:∀n i,aJ t.seen n=some i->∃x,t.bR[i]?=some (some x)
structure fU (A:TA) (fp dB:Option Nat) (S S':Nat->Prop) (w w':World):Prop where
 mod:Mod (TS A fp) w w'
 hs:∀b,b<w.heap.size->S' b->S b
 up:∀b,S b->S' b
 fp:∀b,dB=some b->fp=some b\/w.heap.size<=b
theorem fU.refl(A:TA)(fp:Option Nat)(S:Nat->Prop)(w:World):fU A fp fp S S w w:=⟨.refl _ _,fun _ _ h=>h,fun _ h=>h,fun _ h=>.inl h⟩
theorem fU.trans{A:TA}{fp CV xt:Option Nat}{S S1 S2:Nat->Prop}{w w1 w2:World}(h:fU A fp CV S S1 w w1)(k:fU A CV xt S1 S2 w1 w2):fU A fp xt S S2 w w2:=
 ⟨h.mod.step k.mod (fun b hb hl=>by
  rcases hb with hb |hb |hb
  ·exact .inl hb
  ·exact .inr (.inl hb)
  ·rcases h.fp b hb with hb |hb
   ·exact .inr (.inr hb)
   ·omega),fun b hb hh=>h.hs b hb (k.hs b (Nat.lt_of_lt_of_le hb h.mod.size) hh),fun b hb=>k.up b (h.up b hb),fun b hb=>by
  rcases k.fp b hb with hb |hb
  ·exact h.fp b hb
  ·exact .inr (Nat.le_trans h.mod.size hb)⟩
theorem fU.new{A:TA}{fp CV:Option Nat}{S S1 S2 R:Nat->Prop}{w w1 w2:World}(h:fU A fp CV S S1 w w1)(hm:Mod R w1 w2)(hR:∀b,R b->w.heap.size<=b)(hs:∀b,b<w1.heap.size->S2 b->S1 b)(hu:∀b,S1 b->S2 b):fU A fp CV S S2 w w2:=
 ⟨h.mod.step hm (fun b hb hl=>by have:=hR b hb;omega),fun b hb hh=>h.hs b hb (hs b (Nat.lt_of_lt_of_le hb h.mod.size) hh),fun b hb=>hu b (h.up b hb),h.fp⟩
section
variable {w w':World} {S S' R:Nat->Prop} {A:TA} {C:Tc} {t:Tn} {fp:Option Nat}
theorem iA.ext(h:iA w S A C t fp)(hm:Mod R w w')(hR:∀b,R b->S b/\¬TS A fp b/\b≠A.pm)(hs:∀b,b<w.heap.size->S' b->S b)(hu:∀b,S b->S' b)(hl:∀b,S' b->b<w'.heap.size):iA w' S' A C t fp:=by
 obtain⟨vn,h1,h2⟩:=h.tr;obtain⟨r,hr⟩:=h.Du;obtain⟨n,c,hn⟩:=h.names;have up:∀b,Out S w b->Out S' w' b:=fun b hb=>⟨Nat.lt_of_lt_of_le hb.1 hm.size,fun hh=>hb.2 (hs b hb.1 hh)⟩
 have hd:∀b,Out S w b->¬R b:=fun b hb hh=>hb.2 (hR b hh).1
 have yj:∀{β:Type} {b:Nat} {Rr:Value->β->Prop} {l:List (ByteArray×β)},bQ w b Rr l->b<w.heap.size:=fun h=>by
  obtain⟨_,⟨_,_,h,_⟩,_⟩:=h;exact bP h
 have o1:=yj h.a8;have o2:=yj h.aj
 exact⟨⟨vn,hm.at h1 (fun hh=>(hR _ hh).2.1 (.inl rfl)),h2.ext (jS _) hm (fun b hb=>(hR b hb).1) (fun b hb hh=>(hR b hh).2.1 (.inr (.inr hb))) (fun b hb hh=>.inl (hs b hb hh))⟩,
  h.seen.mod hm (fun hh=>(hR _ hh).2.1 (.inr (.inl rfl))) (fun _ _ x=>x),h.a8.mod hm (fun hh=>h.out.1 (hR _ hh).1) (fun _ _ x=>x.up hm hd up),⟨r,hm.at hr (fun hh=>(hR _ hh).2.2 rfl)⟩,
  h.aj.mod hm (fun hh=>h.out.2.1 (hR _ hh).1) (fun _ _ x=>x),⟨n,c,hn.up hm hd up (fun _ _ x=>x.up hm hd up)⟩,fun b hb=>hu b (h.aT b hb),⟨fun hh=>h.out.1 (hs _ o1 hh),fun hh=>h.out.2.1 (hs _ o2 hh),h.out.2.2⟩,hl,h.mT,h.FN⟩
theorem iA.left(h:iA w S A C t fp){left:Int}{vn:Value}(hT:gM w A t.left vn)(hm:Mod (· = A.tb) w w')(hB:gM w' A left vn):iA w' S A C (t.at left) fp:=by
 obtain⟨vn',h1,h2⟩:=h.tr;have e:vn'=vn:=by
  have kT:w.heap[A.tb]?=_:=h1;have hT':w.heap[A.tb]?=_:=hT;rw[kT]at hT'
  simpa using hT'
 subst e;obtain⟨r,hr⟩:=h.Du;obtain⟨n,c,hn⟩:=h.names;have up:∀b,Out S w b->Out S w' b:=fun b hb=>⟨Nat.lt_of_lt_of_le hb.1 hm.size,hb.2⟩
 have hS:S A.tb:=h.aT _ (.inl rfl);have hd:∀b,Out S w b->¬b=A.tb:=fun b hb hh=>hb.2 (hh ▸ hS)
 have No:=bP h1;have nm:∀{β:Type} {b:Nat} {Rr:Value->β->Prop} {l:List (ByteArray×β)},bQ w b Rr l->¬b=A.tb:=fun h e=>by
  obtain⟨_,⟨_,_,h,_⟩,_⟩:=h;have kT:w.heap[A.tb]?=_:=h1;rw[e,kT]at h;cases h
 exact⟨⟨_,hB,h2.ext (jS _) hm (fun b hb=>hb ▸ hS) (fun b hb hh=>(h.mT b hb).1 hh) (fun b _ hh=>.inl hh)⟩,h.seen.mod hm (nm h.seen) (fun _ _ x=>x),h.a8.mod hm (nm h.a8) (fun _ _ x=>x.up hm hd up),⟨r,hm.at hr (fun e=>h.out.2.2 (.inl e))⟩,
  h.aj.mod hm (nm h.aj) (fun _ _ x=>x),⟨n,c,hn.up hm hd up (fun _ _ x=>x.up hm hd up)⟩,h.aT,h.out,fun b hb=>Nat.lt_of_lt_of_le (h.lt b hb) hm.size,h.mT,h.FN⟩
theorem iA.set(h:iA w S A C t fp){t':Tn}{dB:Option Nat}{v':Value}(hm:Mod (TS A fp) w w')(hT:gM w' A t'.left v')(hg:Gr S 0 w' uM 3 v' (fun w B r i=>wL A.ad w B r i) t'.bR dB)(HN:bQ w' A.ms RN t'.seen)
   (hsB:∀n i,aJ t'.seen n=some i->∃x,t'.bR[i]?=some (some x)) (hf:∀b,dB=some b->fp=some b\/w.heap.size<=b/\b<w'.heap.size):iA w' (fun b=>S b\/dB=some b) A C t' dB/\fU A fp dB S (fun b=>S b\/dB=some b) w w':=by
 obtain⟨r,hr⟩:=h.Du;obtain⟨n,c,hn⟩:=h.names;obtain⟨_,h1,_⟩:=h.tr;have hs:∀b,b<w.heap.size->(S b\/dB=some b)->S b:=fun b hb hh=>by
  rcases hh with hh |hh
  .exact hh
  .rcases hf b hh with hh |hh
   .exact h.aT b (.inr (.inr hh))
   .omega
 have up:∀b,Out S w b->Out (fun b=>S b\/dB=some b) w' b:=fun b hb=>⟨Nat.lt_of_lt_of_le hb.1 hm.size,fun hh=>hb.2 (hs b hb.1 hh)⟩
 have hd:∀b,Out S w b->¬TS A fp b:=fun b hb hh=>hb.2 (h.aT b hh)
 have yj:∀{β:Type} {b:Nat} {Rr:Value->β->Prop} {l:List (ByteArray×β)},bQ w b Rr l->b<w.heap.size:=fun h=>by
  obtain⟨_,⟨_,_,h,_⟩,_⟩:=h;exact bP h
 have o1:=yj h.a8;have o2:=yj h.aj;have o3:=bP hr;have o4:=bP h1;have o5:=yj h.seen
 refine⟨⟨⟨_,hT,hg.ext (jS _) (.refl (fun _=>False) w') (fun _ h=>h.elim) (fun _ _ h=>h) (fun b _ hh=>hh)⟩,HN,h.a8.mod hm (fun hh=>h.out.1 (h.aT _ hh)) (fun _ _ x=>x.up hm hd up),⟨r,hm.at hr h.out.2.2⟩,
  h.aj.mod hm (fun hh=>h.out.2.1 (h.aT _ hh)) (fun _ _ x=>x),⟨n,c,hn.up hm hd up (fun _ _ x=>x.up hm hd up)⟩,fun b hb=>?_,⟨fun hh=>h.out.1 (hs _ o1 hh),fun hh=>h.out.2.1 (hs _ o2 hh),fun hh=>?_⟩,fun b hb=>?_,fun b hb=>?_,hsB⟩,⟨hm,hs,fun b hb=>.inl hb,fun b hb=>?_⟩⟩
 .rcases hb with hb |hb |hb
  .exact .inl (h.aT b (.inl hb))
  .exact .inl (h.aT b (.inr (.inl hb)))
  .exact .inr hb
 .rcases hh with hh |hh |hh
  .exact h.out.2.2 (.inl hh)
  .exact h.out.2.2 (.inr (.inl hh))
  .rcases hf _ hh with hh |hh
   .exact h.out.2.2 (.inr (.inr hh))
   .omega
 .have:=hm.size;rcases hb with hb |hb
  .have:=h.lt b hb;omega
  .rcases hf b hb with hb |hb
   .have:=h.lt b (h.aT b (.inr (.inr hb)));omega
   .exact hb.2
 .rcases hf b hb with hb |hb
  .exact h.mT b hb
  .omega
 .rcases hf b hb with hb |hb
  .exact .inl hb
  .exact .inr hb.1
theorem iA.sub(h:iA w S A C t fp)(hs:∀b,S' b->S b)(hT:∀b,TS A fp b->S' b):iA w S' A C t fp:=by
 obtain⟨vn,h1,h2⟩:=h.tr;obtain⟨n,c,hn⟩:=h.names;have up:∀b,Out S w b->Out S' w b:=fun b hb=>⟨hb.1,fun hh=>hb.2 (hs b hh)⟩
 have m0:=Mod.refl (fun _=>False) w;exact⟨⟨vn,h1,h2.ext (jS _) m0 (fun _ h=>h.elim) (fun _ _ h=>h) (fun b _ hh=>.inl (hs b hh))⟩,h.seen,h.a8.mod m0 (fun h=>h) (fun _ _ x=>x.up m0 aA up),h.Du,h.aj,⟨n,c,hn.up m0 aA up (fun _ _ x=>x.up m0 aA up)⟩,hT,⟨fun hh=>h.out.1 (hs _ hh),fun hh=>h.out.2.1 (hs _ hh),h.out.2.2⟩,fun b hb=>h.lt b (hs b hb),h.mT,h.FN⟩
end
end
section
open Go Go.W
abbrev jT:List Value:=[I 0,.string bM,I 0,.slice none 0 0,.slice none 0 0,.slice none 0 0,.slice none 0 0]
theorem FO(w:World)(B:Nat->Prop)(k:Int)(s:ByteArray):ci w B [I k,.string s,I 0,.slice none 0 0,.slice none 0 0,.slice none 0 0,.slice none 0 0] (.mk k s 0 [] [] [] []):=by
 have e:∀sz,qR w (.slice none 0 0) sz [] B:=fun sz=>⟨⟨none,0,rfl,fun h=>absurd h (by simp),fun i h=>by simp at h⟩,by simp⟩
 exact .mk (e 3) rfl (fun i r t h=>by simp at h) (e 7) rfl (fun i r t h=>by simp at h) (e 11) rfl (fun i r t h=>by simp at h) (fun i r t h=>by simp at h) (e 11) rfl (fun i r t h=>by simp at h) (fun i r t h=>by simp at h) (Nat.le_refl _)
theorem Nv(k:Int)(s:ByteArray):∀u∈([I k,.string s,I 0,.slice none 0 0,.slice none 0 0,.slice none 0 0,.slice none 0 0]:List Value),u.oneCell'=true:=(FO default (fun _=>True) k s).one
theorem alD(a8:List (ByteArray×Ty)){l:List Ty}{k:Nat}(hk:k<l.length):wJ a8 (l.drop k)=if(cZ a8 l[k] 500).2<0 then none else(wJ a8 (l.drop (k+1))).map (fun r=>(cZ a8 l[k] 500).1::r):=by
 rw[Ω hk,wJ]
theorem bQ.look{α:Type}{w:World}{b:Nat}{R:Value->α->Prop}{l:List (ByteArray×α)}(h:bQ w b R l){k:ByteArray}{a:α}(ha:aJ l k=some a):∃lv v,od w b lv/\oe lv k=some v/\R v a:=by
 obtain⟨lv,h1,h2⟩:=h;rcases h2.get k with⟨_,h⟩ |⟨v,a',h3,h4,h5⟩
 .rw[ha]at h;cases h
 .rw[ha]at h4;cases h4;exact⟨lv,v,h1,h3,h5⟩
theorem iA.name{w:World}{S:Nat->Prop}{A:TA}{C:Tc}{t:Tn}{fp:Option Nat}(h:iA w S A C t fp){a:Addr}{d:Nat}{df:Df}(ha:A.ad=some a)(hd:C.aj[d]?=some df):w.cell? (a.add (d*12))=some (.string df.name):=by
 obtain⟨n,c,hn⟩:=h.names;obtain⟨bg,rfl⟩:=List.getElem?_eq_some_iff.1 hd;obtain⟨ad,c',r,e,⟨_,_,_,rfl,_⟩,_,_,hc⟩:=dT hn bg;rw[ha]at e;cases e;have:=hc 0 (by simp)
 rwa[add_zero']at this
section
variable {A:TA} {C:Tc} {t:Tn} {fp:Option Nat} {w:World} {S:Nat->Prop}
open Classical in
theorem alE{d:Nat}{df:Df}{e:Ex}{cs:List Value}(h:iA w S A C t fp)(he:ci w (Out S w) cs e)(hD:aJ C.D e.name=some d)(hd:C.aj[d]? = some df)(ph:df.name.size≤1048576)(rR:e.types.length≤1048576)(yI:t.bR.length≤1073741824) :
   bu Tryz.prog 60 [ptr A.tb,.agg cs.toArray] w fun r w'=>∃S' dB fg,r=.agg (fg:List Value).toArray/\ci w' (Out S' w') fg (mq C e.name e.types t).1/\iA w' S' A C (mq C e.name e.types t).2 dB/\fU A fp dB S S' w w':=by
 obtain⟨vt,va,vb,vl,rfl,uN,Nw,FP,xL⟩:=he.parts;obtain⟨ta,tc,rfl⟩:=bq uN;obtain⟨lvd,_,qy,xe,a,lQ,rfl⟩:=h.aj.look hD;refine γ Tryz.f60 ?_;(try simp only[go_sem,Nat.reduceAdd,Nat.reduceEqDiff,Nat.reduceLT,Nat.reduceLeDiff,Nat.reduceMul,reduceCtorEq,↓reduceIte]);refine bZ rfl ?_;intro w1 au ak cw;(try simp only[go_sem,Nat.reduceAdd,Nat.reduceEqDiff,Nat.reduceLT,Nat.reduceLeDiff,Nat.reduceMul,reduceCtorEq,↓reduceIte]);refine cX ?_;intro w2 az ai bU;have au:=ai.at au Ψ;have bo:=ak.trans ai;have sU:∀b,(S b\/b=w1.heap.size)->b<w2.heap.size:=fun b hb=>by
  rcases hb with h' |h'
  .have:=h.lt b h';omega
  .omega
 have h2:iA w2 (fun b=>S b\/b=w1.heap.size) A C t fp:=h.ext bo (fun _ h=>h.elim) (fun b hb hh=>by
  rcases hh with h |h
  ·exact h
  ·omega) (fun b hb=>.inl hb) sU
 have g2:fU A fp fp S (fun b=>S b\/b=w1.heap.size) w w2:=(fU.refl A fp S w).new bo (fun _ h=>h.elim) (fun b hb hh=>by
  rcases hh with h |h
  ·exact h
  ·omega) (fun b hb=>.inl hb)
 obtain⟨vn,hT,hgn⟩:=h2.tr;obtain⟨r,hmk⟩:=h2.Du;have alF:=sP (sP qy ak (fun h=>h)) ai (fun h=>h);(try simp only[go_sem,Nat.reduceAdd,Nat.reduceEqDiff,Nat.reduceLT,Nat.reduceLeDiff,Nat.reduceMul,reduceCtorEq,↓reduceIte,cell_of hT,cell_of hmk,cell_of au,Value.cells]);refine KH (fun ρ w'=>∃b5,w'.heap[b5]?=some (.cells [.pointer (some (a.add (d*12))),.slice none 0 0,.string bM].toArray uM (0,0))/\Mod (fun _=>False) w2 w'/\w2.heap.size<=b5/\b5<w'.heap.size/\ρ.get 0=some (ptr A.tb)/\ρ.get 3=some (ptr w.heap.size)/\ρ.get 4=some (ptr w1.heap.size)/\ρ.get 5=some (ptr b5)) ?_ ?_
 .rw[GZ];have abD:=sP alF (Mod.drew (.refl (fun _=>False) w2)) (fun h=>h);have l3:=bP hmk;have l4:=bP hT;have abE:∀u∈([.pointer (some (a.add (d*12))),.slice none 0 0,.string bM]:List Value),u.oneCell'=true:=aP rfl (aP rfl (aP rfl dq));have zI:cS.length=3:=rfl;refine⟨?_,?_⟩
  .refine KP rfl rfl rfl rfl (Tryz.zeroValue70 _) abD ?_;rw[xe];(try simp only[go_sem,Nat.reduceAdd,Nat.reduceEqDiff,Nat.reduceLT,Nat.reduceLeDiff,Nat.reduceMul,reduceCtorEq,↓reduceIte,Option.getD_some]);refine cX ?_;intro w3 aS aw dU;refine⟨by refine⟨?_,?_,?_⟩<;>first |exact aw.bO _ l3 Ψ |exact aw.bO _ l4 Ψ |exact aw.bO _ (bP au) Ψ,?_⟩;(try simp only[go_sem,Nat.reduceAdd,Nat.reduceEqDiff,Nat.reduceLT,Nat.reduceLeDiff,Nat.reduceMul,reduceCtorEq,↓reduceIte]);refine bN (vs:=[.pointer (some (a.add (d*12))),.slice none 0 0,.string bM]) (cs:=[.pointer none,.slice none 0 0,.string bM]) rfl rfl aS rfl rfl abE ?_;intro w4 bm aD dL;(try simp only[go_sem,Nat.reduceAdd,Nat.reduceEqDiff,Nat.reduceLT,Nat.reduceLeDiff,Nat.reduceMul,reduceCtorEq,↓reduceIte]);have z:w2.drew.heap.size=w2.heap.size:=rfl;refine⟨w2.heap.size,bm,aw.dG.step aD (fun b h hl=>by have h:b=w2.heap.size:=h;exact absurd hl (by rw[h];exact Nat.lt_irrefl _)),Nat.le_refl _,?_⟩;have dU:w3.heap.size=w2.heap.size+1:=dU;exact⟨by omega,rfl⟩
  ·(try simp only[go_sem,Nat.reduceAdd,Nat.reduceEqDiff,Nat.reduceLT,Nat.reduceLeDiff,Nat.reduceMul,reduceCtorEq,↓reduceIte]);refine cX ?_;intro w3 aS aw dU;refine⟨by refine⟨?_,?_,?_⟩<;>first |exact aw.bO _ l3 Ψ |exact aw.bO _ l4 Ψ |exact aw.bO _ (bP au) Ψ,?_⟩;(try simp only[go_sem,Nat.reduceAdd,Nat.reduceEqDiff,Nat.reduceLT,Nat.reduceLeDiff,Nat.reduceMul,reduceCtorEq,↓reduceIte]);refine KP rfl rfl rfl rfl (Tryz.zeroValue70 _) (sP abD aw (fun h=>h)) ?_;rw[xe];(try simp only[go_sem,Nat.reduceAdd,Nat.reduceEqDiff,Nat.reduceLT,Nat.reduceLeDiff,Nat.reduceMul,reduceCtorEq,↓reduceIte,Option.getD_some]);refine bN (vs:=[.pointer (some (a.add (d*12))),.slice none 0 0,.string bM]) (cs:=[.pointer none,.slice none 0 0,.string bM]) rfl rfl aS rfl rfl abE ?_;intro w4 bm aD dL;(try simp only[go_sem,Nat.reduceAdd,Nat.reduceEqDiff,Nat.reduceLT,Nat.reduceLeDiff,Nat.reduceMul,reduceCtorEq,↓reduceIte]);have z:w2.drew.heap.size=w2.heap.size:=rfl;refine⟨w2.heap.size,bm,aw.dG.step aD (fun b h hl=>by have h:b=w2.heap.size:=h;exact absurd hl (by rw[h];exact Nat.lt_irrefl _)),Nat.le_refl _,?_⟩;have dU:w3.heap.size=w2.heap.size+1:=dU;exact⟨by omega,rfl⟩
 rintro ρ3 w3 ⟨b5,bY,aw,n5,l5,r0,r3,r4,r5⟩;have au:=aw.at au Ψ;have rB:=aw.at hT Ψ;obtain⟨S3,IW⟩:∃S3:Nat->Prop,S3=fun b=>(S b\/b=w1.heap.size)\/b=b5:=⟨_,rfl⟩
 have xX:∀b,(S b\/b=w1.heap.size)->S3 b:=fun b hb=>by rw[IW];exact .inl hb
 have TK:∀b,b<w2.heap.size->S3 b->(S b\/b=w1.heap.size):=fun b hb hh=>by
  rw[IW]at hh;rcases hh with h |h
  .exact h
  .omega
 have Mz:∀b,S3 b->b<w3.heap.size:=fun b hb=>by
  rw[IW]at hb;rcases hb with h |h
  .have:=sU b h;have:=aw.size;omega
  .omega
 have h3:iA w3 S3 A C t fp:=h2.ext aw (fun _ h=>h.elim) TK xX Mz;have g3:=g2.new aw (fun _ h=>h.elim) TK xX;(try simp only[go_sem,Nat.reduceAdd,Nat.reduceEqDiff,Nat.reduceLT,Nat.reduceLeDiff,Nat.reduceMul,reduceCtorEq,↓reduceIte,r0,r3,r4,r5,cell_of rB,cell_of au,Value.cells])
 have hB3:∀b,Out S w b->Out S3 w3 b:=fun b hb=>⟨by have:=hb.1;have:=bo.size;have:=aw.size;omega,fun hh=>by
  rcases TK b (by have:=hb.1;have:=bo.size;omega) hh with h |h
  ·exact hb.2 h
  ·have:=hb.1;omega⟩
 have bz:=bo.trans aw;have aq9:=uN.up bz aA hB3 (fun _ _ x=>x.up bz aA hB3);have e40:=dI uN;have BB:∀b,TS A fp b->b<w.heap.size:=fun b hb=>h.lt b (h.aT b hb)
 have mr:∀b,w.heap.size<=b->¬TS A fp b:=fun b hb hh=>by have:=BB b hh;omega
 obtain⟨_,iE⟩:=h.Du;have Ny:=bP iE;have TL:∀b,w.heap.size<=b->¬TS A fp b/\b≠A.pm:=fun b hb=>⟨mr b hb,by omega⟩
 have No:A.tb<w.heap.size:=BB _ (.inl rfl)
 refine j7 (PP:=fun w'=>aR w' (Out S w)) (l:=e.types) (B:=Out S w) (fun k ρ w'=>k≤e.types.length∧∃ S' L v mT lk,iA w' S' A C (t.at L) fp∧Gr S' 0 w' dH 3 v (fun w B r t=>aR w B r t) lk mT∧fU A fp fp S S' w w'∧(∀ b,S3 b→S' b)∧lk.length=k∧w'.heap[w1.heap.size]? = some (.cells jT.toArray 57 (0,0)) ∧
     w'.heap[b5]?=some (.cells [.pointer (some (a.add (d*12))),v,.string bM].toArray uM (0,0))/\(∀b,mT=some b->S' b/\b5<b)/\wJ C.a8 e.types=(wJ C.a8 (e.types.drop k)).map (fun r=>lk++r) /\
     ρ=[(0,ptr A.tb),(4,ptr w1.heap.size),(5,ptr b5),(6,I t.left),(27,.slice ta e.types.length tc),(28,I e.types.length),(29,I k)])
  ⟨by omega,S3,t.left,.slice none 0 0,none,[],h3,wv,g3,fun _ h=>h,rfl,aw.at az Ψ,bY,(fun _ h=>by cases h),by simp,by(try simp only[go_sem,Nat.reduceAdd,Nat.reduceEqDiff,Nat.reduceLT,Nat.reduceLeDiff,Nat.reduceMul,reduceCtorEq,↓reduceIte]);rfl⟩ uN ?_ (fun _ _ _ h=>h.one) rfl ?_ ?_
 .rintro k _ w5 ⟨hk,S5,L,v,mT,lk,h5,_,g5,_,_,_,_,_,_,rfl⟩;have nd:∀b,Out S w b->¬TS A fp b:=fun b hb hh=>hb.2 (h.aT b hh)
  exact⟨⟨uN.mod g5.mod nd (fun _ _ x=>x.mod g5.mod nd),hk⟩,rfl,rfl,rfl⟩
 .rintro k _ w5 hk w6 r b8 pv ⟨_,S5,L,v,mT,lk,h5,kg,g5,FQ,mR,bm,fN,ej,cK,rfl⟩ hr gi dW aG aq';rw[alD _ hk]at cK;have z5:=g5.mod.size;have z6:=aG.size;have z03:w.heap.size+2<=w3.heap.size:=by have:=aw.size;omega
  have alG:S5 b5:=FQ _ (by rw[IW];exact .inr rfl);have h6:iA w6 S5 A C (t.at L) fp:=h5.ext aG (fun _ h=>h.elim) (fun _ _ h=>h) (fun _ h=>h) (fun b hb=>by have:=h5.lt b hb;omega);have g6:=g5.new aG (fun _ h=>h.elim) (fun _ _ h=>h) (fun _ h=>h);have jx:=kg.ext gV aG (fun _ h=>h.elim) (fun _ _ h=>h) (S':=S5) (fun _ _ h=>.inl h);have Nz:=aG.at fN Ψ;obtain⟨NA,lL,_⟩:=h6.tr;(try simp only[go_sem,Nat.reduceAdd,Nat.reduceEqDiff,Nat.reduceLT,Nat.reduceLeDiff,Nat.reduceMul,reduceCtorEq,↓reduceIte,cell_of lL,Value.cells]);refine eK (b:=A.tb) (off:=2) rfl rfl lL rfl (by simp) ?_;intro w7 mS aO jn;have mS:gM w7 A 500 NA:=mS;have h7:=h6.left lL aO mS;have go:∀{w' eI:World},Mod (· = A.tb) w' eI->fU A fp fp S5 S5 w' eI:=fun hm=>⟨hm.aU (fun b hb=>.inl hb),fun _ _ h=>h,fun _ h=>h,fun _ h=>.inl h⟩
  have g7:=g6.trans (go aO);have TM:¬b5=A.tb:=by omega
  have IX:=aO.at Nz TM;have zZ:=aO.at dW (by omega);have xI:aR w7 (Out S5 w7) r e.types[k]:=hr.up ((aq aG).trans aO) (fun b hb hh=>hb.2 (by rw[hh];exact h.aT _ (.inl rfl))) (fun b hb=>⟨by have:=hb.1;have:=aO.size;omega,fun hh=>hb.2 (g5.hs b hb.1 hh)⟩);(try simp only[go_sem,Nat.reduceAdd,Nat.reduceEqDiff,Nat.reduceLT,Nat.reduceLeDiff,Nat.reduceMul,reduceCtorEq,↓reduceIte,cell_of IX,Value.cells,aE (n:=3) zZ gi]);refine aL (by rfl) ?_;refine(Nn e.types[k] (w:=w7.drew) (A:=A) (vn:=NA) (a8:=C.a8) (S:=S5) (xI.mod (Mod.drew (.refl (fun _=>False) w7)) aA) mS (h7.a8.mod (Mod.drew (.refl (fun _=>False) w7)) (fun h=>h) (fun _ _ x=>x.up (Mod.drew (.refl (fun _=>False) w7)) aA (fun _ h=>h))) (h7.aT _ (.inl rfl)) (fun e=>h7.out.1 (by rw[e];exact h7.aT _ (.inl rfl))) h7.lt).mono ?_;rintro _ w8 ⟨⟨fg,rfl,bL⟩,Aa,nH⟩;have aZ:Mod (· = A.tb) w7 w8:=nH.dG;have h8:=h7.left mS aZ Aa;have g8:=g7.trans (go aZ);have Ab:=aZ.at IX TM;(try simp only[go_sem,Nat.reduceAdd,Nat.reduceEqDiff,Nat.reduceLT,Nat.reduceLeDiff,Nat.reduceMul,reduceCtorEq,↓reduceIte]);refine⟨aZ.bO _ (bP IX) TM,?_⟩;refine ez (cs:=fg.toArray) rfl ?_ ?_
  ·(try simp only[go_sem,Nat.reduceAdd,Nat.reduceEqDiff,Nat.reduceLT,Nat.reduceLeDiff,Nat.reduceMul,reduceCtorEq,↓reduceIte,bL.len])
  intro w9 di aQ gx;have rd:=mD di;rw[bL.len]at rd;have h9:=h8.ext aQ (fun _ h=>h.elim) (fun _ _ h=>h) (fun _ h=>h) (fun b hb=>by have:=h8.lt b hb;omega);have g9:=g8.new aQ (fun _ h=>h.elim) (fun _ _ h=>h) (fun _ h=>h);have BC:=aQ.at Ab Ψ;have z7:=aO.size;have z8:=aZ.size;have pJ:=((jx.ext gV (aO.trans aZ) (fun b hb=>by rw[hb];exact h5.aT _ (.inl rfl)) (fun b hb hh=>by have:=(ej b hb).2;omega) (S':=S5) (fun _ _ h=>.inl h))).ext gV aQ (fun _ h=>h.elim) (fun _ _ h=>h) (S':=S5) (fun _ _ h=>.inl h);(try simp only[go_sem,Nat.reduceAdd,Nat.reduceEqDiff,Nat.reduceLT,Nat.reduceLeDiff,Nat.reduceMul,reduceCtorEq,↓reduceIte]);refine⟨aQ.bO _ (bP Ab) Ψ,?_⟩
  refine ww (a:=(cZ C.a8 e.types[k] 500).1) gV rfl pJ rfl (by simp) rd (bL.up aQ aA (fun b hb=>⟨by have:=hb.1;omega,fun hh=>by
   rcases hh with h |h
   ·exact hb.2 h
   ·exact hb.2 (ej b h).1⟩)) rfl (by omega) (by omega) (by omega) ?_
  intro v10 cD FL tB bD FM;obtain⟨qD,IY⟩:∃qD:Nat->Prop,qD=fun b=>S5 b\/FL=some b:=⟨_,rfl⟩
  have z10:=bD.size;have NC:∀b,FL=some b->qD b/\b5<b/\b<cD.heap.size:=fun b hb=>by
   refine⟨by rw[IY];exact .inr hb,?_⟩;rcases FM b hb with h |⟨h,h'⟩
   .have:=(ej b h).2;have:=h9.lt b (ej b h).1;omega
   .have:=bP BC;omega
  have abF:∀b,b<w9.heap.size->qD b->S5 b:=fun b hb hh=>by
   rw[IY]at hh;rcases hh with h |h
   .exact h
   .rcases FM b h with h |⟨h,_⟩
    .exact(ej b h).1
    .omega
  have IZ:∀b,S5 b->qD b:=fun b hb=>by rw[IY];exact .inl hb
  have mG:=h9.ext bD (fun b hb=>⟨(ej b hb).1,TL b (by have:=(ej b hb).2;omega)⟩) abF IZ (fun b hb=>by
   rw[IY]at hb;rcases hb with h |h
   ·have:=h9.lt b h;omega
   ·exact(NC b h).2.2)
  have g10:=g9.new bD (fun b hb=>by have:=(ej b hb).2;omega) abF IZ;have TN:=bD.at BC (fun hh=>by have:=(ej _ hh).2;have:=bP bY;omega)
  have tB:Gr qD 0 cD dH 3 v10 (fun w B r t=>aR w B r t) (lk++[(cZ C.a8 e.types[k] 500).1]) FL:=tB.ext gV (.refl (fun _=>False) cD) (fun _ h=>h.elim) (fun _ _ h=>h) (fun b _ hb=>by
   rw[IY]at hb
   exact hb)
  obtain⟨a10,AQ,rfl,_⟩:=tB.val;(try simp only[go_sem,Nat.reduceAdd,Nat.reduceEqDiff,Nat.reduceLT,Nat.reduceLeDiff,Nat.reduceMul,reduceCtorEq,↓reduceIte]);refine eK (b:=b5) (off:=1) rfl rfl TN rfl (by simp) ?_;intro eE alH cI um;have abG:=IZ _ alG;have jr:=mG.ext cI (fun b hb=>by rw[hb];exact⟨abG,TL _ (by omega)⟩) (fun _ _ h=>h) (fun _ h=>h) (fun b hb=>by have:=mG.lt b hb;omega);have g11:=g10.new cI (fun b hb=>by rw[hb];omega) (fun _ _ h=>h) (fun _ h=>h);have uO:=tB.ext gV cI (fun b hb=>by rw[hb];exact abG) (fun b hb hh=>by have:=(NC b hb).2;omega) (S':=qD) (fun _ _ h=>.inl h);have bm:=cI.at (bD.at (aQ.at (aZ.at (aO.at (aG.at bm Ψ) (by omega)) (by omega)) Ψ) (fun hh=>by have:=(ej _ hh).2;omega)) (by omega);obtain⟨TO,sy,ND⟩:=jr.tr;have sy:gM eE A (cZ C.a8 e.types[k] 500).2 TO:=sy;have ND:Gr qD 0 eE uM 3 TO (fun w B r i=>wL A.ad w B r i) t.bR fp:=ND;(try simp only[go_sem,Nat.reduceAdd,Nat.reduceEqDiff,Nat.reduceLT,Nat.reduceLeDiff,Nat.reduceMul,reduceCtorEq,↓reduceIte,cell_of sy,Value.cells]);cases pb:decide ((cZ C.a8 e.types[k] 500).2<0)with
  |true=>
   rw[if_pos (of_decide_eq_true pb)]at cK;have alI:mq C e.name e.types t=(.mk 3 ⟨#[]⟩ 0 [] [] [] [],{ t with bR:=t.bR++[none]}):=by
    unfold mq;rw[hD];simp only[cK,Option.map_none]
   (try simp only[go_sem,Nat.reduceAdd,Nat.reduceEqDiff,Nat.reduceLT,Nat.reduceLeDiff,Nat.reduceMul,reduceCtorEq,↓reduceIte,cell_of sy,Value.cells]);refine eK (b:=A.tb) (off:=2) rfl rfl sy rfl (by simp) ?_;intro dQ tC ei AV;have tC:gM dQ A t.left TO:=tC;obtain⟨an,cn,rfl,_⟩:=ND.val;(try simp only[go_sem,Nat.reduceAdd,Nat.reduceEqDiff,Nat.reduceLT,Nat.reduceLeDiff,Nat.reduceMul,reduceCtorEq,↓reduceIte,cell_of tC,Value.cells]);refine ez (cs:=([.pointer none,.slice none 0 0,.string bM]:List Value).toArray) rfl (by rfl) ?_;intro iP si gH De;have oq:=jr.left sy ei tC;have A5:=oq.ext gH (fun _ h=>h.elim) (fun _ _ h=>h) (fun _ h=>h) (fun b hb=>by have:=oq.lt b hb;omega);have g13:=(g11.trans ⟨ei.aU (fun b hb=>.inl hb),fun _ _ h=>h,fun _ h=>h,fun _ h=>.inl h⟩).new gH (fun _ h=>h.elim) (fun _ _ h=>h) (fun _ h=>h);have I0:=gH.at tC Ψ;have alJ:=(ND.ext (jS _) ei (fun b hb=>by rw[hb];exact jr.aT _ (.inl rfl)) (fun b hb hh=>(jr.mT b hb).1 hh) (S':=qD) (fun _ _ h=>.inl h)).ext (jS _) gH (fun _ h=>h.elim) (fun _ _ h=>h) (S':=qD) (fun _ _ h=>.inl h);(try simp only[go_sem,Nat.reduceAdd,Nat.reduceEqDiff,Nat.reduceLT,Nat.reduceLeDiff,Nat.reduceMul,reduceCtorEq,↓reduceIte]);refine ww (a:=(none:Option iQ)) (jS A.ad) rfl alJ rfl (by simp) (mD si) rfl rfl (by omega) (by omega) (by omega) ?_;intro L0 su ara Dw gj I1;obtain⟨I2,I3,rfl,_⟩:=Dw.val;have alK:gM su A t.left _:=gj.at I0 (fun hh=>(h.mT _ hh).1 rfl);(try simp only[go_sem,Nat.reduceAdd,Nat.reduceEqDiff,Nat.reduceLT,Nat.reduceLeDiff,Nat.reduceMul,reduceCtorEq,↓reduceIte]);refine eK (b:=A.tb) (off:=3) rfl rfl alK rfl (by simp) ?_;intro jA alL ki Td;have TP:Mod (fun b=>b=A.tb\/fp=some b) iP jA:=(gj.aU (fun b hb=>.inr hb)).trans (ki.aU (fun b hb=>.inl hb))
   have alM:Mod (TS A fp) iP jA:=TP.aU (fun b hb=>by
    rcases hb with hb |hb
    ·exact .inl hb
    ·exact .inr (.inr hb))
   have RU:=gH.size;have z12:=ei.size;have TC:=cI.size
   obtain⟨hF,gF⟩:=A5.set (t':={ t with bR:=t.bR++[none]}) alM alL (Dw.ext (jS _) ki (fun b hb=>by rw[hb];exact jr.aT _ (.inl rfl)) (fun b hb hh=>by
    rcases I1 b hb with h' |⟨h',_⟩
    ·exact(h.mT b h').1 hh
    ·have:=bP I0;omega) (fun _ _ h=>.inl h)) (A5.seen.mod TP (fun hh=>by
    rcases hh with hh |hh
    ·obtain⟨_,⟨_,_,kG,_⟩,_⟩:=A5.seen;have e1:iP.heap[A.tb]?=_:=I0;rw[hh,e1]at kG;cases kG
    ·exact(h.mT _ hh).2 rfl) (fun _ _ x=>x)) (fun n i hh=>by
     obtain⟨x,hx⟩:=h.FN n i hh;exact⟨x,by simp only;rw[List.getElem?_append_left (List.getElem?_eq_some_iff.1 hx).1];exact hx⟩) (fun b hb=>by
     rcases I1 b hb with h' |⟨h1,h2⟩
     ·exact .inl h'
     ·exact .inr ⟨by omega,by omega⟩)
   have bm:=TP.at (gH.at (ei.at bm (by omega)) Ψ) (fun hh=>by
    rcases hh with hh |hh
    ·omega
    ·exact mr _ (by omega) (.inr (.inr hh)))
   (try simp only[go_sem,Nat.reduceAdd,Nat.reduceEqDiff,Nat.reduceLT,Nat.reduceLeDiff,Nat.reduceMul,reduceCtorEq,↓reduceIte]);refine bN (vs:=[I 3,.string bM,I 0,.slice none 0 0,.slice none 0 0,.slice none 0 0,.slice none 0 0]) (cs:=jT) rfl rfl bm rfl rfl (Nv _ _) ?_;intro pK jy rC NF;(try simp only[go_sem,Nat.reduceAdd,Nat.reduceEqDiff,Nat.reduceLT,Nat.reduceLeDiff,Nat.reduceMul,reduceCtorEq,↓reduceIte,aM,RV.ev,aE (n:=7) jy rfl,aN]);rw[alI];have alN:qD w1.heap.size:=IZ _ (FQ _ (xX _ (.inr rfl)))
   have hF2:=hF.ext rC (fun b hb=>by
    rw[hb];refine⟨.inl alN,fun hh=>?_,by omega⟩;rcases hh with hh |hh |hh
    ·omega
    ·have:=BB _ (.inr (.inl hh));omega
    ·rcases I1 _ hh with h' |⟨h',_⟩
     ·exact mr _ (by omega) (.inr (.inr h'))
     ·have:=bP bm;omega) (fun _ _ h=>h) (fun _ h=>h) (fun b hb=>by have:=hF.lt b hb;omega)
   exact⟨_,_,_,rfl,FO _ _ 3 _,hF2,(g13.trans gF).new rC (fun b hb=>by rw[hb];omega) (fun _ _ h=>h) (fun _ h=>h)⟩
  |false=>
  rw[if_neg (of_decide_eq_false pb)]at cK;(try simp only[go_sem,Nat.reduceAdd,Nat.reduceEqDiff,Nat.reduceLT,Nat.reduceLeDiff,Nat.reduceMul,reduceCtorEq,↓reduceIte]);have jv:IntKind.i64.wrap ((k:Int)+1)=((k+1:Nat):Int):=by rw[dJ (by omega) (by omega)];omega
  refine⟨hk,qD,_,_,FL,_,jr,uO,g11,fun b hb=>IZ _ (FQ b hb),by simp[mR],bm,alH,fun b hb=>⟨(NC b hb).1,(NC b hb).2.1⟩,?_⟩;rw[cK,Option.map_map];congr 1;funext r;simp
 .rintro _ w5 ⟨_,S5,L,v,mT,lk,h5,kg,g5,FQ,mR,bm,fN,ej,cK,rfl⟩;rw[List.drop_length,wJ,Option.map_some,List.append_nil]at cK;obtain⟨SN,TQ⟩:∃SN:Nat->Prop,SN=fun b=>S5 b/\mT≠some b:=⟨_,rfl⟩
  have z5:=g5.mod.size;have lb5:=bP fN;have NG:∀b,S5 b->b<=b5->SN b:=fun b hb hle=>by
   rw[TQ];exact⟨hb,fun hh=>by have:=(ej b hh).2;omega⟩
  have TR:∀b,SN b->S5 b:=fun b hb=>by rw[TQ]at hb;exact hb.1
  have hN:iA w5 SN A C (t.at L) fp:=h5.sub TR (fun b hb=>NG b (h5.aT b hb) (by have:=BB b hb;omega));have gN:fU A fp fp S SN w w5:=⟨g5.mod,fun b hb hh=>g5.hs b hb (TR b hh),fun b hb=>NG b (g5.up b hb) (by have:=h.lt b hb;omega),g5.fp⟩;have tV:aX w5 v 3 (Out SN w5) (aR w5 (Out SN w5)) lk:=kg.fin gV (fun b hb=>.inl (TR b hb)) (fun b hb hh=>by rw[TQ]at hh;exact hh.2 hb) (by omega);have abH:SN b5:=NG _ (FQ _ (by rw[IW];exact .inr rfl)) (Nat.le_refl _);have abI:SN w1.heap.size:=NG _ (FQ _ (xX _ (.inr rfl))) (by omega);obtain⟨vn5,pI,_⟩:=hN.tr;obtain⟨av,cv,rfl⟩:=bq tV;(try simp only[go_sem,Nat.reduceAdd,Nat.reduceEqDiff,Nat.reduceLT,Nat.reduceLeDiff,Nat.reduceMul,reduceCtorEq,↓reduceIte,cell_of pI,Value.cells]);refine eK (b:=A.tb) (off:=2) rfl rfl pI rfl (by simp) ?_;intro w6 lL aG fw;have lL:gM w6 A t.left vn5:=lL;have h6:iA w6 SN A C t fp:=hN.left pI aG lL;have g6:=gN.trans (⟨aG.aU (fun b hb=>.inl hb),fun _ _ h=>h,fun _ h=>h,fun _ h=>.inl h⟩:fU A fp fp SN SN w5 w6);have tbN:∀b,Out SN w5 b->¬b=A.tb:=fun b hb hh=>hb.2 (by rw[hh];exact hN.aT _ (.inl rfl))
  have o6:∀b,Out SN w5 b->Out SN w6 b:=fun b hb=>⟨by have:=hb.1;omega,hb.2⟩
  have Cw:=tV.up aG tbN o6 (fun _ _ x=>x.up aG tbN o6);have Nz:=aG.at fN (by omega);have bm:=aG.at bm (by omega);(try simp only[go_sem,Nat.reduceAdd,Nat.reduceEqDiff,Nat.reduceLT,Nat.reduceLeDiff,Nat.reduceMul,reduceCtorEq,↓reduceIte,cell_of Nz,Value.cells]);refine aL (by rfl) ?_;refine(abx (h6.name lQ hd) ph Cw (by omega) (fun b hb=>hb.1)).mono ?_;rintro _ w7 ⟨rfl,aO⟩;have h7:iA w7 SN A C t fp:=h6.ext aO (fun _ h=>h.elim) (fun _ _ h=>h) (fun _ h=>h) (fun b hb=>by have:=h6.lt b hb;have:=aO.size;omega);have g7:=g6.new aO (fun _ h=>h.elim) (fun _ _ h=>h) (fun _ h=>h);have kU:=Cw.up aO aA (br (aq aO)) (fun _ _ x=>x.up aO aA (br (aq aO)));have IX:=aO.at Nz Ψ;have bm:=aO.at bm Ψ;obtain⟨nm,Dx⟩:∃nm,nm=(mo df.name lk).1:=⟨_,rfl⟩;rw[<- Dx];(try simp only[go_sem,Nat.reduceAdd,Nat.reduceEqDiff,Nat.reduceLT,Nat.reduceLeDiff,Nat.reduceMul,reduceCtorEq,↓reduceIte]);refine eK (b:=b5) (off:=2) rfl rfl IX rfl (by simp) ?_;intro w8 Ab aZ kD;have h8:=h7.ext aZ (fun b hb=>by rw[hb];exact⟨abH,TL _ (by omega)⟩) (fun _ _ h=>h) (fun _ h=>h) (fun b hb=>by have:=h7.lt b hb;omega);have g8:=g7.new aZ (fun b hb=>by rw[hb];omega) (fun _ _ h=>h) (fun _ h=>h);have n8:∀b,Out SN w7 b->¬b=b5:=fun b hb hh=>hb.2 (by rw[hh];exact abH)
  have o8:∀b,Out SN w7 b->Out SN w8 b:=fun b hb=>⟨by have:=hb.1;omega,hb.2⟩
  have hl8:=kU.up aZ n8 o8 (fun _ _ x=>x.up aZ n8 o8);have bm:=aZ.at bm (by omega);have Ab:w8.heap[b5]?=some (.cells [.pointer (some (a.add (d*12))),.slice av lk.length cv,.string nm].toArray uM (0,0)):=Ab;obtain⟨vn8,Aa,alO⟩:=h8.tr;(try simp only[go_sem,Nat.reduceAdd,Nat.reduceEqDiff,Nat.reduceLT,Nat.reduceLeDiff,Nat.reduceMul,reduceCtorEq,↓reduceIte,cell_of Aa,cell_of Ab,Value.cells]);refine abC rfl rfl rfl rfl (Tryz.zeroValue3 _) (bQ.mod h8.seen (Mod.drew (.refl (fun _=>False) w8)) (fun h=>h) (fun _ _ h=>h)) ?_;(try simp only[go_sem,Nat.reduceAdd,Nat.reduceEqDiff,Nat.reduceLT,Nat.reduceLeDiff,Nat.reduceMul,reduceCtorEq,↓reduceIte]);refine KH (fun ρ w'=>∃q:Bool,ρ.get 116=some (.bool q)/\(q=true↔¬ ∃i,aJ t.seen nm=some i/\IL (t.bR[i]?) d lk)/\Mod (fun _=>False) w8 w'/\ρ.get 0=some (ptr A.tb)/\ρ.get 4=some (ptr w1.heap.size)/\ρ.get 5=some (ptr b5)) ?_ ?_
  .cases hq:aJ t.seen nm with
   |none=>
    (try simp only[go_sem,Nat.reduceAdd,Nat.reduceEqDiff,Nat.reduceLT,Nat.reduceLeDiff,Nat.reduceMul,reduceCtorEq,↓reduceIte,Option.isSome_none]);exact⟨true,rfl,by simp,(Mod.refl (fun _=>False) w8).drew.drew⟩
   |some i=>
    obtain⟨x,hx⟩:=h8.FN nm i hq;obtain⟨hi,TT⟩:=List.getElem?_eq_some_iff.1 hx;obtain⟨bn,cn,rr,rfl,rfl,gi,Dy,eu,nT,_⟩:=alO.row (jS _) hi;rw[TT]at Dy;obtain⟨a',v',ea,rfl,nj,_⟩:=Dy;rw[lQ]at ea;cases ea;have b1:(0:Int)<=i/\(i:Int)<t.bR.length:=by omega
    have c0:=nT 0 (by simp);have c1:=nT 1 (by simp);rw[Nat.add_zero]at c0;simp only[List.getElem_cons_zero,List.getElem_cons_succ]at c0 c1;(try simp only[go_sem,Nat.reduceAdd,Nat.reduceEqDiff,Nat.reduceLT,Nat.reduceLeDiff,Nat.reduceMul,reduceCtorEq,↓reduceIte,bG,bH,Option.isSome_some,Option.getD_some,cell_of Aa,cell_of Ab,Value.cells,b1,c0,c1,Bool.not_true]);obtain⟨j,hj,bV⟩:∃j,Tryz.prog.info? 59=some j/\j.size≠0:=⟨_,rfl,by decide⟩;refine abB (n:=12) (a:=a) (i:=x.jR) (k:=d) (.inr rfl) (by omega) rfl rfl Tryz.underlying70 hj bV ?_;cases eU:decide (x.jR=d)with
    |false=>
     have bJ:=of_decide_eq_false eU;(try simp only[go_sem,Nat.reduceAdd,Nat.reduceEqDiff,Nat.reduceLT,Nat.reduceLeDiff,Nat.reduceMul,reduceCtorEq,↓reduceIte,Bool.not_false]);refine⟨true,rfl,?_,(Mod.refl (fun _=>False) w8).drew.drew⟩;simp only[true_iff];rintro⟨y,h1,h2,h3⟩;rw[hx]at h1;cases h1;exact bJ h2
    |true=>
     have nY:=of_decide_eq_true eU;(try simp only[go_sem,Nat.reduceAdd,Nat.reduceEqDiff,Nat.reduceLT,Nat.reduceLeDiff,Nat.reduceMul,reduceCtorEq,↓reduceIte,bG,bH,Bool.not_true,cell_of Aa,cell_of Ab,Value.cells,b1,c0,c1]);refine aL (by rfl) ?_;have md:=(Mod.refl (fun _=>False) w8).drew.drew;refine(K7 Si (fun u _=>aag u) (nj.mod md aA (fun _ _ x=>x.mod md aA)) (hl8.mod md aA (fun _ _ x=>x.mod md aA))).mono ?_;rintro _ w9 ⟨rfl,aQ⟩;(try simp only[go_sem,Nat.reduceAdd,Nat.reduceEqDiff,Nat.reduceLT,Nat.reduceLeDiff,Nat.reduceMul,reduceCtorEq,↓reduceIte]);refine⟨!decide (x.types=lk),rfl,?_,aQ.dG.dG⟩;constructor
     .rintro h1 ⟨y,k1,k2,k3⟩;rw[hx]at k1;cases k1;rw[decide_eq_true k3]at h1;cases h1
     .intro h1;by_cases h2:x.types=lk
      .exact absurd ⟨x,hx,nY,h2⟩ h1
      .rw[decide_eq_false h2];rfl
  rintro ρ9 w9 ⟨q,abJ,hq,aQ,r0,r4,r5⟩;have h9:iA w9 SN A C t fp:=h8.ext aQ (fun _ h=>h.elim) (fun _ _ h=>h) (fun _ h=>h) (fun b hb=>by have:=h8.lt b hb;have:=aQ.size;omega);have g9:=g8.new aQ (fun _ h=>h.elim) (fun _ _ h=>h) (fun _ h=>h);have hl9:=hl8.up aQ aA (br (aq aQ)) (fun _ _ x=>x.up aQ aA (br (aq aQ)));have BC:=aQ.at Ab Ψ;have bm:=aQ.at bm Ψ;have gE:mq C e.name e.types t=(.mk 3 nm 0 [] [] [] [],if q=true then{ t with bR:=t.bR++[some ⟨d,lk,nm⟩],seen:=bS t.seen nm t.bR.length}else t):=by
   have jb:C.nameOf d=df.name:=by unfold Tc.nameOf;rw[hd];rfl
   unfold mq;rw[hD];simp only[cK];rw[jb,<- Dx];cases q with
   |true=>rw[if_neg (hq.1 rfl),if_pos rfl]
   |false=>rw[if_pos (Classical.byContradiction fun hh=>by cases hq.2 hh),if_neg (by decide)]
  refine Ca (fun ρ w'=>∃S' dB,iA w' S' A C (mq C e.name e.types t).2 dB/\fU A fp dB S S' w w'/\S' w1.heap.size/\(∀b,dB=some b->b≠w1.heap.size)/\w'.heap[b5]?=some (.cells [.pointer (some (a.add (d*12))),.slice av lk.length cv,.string nm].toArray uM (0,0))/\w'.heap[w1.heap.size]?=some (.cells jT.toArray 57 (0,0))/\ρ.get 4=some (ptr w1.heap.size)/\ρ.get 5=some (ptr b5)) ?_ ?_
  .cases q with
   |false=>
    (try simp only[go_sem,Nat.reduceAdd,Nat.reduceEqDiff,Nat.reduceLT,Nat.reduceLeDiff,Nat.reduceMul,reduceCtorEq,↓reduceIte,abJ,r0,r4,r5]);rw[gE];exact⟨SN,fp,h9,g9,abI,fun b hb hh=>mr _ (by omega) (.inr (.inr (hh ▸ hb))),BC,bm⟩
   |true=>
    obtain⟨vn9,BA,abK⟩:=h9.tr;obtain⟨an,cn,rfl,_⟩:=abK.val;(try simp only[go_sem,Nat.reduceAdd,Nat.reduceEqDiff,Nat.reduceLT,Nat.reduceLeDiff,Nat.reduceMul,reduceCtorEq,↓reduceIte,abJ,r0,r4,r5,cell_of BA,cell_of BC,Value.cells]);refine lW (kt:=9) (et:=3) (b:=A.ms) (k:=nm) (v:=I t.bR.length) (a:=t.bR.length) rfl rfl rfl rfl rfl (h9.seen.mod (Mod.drew (.refl (fun _=>False) w9)) (fun h=>h) (fun _ _ h=>h)) rfl ?_;intro cD alP alQ ou;have bD:Mod (· = A.ms) w9 cD:=alQ.dG;have ou:cD.heap.size=w9.heap.size:=ou;have nms:¬A.tb=A.ms:=fun e=>by
     obtain⟨_,⟨_,_,kG,_⟩,_⟩:=h9.seen;have e1:w9.heap[A.tb]?=_:=BA;rw[<- e,e1]at kG;cases kG
    have lms:A.ms<w.heap.size:=BB _ (.inr (.inl rfl));have IM:gM cD A t.left _:=bD.at BA nms;have TN:=bD.at BC (by omega);have CB:∀b,Out SN w9 b->¬b=A.ms:=fun b hb hh=>hb.2 (by rw[hh];exact h9.aT _ (.inr (.inl rfl)))
    have I4:∀b,Out SN w9 b->Out SN cD b:=fun b hb=>⟨by have:=hb.1;omega,hb.2⟩
    have Lh:=hl9.up bD CB I4 (fun _ _ x=>x.up bD CB I4);(try simp only[go_sem,Nat.reduceAdd,Nat.reduceEqDiff,Nat.reduceLT,Nat.reduceLeDiff,Nat.reduceMul,reduceCtorEq,↓reduceIte,cell_of IM,Value.cells,aE (n:=3) TN rfl]);refine ez (cs:=([.pointer (some (a.add (d*12))),.slice av lk.length cv,.string nm]:List Value).toArray) rfl (by rfl) ?_;intro eE hZ alR um;have cI:Mod (fun _=>False) cD eE:=alR.dG;have um:eE.heap.size=cD.heap.size+1:=um;have sy:=cI.at IM Ψ;have E5:=Lh.up cI aA (br (aq cI)) (fun _ _ x=>x.up cI aA (br (aq cI)));have uO:=(abK.ext (jS _) bD (fun b hb=>by rw[hb];exact h9.aT _ (.inr (.inl rfl))) (fun b hb hh=>(h9.mT b hb).2 hh) (S':=SN) (fun _ _ h=>.inl h)).ext (jS _) cI (fun _ h=>h.elim) (fun _ _ h=>h) (S':=SN) (fun _ _ h=>.inl h)
    have sfN:∀b,Out SN eE b->Out (SF SN fp) eE b:=fun b hb=>⟨hb.1,fun hh=>by
     rcases hh with hh |hh
     ·exact hb.2 hh
     ·exact hb.2 (h9.aT b (.inr (.inr hh)))⟩
    have alS:=E5.up (.refl (fun _=>False) eE) aA sfN (fun _ _ x=>x.up (.refl (fun _=>False) eE) aA sfN);(try simp only[go_sem,Nat.reduceAdd,Nat.reduceEqDiff,Nat.reduceLT,Nat.reduceLeDiff,Nat.reduceMul,reduceCtorEq,↓reduceIte]);refine⟨cI.bO _ (by have:=bP IM;omega) Ψ,?_⟩;refine ww (a:=some (⟨d,lk,nm⟩:iQ)) (jS A.ad) rfl uO rfl (by simp) (mD hZ) ⟨a,_,lQ,rfl,alS,by rw[Dx];exact TJ ph (by omega)⟩ rfl (by omega) (by omega) (by omega) ?_;intro v12 dQ TU FK ei TV;obtain⟨a12,Yk,rfl,_⟩:=FK.val;have tC:gM dQ A t.left _:=ei.at sy (fun hh=>(h9.mT _ hh).1 rfl);(try simp only[go_sem,Nat.reduceAdd,Nat.reduceEqDiff,Nat.reduceLT,Nat.reduceLeDiff,Nat.reduceMul,reduceCtorEq,↓reduceIte]);refine eK (b:=A.tb) (off:=3) rfl rfl tC rfl (by simp) ?_;intro iP I0 gH De;have FE:Mod (fun b=>b=A.tb\/fp=some b) eE iP:=(ei.aU (fun b hb=>.inr hb)).trans (gH.aU (fun b hb=>.inl hb))
    have TW:Mod (TS A fp) w9 iP:=((bD.aU (fun b hb=>.inr (.inl hb))).trans (aq cI)).trans (FE.aU (fun b hb=>by
     rcases hb with hb |hb
     ·exact .inl hb
     ·exact .inr (.inr hb)))
    have alU:bQ iP A.ms RN (bS t.seen nm t.bR.length):=(alP.mod cI (fun h=>h) (fun _ _ h=>h)).mod FE (fun hh=>by
     rcases hh with hh |hh
     ·exact nms hh.symm
     ·exact(h9.mT _ hh).2 rfl) (fun _ _ h=>h)
    have z12:=ei.size;have lt9:=bP BA
    obtain⟨hF,gF⟩:=h9.set (t':={ t with bR:=t.bR++[some ⟨d,lk,nm⟩],seen:=bS t.seen nm t.bR.length}) TW I0 (FK.ext (jS _) gH (fun b hb=>by rw[hb];exact h9.aT _ (.inl rfl)) (fun b hb hh=>by
     rcases TV b hb with h' |⟨h',_⟩
     ·exact(h9.mT b h').1 hh
     ·omega) (fun _ _ h=>.inl h)) alU (fun n i hh=>by
      simp only at hh ⊢;rw[jg]at hh
      split at hh
      ·cases hh;exact⟨_,by simp;rfl⟩
      ·obtain⟨x,hx⟩:=h9.FN n i hh;exact⟨x,by rw[List.getElem?_append_left (List.getElem?_eq_some_iff.1 hx).1];exact hx⟩) (fun b hb=>by
      rcases TV b hb with h' |⟨h1,h2⟩
      ·exact .inl h'
      ·exact .inr ⟨by omega,by omega⟩)
    have l4:=bP bm;have l9:=bP BC;rw[gE];refine⟨_,TU,hF,g9.trans gF,.inl abI,fun b hb hh=>?_,TW.at BC (mr _ (by omega)),TW.at bm (mr _ (by omega))⟩;rcases TV b hb with h' |⟨h',_⟩
    .exact mr _ (by omega) (.inr (.inr (hh ▸ h')))
    .omega
  rintro ρA wA ⟨SA,fpA,hA,gA,SA4,nfA,alV,alW,k4,k5⟩;(try simp only[go_sem,Nat.reduceAdd,Nat.reduceEqDiff,Nat.reduceLT,Nat.reduceLeDiff,Nat.reduceMul,reduceCtorEq,↓reduceIte,k4,k5,cell_of alV]);refine bN (vs:=[I 3,.string nm,I 0,.slice none 0 0,.slice none 0 0,.slice none 0 0,.slice none 0 0]) (cs:=jT) (by(try simp only[go_sem,Nat.reduceAdd,Nat.reduceEqDiff,Nat.reduceLT,Nat.reduceLeDiff,Nat.reduceMul,reduceCtorEq,↓reduceIte,k4])) rfl alW rfl rfl (Nv _ _) ?_;intro wB hbB hmB hsB;(try simp only[go_sem,Nat.reduceAdd,Nat.reduceEqDiff,Nat.reduceLT,Nat.reduceLeDiff,Nat.reduceMul,reduceCtorEq,↓reduceIte,aM,RV.ev,aE (n:=7) hbB rfl,aN]);have alX:(mq C e.name e.types t).1=.mk 3 nm 0 [] [] [] []:=by rw[gE]
  rw[alX]
  exact⟨_,_,_,rfl,FO _ _ 3 _,hA.ext hmB (fun b hb=>by
   rw[hb];refine⟨SA4,fun hh=>?_,by omega⟩;rcases hh with hh |hh |hh
   ·omega
   ·have:=BB _ (.inr (.inl hh));omega
   ·exact nfA _ hh rfl) (fun _ _ h=>h) (fun _ h=>h) (fun b hb=>by have:=hA.lt b hb;omega),gA.new hmB (fun b hb=>by rw[hb];omega) (fun _ _ h=>h) (fun _ h=>h)⟩
end
end
section
open Go Go.W
mutual
inductive Ct where
 |fq (e:Ex) (v:List mU)
 |vl (x:Vt)
 |ap (c d:Ct)
inductive Vt where
 |num (n:Int) |bE (n:ByteArray) (fs:List Ct) |jN (e:Ex) (v:List mU) |iL (n:ByteArray) (mO:Int) (hv:List Ct)
inductive mU where
 |one (n:ByteArray) (c:Ct)
 |Dz (bs:List Bd)
end
def DA:List Bd->ByteArray->Option Bd
 |[],_=>none
 |b::l,x=>match DA l x with
  |some r=>some r
  |none=>if b.name=x then some b else none
def FR:List mU->ByteArray->Option Ct
 |[],_=>none
 |.one n c::v,x=>if n=x then some c else FR v x
 |.Dz bs::v,x=>match DA bs x with
  |some b=>some (.fq b.value (.Dz bs::v))
  |none=>FR v x
inductive Kf where
 |app (e:Ex) (v:List mU) |DB (d:Ct) |oE (e:Ex) (v:List mU) |fst (e:Ex) (v:List mU) |snd (e:Ex) (n:Int) |seq (e:Ex) (v:List mU) |nO (e:Ex) (v:List mU)
inductive qE where
 |go (c:Ct) |val (x:Vt) |lZ (k:Int)
structure Nx where
 aj:ByteArray->Option Ex
 fields:List (ByteArray×Int)
abbrev ji:=qE×List Kf
def NH(n:ByteArray)(mO:Int)(hv:List Ct):Vt:=if mO=0 then .bE n hv else .iL n mO hv
def FT(X:Nx)(e:Ex)(v:List mU):Option ji:=
 if e.kind=1 then(FR v e.name).map (fun c=>(.go c,[]))
 else if e.kind=3 then(X.aj e.name).map (fun b=>(.go (.fq b []),[]))
 else if e.kind=2 then some (.val (.num e.num),[])
 else if e.kind=4 then some (.val (NH e.name ((aJ X.fields e.name).getD 0) []),[])
 else if e.kind=6 then some (.val (.jN e v),[])
 else if e.kind=12 then some (.lZ e.num,[])
 else if e.kind=7 then(match e.args with
  |[]=>none
  |x::_=>some (.go (.fq x (.Dz e.binds::v)),[]))
 else if e.kind=11 then(match e.binds with
  |[]=>none
  |b::_=>some (.go (.fq b.value v),[.nO e v]))
 else match e.args with
  |[]=>none
  |x::_=>some (.go (.fq x v),if e.kind=5 then[.app e v]else if e.kind=8 then[.oE e v]else if e.kind=9 then[.fst e v]else if e.kind=10 then[.seq e v]else[])
def I5:Vt->Int
 |.num n=>n
 |_=>0
def I6:Vt->Option (ByteArray×List Ct)
 |.bE n fs=>some (n,fs)
 |_=>none
def I7(f:Vt)(c:Ct):Option ji:=match f with
 |.jN e v=>(match e.args,e.binds with
  |x::_,b::_=>some (.go (.fq x (.one b.name c::v)),[])
  |_,_=>none)
 |.iL n l h=>some (.val (NH n (Wr (l-1)) (h++[c])),[])
 |_=>some (.lZ 5,[])
def TX:List ByteArray->List Ct->List mU->Option (List mU)
 |[],_,v=>some v
 |s::l,c::cs,v=>TX l cs (.one s c::v)
 |_::_,[],_=>none
def I8(v:List mU)(x:Vt):List Al->Option ji
 |[]=>some (.lZ 2,[])
 |a::l=>
  if(a.kind == 3||(a.kind == 2&&(I6 x).isNone&&a.num == I5 x))=true then some (.go (.fq a.body v),[])
  else match I6 x with
   |some k=>if(a.kind == 1&&bw a.bE k.1)=true then(TX a.vars k.2 v).map (fun v'=>(.go (.fq a.body v'),[]))else I8 v x l
   |none=>I8 v x l
def toV:Cl->Vt
 |.num n=>.num n
 |.bE n _=>.bE n []
 |_=>.num 0
def yk(f:Kf)(x:Vt):Option ji:=match f with
 |.app e v=>(match e.args with
  |_::y::_=>I7 x (.fq y v)
  |_=>none)
 |.DB d=>I7 x d
 |.oE e v=>I8 v x e.alts
 |.fst e v=>(match e.args with
  |_::y::_=>some (.go (.fq y v),[.snd e (I5 x)])
  |_=>none)
 |.snd e n=>(match rn e.name n (I5 x)with
  |some y=>some (.val (toV y),[])
  |none=>some (.lZ 3,[]))
 |.seq e v=>(match e.args with
  |_::y::_=>some (.go (.fq y v),[])
  |_=>none)
 |.nO e v=>(match e.args,e.binds with
  |y::_,b::_=>some (.go (.fq y (.one b.name (.vl x)::v)),[])
  |_,_=>none)
def pL(X:Nx):ji->Option ji
 |(.go (.vl x),K)=>some (.val x,K)
 |(.go (.ap c d),K)=>some (.go c,.DB d::K)
 |(.go (.fq e v),K)=>(FT X e v).map (fun r=>(r.1,r.2++K))
 |(.val _,[])=>none
 |(.val x,f::K)=>(yk f x).map (fun r=>(r.1,r.2++K))
 |(.lZ _,_)=>none
inductive NR (X:Nx):Nat->ji->ji->Prop
 |refl (a):NR X 0 a a
 |step {n a b c}:pL X a=some b->NR X n b c->NR X (n+1) a c
section
variable {X:Nx}
theorem NR.trans{n m a b c}(h:NR X n a b)(k:NR X m b c):NR X (n+m) a c:=by
 induction h with
 |refl a=>simpa using k
 |step h1 _ ih=>rw[Nat.add_right_comm];exact .step h1 (ih k)
theorem NR.one{a b}(h:pL X a=some b):NR X 1 a b:=.step h (.refl _)
theorem alY{c c':qE}{K K':List Kf}(h:pL X (c,K)=some (c',K'))(L:List Kf):pL X (c,K++L)=some (c',K'++L):=by
 match c,K,h with
 |.go (.vl x),K,h=>simp only[pL]at h ⊢;cases h;rfl
 |.go (.ap c d),K,h=>simp only[pL]at h ⊢;cases h;rfl
 |.go (.fq e v),K,h=>
  simp only[pL]at h ⊢;cases hb:FT X e v with
  |none=>rw[hb]at h;cases h
  |some r=>rw[hb]at h;cases h;simp
 |.val x,f::K,h=>
  simp only[pL,List.cons_append]at h ⊢;cases hb:yk f x with
  |none=>rw[hb]at h;cases h
  |some r=>rw[hb]at h;cases h;simp
theorem NR.app{n:Nat}{s t:ji}(h:NR X n s t)(L:List Kf):NR X n (s.1,s.2++L) (t.1,t.2++L):=by
 induction h with
 |refl a=>exact .refl _
 |step h1 _ ih=>exact .step (alY h1 L) ih
theorem NR.tD{n m:Nat}{a b c:ji}(h:NR X n a b)(k:NR X m a c)(hb:pL X b=none):m<=n/\NR X (n-m) c b:=by
 induction h generalizing m with
 |refl a=>cases k with
  |refl=>exact⟨Nat.le_refl _,.refl _⟩
  |step k1 _=>rw[hb]at k1;cases k1
 |step h1 h2 ih=>
  cases k with
  |refl=>exact⟨Nat.zero_le _,.step h1 h2⟩
  |step k1 k2=>
   rw[h1]at k1;cases k1;obtain⟨i1,i2⟩:=ih k2 hb;exact⟨by omega,by rw[Nat.add_sub_add_right];exact i2⟩
def Dv(X:Nx)(a:ji):Prop:=∀n,∃m b,n<=m/\NR X m a b
theorem Dv.from{n:Nat}{a b:ji}(h:NR X n a b)(k:Dv X b):Dv X a:=fun j=>by
 obtain⟨m,c,h1,h2⟩:=k j;exact⟨n+m,c,by omega,h.trans h2⟩
theorem Dv.not{n:Nat}{a b:ji}(h:Dv X a)(k:NR X n a b)(hb:pL X b=none):False:=by
 obtain⟨m,c,h1,h2⟩:=h (n+1);have:=(k.tD h2 hb).1;omega
theorem Dv.loop{n:Nat}{c:qE}{a:List Kf}(h:NR X (n+1) (c,[]) (c,a))(K:List Kf):Dv X (c,K):=by
 intro j
 induction j generalizing K with
 |zero=>exact⟨0,_,Nat.le_refl _,.refl _⟩
 |succ j ih=>
  obtain⟨m,b,h1,h2⟩:=ih (a++K);have h3:=h.app K;simp only[List.nil_append]at h3;exact⟨n+1+m,b,by omega,h3.trans h2⟩
def sA(X:Nx)(a:ji)(k:Int):Prop:=(∃n K,NR X n a (.lZ k,K))\/(k=4/\Dv X a)
def sB(X:Nx)(a:ji)(x:Vt):Prop:=∃n,NR X n a (.val x,[])
theorem sA.from{n:Nat}{a b:ji}{k:Int}(h:NR X n a b)(r:sA X b k):sA X a k:=by
 rcases r with⟨m,K,r⟩ |⟨r1,r2⟩
 .exact .inl ⟨_,K,h.trans r⟩
 .exact .inr ⟨r1,r2.from h⟩
theorem sB.from{n:Nat}{a b:ji}{x:Vt}(h:NR X n a b)(r:sB X b x):sB X a x:=by
 obtain⟨m,r⟩:=r;exact⟨_,h.trans r⟩
theorem sB.tD{a:ji}{x y:Vt}(h:sB X a x)(k:sB X a y):x=y:=by
 obtain⟨n,h⟩:=h;obtain⟨m,k⟩:=k;obtain⟨_,r⟩:=h.tD k (by rfl);generalize hz:n-m=z at r;generalize ha:((qE.val y,([]:List Kf)))=s at r;cases r with
 |refl=>cases ha;rfl
 |step r1 _=>subst ha;cases r1
theorem sB.st{a:ji}{x:Vt}{k:Int}(h:sB X a x)(r:sA X a k):False:=by
 obtain⟨n,h⟩:=h;rcases r with⟨m,K,r⟩ |⟨_,r⟩
 .obtain⟨_,q⟩:=h.tD r (by rfl);generalize hz:n-m=z at q;generalize ha:((qE.lZ k,K))=s at q;generalize hb:((qE.val x,([]:List Kf)))=t at q;cases q with
  |refl=>subst ha;cases hb
  |step q1 _=>subst ha;cases q1
 .exact r.not h rfl
theorem sA.tD{a:ji}{k j:Int}(h:sA X a k)(r:sA X a j):k=j:=by
 rcases h with⟨n,K,h⟩ |⟨h1,h2⟩<;>rcases r with⟨m,L,r⟩ |⟨r1,r2⟩
 .obtain⟨_,q⟩:=h.tD r (by rfl);generalize hz:n-m=z at q;generalize ha:((qE.lZ j,L))=s at q;generalize hb:((qE.lZ k,K))=t at q;cases q with
  |refl=>subst ha;cases hb;rfl
  |step q1 _=>subst ha;cases q1
 .exact(r2.not h rfl).elim
 .exact(h2.not r rfl).elim
 .rw[h1,r1]
end
end
section
open Go Go.W
inductive TE (G:ByteArray->ByteArray->Prop):Ex->Ex->Prop
 |BD {e e':Ex} (h:e.kind=3) (h':e'.kind=3) (hg:G e.name e'.name):TE G e e'
 | mk {e e':Ex} (hk:e'.kind=e.kind) (h3:e.kind≠3) (hn:e'.name=e.name) (hm:e'.num=e.num)
     (oU:e'.args.length=e.args.length) (ha:∀(i:Nat) (x x':Ex),e.args[i]?=some x->e'.args[i]?=some x'->TE G x x')
     (mE:e'.binds.map Bd.name=e.binds.map Bd.name) (hb:e.kind≠6->∀(i:Nat) (b b':Bd),e.binds[i]?=some b->e'.binds[i]?=some b'->TE G b.value b'.value)
     (iH:e'.alts.length=e.alts.length) (hl:∀(i:Nat) (a a':Al),e.alts[i]?=some a->e'.alts[i]?=some a'->a'.kind=a.kind/\a'.bE=a.bE/\a'.num=a.num/\a'.vars=a.vars)
     (ny:∀(i:Nat) (a a':Al),e.alts[i]?=some a->e'.alts[i]?=some a'->TE G a.body a'.body):TE G e e'
section
variable {G:ByteArray->ByteArray->Prop}
theorem TE.kind{e e':Ex}(h:TE G e e'):e'.kind=e.kind:=by
 cases h with
 |BD h h' _=>rw[h,h']
 |mk hk=>exact hk
theorem TE.inv{e e':Ex}(h:TE G e e')(h3:e.kind≠3):(e'.name=e.name∧e'.num=e.num∧e'.binds.map Bd.name=e.binds.map Bd.name) ∧
   (e'.args.length=e.args.length/\∀(i:Nat) (x x':Ex),e.args[i]?=some x->e'.args[i]?=some x'->TE G x x') /\
   (e.kind≠6->∀(i:Nat) (b b':Bd),e.binds[i]?=some b->e'.binds[i]?=some b'->TE G b.value b'.value) /\
   e'.alts.length=e.alts.length/\∀(i:Nat) (a a':Al),e.alts[i]?=some a->e'.alts[i]?=some a'->(a'.kind=a.kind/\a'.bE=a.bE/\a'.num=a.num/\a'.vars=a.vars)/\TE G a.body a'.body:=by
 cases h with
 |BD h _ _=>exact absurd h h3
 |mk hk _ hn hm oU ha mE hb iH hl ny=>exact⟨⟨hn,hm,mE⟩,⟨oU,ha⟩,hb,iH,fun i a a' x y=>⟨hl i a a' x y,ny i a a' x y⟩⟩
theorem TE.gl{e e':Ex}(h:TE G e e')(h3:e.kind=3):G e.name e'.name:=by
 cases h with
 |BD _ _ hg=>exact hg
 |mk _ h _=>exact absurd h3 h
theorem TE.args{e e':Ex}(h:TE G e e')(h3:e.kind≠3){x':Ex}{l':List Ex}(ha:e'.args=x'::l'):∃x l,e.args=x::l/\TE G x x':=by
 obtain⟨_,⟨h1,h2⟩,_⟩:=h.inv h3;rw[ha]at h1 h2
 match hx:e.args,h1 with
 |x::l,_=>rw[hx]at h2;exact⟨x,l,rfl,h2 0 x x' rfl rfl⟩
theorem TE.NI{e e':Ex}(h:TE G e e')(h3:e.kind≠3){x' y':Ex}{l':List Ex}(ha:e'.args=x'::y'::l'):∃x y l,e.args=x::y::l/\TE G x x'/\TE G y y':=by
 obtain⟨_,⟨h1,h2⟩,_⟩:=h.inv h3;rw[ha]at h1 h2
 match hx:e.args,h1 with
 |x::y::l,_=>rw[hx]at h2;exact⟨x,y,l,rfl,h2 0 x x' rfl rfl,h2 1 y y' rfl rfl⟩
theorem TE.bind{e e':Ex}(h:TE G e e')(h3:e.kind≠3){b':Bd}{l':List Bd}(ha:e'.binds=b'::l'):∃b l,e.binds=b::l/\b'.name=b.name/\(e.kind≠6->TE G b.value b'.value):=by
 obtain⟨⟨_,_,h1⟩,_,h2,_⟩:=h.inv h3;rw[ha]at h1 h2
 match hx:e.binds,h1 with
 |b::l,h1=>
  rw[hx]at h2;simp only[List.map_cons,List.cons.injEq]at h1;exact⟨b,l,rfl,h1.1,fun h6=>h2 h6 0 b b' rfl rfl⟩
end
def Gx(g g1:List Ct):Prop:=∃l,g1=g++l
theorem Gx.refl(g:List Ct):Gx g g:=⟨[],by simp⟩
theorem Gx.trans{a b c:List Ct}(h:Gx a b)(k:Gx b c):Gx a c:=by
 obtain⟨l,rfl⟩:=h;obtain⟨k,rfl⟩:=k;exact⟨l++k,by simp⟩
theorem Gx.get{g g1:List Ct}(h:Gx g g1){c:Nat}{ct:Ct}(hc:g[c]?=some ct):g1[c]?=some ct:=by
 obtain⟨l,rfl⟩:=h;rw[List.getElem?_append_left (List.getElem?_eq_some_iff.1 hc).1];exact hc
def jB(g:List Ct)(v':dS)(v:List mU):Prop:=∀x c,Fj v' x=some c->∃ct,g[c]?=some ct/\FR v x=some ct
def LR(g:List Ct):List Nat->List Ct->Prop
 |[],[]=>True
 |c::fs,ct::cs=>g[c]?=some ct/\LR g fs cs
 |_,_=>False
section
variable {g g1:List Ct} (hx:Gx g g1)
include hx
theorem jB.ext{v':dS}{v:List mU}(h:jB g v' v):jB g1 v' v:=fun x c hc=>by
 obtain⟨ct,h1,h2⟩:=h x c hc;exact⟨ct,hx.get h1,h2⟩
theorem LR.ext:∀{fs:List Nat} {cs:List Ct},LR g fs cs->LR g1 fs cs
 |[],[],_=>trivial
 |c::fs,ct::cs,h=>⟨hx.get h.1,LR.ext h.2⟩
end
theorem LR.snoc{g:List Ct}:∀{fs:List Nat} {cs:List Ct},LR g fs cs->∀{c:Nat} {ct:Ct},g[c]?=some ct->LR g (fs++[c]) (cs++[ct])
 |[],[],_,_,_,h=>⟨h,trivial⟩
 |c::fs,ct::cs,h,_,_,k=>⟨h.1,LR.snoc h.2 k⟩
theorem LR.app{g:List Ct}:∀{fs:List Nat} {cs:List Ct},LR g fs cs->∀{sw:List Nat} {Fc:List Ct},LR g sw Fc->LR g (fs++sw) (cs++Fc)
 |[],[],_,_,_,h=>h
 |c::fs,ct::cs,h,_,_,k=>⟨h.1,LR.app h.2 k⟩
theorem jB.cons{g:List Ct}{v':dS}{v:List mU}(h:jB g v' v){c:Nat}{ct:Ct}(hc:g[c]?=some ct)(n:ByteArray):jB g ((n,c)::v') (.one n ct::v):=fun x d hd=>by
 unfold Fj at hd;rw[tg]at hd;unfold FR;by_cases hn:n=x
 .rw[if_pos hn]at hd ⊢;cases hd;exact⟨ct,hc,rfl⟩
 .rw[if_neg hn]at hd ⊢;exact h x d hd
theorem jB.nil(g:List Ct)(v:List mU):jB g [] v:=fun x c h=>by cases h
theorem abL{g:List Ct}:∀(l:List ByteArray) {fs:List Nat} {cs:List Ct} {v' I9:dS} {v:List mU},so l fs v'=some I9->LR g fs cs->jB g v' v->∃v1,TX l cs v=some v1/\jB g I9 v1
 |[],fs,cs,v',I9,v,h,_,hv=>by cases h;exact⟨v,rfl,hv⟩
 |s::l,c::fs,ct::cs,v',I9,v,h,hl,hv=>abL l h hl.2 (hv.cons hl.1 s)
theorem abM:∀ (du bs:List Bd) (i:Nat) (v':dS),du.map Bd.name=bs.map Bd.name→∀ x c,aJ (pz du i v') x=some c →
   (∃j b,bs[j]?=some b/\DA bs x=some b/\c=i+j)\/(DA bs x=none/\aJ v' x=some c)
 |[],[],i,v',_,x,c,h=>.inr ⟨rfl,h⟩
 |b'::du,b::bs,i,v',hn,x,c,h=>by
  simp only[List.map_cons,List.cons.injEq]at hn;rw[pz]at h;rcases abM du bs (i+1) _ hn.2 x c h with⟨j,r,h1,h2,h3⟩ |⟨h1,h2⟩
  .exact .inl ⟨j+1,r,h1,by simp only[DA,h2],by omega⟩
  .rw[tg]at h2;by_cases hb:b'.name=x
   .rw[if_pos hb]at h2;cases h2;exact .inl ⟨0,b,rfl,by simp only[DA,h1,if_pos (hn.1.symm.trans hb)],rfl⟩
   .rw[if_neg hb]at h2;exact .inr ⟨by simp only[DA,h1,if_neg (fun h=>hb (hn.1.trans h))],h2⟩
theorem jB.lets{g:List Ct}{v':dS}{v:List mU}{du bs:List Bd}(h:jB g v' v)(hn:du.map Bd.name=bs.map Bd.name) :
   jB (g++bs.map (fun b=>Ct.fq b.value (.Dz bs::v))) (pz du g.length v') (.Dz bs::v):=fun x c hc=>by
 unfold FR;rcases abM du bs g.length v' hn x c hc with⟨j,b,h1,h2,h3⟩ |⟨h1,h2⟩
 .rw[h2];refine⟨_,?_,rfl⟩;rw[h3,List.getElem?_append_right (Nat.le_add_right _ _),Nat.add_sub_cancel_left,List.getElem?_map,h1];rfl
 .rw[h1];obtain⟨ct,k1,k2⟩:=h x c h2;exact⟨ct,Gx.get ⟨_,rfl⟩ k1,k2⟩
section
variable (X:Nx) (G:ByteArray->ByteArray->Prop) (g:List Ct)
def fW:Cl->Vt->Prop
 |.num n,.num k=>n=k
 |.bE n fs,.bE k cs=>n=k/\LR g fs cs
 |.jN e' v',.jN e v=>e.kind≠3/\TE G e e'/\jB g v' v
 |.iL n l h,.iL k j cs=>n=k/\l=j/\LR g h cs
 |_,_=>False
def tE:Cl->Ct->Prop
 |.wait e' v',ct=>∃e v,ct=.fq e v/\TE G e e'/\jB g v' v
 |.busy,_=>True
 |.emp,_=>False
 |x,ct=>∃y,sB X (.go ct,[]) y/\fW G g x y
def oJ:Fm->Kf->Prop
 |.app e' v',.app e v=>e.kind≠3/\TE G e e'/\jB g v' v
 |.oE e' v',.oE e v=>e.kind≠3/\TE G e e'/\jB g v' v
 |.fst e' v',.fst e v=>e.kind≠3/\TE G e e'/\jB g v' v
 |.snd e' n',.snd e n=>e.kind≠3/\TE G e e'/\n'=n
 |.seq e' v',.seq e v=>e.kind≠3/\TE G e e'/\jB g v' v
 |.nO e' v',.nO e v=>e.kind≠3/\TE G e e'/\jB g v' v
 |_,_=>False
inductive kO (c:qE):List Kf->List Fm->List Kf->Prop
 |nil {a}:kO c a [] []
 |fm {a k ct n fs K} (hk:g[k]?=some ct) (h:NR X n (.go ct,[]) (c,a)) (r:kO c a fs K):kO c a (.fm k::fs) K
 |DC {a f kf fs K} (hf:oJ G g f kf) (r:kO c (a++[kf]) fs K):kO c a (f::fs) (kf::K)
def TY:Md->qE->Prop
 |.go e' v',.go (.fq e v)=>TE G e e'/\jB g v' v
 |.val x,.val y=>fW G g x y
 |_,_=>False
structure Sm (X':Cx) (m:Rn):Prop where
 len:m.cells.length=g.length
 cells:∀(c:Nat) x ct,m.cells[c]?=some x->g[c]?=some ct->tE X G g x ct
 busy:∀c:Nat,m.cells[c]?=some .busy->Fm.fm c∈m.bA
 fields:X.fields=X'.fields
 aj:∀n n' (c:Nat),G n n'->aJ X'.aj n'=some c->∃b,X.aj n=some b/\g[c]?=some (.fq b [])
end
section
variable {X:Nx} {G:ByteArray->ByteArray->Prop} {g g1:List Ct}
theorem fW.ext(hx:Gx g g1){x:Cl}{y:Vt}(h:fW G g x y):fW G g1 x y:=by
 cases x<;>cases y<;>simp only[fW]at h ⊢<;>first
  |exact h
  |exact⟨h.1,h.2.ext hx⟩
  |exact⟨h.1,h.2.1,h.2.2.ext hx⟩
theorem tE.ext(hx:Gx g g1){x:Cl}{ct:Ct}(h:tE X G g x ct):tE X G g1 x ct:=by
 cases x with
 |wait e' v'=>obtain⟨e,v,h1,h2,h3⟩:=h;exact⟨e,v,h1,h2,h3.ext hx⟩
 |busy=>trivial
 |emp=>exact h
 |_=>obtain⟨y,h1,h2⟩:=h;exact⟨y,h1,h2.ext hx⟩
theorem oJ.ext(hx:Gx g g1){f:Fm}{kf:Kf}(h:oJ G g f kf):oJ G g1 f kf:=by
 cases f<;>cases kf<;>simp only[oJ]at h ⊢<;>first
  |exact h
  |exact⟨h.1,h.2.1,h.2.2.ext hx⟩
theorem kO.ext(hx:Gx g g1){c:qE}{a:List Kf}{fs:List Fm}{K:List Kf}(h:kO X G g c a fs K):kO X G g1 c a fs K:=by
 induction h with
 |nil=>exact .nil
 |fm hk h _ ih=>exact .fm (hx.get hk) h ih
 |DC hf _ ih=>exact .DC (hf.ext hx) ih
theorem kO.step{c c':qE}{a a':List Kf}{fs:List Fm}{K:List Kf}{n:Nat}(h:kO X G g c a fs K)(hs:NR X n (c,a) (c',a')):kO X G g c' a' fs K:=by
 induction h generalizing a' with
 |nil=>exact .nil
 |fm hk h _ ih=>exact .fm hk (h.trans hs) (ih hs)
 |DC hf _ ih=>exact .DC hf (ih (hs.app _))
theorem kO.mem{c:qE}{a:List Kf}{fs:List Fm}{K:List Kf}(h:kO X G g c a fs K){k:Nat}(hm:Fm.fm k∈fs):∃ct b n,g[k]?=some ct/\NR X n (.go ct,[]) (c,b):=by
 induction h with
 |nil=>cases hm
 |fm hk h _ ih=>
  rcases List.mem_cons.1 hm with e |hm
  .cases e;exact⟨_,_,_,hk,h⟩
  .exact ih hm
 |DC hf _ ih=>
  rcases List.mem_cons.1 hm with e |hm
  .subst e;exact absurd hf (by simp[oJ])
  .exact ih hm
theorem tE.I'{x:Cl}{y:Vt}{ct:Ct}(h:fW G g x y)(k:sB X (.go ct,[]) y):tE X G g x ct:=by
 cases x<;>first
  |exact⟨y,k,h⟩
  |(cases y<;>exact absurd h (by simp[fW]))
variable {X':Cx} {m:Rn}
theorem Sm.of(h:Sm X G g X' m){m1:Rn}(hc:m1.cells=m.cells)(hf:∀c:Nat,Fm.fm c∈m.bA->Fm.fm c∈m1.bA):Sm X G g X' m1:=
 ⟨by rw[hc];exact h.len,by rw[hc];exact h.cells,by rw[hc];exact fun c hb=>hf c (h.busy c hb),h.fields,h.aj⟩
theorem Sm.push(h:Sm X G g X' m)(f:Fm):Sm X G g X' (m.push f):=h.of rfl (fun c hc=>List.mem_append_left _ hc)
theorem Sm.grow(h:Sm X G g X' m){L:List Cl}{l:List Ct}(hl:L.length=l.length)(hc:∀(i:Nat) x ct,L[i]?=some x->l[i]?=some ct->tE X G (g++l) x ct/\x≠.busy):Sm X G (g++l) X' { m with cells:=m.cells++L}:=by
 have hx:Gx g (g++l):=⟨l,rfl⟩;refine⟨by simp[h.len,hl],fun c x ct a b=>?_,fun c hb=>?_,h.fields,fun n n' c a b=>?_⟩
 .by_cases bg:c<m.cells.length
  .rw[List.getElem?_append_left bg]at a;rw[List.getElem?_append_left (by rw[<- h.len];exact bg)]at b;exact(h.cells c x ct a b).ext hx
  .rw[List.getElem?_append_right (by omega)]at a;rw[List.getElem?_append_right (by rw[<- h.len];omega),<- h.len]at b;exact(hc _ x ct a b).1
 .by_cases bg:c<m.cells.length
  .exact h.busy c (by rw[List.getElem?_append_left bg]at hb;exact hb)
  .rw[List.getElem?_append_right (by omega)]at hb;have aa3:=(List.getElem?_eq_some_iff.1 hb).1;exact absurd rfl (hc _ _ _ hb (Ξ (by omega))).2
 .obtain⟨bd,h1,h2⟩:=h.aj n n' c a b;exact⟨bd,h1,hx.get h2⟩
theorem Sm.new(h:Sm X G g X' m){x:Cl}{ct:Ct}(hc:tE X G (g++[ct]) x ct)(hb:x≠.busy):Sm X G (g++[ct]) X' (m.new x):=
 h.grow (L:=[x]) (l:=[ct]) rfl (fun i y d hy hd=>by
  match i,hy,hd with
  |0,hy,hd=>cases hy;cases hd;exact⟨hc,hb⟩
  |i+1,hy,hd=>cases hy)
theorem Ja{g:List Ct}(ct:Ct):(g++[ct])[g.length]?=some ct:=by simp
theorem fW.NJ{x:Cl}{y:Vt}(h:fW G g x y):x≠.busy:=by
 rintro rfl;cases y<;>exact absurd h (by simp[fW])
theorem fW.num{x:Cl}{y:Vt}(h:fW G g x y):numOf x=I5 y:=by
 cases x<;>cases y<;>first
  |exact h
  |rfl
  |exact absurd h (by simp[fW])
theorem fW.cons{x:Cl}{y:Vt}(h:fW G g x y):(mj x=none/\I6 y=none)\/∃n fs cs,mj x=some (n,fs)/\I6 y=some (n,cs)/\LR g fs cs:=by
 cases x<;>cases y<;>first
  |exact .inl ⟨rfl,rfl⟩
  |(obtain⟨rfl,h⟩:=h;exact .inr ⟨_,_,_,rfl,rfl,h⟩)
  |exact absurd h (by simp[fW])
end
end
section
open Go Go.W
section
variable (X:Nx) (G:ByteArray->ByteArray->Prop) (X':Cx)
def TZ(g:List Ct):List Fm->List Kf->Prop
 |[],[]=>True
 |f::ps,k::K=>oJ G g f k/\TZ g ps K
 |_,_=>False
def Lo(g:List Ct)(fs:List Fm)(q:Option ji):R3->Prop
 |(some md,m1)=>∃g1 c1 K1 ps,q=some (c1,K1)/\Gx g g1/\Sm X G g1 X' m1/\m1.bA=(ps++fs).reverse/\TZ G g1 ps K1/\TY G g1 md c1
 |(none,m1)=>m1.kind=3/\q=some (.lZ m1.stuck,[])
def uP(s:ji)(g:List Ct):R3->Prop
 |(some md,m1)=>∃g1 c1 sw K1 n,Gx g g1/\Sm X G g1 X' m1/\m1.bA=sw.reverse/\TY G g1 md c1/\kO X G g1 c1 [] sw K1/\NR X n s (c1,K1)
 |(none,m1)=>m1.kind=3/\sA X s m1.stuck
end
section
variable {X:Nx} {G:ByteArray->ByteArray->Prop} {X':Cx} {g:List Ct} {m:Rn} {fs:List Fm}
theorem kO.abN{c:qE}{fs:List Fm}{K:List Kf}:∀{ps:List Fm} {a b:List Kf},kO X G g c (b++a) fs K->TZ G g ps a->kO X G g c b (ps++fs) (a++K)
 |[],[],b,h,_=>by simpa using h
 |f::ps,k::a,b,h,hp=>.DC hp.1 (kO.abN (by simpa using h) hp.2)
theorem Lo.up{q:Option ji}{r:R3}(h:Lo X G X' g fs q r){c:qE}{a K:List Kf}(hs:pL X (c,a)=q)(hf:kO X G g c a fs K):uP X G X' (c,a++K) g r:=by
 match r,h with
 |(some md,m1),⟨g1,c1,K1,ps,h1,h2,h3,h4,h5,h6⟩=>
  have hn:=NR.one (hs.trans h1);have k:kO X G g1 c1 [] (ps++fs) (K1++K):=kO.abN (b:=[]) ((hf.ext h2).step hn) h5;exact⟨g1,c1,ps++fs,K1++K,1,h2,h3,h4,h6,k,hn.app K⟩
 |(none,m1),⟨h1,h2⟩=>
  exact⟨h1,.inl ⟨1,K,by simpa using(NR.one (hs.trans h2)).app K⟩⟩
theorem Sm.drop{f:Fm}{kf:Kf}(h:Sm X G g X' m)(hf:m.bA=(f::fs).reverse)(hk:oJ G g f kf):Sm X G g X' { m with bA:=m.bA.dropLast}:=by
 have e:m.bA=fs.reverse++[f]:=by rw[hf,List.reverse_cons]
 refine h.of rfl (fun c hc=>?_);show Fm.fm c∈m.bA.dropLast;rw[e]at hc ⊢;rw[List.dropLast_concat];rcases List.mem_append.1 hc with h1 |h1
 .exact h1
 .have:=List.mem_singleton.1 h1;subst this;exact absurd hk (by simp[oJ])
theorem abO{n:ByteArray}{l:Int}{hv:List Nat}{cs:List Ct}(h:LR g hv cs):fW G g (tj n l hv) (NH n l cs):=by
 unfold tj NH
 split
 .exact⟨rfl,h⟩
 .exact⟨rfl,rfl,h⟩
theorem abP{f:Cl}{F:Vt}{c:Nat}{ct:Ct}{r:R3}(h:Sm X G g X' m)(fo:m.bA=fs.reverse)(hv:fW G g f F)(hc:g[c]?=some ct)(hr:qt m f c=some r):Lo X G X' g fs (I7 F ct) r:=by
 cases f with
 |jN e' v'=>
  cases F with
  |jN e v=>
   obtain⟨h3,he,eS⟩:=hv;simp only[qt]at hr
   match ha:e'.args,hb:e'.binds,hr with
   |x'::l',b'::k',hr=>
    cases hr;obtain⟨x,l,e1,hx⟩:=he.args h3 ha;obtain⟨b,k,e2,hn,_⟩:=he.bind h3 hb;refine⟨g,.go (.fq x (.one b.name ct::v)),[],[],?_,.refl g,h,by simpa using fo,trivial,hx,?_⟩
    .simp only[I7,e1,e2]
    .rw[hn];exact eS.cons hc _
   |[],_,hr=>cases hr
   |_::_,[],hr=>cases hr
  |_=>exact absurd hv (by simp[fW])
 |iL n l nj=>
  cases F with
  |iL k j cs=>
   obtain⟨rfl,rfl,hl⟩:=hv;unfold qt at hr;simp only at hr
   split at hr
   .cases hr;exact⟨g,_,[],[],rfl,.refl g,h,by simpa using fo,trivial,abO (hl.snoc hc)⟩
   .cases hr
  |_=>exact absurd hv (by simp[fW])
 |num n=>cases F<;>first |(cases hr;exact⟨rfl,rfl⟩) |exact absurd hv (by simp[fW])
 |bE n IB=>cases F<;>first |(cases hr;exact⟨rfl,rfl⟩) |exact absurd hv (by simp[fW])
 |wait e v=>cases F<;>exact absurd hv (by simp[fW])
 |busy=>cases F<;>exact absurd hv (by simp[fW])
 |emp=>cases F<;>exact absurd hv (by simp[fW])
theorem abQ{x:Cl}{y:Vt}{v':dS}{v:List mU}(h:Sm X G g X' m)(fo:m.bA=fs.reverse)(hv:fW G g x y)(eS:jB g v' v):∀ (l' l:List Al),l'.length=l.length→(∀ (i:Nat) (a a':Al),l[i]? = some a→l'[i]? = some a'→(a'.kind=a.kind∧a'.bE=a.bE∧a'.num=a.num∧a'.vars=a.vars)∧TE G a.body a'.body) →
   ∀{r:R3},iM m v' x l'=some r->Lo X G X' g fs (I8 v y l) r
 |[],[],_,_,r,hr=>by cases hr;exact⟨rfl,rfl⟩
 |a'::l',a::l,hl,ha,r,hr=>by
  obtain⟨⟨e1,e2,e3,e4⟩,hb⟩:=ha 0 a a' rfl rfl;have ih:=abQ h fo hv eS l' l (by simpa using hl) (fun i b b' p q=>ha (i+1) b b' p q) (r:=r);unfold iM at hr;unfold I8;rw[e1,e2,e3,e4,hv.num]at hr;have T0:(mj x).isNone=(I6 y).isNone:=by
   rcases hv.cons with⟨a1,a2⟩ |⟨n,f1,f2,a1,a2,_⟩<;>rw[a1,a2]<;>rfl
  rw[T0]at hr
  split at hr
  .rename_i hc;rw[if_pos hc];cases hr;exact⟨g,_,[],[],rfl,.refl g,h,by simpa using fo,trivial,hb,eS⟩
  .rename_i hc;rw[if_neg hc];rcases hv.cons with⟨a1,a2⟩ |⟨n,f1,f2,a1,a2,hl⟩
   .rw[a1]at hr;rw[a2];exact ih hr
   .rw[a1]at hr;rw[a2];simp only at hr ⊢
    split at hr
    .rename_i gv;rw[if_pos gv];obtain⟨I9,h1,h2⟩:=Δ.1 hr;obtain⟨v1,h3,h4⟩:=abL _ h1 hl eS;rw[h3];cases h2;exact⟨g,_,[],[],rfl,.refl g,h,by simpa using fo,trivial,hb,h4⟩
    .rename_i gv;rw[if_neg gv];exact ih hr
theorem alZ{n:ByteArray}{a b:Int}{y:Cl}(h:rn n a b=some y):fW G g y (toV y):=by
 unfold rn at h
 split at h
 .cases h;rfl
 .split at h
  .cases h;rfl
  .split at h
   .cases h;rfl
   .split at h
    .split at h
     .cases h
     .split at h<;>(cases h;rfl)
    .cases h;exact⟨rfl,trivial⟩
theorem al0{f:Fm}{kf:Kf}{x:Cl}{y:Vt}{r:R3}(h:Sm X G g X' m)(fo:m.bA=fs.reverse)(hf:oJ G g f kf)(hv:fW G g x y)(hr:kK f x m=some r):Lo X G X' g fs (yk kf y) r:=by
 cases f with
 |fm c=>exact absurd hf (by simp[oJ])
 |app e' v'=>
  cases kf with
  |app e v=>
   obtain⟨h3,he,eS⟩:=hf;simp only[kK]at hr
   match ha:e'.args,hr with
   |x1::y1::l1,hr=>
    obtain⟨x2,y2,l2,e1,_,hy⟩:=he.NI h3 ha;simp only[yk,e1];have hx:Gx g (g++[.fq y2 v]):=⟨_,rfl⟩;have h2:Sm X G (g++[.fq y2 v]) X' (m.new (.wait y1 v')):=h.new ⟨y2,v,rfl,hy,eS.ext hx⟩ (by simp);have k:=abP (fs:=fs) h2 fo (hv.ext hx) (c:=m.cells.length) (ct:=.fq y2 v) (by rw[h.len];exact Ja _) hr
    match r,k with
    |(some md,m1),⟨g1,c1,K1,ps,k1,k2,k3⟩=>exact⟨g1,c1,K1,ps,k1,hx.trans k2,k3⟩
    |(none,m1),k=>exact k
   |[],hr=>cases hr
   |[_],hr=>cases hr
  |_=>exact absurd hf (by simp[oJ])
 |oE e' v'=>
  cases kf with
  |oE e v=>
   obtain⟨h3,he,eS⟩:=hf;obtain⟨_,_,_,iH,hl⟩:=he.inv h3;exact abQ h fo hv eS _ _ iH hl hr
  |_=>exact absurd hf (by simp[oJ])
 |fst e' v'=>
  cases kf with
  |fst e v=>
   obtain⟨h3,he,eS⟩:=hf;simp only[kK]at hr
   match ha:e'.args,hr with
   |x1::y1::l1,hr=>
    cases hr;obtain⟨x2,y2,l2,e1,_,hy⟩:=he.NI h3 ha;simp only[yk,e1];exact⟨g,_,_,[.snd e' (numOf x)],rfl,.refl g,h.push _,by simp[Rn.push,fo],⟨⟨h3,he,hv.num⟩,trivial⟩,hy,eS⟩
   |[],hr=>cases hr
   |[_],hr=>cases hr
  |_=>exact absurd hf (by simp[oJ])
 |snd e' n'=>
  cases kf with
  |snd e n=>
   obtain⟨h3,he,rfl⟩:=hf;simp only[kK,(he.inv h3).1.1,hv.num]at hr;simp only[yk];cases ho:rn e.name n' (I5 y)with
   |none=>rw[ho]at hr;cases hr;exact⟨rfl,rfl⟩
   |some z=>
    rw[ho]at hr;cases hr;exact⟨g,_,[],[],rfl,.refl g,h,by simpa using fo,trivial,alZ ho⟩
  |_=>exact absurd hf (by simp[oJ])
 |seq e' v'=>
  cases kf with
  |seq e v=>
   obtain⟨h3,he,eS⟩:=hf;simp only[kK]at hr
   match ha:e'.args,hr with
   |x1::y1::l1,hr=>
    cases hr;obtain⟨x2,y2,l2,e1,_,hy⟩:=he.NI h3 ha;simp only[yk,e1];exact⟨g,_,[],[],rfl,.refl g,h,by simpa using fo,trivial,hy,eS⟩
   |[],hr=>cases hr
   |[_],hr=>cases hr
  |_=>exact absurd hf (by simp[oJ])
 |nO e' v'=>
  cases kf with
  |nO e v=>
   obtain⟨h3,he,eS⟩:=hf;simp only[kK]at hr
   match ha:e'.args,hb:e'.binds,hr with
   |x1::l1,b1::k1,hr=>
    cases hr;obtain⟨x2,l2,e1,gS⟩:=he.args h3 ha;obtain⟨b2,k2,e2,hn,_⟩:=he.bind h3 hb;simp only[yk,e1,e2];have hx:Gx g (g++[.vl y]):=⟨_,rfl⟩;refine⟨_,_,[],[],rfl,hx,h.new (tE.I' (hv.ext hx) ⟨1,.one rfl⟩) hv.NJ,by simpa[Rn.new]using fo,trivial,gS,?_⟩;rw[hn,h.len];exact(eS.ext hx).cons (Ja _) _
   |[],_,hr=>cases hr
   |_::_,[],hr=>cases hr
  |_=>exact absurd hf (by simp[oJ])
theorem abR{c:Nat}{ct:Ct}{K:List Kf}(h:Sm X G g X' m)(fo:m.bA=fs.reverse)(hc:g[c]?=some ct)(hf:kO X G g (.go ct) [] fs K)(hl:Fm.fm c∈fs->Dv X (.go ct,K)):uP X G X' (.go ct,K) g (jO m c):=by
 have bg:c<m.cells.length:=by rw[h.len];exact(List.getElem?_eq_some_iff.1 hc).1
 have im:=h.cells c _ ct (Ξ bg) hc;have T1:=h.busy c;rw[Ξ bg]at T1;have val:∀(x:Cl),m.cells[c]?=some x->(∃y,sB X (.go ct,[]) y/\fW G g x y)->uP X G X' (.go ct,K) g (some (.val x),m):=by
  rintro x _ ⟨y,⟨n,hn⟩,hv⟩;exact⟨g,.val y,fs,K,n,.refl g,h,fo,hv,hf.step hn,hn.app K⟩
 unfold jO;rw[Ξ bg];cases hx:m.cells[c]with
 |wait e' v'=>
  rw[hx]at im;obtain⟨e,v,rfl,he,eS⟩:=im;refine⟨g,.go (.fq e v),.fm c::fs,K,0,.refl g,?_,by simp[Rn.push,Rn.put,fo],⟨he,eS⟩,.fm hc (.refl _) hf,.refl _⟩;refine⟨by simp[Rn.push,Rn.put,h.len],fun d y dt hd yK=>?_,fun d hd=>?_,h.fields,h.aj⟩
  .by_cases Jb:c=d
   .subst Jb;have:y=.busy:=by simpa[Rn.push,Rn.put,bg]using hd.symm
    subst this;trivial
   .exact h.cells d y dt (by simpa[Rn.push,Rn.put,List.getElem?_set_ne Jb]using hd) yK
  .by_cases Jb:c=d
   .subst Jb;exact List.mem_append_right _ (List.mem_singleton.2 rfl)
   .exact List.mem_append_left _ (h.busy d (by simpa[Rn.push,Rn.put,List.getElem?_set_ne Jb]using hd))
 |busy=>
  rw[hx]at T1;refine⟨rfl,.inr ⟨rfl,hl ?_⟩⟩;have:=T1 rfl;rw[fo]at this
  simpa using this
 |emp=>rw[hx]at im;exact im.elim
 |num n=>rw[hx]at im;exact val _ (by rw[Ξ bg,hx]) im
 |bE n l=>rw[hx]at im;exact val _ (by rw[Ξ bg,hx]) im
 |jN e v=>rw[hx]at im;exact val _ (by rw[Ξ bg,hx]) im
 |iL n l k=>rw[hx]at im;exact val _ (by rw[Ξ bg,hx]) im
theorem uP.from{s t:ji}{n:Nat}{r:R3}(h:NR X n s t)(k:uP X G X' t g r):uP X G X' s g r:=by
 match r,k with
 |(some md,m1),⟨g1,c1,sw,K1,j,k1,k2,k3,k4,k5,k6⟩=>exact⟨g1,c1,sw,K1,_,k1,k2,k3,k4,k5,h.trans k6⟩
 |(none,m1),⟨k1,k2⟩=>exact⟨k1,k2.from h⟩
theorem abS{e' e:Ex}{v':dS}{v:List mU}{K:List Kf}{r:R3}(h:Sm X G g X' m)(fo:m.bA=fs.reverse)(he:TE G e e')(eS:jB g v' v)(hf:kO X G g (.go (.fq e v)) [] fs K)(hr:sk X' e' v' m=some r):uP X G X' (.go (.fq e v),K) g r:=by
 have ent:∀c ct,pL X (.go (.fq e v),[])=some (.go ct,[])->g[c]?=some ct->uP X G X' (.go (.fq e v),K) g (jO m c):=by
  intro c ct hs hc;have h1:=NR.one hs;refine uP.from (by simpa using h1.app K) (abR h fo hc (hf.step h1) (fun hm=>?_));obtain⟨ct',b,n,h2,h3⟩:=hf.mem hm;rw[hc]at h2;cases h2;exact Dv.loop (h3.trans (by simpa using h1.app b)) K
 unfold sk at hr;have lo:∀q,FT X e v=q->Lo X G X' g fs q r->uP X G X' (.go (.fq e v),K) g r:=fun q hq hlo=>by
  have:=Lo.up (c:=.go (.fq e v)) (a:=[]) (K:=K) (q:=q) hlo (by simp only[pL,hq];cases q<;>simp) hf
  simpa using this
 by_cases k3:e.kind=3
 .have k3':e'.kind=3:=he.kind.trans k3;rw[if_neg (by rw[k3'];decide),if_pos k3']at hr;obtain⟨c,hc,rfl⟩:=Δ.1 hr;obtain⟨b,hb,hgc⟩:=h.aj _ _ c (he.gl k3) hc;refine ent c _ ?_ hgc;simp[pL,FT,k3,hb]
 obtain⟨⟨en,em,eb⟩,_,hbv,_,_⟩:=he.inv k3;rw[he.kind,en,em]at hr;by_cases k1:e.kind=1
 .rw[if_pos k1]at hr;obtain⟨c,hc,rfl⟩:=Δ.1 hr;obtain⟨ct,h1,h2⟩:=eS _ _ hc;refine ent c ct ?_ h1;simp[pL,FT,k1,h2]
 rw[if_neg k1,if_neg k3]at hr;unfold FT at lo;rw[if_neg k1,if_neg k3]at lo;refine lo _ rfl ?_;by_cases k2:e.kind=2
 .rw[if_pos k2]at hr ⊢;cases hr;exact⟨g,_,[],[],rfl,.refl g,h,by simpa using fo,trivial,rfl⟩
 rw[if_neg k2]at hr ⊢;by_cases k4:e.kind=4
 .rw[if_pos k4]at hr ⊢;cases hr;exact⟨g,_,[],[],rfl,.refl g,h,by simpa using fo,trivial,by rw[<- h.fields];exact abO (cs:=[]) trivial⟩
 rw[if_neg k4]at hr ⊢;by_cases k6:e.kind=6
 .rw[if_pos k6]at hr ⊢;cases hr;exact⟨g,_,[],[],rfl,.refl g,h,by simpa using fo,trivial,k3,he,eS⟩
 rw[if_neg k6]at hr ⊢;by_cases Bh:e.kind=12
 .rw[if_pos Bh]at hr ⊢;cases hr;exact⟨rfl,rfl⟩
 rw[if_neg Bh]at hr ⊢;by_cases k7:e.kind=7
 .rw[if_pos k7]at hr ⊢
  match ha:e'.args,hr with
  |[],hr=>cases hr
  |x'::l',hr=>
   cases hr;obtain⟨x,l,e1,hx⟩:=he.args k3 ha;rw[e1];have ny:e'.binds.length=e.binds.length:=by have:=congrArg List.length eb;simpa using this
   have kP:jB (g++e.binds.map (fun b=>Ct.fq b.value (.Dz e.binds::v))) (pz e'.binds m.cells.length v') (.Dz e.binds::v):=by rw[h.len];exact eS.lets eb
   refine⟨_,_,[],[],rfl,⟨_,rfl⟩,h.grow (by simp[ny]) (fun i y ct hy DD=>?_),by simpa using fo,trivial,hx,kP⟩;rw[List.getElem?_map]at hy DD;obtain⟨b',ky,rfl⟩:=Δ.1 hy;obtain⟨b,hb,rfl⟩:=Δ.1 DD;exact⟨⟨b.value,_,rfl,hbv k6 i b b' hb ky,kP⟩,by simp⟩
 rw[if_neg k7]at hr ⊢;by_cases It:e.kind=11
 .rw[if_pos It]at hr ⊢
  match hb:e'.binds,hr with
  |[],hr=>cases hr
  |b'::l',hr=>
   cases hr;obtain⟨b,l,e1,_,fN⟩:=he.bind k3 hb;rw[e1];exact⟨g,_,_,[.nO e' v'],rfl,.refl g,h.push _,by simp[Rn.push,fo],⟨⟨k3,he,eS⟩,trivial⟩,fN k6,eS⟩
 rw[if_neg It]at hr ⊢
 match ha:e'.args,hr with
 |[],hr=>cases hr
 |x'::l',hr=>
  cases hr;obtain⟨x,l,e1,hx⟩:=he.args k3 ha;rw[e1];have one:∀(f:Fm) (kf:Kf),oJ G g f kf->Lo X G X' g fs (some (.go (.fq x v),[kf])) (some (.go x' v'),m.push f):=fun f kf hk=>
   ⟨g,_,_,[f],rfl,.refl g,h.push _,by simp[Rn.push,fo],⟨hk,trivial⟩,hx,eS⟩
  simp only;by_cases k5:e.kind=5
  .rw[if_pos k5,if_pos k5];exact one _ _ ⟨k3,he,eS⟩
  rw[if_neg k5,if_neg k5];by_cases k8:e.kind=8
  .rw[if_pos k8,if_pos k8];exact one _ _ ⟨k3,he,eS⟩
  rw[if_neg k8,if_neg k8];by_cases k9:e.kind=9
  .rw[if_pos k9,if_pos k9];exact one _ _ ⟨k3,he,eS⟩
  rw[if_neg k9,if_neg k9];by_cases zS:e.kind=10
  .rw[if_pos zS,if_pos zS];exact one _ _ ⟨k3,he,eS⟩
  .rw[if_neg zS,if_neg zS];exact⟨g,_,[],[],rfl,.refl g,h,by simpa using fo,trivial,hx,eS⟩
end
end
section
open Go Go.W
section
variable (X:Nx) (G:ByteArray->ByteArray->Prop) (X':Cx)
def ym(s:ji)(g:List Ct):Option Cl×Rn->Prop
 |(some x,m1)=>∃g1 y,Gx g g1/\Sm X G g1 X' m1/\m1.bA=[]/\fW G g1 x y/\sB X s y
 |(none,m1)=>m1.kind=4\/(m1.kind=3/\sA X s m1.stuck)
end
section
variable {X:Nx} {G:ByteArray->ByteArray->Prop} {X':Cx}
theorem ym.from{s t:ji}{n:Nat}{g g1:List Ct}{r:Option Cl×Rn}(h:NR X n s t)(hx:Gx g g1)(k:ym X G X' t g1 r):ym X G X' s g r:=by
 match r,k with
 |(some x,m1),⟨g2,y,k1,k2,k3,k4,k5⟩=>exact⟨g2,y,hx.trans k1,k2,k3,k4,k5.from h⟩
 |(none,m1),k=>
  rcases k with k |⟨k1,k2⟩
  .exact .inl k
  .exact .inr ⟨k1,k2.from h⟩
theorem step_eq(X':Cx)(m:Rn):(ix X' m).2.cells=m.cells/\(ix X' m).2.bA=m.bA/\((ix X' m).1=false->(ix X' m).2.kind=4)/\(ix X' m).2.told=m.told:=by
 unfold ix
 split
 .exact⟨rfl,rfl,fun _=>rfl,rfl⟩
 .exact⟨rfl,rfl,fun h=>(by cases h),rfl⟩
theorem FU:∀(n:Nat) {md:Md} {m:Rn} {r:Option Cl×Rn} {g:List Ct} {c:qE} {fs:List Fm} {K:List Kf},fQ X' n md m=some r->Sm X G g X' m->m.bA=fs.reverse->TY G g md c->kO X G g c [] fs K->ym X G X' (c,K) g r
 |0,md,m,r,g,c,fs,K,h,_,_,_,_=>by cases md<;>(rw[fQ]at h;cases h)
 |n+1,.go e' v',m,r,g,c,fs,K,h,hs,fo,hm,hf=>by
  match c,hm with
  |.go (.fq e v),⟨he,eS⟩=>
   obtain⟨e1,e2,e3,_⟩:=step_eq X' m;rw[fQ]at h
   split at h
   .rename_i h1;cases h;exact .inl (e3 h1)
   .have bU:Sm X G g X' (ix X' m).2:=hs.of e1 (fun c hc=>by rw[e2];exact hc)
    split at h
    .cases h
    .rename_i m1 hb;cases h;exact .inr (abS bU (e2.trans fo) he eS hf hb)
    .rename_i md1 m1 hb;obtain⟨g1,c1,sw,K1,j,k1,k2,k3,k4,k5,k6⟩:=abS bU (e2.trans fo) he eS hf hb;exact(FU n h k2 k3 k4 k5).from k6 k1
 |n+1,.val x,m,r,g,c,fs,K,h,hs,fo,hm,hf=>by
  match c,hm with
  |.go (.vl _),hm=>exact hm.elim
  |.go (.ap _ _),hm=>exact hm.elim
  |.go (.fq _ _),hm=>exact hm.elim
  |.val y,hv=>
   rw[fQ]at h
   match fs,fo,hf with
   |[],fo,.nil=>
    rw[fo]at h;simp only[List.reverse_nil,List.getLast?_nil]at h;cases h;exact⟨g,y,.refl g,hs,fo,hv,0,.refl _⟩
   |f::fs,fo,hf=>
    have e:m.bA=fs.reverse++[f]:=by rw[fo,List.reverse_cons]
    have el:m.bA.getLast?=some f:=by rw[e];simp
    have ed:m.bA.dropLast=fs.reverse:=by rw[e];simp
    rw[el]at h;simp only at h
    match f,hf with
    |.fm k,.fm (ct:=ct) hk hn ni=>
     simp only[kK]at h;refine FU n h (m:={ m with bA:=m.bA.dropLast}.put k x) ?_ ed hv ni;refine⟨by simp[Rn.put,hs.len],fun d z dt hd yK=>?_,fun d hd=>?_,hs.fields,hs.aj⟩
     .by_cases FV:k=d
      .subst FV;have bg:k<m.cells.length:=by rw[hs.len];exact(List.getElem?_eq_some_iff.1 hk).1
       have:z=x:=by simpa[Rn.put,bg]using hd.symm
       subst this;rw[hk]at yK;cases yK;exact tE.I' hv ⟨_,hn⟩
      .exact hs.cells d z dt (by simpa[Rn.put,List.getElem?_set_ne FV]using hd) yK
     .by_cases FV:k=d
      .subst FV;have bg:k<m.cells.length:=by rw[hs.len];exact(List.getElem?_eq_some_iff.1 hk).1
       have:Cl.busy=x:=by simpa[Rn.put,bg]using hd.symm
       exact absurd this.symm hv.NJ
      .have:=hs.busy d (by simpa[Rn.put,List.getElem?_set_ne FV]using hd);show Fm.fm d∈m.bA.dropLast;rw[ed];rw[e]at this;rcases List.mem_append.1 this with h1 |h1
       .exact h1
       .have:=List.mem_singleton.1 h1;cases this;exact absurd rfl FV
    |f,.DC (kf:=kf) (K:=K) zU ni=>
     have bU:=hs.drop fo zU;have key:∀r3,kK f x { m with bA:=m.bA.dropLast}=some r3->uP X G X' (.val y,kf::K) g r3:=fun r3 gi=>
      Lo.up (a:=[kf]) (al0 (fs:=fs) bU ed zU hv gi) (by simp only[pL];cases yk kf y<;>simp) ni
     split at h
     .cases h
     .rename_i m1 he;cases h;exact .inr (key _ he)
     .rename_i md1 m1 he;obtain⟨g1,c1,sw,K1,j,k1,k2,k3,k4,k5,k6⟩:=key _ he;exact(FU n h k2 k3 k4 k5).from k6 k1
theorem ym.of3{n:Nat}{s:ji}{g:List Ct}{r3:R3}{r:Option Cl×Rn}(h:uP X G X' s g r3)(hr:(match r3 with
   |(none,m')=>some (none,m')
   |(some (.val x),m')=>some (some x,m')
   |(some (.go e v),m')=>fQ X' n (.go e v) m')=some r)(hv:∀x m',r3=(some (.val x),m')->m'.bA=[]):ym X G X' s g r:=by
 match r3,h,hr,hv with
 |(none,m1),h,hr,_=>cases hr;exact .inr h
 |(some (.val x),m1),⟨g1,c1,sw,K1,j,k1,k2,k3,k4,k5,k6⟩,hr,hv=>
  cases hr;have h0:=hv x m1 rfl;have iR:sw=[]:=by rw[h0]at k3;simpa using k3.symm
  subst iR;cases k5
  match c1,k4 with
  |.val y,k4=>exact⟨g1,y,k1,k2,h0,k4,j,k6⟩
  |.go (.vl _),k4=>exact k4.elim
  |.go (.ap _ _),k4=>exact k4.elim
  |.go (.fq _ _),k4=>exact k4.elim
 |(some (.go e v),m1),⟨g1,c1,sw,K1,j,k1,k2,k3,k4,k5,k6⟩,hr,_=>
  exact(FU n hr k2 k3 k4 k5).from k6 k1
theorem abT{n c:Nat}{m:Rn}{r:Option Cl×Rn}{g:List Ct}{ct:Ct}(h:rp X' n c m=some r)(hs:Sm X G g X' m)(hf:m.bA=[])(hc:g[c]?=some ct):ym X G X' (.go ct,[]) g r:=by
 have k:=abR (fs:=[]) (K:=[]) hs hf hc .nil (fun hm=>by cases hm);unfold rp at h;generalize he:jO m c=r3 at h k;refine ym.of3 (n:=n) k ?_ (fun x m' hx=>?_)
 .match r3,h with
  |(none,_),h=>exact h
  |(some (.val _),_),h=>exact h
  |(some (.go _ _),_),h=>exact h
 .subst hx;unfold jO at he
  split at he<;>cases he<;>exact hf
theorem abU{n c:Nat}{f:Cl}{F:Vt}{m:Rn}{r:Option Cl×Rn}{g:List Ct}{ct:Ct}(h:uC X' n f c m=some r)(hs:Sm X G g X' m)(hf:m.bA=[])(hv:fW G g f F)(hc:g[c]?=some ct):ym X G X' (.val F,[.DB ct]) g r:=by
 unfold uC at h;cases hg:qt m f c with
 |none=>rw[hg]at h;cases h
 |some r3=>
  have k:=Lo.up (c:=.val F) (a:=[.DB ct]) (K:=[]) (abP (fs:=[]) hs hf hv hc hg) (by simp only[pL,yk];cases I7 F ct<;>simp) .nil;rw[hg]at h;refine ym.of3 (n:=n) k ?_ (fun x m' hx=>?_)
  .match r3,h with
   |(none,_),h=>exact h
   |(some (.val _),_),h=>exact h
   |(some (.go _ _),_),h=>exact h
  .subst hx;unfold qt at hg
   split at hg
   .split at hg<;>cases hg
   .split at hg
    .cases hg;exact hf
    .cases hg
   .cases hg
end
def Jc:Vt->List (ByteArray×Int)
 |.num k=>[(bM,k)]
 |.bE k _=>[(k,0)]
 |_=>[]
def Jd:Vt->List Ct
 |.bE _ fs=>fs
 |_=>[]
inductive wM (X:Nx):List Ct->List (ByteArray×Int)->List Ct->Prop
 |nil (s):wM X s [] s
 |step {c s y l t}:sB X (.go c,[]) y->wM X (Jd y++s) l t->wM X (c::s) (Jc y++l) t
section
variable {X:Nx}
theorem wM.tD{s l t}(h:wM X s l t):∀{l' t'},wM X s l' t'->(∃k,l'=l++k/\wM X t k t')\/(∃k,l=l'++k/\wM X t' k t):=by
 induction h with
 |nil s=>exact fun h=>.inl ⟨_,rfl,h⟩
 |step hy h ih=>
  intro l' t' h';cases h' with
  |nil=>exact .inr ⟨_,rfl,.step hy h⟩
  |step ko h'=>
   have:=hy.tD ko;subst this;rcases ih h' with⟨k,e,k1⟩ |⟨k,e,k1⟩
   .exact .inl ⟨k,by rw[e,List.append_assoc],k1⟩
   .exact .inr ⟨k,by rw[e,List.append_assoc],k1⟩
def NK(X:Nx)(m:Rn)(st:List Ct):Prop:=(m.kind=2/\st=[])\/m.kind=4\/(m.kind=3/\∃c s,st=c::s/\sA X (.go c,[]) m.stuck)
def MR(X:Nx)(s:Ct)(m:Rn):Prop:=∃st,wM X [s] m.told st/\NK X m st
theorem NK.fin{m:Rn}{st:List Ct}(h:NK X m st)(h4:m.kind≠4){l t}(k:wM X st l t):l=[]/\t=st:=by
 rcases h with⟨_,rfl⟩ |h |⟨_,c,s,rfl,h⟩
 .cases k;exact⟨rfl,rfl⟩
 .exact absurd h h4
 .cases k with
  |nil=>exact⟨rfl,rfl⟩
  |step hy _=>exact(hy.st h).elim
theorem al1{s:Ct}{a b:Rn}(ha:MR X s a)(hb:MR X s b):((∃l,b.told=a.told++l)\/(∃l,a.told=b.told++l))/\(a.kind≠4->∃l,a.told=b.told++l)/\(b.kind≠4->∃l,b.told=a.told++l)/\(a.kind≠4->b.kind≠4->a.kind=b.kind/\(a.kind=3->a.stuck=b.stuck)):=by
 obtain⟨sa,ta,ea⟩:=ha;obtain⟨sb,tb,eb⟩:=hb;have key:a.kind≠4->b.kind≠4->sa=sb:=fun h1 h2=>by
  rcases ta.tD tb with⟨k,e,q⟩ |⟨k,e,q⟩
  .exact(ea.fin h1 q).2.symm
  .exact(eb.fin h2 q).2
 refine⟨?_,fun h=>?_,fun h=>?_,fun h1 h2=>?_⟩
 .rcases ta.tD tb with⟨k,e,_⟩ |⟨k,e,_⟩
  .exact .inl ⟨k,e⟩
  .exact .inr ⟨k,e⟩
 .rcases ta.tD tb with⟨k,e,q⟩ |⟨k,e,_⟩
  .exact⟨[],by rw[e,(ea.fin h q).1];simp⟩
  .exact⟨k,e⟩
 .rcases ta.tD tb with⟨k,e,q⟩ |⟨k,e,q⟩
  .exact⟨k,e⟩
  .exact⟨[],by rw[e,(eb.fin h q).1];simp⟩
 .have e:=key h1 h2;subst e;rcases ea with⟨a1,a2⟩ |a |⟨a1,c,s1,a2,a3⟩<;>rcases eb with⟨b1,b2⟩ |b |⟨b1,d,s2,b2,b3⟩
  .exact⟨a1.trans b1.symm,fun h=>by rw[a1]at h;cases h⟩
  .exact absurd b h2
  .rw[a2]at b2;cases b2
  .exact absurd a h1
  .exact absurd a h1
  .exact absurd a h1
  .rw[a2]at b2;cases b2
  .exact absurd b h2
  .rw[a2]at b2;cases b2;exact⟨a1.trans b1.symm,fun _=>a3.tD b3⟩
end
section
variable {X:Nx} {G:ByteArray->ByteArray->Prop} {X':Cx}
theorem fW.item{g:List Ct}{x:Cl}{y:Vt}(h:fW G g x y):rq x=Jc y/\LR g (fieldsOf x) (Jd y):=by
 cases x<;>cases y<;>first
  |(cases h;exact⟨rfl,trivial⟩)
  |(obtain⟨rfl,h⟩:=h;exact⟨rfl,h⟩)
  |exact⟨rfl,trivial⟩
  |exact absurd h (by simp[fW])
theorem T2:∀ (n:Nat) {x:Cl} {ws:List Nat} {m m':Rn} {g:List Ct} {y:Vt} {c:Ct} {Ac:List Ct},kY X' n x ws m=some m'→Sm X G g X' m→m.bA=[]→fW G g x y→sB X (.go c,[]) y→LR g ws.reverse Ac →
   ∃l st,m'.told=m.told++l/\wM X (c::Ac) l st/\NK X m' st
 |0,x,ws,m,m',g,y,c,Ac,h,_,_,_,_,_=>by rw[kY]at h;cases h
 |n+1,x,ws,m,m',g,y,c,Ac,h,hs,hf,hv,hy,hw=>by
  obtain⟨e1,e2,e3,e4⟩:=step_eq X' m;rw[kY]at h
  split at h
  .rename_i h1;cases h;exact⟨[],_,by rw[e4];simp,.nil _,.inr (.inl (e3 h1))⟩
  .simp only at h;obtain⟨hi,iR⟩:=hv.item
   split at h
   .cases h
   .have DE:LR g (ws++(fieldsOf x).reverse).reverse (Jd y++Ac):=by
     rw[List.reverse_append,List.reverse_reverse];exact iR.app hw
    have bU:Sm X G g X' { (ix X' m).2 with told:=(ix X' m).2.told++rq x}:=hs.of e1 (fun c hc=>by show _∈(ix X' m).2.bA;rw[e2];exact hc);have ni:(ix X' m).2.bA=[]:=e2.trans hf
    split at h
    .rename_i hl;cases h;have al2:ws++(fieldsOf x).reverse=[]:=List.getLast?_eq_none_iff.1 hl;rw[al2]at DE
     match bT:Jd y++Ac,DE with
     |[],_=>
      exact⟨Jc y++[],[],by rw[e4,hi,List.append_nil],.step hy (by rw[bT];exact .nil _),.inl ⟨rfl,rfl⟩⟩
    .rename_i c2 hl;obtain ⟨Je,Bj⟩:∃ Je,ws++(fieldsOf x).reverse=Je++[c2]:=by
      obtain⟨l,hl⟩:=List.getLast?_eq_some_iff.1 hl;exact⟨l,hl⟩
     rw[Bj]at DE h;rw[List.reverse_append]at DE;simp only[List.reverse_cons,List.reverse_nil,List.nil_append,List.singleton_append]at DE
     match bT:Jd y++Ac,DE with
     |ct2::abV,⟨gv,al3⟩=>
      rw[List.dropLast_concat]at h
      split at h
      .cases h
      .rename_i m3 pR;cases h;have k:=abT pR bU ni gv;have kt:m'.told=_:=(FB pR ni).told;refine⟨Jc y++[],ct2::abV,by rw[kt,e4,hi,List.append_nil],.step hy (by rw[bT];exact .nil _),?_⟩;rcases k with k |⟨k1,k2⟩
       .exact .inr (.inl k)
       .exact .inr (.inr ⟨k1,ct2,abV,rfl,k2⟩)
      .rename_i y3 m3 pR;obtain⟨g1,z,k1,k2,k3,k4,k5⟩:=abT pR bU ni gv;have kt:m3.told=_:=(FB pR ni).told;obtain⟨l,st,q1,q2,q3⟩:=T2 n h k2 k3 k4 k5 (al3.ext k1);exact⟨Jc y++l,st,by rw[q1,kt,e4,hi,List.append_assoc],.step hy (by rw[bT];exact q2),q3⟩
def rD:List Int->Vt
 |[]=>.bE ⟨#[78,105,108]⟩ []
 |n::l=>.bE ⟨#[67,111,110,115]⟩ [.vl (.num n),.vl (rD l)]
theorem abW{g:List Ct}{m:Rn}(hs:Sm X G g X' m):∀(l:List Int),∃g1,Gx g g1/\Sm X G g1 X' (m.ls l)/\fW G g1 (kj l m.cells).1 (rD l)
 |[]=>⟨g,.refl g,hs,rfl,trivial⟩
 |n::l=>by
  obtain⟨g1,h1,h2,h3⟩:=abW hs l;have x1:Gx g1 (g1++[.vl (.num n)]):=⟨_,rfl⟩;have x2:Gx (g1++[.vl (.num n)]) ((g1++[.vl (.num n)])++[.vl (rD l)]):=⟨_,rfl⟩;have s1:Sm X G (g1++[.vl (.num n)]) X' ((m.ls l).new (.num n)):=h2.new (tE.I' (y:=.num n) rfl ⟨1,.one rfl⟩) (by simp);have v2:=h3.ext (x1.trans x2);have s2:=s1.new (ct:=.vl (rD l)) (tE.I' v2 ⟨1,.one rfl⟩) v2.NJ;refine⟨_,h1.trans (x1.trans x2),by rw[aa0];exact s2,?_⟩;have hlen:(kj l m.cells).2.length=g1.length:=h2.len;simp only[kj,rD,fW,LR,hlen,true_and,and_true];exact⟨x2.get (Ja _),by have:=Ja (g:=g1++[.vl (.num n)]) (.vl (rD l));simp⟩
def yn(gz:Bool)(name:ByteArray)(input:List Int):Ct:=if gz=true then .ap (.fq (pG name) []) (.vl (rD input))else .fq (pG name) []
theorem Sm.run{p:Pg}{fuel:Int}{os:List Ex}(hlen:os.length=p.aj.length)(T4:∀ (i:Nat) o d,os[i]? = some o→p.aj[i]? = some d→TE G o d.body)
   (hG:∀n n' (c:Nat),G n n'->aJ (fH p fuel).aj n'=some c->∃b,X.aj n=some b/\os[c]?=some b) (hf:X.fields=(fH p fuel).fields):Sm X G (os.map (fun b=>Ct.fq b [])) (fH p fuel) (iO p):=by
 refine⟨by simp[iO,hlen],fun c x ct hx DD=>?_,fun c hc=>?_,hf,fun n n' c h1 h2=>?_⟩
 .simp only[iO,List.getElem?_map]at hx DD;obtain⟨d,hd,rfl⟩:=Δ.1 hx;obtain⟨o,ho,rfl⟩:=Δ.1 DD;exact⟨o,[],rfl,T4 c o d ho hd,jB.nil _ _⟩
 .simp only[iO,List.getElem?_map]at hc;obtain⟨d,hd,h⟩:=Δ.1 hc;cases h
 .obtain⟨b,k1,k2⟩:=hG n n' c h1 h2;exact⟨b,k1,by rw[List.getElem?_map,k2];rfl⟩
theorem sA.app{a:ji}{k:Int}(h:sA X a k)(L:List Kf):sA X (a.1,a.2++L) k:=by
 rcases h with⟨n,K,h⟩ |⟨h1,h2⟩
 .exact .inl ⟨n,_,h.app L⟩
 .exact .inr ⟨h1,fun n=>by
   obtain⟨m,b,k1,k2⟩:=h2 n
   exact⟨m,_,k1,k2.app L⟩⟩
theorem abX{p:Pg}{fuel:Int}{os:List Ex}{name T5:ByteArray}{gz:Bool}{input:List Int}{m:Rn}(h:runM p fuel T5 gz input=some m)(hn:G name T5)(hlen:os.length=p.aj.length)(T4:∀ (i:Nat) o d,os[i]? = some o→p.aj[i]? = some d→TE G o d.body)
   (hG:∀n n' (c:Nat),G n n'->aJ (fH p fuel).aj n'=some c->∃b,X.aj n=some b/\os[c]?=some b) (hf:X.fields=(fH p fuel).fields):MR X (yn gz name input) m:=by
 have hs:=Sm.run hlen T4 hG hf;have dN:TE G (pG name) (pG T5):=.BD rfl rfl hn;unfold runM at h
 split at h
 .cases h
 .rename_i m1 hg;cases h;have k:=FU (c:=.go (.fq (pG name) [])) (fs:=[]) (K:=[]) _ hg hs rfl ⟨dN,jB.nil _ _⟩ .nil;have kt:m.told=[]:=(xZ _ hg).told;refine⟨[yn gz name input],by rw[kt];exact .nil _,?_⟩;rcases k with k |⟨k1,k2⟩
  .exact .inr (.inl k)
  .refine .inr (.inr ⟨k1,_,[],rfl,?_⟩);unfold yn
   split
   .have:=k2.app [.DB (.vl (rD input))];exact sA.from (NR.one (by rfl)) this
   .exact k2
 .rename_i x m1 hg;obtain⟨g1,y,k1,k2,k3,k4,k5⟩:=FU (c:=.go (.fq (pG name) [])) (fs:=[]) (K:=[]) _ hg hs rfl ⟨dN,jB.nil _ _⟩ .nil;have kt:m1.told=[]:=(xZ _ hg).told
  split at h
  .rename_i ht;have T6:yn gz name input=.ap (.fq (pG name) []) (.vl (rD input)):=if_pos ht;obtain⟨n1,pq⟩:=k5;obtain⟨g2,q1,q2,q3⟩:=abW k2 input;have x3:Gx g2 (g2++[.vl (rD input)]):=⟨_,rfl⟩;have v3:=q3.ext x3;have s3:=q2.new (ct:=.vl (rD input)) (tE.I' v3 ⟨1,.one rfl⟩) v3.NJ;have cT:(g2++[.vl (rD input)])[(m1.ls input).cells.length]?=some (.vl (rD input)):=by rw[q2.len];exact Ja _
   have st:NR X (1+n1) (.go (yn gz name input),[]) (.val y,[.DB (.vl (rD input))]):=by
    rw[T6];exact(NR.one (by rfl)).trans (pq.app [.DB (.vl (rD input))])
   split at h
   .cases h
   .rename_i m2 ha;cases h;have k:=abU ha s3 k3 (k4.ext (q1.trans x3)) cT;have T7:m.told=m1.told:=(FI ha k3).told;refine⟨[yn gz name input],by rw[T7,kt];exact .nil _,?_⟩;rcases k with k |⟨k1,k2⟩
    .exact .inr (.inl k)
    .exact .inr (.inr ⟨k1,_,[],rfl,k2.from st⟩)
   .rename_i z m2 ha;obtain⟨g4,u,j1,j2,j3,j4,j5⟩:=abU ha s3 k3 (k4.ext (q1.trans x3)) cT;have T7:m2.told=m1.told:=(FI ha k3).told;obtain⟨l,lZ,r1,r2,r3⟩:=T2 (ws:=[]) (Ac:=[]) _ h j2 j3 j4 (j5.from st) trivial;exact⟨lZ,by rw[r1,T7,kt];exact r2,r3⟩
  .rename_i ht;have T6:yn gz name input=.fq (pG name) []:=if_neg ht;obtain⟨l,lZ,r1,r2,r3⟩:=T2 (ws:=[]) (Ac:=[]) (c:=yn gz name input) _ h k2 k3 k4 (by rw[T6];exact k5) trivial;exact⟨lZ,by rw[r1,kt];exact r2,r3⟩
end
end
section
open Go Go.W
mutual
def Ex.de:Ex->Nat
 |.mk _ _ _ ts xs bs al=>cj ts+cj (fx bs)+iB xs+gn bs+iC al+1
def iB:List Ex->Nat
 |[]=>0
 |x::l=>x.de+iB l
def gn:List Bd->Nat
 |[]=>0
 |.mk _ _ v::l=>v.de+gn l
def iC:List Al->Nat
 |[]=>0
 |.mk _ _ _ _ b::l=>b.de+1+iC l
end
theorem TE.mono{G G':ByteArray->ByteArray->Prop}(h:∀n n',G n n'->G' n n'){e e':Ex}(k:TE G e e'):TE G' e e':=by
 induction k with
 |BD h1 h2 hg=>exact .BD h1 h2 (h _ _ hg)
 |mk hk h3 hn hm oU _ mE _ iH hl _ qQ vm jZ=>exact .mk hk h3 hn hm oU qQ mE vm iH hl jZ
abbrev sC(a8:List (ByteArray×Ty)):Prop:=∀n u,aJ a8 n=some u->u.cN<=500
theorem gO{n:Int}(h1 : -9223372036854775808<=n)(h2:n<=9223372036854775807):Wr n=n:=dJ h1 (by omega)
theorem T8{a8:List (ByteArray×Ty)}(hb:sC a8)(t:Ty):∀ left:Int,-1152921504606846976+501*(t.cN:Int)≤left→left≤1152921504606846976 →
   left-501*(t.cN:Int)<=(cZ a8 t left).2/\(cZ a8 t left).2<=left-1/\(0<=(cZ a8 t left).2->((cZ a8 t left).1.cN:Int)=left-(cZ a8 t left).2):=by
 induction t using Ty.ind with
 |h t ih=>
 have key:∀ (l:List Ty),(∀ u∈l,∀ left:Int,-1152921504606846976+501*(u.cN:Int)≤left→left≤1152921504606846976 →
     left-501*(u.cN:Int)<=(cZ a8 u left).2/\(cZ a8 u left).2<=left-1/\(0<=(cZ a8 u left).2->((cZ a8 u left).1.cN:Int)=left-(cZ a8 u left).2)) ->
     ∀left:Int,-1152921504606846976+501*(cj l:Int)<=left->left<=1152921504606846976 ->
     left-501*(cj l:Int)<=(dz a8 l left).2/\(dz a8 l left).2<=left/\(0<=(dz a8 l left).2->(cj (dz a8 l left).1:Int)=left-(dz a8 l left).2):=by
  intro l
  induction l with
  |nil=>intro _ left h1 h2;rw[dz];simp only[cj];exact⟨by omega,Int.le_refl _,fun _=>by omega⟩
  |cons u l jZ=>
   intro hu left h1 h2;rw[cj]at h1 ⊢;obtain⟨a1,a2,a3⟩:=hu u (by simp) left (by omega) h2;obtain⟨b1,b2,b3⟩:=jZ (fun v hv=>hu v (by simp[hv])) (cZ a8 u left).2 (by omega) (by omega);rw[dz];simp only[cj];refine⟨by omega,by omega,fun h=>?_⟩;have:=a3 (by omega);have:=b3 h;omega
 obtain⟨k,n,l⟩:=t;intro left h1 h2;have hz:(Ty.mk k n l).cN=1+cj l:=Ty.AN _;rw[hz]at h1 ⊢;have hw:Wr (left-1)=left-1:=gO (by omega) (by omega);rw[cZ]
 split
 .rw[hw];exact⟨by omega,Int.le_refl _,fun h=>by simp only at h;omega⟩
 .rename_i hge;rw[hw]at hge ⊢
  split
  .rename_i u hu;have hs:u.cN≤500:=by
    split at hu
    .exact hb _ _ hu
    .cases hu
   have e:u.size=(u.cN:Int):=zj u (by omega);have hp:=QD u;have Bj:Wr (left-1-Wr (u.size-1))=left-u.cN:=by
    have ij:Wr ((u.cN:Int)-1)=(u.cN:Int)-1:=gO (by omega) (by omega);rw[e,ij,gO (by omega) (by omega)];omega
   rw[Bj]
   split
   .exact⟨by simp only;omega,by simp only;omega,fun h=>by simp only at h;omega⟩
   .exact⟨by simp only;omega,by simp only;omega,fun h=>by simp only;omega⟩
  .obtain⟨c1,c2,c3⟩:=key l (fun u hu=>ih u hu) (left-1) (by omega) (by omega);refine⟨by simp only;omega,by simp only;omega,fun h=>?_⟩;have:=c3 h;have y9:(Ty.mk k n (dz a8 l (left-1)).1).cN=1+cj (dz a8 l (left-1)).1:=Ty.AN _;simp only[y9];omega
theorem NL{a8:List (ByteArray×Ty)}(hb:sC a8):∀ (l:List Ty) (left:Int),-1152921504606846976+501*(cj l:Int)≤left→left≤1152921504606846976 →
   left-501*(cj l:Int)<=(dz a8 l left).2/\(dz a8 l left).2<=left/\(0<=(dz a8 l left).2->(cj (dz a8 l left).1:Int)=left-(dz a8 l left).2)
 |[],left,h1,h2=>by rw[dz];simp only[cj];exact⟨by omega,Int.le_refl _,fun _=>by omega⟩
 |u::l,left,h1,h2=>by
  rw[cj]at h1 ⊢;obtain⟨a1,a2,a3⟩:=T8 hb u left (by omega) h2;obtain⟨b1,b2,b3⟩:=NL hb l (cZ a8 u left).2 (by omega) (by omega);rw[dz];simp only[cj];exact⟨by omega,by omega,fun h=>by have:=a3 (by omega);have:=b3 h;omega⟩
theorem NM:∀(l:List Ty) (n:Int),cj l<=1000000->0<=n->n+cj l<=1152921504606846976->ly l n=n+cj l
 |[],n,_,_,_=>by rw[ly,cj];simp
 |t::l,n,h1,h2,h3=>by
  rw[cj]at h1 h3 ⊢;have e:=zj t (by omega);rw[ly,e,gO (by omega) (by omega),NM l _ (by omega) (by omega) (by omega)];omega
theorem al4(t:Ty):∀left:Int,-1152921504606846976+501*(t.cN:Int)<=left->left<=1152921504606846976->0<=(cZ [] t left).2->(cZ [] t left).1=t:=by
 have hb:sC []:=fun n u h=>by cases h
 induction t using Ty.ind with
 |h t ih=>
 have key:∀ (l:List Ty),(∀ u∈l,∀ left:Int,-1152921504606846976+501*(u.cN:Int)≤left→left≤1152921504606846976→0≤(cZ [] u left).2→(cZ [] u left).1=u) →
     ∀left:Int,-1152921504606846976+501*(cj l:Int)<=left->left<=1152921504606846976->0<=(dz [] l left).2->(dz [] l left).1=l:=by
  intro l
  induction l with
  |nil=>intro _ left h1 h2 _;rw[dz]
  |cons u l jZ=>
   intro hu left h1 h2 h3;rw[cj]at h1;rw[dz]at h3 ⊢;obtain⟨a1,a2,_⟩:=T8 hb u left (by omega) h2;obtain⟨b1,b2,_⟩:=NL hb l (cZ [] u left).2 (by omega) (by omega);simp only at h3 ⊢;rw[hu u (by simp) left (by omega) h2 (by omega),jZ (fun v hv=>hu v (by simp[hv])) _ (by omega) (by omega) h3]
 obtain⟨k,n,l⟩:=t;intro left h1 h2 h3;have hz:(Ty.mk k n l).cN=1+cj l:=Ty.AN _;rw[hz]at h1;have hw:Wr (left-1)=left-1:=gO (by omega) (by omega);rw[cZ,hw]at h3 ⊢;by_cases hge:left-1<0
 .rw[if_pos hge]at h3;simp only at h3;omega
 .rw[if_neg hge]at h3 ⊢;have hn:(if k=2 then aJ ([]:List (ByteArray×Ty)) n else none)=none:=by split<;>rfl
  rw[hn]at h3 ⊢;simp only at h3 ⊢;rw[key l (fun u hu=>ih u hu) (left-1) (by omega) (by omega) h3]
inductive qF (ds:List Df) (D:List (ByteArray×Nat)):Ex->Prop
 |mk {e:Ex} (hg:e.kind=3->∃d d0,aJ D e.name=some d/\ds[d]?=some d0/\e.types.length=d0.params.length) (ha:∀x∈e.args,qF ds D x) (hb:e.kind≠6->∀b∈e.binds,qF ds D b.value) (hv:∀a∈e.alts,a.vars.length<=1048576) (hl:∀a∈e.alts,qF ds D a.body):qF ds D e
def Nd(C:Tc)(bR:List (Option iQ))(n n':ByteArray):Prop:=∃x,some x∈bR/\x.name=n'/\aJ C.D n=some x.jR
def T9(ds:List Df)(x:iQ):Prop:=(∃d0,ds[x.jR]?=some d0/\x.types.length=d0.params.length)/\∀u∈x.types,u.cN<=500
structure wN (C:Tc) (t:Tn):Prop where
 seen:∀n i,aJ t.seen n=some i->∃x,t.bR[i]?=some (some x)/\x.name=n
 bR:∀x,some x∈t.bR->x.name=(mo (C.nameOf x.jR) x.types).1/\T9 C.aj x
structure qG (C:Tc) (t t':Tn) (c:Nat):Prop where
 low:t.left-501*(c:Int)<=t'.left
 jU:t'.left<=t.left
 grow:∃l,t'.bR=t.bR++l
 inv:wN C t'
section
variable {C:Tc}
theorem qG.trans{t t1 t2:Tn}{c d:Nat}(h:qG C t t1 c)(k:qG C t1 t2 d):qG C t t2 (c+d):=by
 obtain⟨l,hl⟩:=h.grow;obtain⟨j,hj⟩:=k.grow;exact⟨by have:=h.low;have:=k.low;omega,Int.le_trans k.jU h.jU,⟨l++j,by rw[hj,hl,List.append_assoc]⟩,k.inv⟩
theorem wN.at{t:Tn}(h:wN C t)(n:Int):wN C (t.at n):=⟨h.seen,h.bR⟩
theorem qG.none{t t':Tn}{c:Nat}(h:qG C t t' c)(hn:none∉t'.bR):none∉t.bR:=fun hm=>by
 obtain⟨l,hl⟩:=h.grow;exact hn (by rw[hl];exact List.mem_append_left _ hm)
theorem qG.nd{t t':Tn}{c:Nat}(h:qG C t t' c){n n':ByteArray}(k:Nd C t.bR n n'):Nd C t'.bR n n':=by
 obtain⟨l,hl⟩:=h.grow;obtain⟨x,h1,h2⟩:=k;exact⟨x,by rw[hl];exact List.mem_append_left _ h1,h2⟩
theorem NN(hb:sC C.a8)(l:List Ty){t:Tn}(h1 : -1152921504606846976+501*(cj l:Int)<=t.left)(h2:t.left<=1152921504606846976)(hi:wN C t):qG C t (dj C l t).2 (cj l):=by
 obtain⟨a,b,_⟩:=NL hb l t.left h1 h2;exact⟨a,b,⟨[],by simp[dj,Tn.at]⟩,hi.at _⟩
theorem Ua(hb:sC C.a8)(l:List Ty){t:Tn}(h1 : -1152921504606846976+501*(cj l:Int)<=t.left)(h2:t.left<=1152921504606846976)(h:0<=(dj C l t).2.left):(cj (dj C l t).1:Int)=t.left-(dj C l t).2.left:=
 (NL hb l t.left h1 h2).2.2 h
theorem abY(hb:sC C.a8):∀(l ts:List Ty),cj l<=1000000000->wJ C.a8 l=some ts->ts.length=l.length/\∀u∈ts,u.cN<=500
 |[],ts,_,h=>by cases h;exact⟨rfl,fun u hu=>by cases hu⟩
 |t::l,ts,hz,h=>by
  rw[cj]at hz;rw[wJ]at h
  split at h
  .cases h
  .rename_i hge;obtain⟨ts',h1,rfl⟩:=Δ.1 h;obtain⟨a,b⟩:=abY hb l ts' (by omega) h1;refine⟨by simp[a],fun u hu=>?_⟩;rcases List.mem_cons.1 hu with rfl |hu
   .have:=(T8 hb t 500 (by omega) (by omega)).2.2 (by omega);omega
   .exact b u hu
theorem al5(hb:sC C.a8){name:ByteArray}{types:List Ty}{t:Tn}{d:Nat}{d0:Df}(hd:aJ C.D name=some d)(iX:C.aj[d]? = some d0)(hlen:types.length=d0.params.length)(hz:cj types≤1000000000)(hi:wN C t) :
   qG C t (mq C name types t).2 0/\(mq C name types t).1.kind=3/\(none∉(mq C name types t).2.bR->Nd C (mq C name types t).2.bR name (mq C name types t).1.name):=by
 unfold mq;rw[hd];simp only
 split
 .refine⟨⟨by simp,by simp,⟨_,rfl⟩,⟨fun n i h=>?_,fun x hx=>?_⟩⟩,rfl,fun hn=>absurd (List.mem_append_right _ (List.mem_singleton.2 rfl)) hn⟩
  .obtain⟨x,h1,h2⟩:=hi.seen n i h;exact⟨x,by rw[List.getElem?_append_left (List.getElem?_eq_some_iff.1 h1).1];exact h1,h2⟩
  .rcases List.mem_append.1 hx with hx |hx
   .exact hi.bR x hx
   .cases List.mem_singleton.1 hx
 .rename_i l hl;obtain⟨g1,g2⟩:=abY hb types l hz hl
  split
  .rename_i hs;obtain⟨i,h1,x,h2,rfl,rfl⟩:=hs;refine⟨⟨by simp,by simp,⟨[],by simp⟩,hi⟩,rfl,fun _=>⟨x,List.mem_of_getElem? h2,?_,hd⟩⟩;obtain⟨y,k1,k2⟩:=hi.seen _ _ h1;rw[h2]at k1;cases k1;exact k2
  .refine⟨⟨by simp,by simp,⟨_,rfl⟩,⟨fun n i h=>?_,fun x hx=>?_⟩⟩,rfl,fun _=>⟨_,List.mem_append_right _ (List.mem_singleton.2 rfl),rfl,hd⟩⟩
   .simp only at h;rw[jg]at h
    split at h
    .rename_i e;cases h;exact⟨_,by simp;rfl,e⟩
    .obtain⟨x,h1,h2⟩:=hi.seen n i h;exact⟨x,by simp only;rw[List.getElem?_append_left (List.getElem?_eq_some_iff.1 h1).1];exact h1,h2⟩
   .rcases List.mem_append.1 hx with hx |hx
    .exact hi.bR x hx
    .have:=List.mem_singleton.1 hx;cases this;exact⟨rfl,⟨d0,iX,g1.trans hlen⟩,g2⟩
def EG(C:Tc)(e:Ex):Prop:=∀t,-1152921504606846976+501*(e.de:Int)<=t.left->t.left<=1152921504606846976->wN C t ->
 qG C t (dp C e t).2 e.de/\(0<=(dp C e t).2.left->none∉(dp C e t).2.bR->TE (Nd C (dp C e t).2.bR) e (dp C e t).1) /\
 (t.left<=100000->0<=(dp C e t).2.left->1<=(dp C e t).1.size/\(dp C e t).1.size<=2097152*(e.de:Int)+(t.left-(dp C e t).2.left))
def gP:List Ex->Int
 |[]=>0
 |x::l=>x.size+gP l
theorem abZ:∀(l:List Ex) (n:Int),(∀x∈l,1<=x.size)->0<=n->n+gP l<=1152921504606846976->rT l n=n+gP l/\0<=gP l
 |[],n,_,_,_=>by rw[rT,gP];exact⟨by omega,Int.le_refl _⟩
 |x::l,n,h,h1,h2=>by
  rw[gP]at h2 ⊢;have hx:=h x (by simp);have h0:∀(l:List Ex),(∀x∈l,1<=x.size)->0<=gP l:=by
   intro l
   induction l with
   |nil=>intro _;exact Int.le_refl _
   |cons y l ih=>intro h;rw[gP];have:=h y (by simp);have:=ih (fun z hz=>h z (by simp[hz]));omega
  have:=h0 l (fun y hy=>h y (by simp[hy]));rw[rT,gO (by omega) (by omega)];obtain⟨a,b⟩:=abZ l (n+x.size) (fun y hy=>h y (by simp[hy])) (by omega) (by omega);rw[a];exact⟨by omega,by omega⟩
theorem ab0:∀ (l:List Ex),(∀ x∈l,EG C x)→∀ t,-1152921504606846976+501*(iB l:Int)≤t.left→t.left≤1152921504606846976→wN C t →
   qG C t (fT C l t).2 (iB l)/\(fT C l t).1.length=l.length/\(0<=(fT C l t).2.left->none∉(fT C l t).2.bR->∀(i:Nat) (x x':Ex),l[i]?=some x->(fT C l t).1[i]?=some x'->TE (Nd C (fT C l t).2.bR) x x') /\
    (t.left<=100000->0<=(fT C l t).2.left->(∀x∈(fT C l t).1,1<=x.size)/\0<=gP (fT C l t).1/\gP (fT C l t).1<=2097152*(iB l:Int)+(t.left-(fT C l t).2.left))
 |[],_,t,h1,h2,hi=>by rw[fT];simp only[iB];exact⟨⟨by omega,by omega,⟨[],by simp⟩,hi⟩,by first |rfl |trivial,fun _ _ i x x' h=>by simp at h,fun _ _=>⟨fun x hx=>by simp at hx,by rw[gP];omega,by rw[gP];omega⟩⟩
 |x::l,hx,t,h1,h2,hi=>by
  rw[iB]at h1 ⊢;obtain⟨a1,a2,a3⟩:=hx x (by simp) t (by omega) h2 hi;have al:=a1.low;have ah:=a1.jU;obtain⟨b1,b2,b3,b5⟩:=ab0 l (fun y hy=>hx y (by simp[hy])) (dp C x t).2 (by omega) (by omega) a1.inv;have bh:=b1.jU;rw[fT];simp only at *;refine⟨a1.trans b1,by simp[b2],fun h3 h4 i y y' hy ko=>?_,fun h3 h4=>?_⟩
  rotate_left
  .obtain⟨c1,c2⟩:=a3 h3 (by omega);obtain⟨c3,c4,c5⟩:=b5 (by omega) h4;refine⟨fun y hy=>?_,by rw[gP];omega,by rw[gP];omega⟩;rcases List.mem_cons.1 hy with rfl |hy
   .exact c1
   .exact c3 y hy
  match i,hy,ko with
  |0,hy,ko=>cases hy;cases ko;exact(a2 (by omega) (b1.none h4)).mono (fun _ _ h=>b1.nd h)
  |i+1,hy,ko=>exact b3 h3 h4 i y y' hy ko
theorem ab1:∀ (l:List Bd),(∀ b∈l,EG C b.value)→∀ t,-1152921504606846976+501*(gn l:Int)≤t.left→t.left≤1152921504606846976→wN C t →
   qG C t (gm C l t).2 (gn l)/\(gm C l t).1.length=l.length/\(0<=(gm C l t).2.left->none∉(gm C l t).2.bR->∀(i:Nat) (b:Bd) (x':Ex),l[i]?=some b->(gm C l t).1[i]?=some x'->TE (Nd C (gm C l t).2.bR) b.value x') /\
    (t.left<=100000->0<=(gm C l t).2.left->(∀x∈(gm C l t).1,1<=x.size)/\0<=gP (gm C l t).1/\gP (gm C l t).1<=2097152*(gn l:Int)+(t.left-(gm C l t).2.left))
 |[],_,t,h1,h2,hi=>by rw[gm];simp only[gn];exact⟨⟨by omega,by omega,⟨[],by simp⟩,hi⟩,by first |rfl |trivial,fun _ _ i x x' h=>by simp at h,fun _ _=>⟨fun x hx=>by simp at hx,by rw[gP];omega,by rw[gP];omega⟩⟩
 |.mk n ty x::l,hx,t,h1,h2,hi=>by
  rw[gn]at h1 ⊢;obtain⟨a1,a2,a3⟩:=hx (.mk n ty x) (by simp) t (by simp only[Bd.value];omega) h2 hi;simp only[Bd.value]at a1 a2 a3;have al:=a1.low;have ah:=a1.jU;obtain⟨b1,b2,b3,b5⟩:=ab1 l (fun y hy=>hx y (by simp[hy])) (dp C x t).2 (by omega) (by omega) a1.inv;have bh:=b1.jU;rw[gm];simp only at *;refine⟨a1.trans b1,by simp[b2],fun h3 h4 i y y' hy ko=>?_,fun h3 h4=>?_⟩
  rotate_left
  .obtain⟨c1,c2⟩:=a3 h3 (by omega);obtain⟨c3,c4,c5⟩:=b5 (by omega) h4;refine⟨fun y hy=>?_,by rw[gP];omega,by rw[gP];omega⟩;rcases List.mem_cons.1 hy with rfl |hy
   .exact c1
   .exact c3 y hy
  match i,hy,ko with
  |0,hy,ko=>cases hy;cases ko;exact(a2 (by omega) (b1.none h4)).mono (fun _ _ h=>b1.nd h)
  |i+1,hy,ko=>exact b3 h3 h4 i y y' hy ko
theorem ab2:∀ (l:List Al),(∀ a∈l,a.vars.length≤1048576)→iC l≤1000000000→(∀ a∈l,EG C a.body)→∀ t,-1152921504606846976+501*(iC l:Int)≤t.left→t.left≤1152921504606846976→wN C t →
   qG C t (gL C l t).2 (iC l)/\(gL C l t).1.length=l.length/\(∀(i:Nat) (a a':Al),l[i]?=some a->(gL C l t).1[i]?=some a'->a'.kind=a.kind/\a'.bE=a.bE/\a'.num=a.num/\a'.vars=a.vars) /\
    (0<=(gL C l t).2.left->none∉(gL C l t).2.bR->∀(i:Nat) (a a':Al),l[i]?=some a->(gL C l t).1[i]?=some a'->TE (Nd C (gL C l t).2.bR) a.body a'.body) /\
    (t.left<=100000->0<=(gL C l t).2.left->∀n:Int,0<=n->n+2097152*(iC l:Int)+(t.left-(gL C l t).2.left)<=576460752303423488->n<=oW (gL C l t).1 n/\oW (gL C l t).1 n<=n+2097152*(iC l:Int)+(t.left-(gL C l t).2.left))
 |[],_,_,_,t,h1,h2,hi=>by rw[gL];simp only[iC];exact⟨⟨by omega,by omega,⟨[],by simp⟩,hi⟩,by first |rfl |trivial,fun i x x' h=>by simp at h,fun _ _ i x x' h=>by simp at h,fun _ _ n _ _=>by rw[oW];omega⟩
 |.mk k c m vs x::l,jk,T0,hx,t,h1,h2,hi=>by
  rw[iC]at h1 T0 ⊢;obtain⟨a1,a2,a3⟩:=hx (.mk k c m vs x) (by simp) t (by simp only[Al.body];omega) h2 hi;simp only[Al.body]at a1 a2 a3;have al:=a1.low;have ah:=a1.jU;obtain⟨b1,b2,b4,b3,b5⟩:=ab2 l (fun a ha=>jk a (by simp[ha])) (by omega) (fun y hy=>hx y (by simp[hy])) (dp C x t).2 (by omega) (by omega) a1.inv;have bh:=b1.jU;rw[gL];simp only at *;refine⟨⟨by have:=(a1.trans b1).low;omega,(a1.trans b1).jU,(a1.trans b1).grow,b1.inv⟩,by simp[b2],fun i y y' hy ko=>?_,fun h3 h4 i y y' hy ko=>?_,fun h3 h4 n xj pq=>?_⟩
  rotate_left 2
  .obtain⟨c1,c2⟩:=a3 h3 (by omega);have hv:vs.length<=1048576:=jk (.mk k c m vs x) (by simp);rw[oW,gO (n:=1+_) (by omega) (by omega),gO (n:=1+_+_) (by omega) (by omega),gO (by omega) (by omega)];obtain⟨c3,c4⟩:=b5 (by omega) h4 (n+(1+vs.length+(dp C x t).1.size)) (by omega) (by omega);exact⟨by omega,by omega⟩
  .match i,hy,ko with
   |0,hy,ko=>cases hy;cases ko;exact⟨rfl,rfl,rfl,rfl⟩
   |i+1,hy,ko=>exact b4 i y y' hy ko
  .match i,hy,ko with
   |0,hy,ko=>cases hy;cases ko;exact(a2 (by omega) (b1.none h4)).mono (fun _ _ h=>b1.nd h)
   |i+1,hy,ko=>exact b3 h3 h4 i y y' hy ko
theorem ab3:∀(bs:List Bd) (ts:List Ty) (es:List Ex),ts.length=bs.length->es.length=bs.length->(fy bs ts es).map Bd.name=bs.map Bd.name/\∀(i:Nat) (b':Bd),(fy bs ts es)[i]?=some b'->es[i]?=some b'.value
 |[],[],[],_,_=>⟨rfl,fun i b' h=>by simp[fy]at h⟩
 |b::bs,t::ts,e::es,h1,h2=>by
  obtain⟨a,c⟩:=ab3 bs ts es (by simpa using h1) (by simpa using h2);refine⟨by rw[fy,List.map_cons,List.map_cons,a];rfl,fun i b' h=>?_⟩;rw[fy]at h
  match i,h with
  |0,h=>cases h;rfl
  |i+1,h=>exact c i b' h
theorem ab4:∀(l:List Bd),(fx l).length=l.length
 |[]=>rfl
 |b::l=>by rw[fx];simp[ab4 l]
theorem ab5:∀ (bs:List Bd) (ts:List Ty) (es:List Ex) (n:Int),ts.length=bs.length→es.length=bs.length→(∀ x∈es,1≤x.size)→cj ts≤1000000→0≤n→n+(bs.length+cj ts+gP es)≤1152921504606846976 →
   qS (fy bs ts es) n=n+(bs.length+cj ts+gP es)/\0<=gP es
 |[],[],[],n,_,_,_,_,h1,h2=>by simp[fy,qS,gP,cj]
 |b::bs,t::ts,e::es,n,l1,l2,h,hz,h1,h2=>by
  rw[cj]at hz h2 ⊢;rw[gP]at h2 ⊢;have he:=h e (by simp);have ht:=zj t (by omega);have h0:∀(l:List Ex),(∀x∈l,1<=x.size)->0<=gP l:=by
   intro l
   induction l with
   |nil=>intro _;exact Int.le_refl _
   |cons y l ih=>intro h;rw[gP];have:=h y (by simp);have:=ih (fun z hz=>h z (by simp[hz]));omega
  have:=h0 es (fun y hy=>h y (by simp[hy]));simp only[List.length_cons]at h2 ⊢;rw[fy,qS,ht,gO (n:=1+_) (by omega) (by omega),gO (n:=1+_+_) (by omega) (by omega),gO (by omega) (by omega)];obtain⟨a,b⟩:=ab5 bs ts es (n+(1+t.cN+e.size)) (by simpa using l1) (by simpa using l2) (fun y hy=>h y (by simp[hy])) (by omega) (by omega) (by omega);rw[a];exact⟨by omega,by omega⟩
theorem Ub:∀(l:List Bd),l.length<=cj (fx l)
 |[]=>by simp
 |b::l=>by rw[fx,cj];have:=Ub l;have:=QD b.type;simp only[List.length_cons];omega
theorem ab6:fS.size=1:=by decide +kernel
theorem Uc:∀(bs:List Bd),gP (bs.map (fun _=>fS))=bs.length
 |[]=>rfl
 |b::bs=>by rw[List.map_cons,gP,Uc bs,ab6];simp only[List.length_cons];omega
theorem ab7(hb:sC C.a8)(e:Ex):qF C.aj C.D e->e.de<=1000000000->EG C e:=by
 induction e using Ex.ind with
 |h e dK hM gT=>
 intro hd HW t h1 h2 hi;cases hd with
 |mk hg ha eV xL hl=>
 obtain⟨k,n,m,ts,xs,bs,al⟩:=e;simp only[Ex.kind,Ex.name,Ex.types,Ex.args,Ex.binds,Ex.alts]at *;rw[Ex.de]at h1 HW ⊢;have hw:Wr (t.left-1)=t.left-1:=gO (by omega) (by omega);rw[dp,hw];by_cases pb:t.left-1<0
 .rw[if_pos pb];exact⟨⟨by simp[Tn.at];omega,by simp[Tn.at];omega,⟨[],by simp[Tn.at]⟩,hi.at _⟩,fun h=>by simp only[Tn.at]at h;omega,fun _ h=>by simp only[Tn.at]at h;omega⟩
 rw[if_neg pb];have e0:qG C t (t.at (t.left-1)) 1:=⟨by simp only[Tn.at];omega,by simp only[Tn.at];omega,⟨[],by simp[Tn.at]⟩,hi.at _⟩;by_cases k3:k=3
 .rw [if_pos k3];obtain ⟨d,d0,g1,g2,g3⟩:=hg k3;obtain ⟨q1,q2,q3⟩:=al5 hb g1 g2 g3 (by omega) e0.inv;have q:=e0.trans q1;refine ⟨⟨by have:=q.low;omega,q.jU,q.grow,q.inv⟩,fun _ hn=>.BD k3 q2 (q3 hn),fun _ _=>?_⟩;have hz:(mq C n ts (t.at (t.left - 1))).1.size=1:=by
   unfold mq;rw[g1];simp only
   split<;>(rw[Ex.size_eq];rfl)
  have:=q.jU;omega
 rw[if_neg k3];simp only;have a1:=NN hb ts (t:=t.at (t.left-1)) (by simp only[Tn.at];omega) (by simp only[Tn.at];omega) e0.inv;have sa:=Ua hb ts (t:=t.at (t.left-1)) (by simp only[Tn.at];omega) (by simp only[Tn.at];omega);have h00:(t.at (t.left-1)).left=t.left-1:=rfl;generalize hA:dj C ts (t.at (t.left-1))=A at *;have ea:=e0.trans a1;have eal:=ea.low;have eah:=ea.jU;have b1:=NN hb (fx bs) (t:=A.2) (by omega) (by omega) a1.inv;have lb:(dj C (fx bs) A.2).1.length=bs.length:=by unfold dj;rw[Tw,ab4]
 have sb:=Ua hb (fx bs) (t:=A.2) (by omega) (by omega);generalize hB:dj C (fx bs) A.2=B at *;have eb:=ea.trans b1;have ebl:=eb.low;have ebh:=eb.jU;obtain ⟨V,hV,c1,lc,c3,c4⟩:∃ V:List Ex×Tn,(if k=6 then (bs.map (fun _=>fS),B.2) else gm C bs B.2)=V∧qG C B.2 V.2 (gn bs)∧V.1.length=bs.length ∧
     (0<=V.2.left->none∉V.2.bR->k≠6->∀(i:Nat) (b:Bd) (x':Ex),bs[i]?=some b->V.1[i]?=some x'->TE (Nd C V.2.bR) b.value x') /\
     (B.2.left<=100000->0<=V.2.left->(∀x∈V.1,1<=x.size)/\0<=gP V.1/\gP V.1<=2097152*(gn bs:Int)+bs.length+(B.2.left-V.2.left)):=by
  by_cases k6:k=6
  .rw[if_pos k6];refine⟨_,rfl,⟨by simp only;omega,by simp,⟨[],by simp⟩,b1.inv⟩,by simp,fun _ _ h=>absurd k6 h,fun _ _=>⟨fun x hx=>?_,?_,?_⟩⟩
   .obtain⟨_,_,rfl⟩:=List.mem_map.1 hx;rw[ab6];omega
   .rw[Uc];omega
   .rw[Uc];simp only;omega
  .rw[if_neg k6]
   have hv:∀b∈bs,EG C b.value:=fun b rz=>hM b rz (eV k6 b rz) (by
    have:∀(l:List Bd),b∈l->b.value.de<=gn l:=by
     intro l
     induction l with
     |nil=>intro h;cases h
     |cons c l jZ=>
      intro h;obtain⟨cn,ct,cv⟩:=c;rw[gn];rcases List.mem_cons.1 h with rfl |h
      ·simp only[Bd.value];omega
      ·have:=jZ h;omega
    have:=this bs rz
    omega)
   obtain⟨c1,c2,c3,c4⟩:=ab1 bs hv B.2 (by omega) (by omega) b1.inv;exact⟨_,rfl,c1,c2,fun h3 h4 _=>c3 h3 h4,fun h3 h4=>by obtain⟨p1,p2,p3⟩:=c4 h3 h4;exact⟨p1,p2,by omega⟩⟩
 rw[hV];have ec:=eb.trans c1;have ecl:=ec.low;have ech:=ec.jU
 have hx:∀x∈xs,EG C x:=fun x Ud=>dK x Ud (ha x Ud) (by
  have:∀(l:List Ex),x∈l->x.de<=iB l:=by
   intro l
   induction l with
   |nil=>intro h;cases h
   |cons c l jZ=>
    intro h;rw[iB];rcases List.mem_cons.1 h with rfl |h
    ·omega
    ·have:=jZ h;omega
  have:=this xs Ud
  omega)
 obtain⟨d1,d2,d3,d4⟩:=ab0 xs hx V.2 (by omega) (by omega) c1.inv;generalize hD:fT C xs V.2=D at *;have ed:=ec.trans d1;have edl:=ed.low;have edh:=ed.jU
 have EO:∀a∈al,EG C a.body:=fun a wO=>gT a wO (hl a wO) (by
  have:∀(l:List Al),a∈l->a.body.de<=iC l:=by
   intro l
   induction l with
   |nil=>intro h;cases h
   |cons c l jZ=>
    intro h;obtain⟨ck,cc,cm,cv,cb⟩:=c;rw[iC];rcases List.mem_cons.1 h with rfl |h
    ·simp only[Al.body];omega
    ·have:=jZ h;omega
  have:=this al wO
  omega)
 obtain⟨f1,f2,f4,f3,f5⟩:=ab2 al xL (by omega) EO D.2 (by omega) (by omega) d1.inv;generalize hF:gL C al D.2=F at *;have ef:=ed.trans f1;refine⟨⟨by have:=ef.low;omega,ef.jU,ef.grow,ef.inv⟩,fun h3 h4=>?_,fun h3 h4=>?_⟩
 rotate_left
 .have g1:=f1.jU;have g2:=d1.jU;have g3:=c1.jU;have g4:=b1.jU;have g5:=a1.jU;obtain⟨p1,p2,p3⟩:=c4 (by omega) (by omega);obtain⟨p4,p5,p6⟩:=d4 (by omega) (by omega);have p7:=sa (by omega);have p8:=sb (by omega);have p9:=Ub bs;rw[Ex.size_eq];simp only[Ex.types,Ex.args,Ex.binds,Ex.alts];rw[NM A.1 0 (by omega) (by omega) (by omega),gO (by omega) (by omega)];rw[(abZ D.1 (1+(0+(cj A.1:Int))) p4 (by omega) (by omega)).1];rw[(ab5 bs B.1 V.1 (1+(0+(cj A.1:Int))+gP D.1) lb lc p1 (by omega) (by omega) (by omega)).1];obtain⟨p10,p11⟩:=f5 (by omega) h4 (1+(0+(cj A.1:Int))+gP D.1+(bs.length+cj B.1+gP V.1)) (by omega) (by omega);exact⟨by omega,by omega⟩
 have iX:0<=D.2.left:=by have:=f1.jU;omega
 have NO:0<=V.2.left:=by have:=d1.jU;omega
 obtain⟨m1,m2⟩:=ab3 bs B.1 V.1 lb lc;have hnD:=f1.none h4;have hnC:=d1.none hnD;refine .mk (e:=.mk k n m ts xs bs al) rfl k3 rfl rfl d2 (fun i x x' p q=>(d3 iX hnD i x x' p q).mono (fun _ _ h=>f1.nd h)) m1 (fun k6 i b b' p q=>?_) f2 f4 (f3 h3 h4);exact(c3 NO hnC k6 i b b'.value p (m2 i b' q)).mono (fun _ _ h=>f1.nd (d1.nd h))
end
end
section
open Go Go.W
structure nU (w0 w:World) (S0 S:Nat->Prop) (A:TA) (C:Tc) (t:Tn) (jV fp:Option Nat) (O:Nat->Prop):Prop where
 tr:iA w S A C t fp
 go:fU A jV fp S0 S w0 w
 own:∀b,O b->w0.heap.size<=b/\b<w.heap.size/\¬TS A fp b/\S b
 pm:A.pm<w0.heap.size
section
variable {w0 w w':World} {S0 S S' R N O:Nat->Prop} {A:TA} {C:Tc} {t t':Tn} {jV fp dB:Option Nat}
theorem nU.call(h:nU w0 w S0 S A C t jV fp O)(h1:iA w' S' A C t' dB)(h2:fU A fp dB S S' w w'):nU w0 w' S0 S' A C t' jV dB O:=
 ⟨h1,h.go.trans h2,fun b hb=>by
  obtain⟨a1,a2,a3,a4⟩:=h.own b hb;refine⟨a1,Nat.lt_of_lt_of_le a2 h2.mod.size,fun hh=>?_,h2.up b a4⟩;rcases hh with hh |hh |hh
  ·exact a3 (.inl hh)
  ·exact a3 (.inr (.inl hh))
  ·rcases h2.fp b hh with hh |hh
   ·exact a3 (.inr (.inr hh))
   ·omega,h.pm⟩
theorem nU.step(h:nU w0 w S0 S A C t jV fp O)(hm:Mod R w w')(hR:∀b,R b->O b)(hN:∀b,N b->w.heap.size<=b/\b<w'.heap.size):nU w0 w' S0 (fun b=>S b\/N b) A C t jV fp (fun b=>O b\/N b):=by
 have hs:∀b,b<w.heap.size->(S b\/N b)->S b:=fun b hb hh=>by
  rcases hh with hh |hh
  .exact hh
  .have:=(hN b hh).1;omega
 refine⟨h.tr.ext hm (fun b hb=>⟨(h.own b (hR b hb)).2.2.2,(h.own b (hR b hb)).2.2.1,fun e=>by have:=(h.own b (hR b hb)).1;have:=h.pm;omega⟩) hs (fun b hb=>.inl hb) (fun b hb=>?_),h.go.new hm (fun b hb=>(h.own b (hR b hb)).1) hs (fun b hb=>.inl hb),fun b hb=>?_,h.pm⟩
 .rcases hb with hb |hb
  .exact Nat.lt_of_lt_of_le (h.tr.lt b hb) hm.size
  .exact(hN b hb).2
 .rcases hb with hb |hb
  .obtain⟨a1,a2,a3,a4⟩:=h.own b hb;exact⟨a1,Nat.lt_of_lt_of_le a2 hm.size,a3,.inl a4⟩
  .have:=hN b hb;have hz:=h.go.mod.size;exact⟨by omega,this.2,fun hh=>by have:=h.tr.lt b (h.tr.aT b hh);omega,.inr hb⟩
theorem nU.wr(h:nU w0 w S0 S A C t jV fp O)(hm:Mod R w w')(hR:∀b,R b->O b):nU w0 w' S0 S A C t jV fp O:=
 ⟨h.tr.ext hm (fun b hb=>⟨(h.own b (hR b hb)).2.2.2,(h.own b (hR b hb)).2.2.1,fun e=>by have:=(h.own b (hR b hb)).1;have:=h.pm;omega⟩) (fun _ _ h=>h) (fun _ h=>h) (fun b hb=>Nat.lt_of_lt_of_le (h.tr.lt b hb) hm.size),h.go.new hm (fun b hb=>(h.own b (hR b hb)).1) (fun _ _ h=>h) (fun _ h=>h),fun b hb=>by
  obtain⟨a1,a2,a3,a4⟩:=h.own b hb
  exact⟨a1,Nat.lt_of_lt_of_le a2 hm.size,a3,a4⟩,h.pm⟩
section
variable {α:Type} {T sz:Nat} {v:Value} {Pr:Rp α} {l:List α} {fl:Option Nat}
theorem nU.gr(h:nU w0 w S0 S A C t jV fp O)(hE:iN sz Pr)(hg:Gr S 0 w T sz v Pr l fl)(hf:∀b,fl=some b->O b)(h2:fU A fp dB S S' w w'):Gr S' 0 w' T sz v Pr l fl:=
 hg.ext hE h2.mod h.tr.aT (fun b hb hh=>(h.own b (hf b hb)).2.2.1 hh) (fun b hb hh=>.inl (h2.hs b hb hh))
theorem nU.gro(h:nU w0 w S0 S A C t jV fp O)(hE:iN sz Pr)(hg:Gr S 0 w T sz v Pr l fl)(hm:Mod R w w')(hR:∀b,R b->O b)(hf:∀b,fl=some b->¬R b)(hN:∀b,N b->w.heap.size<=b):Gr (fun b=>S b\/N b) 0 w' T sz v Pr l fl:=
 hg.ext hE hm (fun b hb=>(h.own b (hR b hb)).2.2.2) hf (fun b hb hh=>by
  rcases hh with hh |hh
  ·exact .inl hh
  ·have:=hN b hh;omega)
end
theorem fU.tb(hm:Mod (· = A.tb) w w'):fU A fp fp S S w w':=⟨hm.aU (fun b hb=>.inl hb),fun _ _ h=>h,fun _ h=>h,fun _ h=>.inl h⟩
end
theorem al6(C:Tc)(e:Ex)(t:Tn):dp C e t=if Wr (t.left - 1) < 0 then (fS,t.at (Wr (t.left - 1))) else if e.kind=3 then mq C e.name e.types (t.at (Wr (t.left - 1))) else
   (.mk e.kind e.name e.num (dj C e.types (t.at (Wr (t.left-1)))).1 (fT C e.args (if e.kind=6 then(e.binds.map (fun _=>fS),(dj C (fx e.binds) (dj C e.types (t.at (Wr (t.left-1)))).2).2)else gm C e.binds (dj C (fx e.binds) (dj C e.types (t.at (Wr (t.left-1)))).2).2).2).1
    (fy e.binds (dj C (fx e.binds) (dj C e.types (t.at (Wr (t.left-1)))).2).1 (if e.kind=6 then(e.binds.map (fun _=>fS),(dj C (fx e.binds) (dj C e.types (t.at (Wr (t.left-1)))).2).2)else gm C e.binds (dj C (fx e.binds) (dj C e.types (t.at (Wr (t.left-1)))).2).2).1)
    (gL C e.alts (fT C e.args (if e.kind=6 then(e.binds.map (fun _=>fS),(dj C (fx e.binds) (dj C e.types (t.at (Wr (t.left-1)))).2).2)else gm C e.binds (dj C (fx e.binds) (dj C e.types (t.at (Wr (t.left-1)))).2).2).2).2).1,
    (gL C e.alts (fT C e.args (if e.kind=6 then(e.binds.map (fun _=>fS),(dj C (fx e.binds) (dj C e.types (t.at (Wr (t.left-1)))).2).2)else gm C e.binds (dj C (fx e.binds) (dj C e.types (t.at (Wr (t.left-1)))).2).2).2).2).2):=by
 cases e;rw[dp];rfl
theorem al7(C:Tc){l:List Ex}{k:Nat}(hk:k<l.length)(t:Tn):fT C (l.drop k) t=((dp C l[k] t).1::(fT C (l.drop (k+1)) (dp C l[k] t).2).1,(fT C (l.drop (k+1)) (dp C l[k] t).2).2):=by
 rw[Ω hk,fT]
theorem al8(C:Tc){l:List Bd}{k:Nat}(hk:k<l.length)(t:Tn):gm C (l.drop k) t=((dp C l[k].value t).1::(gm C (l.drop (k+1)) (dp C l[k].value t).2).1,(gm C (l.drop (k+1)) (dp C l[k].value t).2).2):=by
 rw[Ω hk];cases l[k];rw[gm];rfl
theorem al9(C:Tc){l:List Al}{k:Nat}(hk:k<l.length)(t:Tn):gL C (l.drop k) t=(.mk l[k].kind l[k].bE l[k].num l[k].vars (dp C l[k].body t).1::(gL C (l.drop (k+1)) (dp C l[k].body t).2).1,(gL C (l.drop (k+1)) (dp C l[k].body t).2).2):=by
 rw[Ω hk];cases l[k];rw[gL];rfl
theorem al'(a8:List (ByteArray×Ty)){l:List Bd}{k:Nat}(hk:k<l.length)(L:Int):dz a8 (fx (l.drop k)) L=((cZ a8 l[k].type L).1::(dz a8 (fx (l.drop (k+1))) (cZ a8 l[k].type L).2).1,(dz a8 (fx (l.drop (k+1))) (cZ a8 l[k].type L).2).2):=by
 rw[Ω hk,fx,dz]
theorem ab8:∀(l:List Bd) (ts:List Ty) (es:List Ex) (b:Bd) (t:Ty) (e:Ex),ts.length=l.length->es.length=l.length->fy (l++[b]) (ts++[t]) (es++[e])=fy l ts es++[.mk b.name t e]
 |[],[],[],b,t,e,_,_=>rfl
 |c::l,u::ts,x::es,b,t,e,h1,h2=>by
  simp only[List.cons_append,fy];rw[ab8 l ts es b t e (by simpa using h1) (by simpa using h2)]
theorem Jf:∀(l:List Bd) (ts:List Ty) (es:List Ex),ts.length=l.length->es.length=l.length->(fy l ts es).length=l.length
 |[],[],[],_,_=>rfl
 |c::l,u::ts,x::es,h1,h2=>by
  simp only[fy,List.length_cons];rw[Jf l ts es (by simpa using h1) (by simpa using h2)]
theorem ab9:∀(l:List Bd) (ts:List Ty) (es:List Ex) (k:Nat) (h1:ts.length=l.length) (h2:es.length=l.length) (hk:k<l.length),(fy l ts es)[k]?=some (.mk l[k].name (ts[k]'(by omega)) (es[k]'(by omega)))
 |c::l,u::ts,x::es,0,h1,h2,hk=>rfl
 |c::l,u::ts,x::es,k+1,h1,h2,hk=>by
  simp only[fy,List.getElem?_cons_succ,List.getElem_cons_succ];exact ab9 l ts es k (by simpa using h1) (by simpa using h2) (by simpa using hk)
theorem ab':∀(l:List Bd) (ts:List Ty) (es:List Ex) (k:Nat) (x:Ex) (h1:ts.length=l.length) (h2:es.length=l.length) (hk:k<l.length),(fy l ts es).set k (.mk l[k].name (ts[k]'(by omega)) x)=fy l ts (es.set k x)
 |c::l,u::ts,y::es,0,x,h1,h2,hk=>rfl
 |c::l,u::ts,y::es,k+1,x,h1,h2,hk=>by
  simp only[fy,List.set_cons_succ,List.getElem_cons_succ];rw[ab' l ts es k x (by simpa using h1) (by simpa using h2) (by simpa using hk)]
theorem ama(C:Tc)(n:ByteArray)(l:List Ty)(t:Tn):(mq C n l t).2.bR.length<=t.bR.length+1:=by
 unfold mq
 split
 .simp
 .split
  .simp
  .simp only
   split<;>simp
theorem NP(C:Tc)(e:Ex):∀t,(dp C e t).2.bR.length<=t.bR.length+e.de:=by
 induction e using Ex.ind with
 |h e dK hM gT=>
 intro t;have hx:∀(l:List Ex),(∀x∈l,∀t,(dp C x t).2.bR.length<=t.bR.length+x.de)->∀t,(fT C l t).2.bR.length<=t.bR.length+iB l:=by
  intro l
  induction l with
  |nil=>intro _ t;rw[fT];simp
  |cons x l ih=>
   intro h t;have h1:=h x (by simp) t;have h2:=ih (fun y hy=>h y (by simp[hy])) (dp C x t).2;rw[fT,iB];simp only;omega
 have hb:∀(l:List Bd),(∀b∈l,∀t,(dp C b.value t).2.bR.length<=t.bR.length+b.value.de)->∀t,(gm C l t).2.bR.length<=t.bR.length+gn l:=by
  intro l
  induction l with
  |nil=>intro _ t;rw[gm];simp
  |cons x l ih=>
   intro h t;obtain⟨n,u,v⟩:=x;have h1:=h _ (List.mem_cons_self ..) t;have h2:=ih (fun y hy=>h y (by simp[hy])) (dp C v t).2;simp only[Bd.value]at h1;rw[gm,gn];simp only;omega
 have hl:∀(l:List Al),(∀a∈l,∀t,(dp C a.body t).2.bR.length<=t.bR.length+a.body.de)->∀t,(gL C l t).2.bR.length<=t.bR.length+iC l:=by
  intro l
  induction l with
  |nil=>intro _ t;rw[gL];simp
  |cons x l ih=>
   intro h t;obtain⟨k,c,m,vs,b⟩:=x;have h1:=h _ (List.mem_cons_self ..) t;have h2:=ih (fun y hy=>h y (by simp[hy])) (dp C b t).2;simp only[Al.body]at h1;rw[gL,iC];simp only;omega
 obtain⟨k,n,m,ts,xs,bs,al⟩:=e;simp only[Ex.args,Ex.binds,Ex.alts]at dK hM gT;rw[dp,Ex.de]
 split
 .simp[Tn.at]
 split
 .have:=ama C n ts (t.at (Wr (t.left-1)));simp only[Tn.at]at this ⊢;omega
 simp only;refine Nat.le_trans (hl al gT _) ?_;have h1:=hx xs dK (if k=6 then(bs.map (fun _=>fS),(dj C (fx bs) (dj C ts (t.at (Wr (t.left-1)))).2).2)else gm C bs (dj C (fx bs) (dj C ts (t.at (Wr (t.left-1)))).2).2).2;have h2:(if k=6 then(bs.map (fun _=>fS),(dj C (fx bs) (dj C ts (t.at (Wr (t.left-1)))).2).2)else gm C bs (dj C (fx bs) (dj C ts (t.at (Wr (t.left-1)))).2).2).2.bR.length<=t.bR.length+gn bs:=by
  split
  .simp[dj,Tn.at]
  .refine Nat.le_trans (hb bs hM _) ?_;simp[dj,Tn.at]
 omega
end
section
open Go Go.W
def aca(tt T sz bytes:Nat)(zero:Array Value)(pos:String):IR:=.seq (.eJ false [] [0])<|.seq (.seq (.eJ false [.r (some 4) (.eq .slice false (.t 0) (.c (.slice none 0 0)))] [0,4]) <|
 .cond (.t 4) (.seq (.eJ false [.r (some 2) (.mv (.c (.slice none 0 0)))] [2])<|.ret) (.skip)) <|
 .seq (.eJ false [.e (some 5) (.raw ⟨some 5,.buildSlice tt 0 #[],tt,pos,#[],none⟩),.r (some 6) (.mv (.t 0)),.e (some 7) (.ap T sz bytes zero (.t 5) (.t 6)),.r (some 2) (.mv (.t 7))] [2])<|.ret
theorem NQ{P:Program}{f N tt T sz bytes:Nat}{H:HL}{zero:Array Value}{pos:String}(hf:Fits P f 1 H (aca tt T sz bytes zero pos) [.t 2] N){α:Type}{Pr:Rp α}(hE:iN sz Pr)(bV:0 < sz)(ht:P.underlying tt=some (.slice T))(hs:jW P T=some sz)(hz:zero.size=sz)(hb:bytes≤128){w:World}{S:Nat→Prop}{v:Value}{l:List α}(h:aX w v sz (Out S w) (Pr w (Out S w)) l) :
   bu P f [v] w fun r w'=>∃fp,Gr S 0 w' T sz r Pr l fp/\(∀b,fp=some b->w.heap.size<=b/\b<w'.heap.size)/\Mod (fun _=>False) w w':=by
 obtain⟨rows,o0,hl,he⟩:=h;have h1:∀u∈rows.flatMap id,u.oneCell'=true:=by
  intro u hu;obtain⟨r,hr,h⟩:=List.mem_flatMap.1 hu;obtain⟨i,hi,rfl⟩:=List.getElem_of_mem hr;exact hE.one (he i _ _ (Ξ hi) (Ξ (by omega))) u h
 obtain⟨a,c,rfl⟩:=WW o0.1;obtain⟨_,hr,hn⟩:=Ha o0.1 bV;have hlen:=o0.2;refine hf.calls rfl ?_;unfold aca;refine σ ?_;cases a with
 |none=>
  simp only[go_sem,simprocAttr,Option.isNone_none];have h0:=hn rfl;have h2:l=[]:=List.eq_nil_of_length_eq_zero (by omega);subst h2;exact⟨none,wv,(fun b h=>by cases h),.refl _ _⟩
 |some ad=>
  simp only[go_sem,simprocAttr,Option.isNone_some];refine WS (el:=T) (n:=sz) ht hs ?_;intro w1 au ak cw;have tR:dP w1 T sz (.slice (some ⟨w.heap.size,0,none⟩) 0 0) [] 0 (some w.heap.size):=dP.of_block (xs:=[]) au (by simp);obtain⟨_,nu,_⟩:=Ha (o0.mod ak aA).1 bV;refine σ ?_;refine sN (m:=rows.length) (news:=rows.flatMap id) rfl tR rfl (fun h=>by cases h) nu h1 hz (Nat.le_trans (Nat.mul_le_mul_left _ hb) (by omega)) (by omega) ?_;intro v2 w2 xt xh ai ni;refine σ ?_;have hf:∀b,xt=some b->w.heap.size<=b/\b<w2.heap.size:=fun b hb=>by
   rcases ni b hb with h |⟨h,h'⟩
   .cases h;have:=ai.size;omega
   .omega
  refine⟨xt,⟨⟨rows,by simpa using xh,hl,fun i r t x y=>hE.up (he i r t x y) (ak.step ai (fun x hx bg=>by cases hx;omega)) aA (fun b hb=>⟨by have:=hb.1;have:=ai.size;omega,fun hh=>by
   rcases hh with hh |hh
   ·exact hb.2 hh
   ·have:=(hf b hh).1;have:=hb.1;omega⟩)⟩,fun b _=>Nat.zero_le _⟩,hf,ak.step ai (fun x hx bg=>by cases hx;omega)⟩
theorem acb{w:World}{S:Nat→Prop}{v:Value}{l:List ByteArray}(h:aX w v 1 (Out S w) ft l) :
   bu Tryz.prog 30 [v] w fun r w'=>∃fp,Gr S 0 w' 9 1 r (fun _ _ r s=>ft r s) l fp/\(∀b,fp=some b->w.heap.size<=b/\b<w'.heap.size)/\Mod (fun _=>False) w w':=
 NQ agc Se (by decide) rfl rfl rfl (by decide) h
theorem acd:∀(l:List Ex),l.length<=iB l
 |[]=>Nat.zero_le _
 |e::l=>by
  obtain⟨k,n,m,ts,xs,bs,al⟩:=e;have:=acd l;rw[iB,Ex.de,List.length_cons];omega
theorem Ue:∀(l:List Al),l.length<=iC l
 |[]=>Nat.zero_le _
 |a::l=>by
  obtain⟨k,c,m,vs,b⟩:=a;have:=Ue l;rw[iC,List.length_cons];omega
theorem Ex.ug(e:Ex):e.de=cj e.types+cj (fx e.binds)+iB e.args+gn e.binds+iC e.alts+1:=by cases e;rw[Ex.de];rfl
theorem ace:∀{l:List Ex} {k:Nat} (hk:k<l.length),iB (l.take k)+l[k].de<=iB l
 |x::l,0,hk=>by rw[List.take_zero,iB,iB];simp only[List.getElem_cons_zero];omega
 |x::l,k+1,hk=>by
  have:=ace (l:=l) (k:=k) (by simpa using hk);rw[List.take_succ_cons,iB,iB];simp only[List.getElem_cons_succ];omega
theorem acf:∀{l:List Bd} {k:Nat} (hk:k<l.length),gn (l.take k)+l[k].value.de<=gn l
 |.mk n t v::l,0,hk=>by rw[List.take_zero,gn,gn];simp only[List.getElem_cons_zero,Bd.value];omega
 |.mk n t v::l,k+1,hk=>by
  have:=acf (l:=l) (k:=k) (by simpa using hk);rw[List.take_succ_cons,gn,gn];simp only[List.getElem_cons_succ];omega
theorem acg:∀{l:List Al} {k:Nat} (hk:k<l.length),iC (l.take k)+l[k].body.de<=iC l
 |.mk c d m vs b::l,0,hk=>by rw[List.take_zero,iC,iC];simp only[List.getElem_cons_zero,Al.body];omega
 |.mk c d m vs b::l,k+1,hk=>by
  have:=acg (l:=l) (k:=k) (by simpa using hk);rw[List.take_succ_cons,iC,iC];simp only[List.getElem_cons_succ];omega
theorem ach:∀{l:List Ex} {k:Nat} (hk:k<l.length),iB (l.take (k+1))=iB (l.take k)+l[k].de
 |x::l,0,hk=>by simp only[List.take_succ_cons,List.take_zero,iB,List.getElem_cons_zero];omega
 |x::l,k+1,hk=>by
  have:=ach (l:=l) (k:=k) (by simpa using hk);rw[List.take_succ_cons,iB,List.take_succ_cons,iB];simp only[List.getElem_cons_succ];omega
theorem aci:∀{l:List Bd} {k:Nat} (hk:k<l.length),gn (l.take (k+1))=gn (l.take k)+l[k].value.de
 |.mk n t v::l,0,hk=>by simp only[List.take_succ_cons,List.take_zero,gn,List.getElem_cons_zero,Bd.value];omega
 |.mk n t v::l,k+1,hk=>by
  have:=aci (l:=l) (k:=k) (by simpa using hk);rw[List.take_succ_cons,gn,List.take_succ_cons,gn];simp only[List.getElem_cons_succ];omega
theorem acj:∀{l:List Al} {k:Nat} (hk:k<l.length),iC (l.take (k+1))=iC (l.take k)+(l[k].body.de+1)
 |.mk c d m vs b::l,0,hk=>by simp only[List.take_succ_cons,List.take_zero,iC,List.getElem_cons_zero,Al.body];omega
 |.mk c d m vs b::l,k+1,hk=>by
  have:=acj (l:=l) (k:=k) (by simpa using hk);rw[List.take_succ_cons,iC,List.take_succ_cons,iC];simp only[List.getElem_cons_succ];omega
end
section
open Go Go.W
abbrev BE:Nat:=108
abbrev NS:Nat:=57
abbrev Uf:Nat:=103
structure XS (w0 w:World) (S0 S:Nat->Prop) (A:TA) (C:Tc) (t:Tn) (jV fp:Option Nat) (O:Nat->Prop) (e:Ex) (b3 b4 b5:Nat) (iZ:List Value) (lI:List Ty) (v5 vA vB vL:Value):Prop where
 x:nU w0 w S0 S A C t jV fp O
 o3:O b3
 o4:O b4
 o5:O b5
 lt:b3<b4/\b4<b5
 h3:w.heap[b3]?=some (.cells iZ.toArray 57 (0,0))
 h4:w.heap[b4]?=some (.cells jT.toArray 57 (0,0))
 h5:w.heap[b5]?=some (.cells [I e.kind,.string e.name,I e.num,v5,vA,vB,vL].toArray 57 (0,0))
 ty:aX w v5 3 (Out S w) (aR w (Out S w)) lI
section
variable {w0 w w':World} {S0 S S' R N O:Nat->Prop} {A:TA} {C:Tc} {t t':Tn} {jV fp dB:Option Nat} {e:Ex} {b3 b4 b5:Nat} {iZ:List Value} {lI:List Ty} {v5 vA vB vL:Value}
theorem XS.call(h:XS w0 w S0 S A C t jV fp O e b3 b4 b5 iZ lI v5 vA vB vL)(h1:iA w' S' A C t' dB)(h2:fU A fp dB S S' w w'):XS w0 w' S0 S' A C t' jV dB O e b3 b4 b5 iZ lI v5 vA vB vL:=by
 have up:∀b,Out S w b->Out S' w' b:=fun b hb=>⟨Nat.lt_of_lt_of_le hb.1 h2.mod.size,fun hh=>hb.2 (h2.hs b hb.1 hh)⟩
 have nd:∀b,Out S w b->¬TS A fp b:=fun b hb hh=>hb.2 (h.x.tr.aT b hh)
 exact⟨h.x.call h1 h2,h.o3,h.o4,h.o5,h.lt,h2.mod.at h.h3 (h.x.own _ h.o3).2.2.1,h2.mod.at h.h4 (h.x.own _ h.o4).2.2.1,h2.mod.at h.h5 (h.x.own _ h.o5).2.2.1,h.ty.up h2.mod nd up (fun _ _ x=>x.up h2.mod nd up)⟩
theorem XS.step(h:XS w0 w S0 S A C t jV fp O e b3 b4 b5 iZ lI v5 vA vB vL)(hm:Mod R w w')(hR:∀b,R b->O b/\b5<b)(hN:∀b,N b->w.heap.size<=b/\b<w'.heap.size):XS w0 w' S0 (fun b=>S b\/N b) A C t jV fp (fun b=>O b\/N b) e b3 b4 b5 iZ lI v5 vA vB vL:=by
 obtain⟨l1,l2⟩:=h.lt;have nR:∀b,b<=b5->¬R b:=fun b hb hh=>by have:=(hR b hh).2;omega
 have nd:∀b,Out S w b->¬R b:=fun b hb hh=>hb.2 (h.x.own b (hR b hh).1).2.2.2
 have up:∀b,Out S w b->Out (fun b=>S b\/N b) w' b:=fun b hb=>⟨Nat.lt_of_lt_of_le hb.1 hm.size,fun hh=>by
  rcases hh with hh |hh
  ·exact hb.2 hh
  ·have:=(hN b hh).1;have:=hb.1;omega⟩
 exact⟨h.x.step hm (fun b hb=>(hR b hb).1) hN,.inl h.o3,.inl h.o4,.inl h.o5,h.lt,hm.at h.h3 (nR _ (by omega)),hm.at h.h4 (nR _ (by omega)),hm.at h.h5 (nR _ (Nat.le_refl _)),h.ty.up hm nd up (fun _ _ x=>x.up hm nd up)⟩
theorem XS.set(h:XS w0 w S0 S A C t jV fp O e b3 b4 b5 iZ lI v5 vA vB vL){vA' Jg vL':Value}(hm:Mod (· = b5) w w')(h5:w'.heap[b5]?=some (.cells [I e.kind,.string e.name,I e.num,v5,vA',Jg,vL'].toArray 57 (0,0))):XS w0 w' S0 S A C t jV fp O e b3 b4 b5 iZ lI v5 vA' Jg vL':=by
 obtain⟨l1,l2⟩:=h.lt;have nd:∀b,Out S w b->¬b=b5:=fun b hb hh=>hb.2 (by rw[hh];exact(h.x.own _ h.o5).2.2.2)
 have up:∀b,Out S w b->Out S w' b:=fun b hb=>⟨Nat.lt_of_lt_of_le hb.1 hm.size,hb.2⟩
 exact⟨h.x.wr hm (fun b hb=>by rw[hb];exact h.o5),h.o3,h.o4,h.o5,h.lt,hm.at h.h3 (by omega),hm.at h.h4 (by omega),h5,h.ty.up hm nd up (fun _ _ x=>x.up hm nd up)⟩
theorem XS.no(h:XS w0 w S0 S A C t jV fp O e b3 b4 b5 iZ lI v5 vA vB vL)(hm:Mod (fun _=>False) w w'):XS w0 w' S0 S A C t jV fp O e b3 b4 b5 iZ lI v5 vA vB vL:=
 h.call (h.x.wr hm (fun _ h=>h.elim)).tr ((fU.refl A fp S w).new hm (fun _ h=>h.elim) (fun _ _ h=>h) (fun _ h=>h))
theorem XS.wr(h:XS w0 w S0 S A C t jV fp O e b3 b4 b5 iZ lI v5 vA vB vL)(hm:Mod R w w')(hR:∀b,R b->O b/\b5<b):XS w0 w' S0 S A C t jV fp O e b3 b4 b5 iZ lI v5 vA vB vL:=by
 have:=h.step (N:=fun _=>False) hm hR (fun _ h=>h.elim)
 simpa only[or_false]using this
theorem Gr.no{α:Type}{n0:Nat}{T sz:Nat}{v:Value}{Pr:Rp α}{l:List α}{fl:Option Nat}(hE:iN sz Pr)(h:Gr S n0 w T sz v Pr l fl)(hm:Mod (fun _=>False) w w'):Gr S n0 w' T sz v Pr l fl:=h.ext hE hm (fun _ h=>h.elim) (fun _ _ h=>h) (fun _ _ h=>.inl h)
end
theorem amb{w:World}{B:Nat→Prop}{vt va vb vl:Value}{ts:List Ty}{xs:List Ex}{bs:List Bd}{al:List Al}(ht:aX w vt 3 B (aR w B) ts)(ha:aX w va 7 B (fun r x=>ci w B r x) xs)(hb:aX w vb 11 B (fun r x=>eh w B r x) bs)(hl:aX w vl 11 B (fun r x=>jc w B r x) al)(hc:EE vl)(k m:Int)(n:ByteArray) :
   ci w B [I k,.string n,I m,vt,va,vb,vl] (.mk k n m ts xs bs al):=by
 obtain⟨rt,t1,t2,t3⟩:=ht;obtain⟨ra,a1,a2,a3⟩:=ha;obtain⟨rb,b1,b2,b3⟩:=hb;obtain⟨rl,l1,l2,l3⟩:=hl;refine .mk t1 t2 t3 a1 a2 a3 b1 b2 (fun i r b x y=>?_) (fun i r b x y=>?_) l1 l2 (fun i r a x y=>?_) (fun i r a x y=>?_) hc
 .obtain⟨tc,ec,rfl,h1,h2,h3⟩:=b3 i r b x y;have e1:=h1.len;have e2:=h2.len;refine⟨⟨by simp[e1,e2],h3⟩,rfl,?_⟩;rw[List.drop_succ_cons,List.drop_zero,List.take_left' e1];exact h1
 .obtain⟨tc,ec,rfl,h1,h2,h3⟩:=b3 i r b x y;rw[List.drop_succ_cons,List.drop_left' h1.len];exact h2
 .obtain⟨vv,ec,rfl,h1,h2⟩:=l3 i r a x y;exact⟨vv,rfl,by simp[h2.len],h1⟩
 .obtain⟨vv,ec,rfl,h1,h2⟩:=l3 i r a x y;exact h2
theorem amc{α:Type}(l:List α)(x y:α)(m:List α):(l++x::m).set l.length y=l++[y]++m:=by
 rw[List.set_append_right _ _ (Nat.le_refl _),Nat.sub_self,List.set_cons_zero,List.append_assoc];rfl
theorem FW{l vs:List Value}{n:Nat}(hv:vs.length=n)(hl:l.length=n):lN l.toArray [(0,n,.agg vs.toArray)]=some vs.toArray:=by
 rw[Wo hv (by omega),afv];simp[List.drop_of_length_le (Nat.le_of_eq hl)]
theorem XS.app{w0 w9 cD:World}{S0 S O:Nat→Prop}{A:TA}{C:Tc}{t:Tn}{jV fp:Option Nat}{e:Ex}{b3 b4 b5:Nat}{iZ:List Value}{lI:List Ty}{v5 vA vB vL:Value}{α:Type}{T sz:Nat}{v:Value}{Pr:Rp α}{l:List α}{fl rL:Option Nat}(Q:XS w0 w9 S0 S A C t jV fp O e b3 b4 b5 iZ lI v5 vA vB vL)(hE:iN sz Pr)
   (hf:∀b,fl=some b->O b/\b5<b) (hg:Gr S 0 cD T sz v Pr l rL) (hm:Mod (fun b=>fl=some b) w9 cD) (ii:∀b,rL=some b->fl=some b\/b=w9.heap.size/\b<cD.heap.size) :
   ∃S' O':Nat->Prop,XS w0 cD S0 S' A C t jV fp O' e b3 b4 b5 iZ lI v5 vA vB vL/\Gr S' 0 cD T sz v Pr l rL/\(∀b,O b->O' b)/\(∀b,rL=some b->O' b/\b5<b)/\∀b,b<w9.heap.size->S' b->S b:=by
 have l5:=bP Q.h5;refine⟨_,_,Q.step (N:=fun b=>rL=some b/\w9.heap.size<=b) hm hf (fun b hb=>?_),hg.ext hE (.refl (fun _=>False) cD) (fun _ h=>h.elim) (fun _ _ h=>h) (fun b _ hb=>?_),fun b hb=>.inl hb,fun b hb=>?_,fun b hb hh=>?_⟩
 .rcases ii b hb.1 with h |h
  .have:=(Q.x.own b (hf b h).1).2.1;omega
  .omega
 .rcases hb with h |h
  .exact .inl h
  .exact .inr h.1
 .rcases ii b hb with h |h
  .exact⟨.inl (hf b h).1,(hf b h).2⟩
  .exact⟨.inr ⟨hb,by omega⟩,by omega⟩
 .rcases hh with h |h
  .exact h
  .omega
section
variable {A:TA} {C:Tc}
theorem amd(hC:∀ (d:Nat) df,C.aj[d]? = some df→df.name.size≤1048576∧df.params.length≤1048576)(e:Ex):∀ {t:Tn} {fp:Option Nat} {w:World} {S:Nat→Prop} {cs:List Value},iA w S A C t fp→ci w (Out S w) cs e→qF C.aj C.D e→t.bR.length+e.de≤1000000000 →
   bu Tryz.prog 41 [ptr A.tb,.agg cs.toArray] w fun r w'=>∃S' dB fg,r=.agg (fg:List Value).toArray/\ci w' (Out S' w') fg (dp C e t).1/\iA w' S' A C (dp C e t).2 dB/\fU A fp dB S S' w w':=by
 induction e using Ex.ind with
 |h e dK hM gT=>
 intro t fp w S cs h he hd hn;obtain⟨vt,va,vb,vl,rfl,uN,Nw,FP,xL⟩:=he.parts;obtain⟨ta,tc,rfl⟩:=bq uN;obtain⟨aa,ac,rfl⟩:=bq Nw;obtain⟨ba,bc,rfl⟩:=bq FP;obtain⟨la,lc,rfl⟩:=bq xL;cases hd with
 |mk hdg hda hdb hdv zT=>
 have hcq:=e.ug;refine γ Tryz.f41 ?_;rw[al6];(try simp only[go_sem,Nat.reduceAdd,Nat.reduceEqDiff,Nat.reduceLT,Nat.reduceLeDiff,Nat.reduceMul,reduceCtorEq,↓reduceIte]);refine bZ rfl ?_;intro w1 au ak cw;(try simp only[go_sem,Nat.reduceAdd,Nat.reduceEqDiff,Nat.reduceLT,Nat.reduceLeDiff,Nat.reduceMul,reduceCtorEq,↓reduceIte]);refine cX ?_;intro w2 az ai bU;have au:=ai.at au Ψ;have bo:=ak.trans ai;have X0:nU w w S S A C t fp fp (fun _=>False):=⟨h,fU.refl _ _ _ _,fun _ h=>h.elim,by obtain⟨_,hr⟩:=h.Du;exact bP hr⟩;have X2:=X0.step (N:=fun b=>b=w.heap.size\/b=w1.heap.size) bo (fun _ h=>h) (fun b hb=>by omega);obtain⟨S2,O2,sU,Ug⟩:∃S2 O2:Nat->Prop,S2=(fun b=>S b\/b=w.heap.size\/b=w1.heap.size)/\O2=(fun b=>False\/b=w.heap.size\/b=w1.heap.size):=⟨_,_,rfl,rfl⟩;rw[<- sU,<- Ug]at X2;have o3:O2 w.heap.size:=by rw[Ug];exact .inr (.inl rfl)
 have o4:O2 w1.heap.size:=by rw[Ug];exact .inr (.inr rfl)
 obtain⟨vn,hT,_⟩:=X2.tr.tr;have BB:∀b,TS A fp b->b<w.heap.size:=fun b hb=>h.lt b (h.aT b hb)
 have No:A.tb<w.heap.size:=BB _ (.inl rfl);(try simp only[go_sem,Nat.reduceAdd,Nat.reduceEqDiff,Nat.reduceLT,Nat.reduceLeDiff,Nat.reduceMul,reduceCtorEq,↓reduceIte,cell_of hT,cell_of au,Value.cells]);refine eK (b:=A.tb) (off:=2) rfl rfl hT rfl (by simp) ?_;intro w3 rB aw dU;have rB:gM w3 A (Wr (t.left-1)) vn:=rB;have X3:=X2.call (X2.tr.left hT aw rB) (fU.tb aw);have au:=aw.at au (by omega);have az:=aw.at az (by omega);(try simp only[go_sem,Nat.reduceAdd,Nat.reduceEqDiff,Nat.reduceLT,Nat.reduceLeDiff,Nat.reduceMul,reduceCtorEq,↓reduceIte,cell_of rB,cell_of au,Value.cells]);cases pb:decide (Wr (t.left-1)<0)with
 |true=>
  rw[if_pos (of_decide_eq_true pb)];(try simp only[go_sem,Nat.reduceAdd,Nat.reduceEqDiff,Nat.reduceLT,Nat.reduceLeDiff,Nat.reduceMul,reduceCtorEq,↓reduceIte]);refine bN (vs:=jT) (cs:=jT) rfl rfl az rfl rfl (Nv _ _) ?_;intro w4 bm aD dL;have X4:=X3.wr aD (fun b hb=>by rw[hb];exact o4);(try simp only[go_sem,Nat.reduceAdd,Nat.reduceEqDiff,Nat.reduceLT,Nat.reduceLeDiff,Nat.reduceMul,reduceCtorEq,↓reduceIte,aM,RV.ev,aE (n:=7) bm rfl,aN]);exact⟨_,_,_,rfl,FO _ _ 0 _,X4.tr,X4.go⟩
 |false=>
 rw[if_neg (of_decide_eq_false pb)];have DF:∀{dB S' w'},fU A fp dB S S' w w'->∀b,Out S w b->Out S' w' b:=fun g b hb=>⟨Nat.lt_of_lt_of_le hb.1 g.mod.size,fun hh=>hb.2 (g.hs b hb.1 hh)⟩
 have mr:∀b,Out S w b->¬TS A fp b:=fun b hb hh=>hb.2 (h.aT b hh)
 (try simp only[go_sem,Nat.reduceAdd,Nat.reduceEqDiff,Nat.reduceLT,Nat.reduceLeDiff,Nat.reduceMul,reduceCtorEq,↓reduceIte,cell_of au,Value.cells]);cases rZ:(e.kind == 3)with
 |true=>
  have NT:e.kind=3:=by simpa using rZ
  rw[if_pos NT];obtain⟨d,d0,g1,g2,g3⟩:=hdg NT;obtain⟨c1,c2⟩:=hC d d0 g2;(try simp only[go_sem,Nat.reduceAdd,Nat.reduceEqDiff,Nat.reduceLT,Nat.reduceLeDiff,Nat.reduceMul,reduceCtorEq,↓reduceIte,aE (n:=7) au rfl]);refine aL (by rfl) ?_;refine(alE X3.tr (he.up X3.go.mod mr (DF X3.go)) g1 g2 c1 (by omega) (by show t.bR.length<=_;omega)).mono ?_;rintro _ w4 ⟨S4,uJ,Rz,rfl,h1,h2,h3⟩;have X4:=X3.call h2 h3;have az:=h3.mod.at az (X3.own _ o4).2.2.1;(try simp only[go_sem,Nat.reduceAdd,Nat.reduceEqDiff,Nat.reduceLT,Nat.reduceLeDiff,Nat.reduceMul,reduceCtorEq,↓reduceIte]);refine bN (vs:=Rz) (cs:=jT) rfl rfl az h1.len rfl h1.one ?_;intro w5 bY aH eY;have X5:=X4.wr aH (fun b hb=>by rw[hb];exact o4);(try simp only[go_sem,Nat.reduceAdd,Nat.reduceEqDiff,Nat.reduceLT,Nat.reduceLeDiff,Nat.reduceMul,reduceCtorEq,↓reduceIte,aM,RV.ev,aE (n:=7) bY h1.len,aN]);exact⟨_,_,_,rfl,h1.up aH (fun b hb hh=>hb.2 (by rw[hh];exact(X4.own _ o4).2.2.2)) (fun b hb=>⟨by have:=hb.1;omega,hb.2⟩),X5.tr,X5.go⟩
 |false=>
 have NT:¬e.kind=3:=by simpa using rZ
 rw[if_neg NT];(try simp only[go_sem,Nat.reduceAdd,Nat.reduceEqDiff,Nat.reduceLT,Nat.reduceLeDiff,Nat.reduceMul,reduceCtorEq,↓reduceIte,cell_of au,Value.cells]);obtain⟨t1,rM⟩:∃t1,t1=t.at (Wr (t.left-1)):=⟨_,rfl⟩;rw[<- rM]at X3 ⊢;have Uh:gM w3 A t1.left vn:=by rw[rM];exact rB
 refine KH (fun ρ w'=>∃b5 v5 S' O',nU w w' S S' A C (dj C e.types t1).2 fp fp O'/\O' w.heap.size/\O' w1.heap.size/\O' b5/\w1.heap.size<b5/\aX w' v5 3 (Out S' w') (aR w' (Out S' w')) (dj C e.types t1).1 /\
  w'.heap[w.heap.size]?=w3.heap[w.heap.size]?/\w'.heap[w1.heap.size]?=w3.heap[w1.heap.size]?/\w'.heap[b5]?=some (.cells [I e.kind,.string e.name,I e.num,v5,.slice none 0 0,.slice none 0 0,.slice none 0 0].toArray 57 (0,0)) /\
  ρ.get 0=some (ptr A.tb)/\ρ.get 3=some (ptr w.heap.size)/\ρ.get 4=some (ptr w1.heap.size)/\ρ.get 5=some (ptr b5)) ?_ ?_
 .rw[GZ];have dr:=Mod.drew (.refl (fun _=>False) w3);have l1:=bP au;have l2:=bP az;have s23:w3.heap.size=w2.heap.size:=dU;have xX:=DF X3.go;have CY:=uN.up X3.go.mod mr xX (fun _ _ x=>x.up X3.go.mod mr xX);refine⟨?_,?_⟩
  .refine aL (by rfl) ?_;refine(abm (A:=A) (vn:=vn) (a8:=C.a8) (S:=S2) (w:=w3.drew) (CY.mod dr aA (fun _ _ x=>x.mod dr aA)) Uh (X3.tr.a8.mod dr (fun h=>h) (fun _ _ x=>x.up dr aA (fun _ h=>h))) (X3.tr.aT _ (.inl rfl)) (fun e=>X3.tr.out.1 (by rw[e];exact X3.tr.aT _ (.inl rfl))) X3.tr.lt).mono ?_;rintro v5 w4 ⟨bL,Bz,me⟩;have aD:Mod (· = A.tb) w3 w4:=me.dG;have X4:nU w w4 S S2 A C (dj C e.types t1).2 fp fp O2:=X3.call (X3.tr.left Uh aD Bz) (fU.tb aD);have z4:=aD.size;have TD:=j6 bL;obtain⟨a5,c5,rfl⟩:=bq bL;(try simp only[go_sem,Nat.reduceAdd,Nat.reduceEqDiff,Nat.reduceLT,Nat.reduceLeDiff,Nat.reduceMul,reduceCtorEq,↓reduceIte]);refine⟨aD.bO _ l1 (by omega),?_⟩;refine cX ?_;intro w5 bY aH eY;have X5:=X4.step (N:=(· = w4.heap.size)) aH (fun _ h=>h.elim) (fun b hb=>by have hb:b=w4.heap.size:=hb;omega);(try simp only[go_sem,Nat.reduceAdd,Nat.reduceEqDiff,Nat.reduceLT,Nat.reduceLeDiff,Nat.reduceMul,reduceCtorEq,↓reduceIte]);refine⟨aH.bO _ (by omega) Ψ,?_⟩;refine bN (vs:=[I e.kind,.string e.name,I e.num,.slice a5 (dz C.a8 e.types t1.left).1.length c5,.slice none 0 0,.slice none 0 0,.slice none 0 0]) (cs:=jT) rfl rfl bY rfl rfl (aP rfl (aP rfl (aP rfl (aP rfl (aP rfl (aP rfl (aP rfl dq))))))) ?_;intro w6 cH aG fw;have X6:=X5.wr aG (fun b hb=>.inr hb);(try simp only[go_sem,Nat.reduceAdd,Nat.reduceEqDiff,Nat.reduceLT,Nat.reduceLeDiff,Nat.reduceMul,reduceCtorEq,↓reduceIte]);have e1:∀b,b<w3.heap.size->b≠A.tb->w6.heap[b]?=w3.heap[b]?:=fun b hb bJ=>(aG.bO b (by omega) (show ¬b=w4.heap.size by omega)).trans ((aH.bO b (by omega) Ψ).trans (aD.bO b hb bJ))
   have q5:∀b,Out S2 w4 b->¬b=w4.heap.size:=fun b hb=>by have:=hb.1;omega
   have q6:∀b,Out S2 w4 b->Out (fun b=>S2 b\/b=w4.heap.size) w6 b:=fun b hb=>⟨by have:=hb.1;omega,fun hh=>by
    rcases hh with hh |hh
    ·exact hb.2 hh
    ·exact q5 b hb hh⟩
   have yb:Mod (· = w4.heap.size) w4 w6:=(aq aH).trans aG;exact⟨w4.heap.size,_,_,_,X6,.inl o3,.inl o4,.inr rfl,by omega,bL.up yb q5 q6 (fun _ _ x=>x.up yb q5 q6),e1 _ l1 (by omega),e1 _ l2 (by omega),cH,rfl⟩
  ·(try simp only[go_sem,Nat.reduceAdd,Nat.reduceEqDiff,Nat.reduceLT,Nat.reduceLeDiff,Nat.reduceMul,reduceCtorEq,↓reduceIte]);refine cX ?_;intro w4 bm me dL;have aD:Mod (fun _=>False) w3 w4:=me.dG;have dL:w4.heap.size=w3.heap.size+1:=dL;have X4:=X3.step (N:=(· = w3.heap.size)) aD (fun _ h=>h.elim) (fun b hb=>by have hb:b=w3.heap.size:=hb;omega);have Bz:=aD.at Uh Ψ;have up4:=DF X4.go;(try simp only[go_sem,Nat.reduceAdd,Nat.reduceEqDiff,Nat.reduceLT,Nat.reduceLeDiff,Nat.reduceMul,reduceCtorEq,↓reduceIte]);refine⟨aD.bO _ l1 Ψ,?_⟩;refine aL (by rfl) ?_;refine(abm (A:=A) (vn:=vn) (a8:=C.a8) (w:=w4) (uN.up X4.go.mod mr up4 (fun _ _ x=>x.up X4.go.mod mr up4)) Bz X4.tr.a8 (X4.tr.aT _ (.inl rfl)) (fun e=>X4.tr.out.1 (by rw[e];exact X4.tr.aT _ (.inl rfl))) X4.tr.lt).mono ?_;rintro v5 w5 ⟨bL,pI,aH⟩;have X5:nU w w5 S _ A C (dj C e.types t1).2 fp fp _:=X4.call (X4.tr.left Bz aH pI) (fU.tb aH);have z5:=aH.size;have TD:=j6 bL;obtain⟨a5,c5,rfl⟩:=bq bL;(try simp only[go_sem,Nat.reduceAdd,Nat.reduceEqDiff,Nat.reduceLT,Nat.reduceLeDiff,Nat.reduceMul,reduceCtorEq,↓reduceIte]);refine⟨aH.bO _ (by omega) (by omega),?_⟩;have bY:=aH.at bm (by show ¬w3.heap.size=A.tb;omega);refine bN (vs:=[I e.kind,.string e.name,I e.num,.slice a5 (dz C.a8 e.types t1.left).1.length c5,.slice none 0 0,.slice none 0 0,.slice none 0 0]) (cs:=jT) rfl rfl bY rfl rfl (aP rfl (aP rfl (aP rfl (aP rfl (aP rfl (aP rfl (aP rfl dq))))))) ?_;intro w6 cH aG fw;have X6:=X5.wr aG (fun b hb=>.inr hb);(try simp only[go_sem,Nat.reduceAdd,Nat.reduceEqDiff,Nat.reduceLT,Nat.reduceLeDiff,Nat.reduceMul,reduceCtorEq,↓reduceIte]);have e1:∀b,b<w3.heap.size->b≠A.tb->w6.heap[b]?=w3.heap[b]?:=fun b hb bJ=>(aG.bO b (by omega) (show ¬b=w3.heap.size by omega)).trans ((aH.bO b (by omega) bJ).trans (aD.bO b hb Ψ))
   have n6:∀b,Out (fun b=>S2 b\/b=w3.heap.size) w5 b->¬b=w3.heap.size:=fun b hb hh=>hb.2 (.inr hh)
   have n7:∀b,Out (fun b=>S2 b\/b=w3.heap.size) w5 b->Out (fun b=>S2 b\/b=w3.heap.size) w6 b:=fun b hb=>⟨by have:=hb.1;omega,hb.2⟩
   exact⟨w3.heap.size,_,_,_,X6,.inl o3,.inl o4,.inr rfl,by omega,bL.up aG n6 n7 (fun _ _ x=>x.up aG n6 n7),e1 _ l1 (by omega),e1 _ l2 (by omega),cH,rfl⟩
 rintro nJ w4 ⟨b5,v5,S4,O4,X4,q3,q4,q5,lb5,Ui,cP,gS,bY,r0,r3,r4,r5⟩;rw[au]at cP;rw[az]at gS;obtain⟨t2,xg⟩:∃t2,t2=(dj C e.types t1).2:=⟨_,rfl⟩;rw[<- xg]at X4 ⊢;obtain⟨iZ,uB⟩:∃iZ:List Value,iZ=[I e.kind,.string e.name,I e.num,.slice ta e.types.length tc,.slice aa e.args.length ac,.slice ba e.binds.length bc,.slice la e.alts.length lc]:=⟨_,rfl⟩;have Q4:XS w w4 S S4 A C t2 fp fp O4 e w.heap.size w1.heap.size b5 iZ (dj C e.types t1).1 v5 (.slice none 0 0) (.slice none 0 0) (.slice none 0 0):=⟨X4,q3,q4,q5,⟨by omega,lb5⟩,by rw[uB];exact cP,gS,bY,Ui⟩;(try simp only[go_sem,Nat.reduceAdd,Nat.reduceEqDiff,Nat.reduceLT,Nat.reduceLeDiff,Nat.reduceMul,reduceCtorEq,↓reduceIte,r0,r3,r4,r5,cell_of cP,Value.cells]);have sQ:=Ub e.binds;refine og (fun ρ w'=>∃S' O' L vB fB ts,XS w w' S S' A C (t2.at L) fp fp O' e w.heap.size w1.heap.size b5 iZ (dj C e.types t1).1 v5 (.slice none 0 0) vB (.slice none 0 0)/\Gr S' 0 w' BE 11 vB (fun w B r b=>eh w B r b) (fy e.binds ts (List.replicate e.binds.length fS)) fB/\(∀b,fB=some b->O' b/\b5<b)/\ts.length=e.binds.length/\dz C.a8 (fx e.binds) t2.left=(ts,L)/\ρ.get 0=some (ptr A.tb)/\ρ.get 3=some (ptr w.heap.size)/\ρ.get 4=some (ptr w1.heap.size)/\ρ.get 5=some (ptr b5)) ?_ ?_
 .refine j7 (PP:=fun w'=>eh w' (Out S w)) (l:=e.binds) (B:=Out S w) (fun k ρ w'=>k≤e.binds.length∧∃ S' O' L vB fB ts,XS w w' S S' A C (t2.at L) fp fp O' e w.heap.size w1.heap.size b5 iZ (dj C e.types t1).1 v5 (.slice none 0 0) vB (.slice none 0 0)∧Gr S' 0 w' BE 11 vB (fun w B r b=>eh w B r b) (fy (e.binds.take k) ts (List.replicate k fS)) fB∧(∀ b,fB=some b→O' b∧b5 < b)∧ts.length=k∧dz C.a8 (fx e.binds) t2.left=(ts++(dz C.a8 (fx (e.binds.drop k)) L).1,(dz C.a8 (fx (e.binds.drop k)) L).2)∧ρ=[(0,ptr A.tb),(3,ptr w.heap.size),(4,ptr w1.heap.size),(5,ptr b5),(44,.slice ba e.binds.length bc),(45,I e.binds.length),(46,I k)])
   ⟨by omega,S4,O4,t2.left,_,none,[],Q4,wv,(fun _ h=>by cases h),rfl,by simp,by(try simp only[go_sem,Nat.reduceAdd,Nat.reduceEqDiff,Nat.reduceLT,Nat.reduceLeDiff,Nat.reduceMul,reduceCtorEq,↓reduceIte]);rfl⟩ FP ?_ (fun _ _ _ h=>h.one) rfl ?_ ?_
  .rintro k _ w5 ⟨hk,S5,O5,L,vB,fB,ts,Q5,_,_,_,_,rfl⟩;exact⟨⟨FP.mod Q5.x.go.mod mr (fun _ _ x=>x.mod Q5.x.go.mod mr),hk⟩,rfl,rfl,rfl⟩
  .rintro k _ w5 hk w6 r b7 pv ⟨_,S5,O5,L,vB,fB,ts,Q5,kg,Ad,mR,cK,rfl⟩ hr HR dh aG arb;rw [al' _ hk] at cK;obtain ⟨Uj,ec7,rfl,ES,Uk,Ul⟩:=hr;have uu:=ES.len;have Q6:=Q5.no aG;have jx:=kg.no ie aG;obtain ⟨NA,lL,_⟩:=Q6.x.tr.tr;have ame:f' w6 3 (.pointer (some ⟨b7,1,none⟩))=some (.agg Uj.toArray):=by
    rw[jm dh (by simp;omega),List.drop_succ_cons,List.drop_zero,List.take_left' uu]
   have l7:=bP dh;have l5:=bP Q5.h5;have dr:=Mod.drew (.refl (fun _=>False) w6);have DG:=DF Q6.x.go;(try simp only[go_sem,Nat.reduceAdd,Nat.reduceEqDiff,Nat.reduceLT,Nat.reduceLeDiff,Nat.reduceMul,reduceCtorEq,↓reduceIte,cell_of Q6.h5,cell_of dh,Value.cells,ame]);refine aL (by rfl) ?_;refine(Nn e.binds[k].type (w:=w6.drew) (A:=A) (vn:=NA) (a8:=C.a8) (S:=S5) ((ES.up aG aA DG).mod dr aA) lL (Q6.x.tr.a8.mod dr (fun h=>h) (fun _ _ x=>x.up dr aA (fun _ h=>h))) (Q6.x.tr.aT _ (.inl rfl)) (fun e=>Q6.x.tr.out.1 (by rw[e];exact Q6.x.tr.aT _ (.inl rfl))) Q6.x.tr.lt).mono ?_;rintro _ w8 ⟨⟨pw,rfl,jw⟩,Aa,nH⟩;have aZ:Mod (· = A.tb) w6 w8:=nH.dG;have Q8:=Q6.call (Q6.x.tr.left lL aZ Aa) (fU.tb aZ);have oy:=Q6.x.gr ie jx (fun b hb=>(Ad b hb).1) (fU.tb aZ);have z8:=aZ.size;have z5:=Q5.x.go.mod.size;have uQ:=jw.len;(try simp only[go_sem,Nat.reduceAdd,Nat.reduceEqDiff,Nat.reduceLT,Nat.reduceLeDiff,Nat.reduceMul,reduceCtorEq,↓reduceIte,uQ]);refine⟨⟨aZ.bO _ l7 (by omega),aZ.bO _ (by omega) (by omega)⟩,?_⟩;refine ez (cs:=(.string e.binds[k].name::(pw++jT)).toArray) rfl ?_ ?_
   ·(try simp only[go_sem,Nat.reduceAdd,Nat.reduceEqDiff,Nat.reduceLT,Nat.reduceLeDiff,Nat.reduceMul,reduceCtorEq,↓reduceIte]);exact FW (by simp[uQ]) rfl
   intro w9 di aQ gx;have rd:=mD di;rw[show(Value.string e.binds[k].name::(pw++jT)).length=11 by simp[uQ]]at rd;have Q9:=Q8.no aQ;have pJ:=oy.no ie aQ;have hn9:fB≠some b5:=fun hh=>by have:=(Ad _ hh).2;omega
   have sf9:∀b,Out S5 w9 b->Out (SF S5 fB) w9 b:=fun b hb=>⟨hb.1,fun hh=>by
    rcases hh with hh |hh
    ·exact hb.2 hh
    ·exact hb.2 (Q9.x.own b (Ad b hh).1).2.2.2⟩
   (try simp only[go_sem,Nat.reduceAdd,Nat.reduceEqDiff,Nat.reduceLT,Nat.reduceLeDiff,Nat.reduceMul,reduceCtorEq,↓reduceIte]);refine⟨aQ.bO _ (bP Q8.h5) Ψ,?_⟩;have NU:(fy (e.binds.take k) ts (List.replicate k fS)).length=k:=by rw[Jf _ _ _ (by rw[mR,List.length_take,Nat.min_eq_left (by omega)]) (by rw[List.length_replicate,List.length_take,Nat.min_eq_left (by omega)]),List.length_take,Nat.min_eq_left (by omega)]
   refine ww (a:=Bd.mk e.binds[k].name (cZ C.a8 e.binds[k].type L).1 fS) ie rfl pJ rfl (by simp) rd ⟨pw,jT,rfl,((jw.aI (aq aQ)).up (.refl (fun _=>False) w9) aA sf9),FO _ _ 0 _,Ul⟩ rfl (by omega) (by omega) (by omega) ?_;intro v10 cD f10 tB bD FM;obtain⟨qD,O10,uR,tB,abz,ack,_⟩:=Q9.app ie Ad tB bD FM;obtain⟨a10,AQ,rfl,_⟩:=tB.val;have eM:=uR.h5;have arc:=j6 uR.ty;(try simp only[go_sem,Nat.reduceAdd,Nat.reduceEqDiff,Nat.reduceLT,Nat.reduceLeDiff,Nat.reduceMul,reduceCtorEq,↓reduceIte]);refine eK (b:=b5) (off:=5) rfl rfl eM rfl (by simp) ?_;intro eE hZ cI um;have rE:=uR.set cI hZ;have uO:=tB.ext ie cI (fun b hb=>by rw[hb];exact(uR.x.own _ uR.o5).2.2.2) (fun b hb hh=>by have:=(ack b hb).2;omega) (S':=qD) (fun _ _ h=>.inl h);have jv:IntKind.i64.wrap ((k:Int)+1)=((k+1:Nat):Int):=by rw[dJ (by omega) (by omega)];omega
   have Tf:fy (e.binds.take (k+1)) (ts++[(cZ C.a8 e.binds[k].type L).1]) (List.replicate (k+1) fS)=fy (e.binds.take k) ts (List.replicate k fS)++[Bd.mk e.binds[k].name (cZ C.a8 e.binds[k].type L).1 fS]:=by
    rw[List.take_succ_eq_append_getElem hk,List.replicate_succ',ab8 _ _ _ _ _ _ (by rw[mR,List.length_take,Nat.min_eq_left (by omega)]) (by rw[List.length_replicate,List.length_take,Nat.min_eq_left (by omega)])]
   (try simp only[go_sem,Nat.reduceAdd,Nat.reduceEqDiff,Nat.reduceLT,Nat.reduceLeDiff,Nat.reduceMul,reduceCtorEq,↓reduceIte]);refine⟨hk,qD,O10,(cZ C.a8 e.binds[k].type L).2,_,f10,ts++[(cZ C.a8 e.binds[k].type L).1],rE,by rw[Tf];exact uO,ack,by simp[mR],?_⟩;rw[cK,List.append_assoc];rfl
  .rintro _ w5 ⟨hk,S5,O5,L,vB,fB,ts,Q5,kg,Ad,mR,cK,rfl⟩;rw[List.drop_length,fx,dz,List.append_nil]at cK;rw[List.take_length]at kg;(try simp only[go_sem,Nat.reduceAdd,Nat.reduceEqDiff,Nat.reduceLT,Nat.reduceLeDiff,Nat.reduceMul,reduceCtorEq,↓reduceIte]);exact⟨S5,O5,L,vB,fB,ts,Q5,kg,Ad,mR,cK⟩
 rintro ρ5 w5 ⟨S5,O5,L5,vB,fB,ts,Q5,kg,Ad,Jh,lu,r0,r3,r4,r5⟩;have ets:dj C (fx e.binds) t2=(ts,t2.at L5):=by unfold dj;rw[lu]
 obtain⟨t3,uo⟩:∃t3,t3=t2.at L5:=⟨_,rfl⟩;rw[ets,<- uo];rw[<- uo]at Q5;have n3:t3.bR=t.bR:=by rw[uo,xg,rM];rfl
 simp only
 refine eA (fun ρ w'=>∃S' O' t4 uJ Jg vs,XS w w' S S' A C t4 fp uJ O' e w.heap.size w1.heap.size b5 iZ (dj C e.types t1).1 v5 (.slice none 0 0) Jg (.slice none 0 0)/\Gr S' 0 w' BE 11 Jg (fun w B r b=>eh w B r b) (fy e.binds ts vs) fB/\(∀b,fB=some b->O' b/\b5<b)/\vs.length=e.binds.length/\(if e.kind=6 then(e.binds.map (fun _=>fS),t3)else gm C e.binds t3)=(vs,t4)/\t4.bR.length<=t.bR.length+gn e.binds /\
  ρ.get 0=some (ptr A.tb)/\ρ.get 3=some (ptr w.heap.size)/\ρ.get 4=some (ptr w1.heap.size)/\ρ.get 5=some (ptr b5)) ?_ ?_
 .have h3:=Q5.h3;rw[uB]at h3;(try simp only[go_sem,Nat.reduceAdd,Nat.reduceEqDiff,Nat.reduceLT,Nat.reduceLeDiff,Nat.reduceMul,reduceCtorEq,↓reduceIte,r0,r3,r4,r5,cell_of h3,Value.cells]);cases hk6:(e.kind != 6)with
  |false=>
   have NV:e.kind=6:=by simpa using hk6
   (try simp only[go_sem,Nat.reduceAdd,Nat.reduceEqDiff,Nat.reduceLT,Nat.reduceLeDiff,Nat.reduceMul,reduceCtorEq,↓reduceIte]);exact⟨S5,O5,t3,fp,vB,List.replicate e.binds.length fS,Q5,kg,Ad,by simp,by rw[if_pos NV,List.map_const'],by rw[n3];omega⟩
  |true=>
   have NV:¬e.kind=6:=by simpa using hk6
   have NU:(fy e.binds ts (List.replicate e.binds.length fS)).length=e.binds.length:=Jf _ _ _ Jh (by simp);have acm:=kg.val;rw[NU]at acm;obtain⟨aB,cB,rfl,_⟩:=acm;rw[if_neg NV];(try simp only[go_sem,Nat.reduceAdd,Nat.reduceEqDiff,Nat.reduceLT,Nat.reduceLeDiff,Nat.reduceMul,reduceCtorEq,↓reduceIte,r0,r3,r4,r5,cell_of Q5.h5,Value.cells])
   refine eW e.binds.length (fun k ρ w'=>∃S' O' t4 uJ vs,XS w w' S S' A C t4 fp uJ O' e w.heap.size w1.heap.size b5 iZ (dj C e.types t1).1 v5 (.slice none 0 0) (.slice aB e.binds.length cB) (.slice none 0 0)/\Gr S' 0 w' BE 11 (.slice aB e.binds.length cB) (fun w B r b=>eh w B r b) (fy e.binds ts (vs++List.replicate (e.binds.length-k) fS)) fB/\(∀b,fB=some b->O' b/\b5<b)/\k<=e.binds.length/\vs.length=k/\gm C e.binds t3=(vs++(gm C (e.binds.drop k) t4).1,(gm C (e.binds.drop k) t4).2)/\t4.bR.length<=t.bR.length+gn (e.binds.take k) /\
    ρ=[(0,ptr A.tb),(3,ptr w.heap.size),(4,ptr w1.heap.size),(5,ptr b5),(68,I e.binds.length),(69,I k)])
    ⟨S5,O5,t3,fp,[],Q5,by simpa using kg,Ad,by omega,rfl,by simp,by rw[n3];omega,rfl⟩ (dI FP) ?_ ?_ (by decide) ?_
   .rintro k _ w6 ⟨S6,O6,t4,uJ,vs,_,_,_,hk,_,_,_,rfl⟩;exact⟨rfl,rfl,hk⟩
   .rintro k _ w6 ⟨S6,O6,t4,uJ,vs,Q6,jx,qV,_,jk,cK,gR,rfl⟩ hk;rw[al8 _ hk]at cK;have hcg:=acf hk;have DG:=DF Q6.x.go;obtain⟨ad,c',r,e1,⟨Uj,ec7,rfl,ES,Uk,Ul⟩,HR,_,im⟩:=dT (FP.up Q6.x.go.mod mr DG (fun _ _ x=>x.up Q6.x.go.mod mr DG):aX w6 _ 11 (Out S6 w6) (eh w6 (Out S6 w6)) e.binds) hk;cases e1;have uu:=ES.len;have YK:=Uk.len;have cR:=Hd im (o:=4) (n:=7) (by simp;omega);rw[List.drop_succ_cons,List.drop_left' uu,List.take_of_length_le (by omega)]at cR;have b1:(0:Int)<=k/\(k:Int)<e.binds.length:=by omega
    have h3:=Q6.h3;rw[uB]at h3;have cR:f' w6 7 (.pointer (some ⟨(ad.add (k*11)).block,(ad.add (k*11)).off+4,none⟩))=some (.agg ec7.toArray):=cR;(try simp only[go_sem,Nat.reduceAdd,Nat.reduceEqDiff,Nat.reduceLT,Nat.reduceLeDiff,Nat.reduceMul,reduceCtorEq,↓reduceIte,bG,bH,cell_of h3,cell_of Q6.h5,Value.cells,b1,cR]);refine aL (by rfl) ?_;have dr:=Mod.drew (.refl (fun _=>False) w6);have Qd:=Q6.no dr;refine(hM _ (List.getElem_mem hk) Qd.x.tr (Uk.up dr aA (fun _ h=>h)) (hdb NV _ (List.getElem_mem hk)) (by omega)).mono ?_;rintro _ w7 ⟨S7,wP,Um,rfl,hx7,mS,Un⟩;have Q7:=Qd.call mS Un;have mJ:=Qd.x.gr ie (jx.no ie dr) (fun b hb=>(qV b hb).1) Un;have NU:(fy e.binds ts (vs++List.replicate (e.binds.length-k) fS)).length=e.binds.length:=Jf _ _ _ Jh (by simp[jk];omega);obtain⟨bB,cB',_,e2,hfB,_⟩:=mJ.row ie (i:=k) (by omega);rw[NU]at e2;cases e2;have l5:=bP Q6.h5;have lx7:=hx7.len;(try simp only[go_sem,Nat.reduceAdd,Nat.reduceEqDiff,Nat.reduceLT,Nat.reduceLeDiff,Nat.reduceMul,reduceCtorEq,↓reduceIte,bG,bH,b1]);refine⟨Un.mod.bO _ l5 (Q6.x.own _ Q6.o5).2.2.1,?_⟩
    have sf7:∀b,Out S7 w7 b->Out (SF S7 fB) w7 b:=fun b hb=>⟨hb.1,fun hh=>by
     rcases hh with hh |hh
     ·exact hb.2 hh
     ·exact hb.2 (Q7.x.own b (qV b hh).1).2.2.2⟩
    have LC:(fy e.binds ts (vs++List.replicate (e.binds.length-k) fS))[k]?=some (.mk e.binds[k].name (ts[k]'(by omega)) fS):=by
     rw[ab9 _ _ _ _ Jh (by simp[jk];omega) hk]
     congr 2
     rw[List.getElem_append_right (by omega)];simp
    refine Fq (u:=.agg Um.toArray) (vs:=Um) (off:=4) (i:=k) (a:=Bd.mk e.binds[k].name (ts[k]'(by omega)) (dp C e.binds[k].value t4).1) ie mJ (by omega) hfB rfl rfl rfl lx7 (by omega) (fun r hr hp=>?_) ?_
    .have hp':eh w7 (Out (SF S7 fB) w7) r (.mk e.binds[k].name (ts[k]'(by omega)) fS):=by
      have:=Ξ (l:=fy e.binds ts (vs++List.replicate (e.binds.length-k) fS)) (i:=k) (by omega);rw[LC]at this;rw[Option.some.inj this];exact hp
     obtain⟨tc8,ec8,e8,jw,ard,amf⟩:=hp';have l8:=jw.len;refine⟨tc8,Um,?_,jw,hx7.up (.refl (fun _=>False) w7) aA sf7,amf⟩;rw[List.drop_of_length_le (by omega),List.append_nil,e8,List.take_succ_cons,List.take_left' l8];rfl
    intro w8 oy aZ kD;have Q8:=Q7.step (N:=fun _=>False) aZ (fun b hb=>by rw[hb];exact qV _ hfB) (fun _ h=>h.elim);have jv:IntKind.i64.wrap ((k:Int)+1)=((k+1:Nat):Int):=by rw[dJ (by omega) (by omega)];omega
    have amg:(fy e.binds ts (vs++List.replicate (e.binds.length-k) fS)).set k (Bd.mk e.binds[k].name (ts[k]'(by omega)) (dp C e.binds[k].value t4).1)=fy e.binds ts ((vs++[(dp C e.binds[k].value t4).1])++List.replicate (e.binds.length-(k+1)) fS):=by
     rw[ab' _ _ _ _ _ Jh (by simp[jk];omega) hk]
     congr 1
     rw[show e.binds.length-k=(e.binds.length-(k+1))+1 by omega,List.replicate_succ];have:=amc vs fS (dp C e.binds[k].value t4).1 (List.replicate (e.binds.length-(k+1)) fS);rw[jk]at this;exact this
    rw[amg]at oy;(try simp only[go_sem,Nat.reduceAdd,Nat.reduceEqDiff,Nat.reduceLT,Nat.reduceLeDiff,Nat.reduceMul,reduceCtorEq,↓reduceIte])
    refine⟨_,_,_,wP,vs++[(dp C e.binds[k].value t4).1],Q8,oy.ext ie (.refl (fun _=>False) w8) (fun _ h=>h.elim) (fun _ _ h=>h) (fun b _ hb=>by
     rcases hb with hb |hb
     ·exact .inl hb
     ·exact hb.elim),fun b hb=>⟨.inl (qV b hb).1,(qV b hb).2⟩,by omega,by simp[jk],?_,?_⟩
    .rw[cK,List.append_assoc];rfl
    .have:=NP C e.binds[k].value t4;have h9:gn (e.binds.take (k+1))=gn (e.binds.take k)+e.binds[k].value.de:=aci hk;omega
   .rintro _ w6 ⟨S6,O6,t4,uJ,vs,Q6,jx,qV,_,jk,cK,gR,rfl⟩;rw[List.drop_length,gm,List.append_nil]at cK;rw[Nat.sub_self,List.replicate_zero,List.append_nil]at jx;rw[List.take_length]at gR;(try simp only[go_sem,Nat.reduceAdd,Nat.reduceEqDiff,Nat.reduceLT,Nat.reduceLeDiff,Nat.reduceMul,reduceCtorEq,↓reduceIte]);exact⟨S6,O6,t4,uJ,_,vs,Q6,jx,qV,jk,cK,gR⟩
 rintro ρ6 w6 ⟨S6,O6,t4,uJ,vB,vs,Q6,jx,qV,jk,amh,are,r0,r3,r4,r5⟩;rw[amh];simp only;have h3:=Q6.h3;rw[uB]at h3;have zN:=acd e.args;(try simp only[go_sem,Nat.reduceAdd,Nat.reduceEqDiff,Nat.reduceLT,Nat.reduceLeDiff,Nat.reduceMul,reduceCtorEq,↓reduceIte,r0,r3,r4,r5,cell_of h3,Value.cells]);refine og (fun ρ w'=>∃S' O' t7 wP vA fA xs,XS w w' S S' A C t7 fp wP O' e w.heap.size w1.heap.size b5 iZ (dj C e.types t1).1 v5 vA vB (.slice none 0 0)/\Gr S' 0 w' BE 11 vB (fun w B r b=>eh w B r b) (fy e.binds ts vs) fB/\(∀b,fB=some b->O' b/\b5<b)/\Gr S' 0 w' NS 7 vA (fun w B r x=>ci w B r x) xs fA/\(∀b,fA=some b->O' b/\b5<b)/\(∀b,fA=some b->fB≠some b)/\xs.length=e.args.length/\fT C e.args t4=(xs,t7)/\t7.bR.length<=t.bR.length+gn e.binds+iB e.args/\ρ.get 0=some (ptr A.tb)/\ρ.get 3=some (ptr w.heap.size)/\ρ.get 4=some (ptr w1.heap.size)/\ρ.get 5=some (ptr b5)) ?_ ?_
 .refine j7 (PP:=fun w'=>ci w' (Out S w)) (l:=e.args) (B:=Out S w) (fun k ρ w'=>k≤e.args.length∧∃ S' O' t7 wP vA fA xs,XS w w' S S' A C t7 fp wP O' e w.heap.size w1.heap.size b5 iZ (dj C e.types t1).1 v5 vA vB (.slice none 0 0)∧Gr S' 0 w' BE 11 vB (fun w B r b=>eh w B r b) (fy e.binds ts vs) fB∧(∀ b,fB=some b→O' b∧b5 < b)∧Gr S' 0 w' NS 7 vA (fun w B r x=>ci w B r x) xs fA∧(∀ b,fA=some b→O' b∧b5 < b)∧(∀ b,fA=some b→fB≠some b)∧xs.length=k∧fT C e.args t4=(xs++(fT C (e.args.drop k) t7).1,(fT C (e.args.drop k) t7).2)∧t7.bR.length≤t.bR.length+gn e.binds+iB (e.args.take k)∧ρ=[(0,ptr A.tb),(3,ptr w.heap.size),(4,ptr w1.heap.size),(5,ptr b5),(87,.slice aa e.args.length ac),(88,I e.args.length),(89,I k)])
   ⟨by omega,S6,O6,t4,uJ,_,none,[],Q6,jx,qV,wv,(fun _ h=>by cases h),(fun _ h=>by cases h),rfl,by simp,by omega,by(try simp only[go_sem,Nat.reduceAdd,Nat.reduceEqDiff,Nat.reduceLT,Nat.reduceLeDiff,Nat.reduceMul,reduceCtorEq,↓reduceIte]);rfl⟩ Nw ?_ (fun _ _ _ h=>h.one) rfl ?_ ?_
  .rintro k _ w7 ⟨hk,S7,O7,t7,wP,vA,fA,xs,Q7,_,_,_,_,_,_,_,_,rfl⟩;exact⟨⟨Nw.mod Q7.x.go.mod mr (fun _ _ x=>x.mod Q7.x.go.mod mr),hk⟩,rfl,rfl,rfl⟩
  .rintro k _ w7 hk w8 r Hl pv ⟨_,S7,O7,t7,wP,vA,fA,xs,Q7,Ji,Ae,Jj,BF,bJ,mR,cK,gR,rfl⟩ hr xI eM aZ arf;rw[al7 _ hk]at cK;have hcg:=ace hk;have Q8:=Q7.no aZ;have dr:=Mod.drew (.refl (fun _=>False) w8);have Jk:=Q8.no dr;have s7:=DF Jk.x.go;have l10:=bP eM;(try simp only[go_sem,Nat.reduceAdd,Nat.reduceEqDiff,Nat.reduceLT,Nat.reduceLeDiff,Nat.reduceMul,reduceCtorEq,↓reduceIte,cell_of Q8.h5,Value.cells,aE (n:=7) eM xI]);refine aL (by rfl) ?_;refine(dK _ (List.getElem_mem hk) Jk.x.tr (hr.up (aZ.trans dr) aA s7) (hda _ (List.getElem_mem hk)) (by omega)).mono ?_;rintro _ w9 ⟨S9,xz,RA,rfl,hx9,BA,NW⟩;have Q9:=Jk.call BA NW;have NX:=Jk.x.gr ie ((Ji.no ie aZ).no ie dr) (fun b hb=>(Ae b hb).1) NW;have NY:=Jk.x.gr pA ((Jj.no pA aZ).no pA dr) (fun b hb=>(BF b hb).1) NW;have l5:=bP Q8.h5;have lx9:=hx9.len;(try simp only[go_sem,Nat.reduceAdd,Nat.reduceEqDiff,Nat.reduceLT,Nat.reduceLeDiff,Nat.reduceMul,reduceCtorEq,↓reduceIte]);refine⟨NW.mod.bO _ l5 (Q8.x.own _ Q8.o5).2.2.1,?_⟩;refine ez (cs:=RA.toArray) rfl ?_ ?_
   ·(try simp only[go_sem,Nat.reduceAdd,Nat.reduceEqDiff,Nat.reduceLT,Nat.reduceLeDiff,Nat.reduceMul,reduceCtorEq,↓reduceIte]);exact FW lx9 rfl
   intro cD Ri bD ou;have rd:=mD Ri;rw[lx9]at rd;have uR:=Q9.no bD;have ami:=NX.no ie bD;have amj:=NY.no pA bD
   have amk:∀b,Out S9 cD b->Out (SF S9 fA) cD b:=fun b hb=>⟨hb.1,fun hh=>by
    rcases hh with hh |hh
    ·exact hb.2 hh
    ·exact hb.2 (uR.x.own b (BF b hh).1).2.2.2⟩
   (try simp only[go_sem,Nat.reduceAdd,Nat.reduceEqDiff,Nat.reduceLT,Nat.reduceLeDiff,Nat.reduceMul,reduceCtorEq,↓reduceIte]);refine⟨bD.bO _ (bP Q9.h5) Ψ,?_⟩;refine ww (a:=(dp C e.args[k] t7).1) pA rfl amj rfl (by simp) rd ((hx9.aI (aq bD)).up (.refl (fun _=>False) cD) aA amk) rfl (by omega) (by omega) (by omega) ?_;intro v11 eE f11 uO cI acn;obtain⟨BG,O11,rE,uO,TB,aco,RX⟩:=uR.app pA BF uO cI acn;have Uo:=ami.ext ie cI (fun b hb=>(uR.x.own b (BF b hb).1).2.2.2) (fun b hb hh=>bJ b hh hb) (S':=BG) (fun b hb hh=>.inl (RX b hb hh));obtain⟨a11,Hv,rfl,_⟩:=uO.val;(try simp only[go_sem,Nat.reduceAdd,Nat.reduceEqDiff,Nat.reduceLT,Nat.reduceLeDiff,Nat.reduceMul,reduceCtorEq,↓reduceIte]);refine eK (b:=b5) (off:=4) rfl rfl rE.h5 rfl (by simp) ?_;intro dQ je ei AV;have Up:=rE.set ei je;have s5:=(rE.x.own _ rE.o5).2.2.2;have FK:=uO.ext pA ei (fun b hb=>by rw[hb];exact s5) (fun b hb hh=>by have:=(aco b hb).2;omega) (S':=BG) (fun _ _ h=>.inl h);have Ur:=Uo.ext ie ei (fun b hb=>by rw[hb];exact s5) (fun b hb hh=>by have:=(Ae b hb).2;omega) (S':=BG) (fun _ _ h=>.inl h);have jv:IntKind.i64.wrap ((k:Int)+1)=((k+1:Nat):Int):=by rw[dJ (by omega) (by omega)];omega
   (try simp only[go_sem,Nat.reduceAdd,Nat.reduceEqDiff,Nat.reduceLT,Nat.reduceLeDiff,Nat.reduceMul,reduceCtorEq,↓reduceIte]);refine⟨hk,BG,O11,(dp C e.args[k] t7).2,xz,_,f11,xs++[(dp C e.args[k] t7).1],Up,Ur,fun b hb=>⟨TB b (Ae b hb).1,(Ae b hb).2⟩,FK,aco,fun b hb hh=>?_,by simp[mR],?_,?_⟩
   .rcases acn b hb with h' |⟨h',_⟩
    .exact bJ b h' hh
    .have:=(uR.x.own b (Ae b hh).1).2.1;omega
   .rw[cK,List.append_assoc];rfl
   .have:=NP C e.args[k] t7;have h9:=ach hk;omega
  .rintro _ w7 ⟨_,S7,O7,t7,wP,vA,fA,xs,Q7,Ji,Ae,Jj,BF,bJ,mR,cK,gR,rfl⟩;rw[List.drop_length,fT,List.append_nil]at cK;rw[List.take_length]at gR;(try simp only[go_sem,Nat.reduceAdd,Nat.reduceEqDiff,Nat.reduceLT,Nat.reduceLeDiff,Nat.reduceMul,reduceCtorEq,↓reduceIte]);exact⟨S7,O7,t7,wP,vA,fA,xs,Q7,Ji,Ae,Jj,BF,bJ,mR,cK,gR⟩
 rintro ρ7 w7 ⟨S7,O7,t7,wP,vA,fA,xs,Q7,Ji,Ae,Jj,BF,arh,ari,aml,arj,r0,r3,r4,r5⟩;rw[aml];simp only;have h3:=Q7.h3;rw[uB]at h3;have iH:=Ue e.alts;(try simp only[go_sem,Nat.reduceAdd,Nat.reduceEqDiff,Nat.reduceLT,Nat.reduceLeDiff,Nat.reduceMul,reduceCtorEq,↓reduceIte,r0,r3,r4,r5,cell_of h3,Value.cells]);refine og (fun ρ w'=>∃S' O' t8 wE vL fL tF,XS w w' S S' A C t8 fp wE O' e w.heap.size w1.heap.size b5 iZ (dj C e.types t1).1 v5 vA vB vL/\Gr S' 0 w' BE 11 vB (fun w B r b=>eh w B r b) (fy e.binds ts vs) fB/\(∀b,fB=some b->O' b/\b5<b)/\Gr S' 0 w' NS 7 vA (fun w B r x=>ci w B r x) xs fA/\(∀b,fA=some b->O' b/\b5<b)/\Gr S' 0 w' Uf 11 vL (fun w B r x=>jc w B r x) tF fL/\(∀b,fL=some b->O' b/\b5<b)/\tF.length=e.alts.length/\gL C e.alts t7=(tF,t8)/\ρ.get 4=some (ptr w1.heap.size)/\ρ.get 5=some (ptr b5)) ?_ ?_
 .refine j7 (PP:=fun w'=>jc w' (Out S w)) (l:=e.alts) (B:=Out S w) (fun k ρ w'=>k≤e.alts.length∧∃ S' O' t8 wE vL fL tF,XS w w' S S' A C t8 fp wE O' e w.heap.size w1.heap.size b5 iZ (dj C e.types t1).1 v5 vA vB vL∧Gr S' 0 w' BE 11 vB (fun w B r b=>eh w B r b) (fy e.binds ts vs) fB∧(∀ b,fB=some b→O' b∧b5 < b)∧Gr S' 0 w' NS 7 vA (fun w B r x=>ci w B r x) xs fA∧(∀ b,fA=some b→O' b∧b5 < b)∧Gr S' 0 w' Uf 11 vL (fun w B r x=>jc w B r x) tF fL∧(∀ b,fL=some b→O' b∧b5 < b)∧(∀ b,fL=some b→fB≠some b∧fA≠some b)∧tF.length=k∧gL C e.alts t7=(tF++(gL C (e.alts.drop k) t8).1,(gL C (e.alts.drop k) t8).2)∧t8.bR.length≤t.bR.length+gn e.binds+iB e.args+iC (e.alts.take k)∧ρ=[(0,ptr A.tb),(4,ptr w1.heap.size),(5,ptr b5),(103,.slice la e.alts.length lc),(104,I e.alts.length),(105,I k)])
   ⟨by omega,S7,O7,t7,wP,_,none,[],Q7,Ji,Ae,Jj,BF,wv,(fun _ h=>by cases h),(fun _ h=>by cases h),rfl,by simp,by omega,by(try simp only[go_sem,Nat.reduceAdd,Nat.reduceEqDiff,Nat.reduceLT,Nat.reduceLeDiff,Nat.reduceMul,reduceCtorEq,↓reduceIte]);rfl⟩ xL ?_ (fun _ _ _ h=>h.one) rfl ?_ ?_
  .rintro k _ w8 ⟨hk,S8,O8,t8,wE,vL,fL,tF,Q8,_,_,_,_,_,_,_,_,_,_,rfl⟩;exact⟨⟨xL.mod Q8.x.go.mod mr (fun _ _ x=>x.mod Q8.x.go.mod mr),hk⟩,rfl,rfl,rfl⟩
  .rintro k _ w8 hk w9 r js pv ⟨_,S8,O8,t8,wE,vL,fL,tF,Q8,FX,Jl,FY,Jm,DH,Jn,bJ,mR,cK,gR,rfl⟩ hr HR je aQ ER;rw[al9 _ hk]at cK;have hcg:=acg hk;obtain⟨vv,ec,rfl,mK,jl⟩:=hr;have YK:ec.length=7:=jl.len;have DI:=bP je
   have up9:∀b,Out S w b->Out (fun b=>S8 b\/b=js) w9 b:=fun b hb=>⟨by have:=hb.1;have:=Q8.x.go.mod.size;have:=aQ.size;omega,fun hh=>by
    rcases hh with hh |hh
    ·exact hb.2 (Q8.x.go.hs b hb.1 hh)
    ·have:=hb.1;have:=Q8.x.go.mod.size;omega⟩
   have Q9:=Q8.step (N:=(· = js)) aQ (fun _ h=>h.elim) (fun b hb=>by rw[hb];exact⟨ER,DI⟩);have own:∀{α:Type} {T sz:Nat} {v:Value} {Pr:Rp α} {l:List α} {fl:Option Nat},iN sz Pr->Gr S8 0 w8 T sz v Pr l fl->Gr (fun b=>S8 b\/b=js) 0 w9 T sz v Pr l fl:=fun hE h=>Q8.x.gro hE h aQ (fun _ h=>h.elim) (fun _ _ h=>h) (fun b hb=>by rw[hb];exact ER)
   have NX:=own ie FX;have NY:=own pA FY;have acp:=own wu DH;obtain⟨S9,O9,BH,FZ⟩:∃S9 O9:Nat->Prop,S9=(fun b=>S8 b\/b=js)/\O9=(fun b=>O8 b\/b=js):=⟨_,_,rfl,rfl⟩;rw[<- BH]at Q9 NX NY acp up9;rw[<- FZ]at Q9;have Jo:O9 js:=by rw[FZ];exact .inr rfl
   have Us:S9 js:=by rw[BH];exact .inr rfl
   have Ut:∀{fl:Option Nat},(∀b,fl=some b->O8 b/\b5<b)->∀b,fl=some b->O9 b/\b5<b/\b≠js:=fun h b hb=>⟨by rw[FZ];exact .inl (h b hb).1,(h b hb).2,fun hh=>by have:=(Q8.x.own b (h b hb).1).2.1;omega⟩
   have DJ:=Ut Jl;have DK:=Ut Jm;have DL:=Ut Jn;have lt5:b5<js:=by have:=bP Q8.h5;omega
   (try simp only[go_sem,Nat.reduceAdd,Nat.reduceEqDiff,Nat.reduceLT,Nat.reduceLeDiff,Nat.reduceMul,reduceCtorEq,↓reduceIte,cell_of je,Value.cells]);refine aL (by rfl) ?_;refine(acb (S:=S9) (mK.up aQ aA up9 (fun _ _ h=>h))).mono ?_;rintro v10 cD ⟨fV,hgV,hfV,bD⟩;have uR:=Q9.no bD;have amm:=bD.at je Ψ;have Uu:aX cD v10 1 (Out S9 cD) ft e.alts[k].vars:=hgV.fin Se (fun b hb=>.inl hb) (fun b hb hh=>by have:=(hfV b hb).1;have:=Q9.x.tr.lt b hh;omega) (by obtain⟨_,h,h',_⟩:=mK;have:=h.2;omega);have ark:=j6 Uu;obtain⟨aV,cV,rfl⟩:=bq Uu;(try simp only[go_sem,Nat.reduceAdd,Nat.reduceEqDiff,Nat.reduceLT,Nat.reduceLeDiff,Nat.reduceMul,reduceCtorEq,↓reduceIte]);refine eK (b:=js) (off:=3) rfl rfl amm rfl (by simp) ?_;intro eE hZ cI um;have hZ:eE.heap[js]?=some (.cells (I e.alts[k].kind :: .string e.alts[k].bE::I e.alts[k].num :: .slice aV e.alts[k].vars.length cV::ec).toArray Uf (0,0)):=hZ;have w1r:∀b,b=js->O9 b/\b5<b:=fun b hb=>by rw[hb];exact⟨Jo,lt5⟩
   have rE:=uR.wr cI w1r;have gw:∀{α:Type} {T sz:Nat} {v:Value} {Pr:Rp α} {l:List α} {fl:Option Nat},iN sz Pr->Gr S9 0 cD T sz v Pr l fl->(∀b,fl=some b->O9 b/\b5<b/\b≠js)->Gr S9 0 eE T sz v Pr l fl:=fun hE h hf=>h.ext hE cI (fun b hb=>by rw[hb];exact Us) (fun b hb hh=>(hf b hb).2.2 hh) (fun _ _ h=>.inl h)
   have Uo:=gw ie (NX.no ie bD) DJ;have amn:=gw pA (NY.no pA bD) DK;have amo:=gw wu (acp.no wu bD) DL;have pu:∀b,Out S9 cD b->¬b=js:=fun b hb hh=>hb.2 (by rw[hh];exact Us)
   have p12:∀b,Out S9 cD b->Out S9 eE b:=fun b hb=>⟨Nat.lt_of_lt_of_le hb.1 cI.size,hb.2⟩
   have amp:=Uu.up cI pu p12 (fun _ _ h=>h);have amq:Mod (· = js) w8 eE:=(aq (aQ.trans bD)).trans cI;have amr:=DF rE.x.go;have iW:=jl.up amq (fun b hb hh=>by have:=hb.1;have:=Q8.x.go.mod.size;omega) amr;have cR:f' eE 7 (.pointer (some ⟨js,4,none⟩))=some (.agg ec.toArray):=by
    rw[jm hZ (by simp;omega)];simp only[List.drop_succ_cons,List.drop_zero];rw[List.take_of_length_le (by omega)]
   (try simp only[go_sem,Nat.reduceAdd,Nat.reduceEqDiff,Nat.reduceLT,Nat.reduceLeDiff,Nat.reduceMul,reduceCtorEq,↓reduceIte,cR]);refine aL (by rfl) ?_;refine(gT _ (List.getElem_mem hk) rE.x.tr iW (zT _ (List.getElem_mem hk)) (by omega)).mono ?_;rintro _ dQ ⟨Af,TU,A4,rfl,DM,tC,Ag⟩;have Up:=rE.call tC Ag;have Ur:=rE.x.gr ie Uo (fun b hb=>(DJ b hb).1) Ag;have ams:=rE.x.gr pA amn (fun b hb=>(DK b hb).1) Ag;have amt:=rE.x.gr wu amo (fun b hb=>(DL b hb).1) Ag;have je:=Ag.mod.at hZ (rE.x.own _ Jo).2.2.1;have acq:=Ag.up _ Us;have V12:aX dQ (.slice aV e.alts[k].vars.length cV) 1 (Out Af dQ) ft e.alts[k].vars:=amp.up Ag.mod (fun b hb hh=>hb.2 (rE.x.tr.aT b hh)) (fun b hb=>⟨Nat.lt_of_lt_of_le hb.1 Ag.mod.size,fun hh=>hb.2 (Ag.hs b hb.1 hh)⟩) (fun _ _ h=>h);have Jp:=DM.len;(try simp only[go_sem,Nat.reduceAdd,Nat.reduceEqDiff,Nat.reduceLT,Nat.reduceLeDiff,Nat.reduceMul,reduceCtorEq,↓reduceIte]);refine KB (vs:=A4) rfl rfl je Jp (by simp;omega) DM.one ?_;intro iP si gH De;have Uv:sp (I e.alts[k].kind :: .string e.alts[k].bE::I e.alts[k].num :: .slice aV e.alts[k].vars.length cV::ec).toArray 4 A4=(I e.alts[k].kind :: .string e.alts[k].bE::I e.alts[k].num :: .slice aV e.alts[k].vars.length cV::A4).toArray:=by
    unfold sp
    congr 1
    simp only[List.take_succ_cons,List.take_zero,Jp];rw[List.drop_of_length_le (by simp;omega),List.append_nil];rfl
   rw[Uv]at si;have Q13:=Up.wr gH w1r;have Uw:∀{α:Type} {T sz:Nat} {v:Value} {Pr:Rp α} {l:List α} {fl:Option Nat},iN sz Pr->Gr Af 0 dQ T sz v Pr l fl->(∀b,fl=some b->O9 b/\b5<b/\b≠js)->Gr Af 0 iP T sz v Pr l fl:=fun hE h hf=>h.ext hE gH (fun b hb=>by rw[hb];exact acq) (fun b hb hh=>(hf b hb).2.2 hh) (fun _ _ h=>.inl h)
   have q13:∀b,Out Af dQ b->¬b=js:=fun b hb hh=>hb.2 (by rw[hh];exact acq)
   have p13:∀b,Out Af dQ b->Out Af iP b:=fun b hb=>⟨Nat.lt_of_lt_of_le hb.1 gH.size,hb.2⟩
   have V13:=V12.up gH q13 p13 (fun _ _ h=>h);have amu:=DM.up gH q13 p13;(try simp only[go_sem,Nat.reduceAdd,Nat.reduceEqDiff,Nat.reduceLT,Nat.reduceLeDiff,Nat.reduceMul,reduceCtorEq,↓reduceIte,cell_of Q13.h5,Value.cells,aE (n:=11) si (by simp[Jp])]);refine ez (cs:=(I e.alts[k].kind :: .string e.alts[k].bE::I e.alts[k].num :: .slice aV e.alts[k].vars.length cV::A4).toArray) rfl ?_ ?_
   ·(try simp only[go_sem,Nat.reduceAdd,Nat.reduceEqDiff,Nat.reduceLT,Nat.reduceLeDiff,Nat.reduceMul,reduceCtorEq,↓reduceIte]);exact FW (by simp[Jp]) rfl
   intro su gD gj aaX;have rd:=mD gD;rw[show(I e.alts[k].kind::Value.string e.alts[k].bE::I e.alts[k].num::Value.slice aV e.alts[k].vars.length cV::A4).length=11 by simp[Jp]]at rd;have Jq:=Q13.no gj;have amv:=(Uw ie Ur DJ).no ie gj;have amw:=(Uw pA ams DK).no pA gj;have amx:=(Uw wu amt DL).no wu gj
   have acr:∀b,Out Af iP b->Out (SF Af fL) su b:=fun b hb=>⟨Nat.lt_of_lt_of_le hb.1 gj.size,fun hh=>by
    rcases hh with hh |hh
    ·exact hb.2 hh
    ·exact hb.2 (Jq.x.own b (DL b hh).1).2.2.2⟩
   (try simp only[go_sem,Nat.reduceAdd,Nat.reduceEqDiff,Nat.reduceLT,Nat.reduceLeDiff,Nat.reduceMul,reduceCtorEq,↓reduceIte]);refine ww (a:=Al.mk e.alts[k].kind e.alts[k].bE e.alts[k].num e.alts[k].vars (dp C e.alts[k].body t8).1) wu rfl amx rfl (by simp) rd ⟨_,A4,rfl,V13.up gj aA acr (fun _ _ h=>h),amu.up gj aA acr⟩ rfl (by omega) (by omega) (by omega) ?_;intro HZ jA f15 F0 ki NZ;obtain⟨Jr,O15,N3,F0,acs,acv,acw⟩:=Jq.app wu (fun b hb=>⟨(DL b hb).1,(DL b hb).2.1⟩) F0 ki NZ;have acx:∀b,fL=some b->Af b:=fun b hb=>(Jq.x.own b (DL b hb).1).2.2.2
   have amy:=amv.ext ie ki (fun b hb=>acx b hb) (fun b hb hh=>(bJ b hh).1 hb) (S':=Jr) (fun b hb hh=>.inl (acw b hb hh));have amz:=amw.ext pA ki (fun b hb=>acx b hb) (fun b hb hh=>(bJ b hh).2 hb) (S':=Jr) (fun b hb hh=>.inl (acw b hb hh));obtain⟨a15,c15,rfl,_⟩:=F0.val;(try simp only[go_sem,Nat.reduceAdd,Nat.reduceEqDiff,Nat.reduceLT,Nat.reduceLeDiff,Nat.reduceMul,reduceCtorEq,↓reduceIte]);refine eK (b:=b5) (off:=6) rfl rfl N3.h5 rfl (by simp) ?_;intro pK jy rC NF;have Q16:=N3.set rC jy;have s5:=(N3.x.own _ N3.o5).2.2.2;have Ux:∀{α:Type} {T sz:Nat} {v:Value} {Pr:Rp α} {l:List α} {fl:Option Nat},iN sz Pr->Gr Jr 0 jA T sz v Pr l fl->(∀b,fl=some b->b5<b)->Gr Jr 0 pK T sz v Pr l fl:=fun hE h hf=>h.ext hE rC (fun b hb=>by rw[hb];exact s5) (fun b hb hh=>by have:=hf b hb;omega) (fun _ _ h=>.inl h)
   have jv:IntKind.i64.wrap ((k:Int)+1)=((k+1:Nat):Int):=by rw[dJ (by omega) (by omega)];omega
   (try simp only[go_sem,Nat.reduceAdd,Nat.reduceEqDiff,Nat.reduceLT,Nat.reduceLeDiff,Nat.reduceMul,reduceCtorEq,↓reduceIte]);refine⟨hk,Jr,O15,(dp C e.alts[k].body t8).2,TU,_,f15,tF++[Al.mk e.alts[k].kind e.alts[k].bE e.alts[k].num e.alts[k].vars (dp C e.alts[k].body t8).1],Q16,Ux ie amy (fun b hb=>(DJ b hb).2.1),fun b hb=>⟨acs b (DJ b hb).1,(DJ b hb).2.1⟩,Ux pA amz (fun b hb=>(DK b hb).2.1),fun b hb=>⟨acs b (DK b hb).1,(DK b hb).2.1⟩,Ux wu F0 (fun b hb=>(acv b hb).2),acv,fun b hb=>?_,by simp[mR],?_,?_⟩
   .rcases NZ b hb with h' |⟨h',_⟩
    .exact bJ b h'
    .exact⟨fun hh=>by have:=(Jq.x.own b (DJ b hh).1).2.1;omega,fun hh=>by have:=(Jq.x.own b (DK b hh).1).2.1;omega⟩
   .rw[cK,List.append_assoc];rfl
   .have:=NP C e.alts[k].body t8;have h9:=acj hk;omega
  .rintro _ w8 ⟨_,S8,O8,t8,wE,vL,fL,tF,Q8,FX,Jl,FY,Jm,DH,Jn,bJ,mR,cK,gR,rfl⟩;rw[List.drop_length,gL,List.append_nil]at cK;(try simp only[go_sem,Nat.reduceAdd,Nat.reduceEqDiff,Nat.reduceLT,Nat.reduceLeDiff,Nat.reduceMul,reduceCtorEq,↓reduceIte]);exact⟨S8,O8,t8,wE,vL,fL,tF,Q8,FX,Jl,FY,Jm,DH,Jn,mR,cK⟩
 rintro nM w8 ⟨S8,O8,t8,wE,vL,fL,tF,Q8,FX,Jl,FY,Jm,DH,Jn,oU,amA,r4,r5⟩;rw[amA];simp only;obtain⟨DN,N4⟩:∃DN:Nat->Prop,DN=fun b=>S8 b/\¬(fB=some b\/fA=some b\/fL=some b):=⟨_,rfl⟩
 have vI:∀b,DN b->S8 b:=fun b hb=>by rw[N4]at hb;exact hb.1
 have Uy:∀b,(fB=some b\/fA=some b\/fL=some b)->O8 b/\b5<b:=fun b hb=>by
  rcases hb with hb |hb |hb
  .exact Jl b hb
  .exact Jm b hb
  .exact Jn b hb
 have hbL:=Jf e.binds ts vs Jh jk;(try simp only[go_sem,Nat.reduceAdd,Nat.reduceEqDiff,Nat.reduceLT,Nat.reduceLeDiff,Nat.reduceMul,reduceCtorEq,↓reduceIte,r4,r5,aE (n:=7) Q8.h5 rfl]);have ob:∀{α:Type} {T sz:Nat} {v:Value} {Pr:Rp α} {l:List α} {fl:Option Nat},iN sz Pr->Gr S8 0 w8 T sz v Pr l fl->v.oneCell'=true:=fun _ h=>by obtain⟨a,c,rfl,_⟩:=h.val;rfl
 refine bN (vs:=[I e.kind,.string e.name,I e.num,v5,vA,vB,vL]) (cs:=jT) (by(try simp only[go_sem,Nat.reduceAdd,Nat.reduceEqDiff,Nat.reduceLT,Nat.reduceLeDiff,Nat.reduceMul,reduceCtorEq,↓reduceIte,r4])) rfl Q8.h4 rfl rfl (aP rfl (aP rfl (aP rfl (aP (j6 Q8.ty) (aP (ob pA FY) (aP (ob ie FX) (aP (ob wu DH) dq))))))) ?_;intro w9 di aQ gx;have s4:=(Q8.x.own _ Q8.o4).2.2.2;have X9:=Q8.x.wr aQ (fun b hb=>by rw[hb];exact Q8.o4);have gw:∀{α:Type} {T sz:Nat} {v:Value} {Pr:Rp α} {l:List α} {fl:Option Nat},iN sz Pr->Gr S8 0 w8 T sz v Pr l fl->(∀b,fl=some b->fB=some b\/fA=some b\/fL=some b)->l.length<=1099511627776->aX w9 v sz (Out DN w9) (Pr w9 (Out DN w9)) l:=fun hE h hf hl=>(h.ext hE aQ (fun b hb=>by rw[hb];exact s4) (fun b hb hh=>by have:=(Uy b (hf b hb)).2;have:=Q8.lt.2;omega) (S':=S8) (fun _ _ h=>.inl h)).fin hE (fun b hb=>.inl (vI b hb)) (fun b hb hh=>by rw[N4]at hh;exact hh.2 (hf b hb)) hl
 have nd:∀b,Out S8 w8 b->¬b=w1.heap.size:=fun b hb hh=>hb.2 (by rw[hh];exact s4)
 have up:∀b,Out S8 w8 b->Out DN w9 b:=fun b hb=>⟨Nat.lt_of_lt_of_le hb.1 aQ.size,fun hh=>hb.2 (vI b hh)⟩
 (try simp only[go_sem,Nat.reduceAdd,Nat.reduceEqDiff,Nat.reduceLT,Nat.reduceLeDiff,Nat.reduceMul,reduceCtorEq,↓reduceIte,aM,RV.ev,r4,aE (n:=7) di rfl,aN]);have im:=Ue e.alts;refine⟨DN,wE,_,rfl,?_,X9.tr.sub vI (fun b hb=>?_),⟨X9.go.mod,fun b hb hh=>X9.go.hs b hb (vI b hh),fun b hb=>?_,X9.go.fp⟩⟩
 .obtain⟨rt,rM,xg,uo⟩:=Q8.ty.up aQ nd up (fun _ _ x=>x.up aQ nd up);have hA:=gw pA FY (fun b hb=>.inr (.inl hb)) (by omega);have hB:=gw ie FX (fun b hb=>.inl hb) (by omega);have hL:=gw wu DH (fun b hb=>.inr (.inr hb)) (by omega);exact amb ⟨rt,rM,xg,uo⟩ hA hB hL (by obtain⟨a,c,rfl,h⟩:=DH.val;exact h) _ _ _
 .rw[N4];exact⟨X9.tr.aT b hb,fun hh=>(X9.own b (Uy b hh).1).2.2.1 hb⟩
 .rw[N4];exact⟨X9.go.up b hb,fun hh=>by have:=(X9.own b (Uy b hh).1).1;have:=h.lt b hb;omega⟩
end
end
section
open Go Go.W
structure MA where
 pm:Nat
 md:Nat
 ma:Nat
 mw:Nat
 ad:Option Addr
abbrev dfT:Nat:=59
theorem yo:iN 3 (fun w B r d=>gC w B r d):=⟨fun h=>by obtain⟨_,_,rfl,_⟩:=h;rfl,fun h=>h.one,fun h hm hd hB=>h.up hm hd hB⟩
def N5(ad:Option Addr)(w:World)(B:Nat->Prop)(v:Value)(i:iQ):Prop:=∃cs:List Value,v=.agg cs.toArray/\wL ad w B cs (some i)
def KS(A:MA)(fr fd:Option Nat)(b:Nat):Prop:=b=A.pm\/b=A.ma\/b=A.mw\/fr=some b\/fd=some b
def N6(w:World)(A:MA)(size:Int)(vr vd vf:Value):Prop:=w.heap[A.pm]?=some (.cells [.map (some A.md),vr,.map (some A.ma),.map (some A.mw),vd,vf,I size].toArray 69 (0,0))
structure fX (w:World) (S:Nat->Prop) (A:MA) (p:Pg) (D:List (ByteArray×Nat)) (m:Mk) (fr fd:Option Nat) (vr vd vf:Value):Prop where
 box:N6 w A m.size vr vd vf
 row:Gr S 0 w uM 3 vr (fun w B r i=>wL A.ad w B r (some i)) m.row fr
 xN:aX w vd 3 (Out S w) (gC w (Out S w)) p.aK
 BI:Gr S 0 w dfT 12 vf (fun w B r d=>jE w B r d) m.aj fd
 at_:bQ w A.ma RN m.at_
 waits:bQ w A.mw (N5 A.ad w (Out S w)) m.waits
 aj:bQ w A.md (Dr A.ad) D
 names:∃n c,aX w (.slice A.ad n c) 12 (Out S w) (jE w (Out S w)) p.aj
 aT:∀b,KS A fr fd b->S b
 out:¬S A.md
 lt:∀b,S b->b<w.heap.size
 qH:∀b,fr=some b->b≠A.pm/\b≠A.ma/\b≠A.mw/\fd≠some b
 wQ:∀b,fd=some b->b≠A.pm/\b≠A.ma/\b≠A.mw
 F1:A.ma≠A.mw
section
variable {w w':World} {S S' R:Nat->Prop} {A:MA} {p:Pg} {D:List (ByteArray×Nat)} {m:Mk} {fr fd:Option Nat} {vr vd vf:Value}
theorem fX.ext(h:fX w S A p D m fr fd vr vd vf)(hm:Mod R w w')(hR:∀b,R b->S b/\¬KS A fr fd b)(hs:∀b,b<w.heap.size->S' b->S b)(hu:∀b,S b->S' b)(hl:∀b,S' b->b<w'.heap.size):fX w' S' A p D m fr fd vr vd vf:=by
 obtain⟨n,c,hn⟩:=h.names;have up:∀b,Out S w b->Out S' w' b:=fun b hb=>⟨Nat.lt_of_lt_of_le hb.1 hm.size,fun hh=>hb.2 (hs b hb.1 hh)⟩
 have hd:∀b,Out S w b->¬R b:=fun b hb hh=>hb.2 (hR b hh).1
 have yj:A.md<w.heap.size:=by obtain⟨_,⟨_,_,h,_⟩,_⟩:=h.aj;exact bP h
 have k:∀{b},KS A fr fd b->¬R b:=fun hk hh=>(hR _ hh).2 hk
 exact⟨hm.at h.box (k (.inl rfl)),h.row.ext (yi _) hm (fun b hb=>(hR b hb).1) (fun b hb=>k (.inr (.inr (.inr (.inl hb))))) (fun b hb hh=>.inl (hs b hb hh)),h.xN.up hm hd up (fun _ _ x=>x.up hm hd up),h.BI.ext tn hm (fun b hb=>(hR b hb).1) (fun b hb=>k (.inr (.inr (.inr (.inr hb))))) (fun b hb hh=>.inl (hs b hb hh)),
  h.at_.mod hm (k (.inr (.inl rfl))) (fun _ _ x=>x),h.waits.mod hm (k (.inr (.inr (.inl rfl)))) (fun v i x=>by obtain⟨cs,e,x⟩:=x;exact⟨cs,e,(jS _).up x hm hd up⟩),h.aj.mod hm (fun hh=>h.out (hR _ hh).1) (fun _ _ x=>x),⟨n,c,hn.up hm hd up (fun _ _ x=>x.up hm hd up)⟩,fun b hb=>hu b (h.aT b hb),fun hh=>h.out (hs _ yj hh),hl,h.qH,h.wQ,h.F1⟩
theorem fX.no(h:fX w S A p D m fr fd vr vd vf)(hm:Mod (fun _=>False) w w'):fX w' S A p D m fr fd vr vd vf:=h.ext hm (fun _ h=>h.elim) (fun _ _ h=>h) (fun _ h=>h) (fun b hb=>Nat.lt_of_lt_of_le (h.lt b hb) hm.size)
theorem fX.set(h:fX w S A p D m fr fd vr vd vf){m':Mk}{gK qI:Option Nat}{kq rA:Value}(hm:Mod (KS A fr fd) w w')(hb:N6 w' A m'.size kq vd rA)(hr:Gr S' 0 w' uM 3 kq (fun w B r i=>wL A.ad w B r (some i)) m'.row gK)(hf:Gr S' 0 w' dfT 12 rA (fun w B r d=>jE w B r d) m'.aj qI)(ha:bQ w' A.ma RN m'.at_)(hw:bQ w' A.mw (N5 A.ad w' (Out S' w')) m'.waits)
   (hs:∀b,b<w.heap.size->S' b->S b) (hu:∀b,S b->S' b) (hl:∀b,S' b->b<w'.heap.size) (h1:∀b,gK=some b->S' b/\(fr=some b\/w.heap.size<=b)) (h2:∀b,qI=some b->S' b/\(fd=some b\/w.heap.size<=b)) (h3:∀b,gK=some b->qI≠some b):fX w' S' A p D m' gK qI kq vd rA:=by
 obtain⟨n,c,hn⟩:=h.names;have up:∀b,Out S w b->Out S' w' b:=fun b hb=>⟨Nat.lt_of_lt_of_le hb.1 hm.size,fun hh=>hb.2 (hs b hb.1 hh)⟩
 have hd:∀b,Out S w b->¬KS A fr fd b:=fun b hb hh=>hb.2 (h.aT b hh)
 have yj:A.md<w.heap.size:=by obtain⟨_,⟨_,_,h,_⟩,_⟩:=h.aj;exact bP h
 have lp:=bP h.box;have la:A.ma<w.heap.size:=h.lt _ (h.aT _ (.inr (.inl rfl)));have lw:A.mw<w.heap.size:=h.lt _ (h.aT _ (.inr (.inr (.inl rfl))));refine⟨hb,hr,h.xN.up hm hd up (fun _ _ x=>x.up hm hd up),hf,ha,hw,h.aj.mod hm (fun hh=>h.out (h.aT _ hh)) (fun _ _ x=>x),⟨n,c,hn.up hm hd up (fun _ _ x=>x.up hm hd up)⟩,fun b hb=>?_,fun hh=>h.out (hs _ yj hh),hl,fun b hb=>?_,fun b hb=>?_,h.F1⟩
 .rcases hb with hb |hb |hb |hb |hb
  .exact hu _ (h.aT _ (.inl hb))
  .exact hu _ (h.aT _ (.inr (.inl hb)))
  .exact hu _ (h.aT _ (.inr (.inr (.inl hb))))
  .exact(h1 b hb).1
  .exact(h2 b hb).1
 .rcases(h1 b hb).2 with hh |hh
  .obtain⟨a1,a2,a3,_⟩:=h.qH b hh;exact⟨a1,a2,a3,h3 b hb⟩
  .exact⟨by omega,by omega,by omega,h3 b hb⟩
 .rcases(h2 b hb).2 with hh |hh
  .exact h.wQ b hh
  .exact⟨by omega,by omega,by omega⟩
end
section
variable {w:World} {S:Nat->Prop} {A:MA} {p:Pg} {D:List (ByteArray×Nat)} {m:Mk} {fr fd:Option Nat} {vr vd vf:Value}
theorem fX.name(h:fX w S A p D m fr fd vr vd vf){a:Addr}{d:Nat}{df:Df}(ha:A.ad=some a)(hd:p.aj[d]?=some df):w.cell? (a.add (d*12))=some (.string df.name):=by
 obtain⟨n,c,hn⟩:=h.names;obtain⟨bg,rfl⟩:=List.getElem?_eq_some_iff.1 hd;obtain⟨ad,c',r,e,⟨_,_,_,rfl,_⟩,_,_,hc⟩:=dT hn bg;rw[ha]at e;cases e;have:=hc 0 (by simp)
 rwa[add_zero']at this
open Classical in
theorem acy{d:Nat}{df:Df}{a:Addr}{l:List Ty}{v:Value}(h:fX w S A p D m fr fd vr vd vf)(hd:p.aj[d]? = some df)(ph:df.name.size≤1048576)(lQ:A.ad=some a)(hl:aX w v 3 (Out S w) (aR w (Out S w)) l)(iH:l.length≤1048576)(gB:∀ n (j:Nat),aJ m.at_ n=some j→∃ r,m.row[j]? = some r)(pZ:m.row.length≤1000) :
   bu Tryz.prog 16 [ptr A.pm,.pointer (some (a.add (d*12))),v] w fun r w'=>Mod (KS A fr fd) w w'/\match qB p.aj m d l with
    |.error e=>r=I e
    |.ok m'=>r=I 0/\∃S' gK kq,fX w' S' A p D m' gK fd kq vd vf/\(∀b,b<w.heap.size->S' b->S b)/\(∀b,S b->S' b)/\∀b,gK=some b->fr=some b\/w.heap.size<=b:=by
 obtain⟨va,vc,rfl⟩:=bq hl;have gR:(p.aj[d]?.map Df.name).getD ⟨#[]⟩=df.name:=by rw[hd];rfl
 unfold qB;simp only[gR];refine γ Tryz.f16 ?_;refine σ ?_;refine δ (by rfl) (abx (h.name lQ hd) ph hl iH (fun b hb=>hb.1)) ?_;rintro _ w1 ⟨rfl,ak⟩;have h1:=h.no ak;have k1:Mod (KS A fr fd) w w1:=aq ak;obtain⟨nm,Dx⟩:∃nm,nm=(mo df.name l).1:=⟨_,rfl⟩;rw[<- Dx];refine σ ?_;cases mH:(mo df.name l).2 with
 |false=>
  refine σ ?_;exact k1
 |true=>
 rw[if_neg (by decide)];have up1:∀b,Out S w b->Out S w1 b:=fun b hb=>⟨Nat.lt_of_lt_of_le hb.1 ak.size,hb.2⟩
 have oh:=hl.up ak aA up1 (fun _ _ x=>x.up ak aA up1);simp only[go_sem,simprocAttr,cell_of h1.box,Value.cells];refine abC rfl rfl rfl rfl (Tryz.zeroValue3 _) h1.at_ ?_;cases hq:aJ m.at_ nm with
 |some i=>
  obtain⟨x,hx⟩:=gB nm i hq;obtain⟨hi,TT⟩:=List.getElem?_eq_some_iff.1 hx;obtain⟨bn,cn,rr,rfl,rfl,gi,Dy,eu,nT,_⟩:=h1.row.row (yi _) hi;rw[TT]at Dy;obtain⟨a',v',ea,rfl,nj,_⟩:=Dy;rw[lQ]at ea;cases ea;have b1:(0:Int)<=i/\(i:Int)<m.row.length:=by omega
  have c0:=nT 0 (by simp);have c1:=nT 1 (by simp);rw[Nat.add_zero]at c0;simp only[List.getElem_cons_zero,List.getElem_cons_succ]at c0 c1;simp only[go_sem,simprocAttr,bG,bH,Option.isSome_some,Option.getD_some,cell_of h1.box,Value.cells,b1,c0,c1];obtain⟨j,hj,bV⟩:∃j,Tryz.prog.info? 59=some j/\j.size≠0:=⟨_,rfl,by decide⟩;refine abB (n:=12) (a:=a) (i:=x.jR) (k:=d) (.inl rfl) (by omega) rfl rfl Tryz.underlying70 hj bV ?_;have same:IL (m.row[i]?.map some) d l↔x.jR=d/\x.types=l:=by
   rw[hx];constructor
   .rintro⟨y,h1,h2,h3⟩;cases h1;exact⟨h2,h3⟩
   .rintro⟨h1,h2⟩;exact⟨x,rfl,h1,h2⟩
  simp only[same];cases eU:decide (x.jR=d)with
  |false=>
   have bJ:=of_decide_eq_false eU;refine σ ?_;rw[if_neg (fun h=>bJ h.1)];exact⟨k1,rfl⟩
  |true=>
   have nY:=of_decide_eq_true eU;simp only[go_sem,simprocAttr,bG,bH,cell_of h1.box,Value.cells,b1,c0,c1];refine δ (by rfl) (K7 Si (fun u _=>aag u) nj oh) ?_;rintro _ w2 ⟨rfl,ai⟩;have k2:=k1.trans (aq ai);refine σ ?_;by_cases ht:x.types=l
   .rw[if_pos ⟨nY,ht⟩,decide_eq_true ht];refine σ ?_;exact⟨k2,S,some bn,_,h1.no ai,fun _ _ h=>h,fun _ h=>h,fun _ h=>.inl (Option.some.inj h)⟩
   .rw[if_neg (fun h=>ht h.2),decide_eq_false ht];refine σ ?_;exact k2
 |none=>
  obtain⟨ar,cr,rfl,_⟩:=h1.row.val;simp only[go_sem,simprocAttr,Option.isSome_none,cell_of h1.box,Value.cells];cases acz:((m.row.length:Int)==1000)with
  |true=>
   have Uz : m.row.length=1000 := by have : (m.row.length : Int)=1000 := (by simpa using acz);omega
   refine σ ?_;rw[if_pos Uz];exact⟨k1,rfl⟩
  |false=>
  have Uz : ¬m.row.length=1000 := by have : ¬(m.row.length : Int)=1000 := (by simpa using acz);omega
  rw[if_neg Uz];simp only[go_sem,simprocAttr,cell_of h1.box,Value.cells];refine lW (kt:=9) (et:=3) (b:=A.ma) (k:=nm) (v:=I m.row.length) (a:=m.row.length) rfl rfl rfl rfl rfl (h1.at_.mod (Mod.drew (.refl (fun _=>False) w1)) (fun h=>h) (fun _ _ h=>h)) rfl ?_;intro w2 amB zK bU;have ai:Mod (· = A.ma) w1 w2:=zK.dG;have bU:w2.heap.size=w1.heap.size:=bU;have z1:=ak.size;have Ny:A.pm<w.heap.size:=bP h.box;have lma:A.ma<w.heap.size:=h.lt _ (h.aT _ (.inr (.inl rfl)));have lmw:A.mw<w.heap.size:=h.lt _ (h.aT _ (.inr (.inr (.inl rfl))));have npa:A.pm≠A.ma:=fun e=>by
   obtain⟨_,⟨_,_,kG,_⟩,_⟩:=h1.at_;have e1:w1.heap[A.pm]?=_:=h1.box;rw[<- e,e1]at kG;cases kG
  have N7:A.pm≠A.mw:=fun e=>by
   obtain⟨_,⟨_,_,kG,_⟩,_⟩:=h1.waits;have e1:w1.heap[A.pm]?=_:=h1.box;rw[<- e,e1]at kG;cases kG
  have az:=ai.at h1.box npa;refine cX ?_;intro w3 aS aw dU;refine σ ?_;refine bN (vs:=[.pointer (some (a.add (d*12))),.slice va l.length vc,.string nm]) (cs:=[.pointer none,.slice none 0 0,.string bM]) rfl rfl aS rfl rfl (aP rfl (aP rfl (aP rfl dq))) ?_;intro w4 bm aD dL;have m24:Mod (fun _=>False) w2 w4:=aw.step aD (fun b hb hl=>by omega);have acA:=m24.at az Ψ;simp only[go_sem,simprocAttr,cell_of acA,Value.cells,aE (n:=3) bm rfl];refine ez (cs:=([.pointer (some (a.add (d*12))),.slice va l.length vc,.string nm]:List Value).toArray) rfl (by rfl) ?_;intro w5 bY H3 eY;have aH:Mod (fun _=>False) w4 w5:=H3.dG;have eY:w5.heap.size=w4.heap.size+1:=eY;have Bp:=m24.trans aH;have amC:=aH.at acA Ψ;have nS:∀b,Out S w1 b->¬b=A.ma:=fun b hb hh=>hb.2 (by rw[hh];exact h.aT _ (.inr (.inl rfl)))
  have m15:Mod (· = A.ma) w1 w5:=ai.trans (aq Bp);have z5:w1.heap.size+2<=w5.heap.size:=by omega
  have up5:∀b,Out S w1 b->Out (SF S fr) w5 b:=fun b hb=>⟨by have:=hb.1;omega,fun hh=>by
   rcases hh with hh |hh
   ·exact hb.2 hh
   ·exact hb.2 (h.aT _ (.inr (.inr (.inr (.inl hh)))))⟩
  have tV:aX w5 (.slice va l.length vc) 3 (Out (SF S fr) w5) (aR w5 (Out (SF S fr) w5)) l:=oh.up m15 nS up5 (fun _ _ x=>x.up m15 nS up5);have kg:=h1.row.ext (yi _) m15 (fun b hb=>by rw[hb];exact h.aT _ (.inr (.inl rfl))) (fun b hb hh=>(h.qH b hb).2.1 hh) (S':=S) (fun _ _ h=>.inl h);refine σ ?_;refine⟨aH.bO _ (by omega) Ψ,?_⟩;refine ww (a:=(⟨d,l,nm⟩:iQ)) (yi A.ad) rfl kg rfl (by simp) (mD bY) ⟨a,_,lQ,rfl,tV,by rw[Dx];exact TJ ph iH⟩ rfl (by omega) (by omega) (by omega) ?_;intro v6 w6 f6 jx aG qV;obtain⟨a6,c6,rfl,_⟩:=jx.val;have amD:=aG.at amC (fun hh=>(h.qH _ hh).1 rfl);have z6:=aG.size;have cH:=aG.at (aH.at bm Ψ) (fun hh=>by have:=h.lt _ (h.aT _ (.inr (.inr (.inr (.inl hh)))));omega);refine σ ?_;refine eK (b:=A.pm) (off:=1) rfl rfl amD rfl (by simp) ?_;intro w7 acB aO jn;have dh:=aO.at cH (by omega);obtain⟨S7,qJ⟩:∃S7:Nat->Prop,S7=fun b=>S b\/f6=some b:=⟨_,rfl⟩
  have F2:∀b,f6=some b->b<w6.heap.size/\(fr=some b\/w5.heap.size<=b):=fun b hb=>by
   rcases qV b hb with hh |⟨hh,wX⟩
   .exact⟨by have:=h.lt _ (h.aT _ (.inr (.inr (.inr (.inl hh)))));omega,.inl hh⟩
   .exact⟨wX,.inr (by omega)⟩
  have DO:∀b,b<w5.heap.size->S7 b->S b:=fun b hb hh=>by
   rw[qJ]at hh;rcases hh with hh |hh
   .exact hh
   .rcases(F2 b hh).2 with hh |hh
    .exact h.aT _ (.inr (.inr (.inr (.inl hh))))
    .omega
  have m17:Mod (KS A fr fd) w1 w7:=((m15.aU (fun b hb=>.inr (.inl hb))).trans (aG.aU (fun b hb=>.inr (.inr (.inr (.inl hb)))))).trans (aO.aU (fun b hb=>.inl hb));have UA:∀b,Out S w1 b->Out S7 w7 b:=fun b hb=>⟨by have:=hb.1;omega,fun hh=>hb.2 (DO b (by have:=hb.1;omega) hh)⟩
  have UB:∀b,Out S w1 b->¬KS A fr fd b:=fun b hb hh=>hb.2 (h.aT _ hh)
  have kU:=oh.up m17 UB UA (fun _ _ x=>x.up m17 UB UA)
  have SS:bQ w7 A.mw (N5 A.ad w7 (Out S7 w7)) m.waits:=h1.waits.mod ((m15.aU (fun b hb=>.inl hb)).trans ((aG.aU (fun b hb=>.inr (.inl hb))).trans (aO.aU (fun b hb=>.inr (.inr hb)))):Mod (fun b=>b=A.ma\/fr=some b\/b=A.pm) w1 w7) (fun hh=>by
   rcases hh with hh |hh |hh
   ·exact h.F1 hh.symm
   ·exact(h.qH _ hh).2.2.1 rfl
   ·exact N7 hh.symm) (fun v i x=>by obtain⟨cs,e,x⟩:=x;exact⟨cs,e,(jS _).up x m17 UB UA⟩)
  simp only[go_sem,simprocAttr,cell_of acB,Value.cells,aE (n:=3) dh rfl];refine lW (kt:=9) (et:=uM) (b:=A.mw) (k:=nm) (v:=.agg ([.pointer (some (a.add (d*12))),.slice va l.length vc,.string nm]:List Value).toArray) (a:=(⟨d,l,nm⟩:iQ)) rfl rfl rfl rfl rfl (SS.mod (Mod.drew (.refl (fun _=>False) w7)) (fun h=>h) (fun _ _ h=>h)) ⟨_,rfl,a,_,lQ,rfl,kU,by rw[Dx];exact TJ ph iH⟩ ?_;intro w8 Na nH kD;have aZ:Mod (· = A.mw) w7 w8:=nH.dG;have kD:w8.heap.size=w7.heap.size:=kD;have m18:Mod (KS A fr fd) w1 w8:=m17.trans (aZ.aU (fun b hb=>.inr (.inr (.inl hb))));have nw8:∀b,Out S7 w7 b->¬b=A.mw:=fun b hb hh=>hb.2 (by rw[hh,qJ];exact .inl (h.aT _ (.inr (.inr (.inl rfl)))))
  have s7:∀b,Out S7 w7 b->Out S7 w8 b:=fun b hb=>⟨by have:=hb.1;omega,hb.2⟩
  have acC:∀b,f6=some b->¬b=A.mw/\¬b=A.pm:=fun b hb=>by
   rcases(F2 b hb).2 with hh |hh
   .exact⟨(h.qH b hh).2.2.1,(h.qH b hh).1⟩
   .exact⟨by omega,by omega⟩
  refine σ ?_;refine⟨k1.trans m18,S7,f6,_,h1.set (m':={ m with row:=m.row++[⟨d,l,nm⟩],at_:=bS m.at_ nm m.row.length,waits:=bS m.waits nm ⟨d,l,nm⟩}) (S':=S7) m18 (aZ.at acB N7) ?_ ?_ ?_ (Na.mod (.refl (fun _=>False) w8) (fun h=>h) (fun v i x=>by obtain⟨cs,e,x⟩:=x;exact⟨cs,e,(jS _).up x aZ nw8 s7⟩)) (fun b hb=>DO b (by omega)) (fun b hb=>by rw[qJ];exact .inl hb) (fun b hb=>?_) (fun b hb=>⟨by rw[qJ];exact .inr hb,?_⟩) (fun b hb=>⟨by rw[qJ];exact .inl (h.aT _ (.inr (.inr (.inr (.inr hb))))),.inl hb⟩) (fun b hb hh=>?_),fun b hb=>DO b (by omega),fun b hb=>by rw[qJ];exact .inl hb,fun b hb=>?_⟩
  .have e1:=jx.ext (yi _) aO (fun b hb=>by rw [hb];exact h.aT _ (.inl rfl)) (fun b hb=>(acC b hb).2) (S':=S7) (fun b hb hh=>by
    rw[qJ]at hh
    exact hh)
   exact e1.ext (yi _) aZ (fun b hb=>by rw[hb,qJ];exact .inl (h.aT _ (.inr (.inr (.inl rfl))))) (fun b hb=>(acC b hb).1) (S':=S7) (fun _ _ h=>.inl h)
  .refine h1.BI.ext tn ((m15.aU (fun b hb=>.inl hb)).trans ((aG.aU (fun b hb=>.inr (.inl hb))).trans ((aO.aU (fun b hb=>.inr (.inr (.inl hb)))).trans (aZ.aU (fun b hb=>.inr (.inr (.inr hb)))))):Mod (fun b=>b=A.ma\/fr=some b\/b=A.pm\/b=A.mw) w1 w8) (fun b hb=>?_) (fun b hb hh=>?_) (S':=S7) (fun b hb hh=>.inl (DO b (by omega) hh))
   .rcases hb with hb |hb |hb |hb
    .rw[hb];exact h.aT _ (.inr (.inl rfl))
    .exact h.aT _ (.inr (.inr (.inr (.inl hb))))
    .rw[hb];exact h.aT _ (.inl rfl)
    .rw[hb];exact h.aT _ (.inr (.inr (.inl rfl)))
   .rcases hh with hh |hh |hh |hh
    .exact(h.wQ b hb).2.1 hh
    .exact(h.qH b hh).2.2.2 hb
    .exact(h.wQ b hb).1 hh
    .exact(h.wQ b hb).2.2 hh
  .exact amB.mod ((aq Bp).trans ((aG.aU (fun b hb=>.inl hb)).trans ((aO.aU (fun b hb=>.inr (.inl hb))).trans (aZ.aU (fun b hb=>.inr (.inr hb))))):Mod (fun b=>fr=some b∨b=A.pm∨b=A.mw) w2 w8) (fun hh=>by
    rcases hh with hh |hh |hh
    ·exact(h.qH _ hh).2.1 rfl
    ·exact npa hh.symm
    ·exact h.F1 hh) (fun _ _ h=>h)
  .rw[qJ]at hb;rcases hb with hb |hb
   .have:=h.lt b hb;omega
   .have:=(F2 b hb).1;omega
  .rcases(F2 b hb).2 with hh |hh
   .exact .inl hh
   .exact .inr (by omega)
  .rcases(F2 b hb).2 with hb |hb
   .exact(h.qH b hb).2.2.2 hh
   .have:=h.lt _ (h.aT _ (.inr (.inr (.inr (.inr hh)))));omega
  .rcases(F2 b hb).2 with hh |hh
   .exact .inl hh
   .exact .inr (by omega)
end
end
section
open Go Go.W
abbrev F3:Nat:=45
abbrev UC:Nat:=49
theorem Ah:iN 2 (fun w B r k=>fj w B r k):=⟨fun h=>by obtain⟨_,rfl,_⟩:=h;rfl,fun h=>h.one,fun h hm hd hB=>h.up hm hd hB⟩
def F4(w:World)(B:Nat->Prop)(r:List Value)(x:Dt×Option Value):Prop:=match x.2 with
 |none=>gC w B r x.1
 |some vC=>∃vp,r=[.string x.1.name,vp,vC]/\aX w vp 1 B ft x.1.params/\vC.oneCell'=true
theorem DP:iN 3 (fun w B r x=>F4 w B r x):=by
 refine⟨fun{_ _ _ a} h=>?_,fun{_ _ _ a} h=>?_,fun{_ _ _ _ _ _ a} h hm hd hB=>?_⟩<;>obtain⟨d,_ |v⟩:=a
 .exact yo.len h
 .obtain⟨_,rfl,_⟩:=h;rfl
 .exact yo.one h
 .obtain⟨_,rfl,h,h1⟩:=h;exact aP rfl (aP (j6 h) (aP h1 dq))
 .exact yo.up h hm hd hB
 .obtain⟨vp,rfl,h,h1⟩:=h;exact⟨vp,rfl,h.up hm hd hB (fun _ _ x=>x),h1⟩
abbrev N8(l:List Dt):List (Dt×Option Value):=l.map (fun d=>(d,none))
section
variable {S S' R:Nat->Prop} {w w':World} {v:Value} {l:List Dt} {fp:Option Nat}
theorem amE(h:aX w v 3 (Out S w) (gC w (Out S w)) l)(hS:∀ b,S b→b < w.heap.size) :
   bu Tryz.prog 14 [v] w fun r w'=>aX w' r 3 (Out S w') (gC w' (Out S w')) l/\Mod (fun _=>False) w w':=by
 have hlen:=dI h;have amF:l.length<=1099511627776:=by obtain⟨_,h1,h2,_⟩:=h;have:=h1.2;omega
 refine γ Tryz.f14 ?_;(try simp only[go_sem,simprocAttr]);refine aL (by rfl) ?_;refine(NQ (S:=S) ajR yo (by decide) rfl rfl rfl (by decide) h).mono ?_;rintro v1 w1 ⟨fp,hg,hf,ak⟩;obtain⟨a1,c1,rfl,_⟩:=hg.val;(try simp only[go_sem,simprocAttr]);refine eW l.length (fun k ρ w'=>k<=l.length/\Gr S 0 w' F3 3 (.slice a1 l.length c1) (fun w B r d=>gC w B r d) l fp/\Mod (fun _=>False) w w'/\w1.heap.size<=w'.heap.size/\ρ=[(0,.slice a1 l.length c1),(10,I l.length),(11,I k)]) ⟨by omega,hg,ak,Nat.le_refl _,rfl⟩ hlen ?_ ?_ (by decide) ?_
 .rintro k _ w2 ⟨hk,_,_,_,rfl⟩;exact⟨rfl,rfl,hk⟩
 .rintro k _ w2 ⟨_,iF,ai,y9,rfl⟩ hk;obtain⟨b,c,r,e,Js,gi,fO,eu,nT,_⟩:=iF.row yo hk;cases e;obtain⟨vp,vc,rfl,fJ,bT⟩:=fO;have b1:(0:Int)<=k/\(k:Int)<l.length:=by omega
  have q1:=nT 1 (by simp);simp only[List.getElem_cons_succ,List.getElem_cons_zero]at q1;have hbS:¬S b:=fun hh=>by have:=(hf b Js).1;have:=hS b hh;omega
  have hbw:w.heap.size<=b/\b<w1.heap.size:=hf b Js;(try simp only[go_sem,simprocAttr,bG,bH,b1,q1]);refine aL (by rfl) ?_;refine(acb (S:=SF S fp) fJ).mono ?_;rintro vp3 w3 ⟨fP,hgP,hfP,aw⟩;have sq:=iF.ext yo aw (fun _ h=>h.elim) (fun _ _ h=>h) (S':=S) (fun _ _ h=>.inl h)
  have sh:aX w3 vp3 1 (Out (SF S fp) w3) ft l[k].params:=hgP.fin Se (fun b hb=>.inl hb) (fun x hx hh=>by
   have h1:=hfP x hx;rcases hh with hh |hh
   ·have:=hS x hh;omega
   ·have:=hf x hh;omega) (by obtain⟨_,h1,h2,_⟩:=fJ;have:=h1.2;omega)
  have z3:=aw.size;have op3:=j6 sh;obtain⟨ap,cp,rfl⟩:=bq sh;(try simp only[go_sem,simprocAttr,bG,bH,b1]);refine Fq (u:=.slice ap l[k].params.length cp) (vs:=[.slice ap l[k].params.length cp]) (off:=1) (i:=k) (a:=l[k]) yo sq hk Js rfl rfl rfl rfl (by omega) (fun r hr hp=>?_) ?_
  .obtain⟨Jt,vc',rfl,_,h2⟩:=hp;exact⟨_,vc',rfl,sh,h2⟩
  intro w4 xW aD dL;rw[List.set_getElem_self]at xW;have eX:Mod (fun _=>False) w w4:=(ai.trans aw).step aD (fun x hx hl=>by omega);obtain⟨b',c',r,e,amG,gi,fO,eu,nT,_⟩:=xW.row yo hk;cases e;obtain⟨vp4,vc4,rfl,arl,H7⟩:=fO;have q2:=nT 2 (by simp);simp only[List.getElem_cons_succ,List.getElem_cons_zero]at q2;(try simp only[go_sem,simprocAttr,bG,bH,b1,q2]);refine aL (by rfl) ?_;refine(NQ (S:=SF S fp) ajT Ah (by decide) rfl rfl rfl (by decide) H7).mono ?_;rintro vc5 w5 ⟨fC,hgC,DQ,aH⟩;have z5:=aH.size;have ncb:∀x,fC=some x->x≠b/\w1.heap.size<=x:=fun x hx=>by have:=DQ x hx;omega
  obtain⟨aC,cC,rfl,_⟩:=hgC.val;have kg:Gr (SF S fC) 0 w5 F3 3 (.slice (some ⟨b,0,none⟩) l.length c1) (fun w B r x=>F4 w B r x) (N8 l) fp:=by
   have:=xW.ext yo aH (fun _ h=>h.elim) (fun _ _ h=>h) (S':=SF S fC) (fun x hx hh=>by
    rcases hh with hh |hh
    ·exact .inl hh
    ·have:=DQ x hh;omega)
   obtain⟨⟨rows,g1,g2,g3⟩,g4⟩:=this
   exact⟨⟨rows,g1,by simp[g2],fun i r x p q=>by
    rw[List.getElem?_map]at q;obtain⟨d,hd,rfl⟩:=Δ.1 q
    exact g3 i r d p hd⟩,g4⟩
  have hkq:k<(N8 l).length:=by simpa using hk
  have hlC:l[k].cons.length<=1099511627776:=by obtain⟨_,h1,h2,_⟩:=H7;have:=h1.2;omega
  have amH:=dI H7;(try simp only[go_sem,simprocAttr,bG,bH,b1]);refine Fq (u:=.slice aC l[k].cons.length cC) (vs:=[.slice aC l[k].cons.length cC]) (off:=2) (i:=k) (a:=(l[k],some (.slice aC l[k].cons.length cC))) DP kg hkq Js rfl rfl rfl rfl (by omega) (fun r hr hp=>?_) ?_
  .rw[show(N8 l)[k]=(l[k],none) by simp]at hp;obtain⟨Jt,vc',rfl,h2,_⟩:=hp;exact⟨Jt,rfl,h2,rfl⟩
  intro w6 jx aG fw;obtain⟨L6,N9⟩:∃L6,L6=(N8 l).set k (l[k],some (.slice aC l[k].cons.length cC)):=⟨_,rfl⟩;have acD:L6.length=l.length:=by rw[N9];simp
  have acE:L6[k]?=some (l[k],some (.slice aC l[k].cons.length cC)):=by rw[N9,List.getElem?_set_self hkq]
  rw[<- N9]at jx;have amI:=hgC.ext Ah aG (fun x hx=>by rw[hx];exact .inr Js) (fun x hx hh=>(ncb x hx).1 hh) (S':=SF S fp) (fun _ _ h=>.inl h);have hH:Mod (fun _=>False) w w6:=(eX.trans aH).step aG (fun x hx hl=>by omega);have UD:∀{w':World} {Sx:Nat->Prop},Gr Sx 0 w' F3 3 (.slice (some ⟨b,0,none⟩) l.length c1) (fun w B r x=>F4 w B r x) L6 fp->w'.cell? ⟨b,k*3+2,none⟩=some (.slice aC l[k].cons.length cC):=fun hg=>by
   obtain⟨b',c',r,e,amG,gi,fO,_,nT,_⟩:=hg.row DP (i:=k) (by omega);rw[acD]at e;cases e;have e2:=Ξ (l:=L6) (i:=k) (by omega);rw[acE]at e2;rw[<- Option.some.inj e2]at fO;obtain⟨Jt,rfl,_⟩:=fO;exact nT 2 (by simp)
  have z6:w6.heap.size=w5.heap.size:=fw;(try simp only[go_sem,simprocAttr,UD jx]);refine eW l[k].cons.length (fun j ρ w'=>j<=l[k].cons.length/\Gr (SF S fC) 0 w' F3 3 (.slice (some ⟨b,0,none⟩) l.length c1) (fun w B r x=>F4 w B r x) L6 fp/\Gr (SF S fp) 0 w' UC 2 (.slice aC l[k].cons.length cC) (fun w B r x=>fj w B r x) l[k].cons fC/\Mod (fun _=>False) w w'/\w6.heap.size<=w'.heap.size/\ρ=[(0,.slice (some ⟨b,0,none⟩) l.length c1),(3,I k),(10,I l.length),(11,I k),(39,I l[k].cons.length),(40,I j)]) ⟨by omega,jx,amI,hH,Nat.le_refl _,rfl⟩ amH ?_ ?_ (by decide) ?_
  .rintro j _ w7 ⟨hj,_,_,_,_,rfl⟩;exact⟨rfl,rfl,hj⟩
  .rintro j _ w7 ⟨_,mJ,Oa,aO,Lf,rfl⟩ hj;obtain⟨bC,cC',r,e,UE,y6,fO,_,nT,_⟩:=Oa.row Ah hj;cases e;obtain⟨vf,rfl,iu,arm⟩:=fO;have q1:=nT 1 (by simp);simp only[List.getElem_cons_succ,List.getElem_cons_zero]at q1;have b2:(0:Int)<=j/\(j:Int)<l[k].cons.length:=by omega
   have hCb:=DQ bC UE;have amJ:=dI iu;have amK:l[k].cons[j].fields.length<=1099511627776:=by obtain⟨_,h1,h2,_⟩:=iu;have:=h1.2;omega
   (try simp only[go_sem,simprocAttr,bG,bH,b1,UD mJ,b2,q1]);refine aL (by rfl) ?_;refine(NQ (S:=SF (SF S fp) fC) age gV (by decide) rfl rfl rfl (by decide) iu).mono ?_;rintro vf8 w8 ⟨fF,hgF,Ju,aZ⟩;have z8:=aZ.size;obtain⟨aF,cF,rfl,_⟩:=hgF.val
   have oy:=mJ.ext DP aZ (fun _ h=>h.elim) (fun _ _ h=>h) (S':=SF (SF S fC) fF) (fun x hx hh=>by
    rcases hh with hh |hh
    ·exact .inl hh
    ·have:=Ju x hh;omega)
   have amL:=Oa.ext Ah aZ (fun _ h=>h.elim) (fun _ _ h=>h) (S':=SF (SF S fp) fF) (fun x hx hh=>by
    rcases hh with hh |hh
    ·exact .inl hh
    ·have:=Ju x hh;omega)
   (try simp only[go_sem,simprocAttr]);refine og (fun ρ w'=>Gr (SF (SF S fC) fF) 0 w' F3 3 (.slice (some ⟨b,0,none⟩) l.length c1) (fun w B r x=>F4 w B r x) L6 fp/\Gr (SF (SF S fp) fF) 0 w' UC 2 (.slice (some ⟨bC,0,none⟩) l[k].cons.length cC) (fun w B r x=>fj w B r x) l[k].cons fC/\Gr (SF (SF S fp) fC) 0 w' dH 3 (.slice aF l[k].cons[j].fields.length cF) (fun w B r x=>aR w B r x) l[k].cons[j].fields fF/\Mod (fun _=>False) w w'/\w8.heap.size<=w'.heap.size/\∃i d:Value,ρ=[(0,.slice (some ⟨b,0,none⟩) l.length c1),(3,I k),(4,I j),(5,.slice aF l[k].cons[j].fields.length cF),(10,I l.length),(11,I k),(39,I l[k].cons.length),(40,I j),(54,I l[k].cons[j].fields.length),(55,i),(56,d)]) ?_ ?_
   .refine eW l[k].cons[j].fields.length (fun i ρ w'=>i<=l[k].cons[j].fields.length/\Gr (SF (SF S fC) fF) 0 w' F3 3 (.slice (some ⟨b,0,none⟩) l.length c1) (fun w B r x=>F4 w B r x) L6 fp/\Gr (SF (SF S fp) fF) 0 w' UC 2 (.slice (some ⟨bC,0,none⟩) l[k].cons.length cC) (fun w B r x=>fj w B r x) l[k].cons fC/\Gr (SF (SF S fp) fC) 0 w' dH 3 (.slice aF l[k].cons[j].fields.length cF) (fun w B r x=>aR w B r x) l[k].cons[j].fields fF/\Mod (fun _=>False) w w'/\w8.heap.size<=w'.heap.size/\ρ=[(0,.slice (some ⟨b,0,none⟩) l.length c1),(3,I k),(4,I j),(5,.slice aF l[k].cons[j].fields.length cF),(10,I l.length),(11,I k),(39,I l[k].cons.length),(40,I j),(54,I l[k].cons[j].fields.length),(55,I i)]) ⟨by omega,oy,amL,hgF,aO.trans aZ,Nat.le_refl _,rfl⟩ amJ ?_ ?_ (by decide) ?_
    .rintro i _ w9 ⟨hi,_,_,_,_,_,rfl⟩;exact⟨rfl,rfl,hi⟩
    .rintro i _ w9 ⟨_,pJ,Jv,F5,aQ,Lg,rfl⟩ hi;obtain⟨bF,cF',r,e,Ob,gi,fO,eu,_,_⟩:=F5.row gV hi;cases e;have hFb:=Ju bF Ob;have eu:=eu 0 3 (by omega);rw[List.drop_zero,List.take_of_length_le (by omega),Nat.add_zero]at eu;have b3:(0:Int)<=i/\(i:Int)<l[k].cons[j].fields.length:=by omega
     (try simp only[go_sem,simprocAttr,bG,bH,b3,eu]);refine aL (by rfl) ?_
     refine(aah _ (S:=SF (SF (SF S fp) fC) fF) fO (fun x hx=>by
      rcases hx with((hx |hx) |hx) |hx
      ·have:=hS x hx;omega
      ·have:=hf x hx;omega
      ·have:=DQ x hx;omega
      ·have:=Ju x hx;omega)).mono ?_
     rintro _ cD ⟨⟨LZ,rfl,bL⟩,bD⟩;have z10:=bD.size;have tB:=pJ.ext DP bD (fun _ h=>h.elim) (fun _ _ h=>h) (S':=SF (SF S fC) fF) (fun _ _ h=>.inl h);have Oc:=Jv.ext Ah bD (fun _ h=>h.elim) (fun _ _ h=>h) (S':=SF (SF S fp) fF) (fun _ _ h=>.inl h);have amM:=F5.ext gV bD (fun _ h=>h.elim) (fun _ _ h=>h) (S':=SF (SF S fp) fC) (fun _ _ h=>.inl h);(try simp only[go_sem,simprocAttr,bG,bH,b3]);refine Fq (u:=.agg LZ.toArray) (vs:=LZ) (off:=0) (i:=i) (a:=l[k].cons[j].fields[i]) gV amM hi Ob rfl rfl rfl bL.len (by omega) (fun r hr _=>?_) ?_
     .rw[List.take_zero,List.nil_append,List.drop_of_length_le (by omega),List.append_nil];exact bL
     intro eE acF cI um;rw[List.set_getElem_self]at acF;have hi1:IntKind.i64.wrap ((i:Int)+1)=((i+1:Nat):Int):=by rw[dJ (by omega) (by omega)];omega
     (try simp only[go_sem,simprocAttr]);exact⟨hi,tB.ext DP cI (fun x hx=>by rw[hx];exact .inr Ob) (fun x hx hh=>by have:=hf x hx;omega) (fun _ _ h=>.inl h),Oc.ext Ah cI (fun x hx=>by rw[hx];exact .inr Ob) (fun x hx hh=>by have:=DQ x hx;omega) (fun _ _ h=>.inl h),acF,(aQ.trans bD).step cI (fun x hx hl=>by have:=aO.size;omega),by omega⟩
    .rintro _ w9 ⟨_,pJ,Jv,F5,aQ,Lg,rfl⟩;(try simp only[go_sem,simprocAttr]);exact⟨pJ,Jv,F5,aQ,Lg,_,_,rfl⟩
   rintro _ w9 ⟨pJ,Jv,F5,aQ,Lg,i0,d0,rfl⟩
   have hF9:aX w9 (.slice aF l[k].cons[j].fields.length cF) 3 (Out (SF (SF S fp) fC) w9) (aR w9 (Out (SF (SF S fp) fC) w9)) l[k].cons[j].fields:=F5.fin gV (fun _ h=>.inl h) (fun x hx hh=>by
    have:=Ju x hx;rcases hh with(hh |hh) |hh
    ·have:=hS x hh;omega
    ·have:=hf x hh;omega
    ·have:=DQ x hh;omega) amK
   have amN:=Jv.ext Ah (.refl (fun _=>False) w9) (fun _ h=>h.elim) (fun _ _ h=>h) (S':=SF S fp) (fun _ _ h=>.inl (.inl h));have amO:=pJ.ext DP (.refl (fun _=>False) w9) (fun _ h=>h.elim) (fun _ _ h=>h) (S':=SF S fC) (fun _ _ h=>.inl (.inl h));(try simp only[go_sem,simprocAttr,bG,bH,b1,UD pJ,b2]);refine Fq (u:=.slice aF l[k].cons[j].fields.length cF) (vs:=[.slice aF l[k].cons[j].fields.length cF]) (off:=1) (i:=j) (a:=l[k].cons[j]) Ah amN hj UE rfl rfl rfl rfl (by omega) (fun r hr hp=>?_) ?_
   .obtain⟨rA,rfl,_,h3⟩:=hp;exact⟨_,rfl,hF9,h3⟩
   intro cD Oc bD ou;rw[List.set_getElem_self]at Oc;have hj1:IntKind.i64.wrap ((j:Int)+1)=((j+1:Nat):Int):=by rw[dJ (by omega) (by omega)];omega
   have z7:=aO.size;(try simp only[go_sem,simprocAttr]);exact⟨hj,amO.ext DP bD (fun x hx=>by rw[hx];exact .inr UE) (fun x hx hh=>by have:=hf x hx;omega) (fun _ _ h=>.inl h),Oc,aQ.step bD (fun x hx hl=>by omega),by omega⟩
  .rintro _ w7 ⟨_,mJ,Oa,aO,Lf,rfl⟩
   have hC7:aX w7 (.slice aC l[k].cons.length cC) 2 (Out (SF S fp) w7) (fj w7 (Out (SF S fp) w7)) l[k].cons:=Oa.fin Ah (fun _ h=>.inl h) (fun x hx hh=>by
    have:=DQ x hx;rcases hh with hh |hh
    ·have:=hS x hh;omega
    ·have:=hf x hh;omega) hlC
   have jv:IntKind.i64.wrap ((k:Int)+1)=((k+1:Nat):Int):=by rw[dJ (by omega) (by omega)];omega
   (try simp only[go_sem,simprocAttr]);refine⟨hk,?_,aO,by omega⟩;obtain⟨⟨rows,g1,g2,g3⟩,g4⟩:=mJ;have m0:=Mod.refl (fun _=>False) w7
   have o1:∀x,Out (SF (SF S fC) fp) w7 x->Out (SF S fp) w7 x:=fun x hx=>⟨hx.1,fun hh=>hx.2 (by
    rcases hh with hh |hh
    ·exact .inl (.inl hh)
    ·exact .inr hh)⟩
   refine⟨⟨rows,g1,by rw[g2,acD],fun i r d p q=>?_⟩,g4⟩;by_cases hik:i=k
   .subst hik;obtain⟨Jt,rfl,h2,_⟩:=g3 i r _ p acE;rw[Ξ hk]at q;cases q;exact⟨Jt,_,rfl,h2.up m0 aA o1 (fun _ _ x=>x),hC7⟩
   .have h6:L6[i]?=some (d,none):=by rw[N9,List.getElem?_set_ne (Ne.symm hik),List.getElem?_map,q];rfl
    exact gC.up (g3 i r _ p h6) m0 aA o1
 .rintro _ w2 ⟨_,iF,ai,y9,rfl⟩;(try simp only[go_sem,simprocAttr]);exact⟨iF.fin yo (fun _ h=>.inl h) (fun b hb hh=>by have:=hf b hb;have:=hS b hh;omega) amF,ai⟩
end
end
section
open Go Go.W
abbrev nameAt(ds:List Df)(d:Nat):ByteArray:=(ds[d]?.map Df.name).getD ⟨#[]⟩
structure yp (ds:List Df) (m:Mk) (i:Nat):Prop where
 Jw:∀n (j:Nat),aJ m.at_ n=some j->∃r,m.row[j]?=some r/\r.name=n
 yq:∀(j:Nat) r,m.row[j]?=some r->aJ m.at_ r.name=some j
 ins:∀r∈m.row,T9 ds r
 len:m.row.length<=1000
 uq:Uq m.waits
 waits:∀(j:Nat) r,i<=j->m.row[j]?=some r->aJ m.waits r.name=some r
structure Laid (m m':Mk):Prop where
 row:∃k,m'.row=m.row++k
 aj:m'.aj=m.aj
 size:m'.size=m.size
theorem Laid.refl(m:Mk):Laid m m:=⟨⟨[],by simp⟩,rfl,rfl⟩
theorem Laid.trans{a b c:Mk}(h:Laid a b)(k:Laid b c):Laid a c:=by
 obtain⟨l,hl⟩:=h.row;obtain⟨j,hj⟩:=k.row;exact⟨⟨l++j,by rw[hj,hl,List.append_assoc]⟩,k.aj.trans h.aj,k.size.trans h.size⟩
theorem Laid.mem{m m':Mk}(h:Laid m m'){r:iQ}(hr:r∈m.row):r∈m'.row:=by
 obtain⟨k,hk⟩:=h.row;rw[hk];exact List.mem_append_left _ hr
theorem Od{ds:List Df}{m m':Mk}{d i:Nat}{l:List Ty}(h:qB ds m d l = .ok m')(hm:yp ds m i)(hi:i≤m.row.length)(hI:(∃ d0,ds[d]? = some d0∧l.length=d0.params.length)∧∀ u∈l,u.cN≤500) :
   Laid m m'/\yp ds m' i/\∃r∈m'.row,r.name=(mo (nameAt ds d) l).1/\r.jR=d:=by
 unfold qB at h;simp only at h
 split at h
 .cases h
 .split at h
  .rename_i j hj
   split at h
   .rename_i hs;cases h;obtain⟨r,h1,h2⟩:=hm.Jw _ _ hj;obtain⟨x,h3,rfl,_⟩:=hs;rw[h1]at h3;cases h3;exact⟨.refl m,hm,r,List.mem_of_getElem? h1,h2,rfl⟩
   .cases h
  .rename_i hn
   split at h
   .cases h
   .rename_i hl;cases h;have bJ:∀ (j:Nat) r,m.row[j]? = some r→r.name≠(mo (nameAt ds d) l).1:=fun j r hr e=>by
     have:=hm.yq j r hr;rw[e,hn]at this;cases this
    refine⟨⟨⟨_,rfl⟩,rfl,rfl⟩,⟨fun n j hj=>?_,fun j r hr=>?_,fun r hr=>?_,?_,Im hm.uq _ _,fun j r lO hr=>?_⟩,_,List.mem_append_right _ (List.mem_singleton.2 rfl),rfl,rfl⟩
    .simp only at hj ⊢;rw[jg]at hj
     split at hj
     .rename_i e;cases hj;exact⟨_,by simp;rfl,e⟩
     .obtain⟨r,h1,h2⟩:=hm.Jw n j hj;exact⟨r,by rw[List.getElem?_append_left (List.getElem?_eq_some_iff.1 h1).1];exact h1,h2⟩
    .simp only at hr ⊢;rw[jg];rcases Nat.lt_or_ge j m.row.length with bg |hge
     .rw[List.getElem?_append_left bg]at hr;rw[if_neg (fun e=>bJ j r hr e.symm)];exact hm.yq j r hr
     .rw [List.getElem?_append_right hge] at hr;have Jy:j - m.row.length=0:=by
       have:=(List.getElem?_eq_some_iff.1 hr).1
       simpa using this
      rw[Jy]at hr;cases hr;rw[if_pos rfl]
      congr 1;omega
    .rcases List.mem_append.1 hr with hr |hr
     .exact hm.ins r hr
     .rw[List.mem_singleton.1 hr];exact hI
    .have:=hm.len;simp only[List.length_append,List.length_singleton];omega
    .simp only at hr ⊢;rw[jg];rcases Nat.lt_or_ge j m.row.length with bg |hge
     .rw[List.getElem?_append_left bg]at hr;rw[if_neg (fun e=>bJ j r hr e.symm)];exact hm.waits j r lO hr
     .rw [List.getElem?_append_right hge] at hr;have Jy:j - m.row.length=0:=by
       have:=(List.getElem?_eq_some_iff.1 hr).1
       simpa using this
      rw[Jy]at hr;cases hr;rw[if_pos rfl]
theorem acG{ds:List Df}{i:Nat}:∀ (l:List (Option iQ)) {m m':Mk},layAll ds l m = .ok m'→yp ds m i→i≤m.row.length→(∀ x,some x∈l→x.name=(mo (nameAt ds x.jR) x.types).1∧T9 ds x) →
   Laid m m'/\yp ds m' i/\none∉l/\∀x,some x∈l->∃r∈m'.row,r.name=x.name/\r.jR=x.jR
 |[],m,m',h,hm,_,_=>by cases h;exact⟨.refl m,hm,by simp,fun x hx=>by cases hx⟩
 |none::l,m,m',h,_,_,_=>by cases h
 |some x::l,m,m',h,hm,hi,hx=>by
  rw[layAll]at h
  split at h
  .cases h
  .split at h
   .cases h
   .rename_i m1 h1;obtain⟨e1,e2⟩:=hx x (by simp);obtain⟨a1,a2,r,a3,a4,a5⟩:=Od h1 hm hi e2;obtain⟨k,hk⟩:=a1.row;obtain⟨b1,b2,b3,b4⟩:=acG l h a2 (by rw[hk,List.length_append];omega) (fun y hy=>hx y (by simp[hy]));refine⟨a1.trans b1,b2,by simp[b3],fun y hy=>?_⟩;rcases List.mem_cons.1 hy with e |hy
    .cases e;exact⟨r,b1.mem a3,a4.trans e1.symm,a5⟩
    .exact b4 y hy
def Gi(D:List (ByteArray×Nat))(row:List iQ)(n n':ByteArray):Prop:=∃r∈row,r.name=n'/\aJ D n=some r.jR
def Made(p:Pg)(D:List (ByteArray×Nat))(row:List iQ)(r:iQ)(d:Df):Prop:=
 d.name=r.name/\d.params=[]/\∃d0,p.aj[r.jR]?=some d0/\TE (Gi D row) d0.body d.body/\(d0.params=[]->d.type=d0.type)
structure yr (p:Pg) (D:List (ByteArray×Nat)):Prop where
 Oe:∀d∈p.aj,qF p.aj D d.body
 de:∀d∈p.aj,d.body.de<=1000000000/\d.type.cN<=1000000000
structure LI (p:Pg) (D:List (ByteArray×Nat)) (m:Mk) (i:Nat):Prop where
 row:yp p.aj m i
 len:m.aj.length=i
 le:i<=m.row.length
 size:0<=m.size/\m.size<=100000
 made:∀(j:Nat) r d,m.row[j]?=some r->m.aj[j]?=some d->Made p D m.row r d
theorem UF:∀(ps:List ByteArray) (ts:List Ty) (m:List (ByteArray×Ty)),sC m->(∀u∈ts,u.cN<=500)->sC (pH ps ts m)
 |[],ts,m,h,_=>by cases ts<;>exact h
 |s::l,[],m,h,_=>h
 |s::l,t::ts,m,h,ht=>by
  rw[pH];refine UF l ts _ (fun n u hu=>?_) (fun u hu=>ht u (by simp[hu]));rw[jg]at hu
  split at hu
  .cases hu;exact ht t (by simp)
  .exact h n u hu
theorem acH{p:Pg}{D:List (ByteArray×Nat)}(hp:yr p D){m:Mk}{i:Nat}{r:iQ}(hm:LI p D m i)(hr:m.row[i]? = some r) :
   ∃q,tA p D m r.name=some q/\∀m',q=.ok m'->LI p D m' (i+1)/\Laid m { m' with aj:=m.aj,size:=m.size}:=by
 have hw:=hm.row.waits i r (Nat.le_refl _) hr;obtain⟨⟨d0,iX,hlen⟩,lu⟩:=hm.row.ins r (List.mem_of_getElem? hr);obtain⟨nh,DD⟩:=hp.de d0 (List.mem_of_getElem? iX);have rW:sC (pH d0.params r.types []):=UF _ _ _ (fun n u h=>by cases h) lu;unfold tA;rw[hw];simp only[iX];refine⟨_,rfl,fun m' h=>?_⟩;have bV:=hm.size;have qU:Wr (100000-m.size)=100000-m.size:=gO (by omega) (by omega);rw[qU]at h;generalize hC:(⟨p.aj,D,pH d0.params r.types []⟩:Tc)=C at *;have rW:sC C.a8:=by rw[<- hC];exact rW
 have UG:C.aj=p.aj:=by rw[<- hC]
 have eD:C.D=D:=by rw[<- hC]
 have UH:wN C ⟨100000-m.size,[],[]⟩:=⟨fun n i h=>(by cases h),fun x hx=>(by cases hx)⟩;have F6:cj [d0.type]=d0.type.cN:=by rw[cj,cj];omega
 have a1:=NN rW [d0.type] (t:=⟨100000-m.size,[],[]⟩) (by rw[F6];simp only;omega) (by simp only;omega) UH;have a2:=Ua rW [d0.type] (t:=⟨100000-m.size,[],[]⟩) (by rw[F6];simp only;omega) (by simp only;omega);have al:=a1.low;have ah:=a1.jU;simp only at al ah;rw[F6]at al;obtain⟨b1,b2,b3⟩:=ab7 rW d0.body (by rw[UG,eD];exact hp.Oe d0 (List.mem_of_getElem? iX)) nh (dj C [d0.type] ⟨100000-m.size,[],[]⟩).2 (by omega) (by omega) a1.inv;have gB:(dj C [d0.type] ⟨100000-m.size,[],[]⟩).1=[(cZ C.a8 d0.type (100000-m.size)).1]:=by unfold dj;rw[dz,dz]
 have oU:(dj C [d0.type] ⟨100000-m.size,[],[]⟩).2.left=(cZ C.a8 d0.type (100000-m.size)).2:=by unfold dj;rw[dz,dz];rfl
 have wl:(dj C [d0.type] ⟨100000-m.size,[],[]⟩).1.headD Dl=(cZ C.a8 d0.type (100000-m.size)).1:=by rw[gB];rfl
 rw[wl]at h
 split at h
 .cases h
 .rename_i hge;have bh:=b1.jU;obtain ⟨s1,s2⟩:=b3 (by omega) (by omega);have IU:=a2 (by omega);rw [gB] at IU;simp only at IU;generalize hb:dp C d0.body (dj C [d0.type] ⟨100000 - m.size,[],[]⟩).2=B at *;have BT:Pg.size ⟨[],[⟨r.name,[],(cZ C.a8 d0.type (100000 - m.size)).1,B.1⟩]⟩=1+(cZ C.a8 d0.type (100000 - m.size)).1.cN+B.1.size:=by
   have e1:cj [(cZ C.a8 d0.type (100000-m.size)).1]=(cZ C.a8 d0.type (100000-m.size)).1.cN:=by rw[cj,cj];omega
   rw[e1]at IU;rw[Pg.size,qT,rU,rU];simp only;rw[zj _ (by omega),gO (n:=1+_) (by omega) (by omega),gO (n:=1+_+_) (by omega) (by omega),gO (by omega) (by omega)];omega
  have e1:cj [(cZ C.a8 d0.type (100000-m.size)).1]=(cZ C.a8 d0.type (100000-m.size)).1.cN:=by rw[cj,cj];omega
  rw[e1]at IU;have Of:Wr (m.size+(1+(cZ C.a8 d0.type (100000-m.size)).1.cN+B.1.size))=m.size+(1+(cZ C.a8 d0.type (100000-m.size)).1.cN+B.1.size):=gO (by omega) (by omega);rw[<- BT]at Of;generalize Ev:Wr (m.size+Pg.size ⟨[],[⟨r.name,[],(cZ C.a8 d0.type (100000-m.size)).1,B.1⟩]⟩)=sd at h Of;rw[BT]at Of;subst Of
  split at h
  .cases h
  .rename_i hle;have bg:=(List.getElem?_eq_some_iff.1 hr).1;have amP:yp p.aj { m with waits:=gq m.waits r.name,aj:=m.aj++[⟨r.name,[],(cZ C.a8 d0.type (100000 - m.size)).1,B.1⟩],size:=m.size+(1+(cZ C.a8 d0.type (100000 - m.size)).1.cN+B.1.size)} (i+1):=by
    refine⟨hm.row.Jw,hm.row.yq,hm.row.ins,hm.row.len,Io hm.row.uq _,fun j r' lO pU=>?_⟩;simp only at pU ⊢;rw[MS hm.row.uq,if_neg (fun e=>?_)]
    .exact hm.row.waits j r' (by omega) pU
    .have k1:=hm.row.yq i r hr;have k2:=hm.row.yq j r' pU;rw[e,k2]at k1;cases k1;omega
   obtain⟨l1,l2,l3,l4⟩:=acG B.2.bR h amP (by show i+1<=m.row.length;omega) (fun x hx=>by
    obtain⟨q1,q2⟩:=b1.inv.bR x hx;rw[UG]at q2;refine⟨?_,q2⟩
    rw[q1,Tc.nameOf,UG])
   obtain⟨k,hk⟩:=l1.row;simp only at hk;have mQ:m'.aj=m.aj++[⟨r.name,[],(cZ C.a8 d0.type (100000-m.size)).1,B.1⟩]:=l1.aj;have VY:m'.size=m.size+(1+(cZ C.a8 d0.type (100000-m.size)).1.cN+B.1.size):=l1.size;have MM:∀n n',Gi D m.row n n'->Gi D m'.row n n':=fun n n' ⟨r,h1,h2⟩=>⟨r,by rw[hk];exact List.mem_append_left _ h1,h2⟩
   refine⟨⟨l2,by rw[mQ,List.length_append,hm.len];rfl,by rw[hk,List.length_append];omega,by rw[VY];omega,fun j r' d hj hd=>?_⟩,⟨⟨k,hk⟩,rfl,rfl⟩⟩;rw[mQ]at hd;rcases Nat.lt_or_ge j i with hji |hji
   .rw[List.getElem?_append_left (by rw[hm.len];exact hji)]at hd;rw[hk,List.getElem?_append_left (by omega)]at hj;obtain⟨q1,q2,d1,q3,q4,q5⟩:=hm.made j r' d hj hd;exact⟨q1,q2,d1,q3,q4.mono MM,q5⟩
   .rw [List.getElem?_append_right (by rw [hm.len];exact hji)] at hd;have Jy:j=i:=by
     have:=(List.getElem?_eq_some_iff.1 hd).1;rw[hm.len]at this;simp at this;omega
    subst Jy;rw[hm.len,Nat.sub_self]at hd;cases hd;rw[hk,List.getElem?_append_left bg,hr]at hj;cases hj;have gR:∀n n',Nd C B.2.bR n n'->Gi D m'.row n n':=by
     rintro n n' ⟨x,h1,h2,h3⟩;obtain⟨r2,g1,g2,g3⟩:=l4 x h1;rw[eD]at h3;exact⟨r2,g1,g2.trans h2,by rw[g3];exact h3⟩
    refine⟨rfl,rfl,d0,iX,(b2 (by omega) l3).mono gR,fun h0=>?_⟩;have:C.a8=[]:=by rw[<- hC,h0];cases r.types<;>rfl
    rw[this]at oU ⊢;exact al4 d0.type _ (by omega) (by omega) (by omega)
theorem acI{p:Pg}{D:List (ByteArray×Nat)}(hp:yr p D):∀(n i:Nat) {m:Mk},LI p D m i->1001<=n+i->∃q,qC p D n i m=some q/\∀m',q=.ok m'->LI p D m' m'.row.length/\Laid m { m' with aj:=m.aj,size:=m.size}
 |0,i,m,h,hn=>by have:=h.le;have:=h.row.len;omega
 |n+1,i,m,h,hn=>by
  rw[qC]
  split
  .rename_i hr;refine ⟨_,rfl,fun m' e=>?_⟩;cases e;have:m.row.length=i:=by
    have:=List.getElem?_eq_none_iff.1 hr;have:=h.le;omega
   rw[this];exact⟨h,.refl m⟩
  .rename_i r hr;obtain⟨q,h1,h2⟩:=acH hp h hr;rw[h1]
   match q,h2 with
   |.error e,_=>exact⟨_,rfl,fun m' e=>by cases e⟩
   |.ok m1,h2=>
    obtain⟨k1,k2⟩:=h2 m1 rfl;obtain⟨q,j1,j2⟩:=acI hp n (i+1) k1 (by omega);refine⟨q,j1,fun m' e=>?_⟩;obtain⟨g1,g2⟩:=j2 m' e;obtain⟨x,hx⟩:=k2.row;obtain⟨y,hy⟩:=g2.row;exact⟨g1,⟨x++y,by simp only at hx hy ⊢;rw[hy,hx,List.append_assoc]⟩,rfl,rfl⟩
theorem UI{ds:List Df}{m:Mk}{d:Nat}{l:List Ty}{e:Int}(h:qB ds m d l=.error e):e≠0:=by
 unfold qB at h;simp only at h
 split at h
 .cases h;decide
 .split at h
  .split at h
   .cases h
   .cases h;decide
  .split at h
   .cases h;decide
   .cases h
theorem acJ{ds:List Df}{e:Int}:∀(l:List (Option iQ)) {m:Mk},layAll ds l m=.error e->e≠0
 |[],m,h=>by cases h
 |none::l,m,h=>by cases h;decide
 |some x::l,m,h=>by
  rw[layAll]at h
  split at h
  .cases h;decide
  .split at h
   .rename_i e1 h1;cases h;exact UI h1
   .exact acJ l h
theorem acK{p:Pg}{D:List (ByteArray×Nat)}{m:Mk}{n:ByteArray}{e:Int}(h:tA p D m n=some (.error e)):e≠0:=by
 unfold tA at h
 split at h
 .cases h
 .split at h
  .cases h
  .simp only[Option.some.injEq]at h
   split at h
   .cases h;decide
   .split at h
    .cases h;decide
    .exact acJ _ h
theorem acL{p:Pg}{D:List (ByteArray×Nat)}{e:Int}:∀(n i:Nat) {m:Mk},qC p D n i m=some (.error e)->e≠0
 |0,i,m,h=>by cases h
 |n+1,i,m,h=>by
  rw[qC]at h
  split at h
  .cases h
  .split at h
   .cases h
   .rename_i e1 h1;cases h;exact acK h1
   .exact acL n (i+1) h
theorem acM:∀(l:List Df) (i:Nat) (m:List (ByteArray×Nat)) (n:ByteArray) (c:Nat),aJ (fR l i m) n=some c->(aJ m n=some c/\n∉l.map Df.name)\/(i<=c/\∃d,l[c-i]?=some d/\d.name=n)
 |[],i,m,n,c,h=>.inl ⟨h,by simp⟩
 |d::l,i,m,n,c,h=>by
  rw[fR]at h;rcases acM l (i+1) _ n c h with⟨h1,h2⟩ |⟨h1,x,h2,h3⟩
  .rw[jg]at h1
   split at h1
   .rename_i e;cases h1;exact .inr ⟨Nat.le_refl _,d,by rw[Nat.sub_self];rfl,e⟩
   .rename_i e;exact .inl ⟨h1,by simp only[List.map_cons,List.mem_cons,not_or];exact⟨fun hh=>e hh.symm,h2⟩⟩
  .refine .inr ⟨by omega,x,?_,h3⟩;rw[show c-i=(c-(i+1))+1 by omega];exact h2
theorem Og{l:List Df}{n:ByteArray}{c:Nat}(h:aJ (fR l 0 []) n=some c):∃d,l[c]?=some d/\d.name=n:=by
 rcases acM l 0 [] n c h with⟨h1,_⟩ |⟨_,d,h2,h3⟩
 .cases h1
 .exact⟨d,by simpa using h2,h3⟩
theorem acN{p:Pg}(hp:fe p=0→yr p (fR p.aj 0 []))(bV:fe p=0→0≤Pg.size ⟨p.aK,[]⟩∧Pg.size ⟨p.aK,[]⟩≤100000)(entry:ByteArray):∃ r q,Dp p entry=some (r,q) ∧
   (r≠0->q=Dn)/\(r=0->q.aK=p.aK/\∃d row,aJ (fR p.aj 0 []) entry=some d/\q.aj.length=row.length/\(∀(j:Nat) r d,row[j]?=some r->q.aj[j]?=some d->Made p (fR p.aj 0 []) row r d) /\
    (∀(i j:Nat) r r',row[i]?=some r->row[j]?=some r'->r.name=r'.name->i=j)/\∃d0 r0,p.aj[d]?=some d0/\d0.name=entry/\row[0]?=some r0/\r0.jR=d/\(d0.params=[]->r0.name=entry)):=by
 unfold Dp;by_cases hc:fe p≠0
 .rw[if_pos hc];exact⟨_,_,rfl,fun _=>rfl,fun h=>absurd h hc⟩
 rw[if_neg hc];have NO:fe p=0:=by simpa using hc
 split
 .exact⟨_,_,rfl,fun _=>rfl,fun h=>by cases h⟩
 .rename_i d hd;obtain⟨d0,iX,xj⟩:=Og hd
  split
  .rename_i e he;refine⟨_,_,rfl,fun _=>rfl,fun h=>?_⟩;subst h;exfalso;unfold qB at he;simp only at he
   repeat' split at he
   all_goals cases he
  .rename_i m hm;have UJ:yp p.aj ⟨[],[],[],[],Pg.size ⟨p.aK,[]⟩⟩ 0:=⟨fun n j h=>(by cases h),fun j r h=>(by simp at h),fun r hr=>(by cases hr),(by simp),(by simp [Uq]),fun j r _ h=>(by simp at h)⟩;have xd:∀ u∈(((p.aj[d]?.map Df.params).getD []).map (fun _=>Dm)),u.cN≤500:=fun u hu=>by
    obtain⟨_,_,rfl⟩:=List.mem_map.1 hu
    decide
   obtain⟨l1,l2,r0,l3,l4,l5⟩:=Od hm UJ (Nat.le_refl _) ⟨⟨d0,iX,by rw[iX];simp⟩,xd⟩;have hL:LI p (fR p.aj 0 []) m 0:=⟨l2,by rw[l1.aj];rfl,Nat.zero_le _,by rw[l1.size];exact bV NO,fun j r x _ h=>by rw[l1.aj]at h;simp at h⟩;obtain⟨q,q1,q2⟩:=acI (hp NO) 1001 0 hL (by omega);rw[q1]
   match q,q2 with
   |.error e,_=>
    refine⟨_,_,rfl,fun _=>rfl,fun h=>?_⟩;exact absurd h (acL _ _ q1)
   |.ok m',q2=>
    obtain⟨g1,g2⟩:=q2 m' rfl;simp only
    split
    .exact⟨_,_,rfl,fun _=>rfl,fun h=>by cases h⟩
    .refine⟨_,_,rfl,fun h=>absurd rfl h,fun _=>⟨rfl,d,m'.row,hd,g1.len,g1.made,fun i j r r' hi hj e=>?_,d0,r0,iX,xj,?_,l5,fun h0=>?_⟩⟩
     .have k1:=g1.row.yq i r hi;have k2:=g1.row.yq j r' hj;rw[e,k2]at k1;cases k1;rfl
     .obtain ⟨k,hk⟩:=g2.row;simp only at hk;have hrow:m.row=[r0]:=by
       unfold qB at hm;simp only[Mx]at hm
       split at hm
       .cases hm
       .split at hm
        .cases hm
        .cases hm;have:=List.mem_singleton.1 l3;rw[this];rfl
      rw[hk,hrow];rfl
     .rw[l4,iX];simp only[Option.map_some,Option.getD_some,h0,List.map_nil,nameAt,iX,mo,List.isEmpty_nil,if_true,xj]
end
end Go.Proofs.YtekkkjbjnhipkaaGreatDoor