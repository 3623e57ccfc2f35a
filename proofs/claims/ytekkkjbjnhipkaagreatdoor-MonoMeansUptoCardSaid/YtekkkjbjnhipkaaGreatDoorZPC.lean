/- Texts that the last file stands on. -/
import Derived.Test.YtekkkjbjnhipkaaGreatDoorZPB
import Derived.Test.YtekkkjbjnhipkaaGreatDoorZPA
set_option linter.unusedSimpArgs false
set_option linter.unusedVariables false
set_option maxRecDepth 100000
namespace Go.Proofs.YtekkkjbjnhipkaaGreatDoor
section
open Go Go.W
theorem ox(E:Env)(e:Ex)(st:St):cM E e st =
   if lB e=false then .error 84
   else if e.kind=1 then(match aJ st.2 e.name with |none=>.error 82 |some t=>.ok (t,st))
   else if e.kind=2 then .ok (.mk 1 bM [],st)
   else if e.kind=3 then(match aJ E.aj e.name with |none=>.error 82 |some d=>(j' E d.type d.params e.types).map (fun t=>(t,st)))
   else if e.kind=4 then(match aJ E.cons e.name with |none=>.error 82 |some x=>(j' E (vJ x.1 x.2) x.1.params e.types).map (fun t=>(t,st)))
   else if e.kind=12 then(match e.types with |[]=>.error 84 |t::_=>if iT E t=true then .ok (t,st)else .error 83)
   else if e.kind=5 then(match dy E e.args st with |.error x=>.error x |.ok y=>(qe E y.1).map (fun t=>(t,y.2)))
   else if e.kind=9 then(match dy E e.args st with |.error x=>.error x |.ok y=>(sV e.name y.1).map (fun t=>(t,y.2)))
   else if e.kind=10 then(match dy E e.args st with |.error x=>.error x |.ok y=>.ok (y.1.getLastD default,y.2))
   else if e.kind=6 then(match e.binds with
    |[]=>.error 84
    |b::_=>match lE E b st.1 with
     |.error x=>.error x
     |.ok bd=>match dy E e.args (bd,bS st.2 b.name b.type)with
      |.error x=>.error x
      |.ok y=>(sW b y.1).map (fun t=>(t,(y.2.1,gq y.2.2 b.name))))
   else if e.kind=7\/e.kind=11 then(match lX E e.binds st.1 with
    |.error x=>.error x
    |.ok bd=>match lF E e.binds (bd,if e.kind=7 then dA e.binds st.2 else st.2)with
     |.error x=>.error x
     |.ok cQ=>match dy E e.args (cQ.1,dA e.binds cQ.2)with
      |.error x=>.error x
      |.ok y=>.ok (y.1.headD default,(y.2.1,ow e.binds y.2.2)))
   else match dy E e.args st with
    |.error x=>.error x
    |.ok y=>if((y.1.headD default).kind != 1&&(y.1.headD default).kind != 4)=true then .error 83 else iJ E e.alts (y.1.headD default) e.alts 0 default y.2:=by
 cases e;rw[cM.eq_def];rfl
theorem Ht(E:Env)(all:List Al)(of:Ty)(a:Al)(l:List Al)(i:Nat)(first:Ty)(st:St):iJ E all of (a::l) i first st =
   if pi all i of=false then .error 84
   else match qg E of a.kind a.bE a.vars (cM E a.body) st with
    |.error x=>.error x
    |.ok y=>if i=0 then iJ E all of l (i+1) y.1 y.2 else if fY y.1 first=true then iJ E all of l (i+1) first y.2 else .error 83:=by
 cases a;rw[iJ];rfl
theorem Hu(E:Env)(b:Bd)(l:List Bd)(st:St):lF E (b::l) st=(match cM E b.value st with
   |.error x=>.error x
   |.ok y=>if fY y.1 b.type=true then lF E l y.2 else .error 83):=by
 cases b;rw[lF];rfl
theorem qX{α β:Type}{x:Except Int α}{f:α->β}{y:β}(h:x.map f=.ok y):∃a,x=.ok a/\f a=y:=by
 cases x with
 |error e=>cases h
 |ok a=>cases h;exact⟨a,rfl,rfl⟩
def G(E:Env)(e:Ex):Prop:=∀st y,dX E st.2->cM E e st=.ok y->Good E y.1/\dX E y.2.2
theorem AP{E:Env}:∀(l:List Ex),(∀u∈l,G E u)->∀st y,dX E st.2->dy E l st=.ok y->(∀t∈y.1,Good E t)/\dX E y.2.2/\y.1.length=l.length
 |[],_,st,y,hl,h=>by
  rw[dy]at h;cases h;exact⟨fun t ht=>(by cases ht),hl,rfl⟩
 |e::l,hg,st,y,hl,h=>by
  rw[dy]at h
  split at h
  .cases h
  .rename_i y1 h1
   split at h
   .cases h
   .rename_i z hz;cases h;obtain⟨a1,a2⟩:=hg e (by simp) _ _ hl h1;obtain⟨b1,b2,b3⟩:=AP l (fun u hu=>hg u (by simp[hu])) _ _ a2 hz;refine⟨fun t ht=>?_,b2,by simp[b3]⟩;rcases List.mem_cons.1 ht with rfl |ht
    .exact a1
    .exact b1 t ht
theorem Yf{E:Env}:∀(l:List Bd),(∀b∈l,G E b.value)->∀st y,dX E st.2->lF E l st=.ok y->dX E y.2
 |[],_,st,y,hl,h=>by rw[lF]at h;cases h;exact hl
 |b::l,hg,st,y,hl,h=>by
  rw[Hu]at h
  split at h
  .cases h
  .rename_i y1 h1
   split at h
   .exact Yf l (fun u hu=>hg u (by simp[hu])) _ _ (hg b (by simp) _ _ hl h1).2 h
   .cases h
theorem QH{E:Env}{ps:List ByteArray}{bs:List Ty}(hb:∀b∈bs,Good E b)(hle:ps.length<=bs.length):∀(vs:List ByteArray) (fs:List Ty),(∀f∈fs,f.wf E=true)->∀lc ju,dX E lc->ke ps bs vs fs lc=.ok ju->dX E ju
 |s::l,f::fs,hf,lc,ju,hl,h=>by
  rw[ke]at h
  split at h
  .rename_i mH;exact QH hb hle l fs (fun g hg=>hf g (by simp[hg])) _ _ (hl.put (QE hb hle (hf f (by simp)) mH)) h
  .cases h
 |[],_,_,lc,ju,hl,h=>by rw[ke]at h;cases h;exact hl;intros;simp_all
 |s::l,[],_,lc,ju,hl,h=>by rw[ke]at h;cases h;exact hl;intros;simp_all
theorem Yg{E:Env}(hE:nC E){of:Ty}(eU:Good E of){k:Int}{bE:ByteArray}{vars:List ByteArray}(hk:k=1->of.kind=4){e:Ex}(hg:G E e){st:St}{y:Ty×St}(hl:dX E st.2)(h:qg E of k bE vars (cM E e) st=.ok y):Good E y.1/\dX E y.2.2:=by
 unfold qg at h
 split at h
 .exact hg _ _ hl h
 .rename_i jv;have jv:k=1:=by simpa using jv
  split at h
  .cases h
  .rename_i x hx
   split at h
   .cases h
   .rename_i hn
    split at h
    .cases h
    .split at h
     .cases h
     .rename_i bd eV
      split at h
      .cases h
      .rename_i lc uf
       split at h
       .cases h
       .rename_i y1 h1;cases h;have hle:=Yb hE hx (by simpa using hn) eU.1 (hk jv);have ahw:=QH (fun b hb=>Lp eU hb) (by omega) _ _ (hE.cons _ _ hx).2 _ _ hl uf;obtain⟨a1,a2⟩:=hg _ _ ahw h1;exact⟨a1,dX.kF _ a2⟩
theorem Lq{all:List Al}{i:Nat}{of:Ty}{a:Al}(ha:all[i]?=some a)(h:pi all i of=true)(hk:a.kind=1):of.kind=4:=by
 unfold pi at h;rw[ha]at h;simp only[hk]at h;rw[if_pos (by rfl)]at h
 split at h
 .cases h
 .rename_i h2;simp only[Bool.or_eq_true,not_or,bne_iff_ne,ne_eq,Decidable.not_not]at h2;exact h2.2
theorem QI{E:Env}(hE:nC E){all:List Al}{of:Ty}(eU:Good E of):∀(l:List Al) (i:Nat),all.drop i=l->(∀a∈l,G E a.body)->∀(first:Ty) (st:St) (y:Ty×St),(i=0->l≠[])->(i≠0->Good E first)->dX E st.2->iJ E all of l i first st=.ok y->Good E y.1/\dX E y.2.2
 |[],i,hd,_,first,st,y,h0,hf,hl,h=>by
  rw[iJ]at h;cases h;exact⟨hf (fun e=>h0 e rfl),hl⟩
 |a::l,i,hd,hg,first,st,y,h0,hf,hl,h=>by
  rw[Ht]at h;have ha:all[i]?=some a:=by
   have:=congrArg (fun z=>z[0]?) hd
   simpa using this
  have ja:all.drop (i+1)=l:=by
   have:=congrArg (List.drop 1) hd
   simpa using this
  split at h
  .cases h
  .rename_i qh;have qh:pi all i of=true:=by simpa using qh
   split at h
   .cases h
   .rename_i y1 h1;obtain⟨a1,a2⟩:=Yg hE eU (fun hk=>Lq ha qh hk) (hg a (by simp)) hl h1
    split at h
    .exact QI hE eU l (i+1) ja (fun b hb=>hg b (by simp[hb])) _ _ _ (fun e=>by omega) (fun _=>a1) a2 h
    .rename_i hi
     split at h
     .exact QI hE eU l (i+1) ja (fun b hb=>hg b (by simp[hb])) _ _ _ (fun e=>by omega) (fun _=>hf hi) a2 h
     .cases h
theorem Yh(E:Env):Good E (.mk 1 bM []):=by
 refine⟨by rw[Ty.wf];rfl,by rw[Ty.cN,cj];omega⟩
theorem Yi{e:Ex}(h:lB e=true):jH e=true:=by
 unfold lB at h;simp only[Bool.and_eq_true]at h;exact h.1.1
theorem ug{e:Ex}{a b c d:Int}(h:de e a b c d=true):(e.types.length:Int)=a/\(e.args.length:Int)=b/\(e.binds.length:Int)=c/\(e.alts.length:Int)=d:=by
 unfold de at h;simp only[Bool.and_eq_true,beq_iff_eq]at h;exact h
structure Yj (e:Ex):Prop where
 a2:e.kind=5\/e.kind=9\/e.kind=10->e.args.length=2
 a1:e.kind=6\/e.kind=7\/e.kind=8\/e.kind=11->e.args.length=1
 b1:e.kind=6\/e.kind=11->e.binds.length=1
 b2:e.kind=7->1<=e.binds.length
 al:e.kind=8->1<=e.alts.length
 t1:e.kind=12->e.types.length=1
 op:e.kind=9->(lV e.name).isSome=true
 xk:1<=e.kind/\e.kind<=12
theorem EW{e:Ex}(h:lB e=true):Yj e:=by
 have h:=Yi h;unfold jH at h;have c5:e.kind=5->de e 0 2 0 0=true:=fun hk=>by have h2:=h;rw[hk]at h2;exact h2
 have AQ:e.kind=10->de e 0 2 0 0=true:=fun hk=>by have h2:=h;rw[hk]at h2;exact h2
 have c9:e.kind=9->(de e 0 2 0 0&&(lV e.name).isSome)=true:=fun hk=>by have h2:=h;rw[hk]at h2;exact h2
 have c6:e.kind=6->(de e 0 1 1 0&&(match e.binds with |b::_=>AL b.value |[]=>false))=true:=fun hk=>by have h2:=h;rw[hk]at h2;exact h2
 have c7:e.kind=7->(de e 0 1 e.binds.length 0&&decide ((e.binds.length:Int)>=1))=true:=fun hk=>by have h2:=h;rw[hk]at h2;exact h2
 have c8:e.kind=8->(de e 0 1 0 e.alts.length&&decide ((e.alts.length:Int)>=1))=true:=fun hk=>by have h2:=h;rw[hk]at h2;exact h2
 have Hv:e.kind=11->de e 0 1 1 0=true:=fun hk=>by have h2:=h;rw[hk]at h2;exact h2
 have Yk:e.kind=12->((de e 1 0 0 0&&decide (e.num>=1))&&decide (e.num<=4))=true:=fun hk=>by have h2:=h;rw[hk]at h2;exact h2
 refine⟨?_,?_,?_,?_,?_,?_,?_,?_⟩
 .rintro(hk |hk |hk)
  .have:=ug (c5 hk);omega
  .have:=ug (Bool.and_eq_true _ _ |>.mp (c9 hk)).1;omega
  .have:=ug (AQ hk);omega
 .rintro(hk |hk |hk |hk)
  .have:=ug (Bool.and_eq_true _ _ |>.mp (c6 hk)).1;omega
  .have:=ug (Bool.and_eq_true _ _ |>.mp (c7 hk)).1;omega
  .have:=ug (Bool.and_eq_true _ _ |>.mp (c8 hk)).1;omega
  .have:=ug (Hv hk);omega
 .rintro(hk |hk)
  .have:=ug (Bool.and_eq_true _ _ |>.mp (c6 hk)).1;omega
  .have:=ug (Hv hk);omega
 .intro hk;have:=(Bool.and_eq_true _ _ |>.mp (c7 hk)).2;have:=of_decide_eq_true this;omega
 .intro hk;have:=(Bool.and_eq_true _ _ |>.mp (c8 hk)).2;have:=of_decide_eq_true this;omega
 .intro hk;have:=ug (Bool.and_eq_true _ _ |>.mp (Bool.and_eq_true _ _ |>.mp (Yk hk)).1).1;omega
 .intro hk;exact(Bool.and_eq_true _ _ |>.mp (c9 hk)).2
 .apply Classical.byContradiction;intro hn;have n1:(e.kind == 1)=false:=by simp;omega
  have n2:(e.kind == 2)=false:=by simp;omega
  have n3:(e.kind == 3)=false:=by simp;omega
  have n4:(e.kind == 4)=false:=by simp;omega
  have n5:(e.kind == 5)=false:=by simp;omega
  have n6:(e.kind == 6)=false:=by simp;omega
  have n7:(e.kind == 7)=false:=by simp;omega
  have n8:(e.kind == 8)=false:=by simp;omega
  have n9:(e.kind == 9)=false:=by simp;omega
  have CB:(e.kind == 10)=false:=by simp;omega
  have n11:(e.kind == 11)=false:=by simp;omega
  have Lr:(e.kind == 12)=false:=by simp;omega
  simp only[n1,n2,n3,n4,n5,n6,n7,n8,n9,CB,n11,Lr,Bool.false_eq_true,if_false,Bool.or_self]at h
theorem ahx{E:Env}{l:List Ty}(hl:∀t∈l,Good E t){t:Ty}(h:qe E l=.ok t):Good E t:=by
 unfold qe at h
 split at h
 .rename_i f a
  split at h
  .cases h
  .split at h
   .rename_i x y r nY
    split at h
    .cases h;exact Lp (hl f (by simp)) (by rw[nY];simp)
    .cases h
   .cases h
 .cases h
theorem ahy{E:Env}{n:ByteArray}{l:List Ty}(ho:(lV n).isSome=true)(hb:eR E jq 0=false){t:Ty}(h:sV n l=.ok t):Good E t:=by
 unfold sV at h
 split at h
 .split at h
  .cases h
  .cases h;unfold lV at ho ⊢
   split
   .exact Yh E
   .split
    .refine⟨?_,by simp[Ty.cN,cj]⟩;show Ty.wf E (.mk 4 jq [])=true;rw[Ty.wf,List.length_nil,hb];rfl
    .rename_i h1 h2;rw[if_neg h1,if_neg h2]at ho;cases ho
 .cases h
theorem ahz{E:Env}{b:Bd}(hb:Good E b.type){l:List Ty}(hl:∀t∈l,Good E t){t:Ty}(h:sW b l=.ok t):Good E t:=by
 unfold sW at h
 split at h
 .rename_i u r
  split at h
  .cases h
  .rename_i hs;cases h;obtain⟨b1,b2⟩:=hb;obtain⟨u1,u2⟩:=hl u (by simp);refine⟨Ya b1 u1,?_⟩;rw[zj _ (by omega),zj _ (by omega)]at hs;rw[show Wr ((b.type.cN:Int)+u.cN)=(b.type.cN:Int)+u.cN from dJ (by omega) (by omega),show Wr (((b.type.cN:Int)+u.cN)+1)=((b.type.cN:Int)+u.cN)+1 from dJ (by omega) (by omega)]at hs;rw[lA,Ty.cN,cj,cj,cj];omega
 .cases h
theorem xC{E:Env}(hE:nC E)(hb:eR E jq 0=false)(e:Ex):G E e:=by
 induction e using Ex.ind with
 |h e dK hM gT=>
 intro st y hl h;rw[ox]at h;by_cases hf:lB e=false
 .rw[if_pos hf]at h;cases h
 rw[if_neg hf]at h;have F:=EW (by simpa using hf);by_cases hk:e.kind=1
 .rw[if_pos hk]at h
  split at h
  .cases h
  .rename_i t ht;cases h;exact⟨hl.get ht,hl⟩
 rw[if_neg hk]at h;by_cases hk:e.kind=2
 .rw[if_pos hk]at h;cases h;exact⟨Yh E,hl⟩
 rw[if_neg hk]at h;by_cases hk:e.kind=3
 .rw[if_pos hk]at h
  split at h
  .cases h
  .rename_i d hd;obtain⟨t,ht,rfl⟩:=qX h;exact⟨X1 (hE.aj _ _ hd) ht,hl⟩
 rw[if_neg hk]at h;by_cases hk:e.kind=4
 .rw[if_pos hk]at h
  split at h
  .cases h
  .rename_i x hx;obtain⟨t,ht,rfl⟩:=qX h;exact⟨X1 (ahu hE hx) ht,hl⟩
 rw[if_neg hk]at h;by_cases hk:e.kind=12
 .rw[if_pos hk]at h
  split at h
  .cases h
  .split at h
   .rename_i hr;cases h;exact⟨EU hr,hl⟩
   .cases h
 rw[if_neg hk]at h;by_cases hk:e.kind=5
 .rw[if_pos hk]at h
  split at h
  .cases h
  .rename_i z hz;obtain⟨t,ht,rfl⟩:=qX h;obtain⟨a1,a2,_⟩:=AP _ dK _ _ hl hz;exact⟨ahx a1 ht,a2⟩
 rw[if_neg hk]at h;by_cases hk:e.kind=9
 .rw[if_pos hk]at h
  split at h
  .cases h
  .rename_i z hz;obtain⟨t,ht,rfl⟩:=qX h;obtain⟨a1,a2,_⟩:=AP _ dK _ _ hl hz;exact⟨ahy (F.op hk) hb ht,a2⟩
 rw[if_neg hk]at h;by_cases hk:e.kind=10
 .rw[if_pos hk]at h
  split at h
  .cases h
  .rename_i z hz;cases h;obtain⟨a1,a2,a3⟩:=AP _ dK _ _ hl hz;rw[F.a2 (by omega)]at a3;refine⟨a1 _ ?_,a2⟩
   match z.1,a3 with
   |[a,b],_=>simp
 rw[if_neg hk]at h;by_cases hk:e.kind=6
 .rw[if_pos hk]at h
  split at h
  .cases h
  .rename_i b r eN
   split at h
   .cases h
   .rename_i bd eV
    split at h
    .cases h
    .rename_i z hz;obtain⟨t,ht,rfl⟩:=qX h;have gb:=EV eV;obtain⟨a1,a2,a3⟩:=AP _ dK _ _ (hl.put gb) hz;exact⟨ahz gb a1 ht,a2.del _⟩
 rw[if_neg hk]at h;by_cases hk:e.kind=7\/e.kind=11
 .rw[if_pos hk]at h
  split at h
  .cases h
  .rename_i bd eV;have gb:=QG _ eV
   split at h
   .cases h
   .rename_i cQ h2;have g2:=Yf _ hM _ _ (by show dX E (if e.kind=7 then _ else _);split;exact dX.dA _ hl gb;exact hl) h2
    split at h
    .cases h
    .rename_i z hz;cases h;obtain⟨a1,a2,a3⟩:=AP _ dK _ _ (dX.dA _ g2 gb) hz;rw[F.a1 (by omega)]at a3;refine⟨a1 _ ?_,dX.kF _ a2⟩
     match z.1,a3 with
     |[a],_=>simp
 rw[if_neg hk]at h
 split at h
 .cases h
 .rename_i z hz;obtain⟨a1,a2,a3⟩:=AP _ dK _ _ hl hz;have zk:e.kind=8:=by have:=F.xk;omega
  rw[F.a1 (by omega)]at a3;have eU:Good E (z.1.headD default):=a1 _ (by match z.1,a3 with |[a],_=>simp)
  split at h
  .cases h
  .refine QI hE eU _ 0 rfl gT _ _ _ (fun _ h0=>?_) (fun h0=>absurd rfl h0) a2 h;have:=F.al zk;have h0:e.alts=[]:=h0;rw[h0]at this;simp at this
end
section
open Go Go.W
theorem cL.ext{w w':World}{S S':Nat->Prop}{M:Ms}{E:Env}{bd:cE}{lc:Loc}(h:cL w S M E bd lc)(hm:Mod (fun _=>False) w w')(hs:∀b,b<w.heap.size->S' b->S b)(vI:∀b,S b->S' b)(bg:∀b,S' b->b<w'.heap.size):cL w' S' M E bd lc:=by
 have cA:Mod S w w':=aq hm
 exact⟨hm.at h.box Ψ,h.nodup,fun b hb=>vI b (h.aT b hb),bg,
  h.aK.mod hm Ψ (fun _ _ x=>x.up cA aW (fM cA hs)),h.cons.mod hm Ψ (fun _ _ x=>x.up cA aW (fM cA hs)),
  h.aj.mod hm Ψ (fun _ _ x=>x.up cA aW (fM cA hs)),h.params.mod hm Ψ (fun _ _ x=>x),h.jt.mod hm Ψ (fun _ _ x=>x),h.locals.mod hm Ψ (fun _ _ x=>x.up cA aW (fM cA hs))⟩
theorem Ls{w:World}{S S':Nat->Prop}(hs:∀b,S b->S' b):∀b,Out S' w b->Out S w b:=fun b h=>⟨h.1,fun hh=>h.2 (hs b hh)⟩
theorem cL.sub{w:World}{S S':Nat->Prop}{M:Ms}{E:Env}{bd:cE}{lc:Loc}(h:cL w S' M E bd lc)(hs:∀b,S b->S' b)(ij:∀b∈M.list,S b):cL w S M E bd lc:=by
 have hm:=Mod.refl (fun _=>False) w
 exact⟨h.box,h.nodup,ij,fun b hb=>h.lt b (hs b hb),
  h.aK.mod hm Ψ (fun _ _ x=>x.up hm aA (Ls hs)),h.cons.mod hm Ψ (fun _ _ x=>x.up hm aA (Ls hs)),
  h.aj.mod hm Ψ (fun _ _ x=>x.up hm aA (Ls hs)),h.params,h.jt,h.locals.mod hm Ψ (fun _ _ x=>x.up hm aA (Ls hs))⟩
theorem cL.side{w w':World}{S S':Nat->Prop}{M:Ms}{E:Env}{bd:cE}{lc:Loc}(h:cL w S M E bd lc)(hm:Mod S' w w')(hs:∀b,S' b->S b)(jb:∀b∈M.list,¬S' b):cL w' S M E bd lc:=by
 have cA:=hm.aU hs;have no:∀b,b∈M.list->¬S' b:=jb
 exact⟨hm.at h.box (no _ (by simp[Ms.list])),h.nodup,h.aT,fun b hb=>Nat.lt_of_lt_of_le (h.lt b hb) hm.size,
  h.aK.mod hm (no _ (by simp[Ms.list])) (fun _ _ x=>x.up cA aW (br cA)),h.cons.mod hm (no _ (by simp[Ms.list])) (fun _ _ x=>x.up cA aW (br cA)),
  h.aj.mod hm (no _ (by simp[Ms.list])) (fun _ _ x=>x.up cA aW (br cA)),h.params.mod hm (no _ (by simp[Ms.list])) (fun _ _ x=>x),h.jt.mod hm (no _ (by simp[Ms.list])) (fun _ _ x=>x),
  h.locals.mod hm (no _ (by simp[Ms.list])) (fun _ _ x=>x.up cA aW (br cA))⟩
@[go_sem] theorem n00:((0:Int)!=0)=false:=_root_.id rfl
def uh(w:World)(S:Nat->Prop)(M:Ms)(E:Env)(r:Value)(x:Except Int (Ty×St)):Prop:=match x with
 |.ok y=>(∃cs:List Value,r=.tuple #[.agg cs.toArray,I 0]/\aR w (Out S w) cs y.1)/\cL w S M E y.2.1 y.2.2
 |.error e=>∃cs:List Value,cs.length=3/\(∀u∈cs,u.oneCell'=true)/\r=.tuple #[.agg cs.toArray,I e]/\e≠0/\∃bd lc,cL w S M E bd lc
theorem uh.bad{w:World}{S:Nat->Prop}{M:Ms}{E:Env}{e:Int}(h:e≠0)(hc:∃bd lc,cL w S M E bd lc):uh w S M E (.tuple #[.agg cS.toArray,I e]) (.error e):=⟨cS,rfl,vF,rfl,h,hc⟩
def xD(E:Env)(e:Ex):Prop:=∀{w:World} {S:Nat->Prop} {M:Ms} {st:St} {cs:List Value},cL w S M E st.1 st.2->dX E st.2->ci w (Out S w) cs e ->
 bu Tryz.prog 55 [ptr M.c,.agg cs.toArray] w fun r w'=>uh w' S M E r (cM E e st)/\Mod M.two w w'
abbrev aY(S:Nat->Prop)(b4:Nat):Nat->Prop:=fun b=>S b\/b=b4
theorem fZ{w:World}{S:Nat->Prop}{b4:Nat}(h:w.heap.size<=b4):∀b,b<w.heap.size->aY S b4 b->S b:=fun b hb hh=>by
 rcases hh with h |h
 .exact h
 .omega
theorem gh{w:World}{S:Nat->Prop}{M:Ms}{E:Env}{bd:cE}{lc:Loc}(h:cL w S M E bd lc){b:Nat}(hb:w.heap.size<=b):¬M.two b:=fun hh=>by have:=h.lt b (h.two b hh);omega
theorem jI{w:World}{S:Nat->Prop}{M:Ms}{E:Env}{bd:cE}{lc:Loc}(h:cL w S M E bd lc){b4:Nat}(hb:w.heap.size<=b4):∀b∈M.list,¬b=b4:=fun b hm hh=>by have:=h.lt b (h.aT b hm);omega
theorem vO{w w':World}{S:Nat→Prop}{M:Ms}{E:Env}{st:St}{cs:List Value}{t:Ty}{b4:Nat}(hc:cL w (aY S b4) M E st.1 st.2)(ht:aR w (Out (aY S b4) w) cs t)(hm:Mod (· = b4) w w')(ij:∀ b∈M.list,S b)(jb:∀ b∈M.list,¬ b=b4) :
   uh w' S M E (.tuple #[.agg cs.toArray,I 0]) (.ok (t,st)):=
 ⟨⟨cs,rfl,(ht.aI (hm.aU (fun b hb=>.inr hb))).sub (fun b hb=>.inl hb)⟩,(hc.side hm (fun b hb=>.inr hb) jb).sub (fun b hb=>.inl hb) ij⟩
theorem jf{w w3:World}{ρ:Go.W.Env}{K:Value→World→Prop}{S:Nat→Prop}{M:Ms}{E:Env}{bd0 bd:cE}{lc0 lc:Loc}{b4:Nat}(hc:cL w S M E bd0 lc0)(z1:w.heap.size≤b4)(az:w3.heap[b4]? = some (.cells cS.toArray dH (0,0)))(bz:Mod M.two w w3)(cT:cL w3 (aY S b4) M E bd lc)
   {p q:O} (hp:p.ev ρ=some (ptr b4)) (hq:q.ev ρ=some (.agg cS.toArray))
   (hk:∀w4,w4.heap[b4]?=some (.cells cS.toArray dH (0,0))->Mod M.two w w4->(∃bd lc,cL w4 S M E bd lc)->K undef w4):Go.W.E.wp Tryz.prog w3 ρ K (.st 3 p q):=by
 refine bN (cs:=cS) hp hq az rfl rfl vF ?_;intro w4 bm aD dL;exact hk w4 bm (bz.step aD (fun b hb hl=>by omega)) ⟨_,_,(cT.side aD (fun b hb=>.inr hb) (jI hc z1)).sub (fun b hb=>.inl hb) hc.aT⟩
theorem Lt{α:Type}{l:List α}(h:l.length=2):∃x y,l=[x,y]:=by
 match l,h with
 |[x,y],_=>exact⟨x,y,rfl⟩
theorem EX{α:Type}{l:List α}(h:l.length=1):∃x,l=[x]:=by
 match l,h with
 |[x],_=>exact⟨x,rfl⟩
theorem zm{w:World}{B:Nat→Prop}{v:Value}{l:List Ex}(h:aX w v 7 B (ci w B) l){i:Nat}(hi:i < l.length) :
   ∃ad c r,v=.slice (some ad) l.length c/\ci w B r l[i]/\f' w 7 (.pointer (some (ad.add (i*7))))=some (.agg r.toArray):=by
 obtain⟨ad,c,r,e,h1,_,h2,_⟩:=dT h hi;exact⟨ad,c,r,e,h1,h2⟩
end
section
open Go Go.W
theorem ahA{E:Env}(hE:nC E)(iW:eR E jq 0=false){e x y:Ex}(iG:e.args=[x,y])(ku:xD E x)(oR:xD E y){w:World}{S:Nat→Prop}{M:Ms}{st:St}{cs:List Value}(hc:cL w S M E st.1 st.2)(hg:dX E st.2)(h:ci w (Out S w) cs e) :
   bu Tryz.prog 76 [ptr M.c,.agg cs.toArray] w fun r w'=>uh w' S M E r (match dy E e.args st with |.error x=>.error x |.ok y=>(qe E y.1).map (fun t=>(t,y.2)))/\Mod M.two w w':=by
 obtain⟨vt,va,vb,vl,rfl,ht,ha,hb,hl⟩:=h.parts;obtain⟨aa,ca,rfl⟩:=bq ha;refine γ Tryz.f76 ?_;refine σ ?_;refine bZ rfl ?_;intro w1 au ak cw;refine σ ?_;refine cX ?_;intro w2 az ai bU;have au:=ai.at au Ψ;have bo:=ak.trans ai;have z1:=ak.size;have vI:∀b,S b->aY S w1.heap.size b:=fun b hb=>.inl hb
 have gv:cL w2 (aY S w1.heap.size) M E st.1 st.2:=hc.ext bo (fZ z1) vI (fun b hb=>by
  rcases hb with h |h
  ·have:=hc.lt b h;omega
  ·omega)
 have gX:e.args.length=2:=by rw[iG];rfl
 have vP:aX w2 (.slice aa e.args.length ca) 7 (Out (aY S w1.heap.size) w2) (ci w2 (Out (aY S w1.heap.size) w2)) e.args:=ha.up bo aA (fM (aq bo) (fZ z1)) (fun _ _ h=>h.ext (aq bo) (fZ z1));have b1:(0:Int)<=0/\(0:Int)<e.args.length:=by omega
 have b2:(0:Int)<=1/\(1:Int)<e.args.length:=by omega
 obtain⟨ad,c1,r1,e1,hx,sX⟩:=zm vP (i:=0) (by omega);obtain⟨rfl,-,-⟩:=cU e1;have CC:e.args[0]'(by omega)=x:=by simp[iG]
 have Hw:e.args[1]'(by omega)=y:=by simp[iG]
 rw[CC]at hx;rw[Nat.zero_mul,add_zero']at sX;rw[iG];simp only[dy];simp only[go_sem,simprocAttr,bG,bH,cell_of au,Value.cells,b1,Nat.zero_mul,sX];refine δ (by rfl) (ku gv hg hx) ?_;rintro r3 w3 ⟨gi,aw⟩;cases cP:cM E x st with
 |error e3=>
  rw[cP]at gi;obtain⟨cz,bX,cJ,rfl,bJ,Lu,Hx,nD⟩:=gi;refine σ ?_;refine eC (n:=3) (vs:=cz) rfl bX cJ ?_;intro w4 bm aD dL;have jJ:(e3 != 0)=true:=by simpa using bJ
  simp only[go_sem,simprocAttr,jJ];refine jf hc z1 ((aw.trans (aq aD)).at az (gh hc z1)) ((aq bo).trans (aw.trans (aq aD))) (nD.aI aD) rfl rfl ?_;intro w5 bY aH bK;simp only[go_sem,simprocAttr,aM,RV.ev,aE (n:=3) bY rfl,aN];exact⟨.bad bJ bK,aH⟩
 |ok y1=>
  obtain⟨t1,eL⟩:=y1;rw[cP]at gi;obtain⟨⟨c3,rfl,QJ⟩,cT⟩:=gi;have g1:=xC hE iW x st _ hg cP;refine σ ?_;refine eC (n:=3) (vs:=c3) rfl QJ.len QJ.one ?_;intro w4 bm aD dL;have lG:=cT.aI aD;have j9:=aw.trans (aq aD);have au:=j9.at au (gh hc (by omega));have S2:=gv.two;have QK:aX w4 (.slice (some ad) e.args.length ca) 7 (Out (aY S w1.heap.size) w4) (ci w4 (Out (aY S w1.heap.size) w4)) e.args:=vP.up j9 (fun b hb hh=>hb.2 (S2 b hh)) (br (j9.aU S2)) (fun _ _ h=>h.aI (j9.aU S2));obtain⟨KT,Ll,r2,e2,hy,Hy⟩:=zm QK (i:=1) (by omega);obtain⟨e3,-,-⟩:=cU e2;cases e3;rw[Hw]at hy;rw[Nat.one_mul,add_pos _ (n:=7) (by decide)]at Hy;simp only[go_sem,simprocAttr,bG,bH,cell_of au,Value.cells,b2,Int.toNat_one,Nat.one_mul,Hy];refine δ (by rfl) (oR lG g1.2 hy) ?_;rintro r5 w5 ⟨rY,aH⟩;have sY:=j9.trans aH;cases CD:cM E y eL with
  |error e3=>
   rw[CD]at rY;obtain⟨cz,bX,cJ,rfl,bJ,Lu,Hx,nD⟩:=rY;refine σ ?_;refine eC (n:=3) (vs:=cz) rfl bX cJ ?_;intro w6 cH aG fw;have jJ:(e3 != 0)=true:=by simpa using bJ
   simp only[go_sem,simprocAttr,jJ];refine jf hc z1 ((sY.trans (aq aG)).at az (gh hc z1)) ((aq bo).trans (sY.trans (aq aG))) (nD.aI aG) rfl rfl ?_;intro w7 dh aO bK;simp only[go_sem,simprocAttr,aM,RV.ev,aE (n:=3) dh rfl,aN];exact⟨.bad bJ bK,aO⟩
  |ok y2=>
   obtain⟨t2,cQ⟩:=y2;rw[CD]at rY;obtain⟨⟨c5,rfl,pj⟩,lH⟩:=rY;refine σ ?_;refine eC (n:=3) (vs:=c5) rfl pj.len pj.one ?_;intro w6 cH aG fw;have vE:=sY.trans (aq aG);have lY:=lH.aI aG;have z3:=aw.size;have Hz:=(aH.trans (aq aG)).at bm (gh hc (by omega));have QL:aR w6 (Out (aY S w1.heap.size) w6) c3 t1:=(QJ.aI (aq aD)).aI ((aH.trans (aq aG)).aU S2);obtain⟨v3,rfl,db⟩:=QL.cells;obtain⟨a3,cc3,rfl⟩:=bq db;have ahB:w6.drew.heap[w5.heap.size]?=_:=cH;simp only[go_sem,simprocAttr,cell_of Hz,cY,aE (n:=3) ahB pj.len];have aqB:∀z,(Except.map (fun t=>(t,cQ)) (qe E [t1,t2]):Except Int (Ty×St))=z->(Except.map (fun t=>(t,cQ)) (qe E [t1,t2]):Except Int (Ty×St))=z:=fun z h=>h
   cases hk:t1.kind != 3 with
   |true=>
    have ha:qe E [t1,t2]=.error 83:=by rw[qe,if_pos hk]
    rw[ha];refine σ ?_;refine jf hc z1 ((vE.drew).at az (gh hc z1)) ((aq bo).trans (vE.drew)) (lY.aI (Mod.refl _ _).drew) rfl rfl ?_;intro w7 dh aO bK;simp only[go_sem,simprocAttr,aM,RV.ev,aE (n:=3) dh rfl,aN];exact⟨.bad (by decide) bK,aO⟩
   |false=>
    have rZ:t1.kind=3:=by simpa using hk
    obtain⟨u,v,Lv⟩:=Lt (QF g1.1.1 rZ);have l2:t1.args.length=2:=by rw[Lv];rfl
    have d1:(0:Int)<=0/\(0:Int)<t1.args.length:=by omega
    have d2:(0:Int)<=1/\(1:Int)<t1.args.length:=by omega
    obtain⟨rows,lz,pZ,iI⟩:=db;obtain⟨Yl,cc,ee,Ym⟩:=Hk lz (i:=0) (by omega);obtain⟨rfl,-,-⟩:=cU ee;obtain⟨ad4,cc',ee',Yn⟩:=Hk lz (i:=1) (by omega);obtain⟨ee4,-,-⟩:=cU ee';cases ee4;rw[Nat.zero_mul,add_zero']at Ym;rw[Nat.one_mul,add_pos _ (n:=3) (by decide)]at Yn;have hu:aR w6 (Out (aY S w1.heap.size) w6) rows[0] u:=iI 0 _ _ (Ξ (by omega)) (by rw[Lv];rfl);have hv:aR w6 (Out (aY S w1.heap.size) w6) rows[1] v:=iI 1 _ _ (Ξ (by omega)) (by rw[Lv];rfl);have ha:qe E [t1,t2]=if fY u t2=true then .ok v else .error 83:=by rw[qe,if_neg (by rw[hk];simp),Lv]
    rw[ha];simp only[go_sem,simprocAttr,bG,bH,cell_of Hz,d1,Nat.zero_mul,Ym,cY,aE (n:=3) cH pj.len];refine aL (by rfl) ?_;have dd:Mod (fun _=>False) w6 w6.drew:=(Mod.refl _ _).drew;refine(K9 u (hu.aI (aq dd)) ((pj.aI (aq aG)).aI (aq dd))).mono ?_;rintro _ w7 ⟨rfl,aO⟩;have ot:Mod (fun _=>False) w6 w7:=dd.trans aO;cases hs:fY u t2 with
    |false=>
     refine σ ?_;refine jf hc z1 ((vE.trans (aq ot)).at az (gh hc z1)) ((aq bo).trans (vE.trans (aq ot))) (lY.aI ot) rfl rfl ?_;intro w8 dW aZ bK;simp only[go_sem,simprocAttr,aM,RV.ev,aE (n:=3) dW rfl,aN];exact⟨.bad (by decide) bK,aZ⟩
    |true=>
     obtain⟨ad5,cc5,ee5,Yo⟩:=Hk (lz.up ot aA (fun _ h=>h)) (i:=1) (by omega);obtain⟨ee6,-,-⟩:=cU ee5;cases ee6;rw[Nat.one_mul,add_pos _ (n:=3) (by decide)]at Yo;simp only[go_sem,simprocAttr,bG,bH,cell_of (ot.at Hz Ψ),d2,Int.toNat_one,Nat.one_mul,Yo];have Yp:=vE.trans (aq ot);refine bN (cs:=cS) rfl rfl (Yp.at az (gh hc z1)) hv.len rfl hv.one ?_;intro w8 dW aZ kD;simp only[go_sem,simprocAttr,aM,RV.ev,aE (n:=3) dW hv.len,aN];exact⟨vO (lY.aI ot) (hv.aI (aq ot)) aZ hc.aT (jI hc z1),((aq bo).trans Yp).step aZ (fun b hb hl=>by omega)⟩
end
section
open Go Go.W
theorem QM{P:Program}{w:World}{ρ:Go.W.Env}{K:Value→World→Prop}{t el:TypeId}{len sz:Nat}{x i:Operand}{k:IntKind}{n:Int}{a:Addr}{dst:Option Nat}{ty:TypeId}{pos:String}{af:Array Edge}(hx:(bI x).ev ρ=some (.pointer (some a)))(hi:(bI i).ev ρ=some (.int k n))
   (ht:P.underlying t=some (.array len el)) (bV:jW P el=some sz) (h0:0<=n) (h1:n<len) (hk:K (.pointer (some (a.add (n.toNat*sz)))) w):Go.W.E.wp P w ρ K (.raw ⟨dst,.indexAddr t x i,ty,pos,af,none⟩):=by
 refine mz fun act ha=>⟨_,w,?_,hk⟩
 have g1:ro P w (underlying t)=some (.array len el):=by rw[jC,ht]
 have g2:ro P w (sizeOf el)=some sz:=by rw[wU];exact bV
 have g3:ro P w (Instr.indexAt t (.pointer (some a)) (.int k n))=some (.pointer (some (a.add (n.toNat*sz)))):=by
  simp only[Instr.indexAt,asIntOf,Instr.sureAddr,asAddr,dF,ig,Option.bind_some,g1,g2,if_pos (And.intro h0 h1),Option.map_some,Gw]
 simp only[execOp,ha x _ hx,ha i _ hi,Sem.run_bind,oL g3,Result.andThen_ok,Sem.run_pure]
theorem QN{E:Env}:∀ (l1 l2:List Ex) (st:St),dy E (l1++l2) st=(match dy E l1 st with
   |.error x=>.error x
   |.ok y=>match dy E l2 y.2 with
    |.error x=>.error x
    |.ok z=>.ok (y.1++z.1,z.2))
 |[],l2,st=>by
  rw[List.nil_append,dy];simp only;cases dy E l2 st<;>rfl
 |e::l1,l2,st=>by
  rw[List.cons_append,dy,dy];cases cM E e st with
  |error x=>rfl
  |ok y=>
   simp only;rw[QN l1 l2 y.2];cases dy E l1 y.2 with
   |error x=>rfl
   |ok z=>
    simp only;cases dy E l2 z.2<;>rfl
structure Yq (w:World) (S:Nat->Prop) (M:Ms) (E:Env) (b6 k:Nat) (l:List Ex) (st:St) (w2:World) (ts:List Ty) (eP:St) (cs:List Value):Prop where
 len:ts.length=k
 run:dy E (l.take k) st=.ok (ts,eP)
 ck:cL w S M E eP.1 eP.2
 gZ:dX E eP.2
 box:w.heap[b6]?=some (.cells cs.toArray 210 (0,0))
 HA:cs.length=6
 kinds:∀i,∀h:i<ts.length,cs[3*i]?=some (I ts[i].kind)
 mod:Mod (fun b=>M.two b\/b=b6) w2 w
theorem ahC{E:Env}(hE:nC E)(iW:eR E jq 0=false){e:Ex}(gX:e.args.length=2)(mW:(lV e.name).isSome=true)(ih:∀ u∈e.args,xD E u){w:World}{S:Nat→Prop}{M:Ms}{st:St}{cs:List Value}(hc:cL w S M E st.1 st.2)(hg:dX E st.2)(h:ci w (Out S w) cs e) :
   bu Tryz.prog 77 [ptr M.c,.agg cs.toArray] w fun r w'=>uh w' S M E r (match dy E e.args st with |.error x=>.error x |.ok y=>(sV e.name y.1).map (fun t=>(t,y.2)))/\Mod M.two w w':=by
 obtain⟨vt,va,vb,vl,rfl,ht,ha,hb,hl⟩:=h.parts;obtain⟨aa,ca,rfl⟩:=bq ha;refine γ Tryz.f77 ?_;refine σ ?_;refine bZ rfl ?_;intro w1 au ak cw;refine σ ?_;refine cX ?_;intro w2 az ai bU;refine σ ?_;refine cX ?_;intro w3 aS aw dU;have au:=(ai.trans aw).at au Ψ;have az:=aw.at az Ψ;have bz:=ak.trans (ai.trans aw);have z1:=ak.size;have z2:=ai.size;have kV:∀b,b<w.heap.size->aY (aY S w1.heap.size) w2.heap.size b->S b:=fun b hb hh=>by
  rcases hh with(h |h) |h
  .exact h
  .omega
  .omega
 have cT:cL w3 (aY (aY S w1.heap.size) w2.heap.size) M E st.1 st.2:=hc.ext bz kV (fun b hb=>.inl (.inl hb)) (fun b hb=>by
  rcases hb with(h |h) |h
  ·have:=hc.lt b h;omega
  ·omega
  ·omega)
 have S3:=cT.two;have AR:aX w3 (.slice aa e.args.length ca) 7 (Out (aY (aY S w1.heap.size) w2.heap.size) w3) (ci w3 (Out (aY (aY S w1.heap.size) w2.heap.size) w3)) e.args:=ha.up bz aA (fM (aq bz) kV) (fun _ _ h=>h.ext (aq bz) kV);have ref:∀ (w4:World) (ρ:Go.W.Env) (K:Value→World→Prop) (bd:cE) (lc:Loc),Mod (fun b=>M.two b∨b=w2.heap.size) w3 w4→cL w4 (aY (aY S w1.heap.size) w2.heap.size) M E bd lc→∀ p q:O,p.ev ρ=some (ptr w1.heap.size)→q.ev ρ=some (.agg cS.toArray) →
     (∀w5,w5.heap[w1.heap.size]?=some (.cells cS.toArray dH (0,0))->Mod M.two w w5->(∃bd lc,cL w5 S M E bd lc)->K undef w5)->Go.W.E.wp Tryz.prog w4 ρ K (.st 3 p q):=by
  intro w4 ρ K bd lc aD bK p q hp hq hk;exact jf hc z1 (aD.at az (fun hh=>by rcases hh with h |h;exact gh hc z1 h;omega)) ((aq bz:Mod M.two w w3).step aD (fun b hb hl=>by rcases hb with h |h;exact h;omega)) (bK.sub (fun b hb=>.inl hb) (fun b hb=>.inl (hc.aT b hb))) hp hq hk
 refine σ ?_;refine og (fun ρ w'=>∃ts eP cs,Yq w' (aY (aY S w1.heap.size) w2.heap.size) M E w2.heap.size 2 e.args st w3 ts eP cs/\ρ.get 3=some (ptr w.heap.size)/\ρ.get 4=some (ptr w1.heap.size)/\ρ.get 6=some (ptr w2.heap.size)) ?_ ?_
 .refine io (fun m ρ w'=>∃ k,m=2 - k∧k≤2∧∃ ts eP cs,Yq w' (aY (aY S w1.heap.size) w2.heap.size) M E w2.heap.size k e.args st w3 ts eP cs∧ρ=[(0,ptr M.c),(3,ptr w.heap.size),(4,ptr w1.heap.size),(6,ptr w2.heap.size),(12,I k)]) 2
   ⟨0,rfl,by omega,[],st,[I 0,.string bM,.slice none 0 0,I 0,.string bM,.slice none 0 0],⟨rfl,rfl,cT,hg,aS,rfl,fun i hi=>(by cases hi),.refl _ _⟩,rfl⟩ ?_
  rintro m _ w4 ⟨k,rfl,pW,ts,eP,cs,hi,rfl⟩;refine σ ?_;cases bg:decide ((k:Int)<2)with
  |false=>
   have hk:k=2:=by have:=of_decide_eq_false bg;omega
   subst hk;refine σ ?_;exact⟨ts,eP,cs,hi⟩
  |true=>
   have hk:k<2:=by have:=of_decide_eq_true bg;omega
   have CE:k<e.args.length:=by omega
   have QO:Mod (aY (aY S w1.heap.size) w2.heap.size) w3 w4:=hi.mod.aU (fun b hb=>by
    rcases hb with h |h
    ·exact S3 b h
    ·exact .inr h)
   have au:=hi.mod.at au (fun hh=>by rcases hh with h |h;exact gh hc (Nat.le_refl _) h;omega);have QK:=AR.up QO aW (br QO) (fun _ _ h=>h.aI QO);obtain⟨ad,c1,r1,e1,hx,sX⟩:=zm QK (i:=k) CE;obtain⟨rfl,-,-⟩:=cU e1;have b1:(0:Int)<=k/\(k:Int)<e.args.length:=by omega
   simp only[go_sem,simprocAttr,bG,bH,cell_of au,Value.cells,b1,sX];refine δ (by rfl) (ih _ (List.getElem_mem CE) hi.ck hi.gZ hx) ?_;rintro r5 w5 ⟨rY,aH⟩;have iV:Mod (fun b=>M.two b\/b=w2.heap.size) w3 w5:=hi.mod.trans (aH.aU (fun b h=>.inl h));have ahD:e.args=e.args.take k++(e.args[k]::e.args.drop (k+1)):=by rw[<- Ω CE,List.take_append_drop]
   cases cP:cM E e.args[k] eP with
   |error e3=>
    rw[cP]at rY;obtain⟨cz,bX,cJ,rfl,bJ,Lu,Hx,nD⟩:=rY;have jJ:(e3 != 0)=true:=by simpa using bJ
    have ff:dy E e.args st=.error e3:=by rw[ahD,QN,hi.run];simp only[dy,cP]
    rw[ff];refine σ ?_;refine eC (n:=3) (vs:=cz) rfl bX cJ ?_;intro w6 cH aG fw;simp only[go_sem,simprocAttr,jJ];refine ref w6 _ _ _ _ (iV.trans (aq aG)) (nD.aI aG) _ _ rfl rfl ?_;intro w7 dh aO bK;simp only[go_sem,simprocAttr,aM,RV.ev,aE (n:=3) dh rfl,aN];exact⟨.bad bJ bK,aO⟩
   |ok y1=>
    obtain⟨t1,eL⟩:=y1;rw[cP]at rY;obtain⟨⟨c5,rfl,pj⟩,lH⟩:=rY;have g1:=xC hE iW _ _ _ hi.gZ cP;refine σ ?_;refine eC (n:=3) (vs:=c5) rfl pj.len pj.one ?_;intro w6 cH aG fw;simp only[go_sem,simprocAttr,aE (n:=3) cH pj.len];refine QM (a:=⟨w2.heap.size,0,none⟩) (n:=(k:Int)) (len:=2) (el:=dH) (sz:=3) rfl rfl rfl KV (by omega) (by omega) ?_;have y9:¬M.two w2.heap.size:=gh hc (by omega);have QP:=aG.at (aH.at hi.box y9) Ψ;rw[Int.toNat_natCast,oa,Nat.zero_add];refine σ ?_;refine KB (cs:=cs) (off:=k*3) (vs:=c5) rfl rfl QP pj.len (by rw[hi.HA];omega) pj.one ?_;intro w7 dh aO jn;have hw:IntKind.i64.wrap ((k:Int)+1)=((k+1:Nat):Int):=by rw[dJ (by omega) (by omega)];omega
    simp only[go_sem,simprocAttr,hw];have sI:=Qf (xs:=cs) (tl:=[]) (vs:=c5) (o:=k*3) (by rw[pj.len,hi.HA];omega);rw[List.append_nil]at sI;rw[sI,List.append_nil]at dh;have mI:=(lH.aI aG).side aO (fun b hb=>.inr hb) (jI hc (by omega));obtain⟨v5,e5,_⟩:=pj.cells;have tV:=pj.len;refine⟨2-(k+1),by omega,k+1,rfl,by omega,ts++[t1],eL,_,⟨by simp[hi.len],?_,mI,g1.2,dh,?_,?_,?_⟩,rfl⟩
    .rw[List.take_succ_eq_append_getElem CE,QN,hi.run];simp only[dy,cP]
    .simp only[List.length_append,List.length_take,List.length_drop,hi.HA,tV];omega
    .intro i dZ;rw[List.length_append,hi.len]at dZ;simp only[List.length_cons,List.length_nil]at dZ;rcases Nat.lt_or_ge i k with hik |hik
     .rw[List.append_assoc,List.getElem?_append_left (by rw[List.length_take,hi.HA];omega),List.getElem?_take_of_lt (by omega),hi.kinds i (by rw[hi.len];exact hik)]
      congr 2
      rw[List.getElem_append_left (by rw[hi.len];exact hik)]
     .have hik:i=k:=by omega
      subst hik;rw[List.append_assoc,List.getElem?_append_right (by rw[List.length_take];omega),List.length_take,hi.HA,show 3*i-min (i*3) 6=0 by omega,e5];simp only[List.cons_append,List.getElem?_cons_zero,Option.some.injEq]
      congr 1
      rw[List.getElem_append_right (by rw[hi.len];omega)];simp[hi.len]
    .exact(iV.trans (aq aG)).trans (aO.aU (fun b h=>.inr h))
 .rintro ρ w4 ⟨ts,eP,cs,hi,g3,g4,g6⟩;have ui:=hi.run;rw[List.take_of_length_le (by omega)]at ui;rw[ui];obtain⟨a,b,uj⟩:=Lt hi.len;subst uj;have k0:cs[0]?=some (I a.kind):=hi.kinds 0 (by simp);have k3:cs[3]?=some (I b.kind):=hi.kinds 1 (by simp);have Hf:sV e.name [a,b]=if(a.kind != 1||b.kind != 1)=true then .error 83 else .ok ((lV e.name).getD default):=rfl
  have c0:w4.cell? ⟨w2.heap.size,0,none⟩=some (I a.kind):=by rw[cell_of hi.box,List.getElem?_toArray];exact k0
  have c3:w4.cell? ⟨w2.heap.size,3,none⟩=some (I b.kind):=by rw[cell_of hi.box,List.getElem?_toArray];exact k3
  have au:=hi.mod.at au (fun hh=>by rcases hh with h |h;exact gh hc (Nat.le_refl _) h;omega);simp only[go_sem,simprocAttr,g3,g4,g6];refine QM (a:=⟨w2.heap.size,0,none⟩) (n:=0) (len:=2) (el:=dH) (sz:=3) g6 rfl rfl KV (by omega) (by omega) ?_;rw[show(0:Int).toNat*3=0 from rfl,add_zero'];simp only[go_sem,simprocAttr,g3,g4,g6,c0];cases CE:a.kind != 1 with
  |true=>
   have HB:sV e.name [a,b]=.error 83:=by rw[Hf,if_pos (by rw[CE];rfl)]
   rw[HB];simp only[go_sem,simprocAttr,g3,g4,g6];refine ref w4 _ _ _ _ hi.mod hi.ck _ _ rfl rfl ?_;intro w7 dh aO bK;simp only[go_sem,simprocAttr,aM,RV.ev,aE (n:=3) dh rfl,aN];exact⟨.bad (by decide) bK,aO⟩
  |false=>
   simp only[go_sem,simprocAttr,g3,g4,g6];refine Cz ?_;refine QM (a:=⟨w2.heap.size,0,none⟩) (n:=1) (len:=2) (el:=dH) (sz:=3) g6 rfl rfl KV (by omega) (by omega) ?_;rw[show(1:Int).toNat*3=3 from rfl,oa,Nat.zero_add];simp only[go_sem,simprocAttr,g3,g4,g6,c3];cases EY:b.kind != 1 with
   |true=>
    have HB:sV e.name [a,b]=.error 83:=by rw[Hf,if_pos (by rw[EY];simp)]
    rw[HB];simp only[go_sem,simprocAttr,g3,g4,g6];refine ref w4 _ _ _ _ hi.mod hi.ck _ _ rfl rfl ?_;intro w7 dh aO bK;simp only[go_sem,simprocAttr,aM,RV.ev,aE (n:=3) dh rfl,aN];exact⟨.bad (by decide) bK,aO⟩
   |false=>
    have HB:sV e.name [a,b]=.ok ((lV e.name).getD default):=by rw[Hf,if_neg (by rw[CE,EY];simp)]
    rw[HB];simp only[go_sem,simprocAttr,g3,g4,g6,cell_of au,Value.cells];refine δ (by rfl) (XB e.name) ?_;rintro _ w5 ⟨rfl,aH⟩;obtain⟨t,ht⟩:=Option.isSome_iff_exists.1 mW;have rR:t=.mk t.kind t.name []:=by
     unfold lV at ht
     split at ht
     .cases ht;rfl
     .split at ht
      .cases ht;rfl
      .cases ht
    have qY:y8 e.name=fG t.kind t.name:=by rw[y8,ht]
    rw[qY,ht];refine σ ?_;refine eC (n:=3) (vs:=fG t.kind t.name) rfl rfl (oo _ _) ?_;intro w6 cH aG fw;simp only[go_sem,simprocAttr,aE (n:=3) cH rfl];have HC:=aH.trans aG;have az:=(hi.mod.trans (aq HC)).at az (fun hh=>by rcases hh with h |h;exact gh hc z1 h;omega);refine bN (vs:=fG t.kind t.name) (cs:=cS) rfl rfl az rfl rfl (oo _ _) ?_;intro w7 dh aO jn;simp only[go_sem,simprocAttr,aM,RV.ev,aE (n:=3) dh rfl,aN];have lY:=(hi.ck.aI HC).sub (S:=aY S w1.heap.size) (fun b hb=>.inl hb) (fun b hb=>.inl (hc.aT b hb));have bL:aR w6 (Out (aY S w1.heap.size) w6) (fG t.kind t.name) t:=by
     have:=om w6 (Out (aY S w1.heap.size) w6) t.kind t.name;rw[<- rR]at this;exact this
    exact⟨vO lY bL aO hc.aT (jI hc z1),((aq bz:Mod M.two w w3).step (hi.mod.trans (aq HC)) (fun b hb hl=>by rcases hb with h |h;exact h;omega)).step aO (fun b hb hl=>by omega)⟩
end
section
open Go Go.W
section
variable {w:World} {ρ:Go.W.Env} {K:Value->World->Prop} {S:Nat->Prop} {M:Ms} {E:Env} {bd:cE} {lc:Loc} {n:ByteArray} {m x y:Operand} {d:Option Nat} {ty:TypeId} {pos:String} {af:Array Edge}
theorem QQ(hc:cL w S M E bd lc):M.mb≠M.ml:=(Ms.ne hc.nodup).2.2.2.2.2
theorem QR{cs:List Value}{t:Ty}(hc:cL w S M E bd lc)(hm:(bI m).ev ρ=some (.map (some M.ml)))(hx:(bI x).ev ρ=some (.string n))(hy:(bI y).ev ρ=some (.agg cs.toArray))(ht:aR w (Out S w) cs t)
   (hk:∀w',cL w' S M E bd (bS lc n t)->Mod M.two w w'->w'.heap.size=w.heap.size->K undef w'):Go.W.E.wp Tryz.prog w ρ K (.raw ⟨d,.mapUpdate 125 m x y,ty,pos,af,none⟩):=by
 refine lW (kt:=9) (et:=dH) hm hx hy rfl rfl hc.locals ⟨cs,rfl,ht⟩ ?_;intro w' h1 h2 h3;have jD:Mod M.two w w':=h2.aU (fun b hb=>.inr hb);have cA:=jD.aU hc.two;exact hk w' (hc.fm jD (hc.jt.mod h2 (fun e=>QQ hc e) (fun _ _ x=>x)) (bQ.mod h1 (Mod.refl (fun _=>False) w') Ψ (fun _ _ x=>x.up cA aW (br cA)))) jD h3
theorem Lw{at':Array TypeId}(gB:at'[0]? = some 125)(hc:cL w S M E bd lc)(hm:(bI m).ev ρ=some (.map (some M.ml)))(hx:(bI x).ev ρ=some (.string n))
   (hk:∀w',cL w' S M E bd (gq lc n)->Mod M.two w w'->w'.heap.size=w.heap.size->K (.tuple #[]) w'):Go.W.E.wp Tryz.prog w ρ K (.raw ⟨d,.call { callee:=.builtin .delete,args:=#[m,x],argTypes:=at'},ty,pos,af,none⟩):=by
 refine XP (kt:=9) (et:=dH) gB hm hx rfl rfl hc.locals ?_;intro w' h1 h2 h3;have jD:Mod M.two w w':=h2.aU (fun b hb=>.inr hb);have cA:=jD.aU hc.two;exact hk w' (hc.fm jD (hc.jt.mod h2 (fun e=>QQ hc e) (fun _ _ x=>x)) (bQ.mod h1 (Mod.refl (fun _=>False) w') Ψ (fun _ _ x=>x.up cA aW (br cA)))) jD h3
theorem ahE(hc:cL w S M E bd lc)(hm:(bI m).ev ρ=some (.map (some M.mb)))(hx:(bI x).ev ρ=some (.string n))(hy:(bI y).ev ρ=some (I 1))
   (hk:∀w',cL w' S M E (bS bd n 1) lc->Mod M.two w w'->w'.heap.size=w.heap.size->K undef w'):Go.W.E.wp Tryz.prog w ρ K (.raw ⟨d,.mapUpdate 65 m x y,ty,pos,af,none⟩):=by
 refine lW (kt:=9) (et:=3) hm hx hy rfl rfl hc.jt (show RI (I 1) 1 from rfl) ?_;intro w' h1 h2 h3;have jD:Mod M.two w w':=h2.aU (fun b hb=>.inl hb);exact hk w' (hc.fm jD h1 (hc.locals.ty h2 (fun x hx=>by subst hx;exact hc.two _ (.inl rfl)) (fun e=>QQ hc e.symm))) jD h3
end
theorem CF{w:World}{B:Nat→Prop}{b:Bd}{cs:List Value}{bb:Nat}{T:Nat}(h:eh w B cs b)(hb:w.heap[bb]? = some (.cells cs.toArray T (0,0))) :
   ∃tc ec,cs=.string b.name::(tc++ec)/\aR w B tc b.type/\ci w B ec b.value/\f' w 3 (.pointer (some ⟨bb,1,none⟩))=some (.agg tc.toArray)/\f' w 7 (.pointer (some ⟨bb,4,none⟩))=some (.agg ec.toArray)/\w.cell? ⟨bb,0,none⟩=some (.string b.name)/\cs.length=11:=by
 obtain⟨tc,ec,rfl,fO,iI,ph⟩:=h;have l1:=fO.len;have l2:=iI.len;refine⟨tc,ec,rfl,fO,iI,?_,?_,by rw[cell_of hb];simp,by simp;omega⟩
 .have:=jm (off:=1) (n:=3) hb (by simp;omega)
  rwa[List.drop_succ_cons,List.drop_zero,List.take_left' l1]at this
 .have:=jm (off:=4) (n:=7) hb (by simp;omega)
  rwa[List.drop_succ_cons,List.drop_left' l1,List.take_of_length_le (by omega)]at this
theorem eh.up{w w':World}{B B' S:Nat->Prop}{cs:List Value}{b:Bd}(h:eh w B cs b)(hm:Mod S w w')(hd:∀b,B b->¬S b)(hB:∀b,B b->B' b):eh w' B' cs b:=by
 obtain⟨tc,ec,e,h1,h2,hn⟩:=h;exact⟨tc,ec,e,h1.up hm hd hB,h2.up hm hd hB,hn⟩
theorem jc.up{w w':World}{B B' S:Nat->Prop}{cs:List Value}{a:Al}(h:jc w B cs a)(hm:Mod S w w')(hd:∀b,B b->¬S b)(hB:∀b,B b->B' b):jc w' B' cs a:=by
 obtain⟨vv,ec,e,h1,h2⟩:=h;exact⟨vv,ec,e,h1.up hm hd hB (fun _ _ h=>h),h2.up hm hd hB⟩
theorem eh.aI{w w':World}{S:Nat->Prop}{cs:List Value}{b:Bd}(h:eh w (Out S w) cs b)(hm:Mod S w w'):eh w' (Out S w') cs b:=h.up hm aW (br hm)
end
section
open Go Go.W
theorem ahF{E:Env}(hE:nC E)(iW:eR E jq 0=false){e x:Ex}{b:Bd}(iq:e.args=[x])(iK:e.binds=[b])(ku:xD E x){w:World}{S:Nat→Prop}{M:Ms}{st:St}{cs:List Value}(hc:cL w S M E st.1 st.2)(hg:dX E st.2)(h:ci w (Out S w) cs e) :
   bu Tryz.prog 78 [ptr M.c,.agg cs.toArray] w fun r w'=>uh w' S M E r (match lE E b st.1 with
       |.error x=>.error x
       |.ok bd=>match dy E e.args (bd,bS st.2 b.name b.type)with
        |.error x=>.error x
        |.ok y=>(sW b y.1).map (fun t=>(t,(y.2.1,gq y.2.2 b.name))))/\Mod M.two w w':=by
 obtain⟨vt,va,vb,vl,rfl,ht,ha,hb,hl⟩:=h.parts;obtain⟨aa,ca,rfl⟩:=bq ha;obtain⟨ab,cb,rfl⟩:=bq hb;refine γ Tryz.f78 ?_;refine σ ?_;refine bZ rfl ?_;intro w1 au ak cw;refine σ ?_;refine cX ?_;intro w2 az ai bU;have au:=ai.at au Ψ;have bo:=ak.trans ai;have z1:=ak.size
 have gv:cL w2 (aY S w1.heap.size) M E st.1 st.2:=hc.ext bo (fZ z1) (fun b hb=>.inl hb) (fun b hb=>by
  rcases hb with h |h
  ·have:=hc.lt b h;omega
  ·omega)
 have S2:=gv.two;have lx:e.args.length=1:=by rw[iq];rfl
 have lb:e.binds.length=1:=by rw[iK];rfl
 have vP:aX w2 (.slice aa e.args.length ca) 7 (Out (aY S w1.heap.size) w2) (ci w2 (Out (aY S w1.heap.size) w2)) e.args:=ha.up bo aA (fM (aq bo) (fZ z1)) (fun _ _ h=>h.ext (aq bo) (fZ z1));have oZ:aX w2 (.slice ab e.binds.length cb) 11 (Out (aY S w1.heap.size) w2) (eh w2 (Out (aY S w1.heap.size) w2)) e.binds:=hb.up bo aA (fM (aq bo) (fZ z1)) (fun _ _ h=>h.up bo aA (fM (aq bo) (fZ z1)));have b1:(0:Int)<=0/\(0:Int)<e.args.length:=by omega
 have b2:(0:Int)<=0/\(0:Int)<e.binds.length:=by omega
 obtain⟨EZ,c2,rb,e2,eV,Yr,Ys,_⟩:=dT oZ (i:=0) (by omega);obtain⟨rfl,-,-⟩:=cU e2;have exb:e.binds[0]'(by omega)=b:=by simp[iK]
 have CC:e.args[0]'(by omega)=x:=by simp[iq]
 rw[exb]at eV;rw[Nat.zero_mul,add_zero']at Ys;simp only[go_sem,simprocAttr,bG,bH,cell_of au,Value.cells,b2,Nat.zero_mul,Ys];refine eC (n:=11) (vs:=rb) rfl Yr eV.one ?_;intro w3 aS aw dU;have cT:=gv.aI aw;simp only[go_sem,simprocAttr,aE (n:=11) aS Yr];refine δ (by rfl) (XX (B:=fun _=>False) b cT (eV.aI (aq aw))) ?_;rintro r4 w4 ⟨nE,aD⟩;have j9:Mod M.two w2 w4:=(aq aw).trans aD;cases AS:lE E b st.1 with
 |error e4=>
  rw[AS]at nE;obtain⟨rfl,bJ,Yt,nD⟩:=nE;have jJ:(e4 != 0)=true:=by simpa using bJ
  simp only[go_sem,simprocAttr,jJ];refine jf hc z1 (j9.at az (gh hc z1)) ((aq bo).trans j9) nD rfl rfl ?_;intro w5 bY aH bK;simp only[go_sem,simprocAttr,aM,RV.ev,aE (n:=3) bY rfl,aN];exact⟨.bad bJ bK,aH⟩
 |ok bd=>
  rw[AS]at nE;obtain⟨rfl,lG⟩:=nE;have Lx:=EV AS;have QS:¬M.two w2.heap.size:=gh hc (by omega);have aS:=aD.at aS QS;have d4:Mod (fun _=>False) w4 w4.drew:=(Mod.refl _ _).drew;have QT:=lG.aI d4;have Yu:=eV.aI ((j9.trans (aq d4)).aU S2);obtain⟨tc,ec,rfl,AT,xE,k1,k2,k0,kl⟩:=CF Yu aS;have HD:f' w4 3 (.pointer (some ⟨w2.heap.size,1,none⟩))=some (.agg tc.toArray):=by rw[<- cY];exact k1
  have CG:w4.cell? ⟨w2.heap.size,0,none⟩=some (.string b.name):=k0;simp only[go_sem,simprocAttr,cell_of lG.box,CG,cY,HD];refine QR (n:=b.name) QT rfl rfl rfl AT ?_;intro w5 lH aH eY;have sY:Mod M.two w2 w5:=j9.trans ((aq d4).trans aH);have au:=sY.at au (gh hc (Nat.le_refl _));have QU:=vP.up sY (fun b hb hh=>hb.2 (S2 b hh)) (br (sY.aU S2)) (fun _ _ h=>h.aI (sY.aU S2));obtain⟨ad,c1,r1,e1,hx,sX⟩:=zm QU (i:=0) (by omega);obtain⟨rfl,-,-⟩:=cU e1;rw[CC]at hx;rw[Nat.zero_mul,add_zero']at sX;have kg:dX E (bS st.2 b.name b.type):=hg.put Lx;rw[iq];simp only[dy];simp only[go_sem,simprocAttr,bG,bH,cell_of au,Value.cells,b1,Nat.zero_mul,sX];refine δ (by rfl) (ku (st:=(bd,bS st.2 b.name b.type)) lH kg hx) ?_;rintro r6 w6 ⟨qc,aG⟩;have vE:=sY.trans aG;have aS:=(aH.trans aG).at aS QS;cases cP:cM E x (bd,bS st.2 b.name b.type)with
  |error e6=>
   rw[cP]at qc;obtain⟨cz,bX,cJ,rfl,bJ,bd6,lc6,lY⟩:=qc;refine σ ?_;refine eC (n:=3) (vs:=cz) rfl bX cJ ?_;intro w7 dh aO jn;have mI:=(lY.aI aO).aI (Mod.refl _ _).drew;have aS:=aO.at aS Ψ;have QV:w7.cell? ⟨w2.heap.size,0,none⟩=some (.string b.name):=by rw[cell_of aS];simp
   simp only[go_sem,simprocAttr,cell_of mI.box,cell_of (lY.aI aO).box,QV];refine Lw (n:=b.name) rfl mI rfl rfl ?_;intro w8 pn aZ kD;have E0:Mod M.two w2 w8:=(vE.trans (aq aO)).trans aZ.dG;have jJ:(e6 != 0)=true:=by simpa using bJ
   simp only[go_sem,simprocAttr,jJ];refine jf hc z1 (E0.at az (gh hc z1)) ((aq bo).trans E0) pn rfl rfl ?_;intro w9 di aQ bK;simp only[go_sem,simprocAttr,aM,RV.ev,aE (n:=3) di rfl,aN];exact⟨.bad bJ bK,aQ⟩
  |ok y1=>
   obtain⟨t1,eL⟩:=y1;rw[cP]at qc;obtain⟨⟨c6,rfl,xF⟩,lY⟩:=qc;have g6:=xC hE iW x _ _ kg cP;refine σ ?_;refine eC (n:=3) (vs:=c6) rfl xF.len xF.one ?_;intro w7 dh aO jn;have mI:=(lY.aI aO).aI (Mod.refl _ _).drew;have aS:=aO.at aS Ψ;have QV:w7.cell? ⟨w2.heap.size,0,none⟩=some (.string b.name):=by rw[cell_of aS];simp
   simp only[go_sem,simprocAttr,cell_of mI.box,cell_of (lY.aI aO).box,QV];refine Lw (n:=b.name) rfl mI rfl rfl ?_;intro w8 pn aZ kD;have HE:Mod M.two w7 w8:=aZ.dG;have Ly:Mod M.two w4 w8:=((aq d4).trans aH).trans (aG.trans ((aq aO).trans HE));have E0:Mod M.two w2 w8:=j9.trans Ly;have aS:=HE.at aS QS;have dh:=HE.at dh (gh hc (by have:=vE.size;omega));have Yv:=Yu.aI (((aH.trans aG).trans ((aq aO).trans HE)).aU S2);have jw:aR w8 (Out (aY S w1.heap.size) w8) c6 t1:=(xF.aI (aq aO)).aI (HE.aU S2);obtain⟨QW,ec',e8,Yw,_,Lz,_,_,_⟩:=CF Yv aS;have e8:tc=QW:=by
    have:=congrArg (fun l=>(l.drop 1).take 3) e8
    simpa[List.take_left' AT.len,List.take_left' Yw.len]using this
   subst e8;have Yx:sW b [t1]=if Wr (Wr (b.type.size+t1.size)+1)>500 then .error 83 else .ok (lA b.type t1):=rfl
   have aqC:w8.drew.heap[w6.heap.size]?=_:=dh;simp only[go_sem,simprocAttr,Lz,cY,aE (n:=3) dh xF.len];refine δ (by rfl) (EH b.type (Yw.mod (Mod.refl (fun _=>False) w8).drew aA)) ?_;rintro _ w9 ⟨rfl,aQ⟩;have aQ:=aQ.dG;refine σ ?_;refine⟨by rw[aQ.bO _ (bP dh) Ψ],?_⟩;refine δ (by rfl) (EH t1 (jw.mod aQ aA)) ?_;rintro _ cD ⟨rfl,bD⟩;have AU:Mod (fun _=>False) w8 cD:=aQ.trans bD;have sZ:=pn.aI AU;refine σ ?_;cases sR:decide (IntKind.i64.wrap (IntKind.i64.wrap (b.type.size+t1.size)+1)>500)with
   |true=>
    have QX:sW b [t1]=.error 83:=by rw[Yx,if_pos (of_decide_eq_true sR)]
    rw[QX];refine σ ?_;refine jf hc z1 ((E0.trans (aq AU)).at az (gh hc z1)) ((aq bo).trans (E0.trans (aq AU))) sZ rfl rfl ?_;intro eE hZ cI bK;simp only[go_sem,simprocAttr,aM,RV.ev,aE (n:=3) hZ rfl,aN];exact⟨.bad (by decide) bK,cI⟩
   |false=>
    have QX:sW b [t1]=.ok (lA b.type t1):=by rw[Yx,if_neg (of_decide_eq_false sR)]
    rw[QX];obtain⟨ahG,aqD,xG,Yy,_,ahH,_,_,_⟩:=CF (Yv.aI (aq AU)) (AU.at aS Ψ);have xG:tc=ahG:=by
     have:=congrArg (fun l=>(l.drop 1).take 3) xG
     simpa[List.take_left' AT.len,List.take_left' Yy.len]using this
    subst xG;simp only[go_sem,simprocAttr,ahH,aE (n:=3) (AU.at dh Ψ) xF.len];refine δ (by rfl) (XA (fun b hb=>sZ.lt b hb) Yy (jw.aI (aq AU))) ?_;rintro _ eE ⟨⟨cf,rfl,zn⟩,cI⟩;have Yz:=E0.trans (aq (AU.trans cI));refine σ ?_;refine bN (cs:=cS) rfl rfl (Yz.at az (gh hc z1)) zn.len rfl zn.one ?_;intro dQ je ei AV;simp only[go_sem,simprocAttr,aM,RV.ev,aE (n:=3) je zn.len,aN];exact⟨vO (st:=(eL.1,gq eL.2 b.name)) (sZ.aI cI) zn ei hc.aT (jI hc z1),((aq bo).trans Yz).step ei (fun b hb hl=>by omega)⟩
end
section
open Go Go.W
theorem ahI{l:List Bd}{i:Nat}(hi:i<l.length)(lc:Loc):dA (l.drop i) lc=dA (l.drop (i+1)) (bS lc l[i].name l[i].type):=by rw[Ω hi,dA]
theorem ahJ{E:Env}{l:List Bd}{i:Nat}(hi:i<l.length)(bd:cE):lX E (l.drop i) bd=(match lE E l[i] bd with |.error x=>.error x |.ok eZ=>lX E (l.drop (i+1)) eZ):=by rw[Ω hi,lX];try rfl
theorem ahK{E:Env}{l:List Bd}{i:Nat}(hi:i<l.length)(st:St):lF E (l.drop i) st=(match cM E l[i].value st with |.error x=>.error x |.ok y=>if fY y.1 l[i].type=true then lF E (l.drop (i+1)) y.2 else .error 83):=by rw[Ω hi,Hu];try rfl
theorem ahL{l:List Bd}{i:Nat}(hi:i<l.length)(lc:Loc):ow (l.drop i) lc=ow (l.drop (i+1)) (gq lc l[i].name):=by rw[Ω hi,ow,List.map_cons,kF,ow]
theorem ahM:Fn 104:=⟨_,rfl,rfl,rfl⟩
theorem YA{E:Env}{e:Ex}{w:World}{S:Nat→Prop}{M:Ms}{bd:cE}{lc:Loc}{cs:List Value}{b2 b3:Nat}(hc:cL w S M E bd lc)(h:ci w (Out S w) cs e)(aS:w.heap[b3]? = some (.cells cs.toArray 57 (0,0)))(az:w.heap[b2]? = some (.cells #[ptr M.c] 109 (0,0)))(n3:¬ M.two b3)(n2:¬ M.two b2) :
   bu Tryz.prog 104 [ptr b3,ptr b2] w fun r w'=>cL w' S M E bd (dA e.binds lc)/\Mod M.two w w':=by
 obtain⟨vt,va,vb,vl,rfl,ht,ha,hb,hl⟩:=h.parts;obtain⟨ab,cb,rfl⟩:=bq hb;refine γ Tryz.f104 ?_;simp only[go_sem,simprocAttr,cell_of aS];have S2:=hc.two;refine j7 (PP:=fun w'=>eh w' (Out S w)) (l:=e.binds) (B:=Out S w) (fun k ρ w'=>k<=e.binds.length/\Mod M.two w w'/\(∃kh,cL w' S M E bd kh/\dA (e.binds.drop k) kh=dA e.binds lc)/\ρ=[(1,ptr b2),(5,.slice ab e.binds.length cb),(6,I e.binds.length),(7,I k)])
  ⟨by omega,.refl _ _,⟨lc,hc,rfl⟩,rfl⟩ hb ?_ (fun _ _ _ h=>h.one) rfl ?_ ?_
 .rintro k _ w2 ⟨hk,ai,_,rfl⟩;exact⟨⟨hb.up ai (fun b hb hh=>hb.2 (S2 b hh)) (fun _ h=>h) (fun _ _ h=>h.up ai (fun b hb hh=>hb.2 (S2 b hh)) (fun _ h=>h)),hk⟩,rfl,rfl,rfl⟩
 .rintro k _ w2 hk w3 r b pv ⟨_,ai,⟨kh,bK,se⟩,rfl⟩ hr cG bm aw hnb;have gi:eh w3.drew (Out S w3.drew) r e.binds[k]:=hr.up aw.drew aA (fun b hb=>⟨by have:=hb.1;have:=ai.size;have:=aw.size;have e:w3.drew.heap.size=w3.heap.size:=rfl;omega,hb.2⟩);have ahN:w3.drew.heap[b]?=_:=bm;obtain⟨tc,ec,rfl,AT,xE,k1,k2,k0,kl⟩:=CF gi ahN;have cT:=bK.aI aw;have oZ:=(ai.trans (aq aw)).at az n2;have HD:f' w3 3 (.pointer (some ⟨b,1,none⟩))=some (.agg tc.toArray):=by rw[<- cY];exact k1
  have CG:w3.cell? ⟨b,0,none⟩=some (.string e.binds[k].name):=k0;simp only[go_sem,simprocAttr,cell_of oZ,cell_of cT.box,CG,cY,HD];refine QR (n:=e.binds[k].name) (cT.aI (Mod.refl _ _).drew) rfl rfl rfl AT ?_;intro w5 lH aH eY;refine σ ?_;exact⟨hk,(ai.trans (aq aw)).trans aH.dG,_,lH,by rw[<- se,ahI hk]⟩
 .rintro _ w2 ⟨_,ai,⟨kh,bK,se⟩,rfl⟩;rw[List.drop_length,dA]at se;subst se;refine σ ?_;exact⟨bK,ai⟩
def Kept(w:World)(S:Nat->Prop)(M:Ms)(E:Env)(cz:List Value)(u:Value)(x:Except Int (Ty×St)):Prop:=match x with
 |.error e=>u=I e/\e≠0/\∃bd lc,cL w S M E bd lc
 |.ok y=>u=I 0/\aR w (Out S w) cz y.1/\cL w S M E y.2.1 y.2.2
theorem YB{E:Env}(hE:nC E)(iW:eR E jq 0=false){e x:Ex}(iq:e.args=[x])(ku:xD E x)(vm:∀ b∈e.binds,xD E b.value){w:World}{S:Nat→Prop}{M:Ms}{st:St}{cs:List Value}(hc:cL w S M E st.1 st.2)(hg:dX E st.2)(h:ci w (Out S w) cs e) :
   bu Tryz.prog 79 [ptr M.c,.agg cs.toArray] w fun r w'=>uh w' S M E r (match lX E e.binds st.1 with
    |.error x=>.error x
    |.ok bd=>match lF E e.binds (bd,if e.kind=7 then dA e.binds st.2 else st.2)with
     |.error x=>.error x
     |.ok cQ=>match dy E e.args (cQ.1,dA e.binds cQ.2)with
      |.error x=>.error x
      |.ok y=>.ok (y.1.headD default,(y.2.1,ow e.binds y.2.2)))/\Mod M.two w w':=by
 obtain⟨vt,va,vb,vl,rfl,ht,ha,hb,hl⟩:=h.parts;obtain⟨aa,ca,rfl⟩:=bq ha;obtain⟨ab,cb,rfl⟩:=bq hb;obtain⟨fn1,ej,jl,kR⟩:=ahM.ok;refine γ Tryz.f79 ?_;refine φ ?_;refine bZ rfl ?_;intro wa CH qZ wZ;refine φ ?_;refine bZ rfl ?_;intro wb fN lU LA;refine φ ?_;refine cX ?_;intro w3 bm nF hsc;have aS:=nF.at fN Ψ;have az:=(lU.trans nF).at CH Ψ;have bz:=qZ.trans (lU.trans nF);have za:=qZ.size;have zb:=lU.size;have zw:w.heap.size<=wb.heap.size:=by omega
 have cT:cL w3 (aY S wb.heap.size) M E st.1 st.2:=hc.ext bz (fZ zw) (fun b hb=>.inl hb) (fun b hb=>by
  rcases hb with h |h
  ·have:=hc.lt b h;omega
  ·omega)
 have S3:=cT.two;have n2:¬M.two w.heap.size:=gh hc (Nat.le_refl _);have n3:¬M.two wa.heap.size:=gh hc za;have n4:¬M.two wb.heap.size:=gh hc zw;have lx:e.args.length=1:=by rw[iq];rfl
 have xH:ci w3 (Out (aY S wb.heap.size) w3) [I e.kind,.string e.name,I e.num,vt,.slice aa e.args.length ca,.slice ab e.binds.length cb,vl] e:=h.ext (aq bz) (fZ zw);have AR:aX w3 (.slice aa e.args.length ca) 7 (Out (aY S wb.heap.size) w3) (ci w3 (Out (aY S wb.heap.size) w3)) e.args:=ha.up bz aA (fM (aq bz) (fZ zw)) (fun _ _ h=>h.ext (aq bz) (fZ zw));have LB:aX w3 (.slice ab e.binds.length cb) 11 (Out (aY S wb.heap.size) w3) (eh w3 (Out (aY S wb.heap.size) w3)) e.binds:=hb.up bz aA (fM (aq bz) (fZ zw)) (fun _ _ h=>h.up bz aA (fM (aq bz) (fZ zw)));have later:∀{w':World},Mod M.two w3 w'->aX w' (.slice ab e.binds.length cb) 11 (Out (aY S wb.heap.size) w3) (eh w' (Out (aY S wb.heap.size) w3)) e.binds:=fun hm=>
  LB.up hm (fun b hb hh=>hb.2 (S3 b hh)) (fun _ h=>h) (fun _ _ h=>h.up hm (fun b hb hh=>hb.2 (S3 b hh)) (fun _ h=>h))
 have now:∀{w' eI:World} {r:List Value} {b:Bd},Mod M.two w3 w'->Mod (fun _=>False) w' eI->eh w' (Out (aY S wb.heap.size) w3) r b->eh eI (Out (aY S wb.heap.size) eI) r b:=fun hm iD hr=>
  hr.up iD aA (fun b hb=>⟨by have:=hb.1;have:=hm.size;have:=iD.size;omega,hb.2⟩)
 simp only[go_sem,Nat.reduceAdd,Nat.reduceEqDiff,Nat.reduceLT,Nat.reduceLeDiff,Nat.reduceMul,reduceCtorEq,↓reduceIte,cell_of aS,Value.cells];refine j7 (PP:=fun w'=>eh w' (Out (aY S wb.heap.size) w3)) (l:=e.binds) (B:=Out (aY S wb.heap.size) w3) (fun k ρ w'=>k<=e.binds.length/\Mod M.two w3 w'/\(∃vQ,cL w' (aY S wb.heap.size) M E vQ st.2/\lX E (e.binds.drop k) vQ=lX E e.binds st.1)/\ρ=[(2,ptr w.heap.size),(3,ptr wa.heap.size),(4,ptr wb.heap.size),(19,.slice ab e.binds.length cb),(20,I e.binds.length),(21,I k)])
  ⟨by omega,.refl _ _,⟨st.1,cT,rfl⟩,rfl⟩ LB ?_ (fun _ _ _ h=>h.one) rfl ?_ ?_
 .rintro k _ w4 ⟨hk,aD,_,rfl⟩;exact⟨⟨later aD,hk⟩,rfl,rfl,rfl⟩
 .rintro k _ w4 hk w5 r b7 pv ⟨_,aD,⟨vQ,bK,eN⟩,rfl⟩ hr cG dh aH _;have iV:=aD.trans (aq aH);simp only[go_sem,Nat.reduceAdd,Nat.reduceEqDiff,Nat.reduceLT,Nat.reduceLeDiff,Nat.reduceMul,reduceCtorEq,↓reduceIte,cell_of (iV.at az n2),Value.cells,aE (n:=11) dh cG];refine δ (by rfl) (XX (B:=fun _=>False) e.binds[k] (bK.aI aH) (now aD aH hr)) ?_;rintro r6 w6 ⟨qc,aG⟩;have E3:=iV.trans aG;rw[ahJ hk]at eN;cases AS:lE E e.binds[k] vQ with
  |error e4=>
   rw[AS]at qc eN;obtain⟨rfl,bJ,Yt,nD⟩:=qc;have jJ:(e4 != 0)=true:=by simpa using bJ
   rw[<- eN];simp only[go_sem,Nat.reduceAdd,Nat.reduceEqDiff,Nat.reduceLT,Nat.reduceLeDiff,Nat.reduceMul,reduceCtorEq,↓reduceIte,jJ];refine jf hc zw (E3.at bm n4) ((aq bz).trans E3) nD rfl rfl ?_;intro w7 dh aO bK;simp only[go_sem,Nat.reduceAdd,Nat.reduceEqDiff,Nat.reduceLT,Nat.reduceLeDiff,Nat.reduceMul,reduceCtorEq,↓reduceIte,aM,RV.ev,aE (n:=3) dh rfl,aN];exact⟨.bad bJ bK,aO⟩
  |ok eZ=>
   rw[AS]at qc eN;obtain⟨rfl,lY⟩:=qc;refine φ ?_;exact⟨hk,E3,eZ,lY,eN⟩
 rintro _ w4 ⟨_,aD,⟨bd,lG,eN⟩,rfl⟩;rw[List.drop_length,lX]at eN;rw[<- eN];have Lx:=QG e.binds eN.symm;have aS:=aD.at aS n3;simp only[go_sem,Nat.reduceAdd,Nat.reduceEqDiff,Nat.reduceLT,Nat.reduceLeDiff,Nat.reduceMul,reduceCtorEq,↓reduceIte,cell_of aS,Value.cells];refine Ca (fun ρ w'=>Mod M.two w3 w'/\cL w' (aY S wb.heap.size) M E bd (if e.kind=7 then dA e.binds st.2 else st.2)/\ρ.get 2=some (ptr w.heap.size)/\ρ.get 3=some (ptr wa.heap.size)/\ρ.get 4=some (ptr wb.heap.size)/\ρ.get 9=some (.func (.func 104) #[] #[ptr wa.heap.size,ptr w.heap.size])) ?_ ?_
 .cases YC:e.kind == 7 with
  |false=>refine φ ?_;exact⟨aD,by rw[if_neg (by simpa using YC)];exact lG⟩
  |true=>
   refine φ ?_;refine Cb (f:=104) (cap:=#[ptr wa.heap.size,ptr w.heap.size]) rfl (by rfl) ej jl kR ?_;refine(YA lG (xH.aI (aD.aU S3)) aS (aD.at az n2) n3 n2).mono ?_;rintro r5 w5 ⟨lH,aH⟩;refine φ ?_;exact⟨aD.trans aH,by rw[if_pos (by simpa using YC)];exact lH⟩
 rintro ρ w5 ⟨aH,lH,g2,g3,g4,g9⟩;generalize ahO:(if e.kind=7 then dA e.binds st.2 else st.2)=HF at lH;have kg:dX E HF:=by
  rw[<- ahO];split
  .exact dX.dA _ hg Lx
  .exact hg
 have aS:=aH.at (w':=w5) (show w3.heap[wa.heap.size]?=_ from nF.at fN Ψ) n3;simp only[go_sem,Nat.reduceAdd,Nat.reduceEqDiff,Nat.reduceLT,Nat.reduceLeDiff,Nat.reduceMul,reduceCtorEq,↓reduceIte,g2,g3,g4,g9,cell_of aS,Value.cells];refine j7 (PP:=fun w'=>eh w' (Out (aY S wb.heap.size) w3)) (l:=e.binds) (B:=Out (aY S wb.heap.size) w3) (fun k ρ w'=>k<=e.binds.length/\Mod M.two w3 w'/\(∃lZ:St,cL w' (aY S wb.heap.size) M E lZ.1 lZ.2/\dX E lZ.2/\lF E (e.binds.drop k) lZ=lF E e.binds (bd,HF))/\ρ=[(2,ptr w.heap.size),(3,ptr wa.heap.size),(4,ptr wb.heap.size),(9,.func (.func 104) #[] #[ptr wa.heap.size,ptr w.heap.size]),(40,.slice ab e.binds.length cb),(41,I e.binds.length),(42,I k)])
  ⟨by omega,aH,⟨(bd,HF),lH,kg,rfl⟩,rfl⟩ LB ?_ (fun _ _ _ h=>h.one) rfl ?_ ?_
 .rintro k _ w6 ⟨hk,aG,_,rfl⟩;exact⟨⟨later aG,hk⟩,rfl,rfl,rfl⟩
 .rintro k _ w6 hk w7 r b11 pv ⟨_,aG,⟨lZ,bK,LC,eV⟩,rfl⟩ hr cG hZ aO ahP;have s0:=aG.trans (aq aO);have xI:=now aG aO hr;obtain⟨tc,ec,rfl,AT,xE,k1,k2,k0,kl⟩:=CF xI hZ;simp only[go_sem,Nat.reduceAdd,Nat.reduceEqDiff,Nat.reduceLT,Nat.reduceLeDiff,Nat.reduceMul,reduceCtorEq,↓reduceIte,cell_of (s0.at az n2),Value.cells,k2];refine δ (by rfl) (vm _ (List.getElem_mem hk) (bK.aI aO) LC xE) ?_;rintro r8 w8 ⟨qi,aZ⟩;have QY:=s0.trans aZ;rw[ahK hk]at eV;cases cP:cM E e.binds[k].value lZ with
  |error e4=>
   rw[cP]at qi eV;obtain⟨cz,bX,cJ,rfl,bJ,bd6,lc6,nD⟩:=qi;have jJ:(e4 != 0)=true:=by simpa using bJ
   rw[<- eV];refine φ ?_;refine eC (n:=3) (vs:=cz) rfl bX cJ ?_;intro w9 di aQ gx;simp only[go_sem,Nat.reduceAdd,Nat.reduceEqDiff,Nat.reduceLT,Nat.reduceLeDiff,Nat.reduceMul,reduceCtorEq,↓reduceIte,jJ];refine jf hc zw ((QY.trans (aq aQ)).at bm n4) ((aq bz).trans (QY.trans (aq aQ))) (nD.aI aQ) rfl rfl ?_;intro cD eM bD bK;simp only[go_sem,Nat.reduceAdd,Nat.reduceEqDiff,Nat.reduceLT,Nat.reduceLeDiff,Nat.reduceMul,reduceCtorEq,↓reduceIte,aM,RV.ev,aE (n:=3) eM rfl,aN];exact⟨.bad bJ bK,bD⟩
  |ok y1=>
   obtain⟨t1,eL⟩:=y1;rw[cP]at qi eV;obtain⟨⟨c8,rfl,jw⟩,pn⟩:=qi;have g8:=xC hE iW _ _ _ LC cP;refine φ ?_;refine eC (n:=3) (vs:=c8) rfl jw.len jw.one ?_;intro w9 di aQ gx;have Qx:Mod M.two w7 w9:=aZ.trans (aq aQ);have ahQ:=Qx.at hZ (gh hc (by have:=bz.size;have:=aG.size;omega));have E4:eh w9 (Out (aY S wb.heap.size) w9) (.string e.binds[k].name::(tc++ec)) e.binds[k]:=xI.aI (Qx.aU S3);obtain⟨QW,ec',e9,YD,aqE,HD,_,_,_⟩:=CF E4 ahQ;have e9:tc=QW:=by
    have:=congrArg (fun l=>(l.drop 1).take 3) e9
    simpa[List.take_left' AT.len,List.take_left' YD.len]using this
   subst e9;simp only[go_sem,Nat.reduceAdd,Nat.reduceEqDiff,Nat.reduceLT,Nat.reduceLeDiff,Nat.reduceMul,reduceCtorEq,↓reduceIte,aE (n:=3) di jw.len,HD];refine δ (by rfl) (K9 t1 (jw.aI (aq aQ)) YD) ?_;rintro _ cD ⟨rfl,bD⟩;have HG:=QY.trans (aq (aQ.trans bD));have sZ:=pn.aI (aQ.trans bD);have LD:(if fY t1 e.binds[k].type=true then lF E (e.binds.drop (k+1)) eL else .error 83)=lF E e.binds (bd,HF):=eV;cases hs:fY t1 e.binds[k].type with
   |false=>
    rw[if_neg (by rw[hs];simp)]at LD;rw[<- LD];refine φ ?_;refine jf hc zw (HG.at bm n4) ((aq bz).trans HG) sZ rfl rfl ?_;intro eE hZ cI bK;simp only[go_sem,Nat.reduceAdd,Nat.reduceEqDiff,Nat.reduceLT,Nat.reduceLeDiff,Nat.reduceMul,reduceCtorEq,↓reduceIte,aM,RV.ev,aE (n:=3) hZ rfl,aN];exact⟨.bad (by decide) bK,cI⟩
   |true=>
    rw[if_pos hs]at LD;refine φ ?_;exact⟨hk,HG,eL,sZ,g8.2,LD⟩
 rintro _ w6 ⟨_,aG,⟨cQ,lY,jx,eV⟩,rfl⟩;rw[List.drop_length,lF]at eV;rw[<- eV];refine φ ?_;refine Cb (f:=104) (cap:=#[ptr wa.heap.size,ptr w.heap.size]) rfl (by rfl) ej jl kR ?_;have aS:=aG.at (w':=w6) (show w3.heap[wa.heap.size]?=_ from nF.at fN Ψ) n3;refine(YA lY (xH.aI (aG.aU S3)) aS (aG.at az n2) n3 n2).mono ?_;rintro r7 w7 ⟨mI,aO⟩;have s0:=aG.trans aO;have mJ:dX E (dA e.binds cQ.2):=dX.dA _ jx Lx;have aS:=aO.at aS n3;have oZ:=s0.at az n2;have YE:aX w7 (.slice aa e.args.length ca) 7 (Out (aY S wb.heap.size) w7) (ci w7 (Out (aY S wb.heap.size) w7)) e.args:=AR.up s0 (fun b hb hh=>hb.2 (S3 b hh)) (br (s0.aU S3)) (fun _ _ h=>h.aI (s0.aU S3));have b1:(0:Int)<=0/\(0:Int)<e.args.length:=by omega
 obtain⟨ad,c1,r1,e1,hx,sX⟩:=zm YE (i:=0) (by omega);obtain⟨rfl,-,-⟩:=cU e1;have CC:e.args[0]'(by omega)=x:=by simp[iq]
 rw[CC]at hx;rw[Nat.zero_mul,add_zero']at sX;have ui:dy E e.args (cQ.1,dA e.binds cQ.2)=(match cM E x (cQ.1,dA e.binds cQ.2)with |.error e=>.error e |.ok y=>.ok ([y.1],y.2)):=by
  rw[iq];simp only[dy]
  try(cases cM E x (cQ.1,dA e.binds cQ.2)<;>rfl)
 simp only[go_sem,Nat.reduceAdd,Nat.reduceEqDiff,Nat.reduceLT,Nat.reduceLeDiff,Nat.reduceMul,reduceCtorEq,↓reduceIte,bG,bH,cell_of oZ,cell_of aS,Value.cells,b1,Nat.zero_mul,sX,cY];have d7:Mod (fun _=>False) w7 w7.drew:=(Mod.refl _ _).drew;have z7:=s0.size;have z03:=bz.size;have ed:w7.drew.heap.size=w7.heap.size:=rfl;have YF:ad.block<w7.heap.size:=by
  obtain⟨KT,_,r',e',_,kU,_,pS⟩:=dT YE (i:=0) (by omega);obtain⟨e'',-,-⟩:=cU e';cases e'';have:=np (pS 0 (by omega))
  rwa[u9,u9]at this
 refine KH (fun ρ w'=>∃nG cz u,ρ.get 2=some (ptr w.heap.size)/\ρ.get 3=some (ptr wa.heap.size)/\ρ.get 4=some (ptr wb.heap.size)/\ρ.get 14=some (ptr nG)/\ρ.get 15=some u/\w'.heap[nG]?=some (.cells cz.toArray dH (0,0))/\cz.length=3/\(∀u∈cz,u.oneCell'=true)/\Mod M.two w3 w'/\w7.heap.size<=nG /\
  Kept w' (aY S wb.heap.size) M E cz u (cM E x (cQ.1,dA e.binds cQ.2))) ?_ ?_
 .rw[GZ];refine⟨?_,?_⟩
  .refine δ (by rfl) (ku (st:=(cQ.1,dA e.binds cQ.2)) (mI.aI d7) mJ (hx.aI (aq d7))) ?_;rintro r8 w8 ⟨qi,aZ⟩;have nH:Mod M.two w7 w8:=aZ.dG;have z8:=nH.size;have key:∃ cz u,r8 = .tuple #[.agg cz.toArray,u]∧cz.length=3∧(∀ u∈cz,u.oneCell'=true)∧Kept w8 (aY S wb.heap.size) M E cz u (cM E x (cQ.1,dA e.binds cQ.2)):=by
    cases cP:cM E x (cQ.1,dA e.binds cQ.2)with
    |error e4=>rw[cP]at qi;obtain⟨cz,bX,cJ,rfl,bJ,bK⟩:=qi;exact⟨cz,_,rfl,bX,cJ,rfl,bJ,bK⟩
    |ok y1=>rw[cP]at qi;obtain⟨⟨cz,rfl,bL⟩,bK⟩:=qi;exact⟨cz,_,rfl,bL.len,bL.one,rfl,bL,bK⟩
   obtain⟨cz,u,rfl,bX,cJ,dM⟩:=key;refine φ ?_;refine cX ?_;intro w9 di aQ gx;have zz:w3.heap.size<=w8.heap.size:=by omega
   refine φ ?_;have h9:∀b,b<w7.heap.size->w9.heap[b]?=w8.heap[b]?:=fun b hb=>aQ.bO b (by omega) Ψ
   refine⟨⟨h9 _ YF,h9 _ (by omega),h9 _ (by omega)⟩,?_⟩;refine bN (cs:=cS) rfl rfl di bX rfl cJ ?_;intro cD eM bD ou;have jK:Mod (fun _=>False) w8 cD:=aQ.step bD (fun b hb hl=>by omega);refine φ ?_;refine⟨_,_,_,rfl,rfl,eM,bX,cJ,(s0.trans nH).trans (aq jK),by omega,?_⟩;cases cP:cM E x (cQ.1,dA e.binds cQ.2)with
   |error e4=>rw[cP]at dM;obtain⟨k1,k2,uk,q8,k3⟩:=dM;exact⟨k1,k2,uk,q8,k3.aI jK⟩
   |ok y1=>rw[cP]at dM;obtain⟨k1,k2,k3⟩:=dM;exact⟨k1,k2.aI (aq jK),k3.aI jK⟩
  .refine cX ?_;intro w8 dW aZ kD;have nH:Mod (fun _=>False) w7 w8:=aZ.dG;have h8:∀b,b<w7.heap.size->w8.heap[b]?=w7.heap[b]?:=fun b hb=>nH.bO b hb Ψ
   refine φ ?_;refine⟨⟨h8 _ YF,h8 _ (by omega),h8 _ (by omega)⟩,?_⟩;have kV:∀b,b<w7.heap.size->aY (aY S wb.heap.size) w7.heap.size b->aY S wb.heap.size b:=fun b hb hh=>by
    rcases hh with h |h
    .exact h
    .omega
   have pn:cL w8 (aY (aY S wb.heap.size) w7.heap.size) M E cQ.1 (dA e.binds cQ.2):=mI.ext nH kV (fun b hb=>.inl hb) (fun b hb=>by
    rcases hb with h |h
    ·have:=mI.lt b h;omega
    ·omega)
   refine δ (by rfl) (ku (st:=(cQ.1,dA e.binds cQ.2)) pn mJ (hx.ext (aq nH) kV)) ?_;rintro r9 w9 ⟨E4,aQ⟩;have z9:=aQ.size;have dW:=aQ.at dW (gh hc (by omega));have key:∃cz u,r9=.tuple #[.agg cz.toArray,u]/\cz.length=3/\(∀u∈cz,u.oneCell'=true)/\Kept w9 (aY (aY S wb.heap.size) w7.heap.size) M E cz u (cM E x (cQ.1,dA e.binds cQ.2)):=by
    cases cP:cM E x (cQ.1,dA e.binds cQ.2)with
    |error e4=>rw[cP]at E4;obtain⟨cz,bX,cJ,rfl,bJ,bK⟩:=E4;exact⟨cz,_,rfl,bX,cJ,rfl,bJ,bK⟩
    |ok y1=>rw[cP]at E4;obtain⟨⟨cz,rfl,bL⟩,bK⟩:=E4;exact⟨cz,_,rfl,bL.len,bL.one,rfl,bL,bK⟩
   obtain⟨cz,u,rfl,bX,cJ,dM⟩:=key;refine φ ?_;refine bN (cs:=cS) rfl rfl dW bX rfl cJ ?_;intro cD eM bD ou;have YG:∀b∈M.list,¬b=w7.heap.size:=jI hc (by omega);have LF:∀b,aY S wb.heap.size b->aY (aY S wb.heap.size) w7.heap.size b:=fun b hb=>.inl hb
   have YH:∀b∈M.list,aY S wb.heap.size b:=fun b hb=>.inl (hc.aT b hb)
   refine φ ?_;refine⟨_,_,_,rfl,rfl,eM,bX,cJ,(s0.trans ((aq nH).trans aQ)).step bD (fun b hb hl=>by omega),by omega,?_⟩;cases cP:cM E x (cQ.1,dA e.binds cQ.2)with
   |error e4=>rw[cP]at dM;obtain⟨k1,k2,uk,q8,k3⟩:=dM;exact⟨k1,k2,uk,q8,(k3.side bD (fun b hb=>.inr hb) YG).sub LF YH⟩
   |ok y1=>rw[cP]at dM;obtain⟨k1,k2,k3⟩:=dM;exact⟨k1,(k2.aI (bD.aU (fun b hb=>.inr hb))).sub LF,(k3.side bD (fun b hb=>.inr hb) YG).sub LF YH⟩
 rintro ρ w8 ⟨nG,cz,u,g2,g3,g4,g14,g15,gD,bX,cJ,aZ,aqF,dM⟩;have aS:=aZ.at (w':=w8) (show w3.heap[wa.heap.size]?=_ from nF.at fN Ψ) n3;simp only[go_sem,Nat.reduceAdd,Nat.reduceEqDiff,Nat.reduceLT,Nat.reduceLeDiff,Nat.reduceMul,reduceCtorEq,↓reduceIte,g2,g3,g4,g14,g15,cell_of aS,Value.cells];have out:∀(eZ:cE) (ju:Loc),cL w8 (aY S wb.heap.size) M E eZ ju->True:=fun _ _ _=>trivial
 have ahR:∃eZ ju,cL w8 (aY S wb.heap.size) M E eZ ju/\(∀y,cM E x (cQ.1,dA e.binds cQ.2)=.ok y->eZ=y.2.1/\ju=y.2.2):=by
  cases cP:cM E x (cQ.1,dA e.binds cQ.2)with
  |error e4=>rw[cP]at dM;obtain⟨_,_,uk,q8,k3⟩:=dM;exact⟨uk,q8,k3,fun y h=>by cases h⟩
  |ok y1=>rw[cP]at dM;exact⟨_,_,dM.2.2,fun y h=>by cases h;exact⟨rfl,rfl⟩⟩
 obtain⟨uk,q8,pn,QZ⟩:=ahR;have n14:¬M.two nG:=gh hc (by omega);refine j7 (PP:=fun w'=>eh w' (Out (aY S wb.heap.size) w3)) (l:=e.binds) (B:=Out (aY S wb.heap.size) w3) (fun k ρ w'=>k<=e.binds.length/\Mod M.two w8 w'/\(∃kh,cL w' (aY S wb.heap.size) M E uk kh/\ow (e.binds.drop k) kh=ow e.binds q8)/\ρ=[(2,ptr w.heap.size),(4,ptr wb.heap.size),(14,ptr nG),(15,u),(76,.slice ab e.binds.length cb),(77,I e.binds.length),(78,I k)])
  ⟨by omega,.refl _ _,⟨q8,pn,rfl⟩,rfl⟩ LB ?_ (fun _ _ _ h=>h.one) rfl ?_ ?_
 .rintro k _ w9 ⟨hk,aQ,_,rfl⟩;exact⟨⟨later (aZ.trans aQ),hk⟩,rfl,rfl,rfl⟩
 .rintro k _ w9 hk cD r b17 pv ⟨_,aQ,⟨kh,bK,vR⟩,rfl⟩ hr cG sg bD _;have HG:=(aZ.trans aQ).trans (aq bD);have Cv:=now (aZ.trans aQ) bD hr;obtain⟨tc,ec,rfl,AT,xE,k1,k2,k0,kl⟩:=CF Cv sg;have sZ:=bK.aI bD;simp only[go_sem,Nat.reduceAdd,Nat.reduceEqDiff,Nat.reduceLT,Nat.reduceLeDiff,Nat.reduceMul,reduceCtorEq,↓reduceIte,cell_of (HG.at az n2),Value.cells,cell_of sZ.box,k0];refine Lw (n:=e.binds[k].name) rfl (sZ.aI (Mod.refl _ _).drew) rfl rfl ?_;intro eE Q0 cI um;refine φ ?_;exact⟨hk,(aQ.trans (aq bD)).trans cI.dG,_,Q0,by rw[<- vR,ahL hk]⟩
 rintro _ w9 ⟨_,aQ,⟨kh,bK,vR⟩,rfl⟩;have vR:kh=ow e.binds q8:=by rw[<- vR,List.drop_length];rfl
 subst vR;have gD:=aQ.at gD n14;have YI:=aZ.trans aQ;simp only[go_sem,Nat.reduceAdd,Nat.reduceEqDiff,Nat.reduceLT,Nat.reduceLeDiff,Nat.reduceMul,reduceCtorEq,↓reduceIte,aE (n:=3) gD bX];refine bN (cs:=cS) rfl rfl (YI.at bm n4) bX rfl cJ ?_;intro cD eM bD ou;have nI:Mod M.two w cD:=((aq bz).trans YI).step bD (fun b hb hl=>by omega);cases cP:cM E x (cQ.1,dA e.binds cQ.2)with
 |error e4=>
  rw[cP]at dM ui;obtain⟨rfl,bJ,_⟩:=dM;have jL:dy E e.args (cQ.1,dA e.binds cQ.2)=.error e4:=ui;simp only[go_sem,Nat.reduceAdd,Nat.reduceEqDiff,Nat.reduceLT,Nat.reduceLeDiff,Nat.reduceMul,reduceCtorEq,↓reduceIte,aM,RV.ev,aE (n:=3) eM bX,aN];rw[jL];exact⟨⟨cz,bX,cJ,rfl,bJ,_,_,(bK.side bD (fun b hb=>.inr hb) (jI hc zw)).sub (fun b hb=>.inl hb) hc.aT⟩,nI⟩
 |ok y1=>
  obtain⟨t1,eL⟩:=y1;obtain⟨rfl,rfl⟩:=QZ _ cP;rw[cP]at dM ui;obtain⟨rfl,bL,_⟩:=dM;have jL:dy E e.args (cQ.1,dA e.binds cQ.2)=.ok ([t1],eL):=ui;simp only[go_sem,Nat.reduceAdd,Nat.reduceEqDiff,Nat.reduceLT,Nat.reduceLeDiff,Nat.reduceMul,reduceCtorEq,↓reduceIte,aM,RV.ev,aE (n:=3) eM bX,aN];rw[jL];exact⟨vO (st:=(eL.1,ow e.binds eL.2)) bK (bL.aI (aQ.aU S3)) bD hc.aT (jI hc zw),nI⟩
end
section
open Go Go.W
theorem ahS:Fn 120:=⟨_,rfl,rfl,rfl⟩
def AW(a b:Al):Bool:=(b.kind == a.kind&&bw b.bE a.bE)&&b.num == a.num
theorem ahT{α:Type}{w:World}{a:Option Addr}{n c sz:Nat}{B:Nat->Prop}{P:List Value->α->Prop}{l:List α}(h:aX w (.slice a n c) sz B P l){i:Nat}(hi:i<=l.length):aX w (.slice a i c) sz B P (l.take i):=by
 obtain⟨rows,⟨⟨a',c',e,hb,hr⟩,hlen⟩,h2,h3⟩:=h;obtain⟨rfl,rfl,rfl⟩:a=a'/\n=rows.length/\c=c':=by cases e;exact⟨rfl,rfl,rfl⟩
 refine⟨rows.take i,⟨⟨a,c,by rw[List.length_take];congr 1;omega,fun h0=>hb (by rw[List.length_take]at h0;omega),fun j hj=>?_⟩,by rw[List.length_take];omega⟩,by rw[List.length_take,List.length_take];omega,fun j r x pU hx=>?_⟩
 .rw[List.length_take]at hj;obtain⟨ad,h4,h5,h6⟩:=hr j (by omega);exact⟨ad,h4,by rw[List.getElem_take];exact h5,by rw[List.getElem_take];exact h6⟩
 .have hj:j < i:=by
   rcases Nat.lt_or_ge j i with h |h
   .exact h
   .rw[List.getElem?_eq_none (by rw[List.length_take];omega)]at pU;cases pU
  rw[List.getElem?_take_of_lt hj]at pU hx;exact h3 j r x pU hx
theorem ahU{a b:Al}{w:World}{B B':Nat→Prop}{r cs:List Value}{bb:Nat}(hb:jc w B r b)(ha:jc w B' cs a)(lD:w.heap[bb]? = some (.cells cs.toArray 103 (0,0))) :
   bu Tryz.prog 120 [.agg r.toArray,ptr bb] w fun x w'=>x=.bool (AW a b)/\Mod (fun _=>False) w w':=by
 obtain⟨vb,eb,rfl,_,_⟩:=hb;obtain⟨va,ea,rfl,_,_⟩:=ha;refine γ Tryz.f120 ?_;refine σ ?_;refine bZ rfl ?_;intro w1 au ak cw;have lD:=ak.at lD Ψ;simp only[go_sem,simprocAttr,cell_of au,cell_of lD,Value.cells];cases h1:b.kind == a.kind with
 |false=>refine σ ?_;exact⟨congrArg _ (by rw[AW,h1];rfl),ak⟩
 |true=>
  simp only[go_sem,simprocAttr,cell_of au,cell_of lD,Value.cells];cases h2:b.bE.toList == a.bE.toList with
  |false=>refine σ ?_;exact⟨congrArg _ (by rw[AW,bw,h1,h2];rfl),ak⟩
  |true=>
   simp only[go_sem,simprocAttr,cell_of au,cell_of lD,Value.cells];exact⟨congrArg _ (by rw[AW,bw,h1,h2];rfl),ak⟩
theorem ahV{all:List Al}{i:Nat}(hi:i < all.length){of:Ty}{w:World}{B B':Nat→Prop}{v:Value}{cs:List Value}(hl:aX w v 11 B (jc w B) all)(oS:EE v)(ht:aR w B' cs of) :
   bu Tryz.prog 105 [v,I i,.agg cs.toArray] w fun r w'=>r=.bool (pi all i of)/\Mod (fun _=>False) w w':=by
 obtain⟨a,c,rfl⟩:=bq hl;obtain⟨vt,rfl,_⟩:=ht.cells;refine γ Tryz.f105 ?_;refine σ ?_;refine bZ rfl ?_;intro w1 au ak cw;obtain⟨ad,c1,r,e,hr,E5,cR,_⟩:=dT (hl.mod ak aA (fun _ _ h=>h.mod ak aA)) hi;cases e;have b1:(0:Int)<=i/\(i:Int)<all.length:=by omega
 simp only[go_sem,simprocAttr,bG,bH,b1,cR];refine eC (n:=11) (vs:=r) rfl E5 hr.one ?_;intro w2 az ai bU;have bo:=ak.trans ai;have au:=ai.at au Ψ;obtain⟨vv,ec,rfl,mK,xE⟩:=hr;obtain⟨av,cv,rfl⟩:=bq mK;have AX:all[i]?=some all[i]:=Ξ hi;generalize hx:all[i]=x at *;have c0:w2.cell? ⟨w1.heap.size,0,none⟩=some (I x.kind):=by rw[cell_of az];rfl
 have c1:w2.cell? ⟨w1.heap.size,1,none⟩=some (.string x.bE):=by rw[cell_of az];rfl
 have c2:w2.cell? ⟨w1.heap.size,2,none⟩=some (I x.num):=by rw[cell_of az];rfl
 have c3:w2.cell? ⟨w1.heap.size,3,none⟩=some (.slice av x.vars.length cv):=by rw[cell_of az];rfl
 have ck:w2.cell? ⟨w.heap.size,0,none⟩=some (I of.kind):=by rw[cell_of au];rfl
 simp only [go_sem,simprocAttr,c0];have aqG:all.length≤c:=oS;have gG:pi all i of=if (x.kind == 1)=true then (if (x.num != 0||of.kind != 4)=true then false else !(all.take i).any (AW x))
     else if(x.kind == 2)=true then(if((((!bw x.bE bM||decide ((x.vars.length:Int)>0))||of.kind != 1)||decide (x.num < -4611686018427387904))||decide (x.num>4611686018427387903))=true then false else !(all.take i).any (AW x))
     else if(x.kind == 3)=true then((bw x.bE bM&&x.num == 0)&&(x.vars.length:Int)==0)&&(i:Int)==Wr (all.length-1)
     else false:=by
  unfold pi;rw[AX];rfl
 have no:pi all i of=false->Value.bool false=Value.bool (pi all i of)/\Mod (fun _=>False) w w2:=fun h=>⟨by rw[h],bo⟩
 refine og (fun ρ w'=>w2=w'/\pi all i of = !(all.take i).any (AW x)/\ρ.get 0=some (.slice (some ad) all.length c)/\ρ.get 1=some (I i)/\ρ.get 7=some (ptr w1.heap.size)) ?_ ?_
 .refine σ ?_;cases k1:x.kind == 1 with
  |true=>
   rw[if_pos k1]at gG;simp only[go_sem,simprocAttr,c2,ck];cases n1:x.num != 0 with
   |true=>refine σ ?_;exact no (by rw[gG,n1];rfl)
   |false=>
    simp only[go_sem,simprocAttr,ck];cases n2:of.kind != 4 with
    |true=>refine σ ?_;exact no (by rw[gG,n1,n2];rfl)
    |false=>refine σ ?_;exact by rw[gG,n1,n2];rfl
  |false=>
   rw[if_neg (by rw[k1];simp)]at gG;simp only[go_sem,simprocAttr,c1,c2,c3,ck];cases k2:x.kind == 2 with
   |true=>
    rw[if_pos k2,bw]at gG;simp only[go_sem,simprocAttr,c1,c2,c3,ck];cases n1:x.bE.toList == ByteArray.toList ⟨#[]⟩with
    |false=>simp only[go_sem,simprocAttr,c1,c2,c3,ck];exact no (by rw[gG,n1];rfl)
    |true=>
     rw[n1]at gG;simp only[go_sem,simprocAttr,c1,c2,c3,ck];cases n2:decide ((x.vars.length:Int)>0)with
     |true=>rw[n2]at gG;simp only[go_sem,simprocAttr,c1,c2,c3,ck];exact no (by rw[gG];rfl)
     |false=>
      rw[n2]at gG;simp only[go_sem,simprocAttr,c1,c2,c3,ck];cases n3:of.kind != 1 with
      |true=>rw[n3]at gG;simp only[go_sem,simprocAttr,c1,c2,c3,ck];exact no (by rw[gG];rfl)
      |false=>
       rw[n3]at gG;simp only[go_sem,simprocAttr,c1,c2,c3,ck];cases n4:decide (x.num < -4611686018427387904)with
       |true=>rw[n4]at gG;simp only[go_sem,simprocAttr,c1,c2,c3,ck];exact no (by rw[gG];rfl)
       |false=>
        rw[n4]at gG;simp only[go_sem,simprocAttr,c1,c2,c3,ck];cases n5:decide (x.num>4611686018427387903)with
        |true=>rw[n5]at gG;refine σ ?_;exact no (by rw[gG];rfl)
        |false=>rw[n5]at gG;refine σ ?_;exact by rw[gG];rfl
   |false=>
    rw[if_neg (by rw[k2];simp)]at gG;simp only[go_sem,simprocAttr,c1,c2,c3,ck];cases k3:x.kind == 3 with
    |true=>
     rw[if_pos k3,bw]at gG;simp only[go_sem,simprocAttr,c1,c2,c3];cases n1:x.bE.toList == ByteArray.toList ⟨#[]⟩with
     |false=>simp only[go_sem,simprocAttr,c1,c2,c3];exact no (by rw[gG,n1];rfl)
     |true=>
      rw[n1]at gG;simp only[go_sem,simprocAttr,c1,c2,c3];cases n2:x.num == 0 with
      |false=>rw[n2]at gG;simp only[go_sem,simprocAttr,c1,c2,c3];exact no (by rw[gG];rfl)
      |true=>
       rw[n2]at gG;simp only[go_sem,simprocAttr,c1,c2,c3];cases n3:(x.vars.length:Int)==0 with
       |false=>rw[n3]at gG;simp only[go_sem,simprocAttr,c1,c2,c3];exact no (by rw[gG];rfl)
       |true=>
        rw[n3]at gG;simp only[go_sem,simprocAttr,c1,c2,c3];exact⟨congrArg _ (by rw[gG];rfl),bo⟩
    |false=>
     rw[if_neg (by rw[k3];simp)]at gG;refine σ ?_;exact no gG
 .rintro ρ _ ⟨rfl,hf,g0,g1,g7⟩;have hle:(i:Int)<=c:=by omega
  simp only[go_sem,simprocAttr,bG,bH,g0,g1,g7,hle];have Ax:(if c=0 then some ad else some ad)=some ad:=by split<;>rfl
  rw[Ax];refine⟨_,rfl,?_⟩;have hm:=bo;refine δ (by rfl) (agw (PP:=fun w=>jc w B) (p:=AW x) (ahT (hl.mod bo aA (fun _ _ h=>h.mod bo aA)) (Nat.le_of_lt hi)) (fun _ _ _ _ h hm=>h.mod hm aA) ahS ?_) ?_
  .intro w3 r3 u hu aw gi;exact ahU gi (B':=B) (cs:=I x.kind :: .string x.bE::I x.num :: .slice av x.vars.length cv::ec) ⟨_,ec,rfl,(mK.mod ai aA (fun _ _ h=>h)).mod aw aA (fun _ _ h=>h),(xE.mod ai aA).mod aw aA⟩ (aw.at az Ψ)
  .rintro _ w3 ⟨rfl,aw⟩;refine σ ?_;exact⟨congrArg _ hf.symm,bo.trans aw⟩
end
section
open Go Go.W
theorem vS{fl:List Nat}{w w':World}:∀(rd:List (Nat×Nat)),(∀p∈rd,w'.heap[p.2]?=w.heap[p.2]?)->oO fl w w' rd
 |[],_=>trivial
 |(i,b)::rd,h=>⟨fun _=>h (i,b) (by simp),vS rd (fun p hp=>h p (by simp[hp]))⟩
theorem Es{w w':World}:∀(rd:List (Nat×Nat)),oO [] w w' rd
 |[]=>trivial
 |(i,b)::rd=>⟨fun h=>(by simp[Eo]at h),Es rd⟩
theorem HH{P:Program}{w:World}{ρ:Go.W.Env}{K:Go.W.Env→World→Prop}{rd:List (Nat×Nat)}{α:Type}{Rr:Value→α→Prop}{l:List (ByteArray×α)}{b0:Nat}{k:ByteArray}{t kt et:TypeId}{m x:Nat}{i i2 i3 i4 j j2 j3 a b c d f g T n:Nat}{z:Value}{fl:List Nat}{ty:TypeId}{pos:String}{af:Array Edge}{zc:List Value}
   (hm:ρ.get m=some (.map (some b0))) (hx:ρ.get x=some (.string k)) (ht:P.underlying t=some (.map kt et)) (gY:P.underlying kt=some .string) (HI:∀w,(zeroValue et).run P w=.ok (.agg zc.toArray) w) (YJ:zc.length=n/\∀u∈zc,u.oneCell'=true) (hz:z.cells.size=n)
   (h:bQ w b0 Rr l) (hR:∀v y,Rr v y->∃cs:List Value,v=.agg cs.toArray/\cs.length=n/\∀u∈cs,u.oneCell'=true) (eu:∀p∈rd,p.2<w.heap.size)
   (hd:([a,b,c,d,f,g].Nodup/\m≠f/\x≠f))
   (hk:∀(w':World) (ρ':Go.W.Env) (cz:List Value) (u:Value),(∀s,s∉[a,b,c,d,f,g]->ρ'.get s=ρ.get s)->ρ'.get f=some (ptr w.heap.size)->ρ'.get g=some u->w'.heap[w.heap.size]?=some (.cells cz.toArray T (0,0))->Mod (fun _=>False) w w'->cz.length=n->(∀u∈cz,u.oneCell'=true) ->
    ((aJ l k=none/\u=.bool false)\/∃y,aJ l k=some y/\Rr (.agg cz.toArray) y/\u=.bool true)->K ρ' w') :
   eo P (.e2 i (some a) (.raw ⟨some a,.lookup t (.tmp m) (.tmp x) true,ty,pos,af,none⟩) [] (.r i2 none (some b) (.mv (.t a))<|.r i3 none (some c) (.ex 0 (.t b))<|.r i4 none (some d) (.ex 1 (.t b))<|.e j none (some f) (.al T z) fl<|.e j2 none none (.st n (.t f) (.t c)) []<|.r j3 none (some g) (.mv (.t d)) .nil)
    j (some f) (.al T z) fl (.e i none (some a) (.raw ⟨some a,.lookup t (.tmp m) (.tmp x) true,ty,pos,af,none⟩) []<|.r i2 none (some b) (.mv (.t a))<|.r i3 none (some c) (.ex 0 (.t b))<|.r i4 none (some d) (.ex 1 (.t b))<|.e j2 none none (.st n (.t f) (.t c)) []<|.r j3 none (some g) (.mv (.t d)) .nil)) ρ w rd K:=by
 obtain ⟨gR,nI,hxf⟩:=hd;simp only [List.nodup_cons,List.mem_cons,List.not_mem_nil,or_false,not_or,not_false_eq_true,List.nodup_nil,and_true] at gR;obtain ⟨⟨nab,nac,nad,HJ,nag⟩,⟨HK,nbd,HM,nbg⟩,⟨zo,zq,ncg⟩,⟨zt,ndg⟩,CI⟩:=gR;have look:∀ (w0:World) (zu:Go.W.Env) (K0:Value→World→Prop),bQ w0 b0 Rr l→zu.get m=some (.map (some b0))→zu.get x=some (.string k) →
     (∀(cz:List Value) (u:Value),cz.length=n->(∀u∈cz,u.oneCell'=true)->((aJ l k=none/\u=.bool false)\/∃y,aJ l k=some y/\Rr (.agg cz.toArray) y/\u=.bool true)->K0 (.tuple #[.agg cz.toArray,u]) w0) ->
     Go.W.E.wp P w0 zu K0 (.raw ⟨some a,.lookup t (.tmp m) (.tmp x) true,ty,pos,af,none⟩):=by
  intro w0 zu K0 h0 kQ iq vT;refine Hp (k:=k) kQ iq ht gY (HI w0) h0 (fun hn=>vT zc _ YJ.1 YJ.2 (.inl ⟨hn,rfl⟩)) (fun v y hy hr=>?_);obtain⟨cs,rfl,h1,h2⟩:=hR v y hr;exact vT cs _ h1 h2 (.inr ⟨y,hy,hr,rfl⟩)
 rw[GZ];refine⟨?_,?_⟩
 .refine look w ρ _ h hm hx ?_;intro cz u h1 h2 h3;refine⟨vS _ (fun _ _=>rfl),?_⟩;refine⟨.tuple #[.agg cz.toArray,u],by simp[R.ev,O.ev,Env.put,Env.get],.agg cz.toArray,by simp[R.ev,O.ev,Env.put,Env.get,u6],u,by simp[R.ev,O.ev,Env.put,Env.get,u6,Ne.symm HK],?_⟩;refine cX ?_;intro w1 au ak cw;refine⟨vS _ (fun p hp=>ak.bO _ (eu p hp) Ψ),?_⟩;refine bN (w:=w1) (cs:=z.cells.toList) (vs:=cz) (by simp[O.ev,Env.put,Env.get];rfl) (by simp[O.ev,Env.put,Env.get,zo,Ne.symm zo,zq,Ne.symm zq]) (by simpa using au) h1 (by simpa using hz) h2 ?_;intro w2 az ai bU;refine⟨vS _ (fun p hp=>ai.bO _ (by have:=eu p hp;omega) (by have:=eu p hp;omega)),?_⟩;refine⟨u,by simp[R.ev,O.ev,Env.put,Env.get,zt,Ne.symm zt],?_⟩;refine hk w2 _ cz u (fun s hs=>?_) (by simp[Env.put,Env.get,CI,Ne.symm CI]) (by simp[Env.put,Env.get]) az (ak.step ai (fun b hb hl=>by omega)) h1 h2 h3;simp only[List.mem_cons,List.not_mem_nil,or_false,not_or]at hs;obtain⟨s1,s2,s3,s4,s5,s6⟩:=hs;simp[Env.put,Env.get,Ne.symm s1,Ne.symm s2,Ne.symm s3,Ne.symm s4,Ne.symm s5,Ne.symm s6]
 .refine cX ?_;intro w1 au ak cw;refine⟨vS _ (fun p hp=>ak.bO _ (eu p hp) Ψ),?_⟩;refine look w1 _ _ (h.mod ak Ψ (fun _ _ x=>x)) (by simp[Env.put,Env.get,Ne.symm nI,hm]) (by simp[Env.put,Env.get,Ne.symm hxf,hx]) ?_;intro cz u h1 h2 h3;refine⟨vS _ (fun _ _=>rfl),?_⟩;refine⟨.tuple #[.agg cz.toArray,u],by simp[R.ev,O.ev,Env.put,Env.get],.agg cz.toArray,by simp[R.ev,O.ev,Env.put,Env.get,u6],u,by simp[R.ev,O.ev,Env.put,Env.get,u6,Ne.symm HK],?_⟩;refine bN (w:=w1) (cs:=z.cells.toList) (vs:=cz) (by simp[O.ev,Env.put,Env.get,HJ,HM,zq,zt];rfl) (by simp[O.ev,Env.put,Env.get,zo,Ne.symm zo]) (by simpa using au) h1 (by simpa using hz) h2 ?_;intro w2 az ai bU;refine⟨vS _ (fun p hp=>ai.bO _ (by have:=eu p hp;omega) (by have:=eu p hp;omega)),?_⟩;refine⟨u,by simp[R.ev,O.ev,Env.put,Env.get],?_⟩;refine hk w2 _ cz u (fun s hs=>?_) (by simp[Env.put,Env.get,HJ,HM,zq,zt,Ne.symm CI]) (by simp[Env.put,Env.get]) az (ak.step ai (fun b hb hl=>by omega)) h1 h2 h3;simp only[List.mem_cons,List.not_mem_nil,or_false,not_or]at hs;obtain⟨s1,s2,s3,s4,s5,s6⟩:=hs;simp[Env.put,Env.get,Ne.symm s1,Ne.symm s2,Ne.symm s3,Ne.symm s4,Ne.symm s5,Ne.symm s6]
theorem ahW{P:Program}{w:World}{ρ:Go.W.Env}{K:Go.W.Env→World→Prop}{rd:List (Nat×Nat)}{Ms:Nat→Prop}{PA PB Post:World→List Value→Value→Prop}{fn:FuncId}{args:List O}{vs:List Value}{i i2 i3 i4 j j2 j3 a b c d f g T n:Nat}{z:Value}{fl:List Nat}
   (ha:gW ρ args=some vs) (yR:∀v,gW ((f,v)::ρ) args=some vs) (hz:z.cells.size=n) (hMs:∀b,w.heap.size<=b->¬Ms b) (eu:∀p∈rd,p.2<w.heap.size)
   (hA:bu P fn vs w fun r w1=>∃(cz:List Value) (u:Value),r=.tuple #[.agg cz.toArray,u]/\cz.length=n/\(∀u∈cz,u.oneCell'=true)/\PA w1 cz u/\Mod Ms w w1)
   (hB:∀w0,Mod (fun _=>False) w w0->w0.heap.size=w.heap.size+1->bu P fn vs w0 fun r w1=>∃(cz:List Value) (u:Value),r=.tuple #[.agg cz.toArray,u]/\cz.length=n/\(∀u∈cz,u.oneCell'=true)/\PB w1 cz u/\Mod Ms w0 w1)
   (hAP:∀w1 cz u w2,PA w1 cz u->Mod (fun _=>False) w1 w2->Post w2 cz u) (hBP:∀w1 cz u w2,PB w1 cz u->Mod (· = w.heap.size) w1 w2->Post w2 cz u)
   (hd:[a,b,c,d,f,g].Nodup)
   (hk:∀(w':World) (ρ':Go.W.Env) (bb:Nat) (cz:List Value) (u:Value),(∀s,s∉[a,b,c,d,f,g]->ρ'.get s=ρ.get s)->ρ'.get f=some (ptr bb)->ρ'.get g=some u->w'.heap[bb]?=some (.cells cz.toArray T (0,0))->w.heap.size<=bb->Mod Ms w w'->cz.length=n->(∀u∈cz,u.oneCell'=true)->Post w' cz u->K ρ' w') :
   eo P (.e2 i (some a) (.call fn args) [] (.r i2 none (some b) (.mv (.t a))<|.r i3 none (some c) (.ex 0 (.t b))<|.r i4 none (some d) (.ex 1 (.t b))<|.e j none (some f) (.al T z) fl<|.e j2 none none (.st n (.t f) (.t c)) []<|.r j3 none (some g) (.mv (.t d)) .nil)
    j (some f) (.al T z) fl (.e i none (some a) (.call fn args) []<|.r i2 none (some b) (.mv (.t a))<|.r i3 none (some c) (.ex 0 (.t b))<|.r i4 none (some d) (.ex 1 (.t b))<|.e j2 none none (.st n (.t f) (.t c)) []<|.r j3 none (some g) (.mv (.t d)) .nil)) ρ w rd K:=by
 have gR:=hd;simp only[List.nodup_cons,List.mem_cons,List.not_mem_nil,or_false,not_or,not_false_eq_true,List.nodup_nil,and_true]at gR;obtain⟨⟨nab,nac,nad,HJ,nag⟩,⟨HK,nbd,HM,nbg⟩,⟨zo,zq,ncg⟩,⟨zt,ndg⟩,CI⟩:=gR;rw[GZ];refine⟨?_,?_⟩
 .refine aL ha (hA.mono ?_);rintro r w1 ⟨cz,u,rfl,h1,h2,hp,ak⟩;have z1:=ak.size;refine⟨Es _,?_⟩;refine⟨.tuple #[.agg cz.toArray,u],by simp[R.ev,O.ev,Env.put,Env.get],.agg cz.toArray,by simp[R.ev,O.ev,Env.put,Env.get,u6],u,by simp[R.ev,O.ev,Env.put,Env.get,u6,Ne.symm HK],?_⟩;refine cX ?_;intro w2 az ai bU;refine⟨vS _ (fun p hp=>ai.bO _ (by have:=eu p hp;omega) Ψ),?_⟩;refine bN (w:=w2) (cs:=z.cells.toList) (vs:=cz) (by simp[O.ev,Env.put,Env.get];rfl) (by simp[O.ev,Env.put,Env.get,zo,Ne.symm zo,zq,Ne.symm zq]) (by simpa using az) h1 (by simpa using hz) h2 ?_;intro w3 aS aw dU;refine⟨vS _ (fun p hp=>aw.bO _ (by have:=eu p hp;omega) (by have:=eu p hp;omega)),?_⟩;refine⟨u,by simp[R.ev,O.ev,Env.put,Env.get,zt,Ne.symm zt],?_⟩;have gH:Mod (fun _=>False) w1 w3:=ai.step aw (fun b hb hl=>by omega);refine hk w3 _ w1.heap.size cz u (fun s hs=>?_) (by simp[Env.put,Env.get,CI,Ne.symm CI]) (by simp[Env.put,Env.get]) aS (by omega) (ak.trans (aq gH)) h1 h2 (hAP _ _ _ _ hp gH);simp only[List.mem_cons,List.not_mem_nil,or_false,not_or]at hs;obtain⟨s1,s2,s3,s4,s5,s6⟩:=hs;simp[Env.put,Env.get,Ne.symm s1,Ne.symm s2,Ne.symm s3,Ne.symm s4,Ne.symm s5,Ne.symm s6]
 .refine cX ?_;intro w1 au ak cw;refine⟨vS _ (fun p hp=>ak.bO _ (eu p hp) Ψ),?_⟩;refine aL (yR _) ((hB w1 ak cw).mono ?_);rintro r w2 ⟨cz,u,rfl,h1,h2,hp,ai⟩;have z2:=ai.size;refine⟨Es _,?_⟩;refine⟨.tuple #[.agg cz.toArray,u],by simp[R.ev,O.ev,Env.put,Env.get],.agg cz.toArray,by simp[R.ev,O.ev,Env.put,Env.get,u6],u,by simp[R.ev,O.ev,Env.put,Env.get,u6,Ne.symm HK],?_⟩;refine bN (w:=w2) (cs:=z.cells.toList) (vs:=cz) (by simp[O.ev,Env.put,Env.get,HJ,HM,zq,zt];rfl) (by simp[O.ev,Env.put,Env.get,zo,Ne.symm zo]) (by simpa using ai.at au (hMs _ (Nat.le_refl _))) h1 (by simpa using hz) h2 ?_;intro w3 aS aw dU;refine⟨vS _ (fun p hp=>aw.bO _ (by have:=eu p hp;omega) (by have:=eu p hp;omega)),?_⟩;refine⟨u,by simp[R.ev,O.ev,Env.put,Env.get],?_⟩;refine hk w3 _ w.heap.size cz u (fun s hs=>?_) (by simp[Env.put,Env.get,HJ,HM,zq,zt,Ne.symm CI]) (by simp[Env.put,Env.get]) aS (Nat.le_refl _) (((aq ak).trans ai).step aw (fun b hb hl=>by omega)) h1 h2 (hBP _ _ _ _ hp aw);simp only[List.mem_cons,List.not_mem_nil,or_false,not_or]at hs;obtain⟨s1,s2,s3,s4,s5,s6⟩:=hs;simp[Env.put,Env.get,Ne.symm s1,Ne.symm s2,Ne.symm s3,Ne.symm s4,Ne.symm s5,Ne.symm s6]
end
section
open Go Go.W
theorem ahX{l:List ByteArray}{i:Nat}(hi:i<l.length)(bd:cE):qW (l.drop i) bd=if(!nr l[i]||has bd l[i])=true then .error 82 else qW (l.drop (i+1)) (bS bd l[i] 1):=by rw[Ω hi,qW]
theorem ahY{ps:List ByteArray}{bs:List Ty}{l:List ByteArray}{fs:List Ty}{i:Nat}(hi:i<l.length)(hf:i<fs.length)(lc:Loc):ke ps bs (l.drop i) (fs.drop i) lc=if(iv ps bs fs[i]).2>=0 then ke ps bs (l.drop (i+1)) (fs.drop (i+1)) (bS lc l[i] (iv ps bs fs[i]).1)else .error 83:=by
 rw[Ω hi,Ω hf,ke]
theorem ahZ{l:List ByteArray}{i:Nat}(hi:i<l.length)(lc:Loc):kF (l.drop i) lc=kF (l.drop (i+1)) (gq lc l[i]):=by rw[Ω hi,kF]
theorem ah0{ps:List ByteArray}{bs:List Ty}(fs:List Ty)(lc:Loc):ke ps bs [] fs lc=.ok lc:=by rw[ke];intros;simp_all
def aqH(w:World)(S:Nat->Prop)(E:Env)(n:ByteArray)(cz:List Value)(u:Value):Prop:=match aJ E.cons n with
 |none=>u=.bool false
 |some x=>u=.bool true/\∃ad,cz=[.pointer (some ad),I x.2]/\vK w (Out S w) ad x.1/\x.2<x.1.cons.length
theorem ah1{E:Env}(hE:nC E)(iW:eR E jq 0=false){a:Al}(ih:xD E a.body){of:Ty}(eU:Good E of)(pX:a.kind=1→of.kind=4){w:World}{S:Nat→Prop}{M:Ms}{st:St}{cs ct:List Value}(hc:cL w S M E st.1 st.2)(hg:dX E st.2)(h:jc w (Out S w) cs a)(bL:aR w (Out S w) ct of) :
   bu Tryz.prog 106 [ptr M.c,.agg cs.toArray,.agg ct.toArray] w fun r w'=>uh w' S M E r (qg E of a.kind a.bE a.vars (cM E a.body) st)/\Mod M.two w w':=by
 obtain⟨vv,ec,rfl,mK,xE⟩:=h;obtain⟨av,cv,rfl⟩:=bq mK;obtain⟨vo,rfl,Q1⟩:=bL.cells;obtain⟨ao,co,rfl⟩:=bq Q1;refine γ Tryz.f106 ?_;refine σ ?_;refine bZ rfl ?_;intro wa CH qZ wZ;refine σ ?_;refine bZ rfl ?_;intro wb fN lU LA;refine σ ?_;refine cX ?_;intro w3 cH nF hsc;have bY:=nF.at fN Ψ;have bm:=(lU.trans nF).at CH Ψ;have bz:=qZ.trans (lU.trans nF);have za:=qZ.size;have zb:=lU.size;have zw:w.heap.size<=wb.heap.size:=by omega
 have cT:cL w3 (aY S wb.heap.size) M E st.1 st.2:=hc.ext bz (fZ zw) (fun b hb=>.inl hb) (fun b hb=>by
  rcases hb with h |h
  ·have:=hc.lt b h;omega
  ·omega)
 have S3:=cT.two;have n4:¬M.two w.heap.size:=gh hc (Nat.le_refl _);have n5:¬M.two wa.heap.size:=gh hc za;have n6:¬M.two wb.heap.size:=gh hc zw;have YK:=xE.len;have YL:ci w3 (Out (aY S wb.heap.size) w3) ec a.body:=xE.ext (aq bz) (fZ zw);have ah2:aX w3 (.slice av a.vars.length cv) 1 (Out (aY S wb.heap.size) w3) ft a.vars:=mK.up bz aA (fM (aq bz) (fZ zw)) (fun _ _ h=>h);have ah3:aX w3 (.slice ao of.args.length co) 3 (Out (aY S wb.heap.size) w3) (aR w3 (Out (aY S wb.heap.size) w3)) of.args:=Q1.up bz aA (fM (aq bz) (fZ zw)) (fun _ _ h=>h.ext (aq bz) (fZ zw));simp only[go_sem,simprocAttr,cell_of bm,Value.cells];cases hk:a.kind != 1 with
 |true=>
  have hr:qg E of a.kind a.bE a.vars (cM E a.body) st=cM E a.body st:=by rw[qg,if_pos hk]
  rw[hr];have k2:=jm (off:=4) (n:=7) bm (by simp[Value.cells];omega);simp only[List.drop_succ_cons,List.drop_zero]at k2;rw[List.take_of_length_le (by omega)]at k2;simp only[go_sem,simprocAttr,k2];refine δ (by rfl) (ih cT hg YL) ?_;rintro r4 w4 ⟨nE,aD⟩;cases cP:cM E a.body st with
  |error e4=>
   rw[cP]at nE;obtain⟨cz,bX,cJ,rfl,bJ,Yt,lc4,nD⟩:=nE;refine σ ?_;refine bN (cs:=cS) rfl rfl (aD.at cH n6) bX rfl cJ ?_;intro w5 hb aH eY;simp only[go_sem,simprocAttr,aM,RV.ev,aE (n:=3) hb bX,aN];exact⟨⟨cz,bX,cJ,rfl,bJ,_,_,(nD.side aH (fun b hb=>.inr hb) (jI hc zw)).sub (fun b hb=>.inl hb) hc.aT⟩,((aq bz).trans aD).step aH (fun b hb hl=>by omega)⟩
  |ok y1=>
   rw[cP]at nE;obtain⟨⟨cz,rfl,xJ⟩,nD⟩:=nE;refine σ ?_;refine bN (cs:=cS) rfl rfl (aD.at cH n6) xJ.len rfl xJ.one ?_;intro w5 hb aH eY;simp only[go_sem,simprocAttr,aM,RV.ev,aE (n:=3) hb xJ.len,aN];exact⟨vO nD xJ aH hc.aT (jI hc zw),((aq bz).trans aD).step aH (fun b hb hl=>by omega)⟩
 |false=>
  have jv:a.kind=1:=by simpa using hk
  have d3:Mod (fun _=>False) w3 w3.drew:=(Mod.refl _ _).drew;have xK:=cT.aI d3;simp only[go_sem,simprocAttr,cell_of cT.box,cell_of bm,Value.cells];have zr:∀b∈[w.heap.size,M.c],b<w3.drew.heap.size:=fun b hb=>by
   have e:w3.drew.heap.size=w3.heap.size:=rfl;rcases List.mem_cons.1 hb with rfl |hb
   .omega
   .rw[List.mem_singleton.1 hb];have:=cT.lt _ (cT.aT M.c (by simp[Ms.list]));omega
  refine HH (Rr:=vM w3.drew (Out (aY S wb.heap.size) w3.drew)) (k:=a.bE) (b0:=M.mc) (kt:=9) (et:=179) (zc:=[.pointer none,I 0]) rfl rfl rfl rfl (fun w=>Tryz.zeroValue179 w) ⟨rfl,aP rfl (aP rfl dq)⟩ rfl xK.cons
   (fun v y hr=>by obtain⟨ad,rfl,_⟩:=hr;exact⟨[.pointer (some ad),I y.2],rfl,rfl,aP rfl (aP rfl dq)⟩) (fun p hp=>by
    simp only[List.mem_cons,List.not_mem_nil,or_false]at hp
    rcases hp with rfl |rfl<;>exact zr _ (by simp)) (by decide) ?_
  intro w4 nJ cz u hold g8 g9 dW me y9 cJ vH;have aD:Mod (fun _=>False) w3 w4:=me.dG;have dW:w4.heap[w3.heap.size]?=some (.cells cz.toArray 179 (0,0)):=dW;have g8:nJ.get 8=some (ptr w3.heap.size):=g8;have g0:nJ.get 0=some (ptr M.c):=(hold 0 (by decide)).trans rfl;have g4:nJ.get 4=some (ptr w.heap.size):=(hold 4 (by decide)).trans rfl;have g5:nJ.get 5=some (ptr wa.heap.size):=(hold 5 (by decide)).trans rfl;have g6:nJ.get 6=some (ptr wb.heap.size):=(hold 6 (by decide)).trans rfl;have z4:=aD.size;have cH:=aD.at cH Ψ;have bY:=aD.at bY Ψ;have bm:=aD.at bm Ψ;have lG:=cT.aI aD
  have o0:qg E of a.kind a.bE a.vars (cM E a.body) st=(match aJ E.cons a.bE with
   |none=>.error 82
   |some x=>if(!bw x.1.name of.name)=true then .error 82
    else if(((gg x.1 x.2).length:Int)!=a.vars.length)=true then .error 84
    else match qW a.vars st.1 with
     |.error e=>.error e
     |.ok bd=>match ke x.1.params of.args a.vars (gg x.1 x.2) st.2 with
      |.error e=>.error e
      |.ok lc=>match cM E a.body (bd,lc)with
       |.error e=>.error e
       |.ok y=>.ok (y.1,(y.2.1,kF a.vars y.2.2))):=by rw[qg,if_neg (by rw[hk];simp)];rfl
  rw[o0];rcases vH with⟨hn,rfl⟩ |⟨x,hx,⟨ad,CJ,AY,gS⟩,rfl⟩
  .rw[hn];simp only[go_sem,simprocAttr,g0,g4,g5,g6,g8,g9];refine jf (w3:=w4.drew) hc zw cH ((aq (bz.trans aD)).trans (Mod.refl _ _).drew) (lG.aI (Mod.refl _ _).drew) rfl rfl ?_;intro w5 hb aH bK;simp only[go_sem,simprocAttr,aM,RV.ev,aE (n:=3) hb rfl,aN];exact⟨.bad (by decide) bK,aH⟩
  .rw [hx];have CJ:cz=[.pointer (some ad),I x.2]:=by
    have:cz.toArray=#[.pointer (some ad),I x.2]:=by cases CJ;rfl
    have:=congrArg Array.toList this
    simpa using this
   subst CJ;obtain⟨cs,bT,vp,vc,rfl,iw,lC⟩:=AY;have d34:Mod (fun _=>False) w3.drew w4:=me;have k0:w4.cell? ad=some (.string x.1.name):=(bT.up d34 aA (fun _ h=>h)).c0 (by simp);have kn:w4.cell? ⟨wa.heap.size,1,none⟩=some (.string of.name):=by rw[cell_of bY];rfl
   simp only[go_sem,simprocAttr,g0,g4,g5,g6,g8,g9,cell_of dW,k0,kn];cases ph:x.1.name.toList == of.name.toList with
   |false=>
    rw[if_pos (by rw[bw,ph];rfl)];refine σ ?_;refine jf (w3:=w4.drew) hc zw cH ((aq (bz.trans aD)).trans (Mod.refl _ _).drew) (lG.aI (Mod.refl _ _).drew) rfl rfl ?_;intro w5 hb aH bK;simp only[go_sem,simprocAttr,aM,RV.ev,aE (n:=3) hb rfl,aN];exact⟨.bad (by decide) bK,aH⟩
   |true=>
    have HN:bw x.1.name of.name=true:=ph;rw[if_neg (by rw[HN];simp)];have YM:=Yb hE hx HN eU.1 (pX jv);obtain⟨ac,cc,rfl⟩:=bq lC;obtain⟨app,po,rfl⟩:=bq iw;have data:∀{w':World},Mod M.two w4 w'->iU w' (Out (aY S wb.heap.size) w') ad [.string x.1.name,.slice app x.1.params.length po,.slice ac x.1.cons.length cc]/\aX w' (.slice app x.1.params.length po) 1 (Out (aY S wb.heap.size) w') ft x.1.params/\aX w' (.slice ac x.1.cons.length cc) 2 (Out (aY S wb.heap.size) w') (fj w' (Out (aY S wb.heap.size) w')) x.1.cons:=fun hm=>by
     have cA:Mod (aY S wb.heap.size) w3.drew _:=(aq d34).trans (hm.aU S3);exact⟨bT.up cA aW (br cA),iw.up cA aW (br cA) (fun _ _ h=>h),lC.up cA aW (br cA) (fun _ _ h=>h.up cA aW (br cA))⟩
    obtain⟨q1,q2,q3⟩:=data (Mod.refl _ w4);have k2:w4.cell? ⟨ad.block,ad.off+2,none⟩=some (.slice ac x.1.cons.length cc):=q1.at (k:=2) (by simp);obtain⟨adc,cc2,rr,ee,⟨vf,rfl,iu,_⟩,_,_,pS⟩:=dT q3 gS;obtain⟨rfl,-,-⟩:=cU ee;obtain⟨af,cf,rfl⟩:=bq iu;have kf:w4.cell? ((adc.add (x.2*2)).add 1)=some (.slice af x.1.cons[x.2].fields.length cf):=pS 1 (by simp);rw[add_pos _ (by decide)]at kf;have b1:(0:Int)<=x.2/\(x.2:Int)<x.1.cons.length:=by omega
    have iR:gg x.1 x.2=x.1.cons[x.2].fields:=by simp[gg,List.getD,gS]
    have YN:=(hE.cons _ _ hx).2;rw[iR]at YN;rw[iR];generalize aqI:x.1.cons[x.2].fields=fields at *;have kv:w4.cell? ⟨w.heap.size,3,none⟩=some (.slice av a.vars.length cv):=by rw[cell_of bm];rfl
    simp only[go_sem,simprocAttr,bG,bH,cell_of dW,k2,b1,kf,kv];cases bJ:((fields.length:Int)!=a.vars.length)with
    |true=>
     rw[if_pos rfl];refine σ ?_;refine jf (w3:=w4.drew.drew) hc zw cH ((aq (bz.trans aD)).trans (Mod.refl _ _).drew.drew) (lG.aI (Mod.refl _ _).drew.drew) rfl rfl ?_;intro w5 hb aH bK;simp only[go_sem,simprocAttr,aM,RV.ev,aE (n:=3) hb rfl,aN];exact⟨.bad (by decide) bK,aH⟩
    |false=>
     rw[if_neg (by simp)];have hlen:fields.length=a.vars.length:=by
      have:(fields.length:Int)=a.vars.length:=by simpa using bJ
      omega
     simp only[go_sem,simprocAttr,kv];have iV:Mod (fun _=>False) w3 w4.drew.drew:=aD.drew.drew;have jd:=bz.trans iV;have lH:=cT.aI iV;have xL:=dI mK;have names:∀{w':World},Mod M.two w4 w'->aX w' (.slice av a.vars.length cv) 1 (Out (aY S wb.heap.size) w3) ft a.vars:=fun hm=>
      ah2.up ((aq aD).trans hm) (fun b hb hh=>hb.2 (S3 b hh)) (fun _ h=>h) (fun _ _ h=>h)
     have LG:∀{w':World},Mod M.two w4 w'->w'.heap[wb.heap.size]?=some (.cells cS.toArray dH (0,0)):=fun hm=>hm.at cH n6
     have LH:∀{w':World},Mod M.two w4 w'->Mod M.two w w':=fun hm=>(aq (bz.trans aD)).trans hm
     refine eW a.vars.length (fun k ρ w'=>k<=a.vars.length/\Mod M.two w4 w'/\(∃vQ,cL w' (aY S wb.heap.size) M E vQ st.2/\qW (a.vars.drop k) vQ=qW a.vars st.1)/\ρ=[(0,ptr M.c),(4,ptr w.heap.size),(5,ptr wa.heap.size),(6,ptr wb.heap.size),(8,ptr w3.heap.size),(10,.slice af fields.length cf),(71,.slice av a.vars.length cv),(72,I a.vars.length),(73,I k)])
      ⟨by omega,(Mod.refl _ _).drew.drew,⟨st.1,lH,rfl⟩,rfl⟩ xL ?_ ?_ (by decide) ?_
     .rintro k _ w6 ⟨hk,_,_,rfl⟩;exact⟨rfl,rfl,hk⟩
     .rintro k _ w6 ⟨_,aG,⟨vQ,bK,jk⟩,rfl⟩ hk;obtain⟨LJ,YO,ev,Q2,nf⟩:=xr (names aG) hk;obtain⟨rfl,-,-⟩:=cU ev;have bv:(0:Int)<=k/\(k:Int)<a.vars.length:=by omega
      rw[ahX hk]at jk;simp only[go_sem,simprocAttr,bG,bH,bv,nf];refine δ (by rfl) (KU _ Q2) ?_;rintro _ _ ⟨rfl,rfl⟩;cases pq:nr a.vars[k]with
      |false=>
       rw[if_pos (by rw[pq];rfl)]at jk;rw[<- jk];refine σ ?_;refine jf hc zw (LG aG) (LH aG) bK rfl rfl ?_;intro w7 hb aO vU;simp only[go_sem,simprocAttr,aM,RV.ev,aE (n:=3) hb rfl,aN];exact⟨.bad (by decide) vU,aO⟩
      |true=>
       simp only[go_sem,simprocAttr,cell_of bK.box];refine Cz ?_;refine AM (k:=a.vars[k]) (b:=M.mb) (kt:=9) (et:=3) rfl rfl rfl rfl (zI _) bK.jt ?_;have kE:decide ((aJ vQ a.vars[k]).getD 0>0)=has vQ a.vars[k]:=rfl;cases hh:has vQ a.vars[k]with
       |true=>
        rw[hh]at kE;rw[if_pos (by rw[hh];simp)]at jk;rw[<- jk];simp only[go_sem,simprocAttr,kE];refine jf hc zw (LG aG) (LH aG) bK rfl rfl ?_;intro w7 hb aO vU;simp only[go_sem,simprocAttr,aM,RV.ev,aE (n:=3) hb rfl,aN];exact⟨.bad (by decide) vU,aO⟩
       |false=>
        rw[hh]at kE;rw[if_neg (by rw[pq,hh];simp)]at jk;simp only[go_sem,simprocAttr,kE,cell_of bK.box];refine ahE (n:=a.vars[k]) bK rfl rfl rfl ?_;intro w7 mI aO jn;refine σ ?_;exact⟨hk,aG.trans aO,_,mI,jk⟩
     rintro _ w6 ⟨_,aG,⟨bd,lY,jk⟩,rfl⟩;rw[List.drop_length,qW]at jk;rw[<- jk];have kv6:w6.cell? ⟨w.heap.size,3,none⟩=some (.slice av a.vars.length cv):=by rw[cell_of (aG.at bm n4)];rfl
     simp only[go_sem,simprocAttr,kv6];have n8:¬M.two w3.heap.size:=gh hc (by have:=bz.size;omega);obtain⟨rows,lz,pZ,iI⟩:=iu;refine eW a.vars.length (fun k ρ w'=>k<=a.vars.length/\Mod M.two w4 w'/\(∃kh,cL w' (aY S wb.heap.size) M E bd kh/\dX E kh/\ke x.1.params of.args (a.vars.drop k) (fields.drop k) kh=ke x.1.params of.args a.vars fields st.2)/\ρ=[(0,ptr M.c),(4,ptr w.heap.size),(5,ptr wa.heap.size),(6,ptr wb.heap.size),(8,ptr w3.heap.size),(10,.slice af fields.length cf),(97,.slice av a.vars.length cv),(98,I a.vars.length),(99,I k)])
      ⟨by omega,aG,⟨st.2,lY,hg,rfl⟩,rfl⟩ xL ?_ ?_ (by decide) ?_
     .rintro k _ w7 ⟨hk,_,_,rfl⟩;exact⟨rfl,rfl,hk⟩
     .rintro k _ w7 ⟨_,aO,⟨kh,bK,nK,AZ⟩,rfl⟩ hk;obtain⟨LJ,YO,ev,Q2,nf⟩:=xr (names aO) hk;obtain⟨rfl,-,-⟩:=cU ev;have bv:(0:Int)<=k/\(k:Int)<a.vars.length:=by omega
      have Q3:k<fields.length:=by omega
      have bf:(0:Int)<=k/\(k:Int)<fields.length:=by omega
      have S4:∀b,Out (aY S wb.heap.size) w4 b->¬M.two b:=fun b hb hh=>hb.2 (S3 b hh)
      have LK:Mod (aY S wb.heap.size) w4 w7:=aO.aU S3;have ah4:=lz.up LK aW (br LK);obtain⟨Lk,cf2,ef,ah5,YP⟩:=KQ ah4.1 (i:=k) (by omega);have nL:=vx ah5 YP;have ah6:(Lk.add (k*3)).block<w7.heap.size:=by have:=np (YP 0 (by omega));rwa[u9]at this
      obtain⟨rfl,-,-⟩:=cU ef;have zn:aR w7 (Out (aY S wb.heap.size) w7) rows[k] fields[k]:=(iI k _ _ (Ξ (by omega)) (Ξ Q3)).aI LK;obtain⟨HO,LM,q3'⟩:=data aO;have YQ:w7.cell? ⟨ad.block,ad.off+1,none⟩=some (.slice app x.1.params.length po):=HO.at (k:=1) (by simp);have YR:w7.cell? ⟨w3.heap.size,0,none⟩=some (.pointer (some ad)):=by rw[cell_of (aO.at dW n8)];rfl
      have YS:w7.cell? ⟨wa.heap.size,2,none⟩=some (.slice ao of.args.length co):=by rw[cell_of (aO.at bY n5)];rfl
      have ah7:aX w7 (.slice ao of.args.length co) 3 (Out (aY S wb.heap.size) w7) (aR w7 (Out (aY S wb.heap.size) w7)) of.args:=by
       have cA:Mod (aY S wb.heap.size) w3 w7:=(aq aD).trans LK;exact ah3.up cA aW (br cA) (fun _ _ h=>h.aI cA)
      rw[ahY hk Q3]at AZ;simp only[go_sem,simprocAttr,bG,bH,bv,nf,bf,nL,YR,YQ,YS,cY];obtain⟨zp1,zp2,zp3⟩:=data aO.drew;have YT:Cr w7.drew (aY S wb.heap.size) (.slice app x.1.params.length po) (.slice ao of.args.length co) x.1.params of.args:=⟨zp2,Co ah7 (Mod.refl (aY S wb.heap.size) _).drew,Nat.le_of_eq YM⟩;have YU:aR w7.drew (Out (aY S wb.heap.size) w7.drew) rows[k] fields[k]:=zn.aI (Mod.refl _ _).drew;have E6:=np YS;have ah8:=np YR;have ah9:=np YQ;have zd:w7.drew.heap.size=w7.heap.size:=rfl;have Ra:=bK.aI (Mod.refl (fun _=>False) w7).drew;have YV:∀b,aY S wb.heap.size b->b<w7.drew.heap.size:=Ra.lt;refine ahW (Ms:=fun _=>False) (vs:=[.agg rows[k].toArray,.slice app x.1.params.length po,.slice ao of.args.length co])
       (Post:=fun w' cz u=>u=.bool (decide ((iv x.1.params of.args fields[k]).2>=0))/\aR w' (Out (aY S wb.heap.size) w') cz (iv x.1.params of.args fields[k]).1)
       (PA:=fun w' cz u=>u=.bool (decide ((iv x.1.params of.args fields[k]).2>=0))/\aR w' (Out (aY S wb.heap.size) w') cz (iv x.1.params of.args fields[k]).1)
       (PB:=fun w' cz u=>u=.bool (decide ((iv x.1.params of.args fields[k]).2>=0))/\aR w' (Out (aY (aY S wb.heap.size) w7.drew.heap.size) w') cz (iv x.1.params of.args fields[k]).1)
       rfl (fun v=>rfl) rfl (fun _ _ h=>h) (fun p hp=>by
        simp only[List.mem_cons,List.not_mem_nil,or_false]at hp
        rcases hp with rfl |rfl |rfl |rfl<;>(rw[zd];first |exact E6 |exact ah9 |exact ah8 |exact ah6)) ?_ ?_ ?_ ?_ (by decide) ?_
      .refine(Qz fields[k] YU YT YV).mono ?_;rintro _ w8 ⟨⟨cz,rfl,jw⟩,aZ⟩;exact⟨cz,_,rfl,jw.len,jw.one,⟨rfl,jw⟩,aZ⟩
      .intro w8 aZ kD;have fK:∀ b,b < w7.drew.heap.size→aY (aY S wb.heap.size) w7.drew.heap.size b→aY S wb.heap.size b:=fun b hb hh=>by
        rcases hh with h |h
        .exact h
        .omega
       refine(Qz fields[k] (YU.ext (aq aZ) fK) (YT.ext (aq aZ) fK) (fun b hb=>by
        rcases hb with h |h
        ·have:=YV b h;omega
        ·omega)).mono ?_
       rintro _ w9 ⟨⟨cz,rfl,jw⟩,aQ⟩;exact⟨cz,_,rfl,jw.len,jw.one,⟨rfl,jw⟩,aQ⟩
      .rintro w8 cz u w9 ⟨rfl,h8⟩ aQ;exact⟨rfl,h8.aI (aq aQ)⟩
      .rintro w8 cz u w9 ⟨rfl,h8⟩ aQ;exact⟨rfl,(h8.aI (aQ.aU (fun b hb=>.inr hb))).sub (fun b hb=>.inl hb)⟩
      intro w8 nM b15 cz u hold CK zv A0 aqJ nH bX cJ ah';have aZ:Mod (fun _=>False) w7 w8:=nH.dG;obtain⟨rfl,jw⟩:=ah';have e0:nM.get 0=some (ptr M.c):=(hold 0 (by decide)).trans rfl;have e4:nM.get 4=some (ptr w.heap.size):=(hold 4 (by decide)).trans rfl;have e5:nM.get 5=some (ptr wa.heap.size):=(hold 5 (by decide)).trans rfl;have e6:nM.get 6=some (ptr wb.heap.size):=(hold 6 (by decide)).trans rfl;have e8:nM.get 8=some (ptr w3.heap.size):=(hold 8 (by decide)).trans rfl;have xG:nM.get 10=some (.slice (some Lk) fields.length cf):=(hold 10 (by decide)).trans rfl;have LN:nM.get 14=some (.string a.vars[k]):=(hold 14 (by decide)).trans rfl;have YW:nM.get 97=some (.slice (some LJ) a.vars.length cv):=(hold 97 (by decide)).trans rfl;have YX:nM.get 98=some (I a.vars.length):=(hold 98 (by decide)).trans rfl;have YY:nM.get 99=some (I k):=(hold 99 (by decide)).trans rfl;have pn:=bK.aI aZ;cases mX:decide ((iv x.1.params of.args fields[k]).2>=0)with
      |false=>
       have LO:¬(iv x.1.params of.args fields[k]).2>=0:=by simpa using mX
       rw[if_neg LO]at AZ;rw[<- AZ];rw[mX]at zv;simp only[go_sem,simprocAttr,e0,e4,e5,e6,e8,xG,LN,YW,YX,YY,CK,zv];refine jf hc zw (LG (aO.trans (aq aZ))) (LH (aO.trans (aq aZ))) pn rfl rfl ?_;intro w9 hb aQ vU;simp only[go_sem,simprocAttr,aM,RV.ev,aE (n:=3) hb rfl,aN];exact⟨.bad (by decide) vU,aQ⟩
      |true=>
       have LO:(iv x.1.params of.args fields[k]).2>=0:=by simpa using mX
       rw[if_pos LO]at AZ;rw[mX]at zv;have sR:Good E (iv x.1.params of.args fields[k]).1:=QE (fun b hb=>Lp eU hb) (Nat.le_of_eq YM) (YN _ (List.getElem_mem Q3)) LO;simp only[go_sem,simprocAttr,e0,e4,e5,e6,e8,xG,LN,YW,YX,YY,CK,zv,cell_of pn.box,aE (n:=3) A0 bX];refine QR (n:=a.vars[k]) (pn.aI (Mod.refl _ _).drew) rfl rfl rfl (jw.aI (Mod.refl _ _).drew) ?_;intro w9 HP aQ gx;refine σ ?_;exact⟨hk,(aO.trans (aq aZ)).trans aQ.dG,_,HP,nK.put sR,AZ⟩
     .rintro _ w7 ⟨_,aO,⟨kh,bK,nK,AZ⟩,rfl⟩;rw [List.drop_length,ah0] at AZ;rw [← AZ];have kb7:=aO.at bm n4;have k2:=jm (off:=4) (n:=7) kb7 (by simp [Value.cells];omega);simp only [List.drop_succ_cons,List.drop_zero] at k2;rw [List.take_of_length_le (by omega)] at k2;simp only [go_sem,simprocAttr,k2];refine aL (by rfl) ?_;have aia:ci w7 (Out (aY S wb.heap.size) w7) ec a.body:=(YL.aI (aq aD)).aI (aO.aU S3);refine (ih (st:=(bd,kh)) bK nK aia).mono ?_;rintro r8 w8 ⟨qi,aZ⟩;have key:∃ cz u,r8 = .tuple #[.agg cz.toArray,u]∧cz.length=3∧(∀ u∈cz,u.oneCell'=true)∧Kept w8 (aY S wb.heap.size) M E cz u (cM E a.body (bd,kh)):=by
       cases cP:cM E a.body (bd,kh)with
       |error e4=>rw[cP]at qi;obtain⟨cz,bX,cJ,rfl,bJ,bK⟩:=qi;exact⟨cz,_,rfl,bX,cJ,rfl,bJ,bK⟩
       |ok y1=>rw[cP]at qi;obtain⟨⟨cz,rfl,bL⟩,bK⟩:=qi;exact⟨cz,_,rfl,bL.len,bL.one,rfl,bL,bK⟩
      obtain⟨cz,u,rfl,bX,cJ,dM⟩:=key;refine σ ?_;refine cX ?_;intro w9 di aQ gx;refine σ ?_;refine bN (cs:=cS) rfl rfl di bX rfl cJ ?_;intro cD eM bD ou;have jK:Mod (fun _=>False) w8 cD:=aQ.step bD (fun b hb hl=>by omega);have Rb:Mod M.two w4 cD:=(aO.trans aZ).trans (aq jK);have YZ:cD.cell? ⟨w.heap.size,3,none⟩=some (.slice av a.vars.length cv):=by rw[cell_of (Rb.at bm n4)];rfl
      have aqK:cD.cell? ((⟨w.heap.size,0,none⟩:Addr).add 3)=some (.slice av a.vars.length cv):=YZ;simp only[go_sem,simprocAttr,YZ];have aib:∃eZ ju,cL cD (aY S wb.heap.size) M E eZ ju/\(∀y,cM E a.body (bd,kh)=.ok y->eZ=y.2.1/\ju=y.2.2):=by
       cases cP:cM E a.body (bd,kh)with
       |error e4=>rw[cP]at dM;obtain⟨_,_,uk,q8,k3⟩:=dM;exact⟨uk,q8,k3.aI jK,fun y h=>by cases h⟩
       |ok y1=>rw[cP]at dM;exact⟨_,_,dM.2.2.aI jK,fun y h=>by cases h;exact⟨rfl,rfl⟩⟩
      obtain⟨uk,q8,sZ,QZ⟩:=aib;have z7:=aO.size;have z8:=aZ.size;have z3:=bz.size;have n17:¬M.two w8.heap.size:=gh hc (by omega);refine eW a.vars.length (fun k ρ w'=>k<=a.vars.length/\Mod M.two cD w'/\(∃kh,cL w' (aY S wb.heap.size) M E uk kh/\kF (a.vars.drop k) kh=kF a.vars q8)/\ρ=[(0,ptr M.c),(6,ptr wb.heap.size),(17,ptr w8.heap.size),(18,u),(137,.slice av a.vars.length cv),(138,I a.vars.length),(139,I k)])
       ⟨by omega,.refl _ _,⟨q8,sZ,rfl⟩,rfl⟩ xL ?_ ?_ (by decide) ?_
      .rintro k _ eE ⟨hk,_,_,rfl⟩;exact⟨rfl,rfl,hk⟩
      .rintro k _ eE ⟨_,cI,⟨aic,pr,vR⟩,rfl⟩ hk;obtain⟨LJ,YO,ev,Q2,nf⟩:=xr (names (Rb.trans cI)) hk;obtain⟨rfl,-,-⟩:=cU ev;have bv:(0:Int)<=k/\(k:Int)<a.vars.length:=by omega
       rw[ahZ hk]at vR;simp only[go_sem,simprocAttr,bG,bH,bv,nf,cell_of pr.box];refine Lw (n:=a.vars[k]) rfl pr rfl rfl ?_;intro dQ aid ei AV;refine σ ?_;exact⟨hk,cI.trans ei,_,aid,vR⟩
      rintro _ eE ⟨_,cI,⟨aic,pr,vR⟩,rfl⟩;rw[List.drop_length,kF]at vR;subst vR;have hZ:=cI.at eM n17;have Y0:=Rb.trans cI;simp only[go_sem,simprocAttr,aE (n:=3) hZ bX];refine bN (cs:=cS) rfl rfl (LG Y0) bX rfl cJ ?_;intro dQ je ei AV;have nI:Mod M.two w dQ:=(LH Y0).step ei (fun b hb hl=>by omega);cases cP:cM E a.body (bd,kh)with
      |error e4=>
       rw[cP]at dM;obtain⟨rfl,bJ,_⟩:=dM;simp only[go_sem,simprocAttr,aM,RV.ev,aE (n:=3) je bX,aN];exact⟨⟨cz,bX,cJ,rfl,bJ,_,_,(pr.side ei (fun b hb=>.inr hb) (jI hc zw)).sub (fun b hb=>.inl hb) hc.aT⟩,nI⟩
      |ok y1=>
       obtain⟨t1,eL⟩:=y1;obtain⟨rfl,rfl⟩:=QZ _ cP;rw[cP]at dM;obtain⟨rfl,bL,_⟩:=dM;simp only[go_sem,simprocAttr,aM,RV.ev,aE (n:=3) je bX,aN];exact⟨vO (st:=(eL.1,kF a.vars eL.2)) pr ((bL.aI (aq jK)).aI (cI.aU S3)) ei hc.aT (jI hc zw),nI⟩
end
section
open Go Go.W
theorem aie{E:Env}{all:List Al}{of:Ty}{i:Nat}(hi:i < all.length)(first:Ty)(st:St):iJ E all of (all.drop i) i first st =
   if pi all i of=false then .error 84
   else match qg E of all[i].kind all[i].bE all[i].vars (cM E all[i].body) st with
    |.error x=>.error x
    |.ok y=>if i=0 then iJ E all of (all.drop (i+1)) (i+1) y.1 y.2 else if fY y.1 first=true then iJ E all of (all.drop (i+1)) (i+1) first y.2 else .error 83:=by
 rw[Ω hi,Ht];try rfl
theorem zx{w:World}{S:Nat->Prop}{M:Ms}{E:Env}{r:Value}{x:Except Int (Ty×St)}(h:uh w S M E r x):∃cz u,r=.tuple #[.agg cz.toArray,u]/\cz.length=3/\(∀u∈cz,u.oneCell'=true)/\Kept w S M E cz u x:=by
 cases x with
 |error e4=>obtain⟨cz,bX,cJ,rfl,bJ,bK⟩:=h;exact⟨cz,_,rfl,bX,cJ,rfl,bJ,bK⟩
 |ok y1=>obtain⟨⟨cz,rfl,bL⟩,bK⟩:=h;exact⟨cz,_,rfl,bL.len,bL.one,rfl,bL,bK⟩
theorem aif{E:Env}(hE:nC E)(iW:eR E jq 0=false){e x:Ex}(iq:e.args=[x])(bJ:e.alts≠[])(ku:xD E x)(qQ:∀ a∈e.alts,xD E a.body){w:World}{S:Nat→Prop}{M:Ms}{st:St}{cs:List Value}(hc:cL w S M E st.1 st.2)(hg:dX E st.2)(h:ci w (Out S w) cs e) :
   bu Tryz.prog 80 [ptr M.c,.agg cs.toArray] w fun r w'=>uh w' S M E r (match dy E e.args st with
    |.error x=>.error x
    |.ok y=>if((y.1.headD default).kind != 1&&(y.1.headD default).kind != 4)=true then .error 83 else iJ E e.alts (y.1.headD default) e.alts 0 default y.2)/\Mod M.two w w':=by
 obtain⟨aqL,aih,oS⟩:=h.cap;obtain⟨vt,va,vb,vl,rfl,ht,ha,hb,hl⟩:=h.parts;obtain⟨aa,ca,rfl⟩:=bq ha;obtain⟨al,cl,rfl⟩:=bq hl;have iH:=dI hl;cases aih;refine γ Tryz.f80 ?_;refine σ ?_;refine bZ rfl ?_;intro wa CH qZ wZ;refine σ ?_;refine cX ?_;intro wb bm lU LA;have aS:=lU.at CH Ψ;have xM:=qZ.trans lU;have za:=qZ.size
 have nh:cL wb (aY S wa.heap.size) M E st.1 st.2:=hc.ext xM (fZ za) (fun b hb=>.inl hb) (fun b hb=>by
  rcases hb with h |h
  ·have:=hc.lt b h;omega
  ·omega)
 have Sb:=nh.two;have n3:¬M.two w.heap.size:=gh hc (Nat.le_refl _);have n4:¬M.two wa.heap.size:=gh hc za;have lx:e.args.length=1:=by rw[iq];rfl
 have uj:aX wb (.slice aa e.args.length ca) 7 (Out (aY S wa.heap.size) wb) (ci wb (Out (aY S wa.heap.size) wb)) e.args:=ha.up xM aA (fM (aq xM) (fZ za)) (fun _ _ h=>h.ext (aq xM) (fZ za));have ny:aX wb (.slice al e.alts.length cl) 11 (Out (aY S wa.heap.size) wb) (jc wb (Out (aY S wa.heap.size) wb)) e.alts:=hl.up xM aA (fM (aq xM) (fZ za)) (fun _ _ h=>h.up xM aA (fM (aq xM) (fZ za)));obtain⟨E7,ca2,ra,ea,oM,Y1⟩:=zm uj (i:=0) (by omega);obtain⟨rfl,-,-⟩:=cU ea;have aii:e.args[0]'(by omega)=x:=by simp[iq]
 rw[aii]at oM;have b1:(0:Int)<=0/\(0:Int)<e.args.length:=by omega
 rw[Nat.zero_mul,add_zero']at Y1;have ui:dy E e.args st=(match cM E x st with |.error e=>.error e |.ok y=>.ok ([y.1],y.2)):=by
  rw[iq];simp only[dy];cases cM E x st<;>rfl
 rw[ui];simp only[go_sem,simprocAttr,bG,bH,cell_of aS,Value.cells,b1,Nat.zero_mul,Y1];refine δ (by rfl) (ku nh hg oM) ?_;rintro r3 wc ⟨gi,nF⟩;have zc:=nF.size;cases cP:cM E x st with
 |error e3=>
  rw[cP]at gi;obtain⟨cz,bX,cJ,rfl,jJ,Lu,Hx,nD⟩:=gi;refine σ ?_;refine eC (n:=3) (vs:=cz) rfl bX cJ ?_;intro w4 cH aD dL;have jJ:(e3 != 0)=true:=by simpa using jJ
  simp only[go_sem,simprocAttr,jJ];refine jf hc za ((nF.trans (aq aD)).at bm n4) ((aq xM).trans (nF.trans (aq aD))) (nD.aI aD) rfl rfl ?_;intro w5 bY aH bK;simp only[go_sem,simprocAttr,aM,RV.ev,aE (n:=3) bY rfl,aN];exact⟨.bad (by simpa using jJ) bK,aH⟩
 |ok y1=>
  obtain⟨of,eL⟩:=y1;have Rc:=xC hE iW x _ _ hg cP;rw[cP]at gi;obtain⟨⟨ct,rfl,bL⟩,pS⟩:=gi;refine σ ?_;refine eC (n:=3) (vs:=ct) rfl bL.len bL.one ?_;intro we cH LP HN;have A1:Mod M.two wb we:=nF.trans (aq LP);have Rd:=pS.aI LP;obtain⟨vo,rfl,Q1⟩:=bL.cells;have kk:we.cell? ⟨wc.heap.size,0,none⟩=some (I of.kind):=by rw[cell_of cH];rfl
  have bad:(of.kind != 1&&of.kind != 4)=true->(if(([of].headD default).kind != 1&&([of].headD default).kind != 4)=true then(.error 83:Except Int (Ty×St))else iJ E e.alts ([of].headD default) e.alts 0 default eL)=.error 83:=fun h=>if_pos h
  have gZ:(of.kind != 1&&of.kind != 4)=false->(if(([of].headD default).kind != 1&&([of].headD default).kind != 4)=true then(.error 83:Except Int (Ty×St))else iJ E e.alts ([of].headD default) e.alts 0 default eL)=iJ E e.alts of e.alts 0 default eL:=fun h=>if_neg (show ¬(of.kind != 1&&of.kind != 4)=true by rw[h];simp)
  simp only[];simp only[go_sem,simprocAttr,kk];refine B6 (fun ρ w'=>we=w'/\ρ.get 33=some (.bool (of.kind != 1&&of.kind != 4))/\ρ.get 0=some (ptr M.c)/\ρ.get 3=some (ptr w.heap.size)/\ρ.get 4=some (ptr wa.heap.size)/\ρ.get 6=some (ptr wc.heap.size)) ?_ ?_
  .cases h1:of.kind != 1 with
   |false=>refine σ ?_;rfl
   |true=>simp only[go_sem,simprocAttr,kk]
  rintro ρ _ ⟨rfl,zy,g0,g3,g4,g6⟩;have zwe:=LP.size;have Y2:Mod M.two w we:=(aq xM).trans A1;cases wV:(of.kind != 1&&of.kind != 4)with
  |true=>
   rw[wV]at zy;rw[bad wV];simp only[go_sem,simprocAttr,zy,g0,g3,g4,g6];refine jf hc za (A1.at bm n4) Y2 Rd rfl rfl ?_;intro w5 bY aH bK;simp only[go_sem,simprocAttr,aM,RV.ev,aE (n:=3) bY rfl,aN];exact⟨.bad (by decide) bK,aH⟩
  |false=>
   rw[wV]at zy;rw[gZ wV];simp only[go_sem,simprocAttr,zy,g0,g3,g4,g6];refine cX ?_;intro wf dW nI hsf;have zf:=nI.size;have Y3:=nI.at (A1.at aS n3) Ψ;have LQ:=nI.at (A1.at bm n4) Ψ;have aij:=nI.at cH Ψ;have LS:∀b,b<we.heap.size->aY (aY S wa.heap.size) we.heap.size b->aY S wa.heap.size b:=fun b hb hh=>by
    rcases hh with h |h
    .exact h
    .omega
   have rX:cL wf (aY (aY S wa.heap.size) we.heap.size) M E eL.1 eL.2:=Rd.ext nI LS (fun b hb=>.inl hb) (fun b hb=>by
    rcases hb with h |h
    ·have:=Rd.lt b h;omega
    ·omega)
   have Sf:=rX.two;have no8:∀b∈M.list,¬b=we.heap.size:=jI hc (by omega);have HQ:∀b,aY S wa.heap.size b->aY (aY S wa.heap.size) we.heap.size b:=fun b hb=>.inl hb
   have LU:∀b∈M.list,aY S wa.heap.size b:=fun b hb=>.inl (hc.aT b hb)
   have nL:aX wf (.slice al e.alts.length cl) 11 (Out (aY (aY S wa.heap.size) we.heap.size) wf) (jc wf (Out (aY (aY S wa.heap.size) we.heap.size) wf)) e.alts:=
    (ny.up (A1.aU Sb) aW (br (A1.aU Sb)) (fun _ _ h=>h.up (A1.aU Sb) aW (br (A1.aU Sb)))).up nI aA (fM (aq nI) LS) (fun _ _ h=>h.up nI aA (fM (aq nI) LS))
   have aik:aR wf (Out (aY (aY S wa.heap.size) we.heap.size) wf) [I of.kind,.string of.name,vo] of:=(bL.aI (aq LP)).ext (aq nI) LS;have k3:wf.cell? ⟨w.heap.size,6,none⟩=some (.slice al e.alts.length cl):=by rw[cell_of Y3];rfl
   have s7:∀{w':World},Mod (aY M.two we.heap.size) wf w'->Mod (aY (aY S wa.heap.size) we.heap.size) wf w':=fun hm=>hm.aU (fun b hb=>by
    rcases hb with h |h
    ·exact Sf b h
    ·exact .inr h)
   have back:∀{w':World},Mod (aY M.two we.heap.size) wf w'->Mod M.two w w':=fun hm=>(Y2.trans (aq nI)).step hm (fun b hb hl=>by
    rcases hb with h |h
    ·exact h
    ·omega)
   have LV:¬aY M.two we.heap.size wa.heap.size:=fun h=>by
    rcases h with h |h
    .exact n4 h
    .omega
   have n38:¬aY M.two we.heap.size w.heap.size:=fun h=>by
    rcases h with h |h
    .exact n3 h
    .omega
   have n68:¬aY M.two we.heap.size wc.heap.size:=fun h=>by
    rcases h with h |h
    .exact gh hc (by omega) h
    .omega
   simp only[go_sem,simprocAttr,k3]
   refine eW e.alts.length (fun k ρ w'=>k≤e.alts.length∧Mod (aY M.two we.heap.size) wf w'∧(∃ (first:Ty) (eP:St) (cf:List Value),w'.heap[we.heap.size]? = some (.cells cf.toArray dH (0,0))∧cf.length=3∧(∀ u∈cf,u.oneCell'=true)∧(k≠0→aR w' (Out (aY (aY S wa.heap.size) we.heap.size) w') cf first)∧cL w' (aY (aY S wa.heap.size) we.heap.size) M E eP.1 eP.2∧dX E eP.2 ∧
       iJ E e.alts of (e.alts.drop k) k first eP=iJ E e.alts of e.alts 0 default eL)/\ρ=[(0,ptr M.c),(3,ptr w.heap.size),(4,ptr wa.heap.size),(6,ptr wc.heap.size),(8,ptr we.heap.size),(36,.slice al e.alts.length cl),(37,I e.alts.length),(38,I k)])
    ⟨by omega,.refl _ _,⟨default,eL,cS,dW,rfl,vF,fun h=>absurd rfl h,rX,Rc.2,rfl⟩,rfl⟩ iH ?_ ?_ (by decide) ?_
   .rintro k _ w5 ⟨hk,_,_,rfl⟩;exact⟨rfl,rfl,hk⟩
   .rintro k _ w5 ⟨_,aH,⟨first,eP,cf,Re,kW,rP,Rf,bK,nK,halt⟩,rfl⟩ hk;rw[aie hk]at halt;have bk:(0:Int)<=k/\(k:Int)<e.alts.length:=by omega
    have tV:=nL.up (s7 aH) aW (br (s7 aH)) (fun _ _ h=>h.up (s7 aH) aW (br (s7 aH)));obtain⟨zA,ck,rk,ek,EQ,HR,ail,_⟩:=dT tV hk;obtain⟨rfl,-,-⟩:=cU ek;simp only[go_sem,simprocAttr,bG,bH,bk,ail];refine eC (n:=11) (vs:=rk) rfl HR EQ.one ?_;intro w6 eM aG fw;have pt:Mod (aY M.two we.heap.size) wf w6:=aH.trans (aq aG);have Cw:=nL.up (s7 pt) aW (br (s7 pt)) (fun _ _ h=>h.up (s7 pt) aW (br (s7 pt)));have xF:=aik.aI (s7 pt);have k36:w6.cell? ⟨w.heap.size,6,none⟩=some (.slice (some zA) e.alts.length cl):=by rw[cell_of (pt.at Y3 n38)];rfl
    have Y4:=pt.at aij n68;have aim:=pt.at LQ LV;have Rg:=aG.at Re Ψ;have CL:=bK.aI aG;have ain:cL w6 (aY S wa.heap.size) M E eP.1 eP.2:=CL.sub HQ LU;simp only[go_sem,simprocAttr,k36,aE (n:=3) Y4 rfl];refine δ (by rfl) (ahV hk Cw oS xF) ?_;rintro _ w7 ⟨rfl,aO⟩;have vV:=pt.trans (aq aO);cases qh:pi e.alts k of with
    |false=>
     rw[if_pos qh]at halt;rw[<- halt];refine σ ?_;refine jf hc za (aO.at aim Ψ) (back vV) (ain.aI aO) rfl rfl ?_;intro w8 hb aZ vU;simp only[go_sem,simprocAttr,aM,RV.ev,aE (n:=3) hb rfl,aN];exact⟨.bad (by decide) vU,aZ⟩
    |true=>
     rw[if_neg (by rw[qh];simp)]at halt;have xI:jc w7 (Out (aY (aY S wa.heap.size) we.heap.size) w7) rk e.alts[k]:=(EQ.up (aq aG) aW (br (aq aG))).up (aq aO) aW (br (aq aO));have pX:e.alts[k].kind=1->of.kind=4:=fun h1=>Lq (Ξ hk) qh h1
     simp only[go_sem,simprocAttr,aE (n:=11) (aO.at eM Ψ) HR,aE (n:=3) (aO.at Y4 Ψ) rfl];refine δ (by rfl) (ah1 hE iW (qQ _ (List.getElem_mem hk)) Rc.1 pX (CL.aI aO) nK xI (xF.aI (aq aO))) ?_;rintro r8 w8 ⟨qi,aZ⟩;obtain⟨cz,u,rfl,bX,cJ,dM⟩:=zx qi;have HS:Mod (aY M.two we.heap.size) wf w8:=vV.trans (aZ.aU (fun b hb=>.inl hb));have oy:∀y,qg E of e.alts[k].kind e.alts[k].bE e.alts[k].vars (cM E e.alts[k].body) eP=.ok y->dX E y.2.2:=fun y hy=>(Yg hE Rc.1 pX (xC hE iW e.alts[k].body) nK hy).2
     refine σ ?_;refine eC (n:=3) (vs:=cz) rfl bX cJ ?_;intro w9 hZ aQ gx;have E8:=HS.trans (aq aQ);have z57:=vV.size;have aio:¬M.two we.heap.size:=gh hc (by omega);cases gS:qg E of e.alts[k].kind e.alts[k].bE e.alts[k].vars (cM E e.alts[k].body) eP with
     |error e4=>
      rw[gS]at dM halt;obtain⟨rfl,E9,uk,q8,pn⟩:=dM;have jJ:(e4 != 0)=true:=by simpa using E9
      have halt:(Except.error e4:Except Int (Ty×St))=_:=halt;rw[<- halt];simp only[go_sem,simprocAttr,jJ];refine jf hc za (E8.at LQ LV) (back E8) ((pn.aI aQ).sub HQ LU) rfl rfl ?_;intro cD hb bD vU;simp only[go_sem,simprocAttr,aM,RV.ev,aE (n:=3) hb rfl,aN];exact⟨.bad E9 vU,bD⟩
     |ok y2=>
      obtain⟨t2,cQ⟩:=y2;have Y5:=oy _ gS;rw[gS]at dM halt;obtain⟨rfl,Hr,pn⟩:=dM;have Y6:=Hr.aI (aq aQ);have HP:=pn.aI aQ;have Rh:w9.heap[we.heap.size]?=some (.cells cf.toArray dH (0,0)):=aQ.at (aZ.at (aO.at Rg Ψ) aio) Ψ;have halt:(if k=0 then iJ E e.alts of (e.alts.drop (k+1)) (k+1) t2 cQ else if fY t2 first=true then iJ E e.alts of (e.alts.drop (k+1)) (k+1) first cQ else .error 83)=iJ E e.alts of e.alts 0 default eL:=halt;by_cases vT:k=0
      .rw[if_pos vT]at halt;have EY:((k:Int)==0)=true:=by simp[vT]
       simp only[go_sem,simprocAttr,EY,aE (n:=3) hZ bX];refine bN (cs:=cf) rfl rfl Rh bX kW cJ ?_;intro cD Ri bD ou;refine σ ?_;exact⟨hk,E8.trans (bD.aU (fun b hb=>.inr hb)),t2,cQ,cz,Ri,bX,cJ,fun _=>Y6.aI (bD.aU (fun b hb=>.inr hb)),HP.side bD (fun b hb=>.inr hb) no8,Y5,halt⟩
      .rw[if_neg vT]at halt;have EY:((k:Int)==0)=false:=by simpa using vT
       have Y7:aR w9 (Out (aY (aY S wa.heap.size) we.heap.size) w9) cf first:=((((Rf vT).aI (aq aG)).aI (aq aO)).aI (aZ.aU (fun b hb=>CL.two b hb))).aI (aq aQ);simp only[go_sem,simprocAttr,EY,aE (n:=3) hZ bX,aE (n:=3) Rh kW];refine δ (by rfl) (K9 t2 Y6 Y7) ?_;rintro _ cD ⟨rfl,bD⟩;cases eH:fY t2 first with
       |false=>
        rw[if_neg (by rw[eH];simp)]at halt;rw[<- halt];refine σ ?_;refine jf hc za (bD.at (E8.at LQ LV) Ψ) (back (E8.trans (aq bD))) ((HP.aI bD).sub HQ LU) rfl rfl ?_;intro eE hb cI vU;simp only[go_sem,simprocAttr,aM,RV.ev,aE (n:=3) hb rfl,aN];exact⟨.bad (by decide) vU,cI⟩
       |true=>
        rw[if_pos eH]at halt;refine σ ?_;exact⟨hk,E8.trans (aq bD),first,cQ,cf,bD.at Rh Ψ,kW,rP,fun _=>Y7.aI (aq bD),HP.aI bD,Y5,halt⟩
   .rintro _ w5 ⟨_,aH,⟨first,eP,cf,Re,kW,rP,Rf,bK,nK,halt⟩,rfl⟩;rw[List.drop_length,iJ]at halt;rw[<- halt];have hnz:e.alts.length≠0:=fun h=>bJ (List.eq_nil_of_length_eq_zero h)
    have pj:=(Rf hnz).sub HQ;simp only[go_sem,simprocAttr,aE (n:=3) Re kW];refine bN (cs:=cS) rfl rfl (aH.at LQ LV) kW rfl rP ?_;intro w6 hb aG fw;simp only[go_sem,simprocAttr,aM,RV.ev,aE (n:=3) hb kW,aN];exact⟨vO (bK.sub HQ LU) pj aG hc.aT (jI hc za),(back aH).step aG (fun b hb hl=>by omega)⟩
end
section
open Go Go.W
theorem zB{w w':World}{S:Nat→Prop}{M:Ms}{E:Env}{cz:List Value}{u:Value}{x:Except Int (Ty×St)}{b4:Nat}(hk:Kept w (aY S b4) M E cz u x)(bX:cz.length=3)(cJ:∀ u∈cz,u.oneCell'=true)(hm:Mod (· = b4) w w')(ij:∀ b∈M.list,S b)(jb:∀ b∈M.list,¬ b=b4) :
   uh w' S M E (.tuple #[.agg cz.toArray,u]) x:=by
 cases x with
 |error e4=>
  obtain⟨rfl,bJ,bd,lc,hc⟩:=hk;exact⟨cz,bX,cJ,rfl,bJ,_,_,(hc.side hm (fun b hb=>.inr hb) jb).sub (fun b hb=>.inl hb) ij⟩
 |ok y=>
  obtain⟨rfl,bL,hc⟩:=hk;exact vO hc bL hm ij jb
theorem Y8{w:World}{S:Nat->Prop}{M:Ms}{E:Env}{r:Value}{x:Except Int Ty}{st:St}(h:Lm w S r x)(hc:cL w S M E st.1 st.2):∃cz u,r=.tuple #[.agg cz.toArray,u]/\cz.length=3/\(∀u∈cz,u.oneCell'=true)/\Kept w S M E cz u (x.map (fun t=>(t,st))):=by
 cases x with
 |error e4=>obtain⟨cz,bX,cJ,rfl,bJ⟩:=h;exact⟨cz,_,rfl,bX,cJ,rfl,bJ,_,_,hc⟩
 |ok y1=>obtain⟨cz,rfl,bL⟩:=h;exact⟨cz,_,rfl,bL.len,bL.one,rfl,bL,hc⟩
theorem aip{E:Env}(hE:nC E)(iW:eR E jq 0=false)(e:Ex):xD E e:=by
 induction e using Ex.ind with
 |h e dK hM gT=>
 intro w S M st cs hc hg he;obtain⟨vt,va,vb,vl,rfl,ht,ha,hb,hl⟩:=he.parts;obtain⟨at',ct,rfl⟩:=bq ht;obtain⟨aa,ca,rfl⟩:=bq ha;refine γ Tryz.f55 ?_;refine σ ?_;refine bZ rfl ?_;intro wa CH qZ wZ;refine σ ?_;refine cX ?_;intro w2 bm lU LA;have aS:=lU.at CH Ψ;have bo:=qZ.trans lU;have za:=qZ.size
 have gv:cL w2 (aY S wa.heap.size) M E st.1 st.2:=hc.ext bo (fZ za) (fun b hb=>.inl hb) (fun b hb=>by
  rcases hb with h |h
  ·have:=hc.lt b h;omega
  ·omega)
 have n4:¬M.two wa.heap.size:=gh hc za;have xi:=he.ext (aq bo) (fZ za);simp only[go_sem,simprocAttr,aE (n:=7) aS rfl];refine δ (by rfl) (ahc e xi) ?_;rintro _ w3 ⟨rfl,aw⟩;have bz:=bo.trans aw;have cT:=gv.aI aw;have xH:=xi.aI (aq aw);have aS:=aw.at aS Ψ;have bm:=aw.at bm Ψ;have z3:=bz.size;have Rj:=aw.size;have zh:w2.heap.size=wa.heap.size+1:=LA;by_cases hf:lB e=false
 .rw[ox,if_pos hf];simp only[go_sem,simprocAttr,hf];refine jf hc za bm (aq bz) cT rfl rfl ?_;intro w5 bY aH bK;simp only[go_sem,simprocAttr,aM,RV.ev,aE (n:=3) bY rfl,aN];exact⟨.bad (by decide) bK,aH⟩
 have ii:lB e=true:=by simpa using hf
 have F:=EW ii;have kk:w3.cell? ⟨w.heap.size,0,none⟩=some (I e.kind):=by rw[cell_of aS];rfl
 have kn:w3.cell? ⟨w.heap.size,1,none⟩=some (.string e.name):=by rw[cell_of aS];rfl
 have kt:w3.cell? ⟨w.heap.size,3,none⟩=some (.slice at' e.types.length ct):=by rw[cell_of aS];rfl
 have ka:w3.cell? ⟨w.heap.size,4,none⟩=some (.slice aa e.args.length ca):=by rw[cell_of aS];rfl
 have Fa:=aE (n:=7) aS rfl;have xk:=F.xk;obtain⟨Rk,Rl,Rm,Y9,vW,uo,AR,-,-⟩:=xH.parts
 injection vW with _ vW
 injection vW with _ vW
 injection vW with _ vW
 injection vW with e2' vW
 injection vW with e3' _
 subst e2' e3';have zr:∀p∈[(5,w.heap.size),(3,M.c)],p.2<w3.drew.heap.size:=fun p hp=>by
  have e:w3.drew.heap.size=w3.heap.size:=rfl;simp only[List.mem_cons,List.not_mem_nil,or_false]at hp;rcases hp with rfl |rfl
  .show w.heap.size<_;omega
  .have:=cT.lt _ (cT.aT M.c (by simp[Ms.list]));show M.c<_;omega
 simp only[go_sem,simprocAttr,ii];have aiq:e.kind=1\/e.kind=2\/e.kind=3\/e.kind=4\/e.kind=5\/e.kind=6\/e.kind=7\/e.kind=8\/e.kind=9\/e.kind=10\/e.kind=11\/e.kind=12:=by omega
 rcases aiq with hk |hk |hk |hk |hk |hk |hk |hk |hk |hk |hk |hk
 .
  rw[ox,if_neg hf];rw[if_pos hk];rw[hk]at kk;have q1:((1:Int)==1)=true:=rfl;simp only[go_sem,simprocAttr,kk,q1,cell_of cT.box,kn];have xK:=cT.aI (Mod.refl (fun _=>False) w3).drew;refine HH (Rr:=pd w3.drew (Out (aY S wa.heap.size) w3.drew)) (k:=e.name) (b0:=M.ml) (kt:=9) (et:=dH) (zc:=cS) rfl rfl rfl rfl (fun w=>Tryz.zeroValue52 w) ⟨rfl,vF⟩ rfl xK.locals
   (fun v y hr=>by obtain⟨cs,rfl,bL⟩:=hr;exact⟨cs,rfl,bL.len,bL.one⟩) zr (by decide) ?_
  intro w4 nJ cz u hold g6 g7 cH me bX cJ vH;have aD:Mod (fun _=>False) w3 w4:=me.dG;have g4:nJ.get 4=some (ptr wa.heap.size):=(hold 4 (by decide)).trans rfl;have bm:=aD.at bm Ψ;have lG:=cT.aI aD;have g6:nJ.get 6=some (ptr w3.heap.size):=g6;have cH:w4.heap[w3.heap.size]?=some (.cells cz.toArray dH (0,0)):=cH;have eX:=(aq bz (S:=M.two)).trans (aq aD);rcases vH with⟨hn,rfl⟩ |⟨x,hx,hr,rfl⟩
  .rw[hn];simp only[go_sem,simprocAttr,g4,g6,g7];refine jf hc za bm eX lG rfl rfl ?_;intro w5 bY aH bK;simp only[go_sem,simprocAttr,aM,RV.ev,aE (n:=3) bY rfl,aN];exact⟨.bad (by decide) bK,aH⟩
  .rw[hx];obtain⟨fg,re,bL⟩:=hr;have re:cz=fg:=by have:=congrArg Array.toList (show cz.toArray=fg.toArray by cases re;rfl);simpa using this
   subst re;simp only[go_sem,simprocAttr,g4,g6,g7,aE (n:=3) cH bX];refine bN (cs:=cS) rfl rfl bm bX rfl cJ ?_;intro w5 hb aH eY;simp only[go_sem,simprocAttr,aM,RV.ev,aE (n:=3) hb bX,aN];exact⟨vO lG (bL.aI (aq me)) aH hc.aT (jI hc za),eX.step aH (fun b hb hl=>by omega)⟩
 .
  rw[ox,if_neg hf];rw[if_neg (show ¬e.kind=1 by omega)];rw[if_pos hk];rw[hk]at kk;have q1:((2:Int)==1)=false:=rfl;have q2:((2:Int)==2)=true:=rfl;simp only[go_sem,simprocAttr,kk,q1,q2];refine aL (by rfl) ?_;refine Xz.mono ?_;rintro _ w4 ⟨rfl,aD⟩;refine σ ?_;refine bN (cs:=cS) (vs:=fG 1 bM) rfl rfl (aD.at bm Ψ) rfl rfl (oo _ _) ?_;intro w5 hb aH eY;simp only[go_sem,simprocAttr,aM,RV.ev,aE (n:=3) (cs:=fG 1 bM) hb rfl,aN];exact⟨vO (cT.aI aD) (om _ _ 1 bM) aH hc.aT (jI hc za),((aq bz).trans (aq aD)).step aH (fun b hb hl=>by omega)⟩
 .
  rw[ox,if_neg hf];rw[if_neg (show ¬e.kind=1 by omega)];rw[if_neg (show ¬e.kind=2 by omega)];rw[if_pos hk];rw[hk]at kk;have q1:((3:Int)==1)=false:=rfl;have q2:((3:Int)==2)=false:=rfl;have q3:((3:Int)==3)=true:=rfl;simp only[go_sem,simprocAttr,kk,q1,q2,q3,cell_of cT.box,kn];have xK:=cT.aI (Mod.refl (fun _=>False) w3).drew;refine Hp (R:=xA w3.drew (Out (aY S wa.heap.size) w3.drew)) (k:=e.name) (b:=M.mf) (kt:=9) (et:=70) rfl rfl rfl rfl (Tryz.zeroValue70 _) xK.aj (fun hn=>?_) (fun v d hd hr=>?_)
  .rw[hn];refine σ ?_;refine jf (w3:=w3.drew) hc za bm ((aq bz).trans (Mod.refl _ _).drew) xK rfl rfl ?_;intro w5 bY aH bK;simp only[go_sem,simprocAttr,aM,RV.ev,aE (n:=3) bY rfl,aN];exact⟨.bad (by decide) bK,aH⟩
  .rw[hd];obtain⟨ad,rfl,Hi⟩:=hr;obtain⟨cf,rX,vp,tc,bc,rfl,cG,kU,fJ,bL,aqM,_⟩:=Hi;have hlen:(Value.string d.name::vp::(tc++bc)).length=12:=by simp[cG,kU]
   have k1:=rX.at (k:=1) (by omega);have k2:=rX.ln (o:=2) (n:=3) (by omega);have k1:w3.cell? ⟨ad.block,ad.off+1,none⟩=some vp:=k1;have k2:f' w3 3 (.pointer (some ⟨ad.block,ad.off+2,none⟩))=some (.agg tc.toArray):=by
    rw[<- cY,k2];have:((Value.string d.name::vp::(tc++bc)).drop 2).take 3=tc:=by simp[List.take_append_of_le_length,cG]
    rw[this]
   simp only[go_sem,simprocAttr,k1,k2,kt];have d1:Mod (aY S wa.heap.size) w3 w3.drew:=(Mod.refl _ _).drew;have d2:Mod (aY S wa.heap.size) w3.drew w3.drew.drew:=(Mod.refl _ _).drew;have d3:Mod (fun _=>False) w3.drew w3.drew.drew:=(Mod.refl _ _).drew;refine δ (by rfl) (XV d.type (xK.aI d3) (bL.aI d2) (fJ.up d2 aW (br d2) (fun _ _ h=>h)) (Co uo (d1.trans d2))) ?_;rintro r w5 ⟨hr,aH⟩;obtain⟨cz,u,rfl,bX,cJ,dM⟩:=Y8 hr ((xK.aI d3).aI aH);refine σ ?_;refine bN (cs:=cS) rfl rfl (aH.at bm Ψ) bX rfl cJ ?_;intro w6 hb aG fw;simp only[go_sem,simprocAttr,aM,RV.ev,aE (n:=3) hb bX,aN];exact⟨zB dM bX cJ aG hc.aT (jI hc za),(((aq bz (S:=M.two)).trans (aq ((Mod.refl (fun _=>False) w3).drew.trans d3))).trans (aq aH)).step aG (fun b hb hl=>by omega)⟩
 .
  rw[ox,if_neg hf];rw[if_neg (show ¬e.kind=1 by omega)];rw[if_neg (show ¬e.kind=2 by omega)];rw[if_neg (show ¬e.kind=3 by omega)];rw[if_pos hk];rw[hk]at kk;have q1:((4:Int)==1)=false:=rfl;have q2:((4:Int)==2)=false:=rfl;have q3:((4:Int)==3)=false:=rfl;have q4:((4:Int)==4)=true:=rfl;simp only[go_sem,simprocAttr,kk,q1,q2,q3,q4,cell_of cT.box,kn];have xK:=cT.aI (Mod.refl (fun _=>False) w3).drew;refine HH (Rr:=vM w3.drew (Out (aY S wa.heap.size) w3.drew)) (k:=e.name) (b0:=M.mc) (kt:=9) (et:=179) (zc:=[.pointer none,I 0]) rfl rfl rfl rfl (fun w=>Tryz.zeroValue179 w) ⟨rfl,aP rfl (aP rfl dq)⟩ rfl xK.cons
   (fun v y hr=>by obtain⟨ad,rfl,_⟩:=hr;exact⟨[.pointer (some ad),I y.2],rfl,rfl,aP rfl (aP rfl dq)⟩) zr (by decide) ?_
  intro w4 nJ cz u hold g10 g11 eM me y9 cJ vH;have aD:Mod (fun _=>False) w3 w4:=me.dG;have g0:nJ.get 0=some (ptr M.c):=(hold 0 (by decide)).trans rfl;have g3:nJ.get 3=some (ptr w.heap.size):=(hold 3 (by decide)).trans rfl;have g4:nJ.get 4=some (ptr wa.heap.size):=(hold 4 (by decide)).trans rfl;have bm:=aD.at bm Ψ;have lG:=cT.aI aD;have g10:nJ.get 10=some (ptr w3.heap.size):=g10;have eM:w4.heap[w3.heap.size]?=some (.cells cz.toArray 179 (0,0)):=eM;have eX:=(aq bz (S:=M.two)).trans (aq aD);rcases vH with⟨hn,rfl⟩ |⟨x,hx,⟨ad,CJ,AY,gS⟩,rfl⟩
  .rw[hn];simp only[go_sem,simprocAttr,g0,g3,g4,g10,g11];refine jf hc za bm eX lG rfl rfl ?_;intro w5 bY aH bK;simp only[go_sem,simprocAttr,aM,RV.ev,aE (n:=3) bY rfl,aN];exact⟨.bad (by decide) bK,aH⟩
  .rw [hx];have CJ:cz=[.pointer (some ad),I x.2]:=by
    have:cz.toArray=#[.pointer (some ad),I x.2]:=by cases CJ;rfl
    have:=congrArg Array.toList this
    simpa using this
   subst CJ;have Y':vK w4 (Out (aY S wa.heap.size) w4) ad x.1:=AY.up (aq me) aW (br (aq me));have air:=Y';obtain⟨cs,bT,vp,vc,rfl,iw,lC⟩:=Y';have k1:w4.cell? ⟨ad.block,ad.off+1,none⟩=some vp:=bT.at (k:=1) (by simp);have kt4:=aD.cell kt Ψ;have Za:w4.cell? ⟨w3.heap.size,0,none⟩=some (.pointer (some ad)):=by rw[cell_of eM];rfl
   simp only[go_sem,simprocAttr,g0,g3,g4,g10,g11,Za,k1,kt4,aE (n:=2) eM rfl];have dd:Mod (fun _=>False) w4 w4.drew:=(Mod.refl _ _).drew;have QT:=lG.aI dd;have hS:∀b,aY S wa.heap.size b->b<w4.drew.heap.size:=QT.lt;refine δ (by rfl) (ahl x.1 x.2 (air.up (aq dd) aW (br (aq dd))) gS hS) ?_;rintro _ w5' ⟨⟨cq,rfl,htq⟩,hmq⟩;have zC:Mod (fun _=>False) w4 w5':=dd.trans hmq;have ais:=np k1;have Ro:=aD.size;have ait:=np Za;refine σ ?_;refine⟨⟨zC.bO _ (by omega) Ψ,zC.bO _ ais Ψ,zC.bO _ ait Ψ⟩,?_⟩;refine aL (by rfl) ?_;have ht5:=Co (Co uo (aq aD)) (aq zC);have aiu:=iw.up (aq zC) aW (br (aq zC)) (fun _ _ h=>h);have lH:=lG.aI zC;have bm:=zC.at bm Ψ;have jd:=eX.trans (aq zC);refine(XV (vJ x.1 x.2) lH htq aiu ht5).mono ?_;rintro r w7 ⟨hr,aO⟩;obtain⟨cz,u,rfl,bX,cJ,dM⟩:=Y8 hr (lH.aI aO);refine σ ?_;refine bN (cs:=cS) rfl rfl (aO.at bm Ψ) bX rfl cJ ?_;intro w6 hb aG fw;simp only[go_sem,simprocAttr,aM,RV.ev,aE (n:=3) hb bX,aN];exact⟨zB dM bX cJ aG hc.aT (jI hc za),(jd.trans (aq aO)).step aG (fun b hb hl=>by omega)⟩
 .
  rw[ox,if_neg hf];rw[if_neg (show ¬e.kind=1 by omega)];rw[if_neg (show ¬e.kind=2 by omega)];rw[if_neg (show ¬e.kind=3 by omega)];rw[if_neg (show ¬e.kind=4 by omega)];rw[if_neg (show ¬e.kind=12 by omega)];rw[if_pos hk];rw[hk]at kk;have q1:((5:Int)==1)=false:=rfl;have q2:((5:Int)==2)=false:=rfl;have q3:((5:Int)==3)=false:=rfl;have q4:((5:Int)==4)=false:=rfl;have pu:((5:Int)==12)=false:=rfl;have q5:((5:Int)==5)=true:=rfl;obtain⟨x,y,iG⟩:=Lt (F.a2 (by omega));simp only[go_sem,simprocAttr,kk,q1,q2,q3,q4,pu,q5,Fa];refine δ (by rfl) (ahA hE iW iG (dK x (by simp[iG])) (dK y (by simp[iG])) cT hg xH) ?_;rintro r w4 ⟨hr,aD⟩;obtain⟨cz,u,rfl,bX,cJ,dM⟩:=zx hr;refine σ ?_;refine bN (cs:=cS) rfl rfl (aD.at bm n4) bX rfl cJ ?_;intro w5 hb aH eY;simp only[go_sem,simprocAttr,aM,RV.ev,aE (n:=3) hb bX,aN];exact⟨zB dM bX cJ aH hc.aT (jI hc za),((aq bz).trans aD).step aH (fun b hb hl=>by omega)⟩
 .
  rw[ox,if_neg hf];rw[if_neg (show ¬e.kind=1 by omega)];rw[if_neg (show ¬e.kind=2 by omega)];rw[if_neg (show ¬e.kind=3 by omega)];rw[if_neg (show ¬e.kind=4 by omega)];rw[if_neg (show ¬e.kind=12 by omega)];rw[if_neg (show ¬e.kind=5 by omega)];rw[if_neg (show ¬e.kind=9 by omega)];rw[if_neg (show ¬e.kind=10 by omega)];rw[if_pos hk];rw[hk]at kk;have q1:((6:Int)==1)=false:=rfl;have q2:((6:Int)==2)=false:=rfl;have q3:((6:Int)==3)=false:=rfl;have q4:((6:Int)==4)=false:=rfl;have pu:((6:Int)==12)=false:=rfl;have q5:((6:Int)==5)=false:=rfl;have q9:((6:Int)==9)=false:=rfl;have s8:((6:Int)==10)=false:=rfl;have q6:((6:Int)==6)=true:=rfl;obtain⟨x,iq⟩:=EX (F.a1 (by omega));obtain⟨b,iK⟩:=EX (F.b1 (by omega));rw[iK];simp only[go_sem,simprocAttr,kk,q1,q2,q3,q4,pu,q5,q9,s8,q6,Fa];refine δ (by rfl) (ahF hE iW iq iK (dK x (by simp[iq])) cT hg xH) ?_;rintro r w4 ⟨hr,aD⟩;obtain⟨cz,u,rfl,bX,cJ,dM⟩:=zx hr;refine σ ?_;refine bN (cs:=cS) rfl rfl (aD.at bm n4) bX rfl cJ ?_;intro w5 hb aH eY;simp only[go_sem,simprocAttr,aM,RV.ev,aE (n:=3) hb bX,aN];exact⟨zB dM bX cJ aH hc.aT (jI hc za),((aq bz).trans aD).step aH (fun b hb hl=>by omega)⟩
 .
  rw[ox,if_neg hf];rw[if_neg (show ¬e.kind=1 by omega)];rw[if_neg (show ¬e.kind=2 by omega)];rw[if_neg (show ¬e.kind=3 by omega)];rw[if_neg (show ¬e.kind=4 by omega)];rw[if_neg (show ¬e.kind=12 by omega)];rw[if_neg (show ¬e.kind=5 by omega)];rw[if_neg (show ¬e.kind=9 by omega)];rw[if_neg (show ¬e.kind=10 by omega)];rw[if_neg (show ¬e.kind=6 by omega)];rw[if_pos (show e.kind=7\/e.kind=11 by omega)];rw[hk]at kk;have q1:((7:Int)==1)=false:=rfl;have q2:((7:Int)==2)=false:=rfl;have q3:((7:Int)==3)=false:=rfl;have q4:((7:Int)==4)=false:=rfl;have pu:((7:Int)==12)=false:=rfl;have q5:((7:Int)==5)=false:=rfl;have q9:((7:Int)==9)=false:=rfl;have s8:((7:Int)==10)=false:=rfl;have q6:((7:Int)==6)=false:=rfl;have q7:((7:Int)==7)=true:=rfl;obtain⟨x,iq⟩:=EX (F.a1 (by omega));simp only[go_sem,simprocAttr,kk,q1,q2,q3,q4,pu,q5,q9,s8,q6,q7,Fa];refine δ (by rfl) (YB hE iW iq (dK x (by simp[iq])) hM cT hg xH) ?_;rintro r w4 ⟨hr,aD⟩;obtain⟨cz,u,rfl,bX,cJ,dM⟩:=zx hr;refine σ ?_;refine bN (cs:=cS) rfl rfl (aD.at bm n4) bX rfl cJ ?_;intro w5 hb aH eY;simp only[go_sem,simprocAttr,aM,RV.ev,aE (n:=3) hb bX,aN];exact⟨zB dM bX cJ aH hc.aT (jI hc za),((aq bz).trans aD).step aH (fun b hb hl=>by omega)⟩
 .
  rw[ox,if_neg hf];rw[if_neg (show ¬e.kind=1 by omega)];rw[if_neg (show ¬e.kind=2 by omega)];rw[if_neg (show ¬e.kind=3 by omega)];rw[if_neg (show ¬e.kind=4 by omega)];rw[if_neg (show ¬e.kind=12 by omega)];rw[if_neg (show ¬e.kind=5 by omega)];rw[if_neg (show ¬e.kind=9 by omega)];rw[if_neg (show ¬e.kind=10 by omega)];rw[if_neg (show ¬e.kind=6 by omega)];rw[if_neg (show ¬(e.kind=7\/e.kind=11) by omega)];rw[hk]at kk;have q1:((8:Int)==1)=false:=rfl;have q2:((8:Int)==2)=false:=rfl;have q3:((8:Int)==3)=false:=rfl;have q4:((8:Int)==4)=false:=rfl;have pu:((8:Int)==12)=false:=rfl;have q5:((8:Int)==5)=false:=rfl;have q9:((8:Int)==9)=false:=rfl;have s8:((8:Int)==10)=false:=rfl;have q6:((8:Int)==6)=false:=rfl;have q7:((8:Int)==7)=false:=rfl;have Rq:((8:Int)==11)=false:=rfl;obtain⟨x,iq⟩:=EX (F.a1 (by omega));simp only[go_sem,simprocAttr,kk,q1,q2,q3,q4,pu,q5,q9,s8,q6,q7,Rq,Fa];refine δ (by rfl) (aif hE iW iq (fun h=>by have:=F.al hk;rw[h]at this;simp at this) (dK x (by simp[iq])) gT cT hg xH) ?_;rintro r w4 ⟨hr,aD⟩;obtain⟨cz,u,rfl,bX,cJ,dM⟩:=zx hr;refine σ ?_;refine bN (cs:=cS) rfl rfl (aD.at bm n4) bX rfl cJ ?_;intro w5 hb aH eY;simp only[go_sem,simprocAttr,aM,RV.ev,aE (n:=3) hb bX,aN];exact⟨zB dM bX cJ aH hc.aT (jI hc za),((aq bz).trans aD).step aH (fun b hb hl=>by omega)⟩
 .
  rw[ox,if_neg hf];rw[if_neg (show ¬e.kind=1 by omega)];rw[if_neg (show ¬e.kind=2 by omega)];rw[if_neg (show ¬e.kind=3 by omega)];rw[if_neg (show ¬e.kind=4 by omega)];rw[if_neg (show ¬e.kind=12 by omega)];rw[if_neg (show ¬e.kind=5 by omega)];rw[if_pos hk];rw[hk]at kk;have q1:((9:Int)==1)=false:=rfl;have q2:((9:Int)==2)=false:=rfl;have q3:((9:Int)==3)=false:=rfl;have q4:((9:Int)==4)=false:=rfl;have pu:((9:Int)==12)=false:=rfl;have q5:((9:Int)==5)=false:=rfl;have q9:((9:Int)==9)=true:=rfl;simp only[go_sem,simprocAttr,kk,q1,q2,q3,q4,pu,q5,q9,Fa];refine δ (by rfl) (ahC hE iW (F.a2 (by omega)) (F.op hk) dK cT hg xH) ?_;rintro r w4 ⟨hr,aD⟩;obtain⟨cz,u,rfl,bX,cJ,dM⟩:=zx hr;refine σ ?_;refine bN (cs:=cS) rfl rfl (aD.at bm n4) bX rfl cJ ?_;intro w5 hb aH eY;simp only[go_sem,simprocAttr,aM,RV.ev,aE (n:=3) hb bX,aN];exact⟨zB dM bX cJ aH hc.aT (jI hc za),((aq bz).trans aD).step aH (fun b hb hl=>by omega)⟩
 .
  rw[ox,if_neg hf];rw[if_neg (show ¬e.kind=1 by omega)];rw[if_neg (show ¬e.kind=2 by omega)];rw[if_neg (show ¬e.kind=3 by omega)];rw[if_neg (show ¬e.kind=4 by omega)];rw[if_neg (show ¬e.kind=12 by omega)];rw[if_neg (show ¬e.kind=5 by omega)];rw[if_neg (show ¬e.kind=9 by omega)];rw[if_pos hk];rw[hk]at kk;have q1:((10:Int)==1)=false:=rfl;have q2:((10:Int)==2)=false:=rfl;have q3:((10:Int)==3)=false:=rfl;have q4:((10:Int)==4)=false:=rfl;have pu:((10:Int)==12)=false:=rfl;have q5:((10:Int)==5)=false:=rfl;have q9:((10:Int)==9)=false:=rfl;have s8:((10:Int)==10)=true:=rfl;obtain⟨x,y,iG⟩:=Lt (F.a2 (by omega));have gX:e.args.length=2:=by rw[iG];rfl
  have b1:(0:Int)<=0/\(0:Int)<e.args.length:=by omega
  have b2:(0:Int)<=1/\(1:Int)<e.args.length:=by omega
  obtain⟨ad,c1,r1,e1,hx,sX⟩:=zm AR (i:=0) (by omega);obtain⟨rfl,-,-⟩:=cU e1;have CC:e.args[0]'(by omega)=x:=by simp[iG]
  have Hw:e.args[1]'(by omega)=y:=by simp[iG]
  rw[CC]at hx;rw[Nat.zero_mul,add_zero']at sX;rw[iG];simp only[dy];simp only[go_sem,simprocAttr,bG,bH,kk,q1,q2,q3,q4,pu,q5,q9,s8,ka,b1,Nat.zero_mul,sX];refine δ (by rfl) (dK x (by simp[iG]) cT hg hx) ?_;rintro r4 w4 ⟨nE,aD⟩;cases cP:cM E x st with
  |error e3=>
   rw[cP]at nE;obtain⟨cz,bX,cJ,rfl,bJ,Lu,Hx,nD⟩:=nE;refine σ ?_;refine eC (n:=3) (vs:=cz) rfl bX cJ ?_;intro w5 bY aH eY;have jJ:(e3 != 0)=true:=by simpa using bJ
   simp only[go_sem,simprocAttr,jJ];refine jf hc za ((aD.trans (aq aH)).at bm n4) ((aq bz).trans (aD.trans (aq aH))) (nD.aI aH) rfl rfl ?_;intro w6 cH aG bK;simp only[go_sem,simprocAttr,aM,RV.ev,aE (n:=3) cH rfl,aN];exact⟨.bad bJ bK,aG⟩
  |ok y1=>
   obtain⟨t1,eL⟩:=y1;rw[cP]at nE;obtain⟨⟨c4,rfl,xJ⟩,lG⟩:=nE;have g1:=xC hE iW x st _ hg cP;refine σ ?_;refine eC (n:=3) (vs:=c4) rfl xJ.len xJ.one ?_;intro w5 bY aH eY;have lH:=lG.aI aH;have iV:=aD.trans (aq aH);have S2:=cT.two;have aS:=iV.at aS (gh hc (Nat.le_refl _));have ka5:w5.cell? ⟨w.heap.size,4,none⟩=some (.slice (some ad) e.args.length ca):=by rw[cell_of aS];rfl
   have QU:aX w5 (.slice (some ad) e.args.length ca) 7 (Out (aY S wa.heap.size) w5) (ci w5 (Out (aY S wa.heap.size) w5)) e.args:=AR.up iV (fun b hb hh=>hb.2 (S2 b hh)) (br (iV.aU S2)) (fun _ _ h=>h.aI (iV.aU S2));obtain⟨KT,Ll,r2,e2,hy,Hy⟩:=zm QU (i:=1) (by omega);obtain⟨e3,-,-⟩:=cU e2;cases e3;rw[Hw]at hy;rw[Nat.one_mul,add_pos _ (n:=7) (by decide)]at Hy;simp only[go_sem,simprocAttr,bG,bH,ka5,b2,Int.toNat_one,Nat.one_mul,Hy];refine δ (by rfl) (dK y (by simp[iG]) (st:=eL) lH g1.2 hy) ?_;rintro r6 w6 ⟨qc,aG⟩;obtain⟨cz,u,rfl,bX,cJ,dM⟩:=zx qc;have E3:=iV.trans aG;refine σ ?_;refine bN (cs:=cS) rfl rfl (E3.at bm n4) bX rfl cJ ?_;intro w7 hb aO jn;simp only[go_sem,simprocAttr,aM,RV.ev,aE (n:=3) hb bX,aN];have hX:(match(match cM E y eL with |.error x=>.error x |.ok y=>(match(.ok ([],y.2):Except Int (List Ty×St))with |.error x=>.error x |.ok z=>.ok (y.1::z.1,z.2)):Except Int (List Ty×St))with |.error x=>(.error x:Except Int (List Ty×St)) |.ok z=>.ok (t1::z.1,z.2))=(match cM E y eL with |.error x=>.error x |.ok y=>.ok ([t1,y.1],y.2)):=by
    cases cM E y eL<;>rfl
   refine⟨?_,((aq bz).trans E3).step aO (fun b hb hl=>by omega)⟩;have hR:=zB dM bX cJ aO hc.aT (jI hc za);cases CD:cM E y eL with
   |error e=>rw[CD]at hR;exact hR
   |ok y2=>rw[CD]at hR;exact hR
 .
  rw[ox,if_neg hf];rw[if_neg (show ¬e.kind=1 by omega)];rw[if_neg (show ¬e.kind=2 by omega)];rw[if_neg (show ¬e.kind=3 by omega)];rw[if_neg (show ¬e.kind=4 by omega)];rw[if_neg (show ¬e.kind=12 by omega)];rw[if_neg (show ¬e.kind=5 by omega)];rw[if_neg (show ¬e.kind=9 by omega)];rw[if_neg (show ¬e.kind=10 by omega)];rw[if_neg (show ¬e.kind=6 by omega)];rw[if_pos (show e.kind=7\/e.kind=11 by omega)];rw[hk]at kk;have q1:((11:Int)==1)=false:=rfl;have q2:((11:Int)==2)=false:=rfl;have q3:((11:Int)==3)=false:=rfl;have q4:((11:Int)==4)=false:=rfl;have pu:((11:Int)==12)=false:=rfl;have q5:((11:Int)==5)=false:=rfl;have q9:((11:Int)==9)=false:=rfl;have s8:((11:Int)==10)=false:=rfl;have q6:((11:Int)==6)=false:=rfl;have q7:((11:Int)==7)=false:=rfl;have Rq:((11:Int)==11)=true:=rfl;obtain⟨x,iq⟩:=EX (F.a1 (by omega));simp only[go_sem,simprocAttr,kk,q1,q2,q3,q4,pu,q5,q9,s8,q6,q7,Rq,Fa];refine δ (by rfl) (YB hE iW iq (dK x (by simp[iq])) hM cT hg xH) ?_;rintro r w4 ⟨hr,aD⟩;obtain⟨cz,u,rfl,bX,cJ,dM⟩:=zx hr;refine σ ?_;refine bN (cs:=cS) rfl rfl (aD.at bm n4) bX rfl cJ ?_;intro w5 hb aH eY;simp only[go_sem,simprocAttr,aM,RV.ev,aE (n:=3) hb bX,aN];exact⟨zB dM bX cJ aH hc.aT (jI hc za),((aq bz).trans aD).step aH (fun b hb hl=>by omega)⟩
 .
  rw[ox,if_neg hf];rw[if_neg (show ¬e.kind=1 by omega)];rw[if_neg (show ¬e.kind=2 by omega)];rw[if_neg (show ¬e.kind=3 by omega)];rw[if_neg (show ¬e.kind=4 by omega)];rw[if_pos hk];rw[hk]at kk;have q1:((12:Int)==1)=false:=rfl;have q2:((12:Int)==2)=false:=rfl;have q3:((12:Int)==3)=false:=rfl;have q4:((12:Int)==4)=false:=rfl;have pu:((12:Int)==12)=true:=rfl;obtain⟨t0,LW⟩:=EX (F.t1 hk);have Zb:e.types[0]'(by rw[LW];simp)=t0:=by simp[LW]
  rw[LW];have oh:e.types.length=1:=by rw[LW];rfl
  obtain⟨ad,c1,r1,e1,bL,gi,bg,_⟩:=dT uo (i:=0) (by omega);obtain⟨rfl,-,-⟩:=cU e1;rw[Zb]at bL;rw[Nat.zero_mul,add_zero']at bg;have b1:(0:Int)<=0/\(0:Int)<e.types.length:=by omega
  simp only[go_sem,simprocAttr,bG,bH,kk,q1,q2,q3,q4,pu,kt,b1,Nat.zero_mul,bg];refine δ (by rfl) (Hs t0 cT bL) ?_;rintro _ w5 ⟨rfl,aH⟩;have lH:=cT.aI aH;have bm:=aH.at bm Ψ;have pj:=bL.aI (aq aH);have kt5:=aH.cell kt Ψ;obtain⟨ad5,c15,r5,e5,Rs,Zc,E6,_⟩:=dT (Co uo (aq aH)) (i:=0) (by omega);obtain⟨e55,-,-⟩:=cU e5;cases e55;rw[Zb]at Rs;rw[Nat.zero_mul,add_zero']at E6;cases fO:iT E t0 with
  |false=>
   refine σ ?_;refine jf hc za bm ((aq bz).trans (aq aH)) lH rfl rfl ?_;intro w6 bY aG bK;simp only[go_sem,simprocAttr,aM,RV.ev,aE (n:=3) bY rfl,aN];exact⟨.bad (by decide) bK,aG⟩
  |true=>
   simp only[go_sem,simprocAttr,bG,bH,kt5,b1,Nat.zero_mul,E6];refine bN (cs:=cS) rfl rfl bm Zc rfl Rs.one ?_;intro w6 hb aG fw;simp only[go_sem,simprocAttr,aM,RV.ev,aE (n:=3) hb Zc,aN];exact⟨vO lH Rs aG hc.aT (jI hc za),((aq bz).trans (aq aH)).step aG (fun b hb hl=>by omega)⟩
end
section
open Go Go.W
structure gU (w:World) (S:Nat->Prop) (c md mc mf:Nat) (E:Env):Prop where
 box:∃vp vb vl:Value,vp.oneCell'=true/\vb.oneCell'=true/\vl.oneCell'=true/\w.heap[c]?=some (.cells [.map (some md),.map (some mc),.map (some mf),vp,.bool false,vb,vl].toArray XO (0,0))
 nodup:[c,md,mc,mf].Nodup
 aT:∀b∈[c,md,mc,mf],S b
 lt:∀b,S b->b<w.heap.size
 aK:bQ w md (zg w (Out S w)) E.aK
 cons:bQ w mc (vM w (Out S w)) E.cons
 aj:bQ w mf (xA w (Out S w)) E.aj
theorem Rt{c md mc mf:Nat}(h:[c,md,mc,mf].Nodup):(c≠md/\c≠mc/\c≠mf)/\(md≠mc/\md≠mf)/\mc≠mf:=by
 simp only[List.nodup_cons,List.mem_cons,List.not_mem_nil,or_false,not_or,not_false_eq_true,List.nodup_nil,and_true]at h;exact h
section
variable {w w':World} {S S' T:Nat->Prop} {c md mc mf:Nat} {E:Env}
theorem cL.forget{M:Ms}{bd:cE}{lc:Loc}(h:cL w S M E bd lc):gU w S M.c M.md M.mc M.mf E:=by
 obtain⟨⟨a1,a2,a3,_⟩,⟨b1,b2,_⟩,⟨c1,_⟩,_⟩:=Ms.ne h.nodup;refine⟨⟨.map (some M.mp),.map (some M.mb),.map (some M.ml),rfl,rfl,rfl,h.box⟩,?_,fun b hb=>h.aT b ?_,h.lt,h.aK,h.cons,h.aj⟩
 .simp[a1,a2,a3,b1,b2,c1]
 .simp only[List.mem_cons,List.not_mem_nil,or_false]at hb;rcases hb with rfl |rfl |rfl |rfl<;>simp[Ms.list]
theorem gU.fm{E':Env}(h:gU w S c md mc mf E)(hm:Mod T w w')(hT:∀b,T b->S b)(hc:¬T c)(h1:bQ w' md (zg w' (Out S w')) E'.aK)(h2:bQ w' mc (vM w' (Out S w')) E'.cons)(h3:bQ w' mf (xA w' (Out S w')) E'.aj):gU w' S c md mc mf E':=by
 obtain⟨vp,vb,vl,e1,e2,e3,hb⟩:=h.box;exact⟨⟨vp,vb,vl,e1,e2,e3,hm.at hb hc⟩,h.nodup,h.aT,fun b hb=>Nat.lt_of_lt_of_le (h.lt b hb) hm.size,h1,h2,h3⟩
theorem gU.xN(h:gU w S c md mc mf E)(hm:Mod T w w')(hT:∀b,T b->S b)(hn:¬T md):bQ w' md (zg w' (Out S w')) E.aK:=
 h.aK.mod hm hn (fun _ _ x=>x.up (hm.aU hT) aW (br (hm.aU hT)))
theorem gU.bE(h:gU w S c md mc mf E)(hm:Mod T w w')(hT:∀b,T b->S b)(hn:¬T mc):bQ w' mc (vM w' (Out S w')) E.cons:=
 h.cons.mod hm hn (fun _ _ x=>x.up (hm.aU hT) aW (br (hm.aU hT)))
theorem gU.def(h:gU w S c md mc mf E)(hm:Mod T w w')(hT:∀b,T b->S b)(hn:¬T mf):bQ w' mf (xA w' (Out S w')) E.aj:=
 h.aj.mod hm hn (fun _ _ x=>x.up (hm.aU hT) aW (br (hm.aU hT)))
theorem gU.aI(h:gU w S c md mc mf E)(hm:Mod (fun _=>False) w w'):gU w' S c md mc mf E:=
 h.fm hm (fun _ h=>h.elim) Ψ (h.xN hm (fun _ h=>h.elim) Ψ) (h.bE hm (fun _ h=>h.elim) Ψ) (h.def hm (fun _ h=>h.elim) Ψ)
end
def rh(d:Dt):List Cn->Nat->List (ByteArray×(Dt×Nat))->List (ByteArray×(Dt×Nat))
 |[],_,l=>l
 |k::ks,i,l=>rh d ks (i+1) (bS l k.name (d,i))
def ur(E:Env)(d:Dt):Env:={ E with aK:=bS E.aK d.name d,cons:=rh d d.cons 0 E.cons}
theorem aiv{d:Dt}{l:List Cn}{i:Nat}(hi:i<l.length)(m:List (ByteArray×(Dt×Nat))):rh d (l.drop i) i m=rh d (l.drop (i+1)) (i+1) (bS m l[i].name (d,i)):=by rw[Ω hi,rh]
theorem Zd{E:Env}{d:Dt}{a:Addr}{w:World}{S:Nat→Prop}{c md mc mf:Nat}(hc:gU w S c md mc mf E)(hp:vK w (Out S w) a d) :
   bu Tryz.prog 68 [ptr c,.pointer (some a)] w fun r w'=>gU w' S c md mc mf (ur E d)/\Mod (fun b=>b=md\/b=mc) w w':=by
 obtain⟨⟨n1,n2,n3⟩,⟨n4,n5⟩,n6⟩:=Rt hc.nodup;obtain⟨vp,vb,vl,o1,o2,o3,lD⟩:=hc.box;have HT:=hp;obtain⟨cs,bT,nz,vc,rfl,iw,lC⟩:=hp;obtain⟨ac,cc,rfl⟩:=bq lC;refine γ Tryz.f68 ?_;have k0:w.cell? a=some (.string d.name):=bT.c0 (by simp);simp only[go_sem,simprocAttr,cell_of lD,k0];have iX:Mod (fun _=>False) w w.drew:=(Mod.refl _ _).drew;refine lW (R:=zg w.drew (Out S w.drew)) (a:=d) (k:=d.name) (b:=md) (kt:=9) (et:=173) rfl rfl rfl rfl rfl (hc.xN iX (fun _ h=>h.elim) Ψ) ⟨a,rfl,HT.up (aq iX) aW (br (aq iX))⟩ ?_;intro w1 h1 ak cw;have S1:∀b,b=md->S b:=fun b hb=>by rw[hb];exact hc.aT _ (by simp)
 have LX:Mod (· = md) w w1:=ak.dG;have h1:=bQ.mod h1 (Mod.refl (fun _=>False) w1) Ψ (fun v y x=>x.up (ak.aU S1) aW (br (ak.aU S1)));have gp:gU w1 S c md mc mf { E with aK:=bS E.aK d.name d}:=hc.fm LX S1 (fun h=>n1 h) h1 (hc.bE LX S1 (fun h=>n4 h.symm)) (hc.def LX S1 (fun h=>n5 h.symm));have St:∀b,(b=md\/b=mc)->S b:=fun b hb=>by rcases hb with rfl |rfl<;>exact hc.aT _ (by simp)
 have S2:∀b,b=mc->S b:=fun b hb=>St b (.inr hb)
 have iH:=dI lC;have later:∀{w':World},Mod (fun b=>b=md\/b=mc) w w'->iU w' (Out S w') a [.string d.name,nz,.slice ac d.cons.length cc]/\aX w' (.slice ac d.cons.length cc) 2 (Out S w') (fj w' (Out S w')) d.cons/\vK w' (Out S w') a d:=fun hm=>
  ⟨bT.up (hm.aU St) aW (br (hm.aU St)),lC.up (hm.aU St) aW (br (hm.aU St)) (fun _ _ h=>h.up (hm.aU St) aW (br (hm.aU St))),HT.up (hm.aU St) aW (br (hm.aU St))⟩
 have Ze:Mod (fun b=>b=md\/b=mc) w w1:=LX.aU (fun b h=>.inl h);have k2:w1.cell? ⟨a.block,a.off+2,none⟩=some (.slice ac d.cons.length cc):=(later Ze).1.at (k:=2) (by simp);simp only[go_sem,simprocAttr,k2];refine eW d.cons.length (fun k ρ w'=>k<=d.cons.length/\Mod (fun b=>b=md\/b=mc) w w'/\(∃m,gU w' S c md mc mf ⟨bS E.aK d.name d,m,E.aj,E.params⟩/\rh d (d.cons.drop k) k m=rh d d.cons 0 E.cons)/\ρ=[(0,ptr c),(1,.pointer (some a)),(18,.slice ac d.cons.length cc),(19,I d.cons.length),(20,I k)])
  ⟨by omega,Ze,⟨E.cons,gp,rfl⟩,rfl⟩ iH ?_ ?_ (by decide) ?_
 .rintro k _ w2 ⟨hk,_,_,rfl⟩;exact⟨rfl,rfl,hk⟩
 .rintro k _ w2 ⟨_,ai,⟨m,bK,eS⟩,rfl⟩ hk;rw[aiv hk]at eS;obtain⟨q1,q2,q3⟩:=later ai;obtain⟨ad,c2,r,e,hr,gX,cR,_⟩:=dT q2 hk;obtain⟨rfl,-,-⟩:=cU e;obtain⟨vf,rfl,hf,hn⟩:=hr;have bk:(0:Int)<=k/\(k:Int)<d.cons.length:=by omega
  obtain⟨Zf,vb2,vl2,_,_,_,HU⟩:=bK.box;simp only[go_sem,simprocAttr,bG,bH,bk,cR];refine eC (n:=2) (vs:=[.string d.cons[k].name,vf]) rfl rfl (aP rfl (aP (j6 hf) dq)) ?_;intro w3 aS aw dU;have cT:=bK.aI aw;have kn:w3.cell? ⟨w2.heap.size,0,none⟩=some (.string d.cons[k].name):=by rw[cell_of aS];rfl
  simp only[go_sem,simprocAttr,kn,cell_of (aw.at HU Ψ)];have Zg:Mod (fun _=>False) w3 w3.drew:=(Mod.refl _ _).drew;have oz:=ai.trans (aq aw);refine lW (R:=vM w3.drew (Out S w3.drew)) (a:=(d,k)) (k:=d.cons[k].name) (b:=mc) (kt:=9) (et:=179) rfl rfl rfl rfl rfl (cT.bE Zg (fun _ h=>h.elim) Ψ) ⟨a,rfl,(later (oz.trans (aq Zg))).2.2,hk⟩ ?_;intro w4 h4 aD dL;have me:Mod (· = mc) w3 w4:=aD.dG;have h4:=bQ.mod h4 (Mod.refl (fun _=>False) w4) Ψ (fun v y x=>x.up (aD.aU S2) aW (br (aD.aU S2)));refine σ ?_;exact⟨hk,oz.trans (me.aU (fun b h=>.inr h)),_,cT.fm (E':=⟨bS E.aK d.name d,bS m d.cons[k].name (d,k),E.aj,E.params⟩) me S2 (fun h=>n2 h) (cT.xN me S2 (fun h=>n4 h)) h4 (cT.def me S2 (fun h=>n6 h.symm)),eS⟩
 .rintro _ w2 ⟨_,ai,⟨m,bK,eS⟩,rfl⟩;rw[List.drop_length,rh]at eS;subst eS;refine σ ?_;exact⟨bK,ai⟩
def A2:List ByteArray->cE->cE
 |[],l=>l
 |s::ks,l=>A2 ks (bS l s 1)
theorem aiw{l:List ByteArray}{i:Nat}(hi:i<l.length)(m:cE):A2 (l.drop i) m=A2 (l.drop (i+1)) (bS m l[i] 1):=by rw[Ω hi,A2]
def iY(E:Env)(ps:List ByteArray):Env:={ E with params:=A2 ps []}
abbrev Kn(S:Nat->Prop)(M:Ms):Nat->Prop:=fun b=>S b\/b=M.mp\/b=M.mb\/b=M.ml
theorem Ru{E:Env}{ps:List ByteArray}{w:World}{S:Nat→Prop}{c md mc mf:Nat}{v:Value}(hc:gU w S c md mc mf E)(fJ:aX w v 1 (Out S w) ft ps) :
   bu Tryz.prog 51 [ptr c,v] w fun r w'=>(∃M:Ms,M.c=c/\M.md=md/\M.mc=mc/\M.mf=mf/\cL w' (Kn S M) M (iY E ps) [] []/\w.heap.size<=M.mp/\w.heap.size<=M.mb/\w.heap.size<=M.ml)/\Mod (· = c) w w':=by
 obtain⟨⟨n1,n2,n3⟩,⟨n4,n5⟩,n6⟩:=Rt hc.nodup;obtain⟨vp,vb,vl,o1,o2,o3,lD⟩:=hc.box;obtain⟨ap,cp,rfl⟩:=bq fJ;have iH:=dI fJ;have uu:∀b∈[c,md,mc,mf],b<w.heap.size:=fun b hb=>hc.lt b (hc.aT b hb)
 have HF:=uu c (by simp);have lc2:=uu md (by simp);have Hx:=uu mc (by simp);have lc4:=uu mf (by simp);refine γ Tryz.f51 ?_;refine σ ?_;refine pe (α:=Int) RI ?_;intro w1 kx ak cw;refine σ ?_;refine eK (b:=c) (off:=3) (v:=.map (some w.heap.size)) rfl rfl (ak.at lD Ψ) rfl (by simp) ?_;intro w2 az ai bU;have qP:bQ w2 w.heap.size RI ([]:cE):=kx.mod ai (by omega) (fun _ _ x=>x);have bo:Mod (· = c) w w2:=(aq ak).trans ai;have Sc:∀b,b=c->S b:=fun b hb=>by rw[hb];exact hc.aT _ (by simp)
 refine σ ?_;refine eW ps.length (fun k ρ w'=>k<=ps.length/\Mod (· = c) w w'/\w'.heap.size=w2.heap.size/\w'.heap[c]?=w2.heap[c]?/\(∃m,bQ w' w.heap.size RI m/\A2 (ps.drop k) m=A2 ps [])/\ρ=[(0,ptr c),(10,.slice ap ps.length cp),(11,I ps.length),(12,I k)])
  ⟨by omega,bo,rfl,rfl,⟨[],qP,rfl⟩,rfl⟩ iH ?_ ?_ (by decide) ?_
 .rintro k _ w3 ⟨hk,_,_,_,_,rfl⟩;exact⟨rfl,rfl,hk⟩
 .rintro k _ w3 ⟨_,aw,dU,aS,⟨m,vX,HV⟩,rfl⟩ hk;rw[aiw hk]at HV;obtain⟨ad,c2,e,hn,nf⟩:=xr (fJ.up (aw.aU Sc) aW (br (aw.aU Sc)) (fun _ _ h=>h)) hk;obtain⟨rfl,-,-⟩:=cU e;have bk:(0:Int)<=k/\(k:Int)<ps.length:=by omega
  rw[az]at aS;simp only[go_sem,simprocAttr,bG,bH,bk,nf,cell_of aS];refine lW (R:=RI) (a:=(1:Int)) (k:=ps[k]) (b:=w.heap.size) (kt:=9) (et:=3) rfl rfl rfl rfl rfl vX rfl ?_;intro w4 h4 aD dL;refine σ ?_;refine⟨hk,aw.step aD (fun b hb hl=>by omega),dL.trans dU,?_,_,h4,HV⟩;rw[aD.bO c (by have:=aw.size;omega) (by omega),aS,az]
 .rintro _ w3 ⟨_,aw,dU,aS,⟨m,vX,HV⟩,rfl⟩;rw [List.drop_length,A2] at HV;subst HV;rw [az] at aS;refine σ ?_;refine pe (α:=Int) RI ?_;intro w4 CM aD dL;refine σ ?_;refine pe (α:=Ty) (pd w4 (Out S w4)) ?_;intro w5 xO aH eY;have aix:∀ R,bQ w5 w4.heap.size R ([]:Loc):=fun R=>by
   obtain⟨lv,q1,q2⟩:=xO;cases q2;exact⟨[],q1,.nil⟩
  refine σ ?_;refine eK (b:=c) (off:=5) (v:=.map (some w3.heap.size)) rfl rfl (aH.at (aD.at aS Ψ) Ψ) rfl (by simp) ?_;intro w6 cH aG fw;refine σ ?_;refine eK (b:=c) (off:=6) (v:=.map (some w4.heap.size)) rfl rfl cH rfl (by simp) ?_;intro w7 dh aO jn;have z3:=aw.size;have vV:Mod (· = c) w5 w7:=aG.trans aO;have s0:Mod (· = c) w3 w7:=(aq (aD.trans aH)).trans vV;have qm:Mod (· = c) w w7:=aw.trans s0;refine σ ?_;refine⟨⟨⟨c,md,mc,mf,w.heap.size,w3.heap.size,w4.heap.size⟩,rfl,rfl,rfl,rfl,?_,Nat.le_refl _,z3,by show w.heap.size<=w4.heap.size;omega⟩,qm⟩;have no:∀b,b<w.heap.size->Kn S ⟨c,md,mc,mf,w.heap.size,w3.heap.size,w4.heap.size⟩ b->S b:=fun b hb hh=>by
   rcases hh with h |h |h |h
   .exact h
   .exact absurd h (by show ¬b=w.heap.size;omega)
   .exact absurd h (by show ¬b=w3.heap.size;omega)
   .exact absurd h (by show ¬b=w4.heap.size;omega)
  have up:=fM (qm.aU Sc) no;refine⟨dh,?_,fun b hb=>?_,fun b hb=>?_,?_,?_,?_,?_,?_,?_⟩
  .simp only[Ms.list,List.nodup_cons,List.mem_cons,List.not_mem_nil,or_false,not_or,not_false_eq_true,List.nodup_nil,and_true];omega
  .simp only[Ms.list,List.mem_cons,List.not_mem_nil,or_false]at hb;rcases hb with rfl |rfl |rfl |rfl |rfl |rfl |rfl
   .exact .inl (hc.aT _ (by simp))
   .exact .inl (hc.aT _ (by simp))
   .exact .inl (hc.aT _ (by simp))
   .exact .inl (hc.aT _ (by simp))
   .exact .inr (.inl rfl)
   .exact .inr (.inr (.inl rfl))
   .exact .inr (.inr (.inr rfl))
  .rcases hb with h |h |h |h
   .have:=hc.lt b h;omega
   .have h:b=w.heap.size:=h;omega
   .have h:b=w3.heap.size:=h;omega
   .have h:b=w4.heap.size:=h;omega
  .exact hc.aK.mod qm (fun h=>n1 h.symm) (fun _ _ x=>x.up (qm.aU Sc) aW up)
  .exact hc.cons.mod qm (fun h=>n2 h.symm) (fun _ _ x=>x.up (qm.aU Sc) aW up)
  .exact hc.aj.mod qm (fun h=>n3 h.symm) (fun _ _ x=>x.up (qm.aU Sc) aW up)
  .exact vX.mod s0 (by show ¬w.heap.size=c;omega) (fun _ _ x=>x)
  .exact(CM.mod aH Ψ (fun _ _ x=>x)).mod vV (by show ¬w3.heap.size=c;omega) (fun _ _ x=>x)
  .exact(aix (pd w7 (Out _ w7))).mod vV (by show ¬w4.heap.size=c;omega) (fun _ _ x=>x)
end
section
open Go Go.W
section
variable {P:Program} {N:Nat} {ops:Array Oper} {K:Go.W.Env->World->Prop} {dl:List Deferred} {w:World} {ds:List Nat} {Φ:Nat->Value->World->Prop} {zu:Go.W.Env}
theorem aiy(eT:ops.toList.map (·.dst)=ds.map some)(gR:ds.Nodup)
   (bg:∀i o,ops[i]?=some o->∀e∈o.after,Region.binds .any e=true->e.on<i)
   (CN:∀i v w w',Φ i v w->Mod (fun _=>False) w w'->Φ i v w')
   (mW:∀i o,ops[i]?=some o->∃st,il P N ops [o]=some st/\∀ρ' w',Mod (fun _=>False) w w'->(∀e∈o.after,Region.binds .any e=true->∃v,ρ'.get (ds.getD e.on 0)=some v/\Φ e.on v w')->(∀t,t∉ds->ρ'.get t=zu.get t) ->
    wpS P st ρ' w' (fun eQ w2=>∃v,eQ=ρ'.put (some (ds.getD i 0)) v/\Mod (fun _=>False) w' w2/\Φ i v w2))
   (oV:∀ρ' w',Mod (fun _=>False) w w'->(∀i,i<ops.size->∃v,ρ'.get (ds.getD i 0)=some v/\Φ i v w')->(∀t,t∉ds->ρ'.get t=zu.get t)->K ρ' w') :
   ∀(f:Nat) (listed:Array Bool) (ρ':Go.W.Env) (a:Act) (w':World),listed.size=ops.size->listed.toList.count false<=f->Go.W.Good dl N ρ' a->Mod (fun _=>False) w w' ->
    (∀i,listed.getD i false=true->∃v,ρ'.get (ds.getD i 0)=some v/\Φ i v w')->(∀t,t∉ds->ρ'.get t=zu.get t)->oN P ops (fun _ _=>False) (tO dl N K) f listed a w':=by
 have hlen:ds.length=ops.size:=by
  have:=congrArg List.length eT
  simpa using this.symm
 have all:∀(listed:Array Bool),listed.size=ops.size->Region.ready .any ops listed=[]->∀i,i<ops.size->listed.getD i false=true:=by
  intro listed bV hr i
  induction i using Nat.strongRecOn with
  |_ i ih=>
   intro hi;cases hl:listed.getD i false with
   |true=>rfl
   |false=>
    exfalso;have eO:i∈Region.ready .any ops listed:=by
     rw[mem_ready];have dZ:i<listed.size:=by omega
     refine⟨by simpa[dZ]using hl,ops[i],by simp[hi],fun e he hb=>?_⟩;have:=bg i _ (by simp[hi]) e he hb;exact ih _ this (by omega)
    rw[hr]at eO;cases eO
 intro f
 induction f with
 |zero=>
  intro listed ρ' a w' bV HW hg hm hh hk;have hr:Region.ready .any ops listed=[]:=by
   refine List.eq_nil_iff_forall_not_mem.2 fun i hi=>?_
   obtain⟨h0,o,ho,_⟩:=mem_ready.1 hi;have dZ:i<listed.size:=by have:=(Array.getElem?_eq_some_iff.1 ho).1;omega
   have:false∈listed.toList:=by
    have h1:listed[i]=false:=by simpa[dZ]using h0
    rw[<- h1];exact Array.getElem_mem_toList dZ
   have:=List.count_pos_iff.2 this;omega
  exact⟨hr,ρ',hg,oV ρ' w' hm (fun i hi=>hh i (all listed bV hr i hi)) hk⟩
 |succ f ih=>
  intro listed ρ' a w' bV HW hg hm hh hk;refine⟨fun hr=>⟨ρ',hg,oV ρ' w' hm (fun i hi=>hh i (all listed bV hr i hi)) hk⟩,fun i hi=>?_⟩;obtain⟨h0,o,ho,ff⟩:=mem_ready.1 hi;have hio:i<ops.size:=(Array.getElem?_eq_some_iff.1 ho).1;have dZ:i<listed.size:=by omega
  obtain⟨st,eH,lP⟩:=mW i o ho;have Wl:o.dst=some (ds.getD i 0):=by
   have h1:=congrArg (fun l=>l[i]?) eT;simp only[List.getElem?_map,Array.getElem?_toList,ho,Option.map_some]at h1;have h2:ds[i]?=some ds[i]:=Ξ (by omega);rw[h2,Option.map_some]at h1;have:o.dst=some ds[i]:=by simpa using h1
   rw[this];simp[List.getD,h2]
  have nK:=Eh (G:=fun a2 w2=>∃eQ v,Go.W.Good dl N eQ a2/\eQ=ρ'.put (some (ds.getD i 0)) v/\Mod (fun _=>False) w' w2/\Φ i v w2) [o] st ρ' a w' _ eH (lP ρ' w' hm (fun e he hb=>hh _ (ff e he hb)) hk) hg
   (fun eQ a2 w2 iF ⟨v,e1,e2,e3⟩=>⟨eQ,v,iF,e1,e2,e3⟩)
  have next:∀a2 w2,(∃eQ v,Go.W.Good dl N eQ a2/\eQ=ρ'.put (some (ds.getD i 0)) v/\Mod (fun _=>False) w' w2/\Φ i v w2)->(fun a' eI=>Go.W.Kept ((fun _ _=>False:Nat->Nat->Prop) i) w' eI/\oN P ops (fun _ _=>False) (tO dl N K) f (listed.setIfInBounds i true) a' eI) a2 w2:=by
   rintro a2 w2 ⟨eQ,v,iF,rfl,ai,aiz⟩;refine⟨fun b hb=>hb.elim,ih _ _ a2 w2 (by simp[bV]) ?_ iF (hm.trans ai) ?_ ?_⟩
   .have h1:listed.toList[i]'(by simpa using dZ)=false:=by simpa[dZ]using h0
    have bT:=List.count_set (a:=true) (b:=false) (l:=listed.toList) (i:=i) (by simpa using dZ);rw[h1]at bT;simp only[Array.toList_setIfInBounds];rw[bT,if_pos (show(false == false)=true from rfl),if_neg (show ¬(true == false)=true by decide)];omega
   .intro j hj;by_cases lO:j=i
    .subst lO;exact⟨v,by simp[Env.put,Env.get],aiz⟩
    .rw [getD_set_ne false (Ne.symm lO)] at hj;obtain ⟨u,hu,hp⟩:=hh j hj;refine ⟨u,?_,CN _ _ _ _ hp ai⟩;have Rv:j < ds.length:=by
      rcases Nat.lt_or_ge j listed.size with h |h
      .omega
      .simp[Array.getElem?_eq_none h]at hj
     have bJ:ds.getD i 0≠ds.getD j 0:=by
      have e1:ds.getD i 0=ds[i]'(by omega):=by simp[List.getD,Ξ (show i<ds.length by omega)]
      have e2:ds.getD j 0=ds[j]:=by simp[List.getD,Ξ Rv]
      rw[e1,e2];intro h;exact lO ((List.getElem_inj gR).1 h).symm
     simp only[Env.put,Env.get];rw[if_neg bJ];exact hu
   .intro t ht;have:ds.getD i 0∈ds:=by
     have e1:ds.getD i 0=ds[i]'(by omega):=by simp[List.getD,Ξ (show i<ds.length by omega)]
     rw[e1];exact List.getElem_mem _
    simp only[Env.put,Env.get];rw[if_neg (fun h:ds.getD i 0=t=>ht (by rw[<- h];exact this))];exact hk t ht
  refine⟨o,ho,?_⟩;unfold mA at nK
  split
  .rename_i hw;rw[if_pos hw]at nK;exact Oper.wp_mono (fun a2 w2 kG=>next a2 w2 kG) nK
  .rename_i hw;rw[if_neg hw]at nK;exact next _ _ nK
theorem aiA{id:Nat}{Q:Post}{ρ:Go.W.Env}(hm:P.follows .mixedOrders=true)(eT:ops.toList.map (·.dst)=ds.map some)(gR:ds.Nodup)
   (bg:∀i o,ops[i]?=some o->∀e∈o.after,Region.binds .any e=true->e.on<i)
   (CN:∀i v w w',Φ i v w->Mod (fun _=>False) w w'->Φ i v w')
   (mW:∀i o,ops[i]?=some o->∃st,il P N ops [o]=some st/\∀ρ' w',Mod (fun _=>False) w w'->(∀e∈o.after,Region.binds .any e=true->∃v,ρ'.get (ds.getD e.on 0)=some v/\Φ e.on v w')->(∀t,t∉ds->ρ'.get t=ρ.get t) ->
    wpS P st ρ' w' (fun eQ w2=>∃v,eQ=ρ'.put (some (ds.getD i 0)) v/\Mod (fun _=>False) w' w2/\Φ i v w2))
   (oV:∀ρ' w',Mod (fun _=>False) w w'->(∀i,i<ops.size->∃v,ρ'.get (ds.getD i 0)=some v/\Φ i v w')->(∀t,t∉ds->ρ'.get t=ρ.get t)->Q .normal ρ' w') :
   dD P N (.raw (.region id ops true)) Q ρ w:=by
 intro dl a hg;refine wp_region_any hm (Pu (B:=fun _ _=>False) (Q:=tO dl N (fun ρ' w'=>Q .normal ρ' w')) (fun a' w' ⟨ρ',h1,h2⟩=>⟨ρ',h1,h2⟩) _ _ _ _ ?_);refine aiy (w:=w) (zu:=ρ) eT gR bg CN mW oV _ _ ρ a _ (by simp) ?_ hg (Mod.refl _ _).drew ?_ (fun _ _=>rfl)
 .exact Nat.le_trans List.count_le_length (by simp)
 .intro i hi;rcases Nat.lt_or_ge i ops.size with h |h
  .simp[h]at hi
  .simp[h]at hi
theorem Rw:∀(l:List Oper) (st:List Go.W.S) (i:Nat) (o:Oper),il P N ops l=some st->l[i]?=some o->∃s,st[i]?=some s/\il P N ops [o]=some [s]
 |[],_,i,o,_,h=>by simp at h
 |o'::l,st,i,o,h,hi=>by
  simp only[il]at h
  split at h
  .rename_i s t hs ht;cases h;cases i with
   |zero=>
    simp only[List.getElem?_cons_zero,Option.some.injEq]at hi;subst hi;exact⟨s,rfl,by simp only[il,hs]⟩
   |succ i=>
    simp only[List.getElem?_cons_succ]at hi ⊢;exact Rw l t i o ht hi
  .cases h
def waits(o:Oper):List Nat:=(o.after.toList.filter (Region.binds .any)).map (·.on)
theorem aiB{id:Nat}{Q:Post}{ρ:Go.W.Env}{deps:List (List Nat)}{qn:List Go.W.S}(hm:P.follows .mixedOrders=true)(eT:ops.toList.map (·.dst)=ds.map some)(gR:ds.Nodup)
   (HX:ops.toList.map waits=deps) (bg:(deps.zipIdx.all fun x=>x.1.all fun j=>decide (j<x.2))=true) (eH:il P N ops ops.toList=some qn)
   (CN:∀i v w w',Φ i v w->Mod (fun _=>False) w w'->Φ i v w')
   (mW:∀i s,qn[i]?=some s->∀ρ' w',Mod (fun _=>False) w w'->(∀j∈deps.getD i [],∃v,ρ'.get (ds.getD j 0)=some v/\Φ j v w')->(∀t,t∉ds->ρ'.get t=ρ.get t) ->
    wpS P [s] ρ' w' (fun eQ w2=>∃v,eQ=ρ'.put (some (ds.getD i 0)) v/\Mod (fun _=>False) w' w2/\Φ i v w2))
   (oV:∀ρ' w',Mod (fun _=>False) w w'->(∀i,i<ops.size->∃v,ρ'.get (ds.getD i 0)=some v/\Φ i v w')->(∀t,t∉ds->ρ'.get t=ρ.get t)->Q .normal ρ' w') :
   dD P N (.raw (.region id ops true)) Q ρ w:=by
 have dep:∀(i:Nat) (o:Oper),ops[i]?=some o->deps.getD i []=waits o:=by
  intro i o ho;rw[<- HX];simp[List.getD,ho]
 have mem:∀(o:Oper) (e:Edge),e∈o.after->Region.binds .any e=true->e.on∈waits o:=by
  intro o e he hb;unfold waits;exact List.mem_map_of_mem (List.mem_filter.2 ⟨Array.mem_toList_iff.2 he,hb⟩)
 refine aiA (ds:=ds) (Φ:=Φ) hm eT gR ?_ CN ?_ oV
 .intro i o ho e he hb;have h1:e.on∈deps.getD i []:=by rw[dep i o ho];exact mem o e he hb
  have hi:i<deps.length:=by
   rcases Nat.lt_or_ge i deps.length with h |h
   .exact h
   .simp[List.getD,List.getElem?_eq_none h]at h1
  rw[List.all_eq_true]at bg;have h2:(deps[i],i)∈deps.zipIdx:=by
   rw[List.mem_zipIdx_iff_getElem?];exact Ξ hi
  have h3:=bg _ h2;rw[List.all_eq_true]at h3;have h4:deps.getD i []=deps[i]:=by simp[List.getD,Ξ hi]
  rw[h4]at h1
  simpa using h3 _ h1
 .intro i o ho;obtain⟨s,hs,hr⟩:=Rw (ops:=ops) ops.toList qn i o eH (by simpa using ho);refine⟨_,hr,fun ρ' w' h1 h2 h3=>mW i s hs ρ' w' h1 (fun j hj=>?_) h3⟩;rw[dep i o ho]at hj;unfold waits at hj;obtain⟨e,he,rfl⟩:=List.mem_map.1 hj;obtain⟨Ay,xi⟩:=List.mem_filter.1 he;exact h2 e (Array.mem_toList_iff.1 Ay) xi
end
end
section
open Go Go.W
abbrev NB(n0:Nat)(w:World):Nat->Prop:=fun b=>n0<=b/\b<w.heap.size
theorem ib{n0:Nat}{w w':World}{S:Nat->Prop}(hm:Mod S w w'):∀b,NB n0 w b->NB n0 w' b:=fun b h=>⟨h.1,Nat.lt_of_lt_of_le h.2 hm.size⟩
theorem td{w w' w2:World}{S:Nat->Prop}(hm:Mod S w w')(hs:w2.heap.size=w'.heap.size+1):NB w.heap.size w2 w'.heap.size:=⟨hm.size,by omega⟩
def kH{α β:Type}(P:α->β->Prop):List α->List β->Prop
 |[],[]=>True
 |a::l,b::m=>P a b/\kH P l m
 |_,_=>False
theorem kH.at{α β:Type}{P:α->β->Prop}:∀{l:List α} {m:List β},kH P l m->l.length=m.length/\∀(i:Nat) (a:α) (b:β),l[i]?=some a->m[i]?=some b->P a b
 |[],[],_=>⟨rfl,fun i a b h=>by simp at h⟩
 |a::l,b::m,h=>by
  obtain⟨h1,h2⟩:=h;obtain⟨e,k⟩:=kH.at h2;refine⟨by simp[e],fun i x y hx hy=>?_⟩;cases i with
  |zero=>simp only[List.getElem?_cons_zero,Option.some.injEq]at hx hy;subst hx hy;exact h1
  |succ i=>simp only[List.getElem?_cons_succ]at hx hy;exact k i x y hx hy
 |[],_::_,h=>h.elim
 |_::_,[],h=>h.elim
def CO(sz:Nat):List (List Value)->Prop
 |[]=>True
 |r::l=>r.length=sz/\CO sz l
theorem CO.mem{sz:Nat}:∀{l:List (List Value)},CO sz l->∀r∈l,r.length=sz
 |[],_,r,h=>by cases h
 |x::l,h,r,hr=>by
  rcases List.mem_cons.1 hr with rfl |hr
  .exact h.1
  .exact CO.mem h.2 r hr
theorem Rx{sz:Nat}:∀{l:List (List Value)},CO sz l->l.flatten.length=l.length*sz
 |[],_=>by simp
 |x::l,h=>by rw[List.flatten_cons,List.length_append,h.1,Rx h.2,List.length_cons,Nat.succ_mul];omega
def partsOf(sz:Nat):Nat->List (List Value)->List (Nat×Nat×Value)
 |_,[]=>[]
 |off,r::l=>(off,sz,.agg r.toArray)::partsOf sz (off+sz) l
theorem oA{sz:Nat}:∀(rows:List (List Value)) (pre post:List Value),CO sz rows->post.length=rows.length*sz->lN (pre++post).toArray (partsOf sz pre.length rows)=some (pre++rows.flatten).toArray
 |[],pre,post,_,h=>by
  have:post=[]:=List.eq_nil_of_length_eq_zero (by simpa using h);subst this;simp[partsOf,lN]
 |r::l,pre,post,hl,h=>by
  rw[List.length_cons,Nat.succ_mul]at h;obtain⟨h1,h2⟩:=hl;rw[partsOf,Wo h1 (by rw[List.length_append];omega)];have e1:(pre++post).take pre.length=pre:=by simp
  have e2:(pre++post).drop (pre.length+sz)=post.drop sz:=by rw[List.drop_append];simp
  rw[e1,e2];have:=oA l (pre++r) (post.drop sz) h2 (by rw[List.length_drop];omega);rw[List.length_append,h1]at this;rw[this,List.flatten_cons,List.append_assoc]
theorem mg{α:Type}{w:World}{b T sz n:Nat}{B:Nat→Prop}{P:List Value→α→Prop}{rows:List (List Value)}{l:List α}(hb:w.heap[b]? = some (.cells rows.flatten.toArray T (0,0)))(hB:B b)(bV:CO sz rows)(hle:rows.length≤1099511627776)(ha:kH P rows l)(hn:rows.length=n:=by rfl) :
   aX w (.slice (some ⟨b,0,none⟩) n n) sz B P l:=by
 subst hn;obtain⟨e,h⟩:=ha.at;have ho:dP w T sz (.slice (some ⟨b,0,none⟩) rows.length rows.length) (rows.flatMap id) rows.length (some b):=by
  have hf:rows.flatMap id=rows.flatten:=by simp[List.flatMap]
  rw[hf];exact⟨Rx bV,.inr ⟨b,rows.length,[],rfl,rfl,by rw[List.append_nil];exact hb,by rw[List.append_nil,Rx bV];omega,Nat.le_refl _⟩⟩
 exact⟨rows,⟨(EC ho bV.mem).mod (.refl (fun _=>False) w) aA (fun b' ky=>by cases ky;exact hB),hle⟩,e,h⟩
inductive GV where
 |bE (k:Cn) |cons (l:List Cn) |dt (d:Dt) |LY (l:List Dt) |strs (l:List ByteArray) |ty (t:Ty) |lI (l:List Ty)
def GV.At(n0:Nat)(w:World):GV->Value->Prop
 |.bE k,v=>∃cs:List Value,v=.agg cs.toArray/\fj w (NB n0 w) cs k
 |.cons l,v=>aX w v 2 (NB n0 w) (fj w (NB n0 w)) l
 |.dt d,v=>∃cs:List Value,v=.agg cs.toArray/\gC w (NB n0 w) cs d
 |.LY l,v=>aX w v 3 (NB n0 w) (gC w (NB n0 w)) l
 |.strs l,v=>aX w v 1 (NB n0 w) ft l
 |.ty t,v=>∃cs:List Value,v=.agg cs.toArray/\aR w (NB n0 w) cs t
 |.lI l,v=>aX w v 3 (NB n0 w) (aR w (NB n0 w)) l
theorem GV.up{n0:Nat}{w w':World}(g:GV){v:Value}(h:g.At n0 w v)(hm:Mod (fun _=>False) w w'):g.At n0 w' v:=by
 cases g with
 |bE k=>obtain⟨cs,e,h⟩:=h;exact⟨cs,e,h.up hm aA (ib hm)⟩
 |cons l=>exact aX.up h hm aA (ib hm) (fun _ _ h=>h.up hm aA (ib hm))
 |dt d=>obtain⟨cs,e,h⟩:=h;exact⟨cs,e,h.up hm aA (ib hm)⟩
 |LY l=>exact aX.up h hm aA (ib hm) (fun _ _ h=>h.up hm aA (ib hm))
 |strs l=>exact aX.up h hm aA (ib hm) (fun _ _ h=>h)
 |ty t=>obtain⟨cs,e,h⟩:=h;exact⟨cs,e,h.up hm aA (ib hm)⟩
 |lI l=>exact aX.up h hm aA (ib hm) (fun _ _ h=>h.up hm aA (ib hm))
abbrev dC:Ty:=.mk 2 ⟨#[97]⟩ []
abbrev ic:Ty:=.mk 2 ⟨#[98]⟩ []
abbrev qo:Ty:=.mk 2 ⟨#[99]⟩ []
abbrev nN:Ty:=.mk 4 ⟨#[76,105,115,116]⟩ [dC]
abbrev vY:Cn:=⟨⟨#[70,97,108,115,101]⟩,[]⟩
abbrev vZ:Cn:=⟨⟨#[84,114,117,101]⟩,[]⟩
abbrev wg:Cn:=⟨⟨#[85,110,105,116]⟩,[]⟩
abbrev wh:Cn:=⟨⟨#[78,105,108]⟩,[]⟩
abbrev wi:Cn:=⟨⟨#[67,111,110,115]⟩,[dC,nN]⟩
abbrev wj:Cn:=⟨⟨#[80,97,105,114]⟩,[dC,ic]⟩
abbrev wk:Cn:=⟨⟨#[84,114,105,112,108,101]⟩,[dC,ic,qo]⟩
abbrev mh:Dt:=⟨⟨#[66,111,111,108]⟩,[],[vY,vZ]⟩
abbrev uv:Dt:=⟨⟨#[85,110,105,116]⟩,[],[wg]⟩
abbrev dList:Dt:=⟨⟨#[76,105,115,116]⟩,[⟨#[97]⟩],[wh,wi]⟩
abbrev uw:Dt:=⟨⟨#[80,97,105,114]⟩,[⟨#[97]⟩,⟨#[98]⟩],[wj]⟩
abbrev ux:Dt:=⟨⟨#[84,114,105,112,108,101]⟩,[⟨#[97]⟩,⟨#[98]⟩,⟨#[99]⟩],[wk]⟩
def mL:List Dt:=[mh,uv,dList,uw,ux]
def A3(id:Nat):Code->Option (Array Oper)
 |.region i ops true=>if i == id then some ops else none
 |.seq a b=>(A3 id a).orElse fun _=>A3 id b
 |.cond _ a b=>(A3 id a).orElse fun _=>A3 id b
 |.block _ a=>A3 id a
 |.loop a=>A3 id a
 |_=>none
noncomputable def Fb:Array Oper:=((Tryz.f67.body.bind (A3 2)).getD #[])
noncomputable def Zh:IR:=.seq (.eJ false [] []) <|
 .seq (.eJ false [.e (some 4) (.call 91 [(.c (.string ⟨#[97]⟩))]),
.e (some 5) (.call 91 [(.c (.string ⟨#[98]⟩))]),
.e (some 6) (.call 91 [(.c (.string ⟨#[99]⟩))]),
.e (some 1) (.al 52 (.agg #[(.int .i64 0),(.string ⟨#[]⟩),(.slice none 0 0)])),
.e (some 2) (.al 52 (.agg #[(.int .i64 0),(.string ⟨#[]⟩),(.slice none 0 0)])),
.e (some 3) (.al 52 (.agg #[(.int .i64 0),(.string ⟨#[]⟩),(.slice none 0 0)])),
.e none (.st 3 (.t 1) (.t 4)),
.e none (.st 3 (.t 2) (.t 5)),
.e none (.st 3 (.t 3) (.t 6))] [1,2,3]) <|
 .seq (.raw (.region 2 Fb true)) <|
 .ret
def Zi:List Nat:=[7,8,9,10,11,12,13,14,15,16,17,18,19,20,21,22,23,24,25,26,27,28,29,30,31,32,33,34,35,36,37,38,39,0]
def Zj:List (List Nat):=[[],[],[0,1],[2],[],[4],[5],[],[],[],[],[10],[11],[9,12],[13],[8,14],[7,15],[],[],[],[18,19],[20],[21],[17,22],[],[],[],[],[25,26,27],[28],[29],[24,30],[3,6,16,23,31],[32,12,0,1,2,3,4,5,6,7,8,9,10,11,12,13,14,15,16,17,18,19,20,21,22,23,24,25,26,27,28,29,30,31,32]]
def gGv:List GV:=[.bE vY,.bE vZ,.cons [vY,vZ],.dt mh,.bE wg,.cons [wg],.dt uv,.strs [⟨#[97]⟩],.bE wh,.ty dC,.ty dC,.lI [dC],.ty nN,.lI [dC,nN],.bE wi,.cons [wh,wi],.dt dList,.strs [⟨#[97]⟩,⟨#[98]⟩],.ty dC,.ty ic,.lI [dC,ic],.bE wj,.cons [wj],.dt uw,.strs [⟨#[97]⟩,⟨#[98]⟩,⟨#[99]⟩],.ty dC,.ty ic,.ty qo,.lI [dC,ic,qo],.bE wk,.cons [wk],.dt ux,.LY [mh,uv,dList,uw,ux],.LY mL]
def Ry:List Go.W.S:=[.r (some 7) (.bd #[(.string ⟨#[]⟩),(.slice none 0 0)] [(0,1,(.c (.string ⟨#[70,97,108,115,101]⟩)))]),
.r (some 8) (.bd #[(.string ⟨#[]⟩),(.slice none 0 0)] [(0,1,(.c (.string ⟨#[84,114,117,101]⟩)))]),
.e (some 9) (.bs 49 2 #[(.string ⟨#[]⟩),(.slice none 0 0),(.string ⟨#[]⟩),(.slice none 0 0)] [(0,2,(.t 7)),(2,2,(.t 8))]),
.r (some 10) (.bd #[(.string ⟨#[]⟩),(.slice none 0 0),(.slice none 0 0)] [(0,1,(.c (.string ⟨#[66,111,111,108]⟩))),(2,1,(.t 9))]),
.r (some 11) (.bd #[(.string ⟨#[]⟩),(.slice none 0 0)] [(0,1,(.c (.string ⟨#[85,110,105,116]⟩)))]),
.e (some 12) (.bs 49 1 #[(.string ⟨#[]⟩),(.slice none 0 0)] [(0,2,(.t 11))]),
.r (some 13) (.bd #[(.string ⟨#[]⟩),(.slice none 0 0),(.slice none 0 0)] [(0,1,(.c (.string ⟨#[85,110,105,116]⟩))),(2,1,(.t 12))]),
.e (some 14) (.bs 9 1 #[(.string ⟨#[]⟩)] [(0,1,(.c (.string ⟨#[97]⟩)))]),
.r (some 15) (.bd #[(.string ⟨#[]⟩),(.slice none 0 0)] [(0,1,(.c (.string ⟨#[78,105,108]⟩)))]),
.r (some 16) (.ln 3 (.t 1)),
.r (some 17) (.ln 3 (.t 1)),
.e (some 18) (.bs 52 1 #[(.int .i64 0),(.string ⟨#[]⟩),(.slice none 0 0)] [(0,3,(.t 17))]),
.e (some 19) (.call 92 [(.c (.string ⟨#[76,105,115,116]⟩)),(.t 18)]),
.e (some 20) (.bs 52 2 #[(.int .i64 0),(.string ⟨#[]⟩),(.slice none 0 0),(.int .i64 0),(.string ⟨#[]⟩),(.slice none 0 0)] [(0,3,(.t 16)),(3,3,(.t 19))]),
.r (some 21) (.bd #[(.string ⟨#[]⟩),(.slice none 0 0)] [(0,1,(.c (.string ⟨#[67,111,110,115]⟩))),(1,1,(.t 20))]),
.e (some 22) (.bs 49 2 #[(.string ⟨#[]⟩),(.slice none 0 0),(.string ⟨#[]⟩),(.slice none 0 0)] [(0,2,(.t 15)),(2,2,(.t 21))]),
.r (some 23) (.bd #[(.string ⟨#[]⟩),(.slice none 0 0),(.slice none 0 0)] [(0,1,(.c (.string ⟨#[76,105,115,116]⟩))),(1,1,(.t 14)),(2,1,(.t 22))]),
.e (some 24) (.bs 9 2 #[(.string ⟨#[]⟩),(.string ⟨#[]⟩)] [(0,1,(.c (.string ⟨#[97]⟩))),(1,1,(.c (.string ⟨#[98]⟩)))]),
.r (some 25) (.ln 3 (.t 1)),
.r (some 26) (.ln 3 (.t 2)),
.e (some 27) (.bs 52 2 #[(.int .i64 0),(.string ⟨#[]⟩),(.slice none 0 0),(.int .i64 0),(.string ⟨#[]⟩),(.slice none 0 0)] [(0,3,(.t 25)),(3,3,(.t 26))]),
.r (some 28) (.bd #[(.string ⟨#[]⟩),(.slice none 0 0)] [(0,1,(.c (.string ⟨#[80,97,105,114]⟩))),(1,1,(.t 27))]),
.e (some 29) (.bs 49 1 #[(.string ⟨#[]⟩),(.slice none 0 0)] [(0,2,(.t 28))]),
.r (some 30) (.bd #[(.string ⟨#[]⟩),(.slice none 0 0),(.slice none 0 0)] [(0,1,(.c (.string ⟨#[80,97,105,114]⟩))),(1,1,(.t 24)),(2,1,(.t 29))]),
.e (some 31) (.bs 9 3 #[(.string ⟨#[]⟩),(.string ⟨#[]⟩),(.string ⟨#[]⟩)] [(0,1,(.c (.string ⟨#[97]⟩))),(1,1,(.c (.string ⟨#[98]⟩))),(2,1,(.c (.string ⟨#[99]⟩)))]),
.r (some 32) (.ln 3 (.t 1)),
.r (some 33) (.ln 3 (.t 2)),
.r (some 34) (.ln 3 (.t 3)),
.e (some 35) (.bs 52 3 #[(.int .i64 0),(.string ⟨#[]⟩),(.slice none 0 0),(.int .i64 0),(.string ⟨#[]⟩),(.slice none 0 0),(.int .i64 0),(.string ⟨#[]⟩),(.slice none 0 0)] [(0,3,(.t 32)),(3,3,(.t 33)),(6,3,(.t 34))]),
.r (some 36) (.bd #[(.string ⟨#[]⟩),(.slice none 0 0)] [(0,1,(.c (.string ⟨#[84,114,105,112,108,101]⟩))),(1,1,(.t 35))]),
.e (some 37) (.bs 49 1 #[(.string ⟨#[]⟩),(.slice none 0 0)] [(0,2,(.t 36))]),
.r (some 38) (.bd #[(.string ⟨#[]⟩),(.slice none 0 0),(.slice none 0 0)] [(0,1,(.c (.string ⟨#[84,114,105,112,108,101]⟩))),(1,1,(.t 31)),(2,1,(.t 37))]),
.e (some 39) (.bs 45 5 #[(.string ⟨#[]⟩),(.slice none 0 0),(.slice none 0 0),(.string ⟨#[]⟩),(.slice none 0 0),(.slice none 0 0),(.string ⟨#[]⟩),(.slice none 0 0),(.slice none 0 0),(.string ⟨#[]⟩),(.slice none 0 0),(.slice none 0 0),(.string ⟨#[]⟩),(.slice none 0 0),(.slice none 0 0)] [(0,3,(.t 10)),(3,3,(.t 13)),(6,3,(.t 23)),(9,3,(.t 30)),(12,3,(.t 38))]),
.r (some 0) (.mv (.t 39))]
theorem aiC:KX Tryz.prog 67 0 [(0,[],[]),(1,[1,2,3],[]),(2,[0],[])] [2] Zh [.t 0] 40:=
 ⟨Tryz.f67,_,rfl,rfl,rfl,by decide,by kernel_rfl,by kernel_rfl⟩
theorem aiD:Fb.toList.map (·.dst)=Zi.map some:=by kernel_rfl
theorem aiE:Fb.toList.map waits=Zj:=by kernel_rfl
theorem aiF:il Tryz.prog 40 Fb Fb.toList=some Ry:=by kernel_rfl
theorem aiG:Fb.size=34:=by kernel_rfl
set_option maxHeartbeats 1000000 in
theorem aiH{w:World}:bu Tryz.prog 67 [] w fun r w'=>aX w' r 3 (NB w.heap.size w') (gC w' (NB w.heap.size w')) mL/\Mod (fun _=>False) w w':=by
 refine aiC.calls rfl ?_;unfold Zh;refine σ ?_;refine δ (by rfl) (La ⟨#[97]⟩) ?_;rintro _ wa ⟨rfl,qZ⟩;refine σ ?_;refine δ (by rfl) (La ⟨#[98]⟩) ?_;rintro _ wb ⟨rfl,lU⟩;refine σ ?_;refine δ (by rfl) (La ⟨#[99]⟩) ?_;rintro _ wc ⟨rfl,nF⟩;refine σ ?_;refine cX ?_;intro w1 au ak cw;refine σ ?_;refine cX ?_;intro w2 az ai bU;refine σ ?_;refine cX ?_;intro w3 aS aw dU;refine σ ?_;refine bN (cs:=cS) (vs:=fG 2 ⟨#[97]⟩) rfl rfl (aw.at (ai.at au Ψ) Ψ) rfl rfl (oo _ _) ?_;intro w4 au aD dL;refine σ ?_;refine bN (cs:=cS) (vs:=fG 2 ⟨#[98]⟩) rfl rfl (aD.at (aw.at az Ψ) (by omega)) rfl rfl (oo _ _) ?_;intro w5 az aH eY;refine σ ?_;refine bN (cs:=cS) (vs:=fG 2 ⟨#[99]⟩) rfl rfl (aH.at (aD.at aS (by omega)) (by omega)) rfl rfl (oo _ _) ?_;intro w6 aS aG fw;have az:=aG.at az (by omega);have au:=aG.at (aH.at au (by omega)) (by omega);have z0c:=(qZ.trans (lU.trans nF)).size;have bz:Mod (fun _=>False) w w6:=(((qZ.trans (lU.trans nF)).trans (ak.trans (ai.trans aw))).step aD (fun b hb hl=>by omega)).step aH (fun b hb hl=>by omega) |>.step aG (fun b hb hl=>by omega);generalize pq:wc.heap.size=b1 at *;generalize vz:w1.heap.size=b2 at *;generalize HY:w2.heap.size=b3 at *;clear qZ lU nF ak ai aw aD aH aG cw bU dU dL eY fw pq vz HY;refine σ ?_;refine aiB (w:=w6) (ds:=Zi) (deps:=Zj) (qn:=Ry) (Φ:=fun i v w'=>(gGv.getD i (.strs [])).At w.heap.size w' v) rfl aiD (by decide) aiE (by decide) aiF (fun i v w w' h hm=>GV.up _ h hm) ?_ ?_;intro i s hs ρ' w' hm hp hk
 match i,hs with
 |0,hs=>
  obtain rfl:=Option.some.inj hs;refine σ ?_;refine⟨_,rfl,.refl _ _,?_⟩;exact⟨_,rfl,_,rfl,eB _ _ _ _,by decide⟩
 |1,hs=>
  obtain rfl:=Option.some.inj hs;refine σ ?_;refine⟨_,rfl,.refl _ _,?_⟩;exact⟨_,rfl,_,rfl,eB _ _ _ _,by decide⟩
 |2,hs=>
  obtain rfl:=Option.some.inj hs;obtain⟨v0,g0,h0⟩:=hp 0 (by decide);have g0:ρ'.get 7=some v0:=g0;obtain⟨v1,g1,h1⟩:=hp 1 (by decide);have g1:ρ'.get 8=some v1:=g1;obtain⟨cs0,rfl,h0⟩:∃cs:List Value,v0=.agg cs.toArray/\fj w' (NB w.heap.size w') cs vY:=h0;obtain⟨f0,e0⟩:∃f,cs0=[.string vY.name,f]:=by obtain⟨f,e,_⟩:=h0;exact⟨f,e⟩
  subst e0;obtain⟨Fc,rfl,h1⟩:∃cs:List Value,v1=.agg cs.toArray/\fj w' (NB w.heap.size w') cs vZ:=h1;obtain⟨f1,e1⟩:∃f,Fc=[.string vZ.name,f]:=by obtain⟨f,e,_⟩:=h1;exact⟨f,e⟩
  subst e1;simp only[go_sem,simprocAttr,g0,g1];refine ez (cs:=([[.string vY.name,f0],[.string vZ.name,f1]]:List (List Value)).flatten.toArray) (ps:=partsOf 2 0 [[.string vY.name,f0],[.string vZ.name,f1]]) (by simp only[go_sem,simprocAttr,g0,g1];rfl) (oA (sz:=2) [[.string vY.name,f0],[.string vZ.name,f1]] [] _ ⟨rfl,rfl,trivial⟩ rfl) ?_;intro w2 az ai bU;refine σ ?_;refine⟨_,rfl,ai,?_⟩;have hr:aX w2 (.slice (some ⟨w'.heap.size,0,none⟩) 2 2) 2 (NB w.heap.size w2) (fj w2 (NB w.heap.size w2)) [vY,vZ]:=by
   refine mg (rows:=[[.string vY.name,f0],[.string vZ.name,f1]]) az (td (bz.trans hm) bU) ⟨rfl,rfl,trivial⟩ (by simp) ⟨?_,?_,trivial⟩
   .exact h0.up ai aA (ib ai)
   .exact h1.up ai aA (ib ai)
  exact hr
 |3,hs=>
  obtain rfl:=Option.some.inj hs;obtain⟨v2,g2,h2⟩:=hp 2 (by decide);have g2:ρ'.get 9=some v2:=g2;have h2:aX w' v2 2 (NB w.heap.size w') (fj w' (NB w.heap.size w')) [vY,vZ]:=h2;obtain⟨ax,cx,rfl⟩:=bq h2;simp only[go_sem,simprocAttr,g2];refine⟨_,rfl,.refl _ _,?_⟩;exact⟨_,rfl,_,_,rfl,eB _ _ _ _,h2⟩
 |4,hs=>
  obtain rfl:=Option.some.inj hs;refine σ ?_;refine⟨_,rfl,.refl _ _,?_⟩;exact⟨_,rfl,_,rfl,eB _ _ _ _,by decide⟩
 |5,hs=>
  obtain rfl:=Option.some.inj hs;obtain⟨v4,g4,h4⟩:=hp 4 (by decide);have g4:ρ'.get 11=some v4:=g4;obtain⟨Rz,rfl,h4⟩:∃cs:List Value,v4=.agg cs.toArray/\fj w' (NB w.heap.size w') cs wg:=h4;obtain⟨f4,e4⟩:∃f,Rz=[.string wg.name,f]:=by obtain⟨f,e,_⟩:=h4;exact⟨f,e⟩
  subst e4;simp only[go_sem,simprocAttr,g4];refine ez (cs:=([[.string wg.name,f4]]:List (List Value)).flatten.toArray) (ps:=partsOf 2 0 [[.string wg.name,f4]]) (by simp only[go_sem,simprocAttr,g4];rfl) (oA (sz:=2) [[.string wg.name,f4]] [] _ ⟨rfl,trivial⟩ rfl) ?_;intro w2 az ai bU;refine σ ?_;refine⟨_,rfl,ai,?_⟩;have hr:aX w2 (.slice (some ⟨w'.heap.size,0,none⟩) 1 1) 2 (NB w.heap.size w2) (fj w2 (NB w.heap.size w2)) [wg]:=by
   refine mg (rows:=[[.string wg.name,f4]]) az (td (bz.trans hm) bU) ⟨rfl,trivial⟩ (by simp) ⟨?_,trivial⟩
   .exact h4.up ai aA (ib ai)
  exact hr
 |6,hs=>
  obtain rfl:=Option.some.inj hs;obtain⟨v5,g5,h5⟩:=hp 5 (by decide);have g5:ρ'.get 12=some v5:=g5;have h5:aX w' v5 2 (NB w.heap.size w') (fj w' (NB w.heap.size w')) [wg]:=h5;obtain⟨ax,cx,rfl⟩:=bq h5;simp only[go_sem,simprocAttr,g5];refine⟨_,rfl,.refl _ _,?_⟩;exact⟨_,rfl,_,_,rfl,eB _ _ _ _,h5⟩
 |7,hs=>
  obtain rfl:=Option.some.inj hs;refine σ ?_;refine ez (cs:=([[.string ⟨#[97]⟩]]:List (List Value)).flatten.toArray) rfl rfl ?_;intro w2 az ai bU;refine σ ?_;refine⟨_,rfl,ai,?_⟩;exact mg (P:=ft) (rows:=[[.string ⟨#[97]⟩]]) (l:=[⟨#[97]⟩]) (sz:=1) az (td (bz.trans hm) bU) ⟨rfl,trivial⟩ (by simp) ⟨⟨rfl,by decide⟩,trivial⟩
 |8,hs=>
  obtain rfl:=Option.some.inj hs;refine σ ?_;refine⟨_,rfl,.refl _ _,?_⟩;exact⟨_,rfl,_,rfl,eB _ _ _ _,by decide⟩
 |9,hs=>
  obtain rfl:=Option.some.inj hs;have gt:ρ'.get 1=some (ptr b1):=(hk 1 (by decide)).trans rfl;have hb:=hm.at au Ψ;simp only[go_sem,simprocAttr,gt,aE (n:=3) hb rfl];exact⟨_,rfl,.refl _ _,_,rfl,om _ _ 2 ⟨#[97]⟩⟩
 |10,hs=>
  obtain rfl:=Option.some.inj hs;have gt:ρ'.get 1=some (ptr b1):=(hk 1 (by decide)).trans rfl;have hb:=hm.at au Ψ;simp only[go_sem,simprocAttr,gt,aE (n:=3) hb rfl];exact⟨_,rfl,.refl _ _,_,rfl,om _ _ 2 ⟨#[97]⟩⟩
 |11,hs=>
  obtain rfl:=Option.some.inj hs;obtain⟨v10,g10,mG⟩:=hp 10 (by decide);have g10:ρ'.get 17=some v10:=g10;obtain⟨LZ,rfl,mG⟩:∃cs:List Value,v10=.agg cs.toArray/\aR w' (NB w.heap.size w') cs dC:=mG;obtain⟨f10,xG⟩:∃f,LZ=[I dC.kind,.string dC.name,f]:=by obtain⟨f,e,_⟩:=mG.cells;exact⟨f,e⟩
  subst xG;simp only[go_sem,simprocAttr,g10];refine ez (cs:=([[I dC.kind,.string dC.name,f10]]:List (List Value)).flatten.toArray) (ps:=partsOf 3 0 [[I dC.kind,.string dC.name,f10]]) (by simp only[go_sem,simprocAttr,g10];rfl) (oA (sz:=3) [[I dC.kind,.string dC.name,f10]] [] _ ⟨rfl,trivial⟩ rfl) ?_;intro w2 az ai bU;refine σ ?_;refine⟨_,rfl,ai,?_⟩;have hr:aX w2 (.slice (some ⟨w'.heap.size,0,none⟩) 1 1) 3 (NB w.heap.size w2) (aR w2 (NB w.heap.size w2)) [dC]:=by
   refine mg (rows:=[[I dC.kind,.string dC.name,f10]]) az (td (bz.trans hm) bU) ⟨rfl,trivial⟩ (by simp) ⟨?_,trivial⟩
   .exact mG.up ai aA (ib ai)
  exact hr
 |12,hs=>
  obtain rfl:=Option.some.inj hs;obtain⟨v11,g11,jr⟩:=hp 11 (by decide);have g11:ρ'.get 18=some v11:=g11;have jr:aX w' v11 3 (NB w.heap.size w') (aR w' (NB w.heap.size w')) [dC]:=jr;obtain⟨ax,cx,rfl⟩:=bq jr;simp only[go_sem,simprocAttr,g11];refine aL (vs:=[.string ⟨#[76,105,115,116]⟩,.slice ax 1 cx]) (by simp only[go_sem,simprocAttr,g11]) ?_;refine(Qs (v:=.slice ax 1 cx) ⟨#[76,105,115,116]⟩ rfl rfl).mono ?_;rintro _ w2 ⟨rfl,ai⟩;refine σ ?_;refine⟨_,rfl,ai,_,rfl,?_⟩;obtain⟨rows,q1,q2,q3⟩:=jr.up ai aA (ib ai) (fun _ _ h=>h.up ai aA (ib ai));exact .mk q1 q2 q3
 |13,hs=>
  obtain rfl:=Option.some.inj hs;obtain⟨v9,g9,h9⟩:=hp 9 (by decide);have g9:ρ'.get 16=some v9:=g9;obtain⟨v12,g12,oq⟩:=hp 12 (by decide);have g12:ρ'.get 19=some v12:=g12;obtain⟨RA,rfl,h9⟩:∃cs:List Value,v9=.agg cs.toArray/\aR w' (NB w.heap.size w') cs dC:=h9;obtain⟨f9,e9⟩:∃f,RA=[I dC.kind,.string dC.name,f]:=by obtain⟨f,e,_⟩:=h9.cells;exact⟨f,e⟩
  subst e9;obtain⟨A4,rfl,oq⟩:∃cs:List Value,v12=.agg cs.toArray/\aR w' (NB w.heap.size w') cs nN:=oq;obtain⟨f12,e12⟩:∃f,A4=[I nN.kind,.string nN.name,f]:=by obtain⟨f,e,_⟩:=oq.cells;exact⟨f,e⟩
  subst e12;simp only[go_sem,simprocAttr,g9,g12];refine ez (cs:=([[I dC.kind,.string dC.name,f9],[I nN.kind,.string nN.name,f12]]:List (List Value)).flatten.toArray) (ps:=partsOf 3 0 [[I dC.kind,.string dC.name,f9],[I nN.kind,.string nN.name,f12]]) (by simp only[go_sem,simprocAttr,g9,g12];rfl) (oA (sz:=3) [[I dC.kind,.string dC.name,f9],[I nN.kind,.string nN.name,f12]] [] _ ⟨rfl,rfl,trivial⟩ rfl) ?_;intro w2 az ai bU;refine σ ?_;refine⟨_,rfl,ai,?_⟩;have hr:aX w2 (.slice (some ⟨w'.heap.size,0,none⟩) 2 2) 3 (NB w.heap.size w2) (aR w2 (NB w.heap.size w2)) [dC,nN]:=by
   refine mg (rows:=[[I dC.kind,.string dC.name,f9],[I nN.kind,.string nN.name,f12]]) az (td (bz.trans hm) bU) ⟨rfl,rfl,trivial⟩ (by simp) ⟨?_,?_,trivial⟩
   .exact h9.up ai aA (ib ai)
   .exact oq.up ai aA (ib ai)
  exact hr
 |14,hs=>
  obtain rfl:=Option.some.inj hs;obtain⟨Zk,g13,A5⟩:=hp 13 (by decide);have g13:ρ'.get 20=some Zk:=g13;have A5:aX w' Zk 3 (NB w.heap.size w') (aR w' (NB w.heap.size w')) [dC,nN]:=A5;obtain⟨ax,cx,rfl⟩:=bq A5;simp only[go_sem,simprocAttr,g13];refine⟨_,rfl,.refl _ _,?_⟩;exact⟨_,rfl,_,rfl,A5,by decide⟩
 |15,hs=>
  obtain rfl:=Option.some.inj hs;obtain⟨v8,g8,h8⟩:=hp 8 (by decide);have g8:ρ'.get 15=some v8:=g8;obtain⟨L0,g14,L4⟩:=hp 14 (by decide);have g14:ρ'.get 21=some L0:=g14;obtain⟨pw,rfl,h8⟩:∃cs:List Value,v8=.agg cs.toArray/\fj w' (NB w.heap.size w') cs wh:=h8;obtain⟨f8,e8⟩:∃f,pw=[.string wh.name,f]:=by obtain⟨f,e,_⟩:=h8;exact⟨f,e⟩
  subst e8;obtain⟨aiI,rfl,L4⟩:∃cs:List Value,L0=.agg cs.toArray/\fj w' (NB w.heap.size w') cs wi:=L4;obtain⟨f14,LN⟩:∃f,aiI=[.string wi.name,f]:=by obtain⟨f,e,_⟩:=L4;exact⟨f,e⟩
  subst LN;simp only[go_sem,simprocAttr,g8,g14];refine ez (cs:=([[.string wh.name,f8],[.string wi.name,f14]]:List (List Value)).flatten.toArray) (ps:=partsOf 2 0 [[.string wh.name,f8],[.string wi.name,f14]]) (by simp only[go_sem,simprocAttr,g8,g14];rfl) (oA (sz:=2) [[.string wh.name,f8],[.string wi.name,f14]] [] _ ⟨rfl,rfl,trivial⟩ rfl) ?_;intro w2 az ai bU;refine σ ?_;refine⟨_,rfl,ai,?_⟩;have hr:aX w2 (.slice (some ⟨w'.heap.size,0,none⟩) 2 2) 2 (NB w.heap.size w2) (fj w2 (NB w.heap.size w2)) [wh,wi]:=by
   refine mg (rows:=[[.string wh.name,f8],[.string wi.name,f14]]) az (td (bz.trans hm) bU) ⟨rfl,rfl,trivial⟩ (by simp) ⟨?_,?_,trivial⟩
   .exact h8.up ai aA (ib ai)
   .exact L4.up ai aA (ib ai)
  exact hr
 |16,hs=>
  obtain rfl:=Option.some.inj hs;obtain⟨v7,g7,h7⟩:=hp 7 (by decide);have g7:ρ'.get 14=some v7:=g7;obtain⟨HZ,g15,CK⟩:=hp 15 (by decide);have g15:ρ'.get 22=some HZ:=g15;have CK:aX w' HZ 2 (NB w.heap.size w') (fj w' (NB w.heap.size w')) [wh,wi]:=CK;obtain⟨ax,cx,rfl⟩:=bq CK;have h7:aX w' v7 1 (NB w.heap.size w') ft [⟨#[97]⟩]:=h7;obtain⟨ay,cy,rfl⟩:=bq h7;simp only[go_sem,simprocAttr,g7,g15];refine⟨_,rfl,.refl _ _,?_⟩;exact⟨_,rfl,_,_,rfl,h7,CK⟩
 |17,hs=>
  obtain rfl:=Option.some.inj hs;refine σ ?_;refine ez (cs:=([[.string ⟨#[97]⟩],[.string ⟨#[98]⟩]]:List (List Value)).flatten.toArray) rfl rfl ?_;intro w2 az ai bU;refine σ ?_;refine⟨_,rfl,ai,?_⟩;exact mg (P:=ft) (rows:=[[.string ⟨#[97]⟩],[.string ⟨#[98]⟩]]) (l:=[⟨#[97]⟩,⟨#[98]⟩]) (sz:=1) az (td (bz.trans hm) bU) ⟨rfl,rfl,trivial⟩ (by simp) ⟨⟨rfl,by decide⟩,⟨rfl,by decide⟩,trivial⟩
 |18,hs=>
  obtain rfl:=Option.some.inj hs;have gt:ρ'.get 1=some (ptr b1):=(hk 1 (by decide)).trans rfl;have hb:=hm.at au Ψ;simp only[go_sem,simprocAttr,gt,aE (n:=3) hb rfl];exact⟨_,rfl,.refl _ _,_,rfl,om _ _ 2 ⟨#[97]⟩⟩
 |19,hs=>
  obtain rfl:=Option.some.inj hs;have gt:ρ'.get 2=some (ptr b2):=(hk 2 (by decide)).trans rfl;have hb:=hm.at az Ψ;simp only[go_sem,simprocAttr,gt,aE (n:=3) hb rfl];exact⟨_,rfl,.refl _ _,_,rfl,om _ _ 2 ⟨#[98]⟩⟩
 |20,hs=>
  obtain rfl:=Option.some.inj hs;obtain⟨Zl,g18,L7⟩:=hp 18 (by decide);have g18:ρ'.get 25=some Zl:=g18;obtain⟨Zm,g19,L8⟩:=hp 19 (by decide);have g19:ρ'.get 26=some Zm:=g19;obtain⟨aiJ,rfl,L7⟩:∃cs:List Value,Zl=.agg cs.toArray/\aR w' (NB w.heap.size w') cs dC:=L7;obtain⟨f18,e18⟩:∃f,aiJ=[I dC.kind,.string dC.name,f]:=by obtain⟨f,e,_⟩:=L7.cells;exact⟨f,e⟩
  subst e18;obtain⟨aiK,rfl,L8⟩:∃cs:List Value,Zm=.agg cs.toArray/\aR w' (NB w.heap.size w') cs ic:=L8;obtain⟨f19,e19⟩:∃f,aiK=[I ic.kind,.string ic.name,f]:=by obtain⟨f,e,_⟩:=L8.cells;exact⟨f,e⟩
  subst e19;simp only[go_sem,simprocAttr,g18,g19];refine ez (cs:=([[I dC.kind,.string dC.name,f18],[I ic.kind,.string ic.name,f19]]:List (List Value)).flatten.toArray) (ps:=partsOf 3 0 [[I dC.kind,.string dC.name,f18],[I ic.kind,.string ic.name,f19]]) (by simp only[go_sem,simprocAttr,g18,g19];rfl) (oA (sz:=3) [[I dC.kind,.string dC.name,f18],[I ic.kind,.string ic.name,f19]] [] _ ⟨rfl,rfl,trivial⟩ rfl) ?_;intro w2 az ai bU;refine σ ?_;refine⟨_,rfl,ai,?_⟩;have hr:aX w2 (.slice (some ⟨w'.heap.size,0,none⟩) 2 2) 3 (NB w.heap.size w2) (aR w2 (NB w.heap.size w2)) [dC,ic]:=by
   refine mg (rows:=[[I dC.kind,.string dC.name,f18],[I ic.kind,.string ic.name,f19]]) az (td (bz.trans hm) bU) ⟨rfl,rfl,trivial⟩ (by simp) ⟨?_,?_,trivial⟩
   .exact L7.up ai aA (ib ai)
   .exact L8.up ai aA (ib ai)
  exact hr
 |21,hs=>
  obtain rfl:=Option.some.inj hs;obtain⟨v20,g20,L9⟩:=hp 20 (by decide);have g20:ρ'.get 27=some v20:=g20;have L9:aX w' v20 3 (NB w.heap.size w') (aR w' (NB w.heap.size w')) [dC,ic]:=L9;obtain⟨ax,cx,rfl⟩:=bq L9;simp only[go_sem,simprocAttr,g20];refine⟨_,rfl,.refl _ _,?_⟩;exact⟨_,rfl,_,rfl,L9,by decide⟩
 |22,hs=>
  obtain rfl:=Option.some.inj hs;obtain⟨v21,g21,Ma⟩:=hp 21 (by decide);have g21:ρ'.get 28=some v21:=g21;obtain⟨aiL,rfl,Ma⟩:∃cs:List Value,v21=.agg cs.toArray/\fj w' (NB w.heap.size w') cs wj:=Ma;obtain⟨f21,e21⟩:∃f,aiL=[.string wj.name,f]:=by obtain⟨f,e,_⟩:=Ma;exact⟨f,e⟩
  subst e21;simp only[go_sem,simprocAttr,g21];refine ez (cs:=([[.string wj.name,f21]]:List (List Value)).flatten.toArray) (ps:=partsOf 2 0 [[.string wj.name,f21]]) (by simp only[go_sem,simprocAttr,g21];rfl) (oA (sz:=2) [[.string wj.name,f21]] [] _ ⟨rfl,trivial⟩ rfl) ?_;intro w2 az ai bU;refine σ ?_;refine⟨_,rfl,ai,?_⟩;have hr:aX w2 (.slice (some ⟨w'.heap.size,0,none⟩) 1 1) 2 (NB w.heap.size w2) (fj w2 (NB w.heap.size w2)) [wj]:=by
   refine mg (rows:=[[.string wj.name,f21]]) az (td (bz.trans hm) bU) ⟨rfl,trivial⟩ (by simp) ⟨?_,trivial⟩
   .exact Ma.up ai aA (ib ai)
  exact hr
 |23,hs=>
  obtain rfl:=Option.some.inj hs;obtain⟨Zn,g17,Mb⟩:=hp 17 (by decide);have g17:ρ'.get 24=some Zn:=g17;obtain⟨Zo,g22,Mc⟩:=hp 22 (by decide);have g22:ρ'.get 29=some Zo:=g22;have Mc:aX w' Zo 2 (NB w.heap.size w') (fj w' (NB w.heap.size w')) [wj]:=Mc;obtain⟨ax,cx,rfl⟩:=bq Mc;have Mb:aX w' Zn 1 (NB w.heap.size w') ft [⟨#[97]⟩,⟨#[98]⟩]:=Mb;obtain⟨ay,cy,rfl⟩:=bq Mb;simp only[go_sem,simprocAttr,g17,g22];refine⟨_,rfl,.refl _ _,?_⟩;exact⟨_,rfl,_,_,rfl,Mb,Mc⟩
 |24,hs=>
  obtain rfl:=Option.some.inj hs;refine σ ?_;refine ez (cs:=([[.string ⟨#[97]⟩],[.string ⟨#[98]⟩],[.string ⟨#[99]⟩]]:List (List Value)).flatten.toArray) rfl rfl ?_;intro w2 az ai bU;refine σ ?_;refine⟨_,rfl,ai,?_⟩;exact mg (P:=ft) (rows:=[[.string ⟨#[97]⟩],[.string ⟨#[98]⟩],[.string ⟨#[99]⟩]]) (l:=[⟨#[97]⟩,⟨#[98]⟩,⟨#[99]⟩]) (sz:=1) az (td (bz.trans hm) bU) ⟨rfl,rfl,rfl,trivial⟩ (by simp) ⟨⟨rfl,by decide⟩,⟨rfl,by decide⟩,⟨rfl,by decide⟩,trivial⟩
 |25,hs=>
  obtain rfl:=Option.some.inj hs;have gt:ρ'.get 1=some (ptr b1):=(hk 1 (by decide)).trans rfl;have hb:=hm.at au Ψ;simp only[go_sem,simprocAttr,gt,aE (n:=3) hb rfl];exact⟨_,rfl,.refl _ _,_,rfl,om _ _ 2 ⟨#[97]⟩⟩
 |26,hs=>
  obtain rfl:=Option.some.inj hs;have gt:ρ'.get 2=some (ptr b2):=(hk 2 (by decide)).trans rfl;have hb:=hm.at az Ψ;simp only[go_sem,simprocAttr,gt,aE (n:=3) hb rfl];exact⟨_,rfl,.refl _ _,_,rfl,om _ _ 2 ⟨#[98]⟩⟩
 |27,hs=>
  obtain rfl:=Option.some.inj hs;have gt:ρ'.get 3=some (ptr b3):=(hk 3 (by decide)).trans rfl;have hb:=hm.at aS Ψ;simp only[go_sem,simprocAttr,gt,aE (n:=3) hb rfl];exact⟨_,rfl,.refl _ _,_,rfl,om _ _ 2 ⟨#[99]⟩⟩
 |28,hs=>
  obtain rfl:=Option.some.inj hs;obtain⟨Zp,Me,Fe⟩:=hp 25 (by decide);have Me:ρ'.get 32=some Zp:=Me;obtain⟨Zq,Ff,Mf⟩:=hp 26 (by decide);have Ff:ρ'.get 33=some Zq:=Ff;obtain⟨Zr,Mg,Mh⟩:=hp 27 (by decide);have Mg:ρ'.get 34=some Zr:=Mg;obtain⟨aiM,rfl,Fe⟩:∃cs:List Value,Zp=.agg cs.toArray/\aR w' (NB w.heap.size w') cs dC:=Fe;obtain⟨f25,e25⟩:∃f,aiM=[I dC.kind,.string dC.name,f]:=by obtain⟨f,e,_⟩:=Fe.cells;exact⟨f,e⟩
  subst e25;obtain⟨aiN,rfl,Mf⟩:∃cs:List Value,Zq=.agg cs.toArray/\aR w' (NB w.heap.size w') cs ic:=Mf;obtain⟨f26,e26⟩:∃f,aiN=[I ic.kind,.string ic.name,f]:=by obtain⟨f,e,_⟩:=Mf.cells;exact⟨f,e⟩
  subst e26;obtain⟨aiO,rfl,Mh⟩:∃cs:List Value,Zr=.agg cs.toArray/\aR w' (NB w.heap.size w') cs qo:=Mh;obtain⟨f27,e27⟩:∃f,aiO=[I qo.kind,.string qo.name,f]:=by obtain⟨f,e,_⟩:=Mh.cells;exact⟨f,e⟩
  subst e27;simp only[go_sem,simprocAttr,Me,Ff,Mg];refine ez (cs:=([[I dC.kind,.string dC.name,f25],[I ic.kind,.string ic.name,f26],[I qo.kind,.string qo.name,f27]]:List (List Value)).flatten.toArray) (ps:=partsOf 3 0 [[I dC.kind,.string dC.name,f25],[I ic.kind,.string ic.name,f26],[I qo.kind,.string qo.name,f27]]) (by simp only[go_sem,simprocAttr,Me,Ff,Mg];rfl) (oA (sz:=3) [[I dC.kind,.string dC.name,f25],[I ic.kind,.string ic.name,f26],[I qo.kind,.string qo.name,f27]] [] _ ⟨rfl,rfl,rfl,trivial⟩ rfl) ?_;intro w2 az ai bU;refine σ ?_;refine⟨_,rfl,ai,?_⟩;have hr:aX w2 (.slice (some ⟨w'.heap.size,0,none⟩) 3 3) 3 (NB w.heap.size w2) (aR w2 (NB w.heap.size w2)) [dC,ic,qo]:=by
   refine mg (rows:=[[I dC.kind,.string dC.name,f25],[I ic.kind,.string ic.name,f26],[I qo.kind,.string qo.name,f27]]) az (td (bz.trans hm) bU) ⟨rfl,rfl,rfl,trivial⟩ (by simp) ⟨?_,?_,?_,trivial⟩
   .exact Fe.up ai aA (ib ai)
   .exact Mf.up ai aA (ib ai)
   .exact Mh.up ai aA (ib ai)
  exact hr
 |29,hs=>
  obtain rfl:=Option.some.inj hs;obtain⟨v28,RB,Mi⟩:=hp 28 (by decide);have RB:ρ'.get 35=some v28:=RB;have Mi:aX w' v28 3 (NB w.heap.size w') (aR w' (NB w.heap.size w')) [dC,ic,qo]:=Mi;obtain⟨ax,cx,rfl⟩:=bq Mi;simp only[go_sem,simprocAttr,RB];refine⟨_,rfl,.refl _ _,?_⟩;exact⟨_,rfl,_,rfl,Mi,by decide⟩
 |30,hs=>
  obtain rfl:=Option.some.inj hs;obtain⟨Zs,Mj,Ml⟩:=hp 29 (by decide);have Mj:ρ'.get 36=some Zs:=Mj;obtain⟨aiP,rfl,Ml⟩:∃cs:List Value,Zs=.agg cs.toArray/\fj w' (NB w.heap.size w') cs wk:=Ml;obtain⟨f29,e29⟩:∃f,aiP=[.string wk.name,f]:=by obtain⟨f,e,_⟩:=Ml;exact⟨f,e⟩
  subst e29;simp only[go_sem,simprocAttr,Mj];refine ez (cs:=([[.string wk.name,f29]]:List (List Value)).flatten.toArray) (ps:=partsOf 2 0 [[.string wk.name,f29]]) (by simp only[go_sem,simprocAttr,Mj];rfl) (oA (sz:=2) [[.string wk.name,f29]] [] _ ⟨rfl,trivial⟩ rfl) ?_;intro w2 az ai bU;refine σ ?_;refine⟨_,rfl,ai,?_⟩;have hr:aX w2 (.slice (some ⟨w'.heap.size,0,none⟩) 1 1) 2 (NB w.heap.size w2) (fj w2 (NB w.heap.size w2)) [wk]:=by
   refine mg (rows:=[[.string wk.name,f29]]) az (td (bz.trans hm) bU) ⟨rfl,trivial⟩ (by simp) ⟨?_,trivial⟩
   .exact Ml.up ai aA (ib ai)
  exact hr
 |31,hs=>
  obtain rfl:=Option.some.inj hs;obtain⟨v24,g24,Mm⟩:=hp 24 (by decide);have g24:ρ'.get 31=some v24:=g24;obtain⟨v30,RC,Mn⟩:=hp 30 (by decide);have RC:ρ'.get 37=some v30:=RC;have Mn:aX w' v30 2 (NB w.heap.size w') (fj w' (NB w.heap.size w')) [wk]:=Mn;obtain⟨ax,cx,rfl⟩:=bq Mn;have Mm:aX w' v24 1 (NB w.heap.size w') ft [⟨#[97]⟩,⟨#[98]⟩,⟨#[99]⟩]:=Mm;obtain⟨ay,cy,rfl⟩:=bq Mm;simp only[go_sem,simprocAttr,g24,RC];refine⟨_,rfl,.refl _ _,?_⟩;exact⟨_,rfl,_,_,rfl,Mm,Mn⟩
 |32,hs=>
  obtain rfl:=Option.some.inj hs;obtain⟨v3,g3,h3⟩:=hp 3 (by decide);have g3:ρ'.get 10=some v3:=g3;obtain⟨v6,g6,h6⟩:=hp 6 (by decide);have g6:ρ'.get 13=some v6:=g6;obtain⟨Zt,g16,zv⟩:=hp 16 (by decide);have g16:ρ'.get 23=some Zt:=g16;obtain⟨Zu,g23,Mo⟩:=hp 23 (by decide);have g23:ρ'.get 30=some Zu:=g23;obtain⟨v31,Mp,Mq⟩:=hp 31 (by decide);have Mp:ρ'.get 38=some v31:=Mp;obtain⟨iZ,rfl,h3⟩:∃cs:List Value,v3=.agg cs.toArray/\gC w' (NB w.heap.size w') cs mh:=h3;obtain⟨f3,k3,e3⟩:∃f k,iZ=[.string mh.name,f,k]:=by obtain⟨f,k,e,_⟩:=h3;exact⟨f,k,e⟩
  subst e3;obtain⟨cs6,rfl,h6⟩:∃cs:List Value,v6=.agg cs.toArray/\gC w' (NB w.heap.size w') cs uv:=h6;obtain⟨f6,k6,e6⟩:∃f k,cs6=[.string uv.name,f,k]:=by obtain⟨f,k,e,_⟩:=h6;exact⟨f,k,e⟩
  subst e6;obtain⟨aiQ,rfl,zv⟩:∃cs:List Value,Zt=.agg cs.toArray/\gC w' (NB w.heap.size w') cs dList:=zv;obtain⟨f16,xP,e16⟩:∃f k,aiQ=[.string dList.name,f,k]:=by obtain⟨f,k,e,_⟩:=zv;exact⟨f,k,e⟩
  subst e16;obtain⟨aiR,rfl,Mo⟩:∃cs:List Value,Zu=.agg cs.toArray/\gC w' (NB w.heap.size w') cs uw:=Mo;obtain⟨f23,Mr,e23⟩:∃f k,aiR=[.string uw.name,f,k]:=by obtain⟨f,k,e,_⟩:=Mo;exact⟨f,k,e⟩
  subst e23;obtain⟨aiS,rfl,Mq⟩:∃cs:List Value,v31=.agg cs.toArray/\gC w' (NB w.heap.size w') cs ux:=Mq;obtain⟨f31,Mt,e31⟩:∃f k,aiS=[.string ux.name,f,k]:=by obtain⟨f,k,e,_⟩:=Mq;exact⟨f,k,e⟩
  subst e31;simp only[go_sem,simprocAttr,g3,g6,g16,g23,Mp];refine ez (cs:=([[.string mh.name,f3,k3],[.string uv.name,f6,k6],[.string dList.name,f16,xP],[.string uw.name,f23,Mr],[.string ux.name,f31,Mt]]:List (List Value)).flatten.toArray) (ps:=partsOf 3 0 [[.string mh.name,f3,k3],[.string uv.name,f6,k6],[.string dList.name,f16,xP],[.string uw.name,f23,Mr],[.string ux.name,f31,Mt]]) (by simp only[go_sem,simprocAttr,g3,g6,g16,g23,Mp];rfl) (oA (sz:=3) [[.string mh.name,f3,k3],[.string uv.name,f6,k6],[.string dList.name,f16,xP],[.string uw.name,f23,Mr],[.string ux.name,f31,Mt]] [] _ ⟨rfl,rfl,rfl,rfl,rfl,trivial⟩ rfl) ?_;intro w2 az ai bU;refine σ ?_;refine⟨_,rfl,ai,?_⟩;have hr:aX w2 (.slice (some ⟨w'.heap.size,0,none⟩) 5 5) 3 (NB w.heap.size w2) (gC w2 (NB w.heap.size w2)) [mh,uv,dList,uw,ux]:=by
   refine mg (rows:=[[.string mh.name,f3,k3],[.string uv.name,f6,k6],[.string dList.name,f16,xP],[.string uw.name,f23,Mr],[.string ux.name,f31,Mt]]) az (td (bz.trans hm) bU) ⟨rfl,rfl,rfl,rfl,rfl,trivial⟩ (by simp) ⟨?_,?_,?_,?_,?_,trivial⟩
   .exact h3.up ai aA (ib ai)
   .exact h6.up ai aA (ib ai)
   .exact zv.up ai aA (ib ai)
   .exact Mo.up ai aA (ib ai)
   .exact Mq.up ai aA (ib ai)
  exact hr
 |33,hs=>
  obtain rfl:=Option.some.inj hs;obtain⟨v32,RD,h32⟩:=hp 32 (by decide);have RD:ρ'.get 39=some v32:=RD;simp only[go_sem,simprocAttr,RD];exact⟨_,rfl,.refl _ _,h32⟩
 |i+34,hs=>simp[Ry]at hs
 rintro ρ' w' ai ff hk;obtain⟨v,g,hv⟩:=ff 33 (by rw[aiG];decide);have g:ρ'.get 0=some v:=g;have hv:aX w' v 3 (NB w.heap.size w') (gC w' (NB w.heap.size w')) mL:=hv;simp only[go_sem,simprocAttr,g,aM,RV.ev,aN];exact⟨hv,bz.trans ai⟩
end
section
open Go Go.W
theorem kI{α:Type}{w:World}{v:Value}{sz:Nat}{B:Nat→Prop}{P:List Value→α→Prop}{l:List α}(h:aX w v sz B P l){i:Nat}(hi:i < l.length) :
   ∃ad c r,v=.slice (some ad) l.length c/\P r l[i]/\r.length=sz/\iU w B (ad.add (i*sz)) r:=by
 obtain⟨rows,⟨⟨a,c,e,hb,hr⟩,_⟩,h2,h3⟩:=h;obtain⟨ad,rfl,hl,hc⟩:=hr i (by omega);exact⟨ad,c,rows[i]'(by omega),by rw[e,h2],h3 i _ _ (Ξ (by omega)) (Ξ hi),hl,by rw[u9];exact hb (by omega) ad rfl,hc⟩
def H0:Env:=⟨[],[],[],[]⟩
def A6:List Dt->Env->Env
 |[],E=>E
 |d::l,E=>A6 l (ur E d)
theorem aiT{l:List Dt}{i:Nat}(hi:i<l.length)(E:Env):A6 (l.drop i) E=A6 (l.drop (i+1)) (ur E l[i]):=by rw[Ω hi,A6]
def jM:Env:=A6 mL H0
theorem aiU{w:World}:bu Tryz.prog 49 [] w fun r w'=>(∃(c md mc mf:Nat) (S:Nat->Prop),r=ptr c/\gU w' S c md mc mf jM/\∀b,S b->w.heap.size<=b)/\Mod (fun _=>False) w w':=by
 refine γ Tryz.f49 ?_;refine σ ?_;refine pe (α:=Dt) (fun v _=>False) ?_;intro w1 kx ak cw;refine σ ?_;refine pe (α:=Dt×Nat) (fun v _=>False) ?_;intro w2 qP ai bU;refine σ ?_;refine pe (α:=Df) (fun v _=>False) ?_;intro w3 sh aw dU;have emp:∀{α:Type} {w:World} {b:Nat} {R R':Value->α->Prop},bQ w b R []->bQ w b R' []:=fun h=>by
  obtain⟨lv,q1,q2⟩:=h;cases q2;exact⟨[],q1,.nil⟩
 refine σ ?_;refine bZ rfl ?_;intro w4 bm aD dL;have eX:=ak.trans (ai.trans (aw.trans aD));have z4:=eX.size;refine σ ?_;refine aL (by rfl) ?_;refine aiH.mono ?_;rintro r w5 ⟨hg,aH⟩;obtain⟨ag,cg,rfl⟩:=bq hg;have z5:=aH.size;have bY:=aH.at bm Ψ
 let S:Nat->Prop:=fun b=>b=w3.heap.size\/b=w.heap.size\/b=w1.heap.size\/b=w2.heap.size
 have Hn:∀b,S b->b<w4.heap.size:=fun b hb=>by
  rcases hb with h |h |h |h<;>omega
 have bK:gU w5 S w3.heap.size w.heap.size w1.heap.size w2.heap.size H0:=by
  refine⟨⟨.map none,.map none,.map none,rfl,rfl,rfl,bY⟩,?_,fun b hb=>?_,fun b hb=>Nat.lt_of_lt_of_le (Hn b hb) z5,?_,?_,?_⟩
  .simp only[List.nodup_cons,List.mem_cons,List.not_mem_nil,or_false,not_or,not_false_eq_true,List.nodup_nil,and_true];omega
  .simpa only[List.mem_cons,List.not_mem_nil,or_false]using hb
  .exact emp (bQ.mod kx (ai.trans (aw.trans (aD.trans aH))) Ψ (fun _ _ x=>x))
  .exact emp (bQ.mod qP (aw.trans (aD.trans aH)) Ψ (fun _ _ x=>x))
  .exact emp (bQ.mod sh (aD.trans aH) Ψ (fun _ _ x=>x))
 have hgS:aX w5 (.slice ag mL.length cg) 3 (Out S w5) (gC w5 (Out S w5)) mL:=by
  have ga:∀b,NB w4.heap.size w5 b->Out S w5 b:=fun b hb=>⟨hb.2,fun hh=>by have:=Hn b hh;have:=hb.1;omega⟩
  exact hg.up (.refl (fun _=>False) w5) aA ga (fun _ _ h=>h.up (.refl (fun _=>False) w5) aA ga)
 let T:Nat->Prop:=fun b=>b=w.heap.size\/b=w1.heap.size
 have TS:∀b,T b->S b:=fun b hb=>by rcases hb with h |h;exact .inr (.inl h);exact .inr (.inr (.inl h))
 refine σ ?_;refine eW mL.length (fun k ρ w'=>k<=mL.length/\Mod T w5 w'/\(∃E,gU w' S w3.heap.size w.heap.size w1.heap.size w2.heap.size E/\A6 (mL.drop k) E=jM)/\ρ=[(1,ptr w3.heap.size),(2,.slice ag mL.length cg),(11,I mL.length),(12,I k)])
  ⟨by omega,.refl _ _,⟨H0,bK,rfl⟩,rfl⟩ (by decide) ?_ ?_ (by decide) ?_
 .rintro k _ w6 ⟨hk,_,_,rfl⟩;exact⟨rfl,rfl,hk⟩
 .rintro k _ w6 ⟨_,aG,⟨E,CL,eS⟩,rfl⟩ hk;rw[aiT hk]at eS;have jx:=hgS.up (aG.aU TS) aW (br (aG.aU TS)) (fun _ _ h=>h.up (aG.aU TS) aW (br (aG.aU TS)));obtain⟨ad,c2,rr,e,hd,cG,bT⟩:=kI jx hk;obtain⟨rfl,-,-⟩:=cU e;have bk:(0:Int)<=k/\(k:Int)<mL.length:=by omega
  simp only[go_sem,simprocAttr,bG,bH,bk];refine δ (by rfl) (Zd CL ⟨rr,bT,hd⟩) ?_;rintro _ w7 ⟨Ra,aO⟩;refine σ ?_;exact⟨hk,aG.trans aO,_,Ra,eS⟩
 .rintro _ w6 ⟨_,aG,⟨E,CL,eS⟩,rfl⟩;rw[List.drop_length,A6]at eS;subst eS;simp only[go_sem,simprocAttr,aM,RV.ev,aN];refine⟨⟨_,_,_,_,S,rfl,CL,fun b hb=>?_⟩,(eX.trans aH).step aG (fun b hb hl=>by rcases hb with h |h<;>omega)⟩;rcases hb with h |h |h |h<;>omega
end
section
open Go Go.W
def tf(E:Env):List Cn->cE->Bool
 |[],_=>true
 |k::ks,m=>if((aJ E.cons k.name).isSome||has m k.name||decide ((k.fields.length:Int)>8))=true then false else tf E ks (bS m k.name 1)
def zE:List ByteArray->cE->Bool
 |[],_=>true
 |s::l,m=>if has m s=true then false else zE l (bS m s 1)
def ri(E:Env)(d:Dt):Int:=
 if(!EN d.name||d.params.any (fun s=>!vD s)||d.cons.any (fun k=>!nr k.name))=true then 82
 else if(aJ E.aK d.name).isSome=true then 81
 else if tf E d.cons []=false then 81
 else if zE d.params []=false then 81
 else if(decide ((d.params.length:Int)>6)||(d.cons.length:Int)==0||decide ((d.cons.length:Int)>24))=true then 81 else 0
theorem aiV{E:Env}{l:List Cn}{i:Nat}(hi:i<l.length)(m:cE):tf E (l.drop i) m=if((aJ E.cons l[i].name).isSome||has m l[i].name||decide ((l[i].fields.length:Int)>8))=true then false else tf E (l.drop (i+1)) (bS m l[i].name 1):=by rw[Ω hi,tf]
theorem aiW{l:List ByteArray}{i:Nat}(hi:i<l.length)(m:cE):zE (l.drop i) m=if has m l[i]=true then false else zE (l.drop (i+1)) (bS m l[i] 1):=by rw[Ω hi,zE]
def px:List Dt->Env->Except Int Env
 |[],E=>.ok E
 |d::l,E=>if(ri E d != 0)=true then .error (ri E d)else px l (ur E d)
def H2(E:Env)(d:Dt):Bool:=d.cons.all fun k=>k.fields.all (iT (iY E d.params))
def CP(E:Env)(l:List Dt):Bool:=l.all (H2 E)
def oB(E:Env)(l:List Dt):Except Int Env:=match px l E with
 |.error e=>.error e
 |.ok E'=>if CP E' l=true then .ok E' else .error 81
theorem aiX{l:List Dt}{i:Nat}(hi:i<l.length)(E:Env):px (l.drop i) E=if(ri E l[i]!=0)=true then .error (ri E l[i])else px (l.drop (i+1)) (ur E l[i]):=by rw[Ω hi,px]
def zF:List ByteArray->cE->Bool
 |[],_=>true
 |s::l,m=>if(!vD s||has m s)=true then false else zF l (bS m s 1)
def oC:List ByteArray->cE->cE
 |[],m=>m
 |s::l,m=>oC l (bS m s 1)
theorem aiY{l:List ByteArray}{i:Nat}(hi:i<l.length)(m:cE):zF (l.drop i) m=if(!vD l[i]||has m l[i])=true then false else zF (l.drop (i+1)) (bS m l[i] 1):=by rw[Ω hi,zF]
theorem aiZ{l:List ByteArray}{i:Nat}(hi:i<l.length)(m:cE):oC (l.drop i) m=oC (l.drop (i+1)) (bS m l[i] 1):=by rw[Ω hi,oC]
def rj(E:Env)(d:Df):Except Int Env:=
 if((aJ E.aj d.name).isSome || !nr d.name)=true then .error 82
 else if zF d.params []=false then .error 82
 else if iT { E with params:=oC d.params []} d.type=false then .error 83
 else .ok { E with aj:=bS E.aj d.name d,params:=oC d.params []}
def gI:List Df->Env->Except Int Env
 |[],E=>.ok E
 |d::l,E=>match rj E d with
  |.error e=>.error e
  |.ok E'=>gI l E'
theorem ai0{l:List Df}{i:Nat}(hi:i < l.length)(E:Env):gI (l.drop i) E=match rj E l[i] with
   |.error e=>.error e
   |.ok E'=>gI (l.drop (i+1)) E':=by rw[Ω hi,gI]
noncomputable def lJ(E:Env)(d:Df):Int:=match cM (iY E d.params) d.body ([],[])with
 |.error e=>e
 |.ok y=>if fY y.1 d.type=true then 0 else 83
noncomputable def kJ(E:Env):List Df->Int
 |[]=>0
 |d::l=>if(lJ E d != 0)=true then lJ E d else kJ E l
theorem ai1{E:Env}{l:List Df}{i:Nat}(hi:i<l.length):kJ E (l.drop i)=if(lJ E l[i]!=0)=true then lJ E l[i]else kJ E (l.drop (i+1)):=by rw[Ω hi,kJ]
end
end Go.Proofs.YtekkkjbjnhipkaaGreatDoor