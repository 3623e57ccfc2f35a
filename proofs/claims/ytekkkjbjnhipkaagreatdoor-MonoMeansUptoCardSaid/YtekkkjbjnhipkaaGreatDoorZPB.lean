/- Texts that the last file stands on. -/
import Derived.Test.YtekkkjbjnhipkaaGreatDoorZPA
import Derived.KernelRfl
import Derived.Shelf.LaysM
import Derived.Shelf.Strconv.Itoa3
import Derived.Shelf.Strings.Split
import Derived.Shelf.Strings.OnBuilder
import Derived.Test.YtekkkjbjnhipkaaGreatDoorProg
set_option linter.unusedSimpArgs false
set_option linter.unusedVariables false
set_option maxRecDepth 100000
namespace Go.W
section
open Go
abbrev ptr(b:Nat):Value:=.pointer (some ⟨b,0,none⟩)
theorem aA{B:Nat->Prop}:∀b,B b->¬(fun _:Nat=>False) b:=fun _ _ h=>h
section
variable {P:Program} {N:Nat} {w:World} {ρ:Env}
theorem eC{n T:Nat}{z:Value}{x y:O}{ρ':Value→Env}{K:Value→Value→World→Prop}{vs:List Value}(hx:x.ev (ρ' (ptr w.heap.size))=some (.agg vs.toArray))(hn:vs.length=n)(h1:∀ u∈vs,u.oneCell'=true)
   (hk:∀w',w'.heap[w.heap.size]?=some (.cells vs.toArray T (0,0))->Mod (fun _=>False) w w'->w'.heap.size=w.heap.size+1->K (ptr w.heap.size) undef w')
   (hy:y.ev (ρ' (ptr w.heap.size))=some (ptr w.heap.size):=by rfl) (hz:z.cells.size=n:=by rfl) :
   E.wp P w ρ (fun v w'=>E.wp P w' (ρ' v) (K v) (.st n y x)) (.al T z):=by
 refine cX ?_;intro w1 hb hm hs;refine bN (cs:=z.cells.toList) hy hx (by simpa using hb) hn (by simpa using hz) h1 ?_;intro w2 az ai bU;exact hk w2 az (hm.step ai (fun x hx hl=>by subst hx;omega)) (by omega)
theorem aE{b T n:Nat}{cs:List Value}{fz:Nat×Nat}(h:w.heap[b]?=some (.cells cs.toArray T fz))(hn:cs.length=n):f' w n (.pointer (some ⟨b,0,none⟩))=some (.agg cs.toArray):=by
 have:=jm (off:=0) (n:=n) h (by omega);rw[List.drop_zero,List.take_of_length_le (by omega)]at this;exact this
theorem W0{ρ:Env}{c:Nat}{v:Value}(hv:ρ.get c=some v):∀{kp:List Nat},c∈kp->(ρ.aI kp).get c=some v:=by
 intro kp
 induction kp with
 |nil=>intro h;cases h
 |cons t ts ih=>
  intro h;rw[afs];by_cases e:t=c
  .subst e;rw[hv,Wn,AA,if_pos rfl]
  .have h2:=ih ((List.mem_cons.1 h).resolve_left (Ne.symm e));cases hr:ρ.get t with
   |none=>rw[afr];exact h2
   |some u=>rw[Wn,AA,if_neg e];exact h2
theorem eW{c i n x id EF:Nat}{rS Ce:List Nat}{body:IR}{Q:Post}(len:Nat)(Inv:Nat→Env→World→Prop)(h0:Inv 0 ρ w)(hlen:len < 9223372036854775807)
   (hg:∀k ρ w,Inv k ρ w->ρ.get i=some (.int .i64 k)/\ρ.get n=some (.int .i64 len)/\k<=len)
   (hb:∀k ρ w,Inv k ρ w->k<len->dD P N body (mB EF (fun e ρ' w'=>match e with
    |.normal=>ρ'.get i=some (.int .i64 k)/\Inv (k+1) (Env.aI ((i,.int .i64 ((k+1:Nat):Int))::(x,.int .i64 ((k+1:Nat):Int))::ρ') Ce) w'
    |e=>Q e ρ' w')) (Env.aI ((c,.bool true)::ρ) rS) w)
   (hc:c∈rS)
   (he:∀ρ w,Inv len ρ w->Q (.exit id) (Env.aI ((c,.bool false)::ρ) rS) w) :
   dD P N (.loop (.seq (.eJ false [.r (some c) (.bi .lss (.t i) (.t n))] rS) (.seq (.cond (.t c) .skip (.exit id)) (.seq (.block EF body) (.eJ false [.r (some x) (.bi .add (.t i) (.c (.int .i64 1))),.r (some i) (.mv (.t x))] Ce))))) Q ρ w:=by
 refine io (fun z ρ w=>∃k,z=len-k/\Inv k ρ w) len ⟨0,rfl,h0⟩ ?_;rintro z ρ w ⟨k,rfl,hi⟩;obtain⟨g1,g2,g3⟩:=hg k ρ w hi;have ev:(R.bi .lss (.t i) (.t n)).ev w ρ=some (.bool (decide ((k:Int)<len))):=by
  simp[R.ev,O.ev,g1,g2,Au,As]
 refine⟨_,ev,?_⟩;refine⟨decide ((k:Int)<len),W0 (by simp[Env.put,Env.get]) hc,fun ht=>?_,fun hf=>?_⟩
 .have bg:k<len:=by simpa using ht
  rw [ht];refine Ew body _ _ ?_ _ _ (hb k ρ w hi bg);have oV:∀ (ρ':Env) (w':World),ρ'.get i=some (.int .i64 k)∧Inv (k+1) (Env.aI ((i,.int .i64 ((k+1:Nat):Int))::(x,.int .i64 ((k+1:Nat):Int))::ρ') Ce) w' →
      dD P N (.eJ false [.r (some x) (.bi .add (.t i) (.c (.int .i64 1))),.r (some i) (.mv (.t x))] Ce) (qN (fun ρ' w'=>∃m,m<len-k/\∃k,m=len-k/\Inv k ρ' w') Q) ρ' w':=by
   rintro ρ' w' ⟨h1,h2⟩;have ev:(R.bi .add (.t i) (.c (.int .i64 1))).ev w' ρ'=some (.int .i64 ((k+1:Nat):Int)):=by
    have:IntKind.i64.wrap ((k:Int)+1)=((k+1:Nat):Int):=by rw[dJ (by omega) (by omega)];omega
    simp[R.ev,O.ev,h1,Au,As,this]
   refine⟨_,ev,_,?_,len-(k+1),by omega,k+1,rfl,h2⟩;simp[R.ev,O.ev,Env.put,Env.get]
  intro e ρ' w' h;cases e with
  |normal=>exact oV ρ' w' h
  |exit oQ=>
   simp only[mB]at h ⊢;by_cases hid:oQ=EF
   .rw[if_pos hid]at h ⊢;exact oV ρ' w' h
   .rw[if_neg hid]at h ⊢;exact h
  |ret=>exact h
  |_=>exact h
 .have:k=len:=by have:=of_decide_eq_false hf;omega
  subst this;rw[hf];exact he ρ w hi
end
end
end Go.W
namespace Go.Proofs.YtekkkjbjnhipkaaGreatDoor
section
open Go Go.W
theorem Ty.ind{P:Ty->Prop}(h:∀t:Ty,(∀u∈t.args,P u)->P t):∀t,P t
 |.mk k n l=>h _ (fun u hu=>Ty.ind h u)
termination_by t=>SizeOf.sizeOf t
decreasing_by
 simp only[Ty.args]at hu;have:=List.sizeOf_lt_of_mem hu;simp only[Ty.mk.sizeOf_spec];omega
theorem Ex.ind{P:Ex->Prop}(h:∀e:Ex,(∀u∈e.args,P u)->(∀b∈e.binds,P b.value)->(∀a∈e.alts,P a.body)->P e):∀e,P e
 |.mk k n m ts xs bs al=>h _ (fun u hu=>Ex.ind h u) (fun b hb=>Ex.ind h b.value) (fun a ha=>Ex.ind h a.body)
termination_by e=>SizeOf.sizeOf e
decreasing_by
 .simp only[Ex.args]at hu;have:=List.sizeOf_lt_of_mem hu;simp only[Ex.mk.sizeOf_spec];omega
 .simp only[Ex.binds]at hb;have:=List.sizeOf_lt_of_mem hb;cases b;simp only[Ex.mk.sizeOf_spec,Bd.mk.sizeOf_spec,Bd.value]at *;omega
 .simp only[Ex.alts]at ha;have:=List.sizeOf_lt_of_mem ha;cases a;simp only[Ex.mk.sizeOf_spec,Al.mk.sizeOf_spec,Al.body]at *;omega
def eh(w:World)(B:Nat->Prop)(r:List Value)(b:Bd):Prop:=∃tc ec,r=.string b.name::(tc++ec)/\aR w B tc b.type/\ci w B ec b.value/\Nm b.name
def jc(w:World)(B:Nat->Prop)(r:List Value)(a:Al):Prop:=∃vv ec,r=I a.kind :: .string a.bE::I a.num::vv::ec/\aX w vv 1 B ft a.vars/\ci w B ec a.body
section
variable {w w':World} {B S:Nat->Prop} {cs:List Value}
theorem aX.imp{α:Type}{v:Value}{sz:Nat}{P P':List Value->α->Prop}{l:List α}(h:aX w v sz B P l)(hp:∀r a,P r a->P' r a):aX w v sz B P' l:=by
 obtain⟨rows,h1,h2,h3⟩:=h;exact⟨rows,h1,h2,fun i r a hr ha=>hp _ _ (h3 i r a hr ha)⟩
theorem ci.parts{e:Ex}(h:ci w B cs e):∃ vt va vb vl,cs=[I e.kind,.string e.name,I e.num,vt,va,vb,vl]∧aX w vt 3 B (aR w B) e.types∧aX w va 7 B (ci w B) e.args ∧
   aX w vb 11 B (eh w B) e.binds/\aX w vl 11 B (jc w B) e.alts:=by
 obtain⟨vt,va,vb,vl,h0,h1,h2,h3,h4⟩:=h.cells;refine⟨vt,va,vb,vl,h0,h1,h2,h3.imp ?_,h4.imp ?_⟩
 .rintro r b ⟨⟨hl,hb⟩,hn,ht,he⟩;refine⟨(r.drop 1).take 3,r.drop 4,?_,ht,he,hb⟩
  match r,hl with
  |x::r,hl=>simp only[List.getElem?_cons_zero,Option.some.injEq]at hn;subst hn;simp[<- List.drop_drop]
 .rintro r a ⟨hl,⟨vv,hn,hv⟩,he⟩;refine⟨vv,r.drop 4,?_,hv,he⟩
  conv=>lhs;rw[<- List.take_append_drop 4 r,hn]
  rfl
theorem eh.mod{b:Bd}(h:eh w B cs b)(hm:Mod S w w')(hd:∀b,B b->¬S b):eh w' B cs b:=by
 obtain⟨tc,ec,e,h1,h2,hn⟩:=h;exact⟨tc,ec,e,h1.mod hm hd,h2.mod hm hd,hn⟩
theorem jc.mod{a:Al}(h:jc w B cs a)(hm:Mod S w w')(hd:∀b,B b->¬S b):jc w' B cs a:=by
 obtain⟨vv,ec,e,h1,h2⟩:=h;exact⟨vv,ec,e,h1.mod hm hd (fun _ _ h=>h),h2.mod hm hd⟩
theorem dq:∀u∈([]:List Value),u.oneCell'=true:=fun _ h=>nomatch h
theorem aP{v:Value}{l:List Value}(h:v.oneCell'=true)(hl:∀u∈l,u.oneCell'=true):∀u∈v::l,u.oneCell'=true:=List.forall_mem_cons.2 ⟨h,hl⟩
theorem P9{k l:List Value}(h:∀u∈k,u.oneCell'=true)(hl:∀u∈l,u.oneCell'=true):∀u∈k++l,u.oneCell'=true:=List.forall_mem_append.2 ⟨h,hl⟩
theorem j6{α:Type}{v:Value}{sz:Nat}{P:List Value->α->Prop}{l:List α}(h:aX w v sz B P l):v.oneCell'=true:=by
 obtain⟨a,c,rfl⟩:=bq h;rfl
theorem aR.one{t:Ty}(h:aR w B cs t):∀u∈cs,u.oneCell'=true:=by
 obtain⟨v,rfl,h1⟩:=h.cells;exact aP rfl (aP rfl (aP (j6 h1) dq))
theorem ci.one{e:Ex}(h:ci w B cs e):∀u∈cs,u.oneCell'=true:=by
 obtain⟨vt,va,vb,vl,rfl,h1,h2,h3,h4⟩:=h.parts;exact aP rfl (aP rfl (aP rfl (aP (j6 h1) (aP (j6 h2) (aP (j6 h3) (aP (j6 h4) dq))))))
theorem eh.one{b:Bd}(h:eh w B cs b):∀u∈cs,u.oneCell'=true:=by
 obtain⟨tc,ec,rfl,h1,h2,_⟩:=h;exact aP rfl (P9 h1.one h2.one)
theorem jc.one{a:Al}(h:jc w B cs a):∀u∈cs,u.oneCell'=true:=by
 obtain⟨vv,ec,rfl,h1,h2⟩:=h;exact aP rfl (aP rfl (aP rfl (aP (j6 h1) h2.one)))
theorem fj.one{k:Cn}(h:fj w B cs k):∀u∈cs,u.oneCell'=true:=by
 obtain⟨vf,rfl,h1,_⟩:=h;exact aP rfl (aP (j6 h1) dq)
theorem gC.one{d:Dt}(h:gC w B cs d):∀u∈cs,u.oneCell'=true:=by
 obtain⟨vp,vc,rfl,h1,h2⟩:=h;exact aP rfl (aP (j6 h1) (aP (j6 h2) dq))
theorem jE.one{d:Df}(h:jE w B cs d):∀u∈cs,u.oneCell'=true:=by
 obtain⟨vp,tc,bc,rfl,_,_,h1,h2,h3,_⟩:=h;exact aP rfl (aP (j6 h1) (P9 h2.one h3.one))
theorem ft.one{s:ByteArray}(h:ft cs s):∀u∈cs,u.oneCell'=true:=by
 obtain⟨rfl,_⟩:=h;exact aP rfl dq
end
end
section
open Go Go.W
abbrev Wr(n:Int):Int:=IntKind.i64.wrap n
abbrev mx(n d:Int):Int:=if d>n then d else n
mutual
def Ty.size:Ty->Int
 |.mk _ _ l=>ly l 1
def ly:List Ty->Int->Int
 |[],n=>n
 |t::l,n=>ly l (Wr (n+t.size))
end
mutual
def Ty.nodes:Ty->Int
 |.mk _ _ l=>min (nq l 1) 501
def nq:List Ty->Int->Int
 |[],n=>n
 |t::l,n=>if n>500 then n else nq l (Wr (n+t.nodes))
end
mutual
def Ex.size:Ex->Int
 |.mk _ _ _ ts xs bs al=>oW al (qS bs (rT xs (Wr (1+ly ts 0))))
def rT:List Ex->Int->Int
 |[],n=>n
 |e::l,n=>rT l (Wr (n+e.size))
def qS:List Bd->Int->Int
 |[],n=>n
 |.mk _ t v::l,n=>qS l (Wr (n+Wr (Wr (1+t.size)+v.size)))
def oW:List Al->Int->Int
 |[],n=>n
 |.mk _ _ _ vs b::l,n=>oW l (Wr (n+Wr (Wr (1+vs.length)+b.size)))
end
mutual
def Ex.deep:Ex->Int
 |.mk _ _ _ _ xs bs al=>Wr (yU al (AE bs (Cf xs 0))+1)
def Cf:List Ex->Int->Int
 |[],n=>n
 |e::l,n=>Cf l (mx n e.deep)
def AE:List Bd->Int->Int
 |[],n=>n
 |.mk _ _ v::l,n=>AE l (mx n v.deep)
def yU:List Al->Int->Int
 |[],n=>n
 |.mk _ _ _ _ b::l,n=>yU l (mx n b.deep)
end
def tT:List Cn->Int->Int
 |[],n=>n
 |k::l,n=>tT l (Wr (n+Wr (1+ly k.fields 0)))
def qT:List Dt->Int->Int
 |[],n=>n
 |d::l,n=>qT l (tT d.cons (Wr (n+1)))
def rU:List Df->Int->Int
 |[],n=>n
 |d::l,n=>rU l (Wr (n+Wr (Wr (1+d.type.size)+d.body.size)))
def Pg.size(p:Pg):Int:=rU p.aj (qT p.aK 0)
theorem Ty.size_eq(t:Ty):t.size=ly t.args 1:=by cases t;rw[Ty.size];rfl
theorem Ty.Qa(t:Ty):t.nodes=min (nq t.args 1) 501:=by cases t;rw[Ty.nodes];rfl
theorem Ex.size_eq(e:Ex):e.size=oW e.alts (qS e.binds (rT e.args (Wr (1+ly e.types 0)))):=by cases e;rw[Ex.size];rfl
theorem Ex.af0(e:Ex):e.deep=Wr (yU e.alts (AE e.binds (Cf e.args 0))+1):=by cases e;rw[Ex.deep];rfl
section
variable {i:Nat} (n:Int)
theorem Qb{l:List Ty}(hi:i<l.length):ly (l.drop i) n=ly (l.drop (i+1)) (Wr (n+l[i].size)):=by rw[Ω hi,ly]
theorem af1{l:List Ty}(hi:i<l.length):nq (l.drop i) n=if n>500 then n else nq (l.drop (i+1)) (Wr (n+l[i].nodes)):=by rw[Ω hi,nq]
theorem af2{l:List Ex}(hi:i<l.length):rT (l.drop i) n=rT (l.drop (i+1)) (Wr (n+l[i].size)):=by rw[Ω hi,rT]
theorem af4{l:List Bd}(hi:i<l.length):qS (l.drop i) n=qS (l.drop (i+1)) (Wr (n+Wr (Wr (1+l[i].type.size)+l[i].value.size))):=by
 rw[Ω hi];cases l[i];rw[qS];rfl
theorem af5{l:List Al}(hi:i<l.length):oW (l.drop i) n=oW (l.drop (i+1)) (Wr (n+Wr (Wr (1+l[i].vars.length)+l[i].body.size))):=by
 rw[Ω hi];cases l[i];rw[oW];rfl
theorem af6{l:List Ex}(hi:i<l.length):Cf (l.drop i) n=Cf (l.drop (i+1)) (mx n l[i].deep):=by rw[Ω hi,Cf]
theorem af7{l:List Bd}(hi:i<l.length):AE (l.drop i) n=AE (l.drop (i+1)) (mx n l[i].value.deep):=by
 rw[Ω hi];cases l[i];rw[AE];rfl
theorem af8{l:List Al}(hi:i<l.length):yU (l.drop i) n=yU (l.drop (i+1)) (mx n l[i].body.deep):=by
 rw[Ω hi];cases l[i];rw[yU];rfl
theorem af9{l:List Cn}(hi:i<l.length):tT (l.drop i) n=tT (l.drop (i+1)) (Wr (n+Wr (1+ly l[i].fields 0))):=by rw[Ω hi,tT]
theorem af'{l:List Dt}(hi:i<l.length):qT (l.drop i) n=qT (l.drop (i+1)) (tT l[i].cons (Wr (n+1))):=by rw[Ω hi,qT]
theorem aga{l:List Df}(hi:i<l.length):rU (l.drop i) n=rU (l.drop (i+1)) (Wr (n+Wr (Wr (1+l[i].type.size)+l[i].body.size))):=by rw[Ω hi,rU]
end
end
section
open Go Go.W
def agb:IR:=.seq (.eJ false [] [0]) <|
 .seq (.seq (.eJ false [.r (some 4) (.eq .slice false (.t 0) (.c (.slice none 0 0)))] [0,4]) <|
 .cond (.t 4) (.seq (.eJ false [.r (some 2) (.mv (.c (.slice none 0 0)))] [2]) <|
 .ret) (.skip)) <|
 .seq (.eJ false [.e (some 5) (.raw ⟨(some 5),(.buildSlice 42 0 #[]),42, "slices.go:362",#[],none⟩),
.r (some 6) (.mv (.t 0)),
.e (some 7) (.ap 9 1 16 #[(.string ⟨#[]⟩)] (.t 5) (.t 6)),
.r (some 2) (.mv (.t 7))] [2]) <|
 .ret
theorem agc:Fits Tryz.prog 30 1 [(0,[0],[]),(1,[0,4],[]),(2,[2],[]),(3,[2],[])] agb [.t 2] 8:=
 ⟨Tryz.f30,_,rfl,rfl,rfl,by decide,by kernel_rfl,by kernel_rfl⟩
def agd:IR:=.seq (.eJ false [] [0]) <|
 .seq (.seq (.eJ false [.r (some 4) (.eq .slice false (.t 0) (.c (.slice none 0 0)))] [0,4]) <|
 .cond (.t 4) (.seq (.eJ false [.r (some 2) (.mv (.c (.slice none 0 0)))] [2]) <|
 .ret) (.skip)) <|
 .seq (.eJ false [.e (some 5) (.raw ⟨(some 5),(.buildSlice 47 0 #[]),47, "slices.go:362",#[],none⟩),
.r (some 6) (.mv (.t 0)),
.e (some 7) (.ap 52 3 48 #[(.int .i64 0),(.string ⟨#[]⟩),(.slice none 0 0)] (.t 5) (.t 6)),
.r (some 2) (.mv (.t 7))] [2]) <|
 .ret
theorem age:Fits Tryz.prog 32 1 [(0,[0],[]),(1,[0,4],[]),(2,[2],[]),(3,[2],[])] agd [.t 2] 8:=
 ⟨Tryz.f32,_,rfl,rfl,rfl,by decide,by kernel_rfl,by kernel_rfl⟩
def agf:IR:=.seq (.eJ false [.r (some 18) (.bi .lss (.t 17) (.t 16))] [1,15,16,17,18]) <|
 .seq (.cond (.t 18) (.skip) ((.exit 0))) <|
 .seq (.block 1 (.seq (.eJ false [.r (some 19) (.ia 3 (.t 15) (.t 17)),
.r (some 20) (.ln 3 (.t 19)),
.e (some 6) (.al 52 (.agg #[(.int .i64 0),(.string ⟨#[]⟩),(.slice none 0 0)])),
.e none (.st 3 (.t 6) (.t 20))] [1,6,15,16,17]) <|
 .seq (.eJ false [.r (some 21) (.ln 3 (.t 6)),
.e (some 23) (.call 128 [(.t 21),(.t 1)]),
.r (some 24) (.no (.t 23))] [1,15,16,17,24]) <|
 .cond (.t 24) (.seq (.eJ false [.r (some 4) (.mv (.c (.bool false)))] [4]) <|
 .ret) (.skip))) <|
 .eJ false [.r (some 25) (.bi .add (.t 17) (.c (.int .i64 1))),
.r (some 17) (.mv (.t 25))] [1,15,16,17]
end
section
open Go Go.W
theorem EH(t:Ty):∀{w:World} {B:Nat->Prop} {cs:List Value},aR w B cs t->bu Tryz.prog 35 [.agg cs.toArray] w fun r w'=>r=I t.size/\Mod (fun _=>False) w w':=by
 induction t using Ty.ind with
 |h t ih=>
 intro w B cs h;obtain⟨v,rfl,hl⟩:=h.cells;obtain⟨a,c,rfl⟩:=bq hl;refine γ Tryz.f35 ?_;refine σ ?_;refine bZ rfl ?_;intro w1 au ak _;simp only[go_sem,simprocAttr,cell_of au,Value.cells];refine eW t.args.length (fun k ρ w'=>Mod (fun _=>False) w w'/\k<=t.args.length/\∃n,t.size=ly (t.args.drop k) n/\ρ=[(3,I n),(7,.slice a t.args.length c),(8,I t.args.length),(9,I k)]) ⟨ak,by omega,1,t.size_eq,rfl⟩ (dI hl) ?_ ?_ (by decide) ?_
 .rintro k _ w2 ⟨ai,hk,n,he,rfl⟩;exact⟨rfl,rfl,hk⟩
 .rintro k _ w2 ⟨ai,_,n,he,rfl⟩ hk;obtain⟨ad,c,r,e,hr,cG,cR,_⟩:=dT (hl.mod ai aA (fun _ _ h=>h.mod ai aA)) hk;cases e;have b1:(0:Int)<=k/\(k:Int)<t.args.length:=by omega
  simp only[go_sem,simprocAttr,bG,bH,b1,cR];refine eC rfl cG hr.one ?_;intro w3 aS aw _;simp only[go_sem,simprocAttr,aE aS cG];refine δ (by rfl) (ih _ (List.getElem_mem hk) (hr.mod aw aA)) ?_;rintro _ w4 ⟨rfl,aD⟩;refine σ ?_;exact⟨ai.trans (aw.trans aD),hk,_,he.trans (Qb n hk),rfl⟩
 .rintro _ w2 ⟨ai,_,n,he,rfl⟩;refine σ ?_;rw[he,List.drop_length];exact⟨rfl,ai⟩
theorem W4{l:List Ty}{w:World}{B:Nat->Prop}{v:Value}(hl:aX w v 3 B (aR w B) l):bu Tryz.prog 34 [v] w fun r w'=>r=I (ly l 0)/\Mod (fun _=>False) w w':=by
 obtain⟨a,c,rfl⟩:=bq hl;refine γ Tryz.f34 ?_;refine σ ?_;refine eW l.length (fun k ρ w'=>Mod (fun _=>False) w w'/\k<=l.length/\∃n,ly l 0=ly (l.drop k) n/\ρ=[(3,I n),(6,.slice a l.length c),(7,I l.length),(8,I k)]) ⟨.refl _ _,by omega,0,rfl,rfl⟩ (dI hl) ?_ ?_ (by decide) ?_
 .rintro k _ w2 ⟨ai,hk,n,he,rfl⟩;exact⟨rfl,rfl,hk⟩
 .rintro k _ w2 ⟨ai,_,n,he,rfl⟩ hk;obtain⟨ad,c,r,e,hr,cG,cR,_⟩:=dT (hl.mod ai aA (fun _ _ h=>h.mod ai aA)) hk;cases e;have b1:(0:Int)<=k/\(k:Int)<l.length:=by omega
  simp only[go_sem,simprocAttr,bG,bH,b1,cR];refine eC rfl cG hr.one ?_;intro w3 aS aw _;simp only[go_sem,simprocAttr,aE aS cG];refine δ (by rfl) (EH _ (hr.mod aw aA)) ?_;rintro _ w4 ⟨rfl,aD⟩;refine σ ?_;exact⟨ai.trans (aw.trans aD),hk,_,he.trans (Qb n hk),rfl⟩
 .rintro _ w2 ⟨ai,_,n,he,rfl⟩;refine σ ?_;rw[he,List.drop_length];exact⟨rfl,ai⟩
theorem agh(t:Ty):∀{w:World} {B:Nat->Prop} {cs:List Value},aR w B cs t->bu Tryz.prog 108 [.agg cs.toArray] w fun r w'=>r=I t.nodes/\Mod (fun _=>False) w w':=by
 induction t using Ty.ind with
 |h t ih=>
 intro w B cs h;obtain⟨v,rfl,hl⟩:=h.cells;obtain⟨a,c,rfl⟩:=bq hl;refine γ Tryz.f108 ?_;(try simp only[go_sem,simprocAttr]);refine bZ rfl ?_;intro w1 au ak _;(try simp only[go_sem,simprocAttr,cell_of au,Value.cells]);have fin:∀w2 n,Mod (fun _=>False) w w2->nq t.args 1=n->Value.int .i64 (if 501<n then 501 else n)=I t.nodes/\Mod (fun _=>False) w w2:=fun w2 n h1 h2=>by
  rw[t.Qa,h2];exact⟨congrArg I (by rw[Int.min_def];split<;>split<;>omega),h1⟩
 refine eW t.args.length (fun k ρ w'=>Mod (fun _=>False) w w'/\k<=t.args.length/\∃n,nq t.args 1=nq (t.args.drop k) n/\ρ=[(3,I n),(7,.slice a t.args.length c),(8,I t.args.length),(9,I k)]) ⟨ak,by omega,1,rfl,rfl⟩ (dI hl) ?_ ?_ (by decide) ?_
 .rintro k _ w2 ⟨ai,hk,n,he,rfl⟩;exact⟨rfl,rfl,hk⟩
 .rintro k _ w2 ⟨ai,_,n,he,rfl⟩ hk;obtain⟨ad,c,r,e,hr,cG,cR,_⟩:=dT (hl.mod ai aA (fun _ _ h=>h.mod ai aA)) hk;cases e;have b1:(0:Int)<=k/\(k:Int)<t.args.length:=by omega
  (try simp only[go_sem,simprocAttr,bG,bH,b1,cR]);refine eC rfl cG hr.one ?_;intro w3 aS aw _;(try simp only[go_sem,simprocAttr,aE aS cG]);rw[af1 n hk]at he;refine afq rfl (fun sR=>?_) (fun sR=>?_)
  .simp only[Ws,Wt,Wu,bG,Wv]at sR;rw[if_pos sR]at he;(try simp only[go_sem,simprocAttr]);exact fin _ _ (ai.trans aw) he
  simp only[Ws,Wt,Wu,bG,Wv]at sR;rw[if_neg sR]at he;(try simp only[go_sem,simprocAttr,aE aS cG]);refine aL (by rfl) ?_;refine(ih _ (List.getElem_mem hk) (hr.mod aw aA)).mono ?_;rintro _ w4 ⟨rfl,aD⟩;(try simp only[go_sem,simprocAttr]);exact⟨ai.trans (aw.trans aD),hk,_,he,rfl⟩
 .rintro _ w2 ⟨ai,_,n,he,rfl⟩;(try simp only[go_sem,simprocAttr]);rw[List.drop_length]at he;exact fin _ _ ai he
end
section
open Go Go.W
attribute [go_sem] Bool.not_true Bool.not_false
theorem W5{ρ:Env}{c:Nat}{v:Value}{kp:List Nat}(h:c∈kp)(hv:ρ.get c=some v):(ρ.aI kp).get c=some v:=W0 hv h
theorem agi(w:World)(a:Addr):∀(n i:Nat) (acc:Array Value),my w.drew a i n acc=my w a i n acc:=by
 intro n
 induction n with
 |zero=>intro i acc;rfl
 |succ n ih=>intro i acc;simp only[my,Wp,ih]
@[go_sem] theorem cY (w:World) (n:Nat) (v:Value):f' w.drew n v=f' w n v:=by
 cases v with
 |pointer a=>cases a with
  |none=>rfl
  |some a=>show(my _ _ _ _ _).map _=(my _ _ _ _ _).map _;rw[agi]
 |_=>rfl
section
variable {P:Program} {N:Nat} {w:World} {ρ:Env}
theorem og{id:Nat}{a:IR}{next:Env->World->Prop}{Q:Post}(rO:Env->World->Prop)(h:dD P N a (mB id (qN rO Q)) ρ w)(hk:∀ρ w,rO ρ w->next ρ w):dD P N a (mB id (qN next Q)) ρ w:=
 Ew a _ _ (fun e ρ w h=>by
  cases e with
  |normal=>exact hk _ _ h
  |exit oQ=>
   simp only[mB]at h ⊢;by_cases hi:oQ=id
   ·rw[if_pos hi]at h ⊢;exact hk _ _ h
   ·rw[if_neg hi]at h ⊢;exact h
  |_=>exact h) ρ w h
theorem j7{α:Type}{c i n x id EF v p q s sz T:Nat}{z:Value}{W6 rS Ce:List Nat}{body:IR}{Q:Post}{PP:World→List Value→α→Prop}{l:List α}{B:Nat→Prop}{sl:Value}
   (Inv:Nat->Env->World->Prop) (h0:Inv 0 ρ w) {w0:World} {B0:Nat->Prop} {P0:List Value->α->Prop} (qU:aX w0 sl sz B0 P0 l)
   (hI:∀k ρ w,Inv k ρ w->(aX w sl sz B (PP w) l/\k<=l.length)/\ρ.get i=some (.int .i64 k)/\ρ.get n=some (.int .i64 l.length)/\ρ.get s=some sl)
   (iS:∀w r a,PP w r a->∀u∈r,u.oneCell'=true) (hz:z.cells.size=sz)
   (hb:∀k ρ w (hk:k<l.length) w' (r:List Value) (b:Nat) (pv:Value),Inv k ρ w->PP w r l[k]->r.length=sz->w'.heap[b]?=some (.cells r.toArray T (0,0))->Mod (fun _=>False) w w'->w.heap.size<=b ->
    dD P N body (mB EF (fun e ρ' w'=>match e with
    |.normal=>ρ'.get i=some (.int .i64 k)/\Inv (k+1) (Env.aI ((i,.int .i64 ((k+1:Nat):Int))::(x,.int .i64 ((k+1:Nat):Int))::ρ') Ce) w'
    |e=>Q e ρ' w')) (Env.aI ((v,ptr b)::(q,.agg r.toArray)::(p,pv)::Env.aI ((c,.bool true)::ρ) rS) W6) w')
   (he:∀ρ w,Inv l.length ρ w->Q (.exit id) (Env.aI ((c,.bool false)::ρ) rS) w)
   (hc:(c∈rS/\i∈rS/\s∈rS)/\(c≠i/\c≠s/\p≠q/\q≠v):=by decide) :
   dD P N (.loop (.seq (.eJ false [.r (some c) (.bi .lss (.t i) (.t n))] rS) (.seq (.cond (.t c) .skip (.exit id)) (.seq (.block EF (.seq (.eJ false [.r (some p) (.ia sz (.t s) (.t i)),.r (some q) (.ln sz (.t p)),.e (some v) (.al T z),.e none (.st sz (.t v) (.t q))] W6) body))
    (.eJ false [.r (some x) (.bi .add (.t i) (.c (.int .i64 1))),.r (some i) (.mv (.t x))] Ce))))) Q ρ w:=by
 obtain⟨⟨hc,hi,hs⟩,nc,ns,npq,nqv⟩:=hc;refine eW l.length Inv h0 (dI qU) (fun k ρ w h=>⟨(hI k ρ w h).2.1,(hI k ρ w h).2.2.1,(hI k ρ w h).1.2⟩) ?_ hc he;intro k ρ w h hk;obtain⟨⟨hl,_⟩,g1,g2,g3⟩:=hI k ρ w h;obtain⟨ad,cp,r,e,hr,xn,cR,_⟩:=dT hl hk;have e1:(Env.aI ((c,.bool true)::ρ) rS).get i=some (.int .i64 k):=W5 hi (by rw[AA,if_neg nc];exact g1);have e2:(Env.aI ((c,.bool true)::ρ) rS).get s=some sl:=W5 hs (by rw[AA,if_neg ns];exact g3);rw[afo,afp];refine⟨.pointer (some (ad.add (k*sz))),?_,.agg r.toArray,?_,?_⟩
 .show(O.ev _ _).bind _=_;rw[GW,e2,Option.bind_some,GW,e1,Option.bind_some,e];show(if(0:Int)<=(k:Int)/\(k:Int)<(l.length:Nat)then _ else none)=_;rw[if_pos ⟨by omega,by omega⟩,Int.toNat_natCast]
 .show(O.ev _ _).bind _=_;rw[GW,afu,AA,if_pos rfl,Option.bind_some];exact cR
 .show E.wp _ _ _ _ _;refine eC (z:=z) (n:=sz) (T:=T) (vs:=r) (y:=.t v) (ρ':=fun u=>(v,u)::(q,.agg r.toArray)::(p,.pointer (some (ad.add (k*sz))))::Env.aI ((c,.bool true)::ρ) rS) (K:=fun _ _ w'=>_) ?_ xn (iS _ _ _ hr) ?_ ?_ hz
  .rw[GW,AA,if_neg (Ne.symm nqv),AA,if_pos rfl]
  .intro w' ky hm _;exact hb k ρ w hk w' r _ _ h hr xn ky hm (Nat.le_refl _)
  .rw[GW,AA,if_pos rfl]
end
end
section
open Go Go.W
end
end Go.Proofs.YtekkkjbjnhipkaaGreatDoor
namespace Go.Proofs
section
open Go.Shelf
def Tryz.agj:Go.Shelf.Ren:=⟨fun |171=>129 |243=>138 |246=>141 |283=>145 |284=>146 |285=>147 |286=>148 |129=>154 |317=>153 |318=>155 |319=>156 |320=>157 |337=>163 |338=>164 |n=>n,fun |3=>3 |9=>9 |2=>2 |4=>4 |171=>245 |0=>0 |53=>246 |37=>184 |5=>5 |173=>249 |212=>256 |51=>257 |20=>20 |213=>258 |46=>234 |232=>268 |233=>269 |n=>n,fun |17=>1 |18=>4 |19=>5 |n=>n⟩
theorem Tryz.agk:Go.Proofs.Lays.n171 Tryz.prog Tryz.agj:={
 mixed:=by kernel_rfl
 f129:=Tryz.func154.trans (congrArg some (by kernel_rfl))
 f171:=Tryz.func129.trans (congrArg some (by kernel_rfl))
 f243:=Tryz.func138.trans (congrArg some (by kernel_rfl))
 f246:=Tryz.func141.trans (congrArg some (by kernel_rfl))
 f283:=Tryz.func145.trans (congrArg some (by kernel_rfl))
 f284:=Tryz.func146.trans (congrArg some (by kernel_rfl))
 f285:=Tryz.func147.trans (congrArg some (by kernel_rfl))
 f286:=Tryz.func148.trans (congrArg some (by kernel_rfl))
 f317:=Tryz.func153.trans (congrArg some (by kernel_rfl))
 f318:=Tryz.func155.trans (congrArg some (by kernel_rfl))
 f319:=Tryz.func156.trans (congrArg some (by kernel_rfl))
 f320:=Tryz.func157.trans (congrArg some (by kernel_rfl))
 f337:=Tryz.func163.trans (congrArg some (by kernel_rfl))
 f338:=Tryz.func164.trans (congrArg some (by kernel_rfl))
 t0:=Tryz.underlying0
 a0:=Tryz.isAgg0
 z0:=Tryz.sizeOf0
 v0:=Tryz.zeroValue0
 t2:=Tryz.underlying2
 a2:=Tryz.isAgg2
 z2:=Tryz.sizeOf2
 v2:=Tryz.zeroValue2
 t3:=Tryz.underlying3
 a3:=Tryz.isAgg3
 z3:=Tryz.sizeOf3
 v3:=Tryz.zeroValue3
 t4:=Tryz.underlying4
 a4:=Tryz.isAgg4
 z4:=Tryz.sizeOf4
 v4:=Tryz.zeroValue4
 t5:=Tryz.underlying5
 a5:=Tryz.isAgg5
 z5:=Tryz.sizeOf5
 v5:=Tryz.zeroValue5
 t9:=Tryz.underlying9
 a9:=Tryz.isAgg9
 z9:=Tryz.sizeOf9
 v9:=Tryz.zeroValue9
 t20:=Tryz.underlying20
 a20:=Tryz.isAgg20
 z20:=Tryz.sizeOf20
 v20:=Tryz.zeroValue20
 t37:=Tryz.underlying184
 a37:=Tryz.isAgg184
 z37:=Tryz.sizeOf184
 v37:=Tryz.zeroValue184
 t46:=Tryz.underlying234
 a46:=Tryz.isAgg234
 z46:=Tryz.sizeOf234
 v46:=Tryz.zeroValue234
 t51:=Tryz.underlying257
 a51:=Tryz.isAgg257
 z51:=Tryz.sizeOf257
 v51:=Tryz.zeroValue257
 t53:=Tryz.underlying246
 a53:=Tryz.isAgg246
 z53:=Tryz.sizeOf246
 v53:=Tryz.zeroValue246
 t171:=Tryz.underlying245
 a171:=Tryz.isAgg245
 z171:=Tryz.sizeOf245
 v171:=Tryz.zeroValue245
 t173:=Tryz.underlying249
 a173:=Tryz.isAgg249
 z173:=Tryz.sizeOf249
 v173:=Tryz.zeroValue249
 t212:=Tryz.underlying256
 a212:=Tryz.isAgg256
 z212:=Tryz.sizeOf256
 v212:=Tryz.zeroValue256
 t213:=Tryz.underlying258
 a213:=Tryz.isAgg258
 z213:=Tryz.sizeOf258
 t232:=Tryz.underlying268
 a232:=Tryz.isAgg268
 z232:=Tryz.sizeOf268
 v232:=Tryz.zeroValue268
 t233:=Tryz.underlying269
 a233:=Tryz.isAgg269
 z233:=Tryz.sizeOf269
 v233:=Tryz.zeroValue269
 g17:=by kernel_rfl
 g18:=by kernel_rfl
 g19:=by kernel_rfl}
def Tryz.agl:Go.Shelf.Ren:=⟨fun |221=>140 |268=>142 |138=>143 |143=>144 |195=>149 |197=>150 |218=>151 |219=>152 |260=>158 |217=>159 |225=>160 |224=>161 |267=>162 |266=>165 |314=>166 |n=>n,fun |9=>9 |3=>3 |31=>42 |4=>4 |0=>0 |105=>252 |21=>21 |5=>5 |46=>234 |119=>262 |139=>265 |138=>264 |146=>266 |51=>257 |n=>n,fun |1=>0 |3=>2 |4=>3 |n=>n⟩
theorem Tryz.Qc:Go.Proofs.Lays.n221 Tryz.prog Tryz.agl:={
 mixed:=by kernel_rfl
 f138:=Tryz.func143.trans (congrArg some (by kernel_rfl))
 f143:=Tryz.func144.trans (congrArg some (by kernel_rfl))
 f195:=Tryz.func149.trans (congrArg some (by kernel_rfl))
 f197:=Tryz.func150.trans (congrArg some (by kernel_rfl))
 f217:=Tryz.func159.trans (congrArg some (by kernel_rfl))
 f218:=Tryz.func151.trans (congrArg some (by kernel_rfl))
 f219:=Tryz.func152.trans (congrArg some (by kernel_rfl))
 f221:=Tryz.func140.trans (congrArg some (by kernel_rfl))
 f224:=Tryz.func161.trans (congrArg some (by kernel_rfl))
 f225:=Tryz.func160.trans (congrArg some (by kernel_rfl))
 f260:=Tryz.func158.trans (congrArg some (by kernel_rfl))
 f266:=Tryz.func165.trans (congrArg some (by kernel_rfl))
 f267:=Tryz.func162.trans (congrArg some (by kernel_rfl))
 f268:=Tryz.func142.trans (congrArg some (by kernel_rfl))
 f314:=Tryz.func166.trans (congrArg some (by kernel_rfl))
 t0:=Tryz.underlying0
 a0:=Tryz.isAgg0
 z0:=Tryz.sizeOf0
 v0:=Tryz.zeroValue0
 t3:=Tryz.underlying3
 a3:=Tryz.isAgg3
 z3:=Tryz.sizeOf3
 v3:=Tryz.zeroValue3
 t4:=Tryz.underlying4
 a4:=Tryz.isAgg4
 z4:=Tryz.sizeOf4
 v4:=Tryz.zeroValue4
 t5:=Tryz.underlying5
 a5:=Tryz.isAgg5
 z5:=Tryz.sizeOf5
 v5:=Tryz.zeroValue5
 t9:=Tryz.underlying9
 a9:=Tryz.isAgg9
 z9:=Tryz.sizeOf9
 v9:=Tryz.zeroValue9
 t21:=Tryz.underlying21
 a21:=Tryz.isAgg21
 z21:=Tryz.sizeOf21
 v21:=Tryz.zeroValue21
 t31:=Tryz.underlying42
 a31:=Tryz.isAgg42
 z31:=Tryz.sizeOf42
 v31:=Tryz.zeroValue42
 t46:=Tryz.underlying234
 a46:=Tryz.isAgg234
 z46:=Tryz.sizeOf234
 v46:=Tryz.zeroValue234
 t51:=Tryz.underlying257
 a51:=Tryz.isAgg257
 z51:=Tryz.sizeOf257
 v51:=Tryz.zeroValue257
 t105:=Tryz.underlying252
 a105:=Tryz.isAgg252
 z105:=Tryz.sizeOf252
 v105:=Tryz.zeroValue252
 t119:=Tryz.underlying262
 a119:=Tryz.isAgg262
 z119:=Tryz.sizeOf262
 t138:=Tryz.underlying264
 a138:=Tryz.isAgg264
 z138:=Tryz.sizeOf264
 v138:=Tryz.zeroValue264
 t139:=Tryz.underlying265
 a139:=Tryz.isAgg265
 z139:=Tryz.sizeOf265
 v139:=Tryz.zeroValue265
 t146:=Tryz.underlying266
 a146:=Tryz.isAgg266
 z146:=Tryz.sizeOf266
 v146:=Tryz.zeroValue266
 g1:=by kernel_rfl
 g3:=by kernel_rfl
 g4:=by kernel_rfl}
def Tryz.W7:Go.Shelf.Ren:=⟨fun |156=>59 |165=>85 |166=>86 |169=>84 |240=>110 |241=>111 |276=>125 |277=>126 |n=>n,fun |31=>42 |9=>9 |3=>3 |4=>4 |0=>0 |20=>20 |72=>186 |76=>192 |70=>183 |37=>184 |75=>191 |127=>215 |164=>231 |5=>5 |80=>189 |n=>n,fun |n=>n⟩
theorem Tryz.agm:Go.Proofs.Lays.n156 Tryz.prog Tryz.W7:={
 mixed:=by kernel_rfl
 f156:=Tryz.func59.trans (congrArg some (by kernel_rfl))
 f165:=Tryz.func85.trans (congrArg some (by kernel_rfl))
 f166:=Tryz.func86.trans (congrArg some (by kernel_rfl))
 f169:=Tryz.func84.trans (congrArg some (by kernel_rfl))
 f240:=Tryz.func110.trans (congrArg some (by kernel_rfl))
 f241:=Tryz.func111.trans (congrArg some (by kernel_rfl))
 f276:=Tryz.func125.trans (congrArg some (by kernel_rfl))
 f277:=Tryz.func126.trans (congrArg some (by kernel_rfl))
 t0:=Tryz.underlying0
 a0:=Tryz.isAgg0
 z0:=Tryz.sizeOf0
 v0:=Tryz.zeroValue0
 t3:=Tryz.underlying3
 a3:=Tryz.isAgg3
 z3:=Tryz.sizeOf3
 v3:=Tryz.zeroValue3
 t4:=Tryz.underlying4
 a4:=Tryz.isAgg4
 z4:=Tryz.sizeOf4
 v4:=Tryz.zeroValue4
 t9:=Tryz.underlying9
 a9:=Tryz.isAgg9
 z9:=Tryz.sizeOf9
 v9:=Tryz.zeroValue9
 t20:=Tryz.underlying20
 a20:=Tryz.isAgg20
 z20:=Tryz.sizeOf20
 v20:=Tryz.zeroValue20
 t31:=Tryz.underlying42
 a31:=Tryz.isAgg42
 z31:=Tryz.sizeOf42
 v31:=Tryz.zeroValue42
 t37:=Tryz.underlying184
 a37:=Tryz.isAgg184
 z37:=Tryz.sizeOf184
 v37:=Tryz.zeroValue184
 t70:=Tryz.underlying183
 a70:=Tryz.isAgg183
 z70:=Tryz.sizeOf183
 v70:=Tryz.zeroValue183
 t72:=Tryz.underlying186
 a72:=Tryz.isAgg186
 z72:=Tryz.sizeOf186
 v72:=Tryz.zeroValue186
 t75:=Tryz.underlying191
 a75:=Tryz.isAgg191
 z75:=Tryz.sizeOf191
 v75:=Tryz.zeroValue191
 t76:=Tryz.underlying192
 a76:=Tryz.isAgg192
 z76:=Tryz.sizeOf192
 v76:=Tryz.zeroValue192
 t127:=Tryz.underlying215
 a127:=Tryz.isAgg215
 z127:=Tryz.sizeOf215
 v127:=Tryz.zeroValue215
 t164:=Tryz.underlying231
 a164:=Tryz.isAgg231
 z164:=Tryz.sizeOf231
 v164:=Tryz.zeroValue231}
theorem Tryz.strconv_Itoa_small(i:Nat)(hi:i < 100)(w:World) :
   Calls Tryz.prog 129 #[.int .i64 i] w fun e w'=>e=.returned (.string ⟨(Lib.decDigits i).toArray⟩)/\w'=w:=Any.strconv_Itoa_small Tryz.agk i hi w
end
end Go.Proofs
namespace Go.Proofs.YtekkkjbjnhipkaaGreatDoor
section
open Go Go.W
abbrev By(c:UInt8):Value:=.int .u8 c.toNat
def EI(c:UInt8):Bool:=decide ((97:Int)<=c.toNat)&&decide ((c.toNat:Int)<=122)
def EJ(c:UInt8):Bool:=decide ((65:Int)<=c.toNat)&&decide ((c.toNat:Int)<=90)
def yV(c:UInt8):Bool:=EI c||EJ c||(decide ((48:Int)<=c.toNat)&&decide ((c.toNat:Int)<=57))||((c.toNat:Int)==95)||((c.toNat:Int)==39)
def AF(p:UInt8->Bool)(s:ByteArray):Bool:=decide (∀i,∀h:i<s.size,p s[i]=true)
abbrev EK(s:ByteArray):Bool:=AF yV s
def xo(c:UInt8):Bool:=!(decide ((c.toNat:Int)<32)||decide ((c.toNat:Int)>126))
def nr(s:ByteArray):Bool:=AF xo s&&(decide ((s.size:Int)>=1)&&decide ((s.size:Int)<=4096))
def bw(a b:ByteArray):Bool:=a.toList == b.toList
def xp(s:ByteArray):Bool:=!(bw s ⟨#[]⟩)&&decide ((s.size:Int)<=4096)&&(if h:0<s.size then EI s[0]else false)&&EK s
theorem W8(c:UInt8){w:World}:bu Tryz.prog 133 [By c] w fun r w'=>r=.bool (EI c)/\w=w':=by
 refine γ Tryz.f133 ?_;refine σ ?_;cases h:decide ((97:Int)<=c.toNat)<;>simp only[go_sem,simprocAttr,EI,h]<;>rfl
theorem W9(c:UInt8){w:World}:bu Tryz.prog 136 [By c] w fun r w'=>r=.bool (EJ c)/\w=w':=by
 refine γ Tryz.f136 ?_;refine σ ?_;cases h:decide ((65:Int)<=c.toNat)<;>simp only[go_sem,simprocAttr,EJ,h]<;>rfl
theorem agn(c:UInt8){w:World}:bu Tryz.prog 139 [By c] w fun r w'=>r=.bool (yV c)/\w=w':=by
 refine γ Tryz.f139 ?_;(try simp only[go_sem,simprocAttr]);refine aL (by rfl) ?_;refine(W8 c).mono ?_;rintro _ _ ⟨rfl,rfl⟩;have fin:∀b:Bool,yV c=b->(Value.bool b=.bool (yV c)/\w=w):=fun b h=>⟨congrArg _ h.symm,rfl⟩
 cases h1:EI c with
 |true=>(try simp only[go_sem,simprocAttr]);exact(fin true (by simp[yV,h1])).1
 |false=>
  (try simp only[go_sem,simprocAttr]);refine aL (by rfl) ?_;refine(W9 c).mono ?_;rintro _ _ ⟨rfl,rfl⟩;cases h2:EJ c with
  |true=>(try simp only[go_sem,simprocAttr]);exact(fin true (by simp[yV,h1,h2])).1
  |false=>
   (try simp only[go_sem,simprocAttr]);cases h3:decide ((48:Int)<=c.toNat)<;>(try simp only[go_sem,simprocAttr,h3])<;>cases h4:decide ((c.toNat:Int)<=57)<;>(try simp only[go_sem,simprocAttr,h4])<;>cases h5:((c.toNat:Int)==95)<;>(try simp only[go_sem,simprocAttr,h5])<;>exact congrArg _ (by simp[yV,h1,h2,h3,h4,h5])
theorem AG{s:ByteArray}{i:Nat}(h:i<s.size):s[i]?=some s[i]:=getElem?_pos s i h
theorem Xa(s:ByteArray)(hs:s.size<9223372036854775807){w:World}:bu Tryz.prog 134 [.string s] w fun r w'=>r=.bool (EK s)/\w=w':=by
 refine γ Tryz.f134 ?_;refine σ ?_;refine eW s.size (fun k ρ w'=>w=w'/\k<=s.size/\(∀i,∀h:i<s.size,i<k->yV s[i]=true)/\ρ=[(0,.string s),(5,I s.size),(6,I k)]) ⟨rfl,by omega,fun i _ hi=>absurd hi (by omega),rfl⟩ hs ?_ ?_ (by decide) ?_
 .rintro k _ w2 ⟨rfl,hk,_,rfl⟩;exact⟨rfl,rfl,hk⟩
 .rintro k _ w2 ⟨rfl,_,ha,rfl⟩ hk;have b1:(0:Int)<=k:=by omega
  simp only[go_sem,simprocAttr,bG,bH,b1,AG hk];refine δ (by rfl) (agn s[k]) ?_;rintro _ _ ⟨rfl,rfl⟩;cases h:yV s[k]with
  |true=>
   refine σ ?_;refine⟨hk,fun i hi hik=>?_⟩;rcases Nat.lt_or_ge i k with h1 |h1
   .exact ha i hi h1
   .have:i=k:=by omega
    subst this;exact h
  |false=>
   refine σ ?_;refine congrArg _ ?_;rw[EK,AF,eq_comm,decide_eq_false_iff_not];intro hh;rw[hh k hk]at h;cases h
 .rintro _ w2 ⟨rfl,_,ha,rfl⟩;refine σ ?_;refine congrArg _ ?_;rw[EK,AF,eq_comm,decide_eq_true_eq];exact fun i hi=>ha i hi hi
theorem KU(s:ByteArray)(hs:Nm s){w:World}:bu Tryz.prog 52 [.string s] w fun r w'=>r=.bool (nr s)/\w=w':=by
 refine γ Tryz.f52 ?_;refine σ ?_;refine eW s.size (fun k ρ w'=>w=w'/\k<=s.size/\(∀i,∀h:i<s.size,i<k->xo s[i]=true)/\ρ=[(0,.string s),(5,I s.size),(6,I k)]) ⟨rfl,by omega,fun i _ hi=>absurd hi (by omega),rfl⟩ (by omega) ?_ ?_ (by decide) ?_
 .rintro k _ w2 ⟨rfl,hk,_,rfl⟩;exact⟨rfl,rfl,hk⟩
 .rintro k _ w2 ⟨rfl,_,ha,rfl⟩ hk;have b1:(0:Int)<=k:=by omega
  have gZ:xo s[k]=true->∀i,∀h:i<s.size,i<k+1->xo s[i]=true:=fun h i hi hik=>by
   rcases Nat.lt_or_ge i k with h1 |h1
   .exact ha i hi h1
   .have:i=k:=by omega
    subst this;exact h
  have bad:xo s[k]=false->Value.bool false=Value.bool (nr s):=fun h=>by
   have:AF xo s=false:=by
    rw[AF,decide_eq_false_iff_not];intro hh;rw[hh k hk]at h;cases h
   rw[nr,this];rfl
  simp only[go_sem,simprocAttr,bG,bH,b1,AG hk];cases h1:decide ((s[k].toNat:Int)<32)with
  |true=>simp only[go_sem,simprocAttr,bG,bH,b1,AG hk];exact bad (by simp[xo,h1])
  |false=>
   simp only[go_sem,simprocAttr,bG,bH,b1,AG hk];cases h2:decide ((s[k].toNat:Int)>126)with
   |true=>simp only[go_sem,simprocAttr,bG,bH,b1,AG hk];exact bad (by simp[xo,h1,h2])
   |false=>simp only[go_sem,simprocAttr,bG,bH,b1,AG hk];exact⟨hk,gZ (by simp[xo,h1,h2])⟩
 .rintro _ w2 ⟨rfl,_,ha,rfl⟩;have:AF xo s=true:=by rw[AF,decide_eq_true_eq];exact fun i hi=>ha i hi hi
  refine σ ?_;cases h1:decide ((s.size:Int)>=1)with
  |true=>simp only[go_sem,simprocAttr,nr,this,h1]
  |false=>simp only[go_sem,simprocAttr,nr,this,h1,Bool.false_and]
theorem ago(s:ByteArray){w:World}:bu Tryz.prog 121 [.string s] w fun r w'=>r=.bool (xp s)/\w=w':=by
 refine γ Tryz.f121 ?_;refine σ ?_;cases h1:s.toList == ByteArray.toList ⟨#[]⟩with
 |true=>simp only[go_sem,simprocAttr,xp,bw,h1,Bool.false_and]
 |false=>
  refine σ ?_;cases h2:decide ((s.size:Int)<=4096)with
  |false=>simp only[go_sem,simprocAttr,xp,bw,h1,h2,Bool.and_false,Bool.false_and]
  |true=>
   have hp:0<s.size:=by
    rcases Nat.eq_zero_or_pos s.size with h |h
    .exfalso;have:s=⟨#[]⟩:=by
      cases s with |mk d=>congr 1;exact Array.eq_empty_of_size_eq_zero h
     rw[this]at h1;simp at h1
    .exact h
   have h3:s[0]?=some s[0]:=AG hp;have b0:(0:Int)<=0:=by omega
   simp only[go_sem,simprocAttr,bG,bH,b0,h3];refine δ (by rfl) (W8 s[0]) ?_;rintro _ _ ⟨rfl,rfl⟩;cases h4:EI s[0]with
   |false=>simp only[go_sem,simprocAttr,xp,bw,h1,h2,h4,hp,dif_pos,Bool.and_false,Bool.false_and]
   |true=>
    refine σ ?_;refine δ (by rfl) (Xa s (by have:=of_decide_eq_true h2;omega)) ?_;rintro _ _ ⟨rfl,rfl⟩;simp only[go_sem,simprocAttr,xp,bw,h1,h2,h4,hp,dif_pos,Bool.true_and]
end
section
open Go Go.W
def oX:ByteArray:=⟨#[46]⟩
def jF(s:ByteArray):List ByteArray:=Lib.splitB oX 0 (Lib.countB s oX) s
theorem Xb(sep:ByteArray)(save:Nat):∀(k:Nat) (s:ByteArray),∀p∈Lib.splitB sep save k s,p.size<=s.size
 |0,s,p,h=>by
  rw[Lib.splitB_zero,List.mem_singleton]at h;rw[h];exact Nat.le_refl _
 |k+1,s,p,h=>by
  unfold Lib.splitB at h
  split at h
  .rw[List.mem_singleton]at h;rw[h];exact Nat.le_refl _
  .rcases List.mem_cons.1 h with h |h
   .rw[h,ByteArray.size_extract];omega
   .have:=Xb sep save k _ p h;rw[ByteArray.size_extract]at this;omega
def tU(p:ByteArray):Bool:=!(bw p ⟨#[]⟩)&&(if h:0<p.size then EJ p[0]else false)&&EK p
def xq(s:ByteArray):Bool:=!(decide ((s.size:Int)>4096)||bw s ⟨#[73,110,116]⟩)&&((jF s).all tU&&decide (((jF s).length:Int)<=2))
theorem agp(s:ByteArray)(hs:s.size≤4096){w:World}:bu Tryz.prog 135 [.string s,.string oX] w fun r w'=>r = .slice (some ⟨w.heap.size,0,none⟩) (jF s).length (jF s).length ∧
   w'.heap[w.heap.size]?=some (.cells ((jF s).map Value.string).toArray 9 (0,0))/\Mod (fun _=>False) w w':=by
 refine γ Tryz.f135 ?_;refine σ ?_;refine aL (by rfl) ?_;have hlen:=Lib.splitB_all oX (by decide) 0 _ s rfl;have c:=Any.strings_genSplit_core Tryz.Qc (by kernel_rfl) s oX 0 (-1) (Lib.countB s oX+1) w (by omega) (by decide) (by decide)
  (fun x c hx=>(Any.strings_Index_one { Tryz.Qc with} x 46 _).mono (fun e w' h=>⟨by rw[h.1,Lib.indexB,<- Lib.index_one];rfl,h.2⟩))
  ((Any.strings_Count_one { Tryz.Qc with} s 46 w).mono (fun e w' h=>⟨by rw[h.1,Lib.countB];exact congrArg (fun n:Nat=>Ending.returned (.int .i64 (n:Int))) (Lib.count_one _ _).symm,h.2⟩)) (by decide) (by decide) (by
   have:=Lib.countB_le oX (by decide) s.size s (Nat.le_refl _)
   rw[if_pos (by decide)];omega)
 rw[Nat.add_sub_cancel]at c;refine Calls.mono c ?_;rintro e w' ⟨rfl,rfl⟩;refine⟨_,rfl,?_⟩;refine σ ?_;have e1:jF s=Lib.splitB oX 0 (Lib.countB s oX) s:=rfl;rw[e1];have e2:Lib.cellsOf (Lib.splitB oX 0 (Lib.countB s oX) s) (Lib.countB s oX+1)=((Lib.splitB oX 0 (Lib.countB s oX) s).map Value.string).toArray:=by
  rw[<- hlen];exact Lib.cellsOf_full _
 rw[e2,hlen];exact⟨rfl,heap_alloc_new w _,AB _ w _⟩
theorem agq(s:ByteArray){w:World}:bu Tryz.prog 122 [.string s] w fun r w'=>r=.bool (xq s)/\Mod (fun _=>False) w w':=by
 refine γ Tryz.f122 ?_;refine σ ?_;cases h1:decide ((s.size:Int)>4096)with
 |true=>simp only[go_sem,simprocAttr,xq,h1,Bool.true_or,Bool.false_and];exact .refl _ _
 |false=>
  refine σ ?_;cases h2:s.toList == ByteArray.toList ⟨#[73,110,116]⟩with
  |true=>simp only[go_sem,simprocAttr,xq,bw,h1,h2,Bool.or_true,Bool.false_and];exact .refl _ _
  |false=>
   refine σ ?_;have hs:s.size<=4096:=by have:=of_decide_eq_false h1;omega
   have hd:xq s=((jF s).all tU&&decide (((jF s).length:Int)<=2)):=by
    rw[xq,bw,h1,h2];rfl
   refine δ (by rfl) (agp s hs) ?_;rintro _ w1 ⟨rfl,hb,ak⟩;refine σ ?_;refine eW (jF s).length (fun k ρ w'=>w1=w'/\k<=(jF s).length/\(∀i,∀h:i<(jF s).length,i<k->tU (jF s)[i]=true)/\ρ=[(3,.slice (some ⟨w.heap.size,0,none⟩) (jF s).length (jF s).length),(15,.slice (some ⟨w.heap.size,0,none⟩) (jF s).length (jF s).length),(16,I (jF s).length),(17,I k)])
    ⟨rfl,by omega,fun i _ hi=>absurd hi (by omega),rfl⟩ (by
     have:=Lib.splitB_all oX (by decide) 0 _ s rfl;have h2:=Lib.countB_le oX (by decide) s.size s (Nat.le_refl _)
     rw[jF];omega) ?_ ?_ (by decide) ?_
   .rintro k _ w2 ⟨rfl,hk,_,rfl⟩;exact⟨rfl,rfl,hk⟩
   .rintro k _ w2 ⟨rfl,_,ha,rfl⟩ hk;have b1:(0:Int)<=k/\(k:Int)<(jF s).length:=by omega
    have hc:=cell_of hb k;rw[List.getElem?_toArray,List.getElem?_map,Ξ hk,Option.map_some]at hc;have bV:=Xb oX 0 _ s _ (List.getElem_mem hk);have gZ:tU (jF s)[k]=true->∀i,∀h:i<(jF s).length,i<k+1->tU (jF s)[i]=true:=fun h i hi hik=>by
     rcases Nat.lt_or_ge i k with h1 |h1
     .exact ha i hi h1
     .have:i=k:=by omega
      subst this;exact h
    have bad:tU (jF s)[k]=false->Value.bool false=Value.bool (xq s)/\Mod (fun _=>False) w w1:=fun h=>by
     refine⟨?_,ak⟩;rw[hd];have:(jF s).all tU=false:=by
      rw[List.all_eq_false];exact⟨_,List.getElem_mem hk,by rw[h];simp⟩
     rw[this];rfl
    simp only[go_sem,simprocAttr,bG,bH,b1,hc];generalize hx:(jF s)[k]=x at gZ bad bV;cases h3:x.toList == ByteArray.toList ⟨#[]⟩with
    |true=>refine σ ?_;exact bad (by rw[tU,bw,h3];rfl)
    |false=>
     have hp:0<x.size:=by
      rcases Nat.eq_zero_or_pos x.size with h |h
      .exfalso;have:x=⟨#[]⟩:=by
        cases x with |mk d=>congr 1;exact Array.eq_empty_of_size_eq_zero h
       rw[this]at h3;simp at h3
      .exact h
     have h0:x[0]?=some x[0]:=AG hp;have b0:(0:Int)<=0:=by omega
     simp only[go_sem,simprocAttr,bG,bH,b0,h0];refine δ (by rfl) (W9 x[0]) ?_;rintro _ _ ⟨rfl,rfl⟩;cases h4:EJ x[0]with
     |false=>refine σ ?_;exact bad (by simp[tU,h4])
     |true=>
      refine σ ?_;refine δ (by rfl) (Xa x (by omega)) ?_;rintro _ _ ⟨rfl,rfl⟩;cases h5:EK x with
      |false=>refine σ ?_;exact bad (by rw[tU,h5,Bool.and_false])
      |true=>refine σ ?_;exact⟨hk,gZ (by rw[tU,bw,h3,dif_pos hp,h4,h5];rfl)⟩
   .rintro _ w2 ⟨rfl,_,ha,rfl⟩;have:(jF s).all tU=true:=by
     rw[List.all_eq_true];intro x hx;obtain⟨i,hi,rfl⟩:=List.getElem_of_mem hx;exact ha i hi hi
    simp only[go_sem,simprocAttr,hd,this,Bool.true_and];exact ak
end
section
open Go Go.W
def EL(f:FuncId)(cap:Array Value)(val:List Value->Value){α:Type}(PP:World->List Value->α->Prop)(p:α->Bool)(l:List α)(w:World):Prop:=
 ∀(w':World) (r:List Value) (a:α),a∈l->Mod (fun _=>False) w w'->PP w' r a->bu Tryz.prog f (val r::cap.toList) w' fun x eI=>x=.bool (p a)/\Mod (fun _=>False) w' eI
def Cg(r:List Value):Value:=.agg r.toArray
structure Fn (f:FuncId):Prop where
 ok:∃fn:Func,Tryz.prog.funcs[f]?=some fn/\fn.body.isSome=true/\(fn.name == "runtime.NumGoroutine")=false
theorem agr{α:Type}{l:List α}{w:World}{v:Value}{B:Nat→Prop}{PP:World→List Value→α→Prop}(hl:aX w v 3 B (PP w) l)(iE:∀ w w' r a,PP w r a→Mod (fun _=>False) w w'→PP w' r a)
   {f:FuncId} {cap:Array Value} {p:α->Bool} (ej:Fn f) (hf:EL f cap Cg PP p l w) :
   bu Tryz.prog 137 [v,.func (.func f) #[] cap] w fun r w'=>(∃n:Int,r=I n/\decide (n>=0)=l.any p)/\Mod (fun _=>False) w w':=by
 obtain⟨fn,ej,jl,kR⟩:=ej.ok;obtain⟨a,c,rfl⟩:=bq hl;refine γ Tryz.f137 ?_;refine σ ?_;refine eW l.length (fun k ρ w'=>Mod (fun _=>False) w w'/\k<=l.length/\(∀i,∀h:i<l.length,i<k->p l[i]=false)/\ρ=[(0,.slice a l.length c),(1,.func (.func f) #[] cap),(7,I l.length),(8,I k)]) ⟨.refl _ _,by omega,fun i _ hi=>absurd hi (by omega),rfl⟩ (dI hl) ?_ ?_ (by decide) ?_
 .rintro k _ w2 ⟨ai,hk,_,rfl⟩;exact⟨rfl,rfl,hk⟩
 .rintro k _ w2 ⟨ai,_,ha,rfl⟩ hk;obtain⟨ad,c,r,e,hr,cG,cR,_⟩:=dT (hl.mod ai aA (fun _ _ h=>iE _ _ _ _ h ai)) hk;cases e;have b1:(0:Int)<=k/\(k:Int)<l.length:=by omega
  simp only[go_sem,simprocAttr,bG,bH,b1,cR];refine Cb rfl (by rfl) ej jl kR ?_;refine(hf w2 r l[k] (List.getElem_mem hk) ai hr).mono ?_;rintro _ w3 ⟨rfl,aw⟩;cases h:p l[k]with
  |true=>
   refine σ ?_;refine⟨⟨_,rfl,?_⟩,ai.trans aw⟩;rw[List.any_eq_true.2 ⟨_,List.getElem_mem hk,h⟩];exact decide_eq_true (by omega)
  |false=>
   refine σ ?_;refine⟨ai.trans aw,hk,fun i hi hik=>?_⟩;rcases Nat.lt_or_ge i k with h1 |h1
   .exact ha i hi h1
   .have:i=k:=by omega
    subst this;exact h
 .rintro _ w2 ⟨ai,_,ha,rfl⟩;refine σ ?_;refine⟨⟨_,rfl,?_⟩,ai⟩;rw[List.any_eq_false.2 (fun x hx=>by obtain⟨i,hi,rfl⟩:=List.getElem_of_mem hx;rw[ha i hi hi];simp)];rfl
theorem ags{α:Type}{l:List α}{w:World}{v:Value}{B:Nat→Prop}{PP:World→List Value→α→Prop}(hl:aX w v 3 B (PP w) l)(iE:∀ w w' r a,PP w r a→Mod (fun _=>False) w w'→PP w' r a)
   {f:FuncId} {cap:Array Value} {p:α->Bool} (ej:Fn f) (hf:EL f cap Cg PP p l w) :
   bu Tryz.prog 123 [v,.func (.func f) #[] cap] w fun r w'=>r=.bool (l.any p)/\Mod (fun _=>False) w w':=by
 refine γ Tryz.f123 ?_;refine σ ?_;refine δ (by rfl) (agr hl iE ej hf) ?_;rintro _ w' ⟨⟨n,rfl,hn⟩,hm⟩;refine σ ?_;exact⟨congrArg _ hn,hm⟩
theorem agt{α:Type}{l:List α}{w:World}{v:Value}{B:Nat→Prop}{PP:World→List Value→α→Prop}(hl:aX w v 2 B (PP w) l)(iE:∀ w w' r a,PP w r a→Mod (fun _=>False) w w'→PP w' r a)
   {f:FuncId} {cap:Array Value} {p:α->Bool} (ej:Fn f) (hf:EL f cap Cg PP p l w) :
   bu Tryz.prog 114 [v,.func (.func f) #[] cap] w fun r w'=>(∃n:Int,r=I n/\decide (n>=0)=l.any p)/\Mod (fun _=>False) w w':=by
 obtain⟨fn,ej,jl,kR⟩:=ej.ok;obtain⟨a,c,rfl⟩:=bq hl;refine γ Tryz.f114 ?_;refine σ ?_;refine eW l.length (fun k ρ w'=>Mod (fun _=>False) w w'/\k<=l.length/\(∀i,∀h:i<l.length,i<k->p l[i]=false)/\ρ=[(0,.slice a l.length c),(1,.func (.func f) #[] cap),(7,I l.length),(8,I k)]) ⟨.refl _ _,by omega,fun i _ hi=>absurd hi (by omega),rfl⟩ (dI hl) ?_ ?_ (by decide) ?_
 .rintro k _ w2 ⟨ai,hk,_,rfl⟩;exact⟨rfl,rfl,hk⟩
 .rintro k _ w2 ⟨ai,_,ha,rfl⟩ hk;obtain⟨ad,c,r,e,hr,cG,cR,_⟩:=dT (hl.mod ai aA (fun _ _ h=>iE _ _ _ _ h ai)) hk;cases e;have b1:(0:Int)<=k/\(k:Int)<l.length:=by omega
  simp only[go_sem,simprocAttr,bG,bH,b1,cR];refine Cb rfl (by rfl) ej jl kR ?_;refine(hf w2 r l[k] (List.getElem_mem hk) ai hr).mono ?_;rintro _ w3 ⟨rfl,aw⟩;cases h:p l[k]with
  |true=>
   refine σ ?_;refine⟨⟨_,rfl,?_⟩,ai.trans aw⟩;rw[List.any_eq_true.2 ⟨_,List.getElem_mem hk,h⟩];exact decide_eq_true (by omega)
  |false=>
   refine σ ?_;refine⟨ai.trans aw,hk,fun i hi hik=>?_⟩;rcases Nat.lt_or_ge i k with h1 |h1
   .exact ha i hi h1
   .have:i=k:=by omega
    subst this;exact h
 .rintro _ w2 ⟨ai,_,ha,rfl⟩;refine σ ?_;refine⟨⟨_,rfl,?_⟩,ai⟩;rw[List.any_eq_false.2 (fun x hx=>by obtain⟨i,hi,rfl⟩:=List.getElem_of_mem hx;rw[ha i hi hi];simp)];rfl
theorem agu{α:Type}{l:List α}{w:World}{v:Value}{B:Nat→Prop}{PP:World→List Value→α→Prop}(hl:aX w v 2 B (PP w) l)(iE:∀ w w' r a,PP w r a→Mod (fun _=>False) w w'→PP w' r a)
   {f:FuncId} {cap:Array Value} {p:α->Bool} (ej:Fn f) (hf:EL f cap Cg PP p l w) :
   bu Tryz.prog 96 [v,.func (.func f) #[] cap] w fun r w'=>r=.bool (l.any p)/\Mod (fun _=>False) w w':=by
 refine γ Tryz.f96 ?_;refine σ ?_;refine δ (by rfl) (agt hl iE ej hf) ?_;rintro _ w' ⟨⟨n,rfl,hn⟩,hm⟩;refine σ ?_;exact⟨congrArg _ hn,hm⟩
theorem agv{α:Type}{l:List α}{w:World}{v:Value}{B:Nat→Prop}{PP:World→List Value→α→Prop}(hl:aX w v 11 B (PP w) l)(iE:∀ w w' r a,PP w r a→Mod (fun _=>False) w w'→PP w' r a)
   {f:FuncId} {cap:Array Value} {p:α->Bool} (ej:Fn f) (hf:EL f cap Cg PP p l w) :
   bu Tryz.prog 132 [v,.func (.func f) #[] cap] w fun r w'=>(∃n:Int,r=I n/\decide (n>=0)=l.any p)/\Mod (fun _=>False) w w':=by
 obtain⟨fn,ej,jl,kR⟩:=ej.ok;obtain⟨a,c,rfl⟩:=bq hl;refine γ Tryz.f132 ?_;refine σ ?_;refine eW l.length (fun k ρ w'=>Mod (fun _=>False) w w'/\k<=l.length/\(∀i,∀h:i<l.length,i<k->p l[i]=false)/\ρ=[(0,.slice a l.length c),(1,.func (.func f) #[] cap),(7,I l.length),(8,I k)]) ⟨.refl _ _,by omega,fun i _ hi=>absurd hi (by omega),rfl⟩ (dI hl) ?_ ?_ (by decide) ?_
 .rintro k _ w2 ⟨ai,hk,_,rfl⟩;exact⟨rfl,rfl,hk⟩
 .rintro k _ w2 ⟨ai,_,ha,rfl⟩ hk;obtain⟨ad,c,r,e,hr,cG,cR,_⟩:=dT (hl.mod ai aA (fun _ _ h=>iE _ _ _ _ h ai)) hk;cases e;have b1:(0:Int)<=k/\(k:Int)<l.length:=by omega
  simp only[go_sem,simprocAttr,bG,bH,b1,cR];refine Cb rfl (by rfl) ej jl kR ?_;refine(hf w2 r l[k] (List.getElem_mem hk) ai hr).mono ?_;rintro _ w3 ⟨rfl,aw⟩;cases h:p l[k]with
  |true=>
   refine σ ?_;refine⟨⟨_,rfl,?_⟩,ai.trans aw⟩;rw[List.any_eq_true.2 ⟨_,List.getElem_mem hk,h⟩];exact decide_eq_true (by omega)
  |false=>
   refine σ ?_;refine⟨ai.trans aw,hk,fun i hi hik=>?_⟩;rcases Nat.lt_or_ge i k with h1 |h1
   .exact ha i hi h1
   .have:i=k:=by omega
    subst this;exact h
 .rintro _ w2 ⟨ai,_,ha,rfl⟩;refine σ ?_;refine⟨⟨_,rfl,?_⟩,ai⟩;rw[List.any_eq_false.2 (fun x hx=>by obtain⟨i,hi,rfl⟩:=List.getElem_of_mem hx;rw[ha i hi hi];simp)];rfl
theorem agw{α:Type}{l:List α}{w:World}{v:Value}{B:Nat→Prop}{PP:World→List Value→α→Prop}(hl:aX w v 11 B (PP w) l)(iE:∀ w w' r a,PP w r a→Mod (fun _=>False) w w'→PP w' r a)
   {f:FuncId} {cap:Array Value} {p:α->Bool} (ej:Fn f) (hf:EL f cap Cg PP p l w) :
   bu Tryz.prog 119 [v,.func (.func f) #[] cap] w fun r w'=>r=.bool (l.any p)/\Mod (fun _=>False) w w':=by
 refine γ Tryz.f119 ?_;refine σ ?_;refine δ (by rfl) (agv hl iE ej hf) ?_;rintro _ w' ⟨⟨n,rfl,hn⟩,hm⟩;refine σ ?_;exact⟨congrArg _ hn,hm⟩
theorem xr{w:World}{v:Value}{B:Nat→Prop}{l:List ByteArray}(h:aX w v 1 B ft l){i:Nat}(hi:i < l.length) :
   ∃ad c,v=.slice (some ad) l.length c/\Nm l[i]/\w.cell? (ad.add i)=some (.string l[i]):=by
 obtain⟨ad,c,r,e,⟨rfl,hn⟩,_,_,hc⟩:=dT h hi;have:=hc 0 (by simp);rw[Nat.mul_one,add_zero']at this;exact⟨ad,c,e,hn,this⟩
theorem agx{l:List ByteArray}{w:World}{v:Value}{B:Nat→Prop}(hl:aX w v 1 B ft l)
   {f:FuncId} {cap:Array Value} {p:ByteArray->Bool} (ej:Fn f) (hf:∀s∈l,Nm s->∀w',Mod (fun _=>False) w w'->bu Tryz.prog f (.string s::cap.toList) w' fun x eI=>x=.bool (p s)/\Mod (fun _=>False) w' eI) :
   bu Tryz.prog 113 [v,.func (.func f) #[] cap] w fun r w'=>(∃n:Int,r=I n/\decide (n>=0)=l.any p)/\Mod (fun _=>False) w w':=by
 obtain⟨fn,ej,jl,kR⟩:=ej.ok;obtain⟨a,c,rfl⟩:=bq hl;refine γ Tryz.f113 ?_;refine σ ?_;refine eW l.length (fun k ρ w'=>Mod (fun _=>False) w w'/\k<=l.length/\(∀i,∀h:i<l.length,i<k->p l[i]=false)/\ρ=[(0,.slice a l.length c),(1,.func (.func f) #[] cap),(7,I l.length),(8,I k)]) ⟨.refl _ _,by omega,fun i _ hi=>absurd hi (by omega),rfl⟩ (dI hl) ?_ ?_ (by decide) ?_
 .rintro k _ w2 ⟨ai,hk,_,rfl⟩;exact⟨rfl,rfl,hk⟩
 .rintro k _ w2 ⟨ai,_,ha,rfl⟩ hk;obtain⟨ad,c,e,hn,hc⟩:=xr (hl.mod ai aA (fun _ _ h=>h)) hk;cases e;have b1:(0:Int)<=k/\(k:Int)<l.length:=by omega
  simp only[go_sem,simprocAttr,bG,bH,b1,hc];refine Cb rfl (by rfl) ej jl kR ?_;refine(hf l[k] (List.getElem_mem hk) hn w2 ai).mono ?_;rintro _ w3 ⟨rfl,aw⟩;cases h:p l[k]with
  |true=>
   refine σ ?_;refine⟨⟨_,rfl,?_⟩,ai.trans aw⟩;rw[List.any_eq_true.2 ⟨_,List.getElem_mem hk,h⟩];exact decide_eq_true (by omega)
  |false=>
   refine σ ?_;refine⟨ai.trans aw,hk,fun i hi hik=>?_⟩;rcases Nat.lt_or_ge i k with h1 |h1
   .exact ha i hi h1
   .have:i=k:=by omega
    subst this;exact h
 .rintro _ w2 ⟨ai,_,ha,rfl⟩;refine σ ?_;refine⟨⟨_,rfl,?_⟩,ai⟩;rw[List.any_eq_false.2 (fun x hx=>by obtain⟨i,hi,rfl⟩:=List.getElem_of_mem hx;rw[ha i hi hi];simp)];rfl
theorem agy{l:List ByteArray}{w:World}{v:Value}{B:Nat→Prop}(hl:aX w v 1 B ft l)
   {f:FuncId} {cap:Array Value} {p:ByteArray->Bool} (ej:Fn f) (hf:∀s∈l,Nm s->∀w',Mod (fun _=>False) w w'->bu Tryz.prog f (.string s::cap.toList) w' fun x eI=>x=.bool (p s)/\Mod (fun _=>False) w' eI) :
   bu Tryz.prog 94 [v,.func (.func f) #[] cap] w fun r w'=>r=.bool (l.any p)/\Mod (fun _=>False) w w':=by
 refine γ Tryz.f94 ?_;refine σ ?_;refine δ (by rfl) (agx hl ej hf) ?_;rintro _ w' ⟨⟨n,rfl,hn⟩,hm⟩;refine σ ?_;exact⟨congrArg _ hn,hm⟩
def pV(l:List ByteArray)(s:ByteArray):Option Nat:=l.findIdx? (fun x=>bw s x)
theorem agz{l:List ByteArray}{w:World}{v:Value}{B:Nat→Prop}(hl:aX w v 1 B ft l)(s:ByteArray) :
   bu Tryz.prog 131 [v,.string s] w fun r w'=>r=I (match pV l s with |some i=>(i:Int) |none => -1)/\w=w':=by
 obtain⟨a,c,rfl⟩:=bq hl;refine γ Tryz.f131 ?_;refine σ ?_;refine eW l.length (fun k ρ w'=>w=w'/\k<=l.length/\(∀i,∀h:i<l.length,i<k->bw s l[i]=false)/\ρ=[(0,.slice a l.length c),(1,.string s),(7,I l.length),(8,I k)]) ⟨rfl,by omega,fun i _ hi=>absurd hi (by omega),rfl⟩ (dI hl) ?_ ?_ (by decide) ?_
 .rintro k _ w2 ⟨rfl,hk,_,rfl⟩;exact⟨rfl,rfl,hk⟩
 .rintro k _ w2 ⟨rfl,_,ha,rfl⟩ hk;obtain⟨ad,c,e,hn,hc⟩:=xr hl hk;cases e;have b1:(0:Int)<=k/\(k:Int)<l.length:=by omega
  simp only[go_sem,simprocAttr,bG,bH,b1,hc];cases h:s.toList == l[k].toList with
  |true=>
   refine σ ?_;refine congrArg I ?_;have:pV l s=some k:=by
    rw[pV,List.findIdx?_eq_some_iff_getElem];exact⟨hk,h,fun j hj=>by rw[ha j (by omega) hj];simp⟩
   rw[this]
  |false=>
   refine σ ?_;refine⟨hk,fun i hi hik=>?_⟩;rcases Nat.lt_or_ge i k with h1 |h1
   .exact ha i hi h1
   .have:i=k:=by omega
    subst this;exact h
 .rintro _ w2 ⟨rfl,_,ha,rfl⟩;refine σ ?_;refine congrArg I ?_;have:pV l s=none:=by
   rw[pV,List.findIdx?_eq_none_iff];intro x hx;obtain⟨i,hi,rfl⟩:=List.getElem_of_mem hx;exact ha i hi hi
  rw[this]
end
section
open Go Go.W
abbrev bM:ByteArray:=⟨#[]⟩
def oY(k:Int)(n:ByteArray)(len:Nat):Bool:=
 if k == 1 then bw n bM&&((len:Int)==0)else if k == 2 then xp n&&((len:Int)==0)
 else if k == 3 then bw n bM&&((len:Int)==2)else if k == 4 then xq n && !(decide ((len:Int)>6))else false
mutual
def Ty.may:Ty->Bool
 |.mk k n l=>oY k n l.length&&yW l
def yW:List Ty->Bool
 |[]=>true
 |t::l=>t.may&&yW l
end
theorem Ty.Qe(t:Ty):t.may=(oY t.kind t.name t.args.length&&yW t.args):=by cases t;rw[Ty.may];rfl
theorem Xc(l:List Ty):(l.any fun t=>!t.may) = !yW l:=by
 induction l with
 |nil=>rfl
 |cons t l ih=>rw[List.any_cons,ih,yW,Bool.not_and]
theorem agA:Fn 124:=⟨_,rfl,rfl,rfl⟩
theorem agB(t:Ty):∀{w:World} {B:Nat->Prop} {cs:List Value},aR w B cs t->bu Tryz.prog 107 [.agg cs.toArray] w fun r w'=>r=.bool t.may/\Mod (fun _=>False) w w':=by
 induction t using Ty.ind with
 |h t ih=>
 intro w B cs h;obtain⟨v,rfl,hl⟩:=h.cells;refine γ Tryz.f107 ?_;refine σ ?_;refine bZ rfl ?_;intro w1 au ak _;simp only[go_sem,simprocAttr,cell_of au,Value.cells];rw[t.Qe];have no:∀w2,Mod (fun _=>False) w1 w2->oY t.kind t.name t.args.length=false->Value.bool false=Value.bool (oY t.kind t.name t.args.length&&yW t.args)/\Mod (fun _=>False) w w2:=fun w2 hm h=>by rw[h];exact⟨rfl,ak.trans hm⟩
 refine og (fun ρ w2=>Mod (fun _=>False) w1 w2/\∃n:Int,oY t.kind t.name t.args.length=((t.args.length:Int)==n)/\ρ.get 1=some (ptr w.heap.size)/\ρ.get 3=some (I n)) ?_ ?_
 .refine σ ?_;cases e1:t.kind == 1 with
  |true=>
   simp only[go_sem,simprocAttr,cell_of au,Value.cells];have hd:oY t.kind t.name t.args.length=(bw t.name bM&&((t.args.length:Int)==0)):=by rw[oY,if_pos e1]
   cases e2:t.name.toList == ByteArray.toList ⟨#[]⟩with
   |false=>refine σ ?_;exact no _ (.refl _ _) (by rw[hd,bw,e2];rfl)
   |true=>refine σ ?_;exact⟨.refl _ _,0,by rw[hd,bw,e2];rfl,rfl⟩
  |false=>
   simp only[go_sem,simprocAttr,cell_of au,Value.cells];cases e2:t.kind == 2 with
   |true=>
    simp only[go_sem,simprocAttr,cell_of au,Value.cells];have hd:oY t.kind t.name t.args.length=(xp t.name&&((t.args.length:Int)==0)):=by rw[oY,if_neg (by rw[e1];simp),if_pos e2]
    refine δ (by rfl) (ago t.name) ?_;rintro _ _ ⟨rfl,rfl⟩;cases e3:xp t.name with
    |false=>refine σ ?_;exact no _ (.refl _ _) (by rw[hd,e3];rfl)
    |true=>refine σ ?_;exact⟨.refl _ _,0,by rw[hd,e3];rfl,rfl⟩
   |false=>
    simp only[go_sem,simprocAttr,cell_of au,Value.cells];cases e3:t.kind == 3 with
    |true=>
     simp only[go_sem,simprocAttr,cell_of au,Value.cells];have hd:oY t.kind t.name t.args.length=(bw t.name bM&&((t.args.length:Int)==2)):=by rw[oY,if_neg (by rw[e1];simp),if_neg (by rw[e2];simp),if_pos e3]
     cases e4:t.name.toList == ByteArray.toList ⟨#[]⟩with
     |false=>refine σ ?_;exact no _ (.refl _ _) (by rw[hd,bw,e4];rfl)
     |true=>refine σ ?_;exact⟨.refl _ _,2,by rw[hd,bw,e4];rfl,rfl⟩
    |false=>
     simp only[go_sem,simprocAttr,cell_of au,Value.cells];cases e4:t.kind == 4 with
     |true=>
      simp only[go_sem,simprocAttr,cell_of au,Value.cells];have hd:oY t.kind t.name t.args.length=(xq t.name && !(decide ((t.args.length:Int)>6))):=by rw[oY,if_neg (by rw[e1];simp),if_neg (by rw[e2];simp),if_neg (by rw[e3];simp),if_pos e4]
      obtain⟨a,c,rfl⟩:=bq hl;refine δ (by rfl) (agq t.name) ?_;rintro _ w2 ⟨rfl,ai⟩;cases e5:xq t.name with
      |false=>refine σ ?_;exact no _ ai (by rw[hd,e5];rfl)
      |true=>
       simp only[go_sem,simprocAttr,cell_of (ai.at au Ψ),Value.cells];cases e6:decide ((t.args.length:Int)>6)with
       |true=>refine σ ?_;exact no _ ai (by rw[hd,e5,e6];rfl)
       |false=>simp only[go_sem,simprocAttr,cell_of (ai.at au Ψ),Value.cells];exact⟨ai,t.args.length,by rw[hd,e5,e6];simp,rfl⟩
     |false=>refine σ ?_;exact no _ (.refl _ _) (by rw[oY,if_neg (by rw[e1];simp),if_neg (by rw[e2];simp),if_neg (by rw[e3];simp),if_neg (by rw[e4];simp)])
 .rintro ρ w2 ⟨ai,n,hh,g1,g3⟩;have hm:=ak.trans ai;have hb:=ai.at au Ψ;obtain⟨a,c,rfl⟩:=bq hl;rw[hh];simp only[go_sem,simprocAttr,g1,g3,cell_of hb,Value.cells];cases h1:((t.args.length:Int)==n)with
  |false=>refine σ ?_;exact⟨rfl,hm⟩
  |true=>
   simp only[go_sem,simprocAttr,g1,cell_of hb,Value.cells];refine δ (by rfl) (ags (PP:=fun w=>aR w B) (p:=fun t=>!t.may) (hl.mod hm aA (fun _ _ h=>h.mod hm aA)) (fun _ _ _ _ h hm=>h.mod hm aA) agA ?_) ?_
   .intro w3 r u hu aw hr;refine γ Tryz.f124 ?_;simp only[go_sem,simprocAttr,Cg];refine bZ rfl ?_;intro w4 bm aD _;simp only[go_sem,simprocAttr,aE (cs:=r) (n:=3) bm hr.len];refine δ (by rfl) (ih u hu (hr.mod aD aA)) ?_;rintro _ w5 ⟨rfl,aH⟩;refine σ ?_;exact aD.trans aH
   .rintro _ w3 ⟨rfl,aw⟩;simp only[go_sem,simprocAttr,Xc];exact⟨by simp,hm.trans aw⟩
def lS(t:Ty):Int:=if t.may=false then 53 else if t.nodes>500 then 4 else 0
theorem Xd(t:Ty){w:World}{B:Nat->Prop}{cs:List Value}(h:aR w B cs t):bu Tryz.prog 81 [.agg cs.toArray] w fun r w'=>r=I (lS t)/\Mod (fun _=>False) w w':=by
 refine γ Tryz.f81 ?_;refine σ ?_;refine bZ rfl ?_;intro w1 au ak _;simp only[go_sem,simprocAttr,aE (cs:=cs) (n:=3) au h.len];refine δ (by rfl) (agB t (h.mod ak aA)) ?_;rintro _ w2 ⟨rfl,ai⟩;cases h1:t.may with
 |false=>simp only[go_sem,simprocAttr,lS,h1];exact ak.trans ai
 |true=>
  simp only[go_sem,simprocAttr,aE (cs:=cs) (n:=3) (ai.at au Ψ) h.len];refine δ (by rfl) (agh t (h.mod (ak.trans ai) aA)) ?_;rintro _ w3 ⟨rfl,aw⟩;have hm:=ak.trans (ai.trans aw);refine σ ?_;cases h2:decide (t.nodes>500)with
  |true=>
   refine σ ?_;refine⟨?_,hm⟩;rw[lS,h1,if_neg (by simp),if_pos (of_decide_eq_true h2)]
  |false=>
   refine σ ?_;refine⟨?_,hm⟩;rw[lS,h1,if_neg (by simp),if_neg (of_decide_eq_false h2)]
end
section
open Go Go.W
theorem Qf{xs tl vs:List Value}{o:Nat}(h:o+vs.length<=xs.length):sp (xs++tl).toArray o vs=((xs.take o++vs++xs.drop (o+vs.length))++tl).toArray:=by
 unfold sp
 congr 1
 rw[List.take_append_of_le_length (by omega),List.drop_append_of_le_length (by omega)];simp
theorem Qg{sz:Nat}{rows:List (List Value)}(hr:∀r∈rows,r.length=sz){k:Nat}(hk:k<rows.length):((rows.flatMap id).drop (k*sz)).take sz=rows[k]:=by
 apply List.ext_getElem?;intro i;have hl:=hr _ (List.getElem_mem hk);rcases Nat.lt_or_ge i sz with h |h
 .rw[List.getElem?_take_of_lt h,List.getElem?_drop,KR rows hr k hk i h]
 .rw[List.getElem?_eq_none (by rw[List.length_take];omega),List.getElem?_eq_none (by omega)]
theorem Xe{w:World}{v:Value}{sz:Nat}{rows:List (List Value)}{B:Nat->Prop}(h:vq w v sz rows B):∀r∈rows,r.length=sz:=by
 intro r hr;obtain⟨i,hi,rfl⟩:=List.getElem_of_mem hr;obtain⟨_,_,_,h1,_⟩:=KQ h hi;exact h1
theorem Hd{w:World}{a:Addr}{r:List Value}(h:∀k (hk:k<r.length),w.cell? (a.add k)=some r[k]){o n:Nat}(hn:o+n<=r.length):f' w n (.pointer (some (a.add o)))=some (.agg ((r.drop o).take n).toArray):=by
 refine vx (by rw[List.length_take,List.length_drop];omega) (fun k hk=>?_);rw[List.length_take,List.length_drop]at hk;rw[WY,h (o+k) (by omega),List.getElem_take,List.getElem_drop]
def Qh(r:Value):Prop:=∃cs:List Value,r=.agg cs.toArray/\cs.length=3/\∀u∈cs,u.oneCell'=true
def AH(w:World)(T:Nat)(v:Value)(full:List Value)(n k:Nat)(fp:Option Nat):Prop:=∃xs,dP w T 3 v xs n fp/\xs.drop (k*3)=full.drop (k*3)/\∀u∈xs,u.oneCell'=true
theorem AH.mod{w w':World}{S:Nat->Prop}{T n k:Nat}{v:Value}{full:List Value}{fp:Option Nat}(h:AH w T v full n k fp)(hm:Mod S w w')(hs:∀b,fp=some b->¬S b):AH w' T v full n k fp:=by
 obtain⟨xs,ho,h⟩:=h;exact⟨xs,ho.mod hm hs,h⟩
theorem Xf{w:World}{T n k:Nat}{v:Value}{rows:List (List Value)}{fp:Option Nat}(h:AH w T v (rows.flatMap id) n k fp)(hr:∀ r∈rows,r.length=3)(hk:k < rows.length)(hn:n=rows.length) :
   ∃b c,v=.slice (some ⟨b,0,none⟩) n c/\fp=some b/\f' w 3 (.pointer (some ⟨b,k*3,none⟩))=some (.agg rows[k].toArray):=by
 obtain⟨xs,ho,he,_⟩:=h;obtain⟨b,c,tl,rfl,hf,hb,_,_⟩:=ho.pos (by omega);refine⟨b,c,rfl,hf,?_⟩;have hl:=ho.1;have:=jm (off:=k*3) (n:=3) hb (by rw[List.length_append];omega);rw[List.drop_append_of_le_length (by omega),List.take_append_of_le_length (by rw[List.length_drop];omega),he,Qg hr hk]at this;exact this
section
variable {P:Program} {w:World} {ρ:Env} {K:Value->World->Prop}
theorem Xg{x y:O}{T n k:Nat}{v:Value}{full vs:List Value}{fp:Option Nat}{b:Nat}(h:AH w T v full n k fp)(hf:fp=some b)(hk:k < n)(hx:x.ev ρ=some (.pointer (some ⟨b,k*3,none⟩)))(hy:y.ev ρ=some (.agg vs.toArray))(hl:vs.length=3)(h1:∀ u∈vs,u.oneCell'=true)
   (hq:∀w',AH w' T v full n (k+1) fp->Mod (· = b) w w'->w'.heap.size=w.heap.size->K undef w'):E.wp P w ρ K (.st 3 x y):=by
 obtain⟨xs,ho,he,hu⟩:=h;obtain⟨b',c,tl,rfl,ii,hb,Xh,im⟩:=ho.pos (by omega);rw[hf]at ii;cases ii;have hlen:=ho.1;refine KB hx hy hb hl (by rw[List.length_append];omega) h1 ?_;intro w' ky hm hs;rw[Qf (by omega)]at ky;refine hq w' ⟨_,⟨?_,.inr ⟨b,c,tl,rfl,hf,ky,?_,Xh⟩⟩,?_,?_⟩ hm hs
 .simp only[List.length_append,List.length_take,List.length_drop];omega
 .simp only[List.length_append,List.length_take,List.length_drop]at im ⊢;omega
 .rw[List.append_assoc,List.drop_append,List.drop_append,List.drop_eq_nil_of_le (by rw[List.length_take];omega),List.drop_eq_nil_of_le (by rw[List.length_take];omega),List.nil_append,List.nil_append,List.length_take,List.drop_drop];have e:=congrArg (List.drop 3) he;rw[List.drop_drop,List.drop_drop]at e;rw[show(k+1)*3=k*3+3 by omega,<- e]
  congr 1;omega
 .intro u Qi;rcases List.mem_append.1 Qi with h |h
  .rcases List.mem_append.1 h with h |h
   .exact hu u (List.mem_of_mem_take h)
   .exact h1 u h
  .exact hu u (List.mem_of_mem_drop h)
end
end
section
open Go Go.W
abbrev dH:Nat:=52
theorem KV:jW Tryz.prog dH=some 3:=rfl
theorem He{w:World}{B:Nat->Prop}{rows:List (List Value)}{l:List Ty}(hl:rows.length=l.length)(he:∀(i:Nat) (r:List Value) (t:Ty),rows[i]?=some r->l[i]?=some t->aR w B r t):∀u∈rows.flatMap id,u.oneCell'=true:=by
 intro u hu;obtain⟨r,hr,h⟩:=List.mem_flatMap.1 hu;obtain⟨i,hi,rfl⟩:=List.getElem_of_mem hr;exact(he i _ _ (Ξ hi) (Ξ (by omega))).one u h
theorem Qj{rows:List (List Value)}{w:World}{B:Nat→Prop}{v:Value}(h:qR w v 3 rows B)(h1:∀ u∈rows.flatMap id,u.oneCell'=true) :
   bu Tryz.prog 32 [v] w fun r w'=>∃fp,dP w' dH 3 r (rows.flatMap id) rows.length fp/\(∀b,fp=some b->w.heap.size<=b)/\Mod (fun _=>False) w w':=by
 obtain⟨a,c,rfl⟩:=WW h.1;obtain⟨_,hr,hn⟩:=Ha h.1 (by decide);refine γ Tryz.f32 ?_;refine σ ?_;have hlen:=h.2;cases a with
 |none=>
  simp only[go_sem,simprocAttr,Option.isNone_none];have h0:=hn rfl;rw[List.eq_nil_of_length_eq_zero h0];exact⟨none,.nil w dH 3,(fun b h=>by cases h),.refl _ _⟩
 |some ad=>
  simp only[go_sem,simprocAttr,Option.isNone_some];refine WS (el:=dH) (n:=3) rfl KV ?_;intro w1 au ak cw;have tR:dP w1 dH 3 (.slice (some ⟨w.heap.size,0,none⟩) 0 0) [] 0 (some w.heap.size):=dP.of_block (xs:=[]) au (by simp);obtain⟨_,nu,_⟩:=Ha (h.mod ak aA).1 (by decide:0<3);refine σ ?_;refine sN (m:=rows.length) (news:=rows.flatMap id) rfl tR rfl (fun h=>by cases h) nu h1 rfl (by omega) (by omega) ?_;intro v2 w2 xt xh ai ni;refine σ ?_;refine⟨xt,by simpa using xh,fun b hb=>?_,ak.step ai (fun x hx bg=>by cases hx;omega)⟩;rcases ni b hb with h |h
  .cases h;omega
  .omega
theorem agC(t:Ty):∀{w:World} {B:Nat->Prop} {cs:List Value},aR w B cs t->bu Tryz.prog 130 [.agg cs.toArray] w fun r w'=>Qh r/\Mod (fun _=>False) w w':=by
 induction t using Ty.ind with
 |h t ih=>
 intro w B cs h;obtain⟨v,rfl,rows,lz,hl,he⟩:=h.cells;refine γ Tryz.f130 ?_;refine σ ?_;refine bZ rfl ?_;intro w1 au ak cw;refine σ ?_;refine cX ?_;intro w2 az ai bU;have au:=ai.at au Ψ;simp only[go_sem,simprocAttr,cell_of au,Value.cells];refine δ (by rfl) (Qj (lz.mod (ak.trans ai) aA) (He hl he)) ?_;rintro v3 w3 ⟨fp,ho,hf,aw⟩;have au:=aw.at au Ψ;have az:=aw.at az Ψ;obtain⟨a3,c3,rfl,_,_⟩:=ho.val;refine σ ?_;refine eK rfl rfl au rfl (by simp) ?_;intro w4 bm aD dL;have oZ:=aD.at az (by omega);have sS:=ho.mod aD (fun b hb=>by have:=hf b hb;omega);have eX:Mod (fun _=>False) w w4:=(ak.trans (ai.trans aw)).step aD (fun x hx hl=>by omega);simp only[go_sem,simprocAttr,cell_of bm,Value.cells];have hn:rows.length<9223372036854775807:=by have:=lz.2;omega
 refine eW rows.length (fun k ρ w'=>Mod (fun _=>False) w w'/\k<=rows.length/\AH w' dH (.slice a3 rows.length c3) (rows.flatMap id) rows.length k fp/\w'.heap[w.heap.size]?=w4.heap[w.heap.size]?/\w'.heap[w1.heap.size]?=w4.heap[w1.heap.size]?/\ρ=[(1,ptr w.heap.size),(2,ptr w1.heap.size),(10,I rows.length),(11,I k)]) ⟨eX,by omega,⟨_,sS,rfl,He hl he⟩,rfl,rfl,rfl⟩ hn ?_ ?_ (by decide) ?_
 .rintro k _ w2 ⟨_,hk,_,_,_,rfl⟩;exact⟨rfl,rfl,hk⟩
 .rintro k _ w5 ⟨aH,_,hh,cP,gS,rfl⟩ hk;obtain⟨b,c,e,rfl,eu⟩:=Xf hh (Xe lz.1) hk rfl;cases e;have b1:(0:Int)<=k/\(k:Int)<rows.length:=by omega
  have bY:=cP.trans bm;simp only[go_sem,simprocAttr,bG,bH,cell_of bY,Value.cells,b1,cY,eu];refine δ (by rfl) (ih _ (List.getElem_mem (by omega:k<t.args.length)) ((he k _ _ (Ξ hk) (Ξ (by omega))).mod aH.drew aA)) ?_;rintro _ w6 ⟨⟨cs,rfl,cT,gp⟩,aG⟩;refine σ ?_;have xu:=(hh.mod aG.dG (fun _ _ h=>h));refine⟨aG.bO _ (bP bY) Ψ,?_⟩;refine Xg xu rfl hk rfl rfl cT gp ?_;intro w7 yX aO jn;have EM:=hf b rfl;have bV:=aG.size;refine⟨(aH.trans aG.dG).step aO (fun x hx hl=>by have:=ak.size;have:=ai.size;omega),hk,yX,?_,?_⟩
  .rw[aO.bO _ (by have:=bP bY;have:w5.drew.heap.size=w5.heap.size:=rfl;omega) (by have:=ai.size;omega),aG.bO _ (bP bY) Ψ];exact cP
  .have:=bP (gS.trans oZ);rw[aO.bO _ (by have:w5.drew.heap.size=w5.heap.size:=rfl;omega) (by omega),aG.bO _ this Ψ];exact gS
 .rintro _ w5 ⟨aH,_,hh,cP,gS,rfl⟩;have bY:w5.heap[w.heap.size]?=some (.cells [I t.kind,.string t.name,.slice a3 rows.length c3].toArray dH (0,0)):=cP.trans bm;simp only[go_sem,simprocAttr,aE (n:=3) bY rfl];refine bN (cs:=[I 0,.string bM,.slice none 0 0]) rfl rfl (gS.trans oZ) rfl rfl (aP rfl (aP rfl (aP rfl dq))) ?_;intro w6 cH aG fw;simp only[go_sem,simprocAttr,aE (n:=3) cH rfl];exact⟨⟨_,rfl,rfl,aP rfl (aP rfl (aP rfl dq))⟩,aH.step aG (fun x hx hl=>by have:=ak.size;omega)⟩
end
section
open Go Go.W
def Ci(v:Value):Prop:=∃n:ByteArray,v=.agg #[I 2,.string n,.slice none 0 0]
theorem Ci.ty{v:Value}(h:Ci v)(w:World)(B:Nat->Prop):∃cs t,v=.agg (cs:List Value).toArray/\aR w B cs t:=by
 obtain⟨n,rfl⟩:=h;obtain⟨rows,h1,h2,h3⟩:=eB w 3 B (aR w B);exact⟨_,_,rfl,.mk (args:=[]) h1 h2 h3⟩
theorem Xi{l:List (ByteArray×Value)}{k:ByteArray}{v:Value}(h:oe l k=some v):∃p∈l,p.2=v:=by
 unfold oe at h;obtain⟨p,hp,rfl⟩:=Δ.1 h;exact⟨p,List.mem_of_find?_eq_some hp,rfl⟩
theorem agD(t:Ty):∀ {w:World} {B:Nat→Prop} {cs:List Value} {m:Nat} {l:List (ByteArray×Value)},aR w B cs t→od w m l→(∀ p∈l,Ci p.2) →
   bu Tryz.prog 117 [.agg cs.toArray,.map (some m)] w fun r w'=>Qh r/\Mod (fun _=>False) w w':=by
 induction t using Ty.ind with
 |h t ih=>
 intro w B cs m l h mY Xj;obtain⟨v,rfl,rows,lz,hl,he⟩:=h.cells;refine γ Tryz.f117 ?_;(try simp only[go_sem,simprocAttr]);refine bZ rfl ?_;intro w1 au ak cw;(try simp only[go_sem,simprocAttr]);refine cX ?_;intro w2 az ai bU;have au:=ai.at au Ψ;have bo:=ak.trans ai;(try simp only[go_sem,simprocAttr,cell_of au,Value.cells]);refine Ca (fun ρ w'=>Mod (fun _=>False) w2 w'/\ρ.get 1=some (.map (some m))/\ρ.get 2=some (ptr w.heap.size)/\ρ.get 4=some (ptr w1.heap.size)) ?_ ?_
 .cases hk:t.kind == 2 with
  |false=>(try simp only[go_sem,simprocAttr]);exact .refl _ _
  |true=>
   (try simp only[go_sem,simprocAttr,cell_of au,Value.cells]);refine G8 (k:=t.name) (kt:=9) (et:=dH) rfl rfl rfl rfl (Tryz.zeroValue52 _) (sP mY bo Ψ) ?_;cases hg:oe l t.name with
   |none=>
    (try simp only[go_sem,simprocAttr,Option.getD_none,Option.isSome_none]);refine eC (n:=3) (vs:=[I 0,.string bM,.slice none 0 0]) rfl rfl (aP rfl (aP rfl (aP rfl dq))) ?_;intro w3 aS aw dU;(try simp only[go_sem,simprocAttr]);exact aw
   |some u=>
    obtain⟨p,hp,rfl⟩:=Xi hg;obtain⟨cu,tu,e,yJ⟩:=(Xj p hp).ty w2 B;(try simp only[go_sem,simprocAttr,Option.getD_some,Option.isSome_some]);rw[e];refine eC (n:=3) (vs:=cu) rfl yJ.len yJ.one ?_;intro w3 aS aw dU;(try simp only[go_sem,simprocAttr,aE (n:=3) aS yJ.len]);refine aL (by rfl) ?_;refine(agC tu (yJ.mod aw aA)).mono ?_;rintro _ w4 ⟨⟨cs,rfl,cT,gp⟩,aD⟩;(try simp only[go_sem,simprocAttr]);have bm:=(aw.trans aD).at az Ψ;refine bN (cs:=[I 0,.string bM,.slice none 0 0]) rfl rfl bm cT rfl gp ?_;intro w5 bY aH eY;(try simp only[go_sem,simprocAttr,aE (n:=3) bY cT]);exact⟨⟨_,rfl,cT,gp⟩,(bo.trans (aw.trans aD)).step aH (fun x hx hl=>by have:=ak.size;omega)⟩
 rintro ρ w9 ⟨aQ,g1,g2,g4⟩;have au:=aQ.at au Ψ;have az:=aQ.at az Ψ;have nv:=bo.trans aQ;have cJ:=bP az;(try simp only[go_sem,simprocAttr,g1,g2,g4,cell_of au,Value.cells]);refine aL (by rfl) ?_;refine(Qj (lz.mod nv aA) (He hl he)).mono ?_;rintro v3 w3 ⟨fp,ho,hf,aw⟩;have au:=aw.at au Ψ;have az:=aw.at az Ψ;obtain⟨a3,c3,rfl,_,_⟩:=ho.val;(try simp only[go_sem,simprocAttr,g1,g2,g4]);refine eK rfl rfl au rfl (by simp) ?_;intro w4 bm aD dL;have oZ:=aD.at az (by omega);have sS:=ho.mod aD (fun b hb=>by have:=hf b hb;omega);have eX:Mod (fun _=>False) w w4:=(nv.trans aw).step aD (fun x hx hl=>by omega);(try simp only[go_sem,simprocAttr,g1,g2,g4,cell_of bm,Value.cells]);have hn:rows.length<9223372036854775807:=by have:=lz.2;omega
 refine eW rows.length (fun k ρ w'=>Mod (fun _=>False) w w'/\k<=rows.length/\AH w' dH (.slice a3 rows.length c3) (rows.flatMap id) rows.length k fp/\w'.heap[w.heap.size]?=w4.heap[w.heap.size]?/\w'.heap[w1.heap.size]?=w4.heap[w1.heap.size]?/\ρ=[(1,.map (some m)),(2,ptr w.heap.size),(4,ptr w1.heap.size),(27,I rows.length),(28,I k)]) ⟨eX,by omega,⟨_,sS,rfl,He hl he⟩,rfl,rfl,rfl⟩ hn ?_ ?_ (by decide) ?_
 .rintro k _ w2 ⟨_,hk,_,_,_,rfl⟩;exact⟨rfl,rfl,hk⟩
 .rintro k _ w5 ⟨aH,_,hh,cP,gS,rfl⟩ hk;obtain⟨b,c,e,rfl,eu⟩:=Xf hh (Xe lz.1) hk rfl;cases e;have b1:(0:Int)<=k/\(k:Int)<rows.length:=by omega
  have bY:=cP.trans bm;(try simp only[go_sem,simprocAttr,bG,bH,cell_of bY,Value.cells,b1,cY,eu]);refine aL (by rfl) ?_;refine(ih _ (List.getElem_mem (by omega:k<t.args.length)) ((he k _ _ (Ξ hk) (Ξ (by omega))).mod aH.drew aA) (sP mY aH.drew Ψ) Xj).mono ?_;rintro _ w6 ⟨⟨cs,rfl,cT,gp⟩,aG⟩;(try simp only[go_sem,simprocAttr]);have xu:=(hh.mod aG.dG (fun _ _ h=>h));refine⟨aG.bO _ (bP bY) Ψ,?_⟩;refine Xg xu rfl hk rfl rfl cT gp ?_;intro w7 yX aO jn;have EM:=hf b rfl;have bV:=aG.size;have aqj:=nv.size;have hw:w5.drew.heap.size=w5.heap.size:=rfl;have tV:=bP bY;refine⟨(aH.trans aG.dG).step aO (fun x hx hl=>by omega),hk,yX,?_,?_⟩
  .rw[aO.bO _ (by omega) (by omega),aG.bO _ tV Ψ];exact cP
  .have:=bP (gS.trans oZ);rw[aO.bO _ (by omega) (by omega),aG.bO _ this Ψ];exact gS
 .rintro _ w5 ⟨aH,_,hh,cP,gS,rfl⟩;have bY:w5.heap[w.heap.size]?=some (.cells [I t.kind,.string t.name,.slice a3 rows.length c3].toArray dH (0,0)):=cP.trans bm;(try simp only[go_sem,simprocAttr,aE (n:=3) bY rfl]);refine bN (cs:=[I 0,.string bM,.slice none 0 0]) rfl rfl (gS.trans oZ) rfl rfl (aP rfl (aP rfl (aP rfl dq))) ?_;intro w6 cH aG fw;(try simp only[go_sem,simprocAttr,aE (n:=3) cH rfl]);exact⟨⟨_,rfl,rfl,aP rfl (aP rfl (aP rfl dq))⟩,aH.step aG (fun x hx hl=>by have:=ak.size;omega)⟩
end
end Go.Proofs.YtekkkjbjnhipkaaGreatDoor
namespace Go.W
section
open Go
variable {dl:List Deferred} {P:Program} {N:Nat} {ops:Array Oper}
theorem agE{m m':Nat}{l:Nat}{f:FuncId}{tmps:Array Value}{assign body:Code}{w:World}{R:Ending→World→Prop}
   (h:RoundIn Fence.wide m P l f tmps assign body w R):RoundIn Fence.wide m' P l f tmps assign body w R:=⟨h.1,fun c cs _=>h.2 c cs (fun d h=>by cases h)⟩
theorem agF{m m' l:Nat}{args:Array Value}{W:World}{R:Ending->World->Prop}(h:YieldAt Fence.wide m P l args W R):YieldAt Fence.wide m' P l args W R:=by
 obtain⟨fn,tmps,assign,body,hy,hR⟩:=h;exact⟨fn,tmps,assign,body,hy,agE hR⟩
theorem agG{n:Nat}{row:String}{args:Array Value}{w:World}{R:Value->World->Prop}(h:Rows P row args w R):RowsIn Fence.wide n P row args w R:=by
 intro c cs _;obtain⟨v,w',h1,h2⟩:=h c cs;exact⟨v,w',h1,stepsIn_wide.2 h2⟩
theorem agH{n:Nat}{o:Oper}{a:Act}{K:Act->World->Prop}{Q:Exit->Act->World->Prop}{r:Result Next}(h:o.upon P a K wY r):o.uponIn Fence.wide n P a K Q r:=by
 cases r with
 |ok x w'=>
  cases x<;>simp only[Oper.upon]at h<;>first
   |exact h
   | exact ⟨fun hh=>(by cases hh),(callsIn_wide.2 h).mono (fun e eI he=>by
       cases e with
       |returned v=>exact he
       |panicked c=>exact False.elim he
       |outgrown=>obtain⟨_,_,hf⟩:=he;exact False.elim hf)⟩
   |exact⟨fun hh=>(by cases hh),agG h⟩
   |exact False.elim h
 |halt x w'=>cases x<;>simp only[Oper.upon]at h<;>exact False.elim h
theorem agI{n:Nat}{o:Oper}{a:Act}{w:World}{K:Act->World->Prop}{Q:Exit->Act->World->Prop}(h:o.wp P a w K wY):o.wpIn Fence.wide n P a w K Q:=
 ⟨fun _ _=>trivial,agH h⟩
theorem KW{n:Nat}{G:Act->World->Prop}{Q:Exit->Act->World->Prop}{L2:List Oper}(hQ:∀a w,G a w->wpListIn Fence.wide n P ops Q L2 a w):∀(L:List Oper) (a:Act) (w:World),mA P ops G L a w->wpListIn Fence.wide n P ops Q (L++L2) a w
 |[],a,w,h=>hQ a w h
 |o::L,a,w,h=>by
  unfold mA at h;show wpListIn _ _ _ _ _ (o::(L++L2)) a w;unfold wpListIn
  split
  .rename_i hw;rw[if_pos hw]at h;exact agI (Oper.wp_mono (fun a w hh=>KW hQ L a w hh) h)
  .rename_i hw;rw[if_neg hw]at h;exact⟨fun _ _=>trivial,KW hQ L _ _ h⟩
theorem agJ{n m l f x:Nat}{d:Option Nat}{at':Array TypeId}{ty:TypeId}{pos:String}{af:Array Edge}{v:Value}{a:Act}{w:World}{R:Ending→World→Prop}{K:Act→World→Prop}{Q:Exit→Act→World→Prop}
   (hf:a.eval (.tmp f)=.func (.yield l) #[] #[]) (hx:a.eval (.tmp x)=v) (hy:YieldAt Fence.wide m P l #[v] w R) (hk:∀e w',R e w'->∃u,e=.returned u/\K (a.put d u) w') :
   (⟨d,.call { callee:=.value (.tmp f),args:=#[.tmp x],argTypes:=at'},ty,pos,af,none⟩:Oper).wpIn Fence.wide n P a w K Q:=by
 refine⟨fun _ _=>trivial,?_⟩;obtain⟨fn,tmps,assign,body,h1,h2⟩:=agF (m':=n-1) hy;have e1:(Oper.semAt Fence.wide.round a.eval (⟨d,.call { callee:=.value (.tmp f),args:=#[.tmp x],argTypes:=at'},ty,pos,af,none⟩:Oper)).run P w=.ok (.round l fn tmps assign body) w:=by
  rw[Oper.semAt_eq _ _ _ (by intro c h;cases h)];simp only[execOp,resolve,Deferred.ofValue,Sem.run_bind,Sem.run_pure,Result.andThen_ok,invoke,hf,List.map_toArray,List.map_cons,List.map_nil,hx];exact h1
 rw[e1];refine⟨fun h=>(by cases h),h2.mono ?_⟩;intro e w' hr;obtain⟨u,rfl,hk⟩:=hk e w' hr;exact hk
theorem agK{id f x:Nat}{L1 L2:List Oper}{eL cQ:List S}{d:Option Nat}{at':Array TypeId}{ty:TypeId}{pos:String}{af:Array Edge}{Q:Post}{ρ:Env}{w:World}
   (Hf:ops.toList=L1++⟨d,.call { callee:=.value (.tmp f),args:=#[.tmp x],argTypes:=at'},ty,pos,af,none⟩::L2) (h1:il P N ops L1=some eL) (h2:il P N ops L2=some cQ) (hd:GK N d=true)
   (h:wpS P eL ρ w fun Hg w1=>∃l v m R,Hg.get f=some (.func (.yield l) #[] #[])/\Hg.get x=some v/\YieldAt Fence.wide m P l #[v] w1 R/\∀e w2,R e w2->∃u,e=.returned u/\wpS P cQ (Hg.put d u) w2 fun ρ w=>Q .normal ρ w) :
   dD P N (.raw (.region id ops false)) Q ρ w:=by
 intro dl a hg;refine(wpIn_wide (n:=0)).1 (wpIn_region_list ?_);rw[Hf];refine KW (G:=fun a w=>wpListIn Fence.wide 0 P ops (sK dl N Q) (_::L2) a w) (fun _ _ h=>h) L1 a w (Eh L1 eL ρ a w _ h1 h hg ?_);rintro Hg a1 w1 fE ⟨l,v,m,R,e1,e2,hy,hk⟩;unfold wpListIn;rw[if_pos (by simp[Region.wanted])];refine agJ (fE.agree (.tmp f) _ e1) (fE.agree (.tmp x) _ e2) hy ?_;intro e w2 hr;obtain⟨u,rfl,hk⟩:=hk e w2 hr;refine⟨u,rfl,?_⟩;have iF:Good dl N (Hg.put d u) (a1.put d u):=fE.put d u (fun t ht=>by subst ht;simpa[GK]using hd);have:=KW (n:=0) (ops:=ops) (G:=fun a w=>sK dl N Q .normal a w) (Q:=sK dl N Q) (L2:=[]) (fun a w h=>h) L2 _ _ (Eh L2 cQ _ _ _ _ h2 hk iF (fun ρ' a' w' dR hq=>⟨ρ',dR,hq⟩));rw[List.append_nil]at this;exact this
def vy(P:Program)(N:Nat)(H:HL)(tW:List Nat):Code->Option IR
 |.seq a b=>(vy P N H tW a).bind fun x=>(vy P N H tW b).map (.seq x)
 |.cond c a b=>(vy P N H tW a).bind fun x=>(vy P N H tW b).map (.cond (bI c) x)
 |.block id a=>(vy P N H tW a).map (.block id)
 |.region id ops draw=>if id∈tW then some (.raw (.region id ops draw))else gQ P N H (.region id ops draw)
 |c=>gQ P N H c
theorem agL{H:HL}{tW:List Nat}:∀(c:Code) (ir:IR) (Q:Post) (ρ:Env) (a:Act) (w:World),vy P N H tW c=some ir->dD P N ir Q ρ w->Good dl N ρ a->c.wp P (sK dl N Q) a w:=by
 intro c
 induction c with
 |seq x y ku oR=>
  intro ir Q ρ a w h hw hg;simp only[vy]at h;obtain⟨a1,h1,h⟩:=Θ.1 h;obtain⟨b1,h2,h⟩:=Δ.1 h;subst h;refine wp_seq (wp_mono (ku a1 _ ρ a w h1 hw hg) ?_);intro e a' w' hq;obtain⟨ρ',dR,hq⟩:=hq;cases e with
  |normal=>exact oR b1 Q ρ' a' w' h2 hq dR
  |_=>exact⟨ρ',dR,hq⟩
 |cond c x y ku oR=>
  intro ir Q ρ a w h hw hg;simp only[vy]at h;obtain⟨a1,h1,h⟩:=Θ.1 h;obtain⟨b1,h2,h⟩:=Δ.1 h;subst h;obtain⟨t,hc,ht,hf⟩:=hw;have he:=hg.agree c _ hc;exact wp_cond_split he (fun e=>ku a1 Q ρ a w h1 (ht e) hg) (fun e=>oR b1 Q ρ a w h2 (hf e) hg)
 |block id x ih=>
  intro ir Q ρ a w h hw hg;simp only[vy]at h;obtain⟨a1,h1,h⟩:=Δ.1 h;subst h;refine wp_block (wp_mono (ih a1 _ ρ a w h1 hw hg) ?_);intro e a' w' hq;obtain⟨ρ',dR,hq⟩:=hq;cases e with
  |exit oQ=>
   simp only[Exit.inBlock,mB]at hq ⊢
   split
   .rename_i hh;rw[if_pos hh]at hq;exact⟨ρ',dR,hq⟩
   .rename_i hh;rw[if_neg hh]at hq;exact⟨ρ',dR,hq⟩
  |_=>exact⟨ρ',dR,hq⟩
 |region id ops draw=>
  intro ir Q ρ a w h hw hg;simp only[vy]at h
  split at h
  .simp only[Option.some.injEq]at h;subst h;exact hw dl a hg
  .exact Kz _ ir Q ρ a w h hw hg
 |_=>
  intro ir Q ρ a w h hw hg;exact Kz _ ir Q ρ a w h hw hg
structure KX (P:Program) (f:Nat) (rN:Nat) (H:HL) (tW:List Nat) (ir:IR) (rs:List RV) (N:Nat):Prop where
 go:∃fn c,P.funcs[f]?=some fn/\fn.body=some c/\fn.ntmps=N/\rN<=N/\vy P N H tW c=some ir/\sL P fn.results.toList=some rs
theorem KX.calls{f:Nat}{rN:Nat}{H:HL}{tW:List Nat}{ir:IR}{rs:List RV}(h:KX P f rN H tW ir rs N){args:List Value}(hn:args.length=rN){w:World}{R:Value→World→Prop}
   (hw:dD P N ir (GS rs R) (sM 0 args) w):bu P f args w R:=by
 obtain⟨fn,c,hf,hb,hN,hle,hd,GU⟩:=h.go;refine calls_of_wp hf hb ?_;have hg:Good [] N (sM 0 args) { tmps:=args.toArray++Array.replicate (fn.ntmps-args.toArray.size) undef,defers:=[]}:=by
  refine⟨?_,rfl,?_⟩
  .simp only[Array.size_append,List.size_toArray,Array.size_replicate];omega
  .intro t v ht;obtain ⟨_,h2⟩:=PN args 0 t v ht;have bg:t < args.length:=by
    rcases Nat.lt_or_ge t args.length with h |h
    .exact h
    .simp[List.getElem?_eq_none h]at h2
   simp only[Nat.sub_zero]at h2;rw[Array.getElem?_append_left (by simpa using bg)]
   simpa using h2
 refine wp_mono (agL c ir _ _ _ _ hd hw hg) ?_;intro e a' w' hq;obtain⟨ρ',dR,hq⟩:=hq;have fin:(∃vs,aM w' ρ' rs=some vs/\R (aN vs) w')->a'.defers=[]/\∃v,(results fn a'.tmps).run P w'=.ok v w'/\∃u,Ending.returned v=.returned u/\R u w':=by
  rintro⟨vs,h1,h2⟩;refine⟨dR.defers,aN vs,oL ?_,_,rfl,h2⟩;unfold results;rw[dF,Array.mapM_eq_mapM_toList,Gw];have:=PK (P:=P) dR fn.results.toList rs vs GU h1;refine Eq.trans (congrArg (fun o:Option (List Value)=>(o.map List.toArray).bind fun vs=>ro P w' (pure (if h:vs.size=1 then vs[0]else .tuple vs):Sem Value)) this) ?_;simp only[Option.map_some,Option.bind_some,ig,List.size_toArray,Option.some.injEq]
  match vs with
  |[]=>rfl
  |[v]=>rfl
  |v::u::l=>simp[aN]
 cases e with
 |normal=>exact fin hq
 |ret=>exact fin hq
 |_=>exact hq.elim
end
end Go.W
namespace Go.Proofs.YtekkkjbjnhipkaaGreatDoor
section
open Go Go.W
mutual
def Ty.xv:Ty->Nat
 |.mk k _ l=>if k == 2 then 1 else tX l
def tX:List Ty->Nat
 |[]=>0
 |t::l=>t.xv+tX l
end
theorem Ty.Xk(t:Ty):t.xv=if t.kind == 2 then 1 else tX t.args:=by cases t;rw[Ty.xv];rfl
theorem agM{l:List Ty}{i:Nat}(hi:i<l.length):tX (l.drop i)=l[i].xv+tX (l.drop (i+1)):=by rw[Ω hi,tX]
theorem Xl(t:Ty):(1<=t.nodes/\t.nodes<=501)/\(t.nodes<=500->(t.xv:Int)<=t.nodes):=by
 induction t using Ty.ind with
 |h t ih=>
 have key:∀(l:List Ty),(∀u∈l,(1<=u.nodes/\u.nodes<=501)/\(u.nodes<=500->(u.xv:Int)<=u.nodes))->∀n:Int,1<=n->n<=1001->n<=nq l n/\(nq l n<=500->n+tX l<=nq l n):=by
  intro l
  induction l with
  |nil=>intro _ n h1 h2;rw[nq,tX];exact⟨Int.le_refl _,fun _=>by omega⟩
  |cons u l jZ=>
   intro hu n h1 h2;obtain⟨⟨a1,a2⟩,a3⟩:=hu u (by simp);rw[nq,tX]
   split
   .exact⟨Int.le_refl _,fun h=>by omega⟩
   .have e:Wr (n+u.nodes)=n+u.nodes:=dJ (by omega) (by omega);rw[e];obtain⟨b1,b2⟩:=jZ (fun v hv=>hu v (by simp[hv])) (n+u.nodes) (by omega) (by omega);refine⟨by omega,fun h=>?_⟩;have:=b2 h;have:=a3 (by omega);omega
 obtain⟨k1,k2⟩:=key t.args ih 1 (by omega) (by omega);rw[t.Qa,t.Xk];refine⟨⟨by omega,by omega⟩,fun h=>?_⟩
 split
 .omega
 .have:=k2 (by omega);omega
structure nw (A C:World):Prop where
 size:A.heap.size<=C.heap.size
 bO:∀(b:Nat) (o:Obj),A.heap[b]?=some o->o.isCells=true->C.heap[b]?=some o
theorem nw.trans{A B C:World}(h:nw A B)(k:nw B C):nw A C:=⟨Nat.le_trans h.size k.size,fun b o ho hc=>k.bO b o (h.bO b o ho hc) hc⟩
theorem nw.KY{A C:World}(h:Mod (fun _=>False) A C):nw A C:=⟨h.size,fun b o ho _=>h.at ho Ψ⟩
theorem nw.cell{A C:World}(h:nw A C){a:Addr}{v:Value}(ha:A.cell? a=some v):C.cell? a=some v:=by
 have bg:=World.block_lt_of_cell? A a ha;have ho:A.heap[a.block]?=some A.heap[a.block]:=Array.getElem?_eq_getElem bg;have hc:A.heap[a.block].isCells=true:=by
  unfold World.cell? at ha;rw[ho]at ha;cases hx:A.heap[a.block]<;>rw[hx]at ha<;>first |rfl |cases ha
 rw[World.cell?_of_block ((h.bO _ _ ho hc).trans ho.symm)];exact ha
theorem Xm{A C:World}{v:Value}{sz:Nat}{rows:List (List Value)}{B:Nat->Prop}(h:vq A v sz rows B)(hk:nw A C):vq C v sz rows B:=by
 obtain⟨a,c,rfl,hb,h⟩:=h;refine⟨a,c,rfl,hb,fun i hi=>?_⟩;obtain⟨ad,rfl,hl,hc⟩:=h i hi;exact⟨ad,rfl,hl,fun k tY=>hk.cell (hc k tY)⟩
theorem aR.kp{A C:World}{B:Nat->Prop}{cs:List Value}{t:Ty}(h:aR A B cs t)(hk:nw A C):aR C B cs t:=by
 induction h with
 |mk hr hl he ih=>exact .mk ⟨Xm hr.1 hk,hr.2⟩ hl (fun i r t a b=>ih i r t a b)
theorem Qk{β:Type}{B:Nat}{J:β->World->Prop}(h:AbidesFrom B J){s:β}{W W':World}(hj:J s W)(hm:Mod (fun _=>False) W W'):J s W':=
 h s W W' none hj ⟨hm.os,hm.tape,hm.output,hm.size,fun k hk _=>hm.bO k hk Ψ⟩ (fun r e=>by cases e)
def Cj(id:Nat):Code->Option (Array Oper)
 |.region i ops false=>if i == id then some ops else none
 |.seq a b=>(Cj id a).orElse fun _=>Cj id b
 |.cond _ a b=>(Cj id a).orElse fun _=>Cj id b
 |.block _ a=>Cj id a
 |.loop a=>Cj id a
 |_=>none
noncomputable def AI:Array Oper:=((Tryz.f128.body.bind (Cj 2)).getD #[])
noncomputable def Xn:IR:=.seq (.eJ false [.e (some 2) (.bx 52 (.t 0))] [1,2]) <|
 .seq (.seq (.eJ false [.r (some 7) (.fa 0 (.t 2)),
.r (some 8) (.l1 (.t 7)),
.r (some 9) (.bi .eql (.t 8) (.c (.int .i64 2)))] [1,2,9]) <|
 .cond (.t 9) (.seq (.raw (.region 2 AI false)) <|
 .ret) (.skip)) <|
 .seq (.seq (.eJ false [.r (some 14) (.fa 2 (.t 2)),
.r (some 15) (.l1 (.t 14)),
.r (some 16) (.len (.t 15)),
.r (some 17) (.mv (.c (.int .i64 0)))] [1,15,16,17]) <|
 .block 0 (.loop agf)) <|
 .seq (.eJ false [.r (some 4) (.mv (.c (.bool true)))] [4]) <|
 .ret
theorem agN:KX Tryz.prog 128 2 [(0,[1,2],[]),(1,[1,2,9],[]),(2,[4],[]),(3,[1,15,16,17],[]),(4,[1,15,16,17,18],[]),(5,[1,6,15,16,17],[]),(6,[1,15,16,17,24],[]),(7,[4],[]),(8,[1,15,16,17],[]),(9,[4],[])] [2] Xn [.t 4] 26:=
 ⟨Tryz.f128,_,rfl,rfl,rfl,by decide,by kernel_rfl,by kernel_rfl⟩
theorem agO:AI.toList=AI.toList.take 3++⟨some 13,.call { callee:=.value (.tmp 10),args:=#[.tmp 12],argTypes:=#[9]},4, "types.go:120",#[⟨0,.data⟩,⟨2,.data⟩],none⟩::AI.toList.drop 4:=by kernel_rfl
theorem agP:il Tryz.prog 26 AI (AI.toList.take 3)=some [.r (some 10) (.mv (.t 1)),.r (some 11) (.fa 1 (.t 2)),.r (some 12) (.l1 (.t 11))]:=by kernel_rfl
theorem agQ:il Tryz.prog 26 AI (AI.toList.drop 4)=some [.r (some 4) (.mv (.t 13))]:=by kernel_rfl
theorem agR{l N m A:Nat}{J Jx:List ByteArray→World→Prop}(hJ:AbidesFrom A J)
   (hY:∀pre x W,J pre W->pre.length<N->YieldAt Fence.wide m Tryz.prog l #[.string x] W fun e W'=>(e=.returned (.bool true)/\J (pre++[x]) W'/\nw W W')\/(e=.returned (.bool false)/\Jx (pre++[x]) W'))
   (t:Ty):∀{w:World} {B:Nat->Prop} {cs:List Value} {pre:List ByteArray},aR w B cs t->J pre w->pre.length+t.xv<=N ->
   bu Tryz.prog 128 [.agg cs.toArray,.func (.yield l) #[] #[]] w fun r w'=>(r=.bool true/\nw w w'/\∃Ck,J Ck w'/\Ck.length=pre.length+t.xv)\/(r=.bool false/\∃Ck,Jx Ck w'):=by
 induction t using Ty.ind with
 |h t ih=>
 intro w B cs pre h hj hN;obtain⟨v,rfl,hl⟩:=h.cells;obtain⟨a,c,rfl⟩:=bq hl;refine agN.calls rfl ?_;unfold Xn;refine σ ?_;refine bZ rfl ?_;intro w1 au ak _;rw[t.Xk]at hN ⊢;simp only[go_sem,simprocAttr,cell_of au,Value.cells];cases hk:t.kind == 2 with
 |true=>
  rw[if_pos hk]at hN;refine σ ?_;refine agK agO agP agQ rfl ?_;simp only[go_sem,simprocAttr,cell_of au,Value.cells];refine⟨l,_,m,_,rfl,rfl,hY pre t.name w1 (Qk hJ hj ak) (by omega),?_⟩;rintro e w2 (⟨rfl,tZ,pW⟩ |⟨rfl,tZ⟩)
  .refine⟨_,rfl,?_⟩;refine σ ?_;exact .inl ⟨(nw.KY ak).trans pW,_,tZ,by simp⟩
  .refine⟨_,rfl,?_⟩;refine σ ?_;exact .inr ⟨_,tZ⟩
 |false=>
  rw[if_neg (by rw[hk];simp)]at hN;simp only[go_sem,simprocAttr,cell_of au,Value.cells];refine eW t.args.length (fun k ρ w'=>nw w w'/\k<=t.args.length/\(∃Ck,J Ck w'/\Ck.length+tX (t.args.drop k)=pre.length+tX t.args)/\ρ=[(1,.func (.yield l) #[] #[]),(15,.slice a t.args.length c),(16,I t.args.length),(17,I k)]) ⟨.KY ak,by omega,⟨pre,Qk hJ hj ak,rfl⟩,rfl⟩ (dI hl) ?_ ?_ (by decide) ?_
  .rintro k _ w2 ⟨_,hk,_,rfl⟩;exact⟨rfl,rfl,hk⟩
  .rintro k _ w2 ⟨pW,_,⟨Xo,tZ,vz⟩,rfl⟩ hk;obtain⟨rows,o0,qU,uc⟩:=hl;have gX:aX w2 (.slice a t.args.length c) 3 B (aR w2 B) t.args:=⟨rows,⟨Xm o0.1 pW,o0.2⟩,qU,fun i r u h1 h2=>(uc i r u h1 h2).kp pW⟩;obtain⟨ad,c,r,e,hr,cG,cR,_⟩:=dT gX hk;cases e;have b1:(0:Int)<=k/\(k:Int)<t.args.length:=by omega
   simp only[go_sem,simprocAttr,bG,bH,b1,cR];refine eC rfl cG hr.one ?_;intro w3 aS aw _;simp only[go_sem,simprocAttr,aE aS cG];refine aL (by rfl) ?_;rw[agM hk]at vz;refine(ih _ (List.getElem_mem hk) (hr.mod aw aA) (Qk hJ tZ aw) (by omega)).mono ?_;rintro _ w4 (⟨rfl,pX,Ql,Hh,hn4⟩ |⟨rfl,Ql,Hh⟩)
   .refine σ ?_;exact⟨pW.trans ((nw.KY aw).trans pX),hk,Ql,Hh,by omega⟩
   .refine σ ?_;exact .inr ⟨Ql,Hh⟩
  .rintro _ w2 ⟨pW,_,⟨Xo,tZ,vz⟩,rfl⟩;rw[List.drop_length,tX]at vz;refine σ ?_;exact .inl ⟨pW,Xo,tZ,by simpa[hk]using vz⟩
end
section
open Go Go.W
end
section
open Go Go.W
theorem agS{P:Program}{w:World}{ρ:Env}{K:Value→World→Prop}{s d:TypeId}{x:Operand}{k k':IntKind}{n:Int}{dst:Option Nat}{ty:TypeId}{pos:String}{af:Array Edge}(hx:(bI x).ev ρ=some (.int k n))(h1:P.underlying s=some (.int k'))(h2:P.underlying d=some .string)
   (hk:K (.string (Utf8.encode n)) w):E.wp P w ρ K (.raw ⟨dst,.convert s d x,ty,pos,af,none⟩):=by
 refine mz fun a ha=>⟨_,w,?_,hk⟩
 have g1:ro P w (underlying s)=some (.int k'):=by rw[jC,h1]
 have g2:ro P w (underlying d)=some .string:=by rw[jC,h2]
 simp only[execOp,convert,Sem.run_bind,oL g1,oL g2,Result.andThen_ok,ha x _ hx,Conv.intToString,Sem.run_pure]
theorem agT(r:Int):(Utf8.encode r).size<=4:=by
 unfold Utf8.encode;generalize(if Utf8.valid r=true then r.toNat else Utf8.runeError)=c;simp only
 repeat' split
 .exact(by decide:(1:Nat)<=4)
 .exact(by decide:(2:Nat)<=4)
 .exact(by decide:(3:Nat)<=4)
 .exact(by decide:(4:Nat)<=4)
theorem agU(u:Nat)(h:u<100):(Lib.decDigits u).length<=2:=by
 rw[Lib.decDigits]
 split
 .simp
 .rw[Lib.decDigits,dif_pos (by omega)];simp
theorem agV(n:Nat)(hn:n<2000){w:World}:bu Tryz.prog 116 [I n] w fun r w'=>(∃s,r=.string s)/\w=w':=by
 refine γ Tryz.f116 ?_;have Xp:¬((26:Int)=0):=by decide
 simp only[go_sem,simprocAttr,Xp];refine agS (k':=.i32) rfl rfl rfl ?_;generalize hc:Utf8.encode _=c;have bT:c.size<=4:=by rw[<- hc];exact agT _
 cases h:decide ((n:Int)<26)with
 |true=>refine σ ?_;exact⟨_,rfl⟩
 |false=>
  have e:IntKind.i64.wrap ((n:Int).tdiv 26)=((n / 26:Nat):Int):=by
   rw[Int.tdiv_eq_ediv_of_nonneg (by omega),dJ (by omega) (by omega)];omega
  simp only[go_sem,simprocAttr,Xp,e];refine aL (by rfl) ?_;have hu:n / 26<100:=by omega
  refine bu.mono (R:=fun r w'=>r=.string ⟨(Lib.decDigits (n / 26)).toArray⟩/\w'=w) (Calls.mono (Tryz.strconv_Itoa_small (n / 26) hu w) (fun e w' h=>⟨_,h.1,rfl,h.2⟩)) ?_;rintro _ _ ⟨rfl,rfl⟩;have hz:¬(((c.size+(Lib.decDigits (n / 26)).toArray.size:Nat):Int)>IntKind.i64.max):=by
   have:=agU _ hu;have e2:(Lib.decDigits (n / 26)).toArray.size=(Lib.decDigits (n / 26)).length:=by simp
   rw[e2];have:IntKind.i64.max=9223372036854775807:=rfl;omega
  simp only[go_sem,simprocAttr,hz];exact⟨_,rfl⟩
structure Qm (w0:World) (T b m n:Nat) (W:World):Prop where
 mod:Mod (· = m) w0 W
 box:W.heap[b]?=some (.cells #[.map (some m)] T (0,0))
 map:∃l,od W m l/\(∀p∈l,Ci p.2)/\l.length<=n
theorem agW(l:List (ByteArray×Value))(k:ByteArray)(v:Value):(yT l k v).length<=l.length+1:=by
 unfold yT
 split<;>simp
theorem agX{l:List (ByteArray×Value)}{k:ByteArray}{v:Value}(h:∀p∈l,Ci p.2)(hv:Ci v):∀p∈yT l k v,Ci p.2:=by
 intro p hp;unfold yT at hp
 split at hp
 .rcases List.mem_or_eq_of_mem_set hp with hp |rfl
  .exact h p hp
  .exact hv
 .rcases List.mem_append.1 hp with hp |hp
  .exact h p hp
  .rw[List.mem_singleton.1 hp];exact hv
theorem agY{w0:World}{T b m n:Nat}(h1:m<w0.heap.size)(h2:b<w0.heap.size):Quiet w0.heap.size (Qm w0 T b m n):=by
 intro W W' S hi hm hS;have nb:∀c,c<w0.heap.size->¬S c:=fun c hc hs=>by have:=(hS c hs).1;omega
 obtain⟨l,hl,ha,hn⟩:=hi.map;exact⟨hi.mod.step hm (fun i dZ bg=>absurd dZ (nb i bg)),hm.at hi.box (nb b h2),l,sP hl hm (nb m h1),ha,hn⟩
theorem agZ{N m:Nat}{w:World}{b:Nat}{B:Nat→Prop}{cs:List Value}{t:Ty}(h:aR w B cs t)(hB:∀ c,B c→c < w.heap.size)(hb:w.heap[b]? = some (.cells cs.toArray dH (0,0)))(hn:t.xv≤N) :
   SeqStopsK Fence.wide m Tryz.prog 127 #[ptr b] (fun y:ByteArray=>#[.string y]) nw (fun _=>True) (fun _=>True) N w:=by
 intro l J Jx W hW hJ _ hY h0;refine callsIn_wide.2 ?_;have Qn:W.heap[b]?=some (.cells cs.toArray dH (0,0)):=(hW.block b (bP hb)).trans hb;have hm:Mod (fun c=>w.heap.size<=c) w W:=⟨hW.size,fun c hc _=>hW.block c hc,hW.os,hW.tape,hW.output⟩;have ht:aR W B cs t:=h.mod hm (fun c hc hs=>by have:=hB c hc;omega);have main:bu Tryz.prog 127 [.func (.yield l) #[] #[],ptr b] W fun r W'=>(∃xs,True/\J xs W')\/(∃pre,True/\Jx pre W'):=by
  refine γ Tryz.f127 ?_;simp only[go_sem,simprocAttr,aE Qn ht.len];refine δ (by rfl) (agR (N:=N) hJ hY t ht h0 (by simpa using hn)) ?_;rintro _ W' (⟨rfl,_,xs,hj,_⟩ |⟨rfl,xs,hj⟩)
  .refine σ ?_;exact .inl ⟨xs,hj⟩
  .refine σ ?_;exact .inr ⟨xs,hj⟩
 exact Calls.mono main fun e W' ⟨v,he,hv⟩=>⟨⟨v,he⟩,hv⟩
end
end Go.Proofs.YtekkkjbjnhipkaaGreatDoor
section
namespace Go.W
open Go
section
variable {P:Program} {N:Nat} {Q:sO} {Ds:List Nat} {ρ:Env} {w:World} {next:List Nat->Env->World->Prop} {i j:Nat} {rs:List RV} {R:Value->World->Prop}
@[go_sem] theorem aqk {x:IR}:lR P N (.ir x) Q Ds ρ w=dD P N x (fun e ρ w=>Q e Ds ρ w) ρ w:=rfl
@[go_sem] theorem aql {a b:K}:lR P N (.seq a b) Q Ds ρ w=lR P N a (G0 (fun Ds ρ w=>lR P N b Q Ds ρ w) Q) Ds ρ w:=rfl
@[go_sem] theorem aqm {a:K}:lR P N (.jX i a) Q Ds ρ w=lR P N a (Ey i Q) Ds ρ w:=rfl
@[go_sem] theorem aqn:G0 next Q .normal Ds ρ w=next Ds ρ w:=rfl
@[go_sem] theorem aqo:G0 next Q .ret Ds ρ w=Q .ret Ds ρ w:=rfl
@[go_sem] theorem aqp:G0 next Q (.exit i) Ds ρ w=Q (.exit i) Ds ρ w:=rfl
@[go_sem] theorem aqq:Ey j Q .normal Ds ρ w=Q .normal Ds ρ w:=rfl
@[go_sem] theorem aqr:Ey j Q .ret Ds ρ w=Q .ret Ds ρ w:=rfl
@[go_sem] theorem aqs:Ey j Q (.exit i) Ds ρ w=if i=j then Q .normal Ds ρ w else Q (.exit i) Ds ρ w:=rfl
theorem ag0{e:Exit}(he:e=.normal\/e=.ret)(h:∀w',Mod (fun _=>False) w w'->∃vs,aM w' ρ rs=some vs/\R (aN vs) w'):KK rs R e [] ρ w:=
 ⟨he,(fun D h=>by cases h),List.nodup_nil,fun w' hm _=>h w' (hm.aU (fun b hb=>by cases hb))⟩
theorem ag1{e:Exit}{D:Nat}(he:e=.normal\/e=.ret)(hD:w.heap[D]?=some (.deferred (some [])))(h:∀w',Mod (· = D) w w'->∃vs,aM w' ρ rs=some vs/\R (aN vs) w'):KK rs R e [D] ρ w:=
 ⟨he,(fun D' h=>by obtain rfl:=List.mem_singleton.1 h;exact hD),List.nodup_cons.2 ⟨(by simp),List.nodup_nil⟩,fun w' hm _=>h w' (hm.aU (fun b hb=>List.mem_singleton.1 hb))⟩
end
end Go.W
namespace Go.Proofs.YtekkkjbjnhipkaaGreatDoor
open Go Go.W
theorem ag2{w:World}{m:Nat}{l:List (ByteArray×Value)}(h:od w m l):∃es Xq,w.heap[m]?=some (.map es Xq)/\es.size=l.length:=by
 obtain⟨es,c,h1,h2,_⟩:=h;have:=congrArg List.length h2;simp only[List.length_map,Array.length_toList]at this;exact⟨es,c,h1,this⟩
theorem Xr{B m:Nat}{W W':World}(h:Mod (· = m) W W')(hm:m<B):KeepsFrom B W W':=
 ⟨h.size,fun k o hB hk _=>h.at hk (by omega)⟩
theorem ag3{m:Nat}{W W':World}{l:List (ByteArray×Value)}(h:Mod (· = m) W W')(hm:od W m l):nw W W':=
 ⟨h.size,fun b o hb hc=>h.at hb (fun e=>by
  subst e;obtain⟨es,c,h1,_⟩:=hm
  rw[h1]at hb;cases hb;cases hc)⟩
theorem ag4{w:World}{cs:List Value}:bu Tryz.prog 115 [.agg cs.toArray] w fun r w'=>r=.func (.func 127) #[] #[ptr w.heap.size]/\w'.heap[w.heap.size]?=some (.cells cs.toArray dH (0,0))/\Mod (fun _=>False) w w':=by
 refine γ Tryz.f115 ?_;refine σ ?_;refine bZ rfl ?_;intro w1 au ak _;refine σ ?_;exact⟨au,ak⟩
theorem ag5(t:Ty){w:World}{B:Nat→Prop}{cs:List Value}(h:aR w B cs t)(hB:∀ b,B b→b < w.heap.size) :
   bu Tryz.prog 98 [.agg cs.toArray] w fun r w'=>(∃a,Qh a/\r=.tuple #[a,I (lS t)])/\Mod (fun _=>False) w w':=by
 refine γK Tryz.f98 ?_;refine σ ?_;refine bZ rfl ?_;intro w1 au ak cw;refine σ ?_;refine cX ?_;intro w2 az ai bU;have au:=ai.at au Ψ;have bo:=ak.trans ai;simp only[go_sem,simprocAttr,aE (n:=3) (cs:=cs) au h.len];refine δ (by rfl) (Xd t (h.mod bo aA)) ?_;rintro _ w3 ⟨rfl,aw⟩;have au:=aw.at au Ψ;have az:=aw.at az Ψ;have bz:=bo.trans aw;refine σ ?_;cases hw:lS t != 0 with
 |true=>
  refine σ ?_;refine bN (cs:=[I 0,.string bM,.slice none 0 0]) (vs:=[I 0,.string bM,.slice none 0 0]) rfl rfl az rfl rfl (aP rfl (aP rfl (aP rfl dq))) ?_;intro w4 bm aD dL;refine σ ?_;refine ag0 (.inr rfl) ?_;intro w5 aH;simp only[go_sem,simprocAttr,aM,RV.ev,aE (n:=3) (aH.at bm Ψ) rfl,aN];exact⟨⟨_,⟨_,rfl,rfl,aP rfl (aP rfl (aP rfl dq))⟩,rfl⟩,(bz.step aD (fun x hx hl=>by omega)).trans aH⟩
 |false=>
  have KZ:lS t=0:=by simpa using hw
  refine σ ?_;refine WU ?_;intro w4 mY aD dL;refine σ ?_;refine cX ?_;intro w5 bY aH eY;refine σ ?_;refine eK rfl rfl bY rfl (by simp) ?_;intro w6 cH aG fw;have Qo:Mod (fun _=>False) w3 w6:=(aD.trans aH).step aG (fun x hx hl=>by omega);have mY:=sP (sP mY aH Ψ) aG (by omega);have au:=Qo.at au Ψ;have az:=Qo.at az Ψ;simp only[go_sem,simprocAttr,aE (n:=3) (cs:=cs) au h.len];refine δ (by rfl) (ag4 (cs:=cs)) ?_;rintro _ w7 ⟨rfl,dh,aO⟩;have h37:=Qo.trans aO;have K2:=bz.trans h37;have mY:=sP mY aO Ψ;have au:=aO.at au Ψ;have az:=aO.at az Ψ;have cH:=aO.at cH Ψ;have ht:=h.mod K2 aA;have hv:t.xv<=500:=by
   unfold lS at KZ
   split at KZ
   .omega
   .split at KZ
    .omega
    .have:=(Xl t).2 (by omega);omega
  have z2:=ai.size;have z3:=aw.size;have z7:=aO.size;have Qp:w3.heap.size<w7.heap.size:=by omega
  have ny:w4.heap.size<w7.heap.size:=by omega
  refine σ ?_;refine⟨1,500,127,#[ptr w6.heap.size],nw,fun xs W=>Qm w7 125 w4.heap.size w3.heap.size xs.length W,⟨rfl,fun _ _=>rfl,agZ ht (fun b hb=>by have:=hB b hb;have:=K2.size;omega) dh hv,rfl,by decide,fun h k=>h.trans k,?_,⟨⟨.refl _ _,cH,_,mY,by simp,by simp⟩,fun s=>agY Qp ny,?_⟩⟩,?_⟩
  .intro W l o o' hl hW ho _;exact⟨by simp,fun b o2 hb hc=>by rw[World.putObj_heap_other (fun e=>by subst e;rw[hW]at hb;cases hb;rw[ho]at hc;cases hc)];exact hb⟩
  .intro pre x W hi aqt;obtain ⟨l,hl,ha,hn⟩:=hi.map;have lU:=hi.box;simp only [go_sem,simprocAttr,cell_of lU];refine G8 (k:=x) (kt:=9) (et:=dH) rfl rfl rfl rfl (Tryz.zeroValue52 _) hl ?_;have fin:∀ W',Mod (fun _=>False) W W'→KeepsFrom w7.heap.size W W'∧nw W W'∧Qm w7 125 w4.heap.size w3.heap.size (pre++[x]).length W':=fun W' hm=>
    ⟨Xr (m:=w3.heap.size) (hm.aU (fun _ h=>h.elim)) Qp,.KY hm,hi.mod.step hm (fun _ h=>h.elim),hm.at lU Ψ,l,sP hl hm Ψ,ha,by simp;omega⟩
   have st:∃cu:List Value,(oe l x).getD (.agg #[.int .i64 0,.string ⟨#[]⟩,.slice none 0 0])=.agg cu.toArray/\cu.length=3/\∀u∈cu,u.oneCell'=true:=by
    cases hg:oe l x with
    |none=>exact⟨[I 0,.string bM,.slice none 0 0],rfl,rfl,aP rfl (aP rfl (aP rfl dq))⟩
    |some u=>
     obtain⟨p,hp,rfl⟩:=Xi hg;obtain⟨cu,tu,e,yJ⟩:=(ha p hp).ty W B;exact⟨cu,e,yJ.len,yJ.one⟩
   obtain⟨cu,hcu,cT,gp⟩:=st;simp only[go_sem,simprocAttr,hcu];refine eC (n:=3) (vs:=cu) rfl cT gp ?_;intro W1 _ yY _;cases hg:(oe l x).isSome with
   |true=>refine σ ?_;exact fin _ yY
   |false=>
    have Xs:=yY.at lU Ψ;have oh:=sP hl yY Ψ;have ag6:od W1.drew w3.heap.size l:=oh;obtain⟨es,Xq,K4,bV⟩:=ag2 oh;simp only[go_sem,simprocAttr,cell_of Xs,K4,bV];refine δ (by rfl) (agV l.length (by omega)) ?_;rintro _ _ ⟨⟨s,rfl⟩,rfl⟩;refine σ ?_;refine WV (k:=x) (kt:=9) (et:=dH) rfl rfl rfl rfl rfl ag6 ?_;intro W2 gX Cm sU;have K5:Mod (· = w3.heap.size) W1 W2:=Cm.dG;have Qq:Mod (· = w3.heap.size) W W2:=(yY.aU (fun _ h=>h.elim)).trans K5;refine σ ?_;refine⟨Xr Qq Qp,ag3 Qq hl,hi.mod.trans Qq,K5.at Xs (by omega),_,gX,agX ha ⟨s,rfl⟩,?_⟩;have:=agW l x (.agg #[.int .i64 2,.string s,.slice none 0 0]);simp only[List.length_append,List.length_cons,List.length_nil];omega
  .intro D xs W hD hi Xt;obtain⟨l,hl,ha,hn⟩:=hi.map;have yZ:=hi.mod;have au:=yZ.at au (by omega);have az:=yZ.at az (by omega);have hB7:∀b,B b->¬(b=w3.heap.size):=fun b hb=>by have:=hB b hb;have:=bz.size;omega
   simp only[go_sem,simprocAttr,aE (n:=3) (cs:=cs) au h.len,cell_of hi.box];refine δ (by rfl) (agD t (ht.mod yZ hB7) hl ha) ?_;rintro _ W1 ⟨⟨ca,rfl,cT,gp⟩,yY⟩;have az:=yY.at az Ψ;refine σ ?_;refine bN (cs:=[I 0,.string bM,.slice none 0 0]) rfl rfl az cT rfl gp ?_;intro W2 hB2 Cm sU;refine σ ?_;have hsW:=yZ.size;have bV:=yY.size;have zD:=bP Xt;refine ag1 (.inr rfl) (Cm.at (yY.at Xt Ψ) (by omega)) ?_;intro W3 xw;simp only[go_sem,simprocAttr,aM,RV.ev,aE (n:=3) (xw.at hB2 (by omega)) cT,aN,KZ];refine⟨⟨_,⟨ca,rfl,cT,gp⟩,rfl⟩,?_⟩;have h0W:Mod (fun _=>False) w W:=K2.step yZ (fun i hi hl=>by have:=bz.size;omega);exact((h0W.trans yY).step Cm (fun x hx hl=>by omega)).step xw (fun x hx hl=>by have:=K2.size;omega)
theorem Qr(t:Ty){w:World}{B:Nat→Prop}{cs:List Value}(h:aR w B cs t)(hB:∀ b,B b→b < w.heap.size) :
   bu Tryz.prog 70 [.agg cs.toArray] w fun r w'=>r=.bool (lS t == 0)/\Mod (fun _=>False) w w':=by
 refine γ Tryz.f70 ?_;refine σ ?_;refine bZ rfl ?_;intro w1 au ak cw;simp only[go_sem,simprocAttr,aE (n:=3) (cs:=cs) au h.len];refine δ (by rfl) (ag5 t (h.mod ak aA) (fun b hb=>by have:=hB b hb;omega)) ?_;rintro _ w2 ⟨⟨_,⟨ca,rfl,cT,gp⟩,rfl⟩,ai⟩;refine σ ?_;refine eC (n:=3) (vs:=ca) rfl cT gp ?_;intro w3 aS aw dU;refine σ ?_;exact ak.trans (ai.trans aw)
def ag7(s:ByteArray):Ty:=.mk 2 s []
def ag8(s:ByteArray):Ty:=.mk 4 s []
theorem om(w:World)(B:Nat->Prop)(k:Int)(s:ByteArray):aR w B [I k,.string s,.slice none 0 0] (.mk k s []):=by
 obtain⟨rows,h1,h2,h3⟩:=eB w 3 B (aR w B);exact .mk (args:=[]) h1 h2 h3
def vD(s:ByteArray):Bool:=lS (ag7 s)==0
def EN(s:ByteArray):Bool:=lS (ag8 s)==0
theorem Xu(s:ByteArray){w:World}:bu Tryz.prog 53 [.string s] w fun r w'=>r=.bool (vD s)/\Mod (fun _=>False) w w':=by
 refine γ Tryz.f53 ?_;refine σ ?_;refine δ (by rfl) (Qr _ (om w (fun _=>False) 2 s) (fun _ h=>h.elim)) ?_;rintro _ w1 ⟨rfl,ak⟩;refine σ ?_;exact⟨rfl,ak⟩
theorem ag9(s:ByteArray){w:World}:bu Tryz.prog 93 [.string s] w fun r w'=>r=.bool (EN s)/\Mod (fun _=>False) w w':=by
 refine γ Tryz.f93 ?_;refine σ ?_;refine δ (by rfl) (Qr _ (om w (fun _=>False) 4 s) (fun _ h=>h.elim)) ?_;rintro _ w1 ⟨rfl,ak⟩;refine σ ?_;exact⟨rfl,ak⟩
end Go.Proofs.YtekkkjbjnhipkaaGreatDoor
end
namespace Go.Proofs.YtekkkjbjnhipkaaGreatDoor
section
open Go Go.W
abbrev Out(S:Nat->Prop)(w:World):Nat->Prop:=fun b=>b<w.heap.size/\¬S b
section
variable {w w':World} {B B' S S':Nat->Prop} {cs:List Value} {α:Type} {v:Value} {sz:Nat} {P P':List Value->α->Prop} {l:List α}
theorem qR.up{rows:List (List Value)}(h:qR w v sz rows B)(hm:Mod S w w')(hd:∀b,B b->¬S b)(hB:∀b,B b->B' b):qR w' v sz rows B':=⟨h.1.mod hm hd hB,h.2⟩
theorem aX.up(h:aX w v sz B P l)(hm:Mod S w w')(hd:∀b,B b->¬S b)(hB:∀b,B b->B' b)(hp:∀r a,P r a->P' r a):aX w' v sz B' P' l:=by
 obtain⟨rows,h1,h2,h3⟩:=h;exact⟨rows,h1.up hm hd hB,h2,fun i r a hr ha=>hp _ _ (h3 i r a hr ha)⟩
theorem aR.up{t:Ty}(h:aR w B cs t)(hm:Mod S w w')(hd:∀b,B b->¬S b)(hB:∀b,B b->B' b):aR w' B' cs t:=by
 induction h with
 |mk hr hl he ih=>exact .mk (hr.up hm hd hB) hl (fun i r t a b=>ih i r t a b)
theorem ci.up{e:Ex}(h:ci w B cs e)(hm:Mod S w w')(hd:∀b,B b->¬S b)(hB:∀b,B b->B' b):ci w' B' cs e:=by
 induction h with
 |mk ht rR jY ha oU Hb hb sQ mE Hc hl iH cR hle oS qQ vm jZ=>
  refine .mk (ht.up hm hd hB) rR (fun i r t a b=>(jY i r t a b).up hm hd hB) (ha.up hm hd hB) oU qQ (hb.up hm hd hB) sQ (fun i r b x y=>?_) vm (hl.up hm hd hB) iH (fun i r a x y=>?_) jZ oS
  .obtain⟨h1,h2,h3⟩:=mE i r b x y;exact⟨h1,h2,h3.up hm hd hB⟩
  .obtain⟨vv,h1,h2,h3⟩:=cR i r a x y;exact⟨vv,h1,h2,h3.up hm hd hB (fun _ _ h=>h)⟩
theorem fj.up{k:Cn}(h:fj w B cs k)(hm:Mod S w w')(hd:∀b,B b->¬S b)(hB:∀b,B b->B' b):fj w' B' cs k:=by
 obtain⟨vf,e,h,hn⟩:=h;exact⟨vf,e,h.up hm hd hB (fun _ _ h=>h.up hm hd hB),hn⟩
theorem gC.up{d:Dt}(h:gC w B cs d)(hm:Mod S w w')(hd:∀b,B b->¬S b)(hB:∀b,B b->B' b):gC w' B' cs d:=by
 obtain⟨vp,vc,e,h1,h2⟩:=h;exact⟨vp,vc,e,h1.up hm hd hB (fun _ _ h=>h),h2.up hm hd hB (fun _ _ h=>h.up hm hd hB)⟩
theorem jE.up{d:Df}(h:jE w B cs d)(hm:Mod S w w')(hd:∀b,B b->¬S b)(hB:∀b,B b->B' b):jE w' B' cs d:=by
 obtain⟨vp,tc,bc,e,l1,l2,h1,h2,h3,hn⟩:=h;exact⟨vp,tc,bc,e,l1,l2,h1.up hm hd hB (fun _ _ h=>h),h2.up hm hd hB,h3.up hm hd hB,hn⟩
theorem j0.up{p:Pg}(h:j0 w B cs p)(hm:Mod S w w')(hd:∀b,B b->¬S b)(hB:∀b,B b->B' b):j0 w' B' cs p:=by
 obtain⟨vd,vf,e,h1,h2⟩:=h;exact⟨vd,vf,e,h1.up hm hd hB (fun _ _ h=>h.up hm hd hB),h2.up hm hd hB (fun _ _ h=>h.up hm hd hB)⟩
theorem aW:∀b,Out S w b->¬S b:=fun _ h=>h.2
theorem br(hm:Mod S w w'):∀b,Out S w b->Out S w' b:=fun b h=>⟨Nat.lt_of_lt_of_le h.1 hm.size,h.2⟩
theorem aR.aI{t:Ty}(h:aR w (Out S w) cs t)(hm:Mod S w w'):aR w' (Out S w') cs t:=h.up hm aW (br hm)
theorem ci.aI{e:Ex}(h:ci w (Out S w) cs e)(hm:Mod S w w'):ci w' (Out S w') cs e:=h.up hm aW (br hm)
theorem fM(hm:Mod S w w')(hs:∀b,b<w.heap.size->S' b->S b):∀b,Out S w b->Out S' w' b:=fun b h=>⟨Nat.lt_of_lt_of_le h.1 hm.size,fun hh=>h.2 (hs b h.1 hh)⟩
theorem aR.ext{t:Ty}(h:aR w (Out S w) cs t)(hm:Mod S w w')(hs:∀b,b<w.heap.size->S' b->S b):aR w' (Out S' w') cs t:=h.up hm aW (fM hm hs)
theorem ci.ext{e:Ex}(h:ci w (Out S w) cs e)(hm:Mod S w w')(hs:∀b,b<w.heap.size->S' b->S b):ci w' (Out S' w') cs e:=h.up hm aW (fM hm hs)
theorem aR.sub{t:Ty}(h:aR w (Out S' w) cs t)(hs:∀b,S b->S' b):aR w (Out S w) cs t:=h.up (.refl (fun _=>False) w) aA (fun b h=>⟨h.1,fun hh=>h.2 (hs b hh)⟩)
theorem aq(h:Mod (fun _=>False) w w'):Mod S w w':=h.aU (fun _ h=>h.elim)
theorem Co{t:List Ty}(h:aX w v 3 (Out S w) (aR w (Out S w)) t)(hm:Mod S w w'):aX w' v 3 (Out S w') (aR w' (Out S w')) t:=h.up hm aW (br hm) (fun _ _ h=>h.aI hm)
end
section
variable {α:Type}
def aJ(l:List (ByteArray×α))(k:ByteArray):Option α:=(l.find? (fun p=>decide (p.1=k))).map (·.2)
def bS(l:List (ByteArray×α))(k:ByteArray)(v:α):List (ByteArray×α):=match l.findIdx? (fun p=>decide (p.1=k))with
 |some i=>l.set i (k,v)
 |none=>l++[(k,v)]
def gq(l:List (ByteArray×α))(k:ByteArray):List (ByteArray×α):=match l.findIdx? (fun p=>decide (p.1=k))with
 |some i=>l.eraseIdx i
 |none=>l
inductive jo (R:Value->α->Prop):List (ByteArray×Value)->List (ByteArray×α)->Prop
 |nil:jo R [] []
 |cons {k:ByteArray} {v:Value} {a:α} {lv:List (ByteArray×Value)} {l:List (ByteArray×α)} (h:R v a) (t:jo R lv l):jo R ((k,v)::lv) ((k,a)::l)
variable {R R':Value->α->Prop} {lv:List (ByteArray×Value)} {l:List (ByteArray×α)}
theorem jo.imp(h:jo R lv l)(hr:∀v a,R v a->R' v a):jo R' lv l:=by
 induction h with
 |nil=>exact .nil
 |cons h _ ih=>exact .cons (hr _ _ h) ih
theorem jo.idx(h:jo R lv l)(k:ByteArray):lv.findIdx? (fun p=>decide (p.1=k))=l.findIdx? (fun p=>decide (p.1=k)):=by
 induction h with
 |nil=>rfl
 |cons _ _ ih=>rw[List.findIdx?_cons,List.findIdx?_cons,ih]
theorem jo.get(h:jo R lv l)(k:ByteArray):(oe lv k=none/\aJ l k=none)\/∃v a,oe lv k=some v/\aJ l k=some a/\R v a:=by
 unfold oe aJ
 induction h with
 |nil=>exact .inl ⟨rfl,rfl⟩
 |@cons k' v a _ _ h _ ih=>
  rw[List.find?_cons,List.find?_cons];by_cases e:k'=k
  .simp only[e,decide_true];exact .inr ⟨v,a,rfl,rfl,h⟩
  .simp only[e,decide_false];exact ih
theorem jo.set(h:jo R lv l):∀(i:Nat) (k:ByteArray) (v:Value) (a:α),R v a->jo R (lv.set i (k,v)) (l.set i (k,a)):=by
 induction h with
 |nil=>intro i k v a _;exact .nil
 |cons h t ih=>
  intro i k v a hr;cases i with
  |zero=>exact .cons hr t
  |succ i=>exact .cons h (ih i k v a hr)
theorem jo.app{Xv:List (ByteArray×Value)}{l2:List (ByteArray×α)}(h:jo R lv l)(h2:jo R Xv l2):jo R (lv++Xv) (l++l2):=by
 induction h with
 |nil=>exact h2
 |cons h _ ih=>exact .cons h ih
theorem jo.erase(h:jo R lv l):∀(i:Nat),jo R (lv.eraseIdx i) (l.eraseIdx i):=by
 induction h with
 |nil=>intro i;exact .nil
 |cons h t ih=>
  intro i;cases i with
  |zero=>exact t
  |succ i=>exact .cons h (ih i)
theorem jo.put(h:jo R lv l)(k:ByteArray){v:Value}{a:α}(hr:R v a):jo R (yT lv k v) (bS l k a):=by
 unfold yT bS;rw[h.idx];cases l.findIdx? (fun p=>decide (p.1=k))with
 |some i=>exact h.set _ _ _ _ hr
 |none=>exact h.app (.cons hr .nil)
theorem jo.del(h:jo R lv l)(k:ByteArray):jo R (G7 lv k) (gq l k):=by
 unfold G7 gq;rw[h.idx];cases l.findIdx? (fun p=>decide (p.1=k))with
 |some i=>exact h.erase _
 |none=>exact h
def bQ(w:World)(b:Nat)(R:Value->α->Prop)(l:List (ByteArray×α)):Prop:=∃lv,od w b lv/\jo R lv l
theorem bQ.mod{w w':World}{b:Nat}{S:Nat->Prop}(h:bQ w b R l)(hm:Mod S w w')(hb:¬S b)(hr:∀v a,R v a->R' v a):bQ w' b R' l:=by
 obtain⟨lv,h1,h2⟩:=h;exact⟨lv,sP h1 hm hb,h2.imp hr⟩
end
end
section
open Go Go.W
open Classical in
noncomputable def fY(a b:Ty):Bool:=decide (a=b)
theorem y5(a b:ByteArray):bw a b=decide (a=b):=EB a b
theorem Xw{a b:Ty}(h1:a.kind=b.kind)(h2:a.name=b.name)(h3:a.args=b.args):a=b:=by
 cases a;cases b;simp only[Ty.kind,Ty.name,Ty.args]at h1 h2 h3;subst h1 h2 h3;rfl
theorem ag':Fn 56:=⟨_,rfl,rfl,rfl⟩
open Classical in
theorem K7{fk:Nat}(hfk:Fn fk){la lb:List Ty}(ih:∀ u∈la,∀ {w:World} {B B':Nat→Prop} {cs ds:List Value} {t:Ty},aR w B cs u→aR w B' ds t→bu Tryz.prog fk [.agg cs.toArray,.agg ds.toArray] w fun r w'=>r = .bool (fY u t)∧Mod (fun _=>False) w w')
   {w:World} {B B':Nat->Prop} {va vb:Value} (ha:aX w va 3 B (aR w B) la) (hb:aX w vb 3 B' (aR w B') lb) :
   bu Tryz.prog 38 [va,vb,.func (.func fk) #[] #[]] w fun r w'=>r=.bool (decide (la=lb))/\Mod (fun _=>False) w w':=by
 obtain⟨fn,ej,jl,kR⟩:=hfk.ok;obtain⟨aa,ca,rfl⟩:=bq ha;obtain⟨ab,cb,rfl⟩:=bq hb;refine γ Tryz.f38 ?_;refine σ ?_;cases bJ:((la.length:Int)!=lb.length)with
 |true=>
  refine σ ?_;refine⟨congrArg _ (Eq.symm (decide_eq_false (fun e=>?_))),.refl _ _⟩;subst e;simp at bJ
 |false=>
  have hlen:la.length=lb.length:=by simpa[Int.ofNat_inj]using bJ
  refine σ ?_;refine eW la.length (fun k ρ w'=>Mod (fun _=>False) w w'/\k<=la.length/\(∀i,∀h:i<la.length,i<k->la[i]=lb[i]'(by omega))/\ρ=[(1,.slice ab lb.length cb),(2,.func (.func fk) #[] #[]),(15,.slice aa la.length ca),(16,I la.length),(17,I k)]) ⟨.refl _ _,by omega,fun i _ hi=>absurd hi (by omega),rfl⟩ (dI ha) ?_ ?_ (by decide) ?_
  .rintro k _ w2 ⟨ai,hk,_,rfl⟩;exact⟨rfl,rfl,hk⟩
  .rintro k _ w2 ⟨ai,_,nY,rfl⟩ hk;obtain⟨ad,c1,r,e,hr,cG,cR,_⟩:=dT (ha.mod ai aA (fun _ _ h=>h.mod ai aA)) hk;cases e;have tY:k<lb.length:=by omega
   have b1:(0:Int)<=k/\(k:Int)<la.length:=by omega
   have b2:(0:Int)<=k/\(k:Int)<lb.length:=by omega
   simp only[go_sem,simprocAttr,bG,bH,b1,cR];refine cX ?_;intro w3 aS aw dU;refine σ ?_;refine bN (cs:=[I 0,.string bM,.slice none 0 0]) rfl rfl aS cG rfl hr.one ?_;intro w4 bm aD dL;have rV:Mod (fun _=>False) w2 w4:=aw.step aD (fun x hx hl=>by omega);obtain⟨pY,c2,r2,e2,y6,Xx,Cq,_⟩:=dT ((hb.mod ai aA (fun _ _ h=>h.mod ai aA)).mod rV aA (fun _ _ h=>h.mod rV aA)) tY;cases e2;simp only[go_sem,simprocAttr,bG,bH,b2,Cq];refine eC (n:=3) (vs:=r2) rfl Xx y6.one ?_;intro w5 bY aH eY;simp only[go_sem,simprocAttr,aE (n:=3) bY Xx,aE (n:=3) (aH.at bm Ψ) cG];refine Cb rfl (by rfl) ej jl kR ?_;have Xy:=rV.trans aH;refine(ih _ (List.getElem_mem hk) (hr.mod Xy aA) (y6.mod aH aA)).mono ?_;rintro _ w6 ⟨rfl,aG⟩;have vE:=ai.trans (Xy.trans aG);by_cases he:la[k]=lb[k]
   .have:fY la[k] lb[k]=true:=decide_eq_true he;rw[this];refine σ ?_;refine⟨vE,hk,fun i hi hik=>?_⟩;rcases Nat.lt_or_ge i k with h1 |h1
    .exact nY i hi h1
    .have:i=k:=by omega
     subst this;exact he
   .have:fY la[k] lb[k]=false:=decide_eq_false he;rw[this];refine σ ?_;refine⟨congrArg _ (Eq.symm (decide_eq_false (fun e=>?_))),vE⟩;subst e;exact he rfl
  .rintro _ w2 ⟨ai,_,nY,rfl⟩;refine σ ?_;exact⟨congrArg _ (Eq.symm (decide_eq_true (List.ext_getElem hlen (fun i h1 h2=>nY i h1 h1)))),ai⟩
open Classical in
theorem K9(a:Ty):∀{w:World} {B B':Nat->Prop} {cs ds:List Value} {t:Ty},aR w B cs a->aR w B' ds t->bu Tryz.prog 56 [.agg cs.toArray,.agg ds.toArray] w fun r w'=>r=.bool (fY a t)/\Mod (fun _=>False) w w':=by
 induction a using Ty.ind with
 |h a ih=>
 intro w B B' cs ds t ha ht;obtain⟨va,rfl,EO⟩:=ha.cells;obtain⟨vt,rfl,bg⟩:=ht.cells;refine γ Tryz.f56 ?_;refine σ ?_;refine bZ rfl ?_;intro w1 au ak cw;refine σ ?_;refine bZ rfl ?_;intro w2 az ai bU;have au:=ai.at au Ψ;have hm:=ak.trans ai;simp only[go_sem,simprocAttr,cell_of au,cell_of az,Value.cells];have bad:¬(a=t)->Value.bool false=Value.bool (fY a t):=fun h=>congrArg _ (Eq.symm (decide_eq_false h))
 cases h1:a.kind == t.kind with
 |false=>refine σ ?_;exact⟨bad (fun e=>by subst e;simp at h1),hm⟩
 |true=>
  simp only[go_sem,simprocAttr,cell_of au,cell_of az,Value.cells];cases h2:a.name.toList == t.name.toList with
  |false=>refine σ ?_;exact⟨bad (fun e=>by subst e;simp at h2),hm⟩
  |true=>
   simp only[go_sem,simprocAttr,cell_of au,cell_of az,Value.cells];refine δ (by rfl) (K7 ag' ih (EO.mod hm aA (fun _ _ h=>h.mod hm aA)) (bg.mod hm aA (fun _ _ h=>h.mod hm aA))) ?_;rintro _ w3 ⟨rfl,aw⟩;refine σ ?_;refine⟨?_,hm.trans aw⟩;refine congrArg _ ?_;have kT:a.kind=t.kind:=by simpa using h1
   have jD:a.name=t.name:=by rw[EB]at h2;simpa using h2
   unfold fY;by_cases h3:a.args=t.args
   .rw[decide_eq_true h3,decide_eq_true (Xw kT jD h3)]
   .rw[decide_eq_false h3,decide_eq_false (fun e=>h3 (by rw[e]))]
end
section
open Go Go.W
abbrev cS:List Value:=[I 0,.string bM,.slice none 0 0]
theorem vF:∀u∈cS,u.oneCell'=true:=aP rfl (aP rfl (aP rfl dq))
abbrev fG(k:Int)(s:ByteArray):List Value:=[I k,.string s,.slice none 0 0]
theorem oo(k:Int)(s:ByteArray):∀u∈fG k s,u.oneCell'=true:=aP rfl (aP rfl (aP rfl dq))
theorem Xz{w:World}:bu Tryz.prog 73 [] w fun r w'=>r=.agg (fG 1 bM).toArray/\Mod (fun _=>False) w w':=by
 refine γ Tryz.f73 ?_;refine σ ?_;refine cX ?_;intro w1 au ak cw;refine σ ?_;refine bN (vs:=fG 1 bM) (cs:=cS) rfl rfl au rfl rfl (oo _ _) ?_;intro w2 az ai bU;simp only[go_sem,simprocAttr,aM,RV.ev,aE (n:=3) az rfl,aN];exact ak.step ai (fun x hx hl=>by omega)
theorem La(s:ByteArray){w:World}:bu Tryz.prog 91 [.string s] w fun r w'=>r=.agg (fG 2 s).toArray/\Mod (fun _=>False) w w':=by
 refine γ Tryz.f91 ?_;refine σ ?_;refine cX ?_;intro w1 au ak cw;refine σ ?_;refine bN (vs:=fG 2 s) (cs:=cS) rfl rfl au rfl rfl (oo _ _) ?_;intro w2 az ai bU;simp only[go_sem,simprocAttr,aM,RV.ev,aE (n:=3) az rfl,aN];exact ak.step ai (fun x hx hl=>by omega)
theorem Qs(s:ByteArray){v:Value}(hv:v.oneCell'=true)(AJ:One v){w:World}:bu Tryz.prog 92 [.string s,v] w fun r w'=>r=.agg [I 4,.string s,v].toArray/\Mod (fun _=>False) w w':=by
 refine γ Tryz.f92 ?_;refine σ ?_;refine cX ?_;intro w1 au ak cw;simp only[go_sem,simprocAttr,eq_true AJ];refine bN (vs:=[I 4,.string s,v]) (cs:=cS) rfl rfl au rfl rfl (aP rfl (aP rfl (aP hv dq))) ?_;intro w2 az ai bU;simp only[go_sem,simprocAttr,aM,RV.ev,aE (n:=3) az rfl,aN];exact ak.step ai (fun x hx hl=>by omega)
def lA(a b:Ty):Ty:=.mk 3 bM [a,b]
theorem aha{w:World}{S:Nat→Prop}{b T c:Nat}{ca cb:List Value}{x y:Ty}(hb:w.heap[b]? = some (.cells (ca++cb).toArray T (0,0)))(hS:¬ S b)(ha:aR w (Out S w) ca x)(fN:aR w (Out S w) cb y)(k:Int)(s:ByteArray) :
   aR w (Out S w) [I k,.string s,.slice (some ⟨b,0,none⟩) 2 c] (.mk k s [x,y]):=by
 have la:=ha.len;have lb:=fN.len;refine .mk (rows:=[ca,cb]) ⟨⟨_,c,rfl,fun _ ad e=>by cases e;exact⟨bP hb,hS⟩,fun i hi=>⟨_,rfl,?_,?_⟩⟩,by simp⟩ rfl ?_
 .match i,hi with
  |0,_=>exact la
  |1,_=>exact lb
 .intro k hk;rw[oa,oa,cell_of hb]
  match i,hi with
  |0,_=>
   simp only[List.getElem_cons_zero]at hk ⊢;simp only[Nat.zero_mul,Nat.zero_add,List.getElem?_toArray];rw[List.getElem?_append_left hk,Ξ hk]
  |1,_=>
   simp only[List.getElem_cons_succ,List.getElem_cons_zero]at hk ⊢;simp only[Nat.one_mul,Nat.zero_add,List.getElem?_toArray];rw[List.getElem?_append_right (by omega),la,Nat.add_sub_cancel_left,Ξ hk]
 .intro i r t hr ht
  match i with
  |0=>simp only[List.getElem?_cons_zero,Option.some.injEq]at hr ht;subst hr ht;exact ha
  |1=>simp only[List.getElem?_cons_succ,List.getElem?_cons_zero,Option.some.injEq]at hr ht;subst hr ht;exact fN
  |i+2=>simp at hr
theorem XA{x y:Ty}{ca cb:List Value}{S:Nat→Prop}{w:World}(hS:∀ b,S b→b < w.heap.size)(ha:aR w (Out S w) ca x)(hb:aR w (Out S w) cb y) :
   bu Tryz.prog 102 [.agg ca.toArray,.agg cb.toArray] w fun r w'=>(∃cs,r=.agg (cs:List Value).toArray/\aR w' (Out S w') cs (lA x y))/\Mod (fun _=>False) w w':=by
 refine γ Tryz.f102 ?_;have la:=ha.len;have lb:=hb.len;refine σ ?_;refine bZ rfl ?_;intro w1 au ak cw;refine σ ?_;refine bZ rfl ?_;intro w2 az ai bU;refine σ ?_;refine cX ?_;intro w3 aS aw dU;have au:=(ai.trans aw).at au Ψ;have az:=aw.at az Ψ;simp only[go_sem,simprocAttr,aE (n:=3) (cs:=ca) au la,aE (n:=3) (cs:=cb) az lb];refine ez (cs:=(ca++cb).toArray) rfl ?_ ?_
 .simp only[go_sem,simprocAttr,la,lb]
  match ca,la,cb,lb with
  |[a1,a2,a3],_,[b1,b2,b3],_=>rfl
 intro w4 bm aD dL;have aS:=aD.at aS Ψ;refine σ ?_;refine bN (vs:=[I 3,.string bM,.slice (some ⟨w3.heap.size,0,none⟩) 2 2]) (cs:=cS) rfl rfl aS rfl rfl (aP rfl (aP rfl (aP rfl dq))) ?_;intro w5 bY aH eY;simp only[go_sem,simprocAttr,aM,RV.ev,aE (n:=3) bY rfl,aN];have jd:Mod (fun _=>False) w w5:=(ak.trans (ai.trans (aw.trans aD))).step aH (fun x hx hl=>by omega);refine⟨⟨_,rfl,aha (aH.at bm (by omega)) (fun h=>by have:=hS _ h;omega) (ha.aI (aq jd)) (hb.aI (aq jd)) 3 bM⟩,jd⟩
def AK(s:ByteArray):Bool:=bw s ⟨#[43]⟩||bw s ⟨#[45]⟩||bw s ⟨#[42]⟩||bw s ⟨#[47]⟩||bw s ⟨#[37]⟩
def y7(s:ByteArray):Bool:=bw s ⟨#[61,61]⟩||bw s ⟨#[47,61]⟩||bw s ⟨#[60]⟩||bw s ⟨#[60,61]⟩||bw s ⟨#[62]⟩||bw s ⟨#[62,61]⟩
abbrev jq:ByteArray:=⟨#[66,111,111,108]⟩
def lV(s:ByteArray):Option Ty:=if AK s then some (.mk 1 bM [])else if y7 s then some (.mk 4 jq [])else none
def y8(s:ByteArray):List Value:=match lV s with |some t=>fG t.kind t.name |none=>cS
theorem XB(s:ByteArray){w:World}:bu Tryz.prog 100 [.string s] w fun r w'=>r=.tuple #[.agg (y8 s).toArray,.bool (lV s).isSome]/\Mod (fun _=>False) w w':=by
 refine γ Tryz.f100 ?_;(try simp only[go_sem,simprocAttr]);refine cX ?_;intro w1 au ak cw;(try simp only[go_sem,simprocAttr]);refine Ca (fun ρ w'=>w1=w'/\ρ.get 2=some (ptr w.heap.size)/\ρ.get 4=some (.string s)/\ρ.get 5=some (.bool (AK s))) ?_ ?_
 .skip
  cases h1:s.toList == ByteArray.toList ⟨#[43]⟩with
  |true=>(try simp only[go_sem,simprocAttr,AK,bw,h1,Bool.false_or,Bool.true_or])
  |false=>
   (try simp only[go_sem,simprocAttr]);cases h2:s.toList == ByteArray.toList ⟨#[45]⟩with
   |true=>(try simp only[go_sem,simprocAttr,AK,bw,h1,h2,Bool.false_or,Bool.true_or])
   |false=>
    (try simp only[go_sem,simprocAttr]);cases h3:s.toList == ByteArray.toList ⟨#[42]⟩with
    |true=>(try simp only[go_sem,simprocAttr,AK,bw,h1,h2,h3,Bool.false_or,Bool.true_or])
    |false=>
     (try simp only[go_sem,simprocAttr]);cases h4:s.toList == ByteArray.toList ⟨#[47]⟩with
     |true=>(try simp only[go_sem,simprocAttr,AK,bw,h1,h2,h3,h4,Bool.false_or,Bool.true_or])
     |false=>
      (try simp only[go_sem,simprocAttr]);(try simp only[go_sem,simprocAttr,AK,bw,h1,h2,h3,h4,Bool.false_or])
 rintro ρ _ ⟨rfl,g2,g4,g5⟩;cases ha:AK s with
 |true=>
  rw[ha]at g5;have ho:lV s=some (.mk 1 bM []):=by rw[lV,if_pos ha]
  (try simp only[go_sem,simprocAttr,g2,g4,g5]);refine aL (by rfl) ?_;refine Xz.mono ?_;rintro _ w2 ⟨rfl,ai⟩;(try simp only[go_sem,simprocAttr,g2,g4]);refine bN (vs:=fG 1 bM) (cs:=cS) g2 rfl (ai.at au Ψ) rfl rfl (oo _ _) ?_;intro w3 aS aw dU;(try simp only[go_sem,simprocAttr,aM,RV.ev,aE (n:=3) aS rfl,aN]);rw[y8,ho];exact⟨rfl,(ak.trans ai).step aw (fun x hx hl=>by omega)⟩
 |false=>
  rw[ha]at g5;(try simp only[go_sem,simprocAttr,g2,g4,g5]);refine Ca (fun ρ w'=>w1=w'/\ρ.get 2=some (ptr w.heap.size)/\ρ.get 12=some (.bool (y7 s))) ?_ ?_
  .skip
   cases h1:s.toList == ByteArray.toList ⟨#[61,61]⟩with
   |true=>(try simp only[go_sem,simprocAttr,g2,y7,bw,h1,Bool.false_or,Bool.true_or])
   |false=>
    (try simp only[go_sem,simprocAttr,g2,g4]);cases h2:s.toList == ByteArray.toList ⟨#[47,61]⟩with
    |true=>(try simp only[go_sem,simprocAttr,g2,y7,bw,h1,h2,Bool.false_or,Bool.true_or])
    |false=>
     (try simp only[go_sem,simprocAttr,g2,g4]);cases h3:s.toList == ByteArray.toList ⟨#[60]⟩with
     |true=>(try simp only[go_sem,simprocAttr,g2,y7,bw,h1,h2,h3,Bool.false_or,Bool.true_or])
     |false=>
      (try simp only[go_sem,simprocAttr,g2,g4]);cases h4:s.toList == ByteArray.toList ⟨#[60,61]⟩with
      |true=>(try simp only[go_sem,simprocAttr,g2,y7,bw,h1,h2,h3,h4,Bool.false_or,Bool.true_or])
      |false=>
       (try simp only[go_sem,simprocAttr,g2,g4]);cases h5:s.toList == ByteArray.toList ⟨#[62]⟩with
       |true=>(try simp only[go_sem,simprocAttr,g2,y7,bw,h1,h2,h3,h4,h5,Bool.false_or,Bool.true_or])
       |false=>
        (try simp only[go_sem,simprocAttr,g2,g4]);(try simp only[go_sem,simprocAttr,g2,y7,bw,h1,h2,h3,h4,h5,Bool.false_or])
  rintro ρ _ ⟨rfl,g2,g12⟩;cases hc:y7 s with
  |true=>
   rw[hc]at g12;have ho:lV s=some (.mk 4 jq []):=by rw[lV,if_neg (by rw[ha];simp),if_pos hc]
   (try simp only[go_sem,simprocAttr,g2,g12]);refine aL (by rfl) ?_;refine(Qs jq (v:=.slice none 0 0) rfl rfl).mono ?_;rintro _ w2 ⟨rfl,ai⟩;(try simp only[go_sem,simprocAttr,g2]);refine bN (vs:=fG 4 jq) (cs:=cS) g2 rfl (ai.at au Ψ) rfl rfl (oo _ _) ?_;intro w3 aS aw dU;(try simp only[go_sem,simprocAttr,aM,RV.ev,aE (n:=3) aS rfl,aN]);rw[y8,ho];exact⟨rfl,(ak.trans ai).step aw (fun x hx hl=>by omega)⟩
  |false=>
   rw[hc]at g12;have hn:lV s=none:=by rw[lV,if_neg (by rw[ha];simp),if_neg (by rw[hc];simp)]
   (try simp only[go_sem,simprocAttr,g2,g12]);refine bN (vs:=cS) (cs:=cS) g2 rfl au rfl rfl vF ?_;intro w2 az ai bU;(try simp only[go_sem,simprocAttr,aM,RV.ev,aE (n:=3) az rfl,aN]);rw[y8,hn];exact⟨rfl,ak.step ai (fun x hx hl=>by omega)⟩
end
section
open Go Go.W
theorem add_pos(a:Addr){n:Nat}(h:n≠0):a.add n=⟨a.block,a.off+n,none⟩:=by unfold Addr.add;rw[if_neg (by simpa using h)]
def AL(e:Ex):Bool:=e.kind == 0&&(bw e.name bM&&((e.num == 0)&&(Wr (Wr (Wr (e.types.length+e.args.length)+e.binds.length)+e.alts.length)==0)))
theorem ahb(e:Ex){w:World}{B:Nat->Prop}{cs:List Value}(h:ci w B cs e):bu Tryz.prog 99 [.agg cs.toArray] w fun r w'=>r=.bool (AL e)/\Mod (fun _=>False) w w':=by
 obtain⟨vt,va,vb,vl,rfl,ht,ha,hb,hl⟩:=h.parts;obtain⟨at',ct,rfl⟩:=bq ht;obtain⟨aa,ca,rfl⟩:=bq ha;obtain⟨ab,cb,rfl⟩:=bq hb;obtain⟨al,cl,rfl⟩:=bq hl;refine γ Tryz.f99 ?_;refine σ ?_;refine bZ rfl ?_;intro w1 au ak cw;simp only[go_sem,simprocAttr,cell_of au,Value.cells];cases h1:e.kind == 0 with
 |false=>simp only[go_sem,simprocAttr,AL,h1,Bool.false_and];exact ak
 |true=>
  simp only[go_sem,simprocAttr,cell_of au,Value.cells];cases h2:e.name.toList == ByteArray.toList ⟨#[]⟩with
  |false=>simp only[go_sem,simprocAttr,AL,bw,h1,h2,Bool.false_and];exact ak
  |true=>
   simp only[go_sem,simprocAttr,cell_of au,Value.cells];cases h3:e.num == 0 with
   |false=>simp only[go_sem,simprocAttr,AL,bw,h1,h2,h3,Bool.false_and];exact ak
   |true=>
    simp only[go_sem,simprocAttr,cell_of au,Value.cells,AL,bw,h1,h2,h3];exact ak
def de(e:Ex)(a b c d:Int):Bool:=(e.types.length:Int)==a&&((e.args.length:Int)==b&&((e.binds.length:Int)==c&&((e.alts.length:Int)==d)))
def j8(k:Int):Bool:=k == 1||(k == 3||k == 4)||k == 9
def jG(k:Int):Bool:=k == 2||k == 12
def jH(e:Ex):Bool:=
 if e.kind == 1 then de e 0 0 0 0
 else if e.kind == 2 then(de e 0 0 0 0&&decide (e.num >= -4611686018427387904))&&decide (e.num<=4611686018427387903)
 else if(e.kind == 3||e.kind == 4)then de e e.types.length 0 0 0
 else if(e.kind == 5||e.kind == 10)then de e 0 2 0 0
 else if e.kind == 6 then de e 0 1 1 0&&(match e.binds with |b::_=>AL b.value |[]=>false)
 else if e.kind == 7 then de e 0 1 e.binds.length 0&&decide ((e.binds.length:Int)>=1)
 else if e.kind == 8 then de e 0 1 0 e.alts.length&&decide ((e.alts.length:Int)>=1)
 else if e.kind == 9 then de e 0 2 0 0&&(lV e.name).isSome
 else if e.kind == 11 then de e 0 1 1 0
 else if e.kind == 12 then(de e 1 0 0 0&&decide (e.num>=1))&&decide (e.num<=4)
 else false
def lB(e:Ex):Bool:=(jH e&&(j8 e.kind||bw e.name bM))&&(jG e.kind||e.num == 0)
theorem ahc(e:Ex){w:World}{B:Nat->Prop}{cs:List Value}(h:ci w B cs e):bu Tryz.prog 72 [.agg cs.toArray] w fun r w'=>r=.bool (lB e)/\Mod (fun _=>False) w w':=by
 obtain⟨vt,va,vb,vl,rfl,ht,ha,hb,hl⟩:=h.parts;obtain⟨at',ct,rfl⟩:=bq ht;obtain⟨aa,ca,rfl⟩:=bq ha;obtain⟨ab,cb,rfl⟩:=bq hb;obtain⟨al,cl,rfl⟩:=bq hl;refine γ Tryz.f72 ?_;(try simp only[go_sem,simprocAttr]);refine bZ rfl ?_;intro w1 au ak cw;(try simp only[go_sem,simprocAttr,cell_of au,Value.cells]);refine eC (n:=4) (vs:=[I e.types.length,I e.args.length,I e.binds.length,I e.alts.length]) rfl rfl (aP rfl (aP rfl (aP rfl (aP rfl dq)))) ?_;intro w2 az ai bU;have au:=ai.at au Ψ;have hm:=ak.trans ai;(try simp only[go_sem,simprocAttr,cell_of au,Value.cells]);refine og (fun ρ w'=>Mod (fun _=>False) w2 w'/\ρ.get 1=some (ptr w.heap.size)/\ρ.get 4=some (.bool (j8 e.kind))/\ρ.get 5=some (.bool (jG e.kind))/\ρ.get 6=some (.bool (jH e))) ?_ ?_
 .have dV:w2.drew.heap[w1.heap.size]?=_:=az;cases h1:e.kind == 1 with
  |true=>
   (try simp only[go_sem,simprocAttr,aE (n:=4) az rfl,aE (n:=4) dV rfl,cell_of au,cell_of az,Value.cells,cY]);have hk:e.kind=1:=by simpa using h1
   (try simp only[go_sem,simprocAttr,aE (n:=4) az rfl,aE (n:=4) dV rfl,cell_of au,cell_of az,Value.cells,cY]);exact⟨Mod.drew (.refl _ _),congrArg _ (by rw[j8,hk];rfl),congrArg _ (by rw[jG,hk];rfl),congrArg _ (by unfold jH;rw[hk];rfl)⟩
  |false=>
   (try simp only[go_sem,simprocAttr,aE (n:=4) az rfl,aE (n:=4) dV rfl,cell_of au,cell_of az,Value.cells,cY]);cases h2:e.kind == 2 with
   |true=>
    (try simp only[go_sem,simprocAttr,aE (n:=4) az rfl,aE (n:=4) dV rfl,cell_of au,cell_of az,Value.cells,cY]);have hk:e.kind=2:=by simpa using h2
    (try simp only[go_sem,simprocAttr,aE (n:=4) az rfl,aE (n:=4) dV rfl,cell_of au,cell_of az,Value.cells,cY]);have ho:jH e=((de e 0 0 0 0&&decide (e.num >= -4611686018427387904))&&decide (e.num<=4611686018427387903)):=by unfold jH;rw[hk];rfl
    unfold de at ho;cases hc:((e.types.length:Int)==0&&((e.args.length:Int)==0&&((e.binds.length:Int)==0&&((e.alts.length:Int)==0))))with
    |false=>rw[hc]at ho;(try simp only[go_sem,simprocAttr,aE (n:=4) az rfl,aE (n:=4) dV rfl,cell_of au,cell_of az,Value.cells,cY]);exact⟨Mod.drew (.refl _ _),congrArg _ (by rw[j8,hk];rfl),congrArg _ (by rw[jG,hk];rfl),congrArg _ (by rw[ho];rfl)⟩
    |true=>
     rw[hc]at ho;(try simp only[go_sem,simprocAttr,aE (n:=4) az rfl,aE (n:=4) dV rfl,cell_of au,cell_of az,Value.cells,cY]);cases hd:decide (e.num >= -4611686018427387904)with
     |false=>rw[hd]at ho;(try simp only[go_sem,simprocAttr,aE (n:=4) az rfl,aE (n:=4) dV rfl,cell_of au,cell_of az,Value.cells,cY]);exact⟨Mod.drew (.refl _ _),congrArg _ (by rw[j8,hk];rfl),congrArg _ (by rw[jG,hk];rfl),congrArg _ (by rw[ho];rfl)⟩
     |true=>rw[hd]at ho;(try simp only[go_sem,simprocAttr,aE (n:=4) az rfl,aE (n:=4) dV rfl,cell_of au,cell_of az,Value.cells,cY]);exact⟨Mod.drew (.refl _ _),congrArg _ (by rw[j8,hk];rfl),congrArg _ (by rw[jG,hk];rfl),congrArg _ (by rw[ho];rfl)⟩
   |false=>
    (try simp only[go_sem,simprocAttr,aE (n:=4) az rfl,aE (n:=4) dV rfl,cell_of au,cell_of az,Value.cells,cY]);cases h3:e.kind == 3 with
    |true=>
     (try simp only[go_sem,simprocAttr,aE (n:=4) az rfl,aE (n:=4) dV rfl,cell_of au,cell_of az,Value.cells,cY]);have hk:e.kind=3:=by simpa using h3
     (try simp only[go_sem,simprocAttr,aE (n:=4) az rfl,aE (n:=4) dV rfl,cell_of au,cell_of az,Value.cells,cY]);exact⟨Mod.drew (.refl _ _),congrArg _ (by rw[j8,hk];rfl),congrArg _ (by rw[jG,hk];rfl),congrArg _ (by unfold jH;rw[hk];rfl)⟩
    |false=>
     (try simp only[go_sem,simprocAttr,aE (n:=4) az rfl,aE (n:=4) dV rfl,cell_of au,cell_of az,Value.cells,cY]);cases h4:e.kind == 4 with
     |true=>
      (try simp only[go_sem,simprocAttr,aE (n:=4) az rfl,aE (n:=4) dV rfl,cell_of au,cell_of az,Value.cells,cY]);have hk:e.kind=4:=by simpa using h4
      (try simp only[go_sem,simprocAttr,aE (n:=4) az rfl,aE (n:=4) dV rfl,cell_of au,cell_of az,Value.cells,cY]);exact⟨Mod.drew (.refl _ _),congrArg _ (by rw[j8,hk];rfl),congrArg _ (by rw[jG,hk];rfl),congrArg _ (by unfold jH;rw[hk];rfl)⟩
     |false=>
      (try simp only[go_sem,simprocAttr,aE (n:=4) az rfl,aE (n:=4) dV rfl,cell_of au,cell_of az,Value.cells,cY]);cases h5:e.kind == 5 with
      |true=>
       (try simp only[go_sem,simprocAttr,aE (n:=4) az rfl,aE (n:=4) dV rfl,cell_of au,cell_of az,Value.cells,cY]);have hk:e.kind=5:=by simpa using h5
       (try simp only[go_sem,simprocAttr,aE (n:=4) az rfl,aE (n:=4) dV rfl,cell_of au,cell_of az,Value.cells,cY]);exact⟨.refl _ _,congrArg _ (by rw[j8,hk];rfl),congrArg _ (by rw[jG,hk];rfl),congrArg _ (by unfold jH;rw[hk];rfl)⟩
      |false=>
       (try simp only[go_sem,simprocAttr,aE (n:=4) az rfl,aE (n:=4) dV rfl,cell_of au,cell_of az,Value.cells,cY]);cases mG:e.kind == 10 with
       |true=>
        (try simp only[go_sem,simprocAttr,aE (n:=4) az rfl,aE (n:=4) dV rfl,cell_of au,cell_of az,Value.cells,cY]);have hk:e.kind=10:=by simpa using mG
        (try simp only[go_sem,simprocAttr,aE (n:=4) az rfl,aE (n:=4) dV rfl,cell_of au,cell_of az,Value.cells,cY]);exact⟨.refl _ _,congrArg _ (by rw[j8,hk];rfl),congrArg _ (by rw[jG,hk];rfl),congrArg _ (by unfold jH;rw[hk];rfl)⟩
       |false=>
        (try simp only[go_sem,simprocAttr,aE (n:=4) az rfl,aE (n:=4) dV rfl,cell_of au,cell_of az,Value.cells,cY]);cases h6:e.kind == 6 with
        |true=>
         (try simp only[go_sem,simprocAttr,aE (n:=4) az rfl,aE (n:=4) dV rfl,cell_of au,cell_of az,Value.cells,cY]);have hk:e.kind=6:=by simpa using h6
         (try simp only[go_sem,simprocAttr,aE (n:=4) az rfl,aE (n:=4) dV rfl,cell_of au,cell_of az,Value.cells,cY]);have ho:jH e=(de e 0 1 1 0&&(match e.binds with |b::_=>AL b.value |[]=>false)):=by unfold jH;rw[hk];rfl
         unfold de at ho;cases hc:((e.types.length:Int)==0&&((e.args.length:Int)==1&&((e.binds.length:Int)==1&&((e.alts.length:Int)==0))))with
         |false=>rw[hc]at ho;(try simp only[go_sem,simprocAttr,aE (n:=4) az rfl,aE (n:=4) dV rfl,cell_of au,cell_of az,Value.cells,cY]);exact⟨.refl _ _,congrArg _ (by rw[j8,hk];rfl),congrArg _ (by rw[jG,hk];rfl),congrArg _ (by rw[ho];rfl)⟩
         |true=>
          rw[hc]at ho;have hn:e.binds.length=1:=by simp only[Bool.and_eq_true,beq_iff_eq]at hc;omega
          have bg:0<e.binds.length:=by omega
          obtain⟨ad,cc,r,ee,⟨tc,ec,rfl,fO,iI,_⟩,cG,_,Qt⟩:=dT (hb.mod hm aA (fun _ _ h=>h.mod hm aA)) bg;cases ee;have l1:=fO.len;have kU:=Hd Qt (o:=4) (n:=7) (by simp[iI.len];omega);rw[List.drop_succ_cons,List.drop_left' l1,List.take_of_length_le (by rw[iI.len];omega),Nat.zero_mul,add_zero',add_pos _ (n:=4) (by decide)]at kU;have b1:(0:Int)<=0/\(0:Int)<e.binds.length:=by omega
          (try simp only[go_sem,simprocAttr,bG,bH,aE (n:=4) az rfl,aE (n:=4) dV rfl,cell_of au,cell_of az,Value.cells,cY,b1,Nat.zero_mul,kU]);refine aL (by rfl) ?_;refine(ahb _ iI).mono ?_;rintro _ w3 ⟨rfl,aw⟩;(try simp only[go_sem,simprocAttr,aE (n:=4) az rfl,aE (n:=4) dV rfl,cell_of au,cell_of az,Value.cells,cY]);exact⟨aw,congrArg _ (by rw[j8,hk];rfl),congrArg _ (by rw[jG,hk];rfl),congrArg _ (by rw[ho];match e.binds,bg with |b::_,_=>rfl)⟩
        |false=>
         (try simp only[go_sem,simprocAttr,aE (n:=4) az rfl,aE (n:=4) dV rfl,cell_of au,cell_of az,Value.cells,cY]);cases h7:e.kind == 7 with
         |true=>
          (try simp only[go_sem,simprocAttr,aE (n:=4) az rfl,aE (n:=4) dV rfl,cell_of au,cell_of az,Value.cells,cY]);have hk:e.kind=7:=by simpa using h7
          (try simp only[go_sem,simprocAttr,aE (n:=4) az rfl,aE (n:=4) dV rfl,cell_of au,cell_of az,Value.cells,cY]);have ho:jH e=(de e 0 1 e.binds.length 0&&decide ((e.binds.length:Int)>=1)):=by unfold jH;rw[hk];rfl
          unfold de at ho;cases hc:((e.types.length:Int)==0&&((e.args.length:Int)==1&&((e.binds.length:Int)==e.binds.length&&((e.alts.length:Int)==0))))with
          |false=>rw[hc]at ho;(try simp only[go_sem,simprocAttr,aE (n:=4) az rfl,aE (n:=4) dV rfl,cell_of au,cell_of az,Value.cells,cY]);exact⟨.refl _ _,congrArg _ (by rw[j8,hk];rfl),congrArg _ (by rw[jG,hk];rfl),congrArg _ (by rw[ho];rfl)⟩
          |true=>rw[hc]at ho;(try simp only[go_sem,simprocAttr,aE (n:=4) az rfl,aE (n:=4) dV rfl,cell_of au,cell_of az,Value.cells,cY]);exact⟨.refl _ _,congrArg _ (by rw[j8,hk];rfl),congrArg _ (by rw[jG,hk];rfl),congrArg _ (by rw[ho];rfl)⟩
         |false=>
          (try simp only[go_sem,simprocAttr,aE (n:=4) az rfl,aE (n:=4) dV rfl,cell_of au,cell_of az,Value.cells,cY]);cases h8:e.kind == 8 with
          |true=>
           (try simp only[go_sem,simprocAttr,aE (n:=4) az rfl,aE (n:=4) dV rfl,cell_of au,cell_of az,Value.cells,cY]);have hk:e.kind=8:=by simpa using h8
           (try simp only[go_sem,simprocAttr,aE (n:=4) az rfl,aE (n:=4) dV rfl,cell_of au,cell_of az,Value.cells,cY]);have ho:jH e=(de e 0 1 0 e.alts.length&&decide ((e.alts.length:Int)>=1)):=by unfold jH;rw[hk];rfl
           unfold de at ho;cases hc:((e.types.length:Int)==0&&((e.args.length:Int)==1&&((e.binds.length:Int)==0&&((e.alts.length:Int)==e.alts.length))))with
           |false=>rw[hc]at ho;(try simp only[go_sem,simprocAttr,aE (n:=4) az rfl,aE (n:=4) dV rfl,cell_of au,cell_of az,Value.cells,cY]);exact⟨.refl _ _,congrArg _ (by rw[j8,hk];rfl),congrArg _ (by rw[jG,hk];rfl),congrArg _ (by rw[ho];rfl)⟩
           |true=>rw[hc]at ho;(try simp only[go_sem,simprocAttr,aE (n:=4) az rfl,aE (n:=4) dV rfl,cell_of au,cell_of az,Value.cells,cY]);exact⟨.refl _ _,congrArg _ (by rw[j8,hk];rfl),congrArg _ (by rw[jG,hk];rfl),congrArg _ (by rw[ho];rfl)⟩
          |false=>
           (try simp only[go_sem,simprocAttr,aE (n:=4) az rfl,aE (n:=4) dV rfl,cell_of au,cell_of az,Value.cells,cY]);cases h9:e.kind == 9 with
           |true=>
            (try simp only[go_sem,simprocAttr,aE (n:=4) az rfl,aE (n:=4) dV rfl,cell_of au,cell_of az,Value.cells,cY]);have hk:e.kind=9:=by simpa using h9
            (try simp only[go_sem,simprocAttr,aE (n:=4) az rfl,aE (n:=4) dV rfl,cell_of au,cell_of az,Value.cells,cY]);refine aL (by rfl) ?_;refine(XB e.name).mono ?_;rintro _ w3 ⟨rfl,aw⟩;(try simp only[go_sem,simprocAttr]);refine eC (n:=3) (vs:=y8 e.name) rfl (by unfold y8;split<;>rfl) (by unfold y8;split;exact oo _ _;exact vF) ?_;intro w4 bm aD dL;have j9:=aw.trans aD;have az:=j9.at az Ψ;have ho:jH e=(de e 0 2 0 0&&(lV e.name).isSome):=by unfold jH;rw[hk];rfl
            unfold de at ho;(try simp only[go_sem,simprocAttr,aE (n:=4) az rfl,cell_of au,cell_of az,Value.cells,cY]);cases hc:((e.types.length:Int)==0&&((e.args.length:Int)==2&&((e.binds.length:Int)==0&&((e.alts.length:Int)==0))))with
            |false=>rw[hc]at ho;(try simp only[go_sem,simprocAttr]);exact⟨j9,congrArg _ (by rw[j8,hk];rfl),congrArg _ (by rw[jG,hk];rfl),congrArg _ (by rw[ho];rfl)⟩
            |true=>rw[hc]at ho;(try simp only[go_sem,simprocAttr]);exact⟨j9,congrArg _ (by rw[j8,hk];rfl),congrArg _ (by rw[jG,hk];rfl),congrArg _ (by rw[ho];rfl)⟩
           |false=>
            (try simp only[go_sem,simprocAttr,aE (n:=4) az rfl,aE (n:=4) dV rfl,cell_of au,cell_of az,Value.cells,cY]);cases jr:e.kind == 11 with
            |true=>
             (try simp only[go_sem,simprocAttr,aE (n:=4) az rfl,aE (n:=4) dV rfl,cell_of au,cell_of az,Value.cells,cY]);have hk:e.kind=11:=by simpa using jr
             (try simp only[go_sem,simprocAttr,aE (n:=4) az rfl,aE (n:=4) dV rfl,cell_of au,cell_of az,Value.cells,cY]);exact⟨.refl _ _,congrArg _ (by rw[j8,hk];rfl),congrArg _ (by rw[jG,hk];rfl),congrArg _ (by unfold jH;rw[hk];rfl)⟩
            |false=>
             (try simp only[go_sem,simprocAttr,aE (n:=4) az rfl,aE (n:=4) dV rfl,cell_of au,cell_of az,Value.cells,cY]);cases oq:e.kind == 12 with
             |true=>
              (try simp only[go_sem,simprocAttr,aE (n:=4) az rfl,aE (n:=4) dV rfl,cell_of au,cell_of az,Value.cells,cY]);have hk:e.kind=12:=by simpa using oq
              (try simp only[go_sem,simprocAttr,aE (n:=4) az rfl,aE (n:=4) dV rfl,cell_of au,cell_of az,Value.cells,cY]);have ho:jH e=((de e 1 0 0 0&&decide (e.num>=1))&&decide (e.num<=4)):=by unfold jH;rw[hk];rfl
              unfold de at ho;cases hc:((e.types.length:Int)==1&&((e.args.length:Int)==0&&((e.binds.length:Int)==0&&((e.alts.length:Int)==0))))with
              |false=>rw[hc]at ho;(try simp only[go_sem,simprocAttr,aE (n:=4) az rfl,aE (n:=4) dV rfl,cell_of au,cell_of az,Value.cells,cY]);exact⟨Mod.drew (.refl _ _),congrArg _ (by rw[j8,hk];rfl),congrArg _ (by rw[jG,hk];rfl),congrArg _ (by rw[ho];rfl)⟩
              |true=>
               rw[hc]at ho;(try simp only[go_sem,simprocAttr,aE (n:=4) az rfl,aE (n:=4) dV rfl,cell_of au,cell_of az,Value.cells,cY]);cases hd:decide (e.num>=1)with
               |false=>rw[hd]at ho;(try simp only[go_sem,simprocAttr,aE (n:=4) az rfl,aE (n:=4) dV rfl,cell_of au,cell_of az,Value.cells,cY]);exact⟨Mod.drew (.refl _ _),congrArg _ (by rw[j8,hk];rfl),congrArg _ (by rw[jG,hk];rfl),congrArg _ (by rw[ho];rfl)⟩
               |true=>rw[hd]at ho;(try simp only[go_sem,simprocAttr,aE (n:=4) az rfl,aE (n:=4) dV rfl,cell_of au,cell_of az,Value.cells,cY]);exact⟨Mod.drew (.refl _ _),congrArg _ (by rw[j8,hk];rfl),congrArg _ (by rw[jG,hk];rfl),congrArg _ (by rw[ho];rfl)⟩
             |false=>
              (try simp only[go_sem,simprocAttr,aE (n:=4) az rfl,aE (n:=4) dV rfl,cell_of au,cell_of az,Value.cells,cY]);exact⟨.refl _ _,congrArg _ (by simp only[j8,h1,h2,h3,h4,h5,mG,h6,h7,h8,h9,jr,oq];rfl),congrArg _ (by simp only[jG,h1,h2,h3,h4,h5,mG,h6,h7,h8,h9,jr,oq];rfl),congrArg _ (by simp only[jH,h1,h2,h3,h4,h5,mG,h6,h7,h8,h9,jr,oq];rfl)⟩
 .rintro ρ w3 ⟨aw,g1,g4,g5,g6⟩;have au:=aw.at au Ψ;have tN:=hm.trans aw;have ho:lB e=((jH e&&(j8 e.kind||bw e.name bM))&&(jG e.kind||e.num == 0)):=rfl;cases h1:jH e with
  |false=>
   rw[h1]at g6 ho;(try simp only[go_sem,simprocAttr,g1,g4,g5,g6]);exact⟨congrArg _ (by rw[ho];rfl),tN⟩
  |true=>
   rw[h1]at g6 ho;cases h2:j8 e.kind with
   |true=>
    rw[h2]at g4 ho;cases h3:jG e.kind with
    |true=>
     rw[h3]at g5 ho;(try simp only[go_sem,simprocAttr,g1,g4,g5,g6,cell_of au,Value.cells]);exact⟨congrArg _ (by rw[ho];rfl),tN⟩
    |false=>
     rw[h3]at g5 ho;(try simp only[go_sem,simprocAttr,g1,g4,g5,g6,cell_of au,Value.cells]);exact⟨congrArg _ (by rw[ho];rfl),tN⟩
   |false=>
    rw[h2]at g4 ho;cases h4:e.name.toList == ByteArray.toList ⟨#[]⟩with
    |false=>
     rw[bw,h4]at ho;(try simp only[go_sem,simprocAttr,g1,g4,g5,g6,cell_of au,Value.cells,h4]);exact⟨congrArg _ (by rw[ho];rfl),tN⟩
    |true=>
     rw[bw,h4]at ho;cases h3:jG e.kind with
     |true=>
      rw[h3]at g5 ho;(try simp only[go_sem,simprocAttr,g1,g4,g5,g6,cell_of au,Value.cells,h4]);exact⟨congrArg _ (by rw[ho];rfl),tN⟩
     |false=>
      rw[h3]at g5 ho;(try simp only[go_sem,simprocAttr,g1,g4,g5,g6,cell_of au,Value.cells,h4]);exact⟨congrArg _ (by rw[ho];rfl),tN⟩
end
section
open Go Go.W
instance:Inhabited Ty:=⟨.mk 0 bM []⟩
mutual
def gu(ps:List ByteArray)(xx:List Ty):Ty->Int->Ty×Int
 |.mk k n l,left=>match(if k == 2 then pV ps n else none)with
  |some i=>(xx.getD i default,Wr (left-(xx.getD i default).size))
  |none=>(.mk k n (kC ps xx l (Wr (left-1))).1,(kC ps xx l (Wr (left-1))).2)
def kC(ps:List ByteArray)(xx:List Ty):List Ty->Int->List Ty×Int
 |[],left=>([],left)
 |t::l,left=>if left<0 then([],left)else((gu ps xx t left).1::(kC ps xx l (gu ps xx t left).2).1,(kC ps xx l (gu ps xx t left).2).2)
end
theorem XC{ps:List ByteArray}{bs:List Ty}{t:Ty}{left:Int}{i:Nat}(hk:(t.kind == 2)=true)(hi:pV ps t.name=some i):gu ps bs t left=(bs.getD i default,Wr (left-(bs.getD i default).size)):=by
 cases t with |mk k n l=>
 simp only[Ty.kind,Ty.name]at hk hi;rw[gu,if_pos hk,hi]
theorem XD{ps:List ByteArray}{bs:List Ty}{t:Ty}{left:Int}(h:(t.kind == 2)=false\/pV ps t.name=none):gu ps bs t left=(.mk t.kind t.name (kC ps bs t.args (Wr (left-1))).1,(kC ps bs t.args (Wr (left-1))).2):=by
 cases t with |mk k n l=>
 simp only[Ty.kind,Ty.name,Ty.args]at h ⊢;rw[gu];rcases h with h |h
 .rw[if_neg (by rw[h];simp)]
 .rw[h];split<;>rename_i h2<;>first |rfl |(split at h2<;>cases h2)
theorem ahd{ps:List ByteArray}{bs:List Ty}{l:List Ty}{i:Nat}(hi:i<l.length)(left:Int):kC ps bs (l.drop i) left=if left<0 then([],left)else((gu ps bs l[i] left).1::(kC ps bs (l.drop (i+1)) (gu ps bs l[i] left).2).1,(kC ps bs (l.drop (i+1)) (gu ps bs l[i] left).2).2):=by
 rw[Ω hi,kC]
theorem XE{l:List ByteArray}{s:ByteArray}{i:Nat}(h:pV l s=some i):i<l.length:=by
 rw[pV,List.findIdx?_eq_some_iff_getElem]at h;exact h.1
theorem XF{w:World}{S:Nat→Prop}{v:Value}{rows:List (List Value)}{fp:Option Nat}{l:List Ty}(ho:dP w dH 3 v (rows.flatMap id) rows.length fp)(Hi:∀ b,fp=some b→Out S w b)(hl:rows.length=l.length)(hb:rows.length≤1099511627776)
   (he:∀(i:Nat) (r:List Value) (t:Ty),rows[i]?=some r->l[i]?=some t->aR w (Out S w) r t) (k:Int) (n:ByteArray):aR w (Out S w) [I k,.string n,v] (.mk k n l):=by
 have hr:∀r∈rows,r.length=3:=fun r hr=>by
  obtain⟨i,hi,rfl⟩:=List.getElem_of_mem hr;exact(he i _ _ (Ξ hi) (Ξ (by omega))).len
 exact .mk ⟨(EC ho hr).mod (.refl (fun _=>False) w) aA Hi,hb⟩ hl he
theorem Hj(rows:List (List Value))(r:List Value):(rows++[r]).flatMap id=rows.flatMap id++r:=by simp
theorem ahe{w:World}{B:Nat→Prop}{rows:List (List Value)}{l:List Ty}{r:List Value}{t:Ty}(hl:rows.length=l.length)(he:∀ (i:Nat) (r:List Value) (t:Ty),rows[i]? = some r→l[i]? = some t→aR w B r t)(hr:aR w B r t) :
   ∀(i:Nat) (r':List Value) (t':Ty),(rows++[r])[i]?=some r'->(l++[t])[i]?=some t'->aR w B r' t':=by
 intro i r' t' h1 h2;rcases Nat.lt_or_ge i rows.length with h |h
 .rw[List.getElem?_append_left h]at h1;rw[List.getElem?_append_left (by omega)]at h2;exact he i _ _ h1 h2
 .rw[List.getElem?_append_right h]at h1;rw[List.getElem?_append_right (by omega)]at h2;rcases Nat.eq_zero_or_pos (i-rows.length)with h0 |h0
  .have Lb:i-l.length=0:=by omega
   rw[h0]at h1;rw[Lb]at h2;simp only[List.getElem?_cons_zero,Option.some.injEq]at h1 h2;subst h1 h2;exact hr
  .rw[List.getElem?_eq_none (by simp;omega)]at h1;cases h1
theorem Hk{w:World}{v:Value}{sz i:Nat}{rows:List (List Value)}{B:Nat→Prop}(h:qR w v sz rows B)(hi:i < rows.length) :
   ∃ad c,v=.slice (some ad) rows.length c/\f' w sz (.pointer (some (ad.add (i*sz))))=some (.agg rows[i].toArray):=by
 obtain⟨ad,c,e,k1,k2⟩:=KQ h.1 hi;exact⟨ad,c,e,vx k1 k2⟩
theorem cU{a b c d:Nat}{x:Option Addr}{y:Option Addr}(h:Value.slice x a b=Value.slice y c d):x=y/\a=c/\b=d:=by cases h;exact⟨rfl,rfl,rfl⟩
end
section
open Go Go.W
abbrev EP(w:World)(b:Nat)(n:Int):Prop:=w.heap[b]?=some (.cells #[I n] 3 (0,0))
structure Cr (w:World) (S:Nat->Prop) (nz vG:Value) (ps:List ByteArray) (bs:List Ty):Prop where
 fJ:aX w nz 1 (Out S w) ft ps
 rW:aX w vG 3 (Out S w) (aR w (Out S w)) bs
 hle:ps.length<=bs.length
theorem Cr.ext{w w':World}{S S':Nat->Prop}{nz vG:Value}{ps:List ByteArray}{bs:List Ty}(h:Cr w S nz vG ps bs)(hm:Mod S w w')(hs:∀b,b<w.heap.size->S' b->S b):Cr w' S' nz vG ps bs:=
 ⟨h.fJ.up hm aW (fM hm hs) (fun _ _ h=>h),h.rW.up hm aW (fM hm hs) (fun _ _ h=>h.ext hm hs),h.hle⟩
abbrev RS(S:Nat->Prop)(b8 Hl:Nat)(fp:Option Nat):Nat->Prop:=fun b=>S b\/b=b8\/b=Hl\/fp=some b
structure XG (w:World) (S:Nat->Prop) (lb b8 Hl n0:Nat) (k0:Int) (nm:ByteArray) (w':World) (v:Value) (fp:Option Nat) (rows:List (List Value)) (lk:List Ty) (L:Int):Prop where
 mod:Mod (· = lb) w w'
 left:EP w' lb L
 out:w'.heap[Hl]?=some (.cells [I k0,.string nm,v].toArray dH (0,0))
 dx:w'.heap[b8]?=some (.cells cS.toArray dH (0,0))
 own:dP w' dH 3 v (rows.flatMap id) rows.length fp
 new:∀b,fp=some b->n0<=b
 len:rows.length=lk.length
 ty:∀(i:Nat) (r:List Value) (t:Ty),rows[i]?=some r->lk[i]?=some t->aR w' (Out (RS S b8 Hl fp) w') r t
theorem ahf(t:Ty):∀ {w:World} {S:Nat→Prop} {cs:List Value} {nz vG:Value} {ps:List ByteArray} {bs:List Ty} {lb:Nat} {left:Int},aR w (Out S w) cs t→Cr w S nz vG ps bs→S lb→(∀ b,S b→b < w.heap.size)→EP w lb left →
   bu Tryz.prog 118 [.agg cs.toArray,nz,vG,ptr lb] w fun r w'=>(∃fg:List Value,r=.agg fg.toArray/\aR w' (Out S w') fg (gu ps bs t left).1)/\EP w' lb (gu ps bs t left).2/\Mod (· = lb) w w':=by
 induction t using Ty.ind with
 |h t ih=>
 intro w S cs nz vG ps bs lb left h ij Cs hS XH;obtain⟨v,rfl,hl⟩:=h.cells;obtain⟨a,c,rfl⟩:=bq hl;obtain⟨ab,cb,rfl⟩:=bq ij.rW;have ny:=bP XH;refine γ Tryz.f118 ?_;refine σ ?_;refine bZ rfl ?_;intro w1 au ak cw;refine σ ?_;refine cX ?_;intro w2 az ai bU;have au:=ai.at au Ψ;have bo:=ak.trans ai;have Hm:EP w2 lb left:=bo.at XH Ψ;simp only[go_sem,simprocAttr,cell_of au,Value.cells];refine δ (by rfl) (agz (ij.ext (aq bo) (fun _ _ h=>h)).fJ t.name) ?_;rintro _ _ ⟨rfl,rfl⟩;simp only[go_sem,simprocAttr,cell_of au,Value.cells];refine B6 (fun ρ w'=>w2=w'/\(((t.kind == 2)=true/\∃i:Nat,pV ps t.name=some i/\ρ.get 9=some (I i)/\ρ.get 23=some (.bool true))\/(((t.kind == 2)=false\/pV ps t.name=none)/\ρ.get 23=some (.bool false)/\∃n,ρ.get 9=some (I n)))/\ρ.get 1=some nz/\ρ.get 2=some (.slice ab bs.length cb)/\ρ.get 3=some (ptr lb)/\ρ.get 4=some (ptr w.heap.size)/\ρ.get 8=some (ptr w1.heap.size)) ?_ ?_
 .cases hk:t.kind == 2 with
  |false=>refine σ ?_;exact .inr ⟨_,rfl⟩
  |true=>
   cases hi:pV ps t.name with
   |none=>refine σ ?_;exact .inr ⟨rfl,_,rfl⟩
   |some i=>
    have hge:decide ((i:Int)>=0)=true:=decide_eq_true (by omega);simp only[go_sem,simprocAttr,hge]
 rintro ρ _ ⟨rfl,vH,g1,g2,g3,g4,g8⟩;rcases vH with⟨hk,i,hi,g9,g23⟩ |⟨jb,g23,n9,g9⟩
 .obtain⟨rows,lz,pZ,iI⟩:=ij.rW;have bg:i<bs.length:=Nat.lt_of_lt_of_le (XE hi) ij.hle;have Cu:i<rows.length:=by omega
  have bL:aR w (Out S w) rows[i] bs[i]:=iI i _ _ (Ξ Cu) (Ξ bg);obtain⟨ad,cc,e,cR⟩:=Hk (lz.up bo aA (fun _ h=>h)) Cu;obtain⟨rfl,-,rfl⟩:=cU e;have b1:(0:Int)<=i/\(i:Int)<bs.length:=by omega
  have hd:bs.getD i default=bs[i]:=by simp[List.getD,bg]
  simp only[go_sem,simprocAttr,bG,bH,g1,g2,g3,g4,g8,g9,g23,cell_of Hm,b1,cR,cY];refine δ (by rfl) (EH bs[i] (bL.mod bo.drew aA)) ?_;rintro _ w3 ⟨rfl,aw⟩;have aw:=aw.dG;have ahg:EP w3 lb left:=aw.at Hm Ψ;refine σ ?_;refine⟨aw.bO _ (bP Hm) Ψ,?_⟩;refine eK (cs:=[I left]) rfl rfl ahg rfl (by simp) ?_;intro w4 bm aD dL;have eX:Mod (· = lb) w w4:=((aq (bo.trans aw)).trans aD);have hB:∀b,Out S w b->¬b=lb:=fun b hb e=>hb.2 (e ▸ Cs)
  obtain⟨KT,cc',e',ahh⟩:=Hk (lz.up eX hB (fun _ h=>h)) Cu;obtain⟨e1,-,rfl⟩:=cU e';cases e1;simp only[go_sem,simprocAttr,bG,bH,b1,ahh];have GY:w.heap.size<w1.heap.size:=by omega
  have az:=aD.at (aw.at az Ψ) (by omega);refine bN (cs:=cS) rfl rfl az bL.len rfl bL.one ?_;intro w5 bY aH eY;simp only[go_sem,simprocAttr,aM,RV.ev,aE (n:=3) bY bL.len,aN];rw[XC hk hi,hd];have jd:Mod (· = lb) w w5:=eX.step aH (fun x hx hl=>by omega);exact⟨⟨_,rfl,bL.up jd hB (br (jd.aU (fun b hb=>by subst hb;exact Cs)))⟩,aH.at bm (by omega),jd⟩
 .have cK:gu ps bs t left=_:=XD jb;simp only[go_sem,simprocAttr,g1,g2,g3,g4,g8,g9,g23,cell_of Hm];refine eK (cs:=[I left]) rfl rfl Hm rfl (by simp) ?_;intro w3 aS aw dU;have GY:w.heap.size<w1.heap.size:=by omega
  have au:=aw.at au (by omega);have az:=aw.at az (by omega);simp only[go_sem,simprocAttr,cell_of au,Value.cells];refine eC (n:=3) (vs:=fG t.kind t.name) rfl rfl (oo _ _) ?_;intro w4 bm aD dL;have au:=aD.at au Ψ;have az:=aD.at az Ψ;have aS:=aD.at aS Ψ;have eX:Mod (· = lb) w w4:=(aq bo).trans (aw.trans (aq aD));simp only[go_sem,simprocAttr,cell_of au,Value.cells];have hz4:=eX.size;have y9:=ai.size;have bX:=aw.size;have aqu:=bP bm;have Hn:∀b,S b->b<w.heap.size:=hS;have hlen:=dI hl;refine og (fun ρ w'=>∃v fp rows lk L,XG w S lb w1.heap.size w3.heap.size w4.heap.size t.kind t.name w' v fp rows lk L/\rows.length<=t.args.length/\kC ps bs t.args (Wr (left-1))=(lk,L)/\ρ.get 8=some (ptr w1.heap.size)/\ρ.get 10=some (ptr w3.heap.size)) ?_ ?_
  .refine j7 (PP:=fun w'=>aR w' (Out S w)) (l:=t.args) (B:=Out S w) (fun k ρ w'=>k≤t.args.length∧(∃ v fp rows lk L,XG w S lb w1.heap.size w3.heap.size w4.heap.size t.kind t.name w' v fp rows lk L∧rows.length≤k∧kC ps bs t.args (Wr (left - 1))=(lk++(kC ps bs (t.args.drop k) L).1,(kC ps bs (t.args.drop k) L).2))∧ρ=[(1,nz),(2,.slice ab bs.length cb),(3,ptr lb),(8,ptr w1.heap.size),(10,ptr w3.heap.size),(49,.slice a t.args.length c),(50,I t.args.length),(51,I k)])
    ⟨by omega,⟨.slice none 0 0,none,[],[],_,⟨eX,aS,bm,az,.nil _ _ _,(fun b h=>by cases h),rfl,(fun i r t h=>by simp at h)⟩,by simp,rfl⟩,rfl⟩ hl ?_ (fun _ _ _ h=>h.one) rfl ?_ ?_
   .rintro k _ w5 ⟨hk,⟨v,fp,rows,lk,L,hi,_⟩,rfl⟩;exact⟨⟨hl.mod hi.mod (fun b hb e=>hb.2 (e ▸ Cs)) (fun _ _ h=>h.mod hi.mod (fun b hb e=>hb.2 (e ▸ Cs))),hk⟩,rfl,rfl,rfl⟩
   .rintro k _ w5 hk w6 r js pv ⟨_,⟨v,fp,rows,lk,L,hi,EQ,xy⟩,rfl⟩ hr cG je aG ER;have Qu:=aG.at hi.left Ψ;rw[ahd hk]at xy;simp only[go_sem,simprocAttr,cell_of Qu];cases pb:decide (L<0)with
    |true=>
     have Qv:=of_decide_eq_true pb;rw[if_pos Qv,List.append_nil]at xy;refine σ ?_;refine⟨v,fp,rows,lk,L,⟨hi.mod.trans (aq aG),Qu,aG.at hi.out Ψ,aG.at hi.dx Ψ,hi.own.mod aG (fun _ _ h=>h),hi.new,hi.len,fun i r t h1 h2=>(hi.ty i r t h1 h2).aI (aq aG)⟩,by omega,xy⟩
    |false=>
     have Qv:=of_decide_eq_false pb;rw[if_neg Qv]at xy;have Ho:=aG.at hi.out Ψ;obtain⟨av,cv,rfl,_,_⟩:=hi.own.val;simp only[go_sem,simprocAttr,cell_of Ho,aE (n:=3) je cG,cY];refine aL (by rfl) ?_;have kQ:Mod (· = lb) w w6.drew:=(hi.mod.trans (aq aG)).drew;have XI:=hi.own.mod aG.drew (fun _ _ h=>h);have nA:∀b,RS S w1.heap.size w3.heap.size fp b->b<w6.drew.heap.size:=fun b hb=>by
      rcases hb with h |h |h |h
      .have:=hS b h;have:=kQ.size;omega
      .have:=bP hi.dx;have:=aG.size;have e:w6.drew.heap.size=w6.heap.size:=rfl;omega
      .have:=bP Ho;have e:w6.drew.heap.size=w6.heap.size:=rfl;omega
      .exact XI.lt h
     have vI:∀b,b<w.heap.size->RS S w1.heap.size w3.heap.size fp b->S b:=fun b hb h=>by
      rcases h with h |h |h |h
      .exact h
      .omega
      .omega
      .have:=hi.new b h;omega
     have XJ:Mod S w w6.drew:=kQ.aU (fun b hb=>by subst hb;exact Cs);refine(ih _ (List.getElem_mem hk) (S:=RS S w1.heap.size w3.heap.size fp) (hr.up (aG.drew) aA (fM XJ vI)) (ij.ext XJ vI) (.inl Cs) nA Qu).mono ?_;rintro _ w7 ⟨⟨fg,rfl,ud⟩,kU,aO⟩;have Qw:lb≠w3.heap.size:=by omega
     have aqv:lb≠w1.heap.size:=by omega
     have ot:Mod (· = lb) w6 w7:=aO.dG;have XK:=ot.at Ho (fun e=>Qw e.symm);have iu:∀b,fp=some b->¬b=lb:=fun b hb e=>by have:=hi.new b hb;omega
     have ahi:=XI.mod aO iu;refine σ ?_;refine⟨by rw[ot.bO _ (bP Ho) (fun e=>Qw e.symm)],?_⟩;refine ez (cs:=fg.toArray) rfl ?_ ?_
     .simp only[go_sem,simprocAttr,ud.len]
     intro w8 dW aZ kD;refine σ ?_;refine⟨by rw[aZ.bO _ (bP XK) Ψ,ot.bO _ (bP Ho) (fun e=>Qw e.symm)],?_⟩;have pZ:rows.length<=1099511627776:=by
      obtain⟨Lc,ze,Ld,_⟩:=hl;have:=ze.2;omega
     have eu:=mD dW;rw[ud.len]at eu;refine sN (m:=1) (news:=fg) rfl (ahi.mod aZ (fun _ _ h=>h)) rfl (fun h=>by cases h) eu ud.one rfl (by omega) (by omega) ?_;intro v9 w9 xz XL aQ Le;have Qx:Mod (fun b=>fp=some b) w8 w9:=aQ;have ahj:=aZ.at XK Ψ;have ahk:=aQ.at ahj (fun h=>by have:=hi.new _ h;omega);obtain⟨av9,cv9,rfl,_,_⟩:=XL.val;refine σ ?_;refine eK rfl rfl ahk rfl (by simp) ?_;intro cD eM bD ou;have XM:=aG.size;have Lf:=ot.size;have Lg:=aQ.size;have hzi:=hi.mod.size;have z5:=bP hi.out;have XN:∀b,xz=some b->w4.heap.size<=b:=fun b hb=>by
      rcases Le b hb with h |⟨h,_⟩
      .exact hi.new b h
      .have:=hi.mod.size;omega
     have key:∀(x:List Value) (u:Ty),aR w7 (Out (RS S w1.heap.size w3.heap.size fp) w7) x u->aR cD (Out (RS S w1.heap.size w3.heap.size xz) cD) x u:=fun x u h=>by
      have h8:=h.aI (aq aZ)
      have h9:aR w9 (Out (RS S w1.heap.size w3.heap.size xz) w9) x u:=h8.up aQ (fun b hb hf=>hb.2 (.inr (.inr (.inr hf)))) (fun b hb=>⟨by omega,fun hh=>by
       rcases hh with h |h |h |h
       ·exact hb.2 (.inl h)
       ·exact hb.2 (.inr (.inl h))
       ·exact hb.2 (.inr (.inr (.inl h)))
       ·rcases Le b h with h |⟨h,_⟩
        ·exact hb.2 (.inr (.inr (.inr h)))
        ·have:=hb.1;omega⟩)
      exact h9.aI (bD.aU (fun b hb=>.inr (.inr (.inl hb))))
     have nv:Mod (· = lb) w w9:=(((hi.mod.trans (aq aG)).trans ot).trans (aq aZ)).step aQ (fun b h bg=>by have:=hi.new b h;omega);have Qy:Mod (· = lb) w cD:=nv.step bD (fun b h bg=>by omega);have Lh:EP cD lb (gu ps bs t.args[k] L).2:=bD.at (aQ.at (aZ.at kU Ψ) (fun h=>by have:=hi.new _ h;omega)) (by omega);have qc:=aG.at hi.dx Ψ;have Cv:=bD.at (aQ.at (aZ.at (ot.at qc (by omega)) Ψ) (fun h=>by have:=hi.new _ h;omega)) (by omega);refine⟨hk,⟨_,xz,rows++[fg],lk++[(gu ps bs t.args[k] L).1],_,⟨Qy,Lh,eM,Cv,?_,XN,by simp[hi.len],ahe hi.len (fun i x u h1 h2=>key x u ?_) (key _ _ ?_)⟩,by simp;omega,?_⟩⟩
     .rw[Hj,List.length_append];exact XL.mod bD (fun b hb e=>by subst e;have:=XN _ hb;omega)
     .exact((hi.ty i x u h1 h2).aI (aq aG.drew)).aI (aO.aU (fun b hb=>by subst hb;exact .inl Cs))
     .exact ud
     .rw[xy,List.append_assoc];rfl
   .rintro _ w5 ⟨_,⟨v,fp,rows,lk,L,hi,EQ,xy⟩,rfl⟩;rw[List.drop_length,kC,List.append_nil]at xy;refine σ ?_;exact⟨v,fp,rows,lk,L,hi,EQ,xy⟩
  .rintro ρ w5 ⟨v,fp,rows,lk,L,hi,EQ,xy,g8,g10⟩;have pZ:rows.length≤1099511627776:=by
    obtain⟨Lc,ze,Ld,_⟩:=hl;have:=ze.2;omega
   have hzi:=hi.mod.size
   have bL:=XF (S:=RS S w1.heap.size w3.heap.size none) hi.own (fun b hb=>⟨hi.own.lt hb,fun hh=>by
    have:=hi.new b hb;rcases hh with h |h |h |h
    ·have:=hS b h;omega
    ·omega
    ·omega
    ·cases h⟩) hi.len pZ (fun i r t h1 h2=>(hi.ty i r t h1 h2).sub (fun b hb=>by
     rcases hb with h |h |h |h
     ·exact .inl h
     ·exact .inr (.inl h)
     ·exact .inr (.inr (.inl h))
     ·cases h)) t.kind t.name
   simp only[go_sem,simprocAttr,g8,g10,aE (n:=3) hi.out rfl];refine bN (cs:=cS) g8 rfl hi.dx rfl rfl bL.one ?_;intro w6 cH aG fw;simp only[go_sem,simprocAttr,aM,RV.ev,aE (n:=3) cH rfl,aN];rw[cK,xy];refine⟨⟨_,rfl,bL.up aG (fun b hb e=>hb.2 (.inr (.inl e))) (fun b hb=>⟨by have:=hb.1;omega,fun h=>hb.2 (.inl h)⟩)⟩,aG.at hi.left (by omega),hi.mod.step aG (fun x hx hl=>by omega)⟩
def iv(ps:List ByteArray)(bs:List Ty)(t:Ty):Ty×Int:=gu ps bs t 500
theorem Qz(t:Ty){w:World}{S:Nat→Prop}{cs:List Value}{nz vG:Value}{ps:List ByteArray}{bs:List Ty}(h:aR w (Out S w) cs t)(ij:Cr w S nz vG ps bs)(hS:∀ b,S b→b < w.heap.size) :
   bu Tryz.prog 101 [.agg cs.toArray,nz,vG] w fun r w'=>(∃fg:List Value,r=.tuple #[.agg fg.toArray,.bool (decide ((iv ps bs t).2>=0))]/\aR w' (Out S w') fg (iv ps bs t).1)/\Mod (fun _=>False) w w':=by
 refine γ Tryz.f101 ?_;refine σ ?_;refine bZ rfl ?_;intro w1 au ak cw;refine σ ?_;refine cX ?_;intro w2 az ai bU;refine σ ?_;refine cX ?_;intro w3 aS aw dU;refine σ ?_;refine eK (cs:=[I 0]) rfl rfl aS rfl (by simp) ?_;intro w4 bm aD dL;have rV:Mod (fun _=>False) w2 w4:=aw.step aD (fun x hx hl=>by omega);have au:=rV.at (ai.at au Ψ) Ψ;have az:=rV.at az Ψ;have eX:=ak.trans (ai.trans rV);have z1:=ak.size;have z2:=ai.size;simp only[go_sem,simprocAttr,aE (n:=3) (cs:=cs) au h.len];refine aL (by rfl) ?_;have hs:∀b,b<w.heap.size->(S b\/b=w2.heap.size\/b=w1.heap.size)->S b:=fun b hb h=>by
  rcases h with h |h |h
  .exact h
  .omega
  .omega
 refine(ahf t (S:=fun b=>S b\/b=w2.heap.size\/b=w1.heap.size) (h.ext (aq eX) hs) (ij.ext (aq eX) hs) (.inr (.inl rfl)) (fun b hb=>by
  rcases hb with h |h |h
  ·have:=hS b h;omega
  ·omega
  ·omega) bm).mono ?_
 rintro _ w5 ⟨⟨fg,rfl,bL⟩,tV,aH⟩;have az:=aH.at az (by omega);refine σ ?_;refine eC (n:=3) (vs:=fg) rfl bL.len bL.one ?_;intro w6 cH aG fw;have Cw:=aG.at tV Ψ;have az:=aG.at az Ψ;simp only[go_sem,simprocAttr,aE (n:=3) cH bL.len,cell_of Cw,cY];have z5:=aH.size;refine bN (w:=w6.drew) (cs:=cS) rfl rfl az bL.len rfl bL.one ?_;intro w7 dh aO jn;have aO:Mod (· = w1.heap.size) w6 w7:=aO.dG;have ES:=(bL.aI (aq aG)).aI (aO.aU (fun b hb=>.inr (.inr hb)));simp only[go_sem,simprocAttr,aM,RV.ev,aE (n:=3) dh bL.len,aN];refine⟨aO.bO _ (bP Cw) (by omega),?_⟩;exact⟨⟨fg,rfl,ES.sub (fun b hb=>.inl hb)⟩,((eX.step aH (fun x hx hl=>by omega)).trans aG).step aO (fun x hx hl=>by omega)⟩
end
section
open Go Go.W
structure Env where
 aK:List (ByteArray×Dt)
 cons:List (ByteArray×(Dt×Nat))
 aj:List (ByteArray×Df)
 params:List (ByteArray×Int)
abbrev cE:=List (ByteArray×Int)
abbrev Loc:=List (ByteArray×Ty)
def has(l:cE)(s:ByteArray):Bool:=decide ((aJ l s).getD 0>0)
def eR(E:Env)(n:ByteArray)(len:Nat):Bool:=match aJ E.aK n with
 |none=>true
 |some d=>(d.params.length:Int)!=len
mutual
def Ty.fits(E:Env):Ty->Bool
 |.mk k n l=>if k == 2 then has E.params n else if k == 4 then(if eR E n l.length then false else ue E l)else ue E l
def ue(E:Env):List Ty->Bool
 |[]=>true
 |t::l=>t.fits E&&ue E l
end
theorem Ty.QA(E:Env)(t:Ty):t.fits E=if t.kind == 2 then has E.params t.name else if t.kind == 4 then(if eR E t.name t.args.length then false else ue E t.args)else ue E t.args:=by cases t;rw[Ty.fits];rfl
theorem QB(E:Env)(l:List Ty):ue E l=l.all (Ty.fits E):=by
 induction l with
 |nil=>rfl
 |cons t l ih=>rw[ue,ih,List.all_cons]
def iT(E:Env)(t:Ty):Bool:=(lS t == 0)&&t.fits E
def j'(E:Env)(t:Ty)(ps:List ByteArray)(at':List Ty):Except Int Ty:=
 if((ps.length:Int)!=at'.length)=true then .error 83
 else if at'.all (iT E)=false then .error 83
 else if(iv ps at' t).2>=0 then .ok (iv ps at' t).1 else .error 83
def Li(s:ByteArray):Ty:=.mk 2 s []
def Cy(d:Dt):Ty:=.mk 4 d.name (d.params.map Li)
def gg(d:Dt)(i:Nat):List Ty:=(d.cons.map Cn.fields).getD i []
def vJ(d:Dt)(i:Nat):Ty:=(gg d i).foldr lA (Cy d)
end
section
open Go Go.W
def iU(w:World)(B:Nat->Prop)(a:Addr)(cs:List Value):Prop:=B a.block/\∀k (hk:k<cs.length),w.cell? (a.add k)=some cs[k]
section
variable {w w':World} {B B' S S':Nat->Prop} {a:Addr} {cs:List Value}
theorem iU.up(h:iU w B a cs)(hm:Mod S w w')(hd:∀b,B b->¬S b)(hB:∀b,B b->B' b):iU w' B' a cs:=
 ⟨hB _ h.1,fun k hk=>hm.cell (h.2 k hk) (by rw[u9];exact hd _ h.1)⟩
theorem iU.c0(h:iU w B a cs)(hk:0<cs.length):w.cell? a=some cs[0]:=by have:=h.2 0 hk;rwa[add_zero']at this
theorem iU.at(h:iU w B a cs){k:Nat}(hk:k<cs.length)(h0:k≠0:=by decide):w.cell? ⟨a.block,a.off+k,none⟩=some cs[k]:=by have:=h.2 k hk;rwa[add_pos _ h0]at this
theorem iU.ln(h:iU w B a cs){o n:Nat}(hn:o+n<=cs.length)(h0:o≠0:=by decide):f' w n (.pointer (some ⟨a.block,a.off+o,none⟩))=some (.agg ((cs.drop o).take n).toArray):=by
 have:=Hd h.2 hn
 rwa[add_pos _ h0]at this
def vK(w:World)(B:Nat->Prop)(a:Addr)(d:Dt):Prop:=∃cs,iU w B a cs/\gC w B cs d
def Lj(w:World)(B:Nat->Prop)(a:Addr)(d:Df):Prop:=∃cs,iU w B a cs/\jE w B cs d
theorem vK.up{d:Dt}(h:vK w B a d)(hm:Mod S w w')(hd:∀b,B b->¬S b)(hB:∀b,B b->B' b):vK w' B' a d:=by
 obtain⟨cs,h1,h2⟩:=h;exact⟨cs,h1.up hm hd hB,h2.up hm hd hB⟩
theorem Lj.up{d:Df}(h:Lj w B a d)(hm:Mod S w w')(hd:∀b,B b->¬S b)(hB:∀b,B b->B' b):Lj w' B' a d:=by
 obtain⟨cs,h1,h2⟩:=h;exact⟨cs,h1.up hm hd hB,h2.up hm hd hB⟩
end
def zg(w:World)(B:Nat->Prop)(v:Value)(d:Dt):Prop:=∃a,v=.pointer (some a)/\vK w B a d
def vM(w:World)(B:Nat->Prop)(v:Value)(x:Dt×Nat):Prop:=∃a,v=.agg #[.pointer (some a),I x.2]/\vK w B a x.1/\x.2<x.1.cons.length
def xA(w:World)(B:Nat->Prop)(v:Value)(d:Df):Prop:=∃a,v=.pointer (some a)/\Lj w B a d
def RI(v:Value)(n:Int):Prop:=v=I n
def pd(w:World)(B:Nat->Prop)(v:Value)(t:Ty):Prop:=∃cs:List Value,v=.agg cs.toArray/\aR w B cs t
section
variable {w w':World} {B B' S:Nat->Prop} {v:Value}
theorem zg.up{d:Dt}(h:zg w B v d)(hm:Mod S w w')(hd:∀b,B b->¬S b)(hB:∀b,B b->B' b):zg w' B' v d:=by
 obtain⟨a,e,h⟩:=h;exact⟨a,e,h.up hm hd hB⟩
theorem vM.up{d:Dt×Nat}(h:vM w B v d)(hm:Mod S w w')(hd:∀b,B b->¬S b)(hB:∀b,B b->B' b):vM w' B' v d:=by
 obtain⟨a,e,h,hi⟩:=h;exact⟨a,e,h.up hm hd hB,hi⟩
theorem xA.up{d:Df}(h:xA w B v d)(hm:Mod S w w')(hd:∀b,B b->¬S b)(hB:∀b,B b->B' b):xA w' B' v d:=by
 obtain⟨a,e,h⟩:=h;exact⟨a,e,h.up hm hd hB⟩
theorem pd.up{d:Ty}(h:pd w B v d)(hm:Mod S w w')(hd:∀b,B b->¬S b)(hB:∀b,B b->B' b):pd w' B' v d:=by
 obtain⟨cs,e,h⟩:=h;exact⟨cs,e,h.up hm hd hB⟩
end
structure Ms where
 c:Nat
 md:Nat
 mc:Nat
 mf:Nat
 mp:Nat
 mb:Nat
 ml:Nat
def Ms.list(M:Ms):List Nat:=[M.c,M.md,M.mc,M.mf,M.mp,M.mb,M.ml]
abbrev Ms.cells(M:Ms):List Value:=[.map (some M.md),.map (some M.mc),.map (some M.mf),.map (some M.mp),.bool false,.map (some M.mb),.map (some M.ml)]
abbrev XO:Nat:=149
structure cL (w:World) (S:Nat->Prop) (M:Ms) (E:Env) (bd:cE) (lc:Loc):Prop where
 box:w.heap[M.c]?=some (.cells M.cells.toArray XO (0,0))
 nodup:M.list.Nodup
 aT:∀b∈M.list,S b
 lt:∀b,S b->b<w.heap.size
 aK:bQ w M.md (zg w (Out S w)) E.aK
 cons:bQ w M.mc (vM w (Out S w)) E.cons
 aj:bQ w M.mf (xA w (Out S w)) E.aj
 params:bQ w M.mp RI E.params
 jt:bQ w M.mb RI bd
 locals:bQ w M.ml (pd w (Out S w)) lc
theorem Ms.ne{M:Ms}(h:M.list.Nodup):(M.c≠M.md/\M.c≠M.mc/\M.c≠M.mf/\M.c≠M.mp/\M.c≠M.mb/\M.c≠M.ml)/\(M.md≠M.mc/\M.md≠M.mf/\M.md≠M.mp/\M.md≠M.mb/\M.md≠M.ml)/\(M.mc≠M.mf/\M.mc≠M.mp/\M.mc≠M.mb/\M.mc≠M.ml)/\(M.mf≠M.mp/\M.mf≠M.mb/\M.mf≠M.ml)/\(M.mp≠M.mb/\M.mp≠M.ml)/\M.mb≠M.ml:=by
 simp only[Ms.list,List.nodup_cons,List.mem_cons,List.not_mem_nil,or_false,not_or,not_false_eq_true,List.nodup_nil,and_true]at h;exact h
abbrev Ms.two(M:Ms):Nat->Prop:=fun b=>b=M.mb\/b=M.ml
theorem cL.fm{w w':World}{S:Nat->Prop}{M:Ms}{E:Env}{bd eZ:cE}{lc ju:Loc}(h:cL w S M E bd lc)(hm:Mod M.two w w')(h1:bQ w' M.mb RI eZ)(h2:bQ w' M.ml (pd w' (Out S w')) ju):cL w' S M E eZ ju:=by
 obtain⟨⟨a1,a2,a3,a4,a5,a6⟩,⟨b1,b2,b3,b4,b5⟩,⟨c1,c2,c3,c4⟩,⟨d1,d2,d3⟩,⟨e1,e2⟩,f1⟩:=Ms.ne h.nodup;have hS:∀b,M.two b->S b:=fun b hb=>by
  rcases hb with rfl |rfl
  .exact h.aT _ (by simp[Ms.list])
  .exact h.aT _ (by simp[Ms.list])
 have cA:Mod S w w':=hm.aU hS;have no:∀{x:Nat},x≠M.mb->x≠M.ml->¬M.two x:=fun h1 h2 h=>by rcases h with h |h;exact h1 h;exact h2 h
 exact⟨hm.at h.box (no a5 a6),h.nodup,h.aT,fun b hb=>Nat.lt_of_lt_of_le (h.lt b hb) hm.size,
  h.aK.mod hm (no b4 b5) (fun _ _ x=>x.up cA aW (br cA)),h.cons.mod hm (no c3 c4) (fun _ _ x=>x.up cA aW (br cA)),
  h.aj.mod hm (no d2 d3) (fun _ _ x=>x.up cA aW (br cA)),h.params.mod hm (no e1 e2) (fun _ _ x=>x),h1,h2⟩
theorem bQ.ty{w w':World}{S S':Nat->Prop}{b:Nat}{lc:Loc}(h:bQ w b (pd w (Out S w)) lc)(hm:Mod S' w w')(hs:∀b,S' b->S b)(hb:¬S' b):bQ w' b (pd w' (Out S w')) lc:=
 bQ.mod h hm hb (fun _ _ x=>x.up (hm.aU hs) aW (br (hm.aU hs)))
theorem cL.aI{w w':World}{S:Nat->Prop}{M:Ms}{E:Env}{bd:cE}{lc:Loc}(h:cL w S M E bd lc)(hm:Mod (fun _=>False) w w'):cL w' S M E bd lc:=
 h.fm (aq hm) (h.jt.mod hm Ψ (fun _ _ x=>x)) (h.locals.ty hm (fun _ h=>h.elim) Ψ)
theorem cL.two{w:World}{S:Nat->Prop}{M:Ms}{E:Env}{bd:cE}{lc:Loc}(h:cL w S M E bd lc):∀b,M.two b->S b:=fun b hb=>by
 rcases hb with rfl |rfl
 .exact h.aT _ (by simp[Ms.list])
 .exact h.aT _ (by simp[Ms.list])
section
variable {P:Program} {w:World} {ρ:Go.W.Env} {K:Go.W.Env->World->Prop} {rd:List (Nat×Nat)} {i s:Nat} {d:Option Nat} {e:Go.W.E} {fl:List Nat} {t:D}
@[go_sem] theorem aqw (h:ρ.get s=some (.bool true)):eo P (.e i (some (s,true)) d e fl t) ρ w rd K=(e.wp P w ρ fun v w'=>oO fl w w' rd/\eo P t (ρ.put d v) w' rd K):=by simp[eo,h,ik,undef]
@[go_sem] theorem aqx (h:ρ.get s=some (.bool false)):eo P (.e i (some (s,false)) d e fl t) ρ w rd K=(e.wp P w ρ fun v w'=>oO fl w w' rd/\eo P t (ρ.put d v) w' rd K):=by simp[eo,h,ik,undef]
@[go_sem] theorem aqy (h:ρ.get s=some (.bool true)):eo P (.e i (some (s,false)) d e fl t) ρ w rd K=eo P t (ρ.put d undef) w rd K:=by simp[eo,h,ik,undef]
@[go_sem] theorem aqz (h:ρ.get s=some (.bool false)):eo P (.e i (some (s,true)) d e fl t) ρ w rd K=eo P t (ρ.put d undef) w rd K:=by simp[eo,h,ik,undef]
end
section
variable {P:Program} {w:World} {ρ:W.Env} {K:Value->World->Prop} {α:Type} {R:Value->α->Prop} {l:List (ByteArray×α)} {b:Nat} {k:ByteArray} {t kt et:TypeId} {m x y:Operand} {d:Option Nat} {ty:TypeId} {pos:String} {af:Array Edge}
theorem Hp(hm:(bI m).ev ρ=some (.map (some b)))(hx:(bI x).ev ρ=some (.string k))(ht:P.underlying t=some (.map kt et))(gY:P.underlying kt=some .string)
   {z:Value} (hz:(zeroValue et).run P w=.ok z w) (h:bQ w b R l) (h0:aJ l k=none->K (.tuple #[z,.bool false]) w) (h1:∀v a,aJ l k=some a->R v a->K (.tuple #[v,.bool true]) w):E.wp P w ρ K (.raw ⟨d,.lookup t m x true,ty,pos,af,none⟩):=by
 obtain⟨lv,hv,hp⟩:=h;refine G8 hm hx ht gY hz hv ?_;rcases hp.get k with⟨e1,e2⟩ |⟨v,a,e1,e2,hr⟩
 .rw[e1];exact h0 e2
 .rw[e1];exact h1 v a e2 hr
theorem lW{v:Value}{a:α}(hm:(bI m).ev ρ=some (.map (some b)))(hx:(bI x).ev ρ=some (.string k))(hy:(bI y).ev ρ=some v)(ht:P.underlying t=some (.map kt et))(gY:P.underlying kt=some .string)
   (h:bQ w b R l) (hr:R v a) (hk:∀w',bQ w' b R (bS l k a)->Mod (· = b) w w'->w'.heap.size=w.heap.size->K undef w'):E.wp P w ρ K (.raw ⟨d,.mapUpdate t m x y,ty,pos,af,none⟩):=by
 obtain⟨lv,hv,hp⟩:=h;refine WV hm hx hy ht gY hv ?_;intro w' nj iD fK;exact hk w' ⟨_,nj,hp.put k hr⟩ iD fK
theorem XP{at':Array TypeId}(gB:at'[0]? = some t)(hm:(bI m).ev ρ=some (.map (some b)))(hx:(bI x).ev ρ=some (.string k))(ht:P.underlying t=some (.map kt et))(gY:P.underlying kt=some (.string))
   (h:bQ w b R l) (hk:∀w',bQ w' b R (gq l k)->Mod (· = b) w w'->w'.heap.size=w.heap.size->K (.tuple #[]) w'):E.wp P w ρ K (.raw ⟨d,.call { callee:=.builtin .delete,args:=#[m,x],argTypes:=at'},ty,pos,af,none⟩):=by
 obtain⟨lv,hv,hp⟩:=h;refine afW gB hm hx ht gY hv ?_;intro w' nj iD fK;exact hk w' ⟨_,nj,hp.del k⟩ iD fK
theorem pe{t:TypeId}(R:Value→α→Prop)(hk:∀ w',bQ w' w.heap.size R ([]:List (ByteArray×α))→Mod (fun _=>False) w w'→w'.heap.size=w.heap.size+1→K (.map (some w.heap.size)) w') :
   E.wp P w ρ K (.raw ⟨d,.makeMap t none,ty,pos,af,none⟩):=
 WU fun w' h1 h2 h3=>hk w' ⟨_,h1,.nil⟩ h2 h3
theorem Cz{op:Op}{g:Option (Nat×Bool)}(h:E.wp P w ρ K (.raw ⟨d,op,ty,pos,af,none⟩)):E.wp P w ρ K (.raw ⟨d,op,ty,pos,af,g⟩):=h
theorem AM{l:cE}(hm:(bI m).ev ρ=some (.map (some b)))(hx:(bI x).ev ρ=some (.string k))(ht:P.underlying t=some (.map kt et))(gY:P.underlying kt=some .string)
   (hz:(zeroValue et).run P w=.ok (I 0) w) (h:bQ w b RI l) (hk:K (I ((aJ l k).getD 0)) w):E.wp P w ρ K (.raw ⟨d,.lookup t m x false,ty,pos,af,none⟩):=by
 obtain⟨lv,hv,hp⟩:=h;refine KP hm hx ht gY hz hv ?_;rcases hp.get k with⟨e1,e2⟩ |⟨v,a,e1,e2,hr⟩
 .rw[e1];rw[e2]at hk;exact hk
 .rw[e1];rw[e2]at hk;have:v=I a:=hr;rw[this];exact hk
end
end
section
open Go Go.W
theorem ahl(d:Dt)(i:Nat){w:World}{S:Nat→Prop}{a:Addr}(hp:vK w (Out S w) a d)(hi:i < d.cons.length)(hS:∀ b,S b→b < w.heap.size) :
   bu Tryz.prog 75 [.agg #[.pointer (some a),I i]] w fun r w'=>(∃cs:List Value,r=.agg cs.toArray/\aR w' (Out S w') cs (vJ d i))/\Mod (fun _=>False) w w':=by
 obtain⟨cs,bT,vp,vc,rfl,iw,lC⟩:=hp;obtain⟨ap,cp,rfl⟩:=bq iw;obtain⟨ac,cc,rfl⟩:=bq lC;refine γ Tryz.f75 ?_;(try simp only[go_sem,Nat.reduceAdd,Nat.reduceEqDiff,Nat.reduceLT,Nat.reduceLeDiff,Nat.reduceMul,reduceCtorEq,↓reduceIte]);refine bZ rfl ?_;intro w1 au ak cw;(try simp only[go_sem,Nat.reduceAdd,Nat.reduceEqDiff,Nat.reduceLT,Nat.reduceLeDiff,Nat.reduceMul,reduceCtorEq,↓reduceIte]);refine cX ?_;intro w2 az ai bU;have au:=ai.at au Ψ;have bo:=ak.trans ai;have ET:=bT.up bo aA (fun _ h=>h);have c1:w2.cell? ⟨a.block,a.off+1,none⟩=some (.slice ap d.params.length cp):=ET.at (k:=1) (by simp);(try simp only[go_sem,Nat.reduceAdd,Nat.reduceEqDiff,Nat.reduceLT,Nat.reduceLeDiff,Nat.reduceMul,reduceCtorEq,↓reduceIte,cell_of au,Value.cells,c1]);have hlen:=dI iw;refine eW d.params.length (fun k ρ w'=>k<=d.params.length/\∃v fp,dP w' dH 3 v (((d.params.take k).map (fG 2)).flatMap id) k fp/\(∀b,fp=some b->w2.heap.size<=b)/\Mod (fun _=>False) w2 w'/\ρ=[(1,ptr w.heap.size),(2,ptr w1.heap.size),(3,v),(13,.slice ap d.params.length cp),(14,I d.params.length),(15,I k)])
  ⟨by omega,.slice none 0 0,none,.nil _ _ _,(fun b h=>by cases h),.refl _ _,rfl⟩ hlen ?_ ?_ (by decide) ?_
 .rintro k _ w3 ⟨hk,v,fp,_,_,_,rfl⟩;exact⟨rfl,rfl,hk⟩
 .rintro k _ w3 ⟨_,v,fp,ho,hf,aw,rfl⟩ hk;obtain⟨ad,c1,e,hn,hc⟩:=xr (iw.up (bo.trans aw) aA (fun _ h=>h) (fun _ _ h=>h)) hk;cases e;have b1:(0:Int)<=k/\(k:Int)<d.params.length:=by omega
  obtain⟨av,cv,rfl,_,_⟩:=ho.val;(try simp only[go_sem,Nat.reduceAdd,Nat.reduceEqDiff,Nat.reduceLT,Nat.reduceLeDiff,Nat.reduceMul,reduceCtorEq,↓reduceIte,bG,bH,b1,hc]);refine aL (by rfl) ?_;refine(La _).mono ?_;rintro _ w4 ⟨rfl,aD⟩;(try simp only[go_sem,Nat.reduceAdd,Nat.reduceEqDiff,Nat.reduceLT,Nat.reduceLeDiff,Nat.reduceMul,reduceCtorEq,↓reduceIte]);refine ez (cs:=(fG 2 d.params[k]).toArray) rfl rfl ?_;intro w5 bY aH eY;have iV:=aD.trans aH;(try simp only[go_sem,Nat.reduceAdd,Nat.reduceEqDiff,Nat.reduceLT,Nat.reduceLeDiff,Nat.reduceMul,reduceCtorEq,↓reduceIte]);have fI:d.params.length<=1099511627776:=by obtain⟨r0,h1,h2,_⟩:=iw;have:=h1.2;omega
  refine sN (m:=1) (news:=fG 2 d.params[k]) rfl (ho.mod iV (fun _ _ h=>h)) rfl (fun h=>by cases h) (mD bY) (oo _ _) rfl (by omega) (by omega) ?_;intro v6 w6 XQ xu aG qV;(try simp only[go_sem,Nat.reduceAdd,Nat.reduceEqDiff,Nat.reduceLT,Nat.reduceLeDiff,Nat.reduceMul,reduceCtorEq,↓reduceIte]);have hz:=(aw.trans iV).size;refine⟨hk,v6,XQ,?_,fun b hb=>?_,(aw.trans iV).step aG (fun b hb hl=>by have:=hf b hb;omega),rfl⟩
  .rw[List.take_succ_eq_append_getElem hk,List.map_append,List.flatMap_append]
   simpa using xu
  .rcases qV b hb with h |⟨h,_⟩
   .exact hf b h
   .omega
 rintro _ w3 ⟨_,v,fp,ho,hf,aw,rfl⟩;rw[List.take_length]at ho;have bz:=bo.trans aw;have au:=aw.at au Ψ;have az:=aw.at az Ψ;have c3:w3.cell? a=some (.string d.name):=(bT.up bz aA (fun _ h=>h)).c0 (by simp);have z2:=bo.size;have XR:aR w3 (Out (fun b=>S b\/b=w1.heap.size) w3) [I 4,.string d.name,v] (Cy d):=by
  have GG:dP w3 dH 3 v ((d.params.map (fG 2)).flatMap id) (d.params.map (fG 2)).length fp:=by rw[List.length_map];exact ho
  refine XF GG (fun b hb=>⟨ho.lt hb,fun h=>by have:=hf b hb;have:=ak.size;rcases h with h |h;have:=hS b h;omega;omega⟩) (by simp) ?_ ?_ 4 d.name
  .obtain⟨r0,h1,h2,_⟩:=iw;have:=h1.2;simp;omega
  .intro j r t h1 h2;rw[List.getElem?_map]at h1 h2;cases hj:d.params[j]? with
   |none=>rw[hj]at h1;cases h1
   |some s=>
    rw[hj]at h1 h2;simp only[Option.map_some,Option.some.injEq]at h1 h2;subst h1 h2;exact om _ _ _ _
 obtain⟨av,cv,rfl,_,_⟩:=ho.val;(try simp only[go_sem,Nat.reduceAdd,Nat.reduceEqDiff,Nat.reduceLT,Nat.reduceLeDiff,Nat.reduceMul,reduceCtorEq,↓reduceIte,cell_of au,Value.cells,c3]);refine aL (by rfl) ?_;refine(Qs d.name (v:=.slice av d.params.length cv) rfl rfl).mono ?_;rintro _ w4 ⟨rfl,aD⟩;(try simp only[go_sem,Nat.reduceAdd,Nat.reduceEqDiff,Nat.reduceLT,Nat.reduceLeDiff,Nat.reduceMul,reduceCtorEq,↓reduceIte]);refine eC (n:=3) (vs:=[I 4,.string d.name,.slice av d.params.length cv]) rfl rfl XR.one ?_;intro w5 bY aH eY;have iV:=aD.trans aH;have jd:=bz.trans iV;have au:=iV.at au Ψ;have az:=iV.at az Ψ;have c5:w5.cell? ⟨a.block,a.off+2,none⟩=some (.slice ac d.cons.length cc):=(bT.up jd aA (fun _ h=>h)).at (k:=2) (by simp);have QC:=lC.up jd aA (fun _ h=>h) (fun _ _ h=>h.mod jd aA);obtain⟨adc,c2,r,e,⟨vf,rfl,iu,_⟩,_,_,pS⟩:=dT QC hi;cases e;obtain⟨af,cf,rfl⟩:=bq iu;have b1:(0:Int)<=i/\(i:Int)<d.cons.length:=by omega
 have rX:w5.cell? ((adc.add (i*2)).add 1)=some (.slice af d.cons[i].fields.length cf):=pS 1 (by simp);rw[add_pos _ (by decide)]at rX;(try simp only[go_sem,Nat.reduceAdd,Nat.reduceEqDiff,Nat.reduceLT,Nat.reduceLeDiff,Nat.reduceMul,reduceCtorEq,↓reduceIte,bG,bH,cell_of au,Value.cells,c5,b1,rX]);have iR:gg d i=d.cons[i].fields:=by simp[gg,List.getD,hi]
 have z1:=ak.size;have z3:=aw.size;have z4:=aD.size;have e5:w5.drew.heap.size=w5.heap.size:=rfl;have ny:∀b,Out S w b->¬b=w4.heap.size:=fun b hb=>by have:=hb.1;omega
 have aqA:=dI iu
 have ahm:∀{w':World} {cs:List Value} {t:Ty},Mod S w w'->aR w' (Out S w) cs t->aR w' (Out (fun b=>S b\/b=w4.heap.size\/b=w1.heap.size) w') cs t:=fun hm h=>h.up (.refl (fun _=>False) _) aA (fun b hb=>⟨by have:=hb.1;have:=hm.size;omega,fun hh=>by
  rcases hh with h |h |h
  ·exact hb.2 h
  ·exact ny b hb h
  ·have:=hb.1;omega⟩)
 refine og (fun ρ w'=>(∃cs:List Value,w'.heap[w4.heap.size]?=some (.cells cs.toArray dH (0,0))/\aR w' (Out (fun b=>S b\/b=w4.heap.size\/b=w1.heap.size) w') cs (vJ d i))/\w'.heap[w1.heap.size]?=some (.cells cS.toArray dH (0,0))/\Mod (fun _=>False) w w'/\ρ.get 2=some (ptr w1.heap.size)/\ρ.get 6=some (ptr w4.heap.size)) ?_ ?_
 .refine io (fun m ρ w'=>m≤d.cons[i].fields.length∧Mod (· = w4.heap.size) w5 w'∧(∃ cs:List Value,w'.heap[w4.heap.size]? = some (.cells cs.toArray dH (0,0))∧aR w' (Out (fun b=>S b∨b=w4.heap.size∨b=w1.heap.size) w') cs ((d.cons[i].fields.drop m).foldr lA (Cy d)))∧w'.heap[w1.heap.size]? = some (.cells cS.toArray dH (0,0))∧ρ=[(2,ptr w1.heap.size),(6,ptr w4.heap.size),(7,.slice af d.cons[i].fields.length cf),(8,I ((m:Int) - 1))]) d.cons[i].fields.length
   ⟨Nat.le_refl _,(Mod.refl _ _).drew,⟨_,bY,?_⟩,az,?_⟩ ?_
  .rw[List.drop_length];refine XR.up iV.drew aA (fun b hb=>⟨by have:=hb.1;omega,fun hh=>?_⟩);rcases hh with h |h |h
   .exact hb.2 (.inl h)
   .have:=hb.1;omega
   .exact hb.2 (.inr h)
  .rw[dJ (by omega) (by omega)]
  rintro m ρ w6 ⟨hm,aG,⟨cs,cH,bL⟩,oZ,rfl⟩;cases m with
  |zero=>
   have hge:decide ((((0:Nat):Int)-1)>=0)=false:=rfl;(try simp only[go_sem,Nat.reduceAdd,Nat.reduceEqDiff,Nat.reduceLT,Nat.reduceLeDiff,Nat.reduceMul,reduceCtorEq,↓reduceIte,hge]);have e:vJ d i=(d.cons[i].fields.drop 0).foldr lA (Cy d):=by rw[vJ,iR];rfl
   rw[e];exact⟨⟨cs,cH,bL⟩,oZ,(jd).step aG (fun b h hl=>by omega)⟩
  |succ m=>
   have hge:decide ((((m+1:Nat):Int)-1)>=0)=true:=decide_eq_true (by omega);have em:((m+1:Nat):Int)-1=(m:Int):=by omega
   rw[em]at hge ⊢;have ahn:decide ((m:Int)>=0)=true:=decide_eq_true (by omega);have zi:Mod S w w6:=(aq jd).step aG (fun b h hl=>by omega);obtain⟨Lk,c3,rr,e,Hq,pZ,aho,_⟩:=dT (iu.up aG ny (fun _ h=>h) (fun _ _ h=>h.up aG ny (fun _ h=>h))) (show m<d.cons[i].fields.length by omega);cases e;have b1:(0:Int)<=m/\(m:Int)<d.cons[i].fields.length:=by omega
   have XT:=bL.len;have ew:IntKind.i64.wrap ((m:Int)-1)=(m:Int)-1:=dJ (by omega) (by omega);(try simp only[go_sem,Nat.reduceAdd,Nat.reduceEqDiff,Nat.reduceLT,Nat.reduceLeDiff,Nat.reduceMul,reduceCtorEq,↓reduceIte,ahn]);(try simp only[go_sem,Nat.reduceAdd,Nat.reduceEqDiff,Nat.reduceLT,Nat.reduceLeDiff,Nat.reduceMul,reduceCtorEq,↓reduceIte,bG,bH,b1,aho,cY,aE (n:=3) cH XT,ew]);refine aL (by rfl) ?_;have d6:Mod (fun _=>False) w6 w6.drew:=(Mod.refl _ _).drew;refine(XA (S:=fun b=>S b\/b=w4.heap.size\/b=w1.heap.size) (fun b hb=>?_) ((ahm zi Hq).aI (aq d6)) (bL.aI (aq d6))).mono ?_
   .have e:w6.drew.heap.size=w6.heap.size:=rfl;have:=zi.size;have:=bP cH;have:=bP oZ;rcases hb with h |h |h
    .have:=hS b h;omega
    .omega
    .omega
   rintro _ w7 ⟨⟨XU,rfl,Hr⟩,aO⟩;have aO:=aO.dG;(try simp only[go_sem,Nat.reduceAdd,Nat.reduceEqDiff,Nat.reduceLT,Nat.reduceLeDiff,Nat.reduceMul,reduceCtorEq,↓reduceIte]);refine bN (cs:=cs) rfl rfl (aO.at cH Ψ) Hr.len XT Hr.one ?_;intro w8 dW aZ kD;(try simp only[go_sem,Nat.reduceAdd,Nat.reduceEqDiff,Nat.reduceLT,Nat.reduceLeDiff,Nat.reduceMul,reduceCtorEq,↓reduceIte,ew]);refine⟨m,by omega,by omega,(aG.trans (aq aO)).trans aZ,⟨XU,dW,?_⟩,aZ.at (aO.at oZ Ψ) (by omega),rfl⟩;rw[Ω (by omega),List.foldr_cons];exact Hr.aI (aZ.aU (fun b hb=>.inr (.inl hb)))
 .rintro ρ w6 ⟨⟨cs,cH,bL⟩,oZ,aG,g2,g6⟩;(try simp only[go_sem,Nat.reduceAdd,Nat.reduceEqDiff,Nat.reduceLT,Nat.reduceLeDiff,Nat.reduceMul,reduceCtorEq,↓reduceIte,g2,g6,aE (n:=3) cH bL.len]);refine bN (cs:=cS) g2 rfl oZ bL.len rfl bL.one ?_;intro w7 dh aO jn;(try simp only[go_sem,Nat.reduceAdd,Nat.reduceEqDiff,Nat.reduceLT,Nat.reduceLeDiff,Nat.reduceMul,reduceCtorEq,↓reduceIte,aM,RV.ev,aE (n:=3) dh bL.len,aN]);exact⟨⟨cs,rfl,(bL.aI (aO.aU (fun b hb=>.inr (.inr hb)))).sub (fun b hb=>.inl hb)⟩,aG.step aO (fun b h hl=>by omega)⟩
end
section
open Go Go.W
theorem zI(w:World):(zeroValue 3).run Tryz.prog w=.ok (I 0) w:=Tryz.zeroValue3 w
theorem ahp(t:Ty):∀ {w:World} {S B:Nat→Prop} {M:Ms} {E:Env} {bd:cE} {lc:Loc} {cs:List Value},cL w S M E bd lc→aR w B cs t →
   bu Tryz.prog 71 [ptr M.c,.agg cs.toArray] w fun r w'=>r=.bool (t.fits E)/\Mod (fun _=>False) w w':=by
 induction t using Ty.ind with
 |h t ih=>
 intro w S B M E bd lc cs hc h;obtain⟨v,rfl,hl⟩:=h.cells;obtain⟨a,c,rfl⟩:=bq hl;refine γ Tryz.f71 ?_;(try simp only[go_sem,simprocAttr]);refine bZ rfl ?_;intro w1 au ak cw;have gp:=hc.aI ak;have lD:=gp.box;rw[t.QA];(try simp only[go_sem,simprocAttr,cell_of au,Value.cells,cell_of lD]);refine og (fun ρ w'=>Mod (fun _=>False) w1 w'/\((t.kind == 2)=false/\((t.kind == 4)=false\/eR E t.name t.args.length=false))/\ρ.get 0=some (ptr M.c)/\ρ.get 3=some (ptr w.heap.size)) ?_ ?_
 . (try simp only[go_sem,simprocAttr,cell_of au,Value.cells,cell_of lD,Wp]);cases pW:t.kind == 2 with
  |true=>
   (try simp only[go_sem,simprocAttr,cell_of au,Value.cells,cell_of lD]);refine Cz ?_;refine AM (k:=t.name) (b:=M.mp) (kt:=9) (et:=3) rfl rfl rfl rfl (zI _) (gp.params.mod (Mod.refl (fun _=>False) w1).drew Ψ (fun _ _ x=>x)) ?_;(try simp only[go_sem,simprocAttr]);exact⟨rfl,ak.trans (Mod.refl _ _).drew⟩
  |false=>
   (try simp only[go_sem,simprocAttr,cell_of au,Value.cells,cell_of lD]);cases pX:t.kind == 4 with
   |false=>(try simp only[go_sem,simprocAttr]);exact .refl _ _
   |true=>
    (try simp only[go_sem,simprocAttr,cell_of au,Value.cells,cell_of lD]);have d1:Mod (fun _=>False) w1 w1.drew:=(Mod.refl _ _).drew;have pf:=gp.aI d1;refine Hp (k:=t.name) (b:=M.md) (kt:=9) (et:=173) rfl rfl rfl rfl (Tryz.zeroValue173 _) pf.aK (fun hn=>?_) (fun v d hd hr=>?_)
    .have nB:eR E t.name t.args.length=true:=by rw[eR,hn]
     (try simp only[go_sem,simprocAttr,nB]);exact ak.trans (d1.drew)
    .obtain⟨ad,rfl,cs,bT,vp,vc,rfl,iw,lC⟩:=hr;obtain⟨ap,cp,rfl⟩:=bq iw;have c1:w1.drew.cell? ⟨ad.block,ad.off+1,none⟩=some (.slice ap d.params.length cp):=bT.at (k:=1) (by simp);have Ll:w1.cell? ⟨ad.block,ad.off+1,none⟩=some (.slice ap d.params.length cp):=c1;have nB:eR E t.name t.args.length=((d.params.length:Int)!=t.args.length):=by rw[eR,hd]
     (try simp only[go_sem,simprocAttr,cell_of au,Value.cells,Ll]);cases bJ:((d.params.length:Int)!=t.args.length)with
     |true=>rw[bJ]at nB;(try simp only[go_sem,simprocAttr,nB]);exact ak.trans (d1.drew)
     |false=>rw[bJ]at nB;(try simp only[go_sem,simprocAttr,nB]);exact d1.drew
 .rintro ρ w2 ⟨ai,⟨pW,pX⟩,g0,g3⟩;have hm:=ak.trans ai;have gv:=gp.aI ai;have az:=ai.at au Ψ;have mX:(if (t.kind == 2)=true then has E.params t.name else if (t.kind == 4)=true then (if eR E t.name t.args.length=true then false else ue E t.args) else ue E t.args)=ue E t.args:=by
   rw[if_neg (by rw[pW];simp)];rcases pX with h |h
   .rw[if_neg (by rw[h];simp)]
   .rw[if_neg (show ¬eR E t.name t.args.length=true by rw[h];simp),ite_self]
  rw[mX,QB];(try simp only[go_sem,simprocAttr,g0,g3,cell_of az,Value.cells]);refine j7 (PP:=fun w'=>aR w' B) (l:=t.args) (B:=B) (fun k ρ w'=>Mod (fun _=>False) w w'/\k<=t.args.length/\(∀i,∀h:i<t.args.length,i<k->t.args[i].fits E=true)/\ρ=[(0,ptr M.c),(53,.slice a t.args.length c),(54,I t.args.length),(55,I k)])
   ⟨hm,by omega,fun i _ hi=>absurd hi (by omega),rfl⟩ hl ?_ (fun _ _ _ h=>h.one) rfl ?_ ?_
  .rintro k _ w3 ⟨aw,hk,_,rfl⟩;exact⟨⟨hl.mod aw aA (fun _ _ h=>h.mod aw aA),hk⟩,rfl,rfl,rfl⟩
  .rintro k _ w3 hk w4 r b pv ⟨aw,_,ha,rfl⟩ hr cG aS aD _;(try simp only[go_sem,simprocAttr,aE (n:=3) aS cG]);refine aL (by rfl) ?_;have rV:=aw.trans aD;refine(ih _ (List.getElem_mem hk) (hc.aI rV) (hr.mod aD aA)).mono ?_;rintro _ w5 ⟨rfl,aH⟩;cases hf:t.args[k].fits E with
   |false=>
    (try simp only[go_sem,simprocAttr]);refine⟨congrArg _ (Eq.symm ?_),rV.trans aH⟩;rw[List.all_eq_false];exact⟨_,List.getElem_mem hk,by rw[hf];simp⟩
   |true=>
    (try simp only[go_sem,simprocAttr]);refine⟨rV.trans aH,hk,fun i hi hik=>?_⟩;rcases Nat.lt_or_ge i k with h1 |h1
    .exact ha i hi h1
    .have:i=k:=by omega
     subst this;exact hf
  .rintro _ w3 ⟨aw,_,ha,rfl⟩;(try simp only[go_sem,simprocAttr]);refine⟨congrArg _ (Eq.symm ?_),aw⟩;rw[List.all_eq_true];intro x hx;obtain⟨i,hi,rfl⟩:=List.getElem_of_mem hx;exact ha i hi hi
theorem Hs(t:Ty){w:World}{S:Nat→Prop}{M:Ms}{E:Env}{bd:cE}{lc:Loc}{cs:List Value}(hc:cL w S M E bd lc)(h:aR w (Out S w) cs t) :
   bu Tryz.prog 54 [ptr M.c,.agg cs.toArray] w fun r w'=>r=.bool (iT E t)/\Mod (fun _=>False) w w':=by
 refine γ Tryz.f54 ?_;refine σ ?_;refine bZ rfl ?_;intro w1 au ak cw;simp only[go_sem,simprocAttr,aE (n:=3) (cs:=cs) au h.len];refine δ (by rfl) (Qr t (h.aI (aq ak)) (fun b hb=>hb.1)) ?_;rintro _ w2 ⟨rfl,ai⟩;have hm:=ak.trans ai;cases hw:lS t == 0 with
 |false=>refine σ ?_;exact⟨congrArg _ (by rw[iT,hw];rfl),hm⟩
 |true=>
  simp only[go_sem,simprocAttr,aE (n:=3) (cs:=cs) (ai.at au Ψ) h.len];refine δ (by rfl) (ahp t (hc.aI hm) (h.aI (aq hm))) ?_;rintro _ w3 ⟨rfl,aw⟩;refine σ ?_;exact⟨congrArg _ (by rw[iT,hw];rfl),hm.trans aw⟩
def Lm(w:World)(S:Nat->Prop)(r:Value)(x:Except Int Ty):Prop:=match x with
 |.ok t=>∃cs:List Value,r=.tuple #[.agg cs.toArray,I 0]/\aR w (Out S w) cs t
 |.error e=>∃cs:List Value,cs.length=3/\(∀u∈cs,u.oneCell'=true)/\r=.tuple #[.agg cs.toArray,I e]/\e≠0
theorem Lm.bad(w:World)(S:Nat->Prop){e:Int}(h:e≠0):Lm w S (.tuple #[.agg cS.toArray,I e]) (.error e):=⟨cS,rfl,vF,rfl,h⟩
theorem XV(t:Ty){w:World}{S:Nat→Prop}{M:Ms}{E:Env}{bd:cE}{lc:Loc}{cs:List Value}{nz XW:Value}{ps:List ByteArray}{at':List Ty}(hc:cL w S M E bd lc)(h:aR w (Out S w) cs t)
   (fJ:aX w nz 1 (Out S w) ft ps) (gB:aX w XW 3 (Out S w) (aR w (Out S w)) at') :
   bu Tryz.prog 74 [ptr M.c,.agg cs.toArray,nz,XW] w fun r w'=>Lm w' S r (j' E t ps at')/\Mod (fun _=>False) w w':=by
 obtain ⟨ap,cp,rfl⟩:=bq fJ;obtain ⟨aa,ca,rfl⟩:=bq gB;refine γ Tryz.f74 ?_;refine σ ?_;refine bZ rfl ?_;intro w1 au ak cw;refine σ ?_;refine cX ?_;intro w2 az ai bU;have au:=ai.at au Ψ;have bo:=ak.trans ai;have z1:=ak.size;have ref:∀ (w3:World) (ρ:W.Env) (e:Int) (K:Value→World→Prop),Mod (fun _=>False) w2 w3→j' E t ps at' = .error 83 →
     (∀w4,w4.heap[w1.heap.size]?=some (.cells cS.toArray dH (0,0))->Mod (fun _=>False) w w4->K undef w4)->∀x y:O,x.ev ρ=some (ptr w1.heap.size)->y.ev ρ=some (.agg cS.toArray)->Go.W.E.wp Tryz.prog w3 ρ K (.st 3 x y):=by
  intro w3 ρ e K aw _ hk x y hx hy;refine bN (cs:=cS) hx hy (aw.at az Ψ) rfl rfl vF ?_;intro w4 bm aD dL;exact hk w4 bm ((bo.trans aw).step aD (fun b hb hl=>by omega))
 refine σ ?_;cases bJ:((ps.length:Int)!=at'.length)with
 |true=>
  have hn:j' E t ps at'=.error 83:=by rw[j',if_pos bJ]
  refine σ ?_;refine ref w2 _ 83 _ (.refl _ _) hn ?_ _ _ rfl rfl;intro w4 bm aD;simp only[go_sem,simprocAttr,aM,RV.ev,aE (n:=3) bm rfl,aN];rw[hn];exact⟨.bad _ _ (by decide),aD⟩
 |false=>
  refine σ ?_;refine j7 (PP:=fun w'=>aR w' (Out S w)) (l:=at') (B:=Out S w) (fun k ρ w'=>Mod (fun _=>False) w2 w'/\k<=at'.length/\(∀i,∀h:i<at'.length,i<k->iT E at'[i]=true)/\ρ=[(0,ptr M.c),(2,.slice ap ps.length cp),(3,.slice aa at'.length ca),(5,ptr w.heap.size),(8,ptr w1.heap.size),(20,.slice aa at'.length ca),(21,I at'.length),(22,I k)])
   ⟨.refl _ _,by omega,fun i _ hi=>absurd hi (by omega),rfl⟩ gB ?_ (fun _ _ _ h=>h.one) rfl ?_ ?_
  .rintro k _ w3 ⟨aw,hk,_,rfl⟩;exact⟨⟨gB.mod (bo.trans aw) aA (fun _ _ h=>h.mod (bo.trans aw) aA),hk⟩,rfl,rfl,rfl⟩
  .rintro k _ w3 hk w4 r b pv ⟨aw,_,ha,rfl⟩ hr cG aS aD _;have rV:=aw.trans aD;have eX:=bo.trans rV;simp only[go_sem,simprocAttr,aE (n:=3) aS cG];refine δ (by rfl) (Hs _ (hc.aI eX) (hr.up aD aA (br (aq eX)))) ?_;rintro _ w5 ⟨rfl,aH⟩;have iV:=rV.trans aH;cases hf:iT E at'[k]with
   |false=>
    have hn:j' E t ps at'=.error 83:=by
     have:at'.all (iT E)=false:=by rw[List.all_eq_false];exact⟨_,List.getElem_mem hk,by rw[hf];simp⟩
     rw[j',if_neg (by rw[bJ];simp),if_pos this]
    refine σ ?_;refine ref w5 _ 83 _ iV hn ?_ _ _ rfl rfl;intro w6 cH aG;simp only[go_sem,simprocAttr,aM,RV.ev,aE (n:=3) cH rfl,aN];rw[hn];exact⟨.bad _ _ (by decide),aG⟩
   |true=>
    refine σ ?_;refine⟨iV,hk,fun i hi hik=>?_⟩;rcases Nat.lt_or_ge i k with h1 |h1
    .exact ha i hi h1
    .have:i=k:=by omega
     subst this;exact hf
  rintro _ w3 ⟨aw,_,ha,rfl⟩;have bz:=bo.trans aw;have ff:at'.all (iT E)=true:=by
   rw[List.all_eq_true];intro x hx;obtain⟨i,hi,rfl⟩:=List.getElem_of_mem hx;exact ha i hi hi
  have hlen:ps.length<=at'.length:=by
   have:(ps.length:Int)=at'.length:=by simpa using bJ
   omega
  have hn:j' E t ps at'=if(iv ps at' t).2>=0 then .ok (iv ps at' t).1 else .error 83:=by rw[j',if_neg (by rw[bJ];simp),if_neg (by rw[ff];simp)]
  have au:=aw.at au Ψ;have az:=aw.at az Ψ;simp only[go_sem,simprocAttr,aE (n:=3) (cs:=cs) au h.len];refine aL (by rfl) ?_;have z3:=aw.size;have hs:∀b,b<w.heap.size->(S b\/b=w1.heap.size)->S b:=fun b hb h=>by
   rcases h with h |h
   .exact h
   .omega
  refine(Qz t (S:=fun b=>S b\/b=w1.heap.size) (h.ext (aq bz) hs) ((Cr.mk fJ gB hlen).ext (aq bz) hs) (fun b hb=>by
   have:=bz.size;rcases hb with h |h
   ·have:=hc.lt b h;omega
   ·omega)).mono ?_
  rintro _ w4 ⟨⟨fg,rfl,bL⟩,aD⟩;refine σ ?_;refine eC (n:=3) (vs:=fg) rfl bL.len bL.one ?_;intro w5 bY aH eY;have iV:=aw.trans (aD.trans aH);cases mH:decide ((iv ps at' t).2>=0)with
  |false=>
   have hn:j' E t ps at'=.error 83:=by rw[hn,if_neg (of_decide_eq_false mH)]
   refine σ ?_;refine ref w5 _ 83 _ iV hn ?_ _ _ rfl rfl;intro w6 cH aG;simp only[go_sem,simprocAttr,aM,RV.ev,aE (n:=3) cH rfl,aN];rw[hn];exact⟨.bad _ _ (by decide),aG⟩
  |true=>
   have hn:j' E t ps at'=.ok (iv ps at' t).1:=by rw[hn,if_pos (of_decide_eq_true mH)]
   simp only[go_sem,simprocAttr,aE (n:=3) bY bL.len];have z2:=ai.size;have z4:=bz.size;refine bN (cs:=cS) rfl rfl ((aD.trans aH).at az Ψ) bL.len rfl bL.one ?_;intro w6 cH aG fw;simp only[go_sem,simprocAttr,aM,RV.ev,aE (n:=3) cH bL.len,aN];rw[hn];have hH:Mod (fun _=>False) w w6:=(bo.trans iV).step aG (fun b hb hl=>by omega);exact⟨⟨fg,rfl,((bL.aI (aq aH)).aI (aG.aU (fun b hb=>.inr hb))).sub (fun b hb=>.inl hb)⟩,hH⟩
end
section
open Go Go.W
def lE(E:Env)(b:Bd)(bd:cE):Except Int cE:=
 if(!nr b.name||has bd b.name)=true then .error 82 else if iT E b.type=true then .ok (bS bd b.name 1)else .error 83
theorem XX(b:Bd){w:World}{S B:Nat→Prop}{M:Ms}{E:Env}{bd:cE}{lc:Loc}{cs:List Value}(hc:cL w S M E bd lc)(h:eh w (Out S w) cs b) :
   bu Tryz.prog 103 [ptr M.c,.agg cs.toArray] w fun r w'=>(match lE E b bd with
    |.ok eZ=>r=I 0/\cL w' S M E eZ lc
    |.error e=>r=I e/\e≠0/\∃eZ,cL w' S M E eZ lc)/\Mod M.two w w':=by
 obtain⟨⟨a1,a2,a3,a4,a5,a6⟩,⟨b1,b2,b3,b4,b5⟩,⟨c1,c2,c3,c4⟩,⟨d1,d2,d3⟩,⟨e1,e2⟩,f1⟩:=Ms.ne hc.nodup;obtain⟨tc,ec,rfl,fO,iI,ph⟩:=h;refine γ Tryz.f103 ?_;refine φ ?_;refine bZ rfl ?_;intro w1 au ak cw;have gp:=hc.aI ak;have l1:=fO.len;simp only[go_sem,Nat.reduceAdd,Nat.reduceEqDiff,Nat.reduceLT,Nat.reduceLeDiff,Nat.reduceMul,reduceCtorEq,↓reduceIte,cell_of au,Value.cells];refine δ (by rfl) (KU b.name ph) ?_;rintro _ _ ⟨rfl,rfl⟩;have Ln:Mod (fun _=>False) w1 w1.drew:=(Mod.refl _ _).drew;have pf:=gp.aI Ln;have lD:=gp.box;cases hn:nr b.name with
 |false=>
  have eN:lE E b bd=.error 82:=by rw[lE,if_pos (by rw[hn];rfl)]
  rw[eN];refine φ ?_;exact⟨⟨by decide,_,pf⟩,aq (ak.trans Ln)⟩
 |true=>
  simp only[go_sem,Nat.reduceAdd,Nat.reduceEqDiff,Nat.reduceLT,Nat.reduceLeDiff,Nat.reduceMul,reduceCtorEq,↓reduceIte,cell_of au,Value.cells,cell_of lD];refine Cz ?_;refine AM (k:=b.name) (b:=M.mb) (kt:=9) (et:=3) rfl rfl rfl rfl (zI _) pf.jt ?_;have kE:decide ((aJ bd b.name).getD 0>0)=has bd b.name:=rfl;cases hh:has bd b.name with
  |true=>
   rw[hh]at kE;have eN:lE E b bd=.error 82:=by rw[lE,if_pos (by rw[hh];simp)]
   rw[eN];simp only[go_sem,Nat.reduceAdd,Nat.reduceEqDiff,Nat.reduceLT,Nat.reduceLeDiff,Nat.reduceMul,reduceCtorEq,↓reduceIte,kE];exact⟨⟨by decide,_,pf.aI (Mod.refl _ _)⟩,aq (ak.trans Ln)⟩
  |false=>
   rw[hh]at kE;simp only[go_sem,Nat.reduceAdd,Nat.reduceEqDiff,Nat.reduceLT,Nat.reduceLeDiff,Nat.reduceMul,reduceCtorEq,↓reduceIte,kE,cell_of au,Value.cells,cell_of lD];have CA:=Ln.drew;have XY:=gp.aI CA;refine lW (k:=b.name) (b:=M.mb) (v:=I 1) (kt:=9) (et:=3) rfl rfl rfl rfl rfl XY.jt (show RI (I 1) 1 from rfl) ?_;intro w2 mY ai bU;have ei:Mod M.two w1 w2:=(aq CA).trans (ai.aU (fun _ h=>.inl h));have gv:cL w2 S M E (bS bd b.name 1) lc:=gp.fm ei mY (XY.locals.ty ai (fun x hx=>by subst hx;exact hc.two _ (.inl rfl)) (fun e=>f1 e.symm));have ny:¬M.two w.heap.size:=fun h=>by
    rcases h with h |h
    .have:=hc.lt _ (hc.two _ (.inl rfl));omega
    .have:=hc.lt _ (hc.two _ (.inr rfl));omega
   have az:=ei.at au ny;have k1:=jm (off:=1) (n:=3) az (by simp;omega);rw[List.drop_succ_cons,List.drop_zero,List.take_left' l1]at k1;simp only[go_sem,Nat.reduceAdd,Nat.reduceEqDiff,Nat.reduceLT,Nat.reduceLeDiff,Nat.reduceMul,reduceCtorEq,↓reduceIte,k1];refine aL (by rfl) ?_;have bo:Mod M.two w w2:=(aq ak).trans ei;refine(Hs b.type gv (fO.up bo (fun x hx hh=>hx.2 (hc.two _ hh)) (br (bo.aU hc.two)))).mono ?_;rintro _ w3 ⟨rfl,aw⟩;have eN:lE E b bd=if iT E b.type=true then .ok (bS bd b.name 1)else .error 83:=by rw[lE,if_neg (by rw[hn,hh];simp)]
   rw[eN];cases hr:iT E b.type with
   |true=>refine φ ?_;exact⟨gv.aI aw,bo.trans (aq aw)⟩
   |false=>refine φ ?_;exact⟨⟨by decide,_,gv.aI aw⟩,bo.trans (aq aw)⟩
end
section
open Go Go.W
abbrev St:=cE×Loc
def lX(E:Env):List Bd->cE->Except Int cE
 |[],bd=>.ok bd
 |b::l,bd=>match lE E b bd with
  |.error x=>.error x
  |.ok eZ=>lX E l eZ
def dA:List Bd->Loc->Loc
 |[],lc=>lc
 |b::l,lc=>dA l (bS lc b.name b.type)
def kF:List ByteArray->Loc->Loc
 |[],lc=>lc
 |s::l,lc=>kF l (gq lc s)
def ow(bs:List Bd)(lc:Loc):Loc:=kF (bs.map Bd.name) lc
def qW:List ByteArray->cE->Except Int cE
 |[],bd=>.ok bd
 |s::l,bd=>if(!nr s||has bd s)=true then .error 82 else qW l (bS bd s 1)
def ke(ps:List ByteArray)(bs:List Ty):List ByteArray->List Ty->Loc->Except Int Loc
 |s::l,f::fs,lc=>if(iv ps bs f).2>=0 then ke ps bs l fs (bS lc s (iv ps bs f).1)else .error 83
 |_,_,lc=>.ok lc
def pi(all:List Al)(i:Nat)(of:Ty):Bool:=match all[i]? with
 |none=>false
 |some a=>
  if a.kind == 1 then(if(a.num != 0||of.kind != 4)=true then false else !(all.take i).any (fun b=>(b.kind == a.kind&&bw b.bE a.bE)&&b.num == a.num))
  else if a.kind == 2 then(if((((!bw a.bE bM||decide ((a.vars.length:Int)>0))||of.kind != 1)||decide (a.num < -4611686018427387904))||decide (a.num>4611686018427387903))=true then false else !(all.take i).any (fun b=>(b.kind == a.kind&&bw b.bE a.bE)&&b.num == a.num))
  else if a.kind == 3 then((bw a.bE bM&&a.num == 0)&&(a.vars.length:Int)==0)&&(i:Int)==Wr (all.length-1)
  else false
noncomputable def qe(E:Env):List Ty->Except Int Ty
 |[f,a]=>if(f.kind != 3)=true then .error 83 else match f.args with
  |x::y::_=>if fY x a=true then .ok y else .error 83
  |_=>.error 83
 |_=>.error 84
def sV(n:ByteArray):List Ty->Except Int Ty
 |[a,b]=>if(a.kind != 1||b.kind != 1)=true then .error 83 else .ok ((lV n).getD default)
 |_=>.error 84
def sW(b:Bd):List Ty->Except Int Ty
 |t::_=>if Wr (Wr (b.type.size+t.size)+1)>500 then .error 83 else .ok (lA b.type t)
 |_=>.error 84
def qg(E:Env)(of:Ty)(k:Int)(bE:ByteArray)(vars:List ByteArray)(run:St->Except Int (Ty×St))(st:St):Except Int (Ty×St):=
 if(k != 1)=true then run st else match aJ E.cons bE with
  |none=>.error 82
  |some x=>if(!bw x.1.name of.name)=true then .error 82
   else if(((gg x.1 x.2).length:Int)!=vars.length)=true then .error 84
   else match qW vars st.1 with
    |.error e=>.error e
    |.ok bd=>match ke x.1.params of.args vars (gg x.1 x.2) st.2 with
     |.error e=>.error e
     |.ok lc=>match run (bd,lc)with
      |.error e=>.error e
      |.ok y=>.ok (y.1,(y.2.1,kF vars y.2.2))
mutual
noncomputable def cM(E:Env):Ex->St->Except Int (Ty×St)
 |.mk k n m ts xs bs al,st=>
  if lB (.mk k n m ts xs bs al)=false then .error 84
  else if k=1 then(match aJ st.2 n with |none=>.error 82 |some t=>.ok (t,st))
  else if k=2 then .ok (.mk 1 bM [],st)
  else if k=3 then(match aJ E.aj n with |none=>.error 82 |some d=>(j' E d.type d.params ts).map (fun t=>(t,st)))
  else if k=4 then(match aJ E.cons n with |none=>.error 82 |some x=>(j' E (vJ x.1 x.2) x.1.params ts).map (fun t=>(t,st)))
  else if k=12 then(match ts with |[]=>.error 84 |t::_=>if iT E t=true then .ok (t,st)else .error 83)
  else if k=5 then(match dy E xs st with |.error x=>.error x |.ok y=>(qe E y.1).map (fun t=>(t,y.2)))
  else if k=9 then(match dy E xs st with |.error x=>.error x |.ok y=>(sV n y.1).map (fun t=>(t,y.2)))
  else if k=10 then(match dy E xs st with |.error x=>.error x |.ok y=>.ok (y.1.getLastD default,y.2))
  else if k=6 then(match bs with
   |[]=>.error 84
   |b::_=>match lE E b st.1 with
    |.error x=>.error x
    |.ok bd=>match dy E xs (bd,bS st.2 b.name b.type)with
     |.error x=>.error x
     |.ok y=>(sW b y.1).map (fun t=>(t,(y.2.1,gq y.2.2 b.name))))
  else if k=7\/k=11 then(match lX E bs st.1 with
   |.error x=>.error x
   |.ok bd=>match lF E bs (bd,if k=7 then dA bs st.2 else st.2)with
    |.error x=>.error x
    |.ok cQ=>match dy E xs (cQ.1,dA bs cQ.2)with
     |.error x=>.error x
     |.ok y=>.ok (y.1.headD default,(y.2.1,ow bs y.2.2)))
  else match dy E xs st with
   |.error x=>.error x
   |.ok y=>if((y.1.headD default).kind != 1&&(y.1.headD default).kind != 4)=true then .error 83 else iJ E al (y.1.headD default) al 0 default y.2
noncomputable def dy(E:Env):List Ex->St->Except Int (List Ty×St)
 |[],st=>.ok ([],st)
 |e::l,st=>match cM E e st with
  |.error x=>.error x
  |.ok y=>match dy E l y.2 with
   |.error x=>.error x
   |.ok z=>.ok (y.1::z.1,z.2)
noncomputable def lF(E:Env):List Bd->St->Except Int St
 |[],st=>.ok st
 |.mk _ t v::l,st=>match cM E v st with
  |.error x=>.error x
  |.ok y=>if fY y.1 t=true then lF E l y.2 else .error 83
noncomputable def iJ(E:Env)(all:List Al)(of:Ty):List Al->Nat->Ty->St->Except Int (Ty×St)
 |[],_,first,st=>.ok (first,st)
 |.mk k bE num vars body::l,i,first,st=>
  if pi all i of=false then .error 84
  else match qg E of k bE vars (cM E body) st with
   |.error x=>.error x
   |.ok y=>if i=0 then iJ E all of l (i+1) y.1 y.2 else if fY y.1 first=true then iJ E all of l (i+1) first y.2 else .error 83
end
end
section
open Go Go.W
mutual
def Ty.cN:Ty->Nat
 |.mk _ _ l=>1+cj l
def cj:List Ty->Nat
 |[]=>0
 |t::l=>t.cN+cj l
end
mutual
def Ty.wf(E:Env):Ty->Bool
 |.mk k n l=>((k != 3||l.length == 2)&&(k != 4 || !eR E n l.length))&&xB E l
def xB(E:Env):List Ty->Bool
 |[]=>true
 |t::l=>t.wf E&&xB E l
end
theorem Ty.AN(t:Ty):t.cN=1+cj t.args:=by cases t;rw[Ty.cN];rfl
theorem Ty.vN(E:Env)(t:Ty):t.wf E=(((t.kind != 3||t.args.length == 2)&&(t.kind != 4 || !eR E t.name t.args.length))&&xB E t.args):=by cases t;rw[Ty.wf];rfl
theorem AO(E:Env)(l:List Ty):xB E l=l.all (Ty.wf E):=by
 induction l with
 |nil=>rfl
 |cons t l ih=>rw[xB,ih,List.all_cons]
theorem ahq{l:List Ty}{u:Ty}(h:u∈l):u.cN<=cj l:=by
 induction l with
 |nil=>cases h
 |cons t l ih=>
  rw[cj];rcases List.mem_cons.1 h with rfl |h
  .omega
  .have:=ih h;omega
theorem QD(t:Ty):1<=t.cN:=by rw[t.AN];omega
theorem zj(t:Ty):t.cN<=1000000->t.size=(t.cN:Int):=by
 induction t using Ty.ind with
 |h t ih=>
 have key:∀(l:List Ty),(∀u∈l,u.cN<=1000000->u.size=(u.cN:Int))->∀n:Int,1<=n->n+cj l<=1000001->ly l n=n+cj l:=by
  intro l
  induction l with
  |nil=>intro _ n _ _;rw[ly,cj];omega
  |cons u l jZ=>
   intro hu n h1 h2;rw[cj]at h2;rw[ly,cj,hu u (by simp) (by omega),show Wr (n+(u.cN:Int))=n+u.cN from dJ (by omega) (by omega),jZ (fun v hv=>hu v (by simp[hv])) _ (by omega) (by omega)];omega
 intro h;rw[t.AN]at h ⊢;rw[t.size_eq,key t.args ih 1 (by omega) (by omega)];omega
theorem XZ(t:Ty):t.nodes<=500->(t.cN:Int)=t.nodes:=by
 induction t using Ty.ind with
 |h t ih=>
 have key:∀(l:List Ty),(∀u∈l,u.nodes<=500->(u.cN:Int)=u.nodes)->∀n:Int,1<=n->n<=1001->n<=nq l n/\(nq l n<=500->nq l n=n+cj l):=by
  intro l
  induction l with
  |nil=>intro _ n h1 h2;rw[nq,cj];exact⟨Int.le_refl _,fun _=>by omega⟩
  |cons u l jZ=>
   intro hu n h1 h2;obtain⟨⟨a1,a2⟩,_⟩:=Xl u;rw[nq,cj]
   split
   .exact⟨Int.le_refl _,fun h=>by omega⟩
   .have e:Wr (n+u.nodes)=n+u.nodes:=dJ (by omega) (by omega);rw[e];obtain⟨b1,b2⟩:=jZ (fun v hv=>hu v (by simp[hv])) (n+u.nodes) (by omega) (by omega);refine⟨by omega,fun h=>?_⟩;have e1:=b2 h;have e2:=hu u (by simp) (by omega);omega
 intro h;obtain⟨k1,k2⟩:=key t.args ih 1 (by omega) (by omega);rw[t.Qa]at h ⊢;rw[t.AN];have:=k2 (by omega);omega
def Good(E:Env)(t:Ty):Prop:=t.wf E=true/\t.cN<=500
def dX(E:Env)(lc:Loc):Prop:=∀p∈lc,Good E p.2
structure nC (E:Env):Prop where
 cons:∀n x,aJ E.cons n=some x->(∃d,aJ E.aK x.1.name=some d/\d.params.length=x.1.params.length)/\∀f∈gg x.1 x.2,f.wf E=true
 aj:∀n f,aJ E.aj n=some f->f.type.wf E=true
theorem ahr(E:Env)(t:Ty):t.may=true->t.fits E=true->t.wf E=true:=by
 induction t using Ty.ind with
 |h t ih=>
 intro h1 h2;rw[t.Qe,Bool.and_eq_true]at h1;obtain⟨hh,hm⟩:=h1;rw[t.QA]at h2;rw[t.vN,AO];have kids:ue E t.args=true->t.args.all (Ty.wf E)=true:=fun hf=>by
  rw[QB,List.all_eq_true]at hf;have iD:∀u∈t.args,u.may=true:=by
   intro u hu;have:(t.args.any fun t=>!t.may)=false:=by rw[Xc,hm];rfl
   have:=List.any_eq_false.1 this u hu
   simpa using this
  rw[List.all_eq_true];exact fun u hu=>ih u hu (iD u hu) (hf u hu)
 unfold oY at hh;by_cases k2:(t.kind == 2)=true
 .have e2:t.kind=2:=by simpa using k2
  rw[e2]at hh ⊢;have:t.args=[]:=by
   have:(xp t.name&&((t.args.length:Int)==0))=true:=hh;simp only[Bool.and_eq_true,beq_iff_eq]at this;exact List.eq_nil_of_length_eq_zero (by omega)
  rw[this];rfl
 .rw[if_neg k2]at h2;by_cases k4:(t.kind == 4)=true
  .have e4:t.kind=4:=by simpa using k4
   rw[if_pos k4]at h2
   split at h2
   .cases h2
   .rename_i hb;rw[e4,kids h2];have:eR E t.name t.args.length=false:=by simpa using hb
    rw[this];rfl
  .rw[if_neg k4]at h2;rw[kids h2];have n4:(t.kind != 4)=true:=by simpa using k4
   rw[n4];by_cases k3:(t.kind == 3)=true
   .have e3:t.kind=3:=by simpa using k3
    rw[e3]at hh ⊢;have:(bw t.name bM&&((t.args.length:Int)==2))=true:=hh;simp only[Bool.and_eq_true,beq_iff_eq]at this;have:t.args.length=2:=by omega
    rw[this];rfl
   .have n3:(t.kind != 3)=true:=by simpa using k3
    rw[n3];rfl
theorem EU{E:Env}{t:Ty}(h:iT E t=true):Good E t:=by
 rw[iT,Bool.and_eq_true]at h;have h0:lS t=0:=by simpa using h.1
 unfold lS at h0
 split at h0
 .omega
 .rename_i hm
  split at h0
  .omega
  .rename_i hn;have:=XZ t (by omega);exact⟨ahr E t (by simpa using hm) h.2,by omega⟩
theorem ahs{E:Env}{ps:List ByteArray}{bs:List Ty}(hb:∀ b∈bs,Good E b)(hle:ps.length≤bs.length)(t:Ty):t.wf E=true→∀ left:Int,0≤left→left≤500 →
   -501<=(gu ps bs t left).2/\(gu ps bs t left).2<=left-1/\(0<=(gu ps bs t left).2->(gu ps bs t left).1.wf E=true/\((gu ps bs t left).1.cN:Int)=left-(gu ps bs t left).2):=by
 induction t using Ty.ind with
 |h t ih=>
 intro hw left h1 h2
 have key:∀ (l:List Ty),(∀ u∈l,u.wf E=true→∀ left:Int,0≤left→left≤500 →
     -501<=(gu ps bs u left).2/\(gu ps bs u left).2<=left-1/\(0<=(gu ps bs u left).2->(gu ps bs u left).1.wf E=true/\((gu ps bs u left).1.cN:Int)=left-(gu ps bs u left).2))->(∀u∈l,u.wf E=true) ->
     ∀left:Int,-501<=left->left<=500 -> -501<=(kC ps bs l left).2/\(kC ps bs l left).2<=left/\(0<=(kC ps bs l left).2->xB E (kC ps bs l left).1=true/\(kC ps bs l left).1.length=l.length/\(cj (kC ps bs l left).1:Int)=left-(kC ps bs l left).2):=by
  intro l
  induction l with
  |nil=>intro _ _ left h1 h2;rw[kC];exact⟨h1,Int.le_refl _,fun _=>⟨rfl,rfl,by rw[cj];omega⟩⟩
  |cons u l jZ=>
   intro hu hw left h1 h2;rw[kC]
   split
   .exact⟨h1,Int.le_refl _,fun h=>by simp only at h;omega⟩
   .obtain⟨a1,a2,a3⟩:=hu u (by simp) (hw u (by simp)) left (by omega) h2;obtain⟨b1,b2,b3⟩:=jZ (fun v hv=>hu v (by simp[hv])) (fun v hv=>hw v (by simp[hv])) (gu ps bs u left).2 (by omega) (by omega);refine⟨b1,by simp only;omega,fun h=>?_⟩;simp only at h ⊢;obtain⟨c1,c2,c3⟩:=b3 h;obtain⟨d1,d2⟩:=a3 (by omega);rw[xB,cj,c1,d1];exact⟨rfl,by rw[List.length_cons,List.length_cons,c2],by omega⟩
 rw[t.vN,Bool.and_eq_true,AO,List.all_eq_true]at hw;have none:((t.kind == 2)=false\/pV ps t.name=none) -> -501<=(gu ps bs t left).2/\(gu ps bs t left).2<=left-1/\(0<=(gu ps bs t left).2->(gu ps bs t left).1.wf E=true/\((gu ps bs t left).1.cN:Int)=left-(gu ps bs t left).2):=fun jb=>by
  rw[XD jb];have e:Wr (left-1)=left-1:=dJ (by omega) (by omega);rw[e];obtain⟨b1,b2,b3⟩:=key t.args ih hw.2 (left-1) (by omega) (by omega);refine⟨b1,b2,fun h=>?_⟩;obtain⟨c1,c2,c3⟩:=b3 h;show(Ty.wf E (.mk _ _ _))=true/\((Ty.cN (.mk _ _ _):Nat):Int)=_;rw[Ty.wf,Ty.cN,c1,c2,hw.1];exact⟨rfl,by omega⟩
 cases hk:t.kind == 2 with
 |false=>exact none (.inl hk)
 |true=>
  cases hi:pV ps t.name with
  |none=>exact none (.inr hi)
  |some i=>
   rw[XC hk hi];have bg:i<bs.length:=Nat.lt_of_lt_of_le (XE hi) hle;have hd:bs.getD i default=bs[i]:=by simp[List.getD,bg]
   rw[hd];obtain⟨g1,g2⟩:=hb _ (List.getElem_mem bg);have g3:=QD bs[i];rw[zj bs[i] (by omega)];have e:Wr (left-(bs[i].cN:Int))=left-bs[i].cN:=dJ (by omega) (by omega);rw[e];exact⟨by simp only;omega,by simp only;omega,fun _=>⟨g1,by simp only;omega⟩⟩
theorem QE{E:Env}{ps:List ByteArray}{bs:List Ty}(hb:∀b∈bs,Good E b)(hle:ps.length<=bs.length){t:Ty}(hw:t.wf E=true)(h:(iv ps bs t).2>=0):Good E (iv ps bs t).1:=by
 obtain⟨a,b,c⟩:=ahs hb hle t hw 500 (by omega) (by omega);obtain⟨d,e⟩:=c h;exact⟨d,by unfold iv at h ⊢;omega⟩
theorem X1{E:Env}{t u:Ty}{ps:List ByteArray}{at':List Ty}(hw:t.wf E=true)(h:j' E t ps at'=.ok u):Good E u:=by
 unfold j' at h
 split at h
 .cases h
 .rename_i bJ
  split at h
  .cases h
  .rename_i ff
   split at h
   .rename_i mH;cases h;have hl:(ps.length:Int)=at'.length:=by simpa using bJ
    have ha:at'.all (iT E)=true:=by simpa using ff
    rw[List.all_eq_true]at ha;exact QE (fun b hb=>EU (ha b hb)) (by omega) hw mH
   .cases h
theorem aht{E:Env}{d d':Dt}(h:aJ E.aK d.name=some d')(hl:d'.params.length=d.params.length):(Cy d).wf E=true:=by
 have e:eR E d.name (d.params.map Li).length=false:=by
  rw[eR,h];simp[hl]
 rw[Cy,Ty.wf,e,AO];have:(d.params.map Li).all (Ty.wf E)=true:=by
  rw[List.all_eq_true];intro x hx;obtain⟨s,_,rfl⟩:=List.mem_map.1 hx;rw[Li,Ty.wf];rfl
 rw[this];rfl
theorem Ya{E:Env}{a b:Ty}(ha:a.wf E=true)(hb:b.wf E=true):(lA a b).wf E=true:=by
 rw[lA,Ty.wf,xB,xB,xB,ha,hb];rfl
theorem ahu{E:Env}(hE:nC E){n:ByteArray}{x:Dt×Nat}(h:aJ E.cons n=some x):(vJ x.1 x.2).wf E=true:=by
 obtain⟨⟨d,hd,hl⟩,hf⟩:=hE.cons n x h;have:∀(l:List Ty),(∀f∈l,f.wf E=true)->(l.foldr lA (Cy x.1)).wf E=true:=by
  intro l
  induction l with
  |nil=>intro _;exact aht hd hl
  |cons f l ih=>intro h;rw[List.foldr_cons];exact Ya (h f (by simp)) (ih (fun g hg=>h g (by simp[hg])))
 exact this _ hf
theorem Yb{E:Env}(hE:nC E){bE:ByteArray}{x:Dt×Nat}{of:Ty}(h:aJ E.cons bE=some x)(hn:bw x.1.name of.name=true)(hw:of.wf E=true)(hk:of.kind=4):x.1.params.length=of.args.length:=by
 obtain⟨⟨d,hd,hl⟩,_⟩:=hE.cons bE x h;have en:x.1.name=of.name:=by rw[y5]at hn;simpa using hn
 rw[of.vN,hk,Bool.and_eq_true,Bool.and_eq_true]at hw;have hb:eR E of.name of.args.length=false:=by simpa using hw.1.2
 rw[eR,<- en,hd]at hb;have:(d.params.length:Int)=of.args.length:=by simpa using hb
 omega
theorem Yc{E:Env}{t u:Ty}(h:t.wf E=true)(hu:u∈t.args):u.wf E=true:=by
 rw[t.vN,Bool.and_eq_true,AO,List.all_eq_true]at h;exact h.2 u hu
theorem Lp{E:Env}{t u:Ty}(h:Good E t)(hu:u∈t.args):Good E u:=by
 refine⟨Yc h.1 hu,?_⟩;have:=ahq hu;have h2:=h.2;rw[t.AN]at h2;omega
theorem QF{E:Env}{t:Ty}(h:t.wf E=true)(hk:t.kind=3):t.args.length=2:=by
 rw[t.vN,hk,Bool.and_eq_true,Bool.and_eq_true]at h
 simpa using h.1.1
theorem Yd{α:Type}{l:List (ByteArray×α)}{k:ByteArray}{v:α}(h:aJ l k=some v):∃p∈l,p.1=k/\p.2=v:=by
 unfold aJ at h;obtain⟨p,hp,rfl⟩:=Δ.1 h;exact⟨p,List.mem_of_find?_eq_some hp,by simpa using List.find?_some hp,rfl⟩
theorem ahv{α:Type}{l:List (ByteArray×α)}{k:ByteArray}{v:α}{p:ByteArray×α}(h:p∈bS l k v):p∈l\/p=(k,v):=by
 unfold bS at h
 split at h
 .exact List.mem_or_eq_of_mem_set h
 .rcases List.mem_append.1 h with h |h
  .exact .inl h
  .exact .inr (List.mem_singleton.1 h)
theorem Ye{α:Type}{l:List (ByteArray×α)}{k:ByteArray}{p:ByteArray×α}(h:p∈gq l k):p∈l:=by
 unfold gq at h
 split at h
 .exact List.mem_of_mem_eraseIdx h
 .exact h
theorem dX.put{E:Env}{lc:Loc}(h:dX E lc){n:ByteArray}{t:Ty}(ht:Good E t):dX E (bS lc n t):=fun p hp=>by
 rcases ahv hp with hp |rfl
 .exact h p hp
 .exact ht
theorem dX.del{E:Env}{lc:Loc}(h:dX E lc)(n:ByteArray):dX E (gq lc n):=fun p hp=>h p (Ye hp)
theorem dX.kF{E:Env}:∀(l:List ByteArray) {lc:Loc},dX E lc->dX E (kF l lc)
 |[],_,h=>h
 |s::l,_,h=>dX.kF l (h.del s)
theorem dX.dA{E:Env}:∀(l:List Bd) {lc:Loc},dX E lc->(∀b∈l,Good E b.type)->dX E (dA l lc)
 |[],_,h,_=>h
 |b::l,_,h,hb=>dX.dA l (h.put (hb b (by simp))) (fun c hc=>hb c (by simp[hc]))
theorem dX.get{E:Env}{lc:Loc}(h:dX E lc){n:ByteArray}{t:Ty}(ht:aJ lc n=some t):Good E t:=by
 obtain⟨p,hp,_,rfl⟩:=Yd ht;exact h p hp
theorem EV{E:Env}{b:Bd}{bd eZ:cE}(h:lE E b bd=.ok eZ):Good E b.type:=by
 unfold lE at h
 split at h
 .cases h
 .split at h
  .rename_i hr;exact EU hr
  .cases h
theorem QG{E:Env}:∀(l:List Bd) {bd eZ:cE},lX E l bd=.ok eZ->∀b∈l,Good E b.type
 |[],_,_,_=>fun b hb=>by cases hb
 |c::l,bd,eZ,h=>fun b hb=>by
  rw[lX]at h
  split at h
  .cases h
  .rename_i bd2 az;rcases List.mem_cons.1 hb with rfl |hb
   .exact EV az
   .exact QG l h b hb
end
end Go.Proofs.YtekkkjbjnhipkaaGreatDoor