/- Texts that the last file stands on: WK, IRA, T1, D4, IRB, S1, T3, T4, T5, T6, D5, T7, T8, W16, T9, IRC, T10. -/
import Derived.KernelRfl
import Derived.Test.YtjfgeekjjlhbdaaGreatDoorZGA
import Derived.Shelf.LaysM
import Derived.Shelf.Strconv.Itoa3
import Derived.Shelf.Strings.Split
import Derived.Test.YtjfgeekjjlhbdaaGreatDoorProg
set_option linter.unusedSimpArgs false
set_option linter.unusedVariables false
set_option maxRecDepth 100000
section
namespace Go.W
open Go
inductive K where
 | ir (x:IR)
 | seq (a b:K)
 | cond (c:O) (a b:K)
 | iW (id:Nat) (a:K)
 | vB (x p1 p2 d:Nat) (bd:IR)
 | Hy (x p d:Nat) (bd:IR)
 deriving Inhabited
abbrev pb:=Exit→List Nat→Env→World→Prop
def BM (next:List Nat→Env→World→Prop) (Q:pb):pb
 | .normal,Ds,ρ,w=>next Ds ρ w
 | e,Ds,ρ,w=>Q e Ds ρ w
def zE (id:Nat) (Q:pb):pb
 | .exit lO,Ds,ρ,w=>if lO=id then Q .normal Ds ρ w else Q (.exit lO) Ds ρ w
 | e,Ds,ρ,w=>Q e Ds ρ w
def BN (D:Nat):Deferred:={ target:=.collected D,args:=#[]}
def OK (N:Nat) (Q:pb):Exit→Act→World→Prop:=fun e a w=>∃ ρ Ds,Good (Ds.map BN) N ρ a∧Q e Ds ρ w
structure Yf (P:Program) (N:Nat) (ir:IR) (x p1 p2 d:Nat) (ρ:Env) (w:World) (n len gf:Nat) (lb:Array Value) (jS:Nat→Value) (Kp:World→World→Prop) (I:List Nat→World→Prop):Prop where
 hx:ρ.get x=some (.func (.func gf) #[] lb)
 eg:∀ args w,(callFunc gf args).run P w = .ok (.enter gf args) w
 xI:SeqStopsK Fence.wide (n - 1) P gf lb (fun y : { j:Nat // j < len}=>#[.int .i64 (y.1:Int),jS y.1]) Kp (fun ys=>ys.map Subtype.val=BL len len) (fun _=>True) len w
 fresh:ρ.get p1=none∧ρ.get p2=none
 hn:1≤n
 xJ:∀ {A B C:World},Kp A B→Kp B C→Kp A C
 xK:∀ (W:World) (l:Nat) (o o':Obj),w.heap.size≤l→W.heap[l]? = some o→o.isCells=false→o.isWalk=false→Kp W (W.putObj l o')
 hI:OI P N ir Kp len jS p1 p2 d ρ w.heap.size I w
structure Yg (P:Program) (N:Nat) (ir:IR) (x p d:Nat) (ρ:Env) (w:World) (n len gf:Nat) (lb:Array Value) (Kp:World→World→Prop) (I:List ByteArray→World→Prop):Prop where
 hx:ρ.get x=some (.func (.func gf) #[] lb)
 eg:∀ args w,(callFunc gf args).run P w = .ok (.enter gf args) w
 xI:SeqStopsK Fence.wide (n - 1) P gf lb (fun y:ByteArray=>#[.string y]) Kp (fun _=>True) (fun _=>True) len w
 fresh:ρ.get p=none
 hn:1≤n
 xJ:∀ {A B C:World},Kp A B→Kp B C→Kp A C
 xK:∀ (W:World) (l:Nat) (o o':Obj),w.heap.size≤l→W.heap[l]? = some o→o.isCells=false→o.isWalk=false→Kp W (W.putObj l o')
 hI:OJ P N ir Kp len d ρ w.heap.size I w
def jT (P:Program) (N:Nat):K→pb→List Nat→Env→World→Prop
 | .ir x,Q,Ds,ρ,w=>cH P N x (fun e ρ w=>Q e Ds ρ w) ρ w
 | .seq a b,Q,Ds,ρ,w=>jT P N a (BM (fun Ds ρ w=>jT P N b Q Ds ρ w) Q) Ds ρ w
 | .cond c a b,Q,Ds,ρ,w=>∃ t,c.ev ρ=some (.bool t)∧(t=true→jT P N a Q Ds ρ w)∧(t=false→jT P N b Q Ds ρ w)
 | .iW id a,Q,Ds,ρ,w=>jT P N a (zE id Q) Ds ρ w
 | .vB x p1 p2 d bd,Q,Ds,ρ,w=>∃ n len gf lb jS Kp I,Yf P N bd x p1 p2 d ρ w n len gf lb jS Kp I ∧
     ∀ (D:Nat) (W:World),w.heap.size≤D→I (BL len len) W→W.heap[D]? = some (.deferred (some []))→Q .normal (D::Ds) ρ W
 | .Hy x p d bd,Q,Ds,ρ,w=>∃ n len gf lb Kp I,Yg P N bd x p d ρ w n len gf lb Kp I ∧
     ∀ (D:Nat) (xs:List ByteArray) (W:World),w.heap.size≤D→I xs W→W.heap[D]? = some (.deferred (some []))→Q .normal (D::Ds) ρ W
def Hz:Code→Option (Nat×Nat)
 | .region _ ops false=>match ops.toList with
  | [⟨some d,.assign (.tmp p),_,_,after,none⟩]=>if after.isEmpty then some (d,p) else none
  | _=>none
 | _=>none
theorem OL {c:Code} {d p:Nat} (h:Hz c=some (d,p)):∃ id ty pos,c = .region id #[{ dst:=some d,op:=.assign (.tmp p),type:=ty,pos:=pos,after:=#[],guard:=none}] false:=by
 unfold Hz at h
 split at h
 ·rename_i id ops
  split at h
  ·rename_i d' p' ty pos after mK
   split at h
   ·rename_i ha;simp only [Option.some.injEq,Prod.mk.injEq] at h;obtain ⟨rfl,rfl⟩:=h;have iE:after = #[]:=by simpa using ha
    subst iE;refine ⟨id,ty,pos,?_⟩;have:ops = #[{ dst:=some d',op:=.assign (.tmp p'),type:=ty,pos:=pos,after:=#[],guard:=none}]:=by
     apply Array.ext';rw [mK]
    rw [this]
   ·cases h
  ·cases h
 ·cases h
def mkSeq:K→K→K
 | .ir x,.ir y=>.ir (.seq x y)
 | a,b=>.seq a b
def HA (c:O):K→K→K
 | .ir x,.ir y=>.ir (.cond c x y)
 | a,b=>.cond c a b
def HB (id:Nat):K→K
 | .ir x=>.ir (.block id x)
 | a=>.iW id a
def qT (P:Program) (N:Nat) (H:List (Nat×List Nat×List Nat)):Code→Option K
 | .seq a b=>(qT P N H a).bind fun x=>(qT P N H b).map fun y=>mkSeq x y
 | .cond c a b=>(qT P N H a).bind fun x=>(qT P N H b).map fun y=>HA (bm c) x y
 | .block id a=>(qT P N H a).map (HB id)
 | .rangeFunc f ps sa bd=>match f,ps.toList,Hz sa,fk P N H bd with
  | .tmp x,[p1,p2],some (d,p),some ir=>if p=p2&&p1 != p2&&decide (p1 < N)&&decide (p2 < N)&&decide (d < N)&&calm bd&&nC ir then some (.vB x p1 p2 d ir) else none
  | .tmp x,[p1],some (d,p),some ir=>if p=p1&&decide (p < N)&&decide (d < N)&&calm bd&&nC ir then some (.Hy x p d ir) else none
  | _,_,_,_=>none
 | c=>(fk P N H c).map .ir
section
variable {P:Program} {N:Nat}
theorem Yh {a b:K} {Q:pb} {Ds:List Nat} {ρ:Env} {w:World} (h:jT P N (mkSeq a b) Q Ds ρ w):jT P N (.seq a b) Q Ds ρ w:=by
 unfold mkSeq at h
 split at h
 ·refine xz _ _ _ (fun e ρ w h=>?_) ρ w (show cH P N _ _ ρ w from h);cases e<;>exact h
 ·exact h
theorem Yi {c:O} {a b:K} {Q:pb} {Ds:List Nat} {ρ:Env} {w:World} (h:jT P N (HA c a b) Q Ds ρ w):jT P N (.cond c a b) Q Ds ρ w:=by
 unfold HA at h
 split at h
 ·exact h
 ·exact h
theorem Yj {id:Nat} {a:K} {Q:pb} {Ds:List Nat} {ρ:Env} {w:World} (h:jT P N (HB id a) Q Ds ρ w):jT P N (.iW id a) Q Ds ρ w:=by
 unfold HB at h
 split at h
 ·refine xz _ _ _ (fun e ρ w h=>?_) ρ w (show cH P N _ _ ρ w from h);cases e<;>exact h
 ·exact h
theorem Yk {H:List (Nat×List Nat×List Nat)}:∀ (c:Code) (k:K) (Q:pb) (Ds:List Nat) (ρ:Env) (a:Act) (w:World),qT P N H c=some k→jT P N k Q Ds ρ w→Good (Ds.map BN) N ρ a→c.wp P (OK N Q) a w:=by
 have plain:∀ (c:Code) (k:K) (Q:pb) (Ds:List Nat) (ρ:Env) (a:Act) (w:World),(fk P N H c).map K.ir=some k→jT P N k Q Ds ρ w→Good (Ds.map BN) N ρ a→c.wp P (OK N Q) a w:=by
  intro c k Q Ds ρ a w h hw hg;obtain ⟨ir,Yl,rfl⟩:=Option.map_eq_some_iff.1 h;refine wp_mono (D1 c ir _ ρ a w Yl hw hg) ?_;rintro e a' w' ⟨aw,dj,hq⟩;exact ⟨aw,Ds,dj,hq⟩
 intro c
 induction c with
 | seq x y iD lP=>
  intro k Q Ds ρ a w h hw hg;simp only [qT] at h;obtain ⟨a1,h1,h⟩:=Option.bind_eq_some_iff.1 h;obtain ⟨b1,h2,h⟩:=Option.map_eq_some_iff.1 h;subst h;have hw:=Yh hw;refine wp_seq (wp_mono (iD a1 _ Ds ρ a w h1 hw hg) ?_);rintro e a' w' ⟨aw,zF,dj,hq⟩;cases e with
  | normal=>exact lP b1 Q zF aw a' w' h2 hq dj
  | _=>exact ⟨aw,zF,dj,hq⟩
 | cond c x y iD lP=>
  intro k Q Ds ρ a w h hw hg;simp only [qT] at h;obtain ⟨a1,h1,h⟩:=Option.bind_eq_some_iff.1 h;obtain ⟨b1,h2,h⟩:=Option.map_eq_some_iff.1 h;subst h;obtain ⟨t,hc,ht,hf⟩:=Yi hw;have he:=hg.agree c _ hc;exact wp_cond_split he (fun e=>iD a1 Q Ds ρ a w h1 (ht e) hg) (fun e=>lP b1 Q Ds ρ a w h2 (hf e) hg)
 | block id x ih=>
  intro k Q Ds ρ a w h hw hg;simp only [qT] at h;obtain ⟨a1,h1,h⟩:=Option.map_eq_some_iff.1 h;subst h;have hw:=Yj hw;refine wp_block (wp_mono (ih a1 _ Ds ρ a w h1 hw hg) ?_);rintro e a' w' ⟨aw,zF,dj,hq⟩;cases e with
  | exit lO=>
   simp only [Exit.inBlock,zE] at hq ⊢
   split
   ·rename_i hh;rw [if_pos hh] at hq;exact ⟨aw,zF,dj,hq⟩
   ·rename_i hh;rw [if_neg hh] at hq;exact ⟨aw,zF,dj,hq⟩
  | _=>exact ⟨aw,zF,dj,hq⟩
 | rangeFunc f ps sa bd _ _=>
  intro k Q Ds ρ a w h hw hg;simp only [qT] at h
  split at h
  ·rename_i f0 Ed Ym Yn x p1 p2 d p ir gq has dF
   split at h
   ·rename_i hc;simp only [Bool.and_eq_true,decide_eq_true_eq,bne_iff_ne,ne_eq] at hc;obtain ⟨⟨⟨⟨⟨⟨rfl,h1⟩,h2⟩,h3⟩,h4⟩,h5⟩,h6⟩:=hc;simp only [Option.some.injEq] at h;subst h;obtain ⟨id,ty,pos,rfl⟩:=OL has;have HC:ps = #[p1,p]:=by apply Array.ext';rw [gq]
    subst HC;obtain ⟨n,len,gf,lb,jS,Kp,I,hr,hd⟩:=hw;refine Yd dF h5 h6 hg hr.hx hr.eg hr.xI ⟨h1,h2,h3,h4⟩ hr.fresh hr.hn hr.xJ hr.xK I hr.hI ?_;intro D W hD hI hh a' iE;exact ⟨ρ,D::Ds,iE,hd D W hD hI hh⟩
   ·cases h
  ·rename_i f0 Ed Ym Yn x p1 d p ir gq has dF
   split at h
   ·rename_i hc;simp only [Bool.and_eq_true,decide_eq_true_eq,bne_iff_ne,ne_eq] at hc;obtain ⟨⟨⟨⟨rfl,h3⟩,h4⟩,h5⟩,h6⟩:=hc;simp only [Option.some.injEq] at h;subst h;obtain ⟨id,ty,pos,rfl⟩:=OL has;have HC:ps = #[p]:=by apply Array.ext';rw [gq]
    subst HC;obtain ⟨n,len,gf,lb,Kp,I,hr,hd⟩:=hw;refine Ye dF h5 h6 hg hr.hx hr.eg hr.xI ⟨h3,h4⟩ hr.fresh hr.hn hr.xJ hr.xK I hr.hI ?_;intro D xs W hD hI hh a' iE;exact ⟨ρ,D::Ds,iE,hd D xs W hD hI hh⟩
   ·cases h
  ·cases h
 | _=>
  intro k Q Ds ρ a w h hw hg;exact plain _ k Q Ds ρ a w h hw hg
def HD (rs:List RV) (R:Value→World→Prop):pb:=fun e Ds ρ w=>
 (e = .normal∨e = .ret)∧(∀ D∈Ds,w.heap[D]? = some (.deferred (some [])))∧Ds.Nodup ∧
  ∀ w':World,Mod (fun b=>b∈Ds) w w'→w'.heap.size=w.heap.size→∃ vs,aE w' ρ rs=some vs∧R (aF vs) w'
structure HE (P:Program) (f:Nat) (lQ:Nat) (H:List (Nat×List Nat×List Nat)) (k:K) (rs:List RV) (N:Nat):Prop where
 go:∃ fn c,P.funcs[f]? = some fn∧fn.body=some c∧fn.ntmps=N∧lQ≤N∧qT P N H c=some k∧sB P fn.results.toList=some rs
theorem Yo {S:Nat→Prop} {w:World} {r:Nat} {o:Obj} (h:S r):Mod S w (w.putObj r o):=
 ⟨by simp,fun b _ hb=>World.putObj_heap_other (fun e=>hb (e ▸ h)),rfl,rfl,rfl⟩
theorem OM {fn:Func} {tmps:Array Value} {R:Ending→World→Prop}:∀ (Ds:List Nat) (w:World),(∀ D∈Ds,w.heap[D]? = some (.deferred (some [])))→Ds.Nodup →
   (∀ w':World,Mod (fun b=>b∈Ds) w w'→w'.heap.size=w.heap.size→∃ v,(results fn tmps).run P w' = .ok v w'∧R (.returned v) w') →
   LeavesInM Fence.wide 0 P fn tmps R (Ds.map BN) .returning w
 | [],w,_,_,h=>h w (.refl _ _) rfl
 | D::Ds,w,hD,hn,h=>by
  refine ⟨(fun h=>by cases h),.inl ⟨D,w.putObj D (.deferred none),rfl,run_takeDeferred (hD D (by simp)),?_⟩⟩;obtain ⟨h1,h2⟩:=List.nodup_cons.1 hn;refine OM Ds _ (fun D' vC=>?_) h2 (fun w' hm hs=>h w' ?_ (by rw [hs,World.putObj_size]))
  ·rw [World.putObj_heap_other (fun e:D'=D=>h1 (e ▸ vC))];exact hD D' (by simp [vC])
  ·exact (Yo (S:=fun b=>b∈D::Ds) (by simp)).step hm (fun i hi _=>by simp [hi])
theorem HE.calls {f:Nat} {lQ:Nat} {H:List (Nat×List Nat×List Nat)} {k:K} {rs:List RV} (h:HE P f lQ H k rs N) {args:List Value} (hn:args.length=lQ) {w:World} {R:Value→World→Prop}
   (hw:jT P N k (HD rs R) [] (qP 0 args) w):a8 P f args w R:=by
 obtain ⟨fn,c,hf,hb,hN,hle,hd,Bx⟩:=h.go;unfold a8;refine callsIn_wide.1 (callsIn_of_wp_marks (n:=0) hf hb trivial ?_);have hg:Good ([].map BN) N (qP 0 args) { tmps:=args.toArray++Array.replicate (fn.ntmps - args.toArray.size) undef,defers:=[]}:=by
  refine ⟨?_,rfl,?_⟩
  ·simp only [Array.size_append,List.size_toArray,Array.size_replicate];omega
  ·intro t v ht;obtain ⟨_,h2⟩:=Hk args 0 t v ht;have aP:t < args.length:=by
    rcases Nat.lt_or_ge t args.length with h | h
    ·exact h
    ·simp [List.getElem?_eq_none h] at h2
   simp only [Nat.sub_zero] at h2;rw [Array.getElem?_append_left (by simpa using aP)]
   simpa using h2
 refine wpIn_mono ((wpIn_wide (n:=0)).2 (Yk c k _ [] _ _ _ hd hw hg)) ?_;rintro e a' w' ⟨aw,Ds,dj,he,hD,lX,hq⟩;have fin:LeavesInM Fence.wide 0 P fn a'.tmps (fun e w'=>∃ v,e = .returned v∧R v w') a'.defers .returning w':=by
  rw [dj.defers];refine OM Ds w' hD lX ?_;intro w2 hm hs;obtain ⟨vs,h1,h2⟩:=hq w2 hm hs;refine ⟨aF vs,lK ?_,_,rfl,h2⟩;unfold results;rw [cL,Array.mapM_eq_mapM_toList,A8];have:=Hh (P:=P) dj fn.results.toList rs vs Bx h1;refine Eq.trans (congrArg (fun o:Option (List Value)=>(o.map List.toArray).bind fun vs=>ro P w2 (pure (if h:vs.size=1 then vs[0] else .tuple vs):Sem Value)) this) ?_;simp only [Option.map_some,Option.bind_some,fH,List.size_toArray,Option.some.injEq]
  match vs with
  | []=>rfl
  | [v]=>rfl
  | v::u::l=>simp [aF]
 rcases he with rfl | rfl
 ·exact fin
 ·exact fin
end
abbrev HL:=List (Nat×List Nat×List Nat)
def xL:IR→List (List Nat)
 | .seq a b=>xL a++xL b
 | .cond _ a b=>xL a++xL b
 | .block _ a=>xL a
 | .loop a=>xL a
 | .cS _ _ kp=>[kp]
 | .dr _ kp=>[kp]
 | _=>[]
def xM:Code→List (Nat×List Nat)
 | .region id ops draw=>[(id,if draw then (Region.before ops).toList else [])]
 | .seq a b=>xM a++xM b
 | .cond _ a b=>xM a++xM b
 | .block _ a=>xM a
 | .loop a=>xM a
 | _=>[]
def bu (fn:Func) (a:IR):List (Nat×List Nat×List Nat):=match fn.body with
 | some c=>List.zipWith (fun (x:Nat×List Nat) k=>(x.1,k,x.2)) (xM c) (xL a)
 | none=>[]
namespace Z
def m (d:Nat) (x:Nat):S:=.r (some d) (.mv (.t x))
def m' (s:Nat) (c:Bool) (d:Nat) (x:Nat):S:=.gr s c (some d) (.mv (.t x))
def n (d:Nat) (x:Nat):S:=.r (some d) (.nn (.t x))
def n' (s:Nat) (c:Bool) (d:Nat) (x:Nat):S:=.gr s c (some d) (.nn (.t x))
def f (d:Nat) (o:Nat) (x:Nat):S:=.r (some d) (.fa o (.t x))
def f' (s:Nat) (c:Bool) (d:Nat) (o:Nat) (x:Nat):S:=.gr s c (some d) (.fa o (.t x))
def l (d:Nat) (x:Nat):S:=.r (some d) (.l1 (.t x))
def l' (s:Nat) (c:Bool) (d:Nat) (x:Nat):S:=.gr s c (some d) (.l1 (.t x))
def ln (d:Nat) (o:Nat) (x:Nat):S:=.r (some d) (.ln o (.t x))
def tZ (s:Nat) (c:Bool) (d:Nat) (o:Nat) (x:Nat):S:=.gr s c (some d) (.ln o (.t x))
def ex (d:Nat) (o:Nat) (x:Nat):S:=.r (some d) (.ex o (.t x))
def Yp (s:Nat) (c:Bool) (d:Nat) (o:Nat) (x:Nat):S:=.gr s c (some d) (.ex o (.t x))
def le (d:Nat) (x:Nat):S:=.r (some d) (.len (.t x))
def kY (s:Nat) (c:Bool) (d:Nat) (x:Nat):S:=.gr s c (some d) (.len (.t x))
def ia (d:Nat) (o:Nat) (x:Nat) (y:Nat):S:=.r (some d) (.ia o (.t x) (.t y))
def Yq (s:Nat) (c:Bool) (d:Nat) (o:Nat) (x:Nat) (y:Nat):S:=.gr s c (some d) (.ia o (.t x) (.t y))
def no (d:Nat) (x:Nat):S:=.r (some d) (.no (.t x))
def xN (s:Nat) (c:Bool) (d:Nat) (x:Nat):S:=.gr s c (some d) (.no (.t x))
def bi (d:Nat) (b:BinOp) (x:Nat) (y:Nat):S:=.r (some d) (.bi b (.t x) (.t y))
def mN (s:Nat) (c:Bool) (d:Nat) (b:BinOp) (x:Nat) (y:Nat):S:=.gr s c (some d) (.bi b (.t x) (.t y))
def bk (d:Nat) (b:BinOp) (x:Nat) (k:Int):S:=.r (some d) (.bi b (.t x) (.c (.int .i64 k)))
def dK (s:Nat) (c:Bool) (d:Nat) (b:BinOp) (x:Nat) (k:Int):S:=.gr s c (some d) (.bi b (.t x) (.c (.int .i64 k)))
def mk (d:Nat) (k:Int):S:=.r (some d) (.mv (.c (.int .i64 k)))
def mk' (s:Nat) (c:Bool) (d:Nat) (k:Int):S:=.gr s c (some d) (.mv (.c (.int .i64 k)))
def c (d f:Nat) (l:List Nat):S:=.e (some d) (.call f (l.map .t))
def u (d x y:Nat):S:=.r (some d) (.pk (.t x) (.c (.bool true)) (.t y))
def a (d x y:Nat):S:=.r (some d) (.pk (.t x) (.t y) (.c (.bool false)))
def s (n x y:Nat):S:=.e none (.st n (.t x) (.t y))
def k (n:Int):O:=.c (.int .i64 n)
def i (n:Int):Value:=.int .i64 n
def q (st:List S) (kp:List Nat):IR:=.cS false st kp
def q' (st:List S) (kp:List Nat):IR:=.cS true st kp
def z (st:List S) (kp:List Nat) (x:IR):IR:=.seq (.cS false st kp) x
def j (n:Nat) (x y:IR):IR:=.cond (.t n) x y
def r (i d:Nat) (x:R) (t:D):D:=.r i none (some d) x t
end Z
theorem Fits.m {P:Program} {f lQ:Nat} {H:List (Nat×List Nat×List Nat)} {ir:IR} {rs:List RV} {N:Nat} (fn:Func) (c:Code) (h1:P.funcs[f]? = some fn:=by rfl) (h2:fn.body=some c:=by rfl) (h3:fn.ntmps=N:=by rfl) (h4:lQ≤N:=by decide)
   (h5:fk P N H c=some ir:=by kernel_rfl) (h6:sB P fn.results.toList=some rs:=by kernel_rfl):Fits P f lQ H ir rs N:=⟨fn,c,h1,h2,h3,h4,h5,h6⟩
attribute [go_sem] Z.m Z.m' Z.n Z.n' Z.f Z.f' Z.l Z.l' Z.ln Z.tZ Z.ex Z.Yp Z.le Z.kY Z.ia Z.Yq Z.no Z.xN Z.bi Z.mN Z.bk Z.dK Z.mk Z.mk' Z.c Z.u Z.a Z.s Z.k Z.i Z.q Z.q' Z.z Z.j Z.r List.map_cons List.map_nil
end Go.W
end
namespace Go.Proofs.YtjfgeekjjlhbdaaGreatDoor
section
open Go Go.W Go.W.Z
def ON:IR:=.seq (z [f 15 0 1,l 16 15,ia 18 3 16 4,f 19 2 18,l 20 19,le 21 20,bi 22 .lss 5 21] [1,3,4,5,22] <| j 22 (.skip) ((.exit 2))) <| .seq (.block 3 (z [f 25 0 1,l 26 25,ia 28 3 26 4,f 29 2 28,l 30 29,ia 32 2 30 5,f 33 1 32,l 34 33,bk 36 .sub 3 1,.e (some 37) (.call 20 [(.t 34),(.t 36),(k 65536)]),m 3 37] [1,3,4,5] <| z [bk 39 .lss 3 0] [1,3,4,5,39] <| j 39 (z [.r (some 2) (.mv (.c (.bool true)))] [2] <| .ret) (.skip))) <| q [bk 24 .add 5 1,m 5 24] [1,3,4,5]
def OO:IR:=.seq (z [f 8 0 1,l 9 8,le 10 9,bi 11 .lss 4 10] [1,3,4,11] <| j 11 (.skip) ((.exit 0))) <| .seq (.block 1 (z [mk 5 0] [1,3,4,5] <| .block 2 (.loop ON))) <| q [bk 13 .add 4 1,m 4 13] [1,3,4]
def OP:IR:=.seq (z [f 41 1 1,l 42 41,le 43 42,bi 44 .lss 6 43,m' 44 true 46 3,dK 44 true 47 .geq 46 0,a 48 44 47] [1,3,6,48] <| j 48 (.skip) ((.exit 4))) <| .seq (.block 5 (z [f 51 1 1,l 52 51,ia 54 12 52 6,f 55 2 54,ln 56 3 55,.e (some 58) (.call 21 [(.t 56),(.t 3),(k 65536)]),m 3 58] [1,3,6] <| z [bk 60 .geq 3 0] [1,3,6,60] <| j 60 (q [f 61 1 1,l 62 61,ia 64 12 62 6,f 65 5 64,ln 66 7 65,.e (some 68) (.call 22 [(.t 66),(.t 3),(k 65536)]),m 3 68] [1,3,6]) (.skip))) <| q [bk 50 .add 6 1,m 6 50] [1,3,6]
def HF:IR:=z [.e (some 1) (.bx 25 (.t 0))] [1] <| z [mk 3 4194304] [1,3] <| .seq (z [mk 4 0] [1,3,4] <| .block 0 (.loop OO)) <| .seq (z [mk 6 0] [1,3,6] <| .block 4 (.loop OP)) <| z [bk 70 .lss 3 0,m 2 70] [2] <| .ret
theorem Yr:Fits Tryz.prog 7 1 (bu Tryz.f7 HF) HF [.t 2] 71:=.m Tryz.f7 _
def HG:IR:=z [] [] <| z [c 4 13 [],.e (some 5) (.call 15 [(k 1)]),.e (some 6) (.call 15 [(k 2)]),.e (some 7) (.call 14 [(.c (.string ⟨#[43]⟩)),(.t 5),(.t 6)]),c 8 23 [4,7],.e (some 9) (.call 9 [(.t 8),(.c (.string ⟨#[109]⟩)),(.c (.slice none 0 0)),(k 20)]),ex 10 0 9,ex 11 1 9,.e (some 1) (.al 34 (.agg #[(i 0),(.slice none 0 0),(i 0),(i 0),(i 0),(i 0),(i 0),(.string ⟨#[]⟩)])),s 8 1 10,m 2 11] [1,2] <| z [bk 13 .eql 2 0,f' 13 true 15 0 1,l' 13 true 16 15,dK 13 true 17 .eql 16 2,a 18 13 17,f' 18 true 20 1 1,l' 18 true 21 20,kY 18 true 22 21,dK 18 true 23 .eql 22 1,a 24 18 23,f' 24 true 26 1 1,l' 24 true 27 26,.gr 24 true (some 28) (.ia 2 (.t 27) (k 0)),tZ 24 true 29 2 28,.gr 24 true (some 30) (.bd #[(.string ⟨#[]⟩),(i 0)] [(1,1,(k 3))]),.gr 24 true (some 31) (.jL false [(0,.str),(1,.int)] (.t 29) (.t 30)),a 32 24 31,f' 32 true 34 3 1,l' 32 true 35 34,dK 32 true 36 .eql 35 5,a 37 32 36,m 0 37] [0] <| .ret
theorem Ys:Fits Tryz.prog 8 0 (bu Tryz.f8 HG) HG [.t 0] 38:=.m Tryz.f8 _
def OQ:IR:=z [bi 24 .lss 23 22] [1,2,3,4,8,21,22,23,24] <| .seq (j 24 (.skip) ((.exit 0))) <| .seq (.block 1 (z [ia 25 1 21 23,l 26 25,m 11 26] [1,2,3,4,8,11,21,22,23] <| z [bk 28 .lss 11 (-4611686018427387904),m' 28 false 30 11,dK 28 false 31 .gtr 30 4611686018427387903,u 32 28 31] [1,2,3,4,8,21,22,23,32] <| j 32 (z [.r (some 33) (.bd #[(i 0),(.slice none 0 0),(i 0),(i 0),(i 0),(i 0),(i 0),(.string ⟨#[]⟩)] []),s 8 8 33,mk 9 1] [8,9] <| .ret) (.skip))) <| q [bk 34 .add 23 1,m 23 34] [1,2,3,4,8,21,22,23]
def HH:IR:=z [.e (some 4) (.bx 25 (.t 0)),.e (some 8) (.al 34 (.agg #[(i 0),(.slice none 0 0),(i 0),(i 0),(i 0),(i 0),(i 0),(.string ⟨#[]⟩)]))] [1,2,3,4,8] <| .seq (z [le 18 2,bk 19 .gtr 18 10000] [1,2,3,4,8,19] <| j 19 (z [.r (some 20) (.bd #[(i 0),(.slice none 0 0),(i 0),(i 0),(i 0),(i 0),(i 0),(.string ⟨#[]⟩)] []),s 8 8 20,mk 9 2] [8,9] <| .ret) (.skip)) <| .seq (z [m 21 2,le 22 21,mk 23 0] [1,2,3,4,8,21,22,23] <| .block 0 (.loop OQ)) <| .seq (z [bk 36 .lss 3 0,m' 36 false 38 3,dK 36 false 39 .gtr 38 1048576,u 40 36 39] [1,2,3,4,8,40] <| j 40 (z [.r (some 41) (.bd #[(i 0),(.slice none 0 0),(i 0),(i 0),(i 0),(i 0),(i 0),(.string ⟨#[]⟩)] []),s 8 8 41,mk 9 1] [8,9] <| .ret) (.skip)) <| .seq (z [ln 42 2 4,c 43 16 [42],m 12 43] [1,2,3,4,8,12] <| z [bk 45 .neq 12 0] [1,2,3,4,8,12,45] <| j 45 (z [.r (some 46) (.bd #[(i 0),(.slice none 0 0),(i 0),(i 0),(i 0),(i 0),(i 0),(.string ⟨#[]⟩)] []),s 8 8 46,m 9 12] [8,9] <| .ret) (.skip)) <| z [ln 49 2 4,c 51 24 [49,1],ex 52 0 51,ex 53 1 51,m 13 52,m 14 53] [1,2,3,4,8,13,14] <| .seq (z [no 55 14] [1,2,3,4,8,13,55] <| j 55 (z [.r (some 56) (.bd #[(i 0),(.slice none 0 0),(i 0),(i 0),(i 0),(i 0),(i 0),(.string ⟨#[]⟩)] []),s 8 8 56,mk 9 100] [8,9] <| .ret) (.skip)) <| z [ln 57 2 4,c 59 25 [57,3],m 15 59] [1,2,8,13,15] <| z [.r (some 63) (.bd #[(i 0),(.string ⟨#[]⟩),(i 0),(.slice none 0 0),(.slice none 0 0),(.slice none 0 0),(.slice none 0 0)] [(0,1,(k 3)),(1,1,(.t 1))]),.e (some 64) (.bx 47 (.t 63)),.e (some 65) (.call 26 [(.t 15),(.t 64),(.c (.pointer none))]),ex 66 0 65,ex 67 1 65,m 16 66,m 14 67] [2,8,13,14,15,16] <| .seq (z [m' 14 true 70 13,a 71 14 70] [2,8,14,15,16,71] <| j 71 (q [c 76 28 [2],.r (some 77) (.bd #[.nilIface] [(0,1,(.t 76))]),.e (some 78) (.bx 87 (.t 77)),c 79 27 [15,16,78],ex 80 0 79,ex 81 1 79,m 16 80,m 14 81] [8,14,15,16]) (.skip)) <| .seq (z [m 82 14] [8,15,16,82] <| j 82 (q [c 85 29 [15,16]] [8,15]) (.skip)) <| z [n 87 15,f 88 0 87,ln 89 8 88,s 8 8 89,mk 9 0] [8,9] <| .ret
theorem Yt:Fits Tryz.prog 9 4 (bu Tryz.f9 HH) HH [.n 8 8,.t 9] 90:=.m Tryz.f9 _
def OR:IR:=.seq (z [f 7 1 2,l 8 7,le 9 8,bi 10 .lss 5 9,m' 10 true 12 5,f' 10 true 13 1 3,l' 10 true 14 13,kY 10 true 15 14,mN 10 true 16 .lss 12 15,a 17 10 16] [2,3,5,17] <| j 17 (.skip) ((.exit 0))) <| .seq (.block 1 (.seq (q' [f 20 1 2,l 21 20,m 22 5,ia 23 2 21 22,ln 24 2 23,f 25 1 3,l 26 25,m 27 5,ia 28 2 26 27,ln 29 2 28,.r (some 30) (.jL true [(0,.str),(1,.int)] (.t 24) (.t 29))] [2,3,5,30]) <| j 30 (z [.r (some 4) (.mv (.c (.bool false)))] [4] <| .ret) (.skip))) <| q [bk 19 .add 5 1,m 5 19] [2,3,5]
def HI:IR:=z [.e (some 2) (.bx 34 (.t 0)),.e (some 3) (.bx 34 (.t 1))] [2,3] <| .seq (z [mk 5 0] [2,3,5] <| .block 0 (.loop OR)) <| z [.r (some 4) (.mv (.c (.bool true)))] [4] <| .ret
theorem Yu:Fits Tryz.prog 10 2 (bu Tryz.f10 HI) HI [.t 4] 31:=.m Tryz.f10 _
def HJ:IR:=z [.e (some 2) (.bx 34 (.t 0)),.e (some 3) (.bx 34 (.t 1))] [2,3] <| z [ln 6 8 2,ln 7 8 3,c 8 30 [6,7],m 5 8] [2,3,5] <| z [f 9 0 2,l 10 9,f 11 0 3,l 12 11,bi 13 .eql 10 12,f' 13 true 15 2 2,l' 13 true 16 15,f' 13 true 17 2 3,l' 13 true 18 17,mN 13 true 19 .eql 16 18,a 20 13 19,f' 20 true 22 3 2,l' 20 true 23 22,f' 20 true 24 3 3,l' 20 true 25 24,mN 20 true 26 .eql 23 25,a 27 20 26,f' 27 true 29 4 2,tZ 27 true 30 4 29,f' 27 true 31 4 3,tZ 27 true 32 4 31,.gr 27 true (some 33) (.jL false [(0,.int),(1,.int),(2,.int),(3,.str)] (.t 30) (.t 32)),a 34 27 33,m' 34 true 36 5,a 37 34 36,m 4 37] [4] <| .ret
theorem Yv:Fits Tryz.prog 11 2 (bu Tryz.f11 HJ) HJ [.t 4] 38:=.m Tryz.f11 _
def HK:IR:=z [.e (some 0) (.al 42 (.agg #[(i 0),(.string ⟨#[]⟩),(.slice none 0 0)]))] [0] <| z [.r (some 1) (.bd #[(i 0),(.string ⟨#[]⟩),(.slice none 0 0)] [(0,1,(k 1))]),s 3 0 1] [0] <| .ret
theorem Yw:Fits Tryz.prog 13 0 (bu Tryz.f13 HK) HK [.n 0 3] 2:=.m Tryz.f13 _
def HM:IR:=z [.e (some 4) (.bx 47 (.t 1)),.e (some 5) (.bx 47 (.t 2)),.e (some 6) (.al 47 (.agg #[(i 0),(.string ⟨#[]⟩),(i 0),(.slice none 0 0),(.slice none 0 0),(.slice none 0 0),(.slice none 0 0)]))] [0,4,5,6] <| z [ln 8 7 4,ln 9 7 5,.e (some 10) (.bs 47 2 #[(i 0),(.string ⟨#[]⟩),(i 0),(.slice none 0 0),(.slice none 0 0),(.slice none 0 0),(.slice none 0 0),(i 0),(.string ⟨#[]⟩),(i 0),(.slice none 0 0),(.slice none 0 0),(.slice none 0 0),(.slice none 0 0)] [(0,7,(.t 8)),(7,7,(.t 9))]),.r (some 11) (.bd #[(i 0),(.string ⟨#[]⟩),(i 0),(.slice none 0 0),(.slice none 0 0),(.slice none 0 0),(.slice none 0 0)] [(0,1,(k 9)),(1,1,(.t 0)),(4,1,(.t 10))]),s 7 6 11] [6] <| .ret
theorem Yx:Fits Tryz.prog 14 3 (bu Tryz.f14 HM) HM [.n 6 7] 12:=.m Tryz.f14 _
def HN:IR:=z [.e (some 2) (.al 47 (.agg #[(i 0),(.string ⟨#[]⟩),(i 0),(.slice none 0 0),(.slice none 0 0),(.slice none 0 0),(.slice none 0 0)]))] [0,2] <| z [.r (some 4) (.bd #[(i 0),(.string ⟨#[]⟩),(i 0),(.slice none 0 0),(.slice none 0 0),(.slice none 0 0),(.slice none 0 0)] [(0,1,(k 2)),(2,1,(.t 0))]),s 7 2 4] [2] <| .ret
theorem Yy:Fits Tryz.prog 15 1 (bu Tryz.f15 HN) HN [.n 2 7] 5:=.m Tryz.f15 _
def HO:IR:=z [.e (some 1) (.bx 25 (.t 0))] [1] <| z [ln 6 2 1,c 7 31 [6],ex 8 0 7,ex 9 1 7,m 4 9] [4] <| z [m 2 4] [2] <| .ret
theorem Yz:Fits Tryz.prog 16 1 (bu Tryz.f16 HO) HO [.t 2] 11:=.m Tryz.f16 _
def OS:IR:=.seq (z [bk 14 .geq 4 0] [0,2,3,4,14] <| j 14 (.skip) ((.exit 0))) <| .seq (.block 1 (z [c 17 13 [],.e (some 18) (.bs 42 1 #[(i 0),(.string ⟨#[]⟩),(.slice none 0 0)] [(0,3,(.t 17))]),.r (some 19) (.bd #[(i 0),(.string ⟨#[]⟩),(i 0),(.slice none 0 0),(.slice none 0 0),(.slice none 0 0),(.slice none 0 0)] [(0,1,(k 4)),(1,1,(.c (.string ⟨#[67,111,110,115]⟩))),(3,1,(.t 18))]),.e (some 5) (.al 47 (.agg #[(i 0),(.string ⟨#[]⟩),(i 0),(.slice none 0 0),(.slice none 0 0),(.slice none 0 0),(.slice none 0 0)])),s 7 5 19] [0,2,3,4,5] <| .seq (.dr (r 0 20 (.ln 7 (.t 5)) <| r 1 21 (.mv (.t 0)) <| r 2 22 (.mv (.t 4)) <| r 3 23 (.ia 1 (.t 21) (.t 22)) <| r 4 24 (.l1 (.t 23)) <| .e2 5 (some 25) (.call 15 [(.t 24)]) [0] (.e2 6 (some 26) (.bs 47 2 #[(i 0),(.string ⟨#[]⟩),(i 0),(.slice none 0 0),(.slice none 0 0),(.slice none 0 0),(.slice none 0 0),(i 0),(.string ⟨#[]⟩),(i 0),(.slice none 0 0),(.slice none 0 0),(.slice none 0 0),(.slice none 0 0)] [(0,7,(.t 20)),(7,7,(.t 25))]) [] (r 7 27 (.bd #[(i 0),(.string ⟨#[]⟩),(i 0),(.slice none 0 0),(.slice none 0 0),(.slice none 0 0),(.slice none 0 0)] [(0,1,(k 5)),(4,1,(.t 26))]) <| .e 8 none (some 6) (.al 47 (.agg #[(i 0),(.string ⟨#[]⟩),(i 0),(.slice none 0 0),(.slice none 0 0),(.slice none 0 0),(.slice none 0 0)])) [0,4] <| .e 9 none none (.st 7 (.t 6) (.t 27)) [] <| .nil) 8 (some 6) (.al 47 (.agg #[(i 0),(.string ⟨#[]⟩),(i 0),(.slice none 0 0),(.slice none 0 0),(.slice none 0 0),(.slice none 0 0)])) [0,4]
   (.e 6 none (some 26) (.bs 47 2 #[(i 0),(.string ⟨#[]⟩),(i 0),(.slice none 0 0),(.slice none 0 0),(.slice none 0 0),(.slice none 0 0),(i 0),(.string ⟨#[]⟩),(i 0),(.slice none 0 0),(.slice none 0 0),(.slice none 0 0),(.slice none 0 0)] [(0,7,(.t 20)),(7,7,(.t 25))]) [] <| r 7 27 (.bd #[(i 0),(.string ⟨#[]⟩),(i 0),(.slice none 0 0),(.slice none 0 0),(.slice none 0 0),(.slice none 0 0)] [(0,1,(k 5)),(4,1,(.t 26))]) <| .e 9 none none (.st 7 (.t 6) (.t 27)) [] <| .nil)) 8 (some 6) (.al 47 (.agg #[(i 0),(.string ⟨#[]⟩),(i 0),(.slice none 0 0),(.slice none 0 0),(.slice none 0 0),(.slice none 0 0)])) [0,4]
   (.e 5 none (some 25) (.call 15 [(.t 24)]) [0] <| .e 6 none (some 26) (.bs 47 2 #[(i 0),(.string ⟨#[]⟩),(i 0),(.slice none 0 0),(.slice none 0 0),(.slice none 0 0),(.slice none 0 0),(i 0),(.string ⟨#[]⟩),(i 0),(.slice none 0 0),(.slice none 0 0),(.slice none 0 0),(.slice none 0 0)] [(0,7,(.t 20)),(7,7,(.t 25))]) [] <| r 7 27 (.bd #[(i 0),(.string ⟨#[]⟩),(i 0),(.slice none 0 0),(.slice none 0 0),(.slice none 0 0),(.slice none 0 0)] [(0,1,(k 5)),(4,1,(.t 26))]) <| .e 9 none none (.st 7 (.t 6) (.t 27)) [] <| .nil)) [0,2,3,4,6]) <| q [ln 28 7 6,ln 29 7 3,.e (some 30) (.bs 47 2 #[(i 0),(.string ⟨#[]⟩),(i 0),(.slice none 0 0),(.slice none 0 0),(.slice none 0 0),(.slice none 0 0),(i 0),(.string ⟨#[]⟩),(i 0),(.slice none 0 0),(.slice none 0 0),(.slice none 0 0),(.slice none 0 0)] [(0,7,(.t 28)),(7,7,(.t 29))]),.r (some 31) (.bd #[(i 0),(.string ⟨#[]⟩),(i 0),(.slice none 0 0),(.slice none 0 0),(.slice none 0 0),(.slice none 0 0)] [(0,1,(k 5)),(4,1,(.t 30))]),s 7 3 31] [0,2,3,4])) <| q [bk 16 .sub 4 1,m 4 16] [0,2,3,4]
def HP:IR:=z [.e (some 2) (.al 47 (.agg #[(i 0),(.string ⟨#[]⟩),(i 0),(.slice none 0 0),(.slice none 0 0),(.slice none 0 0),(.slice none 0 0)]))] [0,2] <| z [c 7 13 [],.e (some 8) (.bs 42 1 #[(i 0),(.string ⟨#[]⟩),(.slice none 0 0)] [(0,3,(.t 7))]),.r (some 9) (.bd #[(i 0),(.string ⟨#[]⟩),(i 0),(.slice none 0 0),(.slice none 0 0),(.slice none 0 0),(.slice none 0 0)] [(0,1,(k 4)),(1,1,(.c (.string ⟨#[78,105,108]⟩))),(3,1,(.t 8))]),.e (some 3) (.al 47 (.agg #[(i 0),(.string ⟨#[]⟩),(i 0),(.slice none 0 0),(.slice none 0 0),(.slice none 0 0),(.slice none 0 0)])),s 7 3 9] [0,2,3] <| .seq (z [le 11 0,bk 12 .sub 11 1,m 4 12] [0,2,3,4] <| .block 0 (.loop OS)) <| z [ln 32 7 3,s 7 2 32] [2] <| .ret
theorem YA:Fits Tryz.prog 19 1 (bu Tryz.f19 HP) HP [.n 2 7] 33:=.m Tryz.f19 _
def OT:IR:=.seq (z [le 10 0,bi 11 .lss 7 10,m' 11 true 13 1,dK 11 true 14 .geq 13 0,a 15 11 14] [0,1,2,7,15] <| j 15 (.skip) ((.exit 0))) <| .seq (.block 1 (q [ia 20 3 0 7,ln 21 3 20,c 24 21 [21,1,2],m 1 24] [0,1,2,7])) <| q [bk 17 .add 7 1,m 7 17] [0,1,2,7]
def HQ:IR:=z [] [0,1,2] <| .seq (z [mk 7 0] [0,1,2,7] <| .block 0 (.loop OT)) <| z [m 6 1] [6] <| .ret
theorem YB:Fits Tryz.prog 20 3 (bu Tryz.f20 HQ) HQ [.t 6] 26:=.m Tryz.f20 _
def OU:IR:=.seq (z [f 13 2 3,l 14 13,le 15 14,bi 16 .lss 7 15,m' 16 true 18 1,dK 16 true 19 .geq 18 0,a 20 16 19] [1,2,3,7,20] <| j 20 (.skip) ((.exit 0))) <| .seq (.block 1 (q [f 23 2 3,l 24 23,ia 26 3 24 7,ln 27 3 26,bk 30 .sub 2 1,c 31 21 [27,1,30],m 1 31] [1,2,3,7])) <| q [bk 22 .add 7 1,m 7 22] [1,2,3,7]
def HR:IR:=z [.e (some 3) (.bx 42 (.t 0))] [1,2,3] <| .seq (z [bk 9 .lss 2 1] [1,2,3,9] <| j 9 (z [mk 6 (-1)] [6] <| .ret) (.skip)) <| z [bk 11 .sub 1 1,m 1 11] [1,2,3] <| .seq (z [mk 7 0] [1,2,3,7] <| .block 0 (.loop OU)) <| z [m 6 1] [6] <| .ret
theorem YC:Fits Tryz.prog 21 3 (bu Tryz.f21 HR) HR [.t 6] 33:=.m Tryz.f21 _
def OV:IR:=.seq (z [f 19 4 3,l 20 19,le 21 20,bi 22 .lss 7 21,m' 22 true 24 1,dK 22 true 25 .geq 24 0,a 26 22 25] [1,2,3,7,26] <| j 26 (.skip) ((.exit 0))) <| .seq (.block 1 (q [f 29 4 3,l 30 29,ia 32 7 30 7,ln 33 7 32,bk 36 .sub 2 1,c 37 22 [33,1,36],m 1 37] [1,2,3,7])) <| q [bk 28 .add 7 1,m 7 28] [1,2,3,7]
def OW:IR:=.seq (z [f 45 6 3,l 46 45,le 47 46,bi 48 .lss 8 47,m' 48 true 50 1,dK 48 true 51 .geq 50 0,a 52 48 51] [1,2,3,8,52] <| j 52 (.skip) ((.exit 2))) <| .seq (.block 3 (q [f 55 6 3,l 56 55,ia 58 11 56 8,f 59 4 58,ln 60 7 59,bk 63 .sub 2 1,c 64 22 [60,1,63],m 1 64] [1,2,3,8])) <| q [bk 54 .add 8 1,m 8 54] [1,2,3,8]
def HS:IR:=z [.e (some 3) (.bx 47 (.t 0))] [1,2,3] <| .seq (z [bk 10 .lss 2 1] [1,2,3,10] <| j 10 (z [mk 6 (-1)] [6] <| .ret) (.skip)) <| z [f 11 3 3,l 12 11,bk 14 .sub 1 1,bk 16 .sub 2 1,c 17 20 [12,14,16],m 1 17] [1,2,3] <| .seq (z [mk 7 0] [1,2,3,7] <| .block 0 (.loop OV)) <| z [f 38 5 3,l 39 38,bk 42 .sub 2 1,c 43 32 [39,1,42],m 1 43] [1,2,3] <| .seq (z [mk 8 0] [1,2,3,8] <| .block 2 (.loop OW)) <| z [m 6 1] [6] <| .ret
theorem YD:Fits Tryz.prog 22 3 (bu Tryz.f22 HS) HS [.t 6] 66:=.m Tryz.f22 _
def HT:IR:=z [.e (some 2) (.bx 42 (.t 0)),.e (some 3) (.bx 47 (.t 1)),.e (some 4) (.al 25 (.agg #[(.slice none 0 0),(.slice none 0 0)]))] [2,3,4] <| z [ln 5 3 2,ln 6 7 3,.r (some 7) (.bd #[(.string ⟨#[]⟩),(.slice none 0 0),(i 0),(.string ⟨#[]⟩),(.slice none 0 0),(i 0),(.string ⟨#[]⟩),(i 0),(.slice none 0 0),(.slice none 0 0),(.slice none 0 0),(.slice none 0 0)] [(0,1,(.c (.string ⟨#[109]⟩))),(2,3,(.t 5)),(5,7,(.t 6))]),.e (some 8) (.bs 49 1 #[(.string ⟨#[]⟩),(.slice none 0 0),(i 0),(.string ⟨#[]⟩),(.slice none 0 0),(i 0),(.string ⟨#[]⟩),(i 0),(.slice none 0 0),(.slice none 0 0),(.slice none 0 0),(.slice none 0 0)] [(0,12,(.t 7))]),.r (some 9) (.bd #[(.slice none 0 0),(.slice none 0 0)] [(1,1,(.t 8))]),s 2 4 9] [4] <| .ret
theorem YE:Fits Tryz.prog 23 2 (bu Tryz.f23 HT) HT [.n 4 2] 10:=.m Tryz.f23 _
def OX:IR:=z [bi 14 .lss 13 12] [1,2,11,12,13,14] <| .seq (j 14 (.skip) ((.exit 0))) <| .seq (.block 1 (z [ia 15 12 11 13,ln 16 12 15,.e (some 7) (.al 49 (.agg #[(.string ⟨#[]⟩),(.slice none 0 0),(i 0),(.string ⟨#[]⟩),(.slice none 0 0),(i 0),(.string ⟨#[]⟩),(i 0),(.slice none 0 0),(.slice none 0 0),(.slice none 0 0),(.slice none 0 0)])),s 12 7 16] [1,2,7,11,12,13] <| .seq (z [f 17 0 7,l 18 17,bi 20 .neq 18 1] [1,2,7,11,12,13,20] <| j 20 ((.exit 1)) (.skip)) <| .seq (z [f 21 1 7,l 22 21,le 23 22,bk 24 .gtr 23 0] [2,7,24] <| j 24 (z [.r (some 4) (.mv (.c (.bool false))),.r (some 5) (.mv (.c (.bool false)))] [4,5] <| .ret) (.skip)) <| z [f 25 2 7,ln 26 3 25,.e (some 8) (.al 42 (.agg #[(i 0),(.string ⟨#[]⟩),(.slice none 0 0)])),s 3 8 26,.r (some 9) (.mv (.c (.bool false)))] [2,8,9] <| .seq (z [f 27 0 8,l 28 27,bk 29 .eql 28 3,f' 29 true 31 2 8,l' 29 true 32 31,.gr 29 true (some 33) (.ia 3 (.t 32) (k 0)),tZ 29 true 34 3 33,.ge 29 true (some 35) (.call 33 [(.t 34)]),a 36 29 35] [2,8,9,36] <| j 36 (q [f 37 2 8,l 38 37,.r (some 39) (.ia 3 (.t 38) (k 1)),ln 40 3 39,s 3 8 40,.r (some 9) (.mv (.c (.bool true)))] [2,8,9]) (.skip)) <| z [m 41 9,ln 42 2 2,ln 43 3 8,.e (some 44) (.raw ⟨(some 44),(.makeMap 90 none),90, "meaning.go:53",#[],none⟩),c 45 34 [42,43,44],m 4 41,m 5 45] [4,5] <| .ret)) <| q [bk 46 .add 13 1,m 13 46] [1,2,11,12,13]
def HU:IR:=z [.e (some 2) (.bx 25 (.t 0))] [1,2] <| .seq (z [f 10 1 2,l 11 10,le 12 11,mk 13 0] [1,2,11,12,13] <| .block 0 (.loop OX)) <| z [.r (some 4) (.mv (.c (.bool false))),.r (some 5) (.mv (.c (.bool false)))] [4,5] <| .ret
theorem YF:Fits Tryz.prog 24 2 (bu Tryz.f24 HU) HU [.t 4,.t 5] 47:=.m Tryz.f24 _
def OY:IR:=z [bi 21 .lss 20 19] [2,5,19,20,21] <| .seq (j 21 (.skip) ((.exit 0))) <| .seq (.block 1 (z [m 6 20] [2,5,6,19,20] <| .dr (r 0 23 (.mv (.t 5)) <| r 1 24 (.nn (.t 23)) <| r 2 25 (.fa 9 (.t 24)) <| r 3 26 (.l1 (.t 25)) <| r 4 27 (.fa 1 (.t 2)) <| r 5 28 (.l1 (.t 27)) <| r 6 29 (.mv (.t 6)) <| r 7 30 (.ia 12 (.t 28) (.t 29)) <| r 8 31 (.fa 0 (.t 30)) <| r 9 32 (.l1 (.t 31)) <| r 10 33 (.fa 1 (.t 2)) <| r 11 34 (.l1 (.t 33)) <| r 12 35 (.mv (.t 6)) <| r 13 36 (.ia 12 (.t 34) (.t 35)) <| r 14 37 (.fa 5 (.t 36)) <| r 15 38 (.bd #[(.pointer none),(.pointer none)] [(0,1,(.t 37))]) <| .e 16 none (some 39) (.bx 108 (.t 38)) [3,5,9] <| r 17 40 (.mi 105 (.t 39)) <| r 18 41 (.bd #[.nilIface] [(0,1,(.t 40))]) <| .e 19 none (some 42) (.bx 87 (.t 41)) [3,5,9] <| .e 20 none none (.raw ⟨none,(.mapUpdate 89 (.tmp 26) (.tmp 32) (.tmp 42)),0, "run.go:98",#[⟨3,.data⟩,⟨9,.data⟩,⟨19,.data⟩,⟨0,.phase⟩,⟨1,.phase⟩,⟨2,.phase⟩,⟨3,.phase⟩,⟨4,.phase⟩,⟨5,.phase⟩,⟨6,.phase⟩,⟨7,.phase⟩,⟨8,.phase⟩,⟨9,.phase⟩,⟨10,.phase⟩,⟨11,.phase⟩,⟨12,.phase⟩,⟨13,.phase⟩,⟨14,.phase⟩,⟨15,.phase⟩,⟨16,.phase⟩,⟨17,.phase⟩,⟨18,.phase⟩,⟨19,.phase⟩],none⟩) [] <| .nil) [2,5,19,20])) <| q [bk 43 .add 20 1,m 20 43] [2,5,19,20]
def OZ:IR:=z [bi 55 .lss 54 53] [5,45,46,47,52,53,54,55] <| .seq (j 55 (.skip) ((.exit 4))) <| .seq (.block 5 (z [ia 56 2 52 54,ln 57 2 56,.e (some 10) (.al 66 (.agg #[(.string ⟨#[]⟩),(.slice none 0 0)])),s 2 10 57] [5,10,45,46,47,52,53,54] <| q' [m 58 5,n 59 58,f 60 10 59,l 61 60,f 62 0 10,l 63 62,f 64 1 10,l 65 64,le 66 65,.e none (.raw ⟨none,(.mapUpdate 90 (.tmp 61) (.tmp 63) (.tmp 66)),0, "run.go:102",#[⟨3,.data⟩,⟨5,.data⟩,⟨8,.data⟩,⟨0,.phase⟩,⟨1,.phase⟩,⟨2,.phase⟩,⟨3,.phase⟩,⟨4,.phase⟩,⟨5,.phase⟩,⟨6,.phase⟩,⟨7,.phase⟩,⟨8,.phase⟩],none⟩)] [5,45,46,47,52,53,54])) <| q [bk 67 .add 54 1,m 54 67] [5,45,46,47,52,53,54]
def O0:IR:=z [bi 48 .lss 47 46] [5,45,46,47,48] <| .seq (j 48 (.skip) ((.exit 2))) <| .seq (.block 3 (z [ia 49 3 45 47,ln 50 3 49,.e (some 8) (.al 63 (.agg #[(.string ⟨#[]⟩),(.slice none 0 0),(.slice none 0 0)])),s 3 8 50] [5,8,45,46,47] <| z [f 51 2 8,l 52 51,le 53 52,mk 54 0] [5,45,46,47,52,53,54] <| .block 4 (.loop OZ))) <| q [bk 68 .add 47 1,m 47 68] [5,45,46,47]
def HV:IR:=z [.e (some 2) (.bx 25 (.t 0))] [1,2] <| z [m 11 1,.e (some 12) (.raw ⟨(some 12),(.makeMap 89 none),89, "run.go:96",#[],none⟩),.e (some 13) (.raw ⟨(some 13),(.makeMap 90 none),90, "run.go:96",#[],none⟩),.e none (.raw ⟨none,(.insert 90 (.tmp 13) (.const (.string ⟨#[67,111,110,115]⟩)) (.const (i 2))),0, "run.go:96",#[⟨2,.data⟩],none⟩),.e none (.raw ⟨none,(.insert 90 (.tmp 13) (.const (.string ⟨#[80,97,105,114]⟩)) (.const (i 2))),0, "run.go:96",#[⟨2,.data⟩],none⟩),.e none (.raw ⟨none,(.insert 90 (.tmp 13) (.const (.string ⟨#[84,114,105,112,108,101]⟩)) (.const (i 3))),0, "run.go:96",#[⟨2,.data⟩],none⟩),m 14 13,.r (some 15) (.bd #[(i 0),(.slice none 0 0),(i 0),(i 0),(i 0),(i 0),(i 0),(.string ⟨#[]⟩),(i 0),(.map none),(.map none),(.slice none 0 0)] [(8,1,(.t 11)),(9,1,(.t 12)),(10,1,(.t 14))]),.e (some 16) (.bx 93 (.t 15)),m 5 16] [2,5] <| .seq (z [f 17 1 2,l 18 17,le 19 18,mk 20 0] [2,5,19,20] <| .block 0 (.loop OY)) <| .seq (z [f 44 0 2,l 45 44,le 46 45,mk 47 0] [5,45,46,47] <| .block 2 (.loop O0)) <| z [m 4 5] [4] <| .ret
theorem YG:Fits Tryz.prog 25 2 (bu Tryz.f25 HV) HV [.t 4] 70:=.m Tryz.f25 _
def HW:IR:=z [] [0,1,2] <| z [c 11 35 [0,1,2],ex 12 0 11,ex 13 1 11,m 6 12,m 7 13] [6,7] <| .ret
theorem YH:Fits Tryz.prog 26 3 (bu Tryz.f26 HW) HW [.t 6,.t 7] 14:=.m Tryz.f26 _
def HX:IR:=z [] [0,1,2] <| z [c 16 36 [0,1,2],ex 17 0 16,ex 18 1 16,ex 19 2 16,ex 20 3 16,m 8 17,m 9 18,m 10 19,m 11 20] [0,8,9,10,11] <| .seq (z [no 22 11,m' 22 false 24 8,.gr 22 false (some 25) (.eq .ptr false (.t 24) (.c (.pointer none))),u 26 22 25] [0,8,9,10,11,26] <| j 26 (z [m 6 10,m 7 11] [6,7] <| .ret) (.skip)) <| z [c 32 35 [0,8,9],ex 33 0 32,ex 34 1 32,m 6 33,m 7 34] [6,7] <| .ret
theorem YI:Fits Tryz.prog 27 3 (bu Tryz.f27 HX) HX [.t 6,.t 7] 35:=.m Tryz.f27 _
def O1:IR:=.seq (z [bk 12 .geq 4 0] [0,3,4,12] <| j 12 (.skip) ((.exit 0))) <| .seq (.block 1 (q [ia 17 1 0 4,l 18 17,.r (some 19) (.mi 115 (.t 18)),.r (some 20) (.bd #[.nilIface] [(0,1,(.t 19))]),.e (some 21) (.bx 87 (.t 20)),.r (some 23) (.bd #[.nilIface] [(0,1,(.t 3))]),.e (some 24) (.bx 87 (.t 23)),.e (some 25) (.bs 82 2 #[(.pointer none),(.pointer none)] [(0,1,(.t 21)),(1,1,(.t 24))]),.r (some 26) (.bd #[(.string ⟨#[]⟩),(.slice none 0 0)] [(0,1,(.c (.string ⟨#[67,111,110,115]⟩))),(1,1,(.t 25))]),.e (some 27) (.bx 114 (.t 26)),.r (some 28) (.mi 111 (.t 27)),m 3 28] [0,3,4])) <| q [bk 14 .sub 4 1,m 4 14] [0,3,4]
def HY:IR:=z [] [0] <| z [.r (some 5) (.bd #[(.string ⟨#[]⟩),(.slice none 0 0)] [(0,1,(.c (.string ⟨#[78,105,108]⟩)))]),.e (some 6) (.bx 114 (.t 5)),.r (some 7) (.mi 111 (.t 6)),m 3 7] [0,3] <| .seq (z [le 9 0,bk 10 .sub 9 1,m 4 10] [0,3,4] <| .block 0 (.loop O1)) <| z [m 2 3] [2] <| .ret
theorem YJ:Fits Tryz.prog 28 1 (bu Tryz.f28 HY) HY [.t 2] 30:=.m Tryz.f28 _
def O2:IR:=.seq (z [bk 57 .geq 7 0] [0,4,6,7,57] <| j 57 (.skip) ((.exit 3))) <| .seq (.block 4 (q [n 62 6,f 63 1 62,l 64 63,ia 66 1 64 7,l 67 66,.e (some 68) (.bs 82 1 #[(.pointer none)] [(0,1,(.t 67))]),.e (some 69) (.ap 82 1 8 #[(.pointer none)] (.t 4) (.t 68)),m 4 69] [0,4,6,7])) <| q [bk 59 .sub 7 1,m 7 59] [0,4,6,7]
def O3:IR:=.block 1 (.seq (z [c 12 37 [0],no 13 12] [0,1,4,13] <| j 13 (.ret) (.skip)) <| .seq (z [m 14 1] [0,4,14] <| .block 2 (z [.e (some 15) (.raw ⟨(some 15),(.typeAssert (.tmp 14) 77 115 true),0, "meaning.go:108",#[],none⟩),ex 16 1 15,ex 17 0 15] [0,4,14,16,17] <| j 16 (z [m 5 17] [0,4,5] <| q [n 20 0,f 21 0 20,f 22 1 21,l 23 22,.r (some 25) (.bd #[(.string ⟨#[]⟩),(i 0)] [(1,1,(.t 5))]),.e (some 26) (.bs 71 1 #[(.string ⟨#[]⟩),(i 0)] [(0,2,(.t 25))]),.e (some 27) (.ap 71 2 24 #[(.string ⟨#[]⟩),(i 0)] (.t 23) (.t 26)),n 28 0,f 29 0 28,f 30 1 29,s 1 30 27] [0,4]) (z [.e (some 31) (.raw ⟨(some 31),(.typeAssert (.tmp 14) 77 111 true),0, "meaning.go:108",#[],none⟩),ex 32 1 31,ex 33 0 31] [0,4,32,33] <| j 32 (z [m 6 33] [0,4,6] <| .seq (.dr (r 0 34 (.mv (.t 0)) <| r 1 35 (.mv (.t 0)) <| r 2 36 (.nn (.t 35)) <| r 3 37 (.fa 0 (.t 36)) <| r 4 38 (.fa 1 (.t 37)) <| r 5 39 (.l1 (.t 38)) <| r 6 40 (.mv (.t 6)) <| r 7 41 (.nn (.t 40)) <| r 8 42 (.fa 0 (.t 41)) <| r 9 43 (.l1 (.t 42)) <| r 10 44 (.bd #[(.string ⟨#[]⟩),(i 0)] [(0,1,(.t 43))]) <| .e 11 none (some 45) (.bs 71 1 #[(.string ⟨#[]⟩),(i 0)] [(0,2,(.t 44))]) [5] <| .e 12 none (some 46) (.ap 71 2 24 #[(.string ⟨#[]⟩),(i 0)] (.t 39) (.t 45)) [] <| r 13 47 (.nn (.t 34)) <| r 14 48 (.fa 0 (.t 47)) <| r 15 49 (.fa 1 (.t 48)) <| .e 16 none none (.st 1 (.t 49) (.t 46)) [] <| .nil) [0,4,6]) <| z [n 51 6,f 52 1 51,l 53 52,le 54 53,bk 55 .sub 54 1,m 7 55] [0,4,6,7] <| .block 3 (.loop O2)) (.skip)))) <| .seq (z [le 71 4,bk 72 .eql 71 0] [0,4,72] <| j 72 (z [n 74 0,f 75 0 74,f 76 0 75,.e none (.st 1 (.t 76) (k 2))] [] <| .ret) (.skip)) <| z [le 79 4,bk 80 .sub 79 1,ia 81 1 4 80,l 82 81,m 8 82] [0,4,8] <| z [le 85 4,bk 86 .sub 85 1,.r (some 87) (.sl 1 (.t 4) none (some (.t 86)) none),m 4 87] [0,4,8] <| z [c 91 38 [0,8],ex 92 0 91,ex 93 1 91,m 9 92,m 10 93] [0,4,9,10] <| .seq (z [no 95 10] [0,4,9,95] <| j 95 (.ret) (.skip)) <| q [m 1 9] [0,1,4])
def HZ:IR:=z [.r (some 4) (.mv (.c (.slice none 0 0)))] [0,1,4] <| .block 0 (.loop O3)
theorem YK:Fits Tryz.prog 29 2 (bu Tryz.f29 HZ) HZ [] 97:=.m Tryz.f29 _
def H0:IR:=z [.e (some 2) (.bx 34 (.t 0)),.e (some 3) (.bx 34 (.t 1))] [2,3] <| z [ln 6 8 2,ln 7 8 3,c 8 10 [6,7],m 5 8] [2,3,5] <| z [f' 5 true 11 1 2,l' 5 true 12 11,kY 5 true 13 12,f' 5 true 14 1 3,l' 5 true 15 14,kY 5 true 16 15,mN 5 true 17 .eql 13 16,a 18 5 17,m 4 18] [4] <| .ret
theorem YL:Fits Tryz.prog 30 2 (bu Tryz.f30 H0) H0 [.t 4] 19:=.m Tryz.f30 _
def YM:IR:=z [bi 25 .lss 24 23] [1,22,23,24,25] <| .seq (j 25 (.skip) ((.exit 0))) <| .seq (.block 1 (z [ia 26 12 22 24,ln 27 12 26,.e (some 5) (.al 49 (.agg #[(.string ⟨#[]⟩),(.slice none 0 0),(i 0),(.string ⟨#[]⟩),(.slice none 0 0),(i 0),(.string ⟨#[]⟩),(i 0),(.slice none 0 0),(.slice none 0 0),(.slice none 0 0),(.slice none 0 0)])),s 12 5 27] [1,5,22,23,24] <| z [f 28 5 5,ln 29 7 28,c 30 40 [29],bk 31 .gtr 30 4000] [1,22,23,24,31] <| j 31 (z [.r (some 2) (.mv (.c (.pointer none))),mk 3 3] [2,3] <| .ret) (.skip))) <| q [bk 32 .add 24 1,m 24 32] [1,22,23,24]
def YN:IR:=z [bi 72 .lss 71 70] [1,6,8,9,42,43,44,69,70,71,72] <| .seq (j 72 (.skip) ((.exit 4))) <| .seq (.block 5 (z [ia 73 1 69 71,l 74 73,m 13 74] [1,6,8,9,13,42,43,44,69,70,71] <| .seq (z [m 75 13,c 76 45 [75],no 77 76,m 78 77,m' 78 false 79 6,n' 78 false 80 79,f' 78 false 81 3 80,l' 78 false 82 81,m' 78 false 83 13,.ge 78 false (some 84) (.raw ⟨(some 84),(.lookup 90 (.tmp 82) (.tmp 83) false),3, "check.go:147",#[⟨7,.data⟩,⟨8,.data⟩,⟨3,.guard⟩],some (3,false)⟩),dK 78 false 85 .gtr 84 0,u 86 78 85] [1,6,8,9,13,42,43,44,69,70,71,86] <| j 86 (z [.r (some 2) (.mv (.c (.pointer none))),mk 3 82] [2,3] <| .ret) (.skip)) <| q [m 87 6,n 88 87,f 89 3 88,l 90 89,m 91 13,.e none (.raw ⟨none,(.mapUpdate 90 (.tmp 90) (.tmp 91) (.const (i 1))),0, "check.go:150",#[⟨3,.data⟩,⟨4,.data⟩,⟨0,.phase⟩,⟨1,.phase⟩,⟨2,.phase⟩,⟨3,.phase⟩,⟨4,.phase⟩],none⟩)] [1,6,8,9,42,43,44,69,70,71])) <| q [bk 92 .add 71 1,m 71 92] [1,6,8,9,42,43,44,69,70,71]
def YO:IR:=z [bi 45 .lss 44 43] [1,6,42,43,44,45] <| .seq (j 45 (.skip) ((.exit 2))) <| .seq (.block 3 (z [ia 47 12 42 44,ln 48 12 47,.e (some 9) (.al 49 (.agg #[(.string ⟨#[]⟩),(.slice none 0 0),(i 0),(.string ⟨#[]⟩),(.slice none 0 0),(i 0),(.string ⟨#[]⟩),(i 0),(.slice none 0 0),(.slice none 0 0),(.slice none 0 0),(.slice none 0 0)])),m 8 44,s 12 9 48] [1,6,8,9,42,43,44] <| z [.e (some 50) (.call 43 [(.t 6),(.c (.slice none 0 0))])] [1,6,8,9,42,43,44] <| .seq (.seq (q' [m 52 6,n 53 52,f 54 2 53,l 55 54,f 56 0 9,l 57 56,.e (some 58) (.raw ⟨(some 58),(.lookup 126 (.tmp 55) (.tmp 57) true),123, "check.go:143",#[⟨3,.data⟩,⟨5,.data⟩],none⟩),m 51 58,ex 59 0 51,ex 60 1 51,m 10 59,m 11 60] [1,6,8,9,11,42,43,44]) <| z [f' 11 false 63 0 9,l' 11 false 64 63,.ge 11 false (some 65) (.call 44 [(.t 64)]),xN 11 false 66 65,u 67 11 66] [1,6,8,9,42,43,44,67] <| j 67 (z [.r (some 2) (.mv (.c (.pointer none))),mk 3 82] [2,3] <| .ret) (.skip)) <| .seq (z [f 68 1 9,l 69 68,le 70 69,mk 71 0] [1,6,8,9,42,43,44,69,70,71] <| .block 4 (.loop YN)) <| .seq (z [f 94 2 9,ln 95 3 94,c 96 46 [6,95],no 97 96] [1,6,8,9,42,43,44,97] <| j 97 (z [.r (some 2) (.mv (.c (.pointer none))),mk 3 83] [2,3] <| .ret) (.skip)) <| q' [m 98 6,n 99 98,f 100 2 99,l 101 100,f 102 0 9,l 103 102,f 104 1 1,l 105 104,m 106 8,ia 107 12 105 106,.e none (.raw ⟨none,(.mapUpdate 126 (.tmp 101) (.tmp 103) (.tmp 107)),0, "check.go:155",#[⟨3,.data⟩,⟨5,.data⟩,⟨9,.data⟩,⟨0,.phase⟩,⟨1,.phase⟩,⟨2,.phase⟩,⟨3,.phase⟩,⟨4,.phase⟩,⟨5,.phase⟩,⟨6,.phase⟩,⟨7,.phase⟩,⟨8,.phase⟩,⟨9,.phase⟩],none⟩)] [1,6,42,43,44])) <| q [bk 108 .add 44 1,m 44 108] [1,6,42,43,44]
def YP:IR:=z [bi 113 .lss 112 111] [6,110,111,112,113] <| .seq (j 113 (.skip) ((.exit 6))) <| .seq (.block 7 (z [ia 114 12 110 112,ln 115 12 114,.e (some 15) (.al 49 (.agg #[(.string ⟨#[]⟩),(.slice none 0 0),(i 0),(.string ⟨#[]⟩),(.slice none 0 0),(i 0),(.string ⟨#[]⟩),(i 0),(.slice none 0 0),(.slice none 0 0),(.slice none 0 0),(.slice none 0 0)])),s 12 15 115] [6,15,110,111,112] <| z [f 117 1 15,l 118 117,c 119 43 [6,118]] [6,15,110,111,112] <| z [f 122 5 15,ln 123 7 122,c 124 47 [6,123],ex 125 0 124,ex 126 1 124,.e (some 16) (.al 42 (.agg #[(i 0),(.string ⟨#[]⟩),(.slice none 0 0)])),s 3 16 125,m 17 126] [6,15,16,17,110,111,112] <| .seq (z [bk 128 .neq 17 0] [6,15,16,17,110,111,112,128] <| j 128 (z [.r (some 2) (.mv (.c (.pointer none))),m 3 17] [2,3] <| .ret) (.skip)) <| z [ln 130 3 16,f 131 2 15,ln 132 3 131,c 133 48 [130,132],no 134 133] [6,110,111,112,134] <| j 134 (z [.r (some 2) (.mv (.c (.pointer none))),mk 3 83] [2,3] <| .ret) (.skip))) <| q [bk 135 .add 112 1,m 112 135] [6,110,111,112]
def H2:IR:=z [.e (some 1) (.bx 25 (.t 0))] [1] <| .seq (z [ln 18 2 1,c 19 39 [18],bk 20 .gtr 19 100000] [1,20] <| j 20 (z [.r (some 2) (.mv (.c (.pointer none))),mk 3 4] [2,3] <| .ret) (.skip)) <| .seq (z [f 21 1 1,l 22 21,le 23 22,mk 24 0] [1,22,23,24] <| .block 0 (.loop YM)) <| z [c 33 41 [],m 6 33] [1,6] <| .seq (z [f 35 0 1,l 36 35,c 37 42 [6,36],m 7 37] [1,6,7] <| z [bk 39 .neq 7 0] [1,6,7,39] <| j 39 (z [.r (some 2) (.mv (.c (.pointer none))),m 3 7] [2,3] <| .ret) (.skip)) <| .seq (z [f 41 1 1,l 42 41,le 43 42,mk 44 0] [1,6,42,43,44] <| .block 2 (.loop YO)) <| .seq (z [f 109 1 1,l 110 109,le 111 110,mk 112 0] [6,110,111,112] <| .block 6 (.loop YP)) <| z [m 2 6,mk 3 0] [2,3] <| .ret
theorem YQ:Fits Tryz.prog 31 1 (bu Tryz.f31 H2) H2 [.t 2,.t 3] 137:=.m Tryz.f31 _
def O4:IR:=.seq (z [le 10 0,bi 11 .lss 7 10,m' 11 true 13 1,dK 11 true 14 .geq 13 0,a 15 11 14] [0,1,2,7,15] <| j 15 (.skip) ((.exit 0))) <| .seq (.block 1 (z [ia 20 11 0 7,f 21 1 20,ln 22 3 21,c 25 21 [22,1,2],m 1 25] [0,1,2,7] <| z [bk 27 .geq 1 0] [0,1,2,7,27] <| j 27 (q [ia 30 11 0 7,f 31 4 30,ln 32 7 31,c 35 22 [32,1,2],m 1 35] [0,1,2,7]) (.skip))) <| q [bk 17 .add 7 1,m 7 17] [0,1,2,7]
def H3:IR:=z [] [0,1,2] <| .seq (z [mk 7 0] [0,1,2,7] <| .block 0 (.loop O4)) <| z [m 6 1] [6] <| .ret
theorem YR:Fits Tryz.prog 32 3 (bu Tryz.f32 H3) H3 [.t 6] 37:=.m Tryz.f32 _
def H4:IR:=z [.e (some 1) (.bx 42 (.t 0))] [1] <| z [f 3 0 1,l 4 3,bk 5 .eql 4 4,f' 5 true 7 1 1,l' 5 true 8 7,.gr 5 true (some 9) (.bi .eql (.t 8) (.c (.string ⟨#[76,105,115,116]⟩))),a 10 5 9,f' 10 true 12 2 1,l' 10 true 13 12,.gr 10 true (some 14) (.ia 3 (.t 13) (k 0)),f' 10 true 15 0 14,l' 10 true 16 15,dK 10 true 17 .eql 16 1,a 18 10 17,m 2 18] [2] <| .ret
theorem YS:Fits Tryz.prog 33 1 (bu Tryz.f33 H4) H4 [.t 2] 19:=.m Tryz.f33 _
def O5:IR:=z [bi 22 .lss 21 20] [2,3,4,19,20,21,22] <| .seq (j 22 (.skip) ((.exit 0))) <| .seq (.block 1 (z [ia 23 3 19 21,ln 24 3 23,.e (some 8) (.al 42 (.agg #[(i 0),(.string ⟨#[]⟩),(.slice none 0 0)])),s 3 8 24] [2,3,4,8,19,20,21] <| z [ln 25 2 3,ln 26 3 8,c 28 34 [25,26,2],no 29 28] [2,3,4,19,20,21,29] <| j 29 (z [.r (some 6) (.mv (.c (.bool false)))] [6] <| .ret) (.skip))) <| q [bk 30 .add 21 1,m 21 30] [2,3,4,19,20,21]
def O6:IR:=z [bi 67 .lss 66 65] [2,3,4,45,46,47,57,58,59,64,65,66,67] <| .seq (j 67 (.skip) ((.exit 6))) <| .seq (.block 7 (z [ia 68 3 64 66,ln 69 3 68,.e (some 14) (.al 42 (.agg #[(i 0),(.string ⟨#[]⟩),(.slice none 0 0)])),s 3 14 69] [2,3,4,14,45,46,47,57,58,59,64,65,66] <| z [ln 70 2 3,ln 71 3 14,c 73 34 [70,71,2],no 74 73] [2,3,4,45,46,47,57,58,59,64,65,66,74] <| j 74 (z [.r (some 6) (.mv (.c (.bool false)))] [6] <| .ret) (.skip))) <| q [bk 75 .add 66 1,m 66 75] [2,3,4,45,46,47,57,58,59,64,65,66]
def O7:IR:=z [bi 60 .lss 59 58] [2,3,4,45,46,47,57,58,59,60] <| .seq (j 60 (.skip) ((.exit 4))) <| .seq (.block 5 (z [ia 61 2 57 59,ln 62 2 61,.e (some 12) (.al 66 (.agg #[(.string ⟨#[]⟩),(.slice none 0 0)])),s 2 12 62] [2,3,4,12,45,46,47,57,58,59] <| z [f 63 1 12,l 64 63,le 65 64,mk 66 0] [2,3,4,45,46,47,57,58,59,64,65,66] <| .block 6 (.loop O6))) <| q [bk 76 .add 59 1,m 59 76] [2,3,4,45,46,47,57,58,59]
def O8:IR:=z [bi 48 .lss 47 46] [2,3,4,45,46,47,48] <| .seq (j 48 (.skip) ((.exit 2))) <| .seq (.block 3 (z [ia 49 3 45 47,ln 50 3 49,.e (some 10) (.al 63 (.agg #[(.string ⟨#[]⟩),(.slice none 0 0),(.slice none 0 0)])),s 3 10 50] [2,3,4,10,45,46,47] <| .seq (z [f 51 0 10,l 52 51,f 53 1 4,l 54 53,bi 55 .neq 52 54] [2,3,4,10,45,46,47,55] <| j 55 ((.exit 3)) (.skip)) <| z [f 56 2 10,l 57 56,le 58 57,mk 59 0] [2,3,4,45,46,47,57,58,59] <| .block 4 (.loop O7))) <| q [bk 77 .add 47 1,m 47 77] [2,3,4,45,46,47]
def H5:IR:=z [.e (some 3) (.bx 25 (.t 0)),.e (some 4) (.bx 42 (.t 1))] [2,3,4] <| .seq (z [f 15 0 4,l 16 15,bk 17 .eql 16 3] [2,3,4,17] <| j 17 (z [.r (some 6) (.mv (.c (.bool false)))] [6] <| .ret) (.skip)) <| .seq (z [f 18 2 4,l 19 18,le 20 19,mk 21 0] [2,3,4,19,20,21] <| .block 0 (.loop O5)) <| .seq (z [f 31 0 4,l 32 31,bk 33 .neq 32 4,m 34 33,m' 34 false 35 2,f' 34 false 36 1 4,l' 34 false 37 36,.ge 34 false (some 38) (.raw ⟨(some 38),(.lookup 90 (.tmp 35) (.tmp 37) false),3, "meaning.go:73",#[⟨4,.data⟩,⟨6,.data⟩,⟨3,.guard⟩],some (3,false)⟩),dK 34 false 39 .gtr 38 0,u 40 34 39] [2,3,4,40] <| j 40 (z [.r (some 6) (.mv (.c (.bool true)))] [6] <| .ret) (.skip)) <| z [m 41 2,f 42 1 4,l 43 42,.e none (.raw ⟨none,(.mapUpdate 90 (.tmp 41) (.tmp 43) (.const (i 1))),0, "meaning.go:76",#[⟨0,.data⟩,⟨2,.data⟩,⟨0,.phase⟩,⟨1,.phase⟩,⟨2,.phase⟩],none⟩)] [2,3,4] <| .seq (z [f 44 0 3,l 45 44,le 46 45,mk 47 0] [2,3,4,45,46,47] <| .block 2 (.loop O8)) <| z [.r (some 6) (.mv (.c (.bool true)))] [6] <| .ret
theorem YT:Fits Tryz.prog 34 3 (bu Tryz.f34 H5) H5 [.t 6] 78:=.m Tryz.f34 _
def O9:IR:=.block 1 (.seq (z [.r (some 12) (.eq .ptr true (.t 1) (.c (.pointer none)))] [0,1,2,8,12] <| j 12 (.seq (z [c 14 37 [0],no 15 14] [0,1,2,15] <| j 15 (z [.r (some 6) (.mv (.c .nilIface)),.r (some 7) (.mv (.c (.bool false)))] [6,7] <| .ret) (.skip)) <| .seq (z [c 20 49 [0,1,2],ex 21 0 20,ex 22 1 20,ex 23 2 20,ex 24 3 20,m 1 21,m 2 22,m 8 23,m 9 24] [0,1,2,8,9] <| z [no 26 9] [0,1,2,8,26] <| j 26 (z [.r (some 6) (.mv (.c .nilIface)),.r (some 7) (.mv (.c (.bool false)))] [6,7] <| .ret) (.skip)) <| (.exit 1)) (.skip)) <| .seq (z [n 28 0,f 29 11 28,l 30 29,le 31 30,bk 32 .eql 31 0] [0,8,32] <| j 32 (z [m 6 8,.r (some 7) (.mv (.c (.bool true)))] [6,7] <| .ret) (.skip)) <| .seq (.dr (r 0 34 (.mv (.t 0)) <| r 1 35 (.nn (.t 34)) <| r 2 36 (.fa 11 (.t 35)) <| r 3 37 (.l1 (.t 36)) <| r 4 38 (.mv (.t 0)) <| r 5 39 (.nn (.t 38)) <| r 6 40 (.fa 11 (.t 39)) <| r 7 41 (.l1 (.t 40)) <| r 8 42 (.len (.t 41)) <| r 9 43 (.bi .sub (.t 42) (k 1)) <| r 10 44 (.ia 5 (.t 37) (.t 43)) <| r 11 45 (.ln 5 (.t 44)) <| .e 12 none (some 10) (.al 136 (.agg #[(i 0),(.pointer none),(.pointer none),(.pointer none),(i 0)])) [3,7,11] <| .e 13 none none (.st 5 (.t 10) (.t 45)) [] <| .nil) [0,8,10]) <| .seq (q' [m 46 0,m 47 0,n 48 47,f 49 11 48,l 50 49,m 51 0,n 52 51,f 53 11 52,l 54 53,le 55 54,bk 56 .sub 55 1,.r (some 57) (.sl 5 (.t 50) none (some (.t 56)) none),n 58 46,f 59 11 58,s 1 59 57] [0,8,10]) <| z [ln 62 5 10,c 64 50 [0,62,8],ex 65 0 64,ex 66 1 64,ex 67 2 64,ex 68 3 64,m 1 65,m 2 66,m 8 67,m 9 68] [0,1,2,8,9] <| z [no 70 9] [0,1,2,8,70] <| j 70 (z [.r (some 6) (.mv (.c .nilIface)),.r (some 7) (.mv (.c (.bool false)))] [6,7] <| .ret) (.skip))
def H6:IR:=z [] [0,1,2] <| z [.r (some 8) (.mv (.c .nilIface))] [0,1,2,8] <| z [] [0,1,2,8] <| .block 0 (.loop O9)
theorem YU:Fits Tryz.prog 35 3 (bu Tryz.f35 H6) H6 [.t 6,.t 7] 71:=.m Tryz.f35 _
def H7:IR:=z [] [0,1,2] <| .seq (z [m 13 1] [0,2,13] <| .block 0 (z [.e (some 14) (.raw ⟨(some 14),(.typeAssert (.tmp 13) 77 138 true),0, "run.go:252",#[],none⟩),ex 15 1 14,ex 16 0 14] [0,2,13,15,16] <| j 15 (z [m 10 16] [2,10] <| .seq (.dr (r 0 17 (.mv (.t 10)) <| r 1 18 (.nn (.t 17)) <| r 2 19 (.fa 0 (.t 18)) <| r 3 20 (.l1 (.t 19)) <| r 4 21 (.nn (.t 20)) <| r 5 22 (.fa 4 (.t 21)) <| r 6 23 (.l1 (.t 22)) <| r 7 24 (.ia 7 (.t 23) (k 0)) <| r 8 25 (.mv (.t 10)) <| r 9 26 (.nn (.t 25)) <| r 10 27 (.fa 0 (.t 26)) <| r 11 28 (.l1 (.t 27)) <| r 12 29 (.nn (.t 28)) <| r 13 30 (.fa 5 (.t 29)) <| r 14 31 (.l1 (.t 30)) <| r 15 32 (.ia 11 (.t 31) (k 0)) <| r 16 33 (.fa 0 (.t 32)) <| r 17 34 (.l1 (.t 33)) <| r 18 35 (.mv (.t 2)) <| r 19 36 (.mv (.t 10)) <| r 20 37 (.nn (.t 36)) <| r 21 38 (.fa 1 (.t 37)) <| r 22 39 (.l1 (.t 38)) <| r 23 40 (.bd #[(.string ⟨#[]⟩),(.pointer none),(.pointer none)] [(0,1,(.t 34)),(1,1,(.t 35)),(2,1,(.t 39))]) <| r 25 6 (.mv (.t 24)) <| .e 24 none (some 41) (.bx 141 (.t 40)) [3,6] <| r 26 7 (.mv (.t 41)) <| r 27 8 (.mv (.c .nilIface)) <| r 28 9 (.mv (.c (.bool true))) <| .nil) [6,7,8,9]) <| .ret) (z [.e (some 42) (.raw ⟨(some 42),(.typeAssert (.tmp 13) 77 142 true),0, "run.go:252",#[],none⟩),ex 43 1 42,ex 44 0 42] [0,2,43,44] <| j 43 (z [m 11 44] [2,11] <| z [n 46 11,f 47 2 46,l 48 47,.e (some 49) (.ap 82 1 8 #[(.pointer none)] (.c (.slice none 0 0)) (.t 48)),.e (some 51) (.bs 82 1 #[(.pointer none)] [(0,1,(.t 2))]),.e (some 52) (.ap 82 1 8 #[(.pointer none)] (.t 49) (.t 51)),m 12 52] [11,12] <| .seq (q' [m 53 11,n 54 53,f 55 0 54,l 56 55,m 57 11,n 58 57,f 59 1 58,l 60 59,bk 61 .sub 60 1,m 62 12,c 63 51 [56,61,62],.r (some 6) (.mv (.c (.pointer none))),.r (some 7) (.mv (.c (.pointer none))),m 8 63,.r (some 9) (.mv (.c (.bool true)))] [6,7,8,9]) <| .ret) (.skip)))) <| z [.e (some 65) (.call 52 [(.t 0),(k 5)])] [] <| z [.r (some 6) (.mv (.c (.pointer none))),.r (some 7) (.mv (.c (.pointer none))),.r (some 8) (.mv (.c .nilIface)),.r (some 9) (.mv (.c (.bool false)))] [6,7,8,9] <| .ret
theorem YV:Fits Tryz.prog 36 3 (bu Tryz.f36 H7) H7 [.t 6,.t 7,.t 8,.t 9] 66:=.m Tryz.f36 _
def H8:IR:=z [] [0] <| .seq (.seq (q' [m 3 0,n 4 3,f 5 0 4,f 6 3 5,l 7 6,m 8 0,n 9 8,f 10 8 9,l 11 10,bi 12 .eql 7 11] [0,12]) <| j 12 (z [n 14 0,f 15 0 14,f 16 0 15,.e none (.st 1 (.t 16) (k 4))] [] <| z [.r (some 2) (.mv (.c (.bool false)))] [2] <| .ret) (.skip)) <| z [n 18 0,f 19 0 18,f 20 3 19,l 21 20,bk 22 .add 21 1,n 23 0,f 24 0 23,f 25 3 24,s 1 25 22] [] <| z [.r (some 2) (.mv (.c (.bool true)))] [2] <| .ret
theorem YW:Fits Tryz.prog 37 1 (bu Tryz.f37 H8) H8 [.t 2] 26:=.m Tryz.f37 _
def H9:IR:=z [] [0,1] <| z [c 13 53 [0,1],ex 14 0 13,ex 15 1 13,ex 16 2 13,ex 17 3 13,m 6 14,m 7 15,m 8 16,m 9 17] [0,6,7,8,9] <| .seq (z [no 19 9,m' 19 false 21 6,.gr 19 false (some 22) (.eq .ptr false (.t 21) (.c (.pointer none))),u 23 19 22] [0,6,7,8,9,23] <| j 23 (z [m 4 8,m 5 9] [4,5] <| .ret) (.skip)) <| z [c 29 35 [0,6,7],ex 30 0 29,ex 31 1 29,m 4 30,m 5 31] [4,5] <| .ret
theorem YX:Fits Tryz.prog 38 2 (bu Tryz.f38 H9) H9 [.t 4,.t 5] 32:=.m Tryz.f38 _
def YY:IR:=z [bi 23 .lss 22 21] [1,3,11,12,13,20,21,22,23] <| .seq (j 23 (.skip) ((.exit 2))) <| .seq (.block 3 (z [ia 24 2 20 22,ln 25 2 24,.e (some 7) (.al 66 (.agg #[(.string ⟨#[]⟩),(.slice none 0 0)])),s 2 7 25] [1,3,7,11,12,13,20,21,22] <| q [f 27 1 7,l 28 27,c 29 54 [28],.r (some 30) (.bi .add (k 1) (.t 29)),bi 31 .add 3 30,m 3 31] [1,3,11,12,13,20,21,22])) <| q [bk 32 .add 22 1,m 22 32] [1,3,11,12,13,20,21,22]
def YZ:IR:=z [bi 14 .lss 13 12] [1,3,11,12,13,14] <| .seq (j 14 (.skip) ((.exit 0))) <| .seq (.block 1 (z [ia 15 3 11 13,ln 16 3 15,.e (some 5) (.al 63 (.agg #[(.string ⟨#[]⟩),(.slice none 0 0),(.slice none 0 0)])),s 3 5 16] [1,3,5,11,12,13] <| z [bk 18 .add 3 1,m 3 18] [1,3,5,11,12,13] <| z [f 19 2 5,l 20 19,le 21 20,mk 22 0] [1,3,11,12,13,20,21,22] <| .block 2 (.loop YY))) <| q [bk 33 .add 13 1,m 13 33] [1,3,11,12,13]
def Y0:IR:=z [bi 38 .lss 37 36] [3,35,36,37,38] <| .seq (j 38 (.skip) ((.exit 4))) <| .seq (.block 5 (z [ia 39 12 35 37,ln 40 12 39,.e (some 9) (.al 49 (.agg #[(.string ⟨#[]⟩),(.slice none 0 0),(i 0),(.string ⟨#[]⟩),(.slice none 0 0),(i 0),(.string ⟨#[]⟩),(i 0),(.slice none 0 0),(.slice none 0 0),(.slice none 0 0),(.slice none 0 0)])),s 12 9 40] [3,9,35,36,37] <| .dr (r 0 41 (.mv (.t 3)) <| r 1 42 (.fa 2 (.t 9)) <| r 2 43 (.ln 3 (.t 42)) <| r 5 46 (.fa 5 (.t 9)) <| r 6 47 (.ln 7 (.t 46)) <| .e 3 none (some 44) (.call 55 [(.t 43)]) [6] <| r 4 45 (.bi .add (k 1) (.t 44)) <| .e 7 none (some 48) (.call 56 [(.t 47)]) [] <| r 8 49 (.bi .add (.t 45) (.t 48)) <| r 9 50 (.bi .add (.t 41) (.t 49)) <| r 10 3 (.mv (.t 50)) <| .nil) [3,35,36,37])) <| q [bk 51 .add 37 1,m 37 51] [3,35,36,37]
def H':IR:=z [.e (some 1) (.bx 25 (.t 0))] [1] <| z [mk 3 0] [1,3] <| .seq (z [f 10 0 1,l 11 10,le 12 11,mk 13 0] [1,3,11,12,13] <| .block 0 (.loop YZ)) <| .seq (z [f 34 1 1,l 35 34,le 36 35,mk 37 0] [3,35,36,37] <| .block 4 (.loop Y0)) <| z [m 2 3] [2] <| .ret
theorem Y1:Fits Tryz.prog 39 1 (bu Tryz.f39 H') H' [.t 2] 53:=.m Tryz.f39 _
def Y2:IR:=z [bi 14 .lss 13 12] [1,3,11,12,13,14] <| .seq (j 14 (.skip) ((.exit 0))) <| .seq (.block 1 (z [ia 15 7 11 13,ln 16 7 15,.e (some 5) (.al 47 (.agg #[(i 0),(.string ⟨#[]⟩),(i 0),(.slice none 0 0),(.slice none 0 0),(.slice none 0 0),(.slice none 0 0)])),s 7 5 16] [1,3,5,11,12,13] <| q [ln 18 7 5,c 19 40 [18],.r (some 20) (.mm true (.t 3) (.t 19)),m 3 20] [1,3,11,12,13])) <| q [bk 21 .add 13 1,m 13 21] [1,3,11,12,13]
def Y3:IR:=z [bi 26 .lss 25 24] [1,3,23,24,25,26] <| .seq (j 26 (.skip) ((.exit 2))) <| .seq (.block 3 (z [ia 27 11 23 25,ln 28 11 27,.e (some 7) (.al 95 (.agg #[(.string ⟨#[]⟩),(i 0),(.string ⟨#[]⟩),(.slice none 0 0),(i 0),(.string ⟨#[]⟩),(i 0),(.slice none 0 0),(.slice none 0 0),(.slice none 0 0),(.slice none 0 0)])),s 11 7 28] [1,3,7,23,24,25] <| q [f 30 4 7,ln 31 7 30,c 32 40 [31],.r (some 33) (.mm true (.t 3) (.t 32)),m 3 33] [1,3,23,24,25])) <| q [bk 34 .add 25 1,m 25 34] [1,3,23,24,25]
def Y4:IR:=z [bi 39 .lss 38 37] [3,36,37,38,39] <| .seq (j 39 (.skip) ((.exit 4))) <| .seq (.block 5 (z [ia 40 11 36 38,ln 41 11 40,.e (some 9) (.al 97 (.agg #[(i 0),(.string ⟨#[]⟩),(i 0),(.slice none 0 0),(i 0),(.string ⟨#[]⟩),(i 0),(.slice none 0 0),(.slice none 0 0),(.slice none 0 0),(.slice none 0 0)])),s 11 9 41] [3,9,36,37,38] <| q [f 43 4 9,ln 44 7 43,c 45 40 [44],.r (some 46) (.mm true (.t 3) (.t 45)),m 3 46] [3,36,37,38])) <| q [bk 47 .add 38 1,m 38 47] [3,36,37,38]
def Ia:IR:=z [.e (some 1) (.bx 47 (.t 0))] [1] <| z [mk 3 0] [1,3] <| .seq (z [f 10 4 1,l 11 10,le 12 11,mk 13 0] [1,3,11,12,13] <| .block 0 (.loop Y2)) <| .seq (z [f 22 5 1,l 23 22,le 24 23,mk 25 0] [1,3,23,24,25] <| .block 2 (.loop Y3)) <| .seq (z [f 35 6 1,l 36 35,le 37 36,mk 38 0] [3,36,37,38] <| .block 4 (.loop Y4)) <| z [bk 49 .add 3 1,m 2 49] [2] <| .ret
theorem Y5:Fits Tryz.prog 40 1 (bu Tryz.f40 Ia) Ia [.t 2] 50:=.m Tryz.f40 _
def Y6:IR:=z [bi 13 .lss 12 11] [1,2,11,12,13] <| .seq (j 13 (.skip) ((.exit 0))) <| .seq (.block 1 (z [m 3 12] [1,2,3,11,12] <| q [ia 18 3 2 3,c 19 58 [1,18]] [1,2,11,12])) <| q [bk 20 .add 12 1,m 12 20] [1,2,11,12]
def Ib:IR:=z [] [] <| z [.e (some 4) (.raw ⟨(some 4),(.makeMap 124 none),124, "check.go:83",#[],none⟩),.e (some 5) (.raw ⟨(some 5),(.makeMap 125 none),125, "check.go:83",#[],none⟩),.e (some 6) (.raw ⟨(some 6),(.makeMap 126 none),126, "check.go:83",#[],none⟩),.r (some 7) (.bd #[(.map none),(.map none),(.map none),(.map none),(.bool false),(.map none),(.map none)] [(0,1,(.t 4)),(1,1,(.t 5)),(2,1,(.t 6))]),.e (some 8) (.bx 129 (.t 7)),m 1 8] [1] <| z [c 9 57 [],m 2 9] [1,2] <| .seq (z [le 11 2,mk 12 0] [1,2,11,12] <| .block 0 (.loop Y6)) <| z [m 0 1] [0] <| .ret
theorem Y7:Fits Tryz.prog 41 0 (bu Tryz.f41 Ib) Ib [.t 0] 22:=.m Tryz.f41 _
def Y8:IR:=z [bi 17 .lss 16 15] [0,1,15,16,17] <| .seq (j 17 (.skip) ((.exit 0))) <| .seq (.block 1 (z [m 5 16] [0,1,5,15,16] <| z [ia 21 3 1 5,m 6 21] [0,1,6,15,16] <| .seq (z [c 24 59 [0,6],m 7 24] [0,1,6,7,15,16] <| z [bk 26 .neq 7 0] [0,1,6,7,15,16,26] <| j 26 (z [m 4 7] [4] <| .ret) (.skip)) <| q [c 30 58 [0,6]] [0,1,15,16])) <| q [bk 31 .add 16 1,m 16 31] [0,1,15,16]
def Y9:IR:=z [bi 53 .lss 52 51] [0,32,33,34,43,44,45,50,51,52,53] <| .seq (j 53 (.skip) ((.exit 6))) <| .seq (.block 7 (z [ia 54 3 50 52,ln 55 3 54,.e (some 13) (.al 42 (.agg #[(i 0),(.string ⟨#[]⟩),(.slice none 0 0)])),s 3 13 55] [0,13,32,33,34,43,44,45,50,51,52] <| z [ln 57 3 13,c 58 46 [0,57],no 59 58] [0,32,33,34,43,44,45,50,51,52,59] <| j 59 (z [mk 4 81] [4] <| .ret) (.skip))) <| q [bk 60 .add 52 1,m 52 60] [0,32,33,34,43,44,45,50,51,52]
def Y':IR:=z [bi 46 .lss 45 44] [0,32,33,34,43,44,45,46] <| .seq (j 46 (.skip) ((.exit 4))) <| .seq (.block 5 (z [ia 47 2 43 45,ln 48 2 47,.e (some 11) (.al 66 (.agg #[(.string ⟨#[]⟩),(.slice none 0 0)])),s 2 11 48] [0,11,32,33,34,43,44,45] <| z [f 49 1 11,l 50 49,le 51 50,mk 52 0] [0,32,33,34,43,44,45,50,51,52] <| .block 6 (.loop Y9))) <| q [bk 61 .add 45 1,m 45 61] [0,32,33,34,43,44,45]
def Za:IR:=z [bi 35 .lss 34 33] [0,32,33,34,35] <| .seq (j 35 (.skip) ((.exit 2))) <| .seq (.block 3 (z [ia 36 3 32 34,ln 37 3 36,.e (some 9) (.al 63 (.agg #[(.string ⟨#[]⟩),(.slice none 0 0),(.slice none 0 0)])),s 3 9 37] [0,9,32,33,34] <| z [f 39 1 9,l 40 39,c 41 43 [0,40]] [0,9,32,33,34] <| z [f 42 2 9,l 43 42,le 44 43,mk 45 0] [0,32,33,34,43,44,45] <| .block 4 (.loop Y'))) <| q [bk 62 .add 34 1,m 34 62] [0,32,33,34]
def Ic:IR:=z [] [0,1] <| .seq (z [le 15 1,mk 16 0] [0,1,15,16] <| .block 0 (.loop Y8)) <| .seq (z [m 32 1,le 33 32,mk 34 0] [0,32,33,34] <| .block 2 (.loop Za)) <| z [mk 4 0] [4] <| .ret
theorem Zb:Fits Tryz.prog 42 2 (bu Tryz.f42 Ic) Ic [.t 4] 63:=.m Tryz.f42 _
def Zc:IR:=z [bi 13 .lss 12 11] [0,10,11,12,13] <| .seq (j 13 (.skip) ((.exit 0))) <| .seq (.block 1 (z [ia 14 1 10 12,l 15 14,m 5 15] [0,5,10,11,12] <| q [m 16 0,n 17 16,f 18 3 17,l 19 18,m 20 5,.e none (.raw ⟨none,(.mapUpdate 90 (.tmp 19) (.tmp 20) (.const (i 1))),0, "check.go:95",#[⟨3,.data⟩,⟨4,.data⟩,⟨0,.phase⟩,⟨1,.phase⟩,⟨2,.phase⟩,⟨3,.phase⟩,⟨4,.phase⟩],none⟩)] [0,10,11,12])) <| q [bk 21 .add 12 1,m 12 21] [0,10,11,12]
def Ie:IR:=z [m 6 0,.e (some 7) (.raw ⟨(some 7),(.makeMap 90 none),90, "check.go:93",#[],none⟩),n 8 6,f 9 3 8,s 1 9 7] [0,1] <| .seq (z [m 10 1,le 11 10,mk 12 0] [0,10,11,12] <| .block 0 (.loop Zc)) <| q [m 22 0,m 23 0,.e (some 24) (.raw ⟨(some 24),(.makeMap 90 none),90, "check.go:97",#[],none⟩),.e (some 25) (.raw ⟨(some 25),(.makeMap 127 none),127, "check.go:97",#[],none⟩),n 26 22,f 27 5 26,s 1 27 24,n 28 23,f 29 6 28,s 1 29 25] []
theorem Zd:Fits Tryz.prog 43 2 (bu Tryz.f43 Ie) Ie [] 30:=.m Tryz.f43 _
def Ze:IR:=z [bi 7 .lss 6 5] [0,5,6,7] <| .seq (j 7 (.skip) ((.exit 0))) <| .seq (.block 1 (z [m 3 6] [0,3,5,6] <| z [.r (some 11) (.qI (.t 0) (.t 3)),.r (some 12) (.bi .lss (.t 11) (.c (.int .u8 32))),m' 12 false 14 0,m' 12 false 15 3,.gr 12 false (some 16) (.qI (.t 14) (.t 15)),.gr 12 false (some 17) (.bi .gtr (.t 16) (.c (.int .u8 126))),u 18 12 17] [0,5,6,18] <| j 18 (z [.r (some 2) (.mv (.c (.bool false)))] [2] <| .ret) (.skip))) <| q [bk 19 .add 6 1,m 6 19] [0,5,6]
def Ig:IR:=z [] [0] <| .seq (z [.r (some 5) (.pL (.t 0)),mk 6 0] [0,5,6] <| .block 0 (.loop Ze)) <| z [.r (some 21) (.pL (.t 0)),bk 22 .geq 21 1,m' 22 true 24 0,.gr 22 true (some 25) (.pL (.t 24)),dK 22 true 26 .leq 25 4096,a 27 22 26,m 2 27] [2] <| .ret
theorem Zf:Fits Tryz.prog 44 1 (bu Tryz.f44 Ig) Ig [.t 2] 28:=.m Tryz.f44 _
def Ih:IR:=z [] [0] <| z [.r (some 4) (.bd #[(i 0),(.string ⟨#[]⟩),(.slice none 0 0)] [(0,1,(k 2)),(1,1,(.t 0))]),c 5 60 [4],m 2 5] [2] <| .ret
theorem Zg:Fits Tryz.prog 45 1 (bu Tryz.f45 Ih) Ih [.t 2] 6:=.m Tryz.f45 _
def Ii:IR:=z [.e (some 3) (.bx 42 (.t 1))] [0,3] <| z [ln 5 3 3,c 6 60 [5],m' 6 true 8 0,tZ 6 true 9 3 3,.ge 6 true (some 10) (.call 61 [(.t 8),(.t 9)]),a 11 6 10,m 4 11] [4] <| .ret
theorem Zh:Fits Tryz.prog 46 2 (bu Tryz.f46 Ii) Ii [.t 4] 12:=.m Tryz.f46 _
def Ij:IR:=z [.e (some 3) (.bx 47 (.t 1)),.e (some 4) (.al 42 (.agg #[(i 0),(.string ⟨#[]⟩),(.slice none 0 0)]))] [0,3,4] <| .seq (z [ln 14 7 3,c 15 62 [14],no 16 15] [0,3,4,16] <| j 16 (z [.r (some 17) (.bd #[(i 0),(.string ⟨#[]⟩),(.slice none 0 0)] []),s 3 4 17,mk 5 84] [4,5] <| .ret) (.skip)) <| .seq (z [f 18 0 3,l 19 18] [0,3,4,19] <| .block 0 (z [bk 21 .eql 19 1,m 20 21] [0,3,4,19,20] <| j 20 (.seq (.dr (r 0 23 (.mv (.t 0)) <| r 1 24 (.nn (.t 23)) <| r 2 25 (.fa 6 (.t 24)) <| r 3 26 (.l1 (.t 25)) <| r 4 27 (.fa 1 (.t 3)) <| r 5 28 (.l1 (.t 27)) <| .e2 6 (some 29) (.raw ⟨(some 29),(.lookup 127 (.tmp 26) (.tmp 28) true),155, "expr.go:123",#[⟨3,.data⟩,⟨5,.data⟩],none⟩) [] (r 7 22 (.mv (.t 29)) <| r 8 30 (.ex 0 (.t 22)) <| r 9 31 (.ex 1 (.t 22)) <| .e 10 none (some 6) (.al 42 (.agg #[(i 0),(.string ⟨#[]⟩),(.slice none 0 0)])) [3,5] <| .e 11 none none (.st 3 (.t 6) (.t 30)) [] <| r 12 7 (.mv (.t 31)) <| .nil) 10 (some 6) (.al 42 (.agg #[(i 0),(.string ⟨#[]⟩),(.slice none 0 0)])) [3,5]
   (.e 6 none (some 29) (.raw ⟨(some 29),(.lookup 127 (.tmp 26) (.tmp 28) true),155, "expr.go:123",#[⟨3,.data⟩,⟨5,.data⟩],none⟩) [] <| r 7 22 (.mv (.t 29)) <| r 8 30 (.ex 0 (.t 22)) <| r 9 31 (.ex 1 (.t 22)) <| .e 11 none none (.st 3 (.t 6) (.t 30)) [] <| r 12 7 (.mv (.t 31)) <| .nil)) [4,6,7]) <| .seq (z [no 33 7] [4,6,33] <| j 33 (z [.r (some 34) (.bd #[(i 0),(.string ⟨#[]⟩),(.slice none 0 0)] []),s 3 4 34,mk 5 82] [4,5] <| .ret) (.skip)) <| z [ln 35 3 6,s 3 4 35,mk 5 0] [4,5] <| .ret) (z [bk 37 .eql 19 2,m 36 37] [0,3,4,19,36] <| j 36 (z [c 38 63 [],s 3 4 38,mk 5 0] [4,5] <| .ret) (z [bk 40 .eql 19 3,m 39 40] [0,3,4,19,39] <| j 39 (.seq (q' [m 42 0,n 43 42,f 44 2 43,l 45 44,f 46 1 3,l 47 46,.e (some 48) (.raw ⟨(some 48),(.lookup 126 (.tmp 45) (.tmp 47) true),123, "expr.go:131",#[⟨3,.data⟩,⟨5,.data⟩],none⟩),m 41 48,ex 49 0 41,ex 50 1 41,m 8 49,m 9 50] [0,3,4,8,9]) <| .seq (z [no 52 9] [0,3,4,8,52] <| j 52 (z [.r (some 53) (.bd #[(i 0),(.string ⟨#[]⟩),(.slice none 0 0)] []),s 3 4 53,mk 5 82] [4,5] <| .ret) (.skip)) <| .seq (q' [m 54 0,m 55 8,n 56 55,f 57 2 56,ln 58 3 57,m 59 8,n 60 59,f 61 1 60,l 62 61,f 63 3 3,l 64 63,c 65 64 [54,58,62,64],ex 66 0 65,ex 67 1 65,s 3 4 66,m 5 67] [4,5]) <| .ret) (z [bk 69 .eql 19 4,m 68 69] [0,3,4,19,68] <| j 68 (.seq (.dr (r 0 71 (.mv (.t 0)) <| r 1 72 (.nn (.t 71)) <| r 2 73 (.fa 1 (.t 72)) <| r 3 74 (.l1 (.t 73)) <| r 4 75 (.fa 1 (.t 3)) <| r 5 76 (.l1 (.t 75)) <| .e2 6 (some 77) (.raw ⟨(some 77),(.lookup 125 (.tmp 74) (.tmp 76) true),159, "expr.go:137",#[⟨3,.data⟩,⟨5,.data⟩],none⟩) [] (r 7 70 (.mv (.t 77)) <| r 8 78 (.ex 0 (.t 70)) <| r 9 79 (.ex 1 (.t 70)) <| .e 10 none (some 10) (.al 158 (.agg #[(.pointer none),(i 0)])) [3,5] <| .e 11 none none (.st 2 (.t 10) (.t 78)) [] <| r 12 11 (.mv (.t 79)) <| .nil) 10 (some 10) (.al 158 (.agg #[(.pointer none),(i 0)])) [3,5]
   (.e 6 none (some 77) (.raw ⟨(some 77),(.lookup 125 (.tmp 74) (.tmp 76) true),159, "expr.go:137",#[⟨3,.data⟩,⟨5,.data⟩],none⟩) [] <| r 7 70 (.mv (.t 77)) <| r 8 78 (.ex 0 (.t 70)) <| r 9 79 (.ex 1 (.t 70)) <| .e 11 none none (.st 2 (.t 10) (.t 78)) [] <| r 12 11 (.mv (.t 79)) <| .nil)) [0,3,4,10,11]) <| .seq (z [no 81 11] [0,3,4,10,81] <| j 81 (z [.r (some 82) (.bd #[(i 0),(.string ⟨#[]⟩),(.slice none 0 0)] []),s 3 4 82,mk 5 82] [4,5] <| .ret) (.skip)) <| .seq (.dr (r 0 83 (.mv (.t 0)) <| r 1 84 (.ln 2 (.t 10)) <| r 3 86 (.fa 0 (.t 10)) <| r 4 87 (.l1 (.t 86)) <| r 5 88 (.nn (.t 87)) <| r 6 89 (.fa 1 (.t 88)) <| r 7 90 (.l1 (.t 89)) <| r 8 91 (.fa 3 (.t 3)) <| r 9 92 (.l1 (.t 91)) <| .e 2 none (some 85) (.call 65 [(.t 84)]) [4,7,9] <| .e 10 none (some 93) (.call 64 [(.t 83),(.t 85),(.t 90),(.t 92)]) [] <| r 11 94 (.ex 0 (.t 93)) <| r 12 95 (.ex 1 (.t 93)) <| .e 13 none none (.st 3 (.t 4) (.t 94)) [] <| r 14 5 (.mv (.t 95)) <| .nil) [4,5]) <| .ret) (z [bk 97 .eql 19 12,m 96 97] [0,3,4,19,96] <| j 96 (.seq (z [f 99 3 3,l 100 99,.r (some 101) (.ia 3 (.t 100) (k 0)),ln 102 3 101,c 103 46 [0,102],no 104 103] [3,4,104] <| j 104 (z [.r (some 105) (.bd #[(i 0),(.string ⟨#[]⟩),(.slice none 0 0)] []),s 3 4 105,mk 5 83] [4,5] <| .ret) (.skip)) <| z [f 106 3 3,l 107 106,.r (some 108) (.ia 3 (.t 107) (k 0)),ln 109 3 108,s 3 4 109,mk 5 0] [4,5] <| .ret) (z [bk 111 .eql 19 5,m 110 111] [0,3,4,19,110] <| j 110 (z [ln 113 7 3,c 114 66 [0,113],ex 115 0 114,ex 116 1 114,s 3 4 115,m 5 116] [4,5] <| .ret) (z [bk 118 .eql 19 9,m 117 118] [0,3,4,19,117] <| j 117 (z [ln 120 7 3,c 121 67 [0,120],ex 122 0 121,ex 123 1 121,s 3 4 122,m 5 123] [4,5] <| .ret) (z [bk 125 .eql 19 10,m 124 125] [0,3,4,19,124] <| j 124 (.seq (z [f 128 4 3,l 129 128,.r (some 130) (.ia 7 (.t 129) (k 0)),ln 131 7 130,c 132 47 [0,131],ex 133 0 132,ex 134 1 132,.e (some 12) (.al 42 (.agg #[(i 0),(.string ⟨#[]⟩),(.slice none 0 0)])),s 3 12 133,m 13 134] [0,3,4,13] <| z [bk 136 .neq 13 0] [0,3,4,13,136] <| j 136 (z [.r (some 137) (.bd #[(i 0),(.string ⟨#[]⟩),(.slice none 0 0)] []),s 3 4 137,m 5 13] [4,5] <| .ret) (.skip)) <| z [f 140 4 3,l 141 140,.r (some 142) (.ia 7 (.t 141) (k 1)),ln 143 7 142,c 144 47 [0,143],ex 145 0 144,ex 146 1 144,s 3 4 145,m 5 146] [4,5] <| .ret) (z [bk 148 .eql 19 6,m 147 148] [0,3,4,19,147] <| j 147 (z [ln 150 7 3,c 151 68 [0,150],ex 152 0 151,ex 153 1 151,s 3 4 152,m 5 153] [4,5] <| .ret) (.seq (z [bk 155 .eql 19 7,m 154 155] [0,3,4,19,154] <| j 154 (.skip) (q [bk 156 .eql 19 11,m 154 156] [0,3,4,154])) <| j 154 (z [ln 158 7 3,c 159 69 [0,158],ex 160 0 159,ex 161 1 159,s 3 4 160,m 5 161] [4,5] <| .ret) (.skip)))))))))))) <| z [ln 163 7 3,c 164 70 [0,163],ex 165 0 164,ex 166 1 164,s 3 4 165,m 5 166] [4,5] <| .ret
theorem Zi:Fits Tryz.prog 47 2 (bu Tryz.f47 Ij) Ij [.n 4 3,.t 5] 167:=.m Tryz.f47 _
def Ik:IR:=z [.e (some 2) (.bx 42 (.t 0)),.e (some 3) (.bx 42 (.t 1))] [2,3] <| z [f 5 0 2,l 6 5,f 7 0 3,l 8 7,bi 9 .eql 6 8,f' 9 true 11 1 2,l' 9 true 12 11,f' 9 true 13 1 3,l' 9 true 14 13,mN 9 true 15 .eql 12 14,a 16 9 15,f' 16 true 18 2 2,l' 16 true 19 18,f' 16 true 20 2 3,l' 16 true 21 20,.ge 16 true (some 22) (.call 71 [(.t 19),(.t 21),(.c (.func (.func 48) #[] #[]))]),a 23 16 22,m 4 23] [4] <| .ret
theorem Zj:Fits Tryz.prog 48 2 (bu Tryz.f48 Ik) Ik [.t 4] 24:=.m Tryz.f48 _
def O':IR:=z [bi 96 .lss 95 94] [1,2,10,94,95,96] <| .seq (j 96 (.skip) ((.exit 1))) <| .seq (.block 2 (z [m 11 95] [1,2,10,11,94,95] <| q [n 99 1,f 100 5 99,l 101 100,ia 103 11 101 11,f 104 0 103,l 105 104,.r (some 106) (.bd #[.nilIface] []),.e (some 107) (.bx 87 (.t 106)),.r (some 109) (.bd #[(.string ⟨#[]⟩),(.pointer none),(.pointer none)] [(0,1,(.t 105)),(1,1,(.t 107)),(2,1,(.t 2))]),.e (some 110) (.bx 141 (.t 109)),m 2 110] [1,2,10,94,95])) <| q [bk 111 .add 95 1,m 95 111] [1,2,10,94,95]
def Pa:IR:=.seq (z [m 119 12,m 120 10,.e (some 121) (.raw ⟨(some 121),(.binOp .neq 106 (.tmp 119) (.tmp 120) 106),4, "run.go:198",#[⟨0,.data⟩,⟨1,.data⟩],none⟩)] [1,2,10,12,13,121] <| j 121 (.skip) ((.exit 3))) <| .seq (.block 4 (.seq (.dr (r 0 124 (.mv (.t 12)) <| r 1 125 (.nn (.t 124)) <| r 2 126 (.fa 1 (.t 125)) <| r 3 127 (.l1 (.t 126)) <| r 4 128 (.mv (.t 1)) <| r 5 129 (.nn (.t 128)) <| r 6 130 (.fa 5 (.t 129)) <| r 7 131 (.l1 (.t 130)) <| r 8 132 (.mv (.t 13)) <| r 9 133 (.ia 11 (.t 131) (.t 132)) <| r 10 134 (.fa 4 (.t 133)) <| r 11 135 (.mv (.t 2)) <| r 12 136 (.bd #[(.pointer none),(.pointer none)] [(0,1,(.t 134)),(1,1,(.t 135))]) <| .e 13 none (some 137) (.bx 108 (.t 136)) [3] <| r 14 138 (.mi 105 (.t 137)) <| r 15 139 (.nn (.t 127)) <| r 16 140 (.fa 0 (.t 139)) <| .e 17 none none (.st 1 (.t 140) (.t 138)) [] <| .nil) [1,2,10,12,13]) <| q [n 142 12,f 143 2 142,l 144 143,m 12 144] [1,2,10,12,13])) <| q [bk 123 .sub 13 1,m 13 123] [1,2,10,12,13]
def Il:IR:=z [] [0,1,2] <| .seq (z [n 15 1,f 16 0 15,l 17 16] [0,1,2,17] <| .block 0 (z [bk 19 .eql 17 1,m 18 19] [0,1,2,17,18] <| j 18 (z [n 23 1,f 24 1 23,l 25 24,c 26 72 [2,25],c 27 53 [0,26],ex 28 0 27,ex 29 1 27,ex 30 2 27,ex 31 3 27,m 6 28,m 7 29,m 8 30,m 9 31] [6,7,8,9] <| .ret) (z [bk 33 .eql 17 3,m 32 33] [0,1,2,17,32] <| j 32 (.seq (q' [m 34 0,m 35 0,n 36 35,f 37 9 36,l 38 37,m 39 1,n 40 39,f 41 1 40,l 42 41,.e (some 43) (.raw ⟨(some 43),(.lookup 89 (.tmp 38) (.tmp 42) false),82, "run.go:182",#[⟨4,.data⟩,⟨8,.data⟩],none⟩),c 44 53 [34,43],ex 45 0 44,ex 46 1 44,ex 47 2 44,ex 48 3 44,m 6 45,m 7 46,m 8 47,m 9 48] [6,7,8,9]) <| .ret) (z [bk 50 .eql 17 2,m 49 50] [0,1,2,17,49] <| j 49 (.seq (q' [m 51 1,n 52 51,f 53 2 52,l 54 53,.r (some 55) (.mi 115 (.t 54)),.r (some 6) (.mv (.c (.pointer none))),.r (some 7) (.mv (.c (.pointer none))),m 8 55,.r (some 9) (.mv (.c (.bool true)))] [6,7,8,9]) <| .ret) (z [bk 57 .eql 17 4,m 56 57] [0,1,2,17,56] <| j 56 (.seq (.dr (r 0 58 (.mv (.t 1)) <| r 1 59 (.nn (.t 58)) <| r 2 60 (.fa 1 (.t 59)) <| r 3 61 (.l1 (.t 60)) <| r 4 62 (.mv (.t 0)) <| r 5 63 (.nn (.t 62)) <| r 6 64 (.fa 10 (.t 63)) <| r 7 65 (.l1 (.t 64)) <| r 8 66 (.mv (.t 1)) <| r 9 67 (.nn (.t 66)) <| r 10 68 (.fa 1 (.t 67)) <| r 11 69 (.l1 (.t 68)) <| .e 12 none (some 70) (.raw ⟨(some 70),(.lookup 90 (.tmp 65) (.tmp 69) false),3, "run.go:186",#[⟨7,.data⟩,⟨11,.data⟩],none⟩) [3] <| .e 13 none (some 71) (.call 51 [(.t 61),(.t 70),(.c (.slice none 0 0))]) [] <| r 14 6 (.mv (.c (.pointer none))) <| r 15 7 (.mv (.c (.pointer none))) <| r 16 8 (.mv (.t 71)) <| r 17 9 (.mv (.c (.bool true))) <| .nil) [6,7,8,9]) <| .ret) (z [bk 73 .eql 17 6,m 72 73] [0,1,2,17,72] <| j 72 (z [.r (some 76) (.bd #[(.pointer none),(.pointer none)] [(0,1,(.t 1)),(1,1,(.t 2))]),.e (some 77) (.bx 139 (.t 76)),.r (some 78) (.mi 138 (.t 77)),.r (some 6) (.mv (.c (.pointer none))),.r (some 7) (.mv (.c (.pointer none))),m 8 78,.r (some 9) (.mv (.c (.bool true)))] [6,7,8,9] <| .ret) (z [bk 80 .eql 17 12,m 79 80] [0,1,2,17,79] <| j 79 (z [n 83 1,f 84 2 83,l 85 84,c 86 52 [0,85]] [] <| z [.r (some 6) (.mv (.c (.pointer none))),.r (some 7) (.mv (.c (.pointer none))),.r (some 8) (.mv (.c .nilIface)),.r (some 9) (.mv (.c (.bool false)))] [6,7,8,9] <| .ret) (z [bk 88 .eql 17 7,m 87 88] [0,1,2,17,87] <| j 87 (z [m 10 2] [1,2,10] <| .seq (z [n 91 1,f 92 5 91,l 93 92,le 94 93,mk 95 0] [1,2,10,94,95] <| .block 1 (.loop O')) <| z [m 12 2] [1,2,10,12] <| .seq (z [n 114 1,f 115 5 114,l 116 115,le 117 116,bk 118 .sub 117 1,m 13 118] [1,2,10,12,13] <| .block 3 (.loop Pa)) <| z [n 146 1,f 147 4 146,l 148 147,.r (some 149) (.ia 7 (.t 148) (k 0)),m 6 149,m 7 2,.r (some 8) (.mv (.c .nilIface)),.r (some 9) (.mv (.c (.bool true)))] [6,7,8,9] <| .ret) (z [bk 152 .eql 17 11,m 151 152] [0,1,2,17,151] <| j 151 (z [.r (some 156) (.bd #[(i 0),(.pointer none),(.pointer none),(.pointer none),(i 0)] [(0,1,(k 6)),(2,1,(.t 1)),(3,1,(.t 2))]),c 157 73 [0,156]] [1,2] <| z [n 159 1,f 160 5 159,l 161 160,.r (some 162) (.ia 11 (.t 161) (k 0)),f 163 4 162,m 6 163,m 7 2,.r (some 8) (.mv (.c .nilIface)),.r (some 9) (.mv (.c (.bool true)))] [6,7,8,9] <| .ret) (z [bk 166 .eql 17 5,m 165 166] [0,1,2,17,165] <| j 165 (q [.r (some 170) (.bd #[(i 0),(.pointer none),(.pointer none),(.pointer none),(i 0)] [(0,1,(k 1)),(2,1,(.t 1)),(3,1,(.t 2))]),c 171 73 [0,170]] [1,2]) (z [bk 173 .eql 17 8,m 172 173] [0,1,2,17,172] <| j 172 (q [.r (some 177) (.bd #[(i 0),(.pointer none),(.pointer none),(.pointer none),(i 0)] [(0,1,(k 2)),(2,1,(.t 1)),(3,1,(.t 2))]),c 178 73 [0,177]] [1,2]) (z [bk 180 .eql 17 9,m 179 180] [0,1,2,17,179] <| j 179 (q [.r (some 184) (.bd #[(i 0),(.pointer none),(.pointer none),(.pointer none),(i 0)] [(0,1,(k 3)),(2,1,(.t 1)),(3,1,(.t 2))]),c 185 73 [0,184]] [1,2]) (z [bk 187 .eql 17 10,m 186 187] [0,1,2,186] <| j 186 (q [.r (some 191) (.bd #[(i 0),(.pointer none),(.pointer none),(.pointer none),(i 0)] [(0,1,(k 5)),(2,1,(.t 1)),(3,1,(.t 2))]),c 192 73 [0,191]] [1,2]) (.skip)))))))))))))) <| z [n 194 1,f 195 4 194,l 196 195,.r (some 197) (.ia 7 (.t 196) (k 0)),m 6 197,m 7 2,.r (some 8) (.mv (.c .nilIface)),.r (some 9) (.mv (.c (.bool true)))] [6,7,8,9] <| .ret
theorem Zk:Fits Tryz.prog 49 3 (bu Tryz.f49 Il) Il [.t 6,.t 7,.t 8,.t 9] 199:=.m Tryz.f49 _
def uc:IR:=z [.e (some 4) (.bx 136 (.t 1))] [0,2,4] <| .seq (z [f 16 0 4,l 17 16] [0,2,4,17] <| .block 0 (z [bk 19 .eql 17 0,m 18 19] [0,2,4,17,18] <| j 18 (z [f 20 1 4,l 21 20,n 23 21,f 24 0 23,s 1 24 2] [2] <| z [.r (some 6) (.mv (.c (.pointer none))),.r (some 7) (.mv (.c (.pointer none))),m 8 2,.r (some 9) (.mv (.c (.bool true)))] [6,7,8,9] <| .ret) (z [bk 27 .eql 17 1,m 26 27] [0,2,4,17,26] <| j 26 (.seq (q' [m 28 0,m 29 2,f 30 2 4,l 31 30,n 32 31,f 33 4 32,l 34 33,.r (some 35) (.ia 7 (.t 34) (k 1)),f 36 3 4,l 37 36,.r (some 38) (.bd #[(.pointer none),(.pointer none)] [(0,1,(.t 35)),(1,1,(.t 37))]),.e (some 39) (.bx 108 (.t 38)),.r (some 40) (.mi 105 (.t 39)),.r (some 41) (.bd #[.nilIface] [(0,1,(.t 40))]),.e (some 42) (.bx 87 (.t 41)),c 43 36 [28,29,42],ex 44 0 43,ex 45 1 43,ex 46 2 43,ex 47 3 43,m 6 44,m 7 45,m 8 46,m 9 47] [6,7,8,9]) <| .ret) (z [bk 49 .eql 17 2,m 48 49] [0,2,4,17,48] <| j 48 (z [ln 51 5 4,c 53 74 [0,51,2],ex 54 0 53,ex 55 1 53,ex 56 2 53,ex 57 3 53,m 6 54,m 7 55,m 8 56,m 9 57] [6,7,8,9] <| .ret) (z [bk 59 .eql 17 3,m 58 59] [0,2,4,17,58] <| j 58 (z [m 61 2,.e (some 62) (.raw ⟨(some 62),(.typeAssert (.tmp 61) 77 115 true),164, "run.go:237",#[⟨0,.data⟩],none⟩),m 60 62,ex 63 0 60,ex 64 1 60,m 10 63,m 11 64] [0,4,10] <| z [f 66 2 4,l 67 66,.r (some 69) (.bd #[(i 0),(.pointer none),(.pointer none),(.pointer none),(i 0)] [(0,1,(k 4)),(2,1,(.t 67)),(4,1,(.t 10))]),c 70 73 [0,69]] [4] <| .seq (q' [f 71 2 4,l 72 71,n 73 72,f 74 4 73,l 75 74,.r (some 76) (.ia 7 (.t 75) (k 1)),f 77 3 4,l 78 77,m 6 76,m 7 78,.r (some 8) (.mv (.c .nilIface)),.r (some 9) (.mv (.c (.bool true)))] [6,7,8,9]) <| .ret) (z [bk 80 .eql 17 4,m 79 80] [0,2,4,17,79] <| j 79 (z [m 82 2,.e (some 83) (.raw ⟨(some 83),(.typeAssert (.tmp 82) 77 115 true),164, "run.go:241",#[⟨0,.data⟩],none⟩),m 81 83,ex 84 0 81,ex 85 1 81,m 12 84,m 13 85] [0,4,12] <| .seq (q' [m 87 0,f 88 2 4,l 89 88,n 90 89,f 91 1 90,l 92 91,f 93 4 4,l 94 93,m 95 12,c 96 75 [87,92,94,95],m 86 96,ex 97 0 86,ex 98 1 86,m 14 97,m 15 98] [14,15]) <| z [.r (some 6) (.mv (.c (.pointer none))),.r (some 7) (.mv (.c (.pointer none))),m 8 14,m 9 15] [6,7,8,9] <| .ret) (z [bk 102 .eql 17 5,m 101 102] [2,4,101] <| j 101 (.seq (q' [f 103 2 4,l 104 103,n 105 104,f 106 4 105,l 107 106,.r (some 108) (.ia 7 (.t 107) (k 1)),f 109 3 4,l 110 109,m 6 108,m 7 110,.r (some 8) (.mv (.c .nilIface)),.r (some 9) (.mv (.c (.bool true)))] [6,7,8,9]) <| .ret) (.skip)))))))) <| .seq (.dr (r 0 111 (.fa 2 (.t 4)) <| r 1 112 (.l1 (.t 111)) <| r 2 113 (.nn (.t 112)) <| r 3 114 (.fa 4 (.t 113)) <| r 4 115 (.l1 (.t 114)) <| r 5 116 (.ia 7 (.t 115) (k 0)) <| r 6 117 (.fa 2 (.t 4)) <| r 7 118 (.l1 (.t 117)) <| r 8 119 (.nn (.t 118)) <| r 9 120 (.fa 5 (.t 119)) <| r 10 121 (.l1 (.t 120)) <| r 11 122 (.ia 11 (.t 121) (k 0)) <| r 12 123 (.fa 0 (.t 122)) <| r 13 124 (.l1 (.t 123)) <| r 14 125 (.mv (.t 2)) <| r 15 126 (.bd #[.nilIface] [(0,1,(.t 125))]) <| r 17 128 (.fa 3 (.t 4)) <| r 18 129 (.l1 (.t 128)) <| r 21 6 (.mv (.t 116)) <| .e 16 none (some 127) (.bx 87 (.t 126)) [1,4,7,10,13,18] <| r 19 130 (.bd #[(.string ⟨#[]⟩),(.pointer none),(.pointer none)] [(0,1,(.t 124)),(1,1,(.t 127)),(2,1,(.t 129))]) <| .e 20 none (some 131) (.bx 141 (.t 130)) [1,4] <| r 22 7 (.mv (.t 131)) <| r 23 8 (.mv (.c .nilIface)) <| r 24 9 (.mv (.c (.bool true))) <| .nil) [6,7,8,9]) <| .ret
theorem xO:Fits Tryz.prog 50 3 (bu Tryz.f50 uc) uc [.t 6,.t 7,.t 8,.t 9] 132:=.m Tryz.f50 _
def Im:IR:=z [] [0,1,2] <| .seq (z [bk 8 .eql 1 0] [0,1,2,8] <| j 8 (z [.r (some 11) (.bd #[(.string ⟨#[]⟩),(.slice none 0 0)] [(0,1,(.t 0)),(1,1,(.t 2))]),.e (some 12) (.bx 114 (.t 11)),.r (some 13) (.mi 111 (.t 12)),m 6 13] [6] <| .ret) (.skip)) <| z [.r (some 17) (.bd #[(.string ⟨#[]⟩),(i 0),(.slice none 0 0)] [(0,1,(.t 0)),(1,1,(.t 1)),(2,1,(.t 2))]),.e (some 18) (.bx 144 (.t 17)),.r (some 19) (.mi 142 (.t 18)),m 6 19] [6] <| .ret
theorem Zl:Fits Tryz.prog 51 3 (bu Tryz.f51 Im) Im [.t 6] 20:=.m Tryz.f51 _
def Io:IR:=q [n 7 0,f 8 0 7,f 9 0 8,.e none (.st 1 (.t 9) (k 3)),n 10 0,f 11 0 10,f 12 2 11,s 1 12 1] []
theorem Zm:Fits Tryz.prog 52 2 (bu Tryz.f52 Io) Io [] 13:=.m Tryz.f52 _
def Ip:IR:=z [] [0,1] <| .seq (z [n 11 1,f 12 0 11,l 13 12] [0,1,13] <| .block 0 (z [.e (some 14) (.raw ⟨(some 14),(.typeAssert (.tmp 13) 84 77 true),0, "run.go:137",#[],none⟩),ex 15 1 14,ex 16 0 14] [0,1,13,15,16] <| j 15 (z [m 8 16] [8] <| z [.r (some 4) (.mv (.c (.pointer none))),.r (some 5) (.mv (.c (.pointer none))),m 6 8,.r (some 7) (.mv (.c (.bool true)))] [4,5,6,7] <| .ret) (z [.e (some 18) (.raw ⟨(some 18),(.typeAssert (.tmp 13) 84 105 true),0, "run.go:137",#[],none⟩),ex 19 1 18,ex 20 0 18] [0,1,19,20] <| j 19 (z [m 9 20] [0,1,9] <| z [.r (some 22) (.bd #[] []),.r (some 23) (.mi 167 (.t 22)),n 24 1,f 25 0 24,s 1 25 23] [0,1,9] <| z [.r (some 28) (.bd #[(i 0),(.pointer none),(.pointer none),(.pointer none),(i 0)] [(0,1,(k 0)),(1,1,(.t 1))]),c 29 73 [0,28]] [9] <| .seq (q' [m 30 9,n 31 30,f 32 0 31,l 33 32,m 34 9,n 35 34,f 36 1 35,l 37 36,m 4 33,m 5 37,.r (some 6) (.mv (.c .nilIface)),.r (some 7) (.mv (.c (.bool true)))] [4,5,6,7]) <| .ret) (.skip)))) <| z [.e (some 39) (.call 52 [(.t 0),(k 4)])] [] <| z [.r (some 4) (.mv (.c (.pointer none))),.r (some 5) (.mv (.c (.pointer none))),.r (some 6) (.mv (.c .nilIface)),.r (some 7) (.mv (.c (.bool false)))] [4,5,6,7] <| .ret
theorem Zn:Fits Tryz.prog 53 2 (bu Tryz.f53 Ip) Ip [.t 4,.t 5,.t 6,.t 7] 40:=.m Tryz.f53 _
def Zo:IR:=z [bi 9 .lss 8 7] [3,6,7,8,9] <| .seq (j 9 (.skip) ((.exit 0))) <| .seq (.block 1 (z [ia 10 3 6 8,ln 11 3 10,.e (some 5) (.al 42 (.agg #[(i 0),(.string ⟨#[]⟩),(.slice none 0 0)])),s 3 5 11] [3,5,6,7,8] <| q [ln 13 3 5,c 14 55 [13],bi 15 .add 3 14,m 3 15] [3,6,7,8])) <| q [bk 16 .add 8 1,m 8 16] [3,6,7,8]
def Iq:IR:=z [] [0] <| z [mk 3 0] [0,3] <| .seq (z [m 6 0,le 7 6,mk 8 0] [3,6,7,8] <| .block 0 (.loop Zo)) <| z [m 2 3] [2] <| .ret
theorem Zp:Fits Tryz.prog 54 1 (bu Tryz.f54 Iq) Iq [.t 2] 18:=.m Tryz.f54 _
def Zq:IR:=z [bi 10 .lss 9 8] [3,7,8,9,10] <| .seq (j 10 (.skip) ((.exit 0))) <| .seq (.block 1 (z [ia 11 3 7 9,ln 12 3 11,.e (some 5) (.al 42 (.agg #[(i 0),(.string ⟨#[]⟩),(.slice none 0 0)])),s 3 5 12] [3,5,7,8,9] <| q [ln 14 3 5,c 15 55 [14],bi 16 .add 3 15,m 3 16] [3,7,8,9])) <| q [bk 17 .add 9 1,m 9 17] [3,7,8,9]
def Ir:IR:=z [.e (some 1) (.bx 42 (.t 0))] [1] <| z [mk 3 1] [1,3] <| .seq (z [f 6 2 1,l 7 6,le 8 7,mk 9 0] [3,7,8,9] <| .block 0 (.loop Zq)) <| z [m 2 3] [2] <| .ret
theorem Zr:Fits Tryz.prog 55 1 (bu Tryz.f55 Ir) Ir [.t 2] 19:=.m Tryz.f55 _
def Zs:IR:=z [bi 18 .lss 17 16] [1,3,15,16,17,18] <| .seq (j 18 (.skip) ((.exit 0))) <| .seq (.block 1 (z [ia 19 7 15 17,ln 20 7 19,.e (some 5) (.al 47 (.agg #[(i 0),(.string ⟨#[]⟩),(i 0),(.slice none 0 0),(.slice none 0 0),(.slice none 0 0),(.slice none 0 0)])),s 7 5 20] [1,3,5,15,16,17] <| q [ln 22 7 5,c 23 56 [22],bi 24 .add 3 23,m 3 24] [1,3,15,16,17])) <| q [bk 25 .add 17 1,m 17 25] [1,3,15,16,17]
def Zt:IR:=z [bi 30 .lss 29 28] [1,3,27,28,29,30] <| .seq (j 30 (.skip) ((.exit 2))) <| .seq (.block 3 (z [ia 31 11 27 29,ln 32 11 31,.e (some 7) (.al 95 (.agg #[(.string ⟨#[]⟩),(i 0),(.string ⟨#[]⟩),(.slice none 0 0),(i 0),(.string ⟨#[]⟩),(i 0),(.slice none 0 0),(.slice none 0 0),(.slice none 0 0),(.slice none 0 0)])),s 11 7 32] [1,3,7,27,28,29] <| .dr (r 0 33 (.mv (.t 3)) <| r 1 34 (.fa 1 (.t 7)) <| r 2 35 (.ln 3 (.t 34)) <| r 5 38 (.fa 4 (.t 7)) <| r 6 39 (.ln 7 (.t 38)) <| .e 3 none (some 36) (.call 55 [(.t 35)]) [6] <| r 4 37 (.bi .add (k 1) (.t 36)) <| .e 7 none (some 40) (.call 56 [(.t 39)]) [] <| r 8 41 (.bi .add (.t 37) (.t 40)) <| r 9 42 (.bi .add (.t 33) (.t 41)) <| r 10 3 (.mv (.t 42)) <| .nil) [1,3,27,28,29])) <| q [bk 43 .add 29 1,m 29 43] [1,3,27,28,29]
def Zu:IR:=z [bi 48 .lss 47 46] [3,45,46,47,48] <| .seq (j 48 (.skip) ((.exit 4))) <| .seq (.block 5 (z [ia 49 11 45 47,ln 50 11 49,.e (some 9) (.al 97 (.agg #[(i 0),(.string ⟨#[]⟩),(i 0),(.slice none 0 0),(i 0),(.string ⟨#[]⟩),(i 0),(.slice none 0 0),(.slice none 0 0),(.slice none 0 0),(.slice none 0 0)])),s 11 9 50] [3,9,45,46,47] <| .dr (r 0 51 (.mv (.t 3)) <| r 1 52 (.fa 3 (.t 9)) <| r 2 53 (.l1 (.t 52)) <| r 3 54 (.len (.t 53)) <| r 4 55 (.bi .add (k 1) (.t 54)) <| r 5 56 (.fa 4 (.t 9)) <| r 6 57 (.ln 7 (.t 56)) <| .e 7 none (some 58) (.call 56 [(.t 57)]) [2] <| r 8 59 (.bi .add (.t 55) (.t 58)) <| r 9 60 (.bi .add (.t 51) (.t 59)) <| r 10 3 (.mv (.t 60)) <| .nil) [3,45,46,47])) <| q [bk 61 .add 47 1,m 47 61] [3,45,46,47]
def Is:IR:=z [.e (some 1) (.bx 47 (.t 0))] [1] <| z [f 10 3 1,l 11 10,c 12 54 [11],.r (some 13) (.bi .add (k 1) (.t 12)),m 3 13] [1,3] <| .seq (z [f 14 4 1,l 15 14,le 16 15,mk 17 0] [1,3,15,16,17] <| .block 0 (.loop Zs)) <| .seq (z [f 26 5 1,l 27 26,le 28 27,mk 29 0] [1,3,27,28,29] <| .block 2 (.loop Zt)) <| .seq (z [f 44 6 1,l 45 44,le 46 45,mk 47 0] [3,45,46,47] <| .block 4 (.loop Zu)) <| z [m 2 3] [2] <| .ret
theorem Zv:Fits Tryz.prog 56 1 (bu Tryz.f56 Is) Is [.t 2] 63:=.m Tryz.f56 _
def Zw:IR:=z [bi 21 .lss 20 19] [0,1,18,19,20,21] <| .seq (j 21 (.skip) ((.exit 0))) <| .seq (.block 1 (z [ia 23 2 18 20,ln 24 2 23,.e (some 5) (.al 66 (.agg #[(.string ⟨#[]⟩),(.slice none 0 0)])),m 4 20,s 2 5 24] [0,1,4,5,18,19,20] <| q' [m 25 0,n 26 25,f 27 1 26,l 28 27,f 29 0 5,l 30 29,m 31 1,m 32 4,.r (some 33) (.bd #[(.pointer none),(i 0)] [(0,1,(.t 31)),(1,1,(.t 32))]),.e none (.raw ⟨none,(.mapUpdate 125 (.tmp 28) (.tmp 30) (.tmp 33)),0, "check.go:78",#[⟨3,.data⟩,⟨5,.data⟩,⟨8,.data⟩,⟨0,.phase⟩,⟨1,.phase⟩,⟨2,.phase⟩,⟨3,.phase⟩,⟨4,.phase⟩,⟨5,.phase⟩,⟨6,.phase⟩,⟨7,.phase⟩,⟨8,.phase⟩],none⟩)] [0,1,18,19,20])) <| q [bk 34 .add 20 1,m 20 34] [0,1,18,19,20]
def It:IR:=.seq (q' [m 6 0,n 7 6,f 8 0 7,l 9 8,m 10 1,n 11 10,f 12 0 11,l 13 12,m 14 1,.e none (.raw ⟨none,(.mapUpdate 124 (.tmp 9) (.tmp 13) (.tmp 14)),0, "check.go:76",#[⟨3,.data⟩,⟨7,.data⟩,⟨8,.data⟩,⟨0,.phase⟩,⟨1,.phase⟩,⟨2,.phase⟩,⟨3,.phase⟩,⟨4,.phase⟩,⟨5,.phase⟩,⟨6,.phase⟩,⟨7,.phase⟩,⟨8,.phase⟩],none⟩)] [0,1]) <| z [n 16 1,f 17 2 16,l 18 17,le 19 18,mk 20 0] [0,1,18,19,20] <| .block 0 (.loop Zw)
theorem Zx:Fits Tryz.prog 58 2 (bu Tryz.f58 It) It [] 35:=.m Tryz.f58 _
def Zy:IR:=z [bi 54 .lss 53 52] [0,1,7,51,52,53,54] <| .seq (j 54 (.skip) ((.exit 0))) <| .seq (.block 1 (z [ia 55 2 51 53,ln 56 2 55,.e (some 9) (.al 66 (.agg #[(.string ⟨#[]⟩),(.slice none 0 0)])),s 2 9 56] [0,1,7,9,51,52,53] <| .seq (.seq (.dr (r 0 58 (.mv (.t 0)) <| r 1 59 (.nn (.t 58)) <| r 2 60 (.fa 1 (.t 59)) <| r 3 61 (.l1 (.t 60)) <| r 4 62 (.fa 0 (.t 9)) <| r 5 63 (.l1 (.t 62)) <| .e2 6 (some 64) (.raw ⟨(some 64),(.lookup 125 (.tmp 61) (.tmp 63) true),159, "check.go:202",#[⟨3,.data⟩,⟨5,.data⟩],none⟩) [] (r 7 57 (.mv (.t 64)) <| r 8 65 (.ex 0 (.t 57)) <| r 9 66 (.ex 1 (.t 57)) <| .e 10 none (some 10) (.al 158 (.agg #[(.pointer none),(i 0)])) [3,5] <| .e 11 none none (.st 2 (.t 10) (.t 65)) [] <| r 12 11 (.mv (.t 66)) <| .nil) 10 (some 10) (.al 158 (.agg #[(.pointer none),(i 0)])) [3,5]
   (.e 6 none (some 64) (.raw ⟨(some 64),(.lookup 125 (.tmp 61) (.tmp 63) true),159, "check.go:202",#[⟨3,.data⟩,⟨5,.data⟩],none⟩) [] <| r 7 57 (.mv (.t 64)) <| r 8 65 (.ex 0 (.t 57)) <| r 9 66 (.ex 1 (.t 57)) <| .e 11 none none (.st 2 (.t 10) (.t 65)) [] <| r 12 11 (.mv (.t 66)) <| .nil)) [0,1,7,9,11,51,52,53]) <| z [m 67 11,m 68 67,m' 68 false 69 7,f' 68 false 70 0 9,l' 68 false 71 70,.ge 68 false (some 72) (.raw ⟨(some 72),(.lookup 90 (.tmp 69) (.tmp 71) false),3, "check.go:202",#[⟨2,.data⟩,⟨4,.data⟩,⟨1,.guard⟩],some (1,false)⟩),dK 68 false 73 .gtr 72 0,u 74 68 73,m 75 74,f' 75 false 76 1 9,l' 75 false 77 76,kY 75 false 78 77,dK 75 false 79 .gtr 78 8,u 80 75 79] [0,1,7,9,51,52,53,80] <| j 80 (z [mk 4 81] [4] <| .ret) (.skip)) <| q [m 81 7,f 82 0 9,l 83 82,.e none (.raw ⟨none,(.mapUpdate 90 (.tmp 81) (.tmp 83) (.const (i 1))),0, "check.go:205",#[⟨0,.data⟩,⟨2,.data⟩,⟨0,.phase⟩,⟨1,.phase⟩,⟨2,.phase⟩],none⟩)] [0,1,7,51,52,53])) <| q [bk 84 .add 53 1,m 53 84] [0,1,7,51,52,53]
def Zz:IR:=z [bi 92 .lss 91 90] [1,7,89,90,91,92] <| .seq (j 92 (.skip) ((.exit 2))) <| .seq (.block 3 (z [ia 93 1 89 91,l 94 93,m 13 94] [1,7,13,89,90,91] <| .seq (z [m 95 7,m 96 13,.e (some 97) (.raw ⟨(some 97),(.lookup 90 (.tmp 95) (.tmp 96) false),3, "check.go:209",#[⟨0,.data⟩,⟨1,.data⟩],none⟩),bk 98 .gtr 97 0] [1,7,13,89,90,91,98] <| j 98 (z [mk 4 81] [4] <| .ret) (.skip)) <| q [m 99 7,m 100 13,.e none (.raw ⟨none,(.mapUpdate 90 (.tmp 99) (.tmp 100) (.const (i 1))),0, "check.go:212",#[⟨0,.data⟩,⟨1,.data⟩,⟨0,.phase⟩,⟨1,.phase⟩],none⟩)] [1,7,89,90,91])) <| q [bk 101 .add 91 1,m 91 101] [1,7,89,90,91]
def Iu:IR:=z [] [0,1] <| .seq (z [n 15 1,f 16 0 15,l 17 16,c 18 78 [17],no 19 18,m' 19 false 21 1,n' 19 false 22 21,f' 19 false 23 1 22,l' 19 false 24 23,.ge 19 false (some 25) (.call 79 [(.t 24),(.c (.func (.func 80) #[] #[]))]),u 26 19 25,m' 26 false 28 1,n' 26 false 29 28,f' 26 false 30 2 29,l' 26 false 31 30,.ge 26 false (some 32) (.call 81 [(.t 31),(.c (.func (.func 82) #[] #[]))]),u 33 26 32] [0,1,33] <| j 33 (z [mk 4 82] [4] <| .ret) (.skip)) <| .seq (.seq (q' [m 35 0,n 36 35,f 37 0 36,l 38 37,m 39 1,n 40 39,f 41 0 40,l 42 41,.e (some 43) (.raw ⟨(some 43),(.lookup 124 (.tmp 38) (.tmp 42) true),173, "check.go:197",#[⟨3,.data⟩,⟨7,.data⟩],none⟩),m 34 43,ex 44 0 34,ex 45 1 34,m 5 44,m 6 45] [0,1,6]) <| z [m 46 6] [0,1,46] <| j 46 (z [mk 4 81] [4] <| .ret) (.skip)) <| z [.e (some 47) (.raw ⟨(some 47),(.makeMap 90 none),90, "check.go:200",#[],none⟩),m 7 47] [0,1,7] <| .seq (z [n 49 1,f 50 2 49,l 51 50,le 52 51,mk 53 0] [0,1,7,51,52,53] <| .block 0 (.loop Zy)) <| z [m 85 7,.e none (.raw ⟨none,(.call { callee:=(.builtin .clear),args:=#[(.tmp 85)],argTypes:=#[90]}),0, "check.go:207",#[⟨0,.data⟩],none⟩)] [1,7] <| .seq (z [n 87 1,f 88 1 87,l 89 88,le 90 89,mk 91 0] [1,7,89,90,91] <| .block 2 (.loop Zz)) <| .seq (z [n 103 1,f 104 1 103,l 105 104,le 106 105,bk 107 .gtr 106 6,m' 107 false 109 1,n' 107 false 110 109,f' 107 false 111 2 110,l' 107 false 112 111,kY 107 false 113 112,dK 107 false 114 .eql 113 0,u 115 107 114,m' 115 false 117 1,n' 115 false 118 117,f' 115 false 119 2 118,l' 115 false 120 119,kY 115 false 121 120,dK 115 false 122 .gtr 121 24,u 123 115 122] [123] <| j 123 (z [mk 4 81] [4] <| .ret) (.skip)) <| z [mk 4 0] [4] <| .ret
theorem ZA:Fits Tryz.prog 59 2 (bu Tryz.f59 Iu) Iu [.t 4] 124:=.m Tryz.f59 _
def Iv:IR:=z [.e (some 1) (.bx 42 (.t 0))] [1] <| z [ln 6 3 1,c 7 83 [6],ex 8 0 7,ex 9 1 7,.e (some 3) (.al 42 (.agg #[(i 0),(.string ⟨#[]⟩),(.slice none 0 0)])),s 3 3 8,m 4 9] [4] <| z [bk 11 .eql 4 0,m 2 11] [2] <| .ret
theorem ZB:Fits Tryz.prog 60 1 (bu Tryz.f60 Iv) Iv [.t 2] 12:=.m Tryz.f60 _
def ZC:IR:=z [bi 56 .lss 55 54] [0,53,54,55,56] <| .seq (j 56 (.skip) ((.exit 1))) <| .seq (.block 2 (z [ia 57 3 53 55,ln 58 3 57,.e (some 8) (.al 42 (.agg #[(i 0),(.string ⟨#[]⟩),(.slice none 0 0)])),s 3 8 58] [0,8,53,54,55] <| z [ln 60 3 8,c 61 61 [0,60],no 62 61] [0,53,54,55,62] <| j 62 (z [.r (some 4) (.mv (.c (.bool false)))] [4] <| .ret) (.skip))) <| q [bk 63 .add 55 1,m 55 63] [0,53,54,55]
def Iw:IR:=z [.e (some 3) (.bx 42 (.t 1))] [0,3] <| .seq (z [f 9 0 3,l 10 9] [0,3,10] <| .block 0 (z [bk 12 .eql 10 2,m 11 12] [0,3,10,11] <| j 11 (.seq (q' [m 13 0,n 14 13,f 15 4 14,l 16 15,m 17 16,m' 17 false 18 0,n' 17 false 19 18,f' 17 false 20 3 19,l' 17 false 21 20,f' 17 false 22 1 3,l' 17 false 23 22,.ge 17 false (some 24) (.raw ⟨(some 24),(.lookup 90 (.tmp 21) (.tmp 23) false),3, "check.go:104",#[⟨8,.data⟩,⟨10,.data⟩,⟨4,.guard⟩],some (4,false)⟩),dK 17 false 25 .gtr 24 0,u 26 17 25,m 4 26] [4]) <| .ret) (z [bk 28 .eql 10 4,m 27 28] [0,3,27] <| j 27 (.seq (q' [m 30 0,n 31 30,f 32 0 31,l 33 32,f 34 1 3,l 35 34,.e (some 36) (.raw ⟨(some 36),(.lookup 124 (.tmp 33) (.tmp 35) true),173, "check.go:106",#[⟨3,.data⟩,⟨5,.data⟩],none⟩),m 29 36,ex 37 0 29,ex 38 1 29,m 5 37,m 6 38] [0,3,5,6]) <| .seq (q' [m 39 6,no 40 39,m 41 40,m' 41 false 42 5,n' 41 false 43 42,f' 41 false 44 1 43,l' 41 false 45 44,kY 41 false 46 45,f' 41 false 47 2 3,l' 41 false 48 47,kY 41 false 49 48,mN 41 false 50 .neq 46 49,u 51 41 50] [0,3,51]) <| j 51 (z [.r (some 4) (.mv (.c (.bool false)))] [4] <| .ret) (.skip)) (.skip)))) <| .seq (z [f 52 2 3,l 53 52,le 54 53,mk 55 0] [0,53,54,55] <| .block 1 (.loop ZC)) <| z [.r (some 4) (.mv (.c (.bool true)))] [4] <| .ret
theorem ZD:Fits Tryz.prog 61 2 (bu Tryz.f61 Iw) Iw [.t 4] 64:=.m Tryz.f61 _
def Ix:IR:=z [.e (some 1) (.bx 47 (.t 0))] [1] <| z [f 9 3 1,l 10 9,le 11 10,f 12 4 1,l 13 12,le 14 13,f 15 5 1,l 16 15,le 17 16,f 18 6 1,l 19 18,le 20 19,.r (some 21) (.bd #[(i 0),(i 0),(i 0),(i 0)] [(0,1,(.t 11)),(1,1,(.t 14)),(2,1,(.t 17)),(3,1,(.t 20))]),.e (some 3) (.al 176 (.agg #[(i 0),(i 0),(i 0),(i 0)])),s 4 3 21] [1,3] <| z [.r (some 4) (.mv (.c (.bool false))),.r (some 5) (.mv (.c (.bool false))),.r (some 6) (.mv (.c (.bool false)))] [1,3,4,5,6] <| .seq (z [f 22 0 1,l 23 22] [1,3,4,5,6,23] <| .block 0 (z [bk 25 .eql 23 1,m 24 25] [1,3,4,5,6,23,24] <| j 24 (q' [ln 26 4 3,.r (some 27) (.bd #[(i 0),(i 0),(i 0),(i 0)] []),.r (some 28) (.jL false [(0,.int),(1,.int),(2,.int),(3,.int)] (.t 26) (.t 27)),.r (some 4) (.mv (.c (.bool true))),m 6 28] [1,4,5,6]) (z [bk 30 .eql 23 2,m 29 30] [1,3,4,5,6,23,29] <| j 29 (q' [ln 31 4 3,.r (some 32) (.bd #[(i 0),(i 0),(i 0),(i 0)] []),.r (some 33) (.jL false [(0,.int),(1,.int),(2,.int),(3,.int)] (.t 31) (.t 32)),m 34 33,f' 34 true 35 2 1,l' 34 true 36 35,dK 34 true 37 .geq 36 (-4611686018427387904),a 38 34 37,m 39 38,f' 39 true 40 2 1,l' 39 true 41 40,dK 39 true 42 .leq 41 4611686018427387903,a 43 39 42,.r (some 5) (.mv (.c (.bool true))),m 6 43] [1,4,5,6]) (.seq (z [bk 45 .eql 23 3,m 44 45] [1,3,4,5,6,23,44] <| j 44 (.skip) (q [bk 46 .eql 23 4,m 44 46] [1,3,4,5,6,23,44])) <| j 44 (q' [ln 47 4 3,f 48 0 3,l 49 48,.r (some 50) (.bd #[(i 0),(i 0),(i 0),(i 0)] [(0,1,(.t 49))]),.r (some 51) (.jL false [(0,.int),(1,.int),(2,.int),(3,.int)] (.t 47) (.t 50)),.r (some 4) (.mv (.c (.bool true))),m 6 51] [1,4,5,6]) (.seq (z [bk 53 .eql 23 5,m 52 53] [1,3,4,5,6,23,52] <| j 52 (.skip) (q [bk 54 .eql 23 10,m 52 54] [1,3,4,5,6,23,52])) <| j 52 (q [ln 55 4 3,.r (some 56) (.bd #[(i 0),(i 0),(i 0),(i 0)] [(1,1,(k 2))]),.r (some 57) (.jL false [(0,.int),(1,.int),(2,.int),(3,.int)] (.t 55) (.t 56)),m 6 57] [1,4,5,6]) (z [bk 59 .eql 23 6,m 58 59] [1,3,4,5,6,23,58] <| j 58 (q [ln 60 4 3,.r (some 61) (.bd #[(i 0),(i 0),(i 0),(i 0)] [(1,1,(k 1)),(2,1,(k 1))]),.r (some 62) (.jL false [(0,.int),(1,.int),(2,.int),(3,.int)] (.t 60) (.t 61)),f' 62 true 64 5 1,l' 62 true 65 64,.gr 62 true (some 66) (.ia 11 (.t 65) (k 0)),f' 62 true 67 4 66,tZ 62 true 68 7 67,.ge 62 true (some 69) (.call 84 [(.t 68)]),a 70 62 69,m 6 70] [1,4,5,6]) (z [bk 72 .eql 23 7,m 71 72] [1,3,4,5,6,23,71] <| j 71 (q [ln 73 4 3,f 74 2 3,l 75 74,.r (some 76) (.bd #[(i 0),(i 0),(i 0),(i 0)] [(1,1,(k 1)),(2,1,(.t 75))]),.r (some 77) (.jL false [(0,.int),(1,.int),(2,.int),(3,.int)] (.t 73) (.t 76)),f' 77 true 79 2 3,l' 77 true 80 79,dK 77 true 81 .geq 80 1,a 82 77 81,m 6 82] [1,4,5,6]) (z [bk 84 .eql 23 8,m 83 84] [1,3,4,5,6,23,83] <| j 83 (q [ln 85 4 3,f 86 3 3,l 87 86,.r (some 88) (.bd #[(i 0),(i 0),(i 0),(i 0)] [(1,1,(k 1)),(3,1,(.t 87))]),.r (some 89) (.jL false [(0,.int),(1,.int),(2,.int),(3,.int)] (.t 85) (.t 88)),f' 89 true 91 3 3,l' 89 true 92 91,dK 89 true 93 .geq 92 1,a 94 89 93,m 6 94] [1,4,5,6]) (z [bk 96 .eql 23 9,m 95 96] [1,3,4,5,6,23,95] <| j 95 (z [f 98 1 1,l 99 98,c 100 85 [99],ex 101 0 100,ex 102 1 100,.e (some 7) (.al 42 (.agg #[(i 0),(.string ⟨#[]⟩),(.slice none 0 0)])),s 3 7 101,m 8 102] [1,3,5,8] <| q [ln 103 4 3,.r (some 104) (.bd #[(i 0),(i 0),(i 0),(i 0)] [(1,1,(k 2))]),.r (some 105) (.jL false [(0,.int),(1,.int),(2,.int),(3,.int)] (.t 103) (.t 104)),m' 105 true 107 8,a 108 105 107,.r (some 4) (.mv (.c (.bool true))),m 6 108] [1,4,5,6]) (z [bk 110 .eql 23 11,m 109 110] [1,3,4,5,6,23,109] <| j 109 (q [ln 111 4 3,.r (some 112) (.bd #[(i 0),(i 0),(i 0),(i 0)] [(1,1,(k 1)),(2,1,(k 1))]),.r (some 113) (.jL false [(0,.int),(1,.int),(2,.int),(3,.int)] (.t 111) (.t 112)),m 6 113] [1,4,5,6]) (z [bk 115 .eql 23 12,m 114 115] [1,3,4,5,6,114] <| j 114 (q' [ln 116 4 3,.r (some 117) (.bd #[(i 0),(i 0),(i 0),(i 0)] [(0,1,(k 1))]),.r (some 118) (.jL false [(0,.int),(1,.int),(2,.int),(3,.int)] (.t 116) (.t 117)),m 119 118,f' 119 true 120 2 1,l' 119 true 121 120,dK 119 true 122 .geq 121 1,a 123 119 122,m 124 123,f' 124 true 125 2 1,l' 124 true 126 125,dK 124 true 127 .leq 126 4,a 128 124 127,.r (some 5) (.mv (.c (.bool true))),m 6 128] [1,4,5,6]) (.skip)))))))))))) <| z [m' 6 true 131 4,m' 6 true 132 131,f' 132 false 133 1 1,l' 132 false 134 133,.gr 132 false (some 135) (.bi .eql (.t 134) (.c (.string ⟨#[]⟩))),.gr 6 true (some 136) (.pk (.t 132) (.c (.bool true)) (.t 135)),a 137 6 136,m' 137 true 139 5,m' 137 true 140 139,f' 140 false 141 2 1,l' 140 false 142 141,dK 140 false 143 .eql 142 0,.gr 137 true (some 144) (.pk (.t 140) (.c (.bool true)) (.t 143)),a 145 137 144,m 2 145] [2] <| .ret
theorem ZE:Fits Tryz.prog 62 1 (bu Tryz.f62 Ix) Ix [.t 2] 146:=.m Tryz.f62 _
def Iy:IR:=z [.e (some 0) (.al 42 (.agg #[(i 0),(.string ⟨#[]⟩),(.slice none 0 0)]))] [0] <| z [.r (some 1) (.bd #[(i 0),(.string ⟨#[]⟩),(.slice none 0 0)] [(0,1,(k 1))]),s 3 0 1] [0] <| .ret
theorem ZF:Fits Tryz.prog 63 0 (bu Tryz.f63 Iy) Iy [.n 0 3] 2:=.m Tryz.f63 _
def ZG:IR:=z [bi 23 .lss 22 21] [0,2,3,5,8,20,21,22,23] <| .seq (j 23 (.skip) ((.exit 0))) <| .seq (.block 1 (z [ia 24 3 20 22,ln 25 3 24,.e (some 11) (.al 42 (.agg #[(i 0),(.string ⟨#[]⟩),(.slice none 0 0)])),s 3 11 25] [0,2,3,5,8,11,20,21,22] <| z [ln 27 3 11,c 28 46 [0,27],no 29 28] [0,2,3,5,8,20,21,22,29] <| j 29 (z [.r (some 30) (.bd #[(i 0),(.string ⟨#[]⟩),(.slice none 0 0)] []),s 3 8 30,mk 9 83] [8,9] <| .ret) (.skip))) <| q [bk 31 .add 22 1,m 22 31] [0,2,3,5,8,20,21,22]
def Iz:IR:=z [.e (some 5) (.bx 42 (.t 1)),.e (some 8) (.al 42 (.agg #[(i 0),(.string ⟨#[]⟩),(.slice none 0 0)]))] [0,2,3,5,8] <| .seq (z [le 15 2,le 17 3,bi 18 .neq 15 17] [0,2,3,5,8,18] <| j 18 (z [.r (some 19) (.bd #[(i 0),(.string ⟨#[]⟩),(.slice none 0 0)] []),s 3 8 19,mk 9 83] [8,9] <| .ret) (.skip)) <| .seq (z [m 20 3,le 21 20,mk 22 0] [0,2,3,5,8,20,21,22] <| .block 0 (.loop ZG)) <| z [ln 33 3 5,c 36 86 [33,2,3],ex 37 0 36,ex 38 1 36,.e (some 12) (.al 42 (.agg #[(i 0),(.string ⟨#[]⟩),(.slice none 0 0)])),s 3 12 37,m 13 38] [8,12,13] <| .seq (z [no 40 13] [8,12,40] <| j 40 (z [.r (some 41) (.bd #[(i 0),(.string ⟨#[]⟩),(.slice none 0 0)] []),s 3 8 41,mk 9 83] [8,9] <| .ret) (.skip)) <| z [ln 42 3 12,s 3 8 42,mk 9 0] [8,9] <| .ret
theorem ZH:Fits Tryz.prog 64 4 (bu Tryz.f64 Iz) Iz [.n 8 3,.t 9] 43:=.m Tryz.f64 _
def ZI:IR:=z [bi 16 .lss 15 14] [1,2,3,13,14,15,16] <| .seq (j 16 (.skip) ((.exit 0))) <| .seq (.block 1 (z [ia 17 1 13 15,l 18 17,m 5 18] [1,2,3,5,13,14,15] <| q [c 21 76 [5],.e (some 22) (.bs 42 1 #[(i 0),(.string ⟨#[]⟩),(.slice none 0 0)] [(0,3,(.t 21))]),.e (some 23) (.ap 42 3 48 #[(i 0),(.string ⟨#[]⟩),(.slice none 0 0)] (.t 3) (.t 22)),m 3 23] [1,2,3,13,14,15])) <| q [bk 24 .add 15 1,m 15 24] [1,2,3,13,14,15]
def Pb:IR:=.seq (z [bk 46 .geq 8 0] [2,6,7,8,46] <| j 46 (.skip) ((.exit 2))) <| .seq (.block 3 (q' [m 49 7,m 50 8,ia 51 3 49 50,ln 52 3 51,ln 53 3 6,c 54 87 [52,53],s 3 6 54] [2,6,7,8])) <| q [bk 48 .sub 8 1,m 8 48] [2,6,7,8]
def IA:IR:=z [.e (some 1) (.bx 158 (.t 0)),.e (some 2) (.al 42 (.agg #[(i 0),(.string ⟨#[]⟩),(.slice none 0 0)]))] [1,2] <| z [.r (some 3) (.mv (.c (.slice none 0 0)))] [1,2,3] <| .seq (z [f 9 0 1,l 10 9,n 11 10,f 12 1 11,l 13 12,le 14 13,mk 15 0] [1,2,3,13,14,15] <| .block 0 (.loop ZI)) <| z [f 25 0 1,l 26 25,n 27 26,f 28 0 27,l 29 28,c 31 77 [29,3],.e (some 6) (.al 42 (.agg #[(i 0),(.string ⟨#[]⟩),(.slice none 0 0)])),s 3 6 31] [1,2,6] <| .seq (q' [f 32 0 1,l 33 32,n 34 33,f 35 2 34,l 36 35,f 37 1 1,l 38 37,ia 39 2 36 38,f 40 1 39,l 41 40,m 7 41] [2,6,7]) <| .seq (z [le 43 7,bk 44 .sub 43 1,m 8 44] [2,6,7,8] <| .block 2 (.loop Pb)) <| z [ln 55 3 6,s 3 2 55] [2] <| .ret
theorem ZJ:Fits Tryz.prog 65 1 (bu Tryz.f65 IA) IA [.n 2 3] 56:=.m Tryz.f65 _
def IB:IR:=z [.e (some 3) (.bx 47 (.t 1)),.e (some 4) (.al 42 (.agg #[(i 0),(.string ⟨#[]⟩),(.slice none 0 0)]))] [0,3,4] <| z [f 11 4 3,l 12 11,.r (some 13) (.ia 7 (.t 12) (k 0)),ln 14 7 13,c 15 47 [0,14],ex 16 0 15,ex 17 1 15,.e (some 6) (.al 42 (.agg #[(i 0),(.string ⟨#[]⟩),(.slice none 0 0)])),s 3 6 16,m 7 17] [0,3,4,6,7] <| .seq (z [bk 19 .neq 7 0] [0,3,4,6,7,19] <| j 19 (z [.r (some 20) (.bd #[(i 0),(.string ⟨#[]⟩),(.slice none 0 0)] []),s 3 4 20,m 5 7] [4,5] <| .ret) (.skip)) <| z [f 24 4 3,l 25 24,.r (some 26) (.ia 7 (.t 25) (k 1)),ln 27 7 26,c 28 47 [0,27],ex 29 0 28,ex 30 1 28,.e (some 8) (.al 42 (.agg #[(i 0),(.string ⟨#[]⟩),(.slice none 0 0)])),s 3 8 29,m 7 30] [4,6,7,8] <| .seq (z [bk 32 .neq 7 0] [4,6,7,8,32] <| j 32 (z [.r (some 33) (.bd #[(i 0),(.string ⟨#[]⟩),(.slice none 0 0)] []),s 3 4 33,m 5 7] [4,5] <| .ret) (.skip)) <| .seq (.seq (q' [f 35 0 6,l 36 35,bk 37 .neq 36 3,m 38 37,f' 38 false 39 2 6,l' 38 false 40 39,.gr 38 false (some 41) (.ia 3 (.t 40) (k 0)),tZ 38 false 42 3 41,tZ 38 false 43 3 8,.ge 38 false (some 44) (.call 48 [(.t 42),(.t 43)]),xN 38 false 45 44,u 46 38 45] [4,6,46]) <| j 46 (z [.r (some 47) (.bd #[(i 0),(.string ⟨#[]⟩),(.slice none 0 0)] []),s 3 4 47,mk 5 83] [4,5] <| .ret) (.skip)) <| z [f 48 2 6,l 49 48,.r (some 50) (.ia 3 (.t 49) (k 1)),ln 51 3 50,s 3 4 51,mk 5 0] [4,5] <| .ret
theorem ZK:Fits Tryz.prog 66 2 (bu Tryz.f66 IB) IB [.n 4 3,.t 5] 52:=.m Tryz.f66 _
def Pc:IR:=z [bk 13 .lss 12 2] [0,3,4,6,12,13] <| .seq (j 13 (.skip) ((.exit 0))) <| .seq (.block 1 (z [m 7 12] [0,3,4,6,7,12] <| z [f 17 4 3,l 18 17,ia 20 7 18 7,ln 21 7 20,c 22 47 [0,21],ex 23 0 22,ex 24 1 22,.e (some 8) (.al 42 (.agg #[(i 0),(.string ⟨#[]⟩),(.slice none 0 0)])),s 3 8 23,m 9 24] [0,3,4,6,7,8,9,12] <| .seq (z [bk 26 .neq 9 0] [0,3,4,6,7,8,9,12,26] <| j 26 (z [.r (some 27) (.bd #[(i 0),(.string ⟨#[]⟩),(.slice none 0 0)] []),s 3 4 27,m 5 9] [4,5] <| .ret) (.skip)) <| q [m 29 7,ln 30 3 8,.e (some 31) (.raw ⟨(some 31),(.indexAddr 180 (.tmp 6) (.tmp 29)),0, "expr.go:186",#[⟨0,.data⟩,⟨0,.phase⟩,⟨1,.phase⟩],none⟩),s 3 31 30] [0,3,4,6,12])) <| q [bk 32 .add 12 1,m 12 32] [0,3,4,6,12]
def IC:IR:=z [.e (some 3) (.bx 47 (.t 1)),.e (some 4) (.al 42 (.agg #[(i 0),(.string ⟨#[]⟩),(.slice none 0 0)]))] [0,3,4] <| z [.e (some 6) (.al 180 (.agg #[(i 0),(.string ⟨#[]⟩),(.slice none 0 0),(i 0),(.string ⟨#[]⟩),(.slice none 0 0)]))] [0,3,4,6] <| .seq (z [mk 12 0] [0,3,4,6,12] <| .block 0 (.loop Pc)) <| .seq (z [.e (some 33) (.raw ⟨(some 33),(.indexAddr 180 (.tmp 6) (.const (i 0))),0, "expr.go:188",#[],none⟩),f 34 0 33,l 35 34,bk 36 .neq 35 1,m 37 36,.ge 37 false (some 38) (.raw ⟨(some 38),(.indexAddr 180 (.tmp 6) (.const (i 1))),0, "expr.go:188",#[⟨4,.guard⟩],some (4,false)⟩),f' 37 false 39 0 38,l' 37 false 40 39,dK 37 false 41 .neq 40 1,u 42 37 41] [3,4,42] <| j 42 (z [.r (some 43) (.bd #[(i 0),(.string ⟨#[]⟩),(.slice none 0 0)] []),s 3 4 43,mk 5 83] [4,5] <| .ret) (.skip)) <| z [f 45 1 3,l 46 45,c 47 85 [46],ex 48 0 47,ex 49 1 47,.e (some 10) (.al 42 (.agg #[(i 0),(.string ⟨#[]⟩),(.slice none 0 0)])),s 3 10 48] [4,10] <| z [ln 50 3 10,s 3 4 50,mk 5 0] [4,5] <| .ret
theorem ZL:Fits Tryz.prog 67 2 (bu Tryz.f67 IC) IC [.n 4 3,.t 5] 51:=.m Tryz.f67 _
def ID:IR:=z [.e (some 3) (.bx 47 (.t 1)),.e (some 4) (.al 42 (.agg #[(i 0),(.string ⟨#[]⟩),(.slice none 0 0)]))] [0,3,4] <| z [f 10 5 3,l 11 10,.r (some 12) (.ia 11 (.t 11) (k 0)),ln 13 11 12,.e (some 6) (.al 95 (.agg #[(.string ⟨#[]⟩),(i 0),(.string ⟨#[]⟩),(.slice none 0 0),(i 0),(.string ⟨#[]⟩),(i 0),(.slice none 0 0),(.slice none 0 0),(.slice none 0 0),(.slice none 0 0)])),s 11 6 13] [0,3,4,6] <| .seq (z [ln 15 11 6,c 16 88 [0,15],m 7 16] [0,3,4,6,7] <| z [bk 18 .neq 7 0] [0,3,4,6,7,18] <| j 18 (z [.r (some 19) (.bd #[(i 0),(.string ⟨#[]⟩),(.slice none 0 0)] []),s 3 4 19,m 5 7] [4,5] <| .ret) (.skip)) <| .seq (q' [m 21 0,n 22 21,f 23 6 22,l 24 23,f 25 0 6,l 26 25,f 27 1 6,ln 28 3 27,.e none (.raw ⟨none,(.mapUpdate 127 (.tmp 24) (.tmp 26) (.tmp 28)),0, "expr.go:212",#[⟨3,.data⟩,⟨5,.data⟩,⟨7,.data⟩,⟨0,.phase⟩,⟨1,.phase⟩,⟨2,.phase⟩,⟨3,.phase⟩,⟨4,.phase⟩,⟨5,.phase⟩,⟨6,.phase⟩,⟨7,.phase⟩],none⟩)] [0,3,4,6]) <| z [f 31 4 3,l 32 31,.r (some 33) (.ia 7 (.t 32) (k 0)),ln 34 7 33,c 35 47 [0,34],ex 36 0 35,ex 37 1 35,.e (some 8) (.al 42 (.agg #[(i 0),(.string ⟨#[]⟩),(.slice none 0 0)])),s 3 8 36,m 9 37] [0,4,6,8,9] <| .seq (q' [m 38 0,n 39 38,f 40 6 39,l 41 40,f 42 0 6,l 43 42,.e none (.raw ⟨none,(.call { callee:=(.builtin .delete),args:=#[(.tmp 41),(.tmp 43)],argTypes:=#[127,9]}),0, "expr.go:214",#[⟨3,.data⟩,⟨5,.data⟩],none⟩)] [4,6,8,9]) <| .seq (z [bk 45 .neq 9 0] [4,6,8,9,45] <| j 45 (z [.r (some 46) (.bd #[(i 0),(.string ⟨#[]⟩),(.slice none 0 0)] []),s 3 4 46,m 5 9] [4,5] <| .ret) (.skip)) <| .seq (.seq (.dr (r 0 48 (.fa 1 (.t 6)) <| r 1 49 (.ln 3 (.t 48)) <| r 3 51 (.ln 3 (.t 8)) <| .e 2 none (some 50) (.call 55 [(.t 49)]) [3] <| .e 4 none (some 52) (.call 55 [(.t 51)]) [] <| r 5 53 (.bi .add (.t 50) (.t 52)) <| r 6 54 (.bi .add (.t 53) (k 1)) <| r 7 55 (.bi .gtr (.t 54) (k 500)) <| .nil) [4,6,8,55]) <| j 55 (z [.r (some 56) (.bd #[(i 0),(.string ⟨#[]⟩),(.slice none 0 0)] []),s 3 4 56,mk 5 83] [4,5] <| .ret) (.skip)) <| z [f 57 1 6,ln 58 3 57,ln 59 3 8,c 60 87 [58,59],s 3 4 60,mk 5 0] [4,5] <| .ret
theorem ZM:Fits Tryz.prog 68 2 (bu Tryz.f68 ID) ID [.n 4 3,.t 5] 61:=.m Tryz.f68 _
def ZN:IR:=z [bi 22 .lss 21 20] [2,3,4,19,20,21,22] <| .seq (j 22 (.skip) ((.exit 0))) <| .seq (.block 1 (z [ia 23 11 19 21,ln 24 11 23,.e (some 7) (.al 95 (.agg #[(.string ⟨#[]⟩),(i 0),(.string ⟨#[]⟩),(.slice none 0 0),(i 0),(.string ⟨#[]⟩),(i 0),(.slice none 0 0),(.slice none 0 0),(.slice none 0 0),(.slice none 0 0)])),s 11 7 24] [2,3,4,7,19,20,21] <| z [l 25 2,ln 26 11 7,c 27 88 [25,26],m 8 27] [2,3,4,8,19,20,21] <| z [bk 29 .neq 8 0] [2,3,4,8,19,20,21,29] <| j 29 (z [.r (some 30) (.bd #[(i 0),(.string ⟨#[]⟩),(.slice none 0 0)] []),s 3 4 30,m 5 8] [4,5] <| .ret) (.skip))) <| q [bk 32 .add 21 1,m 21 32] [2,3,4,19,20,21]
def ZO:IR:=z [bi 43 .lss 42 41] [2,3,4,9,40,41,42,43] <| .seq (j 43 (.skip) ((.exit 2))) <| .seq (.block 3 (z [ia 44 11 40 42,ln 45 11 44,.e (some 11) (.al 95 (.agg #[(.string ⟨#[]⟩),(i 0),(.string ⟨#[]⟩),(.slice none 0 0),(i 0),(.string ⟨#[]⟩),(i 0),(.slice none 0 0),(.slice none 0 0),(.slice none 0 0),(.slice none 0 0)])),s 11 11 45] [2,3,4,9,11,40,41,42] <| z [l 47 2,f 48 4 11,ln 49 7 48,c 50 47 [47,49],ex 51 0 50,ex 52 1 50,.e (some 12) (.al 42 (.agg #[(i 0),(.string ⟨#[]⟩),(.slice none 0 0)])),s 3 12 51,m 13 52] [2,3,4,9,11,12,13,40,41,42] <| .seq (z [bk 54 .neq 13 0] [2,3,4,9,11,12,13,40,41,42,54] <| j 54 (z [.r (some 55) (.bd #[(i 0),(.string ⟨#[]⟩),(.slice none 0 0)] []),s 3 4 55,m 5 13] [4,5] <| .ret) (.skip)) <| z [ln 57 3 12,f 58 1 11,ln 59 3 58,c 60 48 [57,59],no 61 60] [2,3,4,9,40,41,42,61] <| j 61 (z [.r (some 62) (.bd #[(i 0),(.string ⟨#[]⟩),(.slice none 0 0)] []),s 3 4 62,mk 5 83] [4,5] <| .ret) (.skip))) <| q [bk 63 .add 42 1,m 42 63] [2,3,4,9,40,41,42]
def ZP:IR:=z [bi 79 .lss 78 77] [2,4,14,15,76,77,78,79] <| .seq (j 79 (.skip) ((.exit 4))) <| .seq (.block 5 (z [ia 80 11 76 78,ln 81 11 80,.e (some 17) (.al 95 (.agg #[(.string ⟨#[]⟩),(i 0),(.string ⟨#[]⟩),(.slice none 0 0),(i 0),(.string ⟨#[]⟩),(i 0),(.slice none 0 0),(.slice none 0 0),(.slice none 0 0),(.slice none 0 0)])),s 11 17 81] [2,4,14,15,17,76,77,78] <| q' [l 82 2,n 83 82,f 84 6 83,l 85 84,f 86 0 17,l 87 86,.e none (.raw ⟨none,(.call { callee:=(.builtin .delete),args:=#[(.tmp 85),(.tmp 87)],argTypes:=#[127,9]}),0, "expr.go:251",#[⟨3,.data⟩,⟨5,.data⟩],none⟩)] [2,4,14,15,76,77,78])) <| q [bk 88 .add 78 1,m 78 88] [2,4,14,15,76,77,78]
def IE:IR:=z [.e (some 2) (.bx 98 (.t 0)),.e (some 3) (.bx 47 (.t 1)),.e (some 4) (.al 42 (.agg #[(i 0),(.string ⟨#[]⟩),(.slice none 0 0)]))] [2,3,4] <| .seq (z [f 18 5 3,l 19 18,le 20 19,mk 21 0] [2,3,4,19,20,21] <| .block 0 (.loop ZN)) <| z [.r (some 33) (.mf (.func 89) [] [(.t 3),(.t 2)]),m 9 33] [2,3,4,9] <| .seq (z [f 34 0 3,l 35 34,bk 36 .eql 35 7] [2,3,4,9,36] <| j 36 (q [m 37 9,.e (some 38) (.raw ⟨(some 38),(.call { callee:=(.value (.tmp 37)),args:=#[],argTypes:=#[]}),0, "expr.go:237",#[⟨0,.data⟩],none⟩)] [2,3,4,9]) (.skip)) <| .seq (z [f 39 5 3,l 40 39,le 41 40,mk 42 0] [2,3,4,9,40,41,42] <| .block 2 (.loop ZO)) <| z [m 64 9,.e (some 65) (.raw ⟨(some 65),(.call { callee:=(.value (.tmp 64)),args:=#[],argTypes:=#[]}),0, "expr.go:248",#[⟨0,.data⟩],none⟩)] [2,3,4] <| .seq (.dr (r 0 67 (.l1 (.t 2)) <| r 1 68 (.fa 4 (.t 3)) <| r 2 69 (.l1 (.t 68)) <| r 3 70 (.ia 7 (.t 69) (k 0)) <| r 4 71 (.ln 7 (.t 70)) <| .e2 5 (some 72) (.call 47 [(.t 67),(.t 71)]) [] (r 6 66 (.mv (.t 72)) <| r 7 73 (.ex 0 (.t 66)) <| r 8 74 (.ex 1 (.t 66)) <| .e 9 none (some 14) (.al 42 (.agg #[(i 0),(.string ⟨#[]⟩),(.slice none 0 0)])) [0,2,4] <| .e 10 none none (.st 3 (.t 14) (.t 73)) [] <| r 11 15 (.mv (.t 74)) <| .nil) 9 (some 14) (.al 42 (.agg #[(i 0),(.string ⟨#[]⟩),(.slice none 0 0)])) [0,2,4]
   (.e 5 none (some 72) (.call 47 [(.t 67),(.t 71)]) [] <| r 6 66 (.mv (.t 72)) <| r 7 73 (.ex 0 (.t 66)) <| r 8 74 (.ex 1 (.t 66)) <| .e 10 none none (.st 3 (.t 14) (.t 73)) [] <| r 11 15 (.mv (.t 74)) <| .nil)) [2,3,4,14,15]) <| .seq (z [f 75 5 3,l 76 75,le 77 76,mk 78 0] [2,4,14,15,76,77,78] <| .block 4 (.loop ZP)) <| z [ln 89 3 14,s 3 4 89,m 5 15] [4,5] <| .ret
theorem ZQ:Fits Tryz.prog 69 2 (bu Tryz.f69 IE) IE [.n 4 3,.t 5] 91:=.m Tryz.f69 _
def ZR:IR:=z [bi 39 .lss 38 37] [0,3,4,6,8,36,37,38,39] <| .seq (j 39 (.skip) ((.exit 0))) <| .seq (.block 1 (z [ia 41 11 36 38,ln 42 11 41,.e (some 10) (.al 97 (.agg #[(i 0),(.string ⟨#[]⟩),(i 0),(.slice none 0 0),(i 0),(.string ⟨#[]⟩),(i 0),(.slice none 0 0),(.slice none 0 0),(.slice none 0 0),(.slice none 0 0)])),m 9 38,s 11 10 42] [0,3,4,6,8,9,10,36,37,38] <| .seq (z [f 43 6 3,l 44 43,ln 46 3 6,c 47 90 [44,9,46],no 48 47] [0,3,4,6,8,9,10,36,37,38,48] <| j 48 (z [.r (some 49) (.bd #[(i 0),(.string ⟨#[]⟩),(.slice none 0 0)] []),s 3 4 49,mk 5 84] [4,5] <| .ret) (.skip)) <| z [ln 52 11 10,ln 53 3 6,c 54 91 [0,52,53],ex 55 0 54,ex 56 1 54,.e (some 11) (.al 42 (.agg #[(i 0),(.string ⟨#[]⟩),(.slice none 0 0)])),s 3 11 55,m 12 56] [0,3,4,6,8,9,11,12,36,37,38] <| .seq (z [bk 58 .neq 12 0] [0,3,4,6,8,9,11,12,36,37,38,58] <| j 58 (z [.r (some 59) (.bd #[(i 0),(.string ⟨#[]⟩),(.slice none 0 0)] []),s 3 4 59,m 5 12] [4,5] <| .ret) (.skip)) <| z [bk 62 .eql 9 0] [0,3,4,6,8,11,36,37,38,62] <| j 62 (q [ln 63 3 11,s 3 8 63] [0,3,4,6,8,36,37,38]) (z [ln 64 3 11,ln 65 3 8,c 66 48 [64,65],no 67 66] [0,3,4,6,8,36,37,38,67] <| j 67 (z [.r (some 68) (.bd #[(i 0),(.string ⟨#[]⟩),(.slice none 0 0)] []),s 3 4 68,mk 5 83] [4,5] <| .ret) (.skip)))) <| q [bk 69 .add 38 1,m 38 69] [0,3,4,6,8,36,37,38]
def IF:IR:=z [.e (some 3) (.bx 47 (.t 1)),.e (some 4) (.al 42 (.agg #[(i 0),(.string ⟨#[]⟩),(.slice none 0 0)]))] [0,3,4] <| z [f 15 4 3,l 16 15,.r (some 17) (.ia 7 (.t 16) (k 0)),ln 18 7 17,c 19 47 [0,18],ex 20 0 19,ex 21 1 19,.e (some 6) (.al 42 (.agg #[(i 0),(.string ⟨#[]⟩),(.slice none 0 0)])),s 3 6 20,m 7 21] [0,3,4,6,7] <| .seq (z [bk 23 .neq 7 0] [0,3,4,6,7,23] <| j 23 (z [.r (some 24) (.bd #[(i 0),(.string ⟨#[]⟩),(.slice none 0 0)] []),s 3 4 24,m 5 7] [4,5] <| .ret) (.skip)) <| .seq (z [f 26 0 6,l 27 26,bk 28 .neq 27 1,f' 28 true 30 0 6,l' 28 true 31 30,dK 28 true 32 .neq 31 4,a 33 28 32] [0,3,4,6,33] <| j 33 (z [.r (some 34) (.bd #[(i 0),(.string ⟨#[]⟩),(.slice none 0 0)] []),s 3 4 34,mk 5 83] [4,5] <| .ret) (.skip)) <| z [.e (some 8) (.al 42 (.agg #[(i 0),(.string ⟨#[]⟩),(.slice none 0 0)]))] [0,3,4,6,8] <| .seq (z [f 35 6 3,l 36 35,le 37 36,mk 38 0] [0,3,4,6,8,36,37,38] <| .block 0 (.loop ZR)) <| z [ln 70 3 8,s 3 4 70,mk 5 0] [4,5] <| .ret
theorem ZS:Fits Tryz.prog 70 2 (bu Tryz.f70 IF) IF [.n 4 3,.t 5] 71:=.m Tryz.f70 _
def ZT:IR:=z [bi 18 .lss 17 16] [1,2,15,16,17,18] <| .seq (j 18 (.skip) ((.exit 0))) <| .seq (.block 1 (z [ia 20 3 15 17,ln 21 3 20,.e (some 8) (.al 42 (.agg #[(i 0),(.string ⟨#[]⟩),(.slice none 0 0)])),m 7 17,s 3 8 21] [1,2,7,8,15,16,17] <| z [ia 24 3 1 7,ln 25 3 24,.e (some 9) (.al 42 (.agg #[(i 0),(.string ⟨#[]⟩),(.slice none 0 0)])),s 3 9 25] [1,2,8,9,15,16,17] <| z [m 26 2,ln 27 3 8,ln 28 3 9,.e (some 29) (.raw ⟨(some 29),(.call { callee:=(.value (.tmp 26)),args:=#[(.tmp 27),(.tmp 28)],argTypes:=#[42,42]}),4, "slices.go:43",#[⟨0,.data⟩,⟨1,.data⟩,⟨2,.data⟩],none⟩),no 30 29] [1,2,15,16,17,30] <| j 30 (z [.r (some 6) (.mv (.c (.bool false)))] [6] <| .ret) (.skip))) <| q [bk 31 .add 17 1,m 17 31] [1,2,15,16,17]
def IG:IR:=z [] [0,1,2] <| .seq (z [le 11 0,le 13 1,bi 14 .neq 11 13] [0,1,2,14] <| j 14 (z [.r (some 6) (.mv (.c (.bool false)))] [6] <| .ret) (.skip)) <| .seq (z [m 15 0,le 16 15,mk 17 0] [1,2,15,16,17] <| .block 0 (.loop ZT)) <| z [.r (some 6) (.mv (.c (.bool true)))] [6] <| .ret
theorem ZU:Fits Tryz.prog 71 3 (bu Tryz.f71 IG) IG [.t 6] 32:=.m Tryz.f71 _
def Pd:IR:=.seq (z [n 6 0,f 7 0 6,l 8 7,bi 10 .neq 8 1] [0,1,10] <| j 10 (.skip) ((.exit 0))) <| .block 1 (q [n 12 0,f 13 2 12,l 14 13,m 0 14] [0,1])
def IH:IR:=z [] [0,1] <| .seq (.block 0 (.loop Pd)) <| z [n 16 0,f 17 1 16,l 18 17,m 4 18] [4] <| .ret
theorem ZV:Fits Tryz.prog 72 2 (bu Tryz.f72 IH) IH [.t 4] 19:=.m Tryz.f72 _
def II:IR:=z [.e (some 3) (.bx 136 (.t 1))] [0,3] <| .dr (r 0 4 (.mv (.t 0)) <| r 1 5 (.mv (.t 0)) <| r 2 6 (.nn (.t 5)) <| r 3 7 (.fa 11 (.t 6)) <| r 4 8 (.l1 (.t 7)) <| r 5 9 (.ln 5 (.t 3)) <| .e 6 none (some 10) (.bs 136 1 #[(i 0),(.pointer none),(.pointer none),(.pointer none),(i 0)] [(0,5,(.t 9))]) [4] <| .e 7 none (some 11) (.ap 136 5 40 #[(i 0),(.pointer none),(.pointer none),(.pointer none),(i 0)] (.t 8) (.t 10)) [] <| r 8 12 (.nn (.t 4)) <| r 9 13 (.fa 11 (.t 12)) <| .e 10 none none (.st 1 (.t 13) (.t 11)) [] <| .nil) []
theorem ZW:Fits Tryz.prog 73 2 (bu Tryz.f73 II) II [] 14:=.m Tryz.f73 _
def Pe:IR:=z [bi 101 .lss 100 99] [10,15,16,98,99,100,101] <| .seq (j 101 (.skip) ((.exit 3))) <| .seq (.block 4 (z [ia 103 1 98 100,l 104 103,m 17 100,m 18 104] [10,15,16,17,18,98,99,100] <| q [n 107 10,f 108 1 107,l 109 108,ia 111 1 109 17,l 112 111,.r (some 114) (.bd #[(.string ⟨#[]⟩),(.pointer none),(.pointer none)] [(0,1,(.t 18)),(1,1,(.t 112)),(2,1,(.t 16))]),.e (some 115) (.bx 141 (.t 114)),m 16 115] [10,15,16,98,99,100])) <| q [bk 116 .add 100 1,m 100 116] [10,15,16,98,99,100]
def Pf:IR:=z [bi 36 .lss 35 34] [0,4,10,11,12,34,35,36] <| .seq (j 36 (.skip) ((.exit 0))) <| .seq (.block 1 (z [m 14 35] [0,4,10,11,12,14,34,35] <| z [f 38 2 4,l 39 38,n 40 39,f 41 6 40,l 42 41,ia 44 11 42 14,m 15 44] [0,4,10,11,12,15,34,35] <| .block 2 (.seq (z [n 47 15,f 48 0 47,l 49 48,bk 50 .eql 49 3,m 45 50] [0,4,10,11,12,15,34,35,45] <| j 45 (.skip) (q [n 52 15,f 53 0 52,l 54 53,bk 55 .eql 54 2,m' 55 true 57 11,xN 55 true 58 57,a 59 55 58,m' 59 true 61 15,n' 59 true 62 61,f' 59 true 63 2 62,l' 59 true 64 63,m' 59 true 65 12,mN 59 true 66 .eql 64 65,a 67 59 66,m 45 67] [0,4,10,11,12,15,34,35,45])) <| j 45 (.seq (q' [m 68 15,n 69 68,f 70 4 69,f 71 3 4,l 72 71,m 6 70,m 7 72,.r (some 8) (.mv (.c .nilIface)),.r (some 9) (.mv (.c (.bool true)))] [6,7,8,9]) <| .ret) (.seq (q' [m 74 15,n 75 74,f 76 0 75,l 77 76,bk 78 .eql 77 1,m 79 78,m' 79 true 80 11,a 81 79 80,m 82 81,m' 82 true 83 15,n' 82 true 84 83,f' 82 true 85 1 84,l' 82 true 86 85,m' 82 true 87 10,n' 82 true 88 87,f' 82 true 89 0 88,l' 82 true 90 89,mN 82 true 91 .eql 86 90,a 92 82 91,m 73 92] [0,4,10,11,12,15,34,35,73]) <| j 73 (z [f 93 3 4,l 94 93,m 16 94] [10,15,16] <| .seq (z [n 96 15,f 97 3 96,l 98 97,le 99 98,mk 100 0] [10,15,16,98,99,100] <| .block 3 (.loop Pe)) <| z [n 118 15,f 119 4 118,m 6 119,m 7 16,.r (some 8) (.mv (.c .nilIface)),.r (some 9) (.mv (.c (.bool true)))] [6,7,8,9] <| .ret) (.skip))))) <| q [bk 121 .add 35 1,m 35 121] [0,4,10,11,12,34,35]
def IJ:IR:=z [.e (some 4) (.bx 136 (.t 1))] [0,2,4] <| z [m 20 2,.e (some 21) (.raw ⟨(some 21),(.typeAssert (.tmp 20) 77 111 true),184, "run.go:274",#[⟨0,.data⟩],none⟩),m 19 21,ex 22 0 19,ex 23 1 19,m 10 22,m 11 23] [0,2,4,10,11] <| z [m 25 2,.e (some 26) (.raw ⟨(some 26),(.typeAssert (.tmp 25) 77 115 true),164, "run.go:275",#[⟨0,.data⟩],none⟩),m 24 26,ex 27 0 24,ex 28 1 24,m 12 27,m 13 28] [0,4,10,11,12] <| .seq (z [f 29 2 4,l 30 29,n 31 30,f 32 6 31,l 33 32,le 34 33,mk 35 0] [0,4,10,11,12,34,35] <| .block 0 (.loop Pf)) <| z [.e (some 123) (.call 52 [(.t 0),(k 2)])] [] <| z [.r (some 6) (.mv (.c (.pointer none))),.r (some 7) (.mv (.c (.pointer none))),.r (some 8) (.mv (.c .nilIface)),.r (some 9) (.mv (.c (.bool false)))] [6,7,8,9] <| .ret
theorem ZX:Fits Tryz.prog 74 3 (bu Tryz.f74 IJ) IJ [.t 6,.t 7,.t 8,.t 9] 124:=.m Tryz.f74 _
def IK:IR:=z [] [0,1,2,3] <| z [.r (some 10) (.mv (.c (.bool false)))] [0,1,2,3,10] <| .seq (z [m 11 1] [0,1,2,3,10,11] <| .block 0 (z [.r (some 13) (.bi .eql (.t 11) (.c (.string ⟨#[43]⟩))),m 12 13] [0,1,2,3,10,11,12] <| j 12 (z [bi 16 .add 2 3,c 17 92 [16],.r (some 18) (.mi 115 (.t 17)),m 8 18,.r (some 9) (.mv (.c (.bool true)))] [8,9] <| .ret) (z [.r (some 20) (.bi .eql (.t 11) (.c (.string ⟨#[45]⟩))),m 19 20] [0,1,2,3,10,11,19] <| j 19 (z [bi 23 .sub 2 3,c 24 92 [23],.r (some 25) (.mi 115 (.t 24)),m 8 25,.r (some 9) (.mv (.c (.bool true)))] [8,9] <| .ret) (z [.r (some 27) (.bi .eql (.t 11) (.c (.string ⟨#[42]⟩))),m 26 27] [0,1,2,3,10,11,26] <| j 26 (z [bi 30 .mul 2 3,c 31 92 [30],.r (some 32) (.mi 115 (.t 31)),m 8 32,.r (some 9) (.mv (.c (.bool true)))] [8,9] <| .ret) (.seq (z [.r (some 34) (.bi .eql (.t 11) (.c (.string ⟨#[47]⟩))),m 33 34] [0,1,2,3,10,11,33] <| j 33 (.skip) (q [.r (some 35) (.bi .eql (.t 11) (.c (.string ⟨#[37]⟩))),m 33 35] [0,1,2,3,10,11,33])) <| j 33 (.seq (z [bk 37 .eql 3 0] [0,1,2,3,37] <| j 37 (z [.e (some 39) (.call 52 [(.t 0),(k 3)])] [] <| z [.r (some 8) (.mv (.c .nilIface)),.r (some 9) (.mv (.c (.bool false)))] [8,9] <| .ret) (.skip)) <| .seq (z [.r (some 41) (.bi .eql (.t 1) (.c (.string ⟨#[47]⟩)))] [2,3,41] <| j 41 (z [bi 44 .quo 2 3,c 45 92 [44],.r (some 46) (.mi 115 (.t 45)),m 8 46,.r (some 9) (.mv (.c (.bool true)))] [8,9] <| .ret) (.skip)) <| z [bi 49 .rem 2 3,.r (some 50) (.mi 115 (.t 49)),m 8 50,.r (some 9) (.mv (.c (.bool true)))] [8,9] <| .ret) (z [.r (some 52) (.bi .eql (.t 11) (.c (.string ⟨#[61,61]⟩))),m 51 52] [2,3,10,11,51] <| j 51 (q [bi 55 .eql 2 3,m 10 55] [10]) (z [.r (some 57) (.bi .eql (.t 11) (.c (.string ⟨#[47,61]⟩))),m 56 57] [2,3,10,11,56] <| j 56 (q [bi 60 .neq 2 3,m 10 60] [10]) (z [.r (some 62) (.bi .eql (.t 11) (.c (.string ⟨#[60]⟩))),m 61 62] [2,3,10,11,61] <| j 61 (q [bi 65 .lss 2 3,m 10 65] [10]) (z [.r (some 67) (.bi .eql (.t 11) (.c (.string ⟨#[60,61]⟩))),m 66 67] [2,3,10,11,66] <| j 66 (q [bi 70 .leq 2 3,m 10 70] [10]) (z [.r (some 72) (.bi .eql (.t 11) (.c (.string ⟨#[62]⟩))),m 71 72] [2,3,10,11,71] <| j 71 (q [bi 75 .gtr 2 3,m 10 75] [10]) (z [.r (some 77) (.bi .eql (.t 11) (.c (.string ⟨#[62,61]⟩))),m 76 77] [2,3,10,76] <| j 76 (q [bi 80 .geq 2 3,m 10 80] [10]) (.skip)))))))))))) <| .seq (z [m 81 10] [81] <| j 81 (z [.r (some 82) (.bd #[(.string ⟨#[]⟩),(.slice none 0 0)] [(0,1,(.c (.string ⟨#[84,114,117,101]⟩)))]),.e (some 83) (.bx 114 (.t 82)),.r (some 84) (.mi 111 (.t 83)),m 8 84,.r (some 9) (.mv (.c (.bool true)))] [8,9] <| .ret) (.skip)) <| z [.r (some 85) (.bd #[(.string ⟨#[]⟩),(.slice none 0 0)] [(0,1,(.c (.string ⟨#[70,97,108,115,101]⟩)))]),.e (some 86) (.bx 114 (.t 85)),.r (some 87) (.mi 111 (.t 86)),m 8 87,.r (some 9) (.mv (.c (.bool true)))] [8,9] <| .ret
theorem ZY:Fits Tryz.prog 75 4 (bu Tryz.f75 IK) IK [.t 8,.t 9] 88:=.m Tryz.f75 _
def IL:IR:=z [.e (some 2) (.al 42 (.agg #[(i 0),(.string ⟨#[]⟩),(.slice none 0 0)]))] [0,2] <| z [.r (some 4) (.bd #[(i 0),(.string ⟨#[]⟩),(.slice none 0 0)] [(0,1,(k 2)),(1,1,(.t 0))]),s 3 2 4] [2] <| .ret
theorem ZZ:Fits Tryz.prog 76 1 (bu Tryz.f76 IL) IL [.n 2 3] 5:=.m Tryz.f76 _
def IM:IR:=z [.e (some 4) (.al 42 (.agg #[(i 0),(.string ⟨#[]⟩),(.slice none 0 0)]))] [0,1,4] <| z [.r (some 7) (.bd #[(i 0),(.string ⟨#[]⟩),(.slice none 0 0)] [(0,1,(k 4)),(1,1,(.t 0)),(2,1,(.t 1))]),s 3 4 7] [4] <| .ret
theorem Z0:Fits Tryz.prog 77 2 (bu Tryz.f77 IM) IM [.n 4 3] 8:=.m Tryz.f77 _
def IN:IR:=z [] [0] <| z [.r (some 4) (.bd #[(i 0),(.string ⟨#[]⟩),(.slice none 0 0)] [(0,1,(k 4)),(1,1,(.t 0))]),c 5 60 [4],m 2 5] [2] <| .ret
theorem Z1:Fits Tryz.prog 78 1 (bu Tryz.f78 IN) IN [.t 2] 6:=.m Tryz.f78 _
def IP:IR:=z [] [0,1] <| z [c 7 93 [0,1],bk 8 .geq 7 0,m 4 8] [4] <| .ret
theorem Z2:Fits Tryz.prog 79 2 (bu Tryz.f79 IP) IP [.t 4] 9:=.m Tryz.f79 _
def IQ:IR:=z [] [0] <| z [c 4 45 [0],no 5 4,m 2 5] [2] <| .ret
theorem Z3:Fits Tryz.prog 80 1 (bu Tryz.f80 IQ) IQ [.t 2] 6:=.m Tryz.f80 _
def IS:IR:=z [] [0,1] <| z [c 7 94 [0,1],bk 8 .geq 7 0,m 4 8] [4] <| .ret
theorem Z4:Fits Tryz.prog 81 2 (bu Tryz.f81 IS) IS [.t 4] 9:=.m Tryz.f81 _
def IT:IR:=z [.e (some 1) (.bx 66 (.t 0))] [1] <| z [f 3 0 1,l 4 3,c 5 44 [4],no 6 5,m 2 6] [2] <| .ret
theorem Z5:Fits Tryz.prog 82 1 (bu Tryz.f82 IT) IT [.t 2] 7:=.m Tryz.f82 _
def IU:IR:=z [.e (some 1) (.bx 47 (.t 0))] [1] <| z [f 3 0 1,l 4 3,bk 5 .eql 4 0,f' 5 true 7 1 1,l' 5 true 8 7,.gr 5 true (some 9) (.bi .eql (.t 8) (.c (.string ⟨#[]⟩))),a 10 5 9,f' 10 true 12 2 1,l' 10 true 13 12,dK 10 true 14 .eql 13 0,a 15 10 14,f' 15 true 17 3 1,l' 15 true 18 17,kY 15 true 19 18,f' 15 true 20 4 1,l' 15 true 21 20,kY 15 true 22 21,mN 15 true 23 .add 19 22,f' 15 true 24 5 1,l' 15 true 25 24,kY 15 true 26 25,mN 15 true 27 .add 23 26,f' 15 true 28 6 1,l' 15 true 29 28,kY 15 true 30 29,mN 15 true 31 .add 27 30,dK 15 true 32 .eql 31 0,a 33 15 32,m 2 33] [2] <| .ret
theorem Z6:Fits Tryz.prog 84 1 (bu Tryz.f84 IU) IU [.t 2] 34:=.m Tryz.f84 _
def IV:IR:=z [.e (some 2) (.al 42 (.agg #[(i 0),(.string ⟨#[]⟩),(.slice none 0 0)]))] [0,2] <| .seq (z [m 4 0] [2,4] <| .block 0 (.seq (z [.r (some 6) (.bi .eql (.t 4) (.c (.string ⟨#[43]⟩))),m 5 6] [2,4,5] <| j 5 (.skip) (z [.r (some 7) (.bi .eql (.t 4) (.c (.string ⟨#[45]⟩))),m 5 7] [2,4,5] <| j 5 (.skip) (z [.r (some 8) (.bi .eql (.t 4) (.c (.string ⟨#[42]⟩))),m 5 8] [2,4,5] <| j 5 (.skip) (z [.r (some 9) (.bi .eql (.t 4) (.c (.string ⟨#[47]⟩))),m 5 9] [2,4,5] <| j 5 (.skip) (q [.r (some 10) (.bi .eql (.t 4) (.c (.string ⟨#[37]⟩))),m 5 10] [2,4,5]))))) <| j 5 (z [c 11 63 [],s 3 2 11,.r (some 3) (.mv (.c (.bool true)))] [2,3] <| .ret) (.seq (z [.r (some 13) (.bi .eql (.t 4) (.c (.string ⟨#[61,61]⟩))),m 12 13] [2,4,12] <| j 12 (.skip) (z [.r (some 14) (.bi .eql (.t 4) (.c (.string ⟨#[47,61]⟩))),m 12 14] [2,4,12] <| j 12 (.skip) (z [.r (some 15) (.bi .eql (.t 4) (.c (.string ⟨#[60]⟩))),m 12 15] [2,4,12] <| j 12 (.skip) (z [.r (some 16) (.bi .eql (.t 4) (.c (.string ⟨#[60,61]⟩))),m 12 16] [2,4,12] <| j 12 (.skip) (z [.r (some 17) (.bi .eql (.t 4) (.c (.string ⟨#[62]⟩))),m 12 17] [2,4,12] <| j 12 (.skip) (q [.r (some 18) (.bi .eql (.t 4) (.c (.string ⟨#[62,61]⟩))),m 12 18] [2,12])))))) <| j 12 (z [.e (some 19) (.call 77 [(.c (.string ⟨#[66,111,111,108]⟩)),(.c (.slice none 0 0))]),s 3 2 19,.r (some 3) (.mv (.c (.bool true)))] [2,3] <| .ret) (.skip)))) <| z [.r (some 20) (.bd #[(i 0),(.string ⟨#[]⟩),(.slice none 0 0)] []),s 3 2 20,.r (some 3) (.mv (.c (.bool false)))] [2,3] <| .ret
theorem Z7:Fits Tryz.prog 85 1 (bu Tryz.f85 IV) IV [.n 2 3,.t 3] 21:=.m Tryz.f85 _
def IW:IR:=z [.e (some 3) (.bx 42 (.t 0)),.e (some 6) (.al 42 (.agg #[(i 0),(.string ⟨#[]⟩),(.slice none 0 0)]))] [1,2,3,6] <| z [.e (some 8) (.al 3 (i 0)),.e none (.st 1 (.t 8) (k 500))] [1,2,3,6,8] <| z [ln 10 3 3,c 13 99 [10,1,2,8],.e (some 9) (.al 42 (.agg #[(i 0),(.string ⟨#[]⟩),(.slice none 0 0)])),s 3 9 13] [6,8,9] <| .seq (.dr (r 0 14 (.ln 3 (.t 9)) <| r 1 15 (.l1 (.t 8)) <| r 2 16 (.bi .geq (.t 15) (k 0)) <| .e 3 none none (.st 3 (.t 6) (.t 14)) [1] <| r 4 7 (.mv (.t 16)) <| .nil) [6,7]) <| .ret
theorem Z8:Fits Tryz.prog 86 3 (bu Tryz.f86 IW) IW [.n 6 3,.t 7] 17:=.m Tryz.f86 _
def IX:IR:=z [.e (some 2) (.bx 42 (.t 0)),.e (some 3) (.bx 42 (.t 1)),.e (some 4) (.al 42 (.agg #[(i 0),(.string ⟨#[]⟩),(.slice none 0 0)]))] [2,3,4] <| z [ln 5 3 2,ln 6 3 3,.e (some 7) (.bs 42 2 #[(i 0),(.string ⟨#[]⟩),(.slice none 0 0),(i 0),(.string ⟨#[]⟩),(.slice none 0 0)] [(0,3,(.t 5)),(3,3,(.t 6))]),.r (some 8) (.bd #[(i 0),(.string ⟨#[]⟩),(.slice none 0 0)] [(0,1,(k 3)),(2,1,(.t 7))]),s 3 4 8] [4] <| .ret
theorem Z9:Fits Tryz.prog 87 2 (bu Tryz.f87 IX) IX [.n 4 3] 9:=.m Tryz.f87 _
def IY:IR:=z [.e (some 3) (.bx 95 (.t 1))] [0,3] <| .seq (.seq (.dr (r 0 5 (.fa 0 (.t 3)) <| r 1 6 (.l1 (.t 5)) <| .e 2 none (some 7) (.call 44 [(.t 6)]) [8,10] <| r 3 8 (.no (.t 7)) <| r 4 9 (.mv (.t 8)) <| .r 5 (some (9,false)) (some 10) (.mv (.t 0)) <| .r 6 (some (9,false)) (some 11) (.nn (.t 10)) <| .r 7 (some (9,false)) (some 12) (.fa 5 (.t 11)) <| .r 8 (some (9,false)) (some 13) (.l1 (.t 12)) <| .r 9 (some (9,false)) (some 14) (.fa 0 (.t 3)) <| .r 10 (some (9,false)) (some 15) (.l1 (.t 14)) <| .e 11 (some (9,false)) (some 16) (.raw ⟨(some 16),(.lookup 90 (.tmp 13) (.tmp 15) false),3, "expr.go:197",#[⟨8,.data⟩,⟨10,.data⟩,⟨4,.guard⟩],some (4,false)⟩) [] <| .r 12 (some (9,false)) (some 17) (.bi .gtr (.t 16) (k 0)) <| r 13 18 (.pk (.t 9) (.c (.bool true)) (.t 17)) <| .nil) [0,3,18]) <| j 18 (z [mk 4 82] [4] <| .ret) (.skip)) <| .seq (q' [m 19 0,n 20 19,f 21 5 20,l 22 21,f 23 0 3,l 24 23,.e none (.raw ⟨none,(.mapUpdate 90 (.tmp 22) (.tmp 24) (.const (i 1))),0, "expr.go:200",#[⟨3,.data⟩,⟨5,.data⟩,⟨0,.phase⟩,⟨1,.phase⟩,⟨2,.phase⟩,⟨3,.phase⟩,⟨4,.phase⟩,⟨5,.phase⟩],none⟩)] [0,3]) <| .seq (z [f 26 1 3,ln 27 3 26,c 28 46 [0,27],no 29 28] [29] <| j 29 (z [mk 4 83] [4] <| .ret) (.skip)) <| z [mk 4 0] [4] <| .ret
theorem Z':Fits Tryz.prog 88 2 (bu Tryz.f88 IY) IY [.t 4] 30:=.m Tryz.f88 _
def aaa:IR:=z [bi 8 .lss 7 6] [1,5,6,7,8] <| .seq (j 8 (.skip) ((.exit 0))) <| .seq (.block 1 (z [ia 9 11 5 7,ln 10 11 9,.e (some 3) (.al 95 (.agg #[(.string ⟨#[]⟩),(i 0),(.string ⟨#[]⟩),(.slice none 0 0),(i 0),(.string ⟨#[]⟩),(i 0),(.slice none 0 0),(.slice none 0 0),(.slice none 0 0),(.slice none 0 0)])),s 11 3 10] [1,3,5,6,7] <| q' [l 11 1,n 12 11,f 13 6 12,l 14 13,f 15 0 3,l 16 15,f 17 1 3,ln 18 3 17,.e none (.raw ⟨none,(.mapUpdate 127 (.tmp 14) (.tmp 16) (.tmp 18)),0, "expr.go:233",#[⟨3,.data⟩,⟨5,.data⟩,⟨7,.data⟩,⟨0,.phase⟩,⟨1,.phase⟩,⟨2,.phase⟩,⟨3,.phase⟩,⟨4,.phase⟩,⟨5,.phase⟩,⟨6,.phase⟩,⟨7,.phase⟩],none⟩)] [1,5,6,7])) <| q [bk 19 .add 7 1,m 7 19] [1,5,6,7]
def IZ:IR:=z [f 4 5 0,l 5 4,le 6 5,mk 7 0] [1,5,6,7] <| .block 0 (.loop aaa)
theorem aab:Fits Tryz.prog 89 2 (bu Tryz.f89 IZ) IZ [] 20:=.m Tryz.f89 _
def I0:IR:=z [.e (some 5) (.bx 42 (.t 2))] [0,1,5] <| z [ia 10 11 0 1,ln 11 11 10,.e (some 7) (.al 97 (.agg #[(i 0),(.string ⟨#[]⟩),(i 0),(.slice none 0 0),(i 0),(.string ⟨#[]⟩),(i 0),(.slice none 0 0),(.slice none 0 0),(.slice none 0 0),(.slice none 0 0)])),s 11 7 11] [0,1,5,7] <| .seq (z [f 12 0 7,l 13 12] [0,1,5,7,13] <| .block 0 (z [bk 15 .eql 13 1,m 14 15] [0,1,5,7,13,14] <| j 14 (z [f 16 2 7,l 17 16,bk 18 .neq 17 0,f' 18 false 20 0 5,l' 18 false 21 20,dK 18 false 22 .neq 21 4,u 23 18 22] [0,1,7,23] <| j 23 (z [.r (some 6) (.mv (.c (.bool false)))] [6] <| .ret) (.skip)) (z [bk 25 .eql 13 2,m 24 25] [0,1,5,7,13,24] <| j 24 (z [f 26 1 7,l 27 26,.r (some 28) (.bi .neq (.t 27) (.c (.string ⟨#[]⟩))),f' 28 false 30 3 7,l' 28 false 31 30,kY 28 false 32 31,dK 28 false 33 .gtr 32 0,u 34 28 33,f' 34 false 36 0 5,l' 34 false 37 36,dK 34 false 38 .neq 37 1,u 39 34 38,f' 39 false 41 2 7,l' 39 false 42 41,dK 39 false 43 .lss 42 (-4611686018427387904),u 44 39 43,f' 44 false 46 2 7,l' 44 false 47 46,dK 44 false 48 .gtr 47 4611686018427387903,u 49 44 48] [0,1,7,49] <| j 49 (z [.r (some 6) (.mv (.c (.bool false)))] [6] <| .ret) (.skip)) (z [bk 51 .eql 13 3,m 50 51] [0,1,7,50] <| j 50 (z [f 52 1 7,l 53 52,.r (some 54) (.bi .eql (.t 53) (.c (.string ⟨#[]⟩))),f' 54 true 56 2 7,l' 54 true 57 56,dK 54 true 58 .eql 57 0,a 59 54 58,f' 59 true 61 3 7,l' 59 true 62 61,kY 59 true 63 62,dK 59 true 64 .eql 63 0,a 65 59 64,m' 65 true 67 1,m' 65 true 68 0,kY 65 true 69 68,dK 65 true 70 .sub 69 1,mN 65 true 71 .eql 67 70,a 72 65 71,m 6 72] [6] <| .ret) (z [.r (some 6) (.mv (.c (.bool false)))] [6] <| .ret))))) <| z [.r (some 75) (.sl 11 (.t 0) none (some (.t 1)) none),.r (some 76) (.mf (.func 101) [] [(.t 7)]),c 77 100 [75,76],no 78 77,m 6 78] [6] <| .ret
theorem aac:Fits Tryz.prog 90 3 (bu Tryz.f90 I0) I0 [.t 6] 79:=.m Tryz.f90 _
def aad:IR:=z [bi 74 .lss 73 72] [0,4,5,6,8,10,71,72,73,74] <| .seq (j 74 (.skip) ((.exit 0))) <| .seq (.block 1 (z [ia 75 1 71 73,l 76 75,m 12 76] [0,4,5,6,8,10,12,71,72,73] <| .seq (z [m 77 12,c 78 44 [77],no 79 78,m 80 79,m' 80 false 81 0,n' 80 false 82 81,f' 80 false 83 5 82,l' 80 false 84 83,m' 80 false 85 12,.ge 80 false (some 86) (.raw ⟨(some 86),(.lookup 90 (.tmp 84) (.tmp 85) false),3, "expr.go:316",#[⟨7,.data⟩,⟨8,.data⟩,⟨3,.guard⟩],some (3,false)⟩),dK 80 false 87 .gtr 86 0,u 88 80 87] [0,4,5,6,8,10,12,71,72,73,88] <| j 88 (z [.r (some 89) (.bd #[(i 0),(.string ⟨#[]⟩),(.slice none 0 0)] []),s 3 6 89,mk 7 82] [6,7] <| .ret) (.skip)) <| q [m 90 0,n 91 90,f 92 5 91,l 93 92,m 94 12,.e none (.raw ⟨none,(.mapUpdate 90 (.tmp 93) (.tmp 94) (.const (i 1))),0, "expr.go:319",#[⟨3,.data⟩,⟨4,.data⟩,⟨0,.phase⟩,⟨1,.phase⟩,⟨2,.phase⟩,⟨3,.phase⟩,⟨4,.phase⟩],none⟩)] [0,4,5,6,8,10,71,72,73])) <| q [bk 95 .add 73 1,m 73 95] [0,4,5,6,8,10,71,72,73]
def aae:IR:=z [bi 100 .lss 99 98] [0,4,5,6,8,10,97,98,99,100] <| .seq (j 100 (.skip) ((.exit 2))) <| .seq (.block 3 (z [ia 102 1 97 99,l 103 102,m 13 99,m 14 103] [0,4,5,6,8,10,13,14,97,98,99] <| .seq (.dr (r 0 105 (.mv (.t 10)) <| r 1 106 (.mv (.t 13)) <| r 2 107 (.ia 3 (.t 105) (.t 106)) <| r 3 108 (.ln 3 (.t 107)) <| r 4 109 (.fa 0 (.t 8)) <| r 5 110 (.l1 (.t 109)) <| r 6 111 (.nn (.t 110)) <| r 7 112 (.fa 1 (.t 111)) <| r 8 113 (.l1 (.t 112)) <| r 9 114 (.fa 2 (.t 5)) <| r 10 115 (.l1 (.t 114)) <| .e2 11 (some 116) (.call 86 [(.t 108),(.t 113),(.t 115)]) [] (r 12 104 (.mv (.t 116)) <| r 13 117 (.ex 0 (.t 104)) <| r 14 118 (.ex 1 (.t 104)) <| .e 15 none (some 15) (.al 42 (.agg #[(i 0),(.string ⟨#[]⟩),(.slice none 0 0)])) [3,5,8,10] <| .e 16 none none (.st 3 (.t 15) (.t 117)) [] <| r 17 16 (.mv (.t 118)) <| .nil) 15 (some 15) (.al 42 (.agg #[(i 0),(.string ⟨#[]⟩),(.slice none 0 0)])) [3,5,8,10]
   (.e 11 none (some 116) (.call 86 [(.t 108),(.t 113),(.t 115)]) [] <| r 12 104 (.mv (.t 116)) <| r 13 117 (.ex 0 (.t 104)) <| r 14 118 (.ex 1 (.t 104)) <| .e 16 none none (.st 3 (.t 15) (.t 117)) [] <| r 17 16 (.mv (.t 118)) <| .nil)) [0,4,5,6,8,10,14,15,16,97,98,99]) <| .seq (z [no 120 16] [0,4,5,6,8,10,14,15,97,98,99,120] <| j 120 (z [.r (some 121) (.bd #[(i 0),(.string ⟨#[]⟩),(.slice none 0 0)] []),s 3 6 121,mk 7 83] [6,7] <| .ret) (.skip)) <| q' [m 122 0,n 123 122,f 124 6 123,l 125 124,m 126 14,ln 127 3 15,.e none (.raw ⟨none,(.mapUpdate 127 (.tmp 125) (.tmp 126) (.tmp 127)),0, "expr.go:326",#[⟨3,.data⟩,⟨4,.data⟩,⟨5,.data⟩,⟨0,.phase⟩,⟨1,.phase⟩,⟨2,.phase⟩,⟨3,.phase⟩,⟨4,.phase⟩,⟨5,.phase⟩],none⟩)] [0,4,5,6,8,10,97,98,99])) <| q [bk 128 .add 99 1,m 99 128] [0,4,5,6,8,10,97,98,99]
def aaf:IR:=z [bi 140 .lss 139 138] [0,6,17,18,137,138,139,140] <| .seq (j 140 (.skip) ((.exit 4))) <| .seq (.block 5 (z [ia 141 1 137 139,l 142 141,m 20 142] [0,6,17,18,20,137,138,139] <| q [m 143 0,n 144 143,f 145 6 144,l 146 145,m 147 20,.e none (.raw ⟨none,(.call { callee:=(.builtin .delete),args:=#[(.tmp 146),(.tmp 147)],argTypes:=#[127,9]}),0, "expr.go:330",#[⟨3,.data⟩,⟨4,.data⟩],none⟩)] [0,6,17,18,137,138,139])) <| q [bk 148 .add 139 1,m 139 148] [0,6,17,18,137,138,139]
def I2:IR:=z [.e (some 4) (.bx 97 (.t 1)),.e (some 5) (.bx 42 (.t 2)),.e (some 6) (.al 42 (.agg #[(i 0),(.string ⟨#[]⟩),(.slice none 0 0)]))] [0,4,5,6] <| .seq (z [f 21 0 4,l 22 21,bk 23 .neq 22 1] [0,4,5,6,23] <| j 23 (z [f 25 4 4,ln 26 7 25,c 27 47 [0,26],ex 28 0 27,ex 29 1 27,s 3 6 28,m 7 29] [6,7] <| .ret) (.skip)) <| .seq (.dr (r 0 31 (.mv (.t 0)) <| r 1 32 (.nn (.t 31)) <| r 2 33 (.fa 1 (.t 32)) <| r 3 34 (.l1 (.t 33)) <| r 4 35 (.fa 1 (.t 4)) <| r 5 36 (.l1 (.t 35)) <| .e2 6 (some 37) (.raw ⟨(some 37),(.lookup 125 (.tmp 34) (.tmp 36) true),159, "expr.go:307",#[⟨3,.data⟩,⟨5,.data⟩],none⟩) [] (r 7 30 (.mv (.t 37)) <| r 8 38 (.ex 0 (.t 30)) <| r 9 39 (.ex 1 (.t 30)) <| .e 10 none (some 8) (.al 158 (.agg #[(.pointer none),(i 0)])) [3,5] <| .e 11 none none (.st 2 (.t 8) (.t 38)) [] <| r 12 9 (.mv (.t 39)) <| .nil) 10 (some 8) (.al 158 (.agg #[(.pointer none),(i 0)])) [3,5]
   (.e 6 none (some 37) (.raw ⟨(some 37),(.lookup 125 (.tmp 34) (.tmp 36) true),159, "expr.go:307",#[⟨3,.data⟩,⟨5,.data⟩],none⟩) [] <| r 7 30 (.mv (.t 37)) <| r 8 38 (.ex 0 (.t 30)) <| r 9 39 (.ex 1 (.t 30)) <| .e 11 none none (.st 2 (.t 8) (.t 38)) [] <| r 12 9 (.mv (.t 39)) <| .nil)) [0,4,5,6,8,9]) <| .seq (.seq (q' [m 40 9,no 41 40,m 42 41,f' 42 false 43 0 8,l' 42 false 44 43,n' 42 false 45 44,f' 42 false 46 0 45,l' 42 false 47 46,f' 42 false 48 1 5,l' 42 false 49 48,mN 42 false 50 .neq 47 49,u 51 42 50] [0,4,5,6,8,51]) <| j 51 (z [.r (some 52) (.bd #[(i 0),(.string ⟨#[]⟩),(.slice none 0 0)] []),s 3 6 52,mk 7 82] [6,7] <| .ret) (.skip)) <| .seq (q' [f 53 0 8,l 54 53,n 55 54,f 56 2 55,l 57 56,f 58 1 8,l 59 58,ia 60 2 57 59,f 61 1 60,l 62 61,m 10 62] [0,4,5,6,8,10]) <| .seq (z [le 64 10,f 65 3 4,l 66 65,le 67 66,bi 68 .neq 64 67] [0,4,5,6,8,10,68] <| j 68 (z [.r (some 69) (.bd #[(i 0),(.string ⟨#[]⟩),(.slice none 0 0)] []),s 3 6 69,mk 7 84] [6,7] <| .ret) (.skip)) <| .seq (z [f 70 3 4,l 71 70,le 72 71,mk 73 0] [0,4,5,6,8,10,71,72,73] <| .block 0 (.loop aad)) <| .seq (z [f 96 3 4,l 97 96,le 98 97,mk 99 0] [0,4,5,6,8,10,97,98,99] <| .block 2 (.loop aae)) <| z [f 131 4 4,ln 132 7 131,c 133 47 [0,132],ex 134 0 133,ex 135 1 133,.e (some 17) (.al 42 (.agg #[(i 0),(.string ⟨#[]⟩),(.slice none 0 0)])),s 3 17 134,m 18 135] [0,4,6,17,18] <| .seq (z [f 136 3 4,l 137 136,le 138 137,mk 139 0] [0,6,17,18,137,138,139] <| .block 4 (.loop aaf)) <| z [ln 149 3 17,s 3 6 149,m 7 18] [6,7] <| .ret
theorem aag:Fits Tryz.prog 91 3 (bu Tryz.f91 I2) I2 [.n 6 3,.t 7] 151:=.m Tryz.f91 _
def I3:IR:=z [] [0] <| z [.r (some 4) (.bi .shl (.t 0) (.c (.int .u64 1))),.r (some 5) (.bi .shr (.t 4) (.c (.int .u64 1))),m 2 5] [2] <| .ret
theorem aah:Fits Tryz.prog 92 1 (bu Tryz.f92 I3) I3 [.t 2] 6:=.m Tryz.f92 _
def aai:IR:=z [bi 9 .lss 8 7] [0,1,7,8,9] <| .seq (j 9 (.skip) ((.exit 0))) <| .seq (.block 1 (z [m 5 8] [0,1,5,7,8] <| z [m 11 1,m 12 0,m 13 5,ia 14 1 12 13,l 15 14,.e (some 16) (.raw ⟨(some 16),(.call { callee:=(.value (.tmp 11)),args:=#[(.tmp 15)],argTypes:=#[9]}),4, "slices.go:109",#[⟨0,.data⟩,⟨4,.data⟩],none⟩)] [0,1,5,7,8,16] <| j 16 (z [m 4 5] [4] <| .ret) (.skip))) <| q [bk 18 .add 8 1,m 8 18] [0,1,7,8]
def I4:IR:=z [] [0,1] <| .seq (z [le 7 0,mk 8 0] [0,1,7,8] <| .block 0 (.loop aai)) <| z [mk 4 (-1)] [4] <| .ret
theorem aaj:Fits Tryz.prog 93 2 (bu Tryz.f93 I4) I4 [.t 4] 19:=.m Tryz.f93 _
def aak:IR:=z [bi 9 .lss 8 7] [0,1,7,8,9] <| .seq (j 9 (.skip) ((.exit 0))) <| .seq (.block 1 (z [m 5 8] [0,1,5,7,8] <| z [m 11 1,m 12 0,m 13 5,ia 14 2 12 13,ln 15 2 14,.e (some 16) (.raw ⟨(some 16),(.call { callee:=(.value (.tmp 11)),args:=#[(.tmp 15)],argTypes:=#[66]}),4, "slices.go:109",#[⟨0,.data⟩,⟨4,.data⟩],none⟩)] [0,1,5,7,8,16] <| j 16 (z [m 4 5] [4] <| .ret) (.skip))) <| q [bk 18 .add 8 1,m 8 18] [0,1,7,8]
def I5:IR:=z [] [0,1] <| .seq (z [le 7 0,mk 8 0] [0,1,7,8] <| .block 0 (.loop aak)) <| z [mk 4 (-1)] [4] <| .ret
theorem aal:Fits Tryz.prog 94 2 (bu Tryz.f94 I5) I5 [.t 4] 19:=.m Tryz.f94 _
def I6:IR:=z [.e (some 1) (.bx 42 (.t 0))] [1] <| .seq (.block 0 (z [ln 4 3 1,c 5 102 [4],no 6 5,m 3 6] [1,3] <| j 3 (z [mk 2 53] [2] <| .ret) (z [ln 8 3 1,c 9 103 [8],bk 10 .gtr 9 500,m 7 10] [7] <| j 7 (z [mk 2 4] [2] <| .ret) (.skip)))) <| z [mk 2 0] [2] <| .ret
theorem aam:Fits Tryz.prog 95 1 (bu Tryz.f95 I6) I6 [.t 2] 11:=.m Tryz.f95 _
def I7:IR:=z [.e (some 1) (.bx 42 (.t 0))] [1] <| z [.r (some 3) (.mf (.func 104) [] [(.t 1)]),m 2 3] [2] <| .ret
theorem aan:Fits Tryz.prog 96 1 (bu Tryz.f96 I7) I7 [.t 2] 4:=.m Tryz.f96 _
def I8:IR:=z [] [0] <| z [m 4 0,bk 5 .rem 4 26,.r (some 6) (.bi .add (k 97) (.t 5)),.r (some 7) (.cv .i32 (.t 6)),.e (some 8) (.raw ⟨(some 8),(.convert 21 9 (.tmp 7)),9, "types.go:185",#[⟨3,.data⟩],none⟩),m 3 8] [0,3] <| .seq (z [bk 10 .lss 0 26] [0,3,10] <| j 10 (z [m 2 3] [2] <| .ret) (.skip)) <| z [bk 14 .quo 0 26,c 15 106 [14],bi 16 .add 3 15,m 2 16] [2] <| .ret
theorem aao:Fits Tryz.prog 97 1 (bu Tryz.f97 I8) I8 [.t 2] 17:=.m Tryz.f97 _
def aap:IR:=z [bi 29 .lss 28 27] [1,2,4,27,28,29] <| .seq (j 29 (.skip) ((.exit 0))) <| .seq (.block 1 (z [m 7 28] [1,2,4,7,27,28] <| .dr (r 0 31 (.fa 2 (.t 2)) <| r 1 32 (.l1 (.t 31)) <| r 2 33 (.mv (.t 7)) <| r 3 34 (.fa 2 (.t 2)) <| r 4 35 (.l1 (.t 34)) <| r 5 36 (.mv (.t 7)) <| r 6 37 (.ia 3 (.t 35) (.t 36)) <| r 7 38 (.ln 3 (.t 37)) <| r 8 39 (.mv (.t 1)) <| .e 9 none (some 40) (.call 98 [(.t 38),(.t 39)]) [1] <| r 10 41 (.ia 3 (.t 32) (.t 33)) <| .e 11 none none (.st 3 (.t 41) (.t 40)) [] <| .nil) [1,2,4,27,28])) <| q [bk 42 .add 28 1,m 28 42] [1,2,4,27,28]
def I9:IR:=z [.e (some 2) (.bx 42 (.t 0)),.e (some 4) (.al 42 (.agg #[(i 0),(.string ⟨#[]⟩),(.slice none 0 0)]))] [1,2,4] <| .seq (z [f 8 0 2,l 9 8,bk 10 .eql 9 2] [1,2,4,10] <| j 10 (z [m 12 1,f 13 1 2,l 14 13,.e (some 15) (.raw ⟨(some 15),(.lookup 127 (.tmp 12) (.tmp 14) true),155, "types.go:142",#[⟨0,.data⟩,⟨2,.data⟩],none⟩),m 11 15,ex 16 0 11,ex 17 1 11,.e (some 5) (.al 42 (.agg #[(i 0),(.string ⟨#[]⟩),(.slice none 0 0)])),s 3 5 16,m 6 17] [1,2,4,5,6] <| z [m 18 6] [1,2,4,5,18] <| j 18 (z [ln 19 3 5,c 20 107 [19],s 3 4 20] [4] <| .ret) (.skip)) (.skip)) <| z [f 21 2 2,l 22 21,c 23 108 [22],f 24 2 2,s 1 24 23] [1,2,4] <| .seq (z [f 25 2 2,l 26 25,le 27 26,mk 28 0] [1,2,4,27,28] <| .block 0 (.loop aap)) <| z [ln 43 3 2,s 3 4 43] [4] <| .ret
theorem aaq:Fits Tryz.prog 98 2 (bu Tryz.f98 I9) I9 [.n 4 3] 44:=.m Tryz.f98 _
def aar:IR:=z [bi 52 .lss 51 50] [1,2,3,8,10,49,50,51,52] <| .seq (j 52 (.skip) ((.exit 0))) <| .seq (.block 1 (z [ia 53 3 49 51,ln 54 3 53,.e (some 12) (.al 42 (.agg #[(i 0),(.string ⟨#[]⟩),(.slice none 0 0)])),s 3 12 54] [1,2,3,8,10,12,49,50,51] <| .seq (z [n 56 3,l 57 56,bk 58 .lss 57 0] [1,2,3,8,10,12,49,50,51,58] <| j 58 ((.exit 0)) (.skip)) <| .dr (r 0 59 (.fa 2 (.t 10)) <| r 1 60 (.l1 (.t 59)) <| r 2 61 (.ln 3 (.t 12)) <| r 3 62 (.mv (.t 1)) <| r 4 63 (.mv (.t 2)) <| r 5 64 (.mv (.t 3)) <| .e 6 none (some 65) (.call 99 [(.t 61),(.t 62),(.t 63),(.t 64)]) [1] <| .e 7 none (some 66) (.bs 42 1 #[(i 0),(.string ⟨#[]⟩),(.slice none 0 0)] [(0,3,(.t 65))]) [1] <| .e 8 none (some 67) (.ap 42 3 48 #[(i 0),(.string ⟨#[]⟩),(.slice none 0 0)] (.t 60) (.t 66)) [] <| r 9 68 (.fa 2 (.t 10)) <| .e 10 none none (.st 1 (.t 68) (.t 67)) [] <| .nil) [1,2,3,8,10,49,50,51])) <| q [bk 69 .add 51 1,m 51 69] [1,2,3,8,10,49,50,51]
def I':IR:=z [.e (some 4) (.bx 42 (.t 0)),.e (some 8) (.al 42 (.agg #[(i 0),(.string ⟨#[]⟩),(.slice none 0 0)]))] [1,2,3,4,8] <| .seq (z [f 14 1 4,l 15 14,c 16 109 [1,15],m 9 16] [1,2,3,4,8,9] <| z [f 17 0 4,l 18 17,bk 19 .eql 18 2,m' 19 true 21 9,dK 19 true 22 .geq 21 0,a 23 19 22] [1,2,3,4,8,9,23] <| j 23 (.seq (.dr (r 0 24 (.mv (.t 3)) <| r 1 25 (.nn (.t 24)) <| r 2 26 (.l1 (.t 25)) <| r 3 27 (.mv (.t 2)) <| r 4 28 (.mv (.t 9)) <| r 5 29 (.ia 3 (.t 27) (.t 28)) <| r 6 30 (.ln 3 (.t 29)) <| .e 7 none (some 31) (.call 55 [(.t 30)]) [2] <| r 8 32 (.bi .sub (.t 26) (.t 31)) <| r 9 33 (.nn (.t 24)) <| .e 10 none none (.st 1 (.t 33) (.t 32)) [] <| .nil) [2,8,9]) <| z [ia 36 3 2 9,ln 37 3 36,s 3 8 37] [8] <| .ret) (.skip)) <| z [n 39 3,l 40 39,bk 41 .sub 40 1,n 42 3,s 1 42 41] [1,2,3,4,8] <| z [f 43 0 4,l 44 43,f 45 1 4,l 46 45,.r (some 47) (.bd #[(i 0),(.string ⟨#[]⟩),(.slice none 0 0)] [(0,1,(.t 44)),(1,1,(.t 46))]),.e (some 10) (.al 42 (.agg #[(i 0),(.string ⟨#[]⟩),(.slice none 0 0)])),s 3 10 47] [1,2,3,4,8,10] <| .seq (z [f 48 2 4,l 49 48,le 50 49,mk 51 0] [1,2,3,8,10,49,50,51] <| .block 0 (.loop aar)) <| z [ln 70 3 10,s 3 8 70] [8] <| .ret
theorem aas:Fits Tryz.prog 99 4 (bu Tryz.f99 I') I' [.n 8 3] 71:=.m Tryz.f99 _
def Ja:IR:=z [] [0,1] <| z [c 7 110 [0,1],bk 8 .geq 7 0,m 4 8] [4] <| .ret
theorem aat:Fits Tryz.prog 100 2 (bu Tryz.f100 Ja) Ja [.t 4] 9:=.m Tryz.f100 _
def Jb:IR:=z [.e (some 2) (.bx 97 (.t 0))] [1,2] <| z [f 4 0 2,l 5 4,f 6 0 1,l 7 6,bi 8 .eql 5 7,f' 8 true 10 1 2,l' 8 true 11 10,f' 8 true 12 1 1,l' 8 true 13 12,mN 8 true 14 .eql 11 13,a 15 8 14,f' 15 true 17 2 2,l' 15 true 18 17,f' 15 true 19 2 1,l' 15 true 20 19,mN 15 true 21 .eql 18 20,a 22 15 21,m 3 22] [3] <| .ret
theorem aau:Fits Tryz.prog 101 2 (bu Tryz.f101 Jb) Jb [.t 3] 23:=.m Tryz.f101 _
def Jc:IR:=z [.e (some 1) (.bx 42 (.t 0))] [1] <| z [mk 3 0] [1,3] <| .seq (z [f 4 0 1,l 5 4] [1,3,5] <| .block 0 (z [bk 7 .eql 5 1,m 6 7] [1,3,5,6] <| j 6 (z [f 8 1 1,l 9 8,.r (some 10) (.bi .neq (.t 9) (.c (.string ⟨#[]⟩)))] [1,3,10] <| j 10 (z [.r (some 2) (.mv (.c (.bool false)))] [2] <| .ret) (.skip)) (z [bk 12 .eql 5 2,m 11 12] [1,3,5,11] <| j 11 (z [f 13 1 1,l 14 13,c 15 111 [14],no 16 15] [1,3,16] <| j 16 (z [.r (some 2) (.mv (.c (.bool false)))] [2] <| .ret) (.skip)) (z [bk 18 .eql 5 3,m 17 18] [1,5,17] <| j 17 (.seq (z [f 19 1 1,l 20 19,.r (some 21) (.bi .neq (.t 20) (.c (.string ⟨#[]⟩)))] [1,21] <| j 21 (z [.r (some 2) (.mv (.c (.bool false)))] [2] <| .ret) (.skip)) <| q [mk 3 2] [1,3]) (z [bk 23 .eql 5 4,m 22 23] [1,22] <| j 22 (.seq (z [f 24 1 1,l 25 24,c 26 112 [25],no 27 26,f' 27 false 29 2 1,l' 27 false 30 29,kY 27 false 31 30,dK 27 false 32 .gtr 31 6,u 33 27 32] [1,33] <| j 33 (z [.r (some 2) (.mv (.c (.bool false)))] [2] <| .ret) (.skip)) <| q [f 34 2 1,l 35 34,le 36 35,m 3 36] [1,3]) (z [.r (some 2) (.mv (.c (.bool false)))] [2] <| .ret)))))) <| z [f 37 2 1,l 38 37,le 39 38,bi 41 .eql 39 3,f' 41 true 43 2 1,l' 41 true 44 43,.ge 41 true (some 45) (.call 113 [(.t 44),(.c (.func (.func 114) #[] #[]))]),xN 41 true 46 45,a 47 41 46,m 2 47] [2] <| .ret
theorem aav:Fits Tryz.prog 102 1 (bu Tryz.f102 Jc) Jc [.t 2] 48:=.m Tryz.f102 _
def aaw:IR:=z [bi 10 .lss 9 8] [3,7,8,9,10] <| .seq (j 10 (.skip) ((.exit 0))) <| .seq (.block 1 (z [ia 11 3 7 9,ln 12 3 11,.e (some 5) (.al 42 (.agg #[(i 0),(.string ⟨#[]⟩),(.slice none 0 0)])),s 3 5 12] [3,5,7,8,9] <| .seq (z [bk 14 .gtr 3 500] [3,5,7,8,9,14] <| j 14 ((.exit 0)) (.skip)) <| q [ln 16 3 5,c 17 103 [16],bi 18 .add 3 17,m 3 18] [3,7,8,9])) <| q [bk 19 .add 9 1,m 9 19] [3,7,8,9]
def Jd:IR:=z [.e (some 1) (.bx 42 (.t 0))] [1] <| z [mk 3 1] [1,3] <| .seq (z [f 6 2 1,l 7 6,le 8 7,mk 9 0] [3,7,8,9] <| .block 0 (.loop aaw)) <| z [.r (some 21) (.mm false (.t 3) (k 501)),m 2 21] [2] <| .ret
theorem aax:Fits Tryz.prog 103 1 (bu Tryz.f103 Jd) Jd [.t 2] 22:=.m Tryz.f103 _
def Je:IR:=q [ln 3 3 1,c 5 105 [3,0]] []
theorem aay:Fits Tryz.prog 104 2 (bu Tryz.f104 Je) Je [] 6:=.m Tryz.f104 _
def aaz:IR:=z [bi 18 .lss 17 16] [1,15,16,17,18] <| .seq (j 18 (.skip) ((.exit 0))) <| .seq (.block 1 (z [ia 19 3 15 17,ln 20 3 19,.e (some 6) (.al 42 (.agg #[(i 0),(.string ⟨#[]⟩),(.slice none 0 0)])),s 3 6 20] [1,6,15,16,17] <| z [ln 21 3 6,c 23 105 [21,1],no 24 23] [1,15,16,17,24] <| j 24 (z [.r (some 4) (.mv (.c (.bool false)))] [4] <| .ret) (.skip))) <| q [bk 25 .add 17 1,m 17 25] [1,15,16,17]
def aaA:IR:=z [bi 12 .lss 11 10] [1,2,10,11,12] <| .seq (j 12 (.skip) ((.exit 0))) <| .seq (.block 1 (z [m 3 11] [1,2,3,10,11] <| .dr (r 0 14 (.fa 2 (.t 1)) <| r 1 15 (.l1 (.t 14)) <| r 2 16 (.mv (.t 3)) <| r 3 17 (.fa 2 (.t 1)) <| r 4 18 (.l1 (.t 17)) <| r 5 19 (.mv (.t 3)) <| r 6 20 (.ia 3 (.t 18) (.t 19)) <| r 7 21 (.ln 3 (.t 20)) <| .e 8 none (some 22) (.call 107 [(.t 21)]) [1] <| r 9 23 (.ia 3 (.t 15) (.t 16)) <| .e 10 none none (.st 3 (.t 23) (.t 22)) [] <| .nil) [1,2,10,11])) <| q [bk 24 .add 11 1,m 11 24] [1,2,10,11]
def Jf:IR:=z [.e (some 1) (.bx 42 (.t 0)),.e (some 2) (.al 42 (.agg #[(i 0),(.string ⟨#[]⟩),(.slice none 0 0)]))] [1,2] <| z [f 4 2 1,l 5 4,c 6 108 [5],f 7 2 1,s 1 7 6] [1,2] <| .seq (z [f 8 2 1,l 9 8,le 10 9,mk 11 0] [1,2,10,11] <| .block 0 (.loop aaA)) <| z [ln 25 3 1,s 3 2 25] [2] <| .ret
theorem aaB:Fits Tryz.prog 107 1 (bu Tryz.f107 Jf) Jf [.n 2 3] 26:=.m Tryz.f107 _
def Jg:IR:=z [] [0] <| .seq (z [.r (some 4) (.eq .slice false (.t 0) (.c (.slice none 0 0)))] [0,4] <| j 4 (z [.r (some 2) (.mv (.c (.slice none 0 0)))] [2] <| .ret) (.skip)) <| z [.e (some 5) (.raw ⟨(some 5),(.buildSlice 40 0 #[]),40, "slices.go:362",#[],none⟩),m 6 0,.e (some 7) (.ap 42 3 48 #[(i 0),(.string ⟨#[]⟩),(.slice none 0 0)] (.t 5) (.t 6)),m 2 7] [2] <| .ret
theorem aaC:Fits Tryz.prog 108 1 (bu Tryz.f108 Jg) Jg [.t 2] 8:=.m Tryz.f108 _
def aaD:IR:=z [bi 9 .lss 8 7] [0,1,7,8,9] <| .seq (j 9 (.skip) ((.exit 0))) <| .seq (.block 1 (z [m 5 8] [0,1,5,7,8] <| z [ia 14 1 0 5,l 15 14,bi 16 .eql 1 15] [0,1,5,7,8,16] <| j 16 (z [m 4 5] [4] <| .ret) (.skip))) <| q [bk 18 .add 8 1,m 8 18] [0,1,7,8]
def Jh:IR:=z [] [0,1] <| .seq (z [le 7 0,mk 8 0] [0,1,7,8] <| .block 0 (.loop aaD)) <| z [mk 4 (-1)] [4] <| .ret
theorem aaE:Fits Tryz.prog 109 2 (bu Tryz.f109 Jh) Jh [.t 4] 19:=.m Tryz.f109 _
def aaF:IR:=z [bi 9 .lss 8 7] [0,1,7,8,9] <| .seq (j 9 (.skip) ((.exit 0))) <| .seq (.block 1 (z [m 5 8] [0,1,5,7,8] <| z [m 11 1,m 12 0,m 13 5,ia 14 11 12 13,ln 15 11 14,.e (some 16) (.raw ⟨(some 16),(.call { callee:=(.value (.tmp 11)),args:=#[(.tmp 15)],argTypes:=#[97]}),4, "slices.go:109",#[⟨0,.data⟩,⟨4,.data⟩],none⟩)] [0,1,5,7,8,16] <| j 16 (z [m 4 5] [4] <| .ret) (.skip))) <| q [bk 18 .add 8 1,m 8 18] [0,1,7,8]
def Ji:IR:=z [] [0,1] <| .seq (z [le 7 0,mk 8 0] [0,1,7,8] <| .block 0 (.loop aaF)) <| z [mk 4 (-1)] [4] <| .ret
theorem aaG:Fits Tryz.prog 110 2 (bu Tryz.f110 Ji) Ji [.t 4] 19:=.m Tryz.f110 _
def Jj:IR:=z [] [0] <| z [.r (some 4) (.bi .neq (.t 0) (.c (.string ⟨#[]⟩))),m' 4 true 6 0,.gr 4 true (some 7) (.pL (.t 6)),dK 4 true 8 .leq 7 4096,a 9 4 8,m' 9 true 11 0,.gr 9 true (some 12) (.qI (.t 11) (k 0)),.ge 9 true (some 13) (.call 116 [(.t 12)]),a 14 9 13,m' 14 true 16 0,.ge 14 true (some 17) (.call 117 [(.t 16)]),a 18 14 17,m 2 18] [2] <| .ret
theorem aaH:Fits Tryz.prog 111 1 (bu Tryz.f111 Jj) Jj [.t 2] 19:=.m Tryz.f111 _
def aaI:IR:=z [bi 18 .lss 17 16] [3,15,16,17,18] <| .seq (j 18 (.skip) ((.exit 0))) <| .seq (.block 1 (z [ia 19 1 15 17,l 20 19,m 5 20] [3,5,15,16,17] <| z [.r (some 22) (.bi .eql (.t 5) (.c (.string ⟨#[]⟩))),m' 22 false 24 5,.gr 22 false (some 25) (.qI (.t 24) (k 0)),.ge 22 false (some 26) (.call 119 [(.t 25)]),xN 22 false 27 26,u 28 22 27,m' 28 false 30 5,.ge 28 false (some 31) (.call 117 [(.t 30)]),xN 28 false 32 31,u 33 28 32] [3,15,16,17,33] <| j 33 (z [.r (some 2) (.mv (.c (.bool false)))] [2] <| .ret) (.skip))) <| q [bk 34 .add 17 1,m 17 34] [3,15,16,17]
def Jk:IR:=z [] [0] <| .seq (z [.r (some 7) (.pL (.t 0)),bk 8 .gtr 7 4096,m' 8 false 10 0,.gr 8 false (some 11) (.bi .eql (.t 10) (.c (.string ⟨#[73,110,116]⟩))),u 12 8 11] [0,12] <| j 12 (z [.r (some 2) (.mv (.c (.bool false)))] [2] <| .ret) (.skip)) <| z [.e (some 14) (.call 118 [(.t 0),(.c (.string ⟨#[46]⟩))]),m 3 14] [3] <| .seq (z [m 15 3,le 16 15,mk 17 0] [3,15,16,17] <| .block 0 (.loop aaI)) <| z [le 36 3,bk 37 .leq 36 2,m 2 37] [2] <| .ret
theorem aaJ:Fits Tryz.prog 112 1 (bu Tryz.f112 Jk) Jk [.t 2] 38:=.m Tryz.f112 _
def Jl:IR:=z [] [0,1] <| z [c 7 120 [0,1],bk 8 .geq 7 0,m 4 8] [4] <| .ret
theorem aaK:Fits Tryz.prog 113 2 (bu Tryz.f113 Jl) Jl [.t 4] 9:=.m Tryz.f113 _
def Jm:IR:=z [.e (some 1) (.bx 42 (.t 0))] [1] <| z [ln 3 3 1,c 4 102 [3],no 5 4,m 2 5] [2] <| .ret
theorem aaL:Fits Tryz.prog 114 1 (bu Tryz.f114 Jm) Jm [.t 2] 6:=.m Tryz.f114 _
def Jn:IR:=z [] [0] <| z [.r (some 4) (.bi .geq (.t 0) (.c (.int .u8 97))),m' 4 true 6 0,.gr 4 true (some 7) (.bi .leq (.t 6) (.c (.int .u8 122))),a 8 4 7,m 2 8] [2] <| .ret
theorem aaM:Fits Tryz.prog 116 1 (bu Tryz.f116 Jn) Jn [.t 2] 9:=.m Tryz.f116 _
def aaN:IR:=z [bi 7 .lss 6 5] [0,5,6,7] <| .seq (j 7 (.skip) ((.exit 0))) <| .seq (.block 1 (z [m 3 6] [0,3,5,6] <| z [.r (some 11) (.qI (.t 0) (.t 3)),c 12 122 [11],no 13 12] [0,5,6,13] <| j 13 (z [.r (some 2) (.mv (.c (.bool false)))] [2] <| .ret) (.skip))) <| q [bk 14 .add 6 1,m 6 14] [0,5,6]
def Jo:IR:=z [] [0] <| .seq (z [.r (some 5) (.pL (.t 0)),mk 6 0] [0,5,6] <| .block 0 (.loop aaN)) <| z [.r (some 2) (.mv (.c (.bool true)))] [2] <| .ret
theorem aaO:Fits Tryz.prog 117 1 (bu Tryz.f117 Jo) Jo [.t 2] 15:=.m Tryz.f117 _
def Jp:IR:=z [] [0] <| z [.r (some 4) (.bi .geq (.t 0) (.c (.int .u8 65))),m' 4 true 6 0,.gr 4 true (some 7) (.bi .leq (.t 6) (.c (.int .u8 90))),a 8 4 7,m 2 8] [2] <| .ret
theorem aaP:Fits Tryz.prog 119 1 (bu Tryz.f119 Jp) Jp [.t 2] 9:=.m Tryz.f119 _
def aaQ:IR:=z [bi 9 .lss 8 7] [0,1,7,8,9] <| .seq (j 9 (.skip) ((.exit 0))) <| .seq (.block 1 (z [m 5 8] [0,1,5,7,8] <| z [m 11 1,m 12 0,m 13 5,ia 14 3 12 13,ln 15 3 14,.e (some 16) (.raw ⟨(some 16),(.call { callee:=(.value (.tmp 11)),args:=#[(.tmp 15)],argTypes:=#[42]}),4, "slices.go:109",#[⟨0,.data⟩,⟨4,.data⟩],none⟩)] [0,1,5,7,8,16] <| j 16 (z [m 4 5] [4] <| .ret) (.skip))) <| q [bk 18 .add 8 1,m 8 18] [0,1,7,8]
def Jq:IR:=z [] [0,1] <| .seq (z [le 7 0,mk 8 0] [0,1,7,8] <| .block 0 (.loop aaQ)) <| z [mk 4 (-1)] [4] <| .ret
theorem aaR:Fits Tryz.prog 120 2 (bu Tryz.f120 Jq) Jq [.t 4] 19:=.m Tryz.f120 _
def Jr:IR:=z [] [0] <| z [c 4 116 [0],m' 4 false 6 0,.ge 4 false (some 7) (.call 119 [(.t 6)]),u 8 4 7,m' 8 false 10 0,.gr 8 false (some 11) (.bi .geq (.t 10) (.c (.int .u8 48))),m' 8 false 12 11,m' 12 true 13 0,.gr 12 true (some 14) (.bi .leq (.t 13) (.c (.int .u8 57))),.gr 8 false (some 15) (.pk (.t 12) (.t 14) (.c (.bool false))),u 16 8 15,m' 16 false 18 0,.gr 16 false (some 19) (.bi .eql (.t 18) (.c (.int .u8 95))),u 20 16 19,m' 20 false 22 0,.gr 20 false (some 23) (.bi .eql (.t 22) (.c (.int .u8 39))),u 24 20 23,m 2 24] [2] <| .ret
theorem aaS:Fits Tryz.prog 122 1 (bu Tryz.f122 Jr) Jr [.t 2] 25:=.m Tryz.f122 _
end
section
open Go Go.W
theorem zG (t:Ty):∀ {w:World} {B:Nat→Prop} {cs:List Value},aW w B cs t→a8 Tryz.prog 55 [.agg cs.toArray] w fun r w'=>r=I t.size∧Mod (fun _=>False) w w':=by
 induction t using Ty.ind with
 | h t ih=>
 intro w B cs h;obtain ⟨v,rfl,hl⟩:=h.cells;obtain ⟨a,c,rfl⟩:=a7 hl;refine Zr.calls rfl ?_;unfold Ir;(try simp only [go_sem,simprocAttr]);refine bD rfl ?_;intro w1 ar aj _;(try simp only [go_sem,simprocAttr,cell_of ar,Value.cells]);refine fe t.args.length (fun k ρ w'=>Mod (fun _=>False) w w'∧k≤t.args.length∧∃ n,t.size=lW (t.args.drop k) n∧ρ=[(3,I n),(7,.slice a t.args.length c),(8,I t.args.length),(9,I k)]) ⟨aj,by omega,1,t.size_eq,rfl⟩ (dB hl) ?_ ?_ (by decide) ?_
 ·rintro k _ w2 ⟨ai,hk,n,he,rfl⟩;exact ⟨rfl,rfl,hk⟩
 ·rintro k _ w2 ⟨ai,_,n,he,rfl⟩ hk;obtain ⟨ad,c,r,e,hr,bT,bU,_⟩:=eh (hl.mod ai aC (fun _ _ h=>h.mod ai aC)) hk;cases e;have b1:(0:Int)≤k∧(k:Int) < t.args.length:=by omega
  (try simp only [go_sem,simprocAttr,bq,br,b1,bU]);refine dp rfl bT hr.one ?_;intro w3 aM aq _;(try simp only [go_sem,simprocAttr,az aM bT]);refine aI (by rfl) ?_;refine (ih _ (List.getElem_mem hk) (hr.mod aq aC)).mono ?_;rintro _ w4 ⟨rfl,aA⟩;(try simp only [go_sem,simprocAttr]);exact ⟨ai.trans (aq.trans aA),hk,_,he.trans (OE n hk),rfl⟩
 ·rintro _ w2 ⟨ai,_,n,he,rfl⟩;(try simp only [go_sem,simprocAttr]);rw [he,List.drop_length];exact ⟨rfl,ai⟩
theorem Ph {l:List Ty} {w:World} {B:Nat→Prop} {v:Value} (hl:aT w v 3 B (aW w B) l):a8 Tryz.prog 54 [v] w fun r w'=>r=I (lW l 0)∧Mod (fun _=>False) w w':=by
 obtain ⟨a,c,rfl⟩:=a7 hl;refine Zp.calls rfl ?_;unfold Iq;(try simp only [go_sem,simprocAttr]);refine fe l.length (fun k ρ w'=>Mod (fun _=>False) w w'∧k≤l.length∧∃ n,lW l 0=lW (l.drop k) n∧ρ=[(3,I n),(6,.slice a l.length c),(7,I l.length),(8,I k)]) ⟨.refl _ _,by omega,0,rfl,rfl⟩ (dB hl) ?_ ?_ (by decide) ?_
 ·rintro k _ w2 ⟨ai,hk,n,he,rfl⟩;exact ⟨rfl,rfl,hk⟩
 ·rintro k _ w2 ⟨ai,_,n,he,rfl⟩ hk;obtain ⟨ad,c,r,e,hr,bT,bU,_⟩:=eh (hl.mod ai aC (fun _ _ h=>h.mod ai aC)) hk;cases e;have b1:(0:Int)≤k∧(k:Int) < l.length:=by omega
  (try simp only [go_sem,simprocAttr,bq,br,b1,bU]);refine dp rfl bT hr.one ?_;intro w3 aM aq _;(try simp only [go_sem,simprocAttr,az aM bT]);refine aI (by rfl) ?_;refine (zG _ (hr.mod aq aC)).mono ?_;rintro _ w4 ⟨rfl,aA⟩;(try simp only [go_sem,simprocAttr]);exact ⟨ai.trans (aq.trans aA),hk,_,he.trans (OE n hk),rfl⟩
 ·rintro _ w2 ⟨ai,_,n,he,rfl⟩;(try simp only [go_sem,simprocAttr]);rw [he,List.drop_length];exact ⟨rfl,ai⟩
theorem aaT (t:Ty):∀ {w:World} {B:Nat→Prop} {cs:List Value},aW w B cs t→a8 Tryz.prog 103 [.agg cs.toArray] w fun r w'=>r=I t.nodes∧Mod (fun _=>False) w w':=by
 induction t using Ty.ind with
 | h t ih=>
 intro w B cs h;obtain ⟨v,rfl,hl⟩:=h.cells;obtain ⟨a,c,rfl⟩:=a7 hl;refine aax.calls rfl ?_;unfold Jd;(try simp only [go_sem,simprocAttr]);refine bD rfl ?_;intro w1 ar aj _;(try simp only [go_sem,simprocAttr,cell_of ar,Value.cells]);have fin:∀ w2 n,Mod (fun _=>False) w w2→ku t.args 1=n→Value.int .i64 (if 501 < n then 501 else n)=I t.nodes∧Mod (fun _=>False) w w2:=fun w2 n h1 h2=>by
  rw [t.Hu,h2];exact ⟨congrArg I (by rw [Int.min_def];split<;>split<;>omega),h1⟩
 refine fe t.args.length (fun k ρ w'=>Mod (fun _=>False) w w'∧k≤t.args.length∧∃ n,ku t.args 1=ku (t.args.drop k) n∧ρ=[(3,I n),(7,.slice a t.args.length c),(8,I t.args.length),(9,I k)]) ⟨aj,by omega,1,rfl,rfl⟩ (dB hl) ?_ ?_ (by decide) ?_
 ·rintro k _ w2 ⟨ai,hk,n,he,rfl⟩;exact ⟨rfl,rfl,hk⟩
 ·rintro k _ w2 ⟨ai,_,n,he,rfl⟩ hk;obtain ⟨ad,c,r,e,hr,bT,bU,_⟩:=eh (hl.mod ai aC (fun _ _ h=>h.mod ai aC)) hk;cases e;have b1:(0:Int)≤k∧(k:Int) < t.args.length:=by omega
  (try simp only [go_sem,simprocAttr,bq,br,b1,bU]);refine dp rfl bT hr.one ?_;intro w3 aM aq _;(try simp only [go_sem,simprocAttr,az aM bT]);rw [XY n hk] at he;refine Xx rfl (fun sE=>?_) (fun sE=>?_)
  ·simp only [Oj,Ok,Ol,bq,Om] at sE;rw [if_pos sE] at he;(try simp only [go_sem,simprocAttr]);exact fin _ _ (ai.trans aq) he
  simp only [Oj,Ok,Ol,bq,Om] at sE;rw [if_neg sE] at he;(try simp only [go_sem,simprocAttr,az aM bT]);refine aI (by rfl) ?_;refine (ih _ (List.getElem_mem hk) (hr.mod aq aC)).mono ?_;rintro _ w4 ⟨rfl,aA⟩;(try simp only [go_sem,simprocAttr]);exact ⟨ai.trans (aq.trans aA),hk,_,he,rfl⟩
 ·rintro _ w2 ⟨ai,_,n,he,rfl⟩;(try simp only [go_sem,simprocAttr]);rw [List.drop_length] at he;exact fin _ _ ai he
end
section
open Go Go.W
attribute [go_sem] Bool.not_true Bool.not_false
theorem Pj {ρ:Env} {c:Nat} {v:Value} {kp:List Nat} (h:c∈kp) (hv:ρ.get c=some v):(ρ.aB kp).get c=some v:=OD hv h
theorem aaU (w:World) (a:Addr):∀ (n i:Nat) (acc:Array Value),jK w.drew a i n acc=jK w a i n acc:=by
 intro n
 induction n with
 | zero=>intro i acc;rfl
 | succ n ih=>intro i acc;simp only [jK,Og,ih]
@[go_sem] theorem b9 (w:World) (n:Nat) (v:Value):gp w.drew n v=gp w n v:=by
 cases v with
 | pointer a=>cases a with
  | none=>rfl
  | some a=>show (jK _ _ _ _ _).map _=(jK _ _ _ _ _).map _;rw [aaU]
 | _=>rfl
section
variable {P:Program} {N:Nat} {w:World} {ρ:Env}
theorem vD {id:Nat} {a:IR} {next:Env→World→Prop} {Q:Post} (om:Env→World→Prop) (h:cH P N a (jP id (kW om Q)) ρ w) (hk:∀ ρ w,om ρ w→next ρ w):cH P N a (jP id (kW next Q)) ρ w:=
 xz a _ _ (fun e ρ w h=>by
  cases e with
  | normal=>exact hk _ _ h
  | exit lO=>
   simp only [jP] at h ⊢;by_cases hi:lO=id
   ·rw [if_pos hi] at h ⊢;exact hk _ _ h
   ·rw [if_neg hi] at h ⊢;exact h
  | _=>exact h) ρ w h
theorem mO {α:Type} {c i n x id zB v p q s sz T:Nat} {z:Value} {Pk ox xD:List Nat} {body:IR} {Q:Post} {PP:World→List Value→α→Prop} {l:List α} {B:Nat→Prop} {sl:Value}
   (Inv:Nat→Env→World→Prop) (h0:Inv 0 ρ w) {w0:World} {B0:Nat→Prop} {P0:List Value→α→Prop} (zH:aT w0 sl sz B0 P0 l)
   (hI:∀ k ρ w,Inv k ρ w→(aT w sl sz B (PP w) l∧k≤l.length)∧ρ.get i=some (.int .i64 k)∧ρ.get n=some (.int .i64 l.length)∧ρ.get s=some sl)
   (gD:∀ w r a,PP w r a→∀ u∈r,u.oneCell'=true) (hz:z.cells.size=sz)
   (hb:∀ k ρ w (hk:k < l.length) w' (r:List Value) (b:Nat) (pv:Value),Inv k ρ w→PP w r l[k]→r.length=sz→w'.heap[b]? = some (.cells r.toArray T (0,0))→Mod (fun _=>False) w w'→w.heap.size≤b →
    cH P N body (jP zB (fun e aw w'=>match e with
    | .normal=>aw.get i=some (.int .i64 k)∧Inv (k+1) (Env.aB ((i,.int .i64 ((k+1:Nat):Int))::(x,.int .i64 ((k+1:Nat):Int))::aw) xD) w'
    | e=>Q e aw w')) (Env.aB ((v,ptr b)::(q,.agg r.toArray)::(p,pv)::Env.aB ((c,.bool true)::ρ) ox) Pk) w')
   (he:∀ ρ w,Inv l.length ρ w→Q (.exit id) (Env.aB ((c,.bool false)::ρ) ox) w)
   (hc:(c∈ox∧i∈ox∧s∈ox)∧(c≠i∧c≠s∧p≠q∧q≠v):=by decide) :
   cH P N (.loop (.seq (.cS false [.r (some c) (.bi .lss (.t i) (.t n))] ox) (.seq (.cond (.t c) .skip (.exit id)) (.seq (.block zB (.seq (.cS false [.r (some p) (.ia sz (.t s) (.t i)),.r (some q) (.ln sz (.t p)),.e (some v) (.al T z),.e none (.st sz (.t v) (.t q))] Pk) body))
    (.cS false [.r (some x) (.bi .add (.t i) (.c (.int .i64 1))),.r (some i) (.mv (.t x))] xD))))) Q ρ w:=by
 obtain ⟨⟨hc,hi,hs⟩,nc,ns,npq,nqv⟩:=hc;refine fe l.length Inv h0 (dB zH) (fun k ρ w h=>⟨(hI k ρ w h).2.1,(hI k ρ w h).2.2.1,(hI k ρ w h).1.2⟩) ?_ hc he;intro k ρ w h hk;obtain ⟨⟨hl,_⟩,g1,g2,g3⟩:=hI k ρ w h;obtain ⟨ad,cp,r,e,hr,sF,bU,_⟩:=eh hl hk;have e1:(Env.aB ((c,.bool true)::ρ) ox).get i=some (.int .i64 k):=Pj hi (by rw [qQ,if_neg nc];exact g1);have e2:(Env.aB ((c,.bool true)::ρ) ox).get s=some sl:=Pj hs (by rw [qQ,if_neg ns];exact g3);rw [Xv,Xw];refine ⟨.pointer (some (ad.add (k*sz))),?_,.agg r.toArray,?_,?_⟩
 ·show (O.ev _ _).bind _=_;rw [zv,e2,Option.bind_some,zv,e1,Option.bind_some,e];show (if (0:Int)≤(k:Int)∧(k:Int) < (l.length:Nat) then _ else none)=_;rw [if_pos ⟨by omega,by omega⟩,Int.toNat_natCast]
 ·show (O.ev _ _).bind _=_;rw [zv,XB,qQ,if_pos rfl,Option.bind_some];exact bU
 ·show E.wp _ _ _ _ _;refine dp (z:=z) (n:=sz) (T:=T) (vs:=r) (y:=.t v) (aw:=fun u=>(v,u)::(q,.agg r.toArray)::(p,.pointer (some (ad.add (k*sz))))::Env.aB ((c,.bool true)::ρ) ox) (K:=fun _ _ w'=>_) ?_ sF (gD _ _ _ hr) ?_ ?_ hz
  ·rw [zv,qQ,if_neg (Ne.symm nqv),qQ,if_pos rfl]
  ·intro w' oq hm _;exact hb k ρ w hk w' r _ _ h hr sF oq hm (Nat.le_refl _)
  ·rw [zv,qQ,if_pos rfl]
end
end
section
open Go Go.W Go.W.Z
def Js:IR:=z [] [0,1] <| z [.e (some 7) (.call 123 [(.t 0),(.t 1),(k 0),(k (-1))]),m 4 7] [4] <| .ret
theorem aaV:Fits Tryz.prog 118 2 (bu Tryz.f118 Js) Js [.t 4] 8:=.m Tryz.f118 _
end
end Go.Proofs.YtjfgeekjjlhbdaaGreatDoor
namespace Go.Proofs
section
open Go.Shelf
def Tryz.aaW:Go.Shelf.Ren:=⟨fun | 171=>106 | 243=>115 | 246=>121 | 283=>124 | 284=>125 | 285=>126 | 286=>127 | 129=>132 | 317=>131 | 318=>133 | 319=>134 | 320=>135 | 337=>140 | 338=>141 | n=>n,fun | 3=>3 | 9=>9 | 2=>2 | 4=>4 | 171=>210 | 0=>0 | 53=>211 | 37=>214 | 5=>5 | 173=>215 | 212=>220 | 51=>221 | 20=>20 | 213=>222 | 46=>56 | 232=>230 | 233=>231 | n=>n,fun | 17=>0 | 18=>2 | 19=>3 | n=>n⟩
theorem Tryz.aaX:Go.Proofs.Lays.n171 Tryz.prog Tryz.aaW:={
 mixed:=by kernel_rfl
 f129:=Tryz.func132.trans (congrArg some (by kernel_rfl))
 f171:=Tryz.func106.trans (congrArg some (by kernel_rfl))
 f243:=Tryz.func115.trans (congrArg some (by kernel_rfl))
 f246:=Tryz.func121.trans (congrArg some (by kernel_rfl))
 f283:=Tryz.func124.trans (congrArg some (by kernel_rfl))
 f284:=Tryz.func125.trans (congrArg some (by kernel_rfl))
 f285:=Tryz.func126.trans (congrArg some (by kernel_rfl))
 f286:=Tryz.func127.trans (congrArg some (by kernel_rfl))
 f317:=Tryz.func131.trans (congrArg some (by kernel_rfl))
 f318:=Tryz.func133.trans (congrArg some (by kernel_rfl))
 f319:=Tryz.func134.trans (congrArg some (by kernel_rfl))
 f320:=Tryz.func135.trans (congrArg some (by kernel_rfl))
 f337:=Tryz.func140.trans (congrArg some (by kernel_rfl))
 f338:=Tryz.func141.trans (congrArg some (by kernel_rfl))
 t0:=Tryz.underlying0
 a0:=Tryz.isAgg0
 z0:=Tryz.sizeOf0
 v0:=Tryz.zeroValue0
 t2:=Tryz.underlying2
 a2:=Tryz.isAgg2
 z2:=Tryz.sizeOf2
 v2:=Tryz.zeroValue2
 t3:=Tryz.underlying3
 a3:=Tryz.isAgg3
 z3:=Tryz.sizeOf3
 v3:=Tryz.zeroValue3
 t4:=Tryz.underlying4
 a4:=Tryz.isAgg4
 z4:=Tryz.sizeOf4
 v4:=Tryz.zeroValue4
 t5:=Tryz.underlying5
 a5:=Tryz.isAgg5
 z5:=Tryz.sizeOf5
 v5:=Tryz.zeroValue5
 t9:=Tryz.underlying9
 a9:=Tryz.isAgg9
 z9:=Tryz.sizeOf9
 v9:=Tryz.zeroValue9
 t20:=Tryz.underlying20
 a20:=Tryz.isAgg20
 z20:=Tryz.sizeOf20
 v20:=Tryz.zeroValue20
 t37:=Tryz.underlying214
 a37:=Tryz.isAgg214
 z37:=Tryz.sizeOf214
 v37:=Tryz.zeroValue214
 t46:=Tryz.underlying56
 a46:=Tryz.isAgg56
 z46:=Tryz.sizeOf56
 v46:=Tryz.zeroValue56
 t51:=Tryz.underlying221
 a51:=Tryz.isAgg221
 z51:=Tryz.sizeOf221
 v51:=Tryz.zeroValue221
 t53:=Tryz.underlying211
 a53:=Tryz.isAgg211
 z53:=Tryz.sizeOf211
 v53:=Tryz.zeroValue211
 t171:=Tryz.underlying210
 a171:=Tryz.isAgg210
 z171:=Tryz.sizeOf210
 v171:=Tryz.zeroValue210
 t173:=Tryz.underlying215
 a173:=Tryz.isAgg215
 z173:=Tryz.sizeOf215
 v173:=Tryz.zeroValue215
 t212:=Tryz.underlying220
 a212:=Tryz.isAgg220
 z212:=Tryz.sizeOf220
 v212:=Tryz.zeroValue220
 t213:=Tryz.underlying222
 a213:=Tryz.isAgg222
 z213:=Tryz.sizeOf222
 t232:=Tryz.underlying230
 a232:=Tryz.isAgg230
 z232:=Tryz.sizeOf230
 v232:=Tryz.zeroValue230
 t233:=Tryz.underlying231
 a233:=Tryz.isAgg231
 z233:=Tryz.sizeOf231
 v233:=Tryz.zeroValue231
 g17:=by kernel_rfl
 g18:=by kernel_rfl
 g19:=by kernel_rfl}
def Tryz.aaY:Go.Shelf.Ren:=⟨fun | 221=>123 | 268=>128 | 138=>129 | 143=>130 | 195=>136 | 197=>137 | 218=>138 | 219=>139 | 260=>142 | 217=>143 | 225=>144 | 224=>145 | 267=>146 | 266=>147 | 314=>148 | n=>n,fun | 9=>9 | 3=>3 | 31=>39 | 4=>4 | 0=>0 | 105=>226 | 21=>21 | 5=>5 | 46=>56 | 119=>232 | 139=>235 | 138=>234 | 146=>236 | 51=>221 | n=>n,fun | 1=>1 | 3=>4 | 4=>5 | n=>n⟩
theorem Tryz.Jt:Go.Proofs.Lays.n221 Tryz.prog Tryz.aaY:={
 mixed:=by kernel_rfl
 f138:=Tryz.func129.trans (congrArg some (by kernel_rfl))
 f143:=Tryz.func130.trans (congrArg some (by kernel_rfl))
 f195:=Tryz.func136.trans (congrArg some (by kernel_rfl))
 f197:=Tryz.func137.trans (congrArg some (by kernel_rfl))
 f217:=Tryz.func143.trans (congrArg some (by kernel_rfl))
 f218:=Tryz.func138.trans (congrArg some (by kernel_rfl))
 f219:=Tryz.func139.trans (congrArg some (by kernel_rfl))
 f221:=Tryz.func123.trans (congrArg some (by kernel_rfl))
 f224:=Tryz.func145.trans (congrArg some (by kernel_rfl))
 f225:=Tryz.func144.trans (congrArg some (by kernel_rfl))
 f260:=Tryz.func142.trans (congrArg some (by kernel_rfl))
 f266:=Tryz.func147.trans (congrArg some (by kernel_rfl))
 f267:=Tryz.func146.trans (congrArg some (by kernel_rfl))
 f268:=Tryz.func128.trans (congrArg some (by kernel_rfl))
 f314:=Tryz.func148.trans (congrArg some (by kernel_rfl))
 t0:=Tryz.underlying0
 a0:=Tryz.isAgg0
 z0:=Tryz.sizeOf0
 v0:=Tryz.zeroValue0
 t3:=Tryz.underlying3
 a3:=Tryz.isAgg3
 z3:=Tryz.sizeOf3
 v3:=Tryz.zeroValue3
 t4:=Tryz.underlying4
 a4:=Tryz.isAgg4
 z4:=Tryz.sizeOf4
 v4:=Tryz.zeroValue4
 t5:=Tryz.underlying5
 a5:=Tryz.isAgg5
 z5:=Tryz.sizeOf5
 v5:=Tryz.zeroValue5
 t9:=Tryz.underlying9
 a9:=Tryz.isAgg9
 z9:=Tryz.sizeOf9
 v9:=Tryz.zeroValue9
 t21:=Tryz.underlying21
 a21:=Tryz.isAgg21
 z21:=Tryz.sizeOf21
 v21:=Tryz.zeroValue21
 t31:=Tryz.underlying39
 a31:=Tryz.isAgg39
 z31:=Tryz.sizeOf39
 v31:=Tryz.zeroValue39
 t46:=Tryz.underlying56
 a46:=Tryz.isAgg56
 z46:=Tryz.sizeOf56
 v46:=Tryz.zeroValue56
 t51:=Tryz.underlying221
 a51:=Tryz.isAgg221
 z51:=Tryz.sizeOf221
 v51:=Tryz.zeroValue221
 t105:=Tryz.underlying226
 a105:=Tryz.isAgg226
 z105:=Tryz.sizeOf226
 v105:=Tryz.zeroValue226
 t119:=Tryz.underlying232
 a119:=Tryz.isAgg232
 z119:=Tryz.sizeOf232
 t138:=Tryz.underlying234
 a138:=Tryz.isAgg234
 z138:=Tryz.sizeOf234
 v138:=Tryz.zeroValue234
 t139:=Tryz.underlying235
 a139:=Tryz.isAgg235
 z139:=Tryz.sizeOf235
 v139:=Tryz.zeroValue235
 t146:=Tryz.underlying236
 a146:=Tryz.isAgg236
 z146:=Tryz.sizeOf236
 v146:=Tryz.zeroValue236
 g1:=by kernel_rfl
 g3:=by kernel_rfl
 g4:=by kernel_rfl}
theorem Tryz.strconv_Itoa_small (i:Nat) (hi:i < 100) (w:World) :
   Calls Tryz.prog 106 #[.int .i64 i] w fun e w'=>e = .returned (.string ⟨(Lib.decDigits i).toArray⟩)∧w'=w:=Any.strconv_Itoa_small Tryz.aaX i hi w
end
end Go.Proofs
namespace Go.Proofs.YtjfgeekjjlhbdaaGreatDoor
section
open Go Go.W
abbrev By (c:UInt8):Value:=.int .u8 c.toNat
def zJ (c:UInt8):Bool:=decide ((97:Int)≤c.toNat)&&decide ((c.toNat:Int)≤122)
def zK (c:UInt8):Bool:=decide ((65:Int)≤c.toNat)&&decide ((c.toNat:Int)≤90)
def ud (c:UInt8):Bool:=zJ c||zK c||(decide ((48:Int)≤c.toNat)&&decide ((c.toNat:Int)≤57))||((c.toNat:Int) == 95)||((c.toNat:Int) == 39)
def vE (p:UInt8→Bool) (s:ByteArray):Bool:=decide (∀ i,∀ h:i < s.size,p s[i]=true)
abbrev zL (s:ByteArray):Bool:=vE ud s
def sG (c:UInt8):Bool:=!(decide ((c.toNat:Int) < 32)||decide ((c.toNat:Int) > 126))
def jU (s:ByteArray):Bool:=vE sG s&&(decide ((s.size:Int)≥1)&&decide ((s.size:Int)≤4096))
def aQ (a b:ByteArray):Bool:=a.toList == b.toList
def ue (s:ByteArray):Bool:=!(aQ s ⟨#[]⟩)&&decide ((s.size:Int)≤4096)&&(if h:0 < s.size then zJ s[0] else false)&&zL s
theorem Pm (c:UInt8) {w:World}:a8 Tryz.prog 116 [By c] w fun r w'=>r = .bool (zJ c)∧w=w':=by
 refine aaM.calls rfl ?_;unfold Jn;(try simp only [go_sem,simprocAttr]);cases h:decide ((97:Int)≤c.toNat)<;>(try simp only [go_sem,simprocAttr,zJ,h])<;>rfl
theorem Pn (c:UInt8) {w:World}:a8 Tryz.prog 119 [By c] w fun r w'=>r = .bool (zK c)∧w=w':=by
 refine aaP.calls rfl ?_;unfold Jp;(try simp only [go_sem,simprocAttr]);cases h:decide ((65:Int)≤c.toNat)<;>(try simp only [go_sem,simprocAttr,zK,h])<;>rfl
theorem aaZ (c:UInt8) {w:World}:a8 Tryz.prog 122 [By c] w fun r w'=>r = .bool (ud c)∧w=w':=by
 refine aaS.calls rfl ?_;unfold Jr;(try simp only [go_sem,simprocAttr]);refine aI (by rfl) ?_;refine (Pm c).mono ?_;rintro _ _ ⟨rfl,rfl⟩;have fin:∀ b:Bool,ud c=b→(Value.bool b = .bool (ud c)∧w=w):=fun b h=>⟨congrArg _ h.symm,rfl⟩
 cases h1:zJ c with
 | true=>(try simp only [go_sem,simprocAttr]);exact (fin true (by simp [ud,h1])).1
 | false=>
  (try simp only [go_sem,simprocAttr]);refine aI (by rfl) ?_;refine (Pn c).mono ?_;rintro _ _ ⟨rfl,rfl⟩;cases h2:zK c with
  | true=>(try simp only [go_sem,simprocAttr]);exact (fin true (by simp [ud,h1,h2])).1
  | false=>
   (try simp only [go_sem,simprocAttr]);cases h3:decide ((48:Int)≤c.toNat)<;>(try simp only [go_sem,simprocAttr,h3])<;>cases h4:decide ((c.toNat:Int)≤57)<;>(try simp only [go_sem,simprocAttr,h4])<;>cases h5:((c.toNat:Int) == 95)<;>(try simp only [go_sem,simprocAttr,h5])<;>exact congrArg _ (by simp [ud,h1,h2,h3,h4,h5])
theorem vF {s:ByteArray} {i:Nat} (h:i < s.size):s[i]? = some s[i]:=getElem?_pos s i h
theorem Po (s:ByteArray) (hs:s.size < 9223372036854775807) {w:World}:a8 Tryz.prog 117 [.string s] w fun r w'=>r = .bool (zL s)∧w=w':=by
 refine aaO.calls rfl ?_;unfold Jo;(try simp only [go_sem,simprocAttr]);refine fe s.size (fun k ρ w'=>w=w'∧k≤s.size∧(∀ i,∀ h:i < s.size,i < k→ud s[i]=true)∧ρ=[(0,.string s),(5,I s.size),(6,I k)]) ⟨rfl,by omega,fun i _ hi=>absurd hi (by omega),rfl⟩ hs ?_ ?_ (by decide) ?_
 ·rintro k _ w2 ⟨rfl,hk,_,rfl⟩;exact ⟨rfl,rfl,hk⟩
 ·rintro k _ w2 ⟨rfl,_,ha,rfl⟩ hk;have b1:(0:Int)≤k:=by omega
  (try simp only [go_sem,simprocAttr,bq,br,b1,vF hk]);refine aI (by rfl) ?_;refine (aaZ s[k]).mono ?_;rintro _ _ ⟨rfl,rfl⟩;cases h:ud s[k] with
  | true=>
   (try simp only [go_sem,simprocAttr]);refine ⟨hk,fun i hi hik=>?_⟩;rcases Nat.lt_or_ge i k with h1 | h1
   ·exact ha i hi h1
   ·have:i=k:=by omega
    subst this;exact h
  | false=>
   (try simp only [go_sem,simprocAttr]);refine congrArg _ ?_;rw [zL,vE,eq_comm,decide_eq_false_iff_not];intro hh;rw [hh k hk] at h;cases h
 ·rintro _ w2 ⟨rfl,_,ha,rfl⟩;(try simp only [go_sem,simprocAttr]);refine congrArg _ ?_;rw [zL,vE,eq_comm,decide_eq_true_eq];exact fun i hi=>ha i hi hi
theorem Ee (s:ByteArray) (hs:Nm s) {w:World}:a8 Tryz.prog 44 [.string s] w fun r w'=>r = .bool (jU s)∧w=w':=by
 refine Zf.calls rfl ?_;unfold Ig;(try simp only [go_sem,simprocAttr]);refine fe s.size (fun k ρ w'=>w=w'∧k≤s.size∧(∀ i,∀ h:i < s.size,i < k→sG s[i]=true)∧ρ=[(0,.string s),(5,I s.size),(6,I k)]) ⟨rfl,by omega,fun i _ hi=>absurd hi (by omega),rfl⟩ (by omega) ?_ ?_ (by decide) ?_
 ·rintro k _ w2 ⟨rfl,hk,_,rfl⟩;exact ⟨rfl,rfl,hk⟩
 ·rintro k _ w2 ⟨rfl,_,ha,rfl⟩ hk;have b1:(0:Int)≤k:=by omega
  have dT:sG s[k]=true→∀ i,∀ h:i < s.size,i < k+1→sG s[i]=true:=fun h i hi hik=>by
   rcases Nat.lt_or_ge i k with h1 | h1
   ·exact ha i hi h1
   ·have:i=k:=by omega
    subst this;exact h
  have bad:sG s[k]=false→Value.bool false=Value.bool (jU s):=fun h=>by
   have:vE sG s=false:=by
    rw [vE,decide_eq_false_iff_not];intro hh;rw [hh k hk] at h;cases h
   rw [jU,this];rfl
  (try simp only [go_sem,simprocAttr,bq,br,b1,vF hk]);cases h1:decide ((s[k].toNat:Int) < 32) with
  | true=>(try simp only [go_sem,simprocAttr,bq,br,b1,vF hk]);exact bad (by simp [sG,h1])
  | false=>
   (try simp only [go_sem,simprocAttr,bq,br,b1,vF hk]);cases h2:decide ((s[k].toNat:Int) > 126) with
   | true=>(try simp only [go_sem,simprocAttr,bq,br,b1,vF hk]);exact bad (by simp [sG,h1,h2])
   | false=>(try simp only [go_sem,simprocAttr,bq,br,b1,vF hk]);exact ⟨hk,dT (by simp [sG,h1,h2])⟩
 ·rintro _ w2 ⟨rfl,_,ha,rfl⟩;have:vE sG s=true:=by rw [vE,decide_eq_true_eq];exact fun i hi=>ha i hi hi
  (try simp only [go_sem,simprocAttr]);cases h1:decide ((s.size:Int)≥1) with
  | true=>(try simp only [go_sem,simprocAttr,jU,this,h1])
  | false=>(try simp only [go_sem,simprocAttr,jU,this,h1,Bool.false_and])
theorem aa0 (s:ByteArray) {w:World}:a8 Tryz.prog 111 [.string s] w fun r w'=>r = .bool (ue s)∧w=w':=by
 refine aaH.calls rfl ?_;unfold Jj;(try simp only [go_sem,simprocAttr]);cases h1:s.toList == ByteArray.toList ⟨#[]⟩ with
 | true=>(try simp only [go_sem,simprocAttr,ue,aQ,h1,Bool.false_and])
 | false=>
  (try simp only [go_sem,simprocAttr]);cases h2:decide ((s.size:Int)≤4096) with
  | false=>(try simp only [go_sem,simprocAttr,ue,aQ,h1,h2,Bool.and_false,Bool.false_and])
  | true=>
   have hp:0 < s.size:=by
    rcases Nat.eq_zero_or_pos s.size with h | h
    ·exfalso;have:s=⟨#[]⟩:=by
      cases s with | mk d=>congr 1;exact Array.eq_empty_of_size_eq_zero h
     rw [this] at h1;simp at h1
    ·exact h
   have h3:s[0]? = some s[0]:=vF hp;have b0:(0:Int)≤0:=by omega
   (try simp only [go_sem,simprocAttr,bq,br,b0,h3]);refine aI (by rfl) ?_;refine (Pm s[0]).mono ?_;rintro _ _ ⟨rfl,rfl⟩;cases h4:zJ s[0] with
   | false=>(try simp only [go_sem,simprocAttr,ue,aQ,h1,h2,h4,hp,dif_pos,Bool.and_false,Bool.false_and])
   | true=>
    (try simp only [go_sem,simprocAttr]);refine aI (by rfl) ?_;refine (Po s (by have:=of_decide_eq_true h2;omega)).mono ?_;rintro _ _ ⟨rfl,rfl⟩;(try simp only [go_sem,simprocAttr,ue,aQ,h1,h2,h4,hp,dif_pos,Bool.true_and])
end
section
open Go Go.W
def lY:ByteArray:=⟨#[46]⟩
def gM (s:ByteArray):List ByteArray:=Lib.splitB lY 0 (Lib.countB s lY) s
theorem Pp (sep:ByteArray) (save:Nat):∀ (k:Nat) (s:ByteArray),∀ p∈Lib.splitB sep save k s,p.size≤s.size
 | 0,s,p,h=>by
  rw [Lib.splitB_zero,List.mem_singleton] at h;rw [h];exact Nat.le_refl _
 | k+1,s,p,h=>by
  unfold Lib.splitB at h
  split at h
  ·rw [List.mem_singleton] at h;rw [h];exact Nat.le_refl _
  ·rcases List.mem_cons.1 h with h | h
   ·rw [h,ByteArray.size_extract];omega
   ·have:=Pp sep save k _ p h;rw [ByteArray.size_extract] at this;omega
def pP (p:ByteArray):Bool:=!(aQ p ⟨#[]⟩)&&(if h:0 < p.size then zK p[0] else false)&&zL p
def uf (s:ByteArray):Bool:=!(decide ((s.size:Int) > 4096)||aQ s ⟨#[73,110,116]⟩)&&((gM s).all pP&&decide (((gM s).length:Int)≤2))
theorem aa1 (s:ByteArray) (hs:s.size≤4096) {w:World}:a8 Tryz.prog 118 [.string s,.string lY] w fun r w'=>r = .slice (some ⟨w.heap.size,0,none⟩) (gM s).length (gM s).length ∧
   w'.heap[w.heap.size]? = some (.cells ((gM s).map Value.string).toArray 9 (0,0))∧Mod (fun _=>False) w w':=by
 refine aaV.calls rfl ?_;unfold Js;(try simp only [go_sem,simprocAttr]);refine aI (by rfl) ?_;have hlen:=Lib.splitB_all lY (by decide) 0 _ s rfl;have c:=Any.strings_genSplit_core Tryz.Jt (by kernel_rfl) s lY 0 (-1) (Lib.countB s lY+1) w (by omega) (by decide) (by decide)
  (fun x c hx=>(Any.strings_Index_one { Tryz.Jt with} x 46 _).mono (fun e w' h=>⟨by rw [h.1,Lib.indexB,← Lib.index_one];rfl,h.2⟩))
  ((Any.strings_Count_one { Tryz.Jt with} s 46 w).mono (fun e w' h=>⟨by rw [h.1,Lib.countB];exact congrArg (fun n:Nat=>Ending.returned (.int .i64 (n:Int))) (Lib.count_one _ _).symm,h.2⟩)) (by decide) (by decide) (by
   have:=Lib.countB_le lY (by decide) s.size s (Nat.le_refl _)
   rw [if_pos (by decide)];omega)
 rw [Nat.add_sub_cancel] at c;refine Calls.mono c ?_;rintro e w' ⟨rfl,rfl⟩;refine ⟨_,rfl,?_⟩;(try simp only [go_sem,simprocAttr]);have e1:gM s=Lib.splitB lY 0 (Lib.countB s lY) s:=rfl;rw [e1];have e2:Lib.cellsOf (Lib.splitB lY 0 (Lib.countB s lY) s) (Lib.countB s lY+1)=((Lib.splitB lY 0 (Lib.countB s lY) s).map Value.string).toArray:=by
  rw [← hlen];exact Lib.cellsOf_full _
 rw [e2,hlen];exact ⟨rfl,heap_alloc_new w _,xy _ w _⟩
theorem aa2 (s:ByteArray) {w:World}:a8 Tryz.prog 112 [.string s] w fun r w'=>r = .bool (uf s)∧Mod (fun _=>False) w w':=by
 refine aaJ.calls rfl ?_;unfold Jk;(try simp only [go_sem,simprocAttr]);cases h1:decide ((s.size:Int) > 4096) with
 | true=>(try simp only [go_sem,simprocAttr,uf,h1,Bool.true_or,Bool.false_and]);exact .refl _ _
 | false=>
  (try simp only [go_sem,simprocAttr]);cases h2:s.toList == ByteArray.toList ⟨#[73,110,116]⟩ with
  | true=>(try simp only [go_sem,simprocAttr,uf,aQ,h1,h2,Bool.or_true,Bool.false_and]);exact .refl _ _
  | false=>
   (try simp only [go_sem,simprocAttr]);have hs:s.size≤4096:=by have:=of_decide_eq_false h1;omega
   have hd:uf s=((gM s).all pP&&decide (((gM s).length:Int)≤2)):=by
    rw [uf,aQ,h1,h2];rfl
   refine aI (by rfl) ?_;refine (aa1 s hs).mono ?_;rintro _ w1 ⟨rfl,hb,aj⟩;(try simp only [go_sem,simprocAttr]);refine fe (gM s).length (fun k ρ w'=>w1=w'∧k≤(gM s).length∧(∀ i,∀ h:i < (gM s).length,i < k→pP (gM s)[i]=true)∧ρ=[(3,.slice (some ⟨w.heap.size,0,none⟩) (gM s).length (gM s).length),(15,.slice (some ⟨w.heap.size,0,none⟩) (gM s).length (gM s).length),(16,I (gM s).length),(17,I k)])
    ⟨rfl,by omega,fun i _ hi=>absurd hi (by omega),rfl⟩ (by
     have:=Lib.splitB_all lY (by decide) 0 _ s rfl;have h2:=Lib.countB_le lY (by decide) s.size s (Nat.le_refl _)
     rw [gM];omega) ?_ ?_ (by decide) ?_
   ·rintro k _ w2 ⟨rfl,hk,_,rfl⟩;exact ⟨rfl,rfl,hk⟩
   ·rintro k _ w2 ⟨rfl,_,ha,rfl⟩ hk;have b1:(0:Int)≤k∧(k:Int) < (gM s).length:=by omega
    have hc:=cell_of hb k;rw [List.getElem?_toArray,List.getElem?_map,List.getElem?_eq_getElem hk,Option.map_some] at hc;have cZ:=Pp lY 0 _ s _ (List.getElem_mem hk);have dT:pP (gM s)[k]=true→∀ i,∀ h:i < (gM s).length,i < k+1→pP (gM s)[i]=true:=fun h i hi hik=>by
     rcases Nat.lt_or_ge i k with h1 | h1
     ·exact ha i hi h1
     ·have:i=k:=by omega
      subst this;exact h
    have bad:pP (gM s)[k]=false→Value.bool false=Value.bool (uf s)∧Mod (fun _=>False) w w1:=fun h=>by
     refine ⟨?_,aj⟩;rw [hd];have:(gM s).all pP=false:=by
      rw [List.all_eq_false];exact ⟨_,List.getElem_mem hk,by rw [h];simp⟩
     rw [this];rfl
    (try simp only [go_sem,simprocAttr,bq,br,b1,hc]);generalize hx:(gM s)[k]=x at dT bad cZ;cases h3:x.toList == ByteArray.toList ⟨#[]⟩ with
    | true=>(try simp only [go_sem,simprocAttr]);exact bad (by rw [pP,aQ,h3];rfl)
    | false=>
     have hp:0 < x.size:=by
      rcases Nat.eq_zero_or_pos x.size with h | h
      ·exfalso;have:x=⟨#[]⟩:=by
        cases x with | mk d=>congr 1;exact Array.eq_empty_of_size_eq_zero h
       rw [this] at h3;simp at h3
      ·exact h
     have h0:x[0]? = some x[0]:=vF hp;have b0:(0:Int)≤0:=by omega
     (try simp only [go_sem,simprocAttr,bq,br,b0,h0]);refine aI (by rfl) ?_;refine (Pn x[0]).mono ?_;rintro _ _ ⟨rfl,rfl⟩;cases h4:zK x[0] with
     | false=>(try simp only [go_sem,simprocAttr]);exact bad (by simp [pP,h4])
     | true=>
      (try simp only [go_sem,simprocAttr]);refine aI (by rfl) ?_;refine (Po x (by omega)).mono ?_;rintro _ _ ⟨rfl,rfl⟩;cases h5:zL x with
      | false=>(try simp only [go_sem,simprocAttr]);exact bad (by rw [pP,h5,Bool.and_false])
      | true=>(try simp only [go_sem,simprocAttr]);exact ⟨hk,dT (by rw [pP,aQ,h3,dif_pos hp,h4,h5];rfl)⟩
   ·rintro _ w2 ⟨rfl,_,ha,rfl⟩;have:(gM s).all pP=true:=by
     rw [List.all_eq_true];intro x hx;obtain ⟨i,hi,rfl⟩:=List.getElem_of_mem hx;exact ha i hi hi
    (try simp only [go_sem,simprocAttr,hd,this,Bool.true_and]);exact aj
end
section
open Go Go.W
def zM (f:FuncId) (cap:Array Value) (val:List Value→Value) {α:Type} (PP:World→List Value→α→Prop) (p:α→Bool) (l:List α) (w:World):Prop:=
 ∀ (w':World) (r:List Value) (a:α),a∈l→Mod (fun _=>False) w w'→PP w' r a→a8 Tryz.prog f (val r::cap.toList) w' fun x dP=>x = .bool (p a)∧Mod (fun _=>False) w' dP
def xP (r:List Value):Value:=.agg r.toArray
structure Fn (f:FuncId):Prop where
 ok:∃ fn:Func,Tryz.prog.funcs[f]? = some fn∧fn.body.isSome=true∧(fn.name == "runtime.NumGoroutine")=false
theorem aa3 {α:Type} {l:List α} {w:World} {v:Value} {B:Nat→Prop} {PP:World→List Value→α→Prop} (hl:aT w v 3 B (PP w) l) (gv:∀ w w' r a,PP w r a→Mod (fun _=>False) w w'→PP w' r a)
   {f:FuncId} {cap:Array Value} {p:α→Bool} (eK:Fn f) (hf:zM f cap xP PP p l w) :
   a8 Tryz.prog 120 [v,.func (.func f) #[] cap] w fun r w'=>(∃ n:Int,r=I n∧decide (n≥0)=l.any p)∧Mod (fun _=>False) w w':=by
 obtain ⟨fn,eK,gL,jr⟩:=eK.ok;obtain ⟨a,c,rfl⟩:=a7 hl;refine aaR.calls rfl ?_;unfold Jq;(try simp only [go_sem,simprocAttr]);refine fe l.length (fun k ρ w'=>Mod (fun _=>False) w w'∧k≤l.length∧(∀ i,∀ h:i < l.length,i < k→p l[i]=false)∧ρ=[(0,.slice a l.length c),(1,.func (.func f) #[] cap),(7,I l.length),(8,I k)]) ⟨.refl _ _,by omega,fun i _ hi=>absurd hi (by omega),rfl⟩ (dB hl) ?_ ?_ (by decide) ?_
 ·rintro k _ w2 ⟨ai,hk,_,rfl⟩;exact ⟨rfl,rfl,hk⟩
 ·rintro k _ w2 ⟨ai,_,ha,rfl⟩ hk;obtain ⟨ad,c,r,e,hr,bT,bU,_⟩:=eh (hl.mod ai aC (fun _ _ h=>gv _ _ _ _ h ai)) hk;cases e;have b1:(0:Int)≤k∧(k:Int) < l.length:=by omega
  (try simp only [go_sem,simprocAttr,bq,br,b1,bU]);refine xA rfl (by rfl) eK gL jr ?_;refine (hf w2 r l[k] (List.getElem_mem hk) ai hr).mono ?_;rintro _ w3 ⟨rfl,aq⟩;cases h:p l[k] with
  | true=>
   (try simp only [go_sem,simprocAttr]);refine ⟨⟨_,rfl,?_⟩,ai.trans aq⟩;rw [List.any_eq_true.2 ⟨_,List.getElem_mem hk,h⟩];exact decide_eq_true (by omega)
  | false=>
   (try simp only [go_sem,simprocAttr]);refine ⟨ai.trans aq,hk,fun i hi hik=>?_⟩;rcases Nat.lt_or_ge i k with h1 | h1
   ·exact ha i hi h1
   ·have:i=k:=by omega
    subst this;exact h
 ·rintro _ w2 ⟨ai,_,ha,rfl⟩;(try simp only [go_sem,simprocAttr]);refine ⟨⟨_,rfl,?_⟩,ai⟩;rw [List.any_eq_false.2 (fun x hx=>by obtain ⟨i,hi,rfl⟩:=List.getElem_of_mem hx;rw [ha i hi hi];simp)];rfl
theorem aa4 {α:Type} {l:List α} {w:World} {v:Value} {B:Nat→Prop} {PP:World→List Value→α→Prop} (hl:aT w v 3 B (PP w) l) (gv:∀ w w' r a,PP w r a→Mod (fun _=>False) w w'→PP w' r a)
   {f:FuncId} {cap:Array Value} {p:α→Bool} (eK:Fn f) (hf:zM f cap xP PP p l w) :
   a8 Tryz.prog 113 [v,.func (.func f) #[] cap] w fun r w'=>r = .bool (l.any p)∧Mod (fun _=>False) w w':=by
 refine aaK.calls rfl ?_;unfold Jl;(try simp only [go_sem,simprocAttr]);refine aI (by rfl) ?_;refine (aa3 hl gv eK hf).mono ?_;rintro _ w' ⟨⟨n,rfl,hn⟩,hm⟩;(try simp only [go_sem,simprocAttr]);exact ⟨congrArg _ hn,hm⟩
theorem aa5 {α:Type} {l:List α} {w:World} {v:Value} {B:Nat→Prop} {PP:World→List Value→α→Prop} (hl:aT w v 2 B (PP w) l) (gv:∀ w w' r a,PP w r a→Mod (fun _=>False) w w'→PP w' r a)
   {f:FuncId} {cap:Array Value} {p:α→Bool} (eK:Fn f) (hf:zM f cap xP PP p l w) :
   a8 Tryz.prog 94 [v,.func (.func f) #[] cap] w fun r w'=>(∃ n:Int,r=I n∧decide (n≥0)=l.any p)∧Mod (fun _=>False) w w':=by
 obtain ⟨fn,eK,gL,jr⟩:=eK.ok;obtain ⟨a,c,rfl⟩:=a7 hl;refine aal.calls rfl ?_;unfold I5;(try simp only [go_sem,simprocAttr]);refine fe l.length (fun k ρ w'=>Mod (fun _=>False) w w'∧k≤l.length∧(∀ i,∀ h:i < l.length,i < k→p l[i]=false)∧ρ=[(0,.slice a l.length c),(1,.func (.func f) #[] cap),(7,I l.length),(8,I k)]) ⟨.refl _ _,by omega,fun i _ hi=>absurd hi (by omega),rfl⟩ (dB hl) ?_ ?_ (by decide) ?_
 ·rintro k _ w2 ⟨ai,hk,_,rfl⟩;exact ⟨rfl,rfl,hk⟩
 ·rintro k _ w2 ⟨ai,_,ha,rfl⟩ hk;obtain ⟨ad,c,r,e,hr,bT,bU,_⟩:=eh (hl.mod ai aC (fun _ _ h=>gv _ _ _ _ h ai)) hk;cases e;have b1:(0:Int)≤k∧(k:Int) < l.length:=by omega
  (try simp only [go_sem,simprocAttr,bq,br,b1,bU]);refine xA rfl (by rfl) eK gL jr ?_;refine (hf w2 r l[k] (List.getElem_mem hk) ai hr).mono ?_;rintro _ w3 ⟨rfl,aq⟩;cases h:p l[k] with
  | true=>
   (try simp only [go_sem,simprocAttr]);refine ⟨⟨_,rfl,?_⟩,ai.trans aq⟩;rw [List.any_eq_true.2 ⟨_,List.getElem_mem hk,h⟩];exact decide_eq_true (by omega)
  | false=>
   (try simp only [go_sem,simprocAttr]);refine ⟨ai.trans aq,hk,fun i hi hik=>?_⟩;rcases Nat.lt_or_ge i k with h1 | h1
   ·exact ha i hi h1
   ·have:i=k:=by omega
    subst this;exact h
 ·rintro _ w2 ⟨ai,_,ha,rfl⟩;(try simp only [go_sem,simprocAttr]);refine ⟨⟨_,rfl,?_⟩,ai⟩;rw [List.any_eq_false.2 (fun x hx=>by obtain ⟨i,hi,rfl⟩:=List.getElem_of_mem hx;rw [ha i hi hi];simp)];rfl
theorem aa6 {α:Type} {l:List α} {w:World} {v:Value} {B:Nat→Prop} {PP:World→List Value→α→Prop} (hl:aT w v 2 B (PP w) l) (gv:∀ w w' r a,PP w r a→Mod (fun _=>False) w w'→PP w' r a)
   {f:FuncId} {cap:Array Value} {p:α→Bool} (eK:Fn f) (hf:zM f cap xP PP p l w) :
   a8 Tryz.prog 81 [v,.func (.func f) #[] cap] w fun r w'=>r = .bool (l.any p)∧Mod (fun _=>False) w w':=by
 refine Z4.calls rfl ?_;unfold IS;(try simp only [go_sem,simprocAttr]);refine aI (by rfl) ?_;refine (aa5 hl gv eK hf).mono ?_;rintro _ w' ⟨⟨n,rfl,hn⟩,hm⟩;(try simp only [go_sem,simprocAttr]);exact ⟨congrArg _ hn,hm⟩
theorem aa7 {α:Type} {l:List α} {w:World} {v:Value} {B:Nat→Prop} {PP:World→List Value→α→Prop} (hl:aT w v 11 B (PP w) l) (gv:∀ w w' r a,PP w r a→Mod (fun _=>False) w w'→PP w' r a)
   {f:FuncId} {cap:Array Value} {p:α→Bool} (eK:Fn f) (hf:zM f cap xP PP p l w) :
   a8 Tryz.prog 110 [v,.func (.func f) #[] cap] w fun r w'=>(∃ n:Int,r=I n∧decide (n≥0)=l.any p)∧Mod (fun _=>False) w w':=by
 obtain ⟨fn,eK,gL,jr⟩:=eK.ok;obtain ⟨a,c,rfl⟩:=a7 hl;refine aaG.calls rfl ?_;unfold Ji;(try simp only [go_sem,simprocAttr]);refine fe l.length (fun k ρ w'=>Mod (fun _=>False) w w'∧k≤l.length∧(∀ i,∀ h:i < l.length,i < k→p l[i]=false)∧ρ=[(0,.slice a l.length c),(1,.func (.func f) #[] cap),(7,I l.length),(8,I k)]) ⟨.refl _ _,by omega,fun i _ hi=>absurd hi (by omega),rfl⟩ (dB hl) ?_ ?_ (by decide) ?_
 ·rintro k _ w2 ⟨ai,hk,_,rfl⟩;exact ⟨rfl,rfl,hk⟩
 ·rintro k _ w2 ⟨ai,_,ha,rfl⟩ hk;obtain ⟨ad,c,r,e,hr,bT,bU,_⟩:=eh (hl.mod ai aC (fun _ _ h=>gv _ _ _ _ h ai)) hk;cases e;have b1:(0:Int)≤k∧(k:Int) < l.length:=by omega
  (try simp only [go_sem,simprocAttr,bq,br,b1,bU]);refine xA rfl (by rfl) eK gL jr ?_;refine (hf w2 r l[k] (List.getElem_mem hk) ai hr).mono ?_;rintro _ w3 ⟨rfl,aq⟩;cases h:p l[k] with
  | true=>
   (try simp only [go_sem,simprocAttr]);refine ⟨⟨_,rfl,?_⟩,ai.trans aq⟩;rw [List.any_eq_true.2 ⟨_,List.getElem_mem hk,h⟩];exact decide_eq_true (by omega)
  | false=>
   (try simp only [go_sem,simprocAttr]);refine ⟨ai.trans aq,hk,fun i hi hik=>?_⟩;rcases Nat.lt_or_ge i k with h1 | h1
   ·exact ha i hi h1
   ·have:i=k:=by omega
    subst this;exact h
 ·rintro _ w2 ⟨ai,_,ha,rfl⟩;(try simp only [go_sem,simprocAttr]);refine ⟨⟨_,rfl,?_⟩,ai⟩;rw [List.any_eq_false.2 (fun x hx=>by obtain ⟨i,hi,rfl⟩:=List.getElem_of_mem hx;rw [ha i hi hi];simp)];rfl
theorem aa8 {α:Type} {l:List α} {w:World} {v:Value} {B:Nat→Prop} {PP:World→List Value→α→Prop} (hl:aT w v 11 B (PP w) l) (gv:∀ w w' r a,PP w r a→Mod (fun _=>False) w w'→PP w' r a)
   {f:FuncId} {cap:Array Value} {p:α→Bool} (eK:Fn f) (hf:zM f cap xP PP p l w) :
   a8 Tryz.prog 100 [v,.func (.func f) #[] cap] w fun r w'=>r = .bool (l.any p)∧Mod (fun _=>False) w w':=by
 refine aat.calls rfl ?_;unfold Ja;(try simp only [go_sem,simprocAttr]);refine aI (by rfl) ?_;refine (aa7 hl gv eK hf).mono ?_;rintro _ w' ⟨⟨n,rfl,hn⟩,hm⟩;(try simp only [go_sem,simprocAttr]);exact ⟨congrArg _ hn,hm⟩
theorem sH {w:World} {v:Value} {B:Nat→Prop} {l:List ByteArray} (h:aT w v 1 B gw l) {i:Nat} (hi:i < l.length) :
   ∃ ad c,v = .slice (some ad) l.length c∧Nm l[i]∧w.cell? (ad.add i)=some (.string l[i]):=by
 obtain ⟨ad,c,r,e,⟨rfl,hn⟩,_,_,hc⟩:=eh h hi;have:=hc 0 (by simp);rw [Nat.mul_one,add_zero'] at this;exact ⟨ad,c,e,hn,this⟩
theorem aa9 {l:List ByteArray} {w:World} {v:Value} {B:Nat→Prop} (hl:aT w v 1 B gw l)
   {f:FuncId} {cap:Array Value} {p:ByteArray→Bool} (eK:Fn f) (hf:∀ s∈l,Nm s→∀ w',Mod (fun _=>False) w w'→a8 Tryz.prog f (.string s::cap.toList) w' fun x dP=>x = .bool (p s)∧Mod (fun _=>False) w' dP) :
   a8 Tryz.prog 93 [v,.func (.func f) #[] cap] w fun r w'=>(∃ n:Int,r=I n∧decide (n≥0)=l.any p)∧Mod (fun _=>False) w w':=by
 obtain ⟨fn,eK,gL,jr⟩:=eK.ok;obtain ⟨a,c,rfl⟩:=a7 hl;refine aaj.calls rfl ?_;unfold I4;(try simp only [go_sem,simprocAttr]);refine fe l.length (fun k ρ w'=>Mod (fun _=>False) w w'∧k≤l.length∧(∀ i,∀ h:i < l.length,i < k→p l[i]=false)∧ρ=[(0,.slice a l.length c),(1,.func (.func f) #[] cap),(7,I l.length),(8,I k)]) ⟨.refl _ _,by omega,fun i _ hi=>absurd hi (by omega),rfl⟩ (dB hl) ?_ ?_ (by decide) ?_
 ·rintro k _ w2 ⟨ai,hk,_,rfl⟩;exact ⟨rfl,rfl,hk⟩
 ·rintro k _ w2 ⟨ai,_,ha,rfl⟩ hk;obtain ⟨ad,c,e,hn,hc⟩:=sH (hl.mod ai aC (fun _ _ h=>h)) hk;cases e;have b1:(0:Int)≤k∧(k:Int) < l.length:=by omega
  (try simp only [go_sem,simprocAttr,bq,br,b1,hc]);refine xA rfl (by rfl) eK gL jr ?_;refine (hf l[k] (List.getElem_mem hk) hn w2 ai).mono ?_;rintro _ w3 ⟨rfl,aq⟩;cases h:p l[k] with
  | true=>
   (try simp only [go_sem,simprocAttr]);refine ⟨⟨_,rfl,?_⟩,ai.trans aq⟩;rw [List.any_eq_true.2 ⟨_,List.getElem_mem hk,h⟩];exact decide_eq_true (by omega)
  | false=>
   (try simp only [go_sem,simprocAttr]);refine ⟨ai.trans aq,hk,fun i hi hik=>?_⟩;rcases Nat.lt_or_ge i k with h1 | h1
   ·exact ha i hi h1
   ·have:i=k:=by omega
    subst this;exact h
 ·rintro _ w2 ⟨ai,_,ha,rfl⟩;(try simp only [go_sem,simprocAttr]);refine ⟨⟨_,rfl,?_⟩,ai⟩;rw [List.any_eq_false.2 (fun x hx=>by obtain ⟨i,hi,rfl⟩:=List.getElem_of_mem hx;rw [ha i hi hi];simp)];rfl
theorem aa' {l:List ByteArray} {w:World} {v:Value} {B:Nat→Prop} (hl:aT w v 1 B gw l)
   {f:FuncId} {cap:Array Value} {p:ByteArray→Bool} (eK:Fn f) (hf:∀ s∈l,Nm s→∀ w',Mod (fun _=>False) w w'→a8 Tryz.prog f (.string s::cap.toList) w' fun x dP=>x = .bool (p s)∧Mod (fun _=>False) w' dP) :
   a8 Tryz.prog 79 [v,.func (.func f) #[] cap] w fun r w'=>r = .bool (l.any p)∧Mod (fun _=>False) w w':=by
 refine Z2.calls rfl ?_;unfold IP;(try simp only [go_sem,simprocAttr]);refine aI (by rfl) ?_;refine (aa9 hl eK hf).mono ?_;rintro _ w' ⟨⟨n,rfl,hn⟩,hm⟩;(try simp only [go_sem,simprocAttr]);exact ⟨congrArg _ hn,hm⟩
def jV (l:List ByteArray) (s:ByteArray):Option Nat:=l.findIdx? (fun x=>aQ s x)
theorem aba {l:List ByteArray} {w:World} {v:Value} {B:Nat→Prop} (hl:aT w v 1 B gw l) (s:ByteArray) :
   a8 Tryz.prog 109 [v,.string s] w fun r w'=>r=I (match jV l s with | some i=>(i:Int) | none => -1)∧w=w':=by
 obtain ⟨a,c,rfl⟩:=a7 hl;refine aaE.calls rfl ?_;unfold Jh;(try simp only [go_sem,simprocAttr]);refine fe l.length (fun k ρ w'=>w=w'∧k≤l.length∧(∀ i,∀ h:i < l.length,i < k→aQ s l[i]=false)∧ρ=[(0,.slice a l.length c),(1,.string s),(7,I l.length),(8,I k)]) ⟨rfl,by omega,fun i _ hi=>absurd hi (by omega),rfl⟩ (dB hl) ?_ ?_ (by decide) ?_
 ·rintro k _ w2 ⟨rfl,hk,_,rfl⟩;exact ⟨rfl,rfl,hk⟩
 ·rintro k _ w2 ⟨rfl,_,ha,rfl⟩ hk;obtain ⟨ad,c,e,hn,hc⟩:=sH hl hk;cases e;have b1:(0:Int)≤k∧(k:Int) < l.length:=by omega
  (try simp only [go_sem,simprocAttr,bq,br,b1,hc]);cases h:s.toList == l[k].toList with
  | true=>
   (try simp only [go_sem,simprocAttr]);refine congrArg I ?_;have:jV l s=some k:=by
    rw [jV,List.findIdx?_eq_some_iff_getElem];exact ⟨hk,h,fun j hj=>by rw [ha j (by omega) hj];simp⟩
   rw [this]
  | false=>
   (try simp only [go_sem,simprocAttr]);refine ⟨hk,fun i hi hik=>?_⟩;rcases Nat.lt_or_ge i k with h1 | h1
   ·exact ha i hi h1
   ·have:i=k:=by omega
    subst this;exact h
 ·rintro _ w2 ⟨rfl,_,ha,rfl⟩;(try simp only [go_sem,simprocAttr]);refine congrArg I ?_;have:jV l s=none:=by
   rw [jV,List.findIdx?_eq_none_iff];intro x hx;obtain ⟨i,hi,rfl⟩:=List.getElem_of_mem hx;exact ha i hi hi
  rw [this]
end
section
open Go Go.W
abbrev bI:ByteArray:=⟨#[]⟩
def nE (k:Int) (n:ByteArray) (len:Nat):Bool:=
 if k == 1 then aQ n bI&&((len:Int) == 0) else if k == 2 then ue n&&((len:Int) == 0)
 else if k == 3 then aQ n bI&&((len:Int) == 2) else if k == 4 then uf n && !(decide ((len:Int) > 6)) else false
mutual
def Ty.may:Ty→Bool
 | .mk k n l=>nE k n l.length&&zN l
def zN:List Ty→Bool
 | []=>true
 | t::l=>t.may&&zN l
end
theorem Ty.Pq (t:Ty):t.may=(nE t.kind t.name t.args.length&&zN t.args):=by cases t;rw [Ty.may];rfl
theorem Ps (l:List Ty):(l.any fun t=>!t.may) = !zN l:=by
 induction l with
 | nil=>rfl
 | cons t l ih=>rw [List.any_cons,ih,zN,Bool.not_and]
theorem abb:Fn 114:=⟨_,rfl,rfl,rfl⟩
theorem abc (t:Ty):∀ {w:World} {B:Nat→Prop} {cs:List Value},aW w B cs t→a8 Tryz.prog 102 [.agg cs.toArray] w fun r w'=>r = .bool t.may∧Mod (fun _=>False) w w':=by
 induction t using Ty.ind with
 | h t ih=>
 intro w B cs h;obtain ⟨v,rfl,hl⟩:=h.cells;refine aav.calls rfl ?_;unfold Jc;(try simp only [go_sem,simprocAttr]);refine bD rfl ?_;intro w1 ar aj _;(try simp only [go_sem,simprocAttr,cell_of ar,Value.cells]);rw [t.Pq];have no:∀ w2,Mod (fun _=>False) w1 w2→nE t.kind t.name t.args.length=false→Value.bool false=Value.bool (nE t.kind t.name t.args.length&&zN t.args)∧Mod (fun _=>False) w w2:=fun w2 hm h=>by rw [h];exact ⟨rfl,aj.trans hm⟩
 refine vD (fun ρ w2=>Mod (fun _=>False) w1 w2∧∃ n:Int,nE t.kind t.name t.args.length=((t.args.length:Int) == n)∧ρ.get 1=some (ptr w.heap.size)∧ρ.get 3=some (I n)) ?_ ?_
 ·(try simp only [go_sem,simprocAttr]);cases e1:t.kind == 1 with
  | true=>
   (try simp only [go_sem,simprocAttr,cell_of ar,Value.cells]);have hd:nE t.kind t.name t.args.length=(aQ t.name bI&&((t.args.length:Int) == 0)):=by rw [nE,if_pos e1]
   cases e2:t.name.toList == ByteArray.toList ⟨#[]⟩ with
   | false=>(try simp only [go_sem,simprocAttr]);exact no _ (.refl _ _) (by rw [hd,aQ,e2];rfl)
   | true=>(try simp only [go_sem,simprocAttr]);exact ⟨.refl _ _,0,by rw [hd,aQ,e2];rfl,rfl⟩
  | false=>
   (try simp only [go_sem,simprocAttr,cell_of ar,Value.cells]);cases e2:t.kind == 2 with
   | true=>
    (try simp only [go_sem,simprocAttr,cell_of ar,Value.cells]);have hd:nE t.kind t.name t.args.length=(ue t.name&&((t.args.length:Int) == 0)):=by rw [nE,if_neg (by rw [e1];simp),if_pos e2]
    refine aI (by rfl) ?_;refine (aa0 t.name).mono ?_;rintro _ _ ⟨rfl,rfl⟩;cases e3:ue t.name with
    | false=>(try simp only [go_sem,simprocAttr]);exact no _ (.refl _ _) (by rw [hd,e3];rfl)
    | true=>(try simp only [go_sem,simprocAttr]);exact ⟨.refl _ _,0,by rw [hd,e3];rfl,rfl⟩
   | false=>
    (try simp only [go_sem,simprocAttr,cell_of ar,Value.cells]);cases e3:t.kind == 3 with
    | true=>
     (try simp only [go_sem,simprocAttr,cell_of ar,Value.cells]);have hd:nE t.kind t.name t.args.length=(aQ t.name bI&&((t.args.length:Int) == 2)):=by rw [nE,if_neg (by rw [e1];simp),if_neg (by rw [e2];simp),if_pos e3]
     cases e4:t.name.toList == ByteArray.toList ⟨#[]⟩ with
     | false=>(try simp only [go_sem,simprocAttr]);exact no _ (.refl _ _) (by rw [hd,aQ,e4];rfl)
     | true=>(try simp only [go_sem,simprocAttr]);exact ⟨.refl _ _,2,by rw [hd,aQ,e4];rfl,rfl⟩
    | false=>
     (try simp only [go_sem,simprocAttr,cell_of ar,Value.cells]);cases e4:t.kind == 4 with
     | true=>
      (try simp only [go_sem,simprocAttr,cell_of ar,Value.cells]);have hd:nE t.kind t.name t.args.length=(uf t.name && !(decide ((t.args.length:Int) > 6))):=by rw [nE,if_neg (by rw [e1];simp),if_neg (by rw [e2];simp),if_neg (by rw [e3];simp),if_pos e4]
      obtain ⟨a,c,rfl⟩:=a7 hl;refine aI (by rfl) ?_;refine (aa2 t.name).mono ?_;rintro _ w2 ⟨rfl,ai⟩;cases e5:uf t.name with
      | false=>(try simp only [go_sem,simprocAttr]);exact no _ ai (by rw [hd,e5];rfl)
      | true=>
       (try simp only [go_sem,simprocAttr,cell_of (ai.at ar _root_.id),Value.cells]);cases e6:decide ((t.args.length:Int) > 6) with
       | true=>(try simp only [go_sem,simprocAttr]);exact no _ ai (by rw [hd,e5,e6];rfl)
       | false=>(try simp only [go_sem,simprocAttr,cell_of (ai.at ar _root_.id),Value.cells]);exact ⟨ai,t.args.length,by rw [hd,e5,e6];simp,rfl⟩
     | false=>(try simp only [go_sem,simprocAttr]);exact no _ (.refl _ _) (by rw [nE,if_neg (by rw [e1];simp),if_neg (by rw [e2];simp),if_neg (by rw [e3];simp),if_neg (by rw [e4];simp)])
 ·rintro ρ w2 ⟨ai,n,hh,g1,g3⟩;have hm:=aj.trans ai;have hb:=ai.at ar _root_.id;obtain ⟨a,c,rfl⟩:=a7 hl;rw [hh];(try simp only [go_sem,simprocAttr,g1,g3,cell_of hb,Value.cells]);cases h1:((t.args.length:Int) == n) with
  | false=>(try simp only [go_sem,simprocAttr]);exact ⟨rfl,hm⟩
  | true=>
   (try simp only [go_sem,simprocAttr,g1,cell_of hb,Value.cells]);refine aI (by rfl) ?_;refine (aa4 (PP:=fun w=>aW w B) (p:=fun t=>!t.may) (hl.mod hm aC (fun _ _ h=>h.mod hm aC)) (fun _ _ _ _ h hm=>h.mod hm aC) abb ?_).mono ?_
   ·intro w3 r u hu aq hr;refine aaL.calls rfl ?_;unfold Jm;(try simp only [go_sem,simprocAttr,xP]);refine bD rfl ?_;intro w4 ba aA _;(try simp only [go_sem,simprocAttr,az (cs:=r) (n:=3) ba hr.len]);refine aI (by rfl) ?_;refine (ih u hu (hr.mod aA aC)).mono ?_;rintro _ w5 ⟨rfl,aD⟩;(try simp only [go_sem,simprocAttr]);exact aA.trans aD
   ·rintro _ w3 ⟨rfl,aq⟩;(try simp only [go_sem,simprocAttr,Ps]);exact ⟨by simp,hm.trans aq⟩
def nF (t:Ty):Int:=if t.may=false then 53 else if t.nodes > 500 then 4 else 0
theorem abd (t:Ty) {w:World} {B:Nat→Prop} {cs:List Value} (h:aW w B cs t):a8 Tryz.prog 95 [.agg cs.toArray] w fun r w'=>r=I (nF t)∧Mod (fun _=>False) w w':=by
 refine aam.calls rfl ?_;unfold I6;(try simp only [go_sem,simprocAttr]);refine bD rfl ?_;intro w1 ar aj _;(try simp only [go_sem,simprocAttr,az (cs:=cs) (n:=3) ar h.len]);refine aI (by rfl) ?_;refine (abc t (h.mod aj aC)).mono ?_;rintro _ w2 ⟨rfl,ai⟩;cases h1:t.may with
 | false=>(try simp only [go_sem,simprocAttr,nF,h1]);exact aj.trans ai
 | true=>
  (try simp only [go_sem,simprocAttr,az (cs:=cs) (n:=3) (ai.at ar _root_.id) h.len]);refine aI (by rfl) ?_;refine (aaT t (h.mod (aj.trans ai) aC)).mono ?_;rintro _ w3 ⟨rfl,aq⟩;have hm:=aj.trans (ai.trans aq);(try simp only [go_sem,simprocAttr]);cases h2:decide (t.nodes > 500) with
  | true=>
   (try simp only [go_sem,simprocAttr]);refine ⟨?_,hm⟩;rw [nF,h1,if_neg (by simp),if_pos (of_decide_eq_true h2)]
  | false=>
   (try simp only [go_sem,simprocAttr]);refine ⟨?_,hm⟩;rw [nF,h1,if_neg (by simp),if_neg (of_decide_eq_false h2)]
end
section
open Go Go.W
theorem Pt {xs tl vs:List Value} {o:Nat} (h:o+vs.length≤xs.length):sp (xs++tl).toArray o vs=((xs.take o++vs++xs.drop (o+vs.length))++tl).toArray:=by
 unfold sp
 congr 1
 rw [List.take_append_of_le_length (by omega),List.drop_append_of_le_length (by omega)];simp
theorem Pu {sz:Nat} {rows:List (List Value)} (hr:∀ r∈rows,r.length=sz) {k:Nat} (hk:k < rows.length):((rows.flatMap id).drop (k*sz)).take sz=rows[k]:=by
 apply List.ext_getElem?;intro i;have hl:=hr _ (List.getElem_mem hk);rcases Nat.lt_or_ge i sz with h | h
 ·rw [List.getElem?_take_of_lt h,List.getElem?_drop,Hs rows hr k hk i h]
 ·rw [List.getElem?_eq_none (by rw [List.length_take];omega),List.getElem?_eq_none (by omega)]
theorem Pv {w:World} {v:Value} {sz:Nat} {rows:List (List Value)} {B:Nat→Prop} (h:qS w v sz rows B):∀ r∈rows,r.length=sz:=by
 intro r hr;obtain ⟨i,hi,rfl⟩:=List.getElem_of_mem hr;obtain ⟨_,_,_,h1,_⟩:=D7 h hi;exact h1
theorem Pw {w:World} {a:Addr} {r:List Value} (h:∀ k (hk:k < r.length),w.cell? (a.add k)=some r[k]) {o n:Nat} (hn:o+n≤r.length):gp w n (.pointer (some (a.add o)))=some (.agg ((r.drop o).take n).toArray):=by
 refine pa (by rw [List.length_take,List.length_drop];omega) (fun k hk=>?_);rw [List.length_take,List.length_drop] at hk;rw [OB,h (o+k) (by omega),List.getElem_take,List.getElem_drop]
def Ju (r:Value):Prop:=∃ cs:List Value,r = .agg cs.toArray∧cs.length=3∧∀ u∈cs,u.oneCell'=true
def vG (w:World) (T:Nat) (v:Value) (full:List Value) (n k:Nat) (fp:Option Nat):Prop:=∃ xs,dx w T 3 v xs n fp∧xs.drop (k*3)=full.drop (k*3)∧∀ u∈xs,u.oneCell'=true
theorem vG.mod {w w':World} {S:Nat→Prop} {T n k:Nat} {v:Value} {full:List Value} {fp:Option Nat} (h:vG w T v full n k fp) (hm:Mod S w w') (hs:∀ b,fp=some b→¬ S b):vG w' T v full n k fp:=by
 obtain ⟨xs,ho,h⟩:=h;exact ⟨xs,ho.mod hm hs,h⟩
theorem Px {w:World} {T n k:Nat} {v:Value} {rows:List (List Value)} {fp:Option Nat} (h:vG w T v (rows.flatMap id) n k fp) (hr:∀ r∈rows,r.length=3) (hk:k < rows.length) (hn:n=rows.length) :
   ∃ b c,v = .slice (some ⟨b,0,none⟩) n c∧fp=some b∧gp w 3 (.pointer (some ⟨b,k*3,none⟩))=some (.agg rows[k].toArray):=by
 obtain ⟨xs,ho,he,_⟩:=h;obtain ⟨b,c,tl,rfl,hf,hb,_,_⟩:=ho.pos (by omega);refine ⟨b,c,rfl,hf,?_⟩;have hl:=ho.1;have:=iN (off:=k*3) (n:=3) hb (by rw [List.length_append];omega);rw [List.drop_append_of_le_length (by omega),List.take_append_of_le_length (by rw [List.length_drop];omega),he,Pu hr hk] at this;exact this
section
variable {P:Program} {w:World} {ρ:Env} {K:Value→World→Prop}
theorem Py {x y:O} {T n k:Nat} {v:Value} {full vs:List Value} {fp:Option Nat} {b:Nat} (h:vG w T v full n k fp) (hf:fp=some b) (hk:k < n) (hx:x.ev ρ=some (.pointer (some ⟨b,k*3,none⟩))) (hy:y.ev ρ=some (.agg vs.toArray)) (hl:vs.length=3) (h1:∀ u∈vs,u.oneCell'=true)
   (hq:∀ w',vG w' T v full n (k+1) fp→Mod (· = b) w w'→w'.heap.size=w.heap.size→K undef w'):E.wp P w ρ K (.st 3 x y):=by
 obtain ⟨xs,ho,he,hu⟩:=h;obtain ⟨b',c,tl,rfl,gu,hb,hnc,fy⟩:=ho.pos (by omega);rw [hf] at gu;cases gu;have hlen:=ho.1;refine Oi hx hy hb hl (by rw [List.length_append];omega) h1 ?_;intro w' oq hm hs;rw [Pt (by omega)] at oq;refine hq w' ⟨_,⟨?_,.inr ⟨b,c,tl,rfl,hf,oq,?_,hnc⟩⟩,?_,?_⟩ hm hs
 ·simp only [List.length_append,List.length_take,List.length_drop];omega
 ·simp only [List.length_append,List.length_take,List.length_drop] at fy ⊢;omega
 ·rw [List.append_assoc,List.drop_append,List.drop_append,List.drop_eq_nil_of_le (by rw [List.length_take];omega),List.drop_eq_nil_of_le (by rw [List.length_take];omega),List.nil_append,List.nil_append,List.length_take,List.drop_drop];have e:=congrArg (List.drop 3) he;rw [List.drop_drop,List.drop_drop] at e;rw [show (k+1)*3=k*3+3 by omega,← e]
  congr 1;omega
 ·intro u zO;rcases List.mem_append.1 zO with h | h
  ·rcases List.mem_append.1 h with h | h
   ·exact hu u (List.mem_of_mem_take h)
   ·exact h1 u h
  ·exact hu u (List.mem_of_mem_drop h)
end
end
section
open Go Go.W
abbrev dV:Nat:=42
theorem Ef:iC Tryz.prog dV=some 3:=rfl
theorem Eg {w:World} {B:Nat→Prop} {rows:List (List Value)} {l:List Ty} (hl:rows.length=l.length) (he:∀ (i:Nat) (r:List Value) (t:Ty),rows[i]? = some r→l[i]? = some t→aW w B r t):∀ u∈rows.flatMap id,u.oneCell'=true:=by
 intro u hu;obtain ⟨r,hr,h⟩:=List.mem_flatMap.1 hu;obtain ⟨i,hi,rfl⟩:=List.getElem_of_mem hr;exact (he i _ _ (List.getElem?_eq_getElem hi) (List.getElem?_eq_getElem (by omega))).one u h
theorem Pz {rows:List (List Value)} {w:World} {B:Nat→Prop} {v:Value} (h:ov w v 3 rows B) (h1:∀ u∈rows.flatMap id,u.oneCell'=true) :
   a8 Tryz.prog 108 [v] w fun r w'=>∃ fp,dx w' dV 3 r (rows.flatMap id) rows.length fp∧(∀ b,fp=some b→w.heap.size≤b)∧Mod (fun _=>False) w w':=by
 obtain ⟨a,c,rfl⟩:=XS h.1;obtain ⟨_,hr,hn⟩:=D8 h.1 (by decide);refine aaC.calls rfl ?_;unfold Jg;(try simp only [go_sem,simprocAttr]);have hlen:=h.2;cases a with
 | none=>
  (try simp only [go_sem,simprocAttr,Option.isNone_none]);have h0:=hn rfl;rw [List.eq_nil_of_length_eq_zero h0];exact ⟨none,.nil w dV 3,(fun b h=>by cases h),.refl _ _⟩
 | some ad=>
  (try simp only [go_sem,simprocAttr,Option.isNone_some]);refine Ov (el:=dV) (n:=3) rfl Ef ?_;intro w1 ar aj bC;have xr:dx w1 dV 3 (.slice (some ⟨w.heap.size,0,none⟩) 0 0) [] 0 (some w.heap.size):=dx.of_block (xs:=[]) ar (by simp);obtain ⟨_,js,_⟩:=D8 (h.mod aj aC).1 (by decide:0 < 3);(try simp only [go_sem,simprocAttr]);refine qR (m:=rows.length) (news:=rows.flatMap id) rfl xr rfl (fun h=>by cases h) js h1 rfl (by omega) (by omega) ?_;intro v2 w2 fp2 sx ai zC;(try simp only [go_sem,simprocAttr]);refine ⟨fp2,by simpa using sx,fun b hb=>?_,aj.step ai (fun x hx aP=>by cases hx;omega)⟩;rcases zC b hb with h | h
  ·cases h;omega
  ·omega
theorem abe (t:Ty):∀ {w:World} {B:Nat→Prop} {cs:List Value},aW w B cs t→a8 Tryz.prog 107 [.agg cs.toArray] w fun r w'=>Ju r∧Mod (fun _=>False) w w':=by
 induction t using Ty.ind with
 | h t ih=>
 intro w B cs h;obtain ⟨v,rfl,rows,jW,hl,he⟩:=h.cells;refine aaB.calls rfl ?_;unfold Jf;(try simp only [go_sem,simprocAttr]);refine bD rfl ?_;intro w1 ar aj bC;(try simp only [go_sem,simprocAttr]);refine cM ?_;intro w2 au ai bK;have ar:=ai.at ar _root_.id;(try simp only [go_sem,simprocAttr,cell_of ar,Value.cells]);refine aI (by rfl) ?_;refine (Pz (jW.mod (aj.trans ai) aC) (Eg hl he)).mono ?_;rintro v3 w3 ⟨fp,ho,hf,aq⟩;have ar:=aq.at ar _root_.id;have au:=aq.at au _root_.id;obtain ⟨a3,c3,rfl,_,_⟩:=ho.val;(try simp only [go_sem,simprocAttr]);refine iY rfl rfl ar rfl (by simp) ?_;intro w4 ba aA eG;have lZ:=aA.at au (by omega);have pc:=ho.mod aA (fun b hb=>by have:=hf b hb;omega);have eM:Mod (fun _=>False) w w4:=(aj.trans (ai.trans aq)).step aA (fun x hx hl=>by omega);(try simp only [go_sem,simprocAttr,cell_of ba,Value.cells]);have hn:rows.length < 9223372036854775807:=by have:=jW.2;omega
 refine fe rows.length (fun k ρ w'=>Mod (fun _=>False) w w'∧k≤rows.length∧vG w' dV (.slice a3 rows.length c3) (rows.flatMap id) rows.length k fp∧w'.heap[w.heap.size]? = w4.heap[w.heap.size]?∧w'.heap[w1.heap.size]? = w4.heap[w1.heap.size]?∧ρ=[(1,ptr w.heap.size),(2,ptr w1.heap.size),(10,I rows.length),(11,I k)]) ⟨eM,by omega,⟨_,pc,rfl,Eg hl he⟩,rfl,rfl,rfl⟩ hn ?_ ?_ (by decide) ?_
 ·rintro k _ w2 ⟨_,hk,_,_,_,rfl⟩;exact ⟨rfl,rfl,hk⟩
 ·rintro k _ w5 ⟨aD,_,hh,bX,iP,rfl⟩ hk;obtain ⟨b,c,e,rfl,dJ⟩:=Px hh (Pv jW.1) hk rfl;cases e;have b1:(0:Int)≤k∧(k:Int) < rows.length:=by omega
  have bG:=bX.trans ba;(try simp only [go_sem,simprocAttr,bq,br,cell_of bG,Value.cells,b1,b9,dJ]);refine aI (by rfl) ?_;refine (ih _ (List.getElem_mem (by omega:k < t.args.length)) ((he k _ _ (List.getElem?_eq_getElem hk) (List.getElem?_eq_getElem (by omega))).mod aD.drew aC)).mono ?_;rintro _ w6 ⟨⟨cs,rfl,cA,ig⟩,aJ⟩;(try simp only [go_sem,simprocAttr]);have BO:=(hh.mod aJ.eF (fun _ _ h=>h));refine ⟨aJ.bN _ (cO bG) _root_.id,?_⟩;refine Py BO rfl hk rfl rfl cA ig ?_;intro w7 Jv aN jX;have Eh:=hf b rfl;have cZ:=aJ.size;refine ⟨(aD.trans aJ.eF).step aN (fun x hx hl=>by have:=aj.size;have:=ai.size;omega),hk,Jv,?_,?_⟩
  ·rw [aN.bN _ (by have:=cO bG;have:w5.drew.heap.size=w5.heap.size:=rfl;omega) (by have:=ai.size;omega),aJ.bN _ (cO bG) _root_.id];exact bX
  ·have:=cO (iP.trans lZ);rw [aN.bN _ (by have:w5.drew.heap.size=w5.heap.size:=rfl;omega) (by omega),aJ.bN _ this _root_.id];exact iP
 ·rintro _ w5 ⟨aD,_,hh,bX,iP,rfl⟩;have bG:w5.heap[w.heap.size]? = some (.cells [I t.kind,.string t.name,.slice a3 rows.length c3].toArray dV (0,0)):=bX.trans ba;(try simp only [go_sem,simprocAttr,az (n:=3) bG rfl]);refine bL (cs:=[I 0,.string bI,.slice none 0 0]) rfl rfl (iP.trans lZ) rfl rfl (aS rfl (aS rfl (aS rfl dE))) ?_;intro w6 ci aJ gN;(try simp only [go_sem,simprocAttr,az (n:=3) ci rfl]);exact ⟨⟨_,rfl,rfl,aS rfl (aS rfl (aS rfl dE))⟩,aD.step aJ (fun x hx hl=>by have:=aj.size;omega)⟩
end
section
open Go Go.W
def xQ (v:Value):Prop:=∃ n:ByteArray,v = .agg #[I 2,.string n,.slice none 0 0]
theorem xQ.ty {v:Value} (h:xQ v) (w:World) (B:Nat→Prop):∃ cs t,v = .agg (cs:List Value).toArray∧aW w B cs t:=by
 obtain ⟨n,rfl⟩:=h;obtain ⟨rows,h1,h2,h3⟩:=ej w 3 B (aW w B);exact ⟨_,_,rfl,.mk (args:=[]) h1 h2 h3⟩
theorem PC {l:List (ByteArray×Value)} {k:ByteArray} {v:Value} (h:lS l k=some v):∃ p∈l,p.2=v:=by
 unfold lS at h;obtain ⟨p,hp,rfl⟩:=Option.map_eq_some_iff.1 h;exact ⟨p,List.mem_of_find?_eq_some hp,rfl⟩
theorem abf (t:Ty):∀ {w:World} {B:Nat→Prop} {cs:List Value} {m:Nat} {l:List (ByteArray×Value)},aW w B cs t→lR w m l→(∀ p∈l,xQ p.2) →
   a8 Tryz.prog 98 [.agg cs.toArray,.map (some m)] w fun r w'=>Ju r∧Mod (fun _=>False) w w':=by
 induction t using Ty.ind with
 | h t ih=>
 intro w B cs m l h oe PD;obtain ⟨v,rfl,rows,jW,hl,he⟩:=h.cells;refine aaq.calls rfl ?_;unfold I9;(try simp only [go_sem,simprocAttr]);refine bD rfl ?_;intro w1 ar aj bC;(try simp only [go_sem,simprocAttr]);refine cM ?_;intro w2 au ai bK;have ar:=ai.at ar _root_.id;have aY:=aj.trans ai;(try simp only [go_sem,simprocAttr,cell_of ar,Value.cells]);refine BB (fun ρ w'=>Mod (fun _=>False) w2 w'∧ρ.get 1=some (.map (some m))∧ρ.get 2=some (ptr w.heap.size)∧ρ.get 4=some (ptr w1.heap.size)) ?_ ?_
 ·cases hk:t.kind == 2 with
  | false=>(try simp only [go_sem,simprocAttr]);exact .refl _ _
  | true=>
   (try simp only [go_sem,simprocAttr,cell_of ar,Value.cells]);refine Hp (k:=t.name) (kt:=9) (et:=dV) rfl rfl rfl rfl (Tryz.zeroValue42 _) (tT oe aY _root_.id) ?_;cases hg:lS l t.name with
   | none=>
    (try simp only [go_sem,simprocAttr,Option.getD_none,Option.isSome_none]);refine dp (n:=3) (vs:=[I 0,.string bI,.slice none 0 0]) rfl rfl (aS rfl (aS rfl (aS rfl dE))) ?_;intro w3 aM aq eV;(try simp only [go_sem,simprocAttr]);exact aq
   | some u=>
    obtain ⟨p,hp,rfl⟩:=PC hg;obtain ⟨cu,tu,e,tN⟩:=(PD p hp).ty w2 B;(try simp only [go_sem,simprocAttr,Option.getD_some,Option.isSome_some]);rw [e];refine dp (n:=3) (vs:=cu) rfl tN.len tN.one ?_;intro w3 aM aq eV;(try simp only [go_sem,simprocAttr,az (n:=3) aM tN.len]);refine aI (by rfl) ?_;refine (abe tu (tN.mod aq aC)).mono ?_;rintro _ w4 ⟨⟨cs,rfl,cA,ig⟩,aA⟩;(try simp only [go_sem,simprocAttr]);have ba:=(aq.trans aA).at au _root_.id;refine bL (cs:=[I 0,.string bI,.slice none 0 0]) rfl rfl ba cA rfl ig ?_;intro w5 bG aD eN;(try simp only [go_sem,simprocAttr,az (n:=3) bG cA]);exact ⟨⟨_,rfl,cA,ig⟩,(aY.trans (aq.trans aA)).step aD (fun x hx hl=>by have:=aj.size;omega)⟩
 rintro ρ w9 ⟨aV,g1,g2,g4⟩;have ar:=aV.at ar _root_.id;have au:=aV.at au _root_.id;have oz:=aY.trans aV;have bS:=cO au;(try simp only [go_sem,simprocAttr,g1,g2,g4,cell_of ar,Value.cells]);refine aI (by rfl) ?_;refine (Pz (jW.mod oz aC) (Eg hl he)).mono ?_;rintro v3 w3 ⟨fp,ho,hf,aq⟩;have ar:=aq.at ar _root_.id;have au:=aq.at au _root_.id;obtain ⟨a3,c3,rfl,_,_⟩:=ho.val;(try simp only [go_sem,simprocAttr,g1,g2,g4]);refine iY rfl rfl ar rfl (by simp) ?_;intro w4 ba aA eG;have lZ:=aA.at au (by omega);have pc:=ho.mod aA (fun b hb=>by have:=hf b hb;omega);have eM:Mod (fun _=>False) w w4:=(oz.trans aq).step aA (fun x hx hl=>by omega);(try simp only [go_sem,simprocAttr,g1,g2,g4,cell_of ba,Value.cells]);have hn:rows.length < 9223372036854775807:=by have:=jW.2;omega
 refine fe rows.length (fun k ρ w'=>Mod (fun _=>False) w w'∧k≤rows.length∧vG w' dV (.slice a3 rows.length c3) (rows.flatMap id) rows.length k fp∧w'.heap[w.heap.size]? = w4.heap[w.heap.size]?∧w'.heap[w1.heap.size]? = w4.heap[w1.heap.size]?∧ρ=[(1,.map (some m)),(2,ptr w.heap.size),(4,ptr w1.heap.size),(27,I rows.length),(28,I k)]) ⟨eM,by omega,⟨_,pc,rfl,Eg hl he⟩,rfl,rfl,rfl⟩ hn ?_ ?_ (by decide) ?_
 ·rintro k _ w2 ⟨_,hk,_,_,_,rfl⟩;exact ⟨rfl,rfl,hk⟩
 ·rintro k _ w5 ⟨aD,_,hh,bX,iP,rfl⟩ hk;obtain ⟨b,c,e,rfl,dJ⟩:=Px hh (Pv jW.1) hk rfl;cases e;have b1:(0:Int)≤k∧(k:Int) < rows.length:=by omega
  have bG:=bX.trans ba;(try simp only [go_sem,simprocAttr,bq,br,cell_of bG,Value.cells,b1,b9,dJ]);refine aI (by rfl) ?_;refine (ih _ (List.getElem_mem (by omega:k < t.args.length)) ((he k _ _ (List.getElem?_eq_getElem hk) (List.getElem?_eq_getElem (by omega))).mod aD.drew aC) (tT oe aD.drew _root_.id) PD).mono ?_;rintro _ w6 ⟨⟨cs,rfl,cA,ig⟩,aJ⟩;(try simp only [go_sem,simprocAttr]);have BO:=(hh.mod aJ.eF (fun _ _ h=>h));refine ⟨aJ.bN _ (cO bG) _root_.id,?_⟩;refine Py BO rfl hk rfl rfl cA ig ?_;intro w7 Jv aN jX;have Eh:=hf b rfl;have cZ:=aJ.size;have ajp:=oz.size;have hw:w5.drew.heap.size=w5.heap.size:=rfl;have xR:=cO bG;refine ⟨(aD.trans aJ.eF).step aN (fun x hx hl=>by omega),hk,Jv,?_,?_⟩
  ·rw [aN.bN _ (by omega) (by omega),aJ.bN _ xR _root_.id];exact bX
  ·have:=cO (iP.trans lZ);rw [aN.bN _ (by omega) (by omega),aJ.bN _ this _root_.id];exact iP
 ·rintro _ w5 ⟨aD,_,hh,bX,iP,rfl⟩;have bG:w5.heap[w.heap.size]? = some (.cells [I t.kind,.string t.name,.slice a3 rows.length c3].toArray dV (0,0)):=bX.trans ba;(try simp only [go_sem,simprocAttr,az (n:=3) bG rfl]);refine bL (cs:=[I 0,.string bI,.slice none 0 0]) rfl rfl (iP.trans lZ) rfl rfl (aS rfl (aS rfl (aS rfl dE))) ?_;intro w6 ci aJ gN;(try simp only [go_sem,simprocAttr,az (n:=3) ci rfl]);exact ⟨⟨_,rfl,rfl,aS rfl (aS rfl (aS rfl dE))⟩,aD.step aJ (fun x hx hl=>by have:=aj.size;omega)⟩
end
end Go.Proofs.YtjfgeekjjlhbdaaGreatDoor
namespace Go.W
section
open Go
variable {dl:List Deferred} {P:Program} {N:Nat} {ops:Array Oper}
theorem abg {m m':Nat} {l:Nat} {f:FuncId} {tmps:Array Value} {assign body:Code} {w:World} {R:Ending→World→Prop}
   (h:RoundIn Fence.wide m P l f tmps assign body w R):RoundIn Fence.wide m' P l f tmps assign body w R:=⟨h.1,fun c cs _=>h.2 c cs (fun d h=>by cases h)⟩
theorem abh {m m' l:Nat} {args:Array Value} {W:World} {R:Ending→World→Prop} (h:YieldAt Fence.wide m P l args W R):YieldAt Fence.wide m' P l args W R:=by
 obtain ⟨fn,tmps,assign,body,hy,hR⟩:=h;exact ⟨fn,tmps,assign,body,hy,abg hR⟩
theorem abi {n:Nat} {row:String} {args:Array Value} {w:World} {R:Value→World→Prop} (h:Rows P row args w R):RowsIn Fence.wide n P row args w R:=by
 intro c cs _;obtain ⟨v,w',h1,h2⟩:=h c cs;exact ⟨v,w',h1,stepsIn_wide.2 h2⟩
theorem abj {n:Nat} {o:Oper} {a:Act} {K:Act→World→Prop} {Q:Exit→Act→World→Prop} {r:Result Next} (h:o.upon P a K sq r):o.uponIn Fence.wide n P a K Q r:=by
 cases r with
 | ok x w'=>
  cases x<;>simp only [Oper.upon] at h<;>first
   | exact h
   | exact ⟨fun hh=>(by cases hh),(callsIn_wide.2 h).mono (fun e dP he=>by
       cases e with
       | returned v=>exact he
       | panicked c=>exact False.elim he
       | outgrown=>obtain ⟨_,_,hf⟩:=he;exact False.elim hf)⟩
   | exact ⟨fun hh=>(by cases hh),abi h⟩
   | exact False.elim h
 | halt x w'=>cases x<;>simp only [Oper.upon] at h<;>exact False.elim h
theorem abk {n:Nat} {o:Oper} {a:Act} {w:World} {K:Act→World→Prop} {Q:Exit→Act→World→Prop} (h:o.wp P a w K sq):o.wpIn Fence.wide n P a w K Q:=
 ⟨fun _ _=>trivial,abj h⟩
theorem Ei {n:Nat} {G:Act→World→Prop} {Q:Exit→Act→World→Prop} {L2:List Oper} (hQ:∀ a w,G a w→wpListIn Fence.wide n P ops Q L2 a w):∀ (L:List Oper) (a:Act) (w:World),jN P ops G L a w→wpListIn Fence.wide n P ops Q (L++L2) a w
 | [],a,w,h=>hQ a w h
 | o::L,a,w,h=>by
  unfold jN at h;show wpListIn _ _ _ _ _ (o::(L++L2)) a w;unfold wpListIn
  split
  ·rename_i hw;rw [if_pos hw] at h;exact abk (Oper.wp_mono (fun a w hh=>Ei hQ L a w hh) h)
  ·rename_i hw;rw [if_neg hw] at h;exact ⟨fun _ _=>trivial,Ei hQ L _ _ h⟩
theorem abl {n m l f x:Nat} {d:Option Nat} {at':Array TypeId} {ty:TypeId} {pos:String} {af:Array Edge} {v:Value} {a:Act} {w:World} {R:Ending→World→Prop} {K:Act→World→Prop} {Q:Exit→Act→World→Prop}
   (hf:a.eval (.tmp f) = .func (.yield l) #[] #[]) (hx:a.eval (.tmp x)=v) (hy:YieldAt Fence.wide m P l #[v] w R) (hk:∀ e w',R e w'→∃ u,e = .returned u∧K (a.put d u) w') :
   (⟨d,.call { callee:=.value (.tmp f),args:=#[.tmp x],argTypes:=at'},ty,pos,af,none⟩:Oper).wpIn Fence.wide n P a w K Q:=by
 refine ⟨fun _ _=>trivial,?_⟩;obtain ⟨fn,tmps,assign,body,h1,h2⟩:=abh (m':=n - 1) hy;have e1:(Oper.semAt Fence.wide.round a.eval (⟨d,.call { callee:=.value (.tmp f),args:=#[.tmp x],argTypes:=at'},ty,pos,af,none⟩:Oper)).run P w = .ok (.round l fn tmps assign body) w:=by
  rw [Oper.semAt_eq _ _ _ (by intro c h;cases h)];simp only [execOp,resolve,Deferred.ofValue,Sem.run_bind,Sem.run_pure,Result.andThen_ok,invoke,hf,List.map_toArray,List.map_cons,List.map_nil,hx];exact h1
 rw [e1];refine ⟨fun h=>(by cases h),h2.mono ?_⟩;intro e w' hr;obtain ⟨u,rfl,hk⟩:=hk e w' hr;exact hk
theorem abm {id f x:Nat} {L1 L2:List Oper} {dG bV:List S} {d:Option Nat} {at':Array TypeId} {ty:TypeId} {pos:String} {af:Array Edge} {Q:Post} {ρ:Env} {w:World}
   (BP:ops.toList=L1++⟨d,.call { callee:=.value (.tmp f),args:=#[.tmp x],argTypes:=at'},ty,pos,af,none⟩::L2) (h1:iM P N ops L1=some dG) (h2:iM P N ops L2=some bV) (hd:Bl N d=true)
   (h:wpS P dG ρ w fun BQ w1=>∃ l v m R,BQ.get f=some (.func (.yield l) #[] #[])∧BQ.get x=some v∧YieldAt Fence.wide m P l #[v] w1 R∧∀ e w2,R e w2→∃ u,e = .returned u∧wpS P bV (BQ.put d u) w2 fun ρ w=>Q .normal ρ w) :
   cH P N (.raw (.region id ops false)) Q ρ w:=by
 intro dl a hg;refine (wpIn_wide (n:=0)).1 (wpIn_region_list ?_);rw [BP];refine Ei (G:=fun a w=>wpListIn Fence.wide 0 P ops (o5 dl N Q) (_::L2) a w) (fun _ _ h=>h) L1 a w (zk L1 dG ρ a w _ h1 h hg ?_);rintro BQ a1 w1 eu ⟨l,v,m,R,e1,e2,hy,hk⟩;unfold wpListIn;rw [if_pos (by simp [Region.wanted])];refine abl (eu.agree (.tmp f) _ e1) (eu.agree (.tmp x) _ e2) hy ?_;intro e w2 hr;obtain ⟨u,rfl,hk⟩:=hk e w2 hr;refine ⟨u,rfl,?_⟩;have gZ:Good dl N (BQ.put d u) (a1.put d u):=eu.put d u (fun t ht=>by subst ht;simpa [Bl] using hd);have:=Ei (n:=0) (ops:=ops) (G:=fun a w=>o5 dl N Q .normal a w) (Q:=o5 dl N Q) (L2:=[]) (fun a w h=>h) L2 _ _ (zk L2 bV _ _ _ _ h2 hk gZ (fun aw a' w' dj hq=>⟨aw,dj,hq⟩));rw [List.append_nil] at this;exact this
def qU (P:Program) (N:Nat) (H:HL) (pQ:List Nat):Code→Option IR
 | .seq a b=>(qU P N H pQ a).bind fun x=>(qU P N H pQ b).map (.seq x)
 | .cond c a b=>(qU P N H pQ a).bind fun x=>(qU P N H pQ b).map (.cond (bm c) x)
 | .block id a=>(qU P N H pQ a).map (.block id)
 | .region id ops draw=>if id∈pQ then some (.raw (.region id ops draw)) else fk P N H (.region id ops draw)
 | c=>fk P N H c
theorem abn {H:HL} {pQ:List Nat}:∀ (c:Code) (ir:IR) (Q:Post) (ρ:Env) (a:Act) (w:World),qU P N H pQ c=some ir→cH P N ir Q ρ w→Good dl N ρ a→c.wp P (o5 dl N Q) a w:=by
 intro c
 induction c with
 | seq x y iD lP=>
  intro ir Q ρ a w h hw hg;simp only [qU] at h;obtain ⟨a1,h1,h⟩:=Option.bind_eq_some_iff.1 h;obtain ⟨b1,h2,h⟩:=Option.map_eq_some_iff.1 h;subst h;refine wp_seq (wp_mono (iD a1 _ ρ a w h1 hw hg) ?_);intro e a' w' hq;obtain ⟨aw,dj,hq⟩:=hq;cases e with
  | normal=>exact lP b1 Q aw a' w' h2 hq dj
  | _=>exact ⟨aw,dj,hq⟩
 | cond c x y iD lP=>
  intro ir Q ρ a w h hw hg;simp only [qU] at h;obtain ⟨a1,h1,h⟩:=Option.bind_eq_some_iff.1 h;obtain ⟨b1,h2,h⟩:=Option.map_eq_some_iff.1 h;subst h;obtain ⟨t,hc,ht,hf⟩:=hw;have he:=hg.agree c _ hc;exact wp_cond_split he (fun e=>iD a1 Q ρ a w h1 (ht e) hg) (fun e=>lP b1 Q ρ a w h2 (hf e) hg)
 | block id x ih=>
  intro ir Q ρ a w h hw hg;simp only [qU] at h;obtain ⟨a1,h1,h⟩:=Option.map_eq_some_iff.1 h;subst h;refine wp_block (wp_mono (ih a1 _ ρ a w h1 hw hg) ?_);intro e a' w' hq;obtain ⟨aw,dj,hq⟩:=hq;cases e with
  | exit lO=>
   simp only [Exit.inBlock,jP] at hq ⊢
   split
   ·rename_i hh;rw [if_pos hh] at hq;exact ⟨aw,dj,hq⟩
   ·rename_i hh;rw [if_neg hh] at hq;exact ⟨aw,dj,hq⟩
  | _=>exact ⟨aw,dj,hq⟩
 | region id ops draw=>
  intro ir Q ρ a w h hw hg;simp only [qU] at h
  split at h
  ·simp only [Option.some.injEq] at h;subst h;exact hw dl a hg
  ·exact D1 _ ir Q ρ a w h hw hg
 | _=>
  intro ir Q ρ a w h hw hg;exact D1 _ ir Q ρ a w h hw hg
structure BR (P:Program) (f:Nat) (lQ:Nat) (H:HL) (pQ:List Nat) (ir:IR) (rs:List RV) (N:Nat):Prop where
 go:∃ fn c,P.funcs[f]? = some fn∧fn.body=some c∧fn.ntmps=N∧lQ≤N∧qU P N H pQ c=some ir∧sB P fn.results.toList=some rs
theorem BR.calls {f:Nat} {lQ:Nat} {H:HL} {pQ:List Nat} {ir:IR} {rs:List RV} (h:BR P f lQ H pQ ir rs N) {args:List Value} (hn:args.length=lQ) {w:World} {R:Value→World→Prop}
   (hw:cH P N ir (D2 rs R) (qP 0 args) w):a8 P f args w R:=by
 obtain ⟨fn,c,hf,hb,hN,hle,hd,Bx⟩:=h.go;refine calls_of_wp hf hb ?_;have hg:Good [] N (qP 0 args) { tmps:=args.toArray++Array.replicate (fn.ntmps - args.toArray.size) undef,defers:=[]}:=by
  refine ⟨?_,rfl,?_⟩
  ·simp only [Array.size_append,List.size_toArray,Array.size_replicate];omega
  ·intro t v ht;obtain ⟨_,h2⟩:=Hk args 0 t v ht;have aP:t < args.length:=by
    rcases Nat.lt_or_ge t args.length with h | h
    ·exact h
    ·simp [List.getElem?_eq_none h] at h2
   simp only [Nat.sub_zero] at h2;rw [Array.getElem?_append_left (by simpa using aP)]
   simpa using h2
 refine wp_mono (abn c ir _ _ _ _ hd hw hg) ?_;intro e a' w' hq;obtain ⟨aw,dj,hq⟩:=hq;have fin:(∃ vs,aE w' aw rs=some vs∧R (aF vs) w')→a'.defers=[]∧∃ v,(results fn a'.tmps).run P w' = .ok v w'∧∃ u,Ending.returned v = .returned u∧R u w':=by
  rintro ⟨vs,h1,h2⟩;refine ⟨dj.defers,aF vs,lK ?_,_,rfl,h2⟩;unfold results;rw [cL,Array.mapM_eq_mapM_toList,A8];have:=Hh (P:=P) dj fn.results.toList rs vs Bx h1;refine Eq.trans (congrArg (fun o:Option (List Value)=>(o.map List.toArray).bind fun vs=>ro P w' (pure (if h:vs.size=1 then vs[0] else .tuple vs):Sem Value)) this) ?_;simp only [Option.map_some,Option.bind_some,fH,List.size_toArray,Option.some.injEq]
  match vs with
  | []=>rfl
  | [v]=>rfl
  | v::u::l=>simp [aF]
 cases e with
 | normal=>exact fin hq
 | ret=>exact fin hq
 | _=>exact hq.elim
end
end Go.W
namespace Go.Proofs.YtjfgeekjjlhbdaaGreatDoor
section
open Go Go.W
mutual
def Ty.sI:Ty→Nat
 | .mk k _ l=>if k == 2 then 1 else pR l
def pR:List Ty→Nat
 | []=>0
 | t::l=>t.sI+pR l
end
theorem Ty.PE (t:Ty):t.sI=if t.kind == 2 then 1 else pR t.args:=by cases t;rw [Ty.sI];rfl
theorem abo {l:List Ty} {i:Nat} (hi:i < l.length):pR (l.drop i)=l[i].sI+pR (l.drop (i+1)):=by rw [List.drop_eq_getElem_cons hi,pR]
theorem PF (t:Ty):(1≤t.nodes∧t.nodes≤501)∧(t.nodes≤500→(t.sI:Int)≤t.nodes):=by
 induction t using Ty.ind with
 | h t ih=>
 have key:∀ (l:List Ty),(∀ u∈l,(1≤u.nodes∧u.nodes≤501)∧(u.nodes≤500→(u.sI:Int)≤u.nodes))→∀ n:Int,1≤n→n≤1001→n≤ku l n∧(ku l n≤500→n+pR l≤ku l n):=by
  intro l
  induction l with
  | nil=>intro _ n h1 h2;rw [ku,pR];exact ⟨Int.le_refl _,fun _=>by omega⟩
  | cons u l o9=>
   intro hu n h1 h2;obtain ⟨⟨a1,a2⟩,a3⟩:=hu u (by simp);rw [ku,pR]
   split
   ·exact ⟨Int.le_refl _,fun h=>by omega⟩
   ·have e:Wr (n+u.nodes)=n+u.nodes:=dv (by omega) (by omega);rw [e];obtain ⟨b1,b2⟩:=o9 (fun v hv=>hu v (by simp [hv])) (n+u.nodes) (by omega) (by omega);refine ⟨by omega,fun h=>?_⟩;have:=b2 h;have:=a3 (by omega);omega
 obtain ⟨k1,k2⟩:=key t.args ih 1 (by omega) (by omega);rw [t.Hu,t.PE];refine ⟨⟨by omega,by omega⟩,fun h=>?_⟩
 split
 ·omega
 ·have:=k2 (by omega);omega
structure kz (A C:World):Prop where
 size:A.heap.size≤C.heap.size
 bN:∀ (b:Nat) (o:Obj),A.heap[b]? = some o→o.isCells=true→C.heap[b]? = some o
theorem kz.trans {A B C:World} (h:kz A B) (k:kz B C):kz A C:=⟨Nat.le_trans h.size k.size,fun b o ho hc=>k.bN b o (h.bN b o ho hc) hc⟩
theorem kz.Ej {A C:World} (h:Mod (fun _=>False) A C):kz A C:=⟨h.size,fun b o ho _=>h.at ho _root_.id⟩
theorem kz.cell {A C:World} (h:kz A C) {a:Addr} {v:Value} (ha:A.cell? a=some v):C.cell? a=some v:=by
 have aP:=World.block_lt_of_cell? A a ha;have ho:A.heap[a.block]? = some A.heap[a.block]:=Array.getElem?_eq_getElem aP;have hc:A.heap[a.block].isCells=true:=by
  unfold World.cell? at ha;rw [ho] at ha;cases hx:A.heap[a.block]<;>rw [hx] at ha<;>first | rfl | cases ha
 rw [World.cell?_of_block ((h.bN _ _ ho hc).trans ho.symm)];exact ha
theorem PG {A C:World} {v:Value} {sz:Nat} {rows:List (List Value)} {B:Nat→Prop} (h:qS A v sz rows B) (hk:kz A C):qS C v sz rows B:=by
 obtain ⟨a,c,rfl,hb,h⟩:=h;refine ⟨a,c,rfl,hb,fun i hi=>?_⟩;obtain ⟨ad,rfl,hl,hc⟩:=h i hi;exact ⟨ad,rfl,hl,fun k kZ=>hk.cell (hc k kZ)⟩
theorem aW.kp {A C:World} {B:Nat→Prop} {cs:List Value} {t:Ty} (h:aW A B cs t) (hk:kz A C):aW C B cs t:=by
 induction h with
 | mk hr hl he ih=>exact .mk ⟨PG hr.1 hk,hr.2⟩ hl (fun i r t a b=>ih i r t a b)
theorem Jw {β:Type} {B:Nat} {J:β→World→Prop} (h:AbidesFrom B J) {s:β} {W W':World} (hj:J s W) (hm:Mod (fun _=>False) W W'):J s W':=
 h s W W' none hj ⟨hm.os,hm.tape,hm.output,hm.size,fun k hk _=>hm.bN k hk _root_.id⟩ (fun r e=>by cases e)
def xS (id:Nat):Code→Option (Array Oper)
 | .region i ops false=>if i == id then some ops else none
 | .seq a b=>(xS id a).orElse fun _=>xS id b
 | .cond _ a b=>(xS id a).orElse fun _=>xS id b
 | .block _ a=>xS id a
 | .loop a=>xS id a
 | _=>none
noncomputable def vH:Array Oper:=((Tryz.f105.body.bind (xS 2)).getD #[])
noncomputable def PH:IR:=.seq (.cS false [.e (some 2) (.bx 42 (.t 0))] [1,2]) <|
 .seq (.seq (.cS false [.r (some 7) (.fa 0 (.t 2)),
.r (some 8) (.l1 (.t 7)),
.r (some 9) (.bi .eql (.t 8) (.c (.int .i64 2)))] [1,2,9]) <|
 .cond (.t 9) (.seq (.raw (.region 2 vH false)) <|
 .ret) (.skip)) <|
 .seq (.seq (.cS false [.r (some 14) (.fa 2 (.t 2)),
.r (some 15) (.l1 (.t 14)),
.r (some 16) (.len (.t 15)),
.r (some 17) (.mv (.c (.int .i64 0)))] [1,15,16,17]) <|
 .block 0 (.loop aaz)) <|
 .seq (.cS false [.r (some 4) (.mv (.c (.bool true)))] [4]) <|
 .ret
theorem abp:BR Tryz.prog 105 2 [(0,[1,2],[]),(1,[1,2,9],[]),(2,[4],[]),(3,[1,15,16,17],[]),(4,[1,15,16,17,18],[]),(5,[1,6,15,16,17],[]),(6,[1,15,16,17,24],[]),(7,[4],[]),(8,[1,15,16,17],[]),(9,[4],[])] [2] PH [.t 4] 26:=
 ⟨Tryz.f105,_,rfl,rfl,rfl,by decide,by kernel_rfl,by kernel_rfl⟩
theorem abq:vH.toList=vH.toList.take 3++⟨some 13,.call { callee:=.value (.tmp 10),args:=#[.tmp 12],argTypes:=#[9]},4, "types.go:120",#[⟨0,.data⟩,⟨2,.data⟩],none⟩::vH.toList.drop 4:=by kernel_rfl
theorem abr:iM Tryz.prog 26 vH (vH.toList.take 3)=some [.r (some 10) (.mv (.t 1)),.r (some 11) (.fa 1 (.t 2)),.r (some 12) (.l1 (.t 11))]:=by kernel_rfl
theorem abt:iM Tryz.prog 26 vH (vH.toList.drop 4)=some [.r (some 4) (.mv (.t 13))]:=by kernel_rfl
theorem abu {l N m A:Nat} {J Jx:List ByteArray→World→Prop} (hJ:AbidesFrom A J)
   (hY:∀ pre x W,J pre W→pre.length < N→YieldAt Fence.wide m Tryz.prog l #[.string x] W fun e W'=>(e = .returned (.bool true)∧J (pre++[x]) W'∧kz W W')∨(e = .returned (.bool false)∧Jx (pre++[x]) W'))
   (t:Ty):∀ {w:World} {B:Nat→Prop} {cs:List Value} {pre:List ByteArray},aW w B cs t→J pre w→pre.length+t.sI≤N →
   a8 Tryz.prog 105 [.agg cs.toArray,.func (.yield l) #[] #[]] w fun r w'=>(r = .bool true∧kz w w'∧∃ xU,J xU w'∧xU.length=pre.length+t.sI)∨(r = .bool false∧∃ xU,Jx xU w'):=by
 induction t using Ty.ind with
 | h t ih=>
 intro w B cs pre h hj hN;obtain ⟨v,rfl,hl⟩:=h.cells;obtain ⟨a,c,rfl⟩:=a7 hl;refine abp.calls rfl ?_;unfold PH;(try simp only [go_sem,simprocAttr]);refine bD rfl ?_;intro w1 ar aj _;rw [t.PE] at hN ⊢;(try simp only [go_sem,simprocAttr,cell_of ar,Value.cells]);cases hk:t.kind == 2 with
 | true=>
  rw [if_pos hk] at hN;(try simp only [go_sem,simprocAttr]);refine abm abq abr abt rfl ?_;(try simp only [go_sem,simprocAttr,cell_of ar,Value.cells]);refine ⟨l,_,m,_,rfl,rfl,hY pre t.name w1 (Jw hJ hj aj) (by omega),?_⟩;rintro e w2 (⟨rfl,pS,iQ⟩ | ⟨rfl,pS⟩)
  ·refine ⟨_,rfl,?_⟩;(try simp only [go_sem,simprocAttr]);exact .inl ⟨(kz.Ej aj).trans iQ,_,pS,by simp⟩
  ·refine ⟨_,rfl,?_⟩;(try simp only [go_sem,simprocAttr]);exact .inr ⟨_,pS⟩
 | false=>
  rw [if_neg (by rw [hk];simp)] at hN;(try simp only [go_sem,simprocAttr,cell_of ar,Value.cells]);refine fe t.args.length (fun k ρ w'=>kz w w'∧k≤t.args.length∧(∃ xU,J xU w'∧xU.length+pR (t.args.drop k)=pre.length+pR t.args)∧ρ=[(1,.func (.yield l) #[] #[]),(15,.slice a t.args.length c),(16,I t.args.length),(17,I k)]) ⟨.Ej aj,by omega,⟨pre,Jw hJ hj aj,rfl⟩,rfl⟩ (dB hl) ?_ ?_ (by decide) ?_
  ·rintro k _ w2 ⟨_,hk,_,rfl⟩;exact ⟨rfl,rfl,hk⟩
  ·rintro k _ w2 ⟨iQ,_,⟨PI,pS,jY⟩,rfl⟩ hk;obtain ⟨rows,El,zH,pU⟩:=hl;have fJ:aT w2 (.slice a t.args.length c) 3 B (aW w2 B) t.args:=⟨rows,⟨PG El.1 iQ,El.2⟩,zH,fun i r u h1 h2=>(pU i r u h1 h2).kp iQ⟩;obtain ⟨ad,c,r,e,hr,bT,bU,_⟩:=eh fJ hk;cases e;have b1:(0:Int)≤k∧(k:Int) < t.args.length:=by omega
   (try simp only [go_sem,simprocAttr,bq,br,b1,bU]);refine dp rfl bT hr.one ?_;intro w3 aM aq _;(try simp only [go_sem,simprocAttr,az aM bT]);refine aI (by rfl) ?_;rw [abo hk] at jY;refine (ih _ (List.getElem_mem hk) (hr.mod aq aC) (Jw hJ pS aq) (by omega)).mono ?_;rintro _ w4 (⟨rfl,mP,Jy,Jz,hn4⟩ | ⟨rfl,Jy,Jz⟩)
   ·(try simp only [go_sem,simprocAttr]);exact ⟨iQ.trans ((kz.Ej aq).trans mP),hk,Jy,Jz,by omega⟩
   ·(try simp only [go_sem,simprocAttr]);exact .inr ⟨Jy,Jz⟩
  ·rintro _ w2 ⟨iQ,_,⟨PI,pS,jY⟩,rfl⟩;rw [List.drop_length,pR] at jY;(try simp only [go_sem,simprocAttr]);exact .inl ⟨iQ,PI,pS,by simpa [hk] using jY⟩
end
section
open Go Go.W Go.W.Z
def PJ:IR:=.block 1 (z [l 20 5,m 21 6,.e (some 22) (.raw ⟨(some 22),(.lookup 127 (.tmp 20) (.tmp 21) true),155, "types.go:199",#[⟨0,.data⟩,⟨1,.data⟩],none⟩),m 19 22,ex 23 0 19,ex 24 1 19,.e (some 7) (.al 42 (.agg #[(i 0),(.string ⟨#[]⟩),(.slice none 0 0)])),s 3 7 23,m 8 24] [5,6,8] <| z [no 26 8] [5,6,26] <| j 26 (.dr (r 0 27 (.l1 (.t 5)) <| r 1 28 (.mv (.t 6)) <| r 2 29 (.l1 (.t 5)) <| r 3 30 (.si (.t 29)) <| .e 4 none (some 31) (.call 97 [(.t 30)]) [0] <| r 5 32 (.bd #[(i 0),(.string ⟨#[]⟩),(.slice none 0 0)] [(0,1,(k 2)),(1,1,(.t 31))]) <| .e 6 none none (.raw ⟨none,(.mapUpdate 127 (.tmp 27) (.tmp 28) (.tmp 32)),0, "types.go:200",#[⟨0,.data⟩,⟨1,.data⟩,⟨5,.data⟩,⟨4,.chain⟩,⟨0,.phase⟩,⟨1,.phase⟩,⟨2,.phase⟩,⟨3,.phase⟩,⟨4,.phase⟩,⟨5,.phase⟩],none⟩) [] <| .nil) []) (.skip))
def PK:K:=.seq (.ir (q [.e (some 1) (.bx 42 (.t 0)),.e (some 2) (.al 42 (.agg #[(i 0),(.string ⟨#[]⟩),(.slice none 0 0)]))] [1,2])) <| .seq (.ir (z [ln 9 3 1,c 10 95 [9],m 4 10] [1,2,4] <| z [bk 12 .neq 4 0] [1,2,4,12] <| j 12 (z [.r (some 13) (.bd #[(i 0),(.string ⟨#[]⟩),(.slice none 0 0)] []),s 3 2 13,m 3 4] [2,3] <| .ret) (.skip))) <| .seq (.ir (q [.e (some 15) (.raw ⟨(some 15),(.makeMap 127 none),127, "types.go:197",#[],none⟩),.e (some 5) (.al 127 (.map none)),s 1 5 15] [1,2,5])) <| .seq (.seq (.ir (q [ln 16 3 1,c 17 96 [16]] [1,2,5,17])) <| .iW 0 (.Hy 17 18 6 PJ)) <| .ir (z [ln 33 3 1,l 34 5,c 35 98 [33,34],s 3 2 35,mk 3 0] [2,3] <| .ret)
theorem abv:HE Tryz.prog 83 1 [(0,[1,2],[]),(1,[1,2,4],[]),(2,[1,2,4,12],[]),(3,[2,3],[]),(4,[1,2,5],[]),(5,[1,2,5,17],[]),(7,[5,6,8],[]),(8,[5,6,26],[]),(9,[],[0,0,0,4,12,28,63]),(10,[2,3],[])] PK [.n 2 3,.t 3] 36:=
 ⟨Tryz.f83,_,rfl,rfl,rfl,by decide,by kernel_rfl,by kernel_rfl⟩
end
section
open Go Go.W
theorem abw {P:Program} {w:World} {ρ:Env} {K:Value→World→Prop} {s d:TypeId} {x:Operand} {k k':IntKind} {n:Int} {dst:Option Nat} {ty:TypeId} {pos:String} {af:Array Edge} (hx:(bm x).ev ρ=some (.int k n)) (h1:P.underlying s=some (.int k')) (h2:P.underlying d=some .string)
   (hk:K (.string (Utf8.encode n)) w):E.wp P w ρ K (.raw ⟨dst,.convert s d x,ty,pos,af,none⟩):=by
 refine kT fun a ha=>⟨_,w,?_,hk⟩
 have g1:ro P w (underlying s)=some (.int k'):=by rw [gK,h1]
 have g2:ro P w (underlying d)=some .string:=by rw [gK,h2]
 simp only [execOp,convert,Sem.run_bind,lK g1,lK g2,Result.andThen_ok,ha x _ hx,Conv.intToString,Sem.run_pure]
theorem abx (r:Int):(Utf8.encode r).size≤4:=by
 unfold Utf8.encode;generalize (if Utf8.valid r=true then r.toNat else Utf8.runeError)=c;simp only
 repeat' split
 ·exact (by decide:(1:Nat)≤4)
 ·exact (by decide:(2:Nat)≤4)
 ·exact (by decide:(3:Nat)≤4)
 ·exact (by decide:(4:Nat)≤4)
theorem aby (u:Nat) (h:u < 100):(Lib.decDigits u).length≤2:=by
 rw [Lib.decDigits]
 split
 ·simp
 ·rw [Lib.decDigits,dif_pos (by omega)];simp
theorem abz (n:Nat) (hn:n < 2000) {w:World}:a8 Tryz.prog 97 [I n] w fun r w'=>(∃ s,r = .string s)∧w=w':=by
 refine aao.calls rfl ?_;unfold I8;have PL:¬ ((26:Int)=0):=by decide
 (try simp only [go_sem,simprocAttr,PL]);refine abw (k':=.i32) rfl rfl rfl ?_;generalize hc:Utf8.encode _=c;have bH:c.size≤4:=by rw [← hc];exact abx _
 cases h:decide ((n:Int) < 26) with
 | true=>(try simp only [go_sem,simprocAttr]);exact ⟨_,rfl⟩
 | false=>
  have e:IntKind.i64.wrap ((n:Int).tdiv 26)=((n / 26:Nat):Int):=by
   rw [Int.tdiv_eq_ediv_of_nonneg (by omega),dv (by omega) (by omega)];omega
  (try simp only [go_sem,simprocAttr,PL,e]);refine aI (by rfl) ?_;have hu:n / 26 < 100:=by omega
  refine a8.mono (R:=fun r w'=>r = .string ⟨(Lib.decDigits (n / 26)).toArray⟩∧w'=w) (Calls.mono (Tryz.strconv_Itoa_small (n / 26) hu w) (fun e w' h=>⟨_,h.1,rfl,h.2⟩)) ?_;rintro _ _ ⟨rfl,rfl⟩;have hz:¬ (((c.size+(Lib.decDigits (n / 26)).toArray.size:Nat):Int) > IntKind.i64.max):=by
   have:=aby _ hu;have e2:(Lib.decDigits (n / 26)).toArray.size=(Lib.decDigits (n / 26)).length:=by simp
   rw [e2];have:IntKind.i64.max=9223372036854775807:=rfl;omega
  (try simp only [go_sem,simprocAttr,hz]);exact ⟨_,rfl⟩
structure JA (w0:World) (T b m n:Nat) (W:World):Prop where
 mod:Mod (· = m) w0 W
 box:W.heap[b]? = some (.cells #[.map (some m)] T (0,0))
 map:∃ l,lR W m l∧(∀ p∈l,xQ p.2)∧l.length≤n
theorem abA (l:List (ByteArray×Value)) (k:ByteArray) (v:Value):(tU l k v).length≤l.length+1:=by
 unfold tU
 split<;>simp
theorem abB {l:List (ByteArray×Value)} {k:ByteArray} {v:Value} (h:∀ p∈l,xQ p.2) (hv:xQ v):∀ p∈tU l k v,xQ p.2:=by
 intro p hp;unfold tU at hp
 split at hp
 ·rcases List.mem_or_eq_of_mem_set hp with hp | rfl
  ·exact h p hp
  ·exact hv
 ·rcases List.mem_append.1 hp with hp | hp
  ·exact h p hp
  ·rw [List.mem_singleton.1 hp];exact hv
theorem abC {w0:World} {T b m n:Nat} (h1:m < w0.heap.size) (h2:b < w0.heap.size):Quiet w0.heap.size (JA w0 T b m n):=by
 intro W W' S hi hm hS;have nb:∀ c,c < w0.heap.size→¬ S c:=fun c hc hs=>by have:=(hS c hs).1;omega
 obtain ⟨l,hl,ha,hn⟩:=hi.map;exact ⟨hi.mod.step hm (fun i eU aP=>absurd eU (nb i aP)),hm.at hi.box (nb b h2),l,tT hl hm (nb m h1),ha,hn⟩
theorem abD {N m:Nat} {w:World} {b:Nat} {B:Nat→Prop} {cs:List Value} {t:Ty} (h:aW w B cs t) (hB:∀ c,B c→c < w.heap.size) (hb:w.heap[b]? = some (.cells cs.toArray dV (0,0))) (hn:t.sI≤N) :
   SeqStopsK Fence.wide m Tryz.prog 104 #[ptr b] (fun y:ByteArray=>#[.string y]) kz (fun _=>True) (fun _=>True) N w:=by
 intro l J Jx W hW hJ _ hY h0;refine callsIn_wide.2 ?_;have JB:W.heap[b]? = some (.cells cs.toArray dV (0,0)):=(hW.block b (cO hb)).trans hb;have hm:Mod (fun c=>w.heap.size≤c) w W:=⟨hW.size,fun c hc _=>hW.block c hc,hW.os,hW.tape,hW.output⟩;have ht:aW W B cs t:=h.mod hm (fun c hc hs=>by have:=hB c hc;omega);have main:a8 Tryz.prog 104 [.func (.yield l) #[] #[],ptr b] W fun r W'=>(∃ xs,True∧J xs W')∨(∃ pre,True∧Jx pre W'):=by
  refine aay.calls rfl ?_;unfold Je;(try simp only [go_sem,simprocAttr,az JB ht.len]);refine aI (by rfl) ?_;refine (abu (N:=N) hJ hY t ht h0 (by simpa using hn)).mono ?_;rintro _ W' (⟨rfl,_,xs,hj,_⟩ | ⟨rfl,xs,hj⟩)
  ·(try simp only [go_sem,simprocAttr]);exact .inl ⟨xs,hj⟩
  ·(try simp only [go_sem,simprocAttr]);exact .inr ⟨xs,hj⟩
 exact Calls.mono main fun e W' ⟨v,he,hv⟩=>⟨⟨v,he⟩,hv⟩
end
end Go.Proofs.YtjfgeekjjlhbdaaGreatDoor