/- Texts that the last file stands on: WK, IRA, T1, D4, IRB, S1, T3, T4, T5, T6, D5, T7, T8, W16, T9, IRC, T10. -/
import Derived.KernelRfl
import Derived.Test.YtjfgeekjjlhbdaaGreatDoorZNA
import Derived.Shelf.LaysM
import Derived.Shelf.Strconv.Itoa3
import Derived.Shelf.Strings.Split
import Derived.Test.YtjfgeekjjlhbdaaGreatDoorProg
set_option linter.unusedSimpArgs false
set_option linter.unusedVariables false
set_option maxRecDepth 100000
section
namespace Go.W
open Go
inductive K where
 | ir (x:IR)
 | seq (a b:K)
 | cond (c:O) (a b:K)
 | blk (id:Nat) (a:K)
 | rng (x p1 p2 d:Nat) (bd:IR)
 | rng1 (x p d:Nat) (bd:IR)
 deriving Inhabited
abbrev PostD:=Exit→List Nat→Env→World→Prop
def thenQD (next:List Nat→Env→World→Prop) (Q:PostD):PostD
 | .normal,Ds,ρ,w=>next Ds ρ w
 | e,Ds,ρ,w=>Q e Ds ρ w
def blkQD (id:Nat) (Q:PostD):PostD
 | .exit id',Ds,ρ,w=>if id'=id then Q .normal Ds ρ w else Q (.exit id') Ds ρ w
 | e,Ds,ρ,w=>Q e Ds ρ w
def coll (D:Nat):Deferred:={ target:=.collected D,args:=#[]}
def liftQD (N:Nat) (Q:PostD):Exit→Act→World→Prop:=fun e a w=>∃ ρ Ds,Good (Ds.map coll) N ρ a∧Q e Ds ρ w
structure RangeF (P:Program) (N:Nat) (ir:IR) (x p1 p2 d:Nat) (ρ:Env) (w:World) (n len gf:Nat) (lb:Array Value) (elt:Nat→Value) (Kp:World→World→Prop) (I:List Nat→World→Prop):Prop where
 hx:ρ.get x=some (.func (.func gf) #[] lb)
 eg:∀ args w,(callFunc gf args).run P w = .ok (.enter gf args) w
 hseq:SeqStopsK Fence.wide (n - 1) P gf lb (fun y : { j:Nat // j < len}=>#[.int .i64 (y.1:Int),elt y.1]) Kp (fun ys=>ys.map Subtype.val=downto len len) (fun _=>True) len w
 fresh:ρ.get p1=none∧ρ.get p2=none
 hn:1≤n
 hKt:∀ {A B C:World},Kp A B→Kp B C→Kp A C
 hKb:∀ (W:World) (l:Nat) (o o':Obj),w.heap.size≤l→W.heap[l]? = some o→o.isCells=false→o.isWalk=false→Kp W (W.putObj l o')
 hI:RangeB P N ir Kp len elt p1 p2 d ρ w.heap.size I w
structure RangeF1 (P:Program) (N:Nat) (ir:IR) (x p d:Nat) (ρ:Env) (w:World) (n len gf:Nat) (lb:Array Value) (Kp:World→World→Prop) (I:List ByteArray→World→Prop):Prop where
 hx:ρ.get x=some (.func (.func gf) #[] lb)
 eg:∀ args w,(callFunc gf args).run P w = .ok (.enter gf args) w
 hseq:SeqStopsK Fence.wide (n - 1) P gf lb (fun y:ByteArray=>#[.string y]) Kp (fun _=>True) (fun _=>True) len w
 fresh:ρ.get p=none
 hn:1≤n
 hKt:∀ {A B C:World},Kp A B→Kp B C→Kp A C
 hKb:∀ (W:World) (l:Nat) (o o':Obj),w.heap.size≤l→W.heap[l]? = some o→o.isCells=false→o.isWalk=false→Kp W (W.putObj l o')
 hI:RangeB1 P N ir Kp len d ρ w.heap.size I w
def kwp (P:Program) (N:Nat):K→PostD→List Nat→Env→World→Prop
 | .ir x,Q,Ds,ρ,w=>irwp P N x (fun e ρ w=>Q e Ds ρ w) ρ w
 | .seq a b,Q,Ds,ρ,w=>kwp P N a (thenQD (fun Ds ρ w=>kwp P N b Q Ds ρ w) Q) Ds ρ w
 | .cond c a b,Q,Ds,ρ,w=>∃ t,c.ev ρ=some (.bool t)∧(t=true→kwp P N a Q Ds ρ w)∧(t=false→kwp P N b Q Ds ρ w)
 | .blk id a,Q,Ds,ρ,w=>kwp P N a (blkQD id Q) Ds ρ w
 | .rng x p1 p2 d bd,Q,Ds,ρ,w=>∃ n len gf lb elt Kp I,RangeF P N bd x p1 p2 d ρ w n len gf lb elt Kp I ∧
     ∀ (D:Nat) (W:World),w.heap.size≤D→I (downto len len) W→W.heap[D]? = some (.deferred (some []))→Q .normal (D::Ds) ρ W
 | .rng1 x p d bd,Q,Ds,ρ,w=>∃ n len gf lb Kp I,RangeF1 P N bd x p d ρ w n len gf lb Kp I ∧
     ∀ (D:Nat) (xs:List ByteArray) (W:World),w.heap.size≤D→I xs W→W.heap[D]? = some (.deferred (some []))→Q .normal (D::Ds) ρ W
def asg:Code→Option (Nat×Nat)
 | .region _ ops false=>match ops.toList with
   | [⟨some d,.assign (.tmp p),_,_,after,none⟩]=>if after.isEmpty then some (d,p) else none
   | _=>none
 | _=>none
theorem asg_spec {c:Code} {d p:Nat} (h:asg c=some (d,p)):∃ id ty pos,c = .region id #[{ dst:=some d,op:=.assign (.tmp p),type:=ty,pos:=pos,after:=#[],guard:=none}] false:=by
 unfold asg at h
 split at h
 · rename_i id ops
   split at h
   · rename_i d' p' ty pos after heq
     split at h
     · rename_i ha;simp only [Option.some.injEq,Prod.mk.injEq] at h;obtain ⟨rfl,rfl⟩:=h;have ha':after = #[]:=by simpa using ha
       subst ha';refine ⟨id,ty,pos,?_⟩;have:ops = #[{ dst:=some d',op:=.assign (.tmp p'),type:=ty,pos:=pos,after:=#[],guard:=none}]:=by
         apply Array.ext';rw [heq]
       rw [this]
     · cases h
   · cases h
 · cases h
def mkSeq:K→K→K
 | .ir x,.ir y=>.ir (.seq x y)
 | a,b=>.seq a b
def mkCond (c:O):K→K→K
 | .ir x,.ir y=>.ir (.cond c x y)
 | a,b=>.cond c a b
def mkBlk (id:Nat):K→K
 | .ir x=>.ir (.block id x)
 | a=>.blk id a
def decompK (P:Program) (N:Nat) (H:List (Nat×List Nat×List Nat)):Code→Option K
 | .seq a b=>(decompK P N H a).bind fun x=>(decompK P N H b).map fun y=>mkSeq x y
 | .cond c a b=>(decompK P N H a).bind fun x=>(decompK P N H b).map fun y=>mkCond (toO c) x y
 | .block id a=>(decompK P N H a).map (mkBlk id)
 | .rangeFunc f ps sa bd=>match f,ps.toList,asg sa,decomp P N H bd with
   | .tmp x,[p1,p2],some (d,p),some ir=>if p=p2&&p1 != p2&&decide (p1 < N)&&decide (p2 < N)&&decide (d < N)&&calm bd&&cooked ir then some (.rng x p1 p2 d ir) else none
   | .tmp x,[p1],some (d,p),some ir=>if p=p1&&decide (p < N)&&decide (d < N)&&calm bd&&cooked ir then some (.rng1 x p d ir) else none
   | _,_,_,_=>none
 | c=>(decomp P N H c).map .ir
section
variable {P:Program} {N:Nat}
theorem kwp_mkSeq {a b:K} {Q:PostD} {Ds:List Nat} {ρ:Env} {w:World} (h:kwp P N (mkSeq a b) Q Ds ρ w):kwp P N (.seq a b) Q Ds ρ w:=by
 unfold mkSeq at h
 split at h
 · refine irwp_mono _ _ _ (fun e ρ w h=>?_) ρ w (show irwp P N _ _ ρ w from h);cases e<;>exact h
 · exact h
theorem kwp_mkCond {c:O} {a b:K} {Q:PostD} {Ds:List Nat} {ρ:Env} {w:World} (h:kwp P N (mkCond c a b) Q Ds ρ w):kwp P N (.cond c a b) Q Ds ρ w:=by
 unfold mkCond at h
 split at h
 · exact h
 · exact h
theorem kwp_mkBlk {id:Nat} {a:K} {Q:PostD} {Ds:List Nat} {ρ:Env} {w:World} (h:kwp P N (mkBlk id a) Q Ds ρ w):kwp P N (.blk id a) Q Ds ρ w:=by
 unfold mkBlk at h
 split at h
 · refine irwp_mono _ _ _ (fun e ρ w h=>?_) ρ w (show irwp P N _ _ ρ w from h);cases e<;>exact h
 · exact h
theorem decompK_sound {H:List (Nat×List Nat×List Nat)}:∀ (c:Code) (k:K) (Q:PostD) (Ds:List Nat) (ρ:Env) (a:Act) (w:World),decompK P N H c=some k→kwp P N k Q Ds ρ w→Good (Ds.map coll) N ρ a→c.wp P (liftQD N Q) a w:=by
 have plain:∀ (c:Code) (k:K) (Q:PostD) (Ds:List Nat) (ρ:Env) (a:Act) (w:World),(decomp P N H c).map K.ir=some k→kwp P N k Q Ds ρ w→Good (Ds.map coll) N ρ a→c.wp P (liftQD N Q) a w:=by
   intro c k Q Ds ρ a w h hw hg;obtain ⟨ir,hir,rfl⟩:=Option.map_eq_some_iff.1 h;refine wp_mono (decomp_sound c ir _ ρ a w hir hw hg) ?_;rintro e a' w' ⟨ρ',hg',hq⟩;exact ⟨ρ',Ds,hg',hq⟩
 intro c
 induction c with
 | seq x y ihx ihy=>
   intro k Q Ds ρ a w h hw hg;simp only [decompK] at h;obtain ⟨a1,h1,h⟩:=Option.bind_eq_some_iff.1 h;obtain ⟨b1,h2,h⟩:=Option.map_eq_some_iff.1 h;subst h;have hw:=kwp_mkSeq hw;refine wp_seq (wp_mono (ihx a1 _ Ds ρ a w h1 hw hg) ?_);rintro e a' w' ⟨ρ',Ds',hg',hq⟩;cases e with
   | normal=>exact ihy b1 Q Ds' ρ' a' w' h2 hq hg'
   | _=>exact ⟨ρ',Ds',hg',hq⟩
 | cond c x y ihx ihy=>
   intro k Q Ds ρ a w h hw hg;simp only [decompK] at h;obtain ⟨a1,h1,h⟩:=Option.bind_eq_some_iff.1 h;obtain ⟨b1,h2,h⟩:=Option.map_eq_some_iff.1 h;subst h;obtain ⟨t,hc,ht,hf⟩:=kwp_mkCond hw;have he:=hg.agree c _ hc;exact wp_cond_split he (fun e=>ihx a1 Q Ds ρ a w h1 (ht e) hg) (fun e=>ihy b1 Q Ds ρ a w h2 (hf e) hg)
 | block id x ih=>
   intro k Q Ds ρ a w h hw hg;simp only [decompK] at h;obtain ⟨a1,h1,h⟩:=Option.map_eq_some_iff.1 h;subst h;have hw:=kwp_mkBlk hw;refine wp_block (wp_mono (ih a1 _ Ds ρ a w h1 hw hg) ?_);rintro e a' w' ⟨ρ',Ds',hg',hq⟩;cases e with
   | exit id'=>
     simp only [Exit.inBlock,blkQD] at hq ⊢
     split
     · rename_i hh;rw [if_pos hh] at hq;exact ⟨ρ',Ds',hg',hq⟩
     · rename_i hh;rw [if_neg hh] at hq;exact ⟨ρ',Ds',hg',hq⟩
   | _=>exact ⟨ρ',Ds',hg',hq⟩
 | rangeFunc f ps sa bd _ _=>
   intro k Q Ds ρ a w h hw hg;simp only [decompK] at h
   split at h
   · rename_i f0 ps0 as0 ir0 x p1 p2 d p ir hps has hbd
     split at h
     · rename_i hc;simp only [Bool.and_eq_true,decide_eq_true_eq,bne_iff_ne,ne_eq] at hc;obtain ⟨⟨⟨⟨⟨⟨rfl,h1⟩,h2⟩,h3⟩,h4⟩,h5⟩,h6⟩:=hc;simp only [Option.some.injEq] at h;subst h;obtain ⟨id,ty,pos,rfl⟩:=asg_spec has;have hps':ps = #[p1,p]:=by apply Array.ext';rw [hps]
       subst hps';obtain ⟨n,len,gf,lb,elt,Kp,I,hr,hd⟩:=hw;refine range_wp hbd h5 h6 hg hr.hx hr.eg hr.hseq ⟨h1,h2,h3,h4⟩ hr.fresh hr.hn hr.hKt hr.hKb I hr.hI ?_;intro D W hD hI hh a' ha';exact ⟨ρ,D::Ds,ha',hd D W hD hI hh⟩
     · cases h
   · rename_i f0 ps0 as0 ir0 x p1 d p ir hps has hbd
     split at h
     · rename_i hc;simp only [Bool.and_eq_true,decide_eq_true_eq,bne_iff_ne,ne_eq] at hc;obtain ⟨⟨⟨⟨rfl,h3⟩,h4⟩,h5⟩,h6⟩:=hc;simp only [Option.some.injEq] at h;subst h;obtain ⟨id,ty,pos,rfl⟩:=asg_spec has;have hps':ps = #[p]:=by apply Array.ext';rw [hps]
       subst hps';obtain ⟨n,len,gf,lb,Kp,I,hr,hd⟩:=hw;refine range_wp1 hbd h5 h6 hg hr.hx hr.eg hr.hseq ⟨h3,h4⟩ hr.fresh hr.hn hr.hKt hr.hKb I hr.hI ?_;intro D xs W hD hI hh a' ha';exact ⟨ρ,D::Ds,ha',hd D xs W hD hI hh⟩
     · cases h
   · cases h
 | _=>
   intro k Q Ds ρ a w h hw hg;exact plain _ k Q Ds ρ a w h hw hg
def finQD (rs:List RV) (R:Value→World→Prop):PostD:=fun e Ds ρ w=>
 (e = .normal∨e = .ret)∧(∀ D∈Ds,w.heap[D]? = some (.deferred (some [])))∧Ds.Nodup ∧
   ∀ w':World,Mod (fun b=>b∈Ds) w w'→w'.heap.size=w.heap.size→∃ vs,rvs w' ρ rs=some vs∧R (one? vs) w'
structure FitsK (P:Program) (f:Nat) (nargs:Nat) (H:List (Nat×List Nat×List Nat)) (k:K) (rs:List RV) (N:Nat):Prop where
 go:∃ fn c,P.funcs[f]? = some fn∧fn.body=some c∧fn.ntmps=N∧nargs≤N∧decompK P N H c=some k∧resRV P fn.results.toList=some rs
theorem mod_put {S:Nat→Prop} {w:World} {r:Nat} {o:Obj} (h:S r):Mod S w (w.putObj r o):=
 ⟨by simp,fun b _ hb=>World.putObj_heap_other (fun e=>hb (e ▸ h)),rfl,rfl,rfl⟩
theorem leavesM {fn:Func} {tmps:Array Value} {R:Ending→World→Prop}:∀ (Ds:List Nat) (w:World),(∀ D∈Ds,w.heap[D]? = some (.deferred (some [])))→Ds.Nodup →
   (∀ w':World,Mod (fun b=>b∈Ds) w w'→w'.heap.size=w.heap.size→∃ v,(results fn tmps).run P w' = .ok v w'∧R (.returned v) w') →
   LeavesInM Fence.wide 0 P fn tmps R (Ds.map coll) .returning w
 | [],w,_,_,h=>h w (.refl _ _) rfl
 | D::Ds,w,hD,hn,h=>by
   refine ⟨(fun h=>by cases h),.inl ⟨D,w.putObj D (.deferred none),rfl,run_takeDeferred (hD D (by simp)),?_⟩⟩;obtain ⟨h1,h2⟩:=List.nodup_cons.1 hn;refine leavesM Ds _ (fun D' hD'=>?_) h2 (fun w' hm hs=>h w' ?_ (by rw [hs,World.putObj_size]))
   · rw [World.putObj_heap_other (fun e:D'=D=>h1 (e ▸ hD'))];exact hD D' (by simp [hD'])
   · exact (mod_put (S:=fun b=>b∈D::Ds) (by simp)).step hm (fun i hi _=>by simp [hi])
theorem FitsK.calls {f:Nat} {nargs:Nat} {H:List (Nat×List Nat×List Nat)} {k:K} {rs:List RV} (h:FitsK P f nargs H k rs N) {args:List Value} (hn:args.length=nargs) {w:World} {R:Value→World→Prop}
   (hw:kwp P N k (finQD rs R) [] (argEnv 0 args) w):CallsR P f args w R:=by
 obtain ⟨fn,c,hf,hb,hN,hle,hd,hrs⟩:=h.go;unfold CallsR;refine callsIn_wide.1 (callsIn_of_wp_marks (n:=0) hf hb trivial ?_);have hg:Good ([].map coll) N (argEnv 0 args) { tmps:=args.toArray++Array.replicate (fn.ntmps - args.toArray.size) undef,defers:=[]}:=by
   refine ⟨?_,rfl,?_⟩
   · simp only [Array.size_append,List.size_toArray,Array.size_replicate];omega
   · intro t v ht;obtain ⟨_,h2⟩:=argEnv_get args 0 t v ht;have hlt:t < args.length:=by
       rcases Nat.lt_or_ge t args.length with h | h
       · exact h
       · simp [List.getElem?_eq_none h] at h2
     simp only [Nat.sub_zero] at h2;rw [Array.getElem?_append_left (by simpa using hlt)]
     simpa using h2
 refine wpIn_mono ((wpIn_wide (n:=0)).2 (decompK_sound c k _ [] _ _ _ hd hw hg)) ?_;rintro e a' w' ⟨ρ',Ds,hg',he,hD,hnd,hq⟩;have fin:LeavesInM Fence.wide 0 P fn a'.tmps (fun e w'=>∃ v,e = .returned v∧R v w') a'.defers .returning w':=by
   rw [hg'.defers];refine leavesM Ds w' hD hnd ?_;intro w2 hm hs;obtain ⟨vs,h1,h2⟩:=hq w2 hm hs;refine ⟨one? vs,ro_run ?_,_,rfl,h2⟩;unfold results;rw [ro_bind,Array.mapM_eq_mapM_toList,ro_map];have:=resRV_sound (P:=P) hg' fn.results.toList rs vs hrs h1;refine Eq.trans (congrArg (fun o:Option (List Value)=>(o.map List.toArray).bind fun vs=>ro P w2 (pure (if h:vs.size=1 then vs[0] else .tuple vs):Sem Value)) this) ?_;simp only [Option.map_some,Option.bind_some,ro_pure,List.size_toArray,Option.some.injEq]
   match vs with
   | []=>rfl
   | [v]=>rfl
   | v::u::l=>simp [one?]
 rcases he with rfl | rfl
 · exact fin
 · exact fin
end
abbrev HL:=List (Nat×List Nat×List Nat)
def keepsOf:IR→List (List Nat)
 | .seq a b=>keepsOf a++keepsOf b
 | .cond _ a b=>keepsOf a++keepsOf b
 | .block _ a=>keepsOf a
 | .loop a=>keepsOf a
 | .reg _ _ kp=>[kp]
 | .dr _ kp=>[kp]
 | _=>[]
def regsOf:Code→List (Nat×List Nat)
 | .region id ops draw=>[(id,if draw then (Region.before ops).toList else [])]
 | .seq a b=>regsOf a++regsOf b
 | .cond _ a b=>regsOf a++regsOf b
 | .block _ a=>regsOf a
 | .loop a=>regsOf a
 | _=>[]
def hOf (fn:Func) (a:IR):List (Nat×List Nat×List Nat):=match fn.body with
 | some c=>List.zipWith (fun (x:Nat×List Nat) k=>(x.1,k,x.2)) (regsOf c) (keepsOf a)
 | none=>[]
namespace Z
def m (d:Nat) (x:Nat):S:=.r (some d) (.mv (.t x))
def m' (s:Nat) (c:Bool) (d:Nat) (x:Nat):S:=.gr s c (some d) (.mv (.t x))
def n (d:Nat) (x:Nat):S:=.r (some d) (.nn (.t x))
def n' (s:Nat) (c:Bool) (d:Nat) (x:Nat):S:=.gr s c (some d) (.nn (.t x))
def f (d:Nat) (o:Nat) (x:Nat):S:=.r (some d) (.fa o (.t x))
def f' (s:Nat) (c:Bool) (d:Nat) (o:Nat) (x:Nat):S:=.gr s c (some d) (.fa o (.t x))
def l (d:Nat) (x:Nat):S:=.r (some d) (.l1 (.t x))
def l' (s:Nat) (c:Bool) (d:Nat) (x:Nat):S:=.gr s c (some d) (.l1 (.t x))
def ln (d:Nat) (o:Nat) (x:Nat):S:=.r (some d) (.ln o (.t x))
def ln' (s:Nat) (c:Bool) (d:Nat) (o:Nat) (x:Nat):S:=.gr s c (some d) (.ln o (.t x))
def ex (d:Nat) (o:Nat) (x:Nat):S:=.r (some d) (.ex o (.t x))
def ex' (s:Nat) (c:Bool) (d:Nat) (o:Nat) (x:Nat):S:=.gr s c (some d) (.ex o (.t x))
def le (d:Nat) (x:Nat):S:=.r (some d) (.len (.t x))
def le' (s:Nat) (c:Bool) (d:Nat) (x:Nat):S:=.gr s c (some d) (.len (.t x))
def ia (d:Nat) (o:Nat) (x:Nat) (y:Nat):S:=.r (some d) (.ia o (.t x) (.t y))
def ia' (s:Nat) (c:Bool) (d:Nat) (o:Nat) (x:Nat) (y:Nat):S:=.gr s c (some d) (.ia o (.t x) (.t y))
def no (d:Nat) (x:Nat):S:=.r (some d) (.no (.t x))
def no' (s:Nat) (c:Bool) (d:Nat) (x:Nat):S:=.gr s c (some d) (.no (.t x))
def bi (d:Nat) (b:BinOp) (x:Nat) (y:Nat):S:=.r (some d) (.bi b (.t x) (.t y))
def bi' (s:Nat) (c:Bool) (d:Nat) (b:BinOp) (x:Nat) (y:Nat):S:=.gr s c (some d) (.bi b (.t x) (.t y))
def bk (d:Nat) (b:BinOp) (x:Nat) (k:Int):S:=.r (some d) (.bi b (.t x) (.c (.int .i64 k)))
def bk' (s:Nat) (c:Bool) (d:Nat) (b:BinOp) (x:Nat) (k:Int):S:=.gr s c (some d) (.bi b (.t x) (.c (.int .i64 k)))
def mk (d:Nat) (k:Int):S:=.r (some d) (.mv (.c (.int .i64 k)))
def mk' (s:Nat) (c:Bool) (d:Nat) (k:Int):S:=.gr s c (some d) (.mv (.c (.int .i64 k)))
def c (d f:Nat) (l:List Nat):S:=.e (some d) (.call f (l.map .t))
def u (d x y:Nat):S:=.r (some d) (.pk (.t x) (.c (.bool true)) (.t y))
def a (d x y:Nat):S:=.r (some d) (.pk (.t x) (.t y) (.c (.bool false)))
def s (n x y:Nat):S:=.e none (.st n (.t x) (.t y))
def k (n:Int):O:=.c (.int .i64 n)
def i (n:Int):Value:=.int .i64 n
def q (st:List S) (kp:List Nat):IR:=.reg false st kp
def q' (st:List S) (kp:List Nat):IR:=.reg true st kp
def z (st:List S) (kp:List Nat) (x:IR):IR:=.seq (.reg false st kp) x
def j (n:Nat) (x y:IR):IR:=.cond (.t n) x y
def r (i d:Nat) (x:R) (t:D):D:=.r i none (some d) x t
end Z
theorem Fits.m {P:Program} {f nargs:Nat} {H:List (Nat×List Nat×List Nat)} {ir:IR} {rs:List RV} {N:Nat} (fn:Func) (c:Code) (h1:P.funcs[f]? = some fn:=by rfl) (h2:fn.body=some c:=by rfl) (h3:fn.ntmps=N:=by rfl) (h4:nargs≤N:=by decide)
   (h5:decomp P N H c=some ir:=by kernel_rfl) (h6:resRV P fn.results.toList=some rs:=by kernel_rfl):Fits P f nargs H ir rs N:=⟨fn,c,h1,h2,h3,h4,h5,h6⟩
attribute [go_sem] Z.m Z.m' Z.n Z.n' Z.f Z.f' Z.l Z.l' Z.ln Z.ln' Z.ex Z.ex' Z.le Z.le' Z.ia Z.ia' Z.no Z.no' Z.bi Z.bi' Z.bk Z.bk' Z.mk Z.mk' Z.c Z.u Z.a Z.s Z.k Z.i Z.q Z.q' Z.z Z.j Z.r List.map_cons List.map_nil
end Go.W
end
namespace Go.Proofs.YtjfgeekjjlhbdaaGreatDoor
section
open Go Go.W Go.W.Z
def ir5L1:IR:=.seq (z [bk 35 .lss 8 3] [0,1,5,6,7,8,35] <| j 35 (.skip) ((.exit 0))) <| .seq (.block 1 (z [ia 41 1 6 8,l 42 41,c 45 17 [42,0,1],ex 46 0 45,ex 47 1 45,m 9 46,m 10 47] [0,1,5,6,7,8,9,10] <| z [no 49 10,m' 49 false 51 9,.gr 49 false (some 52) (.bi .shl (.t 51) (.c (.int .u64 1))),m' 49 false 53 7,m' 49 false 54 8,ia' 49 false 55 1 53 54,l' 49 false 56 55,.gr 49 false (some 57) (.bi .shl (.t 56) (.c (.int .u64 1))),bi' 49 false 58 .neq 52 57,u 59 49 58,m' 59 false 61 9,bk' 59 false 62 .gtr 61 4611686018427387903,u 63 59 62,m' 63 false 65 9,bk' 63 false 66 .lss 65 (-4611686018427387904),u 67 63 66] [0,1,5,6,7,8,67] <| j 67 (z [.r (some 4) (.mv (.c (.bool false)))] [4] <| .ret) (.skip))) <| q [bk 37 .add 8 1,m 8 37] [0,1,5,6,7,8]
def ir5:IR:=z [] [0,1] <| z [c 16 8 [],m 5 16] [0,1,5] <| z [.r (some 18) (.bi .shl (.t 0) (.c (.int .u64 1))),.r (some 19) (.bi .shr (.t 18) (.c (.int .u64 1))),m 0 19] [0,1,5] <| z [.r (some 21) (.bi .shl (.t 1) (.c (.int .u64 1))),.r (some 22) (.bi .shr (.t 21) (.c (.int .u64 1))),m 1 22] [0,1,5] <| z [.e (some 23) (.bs 9 3 #[(.string ⟨#[]⟩),(.string ⟨#[]⟩),(.string ⟨#[]⟩)] [(0,1,(.c (.string ⟨#[43]⟩))),(1,1,(.c (.string ⟨#[45]⟩))),(2,1,(.c (.string ⟨#[42]⟩)))]),m 6 23] [0,1,5,6] <| z [bi 26 .add 0 1,bi 29 .sub 0 1,bi 32 .mul 0 1,.e (some 33) (.bs 3 3 #[(i 0),(i 0),(i 0)] [(0,1,(.t 26)),(1,1,(.t 29)),(2,1,(.t 32))]),m 7 33] [0,1,5,6,7] <| .seq (z [mk 8 0] [0,1,5,6,7,8] <| .block 0 (.loop ir5L1)) <| z [.e (some 71) (.call 17 [(.c (.string ⟨#[47]⟩)),(.t 0),(.t 1)]),ex 72 0 71,ex 73 1 71,m 11 72,m 12 73] [0,1,5,11,12] <| z [.e (some 77) (.call 17 [(.c (.string ⟨#[37]⟩)),(.t 0),(.t 1)]),ex 78 0 77,ex 79 1 77,m 13 78,m 14 79] [0,1,5,11,12,13,14] <| .seq (z [bk 81 .eql 1 0] [0,1,5,11,12,13,14,81] <| j 81 (z [m' 5 true 84 12,no' 5 true 85 84,a 86 5 85,m' 86 true 88 14,no' 86 true 89 88,a 90 86 89,m 4 90] [4] <| .ret) (.skip)) <| z [bk 92 .lss 13 0,m' 92 true 94 13,bk' 92 true 95 .gtr 94 (-4611686018427387904),a 96 92 95,m' 96 false 98 13,bk' 96 false 99 .geq 98 0,u 100 96 99,m 15 100] [0,1,5,11,12,13,14,15] <| .seq (z [no 102 12,m' 102 false 104 14,no' 102 false 105 104,u 106 102 105,m' 106 false 108 11,m' 106 false 109 1,bi' 106 false 110 .mul 108 109,m' 106 false 111 13,bi' 106 false 112 .add 110 111,.gr 106 false (some 113) (.bi .shl (.t 112) (.c (.int .u64 1))),m' 106 false 114 0,.gr 106 false (some 115) (.bi .shl (.t 114) (.c (.int .u64 1))),bi' 106 false 116 .neq 113 115,u 117 106 116,m' 117 false 119 13,bk' 117 false 120 .neq 119 0,m' 117 false 121 120,m' 121 true 122 13,bk' 121 true 123 .lss 122 0,m' 121 true 124 0,bk' 121 true 125 .lss 124 0,.gr 121 true (some 126) (.eq .bool true (.t 123) (.t 125)),.gr 117 false (some 127) (.pk (.t 121) (.t 126) (.c (.bool false))),u 128 117 127,m' 128 false 130 15,no' 128 false 131 130,u 132 128 131] [0,1,5,13,132] <| j 132 (z [.r (some 4) (.mv (.c (.bool false)))] [4] <| .ret) (.skip)) <| .seq (z [bk 134 .gtr 1 0,m' 134 true 136 13,m' 134 true 137 1,bi' 134 true 138 .geq 136 137,m' 134 true 139 138,m' 139 false 140 13,.gr 139 false (some 141) (.ng (.t 140)),m' 139 false 142 1,bi' 139 false 143 .geq 141 142,.gr 134 true (some 144) (.pk (.t 139) (.c (.bool true)) (.t 143)),a 145 134 144,m' 145 false 147 1,bk' 145 false 148 .lss 147 0,m' 145 false 149 148,m' 149 true 150 13,m' 149 true 151 1,bi' 149 true 152 .leq 150 151,m' 149 true 153 152,m' 153 false 154 13,.gr 153 false (some 155) (.ng (.t 154)),m' 153 false 156 1,bi' 153 false 157 .leq 155 156,.gr 149 true (some 158) (.pk (.t 153) (.c (.bool true)) (.t 157)),.gr 145 false (some 159) (.pk (.t 149) (.t 158) (.c (.bool false))),u 160 145 159] [0,1,5,160] <| j 160 (z [.r (some 4) (.mv (.c (.bool false)))] [4] <| .ret) (.skip)) <| z [m' 5 true 163 0,m' 5 true 164 1,.ge 5 true (some 165) (.call 18 [(.t 163),(.t 164)]),a 166 5 165,m 4 166] [4] <| .ret
theorem fit5:Fits Tryz.prog 5 2 (hOf Tryz.f5 ir5) ir5 [.t 4] 167:=.m Tryz.f5 _
def ir8:IR:=z [] [] <| z [c 4 13 [],.e (some 5) (.call 15 [(k 1)]),.e (some 6) (.call 15 [(k 2)]),.e (some 7) (.call 14 [(.c (.string ⟨#[43]⟩)),(.t 5),(.t 6)]),c 8 23 [4,7],.e (some 9) (.call 9 [(.t 8),(.c (.string ⟨#[109]⟩)),(.c (.slice none 0 0)),(k 20)]),ex 10 0 9,ex 11 1 9,.e (some 1) (.al 34 (.agg #[(i 0),(.slice none 0 0),(i 0),(i 0),(i 0),(i 0),(i 0),(.string ⟨#[]⟩)])),s 8 1 10,m 2 11] [1,2] <| z [bk 13 .eql 2 0,f' 13 true 15 0 1,l' 13 true 16 15,bk' 13 true 17 .eql 16 2,a 18 13 17,f' 18 true 20 1 1,l' 18 true 21 20,le' 18 true 22 21,bk' 18 true 23 .eql 22 1,a 24 18 23,f' 24 true 26 1 1,l' 24 true 27 26,.gr 24 true (some 28) (.ia 2 (.t 27) (k 0)),ln' 24 true 29 2 28,.gr 24 true (some 30) (.bd #[(.string ⟨#[]⟩),(i 0)] [(1,1,(k 3))]),.gr 24 true (some 31) (.eqa false [(0,.str),(1,.int)] (.t 29) (.t 30)),a 32 24 31,f' 32 true 34 3 1,l' 32 true 35 34,bk' 32 true 36 .eql 35 5,a 37 32 36,m 0 37] [0] <| .ret
theorem fit8:Fits Tryz.prog 8 0 (hOf Tryz.f8 ir8) ir8 [.t 0] 38:=.m Tryz.f8 _
def ir9L1:IR:=z [bi 24 .lss 23 22] [1,2,3,4,8,21,22,23,24] <| .seq (j 24 (.skip) ((.exit 0))) <| .seq (.block 1 (z [ia 25 1 21 23,l 26 25,m 11 26] [1,2,3,4,8,11,21,22,23] <| z [bk 28 .lss 11 (-4611686018427387904),m' 28 false 30 11,bk' 28 false 31 .gtr 30 4611686018427387903,u 32 28 31] [1,2,3,4,8,21,22,23,32] <| j 32 (z [.r (some 33) (.bd #[(i 0),(.slice none 0 0),(i 0),(i 0),(i 0),(i 0),(i 0),(.string ⟨#[]⟩)] []),s 8 8 33,mk 9 1] [8,9] <| .ret) (.skip))) <| q [bk 34 .add 23 1,m 23 34] [1,2,3,4,8,21,22,23]
def ir9:IR:=z [.e (some 4) (.bx 25 (.t 0)),.e (some 8) (.al 34 (.agg #[(i 0),(.slice none 0 0),(i 0),(i 0),(i 0),(i 0),(i 0),(.string ⟨#[]⟩)]))] [1,2,3,4,8] <| .seq (z [le 18 2,bk 19 .gtr 18 10000] [1,2,3,4,8,19] <| j 19 (z [.r (some 20) (.bd #[(i 0),(.slice none 0 0),(i 0),(i 0),(i 0),(i 0),(i 0),(.string ⟨#[]⟩)] []),s 8 8 20,mk 9 2] [8,9] <| .ret) (.skip)) <| .seq (z [m 21 2,le 22 21,mk 23 0] [1,2,3,4,8,21,22,23] <| .block 0 (.loop ir9L1)) <| .seq (z [bk 36 .lss 3 0,m' 36 false 38 3,bk' 36 false 39 .gtr 38 1048576,u 40 36 39] [1,2,3,4,8,40] <| j 40 (z [.r (some 41) (.bd #[(i 0),(.slice none 0 0),(i 0),(i 0),(i 0),(i 0),(i 0),(.string ⟨#[]⟩)] []),s 8 8 41,mk 9 1] [8,9] <| .ret) (.skip)) <| .seq (z [ln 42 2 4,c 43 16 [42],m 12 43] [1,2,3,4,8,12] <| z [bk 45 .neq 12 0] [1,2,3,4,8,12,45] <| j 45 (z [.r (some 46) (.bd #[(i 0),(.slice none 0 0),(i 0),(i 0),(i 0),(i 0),(i 0),(.string ⟨#[]⟩)] []),s 8 8 46,m 9 12] [8,9] <| .ret) (.skip)) <| z [ln 49 2 4,c 51 24 [49,1],ex 52 0 51,ex 53 1 51,m 13 52,m 14 53] [1,2,3,4,8,13,14] <| .seq (z [no 55 14] [1,2,3,4,8,13,55] <| j 55 (z [.r (some 56) (.bd #[(i 0),(.slice none 0 0),(i 0),(i 0),(i 0),(i 0),(i 0),(.string ⟨#[]⟩)] []),s 8 8 56,mk 9 100] [8,9] <| .ret) (.skip)) <| z [ln 57 2 4,c 59 25 [57,3],m 15 59] [1,2,8,13,15] <| z [.r (some 63) (.bd #[(i 0),(.string ⟨#[]⟩),(i 0),(.slice none 0 0),(.slice none 0 0),(.slice none 0 0),(.slice none 0 0)] [(0,1,(k 3)),(1,1,(.t 1))]),.e (some 64) (.bx 47 (.t 63)),.e (some 65) (.call 26 [(.t 15),(.t 64),(.c (.pointer none))]),ex 66 0 65,ex 67 1 65,m 16 66,m 14 67] [2,8,13,14,15,16] <| .seq (z [m' 14 true 70 13,a 71 14 70] [2,8,14,15,16,71] <| j 71 (q [c 76 28 [2],.r (some 77) (.bd #[.nilIface] [(0,1,(.t 76))]),.e (some 78) (.bx 87 (.t 77)),c 79 27 [15,16,78],ex 80 0 79,ex 81 1 79,m 16 80,m 14 81] [8,14,15,16]) (.skip)) <| .seq (z [m 82 14] [8,15,16,82] <| j 82 (q [c 85 29 [15,16]] [8,15]) (.skip)) <| z [n 87 15,f 88 0 87,ln 89 8 88,s 8 8 89,mk 9 0] [8,9] <| .ret
theorem fit9:Fits Tryz.prog 9 4 (hOf Tryz.f9 ir9) ir9 [.n 8 8,.t 9] 90:=.m Tryz.f9 _
def ir13:IR:=z [.e (some 0) (.al 42 (.agg #[(i 0),(.string ⟨#[]⟩),(.slice none 0 0)]))] [0] <| z [.r (some 1) (.bd #[(i 0),(.string ⟨#[]⟩),(.slice none 0 0)] [(0,1,(k 1))]),s 3 0 1] [0] <| .ret
theorem fit13:Fits Tryz.prog 13 0 (hOf Tryz.f13 ir13) ir13 [.n 0 3] 2:=.m Tryz.f13 _
def ir14:IR:=z [.e (some 4) (.bx 47 (.t 1)),.e (some 5) (.bx 47 (.t 2)),.e (some 6) (.al 47 (.agg #[(i 0),(.string ⟨#[]⟩),(i 0),(.slice none 0 0),(.slice none 0 0),(.slice none 0 0),(.slice none 0 0)]))] [0,4,5,6] <| z [ln 8 7 4,ln 9 7 5,.e (some 10) (.bs 47 2 #[(i 0),(.string ⟨#[]⟩),(i 0),(.slice none 0 0),(.slice none 0 0),(.slice none 0 0),(.slice none 0 0),(i 0),(.string ⟨#[]⟩),(i 0),(.slice none 0 0),(.slice none 0 0),(.slice none 0 0),(.slice none 0 0)] [(0,7,(.t 8)),(7,7,(.t 9))]),.r (some 11) (.bd #[(i 0),(.string ⟨#[]⟩),(i 0),(.slice none 0 0),(.slice none 0 0),(.slice none 0 0),(.slice none 0 0)] [(0,1,(k 9)),(1,1,(.t 0)),(4,1,(.t 10))]),s 7 6 11] [6] <| .ret
theorem fit14:Fits Tryz.prog 14 3 (hOf Tryz.f14 ir14) ir14 [.n 6 7] 12:=.m Tryz.f14 _
def ir15:IR:=z [.e (some 2) (.al 47 (.agg #[(i 0),(.string ⟨#[]⟩),(i 0),(.slice none 0 0),(.slice none 0 0),(.slice none 0 0),(.slice none 0 0)]))] [0,2] <| z [.r (some 4) (.bd #[(i 0),(.string ⟨#[]⟩),(i 0),(.slice none 0 0),(.slice none 0 0),(.slice none 0 0),(.slice none 0 0)] [(0,1,(k 2)),(2,1,(.t 0))]),s 7 2 4] [2] <| .ret
theorem fit15:Fits Tryz.prog 15 1 (hOf Tryz.f15 ir15) ir15 [.n 2 7] 5:=.m Tryz.f15 _
def ir16:IR:=z [.e (some 1) (.bx 25 (.t 0))] [1] <| z [ln 6 2 1,c 7 31 [6],ex 8 0 7,ex 9 1 7,m 4 9] [4] <| z [m 2 4] [2] <| .ret
theorem fit16:Fits Tryz.prog 16 1 (hOf Tryz.f16 ir16) ir16 [.t 2] 11:=.m Tryz.f16 _
def ir17:IR:=z [] [0,1,2] <| z [c 11 13 [],c 14 15 [1],c 16 15 [2],c 17 14 [0,14,16],c 18 23 [11,17],.e (some 19) (.call 9 [(.t 18),(.c (.string ⟨#[109]⟩)),(.c (.slice none 0 0)),(k 20)]),ex 20 0 19,ex 21 1 19,.e (some 8) (.al 34 (.agg #[(i 0),(.slice none 0 0),(i 0),(i 0),(i 0),(i 0),(i 0),(.string ⟨#[]⟩)])),s 8 8 20,m 9 21] [8,9] <| .seq (z [bk 23 .neq 9 0,f' 23 false 25 0 8,l' 23 false 26 25,bk' 23 false 27 .neq 26 2,u 28 23 27,f' 28 false 30 1 8,l' 28 false 31 30,le' 28 false 32 31,bk' 28 false 33 .neq 32 1,u 34 28 33,f' 34 false 36 1 8,l' 34 false 37 36,.gr 34 false (some 38) (.ia 2 (.t 37) (k 0)),f' 34 false 39 0 38,l' 34 false 40 39,.gr 34 false (some 41) (.bi .neq (.t 40) (.c (.string ⟨#[]⟩))),u 42 34 41] [8,42] <| j 42 (z [mk 6 0,.r (some 7) (.mv (.c (.bool false)))] [6,7] <| .ret) (.skip)) <| z [f 43 1 8,l 44 43,.r (some 45) (.ia 2 (.t 44) (k 0)),f 46 1 45,l 47 46,m 6 47,.r (some 7) (.mv (.c (.bool true)))] [6,7] <| .ret
theorem fit17:Fits Tryz.prog 17 3 (hOf Tryz.f17 ir17) ir17 [.t 6,.t 7] 48:=.m Tryz.f17 _
def ir18L1:IR:=.seq (z [bk 32 .lss 7 6] [0,1,5,6,7,32] <| j 32 (.skip) ((.exit 0))) <| .seq (.block 1 (.seq (.dr (r 0 36 (.bd #[(i 0),(.string ⟨#[]⟩),(.slice none 0 0)] [(0,1,(k 4)),(1,1,(.c (.string ⟨#[66,111,111,108]⟩)))]) <| r 1 37 (.mv (.t 5)) <| r 2 38 (.mv (.t 7)) <| r 3 39 (.ia 1 (.t 37) (.t 38)) <| r 4 40 (.l1 (.t 39)) <| r 5 41 (.mv (.t 0)) <| r 7 43 (.mv (.t 1)) <| .e2 6 (some 42) (.call 15 [(.t 41)]) [4] (.e2 8 (some 44) (.call 15 [(.t 43)]) [4] (.e2 9 (some 45) (.call 14 [(.t 40),(.t 42),(.t 44)]) [] (.e2 10 (some 46) (.call 23 [(.t 36),(.t 45)]) [] (.e2 11 (some 47) (.call 9 [(.t 46),(.c (.string ⟨#[109]⟩)),(.c (.slice none 0 0)),(k 20)]) [] (r 12 35 (.mv (.t 47)) <| r 13 48 (.ex 0 (.t 35)) <| r 14 49 (.ex 1 (.t 35)) <| .e 15 none (some 8) (.al 34 (.agg #[(i 0),(.slice none 0 0),(i 0),(i 0),(i 0),(i 0),(i 0),(.string ⟨#[]⟩)])) [4] <| .e 16 none none (.st 8 (.t 8) (.t 48)) [] <| r 17 9 (.mv (.t 49)) <| .nil) 15 (some 8) (.al 34 (.agg #[(i 0),(.slice none 0 0),(i 0),(i 0),(i 0),(i 0),(i 0),(.string ⟨#[]⟩)])) [4]
   (.e 11 none (some 47) (.call 9 [(.t 46),(.c (.string ⟨#[109]⟩)),(.c (.slice none 0 0)),(k 20)]) [] <| r 12 35 (.mv (.t 47)) <| r 13 48 (.ex 0 (.t 35)) <| r 14 49 (.ex 1 (.t 35)) <| .e 16 none none (.st 8 (.t 8) (.t 48)) [] <| r 17 9 (.mv (.t 49)) <| .nil)) 15 (some 8) (.al 34 (.agg #[(i 0),(.slice none 0 0),(i 0),(i 0),(i 0),(i 0),(i 0),(.string ⟨#[]⟩)])) [4]
   (.e 10 none (some 46) (.call 23 [(.t 36),(.t 45)]) [] <| .e 11 none (some 47) (.call 9 [(.t 46),(.c (.string ⟨#[109]⟩)),(.c (.slice none 0 0)),(k 20)]) [] <| r 12 35 (.mv (.t 47)) <| r 13 48 (.ex 0 (.t 35)) <| r 14 49 (.ex 1 (.t 35)) <| .e 16 none none (.st 8 (.t 8) (.t 48)) [] <| r 17 9 (.mv (.t 49)) <| .nil)) 15 (some 8) (.al 34 (.agg #[(i 0),(.slice none 0 0),(i 0),(i 0),(i 0),(i 0),(i 0),(.string ⟨#[]⟩)])) [4]
   (.e 9 none (some 45) (.call 14 [(.t 40),(.t 42),(.t 44)]) [] <| .e 10 none (some 46) (.call 23 [(.t 36),(.t 45)]) [] <| .e 11 none (some 47) (.call 9 [(.t 46),(.c (.string ⟨#[109]⟩)),(.c (.slice none 0 0)),(k 20)]) [] <| r 12 35 (.mv (.t 47)) <| r 13 48 (.ex 0 (.t 35)) <| r 14 49 (.ex 1 (.t 35)) <| .e 16 none none (.st 8 (.t 8) (.t 48)) [] <| r 17 9 (.mv (.t 49)) <| .nil)) 15 (some 8) (.al 34 (.agg #[(i 0),(.slice none 0 0),(i 0),(i 0),(i 0),(i 0),(i 0),(.string ⟨#[]⟩)])) [4]
   (.e 8 none (some 44) (.call 15 [(.t 43)]) [4] <| .e 9 none (some 45) (.call 14 [(.t 40),(.t 42),(.t 44)]) [] <| .e 10 none (some 46) (.call 23 [(.t 36),(.t 45)]) [] <| .e 11 none (some 47) (.call 9 [(.t 46),(.c (.string ⟨#[109]⟩)),(.c (.slice none 0 0)),(k 20)]) [] <| r 12 35 (.mv (.t 47)) <| r 13 48 (.ex 0 (.t 35)) <| r 14 49 (.ex 1 (.t 35)) <| .e 16 none none (.st 8 (.t 8) (.t 48)) [] <| r 17 9 (.mv (.t 49)) <| .nil)) 15 (some 8) (.al 34 (.agg #[(i 0),(.slice none 0 0),(i 0),(i 0),(i 0),(i 0),(i 0),(.string ⟨#[]⟩)])) [4]
   (.e 6 none (some 42) (.call 15 [(.t 41)]) [4] <| .e 8 none (some 44) (.call 15 [(.t 43)]) [4] <| .e 9 none (some 45) (.call 14 [(.t 40),(.t 42),(.t 44)]) [] <| .e 10 none (some 46) (.call 23 [(.t 36),(.t 45)]) [] <| .e 11 none (some 47) (.call 9 [(.t 46),(.c (.string ⟨#[109]⟩)),(.c (.slice none 0 0)),(k 20)]) [] <| r 12 35 (.mv (.t 47)) <| r 13 48 (.ex 0 (.t 35)) <| r 14 49 (.ex 1 (.t 35)) <| .e 16 none none (.st 8 (.t 8) (.t 48)) [] <| r 17 9 (.mv (.t 49)) <| .nil)) [0,1,5,6,7,8,9]) <| z [.r (some 10) (.mv (.c (.string ⟨#[70,97,108,115,101]⟩)))] [0,1,5,6,7,8,9,10] <| .seq (z [ia 52 1 6 7,l 53 52] [0,1,5,6,7,8,9,10,53] <| j 53 (q [.r (some 10) (.mv (.c (.string ⟨#[84,114,117,101]⟩)))] [0,1,5,6,7,8,9,10]) (.skip)) <| z [bk 55 .neq 9 0,f' 55 false 57 0 8,l' 55 false 58 57,bk' 55 false 59 .neq 58 2,u 60 55 59,f' 60 false 62 1 8,l' 60 false 63 62,le' 60 false 64 63,bk' 60 false 65 .neq 64 1,u 66 60 65,f' 66 false 68 1 8,l' 66 false 69 68,.gr 66 false (some 70) (.ia 2 (.t 69) (k 0)),ln' 66 false 71 2 70,m' 66 false 72 10,.gr 66 false (some 73) (.bd #[(.string ⟨#[]⟩),(i 0)] [(0,1,(.t 72))]),.gr 66 false (some 74) (.eqa true [(0,.str),(1,.int)] (.t 71) (.t 73)),u 75 66 74] [0,1,5,6,7,75] <| j 75 (z [.r (some 4) (.mv (.c (.bool false)))] [4] <| .ret) (.skip))) <| q [bk 34 .add 7 1,m 7 34] [0,1,5,6,7]
def ir18:IR:=z [] [0,1] <| z [.e (some 11) (.bs 9 6 #[(.string ⟨#[]⟩),(.string ⟨#[]⟩),(.string ⟨#[]⟩),(.string ⟨#[]⟩),(.string ⟨#[]⟩),(.string ⟨#[]⟩)] [(0,1,(.c (.string ⟨#[61,61]⟩))),(1,1,(.c (.string ⟨#[47,61]⟩))),(2,1,(.c (.string ⟨#[60]⟩))),(3,1,(.c (.string ⟨#[60,61]⟩))),(4,1,(.c (.string ⟨#[62]⟩))),(5,1,(.c (.string ⟨#[62,61]⟩)))]),m 5 11] [0,1,5] <| z [bi 14 .eql 0 1,bi 17 .neq 0 1,bi 20 .lss 0 1,bi 23 .leq 0 1,bi 26 .gtr 0 1,bi 29 .geq 0 1,.e (some 30) (.bs 4 6 #[(.bool false),(.bool false),(.bool false),(.bool false),(.bool false),(.bool false)] [(0,1,(.t 14)),(1,1,(.t 17)),(2,1,(.t 20)),(3,1,(.t 23)),(4,1,(.t 26)),(5,1,(.t 29))]),m 6 30] [0,1,5,6] <| .seq (z [mk 7 0] [0,1,5,6,7] <| .block 0 (.loop ir18L1)) <| z [.r (some 4) (.mv (.c (.bool true)))] [4] <| .ret
theorem fit18:Fits Tryz.prog 18 2 (hOf Tryz.f18 ir18) ir18 [.t 4] 76:=.m Tryz.f18 _
def ir23:IR:=z [.e (some 2) (.bx 42 (.t 0)),.e (some 3) (.bx 47 (.t 1)),.e (some 4) (.al 25 (.agg #[(.slice none 0 0),(.slice none 0 0)]))] [2,3,4] <| z [ln 5 3 2,ln 6 7 3,.r (some 7) (.bd #[(.string ⟨#[]⟩),(.slice none 0 0),(i 0),(.string ⟨#[]⟩),(.slice none 0 0),(i 0),(.string ⟨#[]⟩),(i 0),(.slice none 0 0),(.slice none 0 0),(.slice none 0 0),(.slice none 0 0)] [(0,1,(.c (.string ⟨#[109]⟩))),(2,3,(.t 5)),(5,7,(.t 6))]),.e (some 8) (.bs 49 1 #[(.string ⟨#[]⟩),(.slice none 0 0),(i 0),(.string ⟨#[]⟩),(.slice none 0 0),(i 0),(.string ⟨#[]⟩),(i 0),(.slice none 0 0),(.slice none 0 0),(.slice none 0 0),(.slice none 0 0)] [(0,12,(.t 7))]),.r (some 9) (.bd #[(.slice none 0 0),(.slice none 0 0)] [(1,1,(.t 8))]),s 2 4 9] [4] <| .ret
theorem fit23:Fits Tryz.prog 23 2 (hOf Tryz.f23 ir23) ir23 [.n 4 2] 10:=.m Tryz.f23 _
def ir24L1:IR:=z [bi 14 .lss 13 12] [1,2,11,12,13,14] <| .seq (j 14 (.skip) ((.exit 0))) <| .seq (.block 1 (z [ia 15 12 11 13,ln 16 12 15,.e (some 7) (.al 49 (.agg #[(.string ⟨#[]⟩),(.slice none 0 0),(i 0),(.string ⟨#[]⟩),(.slice none 0 0),(i 0),(.string ⟨#[]⟩),(i 0),(.slice none 0 0),(.slice none 0 0),(.slice none 0 0),(.slice none 0 0)])),s 12 7 16] [1,2,7,11,12,13] <| .seq (z [f 17 0 7,l 18 17,bi 20 .neq 18 1] [1,2,7,11,12,13,20] <| j 20 ((.exit 1)) (.skip)) <| .seq (z [f 21 1 7,l 22 21,le 23 22,bk 24 .gtr 23 0] [2,7,24] <| j 24 (z [.r (some 4) (.mv (.c (.bool false))),.r (some 5) (.mv (.c (.bool false)))] [4,5] <| .ret) (.skip)) <| z [f 25 2 7,ln 26 3 25,.e (some 8) (.al 42 (.agg #[(i 0),(.string ⟨#[]⟩),(.slice none 0 0)])),s 3 8 26,.r (some 9) (.mv (.c (.bool false)))] [2,8,9] <| .seq (z [f 27 0 8,l 28 27,bk 29 .eql 28 3,f' 29 true 31 2 8,l' 29 true 32 31,.gr 29 true (some 33) (.ia 3 (.t 32) (k 0)),ln' 29 true 34 3 33,.ge 29 true (some 35) (.call 33 [(.t 34)]),a 36 29 35] [2,8,9,36] <| j 36 (q [f 37 2 8,l 38 37,.r (some 39) (.ia 3 (.t 38) (k 1)),ln 40 3 39,s 3 8 40,.r (some 9) (.mv (.c (.bool true)))] [2,8,9]) (.skip)) <| z [m 41 9,ln 42 2 2,ln 43 3 8,.e (some 44) (.raw ⟨(some 44),(.makeMap 90 none),90, "meaning.go:53",#[],none⟩),c 45 34 [42,43,44],m 4 41,m 5 45] [4,5] <| .ret)) <| q [bk 46 .add 13 1,m 13 46] [1,2,11,12,13]
def ir24:IR:=z [.e (some 2) (.bx 25 (.t 0))] [1,2] <| .seq (z [f 10 1 2,l 11 10,le 12 11,mk 13 0] [1,2,11,12,13] <| .block 0 (.loop ir24L1)) <| z [.r (some 4) (.mv (.c (.bool false))),.r (some 5) (.mv (.c (.bool false)))] [4,5] <| .ret
theorem fit24:Fits Tryz.prog 24 2 (hOf Tryz.f24 ir24) ir24 [.t 4,.t 5] 47:=.m Tryz.f24 _
def ir25L1:IR:=z [bi 21 .lss 20 19] [2,5,19,20,21] <| .seq (j 21 (.skip) ((.exit 0))) <| .seq (.block 1 (z [m 6 20] [2,5,6,19,20] <| .dr (r 0 23 (.mv (.t 5)) <| r 1 24 (.nn (.t 23)) <| r 2 25 (.fa 9 (.t 24)) <| r 3 26 (.l1 (.t 25)) <| r 4 27 (.fa 1 (.t 2)) <| r 5 28 (.l1 (.t 27)) <| r 6 29 (.mv (.t 6)) <| r 7 30 (.ia 12 (.t 28) (.t 29)) <| r 8 31 (.fa 0 (.t 30)) <| r 9 32 (.l1 (.t 31)) <| r 10 33 (.fa 1 (.t 2)) <| r 11 34 (.l1 (.t 33)) <| r 12 35 (.mv (.t 6)) <| r 13 36 (.ia 12 (.t 34) (.t 35)) <| r 14 37 (.fa 5 (.t 36)) <| r 15 38 (.bd #[(.pointer none),(.pointer none)] [(0,1,(.t 37))]) <| .e 16 none (some 39) (.bx 108 (.t 38)) [3,5,9] <| r 17 40 (.mi 105 (.t 39)) <| r 18 41 (.bd #[.nilIface] [(0,1,(.t 40))]) <| .e 19 none (some 42) (.bx 87 (.t 41)) [3,5,9] <| .e 20 none none (.raw ⟨none,(.mapUpdate 89 (.tmp 26) (.tmp 32) (.tmp 42)),0, "run.go:98",#[⟨3,.data⟩,⟨9,.data⟩,⟨19,.data⟩,⟨0,.phase⟩,⟨1,.phase⟩,⟨2,.phase⟩,⟨3,.phase⟩,⟨4,.phase⟩,⟨5,.phase⟩,⟨6,.phase⟩,⟨7,.phase⟩,⟨8,.phase⟩,⟨9,.phase⟩,⟨10,.phase⟩,⟨11,.phase⟩,⟨12,.phase⟩,⟨13,.phase⟩,⟨14,.phase⟩,⟨15,.phase⟩,⟨16,.phase⟩,⟨17,.phase⟩,⟨18,.phase⟩,⟨19,.phase⟩],none⟩) [] <| .nil) [2,5,19,20])) <| q [bk 43 .add 20 1,m 20 43] [2,5,19,20]
def ir25L2:IR:=z [bi 55 .lss 54 53] [5,45,46,47,52,53,54,55] <| .seq (j 55 (.skip) ((.exit 4))) <| .seq (.block 5 (z [ia 56 2 52 54,ln 57 2 56,.e (some 10) (.al 66 (.agg #[(.string ⟨#[]⟩),(.slice none 0 0)])),s 2 10 57] [5,10,45,46,47,52,53,54] <| q' [m 58 5,n 59 58,f 60 10 59,l 61 60,f 62 0 10,l 63 62,f 64 1 10,l 65 64,le 66 65,.e none (.raw ⟨none,(.mapUpdate 90 (.tmp 61) (.tmp 63) (.tmp 66)),0, "run.go:102",#[⟨3,.data⟩,⟨5,.data⟩,⟨8,.data⟩,⟨0,.phase⟩,⟨1,.phase⟩,⟨2,.phase⟩,⟨3,.phase⟩,⟨4,.phase⟩,⟨5,.phase⟩,⟨6,.phase⟩,⟨7,.phase⟩,⟨8,.phase⟩],none⟩)] [5,45,46,47,52,53,54])) <| q [bk 67 .add 54 1,m 54 67] [5,45,46,47,52,53,54]
def ir25L3:IR:=z [bi 48 .lss 47 46] [5,45,46,47,48] <| .seq (j 48 (.skip) ((.exit 2))) <| .seq (.block 3 (z [ia 49 3 45 47,ln 50 3 49,.e (some 8) (.al 63 (.agg #[(.string ⟨#[]⟩),(.slice none 0 0),(.slice none 0 0)])),s 3 8 50] [5,8,45,46,47] <| z [f 51 2 8,l 52 51,le 53 52,mk 54 0] [5,45,46,47,52,53,54] <| .block 4 (.loop ir25L2))) <| q [bk 68 .add 47 1,m 47 68] [5,45,46,47]
def ir25:IR:=z [.e (some 2) (.bx 25 (.t 0))] [1,2] <| z [m 11 1,.e (some 12) (.raw ⟨(some 12),(.makeMap 89 none),89, "run.go:96",#[],none⟩),.e (some 13) (.raw ⟨(some 13),(.makeMap 90 none),90, "run.go:96",#[],none⟩),.e none (.raw ⟨none,(.insert 90 (.tmp 13) (.const (.string ⟨#[67,111,110,115]⟩)) (.const (i 2))),0, "run.go:96",#[⟨2,.data⟩],none⟩),.e none (.raw ⟨none,(.insert 90 (.tmp 13) (.const (.string ⟨#[80,97,105,114]⟩)) (.const (i 2))),0, "run.go:96",#[⟨2,.data⟩],none⟩),.e none (.raw ⟨none,(.insert 90 (.tmp 13) (.const (.string ⟨#[84,114,105,112,108,101]⟩)) (.const (i 3))),0, "run.go:96",#[⟨2,.data⟩],none⟩),m 14 13,.r (some 15) (.bd #[(i 0),(.slice none 0 0),(i 0),(i 0),(i 0),(i 0),(i 0),(.string ⟨#[]⟩),(i 0),(.map none),(.map none),(.slice none 0 0)] [(8,1,(.t 11)),(9,1,(.t 12)),(10,1,(.t 14))]),.e (some 16) (.bx 93 (.t 15)),m 5 16] [2,5] <| .seq (z [f 17 1 2,l 18 17,le 19 18,mk 20 0] [2,5,19,20] <| .block 0 (.loop ir25L1)) <| .seq (z [f 44 0 2,l 45 44,le 46 45,mk 47 0] [5,45,46,47] <| .block 2 (.loop ir25L3)) <| z [m 4 5] [4] <| .ret
theorem fit25:Fits Tryz.prog 25 2 (hOf Tryz.f25 ir25) ir25 [.t 4] 70:=.m Tryz.f25 _
def ir26:IR:=z [] [0,1,2] <| z [c 11 35 [0,1,2],ex 12 0 11,ex 13 1 11,m 6 12,m 7 13] [6,7] <| .ret
theorem fit26:Fits Tryz.prog 26 3 (hOf Tryz.f26 ir26) ir26 [.t 6,.t 7] 14:=.m Tryz.f26 _
def ir27:IR:=z [] [0,1,2] <| z [c 16 36 [0,1,2],ex 17 0 16,ex 18 1 16,ex 19 2 16,ex 20 3 16,m 8 17,m 9 18,m 10 19,m 11 20] [0,8,9,10,11] <| .seq (z [no 22 11,m' 22 false 24 8,.gr 22 false (some 25) (.eq .ptr false (.t 24) (.c (.pointer none))),u 26 22 25] [0,8,9,10,11,26] <| j 26 (z [m 6 10,m 7 11] [6,7] <| .ret) (.skip)) <| z [c 32 35 [0,8,9],ex 33 0 32,ex 34 1 32,m 6 33,m 7 34] [6,7] <| .ret
theorem fit27:Fits Tryz.prog 27 3 (hOf Tryz.f27 ir27) ir27 [.t 6,.t 7] 35:=.m Tryz.f27 _
def ir28L1:IR:=.seq (z [bk 12 .geq 4 0] [0,3,4,12] <| j 12 (.skip) ((.exit 0))) <| .seq (.block 1 (q [ia 17 1 0 4,l 18 17,.r (some 19) (.mi 115 (.t 18)),.r (some 20) (.bd #[.nilIface] [(0,1,(.t 19))]),.e (some 21) (.bx 87 (.t 20)),.r (some 23) (.bd #[.nilIface] [(0,1,(.t 3))]),.e (some 24) (.bx 87 (.t 23)),.e (some 25) (.bs 82 2 #[(.pointer none),(.pointer none)] [(0,1,(.t 21)),(1,1,(.t 24))]),.r (some 26) (.bd #[(.string ⟨#[]⟩),(.slice none 0 0)] [(0,1,(.c (.string ⟨#[67,111,110,115]⟩))),(1,1,(.t 25))]),.e (some 27) (.bx 114 (.t 26)),.r (some 28) (.mi 111 (.t 27)),m 3 28] [0,3,4])) <| q [bk 14 .sub 4 1,m 4 14] [0,3,4]
def ir28:IR:=z [] [0] <| z [.r (some 5) (.bd #[(.string ⟨#[]⟩),(.slice none 0 0)] [(0,1,(.c (.string ⟨#[78,105,108]⟩)))]),.e (some 6) (.bx 114 (.t 5)),.r (some 7) (.mi 111 (.t 6)),m 3 7] [0,3] <| .seq (z [le 9 0,bk 10 .sub 9 1,m 4 10] [0,3,4] <| .block 0 (.loop ir28L1)) <| z [m 2 3] [2] <| .ret
theorem fit28:Fits Tryz.prog 28 1 (hOf Tryz.f28 ir28) ir28 [.t 2] 30:=.m Tryz.f28 _
def ir29L1:IR:=.seq (z [bk 57 .geq 7 0] [0,4,6,7,57] <| j 57 (.skip) ((.exit 3))) <| .seq (.block 4 (q [n 62 6,f 63 1 62,l 64 63,ia 66 1 64 7,l 67 66,.e (some 68) (.bs 82 1 #[(.pointer none)] [(0,1,(.t 67))]),.e (some 69) (.ap 82 1 8 #[(.pointer none)] (.t 4) (.t 68)),m 4 69] [0,4,6,7])) <| q [bk 59 .sub 7 1,m 7 59] [0,4,6,7]
def ir29L2:IR:=.block 1 (.seq (z [c 12 37 [0],no 13 12] [0,1,4,13] <| j 13 (.ret) (.skip)) <| .seq (z [m 14 1] [0,4,14] <| .block 2 (z [.e (some 15) (.raw ⟨(some 15),(.typeAssert (.tmp 14) 77 115 true),0, "meaning.go:108",#[],none⟩),ex 16 1 15,ex 17 0 15] [0,4,14,16,17] <| j 16 (z [m 5 17] [0,4,5] <| q [n 20 0,f 21 0 20,f 22 1 21,l 23 22,.r (some 25) (.bd #[(.string ⟨#[]⟩),(i 0)] [(1,1,(.t 5))]),.e (some 26) (.bs 71 1 #[(.string ⟨#[]⟩),(i 0)] [(0,2,(.t 25))]),.e (some 27) (.ap 71 2 24 #[(.string ⟨#[]⟩),(i 0)] (.t 23) (.t 26)),n 28 0,f 29 0 28,f 30 1 29,s 1 30 27] [0,4]) (z [.e (some 31) (.raw ⟨(some 31),(.typeAssert (.tmp 14) 77 111 true),0, "meaning.go:108",#[],none⟩),ex 32 1 31,ex 33 0 31] [0,4,32,33] <| j 32 (z [m 6 33] [0,4,6] <| .seq (.dr (r 0 34 (.mv (.t 0)) <| r 1 35 (.mv (.t 0)) <| r 2 36 (.nn (.t 35)) <| r 3 37 (.fa 0 (.t 36)) <| r 4 38 (.fa 1 (.t 37)) <| r 5 39 (.l1 (.t 38)) <| r 6 40 (.mv (.t 6)) <| r 7 41 (.nn (.t 40)) <| r 8 42 (.fa 0 (.t 41)) <| r 9 43 (.l1 (.t 42)) <| r 10 44 (.bd #[(.string ⟨#[]⟩),(i 0)] [(0,1,(.t 43))]) <| .e 11 none (some 45) (.bs 71 1 #[(.string ⟨#[]⟩),(i 0)] [(0,2,(.t 44))]) [5] <| .e 12 none (some 46) (.ap 71 2 24 #[(.string ⟨#[]⟩),(i 0)] (.t 39) (.t 45)) [] <| r 13 47 (.nn (.t 34)) <| r 14 48 (.fa 0 (.t 47)) <| r 15 49 (.fa 1 (.t 48)) <| .e 16 none none (.st 1 (.t 49) (.t 46)) [] <| .nil) [0,4,6]) <| z [n 51 6,f 52 1 51,l 53 52,le 54 53,bk 55 .sub 54 1,m 7 55] [0,4,6,7] <| .block 3 (.loop ir29L1)) (.skip)))) <| .seq (z [le 71 4,bk 72 .eql 71 0] [0,4,72] <| j 72 (z [n 74 0,f 75 0 74,f 76 0 75,.e none (.st 1 (.t 76) (k 2))] [] <| .ret) (.skip)) <| z [le 79 4,bk 80 .sub 79 1,ia 81 1 4 80,l 82 81,m 8 82] [0,4,8] <| z [le 85 4,bk 86 .sub 85 1,.r (some 87) (.sl 1 (.t 4) none (some (.t 86)) none),m 4 87] [0,4,8] <| z [c 91 38 [0,8],ex 92 0 91,ex 93 1 91,m 9 92,m 10 93] [0,4,9,10] <| .seq (z [no 95 10] [0,4,9,95] <| j 95 (.ret) (.skip)) <| q [m 1 9] [0,1,4])
def ir29:IR:=z [.r (some 4) (.mv (.c (.slice none 0 0)))] [0,1,4] <| .block 0 (.loop ir29L2)
theorem fit29:Fits Tryz.prog 29 2 (hOf Tryz.f29 ir29) ir29 [] 97:=.m Tryz.f29 _
def ir31L1:IR:=z [bi 25 .lss 24 23] [1,22,23,24,25] <| .seq (j 25 (.skip) ((.exit 0))) <| .seq (.block 1 (z [ia 26 12 22 24,ln 27 12 26,.e (some 5) (.al 49 (.agg #[(.string ⟨#[]⟩),(.slice none 0 0),(i 0),(.string ⟨#[]⟩),(.slice none 0 0),(i 0),(.string ⟨#[]⟩),(i 0),(.slice none 0 0),(.slice none 0 0),(.slice none 0 0),(.slice none 0 0)])),s 12 5 27] [1,5,22,23,24] <| z [f 28 5 5,ln 29 7 28,c 30 40 [29],bk 31 .gtr 30 4000] [1,22,23,24,31] <| j 31 (z [.r (some 2) (.mv (.c (.pointer none))),mk 3 3] [2,3] <| .ret) (.skip))) <| q [bk 32 .add 24 1,m 24 32] [1,22,23,24]
def ir31L2:IR:=z [bi 72 .lss 71 70] [1,6,8,9,42,43,44,69,70,71,72] <| .seq (j 72 (.skip) ((.exit 4))) <| .seq (.block 5 (z [ia 73 1 69 71,l 74 73,m 13 74] [1,6,8,9,13,42,43,44,69,70,71] <| .seq (z [m 75 13,c 76 45 [75],no 77 76,m 78 77,m' 78 false 79 6,n' 78 false 80 79,f' 78 false 81 3 80,l' 78 false 82 81,m' 78 false 83 13,.ge 78 false (some 84) (.raw ⟨(some 84),(.lookup 90 (.tmp 82) (.tmp 83) false),3, "check.go:147",#[⟨7,.data⟩,⟨8,.data⟩,⟨3,.guard⟩],some (3,false)⟩),bk' 78 false 85 .gtr 84 0,u 86 78 85] [1,6,8,9,13,42,43,44,69,70,71,86] <| j 86 (z [.r (some 2) (.mv (.c (.pointer none))),mk 3 82] [2,3] <| .ret) (.skip)) <| q [m 87 6,n 88 87,f 89 3 88,l 90 89,m 91 13,.e none (.raw ⟨none,(.mapUpdate 90 (.tmp 90) (.tmp 91) (.const (i 1))),0, "check.go:150",#[⟨3,.data⟩,⟨4,.data⟩,⟨0,.phase⟩,⟨1,.phase⟩,⟨2,.phase⟩,⟨3,.phase⟩,⟨4,.phase⟩],none⟩)] [1,6,8,9,42,43,44,69,70,71])) <| q [bk 92 .add 71 1,m 71 92] [1,6,8,9,42,43,44,69,70,71]
def ir31L3:IR:=z [bi 45 .lss 44 43] [1,6,42,43,44,45] <| .seq (j 45 (.skip) ((.exit 2))) <| .seq (.block 3 (z [ia 47 12 42 44,ln 48 12 47,.e (some 9) (.al 49 (.agg #[(.string ⟨#[]⟩),(.slice none 0 0),(i 0),(.string ⟨#[]⟩),(.slice none 0 0),(i 0),(.string ⟨#[]⟩),(i 0),(.slice none 0 0),(.slice none 0 0),(.slice none 0 0),(.slice none 0 0)])),m 8 44,s 12 9 48] [1,6,8,9,42,43,44] <| z [.e (some 50) (.call 43 [(.t 6),(.c (.slice none 0 0))])] [1,6,8,9,42,43,44] <| .seq (.seq (q' [m 52 6,n 53 52,f 54 2 53,l 55 54,f 56 0 9,l 57 56,.e (some 58) (.raw ⟨(some 58),(.lookup 126 (.tmp 55) (.tmp 57) true),123, "check.go:143",#[⟨3,.data⟩,⟨5,.data⟩],none⟩),m 51 58,ex 59 0 51,ex 60 1 51,m 10 59,m 11 60] [1,6,8,9,11,42,43,44]) <| z [f' 11 false 63 0 9,l' 11 false 64 63,.ge 11 false (some 65) (.call 44 [(.t 64)]),no' 11 false 66 65,u 67 11 66] [1,6,8,9,42,43,44,67] <| j 67 (z [.r (some 2) (.mv (.c (.pointer none))),mk 3 82] [2,3] <| .ret) (.skip)) <| .seq (z [f 68 1 9,l 69 68,le 70 69,mk 71 0] [1,6,8,9,42,43,44,69,70,71] <| .block 4 (.loop ir31L2)) <| .seq (z [f 94 2 9,ln 95 3 94,c 96 46 [6,95],no 97 96] [1,6,8,9,42,43,44,97] <| j 97 (z [.r (some 2) (.mv (.c (.pointer none))),mk 3 83] [2,3] <| .ret) (.skip)) <| q' [m 98 6,n 99 98,f 100 2 99,l 101 100,f 102 0 9,l 103 102,f 104 1 1,l 105 104,m 106 8,ia 107 12 105 106,.e none (.raw ⟨none,(.mapUpdate 126 (.tmp 101) (.tmp 103) (.tmp 107)),0, "check.go:155",#[⟨3,.data⟩,⟨5,.data⟩,⟨9,.data⟩,⟨0,.phase⟩,⟨1,.phase⟩,⟨2,.phase⟩,⟨3,.phase⟩,⟨4,.phase⟩,⟨5,.phase⟩,⟨6,.phase⟩,⟨7,.phase⟩,⟨8,.phase⟩,⟨9,.phase⟩],none⟩)] [1,6,42,43,44])) <| q [bk 108 .add 44 1,m 44 108] [1,6,42,43,44]
def ir31L4:IR:=z [bi 113 .lss 112 111] [6,110,111,112,113] <| .seq (j 113 (.skip) ((.exit 6))) <| .seq (.block 7 (z [ia 114 12 110 112,ln 115 12 114,.e (some 15) (.al 49 (.agg #[(.string ⟨#[]⟩),(.slice none 0 0),(i 0),(.string ⟨#[]⟩),(.slice none 0 0),(i 0),(.string ⟨#[]⟩),(i 0),(.slice none 0 0),(.slice none 0 0),(.slice none 0 0),(.slice none 0 0)])),s 12 15 115] [6,15,110,111,112] <| z [f 117 1 15,l 118 117,c 119 43 [6,118]] [6,15,110,111,112] <| z [f 122 5 15,ln 123 7 122,c 124 47 [6,123],ex 125 0 124,ex 126 1 124,.e (some 16) (.al 42 (.agg #[(i 0),(.string ⟨#[]⟩),(.slice none 0 0)])),s 3 16 125,m 17 126] [6,15,16,17,110,111,112] <| .seq (z [bk 128 .neq 17 0] [6,15,16,17,110,111,112,128] <| j 128 (z [.r (some 2) (.mv (.c (.pointer none))),m 3 17] [2,3] <| .ret) (.skip)) <| z [ln 130 3 16,f 131 2 15,ln 132 3 131,c 133 48 [130,132],no 134 133] [6,110,111,112,134] <| j 134 (z [.r (some 2) (.mv (.c (.pointer none))),mk 3 83] [2,3] <| .ret) (.skip))) <| q [bk 135 .add 112 1,m 112 135] [6,110,111,112]
def ir31:IR:=z [.e (some 1) (.bx 25 (.t 0))] [1] <| .seq (z [ln 18 2 1,c 19 39 [18],bk 20 .gtr 19 100000] [1,20] <| j 20 (z [.r (some 2) (.mv (.c (.pointer none))),mk 3 4] [2,3] <| .ret) (.skip)) <| .seq (z [f 21 1 1,l 22 21,le 23 22,mk 24 0] [1,22,23,24] <| .block 0 (.loop ir31L1)) <| z [c 33 41 [],m 6 33] [1,6] <| .seq (z [f 35 0 1,l 36 35,c 37 42 [6,36],m 7 37] [1,6,7] <| z [bk 39 .neq 7 0] [1,6,7,39] <| j 39 (z [.r (some 2) (.mv (.c (.pointer none))),m 3 7] [2,3] <| .ret) (.skip)) <| .seq (z [f 41 1 1,l 42 41,le 43 42,mk 44 0] [1,6,42,43,44] <| .block 2 (.loop ir31L3)) <| .seq (z [f 109 1 1,l 110 109,le 111 110,mk 112 0] [6,110,111,112] <| .block 6 (.loop ir31L4)) <| z [m 2 6,mk 3 0] [2,3] <| .ret
theorem fit31:Fits Tryz.prog 31 1 (hOf Tryz.f31 ir31) ir31 [.t 2,.t 3] 137:=.m Tryz.f31 _
def ir33:IR:=z [.e (some 1) (.bx 42 (.t 0))] [1] <| z [f 3 0 1,l 4 3,bk 5 .eql 4 4,f' 5 true 7 1 1,l' 5 true 8 7,.gr 5 true (some 9) (.bi .eql (.t 8) (.c (.string ⟨#[76,105,115,116]⟩))),a 10 5 9,f' 10 true 12 2 1,l' 10 true 13 12,.gr 10 true (some 14) (.ia 3 (.t 13) (k 0)),f' 10 true 15 0 14,l' 10 true 16 15,bk' 10 true 17 .eql 16 1,a 18 10 17,m 2 18] [2] <| .ret
theorem fit33:Fits Tryz.prog 33 1 (hOf Tryz.f33 ir33) ir33 [.t 2] 19:=.m Tryz.f33 _
def ir34L1:IR:=z [bi 22 .lss 21 20] [2,3,4,19,20,21,22] <| .seq (j 22 (.skip) ((.exit 0))) <| .seq (.block 1 (z [ia 23 3 19 21,ln 24 3 23,.e (some 8) (.al 42 (.agg #[(i 0),(.string ⟨#[]⟩),(.slice none 0 0)])),s 3 8 24] [2,3,4,8,19,20,21] <| z [ln 25 2 3,ln 26 3 8,c 28 34 [25,26,2],no 29 28] [2,3,4,19,20,21,29] <| j 29 (z [.r (some 6) (.mv (.c (.bool false)))] [6] <| .ret) (.skip))) <| q [bk 30 .add 21 1,m 21 30] [2,3,4,19,20,21]
def ir34L2:IR:=z [bi 67 .lss 66 65] [2,3,4,45,46,47,57,58,59,64,65,66,67] <| .seq (j 67 (.skip) ((.exit 6))) <| .seq (.block 7 (z [ia 68 3 64 66,ln 69 3 68,.e (some 14) (.al 42 (.agg #[(i 0),(.string ⟨#[]⟩),(.slice none 0 0)])),s 3 14 69] [2,3,4,14,45,46,47,57,58,59,64,65,66] <| z [ln 70 2 3,ln 71 3 14,c 73 34 [70,71,2],no 74 73] [2,3,4,45,46,47,57,58,59,64,65,66,74] <| j 74 (z [.r (some 6) (.mv (.c (.bool false)))] [6] <| .ret) (.skip))) <| q [bk 75 .add 66 1,m 66 75] [2,3,4,45,46,47,57,58,59,64,65,66]
def ir34L3:IR:=z [bi 60 .lss 59 58] [2,3,4,45,46,47,57,58,59,60] <| .seq (j 60 (.skip) ((.exit 4))) <| .seq (.block 5 (z [ia 61 2 57 59,ln 62 2 61,.e (some 12) (.al 66 (.agg #[(.string ⟨#[]⟩),(.slice none 0 0)])),s 2 12 62] [2,3,4,12,45,46,47,57,58,59] <| z [f 63 1 12,l 64 63,le 65 64,mk 66 0] [2,3,4,45,46,47,57,58,59,64,65,66] <| .block 6 (.loop ir34L2))) <| q [bk 76 .add 59 1,m 59 76] [2,3,4,45,46,47,57,58,59]
def ir34L4:IR:=z [bi 48 .lss 47 46] [2,3,4,45,46,47,48] <| .seq (j 48 (.skip) ((.exit 2))) <| .seq (.block 3 (z [ia 49 3 45 47,ln 50 3 49,.e (some 10) (.al 63 (.agg #[(.string ⟨#[]⟩),(.slice none 0 0),(.slice none 0 0)])),s 3 10 50] [2,3,4,10,45,46,47] <| .seq (z [f 51 0 10,l 52 51,f 53 1 4,l 54 53,bi 55 .neq 52 54] [2,3,4,10,45,46,47,55] <| j 55 ((.exit 3)) (.skip)) <| z [f 56 2 10,l 57 56,le 58 57,mk 59 0] [2,3,4,45,46,47,57,58,59] <| .block 4 (.loop ir34L3))) <| q [bk 77 .add 47 1,m 47 77] [2,3,4,45,46,47]
def ir34:IR:=z [.e (some 3) (.bx 25 (.t 0)),.e (some 4) (.bx 42 (.t 1))] [2,3,4] <| .seq (z [f 15 0 4,l 16 15,bk 17 .eql 16 3] [2,3,4,17] <| j 17 (z [.r (some 6) (.mv (.c (.bool false)))] [6] <| .ret) (.skip)) <| .seq (z [f 18 2 4,l 19 18,le 20 19,mk 21 0] [2,3,4,19,20,21] <| .block 0 (.loop ir34L1)) <| .seq (z [f 31 0 4,l 32 31,bk 33 .neq 32 4,m 34 33,m' 34 false 35 2,f' 34 false 36 1 4,l' 34 false 37 36,.ge 34 false (some 38) (.raw ⟨(some 38),(.lookup 90 (.tmp 35) (.tmp 37) false),3, "meaning.go:73",#[⟨4,.data⟩,⟨6,.data⟩,⟨3,.guard⟩],some (3,false)⟩),bk' 34 false 39 .gtr 38 0,u 40 34 39] [2,3,4,40] <| j 40 (z [.r (some 6) (.mv (.c (.bool true)))] [6] <| .ret) (.skip)) <| z [m 41 2,f 42 1 4,l 43 42,.e none (.raw ⟨none,(.mapUpdate 90 (.tmp 41) (.tmp 43) (.const (i 1))),0, "meaning.go:76",#[⟨0,.data⟩,⟨2,.data⟩,⟨0,.phase⟩,⟨1,.phase⟩,⟨2,.phase⟩],none⟩)] [2,3,4] <| .seq (z [f 44 0 3,l 45 44,le 46 45,mk 47 0] [2,3,4,45,46,47] <| .block 2 (.loop ir34L4)) <| z [.r (some 6) (.mv (.c (.bool true)))] [6] <| .ret
theorem fit34:Fits Tryz.prog 34 3 (hOf Tryz.f34 ir34) ir34 [.t 6] 78:=.m Tryz.f34 _
def ir35L1:IR:=.block 1 (.seq (z [.r (some 12) (.eq .ptr true (.t 1) (.c (.pointer none)))] [0,1,2,8,12] <| j 12 (.seq (z [c 14 37 [0],no 15 14] [0,1,2,15] <| j 15 (z [.r (some 6) (.mv (.c .nilIface)),.r (some 7) (.mv (.c (.bool false)))] [6,7] <| .ret) (.skip)) <| .seq (z [c 20 49 [0,1,2],ex 21 0 20,ex 22 1 20,ex 23 2 20,ex 24 3 20,m 1 21,m 2 22,m 8 23,m 9 24] [0,1,2,8,9] <| z [no 26 9] [0,1,2,8,26] <| j 26 (z [.r (some 6) (.mv (.c .nilIface)),.r (some 7) (.mv (.c (.bool false)))] [6,7] <| .ret) (.skip)) <| (.exit 1)) (.skip)) <| .seq (z [n 28 0,f 29 11 28,l 30 29,le 31 30,bk 32 .eql 31 0] [0,8,32] <| j 32 (z [m 6 8,.r (some 7) (.mv (.c (.bool true)))] [6,7] <| .ret) (.skip)) <| .seq (.dr (r 0 34 (.mv (.t 0)) <| r 1 35 (.nn (.t 34)) <| r 2 36 (.fa 11 (.t 35)) <| r 3 37 (.l1 (.t 36)) <| r 4 38 (.mv (.t 0)) <| r 5 39 (.nn (.t 38)) <| r 6 40 (.fa 11 (.t 39)) <| r 7 41 (.l1 (.t 40)) <| r 8 42 (.len (.t 41)) <| r 9 43 (.bi .sub (.t 42) (k 1)) <| r 10 44 (.ia 5 (.t 37) (.t 43)) <| r 11 45 (.ln 5 (.t 44)) <| .e 12 none (some 10) (.al 136 (.agg #[(i 0),(.pointer none),(.pointer none),(.pointer none),(i 0)])) [3,7,11] <| .e 13 none none (.st 5 (.t 10) (.t 45)) [] <| .nil) [0,8,10]) <| .seq (q' [m 46 0,m 47 0,n 48 47,f 49 11 48,l 50 49,m 51 0,n 52 51,f 53 11 52,l 54 53,le 55 54,bk 56 .sub 55 1,.r (some 57) (.sl 5 (.t 50) none (some (.t 56)) none),n 58 46,f 59 11 58,s 1 59 57] [0,8,10]) <| z [ln 62 5 10,c 64 50 [0,62,8],ex 65 0 64,ex 66 1 64,ex 67 2 64,ex 68 3 64,m 1 65,m 2 66,m 8 67,m 9 68] [0,1,2,8,9] <| z [no 70 9] [0,1,2,8,70] <| j 70 (z [.r (some 6) (.mv (.c .nilIface)),.r (some 7) (.mv (.c (.bool false)))] [6,7] <| .ret) (.skip))
def ir35:IR:=z [] [0,1,2] <| z [.r (some 8) (.mv (.c .nilIface))] [0,1,2,8] <| z [] [0,1,2,8] <| .block 0 (.loop ir35L1)
theorem fit35:Fits Tryz.prog 35 3 (hOf Tryz.f35 ir35) ir35 [.t 6,.t 7] 71:=.m Tryz.f35 _
def ir36:IR:=z [] [0,1,2] <| .seq (z [m 13 1] [0,2,13] <| .block 0 (z [.e (some 14) (.raw ⟨(some 14),(.typeAssert (.tmp 13) 77 138 true),0, "run.go:252",#[],none⟩),ex 15 1 14,ex 16 0 14] [0,2,13,15,16] <| j 15 (z [m 10 16] [2,10] <| .seq (.dr (r 0 17 (.mv (.t 10)) <| r 1 18 (.nn (.t 17)) <| r 2 19 (.fa 0 (.t 18)) <| r 3 20 (.l1 (.t 19)) <| r 4 21 (.nn (.t 20)) <| r 5 22 (.fa 4 (.t 21)) <| r 6 23 (.l1 (.t 22)) <| r 7 24 (.ia 7 (.t 23) (k 0)) <| r 8 25 (.mv (.t 10)) <| r 9 26 (.nn (.t 25)) <| r 10 27 (.fa 0 (.t 26)) <| r 11 28 (.l1 (.t 27)) <| r 12 29 (.nn (.t 28)) <| r 13 30 (.fa 5 (.t 29)) <| r 14 31 (.l1 (.t 30)) <| r 15 32 (.ia 11 (.t 31) (k 0)) <| r 16 33 (.fa 0 (.t 32)) <| r 17 34 (.l1 (.t 33)) <| r 18 35 (.mv (.t 2)) <| r 19 36 (.mv (.t 10)) <| r 20 37 (.nn (.t 36)) <| r 21 38 (.fa 1 (.t 37)) <| r 22 39 (.l1 (.t 38)) <| r 23 40 (.bd #[(.string ⟨#[]⟩),(.pointer none),(.pointer none)] [(0,1,(.t 34)),(1,1,(.t 35)),(2,1,(.t 39))]) <| r 25 6 (.mv (.t 24)) <| .e 24 none (some 41) (.bx 141 (.t 40)) [3,6] <| r 26 7 (.mv (.t 41)) <| r 27 8 (.mv (.c .nilIface)) <| r 28 9 (.mv (.c (.bool true))) <| .nil) [6,7,8,9]) <| .ret) (z [.e (some 42) (.raw ⟨(some 42),(.typeAssert (.tmp 13) 77 142 true),0, "run.go:252",#[],none⟩),ex 43 1 42,ex 44 0 42] [0,2,43,44] <| j 43 (z [m 11 44] [2,11] <| z [n 46 11,f 47 2 46,l 48 47,.e (some 49) (.ap 82 1 8 #[(.pointer none)] (.c (.slice none 0 0)) (.t 48)),.e (some 51) (.bs 82 1 #[(.pointer none)] [(0,1,(.t 2))]),.e (some 52) (.ap 82 1 8 #[(.pointer none)] (.t 49) (.t 51)),m 12 52] [11,12] <| .seq (q' [m 53 11,n 54 53,f 55 0 54,l 56 55,m 57 11,n 58 57,f 59 1 58,l 60 59,bk 61 .sub 60 1,m 62 12,c 63 51 [56,61,62],.r (some 6) (.mv (.c (.pointer none))),.r (some 7) (.mv (.c (.pointer none))),m 8 63,.r (some 9) (.mv (.c (.bool true)))] [6,7,8,9]) <| .ret) (.skip)))) <| z [.e (some 65) (.call 52 [(.t 0),(k 5)])] [] <| z [.r (some 6) (.mv (.c (.pointer none))),.r (some 7) (.mv (.c (.pointer none))),.r (some 8) (.mv (.c .nilIface)),.r (some 9) (.mv (.c (.bool false)))] [6,7,8,9] <| .ret
theorem fit36:Fits Tryz.prog 36 3 (hOf Tryz.f36 ir36) ir36 [.t 6,.t 7,.t 8,.t 9] 66:=.m Tryz.f36 _
def ir37:IR:=z [] [0] <| .seq (.seq (q' [m 3 0,n 4 3,f 5 0 4,f 6 3 5,l 7 6,m 8 0,n 9 8,f 10 8 9,l 11 10,bi 12 .eql 7 11] [0,12]) <| j 12 (z [n 14 0,f 15 0 14,f 16 0 15,.e none (.st 1 (.t 16) (k 4))] [] <| z [.r (some 2) (.mv (.c (.bool false)))] [2] <| .ret) (.skip)) <| z [n 18 0,f 19 0 18,f 20 3 19,l 21 20,bk 22 .add 21 1,n 23 0,f 24 0 23,f 25 3 24,s 1 25 22] [] <| z [.r (some 2) (.mv (.c (.bool true)))] [2] <| .ret
theorem fit37:Fits Tryz.prog 37 1 (hOf Tryz.f37 ir37) ir37 [.t 2] 26:=.m Tryz.f37 _
def ir38:IR:=z [] [0,1] <| z [c 13 53 [0,1],ex 14 0 13,ex 15 1 13,ex 16 2 13,ex 17 3 13,m 6 14,m 7 15,m 8 16,m 9 17] [0,6,7,8,9] <| .seq (z [no 19 9,m' 19 false 21 6,.gr 19 false (some 22) (.eq .ptr false (.t 21) (.c (.pointer none))),u 23 19 22] [0,6,7,8,9,23] <| j 23 (z [m 4 8,m 5 9] [4,5] <| .ret) (.skip)) <| z [c 29 35 [0,6,7],ex 30 0 29,ex 31 1 29,m 4 30,m 5 31] [4,5] <| .ret
theorem fit38:Fits Tryz.prog 38 2 (hOf Tryz.f38 ir38) ir38 [.t 4,.t 5] 32:=.m Tryz.f38 _
def ir39L1:IR:=z [bi 23 .lss 22 21] [1,3,11,12,13,20,21,22,23] <| .seq (j 23 (.skip) ((.exit 2))) <| .seq (.block 3 (z [ia 24 2 20 22,ln 25 2 24,.e (some 7) (.al 66 (.agg #[(.string ⟨#[]⟩),(.slice none 0 0)])),s 2 7 25] [1,3,7,11,12,13,20,21,22] <| q [f 27 1 7,l 28 27,c 29 54 [28],.r (some 30) (.bi .add (k 1) (.t 29)),bi 31 .add 3 30,m 3 31] [1,3,11,12,13,20,21,22])) <| q [bk 32 .add 22 1,m 22 32] [1,3,11,12,13,20,21,22]
def ir39L2:IR:=z [bi 14 .lss 13 12] [1,3,11,12,13,14] <| .seq (j 14 (.skip) ((.exit 0))) <| .seq (.block 1 (z [ia 15 3 11 13,ln 16 3 15,.e (some 5) (.al 63 (.agg #[(.string ⟨#[]⟩),(.slice none 0 0),(.slice none 0 0)])),s 3 5 16] [1,3,5,11,12,13] <| z [bk 18 .add 3 1,m 3 18] [1,3,5,11,12,13] <| z [f 19 2 5,l 20 19,le 21 20,mk 22 0] [1,3,11,12,13,20,21,22] <| .block 2 (.loop ir39L1))) <| q [bk 33 .add 13 1,m 13 33] [1,3,11,12,13]
def ir39L3:IR:=z [bi 38 .lss 37 36] [3,35,36,37,38] <| .seq (j 38 (.skip) ((.exit 4))) <| .seq (.block 5 (z [ia 39 12 35 37,ln 40 12 39,.e (some 9) (.al 49 (.agg #[(.string ⟨#[]⟩),(.slice none 0 0),(i 0),(.string ⟨#[]⟩),(.slice none 0 0),(i 0),(.string ⟨#[]⟩),(i 0),(.slice none 0 0),(.slice none 0 0),(.slice none 0 0),(.slice none 0 0)])),s 12 9 40] [3,9,35,36,37] <| .dr (r 0 41 (.mv (.t 3)) <| r 1 42 (.fa 2 (.t 9)) <| r 2 43 (.ln 3 (.t 42)) <| r 5 46 (.fa 5 (.t 9)) <| r 6 47 (.ln 7 (.t 46)) <| .e 3 none (some 44) (.call 55 [(.t 43)]) [6] <| r 4 45 (.bi .add (k 1) (.t 44)) <| .e 7 none (some 48) (.call 56 [(.t 47)]) [] <| r 8 49 (.bi .add (.t 45) (.t 48)) <| r 9 50 (.bi .add (.t 41) (.t 49)) <| r 10 3 (.mv (.t 50)) <| .nil) [3,35,36,37])) <| q [bk 51 .add 37 1,m 37 51] [3,35,36,37]
def ir39:IR:=z [.e (some 1) (.bx 25 (.t 0))] [1] <| z [mk 3 0] [1,3] <| .seq (z [f 10 0 1,l 11 10,le 12 11,mk 13 0] [1,3,11,12,13] <| .block 0 (.loop ir39L2)) <| .seq (z [f 34 1 1,l 35 34,le 36 35,mk 37 0] [3,35,36,37] <| .block 4 (.loop ir39L3)) <| z [m 2 3] [2] <| .ret
theorem fit39:Fits Tryz.prog 39 1 (hOf Tryz.f39 ir39) ir39 [.t 2] 53:=.m Tryz.f39 _
def ir40L1:IR:=z [bi 14 .lss 13 12] [1,3,11,12,13,14] <| .seq (j 14 (.skip) ((.exit 0))) <| .seq (.block 1 (z [ia 15 7 11 13,ln 16 7 15,.e (some 5) (.al 47 (.agg #[(i 0),(.string ⟨#[]⟩),(i 0),(.slice none 0 0),(.slice none 0 0),(.slice none 0 0),(.slice none 0 0)])),s 7 5 16] [1,3,5,11,12,13] <| q [ln 18 7 5,c 19 40 [18],.r (some 20) (.mm true (.t 3) (.t 19)),m 3 20] [1,3,11,12,13])) <| q [bk 21 .add 13 1,m 13 21] [1,3,11,12,13]
def ir40L2:IR:=z [bi 26 .lss 25 24] [1,3,23,24,25,26] <| .seq (j 26 (.skip) ((.exit 2))) <| .seq (.block 3 (z [ia 27 11 23 25,ln 28 11 27,.e (some 7) (.al 95 (.agg #[(.string ⟨#[]⟩),(i 0),(.string ⟨#[]⟩),(.slice none 0 0),(i 0),(.string ⟨#[]⟩),(i 0),(.slice none 0 0),(.slice none 0 0),(.slice none 0 0),(.slice none 0 0)])),s 11 7 28] [1,3,7,23,24,25] <| q [f 30 4 7,ln 31 7 30,c 32 40 [31],.r (some 33) (.mm true (.t 3) (.t 32)),m 3 33] [1,3,23,24,25])) <| q [bk 34 .add 25 1,m 25 34] [1,3,23,24,25]
def ir40L3:IR:=z [bi 39 .lss 38 37] [3,36,37,38,39] <| .seq (j 39 (.skip) ((.exit 4))) <| .seq (.block 5 (z [ia 40 11 36 38,ln 41 11 40,.e (some 9) (.al 97 (.agg #[(i 0),(.string ⟨#[]⟩),(i 0),(.slice none 0 0),(i 0),(.string ⟨#[]⟩),(i 0),(.slice none 0 0),(.slice none 0 0),(.slice none 0 0),(.slice none 0 0)])),s 11 9 41] [3,9,36,37,38] <| q [f 43 4 9,ln 44 7 43,c 45 40 [44],.r (some 46) (.mm true (.t 3) (.t 45)),m 3 46] [3,36,37,38])) <| q [bk 47 .add 38 1,m 38 47] [3,36,37,38]
def ir40:IR:=z [.e (some 1) (.bx 47 (.t 0))] [1] <| z [mk 3 0] [1,3] <| .seq (z [f 10 4 1,l 11 10,le 12 11,mk 13 0] [1,3,11,12,13] <| .block 0 (.loop ir40L1)) <| .seq (z [f 22 5 1,l 23 22,le 24 23,mk 25 0] [1,3,23,24,25] <| .block 2 (.loop ir40L2)) <| .seq (z [f 35 6 1,l 36 35,le 37 36,mk 38 0] [3,36,37,38] <| .block 4 (.loop ir40L3)) <| z [bk 49 .add 3 1,m 2 49] [2] <| .ret
theorem fit40:Fits Tryz.prog 40 1 (hOf Tryz.f40 ir40) ir40 [.t 2] 50:=.m Tryz.f40 _
def ir41L1:IR:=z [bi 13 .lss 12 11] [1,2,11,12,13] <| .seq (j 13 (.skip) ((.exit 0))) <| .seq (.block 1 (z [m 3 12] [1,2,3,11,12] <| q [ia 18 3 2 3,c 19 58 [1,18]] [1,2,11,12])) <| q [bk 20 .add 12 1,m 12 20] [1,2,11,12]
def ir41:IR:=z [] [] <| z [.e (some 4) (.raw ⟨(some 4),(.makeMap 124 none),124, "check.go:83",#[],none⟩),.e (some 5) (.raw ⟨(some 5),(.makeMap 125 none),125, "check.go:83",#[],none⟩),.e (some 6) (.raw ⟨(some 6),(.makeMap 126 none),126, "check.go:83",#[],none⟩),.r (some 7) (.bd #[(.map none),(.map none),(.map none),(.map none),(.bool false),(.map none),(.map none)] [(0,1,(.t 4)),(1,1,(.t 5)),(2,1,(.t 6))]),.e (some 8) (.bx 129 (.t 7)),m 1 8] [1] <| z [c 9 57 [],m 2 9] [1,2] <| .seq (z [le 11 2,mk 12 0] [1,2,11,12] <| .block 0 (.loop ir41L1)) <| z [m 0 1] [0] <| .ret
theorem fit41:Fits Tryz.prog 41 0 (hOf Tryz.f41 ir41) ir41 [.t 0] 22:=.m Tryz.f41 _
def ir42L1:IR:=z [bi 17 .lss 16 15] [0,1,15,16,17] <| .seq (j 17 (.skip) ((.exit 0))) <| .seq (.block 1 (z [m 5 16] [0,1,5,15,16] <| z [ia 21 3 1 5,m 6 21] [0,1,6,15,16] <| .seq (z [c 24 59 [0,6],m 7 24] [0,1,6,7,15,16] <| z [bk 26 .neq 7 0] [0,1,6,7,15,16,26] <| j 26 (z [m 4 7] [4] <| .ret) (.skip)) <| q [c 30 58 [0,6]] [0,1,15,16])) <| q [bk 31 .add 16 1,m 16 31] [0,1,15,16]
def ir42L2:IR:=z [bi 53 .lss 52 51] [0,32,33,34,43,44,45,50,51,52,53] <| .seq (j 53 (.skip) ((.exit 6))) <| .seq (.block 7 (z [ia 54 3 50 52,ln 55 3 54,.e (some 13) (.al 42 (.agg #[(i 0),(.string ⟨#[]⟩),(.slice none 0 0)])),s 3 13 55] [0,13,32,33,34,43,44,45,50,51,52] <| z [ln 57 3 13,c 58 46 [0,57],no 59 58] [0,32,33,34,43,44,45,50,51,52,59] <| j 59 (z [mk 4 81] [4] <| .ret) (.skip))) <| q [bk 60 .add 52 1,m 52 60] [0,32,33,34,43,44,45,50,51,52]
def ir42L3:IR:=z [bi 46 .lss 45 44] [0,32,33,34,43,44,45,46] <| .seq (j 46 (.skip) ((.exit 4))) <| .seq (.block 5 (z [ia 47 2 43 45,ln 48 2 47,.e (some 11) (.al 66 (.agg #[(.string ⟨#[]⟩),(.slice none 0 0)])),s 2 11 48] [0,11,32,33,34,43,44,45] <| z [f 49 1 11,l 50 49,le 51 50,mk 52 0] [0,32,33,34,43,44,45,50,51,52] <| .block 6 (.loop ir42L2))) <| q [bk 61 .add 45 1,m 45 61] [0,32,33,34,43,44,45]
def ir42L4:IR:=z [bi 35 .lss 34 33] [0,32,33,34,35] <| .seq (j 35 (.skip) ((.exit 2))) <| .seq (.block 3 (z [ia 36 3 32 34,ln 37 3 36,.e (some 9) (.al 63 (.agg #[(.string ⟨#[]⟩),(.slice none 0 0),(.slice none 0 0)])),s 3 9 37] [0,9,32,33,34] <| z [f 39 1 9,l 40 39,c 41 43 [0,40]] [0,9,32,33,34] <| z [f 42 2 9,l 43 42,le 44 43,mk 45 0] [0,32,33,34,43,44,45] <| .block 4 (.loop ir42L3))) <| q [bk 62 .add 34 1,m 34 62] [0,32,33,34]
def ir42:IR:=z [] [0,1] <| .seq (z [le 15 1,mk 16 0] [0,1,15,16] <| .block 0 (.loop ir42L1)) <| .seq (z [m 32 1,le 33 32,mk 34 0] [0,32,33,34] <| .block 2 (.loop ir42L4)) <| z [mk 4 0] [4] <| .ret
theorem fit42:Fits Tryz.prog 42 2 (hOf Tryz.f42 ir42) ir42 [.t 4] 63:=.m Tryz.f42 _
def ir43L1:IR:=z [bi 13 .lss 12 11] [0,10,11,12,13] <| .seq (j 13 (.skip) ((.exit 0))) <| .seq (.block 1 (z [ia 14 1 10 12,l 15 14,m 5 15] [0,5,10,11,12] <| q [m 16 0,n 17 16,f 18 3 17,l 19 18,m 20 5,.e none (.raw ⟨none,(.mapUpdate 90 (.tmp 19) (.tmp 20) (.const (i 1))),0, "check.go:95",#[⟨3,.data⟩,⟨4,.data⟩,⟨0,.phase⟩,⟨1,.phase⟩,⟨2,.phase⟩,⟨3,.phase⟩,⟨4,.phase⟩],none⟩)] [0,10,11,12])) <| q [bk 21 .add 12 1,m 12 21] [0,10,11,12]
def ir43:IR:=z [m 6 0,.e (some 7) (.raw ⟨(some 7),(.makeMap 90 none),90, "check.go:93",#[],none⟩),n 8 6,f 9 3 8,s 1 9 7] [0,1] <| .seq (z [m 10 1,le 11 10,mk 12 0] [0,10,11,12] <| .block 0 (.loop ir43L1)) <| q [m 22 0,m 23 0,.e (some 24) (.raw ⟨(some 24),(.makeMap 90 none),90, "check.go:97",#[],none⟩),.e (some 25) (.raw ⟨(some 25),(.makeMap 127 none),127, "check.go:97",#[],none⟩),n 26 22,f 27 5 26,s 1 27 24,n 28 23,f 29 6 28,s 1 29 25] []
theorem fit43:Fits Tryz.prog 43 2 (hOf Tryz.f43 ir43) ir43 [] 30:=.m Tryz.f43 _
def ir44L1:IR:=z [bi 7 .lss 6 5] [0,5,6,7] <| .seq (j 7 (.skip) ((.exit 0))) <| .seq (.block 1 (z [m 3 6] [0,3,5,6] <| z [.r (some 11) (.ixs (.t 0) (.t 3)),.r (some 12) (.bi .lss (.t 11) (.c (.int .u8 32))),m' 12 false 14 0,m' 12 false 15 3,.gr 12 false (some 16) (.ixs (.t 14) (.t 15)),.gr 12 false (some 17) (.bi .gtr (.t 16) (.c (.int .u8 126))),u 18 12 17] [0,5,6,18] <| j 18 (z [.r (some 2) (.mv (.c (.bool false)))] [2] <| .ret) (.skip))) <| q [bk 19 .add 6 1,m 6 19] [0,5,6]
def ir44:IR:=z [] [0] <| .seq (z [.r (some 5) (.lns (.t 0)),mk 6 0] [0,5,6] <| .block 0 (.loop ir44L1)) <| z [.r (some 21) (.lns (.t 0)),bk 22 .geq 21 1,m' 22 true 24 0,.gr 22 true (some 25) (.lns (.t 24)),bk' 22 true 26 .leq 25 4096,a 27 22 26,m 2 27] [2] <| .ret
theorem fit44:Fits Tryz.prog 44 1 (hOf Tryz.f44 ir44) ir44 [.t 2] 28:=.m Tryz.f44 _
def ir45:IR:=z [] [0] <| z [.r (some 4) (.bd #[(i 0),(.string ⟨#[]⟩),(.slice none 0 0)] [(0,1,(k 2)),(1,1,(.t 0))]),c 5 60 [4],m 2 5] [2] <| .ret
theorem fit45:Fits Tryz.prog 45 1 (hOf Tryz.f45 ir45) ir45 [.t 2] 6:=.m Tryz.f45 _
def ir46:IR:=z [.e (some 3) (.bx 42 (.t 1))] [0,3] <| z [ln 5 3 3,c 6 60 [5],m' 6 true 8 0,ln' 6 true 9 3 3,.ge 6 true (some 10) (.call 61 [(.t 8),(.t 9)]),a 11 6 10,m 4 11] [4] <| .ret
theorem fit46:Fits Tryz.prog 46 2 (hOf Tryz.f46 ir46) ir46 [.t 4] 12:=.m Tryz.f46 _
def ir47:IR:=z [.e (some 3) (.bx 47 (.t 1)),.e (some 4) (.al 42 (.agg #[(i 0),(.string ⟨#[]⟩),(.slice none 0 0)]))] [0,3,4] <| .seq (z [ln 14 7 3,c 15 62 [14],no 16 15] [0,3,4,16] <| j 16 (z [.r (some 17) (.bd #[(i 0),(.string ⟨#[]⟩),(.slice none 0 0)] []),s 3 4 17,mk 5 84] [4,5] <| .ret) (.skip)) <| .seq (z [f 18 0 3,l 19 18] [0,3,4,19] <| .block 0 (z [bk 21 .eql 19 1,m 20 21] [0,3,4,19,20] <| j 20 (.seq (.dr (r 0 23 (.mv (.t 0)) <| r 1 24 (.nn (.t 23)) <| r 2 25 (.fa 6 (.t 24)) <| r 3 26 (.l1 (.t 25)) <| r 4 27 (.fa 1 (.t 3)) <| r 5 28 (.l1 (.t 27)) <| .e2 6 (some 29) (.raw ⟨(some 29),(.lookup 127 (.tmp 26) (.tmp 28) true),155, "expr.go:123",#[⟨3,.data⟩,⟨5,.data⟩],none⟩) [] (r 7 22 (.mv (.t 29)) <| r 8 30 (.ex 0 (.t 22)) <| r 9 31 (.ex 1 (.t 22)) <| .e 10 none (some 6) (.al 42 (.agg #[(i 0),(.string ⟨#[]⟩),(.slice none 0 0)])) [3,5] <| .e 11 none none (.st 3 (.t 6) (.t 30)) [] <| r 12 7 (.mv (.t 31)) <| .nil) 10 (some 6) (.al 42 (.agg #[(i 0),(.string ⟨#[]⟩),(.slice none 0 0)])) [3,5]
   (.e 6 none (some 29) (.raw ⟨(some 29),(.lookup 127 (.tmp 26) (.tmp 28) true),155, "expr.go:123",#[⟨3,.data⟩,⟨5,.data⟩],none⟩) [] <| r 7 22 (.mv (.t 29)) <| r 8 30 (.ex 0 (.t 22)) <| r 9 31 (.ex 1 (.t 22)) <| .e 11 none none (.st 3 (.t 6) (.t 30)) [] <| r 12 7 (.mv (.t 31)) <| .nil)) [4,6,7]) <| .seq (z [no 33 7] [4,6,33] <| j 33 (z [.r (some 34) (.bd #[(i 0),(.string ⟨#[]⟩),(.slice none 0 0)] []),s 3 4 34,mk 5 82] [4,5] <| .ret) (.skip)) <| z [ln 35 3 6,s 3 4 35,mk 5 0] [4,5] <| .ret) (z [bk 37 .eql 19 2,m 36 37] [0,3,4,19,36] <| j 36 (z [c 38 63 [],s 3 4 38,mk 5 0] [4,5] <| .ret) (z [bk 40 .eql 19 3,m 39 40] [0,3,4,19,39] <| j 39 (.seq (q' [m 42 0,n 43 42,f 44 2 43,l 45 44,f 46 1 3,l 47 46,.e (some 48) (.raw ⟨(some 48),(.lookup 126 (.tmp 45) (.tmp 47) true),123, "expr.go:131",#[⟨3,.data⟩,⟨5,.data⟩],none⟩),m 41 48,ex 49 0 41,ex 50 1 41,m 8 49,m 9 50] [0,3,4,8,9]) <| .seq (z [no 52 9] [0,3,4,8,52] <| j 52 (z [.r (some 53) (.bd #[(i 0),(.string ⟨#[]⟩),(.slice none 0 0)] []),s 3 4 53,mk 5 82] [4,5] <| .ret) (.skip)) <| .seq (q' [m 54 0,m 55 8,n 56 55,f 57 2 56,ln 58 3 57,m 59 8,n 60 59,f 61 1 60,l 62 61,f 63 3 3,l 64 63,c 65 64 [54,58,62,64],ex 66 0 65,ex 67 1 65,s 3 4 66,m 5 67] [4,5]) <| .ret) (z [bk 69 .eql 19 4,m 68 69] [0,3,4,19,68] <| j 68 (.seq (.dr (r 0 71 (.mv (.t 0)) <| r 1 72 (.nn (.t 71)) <| r 2 73 (.fa 1 (.t 72)) <| r 3 74 (.l1 (.t 73)) <| r 4 75 (.fa 1 (.t 3)) <| r 5 76 (.l1 (.t 75)) <| .e2 6 (some 77) (.raw ⟨(some 77),(.lookup 125 (.tmp 74) (.tmp 76) true),159, "expr.go:137",#[⟨3,.data⟩,⟨5,.data⟩],none⟩) [] (r 7 70 (.mv (.t 77)) <| r 8 78 (.ex 0 (.t 70)) <| r 9 79 (.ex 1 (.t 70)) <| .e 10 none (some 10) (.al 158 (.agg #[(.pointer none),(i 0)])) [3,5] <| .e 11 none none (.st 2 (.t 10) (.t 78)) [] <| r 12 11 (.mv (.t 79)) <| .nil) 10 (some 10) (.al 158 (.agg #[(.pointer none),(i 0)])) [3,5]
   (.e 6 none (some 77) (.raw ⟨(some 77),(.lookup 125 (.tmp 74) (.tmp 76) true),159, "expr.go:137",#[⟨3,.data⟩,⟨5,.data⟩],none⟩) [] <| r 7 70 (.mv (.t 77)) <| r 8 78 (.ex 0 (.t 70)) <| r 9 79 (.ex 1 (.t 70)) <| .e 11 none none (.st 2 (.t 10) (.t 78)) [] <| r 12 11 (.mv (.t 79)) <| .nil)) [0,3,4,10,11]) <| .seq (z [no 81 11] [0,3,4,10,81] <| j 81 (z [.r (some 82) (.bd #[(i 0),(.string ⟨#[]⟩),(.slice none 0 0)] []),s 3 4 82,mk 5 82] [4,5] <| .ret) (.skip)) <| .seq (.dr (r 0 83 (.mv (.t 0)) <| r 1 84 (.ln 2 (.t 10)) <| r 3 86 (.fa 0 (.t 10)) <| r 4 87 (.l1 (.t 86)) <| r 5 88 (.nn (.t 87)) <| r 6 89 (.fa 1 (.t 88)) <| r 7 90 (.l1 (.t 89)) <| r 8 91 (.fa 3 (.t 3)) <| r 9 92 (.l1 (.t 91)) <| .e 2 none (some 85) (.call 65 [(.t 84)]) [4,7,9] <| .e 10 none (some 93) (.call 64 [(.t 83),(.t 85),(.t 90),(.t 92)]) [] <| r 11 94 (.ex 0 (.t 93)) <| r 12 95 (.ex 1 (.t 93)) <| .e 13 none none (.st 3 (.t 4) (.t 94)) [] <| r 14 5 (.mv (.t 95)) <| .nil) [4,5]) <| .ret) (z [bk 97 .eql 19 12,m 96 97] [0,3,4,19,96] <| j 96 (.seq (z [f 99 3 3,l 100 99,.r (some 101) (.ia 3 (.t 100) (k 0)),ln 102 3 101,c 103 46 [0,102],no 104 103] [3,4,104] <| j 104 (z [.r (some 105) (.bd #[(i 0),(.string ⟨#[]⟩),(.slice none 0 0)] []),s 3 4 105,mk 5 83] [4,5] <| .ret) (.skip)) <| z [f 106 3 3,l 107 106,.r (some 108) (.ia 3 (.t 107) (k 0)),ln 109 3 108,s 3 4 109,mk 5 0] [4,5] <| .ret) (z [bk 111 .eql 19 5,m 110 111] [0,3,4,19,110] <| j 110 (z [ln 113 7 3,c 114 66 [0,113],ex 115 0 114,ex 116 1 114,s 3 4 115,m 5 116] [4,5] <| .ret) (z [bk 118 .eql 19 9,m 117 118] [0,3,4,19,117] <| j 117 (z [ln 120 7 3,c 121 67 [0,120],ex 122 0 121,ex 123 1 121,s 3 4 122,m 5 123] [4,5] <| .ret) (z [bk 125 .eql 19 10,m 124 125] [0,3,4,19,124] <| j 124 (.seq (z [f 128 4 3,l 129 128,.r (some 130) (.ia 7 (.t 129) (k 0)),ln 131 7 130,c 132 47 [0,131],ex 133 0 132,ex 134 1 132,.e (some 12) (.al 42 (.agg #[(i 0),(.string ⟨#[]⟩),(.slice none 0 0)])),s 3 12 133,m 13 134] [0,3,4,13] <| z [bk 136 .neq 13 0] [0,3,4,13,136] <| j 136 (z [.r (some 137) (.bd #[(i 0),(.string ⟨#[]⟩),(.slice none 0 0)] []),s 3 4 137,m 5 13] [4,5] <| .ret) (.skip)) <| z [f 140 4 3,l 141 140,.r (some 142) (.ia 7 (.t 141) (k 1)),ln 143 7 142,c 144 47 [0,143],ex 145 0 144,ex 146 1 144,s 3 4 145,m 5 146] [4,5] <| .ret) (z [bk 148 .eql 19 6,m 147 148] [0,3,4,19,147] <| j 147 (z [ln 150 7 3,c 151 68 [0,150],ex 152 0 151,ex 153 1 151,s 3 4 152,m 5 153] [4,5] <| .ret) (.seq (z [bk 155 .eql 19 7,m 154 155] [0,3,4,19,154] <| j 154 (.skip) (q [bk 156 .eql 19 11,m 154 156] [0,3,4,154])) <| j 154 (z [ln 158 7 3,c 159 69 [0,158],ex 160 0 159,ex 161 1 159,s 3 4 160,m 5 161] [4,5] <| .ret) (.skip)))))))))))) <| z [ln 163 7 3,c 164 70 [0,163],ex 165 0 164,ex 166 1 164,s 3 4 165,m 5 166] [4,5] <| .ret
theorem fit47:Fits Tryz.prog 47 2 (hOf Tryz.f47 ir47) ir47 [.n 4 3,.t 5] 167:=.m Tryz.f47 _
def ir48:IR:=z [.e (some 2) (.bx 42 (.t 0)),.e (some 3) (.bx 42 (.t 1))] [2,3] <| z [f 5 0 2,l 6 5,f 7 0 3,l 8 7,bi 9 .eql 6 8,f' 9 true 11 1 2,l' 9 true 12 11,f' 9 true 13 1 3,l' 9 true 14 13,bi' 9 true 15 .eql 12 14,a 16 9 15,f' 16 true 18 2 2,l' 16 true 19 18,f' 16 true 20 2 3,l' 16 true 21 20,.ge 16 true (some 22) (.call 71 [(.t 19),(.t 21),(.c (.func (.func 48) #[] #[]))]),a 23 16 22,m 4 23] [4] <| .ret
theorem fit48:Fits Tryz.prog 48 2 (hOf Tryz.f48 ir48) ir48 [.t 4] 24:=.m Tryz.f48 _
def ir49L1:IR:=z [bi 96 .lss 95 94] [1,2,10,94,95,96] <| .seq (j 96 (.skip) ((.exit 1))) <| .seq (.block 2 (z [m 11 95] [1,2,10,11,94,95] <| q [n 99 1,f 100 5 99,l 101 100,ia 103 11 101 11,f 104 0 103,l 105 104,.r (some 106) (.bd #[.nilIface] []),.e (some 107) (.bx 87 (.t 106)),.r (some 109) (.bd #[(.string ⟨#[]⟩),(.pointer none),(.pointer none)] [(0,1,(.t 105)),(1,1,(.t 107)),(2,1,(.t 2))]),.e (some 110) (.bx 141 (.t 109)),m 2 110] [1,2,10,94,95])) <| q [bk 111 .add 95 1,m 95 111] [1,2,10,94,95]
def ir49L2:IR:=.seq (z [m 119 12,m 120 10,.e (some 121) (.raw ⟨(some 121),(.binOp .neq 106 (.tmp 119) (.tmp 120) 106),4, "run.go:198",#[⟨0,.data⟩,⟨1,.data⟩],none⟩)] [1,2,10,12,13,121] <| j 121 (.skip) ((.exit 3))) <| .seq (.block 4 (.seq (.dr (r 0 124 (.mv (.t 12)) <| r 1 125 (.nn (.t 124)) <| r 2 126 (.fa 1 (.t 125)) <| r 3 127 (.l1 (.t 126)) <| r 4 128 (.mv (.t 1)) <| r 5 129 (.nn (.t 128)) <| r 6 130 (.fa 5 (.t 129)) <| r 7 131 (.l1 (.t 130)) <| r 8 132 (.mv (.t 13)) <| r 9 133 (.ia 11 (.t 131) (.t 132)) <| r 10 134 (.fa 4 (.t 133)) <| r 11 135 (.mv (.t 2)) <| r 12 136 (.bd #[(.pointer none),(.pointer none)] [(0,1,(.t 134)),(1,1,(.t 135))]) <| .e 13 none (some 137) (.bx 108 (.t 136)) [3] <| r 14 138 (.mi 105 (.t 137)) <| r 15 139 (.nn (.t 127)) <| r 16 140 (.fa 0 (.t 139)) <| .e 17 none none (.st 1 (.t 140) (.t 138)) [] <| .nil) [1,2,10,12,13]) <| q [n 142 12,f 143 2 142,l 144 143,m 12 144] [1,2,10,12,13])) <| q [bk 123 .sub 13 1,m 13 123] [1,2,10,12,13]
def ir49:IR:=z [] [0,1,2] <| .seq (z [n 15 1,f 16 0 15,l 17 16] [0,1,2,17] <| .block 0 (z [bk 19 .eql 17 1,m 18 19] [0,1,2,17,18] <| j 18 (z [n 23 1,f 24 1 23,l 25 24,c 26 72 [2,25],c 27 53 [0,26],ex 28 0 27,ex 29 1 27,ex 30 2 27,ex 31 3 27,m 6 28,m 7 29,m 8 30,m 9 31] [6,7,8,9] <| .ret) (z [bk 33 .eql 17 3,m 32 33] [0,1,2,17,32] <| j 32 (.seq (q' [m 34 0,m 35 0,n 36 35,f 37 9 36,l 38 37,m 39 1,n 40 39,f 41 1 40,l 42 41,.e (some 43) (.raw ⟨(some 43),(.lookup 89 (.tmp 38) (.tmp 42) false),82, "run.go:182",#[⟨4,.data⟩,⟨8,.data⟩],none⟩),c 44 53 [34,43],ex 45 0 44,ex 46 1 44,ex 47 2 44,ex 48 3 44,m 6 45,m 7 46,m 8 47,m 9 48] [6,7,8,9]) <| .ret) (z [bk 50 .eql 17 2,m 49 50] [0,1,2,17,49] <| j 49 (.seq (q' [m 51 1,n 52 51,f 53 2 52,l 54 53,.r (some 55) (.mi 115 (.t 54)),.r (some 6) (.mv (.c (.pointer none))),.r (some 7) (.mv (.c (.pointer none))),m 8 55,.r (some 9) (.mv (.c (.bool true)))] [6,7,8,9]) <| .ret) (z [bk 57 .eql 17 4,m 56 57] [0,1,2,17,56] <| j 56 (.seq (.dr (r 0 58 (.mv (.t 1)) <| r 1 59 (.nn (.t 58)) <| r 2 60 (.fa 1 (.t 59)) <| r 3 61 (.l1 (.t 60)) <| r 4 62 (.mv (.t 0)) <| r 5 63 (.nn (.t 62)) <| r 6 64 (.fa 10 (.t 63)) <| r 7 65 (.l1 (.t 64)) <| r 8 66 (.mv (.t 1)) <| r 9 67 (.nn (.t 66)) <| r 10 68 (.fa 1 (.t 67)) <| r 11 69 (.l1 (.t 68)) <| .e 12 none (some 70) (.raw ⟨(some 70),(.lookup 90 (.tmp 65) (.tmp 69) false),3, "run.go:186",#[⟨7,.data⟩,⟨11,.data⟩],none⟩) [3] <| .e 13 none (some 71) (.call 51 [(.t 61),(.t 70),(.c (.slice none 0 0))]) [] <| r 14 6 (.mv (.c (.pointer none))) <| r 15 7 (.mv (.c (.pointer none))) <| r 16 8 (.mv (.t 71)) <| r 17 9 (.mv (.c (.bool true))) <| .nil) [6,7,8,9]) <| .ret) (z [bk 73 .eql 17 6,m 72 73] [0,1,2,17,72] <| j 72 (z [.r (some 76) (.bd #[(.pointer none),(.pointer none)] [(0,1,(.t 1)),(1,1,(.t 2))]),.e (some 77) (.bx 139 (.t 76)),.r (some 78) (.mi 138 (.t 77)),.r (some 6) (.mv (.c (.pointer none))),.r (some 7) (.mv (.c (.pointer none))),m 8 78,.r (some 9) (.mv (.c (.bool true)))] [6,7,8,9] <| .ret) (z [bk 80 .eql 17 12,m 79 80] [0,1,2,17,79] <| j 79 (z [n 83 1,f 84 2 83,l 85 84,c 86 52 [0,85]] [] <| z [.r (some 6) (.mv (.c (.pointer none))),.r (some 7) (.mv (.c (.pointer none))),.r (some 8) (.mv (.c .nilIface)),.r (some 9) (.mv (.c (.bool false)))] [6,7,8,9] <| .ret) (z [bk 88 .eql 17 7,m 87 88] [0,1,2,17,87] <| j 87 (z [m 10 2] [1,2,10] <| .seq (z [n 91 1,f 92 5 91,l 93 92,le 94 93,mk 95 0] [1,2,10,94,95] <| .block 1 (.loop ir49L1)) <| z [m 12 2] [1,2,10,12] <| .seq (z [n 114 1,f 115 5 114,l 116 115,le 117 116,bk 118 .sub 117 1,m 13 118] [1,2,10,12,13] <| .block 3 (.loop ir49L2)) <| z [n 146 1,f 147 4 146,l 148 147,.r (some 149) (.ia 7 (.t 148) (k 0)),m 6 149,m 7 2,.r (some 8) (.mv (.c .nilIface)),.r (some 9) (.mv (.c (.bool true)))] [6,7,8,9] <| .ret) (z [bk 152 .eql 17 11,m 151 152] [0,1,2,17,151] <| j 151 (z [.r (some 156) (.bd #[(i 0),(.pointer none),(.pointer none),(.pointer none),(i 0)] [(0,1,(k 6)),(2,1,(.t 1)),(3,1,(.t 2))]),c 157 73 [0,156]] [1,2] <| z [n 159 1,f 160 5 159,l 161 160,.r (some 162) (.ia 11 (.t 161) (k 0)),f 163 4 162,m 6 163,m 7 2,.r (some 8) (.mv (.c .nilIface)),.r (some 9) (.mv (.c (.bool true)))] [6,7,8,9] <| .ret) (z [bk 166 .eql 17 5,m 165 166] [0,1,2,17,165] <| j 165 (q [.r (some 170) (.bd #[(i 0),(.pointer none),(.pointer none),(.pointer none),(i 0)] [(0,1,(k 1)),(2,1,(.t 1)),(3,1,(.t 2))]),c 171 73 [0,170]] [1,2]) (z [bk 173 .eql 17 8,m 172 173] [0,1,2,17,172] <| j 172 (q [.r (some 177) (.bd #[(i 0),(.pointer none),(.pointer none),(.pointer none),(i 0)] [(0,1,(k 2)),(2,1,(.t 1)),(3,1,(.t 2))]),c 178 73 [0,177]] [1,2]) (z [bk 180 .eql 17 9,m 179 180] [0,1,2,17,179] <| j 179 (q [.r (some 184) (.bd #[(i 0),(.pointer none),(.pointer none),(.pointer none),(i 0)] [(0,1,(k 3)),(2,1,(.t 1)),(3,1,(.t 2))]),c 185 73 [0,184]] [1,2]) (z [bk 187 .eql 17 10,m 186 187] [0,1,2,186] <| j 186 (q [.r (some 191) (.bd #[(i 0),(.pointer none),(.pointer none),(.pointer none),(i 0)] [(0,1,(k 5)),(2,1,(.t 1)),(3,1,(.t 2))]),c 192 73 [0,191]] [1,2]) (.skip)))))))))))))) <| z [n 194 1,f 195 4 194,l 196 195,.r (some 197) (.ia 7 (.t 196) (k 0)),m 6 197,m 7 2,.r (some 8) (.mv (.c .nilIface)),.r (some 9) (.mv (.c (.bool true)))] [6,7,8,9] <| .ret
theorem fit49:Fits Tryz.prog 49 3 (hOf Tryz.f49 ir49) ir49 [.t 6,.t 7,.t 8,.t 9] 199:=.m Tryz.f49 _
def ir50:IR:=z [.e (some 4) (.bx 136 (.t 1))] [0,2,4] <| .seq (z [f 16 0 4,l 17 16] [0,2,4,17] <| .block 0 (z [bk 19 .eql 17 0,m 18 19] [0,2,4,17,18] <| j 18 (z [f 20 1 4,l 21 20,n 23 21,f 24 0 23,s 1 24 2] [2] <| z [.r (some 6) (.mv (.c (.pointer none))),.r (some 7) (.mv (.c (.pointer none))),m 8 2,.r (some 9) (.mv (.c (.bool true)))] [6,7,8,9] <| .ret) (z [bk 27 .eql 17 1,m 26 27] [0,2,4,17,26] <| j 26 (.seq (q' [m 28 0,m 29 2,f 30 2 4,l 31 30,n 32 31,f 33 4 32,l 34 33,.r (some 35) (.ia 7 (.t 34) (k 1)),f 36 3 4,l 37 36,.r (some 38) (.bd #[(.pointer none),(.pointer none)] [(0,1,(.t 35)),(1,1,(.t 37))]),.e (some 39) (.bx 108 (.t 38)),.r (some 40) (.mi 105 (.t 39)),.r (some 41) (.bd #[.nilIface] [(0,1,(.t 40))]),.e (some 42) (.bx 87 (.t 41)),c 43 36 [28,29,42],ex 44 0 43,ex 45 1 43,ex 46 2 43,ex 47 3 43,m 6 44,m 7 45,m 8 46,m 9 47] [6,7,8,9]) <| .ret) (z [bk 49 .eql 17 2,m 48 49] [0,2,4,17,48] <| j 48 (z [ln 51 5 4,c 53 74 [0,51,2],ex 54 0 53,ex 55 1 53,ex 56 2 53,ex 57 3 53,m 6 54,m 7 55,m 8 56,m 9 57] [6,7,8,9] <| .ret) (z [bk 59 .eql 17 3,m 58 59] [0,2,4,17,58] <| j 58 (z [m 61 2,.e (some 62) (.raw ⟨(some 62),(.typeAssert (.tmp 61) 77 115 true),164, "run.go:237",#[⟨0,.data⟩],none⟩),m 60 62,ex 63 0 60,ex 64 1 60,m 10 63,m 11 64] [0,4,10] <| z [f 66 2 4,l 67 66,.r (some 69) (.bd #[(i 0),(.pointer none),(.pointer none),(.pointer none),(i 0)] [(0,1,(k 4)),(2,1,(.t 67)),(4,1,(.t 10))]),c 70 73 [0,69]] [4] <| .seq (q' [f 71 2 4,l 72 71,n 73 72,f 74 4 73,l 75 74,.r (some 76) (.ia 7 (.t 75) (k 1)),f 77 3 4,l 78 77,m 6 76,m 7 78,.r (some 8) (.mv (.c .nilIface)),.r (some 9) (.mv (.c (.bool true)))] [6,7,8,9]) <| .ret) (z [bk 80 .eql 17 4,m 79 80] [0,2,4,17,79] <| j 79 (z [m 82 2,.e (some 83) (.raw ⟨(some 83),(.typeAssert (.tmp 82) 77 115 true),164, "run.go:241",#[⟨0,.data⟩],none⟩),m 81 83,ex 84 0 81,ex 85 1 81,m 12 84,m 13 85] [0,4,12] <| .seq (q' [m 87 0,f 88 2 4,l 89 88,n 90 89,f 91 1 90,l 92 91,f 93 4 4,l 94 93,m 95 12,c 96 75 [87,92,94,95],m 86 96,ex 97 0 86,ex 98 1 86,m 14 97,m 15 98] [14,15]) <| z [.r (some 6) (.mv (.c (.pointer none))),.r (some 7) (.mv (.c (.pointer none))),m 8 14,m 9 15] [6,7,8,9] <| .ret) (z [bk 102 .eql 17 5,m 101 102] [2,4,101] <| j 101 (.seq (q' [f 103 2 4,l 104 103,n 105 104,f 106 4 105,l 107 106,.r (some 108) (.ia 7 (.t 107) (k 1)),f 109 3 4,l 110 109,m 6 108,m 7 110,.r (some 8) (.mv (.c .nilIface)),.r (some 9) (.mv (.c (.bool true)))] [6,7,8,9]) <| .ret) (.skip)))))))) <| .seq (.dr (r 0 111 (.fa 2 (.t 4)) <| r 1 112 (.l1 (.t 111)) <| r 2 113 (.nn (.t 112)) <| r 3 114 (.fa 4 (.t 113)) <| r 4 115 (.l1 (.t 114)) <| r 5 116 (.ia 7 (.t 115) (k 0)) <| r 6 117 (.fa 2 (.t 4)) <| r 7 118 (.l1 (.t 117)) <| r 8 119 (.nn (.t 118)) <| r 9 120 (.fa 5 (.t 119)) <| r 10 121 (.l1 (.t 120)) <| r 11 122 (.ia 11 (.t 121) (k 0)) <| r 12 123 (.fa 0 (.t 122)) <| r 13 124 (.l1 (.t 123)) <| r 14 125 (.mv (.t 2)) <| r 15 126 (.bd #[.nilIface] [(0,1,(.t 125))]) <| r 17 128 (.fa 3 (.t 4)) <| r 18 129 (.l1 (.t 128)) <| r 21 6 (.mv (.t 116)) <| .e 16 none (some 127) (.bx 87 (.t 126)) [1,4,7,10,13,18] <| r 19 130 (.bd #[(.string ⟨#[]⟩),(.pointer none),(.pointer none)] [(0,1,(.t 124)),(1,1,(.t 127)),(2,1,(.t 129))]) <| .e 20 none (some 131) (.bx 141 (.t 130)) [1,4] <| r 22 7 (.mv (.t 131)) <| r 23 8 (.mv (.c .nilIface)) <| r 24 9 (.mv (.c (.bool true))) <| .nil) [6,7,8,9]) <| .ret
theorem fit50:Fits Tryz.prog 50 3 (hOf Tryz.f50 ir50) ir50 [.t 6,.t 7,.t 8,.t 9] 132:=.m Tryz.f50 _
def ir51:IR:=z [] [0,1,2] <| .seq (z [bk 8 .eql 1 0] [0,1,2,8] <| j 8 (z [.r (some 11) (.bd #[(.string ⟨#[]⟩),(.slice none 0 0)] [(0,1,(.t 0)),(1,1,(.t 2))]),.e (some 12) (.bx 114 (.t 11)),.r (some 13) (.mi 111 (.t 12)),m 6 13] [6] <| .ret) (.skip)) <| z [.r (some 17) (.bd #[(.string ⟨#[]⟩),(i 0),(.slice none 0 0)] [(0,1,(.t 0)),(1,1,(.t 1)),(2,1,(.t 2))]),.e (some 18) (.bx 144 (.t 17)),.r (some 19) (.mi 142 (.t 18)),m 6 19] [6] <| .ret
theorem fit51:Fits Tryz.prog 51 3 (hOf Tryz.f51 ir51) ir51 [.t 6] 20:=.m Tryz.f51 _
def ir52:IR:=q [n 7 0,f 8 0 7,f 9 0 8,.e none (.st 1 (.t 9) (k 3)),n 10 0,f 11 0 10,f 12 2 11,s 1 12 1] []
theorem fit52:Fits Tryz.prog 52 2 (hOf Tryz.f52 ir52) ir52 [] 13:=.m Tryz.f52 _
def ir53:IR:=z [] [0,1] <| .seq (z [n 11 1,f 12 0 11,l 13 12] [0,1,13] <| .block 0 (z [.e (some 14) (.raw ⟨(some 14),(.typeAssert (.tmp 13) 84 77 true),0, "run.go:137",#[],none⟩),ex 15 1 14,ex 16 0 14] [0,1,13,15,16] <| j 15 (z [m 8 16] [8] <| z [.r (some 4) (.mv (.c (.pointer none))),.r (some 5) (.mv (.c (.pointer none))),m 6 8,.r (some 7) (.mv (.c (.bool true)))] [4,5,6,7] <| .ret) (z [.e (some 18) (.raw ⟨(some 18),(.typeAssert (.tmp 13) 84 105 true),0, "run.go:137",#[],none⟩),ex 19 1 18,ex 20 0 18] [0,1,19,20] <| j 19 (z [m 9 20] [0,1,9] <| z [.r (some 22) (.bd #[] []),.r (some 23) (.mi 167 (.t 22)),n 24 1,f 25 0 24,s 1 25 23] [0,1,9] <| z [.r (some 28) (.bd #[(i 0),(.pointer none),(.pointer none),(.pointer none),(i 0)] [(0,1,(k 0)),(1,1,(.t 1))]),c 29 73 [0,28]] [9] <| .seq (q' [m 30 9,n 31 30,f 32 0 31,l 33 32,m 34 9,n 35 34,f 36 1 35,l 37 36,m 4 33,m 5 37,.r (some 6) (.mv (.c .nilIface)),.r (some 7) (.mv (.c (.bool true)))] [4,5,6,7]) <| .ret) (.skip)))) <| z [.e (some 39) (.call 52 [(.t 0),(k 4)])] [] <| z [.r (some 4) (.mv (.c (.pointer none))),.r (some 5) (.mv (.c (.pointer none))),.r (some 6) (.mv (.c .nilIface)),.r (some 7) (.mv (.c (.bool false)))] [4,5,6,7] <| .ret
theorem fit53:Fits Tryz.prog 53 2 (hOf Tryz.f53 ir53) ir53 [.t 4,.t 5,.t 6,.t 7] 40:=.m Tryz.f53 _
def ir54L1:IR:=z [bi 9 .lss 8 7] [3,6,7,8,9] <| .seq (j 9 (.skip) ((.exit 0))) <| .seq (.block 1 (z [ia 10 3 6 8,ln 11 3 10,.e (some 5) (.al 42 (.agg #[(i 0),(.string ⟨#[]⟩),(.slice none 0 0)])),s 3 5 11] [3,5,6,7,8] <| q [ln 13 3 5,c 14 55 [13],bi 15 .add 3 14,m 3 15] [3,6,7,8])) <| q [bk 16 .add 8 1,m 8 16] [3,6,7,8]
def ir54:IR:=z [] [0] <| z [mk 3 0] [0,3] <| .seq (z [m 6 0,le 7 6,mk 8 0] [3,6,7,8] <| .block 0 (.loop ir54L1)) <| z [m 2 3] [2] <| .ret
theorem fit54:Fits Tryz.prog 54 1 (hOf Tryz.f54 ir54) ir54 [.t 2] 18:=.m Tryz.f54 _
def ir55L1:IR:=z [bi 10 .lss 9 8] [3,7,8,9,10] <| .seq (j 10 (.skip) ((.exit 0))) <| .seq (.block 1 (z [ia 11 3 7 9,ln 12 3 11,.e (some 5) (.al 42 (.agg #[(i 0),(.string ⟨#[]⟩),(.slice none 0 0)])),s 3 5 12] [3,5,7,8,9] <| q [ln 14 3 5,c 15 55 [14],bi 16 .add 3 15,m 3 16] [3,7,8,9])) <| q [bk 17 .add 9 1,m 9 17] [3,7,8,9]
def ir55:IR:=z [.e (some 1) (.bx 42 (.t 0))] [1] <| z [mk 3 1] [1,3] <| .seq (z [f 6 2 1,l 7 6,le 8 7,mk 9 0] [3,7,8,9] <| .block 0 (.loop ir55L1)) <| z [m 2 3] [2] <| .ret
theorem fit55:Fits Tryz.prog 55 1 (hOf Tryz.f55 ir55) ir55 [.t 2] 19:=.m Tryz.f55 _
def ir56L1:IR:=z [bi 18 .lss 17 16] [1,3,15,16,17,18] <| .seq (j 18 (.skip) ((.exit 0))) <| .seq (.block 1 (z [ia 19 7 15 17,ln 20 7 19,.e (some 5) (.al 47 (.agg #[(i 0),(.string ⟨#[]⟩),(i 0),(.slice none 0 0),(.slice none 0 0),(.slice none 0 0),(.slice none 0 0)])),s 7 5 20] [1,3,5,15,16,17] <| q [ln 22 7 5,c 23 56 [22],bi 24 .add 3 23,m 3 24] [1,3,15,16,17])) <| q [bk 25 .add 17 1,m 17 25] [1,3,15,16,17]
def ir56L2:IR:=z [bi 30 .lss 29 28] [1,3,27,28,29,30] <| .seq (j 30 (.skip) ((.exit 2))) <| .seq (.block 3 (z [ia 31 11 27 29,ln 32 11 31,.e (some 7) (.al 95 (.agg #[(.string ⟨#[]⟩),(i 0),(.string ⟨#[]⟩),(.slice none 0 0),(i 0),(.string ⟨#[]⟩),(i 0),(.slice none 0 0),(.slice none 0 0),(.slice none 0 0),(.slice none 0 0)])),s 11 7 32] [1,3,7,27,28,29] <| .dr (r 0 33 (.mv (.t 3)) <| r 1 34 (.fa 1 (.t 7)) <| r 2 35 (.ln 3 (.t 34)) <| r 5 38 (.fa 4 (.t 7)) <| r 6 39 (.ln 7 (.t 38)) <| .e 3 none (some 36) (.call 55 [(.t 35)]) [6] <| r 4 37 (.bi .add (k 1) (.t 36)) <| .e 7 none (some 40) (.call 56 [(.t 39)]) [] <| r 8 41 (.bi .add (.t 37) (.t 40)) <| r 9 42 (.bi .add (.t 33) (.t 41)) <| r 10 3 (.mv (.t 42)) <| .nil) [1,3,27,28,29])) <| q [bk 43 .add 29 1,m 29 43] [1,3,27,28,29]
def ir56L3:IR:=z [bi 48 .lss 47 46] [3,45,46,47,48] <| .seq (j 48 (.skip) ((.exit 4))) <| .seq (.block 5 (z [ia 49 11 45 47,ln 50 11 49,.e (some 9) (.al 97 (.agg #[(i 0),(.string ⟨#[]⟩),(i 0),(.slice none 0 0),(i 0),(.string ⟨#[]⟩),(i 0),(.slice none 0 0),(.slice none 0 0),(.slice none 0 0),(.slice none 0 0)])),s 11 9 50] [3,9,45,46,47] <| .dr (r 0 51 (.mv (.t 3)) <| r 1 52 (.fa 3 (.t 9)) <| r 2 53 (.l1 (.t 52)) <| r 3 54 (.len (.t 53)) <| r 4 55 (.bi .add (k 1) (.t 54)) <| r 5 56 (.fa 4 (.t 9)) <| r 6 57 (.ln 7 (.t 56)) <| .e 7 none (some 58) (.call 56 [(.t 57)]) [2] <| r 8 59 (.bi .add (.t 55) (.t 58)) <| r 9 60 (.bi .add (.t 51) (.t 59)) <| r 10 3 (.mv (.t 60)) <| .nil) [3,45,46,47])) <| q [bk 61 .add 47 1,m 47 61] [3,45,46,47]
def ir56:IR:=z [.e (some 1) (.bx 47 (.t 0))] [1] <| z [f 10 3 1,l 11 10,c 12 54 [11],.r (some 13) (.bi .add (k 1) (.t 12)),m 3 13] [1,3] <| .seq (z [f 14 4 1,l 15 14,le 16 15,mk 17 0] [1,3,15,16,17] <| .block 0 (.loop ir56L1)) <| .seq (z [f 26 5 1,l 27 26,le 28 27,mk 29 0] [1,3,27,28,29] <| .block 2 (.loop ir56L2)) <| .seq (z [f 44 6 1,l 45 44,le 46 45,mk 47 0] [3,45,46,47] <| .block 4 (.loop ir56L3)) <| z [m 2 3] [2] <| .ret
theorem fit56:Fits Tryz.prog 56 1 (hOf Tryz.f56 ir56) ir56 [.t 2] 63:=.m Tryz.f56 _
def ir58L1:IR:=z [bi 21 .lss 20 19] [0,1,18,19,20,21] <| .seq (j 21 (.skip) ((.exit 0))) <| .seq (.block 1 (z [ia 23 2 18 20,ln 24 2 23,.e (some 5) (.al 66 (.agg #[(.string ⟨#[]⟩),(.slice none 0 0)])),m 4 20,s 2 5 24] [0,1,4,5,18,19,20] <| q' [m 25 0,n 26 25,f 27 1 26,l 28 27,f 29 0 5,l 30 29,m 31 1,m 32 4,.r (some 33) (.bd #[(.pointer none),(i 0)] [(0,1,(.t 31)),(1,1,(.t 32))]),.e none (.raw ⟨none,(.mapUpdate 125 (.tmp 28) (.tmp 30) (.tmp 33)),0, "check.go:78",#[⟨3,.data⟩,⟨5,.data⟩,⟨8,.data⟩,⟨0,.phase⟩,⟨1,.phase⟩,⟨2,.phase⟩,⟨3,.phase⟩,⟨4,.phase⟩,⟨5,.phase⟩,⟨6,.phase⟩,⟨7,.phase⟩,⟨8,.phase⟩],none⟩)] [0,1,18,19,20])) <| q [bk 34 .add 20 1,m 20 34] [0,1,18,19,20]
def ir58:IR:=.seq (q' [m 6 0,n 7 6,f 8 0 7,l 9 8,m 10 1,n 11 10,f 12 0 11,l 13 12,m 14 1,.e none (.raw ⟨none,(.mapUpdate 124 (.tmp 9) (.tmp 13) (.tmp 14)),0, "check.go:76",#[⟨3,.data⟩,⟨7,.data⟩,⟨8,.data⟩,⟨0,.phase⟩,⟨1,.phase⟩,⟨2,.phase⟩,⟨3,.phase⟩,⟨4,.phase⟩,⟨5,.phase⟩,⟨6,.phase⟩,⟨7,.phase⟩,⟨8,.phase⟩],none⟩)] [0,1]) <| z [n 16 1,f 17 2 16,l 18 17,le 19 18,mk 20 0] [0,1,18,19,20] <| .block 0 (.loop ir58L1)
theorem fit58:Fits Tryz.prog 58 2 (hOf Tryz.f58 ir58) ir58 [] 35:=.m Tryz.f58 _
def ir59L1:IR:=z [bi 54 .lss 53 52] [0,1,7,51,52,53,54] <| .seq (j 54 (.skip) ((.exit 0))) <| .seq (.block 1 (z [ia 55 2 51 53,ln 56 2 55,.e (some 9) (.al 66 (.agg #[(.string ⟨#[]⟩),(.slice none 0 0)])),s 2 9 56] [0,1,7,9,51,52,53] <| .seq (.seq (.dr (r 0 58 (.mv (.t 0)) <| r 1 59 (.nn (.t 58)) <| r 2 60 (.fa 1 (.t 59)) <| r 3 61 (.l1 (.t 60)) <| r 4 62 (.fa 0 (.t 9)) <| r 5 63 (.l1 (.t 62)) <| .e2 6 (some 64) (.raw ⟨(some 64),(.lookup 125 (.tmp 61) (.tmp 63) true),159, "check.go:202",#[⟨3,.data⟩,⟨5,.data⟩],none⟩) [] (r 7 57 (.mv (.t 64)) <| r 8 65 (.ex 0 (.t 57)) <| r 9 66 (.ex 1 (.t 57)) <| .e 10 none (some 10) (.al 158 (.agg #[(.pointer none),(i 0)])) [3,5] <| .e 11 none none (.st 2 (.t 10) (.t 65)) [] <| r 12 11 (.mv (.t 66)) <| .nil) 10 (some 10) (.al 158 (.agg #[(.pointer none),(i 0)])) [3,5]
   (.e 6 none (some 64) (.raw ⟨(some 64),(.lookup 125 (.tmp 61) (.tmp 63) true),159, "check.go:202",#[⟨3,.data⟩,⟨5,.data⟩],none⟩) [] <| r 7 57 (.mv (.t 64)) <| r 8 65 (.ex 0 (.t 57)) <| r 9 66 (.ex 1 (.t 57)) <| .e 11 none none (.st 2 (.t 10) (.t 65)) [] <| r 12 11 (.mv (.t 66)) <| .nil)) [0,1,7,9,11,51,52,53]) <| z [m 67 11,m 68 67,m' 68 false 69 7,f' 68 false 70 0 9,l' 68 false 71 70,.ge 68 false (some 72) (.raw ⟨(some 72),(.lookup 90 (.tmp 69) (.tmp 71) false),3, "check.go:202",#[⟨2,.data⟩,⟨4,.data⟩,⟨1,.guard⟩],some (1,false)⟩),bk' 68 false 73 .gtr 72 0,u 74 68 73,m 75 74,f' 75 false 76 1 9,l' 75 false 77 76,le' 75 false 78 77,bk' 75 false 79 .gtr 78 8,u 80 75 79] [0,1,7,9,51,52,53,80] <| j 80 (z [mk 4 81] [4] <| .ret) (.skip)) <| q [m 81 7,f 82 0 9,l 83 82,.e none (.raw ⟨none,(.mapUpdate 90 (.tmp 81) (.tmp 83) (.const (i 1))),0, "check.go:205",#[⟨0,.data⟩,⟨2,.data⟩,⟨0,.phase⟩,⟨1,.phase⟩,⟨2,.phase⟩],none⟩)] [0,1,7,51,52,53])) <| q [bk 84 .add 53 1,m 53 84] [0,1,7,51,52,53]
def ir59L2:IR:=z [bi 92 .lss 91 90] [1,7,89,90,91,92] <| .seq (j 92 (.skip) ((.exit 2))) <| .seq (.block 3 (z [ia 93 1 89 91,l 94 93,m 13 94] [1,7,13,89,90,91] <| .seq (z [m 95 7,m 96 13,.e (some 97) (.raw ⟨(some 97),(.lookup 90 (.tmp 95) (.tmp 96) false),3, "check.go:209",#[⟨0,.data⟩,⟨1,.data⟩],none⟩),bk 98 .gtr 97 0] [1,7,13,89,90,91,98] <| j 98 (z [mk 4 81] [4] <| .ret) (.skip)) <| q [m 99 7,m 100 13,.e none (.raw ⟨none,(.mapUpdate 90 (.tmp 99) (.tmp 100) (.const (i 1))),0, "check.go:212",#[⟨0,.data⟩,⟨1,.data⟩,⟨0,.phase⟩,⟨1,.phase⟩],none⟩)] [1,7,89,90,91])) <| q [bk 101 .add 91 1,m 91 101] [1,7,89,90,91]
def ir59:IR:=z [] [0,1] <| .seq (z [n 15 1,f 16 0 15,l 17 16,c 18 78 [17],no 19 18,m' 19 false 21 1,n' 19 false 22 21,f' 19 false 23 1 22,l' 19 false 24 23,.ge 19 false (some 25) (.call 79 [(.t 24),(.c (.func (.func 80) #[] #[]))]),u 26 19 25,m' 26 false 28 1,n' 26 false 29 28,f' 26 false 30 2 29,l' 26 false 31 30,.ge 26 false (some 32) (.call 81 [(.t 31),(.c (.func (.func 82) #[] #[]))]),u 33 26 32] [0,1,33] <| j 33 (z [mk 4 82] [4] <| .ret) (.skip)) <| .seq (.seq (q' [m 35 0,n 36 35,f 37 0 36,l 38 37,m 39 1,n 40 39,f 41 0 40,l 42 41,.e (some 43) (.raw ⟨(some 43),(.lookup 124 (.tmp 38) (.tmp 42) true),173, "check.go:197",#[⟨3,.data⟩,⟨7,.data⟩],none⟩),m 34 43,ex 44 0 34,ex 45 1 34,m 5 44,m 6 45] [0,1,6]) <| z [m 46 6] [0,1,46] <| j 46 (z [mk 4 81] [4] <| .ret) (.skip)) <| z [.e (some 47) (.raw ⟨(some 47),(.makeMap 90 none),90, "check.go:200",#[],none⟩),m 7 47] [0,1,7] <| .seq (z [n 49 1,f 50 2 49,l 51 50,le 52 51,mk 53 0] [0,1,7,51,52,53] <| .block 0 (.loop ir59L1)) <| z [m 85 7,.e none (.raw ⟨none,(.call { callee:=(.builtin .clear),args:=#[(.tmp 85)],argTypes:=#[90]}),0, "check.go:207",#[⟨0,.data⟩],none⟩)] [1,7] <| .seq (z [n 87 1,f 88 1 87,l 89 88,le 90 89,mk 91 0] [1,7,89,90,91] <| .block 2 (.loop ir59L2)) <| .seq (z [n 103 1,f 104 1 103,l 105 104,le 106 105,bk 107 .gtr 106 6,m' 107 false 109 1,n' 107 false 110 109,f' 107 false 111 2 110,l' 107 false 112 111,le' 107 false 113 112,bk' 107 false 114 .eql 113 0,u 115 107 114,m' 115 false 117 1,n' 115 false 118 117,f' 115 false 119 2 118,l' 115 false 120 119,le' 115 false 121 120,bk' 115 false 122 .gtr 121 24,u 123 115 122] [123] <| j 123 (z [mk 4 81] [4] <| .ret) (.skip)) <| z [mk 4 0] [4] <| .ret
theorem fit59:Fits Tryz.prog 59 2 (hOf Tryz.f59 ir59) ir59 [.t 4] 124:=.m Tryz.f59 _
def ir60:IR:=z [.e (some 1) (.bx 42 (.t 0))] [1] <| z [ln 6 3 1,c 7 83 [6],ex 8 0 7,ex 9 1 7,.e (some 3) (.al 42 (.agg #[(i 0),(.string ⟨#[]⟩),(.slice none 0 0)])),s 3 3 8,m 4 9] [4] <| z [bk 11 .eql 4 0,m 2 11] [2] <| .ret
theorem fit60:Fits Tryz.prog 60 1 (hOf Tryz.f60 ir60) ir60 [.t 2] 12:=.m Tryz.f60 _
def ir61L1:IR:=z [bi 56 .lss 55 54] [0,53,54,55,56] <| .seq (j 56 (.skip) ((.exit 1))) <| .seq (.block 2 (z [ia 57 3 53 55,ln 58 3 57,.e (some 8) (.al 42 (.agg #[(i 0),(.string ⟨#[]⟩),(.slice none 0 0)])),s 3 8 58] [0,8,53,54,55] <| z [ln 60 3 8,c 61 61 [0,60],no 62 61] [0,53,54,55,62] <| j 62 (z [.r (some 4) (.mv (.c (.bool false)))] [4] <| .ret) (.skip))) <| q [bk 63 .add 55 1,m 55 63] [0,53,54,55]
def ir61:IR:=z [.e (some 3) (.bx 42 (.t 1))] [0,3] <| .seq (z [f 9 0 3,l 10 9] [0,3,10] <| .block 0 (z [bk 12 .eql 10 2,m 11 12] [0,3,10,11] <| j 11 (.seq (q' [m 13 0,n 14 13,f 15 4 14,l 16 15,m 17 16,m' 17 false 18 0,n' 17 false 19 18,f' 17 false 20 3 19,l' 17 false 21 20,f' 17 false 22 1 3,l' 17 false 23 22,.ge 17 false (some 24) (.raw ⟨(some 24),(.lookup 90 (.tmp 21) (.tmp 23) false),3, "check.go:104",#[⟨8,.data⟩,⟨10,.data⟩,⟨4,.guard⟩],some (4,false)⟩),bk' 17 false 25 .gtr 24 0,u 26 17 25,m 4 26] [4]) <| .ret) (z [bk 28 .eql 10 4,m 27 28] [0,3,27] <| j 27 (.seq (q' [m 30 0,n 31 30,f 32 0 31,l 33 32,f 34 1 3,l 35 34,.e (some 36) (.raw ⟨(some 36),(.lookup 124 (.tmp 33) (.tmp 35) true),173, "check.go:106",#[⟨3,.data⟩,⟨5,.data⟩],none⟩),m 29 36,ex 37 0 29,ex 38 1 29,m 5 37,m 6 38] [0,3,5,6]) <| .seq (q' [m 39 6,no 40 39,m 41 40,m' 41 false 42 5,n' 41 false 43 42,f' 41 false 44 1 43,l' 41 false 45 44,le' 41 false 46 45,f' 41 false 47 2 3,l' 41 false 48 47,le' 41 false 49 48,bi' 41 false 50 .neq 46 49,u 51 41 50] [0,3,51]) <| j 51 (z [.r (some 4) (.mv (.c (.bool false)))] [4] <| .ret) (.skip)) (.skip)))) <| .seq (z [f 52 2 3,l 53 52,le 54 53,mk 55 0] [0,53,54,55] <| .block 1 (.loop ir61L1)) <| z [.r (some 4) (.mv (.c (.bool true)))] [4] <| .ret
theorem fit61:Fits Tryz.prog 61 2 (hOf Tryz.f61 ir61) ir61 [.t 4] 64:=.m Tryz.f61 _
def ir62:IR:=z [.e (some 1) (.bx 47 (.t 0))] [1] <| z [f 9 3 1,l 10 9,le 11 10,f 12 4 1,l 13 12,le 14 13,f 15 5 1,l 16 15,le 17 16,f 18 6 1,l 19 18,le 20 19,.r (some 21) (.bd #[(i 0),(i 0),(i 0),(i 0)] [(0,1,(.t 11)),(1,1,(.t 14)),(2,1,(.t 17)),(3,1,(.t 20))]),.e (some 3) (.al 176 (.agg #[(i 0),(i 0),(i 0),(i 0)])),s 4 3 21] [1,3] <| z [.r (some 4) (.mv (.c (.bool false))),.r (some 5) (.mv (.c (.bool false))),.r (some 6) (.mv (.c (.bool false)))] [1,3,4,5,6] <| .seq (z [f 22 0 1,l 23 22] [1,3,4,5,6,23] <| .block 0 (z [bk 25 .eql 23 1,m 24 25] [1,3,4,5,6,23,24] <| j 24 (q' [ln 26 4 3,.r (some 27) (.bd #[(i 0),(i 0),(i 0),(i 0)] []),.r (some 28) (.eqa false [(0,.int),(1,.int),(2,.int),(3,.int)] (.t 26) (.t 27)),.r (some 4) (.mv (.c (.bool true))),m 6 28] [1,4,5,6]) (z [bk 30 .eql 23 2,m 29 30] [1,3,4,5,6,23,29] <| j 29 (q' [ln 31 4 3,.r (some 32) (.bd #[(i 0),(i 0),(i 0),(i 0)] []),.r (some 33) (.eqa false [(0,.int),(1,.int),(2,.int),(3,.int)] (.t 31) (.t 32)),m 34 33,f' 34 true 35 2 1,l' 34 true 36 35,bk' 34 true 37 .geq 36 (-4611686018427387904),a 38 34 37,m 39 38,f' 39 true 40 2 1,l' 39 true 41 40,bk' 39 true 42 .leq 41 4611686018427387903,a 43 39 42,.r (some 5) (.mv (.c (.bool true))),m 6 43] [1,4,5,6]) (.seq (z [bk 45 .eql 23 3,m 44 45] [1,3,4,5,6,23,44] <| j 44 (.skip) (q [bk 46 .eql 23 4,m 44 46] [1,3,4,5,6,23,44])) <| j 44 (q' [ln 47 4 3,f 48 0 3,l 49 48,.r (some 50) (.bd #[(i 0),(i 0),(i 0),(i 0)] [(0,1,(.t 49))]),.r (some 51) (.eqa false [(0,.int),(1,.int),(2,.int),(3,.int)] (.t 47) (.t 50)),.r (some 4) (.mv (.c (.bool true))),m 6 51] [1,4,5,6]) (.seq (z [bk 53 .eql 23 5,m 52 53] [1,3,4,5,6,23,52] <| j 52 (.skip) (q [bk 54 .eql 23 10,m 52 54] [1,3,4,5,6,23,52])) <| j 52 (q [ln 55 4 3,.r (some 56) (.bd #[(i 0),(i 0),(i 0),(i 0)] [(1,1,(k 2))]),.r (some 57) (.eqa false [(0,.int),(1,.int),(2,.int),(3,.int)] (.t 55) (.t 56)),m 6 57] [1,4,5,6]) (z [bk 59 .eql 23 6,m 58 59] [1,3,4,5,6,23,58] <| j 58 (q [ln 60 4 3,.r (some 61) (.bd #[(i 0),(i 0),(i 0),(i 0)] [(1,1,(k 1)),(2,1,(k 1))]),.r (some 62) (.eqa false [(0,.int),(1,.int),(2,.int),(3,.int)] (.t 60) (.t 61)),f' 62 true 64 5 1,l' 62 true 65 64,.gr 62 true (some 66) (.ia 11 (.t 65) (k 0)),f' 62 true 67 4 66,ln' 62 true 68 7 67,.ge 62 true (some 69) (.call 84 [(.t 68)]),a 70 62 69,m 6 70] [1,4,5,6]) (z [bk 72 .eql 23 7,m 71 72] [1,3,4,5,6,23,71] <| j 71 (q [ln 73 4 3,f 74 2 3,l 75 74,.r (some 76) (.bd #[(i 0),(i 0),(i 0),(i 0)] [(1,1,(k 1)),(2,1,(.t 75))]),.r (some 77) (.eqa false [(0,.int),(1,.int),(2,.int),(3,.int)] (.t 73) (.t 76)),f' 77 true 79 2 3,l' 77 true 80 79,bk' 77 true 81 .geq 80 1,a 82 77 81,m 6 82] [1,4,5,6]) (z [bk 84 .eql 23 8,m 83 84] [1,3,4,5,6,23,83] <| j 83 (q [ln 85 4 3,f 86 3 3,l 87 86,.r (some 88) (.bd #[(i 0),(i 0),(i 0),(i 0)] [(1,1,(k 1)),(3,1,(.t 87))]),.r (some 89) (.eqa false [(0,.int),(1,.int),(2,.int),(3,.int)] (.t 85) (.t 88)),f' 89 true 91 3 3,l' 89 true 92 91,bk' 89 true 93 .geq 92 1,a 94 89 93,m 6 94] [1,4,5,6]) (z [bk 96 .eql 23 9,m 95 96] [1,3,4,5,6,23,95] <| j 95 (z [f 98 1 1,l 99 98,c 100 85 [99],ex 101 0 100,ex 102 1 100,.e (some 7) (.al 42 (.agg #[(i 0),(.string ⟨#[]⟩),(.slice none 0 0)])),s 3 7 101,m 8 102] [1,3,5,8] <| q [ln 103 4 3,.r (some 104) (.bd #[(i 0),(i 0),(i 0),(i 0)] [(1,1,(k 2))]),.r (some 105) (.eqa false [(0,.int),(1,.int),(2,.int),(3,.int)] (.t 103) (.t 104)),m' 105 true 107 8,a 108 105 107,.r (some 4) (.mv (.c (.bool true))),m 6 108] [1,4,5,6]) (z [bk 110 .eql 23 11,m 109 110] [1,3,4,5,6,23,109] <| j 109 (q [ln 111 4 3,.r (some 112) (.bd #[(i 0),(i 0),(i 0),(i 0)] [(1,1,(k 1)),(2,1,(k 1))]),.r (some 113) (.eqa false [(0,.int),(1,.int),(2,.int),(3,.int)] (.t 111) (.t 112)),m 6 113] [1,4,5,6]) (z [bk 115 .eql 23 12,m 114 115] [1,3,4,5,6,114] <| j 114 (q' [ln 116 4 3,.r (some 117) (.bd #[(i 0),(i 0),(i 0),(i 0)] [(0,1,(k 1))]),.r (some 118) (.eqa false [(0,.int),(1,.int),(2,.int),(3,.int)] (.t 116) (.t 117)),m 119 118,f' 119 true 120 2 1,l' 119 true 121 120,bk' 119 true 122 .geq 121 1,a 123 119 122,m 124 123,f' 124 true 125 2 1,l' 124 true 126 125,bk' 124 true 127 .leq 126 4,a 128 124 127,.r (some 5) (.mv (.c (.bool true))),m 6 128] [1,4,5,6]) (.skip)))))))))))) <| z [m' 6 true 131 4,m' 6 true 132 131,f' 132 false 133 1 1,l' 132 false 134 133,.gr 132 false (some 135) (.bi .eql (.t 134) (.c (.string ⟨#[]⟩))),.gr 6 true (some 136) (.pk (.t 132) (.c (.bool true)) (.t 135)),a 137 6 136,m' 137 true 139 5,m' 137 true 140 139,f' 140 false 141 2 1,l' 140 false 142 141,bk' 140 false 143 .eql 142 0,.gr 137 true (some 144) (.pk (.t 140) (.c (.bool true)) (.t 143)),a 145 137 144,m 2 145] [2] <| .ret
theorem fit62:Fits Tryz.prog 62 1 (hOf Tryz.f62 ir62) ir62 [.t 2] 146:=.m Tryz.f62 _
def ir63:IR:=z [.e (some 0) (.al 42 (.agg #[(i 0),(.string ⟨#[]⟩),(.slice none 0 0)]))] [0] <| z [.r (some 1) (.bd #[(i 0),(.string ⟨#[]⟩),(.slice none 0 0)] [(0,1,(k 1))]),s 3 0 1] [0] <| .ret
theorem fit63:Fits Tryz.prog 63 0 (hOf Tryz.f63 ir63) ir63 [.n 0 3] 2:=.m Tryz.f63 _
def ir64L1:IR:=z [bi 23 .lss 22 21] [0,2,3,5,8,20,21,22,23] <| .seq (j 23 (.skip) ((.exit 0))) <| .seq (.block 1 (z [ia 24 3 20 22,ln 25 3 24,.e (some 11) (.al 42 (.agg #[(i 0),(.string ⟨#[]⟩),(.slice none 0 0)])),s 3 11 25] [0,2,3,5,8,11,20,21,22] <| z [ln 27 3 11,c 28 46 [0,27],no 29 28] [0,2,3,5,8,20,21,22,29] <| j 29 (z [.r (some 30) (.bd #[(i 0),(.string ⟨#[]⟩),(.slice none 0 0)] []),s 3 8 30,mk 9 83] [8,9] <| .ret) (.skip))) <| q [bk 31 .add 22 1,m 22 31] [0,2,3,5,8,20,21,22]
def ir64:IR:=z [.e (some 5) (.bx 42 (.t 1)),.e (some 8) (.al 42 (.agg #[(i 0),(.string ⟨#[]⟩),(.slice none 0 0)]))] [0,2,3,5,8] <| .seq (z [le 15 2,le 17 3,bi 18 .neq 15 17] [0,2,3,5,8,18] <| j 18 (z [.r (some 19) (.bd #[(i 0),(.string ⟨#[]⟩),(.slice none 0 0)] []),s 3 8 19,mk 9 83] [8,9] <| .ret) (.skip)) <| .seq (z [m 20 3,le 21 20,mk 22 0] [0,2,3,5,8,20,21,22] <| .block 0 (.loop ir64L1)) <| z [ln 33 3 5,c 36 86 [33,2,3],ex 37 0 36,ex 38 1 36,.e (some 12) (.al 42 (.agg #[(i 0),(.string ⟨#[]⟩),(.slice none 0 0)])),s 3 12 37,m 13 38] [8,12,13] <| .seq (z [no 40 13] [8,12,40] <| j 40 (z [.r (some 41) (.bd #[(i 0),(.string ⟨#[]⟩),(.slice none 0 0)] []),s 3 8 41,mk 9 83] [8,9] <| .ret) (.skip)) <| z [ln 42 3 12,s 3 8 42,mk 9 0] [8,9] <| .ret
theorem fit64:Fits Tryz.prog 64 4 (hOf Tryz.f64 ir64) ir64 [.n 8 3,.t 9] 43:=.m Tryz.f64 _
def ir65L1:IR:=z [bi 16 .lss 15 14] [1,2,3,13,14,15,16] <| .seq (j 16 (.skip) ((.exit 0))) <| .seq (.block 1 (z [ia 17 1 13 15,l 18 17,m 5 18] [1,2,3,5,13,14,15] <| q [c 21 76 [5],.e (some 22) (.bs 42 1 #[(i 0),(.string ⟨#[]⟩),(.slice none 0 0)] [(0,3,(.t 21))]),.e (some 23) (.ap 42 3 48 #[(i 0),(.string ⟨#[]⟩),(.slice none 0 0)] (.t 3) (.t 22)),m 3 23] [1,2,3,13,14,15])) <| q [bk 24 .add 15 1,m 15 24] [1,2,3,13,14,15]
def ir65L2:IR:=.seq (z [bk 46 .geq 8 0] [2,6,7,8,46] <| j 46 (.skip) ((.exit 2))) <| .seq (.block 3 (q' [m 49 7,m 50 8,ia 51 3 49 50,ln 52 3 51,ln 53 3 6,c 54 87 [52,53],s 3 6 54] [2,6,7,8])) <| q [bk 48 .sub 8 1,m 8 48] [2,6,7,8]
def ir65:IR:=z [.e (some 1) (.bx 158 (.t 0)),.e (some 2) (.al 42 (.agg #[(i 0),(.string ⟨#[]⟩),(.slice none 0 0)]))] [1,2] <| z [.r (some 3) (.mv (.c (.slice none 0 0)))] [1,2,3] <| .seq (z [f 9 0 1,l 10 9,n 11 10,f 12 1 11,l 13 12,le 14 13,mk 15 0] [1,2,3,13,14,15] <| .block 0 (.loop ir65L1)) <| z [f 25 0 1,l 26 25,n 27 26,f 28 0 27,l 29 28,c 31 77 [29,3],.e (some 6) (.al 42 (.agg #[(i 0),(.string ⟨#[]⟩),(.slice none 0 0)])),s 3 6 31] [1,2,6] <| .seq (q' [f 32 0 1,l 33 32,n 34 33,f 35 2 34,l 36 35,f 37 1 1,l 38 37,ia 39 2 36 38,f 40 1 39,l 41 40,m 7 41] [2,6,7]) <| .seq (z [le 43 7,bk 44 .sub 43 1,m 8 44] [2,6,7,8] <| .block 2 (.loop ir65L2)) <| z [ln 55 3 6,s 3 2 55] [2] <| .ret
theorem fit65:Fits Tryz.prog 65 1 (hOf Tryz.f65 ir65) ir65 [.n 2 3] 56:=.m Tryz.f65 _
def ir66:IR:=z [.e (some 3) (.bx 47 (.t 1)),.e (some 4) (.al 42 (.agg #[(i 0),(.string ⟨#[]⟩),(.slice none 0 0)]))] [0,3,4] <| z [f 11 4 3,l 12 11,.r (some 13) (.ia 7 (.t 12) (k 0)),ln 14 7 13,c 15 47 [0,14],ex 16 0 15,ex 17 1 15,.e (some 6) (.al 42 (.agg #[(i 0),(.string ⟨#[]⟩),(.slice none 0 0)])),s 3 6 16,m 7 17] [0,3,4,6,7] <| .seq (z [bk 19 .neq 7 0] [0,3,4,6,7,19] <| j 19 (z [.r (some 20) (.bd #[(i 0),(.string ⟨#[]⟩),(.slice none 0 0)] []),s 3 4 20,m 5 7] [4,5] <| .ret) (.skip)) <| z [f 24 4 3,l 25 24,.r (some 26) (.ia 7 (.t 25) (k 1)),ln 27 7 26,c 28 47 [0,27],ex 29 0 28,ex 30 1 28,.e (some 8) (.al 42 (.agg #[(i 0),(.string ⟨#[]⟩),(.slice none 0 0)])),s 3 8 29,m 7 30] [4,6,7,8] <| .seq (z [bk 32 .neq 7 0] [4,6,7,8,32] <| j 32 (z [.r (some 33) (.bd #[(i 0),(.string ⟨#[]⟩),(.slice none 0 0)] []),s 3 4 33,m 5 7] [4,5] <| .ret) (.skip)) <| .seq (.seq (q' [f 35 0 6,l 36 35,bk 37 .neq 36 3,m 38 37,f' 38 false 39 2 6,l' 38 false 40 39,.gr 38 false (some 41) (.ia 3 (.t 40) (k 0)),ln' 38 false 42 3 41,ln' 38 false 43 3 8,.ge 38 false (some 44) (.call 48 [(.t 42),(.t 43)]),no' 38 false 45 44,u 46 38 45] [4,6,46]) <| j 46 (z [.r (some 47) (.bd #[(i 0),(.string ⟨#[]⟩),(.slice none 0 0)] []),s 3 4 47,mk 5 83] [4,5] <| .ret) (.skip)) <| z [f 48 2 6,l 49 48,.r (some 50) (.ia 3 (.t 49) (k 1)),ln 51 3 50,s 3 4 51,mk 5 0] [4,5] <| .ret
theorem fit66:Fits Tryz.prog 66 2 (hOf Tryz.f66 ir66) ir66 [.n 4 3,.t 5] 52:=.m Tryz.f66 _
def ir67L1:IR:=z [bk 13 .lss 12 2] [0,3,4,6,12,13] <| .seq (j 13 (.skip) ((.exit 0))) <| .seq (.block 1 (z [m 7 12] [0,3,4,6,7,12] <| z [f 17 4 3,l 18 17,ia 20 7 18 7,ln 21 7 20,c 22 47 [0,21],ex 23 0 22,ex 24 1 22,.e (some 8) (.al 42 (.agg #[(i 0),(.string ⟨#[]⟩),(.slice none 0 0)])),s 3 8 23,m 9 24] [0,3,4,6,7,8,9,12] <| .seq (z [bk 26 .neq 9 0] [0,3,4,6,7,8,9,12,26] <| j 26 (z [.r (some 27) (.bd #[(i 0),(.string ⟨#[]⟩),(.slice none 0 0)] []),s 3 4 27,m 5 9] [4,5] <| .ret) (.skip)) <| q [m 29 7,ln 30 3 8,.e (some 31) (.raw ⟨(some 31),(.indexAddr 180 (.tmp 6) (.tmp 29)),0, "expr.go:186",#[⟨0,.data⟩,⟨0,.phase⟩,⟨1,.phase⟩],none⟩),s 3 31 30] [0,3,4,6,12])) <| q [bk 32 .add 12 1,m 12 32] [0,3,4,6,12]
def ir67:IR:=z [.e (some 3) (.bx 47 (.t 1)),.e (some 4) (.al 42 (.agg #[(i 0),(.string ⟨#[]⟩),(.slice none 0 0)]))] [0,3,4] <| z [.e (some 6) (.al 180 (.agg #[(i 0),(.string ⟨#[]⟩),(.slice none 0 0),(i 0),(.string ⟨#[]⟩),(.slice none 0 0)]))] [0,3,4,6] <| .seq (z [mk 12 0] [0,3,4,6,12] <| .block 0 (.loop ir67L1)) <| .seq (z [.e (some 33) (.raw ⟨(some 33),(.indexAddr 180 (.tmp 6) (.const (i 0))),0, "expr.go:188",#[],none⟩),f 34 0 33,l 35 34,bk 36 .neq 35 1,m 37 36,.ge 37 false (some 38) (.raw ⟨(some 38),(.indexAddr 180 (.tmp 6) (.const (i 1))),0, "expr.go:188",#[⟨4,.guard⟩],some (4,false)⟩),f' 37 false 39 0 38,l' 37 false 40 39,bk' 37 false 41 .neq 40 1,u 42 37 41] [3,4,42] <| j 42 (z [.r (some 43) (.bd #[(i 0),(.string ⟨#[]⟩),(.slice none 0 0)] []),s 3 4 43,mk 5 83] [4,5] <| .ret) (.skip)) <| z [f 45 1 3,l 46 45,c 47 85 [46],ex 48 0 47,ex 49 1 47,.e (some 10) (.al 42 (.agg #[(i 0),(.string ⟨#[]⟩),(.slice none 0 0)])),s 3 10 48] [4,10] <| z [ln 50 3 10,s 3 4 50,mk 5 0] [4,5] <| .ret
theorem fit67:Fits Tryz.prog 67 2 (hOf Tryz.f67 ir67) ir67 [.n 4 3,.t 5] 51:=.m Tryz.f67 _
def ir68:IR:=z [.e (some 3) (.bx 47 (.t 1)),.e (some 4) (.al 42 (.agg #[(i 0),(.string ⟨#[]⟩),(.slice none 0 0)]))] [0,3,4] <| z [f 10 5 3,l 11 10,.r (some 12) (.ia 11 (.t 11) (k 0)),ln 13 11 12,.e (some 6) (.al 95 (.agg #[(.string ⟨#[]⟩),(i 0),(.string ⟨#[]⟩),(.slice none 0 0),(i 0),(.string ⟨#[]⟩),(i 0),(.slice none 0 0),(.slice none 0 0),(.slice none 0 0),(.slice none 0 0)])),s 11 6 13] [0,3,4,6] <| .seq (z [ln 15 11 6,c 16 88 [0,15],m 7 16] [0,3,4,6,7] <| z [bk 18 .neq 7 0] [0,3,4,6,7,18] <| j 18 (z [.r (some 19) (.bd #[(i 0),(.string ⟨#[]⟩),(.slice none 0 0)] []),s 3 4 19,m 5 7] [4,5] <| .ret) (.skip)) <| .seq (q' [m 21 0,n 22 21,f 23 6 22,l 24 23,f 25 0 6,l 26 25,f 27 1 6,ln 28 3 27,.e none (.raw ⟨none,(.mapUpdate 127 (.tmp 24) (.tmp 26) (.tmp 28)),0, "expr.go:212",#[⟨3,.data⟩,⟨5,.data⟩,⟨7,.data⟩,⟨0,.phase⟩,⟨1,.phase⟩,⟨2,.phase⟩,⟨3,.phase⟩,⟨4,.phase⟩,⟨5,.phase⟩,⟨6,.phase⟩,⟨7,.phase⟩],none⟩)] [0,3,4,6]) <| z [f 31 4 3,l 32 31,.r (some 33) (.ia 7 (.t 32) (k 0)),ln 34 7 33,c 35 47 [0,34],ex 36 0 35,ex 37 1 35,.e (some 8) (.al 42 (.agg #[(i 0),(.string ⟨#[]⟩),(.slice none 0 0)])),s 3 8 36,m 9 37] [0,4,6,8,9] <| .seq (q' [m 38 0,n 39 38,f 40 6 39,l 41 40,f 42 0 6,l 43 42,.e none (.raw ⟨none,(.call { callee:=(.builtin .delete),args:=#[(.tmp 41),(.tmp 43)],argTypes:=#[127,9]}),0, "expr.go:214",#[⟨3,.data⟩,⟨5,.data⟩],none⟩)] [4,6,8,9]) <| .seq (z [bk 45 .neq 9 0] [4,6,8,9,45] <| j 45 (z [.r (some 46) (.bd #[(i 0),(.string ⟨#[]⟩),(.slice none 0 0)] []),s 3 4 46,m 5 9] [4,5] <| .ret) (.skip)) <| .seq (.seq (.dr (r 0 48 (.fa 1 (.t 6)) <| r 1 49 (.ln 3 (.t 48)) <| r 3 51 (.ln 3 (.t 8)) <| .e 2 none (some 50) (.call 55 [(.t 49)]) [3] <| .e 4 none (some 52) (.call 55 [(.t 51)]) [] <| r 5 53 (.bi .add (.t 50) (.t 52)) <| r 6 54 (.bi .add (.t 53) (k 1)) <| r 7 55 (.bi .gtr (.t 54) (k 500)) <| .nil) [4,6,8,55]) <| j 55 (z [.r (some 56) (.bd #[(i 0),(.string ⟨#[]⟩),(.slice none 0 0)] []),s 3 4 56,mk 5 83] [4,5] <| .ret) (.skip)) <| z [f 57 1 6,ln 58 3 57,ln 59 3 8,c 60 87 [58,59],s 3 4 60,mk 5 0] [4,5] <| .ret
theorem fit68:Fits Tryz.prog 68 2 (hOf Tryz.f68 ir68) ir68 [.n 4 3,.t 5] 61:=.m Tryz.f68 _
def ir69L1:IR:=z [bi 22 .lss 21 20] [2,3,4,19,20,21,22] <| .seq (j 22 (.skip) ((.exit 0))) <| .seq (.block 1 (z [ia 23 11 19 21,ln 24 11 23,.e (some 7) (.al 95 (.agg #[(.string ⟨#[]⟩),(i 0),(.string ⟨#[]⟩),(.slice none 0 0),(i 0),(.string ⟨#[]⟩),(i 0),(.slice none 0 0),(.slice none 0 0),(.slice none 0 0),(.slice none 0 0)])),s 11 7 24] [2,3,4,7,19,20,21] <| z [l 25 2,ln 26 11 7,c 27 88 [25,26],m 8 27] [2,3,4,8,19,20,21] <| z [bk 29 .neq 8 0] [2,3,4,8,19,20,21,29] <| j 29 (z [.r (some 30) (.bd #[(i 0),(.string ⟨#[]⟩),(.slice none 0 0)] []),s 3 4 30,m 5 8] [4,5] <| .ret) (.skip))) <| q [bk 32 .add 21 1,m 21 32] [2,3,4,19,20,21]
def ir69L2:IR:=z [bi 43 .lss 42 41] [2,3,4,9,40,41,42,43] <| .seq (j 43 (.skip) ((.exit 2))) <| .seq (.block 3 (z [ia 44 11 40 42,ln 45 11 44,.e (some 11) (.al 95 (.agg #[(.string ⟨#[]⟩),(i 0),(.string ⟨#[]⟩),(.slice none 0 0),(i 0),(.string ⟨#[]⟩),(i 0),(.slice none 0 0),(.slice none 0 0),(.slice none 0 0),(.slice none 0 0)])),s 11 11 45] [2,3,4,9,11,40,41,42] <| z [l 47 2,f 48 4 11,ln 49 7 48,c 50 47 [47,49],ex 51 0 50,ex 52 1 50,.e (some 12) (.al 42 (.agg #[(i 0),(.string ⟨#[]⟩),(.slice none 0 0)])),s 3 12 51,m 13 52] [2,3,4,9,11,12,13,40,41,42] <| .seq (z [bk 54 .neq 13 0] [2,3,4,9,11,12,13,40,41,42,54] <| j 54 (z [.r (some 55) (.bd #[(i 0),(.string ⟨#[]⟩),(.slice none 0 0)] []),s 3 4 55,m 5 13] [4,5] <| .ret) (.skip)) <| z [ln 57 3 12,f 58 1 11,ln 59 3 58,c 60 48 [57,59],no 61 60] [2,3,4,9,40,41,42,61] <| j 61 (z [.r (some 62) (.bd #[(i 0),(.string ⟨#[]⟩),(.slice none 0 0)] []),s 3 4 62,mk 5 83] [4,5] <| .ret) (.skip))) <| q [bk 63 .add 42 1,m 42 63] [2,3,4,9,40,41,42]
def ir69L3:IR:=z [bi 79 .lss 78 77] [2,4,14,15,76,77,78,79] <| .seq (j 79 (.skip) ((.exit 4))) <| .seq (.block 5 (z [ia 80 11 76 78,ln 81 11 80,.e (some 17) (.al 95 (.agg #[(.string ⟨#[]⟩),(i 0),(.string ⟨#[]⟩),(.slice none 0 0),(i 0),(.string ⟨#[]⟩),(i 0),(.slice none 0 0),(.slice none 0 0),(.slice none 0 0),(.slice none 0 0)])),s 11 17 81] [2,4,14,15,17,76,77,78] <| q' [l 82 2,n 83 82,f 84 6 83,l 85 84,f 86 0 17,l 87 86,.e none (.raw ⟨none,(.call { callee:=(.builtin .delete),args:=#[(.tmp 85),(.tmp 87)],argTypes:=#[127,9]}),0, "expr.go:251",#[⟨3,.data⟩,⟨5,.data⟩],none⟩)] [2,4,14,15,76,77,78])) <| q [bk 88 .add 78 1,m 78 88] [2,4,14,15,76,77,78]
def ir69:IR:=z [.e (some 2) (.bx 98 (.t 0)),.e (some 3) (.bx 47 (.t 1)),.e (some 4) (.al 42 (.agg #[(i 0),(.string ⟨#[]⟩),(.slice none 0 0)]))] [2,3,4] <| .seq (z [f 18 5 3,l 19 18,le 20 19,mk 21 0] [2,3,4,19,20,21] <| .block 0 (.loop ir69L1)) <| z [.r (some 33) (.mf (.func 89) [] [(.t 3),(.t 2)]),m 9 33] [2,3,4,9] <| .seq (z [f 34 0 3,l 35 34,bk 36 .eql 35 7] [2,3,4,9,36] <| j 36 (q [m 37 9,.e (some 38) (.raw ⟨(some 38),(.call { callee:=(.value (.tmp 37)),args:=#[],argTypes:=#[]}),0, "expr.go:237",#[⟨0,.data⟩],none⟩)] [2,3,4,9]) (.skip)) <| .seq (z [f 39 5 3,l 40 39,le 41 40,mk 42 0] [2,3,4,9,40,41,42] <| .block 2 (.loop ir69L2)) <| z [m 64 9,.e (some 65) (.raw ⟨(some 65),(.call { callee:=(.value (.tmp 64)),args:=#[],argTypes:=#[]}),0, "expr.go:248",#[⟨0,.data⟩],none⟩)] [2,3,4] <| .seq (.dr (r 0 67 (.l1 (.t 2)) <| r 1 68 (.fa 4 (.t 3)) <| r 2 69 (.l1 (.t 68)) <| r 3 70 (.ia 7 (.t 69) (k 0)) <| r 4 71 (.ln 7 (.t 70)) <| .e2 5 (some 72) (.call 47 [(.t 67),(.t 71)]) [] (r 6 66 (.mv (.t 72)) <| r 7 73 (.ex 0 (.t 66)) <| r 8 74 (.ex 1 (.t 66)) <| .e 9 none (some 14) (.al 42 (.agg #[(i 0),(.string ⟨#[]⟩),(.slice none 0 0)])) [0,2,4] <| .e 10 none none (.st 3 (.t 14) (.t 73)) [] <| r 11 15 (.mv (.t 74)) <| .nil) 9 (some 14) (.al 42 (.agg #[(i 0),(.string ⟨#[]⟩),(.slice none 0 0)])) [0,2,4]
   (.e 5 none (some 72) (.call 47 [(.t 67),(.t 71)]) [] <| r 6 66 (.mv (.t 72)) <| r 7 73 (.ex 0 (.t 66)) <| r 8 74 (.ex 1 (.t 66)) <| .e 10 none none (.st 3 (.t 14) (.t 73)) [] <| r 11 15 (.mv (.t 74)) <| .nil)) [2,3,4,14,15]) <| .seq (z [f 75 5 3,l 76 75,le 77 76,mk 78 0] [2,4,14,15,76,77,78] <| .block 4 (.loop ir69L3)) <| z [ln 89 3 14,s 3 4 89,m 5 15] [4,5] <| .ret
theorem fit69:Fits Tryz.prog 69 2 (hOf Tryz.f69 ir69) ir69 [.n 4 3,.t 5] 91:=.m Tryz.f69 _
def ir70L1:IR:=z [bi 39 .lss 38 37] [0,3,4,6,8,36,37,38,39] <| .seq (j 39 (.skip) ((.exit 0))) <| .seq (.block 1 (z [ia 41 11 36 38,ln 42 11 41,.e (some 10) (.al 97 (.agg #[(i 0),(.string ⟨#[]⟩),(i 0),(.slice none 0 0),(i 0),(.string ⟨#[]⟩),(i 0),(.slice none 0 0),(.slice none 0 0),(.slice none 0 0),(.slice none 0 0)])),m 9 38,s 11 10 42] [0,3,4,6,8,9,10,36,37,38] <| .seq (z [f 43 6 3,l 44 43,ln 46 3 6,c 47 90 [44,9,46],no 48 47] [0,3,4,6,8,9,10,36,37,38,48] <| j 48 (z [.r (some 49) (.bd #[(i 0),(.string ⟨#[]⟩),(.slice none 0 0)] []),s 3 4 49,mk 5 84] [4,5] <| .ret) (.skip)) <| z [ln 52 11 10,ln 53 3 6,c 54 91 [0,52,53],ex 55 0 54,ex 56 1 54,.e (some 11) (.al 42 (.agg #[(i 0),(.string ⟨#[]⟩),(.slice none 0 0)])),s 3 11 55,m 12 56] [0,3,4,6,8,9,11,12,36,37,38] <| .seq (z [bk 58 .neq 12 0] [0,3,4,6,8,9,11,12,36,37,38,58] <| j 58 (z [.r (some 59) (.bd #[(i 0),(.string ⟨#[]⟩),(.slice none 0 0)] []),s 3 4 59,m 5 12] [4,5] <| .ret) (.skip)) <| z [bk 62 .eql 9 0] [0,3,4,6,8,11,36,37,38,62] <| j 62 (q [ln 63 3 11,s 3 8 63] [0,3,4,6,8,36,37,38]) (z [ln 64 3 11,ln 65 3 8,c 66 48 [64,65],no 67 66] [0,3,4,6,8,36,37,38,67] <| j 67 (z [.r (some 68) (.bd #[(i 0),(.string ⟨#[]⟩),(.slice none 0 0)] []),s 3 4 68,mk 5 83] [4,5] <| .ret) (.skip)))) <| q [bk 69 .add 38 1,m 38 69] [0,3,4,6,8,36,37,38]
def ir70:IR:=z [.e (some 3) (.bx 47 (.t 1)),.e (some 4) (.al 42 (.agg #[(i 0),(.string ⟨#[]⟩),(.slice none 0 0)]))] [0,3,4] <| z [f 15 4 3,l 16 15,.r (some 17) (.ia 7 (.t 16) (k 0)),ln 18 7 17,c 19 47 [0,18],ex 20 0 19,ex 21 1 19,.e (some 6) (.al 42 (.agg #[(i 0),(.string ⟨#[]⟩),(.slice none 0 0)])),s 3 6 20,m 7 21] [0,3,4,6,7] <| .seq (z [bk 23 .neq 7 0] [0,3,4,6,7,23] <| j 23 (z [.r (some 24) (.bd #[(i 0),(.string ⟨#[]⟩),(.slice none 0 0)] []),s 3 4 24,m 5 7] [4,5] <| .ret) (.skip)) <| .seq (z [f 26 0 6,l 27 26,bk 28 .neq 27 1,f' 28 true 30 0 6,l' 28 true 31 30,bk' 28 true 32 .neq 31 4,a 33 28 32] [0,3,4,6,33] <| j 33 (z [.r (some 34) (.bd #[(i 0),(.string ⟨#[]⟩),(.slice none 0 0)] []),s 3 4 34,mk 5 83] [4,5] <| .ret) (.skip)) <| z [.e (some 8) (.al 42 (.agg #[(i 0),(.string ⟨#[]⟩),(.slice none 0 0)]))] [0,3,4,6,8] <| .seq (z [f 35 6 3,l 36 35,le 37 36,mk 38 0] [0,3,4,6,8,36,37,38] <| .block 0 (.loop ir70L1)) <| z [ln 70 3 8,s 3 4 70,mk 5 0] [4,5] <| .ret
theorem fit70:Fits Tryz.prog 70 2 (hOf Tryz.f70 ir70) ir70 [.n 4 3,.t 5] 71:=.m Tryz.f70 _
def ir71L1:IR:=z [bi 18 .lss 17 16] [1,2,15,16,17,18] <| .seq (j 18 (.skip) ((.exit 0))) <| .seq (.block 1 (z [ia 20 3 15 17,ln 21 3 20,.e (some 8) (.al 42 (.agg #[(i 0),(.string ⟨#[]⟩),(.slice none 0 0)])),m 7 17,s 3 8 21] [1,2,7,8,15,16,17] <| z [ia 24 3 1 7,ln 25 3 24,.e (some 9) (.al 42 (.agg #[(i 0),(.string ⟨#[]⟩),(.slice none 0 0)])),s 3 9 25] [1,2,8,9,15,16,17] <| z [m 26 2,ln 27 3 8,ln 28 3 9,.e (some 29) (.raw ⟨(some 29),(.call { callee:=(.value (.tmp 26)),args:=#[(.tmp 27),(.tmp 28)],argTypes:=#[42,42]}),4, "slices.go:43",#[⟨0,.data⟩,⟨1,.data⟩,⟨2,.data⟩],none⟩),no 30 29] [1,2,15,16,17,30] <| j 30 (z [.r (some 6) (.mv (.c (.bool false)))] [6] <| .ret) (.skip))) <| q [bk 31 .add 17 1,m 17 31] [1,2,15,16,17]
def ir71:IR:=z [] [0,1,2] <| .seq (z [le 11 0,le 13 1,bi 14 .neq 11 13] [0,1,2,14] <| j 14 (z [.r (some 6) (.mv (.c (.bool false)))] [6] <| .ret) (.skip)) <| .seq (z [m 15 0,le 16 15,mk 17 0] [1,2,15,16,17] <| .block 0 (.loop ir71L1)) <| z [.r (some 6) (.mv (.c (.bool true)))] [6] <| .ret
theorem fit71:Fits Tryz.prog 71 3 (hOf Tryz.f71 ir71) ir71 [.t 6] 32:=.m Tryz.f71 _
def ir72L1:IR:=.seq (z [n 6 0,f 7 0 6,l 8 7,bi 10 .neq 8 1] [0,1,10] <| j 10 (.skip) ((.exit 0))) <| .block 1 (q [n 12 0,f 13 2 12,l 14 13,m 0 14] [0,1])
def ir72:IR:=z [] [0,1] <| .seq (.block 0 (.loop ir72L1)) <| z [n 16 0,f 17 1 16,l 18 17,m 4 18] [4] <| .ret
theorem fit72:Fits Tryz.prog 72 2 (hOf Tryz.f72 ir72) ir72 [.t 4] 19:=.m Tryz.f72 _
def ir73:IR:=z [.e (some 3) (.bx 136 (.t 1))] [0,3] <| .dr (r 0 4 (.mv (.t 0)) <| r 1 5 (.mv (.t 0)) <| r 2 6 (.nn (.t 5)) <| r 3 7 (.fa 11 (.t 6)) <| r 4 8 (.l1 (.t 7)) <| r 5 9 (.ln 5 (.t 3)) <| .e 6 none (some 10) (.bs 136 1 #[(i 0),(.pointer none),(.pointer none),(.pointer none),(i 0)] [(0,5,(.t 9))]) [4] <| .e 7 none (some 11) (.ap 136 5 40 #[(i 0),(.pointer none),(.pointer none),(.pointer none),(i 0)] (.t 8) (.t 10)) [] <| r 8 12 (.nn (.t 4)) <| r 9 13 (.fa 11 (.t 12)) <| .e 10 none none (.st 1 (.t 13) (.t 11)) [] <| .nil) []
theorem fit73:Fits Tryz.prog 73 2 (hOf Tryz.f73 ir73) ir73 [] 14:=.m Tryz.f73 _
def ir74L1:IR:=z [bi 101 .lss 100 99] [10,15,16,98,99,100,101] <| .seq (j 101 (.skip) ((.exit 3))) <| .seq (.block 4 (z [ia 103 1 98 100,l 104 103,m 17 100,m 18 104] [10,15,16,17,18,98,99,100] <| q [n 107 10,f 108 1 107,l 109 108,ia 111 1 109 17,l 112 111,.r (some 114) (.bd #[(.string ⟨#[]⟩),(.pointer none),(.pointer none)] [(0,1,(.t 18)),(1,1,(.t 112)),(2,1,(.t 16))]),.e (some 115) (.bx 141 (.t 114)),m 16 115] [10,15,16,98,99,100])) <| q [bk 116 .add 100 1,m 100 116] [10,15,16,98,99,100]
def ir74L2:IR:=z [bi 36 .lss 35 34] [0,4,10,11,12,34,35,36] <| .seq (j 36 (.skip) ((.exit 0))) <| .seq (.block 1 (z [m 14 35] [0,4,10,11,12,14,34,35] <| z [f 38 2 4,l 39 38,n 40 39,f 41 6 40,l 42 41,ia 44 11 42 14,m 15 44] [0,4,10,11,12,15,34,35] <| .block 2 (.seq (z [n 47 15,f 48 0 47,l 49 48,bk 50 .eql 49 3,m 45 50] [0,4,10,11,12,15,34,35,45] <| j 45 (.skip) (q [n 52 15,f 53 0 52,l 54 53,bk 55 .eql 54 2,m' 55 true 57 11,no' 55 true 58 57,a 59 55 58,m' 59 true 61 15,n' 59 true 62 61,f' 59 true 63 2 62,l' 59 true 64 63,m' 59 true 65 12,bi' 59 true 66 .eql 64 65,a 67 59 66,m 45 67] [0,4,10,11,12,15,34,35,45])) <| j 45 (.seq (q' [m 68 15,n 69 68,f 70 4 69,f 71 3 4,l 72 71,m 6 70,m 7 72,.r (some 8) (.mv (.c .nilIface)),.r (some 9) (.mv (.c (.bool true)))] [6,7,8,9]) <| .ret) (.seq (q' [m 74 15,n 75 74,f 76 0 75,l 77 76,bk 78 .eql 77 1,m 79 78,m' 79 true 80 11,a 81 79 80,m 82 81,m' 82 true 83 15,n' 82 true 84 83,f' 82 true 85 1 84,l' 82 true 86 85,m' 82 true 87 10,n' 82 true 88 87,f' 82 true 89 0 88,l' 82 true 90 89,bi' 82 true 91 .eql 86 90,a 92 82 91,m 73 92] [0,4,10,11,12,15,34,35,73]) <| j 73 (z [f 93 3 4,l 94 93,m 16 94] [10,15,16] <| .seq (z [n 96 15,f 97 3 96,l 98 97,le 99 98,mk 100 0] [10,15,16,98,99,100] <| .block 3 (.loop ir74L1)) <| z [n 118 15,f 119 4 118,m 6 119,m 7 16,.r (some 8) (.mv (.c .nilIface)),.r (some 9) (.mv (.c (.bool true)))] [6,7,8,9] <| .ret) (.skip))))) <| q [bk 121 .add 35 1,m 35 121] [0,4,10,11,12,34,35]
def ir74:IR:=z [.e (some 4) (.bx 136 (.t 1))] [0,2,4] <| z [m 20 2,.e (some 21) (.raw ⟨(some 21),(.typeAssert (.tmp 20) 77 111 true),184, "run.go:274",#[⟨0,.data⟩],none⟩),m 19 21,ex 22 0 19,ex 23 1 19,m 10 22,m 11 23] [0,2,4,10,11] <| z [m 25 2,.e (some 26) (.raw ⟨(some 26),(.typeAssert (.tmp 25) 77 115 true),164, "run.go:275",#[⟨0,.data⟩],none⟩),m 24 26,ex 27 0 24,ex 28 1 24,m 12 27,m 13 28] [0,4,10,11,12] <| .seq (z [f 29 2 4,l 30 29,n 31 30,f 32 6 31,l 33 32,le 34 33,mk 35 0] [0,4,10,11,12,34,35] <| .block 0 (.loop ir74L2)) <| z [.e (some 123) (.call 52 [(.t 0),(k 2)])] [] <| z [.r (some 6) (.mv (.c (.pointer none))),.r (some 7) (.mv (.c (.pointer none))),.r (some 8) (.mv (.c .nilIface)),.r (some 9) (.mv (.c (.bool false)))] [6,7,8,9] <| .ret
theorem fit74:Fits Tryz.prog 74 3 (hOf Tryz.f74 ir74) ir74 [.t 6,.t 7,.t 8,.t 9] 124:=.m Tryz.f74 _
def ir75:IR:=z [] [0,1,2,3] <| z [.r (some 10) (.mv (.c (.bool false)))] [0,1,2,3,10] <| .seq (z [m 11 1] [0,1,2,3,10,11] <| .block 0 (z [.r (some 13) (.bi .eql (.t 11) (.c (.string ⟨#[43]⟩))),m 12 13] [0,1,2,3,10,11,12] <| j 12 (z [bi 16 .add 2 3,c 17 92 [16],.r (some 18) (.mi 115 (.t 17)),m 8 18,.r (some 9) (.mv (.c (.bool true)))] [8,9] <| .ret) (z [.r (some 20) (.bi .eql (.t 11) (.c (.string ⟨#[45]⟩))),m 19 20] [0,1,2,3,10,11,19] <| j 19 (z [bi 23 .sub 2 3,c 24 92 [23],.r (some 25) (.mi 115 (.t 24)),m 8 25,.r (some 9) (.mv (.c (.bool true)))] [8,9] <| .ret) (z [.r (some 27) (.bi .eql (.t 11) (.c (.string ⟨#[42]⟩))),m 26 27] [0,1,2,3,10,11,26] <| j 26 (z [bi 30 .mul 2 3,c 31 92 [30],.r (some 32) (.mi 115 (.t 31)),m 8 32,.r (some 9) (.mv (.c (.bool true)))] [8,9] <| .ret) (.seq (z [.r (some 34) (.bi .eql (.t 11) (.c (.string ⟨#[47]⟩))),m 33 34] [0,1,2,3,10,11,33] <| j 33 (.skip) (q [.r (some 35) (.bi .eql (.t 11) (.c (.string ⟨#[37]⟩))),m 33 35] [0,1,2,3,10,11,33])) <| j 33 (.seq (z [bk 37 .eql 3 0] [0,1,2,3,37] <| j 37 (z [.e (some 39) (.call 52 [(.t 0),(k 3)])] [] <| z [.r (some 8) (.mv (.c .nilIface)),.r (some 9) (.mv (.c (.bool false)))] [8,9] <| .ret) (.skip)) <| .seq (z [.r (some 41) (.bi .eql (.t 1) (.c (.string ⟨#[47]⟩)))] [2,3,41] <| j 41 (z [bi 44 .quo 2 3,c 45 92 [44],.r (some 46) (.mi 115 (.t 45)),m 8 46,.r (some 9) (.mv (.c (.bool true)))] [8,9] <| .ret) (.skip)) <| z [bi 49 .rem 2 3,.r (some 50) (.mi 115 (.t 49)),m 8 50,.r (some 9) (.mv (.c (.bool true)))] [8,9] <| .ret) (z [.r (some 52) (.bi .eql (.t 11) (.c (.string ⟨#[61,61]⟩))),m 51 52] [2,3,10,11,51] <| j 51 (q [bi 55 .eql 2 3,m 10 55] [10]) (z [.r (some 57) (.bi .eql (.t 11) (.c (.string ⟨#[47,61]⟩))),m 56 57] [2,3,10,11,56] <| j 56 (q [bi 60 .neq 2 3,m 10 60] [10]) (z [.r (some 62) (.bi .eql (.t 11) (.c (.string ⟨#[60]⟩))),m 61 62] [2,3,10,11,61] <| j 61 (q [bi 65 .lss 2 3,m 10 65] [10]) (z [.r (some 67) (.bi .eql (.t 11) (.c (.string ⟨#[60,61]⟩))),m 66 67] [2,3,10,11,66] <| j 66 (q [bi 70 .leq 2 3,m 10 70] [10]) (z [.r (some 72) (.bi .eql (.t 11) (.c (.string ⟨#[62]⟩))),m 71 72] [2,3,10,11,71] <| j 71 (q [bi 75 .gtr 2 3,m 10 75] [10]) (z [.r (some 77) (.bi .eql (.t 11) (.c (.string ⟨#[62,61]⟩))),m 76 77] [2,3,10,76] <| j 76 (q [bi 80 .geq 2 3,m 10 80] [10]) (.skip)))))))))))) <| .seq (z [m 81 10] [81] <| j 81 (z [.r (some 82) (.bd #[(.string ⟨#[]⟩),(.slice none 0 0)] [(0,1,(.c (.string ⟨#[84,114,117,101]⟩)))]),.e (some 83) (.bx 114 (.t 82)),.r (some 84) (.mi 111 (.t 83)),m 8 84,.r (some 9) (.mv (.c (.bool true)))] [8,9] <| .ret) (.skip)) <| z [.r (some 85) (.bd #[(.string ⟨#[]⟩),(.slice none 0 0)] [(0,1,(.c (.string ⟨#[70,97,108,115,101]⟩)))]),.e (some 86) (.bx 114 (.t 85)),.r (some 87) (.mi 111 (.t 86)),m 8 87,.r (some 9) (.mv (.c (.bool true)))] [8,9] <| .ret
theorem fit75:Fits Tryz.prog 75 4 (hOf Tryz.f75 ir75) ir75 [.t 8,.t 9] 88:=.m Tryz.f75 _
def ir76:IR:=z [.e (some 2) (.al 42 (.agg #[(i 0),(.string ⟨#[]⟩),(.slice none 0 0)]))] [0,2] <| z [.r (some 4) (.bd #[(i 0),(.string ⟨#[]⟩),(.slice none 0 0)] [(0,1,(k 2)),(1,1,(.t 0))]),s 3 2 4] [2] <| .ret
theorem fit76:Fits Tryz.prog 76 1 (hOf Tryz.f76 ir76) ir76 [.n 2 3] 5:=.m Tryz.f76 _
def ir77:IR:=z [.e (some 4) (.al 42 (.agg #[(i 0),(.string ⟨#[]⟩),(.slice none 0 0)]))] [0,1,4] <| z [.r (some 7) (.bd #[(i 0),(.string ⟨#[]⟩),(.slice none 0 0)] [(0,1,(k 4)),(1,1,(.t 0)),(2,1,(.t 1))]),s 3 4 7] [4] <| .ret
theorem fit77:Fits Tryz.prog 77 2 (hOf Tryz.f77 ir77) ir77 [.n 4 3] 8:=.m Tryz.f77 _
def ir78:IR:=z [] [0] <| z [.r (some 4) (.bd #[(i 0),(.string ⟨#[]⟩),(.slice none 0 0)] [(0,1,(k 4)),(1,1,(.t 0))]),c 5 60 [4],m 2 5] [2] <| .ret
theorem fit78:Fits Tryz.prog 78 1 (hOf Tryz.f78 ir78) ir78 [.t 2] 6:=.m Tryz.f78 _
def ir79:IR:=z [] [0,1] <| z [c 7 93 [0,1],bk 8 .geq 7 0,m 4 8] [4] <| .ret
theorem fit79:Fits Tryz.prog 79 2 (hOf Tryz.f79 ir79) ir79 [.t 4] 9:=.m Tryz.f79 _
def ir80:IR:=z [] [0] <| z [c 4 45 [0],no 5 4,m 2 5] [2] <| .ret
theorem fit80:Fits Tryz.prog 80 1 (hOf Tryz.f80 ir80) ir80 [.t 2] 6:=.m Tryz.f80 _
def ir81:IR:=z [] [0,1] <| z [c 7 94 [0,1],bk 8 .geq 7 0,m 4 8] [4] <| .ret
theorem fit81:Fits Tryz.prog 81 2 (hOf Tryz.f81 ir81) ir81 [.t 4] 9:=.m Tryz.f81 _
def ir82:IR:=z [.e (some 1) (.bx 66 (.t 0))] [1] <| z [f 3 0 1,l 4 3,c 5 44 [4],no 6 5,m 2 6] [2] <| .ret
theorem fit82:Fits Tryz.prog 82 1 (hOf Tryz.f82 ir82) ir82 [.t 2] 7:=.m Tryz.f82 _
def ir84:IR:=z [.e (some 1) (.bx 47 (.t 0))] [1] <| z [f 3 0 1,l 4 3,bk 5 .eql 4 0,f' 5 true 7 1 1,l' 5 true 8 7,.gr 5 true (some 9) (.bi .eql (.t 8) (.c (.string ⟨#[]⟩))),a 10 5 9,f' 10 true 12 2 1,l' 10 true 13 12,bk' 10 true 14 .eql 13 0,a 15 10 14,f' 15 true 17 3 1,l' 15 true 18 17,le' 15 true 19 18,f' 15 true 20 4 1,l' 15 true 21 20,le' 15 true 22 21,bi' 15 true 23 .add 19 22,f' 15 true 24 5 1,l' 15 true 25 24,le' 15 true 26 25,bi' 15 true 27 .add 23 26,f' 15 true 28 6 1,l' 15 true 29 28,le' 15 true 30 29,bi' 15 true 31 .add 27 30,bk' 15 true 32 .eql 31 0,a 33 15 32,m 2 33] [2] <| .ret
theorem fit84:Fits Tryz.prog 84 1 (hOf Tryz.f84 ir84) ir84 [.t 2] 34:=.m Tryz.f84 _
def ir85:IR:=z [.e (some 2) (.al 42 (.agg #[(i 0),(.string ⟨#[]⟩),(.slice none 0 0)]))] [0,2] <| .seq (z [m 4 0] [2,4] <| .block 0 (.seq (z [.r (some 6) (.bi .eql (.t 4) (.c (.string ⟨#[43]⟩))),m 5 6] [2,4,5] <| j 5 (.skip) (z [.r (some 7) (.bi .eql (.t 4) (.c (.string ⟨#[45]⟩))),m 5 7] [2,4,5] <| j 5 (.skip) (z [.r (some 8) (.bi .eql (.t 4) (.c (.string ⟨#[42]⟩))),m 5 8] [2,4,5] <| j 5 (.skip) (z [.r (some 9) (.bi .eql (.t 4) (.c (.string ⟨#[47]⟩))),m 5 9] [2,4,5] <| j 5 (.skip) (q [.r (some 10) (.bi .eql (.t 4) (.c (.string ⟨#[37]⟩))),m 5 10] [2,4,5]))))) <| j 5 (z [c 11 63 [],s 3 2 11,.r (some 3) (.mv (.c (.bool true)))] [2,3] <| .ret) (.seq (z [.r (some 13) (.bi .eql (.t 4) (.c (.string ⟨#[61,61]⟩))),m 12 13] [2,4,12] <| j 12 (.skip) (z [.r (some 14) (.bi .eql (.t 4) (.c (.string ⟨#[47,61]⟩))),m 12 14] [2,4,12] <| j 12 (.skip) (z [.r (some 15) (.bi .eql (.t 4) (.c (.string ⟨#[60]⟩))),m 12 15] [2,4,12] <| j 12 (.skip) (z [.r (some 16) (.bi .eql (.t 4) (.c (.string ⟨#[60,61]⟩))),m 12 16] [2,4,12] <| j 12 (.skip) (z [.r (some 17) (.bi .eql (.t 4) (.c (.string ⟨#[62]⟩))),m 12 17] [2,4,12] <| j 12 (.skip) (q [.r (some 18) (.bi .eql (.t 4) (.c (.string ⟨#[62,61]⟩))),m 12 18] [2,12])))))) <| j 12 (z [.e (some 19) (.call 77 [(.c (.string ⟨#[66,111,111,108]⟩)),(.c (.slice none 0 0))]),s 3 2 19,.r (some 3) (.mv (.c (.bool true)))] [2,3] <| .ret) (.skip)))) <| z [.r (some 20) (.bd #[(i 0),(.string ⟨#[]⟩),(.slice none 0 0)] []),s 3 2 20,.r (some 3) (.mv (.c (.bool false)))] [2,3] <| .ret
theorem fit85:Fits Tryz.prog 85 1 (hOf Tryz.f85 ir85) ir85 [.n 2 3,.t 3] 21:=.m Tryz.f85 _
def ir86:IR:=z [.e (some 3) (.bx 42 (.t 0)),.e (some 6) (.al 42 (.agg #[(i 0),(.string ⟨#[]⟩),(.slice none 0 0)]))] [1,2,3,6] <| z [.e (some 8) (.al 3 (i 0)),.e none (.st 1 (.t 8) (k 500))] [1,2,3,6,8] <| z [ln 10 3 3,c 13 99 [10,1,2,8],.e (some 9) (.al 42 (.agg #[(i 0),(.string ⟨#[]⟩),(.slice none 0 0)])),s 3 9 13] [6,8,9] <| .seq (.dr (r 0 14 (.ln 3 (.t 9)) <| r 1 15 (.l1 (.t 8)) <| r 2 16 (.bi .geq (.t 15) (k 0)) <| .e 3 none none (.st 3 (.t 6) (.t 14)) [1] <| r 4 7 (.mv (.t 16)) <| .nil) [6,7]) <| .ret
theorem fit86:Fits Tryz.prog 86 3 (hOf Tryz.f86 ir86) ir86 [.n 6 3,.t 7] 17:=.m Tryz.f86 _
def ir87:IR:=z [.e (some 2) (.bx 42 (.t 0)),.e (some 3) (.bx 42 (.t 1)),.e (some 4) (.al 42 (.agg #[(i 0),(.string ⟨#[]⟩),(.slice none 0 0)]))] [2,3,4] <| z [ln 5 3 2,ln 6 3 3,.e (some 7) (.bs 42 2 #[(i 0),(.string ⟨#[]⟩),(.slice none 0 0),(i 0),(.string ⟨#[]⟩),(.slice none 0 0)] [(0,3,(.t 5)),(3,3,(.t 6))]),.r (some 8) (.bd #[(i 0),(.string ⟨#[]⟩),(.slice none 0 0)] [(0,1,(k 3)),(2,1,(.t 7))]),s 3 4 8] [4] <| .ret
theorem fit87:Fits Tryz.prog 87 2 (hOf Tryz.f87 ir87) ir87 [.n 4 3] 9:=.m Tryz.f87 _
def ir88:IR:=z [.e (some 3) (.bx 95 (.t 1))] [0,3] <| .seq (.seq (.dr (r 0 5 (.fa 0 (.t 3)) <| r 1 6 (.l1 (.t 5)) <| .e 2 none (some 7) (.call 44 [(.t 6)]) [8,10] <| r 3 8 (.no (.t 7)) <| r 4 9 (.mv (.t 8)) <| .r 5 (some (9,false)) (some 10) (.mv (.t 0)) <| .r 6 (some (9,false)) (some 11) (.nn (.t 10)) <| .r 7 (some (9,false)) (some 12) (.fa 5 (.t 11)) <| .r 8 (some (9,false)) (some 13) (.l1 (.t 12)) <| .r 9 (some (9,false)) (some 14) (.fa 0 (.t 3)) <| .r 10 (some (9,false)) (some 15) (.l1 (.t 14)) <| .e 11 (some (9,false)) (some 16) (.raw ⟨(some 16),(.lookup 90 (.tmp 13) (.tmp 15) false),3, "expr.go:197",#[⟨8,.data⟩,⟨10,.data⟩,⟨4,.guard⟩],some (4,false)⟩) [] <| .r 12 (some (9,false)) (some 17) (.bi .gtr (.t 16) (k 0)) <| r 13 18 (.pk (.t 9) (.c (.bool true)) (.t 17)) <| .nil) [0,3,18]) <| j 18 (z [mk 4 82] [4] <| .ret) (.skip)) <| .seq (q' [m 19 0,n 20 19,f 21 5 20,l 22 21,f 23 0 3,l 24 23,.e none (.raw ⟨none,(.mapUpdate 90 (.tmp 22) (.tmp 24) (.const (i 1))),0, "expr.go:200",#[⟨3,.data⟩,⟨5,.data⟩,⟨0,.phase⟩,⟨1,.phase⟩,⟨2,.phase⟩,⟨3,.phase⟩,⟨4,.phase⟩,⟨5,.phase⟩],none⟩)] [0,3]) <| .seq (z [f 26 1 3,ln 27 3 26,c 28 46 [0,27],no 29 28] [29] <| j 29 (z [mk 4 83] [4] <| .ret) (.skip)) <| z [mk 4 0] [4] <| .ret
theorem fit88:Fits Tryz.prog 88 2 (hOf Tryz.f88 ir88) ir88 [.t 4] 30:=.m Tryz.f88 _
def ir89L1:IR:=z [bi 8 .lss 7 6] [1,5,6,7,8] <| .seq (j 8 (.skip) ((.exit 0))) <| .seq (.block 1 (z [ia 9 11 5 7,ln 10 11 9,.e (some 3) (.al 95 (.agg #[(.string ⟨#[]⟩),(i 0),(.string ⟨#[]⟩),(.slice none 0 0),(i 0),(.string ⟨#[]⟩),(i 0),(.slice none 0 0),(.slice none 0 0),(.slice none 0 0),(.slice none 0 0)])),s 11 3 10] [1,3,5,6,7] <| q' [l 11 1,n 12 11,f 13 6 12,l 14 13,f 15 0 3,l 16 15,f 17 1 3,ln 18 3 17,.e none (.raw ⟨none,(.mapUpdate 127 (.tmp 14) (.tmp 16) (.tmp 18)),0, "expr.go:233",#[⟨3,.data⟩,⟨5,.data⟩,⟨7,.data⟩,⟨0,.phase⟩,⟨1,.phase⟩,⟨2,.phase⟩,⟨3,.phase⟩,⟨4,.phase⟩,⟨5,.phase⟩,⟨6,.phase⟩,⟨7,.phase⟩],none⟩)] [1,5,6,7])) <| q [bk 19 .add 7 1,m 7 19] [1,5,6,7]
def ir89:IR:=z [f 4 5 0,l 5 4,le 6 5,mk 7 0] [1,5,6,7] <| .block 0 (.loop ir89L1)
theorem fit89:Fits Tryz.prog 89 2 (hOf Tryz.f89 ir89) ir89 [] 20:=.m Tryz.f89 _
def ir90:IR:=z [.e (some 5) (.bx 42 (.t 2))] [0,1,5] <| z [ia 10 11 0 1,ln 11 11 10,.e (some 7) (.al 97 (.agg #[(i 0),(.string ⟨#[]⟩),(i 0),(.slice none 0 0),(i 0),(.string ⟨#[]⟩),(i 0),(.slice none 0 0),(.slice none 0 0),(.slice none 0 0),(.slice none 0 0)])),s 11 7 11] [0,1,5,7] <| .seq (z [f 12 0 7,l 13 12] [0,1,5,7,13] <| .block 0 (z [bk 15 .eql 13 1,m 14 15] [0,1,5,7,13,14] <| j 14 (z [f 16 2 7,l 17 16,bk 18 .neq 17 0,f' 18 false 20 0 5,l' 18 false 21 20,bk' 18 false 22 .neq 21 4,u 23 18 22] [0,1,7,23] <| j 23 (z [.r (some 6) (.mv (.c (.bool false)))] [6] <| .ret) (.skip)) (z [bk 25 .eql 13 2,m 24 25] [0,1,5,7,13,24] <| j 24 (z [f 26 1 7,l 27 26,.r (some 28) (.bi .neq (.t 27) (.c (.string ⟨#[]⟩))),f' 28 false 30 3 7,l' 28 false 31 30,le' 28 false 32 31,bk' 28 false 33 .gtr 32 0,u 34 28 33,f' 34 false 36 0 5,l' 34 false 37 36,bk' 34 false 38 .neq 37 1,u 39 34 38,f' 39 false 41 2 7,l' 39 false 42 41,bk' 39 false 43 .lss 42 (-4611686018427387904),u 44 39 43,f' 44 false 46 2 7,l' 44 false 47 46,bk' 44 false 48 .gtr 47 4611686018427387903,u 49 44 48] [0,1,7,49] <| j 49 (z [.r (some 6) (.mv (.c (.bool false)))] [6] <| .ret) (.skip)) (z [bk 51 .eql 13 3,m 50 51] [0,1,7,50] <| j 50 (z [f 52 1 7,l 53 52,.r (some 54) (.bi .eql (.t 53) (.c (.string ⟨#[]⟩))),f' 54 true 56 2 7,l' 54 true 57 56,bk' 54 true 58 .eql 57 0,a 59 54 58,f' 59 true 61 3 7,l' 59 true 62 61,le' 59 true 63 62,bk' 59 true 64 .eql 63 0,a 65 59 64,m' 65 true 67 1,m' 65 true 68 0,le' 65 true 69 68,bk' 65 true 70 .sub 69 1,bi' 65 true 71 .eql 67 70,a 72 65 71,m 6 72] [6] <| .ret) (z [.r (some 6) (.mv (.c (.bool false)))] [6] <| .ret))))) <| z [.r (some 75) (.sl 11 (.t 0) none (some (.t 1)) none),.r (some 76) (.mf (.func 101) [] [(.t 7)]),c 77 100 [75,76],no 78 77,m 6 78] [6] <| .ret
theorem fit90:Fits Tryz.prog 90 3 (hOf Tryz.f90 ir90) ir90 [.t 6] 79:=.m Tryz.f90 _
def ir91L1:IR:=z [bi 74 .lss 73 72] [0,4,5,6,8,10,71,72,73,74] <| .seq (j 74 (.skip) ((.exit 0))) <| .seq (.block 1 (z [ia 75 1 71 73,l 76 75,m 12 76] [0,4,5,6,8,10,12,71,72,73] <| .seq (z [m 77 12,c 78 44 [77],no 79 78,m 80 79,m' 80 false 81 0,n' 80 false 82 81,f' 80 false 83 5 82,l' 80 false 84 83,m' 80 false 85 12,.ge 80 false (some 86) (.raw ⟨(some 86),(.lookup 90 (.tmp 84) (.tmp 85) false),3, "expr.go:316",#[⟨7,.data⟩,⟨8,.data⟩,⟨3,.guard⟩],some (3,false)⟩),bk' 80 false 87 .gtr 86 0,u 88 80 87] [0,4,5,6,8,10,12,71,72,73,88] <| j 88 (z [.r (some 89) (.bd #[(i 0),(.string ⟨#[]⟩),(.slice none 0 0)] []),s 3 6 89,mk 7 82] [6,7] <| .ret) (.skip)) <| q [m 90 0,n 91 90,f 92 5 91,l 93 92,m 94 12,.e none (.raw ⟨none,(.mapUpdate 90 (.tmp 93) (.tmp 94) (.const (i 1))),0, "expr.go:319",#[⟨3,.data⟩,⟨4,.data⟩,⟨0,.phase⟩,⟨1,.phase⟩,⟨2,.phase⟩,⟨3,.phase⟩,⟨4,.phase⟩],none⟩)] [0,4,5,6,8,10,71,72,73])) <| q [bk 95 .add 73 1,m 73 95] [0,4,5,6,8,10,71,72,73]
def ir91L2:IR:=z [bi 100 .lss 99 98] [0,4,5,6,8,10,97,98,99,100] <| .seq (j 100 (.skip) ((.exit 2))) <| .seq (.block 3 (z [ia 102 1 97 99,l 103 102,m 13 99,m 14 103] [0,4,5,6,8,10,13,14,97,98,99] <| .seq (.dr (r 0 105 (.mv (.t 10)) <| r 1 106 (.mv (.t 13)) <| r 2 107 (.ia 3 (.t 105) (.t 106)) <| r 3 108 (.ln 3 (.t 107)) <| r 4 109 (.fa 0 (.t 8)) <| r 5 110 (.l1 (.t 109)) <| r 6 111 (.nn (.t 110)) <| r 7 112 (.fa 1 (.t 111)) <| r 8 113 (.l1 (.t 112)) <| r 9 114 (.fa 2 (.t 5)) <| r 10 115 (.l1 (.t 114)) <| .e2 11 (some 116) (.call 86 [(.t 108),(.t 113),(.t 115)]) [] (r 12 104 (.mv (.t 116)) <| r 13 117 (.ex 0 (.t 104)) <| r 14 118 (.ex 1 (.t 104)) <| .e 15 none (some 15) (.al 42 (.agg #[(i 0),(.string ⟨#[]⟩),(.slice none 0 0)])) [3,5,8,10] <| .e 16 none none (.st 3 (.t 15) (.t 117)) [] <| r 17 16 (.mv (.t 118)) <| .nil) 15 (some 15) (.al 42 (.agg #[(i 0),(.string ⟨#[]⟩),(.slice none 0 0)])) [3,5,8,10]
   (.e 11 none (some 116) (.call 86 [(.t 108),(.t 113),(.t 115)]) [] <| r 12 104 (.mv (.t 116)) <| r 13 117 (.ex 0 (.t 104)) <| r 14 118 (.ex 1 (.t 104)) <| .e 16 none none (.st 3 (.t 15) (.t 117)) [] <| r 17 16 (.mv (.t 118)) <| .nil)) [0,4,5,6,8,10,14,15,16,97,98,99]) <| .seq (z [no 120 16] [0,4,5,6,8,10,14,15,97,98,99,120] <| j 120 (z [.r (some 121) (.bd #[(i 0),(.string ⟨#[]⟩),(.slice none 0 0)] []),s 3 6 121,mk 7 83] [6,7] <| .ret) (.skip)) <| q' [m 122 0,n 123 122,f 124 6 123,l 125 124,m 126 14,ln 127 3 15,.e none (.raw ⟨none,(.mapUpdate 127 (.tmp 125) (.tmp 126) (.tmp 127)),0, "expr.go:326",#[⟨3,.data⟩,⟨4,.data⟩,⟨5,.data⟩,⟨0,.phase⟩,⟨1,.phase⟩,⟨2,.phase⟩,⟨3,.phase⟩,⟨4,.phase⟩,⟨5,.phase⟩],none⟩)] [0,4,5,6,8,10,97,98,99])) <| q [bk 128 .add 99 1,m 99 128] [0,4,5,6,8,10,97,98,99]
def ir91L3:IR:=z [bi 140 .lss 139 138] [0,6,17,18,137,138,139,140] <| .seq (j 140 (.skip) ((.exit 4))) <| .seq (.block 5 (z [ia 141 1 137 139,l 142 141,m 20 142] [0,6,17,18,20,137,138,139] <| q [m 143 0,n 144 143,f 145 6 144,l 146 145,m 147 20,.e none (.raw ⟨none,(.call { callee:=(.builtin .delete),args:=#[(.tmp 146),(.tmp 147)],argTypes:=#[127,9]}),0, "expr.go:330",#[⟨3,.data⟩,⟨4,.data⟩],none⟩)] [0,6,17,18,137,138,139])) <| q [bk 148 .add 139 1,m 139 148] [0,6,17,18,137,138,139]
def ir91:IR:=z [.e (some 4) (.bx 97 (.t 1)),.e (some 5) (.bx 42 (.t 2)),.e (some 6) (.al 42 (.agg #[(i 0),(.string ⟨#[]⟩),(.slice none 0 0)]))] [0,4,5,6] <| .seq (z [f 21 0 4,l 22 21,bk 23 .neq 22 1] [0,4,5,6,23] <| j 23 (z [f 25 4 4,ln 26 7 25,c 27 47 [0,26],ex 28 0 27,ex 29 1 27,s 3 6 28,m 7 29] [6,7] <| .ret) (.skip)) <| .seq (.dr (r 0 31 (.mv (.t 0)) <| r 1 32 (.nn (.t 31)) <| r 2 33 (.fa 1 (.t 32)) <| r 3 34 (.l1 (.t 33)) <| r 4 35 (.fa 1 (.t 4)) <| r 5 36 (.l1 (.t 35)) <| .e2 6 (some 37) (.raw ⟨(some 37),(.lookup 125 (.tmp 34) (.tmp 36) true),159, "expr.go:307",#[⟨3,.data⟩,⟨5,.data⟩],none⟩) [] (r 7 30 (.mv (.t 37)) <| r 8 38 (.ex 0 (.t 30)) <| r 9 39 (.ex 1 (.t 30)) <| .e 10 none (some 8) (.al 158 (.agg #[(.pointer none),(i 0)])) [3,5] <| .e 11 none none (.st 2 (.t 8) (.t 38)) [] <| r 12 9 (.mv (.t 39)) <| .nil) 10 (some 8) (.al 158 (.agg #[(.pointer none),(i 0)])) [3,5]
   (.e 6 none (some 37) (.raw ⟨(some 37),(.lookup 125 (.tmp 34) (.tmp 36) true),159, "expr.go:307",#[⟨3,.data⟩,⟨5,.data⟩],none⟩) [] <| r 7 30 (.mv (.t 37)) <| r 8 38 (.ex 0 (.t 30)) <| r 9 39 (.ex 1 (.t 30)) <| .e 11 none none (.st 2 (.t 8) (.t 38)) [] <| r 12 9 (.mv (.t 39)) <| .nil)) [0,4,5,6,8,9]) <| .seq (.seq (q' [m 40 9,no 41 40,m 42 41,f' 42 false 43 0 8,l' 42 false 44 43,n' 42 false 45 44,f' 42 false 46 0 45,l' 42 false 47 46,f' 42 false 48 1 5,l' 42 false 49 48,bi' 42 false 50 .neq 47 49,u 51 42 50] [0,4,5,6,8,51]) <| j 51 (z [.r (some 52) (.bd #[(i 0),(.string ⟨#[]⟩),(.slice none 0 0)] []),s 3 6 52,mk 7 82] [6,7] <| .ret) (.skip)) <| .seq (q' [f 53 0 8,l 54 53,n 55 54,f 56 2 55,l 57 56,f 58 1 8,l 59 58,ia 60 2 57 59,f 61 1 60,l 62 61,m 10 62] [0,4,5,6,8,10]) <| .seq (z [le 64 10,f 65 3 4,l 66 65,le 67 66,bi 68 .neq 64 67] [0,4,5,6,8,10,68] <| j 68 (z [.r (some 69) (.bd #[(i 0),(.string ⟨#[]⟩),(.slice none 0 0)] []),s 3 6 69,mk 7 84] [6,7] <| .ret) (.skip)) <| .seq (z [f 70 3 4,l 71 70,le 72 71,mk 73 0] [0,4,5,6,8,10,71,72,73] <| .block 0 (.loop ir91L1)) <| .seq (z [f 96 3 4,l 97 96,le 98 97,mk 99 0] [0,4,5,6,8,10,97,98,99] <| .block 2 (.loop ir91L2)) <| z [f 131 4 4,ln 132 7 131,c 133 47 [0,132],ex 134 0 133,ex 135 1 133,.e (some 17) (.al 42 (.agg #[(i 0),(.string ⟨#[]⟩),(.slice none 0 0)])),s 3 17 134,m 18 135] [0,4,6,17,18] <| .seq (z [f 136 3 4,l 137 136,le 138 137,mk 139 0] [0,6,17,18,137,138,139] <| .block 4 (.loop ir91L3)) <| z [ln 149 3 17,s 3 6 149,m 7 18] [6,7] <| .ret
theorem fit91:Fits Tryz.prog 91 3 (hOf Tryz.f91 ir91) ir91 [.n 6 3,.t 7] 151:=.m Tryz.f91 _
def ir92:IR:=z [] [0] <| z [.r (some 4) (.bi .shl (.t 0) (.c (.int .u64 1))),.r (some 5) (.bi .shr (.t 4) (.c (.int .u64 1))),m 2 5] [2] <| .ret
theorem fit92:Fits Tryz.prog 92 1 (hOf Tryz.f92 ir92) ir92 [.t 2] 6:=.m Tryz.f92 _
def ir93L1:IR:=z [bi 9 .lss 8 7] [0,1,7,8,9] <| .seq (j 9 (.skip) ((.exit 0))) <| .seq (.block 1 (z [m 5 8] [0,1,5,7,8] <| z [m 11 1,m 12 0,m 13 5,ia 14 1 12 13,l 15 14,.e (some 16) (.raw ⟨(some 16),(.call { callee:=(.value (.tmp 11)),args:=#[(.tmp 15)],argTypes:=#[9]}),4, "slices.go:109",#[⟨0,.data⟩,⟨4,.data⟩],none⟩)] [0,1,5,7,8,16] <| j 16 (z [m 4 5] [4] <| .ret) (.skip))) <| q [bk 18 .add 8 1,m 8 18] [0,1,7,8]
def ir93:IR:=z [] [0,1] <| .seq (z [le 7 0,mk 8 0] [0,1,7,8] <| .block 0 (.loop ir93L1)) <| z [mk 4 (-1)] [4] <| .ret
theorem fit93:Fits Tryz.prog 93 2 (hOf Tryz.f93 ir93) ir93 [.t 4] 19:=.m Tryz.f93 _
def ir94L1:IR:=z [bi 9 .lss 8 7] [0,1,7,8,9] <| .seq (j 9 (.skip) ((.exit 0))) <| .seq (.block 1 (z [m 5 8] [0,1,5,7,8] <| z [m 11 1,m 12 0,m 13 5,ia 14 2 12 13,ln 15 2 14,.e (some 16) (.raw ⟨(some 16),(.call { callee:=(.value (.tmp 11)),args:=#[(.tmp 15)],argTypes:=#[66]}),4, "slices.go:109",#[⟨0,.data⟩,⟨4,.data⟩],none⟩)] [0,1,5,7,8,16] <| j 16 (z [m 4 5] [4] <| .ret) (.skip))) <| q [bk 18 .add 8 1,m 8 18] [0,1,7,8]
def ir94:IR:=z [] [0,1] <| .seq (z [le 7 0,mk 8 0] [0,1,7,8] <| .block 0 (.loop ir94L1)) <| z [mk 4 (-1)] [4] <| .ret
theorem fit94:Fits Tryz.prog 94 2 (hOf Tryz.f94 ir94) ir94 [.t 4] 19:=.m Tryz.f94 _
def ir95:IR:=z [.e (some 1) (.bx 42 (.t 0))] [1] <| .seq (.block 0 (z [ln 4 3 1,c 5 102 [4],no 6 5,m 3 6] [1,3] <| j 3 (z [mk 2 53] [2] <| .ret) (z [ln 8 3 1,c 9 103 [8],bk 10 .gtr 9 500,m 7 10] [7] <| j 7 (z [mk 2 4] [2] <| .ret) (.skip)))) <| z [mk 2 0] [2] <| .ret
theorem fit95:Fits Tryz.prog 95 1 (hOf Tryz.f95 ir95) ir95 [.t 2] 11:=.m Tryz.f95 _
def ir96:IR:=z [.e (some 1) (.bx 42 (.t 0))] [1] <| z [.r (some 3) (.mf (.func 104) [] [(.t 1)]),m 2 3] [2] <| .ret
theorem fit96:Fits Tryz.prog 96 1 (hOf Tryz.f96 ir96) ir96 [.t 2] 4:=.m Tryz.f96 _
def ir97:IR:=z [] [0] <| z [m 4 0,bk 5 .rem 4 26,.r (some 6) (.bi .add (k 97) (.t 5)),.r (some 7) (.cv .i32 (.t 6)),.e (some 8) (.raw ⟨(some 8),(.convert 21 9 (.tmp 7)),9, "types.go:185",#[⟨3,.data⟩],none⟩),m 3 8] [0,3] <| .seq (z [bk 10 .lss 0 26] [0,3,10] <| j 10 (z [m 2 3] [2] <| .ret) (.skip)) <| z [bk 14 .quo 0 26,c 15 106 [14],bi 16 .add 3 15,m 2 16] [2] <| .ret
theorem fit97:Fits Tryz.prog 97 1 (hOf Tryz.f97 ir97) ir97 [.t 2] 17:=.m Tryz.f97 _
def ir98L1:IR:=z [bi 29 .lss 28 27] [1,2,4,27,28,29] <| .seq (j 29 (.skip) ((.exit 0))) <| .seq (.block 1 (z [m 7 28] [1,2,4,7,27,28] <| .dr (r 0 31 (.fa 2 (.t 2)) <| r 1 32 (.l1 (.t 31)) <| r 2 33 (.mv (.t 7)) <| r 3 34 (.fa 2 (.t 2)) <| r 4 35 (.l1 (.t 34)) <| r 5 36 (.mv (.t 7)) <| r 6 37 (.ia 3 (.t 35) (.t 36)) <| r 7 38 (.ln 3 (.t 37)) <| r 8 39 (.mv (.t 1)) <| .e 9 none (some 40) (.call 98 [(.t 38),(.t 39)]) [1] <| r 10 41 (.ia 3 (.t 32) (.t 33)) <| .e 11 none none (.st 3 (.t 41) (.t 40)) [] <| .nil) [1,2,4,27,28])) <| q [bk 42 .add 28 1,m 28 42] [1,2,4,27,28]
def ir98:IR:=z [.e (some 2) (.bx 42 (.t 0)),.e (some 4) (.al 42 (.agg #[(i 0),(.string ⟨#[]⟩),(.slice none 0 0)]))] [1,2,4] <| .seq (z [f 8 0 2,l 9 8,bk 10 .eql 9 2] [1,2,4,10] <| j 10 (z [m 12 1,f 13 1 2,l 14 13,.e (some 15) (.raw ⟨(some 15),(.lookup 127 (.tmp 12) (.tmp 14) true),155, "types.go:142",#[⟨0,.data⟩,⟨2,.data⟩],none⟩),m 11 15,ex 16 0 11,ex 17 1 11,.e (some 5) (.al 42 (.agg #[(i 0),(.string ⟨#[]⟩),(.slice none 0 0)])),s 3 5 16,m 6 17] [1,2,4,5,6] <| z [m 18 6] [1,2,4,5,18] <| j 18 (z [ln 19 3 5,c 20 107 [19],s 3 4 20] [4] <| .ret) (.skip)) (.skip)) <| z [f 21 2 2,l 22 21,c 23 108 [22],f 24 2 2,s 1 24 23] [1,2,4] <| .seq (z [f 25 2 2,l 26 25,le 27 26,mk 28 0] [1,2,4,27,28] <| .block 0 (.loop ir98L1)) <| z [ln 43 3 2,s 3 4 43] [4] <| .ret
theorem fit98:Fits Tryz.prog 98 2 (hOf Tryz.f98 ir98) ir98 [.n 4 3] 44:=.m Tryz.f98 _
def ir99L1:IR:=z [bi 52 .lss 51 50] [1,2,3,8,10,49,50,51,52] <| .seq (j 52 (.skip) ((.exit 0))) <| .seq (.block 1 (z [ia 53 3 49 51,ln 54 3 53,.e (some 12) (.al 42 (.agg #[(i 0),(.string ⟨#[]⟩),(.slice none 0 0)])),s 3 12 54] [1,2,3,8,10,12,49,50,51] <| .seq (z [n 56 3,l 57 56,bk 58 .lss 57 0] [1,2,3,8,10,12,49,50,51,58] <| j 58 ((.exit 0)) (.skip)) <| .dr (r 0 59 (.fa 2 (.t 10)) <| r 1 60 (.l1 (.t 59)) <| r 2 61 (.ln 3 (.t 12)) <| r 3 62 (.mv (.t 1)) <| r 4 63 (.mv (.t 2)) <| r 5 64 (.mv (.t 3)) <| .e 6 none (some 65) (.call 99 [(.t 61),(.t 62),(.t 63),(.t 64)]) [1] <| .e 7 none (some 66) (.bs 42 1 #[(i 0),(.string ⟨#[]⟩),(.slice none 0 0)] [(0,3,(.t 65))]) [1] <| .e 8 none (some 67) (.ap 42 3 48 #[(i 0),(.string ⟨#[]⟩),(.slice none 0 0)] (.t 60) (.t 66)) [] <| r 9 68 (.fa 2 (.t 10)) <| .e 10 none none (.st 1 (.t 68) (.t 67)) [] <| .nil) [1,2,3,8,10,49,50,51])) <| q [bk 69 .add 51 1,m 51 69] [1,2,3,8,10,49,50,51]
def ir99:IR:=z [.e (some 4) (.bx 42 (.t 0)),.e (some 8) (.al 42 (.agg #[(i 0),(.string ⟨#[]⟩),(.slice none 0 0)]))] [1,2,3,4,8] <| .seq (z [f 14 1 4,l 15 14,c 16 109 [1,15],m 9 16] [1,2,3,4,8,9] <| z [f 17 0 4,l 18 17,bk 19 .eql 18 2,m' 19 true 21 9,bk' 19 true 22 .geq 21 0,a 23 19 22] [1,2,3,4,8,9,23] <| j 23 (.seq (.dr (r 0 24 (.mv (.t 3)) <| r 1 25 (.nn (.t 24)) <| r 2 26 (.l1 (.t 25)) <| r 3 27 (.mv (.t 2)) <| r 4 28 (.mv (.t 9)) <| r 5 29 (.ia 3 (.t 27) (.t 28)) <| r 6 30 (.ln 3 (.t 29)) <| .e 7 none (some 31) (.call 55 [(.t 30)]) [2] <| r 8 32 (.bi .sub (.t 26) (.t 31)) <| r 9 33 (.nn (.t 24)) <| .e 10 none none (.st 1 (.t 33) (.t 32)) [] <| .nil) [2,8,9]) <| z [ia 36 3 2 9,ln 37 3 36,s 3 8 37] [8] <| .ret) (.skip)) <| z [n 39 3,l 40 39,bk 41 .sub 40 1,n 42 3,s 1 42 41] [1,2,3,4,8] <| z [f 43 0 4,l 44 43,f 45 1 4,l 46 45,.r (some 47) (.bd #[(i 0),(.string ⟨#[]⟩),(.slice none 0 0)] [(0,1,(.t 44)),(1,1,(.t 46))]),.e (some 10) (.al 42 (.agg #[(i 0),(.string ⟨#[]⟩),(.slice none 0 0)])),s 3 10 47] [1,2,3,4,8,10] <| .seq (z [f 48 2 4,l 49 48,le 50 49,mk 51 0] [1,2,3,8,10,49,50,51] <| .block 0 (.loop ir99L1)) <| z [ln 70 3 10,s 3 8 70] [8] <| .ret
theorem fit99:Fits Tryz.prog 99 4 (hOf Tryz.f99 ir99) ir99 [.n 8 3] 71:=.m Tryz.f99 _
def ir100:IR:=z [] [0,1] <| z [c 7 110 [0,1],bk 8 .geq 7 0,m 4 8] [4] <| .ret
theorem fit100:Fits Tryz.prog 100 2 (hOf Tryz.f100 ir100) ir100 [.t 4] 9:=.m Tryz.f100 _
def ir101:IR:=z [.e (some 2) (.bx 97 (.t 0))] [1,2] <| z [f 4 0 2,l 5 4,f 6 0 1,l 7 6,bi 8 .eql 5 7,f' 8 true 10 1 2,l' 8 true 11 10,f' 8 true 12 1 1,l' 8 true 13 12,bi' 8 true 14 .eql 11 13,a 15 8 14,f' 15 true 17 2 2,l' 15 true 18 17,f' 15 true 19 2 1,l' 15 true 20 19,bi' 15 true 21 .eql 18 20,a 22 15 21,m 3 22] [3] <| .ret
theorem fit101:Fits Tryz.prog 101 2 (hOf Tryz.f101 ir101) ir101 [.t 3] 23:=.m Tryz.f101 _
def ir102:IR:=z [.e (some 1) (.bx 42 (.t 0))] [1] <| z [mk 3 0] [1,3] <| .seq (z [f 4 0 1,l 5 4] [1,3,5] <| .block 0 (z [bk 7 .eql 5 1,m 6 7] [1,3,5,6] <| j 6 (z [f 8 1 1,l 9 8,.r (some 10) (.bi .neq (.t 9) (.c (.string ⟨#[]⟩)))] [1,3,10] <| j 10 (z [.r (some 2) (.mv (.c (.bool false)))] [2] <| .ret) (.skip)) (z [bk 12 .eql 5 2,m 11 12] [1,3,5,11] <| j 11 (z [f 13 1 1,l 14 13,c 15 111 [14],no 16 15] [1,3,16] <| j 16 (z [.r (some 2) (.mv (.c (.bool false)))] [2] <| .ret) (.skip)) (z [bk 18 .eql 5 3,m 17 18] [1,5,17] <| j 17 (.seq (z [f 19 1 1,l 20 19,.r (some 21) (.bi .neq (.t 20) (.c (.string ⟨#[]⟩)))] [1,21] <| j 21 (z [.r (some 2) (.mv (.c (.bool false)))] [2] <| .ret) (.skip)) <| q [mk 3 2] [1,3]) (z [bk 23 .eql 5 4,m 22 23] [1,22] <| j 22 (.seq (z [f 24 1 1,l 25 24,c 26 112 [25],no 27 26,f' 27 false 29 2 1,l' 27 false 30 29,le' 27 false 31 30,bk' 27 false 32 .gtr 31 6,u 33 27 32] [1,33] <| j 33 (z [.r (some 2) (.mv (.c (.bool false)))] [2] <| .ret) (.skip)) <| q [f 34 2 1,l 35 34,le 36 35,m 3 36] [1,3]) (z [.r (some 2) (.mv (.c (.bool false)))] [2] <| .ret)))))) <| z [f 37 2 1,l 38 37,le 39 38,bi 41 .eql 39 3,f' 41 true 43 2 1,l' 41 true 44 43,.ge 41 true (some 45) (.call 113 [(.t 44),(.c (.func (.func 114) #[] #[]))]),no' 41 true 46 45,a 47 41 46,m 2 47] [2] <| .ret
theorem fit102:Fits Tryz.prog 102 1 (hOf Tryz.f102 ir102) ir102 [.t 2] 48:=.m Tryz.f102 _
def ir103L1:IR:=z [bi 10 .lss 9 8] [3,7,8,9,10] <| .seq (j 10 (.skip) ((.exit 0))) <| .seq (.block 1 (z [ia 11 3 7 9,ln 12 3 11,.e (some 5) (.al 42 (.agg #[(i 0),(.string ⟨#[]⟩),(.slice none 0 0)])),s 3 5 12] [3,5,7,8,9] <| .seq (z [bk 14 .gtr 3 500] [3,5,7,8,9,14] <| j 14 ((.exit 0)) (.skip)) <| q [ln 16 3 5,c 17 103 [16],bi 18 .add 3 17,m 3 18] [3,7,8,9])) <| q [bk 19 .add 9 1,m 9 19] [3,7,8,9]
def ir103:IR:=z [.e (some 1) (.bx 42 (.t 0))] [1] <| z [mk 3 1] [1,3] <| .seq (z [f 6 2 1,l 7 6,le 8 7,mk 9 0] [3,7,8,9] <| .block 0 (.loop ir103L1)) <| z [.r (some 21) (.mm false (.t 3) (k 501)),m 2 21] [2] <| .ret
theorem fit103:Fits Tryz.prog 103 1 (hOf Tryz.f103 ir103) ir103 [.t 2] 22:=.m Tryz.f103 _
def ir104:IR:=q [ln 3 3 1,c 5 105 [3,0]] []
theorem fit104:Fits Tryz.prog 104 2 (hOf Tryz.f104 ir104) ir104 [] 6:=.m Tryz.f104 _
def ir105L1:IR:=z [bi 18 .lss 17 16] [1,15,16,17,18] <| .seq (j 18 (.skip) ((.exit 0))) <| .seq (.block 1 (z [ia 19 3 15 17,ln 20 3 19,.e (some 6) (.al 42 (.agg #[(i 0),(.string ⟨#[]⟩),(.slice none 0 0)])),s 3 6 20] [1,6,15,16,17] <| z [ln 21 3 6,c 23 105 [21,1],no 24 23] [1,15,16,17,24] <| j 24 (z [.r (some 4) (.mv (.c (.bool false)))] [4] <| .ret) (.skip))) <| q [bk 25 .add 17 1,m 17 25] [1,15,16,17]
def ir107L1:IR:=z [bi 12 .lss 11 10] [1,2,10,11,12] <| .seq (j 12 (.skip) ((.exit 0))) <| .seq (.block 1 (z [m 3 11] [1,2,3,10,11] <| .dr (r 0 14 (.fa 2 (.t 1)) <| r 1 15 (.l1 (.t 14)) <| r 2 16 (.mv (.t 3)) <| r 3 17 (.fa 2 (.t 1)) <| r 4 18 (.l1 (.t 17)) <| r 5 19 (.mv (.t 3)) <| r 6 20 (.ia 3 (.t 18) (.t 19)) <| r 7 21 (.ln 3 (.t 20)) <| .e 8 none (some 22) (.call 107 [(.t 21)]) [1] <| r 9 23 (.ia 3 (.t 15) (.t 16)) <| .e 10 none none (.st 3 (.t 23) (.t 22)) [] <| .nil) [1,2,10,11])) <| q [bk 24 .add 11 1,m 11 24] [1,2,10,11]
def ir107:IR:=z [.e (some 1) (.bx 42 (.t 0)),.e (some 2) (.al 42 (.agg #[(i 0),(.string ⟨#[]⟩),(.slice none 0 0)]))] [1,2] <| z [f 4 2 1,l 5 4,c 6 108 [5],f 7 2 1,s 1 7 6] [1,2] <| .seq (z [f 8 2 1,l 9 8,le 10 9,mk 11 0] [1,2,10,11] <| .block 0 (.loop ir107L1)) <| z [ln 25 3 1,s 3 2 25] [2] <| .ret
theorem fit107:Fits Tryz.prog 107 1 (hOf Tryz.f107 ir107) ir107 [.n 2 3] 26:=.m Tryz.f107 _
def ir108:IR:=z [] [0] <| .seq (z [.r (some 4) (.eq .slice false (.t 0) (.c (.slice none 0 0)))] [0,4] <| j 4 (z [.r (some 2) (.mv (.c (.slice none 0 0)))] [2] <| .ret) (.skip)) <| z [.e (some 5) (.raw ⟨(some 5),(.buildSlice 40 0 #[]),40, "slices.go:362",#[],none⟩),m 6 0,.e (some 7) (.ap 42 3 48 #[(i 0),(.string ⟨#[]⟩),(.slice none 0 0)] (.t 5) (.t 6)),m 2 7] [2] <| .ret
theorem fit108:Fits Tryz.prog 108 1 (hOf Tryz.f108 ir108) ir108 [.t 2] 8:=.m Tryz.f108 _
def ir109L1:IR:=z [bi 9 .lss 8 7] [0,1,7,8,9] <| .seq (j 9 (.skip) ((.exit 0))) <| .seq (.block 1 (z [m 5 8] [0,1,5,7,8] <| z [ia 14 1 0 5,l 15 14,bi 16 .eql 1 15] [0,1,5,7,8,16] <| j 16 (z [m 4 5] [4] <| .ret) (.skip))) <| q [bk 18 .add 8 1,m 8 18] [0,1,7,8]
def ir109:IR:=z [] [0,1] <| .seq (z [le 7 0,mk 8 0] [0,1,7,8] <| .block 0 (.loop ir109L1)) <| z [mk 4 (-1)] [4] <| .ret
theorem fit109:Fits Tryz.prog 109 2 (hOf Tryz.f109 ir109) ir109 [.t 4] 19:=.m Tryz.f109 _
def ir110L1:IR:=z [bi 9 .lss 8 7] [0,1,7,8,9] <| .seq (j 9 (.skip) ((.exit 0))) <| .seq (.block 1 (z [m 5 8] [0,1,5,7,8] <| z [m 11 1,m 12 0,m 13 5,ia 14 11 12 13,ln 15 11 14,.e (some 16) (.raw ⟨(some 16),(.call { callee:=(.value (.tmp 11)),args:=#[(.tmp 15)],argTypes:=#[97]}),4, "slices.go:109",#[⟨0,.data⟩,⟨4,.data⟩],none⟩)] [0,1,5,7,8,16] <| j 16 (z [m 4 5] [4] <| .ret) (.skip))) <| q [bk 18 .add 8 1,m 8 18] [0,1,7,8]
def ir110:IR:=z [] [0,1] <| .seq (z [le 7 0,mk 8 0] [0,1,7,8] <| .block 0 (.loop ir110L1)) <| z [mk 4 (-1)] [4] <| .ret
theorem fit110:Fits Tryz.prog 110 2 (hOf Tryz.f110 ir110) ir110 [.t 4] 19:=.m Tryz.f110 _
def ir111:IR:=z [] [0] <| z [.r (some 4) (.bi .neq (.t 0) (.c (.string ⟨#[]⟩))),m' 4 true 6 0,.gr 4 true (some 7) (.lns (.t 6)),bk' 4 true 8 .leq 7 4096,a 9 4 8,m' 9 true 11 0,.gr 9 true (some 12) (.ixs (.t 11) (k 0)),.ge 9 true (some 13) (.call 116 [(.t 12)]),a 14 9 13,m' 14 true 16 0,.ge 14 true (some 17) (.call 117 [(.t 16)]),a 18 14 17,m 2 18] [2] <| .ret
theorem fit111:Fits Tryz.prog 111 1 (hOf Tryz.f111 ir111) ir111 [.t 2] 19:=.m Tryz.f111 _
def ir112L1:IR:=z [bi 18 .lss 17 16] [3,15,16,17,18] <| .seq (j 18 (.skip) ((.exit 0))) <| .seq (.block 1 (z [ia 19 1 15 17,l 20 19,m 5 20] [3,5,15,16,17] <| z [.r (some 22) (.bi .eql (.t 5) (.c (.string ⟨#[]⟩))),m' 22 false 24 5,.gr 22 false (some 25) (.ixs (.t 24) (k 0)),.ge 22 false (some 26) (.call 119 [(.t 25)]),no' 22 false 27 26,u 28 22 27,m' 28 false 30 5,.ge 28 false (some 31) (.call 117 [(.t 30)]),no' 28 false 32 31,u 33 28 32] [3,15,16,17,33] <| j 33 (z [.r (some 2) (.mv (.c (.bool false)))] [2] <| .ret) (.skip))) <| q [bk 34 .add 17 1,m 17 34] [3,15,16,17]
def ir112:IR:=z [] [0] <| .seq (z [.r (some 7) (.lns (.t 0)),bk 8 .gtr 7 4096,m' 8 false 10 0,.gr 8 false (some 11) (.bi .eql (.t 10) (.c (.string ⟨#[73,110,116]⟩))),u 12 8 11] [0,12] <| j 12 (z [.r (some 2) (.mv (.c (.bool false)))] [2] <| .ret) (.skip)) <| z [.e (some 14) (.call 118 [(.t 0),(.c (.string ⟨#[46]⟩))]),m 3 14] [3] <| .seq (z [m 15 3,le 16 15,mk 17 0] [3,15,16,17] <| .block 0 (.loop ir112L1)) <| z [le 36 3,bk 37 .leq 36 2,m 2 37] [2] <| .ret
theorem fit112:Fits Tryz.prog 112 1 (hOf Tryz.f112 ir112) ir112 [.t 2] 38:=.m Tryz.f112 _
def ir113:IR:=z [] [0,1] <| z [c 7 120 [0,1],bk 8 .geq 7 0,m 4 8] [4] <| .ret
theorem fit113:Fits Tryz.prog 113 2 (hOf Tryz.f113 ir113) ir113 [.t 4] 9:=.m Tryz.f113 _
def ir114:IR:=z [.e (some 1) (.bx 42 (.t 0))] [1] <| z [ln 3 3 1,c 4 102 [3],no 5 4,m 2 5] [2] <| .ret
theorem fit114:Fits Tryz.prog 114 1 (hOf Tryz.f114 ir114) ir114 [.t 2] 6:=.m Tryz.f114 _
def ir116:IR:=z [] [0] <| z [.r (some 4) (.bi .geq (.t 0) (.c (.int .u8 97))),m' 4 true 6 0,.gr 4 true (some 7) (.bi .leq (.t 6) (.c (.int .u8 122))),a 8 4 7,m 2 8] [2] <| .ret
theorem fit116:Fits Tryz.prog 116 1 (hOf Tryz.f116 ir116) ir116 [.t 2] 9:=.m Tryz.f116 _
def ir117L1:IR:=z [bi 7 .lss 6 5] [0,5,6,7] <| .seq (j 7 (.skip) ((.exit 0))) <| .seq (.block 1 (z [m 3 6] [0,3,5,6] <| z [.r (some 11) (.ixs (.t 0) (.t 3)),c 12 122 [11],no 13 12] [0,5,6,13] <| j 13 (z [.r (some 2) (.mv (.c (.bool false)))] [2] <| .ret) (.skip))) <| q [bk 14 .add 6 1,m 6 14] [0,5,6]
def ir117:IR:=z [] [0] <| .seq (z [.r (some 5) (.lns (.t 0)),mk 6 0] [0,5,6] <| .block 0 (.loop ir117L1)) <| z [.r (some 2) (.mv (.c (.bool true)))] [2] <| .ret
theorem fit117:Fits Tryz.prog 117 1 (hOf Tryz.f117 ir117) ir117 [.t 2] 15:=.m Tryz.f117 _
def ir119:IR:=z [] [0] <| z [.r (some 4) (.bi .geq (.t 0) (.c (.int .u8 65))),m' 4 true 6 0,.gr 4 true (some 7) (.bi .leq (.t 6) (.c (.int .u8 90))),a 8 4 7,m 2 8] [2] <| .ret
theorem fit119:Fits Tryz.prog 119 1 (hOf Tryz.f119 ir119) ir119 [.t 2] 9:=.m Tryz.f119 _
def ir120L1:IR:=z [bi 9 .lss 8 7] [0,1,7,8,9] <| .seq (j 9 (.skip) ((.exit 0))) <| .seq (.block 1 (z [m 5 8] [0,1,5,7,8] <| z [m 11 1,m 12 0,m 13 5,ia 14 3 12 13,ln 15 3 14,.e (some 16) (.raw ⟨(some 16),(.call { callee:=(.value (.tmp 11)),args:=#[(.tmp 15)],argTypes:=#[42]}),4, "slices.go:109",#[⟨0,.data⟩,⟨4,.data⟩],none⟩)] [0,1,5,7,8,16] <| j 16 (z [m 4 5] [4] <| .ret) (.skip))) <| q [bk 18 .add 8 1,m 8 18] [0,1,7,8]
def ir120:IR:=z [] [0,1] <| .seq (z [le 7 0,mk 8 0] [0,1,7,8] <| .block 0 (.loop ir120L1)) <| z [mk 4 (-1)] [4] <| .ret
theorem fit120:Fits Tryz.prog 120 2 (hOf Tryz.f120 ir120) ir120 [.t 4] 19:=.m Tryz.f120 _
def ir122:IR:=z [] [0] <| z [c 4 116 [0],m' 4 false 6 0,.ge 4 false (some 7) (.call 119 [(.t 6)]),u 8 4 7,m' 8 false 10 0,.gr 8 false (some 11) (.bi .geq (.t 10) (.c (.int .u8 48))),m' 8 false 12 11,m' 12 true 13 0,.gr 12 true (some 14) (.bi .leq (.t 13) (.c (.int .u8 57))),.gr 8 false (some 15) (.pk (.t 12) (.t 14) (.c (.bool false))),u 16 8 15,m' 16 false 18 0,.gr 16 false (some 19) (.bi .eql (.t 18) (.c (.int .u8 95))),u 20 16 19,m' 20 false 22 0,.gr 20 false (some 23) (.bi .eql (.t 22) (.c (.int .u8 39))),u 24 20 23,m 2 24] [2] <| .ret
theorem fit122:Fits Tryz.prog 122 1 (hOf Tryz.f122 ir122) ir122 [.t 2] 25:=.m Tryz.f122 _
end
section
open Go Go.W
theorem f_sizeType (t:Ty):∀ {w:World} {B:Nat→Prop} {cs:List Value},TyAt w B cs t→CallsR Tryz.prog 55 [.agg cs.toArray] w fun r w'=>r=I t.size∧Mod (fun _=>False) w w':=by
 induction t using Ty.ind with
 | h t ih=>
 intro w B cs h;obtain ⟨v,rfl,hl⟩:=h.cells;obtain ⟨a,c,rfl⟩:=each_sl hl;refine fit55.calls rfl ?_;unfold ir55;(try simp only [go_sem,simprocAttr]);refine e_bx rfl ?_;intro w1 hb1 hm1 _;(try simp only [go_sem,simprocAttr,cell_of hb1,Value.cells]);refine ir_range t.args.length (fun k ρ w'=>Mod (fun _=>False) w w'∧k≤t.args.length∧∃ n,t.size=tysSize (t.args.drop k) n∧ρ=[(3,I n),(7,.slice a t.args.length c),(8,I t.args.length),(9,I k)]) ⟨hm1,by omega,1,t.size_eq,rfl⟩ (each_len hl) ?_ ?_ (by decide) ?_
 · rintro k _ w2 ⟨hm2,hk,n,he,rfl⟩;exact ⟨rfl,rfl,hk⟩
 · rintro k _ w2 ⟨hm2,_,n,he,rfl⟩ hk;obtain ⟨ad,c,r,e,hr,hl3,hln,_⟩:=each_at (hl.mod hm2 nof (fun _ _ h=>h.mod hm2 nof)) hk;cases e;have b1:(0:Int)≤k∧(k:Int) < t.args.length:=by omega
   (try simp only [go_sem,simprocAttr,zb4,zb6,b1,hln]);refine s_new rfl hl3 hr.one ?_;intro w3 hb3 hm3 _;(try simp only [go_sem,simprocAttr,ln_blk hb3 hl3]);refine e_call (by rfl) ?_;refine (ih _ (List.getElem_mem hk) (hr.mod hm3 nof)).mono ?_;rintro _ w4 ⟨rfl,hm4⟩;(try simp only [go_sem,simprocAttr]);exact ⟨hm2.trans (hm3.trans hm4),hk,_,he.trans (tysSize_at n hk),rfl⟩
 · rintro _ w2 ⟨hm2,_,n,he,rfl⟩;(try simp only [go_sem,simprocAttr]);rw [he,List.drop_length];exact ⟨rfl,hm2⟩
theorem f_sizeTypes {l:List Ty} {w:World} {B:Nat→Prop} {v:Value} (hl:EachAt w v 3 B (TyAt w B) l):CallsR Tryz.prog 54 [v] w fun r w'=>r=I (tysSize l 0)∧Mod (fun _=>False) w w':=by
 obtain ⟨a,c,rfl⟩:=each_sl hl;refine fit54.calls rfl ?_;unfold ir54;(try simp only [go_sem,simprocAttr]);refine ir_range l.length (fun k ρ w'=>Mod (fun _=>False) w w'∧k≤l.length∧∃ n,tysSize l 0=tysSize (l.drop k) n∧ρ=[(3,I n),(6,.slice a l.length c),(7,I l.length),(8,I k)]) ⟨.refl _ _,by omega,0,rfl,rfl⟩ (each_len hl) ?_ ?_ (by decide) ?_
 · rintro k _ w2 ⟨hm2,hk,n,he,rfl⟩;exact ⟨rfl,rfl,hk⟩
 · rintro k _ w2 ⟨hm2,_,n,he,rfl⟩ hk;obtain ⟨ad,c,r,e,hr,hl3,hln,_⟩:=each_at (hl.mod hm2 nof (fun _ _ h=>h.mod hm2 nof)) hk;cases e;have b1:(0:Int)≤k∧(k:Int) < l.length:=by omega
   (try simp only [go_sem,simprocAttr,zb4,zb6,b1,hln]);refine s_new rfl hl3 hr.one ?_;intro w3 hb3 hm3 _;(try simp only [go_sem,simprocAttr,ln_blk hb3 hl3]);refine e_call (by rfl) ?_;refine (f_sizeType _ (hr.mod hm3 nof)).mono ?_;rintro _ w4 ⟨rfl,hm4⟩;(try simp only [go_sem,simprocAttr]);exact ⟨hm2.trans (hm3.trans hm4),hk,_,he.trans (tysSize_at n hk),rfl⟩
 · rintro _ w2 ⟨hm2,_,n,he,rfl⟩;(try simp only [go_sem,simprocAttr]);rw [he,List.drop_length];exact ⟨rfl,hm2⟩
theorem f_nodes (t:Ty):∀ {w:World} {B:Nat→Prop} {cs:List Value},TyAt w B cs t→CallsR Tryz.prog 103 [.agg cs.toArray] w fun r w'=>r=I t.nodes∧Mod (fun _=>False) w w':=by
 induction t using Ty.ind with
 | h t ih=>
 intro w B cs h;obtain ⟨v,rfl,hl⟩:=h.cells;obtain ⟨a,c,rfl⟩:=each_sl hl;refine fit103.calls rfl ?_;unfold ir103;(try simp only [go_sem,simprocAttr]);refine e_bx rfl ?_;intro w1 hb1 hm1 _;(try simp only [go_sem,simprocAttr,cell_of hb1,Value.cells]);have fin:∀ w2 n,Mod (fun _=>False) w w2→tysNodes t.args 1=n→Value.int .i64 (if 501 < n then 501 else n)=I t.nodes∧Mod (fun _=>False) w w2:=fun w2 n h1 h2=>by
   rw [t.nodes_eq,h2];exact ⟨congrArg I (by rw [Int.min_def];split<;>split<;>omega),h1⟩
 refine ir_range t.args.length (fun k ρ w'=>Mod (fun _=>False) w w'∧k≤t.args.length∧∃ n,tysNodes t.args 1=tysNodes (t.args.drop k) n∧ρ=[(3,I n),(7,.slice a t.args.length c),(8,I t.args.length),(9,I k)]) ⟨hm1,by omega,1,rfl,rfl⟩ (each_len hl) ?_ ?_ (by decide) ?_
 · rintro k _ w2 ⟨hm2,hk,n,he,rfl⟩;exact ⟨rfl,rfl,hk⟩
 · rintro k _ w2 ⟨hm2,_,n,he,rfl⟩ hk;obtain ⟨ad,c,r,e,hr,hl3,hln,_⟩:=each_at (hl.mod hm2 nof (fun _ _ h=>h.mod hm2 nof)) hk;cases e;have b1:(0:Int)≤k∧(k:Int) < t.args.length:=by omega
   (try simp only [go_sem,simprocAttr,zb4,zb6,b1,hln]);refine s_new rfl hl3 hr.one ?_;intro w3 hb3 hm3 _;(try simp only [go_sem,simprocAttr,ln_blk hb3 hl3]);rw [tysNodes_at n hk] at he;refine ir_cond rfl (fun hgt=>?_) (fun hgt=>?_)
   · simp only [zb1,zb2,zb3,zb4,zb5] at hgt;rw [if_pos hgt] at he;(try simp only [go_sem,simprocAttr]);exact fin _ _ (hm2.trans hm3) he
   simp only [zb1,zb2,zb3,zb4,zb5] at hgt;rw [if_neg hgt] at he;(try simp only [go_sem,simprocAttr,ln_blk hb3 hl3]);refine e_call (by rfl) ?_;refine (ih _ (List.getElem_mem hk) (hr.mod hm3 nof)).mono ?_;rintro _ w4 ⟨rfl,hm4⟩;(try simp only [go_sem,simprocAttr]);exact ⟨hm2.trans (hm3.trans hm4),hk,_,he,rfl⟩
 · rintro _ w2 ⟨hm2,_,n,he,rfl⟩;(try simp only [go_sem,simprocAttr]);rw [List.drop_length] at he;exact fin _ _ hm2 he
end
section
open Go Go.W
attribute [go_sem] Bool.not_true Bool.not_false
theorem get_keep_in {ρ:Env} {c:Nat} {v:Value} {kp:List Nat} (h:c∈kp) (hv:ρ.get c=some v):(ρ.keep kp).get c=some v:=get_keep_mem hv h
theorem drew_cells (w:World) (a:Addr):∀ (n i:Nat) (acc:Array Value),cellsFrom w.drew a i n acc=cellsFrom w a i n acc:=by
 intro n
 induction n with
 | zero=>intro i acc;rfl
 | succ n ih=>intro i acc;simp only [cellsFrom,drew_cell,ih]
@[go_sem] theorem drew_ln (w:World) (n:Nat) (v:Value):vLN w.drew n v=vLN w n v:=by
 cases v with
 | pointer a=>cases a with
   | none=>rfl
   | some a=>show (cellsFrom _ _ _ _ _).map _=(cellsFrom _ _ _ _ _).map _;rw [drew_cells]
 | _=>rfl
section
variable {P:Program} {N:Nat} {w:World} {ρ:Env}
theorem ir_thenB {id:Nat} {a:IR} {next:Env→World→Prop} {Q:Post} (Mid:Env→World→Prop) (h:irwp P N a (blkQ id (thenQ Mid Q)) ρ w) (hk:∀ ρ w,Mid ρ w→next ρ w):irwp P N a (blkQ id (thenQ next Q)) ρ w:=
 irwp_mono a _ _ (fun e ρ w h=>by
   cases e with
   | normal=>exact hk _ _ h
   | exit id'=>
     simp only [blkQ] at h ⊢;by_cases hi:id'=id
     · rw [if_pos hi] at h ⊢;exact hk _ _ h
     · rw [if_neg hi] at h ⊢;exact h
   | _=>exact h) ρ w h
theorem ir_each {α:Type} {c i n x id id2 v p q s sz T:Nat} {z:Value} {kp0 kp1 kp2:List Nat} {body:IR} {Q:Post} {PP:World→List Value→α→Prop} {l:List α} {B:Nat→Prop} {sl:Value}
   (Inv:Nat→Env→World→Prop) (h0:Inv 0 ρ w) {w0:World} {B0:Nat→Prop} {P0:List Value→α→Prop} (hl0:EachAt w0 sl sz B0 P0 l)
   (hI:∀ k ρ w,Inv k ρ w→(EachAt w sl sz B (PP w) l∧k≤l.length)∧ρ.get i=some (.int .i64 k)∧ρ.get n=some (.int .i64 l.length)∧ρ.get s=some sl)
   (hone:∀ w r a,PP w r a→∀ u∈r,u.oneCell'=true) (hz:z.cells.size=sz)
   (hb:∀ k ρ w (hk:k < l.length) w' (r:List Value) (b:Nat) (pv:Value),Inv k ρ w→PP w r l[k]→r.length=sz→w'.heap[b]? = some (.cells r.toArray T (0,0))→Mod (fun _=>False) w w'→w.heap.size≤b →
     irwp P N body (blkQ id2 (fun e ρ' w'=>match e with
     | .normal=>ρ'.get i=some (.int .i64 k)∧Inv (k+1) (Env.keep ((i,.int .i64 ((k+1:Nat):Int))::(x,.int .i64 ((k+1:Nat):Int))::ρ') kp2) w'
     | e=>Q e ρ' w')) (Env.keep ((v,ptr b)::(q,.agg r.toArray)::(p,pv)::Env.keep ((c,.bool true)::ρ) kp1) kp0) w')
   (he:∀ ρ w,Inv l.length ρ w→Q (.exit id) (Env.keep ((c,.bool false)::ρ) kp1) w)
   (hc:(c∈kp1∧i∈kp1∧s∈kp1)∧(c≠i∧c≠s∧p≠q∧q≠v):=by decide) :
   irwp P N (.loop (.seq (.reg false [.r (some c) (.bi .lss (.t i) (.t n))] kp1) (.seq (.cond (.t c) .skip (.exit id)) (.seq (.block id2 (.seq (.reg false [.r (some p) (.ia sz (.t s) (.t i)),.r (some q) (.ln sz (.t p)),.e (some v) (.al T z),.e none (.st sz (.t v) (.t q))] kp0) body))
     (.reg false [.r (some x) (.bi .add (.t i) (.c (.int .i64 1))),.r (some i) (.mv (.t x))] kp2))))) Q ρ w:=by
 obtain ⟨⟨hc,hi,hs⟩,nc,ns,npq,nqv⟩:=hc;refine ir_range l.length Inv h0 (each_len hl0) (fun k ρ w h=>⟨(hI k ρ w h).2.1,(hI k ρ w h).2.2.1,(hI k ρ w h).1.2⟩) ?_ hc he;intro k ρ w h hk;obtain ⟨⟨hl,_⟩,g1,g2,g3⟩:=hI k ρ w h;obtain ⟨ad,cp,r,e,hr,hlr,hln,_⟩:=each_at hl hk;have e1:(Env.keep ((c,.bool true)::ρ) kp1).get i=some (.int .i64 k):=get_keep_in hi (by rw [get_cons,if_neg nc];exact g1);have e2:(Env.keep ((c,.bool true)::ρ) kp1).get s=some sl:=get_keep_in hs (by rw [get_cons,if_neg ns];exact g3);rw [ir_seq,ir_reg];refine ⟨.pointer (some (ad.add (k*sz))),?_,.agg r.toArray,?_,?_⟩
 · show (O.ev _ _).bind _=_;rw [O_t,e2,Option.bind_some,O_t,e1,Option.bind_some,e];show (if (0:Int)≤(k:Int)∧(k:Int) < (l.length:Nat) then _ else none)=_;rw [if_pos ⟨by omega,by omega⟩,Int.toNat_natCast]
 · show (O.ev _ _).bind _=_;rw [O_t,put_some,get_cons,if_pos rfl,Option.bind_some];exact hln
 · show E.wp _ _ _ _ _;refine s_new (z:=z) (n:=sz) (T:=T) (vs:=r) (y:=.t v) (ρ':=fun u=>(v,u)::(q,.agg r.toArray)::(p,.pointer (some (ad.add (k*sz))))::Env.keep ((c,.bool true)::ρ) kp1) (K:=fun _ _ w'=>_) ?_ hlr (hone _ _ _ hr) ?_ ?_ hz
   · rw [O_t,get_cons,if_neg (Ne.symm nqv),get_cons,if_pos rfl]
   · intro w' hb' hm _;exact hb k ρ w hk w' r _ _ h hr hlr hb' hm (Nat.le_refl _)
   · rw [O_t,get_cons,if_pos rfl]
end
end
section
open Go Go.W Go.W.Z
def ir118:IR:=z [] [0,1] <| z [.e (some 7) (.call 123 [(.t 0),(.t 1),(k 0),(k (-1))]),m 4 7] [4] <| .ret
theorem fit118:Fits Tryz.prog 118 2 (hOf Tryz.f118 ir118) ir118 [.t 4] 8:=.m Tryz.f118 _
end
end Go.Proofs.YtjfgeekjjlhbdaaGreatDoor
namespace Go.Proofs
section
open Go.Shelf
def Tryz.lays171_ren:Go.Shelf.Ren:=⟨fun | 171=>106 | 243=>115 | 246=>121 | 283=>124 | 284=>125 | 285=>126 | 286=>127 | 129=>132 | 317=>131 | 318=>133 | 319=>134 | 320=>135 | 337=>140 | 338=>141 | n=>n,fun | 3=>3 | 9=>9 | 2=>2 | 4=>4 | 171=>210 | 0=>0 | 53=>211 | 37=>214 | 5=>5 | 173=>215 | 212=>220 | 51=>221 | 20=>20 | 213=>222 | 46=>56 | 232=>230 | 233=>231 | n=>n,fun | 17=>0 | 18=>2 | 19=>3 | n=>n⟩
theorem Tryz.lays171:Go.Proofs.Lays.n171 Tryz.prog Tryz.lays171_ren:={
 mixed:=by kernel_rfl
 f129:=Tryz.func132.trans (congrArg some (by kernel_rfl))
 f171:=Tryz.func106.trans (congrArg some (by kernel_rfl))
 f243:=Tryz.func115.trans (congrArg some (by kernel_rfl))
 f246:=Tryz.func121.trans (congrArg some (by kernel_rfl))
 f283:=Tryz.func124.trans (congrArg some (by kernel_rfl))
 f284:=Tryz.func125.trans (congrArg some (by kernel_rfl))
 f285:=Tryz.func126.trans (congrArg some (by kernel_rfl))
 f286:=Tryz.func127.trans (congrArg some (by kernel_rfl))
 f317:=Tryz.func131.trans (congrArg some (by kernel_rfl))
 f318:=Tryz.func133.trans (congrArg some (by kernel_rfl))
 f319:=Tryz.func134.trans (congrArg some (by kernel_rfl))
 f320:=Tryz.func135.trans (congrArg some (by kernel_rfl))
 f337:=Tryz.func140.trans (congrArg some (by kernel_rfl))
 f338:=Tryz.func141.trans (congrArg some (by kernel_rfl))
 t0:=Tryz.underlying0
 a0:=Tryz.isAgg0
 z0:=Tryz.sizeOf0
 v0:=Tryz.zeroValue0
 t2:=Tryz.underlying2
 a2:=Tryz.isAgg2
 z2:=Tryz.sizeOf2
 v2:=Tryz.zeroValue2
 t3:=Tryz.underlying3
 a3:=Tryz.isAgg3
 z3:=Tryz.sizeOf3
 v3:=Tryz.zeroValue3
 t4:=Tryz.underlying4
 a4:=Tryz.isAgg4
 z4:=Tryz.sizeOf4
 v4:=Tryz.zeroValue4
 t5:=Tryz.underlying5
 a5:=Tryz.isAgg5
 z5:=Tryz.sizeOf5
 v5:=Tryz.zeroValue5
 t9:=Tryz.underlying9
 a9:=Tryz.isAgg9
 z9:=Tryz.sizeOf9
 v9:=Tryz.zeroValue9
 t20:=Tryz.underlying20
 a20:=Tryz.isAgg20
 z20:=Tryz.sizeOf20
 v20:=Tryz.zeroValue20
 t37:=Tryz.underlying214
 a37:=Tryz.isAgg214
 z37:=Tryz.sizeOf214
 v37:=Tryz.zeroValue214
 t46:=Tryz.underlying56
 a46:=Tryz.isAgg56
 z46:=Tryz.sizeOf56
 v46:=Tryz.zeroValue56
 t51:=Tryz.underlying221
 a51:=Tryz.isAgg221
 z51:=Tryz.sizeOf221
 v51:=Tryz.zeroValue221
 t53:=Tryz.underlying211
 a53:=Tryz.isAgg211
 z53:=Tryz.sizeOf211
 v53:=Tryz.zeroValue211
 t171:=Tryz.underlying210
 a171:=Tryz.isAgg210
 z171:=Tryz.sizeOf210
 v171:=Tryz.zeroValue210
 t173:=Tryz.underlying215
 a173:=Tryz.isAgg215
 z173:=Tryz.sizeOf215
 v173:=Tryz.zeroValue215
 t212:=Tryz.underlying220
 a212:=Tryz.isAgg220
 z212:=Tryz.sizeOf220
 v212:=Tryz.zeroValue220
 t213:=Tryz.underlying222
 a213:=Tryz.isAgg222
 z213:=Tryz.sizeOf222
 t232:=Tryz.underlying230
 a232:=Tryz.isAgg230
 z232:=Tryz.sizeOf230
 v232:=Tryz.zeroValue230
 t233:=Tryz.underlying231
 a233:=Tryz.isAgg231
 z233:=Tryz.sizeOf231
 v233:=Tryz.zeroValue231
 g17:=by kernel_rfl
 g18:=by kernel_rfl
 g19:=by kernel_rfl}
def Tryz.lays221_ren:Go.Shelf.Ren:=⟨fun | 221=>123 | 268=>128 | 138=>129 | 143=>130 | 195=>136 | 197=>137 | 218=>138 | 219=>139 | 260=>142 | 217=>143 | 225=>144 | 224=>145 | 267=>146 | 266=>147 | 314=>148 | n=>n,fun | 9=>9 | 3=>3 | 31=>39 | 4=>4 | 0=>0 | 105=>226 | 21=>21 | 5=>5 | 46=>56 | 119=>232 | 139=>235 | 138=>234 | 146=>236 | 51=>221 | n=>n,fun | 1=>1 | 3=>4 | 4=>5 | n=>n⟩
theorem Tryz.lays221:Go.Proofs.Lays.n221 Tryz.prog Tryz.lays221_ren:={
 mixed:=by kernel_rfl
 f138:=Tryz.func129.trans (congrArg some (by kernel_rfl))
 f143:=Tryz.func130.trans (congrArg some (by kernel_rfl))
 f195:=Tryz.func136.trans (congrArg some (by kernel_rfl))
 f197:=Tryz.func137.trans (congrArg some (by kernel_rfl))
 f217:=Tryz.func143.trans (congrArg some (by kernel_rfl))
 f218:=Tryz.func138.trans (congrArg some (by kernel_rfl))
 f219:=Tryz.func139.trans (congrArg some (by kernel_rfl))
 f221:=Tryz.func123.trans (congrArg some (by kernel_rfl))
 f224:=Tryz.func145.trans (congrArg some (by kernel_rfl))
 f225:=Tryz.func144.trans (congrArg some (by kernel_rfl))
 f260:=Tryz.func142.trans (congrArg some (by kernel_rfl))
 f266:=Tryz.func147.trans (congrArg some (by kernel_rfl))
 f267:=Tryz.func146.trans (congrArg some (by kernel_rfl))
 f268:=Tryz.func128.trans (congrArg some (by kernel_rfl))
 f314:=Tryz.func148.trans (congrArg some (by kernel_rfl))
 t0:=Tryz.underlying0
 a0:=Tryz.isAgg0
 z0:=Tryz.sizeOf0
 v0:=Tryz.zeroValue0
 t3:=Tryz.underlying3
 a3:=Tryz.isAgg3
 z3:=Tryz.sizeOf3
 v3:=Tryz.zeroValue3
 t4:=Tryz.underlying4
 a4:=Tryz.isAgg4
 z4:=Tryz.sizeOf4
 v4:=Tryz.zeroValue4
 t5:=Tryz.underlying5
 a5:=Tryz.isAgg5
 z5:=Tryz.sizeOf5
 v5:=Tryz.zeroValue5
 t9:=Tryz.underlying9
 a9:=Tryz.isAgg9
 z9:=Tryz.sizeOf9
 v9:=Tryz.zeroValue9
 t21:=Tryz.underlying21
 a21:=Tryz.isAgg21
 z21:=Tryz.sizeOf21
 v21:=Tryz.zeroValue21
 t31:=Tryz.underlying39
 a31:=Tryz.isAgg39
 z31:=Tryz.sizeOf39
 v31:=Tryz.zeroValue39
 t46:=Tryz.underlying56
 a46:=Tryz.isAgg56
 z46:=Tryz.sizeOf56
 v46:=Tryz.zeroValue56
 t51:=Tryz.underlying221
 a51:=Tryz.isAgg221
 z51:=Tryz.sizeOf221
 v51:=Tryz.zeroValue221
 t105:=Tryz.underlying226
 a105:=Tryz.isAgg226
 z105:=Tryz.sizeOf226
 v105:=Tryz.zeroValue226
 t119:=Tryz.underlying232
 a119:=Tryz.isAgg232
 z119:=Tryz.sizeOf232
 t138:=Tryz.underlying234
 a138:=Tryz.isAgg234
 z138:=Tryz.sizeOf234
 v138:=Tryz.zeroValue234
 t139:=Tryz.underlying235
 a139:=Tryz.isAgg235
 z139:=Tryz.sizeOf235
 v139:=Tryz.zeroValue235
 t146:=Tryz.underlying236
 a146:=Tryz.isAgg236
 z146:=Tryz.sizeOf236
 v146:=Tryz.zeroValue236
 g1:=by kernel_rfl
 g3:=by kernel_rfl
 g4:=by kernel_rfl}
theorem Tryz.strconv_Itoa_small (i:Nat) (hi:i < 100) (w:World) :
   Calls Tryz.prog 106 #[.int .i64 i] w fun e w'=>e = .returned (.string ⟨(Lib.decDigits i).toArray⟩)∧w'=w:=Any.strconv_Itoa_small Tryz.lays171 i hi w
end
end Go.Proofs
namespace Go.Proofs.YtjfgeekjjlhbdaaGreatDoor
section
open Go Go.W
abbrev By (c:UInt8):Value:=.int .u8 c.toNat
def smallB (c:UInt8):Bool:=decide ((97:Int)≤c.toNat)&&decide ((c.toNat:Int)≤122)
def capB (c:UInt8):Bool:=decide ((65:Int)≤c.toNat)&&decide ((c.toNat:Int)≤90)
def signB (c:UInt8):Bool:=smallB c||capB c||(decide ((48:Int)≤c.toNat)&&decide ((c.toNat:Int)≤57))||((c.toNat:Int) == 95)||((c.toNat:Int) == 39)
def allB (p:UInt8→Bool) (s:ByteArray):Bool:=decide (∀ i,∀ h:i < s.size,p s[i]=true)
abbrev signsS (s:ByteArray):Bool:=allB signB s
def nameB (c:UInt8):Bool:=!(decide ((c.toNat:Int) < 32)||decide ((c.toNat:Int) > 126))
def isNameS (s:ByteArray):Bool:=allB nameB s&&(decide ((s.size:Int)≥1)&&decide ((s.size:Int)≤4096))
def strEq (a b:ByteArray):Bool:=a.toList == b.toList
def isVarS (s:ByteArray):Bool:=!(strEq s ⟨#[]⟩)&&decide ((s.size:Int)≤4096)&&(if h:0 < s.size then smallB s[0] else false)&&signsS s
theorem f_small (c:UInt8) {w:World}:CallsR Tryz.prog 116 [By c] w fun r w'=>r = .bool (smallB c)∧w=w':=by
 refine fit116.calls rfl ?_;unfold ir116;(try simp only [go_sem,simprocAttr]);cases h:decide ((97:Int)≤c.toNat)<;>(try simp only [go_sem,simprocAttr,smallB,h])<;>rfl
theorem f_capital (c:UInt8) {w:World}:CallsR Tryz.prog 119 [By c] w fun r w'=>r = .bool (capB c)∧w=w':=by
 refine fit119.calls rfl ?_;unfold ir119;(try simp only [go_sem,simprocAttr]);cases h:decide ((65:Int)≤c.toNat)<;>(try simp only [go_sem,simprocAttr,capB,h])<;>rfl
theorem f_sign (c:UInt8) {w:World}:CallsR Tryz.prog 122 [By c] w fun r w'=>r = .bool (signB c)∧w=w':=by
 refine fit122.calls rfl ?_;unfold ir122;(try simp only [go_sem,simprocAttr]);refine e_call (by rfl) ?_;refine (f_small c).mono ?_;rintro _ _ ⟨rfl,rfl⟩;have fin:∀ b:Bool,signB c=b→(Value.bool b = .bool (signB c)∧w=w):=fun b h=>⟨congrArg _ h.symm,rfl⟩
 cases h1:smallB c with
 | true=>(try simp only [go_sem,simprocAttr]);exact (fin true (by simp [signB,h1])).1
 | false=>
   (try simp only [go_sem,simprocAttr]);refine e_call (by rfl) ?_;refine (f_capital c).mono ?_;rintro _ _ ⟨rfl,rfl⟩;cases h2:capB c with
   | true=>(try simp only [go_sem,simprocAttr]);exact (fin true (by simp [signB,h1,h2])).1
   | false=>
     (try simp only [go_sem,simprocAttr]);cases h3:decide ((48:Int)≤c.toNat)<;>(try simp only [go_sem,simprocAttr,h3])<;>cases h4:decide ((c.toNat:Int)≤57)<;>(try simp only [go_sem,simprocAttr,h4])<;>cases h5:((c.toNat:Int) == 95)<;>(try simp only [go_sem,simprocAttr,h5])<;>exact congrArg _ (by simp [signB,h1,h2,h3,h4,h5])
theorem bx_get {s:ByteArray} {i:Nat} (h:i < s.size):s[i]? = some s[i]:=getElem?_pos s i h
theorem f_signs (s:ByteArray) (hs:s.size < 9223372036854775807) {w:World}:CallsR Tryz.prog 117 [.string s] w fun r w'=>r = .bool (signsS s)∧w=w':=by
 refine fit117.calls rfl ?_;unfold ir117;(try simp only [go_sem,simprocAttr]);refine ir_range s.size (fun k ρ w'=>w=w'∧k≤s.size∧(∀ i,∀ h:i < s.size,i < k→signB s[i]=true)∧ρ=[(0,.string s),(5,I s.size),(6,I k)]) ⟨rfl,by omega,fun i _ hi=>absurd hi (by omega),rfl⟩ hs ?_ ?_ (by decide) ?_
 · rintro k _ w2 ⟨rfl,hk,_,rfl⟩;exact ⟨rfl,rfl,hk⟩
 · rintro k _ w2 ⟨rfl,_,ha,rfl⟩ hk;have b1:(0:Int)≤k:=by omega
   (try simp only [go_sem,simprocAttr,zb4,zb6,b1,bx_get hk]);refine e_call (by rfl) ?_;refine (f_sign s[k]).mono ?_;rintro _ _ ⟨rfl,rfl⟩;cases h:signB s[k] with
   | true=>
     (try simp only [go_sem,simprocAttr]);refine ⟨hk,fun i hi hik=>?_⟩;rcases Nat.lt_or_ge i k with h1 | h1
     · exact ha i hi h1
     · have:i=k:=by omega
       subst this;exact h
   | false=>
     (try simp only [go_sem,simprocAttr]);refine congrArg _ ?_;rw [signsS,allB,eq_comm,decide_eq_false_iff_not];intro hh;rw [hh k hk] at h;cases h
 · rintro _ w2 ⟨rfl,_,ha,rfl⟩;(try simp only [go_sem,simprocAttr]);refine congrArg _ ?_;rw [signsS,allB,eq_comm,decide_eq_true_eq];exact fun i hi=>ha i hi hi
theorem f_isName (s:ByteArray) (hs:Nm s) {w:World}:CallsR Tryz.prog 44 [.string s] w fun r w'=>r = .bool (isNameS s)∧w=w':=by
 refine fit44.calls rfl ?_;unfold ir44;(try simp only [go_sem,simprocAttr]);refine ir_range s.size (fun k ρ w'=>w=w'∧k≤s.size∧(∀ i,∀ h:i < s.size,i < k→nameB s[i]=true)∧ρ=[(0,.string s),(5,I s.size),(6,I k)]) ⟨rfl,by omega,fun i _ hi=>absurd hi (by omega),rfl⟩ (by omega) ?_ ?_ (by decide) ?_
 · rintro k _ w2 ⟨rfl,hk,_,rfl⟩;exact ⟨rfl,rfl,hk⟩
 · rintro k _ w2 ⟨rfl,_,ha,rfl⟩ hk;have b1:(0:Int)≤k:=by omega
   have good:nameB s[k]=true→∀ i,∀ h:i < s.size,i < k+1→nameB s[i]=true:=fun h i hi hik=>by
     rcases Nat.lt_or_ge i k with h1 | h1
     · exact ha i hi h1
     · have:i=k:=by omega
       subst this;exact h
   have bad:nameB s[k]=false→Value.bool false=Value.bool (isNameS s):=fun h=>by
     have:allB nameB s=false:=by
       rw [allB,decide_eq_false_iff_not];intro hh;rw [hh k hk] at h;cases h
     rw [isNameS,this];rfl
   (try simp only [go_sem,simprocAttr,zb4,zb6,b1,bx_get hk]);cases h1:decide ((s[k].toNat:Int) < 32) with
   | true=>(try simp only [go_sem,simprocAttr,zb4,zb6,b1,bx_get hk]);exact bad (by simp [nameB,h1])
   | false=>
     (try simp only [go_sem,simprocAttr,zb4,zb6,b1,bx_get hk]);cases h2:decide ((s[k].toNat:Int) > 126) with
     | true=>(try simp only [go_sem,simprocAttr,zb4,zb6,b1,bx_get hk]);exact bad (by simp [nameB,h1,h2])
     | false=>(try simp only [go_sem,simprocAttr,zb4,zb6,b1,bx_get hk]);exact ⟨hk,good (by simp [nameB,h1,h2])⟩
 · rintro _ w2 ⟨rfl,_,ha,rfl⟩;have:allB nameB s=true:=by rw [allB,decide_eq_true_eq];exact fun i hi=>ha i hi hi
   (try simp only [go_sem,simprocAttr]);cases h1:decide ((s.size:Int)≥1) with
   | true=>(try simp only [go_sem,simprocAttr,isNameS,this,h1])
   | false=>(try simp only [go_sem,simprocAttr,isNameS,this,h1,Bool.false_and])
theorem f_isVar (s:ByteArray) {w:World}:CallsR Tryz.prog 111 [.string s] w fun r w'=>r = .bool (isVarS s)∧w=w':=by
 refine fit111.calls rfl ?_;unfold ir111;(try simp only [go_sem,simprocAttr]);cases h1:s.toList == ByteArray.toList ⟨#[]⟩ with
 | true=>(try simp only [go_sem,simprocAttr,isVarS,strEq,h1,Bool.false_and])
 | false=>
   (try simp only [go_sem,simprocAttr]);cases h2:decide ((s.size:Int)≤4096) with
   | false=>(try simp only [go_sem,simprocAttr,isVarS,strEq,h1,h2,Bool.and_false,Bool.false_and])
   | true=>
     have hp:0 < s.size:=by
       rcases Nat.eq_zero_or_pos s.size with h | h
       · exfalso;have:s=⟨#[]⟩:=by
           cases s with | mk d=>congr 1;exact Array.eq_empty_of_size_eq_zero h
         rw [this] at h1;simp at h1
       · exact h
     have h3:s[0]? = some s[0]:=bx_get hp;have b0:(0:Int)≤0:=by omega
     (try simp only [go_sem,simprocAttr,zb4,zb6,b0,h3]);refine e_call (by rfl) ?_;refine (f_small s[0]).mono ?_;rintro _ _ ⟨rfl,rfl⟩;cases h4:smallB s[0] with
     | false=>(try simp only [go_sem,simprocAttr,isVarS,strEq,h1,h2,h4,hp,dif_pos,Bool.and_false,Bool.false_and])
     | true=>
       (try simp only [go_sem,simprocAttr]);refine e_call (by rfl) ?_;refine (f_signs s (by have:=of_decide_eq_true h2;omega)).mono ?_;rintro _ _ ⟨rfl,rfl⟩;(try simp only [go_sem,simprocAttr,isVarS,strEq,h1,h2,h4,hp,dif_pos,Bool.true_and])
end
section
open Go Go.W
def dot:ByteArray:=⟨#[46]⟩
def partsS (s:ByteArray):List ByteArray:=Lib.splitB dot 0 (Lib.countB s dot) s
theorem splitB_size (sep:ByteArray) (save:Nat):∀ (k:Nat) (s:ByteArray),∀ p∈Lib.splitB sep save k s,p.size≤s.size
 | 0,s,p,h=>by
   rw [Lib.splitB_zero,List.mem_singleton] at h;rw [h];exact Nat.le_refl _
 | k+1,s,p,h=>by
   unfold Lib.splitB at h
   split at h
   · rw [List.mem_singleton] at h;rw [h];exact Nat.le_refl _
   · rcases List.mem_cons.1 h with h | h
     · rw [h,ByteArray.size_extract];omega
     · have:=splitB_size sep save k _ p h;rw [ByteArray.size_extract] at this;omega
def partOk (p:ByteArray):Bool:=!(strEq p ⟨#[]⟩)&&(if h:0 < p.size then capB p[0] else false)&&signsS p
def isDataS (s:ByteArray):Bool:=!(decide ((s.size:Int) > 4096)||strEq s ⟨#[73,110,116]⟩)&&((partsS s).all partOk&&decide (((partsS s).length:Int)≤2))
theorem f_Split (s:ByteArray) (hs:s.size≤4096) {w:World}:CallsR Tryz.prog 118 [.string s,.string dot] w fun r w'=>r = .slice (some ⟨w.heap.size,0,none⟩) (partsS s).length (partsS s).length ∧
   w'.heap[w.heap.size]? = some (.cells ((partsS s).map Value.string).toArray 9 (0,0))∧Mod (fun _=>False) w w':=by
 refine fit118.calls rfl ?_;unfold ir118;(try simp only [go_sem,simprocAttr]);refine e_call (by rfl) ?_;have hlen:=Lib.splitB_all dot (by decide) 0 _ s rfl;have c:=Any.strings_genSplit_core Tryz.lays221 (by kernel_rfl) s dot 0 (-1) (Lib.countB s dot+1) w (by omega) (by decide) (by decide)
   (fun x c hx=>(Any.strings_Index_one { Tryz.lays221 with} x 46 _).mono (fun e w' h=>⟨by rw [h.1,Lib.indexB,← Lib.index_one];rfl,h.2⟩))
   ((Any.strings_Count_one { Tryz.lays221 with} s 46 w).mono (fun e w' h=>⟨by rw [h.1,Lib.countB];exact congrArg (fun n:Nat=>Ending.returned (.int .i64 (n:Int))) (Lib.count_one _ _).symm,h.2⟩)) (by decide) (by decide) (by
     have:=Lib.countB_le dot (by decide) s.size s (Nat.le_refl _);rw [if_pos (by decide)];omega)
 rw [Nat.add_sub_cancel] at c;refine Calls.mono c ?_;rintro e w' ⟨rfl,rfl⟩;refine ⟨_,rfl,?_⟩;(try simp only [go_sem,simprocAttr]);have e1:partsS s=Lib.splitB dot 0 (Lib.countB s dot) s:=rfl;rw [e1];have e2:Lib.cellsOf (Lib.splitB dot 0 (Lib.countB s dot) s) (Lib.countB s dot+1)=((Lib.splitB dot 0 (Lib.countB s dot) s).map Value.string).toArray:=by
   rw [← hlen];exact Lib.cellsOf_full _
 rw [e2,hlen];exact ⟨rfl,heap_alloc_new w _,mod_alloc _ w _⟩
theorem f_isData (s:ByteArray) {w:World}:CallsR Tryz.prog 112 [.string s] w fun r w'=>r = .bool (isDataS s)∧Mod (fun _=>False) w w':=by
 refine fit112.calls rfl ?_;unfold ir112;(try simp only [go_sem,simprocAttr]);cases h1:decide ((s.size:Int) > 4096) with
 | true=>(try simp only [go_sem,simprocAttr,isDataS,h1,Bool.true_or,Bool.false_and]);exact .refl _ _
 | false=>
   (try simp only [go_sem,simprocAttr]);cases h2:s.toList == ByteArray.toList ⟨#[73,110,116]⟩ with
   | true=>(try simp only [go_sem,simprocAttr,isDataS,strEq,h1,h2,Bool.or_true,Bool.false_and]);exact .refl _ _
   | false=>
     (try simp only [go_sem,simprocAttr]);have hs:s.size≤4096:=by have:=of_decide_eq_false h1;omega
     have hd:isDataS s=((partsS s).all partOk&&decide (((partsS s).length:Int)≤2)):=by
       rw [isDataS,strEq,h1,h2];rfl
     refine e_call (by rfl) ?_;refine (f_Split s hs).mono ?_;rintro _ w1 ⟨rfl,hb,hm1⟩;(try simp only [go_sem,simprocAttr]);refine ir_range (partsS s).length (fun k ρ w'=>w1=w'∧k≤(partsS s).length∧(∀ i,∀ h:i < (partsS s).length,i < k→partOk (partsS s)[i]=true)∧ρ=[(3,.slice (some ⟨w.heap.size,0,none⟩) (partsS s).length (partsS s).length),(15,.slice (some ⟨w.heap.size,0,none⟩) (partsS s).length (partsS s).length),(16,I (partsS s).length),(17,I k)])
       ⟨rfl,by omega,fun i _ hi=>absurd hi (by omega),rfl⟩ (by
         have:=Lib.splitB_all dot (by decide) 0 _ s rfl;have h2:=Lib.countB_le dot (by decide) s.size s (Nat.le_refl _);rw [partsS];omega) ?_ ?_ (by decide) ?_
     · rintro k _ w2 ⟨rfl,hk,_,rfl⟩;exact ⟨rfl,rfl,hk⟩
     · rintro k _ w2 ⟨rfl,_,ha,rfl⟩ hk;have b1:(0:Int)≤k∧(k:Int) < (partsS s).length:=by omega
       have hc:=cell_of hb k;rw [List.getElem?_toArray,List.getElem?_map,List.getElem?_eq_getElem hk,Option.map_some] at hc;have hsz:=splitB_size dot 0 _ s _ (List.getElem_mem hk);have good:partOk (partsS s)[k]=true→∀ i,∀ h:i < (partsS s).length,i < k+1→partOk (partsS s)[i]=true:=fun h i hi hik=>by
         rcases Nat.lt_or_ge i k with h1 | h1
         · exact ha i hi h1
         · have:i=k:=by omega
           subst this;exact h
       have bad:partOk (partsS s)[k]=false→Value.bool false=Value.bool (isDataS s)∧Mod (fun _=>False) w w1:=fun h=>by
         refine ⟨?_,hm1⟩;rw [hd];have:(partsS s).all partOk=false:=by
           rw [List.all_eq_false];exact ⟨_,List.getElem_mem hk,by rw [h];simp⟩
         rw [this];rfl
       (try simp only [go_sem,simprocAttr,zb4,zb6,b1,hc]);generalize hx:(partsS s)[k]=x at good bad hsz;cases h3:x.toList == ByteArray.toList ⟨#[]⟩ with
       | true=>(try simp only [go_sem,simprocAttr]);exact bad (by rw [partOk,strEq,h3];rfl)
       | false=>
         have hp:0 < x.size:=by
           rcases Nat.eq_zero_or_pos x.size with h | h
           · exfalso;have:x=⟨#[]⟩:=by
               cases x with | mk d=>congr 1;exact Array.eq_empty_of_size_eq_zero h
             rw [this] at h3;simp at h3
           · exact h
         have h0:x[0]? = some x[0]:=bx_get hp;have b0:(0:Int)≤0:=by omega
         (try simp only [go_sem,simprocAttr,zb4,zb6,b0,h0]);refine e_call (by rfl) ?_;refine (f_capital x[0]).mono ?_;rintro _ _ ⟨rfl,rfl⟩;cases h4:capB x[0] with
         | false=>(try simp only [go_sem,simprocAttr]);exact bad (by simp [partOk,h4])
         | true=>
           (try simp only [go_sem,simprocAttr]);refine e_call (by rfl) ?_;refine (f_signs x (by omega)).mono ?_;rintro _ _ ⟨rfl,rfl⟩;cases h5:signsS x with
           | false=>(try simp only [go_sem,simprocAttr]);exact bad (by rw [partOk,h5,Bool.and_false])
           | true=>(try simp only [go_sem,simprocAttr]);exact ⟨hk,good (by rw [partOk,strEq,h3,dif_pos hp,h4,h5];rfl)⟩
     · rintro _ w2 ⟨rfl,_,ha,rfl⟩;have:(partsS s).all partOk=true:=by
         rw [List.all_eq_true];intro x hx;obtain ⟨i,hi,rfl⟩:=List.getElem_of_mem hx;exact ha i hi hi
       (try simp only [go_sem,simprocAttr,hd,this,Bool.true_and]);exact hm1
end
section
open Go Go.W
def Tells (f:FuncId) (cap:Array Value) (val:List Value→Value) {α:Type} (PP:World→List Value→α→Prop) (p:α→Bool) (l:List α) (w:World):Prop:=
 ∀ (w':World) (r:List Value) (a:α),a∈l→Mod (fun _=>False) w w'→PP w' r a→CallsR Tryz.prog f (val r::cap.toList) w' fun x w''=>x = .bool (p a)∧Mod (fun _=>False) w' w''
def aggV (r:List Value):Value:=.agg r.toArray
structure Fn (f:FuncId):Prop where
 ok:∃ fn:Func,Tryz.prog.funcs[f]? = some fn∧fn.body.isSome=true∧(fn.name == "runtime.NumGoroutine")=false
theorem f_index_ty {α:Type} {l:List α} {w:World} {v:Value} {B:Nat→Prop} {PP:World→List Value→α→Prop} (hl:EachAt w v 3 B (PP w) l) (hpm:∀ w w' r a,PP w r a→Mod (fun _=>False) w w'→PP w' r a)
   {f:FuncId} {cap:Array Value} {p:α→Bool} (hfn:Fn f) (hf:Tells f cap aggV PP p l w) :
   CallsR Tryz.prog 120 [v,.func (.func f) #[] cap] w fun r w'=>(∃ n:Int,r=I n∧decide (n≥0)=l.any p)∧Mod (fun _=>False) w w':=by
 obtain ⟨fn,hfn,hbody,hname⟩:=hfn.ok;obtain ⟨a,c,rfl⟩:=each_sl hl;refine fit120.calls rfl ?_;unfold ir120;(try simp only [go_sem,simprocAttr]);refine ir_range l.length (fun k ρ w'=>Mod (fun _=>False) w w'∧k≤l.length∧(∀ i,∀ h:i < l.length,i < k→p l[i]=false)∧ρ=[(0,.slice a l.length c),(1,.func (.func f) #[] cap),(7,I l.length),(8,I k)]) ⟨.refl _ _,by omega,fun i _ hi=>absurd hi (by omega),rfl⟩ (each_len hl) ?_ ?_ (by decide) ?_
 · rintro k _ w2 ⟨hm2,hk,_,rfl⟩;exact ⟨rfl,rfl,hk⟩
 · rintro k _ w2 ⟨hm2,_,ha,rfl⟩ hk;obtain ⟨ad,c,r,e,hr,hl3,hln,_⟩:=each_at (hl.mod hm2 nof (fun _ _ h=>hpm _ _ _ _ h hm2)) hk;cases e;have b1:(0:Int)≤k∧(k:Int) < l.length:=by omega
   (try simp only [go_sem,simprocAttr,zb4,zb6,b1,hln]);refine e_cv rfl (by rfl) hfn hbody hname ?_;refine (hf w2 r l[k] (List.getElem_mem hk) hm2 hr).mono ?_;rintro _ w3 ⟨rfl,hm3⟩;cases h:p l[k] with
   | true=>
     (try simp only [go_sem,simprocAttr]);refine ⟨⟨_,rfl,?_⟩,hm2.trans hm3⟩;rw [List.any_eq_true.2 ⟨_,List.getElem_mem hk,h⟩];exact decide_eq_true (by omega)
   | false=>
     (try simp only [go_sem,simprocAttr]);refine ⟨hm2.trans hm3,hk,fun i hi hik=>?_⟩;rcases Nat.lt_or_ge i k with h1 | h1
     · exact ha i hi h1
     · have:i=k:=by omega
       subst this;exact h
 · rintro _ w2 ⟨hm2,_,ha,rfl⟩;(try simp only [go_sem,simprocAttr]);refine ⟨⟨_,rfl,?_⟩,hm2⟩;rw [List.any_eq_false.2 (fun x hx=>by obtain ⟨i,hi,rfl⟩:=List.getElem_of_mem hx;rw [ha i hi hi];simp)];rfl
theorem f_contains_ty {α:Type} {l:List α} {w:World} {v:Value} {B:Nat→Prop} {PP:World→List Value→α→Prop} (hl:EachAt w v 3 B (PP w) l) (hpm:∀ w w' r a,PP w r a→Mod (fun _=>False) w w'→PP w' r a)
   {f:FuncId} {cap:Array Value} {p:α→Bool} (hfn:Fn f) (hf:Tells f cap aggV PP p l w) :
   CallsR Tryz.prog 113 [v,.func (.func f) #[] cap] w fun r w'=>r = .bool (l.any p)∧Mod (fun _=>False) w w':=by
 refine fit113.calls rfl ?_;unfold ir113;(try simp only [go_sem,simprocAttr]);refine e_call (by rfl) ?_;refine (f_index_ty hl hpm hfn hf).mono ?_;rintro _ w' ⟨⟨n,rfl,hn⟩,hm⟩;(try simp only [go_sem,simprocAttr]);exact ⟨congrArg _ hn,hm⟩
theorem f_index_con {α:Type} {l:List α} {w:World} {v:Value} {B:Nat→Prop} {PP:World→List Value→α→Prop} (hl:EachAt w v 2 B (PP w) l) (hpm:∀ w w' r a,PP w r a→Mod (fun _=>False) w w'→PP w' r a)
   {f:FuncId} {cap:Array Value} {p:α→Bool} (hfn:Fn f) (hf:Tells f cap aggV PP p l w) :
   CallsR Tryz.prog 94 [v,.func (.func f) #[] cap] w fun r w'=>(∃ n:Int,r=I n∧decide (n≥0)=l.any p)∧Mod (fun _=>False) w w':=by
 obtain ⟨fn,hfn,hbody,hname⟩:=hfn.ok;obtain ⟨a,c,rfl⟩:=each_sl hl;refine fit94.calls rfl ?_;unfold ir94;(try simp only [go_sem,simprocAttr]);refine ir_range l.length (fun k ρ w'=>Mod (fun _=>False) w w'∧k≤l.length∧(∀ i,∀ h:i < l.length,i < k→p l[i]=false)∧ρ=[(0,.slice a l.length c),(1,.func (.func f) #[] cap),(7,I l.length),(8,I k)]) ⟨.refl _ _,by omega,fun i _ hi=>absurd hi (by omega),rfl⟩ (each_len hl) ?_ ?_ (by decide) ?_
 · rintro k _ w2 ⟨hm2,hk,_,rfl⟩;exact ⟨rfl,rfl,hk⟩
 · rintro k _ w2 ⟨hm2,_,ha,rfl⟩ hk;obtain ⟨ad,c,r,e,hr,hl3,hln,_⟩:=each_at (hl.mod hm2 nof (fun _ _ h=>hpm _ _ _ _ h hm2)) hk;cases e;have b1:(0:Int)≤k∧(k:Int) < l.length:=by omega
   (try simp only [go_sem,simprocAttr,zb4,zb6,b1,hln]);refine e_cv rfl (by rfl) hfn hbody hname ?_;refine (hf w2 r l[k] (List.getElem_mem hk) hm2 hr).mono ?_;rintro _ w3 ⟨rfl,hm3⟩;cases h:p l[k] with
   | true=>
     (try simp only [go_sem,simprocAttr]);refine ⟨⟨_,rfl,?_⟩,hm2.trans hm3⟩;rw [List.any_eq_true.2 ⟨_,List.getElem_mem hk,h⟩];exact decide_eq_true (by omega)
   | false=>
     (try simp only [go_sem,simprocAttr]);refine ⟨hm2.trans hm3,hk,fun i hi hik=>?_⟩;rcases Nat.lt_or_ge i k with h1 | h1
     · exact ha i hi h1
     · have:i=k:=by omega
       subst this;exact h
 · rintro _ w2 ⟨hm2,_,ha,rfl⟩;(try simp only [go_sem,simprocAttr]);refine ⟨⟨_,rfl,?_⟩,hm2⟩;rw [List.any_eq_false.2 (fun x hx=>by obtain ⟨i,hi,rfl⟩:=List.getElem_of_mem hx;rw [ha i hi hi];simp)];rfl
theorem f_contains_con {α:Type} {l:List α} {w:World} {v:Value} {B:Nat→Prop} {PP:World→List Value→α→Prop} (hl:EachAt w v 2 B (PP w) l) (hpm:∀ w w' r a,PP w r a→Mod (fun _=>False) w w'→PP w' r a)
   {f:FuncId} {cap:Array Value} {p:α→Bool} (hfn:Fn f) (hf:Tells f cap aggV PP p l w) :
   CallsR Tryz.prog 81 [v,.func (.func f) #[] cap] w fun r w'=>r = .bool (l.any p)∧Mod (fun _=>False) w w':=by
 refine fit81.calls rfl ?_;unfold ir81;(try simp only [go_sem,simprocAttr]);refine e_call (by rfl) ?_;refine (f_index_con hl hpm hfn hf).mono ?_;rintro _ w' ⟨⟨n,rfl,hn⟩,hm⟩;(try simp only [go_sem,simprocAttr]);exact ⟨congrArg _ hn,hm⟩
theorem f_index_alt {α:Type} {l:List α} {w:World} {v:Value} {B:Nat→Prop} {PP:World→List Value→α→Prop} (hl:EachAt w v 11 B (PP w) l) (hpm:∀ w w' r a,PP w r a→Mod (fun _=>False) w w'→PP w' r a)
   {f:FuncId} {cap:Array Value} {p:α→Bool} (hfn:Fn f) (hf:Tells f cap aggV PP p l w) :
   CallsR Tryz.prog 110 [v,.func (.func f) #[] cap] w fun r w'=>(∃ n:Int,r=I n∧decide (n≥0)=l.any p)∧Mod (fun _=>False) w w':=by
 obtain ⟨fn,hfn,hbody,hname⟩:=hfn.ok;obtain ⟨a,c,rfl⟩:=each_sl hl;refine fit110.calls rfl ?_;unfold ir110;(try simp only [go_sem,simprocAttr]);refine ir_range l.length (fun k ρ w'=>Mod (fun _=>False) w w'∧k≤l.length∧(∀ i,∀ h:i < l.length,i < k→p l[i]=false)∧ρ=[(0,.slice a l.length c),(1,.func (.func f) #[] cap),(7,I l.length),(8,I k)]) ⟨.refl _ _,by omega,fun i _ hi=>absurd hi (by omega),rfl⟩ (each_len hl) ?_ ?_ (by decide) ?_
 · rintro k _ w2 ⟨hm2,hk,_,rfl⟩;exact ⟨rfl,rfl,hk⟩
 · rintro k _ w2 ⟨hm2,_,ha,rfl⟩ hk;obtain ⟨ad,c,r,e,hr,hl3,hln,_⟩:=each_at (hl.mod hm2 nof (fun _ _ h=>hpm _ _ _ _ h hm2)) hk;cases e;have b1:(0:Int)≤k∧(k:Int) < l.length:=by omega
   (try simp only [go_sem,simprocAttr,zb4,zb6,b1,hln]);refine e_cv rfl (by rfl) hfn hbody hname ?_;refine (hf w2 r l[k] (List.getElem_mem hk) hm2 hr).mono ?_;rintro _ w3 ⟨rfl,hm3⟩;cases h:p l[k] with
   | true=>
     (try simp only [go_sem,simprocAttr]);refine ⟨⟨_,rfl,?_⟩,hm2.trans hm3⟩;rw [List.any_eq_true.2 ⟨_,List.getElem_mem hk,h⟩];exact decide_eq_true (by omega)
   | false=>
     (try simp only [go_sem,simprocAttr]);refine ⟨hm2.trans hm3,hk,fun i hi hik=>?_⟩;rcases Nat.lt_or_ge i k with h1 | h1
     · exact ha i hi h1
     · have:i=k:=by omega
       subst this;exact h
 · rintro _ w2 ⟨hm2,_,ha,rfl⟩;(try simp only [go_sem,simprocAttr]);refine ⟨⟨_,rfl,?_⟩,hm2⟩;rw [List.any_eq_false.2 (fun x hx=>by obtain ⟨i,hi,rfl⟩:=List.getElem_of_mem hx;rw [ha i hi hi];simp)];rfl
theorem f_contains_alt {α:Type} {l:List α} {w:World} {v:Value} {B:Nat→Prop} {PP:World→List Value→α→Prop} (hl:EachAt w v 11 B (PP w) l) (hpm:∀ w w' r a,PP w r a→Mod (fun _=>False) w w'→PP w' r a)
   {f:FuncId} {cap:Array Value} {p:α→Bool} (hfn:Fn f) (hf:Tells f cap aggV PP p l w) :
   CallsR Tryz.prog 100 [v,.func (.func f) #[] cap] w fun r w'=>r = .bool (l.any p)∧Mod (fun _=>False) w w':=by
 refine fit100.calls rfl ?_;unfold ir100;(try simp only [go_sem,simprocAttr]);refine e_call (by rfl) ?_;refine (f_index_alt hl hpm hfn hf).mono ?_;rintro _ w' ⟨⟨n,rfl,hn⟩,hm⟩;(try simp only [go_sem,simprocAttr]);exact ⟨congrArg _ hn,hm⟩
theorem str_at {w:World} {v:Value} {B:Nat→Prop} {l:List ByteArray} (h:EachAt w v 1 B StrAt l) {i:Nat} (hi:i < l.length) :
   ∃ ad c,v = .slice (some ad) l.length c∧Nm l[i]∧w.cell? (ad.add i)=some (.string l[i]):=by
 obtain ⟨ad,c,r,e,⟨rfl,hn⟩,_,_,hc⟩:=each_at h hi;have:=hc 0 (by simp);rw [Nat.mul_one,add_zero'] at this;exact ⟨ad,c,e,hn,this⟩
theorem f_index_str {l:List ByteArray} {w:World} {v:Value} {B:Nat→Prop} (hl:EachAt w v 1 B StrAt l)
   {f:FuncId} {cap:Array Value} {p:ByteArray→Bool} (hfn:Fn f) (hf:∀ s∈l,Nm s→∀ w',Mod (fun _=>False) w w'→CallsR Tryz.prog f (.string s::cap.toList) w' fun x w''=>x = .bool (p s)∧Mod (fun _=>False) w' w'') :
   CallsR Tryz.prog 93 [v,.func (.func f) #[] cap] w fun r w'=>(∃ n:Int,r=I n∧decide (n≥0)=l.any p)∧Mod (fun _=>False) w w':=by
 obtain ⟨fn,hfn,hbody,hname⟩:=hfn.ok;obtain ⟨a,c,rfl⟩:=each_sl hl;refine fit93.calls rfl ?_;unfold ir93;(try simp only [go_sem,simprocAttr]);refine ir_range l.length (fun k ρ w'=>Mod (fun _=>False) w w'∧k≤l.length∧(∀ i,∀ h:i < l.length,i < k→p l[i]=false)∧ρ=[(0,.slice a l.length c),(1,.func (.func f) #[] cap),(7,I l.length),(8,I k)]) ⟨.refl _ _,by omega,fun i _ hi=>absurd hi (by omega),rfl⟩ (each_len hl) ?_ ?_ (by decide) ?_
 · rintro k _ w2 ⟨hm2,hk,_,rfl⟩;exact ⟨rfl,rfl,hk⟩
 · rintro k _ w2 ⟨hm2,_,ha,rfl⟩ hk;obtain ⟨ad,c,e,hn,hc⟩:=str_at (hl.mod hm2 nof (fun _ _ h=>h)) hk;cases e;have b1:(0:Int)≤k∧(k:Int) < l.length:=by omega
   (try simp only [go_sem,simprocAttr,zb4,zb6,b1,hc]);refine e_cv rfl (by rfl) hfn hbody hname ?_;refine (hf l[k] (List.getElem_mem hk) hn w2 hm2).mono ?_;rintro _ w3 ⟨rfl,hm3⟩;cases h:p l[k] with
   | true=>
     (try simp only [go_sem,simprocAttr]);refine ⟨⟨_,rfl,?_⟩,hm2.trans hm3⟩;rw [List.any_eq_true.2 ⟨_,List.getElem_mem hk,h⟩];exact decide_eq_true (by omega)
   | false=>
     (try simp only [go_sem,simprocAttr]);refine ⟨hm2.trans hm3,hk,fun i hi hik=>?_⟩;rcases Nat.lt_or_ge i k with h1 | h1
     · exact ha i hi h1
     · have:i=k:=by omega
       subst this;exact h
 · rintro _ w2 ⟨hm2,_,ha,rfl⟩;(try simp only [go_sem,simprocAttr]);refine ⟨⟨_,rfl,?_⟩,hm2⟩;rw [List.any_eq_false.2 (fun x hx=>by obtain ⟨i,hi,rfl⟩:=List.getElem_of_mem hx;rw [ha i hi hi];simp)];rfl
theorem f_contains_str {l:List ByteArray} {w:World} {v:Value} {B:Nat→Prop} (hl:EachAt w v 1 B StrAt l)
   {f:FuncId} {cap:Array Value} {p:ByteArray→Bool} (hfn:Fn f) (hf:∀ s∈l,Nm s→∀ w',Mod (fun _=>False) w w'→CallsR Tryz.prog f (.string s::cap.toList) w' fun x w''=>x = .bool (p s)∧Mod (fun _=>False) w' w'') :
   CallsR Tryz.prog 79 [v,.func (.func f) #[] cap] w fun r w'=>r = .bool (l.any p)∧Mod (fun _=>False) w w':=by
 refine fit79.calls rfl ?_;unfold ir79;(try simp only [go_sem,simprocAttr]);refine e_call (by rfl) ?_;refine (f_index_str hl hfn hf).mono ?_;rintro _ w' ⟨⟨n,rfl,hn⟩,hm⟩;(try simp only [go_sem,simprocAttr]);exact ⟨congrArg _ hn,hm⟩
def strIdx (l:List ByteArray) (s:ByteArray):Option Nat:=l.findIdx? (fun x=>strEq s x)
theorem f_indexS {l:List ByteArray} {w:World} {v:Value} {B:Nat→Prop} (hl:EachAt w v 1 B StrAt l) (s:ByteArray) :
   CallsR Tryz.prog 109 [v,.string s] w fun r w'=>r=I (match strIdx l s with | some i=>(i:Int) | none => -1)∧w=w':=by
 obtain ⟨a,c,rfl⟩:=each_sl hl;refine fit109.calls rfl ?_;unfold ir109;(try simp only [go_sem,simprocAttr]);refine ir_range l.length (fun k ρ w'=>w=w'∧k≤l.length∧(∀ i,∀ h:i < l.length,i < k→strEq s l[i]=false)∧ρ=[(0,.slice a l.length c),(1,.string s),(7,I l.length),(8,I k)]) ⟨rfl,by omega,fun i _ hi=>absurd hi (by omega),rfl⟩ (each_len hl) ?_ ?_ (by decide) ?_
 · rintro k _ w2 ⟨rfl,hk,_,rfl⟩;exact ⟨rfl,rfl,hk⟩
 · rintro k _ w2 ⟨rfl,_,ha,rfl⟩ hk;obtain ⟨ad,c,e,hn,hc⟩:=str_at hl hk;cases e;have b1:(0:Int)≤k∧(k:Int) < l.length:=by omega
   (try simp only [go_sem,simprocAttr,zb4,zb6,b1,hc]);cases h:s.toList == l[k].toList with
   | true=>
     (try simp only [go_sem,simprocAttr]);refine congrArg I ?_;have:strIdx l s=some k:=by
       rw [strIdx,List.findIdx?_eq_some_iff_getElem];exact ⟨hk,h,fun j hj=>by rw [ha j (by omega) hj];simp⟩
     rw [this]
   | false=>
     (try simp only [go_sem,simprocAttr]);refine ⟨hk,fun i hi hik=>?_⟩;rcases Nat.lt_or_ge i k with h1 | h1
     · exact ha i hi h1
     · have:i=k:=by omega
       subst this;exact h
 · rintro _ w2 ⟨rfl,_,ha,rfl⟩;(try simp only [go_sem,simprocAttr]);refine congrArg I ?_;have:strIdx l s=none:=by
     rw [strIdx,List.findIdx?_eq_none_iff];intro x hx;obtain ⟨i,hi,rfl⟩:=List.getElem_of_mem hx;exact ha i hi hi
   rw [this]
end
section
open Go Go.W
abbrev noStr:ByteArray:=⟨#[]⟩
def headOk (k:Int) (n:ByteArray) (len:Nat):Bool:=
 if k == 1 then strEq n noStr&&((len:Int) == 0) else if k == 2 then isVarS n&&((len:Int) == 0)
 else if k == 3 then strEq n noStr&&((len:Int) == 2) else if k == 4 then isDataS n && !(decide ((len:Int) > 6)) else false
mutual
def Ty.may:Ty→Bool
 | .mk k n l=>headOk k n l.length&&tysMay l
def tysMay:List Ty→Bool
 | []=>true
 | t::l=>t.may&&tysMay l
end
theorem Ty.may_eq (t:Ty):t.may=(headOk t.kind t.name t.args.length&&tysMay t.args):=by cases t;rw [Ty.may];rfl
theorem tysMay_any (l:List Ty):(l.any fun t=>!t.may) = !tysMay l:=by
 induction l with
 | nil=>rfl
 | cons t l ih=>rw [List.any_cons,ih,tysMay,Bool.not_and]
theorem fn_may1:Fn 114:=⟨_,rfl,rfl,rfl⟩
theorem f_mayT (t:Ty):∀ {w:World} {B:Nat→Prop} {cs:List Value},TyAt w B cs t→CallsR Tryz.prog 102 [.agg cs.toArray] w fun r w'=>r = .bool t.may∧Mod (fun _=>False) w w':=by
 induction t using Ty.ind with
 | h t ih=>
 intro w B cs h;obtain ⟨v,rfl,hl⟩:=h.cells;refine fit102.calls rfl ?_;unfold ir102;(try simp only [go_sem,simprocAttr]);refine e_bx rfl ?_;intro w1 hb1 hm1 _;(try simp only [go_sem,simprocAttr,cell_of hb1,Value.cells]);rw [t.may_eq];have no:∀ w2,Mod (fun _=>False) w1 w2→headOk t.kind t.name t.args.length=false→Value.bool false=Value.bool (headOk t.kind t.name t.args.length&&tysMay t.args)∧Mod (fun _=>False) w w2:=fun w2 hm h=>by rw [h];exact ⟨rfl,hm1.trans hm⟩
 refine ir_thenB (fun ρ w2=>Mod (fun _=>False) w1 w2∧∃ n:Int,headOk t.kind t.name t.args.length=((t.args.length:Int) == n)∧ρ.get 1=some (ptr w.heap.size)∧ρ.get 3=some (I n)) ?_ ?_
 · (try simp only [go_sem,simprocAttr]);cases e1:t.kind == 1 with
   | true=>
     (try simp only [go_sem,simprocAttr,cell_of hb1,Value.cells]);have hd:headOk t.kind t.name t.args.length=(strEq t.name noStr&&((t.args.length:Int) == 0)):=by rw [headOk,if_pos e1]
     cases e2:t.name.toList == ByteArray.toList ⟨#[]⟩ with
     | false=>(try simp only [go_sem,simprocAttr]);exact no _ (.refl _ _) (by rw [hd,strEq,e2];rfl)
     | true=>(try simp only [go_sem,simprocAttr]);exact ⟨.refl _ _,0,by rw [hd,strEq,e2];rfl,rfl⟩
   | false=>
     (try simp only [go_sem,simprocAttr,cell_of hb1,Value.cells]);cases e2:t.kind == 2 with
     | true=>
       (try simp only [go_sem,simprocAttr,cell_of hb1,Value.cells]);have hd:headOk t.kind t.name t.args.length=(isVarS t.name&&((t.args.length:Int) == 0)):=by rw [headOk,if_neg (by rw [e1];simp),if_pos e2]
       refine e_call (by rfl) ?_;refine (f_isVar t.name).mono ?_;rintro _ _ ⟨rfl,rfl⟩;cases e3:isVarS t.name with
       | false=>(try simp only [go_sem,simprocAttr]);exact no _ (.refl _ _) (by rw [hd,e3];rfl)
       | true=>(try simp only [go_sem,simprocAttr]);exact ⟨.refl _ _,0,by rw [hd,e3];rfl,rfl⟩
     | false=>
       (try simp only [go_sem,simprocAttr,cell_of hb1,Value.cells]);cases e3:t.kind == 3 with
       | true=>
         (try simp only [go_sem,simprocAttr,cell_of hb1,Value.cells]);have hd:headOk t.kind t.name t.args.length=(strEq t.name noStr&&((t.args.length:Int) == 2)):=by rw [headOk,if_neg (by rw [e1];simp),if_neg (by rw [e2];simp),if_pos e3]
         cases e4:t.name.toList == ByteArray.toList ⟨#[]⟩ with
         | false=>(try simp only [go_sem,simprocAttr]);exact no _ (.refl _ _) (by rw [hd,strEq,e4];rfl)
         | true=>(try simp only [go_sem,simprocAttr]);exact ⟨.refl _ _,2,by rw [hd,strEq,e4];rfl,rfl⟩
       | false=>
         (try simp only [go_sem,simprocAttr,cell_of hb1,Value.cells]);cases e4:t.kind == 4 with
         | true=>
           (try simp only [go_sem,simprocAttr,cell_of hb1,Value.cells]);have hd:headOk t.kind t.name t.args.length=(isDataS t.name && !(decide ((t.args.length:Int) > 6))):=by rw [headOk,if_neg (by rw [e1];simp),if_neg (by rw [e2];simp),if_neg (by rw [e3];simp),if_pos e4]
           obtain ⟨a,c,rfl⟩:=each_sl hl;refine e_call (by rfl) ?_;refine (f_isData t.name).mono ?_;rintro _ w2 ⟨rfl,hm2⟩;cases e5:isDataS t.name with
           | false=>(try simp only [go_sem,simprocAttr]);exact no _ hm2 (by rw [hd,e5];rfl)
           | true=>
             (try simp only [go_sem,simprocAttr,cell_of (hm2.at hb1 _root_.id),Value.cells]);cases e6:decide ((t.args.length:Int) > 6) with
             | true=>(try simp only [go_sem,simprocAttr]);exact no _ hm2 (by rw [hd,e5,e6];rfl)
             | false=>(try simp only [go_sem,simprocAttr,cell_of (hm2.at hb1 _root_.id),Value.cells]);exact ⟨hm2,t.args.length,by rw [hd,e5,e6];simp,rfl⟩
         | false=>(try simp only [go_sem,simprocAttr]);exact no _ (.refl _ _) (by rw [headOk,if_neg (by rw [e1];simp),if_neg (by rw [e2];simp),if_neg (by rw [e3];simp),if_neg (by rw [e4];simp)])
 · rintro ρ w2 ⟨hm2,n,hh,g1,g3⟩;have hm:=hm1.trans hm2;have hb:=hm2.at hb1 _root_.id;obtain ⟨a,c,rfl⟩:=each_sl hl;rw [hh];(try simp only [go_sem,simprocAttr,g1,g3,cell_of hb,Value.cells]);cases h1:((t.args.length:Int) == n) with
   | false=>(try simp only [go_sem,simprocAttr]);exact ⟨rfl,hm⟩
   | true=>
     (try simp only [go_sem,simprocAttr,g1,cell_of hb,Value.cells]);refine e_call (by rfl) ?_;refine (f_contains_ty (PP:=fun w=>TyAt w B) (p:=fun t=>!t.may) (hl.mod hm nof (fun _ _ h=>h.mod hm nof)) (fun _ _ _ _ h hm=>h.mod hm nof) fn_may1 ?_).mono ?_
     · intro w3 r u hu hm3 hr;refine fit114.calls rfl ?_;unfold ir114;(try simp only [go_sem,simprocAttr,aggV]);refine e_bx rfl ?_;intro w4 hb4 hm4 _;(try simp only [go_sem,simprocAttr,ln_blk (cs:=r) (n:=3) hb4 hr.len]);refine e_call (by rfl) ?_;refine (ih u hu (hr.mod hm4 nof)).mono ?_;rintro _ w5 ⟨rfl,hm5⟩;(try simp only [go_sem,simprocAttr]);exact hm4.trans hm5
     · rintro _ w3 ⟨rfl,hm3⟩;(try simp only [go_sem,simprocAttr,tysMay_any]);exact ⟨by simp,hm.trans hm3⟩
def wrongS (t:Ty):Int:=if t.may=false then 53 else if t.nodes > 500 then 4 else 0
theorem f_wrong (t:Ty) {w:World} {B:Nat→Prop} {cs:List Value} (h:TyAt w B cs t):CallsR Tryz.prog 95 [.agg cs.toArray] w fun r w'=>r=I (wrongS t)∧Mod (fun _=>False) w w':=by
 refine fit95.calls rfl ?_;unfold ir95;(try simp only [go_sem,simprocAttr]);refine e_bx rfl ?_;intro w1 hb1 hm1 _;(try simp only [go_sem,simprocAttr,ln_blk (cs:=cs) (n:=3) hb1 h.len]);refine e_call (by rfl) ?_;refine (f_mayT t (h.mod hm1 nof)).mono ?_;rintro _ w2 ⟨rfl,hm2⟩;cases h1:t.may with
 | false=>(try simp only [go_sem,simprocAttr,wrongS,h1]);exact hm1.trans hm2
 | true=>
   (try simp only [go_sem,simprocAttr,ln_blk (cs:=cs) (n:=3) (hm2.at hb1 _root_.id) h.len]);refine e_call (by rfl) ?_;refine (f_nodes t (h.mod (hm1.trans hm2) nof)).mono ?_;rintro _ w3 ⟨rfl,hm3⟩;have hm:=hm1.trans (hm2.trans hm3);(try simp only [go_sem,simprocAttr]);cases h2:decide (t.nodes > 500) with
   | true=>
     (try simp only [go_sem,simprocAttr]);refine ⟨?_,hm⟩;rw [wrongS,h1,if_neg (by simp),if_pos (of_decide_eq_true h2)]
   | false=>
     (try simp only [go_sem,simprocAttr]);refine ⟨?_,hm⟩;rw [wrongS,h1,if_neg (by simp),if_neg (of_decide_eq_false h2)]
end
section
open Go Go.W
theorem sp_mid {xs tl vs:List Value} {o:Nat} (h:o+vs.length≤xs.length):sp (xs++tl).toArray o vs=((xs.take o++vs++xs.drop (o+vs.length))++tl).toArray:=by
 unfold sp
 congr 1
 rw [List.take_append_of_le_length (by omega),List.drop_append_of_le_length (by omega)];simp
theorem flat_take {sz:Nat} {rows:List (List Value)} (hr:∀ r∈rows,r.length=sz) {k:Nat} (hk:k < rows.length):((rows.flatMap id).drop (k*sz)).take sz=rows[k]:=by
 apply List.ext_getElem?;intro i;have hl:=hr _ (List.getElem_mem hk);rcases Nat.lt_or_ge i sz with h | h
 · rw [List.getElem?_take_of_lt h,List.getElem?_drop,flat_rows rows hr k hk i h]
 · rw [List.getElem?_eq_none (by rw [List.length_take];omega),List.getElem?_eq_none (by omega)]
theorem rows_len {w:World} {v:Value} {sz:Nat} {rows:List (List Value)} {B:Nat→Prop} (h:RowsAt w v sz rows B):∀ r∈rows,r.length=sz:=by
 intro r hr;obtain ⟨i,hi,rfl⟩:=List.getElem_of_mem hr;obtain ⟨_,_,_,h1,_⟩:=row_at h hi;exact h1
theorem ln_sub {w:World} {a:Addr} {r:List Value} (h:∀ k (hk:k < r.length),w.cell? (a.add k)=some r[k]) {o n:Nat} (hn:o+n≤r.length):vLN w n (.pointer (some (a.add o)))=some (.agg ((r.drop o).take n).toArray):=by
 refine ln_cells (by rw [List.length_take,List.length_drop];omega) (fun k hk=>?_);rw [List.length_take,List.length_drop] at hk;rw [addr_add,h (o+k) (by omega),List.getElem_take,List.getElem_drop]
def Ag3 (r:Value):Prop:=∃ cs:List Value,r = .agg cs.toArray∧cs.length=3∧∀ u∈cs,u.oneCell'=true
def Half (w:World) (T:Nat) (v:Value) (full:List Value) (n k:Nat) (fp:Option Nat):Prop:=∃ xs,OwnS w T 3 v xs n fp∧xs.drop (k*3)=full.drop (k*3)∧∀ u∈xs,u.oneCell'=true
theorem Half.mod {w w':World} {S:Nat→Prop} {T n k:Nat} {v:Value} {full:List Value} {fp:Option Nat} (h:Half w T v full n k fp) (hm:Mod S w w') (hs:∀ b,fp=some b→¬ S b):Half w' T v full n k fp:=by
 obtain ⟨xs,ho,h⟩:=h;exact ⟨xs,ho.mod hm hs,h⟩
theorem half_read {w:World} {T n k:Nat} {v:Value} {rows:List (List Value)} {fp:Option Nat} (h:Half w T v (rows.flatMap id) n k fp) (hr:∀ r∈rows,r.length=3) (hk:k < rows.length) (hn:n=rows.length) :
   ∃ b c,v = .slice (some ⟨b,0,none⟩) n c∧fp=some b∧vLN w 3 (.pointer (some ⟨b,k*3,none⟩))=some (.agg rows[k].toArray):=by
 obtain ⟨xs,ho,he,_⟩:=h;obtain ⟨b,c,tl,rfl,hf,hb,_,_⟩:=ho.pos (by omega);refine ⟨b,c,rfl,hf,?_⟩;have hl:=ho.1;have:=ln_of (off:=k*3) (n:=3) hb (by rw [List.length_append];omega);rw [List.drop_append_of_le_length (by omega),List.take_append_of_le_length (by rw [List.length_drop];omega),he,flat_take hr hk] at this;exact this
section
variable {P:Program} {w:World} {ρ:Env} {K:Value→World→Prop}
theorem half_store {x y:O} {T n k:Nat} {v:Value} {full vs:List Value} {fp:Option Nat} {b:Nat} (h:Half w T v full n k fp) (hf:fp=some b) (hk:k < n) (hx:x.ev ρ=some (.pointer (some ⟨b,k*3,none⟩))) (hy:y.ev ρ=some (.agg vs.toArray)) (hl:vs.length=3) (h1:∀ u∈vs,u.oneCell'=true)
   (hq:∀ w',Half w' T v full n (k+1) fp→Mod (· = b) w w'→w'.heap.size=w.heap.size→K undef w'):E.wp P w ρ K (.st 3 x y):=by
 obtain ⟨xs,ho,he,hu⟩:=h;obtain ⟨b',c,tl,rfl,hf',hb,hnc,hcl⟩:=ho.pos (by omega);rw [hf] at hf';cases hf';have hlen:=ho.1;refine e_stg hx hy hb hl (by rw [List.length_append];omega) h1 ?_;intro w' hb' hm hs;rw [sp_mid (by omega)] at hb';refine hq w' ⟨_,⟨?_,.inr ⟨b,c,tl,rfl,hf,hb',?_,hnc⟩⟩,?_,?_⟩ hm hs
 · simp only [List.length_append,List.length_take,List.length_drop];omega
 · simp only [List.length_append,List.length_take,List.length_drop] at hcl ⊢;omega
 · rw [List.append_assoc,List.drop_append,List.drop_append,List.drop_eq_nil_of_le (by rw [List.length_take];omega),List.drop_eq_nil_of_le (by rw [List.length_take];omega),List.nil_append,List.nil_append,List.length_take,List.drop_drop];have e:=congrArg (List.drop 3) he;rw [List.drop_drop,List.drop_drop] at e;rw [show (k+1)*3=k*3+3 by omega,← e]
   congr 1;omega
 · intro u hu';rcases List.mem_append.1 hu' with h | h
   · rcases List.mem_append.1 h with h | h
     · exact hu u (List.mem_of_mem_take h)
     · exact h1 u h
   · exact hu u (List.mem_of_mem_drop h)
end
end
section
open Go Go.W
abbrev tyT:Nat:=42
theorem szTy:szOf Tryz.prog tyT=some 3:=rfl
theorem each_flat {w:World} {B:Nat→Prop} {rows:List (List Value)} {l:List Ty} (hl:rows.length=l.length) (he:∀ (i:Nat) (r:List Value) (t:Ty),rows[i]? = some r→l[i]? = some t→TyAt w B r t):∀ u∈rows.flatMap id,u.oneCell'=true:=by
 intro u hu;obtain ⟨r,hr,h⟩:=List.mem_flatMap.1 hu;obtain ⟨i,hi,rfl⟩:=List.getElem_of_mem hr;exact (he i _ _ (List.getElem?_eq_getElem hi) (List.getElem?_eq_getElem (by omega))).one u h
theorem f_clone {rows:List (List Value)} {w:World} {B:Nat→Prop} {v:Value} (h:RowsB w v 3 rows B) (h1:∀ u∈rows.flatMap id,u.oneCell'=true) :
   CallsR Tryz.prog 108 [v] w fun r w'=>∃ fp,OwnS w' tyT 3 r (rows.flatMap id) rows.length fp∧(∀ b,fp=some b→w.heap.size≤b)∧Mod (fun _=>False) w w':=by
 obtain ⟨a,c,rfl⟩:=rows_sl h.1;obtain ⟨_,hr,hn⟩:=rows_rd h.1 (by decide);refine fit108.calls rfl ?_;unfold ir108;(try simp only [go_sem,simprocAttr]);have hlen:=h.2;cases a with
 | none=>
   (try simp only [go_sem,simprocAttr,Option.isNone_none]);have h0:=hn rfl;rw [List.eq_nil_of_length_eq_zero h0];exact ⟨none,.nil w tyT 3,(fun b h=>by cases h),.refl _ _⟩
 | some ad=>
   (try simp only [go_sem,simprocAttr,Option.isNone_some]);refine e_b0 (el:=tyT) (n:=3) rfl szTy ?_;intro w1 hb1 hm1 hs1;have ho1:OwnS w1 tyT 3 (.slice (some ⟨w.heap.size,0,none⟩) 0 0) [] 0 (some w.heap.size):=OwnS.of_block (xs:=[]) hb1 (by simp);obtain ⟨_,hr1,_⟩:=rows_rd (h.mod hm1 nof).1 (by decide:0 < 3);(try simp only [go_sem,simprocAttr]);refine e_ap (m:=rows.length) (news:=rows.flatMap id) rfl ho1 rfl (fun h=>by cases h) hr1 h1 rfl (by omega) (by omega) ?_;intro v2 w2 fp2 ho2 hm2 hf2;(try simp only [go_sem,simprocAttr]);refine ⟨fp2,by simpa using ho2,fun b hb=>?_,hm1.step hm2 (fun x hx hlt=>by cases hx;omega)⟩;rcases hf2 b hb with h | h
   · cases h;omega
   · omega
theorem f_copied (t:Ty):∀ {w:World} {B:Nat→Prop} {cs:List Value},TyAt w B cs t→CallsR Tryz.prog 107 [.agg cs.toArray] w fun r w'=>Ag3 r∧Mod (fun _=>False) w w':=by
 induction t using Ty.ind with
 | h t ih=>
 intro w B cs h;obtain ⟨v,rfl,rows,hrows,hl,he⟩:=h.cells;refine fit107.calls rfl ?_;unfold ir107;(try simp only [go_sem,simprocAttr]);refine e_bx rfl ?_;intro w1 hb1 hm1 hs1;(try simp only [go_sem,simprocAttr]);refine e_al ?_;intro w2 hb2 hm2 hs2;have hb1:=hm2.at hb1 _root_.id;(try simp only [go_sem,simprocAttr,cell_of hb1,Value.cells]);refine e_call (by rfl) ?_;refine (f_clone (hrows.mod (hm1.trans hm2) nof) (each_flat hl he)).mono ?_;rintro v3 w3 ⟨fp,ho,hf,hm3⟩;have hb1:=hm3.at hb1 _root_.id;have hb2:=hm3.at hb2 _root_.id;obtain ⟨a3,c3,rfl,_,_⟩:=ho.val;(try simp only [go_sem,simprocAttr]);refine e_st1 rfl rfl hb1 rfl (by simp) ?_;intro w4 hb4 hm4 hs4;have hb2':=hm4.at hb2 (by omega);have ho4:=ho.mod hm4 (fun b hb=>by have:=hf b hb;omega);have hm04:Mod (fun _=>False) w w4:=(hm1.trans (hm2.trans hm3)).step hm4 (fun x hx hl=>by omega);(try simp only [go_sem,simprocAttr,cell_of hb4,Value.cells]);have hn:rows.length < 9223372036854775807:=by have:=hrows.2;omega
 refine ir_range rows.length (fun k ρ w'=>Mod (fun _=>False) w w'∧k≤rows.length∧Half w' tyT (.slice a3 rows.length c3) (rows.flatMap id) rows.length k fp∧w'.heap[w.heap.size]? = w4.heap[w.heap.size]?∧w'.heap[w1.heap.size]? = w4.heap[w1.heap.size]?∧ρ=[(1,ptr w.heap.size),(2,ptr w1.heap.size),(10,I rows.length),(11,I k)]) ⟨hm04,by omega,⟨_,ho4,rfl,each_flat hl he⟩,rfl,rfl,rfl⟩ hn ?_ ?_ (by decide) ?_
 · rintro k _ w2 ⟨_,hk,_,_,_,rfl⟩;exact ⟨rfl,rfl,hk⟩
 · rintro k _ w5 ⟨hm5,_,hh,hx1,hx2,rfl⟩ hk;obtain ⟨b,c,e,rfl,hrd⟩:=half_read hh (rows_len hrows.1) hk rfl;cases e;have b1:(0:Int)≤k∧(k:Int) < rows.length:=by omega
   have hb5:=hx1.trans hb4;(try simp only [go_sem,simprocAttr,zb4,zb6,cell_of hb5,Value.cells,b1,drew_ln,hrd]);refine e_call (by rfl) ?_;refine (ih _ (List.getElem_mem (by omega:k < t.args.length)) ((he k _ _ (List.getElem?_eq_getElem hk) (List.getElem?_eq_getElem (by omega))).mod hm5.drew nof)).mono ?_;rintro _ w6 ⟨⟨cs,rfl,hc3,hc1⟩,hm6⟩;(try simp only [go_sem,simprocAttr]);have ho6:=(hh.mod hm6.of_drew (fun _ _ h=>h));refine ⟨hm6.old _ (lt_of_heap hb5) _root_.id,?_⟩;refine half_store ho6 rfl hk rfl rfl hc3 hc1 ?_;intro w7 ho7 hm7 hs7;have hf0:=hf b rfl;have hsz:=hm6.size;refine ⟨(hm5.trans hm6.of_drew).step hm7 (fun x hx hl=>by have:=hm1.size;have:=hm2.size;omega),hk,ho7,?_,?_⟩
   · rw [hm7.old _ (by have:=lt_of_heap hb5;have:w5.drew.heap.size=w5.heap.size:=rfl;omega) (by have:=hm2.size;omega),hm6.old _ (lt_of_heap hb5) _root_.id];exact hx1
   · have:=lt_of_heap (hx2.trans hb2');rw [hm7.old _ (by have:w5.drew.heap.size=w5.heap.size:=rfl;omega) (by omega),hm6.old _ this _root_.id];exact hx2
 · rintro _ w5 ⟨hm5,_,hh,hx1,hx2,rfl⟩;have hb5:w5.heap[w.heap.size]? = some (.cells [I t.kind,.string t.name,.slice a3 rows.length c3].toArray tyT (0,0)):=hx1.trans hb4;(try simp only [go_sem,simprocAttr,ln_blk (n:=3) hb5 rfl]);refine e_sta (cs:=[I 0,.string noStr,.slice none 0 0]) rfl rfl (hx2.trans hb2') rfl rfl (one_cons rfl (one_cons rfl (one_cons rfl one_nil))) ?_;intro w6 hb6 hm6 hs6;(try simp only [go_sem,simprocAttr,ln_blk (n:=3) hb6 rfl]);exact ⟨⟨_,rfl,rfl,one_cons rfl (one_cons rfl (one_cons rfl one_nil))⟩,hm5.step hm6 (fun x hx hl=>by have:=hm1.size;omega)⟩
end
section
open Go Go.W
def VarV (v:Value):Prop:=∃ n:ByteArray,v = .agg #[I 2,.string n,.slice none 0 0]
theorem VarV.ty {v:Value} (h:VarV v) (w:World) (B:Nat→Prop):∃ cs t,v = .agg (cs:List Value).toArray∧TyAt w B cs t:=by
 obtain ⟨n,rfl⟩:=h;obtain ⟨rows,h1,h2,h3⟩:=each_nil w 3 B (TyAt w B);exact ⟨_,_,rfl,.mk (args:=[]) h1 h2 h3⟩
theorem vget_mem {l:List (ByteArray×Value)} {k:ByteArray} {v:Value} (h:vget l k=some v):∃ p∈l,p.2=v:=by
 unfold vget at h;obtain ⟨p,hp,rfl⟩:=Option.map_eq_some_iff.1 h;exact ⟨p,List.mem_of_find?_eq_some hp,rfl⟩
theorem f_replacedT (t:Ty):∀ {w:World} {B:Nat→Prop} {cs:List Value} {m:Nat} {l:List (ByteArray×Value)},TyAt w B cs t→MapV w m l→(∀ p∈l,VarV p.2) →
   CallsR Tryz.prog 98 [.agg cs.toArray,.map (some m)] w fun r w'=>Ag3 r∧Mod (fun _=>False) w w':=by
 induction t using Ty.ind with
 | h t ih=>
 intro w B cs m l h hmap hvar;obtain ⟨v,rfl,rows,hrows,hl,he⟩:=h.cells;refine fit98.calls rfl ?_;unfold ir98;(try simp only [go_sem,simprocAttr]);refine e_bx rfl ?_;intro w1 hb1 hm1 hs1;(try simp only [go_sem,simprocAttr]);refine e_al ?_;intro w2 hb2 hm2 hs2;have hb1:=hm2.at hb1 _root_.id;have hm02:=hm1.trans hm2;(try simp only [go_sem,simprocAttr,cell_of hb1,Value.cells]);refine ir_then (fun ρ w'=>Mod (fun _=>False) w2 w'∧ρ.get 1=some (.map (some m))∧ρ.get 2=some (ptr w.heap.size)∧ρ.get 4=some (ptr w1.heap.size)) ?_ ?_
 · cases hk:t.kind == 2 with
   | false=>(try simp only [go_sem,simprocAttr]);exact .refl _ _
   | true=>
     (try simp only [go_sem,simprocAttr,cell_of hb1,Value.cells]);refine e_lkV (k:=t.name) (kt:=9) (et:=tyT) rfl rfl rfl rfl (Tryz.zeroValue42 _) (mapv_mod hmap hm02 _root_.id) ?_;cases hg:vget l t.name with
     | none=>
       (try simp only [go_sem,simprocAttr,Option.getD_none,Option.isSome_none]);refine s_new (n:=3) (vs:=[I 0,.string noStr,.slice none 0 0]) rfl rfl (one_cons rfl (one_cons rfl (one_cons rfl one_nil))) ?_;intro w3 hb3 hm3 hs3;(try simp only [go_sem,simprocAttr]);exact hm3
     | some u=>
       obtain ⟨p,hp,rfl⟩:=vget_mem hg;obtain ⟨cu,tu,e,htu⟩:=(hvar p hp).ty w2 B;(try simp only [go_sem,simprocAttr,Option.getD_some,Option.isSome_some]);rw [e];refine s_new (n:=3) (vs:=cu) rfl htu.len htu.one ?_;intro w3 hb3 hm3 hs3;(try simp only [go_sem,simprocAttr,ln_blk (n:=3) hb3 htu.len]);refine e_call (by rfl) ?_;refine (f_copied tu (htu.mod hm3 nof)).mono ?_;rintro _ w4 ⟨⟨cs,rfl,hc3,hc1⟩,hm4⟩;(try simp only [go_sem,simprocAttr]);have hb4:=(hm3.trans hm4).at hb2 _root_.id;refine e_sta (cs:=[I 0,.string noStr,.slice none 0 0]) rfl rfl hb4 hc3 rfl hc1 ?_;intro w5 hb5 hm5 hs5;(try simp only [go_sem,simprocAttr,ln_blk (n:=3) hb5 hc3]);exact ⟨⟨_,rfl,hc3,hc1⟩,(hm02.trans (hm3.trans hm4)).step hm5 (fun x hx hl=>by have:=hm1.size;omega)⟩
 rintro ρ w9 ⟨hm9,g1,g2,g4⟩;have hb1:=hm9.at hb1 _root_.id;have hb2:=hm9.at hb2 _root_.id;have hm09:=hm02.trans hm9;have hz1:=lt_of_heap hb2;(try simp only [go_sem,simprocAttr,g1,g2,g4,cell_of hb1,Value.cells]);refine e_call (by rfl) ?_;refine (f_clone (hrows.mod hm09 nof) (each_flat hl he)).mono ?_;rintro v3 w3 ⟨fp,ho,hf,hm3⟩;have hb1:=hm3.at hb1 _root_.id;have hb2:=hm3.at hb2 _root_.id;obtain ⟨a3,c3,rfl,_,_⟩:=ho.val;(try simp only [go_sem,simprocAttr,g1,g2,g4]);refine e_st1 rfl rfl hb1 rfl (by simp) ?_;intro w4 hb4 hm4 hs4;have hb2':=hm4.at hb2 (by omega);have ho4:=ho.mod hm4 (fun b hb=>by have:=hf b hb;omega);have hm04:Mod (fun _=>False) w w4:=(hm09.trans hm3).step hm4 (fun x hx hl=>by omega);(try simp only [go_sem,simprocAttr,g1,g2,g4,cell_of hb4,Value.cells]);have hn:rows.length < 9223372036854775807:=by have:=hrows.2;omega
 refine ir_range rows.length (fun k ρ w'=>Mod (fun _=>False) w w'∧k≤rows.length∧Half w' tyT (.slice a3 rows.length c3) (rows.flatMap id) rows.length k fp∧w'.heap[w.heap.size]? = w4.heap[w.heap.size]?∧w'.heap[w1.heap.size]? = w4.heap[w1.heap.size]?∧ρ=[(1,.map (some m)),(2,ptr w.heap.size),(4,ptr w1.heap.size),(27,I rows.length),(28,I k)]) ⟨hm04,by omega,⟨_,ho4,rfl,each_flat hl he⟩,rfl,rfl,rfl⟩ hn ?_ ?_ (by decide) ?_
 · rintro k _ w2 ⟨_,hk,_,_,_,rfl⟩;exact ⟨rfl,rfl,hk⟩
 · rintro k _ w5 ⟨hm5,_,hh,hx1,hx2,rfl⟩ hk;obtain ⟨b,c,e,rfl,hrd⟩:=half_read hh (rows_len hrows.1) hk rfl;cases e;have b1:(0:Int)≤k∧(k:Int) < rows.length:=by omega
   have hb5:=hx1.trans hb4;(try simp only [go_sem,simprocAttr,zb4,zb6,cell_of hb5,Value.cells,b1,drew_ln,hrd]);refine e_call (by rfl) ?_;refine (ih _ (List.getElem_mem (by omega:k < t.args.length)) ((he k _ _ (List.getElem?_eq_getElem hk) (List.getElem?_eq_getElem (by omega))).mod hm5.drew nof) (mapv_mod hmap hm5.drew _root_.id) hvar).mono ?_;rintro _ w6 ⟨⟨cs,rfl,hc3,hc1⟩,hm6⟩;(try simp only [go_sem,simprocAttr]);have ho6:=(hh.mod hm6.of_drew (fun _ _ h=>h));refine ⟨hm6.old _ (lt_of_heap hb5) _root_.id,?_⟩;refine half_store ho6 rfl hk rfl rfl hc3 hc1 ?_;intro w7 ho7 hm7 hs7;have hf0:=hf b rfl;have hsz:=hm6.size;have hsz3:=hm09.size;have hw:w5.drew.heap.size=w5.heap.size:=rfl;have hl5:=lt_of_heap hb5;refine ⟨(hm5.trans hm6.of_drew).step hm7 (fun x hx hl=>by omega),hk,ho7,?_,?_⟩
   · rw [hm7.old _ (by omega) (by omega),hm6.old _ hl5 _root_.id];exact hx1
   · have:=lt_of_heap (hx2.trans hb2');rw [hm7.old _ (by omega) (by omega),hm6.old _ this _root_.id];exact hx2
 · rintro _ w5 ⟨hm5,_,hh,hx1,hx2,rfl⟩;have hb5:w5.heap[w.heap.size]? = some (.cells [I t.kind,.string t.name,.slice a3 rows.length c3].toArray tyT (0,0)):=hx1.trans hb4;(try simp only [go_sem,simprocAttr,ln_blk (n:=3) hb5 rfl]);refine e_sta (cs:=[I 0,.string noStr,.slice none 0 0]) rfl rfl (hx2.trans hb2') rfl rfl (one_cons rfl (one_cons rfl (one_cons rfl one_nil))) ?_;intro w6 hb6 hm6 hs6;(try simp only [go_sem,simprocAttr,ln_blk (n:=3) hb6 rfl]);exact ⟨⟨_,rfl,rfl,one_cons rfl (one_cons rfl (one_cons rfl one_nil))⟩,hm5.step hm6 (fun x hx hl=>by have:=hm1.size;omega)⟩
end
end Go.Proofs.YtjfgeekjjlhbdaaGreatDoor
namespace Go.W
section
open Go
variable {dl:List Deferred} {P:Program} {N:Nat} {ops:Array Oper}
theorem roundAny {m m':Nat} {l:Nat} {f:FuncId} {tmps:Array Value} {assign body:Code} {w:World} {R:Ending→World→Prop}
   (h:RoundIn Fence.wide m P l f tmps assign body w R):RoundIn Fence.wide m' P l f tmps assign body w R:=⟨h.1,fun c cs _=>h.2 c cs (fun d h=>by cases h)⟩
theorem yieldAny {m m' l:Nat} {args:Array Value} {W:World} {R:Ending→World→Prop} (h:YieldAt Fence.wide m P l args W R):YieldAt Fence.wide m' P l args W R:=by
 obtain ⟨fn,tmps,assign,body,hy,hR⟩:=h;exact ⟨fn,tmps,assign,body,hy,roundAny hR⟩
theorem rows_inW {n:Nat} {row:String} {args:Array Value} {w:World} {R:Value→World→Prop} (h:Rows P row args w R):RowsIn Fence.wide n P row args w R:=by
 intro c cs _;obtain ⟨v,w',h1,h2⟩:=h c cs;exact ⟨v,w',h1,stepsIn_wide.2 h2⟩
theorem upon_inW {n:Nat} {o:Oper} {a:Act} {K:Act→World→Prop} {Q:Exit→Act→World→Prop} {r:Result Next} (h:o.upon P a K NoQ r):o.uponIn Fence.wide n P a K Q r:=by
 cases r with
 | ok x w'=>
   cases x<;>simp only [Oper.upon] at h<;>first
     | exact h
     | exact ⟨fun hh=>(by cases hh),(callsIn_wide.2 h).mono (fun e w'' he=>by
         cases e with
         | returned v=>exact he
         | panicked c=>exact False.elim he
         | outgrown=>obtain ⟨_,_,hf⟩:=he;exact False.elim hf)⟩
     | exact ⟨fun hh=>(by cases hh),rows_inW h⟩
     | exact False.elim h
 | halt x w'=>cases x<;>simp only [Oper.upon] at h<;>exact False.elim h
theorem oper_inW {n:Nat} {o:Oper} {a:Act} {w:World} {K:Act→World→Prop} {Q:Exit→Act→World→Prop} (h:o.wp P a w K NoQ):o.wpIn Fence.wide n P a w K Q:=
 ⟨fun _ _=>trivial,upon_inW h⟩
theorem gList_inW {n:Nat} {G:Act→World→Prop} {Q:Exit→Act→World→Prop} {L2:List Oper} (hQ:∀ a w,G a w→wpListIn Fence.wide n P ops Q L2 a w):∀ (L:List Oper) (a:Act) (w:World),gList P ops G L a w→wpListIn Fence.wide n P ops Q (L++L2) a w
 | [],a,w,h=>hQ a w h
 | o::L,a,w,h=>by
   unfold gList at h;show wpListIn _ _ _ _ _ (o::(L++L2)) a w;unfold wpListIn
   split
   · rename_i hw;rw [if_pos hw] at h;exact oper_inW (Oper.wp_mono (fun a w hh=>gList_inW hQ L a w hh) h)
   · rename_i hw;rw [if_neg hw] at h;exact ⟨fun _ _=>trivial,gList_inW hQ L _ _ h⟩
theorem yield_inW {n m l f x:Nat} {d:Option Nat} {at':Array TypeId} {ty:TypeId} {pos:String} {af:Array Edge} {v:Value} {a:Act} {w:World} {R:Ending→World→Prop} {K:Act→World→Prop} {Q:Exit→Act→World→Prop}
   (hf:a.eval (.tmp f) = .func (.yield l) #[] #[]) (hx:a.eval (.tmp x)=v) (hy:YieldAt Fence.wide m P l #[v] w R) (hk:∀ e w',R e w'→∃ u,e = .returned u∧K (a.put d u) w') :
   (⟨d,.call { callee:=.value (.tmp f),args:=#[.tmp x],argTypes:=at'},ty,pos,af,none⟩:Oper).wpIn Fence.wide n P a w K Q:=by
 refine ⟨fun _ _=>trivial,?_⟩;obtain ⟨fn,tmps,assign,body,h1,h2⟩:=yieldAny (m':=n - 1) hy;have e1:(Oper.semAt Fence.wide.round a.eval (⟨d,.call { callee:=.value (.tmp f),args:=#[.tmp x],argTypes:=at'},ty,pos,af,none⟩:Oper)).run P w = .ok (.round l fn tmps assign body) w:=by
   rw [Oper.semAt_eq _ _ _ (by intro c h;cases h)];simp only [execOp,resolve,Deferred.ofValue,Sem.run_bind,Sem.run_pure,Result.andThen_ok,invoke,hf,List.map_toArray,List.map_cons,List.map_nil,hx];exact h1
 rw [e1];refine ⟨fun h=>(by cases h),h2.mono ?_⟩;intro e w' hr;obtain ⟨u,rfl,hk⟩:=hk e w' hr;exact hk
theorem ir_yield {id f x:Nat} {L1 L2:List Oper} {st1 st2:List S} {d:Option Nat} {at':Array TypeId} {ty:TypeId} {pos:String} {af:Array Edge} {Q:Post} {ρ:Env} {w:World}
   (hops:ops.toList=L1++⟨d,.call { callee:=.value (.tmp f),args:=#[.tmp x],argTypes:=at'},ty,pos,af,none⟩::L2) (h1:resAll P N ops L1=some st1) (h2:resAll P N ops L2=some st2) (hd:dstOk N d=true)
   (h:wpS P st1 ρ w fun ρ1 w1=>∃ l v m R,ρ1.get f=some (.func (.yield l) #[] #[])∧ρ1.get x=some v∧YieldAt Fence.wide m P l #[v] w1 R∧∀ e w2,R e w2→∃ u,e = .returned u∧wpS P st2 (ρ1.put d u) w2 fun ρ w=>Q .normal ρ w) :
   irwp P N (.raw (.region id ops false)) Q ρ w:=by
 intro dl a hg;refine (wpIn_wide (n:=0)).1 (wpIn_region_list ?_);rw [hops];refine gList_inW (G:=fun a w=>wpListIn Fence.wide 0 P ops (liftQ dl N Q) (_::L2) a w) (fun _ _ h=>h) L1 a w (resAll_sound L1 st1 ρ a w _ h1 h hg ?_);rintro ρ1 a1 w1 hg1 ⟨l,v,m,R,e1,e2,hy,hk⟩;unfold wpListIn;rw [if_pos (by simp [Region.wanted])];refine yield_inW (hg1.agree (.tmp f) _ e1) (hg1.agree (.tmp x) _ e2) hy ?_;intro e w2 hr;obtain ⟨u,rfl,hk⟩:=hk e w2 hr;refine ⟨u,rfl,?_⟩;have hg2:Good dl N (ρ1.put d u) (a1.put d u):=hg1.put d u (fun t ht=>by subst ht;simpa [dstOk] using hd);have:=gList_inW (n:=0) (ops:=ops) (G:=fun a w=>liftQ dl N Q .normal a w) (Q:=liftQ dl N Q) (L2:=[]) (fun a w h=>h) L2 _ _ (resAll_sound L2 st2 _ _ _ _ h2 hk hg2 (fun ρ' a' w' hg' hq=>⟨ρ',hg',hq⟩));rw [List.append_nil] at this;exact this
def decompX (P:Program) (N:Nat) (H:HL) (raws:List Nat):Code→Option IR
 | .seq a b=>(decompX P N H raws a).bind fun x=>(decompX P N H raws b).map (.seq x)
 | .cond c a b=>(decompX P N H raws a).bind fun x=>(decompX P N H raws b).map (.cond (toO c) x)
 | .block id a=>(decompX P N H raws a).map (.block id)
 | .region id ops draw=>if id∈raws then some (.raw (.region id ops draw)) else decomp P N H (.region id ops draw)
 | c=>decomp P N H c
theorem decompX_sound {H:HL} {raws:List Nat}:∀ (c:Code) (ir:IR) (Q:Post) (ρ:Env) (a:Act) (w:World),decompX P N H raws c=some ir→irwp P N ir Q ρ w→Good dl N ρ a→c.wp P (liftQ dl N Q) a w:=by
 intro c
 induction c with
 | seq x y ihx ihy=>
   intro ir Q ρ a w h hw hg;simp only [decompX] at h;obtain ⟨a1,h1,h⟩:=Option.bind_eq_some_iff.1 h;obtain ⟨b1,h2,h⟩:=Option.map_eq_some_iff.1 h;subst h;refine wp_seq (wp_mono (ihx a1 _ ρ a w h1 hw hg) ?_);intro e a' w' hq;obtain ⟨ρ',hg',hq⟩:=hq;cases e with
   | normal=>exact ihy b1 Q ρ' a' w' h2 hq hg'
   | _=>exact ⟨ρ',hg',hq⟩
 | cond c x y ihx ihy=>
   intro ir Q ρ a w h hw hg;simp only [decompX] at h;obtain ⟨a1,h1,h⟩:=Option.bind_eq_some_iff.1 h;obtain ⟨b1,h2,h⟩:=Option.map_eq_some_iff.1 h;subst h;obtain ⟨t,hc,ht,hf⟩:=hw;have he:=hg.agree c _ hc;exact wp_cond_split he (fun e=>ihx a1 Q ρ a w h1 (ht e) hg) (fun e=>ihy b1 Q ρ a w h2 (hf e) hg)
 | block id x ih=>
   intro ir Q ρ a w h hw hg;simp only [decompX] at h;obtain ⟨a1,h1,h⟩:=Option.map_eq_some_iff.1 h;subst h;refine wp_block (wp_mono (ih a1 _ ρ a w h1 hw hg) ?_);intro e a' w' hq;obtain ⟨ρ',hg',hq⟩:=hq;cases e with
   | exit id'=>
     simp only [Exit.inBlock,blkQ] at hq ⊢
     split
     · rename_i hh;rw [if_pos hh] at hq;exact ⟨ρ',hg',hq⟩
     · rename_i hh;rw [if_neg hh] at hq;exact ⟨ρ',hg',hq⟩
   | _=>exact ⟨ρ',hg',hq⟩
 | region id ops draw=>
   intro ir Q ρ a w h hw hg;simp only [decompX] at h
   split at h
   · simp only [Option.some.injEq] at h;subst h;exact hw dl a hg
   · exact decomp_sound _ ir Q ρ a w h hw hg
 | _=>
   intro ir Q ρ a w h hw hg;exact decomp_sound _ ir Q ρ a w h hw hg
structure FitsX (P:Program) (f:Nat) (nargs:Nat) (H:HL) (raws:List Nat) (ir:IR) (rs:List RV) (N:Nat):Prop where
 go:∃ fn c,P.funcs[f]? = some fn∧fn.body=some c∧fn.ntmps=N∧nargs≤N∧decompX P N H raws c=some ir∧resRV P fn.results.toList=some rs
theorem FitsX.calls {f:Nat} {nargs:Nat} {H:HL} {raws:List Nat} {ir:IR} {rs:List RV} (h:FitsX P f nargs H raws ir rs N) {args:List Value} (hn:args.length=nargs) {w:World} {R:Value→World→Prop}
   (hw:irwp P N ir (finQ rs R) (argEnv 0 args) w):CallsR P f args w R:=by
 obtain ⟨fn,c,hf,hb,hN,hle,hd,hrs⟩:=h.go;refine calls_of_wp hf hb ?_;have hg:Good [] N (argEnv 0 args) { tmps:=args.toArray++Array.replicate (fn.ntmps - args.toArray.size) undef,defers:=[]}:=by
   refine ⟨?_,rfl,?_⟩
   · simp only [Array.size_append,List.size_toArray,Array.size_replicate];omega
   · intro t v ht;obtain ⟨_,h2⟩:=argEnv_get args 0 t v ht;have hlt:t < args.length:=by
       rcases Nat.lt_or_ge t args.length with h | h
       · exact h
       · simp [List.getElem?_eq_none h] at h2
     simp only [Nat.sub_zero] at h2;rw [Array.getElem?_append_left (by simpa using hlt)]
     simpa using h2
 refine wp_mono (decompX_sound c ir _ _ _ _ hd hw hg) ?_;intro e a' w' hq;obtain ⟨ρ',hg',hq⟩:=hq;have fin:(∃ vs,rvs w' ρ' rs=some vs∧R (one? vs) w')→a'.defers=[]∧∃ v,(results fn a'.tmps).run P w' = .ok v w'∧∃ u,Ending.returned v = .returned u∧R u w':=by
   rintro ⟨vs,h1,h2⟩;refine ⟨hg'.defers,one? vs,ro_run ?_,_,rfl,h2⟩;unfold results;rw [ro_bind,Array.mapM_eq_mapM_toList,ro_map];have:=resRV_sound (P:=P) hg' fn.results.toList rs vs hrs h1;refine Eq.trans (congrArg (fun o:Option (List Value)=>(o.map List.toArray).bind fun vs=>ro P w' (pure (if h:vs.size=1 then vs[0] else .tuple vs):Sem Value)) this) ?_;simp only [Option.map_some,Option.bind_some,ro_pure,List.size_toArray,Option.some.injEq]
   match vs with
   | []=>rfl
   | [v]=>rfl
   | v::u::l=>simp [one?]
 cases e with
 | normal=>exact fin hq
 | ret=>exact fin hq
 | _=>exact hq.elim
end
end Go.W
namespace Go.Proofs.YtjfgeekjjlhbdaaGreatDoor
section
open Go Go.W
mutual
def Ty.nvars:Ty→Nat
 | .mk k _ l=>if k == 2 then 1 else tysVars l
def tysVars:List Ty→Nat
 | []=>0
 | t::l=>t.nvars+tysVars l
end
theorem Ty.nvars_eq (t:Ty):t.nvars=if t.kind == 2 then 1 else tysVars t.args:=by cases t;rw [Ty.nvars];rfl
theorem tysVars_at {l:List Ty} {i:Nat} (hi:i < l.length):tysVars (l.drop i)=l[i].nvars+tysVars (l.drop (i+1)):=by rw [List.drop_eq_getElem_cons hi,tysVars]
theorem nvars_le (t:Ty):(1≤t.nodes∧t.nodes≤501)∧(t.nodes≤500→(t.nvars:Int)≤t.nodes):=by
 induction t using Ty.ind with
 | h t ih=>
 have key:∀ (l:List Ty),(∀ u∈l,(1≤u.nodes∧u.nodes≤501)∧(u.nodes≤500→(u.nvars:Int)≤u.nodes))→∀ n:Int,1≤n→n≤1001→n≤tysNodes l n∧(tysNodes l n≤500→n+tysVars l≤tysNodes l n):=by
   intro l
   induction l with
   | nil=>intro _ n h1 h2;rw [tysNodes,tysVars];exact ⟨Int.le_refl _,fun _=>by omega⟩
   | cons u l ihl=>
     intro hu n h1 h2;obtain ⟨⟨a1,a2⟩,a3⟩:=hu u (by simp);rw [tysNodes,tysVars]
     split
     · exact ⟨Int.le_refl _,fun h=>by omega⟩
     · have e:Wr (n+u.nodes)=n+u.nodes:=wrap_in (by omega) (by omega);rw [e];obtain ⟨b1,b2⟩:=ihl (fun v hv=>hu v (by simp [hv])) (n+u.nodes) (by omega) (by omega);refine ⟨by omega,fun h=>?_⟩;have:=b2 h;have:=a3 (by omega);omega
 obtain ⟨k1,k2⟩:=key t.args ih 1 (by omega) (by omega);rw [t.nodes_eq,t.nvars_eq];refine ⟨⟨by omega,by omega⟩,fun h=>?_⟩
 split
 · omega
 · have:=k2 (by omega);omega
structure KpC (A C:World):Prop where
 size:A.heap.size≤C.heap.size
 old:∀ (b:Nat) (o:Obj),A.heap[b]? = some o→o.isCells=true→C.heap[b]? = some o
theorem KpC.trans {A B C:World} (h:KpC A B) (k:KpC B C):KpC A C:=⟨Nat.le_trans h.size k.size,fun b o ho hc=>k.old b o (h.old b o ho hc) hc⟩
theorem KpC.of_mod {A C:World} (h:Mod (fun _=>False) A C):KpC A C:=⟨h.size,fun b o ho _=>h.at ho _root_.id⟩
theorem KpC.cell {A C:World} (h:KpC A C) {a:Addr} {v:Value} (ha:A.cell? a=some v):C.cell? a=some v:=by
 have hlt:=World.block_lt_of_cell? A a ha;have ho:A.heap[a.block]? = some A.heap[a.block]:=Array.getElem?_eq_getElem hlt;have hc:A.heap[a.block].isCells=true:=by
   unfold World.cell? at ha;rw [ho] at ha;cases hx:A.heap[a.block]<;>rw [hx] at ha<;>first | rfl | cases ha
 rw [World.cell?_of_block ((h.old _ _ ho hc).trans ho.symm)];exact ha
theorem rows_kp {A C:World} {v:Value} {sz:Nat} {rows:List (List Value)} {B:Nat→Prop} (h:RowsAt A v sz rows B) (hk:KpC A C):RowsAt C v sz rows B:=by
 obtain ⟨a,c,rfl,hb,h⟩:=h;refine ⟨a,c,rfl,hb,fun i hi=>?_⟩;obtain ⟨ad,rfl,hl,hc⟩:=h i hi;exact ⟨ad,rfl,hl,fun k hk'=>hk.cell (hc k hk')⟩
theorem TyAt.kp {A C:World} {B:Nat→Prop} {cs:List Value} {t:Ty} (h:TyAt A B cs t) (hk:KpC A C):TyAt C B cs t:=by
 induction h with
 | mk hr hl he ih=>exact .mk ⟨rows_kp hr.1 hk,hr.2⟩ hl (fun i r t a b=>ih i r t a b)
theorem abides_mod {β:Type} {B:Nat} {J:β→World→Prop} (h:AbidesFrom B J) {s:β} {W W':World} (hj:J s W) (hm:Mod (fun _=>False) W W'):J s W':=
 h s W W' none hj ⟨hm.os,hm.tape,hm.output,hm.size,fun k hk _=>hm.old k hk _root_.id⟩ (fun r e=>by cases e)
def regOf (id:Nat):Code→Option (Array Oper)
 | .region i ops false=>if i == id then some ops else none
 | .seq a b=>(regOf id a).orElse fun _=>regOf id b
 | .cond _ a b=>(regOf id a).orElse fun _=>regOf id b
 | .block _ a=>regOf id a
 | .loop a=>regOf id a
 | _=>none
noncomputable def yOps:Array Oper:=((Tryz.f105.body.bind (regOf 2)).getD #[])
noncomputable def irY:IR:=.seq (.reg false [.e (some 2) (.bx 42 (.t 0))] [1,2]) <|
 .seq (.seq (.reg false [.r (some 7) (.fa 0 (.t 2)),
.r (some 8) (.l1 (.t 7)),
.r (some 9) (.bi .eql (.t 8) (.c (.int .i64 2)))] [1,2,9]) <|
 .cond (.t 9) (.seq (.raw (.region 2 yOps false)) <|
 .ret) (.skip)) <|
 .seq (.seq (.reg false [.r (some 14) (.fa 2 (.t 2)),
.r (some 15) (.l1 (.t 14)),
.r (some 16) (.len (.t 15)),
.r (some 17) (.mv (.c (.int .i64 0)))] [1,15,16,17]) <|
 .block 0 (.loop ir105L1)) <|
 .seq (.reg false [.r (some 4) (.mv (.c (.bool true)))] [4]) <|
 .ret
theorem fitY:FitsX Tryz.prog 105 2 [(0,[1,2],[]),(1,[1,2,9],[]),(2,[4],[]),(3,[1,15,16,17],[]),(4,[1,15,16,17,18],[]),(5,[1,6,15,16,17],[]),(6,[1,15,16,17,24],[]),(7,[4],[]),(8,[1,15,16,17],[]),(9,[4],[])] [2] irY [.t 4] 26:=
 ⟨Tryz.f105,_,rfl,rfl,rfl,by decide,by kernel_rfl,by kernel_rfl⟩
theorem yOps_eq:yOps.toList=yOps.toList.take 3++⟨some 13,.call { callee:=.value (.tmp 10),args:=#[.tmp 12],argTypes:=#[9]},4, "types.go:120",#[⟨0,.data⟩,⟨2,.data⟩],none⟩::yOps.toList.drop 4:=by kernel_rfl
theorem yOps1:resAll Tryz.prog 26 yOps (yOps.toList.take 3)=some [.r (some 10) (.mv (.t 1)),.r (some 11) (.fa 1 (.t 2)),.r (some 12) (.l1 (.t 11))]:=by kernel_rfl
theorem yOps2:resAll Tryz.prog 26 yOps (yOps.toList.drop 4)=some [.r (some 4) (.mv (.t 13))]:=by kernel_rfl
theorem f_eachVar {l N m A:Nat} {J Jx:List ByteArray→World→Prop} (hJ:AbidesFrom A J)
   (hY:∀ pre x W,J pre W→pre.length < N→YieldAt Fence.wide m Tryz.prog l #[.string x] W fun e W'=>(e = .returned (.bool true)∧J (pre++[x]) W'∧KpC W W')∨(e = .returned (.bool false)∧Jx (pre++[x]) W'))
   (t:Ty):∀ {w:World} {B:Nat→Prop} {cs:List Value} {pre:List ByteArray},TyAt w B cs t→J pre w→pre.length+t.nvars≤N →
   CallsR Tryz.prog 105 [.agg cs.toArray,.func (.yield l) #[] #[]] w fun r w'=>(r = .bool true∧KpC w w'∧∃ pre',J pre' w'∧pre'.length=pre.length+t.nvars)∨(r = .bool false∧∃ pre',Jx pre' w'):=by
 induction t using Ty.ind with
 | h t ih=>
 intro w B cs pre h hj hN;obtain ⟨v,rfl,hl⟩:=h.cells;obtain ⟨a,c,rfl⟩:=each_sl hl;refine fitY.calls rfl ?_;unfold irY;(try simp only [go_sem,simprocAttr]);refine e_bx rfl ?_;intro w1 hb1 hm1 _;rw [t.nvars_eq] at hN ⊢;(try simp only [go_sem,simprocAttr,cell_of hb1,Value.cells]);cases hk:t.kind == 2 with
 | true=>
   rw [if_pos hk] at hN;(try simp only [go_sem,simprocAttr]);refine ir_yield yOps_eq yOps1 yOps2 rfl ?_;(try simp only [go_sem,simprocAttr,cell_of hb1,Value.cells]);refine ⟨l,_,m,_,rfl,rfl,hY pre t.name w1 (abides_mod hJ hj hm1) (by omega),?_⟩;rintro e w2 (⟨rfl,hj2,hk2⟩ | ⟨rfl,hj2⟩)
   · refine ⟨_,rfl,?_⟩;(try simp only [go_sem,simprocAttr]);exact .inl ⟨(KpC.of_mod hm1).trans hk2,_,hj2,by simp⟩
   · refine ⟨_,rfl,?_⟩;(try simp only [go_sem,simprocAttr]);exact .inr ⟨_,hj2⟩
 | false=>
   rw [if_neg (by rw [hk];simp)] at hN;(try simp only [go_sem,simprocAttr,cell_of hb1,Value.cells]);refine ir_range t.args.length (fun k ρ w'=>KpC w w'∧k≤t.args.length∧(∃ pre',J pre' w'∧pre'.length+tysVars (t.args.drop k)=pre.length+tysVars t.args)∧ρ=[(1,.func (.yield l) #[] #[]),(15,.slice a t.args.length c),(16,I t.args.length),(17,I k)]) ⟨.of_mod hm1,by omega,⟨pre,abides_mod hJ hj hm1,rfl⟩,rfl⟩ (each_len hl) ?_ ?_ (by decide) ?_
   · rintro k _ w2 ⟨_,hk,_,rfl⟩;exact ⟨rfl,rfl,hk⟩
   · rintro k _ w2 ⟨hk2,_,⟨pre2,hj2,hn2⟩,rfl⟩ hk;obtain ⟨rows,hr0,hl0,he0⟩:=hl;have hl2:EachAt w2 (.slice a t.args.length c) 3 B (TyAt w2 B) t.args:=⟨rows,⟨rows_kp hr0.1 hk2,hr0.2⟩,hl0,fun i r u h1 h2=>(he0 i r u h1 h2).kp hk2⟩;obtain ⟨ad,c,r,e,hr,hl3,hln,_⟩:=each_at hl2 hk;cases e;have b1:(0:Int)≤k∧(k:Int) < t.args.length:=by omega
     (try simp only [go_sem,simprocAttr,zb4,zb6,b1,hln]);refine s_new rfl hl3 hr.one ?_;intro w3 hb3 hm3 _;(try simp only [go_sem,simprocAttr,ln_blk hb3 hl3]);refine e_call (by rfl) ?_;rw [tysVars_at hk] at hn2;refine (ih _ (List.getElem_mem hk) (hr.mod hm3 nof) (abides_mod hJ hj2 hm3) (by omega)).mono ?_;rintro _ w4 (⟨rfl,hk4,pre4,hj4,hn4⟩ | ⟨rfl,pre4,hj4⟩)
     · (try simp only [go_sem,simprocAttr]);exact ⟨hk2.trans ((KpC.of_mod hm3).trans hk4),hk,pre4,hj4,by omega⟩
     · (try simp only [go_sem,simprocAttr]);exact .inr ⟨pre4,hj4⟩
   · rintro _ w2 ⟨hk2,_,⟨pre2,hj2,hn2⟩,rfl⟩;rw [List.drop_length,tysVars] at hn2;(try simp only [go_sem,simprocAttr]);exact .inl ⟨hk2,pre2,hj2,by simpa [hk] using hn2⟩
end
section
open Go Go.W Go.W.Z
def ir83B1:IR:=.block 1 (z [l 20 5,m 21 6,.e (some 22) (.raw ⟨(some 22),(.lookup 127 (.tmp 20) (.tmp 21) true),155, "types.go:199",#[⟨0,.data⟩,⟨1,.data⟩],none⟩),m 19 22,ex 23 0 19,ex 24 1 19,.e (some 7) (.al 42 (.agg #[(i 0),(.string ⟨#[]⟩),(.slice none 0 0)])),s 3 7 23,m 8 24] [5,6,8] <| z [no 26 8] [5,6,26] <| j 26 (.dr (r 0 27 (.l1 (.t 5)) <| r 1 28 (.mv (.t 6)) <| r 2 29 (.l1 (.t 5)) <| r 3 30 (.lnm (.t 29)) <| .e 4 none (some 31) (.call 97 [(.t 30)]) [0] <| r 5 32 (.bd #[(i 0),(.string ⟨#[]⟩),(.slice none 0 0)] [(0,1,(k 2)),(1,1,(.t 31))]) <| .e 6 none none (.raw ⟨none,(.mapUpdate 127 (.tmp 27) (.tmp 28) (.tmp 32)),0, "types.go:200",#[⟨0,.data⟩,⟨1,.data⟩,⟨5,.data⟩,⟨4,.chain⟩,⟨0,.phase⟩,⟨1,.phase⟩,⟨2,.phase⟩,⟨3,.phase⟩,⟨4,.phase⟩,⟨5,.phase⟩],none⟩) [] <| .nil) []) (.skip))
def ir83:K:=.seq (.ir (q [.e (some 1) (.bx 42 (.t 0)),.e (some 2) (.al 42 (.agg #[(i 0),(.string ⟨#[]⟩),(.slice none 0 0)]))] [1,2])) <| .seq (.ir (z [ln 9 3 1,c 10 95 [9],m 4 10] [1,2,4] <| z [bk 12 .neq 4 0] [1,2,4,12] <| j 12 (z [.r (some 13) (.bd #[(i 0),(.string ⟨#[]⟩),(.slice none 0 0)] []),s 3 2 13,m 3 4] [2,3] <| .ret) (.skip))) <| .seq (.ir (q [.e (some 15) (.raw ⟨(some 15),(.makeMap 127 none),127, "types.go:197",#[],none⟩),.e (some 5) (.al 127 (.map none)),s 1 5 15] [1,2,5])) <| .seq (.seq (.ir (q [ln 16 3 1,c 17 96 [16]] [1,2,5,17])) <| .blk 0 (.rng1 17 18 6 ir83B1)) <| .ir (z [ln 33 3 1,l 34 5,c 35 98 [33,34],s 3 2 35,mk 3 0] [2,3] <| .ret)
theorem fit83:FitsK Tryz.prog 83 1 [(0,[1,2],[]),(1,[1,2,4],[]),(2,[1,2,4,12],[]),(3,[2,3],[]),(4,[1,2,5],[]),(5,[1,2,5,17],[]),(7,[5,6,8],[]),(8,[5,6,26],[]),(9,[],[0,0,0,4,12,28,63]),(10,[2,3],[])] ir83 [.n 2 3,.t 3] 36:=
 ⟨Tryz.f83,_,rfl,rfl,rfl,by decide,by kernel_rfl,by kernel_rfl⟩
end
section
open Go Go.W
theorem e_cvs {P:Program} {w:World} {ρ:Env} {K:Value→World→Prop} {s d:TypeId} {x:Operand} {k k':IntKind} {n:Int} {dst:Option Nat} {ty:TypeId} {pos:String} {af:Array Edge} (hx:(toO x).ev ρ=some (.int k n)) (h1:P.underlying s=some (.int k')) (h2:P.underlying d=some .string)
   (hk:K (.string (Utf8.encode n)) w):E.wp P w ρ K (.raw ⟨dst,.convert s d x,ty,pos,af,none⟩):=by
 refine opWp_of_run fun a ha=>⟨_,w,?_,hk⟩
 have g1:ro P w (underlying s)=some (.int k'):=by rw [ro_underlying,h1]
 have g2:ro P w (underlying d)=some .string:=by rw [ro_underlying,h2]
 simp only [execOp,convert,Sem.run_bind,ro_run g1,ro_run g2,Result.andThen_ok,ha x _ hx,Conv.intToString,Sem.run_pure]
theorem enc_size (r:Int):(Utf8.encode r).size≤4:=by
 unfold Utf8.encode;generalize (if Utf8.valid r=true then r.toNat else Utf8.runeError)=c;simp only
 repeat' split
 · exact (by decide:(1:Nat)≤4)
 · exact (by decide:(2:Nat)≤4)
 · exact (by decide:(3:Nat)≤4)
 · exact (by decide:(4:Nat)≤4)
theorem dec_size (u:Nat) (h:u < 100):(Lib.decDigits u).length≤2:=by
 rw [Lib.decDigits]
 split
 · simp
 · rw [Lib.decDigits,dif_pos (by omega)];simp
theorem f_called (n:Nat) (hn:n < 2000) {w:World}:CallsR Tryz.prog 97 [I n] w fun r w'=>(∃ s,r = .string s)∧w=w':=by
 refine fit97.calls rfl ?_;unfold ir97;have c26:¬ ((26:Int)=0):=by decide
 (try simp only [go_sem,simprocAttr,c26]);refine e_cvs (k':=.i32) rfl rfl rfl ?_;generalize hc:Utf8.encode _=c;have hcs:c.size≤4:=by rw [← hc];exact enc_size _
 cases h:decide ((n:Int) < 26) with
 | true=>(try simp only [go_sem,simprocAttr]);exact ⟨_,rfl⟩
 | false=>
   have e:IntKind.i64.wrap ((n:Int).tdiv 26)=((n / 26:Nat):Int):=by
     rw [Int.tdiv_eq_ediv_of_nonneg (by omega),wrap_in (by omega) (by omega)];omega
   (try simp only [go_sem,simprocAttr,c26,e]);refine e_call (by rfl) ?_;have hu:n / 26 < 100:=by omega
   refine CallsR.mono (R:=fun r w'=>r = .string ⟨(Lib.decDigits (n / 26)).toArray⟩∧w'=w) (Calls.mono (Tryz.strconv_Itoa_small (n / 26) hu w) (fun e w' h=>⟨_,h.1,rfl,h.2⟩)) ?_;rintro _ _ ⟨rfl,rfl⟩;have hz:¬ (((c.size+(Lib.decDigits (n / 26)).toArray.size:Nat):Int) > IntKind.i64.max):=by
     have:=dec_size _ hu;have e2:(Lib.decDigits (n / 26)).toArray.size=(Lib.decDigits (n / 26)).length:=by simp
     rw [e2];have:IntKind.i64.max=9223372036854775807:=rfl;omega
   (try simp only [go_sem,simprocAttr,hz]);exact ⟨_,rfl⟩
structure CanI (w0:World) (T b m n:Nat) (W:World):Prop where
 mod:Mod (· = m) w0 W
 box:W.heap[b]? = some (.cells #[.map (some m)] T (0,0))
 map:∃ l,MapV W m l∧(∀ p∈l,VarV p.2)∧l.length≤n
theorem vput_len (l:List (ByteArray×Value)) (k:ByteArray) (v:Value):(vput l k v).length≤l.length+1:=by
 unfold vput
 split<;>simp
theorem vput_all {l:List (ByteArray×Value)} {k:ByteArray} {v:Value} (h:∀ p∈l,VarV p.2) (hv:VarV v):∀ p∈vput l k v,VarV p.2:=by
 intro p hp;unfold vput at hp
 split at hp
 · rcases List.mem_or_eq_of_mem_set hp with hp | rfl
   · exact h p hp
   · exact hv
 · rcases List.mem_append.1 hp with hp | hp
   · exact h p hp
   · rw [List.mem_singleton.1 hp];exact hv
theorem canI_quiet {w0:World} {T b m n:Nat} (h1:m < w0.heap.size) (h2:b < w0.heap.size):Quiet w0.heap.size (CanI w0 T b m n):=by
 intro W W' S hi hm hS;have nb:∀ c,c < w0.heap.size→¬ S c:=fun c hc hs=>by have:=(hS c hs).1;omega
 obtain ⟨l,hl,ha,hn⟩:=hi.map;exact ⟨hi.mod.step hm (fun i hi' hlt=>absurd hi' (nb i hlt)),hm.at hi.box (nb b h2),l,mapv_mod hl hm (nb m h1),ha,hn⟩
theorem vars_stops {N m:Nat} {w:World} {b:Nat} {B:Nat→Prop} {cs:List Value} {t:Ty} (h:TyAt w B cs t) (hB:∀ c,B c→c < w.heap.size) (hb:w.heap[b]? = some (.cells cs.toArray tyT (0,0))) (hn:t.nvars≤N) :
   SeqStopsK Fence.wide m Tryz.prog 104 #[ptr b] (fun y:ByteArray=>#[.string y]) KpC (fun _=>True) (fun _=>True) N w:=by
 intro l J Jx W hW hJ _ hY h0;refine callsIn_wide.2 ?_;have hbW:W.heap[b]? = some (.cells cs.toArray tyT (0,0)):=(hW.block b (lt_of_heap hb)).trans hb;have hm:Mod (fun c=>w.heap.size≤c) w W:=⟨hW.size,fun c hc _=>hW.block c hc,hW.os,hW.tape,hW.output⟩;have ht:TyAt W B cs t:=h.mod hm (fun c hc hs=>by have:=hB c hc;omega);have main:CallsR Tryz.prog 104 [.func (.yield l) #[] #[],ptr b] W fun r W'=>(∃ xs,True∧J xs W')∨(∃ pre,True∧Jx pre W'):=by
   refine fit104.calls rfl ?_;unfold ir104;(try simp only [go_sem,simprocAttr,ln_blk hbW ht.len]);refine e_call (by rfl) ?_;refine (f_eachVar (N:=N) hJ hY t ht h0 (by simpa using hn)).mono ?_;rintro _ W' (⟨rfl,_,xs,hj,_⟩ | ⟨rfl,xs,hj⟩)
   · (try simp only [go_sem,simprocAttr]);exact .inl ⟨xs,hj⟩
   · (try simp only [go_sem,simprocAttr]);exact .inr ⟨xs,hj⟩
 exact Calls.mono main fun e W' ⟨v,he,hv⟩=>⟨⟨v,he⟩,hv⟩
end
end Go.Proofs.YtjfgeekjjlhbdaaGreatDoor