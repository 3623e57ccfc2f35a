/- The row and the card of MeaningNumbers. -/
import Derived.Test.YtjfgeekjjlhbdaaGreatDoorZNE
import Derived.Test.YtjfgeekjjlhbdaaGreatDoorZNA
import Derived.Test.YtjfgeekjjlhbdaaGreatDoorRows
import Derived.Deep.Slices
import Derived.Test.YtjfgeekjjlhbdaaGreatDoorCards
import Derived.Test.YtjfgeekjjlhbdaaGreatDoorTie
import Derived.Deep.DeepHandedRow
import Derived.Lay
import Derived.MakeChecks
set_option linter.unusedSimpArgs false
set_option linter.unusedVariables false
set_option maxRecDepth 100000
namespace Go.Proofs.YtjfgeekjjlhbdaaGreatDoor
section
open Go Go.W
theorem num_at {w:World} {B:Nat→Prop} (n:Int):ExAt w B (numE n) (numX n):=ex_of (each_nil _ _ _ _) (each_nil _ _ _ _) (each_nil _ _ _ _) (each_nil _ _ _ _) (Nat.le_refl _)
theorem ints_nil (w:World):Ints w (.slice none 0 0) []:=⟨none,0,rfl,by simp,fun i h=>absurd h (by simp)⟩
theorem f_awake {w:World}:CallsR Tryz.prog 8 [] w fun r w'=>r = .bool true∧Mod (fun _=>False) w w':=by
 have nolt:∀ {w:World} (b:Nat),(fun _=>False:Nat→Prop) b→b < w.heap.size:=fun b h=>h.elim
 refine fit8.calls rfl ?_;unfold ir8;(try simp only [go_sem,Nat.reduceAdd,Nat.reduceEqDiff,Nat.reduceLT,Nat.reduceLeDiff,Nat.reduceMul,reduceCtorEq,↓reduceIte]);refine e_call (by rfl) ?_;refine f_integer.mono ?_;rintro _ w1 ⟨rfl,hm1⟩;(try simp only [go_sem,Nat.reduceAdd,Nat.reduceEqDiff,Nat.reduceLT,Nat.reduceLeDiff,Nat.reduceMul,reduceCtorEq,↓reduceIte]);refine e_call (by rfl) ?_;refine (f_number 1).mono ?_;rintro _ w2 ⟨rfl,hm2⟩;(try simp only [go_sem,Nat.reduceAdd,Nat.reduceEqDiff,Nat.reduceLT,Nat.reduceLeDiff,Nat.reduceMul,reduceCtorEq,↓reduceIte]);refine e_call (by rfl) ?_;refine (f_number 2).mono ?_;rintro _ w3 ⟨rfl,hm3⟩;(try simp only [go_sem,Nat.reduceAdd,Nat.reduceEqDiff,Nat.reduceLT,Nat.reduceLeDiff,Nat.reduceMul,reduceCtorEq,↓reduceIte]);refine e_call (by rfl) ?_;refine (f_op2 (S:=fun _=>False) nolt (num_at 1) (num_at 2)).mono ?_;rintro _ w4 ⟨⟨c4,rfl,h4⟩,hm4⟩;(try simp only [go_sem,Nat.reduceAdd,Nat.reduceEqDiff,Nat.reduceLT,Nat.reduceLeDiff,Nat.reduceMul,reduceCtorEq,↓reduceIte]);refine e_call (by rfl) ?_;refine (f_one (S:=fun _=>False) nolt (leaf_at _ _ 1 noStr) h4).mono ?_;rintro _ w5 ⟨⟨c5,rfl,h5⟩,hm5⟩;obtain ⟨m,hm,e1,e2,e3,e4⟩:=wake_run;(try simp only [go_sem,Nat.reduceAdd,Nat.reduceEqDiff,Nat.reduceLT,Nat.reduceLeDiff,Nat.reduceMul,reduceCtorEq,↓reduceIte]);refine e_call (by rfl) ?_;refine (f_Run wakeP h5 (ints_nil _) hm).mono ?_;rintro _ w6 ⟨⟨oc,rfl,hoc⟩,hm6⟩;obtain ⟨v,rfl,hv⟩:=hoc;rw [e1,e2,e3];rw [e4] at hv;have hm06:=hm1.trans (hm2.trans (hm3.trans (hm4.trans (hm5.trans hm6))));(try simp only [go_sem,Nat.reduceAdd,Nat.reduceEqDiff,Nat.reduceLT,Nat.reduceLeDiff,Nat.reduceMul,reduceCtorEq,↓reduceIte]);refine e_al ?_;intro w7 hb7 hm7 hs7;(try simp only [go_sem,Nat.reduceAdd,Nat.reduceEqDiff,Nat.reduceLT,Nat.reduceLeDiff,Nat.reduceMul,reduceCtorEq,↓reduceIte]);have hv1:=each_one hv;refine e_sta (vs:=oc0 2 0 5 v) (cs:=oc0 0 0 0 (.slice none 0 0)) rfl rfl hb7 rfl rfl (oc_one hv1) ?_;intro w8 hb8 hm8 hs8;have hm68:Mod (fun _=>False) w6 w8:=hm7.step hm8 (fun b hb hl=>by omega);obtain ⟨a,c,r,rfl,hr,hrl,hln,hix⟩:=each_at (hv.mod hm68 nof (fun _ _ h=>h)) (i:=0) (by simp);have hr:r=[.string noStr,I 3]:=hr;subst hr;have z0:((0:Int) == 0)=true:=rfl;have z2:((2:Int) == 2)=true:=rfl;have z1:(((1:Nat):Int) == 1)=true:=rfl;rw [Nat.zero_mul] at hln;have z3:((3:Int) == 3)=true:=rfl;have z5:((5:Int) == 5)=true:=rfl;have zs:(noStr.toList == noStr.toList)=true:=by simp
 have p1:(0:Int)≤0∧(0:Int) < ((1:Nat):Int):=by decide
 have hln:vLN w8 2 (.pointer (some (a.add (Int.toNat 0*2))))=some (.agg #[.string noStr,I 3]):=by rw [show Int.toNat 0*2=0 from rfl];exact hln
 (try simp only [go_sem,Nat.reduceAdd,Nat.reduceEqDiff,Nat.reduceLT,Nat.reduceLeDiff,Nat.reduceMul,reduceCtorEq,↓reduceIte,cell_of hb8,Value.cells,z0,z2,z1,z3,z5,zs,p1,hln,rvs,RV.ev,one?]);exact hm06.trans hm68
end
section
open Go Go.W
section
variable {X X':Cx} (hd:X'.defs=X.defs) (hf:X'.fields=X.fields) (hu:X.fuel≤X'.fuel)
include hd hf hu
end
end
section
open Go Go.W
end
section
open Go Go.W
theorem oc_form {w:World} {B:Nat→Prop} {oc:List Value} {x:Option Rn} (h:OcAt w B oc x):∃ k s n v l,oc=oc0 k s n v∧ItsAt w B v l:=by
 match x,h with
 | none,h=>exact ⟨_,_,_,_,[],h,each_nil _ _ _ _⟩
 | some m,⟨v,h1,h2⟩=>exact ⟨_,_,_,_,_,h1,h2⟩
theorem OcAt.up {w w':World} {B B':Nat→Prop} {oc:List Value} {x:Option Rn} (h:OcAt w B oc x) (hm:Mod (fun _=>False) w w') (hB:∀ b,B b→B' b):OcAt w' B' oc x:=by
 match x,h with
 | none,h=>exact h
 | some m,⟨v,h1,h2⟩=>exact ⟨v,h1,EachAt.up h2 hm nof hB (fun _ _ h=>h)⟩
end
section
open Go Go.W Go.ChangeShapes Go.WideShapes Go.ChangeAt Go.RowKit Go.Deep
theorem Tryz.own:ownKnob Tryz.prog.godebug=none:=by kernel_rfl
theorem Tryz.laidOut:laidOutB Tryz.prog=true:=by kernel_rfl
section
variable {H:Type} {enc:TypeId×Value→H} {P:Program}
theorem cell_lt {w:World} {a:Addr} {v:Value} (h:w.cell? a=some v):a.block < w.heap.size:=by
 unfold World.cell? at h;cases hb:w.heap[a.block]? with
 | none=>rw [hb] at h;cases h
 | some o=>exact lt_of_heap hb
variable {w:World} {base:Nat} {held:Bool}
end
end
section
open Go Go.W Go.ChangeShapes Go.WideShapes Go.ChangeAt Go.RowKit Go.Deep
section
variable {H:Type} {enc:TypeId×Value→H} {w:World} {base:Nat} {held:Bool}
end
end
section
open Go Go.W Go.ChangeShapes Go.WideShapes Go.ChangeAt Go.RowKit Go.Deep
theorem all_app {p:Nat→Bool} {l m:List Nat} (h:(l++m).all p=true):l.all p=true∧m.all p=true:=by
 simpa using h
section
variable {H:Type} {enc:TypeId×Value→H} {w:World} {ts:List TypeId} {args:List Value} {ds:List (DataW H)}
theorem lawIn_cons {P:Program} {t:TypeId} (h:LawIn enc P (t::ts) w args ds):∃ v args' d ds' base p,args=v::args'∧ds=d::ds'∧LawIn enc P ts w args' ds'∧Value.okWide P w .any base t v∧DataW.Trod enc P w 0 (fun _=>true) true t v d p∧(d.weights P t).all (·≤reachBytes)=true:=by
 obtain ⟨⟨base,hval⟩,⟨ps,hA⟩,hsz⟩:=h;obtain ⟨v,vs,d,ds',p,q,rfl,rfl,rfl,hd,hrest⟩:=trodAll_cons hA;rw [DataW.weightsEach] at hsz;obtain ⟨h1,h2⟩:=all_app hsz;exact ⟨v,vs,d,ds',base,p,rfl,rfl,⟨⟨base,fun j t' v' ht hv=>hval (j+1) t' v' ht hv⟩,⟨q,hrest⟩,h2⟩,hval 0 t v rfl rfl,hd,h1⟩
theorem lawIn_nil {P:Program} (h:LawIn enc P [] w args ds):args=[]∧ds=[]:=by
 obtain ⟨_,⟨ps,hA⟩,_⟩:=h;obtain ⟨rfl,rfl,_⟩:=trodAll_nil hA;exact ⟨rfl,rfl⟩
theorem in_int (h:LawIn enc Tryz.prog (3::ts) w args ds):∃ n args' d ds',args=I n::args'∧ds=d::ds'∧LawIn enc Tryz.prog ts w args' ds':=by
 obtain ⟨v,args',d,ds',base,p,rfl,rfl,h',hval,hd,_⟩:=lawIn_cons h;obtain ⟨n,rfl,_⟩:=open_int Tryz.underlying3 hval hd;exact ⟨n,args',d,ds',rfl,rfl,h'⟩
end
abbrev theL:List (String×DataW Unit):=[("math/bits.deBruijn32tab",Rows.laid_math_bits_deBruijn32tab),("math/bits.deBruijn64tab",Rows.laid_math_bits_deBruijn64tab),("internal/strconv.uint64pow10",Rows.laid_internal_strconv_uint64pow10),("unicode/utf8.acceptRanges",Rows.laid_unicode_utf8_acceptRanges),("unicode/utf8.first",Rows.laid_unicode_utf8_first)]
theorem laid_at (os:Os) (args:Array Value):laidMetH Tryz.prog theL ((World.laidAll Tryz.prog os theL).forCall (fun _ _=>0) ⟨#[],args,[]⟩).memory:=by
 rw [MakeChecks.laidMetH_plain _ _ _ (by kernel_rfl)];exact laidMet_laidAll _ (by kernel_rfl) (by kernel_rfl)
end
section
open Go Go.W
theorem bin_run (t:Ty) (s:ByteArray) (a b:Int):runM (binP t s a b) 20 mName false []=match oprS s a b with
   | none=>some { cells:=[.busy],frames:=[.upd 0],told:=[],steps:=4,kind:=3,stuck:=3}
   | some y=>tellS (newX (binP t s a b) 20) bigN y [] { cells:=[y],frames:=[],told:=[],steps:=4,kind:=0,stuck:=0}:=by
 unfold runM;have h:goOnS (newX (binP t s a b) 20) bigN (.go (globE mName) []) (newM (binP t s a b))=match oprS s a b with
   | none=>some (none,{ cells:=[.busy],frames:=[.upd 0],told:=[],steps:=4,kind:=3,stuck:=3})
   | some y=>some (some y,{ cells:=[y],frames:=[],told:=[],steps:=4,kind:=0,stuck:=0}):=by
   show goOnS (newX (binP t s a b) 20) (16777200+16) _ _=_;have hd:aget (newX (binP t s a b) 20).defs mName=some 0:=by rfl
   have hf:(newX (binP t s a b) 20).fuel=20:=rfl;have hm:newM (binP t s a b) = { cells:=[.wait (opE s (numX a) (numX b)) []],frames:=[],told:=[],steps:=0,kind:=0,stuck:=0}:=rfl;rw [hm];cases ho:oprS s a b with
   | none=>simp [goOnS,stepS,hf,beginS,globE,hd,enterCl,opE,numX,Ex.kind,Ex.name,Ex.num,Ex.args,Rn.put,Rn.push,endS,numOf,ho,Rn.stop]
   | some y=>simp [goOnS,stepS,hf,beginS,globE,hd,enterCl,opE,numX,Ex.kind,Ex.name,Ex.num,Ex.args,Rn.put,Rn.push,endS,numOf,ho,Rn.stop]
 rw [h];cases oprS s a b<;>rfl
theorem tell_flat {X:Cx} {y:Cl} {m:Rn} (hf:fieldsOf y=[]) (hs:m.steps≠X.fuel):tellS X bigN y [] m=some { m with steps:=m.steps+1,told:=m.told++itemS y,kind:=2}:=by
 show tellS X (16777200+16) _ _ _=_;simp [tellS,stepS,hs,hf]
theorem bin_entry (s:ByteArray) (a b:Int):entryS (binP intT s a b) 100 mName=some (false,true)∧entryS (binP boolT s a b) 100 mName=some (false,true):=⟨by rfl,by rfl⟩
theorem bin_runS {t:Ty} {s:ByteArray} {a b:Int} (ht:t=intT∨t=boolT) (hop:opsS s=some t) (ha : -4611686018427387904≤a∧a≤4611686018427387903) (hb : -4611686018427387904≤b∧b≤4611686018427387903) (hy:∀ y,oprS s a b=some y→fieldsOf y=[]) :
   ∃ m,runS (binP t s a b) 100 mName [] 20=some (0,some m)∧match oprS s a b with
     | none=>m.kind=3
     | some y=>m.kind=2∧m.told=itemS y:=by
 have he:entryS (binP t s a b) 100 mName=some (false,true):=by
   rcases ht with rfl | rfl
   · exact (bin_entry s a b).1
   · exact (bin_entry s a b).2
 have hr:=bin_run t s a b;unfold runS;rw [if_neg (by decide),if_neg (by decide),if_neg (by decide),if_neg (by rw [check_bin ht hop ha hb];simp),he];simp only;rw [hr];cases ho:oprS s a b with
 | none=>exact ⟨_,rfl,rfl⟩
 | some y=>
   simp only;rw [tell_flat (hy y ho) (by show (4:Int)≠20;decide)];exact ⟨_,rfl,rfl,by simp⟩
end
section
open Go Go.W
def toldS (s:ByteArray) (a b:Int):Int×Bool:=match oprS s a b with
 | some (.num n)=>(n,true)
 | _=>(0,false)
theorem f_told {s:ByteArray} {a b:Int} {w:World} (hop:opsS s=some intT) (ha : -4611686018427387904≤a∧a≤4611686018427387903) (hb : -4611686018427387904≤b∧b≤4611686018427387903) (hy:∀ y,oprS s a b=some y→∃ n,y = .num n) :
   CallsR Tryz.prog 17 [.string s,I a,I b] w fun r w'=>r = .tuple #[I (toldS s a b).1,.bool (toldS s a b).2]∧Mod (fun _=>False) w w':=by
 have nolt:∀ {w:World} (b:Nat),(fun _=>False:Nat→Prop) b→b < w.heap.size:=fun b h=>h.elim
 refine fit17.calls rfl ?_;unfold ir17;refine ir_cut (fun ρ w'=>w=w'∧ρ=[(0,.string s),(1,I a),(2,I b)]) ?_ ?_
 · (try simp only [go_sem,Nat.reduceAdd,Nat.reduceEqDiff,Nat.reduceLT,Nat.reduceLeDiff,Nat.reduceMul,reduceCtorEq,↓reduceIte])
 rintro _ _ ⟨rfl,rfl⟩;obtain ⟨m,hm,hres⟩:=bin_runS (.inl rfl) hop ha hb (fun y h=>by obtain ⟨n,rfl⟩:=hy y h;rfl);refine ir_cut (fun ρ w'=>∃ b8 oc,OcAt w' (fun b=>w.heap.size≤b∧b < w'.heap.size) oc (some m)∧w'.heap[b8]? = some (.cells oc.toArray 34 (0,0))∧Mod (fun _=>False) w w'∧ρ=[(8,ptr b8),(9,I 0)]) ?_ ?_
 · (try simp only [go_sem,Nat.reduceAdd,Nat.reduceEqDiff,Nat.reduceLT,Nat.reduceLeDiff,Nat.reduceMul,reduceCtorEq,↓reduceIte]);refine e_call (by rfl) ?_;refine f_integer.mono ?_;rintro _ w1 ⟨rfl,hm1⟩;(try simp only [go_sem,Nat.reduceAdd,Nat.reduceEqDiff,Nat.reduceLT,Nat.reduceLeDiff,Nat.reduceMul,reduceCtorEq,↓reduceIte]);refine e_call (by rfl) ?_;refine (f_number a).mono ?_;rintro _ w2 ⟨rfl,hm2⟩;(try simp only [go_sem,Nat.reduceAdd,Nat.reduceEqDiff,Nat.reduceLT,Nat.reduceLeDiff,Nat.reduceMul,reduceCtorEq,↓reduceIte]);refine e_call (by rfl) ?_;refine (f_number b).mono ?_;rintro _ w3 ⟨rfl,hm3⟩;(try simp only [go_sem,Nat.reduceAdd,Nat.reduceEqDiff,Nat.reduceLT,Nat.reduceLeDiff,Nat.reduceMul,reduceCtorEq,↓reduceIte]);refine e_call (by rfl) ?_;refine (f_op2 (S:=fun _=>False) nolt (num_at a) (num_at b)).mono ?_;rintro _ w4 ⟨⟨c4,rfl,h4⟩,hm4⟩;(try simp only [go_sem,Nat.reduceAdd,Nat.reduceEqDiff,Nat.reduceLT,Nat.reduceLeDiff,Nat.reduceMul,reduceCtorEq,↓reduceIte]);refine e_call (by rfl) ?_;refine (f_one (S:=fun _=>False) nolt (leaf_at _ _ 1 noStr) h4).mono ?_;rintro _ w5 ⟨⟨c5,rfl,h5⟩,hm5⟩;(try simp only [go_sem,Nat.reduceAdd,Nat.reduceEqDiff,Nat.reduceLT,Nat.reduceLeDiff,Nat.reduceMul,reduceCtorEq,↓reduceIte]);refine e_call (by rfl) ?_;refine (f_Run (binP intT s a b) h5 (ints_nil _) hm).mono ?_;rintro _ w6 ⟨⟨oc,rfl,hoc⟩,hm6⟩;have hm05:=hm1.trans (hm2.trans (hm3.trans (hm4.trans hm5)));have hm06:=hm05.trans hm6;have z5:=hm05.size;obtain ⟨k,s',n',v',l',rfl,hits⟩:=oc_form hoc;(try simp only [go_sem,Nat.reduceAdd,Nat.reduceEqDiff,Nat.reduceLT,Nat.reduceLeDiff,Nat.reduceMul,reduceCtorEq,↓reduceIte]);refine e_al ?_;intro w7 hb7 hm7 hs7;(try simp only [go_sem,Nat.reduceAdd,Nat.reduceEqDiff,Nat.reduceLT,Nat.reduceLeDiff,Nat.reduceMul,reduceCtorEq,↓reduceIte]);refine e_sta (vs:=oc0 k s' n' v') (cs:=oc0 0 0 0 (.slice none 0 0)) rfl rfl hb7 rfl rfl (oc_one (each_one hits)) ?_;intro w8 hb8 hm8 hs8;have hm68:Mod (fun _=>False) w6 w8:=hm7.step hm8 (fun b hb hl=>by omega);have z8:=hm68.size;(try simp only [go_sem,Nat.reduceAdd,Nat.reduceEqDiff,Nat.reduceLT,Nat.reduceLeDiff,Nat.reduceMul,reduceCtorEq,↓reduceIte]);exact ⟨_,_,hoc.up hm68 (fun b h=>⟨by omega,by omega⟩),hb8,hm06.trans hm68,rfl⟩
 rintro _ w8 ⟨b8,oc,⟨v,rfl,hv⟩,hb8,hm8,rfl⟩;have z0:((0:Int) != 0)=false:=rfl;cases ho:oprS s a b with
 | none=>
   rw [ho] at hres;have ht:toldS s a b=(0,false):=by unfold toldS;rw [ho]
   rw [ht];have q:(m.kind != 2)=true:=by rw [show m.kind=3 from hres];try rfl
   (try simp only [go_sem,Nat.reduceAdd,Nat.reduceEqDiff,Nat.reduceLT,Nat.reduceLeDiff,Nat.reduceMul,reduceCtorEq,↓reduceIte,cell_of hb8,Value.cells,z0,q,rvs,RV.ev]);exact hm8
 | some y=>
   obtain ⟨n,rfl⟩:=hy y ho;rw [ho] at hres;obtain ⟨hk,htd⟩:=hres;have ht:toldS s a b=(n,true):=by unfold toldS;rw [ho]
   rw [ht];have q:(m.kind != 2)=false:=by rw [hk];try rfl
   rw [htd] at hv;obtain ⟨ad,c,r,rfl,hr,hrl,hln,hix⟩:=each_at hv (i:=0) (by simp [itemS]);have hr:r=[.string noStr,I n]:=hr;subst hr;have c0:=hix 0 (by simp);have c1:=hix 1 (by simp);rw [show (ad.add (0*2)).add 0=ad.add (Int.toNat 0*2) by rfl] at c0;have z1:(((itemS (Cl.num n)).length:Int) != 1)=false:=rfl;have zs:(noStr.toList != noStr.toList)=false:=by simp
   have p1:(0:Int)≤0∧(0:Int) < ((itemS (Cl.num n)).length:Int):=⟨by decide,by simp [itemS]⟩;have c0:w8.cell? (ad.add (Int.toNat 0*2))=some (.string noStr):=c0;have c1:w8.cell? ((ad.add (Int.toNat 0*2)).add 1)=some (I n):=c1;have zs:(noStr.toList == ByteArray.toList ⟨#[]⟩)=true:=by simp
   (try simp only [go_sem,Nat.reduceAdd,Nat.reduceEqDiff,Nat.reduceLT,Nat.reduceLeDiff,Nat.reduceMul,reduceCtorEq,↓reduceIte,cell_of hb8,Value.cells,z0,q,z1,p1,c0,c1]);rw [zs];(try simp only [go_sem,Nat.reduceAdd,Nat.reduceEqDiff,Nat.reduceLT,Nat.reduceLeDiff,Nat.reduceMul,reduceCtorEq,↓reduceIte,Bool.not_true,cell_of hb8,Value.cells,p1,c0,c1,rvs,RV.ev]);exact ⟨_,c1,rfl,hm8⟩
end
section
open Go Go.W
def cmpN:List ByteArray:=[⟨#[61,61]⟩,⟨#[47,61]⟩,⟨#[60]⟩,⟨#[60,61]⟩,⟨#[62]⟩,⟨#[62,61]⟩]
def cmpR (a b:Int):List Bool:=[a == b,a != b,decide (a < b),decide (a≤b),decide (a > b),decide (a≥b)]
theorem cmp_ops {s:ByteArray} (h:s∈cmpN):opsS s=some boolT:=by
 simp only [cmpN,List.mem_cons,List.not_mem_nil,or_false] at h;rcases h with rfl | rfl | rfl | rfl | rfl | rfl<;>(rw [opsS,if_neg (by decide +kernel),if_pos (by decide +kernel)];try rfl)
theorem cmp_opr {s:ByteArray} (h:s∈cmpN) (a b:Int):oprS s a b=some (.con (if truthS s a b then trueN else falseN) []):=by
 simp only [cmpN,List.mem_cons,List.not_mem_nil,or_false] at h;rcases h with rfl | rfl | rfl | rfl | rfl | rfl<;>(rw [oprS,if_neg (by decide +kernel),if_neg (by decide +kernel),if_neg (by decide +kernel),if_neg (by decide +kernel)])
theorem cmp_truth (a b:Int):∀ (i:Nat) (h:i < cmpN.length) (h':i < (cmpR a b).length),truthS cmpN[i] a b=(cmpR a b)[i]:=by
 intro i h h';have e0:strEq ⟨#[61,61]⟩ ⟨#[61,61]⟩=true:=by decide +kernel
 have e1:strEq ⟨#[47,61]⟩ ⟨#[61,61]⟩=false:=by decide +kernel
 have e2:strEq ⟨#[47,61]⟩ ⟨#[47,61]⟩=true:=by decide +kernel
 have e3:strEq ⟨#[60]⟩ ⟨#[61,61]⟩=false:=by decide +kernel
 have e4:strEq ⟨#[60]⟩ ⟨#[47,61]⟩=false:=by decide +kernel
 have e5:strEq ⟨#[60]⟩ ⟨#[60]⟩=true:=by decide +kernel
 have e6:strEq ⟨#[60,61]⟩ ⟨#[61,61]⟩=false:=by decide +kernel
 have e7:strEq ⟨#[60,61]⟩ ⟨#[47,61]⟩=false:=by decide +kernel
 have e8:strEq ⟨#[60,61]⟩ ⟨#[60]⟩=false:=by decide +kernel
 have e9:strEq ⟨#[60,61]⟩ ⟨#[60,61]⟩=true:=by decide +kernel
 have f1:strEq ⟨#[62]⟩ ⟨#[61,61]⟩=false:=by decide +kernel
 have f2:strEq ⟨#[62]⟩ ⟨#[47,61]⟩=false:=by decide +kernel
 have f3:strEq ⟨#[62]⟩ ⟨#[60]⟩=false:=by decide +kernel
 have f4:strEq ⟨#[62]⟩ ⟨#[60,61]⟩=false:=by decide +kernel
 have f5:strEq ⟨#[62]⟩ ⟨#[62]⟩=true:=by decide +kernel
 have g1:strEq ⟨#[62,61]⟩ ⟨#[61,61]⟩=false:=by decide +kernel
 have g2:strEq ⟨#[62,61]⟩ ⟨#[47,61]⟩=false:=by decide +kernel
 have g3:strEq ⟨#[62,61]⟩ ⟨#[60]⟩=false:=by decide +kernel
 have g4:strEq ⟨#[62,61]⟩ ⟨#[60,61]⟩=false:=by decide +kernel
 have g5:strEq ⟨#[62,61]⟩ ⟨#[62]⟩=false:=by decide +kernel
 have g6:strEq ⟨#[62,61]⟩ ⟨#[62,61]⟩=true:=by decide +kernel
 match i,h,h' with
 | 0,_,_=>simp [cmpN,cmpR,truthS,e0]
 | 1,_,_=>simp [cmpN,cmpR,truthS,e1,e2]
 | 2,_,_=>simp [cmpN,cmpR,truthS,e3,e4,e5]
 | 3,_,_=>simp [cmpN,cmpR,truthS,e6,e7,e8,e9]
 | 4,_,_=>simp [cmpN,cmpR,truthS,f1,f2,f3,f4,f5]
 | 5,_,_=>simp [cmpN,cmpR,truthS,g1,g2,g3,g4,g5,g6]
 | i+6,h,_=>exact absurd h (by simp [cmpN])
end
section
open Go Go.W
theorem cmp_fin {w3 c vz:World} {m:Rn} {oc:List Value} {lo hi bb:Nat} (hm:Mod (fun _=>False) w3 c) (hoc:OcAt c (fun b=>lo≤b∧b < hi) oc (some m)) (hbb:bb < lo∨hi≤bb) (hlo:w3.heap.size≤lo) (hhi:hi≤c.heap.size) (hmz:Mod (· = bb) c vz) (hb3:w3.heap.size≤bb) :
   OcAt vz (fun b=>w3.heap.size≤b∧b < vz.heap.size) oc (some m)∧Mod (fun _=>False) w3 vz:=by
 obtain ⟨v,h1,h2⟩:=hoc;have z:=hmz.size;refine ⟨⟨v,h1,EachAt.up h2 hmz (fun b h e=>?_) (fun b h=>⟨by omega,by omega⟩) (fun _ _ h=>h)⟩,hm.step hmz (fun b hb hl=>by omega)⟩;have e:b=bb:=e;omega
theorem f_compares {a b:Int} {w:World} (ha : -4611686018427387904≤a∧a≤4611686018427387903) (hb : -4611686018427387904≤b∧b≤4611686018427387903) :
   CallsR Tryz.prog 18 [I a,I b] w fun r w'=>r = .bool true∧Mod (fun _=>False) w w':=by
 have nolt:∀ {w:World} (b:Nat),(fun _=>False:Nat→Prop) b→b < w.heap.size:=fun b h=>h.elim
 refine fit18.calls rfl ?_;unfold ir18;refine ir_cut (fun ρ w'=>w=w'∧ρ=[(0,I a),(1,I b)]) ?_ ?_
 · (try simp only [go_sem,Nat.reduceAdd,Nat.reduceEqDiff,Nat.reduceLT,Nat.reduceLeDiff,Nat.reduceMul,reduceCtorEq,↓reduceIte])
 rintro _ _ ⟨rfl,rfl⟩;refine ir_cut (fun ρ w'=>∃ b5,Mod (fun _=>False) w w'∧w'.heap[b5]? = some (.cells (cmpN.map Value.string).toArray 9 (0,0))∧ρ=[(0,I a),(1,I b),(5,.slice (some ⟨b5,0,none⟩) 6 6)]) ?_ ?_
 · (try simp only [go_sem,Nat.reduceAdd,Nat.reduceEqDiff,Nat.reduceLT,Nat.reduceLeDiff,Nat.reduceMul,reduceCtorEq,↓reduceIte]);refine e_bs (cs:=(cmpN.map Value.string).toArray) rfl rfl ?_;intro w1 hb1 hm1 hs1;(try simp only [go_sem,Nat.reduceAdd,Nat.reduceEqDiff,Nat.reduceLT,Nat.reduceLeDiff,Nat.reduceMul,reduceCtorEq,↓reduceIte]);exact ⟨_,hm1,hb1,rfl⟩
 rintro _ w1 ⟨b5,hm1,hb5,rfl⟩;refine ir_cut (fun ρ w'=>∃ b6,Mod (fun _=>False) w w'∧w'.heap[b5]? = some (.cells (cmpN.map Value.string).toArray 9 (0,0))∧w'.heap[b6]? = some (.cells ((cmpR a b).map Value.bool).toArray 4 (0,0))∧ρ=[(0,I a),(1,I b),(5,.slice (some ⟨b5,0,none⟩) 6 6),(6,.slice (some ⟨b6,0,none⟩) 6 6)]) ?_ ?_
 · (try simp only [go_sem,Nat.reduceAdd,Nat.reduceEqDiff,Nat.reduceLT,Nat.reduceLeDiff,Nat.reduceMul,reduceCtorEq,↓reduceIte]);generalize e0:(a == b)=x0;generalize e1:(a != b)=x1;generalize e2:decide (a < b)=x2;generalize e3:decide (a≤b)=x3;generalize e4:decide (a > b)=x4;generalize e5:decide (a≥b)=x5;have hR:cmpR a b=[x0,x1,x2,x3,x4,x5]:=by rw [cmpR,e0,e1,e2,e3,e4,e5]
   rw [hR];clear hR e0 e1 e2 e3 e4 e5;refine e_bs (cs:=#[.bool x0,.bool x1,.bool x2,.bool x3,.bool x4,.bool x5]) (ps:=[(0,1,.bool x0),(1,1,.bool x1),(2,1,.bool x2),(3,1,.bool x3),(4,1,.bool x4),(5,1,.bool x5)]) (by (try simp only [go_sem,Nat.reduceAdd,Nat.reduceEqDiff,Nat.reduceLT,Nat.reduceLeDiff,Nat.reduceMul,reduceCtorEq,↓reduceIte])) (by kernel_rfl) ?_;intro w2 hb2 hm2 hs2;(try simp only [go_sem,Nat.reduceAdd,Nat.reduceEqDiff,Nat.reduceLT,Nat.reduceLeDiff,Nat.reduceMul,reduceCtorEq,↓reduceIte]);exact ⟨_,hm1.trans hm2,hm2.at hb5 _root_.id,hb2,rfl⟩
 clear hm1 hb5;rintro _ w2 ⟨b6,hm2,hb5,hb6,rfl⟩;(try simp only [go_sem,Nat.reduceAdd,Nat.reduceEqDiff,Nat.reduceLT,Nat.reduceLeDiff,Nat.reduceMul,reduceCtorEq,↓reduceIte]);refine ir_loop (fun z ρ w'=>∃ i:Nat,z=6 - i∧i≤6∧Mod (fun _=>False) w2 w'∧ρ=[(0,I a),(1,I b),(5,.slice (some ⟨b5,0,none⟩) 6 6),(6,.slice (some ⟨b6,0,none⟩) 6 6),(7,I i)]) 6 ⟨0,rfl,by omega,.refl _ _,rfl⟩ ?_;rintro z _ w3 ⟨i,rfl,hi6,hm23,rfl⟩;have hb5:=hm23.at hb5 _root_.id;have hb6:=hm23.at hb6 _root_.id;have hm3:=hm2.trans hm23;unfold ir18L1;by_cases q:i < 6
 · have b1:decide ((i:Int) < 6)=true:=decide_eq_true (by omega);have p1:(0:Int)≤i∧(i:Int) < ((6:Nat):Int):=by omega
   obtain ⟨s,x,hs,htr,c5,c6⟩:∃ s x,s∈cmpN∧truthS s a b=x∧(cmpN.map Value.string).toArray[i]? = some (.string s)∧((cmpR a b).map Value.bool).toArray[i]? = some (.bool x):=by
     have l1:i < cmpN.length:=q;have l2:i < (cmpR a b).length:=q;exact ⟨_,_,List.getElem_mem l1,cmp_truth a b i l1 l2,by simp [l1],by simp [l2]⟩
   obtain ⟨m,hm,hres⟩:=bin_runS (.inr rfl) (cmp_ops hs) ha hb (fun y h=>by rw [cmp_opr hs] at h;cases h;rfl);rw [cmp_opr hs,htr] at hres;obtain ⟨hk,htd⟩:=hres;have c5:w3.cell? ⟨b5,(i:Int).toNat*1,none⟩=some (.string s):=by rw [cell_of hb5,show (i:Int).toNat*1=i by omega];exact c5
   have c6:w3.cell? ⟨b6,(i:Int).toNat*1,none⟩=some (.bool x):=by rw [cell_of hb6,show (i:Int).toNat*1=i by omega];exact c6
   refine ir_cut (fun ρ w'=>w3=w'∧ρ=[(0,I a),(1,I b),(5,.slice (some ⟨b5,0,none⟩) 6 6),(6,.slice (some ⟨b6,0,none⟩) 6 6),(7,I i),(32,.bool true)]) ?_ ?_
   · (try simp only [go_sem,Nat.reduceAdd,Nat.reduceEqDiff,Nat.reduceLT,Nat.reduceLeDiff,Nat.reduceMul,reduceCtorEq,↓reduceIte,b1])
   rintro _ _ ⟨rfl,rfl⟩;refine ir_cut (fun ρ w'=>Mod (fun _=>False) w3 w'∧ρ.get 0=some (I a)∧ρ.get 1=some (I b)∧ρ.get 5=some (.slice (some ⟨b5,0,none⟩) 6 6)∧ρ.get 6=some (.slice (some ⟨b6,0,none⟩) 6 6)∧ρ.get 7=some (I i)) ?_ ?_
   · refine ir_blk ?_;refine ir_cut (fun ρ w'=>∃ b8 oc,OcAt w' (fun b=>w3.heap.size≤b∧b < w'.heap.size) oc (some m)∧w'.heap[b8]? = some (.cells oc.toArray 34 (0,0))∧Mod (fun _=>False) w3 w'∧ρ=[(0,I a),(1,I b),(5,.slice (some ⟨b5,0,none⟩) 6 6),(6,.slice (some ⟨b6,0,none⟩) 6 6),(7,I i),(8,ptr b8),(9,I 0)]) ?_ ?_
     · (try simp only [go_sem,Nat.reduceAdd,Nat.reduceEqDiff,Nat.reduceLT,Nat.reduceLeDiff,Nat.reduceMul,reduceCtorEq,↓reduceIte,p1,c5]);have hq:w3.drew.heap[b5]? = _:=hb5;have hm00:Mod (fun _=>False) w3 w3.drew:=(Mod.refl _ _).drew;generalize w3.drew=v0 at hq hm00 ⊢;rw [wpD_e2];refine ⟨?_,?_⟩
       · refine e_call (by rfl) ?_;refine (f_number a).mono ?_;rintro _ v1 ⟨rfl,hm1⟩;have hm01:=hm00.trans hm1;have kk:=hm1.old b5 (lt_of_heap hq) _root_.id;have hq:=hm1.at hq _root_.id;(try simp only [go_sem,Nat.reduceAdd,Nat.reduceEqDiff,Nat.reduceLT,Nat.reduceLeDiff,Nat.reduceMul,reduceCtorEq,↓reduceIte]);refine ⟨by simp only [drew_heap,kk,and_self,implies_true],?_⟩;rw [wpD_e2];refine ⟨?_,?_⟩
         · refine e_call (by rfl) ?_;refine (f_number b).mono ?_;rintro _ v2 ⟨rfl,hm2⟩;have hm02:=hm01.trans hm2;have kk:=hm2.old b5 (lt_of_heap hq) _root_.id;have hq:=hm2.at hq _root_.id;(try simp only [go_sem,Nat.reduceAdd,Nat.reduceEqDiff,Nat.reduceLT,Nat.reduceLeDiff,Nat.reduceMul,reduceCtorEq,↓reduceIte]);refine ⟨by simp only [drew_heap,kk,and_self,implies_true],?_⟩;rw [wpD_e2];refine ⟨?_,?_⟩
           · refine e_call (by rfl) ?_;refine (f_op2 (S:=fun _=>False) nolt (num_at a) (num_at b)).mono ?_;rintro _ v3 ⟨⟨c3,rfl,h3⟩,hm3⟩;have hm03:=hm02.trans hm3;have hq:=hm3.at hq _root_.id;(try simp only [go_sem,Nat.reduceAdd,Nat.reduceEqDiff,Nat.reduceLT,Nat.reduceLeDiff,Nat.reduceMul,reduceCtorEq,↓reduceIte]);rw [wpD_e2];refine ⟨?_,?_⟩
             · refine e_call (by rfl) ?_;refine (f_one (S:=fun _=>False) nolt (leaf_at _ _ 4 boolN) h3).mono ?_;rintro _ v4 ⟨⟨c4,rfl,h4⟩,hm4⟩;have hm04:=hm03.trans hm4;have hq:=hm4.at hq _root_.id;(try simp only [go_sem,Nat.reduceAdd,Nat.reduceEqDiff,Nat.reduceLT,Nat.reduceLeDiff,Nat.reduceMul,reduceCtorEq,↓reduceIte]);rw [wpD_e2];refine ⟨?_,?_⟩
               · refine e_call (by rfl) ?_;refine (f_Run (binP boolT s a b) h4 (ints_nil _) hm).mono ?_;rintro _ v5 ⟨⟨oc,rfl,hoc⟩,hm5⟩;have hm05:=hm04.trans hm5;obtain ⟨k',s',n',v',l',rfl,hits⟩:=oc_form hoc;have hq:=hm5.at hq _root_.id;(try simp only [go_sem,Nat.reduceAdd,Nat.reduceEqDiff,Nat.reduceLT,Nat.reduceLeDiff,Nat.reduceMul,reduceCtorEq,↓reduceIte]);refine e_al ?_;intro va hb8 hma hsa;have kk:=hma.old b5 (lt_of_heap hq) _root_.id;have hq:=hma.at hq _root_.id;(try simp only [go_sem,Nat.reduceAdd,Nat.reduceEqDiff,Nat.reduceLT,Nat.reduceLeDiff,Nat.reduceMul,reduceCtorEq,↓reduceIte]);refine ⟨by simp only [drew_heap,kk,and_self,implies_true],?_⟩;have h8:w3.heap.size≤v5.heap.size:=hm05.size;have hm05:=hm05.trans hma;have hoc:=hoc.up (B':=fun b=>v4.heap.size≤b∧b < v5.heap.size) hma (fun b h=>h);refine e_sta (vs:=oc0 k' s' n' v') (cs:=oc0 0 0 0 (.slice none 0 0)) rfl rfl hb8 rfl rfl (oc_one (each_one hits)) ?_;intro vz hbz hmz hsz;(try simp only [go_sem,Nat.reduceAdd,Nat.reduceEqDiff,Nat.reduceLT,Nat.reduceLeDiff,Nat.reduceMul,reduceCtorEq,↓reduceIte]);have y1:=hm05.size;have y2:=hma.size;have y0:=hm04.size;obtain ⟨z1,z2⟩:=cmp_fin (bb:=v5.heap.size) hm05 hoc (by omega) (by omega) (by first | exact Nat.le_refl _ | omega) hmz (by omega);exact ⟨_,_,z1,hbz,z2,rfl⟩
               · refine e_al ?_;intro va hb8 hma hsa;have kk:=hma.old b5 (lt_of_heap hq) _root_.id;have hq:=hma.at hq _root_.id;(try simp only [go_sem,Nat.reduceAdd,Nat.reduceEqDiff,Nat.reduceLT,Nat.reduceLeDiff,Nat.reduceMul,reduceCtorEq,↓reduceIte]);refine ⟨by simp only [drew_heap,kk,and_self,implies_true],?_⟩;have h8:w3.heap.size≤v4.heap.size:=hm04.size;have hm04:=hm04.trans hma;have h4:=h4.up (S:=fun _=>False) hma nof (out_up hma);refine e_call (by rfl) ?_;refine (f_Run (binP boolT s a b) h4 (ints_nil _) hm).mono ?_;rintro _ v5 ⟨⟨oc,rfl,hoc⟩,hm5⟩;have hm05:=hm04.trans hm5;have hb8:=hm5.at hb8 _root_.id;obtain ⟨k',s',n',v',l',rfl,hits⟩:=oc_form hoc;have hq:=hm5.at hq _root_.id;(try simp only [go_sem,Nat.reduceAdd,Nat.reduceEqDiff,Nat.reduceLT,Nat.reduceLeDiff,Nat.reduceMul,reduceCtorEq,↓reduceIte]);refine e_sta (vs:=oc0 k' s' n' v') (cs:=oc0 0 0 0 (.slice none 0 0)) rfl rfl hb8 rfl rfl (oc_one (each_one hits)) ?_;intro vz hbz hmz hsz;(try simp only [go_sem,Nat.reduceAdd,Nat.reduceEqDiff,Nat.reduceLT,Nat.reduceLeDiff,Nat.reduceMul,reduceCtorEq,↓reduceIte]);have y1:=hm04.size;have y2:=hma.size;have y0:=hm04.size;have y3:=hm5.size;obtain ⟨z1,z2⟩:=cmp_fin (bb:=v4.heap.size) hm05 hoc (by omega) (by omega) (by first | exact Nat.le_refl _ | omega) hmz (by omega);exact ⟨_,_,z1,hbz,z2,rfl⟩
             · refine e_al ?_;intro va hb8 hma hsa;have kk:=hma.old b5 (lt_of_heap hq) _root_.id;have hq:=hma.at hq _root_.id;(try simp only [go_sem,Nat.reduceAdd,Nat.reduceEqDiff,Nat.reduceLT,Nat.reduceLeDiff,Nat.reduceMul,reduceCtorEq,↓reduceIte]);refine ⟨by simp only [drew_heap,kk,and_self,implies_true],?_⟩;have h8:w3.heap.size≤v3.heap.size:=hm03.size;have hm03:=hm03.trans hma;have h3:=h3.up (S:=fun _=>False) hma nof (out_up hma);refine e_call (by rfl) ?_;refine (f_one (S:=fun _=>False) nolt (leaf_at _ _ 4 boolN) h3).mono ?_;rintro _ v4 ⟨⟨c4,rfl,h4⟩,hm4⟩;have hm04:=hm03.trans hm4;have hb8:=hm4.at hb8 _root_.id;have hq:=hm4.at hq _root_.id;(try simp only [go_sem,Nat.reduceAdd,Nat.reduceEqDiff,Nat.reduceLT,Nat.reduceLeDiff,Nat.reduceMul,reduceCtorEq,↓reduceIte]);refine e_call (by rfl) ?_;refine (f_Run (binP boolT s a b) h4 (ints_nil _) hm).mono ?_;rintro _ v5 ⟨⟨oc,rfl,hoc⟩,hm5⟩;have hm05:=hm04.trans hm5;have hb8:=hm5.at hb8 _root_.id;obtain ⟨k',s',n',v',l',rfl,hits⟩:=oc_form hoc;have hq:=hm5.at hq _root_.id;(try simp only [go_sem,Nat.reduceAdd,Nat.reduceEqDiff,Nat.reduceLT,Nat.reduceLeDiff,Nat.reduceMul,reduceCtorEq,↓reduceIte]);refine e_sta (vs:=oc0 k' s' n' v') (cs:=oc0 0 0 0 (.slice none 0 0)) rfl rfl hb8 rfl rfl (oc_one (each_one hits)) ?_;intro vz hbz hmz hsz;(try simp only [go_sem,Nat.reduceAdd,Nat.reduceEqDiff,Nat.reduceLT,Nat.reduceLeDiff,Nat.reduceMul,reduceCtorEq,↓reduceIte]);have y1:=hm03.size;have y2:=hma.size;have y0:=hm04.size;have y3:=hm4.size;have y4:=hm5.size;obtain ⟨z1,z2⟩:=cmp_fin (bb:=v3.heap.size) hm05 hoc (by omega) (by omega) (by first | exact Nat.le_refl _ | omega) hmz (by omega);exact ⟨_,_,z1,hbz,z2,rfl⟩
           · refine e_al ?_;intro va hb8 hma hsa;have kk:=hma.old b5 (lt_of_heap hq) _root_.id;have hq:=hma.at hq _root_.id;(try simp only [go_sem,Nat.reduceAdd,Nat.reduceEqDiff,Nat.reduceLT,Nat.reduceLeDiff,Nat.reduceMul,reduceCtorEq,↓reduceIte]);refine ⟨by simp only [drew_heap,kk,and_self,implies_true],?_⟩;have h8:w3.heap.size≤v2.heap.size:=hm02.size;have hm02:=hm02.trans hma;refine e_call (by rfl) ?_;refine (f_op2 (S:=fun _=>False) nolt (num_at a) (num_at b)).mono ?_;rintro _ v3 ⟨⟨c3,rfl,h3⟩,hm3⟩;have hm03:=hm02.trans hm3;have hb8:=hm3.at hb8 _root_.id;have hq:=hm3.at hq _root_.id;(try simp only [go_sem,Nat.reduceAdd,Nat.reduceEqDiff,Nat.reduceLT,Nat.reduceLeDiff,Nat.reduceMul,reduceCtorEq,↓reduceIte]);refine e_call (by rfl) ?_;refine (f_one (S:=fun _=>False) nolt (leaf_at _ _ 4 boolN) h3).mono ?_;rintro _ v4 ⟨⟨c4,rfl,h4⟩,hm4⟩;have hm04:=hm03.trans hm4;have hb8:=hm4.at hb8 _root_.id;have hq:=hm4.at hq _root_.id;(try simp only [go_sem,Nat.reduceAdd,Nat.reduceEqDiff,Nat.reduceLT,Nat.reduceLeDiff,Nat.reduceMul,reduceCtorEq,↓reduceIte]);refine e_call (by rfl) ?_;refine (f_Run (binP boolT s a b) h4 (ints_nil _) hm).mono ?_;rintro _ v5 ⟨⟨oc,rfl,hoc⟩,hm5⟩;have hm05:=hm04.trans hm5;have hb8:=hm5.at hb8 _root_.id;obtain ⟨k',s',n',v',l',rfl,hits⟩:=oc_form hoc;have hq:=hm5.at hq _root_.id;(try simp only [go_sem,Nat.reduceAdd,Nat.reduceEqDiff,Nat.reduceLT,Nat.reduceLeDiff,Nat.reduceMul,reduceCtorEq,↓reduceIte]);refine e_sta (vs:=oc0 k' s' n' v') (cs:=oc0 0 0 0 (.slice none 0 0)) rfl rfl hb8 rfl rfl (oc_one (each_one hits)) ?_;intro vz hbz hmz hsz;(try simp only [go_sem,Nat.reduceAdd,Nat.reduceEqDiff,Nat.reduceLT,Nat.reduceLeDiff,Nat.reduceMul,reduceCtorEq,↓reduceIte]);have y1:=hm02.size;have y2:=hma.size;have y0:=hm04.size;have y3:=hm3.size;have y4:=hm4.size;have y5:=hm5.size;obtain ⟨z1,z2⟩:=cmp_fin (bb:=v2.heap.size) hm05 hoc (by omega) (by omega) (by first | exact Nat.le_refl _ | omega) hmz (by omega);exact ⟨_,_,z1,hbz,z2,rfl⟩
         · refine e_al ?_;intro va hb8 hma hsa;have kk:=hma.old b5 (lt_of_heap hq) _root_.id;have hq:=hma.at hq _root_.id;(try simp only [go_sem,Nat.reduceAdd,Nat.reduceEqDiff,Nat.reduceLT,Nat.reduceLeDiff,Nat.reduceMul,reduceCtorEq,↓reduceIte]);refine ⟨by simp only [drew_heap,kk,and_self,implies_true],?_⟩;have h8:w3.heap.size≤v1.heap.size:=hm01.size;have hm01:=hm01.trans hma;refine e_call (by rfl) ?_;refine (f_number b).mono ?_;rintro _ v2 ⟨rfl,hm2⟩;have hm02:=hm01.trans hm2;have hb8:=hm2.at hb8 _root_.id;have kk:=hm2.old b5 (lt_of_heap hq) _root_.id;have hq:=hm2.at hq _root_.id;(try simp only [go_sem,Nat.reduceAdd,Nat.reduceEqDiff,Nat.reduceLT,Nat.reduceLeDiff,Nat.reduceMul,reduceCtorEq,↓reduceIte]);refine ⟨by simp only [drew_heap,kk,and_self,implies_true],?_⟩;refine e_call (by rfl) ?_;refine (f_op2 (S:=fun _=>False) nolt (num_at a) (num_at b)).mono ?_;rintro _ v3 ⟨⟨c3,rfl,h3⟩,hm3⟩;have hm03:=hm02.trans hm3;have hb8:=hm3.at hb8 _root_.id;have hq:=hm3.at hq _root_.id;(try simp only [go_sem,Nat.reduceAdd,Nat.reduceEqDiff,Nat.reduceLT,Nat.reduceLeDiff,Nat.reduceMul,reduceCtorEq,↓reduceIte]);refine e_call (by rfl) ?_;refine (f_one (S:=fun _=>False) nolt (leaf_at _ _ 4 boolN) h3).mono ?_;rintro _ v4 ⟨⟨c4,rfl,h4⟩,hm4⟩;have hm04:=hm03.trans hm4;have hb8:=hm4.at hb8 _root_.id;have hq:=hm4.at hq _root_.id;(try simp only [go_sem,Nat.reduceAdd,Nat.reduceEqDiff,Nat.reduceLT,Nat.reduceLeDiff,Nat.reduceMul,reduceCtorEq,↓reduceIte]);refine e_call (by rfl) ?_;refine (f_Run (binP boolT s a b) h4 (ints_nil _) hm).mono ?_;rintro _ v5 ⟨⟨oc,rfl,hoc⟩,hm5⟩;have hm05:=hm04.trans hm5;have hb8:=hm5.at hb8 _root_.id;obtain ⟨k',s',n',v',l',rfl,hits⟩:=oc_form hoc;have hq:=hm5.at hq _root_.id;(try simp only [go_sem,Nat.reduceAdd,Nat.reduceEqDiff,Nat.reduceLT,Nat.reduceLeDiff,Nat.reduceMul,reduceCtorEq,↓reduceIte]);refine e_sta (vs:=oc0 k' s' n' v') (cs:=oc0 0 0 0 (.slice none 0 0)) rfl rfl hb8 rfl rfl (oc_one (each_one hits)) ?_;intro vz hbz hmz hsz;(try simp only [go_sem,Nat.reduceAdd,Nat.reduceEqDiff,Nat.reduceLT,Nat.reduceLeDiff,Nat.reduceMul,reduceCtorEq,↓reduceIte]);have y1:=hm01.size;have y2:=hma.size;have y0:=hm04.size;have y3:=hm2.size;have y4:=hm3.size;have y5:=hm4.size;have y6:=hm5.size;obtain ⟨z1,z2⟩:=cmp_fin (bb:=v1.heap.size) hm05 hoc (by omega) (by omega) (by first | exact Nat.le_refl _ | omega) hmz (by omega);exact ⟨_,_,z1,hbz,z2,rfl⟩
       · refine e_al ?_;intro va hb8 hma hsa;have kk:=hma.old b5 (lt_of_heap hq) _root_.id;have hq:=hma.at hq _root_.id;(try simp only [go_sem,Nat.reduceAdd,Nat.reduceEqDiff,Nat.reduceLT,Nat.reduceLeDiff,Nat.reduceMul,reduceCtorEq,↓reduceIte]);refine ⟨by simp only [drew_heap,kk,and_self,implies_true],?_⟩;have h8:w3.heap.size≤v0.heap.size:=hm00.size;have hm00:=hm00.trans hma;refine e_call (by rfl) ?_;refine (f_number a).mono ?_;rintro _ v1 ⟨rfl,hm1⟩;have hm01:=hm00.trans hm1;have hb8:=hm1.at hb8 _root_.id;have kk:=hm1.old b5 (lt_of_heap hq) _root_.id;have hq:=hm1.at hq _root_.id;(try simp only [go_sem,Nat.reduceAdd,Nat.reduceEqDiff,Nat.reduceLT,Nat.reduceLeDiff,Nat.reduceMul,reduceCtorEq,↓reduceIte]);refine ⟨by simp only [drew_heap,kk,and_self,implies_true],?_⟩;refine e_call (by rfl) ?_;refine (f_number b).mono ?_;rintro _ v2 ⟨rfl,hm2⟩;have hm02:=hm01.trans hm2;have hb8:=hm2.at hb8 _root_.id;have kk:=hm2.old b5 (lt_of_heap hq) _root_.id;have hq:=hm2.at hq _root_.id;(try simp only [go_sem,Nat.reduceAdd,Nat.reduceEqDiff,Nat.reduceLT,Nat.reduceLeDiff,Nat.reduceMul,reduceCtorEq,↓reduceIte]);refine ⟨by simp only [drew_heap,kk,and_self,implies_true],?_⟩;refine e_call (by rfl) ?_;refine (f_op2 (S:=fun _=>False) nolt (num_at a) (num_at b)).mono ?_;rintro _ v3 ⟨⟨c3,rfl,h3⟩,hm3⟩;have hm03:=hm02.trans hm3;have hb8:=hm3.at hb8 _root_.id;have hq:=hm3.at hq _root_.id;(try simp only [go_sem,Nat.reduceAdd,Nat.reduceEqDiff,Nat.reduceLT,Nat.reduceLeDiff,Nat.reduceMul,reduceCtorEq,↓reduceIte]);refine e_call (by rfl) ?_;refine (f_one (S:=fun _=>False) nolt (leaf_at _ _ 4 boolN) h3).mono ?_;rintro _ v4 ⟨⟨c4,rfl,h4⟩,hm4⟩;have hm04:=hm03.trans hm4;have hb8:=hm4.at hb8 _root_.id;have hq:=hm4.at hq _root_.id;(try simp only [go_sem,Nat.reduceAdd,Nat.reduceEqDiff,Nat.reduceLT,Nat.reduceLeDiff,Nat.reduceMul,reduceCtorEq,↓reduceIte]);refine e_call (by rfl) ?_;refine (f_Run (binP boolT s a b) h4 (ints_nil _) hm).mono ?_;rintro _ v5 ⟨⟨oc,rfl,hoc⟩,hm5⟩;have hm05:=hm04.trans hm5;have hb8:=hm5.at hb8 _root_.id;obtain ⟨k',s',n',v',l',rfl,hits⟩:=oc_form hoc;have hq:=hm5.at hq _root_.id;(try simp only [go_sem,Nat.reduceAdd,Nat.reduceEqDiff,Nat.reduceLT,Nat.reduceLeDiff,Nat.reduceMul,reduceCtorEq,↓reduceIte]);refine e_sta (vs:=oc0 k' s' n' v') (cs:=oc0 0 0 0 (.slice none 0 0)) rfl rfl hb8 rfl rfl (oc_one (each_one hits)) ?_;intro vz hbz hmz hsz;(try simp only [go_sem,Nat.reduceAdd,Nat.reduceEqDiff,Nat.reduceLT,Nat.reduceLeDiff,Nat.reduceMul,reduceCtorEq,↓reduceIte]);have y1:=hm00.size;have y2:=hma.size;have y0:=hm04.size;have y3:=hm1.size;have y4:=hm2.size;have y5:=hm3.size;have y6:=hm4.size;have y7:=hm5.size;obtain ⟨z1,z2⟩:=cmp_fin (bb:=v0.heap.size) hm05 hoc (by omega) (by omega) (by first | exact Nat.le_refl _ | omega) hmz (by omega);exact ⟨_,_,z1,hbz,z2,rfl⟩
     rintro _ w4 ⟨b8,oc,⟨v,rfl,hv⟩,hb8,hm34,rfl⟩;have c6:=hm34.cell c6 _root_.id;have m04:=hm3.trans hm34;refine ir_cut (fun ρ w'=>w4=w'∧ρ=[(0,I a),(1,I b),(5,.slice (some ⟨b5,0,none⟩) 6 6),(6,.slice (some ⟨b6,0,none⟩) 6 6),(7,I i),(8,ptr b8),(9,I 0),(10,.string falseN)]) ?_ ?_
     · (try simp only [go_sem,Nat.reduceAdd,Nat.reduceEqDiff,Nat.reduceLT,Nat.reduceLeDiff,Nat.reduceMul,reduceCtorEq,↓reduceIte])
     rintro _ _ ⟨rfl,rfl⟩;refine ir_cut (fun ρ w'=>w4=w'∧ρ.get 0=some (I a)∧ρ.get 1=some (I b)∧ρ.get 5=some (.slice (some ⟨b5,0,none⟩) 6 6)∧ρ.get 6=some (.slice (some ⟨b6,0,none⟩) 6 6)∧ρ.get 7=some (I i)∧ρ.get 8=some (ptr b8)∧ρ.get 9=some (I 0)∧ρ.get 10=some (.string (if x=true then trueN else falseN))) ?_ ?_
     · cases x with
       | true=>(try simp only [go_sem,Nat.reduceAdd,Nat.reduceEqDiff,Nat.reduceLT,Nat.reduceLeDiff,Nat.reduceMul,reduceCtorEq,↓reduceIte,p1,c6])
       | false=>(try simp only [go_sem,Nat.reduceAdd,Nat.reduceEqDiff,Nat.reduceLT,Nat.reduceLeDiff,Nat.reduceMul,reduceCtorEq,↓reduceIte,p1,c6])
     rintro ρ _ ⟨rfl,g0,g1,g5,g6,g7,g8,g9,g10⟩;rw [htd] at hv;obtain ⟨ad,c,r,rfl,hr,hrl,hln,hix⟩:=each_at hv (i:=0) (by simp [itemS]);have hr:r=[.string (if x=true then trueN else falseN),I 0]:=hr;subst hr;have hln:vLN w4 2 (.pointer (some (ad.add (Int.toNat 0*2))))=some (.agg #[.string (if x=true then trueN else falseN),I 0]):=by rw [show Int.toNat 0*2=0*2 from rfl];exact hln
     have z0:((0:Int) != 0)=false:=rfl;have z00:((0:Int) == 0)=true:=rfl;have q:(m.kind != 2)=false:=by rw [hk];try rfl
     generalize (if x=true then trueN else falseN)=nm at *;have zs:(nm.toList == nm.toList)=true:=by simp
     have z1:(((itemS (Cl.con nm [])).length:Int) != 1)=false:=rfl;have p2:(0:Int)≤0∧(0:Int) < ((itemS (Cl.con nm [])).length:Int):=⟨by decide,by simp [itemS]⟩;(try simp only [go_sem,Nat.reduceAdd,Nat.reduceEqDiff,Nat.reduceLT,Nat.reduceLeDiff,Nat.reduceMul,reduceCtorEq,↓reduceIte,g0,g1,g5,g6,g7,g8,g9,g10,cell_of hb8,Value.cells,z0,z00,q,z1,zs,p2,hln]);exact hm34
   clear c5 c6;rintro ρ w4 ⟨hm34,g0,g1,g5,g6,g7⟩;have e3:IntKind.i64.wrap ((i:Int)+1)=((i+1:Nat):Int):=by rw [wrap_in (by omega) (by omega)];omega
   (try simp only [go_sem,Nat.reduceAdd,Nat.reduceEqDiff,Nat.reduceLT,Nat.reduceLeDiff,Nat.reduceMul,reduceCtorEq,↓reduceIte,g0,g1,g5,g6,g7,e3]);exact ⟨_,by omega,i+1,rfl,by omega,hm23.trans hm34,rfl⟩
 · have b1:decide ((i:Int) < 6)=false:=decide_eq_false (by omega);(try simp only [go_sem,Nat.reduceAdd,Nat.reduceEqDiff,Nat.reduceLT,Nat.reduceLeDiff,Nat.reduceMul,reduceCtorEq,↓reduceIte,b1,rvs,RV.ev,one?]);exact hm3
end
section
open Go Go.W
abbrev Sh (n:Int):Int:=IntKind.i64.wrap (n*2)
theorem w63_two (y:Int):Sh (W63 y)=Sh y:=by
 unfold W63 Sh;rw [Int.fdiv_eq_ediv_of_nonneg _ (by decide)];simp only [IntKind.wrap_i64];omega
theorem w63_range (y:Int) : -4611686018427387904≤W63 y∧W63 y≤4611686018427387903:=by
 unfold W63;rw [Int.fdiv_eq_ediv_of_nonneg _ (by decide)];simp only [IntKind.wrap_i64];omega
theorem w63_id {y:Int} (h : -4611686018427387904≤y∧y≤4611686018427387903):W63 y=y:=by
 unfold W63;rw [Int.fdiv_eq_ediv_of_nonneg _ (by decide)];simp only [IntKind.wrap_i64];omega
theorem tmod_facts {a b:Int} (hb:b≠0):((a.tmod b).natAbs < b.natAbs∧(a.tmod b).natAbs≤a.natAbs)∧(0≤a→0≤a.tmod b)∧(a < 0→a.tmod b≤0):=by
 have h:=Int.natAbs_tmod a b;have hb':0 < b.natAbs:=Int.natAbs_pos.2 hb;refine ⟨⟨by rw [h];exact Nat.mod_lt _ hb',by rw [h];exact Nat.mod_le _ _⟩,fun ha=>Int.tmod_nonneg b ha,fun ha=>?_⟩;have h1:0≤(-a).tmod b:=Int.tmod_nonneg b (by omega);rw [Int.neg_tmod] at h1;omega
theorem div_facts {a b:Int} (ha : -4611686018427387904≤a∧a≤4611686018427387903) (hb : -4611686018427387904≤b∧b≤4611686018427387903) (h0:b≠0) :
   Sh (Wr (Wr (W63 (Wr (a.tdiv b))*b)+a.tmod b))=Sh a:=by
 have hd:b*a.tdiv b+a.tmod b=a:=Int.mul_tdiv_add_tmod a b;obtain ⟨⟨r1,r2⟩,r3,r4⟩:=tmod_facts (a:=a) h0;have hle:(a.tdiv b).natAbs≤a.natAbs:=Int.natAbs_tdiv_le_natAbs a b;have hr:Wr (a.tdiv b)=a.tdiv b:=by
   show IntKind.i64.wrap _=_;exact wrap_in (by omega) (by omega)
 rw [hr];by_cases hq : -4611686018427387904≤a.tdiv b∧a.tdiv b≤4611686018427387903
 · rw [w63_id hq,Int.mul_comm (a.tdiv b) b];generalize b*a.tdiv b=x at *;generalize a.tmod b=r at *;show IntKind.i64.wrap (IntKind.i64.wrap (IntKind.i64.wrap x+r)*2)=IntKind.i64.wrap (a*2);simp only [IntKind.wrap_i64];omega
 · have hda:a.tdiv b=4611686018427387904:=by omega
   have haa:a = -4611686018427387904:=by omega
   subst haa;rw [hda] at hd ⊢;have hb1:b = -1:=by omega
   subst hb1;rfl
end
section
open Go Go.W
def arN:List ByteArray:=[⟨#[43]⟩,⟨#[45]⟩,⟨#[42]⟩]
def arR (a b:Int):List Int:=[Wr (a+b),Wr (a - b),Wr (a*b)]
theorem ar_ops {s:ByteArray} (h:s∈arN):opsS s=some intT:=by
 simp only [arN,List.mem_cons,List.not_mem_nil,or_false] at h;rcases h with rfl | rfl | rfl<;>(rw [opsS,if_pos (by decide +kernel)];try rfl)
theorem ar_opr (a b:Int):∀ (i:Nat) (h:i < arN.length) (h':i < (arR a b).length),oprS arN[i] a b=some (.num (W63 (arR a b)[i])):=by
 intro i h h'
 match i,h,h' with
 | 0,_,_=>show oprS ⟨#[43]⟩ a b=_;rw [oprS,if_pos (by decide +kernel)];try rfl
 | 1,_,_=>show oprS ⟨#[45]⟩ a b=_;rw [oprS,if_neg (by decide +kernel),if_pos (by decide +kernel)];try rfl
 | 2,_,_=>show oprS ⟨#[42]⟩ a b=_;rw [oprS,if_neg (by decide +kernel),if_neg (by decide +kernel),if_pos (by decide +kernel)];try rfl
 | i+3,h,_=>exact absurd h (by simp [arN])
theorem div_opr (a b:Int):oprS ⟨#[47]⟩ a b=if b=0 then none else some (.num (W63 (Wr (a.tdiv b)))):=by
 rw [oprS,if_neg (by decide +kernel),if_neg (by decide +kernel),if_neg (by decide +kernel),if_pos (by decide +kernel)];by_cases hb:b=0
 · rw [if_pos hb,if_pos hb]
 · rw [if_neg hb,if_neg hb,if_pos (by decide +kernel)]
theorem mod_opr (a b:Int):oprS ⟨#[37]⟩ a b=if b=0 then none else some (.num (a.tmod b)):=by
 rw [oprS,if_neg (by decide +kernel),if_neg (by decide +kernel),if_neg (by decide +kernel),if_pos (by decide +kernel)];by_cases hb:b=0
 · rw [if_pos hb,if_pos hb]
 · rw [if_neg hb,if_neg hb,if_neg (by decide +kernel)]
theorem div_ops:opsS ⟨#[47]⟩=some intT:=by rw [opsS,if_pos (by decide +kernel)];try rfl
theorem mod_ops:opsS ⟨#[37]⟩=some intT:=by rw [opsS,if_pos (by decide +kernel)];try rfl
theorem f_Numbers {a0 b0:Int} {w:World}:CallsR Tryz.prog 5 [I a0,I b0] w fun r w'=>r = .bool true∧Mod (fun _=>False) w w':=by
 refine fit5.calls rfl ?_;unfold ir5;refine ir_cut (fun ρ w'=>w=w'∧ρ=[(0,I a0),(1,I b0)]) ?_ ?_
 · (try simp only [go_sem,Nat.reduceAdd,Nat.reduceEqDiff,Nat.reduceLT,Nat.reduceLeDiff,Nat.reduceMul,reduceCtorEq,↓reduceIte])
 rintro _ _ ⟨rfl,rfl⟩;refine ir_cut (fun ρ w'=>Mod (fun _=>False) w w'∧ρ=[(0,I a0),(1,I b0),(5,.bool true)]) ?_ ?_
 · (try simp only [go_sem,Nat.reduceAdd,Nat.reduceEqDiff,Nat.reduceLT,Nat.reduceLeDiff,Nat.reduceMul,reduceCtorEq,↓reduceIte]);refine e_call (by rfl) ?_;refine f_awake.mono ?_;rintro _ w1 ⟨rfl,hm1⟩;(try simp only [go_sem,Nat.reduceAdd,Nat.reduceEqDiff,Nat.reduceLT,Nat.reduceLeDiff,Nat.reduceMul,reduceCtorEq,↓reduceIte]);exact hm1
 rintro _ w1 ⟨hm1,rfl⟩;have ha:=w63_range a0;have hb:=w63_range b0;have k1:((1:Int) < 0)=False:=by decide
 have k2:(2 ^ min (Int.toNat 1) 64:Int)=2:=by decide
 refine ir_cut (fun ρ w'=>w1=w'∧ρ=[(0,I (W63 a0)),(1,I b0),(5,.bool true)]) ?_ ?_
 · (try simp only [go_sem,Nat.reduceAdd,Nat.reduceEqDiff,Nat.reduceLT,Nat.reduceLeDiff,Nat.reduceMul,reduceCtorEq,↓reduceIte,k1,k2]);rfl
 rintro _ _ ⟨rfl,rfl⟩;refine ir_cut (fun ρ w'=>w1=w'∧ρ=[(0,I (W63 a0)),(1,I (W63 b0)),(5,.bool true)]) ?_ ?_
 · (try simp only [go_sem,Nat.reduceAdd,Nat.reduceEqDiff,Nat.reduceLT,Nat.reduceLeDiff,Nat.reduceMul,reduceCtorEq,↓reduceIte,k1,k2]);rfl
 rintro _ _ ⟨rfl,rfl⟩;generalize W63 a0=a at ha ⊢;generalize W63 b0=b at hb ⊢;clear a0 b0;refine ir_cut (fun ρ w'=>∃ b6,Mod (fun _=>False) w w'∧w'.heap[b6]? = some (.cells (arN.map Value.string).toArray 9 (0,0))∧ρ=[(0,I a),(1,I b),(5,.bool true),(6,.slice (some ⟨b6,0,none⟩) 3 3)]) ?_ ?_
 · (try simp only [go_sem,Nat.reduceAdd,Nat.reduceEqDiff,Nat.reduceLT,Nat.reduceLeDiff,Nat.reduceMul,reduceCtorEq,↓reduceIte]);refine e_bs (cs:=(arN.map Value.string).toArray) rfl rfl ?_;intro w2 hb2 hm2 hs2;(try simp only [go_sem,Nat.reduceAdd,Nat.reduceEqDiff,Nat.reduceLT,Nat.reduceLeDiff,Nat.reduceMul,reduceCtorEq,↓reduceIte]);exact ⟨_,hm1.trans hm2,hb2,rfl⟩
 clear hm1;rintro _ w2 ⟨b6,hm2,hb6,rfl⟩;refine ir_cut (fun ρ w'=>∃ b7,Mod (fun _=>False) w w'∧w'.heap[b6]? = some (.cells (arN.map Value.string).toArray 9 (0,0))∧w'.heap[b7]? = some (.cells ((arR a b).map I).toArray 3 (0,0))∧ρ=[(0,I a),(1,I b),(5,.bool true),(6,.slice (some ⟨b6,0,none⟩) 3 3),(7,.slice (some ⟨b7,0,none⟩) 3 3)]) ?_ ?_
 · (try simp only [go_sem,Nat.reduceAdd,Nat.reduceEqDiff,Nat.reduceLT,Nat.reduceLeDiff,Nat.reduceMul,reduceCtorEq,↓reduceIte]);have hR:arR a b=[IntKind.i64.wrap (a+b),IntKind.i64.wrap (a - b),IntKind.i64.wrap (a*b)]:=rfl;rw [hR];clear hR;generalize IntKind.i64.wrap (a+b)=x0;generalize IntKind.i64.wrap (a - b)=x1;generalize IntKind.i64.wrap (a*b)=x2;refine e_bs (cs:=#[I x0,I x1,I x2]) (ps:=[(0,1,I x0),(1,1,I x1),(2,1,I x2)]) (by (try simp only [go_sem,Nat.reduceAdd,Nat.reduceEqDiff,Nat.reduceLT,Nat.reduceLeDiff,Nat.reduceMul,reduceCtorEq,↓reduceIte])) (by kernel_rfl) ?_;intro w3 hb3 hm3 hs3;(try simp only [go_sem,Nat.reduceAdd,Nat.reduceEqDiff,Nat.reduceLT,Nat.reduceLeDiff,Nat.reduceMul,reduceCtorEq,↓reduceIte]);exact ⟨_,hm2.trans hm3,hm3.at hb6 _root_.id,hb3,rfl⟩
 clear hm2 hb6;rintro _ w3 ⟨b7,hm3,hb6,hb7,rfl⟩;refine ir_cut (fun ρ w'=>Mod (fun _=>False) w w'∧ρ.get 0=some (I a)∧ρ.get 1=some (I b)∧ρ.get 5=some (.bool true)) ?_ ?_
 · (try simp only [go_sem,Nat.reduceAdd,Nat.reduceEqDiff,Nat.reduceLT,Nat.reduceLeDiff,Nat.reduceMul,reduceCtorEq,↓reduceIte]);refine ir_loop (fun z ρ w'=>∃ i:Nat,z=3 - i∧i≤3∧Mod (fun _=>False) w3 w'∧ρ=[(0,I a),(1,I b),(5,.bool true),(6,.slice (some ⟨b6,0,none⟩) 3 3),(7,.slice (some ⟨b7,0,none⟩) 3 3),(8,I i)]) 3 ⟨0,rfl,by omega,.refl _ _,rfl⟩ ?_;rintro z _ w4 ⟨i,rfl,hi3,hm34,rfl⟩;have hb6:=hm34.at hb6 _root_.id;have hb7:=hm34.at hb7 _root_.id;have hm4:=hm3.trans hm34;unfold ir5L1;by_cases q:i < 3
   · have b1:decide ((i:Int) < 3)=true:=decide_eq_true (by omega);have p1:(0:Int)≤i∧(i:Int) < ((3:Nat):Int):=by omega
     obtain ⟨s,x,hs,hop,c6,c7⟩:∃ s x,s∈arN∧oprS s a b=some (.num (W63 x))∧(arN.map Value.string).toArray[i]? = some (.string s)∧((arR a b).map I).toArray[i]? = some (I x):=by
       have l1:i < arN.length:=q;have l2:i < (arR a b).length:=q;exact ⟨_,_,List.getElem_mem l1,ar_opr a b i l1 l2,by simp [l1],by simp [l2]⟩
     have c6:w4.cell? ⟨b6,(i:Int).toNat*1,none⟩=some (.string s):=by rw [cell_of hb6,show (i:Int).toNat*1=i by omega];exact c6
     have c7:∀ w5,Mod (fun _=>False) w4 w5→w5.cell? ⟨b7,(i:Int).toNat*1,none⟩=some (I x):=fun w5 hm=>by rw [cell_of (hm.at hb7 _root_.id),show (i:Int).toNat*1=i by omega];exact c7
     refine ir_cut (fun ρ w'=>w4=w'∧ρ.get 0=some (I a)∧ρ.get 1=some (I b)∧ρ.get 5=some (.bool true)∧ρ.get 6=some (.slice (some ⟨b6,0,none⟩) 3 3)∧ρ.get 7=some (.slice (some ⟨b7,0,none⟩) 3 3)∧ρ.get 8=some (I i)) ?_ ?_
     · (try simp only [go_sem,Nat.reduceAdd,Nat.reduceEqDiff,Nat.reduceLT,Nat.reduceLeDiff,Nat.reduceMul,reduceCtorEq,↓reduceIte,b1])
     rintro ρ _ ⟨rfl,g0,g1,g5,g6,g7,g8⟩;refine ir_cut (fun ρ w'=>Mod (fun _=>False) w4 w'∧ρ.get 0=some (I a)∧ρ.get 1=some (I b)∧ρ.get 5=some (.bool true)∧ρ.get 6=some (.slice (some ⟨b6,0,none⟩) 3 3)∧ρ.get 7=some (.slice (some ⟨b7,0,none⟩) 3 3)∧ρ.get 8=some (I i)) ?_ ?_
     · refine ir_blk ?_;refine ir_cut (fun ρ w'=>Mod (fun _=>False) w4 w'∧ρ.get 0=some (I a)∧ρ.get 1=some (I b)∧ρ.get 5=some (.bool true)∧ρ.get 6=some (.slice (some ⟨b6,0,none⟩) 3 3)∧ρ.get 7=some (.slice (some ⟨b7,0,none⟩) 3 3)∧ρ.get 8=some (I i)∧ρ.get 9=some (I (W63 x))∧ρ.get 10=some (.bool true)) ?_ ?_
       · (try simp only [go_sem,Nat.reduceAdd,Nat.reduceEqDiff,Nat.reduceLT,Nat.reduceLeDiff,Nat.reduceMul,reduceCtorEq,↓reduceIte,g0,g1,g5,g6,g7,g8,p1,c6]);refine e_call (vs:=[.string s,I a,I b]) (by simp only [evs,O.ev,g0,g1,go_sem];rfl) ?_;refine (f_told (ar_ops hs) ha hb (fun y h=>by rw [hop] at h;cases h;exact ⟨_,rfl⟩)).mono ?_;rintro _ w5 ⟨rfl,hm5⟩;have ht:toldS s a b=(W63 x,true):=by unfold toldS;rw [hop]
         rw [ht];(try simp only [go_sem,Nat.reduceAdd,Nat.reduceEqDiff,Nat.reduceLT,Nat.reduceLeDiff,Nat.reduceMul,reduceCtorEq,↓reduceIte,g0,g1,g5,g6,g7,g8]);exact hm5
       clear g0 g1 g5 g6 g7 g8;rintro ρ w5 ⟨hm45,g0,g1,g5,g6,g7,g8,g9,g10⟩;have c7:=c7 w5 hm45;obtain ⟨r1,r2⟩:=w63_range x;have q1:(IntKind.i64.wrap (W63 x*2) != IntKind.i64.wrap (x*2))=false:=by
         have h:IntKind.i64.wrap (W63 x*2)=IntKind.i64.wrap (x*2):=w63_two x;rw [h];simp
       have q2:decide (W63 x > 4611686018427387903)=false:=decide_eq_false (by omega);have q3:decide (W63 x < -4611686018427387904)=false:=decide_eq_false (by omega);(try simp only [go_sem,Nat.reduceAdd,Nat.reduceEqDiff,Nat.reduceLT,Nat.reduceLeDiff,Nat.reduceMul,reduceCtorEq,↓reduceIte,g0,g1,g5,g6,g7,g8,g9,g10,p1,c7,k1,k2,q1,q2,q3]);exact hm45
     clear g0 g1 g5 g6 g7 g8;rintro ρ w5 ⟨hm45,g0,g1,g5,g6,g7,g8⟩;have e3:IntKind.i64.wrap ((i:Int)+1)=((i+1:Nat):Int):=by rw [wrap_in (by omega) (by omega)];omega
     (try simp only [go_sem,Nat.reduceAdd,Nat.reduceEqDiff,Nat.reduceLT,Nat.reduceLeDiff,Nat.reduceMul,reduceCtorEq,↓reduceIte,g0,g1,g5,g6,g7,g8,e3]);exact ⟨_,by omega,i+1,rfl,by omega,hm34.trans hm45,rfl⟩
   · have b1:decide ((i:Int) < 3)=false:=decide_eq_false (by omega);(try simp only [go_sem,Nat.reduceAdd,Nat.reduceEqDiff,Nat.reduceLT,Nat.reduceLeDiff,Nat.reduceMul,reduceCtorEq,↓reduceIte,b1]);exact hm4
 clear hm3 hb6 hb7;rintro ρ w4 ⟨hm4,g0,g1,g5⟩;refine ir_cut (fun ρ w'=>Mod (fun _=>False) w w'∧ρ.get 0=some (I a)∧ρ.get 1=some (I b)∧ρ.get 5=some (.bool true)∧ρ.get 11=some (I (toldS ⟨#[47]⟩ a b).1)∧ρ.get 12=some (.bool (toldS ⟨#[47]⟩ a b).2)) ?_ ?_
 · (try simp only [go_sem,Nat.reduceAdd,Nat.reduceEqDiff,Nat.reduceLT,Nat.reduceLeDiff,Nat.reduceMul,reduceCtorEq,↓reduceIte,g0,g1,g5]);refine e_call (vs:=[.string ⟨#[47]⟩,I a,I b]) (by simp only [evs,O.ev,g0,g1,go_sem]) ?_;refine (f_told div_ops ha hb (fun y h=>by
     rw [div_opr] at h
     split at h
     · cases h
     · cases h;exact ⟨_,rfl⟩)).mono ?_
   rintro _ w5 ⟨rfl,hm5⟩;(try simp only [go_sem,Nat.reduceAdd,Nat.reduceEqDiff,Nat.reduceLT,Nat.reduceLeDiff,Nat.reduceMul,reduceCtorEq,↓reduceIte,g0,g1,g5]);exact hm4.trans hm5
 clear g0 g1 g5 hm4;rintro ρ w5 ⟨hm5,g0,g1,g5,g11,g12⟩;refine ir_cut (fun ρ w'=>Mod (fun _=>False) w w'∧ρ.get 0=some (I a)∧ρ.get 1=some (I b)∧ρ.get 5=some (.bool true)∧ρ.get 11=some (I (toldS ⟨#[47]⟩ a b).1)∧ρ.get 12=some (.bool (toldS ⟨#[47]⟩ a b).2)∧ρ.get 13=some (I (toldS ⟨#[37]⟩ a b).1)∧ρ.get 14=some (.bool (toldS ⟨#[37]⟩ a b).2)) ?_ ?_
 · (try simp only [go_sem,Nat.reduceAdd,Nat.reduceEqDiff,Nat.reduceLT,Nat.reduceLeDiff,Nat.reduceMul,reduceCtorEq,↓reduceIte,g0,g1,g5,g11,g12]);refine e_call (vs:=[.string ⟨#[37]⟩,I a,I b]) (by simp only [evs,O.ev,g0,g1,go_sem]) ?_;refine (f_told mod_ops ha hb (fun y h=>by
     rw [mod_opr] at h
     split at h
     · cases h
     · cases h;exact ⟨_,rfl⟩)).mono ?_
   rintro _ w6 ⟨rfl,hm6⟩;(try simp only [go_sem,Nat.reduceAdd,Nat.reduceEqDiff,Nat.reduceLT,Nat.reduceLeDiff,Nat.reduceMul,reduceCtorEq,↓reduceIte,g0,g1,g5,g11,g12]);exact hm5.trans hm6
 clear g0 g1 g5 g11 g12 hm5;rintro ρ w6 ⟨hm6,g0,g1,g5,g11,g12,g13,g14⟩;by_cases h0:b=0
 · have t1:toldS ⟨#[47]⟩ a b=(0,false):=by unfold toldS;rw [div_opr,if_pos h0]
   have t2:toldS ⟨#[37]⟩ a b=(0,false):=by unfold toldS;rw [mod_opr,if_pos h0]
   rw [t1] at g11 g12;rw [t2] at g13 g14;have q0:(b == 0)=true:=by simpa using h0
   (try simp only [go_sem,Nat.reduceAdd,Nat.reduceEqDiff,Nat.reduceLT,Nat.reduceLeDiff,Nat.reduceMul,reduceCtorEq,↓reduceIte,g0,g1,g5,g11,g12,g13,g14,q0,rvs,RV.ev,one?]);exact hm6
 have t1:toldS ⟨#[47]⟩ a b=(W63 (Wr (a.tdiv b)),true):=by unfold toldS;rw [div_opr,if_neg h0]
 have t2:toldS ⟨#[37]⟩ a b=(a.tmod b,true):=by unfold toldS;rw [mod_opr,if_neg h0]
 rw [t1] at g11 g12;rw [t2] at g13 g14;have hdiv:=div_facts ha hb h0;obtain ⟨⟨r1,r2⟩,r3,r4⟩:=tmod_facts (a:=a) h0;generalize W63 (Wr (a.tdiv b))=qq at g11 hdiv;generalize a.tmod b=r at g13 hdiv r1 r2 r3 r4;have q0:(b == 0)=false:=by simpa using h0
 refine ir_cut (fun ρ w'=>w6=w'∧ρ.get 0=some (I a)∧ρ.get 1=some (I b)∧ρ.get 5=some (.bool true)∧ρ.get 11=some (I qq)∧ρ.get 12=some (.bool true)∧ρ.get 13=some (I r)∧ρ.get 14=some (.bool true)) ?_ ?_
 · (try simp only [go_sem,Nat.reduceAdd,Nat.reduceEqDiff,Nat.reduceLT,Nat.reduceLeDiff,Nat.reduceMul,reduceCtorEq,↓reduceIte,g0,g1,g5,g11,g12,g13,g14,q0])
 clear g0 g1 g5 g11 g12 g13 g14;rintro ρ _ ⟨rfl,g0,g1,g5,g11,g12,g13,g14⟩;refine ir_cut (fun ρ w'=>w6=w'∧ρ.get 0=some (I a)∧ρ.get 1=some (I b)∧ρ.get 5=some (.bool true)∧ρ.get 11=some (I qq)∧ρ.get 12=some (.bool true)∧ρ.get 13=some (I r)∧ρ.get 14=some (.bool true)∧ρ.get 15=some (.bool true)) ?_ ?_
 · by_cases hr:r < 0
   · have s1:decide (r < 0)=true:=decide_eq_true hr;have s2:decide (r > -4611686018427387904)=true:=decide_eq_true (by omega);(try simp only [go_sem,Nat.reduceAdd,Nat.reduceEqDiff,Nat.reduceLT,Nat.reduceLeDiff,Nat.reduceMul,reduceCtorEq,↓reduceIte,g0,g1,g5,g11,g12,g13,g14,s1,s2])
   · have s1:decide (r < 0)=false:=decide_eq_false hr;have s2:decide (r≥0)=true:=decide_eq_true (by omega);(try simp only [go_sem,Nat.reduceAdd,Nat.reduceEqDiff,Nat.reduceLT,Nat.reduceLeDiff,Nat.reduceMul,reduceCtorEq,↓reduceIte,g0,g1,g5,g11,g12,g13,g14,s1,s2])
 clear g0 g1 g5 g11 g12 g13 g14;rintro ρ _ ⟨rfl,g0,g1,g5,g11,g12,g13,g14,g15⟩;refine ir_cut (fun ρ w'=>w6=w'∧ρ.get 0=some (I a)∧ρ.get 1=some (I b)∧ρ.get 5=some (.bool true)∧ρ.get 13=some (I r)) ?_ ?_
 · have bt:(true == true)=true:=rfl;have bf:(false == false)=true:=rfl;have s0:(IntKind.i64.wrap (IntKind.i64.wrap (IntKind.i64.wrap (qq*b)+r)*2) != IntKind.i64.wrap (a*2))=false:=by
     have h:IntKind.i64.wrap (IntKind.i64.wrap (IntKind.i64.wrap (qq*b)+r)*2)=IntKind.i64.wrap (a*2):=hdiv;rw [h];simp
   by_cases hr:r=0
   · have s1:(r != 0)=false:=by simpa using hr
     (try simp only [go_sem,Nat.reduceAdd,Nat.reduceEqDiff,Nat.reduceLT,Nat.reduceLeDiff,Nat.reduceMul,reduceCtorEq,↓reduceIte,g0,g1,g5,g11,g12,g13,g14,g15,k1,k2,s0,s1,Bool.not_true])
   · have s1:(r != 0)=true:=by simpa using hr
     by_cases hn:a < 0
     · have s2:decide (r < 0)=true:=decide_eq_true (by have:=r4 hn;omega);have s3:decide (a < 0)=true:=decide_eq_true hn;(try simp only [go_sem,Nat.reduceAdd,Nat.reduceEqDiff,Nat.reduceLT,Nat.reduceLeDiff,Nat.reduceMul,reduceCtorEq,↓reduceIte,g0,g1,g5,g11,g12,g13,g14,g15,k1,k2,s0,s1,s2,s3,Bool.not_true,bt,bf])
     · have s2:decide (r < 0)=false:=decide_eq_false (by have:=r3 (by omega);omega);have s3:decide (a < 0)=false:=decide_eq_false hn;(try simp only [go_sem,Nat.reduceAdd,Nat.reduceEqDiff,Nat.reduceLT,Nat.reduceLeDiff,Nat.reduceMul,reduceCtorEq,↓reduceIte,g0,g1,g5,g11,g12,g13,g14,g15,k1,k2,s0,s1,s2,s3,Bool.not_true,bt,bf])
 clear g0 g1 g5 g11 g12 g13 g14 g15;rintro ρ _ ⟨rfl,g0,g1,g5,g13⟩;refine ir_cut (fun ρ w'=>w6=w'∧ρ.get 0=some (I a)∧ρ.get 1=some (I b)∧ρ.get 5=some (.bool true)) ?_ ?_
 · have hw:IntKind.i64.wrap (0 - r) = -r:=by rw [wrap_in (by omega) (by omega)];omega
   by_cases hp:b > 0
   · have s1:decide (b > 0)=true:=decide_eq_true hp;have s2:decide (r≥b)=false:=decide_eq_false (by omega);have s3:decide (-r≥b)=false:=decide_eq_false (by omega);have s4:decide (b < 0)=false:=decide_eq_false (by omega);(try simp only [go_sem,Nat.reduceAdd,Nat.reduceEqDiff,Nat.reduceLT,Nat.reduceLeDiff,Nat.reduceMul,reduceCtorEq,↓reduceIte,g0,g1,g5,g13,hw,s1,s2,s3,s4])
   · have s1:decide (b > 0)=false:=decide_eq_false hp;have s2:decide (r≤b)=false:=decide_eq_false (by omega);have s3:decide (-r≤b)=false:=decide_eq_false (by omega);have s4:decide (b < 0)=true:=decide_eq_true (by omega);(try simp only [go_sem,Nat.reduceAdd,Nat.reduceEqDiff,Nat.reduceLT,Nat.reduceLeDiff,Nat.reduceMul,reduceCtorEq,↓reduceIte,g0,g1,g5,g13,hw,s1,s2,s3,s4])
 clear g0 g1 g5 g13;rintro ρ _ ⟨rfl,g0,g1,g5⟩;(try simp only [go_sem,Nat.reduceAdd,Nat.reduceEqDiff,Nat.reduceLT,Nat.reduceLeDiff,Nat.reduceMul,reduceCtorEq,↓reduceIte,g0,g1,g5]);refine e_call (vs:=[I a,I b]) (by rfl) ?_;refine (f_compares ha hb).mono ?_;rintro _ w7 ⟨rfl,hm7⟩;(try simp only [go_sem,Nat.reduceAdd,Nat.reduceEqDiff,Nat.reduceLT,Nat.reduceLeDiff,Nat.reduceMul,reduceCtorEq,↓reduceIte,g0,g1,g5,rvs,RV.ev,one?]);exact hm6.trans hm7
end
section
open Go Go.W Go.ChangeShapes Go.WideShapes Go.ChangeAt Go.RowKit Go.Deep
theorem law_rowN {H:Type} {enc:TypeId×Value→H} {C:Go.Checked} {os:Os} {f:FuncId} {fn:Func} {s:ChangeSpec} {tb:TypeId} {F:Stop.Interp} {L:List (String×DataW Unit)} (own:ownKnob C.prog.godebug=none) (started:os.Started) (noInit:C.prog.inits.idxOf? f=none) (hfn:C.prog.funcs[f]? = some fn)
   (witness:∃ (w:World) (tape:Tape) (i:Input),w.os=os∧(w.forCall tape i).Shaped C.prog∧i.vars=[]∧Input.okWide C.prog (w.forCall tape i) .any w.heap.size f i ∧
     (OpenSpec.ofChange s).preRow enc C.prog fn [] false L (w.forCall tape i).memory i.args∧({}:Assume).holds C.prog (lone (Frame.enter C.prog f i.args .normal) [] (w.forCall tape i)))
   (laid:laidOutB C.prog=true) (hpar:fn.params.toList.all (fun t=>C.prog.readableRec t&&decide (t < C.prog.types.size))=true)
   (hres:fn.resultTypes = #[tb]) (hb:C.prog.underlying tb=some .bool) (hvars:s.vars=[])
   (hs:∀ ds:List (DataW H),ds.length=fn.params.toList.length→s.fn H ds = { results:=[.lit (.bool true)],args:=ds})
   (walk:∀ (W:World) (args:List Value) (ds:List (DataW H)),LawIn enc C.prog fn.params.toList W args ds→CallsR C.prog f args W fun q w'=>q = .bool true∧Mod (fun _=>False) W w') :
   ReturnsInHanded {} C os f .any ((OpenSpec.ofChange s).preRow enc C.prog fn [] false L) (((OpenSpec.ofChange s).at F).post enc C.prog fn false true false false):=by
 refine returnsInHanded_of_row (s:=OpenSpec.ofChange s) own started noInit hfn witness ?_;intro W base args ds gs before hval hW _ hcond hsz _ _ _;have hW:DataW.Whole enc C.prog fn.params.toList s.vars false W args.toList ds gs before:=hW;have hW':=hW;obtain ⟨p,q,hA,hV,rfl,_,_⟩:=hW;rw [hvars] at hV;obtain ⟨rfl,rfl⟩:=trodVars_none hV;simp only [List.append_nil] at hW' hsz;have hsz2:(DataW.weightsEach C.prog fn.params.toList ds).all (·≤reachBytes)=true:=by
   have e:(OpenSpec.ofChange s).bare.plain.varTypes C.prog=[]:=by
     show (s.plain).varTypes C.prog=[];simp [DataSpec.varTypes,ChangeSpec.plain,hvars]
   rw [e,List.append_nil] at hsz;exact hsz
 have key:=walk W args.toList ds ⟨⟨base,fun j t v ht hv=>hval j t v (by simpa using ht) (by simpa using hv)⟩,⟨p,hA⟩,hsz2⟩;have e:args.toList.toArray=args:=by simp
 unfold CallsR at key;rw [e] at key;refine key.mono ?_;rintro _ W' ⟨_,rfl,rfl,hm⟩;have hbel:=mod_below hm;have hlt:∀ x∈p,x.block < W.heap.size:=fun x hx=>by simpa using hW'.lt x hx
 have hf:=hs ds (trodAll_len hA);have hf':((OpenSpec.ofChange s).at F).fn H ds = { results:=[.lit (.bool true)],args:=ds}:=hf;refine ⟨_,rfl,ds,[],_,[],p,[],hW',?_,?_,?_,hbel.frame _,fun h=>by cases h⟩
 · rw [List.append_nil,hf',hres];exact trodAll_mk1 (shut_bool hb true)
 · rw [List.append_nil,hf'];exact trodAll_below laid hbel hpar hlt hA
 · have hv':((OpenSpec.ofChange s).at F).vars=[]:=hvars;rw [List.append_nil,hf',hv'];rfl
abbrev numsArgs:Array Value:=#[.int .i64 0,.int .i64 0]
theorem nums_reads (os:Os) {H:Type} (enc:TypeId×Value→H):∃ places,DataW.whole enc Tryz.prog ((World.laidAll Tryz.prog os theL).forCall (fun _ _=>0) ⟨#[],numsArgs,[]⟩).memory Tryz.f5.params.toList Rows.meaningNumbersSpec.vars false numsArgs.toList 8=some ([.lit (.int .i64 0),.lit (.int .i64 0)],[],places):=
 ⟨[],by kernel_rfl⟩
theorem nums_lifted (os:Os) (started:os.Started) (H:Type) (enc:TypeId×Value→H) (F:Stop.Interp) :
   ReturnsInHanded {} Tryz.checked os 5 .any ((OpenSpec.ofChange Rows.meaningNumbersSpec).preRow enc Tryz.prog Tryz.f5 [] false theL) (((OpenSpec.ofChange Rows.meaningNumbersSpec).at F).post enc Tryz.prog Tryz.f5 false true false false):=by
 obtain ⟨places,hx⟩:=nums_reads os enc;refine law_rowN (C:=Tryz.checked) Tryz.own started (by kernel_rfl) Tryz.func5
   (witness_row_at (enc:=enc) (C:=Tryz.checked) false (World.laidAll Tryz.prog os theL) numsArgs (World.laidAll_os _ _ _) (by kernel_rfl) (by kernel_rfl) (by kernel_rfl)
     (OpenSpec.preRow_of_cond 8 hx (by kernel_rfl) (fun k hk=>by cases hk) (by kernel_rfl) (laid_at os _)))
   Tryz.laidOut (by kernel_rfl) (tb:=4) (by kernel_rfl) Tryz.underlying4 rfl ?_ ?_
 · intro ds hd;rw [Tryz.params5] at hd
   match ds,hd with
   | [_,_],_=>rfl
 · intro W args ds h;rw [Tryz.params5] at h;obtain ⟨a,args1,_,_,rfl,rfl,h1⟩:=in_int h;obtain ⟨b,args2,_,_,rfl,rfl,h2⟩:=in_int h1;obtain ⟨rfl,rfl⟩:=lawIn_nil h2;exact f_Numbers
theorem nums_row:Rows.MeaningNumbersSaid:=
 OpenClaim.holds_of_cond 5 Tryz.f5 rfl rfl rfl rfl rfl rfl rfl ⟨rfl,rfl,rfl,rfl,rfl⟩ rfl rfl rfl rfl rfl (by kernel_rfl) Tryz.func5 (by kernel_rfl)
   (of_decide_eq_true (by kernel_rfl)) (by unfold Func.isWrapper;first | (rw [if_pos (by decide +kernel)];kernel_rfl) | (rw [if_neg (by decide +kernel)];exact ⟨rfl,rfl⟩))
   (fun os started H enc _ F=>by rw [OpenClaim.pre_eq_preRow];exact nums_lifted os started H enc F)
theorem nums_plain (f:FuncId) (fn:Func) (hf:Tryz.pinned.checked.prog.funcNamed "sloth/slothlaw10.MeaningNumbers" = some f) (hfn:Tryz.pinned.checked.prog.funcs[f]? = some fn) :
   true=Tryz.pinned.checked.prog.looks []∧∀ (j:Nat) t,fn.params[j]? = some t→Tryz.pinned.checked.prog.wantsStandIn t=false:=by
 obtain rfl:f=5:=Option.some.inj ((show Tryz.prog.funcNamed "sloth/slothlaw10.MeaningNumbers" = some 5 by kernel_rfl).symm.trans hf) |>.symm;obtain rfl:fn=Tryz.f5:=(Option.some.inj (Tryz.func5.symm.trans hfn)).symm;refine ⟨by kernel_rfl,fun j t ht=>?_⟩;rw [Tryz.params5] at ht;have hm:t∈[3,3]:=by simpa using Array.mem_of_getElem? ht
 have hall:([3,3].all fun u=>!Tryz.prog.wantsStandIn u)=true:=by kernel_rfl
 exact (show Tryz.prog.wantsStandIn t=false by simpa using List.all_eq_true.1 hall t hm)
theorem meaningNumbers_holds:Rows.MeaningNumbersCardSaid:=
 Claim7.holds_tied_plain_at .later [] _ _ _ _ nums_row (fun _ h=>by cases h) (by kernel_rfl) (fun _ h=>by cases h) meaningNumbers_row_tie rfl ⟨rfl,rfl⟩ (by kernel_rfl) rfl nums_plain (by kernel_rfl)
#print axioms meaningNumbers_holds
end
end Go.Proofs.YtjfgeekjjlhbdaaGreatDoor