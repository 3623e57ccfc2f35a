/- Texts that the last file stands on: Q13, W12, C0, C1, C2, C3, C4, C5, C6, C7, C8, C9, IRL, M26, M29, V6, WL, B2, K1, K2, K3, SQ1, SQ2, SQ3, K4, K5, W13. -/
import Derived.Test.YtnjobkbblhaliaaGreatDoorZTD
import Derived.Test.YtnjobkbblhaliaaGreatDoorZTA
import Derived.KernelRfl
import Derived.Test.YtnjobkbblhaliaaGreatDoorRows
import Derived.Deep.Slices
import Derived.RangeFuncNested
import Derived.Shelf.Abstract
import Derived.WalkKit
import Derived.Laws.Externs
import Derived.Lib.FrozenHead
import Derived.Shelf.RegionOpenPlain
import Derived.Test.YtnjobkbblhaliaaGreatDoorZTC
set_option linter.unusedSimpArgs false
set_option linter.unusedVariables false
set_option maxRecDepth 100000
namespace Go.Proofs.YtnjobkbblhaliaaGreatDoor
section
open Go Go.W
def uo (op:Int):Option (Int×Int):=
 if op=1 then some (1,0) else if op=2 then some (4,0) else if op=3 then some (3,0) else if op=4 then some (1,0) else if op=5 then some (1,0) else if op=6 then some (0,0)
 else if op=7 then some (2,0) else if op=8 then some (1,0) else if op=9 then some (5,0) else if op=10 then some (5,0) else if op=11 then some (0,0) else if op=12 then some (6,0)
 else if op=13 then some (8,0) else if op=14 then some (5,8) else if op=15 then some (3,8) else if op=16 then some (7,0) else if op=17 then some (0,0) else none
def p5 (T:bH) (n k:Int):Bool:=
 if k=0 then decide (n=0) else if k=1 then decide (n≥0) else if k=2 then decide (n≥1) else if k=3 then decide (n ≥ -4611686018427387904∧n≤4611686018427387903) else if k=4 then decide (n≥0∧n < T.globals.length)
 else if k=5 then decide (n≥0∧n < T.au.length) else if k=6 then decide (n≥1∧n≤11) else decide (n≥1∧n≤4)
def kT (T:bH) (len at':Nat) (n kind:Int):Int:=if kind=8 then (if n≤at'∨n≥len then 174 else 0) else if p5 T n kind=true then 0 else 172
def sK (T:bH) (len i:Nat) (x:Ins):Int:=
 match uo x.op with
 | none=>172
 | some (a,b)=>if kT T len i x.a a=172∨kT T len i x.b b=172 then 172 else if kT T len i x.a a≠0∨kT T len i x.b b≠0 then 174 else 0
def p6 (T:bH) (len:Nat):Nat→List Ins→Int
 | _,[]=>0
 | i,x::l=>if sK T len i x=0 then p6 T len (i+1) l else sK T len i x
instance (x:Ins):Decidable (iM x):=inferInstanceAs (Decidable (_∧_))
def xT (T:bH) (len i:Nat) (x:Ins) (D:List Int):Int:=
 if D.getD i 0=0 then 174
 else if ¬ ((bh T x (D.getD i 0)).1=true∧(bh T x (D.getD i 0)).2≤8000) then 173
 else if iM x∧i+1=len then 174
 else if iM x∧(iN D ((i:Int)+1) (bh T x (D.getD i 0)).2).getD (i+1) 0≠(bh T x (D.getD i 0)).2 then 173
 else if fe x > 0∧(jM T D i x).getD (fe x).toNat 0≠(bh T x (D.getD i 0)).2 then 173
 else 0
def sL (T:bH) (len:Nat):Nat→List Ins→List Int→Int
 | _,[],_=>0
 | i,x::l,D=>if xT T len i x D=0 then sL T len (i+1) l (jM T D i x) else xT T len i x D
def qS (g:Gl):List Int:=(List.replicate g.code.length 0).set 0 (g.arity+1)
def oY (T:bH) (g:Gl):Int:=
 if p6 T g.code.length 0 g.code≠0 then p6 T g.code.length 0 g.code
 else if g.code.length=0 then 174
 else sL T g.code.length 0 g.code (qS g)
def sM (T:bH):List Gl→Int
 | []=>0
 | g::l=>if oY T g=0 then sM T l else oY T g
def lP (b:ByteArray):Bool:=b.data.toList.all (fun c=>decide (32≤c.toNat)&&decide (c.toNat≤126))&&decide (1≤b.data.toList.length)&&decide (b.data.toList.length≤4096)
def kA (hi:Int):List ByteArray→List (ByteArray×Int)→Bool
 | _,[]=>true
 | seen,(s,n)::l=>lP s&&seen.all (fun t=>decide (t≠s))&&decide (0≤n)&&decide (n≤hi)&&kA hi (s::seen) l
def kB:List gF:=[⟨⟨#[70,97,108,115,101]⟩,0⟩,⟨⟨#[84,114,117,101]⟩,0⟩,⟨⟨#[85,110,105,116]⟩,0⟩,⟨⟨#[78,105,108]⟩,0⟩,⟨⟨#[67,111,110,115]⟩,2⟩,⟨⟨#[80,97,105,114]⟩,2⟩,⟨⟨#[84,114,105,112,108,101]⟩,2+1⟩]
def D9 (T:bH):Bool:=T.globals.any (fun g=>decide (g.code.length > 8000))||decide (T.au.length > 2000)||decide (T.globals.length > 2000)||decide ((T.globals.map (·.code.length)).sum > 200000)
def jr (T:bH):List (ByteArray×Int):=T.au.map fun s=>(s.name,s.fields)
def iO (T:bH):List (ByteArray×Int):=T.globals.map fun g=>(g.name,g.arity)
def qT (T:bH):Int:=
 if D9 T=true then 4
 else if kA 8 [] (jr T)=false then 172
 else if ¬ (T.au.take 7=kB) then 172
 else if kA 24 [] (iO T)=false then 172
 else sM T T.globals
theorem WQ {T:bH} {len:Nat}:∀ (l:List Ins) (i:Nat),p6 T len i l=0→∀ (j:Nat) (x:Ins),l[j]? = some x→sK T len (i+j) x=0:=by
 intro l
 induction l with
 | nil=>intro i _ j x h;simp at h
 | cons y l ih=>
  intro i h j x U;unfold p6 at h
  split at h
  ·rename_i hy;cases j with
   | zero=>simp at U;subst U;simpa using hy
   | succ j=>
    have:=ih (i+1) h j x (by simpa using U);rw [show i+(j+1)=i+1+j by omega];exact this
  ·rename_i hy;exact absurd h hy
theorem WR {T:bH} {len i:Nat} {x:Ins} (h:sK T len i x=0):zn T len i x:=by
 unfold sK at h;have e8:∀ n:Int,kT T len i n 8=0→(i:Int) < n∧n < len:=by
  intro n hn;unfold kT at hn;rw [if_pos rfl] at hn
  split at hn
  ·cases hn
  ·omega
 have er:∀ n k:Int,k≠8→kT T len i n k≠172→p5 T n k=true:=by
  intro n k hk hn;unfold kT at hn;rw [if_neg hk] at hn;cases hb:p5 T n k with
  | true=>rfl
  | false=>rw [hb] at hn;simp at hn
 have hop:x.op=1∨x.op=2∨x.op=3∨x.op=4∨x.op=5∨x.op=6∨x.op=7∨x.op=8∨x.op=9∨x.op=10∨x.op=11∨x.op=12∨x.op=13∨x.op=14∨x.op=15∨x.op=16∨x.op=17∨uo x.op=none:=by
  by_cases h1:1≤x.op∧x.op≤17
  ·omega
  ·right;right;right;right;right;right;right;right;right;right;right;right;right;right;right;right;right
   unfold uo
   repeat' (rw [if_neg (by omega)])
 rcases hop with e | e | e | e | e | e | e | e | e | e | e | e | e | e | e | e | e | e
 case inr.inr.inr.inr.inr.inr.inr.inr.inr.inr.inr.inr.inr.inr.inr.inr.inr=>rw [e] at h;simp at h
 all_goals
  simp only [uo,e] at h;simp at h
  split at h
  ·cases h
  ·rename_i h1
   split at h
   ·cases h
   ·rename_i h2;simp only [not_or,Classical.not_not] at h1 h2;have a2:=e8 x.a;have b2:=e8 x.b;have a1:=er x.a;clear er e8
    first
     | (have:=a1 _ (by decide) h1.1;have:=b2 h2.2;simp [p5] at *;constructor<;>(try unfold isNum)<;>omega)
     | (have:=a1 _ (by decide) h1.1;simp [p5] at this;constructor<;>(try unfold isNum)<;>omega)
     | (have:=a2 h2.1;constructor<;>(try unfold isNum)<;>omega)
     | (constructor<;>(try unfold isNum)<;>omega)
theorem WS {T:bH} {x:Ins} {d:Int} (hT:∀ s∈T.au,0≤s.fields) {len i:Nat} (hn:zn T len i x) (hd:1≤d) (h:(bh T x d).1=true):1≤(bh T x d).2:=by
 have o1:=hn.o1;have o2:=hn.o2;have c1:=hn.c1;have c7:=hn.c7;have hf:(x.op=9∨x.op=10)→0≤(T.sh x.a).fields:=by
  intro ho;have hc:=hn.c9 (by omega);refine hT _ ?_;unfold bH.sh;rw [List.getD_eq_getElem?_getD,List.getElem?_eq_getElem (by omega:x.a.toNat < T.au.length)];exact List.getElem_mem _
 have hop:x.op=1∨x.op=2∨x.op=3∨x.op=4∨x.op=5∨x.op=6∨x.op=7∨x.op=8∨x.op=9∨x.op=10∨x.op=11∨x.op=12∨x.op=13∨x.op=14∨x.op=15∨x.op=16∨x.op=17:=by omega
 rcases hop with e | e | e | e | e | e | e | e | e | e | e | e | e | e | e | e | e
 all_goals (simp [bh,e] at h ⊢;try omega)
theorem Ea (l:List Int) (i j:Nat) (v:Int):(l.set i v).getD j 0=if i=j∧i < l.length then v else l.getD j 0:=by
 rw [List.getD_eq_getElem?_getD,List.getD_eq_getElem?_getD,List.getElem?_set];by_cases h:i=j
 ·subst h;by_cases h2:i < l.length
  ·simp [h2]
  ·simp [h2]
 ·simp [h]
theorem NK (D:List Int) (a d:Int):(iN D a d).length=D.length:=by unfold iN;split<;>simp
theorem Bp (D:List Int) (a d:Int) {k:Nat} (h:D.getD k 0≠0):(iN D a d).getD k 0=D.getD k 0:=by
 unfold iN
 split
 ·rename_i h0;rw [Ea]
  split
  ·rename_i hk;rw [hk.1] at h0;exact absurd h0 h
  ·rfl
 ·rfl
theorem Hi (D:List Int) (a:Int) {d:Int} (hd:0≤d) (h:∀ k,0≤D.getD k 0):∀ k,0≤(iN D a d).getD k 0:=by
 intro k;unfold iN
 split
 ·rw [Ea]
  split
  ·exact hd
  ·exact h k
 ·exact h k
theorem aiM (T:bH) (D:List Int) (i:Nat) (x:Ins):(jM T D i x).length=D.length:=by
 simp only [jM];split<;>split<;>simp [NK]
theorem aiN (T:bH) (D:List Int) (i:Nat) (x:Ins) {k:Nat} (h:D.getD k 0≠0):(jM T D i x).getD k 0=D.getD k 0:=by
 simp only [jM]
 split<;>split
 ·rw [Bp _ _ _ (by rw [Bp _ _ _ h];exact h),Bp _ _ _ h]
 ·rw [Bp _ _ _ h]
 ·rw [Bp _ _ _ h]
 ·rfl
theorem Hj (T:bH):∀ (l:List Ins) (i:Nat) (D:List Int) {k:Nat},D.getD k 0≠0→(nZ T i l D).getD k 0=D.getD k 0:=by
 intro l
 induction l with
 | nil=>intro i D k _;rfl
 | cons x l ih=>
  intro i D k h;unfold nZ;have:=aiN T D i x h;rw [ih (i+1) _ (by rw [this];exact h),this]
theorem aiO {T:bH} {len i:Nat} {x:Ins} {D:List Int} (h:xT T len i x D=0):D.getD i 0≠0∧(bh T x (D.getD i 0)).1=true∧(bh T x (D.getD i 0)).2≤8000∧(iM x→i+1≠len∧(iN D ((i:Int)+1) (bh T x (D.getD i 0)).2).getD (i+1) 0=(bh T x (D.getD i 0)).2) ∧
   (fe x > 0→(jM T D i x).getD (fe x).toNat 0=(bh T x (D.getD i 0)).2):=by
 unfold xT at h
 split at h
 ·cases h
 rename_i h1
 split at h
 ·cases h
 rename_i h2
 split at h
 ·cases h
 rename_i h3
 split at h
 ·cases h
 rename_i h4
 split at h
 ·cases h
 rename_i h5;have h2:=Classical.not_not.1 h2;refine ⟨h1,h2.1,h2.2,fun hg=>⟨fun e=>h3 ⟨hg,e⟩,Classical.byContradiction fun e=>h4 ⟨hg,e⟩⟩,fun ht=>Classical.byContradiction fun e=>h5 ⟨ht,e⟩⟩
theorem aiP {T:bH} (hT:∀ s∈T.au,0≤s.fields) {len:Nat}:∀ (l:List Ins) (i:Nat) (D:List Int),sL T len i l D=0→len=i+l.length→D.length=len→(∀ k,0≤D.getD k 0)→(∀ (j:Nat) (x:Ins),l[j]? = some x→zn T len (i+j) x) →
   ∀ (j:Nat) (x:Ins),l[j]? = some x→(nZ T i l D).getD (i+j) 0≠0∧(bh T x ((nZ T i l D).getD (i+j) 0)).1=true∧(bh T x ((nZ T i l D).getD (i+j) 0)).2≤8000 ∧
    (iM x→i+j+1 < len∧(nZ T i l D).getD (i+j+1) 0=(bh T x ((nZ T i l D).getD (i+j) 0)).2)∧(fe x > 0→(nZ T i l D).getD (fe x).toNat 0=(bh T x ((nZ T i l D).getD (i+j) 0)).2):=by
 intro l
 induction l with
 | nil=>intro i D _ _ _ _ _ j x h;simp at h
 | cons y l ih=>
  intro i D h hlen hD gv jk j x U;unfold sL at h
  split at h
  ·rename_i hy;obtain ⟨e1,e2,e3,e4,e5⟩:=aiO hy;have ny:=jk 0 y rfl;rw [Nat.add_zero] at ny;have d1:1≤D.getD i 0:=by have:=gv i;omega
   have b1:=WS hT ny d1 e2;have aiQ:∀ k,0≤(jM T D i y).getD k 0:=by
    simp only [jM]
    split<;>split
    ·exact Hi _ _ (by omega) (Hi _ _ (by omega) gv)
    ·exact Hi _ _ (by omega) gv
    ·exact Hi _ _ (by omega) gv
    ·exact gv
   cases j with
   | zero=>
    simp only [List.getElem?_cons_zero,Option.some.injEq] at U;subst U;rw [Nat.add_zero];have k1:(nZ T i (y::l) D).getD i 0=D.getD i 0:=Hj T (y::l) i D e1;rw [k1];refine ⟨e1,e2,e3,fun hg=>?_,fun ht=>?_⟩
    ·obtain ⟨g1,g2⟩:=e4 hg;refine ⟨by simp only [List.length_cons] at hlen;omega,?_⟩;have g3:(jM T D i y).getD (i+1) 0=(bh T y (D.getD i 0)).2:=by
      simp only [jM];have de:y.op≠13∧y.op≠16∧y.op≠17:=hg;rw [if_pos de]
      split
      ·rw [Bp _ _ _ (by rw [g2];omega),g2]
      ·exact g2
     show (nZ T (i+1) l (jM T D i y)).getD (i+1) 0=_;rw [Hj T l (i+1) _ (by rw [g3];omega),g3]
    ·have g3:=e5 ht;show (nZ T (i+1) l (jM T D i y)).getD _ 0=_;rw [Hj T l (i+1) _ (by rw [g3];omega),g3]
   | succ j=>
    have:=ih (i+1) (jM T D i y) h (by simp only [List.length_cons] at hlen;omega) (by rw [aiM];exact hD) aiQ (fun k z hz=>by
     have:=jk (k+1) z (by simpa using hz)
     rw [show i+(k+1)=i+1+k by omega] at this;exact this) j x (by simpa using U)
    rw [show i+1+j=i+(j+1) by omega] at this;exact this
  ·rename_i hy;exact absurd h hy
theorem aiR {T:bH} (hT:∀ s∈T.au,0≤s.fields) {g:Gl} (ha:0≤g.arity) (h:oY T g=0):Wd T g (vV T g):=by
 unfold oY at h
 split at h
 ·rename_i h1;exact absurd h h1
 rename_i h1
 split at h
 ·cases h
 rename_i h2;have h1:p6 T g.code.length 0 g.code=0:=Classical.not_not.1 h1;have hn:∀ (j:Nat) (x:Ins),g.code[j]? = some x→zn T g.code.length (0+j) x:=fun j x U=>WR (WQ _ 0 h1 j x U)
 have hs:∀ k,(qS g).getD k 0=if k=0 then g.arity+1 else 0:=by
  intro k;unfold qS;rw [Ea];by_cases hk:k=0
  ·subst hk;rw [if_pos ⟨rfl,by simp;omega⟩,if_pos rfl]
  ·rw [if_neg (fun hh=>hk hh.1.symm),if_neg hk,List.getD_eq_getElem?_getD,List.getElem?_replicate]
   split<;>rfl
 have key:=aiP hT g.code 0 (qS g) h (by simp) (by simp [qS]) (fun k=>by rw [hs];split<;>omega) hn;have e:vV T g=nZ T 0 g.code (qS g):=rfl;rw [← e] at key;refine ⟨by omega,?_,fun i x U=>?_⟩
 ·rw [e,Hj T _ _ _ (by rw [hs,if_pos rfl];omega),hs,if_pos rfl]
 ·obtain ⟨k1,k2,k3,k4,k5⟩:=key i x U;have n:=hn i x U;rw [Nat.zero_add] at k1 k2 k3 k4 k5 n;refine ⟨n,k1,k2,k3,k4,fun ho=>?_,fun ho=>?_⟩
  ·have t:fe x=x.a:=by simp [fe,ho]
   rw [t] at k5;have:=n.Ni ho;exact k5 (by omega)
  ·have t:fe x=x.b:=by
    unfold fe;rw [if_neg (by omega),if_pos ho]
   rw [t] at k5;have:=n.Bg ho;exact k5 (by omega)
theorem aiS {T:bH}:∀ (l:List Gl),sM T l=0→∀ g∈l,oY T g=0:=by
 intro l
 induction l with
 | nil=>intro _ g h;cases h
 | cons x l ih=>
  intro h g hg;unfold sM at h
  split at h
  ·rename_i U;rcases List.mem_cons.1 hg with rfl | hg
   ·exact U
   ·exact ih h g hg
  ·rename_i U;exact absurd h U
theorem Hk {hi:Int}:∀ (l:List (ByteArray×Int)) (seen:List ByteArray),kA hi seen l=true→(∀ p∈l,lP p.1=true∧p.1∉seen∧0≤p.2∧p.2≤hi)∧(l.map (·.1)).Nodup:=by
 intro l
 induction l with
 | nil=>intro seen _;exact ⟨fun p h=>(by cases h),by simp⟩
 | cons x l ih=>
  intro seen h;obtain ⟨s,n⟩:=x;simp only [kA,Bool.and_eq_true,decide_eq_true_eq] at h;obtain ⟨⟨⟨⟨a1,a2⟩,a3⟩,a4⟩,a5⟩:=h;have a2:s∉seen:=fun hm=>by
   have:=List.all_eq_true.1 a2 s hm;simp at this
  obtain ⟨b1,b2⟩:=ih _ a5;refine ⟨fun p hp=>?_,?_⟩
  ·rcases List.mem_cons.1 hp with rfl | hp
   ·exact ⟨a1,a2,a3,a4⟩
   ·obtain ⟨c1,c2,c3⟩:=b1 p hp;exact ⟨c1,fun hh=>c2 (List.mem_cons_of_mem _ hh),c3⟩
  ·rw [List.map_cons,List.nodup_cons];refine ⟨fun hm=>?_,b2⟩;obtain ⟨p,hp,jw⟩:=List.mem_map.1 hm;have:=(b1 p hp).2.1;rw [jw] at this;exact this List.mem_cons_self
theorem WT {T:bH} (h:qT T=0):G8 T∧(T.globals.map (·.name)).Nodup∧(∀ g∈T.globals,g.name.data.toList.length≤4096)∧∀ s∈T.au,s.name.data.toList.length≤4096:=by
 unfold qT at h
 split at h
 ·cases h
 rename_i h1
 split at h
 ·cases h
 rename_i h2
 split at h
 ·cases h
 rename_i h3
 split at h
 ·cases h
 rename_i h4;have h3:=Classical.not_not.1 h3;have h2:kA 8 [] (jr T)=true:=by simpa using h2
 have h4:kA 24 [] (iO T)=true:=by simpa using h4
 obtain ⟨s1,s2⟩:=Hk _ _ h2;obtain ⟨g1,g2⟩:=Hk _ _ h4;simp only [D9,Bool.or_eq_true,decide_eq_true_eq,List.any_eq_true,not_or,not_exists,not_and,Nat.not_lt] at h1;obtain ⟨⟨⟨c1,c2⟩,c3⟩,c4⟩:=h1;have sh:∀ s∈T.au,lP s.name=true∧0≤s.fields∧s.fields≤8:=fun s hs=>by
  have:=s1 (s.name,s.fields) (List.mem_map.2 ⟨s,hs,rfl⟩);exact ⟨this.1,this.2.2⟩
 have gl:∀ g∈T.globals,lP g.name=true∧0≤g.arity∧g.arity≤24:=fun g hg=>by
  have:=g1 (g.name,g.arity) (List.mem_map.2 ⟨g,hg,rfl⟩);exact ⟨this.1,this.2.2⟩
 have nm:∀ b:ByteArray,lP b=true→b.data.toList.length≤4096:=fun b hb=>by
  simp only [lP,Bool.and_eq_true,decide_eq_true_eq] at hb;exact hb.2
 have Eb:∀ i:Nat,i < 7→T.sh (i:Int)=kB.getD i ⟨⟨#[]⟩,0⟩∧i < T.au.length:=by
  intro i hi;have hl:(T.au.take 7).length=7:=by rw [h3];rfl
  rw [List.length_take] at hl;have gz:i < T.au.length:=by omega
  refine ⟨?_,gz⟩;rw [← h3];unfold bH.sh;rw [Int.toNat_natCast,List.getD_eq_getElem?_getD,List.getD_eq_getElem?_getD,List.getElem?_take,if_pos hi]
 refine ⟨⟨fun g hg=>⟨aiR (fun s hs=>(sh s hs).2.1) (gl g hg).2.1 (aiS _ h g hg),(gl g hg).2.1,(gl g hg).2.2,?_⟩,fun s hs=>(sh s hs).2,c3,⟨?_,c2⟩,?_,?_,?_,?_⟩,?_,fun g hg=>nm _ (gl g hg).1,fun s hs=>nm _ (sh s hs).1⟩
 ·have:=c1 g hg;omega
 ·have:=(Eb 6 (by omega)).2;omega
 ·have:=(Eb 3 (by omega)).1;have e:T.sh 3=T.sh ((3:Nat):Int):=rfl;rw [e,this];rfl
 ·have:=(Eb 4 (by omega)).1;have e:T.sh 4=T.sh ((4:Nat):Int):=rfl;rw [e,this];rfl
 ·have:=(Eb 0 (by omega)).1;have e:T.sh 0=T.sh ((0:Nat):Int):=rfl;rw [e,this];rfl
 ·have:=(Eb 1 (by omega)).1;have e:T.sh 1=T.sh ((1:Nat):Int):=rfl;rw [e,this];rfl
 ·have:T.globals.map (·.name)=(iO T).map (·.1):=by simp [iO]
  rw [this];exact g2
end
end Go.Proofs.YtnjobkbblhaliaaGreatDoor
namespace Go.W
section
open Go Go.ChangeMaps Go.RowKit
theorem NL (a b:ByteArray):(a == b)=decide (a=b):=by
 cases a;cases b;rename_i x y;show (x == y)=_;by_cases h:x=y
 ·subst h;simp
 ·simp [h]
def mj (w:World) (b:Nat) (l:List (ByteArray×Int)):Prop:=
 ∃ es clock,w.heap[b]? = some (.map es clock)∧es.toList.map (fun e=>(e.key,e.val))=l.map (fun p=>(.string p.1,I p.2))∧(∀ e∈es.toList,e.born < clock)∧(es.toList.map (·.born)).Nodup
theorem p7 {w w':World} {b:Nat} {l:List (ByteArray×Int)} {S:Nat→Prop} (h:mj w b l) (hm:Mod S w w') (hb:¬ S b):mj w' b l:=by
 obtain ⟨es,c,h1,h2⟩:=h;exact ⟨es,c,hm.at h1 hb,h2⟩
def hZ (l:List (ByteArray×Int)) (k:ByteArray):Option Int:=(l.find? (fun p=>decide (p.1=k))).map (·.2)
def wh (l:List (ByteArray×Int)) (k:ByteArray) (v:Int):List (ByteArray×Int):=match l.findIdx? (fun p=>decide (p.1=k)) with
 | some i=>l.set i (k,v)
 | none=>l++[(k,v)]
theorem aiT (k:ByteArray):∀ (es:List MapEntry) (l:List (ByteArray×Int)) (i:Nat),es.map (fun e=>(e.key,e.val))=l.map (fun p=>(.string p.1,I p.2)) →
   Instr.findNow .string (.string k) es i=some ((l.findIdx? (fun p=>decide (p.1=k))).map fun j=>(i+j,I (l.getD j (⟨#[]⟩,0)).2)):=by
 intro es
 induction es with
 | nil=>
  intro l i h;cases l with
  | nil=>rfl
  | cons p l=>simp at h
 | cons e es ih=>
  intro l i h;cases l with
  | nil=>simp at h
  | cons p l=>
   simp only [List.map_cons,List.cons.injEq,Prod.mk.injEq] at h;obtain ⟨⟨h1,h2⟩,h3⟩:=h;have e1:Instr.sameNow .string (.string k) e.key=some (k == p.1):=by rw [h1];simp [Instr.sameNow,I]
   by_cases hk:p.1=k
   ·have e2:(k == p.1)=true:=by simp [NL,hk]
    have e3:decide (p.1=k)=true:=by simp [hk]
    rw [e2] at e1;simp [Instr.findNow,e1,List.findIdx?_cons,e3,h2]
   ·have e2:(k == p.1)=false:=by simp [NL];exact fun h=>hk h.symm
    have e3:decide (p.1=k)=false:=by simp [hk]
    rw [e2] at e1;simp only [Instr.findNow,e1,ih l (i+1) h3,List.findIdx?_cons,e3];cases l.findIdx? (fun p=>decide (p.1=k)) with
    | none=>rfl
    | some j=>simp [Nat.add_assoc,Nat.add_comm 1 j]
theorem NM {P:Program} {w:World} {kt:TypeId} (hk:P.underlying kt=some .string) (k:ByteArray) (es:List MapEntry) (l:List (ByteArray×Int)) (h:es.map (fun e=>(e.key,e.val))=l.map (fun p=>(.string p.1,I p.2))) :
   (Instr.findKey kt (.string k) es).run P w = .ok ((l.findIdx? (fun p=>decide (p.1=k))).map fun j=>(j,I (l.getD j (⟨#[]⟩,0)).2)) w:=by
 have:=aiT k es l 0 h;simp only [Nat.zero_add] at this;simp only [Instr.findKey,Sem.run_bind,run_underlying hk,Result.andThen,this];rfl
theorem aiU {P:Program} {w:World} {kt:TypeId} (hk:P.underlying kt=some .string) (k:ByteArray) (b:Bool) (n:Nat):(Instr.checkKey b (n+1) kt (.string k)).run P w = .ok () w:=by
 unfold Instr.checkKey;rw [Sem.run_bind,run_underlying hk];rfl
theorem Hl {P:Program} {w:World} {kt:TypeId} (hk:P.underlying kt=some .string) (k:ByteArray) (b:Bool):(Instr.checkKey b 10000 kt (.string k)).run P w = .ok () w:=aiU hk k b 9999
theorem WU (l:List (ByteArray×Int)) (k:ByteArray):hZ l k=(l.findIdx? (fun p=>decide (p.1=k))).map fun j=>(l.getD j (⟨#[]⟩,0)).2:=by
 induction l with
 | nil=>rfl
 | cons p l ih=>
  unfold hZ at ih ⊢;by_cases hk:p.1=k
  ·have e3:decide (p.1=k)=true:=by simp [hk]
   simp [List.find?_cons,List.findIdx?_cons,e3]
  ·have e3:decide (p.1=k)=false:=by simp [hk]
   simp only [List.find?_cons,List.findIdx?_cons,e3,ih];cases l.findIdx? (fun p=>decide (p.1=k))<;>rfl
section
variable {P:Program} {ρ:Env} {w:World} {K:Value→World→Prop} {d:Option Nat} {ty:TypeId} {pos:String} {af:Array Edge}
theorem WV {t:TypeId} (hk:∀ w',mj w' w.heap.size []→Mod (fun _=>False) w w'→w'.heap.size=w.heap.size+1→K (.map (some w.heap.size)) w') :
   E.wp P w ρ K (.raw ⟨d,.makeMap t none,ty,pos,af,none⟩):=by
 refine iC fun a ha=>⟨_,_,?_,hk (w.alloc (.map #[] 0)) ⟨_,_,heap_alloc_new w _,rfl,by simp,by simp⟩ (pA _ w _) (by simp)⟩
 simp only [execOp,Sem.run_bind,Option.map_none,Go.RowKit.run_makeMap,Result.andThen];rfl
theorem WW {t kt et:TypeId} {m x:Operand} {b:Nat} {k:ByteArray} {l:List (ByteArray×Int)} (hm:(a7 m).ev ρ=some (.map (some b))) (U:(a7 x).ev ρ=some (.string k)) (ht:P.underlying t=some (.map kt et)) (jg:P.underlying kt=some .string)
   (hz:(zeroValue et).run P w = .ok (I 0) w) (h:mj w b l) (hk:K (.tuple #[I ((hZ l k).getD 0),.bool (hZ l k).isSome]) w):E.wp P w ρ K (.raw ⟨d,.lookup t m x true,ty,pos,af,none⟩):=by
 obtain ⟨es,clock,h1,h2,_⟩:=h;refine iC fun a ha=>⟨_,w,?_,hk⟩
 have gy:=NM (P:=P) (w:=w) jg k es.toList l h2;have e1:(Instr.lookup t (.map (some b)) (.string k) true).run P w = .ok (.tuple #[I ((hZ l k).getD 0),.bool (hZ l k).isSome]) w:=by
  rw [WU];simp only [Instr.lookup,Sem.run_bind,run_underlying ht,Result.andThen,getObj,Sem.run,h1,Hl jg,Sem.run_pure];cases hI:l.findIdx? (fun p=>decide (p.1=k)) with
  | none=>
   rw [hI] at gy
   erw [gy]
   simp [hz,Sem.run_bind,Sem.run_pure,Sem.run,Result.andThen]
  | some j=>
   rw [hI] at gy
   erw [gy]
   simp [Sem.run_bind,Sem.run_pure,Sem.run,Result.andThen]
 simp only [execOp,Sem.run_bind,ha m _ hm,ha x _ U,e1,Result.andThen];rfl
theorem Bq {t kt et:TypeId} {m x:Operand} {b:Nat} {k:ByteArray} {l:List (ByteArray×Int)} (hm:(a7 m).ev ρ=some (.map (some b))) (U:(a7 x).ev ρ=some (.string k)) (ht:P.underlying t=some (.map kt et)) (jg:P.underlying kt=some .string)
   (hz:(zeroValue et).run P w = .ok (I 0) w) (h:mj w b l) (hk:K (I ((hZ l k).getD 0)) w):E.wp P w ρ K (.raw ⟨d,.lookup t m x false,ty,pos,af,none⟩):=by
 obtain ⟨es,clock,h1,h2,_⟩:=h;refine iC fun a ha=>⟨_,w,?_,hk⟩
 have gy:=NM (P:=P) (w:=w) jg k es.toList l h2;have e1:(Instr.lookup t (.map (some b)) (.string k) false).run P w = .ok (I ((hZ l k).getD 0)) w:=by
  rw [WU];simp only [Instr.lookup,Sem.run_bind,run_underlying ht,Result.andThen,getObj,Sem.run,h1,Hl jg,Sem.run_pure];cases hI:l.findIdx? (fun p=>decide (p.1=k)) with
  | none=>
   rw [hI] at gy
   erw [gy]
   simp [hz,Sem.run_bind,Sem.run_pure,Sem.run,Result.andThen]
  | some j=>
   rw [hI] at gy
   erw [gy]
   simp [Sem.run_bind,Sem.run_pure,Sem.run,Result.andThen]
 simp only [execOp,Sem.run_bind,ha m _ hm,ha x _ U,e1,Result.andThen];rfl
theorem NN {t kt et:TypeId} {m x y:Operand} {b:Nat} {k:ByteArray} {v:Int} {l:List (ByteArray×Int)} (hm:(a7 m).ev ρ=some (.map (some b))) (U:(a7 x).ev ρ=some (.string k)) (hy:(a7 y).ev ρ=some (I v)) (ht:P.underlying t=some (.map kt et)) (jg:P.underlying kt=some .string)
   (h:mj w b l) (hk:∀ w',mj w' b (wh l k v)→Mod (· = b) w w'→w'.heap.size=w.heap.size→K undef w'):E.wp P w ρ K (.raw ⟨d,.mapUpdate t m x y,ty,pos,af,none⟩):=by
 obtain ⟨es,clock,h1,h2,h3,h4⟩:=h;have gy:=NM (P:=P) (w:=w) jg k es.toList l h2;have dQ:es.size=l.length:=by have:=congrArg List.length h2;simpa using this
 cases hI:l.findIdx? (fun p=>decide (p.1=k)) with
 | none=>
  rw [hI] at gy;have e1:(Instr.mapUpdate t (.map (some b)) (.string k) (I v)).run P w = .ok () (setBlock w b (.map (es.push { key:=.string k,val:=I v,born:=clock}) (clock+1))):=by
   simp only [Instr.mapUpdate,Sem.run_bind,run_underlying ht,Result.andThen,getObj,Sem.run,h1,Hl jg,Sem.run_pure]
   erw [gy]
   exact run_setObj_map h1 _
  refine B0 fun a ha=>⟨_,?_,hk (setBlock w b (.map (es.push { key:=.string k,val:=I v,born:=clock}) (clock+1))) ⟨_,_,heap_setBlock_same h1 _,?_,?_,?_⟩ (wO w b _ h1) (wP w b _)⟩
  ·simp only [execOp,Sem.run_bind,ha m _ hm,ha x _ U,ha y _ hy,e1,Result.andThen];rfl
  ·simp [wh,hI,h2]
  ·intro e he;simp only [Array.toList_push,List.mem_append,List.mem_cons,List.not_mem_nil,or_false] at he;rcases he with he | rfl
   ·exact Nat.lt_succ_of_lt (h3 e he)
   ·exact Nat.lt_succ_self _
  ·simp only [Array.toList_push,List.map_append,List.map_cons,List.map_nil];rw [List.nodup_append];refine ⟨h4,by simp,?_⟩;intro x U y hy Aq;simp only [List.mem_cons,List.not_mem_nil,or_false] at hy;obtain ⟨e,he,rfl⟩:=List.mem_map.1 U;have:=h3 e he;omega
 | some i=>
  rw [hI] at gy;have gz:i < l.length:=by
   have:=List.findIdx?_eq_some_iff_getElem.1 hI;exact this.1
  have gB:i < es.size:=by omega
  have uM:(es[i]).key = .string k:=by
   have h5:es.toList[i]'(by simpa using gB)=es[i]:=by simp
   have h6:=congrArg (fun z=>z[i]?) h2;simp only [List.getElem?_map,List.getElem?_eq_getElem (show i < es.toList.length by simpa using gB),List.getElem?_eq_getElem gz,Option.map_some,Option.some.injEq,Prod.mk.injEq] at h6;have h7:=(List.findIdx?_eq_some_iff_getElem.1 hI).2.1;rw [← h5,h6.1];simp at h7;rw [h7]
  have bN:(Instr.keyThatStays (((es[i]?).map (·.key)).getD (.string k)) (.string k)).run P w = .ok (.string k) w:=by
   rw [Array.getElem?_eq_getElem gB,Option.map_some,Option.getD_some,uM];simp [Instr.keyThatStays,Instr.sameBits,NL]
  have e1:(Instr.mapUpdate t (.map (some b)) (.string k) (I v)).run P w = .ok () (setBlock w b (.map (es.modify i fun e=>{ e with key:=.string k,val:=I v}) clock)):=by
   simp only [Instr.mapUpdate,Sem.run_bind,run_underlying ht,Result.andThen,getObj,Sem.run,h1,Hl jg,Sem.run_pure]
   erw [gy]
   simp only [Option.map_some,Sem.run_bind,bN,Result.andThen];exact run_setObj_map h1 _
  refine B0 fun a ha=>⟨_,?_,hk (setBlock w b (.map (es.modify i fun e=>{ e with key:=.string k,val:=I v}) clock)) ⟨_,_,heap_setBlock_same h1 _,?_,?_,?_⟩ (wO w b _ h1) (wP w b _)⟩
  ·simp only [execOp,Sem.run_bind,ha m _ hm,ha x _ U,ha y _ hy,e1,Result.andThen];rfl
  ·simp only [wh,hI];apply List.ext_getElem?;intro j;have h6:=congrArg (fun z=>z[j]?) h2;simp only [List.getElem?_map] at h6 ⊢;rw [Array.toList_modify,List.getElem?_modify,List.getElem?_set];by_cases eA:i=j
   ·subst eA;simp [gz,show i < es.toList.length by simpa using gB,gB]
   ·rw [if_neg eA]
    simpa [eA] using h6
  ·intro e he;rw [Array.toList_modify] at he;obtain ⟨j,hj,rfl⟩:=List.getElem_of_mem he;rw [List.getElem_modify];have hm:es.toList[j]'(by simpa using hj)∈es.toList:=List.getElem_mem _;have h5:=h3 _ hm
   split<;>exact h5
  ·have:(es.modify i fun e=>{ e with key:=.string k,val:=I v}).toList.map (·.born)=es.toList.map (·.born):=by
    apply List.ext_getElem?;intro j;rw [Array.toList_modify];simp only [List.getElem?_map,List.getElem?_modify];by_cases eA:i=j
    ·subst eA;cases es.toList[i]?<;>simp
    ·simp [eA]
   rw [this];exact h4
theorem aiV {t kt et:TypeId} {at':Array TypeId} {m:Operand} {b:Nat} {l:List (ByteArray×Int)} (dN:at'[0]? = some t) (hm:(a7 m).ev ρ=some (.map (some b))) (ht:P.underlying t=some (.map kt et))
   (h:mj w b l) (hk:∀ w',mj w' b []→Mod (· = b) w w'→w'.heap.size=w.heap.size→K (.tuple #[]) w'):E.wp P w ρ K (.raw ⟨d,.call { callee:=.builtin .clear,args:=#[m],argTypes:=at'},ty,pos,af,none⟩):=by
 obtain ⟨es,clock,h1,h2,h3,h4⟩:=h;refine iC fun a ha=>⟨_,_,?_,hk (setBlock w b (.map #[] clock)) ⟨_,_,heap_setBlock_same h1 _,rfl,by simp,by simp⟩ (wO w b _ h1) (wP w b _)⟩
 have a0:(#[Value.map (some b)]:Array Value)[0]? = some (.map (some b)):=rfl;have e1:(Builtin.clear_ at' ty #[.map (some b)]).run P w = .ok (.tuple #[]) (setBlock w b (.map #[] clock)):=by
  simp only [Builtin.clear_,dN,a0,Sem.run_bind,run_underlying ht,Result.andThen,getObj,Sem.run,h1,Sem.run_pure];simp only [run_setObj_map h1]
 simp only [execOp,resolve,invoke,builtin,Sem.run_bind,Sem.run_pure,Result.andThen,List.map_toArray,List.map_cons,List.map_nil,ha m _ hm]
 erw [e1]
end
end
section
open Go
section
variable {P:Program} {ρ:Env} {w:World} {K:Value→World→Prop} {d:Option Nat} {ty:TypeId} {pos:String} {af:Array Edge}
def Br (ρ:Env):List (Nat×Operand)→Option (List (Nat×Value))
 | []=>some []
 | (i,x)::r=>match (a7 x).ev ρ,Br ρ r with
  | some v,some l=>some ((i,v)::l)
  | _,_=>none
theorem aiW {a:Act} (ha:∀ (x:Operand) (v:Value),(a7 x).ev ρ=some v→a.eval x=v):∀ (l:List (Nat×Operand)) (vs:List (Nat×Value)),Br ρ l=some vs→l.map (fun p=>(p.1,a.eval p.2))=vs:=by
 intro l
 induction l with
 | nil=>intro vs h;simp only [Br,Option.some.injEq] at h;subst h;rfl
 | cons p l ih=>
  intro vs h;obtain ⟨i,x⟩:=p;simp only [Br] at h;cases U:(a7 x).ev ρ with
  | none=>simp [U] at h
  | some v=>
   cases hl:Br ρ l with
   | none=>simp [U,hl] at h
   | some vs'=>
    simp only [U,hl,Option.some.injEq] at h;subst h;simp only [List.map_cons,ha x v U,ih vs' hl]
theorem aiX {t el:TypeId} {len n:Nat} {parts:Array (Nat×Operand)} {z:Value} {vs:List (Nat×Value)} {out:Array Value} (ht:P.underlying t=some (.array len el)) (hz:(P.info? t).bind (·.zero)=some z) (hn:gu P el=some n)
   (hp:Br ρ parts.toList=some vs) (hf:Instr.fill (fun i=>some (i*n,n)) z.cells vs=some out) (hk:K (.agg out) w):E.wp P w ρ K (.raw ⟨d,.build t parts,ty,pos,af,none⟩):=by
 refine iC fun a ha=>⟨_,w,?_,hk⟩
 have e0:(parts.map fun (i,x)=>(i,a.eval x)).toList=vs:=by
  rw [← aiW ha parts.toList vs hp];simp
 have g1:ro P w (underlying t)=some (.array len el):=by rw [iQ,ht]
 have g2:ro P w (sizeOf el)=some n:=by rw [rq];exact hn
 have g3:ro P w (zeroValue t)=some z:=by rw [IC];exact hz
 simp only [execOp,Instr.build,Sem.run_bind,kZ g1,kZ g2,kZ g3,Result.andThen_ok,e0,hf,Sem.run_pure]
theorem aiY {t el:TypeId} {len n:Nat} {x i:Operand} {a:Addr} {k:IntKind} {j:Int} (ht:P.underlying t=some (.array len el)) (hn:gu P el=some n) (U:(a7 x).ev ρ=some (.pointer (some a))) (hi:(a7 i).ev ρ=some (.int k j)) (hj:0≤j∧j < len)
   (hk:K (.pointer (some (a.add (j.toNat*n)))) w):E.wp P w ρ K (.raw ⟨d,.indexAddr t x i,ty,pos,af,none⟩):=by
 refine iC fun a' ha=>⟨_,w,?_,hk⟩
 have g1:ro P w (underlying t)=some (.array len el):=by rw [iQ,ht]
 have g2:ro P w (sizeOf el)=some n:=by rw [rq];exact hn
 simp only [execOp,ha x _ U,ha i _ hi,Instr.indexAt,Instr.sureAddr,asIntOf,Sem.run_bind,kZ g1,kZ g2,Result.andThen_ok,Sem.run_pure,hj,and_self,if_true]
end
end
end Go.W
namespace Go.Proofs.YtnjobkbblhaliaaGreatDoor
section
open Go Go.W
theorem WX (w:World) (b:ByteArray) (hb:b.size≤4611686018427387904):aK Tryz.prog 104 [.string b] w fun r w'=>r = .bool (lP b)∧w=w':=by
 have dQ:b.data.toList.length=b.size:=by
  show b.data.toList.length=b.data.size;exact Array.length_toList
 refine aga.calls rfl ?_;unfold LV;refine σ ?_;refine dA (fun z ρ w'=>∃ i:Nat,z=b.size - i∧i≤b.size∧w=w'∧(∀ j,(hj:j < b.data.toList.length)→j < i→32≤(b.data.toList[j]).toNat∧(b.data.toList[j]).toNat≤126)∧ρ=[(0,.string b),(5,I b.size),(6,I i)]) b.size ⟨0,rfl,by omega,rfl,fun j _ h=>absurd h (Nat.not_lt_zero j),rfl⟩ ?_;rintro z ρ _ ⟨i,rfl,hi,rfl,df,rfl⟩;unfold U';refine σ ?_;refine aY rfl (fun ah=>?_) (fun ah=>?_)
 ·have ah:i < b.size:=by simpa using ah
  have gz:i < b.data.toList.length:=by omega
  have c1:b[i]? = some (b.data.toList[i]):=by
   rw [getElem?_pos b i ah];rfl
  have z0:(0:Int)≤i:=by omega
  have e1:IntKind.i64.wrap ((i:Int)+1)=((i+1:Nat):Int):=by rw [cy (by omega) (by omega)];omega
  generalize hc:b.data.toList[i]=c at c1;simp only [go_sem,simprocAttr,an,bq,c1,z0];refine iG (fun ρ w'=>w=w'∧ρ.get 0=some (.string b)∧ρ.get 5=some (I b.size)∧ρ.get 6=some (I i)∧ρ.get 18=some (.bool (decide ((c.toNat:Int) < 32∨(c.toNat:Int) > 126)))) ?_ ?_
  ·cases h1:decide ((c.toNat:Int) < 32)<;>simp only [go_sem,simprocAttr,an,bq,h1,c1,z0]<;>(simp only [aL,aM,aN,an,aQ] at h1;simp [h1])
  rintro ρ _ ⟨rfl,r0,r5,r6,Bt⟩;simp only [go_sem,simprocAttr,r0,r5,r6,Bt];refine aY rfl (fun hh=>?_) (fun hh=>?_)
  ·simp only [aL,aM,aN,an,aQ] at hh;refine σ ?_;have e:lP b=false:=by
    unfold lP;have:b.data.toList.all (fun c=>decide (32≤c.toNat)&&decide (c.toNat≤126))=false:=by
     rw [List.all_eq_false];refine ⟨c,by rw [← hc];exact List.getElem_mem gz,?_⟩;simp only [Bool.and_eq_true,decide_eq_true_eq];omega
    rw [this];rfl
   rw [e]
  ·simp only [aL,aM,aN,an,aQ] at hh;simp only [go_sem,simprocAttr,e1];refine ⟨_,by omega,i+1,rfl,by omega,fun j hj mG=>?_,rfl⟩;by_cases aiZ:j < i
   ·exact df j hj aiZ
   ·obtain rfl:j=i:=by omega
    rw [hc];omega
 ·have ah:¬ i < b.size:=by simpa using ah
  obtain rfl:i=b.size:=by omega
  refine σ ?_;have e:lP b=(decide ((b.size:Int)≥1)&&decide ((b.size:Int)≤4096)):=by
   unfold lP;have:b.data.toList.all (fun c=>decide (32≤c.toNat)&&decide (c.toNat≤126))=true:=by
    rw [List.all_eq_true];intro c hc;obtain ⟨j,hj,rfl⟩:=List.getElem_of_mem hc;have:=df j hj (by omega);simp only [Bool.and_eq_true,decide_eq_true_eq];exact this
   rw [this,dQ,Bool.true_and]
   congr 1
   ·exact decide_eq_decide.2 (by omega)
   ·exact decide_eq_decide.2 (by omega)
  rw [e];cases h1:decide ((b.size:Int)≥1)<;>simp only [go_sem,simprocAttr,h1,Bool.true_and,Bool.false_and]
theorem ai0 (w:World):aK Tryz.prog 105 [] w fun r w'=>r = .slice (some ⟨w.heap.size,0,none⟩) 7 7∧w'.heap[w.heap.size]? = some (.cells (kB.flatMap fy).toArray 47 (0,0))∧Mod (fun _=>False) w w':=by
 refine agb.calls rfl ?_;unfold LW;refine σ ?_;refine cd (by rfl) (by rfl) ?_;intro w1 ax ag _;refine σ ?_;exact ⟨ax,ag⟩
structure sN (T:bH):Prop where
 gn:T.globals.length≤17592186044416
 sn:T.au.length≤17592186044416
 code:∀ g∈T.globals,g.code.length≤17592186044416
 ai1:∀ g∈T.globals,g.name.size≤4611686018427387904
 ai2:∀ s∈T.au,s.name.size≤4611686018427387904
 xa:∀ g∈T.globals,∀ x∈g.code,x.a≤9223372036854775807
def jX (cu ci:Value):Value:=.agg #[cu,ci]
theorem oe {w:World} {cu ci:Value} {T:bH} {B:Nat→Prop} (h:fM w cu ci T B):(∃ a c,cu = .slice a T.au.length c)∧∃ a c,ci = .slice a T.globals.length c:=by
 obtain ⟨⟨a,c,rfl,_⟩,iv,h2,⟨a',c',rfl,_⟩,_⟩:=h;exact ⟨⟨a,c,by simp⟩,a',c',by simp [h2]⟩
theorem ai3 {T:bH} {i:Nat} (hi:i < T.globals.length):T.gl i=T.globals[i]:=by unfold bH.gl;rw [Int.toNat_natCast,List.getD_eq_getElem?_getD,List.getElem?_eq_getElem hi];rfl
def qU (g:Gl) (cv:Value):Value:=.agg #[.string g.name,I g.arity,cv]
theorem Ec {w:World} {cu ci:Value} {T:bH} {B:Nat→Prop} (h:fM w cu ci T B) {i:Nat} (hi:i < T.globals.length) :
   ∃ ad c cv,ci = .slice (some ad) T.globals.length c∧cH w 3 (.pointer (some (ad.add (i*3))))=some (qU T.globals[i] cv)∧cO w cv 3 (T.globals[i].code.map nR) B:=by
 obtain ⟨ad,c,cv,h1,_,h2,h3,h4,h5⟩:=He h hi;rw [ai3 hi] at h2 h3 h5;exact ⟨ad,c,cv,h1,NH h2 h3 h4,h5⟩
theorem uq {w:World} {v:Value} {sz:Nat} {rows:List (List Value)} {B:Nat→Prop} (h:cO w v sz rows B):∃ a c,v = .slice a rows.length c:=by
 obtain ⟨a,c,e,_⟩:=h;exact ⟨a,c,e⟩
def wi (l:List Gl):Nat:=(l.map (·.code.length)).sum
theorem NO {T:bH}:D9 T=(T.globals.any (fun g=>decide (g.code.length > 8000))||(decide (T.au.length > 2000)||decide (T.globals.length > 2000)||decide ((T.globals.map (·.code.length)).sum > 200000))):=by
 unfold D9;simp only [Bool.or_assoc]
theorem ai4 {w:World} {cu ci:Value} {T:bH} {B:Nat→Prop} (h:fM w cu ci T B) (hT:sN T):aK Tryz.prog 103 [jX cu ci] w fun r w'=>r = .bool (D9 T)∧Mod (fun _=>False) w w':=by
 obtain ⟨⟨aS,cS,rfl⟩,aG,cG,rfl⟩:=oe h;refine af'.calls rfl ?_;unfold LU jX;refine σ ?_;refine cK rfl ?_;intro w1 ax ag cL;simp only [go_sem,simprocAttr,cell_of ax,Value.cells]
 refine dA (fun z ρ w'=>∃ i:Nat,z=T.globals.length - i∧i≤T.globals.length∧Mod (fun _=>False) w w'∧w'.heap[w.heap.size]? = some (.cells #[.slice aS T.au.length cS,.slice aG T.globals.length cG] 25 (0,0))∧(∀ g∈T.globals.take i,g.code.length≤8000) ∧
  ρ=[(1,ptr w.heap.size),(3,I (wi (T.globals.take i):Nat)),(7,.slice aG T.globals.length cG),(8,I T.globals.length),(9,I i)]) T.globals.length ⟨0,rfl,by omega,ag,ax,(fun g hg=>by simp at hg),rfl⟩ ?_
 rintro z ρ w2 ⟨i,rfl,hi,ae,aC,df,rfl⟩;have p8:∀ l:List Gl,(∀ g∈l,g.code.length≤8000)→wi l≤8000*l.length:=by
  intro l
  induction l with
  | nil=>intro _;simp [wi]
  | cons g l ih=>
   intro hl;have h1:=ih (fun g hg=>hl g (by simp [hg]));have h2:=hl g (by simp);unfold wi at h1 ⊢;simp only [List.map_cons,List.sum_cons,List.length_cons];omega
 have dq:=p8 _ df;rw [List.length_take] at dq;unfold U9;refine σ ?_;refine aY rfl (fun ah=>?_) (fun ah=>?_)
 ·have ah:i < T.globals.length:=by simpa using ah
  obtain ⟨ad,c,cv,e',ed,zv⟩:=Ec (h.mod ae (fun _ _ h=>h) (fun _ h=>h)) ah;cases e';obtain ⟨sO,lQ,gH⟩:=uq zv;rw [List.length_map] at gH;have Ed:=hT.gn;have ik:=hT.code _ (List.getElem_mem ah);have b1:(0:Int)≤i∧(i:Int) < T.globals.length:=by omega
  generalize hg:T.globals[i]=g at *;subst gH;simp only [go_sem,simprocAttr,an,bq,b1,ed,qU];refine dk ?_;intro w3 aJ ab _;refine cX (cs:=[.string ⟨#[]⟩,I 0,.slice none 0 0]) rfl rfl aJ rfl rfl (by simp [Value.oneCell']) ?_;intro w4 aH ai _;have du:Mod (fun _=>False) w2 w4:=ab.step ai (fun x U hl=>by subst U;omega);have e1:IntKind.i64.wrap ((wi (T.globals.take i):Int)+g.code.length)=(wi (T.globals.take (i+1)):Nat):=by
   rw [cy (by omega) (by omega),List.take_succ_eq_append_getElem ah,hg];unfold wi;rw [List.map_append,List.sum_append];simp
  have e2:IntKind.i64.wrap ((i:Int)+1)=((i+1:Nat):Int):=by rw [cy (by omega) (by omega)];omega
  simp only [go_sem,simprocAttr,cell_of aH,e1,e2];refine aY rfl (fun h8=>?_) (fun h8=>?_)
  ·simp only [aL,aM,aN,an,aQ] at h8;refine σ ?_;refine ⟨?_,ae.trans du⟩;have:T.globals.any (fun g=>decide (g.code.length > 8000))=true:=List.any_eq_true.2 ⟨g,by rw [← hg];exact List.getElem_mem ah,by simp;omega⟩;rw [NO,this];rfl
  ·simp only [aL,aM,aN,an,aQ] at h8;simp only [go_sem,simprocAttr,e1,e2];refine ⟨_,by omega,i+1,rfl,by omega,ae.trans du,du.at aC (fun h=>h),fun g' de=>?_,rfl⟩;rw [List.take_succ_eq_append_getElem ah,hg] at de;rcases List.mem_append.1 de with h1 | h1
   ·exact df g' h1
   ·obtain rfl:=List.mem_singleton.1 h1;omega
 ·have ah:¬ i < T.globals.length:=by simpa using ah
  obtain rfl:i=T.globals.length:=by omega
  rw [List.take_length] at *;have e0:T.globals.any (fun g=>decide (g.code.length > 8000))=false:=by
   rw [List.any_eq_false];intro g hg;have:=df g hg;simp;omega
  rw [NO,e0,Bool.false_or];have c1:decide (T.au.length > 2000)=decide ((T.au.length:Int) > 2000):=decide_eq_decide.2 (by omega);have c2:decide (T.globals.length > 2000)=decide ((T.globals.length:Int) > 2000):=decide_eq_decide.2 (by omega);have c3:decide ((T.globals.map (·.code.length)).sum > 200000)=decide ((wi T.globals:Int) > 200000):=decide_eq_decide.2 (by unfold wi;omega);rw [c1,c2,c3];cases h1:decide ((T.au.length:Int) > 2000)<;>cases h2:decide ((T.globals.length:Int) > 2000)<;>simp only [go_sem,simprocAttr,cell_of aC,h1,h2,Bool.true_or,Bool.false_or]<;>exact ae
end
section
open Go Go.W
def NP:List Value:=[.string ⟨#[]⟩,I 0,I 0,.string ⟨#[]⟩,I 0,I 0,.string ⟨#[]⟩,I 0,I 0,.string ⟨#[]⟩,I 0,I 0,.string ⟨#[]⟩,I 0,I 0,.string ⟨#[]⟩,I 0,I 0,.string ⟨#[]⟩,I 0,I 0,.string ⟨#[]⟩,I 0,I 0,.string ⟨#[]⟩,I 0,I 0,.string ⟨#[]⟩,I 0,I 0,.string ⟨#[]⟩,I 0,I 0,.string ⟨#[]⟩,I 0,I 0,.string ⟨#[]⟩,I 0,I 0,.string ⟨#[]⟩,I 0,I 0,.string ⟨#[]⟩,I 0,I 0,.string ⟨#[]⟩,I 0,I 0,.string ⟨#[]⟩,I 0,I 0,.string ⟨#[]⟩,I 0,I 0]
def Hm:List Value:=[.string ⟨#[]⟩,I 0,I 0,.string ⟨#[112,117,115,104]⟩,I 1,I 0,.string ⟨#[103,108,111,98]⟩,I 4,I 0,.string ⟨#[105,110,116]⟩,I 3,I 0,.string ⟨#[112,111,112]⟩,I 1,I 0,.string ⟨#[115,108,105,100,101]⟩,I 1,I 0,.string ⟨#[97,112,112,108,121]⟩,I 0,I 0,.string ⟨#[117,112,100,97,116,101]⟩,I 2,I 0,.string ⟨#[97,108,108,111,99]⟩,I 1,I 0,.string ⟨#[112,97,99,107]⟩,I 5,I 0,.string ⟨#[115,112,108,105,116]⟩,I 5,I 0,.string ⟨#[101,118,97,108]⟩,I 0,I 0,.string ⟨#[97,114,105,116,104]⟩,I 6,I 0,.string ⟨#[106,117,109,112]⟩,I 8,I 0,.string ⟨#[116,101,115,116,99,111,110]⟩,I 5,I 8,.string ⟨#[116,101,115,116,105,110,116]⟩,I 3,I 8,.string ⟨#[102,97,105,108]⟩,I 7,I 0,.string ⟨#[117,110,119,105,110,100]⟩,I 0,I 0]
theorem ai5:(Tryz.prog.info? 220).bind (·.zero)=some (.agg NP.toArray):=by kernel_rfl
theorem WY:Tryz.prog.underlying 220=some (.array 18 194):=by kernel_rfl
theorem WZ:gu Tryz.prog 194=some 3:=by kernel_rfl
def W0:List (Nat×Value):=[(0,.agg #[.string ⟨#[]⟩,I 0,I 0]),(1,.agg #[.string ⟨#[112,117,115,104]⟩,I 1,I 0]),(2,.agg #[.string ⟨#[103,108,111,98]⟩,I 4,I 0]),(3,.agg #[.string ⟨#[105,110,116]⟩,I 3,I 0]),(4,.agg #[.string ⟨#[112,111,112]⟩,I 1,I 0]),(5,.agg #[.string ⟨#[115,108,105,100,101]⟩,I 1,I 0]),(6,.agg #[.string ⟨#[97,112,112,108,121]⟩,I 0,I 0]),(7,.agg #[.string ⟨#[117,112,100,97,116,101]⟩,I 2,I 0]),(8,.agg #[.string ⟨#[97,108,108,111,99]⟩,I 1,I 0]),(9,.agg #[.string ⟨#[112,97,99,107]⟩,I 5,I 0]),(10,.agg #[.string ⟨#[115,112,108,105,116]⟩,I 5,I 0]),(11,.agg #[.string ⟨#[101,118,97,108]⟩,I 0,I 0]),(12,.agg #[.string ⟨#[97,114,105,116,104]⟩,I 6,I 0]),(13,.agg #[.string ⟨#[106,117,109,112]⟩,I 8,I 0]),(14,.agg #[.string ⟨#[116,101,115,116,99,111,110]⟩,I 5,I 8]),(15,.agg #[.string ⟨#[116,101,115,116,105,110,116]⟩,I 3,I 8]),(16,.agg #[.string ⟨#[102,97,105,108]⟩,I 7,I 0]),(17,.agg #[.string ⟨#[117,110,119,105,110,100]⟩,I 0,I 0])]
theorem ai6:Instr.fill (fun i=>some (i*3,3)) (Value.agg NP.toArray).cells W0=some Hm.toArray:=by kernel_rfl
theorem ai7:∀ u∈Hm,u.oneCell'=true:=by decide
theorem ai8 {w:World} {b:Nat} (h:w.heap[b]? = some (.cells Hm.toArray 220 (0,0))) {o:Nat} (ho:1≤o∧o≤17):∃ s a b',uo (o:Int)=some (a,b')∧0≤a∧a≤8∧0≤b'∧b'≤8∧cH w 3 (.pointer (some ⟨b,o*3,none⟩))=some (.agg #[.string s,I a,I b']):=by
 have hl:Hm.length=54:=rfl;have:=dM (off:=o*3) (n:=3) h (by rw [hl];omega);rcases DS ho with rfl | rfl | rfl | rfl | rfl | rfl | rfl | rfl | rfl | rfl | rfl | rfl | rfl | rfl | rfl | rfl | rfl<;>exact ⟨_,_,_,rfl,by decide,by decide,by decide,by decide,this⟩
theorem ai9 {op:Int} (h:op < 1∨op≥18):uo op=none:=by
 unfold uo
 repeat rw [if_neg (by omega)]
theorem ai' (w:World) (op:Int):aK Tryz.prog 147 [I op] w fun r w'=>(∃ s a b,r = .tuple #[.agg #[.string s,I a,I b],.bool (uo op).isSome]∧(∀ p,uo op=some p→p=(a,b)∧0≤a∧a≤8∧0≤b∧b≤8))∧Mod (fun _=>False) w w':=by
 refine agI.calls rfl ?_;unfold Mv;refine σ ?_;refine dk ?_;intro w1 ax ag _;refine σ ?_;refine aiX (vs:=W0) WY ai5 WZ (by rfl) ai6 ?_;refine σ ?_;refine dk ?_;intro w2 aC ae _;refine cX (cs:=NP) rfl rfl aC rfl rfl ai7 ?_;intro w3 aJ ab _;have l1:=lt_of_heap ax;have dZ:Mod (fun _=>False) w1 w3:=ae.step ab (fun x U hl=>by subst U;omega);have fT:=dZ.at ax (fun h=>h);refine σ ?_;refine iG (fun ρ w'=>w3=w'∧ρ.get 0=some (I op)∧ρ.get 2=some (ptr w.heap.size)∧ρ.get 4=some (ptr w1.heap.size)∧ρ.get 29=some (.bool (decide (op < 1∨op≥18)))) ?_ ?_
 ·cases h1:decide (op < 1)<;>simp only [go_sem,simprocAttr,h1]<;>(simp only [aL,aM,aN,an,aQ] at h1;simp [h1])
 rintro ρ _ ⟨rfl,r0,r2,r4,r29⟩;simp only [go_sem,simprocAttr,r0,r2,r4,r29];refine aY rfl (fun hh=>?_) (fun hh=>?_)
 ·simp only [aL,aM,aN,an,aQ] at hh;simp only [go_sem,simprocAttr,ptr];refine cX (cs:=[.string ⟨#[]⟩,I 0,I 0]) rfl rfl fT rfl rfl (by simp [Value.oneCell']) ?_;intro w4 aH ai _;simp only [go_sem,simprocAttr,dM (cs:=[_,_,_]) (off:=0) (n:=3) aH (by simp)];rw [ai9 hh];exact ⟨⟨_,_,_,rfl,fun p hp=>by cases hp⟩,(ag.trans dZ).step ai (fun x U hl=>by subst U;omega)⟩
 ·simp only [aL,aM,aN,an,aQ] at hh;obtain ⟨o,ho⟩:∃ o:Nat,op=o:=⟨op.toNat,by omega⟩;subst ho;obtain ⟨s,a,b,hf,nI,Ee,fY,iI,ed⟩:=ai8 aJ (o:=o) (by omega);simp only [go_sem,simprocAttr,ptr];refine aiY WY WZ (by rfl) (by rfl) (j:=(o:Int)) ⟨by omega,by omega⟩ ?_;simp only [go_sem,simprocAttr,an,bq,dB,ed];refine cX (cs:=[.string ⟨#[]⟩,I 0,I 0]) rfl rfl fT rfl rfl (by simp [Value.oneCell']) ?_;intro w4 aH ai _;simp only [go_sem,simprocAttr,dM (cs:=[_,_,_]) (off:=0) (n:=3) aH (by simp)];rw [hf];exact ⟨⟨_,_,_,rfl,fun p hp=>by cases hp;exact ⟨rfl,nI,Ee,fY,iI⟩⟩,(ag.trans dZ).step ai (fun x U hl=>by subst U;omega)⟩
theorem W4 {w:World} {b:Nat} {D:List Int} (hb:w.heap[b]? = some (.cells (D.map I).toArray 3 (0,0))) {a d:Int} (ha:0≤a∧a < D.length) :
   aK Tryz.prog 150 [.slice (some ⟨b,0,none⟩) D.length D.length,I a,I d] w fun r w'=>r = .bool (decide ((iN D a d).getD a.toNat 0=d))∧w'.heap[b]? = some (.cells ((iN D a d).map I).toArray 3 (0,0))∧Mod (· = b) w w':=by
 obtain ⟨i,rfl⟩:∃ i:Nat,a=i:=⟨a.toNat,by omega⟩;rw [Int.toNat_natCast];have hi:i < D.length:=by omega
 have hc:=u9 hb hi;refine agL.calls rfl ?_;unfold My;simp only [go_sem,simprocAttr,an,bq,ha,dB,hc];have hr:∀ (D':List Int) (w':World),D'.length=D.length→w'.heap[b]? = some (.cells (D'.map I).toArray 3 (0,0))→w'.cell? ⟨b,i,none⟩=some (I (D'.getD i 0)):=fun D' w' hl h=>u9 h (by omega)
 have W5:∀ y:Int,(y == d)=decide (y=d):=fun y=>by by_cases h:y=d<;>simp [h]
 refine aY rfl (fun hz=>?_) (fun hz=>?_)
 ·simp only [aL,aM,aN,an,aQ] at hz;have hN:iN D i d=D.set i d:=by unfold iN;rw [Int.toNat_natCast,if_pos hz]
  rw [hN];simp only [go_sem,simprocAttr,an,bq,ha,dB];refine bY (off:=i) rfl rfl hb rfl (by simpa using hi) ?_;intro w1 ax ag _;have fY:w1.heap[b]? = some (.cells ((D.set i d).map I).toArray 3 (0,0)):=by rw [ax,List.map_set]
  have cY:=hr _ _ (by simp) fY;simp only [go_sem,simprocAttr,an,bq,ha,dB,cY,W5];exact ⟨fY,ag⟩
 ·simp only [aL,aM,aN,an,aQ] at hz;have hN:iN D i d=D:=by unfold iN;rw [Int.toNat_natCast,if_neg hz]
  rw [hN];simp only [go_sem,simprocAttr,an,bq,ha,dB,hc,W5];exact ⟨hb,Mod.refl _ _⟩
end
section
open Go Go.W
theorem kU (a b:Int):(a == b)=decide (a=b):=by by_cases h:a=b<;>simp [h]
theorem W6 {w:World} {cu ci:Value} {T:bH} {B:Nat→Prop} (h:fM w cu ci T B) {g:Gl} {ac:Option Addr} {cc:Nat} (i:Nat) (n:Int) {kind:Int} (hk:0≤kind∧kind≤8) :
   aK Tryz.prog 148 [jX cu ci,qU g (.slice ac g.code.length cc),I i,I n,I kind] w fun r w'=>r=I (kT T g.code.length i n kind)∧Mod (fun _=>False) w w':=by
 obtain ⟨⟨aS,cS,rfl⟩,aG,cG,rfl⟩:=oe h;refine agJ.calls rfl ?_;unfold Mw jX qU;refine φ ?_;refine cK rfl ?_;intro w1 ax ag _;refine φ ?_;refine cK rfl ?_;intro w2 aC ae _;have dC:=ae.at ax (fun h=>h);have cq:=ag.trans ae;refine φ ?_;refine Dy (fun ρ w'=>w2=w'∧((kind≠8∧ρ.get 11=some (.bool (p5 T n kind)))∨(kind=8∧kT T g.code.length i n kind=0∧ρ.get 11=some (.bool true)))) ?_ ?_
 ·refine aY rfl (fun oM=>?_) (fun oM=>?_)
  ·simp only [aL,aM,aN,an,aQ] at oM;subst oM;refine φ ?_;exact .inl ⟨by decide,by rw [kU];rfl⟩
  simp only [aL,aM,aN,an,aQ] at oM;refine φ ?_;refine aY rfl (fun eQ=>?_) (fun eQ=>?_)
  ·simp only [aL,aM,aN,an,aQ] at eQ;subst eQ;refine φ ?_;exact .inl ⟨by decide,rfl⟩
  simp only [aL,aM,aN,an,aQ] at eQ;refine φ ?_;refine aY rfl (fun eT=>?_) (fun eT=>?_)
  ·simp only [aL,aM,aN,an,aQ] at eT;subst eT;refine φ ?_;exact .inl ⟨by decide,rfl⟩
  simp only [aL,aM,aN,an,aQ] at eT;refine φ ?_;refine aY rfl (fun mg=>?_) (fun mg=>?_)
  ·simp only [aL,aM,aN,an,aQ] at mg;subst mg;have e:p5 T n 3=decide (n ≥ -4611686018427387904∧n≤4611686018427387903):=rfl;rw [e];cases h1:decide (n ≥ -4611686018427387904)<;>simp only [go_sem,Nat.reduceAdd,Nat.reduceEqDiff,Nat.reduceLT,Nat.reduceLeDiff,Nat.reduceMul,reduceCtorEq,↓reduceIte,h1]<;>(simp only [aL,aM,aN,an,aQ] at h1;simp [h1])
  simp only [aL,aM,aN,an,aQ] at mg;refine φ ?_;refine aY rfl (fun sD=>?_) (fun sD=>?_)
  ·simp only [aL,aM,aN,an,aQ] at sD;subst sD;have e:p5 T n 4=decide (n≥0∧n < T.globals.length):=rfl;rw [e];cases h1:decide (n≥0)<;>simp only [go_sem,Nat.reduceAdd,Nat.reduceEqDiff,Nat.reduceLT,Nat.reduceLeDiff,Nat.reduceMul,reduceCtorEq,↓reduceIte,h1,cell_of dC,Value.cells]<;>(simp only [aL,aM,aN,an,aQ] at h1;simp [h1])
  simp only [aL,aM,aN,an,aQ] at sD;refine φ ?_;refine aY rfl (fun xA=>?_) (fun xA=>?_)
  ·simp only [aL,aM,aN,an,aQ] at xA;subst xA;have e:p5 T n 5=decide (n≥0∧n < T.au.length):=rfl;rw [e];cases h1:decide (n≥0)<;>simp only [go_sem,Nat.reduceAdd,Nat.reduceEqDiff,Nat.reduceLT,Nat.reduceLeDiff,Nat.reduceMul,reduceCtorEq,↓reduceIte,h1,cell_of dC,Value.cells]<;>(simp only [aL,aM,aN,an,aQ] at h1;simp [h1])
  simp only [aL,aM,aN,an,aQ] at xA;refine φ ?_;refine aY rfl (fun Hn=>?_) (fun Hn=>?_)
  ·simp only [aL,aM,aN,an,aQ] at Hn;subst Hn;have e:p5 T n 6=decide (n≥1∧n≤11):=rfl;rw [e];cases h1:decide (n≥1)<;>simp only [go_sem,Nat.reduceAdd,Nat.reduceEqDiff,Nat.reduceLT,Nat.reduceLeDiff,Nat.reduceMul,reduceCtorEq,↓reduceIte,h1]<;>(simp only [aL,aM,aN,an,aQ] at h1;simp [h1])
  simp only [aL,aM,aN,an,aQ] at Hn;refine φ ?_;refine aY rfl (fun Ho=>?_) (fun Ho=>?_)
  ·simp only [aL,aM,aN,an,aQ] at Ho;subst Ho;have e:p5 T n 7=decide (n≥1∧n≤4):=rfl;rw [e];cases h1:decide (n≥1)<;>simp only [go_sem,Nat.reduceAdd,Nat.reduceEqDiff,Nat.reduceLT,Nat.reduceLeDiff,Nat.reduceMul,reduceCtorEq,↓reduceIte,h1]<;>(simp only [aL,aM,aN,an,aQ] at h1;simp [h1])
  simp only [aL,aM,aN,an,aQ] at Ho;refine φ ?_;refine aY rfl (fun zy=>?_) (fun zy=>?_)
  ·simp only [aL,aM,aN,an,aQ] at zy;subst zy;have e:kT T g.code.length i n 8=if n≤i∨n≥g.code.length then 174 else 0:=rfl
   refine φ ?_;refine iG (fun ρ w'=>w2=w'∧ρ.get 11=some (.bool true)∧ρ.get 82=some (.bool (decide (n≤i∨n≥g.code.length)))) ?_ ?_
   ·cases h1:decide (n≤(i:Int))<;>simp only [go_sem,Nat.reduceAdd,Nat.reduceEqDiff,Nat.reduceLT,Nat.reduceLeDiff,Nat.reduceMul,reduceCtorEq,↓reduceIte,h1,cell_of aC,Value.cells]<;>(simp only [aL,aM,aN,an,aQ] at h1;simp [h1])
   rintro ρ _ ⟨rfl,lS,r82⟩;simp only [go_sem,Nat.reduceAdd,Nat.reduceEqDiff,Nat.reduceLT,Nat.reduceLeDiff,Nat.reduceMul,reduceCtorEq,↓reduceIte,lS,r82];refine aY rfl (fun hh=>?_) (fun hh=>?_)
   ·simp only [aL,aM,aN,an,aQ] at hh;rw [if_pos hh] at e;refine φ ?_;rw [e];exact ⟨rfl,cq⟩
   ·simp only [aL,aM,aN,an,aQ] at hh;rw [if_neg hh] at e;refine φ ?_;exact .inr e
  ·simp only [aL,aM,aN,an,aQ] at zy;omega
 rintro ρ _ ⟨rfl,hr⟩;rcases hr with ⟨zy,lS⟩ | ⟨zy,e,lS⟩
 ·have e:kT T g.code.length i n kind=if p5 T n kind=true then 0 else 172:=by unfold kT;rw [if_neg zy]
  rw [e];simp only [go_sem,Nat.reduceAdd,Nat.reduceEqDiff,Nat.reduceLT,Nat.reduceLeDiff,Nat.reduceMul,reduceCtorEq,↓reduceIte,lS];cases hb:p5 T n kind
  ·simp only [go_sem,Nat.reduceAdd,Nat.reduceEqDiff,Nat.reduceLT,Nat.reduceLeDiff,Nat.reduceMul,reduceCtorEq,↓reduceIte,Bool.not_false];exact cq
  ·simp only [go_sem,Nat.reduceAdd,Nat.reduceEqDiff,Nat.reduceLT,Nat.reduceLeDiff,Nat.reduceMul,reduceCtorEq,↓reduceIte,Bool.not_true];exact cq
 ·rw [e];simp only [go_sem,Nat.reduceAdd,Nat.reduceEqDiff,Nat.reduceLT,Nat.reduceLeDiff,Nat.reduceMul,reduceCtorEq,↓reduceIte,lS,Bool.not_true];exact cq
end
section
open Go Go.W
set_option maxHeartbeats 1000000 in
theorem aja {w:World} {cu ci:Value} {T:bH} {B:Nat→Prop} (h:fM w cu ci T B) (kz:∀ s∈T.au,0≤s.fields∧s.fields≤8) {x:Ins} {len i:Nat} (U:zn T len i x) (mC:x.a≤9223372036854775807) {d:Int} (hd:0≤d∧d≤8000) :
   aK Tryz.prog 149 [jX cu ci,hU x,I d] w fun r w'=>r = .tuple #[I (bh T x d).2,.bool ((bh T x d).1&&decide ((bh T x d).2≤8000))]∧Mod (fun _=>False) w w':=by
 obtain ⟨⟨aS,cS,rfl⟩,aG,cG,rfl⟩:=oe h;refine agK.calls rfl ?_;unfold Mx jX hU;refine σ ?_;refine cK rfl ?_;intro w1 ax ag _;refine σ ?_;refine cK rfl ?_;intro w2 aC ae _;have dC:=ae.at ax (fun h=>h);have cq:=ag.trans ae;have apn:=cq.drew;have h2:=h.mod cq (fun _ _ h=>h) (fun _ h=>h);have o1:=U.o1;have o2:=U.o2;have hop:x.op=1∨x.op=2∨x.op=3∨x.op=4∨x.op=5∨x.op=6∨x.op=7∨x.op=8∨x.op=9∨x.op=10∨x.op=11∨x.op=12∨x.op=13∨x.op=14∨x.op=15∨x.op=16∨x.op=17:=by omega
 have e1:IntKind.i64.wrap (d+1)=d+1:=cy (by omega) (by omega);have e2:IntKind.i64.wrap (d - 1)=d - 1:=cy (by omega) (by omega);have fin:∀ (b:Bool) (s:Int),bh T x d=(b,s)→∀ w',Mod (fun _=>False) w w'→(b&&decide (s≤8000))=(b&&decide (s≤8000)):=fun _ _ _ _ _=>rfl
 have W7:x.op=9∨x.op=10→∃ (j:Nat) (ad:Addr) (c:Nat),x.a=j∧aS=some ad∧(0:Int)≤j∧(j:Int) < T.au.length∧w2.cell? ⟨(ad.add (j*2)).block,(ad.add (j*2)).off+1,none⟩=some (I (T.sh x.a).fields)∧0≤(T.sh x.a).fields∧(T.sh x.a).fields≤8:=by
  intro ho;have hc:=U.c9 (by omega);obtain ⟨j,hj⟩:∃ j:Nat,x.a=j:=⟨x.a.toNat,by omega⟩;obtain ⟨ad,c,e,_,hf⟩:=DD h2 (i:=j) (by omega);cases e;refine ⟨j,ad,cS,hj,rfl,by omega,by omega,by rw [hj];exact hf,?_⟩;have:T.sh x.a∈T.au:=by
   unfold bH.sh;rw [List.getD_eq_getElem?_getD,List.getElem?_eq_getElem (by omega)];exact List.getElem_mem _
  exact kz _ this
 rcases hop with hop | hop | hop | hop | hop | hop | hop | hop | hop | hop | hop | hop | hop | hop | hop | hop | hop
 ·have e:bh T x d=(decide (x.a < d),d+1):=by simp [bh,hop]
  rw [e];simp only [go_sem,simprocAttr,cell_of aC,Value.cells,hop,Int.reduceBEq,e1];cases h1:decide (x.a < d)<;>simp only [go_sem,simprocAttr,h1,Bool.true_and,Bool.false_and]<;>exact cq
 ·have e:bh T x d=(true,d+1):=by simp [bh,hop]
  rw [e];simp only [go_sem,simprocAttr,cell_of aC,Value.cells,hop,Int.reduceBEq,e1,Bool.true_and];exact cq
 ·have e:bh T x d=(true,d+1):=by simp [bh,hop]
  rw [e];simp only [go_sem,simprocAttr,cell_of aC,Value.cells,hop,Int.reduceBEq,e1,Bool.true_and];exact cq
 ·have Ct:=U.c1 (by omega);have e3:IntKind.i64.wrap (d - x.a)=d - x.a:=cy (by omega) (by omega);have e:bh T x d=(if x.op=4 then decide (x.a < d) else decide (x.a < d - 1),d - x.a):=by simp [bh,hop]
  rw [e,hop];simp only [go_sem,simprocAttr,cell_of aC,Value.cells,hop,Int.reduceBEq,e2,e3,Int.reduceEq];cases h1:decide (x.a < d)<;>cases h2:decide (x.a < d - 1)<;>simp only [go_sem,simprocAttr,h1,h2,Bool.true_and,Bool.false_and]<;>exact cq.drew
 ·have Ct:=U.c1 (by omega);have e3:IntKind.i64.wrap (d - x.a)=d - x.a:=cy (by omega) (by omega);have e:bh T x d=(if x.op=4 then decide (x.a < d) else decide (x.a < d - 1),d - x.a):=by simp [bh,hop]
  rw [e,hop];simp only [go_sem,simprocAttr,cell_of aC,Value.cells,hop,Int.reduceBEq,e2,e3,Int.reduceEq];cases h1:decide (x.a < d)<;>cases h2:decide (x.a < d - 1)<;>simp only [go_sem,simprocAttr,h1,h2,Bool.true_and,Bool.false_and]<;>exact cq.drew
 ·have e:bh T x d=(decide (d > 2),d - 1):=by simp [bh,hop]
  rw [e];simp only [go_sem,simprocAttr,cell_of aC,Value.cells,hop,Int.reduceBEq,e2];cases h1:decide (d > 2)<;>simp only [go_sem,simprocAttr,h1,Bool.true_and,Bool.false_and]<;>exact cq
 ·have e:bh T x d=(decide (x.a < d),d - 1):=by simp [bh,hop]
  rw [e];simp only [go_sem,simprocAttr,cell_of aC,Value.cells,hop,Int.reduceBEq,e2];cases h1:decide (x.a < d)<;>simp only [go_sem,simprocAttr,h1,Bool.true_and,Bool.false_and]<;>exact cq
 ·have Ct:=U.c1 (by omega);have e:bh T x d=(decide (x.a≤8000),d+min x.a 8000):=by simp [bh,hop]
  have e3:IntKind.i64.wrap (d+min x.a 8000)=d+min x.a 8000:=cy (by omega) (by omega);rw [e];have I3:(if 8000 < x.a then 8000 else x.a)=min x.a 8000:=by split<;>omega
  simp only [go_sem,simprocAttr,cell_of aC,Value.cells,hop,Int.reduceBEq,I3,e3];cases h1:decide (x.a≤8000)<;>simp only [go_sem,simprocAttr,h1,Bool.true_and,Bool.false_and]<;>exact cq.drew
 ·obtain ⟨j,ad,c,hj,rfl,b1,b2,hf,f1,f2⟩:=W7 (.inl hop);have e:bh T x d=(decide ((T.sh x.a).fields < d),d - (T.sh x.a).fields+1):=by simp [bh,hop]
  have e3:IntKind.i64.wrap (d - (T.sh x.a).fields)=d - (T.sh x.a).fields:=cy (by omega) (by omega);have e4:IntKind.i64.wrap (d - (T.sh x.a).fields+1)=d - (T.sh x.a).fields+1:=cy (by omega) (by omega);have b3:(0:Int)≤j∧(j:Int) < T.au.length:=⟨b1,b2⟩;rw [e];generalize (T.sh x.a).fields=q at *;simp only [go_sem,simprocAttr,an,bq,cell_of aC,cell_of dC,Value.cells,hop,hj,Int.reduceBEq,b3,hf,e3,e4];cases h1:decide (q < d)<;>simp only [go_sem,simprocAttr,h1,Bool.true_and,Bool.false_and]<;>exact cq
 ·obtain ⟨j,ad,c,hj,rfl,b1,b2,hf,f1,f2⟩:=W7 (.inr hop);have e:bh T x d=(decide (d > 1),d - 1+(T.sh x.a).fields):=by simp [bh,hop]
  have e3:IntKind.i64.wrap (d - 1+(T.sh x.a).fields)=d - 1+(T.sh x.a).fields:=cy (by omega) (by omega);have b3:(0:Int)≤j∧(j:Int) < T.au.length:=⟨b1,b2⟩;rw [e];generalize (T.sh x.a).fields=q at *;simp only [go_sem,simprocAttr,an,bq,cell_of aC,cell_of dC,Value.cells,hop,hj,Int.reduceBEq,b3,hf,e2,e3];cases h1:decide (d > 1)<;>simp only [go_sem,simprocAttr,h1,Bool.true_and,Bool.false_and]<;>exact cq.drew
 ·have e:bh T x d=(decide (d > 1),d):=by simp [bh,hop]
  rw [e];simp only [go_sem,simprocAttr,cell_of aC,Value.cells,hop,Int.reduceBEq];cases h1:decide (d > 1)<;>simp only [go_sem,simprocAttr,h1,Bool.true_and,Bool.false_and]<;>exact cq
 ·have e:bh T x d=(decide (d > 2),d - 1):=by simp [bh,hop]
  rw [e];simp only [go_sem,simprocAttr,cell_of aC,Value.cells,hop,Int.reduceBEq,e2];cases h1:decide (d > 2)<;>simp only [go_sem,simprocAttr,h1,Bool.true_and,Bool.false_and]<;>exact cq
 ·have e:bh T x d=(true,d):=by simp [bh,hop]
  rw [e];simp only [go_sem,simprocAttr,cell_of aC,Value.cells,hop,Int.reduceBEq,Bool.true_and];exact cq
 ·have e:bh T x d=(decide (d > 1),d):=by simp [bh,hop]
  rw [e];simp only [go_sem,simprocAttr,cell_of aC,Value.cells,hop,Int.reduceBEq];cases h1:decide (d > 1)<;>simp only [go_sem,simprocAttr,h1,Bool.true_and,Bool.false_and]<;>exact cq
 ·have e:bh T x d=(decide (d > 1),d):=by simp [bh,hop]
  rw [e];simp only [go_sem,simprocAttr,cell_of aC,Value.cells,hop,Int.reduceBEq];cases h1:decide (d > 1)<;>simp only [go_sem,simprocAttr,h1,Bool.true_and,Bool.false_and]<;>exact cq
 ·have e:bh T x d=(true,d):=by simp [bh,hop]
  rw [e];simp only [go_sem,simprocAttr,cell_of aC,Value.cells,hop,Int.reduceBEq,Bool.true_and];exact cq
 ·have e:bh T x d=(decide (d=1),d):=by simp [bh,hop]
  rw [e,← kU];simp only [go_sem,simprocAttr,cell_of aC,Value.cells,hop,Int.reduceBEq];cases h1:(d == 1)<;>simp only [go_sem,simprocAttr,h1,Bool.true_and,Bool.false_and]<;>exact cq
end
section
open Go Go.W
theorem W8 {g:Gl} {i:Nat} (hi:i < g.code.length):g.ins i=g.code[i]:=by unfold Gl.ins;rw [Int.toNat_natCast,List.getD_eq_getElem?_getD,List.getElem?_eq_getElem hi];rfl
theorem ajb (T:bH) (len:Nat) (code:List Ins) {i:Nat} (hi:i < code.length):p6 T len i (code.drop i)=if sK T len i code[i]=0 then p6 T len (i+1) (code.drop (i+1)) else sK T len i code[i]:=by
 rw [List.drop_eq_getElem_cons hi];rfl
theorem ajc (T:bH) (len:Nat) (code:List Ins) (D:List Int) {i:Nat} (hi:i < code.length):sL T len i (code.drop i) D=if xT T len i code[i] D=0 then sL T len (i+1) (code.drop (i+1)) (jM T D i code[i]) else xT T len i code[i] D:=by
 rw [List.drop_eq_getElem_cons hi];rfl
section
variable {w:World} {cu ci cv:Value} {T:bH} {g:Gl} {B:Nat→Prop}
theorem ajd (h:fM w cu ci T B) (gH:cO w cv 3 (g.code.map nR) B) (ik:g.code.length≤8000) {b2 b3:Nat} (aC:w.heap[b2]? = some (.cells #[cu,ci] 25 (0,0))) (aJ:w.heap[b3]? = some (.cells #[.string g.name,I g.arity,cv] 59 (0,0)))
   {Q:gI} (ml:∀ e w',e≠0→p6 T g.code.length 0 g.code=e→Mod (fun _=>False) w w'→Q .ret [(4,I e)] w')
   (fi:∀ w',p6 T g.code.length 0 g.code=0→Mod (fun _=>False) w w'→∀ t,Q .normal [(2,ptr b2),(3,ptr b3),(20,cv),(21,I g.code.length),(22,I g.code.length),(23,t)] w') :
   cM Tryz.prog 152 (.block 0 (.loop LX)) Q [(2,ptr b2),(3,ptr b3),(20,cv),(21,I g.code.length),(22,I 0)] w:=by
 obtain ⟨⟨aS,cS,rfl⟩,aG,cG,rfl⟩:=oe h;obtain ⟨sO,lQ,rfl⟩:=uq gH;rw [List.length_map] at *;refine σ ?_
 refine dA (fun z ρ w'=>∃ i:Nat,z=g.code.length - i∧i≤g.code.length∧Mod (fun _=>False) w w'∧p6 T g.code.length 0 g.code=p6 T g.code.length i (g.code.drop i) ∧
  ρ=[(2,ptr b2),(3,ptr b3),(20,.slice sO g.code.length lQ),(21,I g.code.length),(22,I i)]) g.code.length ⟨0,rfl,by omega,Mod.refl _ _,rfl,rfl⟩ ?_
 rintro z ρ w2 ⟨i,rfl,hi,ae,eW,rfl⟩;have iI:=ae.at aC (fun h=>h);have js:=ae.at aJ (fun h=>h);unfold LX;refine σ ?_;refine aY rfl (fun ah=>?_) (fun ah=>?_)
 ·have ah:i < g.code.length:=by simpa using ah
  have h2:=h.mod ae (fun _ _ h=>h) (fun _ h=>h);obtain ⟨ad,c,e',_,ed⟩:=NI (gH.mod ae (fun _ _ h=>h) (fun _ h=>h)) ah;cases e';rw [W8 ah] at ed;have sP:=ajb T g.code.length g.code ah;generalize U:g.code[i]=x at *;have b1:(0:Int)≤i∧(i:Int) < g.code.length:=by omega
  simp only [go_sem,simprocAttr,an,bq,b1,ed,hU];refine dk ?_;intro w3 sQ ab _;refine cX (cs:=[I 0,I 0,I 0]) rfl rfl sQ rfl rfl (by simp [Value.oneCell']) ?_;intro w4 aH ai _;have du:Mod (fun _=>False) w2 w4:=ab.step ai (fun x U hl=>by subst U;omega);simp only [go_sem,simprocAttr,cell_of aH];refine δ (by rfl) (ai' w4 x.op) ?_;rintro _ w5 ⟨⟨s,a,b,rfl,hf⟩,aB⟩;refine σ ?_;refine dk ?_;intro w6 cN aD _;refine cX (cs:=[.string ⟨#[]⟩,I 0,I 0]) rfl rfl cN rfl rfl (by simp [Value.oneCell']) ?_;intro w7 cm aX _;have lI:Mod (fun _=>False) w5 w7:=aD.step aX (fun x U hl=>by subst U;omega);have wj:=(du.trans aB).trans lI;have jV:=ae.trans wj;refine σ ?_;cases oC:uo x.op with
  | none=>
   have e:sK T g.code.length i x=172:=by unfold sK;rw [oC]
   simp only [go_sem,simprocAttr,Option.isSome_none,Bool.not_false];exact ml 172 _ (by decide) (by rw [eW,sP,e];rfl) jV
  | some p=>
   obtain ⟨rfl,a1,a2,og,SN⟩:=hf p oC;have e:sK T g.code.length i x=if kT T g.code.length i x.a a=172∨kT T g.code.length i x.b b=172 then 172 else if kT T g.code.length i x.a a≠0∨kT T g.code.length i x.b b≠0 then 174 else 0:=by unfold sK;rw [oC]
   have AS:=wj.at iI (fun h=>h);have W9:=wj.at js (fun h=>h);have Hh:=(aB.trans lI).at aH (fun h=>h);have h7:=h.mod jV.drew (fun _ _ h=>h) (fun _ h=>h);have aje:w7.drew.heap[b2]? = _:=AS;have ajf:w7.drew.heap[b3]? = _:=W9;have fX:=dM (cs:=[_,_]) (off:=0) (n:=2) aje (by simp);have vJ:=dM (cs:=[_,_,_]) (off:=0) (n:=3) ajf (by simp);simp only [go_sem,simprocAttr,Option.isSome_some,Bool.not_true,fX,vJ,cell_of Hh,cell_of cm];refine δ (by rfl) (W6 (g:=g) h7 i x.a (kind:=a) ⟨a1,a2⟩) ?_;rintro _ w8 ⟨rfl,ch⟩;have k1:=ch.old b2 (lt_of_heap AS) (fun h=>h);have k2:=ch.old b3 (lt_of_heap W9) (fun h=>h);have k3:=ch.old w2.heap.size (lt_of_heap Hh) (fun h=>h);have k4:=ch.old w5.heap.size (lt_of_heap cm) (fun h=>h);refine σ ?_;refine ⟨by simp only [il,k1,k2,k3,k4,and_self,implies_true],?_⟩;refine δ (by rfl) (W6 (g:=g) (h7.mod ch (fun _ _ h=>h) (fun _ h=>h)) i x.b (kind:=b) ⟨og,SN⟩) ?_;rintro _ w9 ⟨rfl,dO⟩;have ajg:Mod (fun _=>False) w7 w9:=(ch.dj).trans dO;have vv:=jV.trans ajg;generalize kT T g.code.length i x.a a=n1 at *;generalize kT T g.code.length i x.b b=n2 at *;refine σ ?_;refine iG (fun ρ w'=>w9=w'∧ρ.get 2=some (ptr b2)∧ρ.get 3=some (ptr b3)∧ρ.get 9=some (I n1)∧ρ.get 10=some (I n2)∧ρ.get 20=some (.slice (some ad) g.code.length lQ)∧ρ.get 21=some (I g.code.length)∧ρ.get 22=some (I i)∧ρ.get 56=some (.bool (decide (n1=172∨n2=172)))) ?_ ?_
   ·cases h1:(n1 == 172)<;>simp only [go_sem,simprocAttr,h1]<;>(rw [kU] at h1;simp only [aL,aM,aN,an,aQ] at h1;simp [h1,kU])
   rintro ρ _ ⟨rfl,r2,r3,r9,pS,NQ,NR,NS,r56⟩;simp only [go_sem,simprocAttr,r2,r3,r9,pS,NQ,NR,NS,r56];refine aY rfl (fun Ef=>?_) (fun Ef=>?_)
   ·simp only [aL,aM,aN,an,aQ] at Ef;rw [if_pos Ef] at e;refine σ ?_;exact ml 172 _ (by decide) (by rw [eW,sP,e];rfl) vv
   simp only [aL,aM,aN,an,aQ] at Ef;rw [if_neg Ef] at e;refine σ ?_;refine iG (fun ρ w'=>w9=w'∧ρ.get 2=some (ptr b2)∧ρ.get 3=some (ptr b3)∧ρ.get 20=some (.slice (some ad) g.code.length lQ)∧ρ.get 21=some (I g.code.length)∧ρ.get 22=some (I i)∧ρ.get 62=some (.bool (decide (n1≠0∨n2≠0)))) ?_ ?_
   ·cases h1:(n1 != 0)<;>simp only [go_sem,simprocAttr,h1]<;>(simp only [aL,aM,aN,an,aQ] at h1;simp [h1,bne,kU])
   rintro ρ _ ⟨rfl,r2,r3,NQ,NR,NS,r62⟩;simp only [go_sem,simprocAttr,r2,r3,NQ,NR,NS,r62];refine aY rfl (fun h0=>?_) (fun h0=>?_)
   ·simp only [aL,aM,aN,an,aQ] at h0;rw [if_pos h0] at e;refine σ ?_;exact ml 174 _ (by decide) (by rw [eW,sP,e];rfl) vv
   ·simp only [aL,aM,aN,an,aQ] at h0;rw [if_neg h0] at e;have e1:IntKind.i64.wrap ((i:Int)+1)=((i+1:Nat):Int):=by rw [cy (by omega) (by omega)];omega
    simp only [go_sem,simprocAttr,e1];exact ⟨_,by omega,i+1,rfl,by omega,vv,by rw [eW,sP,e];rfl,rfl⟩
 ·have ah:¬ i < g.code.length:=by simpa using ah
  obtain rfl:i=g.code.length:=by omega
  refine σ ?_;refine fi w2 ?_ ae _;rw [eW,List.drop_length];rfl
end
end
section
open Go Go.W
def zz (D:List Int):Prop:=∀ k:Nat,0≤D.getD k 0∧D.getD k 0≤8000
theorem Xa {D:List Int} (h:zz D) (a:Int) {d:Int} (hd:0≤d∧d≤8000):zz (iN D a d):=by
 intro k;unfold iN
 split
 ·rw [Ea]
  split
  ·exact hd
  ·exact h k
 ·exact h k
section
variable {w:World} {cu ci cv:Value} {T:bH} {g:Gl} {B:Nat→Prop}
set_option maxHeartbeats 1000000 in
theorem ajh (h:fM w cu ci T B) (gH:cO w cv 3 (g.code.map nR) B) (kz:∀ s∈T.au,0≤s.fields∧s.fields≤8) (ik:g.code.length≤8000) (mC:∀ x∈g.code,x.a≤9223372036854775807) (jk:p6 T g.code.length 0 g.code=0)
   {b2 b3 bD:Nat} (hB:∀ b,B b→b≠bD) (aC:w.heap[b2]? = some (.cells #[cu,ci] 25 (0,0))) (aJ:w.heap[b3]? = some (.cells #[.string g.name,I g.arity,cv] 59 (0,0))) (bj:b2≠bD∧b3≠bD)
   {D0:List Int} (hD:w.heap[bD]? = some (.cells (D0.map I).toArray 3 (0,0))) (Hp:D0.length=g.code.length) (zA:zz D0)
   {Q:gI} (ml:∀ e w',e≠0→sL T g.code.length 0 g.code D0=e→Mod (· = bD) w w'→Q .ret [(4,I e)] w')
   (fi:∀ w',sL T g.code.length 0 g.code D0=0→Mod (· = bD) w w'→∀ ρ,Q .normal ρ w') :
   cM Tryz.prog 152 (.block 2 (.loop LY)) Q [(2,ptr b2),(3,ptr b3),(11,.slice (some ⟨bD,0,none⟩) g.code.length g.code.length),(78,cv),(79,I g.code.length),(80,I 0)] w:=by
 obtain ⟨⟨aS,cS,rfl⟩,aG,cG,rfl⟩:=oe h;obtain ⟨sO,lQ,rfl⟩:=uq gH;rw [List.length_map] at *;refine σ ?_
 refine dA (fun z ρ w'=>∃ (i:Nat) (D:List Int),z=g.code.length - i∧i≤g.code.length∧Mod (· = bD) w w'∧D.length=g.code.length∧zz D∧w'.heap[bD]? = some (.cells (D.map I).toArray 3 (0,0))∧sL T g.code.length 0 g.code D0=sL T g.code.length i (g.code.drop i) D ∧
  ρ=[(2,ptr b2),(3,ptr b3),(11,.slice (some ⟨bD,0,none⟩) g.code.length g.code.length),(78,.slice sO g.code.length lQ),(79,I g.code.length),(80,I i)]) g.code.length ⟨0,D0,rfl,by omega,Mod.refl _ _,Hp,zA,hD,rfl,rfl⟩ ?_
 rintro z ρ w2 ⟨i,D,rfl,hi,ae,Hp,zA,qV,eW,rfl⟩;have iI:=ae.at aC bj.1;have js:=ae.at aJ bj.2;unfold LY;refine σ ?_;refine aY rfl (fun ah=>?_) (fun ah=>?_)
 ·have ah:i < g.code.length:=by simpa using ah
  have h2:=h.mod ae (fun b hb=>hB b hb) (fun _ h=>h);obtain ⟨ad,c,e',_,ed⟩:=NI (gH.mod ae (fun b hb=>hB b hb) (fun _ h=>h)) ah;cases e';rw [W8 ah] at ed;have sP:=ajc T g.code.length g.code D ah;have gV:zn T g.code.length i g.code[i]:=by
   have:=WQ g.code 0 jk i _ (List.getElem?_eq_getElem ah);rw [Nat.zero_add] at this;exact WR this
  have aji:=mC _ (List.getElem_mem ah);generalize U:g.code[i]=x at *;have b1:(0:Int)≤i∧(i:Int) < g.code.length:=by omega
  have hcD:=u9 qV (i:=i) (by omega);simp only [go_sem,simprocAttr,an,bq,b1,ed,hU];refine dk ?_;intro w3 sQ ab _;refine cX (cs:=[I 0,I 0,I 0]) rfl rfl sQ rfl rfl (by simp [Value.oneCell']) ?_;intro w4 aH ai _;have du:Mod (fun _=>False) w2 w4:=ab.step ai (fun x U hl=>by subst U;omega);have ajj:=du.cell hcD (fun h=>h);have Eg:=du.at qV (fun h=>h);have hdb:=zA i;generalize Xb:D.getD i 0=d at *;simp only [go_sem,simprocAttr,an,bq,b1,dB,ajj];have e0:xT T g.code.length i x D=if d=0 then 174
   else if ¬ ((bh T x d).1=true∧(bh T x d).2≤8000) then 173
   else if iM x∧i+1=g.code.length then 174
   else if iM x∧(iN D ((i:Int)+1) (bh T x d).2).getD (i+1) 0≠(bh T x d).2 then 173
   else if fe x > 0∧(jM T D i x).getD (fe x).toNat 0≠(bh T x d).2 then 173
   else 0:=by unfold xT;rw [Xb]
  have eh:Mod (· = bD) w w4:=ae.step du (fun _ h _=>h.elim);refine aY rfl (fun hz=>?_) (fun hz=>?_)
  ·simp only [aL,aM,aN,an,aQ] at hz;rw [if_pos hz] at e0;refine σ ?_;exact ml 174 _ (by decide) (by rw [eW,sP,e0];rfl) eh
  simp only [aL,aM,aN,an,aQ] at hz;rw [if_neg hz] at e0;have vj:=du.at iI (fun h=>h);have qz:=du.at js (fun h=>h);have fX:=dM (cs:=[_,_]) (off:=0) (n:=2) vj (by simp);have sR:=dM (cs:=[_,_,_]) (off:=0) (n:=3) aH (by simp);simp only [go_sem,simprocAttr,fX,sR];refine δ (by rfl) (aja (x:=x) (h2.mod du (fun _ _ h=>h) (fun _ h=>h)) kz gV aji (d:=d) hdb) ?_;rintro _ w5 ⟨rfl,aB⟩;have gv:(bh T x d).1=true→1≤(bh T x d).2:=WS (fun s hs=>(kz s hs).1) gV (by omega);have bN:jM T D i x=if fe x > 0 then iN (if x.op≠13∧x.op≠16∧x.op≠17 then iN D ((i:Int)+1) (bh T x d).2 else D) (fe x) (bh T x d).2 else (if x.op≠13∧x.op≠16∧x.op≠17 then iN D ((i:Int)+1) (bh T x d).2 else D):=by unfold jM;rw [Xb]
  generalize bh T x d=st at *;obtain ⟨ok,s⟩:=st;have dH:=eh.step aB (fun _ h _=>h.elim);have zw:=aB.at aH (fun h=>h);have qA:=aB.at qz (fun h=>h);have Hq:=aB.at Eg (fun h=>h);refine σ ?_;refine aY rfl (fun ct=>?_) (fun ct=>?_)
  ·have ur:¬ (ok=true∧s≤8000):=by
    intro hh;simp [hh.1,hh.2] at ct
   rw [if_pos ur] at e0;refine σ ?_;exact ml 173 _ (by decide) (by rw [eW,sP,e0];rfl) dH
  have ur:ok=true∧s≤8000:=by simpa using ct
  rw [if_neg (by simpa using ur)] at e0;have Xc:0≤s∧s≤8000:=⟨by have:=gv ur.1;omega,ur.2⟩;simp only [go_sem,simprocAttr,cell_of zw];have e1:IntKind.i64.wrap ((i:Int)+1)=(i:Int)+1:=cy (by omega) (by omega);refine iG (fun ρ w'=>w5=w'∧ρ.get 2=some (ptr b2)∧ρ.get 3=some (ptr b3)∧ρ.get 11=some (.slice (some ⟨bD,0,none⟩) g.code.length g.code.length)∧ρ.get 12=some (I i)∧ρ.get 13=some (ptr w2.heap.size)∧ρ.get 15=some (I s)∧ρ.get 17=some (.bool (decide (iM x)))∧ρ.get 78=some (.slice (some ad) g.code.length lQ)∧ρ.get 79=some (I g.code.length)∧ρ.get 80=some (I i)) ?_ ?_
  ·have eG:decide (iM x)=((x.op != 13)&&(x.op != 16)&&(x.op != 17)):=by
    unfold iM;by_cases a:x.op=13<;>by_cases b:x.op=16<;>by_cases c:x.op=17<;>simp [a,b,c]
   rw [eG];cases h1:(x.op != 13)<;>cases h3:(x.op != 16)<;>simp only [go_sem,simprocAttr,h1,h3,cell_of zw,Bool.true_and,Bool.false_and]<;>(simp [h1,h3])
  rintro ρ _ ⟨rfl,r2,r3,lS,NT,Eh,qW,NU,qX,qY,qZ⟩;simp only [go_sem,simprocAttr,r2,r3,lS,NT,Eh,qW,NU,qX,qY,qZ];refine iG (fun ρ w'=>w5=w'∧ρ.get 2=some (ptr b2)∧ρ.get 3=some (ptr b3)∧ρ.get 11=some (.slice (some ⟨bD,0,none⟩) g.code.length g.code.length)∧ρ.get 12=some (I i)∧ρ.get 13=some (ptr w2.heap.size)∧ρ.get 15=some (I s)∧ρ.get 17=some (.bool (decide (iM x)))∧ρ.get 78=some (.slice (some ad) g.code.length lQ)∧ρ.get 79=some (I g.code.length)∧ρ.get 80=some (I i)∧ρ.get 121=some (.bool (decide (iM x∧i+1=g.code.length)))) ?_ ?_
  ·by_cases hG:iM x
   ·have NV:decide (iM x)=true:=decide_eq_true hG;have c1:(((i:Int)+1) == (g.code.length:Int))=decide (i+1=g.code.length):=by rw [kU];exact decide_eq_decide.2 (by omega)
    simp only [go_sem,simprocAttr,NV,cell_of qA,e1];simp [hG,c1]
   ·have NW:decide (iM x)=false:=decide_eq_false hG;simp only [go_sem,simprocAttr,NW];simp [hG]
  rintro ρ _ ⟨rfl,r2,r3,lS,NT,Eh,qW,NU,qX,qY,qZ,ajk⟩;simp only [go_sem,simprocAttr,r2,r3,lS,NT,Eh,qW,NU,qX,qY,qZ,ajk];refine aY rfl (fun oR=>?_) (fun oR=>?_)
  ·simp only [aL,aM,aN,an,aQ] at oR;rw [if_pos oR] at e0;refine σ ?_;exact ml 174 _ (by decide) (by rw [eW,sP,e0];rfl) dH
  simp only [aL,aM,aN,an,aQ] at oR;rw [if_neg oR] at e0;refine σ ?_;refine iG (fun ρ w'=>∃ D1,D1=(if iM x then iN D ((i:Int)+1) s else D)∧w'.heap[bD]? = some (.cells (D1.map I).toArray 3 (0,0))∧Mod (· = bD) w5 w'∧ρ.get 2=some (ptr b2)∧ρ.get 3=some (ptr b3)∧ρ.get 11=some (.slice (some ⟨bD,0,none⟩) g.code.length g.code.length)∧ρ.get 13=some (ptr w2.heap.size)∧ρ.get 15=some (I s)∧ρ.get 78=some (.slice (some ad) g.code.length lQ)∧ρ.get 79=some (I g.code.length)∧ρ.get 80=some (I i)∧ρ.get 130=some (.bool (decide (iM x∧(iN D ((i:Int)+1) s).getD (i+1) 0≠s)))) ?_ ?_
  ·by_cases hG:iM x
   ·have NV:decide (iM x)=true:=decide_eq_true hG;simp only [go_sem,simprocAttr,NV,e1];refine aq (by rfl) ?_;have Kx:i+1≠g.code.length:=fun e=>oR ⟨hG,e⟩
    have hr:=W4 Hq (a:=(i:Int)+1) (d:=s) ⟨by omega,by omega⟩;rw [Hp] at hr;refine hr.mono ?_;rintro _ w6 ⟨rfl,p9,aD⟩;refine σ ?_;refine ⟨_,rfl,by rw [if_pos hG];exact p9,aD,?_⟩;rw [show ((i:Int)+1).toNat=i+1 by omega];simp [hG]
   ·have NW:decide (iM x)=false:=decide_eq_false hG;simp only [go_sem,simprocAttr,NW];refine ⟨_,rfl,by rw [if_neg hG];exact Hq,Mod.refl _ _,?_⟩;simp [hG]
  rintro ρ w6 ⟨D1,oh,p9,aD,r2,r3,lS,Eh,qW,qX,qY,qZ,ajl⟩;have gE:Mod (· = bD) w w6:=dH.trans aD;have ajm:w2.heap.size≠bD:=fun e=>by have:=lt_of_heap qV;omega
  have pZ:=aD.at zw ajm;have Hr:D1.length=g.code.length:=by rw [oh];split<;>simp [NK,Hp]
  have Xd:zz D1:=by rw [oh];split;exact Xa zA _ Xc;exact zA
  have A9:jM T D i x=if fe x > 0 then iN D1 (fe x) s else D1:=by
   rw [bN,oh];rfl
  simp only [go_sem,simprocAttr,r2,r3,lS,Eh,qW,qX,qY,qZ,ajl];refine aY rfl (fun lu=>?_) (fun lu=>?_)
  ·simp only [aL,aM,aN,an,aQ] at lu;rw [if_pos lu] at e0;refine σ ?_;exact ml 173 _ (by decide) (by rw [eW,sP,e0];rfl) gE
  simp only [aL,aM,aN,an,aQ] at lu;rw [if_neg lu] at e0;simp only [go_sem,simprocAttr,cell_of pZ];refine Dy (fun ρ w'=>w6=w'∧ρ.get 2=some (ptr b2)∧ρ.get 3=some (ptr b3)∧ρ.get 11=some (.slice (some ⟨bD,0,none⟩) g.code.length g.code.length)∧ρ.get 15=some (I s)∧ρ.get 18=some (I (fe x))∧ρ.get 78=some (.slice (some ad) g.code.length lQ)∧ρ.get 79=some (I g.code.length)∧ρ.get 80=some (I i)) ?_ ?_
  ·have hop:=gV.o1;by_cases Bu:x.op=13
   ·have et:fe x=x.a:=by unfold fe;rw [if_pos Bu]
    rw [et];simp only [go_sem,simprocAttr,Bu,Int.reduceBEq,cell_of pZ]
   by_cases NX:x.op=14
   ·have et:fe x=x.b:=by unfold fe;rw [if_neg Bu,if_pos (.inl NX)]
    rw [et];simp only [go_sem,simprocAttr,NX,Int.reduceBEq,cell_of pZ]
   by_cases NY:x.op=15
   ·have et:fe x=x.b:=by unfold fe;rw [if_neg Bu,if_pos (.inr NY)]
    rw [et];simp only [go_sem,simprocAttr,NY,Int.reduceBEq,cell_of pZ]
   have et:fe x=0:=by unfold fe;rw [if_neg Bu,if_neg (by omega)]
   rw [et];have n13:(x.op == 13)=false:=by rw [kU];exact decide_eq_false Bu
   have n14:(x.op == 14)=false:=by rw [kU];exact decide_eq_false NX
   have n15:(x.op == 15)=false:=by rw [kU];exact decide_eq_false NY
   simp only [go_sem,simprocAttr,n13,n14,n15,cell_of pZ]
  rintro ρ _ ⟨rfl,r2,r3,lS,qW,Bt,qX,qY,qZ⟩;have pI:fe x > 0→fe x < g.code.length:=by
   intro ht;unfold fe at ht ⊢
   split at ht
   ·rename_i e;rw [if_pos e];exact (gV.Ni e).2
   ·rename_i e;rw [if_neg e]
    split at ht
    ·rename_i e2;rw [if_pos e2];exact (gV.Bg e2).2
    ·omega
  simp only [go_sem,simprocAttr,r2,r3,lS,qW,Bt,qX,qY,qZ];refine iG (fun ρ w'=>∃ D2,D2=jM T D i x∧D2.length=g.code.length∧zz D2∧w'.heap[bD]? = some (.cells (D2.map I).toArray 3 (0,0))∧Mod (· = bD) w6 w'∧ρ.get 2=some (ptr b2)∧ρ.get 3=some (ptr b3)∧ρ.get 11=some (.slice (some ⟨bD,0,none⟩) g.code.length g.code.length)∧ρ.get 78=some (.slice (some ad) g.code.length lQ)∧ρ.get 79=some (I g.code.length)∧ρ.get 80=some (I i)∧ρ.get 150=some (.bool (decide (fe x > 0∧(jM T D i x).getD (fe x).toNat 0≠s)))) ?_ ?_
  ·by_cases ht:fe x > 0
   ·have Nh:decide (fe x > 0)=true:=decide_eq_true ht;rw [if_pos ht] at A9;rw [A9];simp only [go_sem,simprocAttr,Nh,r2,r3,lS,qW,Bt,qX,qY,qZ];refine aq (by rfl) ?_;have hr:=W4 p9 (a:=fe x) (d:=s) ⟨by omega,by rw [Hr];exact pI ht⟩;rw [Hr] at hr;refine hr.mono ?_;rintro _ w7 ⟨rfl,zB,aX⟩;simp only [go_sem,simprocAttr,r2,r3,lS,qW,Bt,qX,qY,qZ];refine ⟨_,rfl,by rw [NK,Hr],Xa Xd _ Xc,zB,aX,?_⟩;simp [ht]
   ·have htf:decide (fe x > 0)=false:=decide_eq_false ht;rw [if_neg ht] at A9;rw [A9];simp only [go_sem,simprocAttr,htf,r2,r3,lS,qW,Bt,qX,qY,qZ];refine ⟨_,rfl,Hr,Xd,p9,Mod.refl _ _,?_⟩;simp [ht]
  rintro ρ w7 ⟨D2,ajn,ajo,ajp,zB,aX,r2,r3,lS,qX,qY,qZ,ajq⟩;have jV:Mod (· = bD) w w7:=gE.trans aX;simp only [go_sem,simprocAttr,r2,r3,lS,qX,qY,qZ,ajq];refine aY rfl (fun wk=>?_) (fun wk=>?_)
  ·simp only [aL,aM,aN,an,aQ] at wk;rw [if_pos wk] at e0;refine σ ?_;exact ml 173 _ (by decide) (by rw [eW,sP,e0];rfl) jV
  ·simp only [aL,aM,aN,an,aQ] at wk;rw [if_neg wk] at e0;have e2:IntKind.i64.wrap ((i:Int)+1)=((i+1:Nat):Int):=by rw [e1];omega
   simp only [go_sem,simprocAttr,e2];exact ⟨_,by omega,i+1,D2,rfl,by omega,jV,ajo,ajp,zB,by rw [eW,sP,e0,ajn];rfl,rfl⟩
 ·have ah:¬ i < g.code.length:=by simpa using ah
  obtain rfl:i=g.code.length:=by omega
  refine σ ?_;refine fi w2 ?_ ae _;rw [eW,List.drop_length];rfl
end
end
section
open Go Go.W
section
variable {w:World} {cu ci cv:Value} {T:bH} {g:Gl} {B:Nat→Prop}
theorem ajr (h:fM w cu ci T B) (gH:cO w cv 3 (g.code.map nR) B) (mY:∀ b,B b→b < w.heap.size) (kz:∀ s∈T.au,0≤s.fields∧s.fields≤8) (fU:0≤g.arity∧g.arity≤24) (ik:g.code.length≤8000) (mC:∀ x∈g.code,x.a≤9223372036854775807) :
   aK Tryz.prog 106 [jX cu ci,qU g cv] w fun r w'=>r=I (oY T g)∧Mod (fun _=>False) w w':=by
 have h0:=h;have Xe:=gH;obtain ⟨⟨aS,cS,rfl⟩,aG,cG,rfl⟩:=oe h;obtain ⟨sO,lQ,rfl⟩:=uq gH;rw [List.length_map] at *;refine agc.calls rfl ?_;unfold LZ jX qU;refine σ ?_;refine cK rfl ?_;intro w1 ax ag cL;refine σ ?_;refine cK rfl ?_;intro w2 aC ae dq;have dC:=ae.at ax (fun h=>h);have cq:=ag.trans ae;have h2:=h0.mod cq (fun _ _ h=>h) (fun _ h=>h);have ajs:=Xe.mod cq (fun _ _ h=>h) (fun _ h=>h);simp only [go_sem,simprocAttr,cell_of aC,Value.cells];refine ajd (b2:=w.heap.size) (b3:=w1.heap.size) (g:=g) h2 ajs ik dC aC ?_ ?_
 ·intro e w3 he hn ab;refine σ ?_;have:oY T g=e:=by unfold oY;rw [hn,if_pos he]
  rw [this];exact ⟨rfl,cq.trans ab⟩
 ·intro w3 hn ab t;have Hs:=ab.at aC (fun h=>h);have fT:=ab.at dC (fun h=>h);have dy:=cq.trans ab;have lz:((g.code.length:Int) == 0)=decide (g.code.length=0):=by rw [kU];exact decide_eq_decide.2 (by omega)
  simp only [go_sem,simprocAttr,cell_of Hs,Value.cells,lz];refine aY rfl (fun hz=>?_) (fun hz=>?_)
  ·simp only [aL,aM,aN,an,aQ] at hz;refine σ ?_;have:oY T g=174:=by unfold oY;rw [hn,if_neg (by decide),if_pos hz]
   rw [this];exact ⟨rfl,dy⟩
  ·simp only [aL,aM,aN,an,aQ] at hz;have e1:oY T g=sL T g.code.length 0 g.code (qS g):=by unfold oY;rw [hn,if_neg (by decide),if_neg hz]
   have b1:(0:Int)≤0∧(0:Int) < g.code.length:=by omega
   have e2:IntKind.i64.wrap (g.arity+1)=g.arity+1:=cy (by omega) (by omega);simp only [go_sem,simprocAttr,cell_of Hs,Value.cells];refine uS (bytes:=8) (n:=g.code.length) rfl (by omega) (by omega) ?_;intro w4 aH ai eu;have qz:=ai.at Hs (fun h=>h);simp only [go_sem,simprocAttr,an,bq,cell_of qz,e2,b1,dB];refine bY (off:=0) rfl rfl aH rfl (by simp;omega) ?_;intro w5 bZ aB _;have l3:=lt_of_heap Hs;have l1:=lt_of_heap fT;have qA:=aB.at qz (fun e=>by omega);have l0:=aB.at (ai.at fT (fun h=>h)) (fun e=>by omega);have hD:w5.heap[w3.heap.size]? = some (.cells ((qS g).map I).toArray 3 (0,0)):=by
    rw [bZ];unfold qS;rw [List.map_set,List.map_replicate]
   have eI:Mod (fun _=>False) w3 w5:=ai.step aB (fun x U hl=>by subst U;omega);have dH:=dy.trans eI;have zA:zz (qS g):=by
    intro k;unfold qS;rw [Ea]
    split
    ·omega
    ·rw [List.getD_eq_getElem?_getD,List.getElem?_replicate]
     split<;>simp
   simp only [go_sem,simprocAttr,cell_of qA];refine ajh (b2:=w.heap.size) (b3:=w1.heap.size) (bD:=w3.heap.size) (g:=g) (h0.mod dH (fun _ _ h=>h) (fun _ h=>h)) (Xe.mod dH (fun _ _ h=>h) (fun _ h=>h)) kz ik mC hn (fun b hb e=>by have:=mY b hb;have:=dy.size;omega) l0 qA ⟨by omega,by omega⟩ hD (by simp [qS]) zA ?_ ?_
   ·intro e w6 he NZ aD;refine σ ?_;rw [e1,NZ];exact ⟨rfl,dH.step aD (fun x U hl=>by subst U;have:=dy.size;omega)⟩
   ·intro w6 NZ aD ρ;refine σ ?_;rw [e1,NZ];exact ⟨rfl,dH.step aD (fun x U hl=>by subst U;have:=dy.size;omega)⟩
end
end
section
open Go Go.W
def mn (l:List (ByteArray×Int)):List (ByteArray×Int):=l.map fun p=>(p.1,1)
theorem Xf (l:List (ByteArray×Int)) (k:ByteArray):(hZ (mn l) k).getD 0=if (l.map (·.1)).all (fun t=>decide (t≠k))=true then 0 else 1:=by
 induction l with
 | nil=>rfl
 | cons p l ih=>
  by_cases h:p.1=k
  ·simp [hZ,mn,h]
  ·have e:hZ (mn (p::l)) k=hZ (mn l) k:=by simp [hZ,mn,h]
   rw [e,ih,List.map_cons,List.all_cons];have hd:decide (p.1≠k)=true:=by simp [h]
   rw [hd,Bool.true_and]
theorem Xg {l:List (ByteArray×Int)} {p:ByteArray×Int} (h:(l.map (·.1)).all (fun t=>decide (t≠p.1))=true):wh (mn l) p.1 1=mn (l++[p]):=by
 have e:(mn l).findIdx? (fun q=>decide (q.1=p.1))=none:=by
  rw [List.findIdx?_eq_none_iff];intro q hq;obtain ⟨r,hr,rfl⟩:=List.mem_map.1 hq;have:=List.all_eq_true.1 h r.1 (List.mem_map.2 ⟨r,hr,rfl⟩)
  simpa using this
 unfold wh;rw [e];simp [mn]
theorem ajt (l:List ByteArray) (k:ByteArray):l.reverse.all (fun t=>decide (t≠k))=l.all (fun t=>decide (t≠k)):=by simp
theorem Xh {hi:Int} {l:List (ByteArray×Int)} {i:Nat} (h:i < l.length):kA hi ((l.take i).map (·.1)).reverse (l.drop i) =
   (lP l[i].1&&((l.take i).map (·.1)).all (fun t=>decide (t≠l[i].1))&&decide (0≤l[i].2)&&decide (l[i].2≤hi)&&kA hi ((l.take (i+1)).map (·.1)).reverse (l.drop (i+1))):=by
 rw [List.drop_eq_getElem_cons h,List.take_succ_eq_append_getElem h];simp only [kA,List.map_append,List.map_cons,List.map_nil,List.reverse_append,List.reverse_cons,List.reverse_nil,List.nil_append,List.singleton_append,ajt]
theorem Xi {P:Program} {ρ:Env} {w:World} {K:Value→World→Prop} {d:Option Nat} {op:Op} {ty:TypeId} {pos:String} {af:Array Edge} {gd:Option (Nat×Bool)} (h:E.wp P w ρ K (.raw ⟨d,op,ty,pos,af,none⟩)):E.wp P w ρ K (.raw ⟨d,op,ty,pos,af,gd⟩):=h
theorem Xj {w:World} {cu ci:Value} {T:bH} {B:Nat→Prop} (h:fM w cu ci T B) {i:Nat} (hi:i < T.au.length):∃ ad c,cu = .slice (some ad) T.au.length c∧cH w 2 (.pointer (some (ad.add (i*2))))=some (.agg #[.string T.au[i].name,I T.au[i].fields]):=by
 obtain ⟨ad,c,h1,h2,h3⟩:=DD h hi;have e:T.sh (i:Int)=T.au[i]:=by unfold bH.sh;rw [Int.toNat_natCast,List.getD_eq_getElem?_getD,List.getElem?_eq_getElem hi];rfl
 rw [e] at h2 h3;exact ⟨ad,c,h1,sJ h2 h3⟩
section
variable {w:World} {cu ci:Value} {T:bH} {B:Nat→Prop}
set_option maxHeartbeats 1000000 in
theorem aju (h:fM w cu ci T B) (hT:sN T) {b1 bM:Nat} (hB:∀ b,B b→b≠bM) (hM:mj w bM (mn []))
   {Q:gI} (ml:∀ w',kA 8 [] (jr T)=false→Mod (· = bM) w w'→Q .ret [(2,I 172)] w')
   (fi:∀ w' t l,kA 8 [] (jr T)=true→mj w' bM l→Mod (· = bM) w w'→Q .normal [(1,ptr b1),(3,.map (some bM)),(17,cu),(18,I T.au.length),(19,I T.au.length),(20,t)] w') :
   cM Tryz.prog 117 (.block 0 (.loop LD)) Q [(1,ptr b1),(3,.map (some bM)),(17,cu),(18,I T.au.length),(19,I 0)] w:=by
 obtain ⟨⟨aS,cS,rfl⟩,aG,cG,rfl⟩:=oe h;have bE:(jr T).length=T.au.length:=by simp [jr]
 have Bi:=hT.sn;have Ed:=hT.gn;refine σ ?_
 refine dA (fun z ρ w'=>∃ i:Nat,z=T.au.length - i∧i≤T.au.length∧Mod (· = bM) w w'∧mj w' bM (mn ((jr T).take i))∧kA 8 [] (jr T)=kA 8 (((jr T).take i).map (·.1)).reverse ((jr T).drop i) ∧
  ρ=[(1,ptr b1),(3,.map (some bM)),(17,.slice aS T.au.length cS),(18,I T.au.length),(19,I i)]) T.au.length ⟨0,rfl,by omega,Mod.refl _ _,hM,rfl,rfl⟩ ?_
 rintro z ρ w2 ⟨i,rfl,hi,ae,fV,eW,rfl⟩;unfold LD;refine σ ?_;refine aY rfl (fun ah=>?_) (fun ah=>?_)
 ·have ah:i < T.au.length:=by simpa using ah
  have h2:=h.mod ae (fun b hb=>hB b hb) (fun _ h=>h);obtain ⟨ad,c,e',ed⟩:=Xj h2 ah;cases e';have dQ:=hT.ai2 _ (List.getElem_mem ah);have dN:=Xh (hi:=8) (l:=jr T) (i:=i) (by omega);have se:(jr T)[i]'(by omega)=(T.au[i].name,T.au[i].fields):=by simp [jr]
  rw [se] at dN;have iJ:(jr T).take (i+1)=(jr T).take i++[(T.au[i].name,T.au[i].fields)]:=by rw [List.take_succ_eq_append_getElem (by omega),se]
  skip
  generalize T.au[i].name=nm at *;generalize T.au[i].fields=nv at *;have og:(0:Int)≤i∧(i:Int) < T.au.length:=by omega
  simp only [go_sem,simprocAttr,an,bq,og,ed];refine dk ?_;intro w3 sQ ab _;refine cX (cs:=[.string ⟨#[]⟩,I 0]) rfl rfl sQ rfl rfl (by simp [Value.oneCell']) ?_;intro w4 aH ai _;have du:Mod (fun _=>False) w2 w4:=ab.step ai (fun x U hl=>by subst U;omega);have q0:=p7 fV du (fun h=>h);have bj:w2.heap.size≠bM:=fun e=>by obtain ⟨es,ck,h1,_⟩:=fV;have:=lt_of_heap h1;omega
  simp only [go_sem,simprocAttr,cell_of aH];refine δ (by rfl) (WX w4 nm dQ) ?_;rintro _ _ ⟨rfl,rfl⟩;have eh:Mod (· = bM) w w4:=ae.step du (fun _ h _=>h.elim);have N0:=Xf ((jr T).take i) nm;refine σ ?_
  refine iG (fun ρ w'=>w4=w'∧ρ.get 1=some (ptr b1)∧ρ.get 3=some (.map (some bM))∧ρ.get 5=some (ptr w2.heap.size)∧ρ.get 17=some (.slice (some ad) T.au.length cS)∧ρ.get 18=some (I T.au.length)∧ρ.get 19=some (I i) ∧
   ρ.get 43=some (.bool (!(lP nm&&(((jr T).take i).map (·.1)).all (fun t=>decide (t≠nm))&&decide (0≤nv)&&decide (nv≤8))))) ?_ ?_
  ·have n1:decide (0≤nv) = !decide (nv < 0):=by by_cases q:nv < 0<;>simp [q];omega
   have n2:decide (nv≤8) = !decide (nv > 8):=by by_cases q:nv > 8<;>simp [q];omega
   rw [n1,n2];generalize ((((jr T).take i).map (·.1)).all (fun t=>decide (t≠nm)))=q at *;cases hA:lP nm
   ·simp only [go_sem,simprocAttr,hA,Bool.not_false,Bool.false_and,cell_of aH]
   ·simp only [go_sem,simprocAttr,hA,Bool.not_true,cell_of aH];refine Xi (Bq (t:=80) (kt:=9) (et:=3) rfl rfl Tryz.underlying80 Tryz.underlying9 (Tryz.zeroValue3 _) q0 ?_);rw [N0];cases q
    ·simp only [go_sem,simprocAttr,cell_of aH,Int.reduceGT,Int.reduceLT,decide_true,Bool.and_false,Bool.false_and,Bool.not_false]
    ·cases hC:decide (nv < 0)<;>cases hD:decide (nv > 8)<;>simp only [go_sem,simprocAttr,cell_of aH,hC,hD,gt_iff_lt,Int.reduceLT,Int.lt_irrefl,decide_false,Bool.and_true,Bool.true_and,Bool.and_false,Bool.not_true,Bool.not_false]
  rintro ρ _ ⟨rfl,r1,r3,rB,rv,rn,ri,rr⟩;simp only [go_sem,simprocAttr,r1,r3,rB,rv,rn,ri,rr];refine aY rfl (fun ix=>?_) (fun ix=>?_)
  ·rw [Bool.not_eq_true'] at ix;refine σ ?_;exact ml _ (by rw [eW,dN,ix];rfl) eh
  ·have ix:(lP nm&&(((jr T).take i).map (·.1)).all (fun t=>decide (t≠nm))&&decide (0≤nv)&&decide (nv≤8))=true:=by simpa using ix
   rw [ix,Bool.true_and] at dN;have df:(((jr T).take i).map (·.1)).all (fun t=>decide (t≠nm))=true:=by
    simp only [Bool.and_eq_true] at ix;exact ix.1.1.2
   have e1:IntKind.i64.wrap ((i:Int)+1)=((i+1:Nat):Int):=by rw [cy (by omega) (by omega)];omega
   simp only [go_sem,simprocAttr,cell_of aH];refine NN (t:=80) (kt:=9) (et:=3) (v:=1) (by rfl) (by rfl) (by rfl) Tryz.underlying80 Tryz.underlying9 q0 ?_;intro w5 sS aB _;have ii:=Xg (p:=(nm,nv)) df;rw [show wh (mn ((jr T).take i)) nm 1=mn ((jr T).take (i+1)) from by rw [iJ];exact ii] at sS;simp only [go_sem,simprocAttr,e1];exact ⟨_,by omega,i+1,rfl,by omega,eh.trans aB,sS,by rw [eW,dN],rfl⟩
 ·have ah:¬ i < T.au.length:=by simpa using ah
  obtain rfl:i=T.au.length:=by omega
  refine σ ?_;refine fi w2 _ _ ?_ fV ae;rw [eW,← bE,List.drop_length];rfl
set_option maxHeartbeats 1000000 in
theorem ajv (h:fM w cu ci T B) (hT:sN T) {b1 bM:Nat} (hB:∀ b,B b→b≠bM) (hM:mj w bM (mn []))
   {Q:gI} (ml:∀ w',kA 24 [] (iO T)=false→Mod (· = bM) w w'→Q .ret [(2,I 172)] w')
   (fi:∀ w' t l,kA 24 [] (iO T)=true→mj w' bM l→Mod (· = bM) w w'→Q .normal [(1,ptr b1),(3,.map (some bM)),(72,ci),(73,I T.globals.length),(74,I T.globals.length),(75,t)] w') :
   cM Tryz.prog 117 (.block 4 (.loop LG)) Q [(1,ptr b1),(3,.map (some bM)),(72,ci),(73,I T.globals.length),(74,I 0)] w:=by
 obtain ⟨⟨aS,cS,rfl⟩,aG,cG,rfl⟩:=oe h;have bE:(iO T).length=T.globals.length:=by simp [iO]
 have Bi:=hT.sn;have Ed:=hT.gn;refine σ ?_
 refine dA (fun z ρ w'=>∃ i:Nat,z=T.globals.length - i∧i≤T.globals.length∧Mod (· = bM) w w'∧mj w' bM (mn ((iO T).take i))∧kA 24 [] (iO T)=kA 24 (((iO T).take i).map (·.1)).reverse ((iO T).drop i) ∧
  ρ=[(1,ptr b1),(3,.map (some bM)),(72,.slice aG T.globals.length cG),(73,I T.globals.length),(74,I i)]) T.globals.length ⟨0,rfl,by omega,Mod.refl _ _,hM,rfl,rfl⟩ ?_
 rintro z ρ w2 ⟨i,rfl,hi,ae,fV,eW,rfl⟩;unfold LG;refine σ ?_;refine aY rfl (fun ah=>?_) (fun ah=>?_)
 ·have ah:i < T.globals.length:=by simpa using ah
  have h2:=h.mod ae (fun b hb=>hB b hb) (fun _ h=>h);obtain ⟨ad,c,cv,e',ed,_⟩:=Ec h2 ah;cases e';have dQ:=hT.ai1 _ (List.getElem_mem ah);have dN:=Xh (hi:=24) (l:=iO T) (i:=i) (by omega);have se:(iO T)[i]'(by omega)=(T.globals[i].name,T.globals[i].arity):=by simp [iO]
  rw [se] at dN;have iJ:(iO T).take (i+1)=(iO T).take i++[(T.globals[i].name,T.globals[i].arity)]:=by rw [List.take_succ_eq_append_getElem (by omega),se]
  unfold qU at ed;generalize T.globals[i].name=nm at *;generalize T.globals[i].arity=nv at *;have og:(0:Int)≤i∧(i:Int) < T.globals.length:=by omega
  simp only [go_sem,simprocAttr,an,bq,og,ed];refine dk ?_;intro w3 sQ ab _;refine cX (cs:=[.string ⟨#[]⟩,I 0,.slice none 0 0]) rfl rfl sQ rfl rfl (by obtain ⟨sO,lQ,rfl⟩:=uq ‹_›;simp [Value.oneCell']) ?_;intro w4 aH ai _;have du:Mod (fun _=>False) w2 w4:=ab.step ai (fun x U hl=>by subst U;omega);have q0:=p7 fV du (fun h=>h);have bj:w2.heap.size≠bM:=fun e=>by obtain ⟨es,ck,h1,_⟩:=fV;have:=lt_of_heap h1;omega
  simp only [go_sem,simprocAttr,cell_of aH];refine δ (by rfl) (WX w4 nm dQ) ?_;rintro _ _ ⟨rfl,rfl⟩;have eh:Mod (· = bM) w w4:=ae.step du (fun _ h _=>h.elim);have N0:=Xf ((iO T).take i) nm;refine σ ?_
  refine iG (fun ρ w'=>w4=w'∧ρ.get 1=some (ptr b1)∧ρ.get 3=some (.map (some bM))∧ρ.get 9=some (ptr w2.heap.size)∧ρ.get 72=some (.slice (some ad) T.globals.length cG)∧ρ.get 73=some (I T.globals.length)∧ρ.get 74=some (I i) ∧
   ρ.get 98=some (.bool (!(lP nm&&(((iO T).take i).map (·.1)).all (fun t=>decide (t≠nm))&&decide (0≤nv)&&decide (nv≤24))))) ?_ ?_
  ·have n1:decide (0≤nv) = !decide (nv < 0):=by by_cases q:nv < 0<;>simp [q];omega
   have n2:decide (nv≤24) = !decide (nv > 24):=by by_cases q:nv > 24<;>simp [q];omega
   rw [n1,n2];generalize ((((iO T).take i).map (·.1)).all (fun t=>decide (t≠nm)))=q at *;cases hA:lP nm
   ·simp only [go_sem,simprocAttr,hA,Bool.not_false,Bool.false_and,cell_of aH]
   ·simp only [go_sem,simprocAttr,hA,Bool.not_true,cell_of aH];refine Xi (Bq (t:=80) (kt:=9) (et:=3) rfl rfl Tryz.underlying80 Tryz.underlying9 (Tryz.zeroValue3 _) q0 ?_);rw [N0];cases q
    ·simp only [go_sem,simprocAttr,cell_of aH,Int.reduceGT,Int.reduceLT,decide_true,Bool.and_false,Bool.false_and,Bool.not_false]
    ·cases hC:decide (nv < 0)<;>cases hD:decide (nv > 24)<;>simp only [go_sem,simprocAttr,cell_of aH,hC,hD,gt_iff_lt,Int.reduceLT,Int.lt_irrefl,decide_false,Bool.and_true,Bool.true_and,Bool.and_false,Bool.not_true,Bool.not_false]
  rintro ρ _ ⟨rfl,r1,r3,rB,rv,rn,ri,rr⟩;simp only [go_sem,simprocAttr,r1,r3,rB,rv,rn,ri,rr];refine aY rfl (fun ix=>?_) (fun ix=>?_)
  ·rw [Bool.not_eq_true'] at ix;refine σ ?_;exact ml _ (by rw [eW,dN,ix];rfl) eh
  ·have ix:(lP nm&&(((iO T).take i).map (·.1)).all (fun t=>decide (t≠nm))&&decide (0≤nv)&&decide (nv≤24))=true:=by simpa using ix
   rw [ix,Bool.true_and] at dN;have df:(((iO T).take i).map (·.1)).all (fun t=>decide (t≠nm))=true:=by
    simp only [Bool.and_eq_true] at ix;exact ix.1.1.2
   have e1:IntKind.i64.wrap ((i:Int)+1)=((i+1:Nat):Int):=by rw [cy (by omega) (by omega)];omega
   simp only [go_sem,simprocAttr,cell_of aH];refine NN (t:=80) (kt:=9) (et:=3) (v:=1) (by rfl) (by rfl) (by rfl) Tryz.underlying80 Tryz.underlying9 q0 ?_;intro w5 sS aB _;have ii:=Xg (p:=(nm,nv)) df;rw [show wh (mn ((iO T).take i)) nm 1=mn ((iO T).take (i+1)) from by rw [iJ];exact ii] at sS;simp only [go_sem,simprocAttr,e1];exact ⟨_,by omega,i+1,rfl,by omega,eh.trans aB,sS,by rw [eW,dN],rfl⟩
 ·have ah:¬ i < T.globals.length:=by simpa using ah
  obtain rfl:i=T.globals.length:=by omega
  refine σ ?_;refine fi w2 _ _ ?_ fV ae;rw [eW,← bE,List.drop_length];rfl
end
end
section
open Go Go.W
theorem N3 (a:ByteArray):∀ (n i:Nat) (r:List UInt8),a.size - i=n→ByteArray.toList.loop a i r=r.reverse++a.data.toList.drop i:=by
 have hs:a.data.toList.length=a.size:=by
  show a.data.toList.length=a.data.size;exact Array.length_toList
 intro n
 induction n with
 | zero=>
  intro i r h;rw [ByteArray.toList.loop,if_neg (by omega),List.drop_eq_nil_of_le (by omega),List.append_nil]
 | succ n ih=>
  intro i r h;have hi:i < a.data.toList.length:=by omega
  rw [ByteArray.toList.loop,if_pos (by omega),ih (i+1) _ (by omega),List.drop_eq_getElem_cons hi];have e:a.get! i=a.data.toList[i]:=by
   show a.data[i]! = _;rw [getElem!_pos a.data i (by simpa using hi)];simp
  rw [e];simp
theorem Ei (a:ByteArray):a.toList=a.data.toList:=by
 show ByteArray.toList.loop a 0 []=_;rw [N3 a _ 0 [] rfl];rfl
theorem N4 {a b:ByteArray} (h:a.toList=b.toList):a=b:=by
 rw [Ei,Ei] at h;cases a;cases b;rename_i x y;have:x=y:=Array.ext' h;rw [this]
theorem Ht (a b:ByteArray):(a.toList == b.toList)=decide (a=b):=by
 by_cases h:a=b
 ·subst h;simp
 ·have:a.toList≠b.toList:=fun e=>h (N4 e)
  simp [h,this]
theorem ajw {i:Nat} (h:i < 7):i=0∨i=1∨i=2∨i=3∨i=4∨i=5∨i=6:=by omega
theorem N5:kB.length=7:=rfl
theorem ajx {w:World} {b:Nat} (h:w.heap[b]? = some (.cells (kB.flatMap fy).toArray 47 (0,0))) {i:Nat} (hi:i < 7):cH w 2 (.pointer (some ⟨b,i*2,none⟩))=some (.agg #[.string (kB[i]'(by rw [N5];exact hi)).name,I (kB[i]'(by rw [N5];exact hi)).fields]):=by
 have hl:(kB.flatMap fy).length=14:=rfl;have:=dM (off:=i*2) (n:=2) h (by rw [hl];omega);rcases ajw hi with rfl | rfl | rfl | rfl | rfl | rfl | rfl<;>exact this
theorem ajy (a b:gF):a=b↔a.name=b.name∧a.fields=b.fields:=by
 constructor
 ·rintro rfl;exact ⟨rfl,rfl⟩
 ·rintro ⟨h1,h2⟩;cases a;cases b;simp_all
section
variable {w:World} {cu ci:Value} {T:bH} {B:Nat→Prop}
theorem ajz (h:fM w cu ci T B) (hT:sN T) {b1 bM bG:Nat} (ax:w.heap[b1]? = some (.cells #[cu,ci] 25 (0,0))) (hG:w.heap[bG]? = some (.cells (kB.flatMap fy).toArray 47 (0,0)))
   {Q:gI} (ml:∀ w',¬ (T.au.take 7=kB)→Mod (fun _=>False) w w'→Q .ret [(2,I 172)] w')
   (fi:∀ w' t,T.au.take 7=kB→Mod (fun _=>False) w w'→Q .normal [(1,ptr b1),(3,.map (some bM)),(48,.slice (some ⟨bG,0,none⟩) 7 7),(49,I 7),(50,I 7),(51,t)] w') :
   cM Tryz.prog 117 (.block 2 (.loop LF)) Q [(1,ptr b1),(3,.map (some bM)),(48,.slice (some ⟨bG,0,none⟩) 7 7),(49,I 7),(50,I 0)] w:=by
 obtain ⟨⟨aS,cS,rfl⟩,aG,cG,rfl⟩:=oe h;have Bi:=hT.sn;refine φ ?_
 refine dA (fun z ρ w'=>∃ i:Nat,z=7 - i∧i≤7∧Mod (fun _=>False) w w'∧T.au.take i=kB.take i ∧
  ρ=[(1,ptr b1),(3,.map (some bM)),(48,.slice (some ⟨bG,0,none⟩) 7 7),(49,I 7),(50,I i)]) 7 ⟨0,rfl,by omega,Mod.refl _ _,rfl,rfl⟩ ?_
 rintro z ρ w2 ⟨i,rfl,hi,ae,eW,rfl⟩;unfold LF;refine φ ?_;refine aY rfl (fun ah=>?_) (fun ah=>?_)
 ·have ah:i < 7:=by
   simp only [aL,aM,aN,an,aQ] at ah;omega
  have b0:(0:Int)≤i∧(i:Int) < ((7:Nat):Int):=by omega
  have mW:=ajx (ae.at hG (fun h=>h)) ah;have GN:i < kB.length:=by rw [N5];exact ah
  generalize N6:kB[i]=gs at *;have hgt:kB.take (i+1)=kB.take i++[gs]:=by rw [List.take_succ_eq_append_getElem GN,N6]
  have hg7:kB[i]? = some gs:=by rw [List.getElem?_eq_getElem GN,N6]
  have h2:=h.mod ae (fun _ _ h=>h) (fun _ h=>h);have dC:=ae.at ax (fun h=>h);simp only [go_sem,Nat.reduceAdd,Nat.reduceEqDiff,Nat.reduceLT,Nat.reduceLeDiff,Nat.reduceMul,reduceCtorEq,↓reduceIte,an,bq,b0,dB,mW];refine dk ?_;intro w3 sQ ab _;refine cX (cs:=[.string ⟨#[]⟩,I 0]) rfl rfl sQ rfl rfl (by simp [Value.oneCell']) ?_;intro w4 aH ai _;have du:Mod (fun _=>False) w2 w4:=ab.step ai (fun x U hl=>by subst U;omega);have eh:=ae.trans du;have lJ:=du.at dC (fun h=>h);have e1:IntKind.i64.wrap ((i:Int)+1)=((i+1:Nat):Int):=by rw [cy (by omega) (by omega)];omega
  have h4d:=h2.mod du.drew (fun _ _ h=>h) (fun _ h=>h);have ajA:w4.drew.heap[w2.heap.size]? = _:=aH;have sR:=dM (cs:=[_,_]) (off:=0) (n:=2) ajA (by simp);simp only [go_sem,Nat.reduceAdd,Nat.reduceEqDiff,Nat.reduceLT,Nat.reduceLeDiff,Nat.reduceMul,reduceCtorEq,↓reduceIte,cell_of lJ];refine iG (fun ρ w'=>w'=w4.drew∧ρ.get 1=some (ptr b1)∧ρ.get 3=some (.map (some bM))∧ρ.get 48=some (.slice (some ⟨bG,0,none⟩) 7 7)∧ρ.get 49=some (I 7)∧ρ.get 50=some (I i)∧ρ.get 68=some (.bool (decide (T.au[i]?≠some gs)))) ?_ ?_
  ·by_cases gz:i < T.au.length
   ·have hge:decide ((i:Int)≥T.au.length)=false:=decide_eq_false (by omega);obtain ⟨ad,c,e',ed⟩:=Xj h4d gz;cases e';have og:(0:Int)≤i∧(i:Int) < T.au.length:=by omega
    simp only [go_sem,Nat.reduceAdd,Nat.reduceEqDiff,Nat.reduceLT,Nat.reduceLeDiff,Nat.reduceMul,reduceCtorEq,↓reduceIte,an,bq,hge,cell_of lJ,og,ed,sR];rw [Ht,kU,List.getElem?_eq_getElem gz]
    congr 1
    by_cases q:T.au[i]=gs
    ·simp [q]
    ·have:¬ (T.au[i].name=gs.name∧T.au[i].fields=gs.fields):=fun hh=>q ((ajy _ _).2 hh)
     rw [← Bool.decide_and,decide_eq_false this];simp [q]
   ·have hge:decide ((i:Int)≥T.au.length)=true:=decide_eq_true (by omega);simp only [go_sem,Nat.reduceAdd,Nat.reduceEqDiff,Nat.reduceLT,Nat.reduceLeDiff,Nat.reduceMul,reduceCtorEq,↓reduceIte,hge];rw [List.getElem?_eq_none (by omega)];simp
  rintro ρ _ ⟨rfl,r1,r3,r48,r49,r50,r68⟩;simp only [go_sem,Nat.reduceAdd,Nat.reduceEqDiff,Nat.reduceLT,Nat.reduceLeDiff,Nat.reduceMul,reduceCtorEq,↓reduceIte,r1,r3,r48,r49,r50,r68];refine aY rfl (fun ix=>?_) (fun ix=>?_)
  ·simp only [aL,aM,aN,an,aQ] at ix;refine φ ?_;refine ml _ (fun e=>ix ?_) eh.drew;rw [← hg7,← e,List.getElem?_take,if_pos ah]
  ·have ct:T.au[i]? = some gs:=by simpa using ix
   simp only [go_sem,Nat.reduceAdd,Nat.reduceEqDiff,Nat.reduceLT,Nat.reduceLeDiff,Nat.reduceMul,reduceCtorEq,↓reduceIte,e1];refine ⟨_,by omega,i+1,rfl,by omega,eh.drew,?_,rfl⟩;obtain ⟨gz,hv⟩:=List.getElem?_eq_some_iff.1 ct;rw [hgt,List.take_succ_eq_append_getElem gz,hv,eW]
 ·have ah:¬ i < 7:=by
   simp only [aL,aM,aN,an,aQ] at ah;omega
  obtain rfl:i=7:=by omega
  refine φ ?_;refine fi w2 _ ?_ ae;rw [eW];rfl
theorem ajB {l:List Gl} {i:Nat} (h:i < l.length):sM T (l.drop i)=if oY T l[i]=0 then sM T (l.drop (i+1)) else oY T l[i]:=by
 rw [List.drop_eq_getElem_cons h];rfl
theorem ajC (h:fM w cu ci T B) (hT:sN T) (mY:∀ b,B b→b < w.heap.size) (kz:∀ s∈T.au,0≤s.fields∧s.fields≤8) (fU:∀ g∈T.globals,0≤g.arity∧g.arity≤24) (ik:∀ g∈T.globals,g.code.length≤8000) {b1:Nat} (ax:w.heap[b1]? = some (.cells #[cu,ci] 25 (0,0)))
   {Q:gI} (ml:∀ w' e,e≠0→sM T T.globals=e→Mod (fun _=>False) w w'→Q .ret [(2,I e)] w')
   (fi:∀ w' t,sM T T.globals=0→Mod (fun _=>False) w w'→Q .normal [(1,ptr b1),(104,ci),(105,I T.globals.length),(106,I T.globals.length),(107,t)] w') :
   cM Tryz.prog 117 (.block 6 (.loop LH)) Q [(1,ptr b1),(104,ci),(105,I T.globals.length),(106,I 0)] w:=by
 have h0:=h;obtain ⟨⟨aS,cS,rfl⟩,aG,cG,rfl⟩:=oe h;have Ed:=hT.gn;refine σ ?_
 refine dA (fun z ρ w'=>∃ i:Nat,z=T.globals.length - i∧i≤T.globals.length∧Mod (fun _=>False) w w'∧sM T T.globals=sM T (T.globals.drop i) ∧
  ρ=[(1,ptr b1),(104,.slice aG T.globals.length cG),(105,I T.globals.length),(106,I i)]) T.globals.length ⟨0,rfl,by omega,Mod.refl _ _,rfl,rfl⟩ ?_
 rintro z ρ w2 ⟨i,rfl,hi,ae,eW,rfl⟩;unfold LH;refine σ ?_;refine aY rfl (fun ah=>?_) (fun ah=>?_)
 ·have ah:i < T.globals.length:=by simpa using ah
  have h2:=h.mod ae (fun _ _ h=>h) (fun _ h=>h);obtain ⟨ad,c,cv,e',ed,gH⟩:=Ec h2 ah;cases e';have N7:=List.getElem_mem ah;have dN:=ajB (T:=T) ah;generalize N6:T.globals[i]=g at *;have og:(0:Int)≤i∧(i:Int) < T.globals.length:=by omega
  unfold qU at ed;simp only [go_sem,simprocAttr,an,bq,og,ed];refine dk ?_;intro w3 sQ ab _;refine cX (cs:=[.string ⟨#[]⟩,I 0,.slice none 0 0]) rfl rfl sQ rfl rfl (by obtain ⟨sO,lQ,rfl⟩:=uq gH;simp [Value.oneCell']) ?_;intro w4 aH ai _;have du:Mod (fun _=>False) w2 w4:=ab.step ai (fun x U hl=>by subst U;omega);have eh:=ae.trans du;have lJ:=eh.at ax (fun h=>h);have jG:=dM (cs:=[_,_]) (off:=0) (n:=2) lJ (by simp);have sR:=dM (cs:=[_,_,_]) (off:=0) (n:=3) aH (by simp);have e1:IntKind.i64.wrap ((i:Int)+1)=((i+1:Nat):Int):=by rw [cy (by omega) (by omega)];omega
  simp only [go_sem,simprocAttr,jG,sR];refine δ (by rfl) (ajr (g:=g) (h0.mod eh (fun _ _ h=>h) (fun _ h=>h)) (gH.mod du (fun _ _ h=>h) (fun _ h=>h)) (fun b hb=>by have:=mY b hb;have:=eh.size;omega) kz (fU g N7) (ik g N7) (hT.xa g N7)) ?_;rintro _ w5 ⟨rfl,aB⟩;have dH:=eh.trans aB;refine σ ?_;refine aY rfl (fun hz=>?_) (fun hz=>?_)
  ·simp only [aL,aM,aN,an,aQ] at hz;refine σ ?_;exact ml _ _ hz (by rw [eW,dN,if_neg hz]) dH
  ·simp only [aL,aM,aN,an,aQ] at hz;simp only [go_sem,simprocAttr,e1];exact ⟨_,by omega,i+1,rfl,by omega,dH,by rw [eW,dN,if_pos hz],rfl⟩
 ·have ah:¬ i < T.globals.length:=by simpa using ah
  obtain rfl:i=T.globals.length:=by omega
  refine σ ?_;refine fi w2 _ ?_ ae;rw [eW,List.drop_length];rfl
theorem ajD (h:fM w cu ci T B) (hT:sN T) (mY:∀ b,B b→b < w.heap.size):aK Tryz.prog 73 [jX cu ci] w fun r w'=>r=I (qT T)∧Mod (fun _=>False) w w':=by
 have h0:=h;obtain ⟨⟨aS,cS,rfl⟩,aG,cG,rfl⟩:=oe h;refine afZ.calls rfl ?_;unfold LI jX;refine σ ?_;refine cK rfl ?_;intro w1 ax ag cL;have ax:w1.heap[w.heap.size]? = some (.cells #[.slice aS T.au.length cS,.slice aG T.globals.length cG] 25 (0,0)):=ax;have h1:=h0.mod ag (fun _ _ h=>h) (fun _ h=>h);have jG:=dM (cs:=[_,_]) (off:=0) (n:=2) ax (by simp);simp only [go_sem,simprocAttr,jG];refine δ (by rfl) (ai4 h1 hT) ?_;rintro _ w2 ⟨rfl,ae⟩;have cq:=ag.trans ae;have aC:=ae.at ax (fun h=>h);refine σ ?_;refine aY rfl (fun hg=>?_) (fun hg=>?_)
 ·refine σ ?_;have e:qT T=4:=by unfold qT;rw [if_pos hg]
  rw [e];exact ⟨rfl,cq⟩
 have e0:qT T=if kA 8 [] (jr T)=false then 172 else if ¬ (T.au.take 7=kB) then 172 else if kA 24 [] (iO T)=false then 172 else sM T T.globals:=by
  unfold qT;rw [if_neg (by rw [hg];simp)]
 refine σ ?_;refine WV ?_;intro w3 mq ab _;have dy:=cq.trans ab;have aJ:=ab.at aC (fun h=>h);have lB:∀ b,B b→b < w2.heap.size:=fun b hb=>by have:=mY b hb;have:=cq.size;omega
 have lb:=lt_of_heap aC;simp only [go_sem,simprocAttr,cell_of aJ];refine aju (b1:=w.heap.size) (bM:=w2.heap.size) (h0.mod dy (fun _ _ h=>h) (fun _ h=>h)) hT (fun b hb e=>by have:=lB b hb;omega) mq ?_ ?_
 ·intro w4 hn ai;refine σ ?_;rw [e0,if_pos hn];exact ⟨rfl,dy.step ai (fun x U hl=>by subst U;have:=cq.size;omega)⟩
 intro w4 t4 l4 Bv q0 ai;rw [if_neg (by rw [Bv];simp)] at e0;have eh:=dy.step ai (fun x U hl=>by subst U;have:=cq.size;omega);have aH:=ai.at aJ (fun e=>by omega);refine σ ?_;refine δ (by rfl) (ai0 w4) ?_;rintro _ w5 ⟨rfl,hG5,aB⟩;have dH:=eh.trans aB;have bZ:=aB.at aH (fun h=>h);have sS:=p7 q0 aB (fun h=>h);refine σ ?_;refine ajz (b1:=w.heap.size) (bM:=w2.heap.size) (bG:=w4.heap.size) (h0.mod dH (fun _ _ h=>h) (fun _ h=>h)) hT bZ hG5 ?_ ?_
 ·intro w6 hn aD;refine σ ?_;rw [e0,if_pos hn];exact ⟨rfl,dH.trans aD⟩
 intro w6 t6 oU aD;rw [if_neg (by simpa using oU)] at e0;have gE:=dH.trans aD;have cN:=aD.at bZ (fun h=>h);have xU:=p7 sS aD (fun h=>h);refine σ ?_;refine aiV (t:=80) (kt:=9) (et:=3) rfl (by rfl) Tryz.underlying80 xU ?_;intro w7 hM7 aX _;have jV:=gE.step aX (fun x U hl=>by subst U;have:=cq.size;omega);have cm:=aX.at cN (fun e=>by omega);simp only [go_sem,simprocAttr,cell_of cm];refine ajv (b1:=w.heap.size) (bM:=w2.heap.size) (h0.mod jV (fun _ _ h=>h) (fun _ h=>h)) hT (fun b hb e=>by have:=lB b hb;omega) hM7 ?_ ?_
 ·intro w8 hn ch;refine σ ?_;rw [e0,if_pos hn];exact ⟨rfl,jV.step ch (fun x U hl=>by subst U;have:=cq.size;omega)⟩
 intro w8 t8 l8 Bb hM8 ch;rw [if_neg (by rw [Bb];simp)] at e0;have Ej:=jV.step ch (fun x U hl=>by subst U;have:=cq.size;omega);have eB:=ch.at cm (fun e=>by omega);obtain ⟨s1,_⟩:=Hk _ _ Bv;obtain ⟨g1,_⟩:=Hk _ _ Bb;have kz:∀ s∈T.au,0≤s.fields∧s.fields≤8:=fun s hs=>(s1 (s.name,s.fields) (List.mem_map.2 ⟨s,hs,rfl⟩)).2.2
 have fU:∀ g∈T.globals,0≤g.arity∧g.arity≤24:=fun g hg=>(g1 (g.name,g.arity) (List.mem_map.2 ⟨g,hg,rfl⟩)).2.2
 have ik:∀ g∈T.globals,g.code.length≤8000:=fun g de=>by
  rw [NO,Bool.or_eq_false_iff,List.any_eq_false] at hg;have:=hg.1 g de;simp at this;omega
 simp only [go_sem,simprocAttr,cell_of eB];refine ajC (b1:=w.heap.size) (h0.mod Ej (fun _ _ h=>h) (fun _ h=>h)) hT (fun b hb=>by have:=mY b hb;have:=Ej.size;omega) kz fU ik eB ?_ ?_
 ·intro w9 e he hn dO;refine σ ?_;rw [e0,hn];exact ⟨rfl,Ej.trans dO⟩
 ·intro w9 t hn dO;refine σ ?_;rw [e0,hn];exact ⟨rfl,Ej.trans dO⟩
end
end
section
open Go Go.W Go.W.Z
def Xk:IR:=.seq (z [le 117 1,bi 118 .lss 15 117] [1,9,15,118] <| j 118 (.skip) ((.exit 0))) <| .seq (.block 1 (.seq (q' [m 121 9,m 122 15,ia 123 2 121 122,ln 124 2 123,m 125 1,m 126 15,ia 127 2 125 126,ln 128 2 127,.r (some 129) (.qj true [(0,.str),(1,.int)] (.t 124) (.t 128))] [1,9,15,129]) <| j 129 (z [.r (some 4) (.mv (.c (.bool false)))] [4] <| .ret) (.skip))) <| q [bk 120 .add 15 1,m 15 120] [1,9,15]
def N8:IR:=z [] [0,1] <| z [c 16 8 [],m 5 16] [0,1,5] <| z [c 20 13 [0,1],ex 21 0 20,ex 22 1 20,m 6 21,m 7 22] [0,1,5,6,7] <| z [le 24 0,bk 25 .add 24 1,.e (some 26) (.ms 42 2 24 #[(.string ⟨#[]⟩),(i 0)] (k 0) (.t 25)),.e (some 28) (.ap 42 2 24 #[(.string ⟨#[]⟩),(i 0)] (.t 26) (.t 0)),.r (some 29) (.bd #[(.string ⟨#[]⟩),(i 0)] [(0,1,(.c (.string ⟨#[98,101,104,105,110,100]⟩)))]),.e (some 30) (.bs 42 1 #[(.string ⟨#[]⟩),(i 0)] [(0,2,(.t 29))]),.e (some 31) (.ap 42 2 24 #[(.string ⟨#[]⟩),(i 0)] (.t 28) (.t 30)),m 8 31] [0,1,5,6,7,8] <| z [le 33 1,bk 34 .add 33 1,.e (some 35) (.ms 47 2 24 #[(.string ⟨#[]⟩),(i 0)] (k 0) (.t 34)),.e (some 37) (.ap 47 2 24 #[(.string ⟨#[]⟩),(i 0)] (.t 35) (.t 1)),.r (some 38) (.bd #[(.string ⟨#[]⟩),(i 0)] [(0,1,(.c (.string ⟨#[98,101,104,105,110,100]⟩)))]),.e (some 39) (.bs 47 1 #[(.string ⟨#[]⟩),(i 0)] [(0,2,(.t 38))]),.e (some 40) (.ap 47 2 24 #[(.string ⟨#[]⟩),(i 0)] (.t 37) (.t 39)),m 9 40] [0,1,5,6,7,8,9] <| .seq (q' [m 42 8,m 43 0,le 44 43,.r (some 45) (.sl 2 (.t 42) none (some (.t 44)) none),m 46 9,m 47 1,le 48 47,.r (some 49) (.sl 2 (.t 46) none (some (.t 48)) none),c 50 14 [45,49],m 41 50,ex 51 0 41,ex 52 1 41,m 10 51,m 11 52] [0,1,5,6,7,8,9,10,11]) <| .seq (q' [m 54 8,m 55 0,le 56 55,.r (some 57) (.sl 2 (.t 54) none (some (.t 56)) none),m 58 9,m 59 1,le 60 59,.r (some 61) (.sl 2 (.t 58) none (some (.t 60)) none),c 62 14 [57,61],m 53 62,ex 63 0 53,ex 64 1 53,m 12 63,m 13 64] [0,1,5,6,7,8,9,10,11,12,13]) <| z [le 67 0,.r (some 68) (.sl 2 (.t 8) none (some (.t 67)) none),c 70 15 [68,0],m 14 70] [0,1,5,6,7,8,9,10,11,12,13,14] <| .seq (z [no 72 5,m' 72 false 74 10,m' 72 false 75 6,gJ 72 false 76 .neq 74 75,u 77 72 76,m' 77 false 79 11,m' 77 false 80 7,gJ 77 false 81 .neq 79 80,u 82 77 81,m' 82 false 84 12,m' 82 false 85 6,gJ 82 false 86 .neq 84 85,u 87 82 86,m' 87 false 89 13,m' 87 false 90 7,gJ 87 false 91 .neq 89 90,u 92 87 91,m' 92 false 94 14,yD 92 false 95 94,u 96 92 95,m' 96 false 98 8,m' 96 false 99 0,jS 96 false 100 99,uW 96 false 101 2 98 100,f' 96 false 102 0 101,l' 96 false 103 102,.gr 96 false (some 104) (.bi .neq (.t 103) (.c (.string ⟨#[98,101,104,105,110,100]⟩))),u 105 96 104,m' 105 false 107 9,m' 105 false 108 1,jS 105 false 109 108,uW 105 false 110 2 107 109,f' 105 false 111 0 110,l' 105 false 112 111,.gr 105 false (some 113) (.bi .neq (.t 112) (.c (.string ⟨#[98,101,104,105,110,100]⟩))),u 114 105 113] [1,9,114] <| j 114 (z [.r (some 4) (.mv (.c (.bool false)))] [4] <| .ret) (.skip)) <| .seq (z [mk 15 0] [1,9,15] <| .block 0 (.loop Xk)) <| z [.r (some 4) (.mv (.c (.bool true)))] [4] <| .ret
theorem ajE:Fits Tryz.prog 4 2 (bf Tryz.f4 N8) N8 [.t 4] 130:=.m Tryz.f4 _
def N9:IR:=z [] [] <| z [c 6 19 [],.r (some 7) (.bd #[(i 0),(.bool false),(i 0)] [(0,1,(k 100))]),.e (some 8) (.call 11 [(.t 6),(.c (.string ⟨#[109]⟩)),(.c (.slice none 0 0)),(.t 7),(k 1000)]),ex 9 0 8,ex 10 1 8,.e (some 1) (.al 37 (.agg #[(i 0),(.slice none 0 0),(i 0),(i 0),(i 0),(i 0),(i 0),(.string ⟨#[]⟩)])),s 8 1 9,m 2 10] [1,2] <| z [.r (some 12) (.bd #[(.string ⟨#[]⟩),(i 0)] [(1,1,(k 5))]),.e (some 13) (.bs 42 1 #[(.string ⟨#[]⟩),(i 0)] [(0,2,(.t 12))]),.e (some 14) (.call 14 [(.t 13),(.c (.slice none 0 0))]),ex 15 0 14,ex 16 1 14,m 3 15,m 4 16] [1,2,3,4] <| z [bk 18 .eql 2 0,f' 18 true 20 0 1,l' 18 true 21 20,di 18 true 22 .eql 21 2,a 23 18 22,f' 23 true 25 1 1,l' 23 true 26 25,jS 23 true 27 26,di 23 true 28 .eql 27 1,a 29 23 28,f' 29 true 31 1 1,l' 29 true 32 31,.gr 29 true (some 33) (.ia 2 (.t 32) (k 0)),tL 29 true 34 2 33,.gr 29 true (some 35) (.bd #[(.string ⟨#[]⟩),(i 0)] [(1,1,(k 7))]),.gr 29 true (some 36) (.qj false [(0,.str),(1,.int)] (.t 34) (.t 35)),a 37 29 36,m' 37 true 39 3,.gr 37 true (some 40) (.bi .eql (.t 39) (.c (.string ⟨#[53]⟩))),a 41 37 40,m' 41 true 43 4,di 41 true 44 .eql 43 0,a 45 41 44,m 0 45] [0] <| .ret
theorem ajF:Fits Tryz.prog 8 0 (bf Tryz.f8 N9) N9 [.t 0] 46:=.m Tryz.f8 _
def N':IR:=z [.e (some 5) (.bx 25 (.t 0)),.e (some 8) (.bx 28 (.t 3)),.e (some 10) (.al 37 (.agg #[(i 0),(.slice none 0 0),(i 0),(i 0),(i 0),(i 0),(i 0),(.string ⟨#[]⟩)]))] [1,2,4,5,8,10] <| z [ln 15 2 5,ln 18 3 8,c 20 23 [15,1,2,18,4],ex 21 0 20,ex 22 1 20,m 12 21,m 13 22] [4,10,12,13] <| .seq (z [bk 24 .neq 13 0] [4,10,12,13,24] <| j 24 (z [.r (some 25) (.bd #[(i 0),(.slice none 0 0),(i 0),(i 0),(i 0),(i 0),(i 0),(.string ⟨#[]⟩)] []),s 8 10 25,m 11 13] [10,11] <| .ret) (.skip)) <| z [c 29 24 [12,4]] [10,12] <| z [c 31 25 [12],s 8 10 31,mk 11 0] [10,11] <| .ret
theorem ajG:Fits Tryz.prog 11 5 (bf Tryz.f11 N') N' [.n 10 8,.t 11] 32:=.m Tryz.f11 _
def Oa:IR:=.seq (z [bk 69 .geq 13 0] [6,7,9,10,12,13,69] <| j 69 (.skip) ((.exit 3))) <| .seq (.block 4 (q [ia 75 3 12 13,ln 76 3 75,.e (some 77) (.bs 76 1 #[(i 0),(.string ⟨#[]⟩),(i 0)] [(0,3,(.t 76))]),.e (some 78) (.ap 76 3 32 #[(i 0),(.string ⟨#[]⟩),(i 0)] (.t 10) (.t 77)),m 10 78] [6,7,9,10,12,13])) <| q [bk 71 .sub 13 1,m 13 71] [6,7,9,10,12,13]
def Xl:IR:=.seq (z [le 26 10,bk 27 .gtr 26 0] [6,7,9,10,27] <| j 27 (.skip) ((.exit 0))) <| .block 1 (z [le 30 10,bk 31 .sub 30 1,ia 32 3 10 31,ln 33 3 32,.e (some 11) (.al 76 (.agg #[(i 0),(.string ⟨#[]⟩),(i 0)])),s 3 11 33] [6,7,9,10,11] <| z [le 36 10,bk 37 .sub 36 1,.r (some 38) (.sl 3 (.t 10) none (some (.t 37)) none),m 10 38] [6,7,9,10,11] <| z [.r (some 12) (.mv (.c (.slice none 0 0)))] [6,7,9,10,11,12] <| .seq (z [f 39 0 11,l 40 39] [6,7,9,10,11,12,40] <| .block 2 (z [bk 42 .eql 40 1,m 41 42] [6,7,9,10,11,12,40,41] <| j 41 (q [m 43 9,f 44 1 11,l 45 44,.e (some 46) (.raw ⟨(some 46),(.call { callee:=(.builtin .append),args:=#[(.tmp 43),(.tmp 45)],argTypes:=#[74,9]}),74, "ref.go:206",#[⟨0,.data⟩,⟨2,.data⟩],none⟩),m 9 46] [6,7,9,10,12]) (z [bk 48 .eql 40 2,m 47 48] [6,7,9,10,11,12,40,47] <| j 47 (q [f 50 2 11,l 51 50,c 52 27 [6,51],m 12 52] [6,7,9,10,12]) (z [bk 54 .eql 40 3,m 53 54] [6,7,9,10,11,12,40,53] <| j 53 (q [f 56 2 11,l 57 56,c 58 28 [6,57],m 12 58] [6,7,9,10,12]) (z [bk 60 .eql 40 4,m 59 60] [6,7,9,10,11,12,59] <| j 59 (q [f 62 2 11,l 63 62,c 64 29 [6,63],m 12 64] [6,7,9,10,12]) (.skip)))))) <| z [le 66 12,bk 67 .sub 66 1,m 13 67] [6,7,9,10,12,13] <| .block 3 (.loop Oa))
def Ob:IR:=z [] [0,1] <| z [c 17 26 [0,1],ex 18 0 17,ex 19 1 17,ex 20 2 17,m 6 18,m 7 19,m 8 20] [6,7,8] <| .seq (z [no 22 8] [6,7,22] <| j 22 (z [.r (some 4) (.mv (.c (.string ⟨#[]⟩))),mk 5 (-1)] [4,5] <| .ret) (.skip)) <| z [.r (some 9) (.mv (.c (.slice none 0 0)))] [6,7,9] <| z [.r (some 23) (.bd #[(i 0),(.string ⟨#[]⟩),(i 0)] [(0,1,(k 2)),(2,1,(k 0))]),.e (some 24) (.bs 76 1 #[(i 0),(.string ⟨#[]⟩),(i 0)] [(0,3,(.t 23))]),m 10 24] [6,7,9,10] <| .seq (.block 0 (.loop Xl)) <| z [m 79 9,.e (some 80) (.raw ⟨(some 80),(.convert 74 9 (.tmp 79)),9, "ref.go:218",#[⟨0,.data⟩],none⟩),m 81 7,m 4 80,m 5 81] [4,5] <| .ret
theorem ajH:Fits Tryz.prog 13 2 (bf Tryz.f13 Ob) Ob [.t 4,.t 5] 82:=.m Tryz.f13 _
def Xm:IR:=z [bi 18 .lss 17 16] [0,6,15,16,17,18] <| .seq (j 18 (.skip) ((.exit 0))) <| .seq (.block 1 (z [ia 19 2 15 17,ln 20 2 19,.e (some 8) (.al 47 (.agg #[(.string ⟨#[]⟩),(i 0)])),s 2 8 20] [0,6,8,15,16,17] <| .seq (q' [m 22 6,n 23 22,f 24 2 23,l 25 24,f 26 0 8,l 27 26,.e (some 28) (.raw ⟨(some 28),(.lookup 80 (.tmp 25) (.tmp 27) true),87, "stream.go:221",#[⟨3,.data⟩,⟨5,.data⟩],none⟩),m 21 28,ex 29 0 21,ex 30 1 21,m 9 29,m 10 30] [0,6,8,10,15,16,17]) <| z [no 32 10] [0,6,8,15,16,17,32] <| j 32 (q' [m 33 6,n 34 33,f 35 2 34,l 36 35,f 37 0 8,l 38 37,f 39 1 8,l 40 39,.e none (.raw ⟨none,(.mapUpdate 80 (.tmp 36) (.tmp 38) (.tmp 40)),0, "stream.go:222",#[⟨3,.data⟩,⟨5,.data⟩,⟨7,.data⟩,⟨0,.phase⟩,⟨1,.phase⟩,⟨2,.phase⟩,⟨3,.phase⟩,⟨4,.phase⟩,⟨5,.phase⟩,⟨6,.phase⟩,⟨7,.phase⟩],none⟩)] [0,6,15,16,17]) (.skip))) <| q [bk 41 .add 17 1,m 17 41] [0,6,15,16,17]
def Oc:IR:=z [] [0,1] <| z [m 11 0,.e (some 12) (.raw ⟨(some 12),(.makeMap 80 none),80, "stream.go:219",#[],none⟩),.r (some 13) (.bd #[(.slice none 0 0),(i 0),(.map none),(i 0),(.slice none 0 0),(.pointer none),(.slice none 0 0)] [(0,1,(.t 11)),(2,1,(.t 12))]),.e (some 14) (.bx 86 (.t 13)),m 6 14] [0,1,6] <| .seq (z [m 15 1,le 16 15,mk 17 0] [0,6,15,16,17] <| .block 0 (.loop Xm)) <| .seq (z [c 43 30 [6],no 44 43] [0,6,44] <| j 44 (z [.r (some 4) (.mv (.c (.string ⟨#[]⟩))),mk 5 (-1)] [4,5] <| .ret) (.skip)) <| z [c 46 31 [6]] [0,6] <| .seq (z [n 48 6,f 49 1 48,l 50 49,le 52 0,bi 53 .lss 50 52] [6,53] <| j 53 (z [.r (some 4) (.mv (.c (.string ⟨#[]⟩))),mk 5 (-1)] [4,5] <| .ret) (.skip)) <| .seq (.dr (r 0 54 (.mv (.t 6)) <| r 1 55 (.nn (.t 54)) <| r 2 56 (.fa 5 (.t 55)) <| r 4 58 (.mv (.t 6)) <| r 5 59 (.nn (.t 58)) <| r 6 60 (.fa 3 (.t 59)) <| r 7 61 (.l1 (.t 60)) <| .e 3 none (some 57) (.call 32 [(.t 56)]) [7] <| r 8 4 (.mv (.t 57)) <| r 9 5 (.mv (.t 61)) <| .nil) [4,5]) <| .ret
theorem ajI:Fits Tryz.prog 14 2 (bf Tryz.f14 Oc) Oc [.t 4,.t 5] 62:=.m Tryz.f14 _
def Xn:IR:=.seq (z [le 13 0,bi 14 .lss 5 13] [0,1,5,14] <| j 14 (.skip) ((.exit 0))) <| .seq (.block 1 (.seq (q' [m 17 0,m 18 5,ia 19 2 17 18,ln 20 2 19,m 21 1,m 22 5,ia 23 2 21 22,ln 24 2 23,.r (some 25) (.qj true [(0,.str),(1,.int)] (.t 20) (.t 24))] [0,1,5,25]) <| j 25 (z [.r (some 4) (.mv (.c (.bool false)))] [4] <| .ret) (.skip))) <| q [bk 16 .add 5 1,m 5 16] [0,1,5]
def Od:IR:=z [] [0,1] <| .seq (z [le 7 0,le 9 1,bi 10 .neq 7 9] [0,1,10] <| j 10 (z [.r (some 4) (.mv (.c (.bool false)))] [4] <| .ret) (.skip)) <| .seq (z [mk 5 0] [0,1,5] <| .block 0 (.loop Xn)) <| z [.r (some 4) (.mv (.c (.bool true)))] [4] <| .ret
theorem ajJ:Fits Tryz.prog 15 2 (bf Tryz.f15 Od) Od [.t 4] 26:=.m Tryz.f15 _
def Oe:IR:=z [.e (some 0) (.al 25 (.agg #[(.slice none 0 0),(.slice none 0 0)]))] [0] <| z [.r (some 2) (.bd #[(.string ⟨#[]⟩),(i 0)] [(0,1,(.c (.string ⟨#[70,97,108,115,101]⟩)))]),.r (some 3) (.bd #[(.string ⟨#[]⟩),(i 0)] [(0,1,(.c (.string ⟨#[84,114,117,101]⟩)))]),.r (some 4) (.bd #[(.string ⟨#[]⟩),(i 0)] [(0,1,(.c (.string ⟨#[85,110,105,116]⟩)))]),.r (some 5) (.bd #[(.string ⟨#[]⟩),(i 0)] [(0,1,(.c (.string ⟨#[78,105,108]⟩)))]),.r (some 6) (.bd #[(.string ⟨#[]⟩),(i 0)] [(0,1,(.c (.string ⟨#[67,111,110,115]⟩))),(1,1,(k 2))]),.r (some 7) (.bd #[(.string ⟨#[]⟩),(i 0)] [(0,1,(.c (.string ⟨#[80,97,105,114]⟩))),(1,1,(k 2))]),.r (some 8) (.bd #[(.string ⟨#[]⟩),(i 0)] [(0,1,(.c (.string ⟨#[84,114,105,112,108,101]⟩))),(1,1,(k 3))]),.e (some 9) (.bs 47 7 #[(.string ⟨#[]⟩),(i 0),(.string ⟨#[]⟩),(i 0),(.string ⟨#[]⟩),(i 0),(.string ⟨#[]⟩),(i 0),(.string ⟨#[]⟩),(i 0),(.string ⟨#[]⟩),(i 0),(.string ⟨#[]⟩),(i 0)] [(0,2,(.t 2)),(2,2,(.t 3)),(4,2,(.t 4)),(6,2,(.t 5)),(8,2,(.t 6)),(10,2,(.t 7)),(12,2,(.t 8))]),.r (some 10) (.bd #[(.slice none 0 0),(.slice none 0 0)] [(0,1,(.t 9))]),.e (some 1) (.al 25 (.agg #[(.slice none 0 0),(.slice none 0 0)])),s 2 1 10] [0,1] <| z [.r (some 11) (.bd #[(i 0),(i 0),(i 0)] [(0,1,(k 3)),(1,1,(k 7))]),.r (some 12) (.bd #[(i 0),(i 0),(i 0)] [(0,1,(k 7)),(1,1,(k 1))]),.r (some 13) (.bd #[(i 0),(i 0),(i 0)] [(0,1,(k 17))]),.e (some 14) (.bs 61 3 #[(i 0),(i 0),(i 0),(i 0),(i 0),(i 0),(i 0),(i 0),(i 0)] [(0,3,(.t 11)),(3,3,(.t 12)),(6,3,(.t 13))]),.r (some 15) (.bd #[(.string ⟨#[]⟩),(i 0),(.slice none 0 0)] [(0,1,(.c (.string ⟨#[109]⟩))),(2,1,(.t 14))]),.e (some 16) (.bs 59 1 #[(.string ⟨#[]⟩),(i 0),(.slice none 0 0)] [(0,3,(.t 15))]),f 17 1 1,s 1 17 16] [0,1] <| z [ln 18 2 1,s 2 0 18] [0] <| .ret
theorem ajK:Fits Tryz.prog 19 0 (bf Tryz.f19 Oe) Oe [.n 0 2] 19:=.m Tryz.f19 _
def Of:IR:=z [.e (some 5) (.bx 25 (.t 0)),.e (some 8) (.bx 28 (.t 3))] [1,2,4,5,8] <| .seq (z [le 15 2,bk 16 .gtr 15 10000] [1,2,4,5,8,16] <| j 16 (z [.r (some 10) (.mv (.c (.pointer none))),mk 11 2] [10,11] <| .ret) (.skip)) <| .seq (z [bk 18 .lss 4 0,m' 18 false 20 4,di 18 false 21 .gtr 20 16777216,u 22 18 21] [1,2,5,8,22] <| j 22 (z [.r (some 10) (.mv (.c (.pointer none))),mk 11 1] [10,11] <| .ret) (.skip)) <| z [ln 24 2 5,ln 27 3 8,c 28 44 [24,1,2,27],ex 29 0 28,ex 30 1 28,m 12 29,m 13 30] [12,13] <| .seq (z [bk 32 .eql 13 220] [12,13,32] <| j 32 (q [mk 13 230] [12,13]) (.skip)) <| z [m 10 12,m 11 13] [10,11] <| .ret
theorem ajL:Fits Tryz.prog 23 5 (bf Tryz.f23 Of) Of [.t 10,.t 11] 35:=.m Tryz.f23 _
def Og:IR:=.seq (z [bi 69 .lss 14 13] [0,1,7,8,9,11,12,13,14,69] <| j 69 (.skip) ((.exit 2))) <| .seq (.block 3 (z [f 72 3 12,l 73 72,le 75 7,.e (some 76) (.bs 3 1 #[(i 0)] [(0,1,(.t 75))]),.e (some 77) (.ap 3 1 8 #[(i 0)] (.t 73) (.t 76)),f 78 3 12,s 1 78 77] [0,1,7,8,9,11,12,13,14] <| q [.r (some 80) (.bd #[(.bool false),(.string ⟨#[]⟩),(i 0),(.slice none 0 0)] [(0,1,(.c (.bool true)))]),.e (some 81) (.bs 115 1 #[(.bool false),(.string ⟨#[]⟩),(i 0),(.slice none 0 0)] [(0,4,(.t 80))]),.e (some 82) (.ap 115 4 56 #[(.bool false),(.string ⟨#[]⟩),(i 0),(.slice none 0 0)] (.t 7) (.t 81)),m 7 82] [0,1,7,8,9,11,12,13,14])) <| q [bk 71 .add 14 1,m 14 71] [0,1,7,8,9,11,12,13,14]
def Oh:IR:=.seq (z [bk 86 .geq 15 0] [0,1,7,8,9,11,12,15,86] <| j 86 (.skip) ((.exit 4))) <| .seq (.block 5 (q [f 90 3 12,l 91 90,ia 93 1 91 15,l 94 93,.e (some 95) (.bs 3 1 #[(i 0)] [(0,1,(.t 94))]),.e (some 96) (.ap 3 1 8 #[(i 0)] (.t 8) (.t 95)),m 8 96] [0,1,7,8,9,11,12,15])) <| q [bk 88 .sub 15 1,m 15 88] [0,1,7,8,9,11,12,15]
def Xo:IR:=.seq (z [le 21 0,bi 22 .lss 9 21] [0,1,7,8,9,22] <| j 22 (.skip) ((.exit 0))) <| .seq (.block 1 (z [ia 27 2 0 9,ln 28 2 27,c 30 46 [28,1],m 10 30] [0,1,7,8,9,10] <| .seq (z [no 32 10,m' 32 false 34 8,jS 32 false 35 34,di 32 false 36 .eql 35 0,u 37 32 36] [0,1,7,8,9,37] <| j 37 (z [.r (some 4) (.mv (.c (.slice none 0 0))),mk 5 0,.r (some 6) (.mv (.c (.bool false)))] [4,5,6] <| .ret) (.skip)) <| z [le 40 8,bk 41 .sub 40 1,ia 42 1 8 41,l 43 42,m 11 43] [0,1,7,8,9,11] <| z [le 46 8,bk 47 .sub 46 1,.r (some 48) (.sl 1 (.t 8) none (some (.t 47)) none),m 8 48] [0,1,7,8,9,11] <| .seq (.dr (r 0 49 (.mv (.t 0)) <| r 1 50 (.mv (.t 9)) <| r 2 51 (.ia 2 (.t 49) (.t 50)) <| r 3 52 (.fa 0 (.t 51)) <| r 4 53 (.l1 (.t 52)) <| r 5 54 (.mv (.t 0)) <| r 6 55 (.mv (.t 9)) <| r 7 56 (.ia 2 (.t 54) (.t 55)) <| r 8 57 (.fa 1 (.t 56)) <| r 9 58 (.l1 (.t 57)) <| r 10 59 (.bd #[(.bool false),(.string ⟨#[]⟩),(i 0),(.slice none 0 0)] [(1,1,(.t 53)),(2,1,(.t 58))]) <| .e 11 none (some 12) (.al 115 (.agg #[(.bool false),(.string ⟨#[]⟩),(i 0),(.slice none 0 0)])) [4,9] <| .e 12 none none (.st 4 (.t 12) (.t 59)) [] <| .nil) [0,1,7,8,9,11,12]) <| z [mk 13 0] [0,1,7,8,9,11,12,13] <| .seq (z [f 60 1 12,l 61 60,.r (some 62) (.bi .neq (.t 61) (.c (.string ⟨#[]⟩)))] [0,1,7,8,9,11,12,13,62] <| j 62 (q [f 64 1 12,l 65 64,c 66 47 [1,65],m 13 66] [0,1,7,8,9,11,12,13]) (.skip)) <| .seq (z [mk 14 0] [0,1,7,8,9,11,12,13,14] <| .block 2 (.loop Og)) <| .seq (z [bk 84 .sub 13 1,m 15 84] [0,1,7,8,9,11,12,15] <| .block 4 (.loop Oh)) <| q [ln 99 4 12,ia 100 4 7 11,s 4 100 99] [0,1,7,8,9])) <| q [bk 24 .add 9 1,m 9 24] [0,1,7,8,9]
def Oi:IR:=z [] [0,1] <| z [.r (some 16) (.bd #[(.bool false),(.string ⟨#[]⟩),(i 0),(.slice none 0 0)] [(0,1,(.c (.bool true)))]),.e (some 17) (.bs 115 1 #[(.bool false),(.string ⟨#[]⟩),(i 0),(.slice none 0 0)] [(0,4,(.t 16))]),m 7 17] [0,1,7] <| z [.e (some 18) (.bs 3 1 #[(i 0)] [(0,1,(k 0))]),m 8 18] [0,1,7,8] <| .seq (z [mk 9 0] [0,1,7,8,9] <| .block 0 (.loop Xo)) <| z [le 103 8,m 4 7,m 5 103,.r (some 6) (.mv (.c (.bool true)))] [4,5,6] <| .ret
theorem ajM:Fits Tryz.prog 26 2 (bf Tryz.f26 Oi) Oi [.t 4,.t 5,.t 6] 104:=.m Tryz.f26 _
def Oj:IR:=.seq (z [f 57 3 5,l 58 57,le 59 58,bi 60 .lss 7 59] [5,6,7,60] <| j 60 (.skip) ((.exit 0))) <| .seq (.block 1 (.seq (z [bk 64 .gtr 7 0] [5,6,7,64] <| j 64 (q [.r (some 66) (.bd #[(i 0),(.string ⟨#[]⟩),(i 0)] [(0,1,(k 1)),(1,1,(.c (.string ⟨#[44,32]⟩)))]),.e (some 67) (.bs 76 1 #[(i 0),(.string ⟨#[]⟩),(i 0)] [(0,3,(.t 66))]),.e (some 68) (.ap 76 3 32 #[(i 0),(.string ⟨#[]⟩),(i 0)] (.t 6) (.t 67)),m 6 68] [5,6,7]) (.skip)) <| q [f 70 3 5,l 71 70,ia 73 1 71 7,l 74 73,.r (some 75) (.bd #[(i 0),(.string ⟨#[]⟩),(i 0)] [(0,1,(k 2)),(2,1,(.t 74))]),.e (some 76) (.bs 76 1 #[(i 0),(.string ⟨#[]⟩),(i 0)] [(0,3,(.t 75))]),.e (some 77) (.ap 76 3 32 #[(i 0),(.string ⟨#[]⟩),(i 0)] (.t 6) (.t 76)),m 6 77] [5,6,7])) <| q [bk 62 .add 7 1,m 7 62] [5,6,7]
def Ol:IR:=.seq (z [f 87 3 5,l 88 87,le 89 88,bi 90 .lss 9 89] [5,8,9,90] <| j 90 (.skip) ((.exit 2))) <| .seq (.block 3 (q [.r (some 94) (.bd #[(i 0),(.string ⟨#[]⟩),(i 0)] [(0,1,(k 1)),(1,1,(.c (.string ⟨#[32]⟩)))]),f 95 3 5,l 96 95,ia 98 1 96 9,l 99 98,.r (some 100) (.bd #[(i 0),(.string ⟨#[]⟩),(i 0)] [(0,1,(k 3)),(2,1,(.t 99))]),.e (some 101) (.bs 76 2 #[(i 0),(.string ⟨#[]⟩),(i 0),(i 0),(.string ⟨#[]⟩),(i 0)] [(0,3,(.t 94)),(3,3,(.t 100))]),.e (some 102) (.ap 76 3 32 #[(i 0),(.string ⟨#[]⟩),(i 0)] (.t 8) (.t 101)),m 8 102] [5,8,9])) <| q [bk 92 .add 9 1,m 9 92] [5,8,9]
def Om:IR:=z [] [0,1] <| z [ia 12 4 0 1,ln 13 4 12,.e (some 5) (.al 115 (.agg #[(.bool false),(.string ⟨#[]⟩),(i 0),(.slice none 0 0)])),s 4 5 13] [5] <| .seq (z [f 14 0 5,l 15 14] [5,15] <| j 15 (z [.r (some 16) (.bd #[(i 0),(.string ⟨#[]⟩),(i 0)] [(0,1,(k 1)),(1,1,(.c (.string ⟨#[95]⟩)))]),.e (some 17) (.bs 76 1 #[(i 0),(.string ⟨#[]⟩),(i 0)] [(0,3,(.t 16))]),m 4 17] [4] <| .ret) (.skip)) <| .seq (z [f 18 1 5,l 19 18,.r (some 20) (.bi .eql (.t 19) (.c (.string ⟨#[]⟩)))] [5,20] <| j 20 (z [f 21 2 5,l 22 21,c 23 48 [22],.r (some 24) (.bd #[(i 0),(.string ⟨#[]⟩),(i 0)] [(0,1,(k 1)),(1,1,(.t 23))]),.e (some 25) (.bs 76 1 #[(i 0),(.string ⟨#[]⟩),(i 0)] [(0,3,(.t 24))]),m 4 25] [4] <| .ret) (.skip)) <| .seq (z [ln 26 4 5,.e (some 27) (.call 49 [(.t 26),(.c (.string ⟨#[78,105,108]⟩)),(k 0)])] [5,27] <| j 27 (z [.r (some 28) (.bd #[(i 0),(.string ⟨#[]⟩),(i 0)] [(0,1,(k 1)),(1,1,(.c (.string ⟨#[91,93]⟩)))]),.e (some 29) (.bs 76 1 #[(i 0),(.string ⟨#[]⟩),(i 0)] [(0,3,(.t 28))]),m 4 29] [4] <| .ret) (.skip)) <| .seq (z [ln 30 4 5,.e (some 31) (.call 49 [(.t 30),(.c (.string ⟨#[67,111,110,115]⟩)),(k 2)])] [5,31] <| j 31 (.seq (q' [.r (some 32) (.bd #[(i 0),(.string ⟨#[]⟩),(i 0)] [(0,1,(k 1)),(1,1,(.c (.string ⟨#[91]⟩)))]),f 33 3 5,l 34 33,.r (some 35) (.ia 1 (.t 34) (k 0)),l 36 35,.r (some 37) (.bd #[(i 0),(.string ⟨#[]⟩),(i 0)] [(0,1,(k 2)),(2,1,(.t 36))]),f 38 3 5,l 39 38,.r (some 40) (.ia 1 (.t 39) (k 1)),l 41 40,.r (some 42) (.bd #[(i 0),(.string ⟨#[]⟩),(i 0)] [(0,1,(k 4)),(2,1,(.t 41))]),.e (some 43) (.bs 76 3 #[(i 0),(.string ⟨#[]⟩),(i 0),(i 0),(.string ⟨#[]⟩),(i 0),(i 0),(.string ⟨#[]⟩),(i 0)] [(0,3,(.t 32)),(3,3,(.t 37)),(6,3,(.t 42))]),m 4 43] [4]) <| .ret) (.skip)) <| .seq (z [ln 44 4 5,.e (some 45) (.call 49 [(.t 44),(.c (.string ⟨#[85,110,105,116]⟩)),(k 0)]),tL 45 false 47 4 5,.ge 45 false (some 48) (.call 49 [(.t 47),(.c (.string ⟨#[80,97,105,114]⟩)),(k 2)]),u 49 45 48,tL 49 false 51 4 5,.ge 49 false (some 52) (.call 49 [(.t 51),(.c (.string ⟨#[84,114,105,112,108,101]⟩)),(k 3)]),u 53 49 52] [5,53] <| j 53 (z [.r (some 54) (.bd #[(i 0),(.string ⟨#[]⟩),(i 0)] [(0,1,(k 1)),(1,1,(.c (.string ⟨#[40]⟩)))]),.e (some 55) (.bs 76 1 #[(i 0),(.string ⟨#[]⟩),(i 0)] [(0,3,(.t 54))]),m 6 55] [5,6] <| .seq (z [mk 7 0] [5,6,7] <| .block 0 (.loop Oj)) <| z [.r (some 79) (.bd #[(i 0),(.string ⟨#[]⟩),(i 0)] [(0,1,(k 1)),(1,1,(.c (.string ⟨#[41]⟩)))]),.e (some 80) (.bs 76 1 #[(i 0),(.string ⟨#[]⟩),(i 0)] [(0,3,(.t 79))]),.e (some 81) (.ap 76 3 32 #[(i 0),(.string ⟨#[]⟩),(i 0)] (.t 6) (.t 80)),m 4 81] [4] <| .ret) (.skip)) <| z [f 82 1 5,l 83 82,.r (some 84) (.bd #[(i 0),(.string ⟨#[]⟩),(i 0)] [(0,1,(k 1)),(1,1,(.t 83))]),.e (some 85) (.bs 76 1 #[(i 0),(.string ⟨#[]⟩),(i 0)] [(0,3,(.t 84))]),m 8 85] [5,8] <| .seq (z [mk 9 0] [5,8,9] <| .block 2 (.loop Ol)) <| z [m 4 8] [4] <| .ret
theorem ajN:Fits Tryz.prog 27 2 (bf Tryz.f27 Om) Om [.t 4] 104:=.m Tryz.f27 _
def On:IR:=z [] [0,1] <| z [ia 10 4 0 1,ln 11 4 10,.e (some 5) (.al 115 (.agg #[(.bool false),(.string ⟨#[]⟩),(i 0),(.slice none 0 0)])),s 4 5 11] [0,1,5] <| z [c 14 27 [0,1],m 6 14] [5,6] <| .seq (z [f 15 0 5,l 16 15,f' 16 false 18 1 5,l' 16 false 19 18,.gr 16 false (some 20) (.bi .eql (.t 19) (.c (.string ⟨#[]⟩))),m' 16 false 21 20,f' 21 true 22 2 5,l' 21 true 23 22,di 21 true 24 .geq 23 0,.gr 16 false (some 25) (.pk (.t 21) (.t 24) (.c (.bool false))),u 26 16 25] [5,6,26] <| j 26 (z [m 4 6] [4] <| .ret) (.skip)) <| .seq (z [f 28 1 5,l 29 28,.r (some 30) (.bi .neq (.t 29) (.c (.string ⟨#[]⟩))),f' 30 true 32 3 5,l' 30 true 33 32,jS 30 true 34 33,di 30 true 35 .eql 34 0,m' 30 true 36 35,tL 36 false 37 4 5,.ge 36 false (some 38) (.call 49 [(.t 37),(.c (.string ⟨#[67,111,110,115]⟩)),(k 2)]),.gr 30 true (some 39) (.pk (.t 36) (.c (.bool true)) (.t 38)),m' 30 true 40 39,tL 40 false 41 4 5,.ge 40 false (some 42) (.call 49 [(.t 41),(.c (.string ⟨#[80,97,105,114]⟩)),(k 2)]),.gr 30 true (some 43) (.pk (.t 40) (.c (.bool true)) (.t 42)),m' 30 true 44 43,tL 44 false 45 4 5,.ge 44 false (some 46) (.call 49 [(.t 45),(.c (.string ⟨#[84,114,105,112,108,101]⟩)),(k 3)]),.gr 30 true (some 47) (.pk (.t 44) (.c (.bool true)) (.t 46)),a 48 30 47] [6,48] <| j 48 (z [m 4 6] [4] <| .ret) (.skip)) <| z [.r (some 50) (.bd #[(i 0),(.string ⟨#[]⟩),(i 0)] [(0,1,(k 1)),(1,1,(.c (.string ⟨#[40]⟩)))]),.e (some 51) (.bs 76 1 #[(i 0),(.string ⟨#[]⟩),(i 0)] [(0,3,(.t 50))]),m 7 51] [6,7] <| z [.e (some 54) (.ap 76 3 32 #[(i 0),(.string ⟨#[]⟩),(i 0)] (.t 7) (.t 6)),m 7 54] [7] <| z [.r (some 56) (.bd #[(i 0),(.string ⟨#[]⟩),(i 0)] [(0,1,(k 1)),(1,1,(.c (.string ⟨#[41]⟩)))]),.e (some 57) (.bs 76 1 #[(i 0),(.string ⟨#[]⟩),(i 0)] [(0,3,(.t 56))]),.e (some 58) (.ap 76 3 32 #[(i 0),(.string ⟨#[]⟩),(i 0)] (.t 7) (.t 57)),m 4 58] [4] <| .ret
theorem ajO:Fits Tryz.prog 28 2 (bf Tryz.f28 On) On [.t 4] 59:=.m Tryz.f28 _
def Oo:IR:=z [] [0,1] <| z [ia 8 4 0 1,ln 9 4 8,.e (some 5) (.al 115 (.agg #[(.bool false),(.string ⟨#[]⟩),(i 0),(.slice none 0 0)])),s 4 5 9] [1,5] <| .seq (z [ln 10 4 5,.e (some 11) (.call 49 [(.t 10),(.c (.string ⟨#[78,105,108]⟩)),(k 0)])] [1,5,11] <| j 11 (z [.r (some 12) (.bd #[(i 0),(.string ⟨#[]⟩),(i 0)] [(0,1,(k 1)),(1,1,(.c (.string ⟨#[93]⟩)))]),.e (some 13) (.bs 76 1 #[(i 0),(.string ⟨#[]⟩),(i 0)] [(0,3,(.t 12))]),m 4 13] [4] <| .ret) (.skip)) <| .seq (z [ln 14 4 5,.e (some 15) (.call 49 [(.t 14),(.c (.string ⟨#[67,111,110,115]⟩)),(k 2)])] [1,5,15] <| j 15 (.seq (q' [.r (some 16) (.bd #[(i 0),(.string ⟨#[]⟩),(i 0)] [(0,1,(k 1)),(1,1,(.c (.string ⟨#[44,32]⟩)))]),f 17 3 5,l 18 17,.r (some 19) (.ia 1 (.t 18) (k 0)),l 20 19,.r (some 21) (.bd #[(i 0),(.string ⟨#[]⟩),(i 0)] [(0,1,(k 2)),(2,1,(.t 20))]),f 22 3 5,l 23 22,.r (some 24) (.ia 1 (.t 23) (k 1)),l 25 24,.r (some 26) (.bd #[(i 0),(.string ⟨#[]⟩),(i 0)] [(0,1,(k 4)),(2,1,(.t 25))]),.e (some 27) (.bs 76 3 #[(i 0),(.string ⟨#[]⟩),(i 0),(i 0),(.string ⟨#[]⟩),(i 0),(i 0),(.string ⟨#[]⟩),(i 0)] [(0,3,(.t 16)),(3,3,(.t 21)),(6,3,(.t 26))]),m 4 27] [4]) <| .ret) (.skip)) <| z [.r (some 28) (.bd #[(i 0),(.string ⟨#[]⟩),(i 0)] [(0,1,(k 1)),(1,1,(.c (.string ⟨#[32,124,32]⟩)))]),.r (some 30) (.bd #[(i 0),(.string ⟨#[]⟩),(i 0)] [(0,1,(k 2)),(2,1,(.t 1))]),.r (some 31) (.bd #[(i 0),(.string ⟨#[]⟩),(i 0)] [(0,1,(k 1)),(1,1,(.c (.string ⟨#[93]⟩)))]),.e (some 32) (.bs 76 3 #[(i 0),(.string ⟨#[]⟩),(i 0),(i 0),(.string ⟨#[]⟩),(i 0),(i 0),(.string ⟨#[]⟩),(i 0)] [(0,3,(.t 28)),(3,3,(.t 30)),(6,3,(.t 31))]),m 4 32] [4] <| .ret
theorem ajP:Fits Tryz.prog 29 2 (bf Tryz.f29 Oo) Oo [.t 4] 33:=.m Tryz.f29 _
def Xp:IR:=z [bi 13 .lss 12 11] [0,10,11,12,13] <| .seq (j 13 (.skip) ((.exit 0))) <| .seq (.block 1 (z [ia 14 2 10 12,ln 15 2 14,.e (some 4) (.al 42 (.agg #[(.string ⟨#[]⟩),(i 0)])),s 2 4 15] [0,4,10,11,12] <| .seq (z [f 16 0 4,l 17 16,.r (some 18) (.bi .eql (.t 17) (.c (.string ⟨#[]⟩)))] [0,4,10,11,12,18] <| j 18 (.seq (z [f 19 1 4,l 20 19,bk 21 .lss 20 (-4611686018427387904),f' 21 false 23 1 4,l' 21 false 24 23,di 21 false 25 .gtr 24 4611686018427387903,u 26 21 25] [0,10,11,12,26] <| j 26 (z [.r (some 2) (.mv (.c (.bool false)))] [2] <| .ret) (.skip)) <| (.exit 1)) (.skip)) <| .seq (q' [m 28 0,n 29 28,f 30 2 29,l 31 30,f 32 0 4,l 33 32,.e (some 34) (.raw ⟨(some 34),(.lookup 80 (.tmp 31) (.tmp 33) true),87, "stream.go:209",#[⟨3,.data⟩,⟨5,.data⟩],none⟩),m 27 34,ex 35 0 27,ex 36 1 27,m 5 35,m 6 36] [0,4,5,6,10,11,12]) <| z [f 37 1 4,l 38 37,bk 39 .neq 38 0,m' 39 false 41 6,yD 39 false 42 41,u 43 39 42,m' 43 false 45 5,di 43 false 46 .lss 45 0,u 47 43 46,m' 47 false 49 5,di 47 false 50 .gtr 49 8,u 51 47 50] [0,10,11,12,51] <| j 51 (z [.r (some 2) (.mv (.c (.bool false)))] [2] <| .ret) (.skip))) <| q [bk 52 .add 12 1,m 12 52] [0,10,11,12]
def Oq:IR:=z [] [0] <| .seq (z [n 8 0,f 9 0 8,l 10 9,le 11 10,mk 12 0] [0,10,11,12] <| .block 0 (.loop Xp)) <| z [.r (some 2) (.mv (.c (.bool true)))] [2] <| .ret
theorem ajQ:Fits Tryz.prog 30 1 (bf Tryz.f30 Oq) Oq [.t 2] 53:=.m Tryz.f30 _
def Xq:IR:=.seq (z [n 9 0,f 10 4 9,l 11 10,le 12 11,bk 13 .gtr 12 0] [0,13] <| j 13 (.skip) ((.exit 0))) <| .block 1 (z [n 15 0,f 16 4 15,l 17 16,le 18 17,bk 19 .sub 18 1,m 2 19] [0,2] <| z [n 21 0,f 22 4 21,l 23 22,ia 25 2 23 2,ln 26 2 25,.e (some 3) (.al 122 (.agg #[(i 0),(.string ⟨#[]⟩)])),s 2 3 26] [0,2,3] <| z [n 29 0,f 30 4 29,l 31 30,.r (some 33) (.sl 2 (.t 31) none (some (.t 2)) none),n 34 0,f 35 4 34,s 1 35 33] [0,3] <| z [f 36 0 3,l 37 36] [0,3,37] <| .block 2 (z [bk 44 .eql 37 0,m 43 44] [0,3,37,43] <| j 43 (q' [m 45 0,n 46 45,f 47 5 46,f 48 1 3,l 49 48,c 50 51 [47,49]] [0]) (z [bk 52 .eql 37 3,m 51 52] [0,3,51] <| j 51 (q [c 54 52 [0]] [0]) (q [f 39 0 3,l 40 39,bk 41 .eql 40 2,c 42 53 [0,41]] [0]))))
def Ot:IR:=z [.r (some 5) (.bd #[(i 0),(.string ⟨#[]⟩)] [(0,1,(k 1))]),.e (some 6) (.bs 122 1 #[(i 0),(.string ⟨#[]⟩)] [(0,2,(.t 5))]),c 7 50 [0,6]] [0] <| .block 0 (.loop Xq)
theorem ajR:Fits Tryz.prog 31 1 (bf Tryz.f31 Ot) Ot [] 55:=.m Tryz.f31 _
def Ou:IR:=z [.e (some 2) (.bx 42 (.t 0))] [1,2] <| .seq (z [f 6 0 2,l 7 6,.r (some 8) (.bi .eql (.t 7) (.c (.string ⟨#[]⟩)))] [1,2,8] <| j 8 (z [f 9 1 2,l 10 9,bk 11 .geq 10 (-4611686018427387904),f' 11 true 13 1 2,l' 11 true 14 13,di 11 true 15 .leq 14 4611686018427387903,a 16 11 15,m 4 16] [4] <| .ret) (.skip)) <| z [f 18 0 2,l 19 18,c 20 47 [1,19],m 5 20] [2,5] <| z [bk 22 .geq 5 0,f' 22 true 24 1 2,l' 22 true 25 24,di 22 true 26 .eql 25 0,a 27 22 26,m 4 27] [4] <| .ret
theorem ajS:Fits Tryz.prog 46 2 (bf Tryz.f46 Ou) Ou [.t 4] 28:=.m Tryz.f46 _
def Xr:IR:=.seq (z [le 8 0,bi 9 .lss 5 8] [0,1,5,9] <| j 9 (.skip) ((.exit 0))) <| .seq (.block 1 (z [ia 14 2 0 5,f 15 0 14,l 16 15,bi 18 .eql 16 1] [0,1,5,18] <| j 18 (.seq (z [ia 21 2 0 5,f 22 1 21,l 23 22,bk 24 .gtr 23 8] [0,5,24] <| j 24 (z [mk 4 (-1)] [4] <| .ret) (.skip)) <| z [ia 27 2 0 5,f 28 1 27,l 29 28,m 4 29] [4] <| .ret) (.skip))) <| q [bk 11 .add 5 1,m 5 11] [0,1,5]
def Ov:IR:=z [] [0,1] <| .seq (z [mk 5 0] [0,1,5] <| .block 0 (.loop Xr)) <| z [mk 4 (-1)] [4] <| .ret
theorem ajT:Fits Tryz.prog 47 2 (bf Tryz.f47 Ov) Ov [.t 4] 30:=.m Tryz.f47 _
def Ow:IR:=z [.e (some 3) (.bx 115 (.t 0))] [1,2,3] <| z [f 7 0 3,l 8 7,no 9 8,f' 9 true 11 1 3,l' 9 true 12 11,m' 9 true 13 1,gJ 9 true 14 .eql 12 13,a 15 9 14,f' 15 true 17 3 3,l' 15 true 18 17,jS 15 true 19 18,m' 15 true 20 2,gJ 15 true 21 .eql 19 20,a 22 15 21,m 6 22] [6] <| .ret
theorem ajU:Fits Tryz.prog 49 3 (bf Tryz.f49 Ow) Ow [.t 6] 23:=.m Tryz.f49 _
def Ox:IR:=z [] [0,1] <| z [c 7 86 [0]] [0,1] <| z [m 8 0,m 9 0,n 10 9,f 11 1 10,l 12 11,m 13 1,.e (some 14) (.raw ⟨(some 14),(.call { callee:=(.builtin .append),args:=#[(.tmp 12),(.tmp 13)],argTypes:=#[74,9]}),74, "builder.go:114",#[⟨4,.data⟩,⟨5,.data⟩],none⟩),n 15 8,f 16 1 15,s 1 16 14] [1] <| z [.r (some 18) (.tA (.t 1)),m 4 18,.r (some 5) (.mv (.c .nilIface))] [4,5] <| .ret
theorem ajV:Fits Tryz.prog 51 2 (bf Tryz.f51 Ox) Ox [.t 4,.t 5] 19:=.m Tryz.f51 _
def Oy:IR:=.block 0 (z [.e (some 13) (.call 87 [(.t 0),(.c (.string ⟨#[67,111,110,115]⟩)),(k 2)]),m 11 13] [0,11] <| j 11 (z [n 15 0,f 16 1 15,l 17 16,bk 18 .add 17 1,n 19 0,f 20 1 19,s 1 20 18] [0] <| z [n 22 0,f 23 5 22,.e (some 24) (.call 51 [(.t 23),(.c (.string ⟨#[44,32]⟩))])] [0] <| q [.r (some 26) (.bd #[(i 0),(.string ⟨#[]⟩)] [(0,1,(k 1))]),.r (some 27) (.bd #[(i 0),(.string ⟨#[]⟩)] [(0,1,(k 3))]),.e (some 28) (.bs 122 2 #[(i 0),(.string ⟨#[]⟩),(i 0),(.string ⟨#[]⟩)] [(0,2,(.t 26)),(2,2,(.t 27))]),c 29 50 [0,28]] []) (z [.e (some 32) (.call 87 [(.t 0),(.c (.string ⟨#[78,105,108]⟩)),(k 0)]),m 30 32] [0,30] <| j 30 (z [n 34 0,f 35 1 34,l 36 35,bk 37 .add 36 1,n 38 0,f 39 1 38,s 1 39 37] [0] <| q [n 41 0,f 42 5 41,.e (some 43) (.call 51 [(.t 42),(.c (.string ⟨#[93]⟩))])] []) (z [n 3 0,f 4 5 3,.e (some 5) (.call 51 [(.t 4),(.c (.string ⟨#[32,124,32]⟩))])] [0] <| q [.r (some 7) (.bd #[(i 0),(.string ⟨#[]⟩)] [(0,1,(k 1))]),.r (some 8) (.bd #[(i 0),(.string ⟨#[]⟩)] [(0,1,(k 0)),(1,1,(.c (.string ⟨#[93]⟩)))]),.e (some 9) (.bs 122 2 #[(i 0),(.string ⟨#[]⟩),(i 0),(.string ⟨#[]⟩)] [(0,2,(.t 7)),(2,2,(.t 8))]),c 10 50 [0,9]] [])))
theorem ajW:Fits Tryz.prog 52 1 (bf Tryz.f52 Oy) Oy [] 44:=.m Tryz.f52 _
def Oz:IR:=.seq (.seq (q' [m 6 0,n 7 6,f 8 1 7,l 9 8,m 10 0,n 11 10,f 12 0 11,l 13 12,le 14 13,bi 15 .eql 9 14] [0,1,15]) <| j 15 (z [n 17 0,f 18 3 17,l 19 18,bk 20 .add 19 1,n 21 0,f 22 3 21,s 1 22 20] [0] <| z [n 24 0,f 25 5 24,.e (some 26) (.call 51 [(.t 25),(.c (.string ⟨#[95]⟩))])] [] <| .ret) (.skip)) <| .seq (.dr (r 0 27 (.mv (.t 0)) <| r 1 28 (.nn (.t 27)) <| r 2 29 (.fa 0 (.t 28)) <| r 3 30 (.l1 (.t 29)) <| r 4 31 (.mv (.t 0)) <| r 5 32 (.nn (.t 31)) <| r 6 33 (.fa 1 (.t 32)) <| r 7 34 (.l1 (.t 33)) <| r 8 35 (.ia 2 (.t 30) (.t 34)) <| r 9 36 (.ln 2 (.t 35)) <| .e 10 none (some 4) (.al 42 (.agg #[(.string ⟨#[]⟩),(i 0)])) [3,7,9] <| .e 11 none none (.st 2 (.t 4) (.t 36)) [] <| .nil) [0,1,4]) <| .seq (.block 0 (z [f 43 0 4,l 44 43,.r (some 45) (.bi .eql (.t 44) (.c (.string ⟨#[]⟩))),m 42 45] [0,1,4,42] <| j 42 (z [f 46 1 4,l 47 46,c 48 48 [47],m 5 48] [0,1,4,5] <| .seq (z [f' 1 true 51 1 4,l' 1 true 52 51,di 1 true 53 .lss 52 0,a 54 1 53] [0,5,54] <| j 54 (q [.r (some 56) (.bi .add (.c (.string ⟨#[40]⟩)) (.t 5)),.r (some 57) (.bi .add (.t 56) (.c (.string ⟨#[41]⟩))),m 5 57] [0,5]) (.skip)) <| q [n 59 0,f 60 5 59,c 62 51 [60,5]] [0]) (z [.e (some 65) (.call 87 [(.t 0),(.c (.string ⟨#[78,105,108]⟩)),(k 0)]),m 63 65] [0,1,4,63] <| j 63 (q [n 67 0,f 68 5 67,.e (some 69) (.call 51 [(.t 68),(.c (.string ⟨#[91,93]⟩))])] [0]) (z [.e (some 72) (.call 87 [(.t 0),(.c (.string ⟨#[67,111,110,115]⟩)),(k 2)]),m 70 72] [0,1,4,70] <| j 70 (z [n 74 0,f 75 5 74,.e (some 76) (.call 51 [(.t 75),(.c (.string ⟨#[91]⟩))])] [0] <| q [.r (some 78) (.bd #[(i 0),(.string ⟨#[]⟩)] [(0,1,(k 1))]),.r (some 79) (.bd #[(i 0),(.string ⟨#[]⟩)] [(0,1,(k 3))]),.e (some 80) (.bs 122 2 #[(i 0),(.string ⟨#[]⟩),(i 0),(.string ⟨#[]⟩)] [(0,2,(.t 78)),(2,2,(.t 79))]),c 81 50 [0,80]] [0]) (z [.e (some 84) (.call 87 [(.t 0),(.c (.string ⟨#[85,110,105,116]⟩)),(k 0)]),m 82 84] [0,1,4,82] <| j 82 (q [n 86 0,f 87 5 86,.e (some 88) (.call 51 [(.t 87),(.c (.string ⟨#[40,41]⟩))])] [0]) (.seq (z [.e (some 91) (.call 87 [(.t 0),(.c (.string ⟨#[80,97,105,114]⟩)),(k 2)]),m 89 91] [0,1,4,89] <| j 89 (.skip) (q [.e (some 93) (.call 87 [(.t 0),(.c (.string ⟨#[84,114,105,112,108,101]⟩)),(k 3)]),m 89 93] [0,1,4,89])) <| j 89 (q' [m 94 0,m 95 0,n 96 95,f 97 2 96,l 98 97,f 99 0 4,l 100 99,.e (some 101) (.raw ⟨(some 101),(.lookup 80 (.tmp 98) (.tmp 100) false),3, "stream.go:152",#[⟨4,.data⟩,⟨6,.data⟩],none⟩),c 102 88 [94,101]] [0]) (q [f 38 0 4,l 39 38,c 41 89 [0,39,1]] [0]))))))) <| q [n 104 0,f 105 1 104,l 106 105,bk 107 .add 106 1,n 108 0,f 109 1 108,s 1 109 107] []
theorem ajX:Fits Tryz.prog 53 2 (bf Tryz.f53 Oz) Oz [] 110:=.m Tryz.f53 _
def OA:IR:=z [] [0] <| .seq (z [.r (some 4) (.eq .slice false (.t 0) (.c (.slice none 0 0)))] [0,4] <| j 4 (z [.r (some 2) (.mv (.c (.slice none 0 0)))] [2] <| .ret) (.skip)) <| z [.e (some 5) (.raw ⟨(some 5),(.buildSlice 22 0 #[]),22, "slices.go:362",#[],none⟩),m 6 0,.e (some 7) (.ap 47 2 24 #[(.string ⟨#[]⟩),(i 0)] (.t 5) (.t 6)),m 2 7] [2] <| .ret
theorem ajY:Fits Tryz.prog 62 1 (bf Tryz.f62 OA) OA [.t 2] 8:=.m Tryz.f62 _
def OB:IR:=z [] [0] <| .seq (z [.r (some 4) (.eq .slice false (.t 0) (.c (.slice none 0 0)))] [0,4] <| j 4 (z [.r (some 2) (.mv (.c (.slice none 0 0)))] [2] <| .ret) (.skip)) <| z [.e (some 5) (.raw ⟨(some 5),(.buildSlice 57 0 #[]),57, "slices.go:362",#[],none⟩),m 6 0,.e (some 7) (.ap 61 3 24 #[(i 0),(i 0),(i 0)] (.t 5) (.t 6)),m 2 7] [2] <| .ret
theorem ajZ:Fits Tryz.prog 64 1 (bf Tryz.f64 OB) OB [.t 2] 8:=.m Tryz.f64 _
def OC:IR:=z [.e (some 1) (.bx 81 (.t 0))] [1] <| z [.r (some 3) (.mf (.func 142) [] [(.t 1)]),m 2 3] [2] <| .ret
theorem aj0:Fits Tryz.prog 85 1 (bf Tryz.f85 OC) OC [.t 2] 4:=.m Tryz.f85 _
def OD:IR:=z [] [0,1,2] <| .seq (q' [m 7 0,n 8 7,f 9 1 8,l 10 9,m 11 0,n 12 11,f 13 0 12,l 14 13,le 15 14,bi 16 .lss 10 15,m 17 16,m' 17 true 18 0,n' 17 true 19 18,f' 17 true 20 0 19,l' 17 true 21 20,m' 17 true 22 0,n' 17 true 23 22,f' 17 true 24 1 23,l' 17 true 25 24,uW 17 true 26 2 21 25,f' 17 true 27 0 26,l' 17 true 28 27,m' 17 true 29 1,gJ 17 true 30 .eql 28 29,a 31 17 30,m 32 31,m' 32 true 33 0,n' 32 true 34 33,f' 32 true 35 2 34,l' 32 true 36 35,m' 32 true 37 1,m' 32 true 39 2,.ge 32 true (some 38) (.raw ⟨(some 38),(.lookup 80 (.tmp 36) (.tmp 37) false),3, "stream.go:101",#[⟨29,.data⟩,⟨30,.data⟩,⟨25,.guard⟩],some (25,true)⟩),gJ 32 true 40 .eql 38 39,a 41 32 40,m 6 41] [6]) <| .ret
theorem aj1:Fits Tryz.prog 87 3 (bf Tryz.f87 OD) OD [.t 6] 42:=.m Tryz.f87 _
def Xs:IR:=z [bi 14 .lss 13 12] [0,4,12,13,14] <| .seq (j 14 (.skip) ((.exit 0))) <| .seq (.block 1 (q [.r (some 16) (.bd #[(i 0),(.string ⟨#[]⟩)] [(0,1,(k 0)),(1,1,(.c (.string ⟨#[44,32]⟩)))]),.r (some 17) (.bd #[(i 0),(.string ⟨#[]⟩)] [(0,1,(k 1))]),.e (some 18) (.bs 122 2 #[(i 0),(.string ⟨#[]⟩),(i 0),(.string ⟨#[]⟩)] [(0,2,(.t 16)),(2,2,(.t 17))]),.e (some 19) (.ap 122 2 24 #[(i 0),(.string ⟨#[]⟩)] (.t 4) (.t 18)),m 4 19] [0,4,12,13])) <| q [bk 20 .add 13 1,m 13 20] [0,4,12,13]
def OE:IR:=z [n 6 0,f 7 5 6,.e (some 8) (.call 51 [(.t 7),(.c (.string ⟨#[40]⟩))])] [0,1] <| z [.r (some 9) (.bd #[(i 0),(.string ⟨#[]⟩)] [(0,1,(k 1))]),.e (some 10) (.bs 122 1 #[(i 0),(.string ⟨#[]⟩)] [(0,2,(.t 9))]),m 4 10] [0,1,4] <| .seq (z [bk 12 .sub 1 1,mk 13 0] [0,4,12,13] <| .block 0 (.loop Xs)) <| q [.r (some 23) (.bd #[(i 0),(.string ⟨#[]⟩)] [(0,1,(k 0)),(1,1,(.c (.string ⟨#[41]⟩)))]),.e (some 24) (.bs 122 1 #[(i 0),(.string ⟨#[]⟩)] [(0,2,(.t 23))]),.e (some 25) (.ap 122 2 24 #[(i 0),(.string ⟨#[]⟩)] (.t 4) (.t 24)),c 26 50 [0,25]] []
theorem aj2:Fits Tryz.prog 88 2 (bf Tryz.f88 OE) OE [] 27:=.m Tryz.f88 _
def Xt:IR:=z [bi 16 .lss 15 14] [0,1,2,6,7,14,15,16] <| .seq (j 16 (.skip) ((.exit 0))) <| .seq (.block 1 (q [.r (some 18) (.bd #[(i 0),(.string ⟨#[]⟩)] [(0,1,(k 0)),(1,1,(.c (.string ⟨#[32]⟩)))]),.r (some 19) (.bd #[(i 0),(.string ⟨#[]⟩)] [(0,1,(k 2))]),.e (some 20) (.bs 122 2 #[(i 0),(.string ⟨#[]⟩),(i 0),(.string ⟨#[]⟩)] [(0,2,(.t 18)),(2,2,(.t 19))]),.e (some 21) (.ap 122 2 24 #[(i 0),(.string ⟨#[]⟩)] (.t 7) (.t 20)),m 7 21] [0,1,2,6,7,14,15])) <| q [bk 22 .add 15 1,m 15 22] [0,1,2,6,7,14,15]
def OF:IR:=z [m 8 0,n 9 8,f 10 2 9,l 11 10,m 12 1,.e (some 13) (.raw ⟨(some 13),(.lookup 80 (.tmp 11) (.tmp 12) false),3, "stream.go:187",#[⟨3,.data⟩,⟨4,.data⟩],none⟩),m 6 13] [0,1,2,6] <| z [.r (some 7) (.mv (.c (.slice none 0 0)))] [0,1,2,6,7] <| .seq (z [m 14 6,mk 15 0] [0,1,2,6,7,14,15] <| .block 0 (.loop Xt)) <| .seq (z [m' 2 true 25 6,di 2 true 26 .gtr 25 0,a 27 2 26] [0,1,7,27] <| j 27 (z [.r (some 29) (.bi .add (.c (.string ⟨#[40]⟩)) (.t 1)),m 1 29] [0,1,7] <| q [.r (some 31) (.bd #[(i 0),(.string ⟨#[]⟩)] [(0,1,(k 0)),(1,1,(.c (.string ⟨#[41]⟩)))]),.e (some 32) (.bs 122 1 #[(i 0),(.string ⟨#[]⟩)] [(0,2,(.t 31))]),.e (some 33) (.ap 122 2 24 #[(i 0),(.string ⟨#[]⟩)] (.t 7) (.t 32)),m 7 33] [0,1,7]) (.skip)) <| z [n 35 0,f 36 5 35,c 38 51 [36,1]] [0,7] <| q [c 41 50 [0,7]] []
theorem aj3:Fits Tryz.prog 89 3 (bf Tryz.f89 OF) OF [] 42:=.m Tryz.f89 _
end
section
open Go Go.W
theorem aj4:gu Tryz.prog 42=some 2:=by kernel_rfl
theorem aj5 {w:World} {a:Option Addr} {n c:Nat} {xs:List Value} (hr:iR w a (n*2) xs) (h1:∀ u∈xs,u.oneCell'=true) (hn:a=none→n=0) (hb:n≤4294967296) :
   aK Tryz.prog 66 [.slice a n c] w fun r w'=>∃ fp,ao w' 42 2 r xs n fp∧(∀ b,fp=some b→w.heap.size≤b)∧Mod (fun _=>False) w w':=by
 refine afW.calls rfl ?_;unfold LA;cases a with
 | none=>
  obtain rfl:=hn rfl;have e:xs=[]:=List.eq_nil_of_length_eq_zero (by have:=hr.1;simpa using this);subst e;simp only [go_sem,simprocAttr,Option.isNone_none];exact ⟨none,ao.nil _ _ _,(fun b hb=>by cases hb),Mod.refl _ _⟩
 | some ad=>
  simp only [go_sem,simprocAttr,Option.isNone_some];refine Ft (t:=32) (el:=42) (n:=2) Tryz.underlying32 aj4 ?_;intro w1 ax ag cL;have jx:ao w1 42 2 (.slice (some ⟨w.heap.size,0,none⟩) 0 0) [] 0 (some w.heap.size):=ao.fG (xs:=[]) ax (by simp);have ky:iR w1 (some ad) (n*2) xs:=⟨hr.1,fun nE h j v hv=>ag.cell (hr.2 nE h j v hv) (fun h=>h)⟩;refine σ ?_;refine eH (m:=n) (news:=xs) rfl jx rfl (fun h=>by cases h) ky h1 rfl (by omega) (by omega) ?_;intro v2 w2 jT dR ae eO;obtain ⟨va,vc,rfl,_,_⟩:=dR.val;refine σ ?_;refine ⟨jT,by simpa using dR,fun b hb=>?_,ag.step ae (fun x U ah=>by cases U;omega)⟩;rcases eO b hb with h | h
  ·cases h;omega
  ·omega
theorem aj6:gu Tryz.prog 47=some 2:=by kernel_rfl
theorem aj7 {w:World} {a:Option Addr} {n c:Nat} {xs:List Value} (hr:iR w a (n*2) xs) (h1:∀ u∈xs,u.oneCell'=true) (hn:a=none→n=0) (hb:n≤4294967296) :
   aK Tryz.prog 62 [.slice a n c] w fun r w'=>∃ fp,ao w' 47 2 r xs n fp∧(∀ b,fp=some b→w.heap.size≤b)∧Mod (fun _=>False) w w':=by
 refine ajY.calls rfl ?_;unfold OA;cases a with
 | none=>
  obtain rfl:=hn rfl;have e:xs=[]:=List.eq_nil_of_length_eq_zero (by have:=hr.1;simpa using this);subst e;simp only [go_sem,simprocAttr,Option.isNone_none];exact ⟨none,ao.nil _ _ _,(fun b hb=>by cases hb),Mod.refl _ _⟩
 | some ad=>
  simp only [go_sem,simprocAttr,Option.isNone_some];refine Ft (t:=22) (el:=47) (n:=2) Tryz.underlying22 aj6 ?_;intro w1 ax ag cL;have jx:ao w1 47 2 (.slice (some ⟨w.heap.size,0,none⟩) 0 0) [] 0 (some w.heap.size):=ao.fG (xs:=[]) ax (by simp);have ky:iR w1 (some ad) (n*2) xs:=⟨hr.1,fun nE h j v hv=>ag.cell (hr.2 nE h j v hv) (fun h=>h)⟩;refine σ ?_;refine eH (m:=n) (news:=xs) rfl jx rfl (fun h=>by cases h) ky h1 rfl (by omega) (by omega) ?_;intro v2 w2 jT dR ae eO;obtain ⟨va,vc,rfl,_,_⟩:=dR.val;refine σ ?_;refine ⟨jT,by simpa using dR,fun b hb=>?_,ag.step ae (fun x U ah=>by cases U;omega)⟩;rcases eO b hb with h | h
  ·cases h;omega
  ·omega
theorem aj8:gu Tryz.prog 61=some 3:=by kernel_rfl
theorem aj9 {w:World} {a:Option Addr} {n c:Nat} {xs:List Value} (hr:iR w a (n*3) xs) (h1:∀ u∈xs,u.oneCell'=true) (hn:a=none→n=0) (hb:n≤4294967296) :
   aK Tryz.prog 64 [.slice a n c] w fun r w'=>∃ fp,ao w' 61 3 r xs n fp∧(∀ b,fp=some b→w.heap.size≤b)∧Mod (fun _=>False) w w':=by
 refine ajZ.calls rfl ?_;unfold OB;cases a with
 | none=>
  obtain rfl:=hn rfl;have e:xs=[]:=List.eq_nil_of_length_eq_zero (by have:=hr.1;simpa using this);subst e;simp only [go_sem,simprocAttr,Option.isNone_none];exact ⟨none,ao.nil _ _ _,(fun b hb=>by cases hb),Mod.refl _ _⟩
 | some ad=>
  simp only [go_sem,simprocAttr,Option.isNone_some];refine Ft (t:=57) (el:=61) (n:=3) Tryz.underlying57 aj8 ?_;intro w1 ax ag cL;have jx:ao w1 61 3 (.slice (some ⟨w.heap.size,0,none⟩) 0 0) [] 0 (some w.heap.size):=ao.fG (xs:=[]) ax (by simp);have ky:iR w1 (some ad) (n*3) xs:=⟨hr.1,fun nE h j v hv=>ag.cell (hr.2 nE h j v hv) (fun h=>h)⟩;refine σ ?_;refine eH (m:=n) (news:=xs) rfl jx rfl (fun h=>by cases h) ky h1 rfl (by omega) (by omega) ?_;intro v2 w2 jT dR ae eO;obtain ⟨va,vc,rfl,_,_⟩:=dR.val;refine σ ?_;refine ⟨jT,by simpa using dR,fun b hb=>?_,ag.step ae (fun x U ah=>by cases U;omega)⟩;rcases eO b hb with h | h
  ·cases h;omega
  ·omega
theorem aj' {w:World} {v:Value} {xs:List Value} {n:Nat} {fp:Option Nat} (h:ao w 42 2 v xs n fp):aK Tryz.prog 65 [v] w fun r w'=>ao w' 42 2 r xs n fp∧w=w':=by
 obtain ⟨a,c,rfl,hc,_⟩:=h.val;refine afV.calls rfl ?_;unfold Lz;have b1:(0:Int)≤n∧(n:Int)≤c:=by omega
 have b2:(0:Int)≤n∧(n:Int)≤n:=by omega
 simp only [go_sem,simprocAttr,an,bq,b1,b2,Dk];obtain ⟨h1,h2⟩:=h;refine ⟨h1,?_⟩;rcases h2 with ⟨e,h3,h4⟩ | ⟨b,c',sp,e,h3,h4,h5,h6⟩
 ·cases e;exact .inl ⟨rfl,h3,h4⟩
 ·cases e;exact .inr ⟨b,n,sp,rfl,h3,h4,by rw [List.length_append,h1];omega,Nat.le_refl _⟩
theorem aka (l:List It):∀ u∈l.flatMap ec,u.oneCell'=true:=by
 intro u hu;obtain ⟨x,_,U⟩:=List.mem_flatMap.1 hu;simp only [ec,List.mem_cons,List.not_mem_nil,or_false] at U;rcases U with rfl | rfl<;>rfl
section
variable {w:World} {τ:Tag} {m:Nat} {S:SV} {M:Mc} {ks:List Nat}
def Ek (w w':World) (v:Value) (l:List It):Prop:=∃ fp,ao w' 42 2 v (l.flatMap ec) l.length fp∧∀ b,fp=some b→w.heap.size≤b
theorem Xu (h:iL w τ m S M ks) (hl:M.told.length≤4294967296):aK Tryz.prog 41 [ptr m] w fun r w'=>Ek w w' r M.told∧Mod (fun _=>False) w w':=by
 obtain ⟨vG,vF,vW,vT,fg,ff,fw,ft,F,hh⟩:=id h;have hc:=hh.cells;have ht:=hh.tl;obtain ⟨a,c,rfl,_,hn⟩:=ht.val;refine afS.calls rfl ?_;unfold Lw;simp only [go_sem,simprocAttr,cell_of hc,bb,ptr];refine δ (by rfl) (aj5 ht.rd (aka _) (fun e=>(hn e).1) hl) ?_;rintro v w1 ⟨fp,ho,hf,hm⟩;refine σ ?_;refine δ (by rfl) (aj' ho) ?_;rintro r _ ⟨dR,rfl⟩;refine σ ?_;exact ⟨⟨fp,dR,hf⟩,hm⟩
def El (M:Mc):Int:=if M.ended=0 then 4 else M.ended
def OG (k:Int) (v:Value) (st n:Int):Value:=.agg #[I k,v,I st,I n,I 0,I 0,I 0,.string ⟨#[]⟩]
theorem akb (h:iL w τ m S M ks) (hl:M.told.length≤4294967296):aK Tryz.prog 25 [ptr m] w fun r w'=>∃ v,r=OG (El M) v M.stuck M.steps∧Ek w w' v M.told∧Mod (fun _=>False) w w':=by
 refine afR.calls rfl ?_;unfold Lv;refine σ ?_;refine dk ?_;intro w1 ax ag _;have h1:=h.mod ag (eJ τ w .no).wx (fun _ _ h=>h.elim);have Lr:=h1.mod (Mod.refl (fun _=>False) w1).drew (dV _ _).wx (fun _ _ h=>h.elim);obtain ⟨vG,vF,vW,vT,fg,ff,fw,ft,F,hh⟩:=id h1;have hc:=hh.cells;have lm:=hh.lt;simp only [go_sem,simprocAttr,cell_of hc,bb,ptr];refine Fp (fun ρ w'=>∃ b v,ρ.get 0=some (ptr m)∧ρ.get 2=some (ptr w.heap.size)∧ρ.get 3=some (ptr b)∧w'.heap[b]? = some (.cells #[I M.ended,v,I M.stuck,I M.steps,I 0,I 0,I 0,.string ⟨#[]⟩] 37 (0,0))∧w1.heap.size≤b∧Ek w1 w' v M.told∧Mod (fun _=>False) w1 w') ?_ ?_
 ·rw [Fo];refine ⟨?_,?_⟩
  ·refine δ (by rfl) (Xu Lr hl) ?_;rintro v w2 ⟨⟨fp,ho,hf⟩,ae⟩;have vH:Mod (fun _=>False) w1 w2:=Mod.dj ae;have k2:=ae.old m lm (fun h=>h);obtain ⟨va,vc,rfl,_⟩:=ho.val;refine σ ?_;refine ⟨by simp only [il,k2,and_self,implies_true],?_⟩;refine dk ?_;intro w3 aJ ab _;have k3:=ab.old m (by have:=ae.size;exact Nat.lt_of_lt_of_le lm this) (fun h=>h);refine σ ?_;refine ⟨by simp only [il,k3,and_self,implies_true],?_⟩;refine cX (cs:=[I 0,.slice none 0 0,I 0,I 0,I 0,I 0,I 0,.string ⟨#[]⟩]) rfl rfl aJ rfl rfl (by simp [Value.oneCell']) ?_;intro w4 aH ai _;refine σ ?_;have du:Mod (fun _=>False) w2 w4:=ab.step ai (fun x U hl=>by subst U;omega);exact ⟨w2.heap.size,_,rfl,aH,vH.size,⟨fp,ho.mod du (fun _ _ h=>h),hf⟩,vH.trans du⟩
  ·refine dk ?_;intro w3 aJ ab _;have k3:=ab.old m lm (fun h=>h);have q9:Mod (fun _=>False) w1 w3:=Mod.dj ab;refine σ ?_;refine ⟨by simp only [il,k3,and_self,implies_true],?_⟩;refine δ (by rfl) (Xu (h1.mod q9 (eJ _ w1 .no).wx (fun _ _ h=>h.elim)) hl) ?_;rintro v w2 ⟨⟨fp,ho,hf⟩,ae⟩;have k2:=ae.old m (by have:=ab.size;exact Nat.lt_of_lt_of_le lm this) (fun h=>h);obtain ⟨va,vc,rfl,_⟩:=ho.val;refine σ ?_;refine ⟨by simp only [il,k2,and_self,implies_true],?_⟩;have aC:=ae.at aJ (fun h=>h);have e1:w1.drew.heap.size=w1.heap.size:=rfl;refine cX (cs:=[I 0,.slice none 0 0,I 0,I 0,I 0,I 0,I 0,.string ⟨#[]⟩]) rfl rfl aC rfl rfl (by simp [Value.oneCell']) ?_;intro w4 aH ai _;refine σ ?_;have l3:=lt_of_heap aJ;exact ⟨w1.heap.size,_,rfl,aH,Nat.le_refl _,⟨fp,ho.mod ai (fun b hb e=>by have:=hf b hb;omega),fun b hb=>Nat.le_trans q9.size (hf b hb)⟩,(q9.trans ae).step ai (fun x U hl=>by subst U;omega)⟩
 rintro ρ w2 ⟨b,v,r0,r2,r3,aC,lb,⟨fp,ho,hf⟩,ae⟩;have cB:=ae.at hc (fun h=>h);have dC:=ae.at ax (fun h=>h);have l1:=lt_of_heap ax;obtain ⟨va,vc,rfl,_⟩:=ho.val;have cq:=ag.trans ae;have Xv:=ag.size;have hE:El M=if M.ended=0 then 4 else M.ended:=rfl
 simp only [go_sem,simprocAttr,r0,r2,r3,cell_of cB,bb,ptr];refine aY rfl (fun hz=>?_) (fun hz=>?_)
 ·simp only [aL,aM,aN,an,aQ] at hz;rw [if_pos hz] at hE;refine σ ?_;refine bY (off:=0) (cs:=[I M.ended,_,I M.stuck,I M.steps,I 0,I 0,I 0,.string ⟨#[]⟩]) rfl rfl aC rfl (by simp) ?_;intro w3 aJ ab _;have js:w3.heap[b]? = some (.cells [I 4,.slice va M.told.length vc,I M.stuck,I M.steps,I 0,I 0,I 0,.string ⟨#[]⟩].toArray 37 (0,0)):=aJ;simp only [go_sem,simprocAttr,dM (cs:=[_,_,_,_,_,_,_,_]) (off:=0) (n:=8) js (by simp)];have fT:=ab.at dC (fun e=>by omega);refine cX (cs:=[I 0,.slice none 0 0,I 0,I 0,I 0,I 0,I 0,.string ⟨#[]⟩]) rfl rfl fT rfl rfl (by simp [Value.oneCell']) ?_;intro w4 aH ai _;simp only [go_sem,simprocAttr,dM (cs:=[_,_,_,_,_,_,_,_]) (off:=0) (n:=8) aH (by simp)];refine ⟨_,by rw [hE];rfl,⟨fp,(ho.mod ab (fun c hc e=>?_)).mod ai (fun c hc e=>?_),fun c hc=>Nat.le_trans Xv (hf c hc)⟩,(cq.step ab (fun x U hl=>by subst U;omega)).step ai (fun x U hl=>by subst U;omega)⟩
  ·subst e;exact im ho hc aC (by decide)
  ·subst e;have:=hf _ hc;omega
 ·simp only [aL,aM,aN,an,aQ] at hz;rw [if_neg hz] at hE;simp only [go_sem,simprocAttr,dM (cs:=[_,_,_,_,_,_,_,_]) (off:=0) (n:=8) aC (by simp)];refine cX (cs:=[I 0,.slice none 0 0,I 0,I 0,I 0,I 0,I 0,.string ⟨#[]⟩]) rfl rfl dC rfl rfl (by simp [Value.oneCell']) ?_;intro w4 aH ai _;simp only [go_sem,simprocAttr,dM (cs:=[_,_,_,_,_,_,_,_]) (off:=0) (n:=8) aH (by simp)];refine ⟨_,by rw [hE];rfl,⟨fp,ho.mod ai (fun c hc e=>?_),fun c hc=>Nat.le_trans Xv (hf c hc)⟩,cq.step ai (fun x U hl=>by subst U;omega)⟩;subst e;have:=hf _ hc;omega
end
end
section
open Go Go.W
def rb (n:Int):Bool:=decide (n ≥ -4611686018427387904∧n≤4611686018427387903)
theorem akc (w:World) (n:Int):aK Tryz.prog 72 [I n] w fun r w'=>r = .bool (rb n)∧w=w':=by
 refine afY.calls rfl ?_;unfold LC rb;cases h1:decide (n ≥ -4611686018427387904)<;>simp only [go_sem,simprocAttr,h1]<;>(simp only [aL,aM,aN,an,aQ] at h1;simp [h1])
theorem akd (w:World) (n:Int):aK Tryz.prog 71 [I n] w fun r w'=>r = .bool (!rb n)∧w=w':=by
 refine afX.calls rfl ?_;unfold LB;(try simp only [go_sem,simprocAttr]);refine aq (by rfl) ?_;refine (akc w n).mono ?_;rintro _ _ ⟨rfl,rfl⟩;(try simp only [go_sem,simprocAttr])
theorem ake (w:World) {b:Nat} {e:ByteArray} {T0:Nat} (hb:w.heap[b]? = some (.cells #[.string e] T0 (0,0))) (g:Gl) (a:Option Addr) (n c:Nat):aK Tryz.prog 75 [qU g (.slice a n c),ptr b] w fun r w'=>r = .bool (decide (g.name=e))∧Mod (fun _=>False) w w':=by
 refine af1.calls rfl ?_;unfold LK qU;refine σ ?_;refine cK rfl ?_;intro w1 ax ag _;have cj:=ag.at hb (fun h=>h);simp only [go_sem,simprocAttr,cell_of ax,cell_of cj,Value.cells,Ht];exact ag
def oZ (e:ByteArray):List Gl→Nat→Option Nat
 | [],_=>none
 | g::l,i=>if g.name=e then some i else oZ e l (i+1)
theorem akf {e:ByteArray} {l:List Gl} {i:Nat} (h:i < l.length):oZ e (l.drop i) i=if l[i].name=e then some i else oZ e (l.drop (i+1)) (i+1):=by
 rw [List.drop_eq_getElem_cons h];rfl
theorem Xw {e:ByteArray}:∀ (l:List Gl) (k:Nat) {j:Nat},oZ e l k=some j→k≤j∧j < k+l.length:=by
 intro l
 induction l with
 | nil=>intro k j h;cases h
 | cons g l ih=>
  intro k j h;unfold oZ at h
  split at h
  ·cases h;simp
  ·have:=ih (k+1) h;simp only [List.length_cons];omega
def o0 (e:ByteArray) (T:bH):Int:=match oZ e T.globals 0 with
 | some j=>j
 | none => -1
theorem akg {w:World} {cu ci:Value} {T:bH} {B:Nat→Prop} (h:fM w cu ci T B) (hT:sN T) {b:Nat} {e:ByteArray} {T0:Nat} (hb:w.heap[b]? = some (.cells #[.string e] T0 (0,0))) :
   aK Tryz.prog 74 [ci,.func (.func 75) #[] #[ptr b]] w fun r w'=>r=I (o0 e T)∧Mod (fun _=>False) w w':=by
 have h0:=h;obtain ⟨⟨aS,cS,rfl⟩,aG,cG,rfl⟩:=oe h;have Ed:=hT.gn;refine af0.calls rfl ?_;unfold LJ;refine σ ?_
 refine dA (fun z ρ w'=>∃ i:Nat,z=T.globals.length - i∧i≤T.globals.length∧Mod (fun _=>False) w w'∧oZ e T.globals 0=oZ e (T.globals.drop i) i ∧
  ρ=[(0,.slice aG T.globals.length cG),(1,.func (.func 75) #[] #[ptr b]),(7,I T.globals.length),(8,I i)]) T.globals.length ⟨0,rfl,by omega,Mod.refl _ _,rfl,rfl⟩ ?_
 rintro z ρ w2 ⟨i,rfl,hi,ae,eW,rfl⟩;unfold U3;refine σ ?_;refine aY rfl (fun ah=>?_) (fun ah=>?_)
 ·have ah:i < T.globals.length:=by simpa using ah
  have h2:=h.mod ae (fun _ _ h=>h) (fun _ h=>h);obtain ⟨ad,c,cv,e',ed,gH⟩:=Ec h2 ah;cases e';have dN:=akf (e:=e) ah;obtain ⟨sO,lQ,rfl⟩:=uq gH;generalize T.globals[i]=g at *;have og:(0:Int)≤i∧(i:Int) < T.globals.length:=by omega
  have e1:IntKind.i64.wrap ((i:Int)+1)=((i+1:Nat):Int):=by rw [cy (by omega) (by omega)];omega
  unfold qU at ed;simp only [go_sem,simprocAttr,an,bq,og,ed];refine Fs (f:=75) (cap:=#[ptr b]) rfl rfl rfl rfl rfl ?_;refine (ake w2 (ae.at hb (fun h=>h)) g sO _ lQ).mono ?_;rintro _ w3 ⟨rfl,ab⟩;have dy:=ae.trans ab;refine σ ?_;refine aY rfl (fun hz=>?_) (fun hz=>?_)
  ·simp only [aL,aM,aN,an,aQ] at hz;refine σ ?_;have:o0 e T=i:=by unfold o0;rw [eW,dN,if_pos hz]
   rw [this];exact ⟨rfl,dy⟩
  ·simp only [aL,aM,aN,an,aQ] at hz;simp only [go_sem,simprocAttr,e1];exact ⟨_,by omega,i+1,rfl,by omega,dy,by rw [eW,dN,if_neg hz],rfl⟩
 ·have ah:¬ i < T.globals.length:=by simpa using ah
  obtain rfl:i=T.globals.length:=by omega
  refine σ ?_;have:o0 e T = -1:=by unfold o0;rw [eW,List.drop_length];rfl
  rw [this];exact ⟨rfl,ae⟩
def sU (b8:Bool) (heap:Int):Int:=if b8=true then (if heap.tdiv 8 > 1 then heap.tdiv 8 else 1) else heap
def re (b8:Bool) (heap:Int):Kd:=if b8=true then .gn (sU true heap) 0 0 else .hp 0
def xV (heap:Int) (b8:Bool) (every:Int):Value:=.agg #[I heap,.bool b8,I every]
theorem akh (w:World) {heap:Int} (b8:Bool) (every:Int) (hh:1≤heap∧heap≤1048576) :
   aK Tryz.prog 76 [xV heap b8 every] w fun r w'=>∃ sv F,r = .tuple #[sv,I (sU b8 heap),I 0]∧gM w' sv ⟨re b8 heap,heap,[]⟩ F∧Mod (fun _=>False) w w'∧∀ b,F b→w.heap.size≤b:=by
 refine af2.calls rfl ?_;unfold LL xV;refine σ ?_;refine cK rfl ?_;intro w1 ax ag _;have s1:=ag.size;cases b8 with
 | true=>
  have e1:IntKind.i64.wrap (heap.tdiv 8)=heap.tdiv 8:=by
   have:=Int.tdiv_nonneg (a:=heap) (b:=8) (by omega) (by omega);have:heap.tdiv 8≤heap:=by rw [Int.tdiv_eq_ediv_of_nonneg (by omega)];omega
   exact cy (by omega) (by omega)
  have hy:sU true heap=if heap.tdiv 8 > 1 then heap.tdiv 8 else 1:=rfl
  have E7:1≤sU true heap∧sU true heap≤heap:=by
   rw [hy];have:heap.tdiv 8≤heap:=by rw [Int.tdiv_eq_ediv_of_nonneg (by omega)];omega
   split<;>omega
  simp only [go_sem,simprocAttr,cell_of ax,Value.cells,show ((8:Int)=0)=False from eq_false (by decide),e1,← hy];refine δ (by rfl) (adL heap (sU true heap) w1) ?_;rintro r w2 ⟨k1,_⟩;obtain ⟨a,F,rfl,hG,ae,hF⟩:=k1 ⟨by omega,by omega,E7.1,E7.2⟩;refine σ ?_;refine ⟨_,F,rfl,⟨a,rfl,hG⟩,ag.trans ae,fun b hb=>Nat.le_trans s1 (hF b hb)⟩
 | false=>
  simp only [go_sem,simprocAttr,cell_of ax,Value.cells];refine δ (by rfl) (acw heap w1) ?_;rintro r w2 ⟨k1,_⟩;obtain ⟨rfl,hA,ae,_⟩:=k1 ⟨by omega,by omega⟩;have dC:=ae.at ax (fun h=>h);simp only [go_sem,simprocAttr,cell_of dC,Value.cells];refine ⟨_,(· = w1.heap.size),rfl,⟨_,rfl,hA.mod (Mod.refl (fun _=>False) w2).drew (fun _ _ h=>h)⟩,(ag.trans ae).drew,fun b hb=>by subst hb;exact s1⟩
theorem Em {sz:Nat}:∀ (rows:List (List Value)),(∀ r∈rows,r.length=sz)→∀ (i:Nat) (h:i < rows.length) (k:Nat),k < sz→(rows.flatMap id)[i*sz+k]? = (rows[i]'h)[k]?:=by
 intro rows
 induction rows with
 | nil=>intro _ i h;simp at h
 | cons r rows ih=>
  intro hr i h k hk;have h0:=hr r (by simp);simp only [List.flatMap_cons,id];cases i with
  | zero=>rw [List.getElem?_append_left (by omega)];simp
  | succ i=>
   rw [List.getElem?_append_right (by rw [h0,Nat.add_mul];omega),h0];have e:(i+1)*sz+k - sz=i*sz+k:=by rw [Nat.add_mul];omega
   rw [e];exact ih (fun r tI=>hr r (by simp [tI])) i (by simpa using h) k hk
theorem sV {w:World} {T sz:Nat} {v:Value} {rows:List (List Value)} {fp:Option Nat} (h:ao w T sz v (rows.flatMap id) rows.length fp) (hr:∀ r∈rows,r.length=sz):cO w v sz rows (fun b=>fp=some b):=by
 obtain ⟨h1,⟨rfl,h2,rfl⟩ | ⟨b,c,sp,rfl,rfl,h3,_⟩⟩:=h
 ·refine ⟨none,0,by rw [h2],(fun _ ad e=>by cases e),fun i hi=>?_⟩;omega
 ·refine ⟨some ⟨b,0,none⟩,c,rfl,(fun _ ad e=>by cases e;rfl),fun i hi=>⟨_,rfl,hr _ (List.getElem_mem hi),fun k hk=>?_⟩⟩;have hl:=hr _ (List.getElem_mem hi);have hf:=Em rows hr i hi k (by omega);rw [List.getElem?_eq_getElem hk] at hf;have ah:i*sz+k < (rows.flatMap id).length:=(List.getElem?_eq_some_iff.1 hf).1;rw [dB,dB,cell_of h3];simp only [Nat.zero_add,List.getElem?_toArray];rw [List.getElem?_append_left ah];exact hf
theorem aki (w:World):aK Tryz.prog 78 [] w fun r w'=>∃ b,(w.heap.size≤b∧b < w'.heap.size)∧cO w' r 2 mc (· = b)∧Mod (fun _=>False) w w':=by
 refine af4.calls rfl ?_;unfold LN;refine σ ?_;refine cd (by rfl) (by rfl) ?_;intro w1 ax ag _;refine σ ?_;have fY:w1.heap[w.heap.size]? = some (.cells (mc.flatMap id).toArray 177 (0,0)):=ax;have ho:ao w1 177 2 (.slice (some ⟨w.heap.size,0,none⟩) 18 18) (mc.flatMap id) mc.length (some w.heap.size):=ao.fG (xs:=mc.flatMap id) fY rfl;have h2:∀ r∈mc,r.length=2:=by
  intro r hr;simp only [mc,List.mem_cons,List.not_mem_nil,or_false] at hr;rcases hr with rfl | rfl | rfl | rfl | rfl | rfl | rfl | rfl | rfl | rfl | rfl | rfl | rfl | rfl | rfl | rfl | rfl | rfl<;>rfl
 obtain ⟨a,c,e,hB,U⟩:=sV ho h2;exact ⟨w.heap.size,⟨Nat.le_refl _,lt_of_heap fY⟩,⟨a,c,e,(fun h0 ad ep=>(Option.some.inj (hB h0 ad ep)).symm),U⟩,ag⟩
end
section
open Go Go.W Go.ChangeShapes Go.WideShapes Go.ChangeAt Go.RowKit Go.Deep
theorem Tryz.Xx:Tryz.prog.cellsOf 47=2:=by kernel_rfl
theorem Tryz.Xy:Tryz.prog.cellsOf 9=1:=by kernel_rfl
theorem Tryz.Xz:Tryz.prog.cellsOf 3=1:=by kernel_rfl
theorem Tryz.XA:Tryz.prog.cellsOf 42=2:=by kernel_rfl
theorem Tryz.akj:Tryz.prog.bytesOf 47=24:=by kernel_rfl
theorem Tryz.akk:Tryz.prog.bytesOf 42=24:=by kernel_rfl
theorem Tryz.own:ownKnob Tryz.prog.godebug=none:=by kernel_rfl
theorem Tryz.laidOut:laidOutB Tryz.prog=true:=by kernel_rfl
theorem En {p:Nat→Bool} {l m:List Nat} (h:(l++m).all p=true):l.all p=true∧m.all p=true:=by
 simpa using h
section
variable {H:Type} {enc:TypeId×Value→H} {P:Program}
theorem XB {w:World} {a:Addr} {v:Value} (h:w.cell? a=some v):a.block < w.heap.size:=by
 unfold World.cell? at h;cases hb:w.heap[a.block]? with
 | none=>rw [hb] at h;cases h
 | some o=>exact lt_of_heap hb
theorem XC {α:Type} [Inhabited α] {t e:TypeId} {k bytes n:Nat} (Bw:α→List Value) (OH:α→Prop) (μ:α→Nat) {w:World} {base:Nat} {held:Bool} {cs:List Value} {x:DataW H×List MemPlace}
   (ht:P.underlying t=some (.slice e)) (hk:P.cellsOf e=k) (Hu:P.bytesOf e=bytes) (hlen:∀ a,(Bw a).length=k) (oM:0 < k)
   (each:∀ n cs y,DataW.trod enc P w base (fun _=>true) held n e cs=some y→(y.1.weights P e).all (·≤reachBytes)=true→∃ o,cs=Bw o∧OH o∧μ o≤Rows.uptoBulk y.1)
   (h:DataW.trod enc P w base (fun _=>true) held n t cs=some x) (hw:(x.1.weights P t).all (·≤reachBytes)=true) :
   ∃ (v:Value) (os:List α),cs=[v]∧cO w v k (os.map Bw) (· < w.heap.size)∧(∀ o∈os,OH o)∧os.length*bytes≤reachBytes∧(os.map μ).sum+1≤Rows.uptoBulk x.1:=by
 rcases open_slice ht h with ⟨rfl,rfl⟩ | ⟨a,len,cap,m,k',D,Pl,rfl,_,hl,_,hm,rfl,uU⟩
 ·exact ⟨_,[],rfl,⟨none,0,rfl,(fun _ ad e=>by cases e),fun i hi=>absurd hi (by simp)⟩,(fun o ho=>by cases ho),by simp,by simp [Rows.uptoBulk]⟩
 ·simp only [if_true] at hm;subst hm;simp only [DataW.weights,ht,Hu,List.length_map,List.length_range,List.all_cons,Bool.and_eq_true,decide_eq_true_eq] at hw;obtain ⟨rI,vh⟩:=hw;obtain ⟨vh,_⟩:=En vh;have all:∀ i,i < len→∃ o:α,(∀ j,j < k→w.cell? ((a.add (i*k)).add j)=(Bw o)[j]?)∧OH o∧μ o≤Rows.uptoBulk (D i):=by
   intro i hi;obtain ⟨cs,h3,h4⟩:=uU i (by omega);have AK:((D i).weights P e).all (·≤reachBytes)=true:=by
    have key:∀ (l:List (DataW H)) d,d∈l→(DataW.weightsAll P e l).all (·≤reachBytes)=true→(d.weights P e).all (·≤reachBytes)=true:=by
     intro l
     induction l with
     | nil=>intro d hd;cases hd
     | cons y l ih=>
      intro d hd hh;rw [DataW.weightsAll] at hh;obtain ⟨z1,z2⟩:=En hh;rcases List.mem_cons.1 hd with rfl | hd
      ·exact z1
      ·exact ih d hd z2
    exact key _ _ (List.mem_map.2 ⟨i,List.mem_range.2 hi,rfl⟩) vh
   obtain ⟨o,rfl,ho,hμ⟩:=each _ _ _ h4 AK;obtain ⟨_,_,h5⟩:=World.cells?_some h3;rw [hk] at h5;exact ⟨o,fun j hj=>h5 j hj,ho,hμ⟩
  obtain ⟨f,hf⟩:=choose_lt (α:=α) (h:=all);refine ⟨_,(List.range len).map f,rfl,⟨some a,m,by simp,fun h0 ad e=>?_,?_⟩,?_,by simpa using Nat.le_trans (Nat.mul_le_mul_right _ (by omega)) rI,?_⟩
  ·cases e;have MX:0 < len:=by simpa using h0
   have hc:=(hf 0 MX).1 0 oM;have e1:(Bw (f 0))[0]? = some ((Bw (f 0))[0]'(by rw [hlen];exact oM)):=List.getElem?_eq_getElem _;rw [e1] at hc;simp only [Nat.zero_mul,add_zero'] at hc;exact XB hc
  ·intro i hi;have bO:i < len:=by simpa using hi
   refine ⟨a,rfl,by simp [hlen],fun j hj=>?_⟩;have:=(hf i bO).1 j (by simpa [hlen] using hj);rw [this];simp only [List.getElem_map,List.getElem_range];exact List.getElem?_eq_getElem _
  ·intro o ho;obtain ⟨i,hi,rfl⟩:=List.mem_map.1 ho;exact (hf i (List.mem_range.1 hi)).2.1
  ·have key:∀ l:List Nat,(∀ i∈l,i < len)→((l.map f).map μ).sum≤Rows.uptoBulkAll (l.map D):=by
    intro l
    induction l with
    | nil=>intro _;simp [Rows.uptoBulkAll]
    | cons i l ih=>
     intro hl;have h1:=(hf i (hl i (by simp))).2.2;have h2:=ih (fun j hj=>hl j (by simp [hj]));simp only [List.map_cons,List.sum_cons,Rows.uptoBulkAll];omega
   have:=key (List.range len) (fun i hi=>List.mem_range.1 hi);show _+1≤Rows.uptoBulkAll _+Rows.uptoBulkAll _+1;omega
instance:Inhabited Ins:=⟨⟨0,0,0⟩⟩
instance:Inhabited gF:=⟨⟨⟨#[]⟩,0⟩⟩
structure akl where
 g:Gl
 v:Value
instance:Inhabited akl:=⟨⟨⟨⟨#[]⟩,0,[]⟩,.slice none 0 0⟩⟩
theorem akm:reachBytes=140737488351232:=by decide
variable {w:World} {base:Nat} {held:Bool}
theorem XD {n:Nat} {c:Value} {y:DataW H×List MemPlace} (h:DataW.trod enc Tryz.prog w base (fun _=>true) held n 9 [c]=some y) (hw:(y.1.weights Tryz.prog 9).all (·≤reachBytes)=true) :
   ∃ s:ByteArray,c = .string s∧s.size≤140737488351232∧s.size+1=Rows.uptoBulk y.1:=by
 obtain ⟨s,e,rfl,_⟩:=DataW.trod_string Tryz.underlying9 h;cases e;have h1:s.data.toList.length=s.size:=Array.length_toList;refine ⟨s,rfl,?_,by simp only [Rows.uptoBulk];omega⟩;simp only [DataW.weights,List.all_cons,Bool.and_eq_true,decide_eq_true_eq,akm] at hw;omega
theorem akn (n:Nat) (cs:List Value) (y:DataW H×List MemPlace) (h:DataW.trod enc Tryz.prog w base (fun _=>true) held n 47 cs=some y) (hw:(y.1.weights Tryz.prog 47).all (·≤reachBytes)=true) :
   ∃ x:gF,cs=fy x∧x.name.size≤140737488351232∧x.name.size+1≤Rows.uptoBulk y.1:=by
 obtain ⟨xs,m,rfl,rfl,hl,OI,hf⟩:=DataW.trod_struct Tryz.underlying47 h;rw [Tryz.Xx] at hl
 match cs,hl,xs,OI with
 | [c0,c1],_,[x0,x1],_=>
 have f0:=hf 0 _ rfl;have f1:=hf 1 _ rfl;simp only [Tryz.Xz,Tryz.Xy,List.drop_zero,List.drop_succ_cons,List.take_succ_cons,List.take_zero,List.getElem?_cons_zero,List.getElem?_cons_succ] at f0 f1;simp only [DataW.weights,Tryz.underlying47,List.map_cons,List.map_nil,DataW.weightsEach] at hw;obtain ⟨zb,_⟩:=En hw;obtain ⟨s,rfl,hs,hb⟩:=XD f0 zb;obtain ⟨i1,e1,rfl,_⟩:=DataW.trod_int Tryz.underlying3 f1;cases e1;refine ⟨⟨s,i1⟩,rfl,hs,?_⟩;simp only [Rows.uptoBulk,Rows.uptoBulkAll,List.map_cons,List.map_nil,← hb];omega
end
end
end Go.Proofs.YtnjobkbblhaliaaGreatDoor
namespace Go.W
section
open Go
structure XE (P:Program) (N:Nat) (ia ib:IR) (Kp:World→World→Prop) (len:Nat) (dF:Nat→Value) (p1 p2:Nat) (ρ:Env) (B:Nat) (I:List Nat→World→Prop) (A:Nat→Env→World→Prop) (w:World):Prop where
 zero:I [] w
 quiet:∀ s,Quiet B (I s)
 ako:∀ j bl,Quiet B (A j bl)
 lay:∀ (pre:List Nat) (j:Nat) (W:World),I pre W→j < len →
  cM P N ia (fun e bl W'=>match e with | .normal=>KeepsFrom B W W'∧Kp W W'∧I pre W'∧A j bl W' | _=>False) ((p2,dF j)::ρ) W
 body:∀ (pre:List Nat) (j:Nat) (bl:Env) (W:World),I pre W→A j bl W→pre.length < len→j < len →
  cM P N ib (fun e _ W'=>match e with | .normal=>KeepsFrom B W W'∧Kp W W'∧I (pre++[j]) W' | _=>False) bl W
theorem akp {n:Nat} {P:Program} {N:Nat} {dl:List Deferred} {x p1 p2:Nat} {sa bd:Code} {ia ib:IR} {H H':List (Nat×List Nat×List Nat)} (jR:eM P N H' sa=some ia) (akq:calm sa=true) (akr:kK ia=true) (rK:eM P N H bd=some ib) (Co:calm bd=true) (Cq:kK ib=true)
   {gf:Nat} {lb:Array Value} {len:Nat} {dF:Nat→Value} {Kp:World→World→Prop} {ρ:Env} {a:Act} {w:World} {Q:Exit→Act→World→Prop} (hg:Good dl N ρ a) (U:ρ.get x=some (.func (.func gf) #[] lb))
   (eg:∀ args w,(callFunc gf args).run P w = .ok (.enter gf args) w)
   (pC:SeqStopsK Fence.wide (n - 1) P gf lb (fun y : { j:Nat // j < len}=>#[.int .i64 (y.1:Int),dF y.1]) Kp (fun ys=>ys.map Subtype.val=eN len len) (fun _=>True) len w)
   (hp:p1≠p2∧p1 < N∧p2 < N) (Cr:ρ.get p1=none∧ρ.get p2=none) (hn:1≤n)
   (rL:∀ {A B C:World},Kp A B→Kp B C→Kp A C) (rM:∀ (W:World) (l:Nat) (o o':Obj),w.heap.size≤l→W.heap[l]? = some o→o.isCells=false→o.isWalk=false→Kp W (W.putObj l o'))
   (I:List Nat→World→Prop) (A:Nat→Env→World→Prop) (hI:XE P N ia ib Kp len dF p1 p2 ρ w.heap.size I A w)
   (done:∀ (D:Nat) (W:World),w.heap.size≤D→I (eN len len) W→W.heap[D]? = some (.deferred (some []))→∀ a',Good ({ target:=.collected D,args:=#[]}::dl) N ρ a'→Q .normal a' W) :
   (Code.rangeFunc (.tmp x) #[p1,p2] sa bd).wp P Q a w:=by
 obtain ⟨aby,tJ,iU⟩:=hp;obtain ⟨tK,eO⟩:=Cr;have h0:Good [] N ρ { tmps:=a.tmps,defers:=[]}:=⟨hg.size,rfl,hg.get⟩;have uP:a.eval (.tmp x) = .func (.func gf) #[] lb:=hg.agree (.tmp x) _ U;refine (wpIn_wide (n:=n)).1 ?_;refine wpIn_rangeFunc_ownH (α:={ j:Nat // j < len}) rfl hn uP trivial eg pC rL rM (Go.RowKit.Below.refl _ _) (fun _=>rfl) (fun xs W=>I (xs.map Subtype.val) W) (fun _ _ _=>False)
  (Jz (fun s=>hI.quiet _)) (fun c=>fun s W W' row h=>h.elim) hI.zero
  (fun y a' W=>∃ bl,Good [] N bl a'∧A y.1 bl W) (fun y a'=>fun _ W W' row hs hg hr=>by
   obtain ⟨bl,h1,h2⟩:=hs
   exact ⟨bl,h1,hI.ako _ _ W W' (fun b=>row=some b) h2 ⟨hg.size,fun b hb hn=>hg.block b hb (fun e=>hn e.symm),hg.os,hg.tape,hg.output⟩ (fun b hb=>hr b hb)⟩) ?_ ?_ ?_ ?_
 ·intro l pre y W K hi hK;have e:((#[p1,p2].zip #[Value.int .i64 (y.1:Int),dF y.1]).foldl (fun t (p,v)=>t.setIfInBounds p v) a.tmps)=((({ tmps:=a.tmps,defers:=[]}:Act).put (some p1) (.int .i64 (y.1:Int))).put (some p2) (dF y.1)).tmps:=by simp [Act.put]
  rw [e];have hG:Good [] N ((p2,dF y.1)::ρ) ((({ tmps:=a.tmps,defers:=[]}:Act).put (some p1) (.int .i64 (y.1:Int))).put (some p2) (dF y.1)):=
   (Cn h0 _ tK tJ).put (some p2) _ (fun t ht=>by cases ht;exact iU)
  refine wpIn_mono (Fw sa ia _ _ _ _ jR akq akr (hI.lay _ y.1 W hi y.2) hG) ?_;rintro e a' w' ⟨bl,de,hq⟩;cases e with
  | normal=>exact hK a' w' hq.1 hq.2.1 hq.2.2.1 ⟨bl,de,hq.2.2.2⟩
  | _=>exact hq.elim
 ·rintro l pre y a' W _ _ hi ⟨bl,hG,hA⟩ hlen;refine wpIn_mono (Fw bd ib _ _ _ _ rK Co Cq (hI.body _ y.1 bl W hi hA (by simpa using hlen) y.2) hG) ?_;rintro e a' w' ⟨apo,_,hq⟩;cases e with
  | normal=>
   obtain ⟨q1,q2,q3⟩:=hq;exact ⟨q1,q2,by show I ((pre++[y]).map Subtype.val) w';rw [List.map_append];exact q3⟩
  | _=>exact hq.elim
 ·intro D xs W hD hS hi hh;have hS:xs.map Subtype.val=eN len len:=hS;have hi:I (xs.map Subtype.val) W:=hi;rw [hS] at hi;exact done D W hD hi hh _ ⟨hg.size,by simp [hg.defers],hg.get⟩
 ·intro D c pre W _ _ hh;exact hh.elim
structure OJ (P:Program) (f lX:Nat) (H:List (Nat×List Nat×List Nat)) (i0 i1 ia ib:IR) (x p1 p2 N:Nat):Prop where
 go:∃ fn c0 c1 id sa bd,P.funcs[f]? = some fn∧fn.body=some (.seq c0 (.seq c1 (.block id (.rangeFunc (.tmp x) #[p1,p2] sa bd))))∧fn.ntmps=N∧lX≤N∧fn.results = #[] ∧
  eM P N H c0=some i0∧eM P N H c1=some i1∧eM P N H sa=some ia∧calm sa=true∧kK ia=true∧eM P N H bd=some ib∧calm bd=true∧kK ib=true∧p1≠p2∧p1 < N∧p2 < N
structure aks (P:Program) (N:Nat) (ia ib:IR) (x p1 p2:Nat) (ρ:Env) (w:World) (n len gf:Nat) (lb:Array Value) (dF:Nat→Value) (Kp:World→World→Prop) (I:List Nat→World→Prop) (A:Nat→Env→World→Prop):Prop where
 U:ρ.get x=some (.func (.func gf) #[] lb)
 eg:∀ args w,(callFunc gf args).run P w = .ok (.enter gf args) w
 pC:SeqStopsK Fence.wide (n - 1) P gf lb (fun y : { j:Nat // j < len}=>#[.int .i64 (y.1:Int),dF y.1]) Kp (fun ys=>ys.map Subtype.val=eN len len) (fun _=>True) len w
 fresh:ρ.get p1=none∧ρ.get p2=none
 hn:1≤n
 rL:∀ {A B C:World},Kp A B→Kp B C→Kp A C
 rM:∀ (W:World) (l:Nat) (o o':Obj),w.heap.size≤l→W.heap[l]? = some o→o.isCells=false→o.isWalk=false→Kp W (W.putObj l o')
 hI:XE P N ia ib Kp len dF p1 p2 ρ w.heap.size I A w
theorem OJ.calls {P:Program} {f lX:Nat} {H:List (Nat×List Nat×List Nat)} {i0 i1 ia ib:IR} {x p1 p2 N:Nat} (h:OJ P f lX H i0 i1 ia ib x p1 p2 N) {args:List Value} (hn:args.length=lX) {w:World} {R:Value→World→Prop}
   (hw:cM P N i0 (fun e ρ w=>e = .normal∧cM P N i1 (fun e ρ w=>e = .normal∧∃ n len gf lb dF Kp I A,aks P N ia ib x p1 p2 ρ w n len gf lb dF Kp I A ∧
    ∀ (D:Nat) (W W':World),w.heap.size≤D→I (eN len len) W→Mod (· = D) W W'→W.heap[D]? = some (.deferred (some []))→R (.tuple #[]) W') ρ w) (rH 0 args) w):aK P f args w R:=by
 obtain ⟨fn,c0,c1,id,sa,bd,hf,hb,hN,hle,hr,gO,cY,jR,ca,ka,rK,cb,kb,hp⟩:=h.go;unfold aK;refine callsIn_wide.1 (callsIn_of_wp_marks (n:=0) hf hb trivial ?_);have hg:Good ([].map Aw) N (rH 0 args) { tmps:=args.toArray++Array.replicate (fn.ntmps - args.toArray.size) undef,defers:=[]}:=by
  refine ⟨?_,rfl,?_⟩
  ·simp only [Array.size_append,List.size_toArray,Array.size_replicate];omega
  ·intro t v ht;obtain ⟨_,h2⟩:=Jo args 0 t v ht;have ah:t < args.length:=by
    rcases Nat.lt_or_ge t args.length with h | h
    ·exact h
    ·simp [List.getElem?_eq_none h] at h2
   simp only [Nat.sub_zero] at h2;rw [Array.getElem?_append_left (by simpa using ah)]
   simpa using h2
 refine (wpIn_wide (n:=0)).2 ?_;refine wp_seq (wp_mono (Fk c0 i0 _ _ _ w gO hw hg) ?_);rintro e a1 w1 ⟨ρ1,oR,rfl,rI⟩;refine wp_seq (wp_mono (Fk c1 i1 _ _ _ w1 cY rI oR) ?_);rintro e a2 w2 ⟨Ak,lu,rfl,n,len,gf,lb,dF,Kp,I,A,hF,hd⟩;refine wp_block ?_;refine akp jR ca ka rK cb kb lu hF.U hF.eg hF.pC hp hF.fresh hF.hn hF.rL hF.rM I A hF.hI ?_;intro D W hD hI hh a' ha';show LeavesInM Fence.wide 0 P fn a'.tmps _ a'.defers .returning W;rw [ha'.defers];refine JF [D] W (fun D' Ay=>by obtain rfl:=List.mem_singleton.1 Ay;exact hh) (List.nodup_cons.2 ⟨(by simp),List.nodup_nil⟩) ?_;intro W' hm hs;refine ⟨.tuple #[],?_,_,rfl,hd D W W' hD hI (hm.az (fun b hb=>List.mem_singleton.1 hb)) hh⟩;have h1:tG P fn.results.toList=some []:=by rw [hr];rfl
 refine kZ ?_;unfold results;rw [c8,Array.mapM_eq_mapM_toList,E0];have:=Jk (P:=P) ha' fn.results.toList [] [] h1 rfl (w:=W');refine Eq.trans (congrArg (fun o:Option (List Value)=>(o.map List.toArray).bind fun vs=>ro P W' (pure (if h:vs.size=1 then vs[0] else .tuple vs):Sem Value)) this) ?_;simp [gh]
end
end Go.W
namespace Go.Proofs.YtnjobkbblhaliaaGreatDoor
section
open Go Go.RowKit Go.Shelf
attribute [local go_sem] Oper.semAt_some
set_option maxRecDepth 100000 in
set_option maxHeartbeats 2000000 in
theorem akt (F:Fence) (n:Nat) (h7:F.fn 142) (pV:F.round=none) (hn:1≤n) (l Bs b off len cap:Nat) (e1 e2:Nat→Value) (xy:len*16≤140737488351232) (J Jx:List Nat→World→Prop)
   (hY:∀ pre j W,J pre W→pre.length < len→j < len→YieldAt F (n - 1) Tryz.prog l #[.int .i64 (j:Int),.agg #[e1 j,e2 j]] W fun e W'=>
    (e = .returned (.bool true)∧J (pre++[j]) W'∧sG Bs b W W')∨(e = .returned (.bool false)∧Jx (pre++[j]) W'))
   (W:World) (vO:W.cell? ⟨Bs,0,none⟩=some (.slice (some ⟨b,off,none⟩) len cap)) (hc:∀ j,j < len→W.cell? ⟨b,off+j*2,none⟩=some (e1 j)∧W.cell? ⟨b,off+j*2+1,none⟩=some (e2 j)) (h0:J [] W) :
   CallsIn F n Tryz.prog 142 #[.func (.yield l) #[] #[],.pointer (some ⟨Bs,0,none⟩)] W fun e W'=>(∃ v,e = .returned v) ∧
    ((∃ ys,ys=eN len len∧J ys W')∨(∃ pre,(∃ k,k≤len∧pre=eN len k)∧Jx pre W')):=by
 refine callsIn_of_wp Tryz.func142 rfl h7 ?_ pV;simp only [Tryz.ntmps142,List.size_toArray,List.length_cons,List.length_nil,Nat.reduceAdd,Nat.reduceSub,Array.replicate_succ,Array.replicate_zero,List.push_toArray,List.append_toArray,List.nil_append,List.cons_append];have ahE:(IntKind.i64.wrap ((len:Int) - 1))=(len:Int) - 1:=by rw [IntKind.wrap_i64];omega
 gi_wp2
 gi_loopw [3] (fun i wr=>∃ k:Nat,k≤len∧i = .int .i64 ((len:Int) - 1 - k)∧J (eN len k) wr∧sG Bs b W wr)
  (fun i _=>(intOf i+1).toNat)
 case atStart=>exact ⟨0,Nat.zero_le _,by simp,h0,rfl,rfl⟩
 case round=>
  obtain ⟨k,hk,rfl,vP,gV⟩:=hrel;have ahF:wr.cell? ⟨Bs,0,none⟩=some (.slice (some ⟨b,off,none⟩) len cap):=(DE gV).2.trans vO;by_cases ah:k < len
  ·obtain ⟨j,hj,ji⟩:∃ j:Nat,(len:Int) - 1 - k=(j:Int)∧len - 1 - k=j:=⟨len - 1 - k,by omega,rfl⟩;have Be:j < len:=by omega
   have hcx:wr.cell? ⟨b,off+j*2,none⟩=some (e1 j):=(DE gV).1.trans (hc j Be).1;have hcy:wr.cell? ⟨b,off+j*2+1,none⟩=some (e2 j):=(DE gV).1.trans (hc j Be).2;obtain ⟨fn,tmps,assign,body,hy,hR⟩:=hY _ j wr vP (by rw [Jy];exact ah) Be;have MS:IntKind.i64.wrap ((j:Int) - 1)=(j:Int) - 1:=by rw [IntKind.wrap_i64];omega
   rw [hj]
   gi_wp2
   refine hR.mono ?_;rintro e W3 (⟨rfl,MT,mg⟩ | ⟨rfl,MU⟩)
   ·gi_wp2
    go_roundw
    case rel=>exact ⟨k+1,by omega,by rw [show (len:Int) - 1 - ((k+1:Nat):Int)=(j:Int) - 1 by omega],by rw [Cm,ji];exact MT,mg.1.trans gV.1,mg.2.trans gV.2⟩
    case measure=>simp [intOf]
   ·gi_wp2
    refine bodyPost_ret (results_none rfl _ _ _) rfl ?_;exact ⟨⟨_,rfl⟩,.inr ⟨_,⟨k+1,by omega,by rw [Cm,ji]⟩,MU⟩⟩
  ·obtain rfl:k=len:=by omega
   have h0:decide (0≤(k:Int) - 1 - k)=false:=by simp;omega
   gi_wp2
   go_end0
   exact ⟨⟨_,rfl⟩,.inl ⟨_,rfl,vP⟩⟩
set_option maxRecDepth 100000 in
set_option maxHeartbeats 1000000 in
theorem aku (F:Fence) (n:Nat) (h7:F.fn 142) (pV:F.round=none) (l Bs:Nat) (J:List Nat→World→Prop) (W:World) (vO:W.cell? ⟨Bs,0,none⟩=some (.slice none 0 0)) (h0:J [] W) :
   CallsIn F n Tryz.prog 142 #[.func (.yield l) #[] #[],.pointer (some ⟨Bs,0,none⟩)] W fun e W'=>(∃ v,e = .returned v)∧J [] W':=by
 refine callsIn_of_wp Tryz.func142 rfl h7 ?_ pV;simp only [Tryz.ntmps142,List.size_toArray,List.length_cons,List.length_nil,Nat.reduceAdd,Nat.reduceSub,Array.replicate_succ,Array.replicate_zero,List.push_toArray,List.append_toArray,List.nil_append,List.cons_append]
 gi_wp2
 gi_loopw [3] (fun i wr=>i = .int .i64 (-1)∧J [] wr) (fun _ _=>0)
 case atStart=>exact ⟨rfl,h0⟩
 case round=>
  obtain ⟨rfl,vP⟩:=hrel
  gi_wp2
  go_end0
  exact ⟨⟨_,rfl⟩,vP⟩
theorem akv (F:Fence) (n:Nat) (h7:F.fn 142) (pV:F.round=none) (hn:1≤n) (Bs b len:Nat) (sv:Value) (e1 e2:Nat→Value) (w:World) (vO:w.cell? ⟨Bs,0,none⟩=some sv) (mY:Bs < w.heap.size)
   (hs:(sv = .slice none 0 0∧len=0)∨(b < w.heap.size∧∃ cap,sv = .slice (some ⟨b,0,none⟩) len cap∧∀ j,j < len→w.cell? ⟨b,j*2,none⟩=some (e1 j)∧w.cell? ⟨b,j*2+1,none⟩=some (e2 j))) (xy:len*16≤140737488351232) :
   SeqStopsK F n Tryz.prog 142 #[.pointer (some ⟨Bs,0,none⟩)] (fun x : { j:Nat // j < len}=>#[.int .i64 (x.1:Int),.agg #[e1 x.1,e2 x.1]]) (sG Bs b) (fun ys=>ys.map Subtype.val=eN len len) (fun _=>True) len w:=by
 intro l J Jx W hW _ _ hY h0;have bz:=(hW.cell (p:=⟨Bs,0,none⟩) mY).trans vO;rcases hs with ⟨rfl,rfl⟩ | ⟨hb,cap,rfl,hc⟩
 ·refine (aku F n h7 pV l Bs (fun ns W=>∃ xs,xs.map Subtype.val=ns∧J xs W) W bz ⟨[],rfl,h0⟩).mono ?_;rintro e W' ⟨he,xs,U,hj⟩;exact ⟨he,.inl ⟨xs,U.trans rfl,hj⟩⟩
 ·refine (akt F n h7 pV hn l Bs b 0 len cap e1 e2 xy (fun ns W=>∃ xs,xs.map Subtype.val=ns∧J xs W) (fun ns W=>∃ xs,xs.map Subtype.val=ns∧Jx xs W) ?_ W bz ?_ ⟨[],rfl,h0⟩).mono ?_
  ·rintro pre j W1 ⟨xs,rfl,hj⟩ hl ji;obtain ⟨fn,tmps,assign,body,h1,h2⟩:=hY xs ⟨j,ji⟩ W1 hj (by simpa using hl);refine ⟨fn,tmps,assign,body,h1,h2.mono ?_⟩;rintro e W' (⟨rfl,k1,k2⟩ | ⟨rfl,k1⟩)
   ·exact .inl ⟨rfl,⟨xs++[⟨j,ji⟩],by simp,k1⟩,k2⟩
   ·exact .inr ⟨rfl,xs++[⟨j,ji⟩],by simp,k1⟩
  ·intro j hj;rw [Nat.zero_add];exact ⟨(hW.cell (p:=⟨b,j*2,none⟩) hb).trans (hc j hj).1,(hW.cell (p:=⟨b,j*2+1,none⟩) hb).trans (hc j hj).2⟩
  ·rintro e W' ⟨he,⟨ys,rfl,xs,U,hj⟩ | ⟨pre,_,xs,U,hj⟩⟩
   ·exact ⟨he,.inl ⟨xs,U,hj⟩⟩
   ·exact ⟨he,.inr ⟨xs,trivial,hj⟩⟩
end
section
open Go Go.RowKit Go.Shelf
set_option maxHeartbeats 1000000 in
set_option maxRecDepth 100000 in
theorem akw (b:Nat) (w:World) (h0:w.cell? ⟨b,5,none⟩=some (.pointer (some ⟨b,5,none⟩))) :
   Calls Tryz.prog 86 #[.pointer (some ⟨b,5,none⟩)] w fun e w'=>e = .returned (.tuple #[])∧w'=w:=by
 obtain ⟨j,hj,_⟩:∃ j,Tryz.prog.info? 84=some j∧j.size=2:=⟨_,rfl,rfl⟩
 go_enter Tryz.func86,Tryz.ntmps86
 go_wp2
 rw [Lib.run_neq_ptr_same w _ Tryz.underlying82 hj]
 go_wp2
 go_end0
 exact ⟨rfl,rfl⟩
set_option maxHeartbeats 1000000 in
set_option maxRecDepth 100000 in
theorem akx (b:Nat) (w:World) (h0:w.cell? ⟨b,5,none⟩=some (.pointer none)) (kz:w.shape? b=some (86,7)) (hfz:w.frozen? ⟨b,5,none⟩=false) :
   Calls Tryz.prog 86 #[.pointer (some ⟨b,5,none⟩)] w fun e w'=>e = .returned (.tuple #[])∧w'=w.setCell ⟨b,5,none⟩ (.pointer (some ⟨b,5,none⟩)):=by
 obtain ⟨j,hj,hjs⟩:∃ j,Tryz.prog.info? 84=some j∧j.size=2:=⟨_,rfl,rfl⟩
 go_enter Tryz.func86,Tryz.ntmps86
 go_wp2
 rw [Lib.run_to_unsafe w ⟨b,5,none⟩ Tryz.underlying82 Tryz.underlying189 hj (by rw [hjs];decide) kz (show 5 < 7 by decide)];simp only [Result.andThen];rw [Oper.upon_value]
 go_wp2
 rw [run_callFunc_extern Tryz.func143 (by kernel_rfl) (by kernel_rfl) (by kernel_rfl) (e:=Extern.AbiNoEscape.same) (by kernel_rfl)];rw [Lib.run_noEscape];simp only [Result.andThen];rw [Oper.upon_value]
 go_wp2
 rw [Lib.run_from_unsafe w ⟨b,5,none⟩ Tryz.underlying189 Tryz.underlying82 hj kz (by kernel_rfl)];simp only [Result.andThen];rw [Oper.upon_value]
 go_wp2
 go_end0
 exact ⟨rfl,rfl⟩
end
end Go.Proofs.YtnjobkbblhaliaaGreatDoor
section
namespace Go.Proofs.YtnjobkbblhaliaaGreatDoor
open Go Go.RowKit Go.Shelf
set_option maxHeartbeats 1000000 in
theorem aky (b g cap:Nat) (cur:Array Value) (l:List UInt8) (w:World) (hb:w.cell? ⟨b,6,none⟩=some (.slice (some ⟨g,0,none⟩) l.length cap)) (hg:w.heap[g]? = some (.cells cur 5 (0,0))) (hnc:l.length≤cap) (xJ:l.length≤140737488355328) (je:l.length≤cur.size)
   (hc:∀ j x,l[j]? = some x→w.cell? ((⟨g,0,none⟩:Addr).add j)=some (.int .u8 x.toNat)) (h0:l≠[]) :
   Calls Tryz.prog 32 #[.pointer (some ⟨b,5,none⟩)] w fun e w'=>e = .returned (.string ⟨l.toArray⟩)∧w'=w.drew.freeze ⟨g,0,none⟩ l.length:=by
 have TH:l.length≠0:=by simpa using h0
 have c1:w.drew.cell? ⟨b,6,none⟩=some (.slice (some ⟨g,0,none⟩) l.length cap):=hb;have hSD:(Builtin.unsafeSliceData_ #[74] 128 #[.slice (some ⟨g,0,none⟩) l.length cap]).run Tryz.prog w.drew = .ok (.pointer (some ⟨g,0,none⟩)) w.drew:=
  Lib.run_unsafeSliceData_row _ _ _ _ _ _ (by omega)
 have hUS:(Builtin.unsafeString_ #[128,3] 9 #[.pointer (some ⟨g,0,none⟩),.int .i64 l.length]).run Tryz.prog w.drew = .ok (.string ⟨l.toArray⟩) (w.drew.freeze ⟨g,0,none⟩ l.length):=
  Lib.run_unsafeString_row w.drew 128 3 9 5 Tryz.underlying128 (by kernel_rfl) g cur.size (by have de:w.drew.heap[g]? = some (.cells cur 5 (0,0)):=hg;simp [World.shape?,de]) l h0 je (by omega) hc
 have mixed:Tryz.prog.follows Departure.mixedOrders=true:=by kernel_rfl
 go_enter Tryz.func32,Tryz.ntmps32
 go_wp2
 go_region_o
 all_goals (go_wp2;go_ret;exact ⟨rfl,rfl⟩)
end Go.Proofs.YtnjobkbblhaliaaGreatDoor
namespace Go.W
open Go
section
variable {P:Program} {w:World} {ρ:Env} {K:Value→World→Prop} {d:Option Nat} {ty:TypeId} {pos:String} {af:Array Edge}
theorem XF {t u e:TypeId} {i:TypeInfo} {sl x:Operand} {v:Value} {xs:List Value} {n:Nat} {fp:Option Nat} {s:ByteArray} (hs:(a7 sl).ev ρ=some v) (ho:ao w e 1 v xs n fp) (U:(a7 x).ev ρ=some (.string s))
   (ht:P.underlying t=some (.slice e)) (hu:P.underlying u=some .string) (hi:P.info? e=some i) (hz:i.zero=some (.int .u8 0)) (dQ:i.size=1) (Hu:i.bytes=1) (hb:n+s.size≤140737488355328)
   (hk:∀ v' w' gx,ao w' e 1 v' (xs++Lib.strCells s) (n+s.size) gx→Mod (fun b=>fp=some b) w w'→(∀ b,gx=some b→fp=some b∨b=w.heap.size∧b < w'.heap.size)→K v' w') :
   E.wp P w ρ K (.raw ⟨d,.call { callee:=.builtin .append,args:=#[sl,x],argTypes:=#[t,u]},ty,pos,af,none⟩):=by
 obtain ⟨v',w',hr,hK⟩:∃ v' w',(Builtin.append_ #[t,u] ty #[v,.string s]).run P w = .ok v' w'∧K v' w':=by
  obtain ⟨hlen,hv⟩:=ho;have rW:xs.length=n:=by simpa using hlen
  have pM:(xs++Lib.strCells s).length=(n+s.size)*1:=by rw [List.length_append,rW,Lib.strCells_length,Nat.mul_one]
  have grown:∀ nc,n+s.size≤nc→K (.slice (some ⟨w.heap.size,0,none⟩) (n+s.size) nc) (w.drew.alloc (.cells (xs.toArray++(Lib.strCells s).toArray++Builtin.zeroCells (Value.int .u8 0).cells (nc - (n+s.size))) e)):=by
   intro nc hle;refine hk _ _ (some w.heap.size) ⟨pM,.inr ⟨w.heap.size,nc,(Builtin.zeroCells (Value.int .u8 0).cells (nc - (n+s.size))).toList,rfl,rfl,?_,?_,hle⟩⟩ (pA _ w.drew _).dj ?_
   ·rw [show w.heap.size=w.drew.heap.size from rfl,heap_alloc_new w.drew]
    congr 2
    apply Array.ext';simp
   ·have hz1:(Value.int IntKind.u8 0).cells.size=1:=rfl;rw [List.length_append,pM,Array.length_toList,Rb,hz1];omega
   ·intro b hb;cases hb;exact .inr ⟨rfl,by simp⟩
  rcases hv with ⟨rfl,rfl,rfl⟩ | ⟨b,cap,cg,rfl,rfl,eL,lY,hle⟩
  ·have iH:xs=[]:=List.eq_nil_of_length_eq_zero rW;subst iH;by_cases hm:s.size=0
   ·have hn:Lib.strCells s=[]:=List.eq_nil_of_length_eq_zero (by rw [Lib.strCells_length];exact hm);have hf:=Lib.run_firstCells_string (P:=P) w 1 s;rw [hm] at hf;refine ⟨.slice none 0 0,w,?_,hk _ _ none (by rw [hm,hn];exact ao.nil w e 1) (Mod.refl _ w) (fun b h=>by cases h)⟩;simp [Builtin.append_,run_underlying ht,run_underlying hu,sizeOf,typeInfo,hi,dQ,Builtin.lenOf,hm,hf]
   ·have hr:=run_append_nil_string (P:=P) w t u ty e i (.int .u8 0) ht hu hi hz s (by omega) (by omega) (by rw [Hu];omega);have e1:(s.data.map fun b=>Value.int .u8 b.toNat)=(Lib.strCells s).toArray:=by
     apply Array.ext';simp [Lib.strCells]
    rw [e1] at hr;have GL:=grown (grownCap w s.size 0 e) (by have:=grownCap_ge w s.size 0 e;omega);simp only [Nat.zero_add,List.nil_append,Array.empty_append] at GL;exact ⟨_,_,hr,GL⟩
  ·have dI:((xs++cg).toArray:Array Value).toList=xs++cg:=rfl;have OK:cap≤(xs++cg).length:=by simpa using lY
   by_cases eK:n+s.size≤cap
   ·have hr:=Lib.run_append_room_string (P:=P) w t u ty e i ht hu hi dQ b n cap _ eL s eK (by rw [List.size_toArray];omega);refine ⟨_,_,hr,hk _ _ (some b) ⟨pM,.inr ⟨b,cap,cg.drop s.size,rfl,rfl,?_,?_,eK⟩⟩ ⟨by simp,fun k _ hk=>setRow_other w b k _ (fun e=>hk (by simp [e])),rfl,rfl,rfl⟩ (fun b hb=>.inl hb)⟩
    ·rw [setRow_heap w b _ _ e _ eL,dI]
     congr 2
     rw [List.take_left' rW,← rW,List.drop_append,List.drop_of_length_le (by omega),List.nil_append,show xs.length+s.size - xs.length=s.size by omega]
    ·rw [List.length_append,pM,List.length_drop];have:cap≤xs.length+cg.length:=by rw [← List.length_append];exact OK
     omega
   ·have holds:∀ j u,xs[j]? = some u→w.cell? ((⟨b,0,none⟩:Addr).add j)=some u:=fun j u hj=>by
     rw [dB,cell_of eL];simp only [Nat.zero_add,List.getElem?_toArray];rw [List.getElem?_append_left (List.getElem?_eq_some_iff.1 hj).1];exact hj
    have hr:=Lib.run_append_grow_string (P:=P) w t u ty e i (.int .u8 0) ht hu hi hz ⟨b,0,none⟩ n cap xs (by rw [dQ];simpa using rW) holds s (by omega) (by omega) (by rw [Hu];exact growslice_fits (by omega) (by omega));exact ⟨_,_,hr,grown _ (grownCap_ge w (n+s.size) cap e)⟩
 refine iC fun a ha=>⟨v',w',?_,hK⟩
 simp only [execOp,resolve,invoke,builtin,Sem.run_bind,Sem.run_pure,Result.andThen_ok,List.map_toArray,List.map_cons,List.map_nil,ha sl _ hs,ha x _ U,hr]
end
end Go.W
end
namespace Go.Proofs.YtnjobkbblhaliaaGreatDoor
section
open Go Go.W
def XG:IR:=.pz false [.e (some 5) (.al 122 (.agg #[(.int .i64 0),(.string ⟨#[]⟩)])),.e none (.st 2 (.t 5) (.t 9))] [2,5]
def XH:IR:=.block 1 (.dr (.r 0 none (some 10) (.l1 (.t 2)) <|
 .r 1 none (some 11) (.l1 (.t 2)) <|
 .r 2 none (some 12) (.nn (.t 11)) <|
 .r 3 none (some 13) (.fa 4 (.t 12)) <|
 .r 4 none (some 14) (.l1 (.t 13)) <|
 .r 5 none (some 15) (.ln 2 (.t 5)) <|
 .e 6 none (some 16) (.bs 122 1 #[(.int .i64 0),(.string ⟨#[]⟩)] [(0,2,(.t 15))]) [0,1,4] <|
 .e 7 none (some 17) (.ap 122 2 24 #[(.int .i64 0),(.string ⟨#[]⟩)] (.t 14) (.t 16)) [0] <|
 .r 8 none (some 18) (.nn (.t 10)) <|
 .r 9 none (some 19) (.fa 4 (.t 18)) <|
 .e 10 none none (.st 1 (.t 19) (.t 17)) [] <|
 .nil) [])
def XI:IR:=.pz false [.e (some 2) (.bx 79 (.t 0))] [1,2]
def XJ:IR:=.pz false [.e (some 7) (.call 85 [.t 1])] [2,7]
abbrev hL:List (Nat×List Nat×List Nat):=[(0,[1,2],[]),(1,[2,7],[]),(2,[2,5],[]),(3,[],[0,0,2,6,14,0,32,126,255,511,1023])]
theorem akz:OJ Tryz.prog 50 2 hL XI XJ XG XH 7 8 9 20:=
 ⟨Tryz.f50,_,_,_,_,_,rfl,rfl,rfl,by decide,rfl,by kernel_rfl,by kernel_rfl,by kernel_rfl,by kernel_rfl,by kernel_rfl,by kernel_rfl,by kernel_rfl,by kernel_rfl,by decide,by decide,by decide⟩
end
section
open Go Go.W
inductive Td where
 | text (s:ByteArray) | val | arg | rest
def Td.slot:Td→Nat
 | .text _=>0
 | _=>1
abbrev eE:=ByteArray→Option Int
def eF (l:List gF):eE:=fun s=>(l.find? (fun x=>decide (x.name=s))).map gF.fields
def eE.of (f:eE) (s:ByteArray):Int:=(f s).getD 0
structure Ws where
 at':Nat
 bX:Int
 row:List Td
 out:ByteArray
abbrev jN:ByteArray:=⟨#[78,105,108]⟩
abbrev gQ:ByteArray:=⟨#[67,111,110,115]⟩
abbrev qb:ByteArray:=⟨#[85,110,105,116]⟩
abbrev kC:ByteArray:=⟨#[80,97,105,114]⟩
abbrev kD:ByteArray:=⟨#[84,114,105,112,108,101]⟩
def cJ (f:eE) (x:It) (aj:ByteArray) (n:Int):Bool:=decide (x.aj=aj)&&decide (f.of aj=n)
def Ws.later (s:Ws) (l:List Td):Ws:={ s with row:=s.row++l.reverse}
def Ws.cE (s:Ws) (t:ByteArray):Ws:={ s with out:=s.out++t}
def Ws.on (s:Ws):Ws:={ s with at':=s.at'+1}
def jY:Nat→List Td
 | 0=>[]
 | n+1=>.text ⟨#[44,32]⟩ :: .val::jY n
def iP:Nat→List Td
 | 0=>[]
 | n+1=>.text ⟨#[32]⟩ :: .arg::iP n
def Ws.tuple (s:Ws) (n:Int):Ws:=(s.cE ⟨#[40]⟩).later (.val::jY (n - 1).toNat++[.text ⟨#[41]⟩])
def Ws.aj (f:eE) (s:Ws) (c:ByteArray) (a:Bool):Ws:=
 if (a&&decide (f.of c > 0))=true then (s.cE (⟨#[40]⟩++c)).later (iP (f.of c).toNat++[.text ⟨#[41]⟩])
 else (s.cE c).later (iP (f.of c).toNat)
section
variable (itoa:Int→ByteArray) (f:eE) (items:List It)
def uu (a:Bool) (n:Int):ByteArray:=if (a&&decide (n < 0))=true then ⟨#[40]⟩++itoa n++⟨#[41]⟩ else itoa n
def Ws.value (s:Ws) (a:Bool):Ws:=match items[s.at']? with
 | none=>{ s.cE ⟨#[95]⟩ with bX:=s.bX+1}
 | some x=>
  if x.aj=⟨#[]⟩ then (s.cE (uu itoa a x.num)).on
  else if cJ f x jN 0=true then (s.cE ⟨#[91,93]⟩).on
  else if cJ f x gQ 2=true then ((s.cE ⟨#[91]⟩).later [.val,.rest]).on
  else if cJ f x qb 0=true then (s.cE ⟨#[40,41]⟩).on
  else if (cJ f x kC 2||cJ f x kD 3)=true then (s.tuple (f.of x.aj)).on
  else (s.aj f x.aj a).on
def Ws.wl (s:Ws):Ws:=match items[s.at']? with
 | none=>(s.cE ⟨#[32,124,32]⟩).later [.val,.text ⟨#[93]⟩]
 | some x=>
  if cJ f x gQ 2=true then (s.on.cE ⟨#[44,32]⟩).later [.val,.rest]
  else if cJ f x jN 0=true then s.on.cE ⟨#[93]⟩
  else (s.cE ⟨#[32,124,32]⟩).later [.val,.text ⟨#[93]⟩]
def Ws.step (s:Ws):Ws:=match s.row.getLast? with
 | none=>s
 | some (.text t)=>{ s with row:=s.row.dropLast}.cE t
 | some .rest=>Ws.wl f items { s with row:=s.row.dropLast}
 | some .val=>Ws.value itoa f items { s with row:=s.row.dropLast} false
 | some .arg=>Ws.value itoa f items { s with row:=s.row.dropLast} true
def Ws.steps:Nat→Ws→Ws
 | 0,s=>s
 | n+1,s=>Ws.steps n (s.step itoa f items)
def ic:Bool:=items.all fun x=>if x.aj=⟨#[]⟩ then decide (-4611686018427387904≤x.num)&&decide (x.num≤4611686018427387903)
 else decide (x.num=0)&&(match f x.aj with
  | none=>false
  | some n=>decide (0≤n)&&decide (n≤8))
def kV:Ws:=⟨0,0,[.val],⟨#[]⟩⟩
end
def Td.om:Td→Nat
 | .text _=>1
 | .rest=>4
 | _=>2
def Ws.mu (items:List It) (s:Ws):Nat:=64*(items.length - s.at')+(s.row.map Td.om).sum
def dz (f:eE) (x:It):Nat:=if x.aj=⟨#[]⟩ then 0 else (f.of x.aj).toNat
def kE (f:eE) (l:List It):Int:=1+(l.map fun x=>(dz f x:Int) - 1).sum
end
section
open Go Go.W
section
variable {itoa:Int→ByteArray} {f:eE} {items:List It}
theorem XK {k:Nat} {x:It} (h:items[k]? = some x):kE f (items.take (k+1))=kE f (items.take k)+dz f x - 1:=by
 obtain ⟨hl,rfl⟩:=List.getElem?_eq_some_iff.1 h;unfold kE;rw [List.take_succ_eq_append_getElem hl,List.map_append,List.sum_append];simp;omega
theorem Eo (h:ic f items=true) {k:Nat} {x:It} (U:items[k]? = some x):x.aj=⟨#[]⟩∨(0≤f.of x.aj∧f.of x.aj≤8):=by
 unfold ic at h;have:=List.all_eq_true.1 h x (List.mem_of_getElem? U)
 split at this
 ·left;assumption
 ·right
  unfold eE.of;cases hf:f x.aj with
  | none=>rw [hf] at this;simp at this
  | some n=>rw [hf] at this;simp at this ⊢;omega
def cD (l:List Td):Nat:=(l.map Td.slot).sum
def eU (l:List Td):Nat:=(l.map Td.om).sum
theorem oq (a b:List Td):cD (a++b)=cD a+cD b:=by unfold cD;rw [List.map_append,List.sum_append]
theorem uv (a b:List Td):eU (a++b)=eU a+eU b:=by unfold eU;rw [List.map_append,List.sum_append]
theorem zC (t:Td) (l:List Td):cD (t::l)=t.slot+cD l:=by unfold cD;rw [List.map_cons,List.sum_cons]
theorem XL (t:Td) (l:List Td):eU (t::l)=t.om+eU l:=by unfold eU;rw [List.map_cons,List.sum_cons]
theorem xW (a:List Td):cD a.reverse=cD a:=by
 induction a with
 | nil=>rfl
 | cons x a ih=>rw [List.reverse_cons,oq,ih];unfold cD;simp;omega
theorem OL (a:List Td):eU a.reverse=eU a:=by
 induction a with
 | nil=>rfl
 | cons x a ih=>rw [List.reverse_cons,uv,ih];unfold eU;simp;omega
theorem Hv:∀ n,cD (jY n)=n
 | 0=>rfl
 | n+1=>by
  have:=Hv n;unfold cD at this ⊢;simp [jY,Td.slot,this];omega
theorem Bx:∀ n,cD (iP n)=n
 | 0=>rfl
 | n+1=>by
  have:=Bx n;unfold cD at this ⊢;simp [iP,Td.slot,this];omega
theorem XM:∀ n,eU (jY n)=3*n
 | 0=>rfl
 | n+1=>by
  have:=XM n;unfold eU at this ⊢;simp [jY,Td.om,this];omega
theorem OM:∀ n,eU (iP n)=3*n
 | 0=>rfl
 | n+1=>by
  have:=OM n;unfold eU at this ⊢;simp [iP,Td.om,this];omega
structure ON (f:eE) (x:It) (s s':Ws):Prop where
 at':s'.at'=s.at'+1
 bX:s'.bX=s.bX
 akA:cD s'.row=cD s.row+dz f x
 om:eU s'.row≤eU s.row+40
 out:s.out.size < s'.out.size
theorem fC (a b:ByteArray):(a++b).size=a.size+b.size:=ByteArray.size_append
theorem ot {x:It} {c:ByteArray} {n:Int} (h:cJ f x c n=true):x.aj=c∧f.of c=n:=by
 unfold cJ at h;simpa using h
theorem XN (hi:∀ n,0 < (itoa n).size) (hk:ic f items=true) {s:Ws} {a:Bool} {x:It} (U:items[s.at']? = some x):ON f x s (s.value itoa f items a):=by
 unfold Ws.value;rw [U];simp only;have hz:∀ (t:ByteArray),0 < t.size→dz f x=0→ON f x s (s.cE t).on:=fun t ht h0=>⟨rfl,rfl,by rw [h0];rfl,by show eU s.row≤_;omega,by show s.out.size < (s.out++t).size;rw [fC];omega⟩
 by_cases h1:x.aj=⟨#[]⟩
 ·rw [if_pos h1];refine hz _ ?_ (by unfold dz;rw [if_pos h1]);unfold uu
  split
  ·rw [fC,fC];show 0 < 1+_+1;omega
  ·exact hi _
 rw [if_neg h1];have ha:dz f x=(f.of x.aj).toNat:=by unfold dz;rw [if_neg h1]
 obtain ⟨k1,k2⟩:0≤f.of x.aj∧f.of x.aj≤8:=(Eo hk U).resolve_left h1;by_cases h2:cJ f x jN 0=true
 ·rw [if_pos h2];obtain ⟨e1,e2⟩:=ot h2;exact hz _ (by decide) (by rw [ha,e1,e2];rfl)
 rw [if_neg h2];by_cases h3:cJ f x gQ 2=true
 ·rw [if_pos h3];obtain ⟨e1,e2⟩:=ot h3;refine ⟨rfl,rfl,?_,?_,by show s.out.size < (s.out++_).size;rw [fC];exact Nat.lt_add_of_pos_right (by decide)⟩
  ·show cD (s.row++_)=_;rw [oq,ha,e1,e2];rfl
  ·show eU (s.row++_)≤_;rw [uv];show _+6≤_;omega
 rw [if_neg h3];by_cases h4:cJ f x qb 0=true
 ·rw [if_pos h4];obtain ⟨e1,e2⟩:=ot h4;exact hz _ (by decide) (by rw [ha,e1,e2];rfl)
 rw [if_neg h4];by_cases h5:(cJ f x kC 2||cJ f x kD 3)=true
 ·rw [if_pos h5];have hn:f.of x.aj=2∨f.of x.aj=3:=by
   rcases Bool.or_eq_true_iff.1 h5 with h | h
   ·obtain ⟨e1,e2⟩:=ot h;rw [e1,e2];exact .inl rfl
   ·obtain ⟨e1,e2⟩:=ot h;rw [e1,e2];exact .inr rfl
  refine ⟨rfl,rfl,?_,?_,by show s.out.size < (s.out++_).size;rw [fC];exact Nat.lt_add_of_pos_right (by decide)⟩
  ·show cD (s.row++_)=_;rw [oq,xW,oq,ha];have e1:cD (.val::jY (f.of x.aj - 1).toNat)=1+(f.of x.aj - 1).toNat:=by
    rw [zC,Hv];rfl
   rw [e1];show _+(_+0)=_;omega
  ·show eU (s.row++_)≤_;rw [uv,OL,uv];have e1:eU (.val::jY (f.of x.aj - 1).toNat)=2+3*(f.of x.aj - 1).toNat:=by
    rw [XL,XM];rfl
   rw [e1];show _+(_+1)≤_;omega
 rw [if_neg h5];have je:0 < x.aj.size:=by
  apply Classical.byContradiction;intro h;refine h1 (ByteArray.ext ?_);have:x.aj.data.size=0:=by
   have e:x.aj.size=x.aj.data.size:=rfl;omega
  exact Array.eq_empty_of_size_eq_zero this
 unfold Ws.aj
 split
 ·refine ⟨rfl,rfl,?_,?_,by show s.out.size < (s.out++_).size;rw [fC,fC];omega⟩
  ·show cD (s.row++_)=_;rw [oq,xW,oq,Bx,ha];rfl
  ·show eU (s.row++_)≤_;rw [uv,OL,uv,OM];show _+(_+1)≤_;omega
 ·refine ⟨rfl,rfl,?_,?_,by show s.out.size < (s.out++_).size;rw [fC];omega⟩
  ·show cD (s.row++_)=_;rw [oq,xW,Bx,ha]
  ·show eU (s.row++_)≤_;rw [uv,OL,OM];omega
end
end
section
open Go Go.W
section
variable {itoa:Int→ByteArray} {f:eE} {items:List It}
structure rf (f:eE) (items:List It) (s:Ws):Prop where
 le:s.at'≤items.length
 sum:(cD s.row:Int)+s.bX=kE f (items.take s.at')
 pos:∀ j,j < s.at'→1≤kE f (items.take j)
 bX:0≤s.bX
 no:s.at' < items.length→s.bX=0
 out:1≤s.out.size∨∃ l,s.row=l++[.val]
theorem OO:rf f items kV:=⟨Nat.zero_le _,rfl,fun j h=>absurd h (Nat.not_lt_zero j),Int.le_refl _,fun _=>rfl,.inr ⟨[],rfl⟩⟩
theorem OP {l:List Td} {t:Td} (h:l.getLast? = some t):l=l.dropLast++[t]:=by
 obtain ⟨k,rfl⟩:=List.getLast?_eq_some_iff.1 h;rw [List.dropLast_concat]
theorem Ep (hi:∀ n,0 < (itoa n).size) (hk:ic f items=true) {s:Ws} (h:rf f items s) (hr:s.row≠[]):rf f items (s.step itoa f items)∧(s.step itoa f items).mu items < s.mu items:=by
 unfold Ws.step;cases hl:s.row.getLast? with
 | none=>exact absurd (List.getLast?_eq_none_iff.1 hl) hr
 | some t=>
 have eL:=OP hl;have kJ:cD s.row=cD s.row.dropLast+t.slot:=by
  conv=>lhs;rw [eL,oq]
  rw [zC];rfl
 have wY:eU s.row=eU s.row.dropLast+t.om:=by
  conv=>lhs;rw [eL,uv]
  rw [XL];rfl
 have Hw:∀ {x:It} {s':Ws},items[s.at']? = some x→t.slot=1→ON f x { s with row:=s.row.dropLast} s'→rf f items s'∧s'.mu items < s.mu items:=fun {x s'} U ht k=>by
  have ah:s.at' < items.length:=(List.getElem?_eq_some_iff.1 U).1;have k1:s'.at'=s.at'+1:=k.at';have k2:s'.bX=s.bX:=k.bX;have k3:cD s'.row=cD s.row.dropLast+dz f x:=k.akA;have k4:eU s'.row≤eU s.row.dropLast+40:=k.om;have k5:s.out.size < s'.out.size:=k.out;have hs:=h.sum;have h0:=h.no ah;refine ⟨⟨by omega,?_,fun j hj=>?_,by rw [k2];exact h.bX,fun _=>by omega,.inl (by omega)⟩,?_⟩
  ·rw [k1,XK U];omega
  ·rcases Nat.lt_or_ge j s.at' with hh | hh
   ·exact h.pos j hh
   ·obtain rfl:j=s.at':=by omega
    omega
  ·show 64*(items.length - s'.at')+eU s'.row < 64*(items.length - s.at')+eU s.row;omega
 have ended:∀ (a:Bool),items[s.at']? = none→t.slot=1→rf f items (Ws.value itoa f items { s with row:=s.row.dropLast} a)∧(Ws.value itoa f items { s with row:=s.row.dropLast} a).mu items < s.mu items:=fun a U ht=>by
  have hge:items.length≤s.at':=List.getElem?_eq_none_iff.1 U;have hs:=h.sum;have ho:=h.bX;have hle:=h.le;have Cf:1≤t.om:=by cases t<;>simp [Td.om]
  unfold Ws.value;simp only [U];refine ⟨⟨hle,?_,h.pos,by show 0≤s.bX+1;omega,fun hh=>by have:s.at' < items.length:=hh;omega,.inl ?_⟩,?_⟩
  ·show (cD s.row.dropLast:Int)+(s.bX+1)=kE f (items.take s.at');omega
  ·show 1≤(s.out++_).size;rw [fC];exact Nat.le_add_left _ _
  ·show 64*(items.length - s.at')+eU s.row.dropLast < 64*(items.length - s.at')+eU s.row;omega
 have Er:t = .rest→rf f items ((Ws.cE { s with row:=s.row.dropLast} ⟨#[32,124,32]⟩).later [.val,.text ⟨#[93]⟩])∧((Ws.cE { s with row:=s.row.dropLast} ⟨#[32,124,32]⟩).later [.val,.text ⟨#[93]⟩]).mu items < s.mu items:=fun e=>by
  subst e;have hs:=h.sum;refine ⟨⟨h.le,?_,h.pos,h.bX,h.no,.inl ?_⟩,?_⟩
  ·show (cD (s.row.dropLast++_):Int)+s.bX=_;rw [oq];show ((cD s.row.dropLast+1:Nat):Int)+s.bX=_;rw [show (cD s.row.dropLast+1:Nat)=cD s.row from kJ.symm];exact hs
  ·show 1≤(s.out++_).size;rw [fC];exact Nat.le_trans (by decide) (Nat.le_add_left _ _)
  ·show 64*(items.length - s.at')+eU (s.row.dropLast++_) < 64*(items.length - s.at')+eU s.row;rw [uv];show _+(_+3) < _;have:(Td.rest).om=4:=rfl;omega
 cases t with
 | text t=>
  simp only;refine ⟨⟨h.le,?_,h.pos,h.bX,h.no,?_⟩,?_⟩
  ·show (cD s.row.dropLast:Int)+s.bX=_;have:=h.sum;rw [kJ] at this;exact this
  ·rcases h.out with h | ⟨l,e⟩
   ·left
    show 1≤(s.out++t).size;rw [fC];omega
   ·rw [e,List.getLast?_concat] at hl;cases hl
  ·show 64*(items.length - s.at')+eU s.row.dropLast < 64*(items.length - s.at')+eU s.row;have:(Td.text t).om=1:=rfl;omega
 | val=>
  simp only;cases U:items[s.at']? with
  | none=>exact ended false U rfl
  | some x=>exact Hw U rfl (XN hi hk (s:={ s with row:=s.row.dropLast}) U)
 | arg=>
  simp only;cases U:items[s.at']? with
  | none=>exact ended true U rfl
  | some x=>exact Hw U rfl (XN hi hk (s:={ s with row:=s.row.dropLast}) U)
 | rest=>
  simp only;unfold Ws.wl;cases U:items[s.at']? with
  | none=>
   simp only [U];exact Er rfl
  | some x=>
   simp only [U];have uf:∀ {c:ByteArray} {n:Int},cJ f x c n=true→0 < c.size→x.aj≠⟨#[]⟩∧dz f x=n.toNat:=fun {c n} hh hc=>by
    obtain ⟨e1,e2⟩:=ot hh;have bj:x.aj≠⟨#[]⟩:=fun e=>by rw [e] at e1;rw [← e1] at hc;exact absurd hc (by decide)
    exact ⟨bj,by unfold dz;rw [if_neg bj,e1,e2]⟩
   by_cases h3:cJ f x gQ 2=true
   ·rw [if_pos h3];obtain ⟨_,ha⟩:=uf h3 (by decide);refine Hw U rfl ⟨rfl,rfl,?_,?_,by show s.out.size < (s.out++_).size;rw [fC];exact Nat.lt_add_of_pos_right (by decide)⟩
    ·show cD (s.row.dropLast++_)=_;rw [oq,ha];rfl
    ·show eU (s.row.dropLast++_)≤_;rw [uv];show _+6≤_;exact Nat.add_le_add_left (by decide) _
   rw [if_neg h3];by_cases h2:cJ f x jN 0=true
   ·rw [if_pos h2];obtain ⟨_,ha⟩:=uf h2 (by decide);exact Hw U rfl ⟨rfl,rfl,by rw [ha];rfl,by show eU s.row.dropLast≤eU s.row.dropLast+40;omega,by show s.out.size < (s.out++_).size;rw [fC];exact Nat.lt_add_of_pos_right (by decide)⟩
   rw [if_neg h2];exact Er rfl
theorem Hx {s:Ws} (h:s.row=[]):∀ n,s.steps itoa f items n=s
 | 0=>rfl
 | n+1=>by
  rw [Ws.steps,show s.step itoa f items=s by unfold Ws.step;rw [h];rfl];exact Hx h n
theorem XO (hi:∀ n,0 < (itoa n).size) (hk:ic f items=true):∀ (n:Nat) {s:Ws},rf f items s→s.mu items≤n→rf f items (s.steps itoa f items n)∧(s.steps itoa f items n).row=[]
 | 0,s,h,hn=>by
  refine ⟨h,?_⟩;cases hr:s.row with
  | nil=>exact hr
  | cons t l=>
   have:=(Ep hi hk h (by rw [hr];simp)).2;omega
 | n+1,s,h,hn=>by
  by_cases hr:s.row=[]
  ·rw [Hx hr];exact ⟨h,hr⟩
  ·obtain ⟨h1,h2⟩:=Ep hi hk h hr;exact XO hi hk n h1 (by omega)
def ie (itoa:Int→ByteArray) (f:eE) (items:List It):Ws:=kV.steps itoa f items (64*items.length+2)
def qd (itoa:Int→ByteArray) (au:List gF) (items:List It):ByteArray×Int:=
 if ic (eF au) items=true then
  (if (ie itoa (eF au) items).at' < items.length then (⟨#[]⟩,-1) else ((ie itoa (eF au) items).out,(ie itoa (eF au) items).bX))
 else (⟨#[]⟩,-1)
theorem Hy (hi:∀ n,0 < (itoa n).size) (hk:ic f items=true):rf f items (ie itoa f items)∧(ie itoa f items).row=[]:=
 XO hi hk _ OO (by show 64*(items.length - 0)+2≤_;omega)
theorem akB (hi:∀ n,0 < (itoa n).size) (hk:ic f items=true):(ie itoa f items).bX=kE f (items.take (ie itoa f items).at'):=by
 obtain ⟨h1,h2⟩:=Hy hi hk;have:=h1.sum;rw [h2] at this;have e:cD []=0:=rfl;rw [e] at this;omega
end
end
section
open Go Go.W Go.RowKit
def jc:Td→List Value
 | .text s=>[I 0,.string s]
 | .val=>[I 1,.string ⟨#[]⟩]
 | .arg=>[I 2,.string ⟨#[]⟩]
 | .rest=>[I 3,.string ⟨#[]⟩]
theorem akC (t:Td):(jc t).length=2:=by cases t<;>rfl
theorem akD (l:List Td):∀ u∈l.flatMap jc,u.oneCell'=true:=by
 intro u hu;obtain ⟨t,_,ht⟩:=List.mem_flatMap.1 hu;cases t<;>simp only [jc,List.mem_cons,List.not_mem_nil,or_false] at ht<;>rcases ht with rfl | rfl<;>rfl
def ez (vI:Value) (k:Int) (mp:Nat) (bX:Int) (vR pv vB:Value):List Value:=[vI,I k,.map (some mp),I bX,vR,pv,vB]
structure pb (lo:Nat) (w:World) (p:Nat) (vI:Value) (mp:Nat) (s:Ws) (vR pv vB:Value) (fR fB:Option Nat):Prop where
 cells:w.heap[p]? = some (.cells (ez vI s.at' mp s.bX vR pv vB).toArray 86 (0,0))
 pv:pv = .pointer none∨pv = .pointer (some ⟨p,5,none⟩)
 row:ao w 122 2 vR (s.row.flatMap jc) s.row.length fR
 buf:ao w 5 1 vB (Lib.strCells s.out) s.out.size fB
 qe:lo≤p
 pc:mp≠p
 pe:mp < w.heap.size
 ou:lo≤w.heap.size
 fr:∀ b,fR=some b→lo≤b∧b≠p∧b≠mp
 fb:∀ b,fB=some b→lo≤b∧b≠p∧b≠mp∧fR≠some b
def eV (lo:Nat) (w:World) (p:Nat) (vI:Value) (mp:Nat) (s:Ws):Prop:=∃ vR pv vB fR fB,pb lo w p vI mp s vR pv vB fR fB
def Wt (lo mp:Nat) (b:Nat):Prop:=lo≤b∧b≠mp
abbrev zD (p:Nat):Value:=.pointer (some ⟨p,5,none⟩)
theorem akE (w:World) (a:Addr) (v:Value):Mod (· = a.block) w (w.setCell a v):=
 ⟨by simp [World.setCell],fun k _ hk=>by simp [World.setCell,Array.getElem?_modify,Ne.symm hk],rfl,rfl,rfl⟩
theorem XP (a b:ByteArray):Lib.strCells (a++b)=Lib.strCells a++Lib.strCells b:=by
 simp [Lib.strCells]
theorem lt_of_heap {w:World} {b:Nat} {o:Obj} (h:w.heap[b]? = some o):b < w.heap.size:=(Array.getElem?_eq_some_iff.1 h).1
section
variable {lo p mp:Nat} {w:World} {vI:Value} {s:Ws} {vR pv vB:Value} {fR fB:Option Nat}
theorem pb.later {w':World} (h:pb lo w p vI mp s vR pv vB fR fB) (hm:Mod (fun b=>lo≤b∧b≠mp∧b≠p∧fR≠some b∧fB≠some b) w w'):pb lo w' p vI mp s vR pv vB fR fB:=
 ⟨hm.at h.cells (fun hh=>hh.2.2.1 rfl),h.pv,h.row.mod hm (fun b hb hh=>hh.2.2.2.1 hb),h.buf.mod hm (fun b hb hh=>hh.2.2.2.2 hb),h.qe,h.pc,by have:=h.pe;have:=hm.size;omega,by have:=h.ou;have:=hm.size;omega,h.fr,h.fb⟩
theorem akF (h:pb lo w p vI mp s vR pv vB fR fB):aK Tryz.prog 86 [zD p] w fun r w'=>pb lo w' p vI mp s vR (zD p) vB fR fB∧Mod (· = p) w w':=by
 rcases h.pv with rfl | rfl
 ·refine Calls.mono (akx p w ((cell_of h.cells 5).trans rfl) (by simp [World.shape?,h.cells,ez]) (by simp [World.frozen?,h.cells])) ?_;rintro e w' ⟨rfl,rfl⟩;have hm:Mod (· = p) w (w.setCell ⟨p,5,none⟩ (.pointer (some ⟨p,5,none⟩))):=akE w ⟨p,5,none⟩ _;refine ⟨_,rfl,⟨?_,.inr rfl,h.row.mod hm (fun b hb hh=>(h.fr b hb).2.1 hh),h.buf.mod hm (fun b hb hh=>(h.fb b hb).2.1 hh),h.qe,h.pc,by have:=h.pe;have:=hm.size;omega,by have:=h.ou;have:=hm.size;omega,h.fr,h.fb⟩,hm⟩;have:=h.cells;simp [World.setCell,Array.getElem?_modify,this,ez]
 ·refine Calls.mono (akw p w ((cell_of h.cells 5).trans rfl)) ?_;rintro e w' ⟨rfl,rfl⟩;exact ⟨_,rfl,h,Mod.refl _ _⟩
theorem XQ {t:ByteArray} (h:pb lo w p vI mp s vR pv vB fR fB) (dQ:s.out.size+t.size≤140737488355328):aK Tryz.prog 51 [zD p,.string t] w fun r w'=>(∃ OQ OR,pb lo w' p vI mp (s.cE t) vR (zD p) OQ fR OR)∧Mod (fun b=>b=p∨fB=some b) w w':=by
 refine ajV.calls rfl ?_;unfold Ox;refine σ ?_;refine δ (by rfl) (akF h) ?_;rintro r w1 ⟨h1,ag⟩;have cY:=h1.cells;simp only [go_sem,simprocAttr,cell_of cY,ez];obtain ⟨i,hi,hz,cL,ax⟩:∃ i,Tryz.prog.info? 5=some i∧i.zero=some (.int .u8 0)∧i.size=1∧i.bytes=1:=⟨_,rfl,rfl,rfl,rfl⟩;refine XF rfl h1.buf rfl Tryz.underlying74 Tryz.underlying9 hi hz cL ax dQ ?_;intro v2 w2 jT dR ae eO;obtain ⟨a2,c2,rfl,_,_⟩:=dR.val;have cB:=ae.at cY (fun hh=>(h1.fb p hh).2.1 rfl);refine bY (off:=6) rfl rfl cB rfl (by simp [ez]) ?_;intro w3 ey ab eP;refine σ ?_;have aC:∀ b,jT=some b→lo≤b∧b≠p∧b≠mp∧fR≠some b:=fun b hb=>by
  rcases eO b hb with h' | ⟨h',_⟩
  ·exact h1.fb b h'
  ·have:=h1.ou;have:=h1.pe;have:=lt_of_heap cY;exact ⟨by omega,by omega,by omega,fun hh=>by have:=h1.row.lt hh;omega⟩
 have Sm:=ae.size;refine ⟨⟨.slice a2 (s.out.size+t.size) c2,jT,?_,.inr rfl,(h1.row.mod ae (fun b hb hh=>(h1.fb b hh).2.2.2 hb)).mod ab (fun b hb hh=>(h1.fr b hb).2.1 hh),?_,h1.qe,h1.pc,by have:=h1.pe;omega,by have:=h1.ou;omega,h1.fr,aC⟩,?_⟩
 ·exact ey
 ·rw [show (s.cE t).out=s.out++t from rfl,fC,XP];exact dR.mod ab (fun b hb hh=>(aC b hb).2.1 hh)
 ·exact ((ag.az (fun b hb=>.inl hb)).trans (ae.az (fun b hb=>.inr hb))).trans (ab.az (fun b hb=>.inl hb))
theorem sX {t:ByteArray} (h:eV lo w p vI mp s) (dQ:s.out.size+t.size≤140737488355328):aK Tryz.prog 51 [zD p,.string t] w fun r w'=>eV lo w' p vI mp (s.cE t)∧Mod (Wt lo mp) w w':=by
 obtain ⟨vR,pv,vB,fR,fB,h⟩:=h;refine (XQ h dQ).mono ?_;rintro r w' ⟨⟨OQ,OR,h1⟩,hm⟩;refine ⟨⟨_,_,_,_,_,h1⟩,hm.az (fun b hb=>?_)⟩;rcases hb with rfl | hb
 ·exact ⟨h.qe,fun e=>h.pc e.symm⟩
 ·exact ⟨(h.fb b hb).1,(h.fb b hb).2.2.1⟩
end
end
section
open Go Go.W Go.RowKit
def nh:Td→Int
 | .text _=>0
 | .val=>1
 | .arg=>2
 | .rest=>3
def ni:Td→ByteArray
 | .text s=>s
 | _=>⟨#[]⟩
theorem OS (t:Td):jc t=[I (nh t),.string (ni t)]:=by cases t<;>rfl
theorem akG (l:List Td):(Go.W.eN l.length l.length).map (fun j=>l.getD j .val)=l.reverse:=by
 apply List.ext_getElem
 ·simp [Go.W.eN]
 ·intro i h1 h2;simp only [Go.W.eN,List.length_map,List.length_range] at h1;simp only [Go.W.eN,List.map_map,List.getElem_map,List.getElem_range,Function.comp,List.getElem_reverse];rw [List.getD_eq_getElem?_getD,List.getElem?_eq_getElem (by omega),Option.getD_some]
theorem akH (w:World) (v:Value):aK Tryz.prog 85 [v] w fun r w'=>r = .func (.func 142) #[] #[ptr w.heap.size]∧(∃ T fz,w'.heap[w.heap.size]? = some (.cells v.cells T fz))∧Mod (fun _=>False) w w':=by
 refine aj0.calls rfl ?_;unfold OC;refine σ ?_;refine cK rfl ?_;intro w1 ax ag _;refine σ ?_;exact ⟨⟨_,_,ax⟩,ag⟩
theorem Es {w:World} {b T:Nat} {v0 v1:Value} {fz:Nat×Nat} (h:w.heap[b]? = some (.cells #[v0,v1] T fz)):cH w 2 (.pointer (some ⟨b,0,none⟩))=some (.agg #[v0,v1]):=by
 have h0:w.cell? ⟨b,0,none⟩=some v0:=(cell_of h 0).trans rfl;have h1:w.cell? ⟨b,1,none⟩=some v1:=(cell_of h 1).trans rfl;simp [cH,jv,Addr.add_lit,h0,h1]
theorem akI (l:List Td) (j:Nat) (hj:j < l.length):(l.flatMap jc)[j*2]? = some (I (nh (l.getD j .val)))∧(l.flatMap jc)[j*2+1]? = some (.string (ni (l.getD j .val))):=by
 induction l generalizing j with
 | nil=>simp at hj
 | cons t l ih=>
  rw [List.flatMap_cons,OS];cases j with
  | zero=>exact ⟨rfl,rfl⟩
  | succ j=>
   have:=ih j (by simpa using hj);rw [show (j+1)*2=j*2+1+1 by omega]
   simpa using this
section
variable {lo p mp:Nat} {w:World} {vI:Value} {s:Ws} {vR pv vB:Value} {fR fB:Option Nat}
theorem pb.quiet {B:Nat} {W W':World} {S:Nat→Prop} (h:pb lo W p vI mp s vR pv vB fR fB) (hm:Mod S W W') (hs:∀ b,S b→B≤b∧∃ o:Obj,W.heap[b]? = some o∧o.isCells=false):pb lo W' p vI mp s vR pv vB fR fB:=
 ⟨DF hm (fun b hb=>(hs b hb).2) h.cells,h.pv,GX hm (fun b hb=>(hs b hb).2) h.row,GX hm (fun b hb=>(hs b hb).2) h.buf,h.qe,h.pc,by have:=h.pe;have:=hm.size;omega,by have:=h.ou;have:=hm.size;omega,h.fr,h.fb⟩
structure Hz (lo:Nat) (w2:World) (p:Nat) (vI:Value) (mp:Nat) (s:Ws) (pv vB:Value) (fR fB:Option Nat) (b2:Nat) (l:List Td) (pre:List Nat) (W:World):Prop where
 wr:∃ xX pg,pb lo W p vI mp { s with row:=s.row++pre.map (fun j=>l.getD j .val)} xX pv vB pg fB∧∀ b,pg=some b→fR=some b∨w2.heap.size≤b
 box:W.heap[b2]? = some (.cells #[ptr p] 79 (0,0))
 mod:Mod (Wt lo mp) w2 W
theorem Hz.quiet {w2:World} {b2:Nat} {l:List Td} {pre:List Nat} {W W':World} {S:Nat→Prop} (pO:lo≤w2.heap.size) (hmp:mp < w2.heap.size) (h:Hz lo w2 p vI mp s pv vB fR fB b2 l pre W) (hm:Mod S W W') (hs:∀ b,S b→w2.heap.size≤b∧∃ o:Obj,W.heap[b]? = some o∧o.isCells=false):Hz lo w2 p vI mp s pv vB fR fB b2 l pre W':=by
 obtain ⟨xX,pg,h1,h2⟩:=h.wr;exact ⟨⟨xX,pg,h1.quiet hm hs,h2⟩,DF hm (fun b hb=>(hs b hb).2) h.box,h.mod.trans (hm.az (fun b hb=>⟨by have:=(hs b hb).1;omega,by have:=(hs b hb).1;omega⟩))⟩
theorem XR {l:List Td} {v:Value} {fA:Option Nat} (h:pb lo w p vI mp s vR pv vB fR fB) (ho:ao w 122 2 v (l.flatMap jc) l.length fA) (hA:∀ b,fA=some b→b≠p∧fR≠some b) (hl:l.length≤1048576) (hr:s.row.length≤4294967296) :
   aK Tryz.prog 50 [ptr p,v] w fun r w'=>eV lo w' p vI mp (s.later l)∧Mod (Wt lo mp) w w':=by
 have hc:=h.cells;have bE:=lt_of_heap hc;refine akz.calls rfl ?_;unfold XI;refine σ ?_;refine cK rfl ?_;intro w1 ax ag cL;refine σ ?_;unfold XJ;refine σ ?_;refine δ (by rfl) (akH w1 v) ?_;rintro _ w2 ⟨rfl,⟨T2,fz2,aC⟩,ae⟩;refine σ ?_;have h2:=(h.later (ag.az (fun _ hh=>hh.elim))).later (ae.az (fun _ hh=>hh.elim));have dC:=ae.at ax (fun hh=>hh);have dR:=(ho.mod ag (fun _ _ hh=>hh)).mod ae (fun _ _ hh=>hh);have Gt:=ae.size;have B9:=lt_of_heap aC;obtain ⟨va,vc,rfl,_,_⟩:=ho.val;obtain ⟨bA,DH,DI,DJ⟩:∃ bA,bA < w2.heap.size∧(bA=w1.heap.size∨fA=some bA)∧((.slice va l.length vc=Value.slice none 0 0∧l.length=0)∨(bA < w2.heap.size∧∃ cap,.slice va l.length vc=Value.slice (some ⟨bA,0,none⟩) l.length cap∧∀ j,j < l.length→w2.cell? ⟨bA,j*2,none⟩=some (I (nh (l.getD j .val)))∧w2.cell? ⟨bA,j*2+1,none⟩=some (.string (ni (l.getD j .val))))):=by
  rcases dR.2 with ⟨e1,e2,e3⟩ | ⟨b,c,cg,e1,e2,e3,e4,e5⟩
  ·exact ⟨w1.heap.size,B9,.inl rfl,.inl ⟨e1,e2⟩⟩
  ·refine ⟨b,lt_of_heap e3,.inr e2,.inr ⟨lt_of_heap e3,c,e1,fun j hj=>?_⟩⟩;obtain ⟨f1,f2⟩:=akI l j hj;have hh:=cell_of e3;refine ⟨(hh _).trans ?_,(hh _).trans ?_⟩
   ·rw [List.getElem?_toArray,List.getElem?_append_left (List.getElem?_eq_some_iff.1 f1).1,f1]
   ·rw [List.getElem?_toArray,List.getElem?_append_left (List.getElem?_eq_some_iff.1 f2).1,f2]
 have nA:bA≠p∧fR≠some bA:=by
  rcases DI with e | e
  ·exact ⟨by omega,fun hh=>by have:=h.row.lt hh;omega⟩
  ·exact hA bA e
 refine ⟨2,l.length,142,#[ptr w1.heap.size],(fun j=>.agg #[I (nh (l.getD j .val)),.string (ni (l.getD j .val))]),sG w1.heap.size bA,(fun pre W=>Hz lo w2 p vI mp s pv vB fR fB w.heap.size l pre W),
  (fun j ρ W=>∃ D,ρ=[(2,ptr w.heap.size),(5,ptr D)]∧W.heap[D]? = some (.cells #[I (nh (l.getD j .val)),.string (ni (l.getD j .val))] 122 (0,0))),⟨rfl,(fun _ _=>rfl),?_,⟨rfl,rfl⟩,by omega,?_,?_,⟨?_,?_,?_,?_,?_⟩⟩,?_⟩
 ·exact akv Fence.wide 1 trivial rfl (by omega) w1.heap.size bA l.length (.slice va l.length vc) _ _ w2 (by simpa [Value.cells] using cell_of aC 0) B9 DJ (by omega)
 ·intro A B C a b;exact ⟨b.1.trans a.1,b.2.trans a.2⟩
 ·intro W b o o' hlb HA DK _;exact ⟨World.putObj_heap_other (fun e=>by omega),World.putObj_heap_other (fun e=>by omega)⟩
 ·exact ⟨⟨vR,fR,by simpa using h2,fun b hb=>.inl hb⟩,dC,Mod.refl _ _⟩
 ·intro pre W W' S hi hm hs;exact hi.quiet h2.ou h2.pe hm hs
 ·rintro j bl W W' S ⟨D,e,hD⟩ hm hs;exact ⟨D,e,DF hm (fun b hb=>(hs b hb).2) hD⟩
 ·intro pre j W hi hj;unfold XG;refine σ ?_;refine dk ?_;intro W1 hD kW hS1;refine σ ?_;have Ay:W1.heap[W.heap.size]? = some (.cells [I 0,.string ⟨#[]⟩].toArray 122 (0,0)):=hD;refine cX (vs:=[I (nh (l.getD j .val)),.string (ni (l.getD j .val))]) rfl rfl Ay rfl rfl (by intro u hu;simp only [List.mem_cons,List.not_mem_nil,or_false] at hu;rcases hu with rfl | rfl<;>rfl) ?_;intro W2 qV fV Et;refine σ ?_;have hsW:=hi.mod.size;have hM:Mod (· = W.heap.size) W W2:=(kW.az (fun _ hh=>hh.elim)).trans fV;obtain ⟨xX,pg,g1,g2⟩:=hi.wr;have gp:=lt_of_heap g1.cells;have hf:∀ b,b < W.heap.size→b≠W.heap.size:=fun b hb e=>by omega
  refine ⟨(GV hM (fun b hb o ho=>by have:=lt_of_heap ho;omega)).from _,GW hM (by omega) (by omega) (by omega) (by omega),⟨⟨xX,pg,g1.later (hM.az (fun b hb=>?_)),g2⟩,hM.at hi.box (fun hh=>by have:=lt_of_heap hi.box;omega),hi.mod.trans (hM.az (fun b hb=>?_))⟩,⟨_,rfl,qV⟩⟩
  ·have:=g1.ou;have:=g1.pe;exact ⟨by omega,by omega,by omega,fun hh=>by have:=g1.row.lt hh;omega,fun hh=>by have:=g1.buf.lt hh;omega⟩
  ·have:=g1.ou;have:=g1.pe;exact ⟨by omega,by omega⟩
 ·rintro pre j bl W hi ⟨D,rfl,hD⟩ qB hj;obtain ⟨xX,pg,g1,g2⟩:=hi.wr;have gc:=g1.cells;unfold XH;simp only [go_sem,simprocAttr,cell_of hi.box,cell_of gc,ez];have jK:W.drew.heap[D]? = _:=hD;refine ⟨_,Es jK,?_⟩;refine cd (by rfl) (by rfl) ?_;intro W1 hN kW hS1;have hN':W1.heap[W.heap.size]? = some (.cells #[I (nh (l.getD j .val)),.string (ni (l.getD j .val))] 122 (0,0)):=hN;have By:Mod (fun _=>False) W W1:=kW.dj;have g3:=g1.later (By.az (fun _ hh=>hh.elim));refine ⟨⟨By.old p (lt_of_heap gc) (fun h=>h),By.old _ (lt_of_heap hi.box) (fun h=>h)⟩,?_⟩;refine eH (news:=[I (nh (l.getD j .val)),.string (ni (l.getD j .val))]) (m:=1) rfl g3.row rfl (fun e=>by cases e) ?_ (by intro u hu;simp only [List.mem_cons,List.not_mem_nil,or_false] at hu;rcases hu with rfl | rfl<;>rfl) rfl ?_ ?_ ?_
  ·exact (ao.fG (n:=1) (xs:=[I (nh (l.getD j .val)),.string (ni (l.getD j .val))]) hN' rfl).rd
  ·simp only [List.length_append,List.length_map];omega
  ·simp only [List.length_append,List.length_map];omega
  intro v2 W2 jT dR fV eO;have lL:v2.oneCell'=true:=by
   obtain ⟨_,_,rfl,_,_⟩:=dR.val;rfl
  have iI:=fV.at g3.cells (fun hh=>(g3.fr p hh).2.1 rfl);have fZ:∀ b,jT=some b→pg=some b∨W.heap.size≤b:=fun b hb=>by
   rcases eO b hb with h' | ⟨h',_⟩
   ·exact .inl h'
   ·have:=By.size;exact .inr (by omega)
  have hmW:=hi.mod.size;have apq:=By.size;have apr:=fV.size;have gp:=lt_of_heap gc;have gb:=lt_of_heap hi.box;have gl:=g1.ou;have gm:=g1.pe;have HB:¬ pg=some w.heap.size:=fun hh=>by
   rcases g2 _ hh with h' | h'
   ·have:=h.row.lt h';omega
   ·omega
  refine ⟨fV.old _ (by omega) HB,?_⟩;refine bY (off:=4) rfl rfl iI lL (by simp [ez]) ?_;intro W3 ey mq hS3;refine σ ?_;have HC:Mod (fun b=>pg=some b∨b=p) W W3:=((By.az (fun _ hh=>hh.elim)).trans (fV.az (fun b hb=>.inl hb))).trans (mq.az (fun b hb=>.inr hb));have ik:∀ b,(pg=some b∨b=p)→∀ o,W.heap[b]? = some o→o.isCells=true:=fun b hb o ho=>by
   rcases hb with hb | rfl
   ·cases nx:o.isCells with
    | true=>rfl
    | false=>exact absurd ho (fun e=>by have:=GY g1.row hb e;rw [this] at nx;cases nx)
   ·rw [gc] at ho;cases ho;rfl
  have nb:∀ b,b < w2.heap.size→fR≠some b→pg≠some b:=fun b hb hn e=>by
   rcases g2 b e with h' | h'
   ·exact hn h'
   ·omega
  refine ⟨(GV HC ik).from _,GW HC (by omega) (by omega) (fun hh=>?_) (fun hh=>?_),⟨⟨v2,jT,⟨?_,g1.pv,?_,(g3.buf.mod fV (fun b hb hh=>(g3.fb b hb).2.2.2 hh)).mod mq (fun b hb hh=>(g3.fb b hb).2.1 hh),g1.qe,g1.pc,by omega,by omega,fun b hb=>?_,fun b hb=>?_⟩,fun b hb=>?_⟩,HC.at hi.box (fun hh=>by rcases hh with hh | hh;exact HB hh;omega),hi.mod.trans (HC.az (fun b hb=>?_))⟩⟩
  ·rcases hh with hh | hh
   ·exact nb _ B9 (fun e=>by have:=h.row.lt e;omega) hh
   ·omega
  ·rcases hh with hh | hh
   ·exact nb _ DH nA.2 hh
   ·exact nA.1 hh
  ·exact ey
  ·have:=dR.mod mq (fun b hb hh=>by
    rcases fZ b hb with h' | h'
    ·exact (g1.fr b h').2.1 hh
    ·omega)
   have e1:(s.row++(pre++[j]).map (fun j=>l.getD j .val)).flatMap jc=(s.row++pre.map (fun j=>l.getD j .val)).flatMap jc++[I (nh (l.getD j .val)),.string (ni (l.getD j .val))]:=by
    rw [List.map_append,← List.append_assoc,List.flatMap_append];simp [OS]
   have e2:(s.row++(pre++[j]).map (fun j=>l.getD j .val)).length=(s.row++pre.map (fun j=>l.getD j .val)).length+1:=by
    simp [Nat.add_assoc]
   show ao W3 _ 2 v2 ((s.row++(pre++[j]).map (fun j=>l.getD j .val)).flatMap jc) (s.row++(pre++[j]).map (fun j=>l.getD j .val)).length jT;rw [e1,e2];exact this
  ·rcases fZ b hb with h' | h'
   ·exact g1.fr b h'
   ·exact ⟨by omega,by omega,by omega⟩
  ·obtain ⟨f1,f2,f3,f4⟩:=g1.fb b hb;refine ⟨f1,f2,f3,fun hh=>?_⟩;rcases fZ b hh with h' | h'
   ·exact f4 h'
   ·have:=g1.buf.lt hb;omega
  ·rcases fZ b hb with h' | h'
   ·exact g2 b h'
   ·right;omega
  ·rcases hb with hb | rfl
   ·exact ⟨(g1.fr b hb).1,(g1.fr b hb).2.2⟩
   ·exact ⟨g1.qe,fun e=>g1.pc e.symm⟩
 ·intro D W W' hD hi hM jK;obtain ⟨xX,pg,g1,g2⟩:=hi.wr;have hq:=g1.quiet (B:=w2.heap.size) hM (fun b hb=>by subst hb;exact ⟨hD,_,jK,rfl⟩);rw [akG] at hq;have dq:=h2.ou;have vH:=h2.pe;refine ⟨⟨xX,pv,vB,pg,fB,hq⟩,(((ag.az (fun _ hh=>hh.elim)).trans (ae.az (fun _ hh=>hh.elim))).trans hi.mod).trans (hM.az (fun b hb=>by subst hb;exact ⟨by omega,by omega⟩))⟩
end
end
end Go.Proofs.YtnjobkbblhaliaaGreatDoor
namespace Go.W
section
open Go Go.ChangeMaps Go.RowKit
section
variable {P:Program} {ρ:Env} {w:World} {K:Value→World→Prop} {d:Option Nat} {ty:TypeId} {pos:String} {af:Array Edge}
end
end
end Go.W