/- Texts that the last file stands on: Q13, W12, C0, C1, C2, C3, C4, C5, C6, C7, C8, C9, IRL, M26, M29, V6, WL, B2, K1, K2, K3, SQ1, SQ2, SQ3, K4, K5, W13, W14, K6. -/
import Derived.Test.YtnjobkbblhaliaaGreatDoorZRD
import Derived.Test.YtnjobkbblhaliaaGreatDoorZRA
import Derived.KernelRfl
import Derived.Test.YtnjobkbblhaliaaGreatDoorRows
import Derived.Deep.Slices
import Derived.RangeFuncNested
import Derived.Shelf.Abstract
import Derived.WalkKit
import Derived.Laws.Externs
import Derived.Lib.FrozenHead
import Derived.Shelf.RegionOpenPlain
import Derived.Test.YtnjobkbblhaliaaGreatDoorZRC
set_option linter.unusedSimpArgs false
set_option linter.unusedVariables false
set_option maxRecDepth 100000
namespace Go.Proofs.YtnjobkbblhaliaaGreatDoor
section
open Go Go.W
def dQ (op:Int):Option (Int×Int):=
 if op=1 then some (1,0) else if op=2 then some (4,0) else if op=3 then some (3,0) else if op=4 then some (1,0) else if op=5 then some (1,0) else if op=6 then some (0,0)
 else if op=7 then some (2,0) else if op=8 then some (1,0) else if op=9 then some (5,0) else if op=10 then some (5,0) else if op=11 then some (0,0) else if op=12 then some (6,0)
 else if op=13 then some (8,0) else if op=14 then some (5,8) else if op=15 then some (3,8) else if op=16 then some (7,0) else if op=17 then some (0,0) else none
def cJ (T:bl) (n k:Int):Bool:=
 if k=0 then decide (n=0) else if k=1 then decide (n≥0) else if k=2 then decide (n≥1) else if k=3 then decide (n ≥ -4611686018427387904∧n≤4611686018427387903) else if k=4 then decide (n≥0∧n < T.globals.length)
 else if k=5 then decide (n≥0∧n < T.aC.length) else if k=6 then decide (n≥1∧n≤11) else decide (n≥1∧n≤4)
def eO (T:bl) (len at':Nat) (n kind:Int):Int:=if kind=8 then (if n≤at'∨n≥len then 174 else 0) else if cJ T n kind=true then 0 else 172
def fh (T:bl) (len i:Nat) (x:Ins):Int:=
 match dQ x.op with
 | none=>172
 | some (a,b)=>if eO T len i x.a a=172∨eO T len i x.b b=172 then 172 else if eO T len i x.a a≠0∨eO T len i x.b b≠0 then 174 else 0
def iN (T:bl) (len:Nat):Nat→List Ins→Int
 | _,[]=>0
 | i,x::l=>if fh T len i x=0 then iN T len (i+1) l else fh T len i x
instance (x:Ins):Decidable (eN x):=inferInstanceAs (Decidable (_∧_))
def pB (T:bl) (len i:Nat) (x:Ins) (D:List Int):Int:=
 if D.getD i 0=0 then 174
 else if ¬ ((az T x (D.getD i 0)).1=true∧(az T x (D.getD i 0)).2≤8000) then 173
 else if eN x∧i+1=len then 174
 else if eN x∧(ed D ((i:Int)+1) (az T x (D.getD i 0)).2).getD (i+1) 0≠(az T x (D.getD i 0)).2 then 173
 else if dM x > 0∧(gV T D i x).getD (dM x).toNat 0≠(az T x (D.getD i 0)).2 then 173
 else 0
def jM (T:bl) (len:Nat):Nat→List Ins→List Int→Int
 | _,[],_=>0
 | i,x::l,D=>if pB T len i x D=0 then jM T len (i+1) l (gV T D i x) else pB T len i x D
def gW (g:Gl):List Int:=(List.replicate g.code.length 0).set 0 (g.arity+1)
def lF (T:bl) (g:Gl):Int:=
 if iN T g.code.length 0 g.code≠0 then iN T g.code.length 0 g.code
 else if g.code.length=0 then 174
 else jM T g.code.length 0 g.code (gW g)
def mI (T:bl):List Gl→Int
 | []=>0
 | g::l=>if lF T g=0 then mI T l else lF T g
def ix (b:ByteArray):Bool:=b.data.toList.all (fun c=>decide (32≤c.toNat)&&decide (c.toNat≤126))&&decide (1≤b.data.toList.length)&&decide (b.data.toList.length≤4096)
def fi (hi:Int):List ByteArray→List (ByteArray×Int)→Bool
 | _,[]=>true
 | seen,(s,n)::l=>ix s&&seen.all (fun t=>decide (t≠s))&&decide (0≤n)&&decide (n≤hi)&&fi hi (s::seen) l
def fj:List kz:=[⟨⟨#[70,97,108,115,101]⟩,0⟩,⟨⟨#[84,114,117,101]⟩,0⟩,⟨⟨#[85,110,105,116]⟩,0⟩,⟨⟨#[78,105,108]⟩,0⟩,⟨⟨#[67,111,110,115]⟩,2⟩,⟨⟨#[80,97,105,114]⟩,2⟩,⟨⟨#[84,114,105,112,108,101]⟩,2+1⟩]
def yF (T:bl):Bool:=T.globals.any (fun g=>decide (g.code.length > 8000))||decide (T.aC.length > 2000)||decide (T.globals.length > 2000)||decide ((T.globals.map (·.code.length)).sum > 200000)
def fD (T:bl):List (ByteArray×Int):=T.aC.map fun s=>(s.name,s.fields)
def eV (T:bl):List (ByteArray×Int):=T.globals.map fun g=>(g.name,g.arity)
def kZ (T:bl):Int:=
 if yF T=true then 4
 else if fi 8 [] (fD T)=false then 172
 else if ¬ (T.aC.take 7=fj) then 172
 else if fi 24 [] (eV T)=false then 172
 else mI T T.globals
theorem Mh {T:bl} {len:Nat}:∀ (l:List Ins) (i:Nat),iN T len i l=0→∀ (j:Nat) (x:Ins),l[j]? = some x→fh T len (i+j) x=0:=by
 intro l
 induction l with
 | nil=>intro i _ j x h;simp at h
 | cons y l ih=>
  intro i h j x U;unfold iN at h
  split at h
  ·rename_i hy;cases j with
   | zero=>simp at U;subst U;simpa using hy
   | succ j=>
    have:=ih (i+1) h j x (by simpa using U);rw [show i+(j+1)=i+1+j by omega];exact this
  ·rename_i hy;exact absurd h hy
theorem Mi {T:bl} {len i:Nat} {x:Ins} (h:fh T len i x=0):pw T len i x:=by
 unfold fh at h;have e8:∀ n:Int,eO T len i n 8=0→(i:Int) < n∧n < len:=by
  intro n hn;unfold eO at hn;rw [if_pos rfl] at hn
  split at hn
  ·cases hn
  ·omega
 have er:∀ n k:Int,k≠8→eO T len i n k≠172→cJ T n k=true:=by
  intro n k hk hn;unfold eO at hn;rw [if_neg hk] at hn;cases hb:cJ T n k with
  | true=>rfl
  | false=>rw [hb] at hn;simp at hn
 have hop:x.op=1∨x.op=2∨x.op=3∨x.op=4∨x.op=5∨x.op=6∨x.op=7∨x.op=8∨x.op=9∨x.op=10∨x.op=11∨x.op=12∨x.op=13∨x.op=14∨x.op=15∨x.op=16∨x.op=17∨dQ x.op=none:=by
  by_cases h1:1≤x.op∧x.op≤17
  ·omega
  ·right;right;right;right;right;right;right;right;right;right;right;right;right;right;right;right;right
   unfold dQ
   repeat' (rw [if_neg (by omega)])
 rcases hop with e | e | e | e | e | e | e | e | e | e | e | e | e | e | e | e | e | e
 case inr.inr.inr.inr.inr.inr.inr.inr.inr.inr.inr.inr.inr.inr.inr.inr.inr=>rw [e] at h;simp at h
 all_goals
  simp only [dQ,e] at h;simp at h
  split at h
  ·cases h
  ·rename_i h1
   split at h
   ·cases h
   ·rename_i h2;simp only [not_or,Classical.not_not] at h1 h2;have a2:=e8 x.a;have b2:=e8 x.b;have a1:=er x.a;clear er e8
    first
     | (have:=a1 _ (by decide) h1.1;have:=b2 h2.2;simp [cJ] at *;constructor<;>(try unfold isNum)<;>omega)
     | (have:=a1 _ (by decide) h1.1;simp [cJ] at this;constructor<;>(try unfold isNum)<;>omega)
     | (have:=a2 h2.1;constructor<;>(try unfold isNum)<;>omega)
     | (constructor<;>(try unfold isNum)<;>omega)
theorem Mj {T:bl} {x:Ins} {d:Int} (hT:∀ s∈T.aC,0≤s.fields) {len i:Nat} (hn:pw T len i x) (hd:1≤d) (h:(az T x d).1=true):1≤(az T x d).2:=by
 have o1:=hn.o1;have o2:=hn.o2;have c1:=hn.c1;have c7:=hn.c7;have hf:(x.op=9∨x.op=10)→0≤(T.sh x.a).fields:=by
  intro ho;have hc:=hn.c9 (by omega);refine hT _ ?_;unfold bl.sh;rw [List.getD_eq_getElem?_getD,List.getElem?_eq_getElem (by omega:x.a.toNat < T.aC.length)];exact List.getElem_mem _
 have hop:x.op=1∨x.op=2∨x.op=3∨x.op=4∨x.op=5∨x.op=6∨x.op=7∨x.op=8∨x.op=9∨x.op=10∨x.op=11∨x.op=12∨x.op=13∨x.op=14∨x.op=15∨x.op=16∨x.op=17:=by omega
 rcases hop with e | e | e | e | e | e | e | e | e | e | e | e | e | e | e | e | e
 all_goals (simp [az,e] at h ⊢;try omega)
theorem yG (l:List Int) (i j:Nat) (v:Int):(l.set i v).getD j 0=if i=j∧i < l.length then v else l.getD j 0:=by
 rw [List.getD_eq_getElem?_getD,List.getD_eq_getElem?_getD,List.getElem?_set];by_cases h:i=j
 ·subst h;by_cases h2:i < l.length
  ·simp [h2]
  ·simp [h2]
 ·simp [h]
theorem Dd (D:List Int) (a d:Int):(ed D a d).length=D.length:=by unfold ed;split<;>simp
theorem AD (D:List Int) (a d:Int) {k:Nat} (h:D.getD k 0≠0):(ed D a d).getD k 0=D.getD k 0:=by
 unfold ed
 split
 ·rename_i h0;rw [yG]
  split
  ·rename_i hk;rw [hk.1] at h0;exact absurd h0 h
  ·rfl
 ·rfl
theorem Gw (D:List Int) (a:Int) {d:Int} (hd:0≤d) (h:∀ k,0≤D.getD k 0):∀ k,0≤(ed D a d).getD k 0:=by
 intro k;unfold ed
 split
 ·rw [yG]
  split
  ·exact hd
  ·exact h k
 ·exact h k
theorem Vk (T:bl) (D:List Int) (i:Nat) (x:Ins):(gV T D i x).length=D.length:=by
 simp only [gV];split<;>split<;>simp [Dd]
theorem ahd (T:bl) (D:List Int) (i:Nat) (x:Ins) {k:Nat} (h:D.getD k 0≠0):(gV T D i x).getD k 0=D.getD k 0:=by
 simp only [gV]
 split<;>split
 ·rw [AD _ _ _ (by rw [AD _ _ _ h];exact h),AD _ _ _ h]
 ·rw [AD _ _ _ h]
 ·rw [AD _ _ _ h]
 ·rfl
theorem Gx (T:bl):∀ (l:List Ins) (i:Nat) (D:List Int) {k:Nat},D.getD k 0≠0→(nH T i l D).getD k 0=D.getD k 0:=by
 intro l
 induction l with
 | nil=>intro i D k _;rfl
 | cons x l ih=>
  intro i D k h;unfold nH;have:=ahd T D i x h;rw [ih (i+1) _ (by rw [this];exact h),this]
theorem ahe {T:bl} {len i:Nat} {x:Ins} {D:List Int} (h:pB T len i x D=0):D.getD i 0≠0∧(az T x (D.getD i 0)).1=true∧(az T x (D.getD i 0)).2≤8000∧(eN x→i+1≠len∧(ed D ((i:Int)+1) (az T x (D.getD i 0)).2).getD (i+1) 0=(az T x (D.getD i 0)).2) ∧
   (dM x > 0→(gV T D i x).getD (dM x).toNat 0=(az T x (D.getD i 0)).2):=by
 unfold pB at h
 split at h
 ·cases h
 rename_i h1
 split at h
 ·cases h
 rename_i h2
 split at h
 ·cases h
 rename_i h3
 split at h
 ·cases h
 rename_i h4
 split at h
 ·cases h
 rename_i h5;have h2:=Classical.not_not.1 h2;refine ⟨h1,h2.1,h2.2,fun hg=>⟨fun e=>h3 ⟨hg,e⟩,Classical.byContradiction fun e=>h4 ⟨hg,e⟩⟩,fun ht=>Classical.byContradiction fun e=>h5 ⟨ht,e⟩⟩
theorem ahf {T:bl} (hT:∀ s∈T.aC,0≤s.fields) {len:Nat}:∀ (l:List Ins) (i:Nat) (D:List Int),jM T len i l D=0→len=i+l.length→D.length=len→(∀ k,0≤D.getD k 0)→(∀ (j:Nat) (x:Ins),l[j]? = some x→pw T len (i+j) x) →
   ∀ (j:Nat) (x:Ins),l[j]? = some x→(nH T i l D).getD (i+j) 0≠0∧(az T x ((nH T i l D).getD (i+j) 0)).1=true∧(az T x ((nH T i l D).getD (i+j) 0)).2≤8000 ∧
    (eN x→i+j+1 < len∧(nH T i l D).getD (i+j+1) 0=(az T x ((nH T i l D).getD (i+j) 0)).2)∧(dM x > 0→(nH T i l D).getD (dM x).toNat 0=(az T x ((nH T i l D).getD (i+j) 0)).2):=by
 intro l
 induction l with
 | nil=>intro i D _ _ _ _ _ j x h;simp at h
 | cons y l ih=>
  intro i D h hlen hD gF iu j x U;unfold jM at h
  split at h
  ·rename_i hy;obtain ⟨e1,e2,e3,e4,e5⟩:=ahe hy;have ny:=iu 0 y rfl;rw [Nat.add_zero] at ny;have d1:1≤D.getD i 0:=by have:=gF i;omega
   have b1:=Mj hT ny d1 e2;have Gy:∀ k,0≤(gV T D i y).getD k 0:=by
    simp only [gV]
    split<;>split
    ·exact Gw _ _ (by omega) (Gw _ _ (by omega) gF)
    ·exact Gw _ _ (by omega) gF
    ·exact Gw _ _ (by omega) gF
    ·exact gF
   cases j with
   | zero=>
    simp only [List.getElem?_cons_zero,Option.some.injEq] at U;subst U;rw [Nat.add_zero];have k1:(nH T i (y::l) D).getD i 0=D.getD i 0:=Gx T (y::l) i D e1;rw [k1];refine ⟨e1,e2,e3,fun hg=>?_,fun ht=>?_⟩
    ·obtain ⟨g1,g2⟩:=e4 hg;refine ⟨by simp only [List.length_cons] at hlen;omega,?_⟩;have g3:(gV T D i y).getD (i+1) 0=(az T y (D.getD i 0)).2:=by
      simp only [gV];have cM:y.op≠13∧y.op≠16∧y.op≠17:=hg;rw [if_pos cM]
      split
      ·rw [AD _ _ _ (by rw [g2];omega),g2]
      ·exact g2
     show (nH T (i+1) l (gV T D i y)).getD (i+1) 0=_;rw [Gx T l (i+1) _ (by rw [g3];omega),g3]
    ·have g3:=e5 ht;show (nH T (i+1) l (gV T D i y)).getD _ 0=_;rw [Gx T l (i+1) _ (by rw [g3];omega),g3]
   | succ j=>
    have:=ih (i+1) (gV T D i y) h (by simp only [List.length_cons] at hlen;omega) (by rw [Vk];exact hD) Gy (fun k z hz=>by
     have:=iu (k+1) z (by simpa using hz)
     rw [show i+(k+1)=i+1+k by omega] at this;exact this) j x (by simpa using U)
    rw [show i+1+j=i+(j+1) by omega] at this;exact this
  ·rename_i hy;exact absurd h hy
theorem ahg {T:bl} (hT:∀ s∈T.aC,0≤s.fields) {g:Gl} (ha:0≤g.arity) (h:lF T g=0):UL T g (ux T g):=by
 unfold lF at h
 split at h
 ·rename_i h1;exact absurd h h1
 rename_i h1
 split at h
 ·cases h
 rename_i h2;have h1:iN T g.code.length 0 g.code=0:=Classical.not_not.1 h1;have hn:∀ (j:Nat) (x:Ins),g.code[j]? = some x→pw T g.code.length (0+j) x:=fun j x U=>Mi (Mh _ 0 h1 j x U)
 have hs:∀ k,(gW g).getD k 0=if k=0 then g.arity+1 else 0:=by
  intro k;unfold gW;rw [yG];by_cases hk:k=0
  ·subst hk;rw [if_pos ⟨rfl,by simp;omega⟩,if_pos rfl]
  ·rw [if_neg (fun hh=>hk hh.1.symm),if_neg hk,List.getD_eq_getElem?_getD,List.getElem?_replicate]
   split<;>rfl
 have key:=ahf hT g.code 0 (gW g) h (by simp) (by simp [gW]) (fun k=>by rw [hs];split<;>omega) hn;have e:ux T g=nH T 0 g.code (gW g):=rfl;rw [← e] at key;refine ⟨by omega,?_,fun i x U=>?_⟩
 ·rw [e,Gx T _ _ _ (by rw [hs,if_pos rfl];omega),hs,if_pos rfl]
 ·obtain ⟨k1,k2,k3,k4,k5⟩:=key i x U;have n:=hn i x U;rw [Nat.zero_add] at k1 k2 k3 k4 k5 n;refine ⟨n,k1,k2,k3,k4,fun ho=>?_,fun ho=>?_⟩
  ·have t:dM x=x.a:=by simp [dM,ho]
   rw [t] at k5;have:=n.FU ho;exact k5 (by omega)
  ·have t:dM x=x.b:=by
    unfold dM;rw [if_neg (by omega),if_pos ho]
   rw [t] at k5;have:=n.yr ho;exact k5 (by omega)
theorem ahh {T:bl}:∀ (l:List Gl),mI T l=0→∀ g∈l,lF T g=0:=by
 intro l
 induction l with
 | nil=>intro _ g h;cases h
 | cons x l ih=>
  intro h g hg;unfold mI at h
  split at h
  ·rename_i U;rcases List.mem_cons.1 hg with rfl | hg
   ·exact U
   ·exact ih h g hg
  ·rename_i U;exact absurd h U
theorem AE {hi:Int}:∀ (l:List (ByteArray×Int)) (seen:List ByteArray),fi hi seen l=true→(∀ p∈l,ix p.1=true∧p.1∉seen∧0≤p.2∧p.2≤hi)∧(l.map (·.1)).Nodup:=by
 intro l
 induction l with
 | nil=>intro seen _;exact ⟨fun p h=>(by cases h),by simp⟩
 | cons x l ih=>
  intro seen h;obtain ⟨s,n⟩:=x;simp only [fi,Bool.and_eq_true,decide_eq_true_eq] at h;obtain ⟨⟨⟨⟨a1,a2⟩,a3⟩,a4⟩,a5⟩:=h;have a2:s∉seen:=fun hm=>by
   have:=List.all_eq_true.1 a2 s hm;simp at this
  obtain ⟨b1,b2⟩:=ih _ a5;refine ⟨fun p hp=>?_,?_⟩
  ·rcases List.mem_cons.1 hp with rfl | hp
   ·exact ⟨a1,a2,a3,a4⟩
   ·obtain ⟨c1,c2,c3⟩:=b1 p hp;exact ⟨c1,fun hh=>c2 (List.mem_cons_of_mem _ hh),c3⟩
  ·rw [List.map_cons,List.nodup_cons];refine ⟨fun hm=>?_,b2⟩;obtain ⟨p,hp,jg⟩:=List.mem_map.1 hm;have:=(b1 p hp).2.1;rw [jg] at this;exact this List.mem_cons_self
theorem Vm {T:bl} (h:kZ T=0):FW T∧(T.globals.map (·.name)).Nodup∧(∀ g∈T.globals,g.name.data.toList.length≤4096)∧∀ s∈T.aC,s.name.data.toList.length≤4096:=by
 unfold kZ at h
 split at h
 ·cases h
 rename_i h1
 split at h
 ·cases h
 rename_i h2
 split at h
 ·cases h
 rename_i h3
 split at h
 ·cases h
 rename_i h4;have h3:=Classical.not_not.1 h3;have h2:fi 8 [] (fD T)=true:=by simpa using h2
 have h4:fi 24 [] (eV T)=true:=by simpa using h4
 obtain ⟨s1,s2⟩:=AE _ _ h2;obtain ⟨g1,g2⟩:=AE _ _ h4;simp only [yF,Bool.or_eq_true,decide_eq_true_eq,List.any_eq_true,not_or,not_exists,not_and,Nat.not_lt] at h1;obtain ⟨⟨⟨c1,c2⟩,c3⟩,c4⟩:=h1;have sh:∀ s∈T.aC,ix s.name=true∧0≤s.fields∧s.fields≤8:=fun s hs=>by
  have:=s1 (s.name,s.fields) (List.mem_map.2 ⟨s,hs,rfl⟩);exact ⟨this.1,this.2.2⟩
 have gl:∀ g∈T.globals,ix g.name=true∧0≤g.arity∧g.arity≤24:=fun g hg=>by
  have:=g1 (g.name,g.arity) (List.mem_map.2 ⟨g,hg,rfl⟩);exact ⟨this.1,this.2.2⟩
 have nm:∀ b:ByteArray,ix b=true→b.data.toList.length≤4096:=fun b hb=>by
  simp only [ix,Bool.and_eq_true,decide_eq_true_eq] at hb;exact hb.2
 have De:∀ i:Nat,i < 7→T.sh (i:Int)=fj.getD i ⟨⟨#[]⟩,0⟩∧i < T.aC.length:=by
  intro i hi;have hl:(T.aC.take 7).length=7:=by rw [h3];rfl
  rw [List.length_take] at hl;have eK:i < T.aC.length:=by omega
  refine ⟨?_,eK⟩;rw [← h3];unfold bl.sh;rw [Int.toNat_natCast,List.getD_eq_getElem?_getD,List.getD_eq_getElem?_getD,List.getElem?_take,if_pos hi]
 refine ⟨⟨fun g hg=>⟨ahg (fun s hs=>(sh s hs).2.1) (gl g hg).2.1 (ahh _ h g hg),(gl g hg).2.1,(gl g hg).2.2,?_⟩,fun s hs=>(sh s hs).2,c3,⟨?_,c2⟩,?_,?_,?_,?_⟩,?_,fun g hg=>nm _ (gl g hg).1,fun s hs=>nm _ (sh s hs).1⟩
 ·have:=c1 g hg;omega
 ·have:=(De 6 (by omega)).2;omega
 ·have:=(De 3 (by omega)).1;have e:T.sh 3=T.sh ((3:Nat):Int):=rfl;rw [e,this];rfl
 ·have:=(De 4 (by omega)).1;have e:T.sh 4=T.sh ((4:Nat):Int):=rfl;rw [e,this];rfl
 ·have:=(De 0 (by omega)).1;have e:T.sh 0=T.sh ((0:Nat):Int):=rfl;rw [e,this];rfl
 ·have:=(De 1 (by omega)).1;have e:T.sh 1=T.sh ((1:Nat):Int):=rfl;rw [e,this];rfl
 ·have:T.globals.map (·.name)=(eV T).map (·.1):=by simp [eV]
  rw [this];exact g2
end
end Go.Proofs.YtnjobkbblhaliaaGreatDoor
namespace Go.W
section
open Go Go.ChangeMaps Go.RowKit
theorem Mk (a b:ByteArray):(a == b)=decide (a=b):=by
 cases a;cases b;rename_i x y;show (x == y)=_;by_cases h:x=y
 ·subst h;simp
 ·simp [h]
def lG (w:World) (b:Nat) (l:List (ByteArray×Int)):Prop:=
 ∃ es clock,w.heap[b]? = some (.map es clock)∧es.toList.map (fun e=>(e.key,e.val))=l.map (fun p=>(.string p.1,I p.2))∧(∀ e∈es.toList,e.born < clock)∧(es.toList.map (·.born)).Nodup
theorem pC {w w':World} {b:Nat} {l:List (ByteArray×Int)} {S:Nat→Prop} (h:lG w b l) (hm:Mod S w w') (hb:¬ S b):lG w' b l:=by
 obtain ⟨es,c,h1,h2⟩:=h;exact ⟨es,c,hm.at h1 hb,h2⟩
def gX (l:List (ByteArray×Int)) (k:ByteArray):Option Int:=(l.find? (fun p=>decide (p.1=k))).map (·.2)
def uD (l:List (ByteArray×Int)) (k:ByteArray) (v:Int):List (ByteArray×Int):=match l.findIdx? (fun p=>decide (p.1=k)) with
 | some i=>l.set i (k,v)
 | none=>l++[(k,v)]
theorem ahi (k:ByteArray):∀ (es:List MapEntry) (l:List (ByteArray×Int)) (i:Nat),es.map (fun e=>(e.key,e.val))=l.map (fun p=>(.string p.1,I p.2)) →
   Instr.findNow .string (.string k) es i=some ((l.findIdx? (fun p=>decide (p.1=k))).map fun j=>(i+j,I (l.getD j (⟨#[]⟩,0)).2)):=by
 intro es
 induction es with
 | nil=>
  intro l i h;cases l with
  | nil=>rfl
  | cons p l=>simp at h
 | cons e es ih=>
  intro l i h;cases l with
  | nil=>simp at h
  | cons p l=>
   simp only [List.map_cons,List.cons.injEq,Prod.mk.injEq] at h;obtain ⟨⟨h1,h2⟩,h3⟩:=h;have e1:Instr.sameNow .string (.string k) e.key=some (k == p.1):=by rw [h1];simp [Instr.sameNow,I]
   by_cases hk:p.1=k
   ·have e2:(k == p.1)=true:=by simp [Mk,hk]
    have e3:decide (p.1=k)=true:=by simp [hk]
    rw [e2] at e1;simp [Instr.findNow,e1,List.findIdx?_cons,e3,h2]
   ·have e2:(k == p.1)=false:=by simp [Mk];exact fun h=>hk h.symm
    have e3:decide (p.1=k)=false:=by simp [hk]
    rw [e2] at e1;simp only [Instr.findNow,e1,ih l (i+1) h3,List.findIdx?_cons,e3];cases l.findIdx? (fun p=>decide (p.1=k)) with
    | none=>rfl
    | some j=>simp [Nat.add_assoc,Nat.add_comm 1 j]
theorem Ml {P:Program} {w:World} {kt:TypeId} (hk:P.underlying kt=some .string) (k:ByteArray) (es:List MapEntry) (l:List (ByteArray×Int)) (h:es.map (fun e=>(e.key,e.val))=l.map (fun p=>(.string p.1,I p.2))) :
   (Instr.findKey kt (.string k) es).run P w = .ok ((l.findIdx? (fun p=>decide (p.1=k))).map fun j=>(j,I (l.getD j (⟨#[]⟩,0)).2)) w:=by
 have:=ahi k es l 0 h;simp only [Nat.zero_add] at this;simp only [Instr.findKey,Sem.run_bind,run_underlying hk,Result.andThen,this];rfl
theorem ahj {P:Program} {w:World} {kt:TypeId} (hk:P.underlying kt=some .string) (k:ByteArray) (b:Bool) (n:Nat):(Instr.checkKey b (n+1) kt (.string k)).run P w = .ok () w:=by
 unfold Instr.checkKey;rw [Sem.run_bind,run_underlying hk];rfl
theorem Gz {P:Program} {w:World} {kt:TypeId} (hk:P.underlying kt=some .string) (k:ByteArray) (b:Bool):(Instr.checkKey b 10000 kt (.string k)).run P w = .ok () w:=ahj hk k b 9999
theorem Vn (l:List (ByteArray×Int)) (k:ByteArray):gX l k=(l.findIdx? (fun p=>decide (p.1=k))).map fun j=>(l.getD j (⟨#[]⟩,0)).2:=by
 induction l with
 | nil=>rfl
 | cons p l ih=>
  unfold gX at ih ⊢;by_cases hk:p.1=k
  ·have e3:decide (p.1=k)=true:=by simp [hk]
   simp [List.find?_cons,List.findIdx?_cons,e3]
  ·have e3:decide (p.1=k)=false:=by simp [hk]
   simp only [List.find?_cons,List.findIdx?_cons,e3,ih];cases l.findIdx? (fun p=>decide (p.1=k))<;>rfl
section
variable {P:Program} {ρ:Env} {w:World} {K:Value→World→Prop} {d:Option Nat} {ty:TypeId} {pos:String} {af:Array Edge}
theorem Vo {t:TypeId} (hk:∀ w',lG w' w.heap.size []→Mod (fun _=>False) w w'→w'.heap.size=w.heap.size+1→K (.map (some w.heap.size)) w') :
   E.wp P w ρ K (.raw ⟨d,.makeMap t none,ty,pos,af,none⟩):=by
 refine iA fun a ha=>⟨_,_,?_,hk (w.alloc (.map #[] 0)) ⟨_,_,heap_alloc_new w _,rfl,by simp,by simp⟩ (pN _ w _) (by simp)⟩
 simp only [execOp,Sem.run_bind,Option.map_none,Go.RowKit.run_makeMap,Result.andThen];rfl
theorem Vp {t kt et:TypeId} {m x:Operand} {b:Nat} {k:ByteArray} {l:List (ByteArray×Int)} (hm:(bf m).ev ρ=some (.map (some b))) (U:(bf x).ev ρ=some (.string k)) (ht:P.underlying t=some (.map kt et)) (iV:P.underlying kt=some .string)
   (hz:(zeroValue et).run P w = .ok (I 0) w) (h:lG w b l) (hk:K (.tuple #[I ((gX l k).getD 0),.bool (gX l k).isSome]) w):E.wp P w ρ K (.raw ⟨d,.lookup t m x true,ty,pos,af,none⟩):=by
 obtain ⟨es,clock,h1,h2,_⟩:=h;refine iA fun a ha=>⟨_,w,?_,hk⟩
 have gB:=Ml (P:=P) (w:=w) iV k es.toList l h2;have e1:(Instr.lookup t (.map (some b)) (.string k) true).run P w = .ok (.tuple #[I ((gX l k).getD 0),.bool (gX l k).isSome]) w:=by
  rw [Vn];simp only [Instr.lookup,Sem.run_bind,run_underlying ht,Result.andThen,getObj,Sem.run,h1,Gz iV,Sem.run_pure];cases hI:l.findIdx? (fun p=>decide (p.1=k)) with
  | none=>
   rw [hI] at gB
   erw [gB]
   simp [hz,Sem.run_bind,Sem.run_pure,Sem.run,Result.andThen]
  | some j=>
   rw [hI] at gB
   erw [gB]
   simp [Sem.run_bind,Sem.run_pure,Sem.run,Result.andThen]
 simp only [execOp,Sem.run_bind,ha m _ hm,ha x _ U,e1,Result.andThen];rfl
theorem AF {t kt et:TypeId} {m x:Operand} {b:Nat} {k:ByteArray} {l:List (ByteArray×Int)} (hm:(bf m).ev ρ=some (.map (some b))) (U:(bf x).ev ρ=some (.string k)) (ht:P.underlying t=some (.map kt et)) (iV:P.underlying kt=some .string)
   (hz:(zeroValue et).run P w = .ok (I 0) w) (h:lG w b l) (hk:K (I ((gX l k).getD 0)) w):E.wp P w ρ K (.raw ⟨d,.lookup t m x false,ty,pos,af,none⟩):=by
 obtain ⟨es,clock,h1,h2,_⟩:=h;refine iA fun a ha=>⟨_,w,?_,hk⟩
 have gB:=Ml (P:=P) (w:=w) iV k es.toList l h2;have e1:(Instr.lookup t (.map (some b)) (.string k) false).run P w = .ok (I ((gX l k).getD 0)) w:=by
  rw [Vn];simp only [Instr.lookup,Sem.run_bind,run_underlying ht,Result.andThen,getObj,Sem.run,h1,Gz iV,Sem.run_pure];cases hI:l.findIdx? (fun p=>decide (p.1=k)) with
  | none=>
   rw [hI] at gB
   erw [gB]
   simp [hz,Sem.run_bind,Sem.run_pure,Sem.run,Result.andThen]
  | some j=>
   rw [hI] at gB
   erw [gB]
   simp [Sem.run_bind,Sem.run_pure,Sem.run,Result.andThen]
 simp only [execOp,Sem.run_bind,ha m _ hm,ha x _ U,e1,Result.andThen];rfl
theorem Mm {t kt et:TypeId} {m x y:Operand} {b:Nat} {k:ByteArray} {v:Int} {l:List (ByteArray×Int)} (hm:(bf m).ev ρ=some (.map (some b))) (U:(bf x).ev ρ=some (.string k)) (hy:(bf y).ev ρ=some (I v)) (ht:P.underlying t=some (.map kt et)) (iV:P.underlying kt=some .string)
   (h:lG w b l) (hk:∀ w',lG w' b (uD l k v)→Mod (· = b) w w'→w'.heap.size=w.heap.size→K undef w'):E.wp P w ρ K (.raw ⟨d,.mapUpdate t m x y,ty,pos,af,none⟩):=by
 obtain ⟨es,clock,h1,h2,h3,h4⟩:=h;have gB:=Ml (P:=P) (w:=w) iV k es.toList l h2;have dy:es.size=l.length:=by have:=congrArg List.length h2;simpa using this
 cases hI:l.findIdx? (fun p=>decide (p.1=k)) with
 | none=>
  rw [hI] at gB;have e1:(Instr.mapUpdate t (.map (some b)) (.string k) (I v)).run P w = .ok () (setBlock w b (.map (es.push { key:=.string k,val:=I v,born:=clock}) (clock+1))):=by
   simp only [Instr.mapUpdate,Sem.run_bind,run_underlying ht,Result.andThen,getObj,Sem.run,h1,Gz iV,Sem.run_pure]
   erw [gB]
   exact run_setObj_map h1 _
  refine Bg fun a ha=>⟨_,?_,hk (setBlock w b (.map (es.push { key:=.string k,val:=I v,born:=clock}) (clock+1))) ⟨_,_,heap_setBlock_same h1 _,?_,?_,?_⟩ (ve w b _ h1) (vf w b _)⟩
  ·simp only [execOp,Sem.run_bind,ha m _ hm,ha x _ U,ha y _ hy,e1,Result.andThen];rfl
  ·simp [uD,hI,h2]
  ·intro e he;simp only [Array.toList_push,List.mem_append,List.mem_cons,List.not_mem_nil,or_false] at he;rcases he with he | rfl
   ·exact Nat.lt_succ_of_lt (h3 e he)
   ·exact Nat.lt_succ_self _
  ·simp only [Array.toList_push,List.map_append,List.map_cons,List.map_nil];rw [List.nodup_append];refine ⟨h4,by simp,?_⟩;intro x U y hy zu;simp only [List.mem_cons,List.not_mem_nil,or_false] at hy;obtain ⟨e,he,rfl⟩:=List.mem_map.1 U;have:=h3 e he;omega
 | some i=>
  rw [hI] at gB;have eK:i < l.length:=by
   have:=List.findIdx?_eq_some_iff_getElem.1 hI;exact this.1
  have gC:i < es.size:=by omega
  have rV:(es[i]).key = .string k:=by
   have h5:es.toList[i]'(by simpa using gC)=es[i]:=by simp
   have h6:=congrArg (fun z=>z[i]?) h2;simp only [List.getElem?_map,List.getElem?_eq_getElem (show i < es.toList.length by simpa using gC),List.getElem?_eq_getElem eK,Option.map_some,Option.some.injEq,Prod.mk.injEq] at h6;have h7:=(List.findIdx?_eq_some_iff_getElem.1 hI).2.1;rw [← h5,h6.1];simp at h7;rw [h7]
  have cg:(Instr.keyThatStays (((es[i]?).map (·.key)).getD (.string k)) (.string k)).run P w = .ok (.string k) w:=by
   rw [Array.getElem?_eq_getElem gC,Option.map_some,Option.getD_some,rV];simp [Instr.keyThatStays,Instr.sameBits,Mk]
  have e1:(Instr.mapUpdate t (.map (some b)) (.string k) (I v)).run P w = .ok () (setBlock w b (.map (es.modify i fun e=>{ e with key:=.string k,val:=I v}) clock)):=by
   simp only [Instr.mapUpdate,Sem.run_bind,run_underlying ht,Result.andThen,getObj,Sem.run,h1,Gz iV,Sem.run_pure]
   erw [gB]
   simp only [Option.map_some,Sem.run_bind,cg,Result.andThen];exact run_setObj_map h1 _
  refine Bg fun a ha=>⟨_,?_,hk (setBlock w b (.map (es.modify i fun e=>{ e with key:=.string k,val:=I v}) clock)) ⟨_,_,heap_setBlock_same h1 _,?_,?_,?_⟩ (ve w b _ h1) (vf w b _)⟩
  ·simp only [execOp,Sem.run_bind,ha m _ hm,ha x _ U,ha y _ hy,e1,Result.andThen];rfl
  ·simp only [uD,hI];apply List.ext_getElem?;intro j;have h6:=congrArg (fun z=>z[j]?) h2;simp only [List.getElem?_map] at h6 ⊢;rw [Array.toList_modify,List.getElem?_modify,List.getElem?_set];by_cases ek:i=j
   ·subst ek;simp [eK,show i < es.toList.length by simpa using gC,gC]
   ·rw [if_neg ek]
    simpa [ek] using h6
  ·intro e he;rw [Array.toList_modify] at he;obtain ⟨j,hj,rfl⟩:=List.getElem_of_mem he;rw [List.getElem_modify];have hm:es.toList[j]'(by simpa using hj)∈es.toList:=List.getElem_mem _;have h5:=h3 _ hm
   split<;>exact h5
  ·have:(es.modify i fun e=>{ e with key:=.string k,val:=I v}).toList.map (·.born)=es.toList.map (·.born):=by
    apply List.ext_getElem?;intro j;rw [Array.toList_modify];simp only [List.getElem?_map,List.getElem?_modify];by_cases ek:i=j
    ·subst ek;cases es.toList[i]?<;>simp
    ·simp [ek]
   rw [this];exact h4
theorem ahk {t kt et:TypeId} {at':Array TypeId} {m:Operand} {b:Nat} {l:List (ByteArray×Int)} (cr:at'[0]? = some t) (hm:(bf m).ev ρ=some (.map (some b))) (ht:P.underlying t=some (.map kt et))
   (h:lG w b l) (hk:∀ w',lG w' b []→Mod (· = b) w w'→w'.heap.size=w.heap.size→K (.tuple #[]) w'):E.wp P w ρ K (.raw ⟨d,.call { callee:=.builtin .clear,args:=#[m],argTypes:=at'},ty,pos,af,none⟩):=by
 obtain ⟨es,clock,h1,h2,h3,h4⟩:=h;refine iA fun a ha=>⟨_,_,?_,hk (setBlock w b (.map #[] clock)) ⟨_,_,heap_setBlock_same h1 _,rfl,by simp,by simp⟩ (ve w b _ h1) (vf w b _)⟩
 have a0:(#[Value.map (some b)]:Array Value)[0]? = some (.map (some b)):=rfl;have e1:(Builtin.clear_ at' ty #[.map (some b)]).run P w = .ok (.tuple #[]) (setBlock w b (.map #[] clock)):=by
  simp only [Builtin.clear_,cr,a0,Sem.run_bind,run_underlying ht,Result.andThen,getObj,Sem.run,h1,Sem.run_pure];simp only [run_setObj_map h1]
 simp only [execOp,resolve,invoke,builtin,Sem.run_bind,Sem.run_pure,Result.andThen,List.map_toArray,List.map_cons,List.map_nil,ha m _ hm]
 erw [e1]
end
end
section
open Go
section
variable {P:Program} {ρ:Env} {w:World} {K:Value→World→Prop} {d:Option Nat} {ty:TypeId} {pos:String} {af:Array Edge}
def AG (ρ:Env):List (Nat×Operand)→Option (List (Nat×Value))
 | []=>some []
 | (i,x)::r=>match (bf x).ev ρ,AG ρ r with
  | some v,some l=>some ((i,v)::l)
  | _,_=>none
theorem ahl {a:Act} (ha:∀ (x:Operand) (v:Value),(bf x).ev ρ=some v→a.eval x=v):∀ (l:List (Nat×Operand)) (vs:List (Nat×Value)),AG ρ l=some vs→l.map (fun p=>(p.1,a.eval p.2))=vs:=by
 intro l
 induction l with
 | nil=>intro vs h;simp only [AG,Option.some.injEq] at h;subst h;rfl
 | cons p l ih=>
  intro vs h;obtain ⟨i,x⟩:=p;simp only [AG] at h;cases U:(bf x).ev ρ with
  | none=>simp [U] at h
  | some v=>
   cases hl:AG ρ l with
   | none=>simp [U,hl] at h
   | some vs'=>
    simp only [U,hl,Option.some.injEq] at h;subst h;simp only [List.map_cons,ha x v U,ih vs' hl]
theorem ahm {t el:TypeId} {len n:Nat} {parts:Array (Nat×Operand)} {z:Value} {vs:List (Nat×Value)} {out:Array Value} (ht:P.underlying t=some (.array len el)) (hz:(P.info? t).bind (·.zero)=some z) (hn:gu P el=some n)
   (hp:AG ρ parts.toList=some vs) (hf:Instr.fill (fun i=>some (i*n,n)) z.cells vs=some out) (hk:K (.agg out) w):E.wp P w ρ K (.raw ⟨d,.build t parts,ty,pos,af,none⟩):=by
 refine iA fun a ha=>⟨_,w,?_,hk⟩
 have e0:(parts.map fun (i,x)=>(i,a.eval x)).toList=vs:=by
  rw [← ahl ha parts.toList vs hp];simp
 have g1:ro P w (underlying t)=some (.array len el):=by rw [iy,ht]
 have g2:ro P w (sizeOf el)=some n:=by rw [qC];exact hn
 have g3:ro P w (zeroValue t)=some z:=by rw [HA];exact hz
 simp only [execOp,Instr.build,Sem.run_bind,kI g1,kI g2,kI g3,Result.andThen_ok,e0,hf,Sem.run_pure]
theorem ahn {t el:TypeId} {len n:Nat} {x i:Operand} {a:Addr} {k:IntKind} {j:Int} (ht:P.underlying t=some (.array len el)) (hn:gu P el=some n) (U:(bf x).ev ρ=some (.pointer (some a))) (hi:(bf i).ev ρ=some (.int k j)) (hj:0≤j∧j < len)
   (hk:K (.pointer (some (a.add (j.toNat*n)))) w):E.wp P w ρ K (.raw ⟨d,.indexAddr t x i,ty,pos,af,none⟩):=by
 refine iA fun a' ha=>⟨_,w,?_,hk⟩
 have g1:ro P w (underlying t)=some (.array len el):=by rw [iy,ht]
 have g2:ro P w (sizeOf el)=some n:=by rw [qC];exact hn
 simp only [execOp,ha x _ U,ha i _ hi,Instr.indexAt,Instr.sureAddr,asIntOf,Sem.run_bind,kI g1,kI g2,Result.andThen_ok,Sem.run_pure,hj,and_self,if_true]
end
end
end Go.W
namespace Go.Proofs.YtnjobkbblhaliaaGreatDoor
section
open Go Go.W
theorem Vq (w:World) (b:ByteArray) (hb:b.size≤4611686018427387904):aD Tryz.prog 104 [.string b] w fun r w'=>r = .bool (ix b)∧w=w':=by
 have dy:b.data.toList.length=b.size:=by
  show b.data.toList.length=b.data.size;exact Array.length_toList
 refine aeE.calls rfl ?_;unfold KR;refine σ ?_;refine dz (fun z ρ w'=>∃ i:Nat,z=b.size - i∧i≤b.size∧w=w'∧(∀ j,(hj:j < b.data.toList.length)→j < i→32≤(b.data.toList[j]).toNat∧(b.data.toList[j]).toNat≤126)∧ρ=[(0,.string b),(5,I b.size),(6,I i)]) b.size ⟨0,rfl,by omega,rfl,fun j _ h=>absurd h (Nat.not_lt_zero j),rfl⟩ ?_;rintro z ρ _ ⟨i,rfl,hi,rfl,cA,rfl⟩;unfold TF;refine σ ?_;refine aX rfl (fun ah=>?_) (fun ah=>?_)
 ·have ah:i < b.size:=by simpa using ah
  have eK:i < b.data.toList.length:=by omega
  have c1:b[i]? = some (b.data.toList[i]):=by
   rw [getElem?_pos b i ah];rfl
  have z0:(0:Int)≤i:=by omega
  have e1:IntKind.i64.wrap ((i:Int)+1)=((i+1:Nat):Int):=by rw [bU (by omega) (by omega)];omega
  generalize hc:b.data.toList[i]=c at c1;simp only [go_sem,simprocAttr,ak,bh,c1,z0];refine gz (fun ρ w'=>w=w'∧ρ.get 0=some (.string b)∧ρ.get 5=some (I b.size)∧ρ.get 6=some (I i)∧ρ.get 18=some (.bool (decide ((c.toNat:Int) < 32∨(c.toNat:Int) > 126)))) ?_ ?_
  ·cases h1:decide ((c.toNat:Int) < 32)<;>simp only [go_sem,simprocAttr,ak,bh,h1,c1,z0]<;>(simp only [aK,aL,aM,ak,aN] at h1;simp [h1])
  rintro ρ _ ⟨rfl,r0,r5,r6,AH⟩;simp only [go_sem,simprocAttr,r0,r5,r6,AH];refine aX rfl (fun hh=>?_) (fun hh=>?_)
  ·simp only [aK,aL,aM,ak,aN] at hh;refine σ ?_;have e:ix b=false:=by
    unfold ix;have:b.data.toList.all (fun c=>decide (32≤c.toNat)&&decide (c.toNat≤126))=false:=by
     rw [List.all_eq_false];refine ⟨c,by rw [← hc];exact List.getElem_mem eK,?_⟩;simp only [Bool.and_eq_true,decide_eq_true_eq];omega
    rw [this];rfl
   rw [e]
  ·simp only [aK,aL,aM,ak,aN] at hh;simp only [go_sem,simprocAttr,e1];refine ⟨_,by omega,i+1,rfl,by omega,fun j hj lv=>?_,rfl⟩;by_cases Mn:j < i
   ·exact cA j hj Mn
   ·obtain rfl:j=i:=by omega
    rw [hc];omega
 ·have ah:¬ i < b.size:=by simpa using ah
  obtain rfl:i=b.size:=by omega
  refine σ ?_;have e:ix b=(decide ((b.size:Int)≥1)&&decide ((b.size:Int)≤4096)):=by
   unfold ix;have:b.data.toList.all (fun c=>decide (32≤c.toNat)&&decide (c.toNat≤126))=true:=by
    rw [List.all_eq_true];intro c hc;obtain ⟨j,hj,rfl⟩:=List.getElem_of_mem hc;have:=cA j hj (by omega);simp only [Bool.and_eq_true,decide_eq_true_eq];exact this
   rw [this,dy,Bool.true_and]
   congr 1
   ·exact decide_eq_decide.2 (by omega)
   ·exact decide_eq_decide.2 (by omega)
  rw [e];cases h1:decide ((b.size:Int)≥1)<;>simp only [go_sem,simprocAttr,h1,Bool.true_and,Bool.false_and]
theorem aho (w:World):aD Tryz.prog 105 [] w fun r w'=>r = .slice (some ⟨w.heap.size,0,none⟩) 7 7∧w'.heap[w.heap.size]? = some (.cells (fj.flatMap jc).toArray 47 (0,0))∧Mod (fun _=>False) w w':=by
 refine aeF.calls rfl ?_;unfold KS;refine σ ?_;refine dL (by rfl) (by rfl) ?_;intro w1 aq ag _;refine σ ?_;exact ⟨aq,ag⟩
structure lg (T:bl):Prop where
 gn:T.globals.length≤17592186044416
 sn:T.aC.length≤17592186044416
 code:∀ g∈T.globals,g.code.length≤17592186044416
 Vr:∀ g∈T.globals,g.name.size≤4611686018427387904
 Vs:∀ s∈T.aC,s.name.size≤4611686018427387904
 xa:∀ g∈T.globals,∀ x∈g.code,x.a≤9223372036854775807
def eC (bt bp:Value):Value:=.agg #[bt,bp]
theorem ig {w:World} {bt bp:Value} {T:bl} {B:Nat→Prop} (h:dE w bt bp T B):(∃ a c,bt = .slice a T.aC.length c)∧∃ a c,bp = .slice a T.globals.length c:=by
 obtain ⟨⟨a,c,rfl,_⟩,ic,h2,⟨a',c',rfl,_⟩,_⟩:=h;exact ⟨⟨a,c,by simp⟩,a',c',by simp [h2]⟩
theorem GA {T:bl} {i:Nat} (hi:i < T.globals.length):T.gl i=T.globals[i]:=by unfold bl.gl;rw [Int.toNat_natCast,List.getD_eq_getElem?_getD,List.getElem?_eq_getElem hi];rfl
def mJ (g:Gl) (cv:Value):Value:=.agg #[.string g.name,I g.arity,cv]
theorem Df {w:World} {bt bp:Value} {T:bl} {B:Nat→Prop} (h:dE w bt bp T B) {i:Nat} (hi:i < T.globals.length) :
   ∃ ad c cv,bp = .slice (some ad) T.globals.length c∧cB w 3 (.pointer (some (ad.add (i*3))))=some (mJ T.globals[i] cv)∧dB w cv 3 (T.globals[i].code.map jb) B:=by
 obtain ⟨ad,c,cv,h1,_,h2,h3,h4,h5⟩:=yB h hi;rw [GA hi] at h2 h3 h5;exact ⟨ad,c,cv,h1,Gs h2 h3 h4,h5⟩
theorem oz {w:World} {v:Value} {sz:Nat} {rows:List (List Value)} {B:Nat→Prop} (h:dB w v sz rows B):∃ a c,v = .slice a rows.length c:=by
 obtain ⟨a,c,e,_⟩:=h;exact ⟨a,c,e⟩
def lh (l:List Gl):Nat:=(l.map (·.code.length)).sum
theorem AI {T:bl}:yF T=(T.globals.any (fun g=>decide (g.code.length > 8000))||(decide (T.aC.length > 2000)||decide (T.globals.length > 2000)||decide ((T.globals.map (·.code.length)).sum > 200000))):=by
 unfold yF;simp only [Bool.or_assoc]
theorem ahp {w:World} {bt bp:Value} {T:bl} {B:Nat→Prop} (h:dE w bt bp T B) (hT:lg T):aD Tryz.prog 103 [eC bt bp] w fun r w'=>r = .bool (yF T)∧Mod (fun _=>False) w w':=by
 obtain ⟨⟨aS,cS,rfl⟩,aG,cG,rfl⟩:=ig h;refine aeD.calls rfl ?_;unfold KQ eC;refine σ ?_;refine b8 rfl ?_;intro w1 aq ag cL;simp only [go_sem,simprocAttr,cell_of aq,Value.cells]
 refine dz (fun z ρ w'=>∃ i:Nat,z=T.globals.length - i∧i≤T.globals.length∧Mod (fun _=>False) w w'∧w'.heap[w.heap.size]? = some (.cells #[.slice aS T.aC.length cS,.slice aG T.globals.length cG] 25 (0,0))∧(∀ g∈T.globals.take i,g.code.length≤8000) ∧
  ρ=[(1,ptr w.heap.size),(3,I (lh (T.globals.take i):Nat)),(7,.slice aG T.globals.length cG),(8,I T.globals.length),(9,I i)]) T.globals.length ⟨0,rfl,by omega,ag,aq,(fun g hg=>by simp at hg),rfl⟩ ?_
 rintro z ρ w2 ⟨i,rfl,hi,ae,an,cA,rfl⟩;have yH:∀ l:List Gl,(∀ g∈l,g.code.length≤8000)→lh l≤8000*l.length:=by
  intro l
  induction l with
  | nil=>intro _;simp [lh]
  | cons g l ih=>
   intro hl;have h1:=ih (fun g hg=>hl g (by simp [hg]));have h2:=hl g (by simp);unfold lh at h1 ⊢;simp only [List.map_cons,List.sum_cons,List.length_cons];omega
 have dh:=yH _ cA;rw [List.length_take] at dh;unfold TE;refine σ ?_;refine aX rfl (fun ah=>?_) (fun ah=>?_)
 ·have ah:i < T.globals.length:=by simpa using ah
  obtain ⟨ad,c,cv,e',dI,sP⟩:=Df (h.mod ae (fun _ _ h=>h) (fun _ h=>h)) ah;cases e';obtain ⟨kD,ii,dW⟩:=oz sP;rw [List.length_map] at dW;have yI:=hT.gn;have gh:=hT.code _ (List.getElem_mem ah);have b1:(0:Int)≤i∧(i:Int) < T.globals.length:=by omega
  generalize hg:T.globals[i]=g at *;subst dW;simp only [go_sem,simprocAttr,ak,bh,b1,dI,mJ];refine de ?_;intro w3 aE ab _;refine cu (cs:=[.string ⟨#[]⟩,I 0,.slice none 0 0]) rfl rfl aE rfl rfl (by simp [Value.oneCell']) ?_;intro w4 aJ aj _;have dm:Mod (fun _=>False) w2 w4:=ab.step aj (fun x U hl=>by subst U;omega);have e1:IntKind.i64.wrap ((lh (T.globals.take i):Int)+g.code.length)=(lh (T.globals.take (i+1)):Nat):=by
   rw [bU (by omega) (by omega),List.take_succ_eq_append_getElem ah,hg];unfold lh;rw [List.map_append,List.sum_append];simp
  have e2:IntKind.i64.wrap ((i:Int)+1)=((i+1:Nat):Int):=by rw [bU (by omega) (by omega)];omega
  simp only [go_sem,simprocAttr,cell_of aJ,e1,e2];refine aX rfl (fun h8=>?_) (fun h8=>?_)
  ·simp only [aK,aL,aM,ak,aN] at h8;refine σ ?_;refine ⟨?_,ae.trans dm⟩;have:T.globals.any (fun g=>decide (g.code.length > 8000))=true:=List.any_eq_true.2 ⟨g,by rw [← hg];exact List.getElem_mem ah,by simp;omega⟩;rw [AI,this];rfl
  ·simp only [aK,aL,aM,ak,aN] at h8;simp only [go_sem,simprocAttr,e1,e2];refine ⟨_,by omega,i+1,rfl,by omega,ae.trans dm,dm.at an (fun h=>h),fun g' cM=>?_,rfl⟩;rw [List.take_succ_eq_append_getElem ah,hg] at cM;rcases List.mem_append.1 cM with h1 | h1
   ·exact cA g' h1
   ·obtain rfl:=List.mem_singleton.1 h1;omega
 ·have ah:¬ i < T.globals.length:=by simpa using ah
  obtain rfl:i=T.globals.length:=by omega
  rw [List.take_length] at *;have e0:T.globals.any (fun g=>decide (g.code.length > 8000))=false:=by
   rw [List.any_eq_false];intro g hg;have:=cA g hg;simp;omega
  rw [AI,e0,Bool.false_or];have c1:decide (T.aC.length > 2000)=decide ((T.aC.length:Int) > 2000):=decide_eq_decide.2 (by omega);have c2:decide (T.globals.length > 2000)=decide ((T.globals.length:Int) > 2000):=decide_eq_decide.2 (by omega);have c3:decide ((T.globals.map (·.code.length)).sum > 200000)=decide ((lh T.globals:Int) > 200000):=decide_eq_decide.2 (by unfold lh;omega);rw [c1,c2,c3];cases h1:decide ((T.aC.length:Int) > 2000)<;>cases h2:decide ((T.globals.length:Int) > 2000)<;>simp only [go_sem,simprocAttr,cell_of an,h1,h2,Bool.true_or,Bool.false_or]<;>exact ae
end
section
open Go Go.W
def Mo:List Value:=[.string ⟨#[]⟩,I 0,I 0,.string ⟨#[]⟩,I 0,I 0,.string ⟨#[]⟩,I 0,I 0,.string ⟨#[]⟩,I 0,I 0,.string ⟨#[]⟩,I 0,I 0,.string ⟨#[]⟩,I 0,I 0,.string ⟨#[]⟩,I 0,I 0,.string ⟨#[]⟩,I 0,I 0,.string ⟨#[]⟩,I 0,I 0,.string ⟨#[]⟩,I 0,I 0,.string ⟨#[]⟩,I 0,I 0,.string ⟨#[]⟩,I 0,I 0,.string ⟨#[]⟩,I 0,I 0,.string ⟨#[]⟩,I 0,I 0,.string ⟨#[]⟩,I 0,I 0,.string ⟨#[]⟩,I 0,I 0,.string ⟨#[]⟩,I 0,I 0,.string ⟨#[]⟩,I 0,I 0]
def GB:List Value:=[.string ⟨#[]⟩,I 0,I 0,.string ⟨#[112,117,115,104]⟩,I 1,I 0,.string ⟨#[103,108,111,98]⟩,I 4,I 0,.string ⟨#[105,110,116]⟩,I 3,I 0,.string ⟨#[112,111,112]⟩,I 1,I 0,.string ⟨#[115,108,105,100,101]⟩,I 1,I 0,.string ⟨#[97,112,112,108,121]⟩,I 0,I 0,.string ⟨#[117,112,100,97,116,101]⟩,I 2,I 0,.string ⟨#[97,108,108,111,99]⟩,I 1,I 0,.string ⟨#[112,97,99,107]⟩,I 5,I 0,.string ⟨#[115,112,108,105,116]⟩,I 5,I 0,.string ⟨#[101,118,97,108]⟩,I 0,I 0,.string ⟨#[97,114,105,116,104]⟩,I 6,I 0,.string ⟨#[106,117,109,112]⟩,I 8,I 0,.string ⟨#[116,101,115,116,99,111,110]⟩,I 5,I 8,.string ⟨#[116,101,115,116,105,110,116]⟩,I 3,I 8,.string ⟨#[102,97,105,108]⟩,I 7,I 0,.string ⟨#[117,110,119,105,110,100]⟩,I 0,I 0]
theorem ahq:(Tryz.prog.info? 220).bind (·.zero)=some (.agg Mo.toArray):=by kernel_rfl
theorem Vt:Tryz.prog.underlying 220=some (.array 18 194):=by kernel_rfl
theorem Vu:gu Tryz.prog 194=some 3:=by kernel_rfl
def Vv:List (Nat×Value):=[(0,.agg #[.string ⟨#[]⟩,I 0,I 0]),(1,.agg #[.string ⟨#[112,117,115,104]⟩,I 1,I 0]),(2,.agg #[.string ⟨#[103,108,111,98]⟩,I 4,I 0]),(3,.agg #[.string ⟨#[105,110,116]⟩,I 3,I 0]),(4,.agg #[.string ⟨#[112,111,112]⟩,I 1,I 0]),(5,.agg #[.string ⟨#[115,108,105,100,101]⟩,I 1,I 0]),(6,.agg #[.string ⟨#[97,112,112,108,121]⟩,I 0,I 0]),(7,.agg #[.string ⟨#[117,112,100,97,116,101]⟩,I 2,I 0]),(8,.agg #[.string ⟨#[97,108,108,111,99]⟩,I 1,I 0]),(9,.agg #[.string ⟨#[112,97,99,107]⟩,I 5,I 0]),(10,.agg #[.string ⟨#[115,112,108,105,116]⟩,I 5,I 0]),(11,.agg #[.string ⟨#[101,118,97,108]⟩,I 0,I 0]),(12,.agg #[.string ⟨#[97,114,105,116,104]⟩,I 6,I 0]),(13,.agg #[.string ⟨#[106,117,109,112]⟩,I 8,I 0]),(14,.agg #[.string ⟨#[116,101,115,116,99,111,110]⟩,I 5,I 8]),(15,.agg #[.string ⟨#[116,101,115,116,105,110,116]⟩,I 3,I 8]),(16,.agg #[.string ⟨#[102,97,105,108]⟩,I 7,I 0]),(17,.agg #[.string ⟨#[117,110,119,105,110,100]⟩,I 0,I 0])]
theorem ahr:Instr.fill (fun i=>some (i*3,3)) (Value.agg Mo.toArray).cells Vv=some GB.toArray:=by kernel_rfl
theorem ahs:∀ u∈GB,u.oneCell'=true:=by decide
theorem aht {w:World} {b:Nat} (h:w.heap[b]? = some (.cells GB.toArray 220 (0,0))) {o:Nat} (ho:1≤o∧o≤17):∃ s a b',dQ (o:Int)=some (a,b')∧0≤a∧a≤8∧0≤b'∧b'≤8∧cB w 3 (.pointer (some ⟨b,o*3,none⟩))=some (.agg #[.string s,I a,I b']):=by
 have hl:GB.length=54:=rfl;have:=dK (off:=o*3) (n:=3) h (by rw [hl];omega);rcases C6 ho with rfl | rfl | rfl | rfl | rfl | rfl | rfl | rfl | rfl | rfl | rfl | rfl | rfl | rfl | rfl | rfl | rfl<;>exact ⟨_,_,_,rfl,by decide,by decide,by decide,by decide,this⟩
theorem Mp {op:Int} (h:op < 1∨op≥18):dQ op=none:=by
 unfold dQ
 repeat rw [if_neg (by omega)]
theorem ahu (w:World) (op:Int):aD Tryz.prog 147 [I op] w fun r w'=>(∃ s a b,r = .tuple #[.agg #[.string s,I a,I b],.bool (dQ op).isSome]∧(∀ p,dQ op=some p→p=(a,b)∧0≤a∧a≤8∧0≤b∧b≤8))∧Mod (fun _=>False) w w':=by
 refine afa.calls rfl ?_;unfold Lp;refine σ ?_;refine de ?_;intro w1 aq ag _;refine σ ?_;refine ahm (vs:=Vv) Vt ahq Vu (by rfl) ahr ?_;refine σ ?_;refine de ?_;intro w2 an ae _;refine cu (cs:=Mo) rfl rfl an rfl rfl ahs ?_;intro w3 aE ab _;have l1:=lt_of_heap aq;have dU:Mod (fun _=>False) w1 w3:=ae.step ab (fun x U hl=>by subst U;omega);have eS:=dU.at aq (fun h=>h);refine σ ?_;refine gz (fun ρ w'=>w3=w'∧ρ.get 0=some (I op)∧ρ.get 2=some (ptr w.heap.size)∧ρ.get 4=some (ptr w1.heap.size)∧ρ.get 29=some (.bool (decide (op < 1∨op≥18)))) ?_ ?_
 ·cases h1:decide (op < 1)<;>simp only [go_sem,simprocAttr,h1]<;>(simp only [aK,aL,aM,ak,aN] at h1;simp [h1])
 rintro ρ _ ⟨rfl,r0,r2,r4,r29⟩;simp only [go_sem,simprocAttr,r0,r2,r4,r29];refine aX rfl (fun hh=>?_) (fun hh=>?_)
 ·simp only [aK,aL,aM,ak,aN] at hh;simp only [go_sem,simprocAttr,ptr];refine cu (cs:=[.string ⟨#[]⟩,I 0,I 0]) rfl rfl eS rfl rfl (by simp [Value.oneCell']) ?_;intro w4 aJ aj _;simp only [go_sem,simprocAttr,dK (cs:=[_,_,_]) (off:=0) (n:=3) aJ (by simp)];rw [Mp hh];exact ⟨⟨_,_,_,rfl,fun p hp=>by cases hp⟩,(ag.trans dU).step aj (fun x U hl=>by subst U;omega)⟩
 ·simp only [aK,aL,aM,ak,aN] at hh;obtain ⟨o,ho⟩:∃ o:Nat,op=o:=⟨op.toNat,by omega⟩;subst ho;obtain ⟨s,a,b,hf,mY,Dg,gQ,gG,dI⟩:=aht aE (o:=o) (by omega);simp only [go_sem,simprocAttr,ptr];refine ahn Vt Vu (by rfl) (by rfl) (j:=(o:Int)) ⟨by omega,by omega⟩ ?_;simp only [go_sem,simprocAttr,ak,bh,c8,dI];refine cu (cs:=[.string ⟨#[]⟩,I 0,I 0]) rfl rfl eS rfl rfl (by simp [Value.oneCell']) ?_;intro w4 aJ aj _;simp only [go_sem,simprocAttr,dK (cs:=[_,_,_]) (off:=0) (n:=3) aJ (by simp)];rw [hf];exact ⟨⟨_,_,_,rfl,fun p hp=>by cases hp;exact ⟨rfl,mY,Dg,gQ,gG⟩⟩,(ag.trans dU).step aj (fun x U hl=>by subst U;omega)⟩
theorem Vw {w:World} {b:Nat} {D:List Int} (hb:w.heap[b]? = some (.cells (D.map I).toArray 3 (0,0))) {a d:Int} (ha:0≤a∧a < D.length) :
   aD Tryz.prog 150 [.slice (some ⟨b,0,none⟩) D.length D.length,I a,I d] w fun r w'=>r = .bool (decide ((ed D a d).getD a.toNat 0=d))∧w'.heap[b]? = some (.cells ((ed D a d).map I).toArray 3 (0,0))∧Mod (· = b) w w':=by
 obtain ⟨i,rfl⟩:∃ i:Nat,a=i:=⟨a.toNat,by omega⟩;rw [Int.toNat_natCast];have hi:i < D.length:=by omega
 have hc:=oW hb hi;refine afd.calls rfl ?_;unfold Ls;simp only [go_sem,simprocAttr,ak,bh,ha,c8,hc];have hr:∀ (D':List Int) (w':World),D'.length=D.length→w'.heap[b]? = some (.cells (D'.map I).toArray 3 (0,0))→w'.cell? ⟨b,i,none⟩=some (I (D'.getD i 0)):=fun D' w' hl h=>oW h (by omega)
 have Vx:∀ y:Int,(y == d)=decide (y=d):=fun y=>by by_cases h:y=d<;>simp [h]
 refine aX rfl (fun hz=>?_) (fun hz=>?_)
 ·simp only [aK,aL,aM,ak,aN] at hz;have hN:ed D i d=D.set i d:=by unfold ed;rw [Int.toNat_natCast,if_pos hz]
  rw [hN];simp only [go_sem,simprocAttr,ak,bh,ha,c8];refine bL (off:=i) rfl rfl hb rfl (by simpa using hi) ?_;intro w1 aq ag _;have gQ:w1.heap[b]? = some (.cells ((D.set i d).map I).toArray 3 (0,0)):=by rw [aq,List.map_set]
  have dk:=hr _ _ (by simp) gQ;simp only [go_sem,simprocAttr,ak,bh,ha,c8,dk,Vx];exact ⟨gQ,ag⟩
 ·simp only [aK,aL,aM,ak,aN] at hz;have hN:ed D i d=D:=by unfold ed;rw [Int.toNat_natCast,if_neg hz]
  rw [hN];simp only [go_sem,simprocAttr,ak,bh,ha,c8,hc,Vx];exact ⟨hb,Mod.refl _ _⟩
end
section
open Go Go.W
theorem cm (a b:Int):(a == b)=decide (a=b):=by by_cases h:a=b<;>simp [h]
theorem Vy {w:World} {bt bp:Value} {T:bl} {B:Nat→Prop} (h:dE w bt bp T B) {g:Gl} {ac:Option Addr} {cc:Nat} (i:Nat) (n:Int) {kind:Int} (hk:0≤kind∧kind≤8) :
   aD Tryz.prog 148 [eC bt bp,mJ g (.slice ac g.code.length cc),I i,I n,I kind] w fun r w'=>r=I (eO T g.code.length i n kind)∧Mod (fun _=>False) w w':=by
 obtain ⟨⟨aS,cS,rfl⟩,aG,cG,rfl⟩:=ig h;refine afb.calls rfl ?_;unfold Lq eC mJ;refine φ ?_;refine b8 rfl ?_;intro w1 aq ag _;refine φ ?_;refine b8 rfl ?_;intro w2 an ae _;have a7:=ae.at aq (fun h=>h);have aY:=ag.trans ae;refine φ ?_;refine CL (fun ρ w'=>w2=w'∧((kind≠8∧ρ.get 11=some (.bool (cJ T n kind)))∨(kind=8∧eO T g.code.length i n kind=0∧ρ.get 11=some (.bool true)))) ?_ ?_
 ·refine aX rfl (fun qf=>?_) (fun qf=>?_)
  ·simp only [aK,aL,aM,ak,aN] at qf;subst qf;refine φ ?_;exact .inl ⟨by decide,by rw [cm];rfl⟩
  simp only [aK,aL,aM,ak,aN] at qf;refine φ ?_;refine aX rfl (fun eZ=>?_) (fun eZ=>?_)
  ·simp only [aK,aL,aM,ak,aN] at eZ;subst eZ;refine φ ?_;exact .inl ⟨by decide,rfl⟩
  simp only [aK,aL,aM,ak,aN] at eZ;refine φ ?_;refine aX rfl (fun eU=>?_) (fun eU=>?_)
  ·simp only [aK,aL,aM,ak,aN] at eU;subst eU;refine φ ?_;exact .inl ⟨by decide,rfl⟩
  simp only [aK,aL,aM,ak,aN] at eU;refine φ ?_;refine aX rfl (fun lD=>?_) (fun lD=>?_)
  ·simp only [aK,aL,aM,ak,aN] at lD;subst lD;have e:cJ T n 3=decide (n ≥ -4611686018427387904∧n≤4611686018427387903):=rfl;rw [e];cases h1:decide (n ≥ -4611686018427387904)<;>simp only [go_sem,Nat.reduceAdd,Nat.reduceEqDiff,Nat.reduceLT,Nat.reduceLeDiff,Nat.reduceMul,reduceCtorEq,↓reduceIte,h1]<;>(simp only [aK,aL,aM,ak,aN] at h1;simp [h1])
  simp only [aK,aL,aM,ak,aN] at lD;refine φ ?_;refine aX rfl (fun ur=>?_) (fun ur=>?_)
  ·simp only [aK,aL,aM,ak,aN] at ur;subst ur;have e:cJ T n 4=decide (n≥0∧n < T.globals.length):=rfl;rw [e];cases h1:decide (n≥0)<;>simp only [go_sem,Nat.reduceAdd,Nat.reduceEqDiff,Nat.reduceLT,Nat.reduceLeDiff,Nat.reduceMul,reduceCtorEq,↓reduceIte,h1,cell_of a7,Value.cells]<;>(simp only [aK,aL,aM,ak,aN] at h1;simp [h1])
  simp only [aK,aL,aM,ak,aN] at ur;refine φ ?_;refine aX rfl (fun vY=>?_) (fun vY=>?_)
  ·simp only [aK,aL,aM,ak,aN] at vY;subst vY;have e:cJ T n 5=decide (n≥0∧n < T.aC.length):=rfl;rw [e];cases h1:decide (n≥0)<;>simp only [go_sem,Nat.reduceAdd,Nat.reduceEqDiff,Nat.reduceLT,Nat.reduceLeDiff,Nat.reduceMul,reduceCtorEq,↓reduceIte,h1,cell_of a7,Value.cells]<;>(simp only [aK,aL,aM,ak,aN] at h1;simp [h1])
  simp only [aK,aL,aM,ak,aN] at vY;refine φ ?_;refine aX rfl (fun GC=>?_) (fun GC=>?_)
  ·simp only [aK,aL,aM,ak,aN] at GC;subst GC;have e:cJ T n 6=decide (n≥1∧n≤11):=rfl;rw [e];cases h1:decide (n≥1)<;>simp only [go_sem,Nat.reduceAdd,Nat.reduceEqDiff,Nat.reduceLT,Nat.reduceLeDiff,Nat.reduceMul,reduceCtorEq,↓reduceIte,h1]<;>(simp only [aK,aL,aM,ak,aN] at h1;simp [h1])
  simp only [aK,aL,aM,ak,aN] at GC;refine φ ?_;refine aX rfl (fun GD=>?_) (fun GD=>?_)
  ·simp only [aK,aL,aM,ak,aN] at GD;subst GD;have e:cJ T n 7=decide (n≥1∧n≤4):=rfl;rw [e];cases h1:decide (n≥1)<;>simp only [go_sem,Nat.reduceAdd,Nat.reduceEqDiff,Nat.reduceLT,Nat.reduceLeDiff,Nat.reduceMul,reduceCtorEq,↓reduceIte,h1]<;>(simp only [aK,aL,aM,ak,aN] at h1;simp [h1])
  simp only [aK,aL,aM,ak,aN] at GD;refine φ ?_;refine aX rfl (fun yJ=>?_) (fun yJ=>?_)
  ·simp only [aK,aL,aM,ak,aN] at yJ;subst yJ;have e:eO T g.code.length i n 8=if n≤i∨n≥g.code.length then 174 else 0:=rfl
   refine φ ?_;refine gz (fun ρ w'=>w2=w'∧ρ.get 11=some (.bool true)∧ρ.get 82=some (.bool (decide (n≤i∨n≥g.code.length)))) ?_ ?_
   ·cases h1:decide (n≤(i:Int))<;>simp only [go_sem,Nat.reduceAdd,Nat.reduceEqDiff,Nat.reduceLT,Nat.reduceLeDiff,Nat.reduceMul,reduceCtorEq,↓reduceIte,h1,cell_of an,Value.cells]<;>(simp only [aK,aL,aM,ak,aN] at h1;simp [h1])
   rintro ρ _ ⟨rfl,iO,r82⟩;simp only [go_sem,Nat.reduceAdd,Nat.reduceEqDiff,Nat.reduceLT,Nat.reduceLeDiff,Nat.reduceMul,reduceCtorEq,↓reduceIte,iO,r82];refine aX rfl (fun hh=>?_) (fun hh=>?_)
   ·simp only [aK,aL,aM,ak,aN] at hh;rw [if_pos hh] at e;refine φ ?_;rw [e];exact ⟨rfl,aY⟩
   ·simp only [aK,aL,aM,ak,aN] at hh;rw [if_neg hh] at e;refine φ ?_;exact .inr e
  ·simp only [aK,aL,aM,ak,aN] at yJ;omega
 rintro ρ _ ⟨rfl,hr⟩;rcases hr with ⟨yJ,iO⟩ | ⟨yJ,e,iO⟩
 ·have e:eO T g.code.length i n kind=if cJ T n kind=true then 0 else 172:=by unfold eO;rw [if_neg yJ]
  rw [e];simp only [go_sem,Nat.reduceAdd,Nat.reduceEqDiff,Nat.reduceLT,Nat.reduceLeDiff,Nat.reduceMul,reduceCtorEq,↓reduceIte,iO];cases hb:cJ T n kind
  ·simp only [go_sem,Nat.reduceAdd,Nat.reduceEqDiff,Nat.reduceLT,Nat.reduceLeDiff,Nat.reduceMul,reduceCtorEq,↓reduceIte,Bool.not_false];exact aY
  ·simp only [go_sem,Nat.reduceAdd,Nat.reduceEqDiff,Nat.reduceLT,Nat.reduceLeDiff,Nat.reduceMul,reduceCtorEq,↓reduceIte,Bool.not_true];exact aY
 ·rw [e];simp only [go_sem,Nat.reduceAdd,Nat.reduceEqDiff,Nat.reduceLT,Nat.reduceLeDiff,Nat.reduceMul,reduceCtorEq,↓reduceIte,iO,Bool.not_true];exact aY
end
section
open Go Go.W
set_option maxHeartbeats 1000000 in
theorem ahv {w:World} {bt bp:Value} {T:bl} {B:Nat→Prop} (h:dE w bt bp T B) (fC:∀ s∈T.aC,0≤s.fields∧s.fields≤8) {x:Ins} {len i:Nat} (U:pw T len i x) (jN:x.a≤9223372036854775807) {d:Int} (hd:0≤d∧d≤8000) :
   aD Tryz.prog 149 [eC bt bp,ec x,I d] w fun r w'=>r = .tuple #[I (az T x d).2,.bool ((az T x d).1&&decide ((az T x d).2≤8000))]∧Mod (fun _=>False) w w':=by
 obtain ⟨⟨aS,cS,rfl⟩,aG,cG,rfl⟩:=ig h;refine afc.calls rfl ?_;unfold Lr eC ec;refine σ ?_;refine b8 rfl ?_;intro w1 aq ag _;refine σ ?_;refine b8 rfl ?_;intro w2 an ae _;have a7:=ae.at aq (fun h=>h);have aY:=ag.trans ae;have aoh:=aY.drew;have h2:=h.mod aY (fun _ _ h=>h) (fun _ h=>h);have o1:=U.o1;have o2:=U.o2;have hop:x.op=1∨x.op=2∨x.op=3∨x.op=4∨x.op=5∨x.op=6∨x.op=7∨x.op=8∨x.op=9∨x.op=10∨x.op=11∨x.op=12∨x.op=13∨x.op=14∨x.op=15∨x.op=16∨x.op=17:=by omega
 have e1:IntKind.i64.wrap (d+1)=d+1:=bU (by omega) (by omega);have e2:IntKind.i64.wrap (d - 1)=d - 1:=bU (by omega) (by omega);have fin:∀ (b:Bool) (s:Int),az T x d=(b,s)→∀ w',Mod (fun _=>False) w w'→(b&&decide (s≤8000))=(b&&decide (s≤8000)):=fun _ _ _ _ _=>rfl
 have Vz:x.op=9∨x.op=10→∃ (j:Nat) (ad:Addr) (c:Nat),x.a=j∧aS=some ad∧(0:Int)≤j∧(j:Int) < T.aC.length∧w2.cell? ⟨(ad.add (j*2)).block,(ad.add (j*2)).off+1,none⟩=some (I (T.sh x.a).fields)∧0≤(T.sh x.a).fields∧(T.sh x.a).fields≤8:=by
  intro ho;have hc:=U.c9 (by omega);obtain ⟨j,hj⟩:∃ j:Nat,x.a=j:=⟨x.a.toNat,by omega⟩;obtain ⟨ad,c,e,_,hf⟩:=yo h2 (i:=j) (by omega);cases e;refine ⟨j,ad,cS,hj,rfl,by omega,by omega,by rw [hj];exact hf,?_⟩;have:T.sh x.a∈T.aC:=by
   unfold bl.sh;rw [List.getD_eq_getElem?_getD,List.getElem?_eq_getElem (by omega)];exact List.getElem_mem _
  exact fC _ this
 rcases hop with hop | hop | hop | hop | hop | hop | hop | hop | hop | hop | hop | hop | hop | hop | hop | hop | hop
 ·have e:az T x d=(decide (x.a < d),d+1):=by simp [az,hop]
  rw [e];simp only [go_sem,simprocAttr,cell_of an,Value.cells,hop,Int.reduceBEq,e1];cases h1:decide (x.a < d)<;>simp only [go_sem,simprocAttr,h1,Bool.true_and,Bool.false_and]<;>exact aY
 ·have e:az T x d=(true,d+1):=by simp [az,hop]
  rw [e];simp only [go_sem,simprocAttr,cell_of an,Value.cells,hop,Int.reduceBEq,e1,Bool.true_and];exact aY
 ·have e:az T x d=(true,d+1):=by simp [az,hop]
  rw [e];simp only [go_sem,simprocAttr,cell_of an,Value.cells,hop,Int.reduceBEq,e1,Bool.true_and];exact aY
 ·have vl:=U.c1 (by omega);have e3:IntKind.i64.wrap (d - x.a)=d - x.a:=bU (by omega) (by omega);have e:az T x d=(if x.op=4 then decide (x.a < d) else decide (x.a < d - 1),d - x.a):=by simp [az,hop]
  rw [e,hop];simp only [go_sem,simprocAttr,cell_of an,Value.cells,hop,Int.reduceBEq,e2,e3,Int.reduceEq];cases h1:decide (x.a < d)<;>cases h2:decide (x.a < d - 1)<;>simp only [go_sem,simprocAttr,h1,h2,Bool.true_and,Bool.false_and]<;>exact aY.drew
 ·have vl:=U.c1 (by omega);have e3:IntKind.i64.wrap (d - x.a)=d - x.a:=bU (by omega) (by omega);have e:az T x d=(if x.op=4 then decide (x.a < d) else decide (x.a < d - 1),d - x.a):=by simp [az,hop]
  rw [e,hop];simp only [go_sem,simprocAttr,cell_of an,Value.cells,hop,Int.reduceBEq,e2,e3,Int.reduceEq];cases h1:decide (x.a < d)<;>cases h2:decide (x.a < d - 1)<;>simp only [go_sem,simprocAttr,h1,h2,Bool.true_and,Bool.false_and]<;>exact aY.drew
 ·have e:az T x d=(decide (d > 2),d - 1):=by simp [az,hop]
  rw [e];simp only [go_sem,simprocAttr,cell_of an,Value.cells,hop,Int.reduceBEq,e2];cases h1:decide (d > 2)<;>simp only [go_sem,simprocAttr,h1,Bool.true_and,Bool.false_and]<;>exact aY
 ·have e:az T x d=(decide (x.a < d),d - 1):=by simp [az,hop]
  rw [e];simp only [go_sem,simprocAttr,cell_of an,Value.cells,hop,Int.reduceBEq,e2];cases h1:decide (x.a < d)<;>simp only [go_sem,simprocAttr,h1,Bool.true_and,Bool.false_and]<;>exact aY
 ·have vl:=U.c1 (by omega);have e:az T x d=(decide (x.a≤8000),d+min x.a 8000):=by simp [az,hop]
  have e3:IntKind.i64.wrap (d+min x.a 8000)=d+min x.a 8000:=bU (by omega) (by omega);rw [e];have Be:(if 8000 < x.a then 8000 else x.a)=min x.a 8000:=by split<;>omega
  simp only [go_sem,simprocAttr,cell_of an,Value.cells,hop,Int.reduceBEq,Be,e3];cases h1:decide (x.a≤8000)<;>simp only [go_sem,simprocAttr,h1,Bool.true_and,Bool.false_and]<;>exact aY.drew
 ·obtain ⟨j,ad,c,hj,rfl,b1,b2,hf,f1,f2⟩:=Vz (.inl hop);have e:az T x d=(decide ((T.sh x.a).fields < d),d - (T.sh x.a).fields+1):=by simp [az,hop]
  have e3:IntKind.i64.wrap (d - (T.sh x.a).fields)=d - (T.sh x.a).fields:=bU (by omega) (by omega);have e4:IntKind.i64.wrap (d - (T.sh x.a).fields+1)=d - (T.sh x.a).fields+1:=bU (by omega) (by omega);have b3:(0:Int)≤j∧(j:Int) < T.aC.length:=⟨b1,b2⟩;rw [e];generalize (T.sh x.a).fields=q at *;simp only [go_sem,simprocAttr,ak,bh,cell_of an,cell_of a7,Value.cells,hop,hj,Int.reduceBEq,b3,hf,e3,e4];cases h1:decide (q < d)<;>simp only [go_sem,simprocAttr,h1,Bool.true_and,Bool.false_and]<;>exact aY
 ·obtain ⟨j,ad,c,hj,rfl,b1,b2,hf,f1,f2⟩:=Vz (.inr hop);have e:az T x d=(decide (d > 1),d - 1+(T.sh x.a).fields):=by simp [az,hop]
  have e3:IntKind.i64.wrap (d - 1+(T.sh x.a).fields)=d - 1+(T.sh x.a).fields:=bU (by omega) (by omega);have b3:(0:Int)≤j∧(j:Int) < T.aC.length:=⟨b1,b2⟩;rw [e];generalize (T.sh x.a).fields=q at *;simp only [go_sem,simprocAttr,ak,bh,cell_of an,cell_of a7,Value.cells,hop,hj,Int.reduceBEq,b3,hf,e2,e3];cases h1:decide (d > 1)<;>simp only [go_sem,simprocAttr,h1,Bool.true_and,Bool.false_and]<;>exact aY.drew
 ·have e:az T x d=(decide (d > 1),d):=by simp [az,hop]
  rw [e];simp only [go_sem,simprocAttr,cell_of an,Value.cells,hop,Int.reduceBEq];cases h1:decide (d > 1)<;>simp only [go_sem,simprocAttr,h1,Bool.true_and,Bool.false_and]<;>exact aY
 ·have e:az T x d=(decide (d > 2),d - 1):=by simp [az,hop]
  rw [e];simp only [go_sem,simprocAttr,cell_of an,Value.cells,hop,Int.reduceBEq,e2];cases h1:decide (d > 2)<;>simp only [go_sem,simprocAttr,h1,Bool.true_and,Bool.false_and]<;>exact aY
 ·have e:az T x d=(true,d):=by simp [az,hop]
  rw [e];simp only [go_sem,simprocAttr,cell_of an,Value.cells,hop,Int.reduceBEq,Bool.true_and];exact aY
 ·have e:az T x d=(decide (d > 1),d):=by simp [az,hop]
  rw [e];simp only [go_sem,simprocAttr,cell_of an,Value.cells,hop,Int.reduceBEq];cases h1:decide (d > 1)<;>simp only [go_sem,simprocAttr,h1,Bool.true_and,Bool.false_and]<;>exact aY
 ·have e:az T x d=(decide (d > 1),d):=by simp [az,hop]
  rw [e];simp only [go_sem,simprocAttr,cell_of an,Value.cells,hop,Int.reduceBEq];cases h1:decide (d > 1)<;>simp only [go_sem,simprocAttr,h1,Bool.true_and,Bool.false_and]<;>exact aY
 ·have e:az T x d=(true,d):=by simp [az,hop]
  rw [e];simp only [go_sem,simprocAttr,cell_of an,Value.cells,hop,Int.reduceBEq,Bool.true_and];exact aY
 ·have e:az T x d=(decide (d=1),d):=by simp [az,hop]
  rw [e,← cm];simp only [go_sem,simprocAttr,cell_of an,Value.cells,hop,Int.reduceBEq];cases h1:(d == 1)<;>simp only [go_sem,simprocAttr,h1,Bool.true_and,Bool.false_and]<;>exact aY
end
section
open Go Go.W
theorem AJ {g:Gl} {i:Nat} (hi:i < g.code.length):g.ins i=g.code[i]:=by unfold Gl.ins;rw [Int.toNat_natCast,List.getD_eq_getElem?_getD,List.getElem?_eq_getElem hi];rfl
theorem VA (T:bl) (len:Nat) (code:List Ins) {i:Nat} (hi:i < code.length):iN T len i (code.drop i)=if fh T len i code[i]=0 then iN T len (i+1) (code.drop (i+1)) else fh T len i code[i]:=by
 rw [List.drop_eq_getElem_cons hi];rfl
theorem VB (T:bl) (len:Nat) (code:List Ins) (D:List Int) {i:Nat} (hi:i < code.length):jM T len i (code.drop i) D=if pB T len i code[i] D=0 then jM T len (i+1) (code.drop (i+1)) (gV T D i code[i]) else pB T len i code[i] D:=by
 rw [List.drop_eq_getElem_cons hi];rfl
section
variable {w:World} {bt bp cv:Value} {T:bl} {g:Gl} {B:Nat→Prop}
theorem ahw (h:dE w bt bp T B) (dW:dB w cv 3 (g.code.map jb) B) (gh:g.code.length≤8000) {b2 b3:Nat} (an:w.heap[b2]? = some (.cells #[bt,bp] 25 (0,0))) (aE:w.heap[b3]? = some (.cells #[.string g.name,I g.arity,cv] 59 (0,0)))
   {Q:gy} (fU:∀ e w',e≠0→iN T g.code.length 0 g.code=e→Mod (fun _=>False) w w'→Q .ret [(4,I e)] w')
   (gR:∀ w',iN T g.code.length 0 g.code=0→Mod (fun _=>False) w w'→∀ t,Q .normal [(2,ptr b2),(3,ptr b3),(20,cv),(21,I g.code.length),(22,I g.code.length),(23,t)] w') :
   cD Tryz.prog 152 (.block 0 (.loop KT)) Q [(2,ptr b2),(3,ptr b3),(20,cv),(21,I g.code.length),(22,I 0)] w:=by
 obtain ⟨⟨aS,cS,rfl⟩,aG,cG,rfl⟩:=ig h;obtain ⟨kD,ii,rfl⟩:=oz dW;rw [List.length_map] at *;refine σ ?_
 refine dz (fun z ρ w'=>∃ i:Nat,z=g.code.length - i∧i≤g.code.length∧Mod (fun _=>False) w w'∧iN T g.code.length 0 g.code=iN T g.code.length i (g.code.drop i) ∧
  ρ=[(2,ptr b2),(3,ptr b3),(20,.slice kD g.code.length ii),(21,I g.code.length),(22,I i)]) g.code.length ⟨0,rfl,by omega,Mod.refl _ _,rfl,rfl⟩ ?_
 rintro z ρ w2 ⟨i,rfl,hi,ae,cq,rfl⟩;have gG:=ae.at an (fun h=>h);have wM:=ae.at aE (fun h=>h);unfold KT;refine σ ?_;refine aX rfl (fun ah=>?_) (fun ah=>?_)
 ·have ah:i < g.code.length:=by simpa using ah
  have h2:=h.mod ae (fun _ _ h=>h) (fun _ h=>h);obtain ⟨ad,c,e',_,dI⟩:=yC (dW.mod ae (fun _ _ h=>h) (fun _ h=>h)) ah;cases e';rw [AJ ah] at dI;have lH:=VA T g.code.length g.code ah;generalize U:g.code[i]=x at *;have b1:(0:Int)≤i∧(i:Int) < g.code.length:=by omega
  simp only [go_sem,simprocAttr,ak,bh,b1,dI,ec];refine de ?_;intro w3 rG ab _;refine cu (cs:=[I 0,I 0,I 0]) rfl rfl rG rfl rfl (by simp [Value.oneCell']) ?_;intro w4 aJ aj _;have dm:Mod (fun _=>False) w2 w4:=ab.step aj (fun x U hl=>by subst U;omega);simp only [go_sem,simprocAttr,cell_of aJ];refine δ (by rfl) (ahu w4 x.op) ?_;rintro _ w5 ⟨⟨s,a,b,rfl,hf⟩,ay⟩;refine σ ?_;refine de ?_;intro w6 cO aH _;refine cu (cs:=[.string ⟨#[]⟩,I 0,I 0]) rfl rfl cO rfl rfl (by simp [Value.oneCell']) ?_;intro w7 cj aZ _;have iI:Mod (fun _=>False) w5 w7:=aH.step aZ (fun x U hl=>by subst U;omega);have uE:=(dm.trans ay).trans iI;have gI:=ae.trans uE;refine σ ?_;cases qG:dQ x.op with
  | none=>
   have e:fh T g.code.length i x=172:=by unfold fh;rw [qG]
   simp only [go_sem,simprocAttr,Option.isSome_none,Bool.not_false];exact fU 172 _ (by decide) (by rw [cq,lH,e];rfl) gI
  | some p=>
   obtain ⟨rfl,a1,a2,pD,Rf⟩:=hf p qG;have e:fh T g.code.length i x=if eO T g.code.length i x.a a=172∨eO T g.code.length i x.b b=172 then 172 else if eO T g.code.length i x.a a≠0∨eO T g.code.length i x.b b≠0 then 174 else 0:=by unfold fh;rw [qG]
   have zW:=uE.at gG (fun h=>h);have VC:=uE.at wM (fun h=>h);have Gv:=(ay.trans iI).at aJ (fun h=>h);have h7:=h.mod gI.drew (fun _ _ h=>h) (fun _ h=>h);have ahx:w7.drew.heap[b2]? = _:=zW;have ahy:w7.drew.heap[b3]? = _:=VC;have gv:=dK (cs:=[_,_]) (off:=0) (n:=2) ahx (by simp);have lA:=dK (cs:=[_,_,_]) (off:=0) (n:=3) ahy (by simp);simp only [go_sem,simprocAttr,Option.isSome_some,Bool.not_true,gv,lA,cell_of Gv,cell_of cj];refine δ (by rfl) (Vy (g:=g) h7 i x.a (kind:=a) ⟨a1,a2⟩) ?_;rintro _ w8 ⟨rfl,bY⟩;have k1:=bY.old b2 (lt_of_heap zW) (fun h=>h);have k2:=bY.old b3 (lt_of_heap VC) (fun h=>h);have k3:=bY.old w2.heap.size (lt_of_heap Gv) (fun h=>h);have k4:=bY.old w5.heap.size (lt_of_heap cj) (fun h=>h);refine σ ?_;refine ⟨by simp only [gZ,k1,k2,k3,k4,and_self,implies_true],?_⟩;refine δ (by rfl) (Vy (g:=g) (h7.mod bY (fun _ _ h=>h) (fun _ h=>h)) i x.b (kind:=b) ⟨pD,Rf⟩) ?_;rintro _ w9 ⟨rfl,dq⟩;have ahz:Mod (fun _=>False) w7 w9:=(bY.dj).trans dq;have rq:=gI.trans ahz;generalize eO T g.code.length i x.a a=n1 at *;generalize eO T g.code.length i x.b b=n2 at *;refine σ ?_;refine gz (fun ρ w'=>w9=w'∧ρ.get 2=some (ptr b2)∧ρ.get 3=some (ptr b3)∧ρ.get 9=some (I n1)∧ρ.get 10=some (I n2)∧ρ.get 20=some (.slice (some ad) g.code.length ii)∧ρ.get 21=some (I g.code.length)∧ρ.get 22=some (I i)∧ρ.get 56=some (.bool (decide (n1=172∨n2=172)))) ?_ ?_
   ·cases h1:(n1 == 172)<;>simp only [go_sem,simprocAttr,h1]<;>(rw [cm] at h1;simp only [aK,aL,aM,ak,aN] at h1;simp [h1,cm])
   rintro ρ _ ⟨rfl,r2,r3,r9,pr,Mq,Mr,Ms,r56⟩;simp only [go_sem,simprocAttr,r2,r3,r9,pr,Mq,Mr,Ms,r56];refine aX rfl (fun Dh=>?_) (fun Dh=>?_)
   ·simp only [aK,aL,aM,ak,aN] at Dh;rw [if_pos Dh] at e;refine σ ?_;exact fU 172 _ (by decide) (by rw [cq,lH,e];rfl) rq
   simp only [aK,aL,aM,ak,aN] at Dh;rw [if_neg Dh] at e;refine σ ?_;refine gz (fun ρ w'=>w9=w'∧ρ.get 2=some (ptr b2)∧ρ.get 3=some (ptr b3)∧ρ.get 20=some (.slice (some ad) g.code.length ii)∧ρ.get 21=some (I g.code.length)∧ρ.get 22=some (I i)∧ρ.get 62=some (.bool (decide (n1≠0∨n2≠0)))) ?_ ?_
   ·cases h1:(n1 != 0)<;>simp only [go_sem,simprocAttr,h1]<;>(simp only [aK,aL,aM,ak,aN] at h1;simp [h1,bne,cm])
   rintro ρ _ ⟨rfl,r2,r3,Mq,Mr,Ms,r62⟩;simp only [go_sem,simprocAttr,r2,r3,Mq,Mr,Ms,r62];refine aX rfl (fun h0=>?_) (fun h0=>?_)
   ·simp only [aK,aL,aM,ak,aN] at h0;rw [if_pos h0] at e;refine σ ?_;exact fU 174 _ (by decide) (by rw [cq,lH,e];rfl) rq
   ·simp only [aK,aL,aM,ak,aN] at h0;rw [if_neg h0] at e;have e1:IntKind.i64.wrap ((i:Int)+1)=((i+1:Nat):Int):=by rw [bU (by omega) (by omega)];omega
    simp only [go_sem,simprocAttr,e1];exact ⟨_,by omega,i+1,rfl,by omega,rq,by rw [cq,lH,e];rfl,rfl⟩
 ·have ah:¬ i < g.code.length:=by simpa using ah
  obtain rfl:i=g.code.length:=by omega
  refine σ ?_;refine gR w2 ?_ ae _;rw [cq,List.drop_length];rfl
end
end
section
open Go Go.W
def rH (D:List Int):Prop:=∀ k:Nat,0≤D.getD k 0∧D.getD k 0≤8000
theorem GF {D:List Int} (h:rH D) (a:Int) {d:Int} (hd:0≤d∧d≤8000):rH (ed D a d):=by
 intro k;unfold ed
 split
 ·rw [yG]
  split
  ·exact hd
  ·exact h k
 ·exact h k
section
variable {w:World} {bt bp cv:Value} {T:bl} {g:Gl} {B:Nat→Prop}
set_option maxHeartbeats 1000000 in
theorem ahA (h:dE w bt bp T B) (dW:dB w cv 3 (g.code.map jb) B) (fC:∀ s∈T.aC,0≤s.fields∧s.fields≤8) (gh:g.code.length≤8000) (jN:∀ x∈g.code,x.a≤9223372036854775807) (iu:iN T g.code.length 0 g.code=0)
   {b2 b3 bD:Nat} (hB:∀ b,B b→b≠bD) (an:w.heap[b2]? = some (.cells #[bt,bp] 25 (0,0))) (aE:w.heap[b3]? = some (.cells #[.string g.name,I g.arity,cv] 59 (0,0))) (bq:b2≠bD∧b3≠bD)
   {D0:List Int} (hD:w.heap[bD]? = some (.cells (D0.map I).toArray 3 (0,0))) (sQ:D0.length=g.code.length) (rI:rH D0)
   {Q:gy} (fU:∀ e w',e≠0→jM T g.code.length 0 g.code D0=e→Mod (· = bD) w w'→Q .ret [(4,I e)] w')
   (gR:∀ w',jM T g.code.length 0 g.code D0=0→Mod (· = bD) w w'→∀ ρ,Q .normal ρ w') :
   cD Tryz.prog 152 (.block 2 (.loop KU)) Q [(2,ptr b2),(3,ptr b3),(11,.slice (some ⟨bD,0,none⟩) g.code.length g.code.length),(78,cv),(79,I g.code.length),(80,I 0)] w:=by
 obtain ⟨⟨aS,cS,rfl⟩,aG,cG,rfl⟩:=ig h;obtain ⟨kD,ii,rfl⟩:=oz dW;rw [List.length_map] at *;refine σ ?_
 refine dz (fun z ρ w'=>∃ (i:Nat) (D:List Int),z=g.code.length - i∧i≤g.code.length∧Mod (· = bD) w w'∧D.length=g.code.length∧rH D∧w'.heap[bD]? = some (.cells (D.map I).toArray 3 (0,0))∧jM T g.code.length 0 g.code D0=jM T g.code.length i (g.code.drop i) D ∧
  ρ=[(2,ptr b2),(3,ptr b3),(11,.slice (some ⟨bD,0,none⟩) g.code.length g.code.length),(78,.slice kD g.code.length ii),(79,I g.code.length),(80,I i)]) g.code.length ⟨0,D0,rfl,by omega,Mod.refl _ _,sQ,rI,hD,rfl,rfl⟩ ?_
 rintro z ρ w2 ⟨i,D,rfl,hi,ae,sQ,rI,uF,cq,rfl⟩;have gG:=ae.at an bq.1;have wM:=ae.at aE bq.2;unfold KU;refine σ ?_;refine aX rfl (fun ah=>?_) (fun ah=>?_)
 ·have ah:i < g.code.length:=by simpa using ah
  have h2:=h.mod ae (fun b hb=>hB b hb) (fun _ h=>h);obtain ⟨ad,c,e',_,dI⟩:=yC (dW.mod ae (fun b hb=>hB b hb) (fun _ h=>h)) ah;cases e';rw [AJ ah] at dI;have lH:=VB T g.code.length g.code D ah;have fJ:pw T g.code.length i g.code[i]:=by
   have:=Mh g.code 0 iu i _ (List.getElem?_eq_getElem ah);rw [Nat.zero_add] at this;exact Mi this
  have GG:=jN _ (List.getElem_mem ah);generalize U:g.code[i]=x at *;have b1:(0:Int)≤i∧(i:Int) < g.code.length:=by omega
  have AK:=oW uF (i:=i) (by omega);simp only [go_sem,simprocAttr,ak,bh,b1,dI,ec];refine de ?_;intro w3 rG ab _;refine cu (cs:=[I 0,I 0,I 0]) rfl rfl rG rfl rfl (by simp [Value.oneCell']) ?_;intro w4 aJ aj _;have dm:Mod (fun _=>False) w2 w4:=ab.step aj (fun x U hl=>by subst U;omega);have ahB:=dm.cell AK (fun h=>h);have hD4:=dm.at uF (fun h=>h);have Di:=rI i;generalize AL:D.getD i 0=d at *;simp only [go_sem,simprocAttr,ak,bh,b1,c8,ahB];have e0:pB T g.code.length i x D=if d=0 then 174
   else if ¬ ((az T x d).1=true∧(az T x d).2≤8000) then 173
   else if eN x∧i+1=g.code.length then 174
   else if eN x∧(ed D ((i:Int)+1) (az T x d).2).getD (i+1) 0≠(az T x d).2 then 173
   else if dM x > 0∧(gV T D i x).getD (dM x).toNat 0≠(az T x d).2 then 173
   else 0:=by unfold pB;rw [AL]
  have ey:Mod (· = bD) w w4:=ae.step dm (fun _ h _=>h.elim);refine aX rfl (fun hz=>?_) (fun hz=>?_)
  ·simp only [aK,aL,aM,ak,aN] at hz;rw [if_pos hz] at e0;refine σ ?_;exact fU 174 _ (by decide) (by rw [cq,lH,e0];rfl) ey
  simp only [aK,aL,aM,ak,aN] at hz;rw [if_neg hz] at e0;have tS:=dm.at gG (fun h=>h);have p5:=dm.at wM (fun h=>h);have gv:=dK (cs:=[_,_]) (off:=0) (n:=2) tS (by simp);have pE:=dK (cs:=[_,_,_]) (off:=0) (n:=3) aJ (by simp);simp only [go_sem,simprocAttr,gv,pE];refine δ (by rfl) (ahv (x:=x) (h2.mod dm (fun _ _ h=>h) (fun _ h=>h)) fC fJ GG (d:=d) Di) ?_;rintro _ w5 ⟨rfl,ay⟩;have gF:(az T x d).1=true→1≤(az T x d).2:=Mj (fun s hs=>(fC s hs).1) fJ (by omega);have cg:gV T D i x=if dM x > 0 then ed (if x.op≠13∧x.op≠16∧x.op≠17 then ed D ((i:Int)+1) (az T x d).2 else D) (dM x) (az T x d).2 else (if x.op≠13∧x.op≠16∧x.op≠17 then ed D ((i:Int)+1) (az T x d).2 else D):=by unfold gV;rw [AL]
  generalize az T x d=st at *;obtain ⟨ok,s⟩:=st;have dt:=ey.step ay (fun _ h _=>h.elim);have yD:=ay.at aJ (fun h=>h);have p6:=ay.at p5 (fun h=>h);have AM:=ay.at hD4 (fun h=>h);refine σ ?_;refine aX rfl (fun ct=>?_) (fun ct=>?_)
  ·have Dj:¬ (ok=true∧s≤8000):=by
    intro hh;simp [hh.1,hh.2] at ct
   rw [if_pos Dj] at e0;refine σ ?_;exact fU 173 _ (by decide) (by rw [cq,lH,e0];rfl) dt
  have Dj:ok=true∧s≤8000:=by simpa using ct
  rw [if_neg (by simpa using Dj)] at e0;have Dk:0≤s∧s≤8000:=⟨by have:=gF Dj.1;omega,Dj.2⟩;simp only [go_sem,simprocAttr,cell_of yD];have e1:IntKind.i64.wrap ((i:Int)+1)=(i:Int)+1:=bU (by omega) (by omega);refine gz (fun ρ w'=>w5=w'∧ρ.get 2=some (ptr b2)∧ρ.get 3=some (ptr b3)∧ρ.get 11=some (.slice (some ⟨bD,0,none⟩) g.code.length g.code.length)∧ρ.get 12=some (I i)∧ρ.get 13=some (ptr w2.heap.size)∧ρ.get 15=some (I s)∧ρ.get 17=some (.bool (decide (eN x)))∧ρ.get 78=some (.slice (some ad) g.code.length ii)∧ρ.get 79=some (I g.code.length)∧ρ.get 80=some (I i)) ?_ ?_
  ·have eG:decide (eN x)=((x.op != 13)&&(x.op != 16)&&(x.op != 17)):=by
    unfold eN;by_cases a:x.op=13<;>by_cases b:x.op=16<;>by_cases c:x.op=17<;>simp [a,b,c]
   rw [eG];cases h1:(x.op != 13)<;>cases h3:(x.op != 16)<;>simp only [go_sem,simprocAttr,h1,h3,cell_of yD,Bool.true_and,Bool.false_and]<;>(simp [h1,h3])
  rintro ρ _ ⟨rfl,r2,r3,iO,Mu,rJ,qp,Mv,qq,qt,qu⟩;simp only [go_sem,simprocAttr,r2,r3,iO,Mu,rJ,qp,Mv,qq,qt,qu];refine gz (fun ρ w'=>w5=w'∧ρ.get 2=some (ptr b2)∧ρ.get 3=some (ptr b3)∧ρ.get 11=some (.slice (some ⟨bD,0,none⟩) g.code.length g.code.length)∧ρ.get 12=some (I i)∧ρ.get 13=some (ptr w2.heap.size)∧ρ.get 15=some (I s)∧ρ.get 17=some (.bool (decide (eN x)))∧ρ.get 78=some (.slice (some ad) g.code.length ii)∧ρ.get 79=some (I g.code.length)∧ρ.get 80=some (I i)∧ρ.get 121=some (.bool (decide (eN x∧i+1=g.code.length)))) ?_ ?_
  ·by_cases hG:eN x
   ·have wN:decide (eN x)=true:=decide_eq_true hG;have c1:(((i:Int)+1) == (g.code.length:Int))=decide (i+1=g.code.length):=by rw [cm];exact decide_eq_decide.2 (by omega)
    simp only [go_sem,simprocAttr,wN,cell_of p6,e1];simp [hG,c1]
   ·have Dl:decide (eN x)=false:=decide_eq_false hG;simp only [go_sem,simprocAttr,Dl];simp [hG]
  rintro ρ _ ⟨rfl,r2,r3,iO,Mu,rJ,qp,Mv,qq,qt,qu,ahC⟩;simp only [go_sem,simprocAttr,r2,r3,iO,Mu,rJ,qp,Mv,qq,qt,qu,ahC];refine aX rfl (fun oq=>?_) (fun oq=>?_)
  ·simp only [aK,aL,aM,ak,aN] at oq;rw [if_pos oq] at e0;refine σ ?_;exact fU 174 _ (by decide) (by rw [cq,lH,e0];rfl) dt
  simp only [aK,aL,aM,ak,aN] at oq;rw [if_neg oq] at e0;refine σ ?_;refine gz (fun ρ w'=>∃ D1,D1=(if eN x then ed D ((i:Int)+1) s else D)∧w'.heap[bD]? = some (.cells (D1.map I).toArray 3 (0,0))∧Mod (· = bD) w5 w'∧ρ.get 2=some (ptr b2)∧ρ.get 3=some (ptr b3)∧ρ.get 11=some (.slice (some ⟨bD,0,none⟩) g.code.length g.code.length)∧ρ.get 13=some (ptr w2.heap.size)∧ρ.get 15=some (I s)∧ρ.get 78=some (.slice (some ad) g.code.length ii)∧ρ.get 79=some (I g.code.length)∧ρ.get 80=some (I i)∧ρ.get 130=some (.bool (decide (eN x∧(ed D ((i:Int)+1) s).getD (i+1) 0≠s)))) ?_ ?_
  ·by_cases hG:eN x
   ·have wN:decide (eN x)=true:=decide_eq_true hG;simp only [go_sem,simprocAttr,wN,e1];refine ao (by rfl) ?_;have Ju:i+1≠g.code.length:=fun e=>oq ⟨hG,e⟩
    have hr:=Vw AM (a:=(i:Int)+1) (d:=s) ⟨by omega,by omega⟩;rw [sQ] at hr;refine hr.mono ?_;rintro _ w6 ⟨rfl,pF,aH⟩;refine σ ?_;refine ⟨_,rfl,by rw [if_pos hG];exact pF,aH,?_⟩;rw [show ((i:Int)+1).toNat=i+1 by omega];simp [hG]
   ·have Dl:decide (eN x)=false:=decide_eq_false hG;simp only [go_sem,simprocAttr,Dl];refine ⟨_,rfl,by rw [if_neg hG];exact AM,Mod.refl _ _,?_⟩;simp [hG]
  rintro ρ w6 ⟨D1,rK,pF,aH,r2,r3,iO,rJ,qp,qq,qt,qu,ahD⟩;have gH:Mod (· = bD) w w6:=dt.trans aH;have ahE:w2.heap.size≠bD:=fun e=>by have:=lt_of_heap uF;omega
  have pA:=aH.at yD ahE;have GH:D1.length=g.code.length:=by rw [rK];split<;>simp [Dd,sQ]
  have VD:rH D1:=by rw [rK];split;exact GF rI _ Dk;exact rI
  have ug:gV T D i x=if dM x > 0 then ed D1 (dM x) s else D1:=by
   rw [cg,rK];rfl
  simp only [go_sem,simprocAttr,r2,r3,iO,rJ,qp,qq,qt,qu,ahD];refine aX rfl (fun kN=>?_) (fun kN=>?_)
  ·simp only [aK,aL,aM,ak,aN] at kN;rw [if_pos kN] at e0;refine σ ?_;exact fU 173 _ (by decide) (by rw [cq,lH,e0];rfl) gH
  simp only [aK,aL,aM,ak,aN] at kN;rw [if_neg kN] at e0;simp only [go_sem,simprocAttr,cell_of pA];refine CL (fun ρ w'=>w6=w'∧ρ.get 2=some (ptr b2)∧ρ.get 3=some (ptr b3)∧ρ.get 11=some (.slice (some ⟨bD,0,none⟩) g.code.length g.code.length)∧ρ.get 15=some (I s)∧ρ.get 18=some (I (dM x))∧ρ.get 78=some (.slice (some ad) g.code.length ii)∧ρ.get 79=some (I g.code.length)∧ρ.get 80=some (I i)) ?_ ?_
  ·have hop:=fJ.o1;by_cases AN:x.op=13
   ·have et:dM x=x.a:=by unfold dM;rw [if_pos AN]
    rw [et];simp only [go_sem,simprocAttr,AN,Int.reduceBEq,cell_of pA]
   by_cases Mw:x.op=14
   ·have et:dM x=x.b:=by unfold dM;rw [if_neg AN,if_pos (.inl Mw)]
    rw [et];simp only [go_sem,simprocAttr,Mw,Int.reduceBEq,cell_of pA]
   by_cases Mx:x.op=15
   ·have et:dM x=x.b:=by unfold dM;rw [if_neg AN,if_pos (.inr Mx)]
    rw [et];simp only [go_sem,simprocAttr,Mx,Int.reduceBEq,cell_of pA]
   have et:dM x=0:=by unfold dM;rw [if_neg AN,if_neg (by omega)]
   rw [et];have n13:(x.op == 13)=false:=by rw [cm];exact decide_eq_false AN
   have n14:(x.op == 14)=false:=by rw [cm];exact decide_eq_false Mw
   have n15:(x.op == 15)=false:=by rw [cm];exact decide_eq_false Mx
   simp only [go_sem,simprocAttr,n13,n14,n15,cell_of pA]
  rintro ρ _ ⟨rfl,r2,r3,iO,qp,AH,qq,qt,qu⟩;have qY:dM x > 0→dM x < g.code.length:=by
   intro ht;unfold dM at ht ⊢
   split at ht
   ·rename_i e;rw [if_pos e];exact (fJ.FU e).2
   ·rename_i e;rw [if_neg e]
    split at ht
    ·rename_i e2;rw [if_pos e2];exact (fJ.yr e2).2
    ·omega
  simp only [go_sem,simprocAttr,r2,r3,iO,qp,AH,qq,qt,qu];refine gz (fun ρ w'=>∃ D2,D2=gV T D i x∧D2.length=g.code.length∧rH D2∧w'.heap[bD]? = some (.cells (D2.map I).toArray 3 (0,0))∧Mod (· = bD) w6 w'∧ρ.get 2=some (ptr b2)∧ρ.get 3=some (ptr b3)∧ρ.get 11=some (.slice (some ⟨bD,0,none⟩) g.code.length g.code.length)∧ρ.get 78=some (.slice (some ad) g.code.length ii)∧ρ.get 79=some (I g.code.length)∧ρ.get 80=some (I i)∧ρ.get 150=some (.bool (decide (dM x > 0∧(gV T D i x).getD (dM x).toNat 0≠s)))) ?_ ?_
  ·by_cases ht:dM x > 0
   ·have L6:decide (dM x > 0)=true:=decide_eq_true ht;rw [if_pos ht] at ug;rw [ug];simp only [go_sem,simprocAttr,L6,r2,r3,iO,qp,AH,qq,qt,qu];refine ao (by rfl) ?_;have hr:=Vw pF (a:=dM x) (d:=s) ⟨by omega,by rw [GH];exact qY ht⟩;rw [GH] at hr;refine hr.mono ?_;rintro _ w7 ⟨rfl,uG,aZ⟩;simp only [go_sem,simprocAttr,r2,r3,iO,qp,AH,qq,qt,qu];refine ⟨_,rfl,by rw [Dd,GH],GF VD _ Dk,uG,aZ,?_⟩;simp [ht]
   ·have htf:decide (dM x > 0)=false:=decide_eq_false ht;rw [if_neg ht] at ug;rw [ug];simp only [go_sem,simprocAttr,htf,r2,r3,iO,qp,AH,qq,qt,qu];refine ⟨_,rfl,GH,VD,pF,Mod.refl _ _,?_⟩;simp [ht]
  rintro ρ w7 ⟨D2,ahF,ahG,ahH,uG,aZ,r2,r3,iO,qq,qt,qu,ahI⟩;have gI:Mod (· = bD) w w7:=gH.trans aZ;simp only [go_sem,simprocAttr,r2,r3,iO,qq,qt,qu,ahI];refine aX rfl (fun uH=>?_) (fun uH=>?_)
  ·simp only [aK,aL,aM,ak,aN] at uH;rw [if_pos uH] at e0;refine σ ?_;exact fU 173 _ (by decide) (by rw [cq,lH,e0];rfl) gI
  ·simp only [aK,aL,aM,ak,aN] at uH;rw [if_neg uH] at e0;have e2:IntKind.i64.wrap ((i:Int)+1)=((i+1:Nat):Int):=by rw [e1];omega
   simp only [go_sem,simprocAttr,e2];exact ⟨_,by omega,i+1,D2,rfl,by omega,gI,ahG,ahH,uG,by rw [cq,lH,e0,ahF];rfl,rfl⟩
 ·have ah:¬ i < g.code.length:=by simpa using ah
  obtain rfl:i=g.code.length:=by omega
  refine σ ?_;refine gR w2 ?_ ae _;rw [cq,List.drop_length];rfl
end
end
section
open Go Go.W
section
variable {w:World} {bt bp cv:Value} {T:bl} {g:Gl} {B:Nat→Prop}
theorem ahJ (h:dE w bt bp T B) (dW:dB w cv 3 (g.code.map jb) B) (jL:∀ b,B b→b < w.heap.size) (fC:∀ s∈T.aC,0≤s.fields∧s.fields≤8) (kf:0≤g.arity∧g.arity≤24) (gh:g.code.length≤8000) (jN:∀ x∈g.code,x.a≤9223372036854775807) :
   aD Tryz.prog 106 [eC bt bp,mJ g cv] w fun r w'=>r=I (lF T g)∧Mod (fun _=>False) w w':=by
 have h0:=h;have VE:=dW;obtain ⟨⟨aS,cS,rfl⟩,aG,cG,rfl⟩:=ig h;obtain ⟨kD,ii,rfl⟩:=oz dW;rw [List.length_map] at *;refine aeG.calls rfl ?_;unfold KV eC mJ;refine σ ?_;refine b8 rfl ?_;intro w1 aq ag cL;refine σ ?_;refine b8 rfl ?_;intro w2 an ae dh;have a7:=ae.at aq (fun h=>h);have aY:=ag.trans ae;have h2:=h0.mod aY (fun _ _ h=>h) (fun _ h=>h);have ahK:=VE.mod aY (fun _ _ h=>h) (fun _ h=>h);simp only [go_sem,simprocAttr,cell_of an,Value.cells];refine ahw (b2:=w.heap.size) (b3:=w1.heap.size) (g:=g) h2 ahK gh a7 an ?_ ?_
 ·intro e w3 he hn ab;refine σ ?_;have:lF T g=e:=by unfold lF;rw [hn,if_pos he]
  rw [this];exact ⟨rfl,aY.trans ab⟩
 ·intro w3 hn ab t;have GI:=ab.at an (fun h=>h);have eS:=ab.at a7 (fun h=>h);have du:=aY.trans ab;have lz:((g.code.length:Int) == 0)=decide (g.code.length=0):=by rw [cm];exact decide_eq_decide.2 (by omega)
  simp only [go_sem,simprocAttr,cell_of GI,Value.cells,lz];refine aX rfl (fun hz=>?_) (fun hz=>?_)
  ·simp only [aK,aL,aM,ak,aN] at hz;refine σ ?_;have:lF T g=174:=by unfold lF;rw [hn,if_neg (by decide),if_pos hz]
   rw [this];exact ⟨rfl,du⟩
  ·simp only [aK,aL,aM,ak,aN] at hz;have e1:lF T g=jM T g.code.length 0 g.code (gW g):=by unfold lF;rw [hn,if_neg (by decide),if_neg hz]
   have b1:(0:Int)≤0∧(0:Int) < g.code.length:=by omega
   have e2:IntKind.i64.wrap (g.arity+1)=g.arity+1:=bU (by omega) (by omega);simp only [go_sem,simprocAttr,cell_of GI,Value.cells];refine sb (bytes:=8) (n:=g.code.length) rfl (by omega) (by omega) ?_;intro w4 aJ aj eA;have p5:=aj.at GI (fun h=>h);simp only [go_sem,simprocAttr,ak,bh,cell_of p5,e2,b1,c8];refine bL (off:=0) rfl rfl aJ rfl (by simp;omega) ?_;intro w5 cd ay _;have l3:=lt_of_heap GI;have l1:=lt_of_heap eS;have p6:=ay.at p5 (fun e=>by omega);have jZ:=ay.at (aj.at eS (fun h=>h)) (fun e=>by omega);have hD:w5.heap[w3.heap.size]? = some (.cells ((gW g).map I).toArray 3 (0,0)):=by
    rw [cd];unfold gW;rw [List.map_set,List.map_replicate]
   have gD:Mod (fun _=>False) w3 w5:=aj.step ay (fun x U hl=>by subst U;omega);have dt:=du.trans gD;have rI:rH (gW g):=by
    intro k;unfold gW;rw [yG]
    split
    ·omega
    ·rw [List.getD_eq_getElem?_getD,List.getElem?_replicate]
     split<;>simp
   simp only [go_sem,simprocAttr,cell_of p6];refine ahA (b2:=w.heap.size) (b3:=w1.heap.size) (bD:=w3.heap.size) (g:=g) (h0.mod dt (fun _ _ h=>h) (fun _ h=>h)) (VE.mod dt (fun _ _ h=>h) (fun _ h=>h)) fC gh jN hn (fun b hb e=>by have:=jL b hb;have:=du.size;omega) jZ p6 ⟨by omega,by omega⟩ hD (by simp [gW]) rI ?_ ?_
   ·intro e w6 he My aH;refine σ ?_;rw [e1,My];exact ⟨rfl,dt.step aH (fun x U hl=>by subst U;have:=du.size;omega)⟩
   ·intro w6 My aH ρ;refine σ ?_;rw [e1,My];exact ⟨rfl,dt.step aH (fun x U hl=>by subst U;have:=du.size;omega)⟩
end
end
section
open Go Go.W
def lI (l:List (ByteArray×Int)):List (ByteArray×Int):=l.map fun p=>(p.1,1)
theorem VF (l:List (ByteArray×Int)) (k:ByteArray):(gX (lI l) k).getD 0=if (l.map (·.1)).all (fun t=>decide (t≠k))=true then 0 else 1:=by
 induction l with
 | nil=>rfl
 | cons p l ih=>
  by_cases h:p.1=k
  ·simp [gX,lI,h]
  ·have e:gX (lI (p::l)) k=gX (lI l) k:=by simp [gX,lI,h]
   rw [e,ih,List.map_cons,List.all_cons];have hd:decide (p.1≠k)=true:=by simp [h]
   rw [hd,Bool.true_and]
theorem VG {l:List (ByteArray×Int)} {p:ByteArray×Int} (h:(l.map (·.1)).all (fun t=>decide (t≠p.1))=true):uD (lI l) p.1 1=lI (l++[p]):=by
 have e:(lI l).findIdx? (fun q=>decide (q.1=p.1))=none:=by
  rw [List.findIdx?_eq_none_iff];intro q hq;obtain ⟨r,hr,rfl⟩:=List.mem_map.1 hq;have:=List.all_eq_true.1 h r.1 (List.mem_map.2 ⟨r,hr,rfl⟩)
  simpa using this
 unfold uD;rw [e];simp [lI]
theorem ahL (l:List ByteArray) (k:ByteArray):l.reverse.all (fun t=>decide (t≠k))=l.all (fun t=>decide (t≠k)):=by simp
theorem GJ {hi:Int} {l:List (ByteArray×Int)} {i:Nat} (h:i < l.length):fi hi ((l.take i).map (·.1)).reverse (l.drop i) =
   (ix l[i].1&&((l.take i).map (·.1)).all (fun t=>decide (t≠l[i].1))&&decide (0≤l[i].2)&&decide (l[i].2≤hi)&&fi hi ((l.take (i+1)).map (·.1)).reverse (l.drop (i+1))):=by
 rw [List.drop_eq_getElem_cons h,List.take_succ_eq_append_getElem h];simp only [fi,List.map_append,List.map_cons,List.map_nil,List.reverse_append,List.reverse_cons,List.reverse_nil,List.nil_append,List.singleton_append,ahL]
theorem VH {P:Program} {ρ:Env} {w:World} {K:Value→World→Prop} {d:Option Nat} {op:Op} {ty:TypeId} {pos:String} {af:Array Edge} {gd:Option (Nat×Bool)} (h:E.wp P w ρ K (.raw ⟨d,op,ty,pos,af,none⟩)):E.wp P w ρ K (.raw ⟨d,op,ty,pos,af,gd⟩):=h
theorem Mz {w:World} {bt bp:Value} {T:bl} {B:Nat→Prop} (h:dE w bt bp T B) {i:Nat} (hi:i < T.aC.length):∃ ad c,bt = .slice (some ad) T.aC.length c∧cB w 2 (.pointer (some (ad.add (i*2))))=some (.agg #[.string T.aC[i].name,I T.aC[i].fields]):=by
 obtain ⟨ad,c,h1,h2,h3⟩:=yo h hi;have e:T.sh (i:Int)=T.aC[i]:=by unfold bl.sh;rw [Int.toNat_natCast,List.getD_eq_getElem?_getD,List.getElem?_eq_getElem hi];rfl
 rw [e] at h2 h3;exact ⟨ad,c,h1,uC h2 h3⟩
section
variable {w:World} {bt bp:Value} {T:bl} {B:Nat→Prop}
set_option maxHeartbeats 1000000 in
theorem ahM (h:dE w bt bp T B) (hT:lg T) {b1 bM:Nat} (hB:∀ b,B b→b≠bM) (hM:lG w bM (lI []))
   {Q:gy} (fU:∀ w',fi 8 [] (fD T)=false→Mod (· = bM) w w'→Q .ret [(2,I 172)] w')
   (gR:∀ w' t l,fi 8 [] (fD T)=true→lG w' bM l→Mod (· = bM) w w'→Q .normal [(1,ptr b1),(3,.map (some bM)),(17,bt),(18,I T.aC.length),(19,I T.aC.length),(20,t)] w') :
   cD Tryz.prog 117 (.block 0 (.loop KB)) Q [(1,ptr b1),(3,.map (some bM)),(17,bt),(18,I T.aC.length),(19,I 0)] w:=by
 obtain ⟨⟨aS,cS,rfl⟩,aG,cG,rfl⟩:=ig h;have bQ:(fD T).length=T.aC.length:=by simp [fD]
 have yz:=hT.sn;have yI:=hT.gn;refine σ ?_
 refine dz (fun z ρ w'=>∃ i:Nat,z=T.aC.length - i∧i≤T.aC.length∧Mod (· = bM) w w'∧lG w' bM (lI ((fD T).take i))∧fi 8 [] (fD T)=fi 8 (((fD T).take i).map (·.1)).reverse ((fD T).drop i) ∧
  ρ=[(1,ptr b1),(3,.map (some bM)),(17,.slice aS T.aC.length cS),(18,I T.aC.length),(19,I i)]) T.aC.length ⟨0,rfl,by omega,Mod.refl _ _,hM,rfl,rfl⟩ ?_
 rintro z ρ w2 ⟨i,rfl,hi,ae,fN,cq,rfl⟩;unfold KB;refine σ ?_;refine aX rfl (fun ah=>?_) (fun ah=>?_)
 ·have ah:i < T.aC.length:=by simpa using ah
  have h2:=h.mod ae (fun b hb=>hB b hb) (fun _ h=>h);obtain ⟨ad,c,e',dI⟩:=Mz h2 ah;cases e';have dy:=hT.Vs _ (List.getElem_mem ah);have cr:=GJ (hi:=8) (l:=fD T) (i:=i) (by omega);have rf:(fD T)[i]'(by omega)=(T.aC[i].name,T.aC[i].fields):=by simp [fD]
  rw [rf] at cr;have jG:(fD T).take (i+1)=(fD T).take i++[(T.aC[i].name,T.aC[i].fields)]:=by rw [List.take_succ_eq_append_getElem (by omega),rf]
  skip
  generalize T.aC[i].name=nm at *;generalize T.aC[i].fields=nv at *;have pD:(0:Int)≤i∧(i:Int) < T.aC.length:=by omega
  simp only [go_sem,simprocAttr,ak,bh,pD,dI];refine de ?_;intro w3 rG ab _;refine cu (cs:=[.string ⟨#[]⟩,I 0]) rfl rfl rG rfl rfl (by simp [Value.oneCell']) ?_;intro w4 aJ aj _;have dm:Mod (fun _=>False) w2 w4:=ab.step aj (fun x U hl=>by subst U;omega);have qv:=pC fN dm (fun h=>h);have bq:w2.heap.size≠bM:=fun e=>by obtain ⟨es,ck,h1,_⟩:=fN;have:=lt_of_heap h1;omega
  simp only [go_sem,simprocAttr,cell_of aJ];refine δ (by rfl) (Vq w4 nm dy) ?_;rintro _ _ ⟨rfl,rfl⟩;have ey:Mod (· = bM) w w4:=ae.step dm (fun _ h _=>h.elim);have MA:=VF ((fD T).take i) nm;refine σ ?_
  refine gz (fun ρ w'=>w4=w'∧ρ.get 1=some (ptr b1)∧ρ.get 3=some (.map (some bM))∧ρ.get 5=some (ptr w2.heap.size)∧ρ.get 17=some (.slice (some ad) T.aC.length cS)∧ρ.get 18=some (I T.aC.length)∧ρ.get 19=some (I i) ∧
   ρ.get 43=some (.bool (!(ix nm&&(((fD T).take i).map (·.1)).all (fun t=>decide (t≠nm))&&decide (0≤nv)&&decide (nv≤8))))) ?_ ?_
  ·have n1:decide (0≤nv) = !decide (nv < 0):=by by_cases q:nv < 0<;>simp [q];omega
   have n2:decide (nv≤8) = !decide (nv > 8):=by by_cases q:nv > 8<;>simp [q];omega
   rw [n1,n2];generalize ((((fD T).take i).map (·.1)).all (fun t=>decide (t≠nm)))=q at *;cases hA:ix nm
   ·simp only [go_sem,simprocAttr,hA,Bool.not_false,Bool.false_and,cell_of aJ]
   ·simp only [go_sem,simprocAttr,hA,Bool.not_true,cell_of aJ];refine VH (AF (t:=80) (kt:=9) (et:=3) rfl rfl Tryz.underlying80 Tryz.underlying9 (Tryz.zeroValue3 _) qv ?_);rw [MA];cases q
    ·simp only [go_sem,simprocAttr,cell_of aJ,Int.reduceGT,Int.reduceLT,decide_true,Bool.and_false,Bool.false_and,Bool.not_false]
    ·cases hC:decide (nv < 0)<;>cases hD:decide (nv > 8)<;>simp only [go_sem,simprocAttr,cell_of aJ,hC,hD,gt_iff_lt,Int.reduceLT,Int.lt_irrefl,decide_false,Bool.and_true,Bool.true_and,Bool.and_false,Bool.not_true,Bool.not_false]
  rintro ρ _ ⟨rfl,r1,r3,rB,rv,rn,ri,rr⟩;simp only [go_sem,simprocAttr,r1,r3,rB,rv,rn,ri,rr];refine aX rfl (fun fm=>?_) (fun fm=>?_)
  ·rw [Bool.not_eq_true'] at fm;refine σ ?_;exact fU _ (by rw [cq,cr,fm];rfl) ey
  ·have fm:(ix nm&&(((fD T).take i).map (·.1)).all (fun t=>decide (t≠nm))&&decide (0≤nv)&&decide (nv≤8))=true:=by simpa using fm
   rw [fm,Bool.true_and] at cr;have cA:(((fD T).take i).map (·.1)).all (fun t=>decide (t≠nm))=true:=by
    simp only [Bool.and_eq_true] at fm;exact fm.1.1.2
   have e1:IntKind.i64.wrap ((i:Int)+1)=((i+1:Nat):Int):=by rw [bU (by omega) (by omega)];omega
   simp only [go_sem,simprocAttr,cell_of aJ];refine Mm (t:=80) (kt:=9) (et:=3) (v:=1) (by rfl) (by rfl) (by rfl) Tryz.underlying80 Tryz.underlying9 qv ?_;intro w5 rL ay _;have gY:=VG (p:=(nm,nv)) cA;rw [show uD (lI ((fD T).take i)) nm 1=lI ((fD T).take (i+1)) from by rw [jG];exact gY] at rL;simp only [go_sem,simprocAttr,e1];exact ⟨_,by omega,i+1,rfl,by omega,ey.trans ay,rL,by rw [cq,cr],rfl⟩
 ·have ah:¬ i < T.aC.length:=by simpa using ah
  obtain rfl:i=T.aC.length:=by omega
  refine σ ?_;refine gR w2 _ _ ?_ fN ae;rw [cq,← bQ,List.drop_length];rfl
set_option maxHeartbeats 1000000 in
theorem ahN (h:dE w bt bp T B) (hT:lg T) {b1 bM:Nat} (hB:∀ b,B b→b≠bM) (hM:lG w bM (lI []))
   {Q:gy} (fU:∀ w',fi 24 [] (eV T)=false→Mod (· = bM) w w'→Q .ret [(2,I 172)] w')
   (gR:∀ w' t l,fi 24 [] (eV T)=true→lG w' bM l→Mod (· = bM) w w'→Q .normal [(1,ptr b1),(3,.map (some bM)),(72,bp),(73,I T.globals.length),(74,I T.globals.length),(75,t)] w') :
   cD Tryz.prog 117 (.block 4 (.loop KD)) Q [(1,ptr b1),(3,.map (some bM)),(72,bp),(73,I T.globals.length),(74,I 0)] w:=by
 obtain ⟨⟨aS,cS,rfl⟩,aG,cG,rfl⟩:=ig h;have bQ:(eV T).length=T.globals.length:=by simp [eV]
 have yz:=hT.sn;have yI:=hT.gn;refine σ ?_
 refine dz (fun z ρ w'=>∃ i:Nat,z=T.globals.length - i∧i≤T.globals.length∧Mod (· = bM) w w'∧lG w' bM (lI ((eV T).take i))∧fi 24 [] (eV T)=fi 24 (((eV T).take i).map (·.1)).reverse ((eV T).drop i) ∧
  ρ=[(1,ptr b1),(3,.map (some bM)),(72,.slice aG T.globals.length cG),(73,I T.globals.length),(74,I i)]) T.globals.length ⟨0,rfl,by omega,Mod.refl _ _,hM,rfl,rfl⟩ ?_
 rintro z ρ w2 ⟨i,rfl,hi,ae,fN,cq,rfl⟩;unfold KD;refine σ ?_;refine aX rfl (fun ah=>?_) (fun ah=>?_)
 ·have ah:i < T.globals.length:=by simpa using ah
  have h2:=h.mod ae (fun b hb=>hB b hb) (fun _ h=>h);obtain ⟨ad,c,cv,e',dI,_⟩:=Df h2 ah;cases e';have dy:=hT.Vr _ (List.getElem_mem ah);have cr:=GJ (hi:=24) (l:=eV T) (i:=i) (by omega);have rf:(eV T)[i]'(by omega)=(T.globals[i].name,T.globals[i].arity):=by simp [eV]
  rw [rf] at cr;have jG:(eV T).take (i+1)=(eV T).take i++[(T.globals[i].name,T.globals[i].arity)]:=by rw [List.take_succ_eq_append_getElem (by omega),rf]
  unfold mJ at dI;generalize T.globals[i].name=nm at *;generalize T.globals[i].arity=nv at *;have pD:(0:Int)≤i∧(i:Int) < T.globals.length:=by omega
  simp only [go_sem,simprocAttr,ak,bh,pD,dI];refine de ?_;intro w3 rG ab _;refine cu (cs:=[.string ⟨#[]⟩,I 0,.slice none 0 0]) rfl rfl rG rfl rfl (by obtain ⟨kD,ii,rfl⟩:=oz ‹_›;simp [Value.oneCell']) ?_;intro w4 aJ aj _;have dm:Mod (fun _=>False) w2 w4:=ab.step aj (fun x U hl=>by subst U;omega);have qv:=pC fN dm (fun h=>h);have bq:w2.heap.size≠bM:=fun e=>by obtain ⟨es,ck,h1,_⟩:=fN;have:=lt_of_heap h1;omega
  simp only [go_sem,simprocAttr,cell_of aJ];refine δ (by rfl) (Vq w4 nm dy) ?_;rintro _ _ ⟨rfl,rfl⟩;have ey:Mod (· = bM) w w4:=ae.step dm (fun _ h _=>h.elim);have MA:=VF ((eV T).take i) nm;refine σ ?_
  refine gz (fun ρ w'=>w4=w'∧ρ.get 1=some (ptr b1)∧ρ.get 3=some (.map (some bM))∧ρ.get 9=some (ptr w2.heap.size)∧ρ.get 72=some (.slice (some ad) T.globals.length cG)∧ρ.get 73=some (I T.globals.length)∧ρ.get 74=some (I i) ∧
   ρ.get 98=some (.bool (!(ix nm&&(((eV T).take i).map (·.1)).all (fun t=>decide (t≠nm))&&decide (0≤nv)&&decide (nv≤24))))) ?_ ?_
  ·have n1:decide (0≤nv) = !decide (nv < 0):=by by_cases q:nv < 0<;>simp [q];omega
   have n2:decide (nv≤24) = !decide (nv > 24):=by by_cases q:nv > 24<;>simp [q];omega
   rw [n1,n2];generalize ((((eV T).take i).map (·.1)).all (fun t=>decide (t≠nm)))=q at *;cases hA:ix nm
   ·simp only [go_sem,simprocAttr,hA,Bool.not_false,Bool.false_and,cell_of aJ]
   ·simp only [go_sem,simprocAttr,hA,Bool.not_true,cell_of aJ];refine VH (AF (t:=80) (kt:=9) (et:=3) rfl rfl Tryz.underlying80 Tryz.underlying9 (Tryz.zeroValue3 _) qv ?_);rw [MA];cases q
    ·simp only [go_sem,simprocAttr,cell_of aJ,Int.reduceGT,Int.reduceLT,decide_true,Bool.and_false,Bool.false_and,Bool.not_false]
    ·cases hC:decide (nv < 0)<;>cases hD:decide (nv > 24)<;>simp only [go_sem,simprocAttr,cell_of aJ,hC,hD,gt_iff_lt,Int.reduceLT,Int.lt_irrefl,decide_false,Bool.and_true,Bool.true_and,Bool.and_false,Bool.not_true,Bool.not_false]
  rintro ρ _ ⟨rfl,r1,r3,rB,rv,rn,ri,rr⟩;simp only [go_sem,simprocAttr,r1,r3,rB,rv,rn,ri,rr];refine aX rfl (fun fm=>?_) (fun fm=>?_)
  ·rw [Bool.not_eq_true'] at fm;refine σ ?_;exact fU _ (by rw [cq,cr,fm];rfl) ey
  ·have fm:(ix nm&&(((eV T).take i).map (·.1)).all (fun t=>decide (t≠nm))&&decide (0≤nv)&&decide (nv≤24))=true:=by simpa using fm
   rw [fm,Bool.true_and] at cr;have cA:(((eV T).take i).map (·.1)).all (fun t=>decide (t≠nm))=true:=by
    simp only [Bool.and_eq_true] at fm;exact fm.1.1.2
   have e1:IntKind.i64.wrap ((i:Int)+1)=((i+1:Nat):Int):=by rw [bU (by omega) (by omega)];omega
   simp only [go_sem,simprocAttr,cell_of aJ];refine Mm (t:=80) (kt:=9) (et:=3) (v:=1) (by rfl) (by rfl) (by rfl) Tryz.underlying80 Tryz.underlying9 qv ?_;intro w5 rL ay _;have gY:=VG (p:=(nm,nv)) cA;rw [show uD (lI ((eV T).take i)) nm 1=lI ((eV T).take (i+1)) from by rw [jG];exact gY] at rL;simp only [go_sem,simprocAttr,e1];exact ⟨_,by omega,i+1,rfl,by omega,ey.trans ay,rL,by rw [cq,cr],rfl⟩
 ·have ah:¬ i < T.globals.length:=by simpa using ah
  obtain rfl:i=T.globals.length:=by omega
  refine σ ?_;refine gR w2 _ _ ?_ fN ae;rw [cq,← bQ,List.drop_length];rfl
end
end
section
open Go Go.W
theorem MB (a:ByteArray):∀ (n i:Nat) (r:List UInt8),a.size - i=n→ByteArray.toList.loop a i r=r.reverse++a.data.toList.drop i:=by
 have hs:a.data.toList.length=a.size:=by
  show a.data.toList.length=a.data.size;exact Array.length_toList
 intro n
 induction n with
 | zero=>
  intro i r h;rw [ByteArray.toList.loop,if_neg (by omega),List.drop_eq_nil_of_le (by omega),List.append_nil]
 | succ n ih=>
  intro i r h;have hi:i < a.data.toList.length:=by omega
  rw [ByteArray.toList.loop,if_pos (by omega),ih (i+1) _ (by omega),List.drop_eq_getElem_cons hi];have e:a.get! i=a.data.toList[i]:=by
   show a.data[i]! = _;rw [getElem!_pos a.data i (by simpa using hi)];simp
  rw [e];simp
theorem Dm (a:ByteArray):a.toList=a.data.toList:=by
 show ByteArray.toList.loop a 0 []=_;rw [MB a _ 0 [] rfl];rfl
theorem MC {a b:ByteArray} (h:a.toList=b.toList):a=b:=by
 rw [Dm,Dm] at h;cases a;cases b;rename_i x y;have:x=y:=Array.ext' h;rw [this]
theorem GK (a b:ByteArray):(a.toList == b.toList)=decide (a=b):=by
 by_cases h:a=b
 ·subst h;simp
 ·have:a.toList≠b.toList:=fun e=>h (MC e)
  simp [h,this]
theorem ahO {i:Nat} (h:i < 7):i=0∨i=1∨i=2∨i=3∨i=4∨i=5∨i=6:=by omega
theorem Dn:fj.length=7:=rfl
theorem VI {w:World} {b:Nat} (h:w.heap[b]? = some (.cells (fj.flatMap jc).toArray 47 (0,0))) {i:Nat} (hi:i < 7):cB w 2 (.pointer (some ⟨b,i*2,none⟩))=some (.agg #[.string (fj[i]'(by rw [Dn];exact hi)).name,I (fj[i]'(by rw [Dn];exact hi)).fields]):=by
 have hl:(fj.flatMap jc).length=14:=rfl;have:=dK (off:=i*2) (n:=2) h (by rw [hl];omega);rcases ahO hi with rfl | rfl | rfl | rfl | rfl | rfl | rfl<;>exact this
theorem VJ (a b:kz):a=b↔a.name=b.name∧a.fields=b.fields:=by
 constructor
 ·rintro rfl;exact ⟨rfl,rfl⟩
 ·rintro ⟨h1,h2⟩;cases a;cases b;simp_all
section
variable {w:World} {bt bp:Value} {T:bl} {B:Nat→Prop}
theorem ahP (h:dE w bt bp T B) (hT:lg T) {b1 bM bG:Nat} (aq:w.heap[b1]? = some (.cells #[bt,bp] 25 (0,0))) (hG:w.heap[bG]? = some (.cells (fj.flatMap jc).toArray 47 (0,0)))
   {Q:gy} (fU:∀ w',¬ (T.aC.take 7=fj)→Mod (fun _=>False) w w'→Q .ret [(2,I 172)] w')
   (gR:∀ w' t,T.aC.take 7=fj→Mod (fun _=>False) w w'→Q .normal [(1,ptr b1),(3,.map (some bM)),(48,.slice (some ⟨bG,0,none⟩) 7 7),(49,I 7),(50,I 7),(51,t)] w') :
   cD Tryz.prog 117 (.block 2 (.loop KC)) Q [(1,ptr b1),(3,.map (some bM)),(48,.slice (some ⟨bG,0,none⟩) 7 7),(49,I 7),(50,I 0)] w:=by
 obtain ⟨⟨aS,cS,rfl⟩,aG,cG,rfl⟩:=ig h;have yz:=hT.sn;refine φ ?_
 refine dz (fun z ρ w'=>∃ i:Nat,z=7 - i∧i≤7∧Mod (fun _=>False) w w'∧T.aC.take i=fj.take i ∧
  ρ=[(1,ptr b1),(3,.map (some bM)),(48,.slice (some ⟨bG,0,none⟩) 7 7),(49,I 7),(50,I i)]) 7 ⟨0,rfl,by omega,Mod.refl _ _,rfl,rfl⟩ ?_
 rintro z ρ w2 ⟨i,rfl,hi,ae,cq,rfl⟩;unfold KC;refine φ ?_;refine aX rfl (fun ah=>?_) (fun ah=>?_)
 ·have ah:i < 7:=by
   simp only [aK,aL,aM,ak,aN] at ah;omega
  have b0:(0:Int)≤i∧(i:Int) < ((7:Nat):Int):=by omega
  have mD:=VI (ae.at hG (fun h=>h)) ah;have Fz:i < fj.length:=by rw [Dn];exact ah
  generalize GL:fj[i]=gs at *;have hgt:fj.take (i+1)=fj.take i++[gs]:=by rw [List.take_succ_eq_append_getElem Fz,GL]
  have hg7:fj[i]? = some gs:=by rw [List.getElem?_eq_getElem Fz,GL]
  have h2:=h.mod ae (fun _ _ h=>h) (fun _ h=>h);have a7:=ae.at aq (fun h=>h);simp only [go_sem,Nat.reduceAdd,Nat.reduceEqDiff,Nat.reduceLT,Nat.reduceLeDiff,Nat.reduceMul,reduceCtorEq,↓reduceIte,ak,bh,b0,c8,mD];refine de ?_;intro w3 rG ab _;refine cu (cs:=[.string ⟨#[]⟩,I 0]) rfl rfl rG rfl rfl (by simp [Value.oneCell']) ?_;intro w4 aJ aj _;have dm:Mod (fun _=>False) w2 w4:=ab.step aj (fun x U hl=>by subst U;omega);have ey:=ae.trans dm;have kU:=dm.at a7 (fun h=>h);have e1:IntKind.i64.wrap ((i:Int)+1)=((i+1:Nat):Int):=by rw [bU (by omega) (by omega)];omega
  have h4d:=h2.mod dm.drew (fun _ _ h=>h) (fun _ h=>h);have ahQ:w4.drew.heap[w2.heap.size]? = _:=aJ;have pE:=dK (cs:=[_,_]) (off:=0) (n:=2) ahQ (by simp);simp only [go_sem,Nat.reduceAdd,Nat.reduceEqDiff,Nat.reduceLT,Nat.reduceLeDiff,Nat.reduceMul,reduceCtorEq,↓reduceIte,cell_of kU];refine gz (fun ρ w'=>w'=w4.drew∧ρ.get 1=some (ptr b1)∧ρ.get 3=some (.map (some bM))∧ρ.get 48=some (.slice (some ⟨bG,0,none⟩) 7 7)∧ρ.get 49=some (I 7)∧ρ.get 50=some (I i)∧ρ.get 68=some (.bool (decide (T.aC[i]?≠some gs)))) ?_ ?_
  ·by_cases eK:i < T.aC.length
   ·have hge:decide ((i:Int)≥T.aC.length)=false:=decide_eq_false (by omega);obtain ⟨ad,c,e',dI⟩:=Mz h4d eK;cases e';have pD:(0:Int)≤i∧(i:Int) < T.aC.length:=by omega
    simp only [go_sem,Nat.reduceAdd,Nat.reduceEqDiff,Nat.reduceLT,Nat.reduceLeDiff,Nat.reduceMul,reduceCtorEq,↓reduceIte,ak,bh,hge,cell_of kU,pD,dI,pE];rw [GK,cm,List.getElem?_eq_getElem eK]
    congr 1
    by_cases q:T.aC[i]=gs
    ·simp [q]
    ·have:¬ (T.aC[i].name=gs.name∧T.aC[i].fields=gs.fields):=fun hh=>q ((VJ _ _).2 hh)
     rw [← Bool.decide_and,decide_eq_false this];simp [q]
   ·have hge:decide ((i:Int)≥T.aC.length)=true:=decide_eq_true (by omega);simp only [go_sem,Nat.reduceAdd,Nat.reduceEqDiff,Nat.reduceLT,Nat.reduceLeDiff,Nat.reduceMul,reduceCtorEq,↓reduceIte,hge];rw [List.getElem?_eq_none (by omega)];simp
  rintro ρ _ ⟨rfl,r1,r3,r48,r49,r50,r68⟩;simp only [go_sem,Nat.reduceAdd,Nat.reduceEqDiff,Nat.reduceLT,Nat.reduceLeDiff,Nat.reduceMul,reduceCtorEq,↓reduceIte,r1,r3,r48,r49,r50,r68];refine aX rfl (fun fm=>?_) (fun fm=>?_)
  ·simp only [aK,aL,aM,ak,aN] at fm;refine φ ?_;refine fU _ (fun e=>fm ?_) ey.drew;rw [← hg7,← e,List.getElem?_take,if_pos ah]
  ·have ct:T.aC[i]? = some gs:=by simpa using fm
   simp only [go_sem,Nat.reduceAdd,Nat.reduceEqDiff,Nat.reduceLT,Nat.reduceLeDiff,Nat.reduceMul,reduceCtorEq,↓reduceIte,e1];refine ⟨_,by omega,i+1,rfl,by omega,ey.drew,?_,rfl⟩;obtain ⟨eK,hv⟩:=List.getElem?_eq_some_iff.1 ct;rw [hgt,List.take_succ_eq_append_getElem eK,hv,cq]
 ·have ah:¬ i < 7:=by
   simp only [aK,aL,aM,ak,aN] at ah;omega
  obtain rfl:i=7:=by omega
  refine φ ?_;refine gR w2 _ ?_ ae;rw [cq];rfl
theorem VK {l:List Gl} {i:Nat} (h:i < l.length):mI T (l.drop i)=if lF T l[i]=0 then mI T (l.drop (i+1)) else lF T l[i]:=by
 rw [List.drop_eq_getElem_cons h];rfl
theorem ahR (h:dE w bt bp T B) (hT:lg T) (jL:∀ b,B b→b < w.heap.size) (fC:∀ s∈T.aC,0≤s.fields∧s.fields≤8) (kf:∀ g∈T.globals,0≤g.arity∧g.arity≤24) (gh:∀ g∈T.globals,g.code.length≤8000) {b1:Nat} (aq:w.heap[b1]? = some (.cells #[bt,bp] 25 (0,0)))
   {Q:gy} (fU:∀ w' e,e≠0→mI T T.globals=e→Mod (fun _=>False) w w'→Q .ret [(2,I e)] w')
   (gR:∀ w' t,mI T T.globals=0→Mod (fun _=>False) w w'→Q .normal [(1,ptr b1),(104,bp),(105,I T.globals.length),(106,I T.globals.length),(107,t)] w') :
   cD Tryz.prog 117 (.block 6 (.loop KE)) Q [(1,ptr b1),(104,bp),(105,I T.globals.length),(106,I 0)] w:=by
 have h0:=h;obtain ⟨⟨aS,cS,rfl⟩,aG,cG,rfl⟩:=ig h;have yI:=hT.gn;refine σ ?_
 refine dz (fun z ρ w'=>∃ i:Nat,z=T.globals.length - i∧i≤T.globals.length∧Mod (fun _=>False) w w'∧mI T T.globals=mI T (T.globals.drop i) ∧
  ρ=[(1,ptr b1),(104,.slice aG T.globals.length cG),(105,I T.globals.length),(106,I i)]) T.globals.length ⟨0,rfl,by omega,Mod.refl _ _,rfl,rfl⟩ ?_
 rintro z ρ w2 ⟨i,rfl,hi,ae,cq,rfl⟩;unfold KE;refine σ ?_;refine aX rfl (fun ah=>?_) (fun ah=>?_)
 ·have ah:i < T.globals.length:=by simpa using ah
  have h2:=h.mod ae (fun _ _ h=>h) (fun _ h=>h);obtain ⟨ad,c,cv,e',dI,dW⟩:=Df h2 ah;cases e';have wO:=List.getElem_mem ah;have cr:=VK (T:=T) ah;generalize GL:T.globals[i]=g at *;have pD:(0:Int)≤i∧(i:Int) < T.globals.length:=by omega
  unfold mJ at dI;simp only [go_sem,simprocAttr,ak,bh,pD,dI];refine de ?_;intro w3 rG ab _;refine cu (cs:=[.string ⟨#[]⟩,I 0,.slice none 0 0]) rfl rfl rG rfl rfl (by obtain ⟨kD,ii,rfl⟩:=oz dW;simp [Value.oneCell']) ?_;intro w4 aJ aj _;have dm:Mod (fun _=>False) w2 w4:=ab.step aj (fun x U hl=>by subst U;omega);have ey:=ae.trans dm;have kU:=ey.at aq (fun h=>h);have j8:=dK (cs:=[_,_]) (off:=0) (n:=2) kU (by simp);have pE:=dK (cs:=[_,_,_]) (off:=0) (n:=3) aJ (by simp);have e1:IntKind.i64.wrap ((i:Int)+1)=((i+1:Nat):Int):=by rw [bU (by omega) (by omega)];omega
  simp only [go_sem,simprocAttr,j8,pE];refine δ (by rfl) (ahJ (g:=g) (h0.mod ey (fun _ _ h=>h) (fun _ h=>h)) (dW.mod dm (fun _ _ h=>h) (fun _ h=>h)) (fun b hb=>by have:=jL b hb;have:=ey.size;omega) fC (kf g wO) (gh g wO) (hT.xa g wO)) ?_;rintro _ w5 ⟨rfl,ay⟩;have dt:=ey.trans ay;refine σ ?_;refine aX rfl (fun hz=>?_) (fun hz=>?_)
  ·simp only [aK,aL,aM,ak,aN] at hz;refine σ ?_;exact fU _ _ hz (by rw [cq,cr,if_neg hz]) dt
  ·simp only [aK,aL,aM,ak,aN] at hz;simp only [go_sem,simprocAttr,e1];exact ⟨_,by omega,i+1,rfl,by omega,dt,by rw [cq,cr,if_pos hz],rfl⟩
 ·have ah:¬ i < T.globals.length:=by simpa using ah
  obtain rfl:i=T.globals.length:=by omega
  refine σ ?_;refine gR w2 _ ?_ ae;rw [cq,List.drop_length];rfl
theorem ahS (h:dE w bt bp T B) (hT:lg T) (jL:∀ b,B b→b < w.heap.size):aD Tryz.prog 73 [eC bt bp] w fun r w'=>r=I (kZ T)∧Mod (fun _=>False) w w':=by
 have h0:=h;obtain ⟨⟨aS,cS,rfl⟩,aG,cG,rfl⟩:=ig h;refine aes.calls rfl ?_;unfold KF eC;refine σ ?_;refine b8 rfl ?_;intro w1 aq ag cL;have aq:w1.heap[w.heap.size]? = some (.cells #[.slice aS T.aC.length cS,.slice aG T.globals.length cG] 25 (0,0)):=aq;have h1:=h0.mod ag (fun _ _ h=>h) (fun _ h=>h);have j8:=dK (cs:=[_,_]) (off:=0) (n:=2) aq (by simp);simp only [go_sem,simprocAttr,j8];refine δ (by rfl) (ahp h1 hT) ?_;rintro _ w2 ⟨rfl,ae⟩;have aY:=ag.trans ae;have an:=ae.at aq (fun h=>h);refine σ ?_;refine aX rfl (fun hg=>?_) (fun hg=>?_)
 ·refine σ ?_;have e:kZ T=4:=by unfold kZ;rw [if_pos hg]
  rw [e];exact ⟨rfl,aY⟩
 have e0:kZ T=if fi 8 [] (fD T)=false then 172 else if ¬ (T.aC.take 7=fj) then 172 else if fi 24 [] (eV T)=false then 172 else mI T T.globals:=by
  unfold kZ;rw [if_neg (by rw [hg];simp)]
 refine σ ?_;refine Vo ?_;intro w3 lJ ab _;have du:=aY.trans ab;have aE:=ab.at an (fun h=>h);have lB:∀ b,B b→b < w2.heap.size:=fun b hb=>by have:=jL b hb;have:=aY.size;omega
 have lb:=lt_of_heap an;simp only [go_sem,simprocAttr,cell_of aE];refine ahM (b1:=w.heap.size) (bM:=w2.heap.size) (h0.mod du (fun _ _ h=>h) (fun _ h=>h)) hT (fun b hb e=>by have:=lB b hb;omega) lJ ?_ ?_
 ·intro w4 hn aj;refine σ ?_;rw [e0,if_pos hn];exact ⟨rfl,du.step aj (fun x U hl=>by subst U;have:=aY.size;omega)⟩
 intro w4 t4 l4 uI qv aj;rw [if_neg (by rw [uI];simp)] at e0;have ey:=du.step aj (fun x U hl=>by subst U;have:=aY.size;omega);have aJ:=aj.at aE (fun e=>by omega);refine σ ?_;refine δ (by rfl) (aho w4) ?_;rintro _ w5 ⟨rfl,hG5,ay⟩;have dt:=ey.trans ay;have cd:=ay.at aJ (fun h=>h);have rL:=pC qv ay (fun h=>h);refine σ ?_;refine ahP (b1:=w.heap.size) (bM:=w2.heap.size) (bG:=w4.heap.size) (h0.mod dt (fun _ _ h=>h) (fun _ h=>h)) hT cd hG5 ?_ ?_
 ·intro w6 hn aH;refine σ ?_;rw [e0,if_pos hn];exact ⟨rfl,dt.trans aH⟩
 intro w6 t6 pj aH;rw [if_neg (by simpa using pj)] at e0;have gH:=dt.trans aH;have cO:=aH.at cd (fun h=>h);have wP:=pC rL aH (fun h=>h);refine σ ?_;refine ahk (t:=80) (kt:=9) (et:=3) rfl (by rfl) Tryz.underlying80 wP ?_;intro w7 hM7 aZ _;have gI:=gH.step aZ (fun x U hl=>by subst U;have:=aY.size;omega);have cj:=aZ.at cO (fun e=>by omega);simp only [go_sem,simprocAttr,cell_of cj];refine ahN (b1:=w.heap.size) (bM:=w2.heap.size) (h0.mod gI (fun _ _ h=>h) (fun _ h=>h)) hT (fun b hb e=>by have:=lB b hb;omega) hM7 ?_ ?_
 ·intro w8 hn bY;refine σ ?_;rw [e0,if_pos hn];exact ⟨rfl,gI.step bY (fun x U hl=>by subst U;have:=aY.size;omega)⟩
 intro w8 t8 l8 uk hM8 bY;rw [if_neg (by rw [uk];simp)] at e0;have rM:=gI.step bY (fun x U hl=>by subst U;have:=aY.size;omega);have en:=bY.at cj (fun e=>by omega);obtain ⟨s1,_⟩:=AE _ _ uI;obtain ⟨g1,_⟩:=AE _ _ uk;have fC:∀ s∈T.aC,0≤s.fields∧s.fields≤8:=fun s hs=>(s1 (s.name,s.fields) (List.mem_map.2 ⟨s,hs,rfl⟩)).2.2
 have kf:∀ g∈T.globals,0≤g.arity∧g.arity≤24:=fun g hg=>(g1 (g.name,g.arity) (List.mem_map.2 ⟨g,hg,rfl⟩)).2.2
 have gh:∀ g∈T.globals,g.code.length≤8000:=fun g cM=>by
  rw [AI,Bool.or_eq_false_iff,List.any_eq_false] at hg;have:=hg.1 g cM;simp at this;omega
 simp only [go_sem,simprocAttr,cell_of en];refine ahR (b1:=w.heap.size) (h0.mod rM (fun _ _ h=>h) (fun _ h=>h)) hT (fun b hb=>by have:=jL b hb;have:=rM.size;omega) fC kf gh en ?_ ?_
 ·intro w9 e he hn dq;refine σ ?_;rw [e0,hn];exact ⟨rfl,rM.trans dq⟩
 ·intro w9 t hn dq;refine σ ?_;rw [e0,hn];exact ⟨rfl,rM.trans dq⟩
end
end
section
open Go Go.W Go.W.Z
def MD:IR:=z [.e (some 6) (.bx 25 (.t 0)),.e (some 9) (.bx 28 (.t 3))] [1,2,4,5,6,9] <| z [c 21 8 [],m 13 21] [1,2,4,5,6,9,13] <| z [ln 23 3 9,c 25 9 [23,4],ex 26 0 25,ex 27 1 25,.e (some 14) (.al 28 (.agg #[(i 0),(.bool false),(i 0)])),s 3 14 26,m 15 27] [1,2,5,6,13,14,15] <| z [ln 28 2 6,c 29 16 [28],m 16 29] [1,2,5,6,13,14,15,16] <| z [ln 31 2 6,ln 34 3 14,c 36 11 [31,1,2,34,15],ex 37 0 36,ex 38 1 36,.e (some 17) (.al 37 (.agg #[(i 0),(.slice none 0 0),(i 0),(i 0),(i 0),(i 0),(i 0),(.string ⟨#[]⟩)])),s 8 17 37,m 18 38] [1,2,5,6,13,14,15,16,17,18] <| .seq (z [no 40 13] [1,2,5,6,14,15,16,17,18,40] <| j 40 (z [.r (some 12) (.mv (.c (.bool false)))] [12] <| .ret) (.skip)) <| .seq (z [bk 42 .neq 18 0,m' 42 false 44 16,bX 42 false 45 .neq 44 0,u 46 42 45,m' 46 false 48 15,bX 46 false 49 .lss 48 0,u 50 46 49] [1,2,5,6,14,15,16,17,18,50] <| j 50 (z [f 51 1 17,l 52 51,le 53 52,bk 54 .eql 53 0,m' 54 true 56 16,bX 54 true 57 .eql 56 0,m' 54 true 58 57,m' 58 false 59 18,bX 58 false 60 .neq 59 0,.gr 54 true (some 61) (.pk (.t 58) (.c (.bool true)) (.t 60)),a 62 54 61,m 12 62] [12] <| .ret) (.skip)) <| z [ln 64 2 6,ln 67 3 14,bk 70 .and 5 4095,bi 71 .add 15 70,c 72 11 [64,1,2,67,71],ex 73 0 72,ex 74 1 72,.e (some 19) (.al 37 (.agg #[(i 0),(.slice none 0 0),(i 0),(i 0),(i 0),(i 0),(i 0),(.string ⟨#[]⟩)])),s 8 19 73,m 20 74] [5,15,17,19,20] <| .seq (z [bk 76 .neq 20 0] [5,15,17,19,76] <| j 76 (z [bk 79 .and 5 4095,bi 80 .add 15 79,bk 81 .gtr 80 16777216,m 12 81] [12] <| .ret) (.skip)) <| .seq (z [f 82 0 17,l 83 82,bk 84 .neq 83 4] [15,17,19,84] <| j 84 (z [ln 85 8 17,ln 86 8 19,c 87 12 [85,86],m 12 87] [12] <| .ret) (.skip)) <| .seq (z [f 88 1 17,l 89 88,le 90 89,f 91 1 19,l 92 91,le 93 92,bi 94 .gtr 90 93,f' 94 false 96 3 17,l' 94 false 97 96,f' 94 false 98 3 19,l' 94 false 99 98,eW 94 false 100 .gtr 97 99,u 101 94 100,f' 101 false 103 3 17,l' 101 false 104 103,m' 101 false 105 15,eW 101 false 106 .neq 104 105,u 107 101 106] [17,19,107] <| j 107 (z [.r (some 12) (.mv (.c (.bool false)))] [12] <| .ret) (.skip)) <| .seq (q' [f 108 1 17,l 109 108,f 110 1 19,l 111 110,f 112 1 17,l 113 112,le 114 113,.r (some 115) (.sl 2 (.t 111) none (some (.t 114)) none),c 116 15 [109,115],m 12 116] [12]) <| .ret
theorem ahT:Fits Tryz.prog 6 6 (bb Tryz.f6 MD) MD [.t 12] 117:=.m Tryz.f6 _
def ME:IR:=z [] [] <| z [c 6 19 [],.r (some 7) (.bd #[(i 0),(.bool false),(i 0)] [(0,1,(k 100))]),.e (some 8) (.call 11 [(.t 6),(.c (.string ⟨#[109]⟩)),(.c (.slice none 0 0)),(.t 7),(k 1000)]),ex 9 0 8,ex 10 1 8,.e (some 1) (.al 37 (.agg #[(i 0),(.slice none 0 0),(i 0),(i 0),(i 0),(i 0),(i 0),(.string ⟨#[]⟩)])),s 8 1 9,m 2 10] [1,2] <| z [.r (some 12) (.bd #[(.string ⟨#[]⟩),(i 0)] [(1,1,(k 5))]),.e (some 13) (.bs 42 1 #[(.string ⟨#[]⟩),(i 0)] [(0,2,(.t 12))]),.e (some 14) (.call 14 [(.t 13),(.c (.slice none 0 0))]),ex 15 0 14,ex 16 1 14,m 3 15,m 4 16] [1,2,3,4] <| z [bk 18 .eql 2 0,f' 18 true 20 0 1,l' 18 true 21 20,bX 18 true 22 .eql 21 2,a 23 18 22,f' 23 true 25 1 1,l' 23 true 26 25,jF 23 true 27 26,bX 23 true 28 .eql 27 1,a 29 23 28,f' 29 true 31 1 1,l' 29 true 32 31,.gr 29 true (some 33) (.ia 2 (.t 32) (k 0)),xA 29 true 34 2 33,.gr 29 true (some 35) (.bd #[(.string ⟨#[]⟩),(i 0)] [(1,1,(k 7))]),.gr 29 true (some 36) (.oK false [(0,.str),(1,.int)] (.t 34) (.t 35)),a 37 29 36,m' 37 true 39 3,.gr 37 true (some 40) (.bi .eql (.t 39) (.c (.string ⟨#[53]⟩))),a 41 37 40,m' 41 true 43 4,bX 41 true 44 .eql 43 0,a 45 41 44,m 0 45] [0] <| .ret
theorem ahU:Fits Tryz.prog 8 0 (bb Tryz.f8 ME) ME [.t 0] 46:=.m Tryz.f8 _
def MF:IR:=z [.e (some 2) (.bx 28 (.t 0)),.e (some 4) (.al 28 (.agg #[(i 0),(.bool false),(i 0)]))] [1,2,4] <| .seq (z [bk 7 .gtr 1 20000,m' 7 true 9 1,bX 7 true 10 .leq 9 16777216,a 11 7 10] [1,2,4,11] <| j 11 (q [mk 1 20000] [1,2,4]) (.skip)) <| .seq (z [f 12 0 2,l 13 12,bk 14 .gtr 13 20000,f' 14 true 16 0 2,l' 14 true 17 16,bX 14 true 18 .leq 17 1048576,a 19 14 18] [1,2,4,19] <| j 19 (q [f 20 0 2,.e none (.st 1 (.t 20) (k 20000))] [1,2,4]) (.skip)) <| z [ln 21 3 2,s 3 4 21,m 5 1] [4,5] <| .ret
theorem ahV:Fits Tryz.prog 9 2 (bb Tryz.f9 MF) MF [.n 4 3,.t 5] 23:=.m Tryz.f9 _
def MG:IR:=z [.e (some 5) (.bx 25 (.t 0)),.e (some 8) (.bx 28 (.t 3)),.e (some 10) (.al 37 (.agg #[(i 0),(.slice none 0 0),(i 0),(i 0),(i 0),(i 0),(i 0),(.string ⟨#[]⟩)]))] [1,2,4,5,8,10] <| z [ln 15 2 5,ln 18 3 8,c 20 23 [15,1,2,18,4],ex 21 0 20,ex 22 1 20,m 12 21,m 13 22] [4,10,12,13] <| .seq (z [bk 24 .neq 13 0] [4,10,12,13,24] <| j 24 (z [.r (some 25) (.bd #[(i 0),(.slice none 0 0),(i 0),(i 0),(i 0),(i 0),(i 0),(.string ⟨#[]⟩)] []),s 8 10 25,m 11 13] [10,11] <| .ret) (.skip)) <| z [c 29 24 [12,4]] [10,12] <| z [c 31 25 [12],s 8 10 31,mk 11 0] [10,11] <| .ret
theorem ahW:Fits Tryz.prog 11 5 (bb Tryz.f11 MG) MG [.n 10 8,.t 11] 32:=.m Tryz.f11 _
def MH:IR:=z [.e (some 2) (.bx 37 (.t 0)),.e (some 3) (.bx 37 (.t 1))] [2,3] <| z [f 6 1 2,l 7 6,f 8 1 3,l 9 8,c 10 15 [7,9],m 5 10] [2,3,5] <| z [f' 5 true 13 0 2,l' 5 true 14 13,f' 5 true 15 0 3,l' 5 true 16 15,eW 5 true 17 .eql 14 16,a 18 5 17,f' 18 true 20 2 2,l' 18 true 21 20,f' 18 true 22 2 3,l' 18 true 23 22,eW 18 true 24 .eql 21 23,a 25 18 24,f' 25 true 27 3 2,l' 25 true 28 27,f' 25 true 29 3 3,l' 25 true 30 29,eW 25 true 31 .eql 28 30,a 32 25 31,f' 32 true 34 4 2,xA 32 true 35 4 34,f' 32 true 36 4 3,xA 32 true 37 4 36,.gr 32 true (some 38) (.oK false [(0,.int),(1,.int),(2,.int),(3,.str)] (.t 35) (.t 37)),a 39 32 38,m 4 39] [4] <| .ret
theorem ahX:Fits Tryz.prog 12 2 (bb Tryz.f12 MH) MH [.t 4] 40:=.m Tryz.f12 _
def VL:IR:=z [bi 18 .lss 17 16] [0,6,15,16,17,18] <| .seq (j 18 (.skip) ((.exit 0))) <| .seq (.block 1 (z [ia 19 2 15 17,ln 20 2 19,.e (some 8) (.al 47 (.agg #[(.string ⟨#[]⟩),(i 0)])),s 2 8 20] [0,6,8,15,16,17] <| .seq (q' [m 22 6,n 23 22,f 24 2 23,l 25 24,f 26 0 8,l 27 26,.e (some 28) (.raw ⟨(some 28),(.lookup 80 (.tmp 25) (.tmp 27) true),87, "stream.go:221",#[⟨3,.data⟩,⟨5,.data⟩],none⟩),m 21 28,ex 29 0 21,ex 30 1 21,m 9 29,m 10 30] [0,6,8,10,15,16,17]) <| z [no 32 10] [0,6,8,15,16,17,32] <| j 32 (q' [m 33 6,n 34 33,f 35 2 34,l 36 35,f 37 0 8,l 38 37,f 39 1 8,l 40 39,.e none (.raw ⟨none,(.mapUpdate 80 (.tmp 36) (.tmp 38) (.tmp 40)),0, "stream.go:222",#[⟨3,.data⟩,⟨5,.data⟩,⟨7,.data⟩,⟨0,.phase⟩,⟨1,.phase⟩,⟨2,.phase⟩,⟨3,.phase⟩,⟨4,.phase⟩,⟨5,.phase⟩,⟨6,.phase⟩,⟨7,.phase⟩],none⟩)] [0,6,15,16,17]) (.skip))) <| q [bk 41 .add 17 1,m 17 41] [0,6,15,16,17]
def MJ:IR:=z [] [0,1] <| z [m 11 0,.e (some 12) (.raw ⟨(some 12),(.makeMap 80 none),80, "stream.go:219",#[],none⟩),.r (some 13) (.bd #[(.slice none 0 0),(i 0),(.map none),(i 0),(.slice none 0 0),(.pointer none),(.slice none 0 0)] [(0,1,(.t 11)),(2,1,(.t 12))]),.e (some 14) (.bx 86 (.t 13)),m 6 14] [0,1,6] <| .seq (z [m 15 1,le 16 15,mk 17 0] [0,6,15,16,17] <| .block 0 (.loop VL)) <| .seq (z [c 43 30 [6],no 44 43] [0,6,44] <| j 44 (z [.r (some 4) (.mv (.c (.string ⟨#[]⟩))),mk 5 (-1)] [4,5] <| .ret) (.skip)) <| z [c 46 31 [6]] [0,6] <| .seq (z [n 48 6,f 49 1 48,l 50 49,le 52 0,bi 53 .lss 50 52] [6,53] <| j 53 (z [.r (some 4) (.mv (.c (.string ⟨#[]⟩))),mk 5 (-1)] [4,5] <| .ret) (.skip)) <| .seq (.dr (r 0 54 (.mv (.t 6)) <| r 1 55 (.nn (.t 54)) <| r 2 56 (.fa 5 (.t 55)) <| r 4 58 (.mv (.t 6)) <| r 5 59 (.nn (.t 58)) <| r 6 60 (.fa 3 (.t 59)) <| r 7 61 (.l1 (.t 60)) <| .e 3 none (some 57) (.call 32 [(.t 56)]) [7] <| r 8 4 (.mv (.t 57)) <| r 9 5 (.mv (.t 61)) <| .nil) [4,5]) <| .ret
theorem ahY:Fits Tryz.prog 14 2 (bb Tryz.f14 MJ) MJ [.t 4,.t 5] 62:=.m Tryz.f14 _
def VM:IR:=.seq (z [le 13 0,bi 14 .lss 5 13] [0,1,5,14] <| j 14 (.skip) ((.exit 0))) <| .seq (.block 1 (.seq (q' [m 17 0,m 18 5,ia 19 2 17 18,ln 20 2 19,m 21 1,m 22 5,ia 23 2 21 22,ln 24 2 23,.r (some 25) (.oK true [(0,.str),(1,.int)] (.t 20) (.t 24))] [0,1,5,25]) <| j 25 (z [.r (some 4) (.mv (.c (.bool false)))] [4] <| .ret) (.skip))) <| q [bk 16 .add 5 1,m 5 16] [0,1,5]
def MK:IR:=z [] [0,1] <| .seq (z [le 7 0,le 9 1,bi 10 .neq 7 9] [0,1,10] <| j 10 (z [.r (some 4) (.mv (.c (.bool false)))] [4] <| .ret) (.skip)) <| .seq (z [mk 5 0] [0,1,5] <| .block 0 (.loop VM)) <| z [.r (some 4) (.mv (.c (.bool true)))] [4] <| .ret
theorem ahZ:Fits Tryz.prog 15 2 (bb Tryz.f15 MK) MK [.t 4] 26:=.m Tryz.f15 _
def ML:IR:=z [.e (some 0) (.al 25 (.agg #[(.slice none 0 0),(.slice none 0 0)]))] [0] <| z [.r (some 2) (.bd #[(.string ⟨#[]⟩),(i 0)] [(0,1,(.c (.string ⟨#[70,97,108,115,101]⟩)))]),.r (some 3) (.bd #[(.string ⟨#[]⟩),(i 0)] [(0,1,(.c (.string ⟨#[84,114,117,101]⟩)))]),.r (some 4) (.bd #[(.string ⟨#[]⟩),(i 0)] [(0,1,(.c (.string ⟨#[85,110,105,116]⟩)))]),.r (some 5) (.bd #[(.string ⟨#[]⟩),(i 0)] [(0,1,(.c (.string ⟨#[78,105,108]⟩)))]),.r (some 6) (.bd #[(.string ⟨#[]⟩),(i 0)] [(0,1,(.c (.string ⟨#[67,111,110,115]⟩))),(1,1,(k 2))]),.r (some 7) (.bd #[(.string ⟨#[]⟩),(i 0)] [(0,1,(.c (.string ⟨#[80,97,105,114]⟩))),(1,1,(k 2))]),.r (some 8) (.bd #[(.string ⟨#[]⟩),(i 0)] [(0,1,(.c (.string ⟨#[84,114,105,112,108,101]⟩))),(1,1,(k 3))]),.e (some 9) (.bs 47 7 #[(.string ⟨#[]⟩),(i 0),(.string ⟨#[]⟩),(i 0),(.string ⟨#[]⟩),(i 0),(.string ⟨#[]⟩),(i 0),(.string ⟨#[]⟩),(i 0),(.string ⟨#[]⟩),(i 0),(.string ⟨#[]⟩),(i 0)] [(0,2,(.t 2)),(2,2,(.t 3)),(4,2,(.t 4)),(6,2,(.t 5)),(8,2,(.t 6)),(10,2,(.t 7)),(12,2,(.t 8))]),.r (some 10) (.bd #[(.slice none 0 0),(.slice none 0 0)] [(0,1,(.t 9))]),.e (some 1) (.al 25 (.agg #[(.slice none 0 0),(.slice none 0 0)])),s 2 1 10] [0,1] <| z [.r (some 11) (.bd #[(i 0),(i 0),(i 0)] [(0,1,(k 3)),(1,1,(k 7))]),.r (some 12) (.bd #[(i 0),(i 0),(i 0)] [(0,1,(k 7)),(1,1,(k 1))]),.r (some 13) (.bd #[(i 0),(i 0),(i 0)] [(0,1,(k 17))]),.e (some 14) (.bs 61 3 #[(i 0),(i 0),(i 0),(i 0),(i 0),(i 0),(i 0),(i 0),(i 0)] [(0,3,(.t 11)),(3,3,(.t 12)),(6,3,(.t 13))]),.r (some 15) (.bd #[(.string ⟨#[]⟩),(i 0),(.slice none 0 0)] [(0,1,(.c (.string ⟨#[109]⟩))),(2,1,(.t 14))]),.e (some 16) (.bs 59 1 #[(.string ⟨#[]⟩),(i 0),(.slice none 0 0)] [(0,3,(.t 15))]),f 17 1 1,s 1 17 16] [0,1] <| z [ln 18 2 1,s 2 0 18] [0] <| .ret
theorem ah0:Fits Tryz.prog 19 0 (bb Tryz.f19 ML) ML [.n 0 2] 19:=.m Tryz.f19 _
def MM:IR:=z [.e (some 5) (.bx 25 (.t 0)),.e (some 8) (.bx 28 (.t 3))] [1,2,4,5,8] <| .seq (z [le 15 2,bk 16 .gtr 15 10000] [1,2,4,5,8,16] <| j 16 (z [.r (some 10) (.mv (.c (.pointer none))),mk 11 2] [10,11] <| .ret) (.skip)) <| .seq (z [bk 18 .lss 4 0,m' 18 false 20 4,bX 18 false 21 .gtr 20 16777216,u 22 18 21] [1,2,5,8,22] <| j 22 (z [.r (some 10) (.mv (.c (.pointer none))),mk 11 1] [10,11] <| .ret) (.skip)) <| z [ln 24 2 5,ln 27 3 8,c 28 44 [24,1,2,27],ex 29 0 28,ex 30 1 28,m 12 29,m 13 30] [12,13] <| .seq (z [bk 32 .eql 13 220] [12,13,32] <| j 32 (q [mk 13 230] [12,13]) (.skip)) <| z [m 10 12,m 11 13] [10,11] <| .ret
theorem ah1:Fits Tryz.prog 23 5 (bb Tryz.f23 MM) MM [.t 10,.t 11] 35:=.m Tryz.f23 _
def VN:IR:=z [bi 13 .lss 12 11] [0,10,11,12,13] <| .seq (j 13 (.skip) ((.exit 0))) <| .seq (.block 1 (z [ia 14 2 10 12,ln 15 2 14,.e (some 4) (.al 42 (.agg #[(.string ⟨#[]⟩),(i 0)])),s 2 4 15] [0,4,10,11,12] <| .seq (z [f 16 0 4,l 17 16,.r (some 18) (.bi .eql (.t 17) (.c (.string ⟨#[]⟩)))] [0,4,10,11,12,18] <| j 18 (.seq (z [f 19 1 4,l 20 19,bk 21 .lss 20 (-4611686018427387904),f' 21 false 23 1 4,l' 21 false 24 23,bX 21 false 25 .gtr 24 4611686018427387903,u 26 21 25] [0,10,11,12,26] <| j 26 (z [.r (some 2) (.mv (.c (.bool false)))] [2] <| .ret) (.skip)) <| (.exit 1)) (.skip)) <| .seq (q' [m 28 0,n 29 28,f 30 2 29,l 31 30,f 32 0 4,l 33 32,.e (some 34) (.raw ⟨(some 34),(.lookup 80 (.tmp 31) (.tmp 33) true),87, "stream.go:209",#[⟨3,.data⟩,⟨5,.data⟩],none⟩),m 27 34,ex 35 0 27,ex 36 1 27,m 5 35,m 6 36] [0,4,5,6,10,11,12]) <| z [f 37 1 4,l 38 37,bk 39 .neq 38 0,m' 39 false 41 6,zC 39 false 42 41,u 43 39 42,m' 43 false 45 5,bX 43 false 46 .lss 45 0,u 47 43 46,m' 47 false 49 5,bX 47 false 50 .gtr 49 8,u 51 47 50] [0,10,11,12,51] <| j 51 (z [.r (some 2) (.mv (.c (.bool false)))] [2] <| .ret) (.skip))) <| q [bk 52 .add 12 1,m 12 52] [0,10,11,12]
def MN:IR:=z [] [0] <| .seq (z [n 8 0,f 9 0 8,l 10 9,le 11 10,mk 12 0] [0,10,11,12] <| .block 0 (.loop VN)) <| z [.r (some 2) (.mv (.c (.bool true)))] [2] <| .ret
theorem ah2:Fits Tryz.prog 30 1 (bb Tryz.f30 MN) MN [.t 2] 53:=.m Tryz.f30 _
def VO:IR:=.seq (z [n 9 0,f 10 4 9,l 11 10,le 12 11,bk 13 .gtr 12 0] [0,13] <| j 13 (.skip) ((.exit 0))) <| .block 1 (z [n 15 0,f 16 4 15,l 17 16,le 18 17,bk 19 .sub 18 1,m 2 19] [0,2] <| z [n 21 0,f 22 4 21,l 23 22,ia 25 2 23 2,ln 26 2 25,.e (some 3) (.al 122 (.agg #[(i 0),(.string ⟨#[]⟩)])),s 2 3 26] [0,2,3] <| z [n 29 0,f 30 4 29,l 31 30,.r (some 33) (.sl 2 (.t 31) none (some (.t 2)) none),n 34 0,f 35 4 34,s 1 35 33] [0,3] <| z [f 36 0 3,l 37 36] [0,3,37] <| .block 2 (z [bk 44 .eql 37 0,m 43 44] [0,3,37,43] <| j 43 (q' [m 45 0,n 46 45,f 47 5 46,f 48 1 3,l 49 48,c 50 51 [47,49]] [0]) (z [bk 52 .eql 37 3,m 51 52] [0,3,51] <| j 51 (q [c 54 52 [0]] [0]) (q [f 39 0 3,l 40 39,bk 41 .eql 40 2,c 42 53 [0,41]] [0]))))
def MO:IR:=z [.r (some 5) (.bd #[(i 0),(.string ⟨#[]⟩)] [(0,1,(k 1))]),.e (some 6) (.bs 122 1 #[(i 0),(.string ⟨#[]⟩)] [(0,2,(.t 5))]),c 7 50 [0,6]] [0] <| .block 0 (.loop VO)
theorem ah3:Fits Tryz.prog 31 1 (bb Tryz.f31 MO) MO [] 55:=.m Tryz.f31 _
def MP:IR:=z [] [0,1] <| z [c 7 86 [0]] [0,1] <| z [m 8 0,m 9 0,n 10 9,f 11 1 10,l 12 11,m 13 1,.e (some 14) (.raw ⟨(some 14),(.call { callee:=(.builtin .append),args:=#[(.tmp 12),(.tmp 13)],argTypes:=#[74,9]}),74, "builder.go:114",#[⟨4,.data⟩,⟨5,.data⟩],none⟩),n 15 8,f 16 1 15,s 1 16 14] [1] <| z [.r (some 18) (.oJ (.t 1)),m 4 18,.r (some 5) (.mv (.c .nilIface))] [4,5] <| .ret
theorem ah4:Fits Tryz.prog 51 2 (bb Tryz.f51 MP) MP [.t 4,.t 5] 19:=.m Tryz.f51 _
def MQ:IR:=.block 0 (z [.e (some 13) (.call 87 [(.t 0),(.c (.string ⟨#[67,111,110,115]⟩)),(k 2)]),m 11 13] [0,11] <| j 11 (z [n 15 0,f 16 1 15,l 17 16,bk 18 .add 17 1,n 19 0,f 20 1 19,s 1 20 18] [0] <| z [n 22 0,f 23 5 22,.e (some 24) (.call 51 [(.t 23),(.c (.string ⟨#[44,32]⟩))])] [0] <| q [.r (some 26) (.bd #[(i 0),(.string ⟨#[]⟩)] [(0,1,(k 1))]),.r (some 27) (.bd #[(i 0),(.string ⟨#[]⟩)] [(0,1,(k 3))]),.e (some 28) (.bs 122 2 #[(i 0),(.string ⟨#[]⟩),(i 0),(.string ⟨#[]⟩)] [(0,2,(.t 26)),(2,2,(.t 27))]),c 29 50 [0,28]] []) (z [.e (some 32) (.call 87 [(.t 0),(.c (.string ⟨#[78,105,108]⟩)),(k 0)]),m 30 32] [0,30] <| j 30 (z [n 34 0,f 35 1 34,l 36 35,bk 37 .add 36 1,n 38 0,f 39 1 38,s 1 39 37] [0] <| q [n 41 0,f 42 5 41,.e (some 43) (.call 51 [(.t 42),(.c (.string ⟨#[93]⟩))])] []) (z [n 3 0,f 4 5 3,.e (some 5) (.call 51 [(.t 4),(.c (.string ⟨#[32,124,32]⟩))])] [0] <| q [.r (some 7) (.bd #[(i 0),(.string ⟨#[]⟩)] [(0,1,(k 1))]),.r (some 8) (.bd #[(i 0),(.string ⟨#[]⟩)] [(0,1,(k 0)),(1,1,(.c (.string ⟨#[93]⟩)))]),.e (some 9) (.bs 122 2 #[(i 0),(.string ⟨#[]⟩),(i 0),(.string ⟨#[]⟩)] [(0,2,(.t 7)),(2,2,(.t 8))]),c 10 50 [0,9]] [])))
theorem ah5:Fits Tryz.prog 52 1 (bb Tryz.f52 MQ) MQ [] 44:=.m Tryz.f52 _
def MR:IR:=.seq (.seq (q' [m 6 0,n 7 6,f 8 1 7,l 9 8,m 10 0,n 11 10,f 12 0 11,l 13 12,le 14 13,bi 15 .eql 9 14] [0,1,15]) <| j 15 (z [n 17 0,f 18 3 17,l 19 18,bk 20 .add 19 1,n 21 0,f 22 3 21,s 1 22 20] [0] <| z [n 24 0,f 25 5 24,.e (some 26) (.call 51 [(.t 25),(.c (.string ⟨#[95]⟩))])] [] <| .ret) (.skip)) <| .seq (.dr (r 0 27 (.mv (.t 0)) <| r 1 28 (.nn (.t 27)) <| r 2 29 (.fa 0 (.t 28)) <| r 3 30 (.l1 (.t 29)) <| r 4 31 (.mv (.t 0)) <| r 5 32 (.nn (.t 31)) <| r 6 33 (.fa 1 (.t 32)) <| r 7 34 (.l1 (.t 33)) <| r 8 35 (.ia 2 (.t 30) (.t 34)) <| r 9 36 (.ln 2 (.t 35)) <| .e 10 none (some 4) (.al 42 (.agg #[(.string ⟨#[]⟩),(i 0)])) [3,7,9] <| .e 11 none none (.st 2 (.t 4) (.t 36)) [] <| .nil) [0,1,4]) <| .seq (.block 0 (z [f 43 0 4,l 44 43,.r (some 45) (.bi .eql (.t 44) (.c (.string ⟨#[]⟩))),m 42 45] [0,1,4,42] <| j 42 (z [f 46 1 4,l 47 46,c 48 48 [47],m 5 48] [0,1,4,5] <| .seq (z [f' 1 true 51 1 4,l' 1 true 52 51,bX 1 true 53 .lss 52 0,a 54 1 53] [0,5,54] <| j 54 (q [.r (some 56) (.bi .add (.c (.string ⟨#[40]⟩)) (.t 5)),.r (some 57) (.bi .add (.t 56) (.c (.string ⟨#[41]⟩))),m 5 57] [0,5]) (.skip)) <| q [n 59 0,f 60 5 59,c 62 51 [60,5]] [0]) (z [.e (some 65) (.call 87 [(.t 0),(.c (.string ⟨#[78,105,108]⟩)),(k 0)]),m 63 65] [0,1,4,63] <| j 63 (q [n 67 0,f 68 5 67,.e (some 69) (.call 51 [(.t 68),(.c (.string ⟨#[91,93]⟩))])] [0]) (z [.e (some 72) (.call 87 [(.t 0),(.c (.string ⟨#[67,111,110,115]⟩)),(k 2)]),m 70 72] [0,1,4,70] <| j 70 (z [n 74 0,f 75 5 74,.e (some 76) (.call 51 [(.t 75),(.c (.string ⟨#[91]⟩))])] [0] <| q [.r (some 78) (.bd #[(i 0),(.string ⟨#[]⟩)] [(0,1,(k 1))]),.r (some 79) (.bd #[(i 0),(.string ⟨#[]⟩)] [(0,1,(k 3))]),.e (some 80) (.bs 122 2 #[(i 0),(.string ⟨#[]⟩),(i 0),(.string ⟨#[]⟩)] [(0,2,(.t 78)),(2,2,(.t 79))]),c 81 50 [0,80]] [0]) (z [.e (some 84) (.call 87 [(.t 0),(.c (.string ⟨#[85,110,105,116]⟩)),(k 0)]),m 82 84] [0,1,4,82] <| j 82 (q [n 86 0,f 87 5 86,.e (some 88) (.call 51 [(.t 87),(.c (.string ⟨#[40,41]⟩))])] [0]) (.seq (z [.e (some 91) (.call 87 [(.t 0),(.c (.string ⟨#[80,97,105,114]⟩)),(k 2)]),m 89 91] [0,1,4,89] <| j 89 (.skip) (q [.e (some 93) (.call 87 [(.t 0),(.c (.string ⟨#[84,114,105,112,108,101]⟩)),(k 3)]),m 89 93] [0,1,4,89])) <| j 89 (q' [m 94 0,m 95 0,n 96 95,f 97 2 96,l 98 97,f 99 0 4,l 100 99,.e (some 101) (.raw ⟨(some 101),(.lookup 80 (.tmp 98) (.tmp 100) false),3, "stream.go:152",#[⟨4,.data⟩,⟨6,.data⟩],none⟩),c 102 88 [94,101]] [0]) (q [f 38 0 4,l 39 38,c 41 89 [0,39,1]] [0]))))))) <| q [n 104 0,f 105 1 104,l 106 105,bk 107 .add 106 1,n 108 0,f 109 1 108,s 1 109 107] []
theorem ah6:Fits Tryz.prog 53 2 (bb Tryz.f53 MR) MR [] 110:=.m Tryz.f53 _
def MS:IR:=z [] [0] <| .seq (z [.r (some 4) (.eq .slice false (.t 0) (.c (.slice none 0 0)))] [0,4] <| j 4 (z [.r (some 2) (.mv (.c (.slice none 0 0)))] [2] <| .ret) (.skip)) <| z [.e (some 5) (.raw ⟨(some 5),(.buildSlice 22 0 #[]),22, "slices.go:362",#[],none⟩),m 6 0,.e (some 7) (.ap 47 2 24 #[(.string ⟨#[]⟩),(i 0)] (.t 5) (.t 6)),m 2 7] [2] <| .ret
theorem ah7:Fits Tryz.prog 62 1 (bb Tryz.f62 MS) MS [.t 2] 8:=.m Tryz.f62 _
def MT:IR:=z [] [0] <| .seq (z [.r (some 4) (.eq .slice false (.t 0) (.c (.slice none 0 0)))] [0,4] <| j 4 (z [.r (some 2) (.mv (.c (.slice none 0 0)))] [2] <| .ret) (.skip)) <| z [.e (some 5) (.raw ⟨(some 5),(.buildSlice 57 0 #[]),57, "slices.go:362",#[],none⟩),m 6 0,.e (some 7) (.ap 61 3 24 #[(i 0),(i 0),(i 0)] (.t 5) (.t 6)),m 2 7] [2] <| .ret
theorem ah8:Fits Tryz.prog 64 1 (bb Tryz.f64 MT) MT [.t 2] 8:=.m Tryz.f64 _
def MU:IR:=z [.e (some 1) (.bx 81 (.t 0))] [1] <| z [.r (some 3) (.mf (.func 142) [] [(.t 1)]),m 2 3] [2] <| .ret
theorem ah9:Fits Tryz.prog 85 1 (bb Tryz.f85 MU) MU [.t 2] 4:=.m Tryz.f85 _
def MV:IR:=z [] [0,1,2] <| .seq (q' [m 7 0,n 8 7,f 9 1 8,l 10 9,m 11 0,n 12 11,f 13 0 12,l 14 13,le 15 14,bi 16 .lss 10 15,m 17 16,m' 17 true 18 0,n' 17 true 19 18,f' 17 true 20 0 19,l' 17 true 21 20,m' 17 true 22 0,n' 17 true 23 22,f' 17 true 24 1 23,l' 17 true 25 24,mU 17 true 26 2 21 25,f' 17 true 27 0 26,l' 17 true 28 27,m' 17 true 29 1,eW 17 true 30 .eql 28 29,a 31 17 30,m 32 31,m' 32 true 33 0,n' 32 true 34 33,f' 32 true 35 2 34,l' 32 true 36 35,m' 32 true 37 1,m' 32 true 39 2,.ge 32 true (some 38) (.raw ⟨(some 38),(.lookup 80 (.tmp 36) (.tmp 37) false),3, "stream.go:101",#[⟨29,.data⟩,⟨30,.data⟩,⟨25,.guard⟩],some (25,true)⟩),eW 32 true 40 .eql 38 39,a 41 32 40,m 6 41] [6]) <| .ret
theorem ah':Fits Tryz.prog 87 3 (bb Tryz.f87 MV) MV [.t 6] 42:=.m Tryz.f87 _
def VP:IR:=z [bi 14 .lss 13 12] [0,4,12,13,14] <| .seq (j 14 (.skip) ((.exit 0))) <| .seq (.block 1 (q [.r (some 16) (.bd #[(i 0),(.string ⟨#[]⟩)] [(0,1,(k 0)),(1,1,(.c (.string ⟨#[44,32]⟩)))]),.r (some 17) (.bd #[(i 0),(.string ⟨#[]⟩)] [(0,1,(k 1))]),.e (some 18) (.bs 122 2 #[(i 0),(.string ⟨#[]⟩),(i 0),(.string ⟨#[]⟩)] [(0,2,(.t 16)),(2,2,(.t 17))]),.e (some 19) (.ap 122 2 24 #[(i 0),(.string ⟨#[]⟩)] (.t 4) (.t 18)),m 4 19] [0,4,12,13])) <| q [bk 20 .add 13 1,m 13 20] [0,4,12,13]
def MX:IR:=z [n 6 0,f 7 5 6,.e (some 8) (.call 51 [(.t 7),(.c (.string ⟨#[40]⟩))])] [0,1] <| z [.r (some 9) (.bd #[(i 0),(.string ⟨#[]⟩)] [(0,1,(k 1))]),.e (some 10) (.bs 122 1 #[(i 0),(.string ⟨#[]⟩)] [(0,2,(.t 9))]),m 4 10] [0,1,4] <| .seq (z [bk 12 .sub 1 1,mk 13 0] [0,4,12,13] <| .block 0 (.loop VP)) <| q [.r (some 23) (.bd #[(i 0),(.string ⟨#[]⟩)] [(0,1,(k 0)),(1,1,(.c (.string ⟨#[41]⟩)))]),.e (some 24) (.bs 122 1 #[(i 0),(.string ⟨#[]⟩)] [(0,2,(.t 23))]),.e (some 25) (.ap 122 2 24 #[(i 0),(.string ⟨#[]⟩)] (.t 4) (.t 24)),c 26 50 [0,25]] []
theorem aia:Fits Tryz.prog 88 2 (bb Tryz.f88 MX) MX [] 27:=.m Tryz.f88 _
def VQ:IR:=z [bi 16 .lss 15 14] [0,1,2,6,7,14,15,16] <| .seq (j 16 (.skip) ((.exit 0))) <| .seq (.block 1 (q [.r (some 18) (.bd #[(i 0),(.string ⟨#[]⟩)] [(0,1,(k 0)),(1,1,(.c (.string ⟨#[32]⟩)))]),.r (some 19) (.bd #[(i 0),(.string ⟨#[]⟩)] [(0,1,(k 2))]),.e (some 20) (.bs 122 2 #[(i 0),(.string ⟨#[]⟩),(i 0),(.string ⟨#[]⟩)] [(0,2,(.t 18)),(2,2,(.t 19))]),.e (some 21) (.ap 122 2 24 #[(i 0),(.string ⟨#[]⟩)] (.t 7) (.t 20)),m 7 21] [0,1,2,6,7,14,15])) <| q [bk 22 .add 15 1,m 15 22] [0,1,2,6,7,14,15]
def MY:IR:=z [m 8 0,n 9 8,f 10 2 9,l 11 10,m 12 1,.e (some 13) (.raw ⟨(some 13),(.lookup 80 (.tmp 11) (.tmp 12) false),3, "stream.go:187",#[⟨3,.data⟩,⟨4,.data⟩],none⟩),m 6 13] [0,1,2,6] <| z [.r (some 7) (.mv (.c (.slice none 0 0)))] [0,1,2,6,7] <| .seq (z [m 14 6,mk 15 0] [0,1,2,6,7,14,15] <| .block 0 (.loop VQ)) <| .seq (z [m' 2 true 25 6,bX 2 true 26 .gtr 25 0,a 27 2 26] [0,1,7,27] <| j 27 (z [.r (some 29) (.bi .add (.c (.string ⟨#[40]⟩)) (.t 1)),m 1 29] [0,1,7] <| q [.r (some 31) (.bd #[(i 0),(.string ⟨#[]⟩)] [(0,1,(k 0)),(1,1,(.c (.string ⟨#[41]⟩)))]),.e (some 32) (.bs 122 1 #[(i 0),(.string ⟨#[]⟩)] [(0,2,(.t 31))]),.e (some 33) (.ap 122 2 24 #[(i 0),(.string ⟨#[]⟩)] (.t 7) (.t 32)),m 7 33] [0,1,7]) (.skip)) <| z [n 35 0,f 36 5 35,c 38 51 [36,1]] [0,7] <| q [c 41 50 [0,7]] []
theorem aib:Fits Tryz.prog 89 3 (bb Tryz.f89 MY) MY [] 42:=.m Tryz.f89 _
end
section
open Go Go.W
theorem aic:gu Tryz.prog 42=some 2:=by kernel_rfl
theorem aid {w:World} {a:Option Addr} {n c:Nat} {xs:List Value} (hr:iz w a (n*2) xs) (h1:∀ u∈xs,u.oneCell'=true) (hn:a=none→n=0) (hb:n≤4294967296) :
   aD Tryz.prog 66 [.slice a n c] w fun r w'=>∃ fp,ax w' 42 2 r xs n fp∧(∀ b,fp=some b→w.heap.size≤b)∧Mod (fun _=>False) w w':=by
 refine aep.calls rfl ?_;unfold Ky;cases a with
 | none=>
  obtain rfl:=hn rfl;have e:xs=[]:=List.eq_nil_of_length_eq_zero (by have:=hr.1;simpa using this);subst e;simp only [go_sem,simprocAttr,Option.isNone_none];exact ⟨none,ax.nil _ _ _,(fun b hb=>by cases hb),Mod.refl _ _⟩
 | some ad=>
  simp only [go_sem,simprocAttr,Option.isNone_some];refine Em (t:=32) (el:=42) (n:=2) Tryz.underlying32 aic ?_;intro w1 aq ag cL;have gM:ax w1 42 2 (.slice (some ⟨w.heap.size,0,none⟩) 0 0) [] 0 (some w.heap.size):=ax.jQ (xs:=[]) aq (by simp);have jx:iz w1 (some ad) (n*2) xs:=⟨hr.1,fun mR h j v hv=>ag.cell (hr.2 mR h j v hv) (fun h=>h)⟩;refine σ ?_;refine gN (m:=n) (news:=xs) rfl gM rfl (fun h=>by cases h) jx h1 rfl (by omega) (by omega) ?_;intro v2 w2 jH dR ae fQ;obtain ⟨va,vc,rfl,_,_⟩:=dR.val;refine σ ?_;refine ⟨jH,by simpa using dR,fun b hb=>?_,ag.step ae (fun x U ah=>by cases U;omega)⟩;rcases fQ b hb with h | h
  ·cases h;omega
  ·omega
theorem aie:gu Tryz.prog 47=some 2:=by kernel_rfl
theorem aif {w:World} {a:Option Addr} {n c:Nat} {xs:List Value} (hr:iz w a (n*2) xs) (h1:∀ u∈xs,u.oneCell'=true) (hn:a=none→n=0) (hb:n≤4294967296) :
   aD Tryz.prog 62 [.slice a n c] w fun r w'=>∃ fp,ax w' 47 2 r xs n fp∧(∀ b,fp=some b→w.heap.size≤b)∧Mod (fun _=>False) w w':=by
 refine ah7.calls rfl ?_;unfold MS;cases a with
 | none=>
  obtain rfl:=hn rfl;have e:xs=[]:=List.eq_nil_of_length_eq_zero (by have:=hr.1;simpa using this);subst e;simp only [go_sem,simprocAttr,Option.isNone_none];exact ⟨none,ax.nil _ _ _,(fun b hb=>by cases hb),Mod.refl _ _⟩
 | some ad=>
  simp only [go_sem,simprocAttr,Option.isNone_some];refine Em (t:=22) (el:=47) (n:=2) Tryz.underlying22 aie ?_;intro w1 aq ag cL;have gM:ax w1 47 2 (.slice (some ⟨w.heap.size,0,none⟩) 0 0) [] 0 (some w.heap.size):=ax.jQ (xs:=[]) aq (by simp);have jx:iz w1 (some ad) (n*2) xs:=⟨hr.1,fun mR h j v hv=>ag.cell (hr.2 mR h j v hv) (fun h=>h)⟩;refine σ ?_;refine gN (m:=n) (news:=xs) rfl gM rfl (fun h=>by cases h) jx h1 rfl (by omega) (by omega) ?_;intro v2 w2 jH dR ae fQ;obtain ⟨va,vc,rfl,_,_⟩:=dR.val;refine σ ?_;refine ⟨jH,by simpa using dR,fun b hb=>?_,ag.step ae (fun x U ah=>by cases U;omega)⟩;rcases fQ b hb with h | h
  ·cases h;omega
  ·omega
theorem aih:gu Tryz.prog 61=some 3:=by kernel_rfl
theorem aii {w:World} {a:Option Addr} {n c:Nat} {xs:List Value} (hr:iz w a (n*3) xs) (h1:∀ u∈xs,u.oneCell'=true) (hn:a=none→n=0) (hb:n≤4294967296) :
   aD Tryz.prog 64 [.slice a n c] w fun r w'=>∃ fp,ax w' 61 3 r xs n fp∧(∀ b,fp=some b→w.heap.size≤b)∧Mod (fun _=>False) w w':=by
 refine ah8.calls rfl ?_;unfold MT;cases a with
 | none=>
  obtain rfl:=hn rfl;have e:xs=[]:=List.eq_nil_of_length_eq_zero (by have:=hr.1;simpa using this);subst e;simp only [go_sem,simprocAttr,Option.isNone_none];exact ⟨none,ax.nil _ _ _,(fun b hb=>by cases hb),Mod.refl _ _⟩
 | some ad=>
  simp only [go_sem,simprocAttr,Option.isNone_some];refine Em (t:=57) (el:=61) (n:=3) Tryz.underlying57 aih ?_;intro w1 aq ag cL;have gM:ax w1 61 3 (.slice (some ⟨w.heap.size,0,none⟩) 0 0) [] 0 (some w.heap.size):=ax.jQ (xs:=[]) aq (by simp);have jx:iz w1 (some ad) (n*3) xs:=⟨hr.1,fun mR h j v hv=>ag.cell (hr.2 mR h j v hv) (fun h=>h)⟩;refine σ ?_;refine gN (m:=n) (news:=xs) rfl gM rfl (fun h=>by cases h) jx h1 rfl (by omega) (by omega) ?_;intro v2 w2 jH dR ae fQ;obtain ⟨va,vc,rfl,_,_⟩:=dR.val;refine σ ?_;refine ⟨jH,by simpa using dR,fun b hb=>?_,ag.step ae (fun x U ah=>by cases U;omega)⟩;rcases fQ b hb with h | h
  ·cases h;omega
  ·omega
theorem aij {w:World} {v:Value} {xs:List Value} {n:Nat} {fp:Option Nat} (h:ax w 42 2 v xs n fp):aD Tryz.prog 65 [v] w fun r w'=>ax w' 42 2 r xs n fp∧w=w':=by
 obtain ⟨a,c,rfl,hc,_⟩:=h.val;refine aeo.calls rfl ?_;unfold Kx;have b1:(0:Int)≤n∧(n:Int)≤c:=by omega
 have b2:(0:Int)≤n∧(n:Int)≤n:=by omega
 simp only [go_sem,simprocAttr,ak,bh,b1,b2,CA];obtain ⟨h1,h2⟩:=h;refine ⟨h1,?_⟩;rcases h2 with ⟨e,h3,h4⟩ | ⟨b,c',sp,e,h3,h4,h5,h6⟩
 ·cases e;exact .inl ⟨rfl,h3,h4⟩
 ·cases e;exact .inr ⟨b,n,sp,rfl,h3,h4,by rw [List.length_append,h1];omega,Nat.le_refl _⟩
theorem aik (l:List It):∀ u∈l.flatMap fe,u.oneCell'=true:=by
 intro u hu;obtain ⟨x,_,U⟩:=List.mem_flatMap.1 hu;simp only [fe,List.mem_cons,List.not_mem_nil,or_false] at U;rcases U with rfl | rfl<;>rfl
section
variable {w:World} {τ:Tag} {m:Nat} {S:SV} {M:Mc} {ks:List Nat}
def Dp (w w':World) (v:Value) (l:List It):Prop:=∃ fp,ax w' 42 2 v (l.flatMap fe) l.length fp∧∀ b,fp=some b→w.heap.size≤b
theorem VR (h:iw w τ m S M ks) (hl:M.told.length≤4294967296):aD Tryz.prog 41 [ptr m] w fun r w'=>Dp w w' r M.told∧Mod (fun _=>False) w w':=by
 obtain ⟨vG,vF,vW,vT,fg,ff,fw,ft,F,hh⟩:=id h;have hc:=hh.cells;have ht:=hh.tl;obtain ⟨a,c,rfl,_,hn⟩:=ht.val;refine ael.calls rfl ?_;unfold Ku;simp only [go_sem,simprocAttr,cell_of hc,bg,ptr];refine δ (by rfl) (aid ht.rd (aik _) (fun e=>(hn e).1) hl) ?_;rintro v w1 ⟨fp,ho,hf,hm⟩;refine σ ?_;refine δ (by rfl) (aij ho) ?_;rintro r _ ⟨dR,rfl⟩;refine σ ?_;exact ⟨⟨fp,dR,hf⟩,hm⟩
def nL (M:Mc):Int:=if M.ended=0 then 4 else M.ended
def uJ (k:Int) (v:Value) (st n:Int):Value:=.agg #[I k,v,I st,I n,I 0,I 0,I 0,.string ⟨#[]⟩]
theorem ail (h:iw w τ m S M ks) (hl:M.told.length≤4294967296):aD Tryz.prog 25 [ptr m] w fun r w'=>∃ v,r=uJ (nL M) v M.stuck M.steps∧Dp w w' v M.told∧Mod (fun _=>False) w w':=by
 refine aek.calls rfl ?_;unfold Kt;refine σ ?_;refine de ?_;intro w1 aq ag _;have h1:=h.mod ag (eB τ w .no).wx (fun _ _ h=>h.elim);have Ko:=h1.mod (Mod.refl (fun _=>False) w1).drew (dP _ _).wx (fun _ _ h=>h.elim);obtain ⟨vG,vF,vW,vT,fg,ff,fw,ft,F,hh⟩:=id h1;have hc:=hh.cells;have lm:=hh.lt;simp only [go_sem,simprocAttr,cell_of hc,bg,ptr];refine Ej (fun ρ w'=>∃ b v,ρ.get 0=some (ptr m)∧ρ.get 2=some (ptr w.heap.size)∧ρ.get 3=some (ptr b)∧w'.heap[b]? = some (.cells #[I M.ended,v,I M.stuck,I M.steps,I 0,I 0,I 0,.string ⟨#[]⟩] 37 (0,0))∧w1.heap.size≤b∧Dp w1 w' v M.told∧Mod (fun _=>False) w1 w') ?_ ?_
 ·rw [Ei];refine ⟨?_,?_⟩
  ·refine δ (by rfl) (VR Ko hl) ?_;rintro v w2 ⟨⟨fp,ho,hf⟩,ae⟩;have uf:Mod (fun _=>False) w1 w2:=Mod.dj ae;have k2:=ae.old m lm (fun h=>h);obtain ⟨va,vc,rfl,_⟩:=ho.val;refine σ ?_;refine ⟨by simp only [gZ,k2,and_self,implies_true],?_⟩;refine de ?_;intro w3 aE ab _;have k3:=ab.old m (by have:=ae.size;exact Nat.lt_of_lt_of_le lm this) (fun h=>h);refine σ ?_;refine ⟨by simp only [gZ,k3,and_self,implies_true],?_⟩;refine cu (cs:=[I 0,.slice none 0 0,I 0,I 0,I 0,I 0,I 0,.string ⟨#[]⟩]) rfl rfl aE rfl rfl (by simp [Value.oneCell']) ?_;intro w4 aJ aj _;refine σ ?_;have dm:Mod (fun _=>False) w2 w4:=ab.step aj (fun x U hl=>by subst U;omega);exact ⟨w2.heap.size,_,rfl,aJ,uf.size,⟨fp,ho.mod dm (fun _ _ h=>h),hf⟩,uf.trans dm⟩
  ·refine de ?_;intro w3 aE ab _;have k3:=ab.old m lm (fun h=>h);have yK:Mod (fun _=>False) w1 w3:=Mod.dj ab;refine σ ?_;refine ⟨by simp only [gZ,k3,and_self,implies_true],?_⟩;refine δ (by rfl) (VR (h1.mod yK (eB _ w1 .no).wx (fun _ _ h=>h.elim)) hl) ?_;rintro v w2 ⟨⟨fp,ho,hf⟩,ae⟩;have k2:=ae.old m (by have:=ab.size;exact Nat.lt_of_lt_of_le lm this) (fun h=>h);obtain ⟨va,vc,rfl,_⟩:=ho.val;refine σ ?_;refine ⟨by simp only [gZ,k2,and_self,implies_true],?_⟩;have an:=ae.at aE (fun h=>h);have e1:w1.drew.heap.size=w1.heap.size:=rfl;refine cu (cs:=[I 0,.slice none 0 0,I 0,I 0,I 0,I 0,I 0,.string ⟨#[]⟩]) rfl rfl an rfl rfl (by simp [Value.oneCell']) ?_;intro w4 aJ aj _;refine σ ?_;have l3:=lt_of_heap aE;exact ⟨w1.heap.size,_,rfl,aJ,Nat.le_refl _,⟨fp,ho.mod aj (fun b hb e=>by have:=hf b hb;omega),fun b hb=>Nat.le_trans yK.size (hf b hb)⟩,(yK.trans ae).step aj (fun x U hl=>by subst U;omega)⟩
 rintro ρ w2 ⟨b,v,r0,r2,r3,an,lb,⟨fp,ho,hf⟩,ae⟩;have cy:=ae.at hc (fun h=>h);have a7:=ae.at aq (fun h=>h);have l1:=lt_of_heap aq;obtain ⟨va,vc,rfl,_⟩:=ho.val;have aY:=ag.trans ae;have VS:=ag.size;have hE:nL M=if M.ended=0 then 4 else M.ended:=rfl
 simp only [go_sem,simprocAttr,r0,r2,r3,cell_of cy,bg,ptr];refine aX rfl (fun hz=>?_) (fun hz=>?_)
 ·simp only [aK,aL,aM,ak,aN] at hz;rw [if_pos hz] at hE;refine σ ?_;refine bL (off:=0) (cs:=[I M.ended,_,I M.stuck,I M.steps,I 0,I 0,I 0,.string ⟨#[]⟩]) rfl rfl an rfl (by simp) ?_;intro w3 aE ab _;have wM:w3.heap[b]? = some (.cells [I 4,.slice va M.told.length vc,I M.stuck,I M.steps,I 0,I 0,I 0,.string ⟨#[]⟩].toArray 37 (0,0)):=aE;simp only [go_sem,simprocAttr,dK (cs:=[_,_,_,_,_,_,_,_]) (off:=0) (n:=8) wM (by simp)];have eS:=ab.at a7 (fun e=>by omega);refine cu (cs:=[I 0,.slice none 0 0,I 0,I 0,I 0,I 0,I 0,.string ⟨#[]⟩]) rfl rfl eS rfl rfl (by simp [Value.oneCell']) ?_;intro w4 aJ aj _;simp only [go_sem,simprocAttr,dK (cs:=[_,_,_,_,_,_,_,_]) (off:=0) (n:=8) aJ (by simp)];refine ⟨_,by rw [hE];rfl,⟨fp,(ho.mod ab (fun c hc e=>?_)).mod aj (fun c hc e=>?_),fun c hc=>Nat.le_trans VS (hf c hc)⟩,(aY.step ab (fun x U hl=>by subst U;omega)).step aj (fun x U hl=>by subst U;omega)⟩
  ·subst e;exact hP ho hc an (by decide)
  ·subst e;have:=hf _ hc;omega
 ·simp only [aK,aL,aM,ak,aN] at hz;rw [if_neg hz] at hE;simp only [go_sem,simprocAttr,dK (cs:=[_,_,_,_,_,_,_,_]) (off:=0) (n:=8) an (by simp)];refine cu (cs:=[I 0,.slice none 0 0,I 0,I 0,I 0,I 0,I 0,.string ⟨#[]⟩]) rfl rfl a7 rfl rfl (by simp [Value.oneCell']) ?_;intro w4 aJ aj _;simp only [go_sem,simprocAttr,dK (cs:=[_,_,_,_,_,_,_,_]) (off:=0) (n:=8) aJ (by simp)];refine ⟨_,by rw [hE];rfl,⟨fp,ho.mod aj (fun c hc e=>?_),fun c hc=>Nat.le_trans VS (hf c hc)⟩,aY.step aj (fun x U hl=>by subst U;omega)⟩;subst e;have:=hf _ hc;omega
end
end
section
open Go Go.W
def qw (n:Int):Bool:=decide (n ≥ -4611686018427387904∧n≤4611686018427387903)
theorem aim (w:World) (n:Int):aD Tryz.prog 72 [I n] w fun r w'=>r = .bool (qw n)∧w=w':=by
 refine aer.calls rfl ?_;unfold KA qw;cases h1:decide (n ≥ -4611686018427387904)<;>simp only [go_sem,simprocAttr,h1]<;>(simp only [aK,aL,aM,ak,aN] at h1;simp [h1])
theorem ain (w:World) (n:Int):aD Tryz.prog 71 [I n] w fun r w'=>r = .bool (!qw n)∧w=w':=by
 refine aeq.calls rfl ?_;unfold Kz;(try simp only [go_sem,simprocAttr]);refine ao (by rfl) ?_;refine (aim w n).mono ?_;rintro _ _ ⟨rfl,rfl⟩;(try simp only [go_sem,simprocAttr])
theorem aio (w:World) {b:Nat} {e:ByteArray} {T0:Nat} (hb:w.heap[b]? = some (.cells #[.string e] T0 (0,0))) (g:Gl) (a:Option Addr) (n c:Nat):aD Tryz.prog 75 [mJ g (.slice a n c),ptr b] w fun r w'=>r = .bool (decide (g.name=e))∧Mod (fun _=>False) w w':=by
 refine aeu.calls rfl ?_;unfold KH mJ;refine σ ?_;refine b8 rfl ?_;intro w1 aq ag _;have fH:=ag.at hb (fun h=>h);simp only [go_sem,simprocAttr,cell_of aq,cell_of fH,Value.cells,GK];exact ag
def oA (e:ByteArray):List Gl→Nat→Option Nat
 | [],_=>none
 | g::l,i=>if g.name=e then some i else oA e l (i+1)
theorem aip {e:ByteArray} {l:List Gl} {i:Nat} (h:i < l.length):oA e (l.drop i) i=if l[i].name=e then some i else oA e (l.drop (i+1)) (i+1):=by
 rw [List.drop_eq_getElem_cons h];rfl
theorem VT {e:ByteArray}:∀ (l:List Gl) (k:Nat) {j:Nat},oA e l k=some j→k≤j∧j < k+l.length:=by
 intro l
 induction l with
 | nil=>intro k j h;cases h
 | cons g l ih=>
  intro k j h;unfold oA at h
  split at h
  ·cases h;simp
  ·have:=ih (k+1) h;simp only [List.length_cons];omega
def oB (e:ByteArray) (T:bl):Int:=match oA e T.globals 0 with
 | some j=>j
 | none => -1
theorem aiq {w:World} {bt bp:Value} {T:bl} {B:Nat→Prop} (h:dE w bt bp T B) (hT:lg T) {b:Nat} {e:ByteArray} {T0:Nat} (hb:w.heap[b]? = some (.cells #[.string e] T0 (0,0))) :
   aD Tryz.prog 74 [bp,.func (.func 75) #[] #[ptr b]] w fun r w'=>r=I (oB e T)∧Mod (fun _=>False) w w':=by
 have h0:=h;obtain ⟨⟨aS,cS,rfl⟩,aG,cG,rfl⟩:=ig h;have yI:=hT.gn;refine aet.calls rfl ?_;unfold KG;refine σ ?_
 refine dz (fun z ρ w'=>∃ i:Nat,z=T.globals.length - i∧i≤T.globals.length∧Mod (fun _=>False) w w'∧oA e T.globals 0=oA e (T.globals.drop i) i ∧
  ρ=[(0,.slice aG T.globals.length cG),(1,.func (.func 75) #[] #[ptr b]),(7,I T.globals.length),(8,I i)]) T.globals.length ⟨0,rfl,by omega,Mod.refl _ _,rfl,rfl⟩ ?_
 rintro z ρ w2 ⟨i,rfl,hi,ae,cq,rfl⟩;unfold Ty;refine σ ?_;refine aX rfl (fun ah=>?_) (fun ah=>?_)
 ·have ah:i < T.globals.length:=by simpa using ah
  have h2:=h.mod ae (fun _ _ h=>h) (fun _ h=>h);obtain ⟨ad,c,cv,e',dI,dW⟩:=Df h2 ah;cases e';have cr:=aip (e:=e) ah;obtain ⟨kD,ii,rfl⟩:=oz dW;generalize T.globals[i]=g at *;have pD:(0:Int)≤i∧(i:Int) < T.globals.length:=by omega
  have e1:IntKind.i64.wrap ((i:Int)+1)=((i+1:Nat):Int):=by rw [bU (by omega) (by omega)];omega
  unfold mJ at dI;simp only [go_sem,simprocAttr,ak,bh,pD,dI];refine El (f:=75) (cap:=#[ptr b]) rfl rfl rfl rfl rfl ?_;refine (aio w2 (ae.at hb (fun h=>h)) g kD _ ii).mono ?_;rintro _ w3 ⟨rfl,ab⟩;have du:=ae.trans ab;refine σ ?_;refine aX rfl (fun hz=>?_) (fun hz=>?_)
  ·simp only [aK,aL,aM,ak,aN] at hz;refine σ ?_;have:oB e T=i:=by unfold oB;rw [cq,cr,if_pos hz]
   rw [this];exact ⟨rfl,du⟩
  ·simp only [aK,aL,aM,ak,aN] at hz;simp only [go_sem,simprocAttr,e1];exact ⟨_,by omega,i+1,rfl,by omega,du,by rw [cq,cr,if_neg hz],rfl⟩
 ·have ah:¬ i < T.globals.length:=by simpa using ah
  obtain rfl:i=T.globals.length:=by omega
  refine σ ?_;have:oB e T = -1:=by unfold oB;rw [cq,List.drop_length];rfl
  rw [this];exact ⟨rfl,ae⟩
def rN (bj:Bool) (heap:Int):Int:=if bj=true then (if heap.tdiv 8 > 1 then heap.tdiv 8 else 1) else heap
def qx (bj:Bool) (heap:Int):Kd:=if bj=true then .gn (rN true heap) 0 0 else .hp 0
def nM (heap:Int) (bj:Bool) (every:Int):Value:=.agg #[I heap,.bool bj,I every]
theorem air (w:World) {heap:Int} (bj:Bool) (every:Int) (hh:1≤heap∧heap≤1048576) :
   aD Tryz.prog 76 [nM heap bj every] w fun r w'=>∃ sv F,r = .tuple #[sv,I (rN bj heap),I 0]∧gJ w' sv ⟨qx bj heap,heap,[]⟩ F∧Mod (fun _=>False) w w'∧∀ b,F b→w.heap.size≤b:=by
 refine aev.calls rfl ?_;unfold KJ nM;refine σ ?_;refine b8 rfl ?_;intro w1 aq ag _;have s1:=ag.size;cases bj with
 | true=>
  have e1:IntKind.i64.wrap (heap.tdiv 8)=heap.tdiv 8:=by
   have:=Int.tdiv_nonneg (a:=heap) (b:=8) (by omega) (by omega);have:heap.tdiv 8≤heap:=by rw [Int.tdiv_eq_ediv_of_nonneg (by omega)];omega
   exact bU (by omega) (by omega)
  have hy:rN true heap=if heap.tdiv 8 > 1 then heap.tdiv 8 else 1:=rfl
  have DY:1≤rN true heap∧rN true heap≤heap:=by
   rw [hy];have:heap.tdiv 8≤heap:=by rw [Int.tdiv_eq_ediv_of_nonneg (by omega)];omega
   split<;>omega
  simp only [go_sem,simprocAttr,cell_of aq,Value.cells,show ((8:Int)=0)=False from eq_false (by decide),e1,← hy];refine δ (by rfl) (ab8 heap (rN true heap) w1) ?_;rintro r w2 ⟨k1,_⟩;obtain ⟨a,F,rfl,hG,ae,hF⟩:=k1 ⟨by omega,by omega,DY.1,DY.2⟩;refine σ ?_;refine ⟨_,F,rfl,⟨a,rfl,hG⟩,ag.trans ae,fun b hb=>Nat.le_trans s1 (hF b hb)⟩
 | false=>
  simp only [go_sem,simprocAttr,cell_of aq,Value.cells];refine δ (by rfl) (aaT heap w1) ?_;rintro r w2 ⟨k1,_⟩;obtain ⟨rfl,hA,ae,_⟩:=k1 ⟨by omega,by omega⟩;have a7:=ae.at aq (fun h=>h);simp only [go_sem,simprocAttr,cell_of a7,Value.cells];refine ⟨_,(· = w1.heap.size),rfl,⟨_,rfl,hA.mod (Mod.refl (fun _=>False) w2).drew (fun _ _ h=>h)⟩,(ag.trans ae).drew,fun b hb=>by subst hb;exact s1⟩
theorem Dq {sz:Nat}:∀ (rows:List (List Value)),(∀ r∈rows,r.length=sz)→∀ (i:Nat) (h:i < rows.length) (k:Nat),k < sz→(rows.flatMap id)[i*sz+k]? = (rows[i]'h)[k]?:=by
 intro rows
 induction rows with
 | nil=>intro _ i h;simp at h
 | cons r rows ih=>
  intro hr i h k hk;have h0:=hr r (by simp);simp only [List.flatMap_cons,id];cases i with
  | zero=>rw [List.getElem?_append_left (by omega)];simp
  | succ i=>
   rw [List.getElem?_append_right (by rw [h0,Nat.add_mul];omega),h0];have e:(i+1)*sz+k - sz=i*sz+k:=by rw [Nat.add_mul];omega
   rw [e];exact ih (fun r sf=>hr r (by simp [sf])) i (by simpa using h) k hk
theorem sR {w:World} {T sz:Nat} {v:Value} {rows:List (List Value)} {fp:Option Nat} (h:ax w T sz v (rows.flatMap id) rows.length fp) (hr:∀ r∈rows,r.length=sz):dB w v sz rows (fun b=>fp=some b):=by
 obtain ⟨h1,⟨rfl,h2,rfl⟩ | ⟨b,c,sp,rfl,rfl,h3,_⟩⟩:=h
 ·refine ⟨none,0,by rw [h2],(fun _ ad e=>by cases e),fun i hi=>?_⟩;omega
 ·refine ⟨some ⟨b,0,none⟩,c,rfl,(fun _ ad e=>by cases e;rfl),fun i hi=>⟨_,rfl,hr _ (List.getElem_mem hi),fun k hk=>?_⟩⟩;have hl:=hr _ (List.getElem_mem hi);have hf:=Dq rows hr i hi k (by omega);rw [List.getElem?_eq_getElem hk] at hf;have ah:i*sz+k < (rows.flatMap id).length:=(List.getElem?_eq_some_iff.1 hf).1;rw [c8,c8,cell_of h3];simp only [Nat.zero_add,List.getElem?_toArray];rw [List.getElem?_append_left ah];exact hf
theorem ais (w:World):aD Tryz.prog 78 [] w fun r w'=>∃ b,(w.heap.size≤b∧b < w'.heap.size)∧dB w' r 2 lC (· = b)∧Mod (fun _=>False) w w':=by
 refine aex.calls rfl ?_;unfold KL;refine σ ?_;refine dL (by rfl) (by rfl) ?_;intro w1 aq ag _;refine σ ?_;have gQ:w1.heap[w.heap.size]? = some (.cells (lC.flatMap id).toArray 177 (0,0)):=aq;have ho:ax w1 177 2 (.slice (some ⟨w.heap.size,0,none⟩) 18 18) (lC.flatMap id) lC.length (some w.heap.size):=ax.jQ (xs:=lC.flatMap id) gQ rfl;have h2:∀ r∈lC,r.length=2:=by
  intro r hr;simp only [lC,List.mem_cons,List.not_mem_nil,or_false] at hr;rcases hr with rfl | rfl | rfl | rfl | rfl | rfl | rfl | rfl | rfl | rfl | rfl | rfl | rfl | rfl | rfl | rfl | rfl | rfl<;>rfl
 obtain ⟨a,c,e,hB,U⟩:=sR ho h2;exact ⟨w.heap.size,⟨Nat.le_refl _,lt_of_heap gQ⟩,⟨a,c,e,(fun h0 ad ef=>(Option.some.inj (hB h0 ad ef)).symm),U⟩,ag⟩
end
section
open Go Go.W Go.ChangeShapes Go.WideShapes Go.ChangeAt Go.RowKit Go.Deep
theorem Tryz.ait:Tryz.prog.cellsOf 25=2:=by kernel_rfl
theorem Tryz.aiu:Tryz.prog.cellsOf 28=3:=by kernel_rfl
theorem Tryz.aiv:Tryz.prog.cellsOf 22=1:=by kernel_rfl
theorem Tryz.aiw:Tryz.prog.cellsOf 23=1:=by kernel_rfl
theorem Tryz.aix:Tryz.prog.cellsOf 57=1:=by kernel_rfl
theorem Tryz.VU:Tryz.prog.cellsOf 47=2:=by kernel_rfl
theorem Tryz.VV:Tryz.prog.cellsOf 59=3:=by kernel_rfl
theorem Tryz.VW:Tryz.prog.cellsOf 61=3:=by kernel_rfl
theorem Tryz.VX:Tryz.prog.cellsOf 9=1:=by kernel_rfl
theorem Tryz.Dr:Tryz.prog.cellsOf 3=1:=by kernel_rfl
theorem Tryz.aiy:Tryz.prog.cellsOf 4=1:=by kernel_rfl
theorem Tryz.aiz:Tryz.prog.bytesOf 47=24:=by kernel_rfl
theorem Tryz.aiA:Tryz.prog.bytesOf 59=48:=by kernel_rfl
theorem Tryz.aiB:Tryz.prog.bytesOf 61=24:=by kernel_rfl
theorem Tryz.aiC:Tryz.prog.bytesOf 3=8:=by kernel_rfl
theorem Tryz.own:ownKnob Tryz.prog.godebug=none:=by kernel_rfl
theorem Tryz.laidOut:laidOutB Tryz.prog=true:=by kernel_rfl
theorem uK {p:Nat→Bool} {l m:List Nat} (h:(l++m).all p=true):l.all p=true∧m.all p=true:=by
 simpa using h
section
variable {H:Type} {enc:TypeId×Value→H} {P:Program}
theorem VY {w:World} {a:Addr} {v:Value} (h:w.cell? a=some v):a.block < w.heap.size:=by
 unfold World.cell? at h;cases hb:w.heap[a.block]? with
 | none=>rw [hb] at h;cases h
 | some o=>exact lt_of_heap hb
theorem MZ {α:Type} [Inhabited α] {t e:TypeId} {k bytes n:Nat} (AO:α→List Value) (M5:α→Prop) (μ:α→Nat) {w:World} {base:Nat} {held:Bool} {cs:List Value} {x:DataW H×List MemPlace}
   (ht:P.underlying t=some (.slice e)) (hk:P.cellsOf e=k) (zq:P.bytesOf e=bytes) (hlen:∀ a,(AO a).length=k) (qf:0 < k)
   (each:∀ n cs y,DataW.trod enc P w base (fun _=>true) held n e cs=some y→(y.1.weights P e).all (·≤reachBytes)=true→∃ o,cs=AO o∧M5 o∧μ o≤Rows.uptoBulk y.1)
   (h:DataW.trod enc P w base (fun _=>true) held n t cs=some x) (hw:(x.1.weights P t).all (·≤reachBytes)=true) :
   ∃ (v:Value) (os:List α),cs=[v]∧dB w v k (os.map AO) (· < w.heap.size)∧(∀ o∈os,M5 o)∧os.length*bytes≤reachBytes∧(os.map μ).sum+1≤Rows.uptoBulk x.1:=by
 rcases open_slice ht h with ⟨rfl,rfl⟩ | ⟨a,len,cap,m,k',D,Pl,rfl,_,hl,_,hm,rfl,tI⟩
 ·exact ⟨_,[],rfl,⟨none,0,rfl,(fun _ ad e=>by cases e),fun i hi=>absurd hi (by simp)⟩,(fun o ho=>by cases ho),by simp,by simp [Rows.uptoBulk]⟩
 ·simp only [if_true] at hm;subst hm;simp only [DataW.weights,ht,zq,List.length_map,List.length_range,List.all_cons,Bool.and_eq_true,decide_eq_true_eq] at hw;obtain ⟨oP,q0⟩:=hw;obtain ⟨q0,_⟩:=uK q0;have all:∀ i,i < len→∃ o:α,(∀ j,j < k→w.cell? ((a.add (i*k)).add j)=(AO o)[j]?)∧M5 o∧μ o≤Rows.uptoBulk (D i):=by
   intro i hi;obtain ⟨cs,h3,h4⟩:=tI i (by omega);have zO:((D i).weights P e).all (·≤reachBytes)=true:=by
    have key:∀ (l:List (DataW H)) d,d∈l→(DataW.weightsAll P e l).all (·≤reachBytes)=true→(d.weights P e).all (·≤reachBytes)=true:=by
     intro l
     induction l with
     | nil=>intro d hd;cases hd
     | cons y l ih=>
      intro d hd hh;rw [DataW.weightsAll] at hh;obtain ⟨z1,z2⟩:=uK hh;rcases List.mem_cons.1 hd with rfl | hd
      ·exact z1
      ·exact ih d hd z2
    exact key _ _ (List.mem_map.2 ⟨i,List.mem_range.2 hi,rfl⟩) q0
   obtain ⟨o,rfl,ho,GM⟩:=each _ _ _ h4 zO;obtain ⟨_,_,h5⟩:=World.cells?_some h3;rw [hk] at h5;exact ⟨o,fun j hj=>h5 j hj,ho,GM⟩
  obtain ⟨f,hf⟩:=choose_lt (α:=α) (h:=all);refine ⟨_,(List.range len).map f,rfl,⟨some a,m,by simp,fun h0 ad e=>?_,?_⟩,?_,by simpa using Nat.le_trans (Nat.mul_le_mul_right _ (by omega)) oP,?_⟩
  ·cases e;have LQ:0 < len:=by simpa using h0
   have hc:=(hf 0 LQ).1 0 qf;have e1:(AO (f 0))[0]? = some ((AO (f 0))[0]'(by rw [hlen];exact qf)):=List.getElem?_eq_getElem _;rw [e1] at hc;simp only [Nat.zero_mul,add_zero'] at hc;exact VY hc
  ·intro i hi;have bS:i < len:=by simpa using hi
   refine ⟨a,rfl,by simp [hlen],fun j hj=>?_⟩;have:=(hf i bS).1 j (by simpa [hlen] using hj);rw [this];simp only [List.getElem_map,List.getElem_range];exact List.getElem?_eq_getElem _
  ·intro o ho;obtain ⟨i,hi,rfl⟩:=List.mem_map.1 ho;exact (hf i (List.mem_range.1 hi)).2.1
  ·have key:∀ l:List Nat,(∀ i∈l,i < len)→((l.map f).map μ).sum≤Rows.uptoBulkAll (l.map D):=by
    intro l
    induction l with
    | nil=>intro _;simp [Rows.uptoBulkAll]
    | cons i l ih=>
     intro hl;have h1:=(hf i (hl i (by simp))).2.2;have h2:=ih (fun j hj=>hl j (by simp [hj]));simp only [List.map_cons,List.sum_cons,Rows.uptoBulkAll];omega
   have:=key (List.range len) (fun i hi=>List.mem_range.1 hi);show _+1≤Rows.uptoBulkAll _+Rows.uptoBulkAll _+1;omega
instance:Inhabited Ins:=⟨⟨0,0,0⟩⟩
instance:Inhabited kz:=⟨⟨⟨#[]⟩,0⟩⟩
structure yL where
 g:Gl
 v:Value
instance:Inhabited yL:=⟨⟨⟨⟨#[]⟩,0,[]⟩,.slice none 0 0⟩⟩
def yL.row (o:yL):List Value:=[.string o.g.name,I o.g.arity,o.v]
theorem M7:reachBytes=140737488351232:=by decide
theorem aiD {n:Int} (h:(Lit.int .i64 n).wf=true):n≤9223372036854775807:=by
 have e:IntKind.max .i64=9223372036854775807:=by decide
 simp only [Lit.wf,Bool.and_eq_true,decide_eq_true_eq] at h;rw [e] at h;exact h.2
variable {w:World} {base:Nat} {held:Bool}
theorem aiE (n:Nat) (cs:List Value) (y:DataW H×List MemPlace) (h:DataW.trod enc Tryz.prog w base (fun _=>true) held n 61 cs=some y) (hw:(y.1.weights Tryz.prog 61).all (·≤reachBytes)=true) :
   ∃ x:Ins,cs=jb x∧x.a≤9223372036854775807∧1≤Rows.uptoBulk y.1:=by
 obtain ⟨xs,m,rfl,rfl,hl,uL,hf⟩:=DataW.trod_struct Tryz.underlying61 h;rw [Tryz.VW] at hl
 match cs,hl,xs,uL with
 | [c0,c1,c2],_,[x0,x1,x2],_=>
 have f0:=hf 0 _ rfl;have f1:=hf 1 _ rfl;have f2:=hf 2 _ rfl;simp only [Tryz.Dr,List.drop_zero,List.drop_succ_cons,List.take_succ_cons,List.take_zero,List.getElem?_cons_zero,List.getElem?_cons_succ] at f0 f1 f2;obtain ⟨i0,e0,rfl,_⟩:=DataW.trod_int Tryz.underlying3 f0;obtain ⟨i1,e1,rfl,w1⟩:=DataW.trod_int Tryz.underlying3 f1;obtain ⟨i2,e2,rfl,_⟩:=DataW.trod_int Tryz.underlying3 f2;cases e0;cases e1;cases e2;exact ⟨⟨i0,i1,i2⟩,rfl,aiD w1,Nat.le_add_left 1 _⟩
theorem M8 {n:Nat} {c:Value} {y:DataW H×List MemPlace} (h:DataW.trod enc Tryz.prog w base (fun _=>true) held n 9 [c]=some y) (hw:(y.1.weights Tryz.prog 9).all (·≤reachBytes)=true) :
   ∃ s:ByteArray,c = .string s∧s.size≤140737488351232∧s.size+1=Rows.uptoBulk y.1:=by
 obtain ⟨s,e,rfl,_⟩:=DataW.trod_string Tryz.underlying9 h;cases e;have h1:s.data.toList.length=s.size:=Array.length_toList;refine ⟨s,rfl,?_,by simp only [Rows.uptoBulk];omega⟩;simp only [DataW.weights,List.all_cons,Bool.and_eq_true,decide_eq_true_eq,M7] at hw;omega
theorem aiF (n:Nat) (cs:List Value) (y:DataW H×List MemPlace) (h:DataW.trod enc Tryz.prog w base (fun _=>true) held n 47 cs=some y) (hw:(y.1.weights Tryz.prog 47).all (·≤reachBytes)=true) :
   ∃ x:kz,cs=jc x∧x.name.size≤140737488351232∧x.name.size+1≤Rows.uptoBulk y.1:=by
 obtain ⟨xs,m,rfl,rfl,hl,uL,hf⟩:=DataW.trod_struct Tryz.underlying47 h;rw [Tryz.VU] at hl
 match cs,hl,xs,uL with
 | [c0,c1],_,[x0,x1],_=>
 have f0:=hf 0 _ rfl;have f1:=hf 1 _ rfl;simp only [Tryz.Dr,Tryz.VX,List.drop_zero,List.drop_succ_cons,List.take_succ_cons,List.take_zero,List.getElem?_cons_zero,List.getElem?_cons_succ] at f0 f1;simp only [DataW.weights,Tryz.underlying47,List.map_cons,List.map_nil,DataW.weightsEach] at hw;obtain ⟨Aj,_⟩:=uK hw;obtain ⟨s,rfl,hs,hb⟩:=M8 f0 Aj;obtain ⟨i1,e1,rfl,_⟩:=DataW.trod_int Tryz.underlying3 f1;cases e1;refine ⟨⟨s,i1⟩,rfl,hs,?_⟩;simp only [Rows.uptoBulk,Rows.uptoBulkAll,List.map_cons,List.map_nil,← hb];omega
theorem aiG (n:Nat) (cs:List Value) (y:DataW H×List MemPlace) (h:DataW.trod enc Tryz.prog w base (fun _=>true) held n 59 cs=some y) (hw:(y.1.weights Tryz.prog 59).all (·≤reachBytes)=true) :
   ∃ x:yL,cs=x.row∧(dB w x.v 3 (x.g.code.map jb) (· < w.heap.size)∧(∀ i∈x.g.code,i.a≤9223372036854775807)∧x.g.name.size≤140737488351232∧x.g.code.length≤17592186044416)∧x.g.name.size+x.g.code.length+1≤Rows.uptoBulk y.1:=by
 obtain ⟨xs,m,rfl,rfl,hl,uL,hf⟩:=DataW.trod_struct Tryz.underlying59 h;rw [Tryz.VV] at hl
 match cs,hl,xs,uL with
 | [c0,c1,c2],_,[x0,x1,x2],_=>
 have f0:=hf 0 _ rfl;have f1:=hf 1 _ rfl;have f2:=hf 2 _ rfl;simp only [Tryz.Dr,Tryz.VX,Tryz.aix,List.drop_zero,List.drop_succ_cons,List.take_succ_cons,List.take_zero,List.getElem?_cons_zero,List.getElem?_cons_succ] at f0 f1 f2;simp only [DataW.weights,Tryz.underlying59,List.map_cons,List.map_nil,DataW.weightsEach] at hw;obtain ⟨Aj,hw⟩:=uK hw;obtain ⟨_,hw⟩:=uK hw;obtain ⟨q0,_⟩:=uK hw;obtain ⟨s,rfl,hs,hb⟩:=M8 f0 Aj;obtain ⟨i1,e1,rfl,_⟩:=DataW.trod_int Tryz.underlying3 f1;obtain ⟨v,os,e2,hr,ho,hlen,GM⟩:=MZ jb (fun x=>x.a≤9223372036854775807) (fun _=>1) Tryz.underlying57 Tryz.VW Tryz.aiB (fun _=>rfl) (by decide) (aiE (H:=H)) f2 q0;cases e1;cases e2;rw [M7] at hlen;have h1:(os.map fun _=>1).sum=os.length:=by
  clear GM hlen ho hr
  induction os with
  | nil=>rfl
  | cons a l ih=>simp only [List.map_cons,List.sum_cons,List.length_cons,ih];omega
 rw [h1] at GM;refine ⟨⟨⟨s,i1,os⟩,c2⟩,rfl,⟨hr,ho,hs,by show os.length≤_;omega⟩,?_⟩;show s.size+os.length+1≤_;simp only [Rows.uptoBulk,Rows.uptoBulkAll,List.map_cons,List.map_nil,← hb];omega
def bl.M9 (T:bl):Nat:=(T.aC.map fun s=>s.name.size+1).sum+(T.globals.map fun g=>g.name.size+g.code.length+1).sum
theorem aiH {n:Nat} {cs:List Value} {y:DataW H×List MemPlace} (h:DataW.trod enc Tryz.prog w base (fun _=>true) held n 25 cs=some y) (hw:(y.1.weights Tryz.prog 25).all (·≤reachBytes)=true) :
   ∃ bt bp T,cs=[bt,bp]∧dE w bt bp T (· < w.heap.size)∧lg T∧T.M9≤Rows.uptoBulk y.1:=by
 obtain ⟨xs,m,rfl,rfl,hl,uL,hf⟩:=DataW.trod_struct Tryz.underlying25 h;rw [Tryz.ait] at hl
 match cs,hl,xs,uL with
 | [c0,c1],_,[x0,x1],_=>
 have f0:=hf 0 _ rfl;have f1:=hf 1 _ rfl;simp only [Tryz.aiv,Tryz.aiw,List.drop_zero,List.drop_succ_cons,List.take_succ_cons,List.take_zero,List.getElem?_cons_zero,List.getElem?_cons_succ] at f0 f1;simp only [DataW.weights,Tryz.underlying25,List.map_cons,List.map_nil,DataW.weightsEach] at hw;obtain ⟨Aj,hw⟩:=uK hw;obtain ⟨oP,_⟩:=uK hw;obtain ⟨v0,ss,e0,hr0,ho0,CS,aoi⟩:=MZ jc (fun x=>x.name.size≤140737488351232) (fun x=>x.name.size+1) Tryz.underlying22 Tryz.VU Tryz.aiz (fun _=>rfl) (by decide) (aiF (H:=H)) f0 Aj;obtain ⟨v1,gs,e1,jx,gM,aiI,aoj⟩:=MZ yL.row (fun x=>dB w x.v 3 (x.g.code.map jb) (· < w.heap.size)∧(∀ i∈x.g.code,i.a≤9223372036854775807)∧x.g.name.size≤140737488351232∧x.g.code.length≤17592186044416) (fun x=>x.g.name.size+x.g.code.length+1) Tryz.underlying23 Tryz.VV Tryz.aiA (fun _=>rfl) (by decide) (aiG (H:=H)) f1 oP;cases e0;cases e1;rw [M7] at CS aiI;have hz:∀ l:List yL,List.zipWith (fun (g:Gl) (v:Value)=>[.string g.name,I g.arity,v]) (l.map (·.g)) (l.map (·.v))=l.map yL.row:=by
  intro l
  induction l with
  | nil=>rfl
  | cons a l ih=>simp only [List.map_cons,List.zipWith_cons_cons,ih];rfl
 refine ⟨c0,c1,⟨ss,gs.map (·.g)⟩,rfl,⟨hr0,gs.map (·.v),by simp,?_,?_⟩,⟨by simp;omega,by show ss.length≤_;omega,?_,?_,?_,?_⟩,?_⟩
 ·rw [hz];exact jx
 ·intro i g v hg hv;rw [List.getElem?_map] at hg hv;cases ho:gs[i]? with
  | none=>rw [ho] at hg;cases hg
  | some o=>
   rw [ho] at hg hv;cases hg;cases hv;exact (gM o (List.mem_of_getElem? ho)).1
 ·intro g hg;obtain ⟨o,ho,rfl⟩:=List.mem_map.1 hg;exact (gM o ho).2.2.2
 ·intro g hg;obtain ⟨o,ho,rfl⟩:=List.mem_map.1 hg;have:=(gM o ho).2.2.1;omega
 ·intro s hs;have:=ho0 s hs;omega
 ·intro g hg;obtain ⟨o,ho,rfl⟩:=List.mem_map.1 hg;exact (gM o ho).2.1
 ·simp only [Rows.uptoBulk,Rows.uptoBulkAll,List.map_cons,List.map_nil,bl.M9,List.map_map];have e:(gs.map ((fun g:Gl=>g.name.size+g.code.length+1) ∘ fun x=>x.g)).sum=(gs.map fun x=>x.g.name.size+x.g.code.length+1).sum:=rfl;rw [e];omega
theorem aiJ {n:Nat} {cs:List Value} {y:DataW H×List MemPlace} (h:DataW.trod enc Tryz.prog w base (fun _=>true) held n 28 cs=some y):∃ heap bj every,cs=[I heap,.bool bj,I every]:=by
 obtain ⟨xs,m,rfl,rfl,hl,uL,hf⟩:=DataW.trod_struct Tryz.underlying28 h;rw [Tryz.aiu] at hl
 match cs,hl,xs,uL with
 | [c0,c1,c2],_,[x0,x1,x2],_=>
 have f0:=hf 0 _ rfl;have f1:=hf 1 _ rfl;have f2:=hf 2 _ rfl;simp only [Tryz.Dr,Tryz.aiy,List.drop_zero,List.drop_succ_cons,List.take_succ_cons,List.take_zero,List.getElem?_cons_zero,List.getElem?_cons_succ] at f0 f1 f2;obtain ⟨i0,e0,rfl,_⟩:=DataW.trod_int Tryz.underlying3 f0;obtain ⟨i1,e1,rfl⟩:=DataW.trod_bool Tryz.underlying4 f1;obtain ⟨i2,e2,rfl,_⟩:=DataW.trod_int Tryz.underlying3 f2;cases e0;cases e1;cases e2;exact ⟨i0,i1,i2,rfl⟩
end
end
end Go.Proofs.YtnjobkbblhaliaaGreatDoor
namespace Go.W
section
open Go
structure VZ (P:Program) (N:Nat) (ia ib:IR) (Kp:World→World→Prop) (len:Nat) (dF:Nat→Value) (p1 p2:Nat) (ρ:Env) (B:Nat) (I:List Nat→World→Prop) (A:Nat→Env→World→Prop) (w:World):Prop where
 zero:I [] w
 quiet:∀ s,Quiet B (I s)
 aiK:∀ j bz,Quiet B (A j bz)
 lay:∀ (pre:List Nat) (j:Nat) (W:World),I pre W→j < len →
  cD P N ia (fun e bz W'=>match e with | .normal=>KeepsFrom B W W'∧Kp W W'∧I pre W'∧A j bz W' | _=>False) ((p2,dF j)::ρ) W
 body:∀ (pre:List Nat) (j:Nat) (bz:Env) (W:World),I pre W→A j bz W→pre.length < len→j < len →
  cD P N ib (fun e _ W'=>match e with | .normal=>KeepsFrom B W W'∧Kp W W'∧I (pre++[j]) W' | _=>False) bz W
theorem aiL {n:Nat} {P:Program} {N:Nat} {dl:List Deferred} {x p1 p2:Nat} {sa bd:Code} {ia ib:IR} {H H':List (Nat×List Nat×List Nat)} (lu:eF P N H' sa=some ia) (aiM:calm sa=true) (aiN:ki ia=true) (oR:eF P N H bd=some ib) (BD:calm bd=true) (BE:ki ib=true)
   {gf:Nat} {lb:Array Value} {len:Nat} {dF:Nat→Value} {Kp:World→World→Prop} {ρ:Env} {a:Act} {w:World} {Q:Exit→Act→World→Prop} (hg:Good dl N ρ a) (U:ρ.get x=some (.func (.func gf) #[] lb))
   (eg:∀ args w,(callFunc gf args).run P w = .ok (.enter gf args) w)
   (oS:SeqStopsK Fence.wide (n - 1) P gf lb (fun y : { j:Nat // j < len}=>#[.int .i64 (y.1:Int),dF y.1]) Kp (fun ys=>ys.map Subtype.val=eH len len) (fun _=>True) len w)
   (hp:p1≠p2∧p1 < N∧p2 < N) (BF:ρ.get p1=none∧ρ.get p2=none) (hn:1≤n)
   (qP:∀ {A B C:World},Kp A B→Kp B C→Kp A C) (qQ:∀ (W:World) (l:Nat) (o o':Obj),w.heap.size≤l→W.heap[l]? = some o→o.isCells=false→o.isWalk=false→Kp W (W.putObj l o'))
   (I:List Nat→World→Prop) (A:Nat→Env→World→Prop) (hI:VZ P N ia ib Kp len dF p1 p2 ρ w.heap.size I A w)
   (done:∀ (D:Nat) (W:World),w.heap.size≤D→I (eH len len) W→W.heap[D]? = some (.deferred (some []))→∀ a',Good ({ target:=.collected D,args:=#[]}::dl) N ρ a'→Q .normal a' W) :
   (Code.rangeFunc (.tmp x) #[p1,p2] sa bd).wp P Q a w:=by
 obtain ⟨ZU,sg,iE⟩:=hp;obtain ⟨si,fQ⟩:=BF;have h0:Good [] N ρ { tmps:=a.tmps,defers:=[]}:=⟨hg.size,rfl,hg.get⟩;have tD:a.eval (.tmp x) = .func (.func gf) #[] lb:=hg.agree (.tmp x) _ U;refine (wpIn_wide (n:=n)).1 ?_;refine wpIn_rangeFunc_ownH (α:={ j:Nat // j < len}) rfl hn tD trivial eg oS qP qQ (Go.RowKit.Below.refl _ _) (fun _=>rfl) (fun xs W=>I (xs.map Subtype.val) W) (fun _ _ _=>False)
  (Iw (fun s=>hI.quiet _)) (fun c=>fun s W W' row h=>h.elim) hI.zero
  (fun y a' W=>∃ bz,Good [] N bz a'∧A y.1 bz W) (fun y a'=>fun _ W W' row hs hg hr=>by
   obtain ⟨bz,h1,h2⟩:=hs
   exact ⟨bz,h1,hI.aiK _ _ W W' (fun b=>row=some b) h2 ⟨hg.size,fun b hb hn=>hg.block b hb (fun e=>hn e.symm),hg.os,hg.tape,hg.output⟩ (fun b hb=>hr b hb)⟩) ?_ ?_ ?_ ?_
 ·intro l pre y W K hi hK;have e:((#[p1,p2].zip #[Value.int .i64 (y.1:Int),dF y.1]).foldl (fun t (p,v)=>t.setIfInBounds p v) a.tmps)=((({ tmps:=a.tmps,defers:=[]}:Act).put (some p1) (.int .i64 (y.1:Int))).put (some p2) (dF y.1)).tmps:=by simp [Act.put]
  rw [e];have hG:Good [] N ((p2,dF y.1)::ρ) ((({ tmps:=a.tmps,defers:=[]}:Act).put (some p1) (.int .i64 (y.1:Int))).put (some p2) (dF y.1)):=
   (BC h0 _ si sg).put (some p2) _ (fun t ht=>by cases ht;exact iE)
  refine wpIn_mono (Ep sa ia _ _ _ _ lu aiM aiN (hI.lay _ y.1 W hi y.2) hG) ?_;rintro e a' w' ⟨bz,cM,hq⟩;cases e with
  | normal=>exact hK a' w' hq.1 hq.2.1 hq.2.2.1 ⟨bz,cM,hq.2.2.2⟩
  | _=>exact hq.elim
 ·rintro l pre y a' W _ _ hi ⟨bz,hG,hA⟩ hlen;refine wpIn_mono (Ep bd ib _ _ _ _ oR BD BE (hI.body _ y.1 bz W hi hA (by simpa using hlen) y.2) hG) ?_;rintro e a' w' ⟨aok,_,hq⟩;cases e with
  | normal=>
   obtain ⟨q1,q2,q3⟩:=hq;exact ⟨q1,q2,by show I ((pre++[y]).map Subtype.val) w';rw [List.map_append];exact q3⟩
  | _=>exact hq.elim
 ·intro D xs W hD hS hi hh;have hS:xs.map Subtype.val=eH len len:=hS;have hi:I (xs.map Subtype.val) W:=hi;rw [hS] at hi;exact done D W hD hi hh _ ⟨hg.size,by simp [hg.defers],hg.get⟩
 ·intro D c pre W _ _ hh;exact hh.elim
structure Na (P:Program) (f lx:Nat) (H:List (Nat×List Nat×List Nat)) (i0 i1 ia ib:IR) (x p1 p2 N:Nat):Prop where
 go:∃ fn c0 c1 id sa bd,P.funcs[f]? = some fn∧fn.body=some (.seq c0 (.seq c1 (.block id (.rangeFunc (.tmp x) #[p1,p2] sa bd))))∧fn.ntmps=N∧lx≤N∧fn.results = #[] ∧
  eF P N H c0=some i0∧eF P N H c1=some i1∧eF P N H sa=some ia∧calm sa=true∧ki ia=true∧eF P N H bd=some ib∧calm bd=true∧ki ib=true∧p1≠p2∧p1 < N∧p2 < N
structure aiO (P:Program) (N:Nat) (ia ib:IR) (x p1 p2:Nat) (ρ:Env) (w:World) (n len gf:Nat) (lb:Array Value) (dF:Nat→Value) (Kp:World→World→Prop) (I:List Nat→World→Prop) (A:Nat→Env→World→Prop):Prop where
 U:ρ.get x=some (.func (.func gf) #[] lb)
 eg:∀ args w,(callFunc gf args).run P w = .ok (.enter gf args) w
 oS:SeqStopsK Fence.wide (n - 1) P gf lb (fun y : { j:Nat // j < len}=>#[.int .i64 (y.1:Int),dF y.1]) Kp (fun ys=>ys.map Subtype.val=eH len len) (fun _=>True) len w
 fresh:ρ.get p1=none∧ρ.get p2=none
 hn:1≤n
 qP:∀ {A B C:World},Kp A B→Kp B C→Kp A C
 qQ:∀ (W:World) (l:Nat) (o o':Obj),w.heap.size≤l→W.heap[l]? = some o→o.isCells=false→o.isWalk=false→Kp W (W.putObj l o')
 hI:VZ P N ia ib Kp len dF p1 p2 ρ w.heap.size I A w
theorem Na.calls {P:Program} {f lx:Nat} {H:List (Nat×List Nat×List Nat)} {i0 i1 ia ib:IR} {x p1 p2 N:Nat} (h:Na P f lx H i0 i1 ia ib x p1 p2 N) {args:List Value} (hn:args.length=lx) {w:World} {R:Value→World→Prop}
   (hw:cD P N i0 (fun e ρ w=>e = .normal∧cD P N i1 (fun e ρ w=>e = .normal∧∃ n len gf lb dF Kp I A,aiO P N ia ib x p1 p2 ρ w n len gf lb dF Kp I A ∧
    ∀ (D:Nat) (W W':World),w.heap.size≤D→I (eH len len) W→Mod (· = D) W W'→W.heap[D]? = some (.deferred (some []))→R (.tuple #[]) W') ρ w) (qN 0 args) w):aD P f args w R:=by
 obtain ⟨fn,c0,c1,id,sa,bd,hf,hb,hN,hle,hr,kY,dk,lu,ca,ka,oR,cb,kb,hp⟩:=h.go;unfold aD;refine callsIn_wide.1 (callsIn_of_wp_marks (n:=0) hf hb trivial ?_);have hg:Good ([].map zz) N (qN 0 args) { tmps:=args.toArray++Array.replicate (fn.ntmps - args.toArray.size) undef,defers:=[]}:=by
  refine ⟨?_,rfl,?_⟩
  ·simp only [Array.size_append,List.size_toArray,Array.size_replicate];omega
  ·intro t v ht;obtain ⟨_,h2⟩:=Im args 0 t v ht;have ah:t < args.length:=by
    rcases Nat.lt_or_ge t args.length with h | h
    ·exact h
    ·simp [List.getElem?_eq_none h] at h2
   simp only [Nat.sub_zero] at h2;rw [Array.getElem?_append_left (by simpa using ah)]
   simpa using h2
 refine (wpIn_wide (n:=0)).2 ?_;refine wp_seq (wp_mono (Ef c0 i0 _ _ _ w kY hw hg) ?_);rintro e a1 w1 ⟨ρ1,oq,rfl,oP⟩;refine wp_seq (wp_mono (Ef c1 i1 _ _ _ w1 dk oP oq) ?_);rintro e a2 w2 ⟨zm,kN,rfl,n,len,gf,lb,dF,Kp,I,A,hF,hd⟩;refine wp_block ?_;refine aiL lu ca ka oR cb kb kN hF.U hF.eg hF.oS hp hF.fresh hF.hn hF.qP hF.qQ I A hF.hI ?_;intro D W hD hI hh a' ha';show LeavesInM Fence.wide 0 P fn a'.tmps _ a'.defers .returning W;rw [ha'.defers];refine IC [D] W (fun D' zB=>by obtain rfl:=List.mem_singleton.1 zB;exact hh) (List.nodup_cons.2 ⟨(by simp),List.nodup_nil⟩) ?_;intro W' hm hs;refine ⟨.tuple #[],?_,_,rfl,hd D W W' hD hI (hm.aB (fun b hb=>List.mem_singleton.1 hb)) hh⟩;have h1:rZ P fn.results.toList=some []:=by rw [hr];rfl
 refine kI ?_;unfold results;rw [cY,Array.mapM_eq_mapM_toList,DR];have:=Ii (P:=P) ha' fn.results.toList [] [] h1 rfl (w:=W');refine Eq.trans (congrArg (fun o:Option (List Value)=>(o.map List.toArray).bind fun vs=>ro P W' (pure (if h:vs.size=1 then vs[0] else .tuple vs):Sem Value)) this) ?_;simp [fZ]
end
end Go.W
namespace Go.Proofs.YtnjobkbblhaliaaGreatDoor
section
open Go Go.RowKit Go.Shelf
attribute [local go_sem] Oper.semAt_some
set_option maxRecDepth 100000 in
set_option maxHeartbeats 2000000 in
theorem aiP (F:Fence) (n:Nat) (h7:F.fn 142) (pu:F.round=none) (hn:1≤n) (l Bs b off len cap:Nat) (e1 e2:Nat→Value) (vV:len*16≤140737488351232) (J Jx:List Nat→World→Prop)
   (hY:∀ pre j W,J pre W→pre.length < len→j < len→YieldAt F (n - 1) Tryz.prog l #[.int .i64 (j:Int),.agg #[e1 j,e2 j]] W fun e W'=>
    (e = .returned (.bool true)∧J (pre++[j]) W'∧rE Bs b W W')∨(e = .returned (.bool false)∧Jx (pre++[j]) W'))
   (W:World) (uu:W.cell? ⟨Bs,0,none⟩=some (.slice (some ⟨b,off,none⟩) len cap)) (hc:∀ j,j < len→W.cell? ⟨b,off+j*2,none⟩=some (e1 j)∧W.cell? ⟨b,off+j*2+1,none⟩=some (e2 j)) (h0:J [] W) :
   CallsIn F n Tryz.prog 142 #[.func (.yield l) #[] #[],.pointer (some ⟨Bs,0,none⟩)] W fun e W'=>(∃ v,e = .returned v) ∧
    ((∃ ys,ys=eH len len∧J ys W')∨(∃ pre,(∃ k,k≤len∧pre=eH len k)∧Jx pre W')):=by
 refine callsIn_of_wp Tryz.func142 rfl h7 ?_ pu;simp only [Tryz.ntmps142,List.size_toArray,List.length_cons,List.length_nil,Nat.reduceAdd,Nat.reduceSub,Array.replicate_succ,Array.replicate_zero,List.push_toArray,List.append_toArray,List.nil_append,List.cons_append];have CS:(IntKind.i64.wrap ((len:Int) - 1))=(len:Int) - 1:=by rw [IntKind.wrap_i64];omega
 gi_wp2
 gi_loopw [3] (fun i wr=>∃ k:Nat,k≤len∧i = .int .i64 ((len:Int) - 1 - k)∧J (eH len k) wr∧rE Bs b W wr)
  (fun i _=>(intOf i+1).toNat)
 case atStart=>exact ⟨0,Nat.zero_le _,by simp,h0,rfl,rfl⟩
 case round=>
  obtain ⟨k,hk,rfl,uv,fJ⟩:=hrel;have af9:wr.cell? ⟨Bs,0,none⟩=some (.slice (some ⟨b,off,none⟩) len cap):=(CR fJ).2.trans uu;by_cases ah:k < len
  ·obtain ⟨j,hj,iX⟩:∃ j:Nat,(len:Int) - 1 - k=(j:Int)∧len - 1 - k=j:=⟨len - 1 - k,by omega,rfl⟩;have Au:j < len:=by omega
   have hcx:wr.cell? ⟨b,off+j*2,none⟩=some (e1 j):=(CR fJ).1.trans (hc j Au).1;have hcy:wr.cell? ⟨b,off+j*2+1,none⟩=some (e2 j):=(CR fJ).1.trans (hc j Au).2;obtain ⟨fn,tmps,assign,body,hy,hR⟩:=hY _ j wr uv (by rw [Iv];exact ah) Au;have hj1:IntKind.i64.wrap ((j:Int) - 1)=(j:Int) - 1:=by rw [IntKind.wrap_i64];omega
   rw [hj]
   gi_wp2
   refine hR.mono ?_;rintro e W3 (⟨rfl,LN,lD⟩ | ⟨rfl,LO⟩)
   ·gi_wp2
    go_roundw
    case rel=>exact ⟨k+1,by omega,by rw [show (len:Int) - 1 - ((k+1:Nat):Int)=(j:Int) - 1 by omega],by rw [BB,iX];exact LN,lD.1.trans fJ.1,lD.2.trans fJ.2⟩
    case measure=>simp [intOf]
   ·gi_wp2
    refine bodyPost_ret (results_none rfl _ _ _) rfl ?_;exact ⟨⟨_,rfl⟩,.inr ⟨_,⟨k+1,by omega,by rw [BB,iX]⟩,LO⟩⟩
  ·obtain rfl:k=len:=by omega
   have h0:decide (0≤(k:Int) - 1 - k)=false:=by simp;omega
   gi_wp2
   go_end0
   exact ⟨⟨_,rfl⟩,.inl ⟨_,rfl,uv⟩⟩
set_option maxRecDepth 100000 in
set_option maxHeartbeats 1000000 in
theorem aiQ (F:Fence) (n:Nat) (h7:F.fn 142) (pu:F.round=none) (l Bs:Nat) (J:List Nat→World→Prop) (W:World) (uu:W.cell? ⟨Bs,0,none⟩=some (.slice none 0 0)) (h0:J [] W) :
   CallsIn F n Tryz.prog 142 #[.func (.yield l) #[] #[],.pointer (some ⟨Bs,0,none⟩)] W fun e W'=>(∃ v,e = .returned v)∧J [] W':=by
 refine callsIn_of_wp Tryz.func142 rfl h7 ?_ pu;simp only [Tryz.ntmps142,List.size_toArray,List.length_cons,List.length_nil,Nat.reduceAdd,Nat.reduceSub,Array.replicate_succ,Array.replicate_zero,List.push_toArray,List.append_toArray,List.nil_append,List.cons_append]
 gi_wp2
 gi_loopw [3] (fun i wr=>i = .int .i64 (-1)∧J [] wr) (fun _ _=>0)
 case atStart=>exact ⟨rfl,h0⟩
 case round=>
  obtain ⟨rfl,uv⟩:=hrel
  gi_wp2
  go_end0
  exact ⟨⟨_,rfl⟩,uv⟩
theorem aiR (F:Fence) (n:Nat) (h7:F.fn 142) (pu:F.round=none) (hn:1≤n) (Bs b len:Nat) (sv:Value) (e1 e2:Nat→Value) (w:World) (uu:w.cell? ⟨Bs,0,none⟩=some sv) (jL:Bs < w.heap.size)
   (hs:(sv = .slice none 0 0∧len=0)∨(b < w.heap.size∧∃ cap,sv = .slice (some ⟨b,0,none⟩) len cap∧∀ j,j < len→w.cell? ⟨b,j*2,none⟩=some (e1 j)∧w.cell? ⟨b,j*2+1,none⟩=some (e2 j))) (vV:len*16≤140737488351232) :
   SeqStopsK F n Tryz.prog 142 #[.pointer (some ⟨Bs,0,none⟩)] (fun x : { j:Nat // j < len}=>#[.int .i64 (x.1:Int),.agg #[e1 x.1,e2 x.1]]) (rE Bs b) (fun ys=>ys.map Subtype.val=eH len len) (fun _=>True) len w:=by
 intro l J Jx W hW _ _ hY h0;have bE:=(hW.cell (p:=⟨Bs,0,none⟩) jL).trans uu;rcases hs with ⟨rfl,rfl⟩ | ⟨hb,cap,rfl,hc⟩
 ·refine (aiQ F n h7 pu l Bs (fun ns W=>∃ xs,xs.map Subtype.val=ns∧J xs W) W bE ⟨[],rfl,h0⟩).mono ?_;rintro e W' ⟨he,xs,U,hj⟩;exact ⟨he,.inl ⟨xs,U.trans rfl,hj⟩⟩
 ·refine (aiP F n h7 pu hn l Bs b 0 len cap e1 e2 vV (fun ns W=>∃ xs,xs.map Subtype.val=ns∧J xs W) (fun ns W=>∃ xs,xs.map Subtype.val=ns∧Jx xs W) ?_ W bE ?_ ⟨[],rfl,h0⟩).mono ?_
  ·rintro pre j W1 ⟨xs,rfl,hj⟩ hl iX;obtain ⟨fn,tmps,assign,body,h1,h2⟩:=hY xs ⟨j,iX⟩ W1 hj (by simpa using hl);refine ⟨fn,tmps,assign,body,h1,h2.mono ?_⟩;rintro e W' (⟨rfl,k1,k2⟩ | ⟨rfl,k1⟩)
   ·exact .inl ⟨rfl,⟨xs++[⟨j,iX⟩],by simp,k1⟩,k2⟩
   ·exact .inr ⟨rfl,xs++[⟨j,iX⟩],by simp,k1⟩
  ·intro j hj;rw [Nat.zero_add];exact ⟨(hW.cell (p:=⟨b,j*2,none⟩) hb).trans (hc j hj).1,(hW.cell (p:=⟨b,j*2+1,none⟩) hb).trans (hc j hj).2⟩
  ·rintro e W' ⟨he,⟨ys,rfl,xs,U,hj⟩ | ⟨pre,_,xs,U,hj⟩⟩
   ·exact ⟨he,.inl ⟨xs,U,hj⟩⟩
   ·exact ⟨he,.inr ⟨xs,trivial,hj⟩⟩
end
section
open Go Go.RowKit Go.Shelf
set_option maxHeartbeats 1000000 in
set_option maxRecDepth 100000 in
theorem aiS (b:Nat) (w:World) (h0:w.cell? ⟨b,5,none⟩=some (.pointer (some ⟨b,5,none⟩))) :
   Calls Tryz.prog 86 #[.pointer (some ⟨b,5,none⟩)] w fun e w'=>e = .returned (.tuple #[])∧w'=w:=by
 obtain ⟨j,hj,_⟩:∃ j,Tryz.prog.info? 84=some j∧j.size=2:=⟨_,rfl,rfl⟩
 go_enter Tryz.func86,Tryz.ntmps86
 go_wp2
 rw [Lib.run_neq_ptr_same w _ Tryz.underlying82 hj]
 go_wp2
 go_end0
 exact ⟨rfl,rfl⟩
set_option maxHeartbeats 1000000 in
set_option maxRecDepth 100000 in
theorem aiT (b:Nat) (w:World) (h0:w.cell? ⟨b,5,none⟩=some (.pointer none)) (fC:w.shape? b=some (86,7)) (hfz:w.frozen? ⟨b,5,none⟩=false) :
   Calls Tryz.prog 86 #[.pointer (some ⟨b,5,none⟩)] w fun e w'=>e = .returned (.tuple #[])∧w'=w.setCell ⟨b,5,none⟩ (.pointer (some ⟨b,5,none⟩)):=by
 obtain ⟨j,hj,hjs⟩:∃ j,Tryz.prog.info? 84=some j∧j.size=2:=⟨_,rfl,rfl⟩
 go_enter Tryz.func86,Tryz.ntmps86
 go_wp2
 rw [Lib.run_to_unsafe w ⟨b,5,none⟩ Tryz.underlying82 Tryz.underlying189 hj (by rw [hjs];decide) fC (show 5 < 7 by decide)];simp only [Result.andThen];rw [Oper.upon_value]
 go_wp2
 rw [run_callFunc_extern Tryz.func143 (by kernel_rfl) (by kernel_rfl) (by kernel_rfl) (e:=Extern.AbiNoEscape.same) (by kernel_rfl)];rw [Lib.run_noEscape];simp only [Result.andThen];rw [Oper.upon_value]
 go_wp2
 rw [Lib.run_from_unsafe w ⟨b,5,none⟩ Tryz.underlying189 Tryz.underlying82 hj fC (by kernel_rfl)];simp only [Result.andThen];rw [Oper.upon_value]
 go_wp2
 go_end0
 exact ⟨rfl,rfl⟩
end
end Go.Proofs.YtnjobkbblhaliaaGreatDoor
section
namespace Go.Proofs.YtnjobkbblhaliaaGreatDoor
open Go Go.RowKit Go.Shelf
set_option maxHeartbeats 1000000 in
theorem aiU (b g cap:Nat) (cur:Array Value) (l:List UInt8) (w:World) (hb:w.cell? ⟨b,6,none⟩=some (.slice (some ⟨g,0,none⟩) l.length cap)) (hg:w.heap[g]? = some (.cells cur 5 (0,0))) (hnc:l.length≤cap) (wq:l.length≤140737488355328) (iT:l.length≤cur.size)
   (hc:∀ j x,l[j]? = some x→w.cell? ((⟨g,0,none⟩:Addr).add j)=some (.int .u8 x.toNat)) (h0:l≠[]) :
   Calls Tryz.prog 32 #[.pointer (some ⟨b,5,none⟩)] w fun e w'=>e = .returned (.string ⟨l.toArray⟩)∧w'=w.drew.freeze ⟨g,0,none⟩ l.length:=by
 have R9:l.length≠0:=by simpa using h0
 have c1:w.drew.cell? ⟨b,6,none⟩=some (.slice (some ⟨g,0,none⟩) l.length cap):=hb;have hSD:(Builtin.unsafeSliceData_ #[74] 128 #[.slice (some ⟨g,0,none⟩) l.length cap]).run Tryz.prog w.drew = .ok (.pointer (some ⟨g,0,none⟩)) w.drew:=
  Lib.run_unsafeSliceData_row _ _ _ _ _ _ (by omega)
 have hUS:(Builtin.unsafeString_ #[128,3] 9 #[.pointer (some ⟨g,0,none⟩),.int .i64 l.length]).run Tryz.prog w.drew = .ok (.string ⟨l.toArray⟩) (w.drew.freeze ⟨g,0,none⟩ l.length):=
  Lib.run_unsafeString_row w.drew 128 3 9 5 Tryz.underlying128 (by kernel_rfl) g cur.size (by have cM:w.drew.heap[g]? = some (.cells cur 5 (0,0)):=hg;simp [World.shape?,cM]) l h0 iT (by omega) hc
 have mixed:Tryz.prog.follows Departure.mixedOrders=true:=by kernel_rfl
 go_enter Tryz.func32,Tryz.ntmps32
 go_wp2
 go_region_o
 all_goals (go_wp2;go_ret;exact ⟨rfl,rfl⟩)
end Go.Proofs.YtnjobkbblhaliaaGreatDoor
namespace Go.W
open Go
section
variable {P:Program} {w:World} {ρ:Env} {K:Value→World→Prop} {d:Option Nat} {ty:TypeId} {pos:String} {af:Array Edge}
theorem aiV {t u e:TypeId} {i:TypeInfo} {sl x:Operand} {v:Value} {xs:List Value} {n:Nat} {fp:Option Nat} {s:ByteArray} (hs:(bf sl).ev ρ=some v) (ho:ax w e 1 v xs n fp) (U:(bf x).ev ρ=some (.string s))
   (ht:P.underlying t=some (.slice e)) (hu:P.underlying u=some .string) (hi:P.info? e=some i) (hz:i.zero=some (.int .u8 0)) (dy:i.size=1) (zq:i.bytes=1) (hb:n+s.size≤140737488355328)
   (hk:∀ v' w' gA,ax w' e 1 v' (xs++Lib.strCells s) (n+s.size) gA→Mod (fun b=>fp=some b) w w'→(∀ b,gA=some b→fp=some b∨b=w.heap.size∧b < w'.heap.size)→K v' w') :
   E.wp P w ρ K (.raw ⟨d,.call { callee:=.builtin .append,args:=#[sl,x],argTypes:=#[t,u]},ty,pos,af,none⟩):=by
 obtain ⟨v',w',hr,hK⟩:∃ v' w',(Builtin.append_ #[t,u] ty #[v,.string s]).run P w = .ok v' w'∧K v' w':=by
  obtain ⟨hlen,hv⟩:=ho;have vy:xs.length=n:=by simpa using hlen
  have pg:(xs++Lib.strCells s).length=(n+s.size)*1:=by rw [List.length_append,vy,Lib.strCells_length,Nat.mul_one]
  have grown:∀ nc,n+s.size≤nc→K (.slice (some ⟨w.heap.size,0,none⟩) (n+s.size) nc) (w.drew.alloc (.cells (xs.toArray++(Lib.strCells s).toArray++Builtin.zeroCells (Value.int .u8 0).cells (nc - (n+s.size))) e)):=by
   intro nc hle;refine hk _ _ (some w.heap.size) ⟨pg,.inr ⟨w.heap.size,nc,(Builtin.zeroCells (Value.int .u8 0).cells (nc - (n+s.size))).toList,rfl,rfl,?_,?_,hle⟩⟩ (pN _ w.drew _).dj ?_
   ·rw [show w.heap.size=w.drew.heap.size from rfl,heap_alloc_new w.drew]
    congr 2
    apply Array.ext';simp
   ·have hz1:(Value.int IntKind.u8 0).cells.size=1:=rfl;rw [List.length_append,pg,Array.length_toList,PN,hz1];omega
   ·intro b hb;cases hb;exact .inr ⟨rfl,by simp⟩
  rcases hv with ⟨rfl,rfl,rfl⟩ | ⟨b,cap,cN,rfl,rfl,gg,me,hle⟩
  ·have il:xs=[]:=List.eq_nil_of_length_eq_zero vy;subst il;by_cases hm:s.size=0
   ·have hn:Lib.strCells s=[]:=List.eq_nil_of_length_eq_zero (by rw [Lib.strCells_length];exact hm);have hf:=Lib.run_firstCells_string (P:=P) w 1 s;rw [hm] at hf;refine ⟨.slice none 0 0,w,?_,hk _ _ none (by rw [hm,hn];exact ax.nil w e 1) (Mod.refl _ w) (fun b h=>by cases h)⟩;simp [Builtin.append_,run_underlying ht,run_underlying hu,sizeOf,typeInfo,hi,dy,Builtin.lenOf,hm,hf]
   ·have hr:=run_append_nil_string (P:=P) w t u ty e i (.int .u8 0) ht hu hi hz s (by omega) (by omega) (by rw [zq];omega);have e1:(s.data.map fun b=>Value.int .u8 b.toNat)=(Lib.strCells s).toArray:=by
     apply Array.ext';simp [Lib.strCells]
    rw [e1] at hr;have Fx:=grown (grownCap w s.size 0 e) (by have:=grownCap_ge w s.size 0 e;omega);simp only [Nat.zero_add,List.nil_append,Array.empty_append] at Fx;exact ⟨_,_,hr,Fx⟩
  ·have gq:((xs++cN).toArray:Array Value).toList=xs++cN:=rfl;have Nb:cap≤(xs++cN).length:=by simpa using me
   by_cases eE:n+s.size≤cap
   ·have hr:=Lib.run_append_room_string (P:=P) w t u ty e i ht hu hi dy b n cap _ gg s eE (by rw [List.size_toArray];omega);refine ⟨_,_,hr,hk _ _ (some b) ⟨pg,.inr ⟨b,cap,cN.drop s.size,rfl,rfl,?_,?_,eE⟩⟩ ⟨by simp,fun k _ hk=>setRow_other w b k _ (fun e=>hk (by simp [e])),rfl,rfl,rfl⟩ (fun b hb=>.inl hb)⟩
    ·rw [setRow_heap w b _ _ e _ gg,gq]
     congr 2
     rw [List.take_left' vy,← vy,List.drop_append,List.drop_of_length_le (by omega),List.nil_append,show xs.length+s.size - xs.length=s.size by omega]
    ·rw [List.length_append,pg,List.length_drop];have:cap≤xs.length+cN.length:=by rw [← List.length_append];exact Nb
     omega
   ·have holds:∀ j u,xs[j]? = some u→w.cell? ((⟨b,0,none⟩:Addr).add j)=some u:=fun j u hj=>by
     rw [c8,cell_of gg];simp only [Nat.zero_add,List.getElem?_toArray];rw [List.getElem?_append_left (List.getElem?_eq_some_iff.1 hj).1];exact hj
    have hr:=Lib.run_append_grow_string (P:=P) w t u ty e i (.int .u8 0) ht hu hi hz ⟨b,0,none⟩ n cap xs (by rw [dy];simpa using vy) holds s (by omega) (by omega) (by rw [zq];exact growslice_fits (by omega) (by omega));exact ⟨_,_,hr,grown _ (grownCap_ge w (n+s.size) cap e)⟩
 refine iA fun a ha=>⟨v',w',?_,hK⟩
 simp only [execOp,resolve,invoke,builtin,Sem.run_bind,Sem.run_pure,Result.andThen_ok,List.map_toArray,List.map_cons,List.map_nil,ha sl _ hs,ha x _ U,hr]
end
end Go.W
end
namespace Go.Proofs.YtnjobkbblhaliaaGreatDoor
section
open Go Go.W
def V0:IR:=.oO false [.e (some 5) (.al 122 (.agg #[(.int .i64 0),(.string ⟨#[]⟩)])),.e none (.st 2 (.t 5) (.t 9))] [2,5]
def V1:IR:=.block 1 (.dr (.r 0 none (some 10) (.l1 (.t 2)) <|
 .r 1 none (some 11) (.l1 (.t 2)) <|
 .r 2 none (some 12) (.nn (.t 11)) <|
 .r 3 none (some 13) (.fa 4 (.t 12)) <|
 .r 4 none (some 14) (.l1 (.t 13)) <|
 .r 5 none (some 15) (.ln 2 (.t 5)) <|
 .e 6 none (some 16) (.bs 122 1 #[(.int .i64 0),(.string ⟨#[]⟩)] [(0,2,(.t 15))]) [0,1,4] <|
 .e 7 none (some 17) (.ap 122 2 24 #[(.int .i64 0),(.string ⟨#[]⟩)] (.t 14) (.t 16)) [0] <|
 .r 8 none (some 18) (.nn (.t 10)) <|
 .r 9 none (some 19) (.fa 4 (.t 18)) <|
 .e 10 none none (.st 1 (.t 19) (.t 17)) [] <|
 .nil) [])
def V2:IR:=.oO false [.e (some 2) (.bx 79 (.t 0))] [1,2]
def V3:IR:=.oO false [.e (some 7) (.call 85 [.t 1])] [2,7]
abbrev hL:List (Nat×List Nat×List Nat):=[(0,[1,2],[]),(1,[2,7],[]),(2,[2,5],[]),(3,[],[0,0,2,6,14,0,32,126,255,511,1023])]
theorem aiW:Na Tryz.prog 50 2 hL V2 V3 V0 V1 7 8 9 20:=
 ⟨Tryz.f50,_,_,_,_,_,rfl,rfl,rfl,by decide,rfl,by kernel_rfl,by kernel_rfl,by kernel_rfl,by kernel_rfl,by kernel_rfl,by kernel_rfl,by kernel_rfl,by kernel_rfl,by decide,by decide,by decide⟩
end
section
open Go Go.W
inductive Td where
 | text (s:ByteArray) | val | arg | rest
def Td.slot:Td→Nat
 | .text _=>0
 | _=>1
abbrev fV:=ByteArray→Option Int
def pG (l:List kz):fV:=fun s=>(l.find? (fun x=>decide (x.name=s))).map kz.fields
def fV.of (f:fV) (s:ByteArray):Int:=(f s).getD 0
structure Ws where
 at':Nat
 cX:Int
 row:List Td
 out:ByteArray
abbrev wQ:ByteArray:=⟨#[78,105,108]⟩
abbrev uM:ByteArray:=⟨#[67,111,110,115]⟩
abbrev GN:ByteArray:=⟨#[85,110,105,116]⟩
abbrev Dt:ByteArray:=⟨#[80,97,105,114]⟩
abbrev Du:ByteArray:=⟨#[84,114,105,112,108,101]⟩
def ez (f:fV) (x:It) (aQ:ByteArray) (n:Int):Bool:=decide (x.aQ=aQ)&&decide (f.of aQ=n)
def Ws.later (s:Ws) (l:List Td):Ws:={ s with row:=s.row++l.reverse}
def Ws.cZ (s:Ws) (t:ByteArray):Ws:={ s with out:=s.out++t}
def Ws.on (s:Ws):Ws:={ s with at':=s.at'+1}
def mK:Nat→List Td
 | 0=>[]
 | n+1=>.text ⟨#[44,32]⟩ :: .val::mK n
def lj:Nat→List Td
 | 0=>[]
 | n+1=>.text ⟨#[32]⟩ :: .arg::lj n
def Ws.tuple (s:Ws) (n:Int):Ws:=(s.cZ ⟨#[40]⟩).later (.val::mK (n - 1).toNat++[.text ⟨#[41]⟩])
def Ws.aQ (f:fV) (s:Ws) (c:ByteArray) (a:Bool):Ws:=
 if (a&&decide (f.of c > 0))=true then (s.cZ (⟨#[40]⟩++c)).later (lj (f.of c).toNat++[.text ⟨#[41]⟩])
 else (s.cZ c).later (lj (f.of c).toNat)
section
variable (itoa:Int→ByteArray) (f:fV) (items:List It)
def AP (a:Bool) (n:Int):ByteArray:=if (a&&decide (n < 0))=true then ⟨#[40]⟩++itoa n++⟨#[41]⟩ else itoa n
def Ws.value (s:Ws) (a:Bool):Ws:=match items[s.at']? with
 | none=>{ s.cZ ⟨#[95]⟩ with cX:=s.cX+1}
 | some x=>
  if x.aQ=⟨#[]⟩ then (s.cZ (AP itoa a x.num)).on
  else if ez f x wQ 0=true then (s.cZ ⟨#[91,93]⟩).on
  else if ez f x uM 2=true then ((s.cZ ⟨#[91]⟩).later [.val,.rest]).on
  else if ez f x GN 0=true then (s.cZ ⟨#[40,41]⟩).on
  else if (ez f x Dt 2||ez f x Du 3)=true then (s.tuple (f.of x.aQ)).on
  else (s.aQ f x.aQ a).on
def Ws.wR (s:Ws):Ws:=match items[s.at']? with
 | none=>(s.cZ ⟨#[32,124,32]⟩).later [.val,.text ⟨#[93]⟩]
 | some x=>
  if ez f x uM 2=true then (s.on.cZ ⟨#[44,32]⟩).later [.val,.rest]
  else if ez f x wQ 0=true then s.on.cZ ⟨#[93]⟩
  else (s.cZ ⟨#[32,124,32]⟩).later [.val,.text ⟨#[93]⟩]
def Ws.step (s:Ws):Ws:=match s.row.getLast? with
 | none=>s
 | some (.text t)=>{ s with row:=s.row.dropLast}.cZ t
 | some .rest=>Ws.wR f items { s with row:=s.row.dropLast}
 | some .val=>Ws.value itoa f items { s with row:=s.row.dropLast} false
 | some .arg=>Ws.value itoa f items { s with row:=s.row.dropLast} true
def Ws.steps:Nat→Ws→Ws
 | 0,s=>s
 | n+1,s=>Ws.steps n (s.step itoa f items)
def kE:Bool:=items.all fun x=>if x.aQ=⟨#[]⟩ then decide (-4611686018427387904≤x.num)&&decide (x.num≤4611686018427387903)
 else decide (x.num=0)&&(match f x.aQ with
  | none=>false
  | some n=>decide (0≤n)&&decide (n≤8))
def lK:Ws:=⟨0,0,[.val],⟨#[]⟩⟩
end
def Td.nN:Td→Nat
 | .text _=>1
 | .rest=>4
 | _=>2
def Ws.mu (items:List It) (s:Ws):Nat:=64*(items.length - s.at')+(s.row.map Td.nN).sum
def sS (f:fV) (x:It):Nat:=if x.aQ=⟨#[]⟩ then 0 else (f.of x.aQ).toNat
def AQ (f:fV) (l:List It):Int:=1+(l.map fun x=>(sS f x:Int) - 1).sum
end
section
open Go Go.W
section
variable {itoa:Int→ByteArray} {f:fV} {items:List It}
theorem aiX {k:Nat} {x:It} (h:items[k]? = some x):AQ f (items.take (k+1))=AQ f (items.take k)+sS f x - 1:=by
 obtain ⟨hl,rfl⟩:=List.getElem?_eq_some_iff.1 h;unfold AQ;rw [List.take_succ_eq_append_getElem hl,List.map_append,List.sum_append];simp;omega
theorem V4 (h:kE f items=true) {k:Nat} {x:It} (U:items[k]? = some x):x.aQ=⟨#[]⟩∨(0≤f.of x.aQ∧f.of x.aQ≤8):=by
 unfold kE at h;have:=List.all_eq_true.1 h x (List.mem_of_getElem? U)
 split at this
 ·left;assumption
 ·right
  unfold fV.of;cases hf:f x.aQ with
  | none=>rw [hf] at this;simp at this
  | some n=>rw [hf] at this;simp at this ⊢;omega
def fE (l:List Td):Nat:=(l.map Td.slot).sum
def eI (l:List Td):Nat:=(l.map Td.nN).sum
theorem sU (a b:List Td):fE (a++b)=fE a+fE b:=by unfold fE;rw [List.map_append,List.sum_append]
theorem sV (a b:List Td):eI (a++b)=eI a+eI b:=by unfold eI;rw [List.map_append,List.sum_append]
theorem V5 (t:Td) (l:List Td):fE (t::l)=t.slot+fE l:=by unfold fE;rw [List.map_cons,List.sum_cons]
theorem V6 (t:Td) (l:List Td):eI (t::l)=t.nN+eI l:=by unfold eI;rw [List.map_cons,List.sum_cons]
theorem Nc (a:List Td):fE a.reverse=fE a:=by
 induction a with
 | nil=>rfl
 | cons x a ih=>rw [List.reverse_cons,sU,ih];unfold fE;simp;omega
theorem Nf (a:List Td):eI a.reverse=eI a:=by
 induction a with
 | nil=>rfl
 | cons x a ih=>rw [List.reverse_cons,sV,ih];unfold eI;simp;omega
theorem V7:∀ n,fE (mK n)=n
 | 0=>rfl
 | n+1=>by
  have:=V7 n;unfold fE at this ⊢;simp [mK,Td.slot,this];omega
theorem Ng:∀ n,fE (lj n)=n
 | 0=>rfl
 | n+1=>by
  have:=Ng n;unfold fE at this ⊢;simp [lj,Td.slot,this];omega
theorem V8:∀ n,eI (mK n)=3*n
 | 0=>rfl
 | n+1=>by
  have:=V8 n;unfold eI at this ⊢;simp [mK,Td.nN,this];omega
theorem Nh:∀ n,eI (lj n)=3*n
 | 0=>rfl
 | n+1=>by
  have:=Nh n;unfold eI at this ⊢;simp [lj,Td.nN,this];omega
structure Ni (f:fV) (x:It) (s s':Ws):Prop where
 at':s'.at'=s.at'+1
 cX:s'.cX=s.cX
 aiY:fE s'.row=fE s.row+sS f x
 nN:eI s'.row≤eI s.row+40
 out:s.out.size < s'.out.size
theorem fX (a b:ByteArray):(a++b).size=a.size+b.size:=ByteArray.size_append
theorem wS {x:It} {c:ByteArray} {n:Int} (h:ez f x c n=true):x.aQ=c∧f.of c=n:=by
 unfold ez at h;simpa using h
theorem V9 (hi:∀ n,0 < (itoa n).size) (hk:kE f items=true) {s:Ws} {a:Bool} {x:It} (U:items[s.at']? = some x):Ni f x s (s.value itoa f items a):=by
 unfold Ws.value;rw [U];simp only;have hz:∀ (t:ByteArray),0 < t.size→sS f x=0→Ni f x s (s.cZ t).on:=fun t ht h0=>⟨rfl,rfl,by rw [h0];rfl,by show eI s.row≤_;omega,by show s.out.size < (s.out++t).size;rw [fX];omega⟩
 by_cases h1:x.aQ=⟨#[]⟩
 ·rw [if_pos h1];refine hz _ ?_ (by unfold sS;rw [if_pos h1]);unfold AP
  split
  ·rw [fX,fX];show 0 < 1+_+1;omega
  ·exact hi _
 rw [if_neg h1];have ha:sS f x=(f.of x.aQ).toNat:=by unfold sS;rw [if_neg h1]
 obtain ⟨k1,k2⟩:0≤f.of x.aQ∧f.of x.aQ≤8:=(V4 hk U).resolve_left h1;by_cases h2:ez f x wQ 0=true
 ·rw [if_pos h2];obtain ⟨e1,e2⟩:=wS h2;exact hz _ (by decide) (by rw [ha,e1,e2];rfl)
 rw [if_neg h2];by_cases h3:ez f x uM 2=true
 ·rw [if_pos h3];obtain ⟨e1,e2⟩:=wS h3;refine ⟨rfl,rfl,?_,?_,by show s.out.size < (s.out++_).size;rw [fX];exact Nat.lt_add_of_pos_right (by decide)⟩
  ·show fE (s.row++_)=_;rw [sU,ha,e1,e2];rfl
  ·show eI (s.row++_)≤_;rw [sV];show _+6≤_;omega
 rw [if_neg h3];by_cases h4:ez f x GN 0=true
 ·rw [if_pos h4];obtain ⟨e1,e2⟩:=wS h4;exact hz _ (by decide) (by rw [ha,e1,e2];rfl)
 rw [if_neg h4];by_cases h5:(ez f x Dt 2||ez f x Du 3)=true
 ·rw [if_pos h5];have hn:f.of x.aQ=2∨f.of x.aQ=3:=by
   rcases Bool.or_eq_true_iff.1 h5 with h | h
   ·obtain ⟨e1,e2⟩:=wS h;rw [e1,e2];exact .inl rfl
   ·obtain ⟨e1,e2⟩:=wS h;rw [e1,e2];exact .inr rfl
  refine ⟨rfl,rfl,?_,?_,by show s.out.size < (s.out++_).size;rw [fX];exact Nat.lt_add_of_pos_right (by decide)⟩
  ·show fE (s.row++_)=_;rw [sU,Nc,sU,ha];have e1:fE (.val::mK (f.of x.aQ - 1).toNat)=1+(f.of x.aQ - 1).toNat:=by
    rw [V5,V7];rfl
   rw [e1];show _+(_+0)=_;omega
  ·show eI (s.row++_)≤_;rw [sV,Nf,sV];have e1:eI (.val::mK (f.of x.aQ - 1).toNat)=2+3*(f.of x.aQ - 1).toNat:=by
    rw [V6,V8];rfl
   rw [e1];show _+(_+1)≤_;omega
 rw [if_neg h5];have iT:0 < x.aQ.size:=by
  apply Classical.byContradiction;intro h;refine h1 (ByteArray.ext ?_);have:x.aQ.data.size=0:=by
   have e:x.aQ.size=x.aQ.data.size:=rfl;omega
  exact Array.eq_empty_of_size_eq_zero this
 unfold Ws.aQ
 split
 ·refine ⟨rfl,rfl,?_,?_,by show s.out.size < (s.out++_).size;rw [fX,fX];omega⟩
  ·show fE (s.row++_)=_;rw [sU,Nc,sU,Ng,ha];rfl
  ·show eI (s.row++_)≤_;rw [sV,Nf,sV,Nh];show _+(_+1)≤_;omega
 ·refine ⟨rfl,rfl,?_,?_,by show s.out.size < (s.out++_).size;rw [fX];omega⟩
  ·show fE (s.row++_)=_;rw [sU,Nc,Ng,ha]
  ·show eI (s.row++_)≤_;rw [sV,Nf,Nh];omega
end
end
section
open Go Go.W
section
variable {itoa:Int→ByteArray} {f:fV} {items:List It}
structure sX (f:fV) (items:List It) (s:Ws):Prop where
 le:s.at'≤items.length
 sum:(fE s.row:Int)+s.cX=AQ f (items.take s.at')
 pos:∀ j,j < s.at'→1≤AQ f (items.take j)
 cX:0≤s.cX
 no:s.at' < items.length→s.cX=0
 out:1≤s.out.size∨∃ l,s.row=l++[.val]
theorem V':sX f items lK:=⟨Nat.zero_le _,rfl,fun j h=>absurd h (Nat.not_lt_zero j),Int.le_refl _,fun _=>rfl,.inr ⟨[],rfl⟩⟩
theorem Wa {l:List Td} {t:Td} (h:l.getLast? = some t):l=l.dropLast++[t]:=by
 obtain ⟨k,rfl⟩:=List.getLast?_eq_some_iff.1 h;rw [List.dropLast_concat]
theorem GO (hi:∀ n,0 < (itoa n).size) (hk:kE f items=true) {s:Ws} (h:sX f items s) (hr:s.row≠[]):sX f items (s.step itoa f items)∧(s.step itoa f items).mu items < s.mu items:=by
 unfold Ws.step;cases hl:s.row.getLast? with
 | none=>exact absurd (List.getLast?_eq_none_iff.1 hl) hr
 | some t=>
 have gg:=Wa hl;have nU:fE s.row=fE s.row.dropLast+t.slot:=by
  conv=>lhs;rw [gg,sU]
  rw [V5];rfl
 have vu:eI s.row=eI s.row.dropLast+t.nN:=by
  conv=>lhs;rw [gg,sV]
  rw [V6];rfl
 have GP:∀ {x:It} {s':Ws},items[s.at']? = some x→t.slot=1→Ni f x { s with row:=s.row.dropLast} s'→sX f items s'∧s'.mu items < s.mu items:=fun {x s'} U ht k=>by
  have ah:s.at' < items.length:=(List.getElem?_eq_some_iff.1 U).1;have k1:s'.at'=s.at'+1:=k.at';have k2:s'.cX=s.cX:=k.cX;have k3:fE s'.row=fE s.row.dropLast+sS f x:=k.aiY;have k4:eI s'.row≤eI s.row.dropLast+40:=k.nN;have k5:s.out.size < s'.out.size:=k.out;have hs:=h.sum;have h0:=h.no ah;refine ⟨⟨by omega,?_,fun j hj=>?_,by rw [k2];exact h.cX,fun _=>by omega,.inl (by omega)⟩,?_⟩
  ·rw [k1,aiX U];omega
  ·rcases Nat.lt_or_ge j s.at' with hh | hh
   ·exact h.pos j hh
   ·obtain rfl:j=s.at':=by omega
    omega
  ·show 64*(items.length - s'.at')+eI s'.row < 64*(items.length - s.at')+eI s.row;omega
 have ended:∀ (a:Bool),items[s.at']? = none→t.slot=1→sX f items (Ws.value itoa f items { s with row:=s.row.dropLast} a)∧(Ws.value itoa f items { s with row:=s.row.dropLast} a).mu items < s.mu items:=fun a U ht=>by
  have hge:items.length≤s.at':=List.getElem?_eq_none_iff.1 U;have hs:=h.sum;have ho:=h.cX;have hle:=h.le;have u9:1≤t.nN:=by cases t<;>simp [Td.nN]
  unfold Ws.value;simp only [U];refine ⟨⟨hle,?_,h.pos,by show 0≤s.cX+1;omega,fun hh=>by have:s.at' < items.length:=hh;omega,.inl ?_⟩,?_⟩
  ·show (fE s.row.dropLast:Int)+(s.cX+1)=AQ f (items.take s.at');omega
  ·show 1≤(s.out++_).size;rw [fX];exact Nat.le_add_left _ _
  ·show 64*(items.length - s.at')+eI s.row.dropLast < 64*(items.length - s.at')+eI s.row;omega
 have Dv:t = .rest→sX f items ((Ws.cZ { s with row:=s.row.dropLast} ⟨#[32,124,32]⟩).later [.val,.text ⟨#[93]⟩])∧((Ws.cZ { s with row:=s.row.dropLast} ⟨#[32,124,32]⟩).later [.val,.text ⟨#[93]⟩]).mu items < s.mu items:=fun e=>by
  subst e;have hs:=h.sum;refine ⟨⟨h.le,?_,h.pos,h.cX,h.no,.inl ?_⟩,?_⟩
  ·show (fE (s.row.dropLast++_):Int)+s.cX=_;rw [sU];show ((fE s.row.dropLast+1:Nat):Int)+s.cX=_;rw [show (fE s.row.dropLast+1:Nat)=fE s.row from nU.symm];exact hs
  ·show 1≤(s.out++_).size;rw [fX];exact Nat.le_trans (by decide) (Nat.le_add_left _ _)
  ·show 64*(items.length - s.at')+eI (s.row.dropLast++_) < 64*(items.length - s.at')+eI s.row;rw [sV];show _+(_+3) < _;have:(Td.rest).nN=4:=rfl;omega
 cases t with
 | text t=>
  simp only;refine ⟨⟨h.le,?_,h.pos,h.cX,h.no,?_⟩,?_⟩
  ·show (fE s.row.dropLast:Int)+s.cX=_;have:=h.sum;rw [nU] at this;exact this
  ·rcases h.out with h | ⟨l,e⟩
   ·left
    show 1≤(s.out++t).size;rw [fX];omega
   ·rw [e,List.getLast?_concat] at hl;cases hl
  ·show 64*(items.length - s.at')+eI s.row.dropLast < 64*(items.length - s.at')+eI s.row;have:(Td.text t).nN=1:=rfl;omega
 | val=>
  simp only;cases U:items[s.at']? with
  | none=>exact ended false U rfl
  | some x=>exact GP U rfl (V9 hi hk (s:={ s with row:=s.row.dropLast}) U)
 | arg=>
  simp only;cases U:items[s.at']? with
  | none=>exact ended true U rfl
  | some x=>exact GP U rfl (V9 hi hk (s:={ s with row:=s.row.dropLast}) U)
 | rest=>
  simp only;unfold Ws.wR;cases U:items[s.at']? with
  | none=>
   simp only [U];exact Dv rfl
  | some x=>
   simp only [U];have sK:∀ {c:ByteArray} {n:Int},ez f x c n=true→0 < c.size→x.aQ≠⟨#[]⟩∧sS f x=n.toNat:=fun {c n} hh hc=>by
    obtain ⟨e1,e2⟩:=wS hh;have bq:x.aQ≠⟨#[]⟩:=fun e=>by rw [e] at e1;rw [← e1] at hc;exact absurd hc (by decide)
    exact ⟨bq,by unfold sS;rw [if_neg bq,e1,e2]⟩
   by_cases h3:ez f x uM 2=true
   ·rw [if_pos h3];obtain ⟨_,ha⟩:=sK h3 (by decide);refine GP U rfl ⟨rfl,rfl,?_,?_,by show s.out.size < (s.out++_).size;rw [fX];exact Nat.lt_add_of_pos_right (by decide)⟩
    ·show fE (s.row.dropLast++_)=_;rw [sU,ha];rfl
    ·show eI (s.row.dropLast++_)≤_;rw [sV];show _+6≤_;exact Nat.add_le_add_left (by decide) _
   rw [if_neg h3];by_cases h2:ez f x wQ 0=true
   ·rw [if_pos h2];obtain ⟨_,ha⟩:=sK h2 (by decide);exact GP U rfl ⟨rfl,rfl,by rw [ha];rfl,by show eI s.row.dropLast≤eI s.row.dropLast+40;omega,by show s.out.size < (s.out++_).size;rw [fX];exact Nat.lt_add_of_pos_right (by decide)⟩
   rw [if_neg h2];exact Dv rfl
theorem Nj {s:Ws} (h:s.row=[]):∀ n,s.steps itoa f items n=s
 | 0=>rfl
 | n+1=>by
  rw [Ws.steps,show s.step itoa f items=s by unfold Ws.step;rw [h];rfl];exact Nj h n
theorem Wb (hi:∀ n,0 < (itoa n).size) (hk:kE f items=true):∀ (n:Nat) {s:Ws},sX f items s→s.mu items≤n→sX f items (s.steps itoa f items n)∧(s.steps itoa f items n).row=[]
 | 0,s,h,hn=>by
  refine ⟨h,?_⟩;cases hr:s.row with
  | nil=>exact hr
  | cons t l=>
   have:=(GO hi hk h (by rw [hr];simp)).2;omega
 | n+1,s,h,hn=>by
  by_cases hr:s.row=[]
  ·rw [Nj hr];exact ⟨h,hr⟩
  ·obtain ⟨h1,h2⟩:=GO hi hk h hr;exact Wb hi hk n h1 (by omega)
def lp (itoa:Int→ByteArray) (f:fV) (items:List It):Ws:=lK.steps itoa f items (64*items.length+2)
def yM (itoa:Int→ByteArray) (aC:List kz) (items:List It):ByteArray×Int:=
 if kE (pG aC) items=true then
  (if (lp itoa (pG aC) items).at' < items.length then (⟨#[]⟩,-1) else ((lp itoa (pG aC) items).out,(lp itoa (pG aC) items).cX))
 else (⟨#[]⟩,-1)
theorem aiZ (hi:∀ n,0 < (itoa n).size) (hk:kE f items=true):sX f items (lp itoa f items)∧(lp itoa f items).row=[]:=
 Wb hi hk _ V' (by show 64*(items.length - 0)+2≤_;omega)
end
end
section
open Go Go.W Go.RowKit
def iP:Td→List Value
 | .text s=>[I 0,.string s]
 | .val=>[I 1,.string ⟨#[]⟩]
 | .arg=>[I 2,.string ⟨#[]⟩]
 | .rest=>[I 3,.string ⟨#[]⟩]
theorem ai0 (t:Td):(iP t).length=2:=by cases t<;>rfl
theorem ai1 (l:List Td):∀ u∈l.flatMap iP,u.oneCell'=true:=by
 intro u hu;obtain ⟨t,_,ht⟩:=List.mem_flatMap.1 hu;cases t<;>simp only [iP,List.mem_cons,List.not_mem_nil,or_false] at ht<;>rcases ht with rfl | rfl<;>rfl
def ej (vI:Value) (k:Int) (mp:Nat) (cX:Int) (vR pv vB:Value):List Value:=[vI,I k,.map (some mp),I cX,vR,pv,vB]
structure oC (lo:Nat) (w:World) (p:Nat) (vI:Value) (mp:Nat) (s:Ws) (vR pv vB:Value) (fR fB:Option Nat):Prop where
 cells:w.heap[p]? = some (.cells (ej vI s.at' mp s.cX vR pv vB).toArray 86 (0,0))
 pv:pv = .pointer none∨pv = .pointer (some ⟨p,5,none⟩)
 row:ax w 122 2 vR (s.row.flatMap iP) s.row.length fR
 buf:ax w 5 1 vB (Lib.strCells s.out) s.out.size fB
 pH:lo≤p
 oD:mp≠p
 oE:mp < w.heap.size
 nO:lo≤w.heap.size
 fr:∀ b,fR=some b→lo≤b∧b≠p∧b≠mp
 fb:∀ b,fB=some b→lo≤b∧b≠p∧b≠mp∧fR≠some b
def eJ (lo:Nat) (w:World) (p:Nat) (vI:Value) (mp:Nat) (s:Ws):Prop:=∃ vR pv vB fR fB,oC lo w p vI mp s vR pv vB fR fB
def Wt (lo mp:Nat) (b:Nat):Prop:=lo≤b∧b≠mp
abbrev yN (p:Nat):Value:=.pointer (some ⟨p,5,none⟩)
theorem ai2 (w:World) (a:Addr) (v:Value):Mod (· = a.block) w (w.setCell a v):=
 ⟨by simp [World.setCell],fun k _ hk=>by simp [World.setCell,Array.getElem?_modify,Ne.symm hk],rfl,rfl,rfl⟩
theorem ai3 (a b:ByteArray):Lib.strCells (a++b)=Lib.strCells a++Lib.strCells b:=by
 simp [Lib.strCells]
theorem lt_of_heap {w:World} {b:Nat} {o:Obj} (h:w.heap[b]? = some o):b < w.heap.size:=(Array.getElem?_eq_some_iff.1 h).1
section
variable {lo p mp:Nat} {w:World} {vI:Value} {s:Ws} {vR pv vB:Value} {fR fB:Option Nat}
theorem oC.later {w':World} (h:oC lo w p vI mp s vR pv vB fR fB) (hm:Mod (fun b=>lo≤b∧b≠mp∧b≠p∧fR≠some b∧fB≠some b) w w'):oC lo w' p vI mp s vR pv vB fR fB:=
 ⟨hm.at h.cells (fun hh=>hh.2.2.1 rfl),h.pv,h.row.mod hm (fun b hb hh=>hh.2.2.2.1 hb),h.buf.mod hm (fun b hb hh=>hh.2.2.2.2 hb),h.pH,h.oD,by have:=h.oE;have:=hm.size;omega,by have:=h.nO;have:=hm.size;omega,h.fr,h.fb⟩
theorem ai4 (h:oC lo w p vI mp s vR pv vB fR fB):aD Tryz.prog 86 [yN p] w fun r w'=>oC lo w' p vI mp s vR (yN p) vB fR fB∧Mod (· = p) w w':=by
 rcases h.pv with rfl | rfl
 ·refine Calls.mono (aiT p w ((cell_of h.cells 5).trans rfl) (by simp [World.shape?,h.cells,ej]) (by simp [World.frozen?,h.cells])) ?_;rintro e w' ⟨rfl,rfl⟩;have hm:Mod (· = p) w (w.setCell ⟨p,5,none⟩ (.pointer (some ⟨p,5,none⟩))):=ai2 w ⟨p,5,none⟩ _;refine ⟨_,rfl,⟨?_,.inr rfl,h.row.mod hm (fun b hb hh=>(h.fr b hb).2.1 hh),h.buf.mod hm (fun b hb hh=>(h.fb b hb).2.1 hh),h.pH,h.oD,by have:=h.oE;have:=hm.size;omega,by have:=h.nO;have:=hm.size;omega,h.fr,h.fb⟩,hm⟩;have:=h.cells;simp [World.setCell,Array.getElem?_modify,this,ej]
 ·refine Calls.mono (aiS p w ((cell_of h.cells 5).trans rfl)) ?_;rintro e w' ⟨rfl,rfl⟩;exact ⟨_,rfl,h,Mod.refl _ _⟩
theorem Wc {t:ByteArray} (h:oC lo w p vI mp s vR pv vB fR fB) (dy:s.out.size+t.size≤140737488355328):aD Tryz.prog 51 [yN p,.string t] w fun r w'=>(∃ Nk Nl,oC lo w' p vI mp (s.cZ t) vR (yN p) Nk fR Nl)∧Mod (fun b=>b=p∨fB=some b) w w':=by
 refine ah4.calls rfl ?_;unfold MP;refine σ ?_;refine δ (by rfl) (ai4 h) ?_;rintro r w1 ⟨h1,ag⟩;have dk:=h1.cells;simp only [go_sem,simprocAttr,cell_of dk,ej];obtain ⟨i,hi,hz,cL,aq⟩:∃ i,Tryz.prog.info? 5=some i∧i.zero=some (.int .u8 0)∧i.size=1∧i.bytes=1:=⟨_,rfl,rfl,rfl,rfl⟩;refine aiV rfl h1.buf rfl Tryz.underlying74 Tryz.underlying9 hi hz cL aq dy ?_;intro v2 w2 jH dR ae fQ;obtain ⟨a2,c2,rfl,_,_⟩:=dR.val;have cy:=ae.at dk (fun hh=>(h1.fb p hh).2.1 rfl);refine bL (off:=6) rfl rfl cy rfl (by simp [ej]) ?_;intro w3 eh ab gj;refine σ ?_;have an:∀ b,jH=some b→lo≤b∧b≠p∧b≠mp∧fR≠some b:=fun b hb=>by
  rcases fQ b hb with h' | ⟨h',_⟩
  ·exact h1.fb b h'
  ·have:=h1.nO;have:=h1.oE;have:=lt_of_heap dk;exact ⟨by omega,by omega,by omega,fun hh=>by have:=h1.row.lt hh;omega⟩
 have abu:=ae.size;refine ⟨⟨.slice a2 (s.out.size+t.size) c2,jH,?_,.inr rfl,(h1.row.mod ae (fun b hb hh=>(h1.fb b hh).2.2.2 hb)).mod ab (fun b hb hh=>(h1.fr b hb).2.1 hh),?_,h1.pH,h1.oD,by have:=h1.oE;omega,by have:=h1.nO;omega,h1.fr,an⟩,?_⟩
 ·exact eh
 ·rw [show (s.cZ t).out=s.out++t from rfl,fX,ai3];exact dR.mod ab (fun b hb hh=>(an b hb).2.1 hh)
 ·exact ((ag.aB (fun b hb=>.inl hb)).trans (ae.aB (fun b hb=>.inr hb))).trans (ab.aB (fun b hb=>.inl hb))
theorem rO {t:ByteArray} (h:eJ lo w p vI mp s) (dy:s.out.size+t.size≤140737488355328):aD Tryz.prog 51 [yN p,.string t] w fun r w'=>eJ lo w' p vI mp (s.cZ t)∧Mod (Wt lo mp) w w':=by
 obtain ⟨vR,pv,vB,fR,fB,h⟩:=h;refine (Wc h dy).mono ?_;rintro r w' ⟨⟨Nk,Nl,h1⟩,hm⟩;refine ⟨⟨_,_,_,_,_,h1⟩,hm.aB (fun b hb=>?_)⟩;rcases hb with rfl | hb
 ·exact ⟨h.pH,fun e=>h.oD e.symm⟩
 ·exact ⟨(h.fb b hb).1,(h.fb b hb).2.2.1⟩
end
end
section
open Go Go.W Go.RowKit
def mL:Td→Int
 | .text _=>0
 | .val=>1
 | .arg=>2
 | .rest=>3
def mM:Td→ByteArray
 | .text s=>s
 | _=>⟨#[]⟩
theorem Nn (t:Td):iP t=[I (mL t),.string (mM t)]:=by cases t<;>rfl
theorem ai5 (l:List Td):(Go.W.eH l.length l.length).map (fun j=>l.getD j .val)=l.reverse:=by
 apply List.ext_getElem
 ·simp [Go.W.eH]
 ·intro i h1 h2;simp only [Go.W.eH,List.length_map,List.length_range] at h1;simp only [Go.W.eH,List.map_map,List.getElem_map,List.getElem_range,Function.comp,List.getElem_reverse];rw [List.getD_eq_getElem?_getD,List.getElem?_eq_getElem (by omega),Option.getD_some]
theorem ai6 (w:World) (v:Value):aD Tryz.prog 85 [v] w fun r w'=>r = .func (.func 142) #[] #[ptr w.heap.size]∧(∃ T fz,w'.heap[w.heap.size]? = some (.cells v.cells T fz))∧Mod (fun _=>False) w w':=by
 refine ah9.calls rfl ?_;unfold MU;refine σ ?_;refine b8 rfl ?_;intro w1 aq ag _;refine σ ?_;exact ⟨⟨_,_,aq⟩,ag⟩
theorem lL {w:World} {b T:Nat} {v0 v1:Value} {fz:Nat×Nat} (h:w.heap[b]? = some (.cells #[v0,v1] T fz)):cB w 2 (.pointer (some ⟨b,0,none⟩))=some (.agg #[v0,v1]):=by
 have h0:w.cell? ⟨b,0,none⟩=some v0:=(cell_of h 0).trans rfl;have h1:w.cell? ⟨b,1,none⟩=some v1:=(cell_of h 1).trans rfl;simp [cB,jC,Addr.add_lit,h0,h1]
theorem ai7 (l:List Td) (j:Nat) (hj:j < l.length):(l.flatMap iP)[j*2]? = some (I (mL (l.getD j .val)))∧(l.flatMap iP)[j*2+1]? = some (.string (mM (l.getD j .val))):=by
 induction l generalizing j with
 | nil=>simp at hj
 | cons t l ih=>
  rw [List.flatMap_cons,Nn];cases j with
  | zero=>exact ⟨rfl,rfl⟩
  | succ j=>
   have:=ih j (by simpa using hj);rw [show (j+1)*2=j*2+1+1 by omega]
   simpa using this
section
variable {lo p mp:Nat} {w:World} {vI:Value} {s:Ws} {vR pv vB:Value} {fR fB:Option Nat}
theorem oC.quiet {B:Nat} {W W':World} {S:Nat→Prop} (h:oC lo W p vI mp s vR pv vB fR fB) (hm:Mod S W W') (hs:∀ b,S b→B≤b∧∃ o:Obj,W.heap[b]? = some o∧o.isCells=false):oC lo W' p vI mp s vR pv vB fR fB:=
 ⟨CT hm (fun b hb=>(hs b hb).2) h.cells,h.pv,FI hm (fun b hb=>(hs b hb).2) h.row,FI hm (fun b hb=>(hs b hb).2) h.buf,h.pH,h.oD,by have:=h.oE;have:=hm.size;omega,by have:=h.nO;have:=hm.size;omega,h.fr,h.fb⟩
structure GQ (lo:Nat) (w2:World) (p:Nat) (vI:Value) (mp:Nat) (s:Ws) (pv vB:Value) (fR fB:Option Nat) (b2:Nat) (l:List Td) (pre:List Nat) (W:World):Prop where
 wr:∃ wT oF,oC lo W p vI mp { s with row:=s.row++pre.map (fun j=>l.getD j .val)} wT pv vB oF fB∧∀ b,oF=some b→fR=some b∨w2.heap.size≤b
 box:W.heap[b2]? = some (.cells #[ptr p] 79 (0,0))
 mod:Mod (Wt lo mp) w2 W
theorem GQ.quiet {w2:World} {b2:Nat} {l:List Td} {pre:List Nat} {W W':World} {S:Nat→Prop} (wi:lo≤w2.heap.size) (hmp:mp < w2.heap.size) (h:GQ lo w2 p vI mp s pv vB fR fB b2 l pre W) (hm:Mod S W W') (hs:∀ b,S b→w2.heap.size≤b∧∃ o:Obj,W.heap[b]? = some o∧o.isCells=false):GQ lo w2 p vI mp s pv vB fR fB b2 l pre W':=by
 obtain ⟨wT,oF,h1,h2⟩:=h.wr;exact ⟨⟨wT,oF,h1.quiet hm hs,h2⟩,CT hm (fun b hb=>(hs b hb).2) h.box,h.mod.trans (hm.aB (fun b hb=>⟨by have:=(hs b hb).1;omega,by have:=(hs b hb).1;omega⟩))⟩
theorem Wd {l:List Td} {v:Value} {fA:Option Nat} (h:oC lo w p vI mp s vR pv vB fR fB) (ho:ax w 122 2 v (l.flatMap iP) l.length fA) (hA:∀ b,fA=some b→b≠p∧fR≠some b) (hl:l.length≤1048576) (hr:s.row.length≤4294967296) :
   aD Tryz.prog 50 [ptr p,v] w fun r w'=>eJ lo w' p vI mp (s.later l)∧Mod (Wt lo mp) w w':=by
 have hc:=h.cells;have bQ:=lt_of_heap hc;refine aiW.calls rfl ?_;unfold V2;refine σ ?_;refine b8 rfl ?_;intro w1 aq ag cL;refine σ ?_;unfold V3;refine σ ?_;refine δ (by rfl) (ai6 w1 v) ?_;rintro _ w2 ⟨rfl,⟨T2,fz2,an⟩,ae⟩;refine σ ?_;have h2:=(h.later (ag.aB (fun _ hh=>hh.elim))).later (ae.aB (fun _ hh=>hh.elim));have a7:=ae.at aq (fun hh=>hh);have dR:=(ho.mod ag (fun _ _ hh=>hh)).mod ae (fun _ _ hh=>hh);have Fe:=ae.size;have Bn:=lt_of_heap an;obtain ⟨va,vc,rfl,_,_⟩:=ho.val;obtain ⟨bA,CV,CW,CX⟩:∃ bA,bA < w2.heap.size∧(bA=w1.heap.size∨fA=some bA)∧((.slice va l.length vc=Value.slice none 0 0∧l.length=0)∨(bA < w2.heap.size∧∃ cap,.slice va l.length vc=Value.slice (some ⟨bA,0,none⟩) l.length cap∧∀ j,j < l.length→w2.cell? ⟨bA,j*2,none⟩=some (I (mL (l.getD j .val)))∧w2.cell? ⟨bA,j*2+1,none⟩=some (.string (mM (l.getD j .val))))):=by
  rcases dR.2 with ⟨e1,e2,e3⟩ | ⟨b,c,cN,e1,e2,e3,e4,e5⟩
  ·exact ⟨w1.heap.size,Bn,.inl rfl,.inl ⟨e1,e2⟩⟩
  ·refine ⟨b,lt_of_heap e3,.inr e2,.inr ⟨lt_of_heap e3,c,e1,fun j hj=>?_⟩⟩;obtain ⟨f1,f2⟩:=ai7 l j hj;have hh:=cell_of e3;refine ⟨(hh _).trans ?_,(hh _).trans ?_⟩
   ·rw [List.getElem?_toArray,List.getElem?_append_left (List.getElem?_eq_some_iff.1 f1).1,f1]
   ·rw [List.getElem?_toArray,List.getElem?_append_left (List.getElem?_eq_some_iff.1 f2).1,f2]
 have nA:bA≠p∧fR≠some bA:=by
  rcases CW with e | e
  ·exact ⟨by omega,fun hh=>by have:=h.row.lt hh;omega⟩
  ·exact hA bA e
 refine ⟨2,l.length,142,#[ptr w1.heap.size],(fun j=>.agg #[I (mL (l.getD j .val)),.string (mM (l.getD j .val))]),rE w1.heap.size bA,(fun pre W=>GQ lo w2 p vI mp s pv vB fR fB w.heap.size l pre W),
  (fun j ρ W=>∃ D,ρ=[(2,ptr w.heap.size),(5,ptr D)]∧W.heap[D]? = some (.cells #[I (mL (l.getD j .val)),.string (mM (l.getD j .val))] 122 (0,0))),⟨rfl,(fun _ _=>rfl),?_,⟨rfl,rfl⟩,by omega,?_,?_,⟨?_,?_,?_,?_,?_⟩⟩,?_⟩
 ·exact aiR Fence.wide 1 trivial rfl (by omega) w1.heap.size bA l.length (.slice va l.length vc) _ _ w2 (by simpa [Value.cells] using cell_of an 0) Bn CX (by omega)
 ·intro A B C a b;exact ⟨b.1.trans a.1,b.2.trans a.2⟩
 ·intro W b o o' hlb hob CY _;exact ⟨World.putObj_heap_other (fun e=>by omega),World.putObj_heap_other (fun e=>by omega)⟩
 ·exact ⟨⟨vR,fR,by simpa using h2,fun b hb=>.inl hb⟩,a7,Mod.refl _ _⟩
 ·intro pre W W' S hi hm hs;exact hi.quiet h2.nO h2.oE hm hs
 ·rintro j bz W W' S ⟨D,e,hD⟩ hm hs;exact ⟨D,e,CT hm (fun b hb=>(hs b hb).2) hD⟩
 ·intro pre j W hi hj;unfold V0;refine σ ?_;refine de ?_;intro W1 hD kF hS1;refine σ ?_;have zB:W1.heap[W.heap.size]? = some (.cells [I 0,.string ⟨#[]⟩].toArray 122 (0,0)):=hD;refine cu (vs:=[I (mL (l.getD j .val)),.string (mM (l.getD j .val))]) rfl rfl zB rfl rfl (by intro u hu;simp only [List.mem_cons,List.not_mem_nil,or_false] at hu;rcases hu with rfl | rfl<;>rfl) ?_;intro W2 uF fN We;refine σ ?_;have hsW:=hi.mod.size;have hM:Mod (· = W.heap.size) W W2:=(kF.aB (fun _ hh=>hh.elim)).trans fN;obtain ⟨wT,oF,g1,g2⟩:=hi.wr;have gp:=lt_of_heap g1.cells;have hf:∀ b,b < W.heap.size→b≠W.heap.size:=fun b hb e=>by omega
  refine ⟨(FG hM (fun b hb o ho=>by have:=lt_of_heap ho;omega)).from _,FH hM (by omega) (by omega) (by omega) (by omega),⟨⟨wT,oF,g1.later (hM.aB (fun b hb=>?_)),g2⟩,hM.at hi.box (fun hh=>by have:=lt_of_heap hi.box;omega),hi.mod.trans (hM.aB (fun b hb=>?_))⟩,⟨_,rfl,uF⟩⟩
  ·have:=g1.nO;have:=g1.oE;exact ⟨by omega,by omega,by omega,fun hh=>by have:=g1.row.lt hh;omega,fun hh=>by have:=g1.buf.lt hh;omega⟩
  ·have:=g1.nO;have:=g1.oE;exact ⟨by omega,by omega⟩
 ·rintro pre j bz W hi ⟨D,rfl,hD⟩ p7 hj;obtain ⟨wT,oF,g1,g2⟩:=hi.wr;have gc:=g1.cells;unfold V1;simp only [go_sem,simprocAttr,cell_of hi.box,cell_of gc,ej];have jy:W.drew.heap[D]? = _:=hD;refine ⟨_,lL jy,?_⟩;refine dL (by rfl) (by rfl) ?_;intro W1 hN kF hS1;have hN':W1.heap[W.heap.size]? = some (.cells #[I (mL (l.getD j .val)),.string (mM (l.getD j .val))] 122 (0,0)):=hN;have AR:Mod (fun _=>False) W W1:=kF.dj;have g3:=g1.later (AR.aB (fun _ hh=>hh.elim));refine ⟨⟨AR.old p (lt_of_heap gc) (fun h=>h),AR.old _ (lt_of_heap hi.box) (fun h=>h)⟩,?_⟩;refine gN (news:=[I (mL (l.getD j .val)),.string (mM (l.getD j .val))]) (m:=1) rfl g3.row rfl (fun e=>by cases e) ?_ (by intro u hu;simp only [List.mem_cons,List.not_mem_nil,or_false] at hu;rcases hu with rfl | rfl<;>rfl) rfl ?_ ?_ ?_
  ·exact (ax.jQ (n:=1) (xs:=[I (mL (l.getD j .val)),.string (mM (l.getD j .val))]) hN' rfl).rd
  ·simp only [List.length_append,List.length_map];omega
  ·simp only [List.length_append,List.length_map];omega
  intro v2 W2 jH dR fN fQ;have mA:v2.oneCell'=true:=by
   obtain ⟨_,_,rfl,_,_⟩:=dR.val;rfl
  have gG:=fN.at g3.cells (fun hh=>(g3.fr p hh).2.1 rfl);have im:∀ b,jH=some b→oF=some b∨W.heap.size≤b:=fun b hb=>by
   rcases fQ b hb with h' | ⟨h',_⟩
   ·exact .inl h'
   ·have:=AR.size;exact .inr (by omega)
  have hmW:=hi.mod.size;have aol:=AR.size;have aom:=fN.size;have gp:=lt_of_heap gc;have gb:=lt_of_heap hi.box;have gl:=g1.nO;have gm:=g1.oE;have GR:¬ oF=some w.heap.size:=fun hh=>by
   rcases g2 _ hh with h' | h'
   ·have:=h.row.lt h';omega
   ·omega
  refine ⟨fN.old _ (by omega) GR,?_⟩;refine bL (off:=4) rfl rfl gG mA (by simp [ej]) ?_;intro W3 eh lJ hS3;refine σ ?_;have GS:Mod (fun b=>oF=some b∨b=p) W W3:=((AR.aB (fun _ hh=>hh.elim)).trans (fN.aB (fun b hb=>.inl hb))).trans (lJ.aB (fun b hb=>.inr hb));have gh:∀ b,(oF=some b∨b=p)→∀ o,W.heap[b]? = some o→o.isCells=true:=fun b hb o ho=>by
   rcases hb with hb | rfl
   ·cases mP:o.isCells with
    | true=>rfl
    | false=>exact absurd ho (fun e=>by have:=FJ g1.row hb e;rw [this] at mP;cases mP)
   ·rw [gc] at ho;cases ho;rfl
  have nb:∀ b,b < w2.heap.size→fR≠some b→oF≠some b:=fun b hb hn e=>by
   rcases g2 b e with h' | h'
   ·exact hn h'
   ·omega
  refine ⟨(FG GS gh).from _,FH GS (by omega) (by omega) (fun hh=>?_) (fun hh=>?_),⟨⟨v2,jH,⟨?_,g1.pv,?_,(g3.buf.mod fN (fun b hb hh=>(g3.fb b hb).2.2.2 hh)).mod lJ (fun b hb hh=>(g3.fb b hb).2.1 hh),g1.pH,g1.oD,by omega,by omega,fun b hb=>?_,fun b hb=>?_⟩,fun b hb=>?_⟩,GS.at hi.box (fun hh=>by rcases hh with hh | hh;exact GR hh;omega),hi.mod.trans (GS.aB (fun b hb=>?_))⟩⟩
  ·rcases hh with hh | hh
   ·exact nb _ Bn (fun e=>by have:=h.row.lt e;omega) hh
   ·omega
  ·rcases hh with hh | hh
   ·exact nb _ CV nA.2 hh
   ·exact nA.1 hh
  ·exact eh
  ·have:=dR.mod lJ (fun b hb hh=>by
    rcases im b hb with h' | h'
    ·exact (g1.fr b h').2.1 hh
    ·omega)
   have e1:(s.row++(pre++[j]).map (fun j=>l.getD j .val)).flatMap iP=(s.row++pre.map (fun j=>l.getD j .val)).flatMap iP++[I (mL (l.getD j .val)),.string (mM (l.getD j .val))]:=by
    rw [List.map_append,← List.append_assoc,List.flatMap_append];simp [Nn]
   have e2:(s.row++(pre++[j]).map (fun j=>l.getD j .val)).length=(s.row++pre.map (fun j=>l.getD j .val)).length+1:=by
    simp [Nat.add_assoc]
   show ax W3 _ 2 v2 ((s.row++(pre++[j]).map (fun j=>l.getD j .val)).flatMap iP) (s.row++(pre++[j]).map (fun j=>l.getD j .val)).length jH;rw [e1,e2];exact this
  ·rcases im b hb with h' | h'
   ·exact g1.fr b h'
   ·exact ⟨by omega,by omega,by omega⟩
  ·obtain ⟨f1,f2,f3,f4⟩:=g1.fb b hb;refine ⟨f1,f2,f3,fun hh=>?_⟩;rcases im b hh with h' | h'
   ·exact f4 h'
   ·have:=g1.buf.lt hb;omega
  ·rcases im b hb with h' | h'
   ·exact g2 b h'
   ·right;omega
  ·rcases hb with hb | rfl
   ·exact ⟨(g1.fr b hb).1,(g1.fr b hb).2.2⟩
   ·exact ⟨g1.pH,fun e=>g1.oD e.symm⟩
 ·intro D W W' hD hi hM jy;obtain ⟨wT,oF,g1,g2⟩:=hi.wr;have hq:=g1.quiet (B:=w2.heap.size) hM (fun b hb=>by subst hb;exact ⟨hD,_,jy,rfl⟩);rw [ai5] at hq;have dh:=h2.nO;have uf:=h2.oE;refine ⟨⟨wT,pv,vB,oF,fB,hq⟩,(((ag.aB (fun _ hh=>hh.elim)).trans (ae.aB (fun _ hh=>hh.elim))).trans hi.mod).trans (hM.aB (fun b hb=>by subst hb;exact ⟨by omega,by omega⟩))⟩
end
end
end Go.Proofs.YtnjobkbblhaliaaGreatDoor
namespace Go.W
section
open Go Go.ChangeMaps Go.RowKit
section
variable {P:Program} {ρ:Env} {w:World} {K:Value→World→Prop} {d:Option Nat} {ty:TypeId} {pos:String} {af:Array Edge}
end
end
section
open Go
def dB (w:World) (v:Value) (sz:Nat) (rows:List (List Value)) (B:Nat→Prop):Prop:=
 ∃ a c,v = .slice a rows.length c∧(0 < rows.length→∀ ad,a=some ad→B ad.block)∧∀ i (h:i < rows.length),∃ ad,a=some ad∧rows[i].length=sz∧∀ k (hk:k < rows[i].length),w.cell? ((ad.add (i*sz)).add k)=some rows[i][k]
theorem dB.mod {w w':World} {v:Value} {sz:Nat} {rows:List (List Value)} {B B' S:Nat→Prop} (h:dB w v sz rows B) (hm:Mod S w w') (hd:∀ b,B b→¬ S b) (hB:∀ b,B b→B' b):dB w' v sz rows B':=by
 obtain ⟨a,c,rfl,hb,h⟩:=h;refine ⟨a,c,rfl,fun h0 ad h=>hB _ (hb h0 ad h),fun i hi=>?_⟩;obtain ⟨ad,rfl,hl,hc⟩:=h i hi;refine ⟨ad,rfl,hl,fun k hk=>hm.cell (hc k hk) ?_⟩;rw [rT,rT];exact hd _ (hb (by omega) _ rfl)
theorem CQ {w:World} {v:Value} {sz:Nat} {rows:List (List Value)} {B:Nat→Prop} (h:dB w v sz rows B) {i:Nat} (hi:i < rows.length) :
   ∃ ad c,v = .slice (some ad) rows.length c∧rows[i].length=sz∧∀ k (hk:k < rows[i].length),w.cell? ((ad.add (i*sz)).add k)=some rows[i][k]:=by
 obtain ⟨a,c,rfl,_,h⟩:=h;obtain ⟨ad,rfl,h1,h2⟩:=h i hi;exact ⟨ad,c,rfl,h1,h2⟩
theorem uC {w:World} {a:Addr} {v0 v1:Value} (h0:w.cell? (a.add 0)=some v0) (h1:w.cell? (a.add 1)=some v1):cB w 2 (.pointer (some a))=some (.agg #[v0,v1]):=by
 simp [cB,jC,h0,h1]
theorem Gs {w:World} {a:Addr} {v0 v1 v2:Value} (h0:w.cell? (a.add 0)=some v0) (h1:w.cell? (a.add 1)=some v1) (h2:w.cell? (a.add 2)=some v2):cB w 3 (.pointer (some a))=some (.agg #[v0,v1,v2]):=by
 simp [cB,jC,h0,h1,h2]
theorem oz {w:World} {v:Value} {sz:Nat} {rows:List (List Value)} {B:Nat→Prop} (h:dB w v sz rows B):∃ a c,v = .slice a rows.length c:=by
 obtain ⟨a,c,e,_⟩:=h;exact ⟨a,c,e⟩
theorem cm (a b:Int):(a == b)=decide (a=b):=by by_cases h:a=b<;>simp [h]
theorem MB (a:ByteArray):∀ (n i:Nat) (r:List UInt8),a.size - i=n→ByteArray.toList.loop a i r=r.reverse++a.data.toList.drop i:=by
 have hs:a.data.toList.length=a.size:=by
  show a.data.toList.length=a.data.size;exact Array.length_toList
 intro n
 induction n with
 | zero=>
  intro i r h;rw [ByteArray.toList.loop,if_neg (by omega),List.drop_eq_nil_of_le (by omega),List.append_nil]
 | succ n ih=>
  intro i r h;have hi:i < a.data.toList.length:=by omega
  rw [ByteArray.toList.loop,if_pos (by omega),ih (i+1) _ (by omega),List.drop_eq_getElem_cons hi];have e:a.get! i=a.data.toList[i]:=by
   show a.data[i]! = _;rw [getElem!_pos a.data i (by simpa using hi)];simp
  rw [e];simp
theorem Dm (a:ByteArray):a.toList=a.data.toList:=by
 show ByteArray.toList.loop a 0 []=_;rw [MB a _ 0 [] rfl];rfl
theorem MC {a b:ByteArray} (h:a.toList=b.toList):a=b:=by
 rw [Dm,Dm] at h;cases a;cases b;rename_i x y;have:x=y:=Array.ext' h;rw [this]
theorem GK (a b:ByteArray):(a.toList == b.toList)=decide (a=b):=by
 by_cases h:a=b
 ·subst h;simp
 ·have:a.toList≠b.toList:=fun e=>h (MC e)
  simp [h,this]
theorem Dq {sz:Nat}:∀ (rows:List (List Value)),(∀ r∈rows,r.length=sz)→∀ (i:Nat) (h:i < rows.length) (k:Nat),k < sz→(rows.flatMap id)[i*sz+k]? = (rows[i]'h)[k]?:=by
 intro rows
 induction rows with
 | nil=>intro _ i h;simp at h
 | cons r rows ih=>
  intro hr i h k hk;have h0:=hr r (by simp);simp only [List.flatMap_cons,id];cases i with
  | zero=>rw [List.getElem?_append_left (by omega)];simp
  | succ i=>
   rw [List.getElem?_append_right (by rw [h0,Nat.add_mul];omega),h0];have e:(i+1)*sz+k - sz=i*sz+k:=by rw [Nat.add_mul];omega
   rw [e];exact ih (fun r sf=>hr r (by simp [sf])) i (by simpa using h) k hk
theorem sR {w:World} {T sz:Nat} {v:Value} {rows:List (List Value)} {fp:Option Nat} (h:ax w T sz v (rows.flatMap id) rows.length fp) (hr:∀ r∈rows,r.length=sz):dB w v sz rows (fun b=>fp=some b):=by
 obtain ⟨h1,⟨rfl,h2,rfl⟩ | ⟨b,c,sp,rfl,rfl,h3,_⟩⟩:=h
 ·refine ⟨none,0,by rw [h2],(fun _ ad e=>by cases e),fun i hi=>?_⟩;omega
 ·refine ⟨some ⟨b,0,none⟩,c,rfl,(fun _ ad e=>by cases e;rfl),fun i hi=>⟨_,rfl,hr _ (List.getElem_mem hi),fun k hk=>?_⟩⟩;have hl:=hr _ (List.getElem_mem hi);have hf:=Dq rows hr i hi k (by omega);rw [List.getElem?_eq_getElem hk] at hf;have ah:i*sz+k < (rows.flatMap id).length:=(List.getElem?_eq_some_iff.1 hf).1;rw [c8,c8,cell_of h3];simp only [Nat.zero_add,List.getElem?_toArray];rw [List.getElem?_append_left ah];exact hf
theorem addr_add (a:Addr) (i k:Nat):(a.add i).add k=a.add (i+k):=by
 unfold Addr.add;by_cases hi:i=0
 ·subst hi;simp
 ·by_cases hk:k=0
  ·subst hk;simp
  ·have:i+k≠0:=by omega
   simp [hi,hk,this,Nat.add_assoc]
theorem Dw {sz:Nat}:∀ (rows:List (List Value)),(∀ r∈rows,r.length=sz)→(rows.flatMap id).length=rows.length*sz:=by
 intro rows
 induction rows with
 | nil=>intro _;simp
 | cons r rows ih=>
  intro hr;have h0:=hr r (by simp);simp only [List.flatMap_cons,id,List.length_append,List.length_cons,ih (fun r sf=>hr r (by simp [sf])),h0,Nat.add_mul];omega
theorem No {w:World} {a:Option Addr} {n c sz:Nat} {rows:List (List Value)} {B:Nat→Prop} (h:dB w (.slice a n c) sz rows B) (dy:0 < sz):n=rows.length∧iz w a (n*sz) (rows.flatMap id)∧(a=none→n=0):=by
 obtain ⟨a',c',e,_,U⟩:=h;simp only [Value.slice.injEq] at e;obtain ⟨rfl,rfl,rfl⟩:=e;have hr:∀ r∈rows,r.length=sz:=fun r hr=>by
  obtain ⟨i,hi,rfl⟩:=List.getElem_of_mem hr;obtain ⟨_,_,h1,_⟩:=U i hi;exact h1
 refine ⟨rfl,⟨Dw rows hr,fun ad ef j v hv=>?_⟩,fun ha=>?_⟩
 ·have hj:j < rows.length*sz:=by rw [← Dw rows hr];exact (List.getElem?_eq_some_iff.1 hv).1
  have hi:j / sz < rows.length:=(Nat.div_lt_iff_lt_mul dy).2 hj;have hk:j % sz < sz:=Nat.mod_lt _ dy;have hf:=Dq rows hr (j / sz) hi (j % sz) hk;have e:j / sz*sz+j % sz=j:=by rw [Nat.mul_comm];exact Nat.div_add_mod j sz
  rw [e,hv] at hf;obtain ⟨mR,e1,h1,h2⟩:=U (j / sz) hi;rw [ef] at e1;cases e1;have h3:=h2 (j % sz) (by rw [h1];exact hk);rw [List.getElem?_eq_getElem (by rw [h1];exact hk)] at hf;simp only [Option.some.injEq] at hf;rw [← hf] at h3;rw [addr_add,e] at h3;exact h3
 ·apply Classical.byContradiction;intro bq;obtain ⟨ad,e1,_⟩:=U 0 (by omega);rw [ha] at e1;cases e1
theorem Np {w:World} {T sz n:Nat} {v:Value} {xs:List Value} {fp:Option Nat} (h:ax w T sz v xs n fp) {b:Nat} (hb:fp=some b):∃ cs,w.heap[b]? = some (.cells cs T (0,0)):=by
 obtain ⟨_,⟨_,_,e⟩ | ⟨b',c,sp,_,e,h5,_⟩⟩:=h
 ·rw [e] at hb;cases hb
 ·rw [e] at hb;cases hb;exact ⟨_,h5⟩
theorem VY {w:World} {a:Addr} {v:Value} (h:w.cell? a=some v):a.block < w.heap.size:=by
 unfold World.cell? at h;cases hb:w.heap[a.block]? with
 | none=>rw [hb] at h;cases h
 | some o=>exact lt_of_heap hb
end
end Go.W
namespace Go.Proofs.YtnjobkbblhaliaaGreatDoor
section
open Go Go.W Go.RowKit
abbrev FL (L:List (ByteArray×Int)):fV:=fun k=>gX L k
structure qy (lo:Nat) (w:World) (vI:Value) (mp:Nat) (items:List It) (L:List (ByteArray×Int)):Prop where
 rows:dB w vI 2 (items.map fe) (· < lo)
 mp:lG w mp L
 len:items.length≤4294967296
theorem nP (a b:ByteArray):(a.toList == b.toList)=decide (a=b):=Go.W.GK a b
theorem ai8 {P:Program} {w:World} {ρ:Go.W.Env} {K:Value→World→Prop} {d:Option Nat} {ty:TypeId} {pos:String} {af:Array Edge} {op:Op} {g:Option (Nat×Bool)} (h:Go.W.E.wp P w ρ K (.raw ⟨d,op,ty,pos,af,none⟩)):Go.W.E.wp P w ρ K (.raw ⟨d,op,ty,pos,af,g⟩):=h
section
variable {lo p mp:Nat} {w:World} {vI:Value} {s:Ws} {items:List It} {L:List (ByteArray×Int)}
theorem qy.mod {w':World} (h:qy lo w vI mp items L) (hm:Mod (Wt lo mp) w w'):qy lo w' vI mp items L:=
 ⟨h.rows.mod hm (fun b hb hh=>by have:=hh.1;omega) (fun b hb=>hb),pC h.mp hm (fun hh=>hh.2 rfl),h.len⟩
theorem Nq (h:qy lo w vI mp items L) {k:Nat} {x:It} (U:items[k]? = some x):∃ ad c,vI = .slice (some ad) items.length c∧ad.block < lo∧w.cell? (ad.add (k*2))=some (.string x.aQ)∧w.cell? ((ad.add (k*2)).add 1)=some (I x.num):=by
 obtain ⟨hl,rfl⟩:=List.getElem?_eq_some_iff.1 U;obtain ⟨a,c,h1,h3,h2⟩:=h.rows;obtain ⟨ad,rfl,_,h4⟩:=h2 k (by simpa using hl);refine ⟨ad,c,by simpa using h1,h3 (by simp;omega) ad rfl,?_,?_⟩
 ·have:=h4 0 (by simp [fe]);rw [Addr.add_zero'] at this
  simpa [fe] using this
 ·simpa [fe] using h4 1 (by simp [fe])
theorem Nr (h:qy lo w vI mp items L):∃ a c,vI = .slice a items.length c:=by
 obtain ⟨a,c,h1,_⟩:=h.rows;exact ⟨a,c,by simpa using h1⟩
def qz (L:List (ByteArray×Int)) (items:List It) (k:Nat) (aQ:ByteArray) (n:Int):Bool:=match items[k]? with
 | none=>false
 | some x=>ez (FL L) x aQ n
theorem yO {aQ:ByteArray} {n:Int} (h:eJ lo w p vI mp s) (hi:qy lo w vI mp items L):aD Tryz.prog 87 [ptr p,.string aQ,I n] w fun r w'=>r = .bool (qz L items s.at' aQ n)∧Mod (fun _=>False) w w':=by
 obtain ⟨vR,pv,vB,fR,fB,h⟩:=h;have hc:=h.cells;refine ah'.calls rfl ?_;unfold MV;cases U:items[s.at']? with
 | none=>
  obtain ⟨a,c,rfl⟩:=Nr hi;have hge:=List.getElem?_eq_none_iff.1 U;have e1:decide ((s.at':Int) < items.length)=false:=by simp;omega
  simp only [go_sem,simprocAttr,cell_of hc,ej,ptr,e1];refine ⟨by unfold qz;rw [U],(Mod.refl _ _).drew⟩
 | some x=>
  obtain ⟨ad,c,rfl,h1,h2,h3⟩:=Nq hi U;have ah:=(List.getElem?_eq_some_iff.1 U).1;have e1:decide ((s.at':Int) < items.length)=true:=by simp;omega
  have e2:(0:Int)≤s.at'∧(s.at':Int) < items.length:=by omega
  by_cases sK:x.aQ=aQ
  ·simp only [go_sem,simprocAttr,cell_of hc,ej,ptr,e1,e2,decide_true,Int.toNat_natCast,h2,h3,nP,sK];refine ai8 ?_;refine AF (b:=mp) (l:=L) (kt:=9) (et:=3) rfl rfl Tryz.underlying80 Tryz.underlying9 (Tryz.zeroValue3 _) (pC hi.mp ((Mod.refl (fun _=>False) w).drew) (fun h=>h)) ?_;refine σ ?_;refine ⟨?_,(Mod.refl _ _).drew⟩;unfold qz ez fV.of;rw [U];simp [sK,cm]
  ·simp only [go_sem,simprocAttr,cell_of hc,ej,ptr,e1,e2,decide_true,Int.toNat_natCast,h2,h3,nP,sK,decide_false];refine ⟨?_,(Mod.refl _ _).drew⟩;unfold qz ez;rw [U];simp [sK]
end
end
end Go.Proofs.YtnjobkbblhaliaaGreatDoor