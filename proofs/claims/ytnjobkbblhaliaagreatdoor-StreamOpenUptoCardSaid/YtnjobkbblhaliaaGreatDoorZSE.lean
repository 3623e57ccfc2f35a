/- Texts that the last file stands on: Q13, W12, C0, C1, C2, C3, C4, C5, C6, C7, C8, C9, IRL, M26, M29, V6, WL, B2, K1, K2, K3, SQ1, SQ2, SQ3, K4, K5, W13, W14, K6. -/
import Derived.Test.YtnjobkbblhaliaaGreatDoorZSD
import Derived.Test.YtnjobkbblhaliaaGreatDoorZSA
import Derived.KernelRfl
import Derived.Test.YtnjobkbblhaliaaGreatDoorRows
import Derived.Deep.Slices
import Derived.RangeFuncNested
import Derived.Shelf.Abstract
import Derived.WalkKit
import Derived.Laws.Externs
import Derived.Lib.FrozenHead
import Derived.Shelf.RegionOpenPlain
import Derived.Test.YtnjobkbblhaliaaGreatDoorZSC
set_option linter.unusedSimpArgs false
set_option linter.unusedVariables false
set_option maxRecDepth 100000
namespace Go.Proofs.YtnjobkbblhaliaaGreatDoor
section
open Go Go.W
def formS (op:Int):Option (Int×Int):=
 if op=1 then some (1,0) else if op=2 then some (4,0) else if op=3 then some (3,0) else if op=4 then some (1,0) else if op=5 then some (1,0) else if op=6 then some (0,0)
 else if op=7 then some (2,0) else if op=8 then some (1,0) else if op=9 then some (5,0) else if op=10 then some (5,0) else if op=11 then some (0,0) else if op=12 then some (6,0)
 else if op=13 then some (8,0) else if op=14 then some (5,8) else if op=15 then some (3,8) else if op=16 then some (7,0) else if op=17 then some (0,0) else none
def kindB (T:Tab) (n k:Int):Bool:=
 if k=0 then decide (n=0) else if k=1 then decide (n≥0) else if k=2 then decide (n≥1) else if k=3 then decide (n ≥ -4611686018427387904∧n≤4611686018427387903) else if k=4 then decide (n≥0∧n < T.globals.length)
 else if k=5 then decide (n≥0∧n < T.shapes.length) else if k=6 then decide (n≥1∧n≤11) else decide (n≥1∧n≤4)
def numberS (T:Tab) (len at':Nat) (n kind:Int):Int:=if kind=8 then (if n≤at'∨n≥len then 174 else 0) else if kindB T n kind=true then 0 else 172
def numErr (T:Tab) (len i:Nat) (x:Ins):Int:=
 match formS x.op with
 | none=>172
 | some (a,b)=>if numberS T len i x.a a=172∨numberS T len i x.b b=172 then 172 else if numberS T len i x.a a≠0∨numberS T len i x.b b≠0 then 174 else 0
def numLoop (T:Tab) (len:Nat):Nat→List Ins→Int
 | _,[]=>0
 | i,x::l=>if numErr T len i x=0 then numLoop T len (i+1) l else numErr T len i x
instance (x:Ins):Decidable (goesOn x):=inferInstanceAs (Decidable (_∧_))
def depthErr (T:Tab) (len i:Nat) (x:Ins) (D:List Int):Int:=
 if D.getD i 0=0 then 174
 else if ¬ ((stackedS T x (D.getD i 0)).1=true∧(stackedS T x (D.getD i 0)).2≤8000) then 173
 else if goesOn x∧i+1=len then 174
 else if goesOn x∧(noteS D ((i:Int)+1) (stackedS T x (D.getD i 0)).2).getD (i+1) 0≠(stackedS T x (D.getD i 0)).2 then 173
 else if targetS x > 0∧(depthStep T D i x).getD (targetS x).toNat 0≠(stackedS T x (D.getD i 0)).2 then 173
 else 0
def depthLoop (T:Tab) (len:Nat):Nat→List Ins→List Int→Int
 | _,[],_=>0
 | i,x::l,D=>if depthErr T len i x D=0 then depthLoop T len (i+1) l (depthStep T D i x) else depthErr T len i x D
def startD (g:Gl):List Int:=(List.replicate g.code.length 0).set 0 (g.arity+1)
def checkCodeS (T:Tab) (g:Gl):Int:=
 if numLoop T g.code.length 0 g.code≠0 then numLoop T g.code.length 0 g.code
 else if g.code.length=0 then 174
 else depthLoop T g.code.length 0 g.code (startD g)
def codesS (T:Tab):List Gl→Int
 | []=>0
 | g::l=>if checkCodeS T g=0 then codesS T l else checkCodeS T g
def isNameS (b:ByteArray):Bool:=b.data.toList.all (fun c=>decide (32≤c.toNat)&&decide (c.toNat≤126))&&decide (1≤b.data.toList.length)&&decide (b.data.toList.length≤4096)
def namesS (hi:Int):List ByteArray→List (ByteArray×Int)→Bool
 | _,[]=>true
 | seen,(s,n)::l=>isNameS s&&seen.all (fun t=>decide (t≠s))&&decide (0≤n)&&decide (n≤hi)&&namesS hi (s::seen) l
def givenS:List Shp:=[⟨⟨#[70,97,108,115,101]⟩,0⟩,⟨⟨#[84,114,117,101]⟩,0⟩,⟨⟨#[85,110,105,116]⟩,0⟩,⟨⟨#[78,105,108]⟩,0⟩,⟨⟨#[67,111,110,115]⟩,2⟩,⟨⟨#[80,97,105,114]⟩,2⟩,⟨⟨#[84,114,105,112,108,101]⟩,2+1⟩]
def greatS (T:Tab):Bool:=T.globals.any (fun g=>decide (g.code.length > 8000))||decide (T.shapes.length > 2000)||decide (T.globals.length > 2000)||decide ((T.globals.map (·.code.length)).sum > 200000)
def shPairs (T:Tab):List (ByteArray×Int):=T.shapes.map fun s=>(s.name,s.fields)
def glPairs (T:Tab):List (ByteArray×Int):=T.globals.map fun g=>(g.name,g.arity)
def checkS (T:Tab):Int:=
 if greatS T=true then 4
 else if namesS 8 [] (shPairs T)=false then 172
 else if ¬ (T.shapes.take 7=givenS) then 172
 else if namesS 24 [] (glPairs T)=false then 172
 else codesS T T.globals
theorem numLoop_ok {T:Tab} {len:Nat}:∀ (l:List Ins) (i:Nat),numLoop T len i l=0→∀ (j:Nat) (x:Ins),l[j]? = some x→numErr T len (i+j) x=0:=by
 intro l
 induction l with
 | nil=>intro i _ j x h;simp at h
 | cons y l ih=>
   intro i h j x hx;unfold numLoop at h
   split at h
   · rename_i hy;cases j with
     | zero=>simp at hx;subst hx;simpa using hy
     | succ j=>
       have:=ih (i+1) h j x (by simpa using hx);rw [show i+(j+1)=i+1+j by omega];exact this
   · rename_i hy;exact absurd h hy
theorem numErr_ok {T:Tab} {len i:Nat} {x:Ins} (h:numErr T len i x=0):NumsOk T len i x:=by
 unfold numErr at h;have e8:∀ n:Int,numberS T len i n 8=0→(i:Int) < n∧n < len:=by
   intro n hn;unfold numberS at hn;rw [if_pos rfl] at hn
   split at hn
   · cases hn
   · omega
 have er:∀ n k:Int,k≠8→numberS T len i n k≠172→kindB T n k=true:=by
   intro n k hk hn;unfold numberS at hn;rw [if_neg hk] at hn;cases hb:kindB T n k with
   | true=>rfl
   | false=>rw [hb] at hn;simp at hn
 have hop:x.op=1∨x.op=2∨x.op=3∨x.op=4∨x.op=5∨x.op=6∨x.op=7∨x.op=8∨x.op=9∨x.op=10∨x.op=11∨x.op=12∨x.op=13∨x.op=14∨x.op=15∨x.op=16∨x.op=17∨formS x.op=none:=by
   by_cases h1:1≤x.op∧x.op≤17
   · omega
   · right;right;right;right;right;right;right;right;right;right;right;right;right;right;right;right;right
     unfold formS
     repeat' (rw [if_neg (by omega)])
 rcases hop with e | e | e | e | e | e | e | e | e | e | e | e | e | e | e | e | e | e
 case inr.inr.inr.inr.inr.inr.inr.inr.inr.inr.inr.inr.inr.inr.inr.inr.inr=>rw [e] at h;simp at h
 all_goals
   simp only [formS,e] at h;simp at h
   split at h
   · cases h
   · rename_i h1
     split at h
     · cases h
     · rename_i h2;simp only [not_or,Classical.not_not] at h1 h2;have a2:=e8 x.a;have b2:=e8 x.b;have a1:=er x.a;clear er e8
       first
         | (have:=a1 _ (by decide) h1.1;have:=b2 h2.2;simp [kindB] at *;constructor<;>(try unfold isNum)<;>omega)
         | (have:=a1 _ (by decide) h1.1;simp [kindB] at this;constructor<;>(try unfold isNum)<;>omega)
         | (have:=a2 h2.1;constructor<;>(try unfold isNum)<;>omega)
         | (constructor<;>(try unfold isNum)<;>omega)
theorem stacked_pos {T:Tab} {x:Ins} {d:Int} (hT:∀ s∈T.shapes,0≤s.fields) {len i:Nat} (hn:NumsOk T len i x) (hd:1≤d) (h:(stackedS T x d).1=true):1≤(stackedS T x d).2:=by
 have o1:=hn.o1;have o2:=hn.o2;have c1:=hn.c1;have c7:=hn.c7;have hf:(x.op=9∨x.op=10)→0≤(T.sh x.a).fields:=by
   intro ho;have hc:=hn.c9 (by omega);refine hT _ ?_;unfold Tab.sh;rw [List.getD_eq_getElem?_getD,List.getElem?_eq_getElem (by omega:x.a.toNat < T.shapes.length)];exact List.getElem_mem _
 have hop:x.op=1∨x.op=2∨x.op=3∨x.op=4∨x.op=5∨x.op=6∨x.op=7∨x.op=8∨x.op=9∨x.op=10∨x.op=11∨x.op=12∨x.op=13∨x.op=14∨x.op=15∨x.op=16∨x.op=17:=by omega
 rcases hop with e | e | e | e | e | e | e | e | e | e | e | e | e | e | e | e | e
 all_goals (simp [stackedS,e] at h ⊢;try omega)
theorem getD_set' (l:List Int) (i j:Nat) (v:Int):(l.set i v).getD j 0=if i=j∧i < l.length then v else l.getD j 0:=by
 rw [List.getD_eq_getElem?_getD,List.getD_eq_getElem?_getD,List.getElem?_set];by_cases h:i=j
 · subst h;by_cases h2:i < l.length
   · simp [h2]
   · simp [h2]
 · simp [h]
theorem note_len (D:List Int) (a d:Int):(noteS D a d).length=D.length:=by unfold noteS;split<;>simp
theorem note_keeps (D:List Int) (a d:Int) {k:Nat} (h:D.getD k 0≠0):(noteS D a d).getD k 0=D.getD k 0:=by
 unfold noteS
 split
 · rename_i h0;rw [getD_set']
   split
   · rename_i hk;rw [hk.1] at h0;exact absurd h0 h
   · rfl
 · rfl
theorem note_pos (D:List Int) (a:Int) {d:Int} (hd:0≤d) (h:∀ k,0≤D.getD k 0):∀ k,0≤(noteS D a d).getD k 0:=by
 intro k;unfold noteS
 split
 · rw [getD_set']
   split
   · exact hd
   · exact h k
 · exact h k
theorem step_len (T:Tab) (D:List Int) (i:Nat) (x:Ins):(depthStep T D i x).length=D.length:=by
 simp only [depthStep];split<;>split<;>simp [note_len]
theorem step_keeps (T:Tab) (D:List Int) (i:Nat) (x:Ins) {k:Nat} (h:D.getD k 0≠0):(depthStep T D i x).getD k 0=D.getD k 0:=by
 simp only [depthStep]
 split<;>split
 · rw [note_keeps _ _ _ (by rw [note_keeps _ _ _ h];exact h),note_keeps _ _ _ h]
 · rw [note_keeps _ _ _ h]
 · rw [note_keeps _ _ _ h]
 · rfl
theorem from_keeps (T:Tab):∀ (l:List Ins) (i:Nat) (D:List Int) {k:Nat},D.getD k 0≠0→(depthsFrom T i l D).getD k 0=D.getD k 0:=by
 intro l
 induction l with
 | nil=>intro i D k _;rfl
 | cons x l ih=>
   intro i D k h;unfold depthsFrom;have:=step_keeps T D i x h;rw [ih (i+1) _ (by rw [this];exact h),this]
theorem depthErr_ok {T:Tab} {len i:Nat} {x:Ins} {D:List Int} (h:depthErr T len i x D=0):D.getD i 0≠0∧(stackedS T x (D.getD i 0)).1=true∧(stackedS T x (D.getD i 0)).2≤8000∧(goesOn x→i+1≠len∧(noteS D ((i:Int)+1) (stackedS T x (D.getD i 0)).2).getD (i+1) 0=(stackedS T x (D.getD i 0)).2) ∧
   (targetS x > 0→(depthStep T D i x).getD (targetS x).toNat 0=(stackedS T x (D.getD i 0)).2):=by
 unfold depthErr at h
 split at h
 · cases h
 rename_i h1
 split at h
 · cases h
 rename_i h2
 split at h
 · cases h
 rename_i h3
 split at h
 · cases h
 rename_i h4
 split at h
 · cases h
 rename_i h5;have h2:=Classical.not_not.1 h2;refine ⟨h1,h2.1,h2.2,fun hg=>⟨fun e=>h3 ⟨hg,e⟩,Classical.byContradiction fun e=>h4 ⟨hg,e⟩⟩,fun ht=>Classical.byContradiction fun e=>h5 ⟨ht,e⟩⟩
theorem depthLoop_ok {T:Tab} (hT:∀ s∈T.shapes,0≤s.fields) {len:Nat}:∀ (l:List Ins) (i:Nat) (D:List Int),depthLoop T len i l D=0→len=i+l.length→D.length=len→(∀ k,0≤D.getD k 0)→(∀ (j:Nat) (x:Ins),l[j]? = some x→NumsOk T len (i+j) x) →
   ∀ (j:Nat) (x:Ins),l[j]? = some x→(depthsFrom T i l D).getD (i+j) 0≠0∧(stackedS T x ((depthsFrom T i l D).getD (i+j) 0)).1=true∧(stackedS T x ((depthsFrom T i l D).getD (i+j) 0)).2≤8000 ∧
     (goesOn x→i+j+1 < len∧(depthsFrom T i l D).getD (i+j+1) 0=(stackedS T x ((depthsFrom T i l D).getD (i+j) 0)).2)∧(targetS x > 0→(depthsFrom T i l D).getD (targetS x).toNat 0=(stackedS T x ((depthsFrom T i l D).getD (i+j) 0)).2):=by
 intro l
 induction l with
 | nil=>intro i D _ _ _ _ _ j x h;simp at h
 | cons y l ih=>
   intro i D h hlen hD hpos hnum j x hx;unfold depthLoop at h
   split at h
   · rename_i hy;obtain ⟨e1,e2,e3,e4,e5⟩:=depthErr_ok hy;have ny:=hnum 0 y rfl;rw [Nat.add_zero] at ny;have d1:1≤D.getD i 0:=by have:=hpos i;omega
     have b1:=stacked_pos hT ny d1 e2;have hpos':∀ k,0≤(depthStep T D i y).getD k 0:=by
       simp only [depthStep]
       split<;>split
       · exact note_pos _ _ (by omega) (note_pos _ _ (by omega) hpos)
       · exact note_pos _ _ (by omega) hpos
       · exact note_pos _ _ (by omega) hpos
       · exact hpos
     cases j with
     | zero=>
       simp only [List.getElem?_cons_zero,Option.some.injEq] at hx;subst hx;rw [Nat.add_zero];have k1:(depthsFrom T i (y::l) D).getD i 0=D.getD i 0:=from_keeps T (y::l) i D e1;rw [k1];refine ⟨e1,e2,e3,fun hg=>?_,fun ht=>?_⟩
       · obtain ⟨g1,g2⟩:=e4 hg;refine ⟨by simp only [List.length_cons] at hlen;omega,?_⟩;have g3:(depthStep T D i y).getD (i+1) 0=(stackedS T y (D.getD i 0)).2:=by
           simp only [depthStep];have hg':y.op≠13∧y.op≠16∧y.op≠17:=hg;rw [if_pos hg']
           split
           · rw [note_keeps _ _ _ (by rw [g2];omega),g2]
           · exact g2
         show (depthsFrom T (i+1) l (depthStep T D i y)).getD (i+1) 0=_;rw [from_keeps T l (i+1) _ (by rw [g3];omega),g3]
       · have g3:=e5 ht;show (depthsFrom T (i+1) l (depthStep T D i y)).getD _ 0=_;rw [from_keeps T l (i+1) _ (by rw [g3];omega),g3]
     | succ j=>
       have:=ih (i+1) (depthStep T D i y) h (by simp only [List.length_cons] at hlen;omega) (by rw [step_len];exact hD) hpos' (fun k z hz=>by
         have:=hnum (k+1) z (by simpa using hz)
         rw [show i+(k+1)=i+1+k by omega] at this;exact this) j x (by simpa using hx)
       rw [show i+1+j=i+(j+1) by omega] at this;exact this
   · rename_i hy;exact absurd h hy
theorem checkCode_ok {T:Tab} (hT:∀ s∈T.shapes,0≤s.fields) {g:Gl} (ha:0≤g.arity) (h:checkCodeS T g=0):CodeOk T g (depthsS T g):=by
 unfold checkCodeS at h
 split at h
 · rename_i h1;exact absurd h h1
 rename_i h1
 split at h
 · cases h
 rename_i h2;have h1:numLoop T g.code.length 0 g.code=0:=Classical.not_not.1 h1;have hn:∀ (j:Nat) (x:Ins),g.code[j]? = some x→NumsOk T g.code.length (0+j) x:=fun j x hx=>numErr_ok (numLoop_ok _ 0 h1 j x hx)
 have hs:∀ k,(startD g).getD k 0=if k=0 then g.arity+1 else 0:=by
   intro k;unfold startD;rw [getD_set'];by_cases hk:k=0
   · subst hk;rw [if_pos ⟨rfl,by simp;omega⟩,if_pos rfl]
   · rw [if_neg (fun hh=>hk hh.1.symm),if_neg hk,List.getD_eq_getElem?_getD,List.getElem?_replicate]
     split<;>rfl
 have key:=depthLoop_ok hT g.code 0 (startD g) h (by simp) (by simp [startD]) (fun k=>by rw [hs];split<;>omega) hn;have e:depthsS T g=depthsFrom T 0 g.code (startD g):=rfl;rw [← e] at key;refine ⟨by omega,?_,fun i x hx=>?_⟩
 · rw [e,from_keeps T _ _ _ (by rw [hs,if_pos rfl];omega),hs,if_pos rfl]
 · obtain ⟨k1,k2,k3,k4,k5⟩:=key i x hx;have n:=hn i x hx;rw [Nat.zero_add] at k1 k2 k3 k4 k5 n;refine ⟨n,k1,k2,k3,k4,fun ho=>?_,fun ho=>?_⟩
   · have t:targetS x=x.a:=by simp [targetS,ho]
     rw [t] at k5;have:=n.c13 ho;exact k5 (by omega)
   · have t:targetS x=x.b:=by
       unfold targetS;rw [if_neg (by omega),if_pos ho]
     rw [t] at k5;have:=n.c14 ho;exact k5 (by omega)
theorem codesS_ok {T:Tab}:∀ (l:List Gl),codesS T l=0→∀ g∈l,checkCodeS T g=0:=by
 intro l
 induction l with
 | nil=>intro _ g h;cases h
 | cons x l ih=>
   intro h g hg;unfold codesS at h
   split at h
   · rename_i hx;rcases List.mem_cons.1 hg with rfl | hg
     · exact hx
     · exact ih h g hg
   · rename_i hx;exact absurd h hx
theorem namesS_ok {hi:Int}:∀ (l:List (ByteArray×Int)) (seen:List ByteArray),namesS hi seen l=true→(∀ p∈l,isNameS p.1=true∧p.1∉seen∧0≤p.2∧p.2≤hi)∧(l.map (·.1)).Nodup:=by
 intro l
 induction l with
 | nil=>intro seen _;exact ⟨fun p h=>(by cases h),by simp⟩
 | cons x l ih=>
   intro seen h;obtain ⟨s,n⟩:=x;simp only [namesS,Bool.and_eq_true,decide_eq_true_eq] at h;obtain ⟨⟨⟨⟨a1,a2⟩,a3⟩,a4⟩,a5⟩:=h;have a2:s∉seen:=fun hm=>by
     have:=List.all_eq_true.1 a2 s hm;simp at this
   obtain ⟨b1,b2⟩:=ih _ a5;refine ⟨fun p hp=>?_,?_⟩
   · rcases List.mem_cons.1 hp with rfl | hp
     · exact ⟨a1,a2,a3,a4⟩
     · obtain ⟨c1,c2,c3⟩:=b1 p hp;exact ⟨c1,fun hh=>c2 (List.mem_cons_of_mem _ hh),c3⟩
   · rw [List.map_cons,List.nodup_cons];refine ⟨fun hm=>?_,b2⟩;obtain ⟨p,hp,hps⟩:=List.mem_map.1 hm;have:=(b1 p hp).2.1;rw [hps] at this;exact this List.mem_cons_self
theorem check_ok {T:Tab} (h:checkS T=0):TabOk T∧(T.globals.map (·.name)).Nodup∧(∀ g∈T.globals,g.name.data.toList.length≤4096)∧∀ s∈T.shapes,s.name.data.toList.length≤4096:=by
 unfold checkS at h
 split at h
 · cases h
 rename_i h1
 split at h
 · cases h
 rename_i h2
 split at h
 · cases h
 rename_i h3
 split at h
 · cases h
 rename_i h4;have h3:=Classical.not_not.1 h3;have h2:namesS 8 [] (shPairs T)=true:=by simpa using h2
 have h4:namesS 24 [] (glPairs T)=true:=by simpa using h4
 obtain ⟨s1,s2⟩:=namesS_ok _ _ h2;obtain ⟨g1,g2⟩:=namesS_ok _ _ h4;simp only [greatS,Bool.or_eq_true,decide_eq_true_eq,List.any_eq_true,not_or,not_exists,not_and,Nat.not_lt] at h1;obtain ⟨⟨⟨c1,c2⟩,c3⟩,c4⟩:=h1;have sh:∀ s∈T.shapes,isNameS s.name=true∧0≤s.fields∧s.fields≤8:=fun s hs=>by
   have:=s1 (s.name,s.fields) (List.mem_map.2 ⟨s,hs,rfl⟩);exact ⟨this.1,this.2.2⟩
 have gl:∀ g∈T.globals,isNameS g.name=true∧0≤g.arity∧g.arity≤24:=fun g hg=>by
   have:=g1 (g.name,g.arity) (List.mem_map.2 ⟨g,hg,rfl⟩);exact ⟨this.1,this.2.2⟩
 have nm:∀ b:ByteArray,isNameS b=true→b.data.toList.length≤4096:=fun b hb=>by
   simp only [isNameS,Bool.and_eq_true,decide_eq_true_eq] at hb;exact hb.2
 have at7:∀ i:Nat,i < 7→T.sh (i:Int)=givenS.getD i ⟨⟨#[]⟩,0⟩∧i < T.shapes.length:=by
   intro i hi;have hl:(T.shapes.take 7).length=7:=by rw [h3];rfl
   rw [List.length_take] at hl;have hil:i < T.shapes.length:=by omega
   refine ⟨?_,hil⟩;rw [← h3];unfold Tab.sh;rw [Int.toNat_natCast,List.getD_eq_getElem?_getD,List.getD_eq_getElem?_getD,List.getElem?_take,if_pos hi]
 refine ⟨⟨fun g hg=>⟨checkCode_ok (fun s hs=>(sh s hs).2.1) (gl g hg).2.1 (codesS_ok _ h g hg),(gl g hg).2.1,(gl g hg).2.2,?_⟩,fun s hs=>(sh s hs).2,c3,⟨?_,c2⟩,?_,?_,?_,?_⟩,?_,fun g hg=>nm _ (gl g hg).1,fun s hs=>nm _ (sh s hs).1⟩
 · have:=c1 g hg;omega
 · have:=(at7 6 (by omega)).2;omega
 · have:=(at7 3 (by omega)).1;have e:T.sh 3=T.sh ((3:Nat):Int):=rfl;rw [e,this];rfl
 · have:=(at7 4 (by omega)).1;have e:T.sh 4=T.sh ((4:Nat):Int):=rfl;rw [e,this];rfl
 · have:=(at7 0 (by omega)).1;have e:T.sh 0=T.sh ((0:Nat):Int):=rfl;rw [e,this];rfl
 · have:=(at7 1 (by omega)).1;have e:T.sh 1=T.sh ((1:Nat):Int):=rfl;rw [e,this];rfl
 · have:T.globals.map (·.name)=(glPairs T).map (·.1):=by simp [glPairs]
   rw [this];exact g2
end
end Go.Proofs.YtnjobkbblhaliaaGreatDoor
namespace Go.W
section
open Go Go.ChangeMaps Go.RowKit
theorem ba_beq (a b:ByteArray):(a == b)=decide (a=b):=by
 cases a;cases b;rename_i x y;show (x == y)=_;by_cases h:x=y
 · subst h;simp
 · simp [h]
def MapS (w:World) (b:Nat) (l:List (ByteArray×Int)):Prop:=
 ∃ es clock,w.heap[b]? = some (.map es clock)∧es.toList.map (fun e=>(e.key,e.val))=l.map (fun p=>(.string p.1,I p.2))∧(∀ e∈es.toList,e.born < clock)∧(es.toList.map (·.born)).Nodup
theorem maps_mod {w w':World} {b:Nat} {l:List (ByteArray×Int)} {S:Nat→Prop} (h:MapS w b l) (hm:Mod S w w') (hb:¬ S b):MapS w' b l:=by
 obtain ⟨es,c,h1,h2⟩:=h;exact ⟨es,c,hm.at h1 hb,h2⟩
def sget (l:List (ByteArray×Int)) (k:ByteArray):Option Int:=(l.find? (fun p=>decide (p.1=k))).map (·.2)
def sput (l:List (ByteArray×Int)) (k:ByteArray) (v:Int):List (ByteArray×Int):=match l.findIdx? (fun p=>decide (p.1=k)) with
 | some i=>l.set i (k,v)
 | none=>l++[(k,v)]
theorem findNow_str (k:ByteArray):∀ (es:List MapEntry) (l:List (ByteArray×Int)) (i:Nat),es.map (fun e=>(e.key,e.val))=l.map (fun p=>(.string p.1,I p.2)) →
   Instr.findNow .string (.string k) es i=some ((l.findIdx? (fun p=>decide (p.1=k))).map fun j=>(i+j,I (l.getD j (⟨#[]⟩,0)).2)):=by
 intro es
 induction es with
 | nil=>
   intro l i h;cases l with
   | nil=>rfl
   | cons p l=>simp at h
 | cons e es ih=>
   intro l i h;cases l with
   | nil=>simp at h
   | cons p l=>
     simp only [List.map_cons,List.cons.injEq,Prod.mk.injEq] at h;obtain ⟨⟨h1,h2⟩,h3⟩:=h;have e1:Instr.sameNow .string (.string k) e.key=some (k == p.1):=by rw [h1];simp [Instr.sameNow,I]
     by_cases hk:p.1=k
     · have e2:(k == p.1)=true:=by simp [ba_beq,hk]
       have e3:decide (p.1=k)=true:=by simp [hk]
       rw [e2] at e1;simp [Instr.findNow,e1,List.findIdx?_cons,e3,h2]
     · have e2:(k == p.1)=false:=by simp [ba_beq];exact fun h=>hk h.symm
       have e3:decide (p.1=k)=false:=by simp [hk]
       rw [e2] at e1;simp only [Instr.findNow,e1,ih l (i+1) h3,List.findIdx?_cons,e3];cases l.findIdx? (fun p=>decide (p.1=k)) with
       | none=>rfl
       | some j=>simp [Nat.add_assoc,Nat.add_comm 1 j]
theorem findKey_str {P:Program} {w:World} {kt:TypeId} (hk:P.underlying kt=some .string) (k:ByteArray) (es:List MapEntry) (l:List (ByteArray×Int)) (h:es.map (fun e=>(e.key,e.val))=l.map (fun p=>(.string p.1,I p.2))) :
   (Instr.findKey kt (.string k) es).run P w = .ok ((l.findIdx? (fun p=>decide (p.1=k))).map fun j=>(j,I (l.getD j (⟨#[]⟩,0)).2)) w:=by
 have:=findNow_str k es l 0 h;simp only [Nat.zero_add] at this;simp only [Instr.findKey,Sem.run_bind,run_underlying hk,Result.andThen,this];rfl
theorem checkKey_str' {P:Program} {w:World} {kt:TypeId} (hk:P.underlying kt=some .string) (k:ByteArray) (b:Bool) (n:Nat):(Instr.checkKey b (n+1) kt (.string k)).run P w = .ok () w:=by
 unfold Instr.checkKey;rw [Sem.run_bind,run_underlying hk];rfl
theorem checkKey_str {P:Program} {w:World} {kt:TypeId} (hk:P.underlying kt=some .string) (k:ByteArray) (b:Bool):(Instr.checkKey b 10000 kt (.string k)).run P w = .ok () w:=checkKey_str' hk k b 9999
theorem sget_idx (l:List (ByteArray×Int)) (k:ByteArray):sget l k=(l.findIdx? (fun p=>decide (p.1=k))).map fun j=>(l.getD j (⟨#[]⟩,0)).2:=by
 induction l with
 | nil=>rfl
 | cons p l ih=>
   unfold sget at ih ⊢;by_cases hk:p.1=k
   · have e3:decide (p.1=k)=true:=by simp [hk]
     simp [List.find?_cons,List.findIdx?_cons,e3]
   · have e3:decide (p.1=k)=false:=by simp [hk]
     simp only [List.find?_cons,List.findIdx?_cons,e3,ih];cases l.findIdx? (fun p=>decide (p.1=k))<;>rfl
section
variable {P:Program} {ρ:Env} {w:World} {K:Value→World→Prop} {d:Option Nat} {ty:TypeId} {pos:String} {af:Array Edge}
theorem e_mmS {t:TypeId} (hk:∀ w',MapS w' w.heap.size []→Mod (fun _=>False) w w'→w'.heap.size=w.heap.size+1→K (.map (some w.heap.size)) w') :
   E.wp P w ρ K (.raw ⟨d,.makeMap t none,ty,pos,af,none⟩):=by
 refine opWp_of_run fun a ha=>⟨_,_,?_,hk (w.alloc (.map #[] 0)) ⟨_,_,heap_alloc_new w _,rfl,by simp,by simp⟩ (mod_alloc _ w _) (by simp)⟩
 simp only [execOp,Sem.run_bind,Option.map_none,Go.RowKit.run_makeMap,Result.andThen];rfl
theorem e_lkS {t kt et:TypeId} {m x:Operand} {b:Nat} {k:ByteArray} {l:List (ByteArray×Int)} (hm:(toO m).ev ρ=some (.map (some b))) (hx:(toO x).ev ρ=some (.string k)) (ht:P.underlying t=some (.map kt et)) (hkt:P.underlying kt=some .string)
   (hz:(zeroValue et).run P w = .ok (I 0) w) (h:MapS w b l) (hk:K (.tuple #[I ((sget l k).getD 0),.bool (sget l k).isSome]) w):E.wp P w ρ K (.raw ⟨d,.lookup t m x true,ty,pos,af,none⟩):=by
 obtain ⟨es,clock,h1,h2,_⟩:=h;refine opWp_of_run fun a ha=>⟨_,w,?_,hk⟩
 have hkey:=findKey_str (P:=P) (w:=w) hkt k es.toList l h2;have e1:(Instr.lookup t (.map (some b)) (.string k) true).run P w = .ok (.tuple #[I ((sget l k).getD 0),.bool (sget l k).isSome]) w:=by
   rw [sget_idx];simp only [Instr.lookup,Sem.run_bind,run_underlying ht,Result.andThen,getObj,Sem.run,h1,checkKey_str hkt,Sem.run_pure];cases hI:l.findIdx? (fun p=>decide (p.1=k)) with
   | none=>
     rw [hI] at hkey
     erw [hkey]
     simp [hz,Sem.run_bind,Sem.run_pure,Sem.run,Result.andThen]
   | some j=>
     rw [hI] at hkey
     erw [hkey]
     simp [Sem.run_bind,Sem.run_pure,Sem.run,Result.andThen]
 simp only [execOp,Sem.run_bind,ha m _ hm,ha x _ hx,e1,Result.andThen];rfl
theorem e_l1S {t kt et:TypeId} {m x:Operand} {b:Nat} {k:ByteArray} {l:List (ByteArray×Int)} (hm:(toO m).ev ρ=some (.map (some b))) (hx:(toO x).ev ρ=some (.string k)) (ht:P.underlying t=some (.map kt et)) (hkt:P.underlying kt=some .string)
   (hz:(zeroValue et).run P w = .ok (I 0) w) (h:MapS w b l) (hk:K (I ((sget l k).getD 0)) w):E.wp P w ρ K (.raw ⟨d,.lookup t m x false,ty,pos,af,none⟩):=by
 obtain ⟨es,clock,h1,h2,_⟩:=h;refine opWp_of_run fun a ha=>⟨_,w,?_,hk⟩
 have hkey:=findKey_str (P:=P) (w:=w) hkt k es.toList l h2;have e1:(Instr.lookup t (.map (some b)) (.string k) false).run P w = .ok (I ((sget l k).getD 0)) w:=by
   rw [sget_idx];simp only [Instr.lookup,Sem.run_bind,run_underlying ht,Result.andThen,getObj,Sem.run,h1,checkKey_str hkt,Sem.run_pure];cases hI:l.findIdx? (fun p=>decide (p.1=k)) with
   | none=>
     rw [hI] at hkey
     erw [hkey]
     simp [hz,Sem.run_bind,Sem.run_pure,Sem.run,Result.andThen]
   | some j=>
     rw [hI] at hkey
     erw [hkey]
     simp [Sem.run_bind,Sem.run_pure,Sem.run,Result.andThen]
 simp only [execOp,Sem.run_bind,ha m _ hm,ha x _ hx,e1,Result.andThen];rfl
theorem e_muS {t kt et:TypeId} {m x y:Operand} {b:Nat} {k:ByteArray} {v:Int} {l:List (ByteArray×Int)} (hm:(toO m).ev ρ=some (.map (some b))) (hx:(toO x).ev ρ=some (.string k)) (hy:(toO y).ev ρ=some (I v)) (ht:P.underlying t=some (.map kt et)) (hkt:P.underlying kt=some .string)
   (h:MapS w b l) (hk:∀ w',MapS w' b (sput l k v)→Mod (· = b) w w'→w'.heap.size=w.heap.size→K undef w'):E.wp P w ρ K (.raw ⟨d,.mapUpdate t m x y,ty,pos,af,none⟩):=by
 obtain ⟨es,clock,h1,h2,h3,h4⟩:=h;have hkey:=findKey_str (P:=P) (w:=w) hkt k es.toList l h2;have hsz:es.size=l.length:=by have:=congrArg List.length h2;simpa using this
 cases hI:l.findIdx? (fun p=>decide (p.1=k)) with
 | none=>
   rw [hI] at hkey;have e1:(Instr.mapUpdate t (.map (some b)) (.string k) (I v)).run P w = .ok () (setBlock w b (.map (es.push { key:=.string k,val:=I v,born:=clock}) (clock+1))):=by
     simp only [Instr.mapUpdate,Sem.run_bind,run_underlying ht,Result.andThen,getObj,Sem.run,h1,checkKey_str hkt,Sem.run_pure]
     erw [hkey]
     exact run_setObj_map h1 _
   refine opWp_of_skip fun a ha=>⟨_,?_,hk (setBlock w b (.map (es.push { key:=.string k,val:=I v,born:=clock}) (clock+1))) ⟨_,_,heap_setBlock_same h1 _,?_,?_,?_⟩ (mod_setBlock w b _ h1) (size_setBlock w b _)⟩
   · simp only [execOp,Sem.run_bind,ha m _ hm,ha x _ hx,ha y _ hy,e1,Result.andThen];rfl
   · simp [sput,hI,h2]
   · intro e he;simp only [Array.toList_push,List.mem_append,List.mem_cons,List.not_mem_nil,or_false] at he;rcases he with he | rfl
     · exact Nat.lt_succ_of_lt (h3 e he)
     · exact Nat.lt_succ_self _
   · simp only [Array.toList_push,List.map_append,List.map_cons,List.map_nil];rw [List.nodup_append];refine ⟨h4,by simp,?_⟩;intro x hx y hy hxy;simp only [List.mem_cons,List.not_mem_nil,or_false] at hy;obtain ⟨e,he,rfl⟩:=List.mem_map.1 hx;have:=h3 e he;omega
 | some i=>
   rw [hI] at hkey;have hil:i < l.length:=by
     have:=List.findIdx?_eq_some_iff_getElem.1 hI;exact this.1
   have hie:i < es.size:=by omega
   have hki:(es[i]).key = .string k:=by
     have h5:es.toList[i]'(by simpa using hie)=es[i]:=by simp
     have h6:=congrArg (fun z=>z[i]?) h2;simp only [List.getElem?_map,List.getElem?_eq_getElem (show i < es.toList.length by simpa using hie),List.getElem?_eq_getElem hil,Option.map_some,Option.some.injEq,Prod.mk.injEq] at h6;have h7:=(List.findIdx?_eq_some_iff_getElem.1 hI).2.1;rw [← h5,h6.1];simp at h7;rw [h7]
   have hst:(Instr.keyThatStays (((es[i]?).map (·.key)).getD (.string k)) (.string k)).run P w = .ok (.string k) w:=by
     rw [Array.getElem?_eq_getElem hie,Option.map_some,Option.getD_some,hki];simp [Instr.keyThatStays,Instr.sameBits,ba_beq]
   have e1:(Instr.mapUpdate t (.map (some b)) (.string k) (I v)).run P w = .ok () (setBlock w b (.map (es.modify i fun e=>{ e with key:=.string k,val:=I v}) clock)):=by
     simp only [Instr.mapUpdate,Sem.run_bind,run_underlying ht,Result.andThen,getObj,Sem.run,h1,checkKey_str hkt,Sem.run_pure]
     erw [hkey]
     simp only [Option.map_some,Sem.run_bind,hst,Result.andThen];exact run_setObj_map h1 _
   refine opWp_of_skip fun a ha=>⟨_,?_,hk (setBlock w b (.map (es.modify i fun e=>{ e with key:=.string k,val:=I v}) clock)) ⟨_,_,heap_setBlock_same h1 _,?_,?_,?_⟩ (mod_setBlock w b _ h1) (size_setBlock w b _)⟩
   · simp only [execOp,Sem.run_bind,ha m _ hm,ha x _ hx,ha y _ hy,e1,Result.andThen];rfl
   · simp only [sput,hI];apply List.ext_getElem?;intro j;have h6:=congrArg (fun z=>z[j]?) h2;simp only [List.getElem?_map] at h6 ⊢;rw [Array.toList_modify,List.getElem?_modify,List.getElem?_set];by_cases hij:i=j
     · subst hij;simp [hil,show i < es.toList.length by simpa using hie,hie]
     · rw [if_neg hij]
       simpa [hij] using h6
   · intro e he;rw [Array.toList_modify] at he;obtain ⟨j,hj,rfl⟩:=List.getElem_of_mem he;rw [List.getElem_modify];have hm:es.toList[j]'(by simpa using hj)∈es.toList:=List.getElem_mem _;have h5:=h3 _ hm
     split<;>exact h5
   · have:(es.modify i fun e=>{ e with key:=.string k,val:=I v}).toList.map (·.born)=es.toList.map (·.born):=by
       apply List.ext_getElem?;intro j;rw [Array.toList_modify];simp only [List.getElem?_map,List.getElem?_modify];by_cases hij:i=j
       · subst hij;cases es.toList[i]?<;>simp
       · simp [hij]
     rw [this];exact h4
theorem e_clS {t kt et:TypeId} {at':Array TypeId} {m:Operand} {b:Nat} {l:List (ByteArray×Int)} (hat:at'[0]? = some t) (hm:(toO m).ev ρ=some (.map (some b))) (ht:P.underlying t=some (.map kt et))
   (h:MapS w b l) (hk:∀ w',MapS w' b []→Mod (· = b) w w'→w'.heap.size=w.heap.size→K (.tuple #[]) w'):E.wp P w ρ K (.raw ⟨d,.call { callee:=.builtin .clear,args:=#[m],argTypes:=at'},ty,pos,af,none⟩):=by
 obtain ⟨es,clock,h1,h2,h3,h4⟩:=h;refine opWp_of_run fun a ha=>⟨_,_,?_,hk (setBlock w b (.map #[] clock)) ⟨_,_,heap_setBlock_same h1 _,rfl,by simp,by simp⟩ (mod_setBlock w b _ h1) (size_setBlock w b _)⟩
 have a0:(#[Value.map (some b)]:Array Value)[0]? = some (.map (some b)):=rfl;have e1:(Builtin.clear_ at' ty #[.map (some b)]).run P w = .ok (.tuple #[]) (setBlock w b (.map #[] clock)):=by
   simp only [Builtin.clear_,hat,a0,Sem.run_bind,run_underlying ht,Result.andThen,getObj,Sem.run,h1,Sem.run_pure];simp only [run_setObj_map h1]
 simp only [execOp,resolve,invoke,builtin,Sem.run_bind,Sem.run_pure,Result.andThen,List.map_toArray,List.map_cons,List.map_nil,ha m _ hm]
 erw [e1]
end
end
section
open Go
section
variable {P:Program} {ρ:Env} {w:World} {K:Value→World→Prop} {d:Option Nat} {ty:TypeId} {pos:String} {af:Array Edge}
def pevA (ρ:Env):List (Nat×Operand)→Option (List (Nat×Value))
 | []=>some []
 | (i,x)::r=>match (toO x).ev ρ,pevA ρ r with
   | some v,some l=>some ((i,v)::l)
   | _,_=>none
theorem pevA_eval {a:Act} (ha:∀ (x:Operand) (v:Value),(toO x).ev ρ=some v→a.eval x=v):∀ (l:List (Nat×Operand)) (vs:List (Nat×Value)),pevA ρ l=some vs→l.map (fun p=>(p.1,a.eval p.2))=vs:=by
 intro l
 induction l with
 | nil=>intro vs h;simp only [pevA,Option.some.injEq] at h;subst h;rfl
 | cons p l ih=>
   intro vs h;obtain ⟨i,x⟩:=p;simp only [pevA] at h;cases hx:(toO x).ev ρ with
   | none=>simp [hx] at h
   | some v=>
     cases hl:pevA ρ l with
     | none=>simp [hx,hl] at h
     | some vs'=>
       simp only [hx,hl,Option.some.injEq] at h;subst h;simp only [List.map_cons,ha x v hx,ih vs' hl]
theorem e_bdA {t el:TypeId} {len n:Nat} {parts:Array (Nat×Operand)} {z:Value} {vs:List (Nat×Value)} {out:Array Value} (ht:P.underlying t=some (.array len el)) (hz:(P.info? t).bind (·.zero)=some z) (hn:szOf P el=some n)
   (hp:pevA ρ parts.toList=some vs) (hf:Instr.fill (fun i=>some (i*n,n)) z.cells vs=some out) (hk:K (.agg out) w):E.wp P w ρ K (.raw ⟨d,.build t parts,ty,pos,af,none⟩):=by
 refine opWp_of_run fun a ha=>⟨_,w,?_,hk⟩
 have e0:(parts.map fun (i,x)=>(i,a.eval x)).toList=vs:=by
   rw [← pevA_eval ha parts.toList vs hp];simp
 have g1:ro P w (underlying t)=some (.array len el):=by rw [ro_underlying,ht]
 have g2:ro P w (sizeOf el)=some n:=by rw [ro_sizeOf];exact hn
 have g3:ro P w (zeroValue t)=some z:=by rw [ro_zeroValue];exact hz
 simp only [execOp,Instr.build,Sem.run_bind,ro_run g1,ro_run g2,ro_run g3,Result.andThen_ok,e0,hf,Sem.run_pure]
theorem e_iaA {t el:TypeId} {len n:Nat} {x i:Operand} {a:Addr} {k:IntKind} {j:Int} (ht:P.underlying t=some (.array len el)) (hn:szOf P el=some n) (hx:(toO x).ev ρ=some (.pointer (some a))) (hi:(toO i).ev ρ=some (.int k j)) (hj:0≤j∧j < len)
   (hk:K (.pointer (some (a.add (j.toNat*n)))) w):E.wp P w ρ K (.raw ⟨d,.indexAddr t x i,ty,pos,af,none⟩):=by
 refine opWp_of_run fun a' ha=>⟨_,w,?_,hk⟩
 have g1:ro P w (underlying t)=some (.array len el):=by rw [ro_underlying,ht]
 have g2:ro P w (sizeOf el)=some n:=by rw [ro_sizeOf];exact hn
 simp only [execOp,ha x _ hx,ha i _ hi,Instr.indexAt,Instr.sureAddr,asIntOf,Sem.run_bind,ro_run g1,ro_run g2,Result.andThen_ok,Sem.run_pure,hj,and_self,if_true]
end
end
end Go.W
namespace Go.Proofs.YtnjobkbblhaliaaGreatDoor
section
open Go Go.W
theorem f_isName (w:World) (b:ByteArray) (hb:b.size≤4611686018427387904):CallsR Tryz.prog 104 [.string b] w fun r w'=>r = .bool (isNameS b)∧w=w':=by
 have hsz:b.data.toList.length=b.size:=by
   show b.data.toList.length=b.data.size;exact Array.length_toList
 refine fit104.calls rfl ?_;unfold ir104;(try simp only [go_sem,simprocAttr]);refine ir_loop (fun z ρ w'=>∃ i:Nat,z=b.size - i∧i≤b.size∧w=w'∧(∀ j,(hj:j < b.data.toList.length)→j < i→32≤(b.data.toList[j]).toNat∧(b.data.toList[j]).toNat≤126)∧ρ=[(0,.string b),(5,I b.size),(6,I i)]) b.size ⟨0,rfl,by omega,rfl,fun j _ h=>absurd h (Nat.not_lt_zero j),rfl⟩ ?_;rintro z ρ _ ⟨i,rfl,hi,rfl,hall,rfl⟩;unfold ir104L1;(try simp only [go_sem,simprocAttr]);refine ir_cond rfl (fun hlt=>?_) (fun hlt=>?_)
 · have hlt:i < b.size:=by simpa using hlt
   have hil:i < b.data.toList.length:=by omega
   have c1:b[i]? = some (b.data.toList[i]):=by
     rw [getElem?_pos b i hlt];rfl
   have z0:(0:Int)≤i:=by omega
   have e1:IntKind.i64.wrap ((i:Int)+1)=((i+1:Nat):Int):=by rw [wrap_in (by omega) (by omega)];omega
   generalize hc:b.data.toList[i]=c at c1;(try simp only [go_sem,simprocAttr,zb4,zb6,c1,z0]);refine wpS_cut (fun ρ w'=>w=w'∧ρ.get 0=some (.string b)∧ρ.get 5=some (I b.size)∧ρ.get 6=some (I i)∧ρ.get 18=some (.bool (decide ((c.toNat:Int) < 32∨(c.toNat:Int) > 126)))) ?_ ?_
   · cases h1:decide ((c.toNat:Int) < 32)<;>(try simp only [go_sem,simprocAttr,zb4,zb6,h1,c1,z0])<;>(simp only [zb1,zb2,zb3,zb4,zb5] at h1;simp [h1])
   rintro ρ _ ⟨rfl,r0,r5,r6,r18⟩;(try simp only [go_sem,simprocAttr,r0,r5,r6,r18]);refine ir_cond rfl (fun hh=>?_) (fun hh=>?_)
   · simp only [zb1,zb2,zb3,zb4,zb5] at hh;(try simp only [go_sem,simprocAttr]);have e:isNameS b=false:=by
       unfold isNameS;have:b.data.toList.all (fun c=>decide (32≤c.toNat)&&decide (c.toNat≤126))=false:=by
         rw [List.all_eq_false];refine ⟨c,by rw [← hc];exact List.getElem_mem hil,?_⟩;simp only [Bool.and_eq_true,decide_eq_true_eq];omega
       rw [this];rfl
     rw [e]
   · simp only [zb1,zb2,zb3,zb4,zb5] at hh;(try simp only [go_sem,simprocAttr,e1]);refine ⟨_,by omega,i+1,rfl,by omega,fun j hj hji=>?_,rfl⟩;by_cases hji':j < i
     · exact hall j hj hji'
     · obtain rfl:j=i:=by omega
       rw [hc];omega
 · have hlt:¬ i < b.size:=by simpa using hlt
   obtain rfl:i=b.size:=by omega
   (try simp only [go_sem,simprocAttr]);have e:isNameS b=(decide ((b.size:Int)≥1)&&decide ((b.size:Int)≤4096)):=by
     unfold isNameS;have:b.data.toList.all (fun c=>decide (32≤c.toNat)&&decide (c.toNat≤126))=true:=by
       rw [List.all_eq_true];intro c hc;obtain ⟨j,hj,rfl⟩:=List.getElem_of_mem hc;have:=hall j hj (by omega);simp only [Bool.and_eq_true,decide_eq_true_eq];exact this
     rw [this,hsz,Bool.true_and]
     congr 1
     · exact decide_eq_decide.2 (by omega)
     · exact decide_eq_decide.2 (by omega)
   rw [e];cases h1:decide ((b.size:Int)≥1)<;>(try simp only [go_sem,simprocAttr,h1,Bool.true_and,Bool.false_and])
theorem f_given (w:World):CallsR Tryz.prog 105 [] w fun r w'=>r = .slice (some ⟨w.heap.size,0,none⟩) 7 7∧w'.heap[w.heap.size]? = some (.cells (givenS.flatMap shRow).toArray 47 (0,0))∧Mod (fun _=>False) w w':=by
 refine fit105.calls rfl ?_;unfold ir105;(try simp only [go_sem,simprocAttr]);refine e_bs (by rfl) (by rfl) ?_;intro w1 hb1 hm1 _;(try simp only [go_sem,simprocAttr]);exact ⟨hb1,hm1⟩
structure TabFit (T:Tab):Prop where
 gn:T.globals.length≤17592186044416
 sn:T.shapes.length≤17592186044416
 code:∀ g∈T.globals,g.code.length≤17592186044416
 gname:∀ g∈T.globals,g.name.size≤4611686018427387904
 sname:∀ s∈T.shapes,s.name.size≤4611686018427387904
 xa:∀ g∈T.globals,∀ x∈g.code,x.a≤9223372036854775807
def tabV (vsh vgl:Value):Value:=.agg #[vsh,vgl]
theorem tab_sl {w:World} {vsh vgl:Value} {T:Tab} {B:Nat→Prop} (h:TabAt w vsh vgl T B):(∃ a c,vsh = .slice a T.shapes.length c)∧∃ a c,vgl = .slice a T.globals.length c:=by
 obtain ⟨⟨a,c,rfl,_⟩,codes,h2,⟨a',c',rfl,_⟩,_⟩:=h;exact ⟨⟨a,c,by simp⟩,a',c',by simp [h2]⟩
theorem gl_idx {T:Tab} {i:Nat} (hi:i < T.globals.length):T.gl i=T.globals[i]:=by unfold Tab.gl;rw [Int.toNat_natCast,List.getD_eq_getElem?_getD,List.getElem?_eq_getElem hi];rfl
def glV (g:Gl) (cv:Value):Value:=.agg #[.string g.name,I g.arity,cv]
theorem glob_ln {w:World} {vsh vgl:Value} {T:Tab} {B:Nat→Prop} (h:TabAt w vsh vgl T B) {i:Nat} (hi:i < T.globals.length) :
   ∃ ad c cv,vgl = .slice (some ad) T.globals.length c∧vLN w 3 (.pointer (some (ad.add (i*3))))=some (glV T.globals[i] cv)∧RowsAt w cv 3 (T.globals[i].code.map insRow) B:=by
 obtain ⟨ad,c,cv,h1,_,h2,h3,h4,h5⟩:=glob_at h hi;rw [gl_idx hi] at h2 h3 h5;exact ⟨ad,c,cv,h1,ln_3 h2 h3 h4,h5⟩
theorem rows_sl {w:World} {v:Value} {sz:Nat} {rows:List (List Value)} {B:Nat→Prop} (h:RowsAt w v sz rows B):∃ a c,v = .slice a rows.length c:=by
 obtain ⟨a,c,e,_⟩:=h;exact ⟨a,c,e⟩
def codeSum (l:List Gl):Nat:=(l.map (·.code.length)).sum
theorem greatS_mid {T:Tab}:greatS T=(T.globals.any (fun g=>decide (g.code.length > 8000))||(decide (T.shapes.length > 2000)||decide (T.globals.length > 2000)||decide ((T.globals.map (·.code.length)).sum > 200000))):=by
 unfold greatS;simp only [Bool.or_assoc]
theorem f_great {w:World} {vsh vgl:Value} {T:Tab} {B:Nat→Prop} (h:TabAt w vsh vgl T B) (hT:TabFit T):CallsR Tryz.prog 103 [tabV vsh vgl] w fun r w'=>r = .bool (greatS T)∧Mod (fun _=>False) w w':=by
 obtain ⟨⟨aS,cS,rfl⟩,aG,cG,rfl⟩:=tab_sl h;refine fit103.calls rfl ?_;unfold ir103 tabV;(try simp only [go_sem,simprocAttr]);refine e_bx rfl ?_;intro w1 hb1 hm1 hs1;(try simp only [go_sem,simprocAttr,cell_of hb1,Value.cells])
 refine ir_loop (fun z ρ w'=>∃ i:Nat,z=T.globals.length - i∧i≤T.globals.length∧Mod (fun _=>False) w w'∧w'.heap[w.heap.size]? = some (.cells #[.slice aS T.shapes.length cS,.slice aG T.globals.length cG] 25 (0,0))∧(∀ g∈T.globals.take i,g.code.length≤8000) ∧
   ρ=[(1,ptr w.heap.size),(3,I (codeSum (T.globals.take i):Nat)),(7,.slice aG T.globals.length cG),(8,I T.globals.length),(9,I i)]) T.globals.length ⟨0,rfl,by omega,hm1,hb1,(fun g hg=>by simp at hg),rfl⟩ ?_
 rintro z ρ w2 ⟨i,rfl,hi,hm2,hb2,hall,rfl⟩;have hsum:∀ l:List Gl,(∀ g∈l,g.code.length≤8000)→codeSum l≤8000*l.length:=by
   intro l
   induction l with
   | nil=>intro _;simp [codeSum]
   | cons g l ih=>
     intro hl;have h1:=ih (fun g hg=>hl g (by simp [hg]));have h2:=hl g (by simp);unfold codeSum at h1 ⊢;simp only [List.map_cons,List.sum_cons,List.length_cons];omega
 have hs2:=hsum _ hall;rw [List.length_take] at hs2;unfold ir103L1;(try simp only [go_sem,simprocAttr]);refine ir_cond rfl (fun hlt=>?_) (fun hlt=>?_)
 · have hlt:i < T.globals.length:=by simpa using hlt
   obtain ⟨ad,c,cv,e',hln,hrows⟩:=glob_ln (h.mod hm2 (fun _ _ h=>h) (fun _ h=>h)) hlt;cases e';obtain ⟨acv,ccv,hcv⟩:=rows_sl hrows;rw [List.length_map] at hcv;have hgn:=hT.gn;have hcl:=hT.code _ (List.getElem_mem hlt);have b1:(0:Int)≤i∧(i:Int) < T.globals.length:=by omega
   generalize hg:T.globals[i]=g at *;subst hcv;(try simp only [go_sem,simprocAttr,zb4,zb6,b1,hln,glV]);refine e_al ?_;intro w3 hb3 hm3 _;refine e_sta (cs:=[.string ⟨#[]⟩,I 0,.slice none 0 0]) rfl rfl hb3 rfl rfl (by simp [Value.oneCell']) ?_;intro w4 hb4 hm4 _;have hm24:Mod (fun _=>False) w2 w4:=hm3.step hm4 (fun x hx hl=>by subst hx;omega);have e1:IntKind.i64.wrap ((codeSum (T.globals.take i):Int)+g.code.length)=(codeSum (T.globals.take (i+1)):Nat):=by
     rw [wrap_in (by omega) (by omega),List.take_succ_eq_append_getElem hlt,hg];unfold codeSum;rw [List.map_append,List.sum_append];simp
   have e2:IntKind.i64.wrap ((i:Int)+1)=((i+1:Nat):Int):=by rw [wrap_in (by omega) (by omega)];omega
   (try simp only [go_sem,simprocAttr,cell_of hb4,e1,e2]);refine ir_cond rfl (fun h8=>?_) (fun h8=>?_)
   · simp only [zb1,zb2,zb3,zb4,zb5] at h8;(try simp only [go_sem,simprocAttr]);refine ⟨?_,hm2.trans hm24⟩;have:T.globals.any (fun g=>decide (g.code.length > 8000))=true:=List.any_eq_true.2 ⟨g,by rw [← hg];exact List.getElem_mem hlt,by simp;omega⟩;rw [greatS_mid,this];rfl
   · simp only [zb1,zb2,zb3,zb4,zb5] at h8;(try simp only [go_sem,simprocAttr,e1,e2]);refine ⟨_,by omega,i+1,rfl,by omega,hm2.trans hm24,hm24.at hb2 (fun h=>h),fun g' hg'=>?_,rfl⟩;rw [List.take_succ_eq_append_getElem hlt,hg] at hg';rcases List.mem_append.1 hg' with h1 | h1
     · exact hall g' h1
     · obtain rfl:=List.mem_singleton.1 h1;omega
 · have hlt:¬ i < T.globals.length:=by simpa using hlt
   obtain rfl:i=T.globals.length:=by omega
   rw [List.take_length] at *;have e0:T.globals.any (fun g=>decide (g.code.length > 8000))=false:=by
     rw [List.any_eq_false];intro g hg;have:=hall g hg;simp;omega
   rw [greatS_mid,e0,Bool.false_or];have c1:decide (T.shapes.length > 2000)=decide ((T.shapes.length:Int) > 2000):=decide_eq_decide.2 (by omega);have c2:decide (T.globals.length > 2000)=decide ((T.globals.length:Int) > 2000):=decide_eq_decide.2 (by omega);have c3:decide ((T.globals.map (·.code.length)).sum > 200000)=decide ((codeSum T.globals:Int) > 200000):=decide_eq_decide.2 (by unfold codeSum;omega);rw [c1,c2,c3];cases h1:decide ((T.shapes.length:Int) > 2000)<;>cases h2:decide ((T.globals.length:Int) > 2000)<;>(try simp only [go_sem,simprocAttr,cell_of hb2,h1,h2,Bool.true_or,Bool.false_or])<;>exact hm2
end
section
open Go Go.W
def formZero:List Value:=[.string ⟨#[]⟩,I 0,I 0,.string ⟨#[]⟩,I 0,I 0,.string ⟨#[]⟩,I 0,I 0,.string ⟨#[]⟩,I 0,I 0,.string ⟨#[]⟩,I 0,I 0,.string ⟨#[]⟩,I 0,I 0,.string ⟨#[]⟩,I 0,I 0,.string ⟨#[]⟩,I 0,I 0,.string ⟨#[]⟩,I 0,I 0,.string ⟨#[]⟩,I 0,I 0,.string ⟨#[]⟩,I 0,I 0,.string ⟨#[]⟩,I 0,I 0,.string ⟨#[]⟩,I 0,I 0,.string ⟨#[]⟩,I 0,I 0,.string ⟨#[]⟩,I 0,I 0,.string ⟨#[]⟩,I 0,I 0,.string ⟨#[]⟩,I 0,I 0,.string ⟨#[]⟩,I 0,I 0]
def formCells:List Value:=[.string ⟨#[]⟩,I 0,I 0,.string ⟨#[112,117,115,104]⟩,I 1,I 0,.string ⟨#[103,108,111,98]⟩,I 4,I 0,.string ⟨#[105,110,116]⟩,I 3,I 0,.string ⟨#[112,111,112]⟩,I 1,I 0,.string ⟨#[115,108,105,100,101]⟩,I 1,I 0,.string ⟨#[97,112,112,108,121]⟩,I 0,I 0,.string ⟨#[117,112,100,97,116,101]⟩,I 2,I 0,.string ⟨#[97,108,108,111,99]⟩,I 1,I 0,.string ⟨#[112,97,99,107]⟩,I 5,I 0,.string ⟨#[115,112,108,105,116]⟩,I 5,I 0,.string ⟨#[101,118,97,108]⟩,I 0,I 0,.string ⟨#[97,114,105,116,104]⟩,I 6,I 0,.string ⟨#[106,117,109,112]⟩,I 8,I 0,.string ⟨#[116,101,115,116,99,111,110]⟩,I 5,I 8,.string ⟨#[116,101,115,116,105,110,116]⟩,I 3,I 8,.string ⟨#[102,97,105,108]⟩,I 7,I 0,.string ⟨#[117,110,119,105,110,100]⟩,I 0,I 0]
theorem form_info:(Tryz.prog.info? 220).bind (·.zero)=some (.agg formZero.toArray):=by kernel_rfl
theorem form_arr:Tryz.prog.underlying 220=some (.array 18 194):=by kernel_rfl
theorem form_sz:szOf Tryz.prog 194=some 3:=by kernel_rfl
def formParts:List (Nat×Value):=[(0,.agg #[.string ⟨#[]⟩,I 0,I 0]),(1,.agg #[.string ⟨#[112,117,115,104]⟩,I 1,I 0]),(2,.agg #[.string ⟨#[103,108,111,98]⟩,I 4,I 0]),(3,.agg #[.string ⟨#[105,110,116]⟩,I 3,I 0]),(4,.agg #[.string ⟨#[112,111,112]⟩,I 1,I 0]),(5,.agg #[.string ⟨#[115,108,105,100,101]⟩,I 1,I 0]),(6,.agg #[.string ⟨#[97,112,112,108,121]⟩,I 0,I 0]),(7,.agg #[.string ⟨#[117,112,100,97,116,101]⟩,I 2,I 0]),(8,.agg #[.string ⟨#[97,108,108,111,99]⟩,I 1,I 0]),(9,.agg #[.string ⟨#[112,97,99,107]⟩,I 5,I 0]),(10,.agg #[.string ⟨#[115,112,108,105,116]⟩,I 5,I 0]),(11,.agg #[.string ⟨#[101,118,97,108]⟩,I 0,I 0]),(12,.agg #[.string ⟨#[97,114,105,116,104]⟩,I 6,I 0]),(13,.agg #[.string ⟨#[106,117,109,112]⟩,I 8,I 0]),(14,.agg #[.string ⟨#[116,101,115,116,99,111,110]⟩,I 5,I 8]),(15,.agg #[.string ⟨#[116,101,115,116,105,110,116]⟩,I 3,I 8]),(16,.agg #[.string ⟨#[102,97,105,108]⟩,I 7,I 0]),(17,.agg #[.string ⟨#[117,110,119,105,110,100]⟩,I 0,I 0])]
theorem form_fill:Instr.fill (fun i=>some (i*3,3)) (Value.agg formZero.toArray).cells formParts=some formCells.toArray:=by kernel_rfl
theorem formCells_one:∀ u∈formCells,u.oneCell'=true:=by decide
theorem form_ln {w:World} {b:Nat} (h:w.heap[b]? = some (.cells formCells.toArray 220 (0,0))) {o:Nat} (ho:1≤o∧o≤17):∃ s a b',formS (o:Int)=some (a,b')∧0≤a∧a≤8∧0≤b'∧b'≤8∧vLN w 3 (.pointer (some ⟨b,o*3,none⟩))=some (.agg #[.string s,I a,I b']):=by
 have hl:formCells.length=54:=rfl;have:=ln_of (off:=o*3) (n:=3) h (by rw [hl];omega);rcases upto17 ho with rfl | rfl | rfl | rfl | rfl | rfl | rfl | rfl | rfl | rfl | rfl | rfl | rfl | rfl | rfl | rfl | rfl<;>exact ⟨_,_,_,rfl,by decide,by decide,by decide,by decide,this⟩
theorem form_none {op:Int} (h:op < 1∨op≥18):formS op=none:=by
 unfold formS
 repeat rw [if_neg (by omega)]
theorem f_forms (w:World) (op:Int):CallsR Tryz.prog 147 [I op] w fun r w'=>(∃ s a b,r = .tuple #[.agg #[.string s,I a,I b],.bool (formS op).isSome]∧(∀ p,formS op=some p→p=(a,b)∧0≤a∧a≤8∧0≤b∧b≤8))∧Mod (fun _=>False) w w':=by
 refine fit147.calls rfl ?_;unfold ir147;(try simp only [go_sem,simprocAttr]);refine e_al ?_;intro w1 hb1 hm1 _;(try simp only [go_sem,simprocAttr]);refine e_bdA (vs:=formParts) form_arr form_info form_sz (by rfl) form_fill ?_;(try simp only [go_sem,simprocAttr]);refine e_al ?_;intro w2 hb2 hm2 _;refine e_sta (cs:=formZero) rfl rfl hb2 rfl rfl formCells_one ?_;intro w3 hb3 hm3 _;have l1:=lt_of_heap hb1;have hm13:Mod (fun _=>False) w1 w3:=hm2.step hm3 (fun x hx hl=>by subst hx;omega);have hb13:=hm13.at hb1 (fun h=>h);(try simp only [go_sem,simprocAttr]);refine wpS_cut (fun ρ w'=>w3=w'∧ρ.get 0=some (I op)∧ρ.get 2=some (ptr w.heap.size)∧ρ.get 4=some (ptr w1.heap.size)∧ρ.get 29=some (.bool (decide (op < 1∨op≥18)))) ?_ ?_
 · cases h1:decide (op < 1)<;>(try simp only [go_sem,simprocAttr,h1])<;>(simp only [zb1,zb2,zb3,zb4,zb5] at h1;simp [h1])
 rintro ρ _ ⟨rfl,r0,r2,r4,r29⟩;(try simp only [go_sem,simprocAttr,r0,r2,r4,r29]);refine ir_cond rfl (fun hh=>?_) (fun hh=>?_)
 · simp only [zb1,zb2,zb3,zb4,zb5] at hh;(try simp only [go_sem,simprocAttr,ptr]);refine e_sta (cs:=[.string ⟨#[]⟩,I 0,I 0]) rfl rfl hb13 rfl rfl (by simp [Value.oneCell']) ?_;intro w4 hb4 hm4 _;(try simp only [go_sem,simprocAttr,ln_of (cs:=[_,_,_]) (off:=0) (n:=3) hb4 (by simp)]);rw [form_none hh];exact ⟨⟨_,_,_,rfl,fun p hp=>by cases hp⟩,(hm1.trans hm13).step hm4 (fun x hx hl=>by subst hx;omega)⟩
 · simp only [zb1,zb2,zb3,zb4,zb5] at hh;obtain ⟨o,ho⟩:∃ o:Nat,op=o:=⟨op.toNat,by omega⟩;subst ho;obtain ⟨s,a,b,hf,ha1,ha2,hb1',hb2',hln⟩:=form_ln hb3 (o:=o) (by omega);(try simp only [go_sem,simprocAttr,ptr]);refine e_iaA form_arr form_sz (by rfl) (by rfl) (j:=(o:Int)) ⟨by omega,by omega⟩ ?_;(try simp only [go_sem,simprocAttr,zb4,zb6,add_at,hln]);refine e_sta (cs:=[.string ⟨#[]⟩,I 0,I 0]) rfl rfl hb13 rfl rfl (by simp [Value.oneCell']) ?_;intro w4 hb4 hm4 _;(try simp only [go_sem,simprocAttr,ln_of (cs:=[_,_,_]) (off:=0) (n:=3) hb4 (by simp)]);rw [hf];exact ⟨⟨_,_,_,rfl,fun p hp=>by cases hp;exact ⟨rfl,ha1,ha2,hb1',hb2'⟩⟩,(hm1.trans hm13).step hm4 (fun x hx hl=>by subst hx;omega)⟩
theorem f_reach {w:World} {b:Nat} {D:List Int} (hb:w.heap[b]? = some (.cells (D.map I).toArray 3 (0,0))) {a d:Int} (ha:0≤a∧a < D.length) :
   CallsR Tryz.prog 150 [.slice (some ⟨b,0,none⟩) D.length D.length,I a,I d] w fun r w'=>r = .bool (decide ((noteS D a d).getD a.toNat 0=d))∧w'.heap[b]? = some (.cells ((noteS D a d).map I).toArray 3 (0,0))∧Mod (· = b) w w':=by
 obtain ⟨i,rfl⟩:∃ i:Nat,a=i:=⟨a.toNat,by omega⟩;rw [Int.toNat_natCast];have hi:i < D.length:=by omega
 have hc:=ints_at hb hi;refine fit150.calls rfl ?_;unfold ir150;(try simp only [go_sem,simprocAttr,zb4,zb6,ha,add_at,hc]);have hr:∀ (D':List Int) (w':World),D'.length=D.length→w'.heap[b]? = some (.cells (D'.map I).toArray 3 (0,0))→w'.cell? ⟨b,i,none⟩=some (I (D'.getD i 0)):=fun D' w' hl h=>ints_at h (by omega)
 have hbe:∀ y:Int,(y == d)=decide (y=d):=fun y=>by by_cases h:y=d<;>simp [h]
 refine ir_cond rfl (fun hz=>?_) (fun hz=>?_)
 · simp only [zb1,zb2,zb3,zb4,zb5] at hz;have hN:noteS D i d=D.set i d:=by unfold noteS;rw [Int.toNat_natCast,if_pos hz]
   rw [hN];(try simp only [go_sem,simprocAttr,zb4,zb6,ha,add_at]);refine e_st1 (off:=i) rfl rfl hb rfl (by simpa using hi) ?_;intro w1 hb1 hm1 _;have hb1':w1.heap[b]? = some (.cells ((D.set i d).map I).toArray 3 (0,0)):=by rw [hb1,List.map_set]
   have hc1:=hr _ _ (by simp) hb1';(try simp only [go_sem,simprocAttr,zb4,zb6,ha,add_at,hc1,hbe]);exact ⟨hb1',hm1⟩
 · simp only [zb1,zb2,zb3,zb4,zb5] at hz;have hN:noteS D i d=D:=by unfold noteS;rw [Int.toNat_natCast,if_neg hz]
   rw [hN];(try simp only [go_sem,simprocAttr,zb4,zb6,ha,add_at,hc,hbe]);exact ⟨hb,Mod.refl _ _⟩
end
section
open Go Go.W
theorem ieq (a b:Int):(a == b)=decide (a=b):=by by_cases h:a=b<;>simp [h]
theorem f_number {w:World} {vsh vgl:Value} {T:Tab} {B:Nat→Prop} (h:TabAt w vsh vgl T B) {g:Gl} {ac:Option Addr} {cc:Nat} (i:Nat) (n:Int) {kind:Int} (hk:0≤kind∧kind≤8) :
   CallsR Tryz.prog 148 [tabV vsh vgl,glV g (.slice ac g.code.length cc),I i,I n,I kind] w fun r w'=>r=I (numberS T g.code.length i n kind)∧Mod (fun _=>False) w w':=by
 obtain ⟨⟨aS,cS,rfl⟩,aG,cG,rfl⟩:=tab_sl h;refine fit148.calls rfl ?_;unfold ir148 tabV glV;(try simp only [go_sem,Nat.reduceAdd,Nat.reduceEqDiff,Nat.reduceLT,Nat.reduceLeDiff,Nat.reduceMul,reduceCtorEq,↓reduceIte]);refine e_bx rfl ?_;intro w1 hb1 hm1 _;(try simp only [go_sem,Nat.reduceAdd,Nat.reduceEqDiff,Nat.reduceLT,Nat.reduceLeDiff,Nat.reduceMul,reduceCtorEq,↓reduceIte]);refine e_bx rfl ?_;intro w2 hb2 hm2 _;have hb12:=hm2.at hb1 (fun h=>h);have hm02:=hm1.trans hm2;(try simp only [go_sem,Nat.reduceAdd,Nat.reduceEqDiff,Nat.reduceLT,Nat.reduceLeDiff,Nat.reduceMul,reduceCtorEq,↓reduceIte]);refine ir_blk (fun ρ w'=>w2=w'∧((kind≠8∧ρ.get 11=some (.bool (kindB T n kind)))∨(kind=8∧numberS T g.code.length i n kind=0∧ρ.get 11=some (.bool true)))) ?_ ?_
 · refine ir_cond rfl (fun hk0=>?_) (fun hk0=>?_)
   · simp only [zb1,zb2,zb3,zb4,zb5] at hk0;subst hk0;(try simp only [go_sem,Nat.reduceAdd,Nat.reduceEqDiff,Nat.reduceLT,Nat.reduceLeDiff,Nat.reduceMul,reduceCtorEq,↓reduceIte]);exact .inl ⟨by decide,by rw [ieq];rfl⟩
   simp only [zb1,zb2,zb3,zb4,zb5] at hk0;(try simp only [go_sem,Nat.reduceAdd,Nat.reduceEqDiff,Nat.reduceLT,Nat.reduceLeDiff,Nat.reduceMul,reduceCtorEq,↓reduceIte]);refine ir_cond rfl (fun hk1=>?_) (fun hk1=>?_)
   · simp only [zb1,zb2,zb3,zb4,zb5] at hk1;subst hk1;(try simp only [go_sem,Nat.reduceAdd,Nat.reduceEqDiff,Nat.reduceLT,Nat.reduceLeDiff,Nat.reduceMul,reduceCtorEq,↓reduceIte]);exact .inl ⟨by decide,rfl⟩
   simp only [zb1,zb2,zb3,zb4,zb5] at hk1;(try simp only [go_sem,Nat.reduceAdd,Nat.reduceEqDiff,Nat.reduceLT,Nat.reduceLeDiff,Nat.reduceMul,reduceCtorEq,↓reduceIte]);refine ir_cond rfl (fun hk2=>?_) (fun hk2=>?_)
   · simp only [zb1,zb2,zb3,zb4,zb5] at hk2;subst hk2;(try simp only [go_sem,Nat.reduceAdd,Nat.reduceEqDiff,Nat.reduceLT,Nat.reduceLeDiff,Nat.reduceMul,reduceCtorEq,↓reduceIte]);exact .inl ⟨by decide,rfl⟩
   simp only [zb1,zb2,zb3,zb4,zb5] at hk2;(try simp only [go_sem,Nat.reduceAdd,Nat.reduceEqDiff,Nat.reduceLT,Nat.reduceLeDiff,Nat.reduceMul,reduceCtorEq,↓reduceIte]);refine ir_cond rfl (fun hk3=>?_) (fun hk3=>?_)
   · simp only [zb1,zb2,zb3,zb4,zb5] at hk3;subst hk3;have e:kindB T n 3=decide (n ≥ -4611686018427387904∧n≤4611686018427387903):=rfl;rw [e];cases h1:decide (n ≥ -4611686018427387904)<;>(try simp only [go_sem,Nat.reduceAdd,Nat.reduceEqDiff,Nat.reduceLT,Nat.reduceLeDiff,Nat.reduceMul,reduceCtorEq,↓reduceIte,h1])<;>(simp only [zb1,zb2,zb3,zb4,zb5] at h1;simp [h1])
   simp only [zb1,zb2,zb3,zb4,zb5] at hk3;(try simp only [go_sem,Nat.reduceAdd,Nat.reduceEqDiff,Nat.reduceLT,Nat.reduceLeDiff,Nat.reduceMul,reduceCtorEq,↓reduceIte]);refine ir_cond rfl (fun hk4=>?_) (fun hk4=>?_)
   · simp only [zb1,zb2,zb3,zb4,zb5] at hk4;subst hk4;have e:kindB T n 4=decide (n≥0∧n < T.globals.length):=rfl;rw [e];cases h1:decide (n≥0)<;>(try simp only [go_sem,Nat.reduceAdd,Nat.reduceEqDiff,Nat.reduceLT,Nat.reduceLeDiff,Nat.reduceMul,reduceCtorEq,↓reduceIte,h1,cell_of hb12,Value.cells])<;>(simp only [zb1,zb2,zb3,zb4,zb5] at h1;simp [h1])
   simp only [zb1,zb2,zb3,zb4,zb5] at hk4;(try simp only [go_sem,Nat.reduceAdd,Nat.reduceEqDiff,Nat.reduceLT,Nat.reduceLeDiff,Nat.reduceMul,reduceCtorEq,↓reduceIte]);refine ir_cond rfl (fun hk5=>?_) (fun hk5=>?_)
   · simp only [zb1,zb2,zb3,zb4,zb5] at hk5;subst hk5;have e:kindB T n 5=decide (n≥0∧n < T.shapes.length):=rfl;rw [e];cases h1:decide (n≥0)<;>(try simp only [go_sem,Nat.reduceAdd,Nat.reduceEqDiff,Nat.reduceLT,Nat.reduceLeDiff,Nat.reduceMul,reduceCtorEq,↓reduceIte,h1,cell_of hb12,Value.cells])<;>(simp only [zb1,zb2,zb3,zb4,zb5] at h1;simp [h1])
   simp only [zb1,zb2,zb3,zb4,zb5] at hk5;(try simp only [go_sem,Nat.reduceAdd,Nat.reduceEqDiff,Nat.reduceLT,Nat.reduceLeDiff,Nat.reduceMul,reduceCtorEq,↓reduceIte]);refine ir_cond rfl (fun hk6=>?_) (fun hk6=>?_)
   · simp only [zb1,zb2,zb3,zb4,zb5] at hk6;subst hk6;have e:kindB T n 6=decide (n≥1∧n≤11):=rfl;rw [e];cases h1:decide (n≥1)<;>(try simp only [go_sem,Nat.reduceAdd,Nat.reduceEqDiff,Nat.reduceLT,Nat.reduceLeDiff,Nat.reduceMul,reduceCtorEq,↓reduceIte,h1])<;>(simp only [zb1,zb2,zb3,zb4,zb5] at h1;simp [h1])
   simp only [zb1,zb2,zb3,zb4,zb5] at hk6;(try simp only [go_sem,Nat.reduceAdd,Nat.reduceEqDiff,Nat.reduceLT,Nat.reduceLeDiff,Nat.reduceMul,reduceCtorEq,↓reduceIte]);refine ir_cond rfl (fun hk7=>?_) (fun hk7=>?_)
   · simp only [zb1,zb2,zb3,zb4,zb5] at hk7;subst hk7;have e:kindB T n 7=decide (n≥1∧n≤4):=rfl;rw [e];cases h1:decide (n≥1)<;>(try simp only [go_sem,Nat.reduceAdd,Nat.reduceEqDiff,Nat.reduceLT,Nat.reduceLeDiff,Nat.reduceMul,reduceCtorEq,↓reduceIte,h1])<;>(simp only [zb1,zb2,zb3,zb4,zb5] at h1;simp [h1])
   simp only [zb1,zb2,zb3,zb4,zb5] at hk7;(try simp only [go_sem,Nat.reduceAdd,Nat.reduceEqDiff,Nat.reduceLT,Nat.reduceLeDiff,Nat.reduceMul,reduceCtorEq,↓reduceIte]);refine ir_cond rfl (fun hk8=>?_) (fun hk8=>?_)
   · simp only [zb1,zb2,zb3,zb4,zb5] at hk8;subst hk8;have e:numberS T g.code.length i n 8=if n≤i∨n≥g.code.length then 174 else 0:=rfl
     (try simp only [go_sem,Nat.reduceAdd,Nat.reduceEqDiff,Nat.reduceLT,Nat.reduceLeDiff,Nat.reduceMul,reduceCtorEq,↓reduceIte]);refine wpS_cut (fun ρ w'=>w2=w'∧ρ.get 11=some (.bool true)∧ρ.get 82=some (.bool (decide (n≤i∨n≥g.code.length)))) ?_ ?_
     · cases h1:decide (n≤(i:Int))<;>(try simp only [go_sem,Nat.reduceAdd,Nat.reduceEqDiff,Nat.reduceLT,Nat.reduceLeDiff,Nat.reduceMul,reduceCtorEq,↓reduceIte,h1,cell_of hb2,Value.cells])<;>(simp only [zb1,zb2,zb3,zb4,zb5] at h1;simp [h1])
     rintro ρ _ ⟨rfl,r11,r82⟩;(try simp only [go_sem,Nat.reduceAdd,Nat.reduceEqDiff,Nat.reduceLT,Nat.reduceLeDiff,Nat.reduceMul,reduceCtorEq,↓reduceIte,r11,r82]);refine ir_cond rfl (fun hh=>?_) (fun hh=>?_)
     · simp only [zb1,zb2,zb3,zb4,zb5] at hh;rw [if_pos hh] at e;(try simp only [go_sem,Nat.reduceAdd,Nat.reduceEqDiff,Nat.reduceLT,Nat.reduceLeDiff,Nat.reduceMul,reduceCtorEq,↓reduceIte]);rw [e];exact ⟨rfl,hm02⟩
     · simp only [zb1,zb2,zb3,zb4,zb5] at hh;rw [if_neg hh] at e;(try simp only [go_sem,Nat.reduceAdd,Nat.reduceEqDiff,Nat.reduceLT,Nat.reduceLeDiff,Nat.reduceMul,reduceCtorEq,↓reduceIte]);exact .inr e
   · simp only [zb1,zb2,zb3,zb4,zb5] at hk8;omega
 rintro ρ _ ⟨rfl,hr⟩;rcases hr with ⟨hk8,r11⟩ | ⟨hk8,e,r11⟩
 · have e:numberS T g.code.length i n kind=if kindB T n kind=true then 0 else 172:=by unfold numberS;rw [if_neg hk8]
   rw [e];(try simp only [go_sem,Nat.reduceAdd,Nat.reduceEqDiff,Nat.reduceLT,Nat.reduceLeDiff,Nat.reduceMul,reduceCtorEq,↓reduceIte,r11]);cases hb:kindB T n kind
   · (try simp only [go_sem,Nat.reduceAdd,Nat.reduceEqDiff,Nat.reduceLT,Nat.reduceLeDiff,Nat.reduceMul,reduceCtorEq,↓reduceIte,Bool.not_false]);exact hm02
   · (try simp only [go_sem,Nat.reduceAdd,Nat.reduceEqDiff,Nat.reduceLT,Nat.reduceLeDiff,Nat.reduceMul,reduceCtorEq,↓reduceIte,Bool.not_true]);exact hm02
 · rw [e];(try simp only [go_sem,Nat.reduceAdd,Nat.reduceEqDiff,Nat.reduceLT,Nat.reduceLeDiff,Nat.reduceMul,reduceCtorEq,↓reduceIte,r11,Bool.not_true]);exact hm02
end
section
open Go Go.W
set_option maxHeartbeats 1000000 in
theorem f_stacked {w:World} {vsh vgl:Value} {T:Tab} {B:Nat→Prop} (h:TabAt w vsh vgl T B) (hsh:∀ s∈T.shapes,0≤s.fields∧s.fields≤8) {x:Ins} {len i:Nat} (hx:NumsOk T len i x) (hxa:x.a≤9223372036854775807) {d:Int} (hd:0≤d∧d≤8000) :
   CallsR Tryz.prog 149 [tabV vsh vgl,insV x,I d] w fun r w'=>r = .tuple #[I (stackedS T x d).2,.bool ((stackedS T x d).1&&decide ((stackedS T x d).2≤8000))]∧Mod (fun _=>False) w w':=by
 obtain ⟨⟨aS,cS,rfl⟩,aG,cG,rfl⟩:=tab_sl h;refine fit149.calls rfl ?_;unfold ir149 tabV insV;(try simp only [go_sem,simprocAttr]);refine e_bx rfl ?_;intro w1 hb1 hm1 _;(try simp only [go_sem,simprocAttr]);refine e_bx rfl ?_;intro w2 hb2 hm2 _;have hb12:=hm2.at hb1 (fun h=>h);have hm02:=hm1.trans hm2;have hm02d:=hm02.drew;have h2:=h.mod hm02 (fun _ _ h=>h) (fun _ h=>h);have o1:=hx.o1;have o2:=hx.o2;have hop:x.op=1∨x.op=2∨x.op=3∨x.op=4∨x.op=5∨x.op=6∨x.op=7∨x.op=8∨x.op=9∨x.op=10∨x.op=11∨x.op=12∨x.op=13∨x.op=14∨x.op=15∨x.op=16∨x.op=17:=by omega
 have e1:IntKind.i64.wrap (d+1)=d+1:=wrap_in (by omega) (by omega);have e2:IntKind.i64.wrap (d - 1)=d - 1:=wrap_in (by omega) (by omega);have fin:∀ (b:Bool) (s:Int),stackedS T x d=(b,s)→∀ w',Mod (fun _=>False) w w'→(b&&decide (s≤8000))=(b&&decide (s≤8000)):=fun _ _ _ _ _=>rfl
 have shat:x.op=9∨x.op=10→∃ (j:Nat) (ad:Addr) (c:Nat),x.a=j∧aS=some ad∧(0:Int)≤j∧(j:Int) < T.shapes.length∧w2.cell? ⟨(ad.add (j*2)).block,(ad.add (j*2)).off+1,none⟩=some (I (T.sh x.a).fields)∧0≤(T.sh x.a).fields∧(T.sh x.a).fields≤8:=by
   intro ho;have hc:=hx.c9 (by omega);obtain ⟨j,hj⟩:∃ j:Nat,x.a=j:=⟨x.a.toNat,by omega⟩;obtain ⟨ad,c,e,_,hf⟩:=shape_at h2 (i:=j) (by omega);cases e;refine ⟨j,ad,cS,hj,rfl,by omega,by omega,by rw [hj];exact hf,?_⟩;have:T.sh x.a∈T.shapes:=by
     unfold Tab.sh;rw [List.getD_eq_getElem?_getD,List.getElem?_eq_getElem (by omega)];exact List.getElem_mem _
   exact hsh _ this
 rcases hop with hop | hop | hop | hop | hop | hop | hop | hop | hop | hop | hop | hop | hop | hop | hop | hop | hop
 · have e:stackedS T x d=(decide (x.a < d),d+1):=by simp [stackedS,hop]
   rw [e];(try simp only [go_sem,simprocAttr,cell_of hb2,Value.cells,hop,Int.reduceBEq,e1]);cases h1:decide (x.a < d)<;>(try simp only [go_sem,simprocAttr,h1,Bool.true_and,Bool.false_and])<;>exact hm02
 · have e:stackedS T x d=(true,d+1):=by simp [stackedS,hop]
   rw [e];(try simp only [go_sem,simprocAttr,cell_of hb2,Value.cells,hop,Int.reduceBEq,e1,Bool.true_and]);exact hm02
 · have e:stackedS T x d=(true,d+1):=by simp [stackedS,hop]
   rw [e];(try simp only [go_sem,simprocAttr,cell_of hb2,Value.cells,hop,Int.reduceBEq,e1,Bool.true_and]);exact hm02
 · have hca:=hx.c1 (by omega);have e3:IntKind.i64.wrap (d - x.a)=d - x.a:=wrap_in (by omega) (by omega);have e:stackedS T x d=(if x.op=4 then decide (x.a < d) else decide (x.a < d - 1),d - x.a):=by simp [stackedS,hop]
   rw [e,hop];(try simp only [go_sem,simprocAttr,cell_of hb2,Value.cells,hop,Int.reduceBEq,e2,e3,Int.reduceEq]);cases h1:decide (x.a < d)<;>cases h2:decide (x.a < d - 1)<;>(try simp only [go_sem,simprocAttr,h1,h2,Bool.true_and,Bool.false_and])<;>exact hm02.drew
 · have hca:=hx.c1 (by omega);have e3:IntKind.i64.wrap (d - x.a)=d - x.a:=wrap_in (by omega) (by omega);have e:stackedS T x d=(if x.op=4 then decide (x.a < d) else decide (x.a < d - 1),d - x.a):=by simp [stackedS,hop]
   rw [e,hop];(try simp only [go_sem,simprocAttr,cell_of hb2,Value.cells,hop,Int.reduceBEq,e2,e3,Int.reduceEq]);cases h1:decide (x.a < d)<;>cases h2:decide (x.a < d - 1)<;>(try simp only [go_sem,simprocAttr,h1,h2,Bool.true_and,Bool.false_and])<;>exact hm02.drew
 · have e:stackedS T x d=(decide (d > 2),d - 1):=by simp [stackedS,hop]
   rw [e];(try simp only [go_sem,simprocAttr,cell_of hb2,Value.cells,hop,Int.reduceBEq,e2]);cases h1:decide (d > 2)<;>(try simp only [go_sem,simprocAttr,h1,Bool.true_and,Bool.false_and])<;>exact hm02
 · have e:stackedS T x d=(decide (x.a < d),d - 1):=by simp [stackedS,hop]
   rw [e];(try simp only [go_sem,simprocAttr,cell_of hb2,Value.cells,hop,Int.reduceBEq,e2]);cases h1:decide (x.a < d)<;>(try simp only [go_sem,simprocAttr,h1,Bool.true_and,Bool.false_and])<;>exact hm02
 · have hca:=hx.c1 (by omega);have e:stackedS T x d=(decide (x.a≤8000),d+min x.a 8000):=by simp [stackedS,hop]
   have e3:IntKind.i64.wrap (d+min x.a 8000)=d+min x.a 8000:=wrap_in (by omega) (by omega);rw [e];have hmn:(if 8000 < x.a then 8000 else x.a)=min x.a 8000:=by split<;>omega
   (try simp only [go_sem,simprocAttr,cell_of hb2,Value.cells,hop,Int.reduceBEq,hmn,e3]);cases h1:decide (x.a≤8000)<;>(try simp only [go_sem,simprocAttr,h1,Bool.true_and,Bool.false_and])<;>exact hm02.drew
 · obtain ⟨j,ad,c,hj,rfl,b1,b2,hf,f1,f2⟩:=shat (.inl hop);have e:stackedS T x d=(decide ((T.sh x.a).fields < d),d - (T.sh x.a).fields+1):=by simp [stackedS,hop]
   have e3:IntKind.i64.wrap (d - (T.sh x.a).fields)=d - (T.sh x.a).fields:=wrap_in (by omega) (by omega);have e4:IntKind.i64.wrap (d - (T.sh x.a).fields+1)=d - (T.sh x.a).fields+1:=wrap_in (by omega) (by omega);have b3:(0:Int)≤j∧(j:Int) < T.shapes.length:=⟨b1,b2⟩;rw [e];generalize (T.sh x.a).fields=q at *;(try simp only [go_sem,simprocAttr,zb4,zb6,cell_of hb2,cell_of hb12,Value.cells,hop,hj,Int.reduceBEq,b3,hf,e3,e4]);cases h1:decide (q < d)<;>(try simp only [go_sem,simprocAttr,h1,Bool.true_and,Bool.false_and])<;>exact hm02
 · obtain ⟨j,ad,c,hj,rfl,b1,b2,hf,f1,f2⟩:=shat (.inr hop);have e:stackedS T x d=(decide (d > 1),d - 1+(T.sh x.a).fields):=by simp [stackedS,hop]
   have e3:IntKind.i64.wrap (d - 1+(T.sh x.a).fields)=d - 1+(T.sh x.a).fields:=wrap_in (by omega) (by omega);have b3:(0:Int)≤j∧(j:Int) < T.shapes.length:=⟨b1,b2⟩;rw [e];generalize (T.sh x.a).fields=q at *;(try simp only [go_sem,simprocAttr,zb4,zb6,cell_of hb2,cell_of hb12,Value.cells,hop,hj,Int.reduceBEq,b3,hf,e2,e3]);cases h1:decide (d > 1)<;>(try simp only [go_sem,simprocAttr,h1,Bool.true_and,Bool.false_and])<;>exact hm02.drew
 · have e:stackedS T x d=(decide (d > 1),d):=by simp [stackedS,hop]
   rw [e];(try simp only [go_sem,simprocAttr,cell_of hb2,Value.cells,hop,Int.reduceBEq]);cases h1:decide (d > 1)<;>(try simp only [go_sem,simprocAttr,h1,Bool.true_and,Bool.false_and])<;>exact hm02
 · have e:stackedS T x d=(decide (d > 2),d - 1):=by simp [stackedS,hop]
   rw [e];(try simp only [go_sem,simprocAttr,cell_of hb2,Value.cells,hop,Int.reduceBEq,e2]);cases h1:decide (d > 2)<;>(try simp only [go_sem,simprocAttr,h1,Bool.true_and,Bool.false_and])<;>exact hm02
 · have e:stackedS T x d=(true,d):=by simp [stackedS,hop]
   rw [e];(try simp only [go_sem,simprocAttr,cell_of hb2,Value.cells,hop,Int.reduceBEq,Bool.true_and]);exact hm02
 · have e:stackedS T x d=(decide (d > 1),d):=by simp [stackedS,hop]
   rw [e];(try simp only [go_sem,simprocAttr,cell_of hb2,Value.cells,hop,Int.reduceBEq]);cases h1:decide (d > 1)<;>(try simp only [go_sem,simprocAttr,h1,Bool.true_and,Bool.false_and])<;>exact hm02
 · have e:stackedS T x d=(decide (d > 1),d):=by simp [stackedS,hop]
   rw [e];(try simp only [go_sem,simprocAttr,cell_of hb2,Value.cells,hop,Int.reduceBEq]);cases h1:decide (d > 1)<;>(try simp only [go_sem,simprocAttr,h1,Bool.true_and,Bool.false_and])<;>exact hm02
 · have e:stackedS T x d=(true,d):=by simp [stackedS,hop]
   rw [e];(try simp only [go_sem,simprocAttr,cell_of hb2,Value.cells,hop,Int.reduceBEq,Bool.true_and]);exact hm02
 · have e:stackedS T x d=(decide (d=1),d):=by simp [stackedS,hop]
   rw [e,← ieq];(try simp only [go_sem,simprocAttr,cell_of hb2,Value.cells,hop,Int.reduceBEq]);cases h1:(d == 1)<;>(try simp only [go_sem,simprocAttr,h1,Bool.true_and,Bool.false_and])<;>exact hm02
end
section
open Go Go.W
theorem ins_idx {g:Gl} {i:Nat} (hi:i < g.code.length):g.ins i=g.code[i]:=by unfold Gl.ins;rw [Int.toNat_natCast,List.getD_eq_getElem?_getD,List.getElem?_eq_getElem hi];rfl
theorem numLoop_at (T:Tab) (len:Nat) (code:List Ins) {i:Nat} (hi:i < code.length):numLoop T len i (code.drop i)=if numErr T len i code[i]=0 then numLoop T len (i+1) (code.drop (i+1)) else numErr T len i code[i]:=by
 rw [List.drop_eq_getElem_cons hi];rfl
theorem depthLoop_at (T:Tab) (len:Nat) (code:List Ins) (D:List Int) {i:Nat} (hi:i < code.length):depthLoop T len i (code.drop i) D=if depthErr T len i code[i] D=0 then depthLoop T len (i+1) (code.drop (i+1)) (depthStep T D i code[i]) else depthErr T len i code[i] D:=by
 rw [List.drop_eq_getElem_cons hi];rfl
section
variable {w:World} {vsh vgl cv:Value} {T:Tab} {g:Gl} {B:Nat→Prop}
theorem f_checkCode1 (h:TabAt w vsh vgl T B) (hcv:RowsAt w cv 3 (g.code.map insRow) B) (hcl:g.code.length≤8000) {b2 b3:Nat} (hb2:w.heap[b2]? = some (.cells #[vsh,vgl] 25 (0,0))) (hb3:w.heap[b3]? = some (.cells #[.string g.name,I g.arity,cv] 59 (0,0)))
   {Q:Post} (hret:∀ e w',e≠0→numLoop T g.code.length 0 g.code=e→Mod (fun _=>False) w w'→Q .ret [(4,I e)] w')
   (hend:∀ w',numLoop T g.code.length 0 g.code=0→Mod (fun _=>False) w w'→∀ t,Q .normal [(2,ptr b2),(3,ptr b3),(20,cv),(21,I g.code.length),(22,I g.code.length),(23,t)] w') :
   irwp Tryz.prog 152 (.block 0 (.loop ir106L1)) Q [(2,ptr b2),(3,ptr b3),(20,cv),(21,I g.code.length),(22,I 0)] w:=by
 obtain ⟨⟨aS,cS,rfl⟩,aG,cG,rfl⟩:=tab_sl h;obtain ⟨acv,ccv,rfl⟩:=rows_sl hcv;rw [List.length_map] at *;(try simp only [go_sem,simprocAttr])
 refine ir_loop (fun z ρ w'=>∃ i:Nat,z=g.code.length - i∧i≤g.code.length∧Mod (fun _=>False) w w'∧numLoop T g.code.length 0 g.code=numLoop T g.code.length i (g.code.drop i) ∧
   ρ=[(2,ptr b2),(3,ptr b3),(20,.slice acv g.code.length ccv),(21,I g.code.length),(22,I i)]) g.code.length ⟨0,rfl,by omega,Mod.refl _ _,rfl,rfl⟩ ?_
 rintro z ρ w2 ⟨i,rfl,hi,hm2,heq,rfl⟩;have hb2':=hm2.at hb2 (fun h=>h);have hb3':=hm2.at hb3 (fun h=>h);unfold ir106L1;(try simp only [go_sem,simprocAttr]);refine ir_cond rfl (fun hlt=>?_) (fun hlt=>?_)
 · have hlt:i < g.code.length:=by simpa using hlt
   have h2:=h.mod hm2 (fun _ _ h=>h) (fun _ h=>h);obtain ⟨ad,c,e',_,hln⟩:=ins_at (hcv.mod hm2 (fun _ _ h=>h) (fun _ h=>h)) hlt;cases e';rw [ins_idx hlt] at hln;have hloop:=numLoop_at T g.code.length g.code hlt;generalize hx:g.code[i]=x at *;have b1:(0:Int)≤i∧(i:Int) < g.code.length:=by omega
   (try simp only [go_sem,simprocAttr,zb4,zb6,b1,hln,insV]);refine e_al ?_;intro w3 hb30 hm3 _;refine e_sta (cs:=[I 0,I 0,I 0]) rfl rfl hb30 rfl rfl (by simp [Value.oneCell']) ?_;intro w4 hb4 hm4 _;have hm24:Mod (fun _=>False) w2 w4:=hm3.step hm4 (fun x hx hl=>by subst hx;omega);(try simp only [go_sem,simprocAttr,cell_of hb4]);refine e_call (by rfl) ?_;refine (f_forms w4 x.op).mono ?_;rintro _ w5 ⟨⟨s,a,b,rfl,hf⟩,hm5⟩;(try simp only [go_sem,simprocAttr]);refine e_al ?_;intro w6 hb6 hm6 _;refine e_sta (cs:=[.string ⟨#[]⟩,I 0,I 0]) rfl rfl hb6 rfl rfl (by simp [Value.oneCell']) ?_;intro w7 hb7 hm7 _;have hm57:Mod (fun _=>False) w5 w7:=hm6.step hm7 (fun x hx hl=>by subst hx;omega);have hm27:=(hm24.trans hm5).trans hm57;have hm07:=hm2.trans hm27;(try simp only [go_sem,simprocAttr]);cases hfs:formS x.op with
   | none=>
     have e:numErr T g.code.length i x=172:=by unfold numErr;rw [hfs]
     (try simp only [go_sem,simprocAttr,Option.isSome_none,Bool.not_false]);exact hret 172 _ (by decide) (by rw [heq,hloop,e];rfl) hm07
   | some p=>
     obtain ⟨rfl,a1,a2,b1',b2'⟩:=hf p hfs;have e:numErr T g.code.length i x=if numberS T g.code.length i x.a a=172∨numberS T g.code.length i x.b b=172 then 172 else if numberS T g.code.length i x.a a≠0∨numberS T g.code.length i x.b b≠0 then 174 else 0:=by unfold numErr;rw [hfs]
     have hb27:=hm27.at hb2' (fun h=>h);have hb37:=hm27.at hb3' (fun h=>h);have hb47:=(hm5.trans hm57).at hb4 (fun h=>h);have h7:=h.mod hm07.drew (fun _ _ h=>h) (fun _ h=>h);have hb27d:w7.drew.heap[b2]? = _:=hb27;have hb37d:w7.drew.heap[b3]? = _:=hb37;have hl2:=ln_of (cs:=[_,_]) (off:=0) (n:=2) hb27d (by simp);have hl3:=ln_of (cs:=[_,_,_]) (off:=0) (n:=3) hb37d (by simp);(try simp only [go_sem,simprocAttr,Option.isSome_some,Bool.not_true,hl2,hl3,cell_of hb47,cell_of hb7]);refine e_call (by rfl) ?_;refine (f_number (g:=g) h7 i x.a (kind:=a) ⟨a1,a2⟩).mono ?_;rintro _ w8 ⟨rfl,hm8⟩;have k1:=hm8.old b2 (lt_of_heap hb27) (fun h=>h);have k2:=hm8.old b3 (lt_of_heap hb37) (fun h=>h);have k3:=hm8.old w2.heap.size (lt_of_heap hb47) (fun h=>h);have k4:=hm8.old w5.heap.size (lt_of_heap hb7) (fun h=>h);(try simp only [go_sem,simprocAttr]);refine ⟨by simp only [drew_heap,k1,k2,k3,k4,and_self,implies_true],?_⟩;refine e_call (by rfl) ?_;refine (f_number (g:=g) (h7.mod hm8 (fun _ _ h=>h) (fun _ h=>h)) i x.b (kind:=b) ⟨b1',b2'⟩).mono ?_;rintro _ w9 ⟨rfl,hm9⟩;have hm79:Mod (fun _=>False) w7 w9:=(hm8.of_drew).trans hm9;have hm09:=hm07.trans hm79;generalize numberS T g.code.length i x.a a=n1 at *;generalize numberS T g.code.length i x.b b=n2 at *;(try simp only [go_sem,simprocAttr]);refine wpS_cut (fun ρ w'=>w9=w'∧ρ.get 2=some (ptr b2)∧ρ.get 3=some (ptr b3)∧ρ.get 9=some (I n1)∧ρ.get 10=some (I n2)∧ρ.get 20=some (.slice (some ad) g.code.length ccv)∧ρ.get 21=some (I g.code.length)∧ρ.get 22=some (I i)∧ρ.get 56=some (.bool (decide (n1=172∨n2=172)))) ?_ ?_
     · cases h1:(n1 == 172)<;>(try simp only [go_sem,simprocAttr,h1])<;>(rw [ieq] at h1;simp only [zb1,zb2,zb3,zb4,zb5] at h1;simp [h1,ieq])
     rintro ρ _ ⟨rfl,r2,r3,r9,r10,r20,r21,r22,r56⟩;(try simp only [go_sem,simprocAttr,r2,r3,r9,r10,r20,r21,r22,r56]);refine ir_cond rfl (fun h172=>?_) (fun h172=>?_)
     · simp only [zb1,zb2,zb3,zb4,zb5] at h172;rw [if_pos h172] at e;(try simp only [go_sem,simprocAttr]);exact hret 172 _ (by decide) (by rw [heq,hloop,e];rfl) hm09
     simp only [zb1,zb2,zb3,zb4,zb5] at h172;rw [if_neg h172] at e;(try simp only [go_sem,simprocAttr]);refine wpS_cut (fun ρ w'=>w9=w'∧ρ.get 2=some (ptr b2)∧ρ.get 3=some (ptr b3)∧ρ.get 20=some (.slice (some ad) g.code.length ccv)∧ρ.get 21=some (I g.code.length)∧ρ.get 22=some (I i)∧ρ.get 62=some (.bool (decide (n1≠0∨n2≠0)))) ?_ ?_
     · cases h1:(n1 != 0)<;>(try simp only [go_sem,simprocAttr,h1])<;>(simp only [zb1,zb2,zb3,zb4,zb5] at h1;simp [h1,bne,ieq])
     rintro ρ _ ⟨rfl,r2,r3,r20,r21,r22,r62⟩;(try simp only [go_sem,simprocAttr,r2,r3,r20,r21,r22,r62]);refine ir_cond rfl (fun h0=>?_) (fun h0=>?_)
     · simp only [zb1,zb2,zb3,zb4,zb5] at h0;rw [if_pos h0] at e;(try simp only [go_sem,simprocAttr]);exact hret 174 _ (by decide) (by rw [heq,hloop,e];rfl) hm09
     · simp only [zb1,zb2,zb3,zb4,zb5] at h0;rw [if_neg h0] at e;have e1:IntKind.i64.wrap ((i:Int)+1)=((i+1:Nat):Int):=by rw [wrap_in (by omega) (by omega)];omega
       (try simp only [go_sem,simprocAttr,e1]);exact ⟨_,by omega,i+1,rfl,by omega,hm09,by rw [heq,hloop,e];rfl,rfl⟩
 · have hlt:¬ i < g.code.length:=by simpa using hlt
   obtain rfl:i=g.code.length:=by omega
   (try simp only [go_sem,simprocAttr]);refine hend w2 ?_ hm2 _;rw [heq,List.drop_length];rfl
end
end
section
open Go Go.W
def DBnd (D:List Int):Prop:=∀ k:Nat,0≤D.getD k 0∧D.getD k 0≤8000
theorem note_bnd {D:List Int} (h:DBnd D) (a:Int) {d:Int} (hd:0≤d∧d≤8000):DBnd (noteS D a d):=by
 intro k;unfold noteS
 split
 · rw [getD_set']
   split
   · exact hd
   · exact h k
 · exact h k
section
variable {w:World} {vsh vgl cv:Value} {T:Tab} {g:Gl} {B:Nat→Prop}
set_option maxHeartbeats 1000000 in
theorem f_checkCode2 (h:TabAt w vsh vgl T B) (hcv:RowsAt w cv 3 (g.code.map insRow) B) (hsh:∀ s∈T.shapes,0≤s.fields∧s.fields≤8) (hcl:g.code.length≤8000) (hxa:∀ x∈g.code,x.a≤9223372036854775807) (hnum:numLoop T g.code.length 0 g.code=0)
   {b2 b3 bD:Nat} (hB:∀ b,B b→b≠bD) (hb2:w.heap[b2]? = some (.cells #[vsh,vgl] 25 (0,0))) (hb3:w.heap[b3]? = some (.cells #[.string g.name,I g.arity,cv] 59 (0,0))) (hne:b2≠bD∧b3≠bD)
   {D0:List Int} (hD:w.heap[bD]? = some (.cells (D0.map I).toArray 3 (0,0))) (hDl:D0.length=g.code.length) (hDb:DBnd D0)
   {Q:Post} (hret:∀ e w',e≠0→depthLoop T g.code.length 0 g.code D0=e→Mod (· = bD) w w'→Q .ret [(4,I e)] w')
   (hend:∀ w',depthLoop T g.code.length 0 g.code D0=0→Mod (· = bD) w w'→∀ ρ,Q .normal ρ w') :
   irwp Tryz.prog 152 (.block 2 (.loop ir106L2)) Q [(2,ptr b2),(3,ptr b3),(11,.slice (some ⟨bD,0,none⟩) g.code.length g.code.length),(78,cv),(79,I g.code.length),(80,I 0)] w:=by
 obtain ⟨⟨aS,cS,rfl⟩,aG,cG,rfl⟩:=tab_sl h;obtain ⟨acv,ccv,rfl⟩:=rows_sl hcv;rw [List.length_map] at *;(try simp only [go_sem,simprocAttr])
 refine ir_loop (fun z ρ w'=>∃ (i:Nat) (D:List Int),z=g.code.length - i∧i≤g.code.length∧Mod (· = bD) w w'∧D.length=g.code.length∧DBnd D∧w'.heap[bD]? = some (.cells (D.map I).toArray 3 (0,0))∧depthLoop T g.code.length 0 g.code D0=depthLoop T g.code.length i (g.code.drop i) D ∧
   ρ=[(2,ptr b2),(3,ptr b3),(11,.slice (some ⟨bD,0,none⟩) g.code.length g.code.length),(78,.slice acv g.code.length ccv),(79,I g.code.length),(80,I i)]) g.code.length ⟨0,D0,rfl,by omega,Mod.refl _ _,hDl,hDb,hD,rfl,rfl⟩ ?_
 rintro z ρ w2 ⟨i,D,rfl,hi,hm2,hDl,hDb,hD2,heq,rfl⟩;have hb2':=hm2.at hb2 hne.1;have hb3':=hm2.at hb3 hne.2;unfold ir106L2;(try simp only [go_sem,simprocAttr]);refine ir_cond rfl (fun hlt=>?_) (fun hlt=>?_)
 · have hlt:i < g.code.length:=by simpa using hlt
   have h2:=h.mod hm2 (fun b hb=>hB b hb) (fun _ h=>h);obtain ⟨ad,c,e',_,hln⟩:=ins_at (hcv.mod hm2 (fun b hb=>hB b hb) (fun _ h=>h)) hlt;cases e';rw [ins_idx hlt] at hln;have hloop:=depthLoop_at T g.code.length g.code D hlt;have hnx:NumsOk T g.code.length i g.code[i]:=by
     have:=numLoop_ok g.code 0 hnum i _ (List.getElem?_eq_getElem hlt);rw [Nat.zero_add] at this;exact numErr_ok this
   have hxa':=hxa _ (List.getElem_mem hlt);generalize hx:g.code[i]=x at *;have b1:(0:Int)≤i∧(i:Int) < g.code.length:=by omega
   have hcD:=ints_at hD2 (i:=i) (by omega);(try simp only [go_sem,simprocAttr,zb4,zb6,b1,hln,insV]);refine e_al ?_;intro w3 hb30 hm3 _;refine e_sta (cs:=[I 0,I 0,I 0]) rfl rfl hb30 rfl rfl (by simp [Value.oneCell']) ?_;intro w4 hb4 hm4 _;have hm24:Mod (fun _=>False) w2 w4:=hm3.step hm4 (fun x hx hl=>by subst hx;omega);have hcD4:=hm24.cell hcD (fun h=>h);have hD4:=hm24.at hD2 (fun h=>h);have hdb:=hDb i;generalize hdv:D.getD i 0=d at *;(try simp only [go_sem,simprocAttr,zb4,zb6,b1,add_at,hcD4]);have e0:depthErr T g.code.length i x D=if d=0 then 174
     else if ¬ ((stackedS T x d).1=true∧(stackedS T x d).2≤8000) then 173
     else if goesOn x∧i+1=g.code.length then 174
     else if goesOn x∧(noteS D ((i:Int)+1) (stackedS T x d).2).getD (i+1) 0≠(stackedS T x d).2 then 173
     else if targetS x > 0∧(depthStep T D i x).getD (targetS x).toNat 0≠(stackedS T x d).2 then 173
     else 0:=by unfold depthErr;rw [hdv]
   have hm04:Mod (· = bD) w w4:=hm2.step hm24 (fun _ h _=>h.elim);refine ir_cond rfl (fun hz=>?_) (fun hz=>?_)
   · simp only [zb1,zb2,zb3,zb4,zb5] at hz;rw [if_pos hz] at e0;(try simp only [go_sem,simprocAttr]);exact hret 174 _ (by decide) (by rw [heq,hloop,e0];rfl) hm04
   simp only [zb1,zb2,zb3,zb4,zb5] at hz;rw [if_neg hz] at e0;have hb24:=hm24.at hb2' (fun h=>h);have hb34:=hm24.at hb3' (fun h=>h);have hl2:=ln_of (cs:=[_,_]) (off:=0) (n:=2) hb24 (by simp);have hl4:=ln_of (cs:=[_,_,_]) (off:=0) (n:=3) hb4 (by simp);(try simp only [go_sem,simprocAttr,hl2,hl4]);refine e_call (by rfl) ?_;refine (f_stacked (x:=x) (h2.mod hm24 (fun _ _ h=>h) (fun _ h=>h)) hsh hnx hxa' (d:=d) hdb).mono ?_;rintro _ w5 ⟨rfl,hm5⟩;have hpos:(stackedS T x d).1=true→1≤(stackedS T x d).2:=stacked_pos (fun s hs=>(hsh s hs).1) hnx (by omega);have hst:depthStep T D i x=if targetS x > 0 then noteS (if x.op≠13∧x.op≠16∧x.op≠17 then noteS D ((i:Int)+1) (stackedS T x d).2 else D) (targetS x) (stackedS T x d).2 else (if x.op≠13∧x.op≠16∧x.op≠17 then noteS D ((i:Int)+1) (stackedS T x d).2 else D):=by unfold depthStep;rw [hdv]
   generalize stackedS T x d=st at *;obtain ⟨ok,s⟩:=st;have hm05:=hm04.step hm5 (fun _ h _=>h.elim);have hb45:=hm5.at hb4 (fun h=>h);have hb35:=hm5.at hb34 (fun h=>h);have hD5:=hm5.at hD4 (fun h=>h);(try simp only [go_sem,simprocAttr]);refine ir_cond rfl (fun hok=>?_) (fun hok=>?_)
   · have hok':¬ (ok=true∧s≤8000):=by
       intro hh;simp [hh.1,hh.2] at hok
     rw [if_pos hok'] at e0;(try simp only [go_sem,simprocAttr]);exact hret 173 _ (by decide) (by rw [heq,hloop,e0];rfl) hm05
   have hok':ok=true∧s≤8000:=by simpa using hok
   rw [if_neg (by simpa using hok')] at e0;have hsb:0≤s∧s≤8000:=⟨by have:=hpos hok'.1;omega,hok'.2⟩;(try simp only [go_sem,simprocAttr,cell_of hb45]);have e1:IntKind.i64.wrap ((i:Int)+1)=(i:Int)+1:=wrap_in (by omega) (by omega);refine wpS_cut (fun ρ w'=>w5=w'∧ρ.get 2=some (ptr b2)∧ρ.get 3=some (ptr b3)∧ρ.get 11=some (.slice (some ⟨bD,0,none⟩) g.code.length g.code.length)∧ρ.get 12=some (I i)∧ρ.get 13=some (ptr w2.heap.size)∧ρ.get 15=some (I s)∧ρ.get 17=some (.bool (decide (goesOn x)))∧ρ.get 78=some (.slice (some ad) g.code.length ccv)∧ρ.get 79=some (I g.code.length)∧ρ.get 80=some (I i)) ?_ ?_
   · have eG:decide (goesOn x)=((x.op != 13)&&(x.op != 16)&&(x.op != 17)):=by
       unfold goesOn;by_cases a:x.op=13<;>by_cases b:x.op=16<;>by_cases c:x.op=17<;>simp [a,b,c]
     rw [eG];cases h1:(x.op != 13)<;>cases h3:(x.op != 16)<;>(try simp only [go_sem,simprocAttr,h1,h3,cell_of hb45,Bool.true_and,Bool.false_and])<;>(simp [h1,h3])
   rintro ρ _ ⟨rfl,r2,r3,r11,r12,r13,r15,r17,r78,r79,r80⟩;(try simp only [go_sem,simprocAttr,r2,r3,r11,r12,r13,r15,r17,r78,r79,r80]);refine wpS_cut (fun ρ w'=>w5=w'∧ρ.get 2=some (ptr b2)∧ρ.get 3=some (ptr b3)∧ρ.get 11=some (.slice (some ⟨bD,0,none⟩) g.code.length g.code.length)∧ρ.get 12=some (I i)∧ρ.get 13=some (ptr w2.heap.size)∧ρ.get 15=some (I s)∧ρ.get 17=some (.bool (decide (goesOn x)))∧ρ.get 78=some (.slice (some ad) g.code.length ccv)∧ρ.get 79=some (I g.code.length)∧ρ.get 80=some (I i)∧ρ.get 121=some (.bool (decide (goesOn x∧i+1=g.code.length)))) ?_ ?_
   · by_cases hG:goesOn x
     · have hGt:decide (goesOn x)=true:=decide_eq_true hG;have c1:(((i:Int)+1) == (g.code.length:Int))=decide (i+1=g.code.length):=by rw [ieq];exact decide_eq_decide.2 (by omega)
       (try simp only [go_sem,simprocAttr,hGt,cell_of hb35,e1]);simp [hG,c1]
     · have hGf:decide (goesOn x)=false:=decide_eq_false hG;(try simp only [go_sem,simprocAttr,hGf]);simp [hG]
   rintro ρ _ ⟨rfl,r2,r3,r11,r12,r13,r15,r17,r78,r79,r80,r121⟩;(try simp only [go_sem,simprocAttr,r2,r3,r11,r12,r13,r15,r17,r78,r79,r80,r121]);refine ir_cond rfl (fun hg1=>?_) (fun hg1=>?_)
   · simp only [zb1,zb2,zb3,zb4,zb5] at hg1;rw [if_pos hg1] at e0;(try simp only [go_sem,simprocAttr]);exact hret 174 _ (by decide) (by rw [heq,hloop,e0];rfl) hm05
   simp only [zb1,zb2,zb3,zb4,zb5] at hg1;rw [if_neg hg1] at e0;(try simp only [go_sem,simprocAttr]);refine wpS_cut (fun ρ w'=>∃ D1,D1=(if goesOn x then noteS D ((i:Int)+1) s else D)∧w'.heap[bD]? = some (.cells (D1.map I).toArray 3 (0,0))∧Mod (· = bD) w5 w'∧ρ.get 2=some (ptr b2)∧ρ.get 3=some (ptr b3)∧ρ.get 11=some (.slice (some ⟨bD,0,none⟩) g.code.length g.code.length)∧ρ.get 13=some (ptr w2.heap.size)∧ρ.get 15=some (I s)∧ρ.get 78=some (.slice (some ad) g.code.length ccv)∧ρ.get 79=some (I g.code.length)∧ρ.get 80=some (I i)∧ρ.get 130=some (.bool (decide (goesOn x∧(noteS D ((i:Int)+1) s).getD (i+1) 0≠s)))) ?_ ?_
   · by_cases hG:goesOn x
     · have hGt:decide (goesOn x)=true:=decide_eq_true hG;(try simp only [go_sem,simprocAttr,hGt,e1]);refine e_call (by rfl) ?_;have hne1:i+1≠g.code.length:=fun e=>hg1 ⟨hG,e⟩
       have hr:=f_reach hD5 (a:=(i:Int)+1) (d:=s) ⟨by omega,by omega⟩;rw [hDl] at hr;refine hr.mono ?_;rintro _ w6 ⟨rfl,hD6,hm6⟩;(try simp only [go_sem,simprocAttr]);refine ⟨_,rfl,by rw [if_pos hG];exact hD6,hm6,?_⟩;rw [show ((i:Int)+1).toNat=i+1 by omega];simp [hG]
     · have hGf:decide (goesOn x)=false:=decide_eq_false hG;(try simp only [go_sem,simprocAttr,hGf]);refine ⟨_,rfl,by rw [if_neg hG];exact hD5,Mod.refl _ _,?_⟩;simp [hG]
   rintro ρ w6 ⟨D1,hD1,hD6,hm6,r2,r3,r11,r13,r15,r78,r79,r80,r130⟩;have hm06:Mod (· = bD) w w6:=hm05.trans hm6;have hne4:w2.heap.size≠bD:=fun e=>by have:=lt_of_heap hD2;omega
   have hb46:=hm6.at hb45 hne4;have hD1l:D1.length=g.code.length:=by rw [hD1];split<;>simp [note_len,hDl]
   have hD1b:DBnd D1:=by rw [hD1];split;exact note_bnd hDb _ hsb;exact hDb
   have hst1:depthStep T D i x=if targetS x > 0 then noteS D1 (targetS x) s else D1:=by
     rw [hst,hD1];rfl
   (try simp only [go_sem,simprocAttr,r2,r3,r11,r13,r15,r78,r79,r80,r130]);refine ir_cond rfl (fun hg2=>?_) (fun hg2=>?_)
   · simp only [zb1,zb2,zb3,zb4,zb5] at hg2;rw [if_pos hg2] at e0;(try simp only [go_sem,simprocAttr]);exact hret 173 _ (by decide) (by rw [heq,hloop,e0];rfl) hm06
   simp only [zb1,zb2,zb3,zb4,zb5] at hg2;rw [if_neg hg2] at e0;(try simp only [go_sem,simprocAttr,cell_of hb46]);refine ir_blk (fun ρ w'=>w6=w'∧ρ.get 2=some (ptr b2)∧ρ.get 3=some (ptr b3)∧ρ.get 11=some (.slice (some ⟨bD,0,none⟩) g.code.length g.code.length)∧ρ.get 15=some (I s)∧ρ.get 18=some (I (targetS x))∧ρ.get 78=some (.slice (some ad) g.code.length ccv)∧ρ.get 79=some (I g.code.length)∧ρ.get 80=some (I i)) ?_ ?_
   · have hop:=hnx.o1;by_cases o13:x.op=13
     · have et:targetS x=x.a:=by unfold targetS;rw [if_pos o13]
       rw [et];(try simp only [go_sem,simprocAttr,o13,Int.reduceBEq,cell_of hb46])
     by_cases o14:x.op=14
     · have et:targetS x=x.b:=by unfold targetS;rw [if_neg o13,if_pos (.inl o14)]
       rw [et];(try simp only [go_sem,simprocAttr,o14,Int.reduceBEq,cell_of hb46])
     by_cases o15:x.op=15
     · have et:targetS x=x.b:=by unfold targetS;rw [if_neg o13,if_pos (.inr o15)]
       rw [et];(try simp only [go_sem,simprocAttr,o15,Int.reduceBEq,cell_of hb46])
     have et:targetS x=0:=by unfold targetS;rw [if_neg o13,if_neg (by omega)]
     rw [et];have n13:(x.op == 13)=false:=by rw [ieq];exact decide_eq_false o13
     have n14:(x.op == 14)=false:=by rw [ieq];exact decide_eq_false o14
     have n15:(x.op == 15)=false:=by rw [ieq];exact decide_eq_false o15
     (try simp only [go_sem,simprocAttr,n13,n14,n15,cell_of hb46])
   rintro ρ _ ⟨rfl,r2,r3,r11,r15,r18,r78,r79,r80⟩;have htl:targetS x > 0→targetS x < g.code.length:=by
     intro ht;unfold targetS at ht ⊢
     split at ht
     · rename_i e;rw [if_pos e];exact (hnx.c13 e).2
     · rename_i e;rw [if_neg e]
       split at ht
       · rename_i e2;rw [if_pos e2];exact (hnx.c14 e2).2
       · omega
   (try simp only [go_sem,simprocAttr,r2,r3,r11,r15,r18,r78,r79,r80]);refine wpS_cut (fun ρ w'=>∃ D2,D2=depthStep T D i x∧D2.length=g.code.length∧DBnd D2∧w'.heap[bD]? = some (.cells (D2.map I).toArray 3 (0,0))∧Mod (· = bD) w6 w'∧ρ.get 2=some (ptr b2)∧ρ.get 3=some (ptr b3)∧ρ.get 11=some (.slice (some ⟨bD,0,none⟩) g.code.length g.code.length)∧ρ.get 78=some (.slice (some ad) g.code.length ccv)∧ρ.get 79=some (I g.code.length)∧ρ.get 80=some (I i)∧ρ.get 150=some (.bool (decide (targetS x > 0∧(depthStep T D i x).getD (targetS x).toNat 0≠s)))) ?_ ?_
   · by_cases ht:targetS x > 0
     · have htt:decide (targetS x > 0)=true:=decide_eq_true ht;rw [if_pos ht] at hst1;rw [hst1];(try simp only [go_sem,simprocAttr,htt,r2,r3,r11,r15,r18,r78,r79,r80]);refine e_call (by rfl) ?_;have hr:=f_reach hD6 (a:=targetS x) (d:=s) ⟨by omega,by rw [hD1l];exact htl ht⟩;rw [hD1l] at hr;refine hr.mono ?_;rintro _ w7 ⟨rfl,hD7,hm7⟩;(try simp only [go_sem,simprocAttr,r2,r3,r11,r15,r18,r78,r79,r80]);refine ⟨_,rfl,by rw [note_len,hD1l],note_bnd hD1b _ hsb,hD7,hm7,?_⟩;simp [ht]
     · have htf:decide (targetS x > 0)=false:=decide_eq_false ht;rw [if_neg ht] at hst1;rw [hst1];(try simp only [go_sem,simprocAttr,htf,r2,r3,r11,r15,r18,r78,r79,r80]);refine ⟨_,rfl,hD1l,hD1b,hD6,Mod.refl _ _,?_⟩;simp [ht]
   rintro ρ w7 ⟨D2,hD2e,hD2l,hD2b,hD7,hm7,r2,r3,r11,r78,r79,r80,r150⟩;have hm07:Mod (· = bD) w w7:=hm06.trans hm7;(try simp only [go_sem,simprocAttr,r2,r3,r11,r78,r79,r80,r150]);refine ir_cond rfl (fun hg3=>?_) (fun hg3=>?_)
   · simp only [zb1,zb2,zb3,zb4,zb5] at hg3;rw [if_pos hg3] at e0;(try simp only [go_sem,simprocAttr]);exact hret 173 _ (by decide) (by rw [heq,hloop,e0];rfl) hm07
   · simp only [zb1,zb2,zb3,zb4,zb5] at hg3;rw [if_neg hg3] at e0;have e2:IntKind.i64.wrap ((i:Int)+1)=((i+1:Nat):Int):=by rw [e1];omega
     (try simp only [go_sem,simprocAttr,e2]);exact ⟨_,by omega,i+1,D2,rfl,by omega,hm07,hD2l,hD2b,hD7,by rw [heq,hloop,e0,hD2e];rfl,rfl⟩
 · have hlt:¬ i < g.code.length:=by simpa using hlt
   obtain rfl:i=g.code.length:=by omega
   (try simp only [go_sem,simprocAttr]);refine hend w2 ?_ hm2 _;rw [heq,List.drop_length];rfl
end
end
section
open Go Go.W
section
variable {w:World} {vsh vgl cv:Value} {T:Tab} {g:Gl} {B:Nat→Prop}
theorem f_checkCode (h:TabAt w vsh vgl T B) (hcv:RowsAt w cv 3 (g.code.map insRow) B) (hBl:∀ b,B b→b < w.heap.size) (hsh:∀ s∈T.shapes,0≤s.fields∧s.fields≤8) (har:0≤g.arity∧g.arity≤24) (hcl:g.code.length≤8000) (hxa:∀ x∈g.code,x.a≤9223372036854775807) :
   CallsR Tryz.prog 106 [tabV vsh vgl,glV g cv] w fun r w'=>r=I (checkCodeS T g)∧Mod (fun _=>False) w w':=by
 have h0:=h;have hcv0:=hcv;obtain ⟨⟨aS,cS,rfl⟩,aG,cG,rfl⟩:=tab_sl h;obtain ⟨acv,ccv,rfl⟩:=rows_sl hcv;rw [List.length_map] at *;refine fit106.calls rfl ?_;unfold ir106 tabV glV;(try simp only [go_sem,simprocAttr]);refine e_bx rfl ?_;intro w1 hb1 hm1 hs1;(try simp only [go_sem,simprocAttr]);refine e_bx rfl ?_;intro w2 hb2 hm2 hs2;have hb12:=hm2.at hb1 (fun h=>h);have hm02:=hm1.trans hm2;have h2:=h0.mod hm02 (fun _ _ h=>h) (fun _ h=>h);have hcv2:=hcv0.mod hm02 (fun _ _ h=>h) (fun _ h=>h);(try simp only [go_sem,simprocAttr,cell_of hb2,Value.cells]);refine f_checkCode1 (b2:=w.heap.size) (b3:=w1.heap.size) (g:=g) h2 hcv2 hcl hb12 hb2 ?_ ?_
 · intro e w3 he hn hm3;(try simp only [go_sem,simprocAttr]);have:checkCodeS T g=e:=by unfold checkCodeS;rw [hn,if_pos he]
   rw [this];exact ⟨rfl,hm02.trans hm3⟩
 · intro w3 hn hm3 t;have hb33:=hm3.at hb2 (fun h=>h);have hb13:=hm3.at hb12 (fun h=>h);have hm03:=hm02.trans hm3;have lz:((g.code.length:Int) == 0)=decide (g.code.length=0):=by rw [ieq];exact decide_eq_decide.2 (by omega)
   (try simp only [go_sem,simprocAttr,cell_of hb33,Value.cells,lz]);refine ir_cond rfl (fun hz=>?_) (fun hz=>?_)
   · simp only [zb1,zb2,zb3,zb4,zb5] at hz;(try simp only [go_sem,simprocAttr]);have:checkCodeS T g=174:=by unfold checkCodeS;rw [hn,if_neg (by decide),if_pos hz]
     rw [this];exact ⟨rfl,hm03⟩
   · simp only [zb1,zb2,zb3,zb4,zb5] at hz;have e1:checkCodeS T g=depthLoop T g.code.length 0 g.code (startD g):=by unfold checkCodeS;rw [hn,if_neg (by decide),if_neg hz]
     have b1:(0:Int)≤0∧(0:Int) < g.code.length:=by omega
     have e2:IntKind.i64.wrap (g.arity+1)=g.arity+1:=wrap_in (by omega) (by omega);(try simp only [go_sem,simprocAttr,cell_of hb33,Value.cells]);refine e_ms1 (bytes:=8) (n:=g.code.length) rfl (by omega) (by omega) ?_;intro w4 hb4 hm4 hs4;have hb34:=hm4.at hb33 (fun h=>h);(try simp only [go_sem,simprocAttr,zb4,zb6,cell_of hb34,e2,b1,add_at]);refine e_st1 (off:=0) rfl rfl hb4 rfl (by simp;omega) ?_;intro w5 hb5 hm5 _;have l3:=lt_of_heap hb33;have l1:=lt_of_heap hb13;have hb35:=hm5.at hb34 (fun e=>by omega);have hb15:=hm5.at (hm4.at hb13 (fun h=>h)) (fun e=>by omega);have hD:w5.heap[w3.heap.size]? = some (.cells ((startD g).map I).toArray 3 (0,0)):=by
       rw [hb5];unfold startD;rw [List.map_set,List.map_replicate]
     have hm35:Mod (fun _=>False) w3 w5:=hm4.step hm5 (fun x hx hl=>by subst hx;omega);have hm05:=hm03.trans hm35;have hDb:DBnd (startD g):=by
       intro k;unfold startD;rw [getD_set']
       split
       · omega
       · rw [List.getD_eq_getElem?_getD,List.getElem?_replicate]
         split<;>simp
     (try simp only [go_sem,simprocAttr,cell_of hb35]);refine f_checkCode2 (b2:=w.heap.size) (b3:=w1.heap.size) (bD:=w3.heap.size) (g:=g) (h0.mod hm05 (fun _ _ h=>h) (fun _ h=>h)) (hcv0.mod hm05 (fun _ _ h=>h) (fun _ h=>h)) hsh hcl hxa hn (fun b hb e=>by have:=hBl b hb;have:=hm03.size;omega) hb15 hb35 ⟨by omega,by omega⟩ hD (by simp [startD]) hDb ?_ ?_
     · intro e w6 he hn6 hm6;(try simp only [go_sem,simprocAttr]);rw [e1,hn6];exact ⟨rfl,hm05.step hm6 (fun x hx hl=>by subst hx;have:=hm03.size;omega)⟩
     · intro w6 hn6 hm6 ρ;(try simp only [go_sem,simprocAttr]);rw [e1,hn6];exact ⟨rfl,hm05.step hm6 (fun x hx hl=>by subst hx;have:=hm03.size;omega)⟩
end
end
section
open Go Go.W
def metS (l:List (ByteArray×Int)):List (ByteArray×Int):=l.map fun p=>(p.1,1)
theorem sget_met (l:List (ByteArray×Int)) (k:ByteArray):(sget (metS l) k).getD 0=if (l.map (·.1)).all (fun t=>decide (t≠k))=true then 0 else 1:=by
 induction l with
 | nil=>rfl
 | cons p l ih=>
   by_cases h:p.1=k
   · simp [sget,metS,h]
   · have e:sget (metS (p::l)) k=sget (metS l) k:=by simp [sget,metS,h]
     rw [e,ih,List.map_cons,List.all_cons];have hd:decide (p.1≠k)=true:=by simp [h]
     rw [hd,Bool.true_and]
theorem sput_met {l:List (ByteArray×Int)} {p:ByteArray×Int} (h:(l.map (·.1)).all (fun t=>decide (t≠p.1))=true):sput (metS l) p.1 1=metS (l++[p]):=by
 have e:(metS l).findIdx? (fun q=>decide (q.1=p.1))=none:=by
   rw [List.findIdx?_eq_none_iff];intro q hq;obtain ⟨r,hr,rfl⟩:=List.mem_map.1 hq;have:=List.all_eq_true.1 h r.1 (List.mem_map.2 ⟨r,hr,rfl⟩)
   simpa using this
 unfold sput;rw [e];simp [metS]
theorem all_rev (l:List ByteArray) (k:ByteArray):l.reverse.all (fun t=>decide (t≠k))=l.all (fun t=>decide (t≠k)):=by simp
theorem namesS_at {hi:Int} {l:List (ByteArray×Int)} {i:Nat} (h:i < l.length):namesS hi ((l.take i).map (·.1)).reverse (l.drop i) =
   (isNameS l[i].1&&((l.take i).map (·.1)).all (fun t=>decide (t≠l[i].1))&&decide (0≤l[i].2)&&decide (l[i].2≤hi)&&namesS hi ((l.take (i+1)).map (·.1)).reverse (l.drop (i+1))):=by
 rw [List.drop_eq_getElem_cons h,List.take_succ_eq_append_getElem h];simp only [namesS,List.map_append,List.map_cons,List.map_nil,List.reverse_append,List.reverse_cons,List.reverse_nil,List.nil_append,List.singleton_append,all_rev]
theorem raw_guard {P:Program} {ρ:Env} {w:World} {K:Value→World→Prop} {d:Option Nat} {op:Op} {ty:TypeId} {pos:String} {af:Array Edge} {gd:Option (Nat×Bool)} (h:E.wp P w ρ K (.raw ⟨d,op,ty,pos,af,none⟩)):E.wp P w ρ K (.raw ⟨d,op,ty,pos,af,gd⟩):=h
theorem shape_ln {w:World} {vsh vgl:Value} {T:Tab} {B:Nat→Prop} (h:TabAt w vsh vgl T B) {i:Nat} (hi:i < T.shapes.length):∃ ad c,vsh = .slice (some ad) T.shapes.length c∧vLN w 2 (.pointer (some (ad.add (i*2))))=some (.agg #[.string T.shapes[i].name,I T.shapes[i].fields]):=by
 obtain ⟨ad,c,h1,h2,h3⟩:=shape_at h hi;have e:T.sh (i:Int)=T.shapes[i]:=by unfold Tab.sh;rw [Int.toNat_natCast,List.getD_eq_getElem?_getD,List.getElem?_eq_getElem hi];rfl
 rw [e] at h2 h3;exact ⟨ad,c,h1,ln_2 h2 h3⟩
section
variable {w:World} {vsh vgl:Value} {T:Tab} {B:Nat→Prop}
set_option maxHeartbeats 1000000 in
theorem f_names1 (h:TabAt w vsh vgl T B) (hT:TabFit T) {b1 bM:Nat} (hB:∀ b,B b→b≠bM) (hM:MapS w bM (metS []))
   {Q:Post} (hret:∀ w',namesS 8 [] (shPairs T)=false→Mod (· = bM) w w'→Q .ret [(2,I 172)] w')
   (hend:∀ w' t l,namesS 8 [] (shPairs T)=true→MapS w' bM l→Mod (· = bM) w w'→Q .normal [(1,ptr b1),(3,.map (some bM)),(17,vsh),(18,I T.shapes.length),(19,I T.shapes.length),(20,t)] w') :
   irwp Tryz.prog 117 (.block 0 (.loop ir73L1)) Q [(1,ptr b1),(3,.map (some bM)),(17,vsh),(18,I T.shapes.length),(19,I 0)] w:=by
 obtain ⟨⟨aS,cS,rfl⟩,aG,cG,rfl⟩:=tab_sl h;have hpl:(shPairs T).length=T.shapes.length:=by simp [shPairs]
 have hsn:=hT.sn;have hgn:=hT.gn;(try simp only [go_sem,simprocAttr])
 refine ir_loop (fun z ρ w'=>∃ i:Nat,z=T.shapes.length - i∧i≤T.shapes.length∧Mod (· = bM) w w'∧MapS w' bM (metS ((shPairs T).take i))∧namesS 8 [] (shPairs T)=namesS 8 (((shPairs T).take i).map (·.1)).reverse ((shPairs T).drop i) ∧
   ρ=[(1,ptr b1),(3,.map (some bM)),(17,.slice aS T.shapes.length cS),(18,I T.shapes.length),(19,I i)]) T.shapes.length ⟨0,rfl,by omega,Mod.refl _ _,hM,rfl,rfl⟩ ?_
 rintro z ρ w2 ⟨i,rfl,hi,hm2,hM2,heq,rfl⟩;unfold ir73L1;(try simp only [go_sem,simprocAttr]);refine ir_cond rfl (fun hlt=>?_) (fun hlt=>?_)
 · have hlt:i < T.shapes.length:=by simpa using hlt
   have h2:=h.mod hm2 (fun b hb=>hB b hb) (fun _ h=>h);obtain ⟨ad,c,e',hln⟩:=shape_ln h2 hlt;cases e';have hsz:=hT.sname _ (List.getElem_mem hlt);have hat:=namesS_at (hi:=8) (l:=shPairs T) (i:=i) (by omega);have hpi:(shPairs T)[i]'(by omega)=(T.shapes[i].name,T.shapes[i].fields):=by simp [shPairs]
   rw [hpi] at hat;have htk:(shPairs T).take (i+1)=(shPairs T).take i++[(T.shapes[i].name,T.shapes[i].fields)]:=by rw [List.take_succ_eq_append_getElem (by omega),hpi]
   skip
   generalize T.shapes[i].name=nm at *;generalize T.shapes[i].fields=nv at *;have b1':(0:Int)≤i∧(i:Int) < T.shapes.length:=by omega
   (try simp only [go_sem,simprocAttr,zb4,zb6,b1',hln]);refine e_al ?_;intro w3 hb30 hm3 _;refine e_sta (cs:=[.string ⟨#[]⟩,I 0]) rfl rfl hb30 rfl rfl (by simp [Value.oneCell']) ?_;intro w4 hb4 hm4 _;have hm24:Mod (fun _=>False) w2 w4:=hm3.step hm4 (fun x hx hl=>by subst hx;omega);have hM4:=maps_mod hM2 hm24 (fun h=>h);have hne:w2.heap.size≠bM:=fun e=>by obtain ⟨es,ck,h1,_⟩:=hM2;have:=lt_of_heap h1;omega
   (try simp only [go_sem,simprocAttr,cell_of hb4]);refine e_call (by rfl) ?_;refine (f_isName w4 nm hsz).mono ?_;rintro _ _ ⟨rfl,rfl⟩;have hm04:Mod (· = bM) w w4:=hm2.step hm24 (fun _ h _=>h.elim);have hsg:=sget_met ((shPairs T).take i) nm;(try simp only [go_sem,simprocAttr])
   refine wpS_cut (fun ρ w'=>w4=w'∧ρ.get 1=some (ptr b1)∧ρ.get 3=some (.map (some bM))∧ρ.get 5=some (ptr w2.heap.size)∧ρ.get 17=some (.slice (some ad) T.shapes.length cS)∧ρ.get 18=some (I T.shapes.length)∧ρ.get 19=some (I i) ∧
     ρ.get 43=some (.bool (!(isNameS nm&&(((shPairs T).take i).map (·.1)).all (fun t=>decide (t≠nm))&&decide (0≤nv)&&decide (nv≤8))))) ?_ ?_
   · have n1:decide (0≤nv) = !decide (nv < 0):=by by_cases q:nv < 0<;>simp [q];omega
     have n2:decide (nv≤8) = !decide (nv > 8):=by by_cases q:nv > 8<;>simp [q];omega
     rw [n1,n2];generalize ((((shPairs T).take i).map (·.1)).all (fun t=>decide (t≠nm)))=q at *;cases hA:isNameS nm
     · (try simp only [go_sem,simprocAttr,hA,Bool.not_false,Bool.false_and,cell_of hb4])
     · (try simp only [go_sem,simprocAttr,hA,Bool.not_true,cell_of hb4]);refine raw_guard (e_l1S (t:=80) (kt:=9) (et:=3) rfl rfl Tryz.underlying80 Tryz.underlying9 (Tryz.zeroValue3 _) hM4 ?_);rw [hsg];cases q
       · (try simp only [go_sem,simprocAttr,cell_of hb4,Int.reduceGT,Int.reduceLT,decide_true,Bool.and_false,Bool.false_and,Bool.not_false])
       · cases hC:decide (nv < 0)<;>cases hD:decide (nv > 8)<;>(try simp only [go_sem,simprocAttr,cell_of hb4,hC,hD,gt_iff_lt,Int.reduceLT,Int.lt_irrefl,decide_false,Bool.and_true,Bool.true_and,Bool.and_false,Bool.not_true,Bool.not_false])
   rintro ρ _ ⟨rfl,r1,r3,rB,rv,rn,ri,rr⟩;(try simp only [go_sem,simprocAttr,r1,r3,rB,rv,rn,ri,rr]);refine ir_cond rfl (fun hbad=>?_) (fun hbad=>?_)
   · rw [Bool.not_eq_true'] at hbad;(try simp only [go_sem,simprocAttr]);exact hret _ (by rw [heq,hat,hbad];rfl) hm04
   · have hbad:(isNameS nm&&(((shPairs T).take i).map (·.1)).all (fun t=>decide (t≠nm))&&decide (0≤nv)&&decide (nv≤8))=true:=by simpa using hbad
     rw [hbad,Bool.true_and] at hat;have hall:(((shPairs T).take i).map (·.1)).all (fun t=>decide (t≠nm))=true:=by
       simp only [Bool.and_eq_true] at hbad;exact hbad.1.1.2
     have e1:IntKind.i64.wrap ((i:Int)+1)=((i+1:Nat):Int):=by rw [wrap_in (by omega) (by omega)];omega
     (try simp only [go_sem,simprocAttr,cell_of hb4]);refine e_muS (t:=80) (kt:=9) (et:=3) (v:=1) (by rfl) (by rfl) (by rfl) Tryz.underlying80 Tryz.underlying9 hM4 ?_;intro w5 hM5 hm5 _;have hsp:=sput_met (p:=(nm,nv)) hall;rw [show sput (metS ((shPairs T).take i)) nm 1=metS ((shPairs T).take (i+1)) from by rw [htk];exact hsp] at hM5;(try simp only [go_sem,simprocAttr,e1]);exact ⟨_,by omega,i+1,rfl,by omega,hm04.trans hm5,hM5,by rw [heq,hat],rfl⟩
 · have hlt:¬ i < T.shapes.length:=by simpa using hlt
   obtain rfl:i=T.shapes.length:=by omega
   (try simp only [go_sem,simprocAttr]);refine hend w2 _ _ ?_ hM2 hm2;rw [heq,← hpl,List.drop_length];rfl
set_option maxHeartbeats 1000000 in
theorem f_names3 (h:TabAt w vsh vgl T B) (hT:TabFit T) {b1 bM:Nat} (hB:∀ b,B b→b≠bM) (hM:MapS w bM (metS []))
   {Q:Post} (hret:∀ w',namesS 24 [] (glPairs T)=false→Mod (· = bM) w w'→Q .ret [(2,I 172)] w')
   (hend:∀ w' t l,namesS 24 [] (glPairs T)=true→MapS w' bM l→Mod (· = bM) w w'→Q .normal [(1,ptr b1),(3,.map (some bM)),(72,vgl),(73,I T.globals.length),(74,I T.globals.length),(75,t)] w') :
   irwp Tryz.prog 117 (.block 4 (.loop ir73L3)) Q [(1,ptr b1),(3,.map (some bM)),(72,vgl),(73,I T.globals.length),(74,I 0)] w:=by
 obtain ⟨⟨aS,cS,rfl⟩,aG,cG,rfl⟩:=tab_sl h;have hpl:(glPairs T).length=T.globals.length:=by simp [glPairs]
 have hsn:=hT.sn;have hgn:=hT.gn;(try simp only [go_sem,simprocAttr])
 refine ir_loop (fun z ρ w'=>∃ i:Nat,z=T.globals.length - i∧i≤T.globals.length∧Mod (· = bM) w w'∧MapS w' bM (metS ((glPairs T).take i))∧namesS 24 [] (glPairs T)=namesS 24 (((glPairs T).take i).map (·.1)).reverse ((glPairs T).drop i) ∧
   ρ=[(1,ptr b1),(3,.map (some bM)),(72,.slice aG T.globals.length cG),(73,I T.globals.length),(74,I i)]) T.globals.length ⟨0,rfl,by omega,Mod.refl _ _,hM,rfl,rfl⟩ ?_
 rintro z ρ w2 ⟨i,rfl,hi,hm2,hM2,heq,rfl⟩;unfold ir73L3;(try simp only [go_sem,simprocAttr]);refine ir_cond rfl (fun hlt=>?_) (fun hlt=>?_)
 · have hlt:i < T.globals.length:=by simpa using hlt
   have h2:=h.mod hm2 (fun b hb=>hB b hb) (fun _ h=>h);obtain ⟨ad,c,cv,e',hln,_⟩:=glob_ln h2 hlt;cases e';have hsz:=hT.gname _ (List.getElem_mem hlt);have hat:=namesS_at (hi:=24) (l:=glPairs T) (i:=i) (by omega);have hpi:(glPairs T)[i]'(by omega)=(T.globals[i].name,T.globals[i].arity):=by simp [glPairs]
   rw [hpi] at hat;have htk:(glPairs T).take (i+1)=(glPairs T).take i++[(T.globals[i].name,T.globals[i].arity)]:=by rw [List.take_succ_eq_append_getElem (by omega),hpi]
   unfold glV at hln;generalize T.globals[i].name=nm at *;generalize T.globals[i].arity=nv at *;have b1':(0:Int)≤i∧(i:Int) < T.globals.length:=by omega
   (try simp only [go_sem,simprocAttr,zb4,zb6,b1',hln]);refine e_al ?_;intro w3 hb30 hm3 _;refine e_sta (cs:=[.string ⟨#[]⟩,I 0,.slice none 0 0]) rfl rfl hb30 rfl rfl (by obtain ⟨acv,ccv,rfl⟩:=rows_sl ‹_›;simp [Value.oneCell']) ?_;intro w4 hb4 hm4 _;have hm24:Mod (fun _=>False) w2 w4:=hm3.step hm4 (fun x hx hl=>by subst hx;omega);have hM4:=maps_mod hM2 hm24 (fun h=>h);have hne:w2.heap.size≠bM:=fun e=>by obtain ⟨es,ck,h1,_⟩:=hM2;have:=lt_of_heap h1;omega
   (try simp only [go_sem,simprocAttr,cell_of hb4]);refine e_call (by rfl) ?_;refine (f_isName w4 nm hsz).mono ?_;rintro _ _ ⟨rfl,rfl⟩;have hm04:Mod (· = bM) w w4:=hm2.step hm24 (fun _ h _=>h.elim);have hsg:=sget_met ((glPairs T).take i) nm;(try simp only [go_sem,simprocAttr])
   refine wpS_cut (fun ρ w'=>w4=w'∧ρ.get 1=some (ptr b1)∧ρ.get 3=some (.map (some bM))∧ρ.get 9=some (ptr w2.heap.size)∧ρ.get 72=some (.slice (some ad) T.globals.length cG)∧ρ.get 73=some (I T.globals.length)∧ρ.get 74=some (I i) ∧
     ρ.get 98=some (.bool (!(isNameS nm&&(((glPairs T).take i).map (·.1)).all (fun t=>decide (t≠nm))&&decide (0≤nv)&&decide (nv≤24))))) ?_ ?_
   · have n1:decide (0≤nv) = !decide (nv < 0):=by by_cases q:nv < 0<;>simp [q];omega
     have n2:decide (nv≤24) = !decide (nv > 24):=by by_cases q:nv > 24<;>simp [q];omega
     rw [n1,n2];generalize ((((glPairs T).take i).map (·.1)).all (fun t=>decide (t≠nm)))=q at *;cases hA:isNameS nm
     · (try simp only [go_sem,simprocAttr,hA,Bool.not_false,Bool.false_and,cell_of hb4])
     · (try simp only [go_sem,simprocAttr,hA,Bool.not_true,cell_of hb4]);refine raw_guard (e_l1S (t:=80) (kt:=9) (et:=3) rfl rfl Tryz.underlying80 Tryz.underlying9 (Tryz.zeroValue3 _) hM4 ?_);rw [hsg];cases q
       · (try simp only [go_sem,simprocAttr,cell_of hb4,Int.reduceGT,Int.reduceLT,decide_true,Bool.and_false,Bool.false_and,Bool.not_false])
       · cases hC:decide (nv < 0)<;>cases hD:decide (nv > 24)<;>(try simp only [go_sem,simprocAttr,cell_of hb4,hC,hD,gt_iff_lt,Int.reduceLT,Int.lt_irrefl,decide_false,Bool.and_true,Bool.true_and,Bool.and_false,Bool.not_true,Bool.not_false])
   rintro ρ _ ⟨rfl,r1,r3,rB,rv,rn,ri,rr⟩;(try simp only [go_sem,simprocAttr,r1,r3,rB,rv,rn,ri,rr]);refine ir_cond rfl (fun hbad=>?_) (fun hbad=>?_)
   · rw [Bool.not_eq_true'] at hbad;(try simp only [go_sem,simprocAttr]);exact hret _ (by rw [heq,hat,hbad];rfl) hm04
   · have hbad:(isNameS nm&&(((glPairs T).take i).map (·.1)).all (fun t=>decide (t≠nm))&&decide (0≤nv)&&decide (nv≤24))=true:=by simpa using hbad
     rw [hbad,Bool.true_and] at hat;have hall:(((glPairs T).take i).map (·.1)).all (fun t=>decide (t≠nm))=true:=by
       simp only [Bool.and_eq_true] at hbad;exact hbad.1.1.2
     have e1:IntKind.i64.wrap ((i:Int)+1)=((i+1:Nat):Int):=by rw [wrap_in (by omega) (by omega)];omega
     (try simp only [go_sem,simprocAttr,cell_of hb4]);refine e_muS (t:=80) (kt:=9) (et:=3) (v:=1) (by rfl) (by rfl) (by rfl) Tryz.underlying80 Tryz.underlying9 hM4 ?_;intro w5 hM5 hm5 _;have hsp:=sput_met (p:=(nm,nv)) hall;rw [show sput (metS ((glPairs T).take i)) nm 1=metS ((glPairs T).take (i+1)) from by rw [htk];exact hsp] at hM5;(try simp only [go_sem,simprocAttr,e1]);exact ⟨_,by omega,i+1,rfl,by omega,hm04.trans hm5,hM5,by rw [heq,hat],rfl⟩
 · have hlt:¬ i < T.globals.length:=by simpa using hlt
   obtain rfl:i=T.globals.length:=by omega
   (try simp only [go_sem,simprocAttr]);refine hend w2 _ _ ?_ hM2 hm2;rw [heq,← hpl,List.drop_length];rfl
end
end
section
open Go Go.W
theorem ba_loop (a:ByteArray):∀ (n i:Nat) (r:List UInt8),a.size - i=n→ByteArray.toList.loop a i r=r.reverse++a.data.toList.drop i:=by
 have hs:a.data.toList.length=a.size:=by
   show a.data.toList.length=a.data.size;exact Array.length_toList
 intro n
 induction n with
 | zero=>
   intro i r h;rw [ByteArray.toList.loop,if_neg (by omega),List.drop_eq_nil_of_le (by omega),List.append_nil]
 | succ n ih=>
   intro i r h;have hi:i < a.data.toList.length:=by omega
   rw [ByteArray.toList.loop,if_pos (by omega),ih (i+1) _ (by omega),List.drop_eq_getElem_cons hi];have e:a.get! i=a.data.toList[i]:=by
     show a.data[i]! = _;rw [getElem!_pos a.data i (by simpa using hi)];simp
   rw [e];simp
theorem ba_toList (a:ByteArray):a.toList=a.data.toList:=by
 show ByteArray.toList.loop a 0 []=_;rw [ba_loop a _ 0 [] rfl];rfl
theorem ba_inj {a b:ByteArray} (h:a.toList=b.toList):a=b:=by
 rw [ba_toList,ba_toList] at h;cases a;cases b;rename_i x y;have:x=y:=Array.ext' h;rw [this]
theorem ba_leq (a b:ByteArray):(a.toList == b.toList)=decide (a=b):=by
 by_cases h:a=b
 · subst h;simp
 · have:a.toList≠b.toList:=fun e=>h (ba_inj e)
   simp [h,this]
theorem upto7 {i:Nat} (h:i < 7):i=0∨i=1∨i=2∨i=3∨i=4∨i=5∨i=6:=by omega
theorem givenS_len:givenS.length=7:=rfl
theorem given_ln {w:World} {b:Nat} (h:w.heap[b]? = some (.cells (givenS.flatMap shRow).toArray 47 (0,0))) {i:Nat} (hi:i < 7):vLN w 2 (.pointer (some ⟨b,i*2,none⟩))=some (.agg #[.string (givenS[i]'(by rw [givenS_len];exact hi)).name,I (givenS[i]'(by rw [givenS_len];exact hi)).fields]):=by
 have hl:(givenS.flatMap shRow).length=14:=rfl;have:=ln_of (off:=i*2) (n:=2) h (by rw [hl];omega);rcases upto7 hi with rfl | rfl | rfl | rfl | rfl | rfl | rfl<;>exact this
theorem shp_eq (a b:Shp):a=b↔a.name=b.name∧a.fields=b.fields:=by
 constructor
 · rintro rfl;exact ⟨rfl,rfl⟩
 · rintro ⟨h1,h2⟩;cases a;cases b;simp_all
section
variable {w:World} {vsh vgl:Value} {T:Tab} {B:Nat→Prop}
theorem f_given7 (h:TabAt w vsh vgl T B) (hT:TabFit T) {b1 bM bG:Nat} (hb1:w.heap[b1]? = some (.cells #[vsh,vgl] 25 (0,0))) (hG:w.heap[bG]? = some (.cells (givenS.flatMap shRow).toArray 47 (0,0)))
   {Q:Post} (hret:∀ w',¬ (T.shapes.take 7=givenS)→Mod (fun _=>False) w w'→Q .ret [(2,I 172)] w')
   (hend:∀ w' t,T.shapes.take 7=givenS→Mod (fun _=>False) w w'→Q .normal [(1,ptr b1),(3,.map (some bM)),(48,.slice (some ⟨bG,0,none⟩) 7 7),(49,I 7),(50,I 7),(51,t)] w') :
   irwp Tryz.prog 117 (.block 2 (.loop ir73L2)) Q [(1,ptr b1),(3,.map (some bM)),(48,.slice (some ⟨bG,0,none⟩) 7 7),(49,I 7),(50,I 0)] w:=by
 obtain ⟨⟨aS,cS,rfl⟩,aG,cG,rfl⟩:=tab_sl h;have hsn:=hT.sn;(try simp only [go_sem,Nat.reduceAdd,Nat.reduceEqDiff,Nat.reduceLT,Nat.reduceLeDiff,Nat.reduceMul,reduceCtorEq,↓reduceIte])
 refine ir_loop (fun z ρ w'=>∃ i:Nat,z=7 - i∧i≤7∧Mod (fun _=>False) w w'∧T.shapes.take i=givenS.take i ∧
   ρ=[(1,ptr b1),(3,.map (some bM)),(48,.slice (some ⟨bG,0,none⟩) 7 7),(49,I 7),(50,I i)]) 7 ⟨0,rfl,by omega,Mod.refl _ _,rfl,rfl⟩ ?_
 rintro z ρ w2 ⟨i,rfl,hi,hm2,heq,rfl⟩;unfold ir73L2;(try simp only [go_sem,Nat.reduceAdd,Nat.reduceEqDiff,Nat.reduceLT,Nat.reduceLeDiff,Nat.reduceMul,reduceCtorEq,↓reduceIte]);refine ir_cond rfl (fun hlt=>?_) (fun hlt=>?_)
 · have hlt:i < 7:=by
     simp only [zb1,zb2,zb3,zb4,zb5] at hlt;omega
   have b0:(0:Int)≤i∧(i:Int) < ((7:Nat):Int):=by omega
   have hgl:=given_ln (hm2.at hG (fun h=>h)) hlt;have hgi:i < givenS.length:=by rw [givenS_len];exact hlt
   generalize hgv:givenS[i]=gs at *;have hgt:givenS.take (i+1)=givenS.take i++[gs]:=by rw [List.take_succ_eq_append_getElem hgi,hgv]
   have hg7:givenS[i]? = some gs:=by rw [List.getElem?_eq_getElem hgi,hgv]
   have h2:=h.mod hm2 (fun _ _ h=>h) (fun _ h=>h);have hb12:=hm2.at hb1 (fun h=>h);(try simp only [go_sem,Nat.reduceAdd,Nat.reduceEqDiff,Nat.reduceLT,Nat.reduceLeDiff,Nat.reduceMul,reduceCtorEq,↓reduceIte,zb4,zb6,b0,add_at,hgl]);refine e_al ?_;intro w3 hb30 hm3 _;refine e_sta (cs:=[.string ⟨#[]⟩,I 0]) rfl rfl hb30 rfl rfl (by simp [Value.oneCell']) ?_;intro w4 hb4 hm4 _;have hm24:Mod (fun _=>False) w2 w4:=hm3.step hm4 (fun x hx hl=>by subst hx;omega);have hm04:=hm2.trans hm24;have hb14:=hm24.at hb12 (fun h=>h);have e1:IntKind.i64.wrap ((i:Int)+1)=((i+1:Nat):Int):=by rw [wrap_in (by omega) (by omega)];omega
   have h4d:=h2.mod hm24.drew (fun _ _ h=>h) (fun _ h=>h);have hb4d:w4.drew.heap[w2.heap.size]? = _:=hb4;have hl4:=ln_of (cs:=[_,_]) (off:=0) (n:=2) hb4d (by simp);(try simp only [go_sem,Nat.reduceAdd,Nat.reduceEqDiff,Nat.reduceLT,Nat.reduceLeDiff,Nat.reduceMul,reduceCtorEq,↓reduceIte,cell_of hb14]);refine wpS_cut (fun ρ w'=>w'=w4.drew∧ρ.get 1=some (ptr b1)∧ρ.get 3=some (.map (some bM))∧ρ.get 48=some (.slice (some ⟨bG,0,none⟩) 7 7)∧ρ.get 49=some (I 7)∧ρ.get 50=some (I i)∧ρ.get 68=some (.bool (decide (T.shapes[i]?≠some gs)))) ?_ ?_
   · by_cases hil:i < T.shapes.length
     · have hge:decide ((i:Int)≥T.shapes.length)=false:=decide_eq_false (by omega);obtain ⟨ad,c,e',hln⟩:=shape_ln h4d hil;cases e';have b1':(0:Int)≤i∧(i:Int) < T.shapes.length:=by omega
       (try simp only [go_sem,Nat.reduceAdd,Nat.reduceEqDiff,Nat.reduceLT,Nat.reduceLeDiff,Nat.reduceMul,reduceCtorEq,↓reduceIte,zb4,zb6,hge,cell_of hb14,b1',hln,hl4]);rw [ba_leq,ieq,List.getElem?_eq_getElem hil]
       congr 1
       by_cases q:T.shapes[i]=gs
       · simp [q]
       · have:¬ (T.shapes[i].name=gs.name∧T.shapes[i].fields=gs.fields):=fun hh=>q ((shp_eq _ _).2 hh)
         rw [← Bool.decide_and,decide_eq_false this];simp [q]
     · have hge:decide ((i:Int)≥T.shapes.length)=true:=decide_eq_true (by omega);(try simp only [go_sem,Nat.reduceAdd,Nat.reduceEqDiff,Nat.reduceLT,Nat.reduceLeDiff,Nat.reduceMul,reduceCtorEq,↓reduceIte,hge]);rw [List.getElem?_eq_none (by omega)];simp
   rintro ρ _ ⟨rfl,r1,r3,r48,r49,r50,r68⟩;(try simp only [go_sem,Nat.reduceAdd,Nat.reduceEqDiff,Nat.reduceLT,Nat.reduceLeDiff,Nat.reduceMul,reduceCtorEq,↓reduceIte,r1,r3,r48,r49,r50,r68]);refine ir_cond rfl (fun hbad=>?_) (fun hbad=>?_)
   · simp only [zb1,zb2,zb3,zb4,zb5] at hbad;(try simp only [go_sem,Nat.reduceAdd,Nat.reduceEqDiff,Nat.reduceLT,Nat.reduceLeDiff,Nat.reduceMul,reduceCtorEq,↓reduceIte]);refine hret _ (fun e=>hbad ?_) hm04.drew;rw [← hg7,← e,List.getElem?_take,if_pos hlt]
   · have hok:T.shapes[i]? = some gs:=by simpa using hbad
     (try simp only [go_sem,Nat.reduceAdd,Nat.reduceEqDiff,Nat.reduceLT,Nat.reduceLeDiff,Nat.reduceMul,reduceCtorEq,↓reduceIte,e1]);refine ⟨_,by omega,i+1,rfl,by omega,hm04.drew,?_,rfl⟩;obtain ⟨hil,hv⟩:=List.getElem?_eq_some_iff.1 hok;rw [hgt,List.take_succ_eq_append_getElem hil,hv,heq]
 · have hlt:¬ i < 7:=by
     simp only [zb1,zb2,zb3,zb4,zb5] at hlt;omega
   obtain rfl:i=7:=by omega
   (try simp only [go_sem,Nat.reduceAdd,Nat.reduceEqDiff,Nat.reduceLT,Nat.reduceLeDiff,Nat.reduceMul,reduceCtorEq,↓reduceIte]);refine hend w2 _ ?_ hm2;rw [heq];rfl
theorem codesS_at {l:List Gl} {i:Nat} (h:i < l.length):codesS T (l.drop i)=if checkCodeS T l[i]=0 then codesS T (l.drop (i+1)) else checkCodeS T l[i]:=by
 rw [List.drop_eq_getElem_cons h];rfl
theorem f_codes (h:TabAt w vsh vgl T B) (hT:TabFit T) (hBl:∀ b,B b→b < w.heap.size) (hsh:∀ s∈T.shapes,0≤s.fields∧s.fields≤8) (har:∀ g∈T.globals,0≤g.arity∧g.arity≤24) (hcl:∀ g∈T.globals,g.code.length≤8000) {b1:Nat} (hb1:w.heap[b1]? = some (.cells #[vsh,vgl] 25 (0,0)))
   {Q:Post} (hret:∀ w' e,e≠0→codesS T T.globals=e→Mod (fun _=>False) w w'→Q .ret [(2,I e)] w')
   (hend:∀ w' t,codesS T T.globals=0→Mod (fun _=>False) w w'→Q .normal [(1,ptr b1),(104,vgl),(105,I T.globals.length),(106,I T.globals.length),(107,t)] w') :
   irwp Tryz.prog 117 (.block 6 (.loop ir73L4)) Q [(1,ptr b1),(104,vgl),(105,I T.globals.length),(106,I 0)] w:=by
 have h0:=h;obtain ⟨⟨aS,cS,rfl⟩,aG,cG,rfl⟩:=tab_sl h;have hgn:=hT.gn;(try simp only [go_sem,simprocAttr])
 refine ir_loop (fun z ρ w'=>∃ i:Nat,z=T.globals.length - i∧i≤T.globals.length∧Mod (fun _=>False) w w'∧codesS T T.globals=codesS T (T.globals.drop i) ∧
   ρ=[(1,ptr b1),(104,.slice aG T.globals.length cG),(105,I T.globals.length),(106,I i)]) T.globals.length ⟨0,rfl,by omega,Mod.refl _ _,rfl,rfl⟩ ?_
 rintro z ρ w2 ⟨i,rfl,hi,hm2,heq,rfl⟩;unfold ir73L4;(try simp only [go_sem,simprocAttr]);refine ir_cond rfl (fun hlt=>?_) (fun hlt=>?_)
 · have hlt:i < T.globals.length:=by simpa using hlt
   have h2:=h.mod hm2 (fun _ _ h=>h) (fun _ h=>h);obtain ⟨ad,c,cv,e',hln,hcv⟩:=glob_ln h2 hlt;cases e';have hgm:=List.getElem_mem hlt;have hat:=codesS_at (T:=T) hlt;generalize hgv:T.globals[i]=g at *;have b1':(0:Int)≤i∧(i:Int) < T.globals.length:=by omega
   unfold glV at hln;(try simp only [go_sem,simprocAttr,zb4,zb6,b1',hln]);refine e_al ?_;intro w3 hb30 hm3 _;refine e_sta (cs:=[.string ⟨#[]⟩,I 0,.slice none 0 0]) rfl rfl hb30 rfl rfl (by obtain ⟨acv,ccv,rfl⟩:=rows_sl hcv;simp [Value.oneCell']) ?_;intro w4 hb4 hm4 _;have hm24:Mod (fun _=>False) w2 w4:=hm3.step hm4 (fun x hx hl=>by subst hx;omega);have hm04:=hm2.trans hm24;have hb14:=hm04.at hb1 (fun h=>h);have hl1:=ln_of (cs:=[_,_]) (off:=0) (n:=2) hb14 (by simp);have hl4:=ln_of (cs:=[_,_,_]) (off:=0) (n:=3) hb4 (by simp);have e1:IntKind.i64.wrap ((i:Int)+1)=((i+1:Nat):Int):=by rw [wrap_in (by omega) (by omega)];omega
   (try simp only [go_sem,simprocAttr,hl1,hl4]);refine e_call (by rfl) ?_;refine (f_checkCode (g:=g) (h0.mod hm04 (fun _ _ h=>h) (fun _ h=>h)) (hcv.mod hm24 (fun _ _ h=>h) (fun _ h=>h)) (fun b hb=>by have:=hBl b hb;have:=hm04.size;omega) hsh (har g hgm) (hcl g hgm) (hT.xa g hgm)).mono ?_;rintro _ w5 ⟨rfl,hm5⟩;have hm05:=hm04.trans hm5;(try simp only [go_sem,simprocAttr]);refine ir_cond rfl (fun hz=>?_) (fun hz=>?_)
   · simp only [zb1,zb2,zb3,zb4,zb5] at hz;(try simp only [go_sem,simprocAttr]);exact hret _ _ hz (by rw [heq,hat,if_neg hz]) hm05
   · simp only [zb1,zb2,zb3,zb4,zb5] at hz;(try simp only [go_sem,simprocAttr,e1]);exact ⟨_,by omega,i+1,rfl,by omega,hm05,by rw [heq,hat,if_pos hz],rfl⟩
 · have hlt:¬ i < T.globals.length:=by simpa using hlt
   obtain rfl:i=T.globals.length:=by omega
   (try simp only [go_sem,simprocAttr]);refine hend w2 _ ?_ hm2;rw [heq,List.drop_length];rfl
theorem f_Check (h:TabAt w vsh vgl T B) (hT:TabFit T) (hBl:∀ b,B b→b < w.heap.size):CallsR Tryz.prog 73 [tabV vsh vgl] w fun r w'=>r=I (checkS T)∧Mod (fun _=>False) w w':=by
 have h0:=h;obtain ⟨⟨aS,cS,rfl⟩,aG,cG,rfl⟩:=tab_sl h;refine fit73.calls rfl ?_;unfold ir73 tabV;(try simp only [go_sem,simprocAttr]);refine e_bx rfl ?_;intro w1 hb1 hm1 hs1;have hb1:w1.heap[w.heap.size]? = some (.cells #[.slice aS T.shapes.length cS,.slice aG T.globals.length cG] 25 (0,0)):=hb1;have h1:=h0.mod hm1 (fun _ _ h=>h) (fun _ h=>h);have hl1:=ln_of (cs:=[_,_]) (off:=0) (n:=2) hb1 (by simp);(try simp only [go_sem,simprocAttr,hl1]);refine e_call (by rfl) ?_;refine (f_great h1 hT).mono ?_;rintro _ w2 ⟨rfl,hm2⟩;have hm02:=hm1.trans hm2;have hb2:=hm2.at hb1 (fun h=>h);(try simp only [go_sem,simprocAttr]);refine ir_cond rfl (fun hg=>?_) (fun hg=>?_)
 · (try simp only [go_sem,simprocAttr]);have e:checkS T=4:=by unfold checkS;rw [if_pos hg]
   rw [e];exact ⟨rfl,hm02⟩
 have e0:checkS T=if namesS 8 [] (shPairs T)=false then 172 else if ¬ (T.shapes.take 7=givenS) then 172 else if namesS 24 [] (glPairs T)=false then 172 else codesS T T.globals:=by
   unfold checkS;rw [if_neg (by rw [hg];simp)]
 (try simp only [go_sem,simprocAttr]);refine e_mmS ?_;intro w3 hM3 hm3 _;have hm03:=hm02.trans hm3;have hb3:=hm3.at hb2 (fun h=>h);have lB:∀ b,B b→b < w2.heap.size:=fun b hb=>by have:=hBl b hb;have:=hm02.size;omega
 have lb:=lt_of_heap hb2;(try simp only [go_sem,simprocAttr,cell_of hb3]);refine f_names1 (b1:=w.heap.size) (bM:=w2.heap.size) (h0.mod hm03 (fun _ _ h=>h) (fun _ h=>h)) hT (fun b hb e=>by have:=lB b hb;omega) hM3 ?_ ?_
 · intro w4 hn hm4;(try simp only [go_sem,simprocAttr]);rw [e0,if_pos hn];exact ⟨rfl,hm03.step hm4 (fun x hx hl=>by subst hx;have:=hm02.size;omega)⟩
 intro w4 t4 l4 hn1 hM4 hm4;rw [if_neg (by rw [hn1];simp)] at e0;have hm04:=hm03.step hm4 (fun x hx hl=>by subst hx;have:=hm02.size;omega);have hb4:=hm4.at hb3 (fun e=>by omega);(try simp only [go_sem,simprocAttr]);refine e_call (by rfl) ?_;refine (f_given w4).mono ?_;rintro _ w5 ⟨rfl,hG5,hm5⟩;have hm05:=hm04.trans hm5;have hb5:=hm5.at hb4 (fun h=>h);have hM5:=maps_mod hM4 hm5 (fun h=>h);(try simp only [go_sem,simprocAttr]);refine f_given7 (b1:=w.heap.size) (bM:=w2.heap.size) (bG:=w4.heap.size) (h0.mod hm05 (fun _ _ h=>h) (fun _ h=>h)) hT hb5 hG5 ?_ ?_
 · intro w6 hn hm6;(try simp only [go_sem,simprocAttr]);rw [e0,if_pos hn];exact ⟨rfl,hm05.trans hm6⟩
 intro w6 t6 hn2 hm6;rw [if_neg (by simpa using hn2)] at e0;have hm06:=hm05.trans hm6;have hb6:=hm6.at hb5 (fun h=>h);have hM6:=maps_mod hM5 hm6 (fun h=>h);(try simp only [go_sem,simprocAttr]);refine e_clS (t:=80) (kt:=9) (et:=3) rfl (by rfl) Tryz.underlying80 hM6 ?_;intro w7 hM7 hm7 _;have hm07:=hm06.step hm7 (fun x hx hl=>by subst hx;have:=hm02.size;omega);have hb7:=hm7.at hb6 (fun e=>by omega);(try simp only [go_sem,simprocAttr,cell_of hb7]);refine f_names3 (b1:=w.heap.size) (bM:=w2.heap.size) (h0.mod hm07 (fun _ _ h=>h) (fun _ h=>h)) hT (fun b hb e=>by have:=lB b hb;omega) hM7 ?_ ?_
 · intro w8 hn hm8;(try simp only [go_sem,simprocAttr]);rw [e0,if_pos hn];exact ⟨rfl,hm07.step hm8 (fun x hx hl=>by subst hx;have:=hm02.size;omega)⟩
 intro w8 t8 l8 hn3 hM8 hm8;rw [if_neg (by rw [hn3];simp)] at e0;have hm08:=hm07.step hm8 (fun x hx hl=>by subst hx;have:=hm02.size;omega);have hb8:=hm8.at hb7 (fun e=>by omega);obtain ⟨s1,_⟩:=namesS_ok _ _ hn1;obtain ⟨g1,_⟩:=namesS_ok _ _ hn3;have hsh:∀ s∈T.shapes,0≤s.fields∧s.fields≤8:=fun s hs=>(s1 (s.name,s.fields) (List.mem_map.2 ⟨s,hs,rfl⟩)).2.2
 have har:∀ g∈T.globals,0≤g.arity∧g.arity≤24:=fun g hg=>(g1 (g.name,g.arity) (List.mem_map.2 ⟨g,hg,rfl⟩)).2.2
 have hcl:∀ g∈T.globals,g.code.length≤8000:=fun g hg'=>by
   rw [greatS_mid,Bool.or_eq_false_iff,List.any_eq_false] at hg;have:=hg.1 g hg';simp at this;omega
 (try simp only [go_sem,simprocAttr,cell_of hb8]);refine f_codes (b1:=w.heap.size) (h0.mod hm08 (fun _ _ h=>h) (fun _ h=>h)) hT (fun b hb=>by have:=hBl b hb;have:=hm08.size;omega) hsh har hcl hb8 ?_ ?_
 · intro w9 e he hn hm9;(try simp only [go_sem,simprocAttr]);rw [e0,hn];exact ⟨rfl,hm08.trans hm9⟩
 · intro w9 t hn hm9;(try simp only [go_sem,simprocAttr]);rw [e0,hn];exact ⟨rfl,hm08.trans hm9⟩
end
end
section
open Go Go.W Go.W.Z
def ir5:IR:=z [] [0,1,2] <| z [c 13 8 [],m 7 13] [0,1,2,7] <| z [c 17 14 [0,1],ex 18 0 17,ex 19 1 17,m 9 19] [0,1,2,7,9] <| .seq (z [no 21 7] [0,1,2,9,21] <| j 21 (z [.r (some 6) (.mv (.c (.bool false)))] [6] <| .ret) (.skip)) <| .seq (z [bk 23 .lss 9 0,m' 23 false 25 0,le' 23 false 26 25,bk' 23 false 27 .eql 26 0,u 28 23 27] [0,1,2,9,28] <| j 28 (z [bk 30 .geq 9 (-1),m 6 30] [6] <| .ret) (.skip)) <| z [bk 32 .and 2 1048575,le 34 0,bi 35 .rem 32 34,m 10 35] [0,1,9,10] <| z [.r (some 39) (.sl 2 (.t 0) none (some (.t 10)) none),c 41 14 [39,1],ex 42 0 41,ex 43 1 41,m 11 42,m 12 43] [0,9,10,11,12] <| z [bk 45 .geq 12 1,m' 45 true 47 12,m' 45 true 48 9,m' 45 true 49 0,le' 45 true 50 49,bi' 45 true 51 .add 48 50,m' 45 true 52 10,bi' 45 true 53 .sub 51 52,bi' 45 true 54 .leq 47 53,a 55 45 54,m' 55 true 57 11,.gr 55 true (some 58) (.bi .neq (.t 57) (.c (.string ⟨#[]⟩))),a 59 55 58,m 6 59] [6] <| .ret
theorem fit5:Fits Tryz.prog 5 3 (hOf Tryz.f5 ir5) ir5 [.t 6] 60:=.m Tryz.f5 _
def ir8:IR:=z [] [] <| z [c 6 19 [],.r (some 7) (.bd #[(i 0),(.bool false),(i 0)] [(0,1,(k 100))]),.e (some 8) (.call 11 [(.t 6),(.c (.string ⟨#[109]⟩)),(.c (.slice none 0 0)),(.t 7),(k 1000)]),ex 9 0 8,ex 10 1 8,.e (some 1) (.al 37 (.agg #[(i 0),(.slice none 0 0),(i 0),(i 0),(i 0),(i 0),(i 0),(.string ⟨#[]⟩)])),s 8 1 9,m 2 10] [1,2] <| z [.r (some 12) (.bd #[(.string ⟨#[]⟩),(i 0)] [(1,1,(k 5))]),.e (some 13) (.bs 42 1 #[(.string ⟨#[]⟩),(i 0)] [(0,2,(.t 12))]),.e (some 14) (.call 14 [(.t 13),(.c (.slice none 0 0))]),ex 15 0 14,ex 16 1 14,m 3 15,m 4 16] [1,2,3,4] <| z [bk 18 .eql 2 0,f' 18 true 20 0 1,l' 18 true 21 20,bk' 18 true 22 .eql 21 2,a 23 18 22,f' 23 true 25 1 1,l' 23 true 26 25,le' 23 true 27 26,bk' 23 true 28 .eql 27 1,a 29 23 28,f' 29 true 31 1 1,l' 29 true 32 31,.gr 29 true (some 33) (.ia 2 (.t 32) (k 0)),ln' 29 true 34 2 33,.gr 29 true (some 35) (.bd #[(.string ⟨#[]⟩),(i 0)] [(1,1,(k 7))]),.gr 29 true (some 36) (.eqa false [(0,.str),(1,.int)] (.t 34) (.t 35)),a 37 29 36,m' 37 true 39 3,.gr 37 true (some 40) (.bi .eql (.t 39) (.c (.string ⟨#[53]⟩))),a 41 37 40,m' 41 true 43 4,bk' 41 true 44 .eql 43 0,a 45 41 44,m 0 45] [0] <| .ret
theorem fit8:Fits Tryz.prog 8 0 (hOf Tryz.f8 ir8) ir8 [.t 0] 46:=.m Tryz.f8 _
def ir11:IR:=z [.e (some 5) (.bx 25 (.t 0)),.e (some 8) (.bx 28 (.t 3)),.e (some 10) (.al 37 (.agg #[(i 0),(.slice none 0 0),(i 0),(i 0),(i 0),(i 0),(i 0),(.string ⟨#[]⟩)]))] [1,2,4,5,8,10] <| z [ln 15 2 5,ln 18 3 8,c 20 23 [15,1,2,18,4],ex 21 0 20,ex 22 1 20,m 12 21,m 13 22] [4,10,12,13] <| .seq (z [bk 24 .neq 13 0] [4,10,12,13,24] <| j 24 (z [.r (some 25) (.bd #[(i 0),(.slice none 0 0),(i 0),(i 0),(i 0),(i 0),(i 0),(.string ⟨#[]⟩)] []),s 8 10 25,m 11 13] [10,11] <| .ret) (.skip)) <| z [c 29 24 [12,4]] [10,12] <| z [c 31 25 [12],s 8 10 31,mk 11 0] [10,11] <| .ret
theorem fit11:Fits Tryz.prog 11 5 (hOf Tryz.f11 ir11) ir11 [.n 10 8,.t 11] 32:=.m Tryz.f11 _
def ir14L1:IR:=z [bi 18 .lss 17 16] [0,6,15,16,17,18] <| .seq (j 18 (.skip) ((.exit 0))) <| .seq (.block 1 (z [ia 19 2 15 17,ln 20 2 19,.e (some 8) (.al 47 (.agg #[(.string ⟨#[]⟩),(i 0)])),s 2 8 20] [0,6,8,15,16,17] <| .seq (q' [m 22 6,n 23 22,f 24 2 23,l 25 24,f 26 0 8,l 27 26,.e (some 28) (.raw ⟨(some 28),(.lookup 80 (.tmp 25) (.tmp 27) true),87, "stream.go:221",#[⟨3,.data⟩,⟨5,.data⟩],none⟩),m 21 28,ex 29 0 21,ex 30 1 21,m 9 29,m 10 30] [0,6,8,10,15,16,17]) <| z [no 32 10] [0,6,8,15,16,17,32] <| j 32 (q' [m 33 6,n 34 33,f 35 2 34,l 36 35,f 37 0 8,l 38 37,f 39 1 8,l 40 39,.e none (.raw ⟨none,(.mapUpdate 80 (.tmp 36) (.tmp 38) (.tmp 40)),0, "stream.go:222",#[⟨3,.data⟩,⟨5,.data⟩,⟨7,.data⟩,⟨0,.phase⟩,⟨1,.phase⟩,⟨2,.phase⟩,⟨3,.phase⟩,⟨4,.phase⟩,⟨5,.phase⟩,⟨6,.phase⟩,⟨7,.phase⟩],none⟩)] [0,6,15,16,17]) (.skip))) <| q [bk 41 .add 17 1,m 17 41] [0,6,15,16,17]
def ir14:IR:=z [] [0,1] <| z [m 11 0,.e (some 12) (.raw ⟨(some 12),(.makeMap 80 none),80, "stream.go:219",#[],none⟩),.r (some 13) (.bd #[(.slice none 0 0),(i 0),(.map none),(i 0),(.slice none 0 0),(.pointer none),(.slice none 0 0)] [(0,1,(.t 11)),(2,1,(.t 12))]),.e (some 14) (.bx 86 (.t 13)),m 6 14] [0,1,6] <| .seq (z [m 15 1,le 16 15,mk 17 0] [0,6,15,16,17] <| .block 0 (.loop ir14L1)) <| .seq (z [c 43 30 [6],no 44 43] [0,6,44] <| j 44 (z [.r (some 4) (.mv (.c (.string ⟨#[]⟩))),mk 5 (-1)] [4,5] <| .ret) (.skip)) <| z [c 46 31 [6]] [0,6] <| .seq (z [n 48 6,f 49 1 48,l 50 49,le 52 0,bi 53 .lss 50 52] [6,53] <| j 53 (z [.r (some 4) (.mv (.c (.string ⟨#[]⟩))),mk 5 (-1)] [4,5] <| .ret) (.skip)) <| .seq (.dr (r 0 54 (.mv (.t 6)) <| r 1 55 (.nn (.t 54)) <| r 2 56 (.fa 5 (.t 55)) <| r 4 58 (.mv (.t 6)) <| r 5 59 (.nn (.t 58)) <| r 6 60 (.fa 3 (.t 59)) <| r 7 61 (.l1 (.t 60)) <| .e 3 none (some 57) (.call 32 [(.t 56)]) [7] <| r 8 4 (.mv (.t 57)) <| r 9 5 (.mv (.t 61)) <| .nil) [4,5]) <| .ret
theorem fit14:Fits Tryz.prog 14 2 (hOf Tryz.f14 ir14) ir14 [.t 4,.t 5] 62:=.m Tryz.f14 _
def ir19:IR:=z [.e (some 0) (.al 25 (.agg #[(.slice none 0 0),(.slice none 0 0)]))] [0] <| z [.r (some 2) (.bd #[(.string ⟨#[]⟩),(i 0)] [(0,1,(.c (.string ⟨#[70,97,108,115,101]⟩)))]),.r (some 3) (.bd #[(.string ⟨#[]⟩),(i 0)] [(0,1,(.c (.string ⟨#[84,114,117,101]⟩)))]),.r (some 4) (.bd #[(.string ⟨#[]⟩),(i 0)] [(0,1,(.c (.string ⟨#[85,110,105,116]⟩)))]),.r (some 5) (.bd #[(.string ⟨#[]⟩),(i 0)] [(0,1,(.c (.string ⟨#[78,105,108]⟩)))]),.r (some 6) (.bd #[(.string ⟨#[]⟩),(i 0)] [(0,1,(.c (.string ⟨#[67,111,110,115]⟩))),(1,1,(k 2))]),.r (some 7) (.bd #[(.string ⟨#[]⟩),(i 0)] [(0,1,(.c (.string ⟨#[80,97,105,114]⟩))),(1,1,(k 2))]),.r (some 8) (.bd #[(.string ⟨#[]⟩),(i 0)] [(0,1,(.c (.string ⟨#[84,114,105,112,108,101]⟩))),(1,1,(k 3))]),.e (some 9) (.bs 47 7 #[(.string ⟨#[]⟩),(i 0),(.string ⟨#[]⟩),(i 0),(.string ⟨#[]⟩),(i 0),(.string ⟨#[]⟩),(i 0),(.string ⟨#[]⟩),(i 0),(.string ⟨#[]⟩),(i 0),(.string ⟨#[]⟩),(i 0)] [(0,2,(.t 2)),(2,2,(.t 3)),(4,2,(.t 4)),(6,2,(.t 5)),(8,2,(.t 6)),(10,2,(.t 7)),(12,2,(.t 8))]),.r (some 10) (.bd #[(.slice none 0 0),(.slice none 0 0)] [(0,1,(.t 9))]),.e (some 1) (.al 25 (.agg #[(.slice none 0 0),(.slice none 0 0)])),s 2 1 10] [0,1] <| z [.r (some 11) (.bd #[(i 0),(i 0),(i 0)] [(0,1,(k 3)),(1,1,(k 7))]),.r (some 12) (.bd #[(i 0),(i 0),(i 0)] [(0,1,(k 7)),(1,1,(k 1))]),.r (some 13) (.bd #[(i 0),(i 0),(i 0)] [(0,1,(k 17))]),.e (some 14) (.bs 61 3 #[(i 0),(i 0),(i 0),(i 0),(i 0),(i 0),(i 0),(i 0),(i 0)] [(0,3,(.t 11)),(3,3,(.t 12)),(6,3,(.t 13))]),.r (some 15) (.bd #[(.string ⟨#[]⟩),(i 0),(.slice none 0 0)] [(0,1,(.c (.string ⟨#[109]⟩))),(2,1,(.t 14))]),.e (some 16) (.bs 59 1 #[(.string ⟨#[]⟩),(i 0),(.slice none 0 0)] [(0,3,(.t 15))]),f 17 1 1,s 1 17 16] [0,1] <| z [ln 18 2 1,s 2 0 18] [0] <| .ret
theorem fit19:Fits Tryz.prog 19 0 (hOf Tryz.f19 ir19) ir19 [.n 0 2] 19:=.m Tryz.f19 _
def ir23:IR:=z [.e (some 5) (.bx 25 (.t 0)),.e (some 8) (.bx 28 (.t 3))] [1,2,4,5,8] <| .seq (z [le 15 2,bk 16 .gtr 15 10000] [1,2,4,5,8,16] <| j 16 (z [.r (some 10) (.mv (.c (.pointer none))),mk 11 2] [10,11] <| .ret) (.skip)) <| .seq (z [bk 18 .lss 4 0,m' 18 false 20 4,bk' 18 false 21 .gtr 20 16777216,u 22 18 21] [1,2,5,8,22] <| j 22 (z [.r (some 10) (.mv (.c (.pointer none))),mk 11 1] [10,11] <| .ret) (.skip)) <| z [ln 24 2 5,ln 27 3 8,c 28 44 [24,1,2,27],ex 29 0 28,ex 30 1 28,m 12 29,m 13 30] [12,13] <| .seq (z [bk 32 .eql 13 220] [12,13,32] <| j 32 (q [mk 13 230] [12,13]) (.skip)) <| z [m 10 12,m 11 13] [10,11] <| .ret
theorem fit23:Fits Tryz.prog 23 5 (hOf Tryz.f23 ir23) ir23 [.t 10,.t 11] 35:=.m Tryz.f23 _
def ir30L1:IR:=z [bi 13 .lss 12 11] [0,10,11,12,13] <| .seq (j 13 (.skip) ((.exit 0))) <| .seq (.block 1 (z [ia 14 2 10 12,ln 15 2 14,.e (some 4) (.al 42 (.agg #[(.string ⟨#[]⟩),(i 0)])),s 2 4 15] [0,4,10,11,12] <| .seq (z [f 16 0 4,l 17 16,.r (some 18) (.bi .eql (.t 17) (.c (.string ⟨#[]⟩)))] [0,4,10,11,12,18] <| j 18 (.seq (z [f 19 1 4,l 20 19,bk 21 .lss 20 (-4611686018427387904),f' 21 false 23 1 4,l' 21 false 24 23,bk' 21 false 25 .gtr 24 4611686018427387903,u 26 21 25] [0,10,11,12,26] <| j 26 (z [.r (some 2) (.mv (.c (.bool false)))] [2] <| .ret) (.skip)) <| (.exit 1)) (.skip)) <| .seq (q' [m 28 0,n 29 28,f 30 2 29,l 31 30,f 32 0 4,l 33 32,.e (some 34) (.raw ⟨(some 34),(.lookup 80 (.tmp 31) (.tmp 33) true),87, "stream.go:209",#[⟨3,.data⟩,⟨5,.data⟩],none⟩),m 27 34,ex 35 0 27,ex 36 1 27,m 5 35,m 6 36] [0,4,5,6,10,11,12]) <| z [f 37 1 4,l 38 37,bk 39 .neq 38 0,m' 39 false 41 6,no' 39 false 42 41,u 43 39 42,m' 43 false 45 5,bk' 43 false 46 .lss 45 0,u 47 43 46,m' 47 false 49 5,bk' 47 false 50 .gtr 49 8,u 51 47 50] [0,10,11,12,51] <| j 51 (z [.r (some 2) (.mv (.c (.bool false)))] [2] <| .ret) (.skip))) <| q [bk 52 .add 12 1,m 12 52] [0,10,11,12]
def ir30:IR:=z [] [0] <| .seq (z [n 8 0,f 9 0 8,l 10 9,le 11 10,mk 12 0] [0,10,11,12] <| .block 0 (.loop ir30L1)) <| z [.r (some 2) (.mv (.c (.bool true)))] [2] <| .ret
theorem fit30:Fits Tryz.prog 30 1 (hOf Tryz.f30 ir30) ir30 [.t 2] 53:=.m Tryz.f30 _
def ir31L1:IR:=.seq (z [n 9 0,f 10 4 9,l 11 10,le 12 11,bk 13 .gtr 12 0] [0,13] <| j 13 (.skip) ((.exit 0))) <| .block 1 (z [n 15 0,f 16 4 15,l 17 16,le 18 17,bk 19 .sub 18 1,m 2 19] [0,2] <| z [n 21 0,f 22 4 21,l 23 22,ia 25 2 23 2,ln 26 2 25,.e (some 3) (.al 122 (.agg #[(i 0),(.string ⟨#[]⟩)])),s 2 3 26] [0,2,3] <| z [n 29 0,f 30 4 29,l 31 30,.r (some 33) (.sl 2 (.t 31) none (some (.t 2)) none),n 34 0,f 35 4 34,s 1 35 33] [0,3] <| z [f 36 0 3,l 37 36] [0,3,37] <| .block 2 (z [bk 44 .eql 37 0,m 43 44] [0,3,37,43] <| j 43 (q' [m 45 0,n 46 45,f 47 5 46,f 48 1 3,l 49 48,c 50 51 [47,49]] [0]) (z [bk 52 .eql 37 3,m 51 52] [0,3,51] <| j 51 (q [c 54 52 [0]] [0]) (q [f 39 0 3,l 40 39,bk 41 .eql 40 2,c 42 53 [0,41]] [0]))))
def ir31:IR:=z [.r (some 5) (.bd #[(i 0),(.string ⟨#[]⟩)] [(0,1,(k 1))]),.e (some 6) (.bs 122 1 #[(i 0),(.string ⟨#[]⟩)] [(0,2,(.t 5))]),c 7 50 [0,6]] [0] <| .block 0 (.loop ir31L1)
theorem fit31:Fits Tryz.prog 31 1 (hOf Tryz.f31 ir31) ir31 [] 55:=.m Tryz.f31 _
def ir51:IR:=z [] [0,1] <| z [c 7 86 [0]] [0,1] <| z [m 8 0,m 9 0,n 10 9,f 11 1 10,l 12 11,m 13 1,.e (some 14) (.raw ⟨(some 14),(.call { callee:=(.builtin .append),args:=#[(.tmp 12),(.tmp 13)],argTypes:=#[74,9]}),74, "builder.go:114",#[⟨4,.data⟩,⟨5,.data⟩],none⟩),n 15 8,f 16 1 15,s 1 16 14] [1] <| z [.r (some 18) (.lns (.t 1)),m 4 18,.r (some 5) (.mv (.c .nilIface))] [4,5] <| .ret
theorem fit51:Fits Tryz.prog 51 2 (hOf Tryz.f51 ir51) ir51 [.t 4,.t 5] 19:=.m Tryz.f51 _
def ir52:IR:=.block 0 (z [.e (some 13) (.call 87 [(.t 0),(.c (.string ⟨#[67,111,110,115]⟩)),(k 2)]),m 11 13] [0,11] <| j 11 (z [n 15 0,f 16 1 15,l 17 16,bk 18 .add 17 1,n 19 0,f 20 1 19,s 1 20 18] [0] <| z [n 22 0,f 23 5 22,.e (some 24) (.call 51 [(.t 23),(.c (.string ⟨#[44,32]⟩))])] [0] <| q [.r (some 26) (.bd #[(i 0),(.string ⟨#[]⟩)] [(0,1,(k 1))]),.r (some 27) (.bd #[(i 0),(.string ⟨#[]⟩)] [(0,1,(k 3))]),.e (some 28) (.bs 122 2 #[(i 0),(.string ⟨#[]⟩),(i 0),(.string ⟨#[]⟩)] [(0,2,(.t 26)),(2,2,(.t 27))]),c 29 50 [0,28]] []) (z [.e (some 32) (.call 87 [(.t 0),(.c (.string ⟨#[78,105,108]⟩)),(k 0)]),m 30 32] [0,30] <| j 30 (z [n 34 0,f 35 1 34,l 36 35,bk 37 .add 36 1,n 38 0,f 39 1 38,s 1 39 37] [0] <| q [n 41 0,f 42 5 41,.e (some 43) (.call 51 [(.t 42),(.c (.string ⟨#[93]⟩))])] []) (z [n 3 0,f 4 5 3,.e (some 5) (.call 51 [(.t 4),(.c (.string ⟨#[32,124,32]⟩))])] [0] <| q [.r (some 7) (.bd #[(i 0),(.string ⟨#[]⟩)] [(0,1,(k 1))]),.r (some 8) (.bd #[(i 0),(.string ⟨#[]⟩)] [(0,1,(k 0)),(1,1,(.c (.string ⟨#[93]⟩)))]),.e (some 9) (.bs 122 2 #[(i 0),(.string ⟨#[]⟩),(i 0),(.string ⟨#[]⟩)] [(0,2,(.t 7)),(2,2,(.t 8))]),c 10 50 [0,9]] [])))
theorem fit52:Fits Tryz.prog 52 1 (hOf Tryz.f52 ir52) ir52 [] 44:=.m Tryz.f52 _
def ir53:IR:=.seq (.seq (q' [m 6 0,n 7 6,f 8 1 7,l 9 8,m 10 0,n 11 10,f 12 0 11,l 13 12,le 14 13,bi 15 .eql 9 14] [0,1,15]) <| j 15 (z [n 17 0,f 18 3 17,l 19 18,bk 20 .add 19 1,n 21 0,f 22 3 21,s 1 22 20] [0] <| z [n 24 0,f 25 5 24,.e (some 26) (.call 51 [(.t 25),(.c (.string ⟨#[95]⟩))])] [] <| .ret) (.skip)) <| .seq (.dr (r 0 27 (.mv (.t 0)) <| r 1 28 (.nn (.t 27)) <| r 2 29 (.fa 0 (.t 28)) <| r 3 30 (.l1 (.t 29)) <| r 4 31 (.mv (.t 0)) <| r 5 32 (.nn (.t 31)) <| r 6 33 (.fa 1 (.t 32)) <| r 7 34 (.l1 (.t 33)) <| r 8 35 (.ia 2 (.t 30) (.t 34)) <| r 9 36 (.ln 2 (.t 35)) <| .e 10 none (some 4) (.al 42 (.agg #[(.string ⟨#[]⟩),(i 0)])) [3,7,9] <| .e 11 none none (.st 2 (.t 4) (.t 36)) [] <| .nil) [0,1,4]) <| .seq (.block 0 (z [f 43 0 4,l 44 43,.r (some 45) (.bi .eql (.t 44) (.c (.string ⟨#[]⟩))),m 42 45] [0,1,4,42] <| j 42 (z [f 46 1 4,l 47 46,c 48 48 [47],m 5 48] [0,1,4,5] <| .seq (z [f' 1 true 51 1 4,l' 1 true 52 51,bk' 1 true 53 .lss 52 0,a 54 1 53] [0,5,54] <| j 54 (q [.r (some 56) (.bi .add (.c (.string ⟨#[40]⟩)) (.t 5)),.r (some 57) (.bi .add (.t 56) (.c (.string ⟨#[41]⟩))),m 5 57] [0,5]) (.skip)) <| q [n 59 0,f 60 5 59,c 62 51 [60,5]] [0]) (z [.e (some 65) (.call 87 [(.t 0),(.c (.string ⟨#[78,105,108]⟩)),(k 0)]),m 63 65] [0,1,4,63] <| j 63 (q [n 67 0,f 68 5 67,.e (some 69) (.call 51 [(.t 68),(.c (.string ⟨#[91,93]⟩))])] [0]) (z [.e (some 72) (.call 87 [(.t 0),(.c (.string ⟨#[67,111,110,115]⟩)),(k 2)]),m 70 72] [0,1,4,70] <| j 70 (z [n 74 0,f 75 5 74,.e (some 76) (.call 51 [(.t 75),(.c (.string ⟨#[91]⟩))])] [0] <| q [.r (some 78) (.bd #[(i 0),(.string ⟨#[]⟩)] [(0,1,(k 1))]),.r (some 79) (.bd #[(i 0),(.string ⟨#[]⟩)] [(0,1,(k 3))]),.e (some 80) (.bs 122 2 #[(i 0),(.string ⟨#[]⟩),(i 0),(.string ⟨#[]⟩)] [(0,2,(.t 78)),(2,2,(.t 79))]),c 81 50 [0,80]] [0]) (z [.e (some 84) (.call 87 [(.t 0),(.c (.string ⟨#[85,110,105,116]⟩)),(k 0)]),m 82 84] [0,1,4,82] <| j 82 (q [n 86 0,f 87 5 86,.e (some 88) (.call 51 [(.t 87),(.c (.string ⟨#[40,41]⟩))])] [0]) (.seq (z [.e (some 91) (.call 87 [(.t 0),(.c (.string ⟨#[80,97,105,114]⟩)),(k 2)]),m 89 91] [0,1,4,89] <| j 89 (.skip) (q [.e (some 93) (.call 87 [(.t 0),(.c (.string ⟨#[84,114,105,112,108,101]⟩)),(k 3)]),m 89 93] [0,1,4,89])) <| j 89 (q' [m 94 0,m 95 0,n 96 95,f 97 2 96,l 98 97,f 99 0 4,l 100 99,.e (some 101) (.raw ⟨(some 101),(.lookup 80 (.tmp 98) (.tmp 100) false),3, "stream.go:152",#[⟨4,.data⟩,⟨6,.data⟩],none⟩),c 102 88 [94,101]] [0]) (q [f 38 0 4,l 39 38,c 41 89 [0,39,1]] [0]))))))) <| q [n 104 0,f 105 1 104,l 106 105,bk 107 .add 106 1,n 108 0,f 109 1 108,s 1 109 107] []
theorem fit53:Fits Tryz.prog 53 2 (hOf Tryz.f53 ir53) ir53 [] 110:=.m Tryz.f53 _
def ir62:IR:=z [] [0] <| .seq (z [.r (some 4) (.eq .slice false (.t 0) (.c (.slice none 0 0)))] [0,4] <| j 4 (z [.r (some 2) (.mv (.c (.slice none 0 0)))] [2] <| .ret) (.skip)) <| z [.e (some 5) (.raw ⟨(some 5),(.buildSlice 22 0 #[]),22, "slices.go:362",#[],none⟩),m 6 0,.e (some 7) (.ap 47 2 24 #[(.string ⟨#[]⟩),(i 0)] (.t 5) (.t 6)),m 2 7] [2] <| .ret
theorem fit62:Fits Tryz.prog 62 1 (hOf Tryz.f62 ir62) ir62 [.t 2] 8:=.m Tryz.f62 _
def ir64:IR:=z [] [0] <| .seq (z [.r (some 4) (.eq .slice false (.t 0) (.c (.slice none 0 0)))] [0,4] <| j 4 (z [.r (some 2) (.mv (.c (.slice none 0 0)))] [2] <| .ret) (.skip)) <| z [.e (some 5) (.raw ⟨(some 5),(.buildSlice 57 0 #[]),57, "slices.go:362",#[],none⟩),m 6 0,.e (some 7) (.ap 61 3 24 #[(i 0),(i 0),(i 0)] (.t 5) (.t 6)),m 2 7] [2] <| .ret
theorem fit64:Fits Tryz.prog 64 1 (hOf Tryz.f64 ir64) ir64 [.t 2] 8:=.m Tryz.f64 _
def ir85:IR:=z [.e (some 1) (.bx 81 (.t 0))] [1] <| z [.r (some 3) (.mf (.func 142) [] [(.t 1)]),m 2 3] [2] <| .ret
theorem fit85:Fits Tryz.prog 85 1 (hOf Tryz.f85 ir85) ir85 [.t 2] 4:=.m Tryz.f85 _
def ir87:IR:=z [] [0,1,2] <| .seq (q' [m 7 0,n 8 7,f 9 1 8,l 10 9,m 11 0,n 12 11,f 13 0 12,l 14 13,le 15 14,bi 16 .lss 10 15,m 17 16,m' 17 true 18 0,n' 17 true 19 18,f' 17 true 20 0 19,l' 17 true 21 20,m' 17 true 22 0,n' 17 true 23 22,f' 17 true 24 1 23,l' 17 true 25 24,ia' 17 true 26 2 21 25,f' 17 true 27 0 26,l' 17 true 28 27,m' 17 true 29 1,bi' 17 true 30 .eql 28 29,a 31 17 30,m 32 31,m' 32 true 33 0,n' 32 true 34 33,f' 32 true 35 2 34,l' 32 true 36 35,m' 32 true 37 1,m' 32 true 39 2,.ge 32 true (some 38) (.raw ⟨(some 38),(.lookup 80 (.tmp 36) (.tmp 37) false),3, "stream.go:101",#[⟨29,.data⟩,⟨30,.data⟩,⟨25,.guard⟩],some (25,true)⟩),bi' 32 true 40 .eql 38 39,a 41 32 40,m 6 41] [6]) <| .ret
theorem fit87:Fits Tryz.prog 87 3 (hOf Tryz.f87 ir87) ir87 [.t 6] 42:=.m Tryz.f87 _
def ir88L1:IR:=z [bi 14 .lss 13 12] [0,4,12,13,14] <| .seq (j 14 (.skip) ((.exit 0))) <| .seq (.block 1 (q [.r (some 16) (.bd #[(i 0),(.string ⟨#[]⟩)] [(0,1,(k 0)),(1,1,(.c (.string ⟨#[44,32]⟩)))]),.r (some 17) (.bd #[(i 0),(.string ⟨#[]⟩)] [(0,1,(k 1))]),.e (some 18) (.bs 122 2 #[(i 0),(.string ⟨#[]⟩),(i 0),(.string ⟨#[]⟩)] [(0,2,(.t 16)),(2,2,(.t 17))]),.e (some 19) (.ap 122 2 24 #[(i 0),(.string ⟨#[]⟩)] (.t 4) (.t 18)),m 4 19] [0,4,12,13])) <| q [bk 20 .add 13 1,m 13 20] [0,4,12,13]
def ir88:IR:=z [n 6 0,f 7 5 6,.e (some 8) (.call 51 [(.t 7),(.c (.string ⟨#[40]⟩))])] [0,1] <| z [.r (some 9) (.bd #[(i 0),(.string ⟨#[]⟩)] [(0,1,(k 1))]),.e (some 10) (.bs 122 1 #[(i 0),(.string ⟨#[]⟩)] [(0,2,(.t 9))]),m 4 10] [0,1,4] <| .seq (z [bk 12 .sub 1 1,mk 13 0] [0,4,12,13] <| .block 0 (.loop ir88L1)) <| q [.r (some 23) (.bd #[(i 0),(.string ⟨#[]⟩)] [(0,1,(k 0)),(1,1,(.c (.string ⟨#[41]⟩)))]),.e (some 24) (.bs 122 1 #[(i 0),(.string ⟨#[]⟩)] [(0,2,(.t 23))]),.e (some 25) (.ap 122 2 24 #[(i 0),(.string ⟨#[]⟩)] (.t 4) (.t 24)),c 26 50 [0,25]] []
theorem fit88:Fits Tryz.prog 88 2 (hOf Tryz.f88 ir88) ir88 [] 27:=.m Tryz.f88 _
def ir89L1:IR:=z [bi 16 .lss 15 14] [0,1,2,6,7,14,15,16] <| .seq (j 16 (.skip) ((.exit 0))) <| .seq (.block 1 (q [.r (some 18) (.bd #[(i 0),(.string ⟨#[]⟩)] [(0,1,(k 0)),(1,1,(.c (.string ⟨#[32]⟩)))]),.r (some 19) (.bd #[(i 0),(.string ⟨#[]⟩)] [(0,1,(k 2))]),.e (some 20) (.bs 122 2 #[(i 0),(.string ⟨#[]⟩),(i 0),(.string ⟨#[]⟩)] [(0,2,(.t 18)),(2,2,(.t 19))]),.e (some 21) (.ap 122 2 24 #[(i 0),(.string ⟨#[]⟩)] (.t 7) (.t 20)),m 7 21] [0,1,2,6,7,14,15])) <| q [bk 22 .add 15 1,m 15 22] [0,1,2,6,7,14,15]
def ir89:IR:=z [m 8 0,n 9 8,f 10 2 9,l 11 10,m 12 1,.e (some 13) (.raw ⟨(some 13),(.lookup 80 (.tmp 11) (.tmp 12) false),3, "stream.go:187",#[⟨3,.data⟩,⟨4,.data⟩],none⟩),m 6 13] [0,1,2,6] <| z [.r (some 7) (.mv (.c (.slice none 0 0)))] [0,1,2,6,7] <| .seq (z [m 14 6,mk 15 0] [0,1,2,6,7,14,15] <| .block 0 (.loop ir89L1)) <| .seq (z [m' 2 true 25 6,bk' 2 true 26 .gtr 25 0,a 27 2 26] [0,1,7,27] <| j 27 (z [.r (some 29) (.bi .add (.c (.string ⟨#[40]⟩)) (.t 1)),m 1 29] [0,1,7] <| q [.r (some 31) (.bd #[(i 0),(.string ⟨#[]⟩)] [(0,1,(k 0)),(1,1,(.c (.string ⟨#[41]⟩)))]),.e (some 32) (.bs 122 1 #[(i 0),(.string ⟨#[]⟩)] [(0,2,(.t 31))]),.e (some 33) (.ap 122 2 24 #[(i 0),(.string ⟨#[]⟩)] (.t 7) (.t 32)),m 7 33] [0,1,7]) (.skip)) <| z [n 35 0,f 36 5 35,c 38 51 [36,1]] [0,7] <| q [c 41 50 [0,7]] []
theorem fit89:Fits Tryz.prog 89 3 (hOf Tryz.f89 ir89) ir89 [] 42:=.m Tryz.f89 _
end
section
open Go Go.W
theorem szItem:szOf Tryz.prog 42=some 2:=by kernel_rfl
theorem cloneItem {w:World} {a:Option Addr} {n c:Nat} {xs:List Value} (hr:RdCells w a (n*2) xs) (h1:∀ u∈xs,u.oneCell'=true) (hn:a=none→n=0) (hb:n≤4294967296) :
   CallsR Tryz.prog 66 [.slice a n c] w fun r w'=>∃ fp,OwnS w' 42 2 r xs n fp∧(∀ b,fp=some b→w.heap.size≤b)∧Mod (fun _=>False) w w':=by
 refine fit66.calls rfl ?_;unfold ir66;cases a with
 | none=>
   obtain rfl:=hn rfl;have e:xs=[]:=List.eq_nil_of_length_eq_zero (by have:=hr.1;simpa using this);subst e;(try simp only [go_sem,simprocAttr,Option.isNone_none]);exact ⟨none,OwnS.nil _ _ _,(fun b hb=>by cases hb),Mod.refl _ _⟩
 | some ad=>
   (try simp only [go_sem,simprocAttr,Option.isNone_some]);refine e_b0 (t:=32) (el:=42) (n:=2) Tryz.underlying32 szItem ?_;intro w1 hb1 hm1 hs1;have ho1:OwnS w1 42 2 (.slice (some ⟨w.heap.size,0,none⟩) 0 0) [] 0 (some w.heap.size):=OwnS.of_block (xs:=[]) hb1 (by simp);have hr1:RdCells w1 (some ad) (n*2) xs:=⟨hr.1,fun ad' h j v hv=>hm1.cell (hr.2 ad' h j v hv) (fun h=>h)⟩;(try simp only [go_sem,simprocAttr]);refine e_ap (m:=n) (news:=xs) rfl ho1 rfl (fun h=>by cases h) hr1 h1 rfl (by omega) (by omega) ?_;intro v2 w2 fp2 ho2 hm2 hf2;obtain ⟨va,vc,rfl,_,_⟩:=ho2.val;(try simp only [go_sem,simprocAttr]);refine ⟨fp2,by simpa using ho2,fun b hb=>?_,hm1.step hm2 (fun x hx hlt=>by cases hx;omega)⟩;rcases hf2 b hb with h | h
   · cases h;omega
   · omega
theorem szShape:szOf Tryz.prog 47=some 2:=by kernel_rfl
theorem cloneShape {w:World} {a:Option Addr} {n c:Nat} {xs:List Value} (hr:RdCells w a (n*2) xs) (h1:∀ u∈xs,u.oneCell'=true) (hn:a=none→n=0) (hb:n≤4294967296) :
   CallsR Tryz.prog 62 [.slice a n c] w fun r w'=>∃ fp,OwnS w' 47 2 r xs n fp∧(∀ b,fp=some b→w.heap.size≤b)∧Mod (fun _=>False) w w':=by
 refine fit62.calls rfl ?_;unfold ir62;cases a with
 | none=>
   obtain rfl:=hn rfl;have e:xs=[]:=List.eq_nil_of_length_eq_zero (by have:=hr.1;simpa using this);subst e;(try simp only [go_sem,simprocAttr,Option.isNone_none]);exact ⟨none,OwnS.nil _ _ _,(fun b hb=>by cases hb),Mod.refl _ _⟩
 | some ad=>
   (try simp only [go_sem,simprocAttr,Option.isNone_some]);refine e_b0 (t:=22) (el:=47) (n:=2) Tryz.underlying22 szShape ?_;intro w1 hb1 hm1 hs1;have ho1:OwnS w1 47 2 (.slice (some ⟨w.heap.size,0,none⟩) 0 0) [] 0 (some w.heap.size):=OwnS.of_block (xs:=[]) hb1 (by simp);have hr1:RdCells w1 (some ad) (n*2) xs:=⟨hr.1,fun ad' h j v hv=>hm1.cell (hr.2 ad' h j v hv) (fun h=>h)⟩;(try simp only [go_sem,simprocAttr]);refine e_ap (m:=n) (news:=xs) rfl ho1 rfl (fun h=>by cases h) hr1 h1 rfl (by omega) (by omega) ?_;intro v2 w2 fp2 ho2 hm2 hf2;obtain ⟨va,vc,rfl,_,_⟩:=ho2.val;(try simp only [go_sem,simprocAttr]);refine ⟨fp2,by simpa using ho2,fun b hb=>?_,hm1.step hm2 (fun x hx hlt=>by cases hx;omega)⟩;rcases hf2 b hb with h | h
   · cases h;omega
   · omega
theorem szInstr:szOf Tryz.prog 61=some 3:=by kernel_rfl
theorem cloneInstr {w:World} {a:Option Addr} {n c:Nat} {xs:List Value} (hr:RdCells w a (n*3) xs) (h1:∀ u∈xs,u.oneCell'=true) (hn:a=none→n=0) (hb:n≤4294967296) :
   CallsR Tryz.prog 64 [.slice a n c] w fun r w'=>∃ fp,OwnS w' 61 3 r xs n fp∧(∀ b,fp=some b→w.heap.size≤b)∧Mod (fun _=>False) w w':=by
 refine fit64.calls rfl ?_;unfold ir64;cases a with
 | none=>
   obtain rfl:=hn rfl;have e:xs=[]:=List.eq_nil_of_length_eq_zero (by have:=hr.1;simpa using this);subst e;(try simp only [go_sem,simprocAttr,Option.isNone_none]);exact ⟨none,OwnS.nil _ _ _,(fun b hb=>by cases hb),Mod.refl _ _⟩
 | some ad=>
   (try simp only [go_sem,simprocAttr,Option.isNone_some]);refine e_b0 (t:=57) (el:=61) (n:=3) Tryz.underlying57 szInstr ?_;intro w1 hb1 hm1 hs1;have ho1:OwnS w1 61 3 (.slice (some ⟨w.heap.size,0,none⟩) 0 0) [] 0 (some w.heap.size):=OwnS.of_block (xs:=[]) hb1 (by simp);have hr1:RdCells w1 (some ad) (n*3) xs:=⟨hr.1,fun ad' h j v hv=>hm1.cell (hr.2 ad' h j v hv) (fun h=>h)⟩;(try simp only [go_sem,simprocAttr]);refine e_ap (m:=n) (news:=xs) rfl ho1 rfl (fun h=>by cases h) hr1 h1 rfl (by omega) (by omega) ?_;intro v2 w2 fp2 ho2 hm2 hf2;obtain ⟨va,vc,rfl,_,_⟩:=ho2.val;(try simp only [go_sem,simprocAttr]);refine ⟨fp2,by simpa using ho2,fun b hb=>?_,hm1.step hm2 (fun x hx hlt=>by cases hx;omega)⟩;rcases hf2 b hb with h | h
   · cases h;omega
   · omega
theorem clip_ok {w:World} {v:Value} {xs:List Value} {n:Nat} {fp:Option Nat} (h:OwnS w 42 2 v xs n fp):CallsR Tryz.prog 65 [v] w fun r w'=>OwnS w' 42 2 r xs n fp∧w=w':=by
 obtain ⟨a,c,rfl,hc,_⟩:=h.val;refine fit65.calls rfl ?_;unfold ir65;have b1:(0:Int)≤n∧(n:Int)≤c:=by omega
 have b2:(0:Int)≤n∧(n:Int)≤n:=by omega
 (try simp only [go_sem,simprocAttr,zb4,zb6,b1,b2,sl_same]);obtain ⟨h1,h2⟩:=h;refine ⟨h1,?_⟩;rcases h2 with ⟨e,h3,h4⟩ | ⟨b,c',sp,e,h3,h4,h5,h6⟩
 · cases e;exact .inl ⟨rfl,h3,h4⟩
 · cases e;exact .inr ⟨b,n,sp,rfl,h3,h4,by rw [List.length_append,h1];omega,Nat.le_refl _⟩
theorem items_one (l:List It):∀ u∈l.flatMap itRow,u.oneCell'=true:=by
 intro u hu;obtain ⟨x,_,hx⟩:=List.mem_flatMap.1 hu;simp only [itRow,List.mem_cons,List.not_mem_nil,or_false] at hx;rcases hx with rfl | rfl<;>rfl
section
variable {w:World} {τ:Tag} {m:Nat} {S:SV} {M:Mc} {ks:List Nat}
def ToldAt (w w':World) (v:Value) (l:List It):Prop:=∃ fp,OwnS w' 42 2 v (l.flatMap itRow) l.length fp∧∀ b,fp=some b→w.heap.size≤b
theorem m_told (h:MAt w τ m S M ks) (hl:M.told.length≤4294967296):CallsR Tryz.prog 41 [ptr m] w fun r w'=>ToldAt w w' r M.told∧Mod (fun _=>False) w w':=by
 obtain ⟨vG,vF,vW,vT,fg,ff,fw,ft,F,hh⟩:=id h;have hc:=hh.cells;have ht:=hh.tl;obtain ⟨a,c,rfl,_,hn⟩:=ht.val;refine fit41.calls rfl ?_;unfold ir41;(try simp only [go_sem,simprocAttr,cell_of hc,mcCells,ptr]);refine e_call (by rfl) ?_;refine (cloneItem ht.rd (items_one _) (fun e=>(hn e).1) hl).mono ?_;rintro v w1 ⟨fp,ho,hf,hm⟩;(try simp only [go_sem,simprocAttr]);refine e_call (by rfl) ?_;refine (clip_ok ho).mono ?_;rintro r _ ⟨ho2,rfl⟩;(try simp only [go_sem,simprocAttr]);exact ⟨⟨fp,ho2,hf⟩,hm⟩
def outKind (M:Mc):Int:=if M.ended=0 then 4 else M.ended
def outV (k:Int) (v:Value) (st n:Int):Value:=.agg #[I k,v,I st,I n,I 0,I 0,I 0,.string ⟨#[]⟩]
theorem m_outcome (h:MAt w τ m S M ks) (hl:M.told.length≤4294967296):CallsR Tryz.prog 25 [ptr m] w fun r w'=>∃ v,r=outV (outKind M) v M.stuck M.steps∧ToldAt w w' v M.told∧Mod (fun _=>False) w w':=by
 refine fit25.calls rfl ?_;unfold ir25;(try simp only [go_sem,simprocAttr]);refine e_al ?_;intro w1 hb1 hm1 _;have h1:=h.mod hm1 (newTag_ext τ w .no).wx (fun _ _ h=>h.elim);have h1d:=h1.mod (Mod.refl (fun _=>False) w1).drew (ext_refl _ _).wx (fun _ _ h=>h.elim);obtain ⟨vG,vF,vW,vT,fg,ff,fw,ft,F,hh⟩:=id h1;have hc:=hh.cells;have lm:=hh.lt;(try simp only [go_sem,simprocAttr,cell_of hc,mcCells,ptr]);refine wpD_cut (fun ρ w'=>∃ b v,ρ.get 0=some (ptr m)∧ρ.get 2=some (ptr w.heap.size)∧ρ.get 3=some (ptr b)∧w'.heap[b]? = some (.cells #[I M.ended,v,I M.stuck,I M.steps,I 0,I 0,I 0,.string ⟨#[]⟩] 37 (0,0))∧w1.heap.size≤b∧ToldAt w1 w' v M.told∧Mod (fun _=>False) w1 w') ?_ ?_
 · rw [wpD_e2];refine ⟨?_,?_⟩
   · refine e_call (by rfl) ?_;refine (m_told h1d hl).mono ?_;rintro v w2 ⟨⟨fp,ho,hf⟩,hm2⟩;have hm2':Mod (fun _=>False) w1 w2:=Mod.of_drew hm2;have k2:=hm2.old m lm (fun h=>h);obtain ⟨va,vc,rfl,_⟩:=ho.val;(try simp only [go_sem,simprocAttr]);refine ⟨by simp only [drew_heap,k2,and_self,implies_true],?_⟩;refine e_al ?_;intro w3 hb3 hm3 _;have k3:=hm3.old m (by have:=hm2.size;exact Nat.lt_of_lt_of_le lm this) (fun h=>h);(try simp only [go_sem,simprocAttr]);refine ⟨by simp only [drew_heap,k3,and_self,implies_true],?_⟩;refine e_sta (cs:=[I 0,.slice none 0 0,I 0,I 0,I 0,I 0,I 0,.string ⟨#[]⟩]) rfl rfl hb3 rfl rfl (by simp [Value.oneCell']) ?_;intro w4 hb4 hm4 _;(try simp only [go_sem,simprocAttr]);have hm24:Mod (fun _=>False) w2 w4:=hm3.step hm4 (fun x hx hl=>by subst hx;omega);exact ⟨w2.heap.size,_,rfl,hb4,hm2'.size,⟨fp,ho.mod hm24 (fun _ _ h=>h),hf⟩,hm2'.trans hm24⟩
   · refine e_al ?_;intro w3 hb3 hm3 _;have k3:=hm3.old m lm (fun h=>h);have hm3':Mod (fun _=>False) w1 w3:=Mod.of_drew hm3;(try simp only [go_sem,simprocAttr]);refine ⟨by simp only [drew_heap,k3,and_self,implies_true],?_⟩;refine e_call (by rfl) ?_;refine (m_told (h1.mod hm3' (newTag_ext _ w1 .no).wx (fun _ _ h=>h.elim)) hl).mono ?_;rintro v w2 ⟨⟨fp,ho,hf⟩,hm2⟩;have k2:=hm2.old m (by have:=hm3.size;exact Nat.lt_of_lt_of_le lm this) (fun h=>h);obtain ⟨va,vc,rfl,_⟩:=ho.val;(try simp only [go_sem,simprocAttr]);refine ⟨by simp only [drew_heap,k2,and_self,implies_true],?_⟩;have hb2:=hm2.at hb3 (fun h=>h);have e1:w1.drew.heap.size=w1.heap.size:=rfl;refine e_sta (cs:=[I 0,.slice none 0 0,I 0,I 0,I 0,I 0,I 0,.string ⟨#[]⟩]) rfl rfl hb2 rfl rfl (by simp [Value.oneCell']) ?_;intro w4 hb4 hm4 _;(try simp only [go_sem,simprocAttr]);have l3:=lt_of_heap hb3;exact ⟨w1.heap.size,_,rfl,hb4,Nat.le_refl _,⟨fp,ho.mod hm4 (fun b hb e=>by have:=hf b hb;omega),fun b hb=>Nat.le_trans hm3'.size (hf b hb)⟩,(hm3'.trans hm2).step hm4 (fun x hx hl=>by subst hx;omega)⟩
 rintro ρ w2 ⟨b,v,r0,r2,r3,hb2,lb,⟨fp,ho,hf⟩,hm2⟩;have hc2:=hm2.at hc (fun h=>h);have hb12:=hm2.at hb1 (fun h=>h);have l1:=lt_of_heap hb1;obtain ⟨va,vc,rfl,_⟩:=ho.val;have hm02:=hm1.trans hm2;have hs01:=hm1.size;have hE:outKind M=if M.ended=0 then 4 else M.ended:=rfl
 (try simp only [go_sem,simprocAttr,r0,r2,r3,cell_of hc2,mcCells,ptr]);refine ir_cond rfl (fun hz=>?_) (fun hz=>?_)
 · simp only [zb1,zb2,zb3,zb4,zb5] at hz;rw [if_pos hz] at hE;(try simp only [go_sem,simprocAttr]);refine e_st1 (off:=0) (cs:=[I M.ended,_,I M.stuck,I M.steps,I 0,I 0,I 0,.string ⟨#[]⟩]) rfl rfl hb2 rfl (by simp) ?_;intro w3 hb3 hm3 _;have hb3':w3.heap[b]? = some (.cells [I 4,.slice va M.told.length vc,I M.stuck,I M.steps,I 0,I 0,I 0,.string ⟨#[]⟩].toArray 37 (0,0)):=hb3;(try simp only [go_sem,simprocAttr,ln_of (cs:=[_,_,_,_,_,_,_,_]) (off:=0) (n:=8) hb3' (by simp)]);have hb13:=hm3.at hb12 (fun e=>by omega);refine e_sta (cs:=[I 0,.slice none 0 0,I 0,I 0,I 0,I 0,I 0,.string ⟨#[]⟩]) rfl rfl hb13 rfl rfl (by simp [Value.oneCell']) ?_;intro w4 hb4 hm4 _;(try simp only [go_sem,simprocAttr,ln_of (cs:=[_,_,_,_,_,_,_,_]) (off:=0) (n:=8) hb4 (by simp)]);refine ⟨_,by rw [hE];rfl,⟨fp,(ho.mod hm3 (fun c hc e=>?_)).mod hm4 (fun c hc e=>?_),fun c hc=>Nat.le_trans hs01 (hf c hc)⟩,(hm02.step hm3 (fun x hx hl=>by subst hx;omega)).step hm4 (fun x hx hl=>by subst hx;omega)⟩
   · subst e;exact own_kind ho hc hb2 (by decide)
   · subst e;have:=hf _ hc;omega
 · simp only [zb1,zb2,zb3,zb4,zb5] at hz;rw [if_neg hz] at hE;(try simp only [go_sem,simprocAttr,ln_of (cs:=[_,_,_,_,_,_,_,_]) (off:=0) (n:=8) hb2 (by simp)]);refine e_sta (cs:=[I 0,.slice none 0 0,I 0,I 0,I 0,I 0,I 0,.string ⟨#[]⟩]) rfl rfl hb12 rfl rfl (by simp [Value.oneCell']) ?_;intro w4 hb4 hm4 _;(try simp only [go_sem,simprocAttr,ln_of (cs:=[_,_,_,_,_,_,_,_]) (off:=0) (n:=8) hb4 (by simp)]);refine ⟨_,by rw [hE];rfl,⟨fp,ho.mod hm4 (fun c hc e=>?_),fun c hc=>Nat.le_trans hs01 (hf c hc)⟩,hm02.step hm4 (fun x hx hl=>by subst hx;omega)⟩;subst e;have:=hf _ hc;omega
end
end
section
open Go Go.W
def numB (n:Int):Bool:=decide (n ≥ -4611686018427387904∧n≤4611686018427387903)
theorem f_num (w:World) (n:Int):CallsR Tryz.prog 72 [I n] w fun r w'=>r = .bool (numB n)∧w=w':=by
 refine fit72.calls rfl ?_;unfold ir72 numB;cases h1:decide (n ≥ -4611686018427387904)<;>(try simp only [go_sem,simprocAttr,h1])<;>(simp only [zb1,zb2,zb3,zb4,zb5] at h1;simp [h1])
theorem f_new1 (w:World) (n:Int):CallsR Tryz.prog 71 [I n] w fun r w'=>r = .bool (!numB n)∧w=w':=by
 refine fit71.calls rfl ?_;unfold ir71;(try simp only [go_sem,simprocAttr]);refine e_call (by rfl) ?_;refine (f_num w n).mono ?_;rintro _ _ ⟨rfl,rfl⟩;(try simp only [go_sem,simprocAttr])
theorem f_new2 (w:World) {b:Nat} {e:ByteArray} {T0:Nat} (hb:w.heap[b]? = some (.cells #[.string e] T0 (0,0))) (g:Gl) (a:Option Addr) (n c:Nat):CallsR Tryz.prog 75 [glV g (.slice a n c),ptr b] w fun r w'=>r = .bool (decide (g.name=e))∧Mod (fun _=>False) w w':=by
 refine fit75.calls rfl ?_;unfold ir75 glV;(try simp only [go_sem,simprocAttr]);refine e_bx rfl ?_;intro w1 hb1 hm1 _;have hb':=hm1.at hb (fun h=>h);(try simp only [go_sem,simprocAttr,cell_of hb1,cell_of hb',Value.cells,ba_leq]);exact hm1
def entryS (e:ByteArray):List Gl→Nat→Option Nat
 | [],_=>none
 | g::l,i=>if g.name=e then some i else entryS e l (i+1)
theorem entryS_at {e:ByteArray} {l:List Gl} {i:Nat} (h:i < l.length):entryS e (l.drop i) i=if l[i].name=e then some i else entryS e (l.drop (i+1)) (i+1):=by
 rw [List.drop_eq_getElem_cons h];rfl
theorem entryS_lt {e:ByteArray}:∀ (l:List Gl) (k:Nat) {j:Nat},entryS e l k=some j→k≤j∧j < k+l.length:=by
 intro l
 induction l with
 | nil=>intro k j h;cases h
 | cons g l ih=>
   intro k j h;unfold entryS at h
   split at h
   · cases h;simp
   · have:=ih (k+1) h;simp only [List.length_cons];omega
def entryI (e:ByteArray) (T:Tab):Int:=match entryS e T.globals 0 with
 | some j=>j
 | none => -1
theorem f_entry {w:World} {vsh vgl:Value} {T:Tab} {B:Nat→Prop} (h:TabAt w vsh vgl T B) (hT:TabFit T) {b:Nat} {e:ByteArray} {T0:Nat} (hb:w.heap[b]? = some (.cells #[.string e] T0 (0,0))) :
   CallsR Tryz.prog 74 [vgl,.func (.func 75) #[] #[ptr b]] w fun r w'=>r=I (entryI e T)∧Mod (fun _=>False) w w':=by
 have h0:=h;obtain ⟨⟨aS,cS,rfl⟩,aG,cG,rfl⟩:=tab_sl h;have hgn:=hT.gn;refine fit74.calls rfl ?_;unfold ir74;(try simp only [go_sem,simprocAttr])
 refine ir_loop (fun z ρ w'=>∃ i:Nat,z=T.globals.length - i∧i≤T.globals.length∧Mod (fun _=>False) w w'∧entryS e T.globals 0=entryS e (T.globals.drop i) i ∧
   ρ=[(0,.slice aG T.globals.length cG),(1,.func (.func 75) #[] #[ptr b]),(7,I T.globals.length),(8,I i)]) T.globals.length ⟨0,rfl,by omega,Mod.refl _ _,rfl,rfl⟩ ?_
 rintro z ρ w2 ⟨i,rfl,hi,hm2,heq,rfl⟩;unfold ir74L1;(try simp only [go_sem,simprocAttr]);refine ir_cond rfl (fun hlt=>?_) (fun hlt=>?_)
 · have hlt:i < T.globals.length:=by simpa using hlt
   have h2:=h.mod hm2 (fun _ _ h=>h) (fun _ h=>h);obtain ⟨ad,c,cv,e',hln,hcv⟩:=glob_ln h2 hlt;cases e';have hat:=entryS_at (e:=e) hlt;obtain ⟨acv,ccv,rfl⟩:=rows_sl hcv;generalize T.globals[i]=g at *;have b1':(0:Int)≤i∧(i:Int) < T.globals.length:=by omega
   have e1:IntKind.i64.wrap ((i:Int)+1)=((i+1:Nat):Int):=by rw [wrap_in (by omega) (by omega)];omega
   unfold glV at hln;(try simp only [go_sem,simprocAttr,zb4,zb6,b1',hln]);refine e_cv (f:=75) (cap:=#[ptr b]) rfl rfl rfl rfl rfl ?_;refine (f_new2 w2 (hm2.at hb (fun h=>h)) g acv _ ccv).mono ?_;rintro _ w3 ⟨rfl,hm3⟩;have hm03:=hm2.trans hm3;(try simp only [go_sem,simprocAttr]);refine ir_cond rfl (fun hz=>?_) (fun hz=>?_)
   · simp only [zb1,zb2,zb3,zb4,zb5] at hz;(try simp only [go_sem,simprocAttr]);have:entryI e T=i:=by unfold entryI;rw [heq,hat,if_pos hz]
     rw [this];exact ⟨rfl,hm03⟩
   · simp only [zb1,zb2,zb3,zb4,zb5] at hz;(try simp only [go_sem,simprocAttr,e1]);exact ⟨_,by omega,i+1,rfl,by omega,hm03,by rw [heq,hat,if_neg hz],rfl⟩
 · have hlt:¬ i < T.globals.length:=by simpa using hlt
   obtain rfl:i=T.globals.length:=by omega
   (try simp only [go_sem,simprocAttr]);have:entryI e T = -1:=by unfold entryI;rw [heq,List.drop_length];rfl
   rw [this];exact ⟨rfl,hm2⟩
def newY (gens:Bool) (heap:Int):Int:=if gens=true then (if heap.tdiv 8 > 1 then heap.tdiv 8 else 1) else heap
def newKd (gens:Bool) (heap:Int):Kd:=if gens=true then .gn (newY true heap) 0 0 else .hp 0
def setV (heap:Int) (gens:Bool) (every:Int):Value:=.agg #[I heap,.bool gens,I every]
theorem f_newStore (w:World) {heap:Int} (gens:Bool) (every:Int) (hh:1≤heap∧heap≤1048576) :
   CallsR Tryz.prog 76 [setV heap gens every] w fun r w'=>∃ sv F,r = .tuple #[sv,I (newY gens heap),I 0]∧StAt w' sv ⟨newKd gens heap,heap,[]⟩ F∧Mod (fun _=>False) w w'∧∀ b,F b→w.heap.size≤b:=by
 refine fit76.calls rfl ?_;unfold ir76 setV;(try simp only [go_sem,simprocAttr]);refine e_bx rfl ?_;intro w1 hb1 hm1 _;have s1:=hm1.size;cases gens with
 | true=>
   have e1:IntKind.i64.wrap (heap.tdiv 8)=heap.tdiv 8:=by
     have:=Int.tdiv_nonneg (a:=heap) (b:=8) (by omega) (by omega);have:heap.tdiv 8≤heap:=by rw [Int.tdiv_eq_ediv_of_nonneg (by omega)];omega
     exact wrap_in (by omega) (by omega)
   have hy:newY true heap=if heap.tdiv 8 > 1 then heap.tdiv 8 else 1:=rfl
   have hyb:1≤newY true heap∧newY true heap≤heap:=by
     rw [hy];have:heap.tdiv 8≤heap:=by rw [Int.tdiv_eq_ediv_of_nonneg (by omega)];omega
     split<;>omega
   (try simp only [go_sem,simprocAttr,cell_of hb1,Value.cells,show ((8:Int)=0)=False from eq_false (by decide),e1,← hy]);refine e_call (by rfl) ?_;refine (gnew_ok heap (newY true heap) w1).mono ?_;rintro r w2 ⟨k1,_⟩;obtain ⟨a,F,rfl,hG,hm2,hF⟩:=k1 ⟨by omega,by omega,hyb.1,hyb.2⟩;(try simp only [go_sem,simprocAttr]);refine ⟨_,F,rfl,⟨a,rfl,hG⟩,hm1.trans hm2,fun b hb=>Nat.le_trans s1 (hF b hb)⟩
 | false=>
   (try simp only [go_sem,simprocAttr,cell_of hb1,Value.cells]);refine e_call (by rfl) ?_;refine (new_ok heap w1).mono ?_;rintro r w2 ⟨k1,_⟩;obtain ⟨rfl,hA,hm2,_⟩:=k1 ⟨by omega,by omega⟩;have hb12:=hm2.at hb1 (fun h=>h);(try simp only [go_sem,simprocAttr,cell_of hb12,Value.cells]);refine ⟨_,(· = w1.heap.size),rfl,⟨_,rfl,hA.mod (Mod.refl (fun _=>False) w2).drew (fun _ _ h=>h)⟩,(hm1.trans hm2).drew,fun b hb=>by subst hb;exact s1⟩
theorem flat_rows {sz:Nat}:∀ (rows:List (List Value)),(∀ r∈rows,r.length=sz)→∀ (i:Nat) (h:i < rows.length) (k:Nat),k < sz→(rows.flatMap id)[i*sz+k]? = (rows[i]'h)[k]?:=by
 intro rows
 induction rows with
 | nil=>intro _ i h;simp at h
 | cons r rows ih=>
   intro hr i h k hk;have h0:=hr r (by simp);simp only [List.flatMap_cons,id];cases i with
   | zero=>rw [List.getElem?_append_left (by omega)];simp
   | succ i=>
     rw [List.getElem?_append_right (by rw [h0,Nat.add_mul];omega),h0];have e:(i+1)*sz+k - sz=i*sz+k:=by rw [Nat.add_mul];omega
     rw [e];exact ih (fun r hr'=>hr r (by simp [hr'])) i (by simpa using h) k hk
theorem own_rows {w:World} {T sz:Nat} {v:Value} {rows:List (List Value)} {fp:Option Nat} (h:OwnS w T sz v (rows.flatMap id) rows.length fp) (hr:∀ r∈rows,r.length=sz):RowsAt w v sz rows (fun b=>fp=some b):=by
 obtain ⟨h1,⟨rfl,h2,rfl⟩ | ⟨b,c,sp,rfl,rfl,h3,_⟩⟩:=h
 · refine ⟨none,0,by rw [h2],(fun _ ad e=>by cases e),fun i hi=>?_⟩;omega
 · refine ⟨some ⟨b,0,none⟩,c,rfl,(fun _ ad e=>by cases e;rfl),fun i hi=>⟨_,rfl,hr _ (List.getElem_mem hi),fun k hk=>?_⟩⟩;have hl:=hr _ (List.getElem_mem hi);have hf:=flat_rows rows hr i hi k (by omega);rw [List.getElem?_eq_getElem hk] at hf;have hlt:i*sz+k < (rows.flatMap id).length:=(List.getElem?_eq_some_iff.1 hf).1;rw [add_at,add_at,cell_of h3];simp only [Nat.zero_add,List.getElem?_toArray];rw [List.getElem?_append_left hlt];exact hf
theorem f_rows (w:World):CallsR Tryz.prog 78 [] w fun r w'=>∃ b,(w.heap.size≤b∧b < w'.heap.size)∧RowsAt w' r 2 rowsV (· = b)∧Mod (fun _=>False) w w':=by
 refine fit78.calls rfl ?_;unfold ir78;(try simp only [go_sem,simprocAttr]);refine e_bs (by rfl) (by rfl) ?_;intro w1 hb1 hm1 _;(try simp only [go_sem,simprocAttr]);have hb1':w1.heap[w.heap.size]? = some (.cells (rowsV.flatMap id).toArray 177 (0,0)):=hb1;have ho:OwnS w1 177 2 (.slice (some ⟨w.heap.size,0,none⟩) 18 18) (rowsV.flatMap id) rowsV.length (some w.heap.size):=OwnS.of_block (xs:=rowsV.flatMap id) hb1' rfl;have h2:∀ r∈rowsV,r.length=2:=by
   intro r hr;simp only [rowsV,List.mem_cons,List.not_mem_nil,or_false] at hr;rcases hr with rfl | rfl | rfl | rfl | rfl | rfl | rfl | rfl | rfl | rfl | rfl | rfl | rfl | rfl | rfl | rfl | rfl | rfl<;>rfl
 obtain ⟨a,c,e,hB,hx⟩:=own_rows ho h2;exact ⟨w.heap.size,⟨Nat.le_refl _,lt_of_heap hb1'⟩,⟨a,c,e,(fun h0 ad had=>(Option.some.inj (hB h0 ad had)).symm),hx⟩,hm1⟩
end
section
open Go Go.W Go.ChangeShapes Go.WideShapes Go.ChangeAt Go.RowKit Go.Deep
theorem Tryz.cells47:Tryz.prog.cellsOf 47=2:=by kernel_rfl
theorem Tryz.cells9:Tryz.prog.cellsOf 9=1:=by kernel_rfl
theorem Tryz.cells3:Tryz.prog.cellsOf 3=1:=by kernel_rfl
theorem Tryz.cells42:Tryz.prog.cellsOf 42=2:=by kernel_rfl
theorem Tryz.bytes47:Tryz.prog.bytesOf 47=24:=by kernel_rfl
theorem Tryz.bytes42:Tryz.prog.bytesOf 42=24:=by kernel_rfl
theorem Tryz.own:ownKnob Tryz.prog.godebug=none:=by kernel_rfl
theorem Tryz.laidOut:laidOutB Tryz.prog=true:=by kernel_rfl
theorem all_app {p:Nat→Bool} {l m:List Nat} (h:(l++m).all p=true):l.all p=true∧m.all p=true:=by
 simpa using h
section
variable {H:Type} {enc:TypeId×Value→H} {P:Program}
theorem cell_lt {w:World} {a:Addr} {v:Value} (h:w.cell? a=some v):a.block < w.heap.size:=by
 unfold World.cell? at h;cases hb:w.heap[a.block]? with
 | none=>rw [hb] at h;cases h
 | some o=>exact lt_of_heap hb
theorem open_rows {α:Type} [Inhabited α] {t e:TypeId} {k bytes n:Nat} (cellsA:α→List Value) (okA:α→Prop) (μ:α→Nat) {w:World} {base:Nat} {held:Bool} {cs:List Value} {x:DataW H×List MemPlace}
   (ht:P.underlying t=some (.slice e)) (hk:P.cellsOf e=k) (hby:P.bytesOf e=bytes) (hlen:∀ a,(cellsA a).length=k) (hk0:0 < k)
   (each:∀ n cs y,DataW.trod enc P w base (fun _=>true) held n e cs=some y→(y.1.weights P e).all (·≤reachBytes)=true→∃ o,cs=cellsA o∧okA o∧μ o≤Rows.uptoBulk y.1)
   (h:DataW.trod enc P w base (fun _=>true) held n t cs=some x) (hw:(x.1.weights P t).all (·≤reachBytes)=true) :
   ∃ (v:Value) (os:List α),cs=[v]∧RowsAt w v k (os.map cellsA) (· < w.heap.size)∧(∀ o∈os,okA o)∧os.length*bytes≤reachBytes∧(os.map μ).sum+1≤Rows.uptoBulk x.1:=by
 rcases open_slice ht h with ⟨rfl,rfl⟩ | ⟨a,len,cap,m,k',D,Pl,rfl,_,hl,_,hm,rfl,hel⟩
 · exact ⟨_,[],rfl,⟨none,0,rfl,(fun _ ad e=>by cases e),fun i hi=>absurd hi (by simp)⟩,(fun o ho=>by cases ho),by simp,by simp [Rows.uptoBulk]⟩
 · simp only [if_true] at hm;subst hm;simp only [DataW.weights,ht,hby,List.length_map,List.length_range,List.all_cons,Bool.and_eq_true,decide_eq_true_eq] at hw;obtain ⟨hw1,hw2⟩:=hw;obtain ⟨hw2,_⟩:=all_app hw2;have all:∀ i,i < len→∃ o:α,(∀ j,j < k→w.cell? ((a.add (i*k)).add j)=(cellsA o)[j]?)∧okA o∧μ o≤Rows.uptoBulk (D i):=by
     intro i hi;obtain ⟨cs,h3,h4⟩:=hel i (by omega);have hwi:((D i).weights P e).all (·≤reachBytes)=true:=by
       have key:∀ (l:List (DataW H)) d,d∈l→(DataW.weightsAll P e l).all (·≤reachBytes)=true→(d.weights P e).all (·≤reachBytes)=true:=by
         intro l
         induction l with
         | nil=>intro d hd;cases hd
         | cons y l ih=>
           intro d hd hh;rw [DataW.weightsAll] at hh;obtain ⟨z1,z2⟩:=all_app hh;rcases List.mem_cons.1 hd with rfl | hd
           · exact z1
           · exact ih d hd z2
       exact key _ _ (List.mem_map.2 ⟨i,List.mem_range.2 hi,rfl⟩) hw2
     obtain ⟨o,rfl,ho,hμ⟩:=each _ _ _ h4 hwi;obtain ⟨_,_,h5⟩:=World.cells?_some h3;rw [hk] at h5;exact ⟨o,fun j hj=>h5 j hj,ho,hμ⟩
   obtain ⟨f,hf⟩:=choose_lt (α:=α) (h:=all);refine ⟨_,(List.range len).map f,rfl,⟨some a,m,by simp,fun h0 ad e=>?_,?_⟩,?_,by simpa using Nat.le_trans (Nat.mul_le_mul_right _ (by omega)) hw1,?_⟩
   · cases e;have h0':0 < len:=by simpa using h0
     have hc:=(hf 0 h0').1 0 hk0;have e1:(cellsA (f 0))[0]? = some ((cellsA (f 0))[0]'(by rw [hlen];exact hk0)):=List.getElem?_eq_getElem _;rw [e1] at hc;simp only [Nat.zero_mul,add_zero'] at hc;exact cell_lt hc
   · intro i hi;have hi':i < len:=by simpa using hi
     refine ⟨a,rfl,by simp [hlen],fun j hj=>?_⟩;have:=(hf i hi').1 j (by simpa [hlen] using hj);rw [this];simp only [List.getElem_map,List.getElem_range];exact List.getElem?_eq_getElem _
   · intro o ho;obtain ⟨i,hi,rfl⟩:=List.mem_map.1 ho;exact (hf i (List.mem_range.1 hi)).2.1
   · have key:∀ l:List Nat,(∀ i∈l,i < len)→((l.map f).map μ).sum≤Rows.uptoBulkAll (l.map D):=by
       intro l
       induction l with
       | nil=>intro _;simp [Rows.uptoBulkAll]
       | cons i l ih=>
         intro hl;have h1:=(hf i (hl i (by simp))).2.2;have h2:=ih (fun j hj=>hl j (by simp [hj]));simp only [List.map_cons,List.sum_cons,Rows.uptoBulkAll];omega
     have:=key (List.range len) (fun i hi=>List.mem_range.1 hi);show _+1≤Rows.uptoBulkAll _+Rows.uptoBulkAll _+1;omega
instance:Inhabited Ins:=⟨⟨0,0,0⟩⟩
instance:Inhabited Shp:=⟨⟨⟨#[]⟩,0⟩⟩
structure GlIn where
 g:Gl
 v:Value
instance:Inhabited GlIn:=⟨⟨⟨⟨#[]⟩,0,[]⟩,.slice none 0 0⟩⟩
theorem reach_is:reachBytes=140737488351232:=by decide
variable {w:World} {base:Nat} {held:Bool}
theorem str_in {n:Nat} {c:Value} {y:DataW H×List MemPlace} (h:DataW.trod enc Tryz.prog w base (fun _=>true) held n 9 [c]=some y) (hw:(y.1.weights Tryz.prog 9).all (·≤reachBytes)=true) :
   ∃ s:ByteArray,c = .string s∧s.size≤140737488351232∧s.size+1=Rows.uptoBulk y.1:=by
 obtain ⟨s,e,rfl,_⟩:=DataW.trod_string Tryz.underlying9 h;cases e;have h1:s.data.toList.length=s.size:=Array.length_toList;refine ⟨s,rfl,?_,by simp only [Rows.uptoBulk];omega⟩;simp only [DataW.weights,List.all_cons,Bool.and_eq_true,decide_eq_true_eq,reach_is] at hw;omega
theorem shp_in (n:Nat) (cs:List Value) (y:DataW H×List MemPlace) (h:DataW.trod enc Tryz.prog w base (fun _=>true) held n 47 cs=some y) (hw:(y.1.weights Tryz.prog 47).all (·≤reachBytes)=true) :
   ∃ x:Shp,cs=shRow x∧x.name.size≤140737488351232∧x.name.size+1≤Rows.uptoBulk y.1:=by
 obtain ⟨xs,m,rfl,rfl,hl,hxs,hf⟩:=DataW.trod_struct Tryz.underlying47 h;rw [Tryz.cells47] at hl
 match cs,hl,xs,hxs with
 | [c0,c1],_,[x0,x1],_=>
 have f0:=hf 0 _ rfl;have f1:=hf 1 _ rfl;simp only [Tryz.cells3,Tryz.cells9,List.drop_zero,List.drop_succ_cons,List.take_succ_cons,List.take_zero,List.getElem?_cons_zero,List.getElem?_cons_succ] at f0 f1;simp only [DataW.weights,Tryz.underlying47,List.map_cons,List.map_nil,DataW.weightsEach] at hw;obtain ⟨hw0,_⟩:=all_app hw;obtain ⟨s,rfl,hs,hb⟩:=str_in f0 hw0;obtain ⟨i1,e1,rfl,_⟩:=DataW.trod_int Tryz.underlying3 f1;cases e1;refine ⟨⟨s,i1⟩,rfl,hs,?_⟩;simp only [Rows.uptoBulk,Rows.uptoBulkAll,List.map_cons,List.map_nil,← hb];omega
end
end
end Go.Proofs.YtnjobkbblhaliaaGreatDoor
namespace Go.W
section
open Go
structure RangeB2 (P:Program) (N:Nat) (ia ib:IR) (Kp:World→World→Prop) (len:Nat) (elt:Nat→Value) (p1 p2:Nat) (ρ:Env) (B:Nat) (I:List Nat→World→Prop) (A:Nat→Env→World→Prop) (w:World):Prop where
 zero:I [] w
 quiet:∀ s,Quiet B (I s)
 quietA:∀ j ρ',Quiet B (A j ρ')
 lay:∀ (pre:List Nat) (j:Nat) (W:World),I pre W→j < len →
   irwp P N ia (fun e ρ' W'=>match e with | .normal=>KeepsFrom B W W'∧Kp W W'∧I pre W'∧A j ρ' W' | _=>False) ((p2,elt j)::ρ) W
 body:∀ (pre:List Nat) (j:Nat) (ρ':Env) (W:World),I pre W→A j ρ' W→pre.length < len→j < len →
   irwp P N ib (fun e _ W'=>match e with | .normal=>KeepsFrom B W W'∧Kp W W'∧I (pre++[j]) W' | _=>False) ρ' W
theorem range_wp2 {n:Nat} {P:Program} {N:Nat} {dl:List Deferred} {x p1 p2:Nat} {sa bd:Code} {ia ib:IR} {H H':List (Nat×List Nat×List Nat)} (hsa:decomp P N H' sa=some ia) (hcalm':calm sa=true) (hcook':cooked ia=true) (hbd:decomp P N H bd=some ib) (hcalm:calm bd=true) (hcook:cooked ib=true)
   {gf:Nat} {lb:Array Value} {len:Nat} {elt:Nat→Value} {Kp:World→World→Prop} {ρ:Env} {a:Act} {w:World} {Q:Exit→Act→World→Prop} (hg:Good dl N ρ a) (hx:ρ.get x=some (.func (.func gf) #[] lb))
   (eg:∀ args w,(callFunc gf args).run P w = .ok (.enter gf args) w)
   (hseq:SeqStopsK Fence.wide (n - 1) P gf lb (fun y : { j:Nat // j < len}=>#[.int .i64 (y.1:Int),elt y.1]) Kp (fun ys=>ys.map Subtype.val=downto len len) (fun _=>True) len w)
   (hp:p1≠p2∧p1 < N∧p2 < N) (hfresh:ρ.get p1=none∧ρ.get p2=none) (hn:1≤n)
   (hKt:∀ {A B C:World},Kp A B→Kp B C→Kp A C) (hKb:∀ (W:World) (l:Nat) (o o':Obj),w.heap.size≤l→W.heap[l]? = some o→o.isCells=false→o.isWalk=false→Kp W (W.putObj l o'))
   (I:List Nat→World→Prop) (A:Nat→Env→World→Prop) (hI:RangeB2 P N ia ib Kp len elt p1 p2 ρ w.heap.size I A w)
   (done:∀ (D:Nat) (W:World),w.heap.size≤D→I (downto len len) W→W.heap[D]? = some (.deferred (some []))→∀ a',Good ({ target:=.collected D,args:=#[]}::dl) N ρ a'→Q .normal a' W) :
   (Code.rangeFunc (.tmp x) #[p1,p2] sa bd).wp P Q a w:=by
 obtain ⟨hp12,hp1,hp2⟩:=hp;obtain ⟨hf1,hf2⟩:=hfresh;have h0:Good [] N ρ { tmps:=a.tmps,defers:=[]}:=⟨hg.size,rfl,hg.get⟩;have hev:a.eval (.tmp x) = .func (.func gf) #[] lb:=hg.agree (.tmp x) _ hx;refine (wpIn_wide (n:=n)).1 ?_;refine wpIn_rangeFunc_ownH (α:={ j:Nat // j < len}) rfl hn hev trivial eg hseq hKt hKb (Go.RowKit.Below.refl _ _) (fun _=>rfl) (fun xs W=>I (xs.map Subtype.val) W) (fun _ _ _=>False)
   (quiet_own (fun s=>hI.quiet _)) (fun c=>fun s W W' row h=>h.elim) hI.zero
   (fun y a' W=>∃ ρ',Good [] N ρ' a'∧A y.1 ρ' W) (fun y a'=>fun _ W W' row hs hg hr=>by
     obtain ⟨ρ',h1,h2⟩:=hs
     exact ⟨ρ',h1,hI.quietA _ _ W W' (fun b=>row=some b) h2 ⟨hg.size,fun b hb hn=>hg.block b hb (fun e=>hn e.symm),hg.os,hg.tape,hg.output⟩ (fun b hb=>hr b hb)⟩) ?_ ?_ ?_ ?_
 · intro l pre y W K hi hK;have e:((#[p1,p2].zip #[Value.int .i64 (y.1:Int),elt y.1]).foldl (fun t (p,v)=>t.setIfInBounds p v) a.tmps)=((({ tmps:=a.tmps,defers:=[]}:Act).put (some p1) (.int .i64 (y.1:Int))).put (some p2) (elt y.1)).tmps:=by simp [Act.put]
   rw [e];have hG:Good [] N ((p2,elt y.1)::ρ) ((({ tmps:=a.tmps,defers:=[]}:Act).put (some p1) (.int .i64 (y.1:Int))).put (some p2) (elt y.1)):=
     (good_hide h0 _ hf1 hp1).put (some p2) _ (fun t ht=>by cases ht;exact hp2)
   refine wpIn_mono (decompIn_sound sa ia _ _ _ _ hsa hcalm' hcook' (hI.lay _ y.1 W hi y.2) hG) ?_;rintro e a' w' ⟨ρ',hg',hq⟩;cases e with
   | normal=>exact hK a' w' hq.1 hq.2.1 hq.2.2.1 ⟨ρ',hg',hq.2.2.2⟩
   | _=>exact hq.elim
 · rintro l pre y a' W _ _ hi ⟨ρ',hG,hA⟩ hlen;refine wpIn_mono (decompIn_sound bd ib _ _ _ _ hbd hcalm hcook (hI.body _ y.1 ρ' W hi hA (by simpa using hlen) y.2) hG) ?_;rintro e a' w' ⟨ρ'',_,hq⟩;cases e with
   | normal=>
     obtain ⟨q1,q2,q3⟩:=hq;exact ⟨q1,q2,by show I ((pre++[y]).map Subtype.val) w';rw [List.map_append];exact q3⟩
   | _=>exact hq.elim
 · intro D xs W hD hS hi hh;have hS:xs.map Subtype.val=downto len len:=hS;have hi:I (xs.map Subtype.val) W:=hi;rw [hS] at hi;exact done D W hD hi hh _ ⟨hg.size,by simp [hg.defers],hg.get⟩
 · intro D c pre W _ _ hh;exact hh.elim
structure FitsL (P:Program) (f nargs:Nat) (H:List (Nat×List Nat×List Nat)) (i0 i1 ia ib:IR) (x p1 p2 N:Nat):Prop where
 go:∃ fn c0 c1 id sa bd,P.funcs[f]? = some fn∧fn.body=some (.seq c0 (.seq c1 (.block id (.rangeFunc (.tmp x) #[p1,p2] sa bd))))∧fn.ntmps=N∧nargs≤N∧fn.results = #[] ∧
   decomp P N H c0=some i0∧decomp P N H c1=some i1∧decomp P N H sa=some ia∧calm sa=true∧cooked ia=true∧decomp P N H bd=some ib∧calm bd=true∧cooked ib=true∧p1≠p2∧p1 < N∧p2 < N
structure RangeF2 (P:Program) (N:Nat) (ia ib:IR) (x p1 p2:Nat) (ρ:Env) (w:World) (n len gf:Nat) (lb:Array Value) (elt:Nat→Value) (Kp:World→World→Prop) (I:List Nat→World→Prop) (A:Nat→Env→World→Prop):Prop where
 hx:ρ.get x=some (.func (.func gf) #[] lb)
 eg:∀ args w,(callFunc gf args).run P w = .ok (.enter gf args) w
 hseq:SeqStopsK Fence.wide (n - 1) P gf lb (fun y : { j:Nat // j < len}=>#[.int .i64 (y.1:Int),elt y.1]) Kp (fun ys=>ys.map Subtype.val=downto len len) (fun _=>True) len w
 fresh:ρ.get p1=none∧ρ.get p2=none
 hn:1≤n
 hKt:∀ {A B C:World},Kp A B→Kp B C→Kp A C
 hKb:∀ (W:World) (l:Nat) (o o':Obj),w.heap.size≤l→W.heap[l]? = some o→o.isCells=false→o.isWalk=false→Kp W (W.putObj l o')
 hI:RangeB2 P N ia ib Kp len elt p1 p2 ρ w.heap.size I A w
theorem FitsL.calls {P:Program} {f nargs:Nat} {H:List (Nat×List Nat×List Nat)} {i0 i1 ia ib:IR} {x p1 p2 N:Nat} (h:FitsL P f nargs H i0 i1 ia ib x p1 p2 N) {args:List Value} (hn:args.length=nargs) {w:World} {R:Value→World→Prop}
   (hw:irwp P N i0 (fun e ρ w=>e = .normal∧irwp P N i1 (fun e ρ w=>e = .normal∧∃ n len gf lb elt Kp I A,RangeF2 P N ia ib x p1 p2 ρ w n len gf lb elt Kp I A ∧
     ∀ (D:Nat) (W W':World),w.heap.size≤D→I (downto len len) W→Mod (· = D) W W'→W.heap[D]? = some (.deferred (some []))→R (.tuple #[]) W') ρ w) (argEnv 0 args) w):CallsR P f args w R:=by
 obtain ⟨fn,c0,c1,id,sa,bd,hf,hb,hN,hle,hr,hc0,hc1,hsa,ca,ka,hbd,cb,kb,hp⟩:=h.go;unfold CallsR;refine callsIn_wide.1 (callsIn_of_wp_marks (n:=0) hf hb trivial ?_);have hg:Good ([].map coll) N (argEnv 0 args) { tmps:=args.toArray++Array.replicate (fn.ntmps - args.toArray.size) undef,defers:=[]}:=by
   refine ⟨?_,rfl,?_⟩
   · simp only [Array.size_append,List.size_toArray,Array.size_replicate];omega
   · intro t v ht;obtain ⟨_,h2⟩:=argEnv_get args 0 t v ht;have hlt:t < args.length:=by
       rcases Nat.lt_or_ge t args.length with h | h
       · exact h
       · simp [List.getElem?_eq_none h] at h2
     simp only [Nat.sub_zero] at h2;rw [Array.getElem?_append_left (by simpa using hlt)]
     simpa using h2
 refine (wpIn_wide (n:=0)).2 ?_;refine wp_seq (wp_mono (decomp_sound c0 i0 _ _ _ w hc0 hw hg) ?_);rintro e a1 w1 ⟨ρ1,hg1,rfl,hw1⟩;refine wp_seq (wp_mono (decomp_sound c1 i1 _ _ _ w1 hc1 hw1 hg1) ?_);rintro e a2 w2 ⟨ρ2,hg2,rfl,n,len,gf,lb,elt,Kp,I,A,hF,hd⟩;refine wp_block ?_;refine range_wp2 hsa ca ka hbd cb kb hg2 hF.hx hF.eg hF.hseq hp hF.fresh hF.hn hF.hKt hF.hKb I A hF.hI ?_;intro D W hD hI hh a' ha';show LeavesInM Fence.wide 0 P fn a'.tmps _ a'.defers .returning W;rw [ha'.defers];refine leavesM [D] W (fun D' hD'=>by obtain rfl:=List.mem_singleton.1 hD';exact hh) (List.nodup_cons.2 ⟨(by simp),List.nodup_nil⟩) ?_;intro W' hm hs;refine ⟨.tuple #[],?_,_,rfl,hd D W W' hD hI (hm.weak (fun b hb=>List.mem_singleton.1 hb)) hh⟩;have h1:resRV P fn.results.toList=some []:=by rw [hr];rfl
 refine ro_run ?_;unfold results;rw [ro_bind,Array.mapM_eq_mapM_toList,ro_map];have:=resRV_sound (P:=P) ha' fn.results.toList [] [] h1 rfl (w:=W');refine Eq.trans (congrArg (fun o:Option (List Value)=>(o.map List.toArray).bind fun vs=>ro P W' (pure (if h:vs.size=1 then vs[0] else .tuple vs):Sem Value)) this) ?_;simp [ro_pure]
end
end Go.W
namespace Go.Proofs.YtnjobkbblhaliaaGreatDoor
section
open Go Go.RowKit Go.Shelf
attribute [local go_sem] Oper.semAt_some
set_option maxRecDepth 100000 in
set_option maxHeartbeats 2000000 in
theorem backtodo_in (F:Fence) (n:Nat) (h7:F.fn 142) (hro:F.round=none) (hn:1≤n) (l Bs b off len cap:Nat) (e1 e2:Nat→Value) (hreach:len*16≤140737488351232) (J Jx:List Nat→World→Prop)
   (hY:∀ pre j W,J pre W→pre.length < len→j < len→YieldAt F (n - 1) Tryz.prog l #[.int .i64 (j:Int),.agg #[e1 j,e2 j]] W fun e W'=>
     (e = .returned (.bool true)∧J (pre++[j]) W'∧KeepB Bs b W W')∨(e = .returned (.bool false)∧Jx (pre++[j]) W'))
   (W:World) (hBs:W.cell? ⟨Bs,0,none⟩=some (.slice (some ⟨b,off,none⟩) len cap)) (hc:∀ j,j < len→W.cell? ⟨b,off+j*2,none⟩=some (e1 j)∧W.cell? ⟨b,off+j*2+1,none⟩=some (e2 j)) (h0:J [] W) :
   CallsIn F n Tryz.prog 142 #[.func (.yield l) #[] #[],.pointer (some ⟨Bs,0,none⟩)] W fun e W'=>(∃ v,e = .returned v) ∧
     ((∃ ys,ys=downto len len∧J ys W')∨(∃ pre,(∃ k,k≤len∧pre=downto len k)∧Jx pre W')):=by
 refine callsIn_of_wp Tryz.func142 rfl h7 ?_ hro;simp only [Tryz.ntmps142,List.size_toArray,List.length_cons,List.length_nil,Nat.reduceAdd,Nat.reduceSub,Array.replicate_succ,Array.replicate_zero,List.push_toArray,List.append_toArray,List.nil_append,List.cons_append];have hlen0:(IntKind.i64.wrap ((len:Int) - 1))=(len:Int) - 1:=by rw [IntKind.wrap_i64];omega
 gi_wp2
 gi_loopw [3] (fun i wr=>∃ k:Nat,k≤len∧i = .int .i64 ((len:Int) - 1 - k)∧J (downto len k) wr∧KeepB Bs b W wr)
   (fun i _=>(intOf i+1).toNat)
 case atStart=>exact ⟨0,Nat.zero_le _,by simp,h0,rfl,rfl⟩
 case round=>
   obtain ⟨k,hk,rfl,hJs,hnx⟩:=hrel;have hBs':wr.cell? ⟨Bs,0,none⟩=some (.slice (some ⟨b,off,none⟩) len cap):=(keepB_cell hnx).2.trans hBs;by_cases hlt:k < len
   · obtain ⟨j,hj,hjl⟩:∃ j:Nat,(len:Int) - 1 - k=(j:Int)∧len - 1 - k=j:=⟨len - 1 - k,by omega,rfl⟩;have hjn:j < len:=by omega
     have hcx:wr.cell? ⟨b,off+j*2,none⟩=some (e1 j):=(keepB_cell hnx).1.trans (hc j hjn).1;have hcy:wr.cell? ⟨b,off+j*2+1,none⟩=some (e2 j):=(keepB_cell hnx).1.trans (hc j hjn).2;obtain ⟨fn,tmps,assign,body,hy,hR⟩:=hY _ j wr hJs (by rw [downto_length];exact hlt) hjn;have hj1:IntKind.i64.wrap ((j:Int) - 1)=(j:Int) - 1:=by rw [IntKind.wrap_i64];omega
     rw [hj]
     gi_wp2
     refine hR.mono ?_;rintro e W3 (⟨rfl,hJ3,hk3⟩ | ⟨rfl,hJx3⟩)
     · gi_wp2
       go_roundw
       case rel=>exact ⟨k+1,by omega,by rw [show (len:Int) - 1 - ((k+1:Nat):Int)=(j:Int) - 1 by omega],by rw [downto_succ,hjl];exact hJ3,hk3.1.trans hnx.1,hk3.2.trans hnx.2⟩
       case measure=>simp [intOf]
     · gi_wp2
       refine bodyPost_ret (results_none rfl _ _ _) rfl ?_;exact ⟨⟨_,rfl⟩,.inr ⟨_,⟨k+1,by omega,by rw [downto_succ,hjl]⟩,hJx3⟩⟩
   · obtain rfl:k=len:=by omega
     have h0:decide (0≤(k:Int) - 1 - k)=false:=by simp;omega
     gi_wp2
     go_end0
     exact ⟨⟨_,rfl⟩,.inl ⟨_,rfl,hJs⟩⟩
set_option maxRecDepth 100000 in
set_option maxHeartbeats 1000000 in
theorem backtodo_nil_in (F:Fence) (n:Nat) (h7:F.fn 142) (hro:F.round=none) (l Bs:Nat) (J:List Nat→World→Prop) (W:World) (hBs:W.cell? ⟨Bs,0,none⟩=some (.slice none 0 0)) (h0:J [] W) :
   CallsIn F n Tryz.prog 142 #[.func (.yield l) #[] #[],.pointer (some ⟨Bs,0,none⟩)] W fun e W'=>(∃ v,e = .returned v)∧J [] W':=by
 refine callsIn_of_wp Tryz.func142 rfl h7 ?_ hro;simp only [Tryz.ntmps142,List.size_toArray,List.length_cons,List.length_nil,Nat.reduceAdd,Nat.reduceSub,Array.replicate_succ,Array.replicate_zero,List.push_toArray,List.append_toArray,List.nil_append,List.cons_append]
 gi_wp2
 gi_loopw [3] (fun i wr=>i = .int .i64 (-1)∧J [] wr) (fun _ _=>0)
 case atStart=>exact ⟨rfl,h0⟩
 case round=>
   obtain ⟨rfl,hJs⟩:=hrel
   gi_wp2
   go_end0
   exact ⟨⟨_,rfl⟩,hJs⟩
theorem backtodo_stops (F:Fence) (n:Nat) (h7:F.fn 142) (hro:F.round=none) (hn:1≤n) (Bs b len:Nat) (sv:Value) (e1 e2:Nat→Value) (w:World) (hBs:w.cell? ⟨Bs,0,none⟩=some sv) (hBl:Bs < w.heap.size)
   (hs:(sv = .slice none 0 0∧len=0)∨(b < w.heap.size∧∃ cap,sv = .slice (some ⟨b,0,none⟩) len cap∧∀ j,j < len→w.cell? ⟨b,j*2,none⟩=some (e1 j)∧w.cell? ⟨b,j*2+1,none⟩=some (e2 j))) (hreach:len*16≤140737488351232) :
   SeqStopsK F n Tryz.prog 142 #[.pointer (some ⟨Bs,0,none⟩)] (fun x : { j:Nat // j < len}=>#[.int .i64 (x.1:Int),.agg #[e1 x.1,e2 x.1]]) (KeepB Bs b) (fun ys=>ys.map Subtype.val=downto len len) (fun _=>True) len w:=by
 intro l J Jx W hW _ _ hY h0;have hc':=(hW.cell (p:=⟨Bs,0,none⟩) hBl).trans hBs;rcases hs with ⟨rfl,rfl⟩ | ⟨hb,cap,rfl,hc⟩
 · refine (backtodo_nil_in F n h7 hro l Bs (fun ns W=>∃ xs,xs.map Subtype.val=ns∧J xs W) W hc' ⟨[],rfl,h0⟩).mono ?_;rintro e W' ⟨he,xs,hx,hj⟩;exact ⟨he,.inl ⟨xs,hx.trans rfl,hj⟩⟩
 · refine (backtodo_in F n h7 hro hn l Bs b 0 len cap e1 e2 hreach (fun ns W=>∃ xs,xs.map Subtype.val=ns∧J xs W) (fun ns W=>∃ xs,xs.map Subtype.val=ns∧Jx xs W) ?_ W hc' ?_ ⟨[],rfl,h0⟩).mono ?_
   · rintro pre j W1 ⟨xs,rfl,hj⟩ hl hjl;obtain ⟨fn,tmps,assign,body,h1,h2⟩:=hY xs ⟨j,hjl⟩ W1 hj (by simpa using hl);refine ⟨fn,tmps,assign,body,h1,h2.mono ?_⟩;rintro e W' (⟨rfl,k1,k2⟩ | ⟨rfl,k1⟩)
     · exact .inl ⟨rfl,⟨xs++[⟨j,hjl⟩],by simp,k1⟩,k2⟩
     · exact .inr ⟨rfl,xs++[⟨j,hjl⟩],by simp,k1⟩
   · intro j hj;rw [Nat.zero_add];exact ⟨(hW.cell (p:=⟨b,j*2,none⟩) hb).trans (hc j hj).1,(hW.cell (p:=⟨b,j*2+1,none⟩) hb).trans (hc j hj).2⟩
   · rintro e W' ⟨he,⟨ys,rfl,xs,hx,hj⟩ | ⟨pre,_,xs,hx,hj⟩⟩
     · exact ⟨he,.inl ⟨xs,hx,hj⟩⟩
     · exact ⟨he,.inr ⟨xs,trivial,hj⟩⟩
end
section
open Go Go.RowKit Go.Shelf
set_option maxHeartbeats 1000000 in
set_option maxRecDepth 100000 in
theorem cc_used (b:Nat) (w:World) (h0:w.cell? ⟨b,5,none⟩=some (.pointer (some ⟨b,5,none⟩))) :
   Calls Tryz.prog 86 #[.pointer (some ⟨b,5,none⟩)] w fun e w'=>e = .returned (.tuple #[])∧w'=w:=by
 obtain ⟨j,hj,_⟩:∃ j,Tryz.prog.info? 84=some j∧j.size=2:=⟨_,rfl,rfl⟩
 go_enter Tryz.func86,Tryz.ntmps86
 go_wp2
 rw [Lib.run_neq_ptr_same w _ Tryz.underlying82 hj]
 go_wp2
 go_end0
 exact ⟨rfl,rfl⟩
set_option maxHeartbeats 1000000 in
set_option maxRecDepth 100000 in
theorem cc_fresh (b:Nat) (w:World) (h0:w.cell? ⟨b,5,none⟩=some (.pointer none)) (hsh:w.shape? b=some (86,7)) (hfz:w.frozen? ⟨b,5,none⟩=false) :
   Calls Tryz.prog 86 #[.pointer (some ⟨b,5,none⟩)] w fun e w'=>e = .returned (.tuple #[])∧w'=w.setCell ⟨b,5,none⟩ (.pointer (some ⟨b,5,none⟩)):=by
 obtain ⟨j,hj,hjs⟩:∃ j,Tryz.prog.info? 84=some j∧j.size=2:=⟨_,rfl,rfl⟩
 go_enter Tryz.func86,Tryz.ntmps86
 go_wp2
 rw [Lib.run_to_unsafe w ⟨b,5,none⟩ Tryz.underlying82 Tryz.underlying189 hj (by rw [hjs];decide) hsh (show 5 < 7 by decide)];simp only [Result.andThen];rw [Oper.upon_value]
 go_wp2
 rw [run_callFunc_extern Tryz.func143 (by kernel_rfl) (by kernel_rfl) (by kernel_rfl) (e:=Extern.AbiNoEscape.same) (by kernel_rfl)];rw [Lib.run_noEscape];simp only [Result.andThen];rw [Oper.upon_value]
 go_wp2
 rw [Lib.run_from_unsafe w ⟨b,5,none⟩ Tryz.underlying189 Tryz.underlying82 hj hsh (by kernel_rfl)];simp only [Result.andThen];rw [Oper.upon_value]
 go_wp2
 go_end0
 exact ⟨rfl,rfl⟩
end
end Go.Proofs.YtnjobkbblhaliaaGreatDoor
section
namespace Go.Proofs.YtnjobkbblhaliaaGreatDoor
open Go Go.RowKit Go.Shelf
set_option maxHeartbeats 1000000 in
theorem sb_str (b g cap:Nat) (cur:Array Value) (l:List UInt8) (w:World) (hb:w.cell? ⟨b,6,none⟩=some (.slice (some ⟨g,0,none⟩) l.length cap)) (hg:w.heap[g]? = some (.cells cur 5 (0,0))) (hnc:l.length≤cap) (hcm:l.length≤140737488355328) (hcs:l.length≤cur.size)
   (hc:∀ j x,l[j]? = some x→w.cell? ((⟨g,0,none⟩:Addr).add j)=some (.int .u8 x.toNat)) (h0:l≠[]) :
   Calls Tryz.prog 32 #[.pointer (some ⟨b,5,none⟩)] w fun e w'=>e = .returned (.string ⟨l.toArray⟩)∧w'=w.drew.freeze ⟨g,0,none⟩ l.length:=by
 have hl0:l.length≠0:=by simpa using h0
 have c1:w.drew.cell? ⟨b,6,none⟩=some (.slice (some ⟨g,0,none⟩) l.length cap):=hb;have hSD:(Builtin.unsafeSliceData_ #[74] 128 #[.slice (some ⟨g,0,none⟩) l.length cap]).run Tryz.prog w.drew = .ok (.pointer (some ⟨g,0,none⟩)) w.drew:=
   Lib.run_unsafeSliceData_row _ _ _ _ _ _ (by omega)
 have hUS:(Builtin.unsafeString_ #[128,3] 9 #[.pointer (some ⟨g,0,none⟩),.int .i64 l.length]).run Tryz.prog w.drew = .ok (.string ⟨l.toArray⟩) (w.drew.freeze ⟨g,0,none⟩ l.length):=
   Lib.run_unsafeString_row w.drew 128 3 9 5 Tryz.underlying128 (by kernel_rfl) g cur.size (by have hg':w.drew.heap[g]? = some (.cells cur 5 (0,0)):=hg;simp [World.shape?,hg']) l h0 hcs (by omega) hc
 have mixed:Tryz.prog.follows Departure.mixedOrders=true:=by kernel_rfl
 go_enter Tryz.func32,Tryz.ntmps32
 go_wp2
 go_region_o
 all_goals (go_wp2;go_ret;exact ⟨rfl,rfl⟩)
end Go.Proofs.YtnjobkbblhaliaaGreatDoor
namespace Go.W
open Go
section
variable {P:Program} {w:World} {ρ:Env} {K:Value→World→Prop} {d:Option Nat} {ty:TypeId} {pos:String} {af:Array Edge}
theorem e_aps {t u e:TypeId} {i:TypeInfo} {sl x:Operand} {v:Value} {xs:List Value} {n:Nat} {fp:Option Nat} {s:ByteArray} (hs:(toO sl).ev ρ=some v) (ho:OwnS w e 1 v xs n fp) (hx:(toO x).ev ρ=some (.string s))
   (ht:P.underlying t=some (.slice e)) (hu:P.underlying u=some .string) (hi:P.info? e=some i) (hz:i.zero=some (.int .u8 0)) (hsz:i.size=1) (hby:i.bytes=1) (hb:n+s.size≤140737488355328)
   (hk:∀ v' w' fp',OwnS w' e 1 v' (xs++Lib.strCells s) (n+s.size) fp'→Mod (fun b=>fp=some b) w w'→(∀ b,fp'=some b→fp=some b∨b=w.heap.size∧b < w'.heap.size)→K v' w') :
   E.wp P w ρ K (.raw ⟨d,.call { callee:=.builtin .append,args:=#[sl,x],argTypes:=#[t,u]},ty,pos,af,none⟩):=by
 obtain ⟨v',w',hr,hK⟩:∃ v' w',(Builtin.append_ #[t,u] ty #[v,.string s]).run P w = .ok v' w'∧K v' w':=by
   obtain ⟨hlen,hv⟩:=ho;have hxl:xs.length=n:=by simpa using hlen
   have hlen2:(xs++Lib.strCells s).length=(n+s.size)*1:=by rw [List.length_append,hxl,Lib.strCells_length,Nat.mul_one]
   have grown:∀ nc,n+s.size≤nc→K (.slice (some ⟨w.heap.size,0,none⟩) (n+s.size) nc) (w.drew.alloc (.cells (xs.toArray++(Lib.strCells s).toArray++Builtin.zeroCells (Value.int .u8 0).cells (nc - (n+s.size))) e)):=by
     intro nc hle;refine hk _ _ (some w.heap.size) ⟨hlen2,.inr ⟨w.heap.size,nc,(Builtin.zeroCells (Value.int .u8 0).cells (nc - (n+s.size))).toList,rfl,rfl,?_,?_,hle⟩⟩ (mod_alloc _ w.drew _).of_drew ?_
     · rw [show w.heap.size=w.drew.heap.size from rfl,heap_alloc_new w.drew]
       congr 2
       apply Array.ext';simp
     · have hz1:(Value.int IntKind.u8 0).cells.size=1:=rfl;rw [List.length_append,hlen2,Array.length_toList,size_zeroCells',hz1];omega
     · intro b hb;cases hb;exact .inr ⟨rfl,by simp⟩
   rcases hv with ⟨rfl,rfl,rfl⟩ | ⟨b,cap,sp',rfl,rfl,hrow,hcap,hle⟩
   · have hx0:xs=[]:=List.eq_nil_of_length_eq_zero hxl;subst hx0;by_cases hm:s.size=0
     · have hn:Lib.strCells s=[]:=List.eq_nil_of_length_eq_zero (by rw [Lib.strCells_length];exact hm);have hf:=Lib.run_firstCells_string (P:=P) w 1 s;rw [hm] at hf;refine ⟨.slice none 0 0,w,?_,hk _ _ none (by rw [hm,hn];exact OwnS.nil w e 1) (Mod.refl _ w) (fun b h=>by cases h)⟩;simp [Builtin.append_,run_underlying ht,run_underlying hu,sizeOf,typeInfo,hi,hsz,Builtin.lenOf,hm,hf]
     · have hr:=run_append_nil_string (P:=P) w t u ty e i (.int .u8 0) ht hu hi hz s (by omega) (by omega) (by rw [hby];omega);have e1:(s.data.map fun b=>Value.int .u8 b.toNat)=(Lib.strCells s).toArray:=by
         apply Array.ext';simp [Lib.strCells]
       rw [e1] at hr;have hgr:=grown (grownCap w s.size 0 e) (by have:=grownCap_ge w s.size 0 e;omega);simp only [Nat.zero_add,List.nil_append,Array.empty_append] at hgr;exact ⟨_,_,hr,hgr⟩
   · have hfl:((xs++sp').toArray:Array Value).toList=xs++sp':=rfl;have hsz2:cap≤(xs++sp').length:=by simpa using hcap
     by_cases hroom:n+s.size≤cap
     · have hr:=Lib.run_append_room_string (P:=P) w t u ty e i ht hu hi hsz b n cap _ hrow s hroom (by rw [List.size_toArray];omega);refine ⟨_,_,hr,hk _ _ (some b) ⟨hlen2,.inr ⟨b,cap,sp'.drop s.size,rfl,rfl,?_,?_,hroom⟩⟩ ⟨by simp,fun k _ hk=>setRow_other w b k _ (fun e=>hk (by simp [e])),rfl,rfl,rfl⟩ (fun b hb=>.inl hb)⟩
       · rw [setRow_heap w b _ _ e _ hrow,hfl]
         congr 2
         rw [List.take_left' hxl,← hxl,List.drop_append,List.drop_of_length_le (by omega),List.nil_append,show xs.length+s.size - xs.length=s.size by omega]
       · rw [List.length_append,hlen2,List.length_drop];have:cap≤xs.length+sp'.length:=by rw [← List.length_append];exact hsz2
         omega
     · have holds:∀ j u,xs[j]? = some u→w.cell? ((⟨b,0,none⟩:Addr).add j)=some u:=fun j u hj=>by
         rw [add_at,cell_of hrow];simp only [Nat.zero_add,List.getElem?_toArray];rw [List.getElem?_append_left (List.getElem?_eq_some_iff.1 hj).1];exact hj
       have hr:=Lib.run_append_grow_string (P:=P) w t u ty e i (.int .u8 0) ht hu hi hz ⟨b,0,none⟩ n cap xs (by rw [hsz];simpa using hxl) holds s (by omega) (by omega) (by rw [hby];exact growslice_fits (by omega) (by omega));exact ⟨_,_,hr,grown _ (grownCap_ge w (n+s.size) cap e)⟩
 refine opWp_of_run fun a ha=>⟨v',w',?_,hK⟩
 simp only [execOp,resolve,invoke,builtin,Sem.run_bind,Sem.run_pure,Result.andThen_ok,List.map_toArray,List.map_cons,List.map_nil,ha sl _ hs,ha x _ hx,hr]
end
end Go.W
end
namespace Go.Proofs.YtnjobkbblhaliaaGreatDoor
section
open Go Go.W
def irLa:IR:=.reg false [.e (some 5) (.al 122 (.agg #[(.int .i64 0),(.string ⟨#[]⟩)])),.e none (.st 2 (.t 5) (.t 9))] [2,5]
def irLb:IR:=.block 1 (.dr (.r 0 none (some 10) (.l1 (.t 2)) <|
 .r 1 none (some 11) (.l1 (.t 2)) <|
 .r 2 none (some 12) (.nn (.t 11)) <|
 .r 3 none (some 13) (.fa 4 (.t 12)) <|
 .r 4 none (some 14) (.l1 (.t 13)) <|
 .r 5 none (some 15) (.ln 2 (.t 5)) <|
 .e 6 none (some 16) (.bs 122 1 #[(.int .i64 0),(.string ⟨#[]⟩)] [(0,2,(.t 15))]) [0,1,4] <|
 .e 7 none (some 17) (.ap 122 2 24 #[(.int .i64 0),(.string ⟨#[]⟩)] (.t 14) (.t 16)) [0] <|
 .r 8 none (some 18) (.nn (.t 10)) <|
 .r 9 none (some 19) (.fa 4 (.t 18)) <|
 .e 10 none none (.st 1 (.t 19) (.t 17)) [] <|
 .nil) [])
def irL0:IR:=.reg false [.e (some 2) (.bx 79 (.t 0))] [1,2]
def irL1:IR:=.reg false [.e (some 7) (.call 85 [.t 1])] [2,7]
abbrev hL:List (Nat×List Nat×List Nat):=[(0,[1,2],[]),(1,[2,7],[]),(2,[2,5],[]),(3,[],[0,0,2,6,14,0,32,126,255,511,1023])]
theorem fitLater:FitsL Tryz.prog 50 2 hL irL0 irL1 irLa irLb 7 8 9 20:=
 ⟨Tryz.f50,_,_,_,_,_,rfl,rfl,rfl,by decide,rfl,by kernel_rfl,by kernel_rfl,by kernel_rfl,by kernel_rfl,by kernel_rfl,by kernel_rfl,by kernel_rfl,by kernel_rfl,by decide,by decide,by decide⟩
end
section
open Go Go.W
inductive Td where
 | text (s:ByteArray) | val | arg | rest
def Td.slot:Td→Nat
 | .text _=>0
 | _=>1
abbrev Fld:=ByteArray→Option Int
def fldS (l:List Shp):Fld:=fun s=>(l.find? (fun x=>decide (x.name=s))).map Shp.fields
def Fld.of (f:Fld) (s:ByteArray):Int:=(f s).getD 0
structure Ws where
 at':Nat
 opn:Int
 row:List Td
 out:ByteArray
abbrev sNil:ByteArray:=⟨#[78,105,108]⟩
abbrev sCons:ByteArray:=⟨#[67,111,110,115]⟩
abbrev sUnit:ByteArray:=⟨#[85,110,105,116]⟩
abbrev sPair:ByteArray:=⟨#[80,97,105,114]⟩
abbrev sTriple:ByteArray:=⟨#[84,114,105,112,108,101]⟩
def isS (f:Fld) (x:It) (con:ByteArray) (n:Int):Bool:=decide (x.con=con)&&decide (f.of con=n)
def Ws.later (s:Ws) (l:List Td):Ws:={ s with row:=s.row++l.reverse}
def Ws.say (s:Ws) (t:ByteArray):Ws:={ s with out:=s.out++t}
def Ws.on (s:Ws):Ws:={ s with at':=s.at'+1}
def tupS:Nat→List Td
 | 0=>[]
 | n+1=>.text ⟨#[44,32]⟩ :: .val::tupS n
def argS:Nat→List Td
 | 0=>[]
 | n+1=>.text ⟨#[32]⟩ :: .arg::argS n
def Ws.tuple (s:Ws) (n:Int):Ws:=(s.say ⟨#[40]⟩).later (.val::tupS (n - 1).toNat++[.text ⟨#[41]⟩])
def Ws.con (f:Fld) (s:Ws) (c:ByteArray) (a:Bool):Ws:=
 if (a&&decide (f.of c > 0))=true then (s.say (⟨#[40]⟩++c)).later (argS (f.of c).toNat++[.text ⟨#[41]⟩])
 else (s.say c).later (argS (f.of c).toNat)
section
variable (itoa:Int→ByteArray) (f:Fld) (items:List It)
def numS (a:Bool) (n:Int):ByteArray:=if (a&&decide (n < 0))=true then ⟨#[40]⟩++itoa n++⟨#[41]⟩ else itoa n
def Ws.value (s:Ws) (a:Bool):Ws:=match items[s.at']? with
 | none=>{ s.say ⟨#[95]⟩ with opn:=s.opn+1}
 | some x=>
   if x.con=⟨#[]⟩ then (s.say (numS itoa a x.num)).on
   else if isS f x sNil 0=true then (s.say ⟨#[91,93]⟩).on
   else if isS f x sCons 2=true then ((s.say ⟨#[91]⟩).later [.val,.rest]).on
   else if isS f x sUnit 0=true then (s.say ⟨#[40,41]⟩).on
   else if (isS f x sPair 2||isS f x sTriple 3)=true then (s.tuple (f.of x.con)).on
   else (s.con f x.con a).on
def Ws.goRest (s:Ws):Ws:=match items[s.at']? with
 | none=>(s.say ⟨#[32,124,32]⟩).later [.val,.text ⟨#[93]⟩]
 | some x=>
   if isS f x sCons 2=true then (s.on.say ⟨#[44,32]⟩).later [.val,.rest]
   else if isS f x sNil 0=true then s.on.say ⟨#[93]⟩
   else (s.say ⟨#[32,124,32]⟩).later [.val,.text ⟨#[93]⟩]
def Ws.step (s:Ws):Ws:=match s.row.getLast? with
 | none=>s
 | some (.text t)=>{ s with row:=s.row.dropLast}.say t
 | some .rest=>Ws.goRest f items { s with row:=s.row.dropLast}
 | some .val=>Ws.value itoa f items { s with row:=s.row.dropLast} false
 | some .arg=>Ws.value itoa f items { s with row:=s.row.dropLast} true
def Ws.steps:Nat→Ws→Ws
 | 0,s=>s
 | n+1,s=>Ws.steps n (s.step itoa f items)
def knownS:Bool:=items.all fun x=>if x.con=⟨#[]⟩ then decide (-4611686018427387904≤x.num)&&decide (x.num≤4611686018427387903)
 else decide (x.num=0)&&(match f x.con with
   | none=>false
   | some n=>decide (0≤n)&&decide (n≤8))
def ws0:Ws:=⟨0,0,[.val],⟨#[]⟩⟩
end
def Td.weight:Td→Nat
 | .text _=>1
 | .rest=>4
 | _=>2
def Ws.mu (items:List It) (s:Ws):Nat:=64*(items.length - s.at')+(s.row.map Td.weight).sum
def arS (f:Fld) (x:It):Nat:=if x.con=⟨#[]⟩ then 0 else (f.of x.con).toNat
def waitS (f:Fld) (l:List It):Int:=1+(l.map fun x=>(arS f x:Int) - 1).sum
end
section
open Go Go.W
section
variable {itoa:Int→ByteArray} {f:Fld} {items:List It}
theorem waitS_succ {k:Nat} {x:It} (h:items[k]? = some x):waitS f (items.take (k+1))=waitS f (items.take k)+arS f x - 1:=by
 obtain ⟨hl,rfl⟩:=List.getElem?_eq_some_iff.1 h;unfold waitS;rw [List.take_succ_eq_append_getElem hl,List.map_append,List.sum_append];simp;omega
theorem known_at (h:knownS f items=true) {k:Nat} {x:It} (hx:items[k]? = some x):x.con=⟨#[]⟩∨(0≤f.of x.con∧f.of x.con≤8):=by
 unfold knownS at h;have:=List.all_eq_true.1 h x (List.mem_of_getElem? hx)
 split at this
 · left;assumption
 · right
   unfold Fld.of;cases hf:f x.con with
   | none=>rw [hf] at this;simp at this
   | some n=>rw [hf] at this;simp at this ⊢;omega
def slotsL (l:List Td):Nat:=(l.map Td.slot).sum
def weightL (l:List Td):Nat:=(l.map Td.weight).sum
theorem slotsL_app (a b:List Td):slotsL (a++b)=slotsL a+slotsL b:=by unfold slotsL;rw [List.map_append,List.sum_append]
theorem weightL_app (a b:List Td):weightL (a++b)=weightL a+weightL b:=by unfold weightL;rw [List.map_append,List.sum_append]
theorem slotsL_cons (t:Td) (l:List Td):slotsL (t::l)=t.slot+slotsL l:=by unfold slotsL;rw [List.map_cons,List.sum_cons]
theorem weightL_cons (t:Td) (l:List Td):weightL (t::l)=t.weight+weightL l:=by unfold weightL;rw [List.map_cons,List.sum_cons]
theorem slotsL_rev (a:List Td):slotsL a.reverse=slotsL a:=by
 induction a with
 | nil=>rfl
 | cons x a ih=>rw [List.reverse_cons,slotsL_app,ih];unfold slotsL;simp;omega
theorem weightL_rev (a:List Td):weightL a.reverse=weightL a:=by
 induction a with
 | nil=>rfl
 | cons x a ih=>rw [List.reverse_cons,weightL_app,ih];unfold weightL;simp;omega
theorem tup_slots:∀ n,slotsL (tupS n)=n
 | 0=>rfl
 | n+1=>by
   have:=tup_slots n;unfold slotsL at this ⊢;simp [tupS,Td.slot,this];omega
theorem arg_slots:∀ n,slotsL (argS n)=n
 | 0=>rfl
 | n+1=>by
   have:=arg_slots n;unfold slotsL at this ⊢;simp [argS,Td.slot,this];omega
theorem tup_weight:∀ n,weightL (tupS n)=3*n
 | 0=>rfl
 | n+1=>by
   have:=tup_weight n;unfold weightL at this ⊢;simp [tupS,Td.weight,this];omega
theorem arg_weight:∀ n,weightL (argS n)=3*n
 | 0=>rfl
 | n+1=>by
   have:=arg_weight n;unfold weightL at this ⊢;simp [argS,Td.weight,this];omega
structure Took (f:Fld) (x:It) (s s':Ws):Prop where
 at':s'.at'=s.at'+1
 opn:s'.opn=s.opn
 slots:slotsL s'.row=slotsL s.row+arS f x
 weight:weightL s'.row≤weightL s.row+40
 out:s.out.size < s'.out.size
theorem app_size (a b:ByteArray):(a++b).size=a.size+b.size:=ByteArray.size_append
theorem isS_eq {x:It} {c:ByteArray} {n:Int} (h:isS f x c n=true):x.con=c∧f.of c=n:=by
 unfold isS at h;simpa using h
theorem value_took (hi:∀ n,0 < (itoa n).size) (hk:knownS f items=true) {s:Ws} {a:Bool} {x:It} (hx:items[s.at']? = some x):Took f x s (s.value itoa f items a):=by
 unfold Ws.value;rw [hx];simp only;have hz:∀ (t:ByteArray),0 < t.size→arS f x=0→Took f x s (s.say t).on:=fun t ht h0=>⟨rfl,rfl,by rw [h0];rfl,by show weightL s.row≤_;omega,by show s.out.size < (s.out++t).size;rw [app_size];omega⟩
 by_cases h1:x.con=⟨#[]⟩
 · rw [if_pos h1];refine hz _ ?_ (by unfold arS;rw [if_pos h1]);unfold numS
   split
   · rw [app_size,app_size];show 0 < 1+_+1;omega
   · exact hi _
 rw [if_neg h1];have ha:arS f x=(f.of x.con).toNat:=by unfold arS;rw [if_neg h1]
 obtain ⟨k1,k2⟩:0≤f.of x.con∧f.of x.con≤8:=(known_at hk hx).resolve_left h1;by_cases h2:isS f x sNil 0=true
 · rw [if_pos h2];obtain ⟨e1,e2⟩:=isS_eq h2;exact hz _ (by decide) (by rw [ha,e1,e2];rfl)
 rw [if_neg h2];by_cases h3:isS f x sCons 2=true
 · rw [if_pos h3];obtain ⟨e1,e2⟩:=isS_eq h3;refine ⟨rfl,rfl,?_,?_,by show s.out.size < (s.out++_).size;rw [app_size];exact Nat.lt_add_of_pos_right (by decide)⟩
   · show slotsL (s.row++_)=_;rw [slotsL_app,ha,e1,e2];rfl
   · show weightL (s.row++_)≤_;rw [weightL_app];show _+6≤_;omega
 rw [if_neg h3];by_cases h4:isS f x sUnit 0=true
 · rw [if_pos h4];obtain ⟨e1,e2⟩:=isS_eq h4;exact hz _ (by decide) (by rw [ha,e1,e2];rfl)
 rw [if_neg h4];by_cases h5:(isS f x sPair 2||isS f x sTriple 3)=true
 · rw [if_pos h5];have hn:f.of x.con=2∨f.of x.con=3:=by
     rcases Bool.or_eq_true_iff.1 h5 with h | h
     · obtain ⟨e1,e2⟩:=isS_eq h;rw [e1,e2];exact .inl rfl
     · obtain ⟨e1,e2⟩:=isS_eq h;rw [e1,e2];exact .inr rfl
   refine ⟨rfl,rfl,?_,?_,by show s.out.size < (s.out++_).size;rw [app_size];exact Nat.lt_add_of_pos_right (by decide)⟩
   · show slotsL (s.row++_)=_;rw [slotsL_app,slotsL_rev,slotsL_app,ha];have e1:slotsL (.val::tupS (f.of x.con - 1).toNat)=1+(f.of x.con - 1).toNat:=by
       rw [slotsL_cons,tup_slots];rfl
     rw [e1];show _+(_+0)=_;omega
   · show weightL (s.row++_)≤_;rw [weightL_app,weightL_rev,weightL_app];have e1:weightL (.val::tupS (f.of x.con - 1).toNat)=2+3*(f.of x.con - 1).toNat:=by
       rw [weightL_cons,tup_weight];rfl
     rw [e1];show _+(_+1)≤_;omega
 rw [if_neg h5];have hcs:0 < x.con.size:=by
   apply Classical.byContradiction;intro h;refine h1 (ByteArray.ext ?_);have:x.con.data.size=0:=by
     have e:x.con.size=x.con.data.size:=rfl;omega
   exact Array.eq_empty_of_size_eq_zero this
 unfold Ws.con
 split
 · refine ⟨rfl,rfl,?_,?_,by show s.out.size < (s.out++_).size;rw [app_size,app_size];omega⟩
   · show slotsL (s.row++_)=_;rw [slotsL_app,slotsL_rev,slotsL_app,arg_slots,ha];rfl
   · show weightL (s.row++_)≤_;rw [weightL_app,weightL_rev,weightL_app,arg_weight];show _+(_+1)≤_;omega
 · refine ⟨rfl,rfl,?_,?_,by show s.out.size < (s.out++_).size;rw [app_size];omega⟩
   · show slotsL (s.row++_)=_;rw [slotsL_app,slotsL_rev,arg_slots,ha]
   · show weightL (s.row++_)≤_;rw [weightL_app,weightL_rev,arg_weight];omega
end
end
section
open Go Go.W
section
variable {itoa:Int→ByteArray} {f:Fld} {items:List It}
structure WsI (f:Fld) (items:List It) (s:Ws):Prop where
 le:s.at'≤items.length
 sum:(slotsL s.row:Int)+s.opn=waitS f (items.take s.at')
 pos:∀ j,j < s.at'→1≤waitS f (items.take j)
 opn:0≤s.opn
 no:s.at' < items.length→s.opn=0
 out:1≤s.out.size∨∃ l,s.row=l++[.val]
theorem ws0_inv:WsI f items ws0:=⟨Nat.zero_le _,rfl,fun j h=>absurd h (Nat.not_lt_zero j),Int.le_refl _,fun _=>rfl,.inr ⟨[],rfl⟩⟩
theorem row_snoc {l:List Td} {t:Td} (h:l.getLast? = some t):l=l.dropLast++[t]:=by
 obtain ⟨k,rfl⟩:=List.getLast?_eq_some_iff.1 h;rw [List.dropLast_concat]
theorem step_inv (hi:∀ n,0 < (itoa n).size) (hk:knownS f items=true) {s:Ws} (h:WsI f items s) (hr:s.row≠[]):WsI f items (s.step itoa f items)∧(s.step itoa f items).mu items < s.mu items:=by
 unfold Ws.step;cases hl:s.row.getLast? with
 | none=>exact absurd (List.getLast?_eq_none_iff.1 hl) hr
 | some t=>
 have hrow:=row_snoc hl;have hsl:slotsL s.row=slotsL s.row.dropLast+t.slot:=by
   conv=>lhs;rw [hrow,slotsL_app]
   rw [slotsL_cons];rfl
 have hwt:weightL s.row=weightL s.row.dropLast+t.weight:=by
   conv=>lhs;rw [hrow,weightL_app]
   rw [weightL_cons];rfl
 have took:∀ {x:It} {s':Ws},items[s.at']? = some x→t.slot=1→Took f x { s with row:=s.row.dropLast} s'→WsI f items s'∧s'.mu items < s.mu items:=fun {x s'} hx ht k=>by
   have hlt:s.at' < items.length:=(List.getElem?_eq_some_iff.1 hx).1;have k1:s'.at'=s.at'+1:=k.at';have k2:s'.opn=s.opn:=k.opn;have k3:slotsL s'.row=slotsL s.row.dropLast+arS f x:=k.slots;have k4:weightL s'.row≤weightL s.row.dropLast+40:=k.weight;have k5:s.out.size < s'.out.size:=k.out;have hs:=h.sum;have h0:=h.no hlt;refine ⟨⟨by omega,?_,fun j hj=>?_,by rw [k2];exact h.opn,fun _=>by omega,.inl (by omega)⟩,?_⟩
   · rw [k1,waitS_succ hx];omega
   · rcases Nat.lt_or_ge j s.at' with hh | hh
     · exact h.pos j hh
     · obtain rfl:j=s.at':=by omega
       omega
   · show 64*(items.length - s'.at')+weightL s'.row < 64*(items.length - s.at')+weightL s.row;omega
 have ended:∀ (a:Bool),items[s.at']? = none→t.slot=1→WsI f items (Ws.value itoa f items { s with row:=s.row.dropLast} a)∧(Ws.value itoa f items { s with row:=s.row.dropLast} a).mu items < s.mu items:=fun a hx ht=>by
   have hge:items.length≤s.at':=List.getElem?_eq_none_iff.1 hx;have hs:=h.sum;have ho:=h.opn;have hle:=h.le;have ht1:1≤t.weight:=by cases t<;>simp [Td.weight]
   unfold Ws.value;simp only [hx];refine ⟨⟨hle,?_,h.pos,by show 0≤s.opn+1;omega,fun hh=>by have:s.at' < items.length:=hh;omega,.inl ?_⟩,?_⟩
   · show (slotsL s.row.dropLast:Int)+(s.opn+1)=waitS f (items.take s.at');omega
   · show 1≤(s.out++_).size;rw [app_size];exact Nat.le_add_left _ _
   · show 64*(items.length - s.at')+weightL s.row.dropLast < 64*(items.length - s.at')+weightL s.row;omega
 have pushed:t = .rest→WsI f items ((Ws.say { s with row:=s.row.dropLast} ⟨#[32,124,32]⟩).later [.val,.text ⟨#[93]⟩])∧((Ws.say { s with row:=s.row.dropLast} ⟨#[32,124,32]⟩).later [.val,.text ⟨#[93]⟩]).mu items < s.mu items:=fun e=>by
   subst e;have hs:=h.sum;refine ⟨⟨h.le,?_,h.pos,h.opn,h.no,.inl ?_⟩,?_⟩
   · show (slotsL (s.row.dropLast++_):Int)+s.opn=_;rw [slotsL_app];show ((slotsL s.row.dropLast+1:Nat):Int)+s.opn=_;rw [show (slotsL s.row.dropLast+1:Nat)=slotsL s.row from hsl.symm];exact hs
   · show 1≤(s.out++_).size;rw [app_size];exact Nat.le_trans (by decide) (Nat.le_add_left _ _)
   · show 64*(items.length - s.at')+weightL (s.row.dropLast++_) < 64*(items.length - s.at')+weightL s.row;rw [weightL_app];show _+(_+3) < _;have:(Td.rest).weight=4:=rfl;omega
 cases t with
 | text t=>
   simp only;refine ⟨⟨h.le,?_,h.pos,h.opn,h.no,?_⟩,?_⟩
   · show (slotsL s.row.dropLast:Int)+s.opn=_;have:=h.sum;rw [hsl] at this;exact this
   · rcases h.out with h | ⟨l,e⟩
     · left
       show 1≤(s.out++t).size;rw [app_size];omega
     · rw [e,List.getLast?_concat] at hl;cases hl
   · show 64*(items.length - s.at')+weightL s.row.dropLast < 64*(items.length - s.at')+weightL s.row;have:(Td.text t).weight=1:=rfl;omega
 | val=>
   simp only;cases hx:items[s.at']? with
   | none=>exact ended false hx rfl
   | some x=>exact took hx rfl (value_took hi hk (s:={ s with row:=s.row.dropLast}) hx)
 | arg=>
   simp only;cases hx:items[s.at']? with
   | none=>exact ended true hx rfl
   | some x=>exact took hx rfl (value_took hi hk (s:={ s with row:=s.row.dropLast}) hx)
 | rest=>
   simp only;unfold Ws.goRest;cases hx:items[s.at']? with
   | none=>
     simp only [hx];exact pushed rfl
   | some x=>
     simp only [hx];have hcon:∀ {c:ByteArray} {n:Int},isS f x c n=true→0 < c.size→x.con≠⟨#[]⟩∧arS f x=n.toNat:=fun {c n} hh hc=>by
       obtain ⟨e1,e2⟩:=isS_eq hh;have hne:x.con≠⟨#[]⟩:=fun e=>by rw [e] at e1;rw [← e1] at hc;exact absurd hc (by decide)
       exact ⟨hne,by unfold arS;rw [if_neg hne,e1,e2]⟩
     by_cases h3:isS f x sCons 2=true
     · rw [if_pos h3];obtain ⟨_,ha⟩:=hcon h3 (by decide);refine took hx rfl ⟨rfl,rfl,?_,?_,by show s.out.size < (s.out++_).size;rw [app_size];exact Nat.lt_add_of_pos_right (by decide)⟩
       · show slotsL (s.row.dropLast++_)=_;rw [slotsL_app,ha];rfl
       · show weightL (s.row.dropLast++_)≤_;rw [weightL_app];show _+6≤_;exact Nat.add_le_add_left (by decide) _
     rw [if_neg h3];by_cases h2:isS f x sNil 0=true
     · rw [if_pos h2];obtain ⟨_,ha⟩:=hcon h2 (by decide);exact took hx rfl ⟨rfl,rfl,by rw [ha];rfl,by show weightL s.row.dropLast≤weightL s.row.dropLast+40;omega,by show s.out.size < (s.out++_).size;rw [app_size];exact Nat.lt_add_of_pos_right (by decide)⟩
     rw [if_neg h2];exact pushed rfl
theorem wst_nil {s:Ws} (h:s.row=[]):∀ n,s.steps itoa f items n=s
 | 0=>rfl
 | n+1=>by
   rw [Ws.steps,show s.step itoa f items=s by unfold Ws.step;rw [h];rfl];exact wst_nil h n
theorem wst_end (hi:∀ n,0 < (itoa n).size) (hk:knownS f items=true):∀ (n:Nat) {s:Ws},WsI f items s→s.mu items≤n→WsI f items (s.steps itoa f items n)∧(s.steps itoa f items n).row=[]
 | 0,s,h,hn=>by
   refine ⟨h,?_⟩;cases hr:s.row with
   | nil=>exact hr
   | cons t l=>
     have:=(step_inv hi hk h (by rw [hr];simp)).2;omega
 | n+1,s,h,hn=>by
   by_cases hr:s.row=[]
   · rw [wst_nil hr];exact ⟨h,hr⟩
   · obtain ⟨h1,h2⟩:=step_inv hi hk h hr;exact wst_end hi hk n h1 (by omega)
def finS (itoa:Int→ByteArray) (f:Fld) (items:List It):Ws:=ws0.steps itoa f items (64*items.length+2)
def showS (itoa:Int→ByteArray) (shapes:List Shp) (items:List It):ByteArray×Int:=
 if knownS (fldS shapes) items=true then
   (if (finS itoa (fldS shapes) items).at' < items.length then (⟨#[]⟩,-1) else ((finS itoa (fldS shapes) items).out,(finS itoa (fldS shapes) items).opn))
 else (⟨#[]⟩,-1)
theorem fin_inv (hi:∀ n,0 < (itoa n).size) (hk:knownS f items=true):WsI f items (finS itoa f items)∧(finS itoa f items).row=[]:=
 wst_end hi hk _ ws0_inv (by show 64*(items.length - 0)+2≤_;omega)
theorem fin_at (hi:∀ n,0 < (itoa n).size) (hk:knownS f items=true):(finS itoa f items).opn=waitS f (items.take (finS itoa f items).at'):=by
 obtain ⟨h1,h2⟩:=fin_inv hi hk;have:=h1.sum;rw [h2] at this;have e:slotsL []=0:=rfl;rw [e] at this;omega
theorem take_sum (f:Fld) (items:List It) (k:Nat) (hk:k≤items.length):waitS f (items.take k)≤waitS f items+(items.length - k:Nat):=by
 have key:∀ (l:List It),-(l.length:Int)≤(l.map fun x=>(arS f x:Int) - 1).sum:=by
   intro l
   induction l with
   | nil=>simp
   | cons x l ih=>rw [List.map_cons,List.sum_cons,List.length_cons];omega
 have h1:=key (items.drop k);have h2:waitS f items=waitS f (items.take k)+((items.drop k).map fun x=>(arS f x:Int) - 1).sum:=by
   unfold waitS
   conv=>lhs;rw [← List.take_append_drop k items,List.map_append,List.sum_append]
   omega
 rw [List.length_drop] at h1;omega
theorem open_law {shapes:List Shp} (hi:∀ n,0 < (itoa n).size) {items:List It} : -1≤(showS itoa shapes items).2∧(0≤(showS itoa shapes items).2→∀ k,k < items.length→1≤(showS itoa shapes (items.take k)).2∧(showS itoa shapes (items.take k)).2≤(showS itoa shapes items).2+(items.length - k:Nat)∧0 < (showS itoa shapes (items.take k)).1.size):=by
 by_cases hk:knownS (fldS shapes) items=true
 · obtain ⟨h1,h2⟩:=fin_inv hi hk;have h3:=fin_at hi hk;unfold showS;rw [if_pos hk];by_cases hlt:(finS itoa (fldS shapes) items).at' < items.length
   · rw [if_pos hlt];exact ⟨Int.le_refl _,fun h=>absurd h (by decide)⟩
   · rw [if_neg hlt];refine ⟨by have:=h1.opn;show -1≤(finS itoa (fldS shapes) items).opn;omega,fun _ k hkl=>?_⟩;have hk':knownS (fldS shapes) (items.take k)=true:=by
       unfold knownS at hk ⊢;rw [List.all_eq_true] at hk ⊢;exact fun x hx=>hk x (List.mem_of_mem_take hx)
     obtain ⟨g1,g2⟩:=fin_inv hi hk';have g3:=fin_at hi hk';have hle:(items.take k).length=k:=by rw [List.length_take];omega
     have hpos:∀ j,j≤k→1≤waitS (fldS shapes) (items.take j):=fun j hj=>h1.pos j (by have:=h1.le;omega)
     have hat:(finS itoa (fldS shapes) (items.take k)).at'=k:=by
       have h5:=g1.le;rw [hle] at h5;rcases Nat.lt_or_ge (finS itoa (fldS shapes) (items.take k)).at' k with h6 | h6
       · exfalso;have h7:=g1.no (by rw [hle];exact h6);rw [h7,List.take_take,Nat.min_eq_left h5] at g3;have:=hpos _ h5;omega
       · omega
     rw [hat,List.take_take,Nat.min_self] at g3;rw [if_pos hk',if_neg (by rw [hat,hle];omega)];refine ⟨by show 1≤(finS itoa (fldS shapes) (items.take k)).opn;rw [g3];exact hpos k (Nat.le_refl _),?_,?_⟩
     · show (finS itoa (fldS shapes) (items.take k)).opn≤(finS itoa (fldS shapes) items).opn+_;have e:(finS itoa (fldS shapes) items).at'=items.length:=by have:=h1.le;omega
       rw [e,List.take_length] at h3;rw [g3,h3];exact take_sum _ _ _ (by omega)
     · rcases g1.out with h | ⟨l,e⟩
       · exact h
       · rw [g2] at e;simp at e
 · unfold showS;rw [if_neg hk];exact ⟨Int.le_refl _,fun h=>absurd h (by decide)⟩
end
end
section
open Go Go.W Go.RowKit
def tdRow:Td→List Value
 | .text s=>[I 0,.string s]
 | .val=>[I 1,.string ⟨#[]⟩]
 | .arg=>[I 2,.string ⟨#[]⟩]
 | .rest=>[I 3,.string ⟨#[]⟩]
theorem tdRow_len (t:Td):(tdRow t).length=2:=by cases t<;>rfl
theorem tdRow_one (l:List Td):∀ u∈l.flatMap tdRow,u.oneCell'=true:=by
 intro u hu;obtain ⟨t,_,ht⟩:=List.mem_flatMap.1 hu;cases t<;>simp only [tdRow,List.mem_cons,List.not_mem_nil,or_false] at ht<;>rcases ht with rfl | rfl<;>rfl
def wrCells (vI:Value) (k:Int) (mp:Nat) (opn:Int) (vR pv vB:Value):List Value:=[vI,I k,.map (some mp),I opn,vR,pv,vB]
structure WrF (lo:Nat) (w:World) (p:Nat) (vI:Value) (mp:Nat) (s:Ws) (vR pv vB:Value) (fR fB:Option Nat):Prop where
 cells:w.heap[p]? = some (.cells (wrCells vI s.at' mp s.opn vR pv vB).toArray 86 (0,0))
 pv:pv = .pointer none∨pv = .pointer (some ⟨p,5,none⟩)
 row:OwnS w 122 2 vR (s.row.flatMap tdRow) s.row.length fR
 buf:OwnS w 5 1 vB (Lib.strCells s.out) s.out.size fB
 loP:lo≤p
 mpP:mp≠p
 mpL:mp < w.heap.size
 loL:lo≤w.heap.size
 fr:∀ b,fR=some b→lo≤b∧b≠p∧b≠mp
 fb:∀ b,fB=some b→lo≤b∧b≠p∧b≠mp∧fR≠some b
def WrAt (lo:Nat) (w:World) (p:Nat) (vI:Value) (mp:Nat) (s:Ws):Prop:=∃ vR pv vB fR fB,WrF lo w p vI mp s vR pv vB fR fB
def Wt (lo mp:Nat) (b:Nat):Prop:=lo≤b∧b≠mp
abbrev sbP (p:Nat):Value:=.pointer (some ⟨p,5,none⟩)
theorem mod_setCell (w:World) (a:Addr) (v:Value):Mod (· = a.block) w (w.setCell a v):=
 ⟨by simp [World.setCell],fun k _ hk=>by simp [World.setCell,Array.getElem?_modify,Ne.symm hk],rfl,rfl,rfl⟩
theorem strCells_app (a b:ByteArray):Lib.strCells (a++b)=Lib.strCells a++Lib.strCells b:=by
 simp [Lib.strCells]
theorem lt_of_heap {w:World} {b:Nat} {o:Obj} (h:w.heap[b]? = some o):b < w.heap.size:=(Array.getElem?_eq_some_iff.1 h).1
section
variable {lo p mp:Nat} {w:World} {vI:Value} {s:Ws} {vR pv vB:Value} {fR fB:Option Nat}
theorem WrF.later {w':World} (h:WrF lo w p vI mp s vR pv vB fR fB) (hm:Mod (fun b=>lo≤b∧b≠mp∧b≠p∧fR≠some b∧fB≠some b) w w'):WrF lo w' p vI mp s vR pv vB fR fB:=
 ⟨hm.at h.cells (fun hh=>hh.2.2.1 rfl),h.pv,h.row.mod hm (fun b hb hh=>hh.2.2.2.1 hb),h.buf.mod hm (fun b hb hh=>hh.2.2.2.2 hb),h.loP,h.mpP,by have:=h.mpL;have:=hm.size;omega,by have:=h.loL;have:=hm.size;omega,h.fr,h.fb⟩
theorem f_cc (h:WrF lo w p vI mp s vR pv vB fR fB):CallsR Tryz.prog 86 [sbP p] w fun r w'=>WrF lo w' p vI mp s vR (sbP p) vB fR fB∧Mod (· = p) w w':=by
 rcases h.pv with rfl | rfl
 · refine Calls.mono (cc_fresh p w ((cell_of h.cells 5).trans rfl) (by simp [World.shape?,h.cells,wrCells]) (by simp [World.frozen?,h.cells])) ?_;rintro e w' ⟨rfl,rfl⟩;have hm:Mod (· = p) w (w.setCell ⟨p,5,none⟩ (.pointer (some ⟨p,5,none⟩))):=mod_setCell w ⟨p,5,none⟩ _;refine ⟨_,rfl,⟨?_,.inr rfl,h.row.mod hm (fun b hb hh=>(h.fr b hb).2.1 hh),h.buf.mod hm (fun b hb hh=>(h.fb b hb).2.1 hh),h.loP,h.mpP,by have:=h.mpL;have:=hm.size;omega,by have:=h.loL;have:=hm.size;omega,h.fr,h.fb⟩,hm⟩;have:=h.cells;simp [World.setCell,Array.getElem?_modify,this,wrCells]
 · refine Calls.mono (cc_used p w ((cell_of h.cells 5).trans rfl)) ?_;rintro e w' ⟨rfl,rfl⟩;exact ⟨_,rfl,h,Mod.refl _ _⟩
theorem f_wsF {t:ByteArray} (h:WrF lo w p vI mp s vR pv vB fR fB) (hsz:s.out.size+t.size≤140737488355328):CallsR Tryz.prog 51 [sbP p,.string t] w fun r w'=>(∃ vB' fB',WrF lo w' p vI mp (s.say t) vR (sbP p) vB' fR fB')∧Mod (fun b=>b=p∨fB=some b) w w':=by
 refine fit51.calls rfl ?_;unfold ir51;(try simp only [go_sem,simprocAttr]);refine e_call (by rfl) ?_;refine (f_cc h).mono ?_;rintro r w1 ⟨h1,hm1⟩;have hc1:=h1.cells;(try simp only [go_sem,simprocAttr,cell_of hc1,wrCells]);obtain ⟨i,hi,hz,hs1,hb1⟩:∃ i,Tryz.prog.info? 5=some i∧i.zero=some (.int .u8 0)∧i.size=1∧i.bytes=1:=⟨_,rfl,rfl,rfl,rfl⟩;refine e_aps rfl h1.buf rfl Tryz.underlying74 Tryz.underlying9 hi hz hs1 hb1 hsz ?_;intro v2 w2 fp2 ho2 hm2 hf2;obtain ⟨a2,c2,rfl,_,_⟩:=ho2.val;have hc2:=hm2.at hc1 (fun hh=>(h1.fb p hh).2.1 rfl);refine e_st1 (off:=6) rfl rfl hc2 rfl (by simp [wrCells]) ?_;intro w3 hc3 hm3 hs3;(try simp only [go_sem,simprocAttr]);have hb2:∀ b,fp2=some b→lo≤b∧b≠p∧b≠mp∧fR≠some b:=fun b hb=>by
   rcases hf2 b hb with h' | ⟨h',_⟩
   · exact h1.fb b h'
   · have:=h1.loL;have:=h1.mpL;have:=lt_of_heap hc1;exact ⟨by omega,by omega,by omega,fun hh=>by have:=h1.row.lt hh;omega⟩
 have hsz1:=hm2.size;refine ⟨⟨.slice a2 (s.out.size+t.size) c2,fp2,?_,.inr rfl,(h1.row.mod hm2 (fun b hb hh=>(h1.fb b hh).2.2.2 hb)).mod hm3 (fun b hb hh=>(h1.fr b hb).2.1 hh),?_,h1.loP,h1.mpP,by have:=h1.mpL;omega,by have:=h1.loL;omega,h1.fr,hb2⟩,?_⟩
 · exact hc3
 · rw [show (s.say t).out=s.out++t from rfl,app_size,strCells_app];exact ho2.mod hm3 (fun b hb hh=>(hb2 b hb).2.1 hh)
 · exact ((hm1.weak (fun b hb=>.inl hb)).trans (hm2.weak (fun b hb=>.inr hb))).trans (hm3.weak (fun b hb=>.inl hb))
theorem f_ws {t:ByteArray} (h:WrAt lo w p vI mp s) (hsz:s.out.size+t.size≤140737488355328):CallsR Tryz.prog 51 [sbP p,.string t] w fun r w'=>WrAt lo w' p vI mp (s.say t)∧Mod (Wt lo mp) w w':=by
 obtain ⟨vR,pv,vB,fR,fB,h⟩:=h;refine (f_wsF h hsz).mono ?_;rintro r w' ⟨⟨vB',fB',h1⟩,hm⟩;refine ⟨⟨_,_,_,_,_,h1⟩,hm.weak (fun b hb=>?_)⟩;rcases hb with rfl | hb
 · exact ⟨h.loP,fun e=>h.mpP e.symm⟩
 · exact ⟨(h.fb b hb).1,(h.fb b hb).2.2.1⟩
end
end
section
open Go Go.W Go.RowKit
def doOf:Td→Int
 | .text _=>0
 | .val=>1
 | .arg=>2
 | .rest=>3
def txOf:Td→ByteArray
 | .text s=>s
 | _=>⟨#[]⟩
theorem tdRow_eq (t:Td):tdRow t=[I (doOf t),.string (txOf t)]:=by cases t<;>rfl
theorem td_back (l:List Td):(Go.W.downto l.length l.length).map (fun j=>l.getD j .val)=l.reverse:=by
 apply List.ext_getElem
 · simp [Go.W.downto]
 · intro i h1 h2;simp only [Go.W.downto,List.length_map,List.length_range] at h1;simp only [Go.W.downto,List.map_map,List.getElem_map,List.getElem_range,Function.comp,List.getElem_reverse];rw [List.getD_eq_getElem?_getD,List.getElem?_eq_getElem (by omega),Option.getD_some]
theorem f_backT (w:World) (v:Value):CallsR Tryz.prog 85 [v] w fun r w'=>r = .func (.func 142) #[] #[ptr w.heap.size]∧(∃ T fz,w'.heap[w.heap.size]? = some (.cells v.cells T fz))∧Mod (fun _=>False) w w':=by
 refine fit85.calls rfl ?_;unfold ir85;(try simp only [go_sem,simprocAttr]);refine e_bx rfl ?_;intro w1 hb1 hm1 _;(try simp only [go_sem,simprocAttr]);exact ⟨⟨_,_,hb1⟩,hm1⟩
theorem ln_two {w:World} {b T:Nat} {v0 v1:Value} {fz:Nat×Nat} (h:w.heap[b]? = some (.cells #[v0,v1] T fz)):vLN w 2 (.pointer (some ⟨b,0,none⟩))=some (.agg #[v0,v1]):=by
 have h0:w.cell? ⟨b,0,none⟩=some v0:=(cell_of h 0).trans rfl;have h1:w.cell? ⟨b,1,none⟩=some v1:=(cell_of h 1).trans rfl;simp [vLN,cellsFrom,Addr.add_lit,h0,h1]
theorem flat_at2 (l:List Td) (j:Nat) (hj:j < l.length):(l.flatMap tdRow)[j*2]? = some (I (doOf (l.getD j .val)))∧(l.flatMap tdRow)[j*2+1]? = some (.string (txOf (l.getD j .val))):=by
 induction l generalizing j with
 | nil=>simp at hj
 | cons t l ih=>
   rw [List.flatMap_cons,tdRow_eq];cases j with
   | zero=>exact ⟨rfl,rfl⟩
   | succ j=>
     have:=ih j (by simpa using hj);rw [show (j+1)*2=j*2+1+1 by omega]
     simpa using this
section
variable {lo p mp:Nat} {w:World} {vI:Value} {s:Ws} {vR pv vB:Value} {fR fB:Option Nat}
theorem WrF.quiet {B:Nat} {W W':World} {S:Nat→Prop} (h:WrF lo W p vI mp s vR pv vB fR fB) (hm:Mod S W W') (hs:∀ b,S b→B≤b∧∃ o:Obj,W.heap[b]? = some o∧o.isCells=false):WrF lo W' p vI mp s vR pv vB fR fB:=
 ⟨quiet_at hm (fun b hb=>(hs b hb).2) h.cells,h.pv,quiet_ownS hm (fun b hb=>(hs b hb).2) h.row,quiet_ownS hm (fun b hb=>(hs b hb).2) h.buf,h.loP,h.mpP,by have:=h.mpL;have:=hm.size;omega,by have:=h.loL;have:=hm.size;omega,h.fr,h.fb⟩
structure LtI (lo:Nat) (w2:World) (p:Nat) (vI:Value) (mp:Nat) (s:Ws) (pv vB:Value) (fR fB:Option Nat) (b2:Nat) (l:List Td) (pre:List Nat) (W:World):Prop where
 wr:∃ vR' fR',WrF lo W p vI mp { s with row:=s.row++pre.map (fun j=>l.getD j .val)} vR' pv vB fR' fB∧∀ b,fR'=some b→fR=some b∨w2.heap.size≤b
 box:W.heap[b2]? = some (.cells #[ptr p] 79 (0,0))
 mod:Mod (Wt lo mp) w2 W
theorem LtI.quiet {w2:World} {b2:Nat} {l:List Td} {pre:List Nat} {W W':World} {S:Nat→Prop} (hlo:lo≤w2.heap.size) (hmp:mp < w2.heap.size) (h:LtI lo w2 p vI mp s pv vB fR fB b2 l pre W) (hm:Mod S W W') (hs:∀ b,S b→w2.heap.size≤b∧∃ o:Obj,W.heap[b]? = some o∧o.isCells=false):LtI lo w2 p vI mp s pv vB fR fB b2 l pre W':=by
 obtain ⟨vR',fR',h1,h2⟩:=h.wr;exact ⟨⟨vR',fR',h1.quiet hm hs,h2⟩,quiet_at hm (fun b hb=>(hs b hb).2) h.box,h.mod.trans (hm.weak (fun b hb=>⟨by have:=(hs b hb).1;omega,by have:=(hs b hb).1;omega⟩))⟩
theorem f_later {l:List Td} {v:Value} {fA:Option Nat} (h:WrF lo w p vI mp s vR pv vB fR fB) (ho:OwnS w 122 2 v (l.flatMap tdRow) l.length fA) (hA:∀ b,fA=some b→b≠p∧fR≠some b) (hl:l.length≤1048576) (hr:s.row.length≤4294967296) :
   CallsR Tryz.prog 50 [ptr p,v] w fun r w'=>WrAt lo w' p vI mp (s.later l)∧Mod (Wt lo mp) w w':=by
 have hc:=h.cells;have hpl:=lt_of_heap hc;refine fitLater.calls rfl ?_;unfold irL0;(try simp only [go_sem,simprocAttr]);refine e_bx rfl ?_;intro w1 hb1 hm1 hs1;(try simp only [go_sem,simprocAttr]);unfold irL1;(try simp only [go_sem,simprocAttr]);refine e_call (by rfl) ?_;refine (f_backT w1 v).mono ?_;rintro _ w2 ⟨rfl,⟨T2,fz2,hb2⟩,hm2⟩;(try simp only [go_sem,simprocAttr]);have h2:=(h.later (hm1.weak (fun _ hh=>hh.elim))).later (hm2.weak (fun _ hh=>hh.elim));have hb12:=hm2.at hb1 (fun hh=>hh);have ho2:=(ho.mod hm1 (fun _ _ hh=>hh)).mod hm2 (fun _ _ hh=>hh);have hs12:=hm2.size;have hbs:=lt_of_heap hb2;obtain ⟨va,vc,rfl,_,_⟩:=ho.val;obtain ⟨bA,hbA1,hbA2,hbA3⟩:∃ bA,bA < w2.heap.size∧(bA=w1.heap.size∨fA=some bA)∧((.slice va l.length vc=Value.slice none 0 0∧l.length=0)∨(bA < w2.heap.size∧∃ cap,.slice va l.length vc=Value.slice (some ⟨bA,0,none⟩) l.length cap∧∀ j,j < l.length→w2.cell? ⟨bA,j*2,none⟩=some (I (doOf (l.getD j .val)))∧w2.cell? ⟨bA,j*2+1,none⟩=some (.string (txOf (l.getD j .val))))):=by
   rcases ho2.2 with ⟨e1,e2,e3⟩ | ⟨b,c,sp',e1,e2,e3,e4,e5⟩
   · exact ⟨w1.heap.size,hbs,.inl rfl,.inl ⟨e1,e2⟩⟩
   · refine ⟨b,lt_of_heap e3,.inr e2,.inr ⟨lt_of_heap e3,c,e1,fun j hj=>?_⟩⟩;obtain ⟨f1,f2⟩:=flat_at2 l j hj;have hh:=cell_of e3;refine ⟨(hh _).trans ?_,(hh _).trans ?_⟩
     · rw [List.getElem?_toArray,List.getElem?_append_left (List.getElem?_eq_some_iff.1 f1).1,f1]
     · rw [List.getElem?_toArray,List.getElem?_append_left (List.getElem?_eq_some_iff.1 f2).1,f2]
 have nA:bA≠p∧fR≠some bA:=by
   rcases hbA2 with e | e
   · exact ⟨by omega,fun hh=>by have:=h.row.lt hh;omega⟩
   · exact hA bA e
 refine ⟨2,l.length,142,#[ptr w1.heap.size],(fun j=>.agg #[I (doOf (l.getD j .val)),.string (txOf (l.getD j .val))]),KeepB w1.heap.size bA,(fun pre W=>LtI lo w2 p vI mp s pv vB fR fB w.heap.size l pre W),
   (fun j ρ W=>∃ D,ρ=[(2,ptr w.heap.size),(5,ptr D)]∧W.heap[D]? = some (.cells #[I (doOf (l.getD j .val)),.string (txOf (l.getD j .val))] 122 (0,0))),⟨rfl,(fun _ _=>rfl),?_,⟨rfl,rfl⟩,by omega,?_,?_,⟨?_,?_,?_,?_,?_⟩⟩,?_⟩
 · exact backtodo_stops Fence.wide 1 trivial rfl (by omega) w1.heap.size bA l.length (.slice va l.length vc) _ _ w2 (by simpa [Value.cells] using cell_of hb2 0) hbs hbA3 (by omega)
 · intro A B C a b;exact ⟨b.1.trans a.1,b.2.trans a.2⟩
 · intro W b o o' hlb hob hoc _;exact ⟨World.putObj_heap_other (fun e=>by omega),World.putObj_heap_other (fun e=>by omega)⟩
 · exact ⟨⟨vR,fR,by simpa using h2,fun b hb=>.inl hb⟩,hb12,Mod.refl _ _⟩
 · intro pre W W' S hi hm hs;exact hi.quiet h2.loL h2.mpL hm hs
 · rintro j ρ' W W' S ⟨D,e,hD⟩ hm hs;exact ⟨D,e,quiet_at hm (fun b hb=>(hs b hb).2) hD⟩
 · intro pre j W hi hj;unfold irLa;(try simp only [go_sem,simprocAttr]);refine e_al ?_;intro W1 hD hM1 hS1;(try simp only [go_sem,simprocAttr]);have hD':W1.heap[W.heap.size]? = some (.cells [I 0,.string ⟨#[]⟩].toArray 122 (0,0)):=hD;refine e_sta (vs:=[I (doOf (l.getD j .val)),.string (txOf (l.getD j .val))]) rfl rfl hD' rfl rfl (by intro u hu;simp only [List.mem_cons,List.not_mem_nil,or_false] at hu;rcases hu with rfl | rfl<;>rfl) ?_;intro W2 hD2 hM2 hS2;(try simp only [go_sem,simprocAttr]);have hsW:=hi.mod.size;have hM:Mod (· = W.heap.size) W W2:=(hM1.weak (fun _ hh=>hh.elim)).trans hM2;obtain ⟨vR',fR',g1,g2⟩:=hi.wr;have gp:=lt_of_heap g1.cells;have hf:∀ b,b < W.heap.size→b≠W.heap.size:=fun b hb e=>by omega
   refine ⟨(keeps_of_mod hM (fun b hb o ho=>by have:=lt_of_heap ho;omega)).from _,keepB_of_mod hM (by omega) (by omega) (by omega) (by omega),⟨⟨vR',fR',g1.later (hM.weak (fun b hb=>?_)),g2⟩,hM.at hi.box (fun hh=>by have:=lt_of_heap hi.box;omega),hi.mod.trans (hM.weak (fun b hb=>?_))⟩,⟨_,rfl,hD2⟩⟩
   · have:=g1.loL;have:=g1.mpL;exact ⟨by omega,by omega,by omega,fun hh=>by have:=g1.row.lt hh;omega,fun hh=>by have:=g1.buf.lt hh;omega⟩
   · have:=g1.loL;have:=g1.mpL;exact ⟨by omega,by omega⟩
 · rintro pre j ρ' W hi ⟨D,rfl,hD⟩ hpre hj;obtain ⟨vR',fR',g1,g2⟩:=hi.wr;have gc:=g1.cells;unfold irLb;(try simp only [go_sem,simprocAttr,cell_of hi.box,cell_of gc,wrCells]);have hDd:W.drew.heap[D]? = _:=hD;refine ⟨_,ln_two hDd,?_⟩;refine e_bs (by rfl) (by rfl) ?_;intro W1 hN hM1 hS1;have hN':W1.heap[W.heap.size]? = some (.cells #[I (doOf (l.getD j .val)),.string (txOf (l.getD j .val))] 122 (0,0)):=hN;have hM1':Mod (fun _=>False) W W1:=hM1.of_drew;have g3:=g1.later (hM1'.weak (fun _ hh=>hh.elim));refine ⟨⟨hM1'.old p (lt_of_heap gc) (fun h=>h),hM1'.old _ (lt_of_heap hi.box) (fun h=>h)⟩,?_⟩;refine e_ap (news:=[I (doOf (l.getD j .val)),.string (txOf (l.getD j .val))]) (m:=1) rfl g3.row rfl (fun e=>by cases e) ?_ (by intro u hu;simp only [List.mem_cons,List.not_mem_nil,or_false] at hu;rcases hu with rfl | rfl<;>rfl) rfl ?_ ?_ ?_
   · exact (OwnS.of_block (n:=1) (xs:=[I (doOf (l.getD j .val)),.string (txOf (l.getD j .val))]) hN' rfl).rd
   · simp only [List.length_append,List.length_map];omega
   · simp only [List.length_append,List.length_map];omega
   intro v2 W2 fp2 ho2 hM2 hf2;have hv1:v2.oneCell'=true:=by
     obtain ⟨_,_,rfl,_,_⟩:=ho2.val;rfl
   have hb2':=hM2.at g3.cells (fun hh=>(g3.fr p hh).2.1 rfl);have hx2:∀ b,fp2=some b→fR'=some b∨W.heap.size≤b:=fun b hb=>by
     rcases hf2 b hb with h' | ⟨h',_⟩
     · exact .inl h'
     · have:=hM1'.size;exact .inr (by omega)
   have hmW:=hi.mod.size;have hmW1:=hM1'.size;have hmW2:=hM2.size;have gp:=lt_of_heap gc;have gb:=lt_of_heap hi.box;have gl:=g1.loL;have gm:=g1.mpL;have hbx:¬ fR'=some w.heap.size:=fun hh=>by
     rcases g2 _ hh with h' | h'
     · have:=h.row.lt h';omega
     · omega
   refine ⟨hM2.old _ (by omega) hbx,?_⟩;refine e_st1 (off:=4) rfl rfl hb2' hv1 (by simp [wrCells]) ?_;intro W3 hc3 hM3 hS3;(try simp only [go_sem,simprocAttr]);have hMa:Mod (fun b=>fR'=some b∨b=p) W W3:=((hM1'.weak (fun _ hh=>hh.elim)).trans (hM2.weak (fun b hb=>.inl hb))).trans (hM3.weak (fun b hb=>.inr hb));have hcl:∀ b,(fR'=some b∨b=p)→∀ o,W.heap[b]? = some o→o.isCells=true:=fun b hb o ho=>by
     rcases hb with hb | rfl
     · cases ho':o.isCells with
       | true=>rfl
       | false=>exact absurd ho (fun e=>by have:=quiet_own_cells g1.row hb e;rw [this] at ho';cases ho')
     · rw [gc] at ho;cases ho;rfl
   have nb:∀ b,b < w2.heap.size→fR≠some b→fR'≠some b:=fun b hb hn e=>by
     rcases g2 b e with h' | h'
     · exact hn h'
     · omega
   refine ⟨(keeps_of_mod hMa hcl).from _,keepB_of_mod hMa (by omega) (by omega) (fun hh=>?_) (fun hh=>?_),⟨⟨v2,fp2,⟨?_,g1.pv,?_,(g3.buf.mod hM2 (fun b hb hh=>(g3.fb b hb).2.2.2 hh)).mod hM3 (fun b hb hh=>(g3.fb b hb).2.1 hh),g1.loP,g1.mpP,by omega,by omega,fun b hb=>?_,fun b hb=>?_⟩,fun b hb=>?_⟩,hMa.at hi.box (fun hh=>by rcases hh with hh | hh;exact hbx hh;omega),hi.mod.trans (hMa.weak (fun b hb=>?_))⟩⟩
   · rcases hh with hh | hh
     · exact nb _ hbs (fun e=>by have:=h.row.lt e;omega) hh
     · omega
   · rcases hh with hh | hh
     · exact nb _ hbA1 nA.2 hh
     · exact nA.1 hh
   · exact hc3
   · have:=ho2.mod hM3 (fun b hb hh=>by
       rcases hx2 b hb with h' | h'
       · exact (g1.fr b h').2.1 hh
       · omega)
     have e1:(s.row++(pre++[j]).map (fun j=>l.getD j .val)).flatMap tdRow=(s.row++pre.map (fun j=>l.getD j .val)).flatMap tdRow++[I (doOf (l.getD j .val)),.string (txOf (l.getD j .val))]:=by
       rw [List.map_append,← List.append_assoc,List.flatMap_append];simp [tdRow_eq]
     have e2:(s.row++(pre++[j]).map (fun j=>l.getD j .val)).length=(s.row++pre.map (fun j=>l.getD j .val)).length+1:=by
       simp [Nat.add_assoc]
     show OwnS W3 _ 2 v2 ((s.row++(pre++[j]).map (fun j=>l.getD j .val)).flatMap tdRow) (s.row++(pre++[j]).map (fun j=>l.getD j .val)).length fp2;rw [e1,e2];exact this
   · rcases hx2 b hb with h' | h'
     · exact g1.fr b h'
     · exact ⟨by omega,by omega,by omega⟩
   · obtain ⟨f1,f2,f3,f4⟩:=g1.fb b hb;refine ⟨f1,f2,f3,fun hh=>?_⟩;rcases hx2 b hh with h' | h'
     · exact f4 h'
     · have:=g1.buf.lt hb;omega
   · rcases hx2 b hb with h' | h'
     · exact g2 b h'
     · right;omega
   · rcases hb with hb | rfl
     · exact ⟨(g1.fr b hb).1,(g1.fr b hb).2.2⟩
     · exact ⟨g1.loP,fun e=>g1.mpP e.symm⟩
 · intro D W W' hD hi hM hDd;obtain ⟨vR',fR',g1,g2⟩:=hi.wr;have hq:=g1.quiet (B:=w2.heap.size) hM (fun b hb=>by subst hb;exact ⟨hD,_,hDd,rfl⟩);rw [td_back] at hq;have hs2:=h2.loL;have hm2':=h2.mpL;refine ⟨⟨vR',pv,vB,fR',fB,hq⟩,(((hm1.weak (fun _ hh=>hh.elim)).trans (hm2.weak (fun _ hh=>hh.elim))).trans hi.mod).trans (hM.weak (fun b hb=>by subst hb;exact ⟨by omega,by omega⟩))⟩
end
end
end Go.Proofs.YtnjobkbblhaliaaGreatDoor
namespace Go.W
section
open Go Go.ChangeMaps Go.RowKit
section
variable {P:Program} {ρ:Env} {w:World} {K:Value→World→Prop} {d:Option Nat} {ty:TypeId} {pos:String} {af:Array Edge}
end
end
section
open Go
def RowsAt (w:World) (v:Value) (sz:Nat) (rows:List (List Value)) (B:Nat→Prop):Prop:=
 ∃ a c,v = .slice a rows.length c∧(0 < rows.length→∀ ad,a=some ad→B ad.block)∧∀ i (h:i < rows.length),∃ ad,a=some ad∧rows[i].length=sz∧∀ k (hk:k < rows[i].length),w.cell? ((ad.add (i*sz)).add k)=some rows[i][k]
theorem RowsAt.mod {w w':World} {v:Value} {sz:Nat} {rows:List (List Value)} {B B' S:Nat→Prop} (h:RowsAt w v sz rows B) (hm:Mod S w w') (hd:∀ b,B b→¬ S b) (hB:∀ b,B b→B' b):RowsAt w' v sz rows B':=by
 obtain ⟨a,c,rfl,hb,h⟩:=h;refine ⟨a,c,rfl,fun h0 ad h=>hB _ (hb h0 ad h),fun i hi=>?_⟩;obtain ⟨ad,rfl,hl,hc⟩:=h i hi;refine ⟨ad,rfl,hl,fun k hk=>hm.cell (hc k hk) ?_⟩;rw [add_block,add_block];exact hd _ (hb (by omega) _ rfl)
theorem row_at {w:World} {v:Value} {sz:Nat} {rows:List (List Value)} {B:Nat→Prop} (h:RowsAt w v sz rows B) {i:Nat} (hi:i < rows.length) :
   ∃ ad c,v = .slice (some ad) rows.length c∧rows[i].length=sz∧∀ k (hk:k < rows[i].length),w.cell? ((ad.add (i*sz)).add k)=some rows[i][k]:=by
 obtain ⟨a,c,rfl,_,h⟩:=h;obtain ⟨ad,rfl,h1,h2⟩:=h i hi;exact ⟨ad,c,rfl,h1,h2⟩
theorem ln_2 {w:World} {a:Addr} {v0 v1:Value} (h0:w.cell? (a.add 0)=some v0) (h1:w.cell? (a.add 1)=some v1):vLN w 2 (.pointer (some a))=some (.agg #[v0,v1]):=by
 simp [vLN,cellsFrom,h0,h1]
theorem ln_3 {w:World} {a:Addr} {v0 v1 v2:Value} (h0:w.cell? (a.add 0)=some v0) (h1:w.cell? (a.add 1)=some v1) (h2:w.cell? (a.add 2)=some v2):vLN w 3 (.pointer (some a))=some (.agg #[v0,v1,v2]):=by
 simp [vLN,cellsFrom,h0,h1,h2]
theorem rows_sl {w:World} {v:Value} {sz:Nat} {rows:List (List Value)} {B:Nat→Prop} (h:RowsAt w v sz rows B):∃ a c,v = .slice a rows.length c:=by
 obtain ⟨a,c,e,_⟩:=h;exact ⟨a,c,e⟩
theorem ieq (a b:Int):(a == b)=decide (a=b):=by by_cases h:a=b<;>simp [h]
theorem ba_loop (a:ByteArray):∀ (n i:Nat) (r:List UInt8),a.size - i=n→ByteArray.toList.loop a i r=r.reverse++a.data.toList.drop i:=by
 have hs:a.data.toList.length=a.size:=by
   show a.data.toList.length=a.data.size;exact Array.length_toList
 intro n
 induction n with
 | zero=>
   intro i r h;rw [ByteArray.toList.loop,if_neg (by omega),List.drop_eq_nil_of_le (by omega),List.append_nil]
 | succ n ih=>
   intro i r h;have hi:i < a.data.toList.length:=by omega
   rw [ByteArray.toList.loop,if_pos (by omega),ih (i+1) _ (by omega),List.drop_eq_getElem_cons hi];have e:a.get! i=a.data.toList[i]:=by
     show a.data[i]! = _;rw [getElem!_pos a.data i (by simpa using hi)];simp
   rw [e];simp
theorem ba_toList (a:ByteArray):a.toList=a.data.toList:=by
 show ByteArray.toList.loop a 0 []=_;rw [ba_loop a _ 0 [] rfl];rfl
theorem ba_inj {a b:ByteArray} (h:a.toList=b.toList):a=b:=by
 rw [ba_toList,ba_toList] at h;cases a;cases b;rename_i x y;have:x=y:=Array.ext' h;rw [this]
theorem ba_leq (a b:ByteArray):(a.toList == b.toList)=decide (a=b):=by
 by_cases h:a=b
 · subst h;simp
 · have:a.toList≠b.toList:=fun e=>h (ba_inj e)
   simp [h,this]
theorem flat_rows {sz:Nat}:∀ (rows:List (List Value)),(∀ r∈rows,r.length=sz)→∀ (i:Nat) (h:i < rows.length) (k:Nat),k < sz→(rows.flatMap id)[i*sz+k]? = (rows[i]'h)[k]?:=by
 intro rows
 induction rows with
 | nil=>intro _ i h;simp at h
 | cons r rows ih=>
   intro hr i h k hk;have h0:=hr r (by simp);simp only [List.flatMap_cons,id];cases i with
   | zero=>rw [List.getElem?_append_left (by omega)];simp
   | succ i=>
     rw [List.getElem?_append_right (by rw [h0,Nat.add_mul];omega),h0];have e:(i+1)*sz+k - sz=i*sz+k:=by rw [Nat.add_mul];omega
     rw [e];exact ih (fun r hr'=>hr r (by simp [hr'])) i (by simpa using h) k hk
theorem own_rows {w:World} {T sz:Nat} {v:Value} {rows:List (List Value)} {fp:Option Nat} (h:OwnS w T sz v (rows.flatMap id) rows.length fp) (hr:∀ r∈rows,r.length=sz):RowsAt w v sz rows (fun b=>fp=some b):=by
 obtain ⟨h1,⟨rfl,h2,rfl⟩ | ⟨b,c,sp,rfl,rfl,h3,_⟩⟩:=h
 · refine ⟨none,0,by rw [h2],(fun _ ad e=>by cases e),fun i hi=>?_⟩;omega
 · refine ⟨some ⟨b,0,none⟩,c,rfl,(fun _ ad e=>by cases e;rfl),fun i hi=>⟨_,rfl,hr _ (List.getElem_mem hi),fun k hk=>?_⟩⟩;have hl:=hr _ (List.getElem_mem hi);have hf:=flat_rows rows hr i hi k (by omega);rw [List.getElem?_eq_getElem hk] at hf;have hlt:i*sz+k < (rows.flatMap id).length:=(List.getElem?_eq_some_iff.1 hf).1;rw [add_at,add_at,cell_of h3];simp only [Nat.zero_add,List.getElem?_toArray];rw [List.getElem?_append_left hlt];exact hf
theorem addr_add (a:Addr) (i k:Nat):(a.add i).add k=a.add (i+k):=by
 unfold Addr.add;by_cases hi:i=0
 · subst hi;simp
 · by_cases hk:k=0
   · subst hk;simp
   · have:i+k≠0:=by omega
     simp [hi,hk,this,Nat.add_assoc]
theorem flat_lenR {sz:Nat}:∀ (rows:List (List Value)),(∀ r∈rows,r.length=sz)→(rows.flatMap id).length=rows.length*sz:=by
 intro rows
 induction rows with
 | nil=>intro _;simp
 | cons r rows ih=>
   intro hr;have h0:=hr r (by simp);simp only [List.flatMap_cons,id,List.length_append,List.length_cons,ih (fun r hr'=>hr r (by simp [hr'])),h0,Nat.add_mul];omega
theorem rows_rd {w:World} {a:Option Addr} {n c sz:Nat} {rows:List (List Value)} {B:Nat→Prop} (h:RowsAt w (.slice a n c) sz rows B) (hsz:0 < sz):n=rows.length∧RdCells w a (n*sz) (rows.flatMap id)∧(a=none→n=0):=by
 obtain ⟨a',c',e,_,hx⟩:=h;simp only [Value.slice.injEq] at e;obtain ⟨rfl,rfl,rfl⟩:=e;have hr:∀ r∈rows,r.length=sz:=fun r hr=>by
   obtain ⟨i,hi,rfl⟩:=List.getElem_of_mem hr;obtain ⟨_,_,h1,_⟩:=hx i hi;exact h1
 refine ⟨rfl,⟨flat_lenR rows hr,fun ad had j v hv=>?_⟩,fun ha=>?_⟩
 · have hj:j < rows.length*sz:=by rw [← flat_lenR rows hr];exact (List.getElem?_eq_some_iff.1 hv).1
   have hi:j / sz < rows.length:=(Nat.div_lt_iff_lt_mul hsz).2 hj;have hk:j % sz < sz:=Nat.mod_lt _ hsz;have hf:=flat_rows rows hr (j / sz) hi (j % sz) hk;have e:j / sz*sz+j % sz=j:=by rw [Nat.mul_comm];exact Nat.div_add_mod j sz
   rw [e,hv] at hf;obtain ⟨ad',e1,h1,h2⟩:=hx (j / sz) hi;rw [had] at e1;cases e1;have h3:=h2 (j % sz) (by rw [h1];exact hk);rw [List.getElem?_eq_getElem (by rw [h1];exact hk)] at hf;simp only [Option.some.injEq] at hf;rw [← hf] at h3;rw [addr_add,e] at h3;exact h3
 · apply Classical.byContradiction;intro hne;obtain ⟨ad,e1,_⟩:=hx 0 (by omega);rw [ha] at e1;cases e1
theorem own_cells2 {w:World} {T sz n:Nat} {v:Value} {xs:List Value} {fp:Option Nat} (h:OwnS w T sz v xs n fp) {b:Nat} (hb:fp=some b):∃ cs,w.heap[b]? = some (.cells cs T (0,0)):=by
 obtain ⟨_,⟨_,_,e⟩ | ⟨b',c,sp,_,e,h5,_⟩⟩:=h
 · rw [e] at hb;cases hb
 · rw [e] at hb;cases hb;exact ⟨_,h5⟩
theorem cell_lt {w:World} {a:Addr} {v:Value} (h:w.cell? a=some v):a.block < w.heap.size:=by
 unfold World.cell? at h;cases hb:w.heap[a.block]? with
 | none=>rw [hb] at h;cases h
 | some o=>exact lt_of_heap hb
end
end Go.W
namespace Go.Proofs.YtnjobkbblhaliaaGreatDoor
section
open Go Go.W Go.RowKit
abbrev FL (L:List (ByteArray×Int)):Fld:=fun k=>sget L k
structure InAt (lo:Nat) (w:World) (vI:Value) (mp:Nat) (items:List It) (L:List (ByteArray×Int)):Prop where
 rows:RowsAt w vI 2 (items.map itRow) (· < lo)
 mp:MapS w mp L
 len:items.length≤4294967296
theorem ba_lq (a b:ByteArray):(a.toList == b.toList)=decide (a=b):=Go.W.ba_leq a b
theorem raw_gS {P:Program} {w:World} {ρ:Go.W.Env} {K:Value→World→Prop} {d:Option Nat} {ty:TypeId} {pos:String} {af:Array Edge} {op:Op} {g:Option (Nat×Bool)} (h:Go.W.E.wp P w ρ K (.raw ⟨d,op,ty,pos,af,none⟩)):Go.W.E.wp P w ρ K (.raw ⟨d,op,ty,pos,af,g⟩):=h
section
variable {lo p mp:Nat} {w:World} {vI:Value} {s:Ws} {items:List It} {L:List (ByteArray×Int)}
theorem InAt.mod {w':World} (h:InAt lo w vI mp items L) (hm:Mod (Wt lo mp) w w'):InAt lo w' vI mp items L:=
 ⟨h.rows.mod hm (fun b hb hh=>by have:=hh.1;omega) (fun b hb=>hb),maps_mod h.mp hm (fun hh=>hh.2 rfl),h.len⟩
theorem it_at (h:InAt lo w vI mp items L) {k:Nat} {x:It} (hx:items[k]? = some x):∃ ad c,vI = .slice (some ad) items.length c∧ad.block < lo∧w.cell? (ad.add (k*2))=some (.string x.con)∧w.cell? ((ad.add (k*2)).add 1)=some (I x.num):=by
 obtain ⟨hl,rfl⟩:=List.getElem?_eq_some_iff.1 hx;obtain ⟨a,c,h1,h3,h2⟩:=h.rows;obtain ⟨ad,rfl,_,h4⟩:=h2 k (by simpa using hl);refine ⟨ad,c,by simpa using h1,h3 (by simp;omega) ad rfl,?_,?_⟩
 · have:=h4 0 (by simp [itRow]);rw [Addr.add_zero'] at this
   simpa [itRow] using this
 · simpa [itRow] using h4 1 (by simp [itRow])
theorem it_sl (h:InAt lo w vI mp items L):∃ a c,vI = .slice a items.length c:=by
 obtain ⟨a,c,h1,_⟩:=h.rows;exact ⟨a,c,by simpa using h1⟩
def nextIs (L:List (ByteArray×Int)) (items:List It) (k:Nat) (con:ByteArray) (n:Int):Bool:=match items[k]? with
 | none=>false
 | some x=>isS (FL L) x con n
theorem f_is {con:ByteArray} {n:Int} (h:WrAt lo w p vI mp s) (hi:InAt lo w vI mp items L):CallsR Tryz.prog 87 [ptr p,.string con,I n] w fun r w'=>r = .bool (nextIs L items s.at' con n)∧Mod (fun _=>False) w w':=by
 obtain ⟨vR,pv,vB,fR,fB,h⟩:=h;have hc:=h.cells;refine fit87.calls rfl ?_;unfold ir87;cases hx:items[s.at']? with
 | none=>
   obtain ⟨a,c,rfl⟩:=it_sl hi;have hge:=List.getElem?_eq_none_iff.1 hx;have e1:decide ((s.at':Int) < items.length)=false:=by simp;omega
   (try simp only [go_sem,simprocAttr,cell_of hc,wrCells,ptr,e1]);refine ⟨by unfold nextIs;rw [hx],(Mod.refl _ _).drew⟩
 | some x=>
   obtain ⟨ad,c,rfl,h1,h2,h3⟩:=it_at hi hx;have hlt:=(List.getElem?_eq_some_iff.1 hx).1;have e1:decide ((s.at':Int) < items.length)=true:=by simp;omega
   have e2:(0:Int)≤s.at'∧(s.at':Int) < items.length:=by omega
   by_cases hcon:x.con=con
   · (try simp only [go_sem,simprocAttr,cell_of hc,wrCells,ptr,e1,e2,decide_true,Int.toNat_natCast,h2,h3,ba_lq,hcon]);refine raw_gS ?_;refine e_l1S (b:=mp) (l:=L) (kt:=9) (et:=3) rfl rfl Tryz.underlying80 Tryz.underlying9 (Tryz.zeroValue3 _) (maps_mod hi.mp ((Mod.refl (fun _=>False) w).drew) (fun h=>h)) ?_;(try simp only [go_sem,simprocAttr]);refine ⟨?_,(Mod.refl _ _).drew⟩;unfold nextIs isS Fld.of;rw [hx];simp [hcon,ieq]
   · (try simp only [go_sem,simprocAttr,cell_of hc,wrCells,ptr,e1,e2,decide_true,Int.toNat_natCast,h2,h3,ba_lq,hcon,decide_false]);refine ⟨?_,(Mod.refl _ _).drew⟩;unfold nextIs isS;rw [hx];simp [hcon]
end
end
end Go.Proofs.YtnjobkbblhaliaaGreatDoor