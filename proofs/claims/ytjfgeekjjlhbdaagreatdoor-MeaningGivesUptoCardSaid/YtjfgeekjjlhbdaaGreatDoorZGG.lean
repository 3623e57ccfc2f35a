/- The row and the card of MeaningGives. -/
import Derived.Test.YtjfgeekjjlhbdaaGreatDoorZGF
import Derived.Test.YtjfgeekjjlhbdaaGreatDoorZGD
set_option linter.unusedSimpArgs false
set_option linter.unusedVariables false
set_option maxRecDepth 100000
namespace Go.Proofs.YtjfgeekjjlhbdaaGreatDoor
section
open Go Go.W
section
variable {X X':Cx}
theorem A4:∀ (n:Nat) {md:Md} {m:Rn} {r:Option Cl×Rn},cF X n md m=some r→∀ k,n≤k→cF X k md m=some r
 | 0,md,m,r,h,_,_=>by cases md<;>(rw [cF] at h;cases h)
 | n+1,.go e v,m,r,h,k,hk=>by
  obtain ⟨j,rfl⟩:∃ j,k=j+1:=⟨k - 1,by omega⟩;rw [cF] at h ⊢
  split at h
  ·rename_i hc;rw [if_pos hc];exact h
  ·rename_i hc;rw [if_neg hc]
   split at h
   ·cases h
   ·exact h
   ·exact A4 n h j (by omega)
 | n+1,.val x,m,r,h,k,hk=>by
  obtain ⟨j,rfl⟩:∃ j,k=j+1:=⟨k - 1,by omega⟩;rw [cF] at h ⊢
  split at h
  ·exact h
  ·split at h
   ·cases h
   ·exact h
   ·exact A4 n h j (by omega)
theorem Nc {n c:Nat} {m:Rn} {r:Option Cl×Rn} (h:fW X n c m=some r) {k:Nat} (hk:n≤k):fW X k c m=some r:=by
 unfold fW at h ⊢
 split at h
 ·exact h
 ·exact h
 ·exact A4 n h k hk
theorem Gv:∀ (n:Nat) {x:Cl} {ws:List Nat} {m a:Rn},eC X n x ws m=some a→∀ k,n≤k→eC X k x ws m=some a
 | 0,x,ws,m,a,h,_,_=>by rw [eC] at h;cases h
 | n+1,x,ws,m,a,h,k,hk=>by
  obtain ⟨j,rfl⟩:∃ j,k=j+1:=⟨k - 1,by omega⟩;rw [eC] at h ⊢
  split at h
  ·rename_i hc;rw [if_pos hc];exact h
  ·rename_i hc;rw [if_neg hc];simp only at h ⊢
   split at h
   ·cases h
   ·rename_i hw;rw [if_neg hw]
    split at h
    ·exact h
    ·split at h
     ·cases h
     ·rename_i m3 hf;rw [Nc hf (by omega:n≤j)];exact h
     ·rename_i y m3 hf;rw [Nc hf (by omega:n≤j)];exact Gv n h j (by omega)
variable {I:Nat→Prop} {z:Nat}
inductive Nd (X':Cx) (I:Nat→Prop) (z:Nat) (R:Rl) (c':Nat) (m':Rn):Option Cl×Rn→Prop
 | val {x x':Cl} {a a':Rn} {R':Rl} (hR:kQ R R') (hx:fZ R' x x') (hs:SR I z R' [] a a') (hf:a.aO=[]) (bz:m'.steps≤a'.steps) (hr:∀ G,a'.steps≤G→∃ n,fW (X'.at G) n c' m'=some (some x',a')):Nd X' I z R c' m' (some x,a)
 | off {a a':Rn} (h:ER a a') (bz:m'.steps≤a'.steps) (hr:∃ n,fW (X'.at a'.steps) n c' m'=some (none,a')):Nd X' I z R c' m' (none,a)
theorem Gw {R:Rl} {m m':Rn} {bf:List Fm} (h:SR I z R bf m m') (hf:m.aO=[]):m'.aO=bf:=by
 obtain ⟨fs,h1,h2⟩:=h.aO;rw [hf] at h2;cases fs with
 | nil=>rw [h1,List.append_nil]
 | cons f fs=>exact h2.elim
theorem VZ {R:Rl} {c':Nat} {m':Rn} {tG:Md} {dZ:Rn} {x:Option Cl×Rn} (he:dC m' c'=(some tG,dZ)) (hf:m'.aO=[]) {n:Nat} (h:cF X n tG dZ=some x):∃ n,fW X n c' m'=some x:=by
 refine ⟨n,?_⟩;unfold fW;rw [he];cases tG with
 | go e v=>exact h
 | val y=>
  obtain ⟨rfl,-⟩:=LY he;cases n with
  | zero=>rw [cF] at h;cases h
  | succ n=>
   rw [cF,hf] at h;exact h
theorem V0 {R:Rl} {n c c':Nat} {m m':Rn} {r:Option Cl×Rn} (hX:tH X X' R) (hs:SR I z R [] m m') (hf:m.aO=[]) (hc:R c c') (h:fW X n c m=some r):Nd X' I z R c' m' r:=by
 have gu:=Gw hs hf;have ha:=M9 hX hs hc;unfold fW at h;generalize heA:dC m c=rA at ha h;generalize Nf:dC m' c'=rB at ha;cases ha with
 | off q1 q2=>
  cases h;rename_i m1 dZ;refine .off q1 (by omega) ⟨0,?_⟩;unfold fW;rw [Nf]
 | @on md tG md' m1 dZ mH R' q1 q2 q3 q4 q5=>
  have key:uV X X' I z R' [] md' mH r:=by
   cases q2 with
   | go e hv=>exact A3 n (hX.mono q1) q3 (.go e hv) h
   | val hx=>
    cases h;obtain ⟨rfl,-⟩:=LY heA;exact .val (fun _ _ h=>h) hx q3 hf (Int.le_refl _) (fun _ _=>.refl)
  cases key with
  | val h1 h2 h3 h4 h5 h6=>
   refine .val (fun a b h=>h1 _ _ (q1 a b h)) h2 h3 h4 (by omega) (fun G hG=>?_);have h7:=Gw h3 h4;obtain ⟨k,hk⟩:=((q5 G (by omega)).trans (h6 G hG)) 1 _ (by rw [cF,h7];rfl);exact VZ (R:=R) Nf gu hk
  | off h1 h2 h3=>
   obtain ⟨k,hk⟩:=h3;obtain ⟨k,hk⟩:=q5 _ h2 k _ hk;exact .off h1 (by omega) (VZ (R:=R) Nf gu hk)
theorem ahF {R:Rl} {x x':Cl} (h:fZ R x x'):iK x'=iK x:=by cases h<;>rfl
theorem ahG {R:Rl} {x x':Cl} (h:fZ R x x'):cX R (fieldsOf x) (fieldsOf x'):=by
 cases h with
 | aZ n h=>exact h
 | _=>exact trivial
theorem V1 {α β:Type} {P:α→β→Prop}:∀ {l:List α} {l':List β},cX P l l'→cX P l.reverse l'.reverse
 | [],[],_=>trivial
 | a::l,b::l',h=>by
  rw [List.reverse_cons,List.reverse_cons];exact yY (V1 h.2) ⟨h.1,trivial⟩
 | [],_::_,h=>h.elim
 | _::_,[],h=>h.elim
theorem V2:∀ (n:Nat) {R:Rl} {x x':Cl} {ws ws':List Nat} {m m' a:Rn},tH X X' R→SR I z R [] m m'→m.aO=[]→fZ R x x'→cX R ws ws'→eC X n x ws m=some a →
   ∃ a' k,ER a a'∧m'.steps≤a'.steps∧eC (X'.at a'.steps) k x' ws' m'=some a'
 | 0,R,x,x',ws,ws',m,m',a,_,_,_,_,_,h=>by rw [eC] at h;cases h
 | n+1,R,x,x',ws,ws',m,m',a,hX,hs,hf,hx,hw,h=>by
  rw [eC] at h;rcases qz X m with ⟨h1,h2⟩ | ⟨h1,h2⟩
  ·rw [h2,if_pos rfl] at h;cases h;refine ⟨{ m' with kind:=4},1,⟨hs.told,rfl,hs.stuck⟩,Int.le_refl _,?_⟩;have h3:fi (X'.at m'.steps) m'=(false,{ m' with kind:=4}):=by unfold fi;rw [if_pos rfl]
   rw [eC,h3,if_pos rfl]
  ·rw [h2,if_neg (by simp)] at h;simp only at h
   have bK:SR I z R [] { m with steps:=m.steps+1,told:=m.told++iK x} { m' with steps:=m'.steps+1,told:=m'.told++iK x'}:=⟨hs.cell,hs.inj,hs.fn,hs.aO,by
    show m'.told++iK x'=m.told++iK x
    rw [hs.told,ahF hx],hs.kind,hs.stuck,hs.val,hs.nZ,hs.lJ⟩
   have wM:=yY hw (V1 (ahG hx));have hlen:=VQ wM
   have step:∀ G,m'.steps+1≤G→∀ k,eC (X'.at G) (k+1) x' ws' m'=(let m2:Rn:={ m' with steps:=m'.steps+1,told:=m'.told++iK x'}
       let ws:=ws'++(fieldsOf x').reverse
       if 16777216 < ws.length then none else
       match ws.getLast? with
       | none=>some { m2 with kind:=2}
       | some c=>match fW (X'.at G) k c m2 with
        | none=>none
        | some (none,m3)=>some m3
        | some (some y,m3)=>eC (X'.at G) k y ws.dropLast m3):=fun G hG k=>by
    have h3:fi (X'.at G) m'=(true,{ m' with steps:=m'.steps+1}):=by unfold fi;rw [if_neg (show ¬ m'.steps=G by omega)]
    rw [eC,h3,if_neg (by simp)]
    try rfl
   split at h
   ·cases h
   ·rename_i ahH
    split at h
    ·rename_i hl;cases h;have hn:ws++(fieldsOf x).reverse=[]:=List.getLast?_eq_none_iff.1 hl;have G4:ws'++(fieldsOf x').reverse=[]:=List.eq_nil_of_length_eq_zero (by rw [← hlen,hn];rfl);refine ⟨{ m' with steps:=m'.steps+1,told:=m'.told++iK x',kind:=2},1,⟨bK.told,rfl,hs.stuck⟩,by show m'.steps≤m'.steps+1;omega,?_⟩;rw [step _ (Int.le_refl _) 0];simp only [G4];rfl
    ·rename_i c hl;obtain ⟨u,hu⟩:=List.getLast?_eq_some_iff.1 hl;rw [hu] at wM;obtain ⟨u',c',zO,w1,w2⟩:=M' wM;have g0:¬ 16777216 < (ws'++(fieldsOf x').reverse).length:=by rw [← hlen];exact ahH
     have g1:(ws'++(fieldsOf x').reverse).getLast? = some c':=by rw [zO,List.getLast?_concat]
     have g2:(ws'++(fieldsOf x').reverse).dropLast=u':=by rw [zO,List.dropLast_concat]
     have g3:(ws++(fieldsOf x).reverse).dropLast=u:=by rw [hu,List.dropLast_concat]
     split at h
     ·cases h
     ·rename_i m3 jM;cases h;have hF:=V0 hX bK hf w2 jM;cases hF with
      | @off _ a' q1 q2 q3=>
       obtain ⟨k,hk⟩:=q3;have q2:m'.steps+1≤a'.steps:=q2;refine ⟨a',k+1,q1,by omega,?_⟩;rw [step _ q2 k];simp only [g0,g1,hk,if_false]
     ·rename_i y m3 jM;have hF:=V0 hX bK hf w2 jM;cases hF with
      | @val _ y' _ m3' R' q1 q2 q3 q4 q5 q6=>
       have q5:m'.steps+1≤m3'.steps:=q5;rw [g3] at h;obtain ⟨a',k2,e1,e2,e3⟩:=V2 n (hX.mono q1) q3 q4 q2 (wG q1 w1) h;obtain ⟨k1,iI⟩:=q6 a'.steps e2;refine ⟨a',max k1 k2+1,e1,by omega,?_⟩;rw [step _ (by omega) (max k1 k2)];simp only [g0,g1,Nc iI (show k1≤max k1 k2 by omega),g2,if_false];exact Gv k2 e3 _ (by omega)
end
end
section
open Go Go.W
def runN (k:Nat) (p:Pg) (fuel:Int) (name:ByteArray):Option Rn:=
 match cF (cw p fuel) k (.go (lH name) []) (dI p) with
 | none=>none
 | some (none,m)=>some m
 | some (some x,m)=>eC (cw p fuel) k x [] m
theorem Ng {p:Pg} {fuel:Int} {name:ByteArray} {input:List Int}:runM p fuel name false input=runN iA p fuel name:=by
 unfold runM runN;simp only [Bool.false_eq_true,if_false];rfl
theorem V3 {k k':Nat} {p:Pg} {fuel:Int} {name:ByteArray} {a:Rn} (h:runN k p fuel name=some a) (hk:k≤k'):runN k' p fuel name=some a:=by
 unfold runN at h ⊢
 split at h
 ·cases h
 ·rename_i m hg;rw [A4 _ hg _ hk];exact h
 ·rename_i x m hg;rw [A4 _ hg _ hk];exact Gv _ h _ hk
theorem V4 {k:Nat} {p:Pg} {f1 f2:Int} {name:ByteArray} {a b:Rn} (h0:0≤f1) (hle:f1≤f2) (h:runN k p f1 name=some a) (h':runN k p f2 name=some b):Vv a b:=by
 have hu:(cw p f1).fuel≤(cw p f2).fuel:=hle;have jo:(dI p).steps≤(cw p f1).fuel:=h0;have ahI:(dI p).told=[]:=rfl;unfold runN at h h'
 split at h
 ·cases h
 ·rename_i m1 hg;obtain rfl:m1=a:=Option.some.inj h;by_cases k4:m1.kind=4
  ·have gt:m1.told=(dI p).told:=(tq _ hg).told;exact ⟨fun hn=>absurd k4 hn,b.told,by rw [gt,ahI,List.nil_append]⟩
  ·rw [C2 (X:=cw p f1) (X':=cw p f2) rfl rfl hu _ jo hg (fun hh=>k4 hh.2)] at h';cases h';exact ⟨fun _=>rfl,[],by simp⟩
 ·rename_i x m1 hg;have g:=tq _ hg;obtain ⟨k1,k2,k3⟩:=g.val x rfl;have ks:m1.steps≤(cw p f1).fuel:=g.fuel jo;rw [C2 (X:=cw p f1) (X':=cw p f2) rfl rfl hu _ jo hg (fun hh=>by cases hh.1)] at h';exact Vw (X:=cw p f1) (X':=cw p f2) rfl rfl hu _ k3 ks h h'
def jl:ByteArray:=⟨#[32,119,105,116,104,32,105,110,112,117,116]⟩
def se (name:ByteArray) (input:List Int):Ex:=tE (lH name) (gJ input)
def tI (name:ByteArray) (t:Ty) (input:List Int):Df:=⟨name++jl,[],t,se name input⟩
def nu (p:Pg) (name:ByteArray) (t:Ty) (input:List Int):Pg:=⟨p.aH,p.ak++[tI name t input]⟩
theorem Nh:∀ (l:List Int) (cs:List Cl),cs.length≤(cR l cs).2.length
 | [],cs=>Nat.le_refl _
 | k::l,cs=>by
  have:=Nh l cs;show _≤((cR l cs).2++[Cl.num k,(cR l cs).1]).length;rw [List.length_append];omega
theorem V5:∀ (l:List Int) (cs:List Cl),∃ t,(cR l cs).2=cs++t∧∀ x∈t,x.io=true
 | [],cs=>⟨[],by rw [List.append_nil];rfl,fun x hx=>by cases hx⟩
 | k::l,cs=>by
  obtain ⟨t,h1,h2⟩:=V5 l cs;refine ⟨t++[.num k,(cR l cs).1],?_,fun x hx=>?_⟩
  ·show (cR l cs).2++[Cl.num k,(cR l cs).1]=_;rw [h1,List.append_assoc]
  ·rcases List.mem_append.1 hx with hx | hx
   ·exact h2 x hx
   ·obtain ⟨n,fs,e⟩:=AP l cs;rw [e] at hx;rcases List.mem_cons.1 hx with rfl | hx
    ·rfl
    ·rw [List.mem_singleton.1 hx];rfl
theorem V6 {I:Nat→Prop}:∀ (l:List Int) (cs pe:List Cl) (a:Nat),(∃ t,pe=(cR l cs).2++t)→pe[a]? = some (cR l cs).1→(∀ i,cs.length≤i→i < pe.length→I i)→cs.length≤a→rY pe I a l
 | [],cs,pe,a,_,ha,hI,hle=>.nil (hI a hle (List.getElem?_eq_some_iff.1 ha).1) ha
 | k::l,cs,pe,a,⟨t,ht⟩,ha,hI,hle=>by
  have hge:=Nh l cs;have jO:pe=(cR l cs).2++([Cl.num k,(cR l cs).1]++t):=by
   rw [ht,← List.append_assoc];rfl
  have fJ:pe.length=(cR l cs).2.length+(2+t.length):=by rw [jO];simp;omega
  have e1:pe[(cR l cs).2.length]? = some (.num k):=by
   rw [jO,List.getElem?_append_right (Nat.le_refl _),Nat.sub_self];rfl
  have e2:pe[(cR l cs).2.length+1]? = some (cR l cs).1:=by
   rw [jO,List.getElem?_append_right (by omega),Nat.add_sub_cancel_left];rfl
  exact .cons (hI a hle (List.getElem?_eq_some_iff.1 ha).1) ha (hI _ hge (by omega)) e1 (V6 l cs pe _ ⟨_,jO⟩ e2 hI (by omega))
theorem SR.ahJ {I:Nat→Prop} {z:Nat} {R:Rl} {m m':Rn} {x:Cl} {bf V7:List Fm} (h:SR I z R bf m m') (hf:m.aO=[]):SR I z R V7 m { m'.put z x with aO:=V7}:=by
 refine ⟨fun a b hr=>?_,h.inj,h.fn,⟨[],by rw [List.append_nil],by rw [hf];trivial⟩,h.told,h.kind,h.stuck,h.val,h.nZ,by simpa [Rn.put] using h.lJ⟩;obtain ⟨u,v,h1,h2,h3⟩:=h.cell a b hr
 exact ⟨u,v,h1,by
  show (m'.cells.set z x)[b]? = _
  rw [List.getElem?_set_ne (fun e=>h.nZ a b hr e.symm)];exact h2,h3⟩
theorem ahK {p:Pg} {name:ByteArray} {t:Ty} {input:List Int} {fuel:Int} {a:Rn} (hp:(p.ak.map Df.name).Nodup) (hq:((nu p name t input).ak.map Df.name).Nodup)
   (hC:(aG (cw p fuel).fields di).getD 0=2) (hN:(aG (cw p fuel).fields kP).getD 0=0) (h:runM p fuel name true input=some a) :
   ∃ a' k,ER a a'∧0≤a'.steps∧runN k (nu p name t input) a'.steps (name++jl)=some a':=by
 let q:=nu p name t input
 let n:=p.ak.length
 have V8:q.ak=p.ak++[tI name t input]:=rfl;have hqn:q.ak[n]? = some (tI name t input):=by
  rw [V8,List.getElem?_append_right (Nat.le_refl _),Nat.sub_self];rfl
 have Eo:aG (mA q.ak 0 []) (name++jl)=some n:=by
  rw [Gr _ _ _ _ hq,VO (g:=name++jl) hq hqn rfl];simp
 let m0:Rn:={ cells:=(dI q).cells.set n .busy,aO:=[.dz n,.app (se name input) []],told:=[],steps:=2,kind:=0,stuck:=0}
 have fy:(dI q).cells=(dI p).cells++[.wait (se name input) []]:=by
  show (p.ak++[tI name t input]).map _=_;rw [List.map_append];rfl
 have sr:(dI p).cells.length=n:=by show (p.ak.map _).length=_;rw [List.length_map]
 have hcn:(dI q).cells[n]? = some (.wait (se name input) []):=by
  rw [fy,List.getElem?_append_right (by omega),sr,Nat.sub_self];rfl
 have r0:∀ G,2≤G→Reach (cw q G) (.go (lH (name++jl)) []) (dI q) (.go (lH name) []) m0:=fun G hG=>by
  have b1:iS (cw q G) (lH (name++jl)) [] { (dI q) with steps:=(dI q).steps+1}=some (some (.go (se name input) []),({ (dI q) with steps:=1}.put n .busy).push (.dz n)):=by
   show (aG (mA q.ak 0 []) (name++jl)).map (dC { (dI q) with steps:=0+1})=_;rw [Eo];show some (dC { (dI q) with steps:=0+1} n)=_;unfold dC;rw [show ({ (dI q) with steps:=0+1}:Rn).cells[n]? = _ from hcn];rfl
  refine (Reach.go (show (0:Int)≠G by omega) b1).trans ?_;exact Reach.go (X:=cw q G) (e:=se name input) (v:=[]) (md':=.go (lH name) []) (m':=m0) (m:=({ (dI q) with steps:=1}.put n .busy).push (.dz n)) (show (1:Int)≠G by omega) rfl
 let R0:Rl:=fun a b=>a=b∧a < n
 have hX:tH (cw p fuel) (cw q 0) R0:=⟨rfl,hC,hN,fun g c hg=>by
  have hg:aG (mA p.ak 0 []) g=some c:=hg;rw [Gr _ _ _ _ hp] at hg;cases hi:p.ak.findIdx? (fun d=>decide (d.name=g)) with
  | none=>rw [hi] at hg;cases hg
  | some j=>
   rw [hi] at hg;have hj:j=c:=by simpa using hg
   subst hj;obtain ⟨aP,hd,_⟩:=List.findIdx?_eq_some_iff_getElem.1 hi;refine ⟨j,?_,rfl,aP⟩;show aG (mA q.ak 0 []) g=_;have hqj:q.ak[j]? = some p.ak[j]:=by rw [V8,List.getElem?_append_left aP,List.getElem?_eq_getElem aP]
   rw [Gr _ _ _ _ hq,VO (g:=g) hq hqj (by simpa using hd)]
   simp⟩
 have jo:SR (fun _=>False) n R0 [.dz n,.app (se name input) []] (dI p) m0:=by
  refine ⟨?_,?_,?_,⟨[],rfl,trivial⟩,rfl,rfl,rfl,fun a h=>h.elim,?_,?_⟩
  ·rintro a _ ⟨rfl,ha⟩;have hx:(dI p).cells[a]? = some (.wait (p.ak[a]'ha).body []):=by
    show (p.ak.map _)[a]? = _;rw [List.getElem?_map,List.getElem?_eq_getElem ha];rfl
   refine ⟨_,.wait (p.ak[a]'ha).body [],hx,?_,.same (.wait _ trivial)⟩;show ((dI q).cells.set n .busy)[a]? = _;rw [List.getElem?_set_ne (by omega),fy,List.getElem?_append_left (by omega)];exact hx
  ·rintro a a' _ ⟨rfl,_⟩ ⟨rfl,_⟩;rfl
  ·rintro a _ _ _ ⟨rfl,_⟩ ⟨rfl,_⟩;rfl
  ·rintro a _ ⟨rfl,h⟩ e;omega
  ·show n < ((dI q).cells.set n .busy).length;rw [List.length_set,fy,List.length_append,sr];simp
 have fin:∀ {a a':Rn} {n1:Nat},ER a a'→(2:Int)≤a'.steps→cF (cw q a'.steps) n1 (.go (lH name) []) m0=some (none,a')→∃ a' k,ER a a'∧0≤a'.steps∧runN k q a'.steps (name++jl)=some a':=fun {a a' n1} h1 h2 h3=>by
  obtain ⟨k,hk⟩:=r0 _ h2 _ _ h3;refine ⟨a',k,h1,by omega,?_⟩;unfold runN;rw [hk]
 unfold runM at h
 split at h
 ·cases h
 ·rename_i m1 hg;cases h;have key:=A3 (X:=cw p fuel) (X':=cw q 0) _ hX jo (.go (lH name) (v:=[]) (v':=[]) trivial) hg;cases key with
  | off h1 h2 h3=>
   obtain ⟨k,hk⟩:=h3;exact fin h1 h2 hk
 ·rename_i x m1 hg;have key:=A3 (X:=cw p fuel) (X':=cw q 0) _ hX jo (.go (lH name) (v:=[]) (v':=[]) trivial) hg;cases key with
  | @val _ x' _ dZ R1 fx bX bC mM FY js=>
  have FY:(2:Int)≤dZ.steps:=FY;have eD:=Gw bC mM;rw [if_pos rfl] at h;obtain ⟨tl,nB,gW⟩:=V5 input m1.cells
  let m2:Rn:=(m1.ls input).new (cR input m1.cells).1
  have Gx:m2.cells=(cR input m1.cells).2++[(cR input m1.cells).1]:=rfl;have Ni:m2.cells=m1.cells++(tl++[(cR input m1.cells).1]):=by rw [Gx,nB,List.append_assoc]
  have hge:=Nh input m1.cells
  let c:=(m1.ls input).cells.length
  have ie:c=(cR input m1.cells).2.length:=rfl;have ahL:m2.cells.length=c+1:=by rw [Gx,List.length_append];rfl
  let I1:Nat→Prop:=fun i=>m1.cells.length≤i∧i < c+1
  have jd:m2.cells[c]? = some (cR input m1.cells).1:=by rw [Gx,ie,List.getElem?_append_right (Nat.le_refl _),Nat.sub_self];rfl
  have eT:rY m2.cells I1 c input:=V6 input m1.cells m2.cells c ⟨_,Gx⟩ jd (fun i h1 h2=>⟨h1,by omega⟩) (by omega)
  let mH:Rn:={ dZ with aO:=[.dz n]}.new (.wait (gJ input) [])
  have bK:SR I1 n (xf R1 c dZ.cells.length) [.dz n] m2 mH:=by
   have kZ:∀ (a:Nat) (u:Cl),dZ.cells[a]? = some u→mH.cells[a]? = some u:=fun a u hy=>by
    show (dZ.cells++_)[a]? = _;rw [List.getElem?_append_left (List.getElem?_eq_some_iff.1 hy).1];exact hy
   refine ⟨fun a b hr=>?_,fun a a' b h1 h2=>?_,fun a b b' hn h1 h2=>?_,⟨[],rfl,by show cX _ m1.aO _;rw [mM];trivial⟩,bC.told,bC.kind,bC.stuck,fun a ha=>?_,fun a b hr=>?_,?_⟩
   ·rcases hr with hr | ⟨rfl,rfl⟩
    ·obtain ⟨u,u',h1,h2,h3⟩:=bC.cell a b hr;refine ⟨u,u',?_,kZ _ _ h2,?_⟩
     ·rw [Ni,List.getElem?_append_left (List.getElem?_eq_some_iff.1 h1).1];exact h1
     ·cases h3 with
      | same h=>exact .same (h.mono pI)
      | list h=>exact h.M4.elim
      | num h=>exact h.elim
    ·refine ⟨_,.wait (gJ input) [],jd,?_,.list eT⟩;show (dZ.cells++_)[_]? = _;simp
   ·rcases h1 with h1 | ⟨rfl,rfl⟩
    ·rcases h2 with h2 | ⟨rfl,rfl⟩
     ·exact bC.inj _ _ _ h1 h2
     ·have:=(bC.lt h1).2;omega
    ·rcases h2 with h2 | ⟨rfl,_⟩
     ·have:=(bC.lt h2).2;omega
     ·rfl
   ·rcases h1 with h1 | ⟨rfl,rfl⟩
    ·rcases h2 with h2 | ⟨rfl,rfl⟩
     ·exact bC.fn _ _ _ (fun h=>h) h1 h2
     ·exact absurd ⟨by omega,by omega⟩ hn
    ·exact absurd ⟨by omega,by omega⟩ hn
   ·obtain ⟨h1,h2⟩:=ha;rw [Ni,List.getElem?_append_right h1];have aP:a - m1.cells.length < (tl++[(cR input m1.cells).1]).length:=by
     have:=congrArg List.length Ni;rw [List.length_append,ahL] at this;omega
    refine ⟨_,List.getElem?_eq_getElem aP,?_⟩;rcases List.mem_append.1 (List.getElem_mem aP) with h | h
    ·exact gW _ h
    ·rw [List.mem_singleton.1 h];obtain ⟨kn,kf,e⟩:=AP input m1.cells;rw [e];rfl
   ·rcases hr with hr | ⟨_,rfl⟩
    ·exact bC.nZ _ _ hr
    ·have:=bC.lJ;omega
   ·have:=bC.lJ;show n < (dZ.cells++_).length;rw [List.length_append];omega
  have V9:tH (cw p fuel) (cw q 0) (xf R1 c dZ.cells.length):=(hX.mono fx).mono pI;have hga:∀ r',lE mH x' dZ.cells.length=some r'→iT (.app (se name input) []) x' { dZ with aO:=dZ.aO.dropLast}=some r':=fun r' sC=>by
   rw [eD];exact sC
  have call:∀ {ra:Option Cl×Rn},qn (cw p fuel) iA x c m2=some ra→uV (cw p fuel) (cw q 0) I1 n (xf R1 c dZ.cells.length) [.dz n] (.val x') dZ ra:=fun {ra} sg=>by
   unfold qn at sg;cases Gy:lE m2 x c with
   | none=>rw [Gy] at sg;cases sg
   | some r=>
    rw [Gy] at sg;obtain ⟨r',h1,h2⟩:=VW (X':=cw q 0) bK (bX.mono pI) (.inr ⟨rfl,rfl⟩) Gy;have jZ:=hga r' h1;have hl:dZ.aO.getLast? = some (.app (se name input) []):=by rw [eD];rfl
    cases h2 with
    | off q1 q2=>
     cases sg;rename_i b b';have q2:b'.steps=dZ.steps:=q2;refine .off q1 (by omega) ⟨1,?_⟩;rw [cF,hl];simp only [jZ]
    | @on md tG md' b b' V' R' q1 q2 q3 q4 q5=>
     have q4:dZ.steps≤V'.steps:=q4;have key:uV (cw p fuel) (cw q 0) I1 n R' [.dz n] md' V' ra:=by
      cases q2 with
      | go e hv=>exact A3 iA (V9.mono q1) q3 (.go e hv) sg
      | val hx=>
       cases sg;have hb:b.aO=[]:=by
        have:=CY Gy;have h9:=this.CW _ rfl;exact List.eq_nil_of_length_eq_zero (Nat.le_zero.1 (by rw [show m2.aO=[] from mM] at h9;exact h9))
       exact .val (fun _ _ h=>h) hx q3 hb (Int.le_refl _) (fun _ _=>.refl)
     exact key.pre q1 q4 (fun G hG=>(Reach.val hl jZ).trans (q5 G hG))
  split at h
  ·cases h
  ·rename_i b sg;cases h;have key:=call sg;cases key with
   | @off _ b' h1 h2 h3=>
    obtain ⟨k,hk⟩:=h3;obtain ⟨k,hk⟩:=js b'.steps h2 k _ hk;exact fin h1 (by omega) hk
  ·rename_i y b sg;have key:=call sg;cases key with
   | @val _ y' _ b' R3 h1 h2 h3 h4 h5 h6=>
   have Wa:=Gw h3 h4;have h7:SR I1 n R3 [] b { b'.put n y' with aO:=[]}:=h3.ahJ h4;obtain ⟨a',k,e1,e2,e3⟩:=V2 iA ((V9.mono h1)) h7 h4 h2 (ws:=[]) (ws':=[]) trivial h;have e2:b'.steps≤a'.steps:=e2;refine ⟨a',?_⟩;have eW:Reach (cw q a'.steps) (.val y') b' (.val y') { b'.put n y' with aO:=[]}:=Reach.val (f:=.dz n) (by rw [Wa];rfl) (by rw [Wa];rfl);obtain ⟨k2,iQ⟩:=(((r0 a'.steps (by omega)).trans (js a'.steps (by omega))).trans ((h6 a'.steps e2).trans eW)) 1 (some y',{ b'.put n y' with aO:=[]}) rfl;refine ⟨max k k2,e1,by omega,?_⟩;unfold runN;rw [A4 _ iQ _ (by omega)];exact Gv _ e3 _ (by omega)
end
section
open Go Go.W
theorem ahM (l m:List qE):oV (l++m) l=true:=by
 induction l with
 | nil=>cases m<;>rfl
 | cons a l ih=>simp [oV,yT,ih]
structure ahN (a b:Rn):Prop where
 beg:oV a.told b.told=true
 done:a.kind=2→b.kind=2→a.told.length=b.told.length
 stuck:a.kind=3→b.kind=3→a.stuck=b.stuck
theorem Wb {ds:List Dt} {N:Nat} {t:Ty} (h:tz ds N t=some true):t.kind≠3:=by
 intro hk;unfold tz at h;cases N with
 | zero=>rw [iy] at h;cases h
 | succ n=>rw [iy] at h;simp only [if_pos hk] at h;cases h
theorem ahO {p:Pg} {fuel:Int} (h:im p=0):(aG (cw p fuel).fields di).getD 0=2∧(aG (cw p fuel).fields kP).getD 0=0:=by
 obtain ⟨Q,hQ⟩:=Gb h;obtain ⟨_,_,hx⟩:=U4 (fuel:=fuel) hQ;obtain ⟨E1,h1,h2,_,_,Mu,Dq⟩:=Mt hQ;have hC:=hx.fields _ _ (Dq di (dList,1) (by rw [wZ];rfl));have hN:=hx.fields _ _ (Dq kP (dList,0) (by rw [wZ];rfl));exact ⟨hC,hN⟩
theorem ahP {p:Pg} {N:Nat} {name:ByteArray} {input:List Int} {fuel more:Int} {r r':Int×Option Rn} {d:Df} (h:lI p N name input fuel=some r) (h0:r.1=0) (hd:d∈p.ak) (rV:d.name=name) (hk:d.type.kind=3)
   (hc:im (nu p name (d.type.args.getD 1 default) input)=0) (h':lI (nu p name (d.type.args.getD 1 default) input) N (name++jl) [] more=some r') :
   (r'.1≠0→r'.1=1∧(more < 0∨more > 1048576))∧(r'.1=0→∃ a b,r=(0,some a)∧r'=(0,some b)∧ahN a b):=by
 obtain ⟨fX,a,rfl,he,hf,hr⟩:=Gn h h0;have o6:im p=0:=by
  unfold lI at h
  split at h
  ·cases h
  ·split at h
   ·cases h
   ·split at h
    ·cases h
    ·split at h
     ·simp at h
     ·rename_i q1;exact Classical.byContradiction q1
 have hp:=M6 o6;have hq:=M6 hc;unfold rU at he;rw [Gs _ hp hd rV] at he
 split at he
 ·cases he
 rename_i gk;obtain ⟨ok,fM,e⟩:=Option.map_eq_some_iff.1 he;obtain ⟨e1,rfl⟩:(jk d).2=fX∧ok=true:=by simpa using e
 have hT:jk d=(d.type.args.getD 1 default,true):=by
  have h2:=(Gc o6 d hd).1 hk;rw [Ml d hk h2] at fM ⊢;by_cases q:rM d.type.args[0]=true
  ·rw [if_pos q];simp [List.getD,h2]
  ·rw [if_neg q] at fM;exact absurd hk (Wb fM)
 rw [hT] at fM e1;have e1:fX=true:=e1.symm;subst e1;have iI:=Wb fM;have xc:rU (nu p name (d.type.args.getD 1 default) input) N (name++jl)=some (false,true):=by
  unfold rU;rw [Gs (g:=name++jl) (d:=tI name (d.type.args.getD 1 default) input) _ hq (by unfold nu;simp) rfl,if_neg (by simp [tI])];have CQ:jk (tI name (d.type.args.getD 1 default) input)=(d.type.args.getD 1 default,false):=by
   unfold jk;rw [if_neg]
   ·rfl
   ·have:((tI name (d.type.args.getD 1 default) input).type.kind == 3)=false:=by
     have iQ:(tI name (d.type.args.getD 1 default) input).type.kind≠3:=iI
     simpa using iQ
    rw [this];simp
  rw [CQ];have ahQ:tz (nu p name (d.type.args.getD 1 default) input).aH N (d.type.args.getD 1 default)=some true:=fM;rw [ahQ];rfl
 refine ⟨fun hn=>?_,fun hz=>?_⟩
 ·unfold lI at h';rw [if_neg (by simp),if_neg (by simp [tB])] at h'
  split at h'
  ·rename_i q;cases h';exact ⟨rfl,q⟩
  ·rw [if_neg (by rw [hc];simp),xc] at h';obtain ⟨b,hb,rfl⟩:=Option.map_eq_some_iff.1 h';exact absurd rfl hn
 ·obtain ⟨t2,b,rfl,g1,g2,g3⟩:=Gn h' hz;rw [xc] at g1;cases g1;obtain ⟨q1,q2⟩:=ahO (fuel:=fuel) o6;obtain ⟨c,k,xh,c0,oN⟩:=ahK hp hq q1 q2 hr;rw [Ng] at g3;refine ⟨a,b,rfl,rfl,?_⟩;have u1:=V3 oN (show k≤max k iA by omega);have u2:=V3 g3 (show iA≤max k iA by omega);rcases Int.le_total c.steps more with hle | hle
  ·obtain ⟨w1,l,w2⟩:=V4 c0 hle u1 u2;refine ⟨by rw [w2,xh.told];exact Vx _ _,fun k1 k2=>?_,fun k1 k2=>?_⟩
   ·rw [w1 (by rw [xh.kind,k1];decide),xh.told]
   ·rw [w1 (by rw [xh.kind,k1];decide),xh.stuck]
  ·obtain ⟨w1,l,w2⟩:=V4 g2.1 hle u2 u1;refine ⟨by rw [← xh.told,w2];exact ahM _ _,fun k1 k2=>?_,fun k1 k2=>?_⟩
   ·rw [← w1 (by rw [k2];decide),xh.told]
   ·rw [← w1 (by rw [k2];decide),xh.stuck]
theorem ahR {p:Pg} {N:Nat} {name:ByteArray} {input:List Int} {fuel:Int} {r:Int×Option Rn} {d:Df} (h:lI p N name input fuel=some r) (h0:r.1=0) (hd:d∈p.ak) (rV:d.name=name) (hk:d.type.kind≠3) :
   lI p N name [] fuel=some r∧∃ a,r=(0,some a):=by
 obtain ⟨fX,a,rfl,he,hf,hr⟩:=Gn h h0;unfold lI at h ⊢
 split at h
 ·cases h
 ·rw [if_neg (by simp)]
  split at h
  ·cases h
  ·rw [if_neg (by simp [tB])]
   split at h
   ·cases h
   ·rename_i q3;rw [if_neg q3]
    split at h
    ·simp at h
    ·rename_i q4;rw [if_neg q4,he];have hp:=M6 (Classical.byContradiction q4);unfold rU at he;rw [Gs _ hp hd rV] at he
     split at he
     ·cases he
     obtain ⟨ok,fM,e⟩:=Option.map_eq_some_iff.1 he;have e1:fX=false:=by
      have e2:(jk d).2=fX:=by simp at e;exact e.1
      rw [← e2];unfold jk;rw [if_neg];have:(d.type.kind == 3)=false:=by simpa using hk
      rw [this];simp
     subst e1;refine ⟨?_,a,rfl⟩;rw [Ng] at hr;simp only;rw [Ng,hr];rfl
end
section
open Go Go.W
section
variable {P:Program} {N:Nat} {ops:Array Oper} {K:Go.W.Env→World→Prop} {dl:List Deferred} {Inv:(Nat→Bool)→Go.W.Env→World→Prop}
theorem ahS (aP:∀ i o,ops[i]? = some o→∀ e∈o.after,Region.binds .any e=true→e.on < i)
   (iV:∀ i o (L:Nat→Bool) aw w',ops[i]? = some o→L i=false→(∀ e∈o.after,Region.binds .any e=true→L e.on=true)→Inv L aw w'→∃ st,iM P N ops [o]=some st∧wpS P st aw w' (fun fj w2=>Inv (fun j=>decide (j=i)||L j) fj w2))
   (kX:∀ (L:Nat→Bool) aw w',(∀ i,i < ops.size→L i=true)→Inv L aw w'→K aw w') :
   ∀ (f:Nat) (listed:Array Bool) (aw:Go.W.Env) (a:Act) (w':World),listed.size=ops.size→listed.toList.count false≤f→Go.W.Good dl N aw a→Inv (fun i=>listed.getD i false) aw w'→lL P ops (fun _ _=>False) (pO dl N K) f listed a w':=by
 have all:∀ (listed:Array Bool),listed.size=ops.size→Region.ready .any ops listed=[]→∀ i,i < ops.size→listed.getD i false=true:=by
  intro listed cZ hr i
  induction i using Nat.strongRecOn with
  | _ i ih=>
   intro hi;cases hl:listed.getD i false with
   | true=>rfl
   | false=>
    exfalso;have du:i∈Region.ready .any ops listed:=by
     rw [mem_ready];have eU:i < listed.size:=by omega
     refine ⟨by simpa [eU] using hl,ops[i],by simp [hi],fun e he hb=>?_⟩;have:=aP i _ (by simp [hi]) e he hb;exact ih _ this (by omega)
    rw [hr] at du;cases du
 intro f
 induction f with
 | zero=>
  intro listed aw a w' cZ KM hg hI;have hr:Region.ready .any ops listed=[]:=by
   refine List.eq_nil_iff_forall_not_mem.2 fun i hi=>?_
   obtain ⟨h0,o,ho,_⟩:=mem_ready.1 hi;have eU:i < listed.size:=by have:=(Array.getElem?_eq_some_iff.1 ho).1;omega
   have:false∈listed.toList:=by
    have h1:listed[i]=false:=by simpa [eU] using h0
    rw [← h1];exact Array.getElem_mem_toList eU
   have:=List.count_pos_iff.2 this;omega
  exact ⟨hr,aw,hg,kX _ aw w' (all listed cZ hr) hI⟩
 | succ f ih=>
  intro listed aw a w' cZ KM hg hI;refine ⟨fun hr=>⟨aw,hg,kX _ aw w' (all listed cZ hr) hI⟩,fun i hi=>?_⟩;obtain ⟨h0,o,ho,cN⟩:=mem_ready.1 hi;have hio:i < ops.size:=(Array.getElem?_eq_some_iff.1 ho).1;have eU:i < listed.size:=by omega
  have hf:listed.getD i false=false:=by
   have h1:listed[i]=false:=by simpa [eU] using h0
   simp [eU,h1]
  obtain ⟨st,bz,jn⟩:=iV i o (fun i=>listed.getD i false) aw w' ho hf cN hI;have kI:=zk (G:=fun a2 w2=>∃ fj,Go.W.Good dl N fj a2∧Inv (fun j=>decide (j=i)||listed.getD j false) fj w2) [o] st aw a w' _ bz jn hg
   (fun fj a2 w2 gZ e=>⟨fj,gZ,e⟩)
  have next:∀ a2 w2,(∃ fj,Go.W.Good dl N fj a2∧Inv (fun j=>decide (j=i)||listed.getD j false) fj w2)→(fun a' dP=>Go.W.Kept ((fun _ _=>False:Nat→Nat→Prop) i) w' dP∧lL P ops (fun _ _=>False) (pO dl N K) f (listed.setIfInBounds i true) a' dP) a2 w2:=by
   rintro a2 w2 ⟨fj,gZ,hI2⟩;refine ⟨fun b hb=>hb.elim,ih _ _ a2 w2 (by simp [cZ]) ?_ gZ ?_⟩
   ·have h1:listed.toList[i]'(by simpa using eU)=false:=by simpa [eU] using h0
    have bH:=List.count_set (a:=true) (b:=false) (l:=listed.toList) (i:=i) (by simpa using eU);rw [h1] at bH;simp only [Array.toList_setIfInBounds];rw [bH,if_pos (show (false == false)=true from rfl),if_neg (show ¬ (true == false)=true by decide)];omega
   ·have e:(fun j=>(listed.setIfInBounds i true).getD j false)=fun j=>decide (j=i)||listed.getD j false:=by
     funext j
     by_cases lM:j=i
     ·subst lM;simp [eU]
     ·rw [getD_set_ne false (Ne.symm lM)];simp [lM]
    rw [e];exact hI2
  refine ⟨o,ho,?_⟩;unfold jN at kI
  split
  ·rename_i hw;rw [if_pos hw] at kI;exact Oper.wp_mono (fun a2 w2 KN=>next a2 w2 KN) kI
  ·rename_i hw;rw [if_neg hw] at kI;exact next _ _ kI
theorem ahT {id:Nat} {Q:Post} {ρ:Go.W.Env} {w:World} {n:Nat} {deps:List (List Nat)} {wm:List Go.W.S} (Inv:(Nat→Bool)→Go.W.Env→World→Prop) (hm:P.follows .mixedOrders=true)
   (KP:ops.toList.map waits=deps) (aP:(deps.zipIdx.all fun x=>x.1.all fun j=>decide (j < x.2))=true) (bz:iM P N ops ops.toList=some wm) (hn:ops.size=n)
   (h0:Inv (fun _=>false) ρ w.drew)
   (iV:∀ i s (L:Nat→Bool) aw w',wm[i]? = some s→L i=false→(∀ j∈deps.getD i [],L j=true)→Inv L aw w'→wpS P [s] aw w' (fun fj w2=>Inv (fun j=>decide (j=i)||L j) fj w2))
   (kX:∀ (L:Nat→Bool) aw w',(∀ i,i < n→L i=true)→Inv L aw w'→Q .normal aw w') :
   cH P N (.raw (.region id ops true)) Q ρ w:=by
 have dep:∀ (i:Nat) (o:Oper),ops[i]? = some o→deps.getD i []=waits o:=by
  intro i o ho;rw [← KP];simp [List.getD,ho]
 have mem:∀ (o:Oper) (e:Edge),e∈o.after→Region.binds .any e=true→e.on∈waits o:=by
  intro o e he hb;unfold waits;exact List.mem_map_of_mem (List.mem_filter.2 ⟨Array.mem_toList_iff.2 he,hb⟩)
 intro dl a hg;refine wp_region_any hm (G6 (B:=fun _ _=>False) (Q:=pO dl N (fun aw w'=>Q .normal aw w')) (fun a' w' ⟨aw,h1,h2⟩=>⟨aw,h1,h2⟩) _ _ _ _ ?_);refine ahS (Inv:=Inv) ?_ ?_ (fun L aw w' hL hI=>kX L aw w' (by rw [← hn];exact hL) hI) _ _ ρ a _ (by simp) ?_ hg ?_
 ·intro i o ho e he hb;have h1:e.on∈deps.getD i []:=by rw [dep i o ho];exact mem o e he hb
  have hi:i < deps.length:=by
   rcases Nat.lt_or_ge i deps.length with h | h
   ·exact h
   ·simp [List.getD,List.getElem?_eq_none h] at h1
  rw [List.all_eq_true] at aP;have h2:(deps[i],i)∈deps.zipIdx:=by
   rw [List.mem_zipIdx_iff_getElem?];exact List.getElem?_eq_getElem hi
  have h3:=aP _ h2;rw [List.all_eq_true] at h3;have h4:deps.getD i []=deps[i]:=by simp [List.getD,List.getElem?_eq_getElem hi]
  rw [h4] at h1
  simpa using h3 _ h1
 ·intro i o L aw w' ho hL hb hI;obtain ⟨s,hs,hr⟩:=KO (ops:=ops) ops.toList wm i o bz (by simpa using ho);refine ⟨_,hr,iV i s L aw w' hs hL (fun j hj=>?_) hI⟩;rw [dep i o ho] at hj;unfold waits at hj;obtain ⟨e,he,rfl⟩:=List.mem_map.1 hj;obtain ⟨vj,sy⟩:=List.mem_filter.1 he;exact hb e (Array.mem_toList_iff.1 vj) sy
 ·exact Nat.le_trans List.count_le_length (by simp)
 ·have e:(fun i=>(Array.replicate ops.size false).getD i false)=fun _=>false:=by
   funext i
   rcases Nat.lt_or_ge i ops.size with h | h
   ·simp [h]
   ·simp [h]
  rw [e];exact h0
end
end
section
open Go Go.W
noncomputable def A5:Array Oper:=((Tryz.f6.body.bind (wo 23)).getD #[])
def Wc:IR:=.seq (.seq (.cS false [.r (some 53) (.fa 1 (.t 5)),
.r (some 54) (.l1 (.t 53)),
.r (some 55) (.len (.t 54)),
.r (some 56) (.bi .lss (.t 16) (.t 55))] [1,2,3,4,5,13,15,16,56]) <|
 .cond (.t 56) (.skip) ((.exit 0))) <|
 .seq (.block 1 (.seq (.cS false [.r (some 59) (.fa 1 (.t 5)),
.r (some 60) (.l1 (.t 59)),
.r (some 62) (.ia 12 (.t 60) (.t 16)),
.r (some 63) (.fa 0 (.t 62)),
.r (some 64) (.l1 (.t 63)),
.r (some 66) (.bi .eql (.t 64) (.t 1))] [1,2,3,4,5,13,15,16,66]) <|
 .cond (.t 66) (.cS false [.r (some 67) (.fa 1 (.t 5)),
.r (some 68) (.l1 (.t 67)),
.r (some 70) (.ia 12 (.t 68) (.t 16)),
.r (some 71) (.ln 12 (.t 70)),
.e none (.st 12 (.t 15) (.t 71))] [1,2,3,4,5,13,15,16]) (.skip))) <|
 .cS false [.r (some 58) (.bi .add (.t 16) (.c (.int .i64 1))),
.r (some 16) (.mv (.t 58))] [1,2,3,4,5,13,15,16]
noncomputable def Wd:IR:=.seq (.cS false [.e (some 5) (.bx 25 (.t 0))] [1,2,3,4,5]) <|
 .seq (.cS false [.r (some 28) (.ln 2 (.t 5)),
.e (some 29) (.call 7 [(.t 28)]),
.r (some 11) (.mv (.t 29))] [1,2,3,4,5,11]) <|
 .seq (.seq (.cS false [.r (some 30) (.mv (.t 11))] [1,2,3,4,5,30]) <|
 .cond (.t 30) (.seq (.cS false [.r (some 10) (.mv (.c (.bool true)))] [10]) <|
 .ret) (.skip)) <|
 .seq (.cS false [.e (some 31) (.call 8 []),
.r (some 12) (.mv (.t 31))] [1,2,3,4,5,12]) <|
 .seq (.seq (.cS false [.r (some 33) (.len (.t 2)),
.r (some 34) (.bi .gtr (.t 33) (.c (.int .i64 300)))] [1,2,3,4,5,12,34]) <|
 .cond (.t 34) (.cS false [.r (some 36) (.sl 1 (.t 2) none (some (.c (.int .i64 300))) none),
.r (some 2) (.mv (.t 36))] [1,2,3,4,5,12]) (.skip)) <|
 .seq (.cS false [.r (some 38) (.ln 2 (.t 5)),
.e (some 42) (.call 9 [(.t 38),(.t 1),(.t 2),(.t 3)]),
.r (some 43) (.ex 0 (.t 42)),
.r (some 44) (.ex 1 (.t 42)),
.e (some 13) (.al 34 (.agg #[(.int .i64 0),(.slice none 0 0),(.int .i64 0),(.int .i64 0),(.int .i64 0),(.int .i64 0),(.int .i64 0),(.string ⟨#[]⟩)])),
.e none (.st 8 (.t 13) (.t 43)),
.r (some 14) (.mv (.t 44))] [1,2,3,4,5,12,13,14]) <|
 .seq (.seq (.cS false [.r (some 46) (.no (.t 12)),
.gr 46 false (some 48) (.mv (.t 14)),
.gr 46 false (some 49) (.bi .neq (.t 48) (.c (.int .i64 0))),
.r (some 50) (.pk (.t 46) (.c (.bool true)) (.t 49))] [1,2,3,4,5,12,13,50]) <|
 .cond (.t 50) (.seq (.cS false [.r (some 10) (.mv (.t 12))] [10]) <|
 .ret) (.skip)) <|
 .seq (.cS false [.e (some 15) (.al 49 (.agg #[(.string ⟨#[]⟩),(.slice none 0 0),(.int .i64 0),(.string ⟨#[]⟩),(.slice none 0 0),(.int .i64 0),(.string ⟨#[]⟩),(.int .i64 0),(.slice none 0 0),(.slice none 0 0),(.slice none 0 0),(.slice none 0 0)]))] [1,2,3,4,5,13,15]) <|
 .seq (.seq (.cS false [.r (some 16) (.mv (.c (.int .i64 0)))] [1,2,3,4,5,13,15,16]) <|
 .block 0 (.loop Wc)) <|
 .seq (.seq (.cS false [.r (some 72) (.fa 2 (.t 15)),
.r (some 73) (.fa 0 (.t 72)),
.r (some 74) (.l1 (.t 73)),
.r (some 75) (.bi .neq (.t 74) (.c (.int .i64 3)))] [1,2,3,4,5,13,15,75]) <|
 .cond (.t 75) (.seq (.cS false [.r (some 77) (.ln 2 (.t 5)),
.e (some 80) (.call 9 [(.t 77),(.t 1),(.c (.slice none 0 0)),(.t 3)]),
.r (some 81) (.ex 0 (.t 80)),
.r (some 82) (.ex 1 (.t 80)),
.e (some 17) (.al 34 (.agg #[(.int .i64 0),(.slice none 0 0),(.int .i64 0),(.int .i64 0),(.int .i64 0),(.int .i64 0),(.int .i64 0),(.string ⟨#[]⟩)])),
.e none (.st 8 (.t 17) (.t 81)),
.r (some 18) (.mv (.t 82))] [13,17,18]) <|
 .seq (.cS false [.r (some 83) (.ln 8 (.t 13)),
.r (some 84) (.ln 8 (.t 17)),
.e (some 85) (.call 11 [(.t 83),(.t 84)]),
.r (some 19) (.mv (.t 85))] [18,19]) <|
 .seq (.cS false [.r (some 87) (.bi .eql (.t 18) (.c (.int .i64 0))),
.gr 87 true (some 89) (.mv (.t 19)),
.r (some 90) (.pk (.t 87) (.t 89) (.c (.bool false))),
.r (some 10) (.mv (.t 90))] [10]) <|
 .ret) (.skip)) <|
 .seq (.cS false [.e (some 92) (.call 19 [(.t 2)]),
.e (some 20) (.al 47 (.agg #[(.int .i64 0),(.string ⟨#[]⟩),(.int .i64 0),(.slice none 0 0),(.slice none 0 0),(.slice none 0 0),(.slice none 0 0)])),
.e none (.st 7 (.t 20) (.t 92))] [1,4,5,13,15,20]) <|
 .seq (.cS false [.r (some 94) (.bd #[(.int .i64 0),(.string ⟨#[]⟩),(.int .i64 0),(.slice none 0 0),(.slice none 0 0),(.slice none 0 0),(.slice none 0 0)] [(0,1,(.c (.int .i64 3))),(1,1,(.t 1))]),
.r (some 95) (.ln 7 (.t 20)),
.e (some 96) (.bs 47 2 #[(.int .i64 0),(.string ⟨#[]⟩),(.int .i64 0),(.slice none 0 0),(.slice none 0 0),(.slice none 0 0),(.slice none 0 0),(.int .i64 0),(.string ⟨#[]⟩),(.int .i64 0),(.slice none 0 0),(.slice none 0 0),(.slice none 0 0),(.slice none 0 0)] [(0,7,(.t 94)),(7,7,(.t 95))]),
.r (some 97) (.bd #[(.int .i64 0),(.string ⟨#[]⟩),(.int .i64 0),(.slice none 0 0),(.slice none 0 0),(.slice none 0 0),(.slice none 0 0)] [(0,1,(.c (.int .i64 5))),(4,1,(.t 96))]),
.e (some 21) (.al 47 (.agg #[(.int .i64 0),(.string ⟨#[]⟩),(.int .i64 0),(.slice none 0 0),(.slice none 0 0),(.slice none 0 0),(.slice none 0 0)])),
.e none (.st 7 (.t 21) (.t 97))] [1,4,5,13,15,21]) <|
 .seq (.cS false [.r (some 99) (.bi .add (.t 1) (.c (.string ⟨#[32,119,105,116,104,32,105,110,112,117,116]⟩))),
.r (some 22) (.mv (.t 99))] [4,5,13,15,21,22]) <|
 .seq (.raw (.region 23 A5 true)) <|
 .seq (.cS false [.r (some 117) (.ln 2 (.t 23)),
.e (some 118) (.call 16 [(.t 117)]),
.r (some 24) (.mv (.t 118))] [4,13,22,23,24]) <|
 .seq (.seq (.cS false [.r (some 120) (.bi .neq (.t 24) (.c (.int .i64 0)))] [4,13,22,23,120]) <|
 .cond (.t 120) (.seq (.cS false [.r (some 10) (.mv (.c (.bool true)))] [10]) <|
 .ret) (.skip)) <|
 .seq (.cS false [.r (some 122) (.ln 2 (.t 23)),
.e (some 125) (.call 9 [(.t 122),(.t 22),(.c (.slice none 0 0)),(.t 4)]),
.r (some 126) (.ex 0 (.t 125)),
.r (some 127) (.ex 1 (.t 125)),
.e (some 25) (.al 34 (.agg #[(.int .i64 0),(.slice none 0 0),(.int .i64 0),(.int .i64 0),(.int .i64 0),(.int .i64 0),(.int .i64 0),(.string ⟨#[]⟩)])),
.e none (.st 8 (.t 25) (.t 126)),
.r (some 26) (.mv (.t 127))] [4,13,25,26]) <|
 .seq (.seq (.cS false [.r (some 129) (.bi .neq (.t 26) (.c (.int .i64 0)))] [4,13,25,26,129]) <|
 .cond (.t 129) (.seq (.cS false [.r (some 131) (.bi .eql (.t 26) (.c (.int .i64 1))),
.gr 131 true (some 133) (.mv (.t 4)),
.gr 131 true (some 134) (.bi .lss (.t 133) (.c (.int .i64 0))),
.gr 131 true (some 135) (.mv (.t 134)),
.gr 135 false (some 136) (.mv (.t 4)),
.gr 135 false (some 137) (.bi .gtr (.t 136) (.c (.int .i64 1048576))),
.gr 131 true (some 138) (.pk (.t 135) (.c (.bool true)) (.t 137)),
.r (some 139) (.pk (.t 131) (.t 138) (.c (.bool false))),
.r (some 10) (.mv (.t 139))] [10]) <|
 .ret) (.skip)) <|
 .seq (.cS false [.r (some 140) (.ln 8 (.t 13)),
.r (some 141) (.ln 8 (.t 25)),
.e (some 142) (.call 10 [(.t 140),(.t 141)]),
.r (some 27) (.mv (.t 142))] [13,25,27]) <|
 .seq (.seq (.cS false [.r (some 143) (.fa 0 (.t 13)),
.r (some 144) (.l1 (.t 143)),
.r (some 145) (.bi .eql (.t 144) (.c (.int .i64 2))),
.gr 145 true (some 147) (.fa 0 (.t 25)),
.gr 145 true (some 148) (.l1 (.t 147)),
.gr 145 true (some 149) (.bi .eql (.t 148) (.c (.int .i64 2))),
.r (some 150) (.pk (.t 145) (.t 149) (.c (.bool false))),
.gr 150 true (some 152) (.fa 1 (.t 13)),
.gr 150 true (some 153) (.l1 (.t 152)),
.gr 150 true (some 154) (.len (.t 153)),
.gr 150 true (some 155) (.fa 1 (.t 25)),
.gr 150 true (some 156) (.l1 (.t 155)),
.gr 150 true (some 157) (.len (.t 156)),
.gr 150 true (some 158) (.bi .neq (.t 154) (.t 157)),
.r (some 159) (.pk (.t 150) (.t 158) (.c (.bool false)))] [13,25,27,159]) <|
 .cond (.t 159) (.seq (.cS false [.r (some 10) (.mv (.c (.bool false)))] [10]) <|
 .ret) (.skip)) <|
 .seq (.cS false [.gr 27 true (some 162) (.fa 0 (.t 13)),
.gr 27 true (some 163) (.l1 (.t 162)),
.gr 27 true (some 164) (.bi .neq (.t 163) (.c (.int .i64 3))),
.gr 27 true (some 165) (.mv (.t 164)),
.gr 165 false (some 166) (.fa 0 (.t 25)),
.gr 165 false (some 167) (.l1 (.t 166)),
.gr 165 false (some 168) (.bi .neq (.t 167) (.c (.int .i64 3))),
.gr 27 true (some 169) (.pk (.t 165) (.c (.bool true)) (.t 168)),
.gr 27 true (some 170) (.mv (.t 169)),
.gr 170 false (some 171) (.fa 2 (.t 13)),
.gr 170 false (some 172) (.l1 (.t 171)),
.gr 170 false (some 173) (.fa 2 (.t 25)),
.gr 170 false (some 174) (.l1 (.t 173)),
.gr 170 false (some 175) (.bi .eql (.t 172) (.t 174)),
.gr 27 true (some 176) (.pk (.t 170) (.c (.bool true)) (.t 175)),
.r (some 177) (.pk (.t 27) (.t 176) (.c (.bool false))),
.r (some 10) (.mv (.t 177))] [10]) <|
 .ret
theorem ahU:BR Tryz.prog 6 5 [(0,[1,2,3,4,5],[]),(1,[1,2,3,4,5,11],[]),(2,[1,2,3,4,5,30],[]),(3,[10],[]),(4,[1,2,3,4,5,12],[]),(5,[1,2,3,4,5,12,34],[]),(6,[1,2,3,4,5,12],[]),(7,[1,2,3,4,5,12,13,14],[]),(8,[1,2,3,4,5,12,13,50],[]),(9,[10],[]),(10,[1,2,3,4,5,13,15],[]),(11,[1,2,3,4,5,13,15,16],[]),(12,[1,2,3,4,5,13,15,16,56],[]),(13,[1,2,3,4,5,13,15,16],[]),(14,[1,2,3,4,5,13,15,16,66],[]),(15,[1,2,3,4,5,13,15,16],[]),(16,[1,2,3,4,5,13,15,75],[]),(17,[13,17,18],[]),(18,[18,19],[]),(19,[10],[]),(20,[1,4,5,13,15,20],[]),(21,[1,4,5,13,15,21],[]),(22,[4,5,13,15,21,22],[]),(23,[4,13,22,23],[0,1,0,0,8,28,0,0,128,384,896,1920,0,8128,16320,32764,65535,0,262143]),(24,[4,13,22,23,24],[]),(25,[4,13,22,23,120],[]),(26,[10],[]),(27,[4,13,25,26],[]),(28,[4,13,25,26,129],[]),(29,[10],[]),(30,[13,25,27],[]),(31,[13,25,27,159],[]),(32,[10],[]),(33,[10],[])] [23] Wd [.t 10] 178:=
 ⟨Tryz.f6,_,rfl,rfl,rfl,by decide,by kernel_rfl,by kernel_rfl⟩
def uW:List (List Nat):=[[],[0],[],[],[3],[2,4],[],[],[7],[8],[9],[10],[],[6,11,12],[13],[5,14,5],[1,15],[],[17,16,15,0,1,2,3,4,5,6,7,8,9,10,11,12,13,14,15,16,17]]
abbrev Gz:Array Value:=#[.string ⟨#[]⟩,.slice none 0 0,I 0,.string ⟨#[]⟩,.slice none 0 0,I 0,.string ⟨#[]⟩,I 0,.slice none 0 0,.slice none 0 0,.slice none 0 0,.slice none 0 0]
def We:List Go.W.S:=[.r (some 100) (.fa 0 (.t 5)),.r (some 101) (.l1 (.t 100)),.e (some 102) (.raw ⟨some 102,.buildSlice 23 0 #[],23, "law.go:303",#[],none⟩),
 .r (some 103) (.fa 1 (.t 5)),.r (some 104) (.l1 (.t 103)),.e (some 105) (.ap 49 12 216 Gz (.t 102) (.t 104)),.r (some 106) (.mv (.t 22)),.r (some 107) (.fa 2 (.t 15)),.r (some 108) (.fa 2 (.t 107)),
 .r (some 109) (.l1 (.t 108)),.r (some 110) (.ia 3 (.t 109) (.c (.int .i64 1))),.r (some 111) (.ln 3 (.t 110)),.r (some 112) (.ln 7 (.t 21)),.r (some 113) (.bd Gz [(0,1,.t 106),(2,3,.t 111),(5,7,.t 112)]),
 .e (some 114) (.bs 49 1 Gz [(0,12,.t 113)]),.e (some 115) (.ap 49 12 216 Gz (.t 105) (.t 114)),.r (some 116) (.bd #[.slice none 0 0,.slice none 0 0] [(0,1,.t 101),(1,1,.t 115)]),
 .e (some 23) (.al 25 (.agg #[.slice none 0 0,.slice none 0 0])),.e none (.st 2 (.t 23) (.t 116))]
theorem ahV:A5.toList.map waits=uW:=by kernel_rfl
theorem ahW:iM Tryz.prog 178 A5 A5.toList=some We:=by kernel_rfl
theorem ahX:A5.size=19:=by kernel_rfl
end
section
open Go Go.W
def tJ (i:Nat):Nat:=if i=17 then 23 else 100+i
theorem ahY {i j:Nat} (hi:i < 18) (hj:j < 18) (h:tJ i=tJ j):i=j:=by
 unfold tJ at h
 split at h<;>split at h<;>omega
theorem ahZ {i t:Nat} (hi:i < 18) (h1:t≠23) (h2:t < 100∨117≤t):tJ i≠t:=by
 unfold tJ
 split<;>omega
def pJ (L:Nat→Bool) (i:Nat):Bool:=(i == 2&&L 5)||((i == 5||i == 14)&&L 15)
structure GI (Φ:Nat→Value→World→Prop) (Fin:Go.W.Env→World→Prop) (w0:World) (mj:Go.W.Env) (L:Nat→Bool) (ρ:Go.W.Env) (w:World):Prop where
 mod:L 18=false→Mod (fun _=>False) w0 w
 bN:L 18=false→∀ t,t≠23→(t < 100∨117≤t)→ρ.get t=mj.get t
 up:L 18=false→∀ i,i < 18→L i=true→pJ L i=false→∃ v,ρ.get (tJ i)=some v∧Φ i v w
 fin:L 18=true→(∀ i,i < 18→L i=true)∧Fin ρ w
 cl:∀ i,L i=true→∀ j∈uW.getD i [],L j=true
section
variable {Φ:Nat→Value→World→Prop} {Fin:Go.W.Env→World→Prop} {w0 w w2:World} {mj ρ:Go.W.Env} {L:Nat→Bool}
theorem GI.on (h:GI Φ Fin w0 mj L ρ w) {i:Nat} (hi:i < 18) (hL:L i=false):L 18=false:=by
 cases e:L 18 with
 | false=>rfl
 | true=>rw [(h.fin e).1 i hi] at hL;cases hL
theorem ah0 {i j:Nat} (h:pJ (fun k=>decide (k=i)||L k) j=false):pJ L j=false:=by
 unfold pJ at h ⊢;cases h5:L 5<;>cases wk:L 15<;>simp_all
theorem Wf (h:∀ i,L i=true→∀ j∈uW.getD i [],L j=true) {i:Nat} (hd:∀ j∈uW.getD i [],L j=true):∀ k,(fun j=>decide (j=i)||L j) k=true→∀ j∈uW.getD k [],(fun j=>decide (j=i)||L j) j=true:=by
 intro k hk j hj;have:L j=true:=by
  by_cases e:k=i
  ·subst e;exact hd j hj
  ·exact h k (by simpa [e] using hk) j hj
 simp [this]
theorem GI.Nj (h:GI Φ Fin w0 mj L ρ w) {i:Nat} {v:Value} {R:Nat→Prop} (hi:i < 18) (hL:L i=false) (hd:∀ j∈uW.getD i [],L j=true) (hR:∀ b,R b→w0.heap.size≤b)
   (pt:∀ j v,j < 18→j≠i→L j=true→pJ (fun k=>decide (k=i)||L k) j=false→ρ.get (tJ j)=some v→Φ j v w→Φ j v w2) (hm:Mod R w w2) (hv:Φ i v w2):GI Φ Fin w0 mj (fun j=>decide (j=i)||L j) ((tJ i,v)::ρ) w2:=by
 have cI:=h.on hi hL;have n18:decide (18=i)=false:=decide_eq_false (by omega);refine ⟨fun _=>(h.mod cI).step hm (fun b hb hl=>by have:=hR b hb;omega),fun _ t h1 h2=>?_,fun _ j hj hj1 pS=>?_,fun hh=>?_,Wf h.cl hd⟩
 ·rw [qQ,if_neg (ahZ hi h1 h2)];exact h.bN cI t h1 h2
 ·by_cases e:j=i
  ·subst e;exact ⟨v,by rw [qQ,if_pos rfl],hv⟩
  ·have oa:L j=true:=by simpa [e] using hj1
   obtain ⟨u,h1,h2⟩:=h.up cI j hj oa (ah0 pS);exact ⟨u,by rw [qQ,if_neg (fun hh=>e (ahY hj hi hh.symm))];exact h1,pt j u hj e oa pS h1 h2⟩
 ·simp only [n18,Bool.false_or] at hh;rw [cI] at hh;cases hh
theorem GI.step (h:GI Φ Fin w0 mj L ρ w) (pt:∀ j v w w',Φ j v w→Mod (fun _=>False) w w'→Φ j v w') {i:Nat} {v:Value} (hi:i < 18) (hL:L i=false) (hd:∀ j∈uW.getD i [],L j=true) (hm:Mod (fun _=>False) w w2) (hv:Φ i v w2):GI Φ Fin w0 mj (fun j=>decide (j=i)||L j) ((tJ i,v)::ρ) w2:=
 h.Nj hi hL hd (fun _ h=>h.elim) (fun j v _ _ _ _ _ h=>pt j v _ _ h hm) hm hv
end
def GA (n0:Nat) (w:World) (v:Value) (l:List Df):Prop:=∃ fq xs n,dx w 49 12 v xs n fq∧aT w v 12 (fun b=>b < n0∨fq=some b) (ic w (fun b=>b < n0)) l
def GB (n0:Nat) (V:Nat→Value) (vd:Value) (rws row:List Value) (n:Nat) (l:List Df):Nat→Value→World→Prop
 | 2,v,w=>∃ b,v = .slice (some ⟨b,0,none⟩) 0 0∧w.heap[b]? = some (.cells #[] 49 (0,0))∧n0≤b
 | 5,v,w=>∃ fp,dx w 49 12 v rws n fp∧∀ b,fp=some b→n0≤b
 | 14,v,w=>∃ b,v = .slice (some ⟨b,0,none⟩) 1 1∧w.heap[b]? = some (.cells row.toArray 49 (0,0))∧n0≤b
 | 15,v,w=>GA n0 w v l
 | 16,v,w=>∃ u,v = .agg #[vd,u]∧GA n0 w u l
 | 17,v,w=>∃ b,v=ptr b∧w.heap[b]? = some (.cells #[.slice none 0 0,.slice none 0 0] 25 (0,0))∧n0≤b
 | i,v,_=>v=V i
theorem nv {n0:Nat} {V:Nat→Value} {vd:Value} {rws row:List Value} {n:Nat} {l:List Df}:∀ (j:Nat) (v:Value) (w w':World),GB n0 V vd rws row n l j v w→Mod (fun _=>False) w w'→GB n0 V vd rws row n l j v w':=by
 have hE:∀ {u:Value} {w w':World},GA n0 w u l→Mod (fun _=>False) w w'→GA n0 w' u l:=fun ⟨fq,xs,n,h1,h2⟩ hm=>⟨fq,xs,n,h1.mod hm (fun _ _ h=>h),h2.mod hm aC (fun _ _ h=>h.mod hm aC)⟩
 intro j v w w' h hm;unfold GB at h ⊢
 split at h
 ·obtain ⟨b,h1,h2,h3⟩:=h;exact ⟨b,h1,hm.at h2 _root_.id,h3⟩
 ·obtain ⟨fp,h1,h2⟩:=h;exact ⟨fp,h1.mod hm (fun _ _ h=>h),h2⟩
 ·obtain ⟨b,h1,h2,h3⟩:=h;exact ⟨b,h1,hm.at h2 _root_.id,h3⟩
 ·exact hE h hm
 ·obtain ⟨u,h1,h2⟩:=h;exact ⟨u,h1,hE h2 hm⟩
 ·obtain ⟨b,h1,h2,h3⟩:=h;exact ⟨b,h1,hm.at h2 _root_.id,h3⟩
 ·exact h
def gV (b5 ru:Nat) (vd vf:Value) (name:ByteArray) (va ta tc bc:Value) (row:List Value):Nat→Value
 | 0=>ptr b5
 | 1=>vd
 | 3=>.pointer (some ⟨b5,1,none⟩)
 | 4=>vf
 | 6=>.string name
 | 7=>.pointer (some ⟨ru,2,none⟩)
 | 8=>.pointer (some ⟨ru,4,none⟩)
 | 9=>va
 | 10=>ta
 | 11=>tc
 | 12=>bc
 | 13=>.agg row.toArray
 | _=>undef
theorem ah1 {w:World} {ρ:Go.W.Env} {Q:Post} {b5 ru tK:Nat} {vd:Value} {vf:Value} {name:ByteArray} {p:Pg} {r:List Value} {d:Df} {cb:List Value} {e:Ex} {t1:Ty} (g5:ρ.get 5=some (ptr b5)) (g15:ρ.get 15=some (ptr ru)) (g21:ρ.get 21=some (ptr tK)) (g22:ρ.get 22=some (.string name))
   (Wg:∃ a n c,vd = .slice a n c) (bG:w.heap[b5]? = some (.cells [vd,vf].toArray 25 (0,0))) (hf:aT w vf 12 (Out (fun _=>False) w) (ic w (Out (fun _=>False) w)) p.ak) (hle:p.ak.length≤1048576)
   (pq:w.heap[ru]? = some (.cells r.toArray 49 (0,0))) (hr:ic w (Out (fun _=>False) w) r d) (og:d.type.args[1]? = some t1) (Nk:w.heap[tK]? = some (.cells cb.toArray 47 (0,0))) (he:bE w (Out (fun _=>False) w) cb e) (jw:Nm name)
   (hk:∀ aw w' kR vq,Mod (fun _=>False) w w'→(∀ t,t≠23→(t < 100∨117≤t)→aw.get t=ρ.get t)→aw.get 23=some (ptr kR)→w'.heap[kR]? = some (.cells [vd,vq].toArray 25 (0,0))→aT w' vq 12 (Out (fun _=>False) w') (ic w' (Out (fun _=>False) w')) (p.ak++[⟨name,[],t1,e⟩])→Q .normal aw w') :
   cH Tryz.prog 178 (.raw (.region 23 A5 true)) Q ρ w:=by
 have Eh:=hf;obtain ⟨af,cf,rfl⟩:=a7 hf;obtain ⟨rows,jW,mQ,eW⟩:=hf;obtain ⟨vp,tc,bc,rfl,s8,L8,hvp,bw,gL,_⟩:=hr;obtain ⟨va,rfl,mC⟩:=bw.cells;have ah2:1 < d.type.args.length:=(List.getElem?_eq_some_iff.1 og).1;obtain ⟨ad,cc,rt,e1,fT,ah3,bU,fy⟩:=eh mC ah2;subst e1;have et1:d.type.args[1]=t1:=(List.getElem?_eq_some_iff.1 og).2;rw [et1] at fT
 let row:List Value:=(.string name :: .slice none 0 0::rt)++cb
 have AM:row.length=12:=by show (_++cb).length=12;rw [List.length_append,he.len];show rt.length+1+1+7=12;omega
 have ah4:∀ u∈row,u.oneCell'=true:=Ht (aS rfl (aS rfl fT.one)) he.one
 let V:=gV b5 ru vd (.slice af p.ak.length cf) name (.slice (some ad) d.type.args.length cc) (.pointer (some (ad.add (1*3)))) (.agg rt.toArray) (.agg cb.toArray) row
 let Φ:=GB w.heap.size V vd (rows.flatMap id) row rows.length (p.ak++[⟨name,[],t1,e⟩])
 let Fin:Go.W.Env→World→Prop:=fun aw w'=>∃ kR vq,Mod (fun _=>False) w w'∧(∀ t,t≠23→(t < 100∨117≤t)→aw.get t=ρ.get t)∧aw.get 23=some (ptr kR)∧w'.heap[kR]? = some (.cells [vd,vq].toArray 25 (0,0))∧aT w' vq 12 (Out (fun _=>False) w') (ic w' (Out (fun _=>False) w')) (p.ak++[⟨name,[],t1,e⟩])
 refine ahT (Inv:=GI Φ Fin w ρ) rfl ahV (by decide) ahW ahX ⟨fun _=>(Mod.refl _ w).drew,fun _ _ _ _=>rfl,fun _ i _ h=>(by cases h),fun h=>(by cases h),fun _ h=>(by cases h)⟩ ?_ ?_
 ·intro i s L aw w' hs hL hd hI;have jF:∀ j,j∈uW.getD i []→j < 18→L 18=false→pJ L j=false→∃ v,aw.get (tJ j)=some v∧Φ j v w':=fun j hj cI Ao nz=>hI.up Ao j cI (hd j hj) nz
  match i,hs with
  | 0,hs=>
   obtain rfl:=Option.some.inj hs;have cI:=hI.on (i:=0) (by decide) hL;have k5:aw.get 5=some (ptr b5):=(hI.bN cI 5 (by decide) (by decide)).trans g5;(try simp only [go_sem,Nat.reduceAdd,Nat.reduceEqDiff,Nat.reduceLT,Nat.reduceLeDiff,Nat.reduceMul,reduceCtorEq,↓reduceIte,k5]);exact hI.step nv (i:=0) (by decide) hL hd (.refl _ _) rfl
  | 1,hs=>
   obtain rfl:=Option.some.inj hs;have cI:=hI.on (i:=1) (by decide) hL;obtain ⟨v0,k0,rfl⟩:=jF 0 (by decide) (by decide) cI rfl;have k0:aw.get 100=some (ptr b5):=k0;(try simp only [go_sem,Nat.reduceAdd,Nat.reduceEqDiff,Nat.reduceLT,Nat.reduceLeDiff,Nat.reduceMul,reduceCtorEq,↓reduceIte,k0,cell_of ((hI.mod cI).at bG _root_.id),Value.cells]);exact hI.step nv (i:=1) (by decide) hL hd (.refl _ _) rfl
  | 2,hs=>
   obtain rfl:=Option.some.inj hs;have cI:=hI.on (i:=2) (by decide) hL;(try simp only [go_sem,Nat.reduceAdd,Nat.reduceEqDiff,Nat.reduceLT,Nat.reduceLeDiff,Nat.reduceMul,reduceCtorEq,↓reduceIte]);refine Ov (el:=49) (n:=12) (by kernel_rfl) (by kernel_rfl) ?_;intro w2 au ai bK;have z:=(hI.mod cI).size;exact hI.step nv (i:=2) (by decide) hL hd ai ⟨_,rfl,au,by omega⟩
  | 3,hs=>
   obtain rfl:=Option.some.inj hs;have cI:=hI.on (i:=3) (by decide) hL;have k5:aw.get 5=some (ptr b5):=(hI.bN cI 5 (by decide) (by decide)).trans g5;(try simp only [go_sem,Nat.reduceAdd,Nat.reduceEqDiff,Nat.reduceLT,Nat.reduceLeDiff,Nat.reduceMul,reduceCtorEq,↓reduceIte,k5]);exact hI.step nv (i:=3) (by decide) hL hd (.refl _ _) rfl
  | 4,hs=>
   obtain rfl:=Option.some.inj hs;have cI:=hI.on (i:=4) (by decide) hL;obtain ⟨v0,k0,rfl⟩:=jF 3 (by decide) (by decide) cI rfl;have k0:aw.get 103=some (.pointer (some ⟨b5,1,none⟩)):=k0;(try simp only [go_sem,Nat.reduceAdd,Nat.reduceEqDiff,Nat.reduceLT,Nat.reduceLeDiff,Nat.reduceMul,reduceCtorEq,↓reduceIte,k0,cell_of ((hI.mod cI).at bG _root_.id),Value.cells]);exact hI.step nv (i:=4) (by decide) hL hd (.refl _ _) rfl
  | 6,hs=>
   obtain rfl:=Option.some.inj hs;have cI:=hI.on (i:=6) (by decide) hL;have k22:aw.get 22=some (.string name):=(hI.bN cI 22 (by decide) (by decide)).trans g22;(try simp only [go_sem,Nat.reduceAdd,Nat.reduceEqDiff,Nat.reduceLT,Nat.reduceLeDiff,Nat.reduceMul,reduceCtorEq,↓reduceIte,k22]);exact hI.step nv (i:=6) (by decide) hL hd (.refl _ _) rfl
  | 7,hs=>
   obtain rfl:=Option.some.inj hs;have cI:=hI.on (i:=7) (by decide) hL;have k15:aw.get 15=some (ptr ru):=(hI.bN cI 15 (by decide) (by decide)).trans g15;(try simp only [go_sem,Nat.reduceAdd,Nat.reduceEqDiff,Nat.reduceLT,Nat.reduceLeDiff,Nat.reduceMul,reduceCtorEq,↓reduceIte,k15]);exact hI.step nv (i:=7) (by decide) hL hd (.refl _ _) rfl
  | 8,hs=>
   obtain rfl:=Option.some.inj hs;have cI:=hI.on (i:=8) (by decide) hL;obtain ⟨v0,k0,rfl⟩:=jF 7 (by decide) (by decide) cI rfl;have k0:aw.get 107=some (.pointer (some ⟨ru,2,none⟩)):=k0;(try simp only [go_sem,Nat.reduceAdd,Nat.reduceEqDiff,Nat.reduceLT,Nat.reduceLeDiff,Nat.reduceMul,reduceCtorEq,↓reduceIte,k0]);exact hI.step nv (i:=8) (by decide) hL hd (.refl _ _) rfl
  | 9,hs=>
   obtain rfl:=Option.some.inj hs;have cI:=hI.on (i:=9) (by decide) hL;obtain ⟨v0,k0,rfl⟩:=jF 8 (by decide) (by decide) cI rfl;have k0:aw.get 108=some (.pointer (some ⟨ru,4,none⟩)):=k0;(try simp only [go_sem,Nat.reduceAdd,Nat.reduceEqDiff,Nat.reduceLT,Nat.reduceLeDiff,Nat.reduceMul,reduceCtorEq,↓reduceIte,k0,cell_of ((hI.mod cI).at pq _root_.id),Value.cells]);exact hI.step nv (i:=9) (by decide) hL hd (.refl _ _) rfl
  | 10,hs=>
   obtain rfl:=Option.some.inj hs;have cI:=hI.on (i:=10) (by decide) hL;obtain ⟨v0,k0,rfl⟩:=jF 9 (by decide) (by decide) cI rfl;have k0:aw.get 109=some (.slice (some ad) d.type.args.length cc):=k0;have b1:(0:Int)≤1∧(1:Int) < d.type.args.length:=by omega
   (try simp only [go_sem,Nat.reduceAdd,Nat.reduceEqDiff,Nat.reduceLT,Nat.reduceLeDiff,Nat.reduceMul,reduceCtorEq,↓reduceIte,k0,b1]);exact hI.step nv (i:=10) (by decide) hL hd (.refl _ _) rfl
  | 11,hs=>
   obtain rfl:=Option.some.inj hs;have cI:=hI.on (i:=11) (by decide) hL;obtain ⟨v0,k0,rfl⟩:=jF 10 (by decide) (by decide) cI rfl;have k0:aw.get 110=some (.pointer (some (ad.add (1*3)))):=k0;have JK:=pa ah3 (fun k hk=>(hI.mod cI).cell (fy k hk) _root_.id);refine ⟨.agg rt.toArray,?_,hI.step nv (i:=11) (by decide) hL hd (.refl _ _) rfl⟩;show (O.ev _ _).bind _=_;rw [zv,k0,Option.bind_some];exact JK
  | 12,hs=>
   obtain rfl:=Option.some.inj hs;have cI:=hI.on (i:=12) (by decide) hL;have k21:aw.get 21=some (ptr tK):=(hI.bN cI 21 (by decide) (by decide)).trans g21;(try simp only [go_sem,Nat.reduceAdd,Nat.reduceEqDiff,Nat.reduceLT,Nat.reduceLeDiff,Nat.reduceMul,reduceCtorEq,↓reduceIte,k21,az (n:=7) ((hI.mod cI).at Nk _root_.id) he.len]);exact hI.step nv (i:=12) (by decide) hL hd (.refl _ _) rfl
  | 13,hs=>
   obtain rfl:=Option.some.inj hs;have cI:=hI.on (i:=13) (by decide) hL;obtain ⟨v0,k0,rfl⟩:=jF 6 (by decide) (by decide) cI rfl;have k0:aw.get 106=some (.string name):=k0;obtain ⟨v1,k1,rfl⟩:=jF 11 (by decide) (by decide) cI rfl;have k1:aw.get 111=some (.agg rt.toArray):=k1;obtain ⟨v2,k2,rfl⟩:=jF 12 (by decide) (by decide) cI rfl;have k2:aw.get 112=some (.agg cb.toArray):=k2;(try simp only [go_sem,Nat.reduceAdd,Nat.reduceEqDiff,Nat.reduceLT,Nat.reduceLeDiff,Nat.reduceMul,reduceCtorEq,↓reduceIte,k0,k1,k2]);have f1:jm ([.string name,.slice none 0 0,I 0,.string bI,.slice none 0 0,I 0,.string bI,I 0,.slice none 0 0,.slice none 0 0,.slice none 0 0,.slice none 0 0]:List Value).toArray [(2,3,.agg rt.toArray),(5,7,.agg cb.toArray)]=some row.toArray:=by
    rw [Of fT.len (by simp)];obtain ⟨x1,e1,_⟩:=fT.cells;have f2:=jC (sz:=7) [cb] ([.string name,.slice none 0 0]++rt) [I 0,.string bI,I 0,.slice none 0 0,.slice none 0 0,.slice none 0 0,.slice none 0 0] ⟨he.len,trivial⟩ rfl;rw [List.flatten_cons,List.flatten_nil,List.append_nil] at f2;have e2:([.string name,.slice none 0 0]++rt:List Value).length=5:=by rw [e1];rfl
    rw [e2] at f2;exact f2
   exact ⟨_,congrArg (Option.map Value.agg) f1,hI.step nv (i:=13) (by decide) hL hd (.refl _ _) rfl⟩
  | 14,hs=>
   obtain rfl:=Option.some.inj hs;have cI:=hI.on (i:=14) (by decide) hL;obtain ⟨v0,k0,rfl⟩:=jF 13 (by decide) (by decide) cI rfl;have k0:aw.get 113=some (.agg row.toArray):=k0;(try simp only [go_sem,Nat.reduceAdd,Nat.reduceEqDiff,Nat.reduceLT,Nat.reduceLeDiff,Nat.reduceMul,reduceCtorEq,↓reduceIte]);refine fA (cs:=([row]).flatten.toArray) (ps:=partsOf 12 0 [row]) (by (try simp only [go_sem,Nat.reduceAdd,Nat.reduceEqDiff,Nat.reduceLT,Nat.reduceLeDiff,Nat.reduceMul,reduceCtorEq,↓reduceIte,k0]);rfl) (jC (sz:=12) [row] [] M7 ⟨AM,trivial⟩ rfl) ?_;intro w2 au ai bK;rw [List.flatten_cons,List.flatten_nil,List.append_nil] at au;have z:=(hI.mod cI).size;exact hI.step nv (i:=14) (by decide) hL hd ai ⟨_,rfl,au,by omega⟩
  | 16,hs=>
   obtain rfl:=Option.some.inj hs;have cI:=hI.on (i:=16) (by decide) hL;obtain ⟨v0,k0,e0⟩:=jF 1 (by decide) (by decide) cI rfl;have e0:v0=vd:=e0;rw [e0] at k0;have k0:aw.get 101=some vd:=k0;obtain ⟨v1,k1,h1⟩:=jF 15 (by decide) (by decide) cI rfl;have k1:aw.get 115=some v1:=k1;obtain ⟨fq,xs,nq,h0,h1⟩:=h1;obtain ⟨a1,c1,rfl⟩:=a7 h1;obtain ⟨a0,n0,c0,rfl⟩:=Wg;(try simp only [go_sem,Nat.reduceAdd,Nat.reduceEqDiff,Nat.reduceLT,Nat.reduceLeDiff,Nat.reduceMul,reduceCtorEq,↓reduceIte,k0,k1]);exact hI.step nv (i:=16) (by decide) hL hd (.refl _ _) ⟨_,rfl,fq,xs,nq,h0,h1⟩
  | 17,hs=>
   obtain rfl:=Option.some.inj hs;have cI:=hI.on (i:=17) (by decide) hL;(try simp only [go_sem,Nat.reduceAdd,Nat.reduceEqDiff,Nat.reduceLT,Nat.reduceLeDiff,Nat.reduceMul,reduceCtorEq,↓reduceIte]);refine cM ?_;intro w2 au ai bK;have z:=(hI.mod cI).size;exact hI.step nv (i:=17) (by decide) hL hd ai ⟨_,rfl,au,by omega⟩
  | 5,hs=>
   obtain rfl:=Option.some.inj hs;have cI:=hI.on (i:=5) (by decide) hL;obtain ⟨v0,k0,b2,rfl,au,jY⟩:=jF 2 (by decide) (by decide) cI (by simp [pJ,hL]);have k0:aw.get 102=some (.slice (some ⟨b2,0,none⟩) 0 0):=k0;obtain ⟨v1,k1,rfl⟩:=jF 4 (by decide) (by decide) cI rfl;have k1:aw.get 104=some (.slice af p.ak.length cf):=k1;have GC:L 15=false:=by
    cases e:L 15 with
    | false=>rfl
    | true=>rw [hI.cl 15 e 5 (by decide)] at hL;cases hL
   have Nl:L 16=false:=by
    cases e:L 16 with
    | false=>rfl
    | true=>rw [hI.cl 16 e 15 (by decide)] at GC;cases GC
   obtain ⟨_,dJ,Lo⟩:=D8 (jW.mod (hI.mod cI) aC).1 (by decide);have ho:dx w' 49 12 (.slice (some ⟨b2,0,none⟩) 0 0) [] 0 (some b2):=.of_block (xs:=[]) au rfl;have ah5:∀ u∈rows.flatMap id,u.oneCell'=true:=fun u hu=>by
    obtain ⟨x,hx,hu⟩:=List.mem_flatMap.1 hu;obtain ⟨k,hk,rfl⟩:=List.getElem_of_mem hx;exact (eW k _ _ (List.getElem?_eq_getElem hk) (List.getElem?_eq_getElem (by omega))).one u hu
   show Go.W.E.wp _ _ _ _ _;refine qR (m:=p.ak.length) (news:=rows.flatMap id) (by (try simp only [go_sem,Nat.reduceAdd,Nat.reduceEqDiff,Nat.reduceLT,Nat.reduceLeDiff,Nat.reduceMul,reduceCtorEq,↓reduceIte,k0])) ho (by (try simp only [go_sem,Nat.reduceAdd,Nat.reduceEqDiff,Nat.reduceLT,Nat.reduceLeDiff,Nat.reduceMul,reduceCtorEq,↓reduceIte,k1]);rfl) Lo dJ ah5 rfl (by omega) (by omega) ?_;intro v' w2 hZ sx ai zC;have z:=(hI.mod cI).size;refine hI.Nj (i:=5) (R:=fun b=>some b2=some b) (by decide) hL hd (fun b hb=>by cases hb;exact jY) ?_ ai ⟨hZ,?_,fun b hb=>?_⟩
   ·intro j v hj bo oa nz _ hv
    match j,hj,bo,oa,nz,hv with
    | 2,_,_,_,nz,_=>simp [pJ] at nz
    | 14,_,_,_,_,hv=>
     obtain ⟨b,h1,h2,h3⟩:=hv;refine ⟨b,h1,ai.at h2 (fun hh=>?_),h3⟩;cases hh;rw [h2] at au;have:=congrArg (fun o=>match o with | some (Obj.cells c _ _)=>c.size | _=>0) au;simp [AM] at this
    | 15,_,_,oa,_,_=>rw [GC] at oa;cases oa
    | 16,_,_,oa,_,_=>rw [Nl] at oa;cases oa
    | 17,_,_,_,_,hv=>
     obtain ⟨b,h1,h2,h3⟩:=hv;refine ⟨b,h1,ai.at h2 (fun hh=>?_),h3⟩;cases hh;exact XG h2 au (by decide)
    | 0,_,_,_,_,hv=>exact hv
    | 1,_,_,_,_,hv=>exact hv
    | 3,_,_,_,_,hv=>exact hv
    | 4,_,_,_,_,hv=>exact hv
    | 6,_,_,_,_,hv=>exact hv
    | 7,_,_,_,_,hv=>exact hv
    | 8,_,_,_,_,hv=>exact hv
    | 9,_,_,_,_,hv=>exact hv
    | 10,_,_,_,_,hv=>exact hv
    | 11,_,_,_,_,hv=>exact hv
    | 12,_,_,_,_,hv=>exact hv
    | 13,_,_,_,_,hv=>exact hv
    | 5,_,bo,_,_,_=>exact absurd rfl bo
    | j+18,hj,_,_,_,_=>omega
   ·rw [mQ];rw [List.nil_append,Nat.zero_add] at sx;exact sx
   ·rcases zC b hb with h | ⟨h,_⟩
    ·cases h;exact jY
    ·omega
  | 15,hs=>
   obtain rfl:=Option.some.inj hs;have cI:=hI.on (i:=15) (by decide) hL;obtain ⟨v0,k0,fp,ho,vM⟩:=jF 5 (by decide) (by decide) cI (by simp [pJ,hL]);have k0:aw.get 105=some v0:=k0;obtain ⟨v1,k1,vZ,rfl,yk,akl⟩:=jF 14 (by decide) (by decide) cI (by simp [pJ,hL]);have k1:aw.get 114=some (.slice (some ⟨vZ,0,none⟩) 1 1):=k1;have Nl:L 16=false:=by
    cases e:L 16 with
    | false=>rfl
    | true=>rw [hI.cl 16 e 15 (by decide)] at hL;cases hL
   have L5:L 5=true:=hd 5 (by decide);have dJ:=vx yk;rw [AM] at dJ;show Go.W.E.wp _ _ _ _ _;refine qR (m:=1) (news:=row) (by (try simp only [go_sem,Nat.reduceAdd,Nat.reduceEqDiff,Nat.reduceLT,Nat.reduceLeDiff,Nat.reduceMul,reduceCtorEq,↓reduceIte,k0])) ho (by (try simp only [go_sem,Nat.reduceAdd,Nat.reduceEqDiff,Nat.reduceLT,Nat.reduceLeDiff,Nat.reduceMul,reduceCtorEq,↓reduceIte,k1]);rfl) (fun h=>by cases h) dJ ah4 rfl (by omega) (by omega) ?_;intro v' w2 hZ sx ai zC;have z:=(hI.mod cI).size;have iz:Mod (fun _=>False) w w2:=(hI.mod cI).step ai (fun b hb hl=>by have:=vM b hb;omega);refine hI.Nj (i:=15) (R:=fun b=>fp=some b) (by decide) hL hd vM ?_ ai ?_
   ·intro j v hj bo oa nz _ hv
    match j,hj,bo,oa,nz,hv with
    | 2,_,_,_,nz,_=>simp [pJ,L5] at nz
    | 5,_,_,_,nz,_=>simp [pJ] at nz
    | 14,_,_,_,nz,_=>simp [pJ] at nz
    | 16,_,_,oa,_,_=>rw [Nl] at oa;cases oa
    | 17,_,_,_,_,hv=>
     obtain ⟨b,h1,h2,h3⟩:=hv;exact ⟨b,h1,ai.at h2 (On ho h2 (by decide)),h3⟩
    | 0,_,_,_,_,hv=>exact hv
    | 1,_,_,_,_,hv=>exact hv
    | 3,_,_,_,_,hv=>exact hv
    | 4,_,_,_,_,hv=>exact hv
    | 6,_,_,_,_,hv=>exact hv
    | 7,_,_,_,_,hv=>exact hv
    | 8,_,_,_,_,hv=>exact hv
    | 9,_,_,_,_,hv=>exact hv
    | 10,_,_,_,_,hv=>exact hv
    | 11,_,_,_,_,hv=>exact hv
    | 12,_,_,_,_,hv=>exact hv
    | 13,_,_,_,_,hv=>exact hv
    | 15,_,bo,_,_,_=>exact absurd rfl bo
    | j+18,hj,_,_,_,_=>omega
   ·have pt:∀ b,Out (fun _=>False) w b→b < w.heap.size:=fun b h=>h.1
    have cN:∀ (k:Nat) (x:List Value) (y:Df),(rows++[row])[k]? = some x→(p.ak++[⟨name,[],t1,e⟩])[k]? = some y→ic w2 (fun b=>b < w.heap.size) x y:=by
     intro k x y h1 h2;rcases Nat.lt_or_ge k rows.length with h | h
     ·rw [List.getElem?_append_left h] at h1;rw [List.getElem?_append_left (by omega)] at h2;exact (eW k _ _ h1 h2).up iz aC pt
     ·rw [List.getElem?_append_right h] at h1;rw [List.getElem?_append_right (by omega)] at h2;have e1:k - rows.length=0:=by
       have:=(List.getElem?_eq_some_iff.1 h1).1;simp at this;omega
      have e2:k - p.ak.length=0:=by omega
      rw [e1] at h1;rw [e2] at h2;cases h1;cases h2;exact ⟨.slice none 0 0,rt,cb,rfl,fT.len,he.len,ej _ _ _ _,fT.up iz aC pt,he.up iz aC pt,jw⟩
    have qo:dx w2 49 12 v' ((rows++[row]).flatMap id) (rows++[row]).length hZ:=by
     rw [BT,List.length_append];exact sx
    have hlen:∀ x∈rows++[row],x.length=12:=fun x hx=>by
     obtain ⟨k,hk,rfl⟩:=List.getElem_of_mem hx;exact ahv.len (cN k _ _ (List.getElem?_eq_getElem hk) (List.getElem?_eq_getElem (by simp at hk ⊢;omega)))
    exact ⟨hZ,_,_,qo,rows++[row],⟨(BI qo hlen).mod (.refl (fun _=>False) _) aC (fun b hb=>.inr hb),by simp;omega⟩,by simp [mQ],cN⟩
  | 18,hs=>
   obtain rfl:=Option.some.inj hs
   have cN:∀ j,j < 18→L j=true:=fun j hj=>hd j (by
    have:∀ j,j < 18→j∈uW.getD 18 []:=by decide
    exact this j hj)
   have GC:=cN 15 (by decide);obtain ⟨v0,k0,kR,rfl,uX,akm⟩:=hI.up hL 17 (by decide) (cN 17 (by decide)) rfl;have k0:aw.get 23=some (ptr kR):=k0;obtain ⟨v1,k1,u,rfl,fq,xs,nq,ho,hu⟩:=hI.up hL 16 (by decide) (cN 16 (by decide)) rfl;have k1:aw.get 116=some (.agg #[vd,u]):=k1;have ou:=mL hu;have od:vd.oneCell'=true:=by obtain ⟨a0,n0,c0,rfl⟩:=Wg;rfl
   show Go.W.E.wp _ _ _ _ _;refine bL (vs:=[vd,u]) (cs:=[.slice none 0 0,.slice none 0 0]) (by (try simp only [go_sem,Nat.reduceAdd,Nat.reduceEqDiff,Nat.reduceLT,Nat.reduceLeDiff,Nat.reduceMul,reduceCtorEq,↓reduceIte,k0])) (by (try simp only [go_sem,Nat.reduceAdd,Nat.reduceEqDiff,Nat.reduceLT,Nat.reduceLeDiff,Nat.reduceMul,reduceCtorEq,↓reduceIte,k1])) uX rfl rfl (aS od (aS ou dE)) ?_;intro w2 au ai bK;refine ⟨fun h=>by simp at h,fun h=>by simp at h,fun h=>by simp at h,fun _=>⟨fun j hj=>by simp [cN j hj],?_⟩,Wf hI.cl hd⟩;have bo:∀ b,(b < w.heap.size∨fq=some b)→¬ b=kR:=fun b hb e=>by
    subst e;rcases hb with h | h
    ·omega
    ·exact On ho uX (by decide) h
   have z:=(hI.mod hL).size;have z2:=ai.size
   exact ⟨kR,u,(hI.mod hL).step ai (fun b hb hl=>by omega),fun t h1 h2=>hI.bN hL t h1 h2,k0,au,hu.up ai bo (fun b hb=>⟨by
    rcases hb with h | h
    ·omega
    ·have:=ho.lt h;omega,_root_.id⟩) (fun _ _ h=>h.up ai (fun b hb=>bo b (.inl hb)) (fun b hb=>⟨by omega,_root_.id⟩))⟩
  | i+19,hs=>simp [We] at hs
 ·intro L aw w' hL hI;obtain ⟨kR,vq,h1,h2,h3,h4,h5⟩:=(hI.fin (hL 18 (by decide))).2;exact hk aw w' kR vq h1 h2 h3 h4 h5
end
section
open Go Go.W
theorem ah6 {s:ByteArray} (h:s.size≤1048576):¬ (((s.size+(#[32,119,105,116,104,32,105,110,112,117,116]:Array UInt8).size:Nat):Int) > IntKind.i64.max):=by
 have e1:(#[32,119,105,116,104,32,105,110,112,117,116]:Array UInt8).size=11:=rfl;have e2:IntKind.i64.max=9223372036854775807:=by decide +kernel
 rw [e1,e2];omega
theorem ah7 {s:ByteArray} (h:s.size≤1048576):Nm (s++jl):=by
 have e1:(s++jl).size=s.size+11:=by rw [ByteArray.size_append];rfl
 show (s++jl).size < _;omega
theorem ah8 {w:World} {a:Option Addr} {l:List Int} {c:Nat} (h:o7 w (.slice a l.length c) l) {k c':Nat} (hk:k≤l.length):o7 w (.slice a k c') (l.take k):=by
 obtain ⟨a',c0,e,hl,hx⟩:=h;cases e;refine ⟨a,c',by rw [List.length_take,Nat.min_eq_left hk],by rw [List.length_take];omega,fun i hi=>?_⟩;rw [List.length_take] at hi;obtain ⟨ad,e,hc⟩:=hx i (by omega);exact ⟨ad,e,by rw [List.getElem_take];exact hc⟩
theorem ah9 {p:Pg} {N:Nat} {name:ByteArray} {input:List Int} {fuel:Int} {r:Int×Option Rn} (h:lI p N name input fuel=some r) (h0:r.1=0):im p=0:=by
 unfold lI at h
 split at h
 ·cases h;cases h0
 ·split at h
  ·cases h;cases h0
  ·split at h
   ·cases h;cases h0
   ·split at h
    ·rename_i hc;cases h;exact absurd h0 hc
    ·rename_i hc;exact Classical.byContradiction hc
theorem Wh (p:Pg) (name:ByteArray) (input:List Int):∀ (l:List Df),∃ N0,∀ d∈l,∀ N,N0≤N→∀ fuel,∃ bZ,lI (nu p name (d.type.args.getD 1 default) input) N (name++jl) [] fuel=some bZ
 | []=>⟨0,fun d hd=>by cases hd⟩
 | d::l=>by
  obtain ⟨N1,h1⟩:=Wh p name input l;obtain ⟨N2,h2⟩:=Vj (nu p name (d.type.args.getD 1 default) input) (name++jl);refine ⟨max N1 N2,fun e he N hN fuel=>?_⟩;rcases List.mem_cons.1 he with rfl | he
  ·obtain ⟨bZ,hr,_⟩:=h2 N (by omega) [] fuel;exact ⟨bZ,hr⟩
  ·exact h1 e he N (by omega) fuel
theorem ah' (p:Pg) {name:ByteArray} {uY:List Int} {fuel more:Int} {v0:Value} {w:World} {cs:List Value} (h:jR w (Out (fun _=>False) w) cs p) (hi:o7 w v0 uY) (jQ:xC v0) (hn:name.size≤1048576) (hle:p.ak.length≤1048576) :
   a8 Tryz.prog 6 [.agg cs.toArray,.string name,v0,I fuel,I more] w fun r w'=>r = .bool true∧Mod (fun _=>False) w w':=by
 have h0:=h;have Dr:=hi;obtain ⟨N1,hN1⟩:=Vj p name;obtain ⟨vd,vf,rfl,hd,hf⟩:=h;obtain ⟨ad,cd,rfl⟩:=a7 hd;obtain ⟨af,cf,rfl⟩:=a7 hf;obtain ⟨av,cv,rfl,akn,wQ⟩:=hi;have jQ:uY.length≤cv:=jQ;refine ahU.calls rfl ?_;unfold Wd;refine dU (fun ρ w'=>Mod (fun _=>False) w w'∧w'.heap[w.heap.size]? = some (.cells [.slice ad p.aH.length cd,.slice af p.ak.length cf].toArray 25 (0,0))∧ρ=[(1,.string name),(2,.slice av uY.length cv),(3,I fuel),(4,I more),(5,ptr w.heap.size)]) ?_ ?_
 ·(try simp only [go_sem,Nat.reduceAdd,Nat.reduceEqDiff,Nat.reduceLT,Nat.reduceLeDiff,Nat.reduceMul,reduceCtorEq,↓reduceIte]);refine bD rfl ?_;intro w1 ar aj bC;(try simp only [go_sem,Nat.reduceAdd,Nat.reduceEqDiff,Nat.reduceLT,Nat.reduceLeDiff,Nat.reduceMul,reduceCtorEq,↓reduceIte]);exact ⟨aj,ar⟩
 rintro _ w1 ⟨DH,bG,rfl⟩;refine dU (fun ρ w'=>∃ b,Mod (fun _=>False) w w'∧w'.heap[w.heap.size]? = some (.cells [.slice ad p.aH.length cd,.slice af p.ak.length cf].toArray 25 (0,0))∧ρ=[(1,.string name),(2,.slice av uY.length cv),(3,I fuel),(4,I more),(5,ptr w.heap.size),(11,.bool b)]) ?_ ?_
 ·(try simp only [go_sem,Nat.reduceAdd,Nat.reduceEqDiff,Nat.reduceLT,Nat.reduceLeDiff,Nat.reduceMul,reduceCtorEq,↓reduceIte,az (n:=2) bG rfl]);refine aI (by rfl) ?_;refine (aeH p (h0.mod DH aC)).mono ?_;rintro _ w2 ⟨⟨b,rfl⟩,ai⟩;(try simp only [go_sem,Nat.reduceAdd,Nat.reduceEqDiff,Nat.reduceLT,Nat.reduceLeDiff,Nat.reduceMul,reduceCtorEq,↓reduceIte]);exact ⟨b,DH.trans ai,ai.at bG _root_.id,rfl⟩
 rintro _ w2 ⟨b,iz,bG,rfl⟩;refine dU (fun ρ w'=>w2=w'∧ρ.get 1=some (.string name)∧ρ.get 2=some (.slice av uY.length cv)∧ρ.get 3=some (I fuel)∧ρ.get 4=some (I more)∧ρ.get 5=some (ptr w.heap.size)) ?_ ?_
 ·cases b with
  | true=>(try simp only [go_sem,Nat.reduceAdd,Nat.reduceEqDiff,Nat.reduceLT,Nat.reduceLeDiff,Nat.reduceMul,reduceCtorEq,↓reduceIte,aE,RV.ev,aF]);exact iz
  | false=>(try simp only [go_sem,Nat.reduceAdd,Nat.reduceEqDiff,Nat.reduceLT,Nat.reduceLeDiff,Nat.reduceMul,reduceCtorEq,↓reduceIte])
 rintro ρ _ ⟨rfl,g1,g2,g3,g4,g5⟩;refine dU (fun ρ w'=>Mod (fun _=>False) w w'∧w'.heap[w.heap.size]? = some (.cells [.slice ad p.aH.length cd,.slice af p.ak.length cf].toArray 25 (0,0))∧ρ=[(1,.string name),(2,.slice av uY.length cv),(3,I fuel),(4,I more),(5,ptr w.heap.size),(12,.bool true)]) ?_ ?_
 ·(try simp only [go_sem,Nat.reduceAdd,Nat.reduceEqDiff,Nat.reduceLT,Nat.reduceLeDiff,Nat.reduceMul,reduceCtorEq,↓reduceIte,g1,g2,g3,g4,g5]);refine aI (by rfl) ?_;refine ag'.mono ?_;rintro _ w3 ⟨rfl,aq⟩;(try simp only [go_sem,Nat.reduceAdd,Nat.reduceEqDiff,Nat.reduceLT,Nat.reduceLeDiff,Nat.reduceMul,reduceCtorEq,↓reduceIte,g1,g2,g3,g4,g5]);exact ⟨iz.trans aq,aq.at bG _root_.id⟩
 clear iz bG g1 g2 g3 g4 g5;rintro _ w3 ⟨qF,bG,rfl⟩;refine dU (fun ρ w'=>∃ input vi,o7 w vi input∧w3=w'∧ρ.get 1=some (.string name)∧ρ.get 2=some vi∧ρ.get 3=some (I fuel)∧ρ.get 4=some (I more)∧ρ.get 5=some (ptr w.heap.size)∧ρ.get 12=some (.bool true)) ?_ ?_
 ·cases q:decide ((uY.length:Int) > 300) with
  | false=>
   (try simp only [go_sem,Nat.reduceAdd,Nat.reduceEqDiff,Nat.reduceLT,Nat.reduceLeDiff,Nat.reduceMul,reduceCtorEq,↓reduceIte,q]);exact ⟨_,_,Dr,rfl⟩
  | true=>
   have q':300 < uY.length:=by have:=of_decide_eq_true q;omega
   have b1:(0:Int)≤300∧(300:Int)≤(cv:Nat):=by omega
   have b2:(0:Int)≤0∧(0:Int)≤(300:Nat):=by omega
   (try simp only [go_sem,Nat.reduceAdd,Nat.reduceEqDiff,Nat.reduceLT,Nat.reduceLeDiff,Nat.reduceMul,reduceCtorEq,↓reduceIte,q,b1,b2]);refine ⟨uY.take 300,.slice av 300 cv,ah8 Dr (by omega),?_⟩;rw [if_neg (by omega)];simp
 rintro ρ _ ⟨input,vi,eT,rfl,g1,g2,g3,g4,g5,g12⟩;obtain ⟨N2,hN2⟩:=Wh p name input p.ak;obtain ⟨N,aia,aib⟩:∃ N,N1≤N∧N2≤N:=⟨max N1 N2,by omega,by omega⟩;obtain ⟨r1,js,CT,no1⟩:=hN1 N aia input fuel;clear Dr wQ;refine dU (fun ρ w'=>∃ kj Nn,w.heap.size < kj∧xe w' (fun b=>w.heap.size≤b∧b < w'.heap.size) Nn r1.2∧w'.heap[kj]? = some (.cells Nn.toArray 34 (0,0))∧Mod (fun _=>False) w w'∧w'.heap[w.heap.size]? = some (.cells [.slice ad p.aH.length cd,.slice af p.ak.length cf].toArray 25 (0,0))∧ρ=[(1,.string name),(2,vi),(3,I fuel),(4,I more),(5,ptr w.heap.size),(12,.bool true),(13,ptr kj),(14,I r1.1)]) ?_ ?_
 ·(try simp only [go_sem,Nat.reduceAdd,Nat.reduceEqDiff,Nat.reduceLT,Nat.reduceLeDiff,Nat.reduceMul,reduceCtorEq,↓reduceIte,g1,g2,g3,g4,g5,g12,az (n:=2) bG rfl]);have nA:fI ((38,Value.agg #[.slice ad p.aH.length cd,.slice af p.ak.length cf])::ρ) [.t 38,.t 1,.t 2,.t 3]=some [.agg #[.slice ad p.aH.length cd,.slice af p.ak.length cf],.string name,vi,I fuel]:=by simp only [fI,O.ev,g1,g2,g3,go_sem];rfl
  refine aI nA ?_;refine (Gk p (h0.up (S:=fun _=>False) qF aC (fun b h=>⟨Nat.lt_of_lt_of_le h.1 qF.size,_root_.id⟩)) (eT.mod qF (fun _ _ h=>h)) js).mono ?_;rintro _ w4 ⟨⟨oc,rfl,kF⟩,aA⟩;obtain ⟨k,s',n',v',l',rfl,No⟩:=Vy kF;have ho:=mL No;(try simp only [go_sem,Nat.reduceAdd,Nat.reduceEqDiff,Nat.reduceLT,Nat.reduceLeDiff,Nat.reduceMul,reduceCtorEq,↓reduceIte,g1,g2,g3,g4,g5,g12]);refine cM ?_;intro w5 fO aD eN;(try simp only [go_sem,Nat.reduceAdd,Nat.reduceEqDiff,Nat.reduceLT,Nat.reduceLeDiff,Nat.reduceMul,reduceCtorEq,↓reduceIte,g1,g2,g3,g4,g5,g12]);refine bL (vs:=cY k s' n' v') (cs:=cY 0 0 0 (.slice none 0 0)) rfl rfl fO rfl rfl (nV ho) ?_;intro w6 fO aJ gN;have vR:Mod (fun _=>False) w4 w6:=aD.step aJ (fun b hb hl=>by omega);have z4:=aA.size;have z3:=qF.size;(try simp only [go_sem,Nat.reduceAdd,Nat.reduceEqDiff,Nat.reduceLT,Nat.reduceLeDiff,Nat.reduceMul,reduceCtorEq,↓reduceIte,g1,g2,g3,g4,g5,g12]);have xi:=(aA.trans vR).at bG _root_.id;have l5:=cO xi;exact ⟨_,_,by have:=cO bG;omega,kF.up vR (fun b h=>⟨by omega,by have:=vR.size;omega⟩),fO,qF.trans (aA.trans vR),xi,rfl⟩
 clear g1 g2 g3 g4 g5 g12 bG qF;rintro _ w4 ⟨kj,Nn,l13,xr,fO,uQ,bG,rfl⟩;refine dU (fun ρ w'=>r1.1=0∧w4=w'∧ρ.get 1=some (.string name)∧ρ.get 2=some vi∧ρ.get 3=some (I fuel)∧ρ.get 4=some (I more)∧ρ.get 5=some (ptr w.heap.size)∧ρ.get 13=some (ptr kj)) ?_ ?_
 ·cases q1:r1.1 != 0 with
  | true=>(try simp only [go_sem,Nat.reduceAdd,Nat.reduceEqDiff,Nat.reduceLT,Nat.reduceLeDiff,Nat.reduceMul,reduceCtorEq,↓reduceIte,q1,aE,RV.ev,aF]);exact uQ
  | false=>
   (try simp only [go_sem,Nat.reduceAdd,Nat.reduceEqDiff,Nat.reduceLT,Nat.reduceLeDiff,Nat.reduceMul,reduceCtorEq,↓reduceIte,q1])
   simpa using q1
 rintro ρ _ ⟨e1,rfl,g1,g2,g3,g4,g5,g13⟩;obtain ⟨t0,a,rfl,pr,hfu,hrm⟩:=Gn js e1;obtain ⟨va,rfl,mC⟩:=xr;have ako:=cO fO;have lb5:=cO bG;refine dU (fun ρ w'=>Mod (fun _=>False) w4 w'∧w'.heap[w4.heap.size]? = some (.cells M7.toArray 49 (0,0))∧ρ=[(1,.string name),(2,vi),(3,I fuel),(4,I more),(5,ptr w.heap.size),(13,ptr kj),(15,ptr w4.heap.size)]) ?_ ?_
 ·(try simp only [go_sem,Nat.reduceAdd,Nat.reduceEqDiff,Nat.reduceLT,Nat.reduceLeDiff,Nat.reduceMul,reduceCtorEq,↓reduceIte,g1,g2,g3,g4,g5,g13]);refine cM ?_;intro w5 xi aD eN;(try simp only [go_sem,Nat.reduceAdd,Nat.reduceEqDiff,Nat.reduceLT,Nat.reduceLeDiff,Nat.reduceMul,reduceCtorEq,↓reduceIte,g1,g2,g3,g4,g5,g13]);exact ⟨aD,xi⟩
 clear g1 g2 g3 g4 g5 g13;rintro _ w5 ⟨xZ,pq,rfl⟩;have Gl:=uQ.trans xZ;have bG:=xZ.at bG _root_.id;have fO:=xZ.at fO _root_.id;have l15:=cO pq;obtain ⟨d0,Cv,aic,_,_⟩:=MG p.ak pr;have kf:∀ {w'},Mod (fun _=>False) w w'→aT w' (.slice af p.ak.length cf) 12 (Out (fun _=>False) w) (ic w' (Out (fun _=>False) w)) p.ak:=fun hm=>hf.mod hm aC (fun _ _ h=>h.mod hm aC)
 refine dU (fun ρ w'=>∃ r d,Mod (· = w4.heap.size) w5 w'∧w'.heap[w4.heap.size]? = some (.cells (r:List Value).toArray 49 (0,0))∧ic w (Out (fun _=>False) w) r d∧d∈p.ak∧d.name=name∧ρ.get 1=some (.string name)∧ρ.get 2=some vi∧ρ.get 3=some (I fuel)∧ρ.get 4=some (I more)∧ρ.get 5=some (ptr w.heap.size)∧ρ.get 13=some (ptr kj)∧ρ.get 15=some (ptr w4.heap.size)) ?_ ?_
 ·refine dU (fun ρ w'=>w5=w'∧ρ=[(1,.string name),(2,vi),(3,I fuel),(4,I more),(5,ptr w.heap.size),(13,ptr kj),(15,ptr w4.heap.size),(16,I 0)]) ?_ ?_
  ·(try simp only [go_sem,Nat.reduceAdd,Nat.reduceEqDiff,Nat.reduceLT,Nat.reduceLeDiff,Nat.reduceMul,reduceCtorEq,↓reduceIte])
  rintro _ _ ⟨rfl,rfl⟩;refine LX ?_;refine VK p.ak.length (fun k ρ w'=>∃ r,k≤p.ak.length∧Mod (· = w4.heap.size) w5 w'∧w'.heap[w4.heap.size]? = some (.cells (r:List Value).toArray 49 (0,0))∧r.length=12∧((∃ (j:Nat) (d:Df),j < k∧p.ak[j]? = some d∧d.name=name)→∃ d∈p.ak,d.name=name∧ic w (Out (fun _=>False) w) r d)∧ρ=[(1,.string name),(2,vi),(3,I fuel),(4,I more),(5,ptr w.heap.size),(13,ptr kj),(15,ptr w4.heap.size),(16,I k)]) ⟨M7,by omega,.refl _ _,pq,rfl,fun ⟨j,d,h,_⟩=>absurd h (by omega),rfl⟩ ?_;rintro k _ w6 ⟨r,hk,aJ,Np,mQ,dJ,rfl⟩ _;unfold Wc;have xi:=aJ.at bG (by omega);have hmw:Mod (fun _=>False) w w6:=Gl.step aJ (fun b hb hl=>by omega);rcases Nat.lt_or_ge k p.ak.length with aP | hge
  ·have q:decide ((k:Int) < p.ak.length)=true:=decide_eq_true (by omega);obtain ⟨kA,cc,r2,e2,oF,Nq,_,aid⟩:=eh hf aP;cases e2;have fy:∀ k' (kZ:k' < r2.length),w6.cell? ((kA.add (k*12)).add k')=some r2[k']:=fun k' kZ=>hmw.cell (aid k' kZ) _root_.id
   have bU:=pa Nq fy;have b1:(0:Int)≤k∧(k:Int) < p.ak.length:=by omega
   obtain ⟨j0,d,ed⟩:∃ (j0:Nat) (d:Df),p.ak[j0]? = some d∧j0=k∧p.ak[k]=d:=⟨k,_,List.getElem?_eq_getElem aP,rfl,rfl⟩;obtain ⟨ed1,rfl,ed2⟩:=ed;have du:=List.getElem_mem aP;rw [ed2] at oF du;have qy:w6.cell? (kA.add (j0*12))=some (.string d.name):=by
    have:=fy 0 (by omega);rw [add_zero'] at this;rw [this];obtain ⟨vp,tc,bc,e3,_⟩:=oF;subst e3;rfl
   (try simp only [go_sem,Nat.reduceAdd,Nat.reduceEqDiff,Nat.reduceLT,Nat.reduceLeDiff,Nat.reduceMul,reduceCtorEq,↓reduceIte,bq,br,cell_of xi,Value.cells,q,b1,qy,decide_true]);cases hs:d.name.toList == name.toList with
   | false=>
    have bo:d.name≠name:=fun e=>by rw [e] at hs;simp at hs
    (try simp only [go_sem,Nat.reduceAdd,Nat.reduceEqDiff,Nat.reduceLT,Nat.reduceLeDiff,Nat.reduceMul,reduceCtorEq,↓reduceIte]);rw [VL aP hle];refine ⟨aP,r,by omega,aJ,Np,mQ,?_,rfl⟩;rintro ⟨j,d',h1,h2,h3⟩;rcases Nat.lt_or_ge j j0 with h | h
    ·exact dJ ⟨j,d',h,h2,h3⟩
    ·obtain rfl:j=j0:=by omega
     rw [ed1] at h2;cases h2;exact absurd h3 bo
   | true=>
    have mK:d.name=name:=by
     have:=oD d.name name;unfold aQ at this;rw [hs] at this
     simpa using this.symm
    (try simp only [go_sem,Nat.reduceAdd,Nat.reduceEqDiff,Nat.reduceLT,Nat.reduceLeDiff,Nat.reduceMul,reduceCtorEq,↓reduceIte,bq,br,cell_of xi,Value.cells,q,b1,bU,decide_true]);refine bL (vs:=r2) (cs:=r) rfl rfl Np Nq mQ oF.one ?_;intro w7 dq aN jX;rw [VL aP hle];exact ⟨aP,r2,by omega,aJ.trans aN,dq,Nq,fun _=>⟨d,du,mK,oF⟩,rfl⟩
  ·have q:decide ((k:Int) < p.ak.length)=false:=decide_eq_false (by omega);obtain rfl:k=p.ak.length:=by omega
   obtain ⟨j0,Wi,rfl⟩:=List.getElem_of_mem Cv;obtain ⟨d,h1,h2,h3⟩:=dJ ⟨j0,_,Wi,List.getElem?_eq_getElem Wi,aic⟩;(try simp only [go_sem,Nat.reduceAdd,Nat.reduceEqDiff,Nat.reduceLT,Nat.reduceLeDiff,Nat.reduceMul,reduceCtorEq,↓reduceIte,cell_of xi,Value.cells,q]);exact ⟨_,_,aJ,Np,h3,h1,h2⟩
 rintro ρ w6 ⟨r,d,jg,pq,dJ,xb,rV,g1,g2,g3,g4,g5,g13,g15⟩;have bG:=jg.at bG (by omega);have fO:=jg.at fO (by omega);have uR:Mod (fun _=>False) w w6:=Gl.step jg (fun b hb hl=>by omega);have mC:oW w6 (fun b=>w.heap.size≤b∧b < w4.heap.size) va a.told:=aT.up (aT.up (aT.up mC (.refl (fun _=>False) _) aC (fun b h=>h) (fun _ _ h=>h)) xZ aC (fun b h=>h) (fun _ _ h=>h)) jg (fun b h=>by omega) (fun b h=>h) (fun _ _ h=>h);have aie:=dJ;obtain ⟨vp,tc,bc,rfl,s8,L8,hvp,bw,gL,_⟩:=aie;obtain ⟨vta,rfl,akp⟩:=bw.cells;refine dU (fun ρ w'=>d.type.kind=3∧w6=w'∧ρ.get 1=some (.string name)∧ρ.get 2=some vi∧ρ.get 4=some (I more)∧ρ.get 5=some (ptr w.heap.size)∧ρ.get 13=some (ptr kj)∧ρ.get 15=some (ptr w4.heap.size)) ?_ ?_
 ·cases q:d.type.kind != 3 with
  | false=>
   (try simp only [go_sem,Nat.reduceAdd,Nat.reduceEqDiff,Nat.reduceLT,Nat.reduceLeDiff,Nat.reduceMul,reduceCtorEq,↓reduceIte,g1,g2,g3,g4,g5,g13,g15,cell_of pq,Value.cells,q])
   simpa using q
  | true=>
   have mW:d.type.kind≠3:=by simpa using q
   obtain ⟨hrn,_⟩:=ahR js rfl xb rV mW;(try simp only [go_sem,Nat.reduceAdd,Nat.reduceEqDiff,Nat.reduceLT,Nat.reduceLeDiff,Nat.reduceMul,reduceCtorEq,↓reduceIte,g1,g2,g3,g4,g5,g13,g15,cell_of pq,Value.cells,q,az (n:=2) bG rfl]);refine aI (by rfl) ?_;refine (Gk p (h0.up (S:=fun _=>False) uR aC (fun b h=>⟨Nat.lt_of_lt_of_le h.1 uR.size,_root_.id⟩)) (MS _) hrn).mono ?_;rintro _ w7 ⟨⟨oc,rfl,kF⟩,aN⟩;obtain ⟨v2,rfl,Wj⟩:=kF;have ho:=mL Wj;(try simp only [go_sem,Nat.reduceAdd,Nat.reduceEqDiff,Nat.reduceLT,Nat.reduceLeDiff,Nat.reduceMul,reduceCtorEq,↓reduceIte]);refine cM ?_;intro w8 wg bg mR;(try simp only [go_sem,Nat.reduceAdd,Nat.reduceEqDiff,Nat.reduceLT,Nat.reduceLeDiff,Nat.reduceMul,reduceCtorEq,↓reduceIte]);refine bL (vs:=cY a.kind a.stuck a.steps v2) (cs:=cY 0 0 0 (.slice none 0 0)) rfl rfl wg rfl rfl (nV ho) ?_;intro w9 wg aV gA;have nP:Mod (fun _=>False) w7 w9:=bg.step aV (fun b hb hl=>by omega);have uS:=aN.trans nP;have aif:oW w9 (fun b=>w.heap.size≤b∧b < w4.heap.size) va a.told:=aT.mod mC uS aC (fun _ _ h=>h);have aih:oW w9 _ v2 a.told:=aT.mod Wj nP aC (fun _ _ h=>h);(try simp only [go_sem,Nat.reduceAdd,Nat.reduceEqDiff,Nat.reduceLT,Nat.reduceLeDiff,Nat.reduceMul,reduceCtorEq,↓reduceIte,az (n:=8) (uS.at fO _root_.id) rfl,az (n:=8) wg rfl]);refine aI (by rfl) ?_;refine (agR aif aih).mono ?_;rintro _ cT ⟨rfl,bJ⟩;have e:(((a.kind == a.kind&&a.stuck == a.stuck)&&a.steps == a.steps)&&AV a.told a.told)=true:=by
    have ly:=Vx a.told [];rw [List.append_nil] at ly;simp [AV,ly]
   rw [e];have z1:((0:Int) == 0)=true:=rfl;(try simp only [go_sem,Nat.reduceAdd,Nat.reduceEqDiff,Nat.reduceLT,Nat.reduceLeDiff,Nat.reduceMul,reduceCtorEq,↓reduceIte,z1,aE,RV.ev,aF]);exact uR.trans (uS.trans bJ)
 rintro ρ _ ⟨mW,rfl,g1,g2,g4,g5,g13,g15⟩;refine dU (fun ρ w'=>∃ Nr cs,Mod (fun _=>False) w6 w'∧w'.heap[Nr]? = some (.cells (cs:List Value).toArray 47 (0,0))∧bE w' (Out (fun _=>False) w') cs (gJ input)∧ρ=[(1,.string name),(4,I more),(5,ptr w.heap.size),(13,ptr kj),(15,ptr w4.heap.size),(20,ptr Nr)]) ?_ ?_
 ·(try simp only [go_sem,Nat.reduceAdd,Nat.reduceEqDiff,Nat.reduceLT,Nat.reduceLeDiff,Nat.reduceMul,reduceCtorEq,↓reduceIte,g1,g2,g4,g5,g13,g15]);have nA:fI ρ [.t 2]=some [vi]:=by simp only [fI,O.ev,g2,go_sem]
  refine aI nA ?_;refine (ahx (eT.mod uR (fun _ _ h=>h))).mono ?_;rintro _ w7 ⟨⟨cs,rfl,bH⟩,aN⟩;(try simp only [go_sem,Nat.reduceAdd,Nat.reduceEqDiff,Nat.reduceLT,Nat.reduceLeDiff,Nat.reduceMul,reduceCtorEq,↓reduceIte,g1,g2,g4,g5,g13,g15]);refine dp (n:=7) (vs:=cs) rfl bH.len bH.one ?_;intro w8 dW bg mR;(try simp only [go_sem,Nat.reduceAdd,Nat.reduceEqDiff,Nat.reduceLT,Nat.reduceLeDiff,Nat.reduceMul,reduceCtorEq,↓reduceIte,g1,g2,g4,g5,g13,g15]);exact ⟨_,_,aN.trans bg,dW,bH.up bg aC (aX bg),rfl⟩
 clear g1 g2 g4 g5 g13 g15;rintro _ w7 ⟨Nr,cl,j6,aii,fy,rfl⟩;refine dU (fun ρ w'=>∃ tK Ns,Mod (fun _=>False) w6 w'∧w'.heap[tK]? = some (.cells (oX Ns).toArray 47 (0,0))∧bE w' (Out (fun _=>False) w') (oX Ns) (se name input)∧ρ=[(1,.string name),(4,I more),(5,ptr w.heap.size),(13,ptr kj),(15,ptr w4.heap.size),(21,ptr tK)]) ?_ ?_
 ·let gc:List Value:=[I 3,.string name,I 0,.slice none 0 0,.slice none 0 0,.slice none 0 0,.slice none 0 0]
  (try simp only [go_sem,Nat.reduceAdd,Nat.reduceEqDiff,Nat.reduceLT,Nat.reduceLeDiff,Nat.reduceMul,reduceCtorEq,↓reduceIte,az (n:=7) aii fy.len]);refine fA (cs:=([gc,cl]:List (List Value)).flatten.toArray) (ps:=partsOf 7 0 [gc,cl]) (by rfl) (jC (sz:=7) [gc,cl] [] _ ⟨rfl,fy.len,trivial⟩ rfl) ?_;intro w8 dW bg mR;(try simp only [go_sem,Nat.reduceAdd,Nat.reduceEqDiff,Nat.reduceLT,Nat.reduceLeDiff,Nat.reduceMul,reduceCtorEq,↓reduceIte]);refine dp (n:=7) (vs:=oX w7.heap.size) rfl rfl (DF _) ?_;intro w9 dL aV gA;(try simp only [go_sem,Nat.reduceAdd,Nat.reduceEqDiff,Nat.reduceLT,Nat.reduceLeDiff,Nat.reduceMul,reduceCtorEq,↓reduceIte]);have nP:=bg.trans aV;refine ⟨_,_,j6.trans nP,dL,DG (aV.at dW _root_.id) _root_.id (yV (ej _ _ _ _) (ej _ _ _ _) (ej _ _ _ _) (ej _ _ _ _) (Nat.le_refl _)) (fy.up nP aC (aX nP)),rfl⟩
 rintro _ w8 ⟨tK,Ns,na,Nk,gm,rfl⟩;refine dU (fun ρ w'=>w8=w'∧ρ=[(4,I more),(5,ptr w.heap.size),(13,ptr kj),(15,ptr w4.heap.size),(21,ptr tK),(22,.string (name++jl))]) ?_ ?_
 ·(try simp only [go_sem,Nat.reduceAdd,Nat.reduceEqDiff,Nat.reduceLT,Nat.reduceLeDiff,Nat.reduceMul,reduceCtorEq,↓reduceIte,ah6 hn]);rfl
 rintro _ _ ⟨rfl,rfl⟩;have o6:=ah9 js rfl;have h2l:=(Gc o6 d xb).1 mW;generalize og:d.type.args.getD 1 default=t1 at *;have aij:d.type.args[1]? = some t1:=by rw [← og];simp [List.getD,h2l]
 obtain ⟨r2,oF⟩:=hN2 d xb N aib more;rw [og] at oF;have yZ:=uR.trans na;refine dU (fun ρ w'=>∃ kR vq,Mod (fun _=>False) w8 w'∧w'.heap[kR]? = some (.cells [.slice ad p.aH.length cd,vq].toArray 25 (0,0))∧aT w' vq 12 (Out (fun _=>False) w') (ic w' (Out (fun _=>False) w')) (p.ak++[tI name t1 input])∧ρ.get 4=some (I more)∧ρ.get 13=some (ptr kj)∧ρ.get 22=some (.string (name++jl))∧ρ.get 23=some (ptr kR)) ?_ ?_
 ·refine ah1 (name:=name++jl) (p:=p) (d:=d) (e:=se name input) (t1:=t1) (b5:=w.heap.size) (ru:=w4.heap.size) (tK:=tK) rfl rfl rfl rfl ⟨_,_,_,rfl⟩ (na.at bG _root_.id) (hf.up yZ aC (aX yZ) (fun _ _ h=>h.up yZ aC (aX yZ))) hle (na.at pq _root_.id) (dJ.up yZ aC (aX yZ)) aij Nk gm (ah7 hn) ?_;intro aw w' kR vq hm hold Aq uX hq;exact ⟨kR,vq,hm,uX,hq,hold 4 (by decide) (by decide),hold 13 (by decide) (by decide),hold 22 (by decide) (by decide),Aq⟩
 rintro ρ w9 ⟨kR,vq,zT,uX,hq,g4,g13,g22,g23⟩;have DK:=yZ.trans zT;have uS:=na.trans zT;have hP:jR w9 (Out (fun _=>False) w9) [.slice ad p.aH.length cd,vq] (nu p name t1 input):=⟨_,_,rfl,hd.up DK aC (aX DK) (fun _ _ h=>h.up DK aC (aX DK)),hq⟩;have fO:=uS.at fO _root_.id;have mC:oW w9 (fun b=>w.heap.size≤b∧b < w4.heap.size) va a.told:=aT.mod mC uS aC (fun _ _ h=>h);refine dU (fun ρ w'=>Mod (fun _=>False) w9 w'∧ρ=[(4,I more),(13,ptr kj),(22,.string (name++jl)),(23,ptr kR),(24,I (im (nu p name t1 input)))]) ?_ ?_
 ·(try simp only [go_sem,Nat.reduceAdd,Nat.reduceEqDiff,Nat.reduceLT,Nat.reduceLeDiff,Nat.reduceMul,reduceCtorEq,↓reduceIte,g4,g13,g22,g23,az (n:=2) uX rfl]);refine aI (by rfl) ?_;refine (So (nu p name t1 input) hP).mono ?_;rintro _ cT ⟨rfl,bJ⟩;(try simp only [go_sem,Nat.reduceAdd,Nat.reduceEqDiff,Nat.reduceLT,Nat.reduceLeDiff,Nat.reduceMul,reduceCtorEq,↓reduceIte,g4,g13,g22,g23]);exact bJ
 clear g4 g13 g22 g23;rintro _ cT ⟨A6,rfl⟩;have Wk:=DK.trans A6;have fO:=A6.at fO _root_.id;have uX:=A6.at uX _root_.id;have hP:=hP.up A6 aC (aX A6);have mC:oW cT (fun b=>w.heap.size≤b∧b < w4.heap.size) va a.told:=aT.mod mC A6 aC (fun _ _ h=>h);refine dU (fun ρ w'=>im (nu p name t1 input)=0∧cT=w'∧ρ.get 4=some (I more)∧ρ.get 13=some (ptr kj)∧ρ.get 22=some (.string (name++jl))∧ρ.get 23=some (ptr kR)) ?_ ?_
 ·cases q:im (nu p name t1 input) != 0 with
  | true=>(try simp only [go_sem,Nat.reduceAdd,Nat.reduceEqDiff,Nat.reduceLT,Nat.reduceLeDiff,Nat.reduceMul,reduceCtorEq,↓reduceIte,q,aE,RV.ev,aF]);exact Wk
  | false=>
   (try simp only [go_sem,Nat.reduceAdd,Nat.reduceEqDiff,Nat.reduceLT,Nat.reduceLeDiff,Nat.reduceMul,reduceCtorEq,↓reduceIte,q])
   simpa using q
 rintro ρ _ ⟨hc,rfl,g4,g13,g22,g23⟩;obtain ⟨aik,ail⟩:=ahP js rfl xb rV mW (by rw [og];exact hc) (by rw [og];exact oF);refine dU (fun ρ w'=>∃ A7 Nt,Mod (fun _=>False) cT w'∧xe w' (fun b=>cT.heap.size≤b∧b < w'.heap.size) Nt r2.2∧w'.heap[A7]? = some (.cells Nt.toArray 34 (0,0))∧ρ=[(4,I more),(13,ptr kj),(25,ptr A7),(26,I r2.1)]) ?_ ?_
 ·(try simp only [go_sem,Nat.reduceAdd,Nat.reduceEqDiff,Nat.reduceLT,Nat.reduceLeDiff,Nat.reduceMul,reduceCtorEq,↓reduceIte,g4,g13,g22,g23,az (n:=2) uX rfl]);have nA:fI ((122,Value.agg #[.slice ad p.aH.length cd,vq])::ρ) [.t 122,.t 22,.c (.slice none 0 0),.t 4]=some [.agg #[.slice ad p.aH.length cd,vq],.string (name++jl),.slice none 0 0,I more]:=by simp only [fI,O.ev,g22,g4,go_sem];rfl
  refine aI nA ?_;refine (Gk (nu p name t1 input) hP (MS _) oF).mono ?_;rintro _ fD ⟨⟨oc,rfl,kF⟩,dO⟩;obtain ⟨k,s',n',v',l',rfl,No⟩:=Vy kF;have ho:=mL No;(try simp only [go_sem,Nat.reduceAdd,Nat.reduceEqDiff,Nat.reduceLT,Nat.reduceLeDiff,Nat.reduceMul,reduceCtorEq,↓reduceIte,g4,g13,g22,g23]);refine cM ?_;intro p8 pK fU EM;(try simp only [go_sem,Nat.reduceAdd,Nat.reduceEqDiff,Nat.reduceLT,Nat.reduceLeDiff,Nat.reduceMul,reduceCtorEq,↓reduceIte,g4,g13,g22,g23]);refine bL (vs:=cY k s' n' v') (cs:=cY 0 0 0 (.slice none 0 0)) rfl rfl pK rfl rfl (nV ho) ?_;intro Db pK qb Ug;have Nu:Mod (fun _=>False) fD Db:=fU.step qb (fun b hb hl=>by omega);have z11:=dO.size;have z13:=Nu.size;(try simp only [go_sem,Nat.reduceAdd,Nat.reduceEqDiff,Nat.reduceLT,Nat.reduceLeDiff,Nat.reduceMul,reduceCtorEq,↓reduceIte,g4,g13,g22,g23]);exact ⟨_,_,dO.trans Nu,kF.up Nu (fun b h=>⟨by omega,by omega⟩),pK,rfl⟩
 clear g4 g13 g22 g23;rintro _ fD ⟨A7,Nt,Nv,sx,pK,rfl⟩;have Nw:=Wk.trans Nv;have fO:=Nv.at fO _root_.id;have mC:oW fD (fun b=>w.heap.size≤b∧b < w4.heap.size) va a.told:=aT.mod mC Nv aC (fun _ _ h=>h);refine dU (fun ρ w'=>r2.1=0∧fD=w'∧ρ.get 13=some (ptr kj)∧ρ.get 25=some (ptr A7)) ?_ ?_
 ·cases q:r2.1 != 0 with
  | true=>
   obtain ⟨e1,e2⟩:=aik (by simpa using q);have z1:(r2.1 == 1)=true:=by rw [e1];rfl
   cases q2:decide (more < 0) with
   | true=>(try simp only [go_sem,Nat.reduceAdd,Nat.reduceEqDiff,Nat.reduceLT,Nat.reduceLeDiff,Nat.reduceMul,reduceCtorEq,↓reduceIte,q,z1,q2,aE,RV.ev,aF]);exact Nw
   | false=>
    have q3:decide (more > 1048576)=true:=decide_eq_true (by
     have:=of_decide_eq_false q2
     omega)
    (try simp only [go_sem,Nat.reduceAdd,Nat.reduceEqDiff,Nat.reduceLT,Nat.reduceLeDiff,Nat.reduceMul,reduceCtorEq,↓reduceIte,q,z1,q2,q3,aE,RV.ev,aF]);exact Nw
  | false=>
   (try simp only [go_sem,Nat.reduceAdd,Nat.reduceEqDiff,Nat.reduceLT,Nat.reduceLeDiff,Nat.reduceMul,reduceCtorEq,↓reduceIte,q])
   simpa using q
 rintro ρ _ ⟨hz,rfl,g13,qh⟩;obtain ⟨a',b,ea,rfl,hG⟩:=ail hz;cases ea;obtain ⟨vb,rfl,Wl⟩:=sx;refine dU (fun ρ w'=>Mod (fun _=>False) fD w'∧ρ=[(13,ptr kj),(25,ptr A7),(27,.bool true)]) ?_ ?_
 ·(try simp only [go_sem,Nat.reduceAdd,Nat.reduceEqDiff,Nat.reduceLT,Nat.reduceLeDiff,Nat.reduceMul,reduceCtorEq,↓reduceIte,g13,qh,az (n:=8) fO rfl,az (n:=8) pK rfl]);refine aI (by rfl) ?_;refine (Vl mC Wl).mono ?_;rintro _ p8 ⟨rfl,fU⟩;rw [hG.beg];(try simp only [go_sem,Nat.reduceAdd,Nat.reduceEqDiff,Nat.reduceLT,Nat.reduceLeDiff,Nat.reduceMul,reduceCtorEq,↓reduceIte,g13,qh]);exact fU
 clear g13 qh;rintro _ p8 ⟨fU,rfl⟩;have Nx:=Nw.trans fU;have fO:=fU.at fO _root_.id;have pK:=fU.at pK _root_.id;obtain ⟨aa,ca,rfl⟩:=a7 mC;obtain ⟨ab,cb,rfl⟩:=a7 Wl;refine dU (fun ρ w'=>p8=w'∧ρ.get 13=some (ptr kj)∧ρ.get 25=some (ptr A7)∧ρ.get 27=some (.bool true)) ?_ ?_
 ·cases q1:a.kind == 2 with
  | false=>(try simp only [go_sem,Nat.reduceAdd,Nat.reduceEqDiff,Nat.reduceLT,Nat.reduceLeDiff,Nat.reduceMul,reduceCtorEq,↓reduceIte,cell_of fO,cell_of pK,Value.cells,q1])
  | true=>
   cases q2:b.kind == 2 with
   | false=>(try simp only [go_sem,Nat.reduceAdd,Nat.reduceEqDiff,Nat.reduceLT,Nat.reduceLeDiff,Nat.reduceMul,reduceCtorEq,↓reduceIte,cell_of fO,cell_of pK,Value.cells,q1,q2])
   | true=>
    have q3:((a.told.length:Int) != b.told.length)=false:=by
     rw [hG.done (by simpa using q1) (by simpa using q2)];simp
    (try simp only [go_sem,Nat.reduceAdd,Nat.reduceEqDiff,Nat.reduceLT,Nat.reduceLeDiff,Nat.reduceMul,reduceCtorEq,↓reduceIte,cell_of fO,cell_of pK,Value.cells,q1,q2,q3])
 rintro ρ _ ⟨rfl,g13,qh,wu⟩;cases q1:a.kind != 3 with
 | true=>(try simp only [go_sem,Nat.reduceAdd,Nat.reduceEqDiff,Nat.reduceLT,Nat.reduceLeDiff,Nat.reduceMul,reduceCtorEq,↓reduceIte,g13,qh,wu,cell_of fO,cell_of pK,Value.cells,q1,aE,RV.ev,aF]);exact Nx
 | false=>
  cases q2:b.kind != 3 with
  | true=>(try simp only [go_sem,Nat.reduceAdd,Nat.reduceEqDiff,Nat.reduceLT,Nat.reduceLeDiff,Nat.reduceMul,reduceCtorEq,↓reduceIte,g13,qh,wu,cell_of fO,cell_of pK,Value.cells,q1,q2,aE,RV.ev,aF]);exact Nx
  | false=>
   have q3:(a.stuck == b.stuck)=true:=by
    rw [hG.stuck (by simpa using q1) (by simpa using q2)];simp
   (try simp only [go_sem,Nat.reduceAdd,Nat.reduceEqDiff,Nat.reduceLT,Nat.reduceLeDiff,Nat.reduceMul,reduceCtorEq,↓reduceIte,g13,qh,wu,cell_of fO,cell_of pK,Value.cells,q1,q2,q3,aE,RV.ev,aF]);exact Nx
end
section
open Go Go.W Go.ChangeShapes Go.WideShapes Go.ChangeAt Go.RowKit Go.Deep
theorem aim {H:Type} {enc:TypeId×Value→H} {w:World} {ts:List TypeId} {args:List Value} {ds:List (DataW H)} (h:ot enc Tryz.prog (25::ts) w args ds) (hb:Rows.uptoBulkAll ds≤1048576):∃ (cs:List Value) (p:Pg) (gI:List Value) (d:DataW H) (fY:List (DataW H)),args = .agg cs.toArray::gI∧ds=d::fY∧jR w (Out (fun _=>False) w) cs p∧(p.ak.length≤1048576∧∀ d∈p.ak,mE d.body)∧ot enc Tryz.prog ts w gI fY∧Rows.uptoBulkAll fY≤1048576:=by
 obtain ⟨cs,p,gI,d,fY,rfl,rfl,h1,h2,h3⟩:=ahq h hb;rw [Rows.uptoBulkAll] at hb;exact ⟨cs,p,gI,d,fY,rfl,rfl,h1,h2,h3,by omega⟩
theorem ain {H:Type} {enc:TypeId×Value→H} {w:World} {ts:List TypeId} {args:List Value} {ds:List (DataW H)} (h:ot enc Tryz.prog (9::ts) w args ds) (hb:Rows.uptoBulkAll ds≤1048576):∃ (s:ByteArray) (gI:List Value) (d:DataW H) (fY:List (DataW H)),args = .string s::gI∧ds=d::fY∧s.size≤1048576∧ot enc Tryz.prog ts w gI fY:=by
 obtain ⟨v,gI,d,fY,base,p,rfl,rfl,h',gW,hd,hw⟩:=Gp h;obtain ⟨s,rfl⟩:=okWide_string Tryz.underlying9 gW;obtain ⟨fuel,hf⟩:=hd;rw [Rows.uptoBulkAll] at hb;obtain ⟨s',e,_,hs⟩:=uT (y:=(d,p)) (c:=.string s) (by simpa [Value.cells] using hf) (by show Rows.uptoBulk d≤_;omega);cases e;exact ⟨s,gI,d,fY,rfl,rfl,hs,h'⟩
theorem aio {H:Type} {enc:TypeId×Value→H} {w:World} {ts:List TypeId} {args:List Value} {ds:List (DataW H)} (h:ot enc Tryz.prog (26::ts) w args ds):∃ v input gI d fY,args=v::gI∧ds=d::fY∧o7 w v input∧xC v∧ot enc Tryz.prog ts w gI fY:=by
 obtain ⟨v,gI,d,fY,base,p,rfl,rfl,h',gW,hd,hw⟩:=Gp h;obtain ⟨a0,len,cap,rfl⟩:=okWide_slice Tryz.underlying26 gW;obtain ⟨fuel,hf⟩:=hd;obtain ⟨c,xs,e,h1,h2⟩:=XN (x:=(d,p)) Tryz.underlying26 Tryz.underlying3 Tryz.Dx Tryz.aho hf hw;cases e;refine ⟨_,xs,gI,d,fY,rfl,rfl,h1,?_,h'⟩;rcases open_ints (x:=(d,p)) Tryz.underlying26 Tryz.underlying3 Tryz.Dx hf with ⟨e,_⟩ | ⟨a,akq,akr,zs,e,_,hl,_⟩
 ·cases e;exact Nat.le_refl _
 ·cases e;exact hl
abbrev Ny:Array Value:=#[.agg #[.slice none 0 0,.slice none 0 0],.string ⟨#[]⟩,.slice none 0 0,.int .i64 0,.int .i64 0]
theorem aip (os:Os) {H:Type} (enc:TypeId×Value→H):∃ places,DataW.whole enc Tryz.prog ((World.laidAll Tryz.prog os DD).forCall (fun _ _=>0) ⟨#[],Ny,[]⟩).memory Tryz.f6.params.toList Rows.meaningGivesSpec.vars false Ny.toList 8=some ([.agg [.nil,.nil],.lit (.string []),.nil,.lit (.int .i64 0),.lit (.int .i64 0)],[],places):=
 ⟨[],by kernel_rfl⟩
theorem aiq (os:Os) (started:os.Started) (H:Type) (enc:TypeId×Value→H) (F:Stop.Interp) :
   ReturnsInHanded {} Tryz.checked os 6 .any ((Rows.OpenSpec.upto Rows.meaningGivesSpec).preRow enc Tryz.prog Tryz.f6 [] false DD) (((Rows.OpenSpec.upto Rows.meaningGivesSpec).at F).post enc Tryz.prog Tryz.f6 false true false false):=by
 obtain ⟨places,hx⟩:=aip os enc;refine ahr (C:=Tryz.checked) Tryz.own started (by kernel_rfl) Tryz.func6
  (witness_row_at (enc:=enc) (C:=Tryz.checked) false (World.laidAll Tryz.prog os DD) Ny (World.laidAll_os _ _ _) (by kernel_rfl) (by kernel_rfl) (by kernel_rfl)
   (OpenSpec.preRow_of_cond 8 hx (by kernel_rfl) (fun k hk=>by cases hk;kernel_rfl) (by kernel_rfl) (ahu os _)))
  Tryz.laidOut (by kernel_rfl) (tb:=4) (by kernel_rfl) Tryz.underlying4 rfl ?_ ?_
 ·intro ds hd;rw [Tryz.params6] at hd
  match ds,hd with
  | [_,_,_,_,_],_=>rfl
 ·intro W args ds h hk;rw [Tryz.params6] at h;obtain ⟨cs,p,aks,d1,ds1,rfl,rfl,hp,cQ,h1,iI⟩:=aim h hk;obtain ⟨entry,akt,_,_,rfl,rfl,Cq,h2⟩:=ain h1 iI;obtain ⟨vin,input,aku,_,_,rfl,rfl,eT,jQ,h3⟩:=aio h2;obtain ⟨f1,akv,_,_,rfl,rfl,h4⟩:=VH h3;obtain ⟨f2,akw,_,_,rfl,rfl,h5⟩:=VH h4;obtain ⟨rfl,rfl⟩:=ahp h5;exact ah' p hp eT jQ Cq cQ.1
theorem air:Rows.MeaningGivesUptoSaid:=
 OpenClaim.holds_of_cond 6 Tryz.f6 rfl rfl rfl rfl rfl rfl rfl ⟨rfl,rfl,rfl,rfl,rfl⟩ rfl rfl rfl rfl rfl (by kernel_rfl) Tryz.func6 (by kernel_rfl)
  (of_decide_eq_true (by kernel_rfl)) (by unfold Func.isWrapper;first | (rw [if_pos (by decide +kernel)];kernel_rfl) | (rw [if_neg (by decide +kernel)];exact ⟨rfl,rfl⟩))
  (fun os started H enc _ F=>by rw [OpenClaim.pre_eq_preRow];exact aiq os started H enc F)
theorem ais (f:FuncId) (fn:Func) (hf:Tryz.pinned.checked.prog.funcNamed "sloth/slothlaw10.MeaningGives" = some f) (eK:Tryz.pinned.checked.prog.funcs[f]? = some fn) :
   true=Tryz.pinned.checked.prog.looks []∧∀ (j:Nat) t,fn.params[j]? = some t→Tryz.pinned.checked.prog.wantsStandIn t=false:=by
 obtain rfl:f=6:=Option.some.inj ((show Tryz.prog.funcNamed "sloth/slothlaw10.MeaningGives" = some 6 by kernel_rfl).symm.trans hf) |>.symm;obtain rfl:fn=Tryz.f6:=(Option.some.inj (Tryz.func6.symm.trans eK)).symm;refine ⟨by kernel_rfl,fun j t ht=>?_⟩;rw [Tryz.params6] at ht;have hm:t∈[25,9,26,3,3]:=by simpa using Array.mem_of_getElem? ht
 have cN:([25,9,26,3,3].all fun u=>!Tryz.prog.wantsStandIn u)=true:=by kernel_rfl
 exact (show Tryz.prog.wantsStandIn t=false by simpa using List.all_eq_true.1 cN t hm)
theorem meaningGives_holds:Rows.MeaningGivesUptoCardSaid:=
 Claim7.holds_tied_plain_at .later [] _ _ _ _ air (fun _ h=>by cases h) (by kernel_rfl) (fun _ h=>by cases h) meaningGivesUpto_row_tie rfl ⟨rfl,rfl⟩ (by kernel_rfl) rfl ais (by kernel_rfl)
#print axioms meaningGives_holds
end
end Go.Proofs.YtjfgeekjjlhbdaaGreatDoor