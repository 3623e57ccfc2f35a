/- The row and the card of StreamShows. -/
import Derived.Test.YtnjobkbblhaliaaGreatDoorZTF
import Derived.Laws.IdiomStrings
import Derived.Lib.BufferRead
set_option linter.unusedSimpArgs false
set_option linter.unusedVariables false
set_option maxRecDepth 100000
namespace Go.Proofs.YtnjobkbblhaliaaGreatDoor
section
open Go Go.W
inductive Rt where
 | text (s:ByteArray) | full (a:Nat) | arg (a:Nat) | rest (a:Nat)
structure Rs where
 stack:List Rt
 out:ByteArray
def eC (v:Vl) (aj:ByteArray) (n:Nat):Bool:=!v.bX&&decide (v.aj=aj)&&decide (v.fields.length=n)
def mz:List Nat→List Rt
 | []=>[]
 | [a]=>[.full a]
 | a::l=>.full a :: .text ⟨#[44,32]⟩::mz l
def mA:List Nat→List Rt
 | []=>[]
 | a::l=>.text ⟨#[32]⟩ :: .arg a::mA l
section
variable (itoa:Int→ByteArray)
def dK (v:Vl):List Rt:=
 if v.bX=true then [.text ⟨#[95]⟩]
 else if v.aj=⟨#[]⟩ then [.text (itoa v.num)]
 else if eC v jN 0=true then [.text ⟨#[91,93]⟩]
 else if eC v gQ 2=true then [.text ⟨#[91]⟩,.full (v.fields.getD 0 0),.rest (v.fields.getD 1 0)]
 else if (eC v qb 0||eC v kC 2||eC v kD 3)=true then .text ⟨#[40]⟩::mz v.fields++[.text ⟨#[41]⟩]
 else .text v.aj::mA v.fields
def jd (v:Vl):List Rt:=
 if v.bX=true∨(v.aj=⟨#[]⟩∧0≤v.num) then dK itoa v
 else if v.aj≠⟨#[]⟩∧(v.fields.length=0∨eC v gQ 2=true∨eC v kC 2=true∨eC v kD 3=true) then dK itoa v
 else .text ⟨#[40]⟩::dK itoa v++[.text ⟨#[41]⟩]
def kF (v:Vl) (a:Nat):List Rt:=
 if eC v jN 0=true then [.text ⟨#[93]⟩]
 else if eC v gQ 2=true then [.text ⟨#[44,32]⟩,.full (v.fields.getD 0 0),.rest (v.fields.getD 1 0)]
 else [.text ⟨#[32,124,32]⟩,.full a,.text ⟨#[93]⟩]
def Rs.step (all:List Vl) (t:Rs):Rs:=match t.stack.getLast? with
 | none=>t
 | some (.text s)=>⟨t.stack.dropLast,t.out++s⟩
 | some (.full a)=>⟨t.stack.dropLast++(dK itoa (all.getD a dP)).reverse,t.out⟩
 | some (.arg a)=>⟨t.stack.dropLast++(jd itoa (all.getD a dP)).reverse,t.out⟩
 | some (.rest a)=>⟨t.stack.dropLast++(kF (all.getD a dP) a).reverse,t.out⟩
def Rs.steps (all:List Vl):Nat→Rs→Rs
 | 0,t=>t
 | n+1,t=>Rs.steps all n (t.step itoa all)
def pl:List Td→List Nat→List Rt
 | [],_=>[]
 | .text s::r,ws=>.text s::pl r ws
 | .val::r,ws=>.full (ws.headD 0)::pl r ws.tail
 | .arg::r,ws=>.arg (ws.headD 0)::pl r ws.tail
 | .rest::r,ws=>.rest (ws.headD 0)::pl r ws.tail
end
theorem pn:∀ (r q:List Td) (ws vs:List Nat),cD r=ws.length→pl (r++q) (ws++vs)=pl r ws++pl q vs
 | [],q,ws,vs,h=>by
  have:ws=[]:=List.eq_nil_of_length_eq_zero h.symm;subst this;rfl
 | t::r,q,ws,vs,h=>by
  rw [zC] at h;cases t with
  | text s=>
   have h':cD r=ws.length:=by simpa [Td.slot] using h
   simp only [List.cons_append,pl,pn r q ws vs h']
  | val=>
   cases ws with
   | nil=>simp [Td.slot] at h
   | cons a ws=>
    have h':cD r=ws.length:=by simp only [Td.slot,List.length_cons] at h;omega
    simp only [List.cons_append,pl,List.headD_cons,List.tail_cons,pn r q ws vs h']
  | arg=>
   cases ws with
   | nil=>simp [Td.slot] at h
   | cons a ws=>
    have h':cD r=ws.length:=by simp only [Td.slot,List.length_cons] at h;omega
    simp only [List.cons_append,pl,List.headD_cons,List.tail_cons,pn r q ws vs h']
  | rest=>
   cases ws with
   | nil=>simp [Td.slot] at h
   | cons a ws=>
    have h':cD r=ws.length:=by simp only [Td.slot,List.length_cons] at h;omega
    simp only [List.cons_append,pl,List.headD_cons,List.tail_cons,pn r q ws vs h']
section
variable {itoa:Int→ByteArray} {all:List Vl}
def iA (itoa:Int→ByteArray) (all:List Vl) (m:Nat) (t t':Rs):Prop:=∃ n,n≤m∧t.steps itoa all n=t'
theorem P3:∀ (a b:Nat) (t:Rs),t.steps itoa all (a+b)=(t.steps itoa all a).steps itoa all b
 | 0,b,t=>by rw [Nat.zero_add];rfl
 | a+1,b,t=>by
  rw [show a+1+b=(a+b)+1 by omega,Rs.steps,P3 a b];rfl
theorem iA.refl (t:Rs):iA itoa all 0 t t:=⟨0,Nat.le_refl _,rfl⟩
theorem iA.le {m m':Nat} {a b:Rs} (h:iA itoa all m a b) (hm:m≤m'):iA itoa all m' a b:=by
 obtain ⟨n,h1,h2⟩:=h;exact ⟨n,by omega,h2⟩
theorem iA.trans {p q:Nat} {a b c:Rs} (h:iA itoa all p a b) (k:iA itoa all q b c):iA itoa all (p+q) a c:=by
 obtain ⟨n,hn,rfl⟩:=h;obtain ⟨m,hm,rfl⟩:=k;exact ⟨n+m,by omega,P3 n m a⟩
theorem P4 {r:List Rt} {s out:ByteArray}:iA itoa all 1 ⟨r++[.text s],out⟩ ⟨r,out++s⟩:=by
 refine ⟨1,Nat.le_refl _,?_⟩;show Rs.step itoa all _=_;unfold Rs.step;simp [List.getLast?_concat,List.dropLast_concat]
theorem Zw {r:List Rt} {a:Nat} {v:Vl} {out:ByteArray} (h:all[a]? = some v):iA itoa all 1 ⟨r++[.full a],out⟩ ⟨r++(dK itoa v).reverse,out⟩:=by
 refine ⟨1,Nat.le_refl _,?_⟩;show Rs.step itoa all _=_;unfold Rs.step;simp [List.getLast?_concat,List.dropLast_concat,List.getD_eq_getElem?_getD,h]
theorem Zx {r:List Rt} {a:Nat} {v:Vl} {out:ByteArray} (h:all[a]? = some v):iA itoa all 1 ⟨r++[.arg a],out⟩ ⟨r++(jd itoa v).reverse,out⟩:=by
 refine ⟨1,Nat.le_refl _,?_⟩;show Rs.step itoa all _=_;unfold Rs.step;simp [List.getLast?_concat,List.dropLast_concat,List.getD_eq_getElem?_getD,h]
theorem Zy {r:List Rt} {a:Nat} {v:Vl} {out:ByteArray} (h:all[a]? = some v):iA itoa all 1 ⟨r++[.rest a],out⟩ ⟨r++(kF v a).reverse,out⟩:=by
 refine ⟨1,Nat.le_refl _,?_⟩;show Rs.step itoa all _=_;unfold Rs.step;simp [List.getLast?_concat,List.dropLast_concat,List.getD_eq_getElem?_getD,h]
theorem oz {out:ByteArray} {r:List Rt} {s:ByteArray} {l:List Rt}:iA itoa all 1 ⟨r++(.text s::l).reverse,out⟩ ⟨r++l.reverse,out++s⟩:=by
 rw [List.reverse_cons,← List.append_assoc];exact P4
end
end
section
open Go Go.W
theorem EO:∀ (l:List Td) (ws:List Nat),cD l=ws.length→pl l.reverse ws.reverse=(pl l ws).reverse
 | [],ws,h=>by
  have:ws=[]:=List.eq_nil_of_length_eq_zero h.symm;subst this;rfl
 | t::l,ws,h=>by
  rw [zC] at h;cases t with
  | text s=>
   have h':cD l=ws.length:=by simpa [Td.slot] using h
   have:=pn l.reverse [.text s] ws.reverse [] (by rw [xW,h',List.length_reverse]);rw [List.append_nil] at this;rw [List.reverse_cons,this,EO l ws h'];simp [pl]
  | val=>
   cases ws with
   | nil=>simp [Td.slot] at h
   | cons a ws=>
    have h':cD l=ws.length:=by simp only [Td.slot,List.length_cons] at h;omega
    rw [List.reverse_cons,List.reverse_cons,pn l.reverse [.val] ws.reverse [a] (by rw [xW,h',List.length_reverse]),EO l ws h'];simp [pl]
  | arg=>
   cases ws with
   | nil=>simp [Td.slot] at h
   | cons a ws=>
    have h':cD l=ws.length:=by simp only [Td.slot,List.length_cons] at h;omega
    rw [List.reverse_cons,List.reverse_cons,pn l.reverse [.arg] ws.reverse [a] (by rw [xW,h',List.length_reverse]),EO l ws h'];simp [pl]
  | rest=>
   cases ws with
   | nil=>simp [Td.slot] at h
   | cons a ws=>
    have h':cD l=ws.length:=by simp only [Td.slot,List.length_cons] at h;omega
    rw [List.reverse_cons,List.reverse_cons,pn l.reverse [.rest] ws.reverse [a] (by rw [xW,h',List.length_reverse]),EO l ws h'];simp [pl]
theorem Zz:∀ (a:Nat) (ws:List Nat),pl (.val::jY ws.length) (a::ws)=mz (a::ws)
 | a,[]=>rfl
 | a,b::ws=>by
  have:=Zz b ws;simp only [pl,List.headD_cons,List.tail_cons,List.length_cons,jY,mz] at this ⊢;rw [this]
theorem ZA:∀ (ws:List Nat),pl (iP ws.length) ws=mA ws
 | []=>rfl
 | b::ws=>by
  have:=ZA ws;simp only [pl,List.headD_cons,List.tail_cons,List.length_cons,iP,mA] at this ⊢;rw [this]
section
variable {itoa:Int→ByteArray} {f:eE} {items:List It}
def ww (f:eE) (items:List It) (s:Ws) (t:Rs):Prop:=t.out=s.out∧t.stack=pl s.row ((bg f items s.at').waits.take (cD s.row))
theorem wy {x:It} {v:Vs}:(dW f x v).length=dz f x:=by unfold dW;rw [List.length_range']
theorem P5 {x:It} {v:Vs} {aj:ByteArray} {n:Nat} (hc:aj≠⟨#[]⟩) (h:x.aj≠⟨#[]⟩→0≤f.of x.aj):eC ⟨false,x.aj,x.num,dW f x v⟩ aj n=cJ f x aj n:=by
 unfold eC cJ;simp only [Bool.not_false,Bool.true_and];by_cases e:x.aj=aj
 ·have U:x.aj≠⟨#[]⟩:=by rw [e];exact hc
  have h0:=h U;have hl:(dW f x v).length=(f.of x.aj).toNat:=by rw [wy];unfold dz;rw [if_neg U]
  rw [hl,e];rw [e] at h0
  congr 1
  apply decide_eq_decide.2;omega
 ·simp [e]
theorem P6 {s s':Ws} {x:It} {r:List Rt} {out:ByteArray} {r0 l:List Td} (hp:∀ j,j < items.length→1≤kE f (items.take j)) (U:items[s.at']? = some x) (hle:s.at' < items.length)
   (dN:s'.at'=s.at'+1) (eL:s'.row=r0++l.reverse) (wA:cD r0=(bg f items s.at').waits.dropLast.length) (hl:cD l=dz f x) (ho:out=s'.out)
   (hr:r=pl r0 (bg f items s.at').waits.dropLast++(pl l (dW f x (bg f items s.at'))).reverse):ww f items s' ⟨r,out⟩:=by
 refine ⟨ho,?_⟩;show r=_;rw [dN,wv U,eL,oq,xW,hl];show r=pl _ (((bg f items s.at').waits.dropLast++(dW f x (bg f items s.at')).reverse).take _);rw [List.take_of_length_le (by rw [List.length_append,List.length_reverse,wy,wA];exact Nat.le_refl _),pn _ _ _ _ wA,EO _ _ (by rw [hl,wy]),hr]
end
end
section
open Go Go.W
theorem EP (a b c:ByteArray):a++b++c=a++(b++c):=by
 apply ByteArray.ext;simp [Array.append_assoc]
theorem H9 {l:List Nat} (h:l.length=2):∃ a b,l=[a,b]:=by
 match l,h with
 | [a,b],_=>exact ⟨a,b,rfl⟩
section
variable {itoa:Int→ByteArray} {f:eE} {items:List It} {all:List Vl}
theorem amM (hk:ic f items=true) (hp:∀ j,j < items.length→1≤kE f (items.take j)) {s:Ws} {x:It} (U:items[s.at']? = some x) (lq:cD s.row=(bg f items s.at').waits.dropLast.length) (a:Bool) :
   ∃ t',iA itoa all 3 ⟨pl s.row (bg f items s.at').waits.dropLast++(if a=true then jd itoa ⟨false,x.aj,x.num,dW f x (bg f items s.at')⟩ else dK itoa ⟨false,x.aj,x.num,dW f x (bg f items s.at')⟩).reverse,s.out⟩ t'∧ww f items (Ws.value itoa f items s a) t':=by
 have ah:=(List.getElem?_eq_some_iff.1 U).1;obtain ⟨new,uk⟩:∃ new,new=dW f x (bg f items s.at'):=⟨_,rfl⟩;have fE:new.length=dz f x:=by rw [uk,wy]
 obtain ⟨D,hD⟩:∃ D,D=pl s.row (bg f items s.at').waits.dropLast:=⟨_,rfl⟩;have rQ:x.aj≠⟨#[]⟩→0≤f.of x.aj∧f.of x.aj≤8:=fun h=>(Eo hk U).resolve_left h
 have hv:∀ (aj:ByteArray) (n:Nat),aj≠⟨#[]⟩→eC ⟨false,x.aj,x.num,dW f x (bg f items s.at')⟩ aj n=cJ f x aj n:=fun aj n h=>P5 h (fun h'=>(rQ h').1)
 have v1:eC ⟨false,x.aj,x.num,dW f x (bg f items s.at')⟩ jN 0=cJ f x jN 0:=hv jN 0 (by decide);have v2:eC ⟨false,x.aj,x.num,dW f x (bg f items s.at')⟩ gQ 2=cJ f x gQ 2:=hv gQ 2 (by decide);have v3:eC ⟨false,x.aj,x.num,dW f x (bg f items s.at')⟩ qb 0=cJ f x qb 0:=hv qb 0 (by decide);have v4:eC ⟨false,x.aj,x.num,dW f x (bg f items s.at')⟩ kC 2=cJ f x kC 2:=hv kC 2 (by decide);have v5:eC ⟨false,x.aj,x.num,dW f x (bg f items s.at')⟩ kD 3=cJ f x kD 3:=hv kD 3 (by decide);rw [← uk] at v1 v2 v3 v4 v5;have rel:∀ {s':Ws} {out:ByteArray} {r:List Rt} (l:List Td),s'.at'=s.at'+1→s'.row=s.row++l.reverse→cD l=dz f x→out=s'.out→r=D++(pl l new).reverse→ww f items s' ⟨r,out⟩:=fun l h1 h2 h3 h4 h5=>
  P6 hp U ah h1 h2 lq h3 h4 (by rw [h5,hD,uk])
 rw [← uk,← hD];unfold Ws.value;rw [U];simp only;by_cases h0:x.aj=⟨#[]⟩
 ·have fU:dz f x=0:=by unfold dz;rw [if_pos h0]
  have pr:dK itoa ⟨false,x.aj,x.num,new⟩=[.text (itoa x.num)]:=by unfold dK;simp [h0]
  rw [if_pos h0];by_cases hg:a=true∧x.num < 0
  ·obtain ⟨rfl,hn⟩:=hg;have zL:jd itoa ⟨false,x.aj,x.num,new⟩=[.text ⟨#[40]⟩,.text (itoa x.num),.text ⟨#[41]⟩]:=by
    unfold jd;rw [if_neg (by simp [h0];omega),if_neg (by simp [h0]),pr];rfl
   rw [if_pos rfl,zL];refine ⟨_,((oz.trans oz).trans oz).le (by decide),rel [] rfl (by simp [Ws.on,Ws.cE]) (by rw [fU];rfl) ?_ rfl⟩;show _=s.out++uu itoa true x.num;unfold uu;rw [if_pos (by simpa using hn),EP,EP,EP]
  ·have zL:(if a=true then jd itoa ⟨false,x.aj,x.num,new⟩ else dK itoa ⟨false,x.aj,x.num,new⟩)=[.text (itoa x.num)]:=by
    cases a with
    | false=>exact pr
    | true=>
     rw [if_pos rfl];unfold jd;rw [if_pos (.inr ⟨h0,by have:¬ x.num < 0:=fun h=>hg ⟨rfl,h⟩;show 0≤x.num;omega⟩)];exact pr
   rw [zL];refine ⟨_,(oz).le (by decide),rel [] rfl (by simp [Ws.on,Ws.cE]) (by rw [fU];rfl) ?_ rfl⟩;show _=s.out++uu itoa a x.num;unfold uu;rw [if_neg (by cases a<;>simp_all)]
 rw [if_neg h0];have fU:dz f x=(f.of x.aj).toNat:=by unfold dz;rw [if_neg h0]
 obtain ⟨k1,k2⟩:=rQ h0;have h0b:(decide (x.aj=⟨#[]⟩))=false:=by simp [h0]
 have EQ:∀ (h:new.length=0∨cJ f x gQ 2=true∨cJ f x kC 2=true∨cJ f x kD 3=true),(if a=true then jd itoa ⟨false,x.aj,x.num,new⟩ else dK itoa ⟨false,x.aj,x.num,new⟩)=dK itoa ⟨false,x.aj,x.num,new⟩:=by
  intro h;cases a with
  | false=>rfl
  | true=>
   rw [if_pos rfl];unfold jd;rw [if_neg (by simp [h0]),if_pos ⟨h0,by rw [v2,v4,v5];exact h⟩]
 by_cases c1:cJ f x jN 0=true
 ·have ke:new.length=0:=by rw [fE,fU];obtain ⟨e1,e2⟩:=ot c1;rw [e1,e2];rfl
  rw [if_pos c1,EQ (.inl ke)];have pr:dK itoa ⟨false,x.aj,x.num,new⟩=[.text ⟨#[91,93]⟩]:=by unfold dK;simp only [h0,v1,c1,if_true,if_false,Bool.false_eq_true]
  rw [pr];exact ⟨_,(oz).le (by decide),rel [] rfl (by simp [Ws.on,Ws.cE]) (by rw [← fE,ke];rfl) rfl rfl⟩
 rw [if_neg c1];by_cases c2:cJ f x gQ 2=true
 ·have ke:new.length=2:=by rw [fE,fU];obtain ⟨e1,e2⟩:=ot c2;rw [e1,e2];rfl
  obtain ⟨n0,n1,jO⟩:=H9 ke;rw [if_pos c2,EQ (.inr (.inl c2))];have pr:dK itoa ⟨false,x.aj,x.num,new⟩=[.text ⟨#[91]⟩,.full n0,.rest n1]:=by
   unfold dK;simp only [h0,v1,v2,c1,c2,if_true,if_false,Bool.false_eq_true];rw [jO];rfl
  rw [pr];exact ⟨_,(oz).le (by decide),rel [.val,.rest] rfl (by simp [Ws.on,Ws.later,Ws.cE]) (by rw [← fE,ke];rfl) rfl (by rw [jO];rfl)⟩
 rw [if_neg c2];by_cases c3:cJ f x qb 0=true
 ·have ke:new.length=0:=by rw [fE,fU];obtain ⟨e1,e2⟩:=ot c3;rw [e1,e2];rfl
  rw [if_pos c3,EQ (.inl ke)];have jO:new=[]:=List.eq_nil_of_length_eq_zero ke;have pr:dK itoa ⟨false,x.aj,x.num,new⟩=[.text ⟨#[40]⟩,.text ⟨#[41]⟩]:=by
   unfold dK;simp only [h0,v1,v2,v3,c1,c2,c3,if_true,if_false,Bool.false_eq_true,Bool.true_or];rw [jO];rfl
  rw [pr];refine ⟨_,(oz.trans oz).le (by decide),rel [] rfl (by simp [Ws.on,Ws.cE]) (by rw [← fE,ke];rfl) ?_ rfl⟩;show _=s.out++_;rw [EP];rfl
 rw [if_neg c3];by_cases c4:(cJ f x kC 2||cJ f x kD 3)=true
 ·have hn:f.of x.aj=2∨f.of x.aj=3:=by
   rcases Bool.or_eq_true_iff.1 c4 with h | h
   ·obtain ⟨e1,e2⟩:=ot h;rw [e1,e2];exact .inl rfl
   ·obtain ⟨e1,e2⟩:=ot h;rw [e1,e2];exact .inr rfl
  rw [if_pos c4,EQ (.inr (.inr (Bool.or_eq_true_iff.1 c4)))];have pr:dK itoa ⟨false,x.aj,x.num,new⟩ = .text ⟨#[40]⟩::(mz new++[.text ⟨#[41]⟩]):=by
   unfold dK;have c4':(cJ f x qb 0||cJ f x kC 2||cJ f x kD 3)=true:=by rw [Bool.or_assoc,c4,Bool.or_true]
   simp only [h0,v1,v2,v3,v4,v5,c1,c2,c4',if_true,if_false,Bool.false_eq_true];rfl
  rw [pr];have jG:new.length=(f.of x.aj).toNat:=by rw [fE,fU]
  obtain ⟨n0,nt,jO⟩:∃ n0 nt,new=n0::nt:=by
   cases hh:new with
   | nil=>rw [hh] at jG;simp at jG;omega
   | cons y l=>exact ⟨y,l,rfl⟩
  have P7:nt.length=(f.of x.aj - 1).toNat:=by rw [jO,List.length_cons] at jG;omega
  have bE:pl (.val::jY (f.of x.aj - 1).toNat++[.text ⟨#[41]⟩]) new=mz new++[.text ⟨#[41]⟩]:=by
   have h1:=pn (.val::jY (f.of x.aj - 1).toNat) [.text ⟨#[41]⟩] new [] (by rw [zC,Hv,jO,List.length_cons,P7];exact Nat.add_comm _ _);rw [List.append_nil] at h1;rw [h1,jO,← P7,Zz];rfl
  exact ⟨_,(oz).le (by decide),rel (.val::jY (f.of x.aj - 1).toNat++[.text ⟨#[41]⟩]) rfl (by simp [Ws.on,Ws.tuple,Ws.later,Ws.cE]) (by
   rw [oq,zC,Hv,← fE,jO,List.length_cons,P7];show 1+_+0=_
   omega) rfl (by rw [bE])⟩
 rw [if_neg c4];have Ia:cJ f x kC 2=false∧cJ f x kD 3=false:=by
  simpa using c4
 have pr:dK itoa ⟨false,x.aj,x.num,new⟩ = .text x.aj::mA new:=by
  unfold dK;have c3':cJ f x qb 0=false:=by simpa using c3
  simp only [h0,v1,v2,v3,v4,v5,c1,c2,c3',Ia.1,Ia.2,Bool.or_self,if_false,Bool.false_eq_true]
 have jG:new.length=(f.of x.aj).toNat:=by rw [fE,fU]
 have bE:pl (iP (f.of x.aj).toNat) new=mA new:=by rw [← jG,ZA]
 by_cases hg:a=true∧f.of x.aj > 0
 ·obtain ⟨rfl,ke⟩:=hg;have zL:jd itoa ⟨false,x.aj,x.num,new⟩ = .text ⟨#[40]⟩ :: .text x.aj::(mA new++[.text ⟨#[41]⟩]):=by
   unfold jd;rw [if_neg (by simp [h0]),if_neg (by rw [v2,v4,v5];simp [c2,Ia.1,Ia.2];intro _ e;rw [e] at jG;simp at jG;omega),pr];rfl
  rw [if_pos rfl,zL];have amN:pl (iP (f.of x.aj).toNat++[.text ⟨#[41]⟩]) new=mA new++[.text ⟨#[41]⟩]:=by
   have h1:=pn (iP (f.of x.aj).toNat) [.text ⟨#[41]⟩] new [] (by rw [Bx,jG]);rw [List.append_nil] at h1;rw [h1,bE];rfl
  refine ⟨_,(oz.trans oz).le (by decide),rel (iP (f.of x.aj).toNat++[.text ⟨#[41]⟩]) ?_ ?_ (by rw [oq,Bx,fU];rfl) ?_ (by rw [amN])⟩
  ·unfold Ws.aj;rw [if_pos (by simpa using ke)];rfl
  ·unfold Ws.aj;rw [if_pos (by simpa using ke)];simp [Ws.on,Ws.later,Ws.cE]
  ·unfold Ws.aj;rw [if_pos (by simpa using ke)];show _=s.out++_;rw [EP]
 ·have zL:(if a=true then jd itoa ⟨false,x.aj,x.num,new⟩ else dK itoa ⟨false,x.aj,x.num,new⟩)=dK itoa ⟨false,x.aj,x.num,new⟩:=by
   cases a with
   | false=>rfl
   | true=>exact (EQ (.inl (by have:¬ f.of x.aj > 0:=fun h=>hg ⟨rfl,h⟩;omega)))
  have wK:¬ (a&&decide (f.of x.aj > 0))=true:=by
   intro hh;simp only [Bool.and_eq_true,decide_eq_true_eq] at hh;exact hg hh
  rw [zL,pr];refine ⟨_,(oz).le (by decide),rel (iP (f.of x.aj).toNat) ?_ ?_ (by rw [Bx,fU]) ?_ (by rw [bE])⟩
  ·unfold Ws.aj;rw [if_neg wK];rfl
  ·unfold Ws.aj;rw [if_neg wK];simp [Ws.on,Ws.later,Ws.cE]
  ·unfold Ws.aj;rw [if_neg wK];rfl
end
end
section
open Go Go.W
section
variable {itoa:Int→ByteArray} {f:eE} {items:List It}
theorem ZB {l:List Nat} {n:Nat} (h:n < l.length):l.take (n+1)=l.take n++[l[n]]:=List.take_succ_eq_append_getElem h
theorem amO (hi:∀ n,0 < (itoa n).size) (hk:ic f items=true) (hp:∀ j,j < items.length→1≤kE f (items.take j)) {s:Ws} {t:Rs} (h:rf f items s) (hr:s.row≠[]) (hR:ww f items s t) :
   ∃ t',iA itoa (bg f items items.length).all 4 t t'∧ww f items (s.step itoa f items) t':=by
 obtain ⟨ts,apI⟩:=t;obtain ⟨rfl,bN⟩:=hR;have bN:ts=pl s.row ((bg f items s.at').waits.take (cD s.row)):=bN;have hV:=yh (f:=f) (items:=items) s.at' h.le (fun j hj=>h.pos j hj);have hVe:=yh (f:=f) (items:=items) items.length (Nat.le_refl _) hp;obtain ⟨td,hl⟩:∃ td,s.row.getLast? = some td:=by
  cases hh:s.row.getLast? with
  | none=>exact absurd (List.getLast?_eq_none_iff.1 hh) hr
  | some td=>exact ⟨td,rfl⟩
 obtain ⟨r0,wA⟩:∃ r0,r0=s.row.dropLast:=⟨_,rfl⟩;have eL:=OP hl;rw [← wA] at eL;have p8:=h.sum;have hop:=h.bX;rw [← hV.len] at p8;have kJ:cD s.row=cD r0+td.slot:=by
  rw [eL,oq,zC];rfl
 have kr:cD r0+td.slot≤(bg f items s.at').waits.length:=by omega
 have tl:∀ n,n≤(bg f items s.at').waits.length→n=((bg f items s.at').waits.take n).length:=fun n hn=>by rw [List.length_take];omega
 have slot:td.slot=1→∃ a,(bg f items s.at').waits[cD r0]? = some a∧a∈(bg f items s.at').waits ∧
     ts=pl r0 ((bg f items s.at').waits.take (cD r0))++pl [td] [a]:=by
  intro hs;have ah:cD r0 < (bg f items s.at').waits.length:=by omega
  refine ⟨_,List.getElem?_eq_getElem ah,List.getElem_mem ah,?_⟩;rw [bN,kJ,hs,ZB ah,eL];exact pn _ _ _ _ (tl _ (by omega))
 have ZC:∀ x,items[s.at']? = some x→td.slot=1→∀ a,(bg f items s.at').waits[cD r0]? = some a→(bg f items s.at').waits.getLast? = some a∧cD r0=(bg f items s.at').waits.dropLast.length∧(bg f items s.at').waits.take (cD r0)=(bg f items s.at').waits.dropLast:=by
  intro x U hs a ha;have h0:=h.no (List.getElem?_eq_some_iff.1 U).1;have hlen:(bg f items s.at').waits.length=cD r0+1:=by omega
  refine ⟨?_,by rw [List.length_dropLast];omega,?_⟩
  ·rw [List.getLast?_eq_getElem?,hlen];exact ha
  ·rw [List.dropLast_eq_take,hlen];rfl
 have ZD:∀ a,items[s.at']? = none→a∈(bg f items s.at').waits→(bg f items items.length).all[a]? = some dP:=by
  intro a U ha;have hge:=List.getElem?_eq_none_iff.1 U;have e:s.at'=items.length:=by have:=h.le;omega
  rw [e] at ha;exact hVe.lt a ha
 have ZE:∀ (b:Bool),td=(if b=true then Td.arg else Td.val)→∃ t',iA itoa (bg f items items.length).all 4 ⟨ts,s.out⟩ t'∧ww f items (Ws.value itoa f items { s with row:=r0} b) t':=by
  intro b wJ;have cL:td.slot=1:=by rw [wJ];cases b<;>rfl
  obtain ⟨a,ha,P8,iT⟩:=slot cL;cases U:items[s.at']? with
  | none=>
   have hv:=ZD a U P8;have e1:iA itoa (bg f items items.length).all 1 ⟨ts,s.out⟩ ⟨pl r0 ((bg f items s.at').waits.take (cD r0))++[Rt.text ⟨#[95]⟩],s.out⟩:=by
    rw [iT,wJ];cases b with
    | false=>exact Zw hv
    | true=>exact Zx hv
   refine ⟨_,(e1.trans P4).le (by decide),?_⟩;unfold Ws.value;simp only [U];exact ⟨rfl,rfl⟩
  | some x=>
   obtain ⟨g1,g2,g3⟩:=ZC x U cL a ha;have hv:=Zv hp U g1;obtain ⟨t',k1,k2⟩:=amM (itoa:=itoa) (all:=(bg f items items.length).all) hk hp (s:={ s with row:=r0}) U g2 b;refine ⟨t',(iA.trans (p:=1) ?_ k1).le (by decide),k2⟩;rw [iT,wJ,g3];cases b with
   | false=>exact Zw hv
   | true=>exact Zx hv
 unfold Ws.step;rw [hl,← wA];cases td with
 | text x=>
  simp only;have lq:(Td.text x).slot=0:=rfl;rw [lq,Nat.add_zero] at kJ kr;have iT:ts=pl r0 ((bg f items s.at').waits.take (cD r0))++[.text x]:=by
   rw [bN,kJ,eL];have h1:=pn r0 [.text x] ((bg f items s.at').waits.take (cD r0)) [] (tl _ kr);rw [List.append_nil] at h1;exact h1
  rw [iT];exact ⟨_,P4.le (by decide),rfl,rfl⟩
 | val=>exact ZE false rfl
 | arg=>exact ZE true rfl
 | rest=>
  simp only;obtain ⟨a,ha,P8,iT⟩:=slot rfl;have ah:cD r0 < (bg f items s.at').waits.length:=(List.getElem?_eq_some_iff.1 ha).1;have haa:(bg f items s.at').waits[cD r0]=a:=(List.getElem?_eq_some_iff.1 ha).2;have ZF:∀ v:Vl,(bg f items items.length).all[a]? = some v→kF v a=[.text ⟨#[32,124,32]⟩,.full a,.text ⟨#[93]⟩] →
      ∃ t',iA itoa (bg f items items.length).all 4 ⟨ts,s.out⟩ t'∧ww f items ((Ws.cE { s with row:=r0} ⟨#[32,124,32]⟩).later [.val,.text ⟨#[93]⟩]) t':=by
   intro v hv vt;have e1:iA itoa (bg f items items.length).all 1 ⟨ts,s.out⟩ ⟨pl r0 ((bg f items s.at').waits.take (cD r0))++(kF v a).reverse,s.out⟩:=by
    rw [iT];exact Zy hv
   rw [vt] at e1;refine ⟨_,(e1.trans oz).le (by decide),rfl,?_⟩;show _=pl (r0++[.text ⟨#[93]⟩,.val]) ((bg f items s.at').waits.take (cD (r0++[.text ⟨#[93]⟩,.val])));have e2:cD (r0++[.text ⟨#[93]⟩,.val])=cD r0+1:=by rw [oq];rfl
   rw [e2,ZB ah,haa,pn _ _ _ _ (tl _ (by omega))];rfl
  unfold Ws.wl;cases U:items[s.at']? with
  | none=>
   simp only [U];exact ZF dP (ZD a U P8) rfl
  | some x=>
   simp only [U];obtain ⟨g1,g2,g3⟩:=ZC x U rfl a ha;have hv:=Zv hp U g1;have rQ:x.aj≠⟨#[]⟩→0≤f.of x.aj:=fun h=>((Eo hk U).resolve_left h).1
   have v1:eC ⟨false,x.aj,x.num,dW f x (bg f items s.at')⟩ jN 0=cJ f x jN 0:=P5 (by decide) rQ;have v2:eC ⟨false,x.aj,x.num,dW f x (bg f items s.at')⟩ gQ 2=cJ f x gQ 2:=P5 (by decide) rQ;have rW:=(List.getElem?_eq_some_iff.1 U).1;have ar:∀ {c:ByteArray} {n:Int},cJ f x c n=true→c≠⟨#[]⟩→dz f x=n.toNat:=fun {c n} hh hc=>by
    obtain ⟨e1,e2⟩:=ot hh;unfold dz;rw [if_neg (by rw [e1];exact hc),e1,e2]
   have e1:iA itoa (bg f items items.length).all 1 ⟨ts,s.out⟩ ⟨pl r0 ((bg f items s.at').waits.dropLast)++(kF ⟨false,x.aj,x.num,dW f x (bg f items s.at')⟩ a).reverse,s.out⟩:=by
    rw [iT,g3];exact Zy hv
   by_cases c2:cJ f x gQ 2=true
   ·have c1:cJ f x jN 0=false:=by
     obtain ⟨e1,_⟩:=ot c2;unfold cJ;rw [e1];rfl
    rw [if_pos c2];have oN:=ar c2 (by decide);obtain ⟨n0,n1,jO⟩:=H9 (l:=dW f x (bg f items s.at')) (by rw [wy,oN];rfl);unfold kF at e1;rw [v1,v2,c1,c2,if_neg (by decide),if_pos rfl] at e1;simp only at e1;refine ⟨_,(e1.trans oz).le (by decide),P6 (s:=s) (l:=[.val,.rest]) (r0:=r0) hp U rW rfl rfl g2 (by rw [oN];rfl) rfl ?_⟩;rw [jO];rfl
   rw [if_neg c2];by_cases c1:cJ f x jN 0=true
   ·rw [if_pos c1];have oN:=ar c1 (by decide);unfold kF at e1;rw [v1,c1,if_pos rfl] at e1;refine ⟨_,(e1.trans oz).le (by decide),P6 (s:=s) (l:=[]) (r0:=r0) hp U rW rfl (by simp [Ws.on,Ws.cE]) g2 (by rw [oN];rfl) rfl rfl⟩
   ·rw [if_neg c1];refine ZF _ hv ?_;unfold kF;rw [v1,v2,if_neg c1,if_neg c2]
theorem ZG (hi:∀ n,0 < (itoa n).size) (hk:ic f items=true) (hp:∀ j,j < items.length→1≤kE f (items.take j)):∀ (n:Nat) {s:Ws} {t:Rs},rf f items s→ww f items s t→∃ t',iA itoa (bg f items items.length).all (4*n) t t'∧ww f items (s.steps itoa f items n) t'
 | 0,s,t,h,hR=>⟨t,iA.refl t,hR⟩
 | n+1,s,t,h,hR=>by
  by_cases hr:s.row=[]
  ·rw [Hx hr];exact ⟨t,(iA.refl t).le (Nat.zero_le _),hR⟩
  ·obtain ⟨t1,h1,h2⟩:=amO hi hk hp h hr hR;obtain ⟨t2,h3,h4⟩:=ZG hi hk hp n (Ep hi hk h hr).1 h2;exact ⟨t2,(h1.trans h3).le (by omega),h4⟩
theorem amP (hi:∀ n,0 < (itoa n).size) (hk:ic f items=true) (hp:∀ j,j < items.length→1≤kE f (items.take j)):iA itoa (bg f items items.length).all (4*(64*items.length+2)) ⟨[.full 0],⟨#[]⟩⟩ ⟨[],(ie itoa f items).out⟩:=by
 obtain ⟨t',h1,h2,h3⟩:=ZG hi hk hp (64*items.length+2) (s:=kV) (t:=⟨[.full 0],⟨#[]⟩⟩) OO ⟨rfl,rfl⟩;have hn:=(Hy hi hk).2;have e:ie itoa f items=kV.steps itoa f items (64*items.length+2):=rfl;rw [← e] at h2 h3;rw [hn] at h3;obtain ⟨ts,to⟩:=t';have S5:ts=[]:=h3;have py:to=(ie itoa f items).out:=h2;rw [S5,py] at h1;exact h1
def tj (f:eE) (items:List It):Bool:=ic f items&&(List.range items.length).all fun j=>decide (1≤kE f (items.take j))
theorem amQ (hi:∀ n,0 < (itoa n).size) {au:List gF}:qd itoa au items=if tj (eF au) items=true then ((ie itoa (eF au) items).out,kE (eF au) items) else (⟨#[]⟩,-1):=by
 unfold qd tj;by_cases hk:ic (eF au) items=true
 ·obtain ⟨h1,h2⟩:=Hy hi hk;have h3:=akB hi hk;rw [if_pos hk];by_cases ah:(ie itoa (eF au) items).at' < items.length
  ·rw [if_pos ah,if_neg];intro hh;rw [hk,Bool.true_and,List.all_eq_true] at hh;have:=hh _ (List.mem_range.2 ah);rw [decide_eq_true_eq,← h3,h1.no ah] at this;exact absurd this (by decide)
  ·have e:(ie itoa (eF au) items).at'=items.length:=by have:=h1.le;omega
   rw [if_neg ah,if_pos]
   ·rw [h3,e,List.take_length]
   ·rw [hk,Bool.true_and,List.all_eq_true];intro j hj;rw [decide_eq_true_eq];exact h1.pos j (by have:=List.mem_range.1 hj;omega)
 ·rw [if_neg hk,if_neg];intro hh;exact hk (Bool.and_eq_true_iff.1 hh).1
end
end
section
open Go Go.W Go.RowKit
def uz (o:Option Int):Int:=match o with
 | none => -1
 | some n=>if n > 8 then -1 else n
section
variable {w:World} {vI vS:Value} {items:List It} {au:List gF} {B:Nat→Prop}
theorem amR {i:Nat} {x:gF} {k:ByteArray} (U:au[i]? = some x) (h:eF (au.take i) k=none) (hk:x.name=k):eF au k=some x.fields:=by
 have h1:=HJ U k;rw [h] at h1;simp only [hk,if_true] at h1;have:∀ (l m:List gF),eF l k=some x.fields→eF (l++m) k=some x.fields:=by
  intro l m hl;unfold eF at hl ⊢;rw [List.find?_append];cases hh:l.find? (fun x=>decide (x.name=k)) with
  | none=>rw [hh] at hl;cases hl
  | some y=>rw [hh] at hl;exact hl
 have:=this _ (au.drop (i+1)) h1
 rwa [List.take_append_drop] at this
theorem ZH {k:ByteArray} (hS:cO w vS 2 (au.map fy) B) (hl:au.length≤4294967296):aK Tryz.prog 47 [vS,.string k] w fun r w'=>r=I (uz (eF au k))∧Mod (fun _=>False) w w':=by
 obtain ⟨a2,c2,gD⟩:∃ a c,vS = .slice a au.length c:=by
  obtain ⟨a,c,h1,_⟩:=hS;exact ⟨a,c,by simpa using h1⟩
 subst gD;refine ajT.calls rfl ?_;unfold Ov;refine σ ?_;refine dA (fun z ρ w'=>∃ (i:Nat),z=au.length - i∧i≤au.length∧eF (au.take i) k=none∧Mod (fun _=>False) w w'∧ρ=[(0,.slice a2 au.length c2),(1,.string k),(5,I i)]) au.length ⟨0,rfl,Nat.zero_le _,rfl,Mod.refl _ _,rfl⟩ ?_;rintro z ρ w1 ⟨i,rfl,hi,hn,hm,rfl⟩;unfold Xr;rcases Nat.lt_or_ge i au.length with ah | hge
 ·obtain ⟨x,U⟩:∃ x,au[i]? = some x:=⟨_,List.getElem?_eq_getElem ah⟩;obtain ⟨ad,c,ox,fJ,fZ⟩:=Pg (hS.mod hm (fun _ _ h=>h) (fun _ h=>h)) U;cases ox;have ZI:w1.cell? ⟨(ad.add (i*2)).block,(ad.add (i*2)).off+1,none⟩=some (I x.fields):=fZ;have e1:decide ((i:Int) < au.length)=true:=by rw [decide_eq_true_eq];omega
  have e2:IntKind.i64.wrap ((i:Int)+1)=((i+1:Nat):Int):=by rw [IntKind.wrap_i64];omega
  have e3:(0:Int)≤i∧(i:Int) < au.length:=by omega
  by_cases hk:x.name=k
  ·have b0:decide (x.name=k)=true:=by simp [hk]
   have hf:=amR U hn hk;by_cases h8:x.fields > 8
   ·have b1:decide (x.fields > 8)=true:=by simp;omega
    simp only [go_sem,simprocAttr,e1,e3,decide_true,Int.toNat_natCast,fJ,ZI,ig,b0,b1];refine ⟨?_,hm⟩;rw [hf];unfold uz;simp only;rw [if_pos h8]
   ·have b1:decide (x.fields > 8)=false:=by simp;omega
    simp only [go_sem,simprocAttr,e1,e3,decide_true,Int.toNat_natCast,fJ,ZI,ig,b0,b1];refine ⟨?_,hm⟩;rw [hf];unfold uz;simp only;rw [if_neg h8]
  ·have b0:decide (x.name=k)=false:=by simp [hk]
   simp only [go_sem,simprocAttr,e1,e3,decide_true,Int.toNat_natCast,fJ,fZ,ig,b0,e2];refine ⟨_,?_,i+1,rfl,by omega,?_,hm,rfl⟩
   ·omega
   ·rw [HJ U,hn];simp [hk]
 ·obtain rfl:i=au.length:=by omega
  have e1:decide (((au.length:Nat):Int) < au.length)=false:=by simp
  rw [List.take_length] at hn;simp only [go_sem,simprocAttr,e1];refine ⟨?_,hm⟩;rw [hn];rfl
theorem Ib {x:It}:iy (eF au) x=if x.aj=⟨#[]⟩ then decide (-4611686018427387904≤x.num)&&decide (x.num≤4611686018427387903) else decide (uz (eF au x.aj)≥0)&&decide (x.num=0):=by
 unfold iy
 split
 ·rfl
 ·unfold uz;cases eF au x.aj with
  | none=>simp
  | some n=>
   simp only
   split
   ·rename_i h;simp;omega
   ·rename_i h;rw [Bool.and_comm]
    congr 1
    have:decide (n≤8)=true:=by simp;omega
    rw [this,Bool.and_true]
theorem amS {x:It} (hS:cO w vS 2 (au.map fy) B) (hl:au.length≤4294967296):aK Tryz.prog 46 [.agg #[.string x.aj,I x.num],vS] w fun r w'=>r = .bool (iy (eF au) x)∧Mod (fun _=>False) w w':=by
 refine ajS.calls rfl ?_;unfold Ou;refine σ ?_;refine cK rfl ?_;intro w1 ax ag cL;have fY:w1.heap[w.heap.size]? = some (.cells [.string x.aj,I x.num].toArray 42 (0,0)):=ax;by_cases h0:x.aj=⟨#[]⟩
 ·have b0:decide (x.aj=⟨#[]⟩)=true:=by simp [h0]
  by_cases n1:x.num ≥ -4611686018427387904
  ·have b1:decide (x.num ≥ -4611686018427387904)=true:=by simp;omega
   simp only [go_sem,simprocAttr,cell_of fY,ig,b0,b1];refine ⟨?_,ag⟩;rw [Ib,if_pos h0];have:decide (-4611686018427387904≤x.num)=true:=by simp;omega
   rw [this];rfl
  ·have b1:decide (x.num ≥ -4611686018427387904)=false:=by simp;omega
   simp only [go_sem,simprocAttr,cell_of fY,ig,b0,b1];refine ⟨?_,ag⟩;rw [Ib,if_pos h0];have:decide (-4611686018427387904≤x.num)=false:=by simp;omega
   rw [this];rfl
 ·have b0:decide (x.aj=⟨#[]⟩)=false:=by simp [h0]
  simp only [go_sem,simprocAttr,cell_of fY,ig,b0];refine δ (by rfl) (ZH (k:=x.aj) (hS.mod ag (fun _ _ h=>h) (fun _ h=>h)) hl) ?_;rintro _ w2 ⟨rfl,ae⟩;have aC:=ae.at fY (fun hh=>hh);by_cases n1:uz (eF au x.aj)≥0
  ·have b1:decide (uz (eF au x.aj)≥0)=true:=by simp;omega
   simp only [go_sem,simprocAttr,cell_of aC,b1];refine ⟨?_,ag.trans ae⟩;rw [Ib,if_neg h0,b1,Bool.true_and,kU]
  ·have b1:decide (uz (eF au x.aj)≥0)=false:=by simp;omega
   simp only [go_sem,simprocAttr,cell_of aC,b1];refine ⟨?_,ag.trans ae⟩;rw [Ib,if_neg h0,b1];rfl
end
end
section
open Go Go.W Go.RowKit
def oA (l:List Nat):List Int:=l.map fun (a:Nat)=>(a:Int)
def tn (lo:Nat) (w:World) (X:Nat→Prop) (vf:Value) (l:List Nat):Prop:=Ints w vf (oA l)∧∀ b,jf vf=some b→lo≤b∧b < w.heap.size∧¬ X b
def kX (v:Vl) (vf:Value):List Value:=[.bool v.bX,.string v.aj,I v.num,vf]
def jP (all:List Vl) (dp:List Value):List Value:=(List.zipWith kX all dp).flatMap id
structure nq (lo:Nat) (w:World) (va:Value) (all:List Vl) (dp:List Value) (fA:Option Nat) (X:Nat→Prop):Prop where
 len:dp.length=all.length
 own:ao w 115 4 va (jP all dp) all.length fA
 fl:∀ (i:Nat) (v:Vl) (vf:Value),all[i]? = some v→dp[i]? = some vf→tn lo w (fun b=>fA=some b∨X b) vf v.fields
 yi:∀ b,fA=some b→lo≤b
theorem ZJ:∀ (a:List Vl) (b:List Value) (v:Vl) (vf:Value),b.length=a.length→jP (a++[v]) (b++[vf])=jP a b++kX v vf
 | [],[],v,vf,_=>by simp [jP]
 | x::a,y::b,v,vf,h=>by
  have:=ZJ a b v vf (by simpa using h);unfold jP at this ⊢;simp only [List.cons_append,List.zipWith_cons_cons,List.flatMap_cons,this,List.append_assoc]
theorem Ic:∀ (a:List Vl) (b:List Value),b.length=a.length→(jP a b).length=a.length*4
 | [],[],_=>rfl
 | x::a,y::b,h=>by
  have:=Ic a b (by simpa using h);unfold jP at this ⊢;simp only [List.zipWith_cons_cons,List.flatMap_cons,List.length_append,this,List.length_cons,id,kX,List.length_nil];omega
theorem ZK:∀ (a:List Vl) (b:List Value) (i:Nat) (v:Vl) (vf:Value) (sp:List Value),b.length=a.length→i < a.length→(jP a b++sp).take (i*4)++kX v vf++(jP a b++sp).drop (i*4+4)=jP (a.set i v) (b.set i vf)++sp
 | x::a,y::b,0,v,vf,sp,h,hi=>by
  unfold jP;simp [kX]
 | x::a,y::b,i+1,v,vf,sp,h,hi=>by
  have:=ZK a b i v vf sp (by simpa using h) (by simpa using hi);unfold jP at this ⊢;simp only [List.set_cons_succ,List.zipWith_cons_cons,List.flatMap_cons,id];rw [List.append_assoc (kX x y),List.append_assoc (kX x y),← this];have e1:(i+1)*4=(kX x y).length+i*4:=by show _=4+_;omega
  have e2:(i+1)*4+4=(kX x y).length+(i*4+4):=by show _=4+_;omega
  rw [e2,e1,List.take_length_add_append,List.drop_length_add_append];simp only [List.append_assoc]
theorem amT (a:List Vl) (b:List Value) (i:Nat) (v:Vl) (vf:Value) (sp:List Value) (h:b.length=a.length) (hi:i < a.length):W.sp (jP a b++sp).toArray (i*4) (kX v vf)=(jP (a.set i v) (b.set i vf)++sp).toArray:=by
 rw [← ZK a b i v vf sp h hi];rfl
theorem ZL:∀ (a:List Vl) (b:List Value) (i:Nat) (v:Vl) (vf:Value),a[i]? = some v→b[i]? = some vf→∀ k,k < 4→(jP a b)[i*4+k]? = (kX v vf)[k]?
 | x::a,y::b,0,v,vf,h1,h2,k,hk=>by
  cases h1;cases h2;unfold jP;simp only [List.zipWith_cons_cons,List.flatMap_cons,id,Nat.zero_mul,Nat.zero_add];rw [List.getElem?_append_left (by simpa [kX] using hk)]
 | x::a,y::b,i+1,v,vf,h1,h2,k,hk=>by
  have:=ZL a b i v vf (by simpa using h1) (by simpa using h2) k hk;unfold jP at this ⊢;simp only [List.zipWith_cons_cons,List.flatMap_cons,id];have e1:(kX x y).length=4:=rfl;rw [List.getElem?_append_right (by rw [e1];omega),e1,show (i+1)*4+k - 4=i*4+k by omega];exact this
section
variable {lo:Nat} {w w':World} {va:Value} {all:List Vl} {dp:List Value} {fA:Option Nat} {X:Nat→Prop}
theorem tn.mod {S:Nat→Prop} {vf:Value} {l:List Nat} (h:tn lo w X vf l) (hm:Mod S w w') (hs:∀ b,jf vf=some b→¬ S b):tn lo w' X vf l:=
 ⟨h.1.mod hm hs,fun b hb=>⟨(h.2 b hb).1,by have:=(h.2 b hb).2.1;have:=hm.size;omega,(h.2 b hb).2.2⟩⟩
theorem nq.later {S:Nat→Prop} (h:nq lo w va all dp fA X) (hm:Mod S w w') (hA:∀ b,fA=some b→¬ S b) (hS:∀ b,lo≤b→b < w.heap.size→S b→X b):nq lo w' va all dp fA X:=
 ⟨h.len,h.own.mod hm hA,fun i v vf h1 h2=>(h.fl i v vf h1 h2).mod hm (fun b hb hh=>(h.fl i v vf h1 h2).2 b hb |>.2.2 (.inr (hS b ((h.fl i v vf h1 h2).2 b hb).1 ((h.fl i v vf h1 h2).2 b hb).2.1 hh))),h.yi⟩
theorem nq.az {X':Nat→Prop} (h:nq lo w va all dp fA X) (hX:∀ b,b < w.heap.size→X' b→X b):nq lo w va all dp fA X':=
 ⟨h.len,h.own,fun i v vf h1 h2=>⟨(h.fl i v vf h1 h2).1,fun b hb=>by
  obtain ⟨q1,q2,q3⟩:=(h.fl i v vf h1 h2).2 b hb
  exact ⟨q1,q2,fun hh=>q3 (hh.elim .inl (fun U=>.inr (hX b q2 U)))⟩⟩,h.yi⟩
theorem P9 (h:nq lo w va all dp fA X) {i:Nat} {v:Vl} (hv:all[i]? = some v):∃ b c vf,va = .slice (some ⟨b,0,none⟩) all.length c∧fA=some b∧dp[i]? = some vf∧tn lo w (fun b=>fA=some b∨X b) vf v.fields∧cH w 4 (.pointer (some ⟨b,i*4,none⟩))=some (.agg #[.bool v.bX,.string v.aj,I v.num,vf]):=by
 have hi:=(List.getElem?_eq_some_iff.1 hv).1;obtain ⟨vf,rm⟩:∃ vf,dp[i]? = some vf:=⟨_,List.getElem?_eq_getElem (by rw [h.len];exact hi)⟩;rcases h.own.2 with ⟨_,h',_⟩ | ⟨b,c,cg,e1,e2,e3,e4,e5⟩
 ·omega
 refine ⟨b,c,vf,e1,e2,rm,h.fl i v vf hv rm,?_⟩;have hc:∀ k v',(kX v vf)[k]? = some v'→w.cell? ⟨b,i*4+k,none⟩=some v':=fun k v' hk=>by
  have sD:k < 4:=(List.getElem?_eq_some_iff.1 hk).1;have:=ZL all dp i v vf hv rm k sD;rw [hk] at this;refine (cell_of e3 _).trans ?_;rw [List.getElem?_toArray,List.getElem?_append_left (List.getElem?_eq_some_iff.1 this).1];exact this
 have h0:=hc 0 _ rfl;have h1:=hc 1 _ rfl;have h2:=hc 2 _ rfl;have h3:=hc 3 _ rfl;rw [Nat.add_zero] at h0;simp [cH,jv,Addr.add_lit,h0,h1,h2,h3]
end
end
section
open Go Go.W Go.RowKit
abbrev fD (l:List Nat):List Value:=l.map fun (a:Nat)=>I (a:Int)
structure zM (lo:Nat) (w w':World) (D:Nat) (x:It) (all:List Vl) (vw:Value) (ws:List Nat) (fW:Option Nat) (k:Nat) (va:Value) (dp:List Value) (fA:Option Nat) (vF:Value) (fF:Option Nat):Prop where
 fO:w'.heap[D]? = some (.cells [.bool false,.string x.aj,I x.num,vF].toArray 115 (0,0))
 fr:ao w' 3 1 vF (fD (List.range' all.length k)) k fF
 al:nq lo w' va (all++List.replicate k dP) dp fA (fun b=>fW=some b∨fF=some b∨b=D)
 wt:ao w' 3 1 vw (fD ws) ws.length fW
 nF:∀ b,fF=some b→lo≤b∧b≠D∧fA≠some b∧fW≠some b
 nA:∀ b,fA=some b→b≠D∧fW≠some b
 nW:∀ b,fW=some b→lo≤b∧b≠D
 nD:lo≤D
 mod:Mod (fun b=>lo≤b) w w'
theorem ZM (l:List Nat):∀ u∈fD l,u.oneCell'=true:=by
 intro u hu;obtain ⟨a,_,rfl⟩:=List.mem_map.1 hu;rfl
section
variable {lo D:Nat} {w w1:World} {x:It} {all:List Vl} {vw va vF:Value} {ws:List Nat} {fW fA fF:Option Nat} {dp:List Value}
theorem amU {Q:gI} {n:Nat} {vI vS i at':Value} (hn:n≤8) (oN:all.length≤4294967296) (h:zM lo w w1 D x all vw ws fW 0 va dp fA vF fF)
   (fi:∀ w2 va dp fA vF fF,zM lo w w2 D x all vw ws fW n va dp fA vF fF→Q (.exit 2) [(0,vI),(1,vS),(7,va),(8,vw),(9,i),(11,at'),(12,ptr D),(13,I n),(14,I n),(69,.bool false)] w2) :
   cM Tryz.prog 104 (.loop Og) Q [(0,vI),(1,vS),(7,va),(8,vw),(9,i),(11,at'),(12,ptr D),(13,I n),(14,I 0)] w1:=by
 refine dA (fun z ρ w'=>∃ (k:Nat) (va:Value) (dp:List Value) (fA:Option Nat) (vF:Value) (fF:Option Nat),z=n - k∧k≤n∧zM lo w w' D x all vw ws fW k va dp fA vF fF∧ρ=[(0,vI),(1,vS),(7,va),(8,vw),(9,i),(11,at'),(12,ptr D),(13,I n),(14,I k)]) n ⟨0,va,dp,fA,vF,fF,rfl,Nat.zero_le _,h,rfl⟩ ?_;rintro z ρ w2 ⟨k,va,dp,fA,vF,fF,rfl,hk,g,rfl⟩;unfold Og;rcases Nat.lt_or_ge k n with ah | hge
 ·have e1:decide ((k:Int) < n)=true:=by rw [decide_eq_true_eq];omega
  have e2:IntKind.i64.wrap ((k:Int)+1)=((k+1:Nat):Int):=by rw [IntKind.wrap_i64];omega
  obtain ⟨aA,cA,Ie,_,_⟩:=g.al.own.val;have hlen:(all++List.replicate k dP).length=all.length+k:=by rw [List.length_append,List.length_replicate]
  rw [hlen] at Ie;subst Ie;simp only [go_sem,Nat.reduceAdd,Nat.reduceEqDiff,Nat.reduceLT,Nat.reduceLeDiff,Nat.reduceMul,reduceCtorEq,↓reduceIte,e1,cell_of g.fO];refine cd (by rfl) (by rfl) ?_;intro w3 aJ ab eP;have js:w3.heap[w2.heap.size]? = some (.cells (fD [all.length+k]).toArray 3 (0,0)):=aJ;refine eH (news:=fD [all.length+k]) (m:=1) rfl (g.fr.mod ab (fun _ _ h=>h)) rfl (fun e=>by cases e) (ao.fG (n:=1) js rfl).rd (ZM _) rfl (by omega) (by omega) ?_;intro v4 w4 f4 gk ai gq;have Du:v4.oneCell'=true:=by
   obtain ⟨_,_,rfl,_,_⟩:=gk.val;rfl
  have lD:=lt_of_heap g.fO;have pO:=g.nD;have Eg:=ai.at (ab.at g.fO (fun hh=>hh)) (fun hh=>(g.nF D hh).2.1 rfl);refine bY (off:=3) rfl rfl Eg Du (by simp) ?_;intro w5 Hq aB fP;refine φ ?_;refine cd (by rfl) (by rfl) ?_;intro w6 cN aD mK;have amV:w6.heap[w5.heap.size]? = some (.cells (kX dP (.slice none 0 0)).toArray 115 (0,0)):=cN;have s3:=ab.size;have s4:=ai.size;have s6:=aD.size;have lF:∀ b,fF=some b→b < w2.heap.size:=fun b hb=>g.fr.lt hb
  have lA:∀ b,fA=some b→b < w2.heap.size:=fun b hb=>g.al.own.lt hb
  have lW:∀ b,fW=some b→b < w2.heap.size:=fun b hb=>g.wt.lt hb
  have hA6:ao w6 115 4 (.slice aA (all.length+k) cA) (jP (all++List.replicate k dP) dp) (all.length+k) fA:=by
   have:=(((g.al.own.mod ab (fun _ _ h=>h)).mod ai (fun b hb hh=>(g.nF b hh).2.2.1 hb)).mod aB (fun b hb hh=>(g.nA b hb).1 hh)).mod aD (fun _ _ h=>h);rw [hlen] at this;exact this
  refine eH (news:=kX dP (.slice none 0 0)) (m:=1) rfl hA6 rfl (fun e=>by cases e) (ao.fG (n:=1) amV rfl).rd (by intro u hu;simp only [kX,List.mem_cons,List.not_mem_nil,or_false] at hu;rcases hu with rfl | rfl | rfl | rfl<;>rfl) rfl (by omega) (by omega) ?_;intro v7 w7 f7 qE aX sb;simp only [go_sem,Nat.reduceAdd,Nat.reduceEqDiff,Nat.reduceLT,Nat.reduceLeDiff,Nat.reduceMul,reduceCtorEq,↓reduceIte,e2];have s7:=aX.size;have rp:∀ b,f4=some b→fF=some b∨(w2.heap.size≤b∧b < w4.heap.size):=fun b hb=>by
   rcases gq b hb with h' | ⟨h',h''⟩
   ·exact .inl h'
   ·exact .inr ⟨by omega,h''⟩
  have Ig:∀ b,f7=some b→fA=some b∨(w4.heap.size≤b∧b < w7.heap.size):=fun b hb=>by
   rcases sb b hb with h' | ⟨h',h''⟩
   ·exact .inl h'
   ·exact .inr ⟨by omega,h''⟩
  have ZN:∀ b,f4=some b→fA≠some b:=fun b hb hh=>by
   rcases rp b hb with h' | h'
   ·exact (g.nF b h').2.2.1 hh
   ·have:=lA b hh;omega
  refine ⟨_,?_,k+1,v7,dp++[.slice none 0 0],f7,v4,f4,rfl,by omega,⟨?_,?_,⟨?_,?_,?_,?_⟩,?_,?_,?_,g.nW,g.nD,?_⟩,rfl⟩
  ·omega
  ·exact aX.at (aD.at Hq (fun hh=>hh)) (fun hh=>(g.nA D hh).1 rfl)
  ·have e8:fD (List.range' all.length (k+1))=fD (List.range' all.length k)++fD [all.length+k]:=by
    rw [List.range'_1_concat];simp [fD]
   rw [e8]
   exact ((gk.mod aB (fun b hb hh=>by
    rcases rp b hb with h' | h'
    ·exact (g.nF b h').2.1 hh
    ·omega)).mod aD (fun _ _ h=>h)).mod aX (fun b hb hh=>ZN b hb hh)
  ·rw [List.length_append,g.al.len,hlen,List.length_append,List.length_replicate];simp;omega
  ·have e9:all++List.replicate (k+1) dP=(all++List.replicate k dP)++[dP]:=by
    rw [List.replicate_succ',List.append_assoc]
   rw [e9,ZJ _ _ _ _ g.al.len,List.length_append,hlen];exact qE
  ·intro j v vf h1 h2;have e9:all++List.replicate (k+1) dP=(all++List.replicate k dP)++[dP]:=by
    rw [List.replicate_succ',List.append_assoc]
   rw [e9] at h1;rcases Nat.lt_or_ge j (all++List.replicate k dP).length with hj | hj
   ·rw [List.getElem?_append_left hj] at h1;rw [List.getElem?_append_left (by rw [g.al.len];exact hj)] at h2;obtain ⟨q1,q2⟩:=g.al.fl j v vf h1 h2;have q3:=(((((q1.mod ab (fun _ _ h=>h)).mod ai (fun b hb hh=>(q2 b hb).2.2 (.inr (.inr (.inl hh))))).mod aB (fun b hb hh=>(q2 b hb).2.2 (.inr (.inr (.inr hh))))).mod aD (fun _ _ h=>h)).mod aX (fun b hb hh=>(q2 b hb).2.2 (.inl hh)));refine ⟨q3,fun b hb=>?_⟩;obtain ⟨p1,p2,p3⟩:=q2 b hb;refine ⟨p1,by omega,fun hh=>?_⟩;rcases hh with hh | hh | hh | hh
    ·rcases Ig b hh with h' | h'
     ·exact p3 (.inl h')
     ·omega
    ·exact p3 (.inr (.inl hh))
    ·rcases rp b hh with h' | h'
     ·exact p3 (.inr (.inr (.inl h')))
     ·omega
    ·exact p3 (.inr (.inr (.inr hh)))
   ·rw [List.getElem?_append_right hj] at h1;rw [List.getElem?_append_right (by rw [g.al.len];exact hj),g.al.len] at h2;obtain ⟨sI,rfl⟩:j - (all++List.replicate k dP).length=0∧v=dP:=by
     cases hq:j - (all++List.replicate k dP).length with
     | zero=>rw [hq] at h1;cases h1;exact ⟨rfl,rfl⟩
     | succ q=>rw [hq] at h1;cases h1
    rw [sI] at h2;cases h2;exact ⟨⟨none,0,rfl,by simp [oA],fun i hi=>absurd hi (by simp [oA])⟩,fun b hb=>by cases hb⟩
  ·intro b hb;rcases Ig b hb with h' | h'
   ·exact g.al.yi b h'
   ·omega
  ·exact (((g.wt.mod ab (fun _ _ h=>h)).mod ai (fun b hb hh=>(g.nF b hh).2.2.2 hb)).mod aB (fun b hb hh=>(g.nW b hb).2 hh) |>.mod aD (fun _ _ h=>h)).mod aX (fun b hb hh=>(g.nA b hh).2 hb)
  ·intro b hb;refine ⟨?_,?_,?_,?_⟩
   ·rcases rp b hb with h' | h'
    ·exact (g.nF b h').1
    ·omega
   ·rcases rp b hb with h' | h'
    ·exact (g.nF b h').2.1
    ·omega
   ·intro hh;rcases Ig b hh with h' | h'
    ·exact ZN b hb h'
    ·rcases rp b hb with h'' | h''
     ·have:=lF b h'';omega
     ·omega
   ·intro hh;rcases rp b hb with h' | h'
    ·exact (g.nF b h').2.2.2 hh
    ·have:=lW b hh;omega
  ·intro b hb;rcases Ig b hb with h' | h'
   ·exact g.nA b h'
   ·exact ⟨by omega,fun hh=>by have:=lW b hh;omega⟩
  ·refine g.mod.trans (((((ab.az (fun _ hh=>hh.elim)).trans (ai.az (fun b hb=>(g.nF b hb).1))).trans (aB.az (fun b hb=>by omega))).trans (aD.az (fun _ hh=>hh.elim))).trans (aX.az (fun b hb=>g.al.yi b hb)))
 ·obtain rfl:k=n:=by omega
  have e1:decide (((k:Nat):Int) < k)=false:=by simp
  simp only [go_sem,Nat.reduceAdd,Nat.reduceEqDiff,Nat.reduceLT,Nat.reduceLeDiff,Nat.reduceMul,reduceCtorEq,↓reduceIte,e1];exact fi w2 va dp fA vF fF g
end
end
section
open Go Go.W Go.RowKit
section
variable {lo D:Nat} {w w1:World} {x:It} {all:List Vl} {vw va vF:Value} {ws:List Nat} {fW fA fF:Option Nat} {dp:List Value}
theorem amW {Q:gI} {n:Nat} {vI vS i at':Value} (hn:n≤8) (oN:all.length≤4294967296) (F7:ws.length≤4294967296) (h:zM lo w w1 D x all vw ws fW n va dp fA vF fF)
   (fi:∀ w2 vw fW,zM lo w w2 D x all vw (ws++(List.range' all.length n).reverse) fW n va dp fA vF fF→Q (.exit 4) [(0,vI),(1,vS),(7,va),(8,vw),(9,i),(11,at'),(12,ptr D),(15,I (-1)),(86,.bool false)] w2) :
   cM Tryz.prog 104 (.loop Oh) Q [(0,vI),(1,vS),(7,va),(8,vw),(9,i),(11,at'),(12,ptr D),(15,I ((n:Int) - 1))] w1:=by
 refine dA (fun z ρ w'=>∃ (k:Nat) (vw:Value) (fW:Option Nat),z=k∧k≤n∧zM lo w w' D x all vw (ws++(List.range' (all.length+k) (n - k)).reverse) fW n va dp fA vF fF∧ρ=[(0,vI),(1,vS),(7,va),(8,vw),(9,i),(11,at'),(12,ptr D),(15,I ((k:Int) - 1))]) n ⟨n,vw,fW,rfl,Nat.le_refl _,by simpa using h,rfl⟩ ?_;rintro k ρ w2 ⟨k2,vw,fW,hz,hk,g,rfl⟩;subst hz;unfold Oh;cases k with
 | zero=>
  have e1:decide (((0:Nat):Int) - 1≥0)=false:=rfl;simp only [go_sem,Nat.reduceAdd,Nat.reduceEqDiff,Nat.reduceLT,Nat.reduceLeDiff,Nat.reduceMul,reduceCtorEq,↓reduceIte,e1];rw [Nat.add_zero,Nat.sub_zero] at g;exact fi w2 vw fW g
 | succ k=>
  have e0:((k+1:Nat):Int) - 1=(k:Int):=by omega
  have e1:decide ((k:Int)≥0)=true:=by rw [decide_eq_true_eq];omega
  have e2:IntKind.i64.wrap ((k:Int) - 1)=(k:Int) - 1:=by rw [IntKind.wrap_i64];omega
  obtain ⟨b,c,cg,rfl,rfl,r3,r4,r5⟩:∃ b c cg,vF = .slice (some ⟨b,0,none⟩) n c∧fF=some b∧w2.heap[b]? = some (.cells (fD (List.range' all.length n)++cg).toArray 3 (0,0))∧c*1≤(fD (List.range' all.length n)++cg).length∧n≤c:=by
   rcases g.fr.2 with ⟨_,h',_⟩ | h'
   ·omega
   ·exact h'
  have e3:(0:Int)≤(k:Int)∧(k:Int) < (n:Int):=by omega
  have gC:w2.cell? ⟨b,k,none⟩=some (I ((all.length+k:Nat):Int)):=by
   refine (cell_of r3 _).trans ?_;rw [List.getElem?_toArray,List.getElem?_append_left (by simp [fD];omega)];simp only [fD,List.getElem?_map,List.getElem?_range',show k < n by omega,if_true,Option.map_some,Nat.one_mul]
  rw [e0];simp only [go_sem,Nat.reduceAdd,Nat.reduceEqDiff,Nat.reduceLT,Nat.reduceLeDiff,Nat.reduceMul,reduceCtorEq,↓reduceIte,e1,cell_of g.fO,e3,decide_true,Int.toNat_natCast,gC,Nat.mul_one];refine cd (by rfl) (by rfl) ?_;intro w3 aJ ab eP;have js:w3.heap[w2.heap.size]? = some (.cells (fD [all.length+k]).toArray 3 (0,0)):=aJ;refine eH (news:=fD [all.length+k]) (m:=1) rfl (g.wt.mod ab (fun _ _ h=>h)) rfl (fun e=>by cases e) (ao.fG (n:=1) js rfl).rd (ZM _) rfl (by simp only [List.length_append,List.length_reverse,List.length_range'];omega) (by simp only [List.length_append,List.length_reverse,List.length_range'];omega) ?_;intro v4 w4 f4 gk ai gq;simp only [go_sem,Nat.reduceAdd,Nat.reduceEqDiff,Nat.reduceLT,Nat.reduceLeDiff,Nat.reduceMul,reduceCtorEq,↓reduceIte,e2];have s3:=ab.size;have s4:=ai.size;have lA:∀ b,fA=some b→b < w2.heap.size:=fun b hb=>g.al.own.lt hb
  have lD:=lt_of_heap g.fO;have lb:=lt_of_heap r3;have pO:=g.nD;have rp:∀ b,f4=some b→fW=some b∨(w2.heap.size≤b∧b < w4.heap.size):=fun b hb=>by
   rcases gq b hb with h' | ⟨h',h''⟩
   ·exact .inl h'
   ·exact .inr ⟨by omega,h''⟩
  have e9:ws++(List.range' (all.length+k) (n - k)).reverse=(ws++(List.range' (all.length+(k+1)) (n - (k+1))).reverse)++[all.length+k]:=by
   rw [show n - k=(n - (k+1))+1 by omega,List.range'_succ,List.reverse_cons,List.append_assoc,Nat.add_assoc]
  refine ⟨k,by omega,k,v4,f4,rfl,by omega,⟨?_,?_,⟨g.al.len,?_,?_,g.al.yi⟩,?_,?_,?_,?_,g.nD,?_⟩,rfl⟩
  ·exact ai.at (ab.at g.fO (fun hh=>hh)) (fun hh=>(g.nW D hh).2 rfl)
  ·exact (g.fr.mod ab (fun _ _ h=>h)).mod ai (fun b hb hh=>(g.nF b hb).2.2.2 hh)
  ·exact (g.al.own.mod ab (fun _ _ h=>h)).mod ai (fun b hb hh=>(g.nA b hb).2 hh)
  ·intro j v vf h1 h2;obtain ⟨q1,q2⟩:=g.al.fl j v vf h1 h2;refine ⟨(q1.mod ab (fun _ _ h=>h)).mod ai (fun b hb hh=>(q2 b hb).2.2 (.inr (.inl hh))),fun b hb=>?_⟩;obtain ⟨p1,p2,p3⟩:=q2 b hb;refine ⟨p1,by omega,fun hh=>?_⟩;rcases hh with hh | hh | hh | hh
   ·exact p3 (.inl hh)
   ·rcases rp b hh with h' | h'
    ·exact p3 (.inr (.inl h'))
    ·omega
   ·exact p3 (.inr (.inr (.inl hh)))
   ·exact p3 (.inr (.inr (.inr hh)))
  ·rw [e9];have sI:fD ((ws++(List.range' (all.length+(k+1)) (n - (k+1))).reverse)++[all.length+k])=fD (ws++(List.range' (all.length+(k+1)) (n - (k+1))).reverse)++fD [all.length+k]:=by simp [fD]
   rw [sI,List.length_append];exact gk
  ·intro b' cj;obtain ⟨p1,p2,p3,p4⟩:=g.nF b' cj;refine ⟨p1,p2,p3,fun hh=>?_⟩;rcases rp b' hh with h' | h'
   ·exact p4 h'
   ·cases cj;omega
  ·intro b' cj;refine ⟨(g.nA b' cj).1,fun hh=>?_⟩;rcases rp b' hh with h' | h'
   ·exact (g.nA b' cj).2 h'
   ·have:=lA b' cj;omega
  ·intro b' cj;rcases rp b' cj with h' | h'
   ·exact g.nW b' h'
   ·have:=g.mod.size;exact ⟨by omega,by omega⟩
  ·exact g.mod.trans ((ab.az (fun _ hh=>hh.elim)).trans (ai.az (fun b' cj=>(g.nW b' cj).1)))
end
end
section
open Go Go.W Go.RowKit
section
variable {w:World} {vI vS:Value} {items:List It} {au:List gF}
theorem amX {f:eE} {x:It} (h:iy f x=true):dz f x≤8∧(x.aj≠⟨#[]⟩→∃ n:Nat,n≤8∧f x.aj=some (n:Int)∧dz f x=n):=by
 unfold iy at h;unfold dz;by_cases h0:x.aj=⟨#[]⟩
 ·rw [if_pos h0];exact ⟨Nat.zero_le _,fun hh=>absurd h0 hh⟩
 ·rw [if_neg h0] at h ⊢;rw [Bool.and_eq_true] at h;cases hf:f x.aj with
  | none=>rw [hf] at h;simp at h
  | some n=>
   rw [hf] at h;simp only [Bool.and_eq_true,decide_eq_true_eq] at h;unfold eE.of;rw [hf];simp only [Option.getD_some];exact ⟨by omega,fun _=>⟨n.toNat,by omega,by congr 1;omega,rfl⟩⟩
theorem amY {n:Nat} (h:n≤8):uz (some (n:Int))=n:=by
 unfold uz;simp only;rw [if_neg (by omega)]
theorem tq {w:World} {b T:Nat} {v0 v1 v2 v3:Value} {fz:Nat×Nat} (h:w.heap[b]? = some (.cells [v0,v1,v2,v3].toArray T fz)):cH w 4 (.pointer (some ⟨b,0,none⟩))=some (.agg #[v0,v1,v2,v3]):=by
 have hh:∀ o v,[v0,v1,v2,v3][o]? = some v→w.cell? ⟨b,o,none⟩=some v:=fun o v hv=>(cell_of h o).trans (by rw [List.getElem?_toArray];exact hv)
 simp [cH,jv,Addr.add_lit,hh 0 v0 rfl,hh 1 v1 rfl,hh 2 v2 rfl,hh 3 v3 rfl]
theorem amZ {v:Value} {xs:List Value} {n T sz b:Nat} {fp:Option Nat} (h:ao w T sz v xs n fp) (hb:jf v=some b):fp=some b:=by
 rcases h.2 with ⟨rfl,_,_⟩ | ⟨b',c,cg,rfl,rfl,_⟩
 ·cases hb
 ·exact hb
theorem am0 {v:Value} {l:List Nat} {fp:Option Nat} (h:ao w 3 1 v (fD l) l.length fp) (hl:l.length≤17592186044416):Ints w v (oA l):=by
 have hn:(oA l).length=l.length:=by simp [oA]
 rcases h.2 with ⟨rfl,h0,_⟩ | ⟨b,c,cg,rfl,rfl,h3,h4,h5⟩
 ·have:l=[]:=List.eq_nil_of_length_eq_zero h0;subst this;exact ⟨none,0,rfl,by simp [oA],fun i hi=>absurd hi (by simp [oA])⟩
 ·refine ⟨some ⟨b,0,none⟩,c,by rw [hn],by rw [hn];exact hl,fun i hi=>⟨_,rfl,?_⟩⟩;rw [hn] at hi;rw [dB];refine (cell_of h3 _).trans ?_;rw [Nat.zero_add,List.getElem?_toArray,List.getElem?_append_left (by simp [fD];omega)];simp [fD,oA,List.getElem?_eq_getElem hi]
theorem am1 {lo:Nat} (h:cO w vI 2 (items.map ec) (· < lo)) {k:Nat} {x:It} (U:items[k]? = some x):∃ ad c,vI = .slice (some ad) items.length c∧w.cell? (ad.add (k*2))=some (.string x.aj)∧w.cell? ((ad.add (k*2)).add 1)=some (I x.num):=by
 obtain ⟨hl,rfl⟩:=List.getElem?_eq_some_iff.1 U;obtain ⟨a,c,h1,h3,h2⟩:=h;obtain ⟨ad,rfl,_,h4⟩:=h2 k (by simpa using hl);refine ⟨ad,c,by simpa using h1,?_,?_⟩
 ·have:=h4 0 (by simp [ec]);rw [Addr.add_zero'] at this
  simpa [ec] using this
 ·simpa [ec] using h4 1 (by simp [ec])
theorem am2 (hI:cO w vI 2 (items.map ec) (· < w.heap.size)) (hS:cO w vS 2 (au.map fy) (· < w.heap.size)) (hlen:items.length≤4194304) (uw:au.length≤4294967296) :
   aK Tryz.prog 26 [vI,vS] w fun r w'=>Mod (fun _=>False) w w'∧(tj (eF au) items=false→r = .tuple #[.slice none 0 0,I 0,.bool false]) ∧
    (tj (eF au) items=true→∃ va dp fA,r = .tuple #[va,I (bg (eF au) items items.length).waits.length,.bool true]∧nq w.heap.size w' va (bg (eF au) items items.length).all dp fA (fun _=>False)):=by
 obtain ⟨lo,pO⟩:∃ lo,lo=w.heap.size:=⟨_,rfl⟩;obtain ⟨f,hf⟩:∃ f,f=eF au:=⟨_,rfl⟩;rw [← hf];obtain ⟨a1,c1,lL⟩:∃ a c,vI = .slice a items.length c:=by
  obtain ⟨a,c,h1,_⟩:=hI;exact ⟨a,c,by simpa using h1⟩
 subst lL;have fin:∀ {w':World},Mod (fun b=>lo≤b) w w'→Mod (fun _=>False) w w':=fun hm=>⟨hm.size,fun b hb _=>hm.old b hb (by omega),hm.os,hm.tape,hm.output⟩
 have Pj:∀ {w':World},Mod (fun b=>lo≤b) w w'→cO w' (.slice a1 items.length c1) 2 (items.map ec) (· < lo):=fun hm=>hI.mod hm (fun b hb hh=>by omega) (fun b hb=>by omega)
 have Et:∀ {w':World},Mod (fun b=>lo≤b) w w'→cO w' vS 2 (au.map fy) (· < lo):=fun hm=>hS.mod hm (fun b hb hh=>by omega) (fun b hb=>by omega)
 refine ajM.calls rfl ?_;unfold Oi;refine σ ?_;refine cd (by rfl) (by rfl) ?_;intro w1 ax ag cL;refine σ ?_;refine cd (by rfl) (by rfl) ?_;intro w2 aC ae dq;have fY:w1.heap[w.heap.size]? = some (.cells (jP [dP] [.slice none 0 0]).toArray 115 (0,0)):=ax;have iI:w2.heap[w1.heap.size]? = some (.cells (fD [0]).toArray 3 (0,0)):=aC;have cq:Mod (fun b=>lo≤b) w w2:=(ag.trans ae).az (fun _ hh=>hh.elim);have al0:nq lo w2 (.slice (some ⟨w.heap.size,0,none⟩) 1 1) [dP] [.slice none 0 0] (some w.heap.size) (fun b=>some w1.heap.size=some b):=by
  refine ⟨rfl,(ao.fG (n:=1) fY rfl).mod ae (fun _ _ h=>h),fun i v vf h1 h2=>?_,fun b hb=>by cases hb;omega⟩;cases i with
  | zero=>cases h1;cases h2;exact ⟨⟨none,0,rfl,by simp [oA],fun i hi=>absurd hi (by simp [oA])⟩,fun b hb=>by cases hb⟩
  | succ i=>cases h1
 refine σ ?_
 refine dA (fun z ρ w'=>∃ (i:Nat) (va:Value) (dp:List Value) (fA:Option Nat) (vw:Value) (fW:Option Nat),z=items.length - i∧i≤items.length∧(items.take i).all (iy f)=true∧(∀ j,j < i→1≤kE f (items.take j)) ∧
  nq lo w' va (bg f items i).all dp fA (fun b=>fW=some b)∧ao w' 3 1 vw (fD (bg f items i).waits) (bg f items i).waits.length fW∧(∀ b,fW=some b→lo≤b∧fA≠some b)∧(bg f items i).all.length≤1+8*i∧(bg f items i).waits.length≤1+8*i ∧
  Mod (fun b=>lo≤b) w w'∧ρ=[(0,.slice a1 items.length c1),(1,vS),(7,va),(8,vw),(9,I i)]) items.length
  ⟨0,_,_,_,_,some w1.heap.size,rfl,Nat.zero_le _,rfl,(fun j hj=>absurd hj (Nat.not_lt_zero j)),al0,ao.fG (n:=1) iI rfl,(fun b hb=>by cases hb;exact ⟨by omega,fun hh=>by have:=Option.some.inj hh;omega⟩),Nat.le_refl _,Nat.le_refl _,cq,rfl⟩ ?_
 rintro z ρ w3 ⟨i,va,dp,fA,vw,fW,rfl,hi,P',gv,gA,gW,gN,gL,gLw,ab,rfl⟩;unfold Xo;have hV:=yh (f:=f) (items:=items) i hi gv;rcases Nat.lt_or_ge i items.length with ah | hge
 ·obtain ⟨x,U⟩:∃ x,items[i]? = some x:=⟨_,List.getElem?_eq_getElem ah⟩;have e1:decide ((i:Int) < items.length)=true:=by rw [decide_eq_true_eq];omega
  have e2:IntKind.i64.wrap ((i:Int)+1)=((i+1:Nat):Int):=by rw [IntKind.wrap_i64];omega
  have e3:(0:Int)≤i∧(i:Int) < items.length:=by omega
  have hIw:=Pj ab;obtain ⟨ad,c,ox,fJ,fZ⟩:=am1 hIw U;cases ox;have ed:cH w3 2 (.pointer (some (ad.add (i*2))))=some (.agg #[.string x.aj,I x.num]):=
   sJ (by rw [Addr.add_zero'];exact fJ) fZ
  have am3:iy f x=false→tj f items=true→False:=fun h1 h2=>by
   unfold tj at h2;rw [HI U h1] at h2;cases h2
  obtain ⟨aw,cw,rfl,iE,_⟩:=gW.val;simp only [go_sem,simprocAttr,e1,e3,decide_true,Int.toNat_natCast,ed];refine δ (by rfl) (amS (x:=x) (Et ab) uw) ?_;rintro _ w4 ⟨rfl,ai⟩;rw [← hf];have eh:Mod (fun b=>lo≤b) w w4:=ab.trans (ai.az (fun _ hh=>hh.elim));cases uI:iy f x with
  | false=>
   simp only [go_sem,simprocAttr,Bool.not_false];refine ⟨fin eh,by simp,fun ct=>(am3 uI ct).elim⟩
  | true=>
  by_cases zb:(bg f items i).waits.length=0
  ·have b1:(((bg f items i).waits.length:Int) == 0)=true:=by rw [zb];rfl
   simp only [go_sem,simprocAttr,Bool.not_true,b1];refine ⟨fin eh,by simp,fun ct=>?_⟩;unfold tj at ct;rw [Bool.and_eq_true,List.all_eq_true] at ct;have:=ct.2 i (List.mem_range.2 ah);rw [decide_eq_true_eq,← hV.len,zb] at this;exact absurd this (by decide)
  have b1:(((bg f items i).waits.length:Int) == 0)=false:=by
   have:((bg f items i).waits.length:Int)≠0:=by omega
   exact beq_false_of_ne this
  obtain ⟨m,hm⟩:∃ m,(bg f items i).waits.length=m+1:=⟨(bg f items i).waits.length - 1,by omega⟩;obtain ⟨bW,cW,Ih,ew,rfl,r3,r4,r5⟩:∃ bW cW Ih,Value.slice aw (bg f items i).waits.length cw = .slice (some ⟨bW,0,none⟩) (bg f items i).waits.length cW∧fW=some bW∧w3.heap[bW]? = some (.cells (fD (bg f items i).waits++Ih).toArray 3 (0,0))∧cW*1≤(fD (bg f items i).waits++Ih).length∧(bg f items i).waits.length≤cW:=by
   rcases gW.2 with ⟨_,h',_⟩ | h'
   ·omega
   ·exact h'
  cases ew;obtain ⟨a,ha⟩:∃ a,(bg f items i).waits[m]? = some a:=⟨_,List.getElem?_eq_getElem (by omega)⟩;have tN:(bg f items i).waits.getLast? = some a:=by rw [List.getLast?_eq_getElem?,hm];exact ha
  have r34:=ai.at r3 (fun hh=>hh);have gC:w4.cell? ⟨bW,m,none⟩=some (I (a:Int)):=by
   refine (cell_of r34 _).trans ?_;rw [List.getElem?_toArray,List.getElem?_append_left (by simp [fD];omega)];simp only [fD,List.getElem?_map,ha,Option.map_some]
  have e5:IntKind.i64.wrap (((m+1:Nat):Int) - 1)=(m:Int):=by rw [IntKind.wrap_i64];omega
  have e6:(0:Int)≤(m:Int)∧(m:Int) < ((m+1:Nat):Int):=by omega
  have e7:(0:Int)≤(m:Int)∧(m:Int)≤(cw:Int):=by omega
  have gO:¬ cw=0:=by omega
  have og:(((m+1:Nat):Int) == 0)=false:=beq_false_of_ne (by omega);have am4:=ai.cell fJ (fun hh=>hh);have am5:w4.cell? ⟨(ad.add (i*2)).block,(ad.add (i*2)).off+1,none⟩=some (I x.num):=ai.cell fZ (fun hh=>hh);simp only [go_sem,simprocAttr,Bool.not_true,og,hm,e5,e6,e7,gO,e3,decide_true,Int.toNat_natCast,Nat.mul_one,gC,am4,am5,Option.map_some,Nat.sub_zero];have HG:=eh.size;have apJ:(ad.add (i*2)).block < w.heap.size:=by
   obtain ⟨a',c',q1,q2,q3⟩:=hI;obtain ⟨nE,q4,_⟩:=q3 i (by simpa using ah);have Qa:Value.slice (some ad) items.length c1 = .slice a' items.length c':=by simpa using q1
   cases Qa;have q5:=q2 (by simp;omega) ad rfl;rw [rA];exact q5
  refine dk ?_;intro w5 oh aB fP;have vD:Mod (fun _=>False) w4 w5:=aB.dj;have sY:w5.heap[w4.heap.size]? = some (.cells [.bool false,.string ⟨#[]⟩,I 0,.slice none 0 0].toArray 115 (0,0)):=oh;refine ⟨vD.old _ (by omega) (fun h=>h),?_⟩;refine cX (vs:=[.bool false,.string x.aj,I x.num,.slice none 0 0]) rfl rfl sY rfl rfl (by intro u hu;simp only [List.mem_cons,List.not_mem_nil,or_false] at hu;rcases hu with rfl | rfl | rfl | rfl<;>rfl) ?_;intro w6 OY aD mK;have hD:w6.heap[w4.heap.size]? = some (.cells [.bool false,.string x.aj,I x.num,.slice none 0 0].toArray 115 (0,0)):=OY;have ZO:Mod (fun _=>False) w4 w6:=vD.step aD (fun b hb ah=>by have cj:b=w4.heap.size:=hb;omega);have xh:Mod (fun _=>False) w3 w6:=ai.trans ZO;have x9:(bg f items i).waits.dropLast.length=m:=by rw [List.length_dropLast];omega
  have ZP:fD (bg f items i).waits=fD (bg f items i).waits.dropLast++[I (a:Int)]:=by
   obtain ⟨t,ht⟩:=List.getLast?_eq_some_iff.1 tN;rw [ht,List.dropLast_concat];simp [fD]
  have s34:=ai.size;have lA:∀ b,fA=some b→b < w3.heap.size:=fun b hb=>gA.own.lt hb
  have lW:bW < w3.heap.size:=lt_of_heap r3;have Za:∀ {w':World},Mod (fun _=>False) w6 w'→zM lo w w' w4.heap.size x (bg f items i).all (.slice (some ⟨bW,0,none⟩) m cw) (bg f items i).waits.dropLast (some bW) 0 va dp fA (.slice none 0 0) none:=fun {w'} iB=>by
   have q9:=xh.trans iB;have s6:=ZO.size;have s':=iB.size;refine ⟨iB.at hD (fun h=>h),ao.nil _ _ _,?_,?_,(fun b hb=>by cases hb),fun b hb=>⟨by have:=lA b hb;omega,fun hh=>by have:=(gN bW rfl).2;cases hh;exact this hb⟩,fun b hb=>by cases hb;exact ⟨(gN _ rfl).1,by omega⟩,by omega,ab.trans (q9.az (fun _ hh=>hh.elim))⟩
   ·rw [List.replicate_zero,List.append_nil];refine ⟨gA.len,gA.own.mod q9 (fun _ _ h=>h),fun j v vf h1 h2=>?_,gA.yi⟩;obtain ⟨q1,q2⟩:=gA.fl j v vf h1 h2;refine ⟨q1.mod q9 (fun _ _ h=>h),fun b hb=>?_⟩;obtain ⟨p1,p2,p3⟩:=q2 b hb;refine ⟨p1,by omega,fun hh=>?_⟩;rcases hh with hh | hh | hh | hh
    ·exact p3 (.inl hh)
    ·exact p3 (.inr hh)
    ·cases hh
    ·omega
   ·rw [x9];refine ⟨by rw [← x9];simp [fD],.inr ⟨bW,cw,I (a:Int)::Ih,rfl,rfl,?_,?_,by omega⟩⟩
    ·have:=q9.at r3 (fun h=>h);rw [this,ZP,List.append_assoc];rfl
    ·rw [ZP,List.append_assoc] at r4;exact r4
  obtain ⟨n8,am6⟩:=amX uI;simp only [go_sem,simprocAttr,cell_of hD,ig];refine An (fun ρ w'=>(∃ t,ρ=(0,.slice (some ad) items.length c1)::(1,vS)::(7,va)::(8,.slice (some ⟨bW,0,none⟩) m cw)::(9,I i)::(11,I (a:Int))::(12,ptr w4.heap.size)::(13,I (dz f x))::t)∧Mod (fun _=>False) w6 w') ?_ ?_
  ·by_cases h0:x.aj=⟨#[]⟩
   ·have b0:decide (x.aj=⟨#[]⟩)=true:=by simp [h0]
    have fU:dz f x=0:=by unfold dz;rw [if_pos h0]
    simp only [go_sem,simprocAttr,b0,Bool.not_true,fU];exact ⟨⟨_,rfl⟩,Mod.refl _ _⟩
   ·have b0:decide (x.aj=⟨#[]⟩)=false:=by simp [h0]
    obtain ⟨n,VP,hfx,fU⟩:=am6 h0;simp only [go_sem,simprocAttr,b0,Bool.not_false,cell_of hD];refine δ (by rfl) (ZH (k:=x.aj) (Et (ab.trans (xh.az (fun _ hh=>hh.elim)))) uw) ?_;rintro _ w7 ⟨rfl,aX⟩;rw [← hf,hfx,amY VP,fU];refine σ ?_;exact ⟨⟨[],rfl⟩,aX⟩
  rintro ρ w7 ⟨⟨t,rfl⟩,EI⟩;have HQ:=Za EI;refine σ ?_;refine amU n8 (by omega) HQ ?_;intro w8 va dp fA vF fF g8;have sI:IntKind.i64.wrap ((dz f x:Int) - 1)=(dz f x:Int) - 1:=by rw [IntKind.wrap_i64];omega
  simp only [go_sem,simprocAttr,sI];refine amW n8 (by omega) (by omega) g8 ?_;intro w9 vw fW g9;have ZQ:=hV.lt a (List.mem_of_getElem? ha);have oN:=zK ZQ;obtain ⟨S,Qb⟩:∃ S,S=bg f items i:=⟨_,rfl⟩;rw [← Qb] at g9 oN ZQ gL gLw hm tN x9;have yj:(S.all++List.replicate (dz f x) dP).length=S.all.length+dz f x:=by rw [List.length_append,List.length_replicate]
  obtain ⟨bA,cA,Ii,rfl,rfl,q3,q4,q5⟩:∃ bA cA Ii,va = .slice (some ⟨bA,0,none⟩) (S.all.length+dz f x) cA∧fA=some bA∧w9.heap[bA]? = some (.cells (jP (S.all++List.replicate (dz f x) dP) dp++Ii).toArray 115 (0,0))∧cA*4≤(jP (S.all++List.replicate (dz f x) dP) dp++Ii).length∧S.all.length+dz f x≤cA:=by
   have:=g9.al.own;rw [yj] at this;rcases this.2 with ⟨_,h',_⟩ | h'
   ·omega
   ·exact h'
  have sR:=tq g9.fO;have zu:(0:Int)≤(a:Int)∧(a:Int) < ((S.all.length+dz f x:Nat):Int):=by omega
  simp only [go_sem,simprocAttr,sR,zu,Int.toNat_natCast];have pQ:=Ic (S.all++List.replicate (dz f x) dP) dp g9.al.len
  refine Jr (off:=a*4) (vs:=kX ⟨false,x.aj,x.num,dW f x S⟩ vF) rfl rfl q3 rfl (by rw [List.length_append,pQ,yj];show a*4+4≤_;omega) (by
   intro u hu;simp only [kX,List.mem_cons,List.not_mem_nil,or_false] at hu;rcases hu with rfl | rfl | rfl | rfl
   ·rfl
   ·rfl
   ·rfl
   ·obtain ⟨_,_,rfl,_,_⟩:=g9.fr.val;rfl) ?_
  intro eX sy dU KH;rw [amT _ _ _ _ _ _ g9.al.len (by rw [yj];omega)] at sy;simp only [go_sem,simprocAttr,e2];have bN:bg f items (i+1)=⟨(S.all++List.replicate (dz f x) dP).set a ⟨false,x.aj,x.num,dW f x S⟩,S.waits.dropLast++(dW f x S).reverse⟩:=by
   rw [wv U,← Qb];unfold qh;rw [tN];rfl
  have MH:dW f x S=List.range' S.all.length (dz f x):=rfl;have F7:(S.waits.dropLast++(dW f x S).reverse).length=m+dz f x:=by rw [List.length_append,List.length_reverse,wy,x9]
  refine ⟨_,?_,i+1,_,dp.set a vF,some bA,vw,fW,rfl,by omega,Yj U P' uI,fun j hj=>?_,?_,?_,fun b hb=>⟨(g9.nW b hb).1,fun hh=>(g9.nA b hh).2 hb⟩,?_,?_,?_,rfl⟩
  ·omega
  ·rcases Nat.lt_or_ge j i with h' | h'
   ·exact gv j h'
   ·obtain rfl:j=i:=by omega
    rw [← hV.len,← Qb,hm];omega
  ·rw [bN];refine ⟨by rw [List.length_set,List.length_set];exact g9.al.len,?_,fun j v vf h1 h2=>?_,g9.al.yi⟩
   ·show ao eX _ 4 _ (jP ((S.all++List.replicate (dz f x) dP).set a _) (dp.set a vF)) ((S.all++List.replicate (dz f x) dP).set a _).length _;rw [List.length_set,yj];refine ⟨by rw [Ic _ _ (by rw [List.length_set,List.length_set];exact g9.al.len),List.length_set,yj],.inr ⟨bA,cA,Ii,rfl,rfl,sy,?_,q5⟩⟩;rw [List.length_append,Ic _ _ (by rw [List.length_set,List.length_set];exact g9.al.len),List.length_set,← pQ,← List.length_append];exact q4
   ·by_cases ZR:j=a
    ·subst ZR;have sE:((S.all++List.replicate (dz f x) dP).set j ⟨false,x.aj,x.num,dW f x S⟩)[j]? = some v:=h1;rw [List.getElem?_set_self (by rw [yj];omega)] at sE;rw [List.getElem?_set_self (by rw [g9.al.len,yj];omega)] at h2;cases sE;cases h2;have bt:ao eX 3 1 vF (fD (dW f x S)) (dW f x S).length fF:=by
      rw [wy,MH];exact g9.fr.mod dU (fun b hb hh=>by subst hh;exact (g9.nF b hb).2.2.1 rfl)
     refine ⟨am0 bt (by rw [wy];omega),fun b hb=>?_⟩;have zN:fF=some b:=amZ bt hb;obtain ⟨p1,p2,p3,p4⟩:=g9.nF b zN;refine ⟨p1,bt.lt zN,fun hh=>?_⟩;rcases hh with hh | hh
     ·exact p3 hh
     ·exact p4 hh
    ·have sE:((S.all++List.replicate (dz f x) dP).set a ⟨false,x.aj,x.num,dW f x S⟩)[j]? = some v:=h1;rw [List.getElem?_set_ne (fun e=>ZR e.symm)] at sE h2;obtain ⟨p1,p2⟩:=g9.al.fl j v vf sE h2;refine ⟨p1.mod dU (fun b hb hh=>(p2 b hb).2.2 (.inl (by rw [hh]))),fun b hb=>?_⟩;obtain ⟨r1,r2,r3⟩:=p2 b hb;refine ⟨r1,by omega,fun hh=>?_⟩;rcases hh with hh | hh
     ·exact r3 (.inl hh)
     ·exact r3 (.inr (.inl hh))
  ·rw [bN];show ao eX 3 1 vw (fD (S.waits.dropLast++(dW f x S).reverse)) (S.waits.dropLast++(dW f x S).reverse).length fW;have:=g9.wt.mod dU (fun b hb hh=>by subst hh;exact (g9.nA b rfl).2 hb);exact this
  ·rw [bN];show ((S.all++List.replicate (dz f x) dP).set a _).length≤_;rw [List.length_set,yj];omega
  ·rw [bN];show (S.waits.dropLast++(dW f x S).reverse).length≤_;rw [F7];omega
  ·exact g9.mod.trans (dU.az (fun b hb=>by subst hb;exact g9.al.yi _ rfl))
 ·obtain rfl:i=items.length:=by omega
  have e1:decide (((items.length:Nat):Int) < items.length)=false:=by simp
  obtain ⟨aw,cw,rfl,iE,_⟩:=gW.val;simp only [go_sem,simprocAttr,e1];have ct:tj f items=true:=by
   unfold tj;rw [List.take_length] at P';rw [Pe,P',Bool.true_and,List.all_eq_true];intro j hj;rw [decide_eq_true_eq];exact gv j (List.mem_range.1 hj)
  refine ⟨fin ab,by simp [ct],fun _=>⟨_,dp,fA,rfl,?_⟩⟩;rw [← pO];exact gA.az (fun b _ hh=>hh.elim)
end
end
section
open Go Go.W Go.RowKit
def cU:Rt→List Value
 | .text s=>[I 1,.string s,I 0]
 | .full a=>[I 2,.string ⟨#[]⟩,I (a:Int)]
 | .arg a=>[I 3,.string ⟨#[]⟩,I (a:Int)]
 | .rest a=>[I 4,.string ⟨#[]⟩,I (a:Int)]
theorem am7 (t:Rt):(cU t).length=3:=by cases t<;>rfl
theorem Ij (l:List Rt):∀ u∈l.flatMap cU,u.oneCell'=true:=by
 intro u hu;obtain ⟨t,_,ht⟩:=List.mem_flatMap.1 hu;cases t<;>simp only [cU,List.mem_cons,List.not_mem_nil,or_false] at ht<;>rcases ht with rfl | rfl | rfl<;>rfl
theorem BQ (l:List Rt):(l.flatMap cU).length=l.length*3:=by
 induction l with
 | nil=>rfl
 | cons t l ih=>rw [List.flatMap_cons,List.length_append,ih,am7,List.length_cons];omega
def ju (w0 w:World) (v:Value) (l:List Rt):Prop:=∃ fp,ao w 76 3 v (l.flatMap cU) l.length fp∧(∀ b,fp=some b→w0.heap.size≤b)∧Mod (fun _=>False) w0 w
theorem tu {w0 w w1:World} {l:List Rt} {n:Nat} (hm:Mod (fun _=>False) w0 w) (hb:w1.heap[w.heap.size]? = some (.cells (l.flatMap cU).toArray 76 (0,0))) (ag:Mod (fun _=>False) w w1) (hn:l.length=n):ju w0 w1 (.slice (some ⟨w.heap.size,0,none⟩) n n) l:=by
 subst hn;refine ⟨some w.heap.size,ao.fG hb (BQ l),(fun b h=>by cases h;exact hm.size),hm.trans ag⟩
theorem wB {w0 w w1:World} {ρ:Go.W.Env} {K:Value→World→Prop} {v:Value} {l news:List Rt} {n:Nat} {x y:O} (h:ju w0 w v l) (hb:w1.heap[w.heap.size]? = some (.cells (news.flatMap cU).toArray 76 (0,0))) (ag:Mod (fun _=>False) w w1)
   (U:x.ev ρ=some v) (hy:y.ev ρ=some (.slice (some ⟨w.heap.size,0,none⟩) n n)) (hn:news.length=n) (hl:l.length+news.length≤1048576)
   (hk:∀ v' w',ju w0 w' v' (l++news)→K v' w'):E.wp Tryz.prog w1 ρ K (.ap 76 3 32 #[.int .i64 0,.string ⟨#[]⟩,.int .i64 0] x y):=by
 subst hn;obtain ⟨fp,h1,h2,h3⟩:=h;refine eH (news:=news.flatMap cU) (m:=news.length) U (h1.mod ag (fun _ _ hh=>hh)) hy (fun e=>by cases e) (ao.fG hb (BQ news)).rd (Ij _) rfl (by omega) (by omega) ?_;intro v2 w2 jT dR ae eO;refine hk v2 w2 ⟨jT,by rw [List.flatMap_append,List.length_append];exact dR,fun b hb=>?_,(h3.trans ag).step ae (fun b hb ah=>by have:=h2 b hb;omega)⟩;rcases eO b hb with h' | ⟨h',_⟩
 ·exact h2 b h'
 ·have:=h3.size;have:=ag.size;omega
section
variable {lo:Nat} {w:World} {va:Value} {all:List Vl} {dp:List Value} {fA:Option Nat} {X:Nat→Prop}
theorem ER {vf:Value} {l:List Nat} (h:tn lo w X vf l):∃ a c,vf = .slice a l.length c:=by
 obtain ⟨a,c,h1,_⟩:=h.1;exact ⟨a,c,by rw [h1];simp [oA]⟩
theorem zO {vf:Value} {l:List Nat} (h:tn lo w X vf l) {i:Nat} (hi:i < l.length):∃ ad c,vf = .slice (some ad) l.length c∧w.cell? (ad.add i)=some (I (l[i]:Int)):=by
 obtain ⟨a,c,h1,_,h2⟩:=h.1;obtain ⟨ad,rfl,h3⟩:=h2 i (by simpa [oA] using hi);exact ⟨ad,c,by rw [h1];simp [oA],by simpa [oA] using h3⟩
theorem uA {v:Vl} {vf:Value} {aj:ByteArray} {n:Nat} (h:tn lo w X vf v.fields):aK Tryz.prog 49 [.agg #[.bool v.bX,.string v.aj,I v.num,vf],.string aj,I (n:Int)] w fun r w'=>r = .bool (eC v aj n)∧Mod (fun _=>False) w w':=by
 obtain ⟨a,c,rfl⟩:=ER h;refine ajU.calls rfl ?_;unfold Ow;refine σ ?_;refine cK rfl ?_;intro w1 ax ag cL;have fY:w1.heap[w.heap.size]? = some (.cells [.bool v.bX,.string v.aj,I v.num,.slice a v.fields.length c].toArray 115 (0,0)):=ax;have hv:eC v aj n=(!v.bX&&decide (v.aj=aj)&&decide (v.fields.length=n)):=rfl;rw [hv];cases ho:v.bX with
 | true=>
  rw [ho] at fY;simp only [go_sem,simprocAttr,cell_of fY,Bool.not_true];exact ⟨rfl,ag⟩
 | false=>
  rw [ho] at fY;by_cases hc:v.aj=aj
  ·have b0:decide (v.aj=aj)=true:=by simp [hc]
   have b1:((v.fields.length:Int) == (n:Int))=decide (v.fields.length=n):=by
    rw [kU];exact decide_eq_decide.2 (by omega)
   simp only [go_sem,simprocAttr,cell_of fY,Bool.not_false,ig,b0,b1]
   first | exact ag | exact ⟨by simp,ag⟩
  ·have b0:decide (v.aj=aj)=false:=by simp [hc]
   simp only [go_sem,simprocAttr,cell_of fY,Bool.not_false,ig,b0]
   first | exact ag | exact ⟨by simp,ag⟩
end
end
section
open Go Go.W Go.RowKit
section
variable {lo:Nat} {w:World} {va:Value} {all:List Vl} {dp:List Value} {fA:Option Nat} {X:Nat→Prop}
theorem Qc {w1:World} {v:Vl} {vf:Value} {ρ:Go.W.Env} {K:Value→World→Prop} (hk:∀ w2,w2.heap[w.heap.size]? = some (.cells [.bool v.bX,.string v.aj,I v.num,vf].toArray 115 (0,0))→Mod (fun _=>False) w w2→K undef w2)
   (hb:w1.heap[w.heap.size]? = some (.cells (Value.agg #[.bool false,.string ⟨#[]⟩,I 0,.slice none 0 0]).cells 115 (0,0))) (hm:Mod (fun _=>False) w w1) {x y:O} (U:x.ev ρ=some (.pointer (some ⟨w.heap.size,0,none⟩))) (hy:y.ev ρ=some (.agg #[.bool v.bX,.string v.aj,I v.num,vf])) (h1:vf.oneCell'=true) :
   E.wp Tryz.prog w1 ρ K (.st 4 x y):=by
 have cj:w1.heap[w.heap.size]? = some (.cells [.bool false,.string ⟨#[]⟩,I 0,.slice none 0 0].toArray 115 (0,0)):=hb;refine cX (vs:=[.bool v.bX,.string v.aj,I v.num,vf]) U hy cj rfl rfl (by intro u hu;simp only [List.mem_cons,List.not_mem_nil,or_false] at hu;rcases hu with rfl | rfl | rfl | rfl<;>first | rfl | exact h1) ?_;intro w2 aC ae _;exact hk w2 aC (hm.step ae (fun b hb ah=>by omega))
theorem Qd {vf:Value} {l:List Nat} (h:tn lo w X vf l):vf.oneCell'=true:=by
 obtain ⟨a,c,rfl⟩:=ER h;rfl
set_option maxHeartbeats 2000000 in
theorem am8 {a:Nat} {v:Vl} (hA:nq lo w va all dp fA X) (hv:all[a]? = some v):aK Tryz.prog 29 [va,I (a:Int)] w fun r w'=>ju w w' r (kF v a):=by
 obtain ⟨b,c,vf,rfl,rfl,rm,dI,hl⟩:=P9 hA hv;have ah:=(List.getElem?_eq_some_iff.1 hv).1;have e1:(0:Int)≤(a:Int)∧(a:Int) < (all.length:Int):=by omega
 refine ajP.calls rfl ?_;unfold Oo;simp only [go_sem,simprocAttr,e1,Int.toNat_natCast,hl];refine dk ?_;intro w1 ax ag cL;refine Qc (v:=v) (vf:=vf) ?_ ax ag rfl rfl (Qd dI);intro w2 aC ae;have fX:=tq aC;have ES:=dI.mod ae (fun _ _ h=>h);simp only [go_sem,simprocAttr,fX];refine δ (by rfl) (uA (aj:=jN) (n:=0) ES) ?_;rintro _ w3 ⟨rfl,ab⟩;have vJ:=tq (ab.at aC (fun h=>h));have yk:=ES.mod ab (fun _ _ h=>h);unfold kF;cases c1:eC v jN 0 with
 | true=>
  refine σ ?_;refine cd (by rfl) (by rfl) ?_;intro w4 aH ai eu;refine σ ?_;exact tu (l:=[.text ⟨#[93]⟩]) (ae.trans ab) aH ai rfl
 | false=>
 simp only [go_sem,simprocAttr,vJ];refine δ (by rfl) (uA (aj:=gQ) (n:=2) yk) ?_;rintro _ w4 ⟨rfl,ai⟩;have aH:=ai.at (ab.at aC (fun h=>h)) (fun h=>h);have uB:=yk.mod ai (fun _ _ h=>h);have eh:=(ae.trans ab).trans ai;cases c2:eC v gQ 2 with
 | true=>
  have oU:v.fields.length=2:=by
   unfold eC at c2;simp at c2;exact c2.2
  obtain ⟨n0,n1,jO⟩:=H9 oU;obtain ⟨ad,c',Qe,gO⟩:=zO uB (i:=0) (by omega);obtain ⟨nE,c'',Qf,cY⟩:=zO uB (i:=1) (by omega);subst Qe;cases Qf;rw [Addr.add_zero'] at gO;simp only [jO,List.getElem_cons_zero,List.getElem_cons_succ,List.length_cons,List.length_nil,Nat.zero_add,Nat.reduceAdd] at gO cY aH;have Dt:w4.cell? ⟨ad.block,ad.off+1,none⟩=some (I (n1:Int)):=cY;have b1:(0:Int)≤0∧(0:Int) < ((2:Nat):Int):=by decide
  have b2:(0:Int)≤1∧(1:Int) < ((2:Nat):Int):=by decide
  simp only [go_sem,simprocAttr,cell_of aH,b1,b2,Int.toNat_zero,Int.toNat_one,Nat.zero_mul,Nat.one_mul,Addr.add_zero',gO,Dt];refine cd (by rfl) (by rfl) ?_;intro w5 bZ aB fP;refine σ ?_;rw [jO];exact tu (w:=w4.drew) (l:=[.text ⟨#[44,32]⟩,.full n0,.rest n1]) eh.drew bZ aB rfl
 | false=>
  refine σ ?_;refine cd (cs:=(([.text ⟨#[32,124,32]⟩,.full a,.text ⟨#[93]⟩]:List Rt).flatMap cU).toArray) (by rfl) (by rfl) ?_;intro w5 bZ aB fP;refine σ ?_;exact tu (l:=[.text ⟨#[32,124,32]⟩,.full a,.text ⟨#[93]⟩]) eh bZ aB rfl
end
end
section
open Go Go.W Go.RowKit
section
variable {lo:Nat} {w:World} {va:Value} {all:List Vl} {dp:List Value} {fA:Option Nat} {X:Nat→Prop}
theorem ZS:∀ (l:List Nat) (a:Nat),l≠[]→mz (l++[a])=mz l++[.text ⟨#[44,32]⟩,.full a]
 | [],a,h=>absurd rfl h
 | [b],a,_=>rfl
 | b::c::l,a,_=>by
  have:=ZS (c::l) a (by simp);simp only [List.cons_append,mz] at this ⊢;rw [this]
theorem ZT:∀ (l:List Nat) (a:Nat),mA (l++[a])=mA l++[.text ⟨#[32]⟩,.arg a]
 | [],a=>rfl
 | b::l,a=>by
  have:=ZT l a;simp only [List.cons_append,mA] at this ⊢;rw [this]
theorem ZU (l:List Nat):(mA l).length=2*l.length:=by
 induction l with
 | nil=>rfl
 | cons a l ih=>simp only [mA,List.length_cons,ih];omega
theorem BR:∀ l:List Nat,(mz l).length≤2*l.length
 | []=>Nat.le_refl _
 | [a]=>by simp [mz]
 | a::b::l=>by
  have:=BR (b::l);simp only [mz,List.length_cons] at this ⊢;omega
set_option maxHeartbeats 2000000 in
theorem am9 {Q:gI} {wb w1:World} {D:Nat} {v:Vl} {vf v8:Value} (hD:wb.heap[D]? = some (.cells [.bool v.bX,.string v.aj,I v.num,vf].toArray 115 (0,0))) (dI:tn lo wb X vf v.fields) (hn:v.fields.length≤65536) (h8:ju wb w1 v8 [.text v.aj])
   (fi:∀ w2 v8,ju wb w2 v8 (.text v.aj::mA v.fields)→Q (.exit 2) [(5,ptr D),(8,v8),(9,I v.fields.length),(90,.bool false)] w2) :
   cM Tryz.prog 104 (.loop Ol) Q [(5,ptr D),(8,v8),(9,I 0)] w1:=by
 obtain ⟨af,cf,rfl⟩:=ER dI;refine dA (fun z ρ w'=>∃ (k:Nat) (v8:Value),z=v.fields.length - k∧k≤v.fields.length∧ju wb w' v8 (.text v.aj::mA (v.fields.take k))∧ρ=[(5,ptr D),(8,v8),(9,I k)]) v.fields.length ⟨0,v8,rfl,Nat.zero_le _,h8,rfl⟩ ?_;rintro z ρ w2 ⟨k,v8,rfl,hk,g,rfl⟩;unfold Ol;have ae:Mod (fun _=>False) wb w2:=g.choose_spec.2.2;have qV:=ae.at hD (fun h=>h);rcases Nat.lt_or_ge k v.fields.length with ah | hge
 ·have e1:decide ((k:Int) < v.fields.length)=true:=by rw [decide_eq_true_eq];omega
  have e2:IntKind.i64.wrap ((k:Int)+1)=((k+1:Nat):Int):=by rw [IntKind.wrap_i64];omega
  have e3:(0:Int)≤k∧(k:Int) < v.fields.length:=by omega
  obtain ⟨ad,c',rm,hc⟩:=zO (dI.mod ae (fun _ _ h=>h)) ah;cases rm;simp only [go_sem,simprocAttr,e1,cell_of qV,e3,decide_true,Int.toNat_natCast,Nat.mul_one,hc];refine cd (cs:=(([.text ⟨#[32]⟩,.arg (v.fields[k])]:List Rt).flatMap cU).toArray) (by rfl) (by rfl) ?_;intro w3 aJ ab eP;refine wB (news:=[.text ⟨#[32]⟩,.arg (v.fields[k])]) g aJ ab rfl rfl rfl (by simp only [List.length_cons,ZU,List.length_take,List.length_nil];omega) ?_;intro v4 w4 g4;simp only [go_sem,simprocAttr,e2];refine ⟨_,?_,k+1,v4,rfl,by omega,?_,rfl⟩
  ·omega
  ·rw [List.take_succ_eq_append_getElem ah,ZT,← List.cons_append];exact g4
 ·obtain rfl:k=v.fields.length:=by omega
  have e1:decide (((v.fields.length:Nat):Int) < v.fields.length)=false:=by simp
  rw [List.take_length] at g;simp only [go_sem,simprocAttr,e1,cell_of qV];exact fi w2 v8 g
set_option maxHeartbeats 2000000 in
theorem Qg {Q:gI} {wb w1:World} {D:Nat} {v:Vl} {vf v6:Value} (hD:wb.heap[D]? = some (.cells [.bool v.bX,.string v.aj,I v.num,vf].toArray 115 (0,0))) (dI:tn lo wb X vf v.fields) (hn:v.fields.length≤65536) (h6:ju wb w1 v6 [.text ⟨#[40]⟩])
   (fi:∀ w2 v6,ju wb w2 v6 (.text ⟨#[40]⟩::mz v.fields)→Q (.exit 0) [(5,ptr D),(6,v6),(7,I v.fields.length),(60,.bool false)] w2) :
   cM Tryz.prog 104 (.loop Oj) Q [(5,ptr D),(6,v6),(7,I 0)] w1:=by
 obtain ⟨af,cf,rfl⟩:=ER dI;refine dA (fun z ρ w'=>∃ (k:Nat) (v6:Value),z=v.fields.length - k∧k≤v.fields.length∧ju wb w' v6 (.text ⟨#[40]⟩::mz (v.fields.take k))∧ρ=[(5,ptr D),(6,v6),(7,I k)]) v.fields.length ⟨0,v6,rfl,Nat.zero_le _,h6,rfl⟩ ?_;rintro z ρ w2 ⟨k,v6,rfl,hk,g,rfl⟩;unfold Oj;have ae:Mod (fun _=>False) wb w2:=g.choose_spec.2.2;have qV:=ae.at hD (fun h=>h);have pI:=BR (v.fields.take k);rw [List.length_take] at pI;rcases Nat.lt_or_ge k v.fields.length with ah | hge
 ·have e1:decide ((k:Int) < v.fields.length)=true:=by rw [decide_eq_true_eq];omega
  have e2:IntKind.i64.wrap ((k:Int)+1)=((k+1:Nat):Int):=by rw [IntKind.wrap_i64];omega
  have e3:(0:Int)≤k∧(k:Int) < v.fields.length:=by omega
  by_cases oM:k=0
  ·obtain ⟨ad,c',rm,hc⟩:=zO (dI.mod ae (fun _ _ h=>h)) ah;cases rm;have e4:decide ((k:Int) > 0)=false:=by rw [decide_eq_false_iff_not];omega
   simp only [go_sem,simprocAttr,e1,cell_of qV,e3,e4,decide_true,Int.toNat_natCast,Nat.mul_one,hc];refine cd (cs:=(([.full (v.fields[k])]:List Rt).flatMap cU).toArray) (by rfl) (by rfl) ?_;intro w3 aJ ab eP;refine wB (news:=[.full (v.fields[k])]) g aJ ab rfl rfl rfl (by simp only [List.length_cons,List.length_nil];omega) ?_;intro v4 w4 g4;simp only [go_sem,simprocAttr,e2];refine ⟨_,?_,k+1,v4,rfl,by omega,?_,rfl⟩
   ·omega
   ·rw [List.take_succ_eq_append_getElem ah];subst oM;exact g4
  ·have e4:decide ((k:Int) > 0)=true:=by rw [decide_eq_true_eq];omega
   simp only [go_sem,simprocAttr,e1,cell_of qV,e4];refine cd (cs:=(([.text ⟨#[44,32]⟩]:List Rt).flatMap cU).toArray) (by rfl) (by rfl) ?_;intro w3 aJ ab eP;refine wB (news:=[.text ⟨#[44,32]⟩]) g aJ ab rfl rfl rfl (by simp only [List.length_cons,List.length_nil];omega) ?_;intro v4 w4 g4;have ai:Mod (fun _=>False) wb w4:=g4.choose_spec.2.2;have Eg:=ai.at hD (fun h=>h);obtain ⟨ad,c',rm,hc⟩:=zO (dI.mod ai (fun _ _ h=>h)) ah;cases rm;simp only [go_sem,simprocAttr,cell_of Eg,e3,decide_true,Int.toNat_natCast,Nat.mul_one,hc];refine cd (cs:=(([.full (v.fields[k])]:List Rt).flatMap cU).toArray) (by rfl) (by rfl) ?_;intro w5 bZ aB fP;refine wB (news:=[.full (v.fields[k])]) g4 bZ aB rfl rfl rfl (by simp only [List.length_cons,List.length_append,List.length_nil];omega) ?_;intro v6 w6 g6;simp only [go_sem,simprocAttr,e2];refine ⟨_,?_,k+1,v6,rfl,by omega,?_,rfl⟩
   ·omega
   ·rw [List.take_succ_eq_append_getElem ah,ZS _ _ (by intro e;have:=congrArg List.length e;rw [List.length_take,List.length_nil] at this;omega)]
    simpa using g6
 ·obtain rfl:k=v.fields.length:=by omega
  have e1:decide (((v.fields.length:Nat):Int) < v.fields.length)=false:=by simp
  rw [List.take_length] at g;simp only [go_sem,simprocAttr,e1,cell_of qV];exact fi w2 v6 g
end
end
section
open Go Go.W Go.RowKit
section
variable {lo:Nat} {w:World} {va:Value} {all:List Vl} {dp:List Value} {fA:Option Nat} {X:Nat→Prop}
theorem uC {wb w':World} {v:Value} {l:List Rt} (h:ju wb w' v l) (hm:Mod (fun _=>False) w wb):ju w w' v l:=by
 obtain ⟨fp,h1,h2,h3⟩:=h;exact ⟨fp,h1,fun b hb=>by have:=h2 b hb;have:=hm.size;omega,hm.trans h3⟩
set_option maxHeartbeats 4000000 in
theorem ZV {a:Nat} {v:Vl} (hA:nq lo w va all dp fA X) (hv:all[a]? = some v) (ht:lU lo w) (hn:v.fields.length≤65536) (jk:v.bX=false→v.aj=⟨#[]⟩ → -9223372036854775808≤v.num∧v.num≤9223372036854775807) :
   aK Tryz.prog 27 [va,I (a:Int)] w fun r w'=>ju w w' r (dK a8 v):=by
 obtain ⟨b,c,vf,rfl,rfl,rm,dI,hl⟩:=P9 hA hv;have ah:=(List.getElem?_eq_some_iff.1 hv).1;have e1:(0:Int)≤(a:Int)∧(a:Int) < (all.length:Int):=by omega
 refine ajN.calls rfl ?_;unfold Om;simp only [go_sem,simprocAttr,e1,Int.toNat_natCast,hl];refine dk ?_;intro w1 ax ag cL;refine Qc (v:=v) (vf:=vf) ?_ ax ag rfl rfl (Qd dI);intro w2 aC ae;have fX:=tq aC;have ES:=dI.mod ae (fun _ _ h=>h);unfold dK;cases ho:v.bX with
 | true=>
  rw [ho] at aC;simp only [go_sem,simprocAttr,cell_of aC];refine cd (cs:=(([.text ⟨#[95]⟩]:List Rt).flatMap cU).toArray) (by rfl) (by rfl) ?_;intro w3 aJ ab eP;refine σ ?_;exact tu (l:=[.text ⟨#[95]⟩]) ae aJ ab rfl
 | false=>
 by_cases h0:v.aj=⟨#[]⟩
 ·have b0:decide (v.aj=⟨#[]⟩)=true:=by simp [h0]
  obtain ⟨n1,n2⟩:=jk ho h0;have iI:=aC;rw [ho] at iI;simp only [go_sem,simprocAttr,cell_of iI,ig,b0];refine δ (by rfl) (XU (ht.mod (mp:=0) (ae.az (fun _ hh=>hh.elim))) ⟨n1,n2⟩) ?_;rintro _ w3 ⟨rfl,ab⟩;refine σ ?_;refine cd (cs:=(([.text (a8 v.num)]:List Rt).flatMap cU).toArray) (by rfl) (by rfl) ?_;intro w4 aH ai eu;simp only [go_sem,simprocAttr,h0,if_true];exact tu (l:=[.text (a8 v.num)]) (ae.trans ab) aH ai rfl
 have b0:decide (v.aj=⟨#[]⟩)=false:=by simp [h0]
 have iI:=aC;rw [ho] at iI;rw [if_neg h0];simp only [go_sem,simprocAttr,cell_of iI,ig,b0,fX];refine δ (by rfl) (uA (aj:=jN) (n:=0) ES) ?_;rintro _ w3 ⟨rfl,ab⟩;have dy:=ae.trans ab;have aJ:=ab.at aC (fun h=>h);have vJ:=tq aJ;have yk:=ES.mod ab (fun _ _ h=>h);cases c1:eC v jN 0 with
 | true=>
  refine σ ?_;refine cd (cs:=(([.text ⟨#[91,93]⟩]:List Rt).flatMap cU).toArray) (by rfl) (by rfl) ?_;intro w4 aH ai eu;refine σ ?_;exact tu (l:=[.text ⟨#[91,93]⟩]) dy aH ai rfl
 | false=>
 simp only [go_sem,simprocAttr,vJ];refine δ (by rfl) (uA (aj:=gQ) (n:=2) yk) ?_;rintro _ w4 ⟨rfl,ai⟩;have eh:=dy.trans ai;have aH:=ai.at aJ (fun h=>h);have sR:=tq aH;have uB:=yk.mod ai (fun _ _ h=>h);cases c2:eC v gQ 2 with
 | true=>
  have oU:v.fields.length=2:=by
   unfold eC at c2;simp at c2;exact c2.2
  obtain ⟨n0,n1,jO⟩:=H9 oU;obtain ⟨ad,c',Qe,gO⟩:=zO uB (i:=0) (by omega);obtain ⟨nE,c'',Qf,cY⟩:=zO uB (i:=1) (by omega);subst Qe;cases Qf;rw [Addr.add_zero'] at gO;simp only [jO,List.getElem_cons_zero,List.getElem_cons_succ,List.length_cons,List.length_nil,Nat.zero_add,Nat.reduceAdd] at gO cY aH;have Dt:w4.cell? ⟨ad.block,ad.off+1,none⟩=some (I (n1:Int)):=cY;have b1:(0:Int)≤0∧(0:Int) < ((2:Nat):Int):=by decide
  have b2:(0:Int)≤1∧(1:Int) < ((2:Nat):Int):=by decide
  simp only [go_sem,simprocAttr,cell_of aH,b1,b2,Int.toNat_zero,Int.toNat_one,Nat.zero_mul,Nat.one_mul,Addr.add_zero',gO,Dt];refine cd (cs:=(([.text ⟨#[91]⟩,.full n0,.rest n1]:List Rt).flatMap cU).toArray) (by rfl) (by rfl) ?_;intro w5 bZ aB fP;refine σ ?_;rw [jO];exact tu (w:=w4.drew) (l:=[.text ⟨#[91]⟩,.full n0,.rest n1]) eh.drew bZ aB rfl
 | false=>
 simp only [go_sem,simprocAttr,sR];refine δ (by rfl) (uA (aj:=qb) (n:=0) uB) ?_;rintro _ w5 ⟨rfl,aB⟩;have dH:=eh.trans aB;have bZ:=aB.at aH (fun h=>h);have Qh:=tq bZ;have ET:=uB.mod aB (fun _ _ h=>h);cases c3:eC v qb 0 with
 | true=>
  refine σ ?_;refine cd (cs:=(([.text ⟨#[40]⟩]:List Rt).flatMap cU).toArray) (by rfl) (by rfl) ?_;intro wa tv ko jR;have la:ju w5 wa _ [.text ⟨#[40]⟩]:=tu (Mod.refl _ _) tv ko rfl;refine σ ?_;refine Qg bZ ET hn la ?_;intro wb v6 gb;refine σ ?_;refine cd (cs:=(([.text ⟨#[41]⟩]:List Rt).flatMap cU).toArray) (by rfl) (by rfl) ?_;intro wc rS l9 Ik;refine wB (news:=[.text ⟨#[41]⟩]) gb rS l9 rfl rfl rfl (by have:=BR v.fields;simp only [List.length_cons,List.length_nil];omega) ?_;intro vd wd gd;refine σ ?_;have zP:=uC gd dH
  simpa using zP
 | false=>
 simp only [go_sem,simprocAttr,Qh];refine δ (by rfl) (uA (aj:=kC) (n:=2) ET) ?_;rintro _ w6 ⟨rfl,aD⟩;have gE:=dH.trans aD;have cN:=aD.at bZ (fun h=>h);have hl6:=tq cN;have Qi:=ET.mod aD (fun _ _ h=>h);cases c4:eC v kC 2 with
 | true=>
  refine σ ?_;refine cd (cs:=(([.text ⟨#[40]⟩]:List Rt).flatMap cU).toArray) (by rfl) (by rfl) ?_;intro wa tv ko jR;have la:ju w6 wa _ [.text ⟨#[40]⟩]:=tu (Mod.refl _ _) tv ko rfl;refine σ ?_;refine Qg cN Qi hn la ?_;intro wb v6 gb;refine σ ?_;refine cd (cs:=(([.text ⟨#[41]⟩]:List Rt).flatMap cU).toArray) (by rfl) (by rfl) ?_;intro wc rS l9 Ik;refine wB (news:=[.text ⟨#[41]⟩]) gb rS l9 rfl rfl rfl (by have:=BR v.fields;simp only [List.length_cons,List.length_nil];omega) ?_;intro vd wd gd;refine σ ?_;have zP:=uC gd gE
  simpa using zP
 | false=>
 simp only [go_sem,simprocAttr,hl6];refine δ (by rfl) (uA (aj:=kD) (n:=3) Qi) ?_;rintro _ w7 ⟨rfl,aX⟩;have jV:=gE.trans aX;have cm:=aX.at cN (fun h=>h);have ZW:=Qi.mod aX (fun _ _ h=>h);cases c5:eC v kD 3 with
 | true=>
  refine σ ?_;refine cd (cs:=(([.text ⟨#[40]⟩]:List Rt).flatMap cU).toArray) (by rfl) (by rfl) ?_;intro wa tv ko jR;have la:ju w7 wa _ [.text ⟨#[40]⟩]:=tu (Mod.refl _ _) tv ko rfl;refine σ ?_;refine Qg cm ZW hn la ?_;intro wb v6 gb;refine σ ?_;refine cd (cs:=(([.text ⟨#[41]⟩]:List Rt).flatMap cU).toArray) (by rfl) (by rfl) ?_;intro wc rS l9 Ik;refine wB (news:=[.text ⟨#[41]⟩]) gb rS l9 rfl rfl rfl (by have:=BR v.fields;simp only [List.length_cons,List.length_nil];omega) ?_;intro vd wd gd;refine σ ?_;have zP:=uC gd jV
  simpa using zP
 | false=>
  simp only [go_sem,simprocAttr,cell_of cm];refine cd (cs:=(([.text v.aj]:List Rt).flatMap cU).toArray) (by rfl) (by rfl) ?_;intro wa tv ko jR;have la:ju w7 wa _ [.text v.aj]:=tu (Mod.refl _ _) tv ko rfl;refine σ ?_;refine am9 cm ZW hn la ?_;intro wb v8 gb;refine σ ?_;have zP:=uC gb jV
  simpa using zP
end
end
section
open Go Go.W Go.RowKit
section
variable {lo:Nat} {w:World} {va:Value} {all:List Vl} {dp:List Value} {fA:Option Nat} {X:Nat→Prop}
theorem Il {itoa:Int→ByteArray} (v:Vl):(dK itoa v).length≤2*v.fields.length+3:=by
 unfold dK
 split
 ·simp
 split
 ·simp
 split
 ·simp
 split
 ·simp
 split
 ·have:=BR v.fields;simp only [List.length_cons,List.length_append,List.length_nil];omega
 ·simp only [List.length_cons,ZU];omega
set_option maxHeartbeats 4000000 in
theorem am' {a:Nat} {v:Vl} (hA:nq lo w va all dp fA X) (hX:∀ b,X b→b < w.heap.size) (hv:all[a]? = some v) (ht:lU lo w) (hn:v.fields.length≤65536) (jk:v.bX=false→v.aj=⟨#[]⟩ → -9223372036854775808≤v.num∧v.num≤9223372036854775807) :
   aK Tryz.prog 28 [va,I (a:Int)] w fun r w'=>ju w w' r (jd a8 v):=by
 have Kv:=hA;obtain ⟨b,c,vf,Ie,xN,rm,dI,hl⟩:=P9 hA hv;subst Ie;have ah:=(List.getElem?_eq_some_iff.1 hv).1;have e1:(0:Int)≤(a:Int)∧(a:Int) < (all.length:Int):=by omega
 refine ajO.calls rfl ?_;unfold On;simp only [go_sem,simprocAttr,e1,Int.toNat_natCast,hl];refine dk ?_;intro w1 ax ag cL;refine Qc (v:=v) (vf:=vf) ?_ ax ag rfl rfl (Qd dI);intro w2 aC ae;have hA2:nq lo w2 (.slice (some ⟨b,0,none⟩) all.length c) all dp fA X:=Kv.later ae (fun _ _ h=>h) (fun _ _ _ h=>h.elim);refine σ ?_;refine δ (by rfl) (ZV hA2 hv (ht.mod (mp:=0) (ae.az (fun _ hh=>hh.elim))) hn jk) ?_;rintro r w3 g3;have ab:Mod (fun _=>False) w2 w3:=g3.choose_spec.2.2;have aJ:=ab.at aC (fun h=>h);have vJ:=tq aJ;have yk:=(dI.mod ae (fun _ _ h=>h)).mod ab (fun _ _ h=>h);obtain ⟨af,cf,rfl⟩:=ER dI;unfold jd;cases ho:v.bX with
 | true=>
  have js:=aJ;rw [ho] at js;simp only [go_sem,simprocAttr,cell_of js]
  simpa using uC g3 ae
 | false=>
 have js:=aJ;rw [ho] at js;by_cases h0:v.aj=⟨#[]⟩
 ·have b0:decide (v.aj=⟨#[]⟩)=true:=by simp [h0]
  by_cases n0:v.num≥0
  ·have b1:decide (v.num≥0)=true:=by simp;omega
   simp only [go_sem,simprocAttr,cell_of js,ig,b0,b1];rw [if_pos ⟨h0,n0⟩];exact uC g3 ae
  ·have b1:decide (v.num≥0)=false:=by simp;omega
   rw [if_neg (by simp [h0];omega),if_neg (by simp [h0])];simp only [go_sem,simprocAttr,cell_of js,ig,b0,b1,Bool.not_true];obtain ⟨fp,p1,p2,p3⟩:=g3;obtain ⟨ar,cr,rfl,_,wA⟩:=p1.val;have p4:=p1.mod (Mod.refl (fun _=>False) w3) (fun _ _ h=>h);have bE:=Il (itoa:=a8) v;refine cd (cs:=(([.text ⟨#[40]⟩]:List Rt).flatMap cU).toArray) (by rfl) (by rfl) ?_;intro wa tv ko jR;refine σ ?_;have la:=ao.fG (n:=1) (sz:=3) tv rfl;refine eH (news:=(dK a8 v).flatMap cU) (m:=(dK a8 v).length) rfl la rfl (fun e=>(wA e).1) (p4.mod ko (fun _ _ h=>h)).rd (Ij _) rfl (by omega) (by omega) ?_;intro vb wb fb HA EU Qj;refine σ ?_;refine cd (cs:=(([.text ⟨#[41]⟩]:List Rt).flatMap cU).toArray) (by rfl) (by rfl) ?_;intro wc rS l9 Ik;have s4:=((Mod.refl (fun _=>False) w3)).size;have sa:=ko.size;have Qk:Mod (fun _=>False) w3 wb:=ko.step EU (fun b hb ah=>by cases hb;omega);have gb:ju w3 wb vb (.text ⟨#[40]⟩::dK a8 v):=by
    refine ⟨fb,?_,fun b hb=>?_,((Mod.refl (fun _=>False) w3)).trans Qk⟩
    ·have e:(.text ⟨#[40]⟩::dK a8 v:List Rt).length=1+(dK a8 v).length:=by rw [List.length_cons];omega
     rw [e];exact HA
    ·rcases Qj b hb with h' | ⟨h',_⟩
     ·cases h';omega
     ·omega
   refine wB (news:=[.text ⟨#[41]⟩]) gb rS l9 rfl rfl rfl (by simp only [List.length_cons,List.length_nil];omega) ?_;intro vd wd gd;refine σ ?_;exact uC gd (ae.trans p3)
 have b0:decide (v.aj=⟨#[]⟩)=false:=by simp [h0]
 rw [if_neg (by simp [h0])];have okc:(v.fields.length=0∨eC v gQ 2=true∨eC v kC 2=true∨eC v kD 3=true)→∀ w4,Mod (fun _=>False) w3 w4→ju w w4 r (if v.aj≠⟨#[]⟩∧(v.fields.length=0∨eC v gQ 2=true∨eC v kC 2=true∨eC v kD 3=true) then dK a8 v else .text ⟨#[40]⟩::dK a8 v++[.text ⟨#[41]⟩]):=fun h w4 ai=>by
  rw [if_pos ⟨h0,h⟩];obtain ⟨fp,p1,p2,p3⟩:=uC g3 ae;exact ⟨fp,p1.mod ai (fun _ _ h=>h),p2,p3.trans ai⟩
 have Ql:∀ w4,Mod (fun _=>False) w3 w4→ju w w4 r (dK a8 v):=fun w4 ai=>by
  obtain ⟨fp,p1,p2,p3⟩:=uC g3 ae;exact ⟨fp,p1.mod ai (fun _ _ h=>h),p2,p3.trans ai⟩
 by_cases f0:v.fields.length=0
 ·have b1:((v.fields.length:Int) == 0)=true:=by rw [f0];rfl
  simp only [go_sem,simprocAttr,cell_of js,ig,b0,b1,Bool.not_false];exact okc (.inl f0) w3 (Mod.refl _ _)
 have b1:((v.fields.length:Int) == 0)=false:=beq_false_of_ne (by omega);simp only [go_sem,simprocAttr,cell_of js,ig,b0,b1,Bool.not_false,vJ];refine δ (by rfl) (uA (aj:=gQ) (n:=2) yk) ?_;rintro _ w4 ⟨rfl,ai⟩;have sR:=tq (ai.at aJ (fun h=>h));have uB:=yk.mod ai (fun _ _ h=>h);cases c2:eC v gQ 2 with
 | true=>
  refine σ ?_;rw [if_pos h0];exact Ql w4 ai
 | false=>
 simp only [go_sem,simprocAttr,sR];refine δ (by rfl) (uA (aj:=kC) (n:=2) uB) ?_;rintro _ w5 ⟨rfl,aB⟩;have eI:=ai.trans aB;have Qh:=tq (eI.at aJ (fun h=>h));have ET:=uB.mod aB (fun _ _ h=>h);cases c4:eC v kC 2 with
 | true=>
  refine σ ?_;rw [if_pos h0];exact Ql w5 eI
 | false=>
 simp only [go_sem,simprocAttr,Qh];refine δ (by rfl) (uA (aj:=kD) (n:=3) ET) ?_;rintro _ w6 ⟨rfl,aD⟩;have xh:=eI.trans aD;cases c5:eC v kD 3 with
 | true=>
  refine σ ?_;rw [if_pos h0];exact Ql w6 xh
 | false=>
  rw [if_neg (fun hh=>by
   rcases hh.2 with h | h
   ·exact f0 h
   ·simp at h)]
  refine σ ?_;obtain ⟨fp,p1,p2,p3⟩:=g3;obtain ⟨ar,cr,rfl,_,wA⟩:=p1.val;have p4:=p1.mod xh (fun _ _ h=>h);have bE:=Il (itoa:=a8) v;refine cd (cs:=(([.text ⟨#[40]⟩]:List Rt).flatMap cU).toArray) (by rfl) (by rfl) ?_;intro wa tv ko jR;refine σ ?_;have la:=ao.fG (n:=1) (sz:=3) tv rfl;refine eH (news:=(dK a8 v).flatMap cU) (m:=(dK a8 v).length) rfl la rfl (fun e=>(wA e).1) (p4.mod ko (fun _ _ h=>h)).rd (Ij _) rfl (by omega) (by omega) ?_;intro vb wb fb HA EU Qj;refine σ ?_;refine cd (cs:=(([.text ⟨#[41]⟩]:List Rt).flatMap cU).toArray) (by rfl) (by rfl) ?_;intro wc rS l9 Ik;have s4:=(xh).size;have sa:=ko.size;have Qk:Mod (fun _=>False) w6 wb:=ko.step EU (fun b hb ah=>by cases hb;omega);have gb:ju w3 wb vb (.text ⟨#[40]⟩::dK a8 v):=by
   refine ⟨fb,?_,fun b hb=>?_,(xh).trans Qk⟩
   ·have e:(.text ⟨#[40]⟩::dK a8 v:List Rt).length=1+(dK a8 v).length:=by rw [List.length_cons];omega
    rw [e];exact HA
   ·rcases Qj b hb with h' | ⟨h',_⟩
    ·cases h';omega
    ·omega
  refine wB (news:=[.text ⟨#[41]⟩]) gb rS l9 rfl rfl rfl (by simp only [List.length_cons,List.length_nil];omega) ?_;intro vd wd gd;refine σ ?_;exact uC gd (ae.trans p3)
end
end
section
open Go Go.W Go.RowKit
section
variable {w:World} {v1 v2:Value} {items:List It} {B B':Nat→Prop}
theorem ZX (h:cO w v1 2 (items.map ec) B) {k:Nat} {x:It} (U:items[k]? = some x):∃ ad c,v1 = .slice (some ad) items.length c∧cH w 2 (.pointer (some (ad.add (k*2))))=some (.agg #[.string x.aj,I x.num]):=by
 obtain ⟨hl,rfl⟩:=List.getElem?_eq_some_iff.1 U;obtain ⟨a,c,h1,h3,h2⟩:=h;obtain ⟨ad,rfl,_,h4⟩:=h2 k (by simpa using hl);refine ⟨ad,c,by simpa using h1,sJ ?_ ?_⟩
 ·have:=h4 0 (by simp [ec])
  simpa [ec] using this
 ·simpa [ec] using h4 1 (by simp [ec])
theorem ana (h1:cO w v1 2 (items.map ec) B) (h2:cO w v2 2 (items.map ec) B') (hl:items.length≤4294967296):aK Tryz.prog 15 [v1,v2] w fun r w'=>r = .bool true∧Mod (fun _=>False) w w':=by
 obtain ⟨a1,c1,e1⟩:∃ a c,v1 = .slice a items.length c:=by
  obtain ⟨a,c,h,_⟩:=h1;exact ⟨a,c,by simpa using h⟩
 obtain ⟨a2,c2,e2⟩:∃ a c,v2 = .slice a items.length c:=by
  obtain ⟨a,c,h,_⟩:=h2;exact ⟨a,c,by simpa using h⟩
 subst e1 e2;refine ajJ.calls rfl ?_;unfold Od;have b0:((items.length:Int) != (items.length:Int))=false:=by simp
 simp only [go_sem,simprocAttr,b0];refine dA (fun z ρ w'=>∃ i:Nat,z=items.length - i∧i≤items.length∧Mod (fun _=>False) w w'∧ρ=[(0,.slice a1 items.length c1),(1,.slice a2 items.length c2),(5,I i)]) items.length ⟨0,rfl,Nat.zero_le _,Mod.refl _ _,rfl⟩ ?_;rintro z ρ w1 ⟨i,rfl,hi,hm,rfl⟩;unfold Xn;rcases Nat.lt_or_ge i items.length with ah | hge
 ·obtain ⟨x,U⟩:∃ x,items[i]? = some x:=⟨_,List.getElem?_eq_getElem ah⟩;obtain ⟨ad,c,ox,q1⟩:=ZX (h1.mod hm (fun _ _ h=>h) (fun _ h=>h)) U;obtain ⟨nE,c',Qm,q2⟩:=ZX (h2.mod hm (fun _ _ h=>h) (fun _ h=>h)) U;cases ox;cases Qm;have e1:decide ((i:Int) < items.length)=true:=by rw [decide_eq_true_eq];omega
  have e2:IntKind.i64.wrap ((i:Int)+1)=((i+1:Nat):Int):=by rw [IntKind.wrap_i64];omega
  have e3:(0:Int)≤i∧(i:Int) < items.length:=by omega
  have Qa:cH w1.drew 2 (.pointer (some (ad.add (i*2))))=some (.agg #[.string x.aj,I x.num]):=q1;have q2':cH w1.drew 2 (.pointer (some (nE.add (i*2))))=some (.agg #[.string x.aj,I x.num]):=q2;simp only [go_sem,simprocAttr,e1,e3,decide_true,Int.toNat_natCast,q1,q2,Qa,q2',ig,kU,beq_self_eq_true,Bool.not_true,e2];exact ⟨_,by omega,i+1,rfl,by omega,hm.drew,rfl⟩
 ·obtain rfl:i=items.length:=by omega
  have e1:decide (((items.length:Nat):Int) < items.length)=false:=by simp
  simp only [go_sem,simprocAttr,e1];exact hm
end
end
end Go.Proofs.YtnjobkbblhaliaaGreatDoor
namespace Go.W
section
open Go
section
variable {P:Program} {w:World} {ρ:Env} {K:Value→World→Prop} {d:Option Nat} {ty:TypeId} {pos:String} {af:Array Edge}
theorem anb {src dst e:TypeId} {x:Operand} {v:Value} {s:ByteArray} {fp:Option Nat} (U:(a7 x).ev ρ=some v) (ho:ao w e 1 v (Lib.strCells s) s.size fp) (hs:P.underlying src=some (.slice e)) (he:P.underlying e=some (.int .u8)) (hd:P.underlying dst=some .string)
   (hk:K (.string s) w):E.wp P w ρ K (.raw ⟨d,.convert src dst x,ty,pos,af,none⟩):=by
 have hr:(convert src dst v).run P w = .ok (.string s) w:=by
  rcases ho.2 with ⟨rfl,h0,_⟩ | ⟨b,c,cg,rfl,rfl,h3,h4,h5⟩
  ·have lq:s=⟨#[]⟩:=by
    apply ByteArray.ext;exact Array.eq_empty_of_size_eq_zero h0
   rw [lq];exact Lib.run_convert_nil_bytes w src dst e 0 hs he hd
  ·exact run_convert_bytes_back (P:=P) w src dst e ⟨b,0,none⟩ c s.data.toList hs he hd (fun j hj=>by
    rw [dB];refine (cell_of h3 _).trans ?_;rw [Nat.zero_add,List.getElem?_toArray,List.getElem?_append_left (by simpa [Lib.strCells] using hj)]
    simp [Lib.strCells,List.getElem?_eq_getElem hj])
 refine iC fun a ha=>⟨_,_,?_,hk⟩
 simp only [execOp,Sem.run_bind,ha x _ U,hr];rfl
end
end
end Go.W
namespace Go.Proofs.YtnjobkbblhaliaaGreatDoor
section
open Go Go.W
section
variable {itoa:Int→ByteArray} {f:eE} {items:List It} {all:List Vl}
def Qn (s:Vs):Prop:=0 < s.all.length∧∀ v∈s.all,∀ a∈v.fields,a < s.all.length
theorem anc {s:Vs} {x:It} (h:Qn s):Qn (qh f s x):=by
 have hl:(qh f s x).all.length=s.all.length+dz f x:=by
  unfold qh;simp [List.length_set,List.length_append,List.length_replicate]
 refine ⟨by rw [hl];have:=h.1;omega,fun v hv a ha=>?_⟩;rw [hl];have mI:v∈s.all++List.replicate (dz f x) dP∨v=⟨false,x.aj,x.num,dW f x s⟩:=by
  unfold qh at hv;exact List.mem_or_eq_of_mem_set hv
 rcases mI with mI | rfl
 ·rcases List.mem_append.1 mI with h' | h'
  ·have:=h.2 v h' a ha;omega
  ·rw [List.eq_of_mem_replicate h'] at ha;cases ha
 ·have ha':a∈dW f x s:=ha;unfold dW at ha';rw [List.mem_range'_1] at ha';omega
theorem ZY (k:Nat) (hk:k≤items.length):Qn (bg f items k):=by
 induction k with
 | zero=>exact ⟨(show 0 < [dP].length from Nat.zero_lt_one),fun v hv a ha=>by
     have:v=dP:=by simpa [bg,EN] using hv
     rw [this] at ha;cases ha⟩
 | succ k ih=>
  rw [wv (List.getElem?_eq_getElem (show k < items.length by omega))];exact anc (ih (by omega))
theorem ane (t:Rs):t.out.size≤(t.step itoa all).out.size:=by
 unfold Rs.step
 split
 ·exact Nat.le_refl _
 ·show _≤(_++_:ByteArray).size;rw [fC];omega
 ·exact Nat.le_refl _
 ·exact Nat.le_refl _
 ·exact Nat.le_refl _
theorem ZZ:∀ (n:Nat) (t:Rs),t.out.size≤(t.steps itoa all n).out.size
 | 0,t=>Nat.le_refl _
 | n+1,t=>Nat.le_trans (ane t) (ZZ n (t.step itoa all))
end
end
section
open Go Go.W
def Rt.kY (n:Nat):Rt→Prop
 | .text _=>True
 | .full a=>a < n
 | .arg a=>a < n
 | .rest a=>a < n
section
variable {itoa:Int→ByteArray} {f:eE} {items:List It} {all:List Vl}
theorem Z0 {n:Nat}:∀ (l:List Nat),(∀ a∈l,a < n)→∀ t∈mz l,t.kY n
 | [],_,t,ht=>by cases ht
 | [a],h,t,ht=>by
  have:t = .full a:=by simpa [mz] using ht
  subst this;exact h a (by simp)
 | a::b::l,h,t,ht=>by
  rw [mz] at ht;rcases List.mem_cons.1 ht with rfl | ht
  ·exact h a (by simp)
  rcases List.mem_cons.1 ht with rfl | ht
  ·trivial
  ·exact Z0 (b::l) (fun x U=>h x (List.mem_cons_of_mem _ U)) t ht
  ·simp
theorem Z1 {n:Nat}:∀ (l:List Nat),(∀ a∈l,a < n)→∀ t∈mA l,t.kY n
 | [],_,t,ht=>by cases ht
 | a::l,h,t,ht=>by
  rw [mA] at ht;rcases List.mem_cons.1 ht with rfl | ht
  ·trivial
  rcases List.mem_cons.1 ht with rfl | ht
  ·exact h a (by simp)
  ·exact Z1 l (fun x U=>h x (List.mem_cons_of_mem _ U)) t ht
theorem Im {n:Nat} {l:List Nat} (hn:0 < n) (h:∀ a∈l,a < n) (i:Nat):l.getD i 0 < n:=by
 rw [List.getD_eq_getElem?_getD];cases hh:l[i]? with
 | none=>exact hn
 | some a=>exact h a (List.mem_of_getElem? hh)
theorem Io {n:Nat} {v:Vl} (hn:0 < n) (h:∀ a∈v.fields,a < n):∀ t∈dK itoa v,t.kY n:=by
 intro t ht;unfold dK at ht;have one:∀ s:ByteArray,t∈[Rt.text s]→t.kY n:=fun s hs=>by
  have:t = .text s:=by simpa using hs
  subst this;trivial
 split at ht
 ·exact one _ ht
 split at ht
 ·exact one _ ht
 split at ht
 ·exact one _ ht
 split at ht
 ·rcases List.mem_cons.1 ht with rfl | ht
  ·trivial
  rcases List.mem_cons.1 ht with rfl | ht
  ·exact Im hn h 0
  ·have:t = .rest (v.fields.getD 1 0):=by simpa using ht
   subst this;exact Im hn h 1
 split at ht
 ·rcases List.mem_cons.1 ht with rfl | ht
  ·trivial
  rcases List.mem_append.1 ht with ht | ht
  ·exact Z0 _ h t ht
  ·exact one _ ht
 ·rcases List.mem_cons.1 ht with rfl | ht
  ·trivial
  ·exact Z1 _ h t ht
theorem anf {n:Nat} {v:Vl} (hn:0 < n) (h:∀ a∈v.fields,a < n):∀ t∈jd itoa v,t.kY n:=by
 intro t ht;unfold jd at ht
 split at ht
 ·exact Io hn h t ht
 split at ht
 ·exact Io hn h t ht
 ·rcases List.mem_cons.1 ht with rfl | ht
  ·trivial
  rcases List.mem_append.1 ht with ht | ht
  ·exact Io hn h t ht
  ·have:t = .text ⟨#[41]⟩:=by simpa using ht
   subst this;trivial
theorem ang {n a:Nat} {v:Vl} (hn:a < n) (h:∀ a∈v.fields,a < n):∀ t∈kF v a,t.kY n:=by
 intro t ht;have h0:0 < n:=by omega
 unfold kF at ht
 split at ht
 ·have:t = .text ⟨#[93]⟩:=by simpa using ht
  subst this;trivial
 split at ht
 ·rcases List.mem_cons.1 ht with rfl | ht
  ·trivial
  rcases List.mem_cons.1 ht with rfl | ht
  ·exact Im h0 h 0
  ·have:t = .rest (v.fields.getD 1 0):=by simpa using ht
   subst this;exact Im h0 h 1
 ·rcases List.mem_cons.1 ht with rfl | ht
  ·trivial
  rcases List.mem_cons.1 ht with rfl | ht
  ·exact hn
  ·have:t = .text ⟨#[93]⟩:=by simpa using ht
   subst this;trivial
theorem anh (v:Vl):(jd itoa v).length≤2*v.fields.length+5:=by
 have:=Il (itoa:=itoa) v;unfold jd
 split
 ·omega
 split
 ·omega
 ·simp only [List.length_cons,List.length_append,List.length_nil];omega
theorem ani (v:Vl) (a:Nat):(kF v a).length≤3:=by
 unfold kF
 split
 ·simp
 split
 ·simp
 ·simp
structure Ip (n:Nat) (v:Vl):Prop where
 Qo:v.fields.length≤8
 kY:∀ a∈v.fields,a < n
 num:v.bX=false→v.aj=⟨#[]⟩ → -4611686018427387904≤v.num∧v.num≤4611686018427387903
def uD (itoa:Int→ByteArray) (all:List Vl):Rt→List Rt
 | .text _=>[]
 | .full a=>dK itoa (all.getD a dP)
 | .arg a=>jd itoa (all.getD a dP)
 | .rest a=>kF (all.getD a dP) a
def qi:Rt→ByteArray
 | .text s=>s
 | _=>⟨#[]⟩
theorem Z2 (a:ByteArray):a++(⟨#[]⟩:ByteArray)=a:=by
 apply ByteArray.ext;simp
theorem Z3 {t:Rs} {x:Rt} (h:t.stack.getLast? = some x):t.step itoa all=⟨t.stack.dropLast++(uD itoa all x).reverse,t.out++qi x⟩:=by
 unfold Rs.step;rw [h];cases x<;>simp [uD,qi,Z2]
structure EV (n k:Nat) (t:Rs):Prop where
 kY:∀ x∈t.stack,x.kY n
 len:t.stack.length≤1+21*k
theorem Z4 {n:Nat} (hn:0 < n) (hv:∀ v∈all,Ip n v) (hl:all.length=n) {x:Rt} (U:x.kY n):(∀ y∈uD itoa all x,y.kY n)∧(uD itoa all x).length≤21:=by
 have at':∀ a,a < n→Ip n (all.getD a dP):=fun a ha=>by
  rw [List.getD_eq_getElem?_getD,List.getElem?_eq_getElem (by omega)];exact hv _ (List.getElem_mem _)
 cases x with
 | text s=>
  refine ⟨fun y hy=>?_,Nat.zero_le _⟩;have:y∈([]:List Rt):=hy;cases this
 | full a=>
  have h:=at' a U;have:=Il (itoa:=itoa) (all.getD a dP);have:=h.Qo;exact ⟨Io hn h.kY,by show (dK itoa _).length≤_;omega⟩
 | arg a=>
  have h:=at' a U;have:=anh (itoa:=itoa) (all.getD a dP);have:=h.Qo;exact ⟨anf hn h.kY,by show (jd itoa _).length≤_;omega⟩
 | rest a=>
  have h:=at' a U;have:=ani (all.getD a dP) a;exact ⟨ang U h.kY,by show (kF _ _).length≤_;omega⟩
theorem anj {n k:Nat} {t:Rs} (hn:0 < n) (hv:∀ v∈all,Ip n v) (hl:all.length=n) (h:EV n k t):EV n (k+1) (t.step itoa all):=by
 cases U:t.stack.getLast? with
 | none=>
  have:t.step itoa all=t:=by unfold Rs.step;rw [U]
  rw [this];exact ⟨h.kY,by have:=h.len;omega⟩
 | some x=>
  rw [Z3 U];obtain ⟨h1,h2⟩:=Z4 (itoa:=itoa) hn hv hl (h.kY x (List.mem_of_getLast? U));refine ⟨fun y hy=>?_,?_⟩
  ·rcases List.mem_append.1 hy with hy | hy
   ·exact h.kY y ((List.dropLast_sublist _).subset hy)
   ·exact h1 y (List.mem_reverse.1 hy)
  ·have:=h.len;simp only [List.length_append,List.length_dropLast,List.length_reverse];omega
theorem Z5:∀ (n:Nat) (t:Rs),t.steps itoa all (n+1)=(t.steps itoa all n).step itoa all
 | 0,t=>rfl
 | n+1,t=>by rw [Rs.steps,Z5 n,Rs.steps]
theorem Z6 {t:Rs} (h:t.stack=[]):∀ n,t.steps itoa all n=t
 | 0=>rfl
 | n+1=>by
  have:t.step itoa all=t:=by unfold Rs.step;rw [h];rfl
  rw [Rs.steps,this,Z6 h n]
theorem ank (hk:ic f items=true) (k:Nat) (hle:k≤items.length):∀ v∈(bg f items k).all,Ip (bg f items k).all.length v:=by
 have hp:=ZY (f:=f) (items:=items) k hle;have h:∀ k,k≤items.length→∀ v∈(bg f items k).all,v.fields.length≤8∧(v.bX=false→v.aj=⟨#[]⟩ → -4611686018427387904≤v.num∧v.num≤4611686018427387903):=by
  intro k
  induction k with
  | zero=>
   intro _ v hv;have:v=dP:=by simpa [bg,EN] using hv
   rw [this];exact ⟨Nat.zero_le _,fun h=>by cases h⟩
  | succ k ih=>
   intro eQ v hv;have U:=List.getElem?_eq_getElem (show k < items.length by omega);rw [wv U] at hv;unfold qh at hv;rcases List.mem_or_eq_of_mem_set hv with hv | rfl
   ·rcases List.mem_append.1 hv with hv | hv
    ·exact ih (by omega) v hv
    ·rw [List.eq_of_mem_replicate hv];exact ⟨Nat.zero_le _,fun h=>by cases h⟩
   ·refine ⟨?_,fun _ h0=>EB hk (List.getElem_mem _) h0⟩;show (dW f items[k] (bg f items k)).length≤8;rw [wy];unfold dz
    split
    ·exact Nat.zero_le _
    ·rename_i bj;rcases Eo hk U with h' | h'
     ·exact absurd h' bj
     ·omega
 exact fun v hv=>⟨(h k hle v hv).1,hp.2 v hv,(h k hle v hv).2⟩
end
end
section
open Go Go.W Go.RowKit
def tz:Rt→Int
 | .text _=>1
 | .full _=>2
 | .arg _=>3
 | .rest _=>4
def uE:Rt→Nat
 | .text _=>0
 | .full a=>a
 | .arg a=>a
 | .rest a=>a
theorem Z7 (t:Rt):cU t=[I (tz t),.string (qi t),I (uE t:Int)]:=by cases t<;>rfl
section
variable {w:World} {v:Value} {st:List Rt} {fp:Option Nat}
theorem Z8 {b:Nat} {cs:List Value} {x:Rt} {k:Nat} {fz:Nat×Nat} {pre post:List Value} (h:w.heap[b]? = some (.cells (pre++(cU x++post)).toArray 76 fz)) (hp:pre.length=k*3):cH w 3 (.pointer (some ⟨b,k*3,none⟩))=some (.agg #[I (tz x),.string (qi x),I (uE x:Int)]):=by
 have hc:∀ j u,(cU x)[j]? = some u→w.cell? ⟨b,k*3+j,none⟩=some u:=fun j u hu=>by
  refine (cell_of h _).trans ?_;rw [List.getElem?_toArray,List.getElem?_append_right (by omega),hp,show k*3+j - k*3=j by omega,List.getElem?_append_left (List.getElem?_eq_some_iff.1 hu).1,hu]
 rw [Z7] at hc;have h0:=hc 0 _ rfl;have h1:=hc 1 _ rfl;have h2:=hc 2 _ rfl;rw [Nat.add_zero] at h0;simp [cH,jv,Addr.add_lit,h0,h1,h2]
theorem anl {x:Rt} (h:ao w 76 3 v (st.flatMap cU) st.length fp) (U:st.getLast? = some x) :
   ∃ b c m,v = .slice (some ⟨b,0,none⟩) (m+1) c∧fp=some b∧st.length=m+1∧m+1≤c∧cH w 3 (.pointer (some ⟨b,m*3,none⟩))=some (.agg #[I (tz x),.string (qi x),I (uE x:Int)]) ∧
    ao w 76 3 (.slice (some ⟨b,0,none⟩) m c) (st.dropLast.flatMap cU) st.dropLast.length (some b)∧st.dropLast.length=m:=by
 obtain ⟨ys,rfl⟩:=List.getLast?_eq_some_iff.1 U;rw [List.dropLast_concat];rcases h.2 with ⟨_,h',_⟩ | ⟨b,c,cg,e1,e2,e3,e4,e5⟩
 ·simp at h'
 have Z9:w.heap[b]? = some (.cells (ys.flatMap cU++(cU x++cg)).toArray 76 (0,0)):=by
  rw [e3,List.flatMap_append];simp
 have hl:(ys++[x]).length=ys.length+1:=by simp
 rw [hl] at e1 e5;refine ⟨b,c,ys.length,e1,e2,hl,e5,Z8 (cs:=[]) Z9 (BQ ys),⟨BQ ys,.inr ⟨b,c,cU x++cg,rfl,rfl,Z9,?_,by omega⟩⟩,rfl⟩;have e6:(ys++[x]).flatMap cU++cg=ys.flatMap cU++(cU x++cg):=by
  rw [List.flatMap_append];simp
 rw [← e6];exact e4
theorem anm {l:List Rt} (h:ao w 76 3 v (l.flatMap cU) l.length fp) {i:Nat} (hi:i < l.length):∃ b c,v = .slice (some ⟨b,0,none⟩) l.length c∧fp=some b∧cH w 3 (.pointer (some ⟨b,i*3,none⟩))=some (.agg #[I (tz l[i]),.string (qi l[i]),I (uE l[i]:Int)]):=by
 rcases h.2 with ⟨_,h',_⟩ | ⟨b,c,cg,e1,e2,e3,e4,e5⟩
 ·omega
 refine ⟨b,c,e1,e2,Z8 (cs:=[]) (pre:=(l.take i).flatMap cU) (post:=(l.drop (i+1)).flatMap cU++cg) (fz:=(0,0)) ?_ (by rw [BQ,List.length_take];omega)⟩;rw [e3];have:l.flatMap cU=(l.take i).flatMap cU++(cU l[i]++(l.drop (i+1)).flatMap cU):=by
  rw [← List.flatMap_cons,← List.flatMap_append,← List.drop_eq_getElem_cons hi,List.take_append_drop]
 rw [this];simp
theorem Iq {Q:gI} {wz:World} {l st:List Rt} {vl va v7 vb nu:Value} {fl fs:Option Nat} (hl:ao wz 76 3 vl (l.flatMap cU) l.length fl) (hs:ao wz 76 3 nu (st.flatMap cU) st.length fs) (bj:∀ b,fl=some b→fs≠some b) (hn:st.length+l.length≤1099511627776)
   (fi:∀ kG w' fs',ao w' 76 3 kG ((st++l.reverse).flatMap cU) (st++l.reverse).length fs'→Mod (fun b=>fs=some b) wz w'→(∀ b,fs'=some b→fs=some b∨wz.heap.size≤b)→Q (.exit 3) [(6,va),(7,v7),(9,vb),(10,kG),(12,vl),(13,I (-1)),(69,.bool false)] w') :
   cM Tryz.prog 82 (.loop Oa) Q [(6,va),(7,v7),(9,vb),(10,nu),(12,vl),(13,I ((l.length:Int) - 1))] wz:=by
 have pQ:∃ a c,vl = .slice a l.length c:=by obtain ⟨a,c,e,_⟩:=hl.val;exact ⟨a,c,e⟩
 obtain ⟨al,cl,rfl⟩:=pQ
 refine dA (fun z ρ w'=>∃ (k:Nat) (nu:Value) (fs':Option Nat),z=l.length - k∧k≤l.length∧ao w' 76 3 nu ((st++l.reverse.take k).flatMap cU) (st++l.reverse.take k).length fs'∧Mod (fun b=>fs=some b) wz w'∧(∀ b,fs'=some b→fs=some b∨wz.heap.size≤b) ∧
  ρ=[(6,va),(7,v7),(9,vb),(10,nu),(12,.slice al l.length cl),(13,I ((l.length:Int) - 1 - k))]) l.length ⟨0,nu,fs,rfl,Nat.zero_le _,by simpa using hs,Mod.refl _ _,fun b h=>.inl h,by simp⟩ ?_
 rintro z ρ w2 ⟨k,ann,xG,rfl,hk,g,ae,eO,rfl⟩;unfold Oa;rcases Nat.lt_or_ge k l.length with ah | hge
 ·obtain ⟨j,hj⟩:∃ j:Nat,(l.length:Int) - 1 - k=(j:Int)∧j < l.length∧j=l.length - 1 - k:=⟨l.length - 1 - k,by omega,by omega,rfl⟩;obtain ⟨MS,HO,hj3⟩:=hj;rw [MS];have fX:=hl.mod ae bj;obtain ⟨b,c,hv,dI,ed⟩:=anm fX HO;cases hv;have e1:decide ((j:Int)≥0)=true:=by rw [decide_eq_true_eq];omega
  have e2:IntKind.i64.wrap ((j:Int) - 1)=(l.length:Int) - 1 - ((k+1:Nat):Int):=by rw [IntKind.wrap_i64];omega
  have e3:(0:Int)≤j∧(j:Int) < l.length:=by omega
  simp only [go_sem,Nat.reduceAdd,Nat.reduceEqDiff,Nat.reduceLT,Nat.reduceLeDiff,Nat.reduceMul,reduceCtorEq,↓reduceIte,e1,e3,decide_true,Int.toNat_natCast,ed];refine cd (cs:=#[I (tz l[j]),.string (qi l[j]),I (uE l[j]:Int)]) (by rfl) (by rfl) ?_;intro w3 aJ ab eP;refine φ ?_;have js:w3.heap[w2.heap.size]? = some (.cells (([l[j]]:List Rt).flatMap cU).toArray 76 (0,0)):=by
   have e:([l[j]]:List Rt).flatMap cU=[I (tz l[j]),.string (qi l[j]),I (uE l[j]:Int)]:=by simp [Z7]
   rw [e];exact aJ
  have g3:=g.mod ab (fun _ _ h=>h);refine eH (news:=([l[j]]:List Rt).flatMap cU) (m:=1) rfl g3 rfl (fun e=>by cases e) (ao.fG (n:=1) (sz:=3) js (BQ _)).rd (Ij _) rfl (by simp only [List.length_append,List.length_take,List.length_reverse];omega) (by simp only [List.length_append,List.length_take,List.length_reverse];omega) ?_;intro v4 w4 f4 gk ai gq;simp only [go_sem,Nat.reduceAdd,Nat.reduceEqDiff,Nat.reduceLT,Nat.reduceLeDiff,Nat.reduceMul,reduceCtorEq,↓reduceIte,e2];have iJ:l.reverse.take (k+1)=l.reverse.take k++[l[j]]:=by
   rw [List.take_succ_eq_append_getElem (by rw [List.length_reverse];exact ah),List.getElem_reverse];simp only [hj3]
  have du:=ab.size;refine ⟨_,?_,k+1,v4,f4,rfl,by omega,?_,?_,?_,rfl⟩
  ·omega
  ·rw [iJ,← List.append_assoc,List.flatMap_append,List.length_append];exact gk
  ·exact (ae.step ab (fun _ h=>h.elim)).step ai (fun b hb ah=>by
    rcases eO b hb with h | h
    ·exact h
    ·omega)
  ·intro b hb;rcases gq b hb with h | ⟨h,_⟩
   ·exact eO b h
   ·have:=ae.size;right;omega
 ·obtain rfl:k=l.length:=by omega
  have e0:(l.length:Int) - 1 - (l.length:Nat) = -1:=by omega
  rw [e0];have e1:decide ((-1:Int)≥0)=false:=rfl;rw [List.take_of_length_le (by rw [List.length_reverse];exact Nat.le_refl _)] at g;simp only [go_sem,Nat.reduceAdd,Nat.reduceEqDiff,Nat.reduceLT,Nat.reduceLeDiff,Nat.reduceMul,reduceCtorEq,↓reduceIte,e1];exact fi ann w2 xG g ae eO
end
end
section
open Go Go.W Go.RowKit
section
variable {w:World} {vI vS:Value} {items:List It} {au:List gF}
set_option maxHeartbeats 4000000 in
theorem ano (hI:cO w vI 2 (items.map ec) (· < w.heap.size)) (hS:cO w vS 2 (au.map fy) (· < w.heap.size)) (ht:lU w.heap.size w) (hlen:items.length≤4194304) (uw:au.length≤4294967296) (p8:gR items≤17592186044416) :
   aK Tryz.prog 13 [vI,vS] w fun r w'=>r = .tuple #[.string (qd a8 au items).1,I (qd a8 au items).2]∧Mod (fun _=>False) w w':=by
 obtain ⟨f,hf⟩:∃ f,f=eF au:=⟨_,rfl⟩;have vQ:=amQ (itoa:=a8) zG (au:=au) (items:=items);rw [← hf] at vQ;refine ajH.calls rfl ?_;unfold Ob;refine φ ?_;refine δ (by rfl) (am2 hI hS hlen uw) ?_;rintro r w1 ⟨ag,gS,Z'⟩;rw [← hf] at gS Z';cases ct:tj f items with
 | false=>
  rw [gS ct];rw [ct,if_neg (by decide)] at vQ;rw [vQ];simp only [go_sem,Nat.reduceAdd,Nat.reduceEqDiff,Nat.reduceLT,Nat.reduceLeDiff,Nat.reduceMul,reduceCtorEq,↓reduceIte,Bool.not_false]
  first | exact ⟨rfl,ag⟩ | exact ag
 | true=>
 obtain ⟨va,dp,fA,rfl,hA⟩:=Z' ct;rw [ct,if_pos rfl] at vQ;rw [vQ];have ur:=ct;unfold tj at ur;rw [Bool.and_eq_true,List.all_eq_true] at ur;have hk:=ur.1;have hp:∀ j,j < items.length→1≤kE f (items.take j):=fun j hj=>by
  have:=ur.2 j (List.mem_range.2 hj)
  rwa [decide_eq_true_eq] at this
 have hV:=yh (f:=f) (items:=items) items.length (Nat.le_refl _) hp;have kr:=hV.len;rw [List.take_length] at kr;have pQ:=ank hk items.length (Nat.le_refl _);have bE:=ZY (f:=f) (items:=items) items.length (Nat.le_refl _);obtain ⟨n,hn,Ir⟩:=amP (items:=items) zG hk hp
 have oC:=Yl (itoa:=a8) zG (fun x U h0=>by
  have:=EB hk U h0
  exact HF _ ⟨by omega,by omega⟩) hk hlen p8
 obtain ⟨all,df⟩:∃ all,all=(bg f items items.length).all:=⟨_,rfl⟩;obtain ⟨wn,hwn⟩:∃ wn,wn=(bg f items items.length).waits.length:=⟨_,rfl⟩;obtain ⟨out,qk⟩:∃ out,out=(ie a8 f items).out:=⟨_,rfl⟩;rw [← df] at hA pQ Ir;rw [← qk] at Ir oC ⊢;rw [← hwn] at kr ⊢;rw [← kr];have hN:0 < all.length:=by rw [df];exact bE.1
 obtain ⟨t0,EW⟩:∃ t0:Rs,t0=⟨[.full 0],⟨#[]⟩⟩:=⟨_,rfl⟩;rw [← EW] at Ir;obtain ⟨lo,pO⟩:∃ lo,lo=w1.heap.size:=⟨_,rfl⟩;have Sm:=ag.size;obtain ⟨g0,_,HQ,_⟩:=id ht;have fin:∀ {w':World},Mod (fun b=>lo≤b) w1 w'→Mod (fun _=>False) w w':=fun hm=>ag.step hm (fun b hb ah=>by omega)
 have Qp:∀ {w':World},Mod (fun b=>lo≤b) w1 w'→nq w.heap.size w' va all dp fA (fun _=>False):=fun hm=>hA.later hm (fun b hb hh=>by have:=hA.own.lt hb;omega) (fun b _ h1 h2=>by omega)
 have iS:∀ {w':World},Mod (fun b=>lo≤b) w1 w'→lU w.heap.size w':=fun hm=>ht.mod (mp:=0) ((ag.az (fun _ hh=>hh.elim)).trans (hm.az (fun b hb=>⟨by omega,by omega⟩)))
 simp only [go_sem,Nat.reduceAdd,Nat.reduceEqDiff,Nat.reduceLT,Nat.reduceLeDiff,Nat.reduceMul,reduceCtorEq,↓reduceIte,Bool.not_true];refine cd (cs:=(([.full 0]:List Rt).flatMap cU).toArray) (by rfl) (by rfl) ?_;intro w2 aC ae dq;refine φ ?_
 refine dA (fun z ρ w'=>∃ (k:Nat) (vb nu:Value) (fb fs:Option Nat),z=n - k∧k≤n∧EV all.length k (t0.steps a8 all k) ∧
  ao w' 76 3 nu ((t0.steps a8 all k).stack.flatMap cU) (t0.steps a8 all k).stack.length fs∧ao w' 5 1 vb (Lib.strCells (t0.steps a8 all k).out) (t0.steps a8 all k).out.size fb ∧
  (∀ b,fs=some b→lo≤b)∧(∀ b,fb=some b→lo≤b∧fs≠some b)∧Mod (fun b=>lo≤b) w1 w'∧∃ rest,ρ=(6,va)::(7,I (wn:Int))::(9,vb)::(10,nu)::rest) n
  ⟨0,_,_,none,some w1.heap.size,rfl,Nat.zero_le _,⟨fun x U=>by
   rw [EW] at U;have:x = .full 0:=by simpa [Rs.steps] using U
   subst this
   exact hN,by rw [EW];simp [Rs.steps]⟩,by rw [EW];exact ao.fG (n:=1) (sz:=3) aC rfl,by rw [EW];exact ao.nil _ _ _,(fun b hb=>by cases hb;omega),(fun b hb=>by cases hb),ae.az (fun _ hh=>hh.elim),[],rfl⟩ ?_
 rintro z ρ w3 ⟨k,vb,nu,fb,fs,rfl,hkn,EX,bN,zN,anp,zQ,ab,rest,rfl⟩;obtain ⟨t,iJ⟩:∃ t,t=t0.steps a8 all k:=⟨_,rfl⟩;rw [← iJ] at EX bN zN;have fi:(t.steps a8 all (n - k))=⟨[],out⟩:=by
  rw [iJ,← P3,show k+(n - k)=n by omega,Ir]
 have Jw:=EX.len;unfold Xl;cases hl:t.stack.getLast? with
 | none=>
  have h0:t.stack=[]:=List.getLast?_eq_none_iff.1 hl;rw [Z6 h0] at fi;have hto:t.out=out:=by rw [fi]
  rw [hto] at zN;obtain ⟨a,c,rfl,_,_⟩:=bN.val;have e1:decide ((t.stack.length:Int) > 0)=false:=by rw [h0];rfl
  simp only [go_sem,Nat.reduceAdd,Nat.reduceEqDiff,Nat.reduceLT,Nat.reduceLeDiff,Nat.reduceMul,reduceCtorEq,↓reduceIte,e1];refine anb (s:=out) rfl zN Tryz.underlying74 (by rfl) Tryz.underlying9 ?_;refine φ ?_
  first | exact ⟨rfl,fin ab⟩ | exact fin ab
 | some x=>
  have RZ:k < n:=by
   rcases Nat.lt_or_ge k n with h | h
   ·exact h
   ·have:n - k=0:=by omega
    rw [this] at fi;have h0:t.stack=[]:=by
     have:t=⟨[],out⟩:=fi;rw [this]
    rw [h0] at hl;cases hl
  obtain ⟨b,c,m,rfl,rfl,kJ,l9,ed,anq,x9⟩:=anl bN hl;have qD:=Z3 (itoa:=a8) (all:=all) hl;have anr:=Z4 (itoa:=a8) hN pQ rfl (EX.kY x (List.mem_of_getLast? hl));have fE:=anr.2;have xZ:¬ c=0:=by omega
  have e1:decide (((m+1:Nat):Int) > 0)=true:=by rw [decide_eq_true_eq];omega
  have e2:IntKind.i64.wrap (((m+1:Nat):Int) - 1)=(m:Int):=by rw [IntKind.wrap_i64];omega
  have e3:(0:Int)≤(m:Int)∧(m:Int) < ((m+1:Nat):Int):=by omega
  have e4:(m:Int)≤(c:Int):=by omega
  have ans:=anj (itoa:=a8) hN pQ rfl EX;have Qq:t0.steps a8 all (k+1)=t.step a8 all:=by rw [Z5,← iJ]
  have Qr:(t.step a8 all).out.size≤140737488355328:=by
   have h1:=ZZ (itoa:=a8) (all:=all) (n - (k+1)) (t.step a8 all);have h2:(t.step a8 all).steps a8 all (n - (k+1))=⟨[],out⟩:=by
    rw [← fi,show n - k=(n - (k+1))+1 by omega];rfl
   rw [h2] at h1;exact Nat.le_trans h1 oC
  have ua:∀ (zR:Go.W.Env) (w':World) (Is kG:Value) (Iu fs':Option Nat),ao w' 76 3 kG ((t.stack.dropLast++(uD a8 all x).reverse).flatMap cU) (t.stack.dropLast++(uD a8 all x).reverse).length fs'→ao w' 5 1 Is (Lib.strCells (t.out++qi x)) (t.out++qi x).size Iu→(∀ b,fs'=some b→lo≤b)→(∀ b,Iu=some b→lo≤b∧fs'≠some b)→Mod (fun b=>lo≤b) w1 w' →
      ∃ z',z' < n - k∧∃ (k:Nat) (vb nu:Value) (fb fs:Option Nat),z'=n - k∧k≤n∧EV all.length k (t0.steps a8 all k) ∧
  ao w' 76 3 nu ((t0.steps a8 all k).stack.flatMap cU) (t0.steps a8 all k).stack.length fs∧ao w' 5 1 vb (Lib.strCells (t0.steps a8 all k).out) (t0.steps a8 all k).out.size fb ∧
  (∀ b,fs=some b→lo≤b)∧(∀ b,fb=some b→lo≤b∧fs≠some b)∧Mod (fun b=>lo≤b) w1 w'∧∃ rest,(6,va)::(7,I (wn:Int))::(9,Is)::(10,kG)::zR=(6,va)::(7,I (wn:Int))::(9,vb)::(10,nu)::rest:=by
   intro zR w' Is kG Iu fs' q1 q2 q3 q4 q5;refine ⟨_,?_,k+1,Is,kG,Iu,fs',rfl,by omega,?_,?_,?_,q3,q4,q5,zR,rfl⟩
   ·omega
   ·rw [Qq];exact ans
   ·rw [Qq,qD];exact q1
   ·rw [Qq,qD];exact q2
  rw [qD] at Qr;have Iv:=anp b rfl;simp only [go_sem,Nat.reduceAdd,Nat.reduceEqDiff,Nat.reduceLT,Nat.reduceLeDiff,Nat.reduceMul,reduceCtorEq,↓reduceIte,e1,e2,e3,e4,xZ,decide_true,Int.toNat_natCast,ed];refine dk ?_;intro w4 oh ai eu;have sY:w4.heap[w3.heap.size]? = some (.cells [I 0,.string ⟨#[]⟩,I 0].toArray 76 (0,0)):=oh;refine cX (vs:=[I (tz x),.string (qi x),I (uE x:Int)]) rfl rfl sY rfl rfl (by intro u hu;simp only [List.mem_cons,List.not_mem_nil,or_false] at hu;rcases hu with rfl | rfl | rfl<;>rfl) ?_;intro w5 hD aB fP;have eI:Mod (fun _=>False) w3 w5:=ai.step aB (fun b hb ah=>by omega);have gX:Mod (fun b=>lo≤b) w1 w5:=ab.trans (eI.az (fun _ hh=>hh.elim));have zh:=anq.mod eI (fun _ _ h=>h);have Iw:=zN.mod eI (fun _ _ h=>h);have hbl:=zh.lt rfl;have apK:=eI.size;have ant:∀ w',ao w' 76 3 (.slice none 0 0) (([]:List Rt).flatMap cU) ([]:List Rt).length none:=fun w'=>ao.nil _ _ _
  have push:∀ (zR:Go.W.Env) (w6:World) (vl:Value) (l:List Rt),ju w5 w6 vl l→l=uD a8 all x→qi x=⟨#[]⟩→∀ (w7:World) (kG:Value) (fs':Option Nat),ao w7 76 3 kG ((t.stack.dropLast++l.reverse).flatMap cU) (t.stack.dropLast++l.reverse).length fs'→Mod (fun b'=>some b=some b') w6 w7→(∀ b',fs'=some b'→some b=some b'∨w6.heap.size≤b') →
      ∃ z',z' < n - k∧∃ (k:Nat) (vb2 nu:Value) (fb fs:Option Nat),z'=n - k∧k≤n∧EV all.length k (t0.steps a8 all k) ∧
  ao w7 76 3 nu ((t0.steps a8 all k).stack.flatMap cU) (t0.steps a8 all k).stack.length fs∧ao w7 5 1 vb2 (Lib.strCells (t0.steps a8 all k).out) (t0.steps a8 all k).out.size fb ∧
  (∀ b,fs=some b→lo≤b)∧(∀ b,fb=some b→lo≤b∧fs≠some b)∧Mod (fun b=>lo≤b) w1 w7∧∃ rest,(6,va)::(7,I (wn:Int))::(9,vb)::(10,kG)::zR=(6,va)::(7,I (wn:Int))::(9,vb2)::(10,nu)::rest:=by
   rintro zR w6 vl l ⟨fl,p1,p2,p3⟩ rfl anu w7 kG fs' q1 q2 q3;have s6:=p3.size;have s15:=gX.size;refine ua zR w7 vb kG fb fs' q1 ?_ (fun b' cj=>?_) (fun b' cj=>⟨(zQ b' cj).1,fun hh=>?_⟩) (gX.trans (p3.az (fun _ hh=>hh.elim)) |>.trans (q2.az (fun b' cj=>by cases cj;exact Iv)))
   ·rw [anu,Z2];exact (Iw.mod p3 (fun _ _ h=>h)).mod q2 (fun b' cj hh=>(zQ b' cj).2 hh)
   ·rcases q3 b' cj with h | h
    ·cases h;exact Iv
    ·omega
   ·rcases q3 b' hh with h | h
    ·exact (zQ b' cj).2 h
    ·have:=Iw.lt cj;omega
  have Qs:∀ a,a < all.length→∃ v,all[a]? = some v∧all.getD a dP=v∧v.fields.length≤65536∧(v.bX=false→v.aj=⟨#[]⟩ → -9223372036854775808≤v.num∧v.num≤9223372036854775807):=fun a ha=>by
   have hv:=List.getElem?_eq_getElem ha;have ho:=pQ _ (List.getElem_mem ha);refine ⟨_,hv,by rw [List.getD_eq_getElem?_getD,hv];rfl,by have:=ho.Qo;omega,fun h1 h2=>?_⟩;have:=ho.num h1 h2;omega
  have Pa:((2:Int) == 1)=false:=rfl;have O':((3:Int) == 1)=false:=rfl;have b14:((4:Int) == 1)=false:=rfl;have Pb:((3:Int) == 2)=false:=rfl;have b24:((4:Int) == 2)=false:=rfl;have b34:((4:Int) == 3)=false:=rfl;have b11:((1:Int) == 1)=true:=rfl;have Pc:((2:Int) == 2)=true:=rfl;have Pd:((3:Int) == 3)=true:=rfl;have b44:((4:Int) == 4)=true:=rfl;have Qt:=EX.kY x (List.mem_of_getLast? hl);cases x with
  | text s=>
   simp only [go_sem,Nat.reduceAdd,Nat.reduceEqDiff,Nat.reduceLT,Nat.reduceLeDiff,Nat.reduceMul,reduceCtorEq,↓reduceIte,cell_of hD,tz,qi,e4,xZ,Option.map_some,Nat.sub_zero,b11];obtain ⟨i,hi,hz,cL,ax⟩:∃ i,Tryz.prog.info? 5=some i∧i.zero=some (.int .u8 0)∧i.size=1∧i.bytes=1:=⟨_,rfl,rfl,rfl,rfl⟩;rw [fC] at Qr;refine XF rfl Iw rfl Tryz.underlying74 Tryz.underlying9 hi hz cL ax Qr ?_;intro vb6 w6 fb6 gK aD iu;refine φ ?_;rw [show IntKind.i64.wrap (((0:Nat):Int) - 1)=(([]:List Rt).length:Int) - 1 from by rw [IntKind.wrap_i64];rfl];have anv:=zh.mod aD (fun b' h hh=>(zQ b' hh).2 h);have s6:=aD.size;refine Iq (l:=[]) (fl:=none) (ant w6) anv (fun _ h=>by cases h) (by simp only [List.length_nil];omega) ?_;intro kG w7 fs' q1 q2 q3;refine φ ?_;have cN:∀ b',fb6=some b'→lo≤b'∧some b≠some b'∧b' < w6.heap.size:=fun b' cj=>by
    rcases iu b' cj with h | ⟨h,h2⟩
    ·have:=Iw.lt h;exact ⟨(zQ b' h).1,(zQ b' h).2,by omega⟩
    ·have:=gX.size;exact ⟨by omega,fun e=>by cases e;omega,h2⟩
   refine ua _ w7 vb6 kG fb6 fs' q1 ?_ (fun b' cj=>?_) (fun b' cj=>⟨(cN b' cj).1,fun hh=>?_⟩) ((gX.trans (aD.az (fun b' cj=>(zQ b' cj).1))).trans (q2.az (fun b' cj=>by cases cj;exact Iv)))
   ·have:=gK.mod q2 (fun b' cj hh=>(cN b' cj).2.1 hh);rw [← XP,← fC] at this;exact this
   ·rcases q3 b' cj with h | h
    ·cases h;exact Iv
    ·have:=gX.size;omega
   ·rcases q3 b' hh with h | h
    ·exact (cN b' cj).2.1 h
    ·have:=(cN b' cj).2.2;omega
  | full a=>
   obtain ⟨v,hv,px,xr,Ix⟩:=Qs a Qt;simp only [go_sem,Nat.reduceAdd,Nat.reduceEqDiff,Nat.reduceLT,Nat.reduceLeDiff,Nat.reduceMul,reduceCtorEq,↓reduceIte,cell_of hD,tz,uE,e4,xZ,Option.map_some,Nat.sub_zero,Pa,Pc];refine δ (by rfl) (ZV (Qp gX) hv (iS gX) xr Ix) ?_;rintro vl w6 g6;have tT:dK a8 v=uD a8 all (.full a):=by rw [← px];rfl
   rw [← tT] at fE;obtain ⟨fl,p1,p2,p3⟩:=id g6;obtain ⟨al,cl,e,_,_⟩:=p1.val;subst e;have EY:IntKind.i64.wrap (((dK a8 v).length:Int) - 1)=((dK a8 v).length:Int) - 1:=by rw [IntKind.wrap_i64];omega
   simp only [go_sem,Nat.reduceAdd,Nat.reduceEqDiff,Nat.reduceLT,Nat.reduceLeDiff,Nat.reduceMul,reduceCtorEq,↓reduceIte,EY];refine Iq (l:=dK a8 v) (fl:=fl) p1 (zh.mod p3 (fun _ _ h=>h)) (fun b' cj hh=>by cases hh;have:=p2 b cj;omega) (by omega) ?_;intro kG w7 fs' q1 q2 q3;refine φ ?_;exact push _ w6 _ _ g6 tT rfl w7 kG fs' q1 q2 q3
  | arg a=>
   obtain ⟨v,hv,px,xr,Ix⟩:=Qs a Qt;simp only [go_sem,Nat.reduceAdd,Nat.reduceEqDiff,Nat.reduceLT,Nat.reduceLeDiff,Nat.reduceMul,reduceCtorEq,↓reduceIte,cell_of hD,tz,uE,e4,xZ,Option.map_some,Nat.sub_zero,O',Pb,Pd];refine δ (by rfl) (am' (Qp gX) (fun _ h=>h.elim) hv (iS gX) xr Ix) ?_;rintro vl w6 g6;have tT:jd a8 v=uD a8 all (.arg a):=by rw [← px];rfl
   rw [← tT] at fE;obtain ⟨fl,p1,p2,p3⟩:=id g6;obtain ⟨al,cl,e,_,_⟩:=p1.val;subst e;have EY:IntKind.i64.wrap (((jd a8 v).length:Int) - 1)=((jd a8 v).length:Int) - 1:=by rw [IntKind.wrap_i64];omega
   simp only [go_sem,Nat.reduceAdd,Nat.reduceEqDiff,Nat.reduceLT,Nat.reduceLeDiff,Nat.reduceMul,reduceCtorEq,↓reduceIte,EY];refine Iq (l:=jd a8 v) (fl:=fl) p1 (zh.mod p3 (fun _ _ h=>h)) (fun b' cj hh=>by cases hh;have:=p2 b cj;omega) (by omega) ?_;intro kG w7 fs' q1 q2 q3;refine φ ?_;exact push _ w6 _ _ g6 tT rfl w7 kG fs' q1 q2 q3
  | rest a=>
   obtain ⟨v,hv,px,xr,Ix⟩:=Qs a Qt;simp only [go_sem,Nat.reduceAdd,Nat.reduceEqDiff,Nat.reduceLT,Nat.reduceLeDiff,Nat.reduceMul,reduceCtorEq,↓reduceIte,cell_of hD,tz,uE,e4,xZ,Option.map_some,Nat.sub_zero,b14,b24,b34,b44];refine δ (by rfl) (am8 (Qp gX) hv) ?_;rintro vl w6 g6;have tT:kF v a=uD a8 all (.rest a):=by rw [← px];rfl
   rw [← tT] at fE;obtain ⟨fl,p1,p2,p3⟩:=id g6;obtain ⟨al,cl,e,_,_⟩:=p1.val;subst e;have EY:IntKind.i64.wrap (((kF v a).length:Int) - 1)=((kF v a).length:Int) - 1:=by rw [IntKind.wrap_i64];omega
   simp only [go_sem,Nat.reduceAdd,Nat.reduceEqDiff,Nat.reduceLT,Nat.reduceLeDiff,Nat.reduceMul,reduceCtorEq,↓reduceIte,EY];refine Iq (l:=kF v a) (fl:=fl) p1 (zh.mod p3 (fun _ _ h=>h)) (fun b' cj hh=>by cases hh;have:=p2 b cj;omega) (by omega) ?_;intro kG w7 fs' q1 q2 q3;refine φ ?_;exact push _ w6 _ _ g6 tT rfl w7 kG fs' q1 q2 q3
end
end
end Go.Proofs.YtnjobkbblhaliaaGreatDoor
section
namespace Go.W
open Go
section
variable {P:Program} {w:World} {ρ:Env} {K:Value→World→Prop}
theorem aaa {el sz bytes:Nat} {zero:Array Value} {l c:O} {k k':IntKind} {n:Nat} (hl:l.ev ρ=some (.int k 0)) (hc:c.ev ρ=some (.int k' (n:Int))) (hb:bytes*n≤281474976710656) (rz:n≤9223372036854775807)
   (hk:∀ v w',ao w' el sz v [] 0 (some w.heap.size)→Mod (fun _=>False) w w'→w'.heap.size=w.heap.size+1→K v w'):E.wp P w ρ K (.ms el sz bytes zero l c):=by
 refine ⟨k,k',0,n,hl,hc,by omega,by omega,(by have h:=Int.ofNat_le.2 hb;rw [Int.natCast_mul] at h;exact h),(by have h:=Int.ofNat_le.2 rz;exact h),?_⟩;refine hk _ _ ⟨by simp,.inr ⟨w.heap.size,n,(madeCells zero (n*sz)).toList,by simp,rfl,?_,?_,by omega⟩⟩ (pA _ w _) (by simp)
 ·rw [heap_alloc_new w];simp
 ·simp [size_madeCells]
theorem ao.pre {T sz n k c:Nat} {a:Option Addr} {xs ys:List Value} {fp:Option Nat} (h:ao w T sz (.slice a n c) (xs++ys) n fp) (U:xs.length=k*sz) (hk:k≤n):ao w T sz (.slice a k c) xs k fp:=by
 rcases h.2 with ⟨e,h0,hf⟩ | ⟨b,c',cg,e,hf,h3,h4,h5⟩
 ·cases e;have:k=0:=by omega
  subst this;exact ⟨U,.inl ⟨rfl,rfl,hf⟩⟩
 ·cases e;exact ⟨U,.inr ⟨b,c,ys++cg,rfl,hf,by rw [h3,List.append_assoc],by rw [← List.append_assoc];exact h4,by omega⟩⟩
end
end Go.W
namespace Go.Proofs.YtnjobkbblhaliaaGreatDoor
open Go Go.W Go.RowKit
abbrev BS:ByteArray:=⟨#[98,101,104,105,110,100]⟩
theorem aab (l:List It):((l.map ec).flatMap id).length=l.length*2:=by
 induction l with
 | nil=>rfl
 | cons x l ih=>rw [List.map_cons,List.flatMap_cons,List.length_append,ih,List.length_cons];show 2+_=_;omega
theorem aac (l:List gF):((l.map fy).flatMap id).length=l.length*2:=by
 induction l with
 | nil=>rfl
 | cons x l ih=>rw [List.map_cons,List.flatMap_cons,List.length_append,ih,List.length_cons];show 2+_=_;omega
theorem anw (l:List It):∀ u∈(l.map ec).flatMap id,u.oneCell'=true:=by
 intro u hu;obtain ⟨r,hr,hu⟩:=List.mem_flatMap.1 hu;obtain ⟨x,_,rfl⟩:=List.mem_map.1 hr;simp only [id,ec,List.mem_cons,List.not_mem_nil,or_false] at hu;rcases hu with rfl | rfl<;>rfl
theorem anx (l:List gF):∀ u∈(l.map fy).flatMap id,u.oneCell'=true:=by
 intro u hu;obtain ⟨r,hr,hu⟩:=List.mem_flatMap.1 hu;obtain ⟨x,_,rfl⟩:=List.mem_map.1 hr;simp only [id,fy,List.mem_cons,List.not_mem_nil,or_false] at hu;rcases hu with rfl | rfl<;>rfl
theorem aad {w:World} {T n c b:Nat} {xs:List Value} {fp:Option Nat} {v0 v1:Value} (h:ao w T 2 (.slice (some ⟨b,0,none⟩) (n+1) c) (xs++[v0,v1]) (n+1) fp) (U:xs.length=n*2):w.cell? ⟨b,n*2,none⟩=some v0:=by
 rcases h.2 with ⟨e,_,_⟩ | ⟨b',c',cg,e,_,h3,_,_⟩
 ·cases e
 ·cases e;refine (cell_of h3 _).trans ?_;rw [List.getElem?_toArray,List.append_assoc,List.getElem?_append_right (by omega),U,Nat.sub_self];rfl
theorem aae {w:World} {v:Value} {au:List gF} {B:Nat→Prop} (h:cO w v 2 (au.map fy) B) {k:Nat} {x:gF} (U:au[k]? = some x):∃ ad c,v = .slice (some ad) au.length c∧cH w 2 (.pointer (some (ad.add (k*2))))=some (.agg #[.string x.name,I x.fields]):=by
 obtain ⟨ad,c,h1,h2,h3⟩:=Pg h U;exact ⟨ad,c,h1,sJ (by rw [Addr.add_zero'];exact h2) h3⟩
set_option maxHeartbeats 4000000 in
theorem anz {w:World} {vI vS:Value} {items:List It} {au:List gF} (hI:cO w vI 2 (items.map ec) (· < w.heap.size)) (hS:cO w vS 2 (au.map fy) (· < w.heap.size)) (ht:lU w.heap.size w) (hlen:items.length≤4194304) (uw:au.length≤4294967296) (p8:gR items≤17592186044416) :
   aK Tryz.prog 4 [vI,vS] w fun r w'=>r = .bool true∧Mod (fun _=>False) w w':=by
 obtain ⟨aI,cI,e1⟩:∃ a c,vI = .slice a items.length c:=by
  obtain ⟨a,c,h,_⟩:=hI;exact ⟨a,c,by simpa using h⟩
 obtain ⟨aS,cS,e2⟩:∃ a c,vS = .slice a au.length c:=by
  obtain ⟨a,c,h,_⟩:=hS;exact ⟨a,c,by simpa using h⟩
 subst e1 e2;have up:∀ {w':World} {v:Value} {rows:List (List Value)},Mod (fun _=>False) w w'→cO w v 2 rows (· < w.heap.size)→cO w' v 2 rows (· < w'.heap.size):=fun hm h=>h.mod hm (fun _ _ h=>h) (fun b hb=>by have:=hm.size;omega)
 obtain ⟨txt,Qu⟩:∃ t,t=(qd a8 au items).1:=⟨_,rfl⟩;obtain ⟨bX,HH⟩:∃ t,t=(qd a8 au items).2:=⟨_,rfl⟩;refine ajE.calls rfl ?_;unfold N8;refine φ ?_;refine δ (by rfl) (amz ht) ?_;rintro _ w1 ⟨rfl,ag⟩;refine φ ?_;refine δ (by rfl) (ano (up ag hI) (up ag hS) (EM ht ag) hlen uw p8) ?_;rintro _ w2 ⟨rfl,ae⟩;rw [← Qu,← HH];have cq:=ag.trans ae;have n1:IntKind.i64.wrap ((items.length:Int)+1)=((items.length+1:Nat):Int):=by rw [IntKind.wrap_i64];omega
 have n2:IntKind.i64.wrap ((au.length:Int)+1)=((au.length+1:Nat):Int):=by rw [IntKind.wrap_i64];omega
 simp only [go_sem,Nat.reduceAdd,Nat.reduceEqDiff,Nat.reduceLT,Nat.reduceLeDiff,Nat.reduceMul,reduceCtorEq,↓reduceIte,n1];refine aaa (n:=items.length+1) rfl rfl (by omega) (by omega) ?_;intro v3 w3 me ab eP;have dy:=cq.trans ab;obtain ⟨_,rd,fE⟩:=Ev (up dy hI) (by decide);refine eH (m:=items.length) rfl me rfl fE rd (anw items) rfl (by omega) (by omega) ?_;intro v4 w4 f4 gk ai gq;have eh:=dy.step ai (fun b hb ah=>by cases hb;have:=cq.size;omega);refine φ ?_;refine cd (by rfl) (by rfl) ?_;intro w5 bZ aB fP;have dH:=eh.trans aB;have Cw:w5.heap[w4.heap.size]? = some (.cells [.string BS,I 0].toArray 42 (0,0)):=bZ;refine eH (news:=[.string BS,I 0]) (m:=1) rfl (gk.mod aB (fun _ _ h=>h)) rfl (fun e=>by cases e) (ao.fG (n:=1) (sz:=2) Cw rfl).rd (by intro u hu;simp only [List.mem_cons,List.not_mem_nil,or_false] at hu;rcases hu with rfl | rfl<;>rfl) rfl (by omega) (by omega) ?_;intro v6 w6 f6 gK aD iu;have g6:∀ b,f6=some b→w.heap.size≤b∧b < w6.heap.size:=fun b hb=>by
  have h1:=gK.lt hb;refine ⟨?_,h1⟩;have:=cq.size;have:=ab.size;have:=ai.size;have:=aB.size;rcases iu b hb with h | ⟨h,_⟩
  ·rcases gq b h with h | ⟨h,_⟩
   ·cases h;omega
   ·omega
  ·omega
 have gE:=dH.step aD (fun b hb ah=>by
  have:=cq.size;have:=ab.size;rcases gq b hb with h | ⟨h,_⟩
  ·cases h;omega
  ·omega)
 simp only [go_sem,Nat.reduceAdd,Nat.reduceEqDiff,Nat.reduceLT,Nat.reduceLeDiff,Nat.reduceMul,reduceCtorEq,↓reduceIte,n2];refine aaa (n:=au.length+1) rfl rfl (by omega) (by omega) ?_;intro v7 w7 qE aX mN;have jV:=gE.trans aX;obtain ⟨_,rd2,aaf⟩:=Ev (up jV hS) (by decide);refine eH (m:=au.length) rfl qE rfl aaf rd2 (anx au) rfl (by omega) (by omega) ?_;intro v8 w8 f8 HU ch HV;have tX:Mod (fun _=>False) w6 w8:=aX.step ch (fun b hb ah=>by cases hb;omega);have Ej:=gE.trans tX;refine φ ?_;refine cd (by rfl) (by rfl) ?_;intro w9 lH dO CO;have su:=tX.trans dO;have aag:w9.heap[w8.heap.size]? = some (.cells [.string BS,I 0].toArray 47 (0,0)):=lH;refine eH (news:=[.string BS,I 0]) (m:=1) rfl (HU.mod dO (fun _ _ h=>h)) rfl (fun e=>by cases e) (ao.fG (n:=1) (sz:=2) aag rfl).rd (by intro u hu;simp only [List.mem_cons,List.not_mem_nil,or_false] at hu;rcases hu with rfl | rfl<;>rfl) rfl (by omega) (by omega) ?_;intro va wa fa BT ko hfa;have Qv:∀ b,f8=some b→w6.heap.size≤b:=fun b hb=>by
  rcases HV b hb with h | ⟨h,_⟩
  ·cases h;omega
  ·omega
 have aah:Mod (fun _=>False) w6 wa:=su.step ko (fun b hb ah=>by have:=Qv b hb;omega);have BU:=gE.trans aah;have s06:=gE.size;have ga:∀ b,fa=some b→w.heap.size≤b∧b < wa.heap.size:=fun b hb=>by
  refine ⟨?_,BT.lt hb⟩;have:=tX.size;have:=dO.size;rcases hfa b hb with h | ⟨h,_⟩
  ·have:=Qv b h;omega
  ·omega
 have EZ:=gK.mod aah (fun _ _ h=>h);clear me gk qE HU gq iu HV hfa Qv bZ Cw lH aag rd rd2 fE aaf gK;simp only [Nat.zero_add,List.nil_append] at EZ BT;obtain ⟨bR,cR,eR,efR,hcR⟩:∃ b c,v6 = .slice (some ⟨b,0,none⟩) (items.length+1) c∧f6=some b∧items.length+1≤c:=by
  rcases EZ.2 with ⟨_,h,_⟩ | ⟨b,c,_,h1,h2,_,_,h5⟩
  ·omega
  ·exact ⟨b,c,h1,h2,h5⟩
 obtain ⟨bS,wo,eS,efS,hcS⟩:∃ b c,va = .slice (some ⟨b,0,none⟩) (au.length+1) c∧fa=some b∧au.length+1≤c:=by
  rcases BT.2 with ⟨_,h,_⟩ | ⟨b,c,_,h1,h2,_,_,h5⟩
  ·omega
  ·exact ⟨b,c,h1,h2,h5⟩
 subst eR eS efR efS;have hR:cO wa (.slice (some ⟨bR,0,none⟩) items.length cR) 2 (items.map ec) (· < wa.heap.size):=
  (sV (rows:=items.map ec) (by rw [List.length_map];exact EZ.pre (aab items) (by omega)) (fun r hr=>by obtain ⟨x,_,rfl⟩:=List.mem_map.1 hr;rfl)).mod (Mod.refl (fun _=>False) wa) (fun _ _ h=>h) (fun b hb=>by cases hb;exact EZ.lt rfl)
 have hT:cO wa (.slice (some ⟨bS,0,none⟩) au.length wo) 2 (au.map fy) (· < wa.heap.size):=
  (sV (rows:=au.map fy) (by rw [List.length_map];exact BT.pre (aac au) (by omega)) (fun r hr=>by obtain ⟨x,_,rfl⟩:=List.mem_map.1 hr;rfl)).mod (Mod.refl (fun _=>False) wa) (fun _ _ h=>h) (fun b hb=>by cases hb;exact BT.lt rfl)
 have BV:∀ {w':World} {v:Value} {rows:List (List Value)},Mod (fun _=>False) wa w'→cO wa v 2 rows (· < wa.heap.size)→cO w' v 2 rows (· < w'.heap.size):=fun hm h=>h.mod hm (fun _ _ h=>h) (fun b hb=>by have:=hm.size;omega)
 have hta:=EM ht BU;have c1:¬ cR=0:=by omega
 have c2:¬ wo=0:=by omega
 have c3:(items.length:Int)≤(cR:Int):=by omega
 have c4:(au.length:Int)≤(wo:Int):=by omega
 have c5:(0:Int)≤(items.length:Int):=by omega
 have c6:(0:Int)≤(au.length:Int):=by omega
 simp only [go_sem,Nat.reduceAdd,Nat.reduceEqDiff,Nat.reduceLT,Nat.reduceLeDiff,Nat.reduceMul,reduceCtorEq,↓reduceIte,c1,c2,c3,c4,c5,c6,Option.map_some,Nat.sub_zero,Int.toNat_natCast];refine aq (by rfl) ?_;have Iy:Mod (fun _=>False) wa wa.drew:=(Mod.refl _ _).drew;refine (Ph (w:=wa.drew) (BV Iy hR) (BV Iy hT) (EM ht (BU.trans Iy)) hlen uw p8).mono ?_;rintro _ wb ⟨rfl,EU⟩;rw [← Qu,← HH];have anA:=Iy.trans EU;simp only [go_sem,Nat.reduceAdd,Nat.reduceEqDiff,Nat.reduceLT,Nat.reduceLeDiff,Nat.reduceMul,reduceCtorEq,↓reduceIte,c1,c2,c3,c4,c5,c6,Option.map_some,Nat.sub_zero,Int.toNat_natCast];refine aq (by rfl) ?_;have Iz:Mod (fun _=>False) wa wb.drew:=anA.drew;refine (Ph (w:=wb.drew) (BV Iz hR) (BV Iz hT) (EM ht (BU.trans Iz)) hlen uw p8).mono ?_;rintro _ wc ⟨rfl,l9⟩;rw [← Qu,← HH];have Qw:=Iz.trans l9;simp only [go_sem,Nat.reduceAdd,Nat.reduceEqDiff,Nat.reduceLT,Nat.reduceLeDiff,Nat.reduceMul,reduceCtorEq,↓reduceIte,c1,c2,c3,c4,c5,c6,Option.map_some,Nat.sub_zero,Int.toNat_natCast];refine δ (by rfl) (ana (BV Qw hR) (up (BU.trans Qw) hI) (by omega)) ?_;rintro _ wd ⟨rfl,CM⟩;have Qx:=Qw.trans CM;have k1:=Qx.cell (aad EZ (aab items)) (fun h=>h);have k2:=Qx.cell (aad BT (aac au)) (fun h=>h);have i1:(0:Int)≤(items.length:Int)∧(items.length:Int) < ((items.length+1:Nat):Int):=by omega
 have i2:(0:Int)≤(au.length:Int)∧(au.length:Int) < ((au.length+1:Nat):Int):=by omega
 have q1:decide (BS=BS)=true:=by simp
 simp only [go_sem,Nat.reduceAdd,Nat.reduceEqDiff,Nat.reduceLT,Nat.reduceLeDiff,Nat.reduceMul,reduceCtorEq,↓reduceIte,c5,c6,i1,i2,k1,k2,Int.toNat_natCast,ig,kU,decide_true,beq_self_eq_true,Bool.not_true,bne_self_eq_false];refine dA (fun z ρ w'=>∃ i:Nat,z=au.length - i∧i≤au.length∧Mod (fun _=>False) wa w'∧ρ=[(1,.slice aS au.length cS),(9,.slice (some ⟨bS,0,none⟩) (au.length+1) wo),(15,I i)]) au.length ⟨0,rfl,Nat.zero_le _,Qx,rfl⟩ ?_;rintro z ρ we ⟨i,rfl,hi,IA,rfl⟩;unfold Xk;rcases Nat.lt_or_ge i au.length with ah | hge
 ·obtain ⟨x,U⟩:∃ x,au[i]? = some x:=⟨_,List.getElem?_eq_getElem ah⟩;obtain ⟨ad,c,ox,p1⟩:=aae (up (BU.trans IA) hS) U;obtain ⟨nE,c',Qm,p2⟩:=aae (BV IA hT) U;cases ox;cases Qm;have e1:decide ((i:Int) < au.length)=true:=by rw [decide_eq_true_eq];omega
  have e2:IntKind.i64.wrap ((i:Int)+1)=((i+1:Nat):Int):=by rw [IntKind.wrap_i64];omega
  have e3:(0:Int)≤i∧(i:Int) < au.length:=by omega
  have e4:(0:Int)≤i∧(i:Int) < ((au.length+1:Nat):Int):=by omega
  have HZ:cH we.drew 2 (.pointer (some (ad.add (i*2))))=some (.agg #[.string x.name,I x.fields]):=p1;have p2':cH we.drew 2 (.pointer (some ⟨bS,i*2,none⟩))=some (.agg #[.string x.name,I x.fields]):=by
   rw [dB,Nat.zero_add] at p2;exact p2
  simp only [go_sem,Nat.reduceAdd,Nat.reduceEqDiff,Nat.reduceLT,Nat.reduceLeDiff,Nat.reduceMul,reduceCtorEq,↓reduceIte,e1,e3,e4,decide_true,Int.toNat_natCast,p1,p2,HZ,p2',ig,kU,beq_self_eq_true,Bool.not_true,e2];exact ⟨_,by omega,i+1,rfl,by omega,IA.drew,rfl⟩
 ·obtain rfl:i=au.length:=by omega
  have e1:decide (((au.length:Nat):Int) < au.length)=false:=by simp
  simp only [go_sem,Nat.reduceAdd,Nat.reduceEqDiff,Nat.reduceLT,Nat.reduceLeDiff,Nat.reduceMul,reduceCtorEq,↓reduceIte,e1];exact BU.trans IA
end Go.Proofs.YtnjobkbblhaliaaGreatDoor
end
namespace Go.Proofs.YtnjobkbblhaliaaGreatDoor
section
open Go Go.W Go.ChangeShapes Go.WideShapes Go.ChangeAt Go.RowKit Go.Deep
abbrev Qy:Array Value:=#[.slice none 0 0,.slice none 0 0]
theorem anB (os:Os) {H:Type} (enc:TypeId×Value→H):∃ places,DataW.whole enc Tryz.prog ((World.laidAll Tryz.prog os zJ).forCall (fun _ _=>0) ⟨#[],Qy,[]⟩).memory Tryz.f4.params.toList Rows.streamShowsSpec.vars false Qy.toList 8=some ([.nil,.nil],[],places):=
 ⟨[],by kernel_rfl⟩
theorem anC (os:Os) (started:os.Started) (H:Type) (enc:TypeId×Value→H) (F:Stop.Interp) :
   ReturnsInHanded {} Tryz.checked os 4 .any ((Rows.OpenSpec.upto Rows.streamShowsSpec).preRow enc Tryz.prog Tryz.f4 [] false zJ) (((Rows.OpenSpec.upto Rows.streamShowsSpec).at F).post enc Tryz.prog Tryz.f4 false true false false):=by
 obtain ⟨places,U⟩:=anB os enc;refine amG (C:=Tryz.checked) Tryz.own started (by kernel_rfl) Tryz.func4
  (witness_row_at (enc:=enc) (C:=Tryz.checked) false (World.laidAll Tryz.prog os zJ) Qy (World.laidAll_os _ _ _) (by kernel_rfl) (by kernel_rfl) (by kernel_rfl)
   (OpenSpec.preRow_of_cond 8 U (by kernel_rfl) (fun k hk=>by cases hk;kernel_rfl) (by kernel_rfl) (amE os _)))
  Tryz.laidOut (by kernel_rfl) (tb:=4) (by kernel_rfl) Tryz.underlying4 rfl ?_ ?_
 ·intro ds hd;rw [Tryz.params4] at hd
  match ds,hd with
  | [_,_],_=>rfl
 ·intro W args ds h hk hl;rw [Tryz.params4] at h;obtain ⟨v1,items,apL,_,_,rfl,rfl,hI,dQ,lY,h1,eQ⟩:=amC h hk;obtain ⟨v2,au,apM,_,_,rfl,rfl,hS,uw,h2,_⟩:=amD h1 eQ;obtain ⟨rfl,rfl⟩:=amB h2;exact anz hI hS (amF hl) (by omega) (by omega) (by omega)
theorem anD:Rows.StreamShowsUptoSaid:=
 OpenClaim.holds_of_cond 4 Tryz.f4 rfl rfl rfl rfl rfl rfl rfl ⟨rfl,rfl,rfl,rfl,rfl⟩ rfl rfl rfl rfl rfl (by kernel_rfl) Tryz.func4 (by kernel_rfl)
  (of_decide_eq_true (by kernel_rfl)) (by unfold Func.isWrapper;first | (rw [if_pos (by decide +kernel)];kernel_rfl) | (rw [if_neg (by decide +kernel)];exact ⟨rfl,rfl⟩))
  (fun os started H enc _ F=>by rw [OpenClaim.pre_eq_preRow];exact anC os started H enc F)
theorem anE (f:FuncId) (fn:Func) (hf:Tryz.pinned.checked.prog.funcNamed "sloth/slothlaw23.StreamShows" = some f) (oD:Tryz.pinned.checked.prog.funcs[f]? = some fn) :
   false=Tryz.pinned.checked.prog.looks []∧∀ (j:Nat) t,fn.params[j]? = some t→Tryz.pinned.checked.prog.wantsStandIn t=false:=by
 obtain rfl:f=4:=Option.some.inj ((show Tryz.prog.funcNamed "sloth/slothlaw23.StreamShows" = some 4 by kernel_rfl).symm.trans hf) |>.symm;obtain rfl:fn=Tryz.f4:=(Option.some.inj (Tryz.func4.symm.trans oD)).symm;refine ⟨by kernel_rfl,fun j t ht=>?_⟩;rw [Tryz.params4] at ht;have hm:t∈[32,22]:=by simpa using Array.mem_of_getElem? ht
 have df:([32,22].all fun u=>!Tryz.prog.wantsStandIn u)=true:=by kernel_rfl
 exact (show Tryz.prog.wantsStandIn t=false by simpa using List.all_eq_true.1 df t hm)
theorem streamShows_holds:Rows.StreamShowsUptoCardSaid:=
 Claim7.holds_tied_plain_at .later [] _ _ _ _ anD (fun _ h=>by cases h) (by kernel_rfl) (fun _ h=>by cases h) streamShowsUpto_row_tie rfl ⟨rfl,rfl⟩ (by kernel_rfl) rfl anE (by kernel_rfl)
#print axioms streamShows_holds
end
end Go.Proofs.YtnjobkbblhaliaaGreatDoor