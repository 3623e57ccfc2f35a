/- Texts that the last file stands on: W14, K6, K7, K8, K9, SQ5, K10, K11, K12, M30, M31, M20, M19, M21, M22, M23, M24, Q15, M25, Q17, K13, K14, K15, V1, SQ4. -/
import Derived.Test.YtnjobkbblhaliaaGreatDoorZTE
import Derived.Test.YtnjobkbblhaliaaGreatDoorZTA
import Derived.Lib.ItoaLen
import Derived.Test.YtnjobkbblhaliaaGreatDoorZTD
import Derived.Test.YtnjobkbblhaliaaGreatDoorCards
import Derived.Test.YtnjobkbblhaliaaGreatDoorTie
import Derived.Deep.DeepHandedRow
import Derived.Deep.CondSized
import Derived.Lay
import Derived.MakeChecks
import Derived.LaidSub
set_option linter.unusedSimpArgs false
set_option linter.unusedVariables false
set_option maxRecDepth 100000
namespace Go.W
section
open Go
def cO (w:World) (v:Value) (sz:Nat) (rows:List (List Value)) (B:Nat→Prop):Prop:=
 ∃ a c,v = .slice a rows.length c∧(0 < rows.length→∀ ad,a=some ad→B ad.block)∧∀ i (h:i < rows.length),∃ ad,a=some ad∧rows[i].length=sz∧∀ k (hk:k < rows[i].length),w.cell? ((ad.add (i*sz)).add k)=some rows[i][k]
theorem cO.mod {w w':World} {v:Value} {sz:Nat} {rows:List (List Value)} {B B' S:Nat→Prop} (h:cO w v sz rows B) (hm:Mod S w w') (hd:∀ b,B b→¬ S b) (hB:∀ b,B b→B' b):cO w' v sz rows B':=by
 obtain ⟨a,c,rfl,hb,h⟩:=h;refine ⟨a,c,rfl,fun h0 ad h=>hB _ (hb h0 ad h),fun i hi=>?_⟩;obtain ⟨ad,rfl,hl,hc⟩:=h i hi;refine ⟨ad,rfl,hl,fun k hk=>hm.cell (hc k hk) ?_⟩;rw [rA,rA];exact hd _ (hb (by omega) _ rfl)
theorem DC {w:World} {v:Value} {sz:Nat} {rows:List (List Value)} {B:Nat→Prop} (h:cO w v sz rows B) {i:Nat} (hi:i < rows.length) :
   ∃ ad c,v = .slice (some ad) rows.length c∧rows[i].length=sz∧∀ k (hk:k < rows[i].length),w.cell? ((ad.add (i*sz)).add k)=some rows[i][k]:=by
 obtain ⟨a,c,rfl,_,h⟩:=h;obtain ⟨ad,rfl,h1,h2⟩:=h i hi;exact ⟨ad,c,rfl,h1,h2⟩
theorem sJ {w:World} {a:Addr} {v0 v1:Value} (h0:w.cell? (a.add 0)=some v0) (h1:w.cell? (a.add 1)=some v1):cH w 2 (.pointer (some a))=some (.agg #[v0,v1]):=by
 simp [cH,jv,h0,h1]
theorem NH {w:World} {a:Addr} {v0 v1 v2:Value} (h0:w.cell? (a.add 0)=some v0) (h1:w.cell? (a.add 1)=some v1) (h2:w.cell? (a.add 2)=some v2):cH w 3 (.pointer (some a))=some (.agg #[v0,v1,v2]):=by
 simp [cH,jv,h0,h1,h2]
theorem uq {w:World} {v:Value} {sz:Nat} {rows:List (List Value)} {B:Nat→Prop} (h:cO w v sz rows B):∃ a c,v = .slice a rows.length c:=by
 obtain ⟨a,c,e,_⟩:=h;exact ⟨a,c,e⟩
theorem kU (a b:Int):(a == b)=decide (a=b):=by by_cases h:a=b<;>simp [h]
theorem N3 (a:ByteArray):∀ (n i:Nat) (r:List UInt8),a.size - i=n→ByteArray.toList.loop a i r=r.reverse++a.data.toList.drop i:=by
 have hs:a.data.toList.length=a.size:=by
  show a.data.toList.length=a.data.size;exact Array.length_toList
 intro n
 induction n with
 | zero=>
  intro i r h;rw [ByteArray.toList.loop,if_neg (by omega),List.drop_eq_nil_of_le (by omega),List.append_nil]
 | succ n ih=>
  intro i r h;have hi:i < a.data.toList.length:=by omega
  rw [ByteArray.toList.loop,if_pos (by omega),ih (i+1) _ (by omega),List.drop_eq_getElem_cons hi];have e:a.get! i=a.data.toList[i]:=by
   show a.data[i]! = _;rw [getElem!_pos a.data i (by simpa using hi)];simp
  rw [e];simp
theorem Ei (a:ByteArray):a.toList=a.data.toList:=by
 show ByteArray.toList.loop a 0 []=_;rw [N3 a _ 0 [] rfl];rfl
theorem N4 {a b:ByteArray} (h:a.toList=b.toList):a=b:=by
 rw [Ei,Ei] at h;cases a;cases b;rename_i x y;have:x=y:=Array.ext' h;rw [this]
theorem Ht (a b:ByteArray):(a.toList == b.toList)=decide (a=b):=by
 by_cases h:a=b
 ·subst h;simp
 ·have:a.toList≠b.toList:=fun e=>h (N4 e)
  simp [h,this]
theorem Em {sz:Nat}:∀ (rows:List (List Value)),(∀ r∈rows,r.length=sz)→∀ (i:Nat) (h:i < rows.length) (k:Nat),k < sz→(rows.flatMap id)[i*sz+k]? = (rows[i]'h)[k]?:=by
 intro rows
 induction rows with
 | nil=>intro _ i h;simp at h
 | cons r rows ih=>
  intro hr i h k hk;have h0:=hr r (by simp);simp only [List.flatMap_cons,id];cases i with
  | zero=>rw [List.getElem?_append_left (by omega)];simp
  | succ i=>
   rw [List.getElem?_append_right (by rw [h0,Nat.add_mul];omega),h0];have e:(i+1)*sz+k - sz=i*sz+k:=by rw [Nat.add_mul];omega
   rw [e];exact ih (fun r tI=>hr r (by simp [tI])) i (by simpa using h) k hk
theorem sV {w:World} {T sz:Nat} {v:Value} {rows:List (List Value)} {fp:Option Nat} (h:ao w T sz v (rows.flatMap id) rows.length fp) (hr:∀ r∈rows,r.length=sz):cO w v sz rows (fun b=>fp=some b):=by
 obtain ⟨h1,⟨rfl,h2,rfl⟩ | ⟨b,c,sp,rfl,rfl,h3,_⟩⟩:=h
 ·refine ⟨none,0,by rw [h2],(fun _ ad e=>by cases e),fun i hi=>?_⟩;omega
 ·refine ⟨some ⟨b,0,none⟩,c,rfl,(fun _ ad e=>by cases e;rfl),fun i hi=>⟨_,rfl,hr _ (List.getElem_mem hi),fun k hk=>?_⟩⟩;have hl:=hr _ (List.getElem_mem hi);have hf:=Em rows hr i hi k (by omega);rw [List.getElem?_eq_getElem hk] at hf;have ah:i*sz+k < (rows.flatMap id).length:=(List.getElem?_eq_some_iff.1 hf).1;rw [dB,dB,cell_of h3];simp only [Nat.zero_add,List.getElem?_toArray];rw [List.getElem?_append_left ah];exact hf
theorem addr_add (a:Addr) (i k:Nat):(a.add i).add k=a.add (i+k):=by
 unfold Addr.add;by_cases hi:i=0
 ·subst hi;simp
 ·by_cases hk:k=0
  ·subst hk;simp
  ·have:i+k≠0:=by omega
   simp [hi,hk,this,Nat.add_assoc]
theorem Eu {sz:Nat}:∀ (rows:List (List Value)),(∀ r∈rows,r.length=sz)→(rows.flatMap id).length=rows.length*sz:=by
 intro rows
 induction rows with
 | nil=>intro _;simp
 | cons r rows ih=>
  intro hr;have h0:=hr r (by simp);simp only [List.flatMap_cons,id,List.length_append,List.length_cons,ih (fun r tI=>hr r (by simp [tI])),h0,Nat.add_mul];omega
theorem Ev {w:World} {a:Option Addr} {n c sz:Nat} {rows:List (List Value)} {B:Nat→Prop} (h:cO w (.slice a n c) sz rows B) (dQ:0 < sz):n=rows.length∧iR w a (n*sz) (rows.flatMap id)∧(a=none→n=0):=by
 obtain ⟨a',c',e,_,U⟩:=h;simp only [Value.slice.injEq] at e;obtain ⟨rfl,rfl,rfl⟩:=e;have hr:∀ r∈rows,r.length=sz:=fun r hr=>by
  obtain ⟨i,hi,rfl⟩:=List.getElem_of_mem hr;obtain ⟨_,_,h1,_⟩:=U i hi;exact h1
 refine ⟨rfl,⟨Eu rows hr,fun ad ep j v hv=>?_⟩,fun ha=>?_⟩
 ·have hj:j < rows.length*sz:=by rw [← Eu rows hr];exact (List.getElem?_eq_some_iff.1 hv).1
  have hi:j / sz < rows.length:=(Nat.div_lt_iff_lt_mul dQ).2 hj;have hk:j % sz < sz:=Nat.mod_lt _ dQ;have hf:=Em rows hr (j / sz) hi (j % sz) hk;have e:j / sz*sz+j % sz=j:=by rw [Nat.mul_comm];exact Nat.div_add_mod j sz
  rw [e,hv] at hf;obtain ⟨nE,e1,h1,h2⟩:=U (j / sz) hi;rw [ep] at e1;cases e1;have h3:=h2 (j % sz) (by rw [h1];exact hk);rw [List.getElem?_eq_getElem (by rw [h1];exact hk)] at hf;simp only [Option.some.injEq] at hf;rw [← hf] at h3;rw [addr_add,e] at h3;exact h3
 ·apply Classical.byContradiction;intro bj;obtain ⟨ad,e1,_⟩:=U 0 (by omega);rw [ha] at e1;cases e1
theorem OT {w:World} {T sz n:Nat} {v:Value} {xs:List Value} {fp:Option Nat} (h:ao w T sz v xs n fp) {b:Nat} (hb:fp=some b):∃ cs,w.heap[b]? = some (.cells cs T (0,0)):=by
 obtain ⟨_,⟨_,_,e⟩ | ⟨b',c,sp,_,e,h5,_⟩⟩:=h
 ·rw [e] at hb;cases hb
 ·rw [e] at hb;cases hb;exact ⟨_,h5⟩
theorem XB {w:World} {a:Addr} {v:Value} (h:w.cell? a=some v):a.block < w.heap.size:=by
 unfold World.cell? at h;cases hb:w.heap[a.block]? with
 | none=>rw [hb] at h;cases h
 | some o=>exact lt_of_heap hb
end
end Go.W
namespace Go.Proofs.YtnjobkbblhaliaaGreatDoor
section
open Go Go.W Go.RowKit
abbrev FL (L:List (ByteArray×Int)):eE:=fun k=>hZ L k
structure rh (lo:Nat) (w:World) (vI:Value) (mp:Nat) (items:List It) (L:List (ByteArray×Int)):Prop where
 rows:cO w vI 2 (items.map ec) (· < lo)
 mp:mj w mp L
 len:items.length≤4294967296
theorem ig (a b:ByteArray):(a.toList == b.toList)=decide (a=b):=Go.W.Ht a b
theorem akJ {P:Program} {w:World} {ρ:Go.W.Env} {K:Value→World→Prop} {d:Option Nat} {ty:TypeId} {pos:String} {af:Array Edge} {op:Op} {g:Option (Nat×Bool)} (h:Go.W.E.wp P w ρ K (.raw ⟨d,op,ty,pos,af,none⟩)):Go.W.E.wp P w ρ K (.raw ⟨d,op,ty,pos,af,g⟩):=h
section
variable {lo p mp:Nat} {w:World} {vI:Value} {s:Ws} {items:List It} {L:List (ByteArray×Int)}
theorem rh.mod {w':World} (h:rh lo w vI mp items L) (hm:Mod (Wt lo mp) w w'):rh lo w' vI mp items L:=
 ⟨h.rows.mod hm (fun b hb hh=>by have:=hh.1;omega) (fun b hb=>hb),p7 h.mp hm (fun hh=>hh.2 rfl),h.len⟩
theorem OU (h:rh lo w vI mp items L) {k:Nat} {x:It} (U:items[k]? = some x):∃ ad c,vI = .slice (some ad) items.length c∧ad.block < lo∧w.cell? (ad.add (k*2))=some (.string x.aj)∧w.cell? ((ad.add (k*2)).add 1)=some (I x.num):=by
 obtain ⟨hl,rfl⟩:=List.getElem?_eq_some_iff.1 U;obtain ⟨a,c,h1,h3,h2⟩:=h.rows;obtain ⟨ad,rfl,_,h4⟩:=h2 k (by simpa using hl);refine ⟨ad,c,by simpa using h1,h3 (by simp;omega) ad rfl,?_,?_⟩
 ·have:=h4 0 (by simp [ec]);rw [Addr.add_zero'] at this
  simpa [ec] using this
 ·simpa [ec] using h4 1 (by simp [ec])
theorem OV (h:rh lo w vI mp items L):∃ a c,vI = .slice a items.length c:=by
 obtain ⟨a,c,h1,_⟩:=h.rows;exact ⟨a,c,by simpa using h1⟩
def rj (L:List (ByteArray×Int)) (items:List It) (k:Nat) (aj:ByteArray) (n:Int):Bool:=match items[k]? with
 | none=>false
 | some x=>cJ (FL L) x aj n
theorem zE {aj:ByteArray} {n:Int} (h:eV lo w p vI mp s) (hi:rh lo w vI mp items L):aK Tryz.prog 87 [ptr p,.string aj,I n] w fun r w'=>r = .bool (rj L items s.at' aj n)∧Mod (fun _=>False) w w':=by
 obtain ⟨vR,pv,vB,fR,fB,h⟩:=h;have hc:=h.cells;refine aj1.calls rfl ?_;unfold OD;cases U:items[s.at']? with
 | none=>
  obtain ⟨a,c,rfl⟩:=OV hi;have hge:=List.getElem?_eq_none_iff.1 U;have e1:decide ((s.at':Int) < items.length)=false:=by simp;omega
  simp only [go_sem,simprocAttr,cell_of hc,ez,ptr,e1];refine ⟨by unfold rj;rw [U],(Mod.refl _ _).drew⟩
 | some x=>
  obtain ⟨ad,c,rfl,h1,h2,h3⟩:=OU hi U;have ah:=(List.getElem?_eq_some_iff.1 U).1;have e1:decide ((s.at':Int) < items.length)=true:=by simp;omega
  have e2:(0:Int)≤s.at'∧(s.at':Int) < items.length:=by omega
  by_cases uf:x.aj=aj
  ·simp only [go_sem,simprocAttr,cell_of hc,ez,ptr,e1,e2,decide_true,Int.toNat_natCast,h2,h3,ig,uf];refine akJ ?_;refine Bq (b:=mp) (l:=L) (kt:=9) (et:=3) rfl rfl Tryz.underlying80 Tryz.underlying9 (Tryz.zeroValue3 _) (p7 hi.mp ((Mod.refl (fun _=>False) w).drew) (fun h=>h)) ?_;refine σ ?_;refine ⟨?_,(Mod.refl _ _).drew⟩;unfold rj cJ eE.of;rw [U];simp [uf,kU]
  ·simp only [go_sem,simprocAttr,cell_of hc,ez,ptr,e1,e2,decide_true,Int.toNat_natCast,h2,h3,ig,uf,decide_false];refine ⟨?_,(Mod.refl _ _).drew⟩;unfold rj cJ;rw [U];simp [uf]
end
end
section
open Go Go.W Go.RowKit
theorem OW (l:List Td):(l.flatMap jc).length=l.length*2:=by
 induction l with
 | nil=>rfl
 | cons t l ih=>rw [List.flatMap_cons,List.length_append,ih,akC,List.length_cons];omega
theorem XS:∀ i,jY i++[.text ⟨#[44,32]⟩,.val]=jY (i+1)
 | 0=>rfl
 | i+1=>by
  have:=XS i;simp only [jY,List.cons_append] at this ⊢;rw [this]
theorem XT:∀ i,iP i++[.text ⟨#[32]⟩,.arg]=iP (i+1)
 | 0=>rfl
 | i+1=>by
  have:=XT i;simp only [iP,List.cons_append] at this ⊢;rw [this]
theorem OX (i:Nat):(jY i).length=2*i:=by
 induction i with
 | zero=>rfl
 | succ i ih=>simp only [jY,List.length_cons,ih];omega
theorem HD (i:Nat):(iP i).length=2*i:=by
 induction i with
 | zero=>rfl
 | succ i ih=>simp only [iP,List.length_cons,ih];omega
def ow (w0 w:World) (v:Value) (l:List Td):Prop:=∃ fp,ao w 122 2 v (l.flatMap jc) l.length fp∧(∀ b,fp=some b→w0.heap.size≤b)∧Mod (fun _=>False) w0 w
theorem ow.nil (w:World):ow w w (.slice none 0 0) []:=⟨none,ao.nil _ _ _,(fun b h=>by cases h),Mod.refl _ _⟩
theorem Ew {w0 w w1:World} {l:List Td} {n:Nat} (hm:Mod (fun _=>False) w0 w) (hb:w1.heap[w.heap.size]? = some (.cells (l.flatMap jc).toArray 122 (0,0))) (ag:Mod (fun _=>False) w w1) (hn:l.length=n):ow w0 w1 (.slice (some ⟨w.heap.size,0,none⟩) n n) l:=by
 subst hn;refine ⟨some w.heap.size,ao.fG hb ?_,(fun b h=>by cases h;exact hm.size),hm.trans ag⟩;exact OW l
theorem HE {w0 w w1:World} {ρ:Go.W.Env} {K:Value→World→Prop} {v:Value} {l news:List Td} {n:Nat} {x y:O} (h:ow w0 w v l) (hb:w1.heap[w.heap.size]? = some (.cells (news.flatMap jc).toArray 122 (0,0))) (ag:Mod (fun _=>False) w w1)
   (U:x.ev ρ=some v) (hy:y.ev ρ=some (.slice (some ⟨w.heap.size,0,none⟩) n n)) (hn:news.length=n) (hl:l.length+news.length≤1048576)
   (hk:∀ v' w',ow w0 w' v' (l++news)→K v' w'):E.wp Tryz.prog w1 ρ K (.ap 122 2 24 #[.int .i64 0,.string ⟨#[]⟩] x y):=by
 subst hn;obtain ⟨fp,h1,h2,h3⟩:=h;have fE:=OW news;refine eH (news:=news.flatMap jc) (m:=news.length) U (h1.mod ag (fun _ _ hh=>hh)) hy (fun e=>by cases e) (ao.fG hb fE).rd (akD _) rfl (by omega) (by omega) ?_;intro v2 w2 jT dR ae eO;refine hk v2 w2 ⟨jT,by rw [List.flatMap_append,List.length_append];exact dR,fun b hb=>?_,(h3.trans ag).step ae (fun b hb ah=>by have:=h2 b hb;omega)⟩;rcases eO b hb with h' | ⟨h',_⟩
 ·exact h2 b h'
 ·have:=h3.size;have:=ag.size;omega
section
variable {lo p mp:Nat} {w:World} {vI:Value} {s:Ws} {items:List It} {L:List (ByteArray×Int)}
theorem Ex {w0:World} {v:Value} {l:List Td} (h:eV lo w0 p vI mp s) (hl:ow w0 w v l) (h1:l.length≤1048576) (hr:s.row.length≤4294967296):aK Tryz.prog 50 [ptr p,v] w fun r w'=>eV lo w' p vI mp (s.later l)∧Mod (Wt lo mp) w0 w':=by
 obtain ⟨vR,pv,vB,fR,fB,h⟩:=h;obtain ⟨fp,g1,g2,g3⟩:=hl;have hp:=lt_of_heap h.cells;refine (XR (h.later (g3.az (fun _ hh=>hh.elim))) g1 (fun b hb=>⟨by have:=g2 b hb;omega,fun hh=>by have:=g2 b hb;have:=h.row.lt hh;omega⟩) h1 hr).mono ?_;rintro r w' ⟨q1,q2⟩;exact ⟨q1,(g3.az (fun _ hh=>hh.elim)).trans q2⟩
theorem akK {n:Int} (h:eV lo w p vI mp s) (hn:1≤n∧n≤8) (dQ:s.out.size≤70368744177664) (hr:s.row.length≤4294967296):aK Tryz.prog 88 [ptr p,I n] w fun r w'=>eV lo w' p vI mp (s.tuple n)∧Mod (Wt lo mp) w w':=by
 have hw:IntKind.i64.wrap (n - 1)=n - 1:=by rw [IntKind.wrap_i64];omega
 refine aj2.calls rfl ?_;unfold OE;(try simp only [go_sem,simprocAttr,ptr]);refine aq (by rfl) ?_;refine (sX h (show s.out.size+1≤_ by omega)).mono ?_;rintro r w1 ⟨h1,ag⟩;(try simp only [go_sem,simprocAttr,ptr]);refine cd (by rfl) (by rfl) ?_;intro w2 aC ae dq;have l2:ow w1 w2 _ [.val]:=Ew (Mod.refl _ _) aC ae rfl;(try simp only [go_sem,simprocAttr,ptr,hw]);refine dA (fun z ρ w'=>∃ (i:Nat) (v:Value),z=(n - 1).toNat - i∧i≤(n - 1).toNat∧ow w1 w' v (.val::jY i)∧ρ=[(0,ptr p),(4,v),(12,I (n - 1)),(13,I i)]) (n - 1).toNat ⟨0,_,rfl,Nat.zero_le _,l2,rfl⟩ ?_;rintro z ρ w3 ⟨i,v,rfl,hi,l3,rfl⟩;unfold Xs;by_cases ah:i < (n - 1).toNat
 ·have e1:decide ((i:Int) < n - 1)=true:=by simp;omega
  have e2:IntKind.i64.wrap ((i:Int)+1)=((i+1:Nat):Int):=by rw [IntKind.wrap_i64];omega
  (try simp only [go_sem,simprocAttr,e1,e2]);refine cd (by rfl) (by rfl) ?_;intro w4 aH ai eu;refine HE (news:=[.text ⟨#[44,32]⟩,.val]) l3 aH ai rfl rfl rfl (by simp only [List.length_cons,List.length_nil,OX];omega) ?_;intro v5 w5 l5;refine ⟨_,?_,i+1,v5,rfl,by omega,?_,rfl⟩
  ·omega
  ·rw [List.cons_append,XS] at l5;exact l5
 ·have e1:decide ((i:Int) < n - 1)=false:=by simp;omega
  obtain rfl:i=(n - 1).toNat:=by omega
  (try simp only [go_sem,simprocAttr,e1]);refine cd (by rfl) (by rfl) ?_;intro w4 aH ai eu;refine HE (news:=[.text ⟨#[41]⟩]) l3 aH ai rfl rfl rfl (by simp only [List.length_cons,List.length_nil,OX];omega) ?_;intro v5 w5 l5;refine aq (by rfl) ?_;refine (Ex h1 l5 (by simp only [List.length_append,List.length_cons,List.length_nil,OX];omega) hr).mono ?_;rintro r' w6 ⟨h6,aD⟩;exact ⟨h6,ag.trans aD⟩
theorem akL {aj:ByteArray} {a:Bool} (h:eV lo w p vI mp s) (hi:rh lo w vI mp items L) (hn:0≤(FL L).of aj∧(FL L).of aj≤8) (dQ:s.out.size+aj.size≤70368744177664) (hr:s.row.length≤4294967296):aK Tryz.prog 89 [ptr p,.string aj,.bool a] w fun r w'=>eV lo w' p vI mp (s.aj (FL L) aj a)∧Mod (Wt lo mp) w w':=by
 obtain ⟨n,jO⟩:∃ n,n=(FL L).of aj:=⟨_,rfl⟩;rw [← jO] at hn;have hc:=h.choose_spec.choose_spec.choose_spec.choose_spec.choose_spec.cells;refine aj3.calls rfl ?_;unfold OF;simp only [go_sem,simprocAttr,cell_of hc,ez,ptr];refine Bq (b:=mp) (l:=L) (kt:=9) (et:=3) rfl rfl Tryz.underlying80 Tryz.underlying9 (Tryz.zeroValue3 _) hi.mp ?_;rw [show (hZ L aj).getD 0=n from jO.symm];refine σ ?_;refine dA (fun z ρ w'=>∃ (i:Nat) (v:Value),z=n.toNat - i∧i≤n.toNat∧ow w w' v (iP i)∧ρ=[(0,ptr p),(1,.string aj),(2,.bool a),(6,I n),(7,v),(14,I n),(15,I i)]) n.toNat ⟨0,_,rfl,Nat.zero_le _,ow.nil w,rfl⟩ ?_;rintro z ρ w3 ⟨i,v,rfl,bO,l3,rfl⟩;unfold Xt;by_cases ah:i < n.toNat
 ·have e1:decide ((i:Int) < n)=true:=by simp;omega
  have e2:IntKind.i64.wrap ((i:Int)+1)=((i+1:Nat):Int):=by rw [IntKind.wrap_i64];omega
  simp only [go_sem,simprocAttr,e1,e2];refine cd (by rfl) (by rfl) ?_;intro w4 aH ai eu;refine HE (news:=[.text ⟨#[32]⟩,.arg]) l3 aH ai rfl rfl rfl (by simp only [List.length_cons,List.length_nil,HD];omega) ?_;intro v5 w5 l5;refine ⟨_,?_,i+1,v5,rfl,by omega,?_,rfl⟩
  ·omega
  ·rw [XT] at l5;exact l5
 ·have e1:decide ((i:Int) < n)=false:=by simp;omega
  obtain rfl:i=n.toNat:=by omega
  obtain ⟨vR,pv,vB,fR,fB,hF⟩:=h;have bE:=lt_of_heap hc;have fin:∀ (t:ByteArray) (l:List Td) (v:Value) (w5:World),ow w w5 v l→l.length≤1048576→t.size≤aj.size+1→(s.aj (FL L) aj a)=(s.cE t).later l →
      aK Tryz.prog 51 [zD p,.string t] w5 (fun r w'=>aK Tryz.prog 50 [ptr p,v] w' (fun r w'=>eV lo w' p vI mp (s.aj (FL L) aj a)∧Mod (Wt lo mp) w w')):=by
   intro t l v w5 hl As ht he;obtain ⟨fp,g1,g2,g3⟩:=hl;rw [he];refine (XQ (hF.later (g3.az (fun _ hh=>hh.elim))) (by omega)).mono ?_;rintro r w6 ⟨⟨OQ,OR,h6⟩,aD⟩;refine (XR h6 (g1.mod aD (fun b hb hh=>?_)) (fun b hb=>⟨by have:=g2 b hb;omega,fun hh=>by have:=g2 b hb;have:=hF.row.lt hh;omega⟩) As hr).mono ?_
   ·have:=g2 b hb;rcases hh with hh | hh
    ·omega
    ·have:=hF.buf.lt hh;omega
   ·rintro r' w7 ⟨q1,q2⟩;refine ⟨q1,((g3.az (fun _ hh=>hh.elim)).trans (aD.az (fun b hb=>?_))).trans q2⟩;rcases hb with rfl | hb
    ·exact ⟨hF.qe,fun e=>hF.pc e.symm⟩
    ·exact ⟨(hF.fb b hb).1,(hF.fb b hb).2.2.1⟩
  by_cases hg:a=true∧n > 0
  ·obtain ⟨rfl,ke⟩:=hg;have e3:decide (n > 0)=true:=by simp;omega
   simp only [go_sem,simprocAttr,e1,e3];have h40:(⟨#[40]⟩++aj:ByteArray).size=aj.size+1:=by rw [fC];exact Nat.add_comm _ _
   refine ⟨.string (⟨#[40]⟩++aj),?_,?_⟩
   ·rw [if_neg];have:((#[40]:Array UInt8).size:Nat)=1:=rfl;rw [this];show ¬ (((1+aj.size:Nat):Int) > 9223372036854775807);omega
   refine cd (by rfl) (by rfl) ?_;intro w4 aH ai eu;refine HE (news:=[.text ⟨#[41]⟩]) l3 aH ai rfl rfl rfl (by simp only [List.length_cons,List.length_nil,HD];omega) ?_;intro v5 w5 l5;refine aq (by rfl) ?_;have e5:s.aj (FL L) aj true=(s.cE (⟨#[40]⟩++aj)).later (iP n.toNat++[.text ⟨#[41]⟩]):=by
    unfold Ws.aj;rw [← jO,if_pos (by simp;omega)]
   refine (fin (⟨#[40]⟩++aj) (iP n.toNat++[.text ⟨#[41]⟩]) v5 w5 l5 (by rw [List.length_append,HD];show 2*n.toNat+1≤_;omega) (Nat.le_of_eq h40) e5).mono ?_
   ·intro r w6 h6;refine σ ?_;exact aq (by rfl) h6
  ·have e4:s.aj (FL L) aj a=(s.cE aj).later (iP n.toNat):=by
    unfold Ws.aj;rw [← jO,if_neg];intro hh;simp only [Bool.and_eq_true,decide_eq_true_eq] at hh;exact hg hh
   have:=fin aj _ v w3 l3 (by rw [HD];omega) (by omega) e4;cases a with
   | false=>
    simp only [go_sem,simprocAttr,e1];refine aq (by rfl) ?_;refine this.mono ?_;intro r w6 h6;refine σ ?_;exact aq (by rfl) h6
   | true=>
    have e3:decide (n > 0)=false:=by simp;have:¬ n > 0:=fun hh=>hg ⟨rfl,hh⟩;omega
    simp only [go_sem,simprocAttr,e1,e3];refine aq (by rfl) ?_;refine this.mono ?_;intro r w6 h6;refine σ ?_;exact aq (by rfl) h6
end
end
section
open Go Go.W Go.RowKit
section
variable {lo p mp:Nat} {w:World} {vI:Value} {s:Ws} {items:List It} {L:List (ByteArray×Int)}
theorem eV.quiet {w':World} (h:eV lo w p vI mp s) (hm:Mod (fun _=>False) w w'):eV lo w' p vI mp s:=by
 obtain ⟨vR,pv,vB,fR,fB,h⟩:=h;exact ⟨_,_,_,_,_,h.later (hm.az (fun _ hh=>hh.elim))⟩
theorem eV.cells (h:eV lo w p vI mp s):∃ vR pv vB,w.heap[p]? = some (.cells (ez vI s.at' mp s.bX vR pv vB).toArray 86 (0,0)):=by
 obtain ⟨vR,pv,vB,fR,fB,h⟩:=h;exact ⟨_,_,_,h.cells⟩
theorem rk {ρ:Go.W.Env} {K:Value→World→Prop} {off:Nat} {v:Value} {s':Ws} {x y:O} (h:eV lo w p vI mp s) (U:x.ev ρ=some (.pointer (some ⟨p,off,none⟩))) (hy:y.ev ρ=some v) (h1:v.oneCell'=true) (ho:off < 7)
   (hs:∀ vR pv vB,(ez vI s.at' mp s.bX vR pv vB).set off v=ez vI s'.at' mp s'.bX vR pv vB) (hr:s'.row=s.row) (hb:s'.out=s.out)
   (hk:∀ w',eV lo w' p vI mp s'→Mod (Wt lo mp) w w'→K undef w'):E.wp Tryz.prog w ρ K (.st 1 x y):=by
 obtain ⟨vR,pv,vB,fR,fB,h⟩:=h;refine bY (off:=off) U hy h.cells h1 (by simp only [ez,List.length_cons,List.length_nil];omega) ?_;intro w1 hc hm _;refine hk w1 ⟨vR,pv,vB,fR,fB,by rw [← hs];exact hc,h.pv,?_,?_,h.qe,h.pc,by have:=h.pe;have:=hm.size;omega,by have:=h.ou;have:=hm.size;omega,h.fr,h.fb⟩ (hm.az (fun b hb=>by subst hb;exact ⟨h.qe,fun e=>h.pc e.symm⟩))
 ·rw [hr];exact h.row.mod hm (fun b hb hh=>(h.fr b hb).2.1 hh)
 ·rw [hb];exact h.buf.mod hm (fun b hb hh=>(h.fb b hb).2.1 hh)
theorem akM (h:eV lo w p vI mp s) (hi:rh lo w vI mp items L) (dQ:s.out.size≤70368744177664) (hr:s.row.length≤2147483648):aK Tryz.prog 52 [ptr p] w fun r w'=>eV lo w' p vI mp (s.wl (FL L) items)∧Mod (Wt lo mp) w w':=by
 refine ajW.calls rfl ?_;unfold Oy;(try simp only [go_sem,simprocAttr,ptr]);refine aq (by rfl) ?_;refine (zE h hi).mono ?_;rintro _ w1 ⟨rfl,ag⟩;have h1:=h.quiet ag;have rV:=hi.mod (ag.az (fun _ hh=>hh.elim));have Cf:Mod (Wt lo mp) w w1:=ag.az (fun _ hh=>hh.elim);cases hb:rj L items s.at' gQ 2 with
 | true=>
  have U:∃ x,items[s.at']? = some x∧cJ (FL L) x gQ 2=true:=by
   unfold rj at hb
   split at hb
   ·cases hb
   ·exact ⟨_,by assumption,hb⟩
  obtain ⟨x,U,FG⟩:=U;have ah:=(List.getElem?_eq_some_iff.1 U).1;have hl:=hi.len;have e2:IntKind.i64.wrap ((s.at':Int)+1)=((s.at'+1:Nat):Int):=by rw [IntKind.wrap_i64];omega
  obtain ⟨vR,pv,vB,cY⟩:=h1.cells;(try simp only [go_sem,simprocAttr,cell_of cY,ez,ptr,e2]);refine rk (s':=s.on) h1 rfl rfl rfl (by omega) (fun _ _ _=>rfl) rfl rfl ?_;intro w2 h2 ae;(try simp only [go_sem,simprocAttr,ptr]);refine aq (by rfl) ?_;refine (sX h2 (show s.out.size+2≤_ by omega)).mono ?_;rintro r w3 ⟨h3,ab⟩;(try simp only [go_sem,simprocAttr,ptr]);refine cd (by rfl) (by rfl) ?_;intro w4 aH ai eu;have l4:ow w3 w4 _ [.val,.rest]:=Ew (Mod.refl _ _) aH ai rfl;refine aq (by rfl) ?_;refine (Ex h3 l4 (by decide) (by show s.row.length≤_;omega)).mono ?_;rintro r' w5 ⟨h5,aB⟩;(try simp only [go_sem,simprocAttr]);refine ⟨?_,((Cf.trans ae).trans ab).trans aB⟩;unfold Ws.wl;rw [U];simp only [FG,if_true];exact h5
 | false=>
  (try simp only [go_sem,simprocAttr,ptr]);refine aq (by rfl) ?_;refine (zE h1 rV).mono ?_;rintro _ w2 ⟨rfl,ae⟩;have h2:=h1.quiet ae;have Ag:Mod (Wt lo mp) w w2:=Cf.trans (ae.az (fun _ hh=>hh.elim));cases cj:rj L items s.at' jN 0 with
  | true=>
   have U:∃ x,items[s.at']? = some x∧cJ (FL L) x jN 0=true:=by
    unfold rj at cj
    split at cj
    ·cases cj
    ·exact ⟨_,by assumption,cj⟩
   obtain ⟨x,U,FG⟩:=U;have ah:=(List.getElem?_eq_some_iff.1 U).1;have hl:=hi.len;have e2:IntKind.i64.wrap ((s.at':Int)+1)=((s.at'+1:Nat):Int):=by rw [IntKind.wrap_i64];omega
   obtain ⟨vR,pv,vB,cB⟩:=h2.cells;(try simp only [go_sem,simprocAttr,cell_of cB,ez,ptr,e2]);refine rk (s':=s.on) h2 rfl rfl rfl (by omega) (fun _ _ _=>rfl) rfl rfl ?_;intro w3 h3 ab;(try simp only [go_sem,simprocAttr,ptr]);refine aq (by rfl) ?_;refine (sX h3 (show s.out.size+1≤_ by omega)).mono ?_;rintro r w4 ⟨h4,ai⟩;(try simp only [go_sem,simprocAttr]);refine ⟨?_,(Ag.trans ab).trans ai⟩;have HB:cJ (FL L) x gQ 2=false:=by unfold rj at hb;rw [U] at hb;exact hb
   unfold Ws.wl;rw [U];simp only [FG,HB,if_true,if_false,Bool.false_eq_true];exact h4
  | false=>
   (try simp only [go_sem,simprocAttr,ptr]);refine aq (by rfl) ?_;refine (sX h2 (show s.out.size+3≤_ by omega)).mono ?_;rintro r w3 ⟨h3,ab⟩;(try simp only [go_sem,simprocAttr,ptr]);refine cd (by rfl) (by rfl) ?_;intro w4 aH ai eu;have l4:ow w3 w4 _ [.val,.text ⟨#[93]⟩]:=Ew (Mod.refl _ _) aH ai rfl;refine aq (by rfl) ?_;refine (Ex h3 l4 (by decide) (by show s.row.length≤_;omega)).mono ?_;rintro r' w5 ⟨h5,aB⟩;(try simp only [go_sem,simprocAttr]);refine ⟨?_,(Ag.trans ab).trans aB⟩;have e:s.wl (FL L) items=(s.cE ⟨#[32,124,32]⟩).later [.val,.text ⟨#[93]⟩]:=by
    unfold Ws.wl;unfold rj at hb cj;cases U:items[s.at']? with
    | none=>rfl
    | some x=>
     rw [U] at hb cj;simp only at hb cj;simp only [hb,cj,if_false,Bool.false_eq_true]
   rw [e];exact h5
end
end
section
open Go Go.W Go.RowKit
def a8 (n:Int):ByteArray:=⟨(Lib.itoa n).toArray⟩
def lU (lo:Nat) (w:World):Prop:=∃ g,Tryz.prog.globalNamed "internal/strconv.uint64pow10" = some g∧g < lo∧lo≤w.heap.size∧Lib.TabIs Tryz.prog w "internal/strconv.uint64pow10" .u64 Lib.pow10Tab
section
variable {lo p mp:Nat} {w:World} {vI:Value} {s:Ws} {items:List It} {L:List (ByteArray×Int)}
theorem lU.mod {w':World} (h:lU lo w) (hm:Mod (Wt lo mp) w w'):lU lo w':=by
 obtain ⟨g,h1,h2,h3,h4⟩:=h;refine ⟨g,h1,h2,by have:=hm.size;omega,?_⟩;unfold Lib.TabIs World.var? at h4 ⊢;rw [h1] at h4 ⊢;simp only [Option.bind_some] at h4 ⊢;rw [hm.old g (by omega) (fun hh=>by have:=hh.1;omega)];exact h4
theorem XU {n:Int} (h:lU lo w) (hn : -9223372036854775808≤n∧n≤9223372036854775807):aK Tryz.prog 48 [I n] w fun r w'=>r = .string (a8 n)∧Mod (fun _=>False) w w':=by
 obtain ⟨g,h1,h2,h3,h4⟩:=h;refine Calls.mono (Any.strconv_Itoa Tryz.abj n hn.1 hn.2 w h4) ?_;rintro e w' ⟨rfl,k,os,rfl⟩;refine ⟨_,rfl,rfl,⟨by simp [Go.Sort.grow],fun b hb _=>?_,rfl,rfl,rfl⟩⟩;show (w.heap++os)[b]? = _;rw [Array.getElem?_append_left hb]
theorem HF (n:Int) (hn : -9223372036854775808≤n∧n≤9223372036854775807):(a8 n).size≤21:=Lib.itoa_length_le n hn.1 hn.2
theorem Ey {x:It} (U:items[s.at']? = some x) (aj:ByteArray) (n:Int):rj L items s.at' aj n=cJ (FL L) x aj n:=by
 unfold rj;rw [U]
theorem XV {a:Bool} (h:eV lo w p vI mp s) (hi:rh lo w vI mp items L) (ht:lU lo w) (hle:s.at'≤items.length) (hop:0≤s.bX∧s.bX≤1099511627776)
   (hk:∀ x,items[s.at']? = some x→(x.aj=⟨#[]⟩ → -4611686018427387904≤x.num∧x.num≤4611686018427387903)∧(x.aj≠⟨#[]⟩→0≤(FL L).of x.aj∧(FL L).of x.aj≤8)∧x.aj.size≤35184372088832)
   (dQ:s.out.size≤35184372088000) (hr:s.row.length≤2147483648):aK Tryz.prog 53 [ptr p,.bool a] w fun r w'=>eV lo w' p vI mp (s.value a8 (FL L) items a)∧Mod (Wt lo mp) w w':=by
 refine ajX.calls rfl ?_;unfold Oz;obtain ⟨vR0,pv0,vB0,hc⟩:=h.cells;have hl:=hi.len;have ofd:∀ {w':World},Mod (Wt lo mp) w w'→Mod (Wt lo mp) w w'.drew:=fun hm=>hm.drew
 have akN:eV lo w.drew p vI mp s:=h.quiet (Mod.refl _ _).drew;cases U:items[s.at']? with
 | none=>
  obtain ⟨ad,c,rfl⟩:=OV hi;have hge:=List.getElem?_eq_none_iff.1 U;have dN:s.at'=items.length:=by omega
  have e1:((s.at':Int) == (items.length:Int))=true:=by rw [dN];simp
  have e2:IntKind.i64.wrap (s.bX+1)=s.bX+1:=by rw [IntKind.wrap_i64];omega
  have zF:w.drew.heap[p]? = _:=hc;(try simp only [go_sem,simprocAttr,cell_of hc,cell_of zF,ez,ptr,e1,e2]);refine rk (s':={ s with bX:=s.bX+1}) akN rfl rfl rfl (by omega) (fun _ _ _=>rfl) rfl rfl ?_;intro w1 h1 ag;(try simp only [go_sem,simprocAttr,ptr]);refine aq (by rfl) ?_;refine (sX h1 (show s.out.size+1≤_ by omega)).mono ?_;rintro r w2 ⟨h2,ae⟩;(try simp only [go_sem,simprocAttr]);refine ⟨?_,(ag.dj).trans ae⟩;have hv:s.value a8 (FL L) items a = { s with bX:=s.bX+1}.cE ⟨#[95]⟩:=by
   unfold Ws.value;rw [U];rfl
  rw [hv];exact h2
 | some x=>
  obtain ⟨ad,c,rfl,pO,fJ,fZ⟩:=OU hi U;obtain ⟨eQ,eT,mg⟩:=hk x U;have ah:=(List.getElem?_eq_some_iff.1 U).1;have e1:((s.at':Int) == (items.length:Int))=false:=by simp;omega
  have e2:IntKind.i64.wrap ((s.at':Int)+1)=((s.at'+1:Nat):Int):=by rw [IntKind.wrap_i64];omega
  have e3:(0:Int)≤s.at'∧(s.at':Int) < items.length:=by omega
  have zF:w.drew.heap[p]? = _:=hc;have akO:w.drew.drew.heap[p]? = _:=hc;have ed:∀ W:World,W.heap=w.heap→cH W 2 (.pointer (some (ad.add (s.at'*2))))=some (.agg #[.string x.aj,I x.num]):=by
   intro W hW;have cw:∀ q,W.cell? q=w.cell? q:=fun q=>by simp [World.cell?,hW]
   refine sJ ?_ ?_
   ·rw [Addr.add_zero',cw];exact fJ
   ·rw [cw];exact fZ
  (try simp only [go_sem,simprocAttr,cell_of hc,cell_of zF,cell_of akO,ez,ptr,e1,e3,decide_true,Int.toNat_natCast,ed w.drew.drew rfl]);have HG:lo≤w.heap.size∧p < w.heap.size:=by
   obtain ⟨_,_,_,_,_,hF⟩:=h;exact ⟨hF.ou,lt_of_heap hF.cells⟩
  refine dk ?_;intro w1 oh ag cL;have oI:Mod (fun _=>False) w w1:=ag.dj.dj;have sY:w1.heap[w.heap.size]? = some (.cells [.string ⟨#[]⟩,I 0].toArray 42 (0,0)):=oh;refine ⟨⟨oI.old _ (by rw [rA];omega) (fun h=>h),oI.old _ HG.2 (fun h=>h)⟩,?_⟩;refine cX (vs:=[.string x.aj,I x.num]) rfl rfl sY rfl rfl (by intro u hu;simp only [List.mem_cons,List.not_mem_nil,or_false] at hu;rcases hu with rfl | rfl<;>rfl) ?_;intro w2 OY ae dq;have hD:w2.heap[w.heap.size]? = some (.cells [.string x.aj,I x.num].toArray 42 (0,0)):=OY;have cq:Mod (fun _=>False) w w2:=oI.step ae (fun b hb ah=>by have cj:b=w.heap.size:=hb;omega);have h2:=h.quiet cq;have jF:=hi.mod (cq.az (fun _ hh=>hh.elim));have Ag:=ht.mod (cq.az (S':=Wt lo mp) (fun _ hh=>hh.elim));have XW:Mod (Wt lo mp) w w2:=cq.az (fun _ hh=>hh.elim);have sF:∀ {w':World},Mod (fun _=>False) w2 w'→w'.heap[w.heap.size]? = some (.cells [.string x.aj,I x.num].toArray 42 (0,0)):=fun hm=>hm.at hD (fun hh=>hh)
  by_cases h0:x.aj=⟨#[]⟩
  ·have b0:decide (x.aj=⟨#[]⟩)=true:=by simp [h0]
   obtain ⟨n1,n2⟩:=eQ h0;(try simp only [go_sem,simprocAttr,cell_of hD,ig,b0]);refine aq (by rfl) ?_;refine (XU Ag ⟨by omega,by omega⟩).mono ?_;rintro _ w3 ⟨rfl,ab⟩;have XX:=sF ab;have h3:=h2.quiet ab;have Bz:Mod (Wt lo mp) w w3:=XW.trans (ab.az (fun _ hh=>hh.elim));have hiz:=HF x.num ⟨by omega,by omega⟩;by_cases hg:a=true∧x.num < 0
   ·obtain ⟨rfl,ke⟩:=hg;have b1:decide (x.num < 0)=true:=by simp;omega
    (try simp only [go_sem,simprocAttr,cell_of XX,b1]);refine ⟨.string (⟨#[40]⟩++a8 x.num),?_,.string (⟨#[40]⟩++a8 x.num++⟨#[41]⟩),?_,?_⟩
    ·rw [if_neg];have:((#[40]:Array UInt8).size:Nat)=1:=rfl;rw [this];show ¬ (((1+(a8 x.num).size:Nat):Int) > 9223372036854775807);omega
    ·show (if ((((⟨#[40]⟩:ByteArray)++a8 x.num).size+1:Nat):Int) > 9223372036854775807 then none else _)=_;rw [fC,if_neg];show ¬ (((1+(a8 x.num).size+1:Nat):Int) > 9223372036854775807);omega
    refine aq (by rfl) ?_;have Bi:(⟨#[40]⟩++a8 x.num++⟨#[41]⟩:ByteArray).size≤23:=by
     rw [fC,fC];show 1+_+1≤_;omega
    refine (sX h3 (show s.out.size+_≤_ by omega)).mono ?_;rintro r w4 ⟨h4,ai⟩;obtain ⟨vR,pv,vB,fH⟩:=h4.cells;have mr:((s.cE (⟨#[40]⟩++a8 x.num++⟨#[41]⟩))).at'=s.at':=by first | rfl | (unfold Ws.aj;split<;>rfl)
    have mw:IntKind.i64.wrap (((((s.cE (⟨#[40]⟩++a8 x.num++⟨#[41]⟩))).at':Nat):Int)+1)=((((s.cE (⟨#[40]⟩++a8 x.num++⟨#[41]⟩))).at'+1:Nat):Int):=by rw [mr];exact e2
    (try simp only [go_sem,simprocAttr,cell_of fH,ez,ptr,mw]);refine rk (s':=Ws.on (s.cE (⟨#[40]⟩++a8 x.num++⟨#[41]⟩))) h4 rfl rfl rfl (by omega) (fun _ _ _=>rfl) rfl rfl ?_;intro wz hz my;(try simp only [go_sem,simprocAttr]);refine ⟨?_,(Bz.trans ai).trans my⟩;have hv:s.value a8 (FL L) items true=Ws.on (s.cE (⟨#[40]⟩++a8 x.num++⟨#[41]⟩)):=by
     unfold Ws.value;rw [U];simp only [if_pos h0,uu,b1,Bool.and_self,Bool.true_and,if_true]
    rw [hv];exact hz
   ·have fin:aK Tryz.prog 51 [zD p,.string (a8 x.num)] w3 (fun r w'=>eV lo w' p (.slice (some ad) items.length c) mp (s.cE (a8 x.num))∧Mod (Wt lo mp) w3 w'):=sX h3 (show s.out.size+_≤_ by omega);cases a with
    | false=>
     (try simp only [go_sem,simprocAttr,ptr]);refine aq (by rfl) ?_;refine fin.mono ?_;rintro r w4 ⟨h4,ai⟩;obtain ⟨vR,pv,vB,fH⟩:=h4.cells;have mr:((s.cE (a8 x.num))).at'=s.at':=by first | rfl | (unfold Ws.aj;split<;>rfl)
     have mw:IntKind.i64.wrap (((((s.cE (a8 x.num))).at':Nat):Int)+1)=((((s.cE (a8 x.num))).at'+1:Nat):Int):=by rw [mr];exact e2
     (try simp only [go_sem,simprocAttr,cell_of fH,ez,ptr,mw]);refine rk (s':=Ws.on (s.cE (a8 x.num))) h4 rfl rfl rfl (by omega) (fun _ _ _=>rfl) rfl rfl ?_;intro wz hz my;(try simp only [go_sem,simprocAttr]);refine ⟨?_,(Bz.trans ai).trans my⟩;have hv:s.value a8 (FL L) items false=Ws.on (s.cE (a8 x.num)):=by
      unfold Ws.value;rw [U];simp only [if_pos h0,uu,Bool.false_and,Bool.false_eq_true,if_false]
     rw [hv];exact hz
    | true=>
     have b1:decide (x.num < 0)=false:=by simp;have:¬ x.num < 0:=fun hh=>hg ⟨rfl,hh⟩;omega
     (try simp only [go_sem,simprocAttr,cell_of XX,b1,ptr]);refine aq (by rfl) ?_;refine fin.mono ?_;rintro r w4 ⟨h4,ai⟩;obtain ⟨vR,pv,vB,fH⟩:=h4.cells;have mr:((s.cE (a8 x.num))).at'=s.at':=by first | rfl | (unfold Ws.aj;split<;>rfl)
     have mw:IntKind.i64.wrap (((((s.cE (a8 x.num))).at':Nat):Int)+1)=((((s.cE (a8 x.num))).at'+1:Nat):Int):=by rw [mr];exact e2
     (try simp only [go_sem,simprocAttr,cell_of fH,ez,ptr,mw]);refine rk (s':=Ws.on (s.cE (a8 x.num))) h4 rfl rfl rfl (by omega) (fun _ _ _=>rfl) rfl rfl ?_;intro wz hz my;(try simp only [go_sem,simprocAttr]);refine ⟨?_,(Bz.trans ai).trans my⟩;have hv:s.value a8 (FL L) items true=Ws.on (s.cE (a8 x.num)):=by
      unfold Ws.value;rw [U];simp only [if_pos h0,uu,b1,Bool.and_false,Bool.false_eq_true,if_false]
     rw [hv];exact hz
  ·have b0:decide (x.aj=⟨#[]⟩)=false:=by simp [h0]
   obtain ⟨k1,k2⟩:=eT h0;(try simp only [go_sem,simprocAttr,cell_of hD,ig,b0,ptr]);refine aq (by rfl) ?_;refine (zE h2 jF).mono ?_;rintro _ w3 ⟨rfl,ab⟩;rw [Ey U];have qC:Mod (fun _=>False) w2 w3:=ab;have h3:=h2.quiet ab;have pJ:=jF.mod (ab.az (fun _ hh=>hh.elim));have Bz:Mod (Wt lo mp) w w3:=XW.trans (ab.az (fun _ hh=>hh.elim));cases c1:cJ (FL L) x jN 0 with
   | true=>
    (try simp only [go_sem,simprocAttr,ptr]);refine aq (by rfl) ?_;refine (sX h3 (show s.out.size+2≤_ by omega)).mono ?_;rintro r w4 ⟨h4,ai⟩;obtain ⟨vR,pv,vB,fH⟩:=h4.cells;have mr:((s.cE ⟨#[91,93]⟩)).at'=s.at':=by first | rfl | (unfold Ws.aj;split<;>rfl)
    have mw:IntKind.i64.wrap (((((s.cE ⟨#[91,93]⟩)).at':Nat):Int)+1)=((((s.cE ⟨#[91,93]⟩)).at'+1:Nat):Int):=by rw [mr];exact e2
    (try simp only [go_sem,simprocAttr,cell_of fH,ez,ptr,mw]);refine rk (s':=Ws.on (s.cE ⟨#[91,93]⟩)) h4 rfl rfl rfl (by omega) (fun _ _ _=>rfl) rfl rfl ?_;intro wz hz my;(try simp only [go_sem,simprocAttr]);refine ⟨?_,(Bz.trans ai).trans my⟩;have hv:s.value a8 (FL L) items a=Ws.on (s.cE ⟨#[91,93]⟩):=by
     unfold Ws.value;rw [U];simp only [if_neg h0,c1,if_true]
    rw [hv];exact hz
   | false=>
   (try simp only [go_sem,simprocAttr,ptr]);refine aq (by rfl) ?_;refine (zE h3 pJ).mono ?_;rintro _ w4 ⟨rfl,ai⟩;rw [Ey U];have du:Mod (fun _=>False) w2 w4:=qC.trans ai;have h4:=h3.quiet ai;have FY:=pJ.mod (ai.az (fun _ hh=>hh.elim));have XY:Mod (Wt lo mp) w w4:=Bz.trans (ai.az (fun _ hh=>hh.elim));cases c2:cJ (FL L) x gQ 2 with
   | true=>
    (try simp only [go_sem,simprocAttr,ptr]);refine aq (by rfl) ?_;refine (sX h4 (show s.out.size+1≤_ by omega)).mono ?_;rintro r w5 ⟨h5,aB⟩;(try simp only [go_sem,simprocAttr,ptr]);refine cd (by rfl) (by rfl) ?_;intro w6 cN aD mK;have l6:ow w5 w6 _ [.val,.rest]:=Ew (Mod.refl _ _) cN aD rfl;refine aq (by rfl) ?_;refine (Ex h5 l6 (by decide) (by show s.row.length≤_;omega)).mono ?_;rintro r' w7 ⟨h7,aX⟩;obtain ⟨vR,pv,vB,fH⟩:=h7.cells;have mr:(((s.cE ⟨#[91]⟩).later [.val,.rest])).at'=s.at':=by first | rfl | (unfold Ws.aj;split<;>rfl)
    have mw:IntKind.i64.wrap ((((((s.cE ⟨#[91]⟩).later [.val,.rest])).at':Nat):Int)+1)=(((((s.cE ⟨#[91]⟩).later [.val,.rest])).at'+1:Nat):Int):=by rw [mr];exact e2
    (try simp only [go_sem,simprocAttr,cell_of fH,ez,ptr,mw]);refine rk (s':=Ws.on ((s.cE ⟨#[91]⟩).later [.val,.rest])) h7 rfl rfl rfl (by omega) (fun _ _ _=>rfl) rfl rfl ?_;intro wz hz my;(try simp only [go_sem,simprocAttr]);refine ⟨?_,((XY.trans aB).trans aX).trans my⟩;have hv:s.value a8 (FL L) items a=Ws.on ((s.cE ⟨#[91]⟩).later [.val,.rest]):=by
     unfold Ws.value;rw [U];simp only [if_neg h0,c1,c2,if_true,if_false,Bool.false_eq_true]
    rw [hv];exact hz
   | false=>
   (try simp only [go_sem,simprocAttr,ptr]);refine aq (by rfl) ?_;refine (zE h4 FY).mono ?_;rintro _ w5 ⟨rfl,aB⟩;rw [Ey U];have nL:Mod (fun _=>False) w2 w5:=du.trans aB;have h5:=h4.quiet aB;have FZ:=FY.mod (aB.az (fun _ hh=>hh.elim));have XZ:Mod (Wt lo mp) w w5:=XY.trans (aB.az (fun _ hh=>hh.elim));cases c3:cJ (FL L) x qb 0 with
   | true=>
    (try simp only [go_sem,simprocAttr,ptr]);refine aq (by rfl) ?_;refine (sX h5 (show s.out.size+2≤_ by omega)).mono ?_;rintro r w6 ⟨h6,aD⟩;obtain ⟨vR,pv,vB,fH⟩:=h6.cells;have mr:((s.cE ⟨#[40,41]⟩)).at'=s.at':=by first | rfl | (unfold Ws.aj;split<;>rfl)
    have mw:IntKind.i64.wrap (((((s.cE ⟨#[40,41]⟩)).at':Nat):Int)+1)=((((s.cE ⟨#[40,41]⟩)).at'+1:Nat):Int):=by rw [mr];exact e2
    (try simp only [go_sem,simprocAttr,cell_of fH,ez,ptr,mw]);refine rk (s':=Ws.on (s.cE ⟨#[40,41]⟩)) h6 rfl rfl rfl (by omega) (fun _ _ _=>rfl) rfl rfl ?_;intro wz hz my;(try simp only [go_sem,simprocAttr]);refine ⟨?_,(XZ.trans aD).trans my⟩;have hv:s.value a8 (FL L) items a=Ws.on (s.cE ⟨#[40,41]⟩):=by
     unfold Ws.value;rw [U];simp only [if_neg h0,c1,c2,c3,if_true,if_false,Bool.false_eq_true]
    rw [hv];exact hz
   | false=>
   (try simp only [go_sem,simprocAttr,ptr]);refine aq (by rfl) ?_;refine (zE h5 FZ).mono ?_;rintro _ w6 ⟨rfl,aD⟩;rw [Ey U];have AF:Mod (fun _=>False) w2 w6:=nL.trans aD;have h6:=h5.quiet aD;have vq:=FZ.mod (aD.az (fun _ hh=>hh.elim));have X0:Mod (Wt lo mp) w w6:=XZ.trans (aD.az (fun _ hh=>hh.elim));have X6:∀ (w7:World),Mod (fun _=>False) w2 w7→(cJ (FL L) x kC 2||cJ (FL L) x kD 3)=true→aK Tryz.prog 88 [ptr p,I ((FL L).of x.aj)] w7 (fun r w'=>eV lo w' p (.slice (some ad) items.length c) mp (s.tuple ((FL L).of x.aj))∧Mod (Wt lo mp) w7 w'):=by
    intro w7 aX hh;have hn:(FL L).of x.aj=2∨(FL L).of x.aj=3:=by
     rcases Bool.or_eq_true_iff.1 hh with h | h
     ·obtain ⟨e1,e2⟩:=ot h;rw [e1,e2];exact .inl rfl
     ·obtain ⟨e1,e2⟩:=ot h;rw [e1,e2];exact .inr rfl
    exact akK (h2.quiet aX) (by omega) (by omega) (by omega)
   cases c4:cJ (FL L) x kC 2 with
   | true=>
    have p9:=sF AF;obtain ⟨vR6,pv6,vB6,mX⟩:=h6.cells;have OZ:w6.drew.heap[w.heap.size]? = _:=p9;have akP:w6.drew.heap[p]? = _:=mX;(try simp only [go_sem,simprocAttr,cell_of p9,cell_of OZ,cell_of mX,cell_of akP,ez,ptr]);refine Bq (b:=mp) (l:=L) (kt:=9) (et:=3) rfl rfl Tryz.underlying80 Tryz.underlying9 (Tryz.zeroValue3 _) (p7 vq.mp ((Mod.refl (fun _=>False) w6).drew) (fun h=>h)) ?_;refine aq (by rfl) ?_;refine (X6 w6.drew AF.drew (by rw [c4];rfl)).mono ?_;rintro r w7 ⟨h7,aX⟩;obtain ⟨vR,pv,vB,fH⟩:=h7.cells;have mr:((s.tuple ((FL L).of x.aj))).at'=s.at':=by first | rfl | (unfold Ws.aj;split<;>rfl)
    have mw:IntKind.i64.wrap (((((s.tuple ((FL L).of x.aj))).at':Nat):Int)+1)=((((s.tuple ((FL L).of x.aj))).at'+1:Nat):Int):=by rw [mr];exact e2
    (try simp only [go_sem,simprocAttr,cell_of fH,ez,ptr,mw]);refine rk (s':=Ws.on (s.tuple ((FL L).of x.aj))) h7 rfl rfl rfl (by omega) (fun _ _ _=>rfl) rfl rfl ?_;intro wz hz my;(try simp only [go_sem,simprocAttr]);refine ⟨?_,(X0.drew.trans aX).trans my⟩;have hv:s.value a8 (FL L) items a=Ws.on (s.tuple ((FL L).of x.aj)):=by
     unfold Ws.value;rw [U];simp only [if_neg h0,c1,c2,c3,c4,Bool.true_or,if_true,if_false,Bool.false_eq_true]
    rw [hv];exact hz
   | false=>
   (try simp only [go_sem,simprocAttr,ptr]);refine aq (by rfl) ?_;refine (zE h6 vq).mono ?_;rintro _ w7 ⟨rfl,aX⟩;rw [Ey U];have wj:Mod (fun _=>False) w2 w7:=AF.trans aX;have h7:=h6.quiet aX;have X7:=vq.mod (aX.az (fun _ hh=>hh.elim));have X8:Mod (Wt lo mp) w w7:=X0.trans (aX.az (fun _ hh=>hh.elim));have zB:=sF wj;cases c5:cJ (FL L) x kD 3 with
   | true=>
    obtain ⟨vR7,pv7,vB7,Ez⟩:=h7.cells;have akQ:w7.drew.heap[w.heap.size]? = _:=zB;have akR:w7.drew.heap[p]? = _:=Ez;(try simp only [go_sem,simprocAttr,cell_of zB,cell_of akQ,cell_of Ez,cell_of akR,ez,ptr]);refine Bq (b:=mp) (l:=L) (kt:=9) (et:=3) rfl rfl Tryz.underlying80 Tryz.underlying9 (Tryz.zeroValue3 _) (p7 X7.mp ((Mod.refl (fun _=>False) w7).drew) (fun h=>h)) ?_;refine aq (by rfl) ?_;refine (X6 w7.drew wj.drew (by rw [c5,Bool.or_true])).mono ?_;rintro r w8 ⟨h8,ch⟩;obtain ⟨vR,pv,vB,fH⟩:=h8.cells;have mr:((s.tuple ((FL L).of x.aj))).at'=s.at':=by first | rfl | (unfold Ws.aj;split<;>rfl)
    have mw:IntKind.i64.wrap (((((s.tuple ((FL L).of x.aj))).at':Nat):Int)+1)=((((s.tuple ((FL L).of x.aj))).at'+1:Nat):Int):=by rw [mr];exact e2
    (try simp only [go_sem,simprocAttr,cell_of fH,ez,ptr,mw]);refine rk (s':=Ws.on (s.tuple ((FL L).of x.aj))) h8 rfl rfl rfl (by omega) (fun _ _ _=>rfl) rfl rfl ?_;intro wz hz my;(try simp only [go_sem,simprocAttr]);refine ⟨?_,(X8.drew.trans ch).trans my⟩;have hv:s.value a8 (FL L) items a=Ws.on (s.tuple ((FL L).of x.aj)):=by
     unfold Ws.value;rw [U];simp only [if_neg h0,c1,c2,c3,c4,c5,Bool.or_true,if_true,if_false,Bool.false_eq_true]
    rw [hv];exact hz
   | false=>
    (try simp only [go_sem,simprocAttr,cell_of zB,ptr]);refine aq (by rfl) ?_;refine (akL h7 X7 ⟨k1,k2⟩ (by omega) (by omega)).mono ?_;rintro r w8 ⟨h8,ch⟩;obtain ⟨vR,pv,vB,fH⟩:=h8.cells;have mr:((s.aj (FL L) x.aj a)).at'=s.at':=by first | rfl | (unfold Ws.aj;split<;>rfl)
    have mw:IntKind.i64.wrap (((((s.aj (FL L) x.aj a)).at':Nat):Int)+1)=((((s.aj (FL L) x.aj a)).at'+1:Nat):Int):=by rw [mr];exact e2
    (try simp only [go_sem,simprocAttr,cell_of fH,ez,ptr,mw]);refine rk (s':=Ws.on (s.aj (FL L) x.aj a)) h8 rfl rfl rfl (by omega) (fun _ _ _=>rfl) rfl rfl ?_;intro wz hz my;(try simp only [go_sem,simprocAttr]);refine ⟨?_,(X8.trans ch).trans my⟩;have hv:s.value a8 (FL L) items a=Ws.on (s.aj (FL L) x.aj a):=by
     unfold Ws.value;rw [U];simp only [if_neg h0,c1,c2,c3,c4,c5,Bool.or_self,if_true,if_false,Bool.false_eq_true]
    rw [hv];exact hz
end
end
section
open Go Go.W
def gR (l:List It):Nat:=(l.map fun x=>x.aj.size).sum
def nj (l:List Td):Prop:=∀ t,Td.text t∈l→t.size≤2
theorem xY {a b:List Td} (h:nj a) (k:nj b):nj (a++b):=fun t ht=>by
 rcases List.mem_append.1 ht with h' | h'
 ·exact h t h'
 ·exact k t h'
theorem BA {a:List Td} (h:nj a):nj a.reverse:=fun t ht=>h t (List.mem_reverse.1 ht)
theorem BB {a:List Td} (h:nj a):nj a.dropLast:=fun t ht=>h t ((List.dropLast_sublist _).subset ht)
theorem X9:∀ n,nj (jY n)
 | 0=>fun t ht=>by cases ht
 | n+1=>fun t ht=>by
  simp only [jY,List.mem_cons,Td.text.injEq,reduceCtorEq,false_or] at ht;rcases ht with rfl | ht
  ·decide
  ·exact X9 n t ht
theorem O0:∀ n,nj (iP n)
 | 0=>fun t ht=>by cases ht
 | n+1=>fun t ht=>by
  simp only [iP,List.mem_cons,Td.text.injEq,reduceCtorEq,false_or] at ht;rcases ht with rfl | ht
  ·decide
  ·exact O0 n t ht
theorem O2 {t:ByteArray} (h:t.size≤2):nj [.text t]:=fun u hu=>by
 simp only [List.mem_cons,Td.text.injEq,List.not_mem_nil,or_false] at hu;rw [hu];exact h
theorem Ya {l:List Td} (h:nj l):nj (.val::l):=fun t ht=>by
 simp only [List.mem_cons,reduceCtorEq,false_or] at ht;exact h t ht
section
variable {itoa:Int→ByteArray} {f:eE} {items:List It}
structure EA (n:Nat) (s s':Ws):Prop where
 out:s'.out.size≤s.out.size+n
 tx:nj s.row→nj s'.row
 bX:s'.bX≤s.bX+1
theorem akS {s:Ws} {a:Bool} {x:It} (U:items[s.at']? = some x) (hi:x.aj=⟨#[]⟩→(itoa x.num).size≤21):EA (24+x.aj.size) s (s.value itoa f items a):=by
 unfold Ws.value;rw [U];simp only;have hz:∀ (t:ByteArray),t.size≤24→EA (24+x.aj.size) s (s.cE t).on:=fun t ht=>⟨by show (s.out++t).size≤_;rw [fC];omega,fun h=>h,by show s.bX≤_;omega⟩
 by_cases h1:x.aj=⟨#[]⟩
 ·rw [if_pos h1];refine hz _ ?_;have:=hi h1;unfold uu
  split
  ·rw [fC,fC];show 1+_+1≤_;omega
  ·omega
 rw [if_neg h1];by_cases h2:cJ f x jN 0=true
 ·rw [if_pos h2];exact hz _ (by decide)
 rw [if_neg h2];by_cases h3:cJ f x gQ 2=true
 ·rw [if_pos h3];refine ⟨?_,fun h=>?_,by show s.bX≤_;omega⟩
  ·show (s.out++_).size≤_;rw [fC];show _+1≤_;omega
  ·exact xY h (BA (fun t ht=>by simp at ht))
 rw [if_neg h3];by_cases h4:cJ f x qb 0=true
 ·rw [if_pos h4];exact hz _ (by decide)
 rw [if_neg h4];by_cases h5:(cJ f x kC 2||cJ f x kD 3)=true
 ·rw [if_pos h5];refine ⟨?_,fun h=>?_,by show s.bX≤_;omega⟩
  ·show (s.out++_).size≤_;rw [fC];show _+1≤_;omega
  ·exact xY h (BA (xY (Ya (X9 _)) (O2 (by decide))))
 rw [if_neg h5];unfold Ws.aj
 split
 ·refine ⟨?_,fun h=>?_,by show s.bX≤_;omega⟩
  ·show (s.out++_).size≤_;rw [fC,fC];show _+(1+_)≤_;omega
  ·exact xY h (BA (xY (O0 _) (O2 (by decide))))
 ·refine ⟨?_,fun h=>?_,by show s.bX≤_;omega⟩
  ·show (s.out++_).size≤_;rw [fC];omega
  ·exact xY h (BA (O0 _))
structure BC (itoa:Int→ByteArray) (f:eE) (items:List It) (k:Nat) (s:Ws):Prop where
 inv:rf f items s
 mu:s.mu items+k≤64*items.length+2
 out:s.out.size≤32*k+gR (items.take s.at')
 tx:nj s.row
 bX:s.bX≤k
theorem Yb:BC itoa f items 0 kV:=⟨OO,by show 64*(items.length - 0)+2+0≤_;omega,Nat.zero_le _,fun t ht=>by simp [kV] at ht,Int.le_refl _⟩
theorem Yc {k:Nat} {x:It} (h:items[k]? = some x):gR (items.take (k+1))=gR (items.take k)+x.aj.size:=by
 obtain ⟨hl,rfl⟩:=List.getElem?_eq_some_iff.1 h;unfold gR;rw [List.take_succ_eq_append_getElem hl,List.map_append,List.sum_append];simp
theorem Yd (k:Nat):gR (items.take k)≤gR items:=by
 unfold gR
 conv=>rhs;rw [← List.take_append_drop k items,List.map_append,List.sum_append]
 omega
theorem akT (jF:∀ x∈items,x.aj=⟨#[]⟩→(itoa x.num).size≤21) {s:Ws} (ht:nj s.row) (hr:s.row≠[]):EA (32+(gR (items.take (s.step itoa f items).at') - gR (items.take s.at'))) s (s.step itoa f items)∧gR (items.take s.at')≤gR (items.take (s.step itoa f items).at'):=by
 unfold Ws.step;cases hl:s.row.getLast? with
 | none=>exact absurd (List.getLast?_eq_none_iff.1 hl) hr
 | some t=>
 have en:t∈s.row:=List.mem_of_getLast? hl;have val:∀ a,EA (32+(gR (items.take (Ws.value itoa f items { s with row:=s.row.dropLast} a).at') - gR (items.take s.at'))) s (Ws.value itoa f items { s with row:=s.row.dropLast} a)∧gR (items.take s.at')≤gR (items.take (Ws.value itoa f items { s with row:=s.row.dropLast} a).at'):=by
  intro a;cases U:items[s.at']? with
  | none=>
   have e:Ws.value itoa f items { s with row:=s.row.dropLast} a = { { s with row:=s.row.dropLast}.cE ⟨#[95]⟩ with bX:=s.bX+1}:=by
    unfold Ws.value;simp only [U]
   rw [e];refine ⟨⟨?_,fun h=>BB h,Int.le_refl _⟩,Nat.le_refl _⟩;show (s.out++_).size≤_;rw [fC];show _+1≤_;omega
  | some x=>
   have hw:=akS (itoa:=itoa) (f:=f) (items:=items) (s:={ s with row:=s.row.dropLast}) (a:=a) U (jF x (List.mem_of_getElem? U));have dN:(Ws.value itoa f items { s with row:=s.row.dropLast} a).at'=s.at'+1:=by
    unfold Ws.value;simp only [U]
    split
    ·rfl
    split
    ·rfl
    split
    ·rfl
    split
    ·rfl
    split
    ·rfl
    ·unfold Ws.aj;split<;>rfl
   rw [dN,Yc U];have h1:(Ws.value itoa f items { s with row:=s.row.dropLast} a).out.size≤s.out.size+(24+x.aj.size):=hw.out;exact ⟨⟨by omega,fun h=>hw.tx (BB h),hw.bX⟩,by omega⟩
 cases t with
 | text t=>
  simp only;refine ⟨⟨?_,fun h=>BB h,by show s.bX≤_;omega⟩,Nat.le_refl _⟩;show (s.out++t).size≤_;rw [fC];have:=ht t en;omega
 | val=>exact val false
 | arg=>exact val true
 | rest=>
  simp only;unfold Ws.wl;have Er:EA (32+(gR (items.take s.at') - gR (items.take s.at'))) s ((Ws.cE { s with row:=s.row.dropLast} ⟨#[32,124,32]⟩).later [.val,.text ⟨#[93]⟩]):=by
   refine ⟨?_,fun h=>xY (BB h) (BA (Ya (O2 (by decide)))),by show s.bX≤_;omega⟩;show (s.out++_).size≤_;rw [fC];show _+3≤_;omega
  cases U:items[s.at']? with
  | none=>simp only [U];exact ⟨Er,Nat.le_refl _⟩
  | some x=>
   simp only [U];have hs:=Yc U
   split
   ·refine ⟨⟨?_,fun h=>xY (BB h) (BA (fun t ht=>by simp at ht)),by show s.bX≤_;omega⟩,by show _≤gR (items.take (s.at'+1));omega⟩;show (s.out++_).size≤_;rw [fC];show _+2≤_;omega
   split
   ·refine ⟨⟨?_,fun h=>BB h,by show s.bX≤_;omega⟩,by show _≤gR (items.take (s.at'+1));omega⟩;show (s.out++_).size≤_;rw [fC];show _+1≤_;omega
   ·exact ⟨Er,Nat.le_refl _⟩
theorem Ye (hi:∀ n,0 < (itoa n).size) (jF:∀ x∈items,x.aj=⟨#[]⟩→(itoa x.num).size≤21) (hk:ic f items=true) {k:Nat} {s:Ws} (h:BC itoa f items k s) (hr:s.row≠[]):BC itoa f items (k+1) (s.step itoa f items):=by
 obtain ⟨h1,h2⟩:=Ep hi hk h.inv hr;obtain ⟨h3,h4⟩:=akT (itoa:=itoa) (f:=f) jF h.tx hr;refine ⟨h1,by have:=h.mu;omega,?_,h3.tx h.tx,by have:=h3.bX;have:=h.bX;omega⟩;have:=h3.out;have:=h.out;omega
theorem O3:∀ (n:Nat) (s:Ws),s.steps itoa f items (n+1)=(s.steps itoa f items n).step itoa f items
 | 0,s=>rfl
 | n+1,s=>by
  rw [Ws.steps,O3 n (s.step itoa f items)];rfl
theorem Yf:∀ (a b:Nat) (s:Ws),s.steps itoa f items (a+b)=(s.steps itoa f items a).steps itoa f items b
 | 0,b,s=>by rw [Nat.zero_add];rfl
 | a+1,b,s=>by
  rw [show a+1+b=(a+b)+1 by omega,Ws.steps,Yf a b];rfl
theorem Yg {k:Nat} (hk:k≤64*items.length+2) (hr:(kV.steps itoa f items k).row=[]):ie itoa f items=kV.steps itoa f items k:=by
 unfold ie;rw [show 64*items.length+2=k+(64*items.length+2 - k) by omega,Yf,Hx hr]
theorem akU {s:Ws}:s.row.length≤s.mu items:=by
 unfold Ws.mu;have:s.row.length≤(s.row.map Td.om).sum:=by
  induction s.row with
  | nil=>exact Nat.zero_le _
  | cons t l ih=>
   rw [List.map_cons,List.sum_cons,List.length_cons];have:1≤t.om:=by cases t<;>simp [Td.om]
   omega
 omega
end
end
section
open Go Go.W Go.RowKit
structure ItF (L:List (ByteArray×Int)) (items:List It):Prop where
 known:ic (FL L) items=true
 len:items.length≤4194304
 sum:gR items≤17592186044416
theorem zG (n:Int):0 < (a8 n).size:=by
 show 0 < (Lib.itoa n).length;unfold Lib.itoa
 split
 ·simp
 ·rw [Lib.decDigits_length];exact Lib.nDigits_pos _
theorem EB {f:eE} {items:List It} (h:ic f items=true) {x:It} (U:x∈items) (h0:x.aj=⟨#[]⟩) : -4611686018427387904≤x.num∧x.num≤4611686018427387903:=by
 unfold ic at h;have:=List.all_eq_true.1 h x U;rw [if_pos h0] at this
 simpa using this
theorem akV {items:List It} {x:It} (U:x∈items):x.aj.size≤gR items:=by
 induction items with
 | nil=>cases U
 | cons y l ih=>
  unfold gR at ih ⊢;rw [List.map_cons,List.sum_cons];rcases List.mem_cons.1 U with rfl | h
  ·omega
  ·have:=ih h;omega
section
variable {lo p mp:Nat} {w:World} {vI:Value} {s:Ws} {items:List It} {L:List (ByteArray×Int)}
theorem akW (h:eV lo w p vI mp ⟨0,0,[],⟨#[]⟩⟩) (hi:rh lo w vI mp items L) (ht:lU lo w) (hf:ItF L items):aK Tryz.prog 31 [ptr p] w fun r w'=>eV lo w' p vI mp (ie a8 (FL L) items)∧Mod (Wt lo mp) w w':=by
 have jF:∀ x∈items,x.aj=⟨#[]⟩→(a8 x.num).size≤21:=fun x U h0=>by
  have:=EB hf.known U h0;exact HF _ ⟨by omega,by omega⟩
 have hk:=hf.known;have hlen:=hf.len;refine ajR.calls rfl ?_;unfold Ot;(try simp only [go_sem,simprocAttr]);refine cd (by rfl) (by rfl) ?_;intro w1 ax ag cL;have l1:ow w w1 _ [.val]:=Ew (Mod.refl _ _) ax ag rfl;(try simp only [go_sem,simprocAttr,ptr]);refine aq (by rfl) ?_;refine (Ex h l1 (by decide) (by decide)).mono ?_;rintro r w2 ⟨h2,ae⟩;(try simp only [go_sem,simprocAttr,ptr]);refine dA (fun z ρ w'=>∃ (k:Nat) (s:Ws),z=s.mu items∧s=kV.steps a8 (FL L) items k∧BC a8 (FL L) items k s∧eV lo w' p vI mp s∧Mod (Wt lo mp) w w'∧ρ=[(0,ptr p)]) (kV.mu items) ⟨0,kV,rfl,rfl,Yb,h2,ae,rfl⟩ ?_;rintro z ρ w3 ⟨k,s,rfl,hs,bN,h3,ab,rfl⟩;have pJ:=hi.mod ab;have O4:=ht.mod ab;have Q9:=bN.mu;have Jw:=akU (items:=items) (s:=s);obtain ⟨vR,pv,vB,fR,fB,hF⟩:=h3;have ey:=hF.cells;unfold Xq;cases hl:s.row.getLast? with
 | none=>
  have h0:s.row=[]:=List.getLast?_eq_none_iff.1 hl;obtain ⟨va,vc,rfl,_,_⟩:=hF.row.val;have e1:decide ((s.row.length:Int) > 0)=false:=by rw [h0];rfl
  (try simp only [go_sem,simprocAttr,cell_of ey,ez,ptr,e1]);have wm:ie a8 (FL L) items=s:=by
   rw [hs] at h0 ⊢;exact Yg (by omega) h0
  refine ⟨?_,ab⟩;rw [wm];exact ⟨_,_,_,_,_,hF⟩
 | some t=>
  have eL:=OP hl;have bj:s.row≠[]:=fun e=>by rw [e] at hl;cases hl
  obtain ⟨m,hm⟩:∃ m,s.row.length=m+1:=⟨s.row.length - 1,by have:=List.length_pos_iff.2 bj;omega⟩;obtain ⟨b,c,cg,rfl,rfl,r3,r4,r5⟩:∃ b c cg,vR = .slice (some ⟨b,0,none⟩) s.row.length c∧fR=some b∧w3.heap[b]? = some (.cells (s.row.flatMap jc++cg).toArray 122 (0,0))∧c*2≤(s.row.flatMap jc++cg).length∧s.row.length≤c:=by
   rcases hF.row.2 with ⟨_,h',_⟩ | h'
   ·omega
   ·exact h'
  have xZ:¬ c=0:=by omega
  have x9:s.row.dropLast.length=m:=by rw [List.length_dropLast];omega
  have dI:s.row.flatMap jc=s.row.dropLast.flatMap jc++jc t:=by
   conv=>lhs;rw [eL,List.flatMap_append]
   simp
  have O5:(s.row.dropLast.flatMap jc).length=m*2:=by rw [OW,x9]
  have ed:cH w3 2 (.pointer (some ⟨b,m*2,none⟩))=some (.agg #[I (nh t),.string (ni t)]):=by
   have hh:=cell_of r3;rw [dI,OS] at hh;refine sJ ?_ ?_
   ·rw [Addr.add_zero'];refine (hh _).trans ?_;rw [List.getElem?_toArray,List.append_assoc,List.getElem?_append_right (by omega),O5,Nat.sub_self];rfl
   ·rw [Addr.add_lit];refine (hh _).trans ?_;rw [List.getElem?_toArray,List.append_assoc,List.getElem?_append_right (by omega),O5,show m*2+1 - m*2=1 by omega];rfl
  have e1:decide (((m+1:Nat):Int) > 0)=true:=by rw [decide_eq_true_eq];omega
  have e2:IntKind.i64.wrap (((m+1:Nat):Int) - 1)=(m:Int):=by rw [IntKind.wrap_i64];omega
  have akX:=Ye zG jF hk bN bj;have akY:=(Ep zG hk bN.inv bj).2;have e3:(0:Int)≤(m:Int)∧(m:Int) < ((m+1:Nat):Int):=by omega
  have e4:(m:Int)≤(c:Int):=by omega
  rw [hm] at ey;(try simp only [go_sem,simprocAttr,cell_of ey,ez,ptr,e1,e2,e3,e4,xZ,decide_true,Int.toNat_natCast,ed]);have hpb:p≠b:=fun e=>(hF.fr b rfl).2.1 e.symm
  have bE:=lt_of_heap ey;refine dk ?_;intro w4 oh ai eu;have sY:w4.heap[w3.heap.size]? = some (.cells [I 0,.string ⟨#[]⟩].toArray 122 (0,0)):=oh;refine cX (vs:=[I (nh t),.string (ni t)]) rfl rfl sY rfl rfl (by intro u hu;simp only [List.mem_cons,List.not_mem_nil,or_false] at hu;rcases hu with rfl | rfl<;>rfl) ?_;intro w5 hD aB fP;have eI:Mod (fun _=>False) w3 w5:=ai.step aB (fun b hb ah=>by omega);have hP:=eI.at ey (fun hh=>hh);(try simp only [go_sem,simprocAttr,cell_of hP,ez,e4,xZ,Option.map_some,Nat.sub_zero]);refine bY (off:=4) rfl rfl hP rfl (by simp [ez]) ?_;intro w6 mX aD mK;have p9:=aD.at hD (fun hh=>by omega);have O6:=hF.later (eI.az (fun _ hh=>hh.elim));have zx:pb lo w6 p vI mp { s with row:=s.row.dropLast} (.slice (some ⟨b,0,none⟩) m c) pv vB (some b) fB:=by
   refine ⟨mX,hF.pv,?_,O6.buf.mod aD (fun b hb hh=>(hF.fb b hb).2.1 hh),hF.qe,hF.pc,by have:=O6.pe;omega,by have:=O6.ou;omega,hF.fr,hF.fb⟩;show ao w6 _ 2 _ (s.row.dropLast.flatMap jc) s.row.dropLast.length _;rw [x9];refine ⟨O5,.inr ⟨b,c,jc t++cg,rfl,rfl,?_,?_,by omega⟩⟩
   ·have:=aD.at (eI.at r3 (fun hh=>hh)) (fun hh=>hpb hh.symm);rw [this,dI,List.append_assoc]
   ·rw [dI,List.append_assoc] at r4;exact r4
  have h6:eV lo w6 p vI mp { s with row:=s.row.dropLast}:=⟨_,_,_,_,_,zx⟩;have O7:Mod (Wt lo mp) w3 w6:=(eI.az (fun _ hh=>hh.elim)).trans (aD.az (fun b hb=>by subst hb;exact ⟨hF.qe,fun e=>hF.pc e.symm⟩));have vq:=pJ.mod O7;have O8:=O4.mod O7;have gE:=ab.trans O7;have vQ:=bN.out;have p8:=Yd (items:=items) s.at';have pK:=hf.sum;have HH:=bN.bX;have Yh:=bN.inv.bX;have hle:=bN.inv.le;have Yi:∀ x,items[s.at']? = some x→(x.aj=⟨#[]⟩ → -4611686018427387904≤x.num∧x.num≤4611686018427387903)∧(x.aj≠⟨#[]⟩→0≤(FL L).of x.aj∧(FL L).of x.aj≤8)∧x.aj.size≤35184372088832:=fun x U=>by
   have en:=List.mem_of_getElem? U;refine ⟨fun h0=>EB hk en h0,fun h0=>(Eo hk U).resolve_left h0,?_⟩;have:=akV en;omega
  have ua:∀ w':World,eV lo w' p vI mp (s.step a8 (FL L) items)→Mod (Wt lo mp) w w'→∃ m,m < s.mu items∧∃ (k:Nat) (s':Ws),m=s'.mu items∧s'=kV.steps a8 (FL L) items k∧BC a8 (FL L) items k s'∧eV lo w' p vI mp s'∧Mod (Wt lo mp) w w':=
   fun w' g1 g2=>⟨_,akY,k+1,_,rfl,by rw [O3,← hs],akX,g1,g2⟩
  have O9:s.row.dropLast.length≤2147483648:=by omega
  have b00:((0:Int) == 0)=true:=rfl;have b10:((1:Int) == 0)=false:=rfl;have O':((1:Int) == 3)=false:=rfl;have Pa:((1:Int) == 2)=false:=rfl;have b20:((2:Int) == 0)=false:=rfl;have Pb:((2:Int) == 3)=false:=rfl;have Pc:((2:Int) == 2)=true:=rfl;have b30:((3:Int) == 0)=false:=rfl;have Pd:((3:Int) == 3)=true:=rfl;cases t with
  | text tx=>
   have OZ:w6.drew.heap[w3.heap.size]? = _:=p9;have hsx:=bN.tx tx (List.mem_of_getLast? hl);(try simp only [go_sem,simprocAttr,cell_of p9,cell_of OZ,nh,ni,ptr,b00]);refine aq (by rfl) ?_;refine (sX (h6.quiet (Mod.refl _ _).drew) (show s.out.size+tx.size≤_ by omega)).mono ?_;rintro r w7 ⟨h7,aX⟩;(try simp only [go_sem,simprocAttr]);refine ua w7 ?_ (gE.drew.trans aX);unfold Ws.step;rw [hl];exact h7
  | val=>
   (try simp only [go_sem,simprocAttr,cell_of p9,nh,ni,ptr,b10,O',Pa]);refine aq (by rfl) ?_;refine (XV (a:=false) h6 vq O8 hle ⟨Yh,(show s.bX≤_ by omega)⟩ Yi (show s.out.size≤_ by omega) O9).mono ?_;rintro r w7 ⟨h7,aX⟩;(try simp only [go_sem,simprocAttr]);refine ua w7 ?_ (gE.trans aX);unfold Ws.step;rw [hl];exact h7
  | arg=>
   (try simp only [go_sem,simprocAttr,cell_of p9,nh,ni,ptr,b20,Pb,Pc]);refine aq (by rfl) ?_;refine (XV (a:=true) h6 vq O8 hle ⟨Yh,(show s.bX≤_ by omega)⟩ Yi (show s.out.size≤_ by omega) O9).mono ?_;rintro r w7 ⟨h7,aX⟩;(try simp only [go_sem,simprocAttr]);refine ua w7 ?_ (gE.trans aX);unfold Ws.step;rw [hl];exact h7
  | rest=>
   (try simp only [go_sem,simprocAttr,cell_of p9,nh,ni,ptr,b30,Pd]);refine aq (by rfl) ?_;refine (akM h6 vq (show s.out.size≤_ by omega) O9).mono ?_;rintro r w7 ⟨h7,aX⟩;(try simp only [go_sem,simprocAttr]);refine ua w7 ?_ (gE.trans aX);unfold Ws.step;rw [hl];exact h7
end
end
section
open Go Go.W Go.RowKit
def iy (f:eE) (x:It):Bool:=if x.aj=⟨#[]⟩ then decide (-4611686018427387904≤x.num)&&decide (x.num≤4611686018427387903)
 else decide (x.num=0)&&(match f x.aj with
  | none=>false
  | some n=>decide (0≤n)&&decide (n≤8))
theorem Pe (f:eE) (items:List It):ic f items=items.all (iy f):=rfl
theorem Yj {f:eE} {items:List It} {i:Nat} {x:It} (U:items[i]? = some x) (h:(items.take i).all (iy f)=true) (hm:iy f x=true):(items.take (i+1)).all (iy f)=true:=by
 obtain ⟨hl,rfl⟩:=List.getElem?_eq_some_iff.1 U;rw [List.take_succ_eq_append_getElem hl,List.all_append,h];simp [hm]
theorem HI {f:eE} {items:List It} {i:Nat} {x:It} (U:items[i]? = some x) (hm:iy f x=false):ic f items=false:=by
 rw [Pe];cases h:items.all (iy f) with
 | false=>rfl
 | true=>
  have:=List.all_eq_true.1 h x (List.mem_of_getElem? U);rw [hm] at this;cases this
section
variable {lo p mp:Nat} {w:World} {vI:Value} {s:Ws} {items:List It} {L:List (ByteArray×Int)}
theorem akZ (h:eV lo w p vI mp s) (hi:rh lo w vI mp items L):aK Tryz.prog 30 [ptr p] w fun r w'=>r = .bool (ic (FL L) items)∧Mod (fun _=>False) w w':=by
 have hl:=hi.len;obtain ⟨vR,pv,vB,hc⟩:=h.cells;obtain ⟨va,vc,Pf⟩:=OV hi;subst Pf;have HG:lo≤w.heap.size∧p < w.heap.size∧mp < w.heap.size:=by
  obtain ⟨_,_,_,_,_,hF⟩:=h;exact ⟨hF.ou,lt_of_heap hF.cells,hF.pe⟩
 refine ajQ.calls rfl ?_;unfold Oq;simp only [go_sem,simprocAttr,cell_of hc,ez,ptr];refine dA (fun z ρ w'=>∃ (i:Nat),z=items.length - i∧i≤items.length∧Mod (fun _=>False) w w'∧(items.take i).all (iy (FL L))=true∧ρ=[(0,ptr p),(10,.slice va items.length vc),(11,I items.length),(12,I i)]) items.length ⟨0,rfl,Nat.zero_le _,Mod.refl _ _,rfl,rfl⟩ ?_;rintro z ρ w1 ⟨i,rfl,bO,hm,df,rfl⟩;have h1:=h.quiet hm;have rV:=hi.mod (hm.az (fun _ hh=>hh.elim));unfold Xp;rcases Nat.lt_or_ge i items.length with ah | hge
 ·obtain ⟨x,U⟩:∃ x,items[i]? = some x:=⟨_,List.getElem?_eq_getElem ah⟩;obtain ⟨ad,c,ox,pO,fJ,fZ⟩:=OU rV U;cases ox;have e1:decide ((i:Int) < items.length)=true:=by rw [decide_eq_true_eq];omega
  have e2:IntKind.i64.wrap ((i:Int)+1)=((i+1:Nat):Int):=by rw [IntKind.wrap_i64];omega
  have e3:(0:Int)≤i∧(i:Int) < items.length:=by omega
  have ed:cH w1 2 (.pointer (some (ad.add (i*2))))=some (.agg #[.string x.aj,I x.num]):=
   sJ (by rw [Addr.add_zero'];exact fJ) fZ
  simp only [go_sem,simprocAttr,e1,e3,decide_true,Int.toNat_natCast,ed];refine dk ?_;intro w2 oh ae dq;have sY:w2.heap[w1.heap.size]? = some (.cells [.string ⟨#[]⟩,I 0].toArray 42 (0,0)):=oh;refine cX (vs:=[.string x.aj,I x.num]) rfl rfl sY rfl rfl (by intro u hu;simp only [List.mem_cons,List.not_mem_nil,or_false] at hu;rcases hu with rfl | rfl<;>rfl) ?_;intro w3 hD ab eP;have dZ:Mod (fun _=>False) w1 w3:=ae.step ab (fun b hb ah=>by omega);have dy:=hm.trans dZ;have pJ:=rV.mod (dZ.az (S':=Wt lo mp) (fun _ hh=>hh.elim));have ey:=dy.at hc (fun hh=>hh);have next:∀ w',Mod (fun _=>False) w w'→iy (FL L) x=true→∃ m,m < items.length - i∧∃ i',m=items.length - i'∧i'≤items.length∧Mod (fun _=>False) w w'∧(items.take i').all (iy (FL L))=true∧([(0,ptr p),(10,.slice (some ad) items.length vc),(11,I items.length),(12,I ((i+1:Nat):Int))]:Go.W.Env)=[(0,ptr p),(10,.slice (some ad) items.length vc),(11,I items.length),(12,I i')]:=
   fun w' g1 g2=>⟨_,by omega,i+1,rfl,by omega,g1,Yj U df g2,rfl⟩
  by_cases h0:x.aj=⟨#[]⟩
  ·have b0:decide (x.aj=⟨#[]⟩)=true:=by simp [h0]
   by_cases n1:x.num < -4611686018427387904
   ·have b1:decide (x.num < -4611686018427387904)=true:=by simp;omega
    simp only [go_sem,simprocAttr,cell_of hD,ig,b0,b1];refine ⟨?_,dy⟩;rw [HI U (by unfold iy;rw [if_pos h0];simp;omega)]
   ·have b1:decide (x.num < -4611686018427387904)=false:=by simp;omega
    by_cases n2:x.num > 4611686018427387903
    ·have b2:decide (x.num > 4611686018427387903)=true:=by simp;omega
     simp only [go_sem,simprocAttr,cell_of hD,ig,b0,b1,b2];refine ⟨?_,dy⟩;rw [HI U (by unfold iy;rw [if_pos h0];simp;omega)]
    ·have b2:decide (x.num > 4611686018427387903)=false:=by simp;omega
     simp only [go_sem,simprocAttr,cell_of hD,ig,b0,b1,b2,e2];exact next w3 dy (by unfold iy;rw [if_pos h0];simp;omega)
  ·have b0:decide (x.aj=⟨#[]⟩)=false:=by simp [h0]
   have jK:w3.drew.heap[w1.heap.size]? = _:=hD;have ak0:w3.drew.heap[p]? = _:=ey;simp only [go_sem,simprocAttr,cell_of hD,cell_of jK,cell_of ey,cell_of ak0,ez,ptr,ig,b0];refine WW (b:=mp) (l:=L) (kt:=9) (et:=3) rfl rfl Tryz.underlying80 Tryz.underlying9 (Tryz.zeroValue3 _) (p7 pJ.mp ((Mod.refl (fun _=>False) w3).drew) (fun h=>h)) ?_;have no:iy (FL L) x=false→Value.bool false=Value.bool (ic (FL L) items)∧Mod (fun _=>False) w w3.drew:=fun hh=>⟨by rw [HI U hh],dy.drew⟩
   by_cases n0:x.num=0
   ·have b1:(x.num != 0)=false:=by simp [n0]
    cases hg:hZ L x.aj with
    | none=>
     simp only [go_sem,simprocAttr,cell_of jK,Bool.not_false,Bool.not_true,Option.getD_none,Option.isSome_none,b1];exact no (by unfold iy;rw [if_neg h0];show (_&&match hZ L x.aj with | none=>false | some n=>_)=_;rw [hg];simp)
    | some n=>
     by_cases n1:n < 0
     ·have b2:decide (n < 0)=true:=by simp;omega
      simp only [go_sem,simprocAttr,cell_of jK,Bool.not_false,Bool.not_true,Option.getD_some,Option.isSome_some,b1,b2];exact no (by unfold iy;rw [if_neg h0];show (_&&match hZ L x.aj with | none=>false | some n=>_)=_;rw [hg];simp;omega)
     ·have b2:decide (n < 0)=false:=by simp;omega
      by_cases n2:n > 8
      ·have b3:decide (n > 8)=true:=by simp;omega
       simp only [go_sem,simprocAttr,cell_of jK,Bool.not_false,Bool.not_true,Option.getD_some,Option.isSome_some,b1,b2,b3];exact no (by unfold iy;rw [if_neg h0];show (_&&match hZ L x.aj with | none=>false | some n=>_)=_;rw [hg];simp;omega)
      ·have b3:decide (n > 8)=false:=by simp;omega
       simp only [go_sem,simprocAttr,cell_of jK,Bool.not_false,Bool.not_true,Option.getD_some,Option.isSome_some,b1,b2,b3,e2];exact next w3.drew dy.drew (by unfold iy;rw [if_neg h0];show (_&&match hZ L x.aj with | none=>false | some n=>_)=_;rw [hg];simp;omega)
   ·have b1:(x.num != 0)=true:=by simp [n0]
    simp only [go_sem,simprocAttr,cell_of jK,b1];exact no (by unfold iy;rw [if_neg h0];simp [n0])
 ·obtain rfl:i=items.length:=by omega
  have e1:decide (((items.length:Nat):Int) < items.length)=false:=by simp
  simp only [go_sem,simprocAttr,e1];refine ⟨?_,hm⟩;rw [Pe];rw [List.take_length] at df;rw [df]
end
end
section
open Go Go.W Go.RowKit
theorem HJ {l:List gF} {i:Nat} {x:gF} (U:l[i]? = some x) (k:ByteArray):eF (l.take (i+1)) k=(match eF (l.take i) k with
   | some n=>some n
   | none=>if x.name=k then some x.fields else none):=by
 obtain ⟨hl,rfl⟩:=List.getElem?_eq_some_iff.1 U;unfold eF;rw [List.take_succ_eq_append_getElem hl,List.find?_append];cases h:(l.take i).find? (fun x=>decide (x.name=k)) with
 | some y=>rfl
 | none=>
  simp only [Option.none_or,Option.map_none,List.find?_cons,List.find?_nil];by_cases h2:l[i].name=k
  ·simp [h2]
  ·simp [h2]
theorem ak1 {l:List (ByteArray×Int)} {k:ByteArray} {v:Int} (h:hZ l k=none) (q:ByteArray):hZ (wh l k v) q=(match hZ l q with
   | some n=>some n
   | none=>if k=q then some v else none):=by
 have hn:l.find? (fun p=>decide (p.1=k))=none:=by
  unfold hZ at h;cases hh:l.find? (fun p=>decide (p.1=k)) with
  | none=>rfl
  | some y=>rw [hh] at h;cases h
 have hi:l.findIdx? (fun p=>decide (p.1=k))=none:=by
  rw [List.findIdx?_eq_none_iff];intro x U;exact Bool.eq_false_iff.2 (List.find?_eq_none.1 hn x U)
 unfold wh;rw [hi];unfold hZ;rw [List.find?_append];cases hq:l.find? (fun p=>decide (p.1=q)) with
 | some y=>rfl
 | none=>
  simp only [Option.none_or,Option.map_none,List.find?_cons,List.find?_nil];by_cases h2:k=q
  ·simp [h2]
  ·simp [h2]
theorem Yk {itoa:Int→ByteArray} {f:eE} {items:List It} (hi:∀ n,0 < (itoa n).size) (jF:∀ x∈items,x.aj=⟨#[]⟩→(itoa x.num).size≤21) (hk:ic f items=true):∀ n,∃ k,k≤n∧BC itoa f items k (kV.steps itoa f items n)
 | 0=>⟨0,Nat.le_refl _,Yb⟩
 | n+1=>by
  obtain ⟨k,h1,h2⟩:=Yk hi jF hk n;rw [O3];by_cases hr:(kV.steps itoa f items n).row=[]
  ·have:(kV.steps itoa f items n).step itoa f items=kV.steps itoa f items n:=by unfold Ws.step;rw [hr];rfl
   rw [this];exact ⟨k,by omega,h2⟩
  ·exact ⟨k+1,by omega,Ye hi jF hk h2 hr⟩
theorem Yl {itoa:Int→ByteArray} {f:eE} {items:List It} (hi:∀ n,0 < (itoa n).size) (jF:∀ x∈items,x.aj=⟨#[]⟩→(itoa x.num).size≤21) (hk:ic f items=true) (hl:items.length≤4194304) (hs:gR items≤17592186044416):(ie itoa f items).out.size≤140737488355328:=by
 obtain ⟨k,h1,h2⟩:=Yk hi jF hk (64*items.length+2);have:=h2.out;have:=Yd (items:=items) (ie itoa f items).at';show (kV.steps itoa f items (64*items.length+2)).out.size≤_;have e:(ie itoa f items)=kV.steps itoa f items (64*items.length+2):=rfl;rw [e] at this;omega
section
variable {lo p mp:Nat} {w:World} {vI vS:Value} {s:Ws} {items:List It} {au:List gF} {L:List (ByteArray×Int)}
theorem Pg {B:Nat→Prop} (h:cO w vS 2 (au.map fy) B) {k:Nat} {x:gF} (U:au[k]? = some x):∃ ad c,vS = .slice (some ad) au.length c∧w.cell? (ad.add (k*2))=some (.string x.name)∧w.cell? ((ad.add (k*2)).add 1)=some (I x.fields):=by
 obtain ⟨hl,rfl⟩:=List.getElem?_eq_some_iff.1 U;obtain ⟨a,c,h1,h3,h2⟩:=h;obtain ⟨ad,rfl,_,h4⟩:=h2 k (by simpa using hl);refine ⟨ad,c,by simpa using h1,?_,?_⟩
 ·have:=h4 0 (by simp [fy]);rw [Addr.add_zero'] at this
  simpa [fy] using this
 ·simpa [fy] using h4 1 (by simp [fy])
theorem eV.map {w':World} (h:eV lo w p vI mp s) (hm:Mod (· = mp) w w'):eV lo w' p vI mp s:=by
 obtain ⟨vR,pv,vB,fR,fB,h⟩:=h;exact ⟨_,_,_,_,_,⟨hm.at h.cells (fun hh=>h.pc hh.symm),h.pv,h.row.mod hm (fun b hb hh=>(h.fr b hb).2.2 hh),h.buf.mod hm (fun b hb hh=>(h.fb b hb).2.2.1 hh),h.qe,h.pc,by have:=h.pe;have:=hm.size;omega,by have:=h.ou;have:=hm.size;omega,h.fr,h.fb⟩⟩
theorem Ph (hI:cO w vI 2 (items.map ec) (· < w.heap.size)) (hS:cO w vS 2 (au.map fy) (· < w.heap.size)) (ht:lU w.heap.size w) (hlen:items.length≤4194304) (uw:au.length≤4294967296) (p8:gR items≤17592186044416) :
   aK Tryz.prog 14 [vI,vS] w fun r w'=>r = .tuple #[.string (qd a8 au items).1,I (qd a8 au items).2]∧Mod (fun _=>False) w w':=by
 obtain ⟨lo,pO⟩:∃ lo,lo=w.heap.size:=⟨_,rfl⟩;obtain ⟨a1,c1,lL⟩:∃ a c,vI = .slice a items.length c:=by
  obtain ⟨a,c,h1,_⟩:=hI;exact ⟨a,c,by simpa using h1⟩
 obtain ⟨a2,c2,gD⟩:∃ a c,vS = .slice a au.length c:=by
  obtain ⟨a,c,h1,_⟩:=hS;exact ⟨a,c,by simpa using h1⟩
 subst lL gD;refine ajI.calls rfl ?_;unfold Oc;(try simp only [go_sem,simprocAttr]);refine WV ?_;intro w1 kW ag cL;(try simp only [go_sem,simprocAttr]);refine cK rfl ?_;intro w2 iU ae dq;have cB:w2.heap[w1.heap.size]? = some (.cells (ez (.slice a1 items.length c1) 0 w.heap.size 0 (.slice none 0 0) (.pointer none) (.slice none 0 0)).toArray 86 (0,0)):=iU;have cq:=ag.trans ae;have h2:eV lo w2 w1.heap.size (.slice a1 items.length c1) w.heap.size ⟨0,0,[],⟨#[]⟩⟩:=
  ⟨_,_,_,none,none,⟨cB,.inl rfl,ao.nil _ _ _,ao.nil _ _ _,by omega,by omega,by omega,by omega,(fun b h=>by cases h),(fun b h=>by cases h)⟩⟩
 have Pj:∀ {w':World},Mod (fun b=>lo≤b) w w'→cO w' (.slice a1 items.length c1) 2 (items.map ec) (· < lo):=fun hm=>hI.mod hm (fun b hb hh=>by omega) (fun b hb=>by omega)
 have Et:∀ {w':World},Mod (fun b=>lo≤b) w w'→cO w' (.slice a2 au.length c2) 2 (au.map fy) (· < lo):=fun hm=>hS.mod hm (fun b hb hh=>by omega) (fun b hb=>by omega)
 have fin:∀ {w':World},Mod (fun b=>lo≤b) w w'→Mod (fun _=>False) w w':=fun hm=>⟨hm.size,fun b hb _=>hm.old b hb (by omega),hm.os,hm.tape,hm.output⟩
 (try simp only [go_sem,simprocAttr,ptr])
 refine dA (fun z ρ w'=>∃ (i:Nat) (L:List (ByteArray×Int)),z=au.length - i∧i≤au.length∧(∀ k,hZ L k=eF (au.take i) k)∧mj w' w.heap.size L∧eV lo w' w1.heap.size (.slice a1 items.length c1) w.heap.size ⟨0,0,[],⟨#[]⟩⟩∧Mod (fun b=>lo≤b) w w' ∧
  ρ=[(0,.slice a1 items.length c1),(6,ptr w1.heap.size),(15,.slice a2 au.length c2),(16,I au.length),(17,I i)]) au.length ⟨0,[],rfl,Nat.zero_le _,fun _=>rfl,p7 kW ae (fun h=>h),h2,cq.az (fun _ hh=>hh.elim),rfl⟩ ?_
 rintro z ρ w3 ⟨i,L,rfl,hi,hL,mq,h3,ab,rfl⟩;unfold Xm;rcases Nat.lt_or_ge i au.length with ah | hge
 ·obtain ⟨x,U⟩:∃ x,au[i]? = some x:=⟨_,List.getElem?_eq_getElem ah⟩;obtain ⟨ad,c,ox,fJ,fZ⟩:=Pg (Et ab) U;cases ox;have e1:decide ((i:Int) < au.length)=true:=by rw [decide_eq_true_eq];omega
  have e2:IntKind.i64.wrap ((i:Int)+1)=((i+1:Nat):Int):=by rw [IntKind.wrap_i64];omega
  have e3:(0:Int)≤i∧(i:Int) < au.length:=by omega
  have ed:cH w3 2 (.pointer (some (ad.add (i*2))))=some (.agg #[.string x.name,I x.fields]):=
   sJ (by rw [Addr.add_zero'];exact fJ) fZ
  (try simp only [go_sem,simprocAttr,e1,e3,decide_true,Int.toNat_natCast,ed]);refine dk ?_;intro w4 oh ai eu;have sY:w4.heap[w3.heap.size]? = some (.cells [.string ⟨#[]⟩,I 0].toArray 47 (0,0)):=oh;refine cX (vs:=[.string x.name,I x.fields]) rfl rfl sY rfl rfl (by intro u hu;simp only [List.mem_cons,List.not_mem_nil,or_false] at hu;rcases hu with rfl | rfl<;>rfl) ?_;intro w5 hD aB fP;have eI:Mod (fun _=>False) w3 w5:=ai.step aB (fun b hb ah=>by omega);have h5:=h3.quiet eI;have sS:=p7 mq eI (fun h=>h);have dH:Mod (fun b=>lo≤b) w w5:=ab.trans (eI.az (fun _ hh=>hh.elim));obtain ⟨vR,pv,vB,hP⟩:=h5.cells;have jK:w5.drew.heap[w3.heap.size]? = _:=hD;have EC:w5.drew.heap[w1.heap.size]? = _:=hP;have ED:=p7 sS ((Mod.refl (fun _=>False) w5).drew) (fun h=>h);(try simp only [go_sem,simprocAttr,cell_of hD,cell_of jK,cell_of hP,cell_of EC,ez,ptr]);refine WW (b:=w.heap.size) (l:=L) (kt:=9) (et:=3) rfl rfl Tryz.underlying80 Tryz.underlying9 (Tryz.zeroValue3 _) ED ?_;cases hg:hZ L x.name with
  | some n=>
   (try simp only [go_sem,simprocAttr,Option.getD_some,Option.isSome_some,Bool.not_true,e2]);refine ⟨_,?_,i+1,L,rfl,by omega,fun k=>?_,ED,h5.quiet (Mod.refl _ _).drew,dH.drew,rfl⟩
   ·omega
   ·rw [HJ U,hL];cases hq:eF (au.take i) k with
    | some m=>rfl
    | none=>
     have:x.name≠k:=fun e=>by subst e;rw [hL,hq] at hg;cases hg
     simp [this]
  | none=>
   have ak2:w5.drew.drew.heap[w3.heap.size]? = _:=hD;have ak3:w5.drew.drew.heap[w1.heap.size]? = _:=hP;(try simp only [go_sem,simprocAttr,Option.getD_none,Option.isSome_none,Bool.not_false,cell_of hD,cell_of hP,cell_of jK,cell_of ak2,cell_of EC,cell_of ak3,ez,ptr]);refine NN (b:=w.heap.size) (l:=L) (kt:=9) (et:=3) (v:=x.fields) rfl rfl rfl Tryz.underlying80 Tryz.underlying9 (p7 ED ((Mod.refl (fun _=>False) w5.drew).drew) (fun h=>h)) ?_;intro w6 xU aD mK;(try simp only [go_sem,simprocAttr,e2]);refine ⟨_,?_,i+1,_,rfl,by omega,fun k=>?_,xU,((h5.quiet (Mod.refl _ _).drew).quiet (Mod.refl _ _).drew).map aD,dH.drew.drew.trans (aD.az (fun b hb=>by subst hb;omega)),rfl⟩
   ·omega
   ·rw [ak1 hg,HJ U,hL]
 ·obtain rfl:i=au.length:=by omega
  have e1:decide (((au.length:Nat):Int) < au.length)=false:=by simp
  rw [List.take_length] at hL;(try simp only [go_sem,simprocAttr,e1]);have dI:FL L=eF au:=funext hL;have pJ:rh lo w3 (.slice a1 items.length c1) w.heap.size items L:=⟨Pj ab,mq,by omega⟩;have O4:lU lo w3:=by
   subst pO;exact ht.mod (mp:=w.heap.size+1000) (fin ab |>.az (fun _ hh=>hh.elim))
  (try simp only [go_sem,simprocAttr,ptr]);refine aq (by rfl) ?_;refine (akZ h3 pJ).mono ?_;rintro _ w4 ⟨rfl,ai⟩;cases hk:ic (FL L) items with
  | false=>
   (try simp only [go_sem,simprocAttr,Bool.not_false]);refine ⟨?_,fin (ab.trans (ai.az (fun _ hh=>hh.elim)))⟩;unfold qd;rw [if_neg (by rw [← dI,hk];simp)]
  | true=>
   (try simp only [go_sem,simprocAttr,ptr,Bool.not_true]);refine aq (by rfl) ?_;have Ym:Mod (Wt lo w.heap.size) w3 w4:=ai.az (fun _ hh=>hh.elim);refine (akW (h3.quiet ai) (pJ.mod Ym) (O4.mod Ym) ⟨hk,hlen,p8⟩).mono ?_;rintro r w5 ⟨h5,aB⟩;have dH:Mod (fun b=>lo≤b) w w5:=(ab.trans (ai.az (fun _ hh=>hh.elim))).trans (aB.az (fun b hb=>hb.1));obtain ⟨vR,pv,vB,fR,fB,hF⟩:=h5;have hP:=hF.cells;have jF:∀ x∈items,x.aj=⟨#[]⟩→(a8 x.num).size≤21:=fun x U h0=>by
    have:=EB hk U h0;exact HF _ ⟨by omega,by omega⟩
   obtain ⟨hinv,ak4⟩:=Hy (itoa:=a8) (f:=FL L) (items:=items) zG hk;by_cases dN:(ie a8 (FL L) items).at' < items.length
   ·have b1:decide (((ie a8 (FL L) items).at':Int) < items.length)=true:=by rw [decide_eq_true_eq];omega
    (try simp only [go_sem,simprocAttr,cell_of hP,ez,b1]);refine ⟨?_,fin dH⟩;unfold qd;rw [if_pos (by rw [← dI];exact hk),if_pos (by rw [← dI];exact dN)]
   ·have b1:decide (((ie a8 (FL L) items).at':Int) < items.length)=false:=by rw [decide_eq_false_iff_not];omega
    have EC:w5.drew.heap[w1.heap.size]? = _:=hP;(try simp only [go_sem,simprocAttr,cell_of hP,cell_of EC,ez,b1,ptr]);have Bv:1≤(ie a8 (FL L) items).out.size:=by
     rcases hinv.out with h' | ⟨l,h'⟩
     ·exact h'
     ·rw [ak4] at h';simp at h'
    obtain ⟨out,qk⟩:∃ out,out=(ie a8 (FL L) items).out:=⟨_,rfl⟩;have Yn:=hF.buf;rw [← qk] at Yn Bv;obtain ⟨g,c,cg,rfl,rfl,r3,r4,r5⟩:∃ g c cg,vB = .slice (some ⟨g,0,none⟩) out.size c∧fB=some g∧w5.heap[g]? = some (.cells (Lib.strCells out++cg).toArray 5 (0,0))∧c*1≤(Lib.strCells out++cg).length∧out.size≤c:=by
     rcases Yn.2 with ⟨_,h',_⟩ | h'
     ·omega
     ·exact h'
    have hgp:g≠w1.heap.size:=(hF.fb g rfl).2.1;have pM:out.data.toList.length=out.size:=rfl;have kJ:=Lib.strCells_length out;have kr:out.data.toList.length≤140737488355328:=by
     rw [pM,qk];exact Yl zG jF hk hlen p8
    have B6:=aky w1.heap.size g c (Lib.strCells out++cg).toArray out.data.toList w5.drew ((cell_of EC 6).trans rfl) r3 r5 kr (by rw [List.size_toArray,List.length_append,kJ,pM];omega)
     (fun j x hj=>by
      rw [dB];refine (cell_of (show w5.drew.heap[g]? = _ from r3) _).trans ?_;rw [Nat.zero_add,List.getElem?_toArray,List.getElem?_append_left (by rw [kJ,← pM];exact (List.getElem?_eq_some_iff.1 hj).1)]
      simp only [Lib.strCells,List.getElem?_map,hj,Option.map_some])
     (fun e=>by rw [← pM,e] at Bv;simp at Bv)
    refine aq (by rfl) ?_;refine Calls.mono B6 ?_;rintro e w' ⟨rfl,rfl⟩;have Yo:Mod (· = g) w5 (w5.drew.drew.freeze ⟨g,0,none⟩ out.data.toList.length):=by
     unfold World.freeze
     split
     ·exact (Mod.refl _ _).drew.drew
     ·exact ⟨by simp,fun b hb hn=>(by simp [Array.getElem?_modify,Ne.symm hn];rfl),rfl,rfl,rfl⟩
    refine ⟨_,rfl,Yo.old _ (lt_of_heap hP) (fun e=>hgp e.symm),?_,fin (dH.trans (Yo.az (fun b hb=>by subst hb;exact (hF.fb _ rfl).1)))⟩;unfold qd;rw [if_pos (by rw [← dI];exact hk),if_neg (by rw [← dI];exact dN),← dI,← qk]
end
end
section
open Go Go.W
theorem addr_add (a:Addr) (i k:Nat):(a.add i).add k=a.add (i+k):=by
 unfold Addr.add;by_cases hi:i=0
 ·subst hi;simp
 ·by_cases hk:k=0
  ·subst hk;simp
  ·have:i+k≠0:=by omega
   simp [hi,hk,this,Nat.add_assoc]
theorem Eu {sz:Nat}:∀ (rows:List (List Value)),(∀ r∈rows,r.length=sz)→(rows.flatMap id).length=rows.length*sz:=by
 intro rows
 induction rows with
 | nil=>intro _;simp
 | cons r rows ih=>
  intro hr;have h0:=hr r (by simp);simp only [List.flatMap_cons,id,List.length_append,List.length_cons,ih (fun r tI=>hr r (by simp [tI])),h0,Nat.add_mul];omega
theorem Ev {w:World} {a:Option Addr} {n c sz:Nat} {rows:List (List Value)} {B:Nat→Prop} (h:cO w (.slice a n c) sz rows B) (dQ:0 < sz):n=rows.length∧iR w a (n*sz) (rows.flatMap id)∧(a=none→n=0):=by
 obtain ⟨a',c',e,_,U⟩:=h;simp only [Value.slice.injEq] at e;obtain ⟨rfl,rfl,rfl⟩:=e;have hr:∀ r∈rows,r.length=sz:=fun r hr=>by
  obtain ⟨i,hi,rfl⟩:=List.getElem_of_mem hr;obtain ⟨_,_,h1,_⟩:=U i hi;exact h1
 refine ⟨rfl,⟨Eu rows hr,fun ad ep j v hv=>?_⟩,fun ha=>?_⟩
 ·have hj:j < rows.length*sz:=by rw [← Eu rows hr];exact (List.getElem?_eq_some_iff.1 hv).1
  have hi:j / sz < rows.length:=(Nat.div_lt_iff_lt_mul dQ).2 hj;have hk:j % sz < sz:=Nat.mod_lt _ dQ;have hf:=Em rows hr (j / sz) hi (j % sz) hk;have e:j / sz*sz+j % sz=j:=by rw [Nat.mul_comm];exact Nat.div_add_mod j sz
  rw [e,hv] at hf;obtain ⟨nE,e1,h1,h2⟩:=U (j / sz) hi;rw [ep] at e1;cases e1;have h3:=h2 (j % sz) (by rw [h1];exact hk);rw [List.getElem?_eq_getElem (by rw [h1];exact hk)] at hf;simp only [Option.some.injEq] at hf;rw [← hf] at h3;rw [addr_add,e] at h3;exact h3
 ·apply Classical.byContradiction;intro bj;obtain ⟨ad,e1,_⟩:=U 0 (by omega);rw [ha] at e1;cases e1
theorem OT {w:World} {T sz n:Nat} {v:Value} {xs:List Value} {fp:Option Nat} (h:ao w T sz v xs n fp) {b:Nat} (hb:fp=some b):∃ cs,w.heap[b]? = some (.cells cs T (0,0)):=by
 obtain ⟨_,⟨_,_,e⟩ | ⟨b',c,sp,_,e,h5,_⟩⟩:=h
 ·rw [e] at hb;cases hb
 ·rw [e] at hb;cases hb;exact ⟨_,h5⟩
def ux (g:Gl) (v:Value):List Value:=[.string g.name,I g.arity,v]
theorem ak5 (l:List Ins):∀ r∈l.map nR,r.length=3:=by
 intro r hr;obtain ⟨x,_,rfl⟩:=List.mem_map.1 hr;rfl
theorem ak6 (l:List Ins):∀ u∈(l.map nR).flatMap id,u.oneCell'=true:=by
 intro u hu;obtain ⟨r,hr,hu⟩:=List.mem_flatMap.1 hu;obtain ⟨x,_,rfl⟩:=List.mem_map.1 hr;simp only [id,nR,List.mem_cons,List.not_mem_nil,or_false] at hu;rcases hu with rfl | rfl | rfl<;>rfl
theorem ak7 (l:List gF):∀ r∈l.map fy,r.length=2:=by
 intro r hr;obtain ⟨x,_,rfl⟩:=List.mem_map.1 hr;rfl
theorem ak8 (l:List gF):∀ u∈(l.map fy).flatMap id,u.oneCell'=true:=by
 intro u hu;obtain ⟨r,hr,hu⟩:=List.mem_flatMap.1 hu;obtain ⟨x,_,rfl⟩:=List.mem_map.1 hr;simp only [id,fy,List.mem_cons,List.not_mem_nil,or_false] at hu;rcases hu with rfl | rfl<;>rfl
def HK (w w':World) (l:List Gl) (iv:List Value):Prop:=∀ (j:Nat) (g:Gl) (v:Value),l[j]? = some g→iv[j]? = some v→∃ fc,ao w' 61 3 v ((g.code.map nR).flatMap id) g.code.length fc∧∀ b,fc=some b→w.heap.size≤b
theorem HK.mod {w w' ql:World} {l:List Gl} {iv:List Value} {X:Nat→Prop} (h:HK w w' l iv) (hm:Mod X w' ql) (hX:∀ b,X b→∃ cs T0,w'.heap[b]? = some (.cells cs T0 (0,0))∧T0≠61):HK w ql l iv:=by
 intro j g v hg hv;obtain ⟨fc,h1,h2⟩:=h j g v hg hv;refine ⟨fc,h1.mod hm (fun b hb U=>?_),h2⟩;obtain ⟨cs,T0,h3,h4⟩:=hX b U;exact im h1 hb h3 (fun e=>h4 e.symm)
section
variable {w:World} {cu ci:Value} {T:bH} {B:Nat→Prop}
theorem ak9 (h:fM w cu ci T B) (hT:G8 T):aK Tryz.prog 77 [jX cu ci] w fun r w'=>∃ HL HM,r=jX HL HM∧fM w' HL HM T (fun b=>w.heap.size≤b∧b < w'.heap.size)∧Mod (fun _=>False) w w':=by
 have h0:=h;obtain ⟨⟨aS,cS,rfl⟩,aG,cG,rfl⟩:=oe h;have Ed:=hT.gn;have Bi:=hT.sn;refine af3.calls rfl ?_;unfold LM jX;refine σ ?_;refine cK rfl ?_;intro w1 ax ag cL;refine σ ?_;refine dk ?_;intro w2 aC ae dq;have cq:=ag.trans ae;have dC:=ae.at ax (fun h=>h);have h2:=h0.mod cq (fun _ _ h=>h) (fun _ h=>h);obtain ⟨_,rD,hna⟩:=Ev h2.1 (by decide);simp only [go_sem,simprocAttr,cell_of dC,Value.cells];refine δ (by rfl) (aj7 rD (ak8 _) hna (by omega)) ?_;rintro vs' w3 ⟨fS,Yp,hfS,ab⟩;obtain ⟨HN,wo,rfl,_⟩:=Yp.val;refine σ ?_;refine dk ?_;intro w4 aH ai _;refine cX (cs:=[.slice none 0 0,.slice none 0 0]) rfl rfl aH rfl rfl (by simp [Value.oneCell']) ?_;intro w5 bZ aB _;have eI:Mod (fun _=>False) w3 w5:=ai.step aB (fun x U hl=>by subst U;omega);have dH:=(cq.trans ab).trans eI;have l0:=(ab.trans eI).at dC (fun h=>h);have xl:=(ab.trans eI).at aC (fun h=>h);have ak':=Yp.mod eI (fun _ _ h=>h);have l1:=lt_of_heap ax;have l2:=lt_of_heap aC;have s02:=cq.size;have s23:=ab.size;have s1:=ag.size;simp only [go_sem,simprocAttr,cell_of l0,Value.cells]
 refine dA (fun z ρ w'=>∃ (i:Nat) (iv:List Value) (vg:Value) (f:Option Nat),z=T.globals.length - i∧i≤T.globals.length∧iv.length=i∧Mod (fun _=>False) w w'∧w'.heap[w1.heap.size]? = w5.heap[w1.heap.size]? ∧
  w'.heap[w3.heap.size]? = some (.cells #[.slice HN T.au.length wo,vg] 25 (0,0))∧ao w' 47 2 (.slice HN T.au.length wo) ((T.au.map fy).flatMap id) T.au.length fS ∧
  ao w' 59 3 vg ((List.zipWith ux (T.globals.take i) iv).flatMap id) i f∧(∀ b,f=some b→w3.heap.size < b)∧HK w w' (T.globals.take i) iv ∧
  ρ=[(2,ptr w1.heap.size),(3,ptr w3.heap.size),(11,.slice aG T.globals.length cG),(12,I T.globals.length),(13,I i)]) T.globals.length
  ⟨0,[],.slice none 0 0,none,rfl,by omega,rfl,dH,rfl,bZ,by simpa using ak',ao.nil _ _ _,(fun b hb=>by cases hb),(fun j g v hg=>by simp at hg),rfl⟩ ?_
 rintro z ρ w6 ⟨i,iv,vg,f,rfl,hi,ik,aD,eQ,cN,EE,oy,EF,zF,rfl⟩;obtain ⟨aV,cV,rfl,_⟩:=oy.val;unfold U4;refine σ ?_;refine aY rfl (fun ah=>?_) (fun ah=>?_)
 ·have ah:i < T.globals.length:=by simpa using ah
  have h6:=h0.mod aD (fun _ _ h=>h) (fun _ h=>h);obtain ⟨ad,c,cv,e',ed,gH⟩:=Ec h6 ah;cases e';have hgk:=hT.kS _ (List.getElem_mem ah);have iJ:=List.take_succ_eq_append_getElem ah;generalize T.globals[i]=g at *;obtain ⟨sO,lQ,rfl⟩:=uq gH;rw [List.length_map] at *;have og:(0:Int)≤i∧(i:Int) < T.globals.length:=by omega
  unfold qU at ed;simp only [go_sem,simprocAttr,an,bq,og,ed];refine dk ?_;intro w7 ala aX _;refine cX (cs:=[.string ⟨#[]⟩,I 0,.slice none 0 0]) rfl rfl ala rfl rfl (by simp [Value.oneCell']) ?_;intro w8 eB ch _;have tX:Mod (fun _=>False) w6 w8:=aX.step ch (fun x U hl=>by subst U;omega);have EG:w8.heap[w3.heap.size]? = _:=tX.at cN (fun h=>h);have alb:=gH.mod (tX.drew) (fun _ _ h=>h) (fun _ h=>h);obtain ⟨_,alc,ald⟩:=Ev alb (by decide);have Yq:w8.heap[w6.heap.size]? = some (.cells #[.string g.name,I g.arity,.slice sO g.code.length lQ] 59 (0,0)):=eB;have l6:=lt_of_heap cN;have lb8:=lt_of_heap Yq;have Yr:=lt_of_heap EG;simp only [go_sem,simprocAttr,cell_of EG,cell_of Yq];refine δ (by rfl) (aj9 alc (ak6 _) ald (by omega)) ?_;rintro vc w9 ⟨fc,DK,hfc,dO⟩;have k1:=dO.old w3.heap.size Yr (fun h=>h);have k2:=dO.old w6.heap.size lb8 (fun h=>h);obtain ⟨EH,yK,rfl,_⟩:=DK.val;refine σ ?_;refine ⟨by simp only [il,k1,k2,and_self,implies_true],?_⟩;refine cd (by rfl) (by rfl) ?_;intro eX sy dU _;have k3:=dU.old w3.heap.size (by have:=dO.size;exact Nat.lt_of_lt_of_le Yr this) (fun h=>h);refine σ ?_;refine ⟨by simp only [il,k3,and_self,implies_true],?_⟩;have ale:Mod (fun _=>False) w8 w9:=Mod.dj dO;have ph:=(tX.trans ale).trans dU;refine eH (m:=1) (news:=ux g (.slice EH g.code.length yK)) rfl (oy.mod ph (fun _ _ h=>h)) rfl (fun h=>by cases h) (j9 (xs:=ux g (.slice EH g.code.length yK)) sy) (by simp [ux,Value.oneCell']) rfl (by omega) (by omega) ?_;intro v11 jU f11 xz iq Ys;obtain ⟨a11,c11,rfl,_⟩:=xz.val;have Yt:f≠some w3.heap.size:=fun e=>by have:=EF _ e;omega
  have sw:=iq.at (ph.at cN (fun h=>h)) Yt;refine σ ?_;refine bY (off:=1) rfl rfl sw rfl (by simp) ?_;intro sx alf dG _;have e1:IntKind.i64.wrap ((i:Int)+1)=((i+1:Nat):Int):=by rw [cy (by omega) (by omega)];omega
  simp only [go_sem,simprocAttr,e1];have aps:=ph.size;have hX:Mod (fun b=>f=some b∨b=w3.heap.size) eX sx:=(iq.az (fun b hb=>.inl hb)).step dG (fun b hb _=>.inr hb);have Yu:∀ b,(f=some b∨b=w3.heap.size)→∃ cs T0,eX.heap[b]? = some (.cells cs T0 (0,0))∧T0≠61:=by
   rintro b (hb | rfl)
   ·obtain ⟨cs,je⟩:=OT (oy.mod ph (fun _ _ h=>h)) hb;exact ⟨cs,_,je,by decide⟩
   ·exact ⟨_,_,ph.at cN (fun h=>h),by decide⟩
  have fw:∀ b,f=some b→¬ b < w.heap.size:=fun b hb=>by have:=EF b hb;omega
  refine ⟨_,by omega,i+1,iv++[.slice EH g.code.length yK],.slice a11 (i+1) c11,f11,rfl,by omega,by simp [ik],?_,?_,alf,?_,?_,fun b hb=>?_,?_,rfl⟩
  ·exact (aD.trans ph).step hX (fun b hb hl=>by
    rcases hb with hb | rfl
    ·exact absurd hl (fw b hb)
    ·omega)
  ·rw [← eQ];have l16:w1.heap.size < w6.heap.size:=by omega
   rw [hX.old w1.heap.size (by omega) (fun hb=>by
    rcases hb with hb | hb
    ·have:=EF _ hb;omega
    ·omega),ph.old _ l16 (fun h=>h)]
  ·refine (EE.mod ph (fun _ _ h=>h)).mod hX (fun b hb U=>?_);rcases U with U | rfl
   ·obtain ⟨cs,je⟩:=OT (oy.mod ph (fun _ _ h=>h)) U;exact im (EE.mod ph (fun _ _ h=>h)) hb je (by decide)
   ·exact im EE hb cN (by decide)
  ·have hz:(List.zipWith ux (T.globals.take (i+1)) (iv++[.slice EH g.code.length yK])).flatMap id=(List.zipWith ux (T.globals.take i) iv).flatMap id++ux g (.slice EH g.code.length yK):=by
    rw [iJ,List.zipWith_append (by rw [List.length_take,ik];omega),List.flatMap_append];simp
   rw [hz]
   exact xz.mod dG (fun b hb e=>by
    subst e;rcases Ys _ hb with h1 | h1
    ·exact Yt h1
    ·omega)
  ·rcases Ys b hb with h1 | h1
   ·exact EF b h1
   ·omega
  ·intro j g' v' de mI;rw [iJ] at de;by_cases hj:j < i
   ·rw [List.getElem?_append_left (by rw [List.length_take];omega)] at de;rw [List.getElem?_append_left (by omega)] at mI;exact (zF.mod ph (fun _ h=>h.elim)).mod hX Yu j g' v' de mI
   ·have HO:j < (T.globals.take i++[g]).length:=(List.getElem?_eq_some_iff.1 de).1;rw [List.length_append,List.length_take] at HO;simp at HO;obtain rfl:j=i:=by omega
    rw [List.getElem?_append_right (by rw [List.length_take];omega)] at de;rw [List.getElem?_append_right (by omega)] at mI;rw [List.length_take,show j - min j T.globals.length=0 by omega] at de;rw [ik,Nat.sub_self] at mI;simp at de mI;subst de;subst mI;have Yv:=DK.mod dU (fun _ _ h=>h);refine ⟨fc,Yv.mod hX (fun b hb U=>?_),fun b hb=>by have:=hfc b hb;have:=aD.size;have:=tX.size;have e8:w8.drew.heap.size=w8.heap.size:=rfl;omega⟩;obtain ⟨cs,T0,h3,h4⟩:=Yu b U;exact im Yv hb h3 (fun e=>h4 e.symm)
 ·have ah:¬ i < T.globals.length:=by simpa using ah
  obtain rfl:i=T.globals.length:=by omega
  rw [List.take_length] at *;have vn:w6.heap[w1.heap.size]? = _:=eQ.trans xl;simp only [go_sem,simprocAttr,dM (cs:=[_,_]) (off:=0) (n:=2) cN (by simp)];refine cX (cs:=[.slice none 0 0,.slice none 0 0]) rfl rfl vn rfl rfl (by simp [Value.oneCell']) ?_;intro w7 cm aX _;simp only [go_sem,simprocAttr,dM (cs:=[_,_]) (off:=0) (n:=2) cm (by simp)];have jV:Mod (fun _=>False) w w7:=aD.step aX (fun x U hl=>by subst U;omega);have l7:∀ {T0 sz n:Nat} {v:Value} {xs:List Value} {fp:Option Nat},ao w7 T0 sz v xs n fp→∀ b,fp=some b→b < w7.heap.size:=fun h b hb=>h.lt hb
  have Yw:=EE.mod aX (fun b hb e=>by subst e;exact im EE hb vn (by decide));have Yx:=oy.mod aX (fun b hb e=>by subst e;exact im oy hb vn (by decide));have alg:=zF.mod aX (fun b hb=>by subst hb;exact ⟨_,_,vn,by decide⟩);refine ⟨_,_,rfl,⟨?_,iv,ik,?_,?_⟩,jV⟩
  ·obtain ⟨a,c,e,hB,U⟩:=sV (by rw [List.length_map];exact Yw) (ak7 T.au);exact ⟨a,c,e,fun hz ad ep=>⟨by have:=hfS _ (hB hz ad ep);omega,l7 Yw _ (hB hz ad ep)⟩,U⟩
  ·have Pk:(List.zipWith ux T.globals iv).length=T.globals.length:=by simp [ik]
   obtain ⟨a,c,e,hB,U⟩:=sV (rows:=List.zipWith ux T.globals iv) (by rw [Pk];exact Yx) (fun r hr=>by
    obtain ⟨j,hj,rfl⟩:=List.getElem_of_mem hr
    simp [ux])
   exact ⟨a,c,e,fun hz ad ep=>⟨by have:=EF _ (hB hz ad ep);omega,l7 Yx _ (hB hz ad ep)⟩,U⟩
  ·intro j g v hg hv;obtain ⟨fc,h1,h2⟩:=alg j g v hg hv;obtain ⟨a,c,e,hB,U⟩:=sV (by rw [List.length_map];exact h1) (ak5 g.code);exact ⟨a,c,e,fun hz ad ep=>⟨h2 _ (hB hz ad ep),l7 h1 _ (hB hz ad ep)⟩,U⟩
end
end
section
open Go Go.W
def jZ (T:bH) (entry:ByteArray) (input:List Int) (heap every:Int):Int:=
 if input.length > 10000 then 2
 else if input.any (fun n=>!rb n)=true∨heap < 1∨heap > 1048576∨every < 0 then 1
 else if qT T≠0 then qT T
 else if oZ entry T.globals 0=none then 220 else 0
def iz (n:Nat):List Nd:=(List.range n).map fun i:Nat=>⟨4,(i:Int),[]⟩
def jt (T:bH) (input:List Int) (heap:Int) (b8:Bool) (every:Int) (i:Nat):Mc:=
 ⟨T,input,b8,every,sU b8 heap,0,(List.range i).map (fun i:Nat=>(i:Int)),[],[],false,[],0,0,0,0,⟨re b8 heap,heap,iz i⟩⟩
def gG (T:bH) (entry:ByteArray) (input:List Int) (heap:Int) (b8:Bool) (every:Int):Mc:=
 if (T.globals.length:Int)≤heap then { jt T input heap b8 every T.globals.length with wait:=[o0 entry T]}
 else { jt T input heap b8 every heap.toNat with globals:=[],ended:=5}
theorem BD (n:Nat):(iz n).length=n:=by simp [iz]
theorem alh (n:Nat):iz (n+1)=iz n++[⟨4,(n:Int),[]⟩]:=by simp [iz,List.range_succ]
theorem ali (n:Nat):WF (iz n):=by
 intro nd bQ;obtain ⟨i,hi,rfl⟩:=List.mem_map.1 bQ;exact ⟨by simp [Nd.may,gU],rfl⟩
theorem Yy {b8:Bool} {heap:Int} (hh:1≤heap∧heap≤1048576) {i:Nat} (hi:(i:Int)≤heap):St.Ok ⟨re b8 heap,heap,iz i⟩:=by
 refine ⟨ali i,by rw [BD];exact hi,hh.1,hh.2,?_⟩;show (re b8 heap).ok _;unfold re;cases b8 with
 | false=>exact trivial
 | true=>
  have:sU true heap=if heap.tdiv 8 > 1 then heap.tdiv 8 else 1:=rfl
  have h8:heap.tdiv 8≤heap:=by rw [Int.tdiv_eq_ediv_of_nonneg (by omega)];omega
  refine ⟨Nat.zero_le _,?_,?_⟩<;>rw [this]<;>split<;>omega
open Classical in
theorem Yz {w w6 w9 w':World} {m:Nat} {S:SV} {M:Mc} {vG vW:Value} {fg fw:Option Nat} {F:Nat→Prop} (hm:m=w9.heap.size) (Pm:w.heap.size≤w6.heap.size) (Pn:w6.heap.size≤w9.heap.size)
   (hc:w'.heap[m]? = some (.cells (bb S M vG (.slice none 0 0) vW (.slice none 0 0)).toArray 113 (0,0))) (hG:ao w' 3 1 vG (M.globals.map I) M.globals.length fg) (hW:ao w' 3 1 vW (M.wait.map I) M.wait.length fw)
   (bt:M.aE=[]) (pI:M.told=[]) (bN:gM w' S.sv M.st F) (hF:∀ b,F b→w.heap.size≤b∧(b < w6.heap.size∨m < b)) (Po:∀ b,fg=some b→m < b∧¬ F b) (BE:∀ b,fw=some b→m < b∧¬ F b∧fg≠some b)
   (DT:fM w' S.cu S.ci M.aZ (fun b=>w6.heap.size≤b∧b < w9.heap.size)) (dh:Ints w' S.lO M.input) (alj:∀ b,jf S.lO=some b→w6.heap.size≤b∧b < w9.heap.size) (eL:cO w' S.vR 2 mc (fun b=>w6.heap.size≤b∧b < w9.heap.size)) :
   ∃ τ:Tag,iL w' τ m S M []∧∀ b,b < w.heap.size→τ b = .no:=by
 have lm:=lt_of_heap hc;refine ⟨fun b=>if b < w.heap.size then .no else if b=m then .m else if fg=some b then .gl else if fw=some b then .wt else if F b then .st else if w6.heap.size≤b∧b < w9.heap.size then .tb else .no,?_,fun b hb=>by simp only [if_pos hb]⟩;have tb:∀ b,w6.heap.size≤b∧b < w9.heap.size→b < w'.heap.size∧(if b < w.heap.size then Tg.no else if b=m then .m else if fg=some b then .gl else if fw=some b then .wt else if F b then .st else if w6.heap.size≤b∧b < w9.heap.size then .tb else .no) = .tb:=by
  intro b hb;have n1:¬ b < w.heap.size:=by omega
  have n2:b≠m:=by omega
  have n3:fg≠some b:=fun e=>by have:=(Po b e).1;omega
  have n4:fw≠some b:=fun e=>by have:=(BE b e).1;omega
  have n5:¬ F b:=fun e=>by have:=(hF b e).2;omega
  exact ⟨by omega,by rw [if_neg n1,if_neg n2,if_neg n3,if_neg n4,if_neg n5,if_pos hb]⟩
 refine ⟨vG,.slice none 0 0,vW,.slice none 0 0,fg,none,fw,none,F,hc,?_,hG,?_,?_,(fun b hb=>by cases hb),hW,?_,?_,(fun b hb=>by cases hb),bN,?_,by rw [bt];rfl,?_,DT.mod (Mod.refl (fun _=>False) w') (fun _ _ h=>h) (fun b hb=>tb b hb),dh,fun b hb=>tb b (alj b hb),eL.mod (Mod.refl (fun _=>False) w') (fun _ _ h=>h) (fun b hb=>tb b hb)⟩
 ·simp only [if_neg (show ¬ m < w.heap.size by omega),if_pos]
 ·intro b hb;have:=(Po b hb).1;simp only [if_neg (show ¬ b < w.heap.size by omega),if_neg (show b≠m by omega),if_pos hb]
 ·exact ao.nil _ _ _
 ·intro b hb;have h1:=BE b hb;simp only [if_neg (show ¬ b < w.heap.size by omega),if_neg (show b≠m by omega),if_neg h1.2.2,if_pos hb]
 ·rw [pI];exact ao.nil _ _ _
 ·intro b hb;have h1:=hF b hb;have n2:b≠m:=by omega
  have n3:fg≠some b:=fun e=>(Po b e).2 hb
  have n4:fw≠some b:=fun e=>(BE b e).2.1 hb
  simp only [if_neg (show ¬ b < w.heap.size by omega),if_neg n2,if_neg n3,if_neg n4,if_pos hb]
 ·intro i k f hk _;simp at hk
section
variable {w:World} {cu ci lO:Value} {T:bH} {B:Nat→Prop} {entry:ByteArray} {input:List Int} {heap every:Int} {b8:Bool}
def Pp (w w':World) (M:Mc) (r:Value):Prop:=∃ τ m S,r = .tuple #[ptr m,I 0]∧iL w' τ m S M []∧(∀ b,b < w.heap.size→τ b = .no)
theorem alk (h:fM w cu ci T B) (hT:sN T) (mY:∀ b,B b→b < w.heap.size) (dh:Ints w lO input) :
   aK Tryz.prog 44 [jX cu ci,.string entry,lO,xV heap b8 every] w fun r w'=>Mod (fun _=>False) w w' ∧
    (jZ T entry input heap every≠0→r = .tuple #[.pointer none,I (jZ T entry input heap every)])∧(jZ T entry input heap every=0→Pp w w' (gG T entry input heap b8 every) r):=by
 have h0:=h;have BF:=dh;obtain ⟨⟨aS,cS,rfl⟩,aG,cG,rfl⟩:=oe h;obtain ⟨aI,cI,rfl,Pq,_⟩:=dh;refine afT.calls rfl ?_;unfold Lx jX xV;refine σ ?_;refine cK rfl ?_;intro w1 ax ag cL;refine σ ?_;refine cK rfl ?_;intro w2 aC ae dq;refine σ ?_;refine cK rfl ?_;intro w3 aJ ab eP;have dy:=(ag.trans ae).trans ab;have fT:=(ae.trans ab).at ax (fun h=>h);have qM:=ab.at aC (fun h=>h);have ax:w3.heap[w.heap.size]? = some (.cells #[.slice aS T.au.length cS,.slice aG T.globals.length cG] 25 (0,0)):=fT;have aC:w3.heap[w1.heap.size]? = some (.cells #[.string entry] 9 (0,0)):=qM;have aJ:w3.heap[w2.heap.size]? = some (.cells #[I heap,.bool b8,I every] 28 (0,0)):=aJ;have bad:∀ e w',e≠0→jZ T entry input heap every=e→Mod (fun _=>False) w w'→(Mod (fun _=>False) w w'∧(jZ T entry input heap every≠0→Value.tuple #[.pointer none,I e] = .tuple #[.pointer none,I (jZ T entry input heap every)])∧(jZ T entry input heap every=0→Pp w w' (gG T entry input heap b8 every) (.tuple #[.pointer none,I e]))):=by
  intro e w' he h1 hm;rw [h1];exact ⟨hm,fun _=>rfl,fun h=>absurd h he⟩
 have hE:jZ T entry input heap every=if input.length > 10000 then 2 else if input.any (fun n=>!rb n)=true∨heap < 1∨heap > 1048576∨every < 0 then 1 else if qT T≠0 then qT T else if oZ entry T.globals 0=none then 220 else 0:=rfl
 refine σ ?_;refine Dy (fun ρ w'=>w3=w'∧ρ.get 2=some (.slice aI input.length cI)∧ρ.get 4=some (ptr w.heap.size)∧ρ.get 5=some (ptr w1.heap.size)∧ρ.get 7=some (ptr w2.heap.size)∧¬ input.length > 10000∧¬ (input.any (fun n=>!rb n)=true∨heap < 1∨heap > 1048576∨every < 0)) ?_ ?_
 ·refine aY rfl (fun hl=>?_) (fun hl=>?_)
  ·simp only [aL,aM,aN,an,aQ] at hl;rw [if_pos (by omega)] at hE;refine σ ?_;exact bad 2 w3 (by decide) hE dy
  simp only [aL,aM,aN,an,aQ] at hl;have hl:¬ input.length > 10000:=by omega
  rw [if_neg hl] at hE;refine σ ?_;refine δ (by rfl) (Ky _ input w3 (BF.mod dy (fun _ _ h=>h)) 71 _ #[] (fun n=>!rb n) rfl rfl rfl (fun x _=>by simpa using akd w3 x)) ?_;rintro _ _ ⟨rfl,rfl⟩;refine σ ?_;cases hA:input.any (fun n=>!rb n) with
  | true=>
   rw [hA,if_pos (.inl rfl)] at hE;refine σ ?_;exact bad 1 w3 (by decide) hE dy
  | false=>
   cases h1:decide (heap < 1) with
   | true=>
    rw [if_pos (.inr (.inl (of_decide_eq_true h1)))] at hE;simp only [go_sem,simprocAttr,cell_of aJ,h1];exact bad 1 w3 (by decide) hE dy
   | false=>
    cases h2:decide (heap > 1048576) with
    | true=>
     rw [if_pos (.inr (.inr (.inl (of_decide_eq_true h2))))] at hE;simp only [go_sem,simprocAttr,cell_of aJ,h1,h2];exact bad 1 w3 (by decide) hE dy
    | false=>
     cases h3:decide (every < 0) with
     | true=>
      rw [if_pos (.inr (.inr (.inr (of_decide_eq_true h3))))] at hE;simp only [go_sem,simprocAttr,cell_of aJ,h1,h2,h3];exact bad 1 w3 (by decide) hE dy
     | false=>
      have q1:=of_decide_eq_false h1;have q2:=of_decide_eq_false h2;have q3:=of_decide_eq_false h3;simp only [go_sem,simprocAttr,cell_of aJ,h1,h2,h3];exact ⟨by omega,by simp;omega⟩
 rintro ρ _ ⟨rfl,r2,r4,r5,r7,hl,ix⟩;rw [if_neg hl,if_neg ix] at hE;have YA:1≤heap∧heap≤1048576:=by
  constructor
  ·apply Classical.byContradiction;intro hh;exact ix (.inr (.inl (by omega)))
  ·apply Classical.byContradiction;intro hh;exact ix (.inr (.inr (.inl (by omega))))
 have h3:=h0.mod dy (fun _ _ h=>h) (fun _ h=>h);simp only [go_sem,simprocAttr,r2,r4,r5,r7,dM (cs:=[_,_]) (off:=0) (n:=2) ax (by simp)];refine δ (by rfl) (ajD h3 hT (fun b hb=>by have:=mY b hb;have:=dy.size;omega)) ?_;rintro _ w4 ⟨rfl,ai⟩;have eh:=dy.trans ai;have lJ:=ai.at ax (fun h=>h);have vj:=ai.at aC (fun h=>h);have qz:=ai.at aJ (fun h=>h);refine σ ?_;refine aY rfl (fun hc=>?_) (fun hc=>?_)
 ·simp only [aL,aM,aN,an,aQ] at hc;rw [if_pos hc] at hE;refine σ ?_;exact bad _ w4 hc hE eh
 simp only [aL,aM,aN,an,aQ] at hc;rw [if_neg (by simpa using hc)] at hE;obtain ⟨alm,_⟩:=WT hc;have h4:=h0.mod eh (fun _ _ h=>h) (fun _ h=>h);simp only [go_sem,simprocAttr,cell_of lJ];refine δ (by rfl) (akg h4 hT vj) ?_;rintro _ w5 ⟨rfl,aB⟩;have dH:=eh.trans aB;have l0:=aB.at lJ (fun h=>h);have qA:=aB.at qz (fun h=>h);refine σ ?_;refine aY rfl (fun he=>?_) (fun he=>?_)
 ·simp only [aL,aM,aN,an,aQ] at he;have hn:oZ entry T.globals 0=none:=by
   unfold o0 at he
   split at he
   ·omega
   ·assumption
  rw [if_pos hn] at hE;refine σ ?_;exact bad 220 w5 (by decide) hE dH
 simp only [aL,aM,aN,an,aQ] at he;have hn:oZ entry T.globals 0≠none:=fun hn=>by
  have:o0 entry T = -1:=by unfold o0;rw [hn]
  omega
 rw [if_neg hn] at hE;obtain ⟨at',dN,YB⟩:∃ j:Nat,o0 entry T=j∧j < T.globals.length:=by
  unfold o0;cases U:oZ entry T.globals 0 with
  | none=>exact absurd U hn
  | some j=>exact ⟨j,rfl,by have:=Xw _ _ U;omega⟩
 rw [dN];simp only [go_sem,simprocAttr,dM (cs:=[_,_,_]) (off:=0) (n:=3) qA (by simp)];refine δ (by rfl) (akh w5 b8 every YA) ?_;rintro _ w6 ⟨sv,F,rfl,bN,aD,hF⟩;obtain ⟨ti,ui,rfl⟩:=bN.iface;have gE:=dH.trans aD;have yT:=aD.at l0 (fun h=>h);have BG:=aD.at qA (fun h=>h);simp only [go_sem,simprocAttr,show ((0:Int) != 0)=false from rfl];have aln:w6.drew.heap[w.heap.size]? = _:=yT;have alo:w6.drew.heap[w2.heap.size]? = _:=BG;have l3:=lt_of_heap BG;have h6d:=h0.mod gE.drew (fun _ _ h=>h) (fun _ h=>h);simp only [go_sem,simprocAttr,dM (cs:=[_,_]) (off:=0) (n:=2) aln (by simp),dM (cs:=[_,_,_]) (off:=0) (n:=3) alo (by simp)];refine δ (by rfl) (ak9 h6d alm) ?_;rintro _ w7 ⟨HL,HM,rfl,DT,aX⟩;have EI:Mod (fun _=>False) w6 w7:=Mod.dj aX;have alp:fM w7 HL HM T (fun b=>w6.heap.size≤b∧b < w7.heap.size):=DT;obtain ⟨⟨HN,wo,rfl⟩,aG',cG',rfl⟩:=oe DT;have k7:=aX.old w2.heap.size l3 (fun h=>h);have YC:=EI.size;simp only [go_sem,simprocAttr,jX];refine ⟨by simp only [il,k7,and_self,implies_true],?_⟩;refine δ (by rfl) (AL _ input w7 (BF.mod (gE.trans EI) (fun _ _ h=>h))) ?_;rintro vI w8 ⟨ch,fI,Pr,hfI⟩;obtain ⟨YD,YE,rfl,_⟩:=Pr.val;have k8:=ch.old w2.heap.size (by omega) (fun h=>h);have s78:=ch.size;refine σ ?_;refine ⟨by simp only [il,k8,and_self,implies_true],?_⟩;refine δ (by rfl) (aki w8) ?_;rintro vR w9 ⟨bR,⟨lR,lR9⟩,zv,dO⟩;obtain ⟨aR,cR,rfl⟩:=uq zv;have k9:=dO.old w2.heap.size (by omega) (fun h=>h);have s89:=dO.size;refine σ ?_;refine ⟨by simp only [il,k9,and_self,implies_true],?_⟩;refine cK rfl ?_;intro eX sy dU KH;have su:Mod (fun _=>False) w6 w9:=(EI.trans ch).trans dO;have ph:=su.trans dU;have alq:=ph.at yT (fun h=>h);obtain ⟨S,hS⟩:∃ S:SV,S=⟨.slice HN T.au.length wo,.slice aG' T.globals.length cG',.slice YD input.length YE,.slice aR mc.length cR,.iface ti (.pointer (some ui))⟩:=⟨_,rfl⟩;have YF:eX.heap[w9.heap.size]? = some (.cells (bb S (jt T input heap b8 every 0) (.slice none 0 0) (.slice none 0 0) (.slice none 0 0) (.slice none 0 0)).toArray 113 (0,0)):=by rw [hS];exact sy
 simp only [go_sem,simprocAttr,cell_of alq];have s9:w9.heap.size < eX.heap.size:=lt_of_heap YF;have Pm:=gE.size;have Pn:=su.size;have s05:=dH.size;have s56:=aD.size;have apt:Mod (fun _=>False) w9 eX:=dU;have alr:fM eX S.cu S.ci T (fun b=>w6.heap.size≤b∧b < w9.heap.size):=by
  rw [hS];exact alp.mod ((ch.trans dO).trans dU) (fun _ _ h=>h) (fun b hb=>⟨hb.1,by omega⟩)
 have als:Ints eX S.lO input:=by
  rw [hS];exact ((Pr.ints (by omega)).1).mod (dO.trans dU) (fun _ _ h=>h)
 have Ps:∀ b,jf S.lO=some b→w6.heap.size≤b∧b < w9.heap.size:=by
  rw [hS];intro b hb;obtain ⟨_,h2⟩:=Pr;rcases h2 with ⟨e,_,_⟩ | ⟨b',c',sp,e,hf,hbb,_⟩
  ·simp only [Value.slice.injEq] at e;obtain ⟨rfl,_,_⟩:=e;cases hb
  ·simp only [Value.slice.injEq] at e;obtain ⟨rfl,_,_⟩:=e;have alu:b'=b:=Option.some.inj hb;subst alu;have:=hfI b' hf;have:=lt_of_heap hbb;omega
 have alv:cO eX S.vR 2 mc (fun b=>w6.heap.size≤b∧b < w9.heap.size):=by
  rw [hS];exact zv.mod dU (fun _ _ h=>h) (fun b hb=>by subst hb;exact ⟨by omega,lR9⟩)
 have alw:gM eX S.sv ⟨re b8 heap,heap,iz 0⟩ F:=by
  rw [hS];exact (bN.mod su (fun _ _ h=>h)).mod dU (fun _ _ h=>h)
 have hF':∀ b,F b→w.heap.size≤b∧(b < w6.heap.size∨w9.heap.size < b):=fun b hb=>by
  have h1:=hF b hb;have h2:=bN.lt b hb;omega
 have alx:(Value.iface ti (.pointer (some ui)))=S.sv:=by rw [hS]
 rw [alx];have YG:jZ T entry input heap every=0:=hE
 refine dA (fun z ρ w'=>∃ (i:Nat) (vG:Value) (fg:Option Nat) (F:Nat→Prop),z=T.globals.length - i∧i≤T.globals.length∧(i:Int)≤heap ∧
  w'.heap[w9.heap.size]? = some (.cells (bb S (jt T input heap b8 every i) vG (.slice none 0 0) (.slice none 0 0) (.slice none 0 0)).toArray 113 (0,0))∧gM w' S.sv ⟨re b8 heap,heap,iz i⟩ F ∧
  ao w' 3 1 vG (((List.range i).map (fun i:Nat=>(i:Int))).map I) i fg∧(∀ b,F b→w.heap.size≤b∧(b < w6.heap.size∨w9.heap.size < b))∧(∀ b,fg=some b→w9.heap.size < b∧¬ F b)∧Mod (fun b=>(w.heap.size≤b∧b < w6.heap.size)∨w9.heap.size≤b) eX w' ∧
  ρ=[(11,I at'),(12,S.sv),(15,ptr w9.heap.size),(67,I T.globals.length),(68,I i)]) T.globals.length
  ⟨0,.slice none 0 0,none,F,rfl,by omega,by omega,YF,alw,ao.nil _ _ _,hF',(fun b hb=>by cases hb),Mod.refl _ _,rfl⟩ ?_
 rintro z ρ jU ⟨i,vG,fg,F1,rfl,hi,YH,yb,Pt,oy,uy,BH,iq,rfl⟩;have s11:=iq.size;have rest:∀ w':World,Mod (fun b=>(w.heap.size≤b∧b < w6.heap.size)∨w9.heap.size≤b) eX w'→fM w' S.cu S.ci T (fun b=>w6.heap.size≤b∧b < w9.heap.size)∧Ints w' S.lO input∧cO w' S.vR 2 mc (fun b=>w6.heap.size≤b∧b < w9.heap.size)∧Mod (fun _=>False) w w':=by
  intro w' hm;refine ⟨alr.mod hm (fun b hb U=>by omega) (fun _ h=>h),als.mod hm (fun b hb U=>by have:=Ps b hb;omega),alv.mod hm (fun b hb U=>by omega) (fun _ h=>h),?_⟩;have h9:Mod (fun _=>False) w eX:=gE.trans ph;exact h9.step hm (fun b hb hl=>by omega)
 unfold U2;refine σ ?_;refine aY rfl (fun ah=>?_) (fun ah=>?_)
 ·have ah:i < T.globals.length:=by simpa using ah
  have ct:=Yy (b8:=b8) YA YH;refine σ ?_;have e1:IntKind.i64.wrap ((i:Int)+1)=((i+1:Nat):Int):=by rw [cy (by omega) (by omega)];omega
  refine MB (nd:=⟨4,(i:Int),[]⟩) rfl (by rfl) Pt ct (by simp [Nd.may,gU]) rfl (vM _) ?_ ?_
  ·intro eK sx F2 BI qf;have eK:((iz i).length:Int) < heap:=eK;rw [BD] at eK;have BI:gM sx S.sv ⟨re b8 heap,heap,iz (i+1)⟩ F2:=by rw [alh];exact BI
   have zH:¬ F1 w9.heap.size:=fun e=>by have:=uy _ e;omega
   have HP:=qf.1.at yb zH;obtain ⟨aV,cV,rfl,_⟩:=oy.val;have UQ:=qf.1.size;rw [show ((⟨re b8 heap,heap,iz i⟩:St).ns.length:Int)=(i:Int) by show ((iz i).length:Int)=_;rw [BD]];simp only [go_sem,simprocAttr,show ((0:Int) != 0)=false from rfl,cell_of HP,bb];refine cd (by rfl) (by rfl) ?_;intro xB fT dZ _;have Pu:∀ b,fg=some b→¬ F1 b:=fun b hb=>(BH b hb).2
   refine σ ?_;refine eH (m:=1) (news:=[I (i:Int)]) rfl ((oy.mod qf.1 Pu).mod dZ (fun _ _ h=>h)) rfl (fun h=>by cases h) (j9 (xs:=[I (i:Int)]) fT) (pB [(i:Int)]) rfl (by omega) (by omega) ?_;intro v14 y9 aly YI iY YJ;obtain ⟨a14,Bg,rfl,_⟩:=YI.val;have YK:fg≠some w9.heap.size:=fun e=>by have:=(BH _ e).1;omega
   have alz:=iY.at (dZ.at HP (fun h=>h)) YK;refine σ ?_;refine bY (off:=9) rfl rfl alz rfl (by simp [bb]) ?_;intro A3 l0 gX _;simp only [go_sem,simprocAttr,e1];have s13:=dZ.size;have s14:=iY.size;have alA:gM A3 S.sv ⟨re b8 heap,heap,iz (i+1)⟩ F2:=by
    refine ((BI.mod dZ (fun _ _ h=>h)).mod iY (fun b hb e=>?_)).mod gX (fun b hb e=>?_)
    ·rcases qf.2 b hb with h1 | h1
     ·exact Pu b e h1
     ·have:=oy.lt e;omega
    ·subst e;rcases qf.2 _ hb with h1 | h1
     ·exact zH h1
     ·have:=lt_of_heap yb;omega
   have hX:Mod (fun b=>(w.heap.size≤b∧b < w6.heap.size)∨w9.heap.size≤b) eX A3:=by
    refine (((iq.step qf.1 (fun b hb _=>by have:=uy b hb;omega)).step dZ (fun _ h _=>h.elim)).step iY (fun b hb _=>by have:=BH b hb;omega)).step gX (fun b hb _=>by subst hb;exact .inr (Nat.le_refl _))
   refine ⟨_,by omega,i+1,.slice a14 (i+1) Bg,aly,F2,rfl,by omega,by omega,by simpa [bb,jt] using l0,alA,?_,fun b hb=>?_,fun b hb=>?_,hX,rfl⟩
   ·have e:(List.range (i+1)).map (fun i:Nat=>(i:Int))=(List.range i).map (fun i:Nat=>(i:Int))++[(i:Int)]:=by simp [List.range_succ]
    rw [e,List.map_append]
    exact YI.mod gX (fun b hb e=>by
     subst e;rcases YJ _ hb with h3 | h3
     ·exact YK h3
     ·have:=lt_of_heap yb;omega)
   ·rcases qf.2 b hb with h1 | h1
    ·exact uy b h1
    ·omega
   ·rcases YJ b hb with h1 | h1
    ·refine ⟨(BH b h1).1,fun h2=>?_⟩;rcases qf.2 b h2 with h3 | h3
     ·exact Pu b h1 h3
     ·have:=oy.lt h1;omega
    ·refine ⟨by omega,fun h2=>?_⟩;have:=BI.lt b h2;omega
  ·intro Pv sx F2 e he BI qf;have Pv:((iz i).length:Int)=heap:=Pv;rw [BD] at Pv;have zH:¬ F1 w9.heap.size:=fun e=>by have:=uy _ e;omega
   have HP:=qf.1.at yb zH;have he':(e != 0)=true:=by simpa using he
   simp only [go_sem,simprocAttr,he'];refine bY (off:=15) rfl rfl HP rfl (by simp [bb]) ?_;intro xB fT dZ _;refine σ ?_;refine bY (off:=9) rfl rfl fT rfl (by simp [bb]) ?_;intro y9 lJ iY _;refine σ ?_;have hM:gG T entry input heap b8 every = { jt T input heap b8 every heap.toNat with globals:=[],ended:=5}:=by unfold gG;rw [if_neg (by omega)]
   have bO:heap.toNat=i:=by omega
   have hX:Mod (fun b=>(w.heap.size≤b∧b < w6.heap.size)∨w9.heap.size≤b) eX y9:=by
    refine ((iq.step qf.1 (fun b hb _=>by have:=uy b hb;omega)).step dZ (fun b hb _=>by subst hb;exact .inr (Nat.le_refl _))).step iY (fun b hb _=>by subst hb;exact .inr (Nat.le_refl _))
   obtain ⟨r1,r2,r3,r4⟩:=rest y9 hX;have YL:¬ F2 w9.heap.size:=fun e=>by
    rcases qf.2 _ e with h1 | h1
    ·exact zH h1
    ·have:=lt_of_heap yb;omega
   refine ⟨r4,fun h=>absurd YG h,fun _=>?_⟩;rw [hM,bO];obtain ⟨τ,hA,Pw⟩:=Yz (w:=w) (w6:=w6) (w9:=w9) (w':=y9) (m:=w9.heap.size) (S:=S) (M:={ jt T input heap b8 every i with globals:=[],ended:=5}) (vG:=.slice none 0 0) (vW:=.slice none 0 0) (fg:=none) (fw:=none) (F:=F2) rfl Pm Pn (by simpa [bb,jt] using lJ) (ao.nil _ _ _) (ao.nil _ _ _) rfl rfl
    ((BI.mod dZ (fun b hb e=>by subst e;exact YL hb)).mod iY (fun b hb e=>by subst e;exact YL hb)) (fun b hb=>by
     rcases qf.2 b hb with h1 | h1
     ·exact uy b h1
     ·omega) (fun b hb=>by cases hb) (fun b hb=>by cases hb) r1 r2 Ps r3
   exact ⟨τ,_,S,rfl,hA,Pw⟩
 ·have ah:¬ i < T.globals.length:=by simpa using ah
  obtain rfl:i=T.globals.length:=by omega
  obtain ⟨bG,cG2,sp,rfl,rfl,_⟩:=oy.pos (by omega);obtain ⟨bG',eG,_,gC⟩:=kQ oy (i:=at') YB;cases eG;have gC:jU.cell? ⟨bG,at',none⟩=some (I at'):=by
   rw [gC];simp [YB]
  have b1:(0:Int)≤at'∧(at':Int) < T.globals.length:=by omega
  simp only [go_sem,simprocAttr,an,bq,cell_of yb,bb,jt,b1,dB,gC];refine cd (by rfl) (by rfl) ?_;intro sx dC dG _;refine σ ?_;refine bY (off:=11) rfl rfl (dG.at yb (fun h=>h)) rfl (by simp [bb]) ?_;intro xB fT dZ _;refine σ ?_;have UQ:=dG.size;have hM:gG T entry input heap b8 every = { jt T input heap b8 every T.globals.length with wait:=[(at':Int)]}:=by unfold gG;rw [if_pos YH,dN]
  have hX:Mod (fun b=>(w.heap.size≤b∧b < w6.heap.size)∨w9.heap.size≤b) eX xB:=(iq.step dG (fun _ h _=>h.elim)).step dZ (fun b hb _=>by subst hb;exact .inr (Nat.le_refl _));obtain ⟨r1,r2,r3,r4⟩:=rest xB hX;have zH:¬ F1 w9.heap.size:=fun e=>by have:=uy _ e;omega
  have l11:=lt_of_heap yb;refine ⟨r4,fun h=>absurd YG h,fun _=>?_⟩;rw [hM];have hoW:ao xB 3 1 (.slice (some ⟨jU.heap.size,0,none⟩) 1 1) [I (at':Int)] 1 (some jU.heap.size):=(ao.fG (xs:=[I (at':Int)]) dC rfl).mod dZ (fun b hb e=>by have:=Option.some.inj hb;omega);obtain ⟨τ,hA,Pw⟩:=Yz (w:=w) (w6:=w6) (w9:=w9) (w':=xB) (m:=w9.heap.size) (S:=S) (M:={ jt T input heap b8 every T.globals.length with wait:=[(at':Int)]}) (fg:=some bG) (fw:=some jU.heap.size) (F:=F1) rfl Pm Pn (by simpa [bb,jt] using fT)
   (by
    have:=(oy.mod dG (fun _ _ h=>h)).mod dZ (fun b hb e=>by subst e;have:=(BH _ hb).1;omega)
    simpa [jt] using this) hoW rfl rfl ((Pt.mod dG (fun _ _ h=>h)).mod dZ (fun b hb e=>by subst e;exact zH hb)) uy BH (fun b hb=>by
     cases hb
     refine ⟨by omega,fun h2=>by have:=Pt.lt _ h2;omega,fun e=>by have:=oy.lt rfl;cases e;omega⟩) r1 r2 Ps r3
  exact ⟨τ,_,S,rfl,hA,Pw⟩
end
end
section
open Go Go.W
theorem alB {w w3:World} {τ bI:Tag} {i k:Nat} {f f':Fr} {vs vp vs' xE:Value} {fs fp fs':Option Nat} (h:nS w τ i k f vs vp fs fp) (hs:ao w3 3 1 vs' (f'.stack.map I) f'.stack.length fs') (ii:ao w3 3 1 xE (f'.spine.map I) f'.spine.length fp)
   (hb:w3.heap[k]? = some (.cells (cC f' vs' xE).toArray 151 (0,0))) (hw:τ.wx bI w) (ht:bI.is fs' (.fs i)):nT w3 bI i k f':=by
 obtain ⟨l1,l2,l3⟩:=h.lt;exact ⟨vs',xE,fs',fp,hb,(hw k l1 (by rw [h.tk];simp)).trans h.tk,hs,ht,ii,zd h.tp hw l3 (by simp)⟩
section
variable {w:World} {τ:Tag} {m:Nat} {S:SV} {M:Mc} {ks:List Nat} {k:Nat} {x:Ins} {n:Int}
theorem alC (hT:dJ w τ m S M ks k) (hM:bB n M) (he:M.ended=0) (h4:(M.st.nd M.aa.bC).kind=4) (iw:M.st.kd≠.ref) (ii:M.aa.spine.length≤4294967295)
   (fU:(M.aa.spine.length:Int)≥(M.aZ.gl (M.st.nd M.aa.bC).num).arity) :
   aK Tryz.prog 137 [ptr m,ptr k,I (M.st.ov M.aa.bC),I (M.st.nd M.aa.bC).num] w fun _ w'=>aU w τ m S (M.call M.aa (M.st.nd M.aa.bC).num) ks w':=by
 have hG:=hM.pX hT.pos;have mQ:=hM.g.nd hG.sd;have mW:=mQ.2.2.1 h4;have HQ:=((uj mQ.1).2.2.2.1 h4).2;generalize jk:(M.st.nd M.aa.bC).num=num at *;obtain ⟨g,rfl⟩:∃ g:Nat,num=g:=⟨num.toNat,by omega⟩;have alD:=hM.aZ.kS _ (G' (c:=(g:Int)) (by omega));obtain ⟨ar,HR⟩:∃ ar:Nat,(M.aZ.gl g).arity=ar:=⟨(M.aZ.gl g).arity.toNat,by omega⟩;rw [HR] at fU alD;obtain ⟨vG,vF,vW,vT,fg,ff,fw,ft,F,hh⟩:=hT.at';obtain ⟨vs,vp,fs,fp,hF⟩:=hT.fr;have hc:=hh.cells;have um:=hF.cells;obtain ⟨ad,c,cv,D5,B1,_,yd,gH,zv⟩:=He hh.aZ (i:=g) (by omega);rw [HR] at yd;have yd:w.cell? ⟨(ad.add (g*3)).block,(ad.add (g*3)).off+1,none⟩=some (I ar):=yd;have b1:(0:Int)≤g∧(g:Int) < M.aZ.globals.length:=by omega
 obtain ⟨d,hd⟩:∃ d:Nat,d+ar=M.aa.spine.length:=⟨M.aa.spine.length - ar,by omega⟩;obtain ⟨aP,cP,rfl,Px,_⟩:=hF.spine.val;have e1:IntKind.i64.wrap ((M.aa.spine.length:Int) - ar)=d:=by rw [cy (by omega) (by omega)];omega
 have b2:(0:Int)≤d∧(d:Int)≤M.aa.spine.length:=by omega
 refine agE.calls rfl ?_;unfold Mq;(try simp only [go_sem,simprocAttr,an,bq,cell_of hc,ptr,bb,D5,b1,yd,cell_of um,cC,e1,b2]);have hlen:M.aa.spine.length - d=ar:=by omega
 generalize haO:(if cP=d then aP else Option.map (fun x=>x.add d) aP)=aO;obtain ⟨O,hO⟩:∃ O:List Int,O=M.aa.own ar:=⟨_,rfl⟩;have Py:O=M.aa.spine.drop d:=by rw [hO];unfold Fr.own;rw [Int.toNat_natCast,show M.aa.spine.length - ar=d by omega]
 have HS:O.length=ar:=by rw [Py,List.length_drop];omega
 have YM:∀ s∈O,M.st.In s:=fun s hs=>hG.sp s (by rw [Py] at hs;exact List.mem_of_mem_drop hs)
 have hOg:∀ i,i < ar→∃ bP,aO=some ⟨bP,d,none⟩∧fp=some bP∧w.cell? ⟨bP,d+i,none⟩=some (I (O.getD i 0))∧O.getD i 0∈O:=by
  intro i hi;obtain ⟨bP,rfl,kq,gC⟩:=kQ hF.spine (i:=d+i) (by omega);refine ⟨bP,?_,kq,?_,vY (by omega)⟩
  ·rw [← haO,if_neg (by omega)];simp [Addr.add];intro h;exact h.symm
  ·have e:O.getD i 0=M.aa.spine.getD (d+i) 0:=by rw [Py];simp [List.getD_eq_getElem?_getD,List.getElem?_drop]
   rw [e,gC,List.getElem?_map,List.getElem?_eq_getElem (by omega),List.getD_eq_getElem?_getD,List.getElem?_eq_getElem (by omega)];rfl
 rw [hlen];have dI:M.aa.bC=M.aa.bC:=rfl;have alE:∀ s∈O,(M.st.nd s).kind≠3→M.call M.aa g=M.fail 5:=by
  intro s hs hk;unfold Mc.call;rw [HR,← hO,if_neg];intro hh;rw [List.all_eq_true] at hh;exact hk (by simpa using hh s hs)
 refine cd (by rfl) (by rfl) ?_;intro w1 ax ag _;have oI:Mod (fun _=>False) w w1:=ag.dj;have hbw:w.drew.heap.size=w.heap.size:=rfl;(try simp only [go_sem,simprocAttr])
 refine dA (fun z ρ w'=>∃ (i:Nat) (v:Value) (f:Option Nat),z=ar - i∧i≤ar∧Mod (fun _=>False) w w'∧(∀ s∈O.take i,(M.st.nd s).kind=3) ∧
  ao w' 3 1 v (((if i=0 then (M.st.ov M.aa.bC:Int) else (M.st.ov (O.getD 0 0):Int))::(O.take i).map (fun s=>(M.st.nd s).args.getD 1 0)).map I) (i+1) f∧(∀ b,f=some b→w.heap.size≤b) ∧
  ρ=[(0,ptr m),(1,ptr k),(3,I g),(8,I ar),(10,v),(38,.slice aO ar (cP - d)),(39,I ar),(40,I i)]) ar ⟨0,_,some w.heap.size,rfl,by omega,oI,(by simp),ao.fG (xs:=[I (M.st.ov M.aa.bC:Int)]) ax rfl,(fun b hb=>by cases hb;omega),rfl⟩ ?_
 rintro z ρ w2 ⟨i,v,f,rfl,hi,ae,df,hv,hf,rfl⟩;have h2:=hT.later ae;unfold Vh;(try simp only [go_sem,simprocAttr]);refine aY rfl (fun Pz=>?_) (fun Pz=>?_)
 ·have ah:i < ar:=by simpa using Pz
  obtain ⟨bP,alF,kq,gC,en⟩:=hOg i ah;have HT:i < O.length:=by omega
  have dh:=YM _ en;generalize hs:O.getD i 0=s at *;have alG:=ae.cell gC (fun h=>h);have b3:(0:Int)≤i∧(i:Int) < ar:=by omega
  subst alF;(try simp only [go_sem,simprocAttr,an,bq,b3,dB,alG]);refine aq (by rfl) ?_;refine (oS h2.at' hM.g.st hM.g.ends dh).mono ?_;rintro _ w3 ⟨v3,rfl,sC,ab⟩;(try simp only [go_sem,simprocAttr]);refine dk ?_;intro w4 aH ai _;refine cX (cs:=[I 0,I 0,.slice none 0 0]) rfl rfl aH rfl rfl (oV sC _ _) ?_;intro w5 bZ aB fP;have dQ:=ae.size;have apu:=ab.size;have eI:Mod (fun _=>False) w3 w5:=ai.step aB (fun x U hl=>by subst U;omega);have dH:Mod (fun _=>False) w w5:=(ae.trans ab).trans eI;have h5:=hT.later dH;have alH:=hM.g.nd dh;obtain ⟨vK,sC,nP⟩:=sC;obtain ⟨va3,vc3,rfl,_⟩:=sC.val;have mg:((M.st.nd s).kind != 3)=decide ((M.st.nd s).kind≠3):=by by_cases hh:(M.st.nd s).kind=3<;>simp [hh]
  (try simp only [go_sem,simprocAttr,cell_of bZ,mg]);refine aY rfl (fun hk=>?_) (fun hk=>?_)
  ·simp only [aL,aM,aN,an,aQ] at hk;(try simp only [go_sem,simprocAttr]);refine aq (by rfl) ?_;refine (sB h5.at' 5).mono ?_;rintro _ w6 hop;(try simp only [go_sem,simprocAttr]);rw [alE s en hk];exact aU.boxed dH hop
  ·simp only [aL,aM,aN,an,aQ] at hk;have ox:=(hv.mod ab (fun _ _ h=>h)).mod eI (fun _ _ h=>h);have YN:=sC.mod eI (fun _ _ h=>h);have Ee:=(uj alH.1).2.2.1 hk;rw [Ee] at YN;obtain ⟨b6,rfl,_,mX⟩:=kQ YN (i:=1) (by omega);have mX:w5.cell? ⟨b6,1,none⟩=some (I ((M.st.nd s).args.getD 1 0)):=by
    rw [mX,List.getElem?_map,List.getElem?_eq_getElem (by omega),List.getD_eq_getElem?_getD,List.getElem?_eq_getElem (by omega)];rfl
   have fP:w3.heap.size < w5.heap.size:=lt_of_heap bZ;(try simp only [go_sem,simprocAttr])
   refine An (fun ρ w'=>ρ.get 0=some (ptr m)∧ρ.get 1=some (ptr k)∧ρ.get 3=some (I g)∧ρ.get 8=some (I ar)∧ρ.get 10=some v∧ρ.get 14=some (ptr w3.heap.size)∧ρ.get 38=some (.slice (some ⟨bP,d,none⟩) ar (cP - d))∧ρ.get 39=some (I ar)∧ρ.get 40=some (I i) ∧
    Mod (fun b=>f=some b) w5 w'∧ao w' 3 1 v (((M.st.ov (O.getD 0 0):Int)::(O.take i).map (fun s=>(M.st.nd s).args.getD 1 0)).map I) (i+1) f) ?_ ?_
   ·refine aY rfl (fun hz=>?_) (fun hz=>?_)
    ·have hz:i=0:=by simpa using hz
     obtain ⟨bV,cV,cs,rfl,rfl,BJ,je,_,mP⟩:=Gk ox (i:=0) (by omega);have b4:(0:Int)≤0∧(0:Int) < ((i+1:Nat):Int):=by omega
     (try simp only [go_sem,simprocAttr,an,bq,b4,dB]);refine bY (off:=0) rfl rfl BJ rfl je ?_;intro w6 cN aD _;(try simp only [go_sem,simprocAttr]);refine ⟨aD.az (fun b hb=>by rw [hb]),?_⟩;have:=mP w6 _ cN;rw [if_pos hz] at this;simp only [List.set_cons_zero] at this;have e:O.getD 0 0=s:=by rw [← hs,hz]
     rw [e];exact this
    ·have hz:i≠0:=by simpa using hz
     (try simp only [go_sem,simprocAttr]);rw [if_neg hz] at ox;exact ⟨Mod.refl _ _,ox⟩
   rintro ρ w6 ⟨r0,r1,r3,r8,pS,YO,DB,Dc,Dd,aD,uc⟩;have nf3:f≠some w3.heap.size:=fun e=>by have:=hv.lt e;omega
   have nf6:f≠some b6:=fun e=>by
    have h1:=hv.lt e;have h2:=nP b6 (by assumption);omega
   have F0:=aD.at bZ (fun e=>nf3 e);have alI:=aD.cell mX (fun e=>nf6 e);have b5:(0:Int)≤1∧(1:Int) < ((M.st.nd s).args.length:Int):=by omega
   obtain ⟨av6,cv6,rfl,_⟩:=uc.val;have e40:IntKind.i64.wrap ((i:Int)+1)=((i+1:Nat):Int):=by rw [cy (by omega) (by omega)];omega
   (try simp only [go_sem,simprocAttr,an,bq,r0,r1,r3,r8,pS,YO,DB,Dc,Dd,cell_of F0,b5,dB,alI,show Int.toNat 1=1 from rfl]);refine cd (by rfl) (by rfl) ?_;intro w7 cm aX _;(try simp only [go_sem,simprocAttr,r0,r1,r3,r8,pS,YO,DB,Dc,Dd]);refine eH (m:=1) (news:=[I ((M.st.nd s).args.getD 1 0)]) (by (try simp only [go_sem,simprocAttr,pS])) (uc.mod aX (fun _ _ h=>h)) rfl (fun h=>by cases h) (j9 (xs:=[I ((M.st.nd s).args.getD 1 0)]) cm) (pB [(M.st.nd s).args.getD 1 0]) rfl (by omega) (by omega) ?_;intro v8 w8 f8 HU ch HV;(try simp only [go_sem,simprocAttr,r0,r1,r3,r8,DB,Dc,Dd,e40]);have YP:∀ b,f=some b→¬ b < w.heap.size:=fun b hb=>by have:=hf b hb;omega
   have YC:=aX.size;have s56:=aD.size;have s05:=dH.size;refine ⟨_,by omega,i+1,v8,f8,rfl,by omega,((dH.step aD (fun b hb hl=>absurd hl (YP b hb))).trans aX).step ch (fun b hb hl=>absurd hl (YP b hb)),fun s' fN=>?_,?_,fun b hb=>?_,rfl⟩
   ·rw [List.take_succ_eq_append_getElem HT] at fN;rcases List.mem_append.1 fN with h1 | h1
    ·exact df s' h1
    ·obtain rfl:=List.mem_singleton.1 h1;have e:O[i]=s:=by rw [← hs,List.getD_eq_getElem?_getD,List.getElem?_eq_getElem HT];rfl
     rw [e];exact hk
   ·rw [if_neg (by omega)];have e:O[i]=s:=by rw [← hs,List.getD_eq_getElem?_getD,List.getElem?_eq_getElem HT];rfl
    rw [List.take_succ_eq_append_getElem HT,List.map_append,e]
    simpa using HU
   ·rcases HV b hb with h1 | h1
    ·exact hf b h1
    ·omega
 ·have ah:¬ i < ar:=by simpa using Pz
  obtain rfl:i=ar:=by omega
  obtain ⟨H,hH⟩:∃ H:Int,H=if i=0 then (M.st.ov M.aa.bC:Int) else (M.st.ov (O.getD 0 0):Int):=⟨_,rfl⟩
  rw [← hH] at hv;have iJ:O.take i=O:=List.take_of_length_le (by omega);rw [iJ] at df hv;have hHe:M.head M.aa i=H:=by
   unfold Mc.head;rw [← hO,hH];have hr:M.ref=false:=by unfold Mc.ref;split<;>simp_all
   cases O with
   | nil=>simp at HS;rw [if_pos HS.symm]
   | cons a l=>simp at HS;rw [if_neg (by omega),hr];rfl
  have YQ:M.st.In H∧M.st.ov H=H.toNat:=by
   rw [hH]
   split
   ·exact ⟨hM.g.uh hG.sd,by rw [Int.toNat_natCast];exact (St.Hc hM.g hG.sd).1⟩
   ·have:=YM _ (vY (l:=O) (i:=0) (by omega));exact ⟨hM.g.uh this,by rw [Int.toNat_natCast];exact (St.Hc hM.g this).1⟩
  have B6:M.call M.aa g = { M.bU { M.aa with runs:=true,jb:=g,at':=0,stack:=H::O.map (fun s=>(M.st.nd s).args.getD 1 0),spine:=M.aa.spine.take d} with st:=M.st.set H.toNat ⟨7,0,[]⟩}:=by
   unfold Mc.call;rw [HR,← hO,if_pos (List.all_eq_true.2 (fun s hs=>by simpa using df s hs)),hHe,YQ.2,Int.toNat_natCast,show M.aa.spine.length - i=d by omega]
  have DG:dJ w2.drew (bL τ w .no) m S M ks k:=h2.mod (Mod.refl (fun _=>False) w2).drew (dV _ _).wx (fun _ _ h=>h.elim);obtain ⟨WG,WH,WI,WJ,WK,D6,WL,Hg,F2,cQ⟩:=DG.at';have cB:w2.heap[m]? = _:=cQ.cells;obtain ⟨ti,ui,ud⟩:=cQ.st.iface;obtain ⟨aV,cV,rfl,_⟩:=hv.val;obtain ⟨bV,rfl,BK,PA⟩:=kQ hv (i:=0) (by omega);have PA:w2.cell? ⟨bV,0,none⟩=some (I H):=PA;have b6:(0:Int)≤0∧(0:Int) < ((i+1:Nat):Int):=by omega
  (try simp only [go_sem,simprocAttr,an,bq,cell_of cB,bb,ud,b6,dB,PA]);refine GB (p:=H) (nd:=⟨7,0,[]⟩) (by rw [ud];rfl) (by rfl) cQ.st hM.g.st YQ.1 rfl rfl (vM _) ?_;intro w3 F3 alJ wk;have h3:=cQ.store (s:=M.st.set H.toNat ⟨7,0,[]⟩) wk alJ rfl;obtain ⟨vs3,vp3,fs3,vK,jq⟩:nT w3 (mV (bL τ w .no) w2.drew F3) (M.aE.length - 1) k M.aa:=h3.jJ _ _ _ hT.hk (Dv hT.pos);have ey:w3.heap[k]? = _:=jq.cells;obtain ⟨aP3,YR,rfl,apv,_⟩:=jq.spine.val;have b7:(0:Int)≤d∧(d:Int)≤YR:=by omega
  (try simp only [go_sem,simprocAttr,an,bq,cell_of ey,cC,e1,b7,Dk]);refine bY (off:=4) rfl rfl ey rfl (by simp [cC]) ?_;intro w4 aH ai _;(try simp only [go_sem,simprocAttr]);refine bY (off:=0) rfl rfl aH rfl (by simp [cC]) ?_;intro w5 bZ aB _;(try simp only [go_sem,simprocAttr]);refine bY (off:=1) rfl rfl bZ rfl (by simp [cC]) ?_;intro w6 cN aD _;(try simp only [go_sem,simprocAttr]);refine bY (off:=2) rfl rfl cN rfl (by simp [cC]) ?_;intro w7 cm aX _;(try simp only [go_sem,simprocAttr]);refine bY (off:=3) rfl rfl cm rfl (by simp [cC]) ?_;intro w8 eB ch _;(try simp only [go_sem,simprocAttr]);have HW:Mod (· = k) w3 w8:=((((Mod.dj ai).trans aB).trans aD).trans aX).trans ch;have lV:=hv.lt BK;have nV:bL τ w .no bV = .no:=oP (hf _ BK);have tV:mV (bL τ w .no) w2.drew F3 bV = .no:=by rw [nU (bL τ w .no) w2.drew F3 bV lV];exact nV
  have nVF:¬ F2 bV:=fun e=>by have:=cQ.tF _ e;rw [nV] at this;cases this
  have nVk:bV≠k:=fun e=>by have:=jq.tk;rw [← e,tV] at this;cases this
  have xr:ao w8 3 1 (.slice (some ⟨bV,0,none⟩) (i+1) cV) ((H::O.map (fun s=>(M.st.nd s).args.getD 1 0)).map I) (i+1) f:=by
   refine ((hv.mod (Mod.refl (fun _=>False) w2).drew (fun _ _ h=>h)).mod wk.1 (fun b hb=>?_)).mod HW (fun b hb e=>?_)
   ·rw [BK] at hb;cases hb;exact nVF
   ·rw [BK] at hb;cases hb;exact nVk e
  have alK:vK≠some k:=fun e=>by have:=jq.tp k e;rw [jq.tk] at this;cases this
  have alL:=(GH jq.spine (k:=d) (by omega)).mod HW (fun b hb e=>by subst e;exact alK hb);rw [B6];have YS:(mV (bL τ w .no) w2.drew F3).wx (fun b=>if b=bV then .fs (M.aE.length - 1) else mV (bL τ w .no) w2.drew F3 b) w3:=by
   intro b hb bj;by_cases BJ:b=bV
   ·subst BJ;exact absurd tV bj
   ·simp only [if_neg BJ]
  have bt:=alB (f':={ M.aa with runs:=true,jb:=(g:Int),at':=0,stack:=H::O.map (fun s=>(M.st.nd s).args.getD 1 0),spine:=M.aa.spine.take d}) jq (vs':=.slice (some ⟨bV,0,none⟩) (i+1) cV) (fs':=f) (xE:=.slice aP3 d YR) (w3:=w8)
   (by rw [show (H::O.map (fun s=>(M.st.nd s).args.getD 1 0)).length=i+1 by simp [HS]];exact xr)
   (by
    have el:(M.aa.spine.take d).length=d:=by rw [List.length_take];omega
    rw [el,List.map_take]
    simpa using alL)
   (by simpa [cC] using eB) YS (fun b hb=>by rw [BK] at hb;cases hb;simp)
  have wm:=h3.frame hT.hk (HW.az (fun b hb=>by subst hb;exact .inl jq.tk)) YS bt;refine ⟨_,fun b hb=>?_,⟨_,_,_,_,_,_,_,_,_,wm⟩,?_⟩
  ·have BJ:b≠bV:=fun e=>by subst e;have:=hf _ BK;omega
   simp only [if_neg BJ];rw [nU (bL τ w .no) w2.drew F3 b (Nat.lt_of_lt_of_le hb ae.size),eJ τ w .no b hb]
  ·refine ((ae.az (fun _ h=>h.elim)).step (Mod.dj wk.1) (fun b hb hl=>?_)).step HW (fun b hb hl=>?_)
   ·have:=cQ.tF b hb;rw [eJ τ w .no b hl] at this;rw [this];simp [Tg.own]
   ·subst hb;rw [hF.tk];simp [Tg.own]
end
end
section
open Go Go.W
theorem iL.later {w w':World} {τ:Tag} {m:Nat} {S:SV} {M:Mc} {ks:List Nat} (h:iL w τ m S M ks) (hm:Mod (fun _=>False) w w'):iL w' (bL τ w .no) m S M ks:=h.mod hm (eJ τ w .no).wx (fun _ _ h=>h.elim)
structure HX (w:World) (m:Nat) (S:SV) (M:Mc) (vG vF vT:Value) (fw:Option Nat) (l:List Int) (W:World):Prop where
 ex:∃ v A8,W.heap[m]? = some (.cells (bb S M vG vF v vT).toArray 113 (0,0))∧ao W 3 1 v ((M.wait++l).map I) (M.wait++l).length A8∧∀ b,A8=some b→fw=some b∨w.heap.size≤b
 mod:Mod (fun b=>fw=some b∨b=m) w W
theorem HX.quiet {w:World} {m:Nat} {S:SV} {M:Mc} {vG vF vT:Value} {fw:Option Nat} {l:List Int}:Quiet w.heap.size (HX w m S M vG vF vT fw l):=by
 rintro W W' X ⟨⟨v,fs',h1,h2,h3⟩,h4⟩ hm hs;have fN:∀ b,X b→∃ o:Obj,W.heap[b]? = some o∧o.isCells=false:=fun b hb=>(hs b hb).2
 refine ⟨⟨v,fs',DF hm fN h1,GX hm fN h2,h3⟩,h4.step hm (fun b hb hl=>?_)⟩;have:=(hs b hb).1;omega
theorem alM {P:Program} {N:Nat} {a:IR} {id:Nat} {next:List Nat→Env→World→Prop} {Q:oH} {ρ:Env} {w:World} (j8:Env→World→Prop) (h:cM P N a (jz id (lv j8 (fun e ρ w=>Q e [] ρ w))) ρ w) (hk:∀ ρ w,j8 ρ w→next [] ρ w) :
   cM P N a (jz id (fun e ρ w=>Au next Q e [] ρ w)) ρ w:=
 yy a _ _ (Am (fun e ρ w h=>by
  cases e with
  | normal=>exact hk _ _ h
  | _=>exact h)) ρ w h
theorem YT {w:World} {τ:Tag} {m:Nat} {S:SV} {M:Mc} {vG vF vW vT:Value} {fg ff fw ft:Option Nat} {F:Nat→Prop} {ks:List Nat} (h:ek w τ m S M vG vF vW vT fg ff fw ft F ks) (it:It) {w4:World} {v:Value} {zf:Option Nat} (hm:Mod (fun b=>ft=some b∨b=m) w w4)
   (hb:w4.heap[m]? = some (.cells (bb S M vG vF vW v).toArray 113 (0,0))) (ho:ao w4 42 2 v ((M.told++[it]).flatMap ec) (M.told++[it]).length zf) (hf:∀ b,zf=some b→ft=some b∨w.heap.size≤b) :
   aU w τ m S { M with told:=M.told++[it]} ks w4:=by
 refine ⟨bL τ w .tl,eJ τ w .tl,⟨vG,vF,vW,v,fg,ff,fw,zf,F,h.ag3 (eJ τ w .tl).wx hm hb ho (Dj h.tt (fun b hb=>h.tl.lt hb) hf) rfl rfl rfl rfl rfl rfl rfl⟩,hm.az ?_⟩;rintro b (hb | rfl)
 ·rw [h.tt b hb];simp [Tg.own]
 ·rw [h.tm];simp [Tg.own]
section
variable {w:World} {τ:Tag} {m:Nat} {S:SV} {M:Mc} {ks:List Nat} {k:Nat} {x:Ins} {n:Int}
theorem alN (h:iL w τ m S M ks) (hM:bB n M) (he:M.ended=0) (iw:M.st.kd≠.ref) (hw:M.wait.length≤4294967295) (ht:M.told.length≤4294967295) (hf:M.aE.length≤4294967295) :
   aK Tryz.prog 79 [ptr m] w fun _ w'=>∃ dt,aU w τ m S M.tell dt w':=by
 have kI:=hM.pW he;have dh:=hM.mZ _ (Hb kI);have mQ:=hM.g.nd dh;have hA8:(M.st.nd M.last).args.length≤8:=by
  have:=mQ.1;simp only [Nd.may,gU,decide_eq_true_eq] at this;omega
 obtain ⟨j,hj⟩:∃ j:Nat,j+1=M.wait.length:=⟨M.wait.length - 1,by omega⟩;have tN:M.last=M.wait.getD j 0:=by unfold Mc.last;rw [← hj];rfl
 refine af5.calls rfl ?_;unfold U6;refine σ ?_;refine cK rfl ?_;intro w1 ax ag _;have h1:=h.later ag;obtain ⟨vG,vF,vW,vT,fg,ff,fw,ft,F,hh⟩:=h1;have hc:=hh.cells;obtain ⟨aW,cW,rfl,_⟩:=hh.wt.val;obtain ⟨bW,rfl,BE,iE⟩:=kQ hh.wt (i:=j) (by omega);have iE:w1.cell? ⟨bW,j,none⟩=some (I M.last):=by
  rw [iE,tN,List.getElem?_map,List.getElem?_eq_getElem (by omega),List.getD_eq_getElem?_getD,List.getElem?_eq_getElem (by omega)];rfl
 have e1:IntKind.i64.wrap ((M.wait.length:Int) - 1)=j:=by rw [cy (by omega) (by omega)];omega
 have b1:(0:Int)≤j∧(j:Int) < M.wait.length:=by omega
 have PB:=lt_of_heap ax;have lm:=hh.lt;have lW:=hh.wt.lt BE;simp only [go_sem,simprocAttr,an,bq,cell_of ax,ptr,Value.cells,cell_of hc,bb,e1,b1,dB,iE];refine Fp (fun ρ w'=>∃ b4 v,ρ.get 1=some (ptr w.heap.size)∧ρ.get 2=some (I j)∧ρ.get 4=some (ptr b4)∧w1.heap.size≤b4∧w'.heap[b4]? = some (.cells #[I (M.st.nd M.last).kind,I (M.st.nd M.last).num,v] 104 (0,0))∧yF w1 w' v (M.st.nd M.last).args∧Mod (fun _=>False) w1 w') ?_ ?_
 ·rw [Fo];refine ⟨?_,?_⟩
  ·refine δ (by rfl) (oS ((h.later ag).mod (Mod.refl (fun _=>False) w1).drew (dV _ _).wx (fun _ _ h=>h.elim)) hM.g.st hM.g.ends dh) ?_;rintro _ w2 ⟨v,rfl,hv,ae⟩;refine σ ?_;refine dk ?_;intro w3 aJ ab _;have k1:=ab.old m (by have:=ae.size;exact Nat.lt_of_lt_of_le lm this) (fun h=>h);have k2:=ab.old w.heap.size (by have:=ae.size;exact Nat.lt_of_lt_of_le PB this) (fun h=>h);have k3:=ab.old bW (by have:=ae.size;exact Nat.lt_of_lt_of_le lW this) (fun h=>h);refine σ ?_;refine ⟨by simp only [il,k1,k2,k3,and_self,implies_true],?_⟩;refine cX (cs:=[I 0,I 0,.slice none 0 0]) rfl rfl aJ rfl rfl (oV hv _ _) ?_;intro w4 aH ai eu;refine σ ?_;have vH:Mod (fun _=>False) w1 w2:=Mod.dj ae;have du:Mod (fun _=>False) w2 w4:=ab.step ai (fun x U hl=>by subst U;omega);obtain ⟨fp,hv,hf⟩:=hv;exact ⟨w2.heap.size,v,rfl,vH.size,aH,⟨fp,hv.mod du (fun _ _ h=>h),hf⟩,vH.trans du⟩
  ·refine dk ?_;intro w3 aJ ab _;have k1:=ab.old m lm (fun h=>h);have k2:=ab.old w.heap.size PB (fun h=>h);have k3:=ab.old bW lW (fun h=>h);refine σ ?_;refine ⟨by simp only [il,k1,k2,k3,and_self,implies_true],?_⟩;have q9:Mod (fun _=>False) w1 w3:=Mod.dj ab;refine δ (by rfl) (oS ((h.later ag).later q9) hM.g.st hM.g.ends dh) ?_;rintro _ w2 ⟨v,rfl,hv,ae⟩;refine σ ?_;have aC:=ae.at aJ (fun h=>h);refine cX (cs:=[I 0,I 0,.slice none 0 0]) rfl rfl aC rfl rfl (oV hv _ _) ?_;intro w4 aH ai eu;refine σ ?_;obtain ⟨fp,hv,hf⟩:=hv;refine ⟨w1.heap.size,v,rfl,Nat.le_refl _,aH,⟨fp,hv.mod ai (fun b hb hh=>by subst hh;have:=hf _ hb;have:=lt_of_heap aJ;have e:w1.drew.heap.size=w1.heap.size:=rfl;omega),fun b hb=>Nat.le_trans q9.size (hf b hb)⟩,(q9.trans ae).step ai (fun x U hl=>by subst U;have e:w1.drew.heap.size=w1.heap.size:=rfl;omega)⟩
 rintro ρ w2 ⟨b4,v,r1,r2,r4,YU,aH,Du,ae⟩;have dC:=ae.at ax (fun h=>h);simp only [go_sem,simprocAttr,r1,r2,r4,cell_of aH];have PC:=ae.drew;have h2:iL w2.drew (bL (bL τ w .no) w1 .no) m S M ks:=(h.later ag).later PC;obtain ⟨WG,WH,WI,WJ,WK,D6,WL,Hg,F2,cQ⟩:=h2;have cB:w2.heap[m]? = _:=cQ.cells;have ye:=cQ.lt;have yf:=lt_of_heap dC;have YV:=lt_of_heap aH;have xO:∀ b,w1.heap.size≤b→bL (bL τ w .no) w1 .no b = .no:=fun b hb=>oP hb
 have HY:bL (bL τ w .no) w1 .no w.heap.size = .no:=by
  rw [eJ _ w1 .no _ PB];exact oP (Nat.le_refl _)
 have bT:Hg≠some w.heap.size:=fun e=>by have:=cQ.tt _ e;rw [HY] at this;cases this
 have mT:Hg≠some m:=fun e=>by have:=cQ.tt _ e;rw [cQ.tm] at this;cases this
 have bF:D6≠some w.heap.size:=fun e=>by have:=cQ.tf _ e;rw [HY] at this;cases this
 have mF:D6≠some m:=fun e=>by have:=cQ.tf _ e;rw [cQ.tm] at this;cases this
 generalize hA:M.st.nd M.last=A at *;refine alM (fun ρ w'=>ρ.get 1=some (ptr w.heap.size)∧ρ.get 2=some (I j)∧ρ.get 4=some (ptr b4)∧(A.kind=1∨A.kind=2)∧aU w2.drew (bL (bL τ w .no) w1 .no) m S { M with told:=M.told++[M.item A]} ks w') ?_ ?_
 ·refine aY rfl (fun hk=>?_) (fun hk=>?_)
  ·simp only [aL,aM,aN,an,aQ] at hk;obtain ⟨aT,cT,rfl,_⟩:=cQ.tl.val;simp only [go_sem,simprocAttr,an,bq,cell_of dC,ptr,Value.cells,cell_of cB,bb,cell_of aH];refine cd (by rfl) (by rfl) ?_;intro w3 aJ ab _;have k1:=ab.old m ye (fun h=>h);have k2:=ab.old w.heap.size yf (fun h=>h);have k3:=ab.old b4 YV (fun h=>h);refine σ ?_;refine ⟨by simp only [il,k1,k2,k3,and_self,implies_true],?_⟩;refine eH (m:=1) (news:=[.string ⟨#[]⟩,I A.num]) rfl (cQ.tl.mod ab (fun _ _ h=>h)) rfl (fun h=>by cases h) (j9 (xs:=[.string ⟨#[]⟩,I A.num]) aJ) (by simp [Value.oneCell']) rfl (by omega) (by omega) ?_;intro v4 w4 YW gk ai gq;have k4:=ai.old w.heap.size (by have:=ab.size;exact Nat.lt_of_lt_of_le yf this) bT;have pN:=ai.at (ab.at cB (fun h=>h)) mT;obtain ⟨va,vc,rfl,_⟩:=gk.val;refine σ ?_;refine ⟨by simp only [il,k4,and_self,implies_true],?_⟩;refine bY (off:=13) rfl rfl pN rfl (by simp [bb]) ?_;intro w5 bZ aB fP;refine σ ?_;have hI:M.item A=⟨⟨#[]⟩,A.num⟩:=by unfold Mc.item;rw [if_pos hk]
   refine ⟨.inl hk,?_⟩;refine YT cQ (M.item A) (((ab.az (fun _ h=>h.elim)).step ai (fun b hb _=>.inl hb)).step aB (fun b hb _=>.inr hb)) (by simpa [bb] using bZ) ?_ (fun b hb=>(gq b hb).imp id (fun hh=>by have:=ab.size;omega));rw [hI]
   have:=gk.mod aB (fun b hb e=>by
    subst e;rcases gq b hb with h3 | h3
    ·exact mT h3
    ·have:=ab.size;have e2:b < w2.drew.heap.size:=ye;omega)
   simpa [ec] using this
  simp only [aL,aM,aN,an,aQ] at hk;refine σ ?_;refine aY rfl (fun eT=>?_) (fun eT=>?_)
  ·simp only [aL,aM,aN,an,aQ] at eT;have kz:=mQ.2.2.2 eT;have h0n:0≤A.num:=((uj mQ.1).2.1 eT).2;obtain ⟨q,hq⟩:∃ q:Nat,A.num=q:=⟨A.num.toNat,by omega⟩;obtain ⟨ad,c,alO,G4,_⟩:=DD cQ.aZ (i:=q) (by omega);have b2:(0:Int)≤q∧(q:Int) < M.aZ.au.length:=by omega
   have G4:w2.cell? (ad.add (q*2))=some (.string (M.aZ.sh q).name):=G4;obtain ⟨aT,cT,rfl,_⟩:=cQ.tl.val;rw [hq] at aH;simp only [go_sem,simprocAttr,an,bq,cell_of dC,ptr,Value.cells,cell_of cB,bb,cell_of aH,alO,b2,G4];refine cd (by rfl) (by rfl) ?_;intro w3 aJ ab _;have k1:=ab.old m ye (fun h=>h);have k2:=ab.old w.heap.size yf (fun h=>h);refine σ ?_;refine ⟨by simp only [il,k1,k2,and_self,implies_true],?_⟩;refine eH (m:=1) (news:=[.string (M.aZ.sh q).name,I 0]) rfl (cQ.tl.mod ab (fun _ _ h=>h)) rfl (fun h=>by cases h) (j9 (xs:=[.string (M.aZ.sh q).name,I 0]) aJ) (by simp [Value.oneCell']) rfl (by omega) (by omega) ?_;intro v4 w4 YW gk ai gq;have k4:=ai.old w.heap.size (by have:=ab.size;exact Nat.lt_of_lt_of_le yf this) bT;have pN:=ai.at (ab.at cB (fun h=>h)) mT;obtain ⟨va,vc,rfl,_⟩:=gk.val;refine σ ?_;refine ⟨by simp only [il,k4,and_self,implies_true],?_⟩;refine bY (off:=13) rfl rfl pN rfl (by simp [bb]) ?_;intro w5 bZ aB fP;refine σ ?_;have hI:M.item A=⟨(M.aZ.sh q).name,0⟩:=by unfold Mc.item;rw [if_neg hk,hq]
   refine ⟨.inr eT,?_⟩;refine YT cQ (M.item A) (((ab.az (fun _ h=>h.elim)).step ai (fun b hb _=>.inl hb)).step aB (fun b hb _=>.inr hb)) (by simpa [bb] using bZ) ?_ (fun b hb=>(gq b hb).imp id (fun hh=>by have:=ab.size;omega));rw [hI]
   have:=gk.mod aB (fun b hb e=>by
    subst e;rcases gq b hb with h3 | h3
    ·exact mT h3
    ·have:=ab.size;have e2:b < w2.drew.heap.size:=ye;omega)
   simpa [ec] using this
  ·simp only [aL,aM,aN,an,aQ] at eT;obtain ⟨aF,cF,rfl,_⟩:=cQ.fr.val;obtain ⟨aW2,cW2,rfl,_⟩:=cQ.wt.val;obtain ⟨YX,rfl,apw,PD⟩:=kQ cQ.wt (i:=j) (by omega);have PD:w2.cell? ⟨YX,j,none⟩=some (I M.last):=by
    have e:w2.cell? ⟨YX,j,none⟩=(M.wait.map I)[j]?:=PD;rw [e,tN,List.getElem?_map,List.getElem?_eq_getElem (by omega),List.getD_eq_getElem?_getD,List.getElem?_eq_getElem (by omega)];rfl
   have hl:=cQ.len;simp only [go_sem,simprocAttr,an,bq,cell_of dC,ptr,Value.cells,cell_of cB,bb,b1,dB,PD];refine cK rfl ?_;intro w3 aJ ab _;have k1:=ab.old m ye (fun h=>h);have k2:=ab.old w.heap.size yf (fun h=>h);refine σ ?_;refine ⟨by simp only [il,k1,k2,and_self,implies_true],?_⟩;refine cd (by rfl) (by rfl) ?_;intro w4 yE ai _;have k3:=ai.old m (by have:=ab.size;exact Nat.lt_of_lt_of_le ye this) (fun h=>h);have k4:=ai.old w.heap.size (by have:=ab.size;exact Nat.lt_of_lt_of_le yf this) (fun h=>h);refine σ ?_;refine ⟨by simp only [il,k3,k4,and_self,implies_true],?_⟩;have du:Mod (fun _=>False) w2.drew w4:=ab.trans ai;refine eH (m:=1) (news:=[ptr w2.drew.heap.size]) rfl (cQ.fr.mod du (fun _ _ h=>h)) rfl (fun h=>by cases h) (j9 (xs:=[ptr w2.drew.heap.size]) yE) (by simp [Value.oneCell',ptr]) rfl (by omega) (by omega) ?_;intro v6 w6 ff6 gK aD iu;obtain ⟨a6,c6,rfl,_⟩:=gK.val;have pN:=du.at cB (fun h=>h);have mX:=aD.at pN mF;have k6:=aD.old w.heap.size (by have:=du.size;exact Nat.lt_of_lt_of_le yf this) bF;refine σ ?_;refine ⟨by simp only [il,k6,and_self,implies_true],?_⟩;refine bY (off:=10) rfl rfl mX rfl (by simp [bb]) ?_;intro w7 cm aX mN;refine σ ?_;have uI:Mod (fun b=>D6=some b∨b=m) w2.drew w7:=((du.az (fun _ h=>h.elim)).step aD (fun b hb _=>.inl hb)).step aX (fun b hb _=>.inr hb);have sD:w7.heap[w2.drew.heap.size]? = some (.cells (cC (zc M.last) (.slice none 0 0) (.slice none 0 0)).toArray 151 (0,0)):=by
    have q1:=ai.at aJ (fun h=>h);have q2:=aD.at q1 (fun e=>im (cQ.fr.mod du (fun _ _ h=>h)) e q1 (by decide));exact aX.at q2 (fun e=>by have e2:m < w2.drew.heap.size:=ye;omega)
   have hop:=VJ cQ M.last (k':=w2.drew.heap.size) (Nat.le_refl _) sD uI (by simpa [bb,Mc.enter] using cm) (by
    have:=gK.mod aX (fun b hb e=>by
     subst e;rcases iu b hb with h3 | h3
     ·exact mF h3
     ·have:=du.size;have e2:b < w2.drew.heap.size:=ye;omega)
    simpa using this) (fun b hb=>(iu b hb).imp id (fun h3=>by have:=du.size;omega))
   refine VR (.inr rfl) (fun w' hm=>⟨_,rfl,?_⟩);have e:M.tell=M.enter M.last:=by
    unfold Mc.tell;rw [hA,if_neg (by omega)];unfold Mc.nv;rw [if_neg (by unfold Mc.ref;split<;>simp_all)]
   rw [e];exact ⟨_,aU.boxed ag (aU.boxed PC (hop.after hm))⟩
 ·rintro ρ w5 ⟨r1,r2,r4,alP,hop⟩;obtain ⟨Mt,PE⟩:∃ Mt:Mc,Mt = { M with told:=M.told++[M.item A]}:=⟨_,rfl⟩;rw [← PE] at hop;have wY:Mt.wait=M.wait:=by rw [PE]
  have rl:M.tell = { Mt with wait:=M.wait.take j++A.args.reverse,ended:=if (M.wait.take j++A.args.reverse).length=0 then 2 else Mt.ended}:=by
   unfold Mc.tell;rw [hA,if_pos alP,PE,show M.wait.length - 1=j by omega]
  obtain ⟨nX,j1,sS,j2⟩:=hop;have l0:w5.heap[w.heap.size]? = _:=j2.at (b:=w.heap.size) dC (fun hh=>hh.1 HY);have zw:w5.heap[b4]? = _:=j2.at (b:=b4) aH (fun hh=>hh.1 (xO _ YU));have t5:∀ b,b < w2.heap.size→nX b=bL (bL τ w .no) w1 .no b:=fun b hb=>j1 b hb
  have YY:nX w.heap.size = .no:=by rw [t5 _ yf];exact HY
  have alQ:nX b4 = .no:=by rw [t5 _ YV];exact xO _ YU
  have ED:=sS.mod (Mod.refl (fun _=>False) w5).drew (dV _ _).wx (fun _ _ h=>h.elim);obtain ⟨PF,PG,vW5,PH,fg5,ff5,wq,ft5,F5,pj⟩:=ED;have hP:w5.heap[m]? = _:=pj.cells;have BL:=pj.wt;rw [wY] at BL;obtain ⟨YZ,PI,rfl,apx,_⟩:=BL.val;have e2:(0:Int)≤j∧(j:Int)≤PI:=by omega
  simp only [go_sem,simprocAttr,an,bq,r1,r2,r4,cell_of l0,ptr,Value.cells,cell_of hP,bb,e2,Dk];refine bY (off:=11) rfl rfl hP rfl (by simp [bb]) ?_;intro w6 cN aD mK;have lm5:=lt_of_heap hP;have mW5:wq≠some m:=fun e=>by have:=pj.tw _ e;rw [pj.tm] at this;cases this
  have h6:=pj.waits (M':={ Mt with wait:=M.wait.take j}) (l:=M.wait.take j) (v:=.slice YZ j PI) (dV nX w5.drew).wx (aD.az (fun b hb=>.inr hb)) (by simpa [bb] using cN) (by
   have:=(GH BL (k:=j) (by omega)).mod aD (fun b hb hh=>by subst hh;exact mW5 hb);have el:(M.wait.take j).length=j:=by rw [List.length_take];omega
   rw [el,List.map_take]
   simpa using this) pj.tw rfl rfl rfl rfl rfl rfl rfl
  have yT:=aD.at (b:=w.heap.size) l0 (fun e=>by have:=pj.tm;rw [← e,YY] at this;cases this);have pZ:=aD.at (b:=b4) zw (fun e=>by have:=pj.tm;rw [← e,alQ] at this;cases this);obtain ⟨G0,xM,xN⟩:=Du;have G1:=xM.mod (Mod.refl (fun _=>False) w2).drew (fun _ _ h=>h);have alR:=G1.mod j2 (fun b hb hh=>hh.1 (xO _ (xN b hb)));have Y0:∀ b,G0=some b→nX b = .no:=fun b hb=>by rw [t5 _ (xM.lt hb)];exact xO _ (xN b hb)
  have BM:=alR.mod aD.dj (fun b hb e=>by have:=pj.tm;rw [← e,Y0 b hb] at this;cases this);obtain ⟨va,vc,rfl,_⟩:=BM.val;simp only [go_sem,simprocAttr,cell_of pZ];refine δ (by rfl) (VS w6 _) ?_;rintro _ w7 ⟨rfl,⟨T7,fz7,cm⟩,aX⟩;have h7:=h6.mod aX (eJ nX w6 .no).wx (fun _ _ h=>h.elim);have Ez:=h7.cells;have alS:=BM.mod aX (fun _ _ h=>h);obtain ⟨bA,DH,DI,DJ⟩:=VU alS (lt_of_heap cm);have YC:=aX.size;have t7:∀ b,b < w6.heap.size→bL nX w6 .no b=nX b:=fun b hb=>eJ nX w6 .no b hb
  have zm:∀ b,(bL nX w6 .no) b = .no→b≠m∧wq≠some b:=fun b hb=>⟨(fun e=>by subst e;rw [h7.tm] at hb;cases hb),(fun e=>by rw [h7.tw b e] at hb;cases hb)⟩
  have nB:=zm w6.heap.size (oP (Nat.le_refl _));have nA:bA≠m∧wq≠some bA:=by
   rcases DI with e | e
   ·rw [e];exact nB
   ·exact zm bA (by rw [t7 _ (BM.lt e)];exact Y0 _ e)
  have n1:w.heap.size≠m∧wq≠some w.heap.size:=zm _ (by rw [t7 _ (lt_of_heap yT)];exact YY);have vo:=aX.at yT (fun h=>h);have lm7:=lt_of_heap Ez;have lB7:=lt_of_heap cm;have PJ:=lt_of_heap vo;refine ⟨2,A.args.length,153,#[ptr w6.heap.size],(fun j=>I (A.args.getD j 0)),sG w6.heap.size bA,(fun pre W=>HX w7 m S { Mt with wait:=M.wait.take j} PF PG PH wq (pre.map (fun j=>A.args.getD j 0)) W),⟨rfl,(fun _ _=>rfl),?_,⟨rfl,rfl⟩,by omega,?_,?_,⟨⟨⟨.slice YZ j PI,wq,?_,?_,fun b hb=>.inl hb⟩,Mod.refl _ _⟩,fun s=>HX.quiet,?_⟩⟩,?_⟩
  ·refine VQ Fence.wide 1 trivial rfl (by omega) w6.heap.size bA A.args.length (.slice va A.args.length vc) (fun j=>I (A.args.getD j 0)) w7 (by simpa [Value.cells] using cell_of cm (o:=0)) (lt_of_heap cm) DJ (by omega)
  ·intro A B C a b;exact ⟨b.1.trans a.1,b.2.trans a.2⟩
  ·intro W l o o' hl ho DK _;have jG:l≠w6.heap.size:=fun e=>by omega
   have fX:l≠bA:=fun e=>by omega
   exact ⟨World.putObj_heap_other (fun e=>jG e.symm),World.putObj_heap_other (fun e=>fX e.symm)⟩
  ·exact Ez
  ·simpa using h7.wt
  ·rintro pre jj W ⟨⟨v,fs',p1,p2,p3⟩,p4⟩ bE ji;have HZ:W.heap[m]? = _:=p1;have p4d:=p4.drew;have Bf:∀ b,b < w7.heap.size→wq≠some b→fs'≠some b:=fun b hb hn e=>by
    rcases p3 b e with h1 | h1
    ·exact hn h1
    ·omega
   have H0:W.heap[w.heap.size]? = _:=p4.at vo (fun h=>by rcases h with h | h;exact n1.2 h;exact n1.1 h);obtain ⟨av,PK,rfl,_⟩:=p2.val;have sW:=p4.size;unfold U5;simp only [go_sem,simprocAttr,cell_of H0,ptr,Value.cells,cell_of HZ,bb];refine cd (by rfl) (by rfl) ?_;intro W1 PL kW _;have q1:=kW.old m (Nat.lt_of_lt_of_le lm7 sW) (fun h=>h);have q2:=kW.old w.heap.size (Nat.lt_of_lt_of_le PJ sW) (fun h=>h);refine σ ?_;refine ⟨by simp only [il,q1,q2,and_self,implies_true],?_⟩;refine eH (m:=1) (news:=[I (A.args.getD jj 0)]) rfl ((p2.mod (Mod.refl (fun _=>False) W).drew (fun _ _ h=>h)).mod kW (fun _ _ h=>h)) rfl (fun h=>by cases h) (j9 (xs:=[I (A.args.getD jj 0)]) PL) (pB [A.args.getD jj 0]) rfl (by simp only [List.length_append,List.length_map,List.length_take];omega) (by simp only [List.length_append,List.length_map,List.length_take];omega) ?_;intro v2 W2 xG Y1 fV GO;obtain ⟨a2,c2,rfl,_⟩:=Y1.val;have H2:fs'≠some m:=fun e=>im p2 e p1 (by decide)
   have q4:=fV.old w.heap.size (by have:=kW.size;exact Nat.lt_of_lt_of_le (Nat.lt_of_lt_of_le PJ sW) this) (Bf _ PJ n1.2);have hC2:=fV.at (kW.at HZ (fun h=>h)) H2;refine σ ?_;refine ⟨by simp only [il,q4,and_self,implies_true],?_⟩;refine bY (off:=11) rfl rfl hC2 rfl (by simp [bb]) ?_;intro W3 hB3 mq _;refine σ ?_;have hX:Mod (fun b=>fs'=some b∨b=m) W W3:=(((kW.dj).az (fun _ h=>h.elim)).step fV (fun b hb _=>.inl hb)).step mq (fun b hb _=>.inr hb);refine ⟨GV hX (fun b hb o ho=>?_),GW hX (by omega) (by omega) (fun hh=>?_) (fun hh=>?_),⟨.slice a2 _ c2,xG,by simpa [bb] using hB3,?_,fun b hb=>?_⟩,p4.step hX (fun b hb hl=>?_)⟩
   ·rcases hb with hb | rfl
    ·exact GY p2 hb ho
    ·rw [p1] at ho;cases ho;rfl
   ·rcases hh with hh | hh
    ·exact Bf _ (lt_of_heap cm) nB.2 hh
    ·exact nB.1 hh
   ·rcases hh with hh | hh
    ·exact Bf _ DH nA.2 hh
    ·exact nA.1 hh
   ·have:=Y1.mod mq (fun b hb e=>by
     subst e;rcases GO b hb with h3 | h3
     ·exact H2 h3
     ·have:=kW.size;have e2:W.drew.heap.size=W.heap.size:=rfl;omega)
    simpa [Nat.add_assoc] using this
   ·rcases GO b hb with h1 | h1
    ·exact p3 b h1
    ·have:=kW.size;have e2:W.drew.heap.size=W.heap.size:=rfl
     right;omega
   ·rcases hb with hb | hb
    ·rcases p3 b hb with h1 | h1
     ·exact .inl h1
     ·omega
    ·exact .inr hb
  ·intro D W hD hI jK;obtain ⟨⟨v,fs',p1,p2,p3⟩,p4⟩:=hI;rw [VT] at p2;have p2:ao W 3 1 v ((M.wait.take j++A.args.reverse).map I) (M.wait.take j++A.args.reverse).length fs':=p2;generalize As:M.wait.take j++A.args.reverse=ll at p2 rl;have H0:=p4.at vo (fun h=>by rcases h with h | h;exact n1.2 h;exact n1.1 h);obtain ⟨av,PK,rfl,_⟩:=p2.val;have Y2:D≠m:=fun e=>by subst e;rw [p1] at jK;cases jK
   have sW:=p4.size;have H2:fs'≠some m:=fun e=>im p2 e p1 (by decide)
   have fsD:fs'≠some D:=fun e=>by have:=GY p2 e jK;cases this
   have fin:∀ (W1 w':World),W1.heap[m]? = some (.cells (bb S M.tell PF PG (.slice av ll.length PK) PH).toArray 113 (0,0))→Mod (· = m) W W1→Mod (· = D) W1 w'→aU w τ m S M.tell ks w':=by
    intro W1 w' cY Fa PM;have yO:Mod (fun b=>wq=some b∨b=m) w7 w':=(p4.step Fa (fun b hb _=>.inr hb)).step PM (fun b hb hl=>by omega);have ho:ao w' 3 1 (.slice av ll.length PK) (ll.map I) ll.length fs':=(p2.mod Fa (fun b hb e=>by subst e;exact H2 hb)).mod PM (fun b hb e=>by subst e;exact fsD hb);have hX:=h7.waits (M':=M.tell) (l:=ll) (eJ _ w7 .wt).wx yO (PM.at cY (fun e=>Y2 e.symm)) ho (Dj h7.tw (fun b hb=>h7.wt.lt hb) p3) (by rw [rl]) (by rw [rl]) (by rw [rl]) (by rw [rl]) (by rw [rl]) (by rw [rl]) (by rw [rl])
    have NJ:aU w7 (bL nX w6 .no) m S M.tell ks w':=⟨_,eJ _ w7 .wt,⟨_,_,_,_,_,_,_,_,_,hX⟩,yO.az (fun b hb=>by
     rcases hb with hb | rfl
     ·rw [h7.tw b hb];simp [Tg.own]
     ·rw [h7.tm];simp [Tg.own])⟩
    refine aU.boxed ag (aU.boxed PC (aU.cat j1 (j2.step aD.dj (fun b hb hl=>?_)) (aU.boxed aX NJ)));subst hb;rw [cQ.tm];simp [Tg.own]
   have Pk:((ll.length:Int) == 0)=decide (ll.length=0):=by
    by_cases h0:ll.length=0
    ·simp [h0]
    ·simp [h0]
   refine σ ?_;simp only [go_sem,simprocAttr,cell_of H0,ptr,Value.cells,cell_of p1,bb,Pk];refine aY rfl (fun hz=>?_) (fun hz=>?_)
   ·simp only [aL,aM,aN,an,aQ] at hz;rw [if_pos hz] at rl;simp only [go_sem,simprocAttr,cell_of H0,ptr,Value.cells];refine bY (off:=15) rfl rfl p1 rfl (by simp [bb]) ?_;intro W1 PL kW _;refine σ ?_;exact MV (.inl rfl) (kW.at jK (fun e=>Y2 e)) (fun w' hm=>⟨_,rfl,_,fin W1 w' (by rw [rl];simpa [bb] using PL) kW hm⟩)
   ·simp only [aL,aM,aN,an,aQ] at hz;rw [if_neg hz] at rl;refine σ ?_;exact MV (.inl rfl) jK (fun w' hm=>⟨_,rfl,_,fin W w' (by rw [rl];exact p1) (Mod.refl _ _) hm⟩)
end
end
section
open Go Go.W
theorem H3 {w:World} {τ:Tag} {m:Nat} {S:SV} {M:Mc} {ks:List Nat} {vG vF vW vT:Value} {fg ff fw ft:Option Nat} {F:Nat→Prop} (h:ek w τ m S M vG vF vW vT fg ff fw ft F ks) (ho:M.st.Ok) {nd:Nd} {v:Value} (hm:nd.may=true) (hp:bJ M.st.ns.length nd.args=true) (hv:Ints w v nd.args) (hr:(M.st.ns.length:Int) < M.st.size) :
   aK Tryz.prog 116 [ptr m,I nd.kind,I nd.num,v] w fun r w'=>r=I M.st.ns.length∧∃ F',ek w' (mV τ w F') m S { M with st:=M.st.add nd} vG vF vW vT fg ff fw ft F' ks∧Mod F w w':=by
 have hc:=h.cells;obtain ⟨a,c,rfl,pQ,MD⟩:=hv;refine Vb.calls rfl ?_;unfold Gy ptr;simp only [go_sem,simprocAttr,cell_of hc,bb];refine MB (nd:=nd) (v:=.slice a nd.args.length c) rfl rfl h.st ho hm hp ⟨a,c,rfl,pQ,MD⟩ ?_ (fun e=>by omega);intro _ w1 F1 cL oR;refine σ ?_;exact ⟨F1,h.store (s:=M.st.add nd) oR cL rfl,oR.1⟩
theorem ek.zI {w:World} {τ:Tag} {m:Nat} {S:SV} {M:Mc} {ks:List Nat} {vG vF vW vT:Value} {fg ff fw ft:Option Nat} {F:Nat→Prop} (h:ek w τ m S M vG vF vW vT fg ff fw ft F ks):∀ b,F b→(τ b).own:=fun b hb=>by rw [h.tF b hb];simp [Tg.own]
theorem aU.dj {w w':World} {τ:Tag} {m:Nat} {S:SV} {M':Mc} {ks:List Nat} (h:aU w.drew τ m S M' ks w'):aU w τ m S M' ks w':=by
 obtain ⟨bI,h1,h2,h3⟩:=h;exact ⟨bI,h1,h2,Mod.dj h3⟩
theorem alT {t:Tg} {i:Nat} (h:t.fo i):t.own:=by rcases h with h | h | h<;>rw [h]<;>simp [Tg.own]
section
variable {w:World} {τ:Tag} {m:Nat} {S:SV} {M:Mc} {ks:List Nat} {k:Nat} {x:Ins} {n:Int}
theorem alU (hT:dJ w τ m S M ks k) (hM:bB n M) (he:M.ended=0) (iw:M.st.kd≠.ref) (dI:M.aE.length≤4294967295) (kr:M.wait.length≤4294967295) (hR:M.roots.length≤17592186044416) :
   aK Tryz.prog 138 [ptr m,ptr k] w fun _ w'=>∃ dt,aU w τ m S M.pP dt w':=by
 obtain ⟨vG,vF,vW,vT,fg,ff,fw,ft,F,hh⟩:=id hT.at';have hc:=hh.cells;have hl:=hh.len;have hp:=hT.pos;obtain ⟨aF,cF,rfl,_⟩:=hh.fr.val;obtain ⟨aT,cT,rfl,_⟩:=hh.tl.val;have D7:M.roots≠[]:=fun e=>by
  have:=Hd (M:=M) hp;rw [e] at this;cases this
 refine agF.calls rfl ?_;unfold Mr;simp only [go_sem,simprocAttr,cell_of hc,bb,ptr];refine aY rfl (fun hf=>?_) (fun hf=>?_)
 ·have hf:M.aE.length > 1:=by
   simp only [aL,aM,aN,an,aQ] at hf;omega
  refine σ ?_;refine δ (by rfl) (Vq hT.at' hp (by omega)) ?_;intro _ w1 hop;refine σ ?_;unfold Mc.pP;rw [if_pos hf];exact ⟨_,hop⟩
 have hf:¬ M.aE.length > 1:=by
  simp only [aL,aM,aN,an,aQ] at hf;omega
 unfold Mc.pP;rw [if_neg hf];simp only [go_sem,simprocAttr,cell_of hc,bb];refine iG (fun ρ w'=>w=w'∧ρ.get 0=some (ptr m)∧ρ.get 1=some (ptr k)∧ρ.get 15=some (.bool (decide (M.given=true∨M.told.length > 0)))) ?_ ?_
 ·cases hg:M.given<;>cases ht:decide (((M.told.length:Nat):Int) > 0)<;>simp only [go_sem,simprocAttr,cell_of hc,bb,hg,ht]<;>(simp only [aL,aM,aN,an,aQ] at ht;simp [hg,ht];try first | omega | exact List.eq_nil_of_length_eq_zero (by omega))
 rintro ρ _ ⟨rfl,r0,r1,qW⟩;simp only [go_sem,simprocAttr,r0,r1,qW];refine aY rfl (fun hg=>?_) (fun hg=>?_)
 ·simp only [aL,aM,aN,an,aQ] at hg;rw [if_pos hg];refine σ ?_;refine δ (by rfl) (sB hT.at' 5) ?_;intro _ w1 hop;refine σ ?_;exact ⟨_,hop⟩
 simp only [aL,aM,aN,an,aQ] at hg;rw [if_neg hg];refine σ ?_;refine δ (by rfl) (MK hT.at' hM.g.st iw (n:=2) ⟨by omega,by omega⟩ hM.base hM.bp hR D7) ?_;rintro _ w1 ⟨rfl,hop⟩;refine σ ?_;refine aY rfl (fun hr=>?_) (fun hr=>?_)
 ·rw [if_pos hr];obtain ⟨k1,k2⟩:=hM.room (by omega) hr;obtain ⟨e1,e2,e3,e5,e6,_,g,e4⟩:=zr M 2 hr;have kI:0 < (M.room 2).2.wait.length:=by rw [e2];exact hM.pW he
  generalize (M.room 2).2=M1 at *;obtain ⟨sZ,j1,j2,tW⟩:=hop.aa e1 hp hT.hk;obtain ⟨PN,PO,H4,PQ,Y3,Y4,Y5,Y6,F1,h1⟩:=id tW.at';have cY:=h1.cells;refine σ ?_;refine bY (off:=12) rfl rfl cY rfl (by simp [bb]) ?_;intro w2 aC ae _;obtain ⟨M2,fV⟩:∃ M2:Mc,M2 = { M1 with given:=true}:=⟨_,rfl⟩;have u1:M2.wait=M1.wait:=by rw [fV]
  have u2:M2.st=M1.st:=by rw [fV]
  have u3:M2.aE=M1.aE:=by rw [fV]
  have u4:M2.last=M1.last:=by rw [fV];rfl
  have h2:=h1.A7 (M':=M2) ae (by rw [fV];simpa [bb] using aC) (by rw [fV]) u3 u1 (by rw [fV]) u2 (by rw [fV]) (by rw [fV]);have cB:=h2.cells;obtain ⟨j,hj⟩:∃ j:Nat,j+1=M2.wait.length:=⟨M2.wait.length - 1,by rw [u1];omega⟩;have apy:M2.wait.length≤4294967295:=by rw [u1];omega
  obtain ⟨aW,cW,yg,_⟩:=h2.wt.val;have q1:IntKind.i64.wrap ((M2.wait.length:Int) - 1)=j:=by rw [cy (by omega) (by omega)];omega
  have eK:(M2.st.ns.length:Int)+2≤M2.st.size:=by rw [u2];exact k2
  have sf:M2.st.Ok:=by rw [u2];exact k1.g.st
  simp only [go_sem,simprocAttr,cell_of cB,bb,yg,q1];refine δ (by rfl) (H3 (nd:=⟨8,0,[]⟩) h2 sf rfl rfl (vM _) (by omega)) ?_;rintro _ w3 ⟨rfl,F3,h3,ab⟩;have ey:=h3.cells;obtain ⟨bW,hbW,BE,PR⟩:=kQ (yg ▸ h3.wt) (i:=j) (by show j < M2.wait.length;omega);have PR:w3.cell? ⟨bW,j,none⟩=some (I M2.last):=by
   rw [PR];show (M2.wait.map I)[j]? = _;unfold Mc.last;rw [List.getElem?_map,List.getElem?_eq_getElem (by omega),List.getD_eq_getElem?_getD,show M2.wait.length - 1=j by omega,List.getElem?_eq_getElem (by omega)];rfl
  subst hbW;have b1:(0:Int)≤j∧(j:Int) < M2.wait.length:=by omega
  have Y7:w3.heap[m]? = some (.cells (bb S { M2 with st:=M2.st.add ⟨8,0,[]⟩} PN PO H4 PQ).toArray 113 (0,0)):=ey;simp only [go_sem,simprocAttr,an,bq,cell_of Y7,bb,yg,b1,dB,PR];obtain ⟨M3,mq⟩:∃ M3:Mc,M3 = { M2 with st:=M2.st.add ⟨8,0,[]⟩}:=⟨_,rfl⟩;rw [← mq] at h3;have s3:M3.st=M2.st.add ⟨8,0,[]⟩:=by rw [mq]
  have s3l:M3.st.ns.length=M2.st.ns.length+1:=by rw [s3,nf]
  have s3z:M3.st.size=M2.st.size:=by rw [s3];rfl
  have s3w:M3.wait=M2.wait:=by rw [mq]
  have g3:dv M1.aZ M3.st:=by rw [s3,u2];exact k1.g.zq (nd:=⟨8,0,[]⟩) rfl (by decide) (fun a ha=>by cases ha) (by omega)
  have Y8:M2.st.In M2.last:=by rw [u2,u4];exact k1.mZ _ (Hb kI)
  have h3d:=h3.mod (Mod.refl (fun _=>False) w3).drew (dV _ _).wx (fun _ _ h=>h.elim);refine cd (by rfl) (by rfl) ?_;intro w4 aH ai _;have l3:m < w3.drew.heap.size:=lt_of_heap Y7;have km4:=ai.old m l3 (fun h=>h);refine σ ?_;refine ⟨km4,?_⟩;have h4:=h3d.mod ai (eJ _ w3.drew .no).wx (fun _ _ h=>h.elim);refine δ (by rfl) (H3 (nd:=⟨3,0,[M2.last,M2.st.ns.length]⟩) h4 g3.st rfl (nY (fun a ha=>?_)) (Dw (xs:=[M2.last,(M2.st.ns.length:Int)]) aH (by simp)) (by omega)) ?_
  ·simp only [List.mem_cons,List.not_mem_nil,or_false] at ha;rcases ha with rfl | rfl
   ·have:=Y8.2;exact ⟨Y8.1,by omega⟩
   ·omega
  rintro _ w5 ⟨rfl,F5,h5,aB⟩;have km5:=aB.old m (by have:=ai.size;omega) (fun e=>by have:=h4.tF m e;rw [h4.tm] at this;cases this);refine σ ?_;refine ⟨km5,?_⟩;obtain ⟨M4,q0⟩:∃ M4:Mc,M4 = { M3 with st:=M3.st.add ⟨3,0,[M2.last,M2.st.ns.length]⟩}:=⟨_,rfl⟩;rw [← q0] at h5;have s4w:M4.wait=M2.wait:=by rw [q0];exact s3w
  have BL:=h5.wt;rw [s4w,yg] at BL;obtain ⟨b',c',cs,e',PS,cj,je,_,mP⟩:=Gk BL (i:=j) (by omega);cases e';refine bY (off:=j) rfl rfl cj rfl je ?_;intro w6 cN aD _;have hW6:=mP w6 _ cN;have hwm:bW≠m:=fun e=>by have:=h5.tw _ PS;rw [e,h5.tm] at this;cases this
  have h6:=h5.waits (M':={ M4 with wait:=M2.wait.set j (M3.st.ns.length:Int)}) (l:=M2.wait.set j (M3.st.ns.length:Int)) (v:=H4) (dV _ w5).wx (aD.az (fun b hb=>by subst hb;exact .inl PS)) (by rw [yg] at h5 ⊢;exact aD.at h5.cells (fun e=>hwm e.symm))
   (by rw [yg,List.length_set];exact hW6) h5.tw rfl rfl rfl rfl rfl rfl rfl
  obtain ⟨M6,xU⟩:∃ M6:Mc,M6 = { M4 with wait:=M2.wait.set j (M3.st.ns.length:Int)}:=⟨_,rfl⟩;rw [← xU] at h6;have mX:=h6.cells;have Gm:M6.wait=M2.wait.set j (M3.st.ns.length:Int):=by rw [xU]
  have iu:M6.aE=M1.aE:=by rw [xU,q0,mq,fV]
  have O8:M6.aa=M1.aa:=by unfold Mc.aa;rw [iu]
  have Y9:=h6.wt;rw [yg,Gm,List.length_set] at Y9;obtain ⟨bW6,e6,_,PT⟩:=kQ Y9 (i:=j) (by omega);cases e6;have PT:w6.cell? ⟨bW,j,none⟩=some (I M3.st.ns.length):=by
   rw [PT,List.getElem?_map,List.getElem?_set_self (by omega)];rfl
  obtain ⟨vs6,vp6,fs6,xp,zx⟩:nT w6 _ (M1.aE.length - 1) k M1.aa:=h6.jJ _ _ _ tW.hk (by rw [iu];exact Dv tW.pos);have D8:=zx.cells;simp only [go_sem,simprocAttr,an,bq,cell_of mX,bb,yg,b1,dB,PT,cell_of D8,cC];refine bY (off:=5) rfl rfl D8 rfl (by simp [cC]) ?_;intro w7 cm aX _;refine σ ?_;refine bY (off:=4) rfl rfl cm rfl (by simp [cC]) ?_;intro w8 eB ch _;refine σ ?_;obtain ⟨τ8,r1,r2,r3⟩:=Vn (f':={ M1.aa with bC:=(M3.st.ns.length:Int),spine:=[]}) zx (ao.nil w6 3 1) rfl (by simpa [cC] using eB) (Mod.refl _ w6) (aX.trans ch) (fun b hb=>by cases hb);have wm:=h6.frame tW.hk r3 r1.wx r2;have fX:M1.A6 = { M6 with aE:=M6.aE.set (M1.aE.length - 1) { M1.aa with bC:=(M3.st.ns.length:Int),spine:=[]}}:=by
   unfold Mc.A6;rw [xU,q0,s3,u4,u2,show M1.wait.length - 1=j by rw [← u1];omega,mq,fV];simp [Mc.bU,nf]
  rw [fX];have k6:aU w6 _ m S _ ks w8:=⟨τ8,r1,⟨_,_,_,_,_,_,_,_,_,wm⟩,r3.az (fun b hb=>alT hb)⟩;have k5:=aU.cat (dV _ w5) (aD.az (fun b hb=>by subst hb;rw [h5.tw _ PS];simp [Tg.own])) k6;have k4:=aU.cat (nU _ w4 F5) (aB.az h4.zI) k5;have k3:=(aU.boxed ai k4).dj;have k2':=aU.cat (nU _ w2 F3) (ab.az h2.zI) k3;have k1':=aU.cat (dV _ w1) (ae.az (fun b hb=>by subst hb;rw [h1.tm];simp [Tg.own])) k2';exact ⟨_,aU.cat j1 j2 k1'⟩
 ·rw [if_neg (by simpa using hr)];refine σ ?_;exact ⟨_,hop⟩
end
end
section
open Go Go.W
section
variable {w:World} {τ:Tag} {m:Nat} {S:SV} {M:Mc} {ks:List Nat} {k:Nat} {x:Ins} {n:Int}
theorem alV (hT:dJ w τ m S M ks k) (hM:bB n M) (iw:M.st.kd≠.ref) (h8:(M.st.nd M.aa.bC).kind=8) (hR:M.roots.length≤17592186044416) :
   aK Tryz.prog 140 [ptr m,ptr k,I (M.st.nd M.aa.bC).num] w fun _ w'=>aU w τ m S (M.read M.aa (M.st.nd M.aa.bC).num) ks w':=by
 have hp:=hT.pos;have hG:=hM.pX hp;have bQ:=hM.g.nd hG.sd;have jk:=((uj bQ.1).2.2.2.2.1 h8).2;obtain ⟨vG,vF,vW,vT,fg,ff,fw,ft,F,hh⟩:=id hT.at';obtain ⟨vs,vp,fs,fp,hF⟩:=hT.fr;have hc:=hh.cells;have um:=hF.cells;have alW:=hh.jo;obtain ⟨aI,cI,Pf,Pq,_⟩:=id alW;have D7:M.roots≠[]:=fun e=>by
  have:=Hd (M:=M) hp;rw [e] at this;cases this
 obtain ⟨q,hq⟩:∃ q:Nat,(M.st.nd M.aa.bC).num=q:=⟨(M.st.nd M.aa.bC).num.toNat,by omega⟩;rw [hq];refine agH.calls rfl ?_;unfold Mu;simp only [go_sem,simprocAttr,cell_of hc,bb,Pf,ptr];refine aY rfl (fun hk=>?_) (fun hk=>?_)
 ·simp only [aL,aM,aN,an,aQ] at hk;have hk:(q:Int)≥M.input.length:=hk;unfold Mc.read;rw [if_pos hk];simp only [go_sem,simprocAttr,cell_of um,cC];refine δ (by rfl) (oS hT.at' hM.g.st hM.g.ends hG.sd) ?_;rintro _ w1 ⟨v1,rfl,lL,ag⟩;refine σ ?_;refine dk ?_;intro w2 aC ae _;refine cX (cs:=[I 0,I 0,.slice none 0 0]) rfl rfl aC rfl rfl (oV lL _ _) ?_;intro w3 aJ ab _;have s1:=ag.size;have dy:Mod (fun _=>False) w w3:=(ag.trans ae).step ab (fun x U hl=>by subst U;omega);have h3:=hh.mod dy (eJ τ w .no).wx (fun _ _ h=>h.elim);have ey:=h3.cells;obtain ⟨ti,ui,ud⟩:=h3.st.iface;simp only [go_sem,simprocAttr,cell_of ey,bb];refine GB (p:=(M.st.ov M.aa.bC:Int)) (nd:=⟨2,3,[]⟩) (by rfl) (by rfl) h3.st hM.g.st ⟨by omega,by have:=hM.g.ov hG.sd;omega⟩ rfl rfl (vM _) ?_;intro w4 F4 Y' EJ;refine σ ?_;rw [Int.toNat_natCast] at Y';have h4:=h3.store (s:=M.st.set (M.st.ov M.aa.bC) ⟨2,3,[]⟩) EJ Y' rfl;exact aU.boxed dy ⟨_,nU _ w3 F4,⟨_,_,_,_,_,_,_,_,_,h4⟩,EJ.1.az h3.zI⟩
 simp only [aL,aM,aN,an,aQ] at hk;have hk:¬ (q:Int)≥M.input.length:=hk;unfold Mc.read;rw [if_neg hk];refine σ ?_;refine δ (by rfl) (MK hT.at' hM.g.st iw (n:=2) ⟨by omega,by omega⟩ hM.base hM.bp hR D7) ?_;rintro _ w1 ⟨rfl,hop⟩;refine σ ?_;refine aY rfl (fun hr=>?_) (fun hr=>?_)
 ·rw [if_pos hr];obtain ⟨k1,k2⟩:=hM.room (by omega) hr;obtain ⟨e1,e2,e3,e5,e6,_,g,e4⟩:=zr M 2 hr;have h8':((M.room 2).2.st.nd (M.room 2).2.aa.bC).kind=8:=by rw [hM.Wr hp (by omega) hr];exact h8
  generalize (M.room 2).2=M1 at *;obtain ⟨sZ,j1,j2,tW⟩:=hop.aa e1 hp hT.hk;obtain ⟨Za,vp1,fs1,fp1,uy⟩:=tW.fr;have alX:=uy.cells;have Zb:=k1.pX tW.pos;have PU:q < M1.input.length:=by rw [e6];omega
  have alY:isNum (M1.input.getD q 0):=k1.jo _ (vY PU);have o1:(⟨1,M1.input.getD q 0,[]⟩:Nd).may=true:=G6 alY;have o2:(⟨8,(q:Int)+1,[]⟩:Nd).may=true:=by simp [Nd.may,gU];omega
  have g1:=k1.g.zq (nd:=⟨1,M1.input.getD q 0,[]⟩) o1 (by simp) (fun a ha=>by cases ha) (by omega);have g2:=g1.zq (nd:=⟨8,(q:Int)+1,[]⟩) o2 (by simp) (fun a ha=>by cases ha) (by rw [nf];show ((M1.st.ns.length+1:Nat):Int) < M1.st.size;omega);simp only [go_sem,simprocAttr,cell_of alX,cC];refine δ (by rfl) (oS tW.at' k1.g.st k1.g.ends Zb.sd) ?_;rintro _ w2 ⟨v1,rfl,lL,ae⟩;refine σ ?_;refine dk ?_;intro w3 aJ ab _;refine cX (cs:=[I 0,I 0,.slice none 0 0]) rfl rfl aJ rfl rfl (oV lL _ _) ?_;intro w4 aH ai _;have s1:=ae.size;have iY:Mod (fun _=>False) w1 w4:=(ae.trans ab).step ai (fun x U hl=>by subst U;omega);have hT4:=tW.later iY;obtain ⟨vG4,vF4,vW4,vT4,fg4,ff4,fw4,YW,F4,h4⟩:=id hT4.at';have pN:=h4.cells;obtain ⟨YD,YE,e',apz,H5⟩:=id h4.jo;obtain ⟨ad,rfl,H5⟩:=H5 q PU;have H5:w4.cell? (ad.add q)=some (I (M1.input.getD q 0)):=by rw [show M1.input.getD q 0=M1.input[q] by rw [List.getD_eq_getElem?_getD,List.getElem?_eq_getElem PU];rfl];assumption
  have b1:(0:Int)≤q∧(q:Int) < M1.input.length:=by omega
  simp only [go_sem,simprocAttr,an,bq,cell_of pN,bb,e',b1,H5];refine δ (by rfl) (H3 (nd:=⟨1,M1.input.getD q 0,[]⟩) h4 k1.g.st o1 rfl (vM _) (by omega)) ?_;rintro _ w5 ⟨rfl,F5,h5,aB⟩;have eq1:IntKind.i64.wrap ((q:Int)+1)=(q:Int)+1:=cy (by omega) (by omega);simp only [go_sem,simprocAttr,eq1];refine δ (by rfl) (H3 (nd:=⟨8,(q:Int)+1,[]⟩) h5 g1.st o2 rfl (vM _) (by show ((M1.st.add _).ns.length:Int) < M1.st.size;rw [nf];omega)) ?_;rintro _ w6 ⟨rfl,F6,h6,aD⟩;have mX:=h6.cells;simp only [go_sem,simprocAttr,cell_of mX,bb];refine cd (by rfl) (by rfl) ?_;intro w7 cm aX _;have h7:=h6.mod aX (eJ _ w6 .no).wx (fun _ _ h=>h.elim);have el:(((M1.st.add ⟨1,M1.input.getD q 0,[]⟩).ns.length:Nat):Int)=(M1.st.ns.length:Int)+1:=by rw [nf];rfl
  rw [el] at cm ⊢;refine ⟨_,rfl,?_⟩;have ki:=k1.g.ov Zb.sd;refine GB (p:=(M1.st.ov M1.aa.bC:Int)) (nd:=⟨2,4,[(M1.st.ns.length:Int),(M1.st.ns.length:Int)+1]⟩) (v:=.slice (some ⟨w6.heap.size,0,none⟩) 2 2) (by rfl) (by rfl) h7.st g2.st ⟨by omega,?_⟩ rfl (nY (fun a ha=>?_)) (Dw (xs:=[(M1.st.ns.length:Int),(M1.st.ns.length:Int)+1]) cm (by simp)) ?_
  ·show (M1.st.ov M1.aa.bC:Int) < (((M1.st.add ⟨1,M1.input.getD q 0,[]⟩).add ⟨8,(q:Int)+1,[]⟩).ns.length:Int);rw [nf,nf];omega
  ·show 0≤a∧a < (((M1.st.add ⟨1,M1.input.getD q 0,[]⟩).add ⟨8,(q:Int)+1,[]⟩).ns.length:Int);rw [nf,nf];simp only [List.mem_cons,List.not_mem_nil,or_false] at ha;rcases ha with rfl | rfl<;>omega
  intro w8 F8 M7 Zc;refine σ ?_;rw [Int.toNat_natCast] at M7;have h8f:=h7.store (s:=M1.st.add ⟨1,M1.input.getD q 0,[]⟩ |>.add ⟨8,(q:Int)+1,[]⟩ |>.set (M1.st.ov M1.aa.bC) ⟨2,4,[(M1.st.ns.length:Int),(M1.st.ns.length:Int)+1]⟩) Zc M7 rfl;have e2:M1.Di (q:Int) = { M1 with st:=M1.st.add ⟨1,M1.input.getD q 0,[]⟩ |>.add ⟨8,(q:Int)+1,[]⟩ |>.set (M1.st.ov M1.aa.bC) ⟨2,4,[(M1.st.ns.length:Int),(M1.st.ns.length:Int)+1]⟩}:=rfl;rw [e2];have t7:aU w7 _ m S _ ks w8:=⟨_,nU _ w7 F8,⟨_,_,_,_,_,_,_,_,_,h8f⟩,Zc.1.az h7.zI⟩;have t6:=aU.boxed aX t7;have t5:=aU.cat (nU _ w5 F6) (aD.az h5.zI) t6;have t4:=aU.cat (nU _ w4 F5) (aB.az h4.zI) t5;exact aU.cat j1 j2 (aU.boxed iY t4)
 ·rw [if_neg (by simpa using hr)];refine σ ?_;exact hop
end
end
section
open Go Go.W
section
variable {w:World} {τ:Tag} {m:Nat} {S:SV} {M:Mc} {ks:List Nat} {k:Nat} {x:Ins} {n:Int}
theorem alZ (hT:dJ w τ m S M ks k) (hM:bB n M) (he:M.ended=0) (iw:M.st.kd≠.ref) (dI:M.aE.length≤4294967295) (kr:M.wait.length≤4294967295) (kJ:M.aa.spine.length≤4294967294) (hR:M.roots.length≤17592186044416) :
   aK Tryz.prog 81 [ptr m,ptr k] w fun _ w'=>∃ dt,aU w τ m S (M.unwind M.aa) dt w':=by
 have hp:=hT.pos;have hG:=hM.pX hp;have bQ:=hM.g.nd hG.sd;have mQ:=uj bQ.1;obtain ⟨vs,vp,fs,fp,hF⟩:=hT.fr;have um:=hF.cells;refine af7.calls rfl ?_;unfold LP;simp only [go_sem,simprocAttr,cell_of um,cC,ptr];refine δ (by rfl) (oS hT.at' hM.g.st hM.g.ends hG.sd) ?_;rintro _ w1 ⟨v1,rfl,lL,ag⟩;refine σ ?_;refine dk ?_;intro w2 aC ae _;refine cX (cs:=[I 0,I 0,.slice none 0 0]) rfl rfl aC rfl rfl (oV lL _ _) ?_;intro w3 aJ ab _;have s1:=ag.size;have dZ:Mod (fun _=>False) w1 w3:=ae.step ab (fun x U hl=>by subst U;omega);have dy:Mod (fun _=>False) w w3:=ag.trans dZ;have wu:=hT.later dy;obtain ⟨vs3,vp3,fs3,vK,jq⟩:=wu.fr;have H6:=jq.cells;obtain ⟨vG,vF,vW,vT,fg,ff,fw,ft,F,hh⟩:=id wu.at';have hc:=hh.cells;have lift:∀ {M':Mc} {f:Nat} {vs:List Value},aK Tryz.prog f vs w3 (fun _ w'=>aU w3 (bL τ w .no) m S M' ks w')→aK Tryz.prog f vs w3 (fun _ w'=>∃ dt,aU w τ m S M' dt w'):=fun hh=>hh.mono (fun _ _ h=>⟨_,aU.boxed dy h⟩)
 have al1:∀ {M':Mc} {f:Nat} {vs:List Value},aK Tryz.prog f vs w3 (fun _ w'=>∃ dt,aU w3 (bL τ w .no) m S M' dt w')→aK Tryz.prog f vs w3 (fun _ w'=>∃ dt,aU w τ m S M' dt w'):=fun hh=>hh.mono (fun _ _ ⟨a,h⟩=>⟨a,aU.boxed dy h⟩)
 obtain ⟨G0,xM,xN⟩:=lL;obtain ⟨va,vc,rfl,_⟩:=xM.val;have js:=aJ;unfold Mc.unwind;simp only [go_sem,simprocAttr,cell_of aJ];refine aY rfl (fun hk=>?_) (fun hk=>?_)
 ·simp only [aL,aM,aN,an,aQ] at hk;rw [if_pos hk];obtain ⟨aP,cP,rfl,Px,_⟩:=jq.spine.val;simp only [go_sem,simprocAttr,cell_of H6,cC];refine cd (by rfl) (by rfl) ?_;intro w4 aH ai _;refine σ ?_;refine eH (m:=1) (news:=[I (M.st.ov M.aa.bC)]) rfl (jq.spine.mod ai (fun _ _ h=>h)) rfl (fun h=>by cases h) (j9 (xs:=[I (M.st.ov M.aa.bC)]) aH) (pB [(M.st.ov M.aa.bC:Int)]) rfl (by omega) (by omega) ?_;intro v5 w5 iV iW aB wT;obtain ⟨a1,a2,a3⟩:=Dl jq;have hP:=aB.at (ai.at H6 (fun h=>h)) (fun e=>a2 e);obtain ⟨av5,cv5,rfl,_⟩:=iW.val;refine σ ?_;refine bY (off:=4) rfl rfl hP rfl (by simp [cC]) ?_;intro w6 cN aD _;have l3:k < w3.heap.size:=jq.lt.1;have Zd:bL τ w .no w1.heap.size = .no:=oP (by omega);have nk:w1.heap.size≠k:=fun e=>by have:=jq.tk;rw [← e,Zd] at this;cases this
  have nfp:vK≠some w1.heap.size:=fun e=>by have:=jq.tp _ e;rw [Zd] at this;cases this
  have BG:=aD.at (aB.at (ai.at aJ (fun h=>h)) (fun e=>nfp e)) (fun e=>nk e);have Ee:=mQ.2.2.1 hk;have G2:=xM.mod dZ (fun _ _ h=>h)
  have BM:ao w6 3 1 _ _ _ _:=((G2.mod ai (fun _ _ h=>h)).mod aB (fun b hb e=>by
   have:=jq.tp _ e;rw [oP (xN b hb)] at this;cases this)).mod aD (fun b hb e=>by
   have:=jq.tk;rw [← e,oP (xN b hb)] at this;cases this)
  rw [Ee] at BM;obtain ⟨bA,rfl,_,PV⟩:=kQ BM (i:=0) (by omega);have PV:w6.cell? ⟨bA,0,none⟩=some (I ((M.st.nd M.aa.bC).args.getD 0 0)):=by
   rw [PV,List.getElem?_map,List.getElem?_eq_getElem (by omega),List.getD_eq_getElem?_getD,List.getElem?_eq_getElem (by omega)];rfl
  have b1:(0:Int)≤0∧(0:Int) < ((M.st.nd M.aa.bC).args.length:Int):=by omega
  simp only [go_sem,simprocAttr,an,bq,cell_of BG,b1,dB,PV];refine bY (off:=5) rfl rfl cN rfl (by simp [cC]) ?_;intro w7 cm aX _;refine σ ?_;refine ⟨_,aU.boxed dy (wu.fo (Vn (f':={ M.aa with spine:=M.aa.spine++[(M.st.ov M.aa.bC:Int)],bC:=(M.st.nd M.aa.bC).args.getD 0 0}) jq (w2:=w5) (by simpa using iW) rfl (by simpa [cC] using cm) ((ai.az (fun _ h=>h.elim)).step aB (fun b hb _=>hb)) (aD.trans aX) (fun b hb=>(wT b hb).imp id (fun hh=>by have:=ai.size;omega))))⟩
 simp only [aL,aM,aN,an,aQ] at hk;rw [if_neg hk];refine σ ?_;refine aY rfl (fun eT=>?_) (fun eT=>?_)
 ·simp only [aL,aM,aN,an,aQ] at eT;rw [if_pos eT];have mW:=bQ.2.2.1 eT;have HQ:=(mQ.2.2.2.1 eT).2;obtain ⟨g,hg⟩:∃ g:Nat,(M.st.nd M.aa.bC).num=g:=⟨(M.st.nd M.aa.bC).num.toNat,by omega⟩;obtain ⟨ad,c,cv,D5,B1,_,yd,_,_⟩:=He hh.aZ (i:=g) (by omega);have yd:w3.cell? ⟨(ad.add (g*3)).block,(ad.add (g*3)).off+1,none⟩=some (I (M.aZ.gl g).arity):=yd;have b1:(0:Int)≤g∧(g:Int) < M.aZ.globals.length:=by omega
  obtain ⟨aP,cP,rfl,Px,_⟩:=jq.spine.val;have H7:=aJ;rw [hg] at H7;simp only [go_sem,simprocAttr,an,bq,cell_of H6,cC,cell_of hc,bb,cell_of H7,D5,b1,yd];have apA:w3.drew.heap[w1.heap.size]? = _:=H7;have Ze:dJ w3.drew (bL τ w .no) m S M ks k:=wu.mod (Mod.refl (fun _=>False) w3).drew (dV _ _).wx (fun _ _ h=>h.elim);refine aY rfl (fun fU=>?_) (fun fU=>?_)
  ·simp only [aL,aM,aN,an,aQ] at fU;rw [hg,if_pos fU];simp only [go_sem,simprocAttr,cell_of H7];refine aq (by rfl) ?_;have:=alC Ze hM he eT iw (by omega) (by rw [hg];exact fU);rw [hg] at this;refine this.mono ?_;intro _ w4 hop;refine σ ?_;exact ⟨_,aU.boxed dy hop.dj⟩
  ·simp only [aL,aM,aN,an,aQ] at fU;rw [hg,if_neg fU];refine σ ?_;refine δ (by rfl) (alU Ze hM he iw dI kr hR) ?_;rintro _ w4 ⟨dt,hop⟩;refine σ ?_;exact ⟨_,aU.boxed dy hop.dj⟩
 simp only [aL,aM,aN,an,aQ] at eT;rw [if_neg eT];refine σ ?_;refine An (fun ρ w'=>w3=w'∧ρ.get 0=some (ptr m)∧ρ.get 1=some (ptr k)∧ρ.get 5=some (ptr w1.heap.size)∧ρ.get 16=some (I (M.st.nd M.aa.bC).kind)∧ρ.get 65=some (.bool (decide ((M.st.nd M.aa.bC).kind=1∨(M.st.nd M.aa.bC).kind=2)))) ?_ ?_
 ·refine aY rfl (fun h1=>?_) (fun h1=>?_)
  ·simp only [aL,aM,aN,an,aQ] at h1;refine σ ?_;simp [h1]
  ·simp only [aL,aM,aN,an,aQ] at h1;refine σ ?_;by_cases py:(M.st.nd M.aa.bC).kind=2<;>simp [h1,py]
 rintro ρ _ ⟨rfl,r0,r1,r5,PX,r65⟩;refine aY (show O.ev ρ (.t 65)=_ from r65) (fun tS=>?_) (fun tS=>?_)
 ·simp only [aL,aM,aN,an,aQ] at tS;rw [if_pos tS];obtain ⟨aP,cP,rfl,Px,_⟩:=jq.spine.val;simp only [go_sem,simprocAttr,r0,r1,r5,PX,cell_of H6,cC];refine aY rfl (fun hz=>?_) (fun hz=>?_)
  ·simp only [aL,aM,aN,an,aQ] at hz;rw [if_pos (by omega)];refine σ ?_;refine δ (by rfl) (lift (sB wu.at' 5)) ?_;intro _ w4 hop;refine σ ?_;exact hop
  ·simp only [aL,aM,aN,an,aQ] at hz;rw [if_neg (by omega)];refine σ ?_;refine δ (by rfl) (al1 ((Vq wu.at' hp (by omega)).mono (fun _ _ h=>⟨_,h⟩))) ?_;intro _ w4 hop;refine σ ?_;exact hop
 simp only [aL,aM,aN,an,aQ] at tS;rw [if_neg tS];simp only [go_sem,simprocAttr,r0,r1,r5,PX];refine aY rfl (fun h8=>?_) (fun h8=>?_)
 ·simp only [aL,aM,aN,an,aQ] at h8;rw [if_pos h8];simp only [go_sem,simprocAttr,r0,r1,r5,PX,cell_of aJ];refine δ (by rfl) (lift (alV wu hM iw h8 hR)) ?_;intro _ w4 hop;refine σ ?_;exact hop
 simp only [aL,aM,aN,an,aQ] at h8;rw [if_neg h8];refine σ ?_;refine aY rfl (fun h6=>?_) (fun h6=>?_)
 ·simp only [aL,aM,aN,an,aQ] at h6;rw [if_pos h6];refine σ ?_;refine δ (by rfl) (lift (sB wu.at' 5)) ?_;intro _ w4 hop;refine σ ?_;exact hop
 ·simp only [aL,aM,aN,an,aQ] at h6;rw [if_neg h6];refine σ ?_;refine δ (by rfl) (lift (sB wu.at' 4)) ?_;intro _ w4 hop;refine σ ?_;exact hop
end
end
section
open Go Go.W
def BN (M:Mc):Int×Int:=if M.ended≠0 then (0,221) else (M.step.ended,0)
theorem al2 (s:St) (hr:s.kd≠.ref) (roots:List Int):(mU s roots).1=roots.map (ub s roots):=by
 obtain ⟨kd,sz,ns⟩:=s;cases kd with
 | ref=>exact absurd rfl hr
 | hp t=>rfl
 | gn y o t=>rfl
section
variable {w:World} {τ:Tag} {m:Nat} {S:SV} {M:Mc} {ks:List Nat} {k:Nat} {x:Ins} {n:Int}
theorem al3 (h:iL w τ m S M ks) (hM:bB n M) (hn:n < 1000000) (iw:M.st.kd≠.ref) (hs:0≤M.steps∧M.steps≤1000000) (hg:0 < M.globals.length) :
   aK Tryz.prog 45 [ptr m] w fun r w'=>r = .tuple #[I (BN M).1,I (BN M).2]∧∃ dt,aU w τ m S M.step dt w':=by
 have hR:=hM.WE (by omega);have ed:=hM.ln;have hlf:=hM.lf;have HG:=hM.lw;have ah:=hM.lt;obtain ⟨vG,vF,vW,vT,fg,ff,fw,ft,F,hh⟩:=id h;have hc:=hh.cells;have pF:=hh.len;obtain ⟨aF,cF,rfl,_⟩:=hh.fr.val;refine afU.calls rfl ?_;unfold Ly;simp only [go_sem,simprocAttr,cell_of hc,bb,ptr];refine aY rfl (fun he=>?_) (fun he=>?_)
 ·simp only [aL,aM,aN,an,aQ] at he;have e1:BN M=(0,221):=by unfold BN;rw [if_pos he]
  have e2:M.step=M:=by unfold Mc.step;rw [if_pos he]
  rw [e1,e2];refine σ ?_;exact ⟨ks,τ,dV _ _,h,Mod.refl _ _⟩
 simp only [aL,aM,aN,an,aQ] at he;have he:M.ended=0:=he;have e1:BN M=(M.step.ended,0):=by unfold BN;rw [if_neg (by simp [he])]
 rw [e1];simp only [go_sem,simprocAttr,cell_of hc,bb];refine Dy (fun ρ w'=>ρ.get 0=some (ptr m)∧∃ dt,aU w τ m S M.work dt w') ?_ ?_
 ·refine aY rfl (fun hf=>?_) (fun hf=>?_)
  ·simp only [aL,aM,aN,an,aQ] at hf;have hf:M.aE.length=0:=by omega
   refine σ ?_;refine δ (by rfl) (alN h hM he iw (by omega) (by omega) (by omega)) ?_;rintro _ w1 ⟨dt,hop⟩;refine σ ?_;have e:M.work=M.tell:=by unfold Mc.work;rw [if_pos hf]
   rw [e];exact ⟨dt,hop⟩
  simp only [aL,aM,aN,an,aQ] at hf;have hf:0 < M.aE.length:=by omega
  obtain ⟨k,hk⟩:∃ k,ks[M.aE.length - 1]? = some k:=⟨_,List.getElem?_eq_getElem (by omega)⟩;have hT:dJ w τ m S M ks k:=⟨h,hf,hk⟩;obtain ⟨vs,vp,fs,fp,hF⟩:=hT.fr;have um:=hF.cells;obtain ⟨bF,rfl,zk,BO⟩:=kQ hh.fr (i:=M.aE.length - 1) (by omega);have BO:w.cell? ⟨bF,M.aE.length - 1,none⟩=some (ptr k):=by rw [BO,List.getElem?_map,hk];rfl
  obtain ⟨j,hj⟩:∃ j:Nat,j+1=ks.length:=⟨ks.length - 1,by omega⟩;rw [show M.aE.length - 1=j by omega] at BO;have q1:IntKind.i64.wrap ((ks.length:Int) - 1)=j:=by rw [cy (by omega) (by omega)];omega
  have b1:(0:Int)≤j∧(j:Int) < ks.length:=by omega
  have zF:w.drew.heap[m]? = _:=hc;have Bn:dJ w.drew τ m S M ks k:=hT.mod (Mod.refl (fun _=>False) w).drew (dV _ _).wx (fun _ _ h=>h.elim);have Zf:dJ w.drew.drew τ m S M ks k:=Bn.mod (Mod.refl (fun _=>False) w.drew).drew (dV _ _).wx (fun _ _ h=>h.elim);simp only [go_sem,simprocAttr,an,bq,cell_of hc,bb,q1,b1,dB,BO,ptr,cell_of um,cC];refine aY rfl (fun hr=>?_) (fun hr=>?_)
  ·simp only [go_sem,simprocAttr,an,bq,cell_of hc,bb,q1,b1,dB,BO,ptr];refine δ (by rfl) (aiH Zf ⟨hM,hf,he,hr,rfl⟩ iw (by omega) hR) ?_;rintro _ w1 ⟨dt,hop⟩;refine σ ?_;have e:M.work=M.run:=by unfold Mc.work;rw [if_neg (by omega),if_pos hr]
   rw [e];exact ⟨dt,hop.dj.dj⟩
  ·simp only [go_sem,simprocAttr,an,bq,cell_of hc,bb,q1,b1,dB,BO,ptr];refine aq (by rfl) ?_;have ii:=(hM.pX hf).xS;refine (alZ Zf hM he iw (by omega) (by omega) (by omega) hR).mono ?_;rintro _ w1 ⟨dt,hop⟩;refine σ ?_;have e:M.work=M.unwind M.aa:=by unfold Mc.work;rw [if_neg (by omega),if_neg (by rw [hr];simp)]
   rw [e];exact ⟨dt,hop.dj.dj⟩
 rintro ρ w1 ⟨r0,dt,hop⟩;obtain ⟨sZ,j1,h1,j2⟩:=hop;obtain ⟨PN,PO,H4,PQ,Y3,Y4,Y5,Y6,F1,EK⟩:=id h1;have cY:=EK.cells;have H8:=D4 M;simp only [go_sem,simprocAttr,r0,cell_of cY,bb,ptr];refine aY rfl (fun h5=>?_) (fun h5=>?_)
 ·simp only [aL,aM,aN,an,aQ] at h5;have e:M.step=M.work:=by unfold Mc.step;rw [if_neg (by simp [he]),if_pos h5]
  rw [e];simp only [go_sem,simprocAttr,cell_of cY,bb];exact ⟨dt,sZ,j1,h1,j2⟩
 simp only [aL,aM,aN,an,aQ] at h5;obtain ⟨kW,fV,bN⟩:bB (n+1) M.work∧bB (n+1) M.step∧M.step=({ M.work with steps:=M.work.steps+1}:Mc).tidy:=by
  rcases hM.step he with ⟨hw,_⟩ | hw
  ·exact absurd hw.ended h5
  ·exact hw
 have q2:IntKind.i64.wrap (M.work.steps+1)=M.work.steps+1:=cy (by rw [H8.steps];omega) (by rw [H8.steps];omega);simp only [go_sem,simprocAttr,cell_of cY,bb,q2];refine bY (off:=14) rfl rfl cY rfl (by simp [bb]) ?_;intro w2 aC ae _;obtain ⟨M2,qg⟩:∃ M2:Mc,M2 = { M.work with steps:=M.work.steps+1}:=⟨_,rfl⟩;have cQ:=EK.A7 (M':=M2) ae (by rw [qg];simpa [bb] using aC) (by rw [qg]) (by rw [qg]) (by rw [qg]) (by rw [qg]) (by rw [qg]) (by rw [qg]) (by rw [qg]);rw [← qg] at bN;have sf:bB (n+1) M2:=by rw [qg];exact kW.Wu _
 have cB:=cQ.cells;have dq:0≤M2.steps∧M2.steps≤1000001:=by
  have e:M2.steps=M.work.steps+1:=by rw [qg]
  rw [e,H8.steps];omega
 have al4:M2.st.kd≠.ref:=by rw [qg];exact H8.kd iw
 have lu:0 < M2.globals.length:=by
  have e:M2.globals=M.work.globals:=by rw [qg]
  rw [e,(NF M).gl];exact hg
 have step2:∀ {Mf:Mc} {w':World},aU w2 sZ m S Mf dt w'→aU w τ m S Mf dt w':=fun hop=>aU.cat j1 j2 (aU.cat (dV _ w1) (ae.az (fun b hb=>by subst hb;rw [EK.tm];simp [Tg.own])) hop)
 have al5:∀ b:Int,b > 0→IntKind.i64.wrap (M2.steps.tmod b)=M2.steps.tmod b:=by
  intro b hb;have h1:=Int.tmod_nonneg b dq.1;have h2:=Int.tmod_lt_of_pos M2.steps hb;have h3:M2.steps.tmod b≤M2.steps:=by
   rcases Int.lt_or_le M2.steps b with h4 | h4
   ·rw [Int.tmod_eq_of_lt dq.1 h4];omega
   ·omega
  exact cy (by omega) (by omega)
 simp only [go_sem,simprocAttr,cell_of cB,bb];refine iG (fun ρ w'=>w'=w2.drew∧ρ.get 0=some (ptr m)∧ρ.get 98=some (.bool (decide (M2.every > 0∧M2.steps.tmod M2.every=0)))) ?_ ?_
 ·cases hp:decide (M2.every > 0) with
  | false=>
   simp only [go_sem,simprocAttr,cell_of cB,bb,hp];simp only [aL,aM,aN,an,aQ] at hp;simp [hp]
  | true=>
   have tU:=of_decide_eq_true hp;have bj:M2.every≠0:=by omega
   have hq:=al5 _ tU;simp only [go_sem,simprocAttr,cell_of cB,bb,hp,bj,hq];by_cases hz:M2.steps.tmod M2.every=0<;>simp [tU,hz]
 rintro ρ _ ⟨rfl,r0,r98⟩;simp only [go_sem,simprocAttr,r0,r98];refine An (fun ρ w'=>ρ.get 0=some (ptr m)∧aU w2 sZ m S M.step dt w') ?_ ?_
 ·rw [bN];refine aY rfl (fun EL=>?_) (fun EL=>?_)
  ·simp only [aL,aM,aN,an,aQ] at EL;unfold Mc.tidy;rw [if_pos EL];have xC:=sf.WE (by omega);have bj:M2.roots≠[]:=fun e=>by
    have:M2.globals=[]:=by unfold Mc.roots at e;simp at e;exact e.1
    rw [this] at lu;simp at lu
   have CM:Mod (fun _=>False) w2 w2.drew.drew:=(Mod.refl (fun _=>False) w2).drew.drew;have PY:=cQ.mod CM (dV sZ w2).wx (fun _ _ h=>h.elim);obtain ⟨ti,ui,ud⟩:=PY.st.iface;simp only [go_sem,simprocAttr,cell_of cB,bb,ud,ptr];refine δ (by rfl) (Vv ⟨_,_,_,_,_,_,_,_,_,PY⟩ xC) ?_;rintro r3 w3 ⟨⟨f3,me,nP⟩,ab⟩;have lm:=cQ.lt;have km:=ab.old m lm (fun h=>h);refine σ ?_;refine ⟨km,?_⟩;have qQ:=PY.mod ab (eJ sZ w2.drew.drew .no).wx (fun _ _ h=>h.elim);obtain ⟨pJ,_⟩:=me.ints xC;obtain ⟨va,vc,rfl,_⟩:=me.val;refine ag1 (roots:=M2.roots) (by rw [ud];rfl) (by rfl) qQ.st sf.g.st pJ (nY sf.roots) ?_ xC ?_
   ·intro _ x U hF;have fJ:=qQ.tF x hF;obtain ⟨b,c',sp,e,rfl,_⟩:=me.pos (List.length_pos_iff.2 bj);cases e;cases U;rw [oP (nP _ rfl)] at fJ;cases fJ
   intro w4 F4 v4 eu EJ qk;have hh4:=qQ.store (s:=(mU M2.st M2.roots).2) EJ eu (NG _ _);rw [al2 _ al4] at qk;obtain ⟨fp,gk,gq⟩:=qk;obtain ⟨b,c',sp,rfl,rfl,aH,_⟩:=gk.pos (by simp;exact List.length_pos_iff.2 bj);obtain ⟨ax,iI⟩:=gq b rfl;simp only [go_sem,simprocAttr,show ((0:Int) == 0)=true from rfl];refine δ (by rfl) (Vx (M:={ M2 with st:=(mU M2.st M2.roots).2}) ⟨_,_,_,_,_,_,_,_,_,hh4⟩ (ub M2.st M2.roots) gk (Vp ax iI) xC) ?_;rintro r5 w5 ⟨aB,⟨PF,PG,vW5,PH,fg5,ff5,wq,ft5,F5,pj⟩⟩;have hP:=pj.cells;simp only [go_sem,simprocAttr,cell_of hP,bb];refine GA rfl pj.st ?_;refine σ ?_;refine bY (off:=8) rfl rfl hP rfl (by simp [bb]) ?_;intro w6 cN aD mK;refine σ ?_;have wm:=pj.A7 (M':=M2.after (ub M2.st M2.roots) (mU M2.st M2.roots).2) aD (by simpa [bb,Mc.after,Mc.eZ,NG] using cN) rfl rfl rfl rfl rfl rfl rfl;have k5:aU w5 _ m S _ dt w6:=⟨_,dV _ _,⟨_,_,_,_,_,_,_,_,_,wm⟩,aD.az (fun b hb=>by subst hb;rw [pj.tm];simp [Tg.own])⟩;have k4:=aU.cat (dV _ w4) aB k5;have k3:=aU.cat (nU _ w3 F4) (EJ.1.az qQ.zI) k4;exact (aU.boxed ab k3).dj.dj
  ·simp only [aL,aM,aN,an,aQ] at EL;unfold Mc.tidy;rw [if_neg EL];refine σ ?_;exact ⟨sZ,dV _ _,⟨_,_,_,_,_,_,_,_,_,cQ.mod (Mod.refl (fun _=>False) w2).drew (dV sZ w2).wx (fun _ _ h=>h.elim)⟩,(Mod.refl _ w2).drew⟩
 rintro ρ w3 ⟨r0,hop⟩;obtain ⟨xK,q1,h3,q2⟩:=hop;obtain ⟨Vy,Vz,VA,VB,VC,VD,VE,VF,F3,qQ⟩:=id h3;have ey:=qQ.cells;simp only [go_sem,simprocAttr,r0,cell_of ey,bb,ptr];exact ⟨dt,step2 ⟨xK,q1,h3,q2⟩⟩
end
end
section
open Go Go.W
def th (n:Int) (M:Mc):Prop:=bB n M∨M.ended=5
theorem th.ok {n:Int} {M:Mc} (h:th n M) (he:M.ended=0):bB n M:=by
 rcases h with h | h
 ·exact h
 ·omega
theorem step_end {M:Mc} (h:M.ended≠0):M.step=M:=by unfold Mc.step;rw [if_pos h]
theorem th.step {n:Int} {M:Mc} (h:th n M):th (n+1) M.step:=by
 by_cases he:M.ended=0
 ·rcases (h.ok he).step he with ⟨hw,e⟩ | ⟨_,hw,_⟩
  ·rw [e];exact .inr hw.ended
  ·exact .inl hw
 ·rw [step_end he];rcases h with h | h
  ·exact .inl (h.more (by omega))
  ·exact .inr h
theorem th.steps {n:Int} {M:Mc} (h:th n M) (k:Nat):th (n+k) (M.ee k):=by
 induction k with
 | zero=>
  have e:n+((0:Nat):Int)=n:=by simp
  rw [e];exact h
 | succ k ih=>
  have e:n+((k+1:Nat):Int)=n+(k:Int)+1:=by omega
  rw [e];exact ih.step
theorem al6 {M:Mc} {i:Nat} (h:(M.ee i).ended≠0):∀ d:Nat,M.ee (i+d)=M.ee i:=by
 intro d
 induction d with
 | zero=>rfl
 | succ d ih=>
  show (M.ee (i+d)).step=_;rw [ih];exact step_end h
theorem PZ {M:Mc} {i j:Nat} (h:(M.ee i).ended≠0) (eA:i≤j):M.ee j=M.ee i:=by
 obtain ⟨d,rfl⟩:∃ d,j=i+d:=⟨j - i,by omega⟩;exact al6 h d
theorem al7 {M:Mc} {i:Nat} (h:(M.ee (i+1)).ended=0):(M.ee i).ended=0:=by
 apply Classical.byContradiction;intro hh;rw [PZ hh (Nat.le_succ i)] at h;exact hh h
theorem al8 {M:Mc} (he:M.ended=0) (h:M.work.ended=5):M.step.ended=5:=by
 unfold Mc.step;rw [if_neg (by simp [he]),if_pos h];exact h
theorem al9 (M:Mc) (k:Nat):M.steps≤(M.ee k).steps∧(M.ee k).steps≤M.steps+k∧((M.ee k).ended=0→(M.ee k).steps=M.steps+k):=by
 induction k with
 | zero=>exact ⟨Int.le_refl _,by show M.steps≤_;omega,fun _=>by show M.steps=_;omega⟩
 | succ k ih=>
  obtain ⟨h1,h2,h3⟩:=ih;have e:=WD (M.ee k);show M.steps≤(M.ee k).step.steps∧(M.ee k).step.steps≤M.steps+((k+1:Nat):Int)∧((M.ee k).step.ended=0→(M.ee k).step.steps=M.steps+((k+1:Nat):Int));rw [e]
  split
  ·rename_i hh;refine ⟨by omega,by omega,fun _=>by have:=h3 hh.1;omega⟩
  ·rename_i hh;refine ⟨h1,by omega,fun he=>?_⟩;exfalso;have h0:(M.ee k).ended=0:=al7 he;apply hh;refine ⟨h0,fun h5=>?_⟩;have:=al8 h0 h5;omega
theorem al' {M:Mc} (h:M.st.kd≠.ref) (k:Nat):(M.ee k).st.kd≠.ref:=by
 induction k with
 | zero=>exact h
 | succ k ih=>exact WC ih
end
section
open Go Go.W
section
variable {w:World} {τ:Tag} {m:Nat} {S:SV} {M:Mc} {ks:List Nat} {n:Int}
theorem ama (h:iL w τ m S M ks) (hM:th n M) (hn:n≤500000) (ke:0≤n) (iw:M.st.kd≠.ref) (hs:0≤M.steps∧M.steps≤500000) (hg:M.ended=0→0 < M.globals.length) {c:Int} (hc:c≤400000) :
   aK Tryz.prog 24 [ptr m,I c] w fun r w'=>r=I ((M.ee c.toNat).steps - M.steps)∧∃ dt,aU w τ m S (M.ee c.toNat) dt w':=by
 obtain ⟨vG,vF,vW,vT,fg,ff,fw,ft,F,hh⟩:=id h;have xJ:=hh.cells;refine afQ.calls rfl ?_;unfold Lu;simp only [go_sem,simprocAttr,cell_of xJ,bb,ptr];refine dA (fun z ρ w'=>∃ (i:Nat) (dt:List Nat),z=c.toNat - i∧i≤c.toNat∧aU w τ m S (M.ee i) dt w'∧ρ=[(0,ptr m),(1,I c),(5,I M.steps)]) c.toNat ⟨0,ks,rfl,by omega,⟨τ,dV _ _,h,Mod.refl _ _⟩,rfl⟩ ?_;rintro z ρ w1 ⟨i,dt,rfl,hi,hop,rfl⟩;obtain ⟨sZ,j1,h1,j2⟩:=hop;obtain ⟨PN,PO,H4,PQ,Y3,Y4,Y5,Y6,F1,EK⟩:=id h1;have cY:=EK.cells;obtain ⟨s1,s2,s3⟩:=al9 M i;have q1:IntKind.i64.wrap ((M.ee i).steps - M.steps)=(M.ee i).steps - M.steps:=cy (by omega) (by omega);unfold U1;simp only [go_sem,simprocAttr,cell_of cY,bb,ptr];refine iG (fun ρ w'=>w1=w'∧ρ.get 0=some (ptr m)∧ρ.get 1=some (I c)∧ρ.get 5=some (I M.steps)∧ρ.get 24=some (.bool (decide ((M.ee i).ended=0∧(M.ee i).steps - M.steps < c)))) ?_ ?_
 ·cases he:((M.ee i).ended == 0)
  ·simp only [go_sem,simprocAttr,cell_of cY,bb,he];simp only [aL,aM,aN,an,aQ] at he;simp [he]
  ·simp only [go_sem,simprocAttr,cell_of cY,bb,he,q1];simp only [aL,aM,aN,an,aQ] at he;simp [he]
 rintro ρ _ ⟨rfl,r0,r1,r5,r24⟩;simp only [go_sem,simprocAttr,r0,r1,r5,r24];refine aY rfl (fun hh=>?_) (fun hh=>?_)
 ·simp only [aL,aM,aN,an,aQ] at hh;have ah:i < c.toNat:=by have:=s3 hh.1;omega
  refine σ ?_;refine aq (by rfl) ?_;have hA:=hM.steps i;refine (al3 h1 (hA.ok hh.1) (by omega) (al' iw i) ⟨by omega,by omega⟩ (by rw [(aiC M i).gl];exact hg (Classical.byContradiction fun h0=>by have e0:M.ee i=M:=PZ (i:=0) (M:=M) h0 (Nat.zero_le i);rw [e0] at hh;exact h0 hh.1))).mono ?_;rintro _ w2 ⟨rfl,ks2,amb⟩;refine σ ?_;exact ⟨_,by omega,i+1,ks2,rfl,by omega,aU.cat j1 j2 amb⟩
 ·simp only [aL,aM,aN,an,aQ] at hh;have wm:M.ee c.toNat=M.ee i:=by
   by_cases he:(M.ee i).ended=0
   ·have:=s3 he;have:i=c.toNat:=by
     apply Classical.byContradiction;intro bj;exact hh ⟨he,by omega⟩
    rw [this]
   ·exact PZ he hi
  simp only [go_sem,simprocAttr,cell_of cY,bb,q1];rw [wm];exact ⟨rfl,dt,sZ,j1,h1,j2⟩
end
end
section
open Go Go.W
section
variable {T:bH} {entry:ByteArray} {input:List Int} {heap every:Int} {b8:Bool}
structure amc (T:bH) (entry:ByteArray) (input:List Int) (heap every:Int):Prop where
 chk:qT T=0
 inl:input.length≤10000
 jo:∀ a∈input,isNum a
 hp:1≤heap∧heap≤1048576
 ev:0≤every
 Zg:0≤o0 entry T∧o0 entry T < T.globals.length
theorem Zh (h:jZ T entry input heap every=0):amc T entry input heap every:=by
 unfold jZ at h
 split at h
 ·cases h
 rename_i h1
 split at h
 ·cases h
 rename_i h2
 split at h
 ·rename_i h3;exact absurd h h3
 rename_i h3
 split at h
 ·cases h
 rename_i h4;have h2:¬ input.any (fun n=>!rb n)=true∧¬ heap < 1∧¬ heap > 1048576∧¬ every < 0:=by
  refine ⟨fun e=>h2 (.inl e),fun e=>h2 (.inr (.inl e)),fun e=>h2 (.inr (.inr (.inl e))),fun e=>h2 (.inr (.inr (.inr e)))⟩
 refine ⟨Classical.not_not.1 h3,by omega,fun a ha=>?_,by omega,by omega,?_⟩
 ·have:=h2.1;rw [List.any_eq_true] at this;have h5:rb a=true:=by
   cases hb:rb a
   ·exact absurd ⟨a,ha,by rw [hb];rfl⟩ this
   ·rfl
  unfold rb at h5;rw [decide_eq_true_eq] at h5;unfold isNum;omega
 ·unfold o0;cases he:oZ entry T.globals 0 with
  | none=>exact absurd he h4
  | some j=>
   have:=Xw _ _ he;simp only;omega
theorem amd {n i:Nat} (h:i < n):(iz n)[i]? = some ⟨4,(i:Int),[]⟩:=by
 unfold iz;rw [List.getElem?_map,List.getElem?_range h];rfl
theorem ame {n i:Nat} (h:i < n):ak (iz n) i=⟨4,(i:Int),[]⟩:=by
 unfold ak;rw [List.getD_eq_getElem?_getD,amd h];rfl
theorem amf (n:Nat):Ends (iz n):=by
 intro p hp;rw [BD] at hp;have h1:ay (iz n) p=p:=by
  apply oK;unfold ind;rw [ame hp];rfl
 have h2:over (iz n) p=p:=by
  unfold over;obtain ⟨k,_,e⟩:=oJ (ay (iz n)) (iz n).length p;rw [e,CB h1]
 rw [h2,h1]
theorem amg (h:jZ T entry input heap every=0) (eK:(T.globals.length:Int)≤heap):bB 0 (gG T entry input heap b8 every):=by
 have hf:=Zh h;have hh:=hf.hp;have he:=hf.Zg;unfold gG;rw [if_pos eK];have hy:0≤sU b8 heap∧sU b8 heap≤1048576:=by
  unfold sU
  split
  ·rw [Int.tdiv_eq_ediv_of_nonneg (by omega)];split<;>omega
  ·omega
 have Zi:∀ a:Int,0≤a→a < T.globals.length→St.In ⟨re b8 heap,heap,iz T.globals.length⟩ a:=fun a h1 h2=>⟨h1,by show a < ((iz _).length:Int);rw [BD];exact h2⟩
 exact
  {aZ:=(WT hf.chk).1
   g:=⟨Yy hh eK,amf _,fun nd bQ=>by
    obtain ⟨i,hi,rfl⟩:=List.mem_map.1 bQ;have:=List.mem_range.1 hi
    exact ⟨fun _=>by show (i:Int) < T.globals.length;omega,fun e=>by cases e⟩⟩
   kS:=fun a ha=>by
    obtain ⟨i,hi,rfl⟩:=List.mem_map.1 ha;have:=List.mem_range.1 hi;exact Zi _ (by omega) (by omega)
   mh:=by simp [jt]
   mZ:=fun a ha=>by
    obtain rfl:=List.mem_singleton.1 ha;exact Zi _ he.1 he.2
   pW:=fun _=>by simp
   jJ:=fun f hf=>by cases hf
   run:=fun _ f hf=>by cases hf
   base:=by show (0:Int)≤0∧(0:Int)≤1048576;omega
   bp:=hy
   jo:=hf.jo
   ln:=Int.le_refl _
   lf:=by simp [jt]
   lw:=by simp [jt]
   lt:=by simp [jt]
   sH:=by simp [jt]}
theorem Zj (h:jZ T entry input heap every=0):th 0 (gG T entry input heap b8 every):=by
 by_cases eK:(T.globals.length:Int)≤heap
 ·exact .inl (amg h eK)
 ·refine .inr ?_;unfold gG;rw [if_neg eK]
theorem amh:(gG T entry input heap b8 every).st.kd≠.ref:=by
 unfold gG jt re
 split<;>(cases b8<;>exact fun h=>by cases h)
theorem ami:(gG T entry input heap b8 every).steps=0:=by unfold gG jt;split<;>rfl
theorem amj:(gG T entry input heap b8 every).told=[]:=by unfold gG jt;split<;>rfl
theorem amk:(gG T entry input heap b8 every).aE=[]:=by unfold gG jt;split<;>rfl
structure Good (n:Int) (M:Mc):Prop where
 al:th n M
 kd:M.st.kd≠.ref
 gl:M.ended=0→0 < M.globals.length
 lf:(M.aE.length:Int)≤n
 lt:(M.told.length:Int)≤n
 st:0≤M.steps∧M.steps≤n
theorem aml (h:jZ T entry input heap every=0):Good 0 (gG T entry input heap b8 every):=by
 refine ⟨Zj h,amh,fun he=>?_,by rw [amk];exact Int.le_refl _,by rw [amj];exact Int.le_refl _,by rw [ami];omega⟩;rcases Zj (b8:=b8) h with hk | hk
 ·rw [hk.mh];have:=(Zh h).Zg;have e:(gG T entry input heap b8 every).aZ=T:=by unfold gG jt;split<;>rfl
  rw [e];omega
 ·omega
theorem Good.step {n:Int} {M:Mc} (h:Good n M):Good (n+1) M.step:=by
 have bN:=WD M;have hs:0≤M.step.steps∧M.step.steps≤n+1:=by have:=h.st;rw [bN];split<;>omega
 have hk:=WC h.kd;by_cases he:M.ended=0
 ·have ct:=h.al.ok he;have mW:0 < M.step.globals.length:=by rw [(Ww M).gl];exact h.gl he
  refine ⟨h.al.step,hk,fun _=>mW,?_,?_,hs⟩
  all_goals rcases ct.step he with ⟨hw,e⟩ | ⟨_,hw,_⟩
  ·rw [e,(Wx ct hw).aE];have:=h.lf;omega
  ·exact hw.lf
  ·rw [e,(Wx ct hw).told];have:=h.lt;omega
  ·exact hw.lt
 ·have e:=step_end he;rw [e];have h1:=h.lf;have h2:=h.lt;have h3:=h.st;have h4:=h.al.step;rw [e] at h4;exact ⟨h4,h.kd,h.gl,by omega,by omega,by omega⟩
theorem Good.steps {n:Int} {M:Mc} (h:Good n M) (k:Nat):Good (n+k) (M.ee k):=by
 induction k with
 | zero=>
  have e:n+((0:Nat):Int)=n:=by simp
  rw [e];exact h
 | succ k ih=>
  have:=ih.step;have e:n+(k:Int)+1=n+((k+1:Nat):Int):=by omega
  rw [e] at this;exact this
end
end
section
open Go Go.W
def j0 (T:bH) (entry:ByteArray) (input:List Int) (heap every fuel:Int):Int:=
 if 10000 < input.length then 2 else if fuel < 0∨fuel > 16777216 then 1 else if jZ T entry input heap every=220 then 230 else jZ T entry input heap every
theorem Zk {w:World} {b T:Nat} {v0 v1 v2:Value} {fz:Nat×Nat} (h:w.heap[b]? = some (.cells [v0,v1,v2].toArray T fz)):cH w 3 (.pointer (some ⟨b,0,none⟩))=some (.agg #[v0,v1,v2]):=by
 have h0:w.cell? ⟨b,0,none⟩=some v0:=(cell_of h 0).trans rfl;have h1:w.cell? ⟨b,1,none⟩=some v1:=(cell_of h 1).trans rfl;have h2:w.cell? ⟨b,2,none⟩=some v2:=(cell_of h 2).trans rfl;simp [cH,jv,Addr.add_lit,h0,h1,h2]
theorem Zl {w:World} {b T:Nat} {v0 v1 v2 v3 v4 v5 v6 v7:Value} {fz:Nat×Nat} (h:w.heap[b]? = some (.cells [v0,v1,v2,v3,v4,v5,v6,v7].toArray T fz)):cH w 8 (.pointer (some ⟨b,0,none⟩))=some (.agg #[v0,v1,v2,v3,v4,v5,v6,v7]):=by
 have hh:∀ o v,[v0,v1,v2,v3,v4,v5,v6,v7][o]? = some v→w.cell? ⟨b,o,none⟩=some v:=fun o v hv=>(cell_of h o).trans (by rw [List.getElem?_toArray];exact hv)
 simp [cH,jv,Addr.add_lit,hh 0 v0 rfl,hh 1 v1 rfl,hh 2 v2 rfl,hh 3 v3 rfl,hh 4 v4 rfl,hh 5 v5 rfl,hh 6 v6 rfl,hh 7 v7 rfl]
theorem Zm {w w':World} {v:Value} {l:List It} (hv:Ek w w' v l) (k st n:Int):∀ u∈[I k,v,I st,I n,I 0,I 0,I 0,.string ⟨#[]⟩],u.oneCell'=true:=by
 obtain ⟨fp,h,_⟩:=hv;obtain ⟨a,c,rfl,_⟩:=h.val;intro u hu;simp only [List.mem_cons,List.not_mem_nil,or_false] at hu;rcases hu with rfl | rfl | rfl | rfl | rfl | rfl | rfl | rfl<;>rfl
section
variable {w:World} {cu ci lO:Value} {T:bH} {B:Nat→Prop} {entry:ByteArray} {input:List Int} {heap every fuel:Int} {b8:Bool}
theorem amm (h:fM w cu ci T B) (hT:sN T) (mY:∀ b,B b→b < w.heap.size) (dh:Ints w lO input) :
   aK Tryz.prog 23 [jX cu ci,.string entry,lO,xV heap b8 every,I fuel] w fun r w'=>Mod (fun _=>False) w w' ∧
    (j0 T entry input heap every fuel≠0→r = .tuple #[.pointer none,I (j0 T entry input heap every fuel)])∧(j0 T entry input heap every fuel=0→Pp w w' (gG T entry input heap b8 every) r):=by
 have h0:=h;have BF:=dh;obtain ⟨aI,cI,rfl,Pq,_⟩:=dh;refine ajL.calls rfl ?_;unfold Of jX xV;refine σ ?_;refine cK rfl ?_;intro w1 ax ag cL;refine σ ?_;refine cK rfl ?_;intro w2 aC ae dq;have cq:=ag.trans ae;have dC:=ae.at ax (fun hh=>hh);by_cases c1:10000 < input.length
 ·have e1:decide ((input.length:Int) > 10000)=true:=by rw [decide_eq_true_eq];omega
  have eb:j0 T entry input heap every fuel=2:=by unfold j0;rw [if_pos c1]
  simp only [go_sem,simprocAttr,e1];rw [eb];exact ⟨cq,fun _=>rfl,fun hh=>absurd hh (by decide)⟩
 have e1:decide ((input.length:Int) > 10000)=false:=by rw [decide_eq_false_iff_not];omega
 simp only [go_sem,simprocAttr,e1];by_cases c2:fuel < 0∨fuel > 16777216
 ·have eb:j0 T entry input heap every fuel=1:=by unfold j0;rw [if_neg c1,if_pos c2]
  by_cases c3:fuel < 0
  ·have e2:decide (fuel < 0)=true:=by rw [decide_eq_true_eq];exact c3
   simp only [go_sem,simprocAttr,e2];rw [eb];exact ⟨cq,fun _=>rfl,fun hh=>absurd hh (by decide)⟩
  ·have e2:decide (fuel < 0)=false:=by rw [decide_eq_false_iff_not];exact c3
   have e3:decide (fuel > 16777216)=true:=by rw [decide_eq_true_eq];omega
   simp only [go_sem,simprocAttr,e2,e3];rw [eb];exact ⟨cq,fun _=>rfl,fun hh=>absurd hh (by decide)⟩
 have e2:decide (fuel < 0)=false:=by rw [decide_eq_false_iff_not];omega
 have e3:decide (fuel > 16777216)=false:=by rw [decide_eq_false_iff_not];omega
 have jG:cH w2 2 (.pointer (some ⟨w.heap.size,0,none⟩))=some (.agg #[cu,ci]):=by
  have hh:w2.heap[w.heap.size]? = some (.cells #[cu,ci] 25 (0,0)):=dC;exact Es hh
 have fX:cH w2 3 (.pointer (some ⟨w1.heap.size,0,none⟩))=some (.agg #[I heap,.bool b8,I every]):=by
  have hh:w2.heap[w1.heap.size]? = some (.cells [I heap,.bool b8,I every].toArray 28 (0,0)):=aC;exact Zk hh
 simp only [go_sem,simprocAttr,e2,e3,jG,fX];refine aq (by rfl) ?_;have hT2:fM w2 cu ci T B:=h0.mod cq (fun _ _ h=>h) (fun _ h=>h);refine (alk hT2 hT (fun b hb=>by have:=mY b hb;have:=cq.size;omega) (BF.mod cq (fun _ _ h=>h))).mono ?_;rintro r w3 ⟨ab,bj,hz⟩;by_cases c4:jZ T entry input heap every=0
 ·obtain ⟨τ,m,S,rfl,hA,P0⟩:=hz c4;have eb:j0 T entry input heap every fuel=0:=by unfold j0;rw [if_neg c1,if_neg c2,c4];rfl
  have e4:((0:Int) == 220)=false:=rfl;simp only [go_sem,simprocAttr,e4];rw [eb];exact ⟨cq.trans ab,fun hh=>absurd rfl hh,fun _=>⟨τ,m,S,rfl,hA,fun b hb=>P0 b (by have:=cq.size;omega)⟩⟩
 ·obtain rfl:=bj c4;by_cases c5:jZ T entry input heap every=220
  ·have eb:j0 T entry input heap every fuel=230:=by unfold j0;rw [if_neg c1,if_neg c2,if_pos c5]
   have e4:((220:Int) == 220)=true:=rfl;rw [c5];simp only [go_sem,simprocAttr,e4];rw [eb];exact ⟨cq.trans ab,fun _=>rfl,fun hh=>absurd hh (by decide)⟩
  ·have eb:j0 T entry input heap every fuel=jZ T entry input heap every:=by unfold j0;rw [if_neg c1,if_neg c2,if_neg c5]
   have e4:(jZ T entry input heap every == 220)=false:=by simp [c5]
   simp only [go_sem,simprocAttr,e4];rw [eb];exact ⟨cq.trans ab,fun _=>rfl,fun hh=>absurd hh c4⟩
theorem amn (h:fM w cu ci T B) (hT:sN T) (mY:∀ b,B b→b < w.heap.size) (dh:Ints w lO input) (TT:fuel≤400000∨fuel > 16777216) :
   aK Tryz.prog 11 [jX cu ci,.string entry,lO,xV heap b8 every,I fuel] w fun r w'=>Mod (fun _=>False) w w' ∧
    (j0 T entry input heap every fuel≠0→r = .tuple #[OG 0 (.slice none 0 0) 0 0,I (j0 T entry input heap every fuel)]) ∧
    (j0 T entry input heap every fuel=0→∃ v,r = .tuple #[OG (El ((gG T entry input heap b8 every).ee fuel.toNat)) v ((gG T entry input heap b8 every).ee fuel.toNat).stuck ((gG T entry input heap b8 every).ee fuel.toNat).steps,I 0]∧Ek w w' v ((gG T entry input heap b8 every).ee fuel.toNat).told):=by
 have h0:=h;have BF:=dh;obtain ⟨aI,cI,rfl,Pq,_⟩:=dh;refine ajG.calls rfl ?_;unfold N' jX xV;refine φ ?_;refine cK rfl ?_;intro w1 ax ag cL;refine φ ?_;refine cK rfl ?_;intro w2 aC ae dq;refine φ ?_;refine dk ?_;intro w3 aJ ab eP;have dy:=(ag.trans ae).trans ab;have fT:=(ae.trans ab).at ax (fun hh=>hh);have qM:=ab.at aC (fun hh=>hh);have jG:cH w3 2 (.pointer (some ⟨w.heap.size,0,none⟩))=some (.agg #[cu,ci]):=by
  have hh:w3.heap[w.heap.size]? = some (.cells #[cu,ci] 25 (0,0)):=fT;exact Es hh
 have fX:cH w3 3 (.pointer (some ⟨w1.heap.size,0,none⟩))=some (.agg #[I heap,.bool b8,I every]):=by
  have hh:w3.heap[w1.heap.size]? = some (.cells [I heap,.bool b8,I every].toArray 28 (0,0)):=qM;exact Zk hh
 simp only [go_sem,Nat.reduceAdd,Nat.reduceEqDiff,Nat.reduceLT,Nat.reduceLeDiff,Nat.reduceMul,reduceCtorEq,↓reduceIte,jG,fX];refine δ (by rfl) (amm (b8:=b8) (h0.mod dy (fun _ _ h=>h) (fun _ h=>h)) hT (fun b hb=>by have:=mY b hb;have:=dy.size;omega) (BF.mod dy (fun _ _ h=>h))) ?_;rintro r w4 ⟨ai,bj,hz⟩;have eh:=dy.trans ai;have qz:=ai.at aJ (fun hh=>hh);by_cases c4:j0 T entry input heap every fuel=0
 ·obtain ⟨τ,m,S,rfl,hA,P0⟩:=hz c4;have e4:((0:Int) != 0)=false:=rfl;have apB:¬ fuel < 0∧¬ fuel > 16777216:=by
   unfold j0 at c4
   split at c4
   ·cases c4
   split at c4
   ·cases c4
   ·rename_i hh;omega
  have amo:jZ T entry input heap every=0:=by
   unfold j0 at c4
   split at c4
   ·cases c4
   split at c4
   ·cases c4
   split at c4
   ·cases c4
   ·exact c4
  have hg:=aml (b8:=b8) amo;have de:=hg.steps fuel.toNat;simp only [go_sem,Nat.reduceAdd,Nat.reduceEqDiff,Nat.reduceLT,Nat.reduceLeDiff,Nat.reduceMul,reduceCtorEq,↓reduceIte,e4];refine aq (by rfl) ?_;have bN:=hg.st;refine (ama hA hg.al (by omega) (by omega) hg.kd ⟨by omega,by omega⟩ hg.gl (c:=fuel) (by omega)).mono ?_;rintro _ w5 ⟨rfl,dt,bI,j1,j2,j3⟩;refine φ ?_;refine δ (by rfl) (akb j2 (by have:=de.lt;omega)) ?_;rintro _ w6 ⟨v,rfl,hv,aD⟩;have gS:∀ b,b < w3.heap.size→¬ (τ b).own:=fun b hb hh=>hh.1 (P0 b hb)
  have qA:=j3.at qz (fun hh=>gS _ (lt_of_heap aJ) hh);have BG:=aD.at qA (fun hh=>hh);refine cX (cs:=[I 0,.slice none 0 0,I 0,I 0,I 0,I 0,I 0,.string ⟨#[]⟩]) rfl rfl BG rfl rfl (Zm hv _ _ _) ?_;intro w7 cm aX mN
  have CZ:Mod (fun b=>w3.heap.size≤b) w4 w5:=j3.az (fun b hb=>by
   rcases Nat.lt_or_ge b w3.heap.size with h' | h'
   ·exact absurd hb (gS b h')
   ·exact h')
  have h3s:=lt_of_heap aJ;have eu:=ai.size;have apC:=dy.size;have fP:=j3.size;have mK:=aD.size;have dq:w.heap.size≤w2.heap.size:=(ag.trans ae).size;have kN:Mod (fun b=>w.heap.size≤b) w w7:=((((eh.az (fun _ hh=>hh.elim)).trans (CZ.az (fun b hb=>by omega))).trans (aD.az (fun _ hh=>hh.elim))).trans (aX.az (fun b hb=>by omega)));refine ⟨_,by rw [Zl cm];rfl,⟨kN.size,fun b hb _=>kN.old b hb (by omega),kN.os,kN.tape,kN.output⟩,fun hh=>absurd c4 hh,fun _=>⟨v,rfl,?_⟩⟩;obtain ⟨fp,g1,g2⟩:=hv;refine ⟨fp,g1.mod aX (fun b hb hh=>by have:=g2 b hb;omega),fun b hb=>by have:=g2 b hb;omega⟩
 ·obtain rfl:=bj c4;have e4:(j0 T entry input heap every fuel != 0)=true:=by simp [c4]
  simp only [go_sem,Nat.reduceAdd,Nat.reduceEqDiff,Nat.reduceLT,Nat.reduceLeDiff,Nat.reduceMul,reduceCtorEq,↓reduceIte,e4];refine cX (vs:=[I 0,.slice none 0 0,I 0,I 0,I 0,I 0,I 0,.string ⟨#[]⟩]) (cs:=[I 0,.slice none 0 0,I 0,I 0,I 0,I 0,I 0,.string ⟨#[]⟩]) rfl rfl qz rfl rfl (by intro u hu;simp only [List.mem_cons,List.not_mem_nil,or_false] at hu;rcases hu with rfl | rfl | rfl | rfl | rfl | rfl | rfl | rfl<;>rfl) ?_;intro w7 cm aX mN;have dq:w.heap.size≤w2.heap.size:=(ag.trans ae).size;have kN:Mod (fun b=>w.heap.size≤b) w w7:=(eh.az (fun _ hh=>hh.elim)).trans (aX.az (fun b hb=>by omega));exact ⟨_,by rw [Zl cm];rfl,⟨kN.size,fun b hb _=>kN.old b hb (by omega),kN.os,kN.tape,kN.output⟩,fun _=>rfl,fun hh=>absurd hh c4⟩
end
end
section
open Go Go.W
def Zn:List Ins:=[⟨3,7,0⟩,⟨7,1,0⟩,⟨17,0,0⟩]
def BP:bH:=⟨kB,[⟨⟨#[109]⟩,0,Zn⟩]⟩
def Zo:Mc:=gG BP ⟨#[109]⟩ [] 100 false 0
theorem amp:j0 BP ⟨#[109]⟩ [] 100 0 1000=0:=by kernel_rfl
theorem amq:El (Zo.ee 1000)=2:=by kernel_rfl
theorem amr:(Zo.ee 1000).told=[⟨⟨#[]⟩,7⟩]:=by kernel_rfl
theorem ams:sN BP:=by
 refine ⟨by decide,by decide,?_,?_,?_,?_⟩
 all_goals decide
theorem amt:a8 5=⟨#[53]⟩:=by
 unfold a8 Lib.itoa;rw [if_neg (by decide)];show (⟨(Lib.decDigits 5).toArray⟩:ByteArray)=_;rw [Lib.decDigits,dif_pos (by decide)];rfl
theorem amu:qd a8 [] [⟨⟨#[]⟩,5⟩]=(⟨#[53]⟩,0):=by
 have hk:ic (eF []) [⟨⟨#[]⟩,5⟩]=true:=by decide
 have e1:kV.steps a8 (eF []) [⟨⟨#[]⟩,5⟩] 1=⟨1,0,[],⟨#[]⟩++a8 5⟩:=rfl;have hf:ie a8 (eF []) [⟨⟨#[]⟩,5⟩]=⟨1,0,[],⟨#[]⟩++a8 5⟩:=by
  rw [Yg (k:=1) (by decide) (by rw [e1]),e1]
 unfold qd;rw [if_pos hk,hf,if_neg (by decide),amt];rfl
theorem amv (w:World):aK Tryz.prog 19 [] w fun r w'=>∃ b1 b2,r=jX (.slice (some ⟨b1,0,none⟩) 7 7) (.slice (some ⟨b2,0,none⟩) 1 1)∧fM w' (.slice (some ⟨b1,0,none⟩) 7 7) (.slice (some ⟨b2,0,none⟩) 1 1) BP (· < w'.heap.size)∧Mod (fun _=>False) w w':=by
 refine ajK.calls rfl ?_;unfold Oe;refine σ ?_;refine dk ?_;intro w1 ax ag cL;refine σ ?_;refine cd (by rfl) (by rfl) ?_;intro w2 aC ae dq;refine σ ?_;refine dk ?_;intro w3 aJ ab eP;refine σ ?_;have js:w3.heap[w2.heap.size]? = some (.cells [.slice none 0 0,.slice none 0 0].toArray 25 (0,0)):=aJ;refine cX (vs:=[.slice (some ⟨w1.heap.size,0,none⟩) 7 7,.slice none 0 0]) rfl rfl js rfl rfl (by intro u hu;simp only [List.mem_cons,List.not_mem_nil,or_false] at hu;rcases hu with rfl | rfl<;>rfl) ?_;intro w4 aH ai eu;refine σ ?_;refine cd (by rfl) (by rfl) ?_;intro w5 bZ aB fP;refine σ ?_;refine cd (by rfl) (by rfl) ?_;intro w6 cN aD mK;refine σ ?_;have pZ:=(aB.trans aD).at aH (fun hh=>hh);refine bY (off:=1) rfl rfl pZ rfl (by simp) ?_;intro w7 cm aX mN;refine σ ?_;have hl7:=Es cm;simp only [go_sem,simprocAttr,hl7];have z:∀ {a b:World} {k:Nat},w.heap.size≤k→Mod (· = k) a b→Mod (fun b=>w.heap.size≤b) a b:=fun hk hm=>hm.az (fun b hb=>by omega)
 have z0:∀ {a b:World},Mod (fun _=>False) a b→Mod (fun b=>w.heap.size≤b) a b:=fun hm=>hm.az (fun _ hh=>hh.elim)
 have wj:Mod (· = w2.heap.size) w2 w7:=(((ab.az (fun _ hh=>hh.elim)).trans ai).trans ((aB.trans aD).az (fun _ hh=>hh.elim))).trans aX;have lI:Mod (· = w2.heap.size) w6 w7:=aX;have vo:=(((ae.trans ab).az (S':=(· = w2.heap.size)) (fun _ hh=>hh.elim)).trans ai |>.trans ((aB.trans aD).az (fun _ hh=>hh.elim)) |>.trans aX).at ax (fun hh=>by omega);have apD:=(aB.trans aD).size;have amw:w7.heap[w.heap.size]? = some (.cells [.slice none 0 0,.slice none 0 0].toArray 25 (0,0)):=vo;refine cX (vs:=[.slice (some ⟨w1.heap.size,0,none⟩) 7 7,.slice (some ⟨w5.heap.size,0,none⟩) 1 1]) rfl rfl amw rfl rfl (by intro u hu;simp only [List.mem_cons,List.not_mem_nil,or_false] at hu;rcases hu with rfl | rfl<;>rfl) ?_;intro w8 eB ch xf;simp only [go_sem,simprocAttr,Es eB];have Zp:=ch.at (wj.at aC (fun hh=>by omega)) (fun hh=>by omega);have Zq:=ch.at (lI.at (aD.at bZ (fun hh=>hh)) (fun hh=>by omega)) (fun hh=>by omega);have EG:=ch.at (lI.at cN (fun hh=>by omega)) (fun hh=>by omega);have apE:w2.heap.size≤w4.heap.size:=by omega
 have GZ:∀ {b:Nat} {o:Obj},w8.heap[b]? = some o→b < w8.heap.size:=fun h=>(Array.getElem?_eq_some_iff.1 h).1
 refine ⟨w1.heap.size,w5.heap.size,rfl,⟨(sV (rows:=kB.map fy) (T:=47) (fp:=some w1.heap.size) (ao.fG Zp (by rfl)) (by decide)).mod (Mod.refl (fun _=>False) _) (fun _ _ h=>h) (fun b e=>by cases e;exact GZ Zp),[.slice (some ⟨w4.heap.size,0,none⟩) 3 3],rfl,?_,?_⟩,?_⟩
 ·exact (sV (rows:=[[.string ⟨#[109]⟩,I 0,.slice (some ⟨w4.heap.size,0,none⟩) 3 3]]) (T:=59) (fp:=some w5.heap.size) (ao.fG EG (by rfl)) (by intro r hr;cases hr with | head=>rfl | tail _ h=>cases h)).mod (Mod.refl (fun _=>False) _) (fun _ _ h=>h) (fun b e=>by cases e;exact GZ EG)
 ·intro i g v hg hv;cases i with
  | zero=>
   cases hg;cases hv;exact (sV (rows:=Zn.map nR) (T:=61) (fp:=some w4.heap.size) (ao.fG Zq (by rfl)) (by intro r hr;obtain ⟨x,_,rfl⟩:=List.mem_map.1 hr;rfl)).mod (Mod.refl (fun _=>False) _) (fun _ _ h=>h) (fun b e=>by cases e;exact GZ Zq)
  | succ i=>cases hg
 ·have kN:Mod (fun b=>w.heap.size≤b) w w8:=(((z0 ag).trans (z0 ae)).trans (z (by omega) wj)).trans (z (Nat.le_refl _) ch);exact ⟨kN.size,fun b hb _=>kN.old b hb (by omega),kN.os,kN.tape,kN.output⟩
end
section
open Go Go.W Go.RowKit
theorem EM {lo:Nat} {w w':World} (h:lU lo w) (hm:Mod (fun _=>False) w w'):lU w'.heap.size w':=by
 obtain ⟨g,h1,h2,h3,_⟩:=lU.mod (mp:=0) h (hm.az (fun _ hh=>hh.elim));exact ⟨g,h1,by omega,Nat.le_refl _,by assumption⟩
theorem amx (w:World):Ints w (.slice none 0 0) []:=⟨none,0,rfl,by simp,fun i hi=>absurd hi (by simp)⟩
theorem amy (w:World) (B:Nat→Prop):cO w (.slice none 0 0) 2 [] B:=⟨none,0,rfl,(fun h=>absurd h (by decide)),fun i hi=>absurd hi (by simp)⟩
theorem amz {w:World} (ht:lU w.heap.size w):aK Tryz.prog 8 [] w fun r w'=>r = .bool true∧Mod (fun _=>False) w w':=by
 refine ajF.calls rfl ?_;unfold N9;refine φ ?_;refine δ (by rfl) (amv w) ?_;rintro _ w1 ⟨b1,b2,rfl,hT,ag⟩;refine φ ?_;refine δ (by rfl) (amn (entry:=⟨#[109]⟩) (input:=[]) (heap:=100) (b8:=false) (every:=0) (fuel:=1000) hT ams (fun b h=>h) (amx _) (.inl (by decide))) ?_;rintro r w2 ⟨ae,_,hz⟩;obtain ⟨v,rfl,hv⟩:=hz amp;have e1:((gG BP ⟨#[109]⟩ [] 100 false 0).ee (1000:Int).toNat).told=[⟨⟨#[]⟩,7⟩]:=amr;have e2:El ((gG BP ⟨#[109]⟩ [] 100 false 0).ee (1000:Int).toNat)=2:=amq;rw [e1] at hv;rw [e2];refine φ ?_;refine dk ?_;intro w3 aJ ab eP;refine φ ?_;refine cX (cs:=[I 0,.slice none 0 0,I 0,I 0,I 0,I 0,I 0,.string ⟨#[]⟩]) rfl rfl aJ rfl rfl (Zm hv _ _ _) ?_;intro w4 aH ai eu;have du:Mod (fun _=>False) w2 w4:=ab.step ai (fun b hb hl=>by subst hb;omega);refine φ ?_;refine cd (by rfl) (by rfl) ?_;intro w5 bZ aB fP;have dH:=((ag.trans ae).trans du).trans aB;have hr5:cO w5 (.slice (some ⟨w4.heap.size,0,none⟩) 1 1) 2 ([⟨⟨#[]⟩,5⟩].map ec) (· < w5.heap.size):=
  (sV (rows:=[⟨⟨#[]⟩,5⟩].map ec) (T:=42) (fp:=some w4.heap.size) (ao.fG bZ (by rfl)) (by intro r hr;cases hr with | head=>rfl | tail _ h=>cases h)).mod (Mod.refl (fun _=>False) _) (fun _ _ h=>h) (fun b e=>by cases e;exact lt_of_heap bZ)
 refine δ (by rfl) (Ph (items:=[⟨⟨#[]⟩,5⟩]) (au:=[]) hr5 (amy _ _) (EM ht dH) (by decide) (by decide) (by decide)) ?_;rintro _ w6 ⟨rfl,aD⟩;rw [amu];have pZ:=(aB.trans aD).at aH (fun hh=>hh);have uc:ao w6 42 2 v ([⟨⟨#[]⟩,7⟩].flatMap ec) 1 hv.choose:=((hv.choose_spec.1.mod du (fun _ _ h=>h)).mod aB (fun _ _ h=>h)).mod aD (fun _ _ h=>h);obtain ⟨b,c,cg,rfl,cY,cB,ey,pN⟩:∃ b c cg,v = .slice (some ⟨b,0,none⟩) 1 c∧hv.choose=some b∧w6.heap[b]? = some (.cells ([⟨⟨#[]⟩,7⟩].flatMap ec++cg).toArray 42 (0,0))∧c*2≤([⟨⟨#[]⟩,7⟩].flatMap ec++cg).length∧1≤c:=by
  rcases uc.2 with ⟨_,h',_⟩ | h'
  ·cases h'
  ·exact h'
 have hl:cH w6 2 (.pointer (some ⟨b,0,none⟩))=some (.agg #[.string ⟨#[]⟩,I 7]):=by
  refine sJ ?_ ?_
  ·rw [Addr.add_zero'];exact (cell_of cB 0).trans rfl
  ·rw [Addr.add_lit];exact (cell_of cB 1).trans rfl
 have b1:(0:Int)≤0∧(0:Int) < 1:=by decide
 simp only [go_sem,Nat.reduceAdd,Nat.reduceEqDiff,Nat.reduceLT,Nat.reduceLeDiff,Nat.reduceMul,reduceCtorEq,↓reduceIte,an,bq,cell_of pZ,hl,b1,Nat.zero_mul,Int.natCast_one,ig,kU,decide_true,List.getElem_cons_zero,beq_self_eq_true,Int.reduceBEq,Int.reduceSub,Int.reduceLE,Int.reduceLT];exact dH.trans aD
end
section
open Go Go.W Go.ChangeShapes Go.WideShapes Go.ChangeAt Go.RowKit Go.Deep
instance:Inhabited It:=⟨⟨⟨#[]⟩,0⟩⟩
section
variable {H:Type} {enc:TypeId×Value→H} {w:World} {base:Nat} {held:Bool}
theorem amA (n:Nat) (cs:List Value) (y:DataW H×List MemPlace) (h:DataW.trod enc Tryz.prog w base (fun _=>true) held n 42 cs=some y) (hw:(y.1.weights Tryz.prog 42).all (·≤reachBytes)=true) :
   ∃ x:It,cs=ec x∧True∧x.aj.size+1≤Rows.uptoBulk y.1:=by
 obtain ⟨xs,m,rfl,rfl,hl,OI,hf⟩:=DataW.trod_struct Tryz.underlying42 h;rw [Tryz.XA] at hl
 match cs,hl,xs,OI with
 | [c0,c1],_,[x0,x1],_=>
 have f0:=hf 0 _ rfl;have f1:=hf 1 _ rfl;simp only [Tryz.Xz,Tryz.Xy,List.drop_zero,List.drop_succ_cons,List.take_succ_cons,List.take_zero,List.getElem?_cons_zero,List.getElem?_cons_succ] at f0 f1;simp only [DataW.weights,Tryz.underlying42,List.map_cons,List.map_nil,DataW.weightsEach] at hw;obtain ⟨zb,_⟩:=En hw;obtain ⟨s,rfl,hs,hb⟩:=XD f0 zb;obtain ⟨i1,e1,rfl,_⟩:=DataW.trod_int Tryz.underlying3 f1;cases e1;refine ⟨⟨s,i1⟩,rfl,trivial,?_⟩;simp only [Rows.uptoBulk,Rows.uptoBulkAll,List.map_cons,List.map_nil,← hb];omega
variable {ts:List TypeId} {args:List Value} {ds:List (DataW H)}
theorem Zr {P:Program} {t:TypeId} (h:wN enc P (t::ts) w args ds):∃ v args' d np base p,args=v::args'∧ds=d::np∧wN enc P ts w args' np∧Value.okWide P w .any base t v∧DataW.Trod enc P w 0 (fun _=>true) true t v d p∧(d.weights P t).all (·≤reachBytes)=true:=by
 obtain ⟨⟨base,tR⟩,⟨ps,hA⟩,dQ⟩:=h;obtain ⟨v,vs,d,np,p,q,rfl,rfl,rfl,hd,rE⟩:=trodAll_cons hA;rw [DataW.weightsEach] at dQ;obtain ⟨h1,h2⟩:=En dQ;exact ⟨v,vs,d,np,base,p,rfl,rfl,⟨⟨base,fun j t' v' ht hv=>tR (j+1) t' v' ht hv⟩,⟨q,rE⟩,h2⟩,tR 0 t v rfl rfl,hd,h1⟩
theorem amB {P:Program} (h:wN enc P [] w args ds):args=[]∧ds=[]:=by
 obtain ⟨_,⟨ps,hA⟩,_⟩:=h;obtain ⟨rfl,rfl,_⟩:=trodAll_nil hA;exact ⟨rfl,rfl⟩
theorem Zs {α:Type} (μ:α→Nat) (l:List α):(l.map fun x=>μ x+1).sum=(l.map μ).sum+l.length:=by
 induction l with
 | nil=>rfl
 | cons a l ih=>simp only [List.map_cons,List.sum_cons,List.length_cons,ih];omega
theorem amC (h:wN enc Tryz.prog (32::ts) w args ds) (hb:Rows.uptoBulkAll ds≤1048576):∃ (v:Value) (items:List It) (args':List Value) (d:DataW H) (np:List (DataW H)),args=v::args'∧ds=d::np∧cO w v 2 (items.map ec) (· < w.heap.size)∧gR items+items.length≤1048576∧(∀ a n c,v = .slice a n c→n≤c)∧wN enc Tryz.prog ts w args' np∧Rows.uptoBulkAll np≤1048576:=by
 obtain ⟨v,args',d,np,base,p,rfl,rfl,h',tR,hd,hw⟩:=Zr h;obtain ⟨a0,len,cap,rfl⟩:=okWide_slice Tryz.underlying32 tR;obtain ⟨fuel,hf⟩:=hd;rw [Rows.uptoBulkAll] at hb;have iD:DataW.trod enc Tryz.prog w 0 (fun _=>true) true fuel 32 [.slice a0 len cap]=some (d,p):=by simpa [Value.cells] using hf
 obtain ⟨v,os,e,h1,_,_,h2⟩:=XC ec (fun _=>True) (fun x=>x.aj.size+1) Tryz.underlying32 Tryz.XA Tryz.akk (fun _=>rfl) (by decide) (amA (H:=H)) iD hw;cases e;have h3:=Zs (fun x:It=>x.aj.size) os;have h4:(os.map fun x=>x.aj.size+1).sum+1≤Rows.uptoBulk d:=h2;have h5:(os.map fun x:It=>x.aj.size).sum=gR os:=rfl;refine ⟨_,os,args',d,np,rfl,rfl,h1,by omega,fun a n c e=>?_,h',by omega⟩;cases e;rcases open_slice Tryz.underlying32 iD with ⟨e,_⟩ | ⟨a,apF,apG,m,k',D,Pl,e,_,hl,_⟩
 ·cases e;exact Nat.le_refl _
 ·cases e;exact hl
theorem amD (h:wN enc Tryz.prog (22::ts) w args ds) (hb:Rows.uptoBulkAll ds≤1048576):∃ (v:Value) (au:List gF) (args':List Value) (d:DataW H) (np:List (DataW H)),args=v::args'∧ds=d::np∧cO w v 2 (au.map fy) (· < w.heap.size)∧au.length≤1048576∧wN enc Tryz.prog ts w args' np∧Rows.uptoBulkAll np≤1048576:=by
 obtain ⟨v,args',d,np,base,p,rfl,rfl,h',tR,hd,hw⟩:=Zr h;obtain ⟨a0,len,cap,rfl⟩:=okWide_slice Tryz.underlying22 tR;obtain ⟨fuel,hf⟩:=hd;rw [Rows.uptoBulkAll] at hb;have iD:DataW.trod enc Tryz.prog w 0 (fun _=>true) true fuel 22 [.slice a0 len cap]=some (d,p):=by simpa [Value.cells] using hf
 obtain ⟨v,os,e,h1,_,_,h2⟩:=XC fy (fun x=>x.name.size≤140737488351232) (fun x=>x.name.size+1) Tryz.underlying22 Tryz.Xx Tryz.akj (fun _=>rfl) (by decide) (akn (H:=H)) iD hw;cases e;have h3:=Zs (fun x:gF=>x.name.size) os;have h4:(os.map fun x=>x.name.size+1).sum+1≤Rows.uptoBulk d:=h2;exact ⟨_,os,args',d,np,rfl,rfl,h1,by omega,h',by omega⟩
end
abbrev zJ:List (String×DataW Unit):=[("math/bits.deBruijn32tab",Rows.laid_math_bits_deBruijn32tab),("math/bits.deBruijn64tab",Rows.laid_math_bits_deBruijn64tab),("internal/strconv.uint64pow10",Rows.laid_internal_strconv_uint64pow10)]
theorem amE (os:Os) (args:Array Value):laidMetH Tryz.prog zJ ((World.laidAll Tryz.prog os zJ).forCall (fun _ _=>0) ⟨#[],args,[]⟩).memory:=by
 rw [MakeChecks.laidMetH_plain _ _ _ (by kernel_rfl)];exact laidMet_laidAll _ (by kernel_rfl) (by kernel_rfl)
theorem amF {W:World} (h:laidMetH Tryz.prog zJ W):lU W.heap.size W:=by
 have h1:=laidMetH.filter (fun x=>x.1 == "internal/strconv.uint64pow10") h;have e:zJ.filter (fun x=>x.1 == "internal/strconv.uint64pow10")=[("internal/strconv.uint64pow10",Lib.tabData .u64 Lib.pow10Tab)]:=by kernel_rfl
 rw [e,MakeChecks.laidMetH_plain _ _ _ (by kernel_rfl)] at h1;have hg:Tryz.prog.globalNamed "internal/strconv.uint64pow10" = some 0:=by kernel_rfl
 have h2:=Lib.tabIs_of_head hg (t:=223) (n:=20) (e:=212) (by kernel_rfl) Tryz.underlying223 Tryz.underlying212 (by kernel_rfl) (by kernel_rfl) h1;refine ⟨0,hg,?_,Nat.le_refl _,h2⟩;unfold Lib.TabIs World.var? at h2;rw [hg] at h2;simp only [Option.bind_some] at h2;cases hh:W.heap[0]? with
 | none=>rw [hh] at h2;cases h2
 | some o=>exact lt_of_heap hh
theorem amG {H:Type} {enc:TypeId×Value→H} {C:Go.Checked} {os:Os} {f:FuncId} {fn:Func} {s:ChangeSpec} {tb:TypeId} {F:Stop.Interp} {L:List (String×DataW Unit)} (own:ownKnob C.prog.godebug=none) (started:os.Started) (amH:C.prog.inits.idxOf? f=none) (oD:C.prog.funcs[f]? = some fn)
   (witness:∃ (w:World) (tape:Tape) (i:Input),w.os=os∧(w.forCall tape i).Shaped C.prog∧i.vars=[]∧Input.okWide C.prog (w.forCall tape i) .any w.heap.size f i ∧
    (Rows.OpenSpec.upto s).preRow enc C.prog fn [] false L (w.forCall tape i).memory i.args∧({}:Assume).holds C.prog (lone (Frame.enter C.prog f i.args .normal) [] (w.forCall tape i)))
   (laid:laidOutB C.prog=true) (amI:fn.params.toList.all (fun t=>C.prog.readableRec t&&decide (t < C.prog.types.size))=true)
   (amJ:fn.resultTypes = #[tb]) (hb:C.prog.underlying tb=some .bool) (P1:s.vars=[])
   (hs:∀ ds:List (DataW H),ds.length=fn.params.toList.length→s.fn H ds = { results:=[.lit (.bool true)],args:=ds})
   (walk:∀ (W:World) (args:List Value) (ds:List (DataW H)),wN enc C.prog fn.params.toList W args ds→Rows.uptoBulkAll ds≤1048576→laidMetH C.prog L W→aK C.prog f args W fun q w'=>q = .bool true∧Mod (fun _=>False) W w') :
   ReturnsInHanded {} C os f .any ((Rows.OpenSpec.upto s).preRow enc C.prog fn [] false L) (((Rows.OpenSpec.upto s).at F).post enc C.prog fn false true false false):=by
 refine returnsInHanded_of_row (s:=Rows.OpenSpec.upto s) own started amH oD witness ?_;intro W base args ds gs before tR hW _ wK dQ amK _ _;have hk:Rows.uptoSmall H (ds++gs)=true:=wK _ rfl;have hW:DataW.Whole enc C.prog fn.params.toList s.vars false W args.toList ds gs before:=hW;have P2:=hW;obtain ⟨p,q,hA,hV,rfl,_,_⟩:=hW;rw [P1] at hV;obtain ⟨rfl,rfl⟩:=trodVars_none hV;simp only [List.append_nil] at P2 dQ hk;have OK:(DataW.weightsEach C.prog fn.params.toList ds).all (·≤reachBytes)=true:=by
  have e:(Rows.OpenSpec.upto s).bare.plain.varTypes C.prog=[]:=by
   show (s.plain).varTypes C.prog=[];simp [DataSpec.varTypes,ChangeSpec.plain,P1]
  rw [e,List.append_nil] at dQ;exact dQ
 have eT:Rows.uptoBulkAll ds≤1048576:=of_decide_eq_true hk;have key:=walk W args.toList ds ⟨⟨base,fun j t v ht hv=>tR j t v (by simpa using ht) (by simpa using hv)⟩,⟨p,hA⟩,OK⟩ eT amK;have e:args.toList.toArray=args:=by simp
 unfold aK at key;rw [e] at key;refine key.mono ?_;rintro _ W' ⟨_,rfl,rfl,hm⟩;have Zt:=abf hm;have ah:∀ x∈p,x.block < W.heap.size:=fun x U=>by simpa using P2.lt x U
 have hf:=hs ds (Re hA);have iD:((Rows.OpenSpec.upto s).at F).fn H ds = { results:=[.lit (.bool true)],args:=ds}:=hf;refine ⟨_,rfl,ds,[],_,[],p,[],P2,?_,?_,?_,Zt.frame _,fun h=>by cases h⟩
 ·rw [List.append_nil,iD,amJ];exact trodAll_mk1 (shut_bool hb true)
 ·rw [List.append_nil,iD];exact Rf laid Zt amI ah hA
 ·have mI:((Rows.OpenSpec.upto s).at F).vars=[]:=P1;rw [List.append_nil,iD,mI];rfl
end
section
open Go Go.W
structure Vl where
 bX:Bool
 aj:ByteArray
 num:Int
 fields:List Nat
abbrev dP:Vl:=⟨true,⟨#[]⟩,0,[]⟩
structure Vs where
 all:List Vl
 waits:List Nat
def dW (f:eE) (x:It) (s:Vs):List Nat:=List.range' s.all.length (dz f x)
def qh (f:eE) (s:Vs) (x:It):Vs:=
 ⟨(s.all++List.replicate (dz f x) dP).set (s.waits.getLast?.getD 0) ⟨false,x.aj,x.num,dW f x s⟩,s.waits.dropLast++(dW f x s).reverse⟩
def EN:Vs:=⟨[dP],[0]⟩
def bg (f:eE) (items:List It) (k:Nat):Vs:=(items.take k).foldl (qh f) EN
section
variable {f:eE} {items:List It}
theorem wv {k:Nat} {x:It} (h:items[k]? = some x):bg f items (k+1)=qh f (bg f items k) x:=by
 obtain ⟨hl,rfl⟩:=List.getElem?_eq_some_iff.1 h;unfold bg;rw [List.take_succ_eq_append_getElem hl,List.foldl_append];rfl
structure VsI (f:eE) (items:List It) (k:Nat):Prop where
 len:((bg f items k).waits.length:Int)=kE f (items.take k)
 lt:∀ a∈(bg f items k).waits,(bg f items k).all[a]? = some dP
 nodup:(bg f items k).waits.Nodup
theorem zK {a:Nat} {l:List Vl} {v:Vl} (h:l[a]? = some v):a < l.length:=(List.getElem?_eq_some_iff.1 h).1
theorem yh:∀ (k:Nat),k≤items.length→(∀ j,j < k→1≤kE f (items.take j))→VsI f items k
 | 0,_,_=>⟨rfl,fun a ha=>by
     have:a=0:=by simpa [bg,EN] using ha
     subst this;rfl,by simp [bg,EN]⟩
 | k+1,hk,hp=>by
  have ih:=yh k (by omega) (fun j hj=>hp j (by omega));have U:=List.getElem?_eq_getElem (show k < items.length by omega);have h1:=hp k (by omega);rw [← ih.len] at h1;obtain ⟨a0,lZ⟩:∃ a0,(bg f items k).waits.getLast? = some a0:=by
   cases h:(bg f items k).waits.getLast? with
   | none=>rw [List.getLast?_eq_none_iff.1 h] at h1;simp at h1
   | some a=>exact ⟨a,rfl⟩
  have hw:=amL lZ;have bQ:=ih.nodup;rw [hw,List.nodup_append] at bQ;have uk:∀ a∈dW f items[k] (bg f items k),(bg f items k).all.length≤a∧a < (bg f items k).all.length+dz f items[k]:=fun a ha=>by
   unfold dW at ha;rw [List.mem_range'_1] at ha;exact ha
  have apH:=zK (ih.lt a0 (List.mem_of_getLast? lZ));refine ⟨?_,fun a ha=>?_,?_⟩
  ·rw [wv U,XK U,← ih.len];unfold qh dW;simp only [List.length_append,List.length_dropLast,List.length_reverse,List.length_range'];omega
  ·rw [wv U] at ha ⊢;unfold qh at ha ⊢;simp only [lZ,Option.getD_some] at ha ⊢;rcases List.mem_append.1 ha with ha | ha
   ·have bj:a0≠a:=fun e=>by
     subst e;exact bQ.2.2 a0 ha a0 (by simp) rfl
    rw [List.getElem?_set_ne bj];have:=ih.lt a (by rw [hw];exact List.mem_append_left _ ha);rw [List.getElem?_append_left (zK this)];exact this
   ·obtain ⟨g1,g2⟩:=uk a (List.mem_reverse.1 ha);rw [List.getElem?_set_ne (by omega),List.getElem?_append_right g1,List.getElem?_replicate,if_pos (by omega)]
  ·rw [wv U];unfold qh;simp only;rw [List.nodup_append];refine ⟨bQ.1,List.pairwise_reverse.2 ((show (dW f items[k] (bg f items k)).Nodup by unfold dW;exact List.nodup_range').imp Ne.symm),fun a ha b hb e=>?_⟩;subst e;obtain ⟨g1,g2⟩:=uk a (List.mem_reverse.1 hb);have:=zK (ih.lt a (by rw [hw];exact List.mem_append_left _ ha));omega
where
 amL {l:List Nat} {t:Nat} (h:l.getLast? = some t):l=l.dropLast++[t]:=by
  obtain ⟨k,rfl⟩:=List.getLast?_eq_some_iff.1 h;rw [List.dropLast_concat]
theorem Zu {k:Nat} (hp:∀ j,j < items.length→1≤kE f (items.take j)) {a:Nat} {v:Vl}:∀ (m:Nat),k+m≤items.length→(bg f items k).all[a]? = some v→a∉(bg f items k).waits→(bg f items (k+m)).all[a]? = some v∧a∉(bg f items (k+m)).waits
 | 0,_,h1,h2=>⟨h1,h2⟩
 | m+1,hm,h1,h2=>by
  obtain ⟨i1,i2⟩:=Zu hp m (by omega) h1 h2;have hI:=yh (f:=f) (items:=items) (k+m) (by omega) (fun j hj=>hp j (by omega));have U:=List.getElem?_eq_getElem (show k+m < items.length by omega);have h0:=hp (k+m) (by omega);rw [← hI.len] at h0;obtain ⟨a0,lZ⟩:∃ a0,(bg f items (k+m)).waits.getLast? = some a0:=by
   cases h:(bg f items (k+m)).waits.getLast? with
   | none=>rw [List.getLast?_eq_none_iff.1 h] at h0;simp at h0
   | some a=>exact ⟨a,rfl⟩
  rw [show k+(m+1)=k+m+1 by omega,wv U];unfold qh;simp only [lZ,Option.getD_some];have bj:a0≠a:=fun e=>by subst e;exact i2 (List.mem_of_getLast? lZ)
  refine ⟨?_,fun hh=>?_⟩
  ·rw [List.getElem?_set_ne bj,List.getElem?_append_left (zK i1)];exact i1
  ·rcases List.mem_append.1 hh with hh | hh
   ·exact i2 ((List.dropLast_sublist _).subset hh)
   ·have:=List.mem_reverse.1 hh;unfold dW at this;rw [List.mem_range'_1] at this;have:=zK i1;omega
theorem Zv (hp:∀ j,j < items.length→1≤kE f (items.take j)) {k a:Nat} {x:It} (U:items[k]? = some x) (ha:(bg f items k).waits.getLast? = some a):(bg f items items.length).all[a]? = some ⟨false,x.aj,x.num,dW f x (bg f items k)⟩:=by
 have ah:=(List.getElem?_eq_some_iff.1 U).1;have hI:=yh (f:=f) (items:=items) k (by omega) (fun j hj=>hp j (by omega));have oN:=zK (hI.lt a (List.mem_of_getLast? ha));have h1:(bg f items (k+1)).all[a]? = some ⟨false,x.aj,x.num,dW f x (bg f items k)⟩:=by
  rw [wv U];unfold qh;simp only [ha,Option.getD_some];rw [List.getElem?_set_self (by rw [List.length_append];omega)]
 have hI':=yh (f:=f) (items:=items) (k+1) (by omega) (fun j hj=>hp j (by omega));have h2:a∉(bg f items (k+1)).waits:=fun hh=>by
  have:=hI'.lt a hh;rw [h1] at this;cases this
 have:=(Zu hp (items.length - (k+1)) (by omega) h1 h2).1
 rwa [show k+1+(items.length - (k+1))=items.length by omega] at this
end
end
end Go.Proofs.YtnjobkbblhaliaaGreatDoor