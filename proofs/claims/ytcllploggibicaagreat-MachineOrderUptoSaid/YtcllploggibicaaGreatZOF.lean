/- Texts that the last file stands on: M26, M29, V6, V7, M20, M19, M21, M22, M23, M24, Q16, M27, Q15, M28, M25, M30, M31, Q17, N3, IRL, N1, N2, N4, Q18, N5, Q19, Q20. -/
import Derived.Test.YtcllploggibicaaGreatZOD
import Derived.Test.YtcllploggibicaaGreatZOE
import Derived.Test.YtcllploggibicaaGreatZOA
import Derived.Test.YtcllploggibicaaGreatRows
import Derived.Deep.Slices
import Derived.Deep.CondSized
import Derived.KernelRfl
set_option linter.unusedSimpArgs false
set_option linter.unusedVariables false
set_option maxRecDepth 100000
namespace Go.Proofs.YtcllploggibicaaGreat
section
open Go Go.W
theorem szItem:szOf Tryz.prog 72=some 2:=by kernel_rfl
theorem cloneItem {w:World} {a:Option Addr} {n c:Nat} {xs:List Value} (hr:RdCells w a (n*2) xs) (h1:∀ u∈xs,u.oneCell'=true) (hn:a=none→n=0) (hb:n≤4294967296) :
   CallsR Tryz.prog 50 [.slice a n c] w fun r w'=>∃ fp,OwnS w' 72 2 r xs n fp∧(∀ b,fp=some b→w.heap.size≤b)∧Mod (fun _=>False) w w':=by
 refine fit50.calls rfl ?_
 unfold ir50
 cases a with
 | none=>
   obtain rfl:=hn rfl
   have e:xs=[]:=List.eq_nil_of_length_eq_zero (by have:=hr.1;simpa using this)
   subst e
   (try simp only [go_sem,simprocAttr,Option.isNone_none])
   exact ⟨none,OwnS.nil _ _ _,(fun b hb=>by cases hb),Mod.refl _ _⟩
 | some ad=>
   (try simp only [go_sem,simprocAttr,Option.isNone_some])
   refine e_b0 (t:=34) (el:=72) (n:=2) Tryz.underlying34 szItem ?_
   intro w1 hb1 hm1 hs1
   have ho1:OwnS w1 72 2 (.slice (some ⟨w.heap.size,0,none⟩) 0 0) [] 0 (some w.heap.size):=OwnS.of_block (xs:=[]) hb1 (by simp)
   have hr1:RdCells w1 (some ad) (n*2) xs:=⟨hr.1,fun ad' h j v hv=>hm1.cell (hr.2 ad' h j v hv) (fun h=>h)⟩
   (try simp only [go_sem,simprocAttr])
   refine e_ap (m:=n) (news:=xs) rfl ho1 rfl (fun h=>by cases h) hr1 h1 rfl (by omega) (by omega) ?_
   intro v2 w2 fp2 ho2 hm2 hf2
   obtain ⟨va,vc,rfl,_,_⟩:=ho2.val
   (try simp only [go_sem,simprocAttr])
   refine ⟨fp2,by simpa using ho2,fun b hb=>?_,hm1.step hm2 (fun x hx hlt=>by cases hx;omega)⟩
   rcases hf2 b hb with h | h
   · cases h;omega
   · omega
theorem szShape:szOf Tryz.prog 89=some 2:=by kernel_rfl
theorem cloneShape {w:World} {a:Option Addr} {n c:Nat} {xs:List Value} (hr:RdCells w a (n*2) xs) (h1:∀ u∈xs,u.oneCell'=true) (hn:a=none→n=0) (hb:n≤4294967296) :
   CallsR Tryz.prog 63 [.slice a n c] w fun r w'=>∃ fp,OwnS w' 89 2 r xs n fp∧(∀ b,fp=some b→w.heap.size≤b)∧Mod (fun _=>False) w w':=by
 refine fit63.calls rfl ?_
 unfold ir63
 cases a with
 | none=>
   obtain rfl:=hn rfl
   have e:xs=[]:=List.eq_nil_of_length_eq_zero (by have:=hr.1;simpa using this)
   subst e
   (try simp only [go_sem,simprocAttr,Option.isNone_none])
   exact ⟨none,OwnS.nil _ _ _,(fun b hb=>by cases hb),Mod.refl _ _⟩
 | some ad=>
   (try simp only [go_sem,simprocAttr,Option.isNone_some])
   refine e_b0 (t:=22) (el:=89) (n:=2) Tryz.underlying22 szShape ?_
   intro w1 hb1 hm1 hs1
   have ho1:OwnS w1 89 2 (.slice (some ⟨w.heap.size,0,none⟩) 0 0) [] 0 (some w.heap.size):=OwnS.of_block (xs:=[]) hb1 (by simp)
   have hr1:RdCells w1 (some ad) (n*2) xs:=⟨hr.1,fun ad' h j v hv=>hm1.cell (hr.2 ad' h j v hv) (fun h=>h)⟩
   (try simp only [go_sem,simprocAttr])
   refine e_ap (m:=n) (news:=xs) rfl ho1 rfl (fun h=>by cases h) hr1 h1 rfl (by omega) (by omega) ?_
   intro v2 w2 fp2 ho2 hm2 hf2
   obtain ⟨va,vc,rfl,_,_⟩:=ho2.val
   (try simp only [go_sem,simprocAttr])
   refine ⟨fp2,by simpa using ho2,fun b hb=>?_,hm1.step hm2 (fun x hx hlt=>by cases hx;omega)⟩
   rcases hf2 b hb with h | h
   · cases h;omega
   · omega
theorem szInstr:szOf Tryz.prog 66=some 3:=by kernel_rfl
theorem cloneInstr {w:World} {a:Option Addr} {n c:Nat} {xs:List Value} (hr:RdCells w a (n*3) xs) (h1:∀ u∈xs,u.oneCell'=true) (hn:a=none→n=0) (hb:n≤4294967296) :
   CallsR Tryz.prog 64 [.slice a n c] w fun r w'=>∃ fp,OwnS w' 66 3 r xs n fp∧(∀ b,fp=some b→w.heap.size≤b)∧Mod (fun _=>False) w w':=by
 refine fit64.calls rfl ?_
 unfold ir64
 cases a with
 | none=>
   obtain rfl:=hn rfl
   have e:xs=[]:=List.eq_nil_of_length_eq_zero (by have:=hr.1;simpa using this)
   subst e
   (try simp only [go_sem,simprocAttr,Option.isNone_none])
   exact ⟨none,OwnS.nil _ _ _,(fun b hb=>by cases hb),Mod.refl _ _⟩
 | some ad=>
   (try simp only [go_sem,simprocAttr,Option.isNone_some])
   refine e_b0 (t:=67) (el:=66) (n:=3) Tryz.underlying67 szInstr ?_
   intro w1 hb1 hm1 hs1
   have ho1:OwnS w1 66 3 (.slice (some ⟨w.heap.size,0,none⟩) 0 0) [] 0 (some w.heap.size):=OwnS.of_block (xs:=[]) hb1 (by simp)
   have hr1:RdCells w1 (some ad) (n*3) xs:=⟨hr.1,fun ad' h j v hv=>hm1.cell (hr.2 ad' h j v hv) (fun h=>h)⟩
   (try simp only [go_sem,simprocAttr])
   refine e_ap (m:=n) (news:=xs) rfl ho1 rfl (fun h=>by cases h) hr1 h1 rfl (by omega) (by omega) ?_
   intro v2 w2 fp2 ho2 hm2 hf2
   obtain ⟨va,vc,rfl,_,_⟩:=ho2.val
   (try simp only [go_sem,simprocAttr])
   refine ⟨fp2,by simpa using ho2,fun b hb=>?_,hm1.step hm2 (fun x hx hlt=>by cases hx;omega)⟩
   rcases hf2 b hb with h | h
   · cases h;omega
   · omega
theorem clip_ok {w:World} {v:Value} {xs:List Value} {n:Nat} {fp:Option Nat} (h:OwnS w 72 2 v xs n fp):CallsR Tryz.prog 49 [v] w fun r w'=>OwnS w' 72 2 r xs n fp∧w=w':=by
 obtain ⟨a,c,rfl,hc,_⟩:=h.val
 refine fit49.calls rfl ?_
 unfold ir49
 have b1:(0:Int)≤n∧(n:Int)≤c:=by omega
 have b2:(0:Int)≤n∧(n:Int)≤n:=by omega
 (try simp only [go_sem,simprocAttr,zb4,zb6,b1,b2,sl_same])
 obtain ⟨h1,h2⟩:=h
 refine ⟨h1,?_⟩
 rcases h2 with ⟨e,h3,h4⟩ | ⟨b,c',sp,e,h3,h4,h5,h6⟩
 · cases e;exact .inl ⟨rfl,h3,h4⟩
 · cases e
   exact .inr ⟨b,n,sp,rfl,h3,h4,by rw [List.length_append,h1];omega,Nat.le_refl _⟩
theorem items_one (l:List It):∀ u∈l.flatMap itRow,u.oneCell'=true:=by
 intro u hu
 obtain ⟨x,_,hx⟩:=List.mem_flatMap.1 hu
 simp only [itRow,List.mem_cons,List.not_mem_nil,or_false] at hx
 rcases hx with rfl | rfl<;>rfl
section
variable {w:World} {τ:Tag} {m:Nat} {S:SV} {M:Mc} {ks:List Nat}
def ToldAt (w w':World) (v:Value) (l:List It):Prop:=∃ fp,OwnS w' 72 2 v (l.flatMap itRow) l.length fp∧∀ b,fp=some b→w.heap.size≤b
theorem m_told (h:MAt w τ m S M ks) (hl:M.told.length≤4294967296):CallsR Tryz.prog 26 [ptr m] w fun r w'=>ToldAt w w' r M.told∧Mod (fun _=>False) w w':=by
 obtain ⟨vG,vF,vW,vT,fg,ff,fw,ft,F,hh⟩:=id h
 have hc:=hh.cells
 have ht:=hh.tl
 obtain ⟨a,c,rfl,_,hn⟩:=ht.val
 refine fit26.calls rfl ?_
 unfold ir26
 (try simp only [go_sem,simprocAttr,cell_of hc,mcCells,ptr])
 refine e_call (by rfl) ?_
 refine (cloneItem ht.rd (items_one _) (fun e=>(hn e).1) hl).mono ?_
 rintro v w1 ⟨fp,ho,hf,hm⟩
 (try simp only [go_sem,simprocAttr])
 refine e_call (by rfl) ?_
 refine (clip_ok ho).mono ?_
 rintro r _ ⟨ho2,rfl⟩
 (try simp only [go_sem,simprocAttr])
 exact ⟨⟨fp,ho2,hf⟩,hm⟩
def outKind (M:Mc):Int:=if M.ended=0 then 4 else M.ended
def outV (k:Int) (v:Value) (st n:Int):Value:=.agg #[I k,v,I st,I n,I 0,I 0,I 0,.string ⟨#[]⟩]
theorem m_outcome (h:MAt w τ m S M ks) (hl:M.told.length≤4294967296):CallsR Tryz.prog 11 [ptr m] w fun r w'=>∃ v,r=outV (outKind M) v M.stuck M.steps∧ToldAt w w' v M.told∧Mod (fun _=>False) w w':=by
 refine fit11.calls rfl ?_
 unfold ir11
 (try simp only [go_sem,simprocAttr])
 refine e_al ?_
 intro w1 hb1 hm1 _
 have h1:=h.mod hm1 (newTag_ext τ w .no).wx (fun _ _ h=>h.elim)
 have h1d:=h1.mod (Mod.refl (fun _=>False) w1).drew (ext_refl _ _).wx (fun _ _ h=>h.elim)
 obtain ⟨vG,vF,vW,vT,fg,ff,fw,ft,F,hh⟩:=id h1
 have hc:=hh.cells
 have lm:=hh.lt
 (try simp only [go_sem,simprocAttr,cell_of hc,mcCells,ptr])
 refine wpD_cut (fun ρ w'=>∃ b v,ρ.get 0=some (ptr m)∧ρ.get 2=some (ptr w.heap.size)∧ρ.get 3=some (ptr b)∧w'.heap[b]? = some (.cells #[I M.ended,v,I M.stuck,I M.steps,I 0,I 0,I 0,.string ⟨#[]⟩] 39 (0,0))∧w1.heap.size≤b∧ToldAt w1 w' v M.told∧Mod (fun _=>False) w1 w') ?_ ?_
 · rw [wpD_e2]
   refine ⟨?_,?_⟩
   · refine e_call (by rfl) ?_
     refine (m_told h1d hl).mono ?_
     rintro v w2 ⟨⟨fp,ho,hf⟩,hm2⟩
     have hm2':Mod (fun _=>False) w1 w2:=Mod.of_drew hm2
     have k2:=hm2.old m lm (fun h=>h)
     obtain ⟨va,vc,rfl,_⟩:=ho.val
     (try simp only [go_sem,simprocAttr])
     refine ⟨by simp only [drew_heap,k2,and_self,implies_true],?_⟩
     refine e_al ?_
     intro w3 hb3 hm3 _
     have k3:=hm3.old m (by have:=hm2.size;exact Nat.lt_of_lt_of_le lm this) (fun h=>h)
     (try simp only [go_sem,simprocAttr])
     refine ⟨by simp only [drew_heap,k3,and_self,implies_true],?_⟩
     refine e_sta (cs:=[I 0,.slice none 0 0,I 0,I 0,I 0,I 0,I 0,.string ⟨#[]⟩]) rfl rfl hb3 rfl rfl (by simp [Value.oneCell']) ?_
     intro w4 hb4 hm4 _
     (try simp only [go_sem,simprocAttr])
     have hm24:Mod (fun _=>False) w2 w4:=hm3.step hm4 (fun x hx hl=>by subst hx;omega)
     exact ⟨w2.heap.size,_,rfl,hb4,hm2'.size,⟨fp,ho.mod hm24 (fun _ _ h=>h),hf⟩,hm2'.trans hm24⟩
   · refine e_al ?_
     intro w3 hb3 hm3 _
     have k3:=hm3.old m lm (fun h=>h)
     have hm3':Mod (fun _=>False) w1 w3:=Mod.of_drew hm3
     (try simp only [go_sem,simprocAttr])
     refine ⟨by simp only [drew_heap,k3,and_self,implies_true],?_⟩
     refine e_call (by rfl) ?_
     refine (m_told (h1.mod hm3' (newTag_ext _ w1 .no).wx (fun _ _ h=>h.elim)) hl).mono ?_
     rintro v w2 ⟨⟨fp,ho,hf⟩,hm2⟩
     have k2:=hm2.old m (by have:=hm3.size;exact Nat.lt_of_lt_of_le lm this) (fun h=>h)
     obtain ⟨va,vc,rfl,_⟩:=ho.val
     (try simp only [go_sem,simprocAttr])
     refine ⟨by simp only [drew_heap,k2,and_self,implies_true],?_⟩
     have hb2:=hm2.at hb3 (fun h=>h)
     have e1:w1.drew.heap.size=w1.heap.size:=rfl
     refine e_sta (cs:=[I 0,.slice none 0 0,I 0,I 0,I 0,I 0,I 0,.string ⟨#[]⟩]) rfl rfl hb2 rfl rfl (by simp [Value.oneCell']) ?_
     intro w4 hb4 hm4 _
     (try simp only [go_sem,simprocAttr])
     have l3:=lt_of_heap hb3
     exact ⟨w1.heap.size,_,rfl,hb4,Nat.le_refl _,⟨fp,ho.mod hm4 (fun b hb e=>by have:=hf b hb;omega),fun b hb=>Nat.le_trans hm3'.size (hf b hb)⟩,(hm3'.trans hm2).step hm4 (fun x hx hl=>by subst hx;omega)⟩
 rintro ρ w2 ⟨b,v,r0,r2,r3,hb2,lb,⟨fp,ho,hf⟩,hm2⟩
 have hc2:=hm2.at hc (fun h=>h)
 have hb12:=hm2.at hb1 (fun h=>h)
 have l1:=lt_of_heap hb1
 obtain ⟨va,vc,rfl,_⟩:=ho.val
 have hm02:=hm1.trans hm2
 have hs01:=hm1.size
 have hE:outKind M=if M.ended=0 then 4 else M.ended:=rfl
 (try simp only [go_sem,simprocAttr,r0,r2,r3,cell_of hc2,mcCells,ptr])
 refine ir_cond rfl (fun hz=>?_) (fun hz=>?_)
 · simp only [zb1,zb2,zb3,zb4,zb5] at hz
   rw [if_pos hz] at hE
   (try simp only [go_sem,simprocAttr])
   refine e_st1 (off:=0) (cs:=[I M.ended,_,I M.stuck,I M.steps,I 0,I 0,I 0,.string ⟨#[]⟩]) rfl rfl hb2 rfl (by simp) ?_
   intro w3 hb3 hm3 _
   have hb3':w3.heap[b]? = some (.cells [I 4,.slice va M.told.length vc,I M.stuck,I M.steps,I 0,I 0,I 0,.string ⟨#[]⟩].toArray 39 (0,0)):=hb3
   (try simp only [go_sem,simprocAttr,ln_of (cs:=[_,_,_,_,_,_,_,_]) (off:=0) (n:=8) hb3' (by simp)])
   have hb13:=hm3.at hb12 (fun e=>by omega)
   refine e_sta (cs:=[I 0,.slice none 0 0,I 0,I 0,I 0,I 0,I 0,.string ⟨#[]⟩]) rfl rfl hb13 rfl rfl (by simp [Value.oneCell']) ?_
   intro w4 hb4 hm4 _
   (try simp only [go_sem,simprocAttr,ln_of (cs:=[_,_,_,_,_,_,_,_]) (off:=0) (n:=8) hb4 (by simp)])
   refine ⟨_,by rw [hE];rfl,⟨fp,(ho.mod hm3 (fun c hc e=>?_)).mod hm4 (fun c hc e=>?_),fun c hc=>Nat.le_trans hs01 (hf c hc)⟩,(hm02.step hm3 (fun x hx hl=>by subst hx;omega)).step hm4 (fun x hx hl=>by subst hx;omega)⟩
   · subst e;exact own_kind ho hc hb2 (by decide)
   · subst e;have:=hf _ hc;omega
 · simp only [zb1,zb2,zb3,zb4,zb5] at hz
   rw [if_neg hz] at hE
   (try simp only [go_sem,simprocAttr,ln_of (cs:=[_,_,_,_,_,_,_,_]) (off:=0) (n:=8) hb2 (by simp)])
   refine e_sta (cs:=[I 0,.slice none 0 0,I 0,I 0,I 0,I 0,I 0,.string ⟨#[]⟩]) rfl rfl hb12 rfl rfl (by simp [Value.oneCell']) ?_
   intro w4 hb4 hm4 _
   (try simp only [go_sem,simprocAttr,ln_of (cs:=[_,_,_,_,_,_,_,_]) (off:=0) (n:=8) hb4 (by simp)])
   refine ⟨_,by rw [hE];rfl,⟨fp,ho.mod hm4 (fun c hc e=>?_),fun c hc=>Nat.le_trans hs01 (hf c hc)⟩,hm02.step hm4 (fun x hx hl=>by subst hx;omega)⟩
   subst e;have:=hf _ hc;omega
end
end
section
open Go Go.W
def numB (n:Int):Bool:=decide (n ≥ -4611686018427387904∧n≤4611686018427387903)
theorem f_num (w:World) (n:Int):CallsR Tryz.prog 31 [I n] w fun r w'=>r = .bool (numB n)∧w=w':=by
 refine fit31.calls rfl ?_
 unfold ir31 numB
 cases h1:decide (n ≥ -4611686018427387904)<;>(try simp only [go_sem,simprocAttr,h1])<;>(simp only [zb1,zb2,zb3,zb4,zb5] at h1;simp [h1])
theorem f_new1 (w:World) (n:Int):CallsR Tryz.prog 30 [I n] w fun r w'=>r = .bool (!numB n)∧w=w':=by
 refine fit30.calls rfl ?_
 unfold ir30
 (try simp only [go_sem,simprocAttr])
 refine e_call (by rfl) ?_
 refine (f_num w n).mono ?_
 rintro _ _ ⟨rfl,rfl⟩
 (try simp only [go_sem,simprocAttr])
theorem f_new2 (w:World) {b:Nat} {e:ByteArray} {T0:Nat} (hb:w.heap[b]? = some (.cells #[.string e] T0 (0,0))) (g:Gl) (a:Option Addr) (n c:Nat):CallsR Tryz.prog 34 [glV g (.slice a n c),ptr b] w fun r w'=>r = .bool (decide (g.name=e))∧Mod (fun _=>False) w w':=by
 refine fit34.calls rfl ?_
 unfold ir34 glV
 (try simp only [go_sem,simprocAttr])
 refine e_bx rfl ?_
 intro w1 hb1 hm1 _
 have hb':=hm1.at hb (fun h=>h)
 (try simp only [go_sem,simprocAttr,cell_of hb1,cell_of hb',Value.cells,ba_leq])
 exact hm1
def entryS (e:ByteArray):List Gl→Nat→Option Nat
 | [],_=>none
 | g::l,i=>if g.name=e then some i else entryS e l (i+1)
theorem entryS_at {e:ByteArray} {l:List Gl} {i:Nat} (h:i < l.length):entryS e (l.drop i) i=if l[i].name=e then some i else entryS e (l.drop (i+1)) (i+1):=by
 rw [List.drop_eq_getElem_cons h];rfl
theorem entryS_lt {e:ByteArray}:∀ (l:List Gl) (k:Nat) {j:Nat},entryS e l k=some j→k≤j∧j < k+l.length:=by
 intro l
 induction l with
 | nil=>intro k j h;cases h
 | cons g l ih=>
   intro k j h
   unfold entryS at h
   split at h
   · cases h;simp
   · have:=ih (k+1) h
     simp only [List.length_cons];omega
def entryI (e:ByteArray) (T:Tab):Int:=match entryS e T.globals 0 with
 | some j=>j
 | none => -1
theorem f_entry {w:World} {vsh vgl:Value} {T:Tab} {B:Nat→Prop} (h:TabAt w vsh vgl T B) (hT:TabFit T) {b:Nat} {e:ByteArray} {T0:Nat} (hb:w.heap[b]? = some (.cells #[.string e] T0 (0,0))) :
   CallsR Tryz.prog 33 [vgl,.func (.func 34) #[] #[ptr b]] w fun r w'=>r=I (entryI e T)∧Mod (fun _=>False) w w':=by
 have h0:=h
 obtain ⟨⟨aS,cS,rfl⟩,aG,cG,rfl⟩:=tab_sl h
 have hgn:=hT.gn
 refine fit33.calls rfl ?_
 unfold ir33
 (try simp only [go_sem,simprocAttr])
 refine ir_loop (fun z ρ w'=>∃ i:Nat,z=T.globals.length - i∧i≤T.globals.length∧Mod (fun _=>False) w w'∧entryS e T.globals 0=entryS e (T.globals.drop i) i ∧
   ρ=[(0,.slice aG T.globals.length cG),(1,.func (.func 34) #[] #[ptr b]),(7,I T.globals.length),(8,I i)]) T.globals.length ⟨0,rfl,by omega,Mod.refl _ _,rfl,rfl⟩ ?_
 rintro z ρ w2 ⟨i,rfl,hi,hm2,heq,rfl⟩
 unfold ir33L1
 (try simp only [go_sem,simprocAttr])
 refine ir_cond rfl (fun hlt=>?_) (fun hlt=>?_)
 · have hlt:i < T.globals.length:=by simpa using hlt
   have h2:=h.mod hm2 (fun _ _ h=>h) (fun _ h=>h)
   obtain ⟨ad,c,cv,e',hln,hcv⟩:=glob_ln h2 hlt
   cases e'
   have hat:=entryS_at (e:=e) hlt
   obtain ⟨acv,ccv,rfl⟩:=rows_sl hcv
   generalize T.globals[i]=g at *
   have b1':(0:Int)≤i∧(i:Int) < T.globals.length:=by omega
   have e1:IntKind.i64.wrap ((i:Int)+1)=((i+1:Nat):Int):=by rw [wrap_in (by omega) (by omega)];omega
   unfold glV at hln
   (try simp only [go_sem,simprocAttr,zb4,zb6,b1',hln])
   refine e_cv (f:=34) (cap:=#[ptr b]) rfl rfl rfl rfl rfl ?_
   refine (f_new2 w2 (hm2.at hb (fun h=>h)) g acv _ ccv).mono ?_
   rintro _ w3 ⟨rfl,hm3⟩
   have hm03:=hm2.trans hm3
   (try simp only [go_sem,simprocAttr])
   refine ir_cond rfl (fun hz=>?_) (fun hz=>?_)
   · simp only [zb1,zb2,zb3,zb4,zb5] at hz
     (try simp only [go_sem,simprocAttr])
     have:entryI e T=i:=by unfold entryI;rw [heq,hat,if_pos hz]
     rw [this]
     exact ⟨rfl,hm03⟩
   · simp only [zb1,zb2,zb3,zb4,zb5] at hz
     (try simp only [go_sem,simprocAttr,e1])
     exact ⟨_,by omega,i+1,rfl,by omega,hm03,by rw [heq,hat,if_neg hz],rfl⟩
 · have hlt:¬ i < T.globals.length:=by simpa using hlt
   obtain rfl:i=T.globals.length:=by omega
   (try simp only [go_sem,simprocAttr])
   have:entryI e T = -1:=by unfold entryI;rw [heq,List.drop_length];rfl
   rw [this]
   exact ⟨rfl,hm2⟩
def newY (gens:Bool) (heap:Int):Int:=if gens=true then (if heap.tdiv 8 > 1 then heap.tdiv 8 else 1) else heap
def newKd (gens:Bool) (heap:Int):Kd:=if gens=true then .gn (newY true heap) 0 0 else .hp 0
def setV (heap:Int) (gens:Bool) (every:Int):Value:=.agg #[I heap,.bool gens,I every]
theorem f_newStore (w:World) {heap:Int} (gens:Bool) (every:Int) (hh:1≤heap∧heap≤1048576) :
   CallsR Tryz.prog 35 [setV heap gens every] w fun r w'=>∃ sv F,r = .tuple #[sv,I (newY gens heap),I 0]∧StAt w' sv ⟨newKd gens heap,heap,[]⟩ F∧Mod (fun _=>False) w w'∧∀ b,F b→w.heap.size≤b:=by
 refine fit35.calls rfl ?_
 unfold ir35 setV
 (try simp only [go_sem,simprocAttr])
 refine e_bx rfl ?_
 intro w1 hb1 hm1 _
 have s1:=hm1.size
 cases gens with
 | true=>
   have e1:IntKind.i64.wrap (heap.tdiv 8)=heap.tdiv 8:=by
     have:=Int.tdiv_nonneg (a:=heap) (b:=8) (by omega) (by omega)
     have:heap.tdiv 8≤heap:=by rw [Int.tdiv_eq_ediv_of_nonneg (by omega)];omega
     exact wrap_in (by omega) (by omega)
   have hy:newY true heap=if heap.tdiv 8 > 1 then heap.tdiv 8 else 1:=rfl
   have hyb:1≤newY true heap∧newY true heap≤heap:=by
     rw [hy]
     have:heap.tdiv 8≤heap:=by rw [Int.tdiv_eq_ediv_of_nonneg (by omega)];omega
     split<;>omega
   (try simp only [go_sem,simprocAttr,cell_of hb1,Value.cells,show ((8:Int)=0)=False from eq_false (by decide),e1,← hy])
   refine e_call (by rfl) ?_
   refine (gnew_ok heap (newY true heap) w1).mono ?_
   rintro r w2 ⟨k1,_⟩
   obtain ⟨a,F,rfl,hG,hm2,hF⟩:=k1 ⟨by omega,by omega,hyb.1,hyb.2⟩
   (try simp only [go_sem,simprocAttr])
   refine ⟨_,F,rfl,⟨a,rfl,hG⟩,hm1.trans hm2,fun b hb=>Nat.le_trans s1 (hF b hb)⟩
 | false=>
   (try simp only [go_sem,simprocAttr,cell_of hb1,Value.cells])
   refine e_call (by rfl) ?_
   refine (new_ok heap w1).mono ?_
   rintro r w2 ⟨k1,_⟩
   obtain ⟨rfl,hA,hm2,_⟩:=k1 ⟨by omega,by omega⟩
   have hb12:=hm2.at hb1 (fun h=>h)
   (try simp only [go_sem,simprocAttr,cell_of hb12,Value.cells])
   refine ⟨_,(· = w1.heap.size),rfl,⟨_,rfl,hA.mod (Mod.refl (fun _=>False) w2).drew (fun _ _ h=>h)⟩,(hm1.trans hm2).drew,fun b hb=>by subst hb;exact s1⟩
theorem flat_rows {sz:Nat}:∀ (rows:List (List Value)),(∀ r∈rows,r.length=sz)→∀ (i:Nat) (h:i < rows.length) (k:Nat),k < sz→(rows.flatMap id)[i*sz+k]? = (rows[i]'h)[k]?:=by
 intro rows
 induction rows with
 | nil=>intro _ i h;simp at h
 | cons r rows ih=>
   intro hr i h k hk
   have h0:=hr r (by simp)
   simp only [List.flatMap_cons,id]
   cases i with
   | zero=>rw [List.getElem?_append_left (by omega)];simp
   | succ i=>
     rw [List.getElem?_append_right (by rw [h0,Nat.add_mul];omega),h0]
     have e:(i+1)*sz+k - sz=i*sz+k:=by rw [Nat.add_mul];omega
     rw [e]
     exact ih (fun r hr'=>hr r (by simp [hr'])) i (by simpa using h) k hk
theorem own_rows {w:World} {T sz:Nat} {v:Value} {rows:List (List Value)} {fp:Option Nat} (h:OwnS w T sz v (rows.flatMap id) rows.length fp) (hr:∀ r∈rows,r.length=sz):RowsAt w v sz rows (fun b=>fp=some b):=by
 obtain ⟨h1,⟨rfl,h2,rfl⟩ | ⟨b,c,sp,rfl,rfl,h3,_⟩⟩:=h
 · refine ⟨none,0,by rw [h2],(fun _ ad e=>by cases e),fun i hi=>?_⟩
   omega
 · refine ⟨some ⟨b,0,none⟩,c,rfl,(fun _ ad e=>by cases e;rfl),fun i hi=>⟨_,rfl,hr _ (List.getElem_mem hi),fun k hk=>?_⟩⟩
   have hl:=hr _ (List.getElem_mem hi)
   have hf:=flat_rows rows hr i hi k (by omega)
   rw [List.getElem?_eq_getElem hk] at hf
   have hlt:i*sz+k < (rows.flatMap id).length:=(List.getElem?_eq_some_iff.1 hf).1
   rw [add_at,add_at,cell_of h3]
   simp only [Nat.zero_add,List.getElem?_toArray]
   rw [List.getElem?_append_left hlt]
   exact hf
theorem f_rows (w:World):CallsR Tryz.prog 38 [] w fun r w'=>∃ b,(w.heap.size≤b∧b < w'.heap.size)∧RowsAt w' r 2 rowsV (· = b)∧Mod (fun _=>False) w w':=by
 refine fit38.calls rfl ?_
 unfold ir38
 (try simp only [go_sem,simprocAttr])
 refine e_bs (by rfl) (by rfl) ?_
 intro w1 hb1 hm1 _
 (try simp only [go_sem,simprocAttr])
 have hb1':w1.heap[w.heap.size]? = some (.cells (rowsV.flatMap id).toArray 134 (0,0)):=hb1
 have ho:OwnS w1 134 2 (.slice (some ⟨w.heap.size,0,none⟩) 18 18) (rowsV.flatMap id) rowsV.length (some w.heap.size):=OwnS.of_block (xs:=rowsV.flatMap id) hb1' rfl
 have h2:∀ r∈rowsV,r.length=2:=by
   intro r hr
   simp only [rowsV,List.mem_cons,List.not_mem_nil,or_false] at hr
   rcases hr with rfl | rfl | rfl | rfl | rfl | rfl | rfl | rfl | rfl | rfl | rfl | rfl | rfl | rfl | rfl | rfl | rfl | rfl<;>rfl
 obtain ⟨a,c,e,hB,hx⟩:=own_rows ho h2
 exact ⟨w.heap.size,⟨Nat.le_refl _,lt_of_heap hb1'⟩,⟨a,c,e,(fun h0 ad had=>(Option.some.inj (hB h0 ad had)).symm),hx⟩,hm1⟩
end
section
open Go Go.W Go.ChangeShapes Go.WideShapes Go.ChangeAt Go.RowKit Go.Deep
theorem Tryz.cells25:Tryz.prog.cellsOf 25=2:=by kernel_rfl
theorem Tryz.cells28:Tryz.prog.cellsOf 28=3:=by kernel_rfl
theorem Tryz.cells22:Tryz.prog.cellsOf 22=1:=by kernel_rfl
theorem Tryz.cells23:Tryz.prog.cellsOf 23=1:=by kernel_rfl
theorem Tryz.cells67:Tryz.prog.cellsOf 67=1:=by kernel_rfl
theorem Tryz.cells89:Tryz.prog.cellsOf 89=2:=by kernel_rfl
theorem Tryz.cells70:Tryz.prog.cellsOf 70=3:=by kernel_rfl
theorem Tryz.cells66:Tryz.prog.cellsOf 66=3:=by kernel_rfl
theorem Tryz.cells9:Tryz.prog.cellsOf 9=1:=by kernel_rfl
theorem Tryz.cells3:Tryz.prog.cellsOf 3=1:=by kernel_rfl
theorem Tryz.cells4:Tryz.prog.cellsOf 4=1:=by kernel_rfl
theorem Tryz.bytes89:Tryz.prog.bytesOf 89=24:=by kernel_rfl
theorem Tryz.bytes70:Tryz.prog.bytesOf 70=48:=by kernel_rfl
theorem Tryz.bytes66:Tryz.prog.bytesOf 66=24:=by kernel_rfl
theorem Tryz.bytes3:Tryz.prog.bytesOf 3=8:=by kernel_rfl
theorem Tryz.own:ownKnob Tryz.prog.godebug=none:=by kernel_rfl
theorem Tryz.laidOut:laidOutB Tryz.prog=true:=by kernel_rfl
theorem all_app {p:Nat→Bool} {l m:List Nat} (h:(l++m).all p=true):l.all p=true∧m.all p=true:=by
 simpa using h
section
variable {H:Type} {enc:TypeId×Value→H} {P:Program}
theorem cell_lt {w:World} {a:Addr} {v:Value} (h:w.cell? a=some v):a.block < w.heap.size:=by
 unfold World.cell? at h
 cases hb:w.heap[a.block]? with
 | none=>rw [hb] at h;cases h
 | some o=>exact lt_of_heap hb
theorem open_rows {α:Type} [Inhabited α] {t e:TypeId} {k bytes n:Nat} (cellsA:α→List Value) (okA:α→Prop) (μ:α→Nat) {w:World} {base:Nat} {held:Bool} {cs:List Value} {x:DataW H×List MemPlace}
   (ht:P.underlying t=some (.slice e)) (hk:P.cellsOf e=k) (hby:P.bytesOf e=bytes) (hlen:∀ a,(cellsA a).length=k) (hk0:0 < k)
   (each:∀ n cs y,DataW.trod enc P w base (fun _=>true) held n e cs=some y→(y.1.weights P e).all (·≤reachBytes)=true→∃ o,cs=cellsA o∧okA o∧μ o≤Rows.uptoBulk y.1)
   (h:DataW.trod enc P w base (fun _=>true) held n t cs=some x) (hw:(x.1.weights P t).all (·≤reachBytes)=true) :
   ∃ (v:Value) (os:List α),cs=[v]∧RowsAt w v k (os.map cellsA) (· < w.heap.size)∧(∀ o∈os,okA o)∧os.length*bytes≤reachBytes∧(os.map μ).sum+1≤Rows.uptoBulk x.1:=by
 rcases open_slice ht h with ⟨rfl,rfl⟩ | ⟨a,len,cap,m,k',D,Pl,rfl,_,hl,_,hm,rfl,hel⟩
 · exact ⟨_,[],rfl,⟨none,0,rfl,(fun _ ad e=>by cases e),fun i hi=>absurd hi (by simp)⟩,(fun o ho=>by cases ho),by simp,by simp [Rows.uptoBulk]⟩
 · simp only [if_true] at hm
   subst hm
   simp only [DataW.weights,ht,hby,List.length_map,List.length_range,List.all_cons,Bool.and_eq_true,decide_eq_true_eq] at hw
   obtain ⟨hw1,hw2⟩:=hw
   obtain ⟨hw2,_⟩:=all_app hw2
   have all:∀ i,i < len→∃ o:α,(∀ j,j < k→w.cell? ((a.add (i*k)).add j)=(cellsA o)[j]?)∧okA o∧μ o≤Rows.uptoBulk (D i):=by
     intro i hi
     obtain ⟨cs,h3,h4⟩:=hel i (by omega)
     have hwi:((D i).weights P e).all (·≤reachBytes)=true:=by
       have key:∀ (l:List (DataW H)) d,d∈l→(DataW.weightsAll P e l).all (·≤reachBytes)=true→(d.weights P e).all (·≤reachBytes)=true:=by
         intro l
         induction l with
         | nil=>intro d hd;cases hd
         | cons y l ih=>
           intro d hd hh
           rw [DataW.weightsAll] at hh
           obtain ⟨z1,z2⟩:=all_app hh
           rcases List.mem_cons.1 hd with rfl | hd
           · exact z1
           · exact ih d hd z2
       exact key _ _ (List.mem_map.2 ⟨i,List.mem_range.2 hi,rfl⟩) hw2
     obtain ⟨o,rfl,ho,hμ⟩:=each _ _ _ h4 hwi
     obtain ⟨_,_,h5⟩:=World.cells?_some h3
     rw [hk] at h5
     exact ⟨o,fun j hj=>h5 j hj,ho,hμ⟩
   obtain ⟨f,hf⟩:=choose_lt (α:=α) (h:=all)
   refine ⟨_,(List.range len).map f,rfl,⟨some a,m,by simp,fun h0 ad e=>?_,?_⟩,?_,by simpa using Nat.le_trans (Nat.mul_le_mul_right _ (by omega)) hw1,?_⟩
   · cases e
     have h0':0 < len:=by simpa using h0
     have hc:=(hf 0 h0').1 0 hk0
     have e1:(cellsA (f 0))[0]? = some ((cellsA (f 0))[0]'(by rw [hlen];exact hk0)):=List.getElem?_eq_getElem _
     rw [e1] at hc
     simp only [Nat.zero_mul,add_zero'] at hc
     exact cell_lt hc
   · intro i hi
     have hi':i < len:=by simpa using hi
     refine ⟨a,rfl,by simp [hlen],fun j hj=>?_⟩
     have:=(hf i hi').1 j (by simpa [hlen] using hj)
     rw [this]
     simp only [List.getElem_map,List.getElem_range]
     exact List.getElem?_eq_getElem _
   · intro o ho
     obtain ⟨i,hi,rfl⟩:=List.mem_map.1 ho
     exact (hf i (List.mem_range.1 hi)).2.1
   · have key:∀ l:List Nat,(∀ i∈l,i < len)→((l.map f).map μ).sum≤Rows.uptoBulkAll (l.map D):=by
       intro l
       induction l with
       | nil=>intro _;simp [Rows.uptoBulkAll]
       | cons i l ih=>
         intro hl
         have h1:=(hf i (hl i (by simp))).2.2
         have h2:=ih (fun j hj=>hl j (by simp [hj]))
         simp only [List.map_cons,List.sum_cons,Rows.uptoBulkAll]
         omega
     have:=key (List.range len) (fun i hi=>List.mem_range.1 hi)
     show _+1≤Rows.uptoBulkAll _+Rows.uptoBulkAll _+1
     omega
instance:Inhabited Ins:=⟨⟨0,0,0⟩⟩
instance:Inhabited Shp:=⟨⟨⟨#[]⟩,0⟩⟩
structure GlIn where
 g:Gl
 v:Value
instance:Inhabited GlIn:=⟨⟨⟨⟨#[]⟩,0,[]⟩,.slice none 0 0⟩⟩
def GlIn.row (o:GlIn):List Value:=[.string o.g.name,I o.g.arity,o.v]
theorem reach_is:reachBytes=140737488351232:=by decide
theorem int_hi {n:Int} (h:(Lit.int .i64 n).wf=true):n≤9223372036854775807:=by
 have e:IntKind.max .i64=9223372036854775807:=by decide
 simp only [Lit.wf,Bool.and_eq_true,decide_eq_true_eq] at h
 rw [e] at h
 exact h.2
variable {w:World} {base:Nat} {held:Bool}
theorem ins_in (n:Nat) (cs:List Value) (y:DataW H×List MemPlace) (h:DataW.trod enc Tryz.prog w base (fun _=>true) held n 66 cs=some y) (hw:(y.1.weights Tryz.prog 66).all (·≤reachBytes)=true) :
   ∃ x:Ins,cs=insRow x∧x.a≤9223372036854775807∧1≤Rows.uptoBulk y.1:=by
 obtain ⟨xs,m,rfl,rfl,hl,hxs,hf⟩:=DataW.trod_struct Tryz.underlying66 h
 rw [Tryz.cells66] at hl
 match cs,hl,xs,hxs with
 | [c0,c1,c2],_,[x0,x1,x2],_=>
 have f0:=hf 0 _ rfl
 have f1:=hf 1 _ rfl
 have f2:=hf 2 _ rfl
 simp only [Tryz.cells3,List.drop_zero,List.drop_succ_cons,List.take_succ_cons,List.take_zero,List.getElem?_cons_zero,List.getElem?_cons_succ] at f0 f1 f2
 obtain ⟨i0,e0,rfl,_⟩:=DataW.trod_int Tryz.underlying3 f0
 obtain ⟨i1,e1,rfl,w1⟩:=DataW.trod_int Tryz.underlying3 f1
 obtain ⟨i2,e2,rfl,_⟩:=DataW.trod_int Tryz.underlying3 f2
 cases e0;cases e1;cases e2
 exact ⟨⟨i0,i1,i2⟩,rfl,int_hi w1,Nat.le_add_left 1 _⟩
theorem str_in {n:Nat} {c:Value} {y:DataW H×List MemPlace} (h:DataW.trod enc Tryz.prog w base (fun _=>true) held n 9 [c]=some y) (hw:(y.1.weights Tryz.prog 9).all (·≤reachBytes)=true) :
   ∃ s:ByteArray,c = .string s∧s.size≤140737488351232∧s.size+1=Rows.uptoBulk y.1:=by
 obtain ⟨s,e,rfl,_⟩:=DataW.trod_string Tryz.underlying9 h
 cases e
 have h1:s.data.toList.length=s.size:=Array.length_toList
 refine ⟨s,rfl,?_,by simp only [Rows.uptoBulk];omega⟩
 simp only [DataW.weights,List.all_cons,Bool.and_eq_true,decide_eq_true_eq,reach_is] at hw
 omega
theorem shp_in (n:Nat) (cs:List Value) (y:DataW H×List MemPlace) (h:DataW.trod enc Tryz.prog w base (fun _=>true) held n 89 cs=some y) (hw:(y.1.weights Tryz.prog 89).all (·≤reachBytes)=true) :
   ∃ x:Shp,cs=shRow x∧x.name.size≤140737488351232∧x.name.size+1≤Rows.uptoBulk y.1:=by
 obtain ⟨xs,m,rfl,rfl,hl,hxs,hf⟩:=DataW.trod_struct Tryz.underlying89 h
 rw [Tryz.cells89] at hl
 match cs,hl,xs,hxs with
 | [c0,c1],_,[x0,x1],_=>
 have f0:=hf 0 _ rfl
 have f1:=hf 1 _ rfl
 simp only [Tryz.cells3,Tryz.cells9,List.drop_zero,List.drop_succ_cons,List.take_succ_cons,List.take_zero,List.getElem?_cons_zero,List.getElem?_cons_succ] at f0 f1
 simp only [DataW.weights,Tryz.underlying89,List.map_cons,List.map_nil,DataW.weightsEach] at hw
 obtain ⟨hw0,_⟩:=all_app hw
 obtain ⟨s,rfl,hs,hb⟩:=str_in f0 hw0
 obtain ⟨i1,e1,rfl,_⟩:=DataW.trod_int Tryz.underlying3 f1
 cases e1
 refine ⟨⟨s,i1⟩,rfl,hs,?_⟩
 simp only [Rows.uptoBulk,Rows.uptoBulkAll,List.map_cons,List.map_nil,← hb]
 omega
theorem gl_in (n:Nat) (cs:List Value) (y:DataW H×List MemPlace) (h:DataW.trod enc Tryz.prog w base (fun _=>true) held n 70 cs=some y) (hw:(y.1.weights Tryz.prog 70).all (·≤reachBytes)=true) :
   ∃ x:GlIn,cs=x.row∧(RowsAt w x.v 3 (x.g.code.map insRow) (· < w.heap.size)∧(∀ i∈x.g.code,i.a≤9223372036854775807)∧x.g.name.size≤140737488351232∧x.g.code.length≤17592186044416)∧x.g.name.size+x.g.code.length+1≤Rows.uptoBulk y.1:=by
 obtain ⟨xs,m,rfl,rfl,hl,hxs,hf⟩:=DataW.trod_struct Tryz.underlying70 h
 rw [Tryz.cells70] at hl
 match cs,hl,xs,hxs with
 | [c0,c1,c2],_,[x0,x1,x2],_=>
 have f0:=hf 0 _ rfl
 have f1:=hf 1 _ rfl
 have f2:=hf 2 _ rfl
 simp only [Tryz.cells3,Tryz.cells9,Tryz.cells67,List.drop_zero,List.drop_succ_cons,List.take_succ_cons,List.take_zero,List.getElem?_cons_zero,List.getElem?_cons_succ] at f0 f1 f2
 simp only [DataW.weights,Tryz.underlying70,List.map_cons,List.map_nil,DataW.weightsEach] at hw
 obtain ⟨hw0,hw⟩:=all_app hw
 obtain ⟨_,hw⟩:=all_app hw
 obtain ⟨hw2,_⟩:=all_app hw
 obtain ⟨s,rfl,hs,hb⟩:=str_in f0 hw0
 obtain ⟨i1,e1,rfl,_⟩:=DataW.trod_int Tryz.underlying3 f1
 obtain ⟨v,os,e2,hr,ho,hlen,hμ⟩:=open_rows insRow (fun x=>x.a≤9223372036854775807) (fun _=>1) Tryz.underlying67 Tryz.cells66 Tryz.bytes66 (fun _=>rfl) (by decide) (ins_in (H:=H)) f2 hw2
 cases e1;cases e2
 rw [reach_is] at hlen
 have h1:(os.map fun _=>1).sum=os.length:=by
   clear hμ hlen ho hr
   induction os with
   | nil=>rfl
   | cons a l ih=>simp only [List.map_cons,List.sum_cons,List.length_cons,ih];omega
 rw [h1] at hμ
 refine ⟨⟨⟨s,i1,os⟩,c2⟩,rfl,⟨hr,ho,hs,by show os.length≤_;omega⟩,?_⟩
 show s.size+os.length+1≤_
 simp only [Rows.uptoBulk,Rows.uptoBulkAll,List.map_cons,List.map_nil,← hb]
 omega
def Tab.bulk (T:Tab):Nat:=(T.shapes.map fun s=>s.name.size+1).sum+(T.globals.map fun g=>g.name.size+g.code.length+1).sum
theorem tab_in {n:Nat} {cs:List Value} {y:DataW H×List MemPlace} (h:DataW.trod enc Tryz.prog w base (fun _=>true) held n 25 cs=some y) (hw:(y.1.weights Tryz.prog 25).all (·≤reachBytes)=true) :
   ∃ vsh vgl T,cs=[vsh,vgl]∧TabAt w vsh vgl T (· < w.heap.size)∧TabFit T∧T.bulk≤Rows.uptoBulk y.1:=by
 obtain ⟨xs,m,rfl,rfl,hl,hxs,hf⟩:=DataW.trod_struct Tryz.underlying25 h
 rw [Tryz.cells25] at hl
 match cs,hl,xs,hxs with
 | [c0,c1],_,[x0,x1],_=>
 have f0:=hf 0 _ rfl
 have f1:=hf 1 _ rfl
 simp only [Tryz.cells22,Tryz.cells23,List.drop_zero,List.drop_succ_cons,List.take_succ_cons,List.take_zero,List.getElem?_cons_zero,List.getElem?_cons_succ] at f0 f1
 simp only [DataW.weights,Tryz.underlying25,List.map_cons,List.map_nil,DataW.weightsEach] at hw
 obtain ⟨hw0,hw⟩:=all_app hw
 obtain ⟨hw1,_⟩:=all_app hw
 obtain ⟨v0,ss,e0,hr0,ho0,hlen0,hμ0⟩:=open_rows shRow (fun x=>x.name.size≤140737488351232) (fun x=>x.name.size+1) Tryz.underlying22 Tryz.cells89 Tryz.bytes89 (fun _=>rfl) (by decide) (shp_in (H:=H)) f0 hw0
 obtain ⟨v1,gs,e1,hr1,ho1,hlen1,hμ1⟩:=open_rows GlIn.row (fun x=>RowsAt w x.v 3 (x.g.code.map insRow) (· < w.heap.size)∧(∀ i∈x.g.code,i.a≤9223372036854775807)∧x.g.name.size≤140737488351232∧x.g.code.length≤17592186044416) (fun x=>x.g.name.size+x.g.code.length+1) Tryz.underlying23 Tryz.cells70 Tryz.bytes70 (fun _=>rfl) (by decide) (gl_in (H:=H)) f1 hw1
 cases e0;cases e1
 rw [reach_is] at hlen0 hlen1
 have hz:∀ l:List GlIn,List.zipWith (fun (g:Gl) (v:Value)=>[.string g.name,I g.arity,v]) (l.map (·.g)) (l.map (·.v))=l.map GlIn.row:=by
   intro l
   induction l with
   | nil=>rfl
   | cons a l ih=>simp only [List.map_cons,List.zipWith_cons_cons,ih];rfl
 refine ⟨c0,c1,⟨ss,gs.map (·.g)⟩,rfl,⟨hr0,gs.map (·.v),by simp,?_,?_⟩,⟨by simp;omega,by show ss.length≤_;omega,?_,?_,?_,?_⟩,?_⟩
 · rw [hz];exact hr1
 · intro i g v hg hv
   rw [List.getElem?_map] at hg hv
   cases ho:gs[i]? with
   | none=>rw [ho] at hg;cases hg
   | some o=>
     rw [ho] at hg hv
     cases hg;cases hv
     exact (ho1 o (List.mem_of_getElem? ho)).1
 · intro g hg
   obtain ⟨o,ho,rfl⟩:=List.mem_map.1 hg
   exact (ho1 o ho).2.2.2
 · intro g hg
   obtain ⟨o,ho,rfl⟩:=List.mem_map.1 hg
   have:=(ho1 o ho).2.2.1
   omega
 · intro s hs
   have:=ho0 s hs
   omega
 · intro g hg
   obtain ⟨o,ho,rfl⟩:=List.mem_map.1 hg
   exact (ho1 o ho).2.1
 · simp only [Rows.uptoBulk,Rows.uptoBulkAll,List.map_cons,List.map_nil,Tab.bulk,List.map_map]
   have e:(gs.map ((fun g:Gl=>g.name.size+g.code.length+1) ∘ fun x=>x.g)).sum=(gs.map fun x=>x.g.name.size+x.g.code.length+1).sum:=rfl
   rw [e]
   omega
theorem set_in {n:Nat} {cs:List Value} {y:DataW H×List MemPlace} (h:DataW.trod enc Tryz.prog w base (fun _=>true) held n 28 cs=some y):∃ heap gens every,cs=[I heap,.bool gens,I every]:=by
 obtain ⟨xs,m,rfl,rfl,hl,hxs,hf⟩:=DataW.trod_struct Tryz.underlying28 h
 rw [Tryz.cells28] at hl
 match cs,hl,xs,hxs with
 | [c0,c1,c2],_,[x0,x1,x2],_=>
 have f0:=hf 0 _ rfl
 have f1:=hf 1 _ rfl
 have f2:=hf 2 _ rfl
 simp only [Tryz.cells3,Tryz.cells4,List.drop_zero,List.drop_succ_cons,List.take_succ_cons,List.take_zero,List.getElem?_cons_zero,List.getElem?_cons_succ] at f0 f1 f2
 obtain ⟨i0,e0,rfl,_⟩:=DataW.trod_int Tryz.underlying3 f0
 obtain ⟨i1,e1,rfl⟩:=DataW.trod_bool Tryz.underlying4 f1
 obtain ⟨i2,e2,rfl,_⟩:=DataW.trod_int Tryz.underlying3 f2
 cases e0;cases e1;cases e2
 exact ⟨i0,i1,i2,rfl⟩
end
end
section
open Go Go.W Go.ChangeShapes Go.WideShapes Go.ChangeAt Go.RowKit Go.Deep
section
variable {H:Type} {enc:TypeId×Value→H} {w:World} {ts:List TypeId} {args:List Value} {ds:List (DataW H)}
theorem lawIn_cons {P:Program} {t:TypeId} (h:LawIn enc P (t::ts) w args ds):∃ v args' d ds' base p,args=v::args'∧ds=d::ds'∧LawIn enc P ts w args' ds'∧Value.okWide P w .any base t v∧DataW.Trod enc P w 0 (fun _=>true) true t v d p∧(d.weights P t).all (·≤reachBytes)=true:=by
 obtain ⟨⟨base,hval⟩,⟨ps,hA⟩,hsz⟩:=h
 obtain ⟨v,vs,d,ds',p,q,rfl,rfl,rfl,hd,hrest⟩:=trodAll_cons hA
 rw [DataW.weightsEach] at hsz
 obtain ⟨h1,h2⟩:=all_app hsz
 exact ⟨v,vs,d,ds',base,p,rfl,rfl,⟨⟨base,fun j t' v' ht hv=>hval (j+1) t' v' ht hv⟩,⟨q,hrest⟩,h2⟩,hval 0 t v rfl rfl,hd,h1⟩
theorem lawIn_nil {P:Program} (h:LawIn enc P [] w args ds):args=[]∧ds=[]:=by
 obtain ⟨_,⟨ps,hA⟩,_⟩:=h
 obtain ⟨rfl,rfl,_⟩:=trodAll_nil hA
 exact ⟨rfl,rfl⟩
theorem in_int (h:LawIn enc Tryz.prog (3::ts) w args ds):∃ n args' d ds',args=I n::args'∧ds=d::ds'∧LawIn enc Tryz.prog ts w args' ds':=by
 obtain ⟨v,args',d,ds',base,p,rfl,rfl,h',hval,hd,_⟩:=lawIn_cons h
 obtain ⟨n,rfl,_⟩:=open_int Tryz.underlying3 hval hd
 exact ⟨n,args',d,ds',rfl,rfl,h'⟩
theorem in_tab (h:LawIn enc Tryz.prog (25::ts) w args ds):∃ vsh vgl T args' d ds',args=tabV vsh vgl::args'∧ds=d::ds'∧TabAt w vsh vgl T (· < w.heap.size)∧TabFit T∧T.bulk≤Rows.uptoBulk d∧LawIn enc Tryz.prog ts w args' ds':=by
 obtain ⟨v,args',d,ds',base,p,rfl,rfl,h',hval,hd,hw⟩:=lawIn_cons h
 obtain ⟨cs,rfl,_⟩:=okWide_struct Tryz.underlying25 hval
 obtain ⟨fuel,hf⟩:=hd
 obtain ⟨vsh,vgl,T,e,h1,h2,h3⟩:=tab_in (y:=(d,p)) (by simpa [Value.cells] using hf) hw
 have e':cs = #[vsh,vgl]:=Array.ext' e
 subst e'
 exact ⟨vsh,vgl,T,args',d,ds',rfl,rfl,h1,h2,h3,h'⟩
theorem in_set (h:LawIn enc Tryz.prog (28::ts) w args ds):∃ heap gens every args' d ds',args=setV heap gens every::args'∧ds=d::ds'∧LawIn enc Tryz.prog ts w args' ds':=by
 obtain ⟨v,args',d,ds',base,p,rfl,rfl,h',hval,hd,hw⟩:=lawIn_cons h
 obtain ⟨cs,rfl,_⟩:=okWide_struct Tryz.underlying28 hval
 obtain ⟨fuel,hf⟩:=hd
 obtain ⟨heap,gens,every,e⟩:=set_in (y:=(d,p)) (by simpa [Value.cells] using hf)
 have e':cs = #[I heap,.bool gens,I every]:=Array.ext' e
 subst e'
 exact ⟨heap,gens,every,args',d,ds',rfl,rfl,h'⟩
theorem in_str (h:LawIn enc Tryz.prog (9::ts) w args ds):∃ (s:ByteArray) (args':List Value) (d:DataW H) (ds':List (DataW H)),args = .string s::args'∧ds=d::ds'∧s.size≤140737488351232∧s.size+1=Rows.uptoBulk d∧LawIn enc Tryz.prog ts w args' ds':=by
 obtain ⟨v,args',d,ds',base,p,rfl,rfl,h',hval,hd,hw⟩:=lawIn_cons h
 obtain ⟨s,rfl⟩:=okWide_string Tryz.underlying9 hval
 obtain ⟨fuel,hf⟩:=hd
 obtain ⟨s',e,h1,h2⟩:=str_in (y:=(d,p)) (by simpa [Value.cells] using hf) hw
 cases e
 exact ⟨s,args',d,ds',rfl,rfl,h1,h2,h'⟩
theorem in_ints (h:LawIn enc Tryz.prog (26::ts) w args ds):∃ v input args' d ds',args=v::args'∧ds=d::ds'∧Ints w v input∧input.length+5≤17592186044416∧LawIn enc Tryz.prog ts w args' ds':=by
 obtain ⟨v,args',d,ds',base,p,rfl,rfl,h',hval,hd,hw⟩:=lawIn_cons h
 obtain ⟨a0,len,cap,rfl⟩:=okWide_slice Tryz.underlying26 hval
 obtain ⟨fuel,hf⟩:=hd
 obtain ⟨c,xs,e,h1,h2⟩:=tr_ints (x:=(d,p)) Tryz.underlying26 Tryz.underlying3 Tryz.cells3 Tryz.bytes3 (by simpa [Value.cells] using hf) hw
 cases e
 exact ⟨_,xs,args',d,ds',rfl,rfl,h1,h2,h'⟩
end
end
section
open Go Go.W
theorem fr_both {w w3:World} {τ τ':Tag} {i k:Nat} {f f':Fr} {vs vp vs' vp':Value} {fs fp fs':Option Nat} (h:FrIn w τ i k f vs vp fs fp) (hs:OwnS w3 3 1 vs' (f'.stack.map I) f'.stack.length fs') (hsp:OwnS w3 3 1 vp' (f'.spine.map I) f'.spine.length fp)
   (hb:w3.heap[k]? = some (.cells (frCells f' vs' vp').toArray 106 (0,0))) (hw:τ.wx τ' w) (ht:τ'.is fs' (.fs i)):FrAt w3 τ' i k f':=by
 obtain ⟨l1,l2,l3⟩:=h.lt
 exact ⟨vs',vp',fs',fp,hb,(hw k l1 (by rw [h.tk];simp)).trans h.tk,hs,ht,hsp,is_ext h.tp hw l3 (by simp)⟩
section
variable {w:World} {τ:Tag} {m:Nat} {S:SV} {M:Mc} {ks:List Nat} {k:Nat} {x:Ins} {n:Int}
theorem x_call (hT:TopAt w τ m S M ks k) (hM:MOk n M) (he:M.ended=0) (h4:(M.st.nd M.top.stands).kind=4) (href:M.st.kd≠.ref) (hsp:M.top.spine.length≤4294967295)
   (har:(M.top.spine.length:Int)≥(M.tab.gl (M.st.nd M.top.stands).num).arity) :
   CallsR Tryz.prog 98 [ptr m,ptr k,I (M.st.ov M.top.stands),I (M.st.nd M.top.stands).num] w fun _ w'=>MOp w τ m S (M.call M.top (M.st.nd M.top.stands).num) ks w':=by
 have hG:=hM.topG hT.pos
 have hmk:=hM.g.nd hG.sd
 have hgl:=hmk.2.2.1 h4
 have hg0:=((may_kind hmk.1).2.2.2.1 h4).2
 generalize hnum:(M.st.nd M.top.stands).num=num at *
 obtain ⟨g,rfl⟩:∃ g:Nat,num=g:=⟨num.toNat,by omega⟩
 have hgok:=hM.tab.gls _ (gl_mem (c:=(g:Int)) (by omega))
 obtain ⟨ar,har'⟩:∃ ar:Nat,(M.tab.gl g).arity=ar:=⟨(M.tab.gl g).arity.toNat,by omega⟩
 rw [har'] at har hgok
 obtain ⟨vG,vF,vW,vT,fg,ff,fw,ft,F,hh⟩:=hT.at'
 obtain ⟨vs,vp,fs,fp,hF⟩:=hT.fr
 have hc:=hh.cells
 have hcf:=hF.cells
 obtain ⟨ad,c,cv,hvgl,B1,_,hari,hcv,hrows⟩:=glob_at hh.tab (i:=g) (by omega)
 rw [har'] at hari
 have hari:w.cell? ⟨(ad.add (g*3)).block,(ad.add (g*3)).off+1,none⟩=some (I ar):=hari
 have b1:(0:Int)≤g∧(g:Int) < M.tab.globals.length:=by omega
 obtain ⟨d,hd⟩:∃ d:Nat,d+ar=M.top.spine.length:=⟨M.top.spine.length - ar,by omega⟩
 obtain ⟨aP,cP,rfl,hcP,_⟩:=hF.spine.val
 have e1:IntKind.i64.wrap ((M.top.spine.length:Int) - ar)=d:=by rw [wrap_in (by omega) (by omega)];omega
 have b2:(0:Int)≤d∧(d:Int)≤M.top.spine.length:=by omega
 refine fit98.calls rfl ?_
 unfold ir98
 (try simp only [go_sem,simprocAttr,zb4,zb6,cell_of hc,ptr,mcCells,hvgl,b1,hari,cell_of hcf,frCells,e1,b2])
 have hlen:M.top.spine.length - d=ar:=by omega
 generalize haO:(if cP=d then aP else Option.map (fun x=>x.add d) aP)=aO
 obtain ⟨O,hO⟩:∃ O:List Int,O=M.top.own ar:=⟨_,rfl⟩
 have hO':O=M.top.spine.drop d:=by rw [hO];unfold Fr.own;rw [Int.toNat_natCast,show M.top.spine.length - ar=d by omega]
 have hOl:O.length=ar:=by rw [hO',List.length_drop];omega
 have hOin:∀ s∈O,M.st.In s:=fun s hs=>hG.sp s (by rw [hO'] at hs;exact List.mem_of_mem_drop hs)
 have hOg:∀ i,i < ar→∃ bP,aO=some ⟨bP,d,none⟩∧fp=some bP∧w.cell? ⟨bP,d+i,none⟩=some (I (O.getD i 0))∧O.getD i 0∈O:=by
   intro i hi
   obtain ⟨bP,rfl,hfp,hcell⟩:=own_cell hF.spine (i:=d+i) (by omega)
   refine ⟨bP,?_,hfp,?_,getD_mem (by omega)⟩
   · rw [← haO,if_neg (by omega)]
     simp [Addr.add]
     intro h;exact h.symm
   · have e:O.getD i 0=M.top.spine.getD (d+i) 0:=by rw [hO'];simp [List.getD_eq_getElem?_getD,List.getElem?_drop]
     rw [e,hcell,List.getElem?_map,List.getElem?_eq_getElem (by omega),List.getD_eq_getElem?_getD,List.getElem?_eq_getElem (by omega)];rfl
 rw [hlen]
 have hfl:M.top.stands=M.top.stands:=rfl
 have hcallF:∀ s∈O,(M.st.nd s).kind≠3→M.call M.top g=M.fail 5:=by
   intro s hs hk
   unfold Mc.call
   rw [har',← hO,if_neg]
   intro hh
   rw [List.all_eq_true] at hh
   exact hk (by simpa using hh s hs)
 refine e_bs (by rfl) (by rfl) ?_
 intro w1 hb1 hm1 _
 have hm1':Mod (fun _=>False) w w1:=hm1.of_drew
 have hbw:w.drew.heap.size=w.heap.size:=rfl
 (try simp only [go_sem,simprocAttr])
 refine ir_loop (fun z ρ w'=>∃ (i:Nat) (v:Value) (f:Option Nat),z=ar - i∧i≤ar∧Mod (fun _=>False) w w'∧(∀ s∈O.take i,(M.st.nd s).kind=3) ∧
   OwnS w' 3 1 v (((if i=0 then (M.st.ov M.top.stands:Int) else (M.st.ov (O.getD 0 0):Int))::(O.take i).map (fun s=>(M.st.nd s).args.getD 1 0)).map I) (i+1) f∧(∀ b,f=some b→w.heap.size≤b) ∧
   ρ=[(0,ptr m),(1,ptr k),(3,I g),(8,I ar),(10,v),(38,.slice aO ar (cP - d)),(39,I ar),(40,I i)]) ar ⟨0,_,some w.heap.size,rfl,by omega,hm1',(by simp),OwnS.of_block (xs:=[I (M.st.ov M.top.stands:Int)]) hb1 rfl,(fun b hb=>by cases hb;omega),rfl⟩ ?_
 rintro z ρ w2 ⟨i,v,f,rfl,hi,hm2,hall,hv,hf,rfl⟩
 have h2:=hT.later hm2
 unfold ir98L1
 (try simp only [go_sem,simprocAttr])
 refine ir_cond rfl (fun hlt0=>?_) (fun hlt0=>?_)
 · have hlt:i < ar:=by simpa using hlt0
   obtain ⟨bP,haO',hfp,hcell,hmem⟩:=hOg i hlt
   have hiO:i < O.length:=by omega
   have hin:=hOin _ hmem
   generalize hs:O.getD i 0=s at *
   have hcell2:=hm2.cell hcell (fun h=>h)
   have b3:(0:Int)≤i∧(i:Int) < ar:=by omega
   subst haO'
   (try simp only [go_sem,simprocAttr,zb4,zb6,b3,add_at,hcell2])
   refine e_call (by rfl) ?_
   refine (m_over h2.at' hM.g.st hM.g.ends hin).mono ?_
   rintro _ w3 ⟨v3,rfl,hv3,hm3⟩
   (try simp only [go_sem,simprocAttr])
   refine e_al ?_
   intro w4 hb4 hm4 _
   refine e_sta (cs:=[I 0,I 0,.slice none 0 0]) rfl rfl hb4 rfl rfl (node_one hv3 _ _) ?_
   intro w5 hb5 hm5 hs5
   have hsz:=hm2.size
   have hsz3:=hm3.size
   have hm35:Mod (fun _=>False) w3 w5:=hm4.step hm5 (fun x hx hl=>by subst hx;omega)
   have hm05:Mod (fun _=>False) w w5:=(hm2.trans hm3).trans hm35
   have h5:=hT.later hm05
   have hmk3:=hM.g.nd hin
   obtain ⟨fp3,hv3,hf3⟩:=hv3
   obtain ⟨va3,vc3,rfl,_⟩:=hv3.val
   have hk3:((M.st.nd s).kind != 3)=decide ((M.st.nd s).kind≠3):=by by_cases hh:(M.st.nd s).kind=3<;>simp [hh]
   (try simp only [go_sem,simprocAttr,cell_of hb5,hk3])
   refine ir_cond rfl (fun hk=>?_) (fun hk=>?_)
   · simp only [zb1,zb2,zb3,zb4,zb5] at hk
     (try simp only [go_sem,simprocAttr])
     refine e_call (by rfl) ?_
     refine (m_fail h5.at' 5).mono ?_
     rintro _ w6 hop
     (try simp only [go_sem,simprocAttr])
     rw [hcallF s hmem hk]
     exact MOp.boxed hm05 hop
   · simp only [zb1,zb2,zb3,zb4,zb5] at hk
     have hvv:=(hv.mod hm3 (fun _ _ h=>h)).mod hm35 (fun _ _ h=>h)
     have hv3':=hv3.mod hm35 (fun _ _ h=>h)
     have ha2:=(may_kind hmk3.1).2.2.1 hk
     rw [ha2] at hv3'
     obtain ⟨b6,rfl,_,hc6⟩:=own_cell hv3' (i:=1) (by omega)
     have hc6:w5.cell? ⟨b6,1,none⟩=some (I ((M.st.nd s).args.getD 1 0)):=by
       rw [hc6,List.getElem?_map,List.getElem?_eq_getElem (by omega),List.getD_eq_getElem?_getD,List.getElem?_eq_getElem (by omega)];rfl
     have hs5:w3.heap.size < w5.heap.size:=lt_of_heap hb5
     (try simp only [go_sem,simprocAttr])
     refine ir_then (fun ρ w'=>ρ.get 0=some (ptr m)∧ρ.get 1=some (ptr k)∧ρ.get 3=some (I g)∧ρ.get 8=some (I ar)∧ρ.get 10=some v∧ρ.get 14=some (ptr w3.heap.size)∧ρ.get 38=some (.slice (some ⟨bP,d,none⟩) ar (cP - d))∧ρ.get 39=some (I ar)∧ρ.get 40=some (I i) ∧
       Mod (fun b=>f=some b) w5 w'∧OwnS w' 3 1 v (((M.st.ov (O.getD 0 0):Int)::(O.take i).map (fun s=>(M.st.nd s).args.getD 1 0)).map I) (i+1) f) ?_ ?_
     · refine ir_cond rfl (fun hz=>?_) (fun hz=>?_)
       · have hz:i=0:=by simpa using hz
         obtain ⟨bV,cV,cs,rfl,rfl,hbV,hcs,_,hset⟩:=own_set hvv (i:=0) (by omega)
         have b4:(0:Int)≤0∧(0:Int) < ((i+1:Nat):Int):=by omega
         (try simp only [go_sem,simprocAttr,zb4,zb6,b4,add_at])
         refine e_st1 (off:=0) rfl rfl hbV rfl hcs ?_
         intro w6 hb6 hm6 _
         (try simp only [go_sem,simprocAttr])
         refine ⟨hm6.weak (fun b hb=>by rw [hb]),?_⟩
         have:=hset w6 _ hb6
         rw [if_pos hz] at this
         simp only [List.set_cons_zero] at this
         have e:O.getD 0 0=s:=by rw [← hs,hz]
         rw [e];exact this
       · have hz:i≠0:=by simpa using hz
         (try simp only [go_sem,simprocAttr])
         rw [if_neg hz] at hvv
         exact ⟨Mod.refl _ _,hvv⟩
     rintro ρ w6 ⟨r0,r1,r3,r8,r10,r14,r38,r39,r40,hm6,hv6⟩
     have nf3:f≠some w3.heap.size:=fun e=>by have:=hv.lt e;omega
     have nf6:f≠some b6:=fun e=>by
       have h1:=hv.lt e
       have h2:=hf3 b6 (by assumption)
       omega
     have hb56:=hm6.at hb5 (fun e=>nf3 e)
     have hc66:=hm6.cell hc6 (fun e=>nf6 e)
     have b5:(0:Int)≤1∧(1:Int) < ((M.st.nd s).args.length:Int):=by omega
     obtain ⟨av6,cv6,rfl,_⟩:=hv6.val
     have e40:IntKind.i64.wrap ((i:Int)+1)=((i+1:Nat):Int):=by rw [wrap_in (by omega) (by omega)];omega
     (try simp only [go_sem,simprocAttr,zb4,zb6,r0,r1,r3,r8,r10,r14,r38,r39,r40,cell_of hb56,b5,add_at,hc66,show Int.toNat 1=1 from rfl])
     refine e_bs (by rfl) (by rfl) ?_
     intro w7 hb7 hm7 _
     (try simp only [go_sem,simprocAttr,r0,r1,r3,r8,r10,r14,r38,r39,r40])
     refine e_ap (m:=1) (news:=[I ((M.st.nd s).args.getD 1 0)]) (by (try simp only [go_sem,simprocAttr,r10])) (hv6.mod hm7 (fun _ _ h=>h)) rfl (fun h=>by cases h) (rd_block (xs:=[I ((M.st.nd s).args.getD 1 0)]) hb7) (oneI [(M.st.nd s).args.getD 1 0]) rfl (by omega) (by omega) ?_
     intro v8 w8 f8 ho8 hm8 hf8
     (try simp only [go_sem,simprocAttr,r0,r1,r3,r8,r38,r39,r40,e40])
     have fnew:∀ b,f=some b→¬ b < w.heap.size:=fun b hb=>by have:=hf b hb;omega
     have s67:=hm7.size
     have s56:=hm6.size
     have s05:=hm05.size
     refine ⟨_,by omega,i+1,v8,f8,rfl,by omega,((hm05.step hm6 (fun b hb hl=>absurd hl (fnew b hb))).trans hm7).step hm8 (fun b hb hl=>absurd hl (fnew b hb)),fun s' hs'=>?_,?_,fun b hb=>?_,rfl⟩
     · rw [List.take_succ_eq_append_getElem hiO] at hs'
       rcases List.mem_append.1 hs' with h1 | h1
       · exact hall s' h1
       · obtain rfl:=List.mem_singleton.1 h1
         have e:O[i]=s:=by rw [← hs,List.getD_eq_getElem?_getD,List.getElem?_eq_getElem hiO];rfl
         rw [e];exact hk
     · rw [if_neg (by omega)]
       have e:O[i]=s:=by rw [← hs,List.getD_eq_getElem?_getD,List.getElem?_eq_getElem hiO];rfl
       rw [List.take_succ_eq_append_getElem hiO,List.map_append,e]
       simpa using ho8
     · rcases hf8 b hb with h1 | h1
       · exact hf b h1
       · omega
 · have hlt:¬ i < ar:=by simpa using hlt0
   obtain rfl:i=ar:=by omega
   obtain ⟨H,hH⟩:∃ H:Int,H=if i=0 then (M.st.ov M.top.stands:Int) else (M.st.ov (O.getD 0 0):Int):=⟨_,rfl⟩
   rw [← hH] at hv
   have htk:O.take i=O:=List.take_of_length_le (by omega)
   rw [htk] at hall hv
   have hHe:M.head M.top i=H:=by
     unfold Mc.head
     rw [← hO,hH]
     have hr:M.ref=false:=by unfold Mc.ref;split<;>simp_all
     cases O with
     | nil=>simp at hOl;rw [if_pos hOl.symm]
     | cons a l=>simp at hOl;rw [if_neg (by omega),hr];rfl
   have hHin:M.st.In H∧M.st.ov H=H.toNat:=by
     rw [hH]
     split
     · exact ⟨hM.g.ovIn hG.sd,by rw [Int.toNat_natCast];exact (St.nd_ov hM.g hG.sd).1⟩
     · have:=hOin _ (getD_mem (l:=O) (i:=0) (by omega))
       exact ⟨hM.g.ovIn this,by rw [Int.toNat_natCast];exact (St.nd_ov hM.g this).1⟩
   have hcall:M.call M.top g = { M.setTop { M.top with runs:=true,glob:=g,at':=0,stack:=H::O.map (fun s=>(M.st.nd s).args.getD 1 0),spine:=M.top.spine.take d} with st:=M.st.set H.toNat ⟨7,0,[]⟩}:=by
     unfold Mc.call
     rw [har',← hO,if_pos (List.all_eq_true.2 (fun s hs=>by simpa using hall s hs)),hHe,hHin.2,Int.toNat_natCast,show M.top.spine.length - i=d by omega]
   have h2d:TopAt w2.drew (newTag τ w .no) m S M ks k:=h2.mod (Mod.refl (fun _=>False) w2).drew (ext_refl _ _).wx (fun _ _ h=>h.elim)
   obtain ⟨vG2,vF2,vW2,vT2,fg2,ff2,fw2,ft2,F2,hh2⟩:=h2d.at'
   have hc2:w2.heap[m]? = _:=hh2.cells
   obtain ⟨ti,ui,hsv⟩:=hh2.st.iface
   obtain ⟨aV,cV,rfl,_⟩:=hv.val
   obtain ⟨bV,rfl,hfV,hcV⟩:=own_cell hv (i:=0) (by omega)
   have hcV:w2.cell? ⟨bV,0,none⟩=some (I H):=hcV
   have b6:(0:Int)≤0∧(0:Int) < ((i+1:Nat):Int):=by omega
   (try simp only [go_sem,simprocAttr,zb4,zb6,cell_of hc2,mcCells,hsv,b6,add_at,hcV])
   refine s_set (p:=H) (nd:=⟨7,0,[]⟩) (by rw [hsv];rfl) (by rfl) hh2.st hM.g.st hHin.1 rfl rfl (ints_nil _) ?_
   intro w3 F3 hst3 hg3
   have h3:=hh2.store (s:=M.st.set H.toNat ⟨7,0,[]⟩) hg3 hst3 rfl
   obtain ⟨vs3,vp3,fs3,fp3,hF3⟩:FrAt w3 (stTag (newTag τ w .no) w2.drew F3) (M.frames.length - 1) k M.top:=h3.frs _ _ _ hT.hk (top_get hT.pos)
   have hc3:w3.heap[k]? = _:=hF3.cells
   obtain ⟨aP3,cP3,rfl,hcP3,_⟩:=hF3.spine.val
   have b7:(0:Int)≤d∧(d:Int)≤cP3:=by omega
   (try simp only [go_sem,simprocAttr,zb4,zb6,cell_of hc3,frCells,e1,b7,sl_same])
   refine e_st1 (off:=4) rfl rfl hc3 rfl (by simp [frCells]) ?_
   intro w4 hb4 hm4 _
   (try simp only [go_sem,simprocAttr])
   refine e_st1 (off:=0) rfl rfl hb4 rfl (by simp [frCells]) ?_
   intro w5 hb5 hm5 _
   (try simp only [go_sem,simprocAttr])
   refine e_st1 (off:=1) rfl rfl hb5 rfl (by simp [frCells]) ?_
   intro w6 hb6 hm6 _
   (try simp only [go_sem,simprocAttr])
   refine e_st1 (off:=2) rfl rfl hb6 rfl (by simp [frCells]) ?_
   intro w7 hb7 hm7 _
   (try simp only [go_sem,simprocAttr])
   refine e_st1 (off:=3) rfl rfl hb7 rfl (by simp [frCells]) ?_
   intro w8 hb8 hm8 _
   (try simp only [go_sem,simprocAttr])
   have hm38:Mod (· = k) w3 w8:=((((Mod.of_drew hm4).trans hm5).trans hm6).trans hm7).trans hm8
   have lV:=hv.lt hfV
   have nV:newTag τ w .no bV = .no:=newTag_new (hf _ hfV)
   have tV:stTag (newTag τ w .no) w2.drew F3 bV = .no:=by rw [stTag_ext (newTag τ w .no) w2.drew F3 bV lV];exact nV
   have nVF:¬ F2 bV:=fun e=>by have:=hh2.tF _ e;rw [nV] at this;cases this
   have nVk:bV≠k:=fun e=>by have:=hF3.tk;rw [← e,tV] at this;cases this
   have hv8:OwnS w8 3 1 (.slice (some ⟨bV,0,none⟩) (i+1) cV) ((H::O.map (fun s=>(M.st.nd s).args.getD 1 0)).map I) (i+1) f:=by
     refine ((hv.mod (Mod.refl (fun _=>False) w2).drew (fun _ _ h=>h)).mod hg3.1 (fun b hb=>?_)).mod hm38 (fun b hb e=>?_)
     · rw [hfV] at hb;cases hb;exact nVF
     · rw [hfV] at hb;cases hb;exact nVk e
   have fp3k:fp3≠some k:=fun e=>by have:=hF3.tp k e;rw [hF3.tk] at this;cases this
   have hsp8:=(own_pre hF3.spine (k:=d) (by omega)).mod hm38 (fun b hb e=>by subst e;exact fp3k hb)
   rw [hcall]
   have hwx:(stTag (newTag τ w .no) w2.drew F3).wx (fun b=>if b=bV then .fs (M.frames.length - 1) else stTag (newTag τ w .no) w2.drew F3 b) w3:=by
     intro b hb hne
     by_cases hbV:b=bV
     · subst hbV;exact absurd tV hne
     · simp only [if_neg hbV]
   have hfr:=fr_both (f':={ M.top with runs:=true,glob:=(g:Int),at':=0,stack:=H::O.map (fun s=>(M.st.nd s).args.getD 1 0),spine:=M.top.spine.take d}) hF3 (vs':=.slice (some ⟨bV,0,none⟩) (i+1) cV) (fs':=f) (vp':=.slice aP3 d cP3) (w3:=w8)
     (by rw [show (H::O.map (fun s=>(M.st.nd s).args.getD 1 0)).length=i+1 by simp [hOl]];exact hv8)
     (by
       have el:(M.top.spine.take d).length=d:=by rw [List.length_take];omega
       rw [el,List.map_take]
       simpa using hsp8)
     (by simpa [frCells] using hb8) hwx (fun b hb=>by rw [hfV] at hb;cases hb;simp)
   have hfin:=h3.frame hT.hk (hm38.weak (fun b hb=>by subst hb;exact .inl hF3.tk)) hwx hfr
   refine ⟨_,fun b hb=>?_,⟨_,_,_,_,_,_,_,_,_,hfin⟩,?_⟩
   · have hbV:b≠bV:=fun e=>by subst e;have:=hf _ hfV;omega
     simp only [if_neg hbV]
     rw [stTag_ext (newTag τ w .no) w2.drew F3 b (Nat.lt_of_lt_of_le hb hm2.size),newTag_ext τ w .no b hb]
   · refine ((hm2.weak (fun _ h=>h.elim)).step (Mod.of_drew hg3.1) (fun b hb hl=>?_)).step hm38 (fun b hb hl=>?_)
     · have:=hh2.tF b hb
       rw [newTag_ext τ w .no b hl] at this
       rw [this];simp [Tg.own]
     · subst hb
       rw [hF.tk];simp [Tg.own]
end
end
section
open Go Go.W
theorem MAt.later {w w':World} {τ:Tag} {m:Nat} {S:SV} {M:Mc} {ks:List Nat} (h:MAt w τ m S M ks) (hm:Mod (fun _=>False) w w'):MAt w' (newTag τ w .no) m S M ks:=h.mod hm (newTag_ext τ w .no).wx (fun _ _ h=>h.elim)
structure Waits (w:World) (m:Nat) (S:SV) (M:Mc) (vG vF vT:Value) (fw:Option Nat) (l:List Int) (W:World):Prop where
 ex:∃ v fw',W.heap[m]? = some (.cells (mcCells S M vG vF v vT).toArray 78 (0,0))∧OwnS W 3 1 v ((M.wait++l).map I) (M.wait++l).length fw'∧∀ b,fw'=some b→fw=some b∨w.heap.size≤b
 mod:Mod (fun b=>fw=some b∨b=m) w W
theorem Waits.quiet {w:World} {m:Nat} {S:SV} {M:Mc} {vG vF vT:Value} {fw:Option Nat} {l:List Int}:Quiet w.heap.size (Waits w m S M vG vF vT fw l):=by
 rintro W W' X ⟨⟨v,fs',h1,h2,h3⟩,h4⟩ hm hs
 have hs':∀ b,X b→∃ o:Obj,W.heap[b]? = some o∧o.isCells=false:=fun b hb=>(hs b hb).2
 refine ⟨⟨v,fs',quiet_at hm hs' h1,quiet_ownS hm hs' h2,h3⟩,h4.step hm (fun b hb hl=>?_)⟩
 have:=(hs b hb).1;omega
theorem ir_blkD {P:Program} {N:Nat} {a:IR} {id:Nat} {next:List Nat→Env→World→Prop} {Q:PostD} {ρ:Env} {w:World} (Mid:Env→World→Prop) (h:irwp P N a (blkQ id (thenQ Mid (fun e ρ w=>Q e [] ρ w))) ρ w) (hk:∀ ρ w,Mid ρ w→next [] ρ w) :
   irwp P N a (blkQ id (fun e ρ w=>thenQD next Q e [] ρ w)) ρ w:=
 irwp_mono a _ _ (blkQ_le (fun e ρ w h=>by
   cases e with
   | normal=>exact hk _ _ h
   | _=>exact h)) ρ w h
theorem told_done {w:World} {τ:Tag} {m:Nat} {S:SV} {M:Mc} {vG vF vW vT:Value} {fg ff fw ft:Option Nat} {F:Nat→Prop} {ks:List Nat} (h:MIn w τ m S M vG vF vW vT fg ff fw ft F ks) (it:It) {w4:World} {v:Value} {ft':Option Nat} (hm:Mod (fun b=>ft=some b∨b=m) w w4)
   (hb:w4.heap[m]? = some (.cells (mcCells S M vG vF vW v).toArray 78 (0,0))) (ho:OwnS w4 72 2 v ((M.told++[it]).flatMap itRow) (M.told++[it]).length ft') (hf:∀ b,ft'=some b→ft=some b∨w.heap.size≤b) :
   MOp w τ m S { M with told:=M.told++[it]} ks w4:=by
 refine ⟨newTag τ w .tl,newTag_ext τ w .tl,⟨vG,vF,vW,v,fg,ff,fw,ft',F,h.tolds (newTag_ext τ w .tl).wx hm hb ho (is_new h.tt (fun b hb=>h.tl.lt hb) hf) rfl rfl rfl rfl rfl rfl rfl⟩,hm.weak ?_⟩
 rintro b (hb | rfl)
 · rw [h.tt b hb];simp [Tg.own]
 · rw [h.tm];simp [Tg.own]
section
variable {w:World} {τ:Tag} {m:Nat} {S:SV} {M:Mc} {ks:List Nat} {k:Nat} {x:Ins} {n:Int}
theorem x_tell (h:MAt w τ m S M ks) (hM:MOk n M) (he:M.ended=0) (href:M.st.kd≠.ref) (hw:M.wait.length≤4294967295) (ht:M.told.length≤4294967295) (hf:M.frames.length≤4294967295) :
   CallsR Tryz.prog 44 [ptr m] w fun _ w'=>∃ ks',MOp w τ m S M.tell ks' w':=by
 have hwp:=hM.wpos he
 have hin:=hM.wts _ (last_mem hwp)
 have hmk:=hM.g.nd hin
 have hA8:(M.st.nd M.last).args.length≤8:=by
   have:=hmk.1
   simp only [Nd.may,mayB,decide_eq_true_eq] at this
   omega
 obtain ⟨j,hj⟩:∃ j:Nat,j+1=M.wait.length:=⟨M.wait.length - 1,by omega⟩
 have hlast:M.last=M.wait.getD j 0:=by unfold Mc.last;rw [← hj];rfl
 refine fit44.calls rfl ?_
 unfold ir44
 (try simp only [go_sem,simprocAttr])
 refine e_bx rfl ?_
 intro w1 hb1 hm1 _
 have h1:=h.later hm1
 obtain ⟨vG,vF,vW,vT,fg,ff,fw,ft,F,hh⟩:=h1
 have hc:=hh.cells
 obtain ⟨aW,cW,rfl,_⟩:=hh.wt.val
 obtain ⟨bW,rfl,hfw,hcw⟩:=own_cell hh.wt (i:=j) (by omega)
 have hcw:w1.cell? ⟨bW,j,none⟩=some (I M.last):=by
   rw [hcw,hlast,List.getElem?_map,List.getElem?_eq_getElem (by omega),List.getD_eq_getElem?_getD,List.getElem?_eq_getElem (by omega)];rfl
 have e1:IntKind.i64.wrap ((M.wait.length:Int) - 1)=j:=by rw [wrap_in (by omega) (by omega)];omega
 have b1:(0:Int)≤j∧(j:Int) < M.wait.length:=by omega
 have lb1:=lt_of_heap hb1
 have lm:=hh.lt
 have lW:=hh.wt.lt hfw
 (try simp only [go_sem,simprocAttr,zb4,zb6,cell_of hb1,ptr,Value.cells,cell_of hc,mcCells,e1,b1,add_at,hcw])
 refine wpD_cut (fun ρ w'=>∃ b4 v,ρ.get 1=some (ptr w.heap.size)∧ρ.get 2=some (I j)∧ρ.get 4=some (ptr b4)∧w1.heap.size≤b4∧w'.heap[b4]? = some (.cells #[I (M.st.nd M.last).kind,I (M.st.nd M.last).num,v] 87 (0,0))∧NewOwn w1 w' v (M.st.nd M.last).args∧Mod (fun _=>False) w1 w') ?_ ?_
 · rw [wpD_e2]
   refine ⟨?_,?_⟩
   · refine e_call (by rfl) ?_
     refine (m_over ((h.later hm1).mod (Mod.refl (fun _=>False) w1).drew (ext_refl _ _).wx (fun _ _ h=>h.elim)) hM.g.st hM.g.ends hin).mono ?_
     rintro _ w2 ⟨v,rfl,hv,hm2⟩
     (try simp only [go_sem,simprocAttr])
     refine e_al ?_
     intro w3 hb3 hm3 _
     have k1:=hm3.old m (by have:=hm2.size;exact Nat.lt_of_lt_of_le lm this) (fun h=>h)
     have k2:=hm3.old w.heap.size (by have:=hm2.size;exact Nat.lt_of_lt_of_le lb1 this) (fun h=>h)
     have k3:=hm3.old bW (by have:=hm2.size;exact Nat.lt_of_lt_of_le lW this) (fun h=>h)
     (try simp only [go_sem,simprocAttr])
     refine ⟨by simp only [drew_heap,k1,k2,k3,and_self,implies_true],?_⟩
     refine e_sta (cs:=[I 0,I 0,.slice none 0 0]) rfl rfl hb3 rfl rfl (node_one hv _ _) ?_
     intro w4 hb4 hm4 hs4
     (try simp only [go_sem,simprocAttr])
     have hm2':Mod (fun _=>False) w1 w2:=Mod.of_drew hm2
     have hm24:Mod (fun _=>False) w2 w4:=hm3.step hm4 (fun x hx hl=>by subst hx;omega)
     obtain ⟨fp,hv,hf⟩:=hv
     exact ⟨w2.heap.size,v,rfl,hm2'.size,hb4,⟨fp,hv.mod hm24 (fun _ _ h=>h),hf⟩,hm2'.trans hm24⟩
   · refine e_al ?_
     intro w3 hb3 hm3 _
     have k1:=hm3.old m lm (fun h=>h)
     have k2:=hm3.old w.heap.size lb1 (fun h=>h)
     have k3:=hm3.old bW lW (fun h=>h)
     (try simp only [go_sem,simprocAttr])
     refine ⟨by simp only [drew_heap,k1,k2,k3,and_self,implies_true],?_⟩
     have hm3':Mod (fun _=>False) w1 w3:=Mod.of_drew hm3
     refine e_call (by rfl) ?_
     refine (m_over ((h.later hm1).later hm3') hM.g.st hM.g.ends hin).mono ?_
     rintro _ w2 ⟨v,rfl,hv,hm2⟩
     (try simp only [go_sem,simprocAttr])
     have hb2:=hm2.at hb3 (fun h=>h)
     refine e_sta (cs:=[I 0,I 0,.slice none 0 0]) rfl rfl hb2 rfl rfl (node_one hv _ _) ?_
     intro w4 hb4 hm4 hs4
     (try simp only [go_sem,simprocAttr])
     obtain ⟨fp,hv,hf⟩:=hv
     refine ⟨w1.heap.size,v,rfl,Nat.le_refl _,hb4,⟨fp,hv.mod hm4 (fun b hb hh=>by subst hh;have:=hf _ hb;have:=lt_of_heap hb3;have e:w1.drew.heap.size=w1.heap.size:=rfl;omega),fun b hb=>Nat.le_trans hm3'.size (hf b hb)⟩,(hm3'.trans hm2).step hm4 (fun x hx hl=>by subst hx;have e:w1.drew.heap.size=w1.heap.size:=rfl;omega)⟩
 rintro ρ w2 ⟨b4,v,r1,r2,r4,lb4,hb4,hv4,hm2⟩
 have hb12:=hm2.at hb1 (fun h=>h)
 (try simp only [go_sem,simprocAttr,r1,r2,r4,cell_of hb4])
 have hm2d:=hm2.drew
 have h2:MAt w2.drew (newTag (newTag τ w .no) w1 .no) m S M ks:=(h.later hm1).later hm2d
 obtain ⟨vG2,vF2,vW2,vT2,fg2,ff2,fw2,ft2,F2,hh2⟩:=h2
 have hc2:w2.heap[m]? = _:=hh2.cells
 have lm2:=hh2.lt
 have lb2:=lt_of_heap hb12
 have lb42:=lt_of_heap hb4
 have no1:∀ b,w1.heap.size≤b→newTag (newTag τ w .no) w1 .no b = .no:=fun b hb=>newTag_new hb
 have noB:newTag (newTag τ w .no) w1 .no w.heap.size = .no:=by
   rw [newTag_ext _ w1 .no _ lb1];exact newTag_new (Nat.le_refl _)
 have bT:ft2≠some w.heap.size:=fun e=>by have:=hh2.tt _ e;rw [noB] at this;cases this
 have mT:ft2≠some m:=fun e=>by have:=hh2.tt _ e;rw [hh2.tm] at this;cases this
 have bF:ff2≠some w.heap.size:=fun e=>by have:=hh2.tf _ e;rw [noB] at this;cases this
 have mF:ff2≠some m:=fun e=>by have:=hh2.tf _ e;rw [hh2.tm] at this;cases this
 generalize hA:M.st.nd M.last=A at *
 refine ir_blkD (fun ρ w'=>ρ.get 1=some (ptr w.heap.size)∧ρ.get 2=some (I j)∧ρ.get 4=some (ptr b4)∧(A.kind=1∨A.kind=2)∧MOp w2.drew (newTag (newTag τ w .no) w1 .no) m S { M with told:=M.told++[M.item A]} ks w') ?_ ?_
 · refine ir_cond rfl (fun hk=>?_) (fun hk=>?_)
   · simp only [zb1,zb2,zb3,zb4,zb5] at hk
     obtain ⟨aT,cT,rfl,_⟩:=hh2.tl.val
     (try simp only [go_sem,simprocAttr,zb4,zb6,cell_of hb12,ptr,Value.cells,cell_of hc2,mcCells,cell_of hb4])
     refine e_bs (by rfl) (by rfl) ?_
     intro w3 hb3 hm3 _
     have k1:=hm3.old m lm2 (fun h=>h)
     have k2:=hm3.old w.heap.size lb2 (fun h=>h)
     have k3:=hm3.old b4 lb42 (fun h=>h)
     (try simp only [go_sem,simprocAttr])
     refine ⟨by simp only [drew_heap,k1,k2,k3,and_self,implies_true],?_⟩
     refine e_ap (m:=1) (news:=[.string ⟨#[]⟩,I A.num]) rfl (hh2.tl.mod hm3 (fun _ _ h=>h)) rfl (fun h=>by cases h) (rd_block (xs:=[.string ⟨#[]⟩,I A.num]) hb3) (by simp [Value.oneCell']) rfl (by omega) (by omega) ?_
     intro v4 w4 ft4 ho4 hm4 hf4
     have k4:=hm4.old w.heap.size (by have:=hm3.size;exact Nat.lt_of_lt_of_le lb2 this) bT
     have hc4:=hm4.at (hm3.at hc2 (fun h=>h)) mT
     obtain ⟨va,vc,rfl,_⟩:=ho4.val
     (try simp only [go_sem,simprocAttr])
     refine ⟨by simp only [drew_heap,k4,and_self,implies_true],?_⟩
     refine e_st1 (off:=13) rfl rfl hc4 rfl (by simp [mcCells]) ?_
     intro w5 hb5 hm5 hs5
     (try simp only [go_sem,simprocAttr])
     have hI:M.item A=⟨⟨#[]⟩,A.num⟩:=by unfold Mc.item;rw [if_pos hk]
     refine ⟨.inl hk,?_⟩
     refine told_done hh2 (M.item A) (((hm3.weak (fun _ h=>h.elim)).step hm4 (fun b hb _=>.inl hb)).step hm5 (fun b hb _=>.inr hb)) (by simpa [mcCells] using hb5) ?_ (fun b hb=>(hf4 b hb).imp id (fun hh=>by have:=hm3.size;omega))
     rw [hI]
     have:=ho4.mod hm5 (fun b hb e=>by
       subst e
       rcases hf4 b hb with h3 | h3
       · exact mT h3
       · have:=hm3.size;have e2:b < w2.drew.heap.size:=lm2;omega)
     simpa [itRow] using this
   simp only [zb1,zb2,zb3,zb4,zb5] at hk
   (try simp only [go_sem,simprocAttr])
   refine ir_cond rfl (fun hk2=>?_) (fun hk2=>?_)
   · simp only [zb1,zb2,zb3,zb4,zb5] at hk2
     have hsh:=hmk.2.2.2 hk2
     have h0n:0≤A.num:=((may_kind hmk.1).2.1 hk2).2
     obtain ⟨q,hq⟩:∃ q:Nat,A.num=q:=⟨A.num.toNat,by omega⟩
     obtain ⟨ad,c,hvsh,hnm,_⟩:=shape_at hh2.tab (i:=q) (by omega)
     have b2:(0:Int)≤q∧(q:Int) < M.tab.shapes.length:=by omega
     have hnm:w2.cell? (ad.add (q*2))=some (.string (M.tab.sh q).name):=hnm
     obtain ⟨aT,cT,rfl,_⟩:=hh2.tl.val
     rw [hq] at hb4
     (try simp only [go_sem,simprocAttr,zb4,zb6,cell_of hb12,ptr,Value.cells,cell_of hc2,mcCells,cell_of hb4,hvsh,b2,hnm])
     refine e_bs (by rfl) (by rfl) ?_
     intro w3 hb3 hm3 _
     have k1:=hm3.old m lm2 (fun h=>h)
     have k2:=hm3.old w.heap.size lb2 (fun h=>h)
     (try simp only [go_sem,simprocAttr])
     refine ⟨by simp only [drew_heap,k1,k2,and_self,implies_true],?_⟩
     refine e_ap (m:=1) (news:=[.string (M.tab.sh q).name,I 0]) rfl (hh2.tl.mod hm3 (fun _ _ h=>h)) rfl (fun h=>by cases h) (rd_block (xs:=[.string (M.tab.sh q).name,I 0]) hb3) (by simp [Value.oneCell']) rfl (by omega) (by omega) ?_
     intro v4 w4 ft4 ho4 hm4 hf4
     have k4:=hm4.old w.heap.size (by have:=hm3.size;exact Nat.lt_of_lt_of_le lb2 this) bT
     have hc4:=hm4.at (hm3.at hc2 (fun h=>h)) mT
     obtain ⟨va,vc,rfl,_⟩:=ho4.val
     (try simp only [go_sem,simprocAttr])
     refine ⟨by simp only [drew_heap,k4,and_self,implies_true],?_⟩
     refine e_st1 (off:=13) rfl rfl hc4 rfl (by simp [mcCells]) ?_
     intro w5 hb5 hm5 hs5
     (try simp only [go_sem,simprocAttr])
     have hI:M.item A=⟨(M.tab.sh q).name,0⟩:=by unfold Mc.item;rw [if_neg hk,hq]
     refine ⟨.inr hk2,?_⟩
     refine told_done hh2 (M.item A) (((hm3.weak (fun _ h=>h.elim)).step hm4 (fun b hb _=>.inl hb)).step hm5 (fun b hb _=>.inr hb)) (by simpa [mcCells] using hb5) ?_ (fun b hb=>(hf4 b hb).imp id (fun hh=>by have:=hm3.size;omega))
     rw [hI]
     have:=ho4.mod hm5 (fun b hb e=>by
       subst e
       rcases hf4 b hb with h3 | h3
       · exact mT h3
       · have:=hm3.size;have e2:b < w2.drew.heap.size:=lm2;omega)
     simpa [itRow] using this
   · simp only [zb1,zb2,zb3,zb4,zb5] at hk2
     obtain ⟨aF,cF,rfl,_⟩:=hh2.fr.val
     obtain ⟨aW2,cW2,rfl,_⟩:=hh2.wt.val
     obtain ⟨bW2,rfl,hfw2,hcw2⟩:=own_cell hh2.wt (i:=j) (by omega)
     have hcw2:w2.cell? ⟨bW2,j,none⟩=some (I M.last):=by
       have e:w2.cell? ⟨bW2,j,none⟩=(M.wait.map I)[j]?:=hcw2
       rw [e,hlast,List.getElem?_map,List.getElem?_eq_getElem (by omega),List.getD_eq_getElem?_getD,List.getElem?_eq_getElem (by omega)];rfl
     have hl:=hh2.len
     (try simp only [go_sem,simprocAttr,zb4,zb6,cell_of hb12,ptr,Value.cells,cell_of hc2,mcCells,b1,add_at,hcw2])
     refine e_bx rfl ?_
     intro w3 hb3 hm3 _
     have k1:=hm3.old m lm2 (fun h=>h)
     have k2:=hm3.old w.heap.size lb2 (fun h=>h)
     (try simp only [go_sem,simprocAttr])
     refine ⟨by simp only [drew_heap,k1,k2,and_self,implies_true],?_⟩
     refine e_bs (by rfl) (by rfl) ?_
     intro w4 hb4' hm4 _
     have k3:=hm4.old m (by have:=hm3.size;exact Nat.lt_of_lt_of_le lm2 this) (fun h=>h)
     have k4:=hm4.old w.heap.size (by have:=hm3.size;exact Nat.lt_of_lt_of_le lb2 this) (fun h=>h)
     (try simp only [go_sem,simprocAttr])
     refine ⟨by simp only [drew_heap,k3,k4,and_self,implies_true],?_⟩
     have hm24:Mod (fun _=>False) w2.drew w4:=hm3.trans hm4
     refine e_ap (m:=1) (news:=[ptr w2.drew.heap.size]) rfl (hh2.fr.mod hm24 (fun _ _ h=>h)) rfl (fun h=>by cases h) (rd_block (xs:=[ptr w2.drew.heap.size]) hb4') (by simp [Value.oneCell',ptr]) rfl (by omega) (by omega) ?_
     intro v6 w6 ff6 ho6 hm6 hf6
     obtain ⟨a6,c6,rfl,_⟩:=ho6.val
     have hc4:=hm24.at hc2 (fun h=>h)
     have hc6:=hm6.at hc4 mF
     have k6:=hm6.old w.heap.size (by have:=hm24.size;exact Nat.lt_of_lt_of_le lb2 this) bF
     (try simp only [go_sem,simprocAttr])
     refine ⟨by simp only [drew_heap,k6,and_self,implies_true],?_⟩
     refine e_st1 (off:=10) rfl rfl hc6 rfl (by simp [mcCells]) ?_
     intro w7 hb7 hm7 hs7
     (try simp only [go_sem,simprocAttr])
     have hmx:Mod (fun b=>ff2=some b∨b=m) w2.drew w7:=((hm24.weak (fun _ h=>h.elim)).step hm6 (fun b hb _=>.inl hb)).step hm7 (fun b hb _=>.inr hb)
     have hk4:w7.heap[w2.drew.heap.size]? = some (.cells (frCells (newFr M.last) (.slice none 0 0) (.slice none 0 0)).toArray 106 (0,0)):=by
       have q1:=hm4.at hb3 (fun h=>h)
       have q2:=hm6.at q1 (fun e=>own_kind (hh2.fr.mod hm24 (fun _ _ h=>h)) e q1 (by decide))
       exact hm7.at q2 (fun e=>by have e2:m < w2.drew.heap.size:=lm2;omega)
     have hop:=enter_done hh2 M.last (k':=w2.drew.heap.size) (Nat.le_refl _) hk4 hmx (by simpa [mcCells,Mc.enter] using hb7) (by
       have:=ho6.mod hm7 (fun b hb e=>by
         subst e
         rcases hf6 b hb with h3 | h3
         · exact mF h3
         · have:=hm24.size;have e2:b < w2.drew.heap.size:=lm2;omega)
       simpa using this) (fun b hb=>(hf6 b hb).imp id (fun h3=>by have:=hm24.size;omega))
     refine fin_none (.inr rfl) (fun w' hm=>⟨_,rfl,?_⟩)
     have e:M.tell=M.enter M.last:=by
       unfold Mc.tell
       rw [hA,if_neg (by omega)]
       unfold Mc.nv
       rw [if_neg (by unfold Mc.ref;split<;>simp_all)]
     rw [e]
     exact ⟨_,MOp.boxed hm1 (MOp.boxed hm2d (hop.after hm))⟩
 · rintro ρ w5 ⟨r1,r2,r4,hk12,hop⟩
   obtain ⟨Mt,hMt⟩:∃ Mt:Mc,Mt = { M with told:=M.told++[M.item A]}:=⟨_,rfl⟩
   rw [← hMt] at hop
   have hwt:Mt.wait=M.wait:=by rw [hMt]
   have htell:M.tell = { Mt with wait:=M.wait.take j++A.args.reverse,ended:=if (M.wait.take j++A.args.reverse).length=0 then 2 else Mt.ended}:=by
     unfold Mc.tell
     rw [hA,if_pos hk12,hMt,show M.wait.length - 1=j by omega]
   obtain ⟨τ5,j1,hM5,j2⟩:=hop
   have hb15:w5.heap[w.heap.size]? = _:=j2.at (b:=w.heap.size) hb12 (fun hh=>hh.1 noB)
   have hb45:w5.heap[b4]? = _:=j2.at (b:=b4) hb4 (fun hh=>hh.1 (no1 _ lb4))
   have t5:∀ b,b < w2.heap.size→τ5 b=newTag (newTag τ w .no) w1 .no b:=fun b hb=>j1 b hb
   have no5B:τ5 w.heap.size = .no:=by rw [t5 _ lb2];exact noB
   have no54:τ5 b4 = .no:=by rw [t5 _ lb42];exact no1 _ lb4
   have hM5d:=hM5.mod (Mod.refl (fun _=>False) w5).drew (ext_refl _ _).wx (fun _ _ h=>h.elim)
   obtain ⟨vG5,vF5,vW5,vT5,fg5,ff5,fw5,ft5,F5,hh5⟩:=hM5d
   have hc5:w5.heap[m]? = _:=hh5.cells
   have hwt5:=hh5.wt
   rw [hwt] at hwt5
   obtain ⟨aW5,cW5,rfl,hcW5,_⟩:=hwt5.val
   have e2:(0:Int)≤j∧(j:Int)≤cW5:=by omega
   (try simp only [go_sem,simprocAttr,zb4,zb6,r1,r2,r4,cell_of hb15,ptr,Value.cells,cell_of hc5,mcCells,e2,sl_same])
   refine e_st1 (off:=11) rfl rfl hc5 rfl (by simp [mcCells]) ?_
   intro w6 hb6 hm6 hs6
   have lm5:=lt_of_heap hc5
   have mW5:fw5≠some m:=fun e=>by have:=hh5.tw _ e;rw [hh5.tm] at this;cases this
   have h6:=hh5.waits (M':={ Mt with wait:=M.wait.take j}) (l:=M.wait.take j) (v:=.slice aW5 j cW5) (ext_refl τ5 w5.drew).wx (hm6.weak (fun b hb=>.inr hb)) (by simpa [mcCells] using hb6) (by
     have:=(own_pre hwt5 (k:=j) (by omega)).mod hm6 (fun b hb hh=>by subst hh;exact mW5 hb)
     have el:(M.wait.take j).length=j:=by rw [List.length_take];omega
     rw [el,List.map_take]
     simpa using this) hh5.tw rfl rfl rfl rfl rfl rfl rfl
   have hb16:=hm6.at (b:=w.heap.size) hb15 (fun e=>by have:=hh5.tm;rw [← e,no5B] at this;cases this)
   have hb46:=hm6.at (b:=b4) hb45 (fun e=>by have:=hh5.tm;rw [← e,no54] at this;cases this)
   obtain ⟨fpA,hvA,hfA⟩:=hv4
   have hvA2:=hvA.mod (Mod.refl (fun _=>False) w2).drew (fun _ _ h=>h)
   have hvA5:=hvA2.mod j2 (fun b hb hh=>hh.1 (no1 _ (hfA b hb)))
   have noA:∀ b,fpA=some b→τ5 b = .no:=fun b hb=>by rw [t5 _ (hvA.lt hb)];exact no1 _ (hfA b hb)
   have hvA6:=hvA5.mod hm6.of_drew (fun b hb e=>by have:=hh5.tm;rw [← e,noA b hb] at this;cases this)
   obtain ⟨va,vc,rfl,_⟩:=hvA6.val
   (try simp only [go_sem,simprocAttr,cell_of hb46])
   refine e_call (by rfl) ?_
   refine (f_back w6 _).mono ?_
   rintro _ w7 ⟨rfl,⟨T7,fz7,hb7⟩,hm7⟩
   have h7:=h6.mod hm7 (newTag_ext τ5 w6 .no).wx (fun _ _ h=>h.elim)
   have hc7:=h7.cells
   have hvA7:=hvA6.mod hm7 (fun _ _ h=>h)
   obtain ⟨bA,hbA1,hbA2,hbA3⟩:=back_own hvA7 (lt_of_heap hb7)
   have s67:=hm7.size
   have t7:∀ b,b < w6.heap.size→newTag τ5 w6 .no b=τ5 b:=fun b hb=>newTag_ext τ5 w6 .no b hb
   have fsB:∀ b,(newTag τ5 w6 .no) b = .no→b≠m∧fw5≠some b:=fun b hb=>⟨(fun e=>by subst e;rw [h7.tm] at hb;cases hb),(fun e=>by rw [h7.tw b e] at hb;cases hb)⟩
   have nB:=fsB w6.heap.size (newTag_new (Nat.le_refl _))
   have nA:bA≠m∧fw5≠some bA:=by
     rcases hbA2 with e | e
     · rw [e];exact nB
     · exact fsB bA (by rw [t7 _ (hvA6.lt e)];exact noA _ e)
   have n1:w.heap.size≠m∧fw5≠some w.heap.size:=fsB _ (by rw [t7 _ (lt_of_heap hb16)];exact no5B)
   have hb17:=hm7.at hb16 (fun h=>h)
   have lm7:=lt_of_heap hc7
   have lB7:=lt_of_heap hb7
   have l17:=lt_of_heap hb17
   refine ⟨2,A.args.length,129,#[ptr w6.heap.size],(fun j=>I (A.args.getD j 0)),KeepB w6.heap.size bA,(fun pre W=>Waits w7 m S { Mt with wait:=M.wait.take j} vG5 vF5 vT5 fw5 (pre.map (fun j=>A.args.getD j 0)) W),⟨rfl,(fun _ _=>rfl),?_,⟨rfl,rfl⟩,by omega,?_,?_,⟨⟨⟨.slice aW5 j cW5,fw5,?_,?_,fun b hb=>.inl hb⟩,Mod.refl _ _⟩,fun s=>Waits.quiet,?_⟩⟩,?_⟩
   · refine backints_stops Fence.wide 1 trivial rfl (by omega) w6.heap.size bA A.args.length (.slice va A.args.length vc) (fun j=>I (A.args.getD j 0)) w7 (by simpa [Value.cells] using cell_of hb7 (o:=0)) (lt_of_heap hb7) hbA3 (by omega)
   · intro A B C a b;exact ⟨b.1.trans a.1,b.2.trans a.2⟩
   · intro W l o o' hl ho hoc _
     have hl1:l≠w6.heap.size:=fun e=>by omega
     have hl2:l≠bA:=fun e=>by omega
     exact ⟨World.putObj_heap_other (fun e=>hl1 e.symm),World.putObj_heap_other (fun e=>hl2 e.symm)⟩
   · exact hc7
   · simpa using h7.wt
   · rintro pre jj W ⟨⟨v,fs',p1,p2,p3⟩,p4⟩ hpl hjl
     have p1':W.heap[m]? = _:=p1
     have p4d:=p4.drew
     have nfs':∀ b,b < w7.heap.size→fw5≠some b→fs'≠some b:=fun b hb hn e=>by
       rcases p3 b e with h1 | h1
       · exact hn h1
       · omega
     have hb1W:W.heap[w.heap.size]? = _:=p4.at hb17 (fun h=>by rcases h with h | h;exact n1.2 h;exact n1.1 h)
     obtain ⟨av,cv',rfl,_⟩:=p2.val
     have sW:=p4.size
     unfold ir44B1
     (try simp only [go_sem,simprocAttr,cell_of hb1W,ptr,Value.cells,cell_of p1',mcCells])
     refine e_bs (by rfl) (by rfl) ?_
     intro W1 hB1 hM1 _
     have q1:=hM1.old m (Nat.lt_of_lt_of_le lm7 sW) (fun h=>h)
     have q2:=hM1.old w.heap.size (Nat.lt_of_lt_of_le l17 sW) (fun h=>h)
     (try simp only [go_sem,simprocAttr])
     refine ⟨by simp only [drew_heap,q1,q2,and_self,implies_true],?_⟩
     refine e_ap (m:=1) (news:=[I (A.args.getD jj 0)]) rfl ((p2.mod (Mod.refl (fun _=>False) W).drew (fun _ _ h=>h)).mod hM1 (fun _ _ h=>h)) rfl (fun h=>by cases h) (rd_block (xs:=[I (A.args.getD jj 0)]) hB1) (oneI [A.args.getD jj 0]) rfl (by simp only [List.length_append,List.length_map,List.length_take];omega) (by simp only [List.length_append,List.length_map,List.length_take];omega) ?_
     intro v2 W2 fs2 hO2 hM2 hF2
     obtain ⟨a2,c2,rfl,_⟩:=hO2.val
     have fsm:fs'≠some m:=fun e=>own_kind p2 e p1 (by decide)
     have q4:=hM2.old w.heap.size (by have:=hM1.size;exact Nat.lt_of_lt_of_le (Nat.lt_of_lt_of_le l17 sW) this) (nfs' _ l17 n1.2)
     have hC2:=hM2.at (hM1.at p1' (fun h=>h)) fsm
     (try simp only [go_sem,simprocAttr])
     refine ⟨by simp only [drew_heap,q4,and_self,implies_true],?_⟩
     refine e_st1 (off:=11) rfl rfl hC2 rfl (by simp [mcCells]) ?_
     intro W3 hB3 hM3 _
     (try simp only [go_sem,simprocAttr])
     have hX:Mod (fun b=>fs'=some b∨b=m) W W3:=(((hM1.of_drew).weak (fun _ h=>h.elim)).step hM2 (fun b hb _=>.inl hb)).step hM3 (fun b hb _=>.inr hb)
     refine ⟨keeps_of_mod hX (fun b hb o ho=>?_),keepB_of_mod hX (by omega) (by omega) (fun hh=>?_) (fun hh=>?_),⟨.slice a2 _ c2,fs2,by simpa [mcCells] using hB3,?_,fun b hb=>?_⟩,p4.step hX (fun b hb hl=>?_)⟩
     · rcases hb with hb | rfl
       · exact quiet_own_cells p2 hb ho
       · rw [p1] at ho;cases ho;rfl
     · rcases hh with hh | hh
       · exact nfs' _ (lt_of_heap hb7) nB.2 hh
       · exact nB.1 hh
     · rcases hh with hh | hh
       · exact nfs' _ hbA1 nA.2 hh
       · exact nA.1 hh
     · have:=hO2.mod hM3 (fun b hb e=>by
         subst e
         rcases hF2 b hb with h3 | h3
         · exact fsm h3
         · have:=hM1.size;have e2:W.drew.heap.size=W.heap.size:=rfl;omega)
       simpa [Nat.add_assoc] using this
     · rcases hF2 b hb with h1 | h1
       · exact p3 b h1
       · have:=hM1.size;have e2:W.drew.heap.size=W.heap.size:=rfl
         right;omega
     · rcases hb with hb | hb
       · rcases p3 b hb with h1 | h1
         · exact .inl h1
         · omega
       · exact .inr hb
   · intro D W hD hI hDd
     obtain ⟨⟨v,fs',p1,p2,p3⟩,p4⟩:=hI
     rw [downto_rev] at p2
     have p2:OwnS W 3 1 v ((M.wait.take j++A.args.reverse).map I) (M.wait.take j++A.args.reverse).length fs':=p2
     generalize hll:M.wait.take j++A.args.reverse=ll at p2 htell
     have hb1W:=p4.at hb17 (fun h=>by rcases h with h | h;exact n1.2 h;exact n1.1 h)
     obtain ⟨av,cv',rfl,_⟩:=p2.val
     have lDm:D≠m:=fun e=>by subst e;rw [p1] at hDd;cases hDd
     have sW:=p4.size
     have fsm:fs'≠some m:=fun e=>own_kind p2 e p1 (by decide)
     have fsD:fs'≠some D:=fun e=>by have:=quiet_own_cells p2 e hDd;cases this
     have fin:∀ (W1 w':World),W1.heap[m]? = some (.cells (mcCells S M.tell vG5 vF5 (.slice av ll.length cv') vT5).toArray 78 (0,0))→Mod (· = m) W W1→Mod (· = D) W1 w'→MOp w τ m S M.tell ks w':=by
       intro W1 w' hc1 hmm hmD
       have hm7':Mod (fun b=>fw5=some b∨b=m) w7 w':=(p4.step hmm (fun b hb _=>.inr hb)).step hmD (fun b hb hl=>by omega)
       have ho:OwnS w' 3 1 (.slice av ll.length cv') (ll.map I) ll.length fs':=(p2.mod hmm (fun b hb e=>by subst e;exact fsm hb)).mod hmD (fun b hb e=>by subst e;exact fsD hb)
       have hX:=h7.waits (M':=M.tell) (l:=ll) (newTag_ext _ w7 .wt).wx hm7' (hmD.at hc1 (fun e=>lDm e.symm)) ho (is_new h7.tw (fun b hb=>h7.wt.lt hb) p3) (by rw [htell]) (by rw [htell]) (by rw [htell]) (by rw [htell]) (by rw [htell]) (by rw [htell]) (by rw [htell])
       have hop7:MOp w7 (newTag τ5 w6 .no) m S M.tell ks w':=⟨_,newTag_ext _ w7 .wt,⟨_,_,_,_,_,_,_,_,_,hX⟩,hm7'.weak (fun b hb=>by
         rcases hb with hb | rfl
         · rw [h7.tw b hb];simp [Tg.own]
         · rw [h7.tm];simp [Tg.own])⟩
       refine MOp.boxed hm1 (MOp.boxed hm2d (MOp.cat j1 (j2.step hm6.of_drew (fun b hb hl=>?_)) (MOp.boxed hm7 hop7)))
       subst hb
       rw [hh2.tm];simp [Tg.own]
     have hzl:((ll.length:Int) == 0)=decide (ll.length=0):=by
       by_cases h0:ll.length=0
       · simp [h0]
       · simp [h0]
     (try simp only [go_sem,simprocAttr])
     (try simp only [go_sem,simprocAttr,cell_of hb1W,ptr,Value.cells,cell_of p1,mcCells,hzl])
     refine ir_cond rfl (fun hz=>?_) (fun hz=>?_)
     · simp only [zb1,zb2,zb3,zb4,zb5] at hz
       rw [if_pos hz] at htell
       (try simp only [go_sem,simprocAttr,cell_of hb1W,ptr,Value.cells])
       refine e_st1 (off:=15) rfl rfl p1 rfl (by simp [mcCells]) ?_
       intro W1 hB1 hM1 _
       (try simp only [go_sem,simprocAttr])
       exact fin_one (.inl rfl) (hM1.at hDd (fun e=>lDm e)) (fun w' hm=>⟨_,rfl,_,fin W1 w' (by rw [htell];simpa [mcCells] using hB1) hM1 hm⟩)
     · simp only [zb1,zb2,zb3,zb4,zb5] at hz
       rw [if_neg hz] at htell
       (try simp only [go_sem,simprocAttr])
       exact fin_one (.inl rfl) hDd (fun w' hm=>⟨_,rfl,_,fin W w' (by rw [htell];exact p1) (Mod.refl _ _) hm⟩)
end
end
section
open Go Go.W
theorem m_add' {w:World} {τ:Tag} {m:Nat} {S:SV} {M:Mc} {ks:List Nat} {vG vF vW vT:Value} {fg ff fw ft:Option Nat} {F:Nat→Prop} (h:MIn w τ m S M vG vF vW vT fg ff fw ft F ks) (ho:M.st.Ok) {nd:Nd} {v:Value} (hm:nd.may=true) (hp:okPl M.st.ns.length nd.args=true) (hv:Ints w v nd.args) (hr:(M.st.ns.length:Int) < M.st.size) :
   CallsR Tryz.prog 72 [ptr m,I nd.kind,I nd.num,v] w fun r w'=>r=I M.st.ns.length∧∃ F',MIn w' (stTag τ w F') m S { M with st:=M.st.add nd} vG vF vW vT fg ff fw ft F' ks∧Mod F w w':=by
 have hc:=h.cells
 obtain ⟨a,c,rfl,hvl,hvx⟩:=hv
 refine fit72.calls rfl ?_
 unfold ir72 ptr
 (try simp only [go_sem,simprocAttr,cell_of hc,mcCells])
 refine s_add (nd:=nd) (v:=.slice a nd.args.length c) rfl rfl h.st ho hm hp ⟨a,c,rfl,hvl,hvx⟩ ?_ (fun e=>by omega)
 intro _ w1 F1 hs1 hg1
 (try simp only [go_sem,simprocAttr])
 exact ⟨F1,h.store (s:=M.st.add nd) hg1 hs1 rfl,hg1.1⟩
theorem MIn.ownF {w:World} {τ:Tag} {m:Nat} {S:SV} {M:Mc} {ks:List Nat} {vG vF vW vT:Value} {fg ff fw ft:Option Nat} {F:Nat→Prop} (h:MIn w τ m S M vG vF vW vT fg ff fw ft F ks):∀ b,F b→(τ b).own:=fun b hb=>by rw [h.tF b hb];simp [Tg.own]
theorem MOp.of_drew {w w':World} {τ:Tag} {m:Nat} {S:SV} {M':Mc} {ks:List Nat} (h:MOp w.drew τ m S M' ks w'):MOp w τ m S M' ks w':=by
 obtain ⟨τ',h1,h2,h3⟩:=h
 exact ⟨τ',h1,h2,Mod.of_drew h3⟩
theorem frm_own {t:Tg} {i:Nat} (h:t.frm i):t.own:=by rcases h with h | h | h<;>rw [h]<;>simp [Tg.own]
section
variable {w:World} {τ:Tag} {m:Nat} {S:SV} {M:Mc} {ks:List Nat} {k:Nat} {x:Ins} {n:Int}
theorem x_lacks (hT:TopAt w τ m S M ks k) (hM:MOk n M) (he:M.ended=0) (href:M.st.kd≠.ref) (hfl:M.frames.length≤4294967295) (hwl:M.wait.length≤4294967295) (hR:M.roots.length≤17592186044416) :
   CallsR Tryz.prog 99 [ptr m,ptr k] w fun _ w'=>∃ ks',MOp w τ m S M.lacks ks' w':=by
 obtain ⟨vG,vF,vW,vT,fg,ff,fw,ft,F,hh⟩:=id hT.at'
 have hc:=hh.cells
 have hl:=hh.len
 have hp:=hT.pos
 obtain ⟨aF,cF,rfl,_⟩:=hh.fr.val
 obtain ⟨aT,cT,rfl,_⟩:=hh.tl.val
 have hRn:M.roots≠[]:=fun e=>by
   have:=stands_root (M:=M) hp
   rw [e] at this;cases this
 refine fit99.calls rfl ?_
 unfold ir99
 (try simp only [go_sem,simprocAttr,cell_of hc,mcCells,ptr])
 refine ir_cond rfl (fun hf=>?_) (fun hf=>?_)
 · have hf:M.frames.length > 1:=by
     simp only [zb1,zb2,zb3,zb4,zb5] at hf
     omega
   (try simp only [go_sem,simprocAttr])
   refine e_call (by rfl) ?_
   refine (m_leave hT.at' hp (by omega)).mono ?_
   intro _ w1 hop
   (try simp only [go_sem,simprocAttr])
   unfold Mc.lacks
   rw [if_pos hf]
   exact ⟨_,hop⟩
 have hf:¬ M.frames.length > 1:=by
   simp only [zb1,zb2,zb3,zb4,zb5] at hf
   omega
 unfold Mc.lacks
 rw [if_neg hf]
 (try simp only [go_sem,simprocAttr,cell_of hc,mcCells])
 refine wpS_cut (fun ρ w'=>w=w'∧ρ.get 0=some (ptr m)∧ρ.get 1=some (ptr k)∧ρ.get 15=some (.bool (decide (M.given=true∨M.told.length > 0)))) ?_ ?_
 · cases hg:M.given<;>cases ht:decide (((M.told.length:Nat):Int) > 0)<;>(try simp only [go_sem,simprocAttr,cell_of hc,mcCells,hg,ht])<;>(simp only [zb1,zb2,zb3,zb4,zb5] at ht;simp [hg,ht];try first | omega | exact List.eq_nil_of_length_eq_zero (by omega))
 rintro ρ _ ⟨rfl,r0,r1,r15⟩
 (try simp only [go_sem,simprocAttr,r0,r1,r15])
 refine ir_cond rfl (fun hg=>?_) (fun hg=>?_)
 · simp only [zb1,zb2,zb3,zb4,zb5] at hg
   rw [if_pos hg]
   (try simp only [go_sem,simprocAttr])
   refine e_call (by rfl) ?_
   refine (m_fail hT.at' 5).mono ?_
   intro _ w1 hop
   (try simp only [go_sem,simprocAttr])
   exact ⟨_,hop⟩
 simp only [zb1,zb2,zb3,zb4,zb5] at hg
 rw [if_neg hg]
 (try simp only [go_sem,simprocAttr])
 refine e_call (by rfl) ?_
 refine (m_room hT.at' hM.g.st href (n:=2) ⟨by omega,by omega⟩ hM.base hM.young hR hRn).mono ?_
 rintro _ w1 ⟨rfl,hop⟩
 (try simp only [go_sem,simprocAttr])
 refine ir_cond rfl (fun hr=>?_) (fun hr=>?_)
 · rw [if_pos hr]
   obtain ⟨k1,k2⟩:=hM.room (by omega) hr
   obtain ⟨e1,e2,e3,e5,e6,_,g,e4⟩:=room_keeps M 2 hr
   have hwp:0 < (M.room 2).2.wait.length:=by rw [e2];exact hM.wpos he
   generalize (M.room 2).2=M1 at *
   obtain ⟨τ1,j1,j2,hT1⟩:=hop.top e1 hp hT.hk
   obtain ⟨vG1,vF1,vW1,vT1,fg1,ff1,fw1,ft1,F1,h1⟩:=id hT1.at'
   have hc1:=h1.cells
   (try simp only [go_sem,simprocAttr])
   refine e_st1 (off:=12) rfl rfl hc1 rfl (by simp [mcCells]) ?_
   intro w2 hb2 hm2 _
   obtain ⟨M2,hM2⟩:∃ M2:Mc,M2 = { M1 with given:=true}:=⟨_,rfl⟩
   have u1:M2.wait=M1.wait:=by rw [hM2]
   have u2:M2.st=M1.st:=by rw [hM2]
   have u3:M2.frames=M1.frames:=by rw [hM2]
   have u4:M2.last=M1.last:=by rw [hM2];rfl
   have h2:=h1.scal (M':=M2) hm2 (by rw [hM2];simpa [mcCells] using hb2) (by rw [hM2]) u3 u1 (by rw [hM2]) u2 (by rw [hM2]) (by rw [hM2])
   have hc2:=h2.cells
   obtain ⟨j,hj⟩:∃ j:Nat,j+1=M2.wait.length:=⟨M2.wait.length - 1,by rw [u1];omega⟩
   have hwl2:M2.wait.length≤4294967295:=by rw [u1];omega
   obtain ⟨aW,cW,hvW,_⟩:=h2.wt.val
   have q1:IntKind.i64.wrap ((M2.wait.length:Int) - 1)=j:=by rw [wrap_in (by omega) (by omega)];omega
   have hroom:(M2.st.ns.length:Int)+2≤M2.st.size:=by rw [u2];exact k2
   have hok2:M2.st.Ok:=by rw [u2];exact k1.g.st
   (try simp only [go_sem,simprocAttr,cell_of hc2,mcCells,hvW,q1])
   refine e_call (by rfl) ?_
   refine (m_add' (nd:=⟨8,0,[]⟩) h2 hok2 rfl rfl (ints_nil _) (by omega)).mono ?_
   rintro _ w3 ⟨rfl,F3,h3,hm3⟩
   have hc3:=h3.cells
   obtain ⟨bW,hbW,hfw,hcellW⟩:=own_cell (hvW ▸ h3.wt) (i:=j) (by show j < M2.wait.length;omega)
   have hcellW:w3.cell? ⟨bW,j,none⟩=some (I M2.last):=by
     rw [hcellW]
     show (M2.wait.map I)[j]? = _
     unfold Mc.last
     rw [List.getElem?_map,List.getElem?_eq_getElem (by omega),List.getD_eq_getElem?_getD,show M2.wait.length - 1=j by omega,List.getElem?_eq_getElem (by omega)];rfl
   subst hbW
   have b1:(0:Int)≤j∧(j:Int) < M2.wait.length:=by omega
   have hc3':w3.heap[m]? = some (.cells (mcCells S { M2 with st:=M2.st.add ⟨8,0,[]⟩} vG1 vF1 vW1 vT1).toArray 78 (0,0)):=hc3
   (try simp only [go_sem,simprocAttr,zb4,zb6,cell_of hc3',mcCells,hvW,b1,add_at,hcellW])
   obtain ⟨M3,hM3⟩:∃ M3:Mc,M3 = { M2 with st:=M2.st.add ⟨8,0,[]⟩}:=⟨_,rfl⟩
   rw [← hM3] at h3
   have s3:M3.st=M2.st.add ⟨8,0,[]⟩:=by rw [hM3]
   have s3l:M3.st.ns.length=M2.st.ns.length+1:=by rw [s3,len_add]
   have s3z:M3.st.size=M2.st.size:=by rw [s3];rfl
   have s3w:M3.wait=M2.wait:=by rw [hM3]
   have g3:GOk M1.tab M3.st:=by rw [s3,u2];exact k1.g.add' (nd:=⟨8,0,[]⟩) rfl (by decide) (fun a ha=>by cases ha) (by omega)
   have lin:M2.st.In M2.last:=by rw [u2,u4];exact k1.wts _ (last_mem hwp)
   have h3d:=h3.mod (Mod.refl (fun _=>False) w3).drew (ext_refl _ _).wx (fun _ _ h=>h.elim)
   refine e_bs (by rfl) (by rfl) ?_
   intro w4 hb4 hm4 _
   have l3:m < w3.drew.heap.size:=lt_of_heap hc3'
   have km4:=hm4.old m l3 (fun h=>h)
   (try simp only [go_sem,simprocAttr])
   refine ⟨km4,?_⟩
   have h4:=h3d.mod hm4 (newTag_ext _ w3.drew .no).wx (fun _ _ h=>h.elim)
   refine e_call (by rfl) ?_
   refine (m_add' (nd:=⟨3,0,[M2.last,M2.st.ns.length]⟩) h4 g3.st rfl (okPl_of (fun a ha=>?_)) (ints_blk (xs:=[M2.last,(M2.st.ns.length:Int)]) hb4 (by simp)) (by omega)).mono ?_
   · simp only [List.mem_cons,List.not_mem_nil,or_false] at ha
     rcases ha with rfl | rfl
     · have:=lin.2;exact ⟨lin.1,by omega⟩
     · omega
   rintro _ w5 ⟨rfl,F5,h5,hm5⟩
   have km5:=hm5.old m (by have:=hm4.size;omega) (fun e=>by have:=h4.tF m e;rw [h4.tm] at this;cases this)
   (try simp only [go_sem,simprocAttr])
   refine ⟨km5,?_⟩
   obtain ⟨M4,hM4⟩:∃ M4:Mc,M4 = { M3 with st:=M3.st.add ⟨3,0,[M2.last,M2.st.ns.length]⟩}:=⟨_,rfl⟩
   rw [← hM4] at h5
   have s4w:M4.wait=M2.wait:=by rw [hM4];exact s3w
   have hwt5:=h5.wt
   rw [s4w,hvW] at hwt5
   obtain ⟨b',c',cs,e',hfw',hb',hcs,_,hset⟩:=own_set hwt5 (i:=j) (by omega)
   cases e'
   refine e_st1 (off:=j) rfl rfl hb' rfl hcs ?_
   intro w6 hb6 hm6 _
   have hW6:=hset w6 _ hb6
   have hwm:bW≠m:=fun e=>by have:=h5.tw _ hfw';rw [e,h5.tm] at this;cases this
   have h6:=h5.waits (M':={ M4 with wait:=M2.wait.set j (M3.st.ns.length:Int)}) (l:=M2.wait.set j (M3.st.ns.length:Int)) (v:=vW1) (ext_refl _ w5).wx (hm6.weak (fun b hb=>by subst hb;exact .inl hfw')) (by rw [hvW] at h5 ⊢;exact hm6.at h5.cells (fun e=>hwm e.symm))
     (by rw [hvW,List.length_set];exact hW6) h5.tw rfl rfl rfl rfl rfl rfl rfl
   obtain ⟨M6,hM6⟩:∃ M6:Mc,M6 = { M4 with wait:=M2.wait.set j (M3.st.ns.length:Int)}:=⟨_,rfl⟩
   rw [← hM6] at h6
   have hc6:=h6.cells
   have hw6:M6.wait=M2.wait.set j (M3.st.ns.length:Int):=by rw [hM6]
   have hf6:M6.frames=M1.frames:=by rw [hM6,hM4,hM3,hM2]
   have ht6:M6.top=M1.top:=by unfold Mc.top;rw [hf6]
   have hwt6:=h6.wt
   rw [hvW,hw6,List.length_set] at hwt6
   obtain ⟨bW6,e6,_,hcell6⟩:=own_cell hwt6 (i:=j) (by omega)
   cases e6
   have hcell6:w6.cell? ⟨bW,j,none⟩=some (I M3.st.ns.length):=by
     rw [hcell6,List.getElem?_map,List.getElem?_set_self (by omega)];rfl
   obtain ⟨vs6,vp6,fs6,fp6,hF6⟩:FrAt w6 _ (M1.frames.length - 1) k M1.top:=h6.frs _ _ _ hT1.hk (by rw [hf6];exact top_get hT1.pos)
   have hcf6:=hF6.cells
   (try simp only [go_sem,simprocAttr,zb4,zb6,cell_of hc6,mcCells,hvW,b1,add_at,hcell6,cell_of hcf6,frCells])
   refine e_st1 (off:=5) rfl rfl hcf6 rfl (by simp [frCells]) ?_
   intro w7 hb7 hm7 _
   (try simp only [go_sem,simprocAttr])
   refine e_st1 (off:=4) rfl rfl hb7 rfl (by simp [frCells]) ?_
   intro w8 hb8 hm8 _
   (try simp only [go_sem,simprocAttr])
   obtain ⟨τ8,r1,r2,r3⟩:=fr_spine (f':={ M1.top with stands:=(M3.st.ns.length:Int),spine:=[]}) hF6 (OwnS.nil w6 3 1) rfl (by simpa [frCells] using hb8) (Mod.refl _ w6) (hm7.trans hm8) (fun b hb=>by cases hb)
   have hfin:=h6.frame hT1.hk r3 r1.wx r2
   have hl2:M1.lacks2 = { M6 with frames:=M6.frames.set (M1.frames.length - 1) { M1.top with stands:=(M3.st.ns.length:Int),spine:=[]}}:=by
     unfold Mc.lacks2
     rw [hM6,hM4,s3,u4,u2,show M1.wait.length - 1=j by rw [← u1];omega,hM3,hM2]
     simp [Mc.setTop,len_add]
   rw [hl2]
   have k6:MOp w6 _ m S _ ks w8:=⟨τ8,r1,⟨_,_,_,_,_,_,_,_,_,hfin⟩,r3.weak (fun b hb=>frm_own hb)⟩
   have k5:=MOp.cat (ext_refl _ w5) (hm6.weak (fun b hb=>by subst hb;rw [h5.tw _ hfw'];simp [Tg.own])) k6
   have k4:=MOp.cat (stTag_ext _ w4 F5) (hm5.weak h4.ownF) k5
   have k3:=(MOp.boxed hm4 k4).of_drew
   have k2':=MOp.cat (stTag_ext _ w2 F3) (hm3.weak h2.ownF) k3
   have k1':=MOp.cat (ext_refl _ w1) (hm2.weak (fun b hb=>by subst hb;rw [h1.tm];simp [Tg.own])) k2'
   exact ⟨_,MOp.cat j1 j2 k1'⟩
 · rw [if_neg (by simpa using hr)]
   (try simp only [go_sem,simprocAttr])
   exact ⟨_,hop⟩
end
end
section
open Go Go.W
section
variable {w:World} {τ:Tag} {m:Nat} {S:SV} {M:Mc} {ks:List Nat} {k:Nat} {x:Ins} {n:Int}
theorem x_read (hT:TopAt w τ m S M ks k) (hM:MOk n M) (href:M.st.kd≠.ref) (h8:(M.st.nd M.top.stands).kind=8) (hR:M.roots.length≤17592186044416) :
   CallsR Tryz.prog 101 [ptr m,ptr k,I (M.st.nd M.top.stands).num] w fun _ w'=>MOp w τ m S (M.read M.top (M.st.nd M.top.stands).num) ks w':=by
 have hp:=hT.pos
 have hG:=hM.topG hp
 have hnd:=hM.g.nd hG.sd
 have hnum:=((may_kind hnd.1).2.2.2.2.1 h8).2
 obtain ⟨vG,vF,vW,vT,fg,ff,fw,ft,F,hh⟩:=id hT.at'
 obtain ⟨vs,vp,fs,fp,hF⟩:=hT.fr
 have hc:=hh.cells
 have hcf:=hF.cells
 have hinp:=hh.inp
 obtain ⟨aI,cI,hvI,hIl,_⟩:=id hinp
 have hRn:M.roots≠[]:=fun e=>by
   have:=stands_root (M:=M) hp
   rw [e] at this;cases this
 obtain ⟨q,hq⟩:∃ q:Nat,(M.st.nd M.top.stands).num=q:=⟨(M.st.nd M.top.stands).num.toNat,by omega⟩
 rw [hq]
 refine fit101.calls rfl ?_
 unfold ir101
 (try simp only [go_sem,simprocAttr,cell_of hc,mcCells,hvI,ptr])
 refine ir_cond rfl (fun hk=>?_) (fun hk=>?_)
 · simp only [zb1,zb2,zb3,zb4,zb5] at hk
   have hk:(q:Int)≥M.input.length:=hk
   unfold Mc.read
   rw [if_pos hk]
   (try simp only [go_sem,simprocAttr,cell_of hcf,frCells])
   refine e_call (by rfl) ?_
   refine (m_over hT.at' hM.g.st hM.g.ends hG.sd).mono ?_
   rintro _ w1 ⟨v1,rfl,hv1,hm1⟩
   (try simp only [go_sem,simprocAttr])
   refine e_al ?_
   intro w2 hb2 hm2 _
   refine e_sta (cs:=[I 0,I 0,.slice none 0 0]) rfl rfl hb2 rfl rfl (node_one hv1 _ _) ?_
   intro w3 hb3 hm3 _
   have s1:=hm1.size
   have hm03:Mod (fun _=>False) w w3:=(hm1.trans hm2).step hm3 (fun x hx hl=>by subst hx;omega)
   have h3:=hh.mod hm03 (newTag_ext τ w .no).wx (fun _ _ h=>h.elim)
   have hc3:=h3.cells
   obtain ⟨ti,ui,hsv⟩:=h3.st.iface
   (try simp only [go_sem,simprocAttr,cell_of hc3,mcCells])
   refine s_set (p:=(M.st.ov M.top.stands:Int)) (nd:=⟨2,3,[]⟩) (by rfl) (by rfl) h3.st hM.g.st ⟨by omega,by have:=hM.g.ov hG.sd;omega⟩ rfl rfl (ints_nil _) ?_
   intro w4 F4 hst4 hg4
   (try simp only [go_sem,simprocAttr])
   rw [Int.toNat_natCast] at hst4
   have h4:=h3.store (s:=M.st.set (M.st.ov M.top.stands) ⟨2,3,[]⟩) hg4 hst4 rfl
   exact MOp.boxed hm03 ⟨_,stTag_ext _ w3 F4,⟨_,_,_,_,_,_,_,_,_,h4⟩,hg4.1.weak h3.ownF⟩
 simp only [zb1,zb2,zb3,zb4,zb5] at hk
 have hk:¬ (q:Int)≥M.input.length:=hk
 unfold Mc.read
 rw [if_neg hk]
 (try simp only [go_sem,simprocAttr])
 refine e_call (by rfl) ?_
 refine (m_room hT.at' hM.g.st href (n:=2) ⟨by omega,by omega⟩ hM.base hM.young hR hRn).mono ?_
 rintro _ w1 ⟨rfl,hop⟩
 (try simp only [go_sem,simprocAttr])
 refine ir_cond rfl (fun hr=>?_) (fun hr=>?_)
 · rw [if_pos hr]
   obtain ⟨k1,k2⟩:=hM.room (by omega) hr
   obtain ⟨e1,e2,e3,e5,e6,_,g,e4⟩:=room_keeps M 2 hr
   have h8':((M.room 2).2.st.nd (M.room 2).2.top.stands).kind=8:=by rw [hM.room_kind hp (by omega) hr];exact h8
   generalize (M.room 2).2=M1 at *
   obtain ⟨τ1,j1,j2,hT1⟩:=hop.top e1 hp hT.hk
   obtain ⟨vs1,vp1,fs1,fp1,hF1⟩:=hT1.fr
   have hcf1:=hF1.cells
   have hG1:=k1.topG hT1.pos
   have hqi:q < M1.input.length:=by rw [e6];omega
   have hnumq:isNum (M1.input.getD q 0):=k1.inp _ (getD_mem hqi)
   have o1:(⟨1,M1.input.getD q 0,[]⟩:Nd).may=true:=may_int hnumq
   have o2:(⟨8,(q:Int)+1,[]⟩:Nd).may=true:=by simp [Nd.may,mayB];omega
   have g1:=k1.g.add' (nd:=⟨1,M1.input.getD q 0,[]⟩) o1 (by simp) (fun a ha=>by cases ha) (by omega)
   have g2:=g1.add' (nd:=⟨8,(q:Int)+1,[]⟩) o2 (by simp) (fun a ha=>by cases ha) (by rw [len_add];show ((M1.st.ns.length+1:Nat):Int) < M1.st.size;omega)
   (try simp only [go_sem,simprocAttr,cell_of hcf1,frCells])
   refine e_call (by rfl) ?_
   refine (m_over hT1.at' k1.g.st k1.g.ends hG1.sd).mono ?_
   rintro _ w2 ⟨v1,rfl,hv1,hm2⟩
   (try simp only [go_sem,simprocAttr])
   refine e_al ?_
   intro w3 hb3 hm3 _
   refine e_sta (cs:=[I 0,I 0,.slice none 0 0]) rfl rfl hb3 rfl rfl (node_one hv1 _ _) ?_
   intro w4 hb4 hm4 _
   have s1:=hm2.size
   have hm14:Mod (fun _=>False) w1 w4:=(hm2.trans hm3).step hm4 (fun x hx hl=>by subst hx;omega)
   have hT4:=hT1.later hm14
   obtain ⟨vG4,vF4,vW4,vT4,fg4,ff4,fw4,ft4,F4,h4⟩:=id hT4.at'
   have hc4:=h4.cells
   obtain ⟨aI',cI',e',hIl',hcI⟩:=id h4.inp
   obtain ⟨ad,rfl,hcI⟩:=hcI q hqi
   have hcI:w4.cell? (ad.add q)=some (I (M1.input.getD q 0)):=by rw [show M1.input.getD q 0=M1.input[q] by rw [List.getD_eq_getElem?_getD,List.getElem?_eq_getElem hqi];rfl];assumption
   have b1:(0:Int)≤q∧(q:Int) < M1.input.length:=by omega
   (try simp only [go_sem,simprocAttr,zb4,zb6,cell_of hc4,mcCells,e',b1,hcI])
   refine e_call (by rfl) ?_
   refine (m_add' (nd:=⟨1,M1.input.getD q 0,[]⟩) h4 k1.g.st o1 rfl (ints_nil _) (by omega)).mono ?_
   rintro _ w5 ⟨rfl,F5,h5,hm5⟩
   have eq1:IntKind.i64.wrap ((q:Int)+1)=(q:Int)+1:=wrap_in (by omega) (by omega)
   (try simp only [go_sem,simprocAttr,eq1])
   refine e_call (by rfl) ?_
   refine (m_add' (nd:=⟨8,(q:Int)+1,[]⟩) h5 g1.st o2 rfl (ints_nil _) (by show ((M1.st.add _).ns.length:Int) < M1.st.size;rw [len_add];omega)).mono ?_
   rintro _ w6 ⟨rfl,F6,h6,hm6⟩
   have hc6:=h6.cells
   (try simp only [go_sem,simprocAttr,cell_of hc6,mcCells])
   refine e_bs (by rfl) (by rfl) ?_
   intro w7 hb7 hm7 _
   have h7:=h6.mod hm7 (newTag_ext _ w6 .no).wx (fun _ _ h=>h.elim)
   have el:(((M1.st.add ⟨1,M1.input.getD q 0,[]⟩).ns.length:Nat):Int)=(M1.st.ns.length:Int)+1:=by rw [len_add];rfl
   rw [el] at hb7 ⊢
   refine ⟨_,rfl,?_⟩
   have hov:=k1.g.ov hG1.sd
   refine s_set (p:=(M1.st.ov M1.top.stands:Int)) (nd:=⟨2,4,[(M1.st.ns.length:Int),(M1.st.ns.length:Int)+1]⟩) (v:=.slice (some ⟨w6.heap.size,0,none⟩) 2 2) (by rfl) (by rfl) h7.st g2.st ⟨by omega,?_⟩ rfl (okPl_of (fun a ha=>?_)) (ints_blk (xs:=[(M1.st.ns.length:Int),(M1.st.ns.length:Int)+1]) hb7 (by simp)) ?_
   · show (M1.st.ov M1.top.stands:Int) < (((M1.st.add ⟨1,M1.input.getD q 0,[]⟩).add ⟨8,(q:Int)+1,[]⟩).ns.length:Int)
     rw [len_add,len_add];omega
   · show 0≤a∧a < (((M1.st.add ⟨1,M1.input.getD q 0,[]⟩).add ⟨8,(q:Int)+1,[]⟩).ns.length:Int)
     rw [len_add,len_add]
     simp only [List.mem_cons,List.not_mem_nil,or_false] at ha
     rcases ha with rfl | rfl<;>omega
   intro w8 F8 hst8 hg8
   (try simp only [go_sem,simprocAttr])
   rw [Int.toNat_natCast] at hst8
   have h8f:=h7.store (s:=M1.st.add ⟨1,M1.input.getD q 0,[]⟩ |>.add ⟨8,(q:Int)+1,[]⟩ |>.set (M1.st.ov M1.top.stands) ⟨2,4,[(M1.st.ns.length:Int),(M1.st.ns.length:Int)+1]⟩) hg8 hst8 rfl
   have e2:M1.read2 (q:Int) = { M1 with st:=M1.st.add ⟨1,M1.input.getD q 0,[]⟩ |>.add ⟨8,(q:Int)+1,[]⟩ |>.set (M1.st.ov M1.top.stands) ⟨2,4,[(M1.st.ns.length:Int),(M1.st.ns.length:Int)+1]⟩}:=rfl
   rw [e2]
   have t7:MOp w7 _ m S _ ks w8:=⟨_,stTag_ext _ w7 F8,⟨_,_,_,_,_,_,_,_,_,h8f⟩,hg8.1.weak h7.ownF⟩
   have t6:=MOp.boxed hm7 t7
   have t5:=MOp.cat (stTag_ext _ w5 F6) (hm6.weak h5.ownF) t6
   have t4:=MOp.cat (stTag_ext _ w4 F5) (hm5.weak h4.ownF) t5
   exact MOp.cat j1 j2 (MOp.boxed hm14 t4)
 · rw [if_neg (by simpa using hr)]
   (try simp only [go_sem,simprocAttr])
   exact hop
end
end
section
open Go Go.W
section
variable {w:World} {τ:Tag} {m:Nat} {S:SV} {M:Mc} {ks:List Nat} {k:Nat} {x:Ins} {n:Int}
theorem x_unwind (hT:TopAt w τ m S M ks k) (hM:MOk n M) (he:M.ended=0) (href:M.st.kd≠.ref) (hfl:M.frames.length≤4294967295) (hwl:M.wait.length≤4294967295) (hsl:M.top.spine.length≤4294967294) (hR:M.roots.length≤17592186044416) :
   CallsR Tryz.prog 46 [ptr m,ptr k] w fun _ w'=>∃ ks',MOp w τ m S (M.unwind M.top) ks' w':=by
 have hp:=hT.pos
 have hG:=hM.topG hp
 have hnd:=hM.g.nd hG.sd
 have hmk:=may_kind hnd.1
 obtain ⟨vs,vp,fs,fp,hF⟩:=hT.fr
 have hcf:=hF.cells
 refine fit46.calls rfl ?_
 unfold ir46
 (try simp only [go_sem,simprocAttr,cell_of hcf,frCells,ptr])
 refine e_call (by rfl) ?_
 refine (m_over hT.at' hM.g.st hM.g.ends hG.sd).mono ?_
 rintro _ w1 ⟨v1,rfl,hv1,hm1⟩
 (try simp only [go_sem,simprocAttr])
 refine e_al ?_
 intro w2 hb2 hm2 _
 refine e_sta (cs:=[I 0,I 0,.slice none 0 0]) rfl rfl hb2 rfl rfl (node_one hv1 _ _) ?_
 intro w3 hb3 hm3 _
 have s1:=hm1.size
 have hm13:Mod (fun _=>False) w1 w3:=hm2.step hm3 (fun x hx hl=>by subst hx;omega)
 have hm03:Mod (fun _=>False) w w3:=hm1.trans hm13
 have hT3:=hT.later hm03
 obtain ⟨vs3,vp3,fs3,fp3,hF3⟩:=hT3.fr
 have hcf3:=hF3.cells
 obtain ⟨vG,vF,vW,vT,fg,ff,fw,ft,F,hh⟩:=id hT3.at'
 have hc:=hh.cells
 have lift:∀ {M':Mc} {f:Nat} {vs:List Value},CallsR Tryz.prog f vs w3 (fun _ w'=>MOp w3 (newTag τ w .no) m S M' ks w')→CallsR Tryz.prog f vs w3 (fun _ w'=>∃ ks',MOp w τ m S M' ks' w'):=fun hh=>hh.mono (fun _ _ h=>⟨_,MOp.boxed hm03 h⟩)
 have lift2:∀ {M':Mc} {f:Nat} {vs:List Value},CallsR Tryz.prog f vs w3 (fun _ w'=>∃ ks',MOp w3 (newTag τ w .no) m S M' ks' w')→CallsR Tryz.prog f vs w3 (fun _ w'=>∃ ks',MOp w τ m S M' ks' w'):=fun hh=>hh.mono (fun _ _ ⟨a,h⟩=>⟨a,MOp.boxed hm03 h⟩)
 obtain ⟨fpA,hvA,hfA⟩:=hv1
 obtain ⟨va,vc,rfl,_⟩:=hvA.val
 have hb3':=hb3
 unfold Mc.unwind
 (try simp only [go_sem,simprocAttr,cell_of hb3])
 refine ir_cond rfl (fun hk=>?_) (fun hk=>?_)
 · simp only [zb1,zb2,zb3,zb4,zb5] at hk
   rw [if_pos hk]
   obtain ⟨aP,cP,rfl,hcP,_⟩:=hF3.spine.val
   (try simp only [go_sem,simprocAttr,cell_of hcf3,frCells])
   refine e_bs (by rfl) (by rfl) ?_
   intro w4 hb4 hm4 _
   (try simp only [go_sem,simprocAttr])
   refine e_ap (m:=1) (news:=[I (M.st.ov M.top.stands)]) rfl (hF3.spine.mod hm4 (fun _ _ h=>h)) rfl (fun h=>by cases h) (rd_block (xs:=[I (M.st.ov M.top.stands)]) hb4) (oneI [(M.st.ov M.top.stands:Int)]) rfl (by omega) (by omega) ?_
   intro v5 w5 fp5 ho5 hm5 hf5
   obtain ⟨a1,a2,a3⟩:=fr_apart hF3
   have hc5:=hm5.at (hm4.at hcf3 (fun h=>h)) (fun e=>a2 e)
   obtain ⟨av5,cv5,rfl,_⟩:=ho5.val
   (try simp only [go_sem,simprocAttr])
   refine e_st1 (off:=4) rfl rfl hc5 rfl (by simp [frCells]) ?_
   intro w6 hb6 hm6 _
   have l3:k < w3.heap.size:=hF3.lt.1
   have hN3:newTag τ w .no w1.heap.size = .no:=newTag_new (by omega)
   have nk:w1.heap.size≠k:=fun e=>by have:=hF3.tk;rw [← e,hN3] at this;cases this
   have nfp:fp3≠some w1.heap.size:=fun e=>by have:=hF3.tp _ e;rw [hN3] at this;cases this
   have hb36:=hm6.at (hm5.at (hm4.at hb3 (fun h=>h)) (fun e=>nfp e)) (fun e=>nk e)
   have ha2:=hmk.2.2.1 hk
   have hvA3:=hvA.mod hm13 (fun _ _ h=>h)
   have hvA6:OwnS w6 3 1 _ _ _ _:=((hvA3.mod hm4 (fun _ _ h=>h)).mod hm5 (fun b hb e=>by
     have:=hF3.tp _ e;rw [newTag_new (hfA b hb)] at this;cases this)).mod hm6 (fun b hb e=>by
     have:=hF3.tk;rw [← e,newTag_new (hfA b hb)] at this;cases this)
   rw [ha2] at hvA6
   obtain ⟨bA,rfl,_,hcA⟩:=own_cell hvA6 (i:=0) (by omega)
   have hcA:w6.cell? ⟨bA,0,none⟩=some (I ((M.st.nd M.top.stands).args.getD 0 0)):=by
     rw [hcA,List.getElem?_map,List.getElem?_eq_getElem (by omega),List.getD_eq_getElem?_getD,List.getElem?_eq_getElem (by omega)];rfl
   have b1:(0:Int)≤0∧(0:Int) < ((M.st.nd M.top.stands).args.length:Int):=by omega
   (try simp only [go_sem,simprocAttr,zb4,zb6,cell_of hb36,b1,add_at,hcA])
   refine e_st1 (off:=5) rfl rfl hb6 rfl (by simp [frCells]) ?_
   intro w7 hb7 hm7 _
   (try simp only [go_sem,simprocAttr])
   refine ⟨_,MOp.boxed hm03 (hT3.frm (fr_spine (f':={ M.top with spine:=M.top.spine++[(M.st.ov M.top.stands:Int)],stands:=(M.st.nd M.top.stands).args.getD 0 0}) hF3 (w2:=w5) (by simpa using ho5) rfl (by simpa [frCells] using hb7) ((hm4.weak (fun _ h=>h.elim)).step hm5 (fun b hb _=>hb)) (hm6.trans hm7) (fun b hb=>(hf5 b hb).imp id (fun hh=>by have:=hm4.size;omega))))⟩
 simp only [zb1,zb2,zb3,zb4,zb5] at hk
 rw [if_neg hk]
 (try simp only [go_sem,simprocAttr])
 refine ir_cond rfl (fun hk2=>?_) (fun hk2=>?_)
 · simp only [zb1,zb2,zb3,zb4,zb5] at hk2
   rw [if_pos hk2]
   have hgl:=hnd.2.2.1 hk2
   have hg0:=(hmk.2.2.2.1 hk2).2
   obtain ⟨g,hg⟩:∃ g:Nat,(M.st.nd M.top.stands).num=g:=⟨(M.st.nd M.top.stands).num.toNat,by omega⟩
   obtain ⟨ad,c,cv,hvgl,B1,_,hari,_,_⟩:=glob_at hh.tab (i:=g) (by omega)
   have hari:w3.cell? ⟨(ad.add (g*3)).block,(ad.add (g*3)).off+1,none⟩=some (I (M.tab.gl g).arity):=hari
   have b1:(0:Int)≤g∧(g:Int) < M.tab.globals.length:=by omega
   obtain ⟨aP,cP,rfl,hcP,_⟩:=hF3.spine.val
   have hb3g:=hb3
   rw [hg] at hb3g
   (try simp only [go_sem,simprocAttr,zb4,zb6,cell_of hcf3,frCells,cell_of hc,mcCells,cell_of hb3g,hvgl,b1,hari])
   have hb3d:w3.drew.heap[w1.heap.size]? = _:=hb3g
   have hT3d:TopAt w3.drew (newTag τ w .no) m S M ks k:=hT3.mod (Mod.refl (fun _=>False) w3).drew (ext_refl _ _).wx (fun _ _ h=>h.elim)
   refine ir_cond rfl (fun har=>?_) (fun har=>?_)
   · simp only [zb1,zb2,zb3,zb4,zb5] at har
     rw [hg,if_pos har]
     (try simp only [go_sem,simprocAttr,cell_of hb3g])
     refine e_call (by rfl) ?_
     have:=x_call hT3d hM he hk2 href (by omega) (by rw [hg];exact har)
     rw [hg] at this
     refine this.mono ?_
     intro _ w4 hop
     (try simp only [go_sem,simprocAttr])
     exact ⟨_,MOp.boxed hm03 hop.of_drew⟩
   · simp only [zb1,zb2,zb3,zb4,zb5] at har
     rw [hg,if_neg har]
     (try simp only [go_sem,simprocAttr])
     refine e_call (by rfl) ?_
     refine (x_lacks hT3d hM he href hfl hwl hR).mono ?_
     rintro _ w4 ⟨ks',hop⟩
     (try simp only [go_sem,simprocAttr])
     exact ⟨_,MOp.boxed hm03 hop.of_drew⟩
 simp only [zb1,zb2,zb3,zb4,zb5] at hk2
 rw [if_neg hk2]
 (try simp only [go_sem,simprocAttr])
 refine ir_then (fun ρ w'=>w3=w'∧ρ.get 0=some (ptr m)∧ρ.get 1=some (ptr k)∧ρ.get 5=some (ptr w1.heap.size)∧ρ.get 16=some (I (M.st.nd M.top.stands).kind)∧ρ.get 65=some (.bool (decide ((M.st.nd M.top.stands).kind=1∨(M.st.nd M.top.stands).kind=2)))) ?_ ?_
 · refine ir_cond rfl (fun h1=>?_) (fun h1=>?_)
   · simp only [zb1,zb2,zb3,zb4,zb5] at h1
     (try simp only [go_sem,simprocAttr])
     simp [h1]
   · simp only [zb1,zb2,zb3,zb4,zb5] at h1
     (try simp only [go_sem,simprocAttr])
     by_cases h2':(M.st.nd M.top.stands).kind=2<;>simp [h1,h2']
 rintro ρ _ ⟨rfl,r0,r1,r5,r16,r65⟩
 refine ir_cond (show O.ev ρ (.t 65)=_ from r65) (fun h12=>?_) (fun h12=>?_)
 · simp only [zb1,zb2,zb3,zb4,zb5] at h12
   rw [if_pos h12]
   obtain ⟨aP,cP,rfl,hcP,_⟩:=hF3.spine.val
   (try simp only [go_sem,simprocAttr,r0,r1,r5,r16,cell_of hcf3,frCells])
   refine ir_cond rfl (fun hz=>?_) (fun hz=>?_)
   · simp only [zb1,zb2,zb3,zb4,zb5] at hz
     rw [if_pos (by omega)]
     (try simp only [go_sem,simprocAttr])
     refine e_call (by rfl) ?_
     refine (lift (m_fail hT3.at' 5)).mono ?_
     intro _ w4 hop
     (try simp only [go_sem,simprocAttr])
     exact hop
   · simp only [zb1,zb2,zb3,zb4,zb5] at hz
     rw [if_neg (by omega)]
     (try simp only [go_sem,simprocAttr])
     refine e_call (by rfl) ?_
     refine (lift2 ((m_leave hT3.at' hp (by omega)).mono (fun _ _ h=>⟨_,h⟩))).mono ?_
     intro _ w4 hop
     (try simp only [go_sem,simprocAttr])
     exact hop
 simp only [zb1,zb2,zb3,zb4,zb5] at h12
 rw [if_neg h12]
 (try simp only [go_sem,simprocAttr,r0,r1,r5,r16])
 refine ir_cond rfl (fun h8=>?_) (fun h8=>?_)
 · simp only [zb1,zb2,zb3,zb4,zb5] at h8
   rw [if_pos h8]
   (try simp only [go_sem,simprocAttr,r0,r1,r5,r16,cell_of hb3])
   refine e_call (by rfl) ?_
   refine (lift (x_read hT3 hM href h8 hR)).mono ?_
   intro _ w4 hop
   (try simp only [go_sem,simprocAttr])
   exact hop
 simp only [zb1,zb2,zb3,zb4,zb5] at h8
 rw [if_neg h8]
 (try simp only [go_sem,simprocAttr])
 refine ir_cond rfl (fun h6=>?_) (fun h6=>?_)
 · simp only [zb1,zb2,zb3,zb4,zb5] at h6
   rw [if_pos h6]
   (try simp only [go_sem,simprocAttr])
   refine e_call (by rfl) ?_
   refine (lift (m_fail hT3.at' 5)).mono ?_
   intro _ w4 hop
   (try simp only [go_sem,simprocAttr])
   exact hop
 · simp only [zb1,zb2,zb3,zb4,zb5] at h6
   rw [if_neg h6]
   (try simp only [go_sem,simprocAttr])
   refine e_call (by rfl) ?_
   refine (lift (m_fail hT3.at' 4)).mono ?_
   intro _ w4 hop
   (try simp only [go_sem,simprocAttr])
   exact hop
end
end
section
open Go Go.W
def stepR (M:Mc):Int×Int:=if M.ended≠0 then (0,221) else (M.step.ended,0)
theorem stCol_ren (s:St) (hr:s.kd≠.ref) (roots:List Int):(stCol s roots).1=roots.map (colRen s roots):=by
 obtain ⟨kd,sz,ns⟩:=s
 cases kd with
 | ref=>exact absurd rfl hr
 | hp t=>rfl
 | gn y o t=>rfl
section
variable {w:World} {τ:Tag} {m:Nat} {S:SV} {M:Mc} {ks:List Nat} {k:Nat} {x:Ins} {n:Int}
theorem m_step (h:MAt w τ m S M ks) (hM:MOk n M) (hn:n < 1000000) (href:M.st.kd≠.ref) (hs:0≤M.steps∧M.steps≤1000000) (hg:0 < M.globals.length) :
   CallsR Tryz.prog 24 [ptr m] w fun r w'=>r = .tuple #[I (stepR M).1,I (stepR M).2]∧∃ ks',MOp w τ m S M.step ks' w':=by
 have hR:=hM.roots_le (by omega)
 have hln:=hM.ln
 have hlf:=hM.lf
 have hlw:=hM.lw
 have hlt:=hM.lt
 obtain ⟨vG,vF,vW,vT,fg,ff,fw,ft,F,hh⟩:=id h
 have hc:=hh.cells
 have hkl:=hh.len
 obtain ⟨aF,cF,rfl,_⟩:=hh.fr.val
 refine fit24.calls rfl ?_
 unfold ir24
 (try simp only [go_sem,simprocAttr,cell_of hc,mcCells,ptr])
 refine ir_cond rfl (fun he=>?_) (fun he=>?_)
 · simp only [zb1,zb2,zb3,zb4,zb5] at he
   have e1:stepR M=(0,221):=by unfold stepR;rw [if_pos he]
   have e2:M.step=M:=by unfold Mc.step;rw [if_pos he]
   rw [e1,e2]
   (try simp only [go_sem,simprocAttr])
   exact ⟨ks,τ,ext_refl _ _,h,Mod.refl _ _⟩
 simp only [zb1,zb2,zb3,zb4,zb5] at he
 have he:M.ended=0:=he
 have e1:stepR M=(M.step.ended,0):=by unfold stepR;rw [if_neg (by simp [he])]
 rw [e1]
 (try simp only [go_sem,simprocAttr,cell_of hc,mcCells])
 refine ir_blk (fun ρ w'=>ρ.get 0=some (ptr m)∧∃ ks',MOp w τ m S M.work ks' w') ?_ ?_
 · refine ir_cond rfl (fun hf=>?_) (fun hf=>?_)
   · simp only [zb1,zb2,zb3,zb4,zb5] at hf
     have hf:M.frames.length=0:=by omega
     (try simp only [go_sem,simprocAttr])
     refine e_call (by rfl) ?_
     refine (x_tell h hM he href (by omega) (by omega) (by omega)).mono ?_
     rintro _ w1 ⟨ks',hop⟩
     (try simp only [go_sem,simprocAttr])
     have e:M.work=M.tell:=by unfold Mc.work;rw [if_pos hf]
     rw [e]
     exact ⟨ks',hop⟩
   simp only [zb1,zb2,zb3,zb4,zb5] at hf
   have hf:0 < M.frames.length:=by omega
   obtain ⟨k,hk⟩:∃ k,ks[M.frames.length - 1]? = some k:=⟨_,List.getElem?_eq_getElem (by omega)⟩
   have hT:TopAt w τ m S M ks k:=⟨h,hf,hk⟩
   obtain ⟨vs,vp,fs,fp,hF⟩:=hT.fr
   have hcf:=hF.cells
   obtain ⟨bF,rfl,hff,hcellF⟩:=own_cell hh.fr (i:=M.frames.length - 1) (by omega)
   have hcellF:w.cell? ⟨bF,M.frames.length - 1,none⟩=some (ptr k):=by rw [hcellF,List.getElem?_map,hk];rfl
   obtain ⟨j,hj⟩:∃ j:Nat,j+1=ks.length:=⟨ks.length - 1,by omega⟩
   rw [show M.frames.length - 1=j by omega] at hcellF
   have q1:IntKind.i64.wrap ((ks.length:Int) - 1)=j:=by rw [wrap_in (by omega) (by omega)];omega
   have b1:(0:Int)≤j∧(j:Int) < ks.length:=by omega
   have hcd:w.drew.heap[m]? = _:=hc
   have hTd:TopAt w.drew τ m S M ks k:=hT.mod (Mod.refl (fun _=>False) w).drew (ext_refl _ _).wx (fun _ _ h=>h.elim)
   have hTdd:TopAt w.drew.drew τ m S M ks k:=hTd.mod (Mod.refl (fun _=>False) w.drew).drew (ext_refl _ _).wx (fun _ _ h=>h.elim)
   (try simp only [go_sem,simprocAttr,zb4,zb6,cell_of hc,mcCells,q1,b1,add_at,hcellF,ptr,cell_of hcf,frCells])
   refine ir_cond rfl (fun hr=>?_) (fun hr=>?_)
   · (try simp only [go_sem,simprocAttr,zb4,zb6,cell_of hc,mcCells,q1,b1,add_at,hcellF,ptr])
     refine e_call (by rfl) ?_
     refine (x_run hTdd ⟨hM,hf,he,hr,rfl⟩ href (by omega) hR).mono ?_
     rintro _ w1 ⟨ks',hop⟩
     (try simp only [go_sem,simprocAttr])
     have e:M.work=M.run:=by unfold Mc.work;rw [if_neg (by omega),if_pos hr]
     rw [e]
     exact ⟨ks',hop.of_drew.of_drew⟩
   · (try simp only [go_sem,simprocAttr,zb4,zb6,cell_of hc,mcCells,q1,b1,add_at,hcellF,ptr])
     refine e_call (by rfl) ?_
     have hsp:=(hM.topG hf).lsp
     refine (x_unwind hTdd hM he href (by omega) (by omega) (by omega) hR).mono ?_
     rintro _ w1 ⟨ks',hop⟩
     (try simp only [go_sem,simprocAttr])
     have e:M.work=M.unwind M.top:=by unfold Mc.work;rw [if_neg (by omega),if_neg (by rw [hr];simp)]
     rw [e]
     exact ⟨ks',hop.of_drew.of_drew⟩
 rintro ρ w1 ⟨r0,ks',hop⟩
 obtain ⟨τ1,j1,h1,j2⟩:=hop
 obtain ⟨vG1,vF1,vW1,vT1,fg1,ff1,fw1,ft1,F1,hh1⟩:=id h1
 have hc1:=hh1.cells
 have hcal:=cal_work M
 (try simp only [go_sem,simprocAttr,r0,cell_of hc1,mcCells,ptr])
 refine ir_cond rfl (fun h5=>?_) (fun h5=>?_)
 · simp only [zb1,zb2,zb3,zb4,zb5] at h5
   have e:M.step=M.work:=by unfold Mc.step;rw [if_neg (by simp [he]),if_pos h5]
   rw [e]
   (try simp only [go_sem,simprocAttr,cell_of hc1,mcCells])
   exact ⟨ks',τ1,j1,h1,j2⟩
 simp only [zb1,zb2,zb3,zb4,zb5] at h5
 obtain ⟨hM1,hM2,hst⟩:MOk (n+1) M.work∧MOk (n+1) M.step∧M.step=({ M.work with steps:=M.work.steps+1}:Mc).tidy:=by
   rcases hM.step he with ⟨hw,_⟩ | hw
   · exact absurd hw.ended h5
   · exact hw
 have q2:IntKind.i64.wrap (M.work.steps+1)=M.work.steps+1:=wrap_in (by rw [hcal.steps];omega) (by rw [hcal.steps];omega)
 (try simp only [go_sem,simprocAttr,cell_of hc1,mcCells,q2])
 refine e_st1 (off:=14) rfl rfl hc1 rfl (by simp [mcCells]) ?_
 intro w2 hb2 hm2 _
 obtain ⟨M2,hM2e⟩:∃ M2:Mc,M2 = { M.work with steps:=M.work.steps+1}:=⟨_,rfl⟩
 have hh2:=hh1.scal (M':=M2) hm2 (by rw [hM2e];simpa [mcCells] using hb2) (by rw [hM2e]) (by rw [hM2e]) (by rw [hM2e]) (by rw [hM2e]) (by rw [hM2e]) (by rw [hM2e]) (by rw [hM2e])
 rw [← hM2e] at hst
 have hok2:MOk (n+1) M2:=by rw [hM2e];exact hM1.stepped _
 have hc2:=hh2.cells
 have hs2:0≤M2.steps∧M2.steps≤1000001:=by
   have e:M2.steps=M.work.steps+1:=by rw [hM2e]
   rw [e,hcal.steps];omega
 have hkd2:M2.st.kd≠.ref:=by rw [hM2e];exact hcal.kd href
 have hg2:0 < M2.globals.length:=by
   have e:M2.globals=M.work.globals:=by rw [hM2e]
   rw [e,(stat_work M).gl];exact hg
 have step2:∀ {Mf:Mc} {w':World},MOp w2 τ1 m S Mf ks' w'→MOp w τ m S Mf ks' w':=fun hop=>MOp.cat j1 j2 (MOp.cat (ext_refl _ w1) (hm2.weak (fun b hb=>by subst hb;rw [hh1.tm];simp [Tg.own])) hop)
 have hrem:∀ b:Int,b > 0→IntKind.i64.wrap (M2.steps.tmod b)=M2.steps.tmod b:=by
   intro b hb
   have h1:=Int.tmod_nonneg b hs2.1
   have h2:=Int.tmod_lt_of_pos M2.steps hb
   have h3:M2.steps.tmod b≤M2.steps:=by
     rcases Int.lt_or_le M2.steps b with h4 | h4
     · rw [Int.tmod_eq_of_lt hs2.1 h4];omega
     · omega
   exact wrap_in (by omega) (by omega)
 (try simp only [go_sem,simprocAttr,cell_of hc2,mcCells])
 refine wpS_cut (fun ρ w'=>w'=w2.drew∧ρ.get 0=some (ptr m)∧ρ.get 98=some (.bool (decide (M2.every > 0∧M2.steps.tmod M2.every=0)))) ?_ ?_
 · cases hp:decide (M2.every > 0) with
   | false=>
     (try simp only [go_sem,simprocAttr,cell_of hc2,mcCells,hp])
     simp only [zb1,zb2,zb3,zb4,zb5] at hp
     simp [hp]
   | true=>
     have hp':=of_decide_eq_true hp
     have hne:M2.every≠0:=by omega
     have hq:=hrem _ hp'
     (try simp only [go_sem,simprocAttr,cell_of hc2,mcCells,hp,hne,hq])
     by_cases hz:M2.steps.tmod M2.every=0<;>simp [hp',hz]
 rintro ρ _ ⟨rfl,r0,r98⟩
 (try simp only [go_sem,simprocAttr,r0,r98])
 refine ir_then (fun ρ w'=>ρ.get 0=some (ptr m)∧MOp w2 τ1 m S M.step ks' w') ?_ ?_
 · rw [hst]
   refine ir_cond rfl (fun hcol=>?_) (fun hcol=>?_)
   · simp only [zb1,zb2,zb3,zb4,zb5] at hcol
     unfold Mc.tidy
     rw [if_pos hcol]
     have hR2:=hok2.roots_le (by omega)
     have hne:M2.roots≠[]:=fun e=>by
       have:M2.globals=[]:=by unfold Mc.roots at e;simp at e;exact e.1
       rw [this] at hg2;simp at hg2
     have hmd:Mod (fun _=>False) w2 w2.drew.drew:=(Mod.refl (fun _=>False) w2).drew.drew
     have hh2d:=hh2.mod hmd (ext_refl τ1 w2).wx (fun _ _ h=>h.elim)
     obtain ⟨ti,ui,hsv⟩:=hh2d.st.iface
     (try simp only [go_sem,simprocAttr,cell_of hc2,mcCells,hsv,ptr])
     refine e_call (by rfl) ?_
     refine (m_roots ⟨_,_,_,_,_,_,_,_,_,hh2d⟩ hR2).mono ?_
     rintro r3 w3 ⟨⟨f3,ho3,hf3⟩,hm3⟩
     have lm:=hh2.lt
     have km:=hm3.old m lm (fun h=>h)
     (try simp only [go_sem,simprocAttr])
     refine ⟨km,?_⟩
     have hh3:=hh2d.mod hm3 (newTag_ext τ1 w2.drew.drew .no).wx (fun _ _ h=>h.elim)
     obtain ⟨hi3,_⟩:=ho3.ints hR2
     obtain ⟨va,vc,rfl,_⟩:=ho3.val
     refine s_col (roots:=M2.roots) (by rw [hsv];rfl) (by rfl) hh3.st hok2.g.st hi3 (okPl_of hok2.roots) ?_ hR2 ?_
     · intro _ x hx hF
       have hx1:=hh3.tF x hF
       obtain ⟨b,c',sp,e,rfl,_⟩:=ho3.pos (List.length_pos_iff.2 hne)
       cases e
       cases hx
       rw [newTag_new (hf3 _ rfl)] at hx1;cases hx1
     intro w4 F4 v4 hs4 hg4 hout
     have hh4:=hh3.store (s:=(stCol M2.st M2.roots).2) hg4 hs4 (stCol_size _ _)
     rw [stCol_ren _ hkd2] at hout
     obtain ⟨fp,ho4,hf4⟩:=hout
     obtain ⟨b,c',sp,rfl,rfl,hb4,_⟩:=ho4.pos (by simp;exact List.length_pos_iff.2 hne)
     obtain ⟨hb1,hb2'⟩:=hf4 b rfl
     (try simp only [go_sem,simprocAttr,show ((0:Int) == 0)=true from rfl])
     refine e_call (by rfl) ?_
     refine (m_moved (M:={ M2 with st:=(stCol M2.st M2.roots).2}) ⟨_,_,_,_,_,_,_,_,_,hh4⟩ (colRen M2.st M2.roots) ho4 (stTag_no hb1 hb2') hR2).mono ?_
     rintro r5 w5 ⟨hm5,⟨vG5,vF5,vW5,vT5,fg5,ff5,fw5,ft5,F5,hh5⟩⟩
     have hc5:=hh5.cells
     (try simp only [go_sem,simprocAttr,cell_of hc5,mcCells])
     refine s_used rfl hh5.st ?_
     (try simp only [go_sem,simprocAttr])
     refine e_st1 (off:=8) rfl rfl hc5 rfl (by simp [mcCells]) ?_
     intro w6 hb6 hm6 hs6
     (try simp only [go_sem,simprocAttr])
     have hfin:=hh5.scal (M':=M2.after (colRen M2.st M2.roots) (stCol M2.st M2.roots).2) hm6 (by simpa [mcCells,Mc.after,Mc.mapP,stCol_size] using hb6) rfl rfl rfl rfl rfl rfl rfl
     have k5:MOp w5 _ m S _ ks' w6:=⟨_,ext_refl _ _,⟨_,_,_,_,_,_,_,_,_,hfin⟩,hm6.weak (fun b hb=>by subst hb;rw [hh5.tm];simp [Tg.own])⟩
     have k4:=MOp.cat (ext_refl _ w4) hm5 k5
     have k3:=MOp.cat (stTag_ext _ w3 F4) (hg4.1.weak hh3.ownF) k4
     exact (MOp.boxed hm3 k3).of_drew.of_drew
   · simp only [zb1,zb2,zb3,zb4,zb5] at hcol
     unfold Mc.tidy
     rw [if_neg hcol]
     (try simp only [go_sem,simprocAttr])
     exact ⟨τ1,ext_refl _ _,⟨_,_,_,_,_,_,_,_,_,hh2.mod (Mod.refl (fun _=>False) w2).drew (ext_refl τ1 w2).wx (fun _ _ h=>h.elim)⟩,(Mod.refl _ w2).drew⟩
 rintro ρ w3 ⟨r0,hop⟩
 obtain ⟨τ3,q1,h3,q2⟩:=hop
 obtain ⟨vG3,vF3,vW3,vT3,fg3,ff3,fw3,ft3,F3,hh3⟩:=id h3
 have hc3:=hh3.cells
 (try simp only [go_sem,simprocAttr,r0,cell_of hc3,mcCells,ptr])
 exact ⟨ks',step2 ⟨τ3,q1,h3,q2⟩⟩
end
end
section
open Go Go.W
structure DI (ns:List Nd) (roots:List Int) (V:List Nat) (todo:List Int):Prop where
 nd:V.Nodup
 sub:∀ x∈V,x∈smallO ns 0 roots
 cl:∀ x∈V,∀ a∈(ndAt ns x).args,over ns a.toNat∈V∨∃ t∈todo,over ns t.toNat=over ns a.toNat
 rt:∀ a∈roots,over ns a.toNat∈V∨∃ t∈todo,over ns t.toNat=over ns a.toNat
 td:∀ t∈todo,over ns t.toNat∈smallO ns 0 roots
 inn:∀ t∈todo,0≤t∧t < ns.length
section
variable {ns:List Nd} {roots:List Int} {V:List Nat} {todo:List Int} {t:Int}
end
end
section
open Go Go.W
section
variable {w:World} {τ:Tag} {m:Nat} {S:SV} {M:Mc} {ks:List Nat} {n:Int}
end
end
section
open Go Go.W
def Alive (n:Int) (M:Mc):Prop:=MOk n M∨M.ended=5
theorem Alive.ok {n:Int} {M:Mc} (h:Alive n M) (he:M.ended=0):MOk n M:=by
 rcases h with h | h
 · exact h
 · omega
theorem step_end {M:Mc} (h:M.ended≠0):M.step=M:=by unfold Mc.step;rw [if_pos h]
theorem Alive.step {n:Int} {M:Mc} (h:Alive n M):Alive (n+1) M.step:=by
 by_cases he:M.ended=0
 · rcases (h.ok he).step he with ⟨hw,e⟩ | ⟨_,hw,_⟩
   · rw [e];exact .inr hw.ended
   · exact .inl hw
 · rw [step_end he]
   rcases h with h | h
   · exact .inl (h.more (by omega))
   · exact .inr h
theorem Alive.steps {n:Int} {M:Mc} (h:Alive n M) (k:Nat):Alive (n+k) (M.steps' k):=by
 induction k with
 | zero=>
   have e:n+((0:Nat):Int)=n:=by simp
   rw [e];exact h
 | succ k ih=>
   have e:n+((k+1:Nat):Int)=n+(k:Int)+1:=by omega
   rw [e];exact ih.step
theorem steps_end {M:Mc} {i:Nat} (h:(M.steps' i).ended≠0):∀ d:Nat,M.steps' (i+d)=M.steps' i:=by
 intro d
 induction d with
 | zero=>rfl
 | succ d ih=>
   show (M.steps' (i+d)).step=_
   rw [ih];exact step_end h
theorem steps_end' {M:Mc} {i j:Nat} (h:(M.steps' i).ended≠0) (hij:i≤j):M.steps' j=M.steps' i:=by
 obtain ⟨d,rfl⟩:∃ d,j=i+d:=⟨j - i,by omega⟩
 exact steps_end h d
theorem steps_going {M:Mc} {i:Nat} (h:(M.steps' (i+1)).ended=0):(M.steps' i).ended=0:=by
 apply Classical.byContradiction
 intro hh
 rw [steps_end' hh (Nat.le_succ i)] at h
 exact hh h
theorem work_five {M:Mc} (he:M.ended=0) (h:M.work.ended=5):M.step.ended=5:=by
 unfold Mc.step
 rw [if_neg (by simp [he]),if_pos h];exact h
theorem steps_count (M:Mc) (k:Nat):M.steps≤(M.steps' k).steps∧(M.steps' k).steps≤M.steps+k∧((M.steps' k).ended=0→(M.steps' k).steps=M.steps+k):=by
 induction k with
 | zero=>exact ⟨Int.le_refl _,by show M.steps≤_;omega,fun _=>by show M.steps=_;omega⟩
 | succ k ih=>
   obtain ⟨h1,h2,h3⟩:=ih
   have e:=step_steps (M.steps' k)
   show M.steps≤(M.steps' k).step.steps∧(M.steps' k).step.steps≤M.steps+((k+1:Nat):Int)∧((M.steps' k).step.ended=0→(M.steps' k).step.steps=M.steps+((k+1:Nat):Int))
   rw [e]
   split
   · rename_i hh
     refine ⟨by omega,by omega,fun _=>by have:=h3 hh.1;omega⟩
   · rename_i hh
     refine ⟨h1,by omega,fun he=>?_⟩
     exfalso
     have h0:(M.steps' k).ended=0:=steps_going he
     apply hh
     refine ⟨h0,fun h5=>?_⟩
     have:=work_five h0 h5
     omega
theorem steps_kd {M:Mc} (h:M.st.kd≠.ref) (k:Nat):(M.steps' k).st.kd≠.ref:=by
 induction k with
 | zero=>exact h
 | succ k ih=>exact step_kd ih
end
section
open Go Go.W
def seeRow (f:Fr):List Value:=if f.runs=true then [I f.glob,I f.at',I f.stack.length] else [I (-1),I 0,I f.spine.length]
def sightCells (M:Mc) (v:Value) (live:Int):List Value:=[I M.steps,v,I live,I M.ended]
structure Seen (w:World) (b:Nat) (M:Mc) (live:Int) (l:List Fr) (W:World):Prop where
 ex:∃ v fp,W.heap[b]? = some (.cells (sightCells M v live).toArray 59 (0,0))∧OwnS W 100 3 v (l.flatMap seeRow) l.length fp∧∀ c,fp=some c→w.heap.size≤c
 mod:Mod (· = b) w W
section
variable {w:World} {τ:Tag} {m:Nat} {S:SV} {M:Mc} {ks:List Nat} {n:Int}
end
end
section
open Go Go.W
section
variable {w:World} {τ:Tag} {m:Nat} {S:SV} {M:Mc} {ks:List Nat} {n:Int}
theorem m_run (h:MAt w τ m S M ks) (hM:Alive n M) (hn:n≤500000) (hn0:0≤n) (href:M.st.kd≠.ref) (hs:0≤M.steps∧M.steps≤500000) (hg:M.ended=0→0 < M.globals.length) {c:Int} (hc:c≤400000) :
   CallsR Tryz.prog 18 [ptr m,I c] w fun r w'=>r=I ((M.steps' c.toNat).steps - M.steps)∧∃ ks',MOp w τ m S (M.steps' c.toNat) ks' w':=by
 obtain ⟨vG,vF,vW,vT,fg,ff,fw,ft,F,hh⟩:=id h
 have hcm:=hh.cells
 refine fit18.calls rfl ?_
 unfold ir18
 (try simp only [go_sem,simprocAttr,cell_of hcm,mcCells,ptr])
 refine ir_loop (fun z ρ w'=>∃ (i:Nat) (ks':List Nat),z=c.toNat - i∧i≤c.toNat∧MOp w τ m S (M.steps' i) ks' w'∧ρ=[(0,ptr m),(1,I c),(5,I M.steps)]) c.toNat ⟨0,ks,rfl,by omega,⟨τ,ext_refl _ _,h,Mod.refl _ _⟩,rfl⟩ ?_
 rintro z ρ w1 ⟨i,ks',rfl,hi,hop,rfl⟩
 obtain ⟨τ1,j1,h1,j2⟩:=hop
 obtain ⟨vG1,vF1,vW1,vT1,fg1,ff1,fw1,ft1,F1,hh1⟩:=id h1
 have hc1:=hh1.cells
 obtain ⟨s1,s2,s3⟩:=steps_count M i
 have q1:IntKind.i64.wrap ((M.steps' i).steps - M.steps)=(M.steps' i).steps - M.steps:=wrap_in (by omega) (by omega)
 unfold ir18L1
 (try simp only [go_sem,simprocAttr,cell_of hc1,mcCells,ptr])
 refine wpS_cut (fun ρ w'=>w1=w'∧ρ.get 0=some (ptr m)∧ρ.get 1=some (I c)∧ρ.get 5=some (I M.steps)∧ρ.get 24=some (.bool (decide ((M.steps' i).ended=0∧(M.steps' i).steps - M.steps < c)))) ?_ ?_
 · cases he:((M.steps' i).ended == 0)
   · (try simp only [go_sem,simprocAttr,cell_of hc1,mcCells,he])
     simp only [zb1,zb2,zb3,zb4,zb5] at he
     simp [he]
   · (try simp only [go_sem,simprocAttr,cell_of hc1,mcCells,he,q1])
     simp only [zb1,zb2,zb3,zb4,zb5] at he
     simp [he]
 rintro ρ _ ⟨rfl,r0,r1,r5,r24⟩
 (try simp only [go_sem,simprocAttr,r0,r1,r5,r24])
 refine ir_cond rfl (fun hh=>?_) (fun hh=>?_)
 · simp only [zb1,zb2,zb3,zb4,zb5] at hh
   have hlt:i < c.toNat:=by have:=s3 hh.1;omega
   (try simp only [go_sem,simprocAttr])
   refine e_call (by rfl) ?_
   have hA:=hM.steps i
   refine (m_step h1 (hA.ok hh.1) (by omega) (steps_kd href i) ⟨by omega,by omega⟩ (by rw [(stat_steps M i).gl];exact hg (Classical.byContradiction fun h0=>by have e0:M.steps' i=M:=steps_end' (i:=0) (M:=M) h0 (Nat.zero_le i);rw [e0] at hh;exact h0 hh.1))).mono ?_
   rintro _ w2 ⟨rfl,ks2,hop2⟩
   (try simp only [go_sem,simprocAttr])
   exact ⟨_,by omega,i+1,ks2,rfl,by omega,MOp.cat j1 j2 hop2⟩
 · simp only [zb1,zb2,zb3,zb4,zb5] at hh
   have hfin:M.steps' c.toNat=M.steps' i:=by
     by_cases he:(M.steps' i).ended=0
     · have:=s3 he
       have:i=c.toNat:=by
         apply Classical.byContradiction
         intro hne
         exact hh ⟨he,by omega⟩
       rw [this]
     · exact steps_end' he hi
   (try simp only [go_sem,simprocAttr,cell_of hc1,mcCells,q1])
   rw [hfin]
   exact ⟨rfl,ks',τ1,j1,h1,j2⟩
end
end
section
open Go Go.W
theorem addr_add (a:Addr) (i k:Nat):(a.add i).add k=a.add (i+k):=by
 unfold Addr.add
 by_cases hi:i=0
 · subst hi;simp
 · by_cases hk:k=0
   · subst hk;simp
   · have:i+k≠0:=by omega
     simp [hi,hk,this,Nat.add_assoc]
theorem flat_lenR {sz:Nat}:∀ (rows:List (List Value)),(∀ r∈rows,r.length=sz)→(rows.flatMap id).length=rows.length*sz:=by
 intro rows
 induction rows with
 | nil=>intro _;simp
 | cons r rows ih=>
   intro hr
   have h0:=hr r (by simp)
   simp only [List.flatMap_cons,id,List.length_append,List.length_cons,ih (fun r hr'=>hr r (by simp [hr'])),h0,Nat.add_mul];omega
theorem rows_rd {w:World} {a:Option Addr} {n c sz:Nat} {rows:List (List Value)} {B:Nat→Prop} (h:RowsAt w (.slice a n c) sz rows B) (hsz:0 < sz):n=rows.length∧RdCells w a (n*sz) (rows.flatMap id)∧(a=none→n=0):=by
 obtain ⟨a',c',e,_,hx⟩:=h
 simp only [Value.slice.injEq] at e
 obtain ⟨rfl,rfl,rfl⟩:=e
 have hr:∀ r∈rows,r.length=sz:=fun r hr=>by
   obtain ⟨i,hi,rfl⟩:=List.getElem_of_mem hr
   obtain ⟨_,_,h1,_⟩:=hx i hi
   exact h1
 refine ⟨rfl,⟨flat_lenR rows hr,fun ad had j v hv=>?_⟩,fun ha=>?_⟩
 · have hj:j < rows.length*sz:=by rw [← flat_lenR rows hr];exact (List.getElem?_eq_some_iff.1 hv).1
   have hi:j / sz < rows.length:=(Nat.div_lt_iff_lt_mul hsz).2 hj
   have hk:j % sz < sz:=Nat.mod_lt _ hsz
   have hf:=flat_rows rows hr (j / sz) hi (j % sz) hk
   have e:j / sz*sz+j % sz=j:=by rw [Nat.mul_comm];exact Nat.div_add_mod j sz
   rw [e,hv] at hf
   obtain ⟨ad',e1,h1,h2⟩:=hx (j / sz) hi
   rw [had] at e1
   cases e1
   have h3:=h2 (j % sz) (by rw [h1];exact hk)
   rw [List.getElem?_eq_getElem (by rw [h1];exact hk)] at hf
   simp only [Option.some.injEq] at hf
   rw [← hf] at h3
   rw [addr_add,e] at h3
   exact h3
 · apply Classical.byContradiction
   intro hne
   obtain ⟨ad,e1,_⟩:=hx 0 (by omega)
   rw [ha] at e1;cases e1
theorem own_cells2 {w:World} {T sz n:Nat} {v:Value} {xs:List Value} {fp:Option Nat} (h:OwnS w T sz v xs n fp) {b:Nat} (hb:fp=some b):∃ cs,w.heap[b]? = some (.cells cs T (0,0)):=by
 obtain ⟨_,⟨_,_,e⟩ | ⟨b',c,sp,_,e,h5,_⟩⟩:=h
 · rw [e] at hb;cases hb
 · rw [e] at hb;cases hb;exact ⟨_,h5⟩
def glRow (g:Gl) (v:Value):List Value:=[.string g.name,I g.arity,v]
theorem insRow_len (l:List Ins):∀ r∈l.map insRow,r.length=3:=by
 intro r hr
 obtain ⟨x,_,rfl⟩:=List.mem_map.1 hr
 rfl
theorem insRow_one (l:List Ins):∀ u∈(l.map insRow).flatMap id,u.oneCell'=true:=by
 intro u hu
 obtain ⟨r,hr,hu⟩:=List.mem_flatMap.1 hu
 obtain ⟨x,_,rfl⟩:=List.mem_map.1 hr
 simp only [id,insRow,List.mem_cons,List.not_mem_nil,or_false] at hu
 rcases hu with rfl | rfl | rfl<;>rfl
theorem shRow_len (l:List Shp):∀ r∈l.map shRow,r.length=2:=by
 intro r hr
 obtain ⟨x,_,rfl⟩:=List.mem_map.1 hr
 rfl
theorem shRow_one (l:List Shp):∀ u∈(l.map shRow).flatMap id,u.oneCell'=true:=by
 intro u hu
 obtain ⟨r,hr,hu⟩:=List.mem_flatMap.1 hu
 obtain ⟨x,_,rfl⟩:=List.mem_map.1 hr
 simp only [id,shRow,List.mem_cons,List.not_mem_nil,or_false] at hu
 rcases hu with rfl | rfl<;>rfl
def CodesAt (w w':World) (l:List Gl) (codes:List Value):Prop:=∀ (j:Nat) (g:Gl) (v:Value),l[j]? = some g→codes[j]? = some v→∃ fc,OwnS w' 66 3 v ((g.code.map insRow).flatMap id) g.code.length fc∧∀ b,fc=some b→w.heap.size≤b
theorem CodesAt.mod {w w' w'':World} {l:List Gl} {codes:List Value} {X:Nat→Prop} (h:CodesAt w w' l codes) (hm:Mod X w' w'') (hX:∀ b,X b→∃ cs T0,w'.heap[b]? = some (.cells cs T0 (0,0))∧T0≠66):CodesAt w w'' l codes:=by
 intro j g v hg hv
 obtain ⟨fc,h1,h2⟩:=h j g v hg hv
 refine ⟨fc,h1.mod hm (fun b hb hx=>?_),h2⟩
 obtain ⟨cs,T0,h3,h4⟩:=hX b hx
 exact own_kind h1 hb h3 (fun e=>h4 e.symm)
section
variable {w:World} {vsh vgl:Value} {T:Tab} {B:Nat→Prop}
theorem f_copied (h:TabAt w vsh vgl T B) (hT:TabOk T):CallsR Tryz.prog 36 [tabV vsh vgl] w fun r w'=>∃ vsh' vgl',r=tabV vsh' vgl'∧TabAt w' vsh' vgl' T (fun b=>w.heap.size≤b∧b < w'.heap.size)∧Mod (fun _=>False) w w':=by
 have h0:=h
 obtain ⟨⟨aS,cS,rfl⟩,aG,cG,rfl⟩:=tab_sl h
 have hgn:=hT.gn
 have hsn:=hT.sn
 refine fit36.calls rfl ?_
 unfold ir36 tabV
 (try simp only [go_sem,simprocAttr])
 refine e_bx rfl ?_
 intro w1 hb1 hm1 hs1
 (try simp only [go_sem,simprocAttr])
 refine e_al ?_
 intro w2 hb2 hm2 hs2
 have hm02:=hm1.trans hm2
 have hb12:=hm2.at hb1 (fun h=>h)
 have h2:=h0.mod hm02 (fun _ _ h=>h) (fun _ h=>h)
 obtain ⟨_,hrd,hna⟩:=rows_rd h2.1 (by decide)
 (try simp only [go_sem,simprocAttr,cell_of hb12,Value.cells])
 refine e_call (by rfl) ?_
 refine (cloneShape hrd (shRow_one _) hna (by omega)).mono ?_
 rintro vs' w3 ⟨fS,hoS,hfS,hm3⟩
 obtain ⟨aS',cS',rfl,_⟩:=hoS.val
 (try simp only [go_sem,simprocAttr])
 refine e_al ?_
 intro w4 hb4 hm4 _
 refine e_sta (cs:=[.slice none 0 0,.slice none 0 0]) rfl rfl hb4 rfl rfl (by simp [Value.oneCell']) ?_
 intro w5 hb5 hm5 _
 have hm35:Mod (fun _=>False) w3 w5:=hm4.step hm5 (fun x hx hl=>by subst hx;omega)
 have hm05:=(hm02.trans hm3).trans hm35
 have hb15:=(hm3.trans hm35).at hb12 (fun h=>h)
 have hb25:=(hm3.trans hm35).at hb2 (fun h=>h)
 have hoS5:=hoS.mod hm35 (fun _ _ h=>h)
 have l1:=lt_of_heap hb1
 have l2:=lt_of_heap hb2
 have s02:=hm02.size
 have s23:=hm3.size
 have s1:=hm1.size
 (try simp only [go_sem,simprocAttr,cell_of hb15,Value.cells])
 refine ir_loop (fun z ρ w'=>∃ (i:Nat) (codes:List Value) (vg:Value) (f:Option Nat),z=T.globals.length - i∧i≤T.globals.length∧codes.length=i∧Mod (fun _=>False) w w'∧w'.heap[w1.heap.size]? = w5.heap[w1.heap.size]? ∧
   w'.heap[w3.heap.size]? = some (.cells #[.slice aS' T.shapes.length cS',vg] 25 (0,0))∧OwnS w' 89 2 (.slice aS' T.shapes.length cS') ((T.shapes.map shRow).flatMap id) T.shapes.length fS ∧
   OwnS w' 70 3 vg ((List.zipWith glRow (T.globals.take i) codes).flatMap id) i f∧(∀ b,f=some b→w3.heap.size < b)∧CodesAt w w' (T.globals.take i) codes ∧
   ρ=[(2,ptr w1.heap.size),(3,ptr w3.heap.size),(11,.slice aG T.globals.length cG),(12,I T.globals.length),(13,I i)]) T.globals.length
   ⟨0,[],.slice none 0 0,none,rfl,by omega,rfl,hm05,rfl,hb5,by simpa using hoS5,OwnS.nil _ _ _,(fun b hb=>by cases hb),(fun j g v hg=>by simp at hg),rfl⟩ ?_
 rintro z ρ w6 ⟨i,codes,vg,f,rfl,hi,hcl,hm6,hk1,hb6,hoS6,hoG,hfG,hcd,rfl⟩
 obtain ⟨aV,cV,rfl,_⟩:=hoG.val
 unfold ir36L1
 (try simp only [go_sem,simprocAttr])
 refine ir_cond rfl (fun hlt=>?_) (fun hlt=>?_)
 · have hlt:i < T.globals.length:=by simpa using hlt
   have h6:=h0.mod hm6 (fun _ _ h=>h) (fun _ h=>h)
   obtain ⟨ad,c,cv,e',hln,hcv⟩:=glob_ln h6 hlt
   cases e'
   have hgk:=hT.gls _ (List.getElem_mem hlt)
   have htk:=List.take_succ_eq_append_getElem hlt
   generalize T.globals[i]=g at *
   obtain ⟨acv,ccv,rfl⟩:=rows_sl hcv
   rw [List.length_map] at *
   have b1':(0:Int)≤i∧(i:Int) < T.globals.length:=by omega
   unfold glV at hln
   (try simp only [go_sem,simprocAttr,zb4,zb6,b1',hln])
   refine e_al ?_
   intro w7 hb70 hm7 _
   refine e_sta (cs:=[.string ⟨#[]⟩,I 0,.slice none 0 0]) rfl rfl hb70 rfl rfl (by simp [Value.oneCell']) ?_
   intro w8 hb8 hm8 _
   have hm68:Mod (fun _=>False) w6 w8:=hm7.step hm8 (fun x hx hl=>by subst hx;omega)
   have hb68:w8.heap[w3.heap.size]? = _:=hm68.at hb6 (fun h=>h)
   have hcv8:=hcv.mod (hm68.drew) (fun _ _ h=>h) (fun _ h=>h)
   obtain ⟨_,hrd8,hna8⟩:=rows_rd hcv8 (by decide)
   have hb8':w8.heap[w6.heap.size]? = some (.cells #[.string g.name,I g.arity,.slice acv g.code.length ccv] 70 (0,0)):=hb8
   have l6:=lt_of_heap hb6
   have lb8:=lt_of_heap hb8'
   have lb68:=lt_of_heap hb68
   (try simp only [go_sem,simprocAttr,cell_of hb68,cell_of hb8'])
   refine e_call (by rfl) ?_
   refine (cloneInstr hrd8 (insRow_one _) hna8 (by omega)).mono ?_
   rintro vc w9 ⟨fc,hoc,hfc,hm9⟩
   have k1:=hm9.old w3.heap.size lb68 (fun h=>h)
   have k2:=hm9.old w6.heap.size lb8 (fun h=>h)
   obtain ⟨ac',cc',rfl,_⟩:=hoc.val
   (try simp only [go_sem,simprocAttr])
   refine ⟨by simp only [drew_heap,k1,k2,and_self,implies_true],?_⟩
   refine e_bs (by rfl) (by rfl) ?_
   intro w10 hb10 hm10 _
   have k3:=hm10.old w3.heap.size (by have:=hm9.size;exact Nat.lt_of_lt_of_le lb68 this) (fun h=>h)
   (try simp only [go_sem,simprocAttr])
   refine ⟨by simp only [drew_heap,k3,and_self,implies_true],?_⟩
   have hm8d:Mod (fun _=>False) w8 w9:=Mod.of_drew hm9
   have hm6_10:=(hm68.trans hm8d).trans hm10
   refine e_ap (m:=1) (news:=glRow g (.slice ac' g.code.length cc')) rfl (hoG.mod hm6_10 (fun _ _ h=>h)) rfl (fun h=>by cases h) (rd_block (xs:=glRow g (.slice ac' g.code.length cc')) hb10) (by simp [glRow,Value.oneCell']) rfl (by omega) (by omega) ?_
   intro v11 w11 f11 ho11 hm11 hf11
   obtain ⟨a11,c11,rfl,_⟩:=ho11.val
   have fb3:f≠some w3.heap.size:=fun e=>by have:=hfG _ e;omega
   have hb11:=hm11.at (hm6_10.at hb6 (fun h=>h)) fb3
   (try simp only [go_sem,simprocAttr])
   refine e_st1 (off:=1) rfl rfl hb11 rfl (by simp) ?_
   intro w12 hb12' hm12 _
   have e1:IntKind.i64.wrap ((i:Int)+1)=((i+1:Nat):Int):=by rw [wrap_in (by omega) (by omega)];omega
   (try simp only [go_sem,simprocAttr,e1])
   have s610:=hm6_10.size
   have hX:Mod (fun b=>f=some b∨b=w3.heap.size) w10 w12:=(hm11.weak (fun b hb=>.inl hb)).step hm12 (fun b hb _=>.inr hb)
   have hX':∀ b,(f=some b∨b=w3.heap.size)→∃ cs T0,w10.heap[b]? = some (.cells cs T0 (0,0))∧T0≠66:=by
     rintro b (hb | rfl)
     · obtain ⟨cs,hcs⟩:=own_cells2 (hoG.mod hm6_10 (fun _ _ h=>h)) hb
       exact ⟨cs,_,hcs,by decide⟩
     · exact ⟨_,_,hm6_10.at hb6 (fun h=>h),by decide⟩
   have fw:∀ b,f=some b→¬ b < w.heap.size:=fun b hb=>by have:=hfG b hb;omega
   refine ⟨_,by omega,i+1,codes++[.slice ac' g.code.length cc'],.slice a11 (i+1) c11,f11,rfl,by omega,by simp [hcl],?_,?_,hb12',?_,?_,fun b hb=>?_,?_,rfl⟩
   · exact (hm6.trans hm6_10).step hX (fun b hb hl=>by
       rcases hb with hb | rfl
       · exact absurd hl (fw b hb)
       · omega)
   · rw [← hk1]
     have l16:w1.heap.size < w6.heap.size:=by omega
     rw [hX.old w1.heap.size (by omega) (fun hb=>by
       rcases hb with hb | hb
       · have:=hfG _ hb;omega
       · omega),hm6_10.old _ l16 (fun h=>h)]
   · refine (hoS6.mod hm6_10 (fun _ _ h=>h)).mod hX (fun b hb hx=>?_)
     rcases hx with hx | rfl
     · obtain ⟨cs,hcs⟩:=own_cells2 (hoG.mod hm6_10 (fun _ _ h=>h)) hx
       exact own_kind (hoS6.mod hm6_10 (fun _ _ h=>h)) hb hcs (by decide)
     · exact own_kind hoS6 hb hb6 (by decide)
   · have hz:(List.zipWith glRow (T.globals.take (i+1)) (codes++[.slice ac' g.code.length cc'])).flatMap id=(List.zipWith glRow (T.globals.take i) codes).flatMap id++glRow g (.slice ac' g.code.length cc'):=by
       rw [htk,List.zipWith_append (by rw [List.length_take,hcl];omega),List.flatMap_append]
       simp
     rw [hz]
     exact ho11.mod hm12 (fun b hb e=>by
       subst e
       rcases hf11 _ hb with h1 | h1
       · exact fb3 h1
       · omega)
   · rcases hf11 b hb with h1 | h1
     · exact hfG b h1
     · omega
   · intro j g' v' hg' hv'
     rw [htk] at hg'
     by_cases hj:j < i
     · rw [List.getElem?_append_left (by rw [List.length_take];omega)] at hg'
       rw [List.getElem?_append_left (by omega)] at hv'
       exact (hcd.mod hm6_10 (fun _ h=>h.elim)).mod hX hX' j g' v' hg' hv'
     · have hj2:j < (T.globals.take i++[g]).length:=(List.getElem?_eq_some_iff.1 hg').1
       rw [List.length_append,List.length_take] at hj2
       simp at hj2
       obtain rfl:j=i:=by omega
       rw [List.getElem?_append_right (by rw [List.length_take];omega)] at hg'
       rw [List.getElem?_append_right (by omega)] at hv'
       rw [List.length_take,show j - min j T.globals.length=0 by omega] at hg'
       rw [hcl,Nat.sub_self] at hv'
       simp at hg' hv'
       subst hg';subst hv'
       have hoc10:=hoc.mod hm10 (fun _ _ h=>h)
       refine ⟨fc,hoc10.mod hX (fun b hb hx=>?_),fun b hb=>by have:=hfc b hb;have:=hm6.size;have:=hm68.size;have e8:w8.drew.heap.size=w8.heap.size:=rfl;omega⟩
       obtain ⟨cs,T0,h3,h4⟩:=hX' b hx
       exact own_kind hoc10 hb h3 (fun e=>h4 e.symm)
 · have hlt:¬ i < T.globals.length:=by simpa using hlt
   obtain rfl:i=T.globals.length:=by omega
   rw [List.take_length] at *
   have hb26:w6.heap[w1.heap.size]? = _:=hk1.trans hb25
   (try simp only [go_sem,simprocAttr,ln_of (cs:=[_,_]) (off:=0) (n:=2) hb6 (by simp)])
   refine e_sta (cs:=[.slice none 0 0,.slice none 0 0]) rfl rfl hb26 rfl rfl (by simp [Value.oneCell']) ?_
   intro w7 hb7 hm7 _
   (try simp only [go_sem,simprocAttr,ln_of (cs:=[_,_]) (off:=0) (n:=2) hb7 (by simp)])
   have hm07:Mod (fun _=>False) w w7:=hm6.step hm7 (fun x hx hl=>by subst hx;omega)
   have l7:∀ {T0 sz n:Nat} {v:Value} {xs:List Value} {fp:Option Nat},OwnS w7 T0 sz v xs n fp→∀ b,fp=some b→b < w7.heap.size:=fun h b hb=>h.lt hb
   have hoS7:=hoS6.mod hm7 (fun b hb e=>by subst e;exact own_kind hoS6 hb hb26 (by decide))
   have hoG7:=hoG.mod hm7 (fun b hb e=>by subst e;exact own_kind hoG hb hb26 (by decide))
   have hcd7:=hcd.mod hm7 (fun b hb=>by subst hb;exact ⟨_,_,hb26,by decide⟩)
   refine ⟨_,_,rfl,⟨?_,codes,hcl,?_,?_⟩,hm07⟩
   · obtain ⟨a,c,e,hB,hx⟩:=own_rows (by rw [List.length_map];exact hoS7) (shRow_len T.shapes)
     exact ⟨a,c,e,fun hz ad had=>⟨by have:=hfS _ (hB hz ad had);omega,l7 hoS7 _ (hB hz ad had)⟩,hx⟩
   · have hzl:(List.zipWith glRow T.globals codes).length=T.globals.length:=by simp [hcl]
     obtain ⟨a,c,e,hB,hx⟩:=own_rows (rows:=List.zipWith glRow T.globals codes) (by rw [hzl];exact hoG7) (fun r hr=>by
       obtain ⟨j,hj,rfl⟩:=List.getElem_of_mem hr
       simp [glRow])
     exact ⟨a,c,e,fun hz ad had=>⟨by have:=hfG _ (hB hz ad had);omega,l7 hoG7 _ (hB hz ad had)⟩,hx⟩
   · intro j g v hg hv
     obtain ⟨fc,h1,h2⟩:=hcd7 j g v hg hv
     obtain ⟨a,c,e,hB,hx⟩:=own_rows (by rw [List.length_map];exact h1) (insRow_len g.code)
     exact ⟨a,c,e,fun hz ad had=>⟨h2 _ (hB hz ad had),l7 h1 _ (hB hz ad had)⟩,hx⟩
end
end
section
open Go Go.W
def newErr (T:Tab) (entry:ByteArray) (input:List Int) (heap every:Int):Int:=
 if input.length > 10000 then 2
 else if input.any (fun n=>!numB n)=true∨heap < 1∨heap > 1048576∨every < 0 then 1
 else if checkS T≠0 then checkS T
 else if entryS entry T.globals 0=none then 220 else 0
def firstNs (n:Nat):List Nd:=(List.range n).map fun i:Nat=>⟨4,(i:Int),[]⟩
def newI (T:Tab) (input:List Int) (heap:Int) (gens:Bool) (every:Int) (i:Nat):Mc:=
 ⟨T,input,gens,every,newY gens heap,0,(List.range i).map (fun i:Nat=>(i:Int)),[],[],false,[],0,0,0,0,⟨newKd gens heap,heap,firstNs i⟩⟩
def newM (T:Tab) (entry:ByteArray) (input:List Int) (heap:Int) (gens:Bool) (every:Int):Mc:=
 if (T.globals.length:Int)≤heap then { newI T input heap gens every T.globals.length with wait:=[entryI entry T]}
 else { newI T input heap gens every heap.toNat with globals:=[],ended:=5}
theorem firstNs_len (n:Nat):(firstNs n).length=n:=by simp [firstNs]
theorem firstNs_succ (n:Nat):firstNs (n+1)=firstNs n++[⟨4,(n:Int),[]⟩]:=by simp [firstNs,List.range_succ]
theorem firstNs_ok (n:Nat):WF (firstNs n):=by
 intro nd hnd
 obtain ⟨i,hi,rfl⟩:=List.mem_map.1 hnd
 exact ⟨by simp [Nd.may,mayB],rfl⟩
theorem newSt_ok {gens:Bool} {heap:Int} (hh:1≤heap∧heap≤1048576) {i:Nat} (hi:(i:Int)≤heap):St.Ok ⟨newKd gens heap,heap,firstNs i⟩:=by
 refine ⟨firstNs_ok i,by rw [firstNs_len];exact hi,hh.1,hh.2,?_⟩
 show (newKd gens heap).ok _
 unfold newKd
 cases gens with
 | false=>exact trivial
 | true=>
   have:newY true heap=if heap.tdiv 8 > 1 then heap.tdiv 8 else 1:=rfl
   have h8:heap.tdiv 8≤heap:=by rw [Int.tdiv_eq_ediv_of_nonneg (by omega)];omega
   refine ⟨Nat.zero_le _,?_,?_⟩<;>rw [this]<;>split<;>omega
open Classical in
theorem new_pack {w w6 w9 w':World} {m:Nat} {S:SV} {M:Mc} {vG vW:Value} {fg fw:Option Nat} {F:Nat→Prop} (hm:m=w9.heap.size) (h06:w.heap.size≤w6.heap.size) (h69:w6.heap.size≤w9.heap.size)
   (hc:w'.heap[m]? = some (.cells (mcCells S M vG (.slice none 0 0) vW (.slice none 0 0)).toArray 78 (0,0))) (hG:OwnS w' 3 1 vG (M.globals.map I) M.globals.length fg) (hW:OwnS w' 3 1 vW (M.wait.map I) M.wait.length fw)
   (hfr:M.frames=[]) (htl:M.told=[]) (hst:StAt w' S.sv M.st F) (hF:∀ b,F b→w.heap.size≤b∧(b < w6.heap.size∨m < b)) (hfg:∀ b,fg=some b→m < b∧¬ F b) (hfw:∀ b,fw=some b→m < b∧¬ F b∧fg≠some b)
   (htab:TabAt w' S.vsh S.vgl M.tab (fun b=>w6.heap.size≤b∧b < w9.heap.size)) (hin:Ints w' S.vin M.input) (hvin:∀ b,vblk S.vin=some b→w6.heap.size≤b∧b < w9.heap.size) (hrow:RowsAt w' S.vR 2 rowsV (fun b=>w6.heap.size≤b∧b < w9.heap.size)) :
   ∃ τ:Tag,MAt w' τ m S M []∧∀ b,b < w.heap.size→τ b = .no:=by
 have lm:=lt_of_heap hc
 refine ⟨fun b=>if b < w.heap.size then .no else if b=m then .m else if fg=some b then .gl else if fw=some b then .wt else if F b then .st else if w6.heap.size≤b∧b < w9.heap.size then .tb else .no,?_,fun b hb=>by simp only [if_pos hb]⟩
 have tb:∀ b,w6.heap.size≤b∧b < w9.heap.size→b < w'.heap.size∧(if b < w.heap.size then Tg.no else if b=m then .m else if fg=some b then .gl else if fw=some b then .wt else if F b then .st else if w6.heap.size≤b∧b < w9.heap.size then .tb else .no) = .tb:=by
   intro b hb
   have n1:¬ b < w.heap.size:=by omega
   have n2:b≠m:=by omega
   have n3:fg≠some b:=fun e=>by have:=(hfg b e).1;omega
   have n4:fw≠some b:=fun e=>by have:=(hfw b e).1;omega
   have n5:¬ F b:=fun e=>by have:=(hF b e).2;omega
   exact ⟨by omega,by rw [if_neg n1,if_neg n2,if_neg n3,if_neg n4,if_neg n5,if_pos hb]⟩
 refine ⟨vG,.slice none 0 0,vW,.slice none 0 0,fg,none,fw,none,F,hc,?_,hG,?_,?_,(fun b hb=>by cases hb),hW,?_,?_,(fun b hb=>by cases hb),hst,?_,by rw [hfr];rfl,?_,htab.mod (Mod.refl (fun _=>False) w') (fun _ _ h=>h) (fun b hb=>tb b hb),hin,fun b hb=>tb b (hvin b hb),hrow.mod (Mod.refl (fun _=>False) w') (fun _ _ h=>h) (fun b hb=>tb b hb)⟩
 · simp only [if_neg (show ¬ m < w.heap.size by omega),if_pos]
 · intro b hb
   have:=(hfg b hb).1
   simp only [if_neg (show ¬ b < w.heap.size by omega),if_neg (show b≠m by omega),if_pos hb]
 · exact OwnS.nil _ _ _
 · intro b hb
   have h1:=hfw b hb
   simp only [if_neg (show ¬ b < w.heap.size by omega),if_neg (show b≠m by omega),if_neg h1.2.2,if_pos hb]
 · rw [htl];exact OwnS.nil _ _ _
 · intro b hb
   have h1:=hF b hb
   have n2:b≠m:=by omega
   have n3:fg≠some b:=fun e=>(hfg b e).2 hb
   have n4:fw≠some b:=fun e=>(hfw b e).2.1 hb
   simp only [if_neg (show ¬ b < w.heap.size by omega),if_neg n2,if_neg n3,if_neg n4,if_pos hb]
 · intro i k f hk _
   simp at hk
section
variable {w:World} {vsh vgl vin:Value} {T:Tab} {B:Nat→Prop} {entry:ByteArray} {input:List Int} {heap every:Int} {gens:Bool}
def NewAt (w w':World) (M:Mc) (r:Value):Prop:=∃ τ m S,r = .tuple #[ptr m,I 0]∧MAt w' τ m S M []∧(∀ b,b < w.heap.size→τ b = .no)
theorem m_new (h:TabAt w vsh vgl T B) (hT:TabFit T) (hBl:∀ b,B b→b < w.heap.size) (hin:Ints w vin input) :
   CallsR Tryz.prog 15 [tabV vsh vgl,.string entry,vin,setV heap gens every] w fun r w'=>Mod (fun _=>False) w w' ∧
     (newErr T entry input heap every≠0→r = .tuple #[.pointer none,I (newErr T entry input heap every)])∧(newErr T entry input heap every=0→NewAt w w' (newM T entry input heap gens every) r):=by
 have h0:=h
 have hin0:=hin
 obtain ⟨⟨aS,cS,rfl⟩,aG,cG,rfl⟩:=tab_sl h
 obtain ⟨aI,cI,rfl,hIl,_⟩:=hin
 refine fit15.calls rfl ?_
 unfold ir15 tabV setV
 (try simp only [go_sem,simprocAttr])
 refine e_bx rfl ?_
 intro w1 hb1 hm1 hs1
 (try simp only [go_sem,simprocAttr])
 refine e_bx rfl ?_
 intro w2 hb2 hm2 hs2
 (try simp only [go_sem,simprocAttr])
 refine e_bx rfl ?_
 intro w3 hb3 hm3 hs3
 have hm03:=(hm1.trans hm2).trans hm3
 have hb13:=(hm2.trans hm3).at hb1 (fun h=>h)
 have hb23:=hm3.at hb2 (fun h=>h)
 have hb1:w3.heap[w.heap.size]? = some (.cells #[.slice aS T.shapes.length cS,.slice aG T.globals.length cG] 25 (0,0)):=hb13
 have hb2:w3.heap[w1.heap.size]? = some (.cells #[.string entry] 9 (0,0)):=hb23
 have hb3:w3.heap[w2.heap.size]? = some (.cells #[I heap,.bool gens,I every] 28 (0,0)):=hb3
 have bad:∀ e w',e≠0→newErr T entry input heap every=e→Mod (fun _=>False) w w'→(Mod (fun _=>False) w w'∧(newErr T entry input heap every≠0→Value.tuple #[.pointer none,I e] = .tuple #[.pointer none,I (newErr T entry input heap every)])∧(newErr T entry input heap every=0→NewAt w w' (newM T entry input heap gens every) (.tuple #[.pointer none,I e]))):=by
   intro e w' he h1 hm
   rw [h1]
   exact ⟨hm,fun _=>rfl,fun h=>absurd h he⟩
 have hE:newErr T entry input heap every=if input.length > 10000 then 2 else if input.any (fun n=>!numB n)=true∨heap < 1∨heap > 1048576∨every < 0 then 1 else if checkS T≠0 then checkS T else if entryS entry T.globals 0=none then 220 else 0:=rfl
 (try simp only [go_sem,simprocAttr])
 refine ir_blk (fun ρ w'=>w3=w'∧ρ.get 2=some (.slice aI input.length cI)∧ρ.get 4=some (ptr w.heap.size)∧ρ.get 5=some (ptr w1.heap.size)∧ρ.get 7=some (ptr w2.heap.size)∧¬ input.length > 10000∧¬ (input.any (fun n=>!numB n)=true∨heap < 1∨heap > 1048576∨every < 0)) ?_ ?_
 · refine ir_cond rfl (fun hl=>?_) (fun hl=>?_)
   · simp only [zb1,zb2,zb3,zb4,zb5] at hl
     rw [if_pos (by omega)] at hE
     (try simp only [go_sem,simprocAttr])
     exact bad 2 w3 (by decide) hE hm03
   simp only [zb1,zb2,zb3,zb4,zb5] at hl
   have hl:¬ input.length > 10000:=by omega
   rw [if_neg hl] at hE
   (try simp only [go_sem,simprocAttr])
   refine e_call (by rfl) ?_
   refine (contains_ok _ input w3 (hin0.mod hm03 (fun _ _ h=>h)) 30 _ #[] (fun n=>!numB n) rfl rfl rfl (fun x _=>by simpa using f_new1 w3 x)).mono ?_
   rintro _ _ ⟨rfl,rfl⟩
   (try simp only [go_sem,simprocAttr])
   cases hA:input.any (fun n=>!numB n) with
   | true=>
     rw [hA,if_pos (.inl rfl)] at hE
     (try simp only [go_sem,simprocAttr])
     exact bad 1 w3 (by decide) hE hm03
   | false=>
     cases h1:decide (heap < 1) with
     | true=>
       rw [if_pos (.inr (.inl (of_decide_eq_true h1)))] at hE
       (try simp only [go_sem,simprocAttr,cell_of hb3,h1])
       exact bad 1 w3 (by decide) hE hm03
     | false=>
       cases h2:decide (heap > 1048576) with
       | true=>
         rw [if_pos (.inr (.inr (.inl (of_decide_eq_true h2))))] at hE
         (try simp only [go_sem,simprocAttr,cell_of hb3,h1,h2])
         exact bad 1 w3 (by decide) hE hm03
       | false=>
         cases h3:decide (every < 0) with
         | true=>
           rw [if_pos (.inr (.inr (.inr (of_decide_eq_true h3))))] at hE
           (try simp only [go_sem,simprocAttr,cell_of hb3,h1,h2,h3])
           exact bad 1 w3 (by decide) hE hm03
         | false=>
           have q1:=of_decide_eq_false h1
           have q2:=of_decide_eq_false h2
           have q3:=of_decide_eq_false h3
           (try simp only [go_sem,simprocAttr,cell_of hb3,h1,h2,h3])
           exact ⟨by omega,by simp;omega⟩
 rintro ρ _ ⟨rfl,r2,r4,r5,r7,hl,hbad⟩
 rw [if_neg hl,if_neg hbad] at hE
 have hheap:1≤heap∧heap≤1048576:=by
   constructor
   · apply Classical.byContradiction;intro hh;exact hbad (.inr (.inl (by omega)))
   · apply Classical.byContradiction;intro hh;exact hbad (.inr (.inr (.inl (by omega))))
 have h3:=h0.mod hm03 (fun _ _ h=>h) (fun _ h=>h)
 (try simp only [go_sem,simprocAttr,r2,r4,r5,r7,ln_of (cs:=[_,_]) (off:=0) (n:=2) hb1 (by simp)])
 refine e_call (by rfl) ?_
 refine (f_Check h3 hT (fun b hb=>by have:=hBl b hb;have:=hm03.size;omega)).mono ?_
 rintro _ w4 ⟨rfl,hm4⟩
 have hm04:=hm03.trans hm4
 have hb14:=hm4.at hb1 (fun h=>h)
 have hb24:=hm4.at hb2 (fun h=>h)
 have hb34:=hm4.at hb3 (fun h=>h)
 (try simp only [go_sem,simprocAttr])
 refine ir_cond rfl (fun hc=>?_) (fun hc=>?_)
 · simp only [zb1,zb2,zb3,zb4,zb5] at hc
   rw [if_pos hc] at hE
   (try simp only [go_sem,simprocAttr])
   exact bad _ w4 hc hE hm04
 simp only [zb1,zb2,zb3,zb4,zb5] at hc
 rw [if_neg (by simpa using hc)] at hE
 obtain ⟨hTok,_⟩:=check_ok hc
 have h4:=h0.mod hm04 (fun _ _ h=>h) (fun _ h=>h)
 (try simp only [go_sem,simprocAttr,cell_of hb14])
 refine e_call (by rfl) ?_
 refine (f_entry h4 hT hb24).mono ?_
 rintro _ w5 ⟨rfl,hm5⟩
 have hm05:=hm04.trans hm5
 have hb15:=hm5.at hb14 (fun h=>h)
 have hb35:=hm5.at hb34 (fun h=>h)
 (try simp only [go_sem,simprocAttr])
 refine ir_cond rfl (fun he=>?_) (fun he=>?_)
 · simp only [zb1,zb2,zb3,zb4,zb5] at he
   have hn:entryS entry T.globals 0=none:=by
     unfold entryI at he
     split at he
     · omega
     · assumption
   rw [if_pos hn] at hE
   (try simp only [go_sem,simprocAttr])
   exact bad 220 w5 (by decide) hE hm05
 simp only [zb1,zb2,zb3,zb4,zb5] at he
 have hn:entryS entry T.globals 0≠none:=fun hn=>by
   have:entryI entry T = -1:=by unfold entryI;rw [hn]
   omega
 rw [if_neg hn] at hE
 obtain ⟨at',hat,hatl⟩:∃ j:Nat,entryI entry T=j∧j < T.globals.length:=by
   unfold entryI
   cases hx:entryS entry T.globals 0 with
   | none=>exact absurd hx hn
   | some j=>exact ⟨j,rfl,by have:=entryS_lt _ _ hx;omega⟩
 rw [hat]
 (try simp only [go_sem,simprocAttr,ln_of (cs:=[_,_,_]) (off:=0) (n:=3) hb35 (by simp)])
 refine e_call (by rfl) ?_
 refine (f_newStore w5 gens every hheap).mono ?_
 rintro _ w6 ⟨sv,F,rfl,hst,hm6,hF⟩
 obtain ⟨ti,ui,rfl⟩:=hst.iface
 have hm06:=hm05.trans hm6
 have hb16:=hm6.at hb15 (fun h=>h)
 have hb36:=hm6.at hb35 (fun h=>h)
 (try simp only [go_sem,simprocAttr,show ((0:Int) != 0)=false from rfl])
 have hb16d:w6.drew.heap[w.heap.size]? = _:=hb16
 have hb36d:w6.drew.heap[w2.heap.size]? = _:=hb36
 have l3:=lt_of_heap hb36
 have h6d:=h0.mod hm06.drew (fun _ _ h=>h) (fun _ h=>h)
 (try simp only [go_sem,simprocAttr,ln_of (cs:=[_,_]) (off:=0) (n:=2) hb16d (by simp),ln_of (cs:=[_,_,_]) (off:=0) (n:=3) hb36d (by simp)])
 refine e_call (by rfl) ?_
 refine (f_copied h6d hTok).mono ?_
 rintro _ w7 ⟨vsh',vgl',rfl,htab,hm7⟩
 have hm67:Mod (fun _=>False) w6 w7:=Mod.of_drew hm7
 have htab':TabAt w7 vsh' vgl' T (fun b=>w6.heap.size≤b∧b < w7.heap.size):=htab
 obtain ⟨⟨aS',cS',rfl⟩,aG',cG',rfl⟩:=tab_sl htab
 have k7:=hm7.old w2.heap.size l3 (fun h=>h)
 have s67:=hm67.size
 (try simp only [go_sem,simprocAttr,tabV])
 refine ⟨by simp only [drew_heap,k7,and_self,implies_true],?_⟩
 refine e_call (by rfl) ?_
 refine (clone_ok _ input w7 (hin0.mod (hm06.trans hm67) (fun _ _ h=>h))).mono ?_
 rintro vI w8 ⟨hm8,fI,hoI,hfI⟩
 obtain ⟨aI',cI',rfl,_⟩:=hoI.val
 have k8:=hm8.old w2.heap.size (by omega) (fun h=>h)
 have s78:=hm8.size
 (try simp only [go_sem,simprocAttr])
 refine ⟨by simp only [drew_heap,k8,and_self,implies_true],?_⟩
 refine e_call (by rfl) ?_
 refine (f_rows w8).mono ?_
 rintro vR w9 ⟨bR,⟨lR,lR9⟩,hrows,hm9⟩
 obtain ⟨aR,cR,rfl⟩:=rows_sl hrows
 have k9:=hm9.old w2.heap.size (by omega) (fun h=>h)
 have s89:=hm9.size
 (try simp only [go_sem,simprocAttr])
 refine ⟨by simp only [drew_heap,k9,and_self,implies_true],?_⟩
 refine e_bx rfl ?_
 intro w10 hb10 hm10 hs10
 have hm69:Mod (fun _=>False) w6 w9:=(hm67.trans hm8).trans hm9
 have hm6_10:=hm69.trans hm10
 have hb1_10:=hm6_10.at hb16 (fun h=>h)
 obtain ⟨S,hS⟩:∃ S:SV,S=⟨.slice aS' T.shapes.length cS',.slice aG' T.globals.length cG',.slice aI' input.length cI',.slice aR rowsV.length cR,.iface ti (.pointer (some ui))⟩:=⟨_,rfl⟩
 have hc10:w10.heap[w9.heap.size]? = some (.cells (mcCells S (newI T input heap gens every 0) (.slice none 0 0) (.slice none 0 0) (.slice none 0 0) (.slice none 0 0)).toArray 78 (0,0)):=by rw [hS];exact hb10
 (try simp only [go_sem,simprocAttr,cell_of hb1_10])
 have s9:w9.heap.size < w10.heap.size:=lt_of_heap hc10
 have h06:=hm06.size
 have h69:=hm69.size
 have s05:=hm05.size
 have s56:=hm6.size
 have hm9_10:Mod (fun _=>False) w9 w10:=hm10
 have htab10:TabAt w10 S.vsh S.vgl T (fun b=>w6.heap.size≤b∧b < w9.heap.size):=by
   rw [hS]
   exact htab'.mod ((hm8.trans hm9).trans hm10) (fun _ _ h=>h) (fun b hb=>⟨hb.1,by omega⟩)
 have hin10:Ints w10 S.vin input:=by
   rw [hS]
   exact ((hoI.ints (by omega)).1).mod (hm9.trans hm10) (fun _ _ h=>h)
 have hvin10:∀ b,vblk S.vin=some b→w6.heap.size≤b∧b < w9.heap.size:=by
   rw [hS]
   intro b hb
   obtain ⟨_,h2⟩:=hoI
   rcases h2 with ⟨e,_,_⟩ | ⟨b',c',sp,e,hf,hbb,_⟩
   · simp only [Value.slice.injEq] at e
     obtain ⟨rfl,_,_⟩:=e
     cases hb
   · simp only [Value.slice.injEq] at e
     obtain ⟨rfl,_,_⟩:=e
     have hbb':b'=b:=Option.some.inj hb
     subst hbb'
     have:=hfI b' hf
     have:=lt_of_heap hbb
     omega
 have hrow10:RowsAt w10 S.vR 2 rowsV (fun b=>w6.heap.size≤b∧b < w9.heap.size):=by
   rw [hS]
   exact hrows.mod hm10 (fun _ _ h=>h) (fun b hb=>by subst hb;exact ⟨by omega,lR9⟩)
 have hst10:StAt w10 S.sv ⟨newKd gens heap,heap,firstNs 0⟩ F:=by
   rw [hS]
   exact (hst.mod hm69 (fun _ _ h=>h)).mod hm10 (fun _ _ h=>h)
 have hF':∀ b,F b→w.heap.size≤b∧(b < w6.heap.size∨w9.heap.size < b):=fun b hb=>by
   have h1:=hF b hb
   have h2:=hst.lt b hb
   omega
 have hsvS:(Value.iface ti (.pointer (some ui)))=S.sv:=by rw [hS]
 rw [hsvS]
 have nwR:newErr T entry input heap every=0:=hE
 refine ir_loop (fun z ρ w'=>∃ (i:Nat) (vG:Value) (fg:Option Nat) (F:Nat→Prop),z=T.globals.length - i∧i≤T.globals.length∧(i:Int)≤heap ∧
   w'.heap[w9.heap.size]? = some (.cells (mcCells S (newI T input heap gens every i) vG (.slice none 0 0) (.slice none 0 0) (.slice none 0 0)).toArray 78 (0,0))∧StAt w' S.sv ⟨newKd gens heap,heap,firstNs i⟩ F ∧
   OwnS w' 3 1 vG (((List.range i).map (fun i:Nat=>(i:Int))).map I) i fg∧(∀ b,F b→w.heap.size≤b∧(b < w6.heap.size∨w9.heap.size < b))∧(∀ b,fg=some b→w9.heap.size < b∧¬ F b)∧Mod (fun b=>(w.heap.size≤b∧b < w6.heap.size)∨w9.heap.size≤b) w10 w' ∧
   ρ=[(11,I at'),(12,S.sv),(15,ptr w9.heap.size),(67,I T.globals.length),(68,I i)]) T.globals.length
   ⟨0,.slice none 0 0,none,F,rfl,by omega,by omega,hc10,hst10,OwnS.nil _ _ _,hF',(fun b hb=>by cases hb),Mod.refl _ _,rfl⟩ ?_
 rintro z ρ w11 ⟨i,vG,fg,F1,rfl,hi,hih,hc11,hst11,hoG,hF1,hfg1,hm11,rfl⟩
 have s11:=hm11.size
 have rest:∀ w':World,Mod (fun b=>(w.heap.size≤b∧b < w6.heap.size)∨w9.heap.size≤b) w10 w'→TabAt w' S.vsh S.vgl T (fun b=>w6.heap.size≤b∧b < w9.heap.size)∧Ints w' S.vin input∧RowsAt w' S.vR 2 rowsV (fun b=>w6.heap.size≤b∧b < w9.heap.size)∧Mod (fun _=>False) w w':=by
   intro w' hm
   refine ⟨htab10.mod hm (fun b hb hx=>by omega) (fun _ h=>h),hin10.mod hm (fun b hb hx=>by have:=hvin10 b hb;omega),hrow10.mod hm (fun b hb hx=>by omega) (fun _ h=>h),?_⟩
   have h9:Mod (fun _=>False) w w10:=hm06.trans hm6_10
   exact h9.step hm (fun b hb hl=>by omega)
 unfold ir15L1
 (try simp only [go_sem,simprocAttr])
 refine ir_cond rfl (fun hlt=>?_) (fun hlt=>?_)
 · have hlt:i < T.globals.length:=by simpa using hlt
   have hok:=newSt_ok (gens:=gens) hheap hih
   (try simp only [go_sem,simprocAttr])
   have e1:IntKind.i64.wrap ((i:Int)+1)=((i+1:Nat):Int):=by rw [wrap_in (by omega) (by omega)];omega
   refine s_add (nd:=⟨4,(i:Int),[]⟩) rfl (by rfl) hst11 hok (by simp [Nd.may,mayB]) rfl (ints_nil _) ?_ ?_
   · intro hroom w12 F2 hst12 hg12
     have hroom:((firstNs i).length:Int) < heap:=hroom
     rw [firstNs_len] at hroom
     have hst12:StAt w12 S.sv ⟨newKd gens heap,heap,firstNs (i+1)⟩ F2:=by rw [firstNs_succ];exact hst12
     have nF9:¬ F1 w9.heap.size:=fun e=>by have:=hF1 _ e;omega
     have hc12:=hg12.1.at hc11 nF9
     obtain ⟨aV,cV,rfl,_⟩:=hoG.val
     have s12:=hg12.1.size
     rw [show ((⟨newKd gens heap,heap,firstNs i⟩:St).ns.length:Int)=(i:Int) by show ((firstNs i).length:Int)=_;rw [firstNs_len]]
     (try simp only [go_sem,simprocAttr,show ((0:Int) != 0)=false from rfl,cell_of hc12,mcCells])
     refine e_bs (by rfl) (by rfl) ?_
     intro w13 hb13 hm13 _
     have hfg1':∀ b,fg=some b→¬ F1 b:=fun b hb=>(hfg1 b hb).2
     (try simp only [go_sem,simprocAttr])
     refine e_ap (m:=1) (news:=[I (i:Int)]) rfl ((hoG.mod hg12.1 hfg1').mod hm13 (fun _ _ h=>h)) rfl (fun h=>by cases h) (rd_block (xs:=[I (i:Int)]) hb13) (oneI [(i:Int)]) rfl (by omega) (by omega) ?_
     intro v14 w14 fg14 ho14 hm14 hf14
     obtain ⟨a14,c14,rfl,_⟩:=ho14.val
     have fg9:fg≠some w9.heap.size:=fun e=>by have:=(hfg1 _ e).1;omega
     have hc14:=hm14.at (hm13.at hc12 (fun h=>h)) fg9
     (try simp only [go_sem,simprocAttr])
     refine e_st1 (off:=9) rfl rfl hc14 rfl (by simp [mcCells]) ?_
     intro w15 hb15 hm15 _
     (try simp only [go_sem,simprocAttr,e1])
     have s13:=hm13.size
     have s14:=hm14.size
     have hst15:StAt w15 S.sv ⟨newKd gens heap,heap,firstNs (i+1)⟩ F2:=by
       refine ((hst12.mod hm13 (fun _ _ h=>h)).mod hm14 (fun b hb e=>?_)).mod hm15 (fun b hb e=>?_)
       · rcases hg12.2 b hb with h1 | h1
         · exact hfg1' b e h1
         · have:=hoG.lt e;omega
       · subst e
         rcases hg12.2 _ hb with h1 | h1
         · exact nF9 h1
         · have:=lt_of_heap hc11;omega
     have hX:Mod (fun b=>(w.heap.size≤b∧b < w6.heap.size)∨w9.heap.size≤b) w10 w15:=by
       refine (((hm11.step hg12.1 (fun b hb _=>by have:=hF1 b hb;omega)).step hm13 (fun _ h _=>h.elim)).step hm14 (fun b hb _=>by have:=hfg1 b hb;omega)).step hm15 (fun b hb _=>by subst hb;exact .inr (Nat.le_refl _))
     refine ⟨_,by omega,i+1,.slice a14 (i+1) c14,fg14,F2,rfl,by omega,by omega,by simpa [mcCells,newI] using hb15,hst15,?_,fun b hb=>?_,fun b hb=>?_,hX,rfl⟩
     · have e:(List.range (i+1)).map (fun i:Nat=>(i:Int))=(List.range i).map (fun i:Nat=>(i:Int))++[(i:Int)]:=by simp [List.range_succ]
       rw [e,List.map_append]
       exact ho14.mod hm15 (fun b hb e=>by
         subst e
         rcases hf14 _ hb with h3 | h3
         · exact fg9 h3
         · have:=lt_of_heap hc11;omega)
     · rcases hg12.2 b hb with h1 | h1
       · exact hF1 b h1
       · omega
     · rcases hf14 b hb with h1 | h1
       · refine ⟨(hfg1 b h1).1,fun h2=>?_⟩
         rcases hg12.2 b h2 with h3 | h3
         · exact hfg1' b h1 h3
         · have:=hoG.lt h1;omega
       · refine ⟨by omega,fun h2=>?_⟩
         have:=hst12.lt b h2
         omega
   · intro hfull w12 F2 e he hst12 hg12
     have hfull:((firstNs i).length:Int)=heap:=hfull
     rw [firstNs_len] at hfull
     have nF9:¬ F1 w9.heap.size:=fun e=>by have:=hF1 _ e;omega
     have hc12:=hg12.1.at hc11 nF9
     have he':(e != 0)=true:=by simpa using he
     (try simp only [go_sem,simprocAttr,he'])
     refine e_st1 (off:=15) rfl rfl hc12 rfl (by simp [mcCells]) ?_
     intro w13 hb13 hm13 _
     (try simp only [go_sem,simprocAttr])
     refine e_st1 (off:=9) rfl rfl hb13 rfl (by simp [mcCells]) ?_
     intro w14 hb14 hm14 _
     (try simp only [go_sem,simprocAttr])
     have hM:newM T entry input heap gens every = { newI T input heap gens every heap.toNat with globals:=[],ended:=5}:=by unfold newM;rw [if_neg (by omega)]
     have hi':heap.toNat=i:=by omega
     have hX:Mod (fun b=>(w.heap.size≤b∧b < w6.heap.size)∨w9.heap.size≤b) w10 w14:=by
       refine ((hm11.step hg12.1 (fun b hb _=>by have:=hF1 b hb;omega)).step hm13 (fun b hb _=>by subst hb;exact .inr (Nat.le_refl _))).step hm14 (fun b hb _=>by subst hb;exact .inr (Nat.le_refl _))
     obtain ⟨r1,r2,r3,r4⟩:=rest w14 hX
     have nF9':¬ F2 w9.heap.size:=fun e=>by
       rcases hg12.2 _ e with h1 | h1
       · exact nF9 h1
       · have:=lt_of_heap hc11;omega
     refine ⟨r4,fun h=>absurd nwR h,fun _=>?_⟩
     rw [hM,hi']
     obtain ⟨τ,hA,hτ⟩:=new_pack (w:=w) (w6:=w6) (w9:=w9) (w':=w14) (m:=w9.heap.size) (S:=S) (M:={ newI T input heap gens every i with globals:=[],ended:=5}) (vG:=.slice none 0 0) (vW:=.slice none 0 0) (fg:=none) (fw:=none) (F:=F2) rfl h06 h69 (by simpa [mcCells,newI] using hb14) (OwnS.nil _ _ _) (OwnS.nil _ _ _) rfl rfl
       ((hst12.mod hm13 (fun b hb e=>by subst e;exact nF9' hb)).mod hm14 (fun b hb e=>by subst e;exact nF9' hb)) (fun b hb=>by
         rcases hg12.2 b hb with h1 | h1
         · exact hF1 b h1
         · omega) (fun b hb=>by cases hb) (fun b hb=>by cases hb) r1 r2 hvin10 r3
     exact ⟨τ,_,S,rfl,hA,hτ⟩
 · have hlt:¬ i < T.globals.length:=by simpa using hlt
   obtain rfl:i=T.globals.length:=by omega
   obtain ⟨bG,cG2,sp,rfl,rfl,_⟩:=hoG.pos (by omega)
   obtain ⟨bG',eG,_,hcell⟩:=own_cell hoG (i:=at') hatl
   cases eG
   have hcell:w11.cell? ⟨bG,at',none⟩=some (I at'):=by
     rw [hcell]
     simp [hatl]
   have b1:(0:Int)≤at'∧(at':Int) < T.globals.length:=by omega
   (try simp only [go_sem,simprocAttr,zb4,zb6,cell_of hc11,mcCells,newI,b1,add_at,hcell])
   refine e_bs (by rfl) (by rfl) ?_
   intro w12 hb12 hm12 _
   (try simp only [go_sem,simprocAttr])
   refine e_st1 (off:=11) rfl rfl (hm12.at hc11 (fun h=>h)) rfl (by simp [mcCells]) ?_
   intro w13 hb13 hm13 _
   (try simp only [go_sem,simprocAttr])
   have s12:=hm12.size
   have hM:newM T entry input heap gens every = { newI T input heap gens every T.globals.length with wait:=[(at':Int)]}:=by unfold newM;rw [if_pos hih,hat]
   have hX:Mod (fun b=>(w.heap.size≤b∧b < w6.heap.size)∨w9.heap.size≤b) w10 w13:=(hm11.step hm12 (fun _ h _=>h.elim)).step hm13 (fun b hb _=>by subst hb;exact .inr (Nat.le_refl _))
   obtain ⟨r1,r2,r3,r4⟩:=rest w13 hX
   have nF9:¬ F1 w9.heap.size:=fun e=>by have:=hF1 _ e;omega
   have l11:=lt_of_heap hc11
   refine ⟨r4,fun h=>absurd nwR h,fun _=>?_⟩
   rw [hM]
   have hoW:OwnS w13 3 1 (.slice (some ⟨w11.heap.size,0,none⟩) 1 1) [I (at':Int)] 1 (some w11.heap.size):=(OwnS.of_block (xs:=[I (at':Int)]) hb12 rfl).mod hm13 (fun b hb e=>by have:=Option.some.inj hb;omega)
   obtain ⟨τ,hA,hτ⟩:=new_pack (w:=w) (w6:=w6) (w9:=w9) (w':=w13) (m:=w9.heap.size) (S:=S) (M:={ newI T input heap gens every T.globals.length with wait:=[(at':Int)]}) (fg:=some bG) (fw:=some w11.heap.size) (F:=F1) rfl h06 h69 (by simpa [mcCells,newI] using hb13)
     (by
       have:=(hoG.mod hm12 (fun _ _ h=>h)).mod hm13 (fun b hb e=>by subst e;have:=(hfg1 _ hb).1;omega)
       simpa [newI] using this) hoW rfl rfl ((hst11.mod hm12 (fun _ _ h=>h)).mod hm13 (fun b hb e=>by subst e;exact nF9 hb)) hF1 hfg1 (fun b hb=>by
         cases hb
         refine ⟨by omega,fun h2=>by have:=hst11.lt _ h2;omega,fun e=>by have:=hoG.lt rfl;cases e;omega⟩) r1 r2 hvin10 r3
   exact ⟨τ,_,S,rfl,hA,hτ⟩
end
end
section
open Go Go.W
section
variable {T:Tab} {entry:ByteArray} {input:List Int} {heap every:Int} {gens:Bool}
structure NewFacts (T:Tab) (entry:ByteArray) (input:List Int) (heap every:Int):Prop where
 chk:checkS T=0
 inl:input.length≤10000
 inp:∀ a∈input,isNum a
 hp:1≤heap∧heap≤1048576
 ev:0≤every
 ent:0≤entryI entry T∧entryI entry T < T.globals.length
theorem new_facts (h:newErr T entry input heap every=0):NewFacts T entry input heap every:=by
 unfold newErr at h
 split at h
 · cases h
 rename_i h1
 split at h
 · cases h
 rename_i h2
 split at h
 · rename_i h3;exact absurd h h3
 rename_i h3
 split at h
 · cases h
 rename_i h4
 have h2:¬ input.any (fun n=>!numB n)=true∧¬ heap < 1∧¬ heap > 1048576∧¬ every < 0:=by
   refine ⟨fun e=>h2 (.inl e),fun e=>h2 (.inr (.inl e)),fun e=>h2 (.inr (.inr (.inl e))),fun e=>h2 (.inr (.inr (.inr e)))⟩
 refine ⟨Classical.not_not.1 h3,by omega,fun a ha=>?_,by omega,by omega,?_⟩
 · have:=h2.1
   rw [List.any_eq_true] at this
   have h5:numB a=true:=by
     cases hb:numB a
     · exact absurd ⟨a,ha,by rw [hb];rfl⟩ this
     · rfl
   unfold numB at h5
   rw [decide_eq_true_eq] at h5
   unfold isNum
   omega
 · unfold entryI
   cases he:entryS entry T.globals 0 with
   | none=>exact absurd he h4
   | some j=>
     have:=entryS_lt _ _ he
     simp only
     omega
theorem firstNs_at {n i:Nat} (h:i < n):(firstNs n)[i]? = some ⟨4,(i:Int),[]⟩:=by
 unfold firstNs
 rw [List.getElem?_map,List.getElem?_range h]
 rfl
theorem firstNs_ndAt {n i:Nat} (h:i < n):ndAt (firstNs n) i=⟨4,(i:Int),[]⟩:=by
 unfold ndAt
 rw [List.getD_eq_getElem?_getD,firstNs_at h]
 rfl
theorem firstNs_ends (n:Nat):Ends (firstNs n):=by
 intro p hp
 rw [firstNs_len] at hp
 have h1:nxt (firstNs n) p=p:=by
   apply nxt_fix
   unfold ind
   rw [firstNs_ndAt hp]
   rfl
 have h2:over (firstNs n) p=p:=by
   unfold over
   obtain ⟨k,_,e⟩:=ov_mem (nxt (firstNs n)) (firstNs n).length p
   rw [e,fit_fix h1]
 rw [h2,h1]
theorem newM_ok (h:newErr T entry input heap every=0) (hroom:(T.globals.length:Int)≤heap):MOk 0 (newM T entry input heap gens every):=by
 have hf:=new_facts h
 have hh:=hf.hp
 have he:=hf.ent
 unfold newM
 rw [if_pos hroom]
 have hy:0≤newY gens heap∧newY gens heap≤1048576:=by
   unfold newY
   split
   · rw [Int.tdiv_eq_ediv_of_nonneg (by omega)];split<;>omega
   · omega
 have hIn:∀ a:Int,0≤a→a < T.globals.length→St.In ⟨newKd gens heap,heap,firstNs T.globals.length⟩ a:=fun a h1 h2=>⟨h1,by show a < ((firstNs _).length:Int);rw [firstNs_len];exact h2⟩
 exact
   { tab:=(check_ok hf.chk).1
     g:=⟨newSt_ok hh hroom,firstNs_ends _,fun nd hnd=>by
       obtain ⟨i,hi,rfl⟩:=List.mem_map.1 hnd
       have:=List.mem_range.1 hi
       exact ⟨fun _=>by show (i:Int) < T.globals.length;omega,fun e=>by cases e⟩⟩
     gls:=fun a ha=>by
       obtain ⟨i,hi,rfl⟩:=List.mem_map.1 ha
       have:=List.mem_range.1 hi
       exact hIn _ (by omega) (by omega)
     gln:=by simp [newI]
     wts:=fun a ha=>by
       obtain rfl:=List.mem_singleton.1 ha
       exact hIn _ he.1 he.2
     wpos:=fun _=>by simp
     frs:=fun f hf=>by cases hf
     run:=fun _ f hf=>by cases hf
     base:=by show (0:Int)≤0∧(0:Int)≤1048576;omega
     young:=hy
     inp:=hf.inp
     ln:=Int.le_refl _
     lf:=by simp [newI]
     lw:=by simp [newI]
     lt:=by simp [newI]
     ne5:=by simp [newI]}
theorem new_alive (h:newErr T entry input heap every=0):Alive 0 (newM T entry input heap gens every):=by
 by_cases hroom:(T.globals.length:Int)≤heap
 · exact .inl (newM_ok h hroom)
 · refine .inr ?_
   unfold newM
   rw [if_neg hroom]
theorem new_kd:(newM T entry input heap gens every).st.kd≠.ref:=by
 unfold newM newI newKd
 split<;>(cases gens<;>exact fun h=>by cases h)
theorem new_steps:(newM T entry input heap gens every).steps=0:=by unfold newM newI;split<;>rfl
theorem new_told:(newM T entry input heap gens every).told=[]:=by unfold newM newI;split<;>rfl
theorem new_frames:(newM T entry input heap gens every).frames=[]:=by unfold newM newI;split<;>rfl
structure Good (n:Int) (M:Mc):Prop where
 al:Alive n M
 kd:M.st.kd≠.ref
 gl:M.ended=0→0 < M.globals.length
 lf:(M.frames.length:Int)≤n
 lt:(M.told.length:Int)≤n
 st:0≤M.steps∧M.steps≤n
theorem newM_good (h:newErr T entry input heap every=0):Good 0 (newM T entry input heap gens every):=by
 refine ⟨new_alive h,new_kd,fun he=>?_,by rw [new_frames];exact Int.le_refl _,by rw [new_told];exact Int.le_refl _,by rw [new_steps];omega⟩
 rcases new_alive (gens:=gens) h with hk | hk
 · rw [hk.gln]
   have:=(new_facts h).ent
   have e:(newM T entry input heap gens every).tab=T:=by unfold newM newI;split<;>rfl
   rw [e]
   omega
 · omega
theorem Good.step {n:Int} {M:Mc} (h:Good n M):Good (n+1) M.step:=by
 have hst:=step_steps M
 have hs:0≤M.step.steps∧M.step.steps≤n+1:=by have:=h.st;rw [hst];split<;>omega
 have hk:=step_kd h.kd
 by_cases he:M.ended=0
 · have hok:=h.al.ok he
   have hgl:0 < M.step.globals.length:=by rw [(stat_step M).gl];exact h.gl he
   refine ⟨h.al.step,hk,fun _=>hgl,?_,?_,hs⟩
   all_goals rcases hok.step he with ⟨hw,e⟩ | ⟨_,hw,_⟩
   · rw [e,(out_of hok hw).frames];have:=h.lf;omega
   · exact hw.lf
   · rw [e,(out_of hok hw).told];have:=h.lt;omega
   · exact hw.lt
 · have e:=step_end he
   rw [e]
   have h1:=h.lf
   have h2:=h.lt
   have h3:=h.st
   have h4:=h.al.step
   rw [e] at h4
   exact ⟨h4,h.kd,h.gl,by omega,by omega,by omega⟩
theorem Good.steps {n:Int} {M:Mc} (h:Good n M) (k:Nat):Good (n+k) (M.steps' k):=by
 induction k with
 | zero=>
   have e:n+((0:Nat):Int)=n:=by simp
   rw [e];exact h
 | succ k ih=>
   have:=ih.step
   have e:n+(k:Int)+1=n+((k+1:Nat):Int):=by omega
   rw [e] at this
   exact this
end
end
section
open Go Go.W
structure Mcn where
 m:Nat
 S:SV
 M:Mc
 n:Int
def Crew (w:World) (l:List Mcn) (N:Nat→Prop):Prop:=
 ∃ (τ:Nat→Tag) (ks:Nat→List Nat),(∀ i p,l[i]? = some p→MAt w (τ i) p.m p.S p.M (ks i)∧Good p.n p.M)∧(∀ i j,i≠j→∀ b,b < w.heap.size→τ i b = .no∨τ j b = .no)∧(∀ i b,N b→τ i b = .no)∧∀ b,N b→b < w.heap.size
section
variable {w w':World} {l:List Mcn} {N:Nat→Prop}
theorem crew_nil (hN:∀ b,N b→b < w.heap.size):Crew w [] N:=
 ⟨fun _ _=>.no,fun _=>[],(fun i p h=>by cases h),(fun _ _ _ _ _=>.inl rfl),(fun _ _ _=>rfl),hN⟩
theorem crew_less (h:Crew w l N) {N':Nat→Prop} (hN:∀ b,N' b→N b):Crew w l N':=by
 obtain ⟨τ,ks,h1,h2,h3,h4⟩:=h
 exact ⟨τ,ks,h1,h2,fun i b hb=>h3 i b (hN b hb),fun b hb=>h4 b (hN b hb)⟩
theorem crew_mod (h:Crew w l N) {X:Nat→Prop} (hm:Mod X w w') (hX:∀ b,X b→b < w.heap.size→N b):Crew w' l (fun b=>N b∨(w.heap.size≤b∧b < w'.heap.size)):=by
 obtain ⟨τ,ks,h1,h2,h3,h4⟩:=h
 have hs:=hm.size
 refine ⟨fun i=>newTag (τ i) w .no,ks,fun i p hp=>?_,fun i j hij b hb=>?_,fun i b hb=>?_,fun b hb=>?_⟩
 · obtain ⟨k1,k2⟩:=h1 i p hp
   exact ⟨k1.mod hm (newTag_ext (τ i) w .no).wx (fun b hb hx=>h3 i b (hX b hx hb)),k2⟩
 · by_cases hlt:b < w.heap.size
   · simp only [newTag,if_pos hlt];exact h2 i j hij b hlt
   · exact .inl (newTag_new (by omega))
 · by_cases hlt:b < w.heap.size
   · simp only [newTag,if_pos hlt]
     rcases hb with hb | hb
     · exact h3 i b hb
     · omega
   · exact newTag_new (by omega)
 · rcases hb with hb | hb
   · have:=h4 b hb;omega
   · exact hb.2
theorem crew_later (h:Crew w l N) (hm:Mod (fun _=>False) w w'):Crew w' l (fun b=>N b∨(w.heap.size≤b∧b < w'.heap.size)):=crew_mod h hm (fun _ h=>h.elim)
theorem crew_new (h:Crew w l N) (hm:Mod (fun _=>False) w w') {M:Mc} {m:Nat} {S:SV} {τ0:Tag} (hA:MAt w' τ0 m S M []) (h0:∀ b,b < w.heap.size→τ0 b = .no) {n:Int} (hg:Good n M):Crew w' (l++[⟨m,S,M,n⟩]) N:=by
 obtain ⟨τ,ks,h1,h2,h3,h4⟩:=h
 have hs:=hm.size
 refine ⟨fun i=>if i=l.length then τ0 else newTag (τ i) w .no,fun i=>if i=l.length then [] else ks i,fun i p hp=>?_,fun i j hij b hb=>?_,fun i b hb=>?_,fun b hb=>?_⟩
 · by_cases hi:i=l.length
   · subst hi
     simp at hp
     subst hp
     simp only [if_pos]
     exact ⟨hA,hg⟩
   · have hlt:i < l.length:=by
       have:=(List.getElem?_eq_some_iff.1 hp).1
       simp at this
       omega
     rw [List.getElem?_append_left hlt] at hp
     obtain ⟨k1,k2⟩:=h1 i p hp
     simp only [if_neg hi]
     exact ⟨k1.mod hm (newTag_ext (τ i) w .no).wx (fun _ _ h=>h.elim),k2⟩
 · have key:∀ k,k≠l.length→(w.heap.size≤b→newTag (τ k) w .no b = .no):=fun k _ hb=>newTag_new hb
   by_cases hi:i=l.length
   · have hj:j≠l.length:=fun e=>hij (hi.trans e.symm)
     simp only [if_pos hi,if_neg hj]
     by_cases hlt:b < w.heap.size
     · exact .inl (h0 b hlt)
     · exact .inr (key j hj (by omega))
   · simp only [if_neg hi]
     by_cases hlt:b < w.heap.size
     · by_cases hj:j=l.length
       · simp only [if_pos hj];exact .inr (h0 b hlt)
       · simp only [if_neg hj,newTag,if_pos hlt];exact h2 i j hij b hlt
     · exact .inl (key i hi (by omega))
 · have hb4:=h4 b hb
   by_cases hi:i=l.length
   · simp only [if_pos hi];exact h0 b hb4
   · simp only [if_neg hi,newTag,if_pos hb4];exact h3 i b hb
 · have:=h4 b hb;omega
theorem crew_do (h:Crew w l N) {i:Nat} {p:Mcn} (hi:l[i]? = some p):∃ τ ks,MAt w τ p.m p.S p.M ks∧Good p.n p.M ∧
   ∀ {w':World} {M':Mc} {ks':List Nat} {n':Int},MOp w τ p.m p.S M' ks' w'→Good n' M'→Crew w' (l.set i ⟨p.m,p.S,M',n'⟩) N∧Mod (fun b=>¬ N b) w w':=by
 obtain ⟨τ,ks,h1,h2,h3,h4⟩:=h
 obtain ⟨k1,k2⟩:=h1 i p hi
 refine ⟨τ i,ks i,k1,k2,fun {w' M' ks' n'} hop hg=>?_⟩
 obtain ⟨τ',j1,j2,j3⟩:=hop
 have hs:=j3.size
 have hil:=(List.getElem?_eq_some_iff.1 hi).1
 refine ⟨⟨fun j=>if j=i then τ' else newTag (τ j) w .no,fun j=>if j=i then ks' else ks j,fun j q hq=>?_,fun j k hjk b hb=>?_,fun j b hb=>?_,fun b hb=>?_⟩,j3.weak (fun b hb hN=>?_)⟩
 · by_cases hj:j=i
   · subst hj
     rw [List.getElem?_set_self (by omega)] at hq
     obtain rfl:=Option.some.inj hq
     simp only [if_pos]
     exact ⟨j2,hg⟩
   · rw [List.getElem?_set_ne (by omega)] at hq
     obtain ⟨q1,q2⟩:=h1 j q hq
     simp only [if_neg hj]
     refine ⟨q1.mod j3 (newTag_ext (τ j) w .no).wx (fun b hb hx=>?_),q2⟩
     rcases h2 i j (fun e=>hj e.symm) b hb with e | e
     · exact absurd e hx.1
     · exact e
 · by_cases hlt:b < w.heap.size
   · have e:∀ x,(if x=i then τ' else newTag (τ x) w .no) b=τ x b:=by
       intro x
       by_cases hx:x=i
       · subst hx;simp only [if_pos];exact j1 b hlt
       · simp only [if_neg hx,newTag,if_pos hlt]
     show (if j=i then τ' else newTag (τ j) w .no) b = .no∨(if k=i then τ' else newTag (τ k) w .no) b = .no
     rw [e,e]
     exact h2 j k hjk b hlt
   · by_cases hj:j=i
     · have hk:k≠i:=fun e=>hjk (hj.trans e.symm)
       simp only [if_neg hk];exact .inr (newTag_new (by omega))
     · simp only [if_neg hj];exact .inl (newTag_new (by omega))
 · have hb4:=h4 b hb
   by_cases hj:j=i
   · subst hj;simp only [if_pos];rw [j1 b hb4];exact h3 j b hb
   · simp only [if_neg hj,newTag,if_pos hb4];exact h3 j b hb
 · have:=h4 b hb;omega
 · exact hb.1 (h3 i b hN)
variable {i:Nat} {m:Nat} {S:SV} {M:Mc} {n:Int}
theorem g_run (h:Crew w l N) (hi:l[i]? = some ⟨m,S,M,n⟩) (hn:n≤400000) {c:Int} (hc:c≤400000):CallsR Tryz.prog 18 [ptr m,I c] w fun r w'=>
   r=I ((M.steps' c.toNat).steps - M.steps)∧Crew w' (l.set i ⟨m,S,M.steps' c.toNat,n+c.toNat⟩) N∧Mod (fun b=>¬ N b) w w':=by
 obtain ⟨τ,ks,h1,h2,h3⟩:=crew_do h hi
 have h2:Good n M:=h2
 have h1:MAt w τ m S M ks:=h1
 have hst:=h2.st
 refine (m_run h1 h2.al (by omega) (by have:=h2.lf;omega) h2.kd ⟨hst.1,by omega⟩ h2.gl hc).mono ?_
 rintro r w' ⟨rfl,ks',hop⟩
 exact ⟨rfl,h3 hop (h2.steps _)⟩
theorem m_step' {τ:Tag} {ks:List Nat} (h:MAt w τ m S M ks) (hg:Good n M) (hn:n≤400000) :
   CallsR Tryz.prog 24 [ptr m] w fun r w'=>r = .tuple #[I (stepR M).1,I (stepR M).2]∧∃ ks',MOp w τ m S M.step ks' w':=by
 by_cases he:M.ended=0
 · have hst:=hg.st
   exact m_step h (hg.al.ok he) (by omega) hg.kd ⟨hst.1,by omega⟩ (hg.gl he)
 · obtain ⟨vG,vF,vW,vT,fg,ff,fw,ft,F,hh⟩:=id h
   have hc:=hh.cells
   refine fit24.calls rfl ?_
   unfold ir24
   (try simp only [go_sem,simprocAttr,cell_of hc,mcCells,ptr])
   refine ir_cond rfl (fun he=>?_) (fun h0=>?_)
   · simp only [zb1,zb2,zb3,zb4,zb5] at he
     have e1:stepR M=(0,221):=by unfold stepR;rw [if_pos he]
     have e2:M.step=M:=by unfold Mc.step;rw [if_pos he]
     rw [e1,e2]
     (try simp only [go_sem,simprocAttr])
     exact ⟨ks,τ,ext_refl _ _,h,Mod.refl _ _⟩
   · simp only [zb1,zb2,zb3,zb4,zb5] at h0
     exact absurd h0 he
theorem g_step (h:Crew w l N) (hi:l[i]? = some ⟨m,S,M,n⟩) (hn:n≤400000):CallsR Tryz.prog 24 [ptr m] w fun r w'=>
   r = .tuple #[I (stepR M).1,I (stepR M).2]∧Crew w' (l.set i ⟨m,S,M.step,n+1⟩) N∧Mod (fun b=>¬ N b) w w':=by
 obtain ⟨τ,ks,h1,h2,h3⟩:=crew_do h hi
 have h2:Good n M:=h2
 have h1:MAt w τ m S M ks:=h1
 refine (m_step' h1 h2 hn).mono ?_
 rintro r w' ⟨rfl,ks',hop⟩
 exact ⟨rfl,h3 hop h2.step⟩
theorem g_outcome (h:Crew w l N) (hi:l[i]? = some ⟨m,S,M,n⟩) (hn:n≤400000):CallsR Tryz.prog 11 [ptr m] w fun r w'=>
   (∃ v,r=outV (outKind M) v M.stuck M.steps∧ToldAt w w' v M.told)∧Crew w' l (fun b=>N b∨(w.heap.size≤b∧b < w'.heap.size))∧Mod (fun _=>False) w w':=by
 obtain ⟨τ,ks,h1,h2,h3⟩:=crew_do h hi
 have h2:Good n M:=h2
 have h1:MAt w τ m S M ks:=h1
 refine (m_outcome h1 (by have:=h2.lt;omega)).mono ?_
 rintro r w' ⟨v,e,ht,hm⟩
 exact ⟨⟨v,e,ht⟩,crew_later h hm,hm⟩
end
end
section
open Go Go.W Go.W.Z
def ir3:IR:=z [.e (some 5) (.bx 25 (.t 0)),.e (some 8) (.bx 28 (.t 3))] [1,2,4,5,8] <| z [c 16 7 [],m 11 16] [1,2,4,5,8,11] <| z [ln 17 2 5,ln 20 3 8,c 22 8 [17,1,2,20,4],m 12 22] [1,2,4,5,8,11,12] <| .seq (z [no 24 11,m' 24 false 26 12,.gr 24 false (some 27) (.eq .ptr false (.t 26) (.c (.pointer none))),u 28 24 27,f' 28 false 30 0 8,l' 28 false 31 30,bk' 28 false 32 .geq 31 1048576,u 33 28 32] [1,2,4,5,8,11,12,33] <| j 33 (z [m 10 11] [10] <| .ret) (.skip)) <| .seq (.dr (r 0 35 (.ln 2 (.t 5)) <| r 2 37 (.mv (.t 1)) <| r 3 38 (.mv (.t 2)) <| r 4 39 (.fa 0 (.t 8)) <| r 5 40 (.l1 (.t 39)) <| r 6 41 (.bi .add (.t 40) (k 1)) <| r 7 42 (.fa 1 (.t 8)) <| r 8 43 (.l1 (.t 42)) <| r 9 44 (.fa 2 (.t 8)) <| r 10 45 (.l1 (.t 44)) <| r 11 46 (.bd #[(i 0),(.bool false),(i 0)] [(0,1,(.t 41)),(1,1,(.t 43)),(2,1,(.t 45))]) <| r 12 47 (.mv (.t 4)) <| .e 1 none (some 36) (.call 9 [(.t 35)]) [5,8,10] <| .e 13 none (some 48) (.call 8 [(.t 36),(.t 37),(.t 38),(.t 46),(.t 47)]) [] <| r 14 13 (.mv (.t 48)) <| .nil) [5,12,13]) <| .seq (z [.r (some 50) (.eq .ptr false (.t 13) (.c (.pointer none)))] [5,12,13,50] <| j 50 (z [f 51 1 5,l 52 51,le 53 52,bk 54 .geq 53 2000,ln' 54 false 56 2 5,.ge 54 false (some 57) (.call 10 [(.t 56)]),u 58 54 57,m 10 58] [10] <| .ret) (.skip)) <| z [c 60 11 [12],.e (some 14) (.al 39 (.agg #[(i 0),(.slice none 0 0),(i 0),(i 0),(i 0),(i 0),(i 0),(.string ⟨#[]⟩)])),s 8 14 60] [13,14] <| z [c 62 11 [13],.e (some 15) (.al 39 (.agg #[(i 0),(.slice none 0 0),(i 0),(i 0),(i 0),(i 0),(i 0),(.string ⟨#[]⟩)])),s 8 15 62] [14,15] <| z [ln 63 8 14,ln 64 8 15,c 65 12 [63,64],m 10 65] [10] <| .ret
theorem fit3:Fits Tryz.prog 3 5 (hOf Tryz.f3 ir3) ir3 [.t 10] 66:=.m Tryz.f3 _
def ir7:IR:=z [] [] <| z [.r (some 9) (.bd #[(i 0),(i 0),(i 0)] [(0,1,(k 3)),(1,1,(k 1))]),.r (some 10) (.bd #[(i 0),(i 0),(i 0)] [(0,1,(k 3)),(1,1,(k 2))]),.r (some 11) (.bd #[(i 0),(i 0),(i 0)] [(0,1,(k 12)),(1,1,(k 1))]),.r (some 12) (.bd #[(i 0),(i 0),(i 0)] [(0,1,(k 7)),(1,1,(k 1))]),.r (some 13) (.bd #[(i 0),(i 0),(i 0)] [(0,1,(k 17))]),.e (some 14) (.bs 66 5 #[(i 0),(i 0),(i 0),(i 0),(i 0),(i 0),(i 0),(i 0),(i 0),(i 0),(i 0),(i 0),(i 0),(i 0),(i 0)] [(0,3,(.t 9)),(3,3,(.t 10)),(6,3,(.t 11)),(9,3,(.t 12)),(12,3,(.t 13))]),m 1 14] [1] <| z [c 16 25 [],.r (some 18) (.bd #[(.string ⟨#[]⟩),(i 0),(.slice none 0 0)] [(0,1,(.c (.string ⟨#[109]⟩))),(2,1,(.t 1))]),.e (some 19) (.bs 70 1 #[(.string ⟨#[]⟩),(i 0),(.slice none 0 0)] [(0,3,(.t 18))]),.r (some 20) (.bd #[(.slice none 0 0),(.slice none 0 0)] [(0,1,(.t 16)),(1,1,(.t 19))]),.r (some 21) (.bd #[(i 0),(.bool false),(i 0)] [(0,1,(k 100))]),.e (some 22) (.call 15 [(.t 20),(.c (.string ⟨#[109]⟩)),(.c (.slice none 0 0)),(.t 21)]),ex 23 0 22,ex 24 1 22,m 2 23,m 3 24] [2,3] <| .seq (z [.r (some 26) (.eq .ptr false (.t 2) (.c (.pointer none))),m' 26 false 28 3,bk' 26 false 29 .neq 28 0,u 30 26 29] [2,30] <| j 30 (z [.r (some 0) (.mv (.c (.bool false)))] [0] <| .ret) (.skip)) <| z [c 33 24 [2],ex 34 0 33,ex 35 1 33,m 4 34,m 5 35] [2,4,5] <| z [c 37 11 [2],.e (some 6) (.al 39 (.agg #[(i 0),(.slice none 0 0),(i 0),(i 0),(i 0),(i 0),(i 0),(.string ⟨#[]⟩)])),s 8 6 37] [2,4,5,6] <| .seq (z [bk 39 .neq 4 0,m' 39 false 41 5,bk' 39 false 42 .neq 41 0,u 43 39 42,f' 43 false 45 3 6,l' 43 false 46 45,bk' 43 false 47 .neq 46 1,u 48 43 47] [2,48] <| j 48 (z [.r (some 0) (.mv (.c (.bool false)))] [0] <| .ret) (.skip)) <| z [.e (some 50) (.call 18 [(.t 2),(k 50)]),m 7 50] [2,7] <| z [c 52 11 [2],.e (some 8) (.al 39 (.agg #[(i 0),(.slice none 0 0),(i 0),(i 0),(i 0),(i 0),(i 0),(.string ⟨#[]⟩)])),s 8 8 52] [7,8] <| z [bk 54 .eql 7 8,f' 54 true 56 3 8,l' 54 true 57 56,bk' 54 true 58 .eql 57 9,a 59 54 58,f' 59 true 61 0 8,l' 59 true 62 61,bk' 59 true 63 .eql 62 2,a 64 59 63,f' 64 true 66 1 8,l' 64 true 67 66,le' 64 true 68 67,bk' 64 true 69 .eql 68 1,a 70 64 69,f' 70 true 72 1 8,l' 70 true 73 72,.gr 70 true (some 74) (.ia 2 (.t 73) (k 0)),ln' 70 true 75 2 74,.gr 70 true (some 76) (.bd #[(.string ⟨#[]⟩),(i 0)] [(1,1,(k 3))]),.gr 70 true (some 77) (.eqa false [(0,.str),(1,.int)] (.t 75) (.t 76)),a 78 70 77,m 0 78] [0] <| .ret
theorem fit7:Fits Tryz.prog 7 0 (hOf Tryz.f7 ir7) ir7 [.t 0] 79:=.m Tryz.f7 _
def ir8:IR:=z [.e (some 5) (.bx 25 (.t 0)),.e (some 8) (.bx 28 (.t 3))] [1,2,4,5,8] <| z [ln 14 2 5,ln 17 3 8,c 18 15 [14,1,2,17],ex 19 0 18,ex 20 1 18,m 11 19,m 12 20] [4,11,12] <| .seq (z [.r (some 22) (.eq .ptr false (.t 11) (.c (.pointer none))),m' 22 false 24 12,bk' 22 false 25 .neq 24 0,u 26 22 25] [4,11,26] <| j 26 (z [.r (some 10) (.mv (.c (.pointer none)))] [10] <| .ret) (.skip)) <| z [.r (some 29) (.mm false (.t 4) (k 20000)),c 30 18 [11,29]] [11] <| z [m 10 11] [10] <| .ret
theorem fit8:Fits Tryz.prog 8 5 (hOf Tryz.f8 ir8) ir8 [.t 10] 32:=.m Tryz.f8 _
def ir9L1:IR:=.seq (z [bi 20 .lss 6 3] [1,2,3,4,5,6,20] <| j 20 (.skip) ((.exit 0))) <| .seq (.block 1 (z [f 23 1 1,l 24 23,ia 26 3 24 6,f 27 0 26,l 28 27,.r (some 29) (.lns (.t 28)),.r (some 31) (.lns (.t 5)),bi 32 .geq 29 31] [1,2,3,4,5,6,32] <| j 32 (q [f 34 1 1,l 35 34,ia 37 3 35 6,f 38 0 37,l 39 38,bi 40 .add 5 39,m 5 40] [1,2,3,4,5,6]) (.skip))) <| q [bk 22 .add 6 1,m 6 22] [1,2,3,4,5,6]
def ir9L2:IR:=.seq (z [f 62 2 8,l 63 62,le 64 63,bi 65 .lss 10 64] [1,2,3,4,7,8,9,10,65] <| j 65 (.skip) ((.exit 4))) <| .seq (.block 5 (z [f 68 2 8,l 69 68,ia 71 3 69 10,ln 72 3 71,.e (some 11) (.al 66 (.agg #[(i 0),(i 0),(i 0)])),s 3 11 72] [1,2,3,4,7,8,9,10,11] <| .seq (z [f 73 0 11,l 74 73,bk 75 .eql 74 2] [1,2,3,4,7,8,9,10,11,75] <| j 75 (q [f 77 1 11,l 78 77,bi 79 .sub 3 78,f 80 1 11,s 1 80 79] [1,2,3,4,7,8,9,10,11]) (.skip)) <| q [ln 82 3 11,.e (some 83) (.bs 66 1 #[(i 0),(i 0),(i 0)] [(0,3,(.t 82))]),.e (some 84) (.ap 66 3 24 #[(i 0),(i 0),(i 0)] (.t 9) (.t 83)),m 9 84] [1,2,3,4,7,8,9,10])) <| q [bk 67 .add 10 1,m 10 67] [1,2,3,4,7,8,9,10]
def ir9L3:IR:=.seq (z [bk 53 .geq 7 0] [1,2,3,4,7,53] <| j 53 (.skip) ((.exit 2))) <| .seq (.block 3 (z [f 56 1 1,l 57 56,ia 59 3 57 7,ln 60 3 59,.e (some 8) (.al 70 (.agg #[(.string ⟨#[]⟩),(i 0),(.slice none 0 0)])),s 3 8 60] [1,2,3,4,7,8] <| z [.r (some 9) (.mv (.c (.slice none 0 0)))] [1,2,3,4,7,8,9] <| .seq (z [mk 10 0] [1,2,3,4,7,8,9,10] <| .block 4 (.loop ir9L2)) <| z [f 86 2 8,s 1 86 9] [1,2,3,4,7,8] <| q [f 87 1 4,l 88 87,ln 89 3 8,.e (some 90) (.bs 70 1 #[(.string ⟨#[]⟩),(i 0),(.slice none 0 0)] [(0,3,(.t 89))]),.e (some 91) (.ap 70 3 48 #[(.string ⟨#[]⟩),(i 0),(.slice none 0 0)] (.t 88) (.t 90)),f 92 1 4,s 1 92 91] [1,2,3,4,7])) <| q [bk 55 .sub 7 1,m 7 55] [1,2,3,4,7]
def ir9:IR:=z [.e (some 1) (.bx 25 (.t 0)),.e (some 2) (.al 25 (.agg #[(.slice none 0 0),(.slice none 0 0)]))] [1,2] <| z [f 12 1 1,l 13 12,le 14 13,m 3 14] [1,2,3] <| z [f 15 0 1,l 16 15,.r (some 17) (.bd #[(.slice none 0 0),(.slice none 0 0)] [(0,1,(.t 16))]),.e (some 4) (.al 25 (.agg #[(.slice none 0 0),(.slice none 0 0)])),s 2 4 17] [1,2,3,4] <| z [.r (some 5) (.mv (.c (.string ⟨#[110,111,98,111,100,121,39,115]⟩)))] [1,2,3,4,5] <| .seq (z [mk 6 0] [1,2,3,4,5,6] <| .block 0 (.loop ir9L1)) <| z [f 41 1 4,l 42 41,.r (some 44) (.bd #[(i 0),(i 0),(i 0)] [(0,1,(k 16)),(1,1,(k 1))]),.e (some 45) (.bs 66 1 #[(i 0),(i 0),(i 0)] [(0,3,(.t 44))]),.r (some 46) (.bd #[(.string ⟨#[]⟩),(i 0),(.slice none 0 0)] [(0,1,(.t 5)),(2,1,(.t 45))]),.e (some 47) (.bs 70 1 #[(.string ⟨#[]⟩),(i 0),(.slice none 0 0)] [(0,3,(.t 46))]),.e (some 48) (.ap 70 3 48 #[(.string ⟨#[]⟩),(i 0),(.slice none 0 0)] (.t 42) (.t 47)),f 49 1 4,s 1 49 48] [1,2,3,4] <| .seq (z [bk 51 .sub 3 1,m 7 51] [1,2,3,4,7] <| .block 2 (.loop ir9L3)) <| z [ln 93 2 4,s 2 2 93] [2] <| .ret
theorem fit9:Fits Tryz.prog 9 1 (hOf Tryz.f9 ir9) ir9 [.n 2 2] 94:=.m Tryz.f9 _
def ir10L1:IR:=.seq (z [f 7 1 1,l 8 7,le 9 8,bi 10 .lss 5 9] [1,3,4,5,10] <| j 10 (.skip) ((.exit 0))) <| .seq (.block 1 (z [f 14 1 1,l 15 14,ia 17 3 15 5,f 18 0 17,l 19 18,.r (some 20) (.lns (.t 19)),bi 21 .add 3 20,m 3 21] [1,3,4,5] <| q [f 23 1 1,l 24 23,ia 26 3 24 5,f 27 2 26,l 28 27,le 29 28,bi 30 .add 4 29,m 4 30] [1,3,4,5])) <| q [bk 12 .add 5 1,m 5 12] [1,3,4,5]
def ir10:IR:=z [.e (some 1) (.bx 25 (.t 0))] [1] <| z [mk 3 0] [1,3] <| z [mk 4 0] [1,3,4] <| .seq (z [mk 5 0] [1,3,4,5] <| .block 0 (.loop ir10L1)) <| z [bk 32 .gtr 3 2000,m' 32 false 34 4,bk' 32 false 35 .geq 34 200000,u 36 32 35,m 2 36] [2] <| .ret
theorem fit10:Fits Tryz.prog 10 1 (hOf Tryz.f10 ir10) ir10 [.t 2] 37:=.m Tryz.f10 _
def ir12:IR:=z [.e (some 2) (.bx 39 (.t 0)),.e (some 3) (.bx 39 (.t 1))] [2,3] <| z [f 6 1 2,l 7 6,f 8 1 3,l 9 8,c 10 19 [7,9],m 5 10] [2,3,5] <| z [f 11 0 2,l 12 11,f 13 0 3,l 14 13,bi 15 .eql 12 14,f' 15 true 17 2 2,l' 15 true 18 17,f' 15 true 19 2 3,l' 15 true 20 19,bi' 15 true 21 .eql 18 20,a 22 15 21,f' 22 true 24 3 2,l' 22 true 25 24,f' 22 true 26 3 3,l' 22 true 27 26,bi' 22 true 28 .eql 25 27,a 29 22 28,f' 29 true 31 4 2,ln' 29 true 32 4 31,f' 29 true 33 4 3,ln' 29 true 34 4 33,.gr 29 true (some 35) (.eqa false [(0,.int),(1,.int),(2,.int),(3,.str)] (.t 32) (.t 34)),a 36 29 35,m' 36 true 38 5,a 39 36 38,m 4 39] [4] <| .ret
theorem fit12:Fits Tryz.prog 12 2 (hOf Tryz.f12 ir12) ir12 [.t 4] 40:=.m Tryz.f12 _
def ir19:IR:=z [] [0,1] <| z [c 8 23 [0,1],m 5 8] [0,1,5] <| z [m' 5 true 11 0,le' 5 true 12 11,m' 5 true 13 1,le' 5 true 14 13,bi' 5 true 15 .eql 12 14,a 16 5 15,m 4 16] [4] <| .ret
theorem fit19:Fits Tryz.prog 19 2 (hOf Tryz.f19 ir19) ir19 [.t 4] 17:=.m Tryz.f19 _
def ir23L1:IR:=.seq (z [le 8 0,bi 9 .lss 5 8,m' 9 true 11 5,m' 9 true 12 1,le' 9 true 13 12,bi' 9 true 14 .lss 11 13,a 15 9 14] [0,1,5,15] <| j 15 (.skip) ((.exit 0))) <| .seq (.block 1 (.seq (q' [m 18 0,m 19 5,ia 20 2 18 19,ln 21 2 20,m 22 1,m 23 5,ia 24 2 22 23,ln 25 2 24,.r (some 26) (.eqa true [(0,.str),(1,.int)] (.t 21) (.t 25))] [0,1,5,26]) <| j 26 (z [.r (some 4) (.mv (.c (.bool false)))] [4] <| .ret) (.skip))) <| q [bk 17 .add 5 1,m 5 17] [0,1,5]
def ir23:IR:=z [] [0,1] <| .seq (z [mk 5 0] [0,1,5] <| .block 0 (.loop ir23L1)) <| z [.r (some 4) (.mv (.c (.bool true)))] [4] <| .ret
theorem fit23:Fits Tryz.prog 23 2 (hOf Tryz.f23 ir23) ir23 [.t 4] 27:=.m Tryz.f23 _
def ir25:IR:=z [] [] <| z [.r (some 1) (.bd #[(.string ⟨#[]⟩),(i 0)] [(0,1,(.c (.string ⟨#[70,97,108,115,101]⟩)))]),.r (some 2) (.bd #[(.string ⟨#[]⟩),(i 0)] [(0,1,(.c (.string ⟨#[84,114,117,101]⟩)))]),.r (some 3) (.bd #[(.string ⟨#[]⟩),(i 0)] [(0,1,(.c (.string ⟨#[85,110,105,116]⟩)))]),.r (some 4) (.bd #[(.string ⟨#[]⟩),(i 0)] [(0,1,(.c (.string ⟨#[78,105,108]⟩)))]),.r (some 5) (.bd #[(.string ⟨#[]⟩),(i 0)] [(0,1,(.c (.string ⟨#[67,111,110,115]⟩))),(1,1,(k 2))]),.r (some 6) (.bd #[(.string ⟨#[]⟩),(i 0)] [(0,1,(.c (.string ⟨#[80,97,105,114]⟩))),(1,1,(k 2))]),.r (some 7) (.bd #[(.string ⟨#[]⟩),(i 0)] [(0,1,(.c (.string ⟨#[84,114,105,112,108,101]⟩))),(1,1,(k 3))]),.e (some 8) (.bs 89 7 #[(.string ⟨#[]⟩),(i 0),(.string ⟨#[]⟩),(i 0),(.string ⟨#[]⟩),(i 0),(.string ⟨#[]⟩),(i 0),(.string ⟨#[]⟩),(i 0),(.string ⟨#[]⟩),(i 0),(.string ⟨#[]⟩),(i 0)] [(0,2,(.t 1)),(2,2,(.t 2)),(4,2,(.t 3)),(6,2,(.t 4)),(8,2,(.t 5)),(10,2,(.t 6)),(12,2,(.t 7))]),m 0 8] [0] <| .ret
theorem fit25:Fits Tryz.prog 25 0 (hOf Tryz.f25 ir25) ir25 [.t 0] 9:=.m Tryz.f25 _
end
section
open Go Go.W
def itEq (a b:It):Bool:=decide (a.con=b.con)&&decide (a.num=b.num)
theorem itEq_iff (a b:It):itEq a b=true↔a=b:=by
 unfold itEq
 simp only [Bool.and_eq_true,decide_eq_true_eq]
 constructor
 · rintro ⟨h1,h2⟩;cases a;cases b;simp_all
 · rintro rfl;exact ⟨rfl,rfl⟩
def begS:List It→List It→Bool
 | [],_=>true
 | _,[]=>true
 | a::l,b::m=>itEq a b&&begS l m
theorem begS_at {l m:List It} {i:Nat} (h1:i < l.length) (h2:i < m.length):begS (l.drop i) (m.drop i)=(itEq l[i] m[i]&&begS (l.drop (i+1)) (m.drop (i+1))):=by
 rw [List.drop_eq_getElem_cons h1,List.drop_eq_getElem_cons h2];rfl
theorem begS_end {l m:List It} {i:Nat} (h:l.length≤i∨m.length≤i):begS (l.drop i) (m.drop i)=true:=by
 rcases h with h | h
 · rw [List.drop_eq_nil_of_le h];cases m.drop i<;>rfl
 · rw [List.drop_eq_nil_of_le h];cases l.drop i<;>rfl
theorem begS_same:∀ (l m:List It),(begS l m&&decide (l.length=m.length))=true↔l=m:=by
 intro l
 induction l with
 | nil=>
   intro m
   cases m with
   | nil=>simp [begS]
   | cons b m=>simp [begS]
 | cons a l ih=>
   intro m
   cases m with
   | nil=>simp [begS]
   | cons b m=>
     have:=ih m
     simp only [begS,Bool.and_eq_true,decide_eq_true_eq,List.length_cons,List.cons.injEq,itEq_iff] at this ⊢
     constructor
     · rintro ⟨⟨h1,h2⟩,h3⟩;exact ⟨h1,this.1 ⟨h2,by omega⟩⟩
     · rintro ⟨h1,h2⟩;have:=this.2 h2;exact ⟨⟨h1,this.1⟩,by omega⟩
def ItsAt (w:World) (v:Value) (l:List It):Prop:=∃ B,RowsAt w v 2 (l.map itRow) B
theorem ItsAt.mod {w w':World} {v:Value} {l:List It} (h:ItsAt w v l) (hm:Mod (fun _=>False) w w'):ItsAt w' v l:=by
 obtain ⟨B,h⟩:=h
 exact ⟨B,h.mod hm (fun _ _ h=>h) (fun _ h=>h)⟩
theorem itRow_len (l:List It):∀ r∈l.map itRow,r.length=2:=by
 intro r hr
 obtain ⟨x,_,rfl⟩:=List.mem_map.1 hr
 rfl
theorem ToldAt.its {w w':World} {v:Value} {l:List It} (h:ToldAt w w' v l):ItsAt w' v l:=by
 obtain ⟨fp,h1,_⟩:=h
 refine ⟨_,own_rows (rows:=l.map itRow) (fp:=fp) (T:=72) ?_ (itRow_len l)⟩
 rw [List.length_map,List.flatMap_map]
 exact h1
theorem its_sl {w:World} {v:Value} {l:List It} (h:ItsAt w v l):∃ a c,v = .slice a l.length c:=by
 obtain ⟨B,h⟩:=h
 obtain ⟨a,c,e⟩:=rows_sl h
 exact ⟨a,c,by rw [e,List.length_map]⟩
theorem its_ln {w:World} {v:Value} {l:List It} (h:ItsAt w v l) {i:Nat} (hi:i < l.length):∃ ad c,v = .slice (some ad) l.length c∧vLN w 2 (.pointer (some (ad.add (i*2))))=some (.agg #[.string l[i].con,I l[i].num]):=by
 obtain ⟨B,h⟩:=h
 obtain ⟨ad,c,e,h1,h2⟩:=row_at h (i:=i) (by simpa using hi)
 refine ⟨ad,c,by rw [e,List.length_map],ln_2 ?_ ?_⟩
 · rw [h2 0 (by rw [h1];omega)];simp [itRow]
 · rw [h2 1 (by rw [h1];omega)];simp [itRow]
section
variable {w:World} {v1 v2:Value} {l1 l2:List It}
theorem f_begins (h1:ItsAt w v1 l1) (h2:ItsAt w v2 l2) (hb:l1.length≤4611686018427387904):CallsR Tryz.prog 23 [v1,v2] w fun r w'=>r = .bool (begS l1 l2)∧Mod (fun _=>False) w w':=by
 obtain ⟨a1,c1,rfl⟩:=its_sl h1
 obtain ⟨a2,c2,rfl⟩:=its_sl h2
 refine fit23.calls rfl ?_
 unfold ir23
 (try simp only [go_sem,simprocAttr])
 refine ir_loop (fun z ρ w'=>∃ i:Nat,z=l1.length - i∧i≤l1.length∧Mod (fun _=>False) w w'∧begS l1 l2=begS (l1.drop i) (l2.drop i) ∧
   ρ=[(0,.slice a1 l1.length c1),(1,.slice a2 l2.length c2),(5,I i)]) l1.length ⟨0,rfl,by omega,Mod.refl _ _,rfl,rfl⟩ ?_
 rintro z ρ w2 ⟨i,rfl,hi,hm2,heq,rfl⟩
 unfold ir23L1
 (try simp only [go_sem,simprocAttr])
 refine wpS_cut (fun ρ w'=>w2=w'∧ρ.get 0=some (.slice a1 l1.length c1)∧ρ.get 1=some (.slice a2 l2.length c2)∧ρ.get 5=some (I i)∧ρ.get 15=some (.bool (decide (i < l1.length∧i < l2.length)))) ?_ ?_
 · cases q:decide ((i:Int) < l1.length)<;>(try simp only [go_sem,simprocAttr,q])<;>(simp only [zb1,zb2,zb3,zb4,zb5] at q;simp [q];try omega)
 rintro ρ _ ⟨rfl,r0,r1,r5,r15⟩
 (try simp only [go_sem,simprocAttr,r0,r1,r5,r15])
 refine ir_cond rfl (fun hlt=>?_) (fun hlt=>?_)
 · simp only [zb1,zb2,zb3,zb4,zb5] at hlt
   have hat:=begS_at hlt.1 hlt.2
   have hm2d:=hm2.drew
   obtain ⟨ad1,c1',e1,hl1⟩:=its_ln (h1.mod hm2d) hlt.1
   obtain ⟨ad2,c2',e2,hl2⟩:=its_ln (h2.mod hm2d) hlt.2
   cases e1;cases e2
   have b1:(0:Int)≤i∧(i:Int) < l1.length:=by omega
   have b2:(0:Int)≤i∧(i:Int) < l2.length:=by omega
   have e3:IntKind.i64.wrap ((i:Int)+1)=((i+1:Nat):Int):=by rw [wrap_in (by omega) (by omega)];omega
   (try simp only [go_sem,simprocAttr,zb4,zb6,b1,b2,hl1,hl2,ba_leq,ieq])
   have e4:(decide (l1[i].con=l2[i].con)&&decide (l1[i].num=l2[i].num))=itEq l1[i] l2[i]:=rfl
   rw [e4]
   refine ir_cond rfl (fun hz=>?_) (fun hz=>?_)
   · (try simp only [go_sem,simprocAttr])
     rw [heq,hat,show itEq l1[i] l2[i]=false by simpa using hz]
     exact ⟨rfl,hm2d⟩
   · (try simp only [go_sem,simprocAttr,e3])
     exact ⟨_,by omega,i+1,rfl,by omega,hm2d,by rw [heq,hat,show itEq l1[i] l2[i]=true by simpa using hz];rfl,rfl⟩
 · simp only [zb1,zb2,zb3,zb4,zb5] at hlt
   (try simp only [go_sem,simprocAttr])
   rw [heq,begS_end (by omega)]
   exact ⟨rfl,hm2⟩
theorem f_sameTold (h1:ItsAt w v1 l1) (h2:ItsAt w v2 l2) (hb:l1.length≤4611686018427387904):CallsR Tryz.prog 19 [v1,v2] w fun r w'=>(∃ t:Bool,r = .bool t∧(t=true↔l1=l2))∧Mod (fun _=>False) w w':=by
 have h1':=h1
 have h2':=h2
 obtain ⟨a1,c1,rfl⟩:=its_sl h1
 obtain ⟨a2,c2,rfl⟩:=its_sl h2
 refine fit19.calls rfl ?_
 unfold ir19
 (try simp only [go_sem,simprocAttr])
 refine e_call (by rfl) ?_
 refine (f_begins h1' h2' hb).mono ?_
 rintro _ w1 ⟨rfl,hm1⟩
 have hs:=begS_same l1 l2
 have e:((l1.length:Int) == (l2.length:Int))=decide (l1.length=l2.length):=by rw [ieq];exact decide_eq_decide.2 (by omega)
 cases hb:begS l1 l2
 · rw [hb] at hs
   (try simp only [go_sem,simprocAttr])
   exact ⟨⟨_,rfl,hs⟩,hm1⟩
 · rw [hb,Bool.true_and] at hs
   (try simp only [go_sem,simprocAttr,e])
   exact ⟨⟨_,rfl,hs⟩,hm1⟩
theorem f_same {k1 k2 s1 s2 n1 n2:Int} (h1:ItsAt w v1 l1) (h2:ItsAt w v2 l2) (hb:l1.length≤4611686018427387904) :
   CallsR Tryz.prog 12 [outV k1 v1 s1 n1,outV k2 v2 s2 n2] w fun r w'=>(∃ t:Bool,r = .bool t∧(t=true↔k1=k2∧s1=s2∧n1=n2∧l1=l2))∧Mod (fun _=>False) w w':=by
 have h1':=h1
 have h2':=h2
 obtain ⟨a1,c1,rfl⟩:=its_sl h1
 obtain ⟨a2,c2,rfl⟩:=its_sl h2
 refine fit12.calls rfl ?_
 unfold ir12 outV
 (try simp only [go_sem,simprocAttr])
 refine e_bx rfl ?_
 intro w1 hb1 hm1 hs1
 (try simp only [go_sem,simprocAttr])
 refine e_bx rfl ?_
 intro w2 hb2 hm2 hs2
 have hb12:=hm2.at hb1 (fun h=>h)
 have hm02:=hm1.trans hm2
 (try simp only [go_sem,simprocAttr,cell_of hb12,cell_of hb2,Value.cells])
 refine e_call (by rfl) ?_
 refine (f_sameTold (h1'.mod hm02) (h2'.mod hm02) hb).mono ?_
 rintro _ w3 ⟨⟨t,rfl,ht⟩,hm3⟩
 have hm03:=hm02.trans hm3
 have hb13:=hm3.at hb12 (fun h=>h)
 have hb23:=hm3.at hb2 (fun h=>h)
 have hb13':w3.heap[w.heap.size]? = some (.cells [I k1,.slice a1 l1.length c1,I s1,I n1,I 0,I 0,I 0,.string ⟨#[]⟩].toArray 39 (0,0)):=hb13
 have hb23':w3.heap[w1.heap.size]? = some (.cells [I k2,.slice a2 l2.length c2,I s2,I n2,I 0,I 0,I 0,.string ⟨#[]⟩].toArray 39 (0,0)):=hb23
 have ln1:=ln_of (off:=4) (n:=4) hb13' (by simp)
 have ln2:=ln_of (off:=4) (n:=4) hb23' (by simp)
 cases q1:(k1 == k2)<;>cases q2:(s1 == s2)<;>cases q3:(n1 == n2)<;>(try simp only [go_sem,simprocAttr,cell_of hb13',cell_of hb23',q1,q2,q3,ln1,ln2,List.drop_succ_cons,List.drop_zero,List.take_succ_cons,List.take_zero,Int.reduceBEq,beq_self_eq_true,Bool.and_true,Bool.and_self,Bool.true_and])<;>(rw [ieq] at q1 q2 q3;simp only [zb1,zb2,zb3,zb4,zb5] at q1;simp only [zb1,zb2,zb3,zb4,zb5] at q2;simp only [zb1,zb2,zb3,zb4,zb5] at q3;refine ⟨⟨_,rfl,?_⟩,hm03⟩;simp [q1,q2,q3,ht])
end
end
section
open Go Go.W
structure Tri where
 a:Int
 b:Int
 c:Int
structure Vis where
 steps:Int
 live:Int
 ended:Int
 fr:List Tri
section
variable {w:World} {r1 r2:Value} {V1 V2:Vis}
end
end
section
open Go Go.W
structure Yard (w0 w:World) (l:List Mcn) (N:Nat→Prop):Prop where
 mod:Mod (fun _=>False) w0 w
 crew:Crew w l N
 old:∀ b,b < w0.heap.size→N b
section
variable {w0 w w':World} {l:List Mcn} {N:Nat→Prop}
theorem yard_nil (w:World):Yard w w [] (· < w.heap.size):=⟨Mod.refl _ _,crew_nil (fun _ h=>h),fun _ h=>h⟩
theorem yard_less (h:Yard w0 w l N) {N':Nat→Prop} (hN:∀ b,N' b→N b) (ho:∀ b,b < w0.heap.size→N' b):Yard w0 w l N':=⟨h.mod,crew_less h.crew hN,ho⟩
theorem yard_base (h:Yard w0 w l N):Yard w0 w l (· < w0.heap.size):=yard_less h h.old (fun _ h=>h)
theorem yard_later (h:Yard w0 w l N) (hm:Mod (fun _=>False) w w'):Yard w0 w' l (fun b=>N b∨(w.heap.size≤b∧b < w'.heap.size)):=
 ⟨h.mod.trans hm,crew_later h.crew hm,fun b hb=>.inl (h.old b hb)⟩
theorem yard_drew (h:Yard w0 w l N):Yard w0 w.drew l N:=by
 have:=crew_later h.crew (Mod.refl (fun _=>False) w).drew
 exact ⟨h.mod.drew,crew_less this (fun b hb=>.inl hb),h.old⟩
theorem yard_same (h:Yard w0 w l N) (hm:Mod (fun _=>False) w w'):Yard w0 w' l (· < w0.heap.size):=yard_base (yard_later h hm)
theorem yard_trans {l':List Mcn} {N':Nat→Prop} (h:Yard w0 w l N) (hc:Crew w' l' N') (hm:Mod (fun b=>¬ N b) w w') (hN:∀ b,b < w0.heap.size→N' b):Yard w0 w' l' N':=
 ⟨h.mod.step hm (fun b hb hl=>hb (h.old b hl)),hc,hN⟩
theorem yard_new (h:Yard w0 w l N) (hm:Mod (fun _=>False) w w') {M:Mc} {m:Nat} {S:SV} {τ0:Tag} (hA:MAt w' τ0 m S M []) (h0:∀ b,b < w.heap.size→τ0 b = .no) {n:Int} (hg:Good n M):Yard w0 w' (l++[⟨m,S,M,n⟩]) N:=
 ⟨h.mod.trans hm,crew_new h.crew hm hA h0 hg,h.old⟩
variable {i:Nat} {m:Nat} {S:SV} {M:Mc} {n:Int}
theorem y_run (h:Yard w0 w l N) (hi:l[i]? = some ⟨m,S,M,n⟩) (hn:n≤400000) {c:Int} (hc:c≤400000):CallsR Tryz.prog 18 [ptr m,I c] w fun r w'=>
   r=I ((M.steps' c.toNat).steps - M.steps)∧Yard w0 w' (l.set i ⟨m,S,M.steps' c.toNat,n+c.toNat⟩) N∧Mod (fun b=>¬ N b) w w':=by
 refine (g_run h.crew hi hn hc).mono ?_
 rintro r w' ⟨rfl,hc,hm⟩
 exact ⟨rfl,yard_trans h hc hm h.old,hm⟩
theorem y_step (h:Yard w0 w l N) (hi:l[i]? = some ⟨m,S,M,n⟩) (hn:n≤400000):CallsR Tryz.prog 24 [ptr m] w fun r w'=>
   r = .tuple #[I (stepR M).1,I (stepR M).2]∧Yard w0 w' (l.set i ⟨m,S,M.step,n+1⟩) N∧Mod (fun b=>¬ N b) w w':=by
 refine (g_step h.crew hi hn).mono ?_
 rintro r w' ⟨rfl,hc,hm⟩
 exact ⟨rfl,yard_trans h hc hm h.old,hm⟩
theorem y_outcome (h:Yard w0 w l N) (hi:l[i]? = some ⟨m,S,M,n⟩) (hn:n≤400000):CallsR Tryz.prog 11 [ptr m] w fun r w'=>
   (∃ v,r=outV (outKind M) v M.stuck M.steps∧ToldAt w w' v M.told)∧Yard w0 w' l (fun b=>N b∨(w.heap.size≤b∧b < w'.heap.size))∧Mod (fun _=>False) w w':=by
 refine (g_outcome h.crew hi hn).mono ?_
 rintro r w' ⟨hv,hc,hm⟩
 exact ⟨hv,⟨h.mod.trans hm,hc,fun b hb=>.inl (h.old b hb)⟩,hm⟩
end
theorem f_shapes (w:World):CallsR Tryz.prog 25 [] w fun r w'=>r = .slice (some ⟨w.heap.size,0,none⟩) 7 7∧w'.heap[w.heap.size]? = some (.cells (givenS.flatMap shRow).toArray 89 (0,0))∧Mod (fun _=>False) w w':=by
 refine fit25.calls rfl ?_
 unfold ir25
 (try simp only [go_sem,simprocAttr])
 refine e_bs (by rfl) (by rfl) ?_
 intro w1 hb1 hm1 _
 (try simp only [go_sem,simprocAttr])
 exact ⟨hb1,hm1⟩
def awC:List Ins:=[⟨3,1,0⟩,⟨3,2,0⟩,⟨12,1,0⟩,⟨7,1,0⟩,⟨17,0,0⟩]
def awT:Tab:=⟨givenS,[⟨⟨#[109]⟩,0,awC⟩]⟩
def awM:Mc:=newM awT ⟨#[109]⟩ [] 100 false 0
theorem aw_new:newErr awT ⟨#[109]⟩ [] 100 0=0:=by kernel_rfl
theorem aw_step:stepR awM=(0,0):=by kernel_rfl
theorem aw_steps1:awM.step.steps=1:=by kernel_rfl
theorem aw_steps2:(awM.step.steps' 50).steps=9:=by kernel_rfl
theorem aw_kind:outKind (awM.step.steps' 50)=2:=by kernel_rfl
theorem aw_told:(awM.step.steps' 50).told=[⟨⟨#[]⟩,3⟩]:=by kernel_rfl
theorem aw_fit:TabFit awT:=by
 refine ⟨by decide,by decide,?_,?_,?_,?_⟩
 all_goals decide
theorem out_one {w w':World} {v:Value} {l:List It} (hv:ToldAt w w' v l) (k st n:Int):∀ u∈[I k,v,I st,I n,I 0,I 0,I 0,.string ⟨#[]⟩],u.oneCell'=true:=by
 obtain ⟨fp,h,_⟩:=hv
 obtain ⟨a,c,rfl,_⟩:=h.val
 intro u hu
 simp only [List.mem_cons,List.not_mem_nil,or_false] at hu
 rcases hu with rfl | rfl | rfl | rfl | rfl | rfl | rfl | rfl<;>rfl
theorem nil_ints (w:World):Ints w (.slice none 0 0) []:=⟨none,0,rfl,by simp,fun i hi=>absurd hi (by simp)⟩
theorem f_awake (w:World):CallsR Tryz.prog 7 [] w fun r w'=>r = .bool true∧Mod (fun _=>False) w w':=by
 refine fit7.calls rfl ?_
 unfold ir7
 (try simp only [go_sem,Nat.reduceAdd,Nat.reduceEqDiff,Nat.reduceLT,Nat.reduceLeDiff,Nat.reduceMul,reduceCtorEq,↓reduceIte])
 refine e_bs (by rfl) (by rfl) ?_
 intro w1 hb1 hm1 hs1
 (try simp only [go_sem,Nat.reduceAdd,Nat.reduceEqDiff,Nat.reduceLT,Nat.reduceLeDiff,Nat.reduceMul,reduceCtorEq,↓reduceIte])
 refine e_call (by rfl) ?_
 refine (f_shapes w1).mono ?_
 rintro _ w2 ⟨rfl,hb2,hm2⟩
 (try simp only [go_sem,Nat.reduceAdd,Nat.reduceEqDiff,Nat.reduceLT,Nat.reduceLeDiff,Nat.reduceMul,reduceCtorEq,↓reduceIte])
 refine e_bs (by rfl) (by rfl) ?_
 intro w3 hb3 hm3 hs3
 have hT:TabAt w3 (.slice (some ⟨w1.heap.size,0,none⟩) 7 7) (.slice (some ⟨w2.heap.size,0,none⟩) 1 1) awT (· < w3.heap.size):=by
   have hb13:=(hm2.trans hm3).at hb1 (fun h=>h)
   have hb23:=hm3.at hb2 (fun h=>h)
   refine ⟨(own_rows (rows:=givenS.map shRow) (T:=89) (fp:=some w1.heap.size) (OwnS.of_block hb23 (by rfl)) (by decide)).mod (Mod.refl (fun _=>False) _) (fun _ _ h=>h) (fun b e=>by cases e;exact lt_of_heap hb23),[.slice (some ⟨w.heap.size,0,none⟩) 5 5],rfl,?_,?_⟩
   · exact (own_rows (rows:=[[.string ⟨#[109]⟩,I 0,.slice (some ⟨w.heap.size,0,none⟩) 5 5]]) (T:=70) (fp:=some w2.heap.size) (OwnS.of_block hb3 (by rfl)) (by intro r hr;cases hr with | head=>rfl | tail _ h=>cases h)).mod (Mod.refl (fun _=>False) _) (fun _ _ h=>h) (fun b e=>by cases e;exact lt_of_heap hb3)
   · intro i g v hg hv
     cases i with
     | zero=>
       cases hg;cases hv
       exact (own_rows (rows:=awC.map insRow) (T:=66) (fp:=some w.heap.size) (OwnS.of_block hb13 (by rfl)) (by intro r hr;obtain ⟨x,_,rfl⟩:=List.mem_map.1 hr;rfl)).mod (Mod.refl (fun _=>False) _) (fun _ _ h=>h) (fun b e=>by cases e;exact lt_of_heap hb13)
     | succ i=>cases hg
 have hm03:=(hm1.trans hm2).trans hm3
 have hY3:=yard_same (yard_nil w) hm03
 (try simp only [go_sem,Nat.reduceAdd,Nat.reduceEqDiff,Nat.reduceLT,Nat.reduceLeDiff,Nat.reduceMul,reduceCtorEq,↓reduceIte])
 refine e_call (by rfl) ?_
 refine (m_new (entry:=⟨#[109]⟩) (input:=[]) (heap:=100) (gens:=false) (every:=0) hT aw_fit (fun b h=>h) (nil_ints _)).mono ?_
 rintro _ w4 ⟨hm4,_,hn⟩
 obtain ⟨τ,m,S,rfl,hA,h0⟩:=hn aw_new
 have hY4:=yard_new hY3 hm4 hA h0 (newM_good (gens:=false) aw_new)
 (try simp only [go_sem,Nat.reduceAdd,Nat.reduceEqDiff,Nat.reduceLT,Nat.reduceLeDiff,Nat.reduceMul,reduceCtorEq,↓reduceIte,ptr])
 refine ir_cond rfl (fun hh=>absurd hh (by decide)) (fun _=>?_)
 (try simp only [go_sem,Nat.reduceAdd,Nat.reduceEqDiff,Nat.reduceLT,Nat.reduceLeDiff,Nat.reduceMul,reduceCtorEq,↓reduceIte])
 refine e_call (by rfl) ?_
 refine (y_step hY4 (i:=0) rfl (by decide)).mono ?_
 rintro _ w5 ⟨rfl,hY5,_⟩
 have e1:stepR (newM awT ⟨#[109]⟩ [] 100 false 0)=(0,0):=aw_step
 rw [e1]
 (try simp only [go_sem,Nat.reduceAdd,Nat.reduceEqDiff,Nat.reduceLT,Nat.reduceLeDiff,Nat.reduceMul,reduceCtorEq,↓reduceIte])
 refine e_call (by rfl) ?_
 refine (y_outcome hY5 (i:=0) rfl (by decide)).mono ?_
 rintro _ w6 ⟨⟨v1,rfl,hv1⟩,hY6,hm6⟩
 have hY6:=yard_base hY6
 have e2:(newM awT ⟨#[109]⟩ [] 100 false 0).step.steps=1:=aw_steps1
 rw [e2]
 (try simp only [go_sem,Nat.reduceAdd,Nat.reduceEqDiff,Nat.reduceLT,Nat.reduceLeDiff,Nat.reduceMul,reduceCtorEq,↓reduceIte])
 refine e_al ?_
 intro w7 hb7 hm7 hs7
 (try simp only [go_sem,Nat.reduceAdd,Nat.reduceEqDiff,Nat.reduceLT,Nat.reduceLeDiff,Nat.reduceMul,reduceCtorEq,↓reduceIte])
 refine e_sta (cs:=[I 0,.slice none 0 0,I 0,I 0,I 0,I 0,I 0,.string ⟨#[]⟩]) rfl rfl hb7 rfl rfl (out_one hv1 _ _ _) ?_
 intro w8 hb8 hm8 hs8
 have hm68:Mod (fun _=>False) w6 w8:=hm7.step hm8 (fun b hb hl=>by subst hb;omega)
 have hY8:=yard_same hY6 hm68
 (try simp only [go_sem,Nat.reduceAdd,Nat.reduceEqDiff,Nat.reduceLT,Nat.reduceLeDiff,Nat.reduceMul,reduceCtorEq,↓reduceIte,cell_of hb8,bne_self_eq_false,Int.reduceBNe,Bool.not_false])
 refine e_call (by rfl) ?_
 refine (y_run hY8 (i:=0) rfl (by decide) (c:=50) (by decide)).mono ?_
 rintro _ w9 ⟨rfl,hY9,_⟩
 have e3:((newM awT ⟨#[109]⟩ [] 100 false 0).step.steps' (50:Int).toNat).steps=9:=aw_steps2
 rw [e2,e3]
 (try simp only [go_sem,Nat.reduceAdd,Nat.reduceEqDiff,Nat.reduceLT,Nat.reduceLeDiff,Nat.reduceMul,reduceCtorEq,↓reduceIte])
 refine e_call (by rfl) ?_
 refine (y_outcome hY9 (i:=0) rfl (by decide)).mono ?_
 rintro _ w10 ⟨⟨v2,rfl,hv2⟩,hY10,hm10⟩
 have e4:((newM awT ⟨#[109]⟩ [] 100 false 0).step.steps' (50:Int).toNat).told=[⟨⟨#[]⟩,3⟩]:=aw_told
 have e5:outKind ((newM awT ⟨#[109]⟩ [] 100 false 0).step.steps' (50:Int).toNat)=2:=aw_kind
 rw [e4] at hv2
 rw [e3,e5]
 (try simp only [go_sem,Nat.reduceAdd,Nat.reduceEqDiff,Nat.reduceLT,Nat.reduceLeDiff,Nat.reduceMul,reduceCtorEq,↓reduceIte])
 refine e_al ?_
 intro w11 hb11 hm11 hs11
 (try simp only [go_sem,Nat.reduceAdd,Nat.reduceEqDiff,Nat.reduceLT,Nat.reduceLeDiff,Nat.reduceMul,reduceCtorEq,↓reduceIte])
 refine e_sta (cs:=[I 0,.slice none 0 0,I 0,I 0,I 0,I 0,I 0,.string ⟨#[]⟩]) rfl rfl hb11 rfl rfl (out_one hv2 _ _ _) ?_
 intro w12 hb12 hm12 hs12
 have hm1012:Mod (fun _=>False) w10 w12:=hm11.step hm12 (fun b hb hl=>by subst hb;omega)
 have hY12:=yard_same hY10 hm1012
 obtain ⟨ad,c,rfl,hl⟩:=its_ln (hv2.its.mod hm1012) (i:=0) (by decide)
 rw [Nat.zero_mul,add_zero'] at hl
 have b1:(0:Int)≤0∧(0:Int) < 1:=by decide
 (try simp only [go_sem,Nat.reduceAdd,Nat.reduceEqDiff,Nat.reduceLT,Nat.reduceLeDiff,Nat.reduceMul,reduceCtorEq,↓reduceIte,zb4,zb6,cell_of hb12,hl,b1,Int.natCast_one,ba_leq,ieq,decide_true,List.getElem_cons_zero,beq_self_eq_true,Int.reduceBEq,Int.reduceSub,Int.reduceLE,Int.reduceLT])
 exact hY12.mod
def cutF (fuel:Int):Int:=if 20000 < fuel then 20000 else fuel
theorem cutF_le (fuel:Int):cutF fuel≤20000:=by unfold cutF;split<;>omega
section
variable {w0 w:World} {l:List Mcn} {N:Nat→Prop} {vsh vgl vin:Value} {T:Tab} {B:Nat→Prop} {entry:ByteArray} {input:List Int} {heap every fuel:Int} {gens:Bool}
theorem f_run (h:Yard w0 w l N) (ht:TabAt w vsh vgl T B) (hT:TabFit T) (hBl:∀ b,B b→b < w.heap.size) (hin:Ints w vin input) :
   CallsR Tryz.prog 8 [tabV vsh vgl,.string entry,vin,setV heap gens every,I fuel] w fun r w'=>
     (newErr T entry input heap every≠0→r = .pointer none∧Yard w0 w' l (· < w0.heap.size)) ∧
     (newErr T entry input heap every=0→∃ m S,r=ptr m∧Yard w0 w' (l++[⟨m,S,(newM T entry input heap gens every).steps' (cutF fuel).toNat,(cutF fuel).toNat⟩]) (· < w0.heap.size)):=by
 have ht0:=ht
 have hin0:=hin
 obtain ⟨⟨aS,cS,rfl⟩,aG,cG,rfl⟩:=tab_sl ht
 obtain ⟨aI,cI,rfl,_⟩:=hin
 refine fit8.calls rfl ?_
 unfold ir8 tabV setV
 (try simp only [go_sem,simprocAttr])
 refine e_bx rfl ?_
 intro w1 hb1 hm1 hs1
 (try simp only [go_sem,simprocAttr])
 refine e_bx rfl ?_
 intro w2 hb2 hm2 hs2
 have hb12:=hm2.at hb1 (fun h=>h)
 have hm02:=hm1.trans hm2
 have hY2:=yard_same h hm02
 have hb12':w2.heap[w.heap.size]? = some (.cells [.slice aS T.shapes.length cS,.slice aG T.globals.length cG].toArray 25 (0,0)):=hb12
 have hb2':w2.heap[w1.heap.size]? = some (.cells [I heap,.bool gens,I every].toArray 28 (0,0)):=hb2
 have ln1:=ln_of (off:=0) (n:=2) hb12' (by simp)
 have ln2:=ln_of (off:=0) (n:=3) hb2' (by simp)
 (try simp only [go_sem,simprocAttr,ln1,ln2])
 refine e_call (by rfl) ?_
 refine (m_new (T:=T) (B:=B) (entry:=entry) (input:=input) (heap:=heap) (gens:=gens) (every:=every) (ht0.mod hm02 (fun _ _ h=>h) (fun _ h=>h)) hT (fun b hb=>Nat.lt_of_lt_of_le (hBl b hb) hm02.size) (hin0.mod hm02 (fun _ _ h=>h))).mono ?_
 rintro r w3 ⟨hm3,hno,hyes⟩
 by_cases he:newErr T entry input heap every=0
 · obtain ⟨τ,m,S,rfl,hA,h0⟩:=hyes he
   have hY3:=yard_new hY2 hm3 hA h0 (newM_good (gens:=gens) he)
   (try simp only [go_sem,simprocAttr,ptr,bne_self_eq_false,Bool.not_false])
   refine e_call (by rfl) ?_
   refine (y_run (m:=m) (S:=S) (M:=newM T entry input heap gens every) (n:=0) hY3 (i:=l.length) (by simp) (by decide) (c:=cutF fuel) (by have:=cutF_le fuel;omega)).mono ?_
   rintro _ w4 ⟨rfl,hY4,_⟩
   (try simp only [go_sem,simprocAttr])
   refine ⟨fun hh=>absurd he hh,fun _=>⟨m,S,rfl,?_⟩⟩
   have e:(l++[(⟨m,S,newM T entry input heap gens every,0⟩:Mcn)]).set l.length ⟨m,S,(newM T entry input heap gens every).steps' (cutF fuel).toNat,0+(cutF fuel).toNat⟩=l++[⟨m,S,(newM T entry input heap gens every).steps' (cutF fuel).toNat,(cutF fuel).toNat⟩]:=by simp
   rw [e] at hY4
   exact hY4
 · obtain rfl:=hno he
   (try simp only [go_sem,simprocAttr,Option.isNone_none])
   exact ⟨fun _=>yard_same hY2 hm3,fun hh=>absurd hh he⟩
end
end
section
open Go Go.W
structure Tl (M M':Mc):Prop where
 e:M.ended≠4→M'.ended≠4
 t:∃ l,M'.told=M.told++l
end
section
open Go Go.W
theorem yard_good {w0 w:World} {l:List Mcn} {N:Nat→Prop} (h:Yard w0 w l N) {i:Nat} {p:Mcn} (hi:l[i]? = some p):Good p.n p.M:=by
 obtain ⟨_,_,_,h2,_⟩:=crew_do h.crew hi
 exact h2
section
variable {w:World} {vsh vgl vin:Value} {T:Tab} {B:Nat→Prop} {entry:ByteArray} {input:List Int} {heap every a b:Int} {gens:Bool}
end
end
section
open Go Go.W
theorem firstNs_over {n p:Nat} (hp:p < n):over (firstNs n) p=p:=by
 have h1:nxt (firstNs n) p=p:=by
   apply nxt_fix
   unfold ind
   rw [firstNs_ndAt hp]
   rfl
 unfold over
 obtain ⟨k,_,e⟩:=ov_mem (nxt (firstNs n)) (firstNs n).length p
 rw [e,fit_fix h1]
section
variable {ρ:Int→Int} {E:List Nat} {T1 T2:Tab} {entry:ByteArray} {input:List Int} {heap1 heap2 every1 every2:Int} {gens1 gens2:Bool}
theorem range_getD {n:Nat} {g:Int} (h:0≤g∧g < n):((List.range n).map (fun i:Nat=>(i:Int))).getD g.toNat 0=g:=by
 have hlt:g.toNat < n:=by omega
 rw [List.getD_eq_getElem?_getD,List.getElem?_map,List.getElem?_range hlt]
 show ((g.toNat:Nat):Int)=g
 omega
theorem new_twin (h1:newErr T1 entry input heap1 every1=0) (h2:newErr T2 entry input heap2 every2=0) (r1:(T1.globals.length:Int)≤heap1) (r2:(T2.globals.length:Int)≤heap2)
   (ht:TabSim ρ T1 T2) (hρ:∀ g,0≤g→0≤ρ g) (hinj:∀ g g':Int,0≤g→g < T1.globals.length→0≤g'→g' < T1.globals.length→ρ g=ρ g'→g=g') (he:entryI entry T2=ρ (entryI entry T1))
   (hE:∀ i∈E,i < T2.globals.length∧∀ g:Int,0≤g→g < T1.globals.length→ρ g≠i) (cov:Covers ρ E T1.globals.length T2.globals.length) (cap:heap1+E.length≤heap2) :
   Twin ρ E 0 (newM T1 entry input heap1 gens1 every1) (newM T2 entry input heap2 gens2 every2):=by
 have k1:=newM_ok (gens:=gens1) h1 r1
 have k2:=newM_ok (gens:=gens2) h2 r2
 have e1:newM T1 entry input heap1 gens1 every1 = { newI T1 input heap1 gens1 every1 T1.globals.length with wait:=[entryI entry T1]}:=by unfold newM;rw [if_pos r1]
 have e2:newM T2 entry input heap2 gens2 every2 = { newI T2 input heap2 gens2 every2 T2.globals.length with wait:=[entryI entry T2]}:=by unfold newM;rw [if_pos r2]
 have hent:=(new_facts h1).ent
 rw [e1] at k1 ⊢
 rw [e2] at k2 ⊢
 have hR:∀ g:Int,0≤g→g < T1.globals.length→over (firstNs T1.globals.length) g.toNat < T1.globals.length∧((over (firstNs T2.globals.length) (ρ g).toNat:Nat):Int)=ρ ((over (firstNs T1.globals.length) g.toNat:Nat):Int):=by
   intro g g0 g1
   obtain ⟨n0,n1⟩:=ht.nn g g0 g1
   rw [firstNs_over (by omega),firstNs_over (by omega)]
   refine ⟨by omega,?_⟩
   rw [show ((g.toNat:Nat):Int)=g by omega]
   omega
 refine ⟨⟨fun p q=>p < T1.globals.length∧(q:Int)=ρ (p:Int),?_⟩,⟨k1,k2,hρ,?_,cap⟩⟩
 · refine ⟨⟨?_,?_,?_,?_,?_⟩,ht,rfl,rfl,rfl,rfl,rfl,rfl,?_,?_,L2.nil,?_⟩
   · rintro x y ⟨hx,hy⟩
     obtain ⟨n0,n1⟩:=ht.nn (x:Int) (by omega) (by omega)
     have hy':y < T2.globals.length:=by omega
     refine ⟨by rw [ren_len];show x < (firstNs _).length;rw [firstNs_len];exact hx,by show y < (firstNs _).length;rw [firstNs_len];exact hy',?_,firstNs_over hy'⟩
     rw [ren_over]
     exact firstNs_over hx
   · rintro x y y' ⟨_,a⟩ ⟨_,b⟩
     omega
   · rintro x x' y ⟨a,b⟩ ⟨c,d⟩
     have:=hinj x x' (by omega) (by omega) (by omega) (by omega) (by rw [← b,← d])
     omega
   · rintro x y ⟨hx,hy⟩
     obtain ⟨n0,n1⟩:=ht.nn (x:Int) (by omega) (by omega)
     have f1:ndAt (newI T1 input heap1 gens1 every1 T1.globals.length).st.ns x=⟨4,(x:Int),[]⟩:=firstNs_ndAt hx
     have f2:ndAt (newI T2 input heap2 gens2 every2 T2.globals.length).st.ns y=⟨4,(y:Int),[]⟩:=firstNs_ndAt (by omega)
     rw [ren_at]
     show (renNd ρ (ndAt (newI T1 input heap1 gens1 every1 T1.globals.length).st.ns x)).kind=(ndAt (newI T2 input heap2 gens2 every2 T2.globals.length).st.ns y).kind∧(renNd ρ (ndAt (newI T1 input heap1 gens1 every1 T1.globals.length).st.ns x)).num=(ndAt (newI T2 input heap2 gens2 every2 T2.globals.length).st.ns y).num∧(renNd ρ (ndAt (newI T1 input heap1 gens1 every1 T1.globals.length).st.ns x)).args.length=(ndAt (newI T2 input heap2 gens2 every2 T2.globals.length).st.ns y).args.length
     rw [f1,f2]
     exact ⟨rfl,hy.symm,rfl⟩
   · rintro x y ⟨hx,hy⟩ _ i a b hi
     have f1:ndAt (newI T1 input heap1 gens1 every1 T1.globals.length).st.ns x=⟨4,(x:Int),[]⟩:=firstNs_ndAt hx
     rw [ren_at] at hi
     have hi':(renNd ρ (ndAt (newI T1 input heap1 gens1 every1 T1.globals.length).st.ns x)).args[i]? = some a:=hi
     rw [f1] at hi'
     cases hi'
   · intro g g0 g1
     have g1:g < T1.globals.length:=g1
     obtain ⟨n0,n1⟩:=ht.nn g g0 g1
     show (over (firstNs T1.globals.length) (((List.range T1.globals.length).map (fun i:Nat=>(i:Int))).getD g.toNat 0).toNat < T1.globals.length∧_=_)
     have s1:((List.range T1.globals.length).map (fun i:Nat=>(i:Int))).getD g.toNat 0=g:=range_getD ⟨g0,g1⟩
     have s2:((List.range T2.globals.length).map (fun i:Nat=>(i:Int))).getD (ρ g).toNat 0=ρ g:=range_getD ⟨n0,n1⟩
     show (over (firstNs T1.globals.length) (((List.range T1.globals.length).map (fun i:Nat=>(i:Int))).getD g.toNat 0).toNat < T1.globals.length∧((over (firstNs T2.globals.length) (((List.range T2.globals.length).map (fun i:Nat=>(i:Int))).getD (ρ g).toNat 0).toNat:Nat):Int)=ρ ((over (firstNs T1.globals.length) (((List.range T1.globals.length).map (fun i:Nat=>(i:Int))).getD g.toNat 0).toNat:Nat):Int))
     rw [s1,s2]
     exact hR g g0 g1
   · intro i hi
     obtain ⟨i1,i2⟩:=hE i hi
     have s2:((List.range T2.globals.length).map (fun i:Nat=>(i:Int))).getD i 0=(i:Int):=by
       have:=range_getD (n:=T2.globals.length) (g:=(i:Int)) ⟨by omega,by omega⟩
       rw [Int.toNat_natCast] at this
       exact this
     refine ⟨by show i < ((List.range T2.globals.length).map (fun i:Nat=>(i:Int))).length;simp;exact i1,?_⟩
     show Alone _ _ (((List.range T2.globals.length).map (fun i:Nat=>(i:Int))).getD i 0)
     rw [s2]
     refine ⟨⟨by omega,by show (i:Int) < (firstNs _).length;rw [firstNs_len];omega⟩,?_,?_⟩
     · show (ndAt (firstNs _) (over (firstNs _) ((i:Int)).toNat)).kind=4
       rw [Int.toNat_natCast,firstNs_over i1,firstNs_ndAt i1]
     · rintro x ⟨hx,hx2⟩
       have hx2:((over (firstNs T2.globals.length) ((i:Int)).toNat:Nat):Int)=ρ (x:Int):=hx2
       rw [Int.toNat_natCast,firstNs_over i1] at hx2
       exact i2 x (by omega) (by omega) hx2.symm
   · refine L2.one ?_
     show (over (firstNs T1.globals.length) (entryI entry T1).toNat < T1.globals.length∧((over (firstNs T2.globals.length) (entryI entry T2).toNat:Nat):Int)=ρ ((over (firstNs T1.globals.length) (entryI entry T1).toNat:Nat):Int))
     rw [he]
     exact hR _ hent.1 hent.2
 · have:Covers ρ E ((List.range T1.globals.length).map (fun i:Nat=>(i:Int))).length ((List.range T2.globals.length).map (fun i:Nat=>(i:Int))).length:=by simpa using cov
   exact this
theorem newErr_other {T:Tab} (h:newErr T entry input heap1 every1=0) (hh:1≤heap2∧heap2≤1048576) (he:0≤every2):newErr T entry input heap2 every2=0:=by
 unfold newErr at h ⊢
 split at h
 · cases h
 rename_i c1
 rw [if_neg c1]
 split at h
 · cases h
 rename_i c2
 have c3:¬ (input.any (fun n=>!numB n)=true∨heap2 < 1∨heap2 > 1048576∨every2 < 0):=by
   rintro (e | e | e | e)
   · exact c2 (.inl e)
   · omega
   · omega
   · omega
 rw [if_neg c3]
 exact h
theorem new_full {T:Tab} (r:¬ (T.globals.length:Int)≤heap1):newM T entry input heap1 gens1 every1 = { newI T input heap1 gens1 every1 heap1.toNat with globals:=[],ended:=5}:=by unfold newM;rw [if_neg r]
theorem new_size {T:Tab}:(newM T entry input heap1 gens1 every1).st.size=heap1:=by unfold newM newI;split<;>rfl
end
end
section
open Go Go.W
def nobody:ByteArray:=⟨#[110,111,98,111,100,121,39,115]⟩
def nmS:List Gl→ByteArray→ByteArray
 | [],b=>b
 | g::l,b=>nmS l (if g.name.size≥b.size then b++g.name else b)
def rhoO (n:Nat) (g:Int):Int:=max (n - g) 0
def orderG (n:Nat) (g:Gl):Gl:=⟨g.name,g.arity,g.code.map (renIns (rhoO n))⟩
def nobG (T:Tab):Gl:=⟨nmS T.globals nobody,0,[⟨16,1,0⟩]⟩
def orderT (T:Tab):Tab:=⟨T.shapes,nobG T::T.globals.reverse.map (orderG T.globals.length)⟩
theorem ba_app_size (a b:ByteArray):(a++b).size=a.size+b.size:=by simp
theorem ba_app_list (a b:ByteArray):(a++b).data.toList=a.data.toList++b.data.toList:=by simp
theorem nmS_le:∀ (l:List Gl) (b:ByteArray),b.size≤(nmS l b).size:=by
 intro l
 induction l with
 | nil=>intro b;exact Nat.le_refl _
 | cons g l ih=>
   intro b
   unfold nmS
   refine Nat.le_trans ?_ (ih _)
   split
   · rw [ba_app_size];omega
   · exact Nat.le_refl _
theorem nmS_lt:∀ (l:List Gl) (b:ByteArray),0 < b.size→∀ g∈l,g.name.size < (nmS l b).size:=by
 intro l
 induction l with
 | nil=>intro b _ g h;cases h
 | cons x l ih=>
   intro b hb g hg
   unfold nmS
   rcases List.mem_cons.1 hg with rfl | hg
   · refine Nat.lt_of_lt_of_le ?_ (nmS_le l _)
     split
     · rw [ba_app_size];omega
     · omega
   · refine ih _ ?_ g hg
     split
     · rw [ba_app_size];omega
     · exact hb
theorem nmS_size:∀ (l:List Gl) (b:ByteArray),(nmS l b).size≤b.size+(l.map (·.name.size)).sum:=by
 intro l
 induction l with
 | nil=>intro b;simp [nmS]
 | cons g l ih=>
   intro b
   unfold nmS
   have:=ih (if g.name.size≥b.size then b++g.name else b)
   simp only [List.map_cons,List.sum_cons]
   split at this
   · rw [ba_app_size] at this;split<;>omega
   · split<;>omega
def Nice (b:ByteArray):Prop:=b.data.toList.all (fun c=>decide (32≤c.toNat)&&decide (c.toNat≤126))=true
theorem nmS_nice:∀ (l:List Gl) (b:ByteArray),Nice b→(∀ g∈l,Nice g.name)→Nice (nmS l b):=by
 intro l
 induction l with
 | nil=>intro b h _;exact h
 | cons g l ih=>
   intro b hb h
   unfold nmS
   refine ih _ ?_ (fun x hx=>h x (List.mem_cons_of_mem _ hx))
   split
   · unfold Nice
     rw [ba_app_list,List.all_append,Bool.and_eq_true]
     exact ⟨hb,h g List.mem_cons_self⟩
   · exact hb
section
variable {T:Tab}
theorem orderT_len:(orderT T).globals.length=T.globals.length+1:=by simp [orderT]
theorem orderT_gl {g:Int} (h0:0≤g) (h1:g < T.globals.length):(orderT T).gl (rhoO T.globals.length g)=orderG T.globals.length (T.gl g):=by
 obtain ⟨i,rfl⟩:∃ i:Nat,g=i:=⟨g.toNat,by omega⟩
 have hi:i < T.globals.length:=by omega
 have e:(rhoO T.globals.length (i:Int)).toNat=(T.globals.length - 1 - i)+1:=by unfold rhoO;omega
 unfold Tab.gl
 rw [e,Int.toNat_natCast]
 show List.getD (nobG T::T.globals.reverse.map (orderG T.globals.length)) _ _=_
 rw [List.getD_cons_succ,List.getD_eq_getElem?_getD,List.getD_eq_getElem?_getD,List.getElem?_map,List.getElem?_reverse (by omega),show T.globals.length - 1 - (T.globals.length - 1 - i)=i by omega,List.getElem?_eq_getElem hi]
 rfl
theorem order_sim:TabSim (rhoO T.globals.length) T (orderT T):=by
 refine ⟨fun g h0 h1=>?_,rfl,fun g h0 h1=>?_,fun g h0 h1=>?_⟩
 · rw [orderT_len];unfold rhoO;omega
 · rw [orderT_gl h0 h1];rfl
 · rw [orderT_gl h0 h1];rfl
theorem namesS_mk {hi:Int}:∀ (l:List (ByteArray×Int)) (seen:List ByteArray),(∀ p∈l,isNameS p.1=true∧p.1∉seen∧0≤p.2∧p.2≤hi)→(l.map (·.1)).Nodup→namesS hi seen l=true:=by
 intro l
 induction l with
 | nil=>intro seen _ _;rfl
 | cons x l ih=>
   intro seen h hd
   obtain ⟨s,n⟩:=x
   obtain ⟨a1,a2,a3,a4⟩:=h (s,n) List.mem_cons_self
   rw [List.map_cons,List.nodup_cons] at hd
   simp only [namesS,Bool.and_eq_true,decide_eq_true_eq]
   refine ⟨⟨⟨⟨a1,?_⟩,a3⟩,a4⟩,ih _ (fun p hp=>?_) hd.2⟩
   · rw [List.all_eq_true]
     intro t ht
     rw [decide_eq_true_eq]
     rintro rfl
     exact a2 ht
   · obtain ⟨b1,b2,b3,b4⟩:=h p (List.mem_cons_of_mem _ hp)
     refine ⟨b1,fun hm=>?_,b3,b4⟩
     rcases List.mem_cons.1 hm with e | hm
     · exact hd.1 (List.mem_map.2 ⟨p,hp,e⟩)
     · exact b2 hm
theorem codesS_mk {T':Tab}:∀ l:List Gl,(∀ g∈l,checkCodeS T' g=0)→codesS T' l=0:=by
 intro l
 induction l with
 | nil=>intro _;rfl
 | cons g l ih=>
   intro h
   unfold codesS
   rw [if_pos (h g List.mem_cons_self)]
   exact ih (fun x hx=>h x (List.mem_cons_of_mem _ hx))
theorem ren_ne {ρ:Int→Int} {x:Ins} (h:x.op≠2):renIns ρ x=x:=by unfold renIns;rw [if_neg h]
theorem ren_op (ρ:Int→Int) (x:Ins):(renIns ρ x).op=x.op∧(renIns ρ x).b=x.b:=by unfold renIns;split<;>exact ⟨rfl,rfl⟩
theorem order_stacked (ρ:Int→Int) (x:Ins) (d:Int):stackedS (orderT T) (renIns ρ x) d=stackedS T x d:=by
 by_cases h:x.op=2
 · have e:=(ren_op ρ x).1
   unfold stackedS
   rw [e,h]
   rfl
 · rw [ren_ne h];rfl
theorem order_numErr {len i:Nat} {x:Ins} (h:numErr T len i x=0):numErr (orderT T) len i (renIns (rhoO T.globals.length) x)=0:=by
 have hk:=numErr_ok h
 by_cases h2:x.op=2
 · have hc:=hk.c2 h2
   unfold numErr at h ⊢
   have e0:rhoO T.globals.length x.a=T.globals.length - x.a:=by unfold rhoO;omega
   have e:renIns (rhoO T.globals.length) x=⟨2,T.globals.length - x.a,x.b⟩:=by unfold renIns;rw [if_pos h2,h2,e0]
   rw [e]
   rw [h2] at h
   have f:formS 2=some (4,0):=rfl
   rw [f] at h
   show (match formS 2 with | none=>(172:Int) | some (a,b)=>if numberS (orderT T) len i (T.globals.length - x.a) a=172∨numberS (orderT T) len i x.b b=172 then 172 else if numberS (orderT T) len i (T.globals.length - x.a) a≠0∨numberS (orderT T) len i x.b b≠0 then 174 else 0)=0
   rw [f]
   have hb:numberS T len i x.b 0=numberS (orderT T) len i x.b 0:=rfl
   have ha:numberS (orderT T) len i (T.globals.length - x.a) 4=0:=by
     unfold numberS
     rw [if_neg (by decide),if_pos]
     unfold kindB
     simp only [Int.reduceEq,if_false,if_true,decide_eq_true_eq]
     rw [orderT_len]
     omega
   simp only at h ⊢
   rw [ha,← hb]
   split at h
   · cases h
   rename_i c1
   split at h
   · cases h
   rename_i c2
   rw [if_neg (fun hh=>c1 (.inr (hh.resolve_left (by decide)))),if_neg (fun hh=>c2 (.inr (hh.resolve_left (by decide))))]
 · rw [ren_ne h2]
   have hs:∀ n k,k≠4→numberS (orderT T) len i n k=numberS T len i n k:=by
     intro n k hk4
     unfold numberS kindB
     rw [if_neg hk4,if_neg hk4]
     rfl
   have hf:∀ a b,formS x.op=some (a,b)→a≠4∧b≠4:=by
     have:=hk.o1
     have:=hk.o2
     have key:∀ n:Int,1≤n→n≤17→n≠2→∀ a b,formS n=some (a,b)→a≠4∧b≠4:=by
       intro n n1 n2 n3 a b hf
       obtain ⟨m,rfl⟩:∃ m:Nat,n=m:=⟨n.toNat,by omega⟩
       have hm:m < 18:=by omega
       have:∀ m:Fin 18,(m:Nat)≠0→(m:Nat)≠2→(formS ((m:Nat):Int)).elim true (fun p=>decide (p.1≠4∧p.2≠4))=true:=by decide
       have:=this ⟨m,hm⟩ (by simp;omega) (by simp;omega)
       simp only [hf,Option.elim,decide_eq_true_eq] at this
       exact this
     exact key x.op hk.o1 hk.o2 h2
   unfold numErr at h ⊢
   cases he:formS x.op with
   | none=>rw [he] at h;cases h
   | some p=>
     obtain ⟨a,b⟩:=p
     obtain ⟨f1,f2⟩:=hf a b he
     rw [he] at h
     simp only at h ⊢
     rw [hs _ _ f1,hs _ _ f2]
     exact h
theorem order_goes (ρ:Int→Int) (x:Ins):goesOn (renIns ρ x)↔goesOn x:=by unfold goesOn;rw [(ren_op ρ x).1]
theorem order_target (ρ:Int→Int) (x:Ins):targetS (renIns ρ x)=targetS x:=by
 by_cases h:x.op=2
 · unfold targetS;rw [(ren_op ρ x).1,h];rfl
 · rw [ren_ne h]
theorem order_step (ρ:Int→Int) (D:List Int) (i:Nat) (x:Ins):depthStep (orderT T) D i (renIns ρ x)=depthStep T D i x:=by
 unfold depthStep
 rw [order_stacked,order_target,(ren_op ρ x).1]
theorem order_depthErr (ρ:Int→Int) (len i:Nat) (x:Ins) (D:List Int):depthErr (orderT T) len i (renIns ρ x) D=depthErr T len i x D:=by
 unfold depthErr
 simp only [order_stacked,order_target,order_step,order_goes]
theorem order_numLoop {len:Nat}:∀ (l:List Ins) (i:Nat),numLoop T len i l=0→numLoop (orderT T) len i (l.map (renIns (rhoO T.globals.length)))=0:=by
 intro l
 induction l with
 | nil=>intro i _;rfl
 | cons x l ih=>
   intro i h
   unfold numLoop at h
   split at h
   · rename_i hx
     rw [List.map_cons]
     unfold numLoop
     rw [if_pos (order_numErr hx)]
     exact ih _ h
   · rename_i hx;exact absurd h hx
theorem order_depthLoop (ρ:Int→Int) {len:Nat}:∀ (l:List Ins) (i:Nat) (D:List Int),depthLoop (orderT T) len i (l.map (renIns ρ)) D=depthLoop T len i l D:=by
 intro l
 induction l with
 | nil=>intro i D;rfl
 | cons x l ih=>
   intro i D
   rw [List.map_cons]
   unfold depthLoop
   rw [order_depthErr,order_step,ih]
theorem order_code {g:Gl} (h:checkCodeS T g=0):checkCodeS (orderT T) (orderG T.globals.length g)=0:=by
 unfold checkCodeS at h ⊢
 split at h
 · rename_i h1;exact absurd h h1
 rename_i h1
 split at h
 · cases h
 rename_i h2
 have h1:=order_numLoop g.code 0 (Classical.not_not.1 h1)
 have hl:(orderG T.globals.length g).code.length=g.code.length:=by simp [orderG]
 rw [hl]
 have h1':numLoop (orderT T) g.code.length 0 (orderG T.globals.length g).code=0:=h1
 rw [if_neg (fun hh=>hh h1'),if_neg h2]
 have hs:startD (orderG T.globals.length g)=startD g:=by unfold startD;rw [hl];rfl
 rw [hs]
 have:=order_depthLoop (T:=T) (rhoO T.globals.length) (len:=g.code.length) g.code 0 (startD g)
 exact this.trans h
theorem nob_code:checkCodeS (orderT T) (nobG T)=0:=by
 have h1:numLoop (orderT T) 1 0 [⟨16,1,0⟩]=0:=rfl
 have h2:depthLoop (orderT T) 1 0 [⟨16,1,0⟩] [1]=0:=rfl
 exact h2
theorem sum_rev (l:List Nat):l.reverse.sum=l.sum:=by simp
theorem order_check (h:checkS T=0) (hn:T.globals.length < 2000) (hnames:(T.globals.map (·.name.size)).sum≤2000) (hcodes:(T.globals.map (·.code.length)).sum < 200000):checkS (orderT T)=0:=by
 unfold checkS at h
 split at h
 · cases h
 rename_i h1
 split at h
 · cases h
 rename_i h2
 split at h
 · cases h
 rename_i h3
 split at h
 · cases h
 rename_i h4
 have h1:greatS T=false:=by simpa using h1
 have h2:namesS 8 [] (shPairs T)=true:=by simpa using h2
 have h4:namesS 24 [] (glPairs T)=true:=by simpa using h4
 have h5:=codesS_ok _ h
 obtain ⟨n1,n2⟩:=namesS_ok _ _ h4
 have hnm:(glPairs T).map (·.1)=T.globals.map (·.name):=by simp [glPairs,Function.comp_def]
 rw [hnm] at n2
 have hg:∀ g∈T.globals,isNameS g.name=true∧0≤g.arity∧g.arity≤24:=fun g hg=>by
   have:=n1 (g.name,g.arity) (List.mem_map.2 ⟨g,hg,rfl⟩)
   exact ⟨this.1,this.2.2.1,this.2.2.2⟩
 have k1:greatS (orderT T)=false:=by
   unfold greatS at h1 ⊢
   simp only [Bool.or_eq_false_iff,decide_eq_false_iff_not] at h1 ⊢
   obtain ⟨⟨⟨a1,a2⟩,a3⟩,a4⟩:=h1
   refine ⟨⟨⟨?_,a2⟩,by rw [orderT_len];omega⟩,?_⟩
   · rw [List.any_eq_false] at a1 ⊢
     intro g hgm
     rcases List.mem_cons.1 hgm with rfl | hgm
     · exact (by decide:¬ decide ((1:Nat) > 8000)=true)
     · obtain ⟨g0,hg0,rfl⟩:=List.mem_map.1 hgm
       have:=a1 g0 (List.mem_reverse.1 hg0)
       simpa [orderG] using this
   · have e:((orderT T).globals.map (·.code.length)).sum=1+(T.globals.map (·.code.length)).sum:=by
       show (((nobG T).code.length)::((T.globals.reverse.map (orderG T.globals.length)).map (·.code.length))).sum=_
       rw [List.map_map,List.sum_cons]
       have:T.globals.reverse.map ((fun g:Gl=>g.code.length) ∘ orderG T.globals.length)=(T.globals.map (·.code.length)).reverse:=by
         rw [← List.map_reverse]
         apply List.map_congr_left
         intro g _
         simp [orderG]
       rw [this,sum_rev]
       rfl
     rw [e];omega
 have hz:nobody.size=8:=rfl
 have hsz:=nmS_size T.globals nobody
 have hlt:=nmS_lt T.globals nobody (by rw [hz];omega)
 have k4:namesS 24 [] (glPairs (orderT T))=true:=by
   refine namesS_mk _ _ (fun p hp=>?_) ?_
   · obtain ⟨g,hgm,rfl⟩:=List.mem_map.1 hp
     rcases List.mem_cons.1 hgm with rfl | hgm
     · refine ⟨?_,(by simp),Int.le_refl _,(by show (0:Int)≤24;decide)⟩
       have hlow:=nmS_le T.globals nobody
       have hnice:Nice (nmS T.globals nobody):=nmS_nice _ _ (by unfold Nice;decide) (fun g hgm=>by
         have:=(hg g hgm).1
         unfold isNameS at this
         simp only [Bool.and_eq_true] at this
         exact this.1.1)
       unfold isNameS
       simp only [Bool.and_eq_true,decide_eq_true_eq]
       have hl:(nobG T).name.data.toList.length=(nmS T.globals nobody).size:=Array.length_toList
       refine ⟨⟨?_,?_⟩,?_⟩
       · unfold Nice at hnice
         exact hnice
       · show 1≤(nobG T).name.data.toList.length;omega
       · show (nobG T).name.data.toList.length≤4096;omega
     · obtain ⟨g0,hg0,rfl⟩:=List.mem_map.1 hgm
       obtain ⟨a1,a2,a3⟩:=hg g0 (List.mem_reverse.1 hg0)
       exact ⟨a1,(by simp),a2,a3⟩
   · have e:(glPairs (orderT T)).map (·.1)=nmS T.globals nobody::(T.globals.map (·.name)).reverse:=by
       show ((orderT T).globals.map fun g=>(g.name,g.arity)).map (·.1)=_
       rw [List.map_map]
       show (nobG T).name::(T.globals.reverse.map (orderG T.globals.length)).map _=_
       rw [List.map_map,← List.map_reverse]
       rfl
     rw [e,List.nodup_cons]
     refine ⟨fun hm=>?_,(List.reverse_perm _).nodup_iff.2 n2⟩
     obtain ⟨g,hgm,hge⟩:=List.mem_map.1 (List.mem_reverse.1 hm)
     have:=hlt g hgm
     rw [hge] at this
     omega
 unfold checkS
 rw [if_neg (by rw [k1];decide),if_neg (by show ¬ namesS 8 [] (shPairs T)=false;rw [h2];decide),if_neg (by show ¬ ¬ T.shapes.take 7=givenS;exact h3),if_neg (by rw [k4];decide)]
 refine codesS_mk _ (fun g hgm=>?_)
 rcases List.mem_cons.1 hgm with rfl | hgm
 · exact nob_code
 · obtain ⟨g0,hg0,rfl⟩:=List.mem_map.1 hgm
   exact order_code (h5 g0 (List.mem_reverse.1 hg0))
theorem entryS_find {e:ByteArray}:∀ (l:List Gl) (k m:Nat) (hm:m < l.length),l[m].name=e→(∀ m' (h:m' < l.length),m' < m→l[m'].name≠e)→entryS e l k=some (k+m):=by
 intro l
 induction l with
 | nil=>intro k m hm;simp at hm
 | cons g l ih=>
   intro k m hm h1 h2
   unfold entryS
   cases m with
   | zero=>rw [if_pos (by simpa using h1)];rfl
   | succ m=>
     have:=h2 0 (by simp) (by omega)
     rw [if_neg (by simpa using this),ih (k+1) m (by simpa using hm) (by simpa using h1) (fun m' h hlt=>by have:=h2 (m'+1) (by simpa using h) (by omega);simpa using this)]
     congr 1;omega
theorem entryS_some {e:ByteArray}:∀ (l:List Gl) (k j:Nat),entryS e l k=some j→∃ m,∃ hm:m < l.length,j=k+m∧l[m].name=e:=by
 intro l
 induction l with
 | nil=>intro k j h;cases h
 | cons g l ih=>
   intro k j h
   unfold entryS at h
   split at h
   · rename_i hg
     cases h
     exact ⟨0,by simp,rfl,by simpa using hg⟩
   · obtain ⟨m,hm,e1,e2⟩:=ih _ _ h
     exact ⟨m+1,by simpa using hm,by omega,by simpa using e2⟩
instance:Inhabited Gl:=⟨⟨⟨#[]⟩,0,[]⟩⟩
theorem order_entry {entry:ByteArray} (hc:checkS T=0) (h:entryS entry T.globals 0≠none):∃ j:Nat,j < T.globals.length∧entryS entry T.globals 0=some j∧entryS entry (orderT T).globals 0=some (T.globals.length - j):=by
 have hnd:=(check_ok hc).2.1
 cases he:entryS entry T.globals 0 with
 | none=>exact absurd he h
 | some j=>
   obtain ⟨m,hm,e1,e2⟩:=entryS_some _ _ _ he
   obtain rfl:j=m:=by omega
   refine ⟨j,hm,rfl,?_⟩
   have hz:nobody.size=8:=rfl
   have hlt:=nmS_lt T.globals nobody (by rw [hz];omega)
   have hat:∀ i,i < T.globals.length→∃ h:(T.globals.length - i) < (orderT T).globals.length,((orderT T).globals[T.globals.length - i]'h).name=T.globals[i]!.name:=by
     intro i hi
     refine ⟨by rw [orderT_len];omega,?_⟩
     have e:T.globals.length - i=(T.globals.length - 1 - i)+1:=by omega
     have e3:(orderT T).globals[T.globals.length - i]? = some (orderG T.globals.length T.globals[i]):=by
       rw [e]
       show (nobG T::T.globals.reverse.map (orderG T.globals.length))[_+1]? = _
       rw [List.getElem?_cons_succ,List.getElem?_map,List.getElem?_reverse (by omega),show T.globals.length - 1 - (T.globals.length - 1 - i)=i by omega,List.getElem?_eq_getElem hi]
       rfl
     rw [List.getElem?_eq_getElem (by rw [orderT_len];omega)] at e3
     rw [Option.some.inj e3,getElem!_pos T.globals i hi]
     rfl
   have hin:∀ i,i < T.globals.length→i≠j→T.globals[i]!.name≠entry:=by
     intro i hi hne hh
     rw [getElem!_pos T.globals i hi] at hh
     rw [← e2] at hh
     have h1:(T.globals.map (·.name))[i]'(by simpa using hi)=(T.globals.map (·.name))[j]'(by simpa using hm):=by simpa using hh
     exact hne ((List.getElem_inj hnd).1 h1)
   obtain ⟨b1,b2⟩:=hat j hm
   have key:=entryS_find (e:=entry) (orderT T).globals 0 (T.globals.length - j) b1 (by rw [b2,getElem!_pos T.globals j hm];exact e2) (fun m' h hlt'=>by
     cases m' with
     | zero=>
       show (nmS T.globals nobody)≠entry
       intro hh
       have:=hlt T.globals[j] (List.getElem_mem hm)
       rw [e2,hh] at this
       omega
     | succ m'=>
       have hm':m'+1≤T.globals.length:=by rw [orderT_len] at h;omega
       have hlt2:m'+1 < T.globals.length - j:=hlt'
       obtain ⟨c1,c2⟩:=hat (T.globals.length - (m'+1)) (by omega)
       have e4:T.globals.length - (T.globals.length - (m'+1))=m'+1:=by omega
       simp only [e4] at c2
       rw [c2]
       exact hin _ (by omega) (by omega))
   rw [key,Nat.zero_add]
section
variable {entry:ByteArray} {input:List Int} {heap every:Int} {gens:Bool}
theorem order_new (h:newErr T entry input heap every=0) (hh:heap < 1048576) (hn:T.globals.length < 2000) (hnames:(T.globals.map (·.name.size)).sum≤2000) (hcodes:(T.globals.map (·.code.length)).sum < 200000) :
   newErr (orderT T) entry input (heap+1) every=0∧entryI entry (orderT T)=rhoO T.globals.length (entryI entry T):=by
 have hf:=new_facts h
 have hen:entryS entry T.globals 0≠none:=by
   have h':=h
   unfold newErr at h'
   split at h'
   · cases h'
   split at h'
   · cases h'
   split at h'
   · rename_i hx;exact absurd h' hx
   split at h'
   · cases h'
   · rename_i hx;exact hx
 obtain ⟨j,hj,e1,e2⟩:=order_entry hf.chk hen
 have hc:=order_check hf.chk hn hnames hcodes
 refine ⟨?_,?_⟩
 · have h2:=newErr_other (heap2:=heap+1) (every2:=every) h (by have:=hf.hp;omega) hf.ev
   unfold newErr at h2 ⊢
   split at h2
   · cases h2
   rename_i c1
   split at h2
   · cases h2
   rename_i c2
   rw [if_neg c1,if_neg c2,if_neg (fun hx=>hx hc),if_neg (by rw [e2];simp)]
 · unfold entryI
   rw [e1,e2]
   unfold rhoO
   simp only
   omega
theorem order_same (h:newErr T entry input heap every=0) (h2:newErr (orderT T) entry input (heap+1) every=0) (he:entryI entry (orderT T)=rhoO T.globals.length (entryI entry T)) (k:Nat) :
   let x:=(newM T entry input heap gens every).steps' k
   let y:=(newM (orderT T) entry input (heap+1) gens every).steps' k
   outKind y=outKind x∧y.stuck=x.stuck∧y.steps=x.steps∧y.told=x.told:=by
 intro x y
 by_cases r:(T.globals.length:Int)≤heap
 · have ht:Twin (rhoO T.globals.length) [0] 0 (newM T entry input heap gens every) (newM (orderT T) entry input (heap+1) gens every):=by
     refine new_twin h h2 r (by rw [orderT_len];omega) order_sim (fun g _=>by unfold rhoO;omega) (fun g g' a b c d e=>by unfold rhoO at e;omega) he (fun i hi=>?_) ⟨fun j hj=>?_,.inr ⟨0,rfl⟩⟩ (by simp)
     · obtain rfl:=List.mem_singleton.1 hi
       refine ⟨by rw [orderT_len];omega,fun g a b=>by unfold rhoO;omega⟩
     · rw [orderT_len] at hj
       by_cases h0:j=0
       · exact .inl (by simp [h0])
       · exact .inr ⟨T.globals.length - j,by omega,by unfold rhoO;omega⟩
   have hp:Pair (rhoO T.globals.length) [0] (0+(k:Int)) x y:=Pair.steps (.inl ht) (by rw [new_size,new_size];simp) k
   have hl:=hp.look
   exact ⟨by unfold outKind;rw [hl.ended],hl.stuck,hl.steps,hl.told⟩
 · have r2:¬ ((orderT T).globals.length:Int)≤heap+1:=by rw [orderT_len];omega
   have ex:x=newM T entry input heap gens every:=steps_end' (i:=0) (j:=k) (show (newM T entry input heap gens every).ended≠0 by rw [new_full r];exact (by decide:(5:Int)≠0)) (Nat.zero_le _)
   have ey:y=newM (orderT T) entry input (heap+1) gens every:=steps_end' (i:=0) (j:=k) (show (newM (orderT T) entry input (heap+1) gens every).ended≠0 by rw [new_full r2];exact (by decide:(5:Int)≠0)) (Nat.zero_le _)
   rw [ex,ey,new_full r,new_full r2]
   exact ⟨rfl,rfl,rfl,rfl⟩
end
end
end
end Go.Proofs.YtcllploggibicaaGreat